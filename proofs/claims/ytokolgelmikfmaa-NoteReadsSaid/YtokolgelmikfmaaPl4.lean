/-
  Plain facts on bits as ones and noughts, one in a byte.
-/
import Derived.Test.YtokolgelmikfmaaPl3
namespace Go.Proofs.Ytokolgelmikfmaa.Pl

/-- One or nought. -/
def bi (b : Bool) : Int := if b then 1 else 0
theorem bi_range (b : Bool) : 0 ≤ bi b ∧ bi b ≤ 1 := by cases b <;> decide
theorem bi_toNat (b : Bool) : (bi b).toNat = b.toNat := by cases b <;> rfl
/-- Bits, one in a byte. -/
def ones (L : List Bool) : List Int := L.map bi
theorem ones_length (L : List Bool) : (ones L).length = L.length := by simp [ones]
theorem ones_append (L M : List Bool) : ones (L ++ M) = ones L ++ ones M := by simp [ones]
theorem ones_getD (L : List Bool) (i : Nat) : (ones L).getD i 0 = bi (L.getD i false) := by
  simp only [ones, List.getD_eq_getElem?_getD, List.getElem?_map]
  cases L[i]? <;> rfl

/-- The bit that is shifted to the end. -/
theorem and_one {x : Int} (h : 0 ≤ x ∧ x < 256) : bits .and .u8 x 1 = bi (x.toNat.testBit 0) := by
  rw [and_u8 h (by decide)]
  have : (1 : Int).toNat = 1 := rfl
  rw [this, Nat.and_one_is_mod, Nat.testBit_zero]
  rcases Nat.mod_two_eq_zero_or_one x.toNat with e | e <;> rw [e] <;> rfl
theorem bit_of {B : List Int} (hB : Byts B) (p : Nat) : bits .and .u8 (B.getD (p / 8) 0 / 2 ^ (7 - p % 8)) 1 = bi (bitAt B p) := by
  have hb := byts_get hB (p / 8)
  rw [div_nat hb.1, and_one (div_byte hb _), Int.toNat_natCast, shr_testBit, Nat.zero_add]
  rfl

theorem take_snoc {L : List Bool} {k : Nat} (h : k < L.length) : L.take (k + 1) = L.take k ++ [L.getD k false] := by
  rw [List.take_add_one, List.getElem?_eq_getElem h, List.getD_eq_getElem?_getD, List.getElem?_eq_getElem h]
  rfl

theorem bi_shift (b : Bool) (m j : Nat) : (b.toNat * 2 ^ m % 256).testBit j = (b && decide (j < 8) && decide (j = m)) := by
  rw [shl_testBit]
  cases b
  · simp
  · by_cases h1 : j < 8
    · by_cases h2 : j = m
      · subst h2; simp [h1]
      · by_cases h3 : m ≤ j
        · have : Nat.testBit 1 (j - m) = false := Nat.testBit_lt_two_pow (by
            have : 2 ^ 1 ≤ 2 ^ (j - m) := Nat.pow_le_pow_right (by omega) (by omega)
            omega)
          simp [h1, h2, this]
        · simp [h1, h2, h3]
    · simp [h1]

/-- A number's bit, shifted to the end. -/
theorem num_bit {v : Nat} (hv : U64 v) (r : Nat) : bits .and .u64 ((v : Int) / 2 ^ r) 1 % 256 = bi (v.testBit r) := by
  have h1 : v / 2 ^ r ≤ v := Nat.div_le_self _ _
  have hv2 := hv.2
  rw [nat_div]
  have h2 : v / 2 ^ r < 2 ^ 64 := by
    have : (2 : Nat) ^ 64 = 18446744073709551616 := by decide
    omega
  have := (bits_nat .u64 64 (by decide) (fun n h0 h1 => by
    rw [wrap_u64]
    have : (2 : Int) ^ 64 = 18446744073709551616 := by decide
    omega) (v / 2 ^ r) 1 h2 (by decide)).1
  rw [show ((1 : Nat) : Int) = 1 from rfl] at this
  rw [this, Nat.and_one_is_mod]
  have e : v.testBit r = (v / 2 ^ r).testBit 0 := by rw [shr_testBit, Nat.zero_add]
  rw [e, Nat.testBit_zero]
  rcases Nat.mod_two_eq_zero_or_one (v / 2 ^ r) with h | h <;> rw [h] <;> rfl
theorem ones_snoc (X : List Bool) (b : Bool) : ones (X ++ [b]) = ones X ++ [bi b] := by rw [ones_append]; rfl
theorem nbits_step {v W r : Nat} (h : r + 1 ≤ W) : nbits (v / 2 ^ r) (W - r) = nbits (v / 2 ^ (r + 1)) (W - (r + 1)) ++ [v.testBit r] := by
  rw [show W - r = (W - (r + 1)) + 1 from by omega, nbits_succ, Nat.div_div_eq_div_mul, ← Nat.pow_succ, shr_testBit, Nat.zero_add]

/-- One bit more, at a byte's beginning. -/
theorem of_new {B : List Int} {L : List Bool} {k : Nat} (h : Packs B (L.take k)) (hk : k < L.length) (h8 : k % 8 = 0) :
    Packs ((B ++ [0]).set (k / 8) (bits .or .u8 0 (bi (L.getD k false) * 2 ^ 7 % 256))) (L.take (k + 1)) := by
  have hl : (L.take k).length = k := by simp; omega
  have hB : B.length = k / 8 := by have := h.len; rw [hl] at this; omega
  have e : (B ++ [0]).set (k / 8) (bits .or .u8 0 (bi (L.getD k false) * 2 ^ 7 % 256)) = B ++ [bits .or .u8 0 (bi (L.getD k false) * 2 ^ 7 % 256)] := by
    rw [List.set_append_right _ _ (by omega), show k / 8 - B.length = 0 from by omega]
    rfl
  rw [e, take_snoc hk]
  refine lay_new h (by rw [hl]; exact h8) (by simp) (by simp) ?_
  generalize L.getD k false = b
  cases b
  · exact ⟨by decide, by decide⟩
  · exact ⟨by decide, by decide⟩

/-- One bit more, inside a byte. -/
theorem of_in {B : List Int} {L : List Bool} {k : Nat} (h : Packs B (L.take k)) (hk : k < L.length) (h8 : k % 8 ≠ 0) :
    Packs (B.set (k / 8) (bits .or .u8 (B.getD (k / 8) 0) (bi (L.getD k false) * 2 ^ (7 - k % 8) % 256))) (L.take (k + 1)) := by
  have hl : (L.take k).length = k := by simp; omega
  have hB : B.length = k / 8 + 1 := by have := h.len; rw [hl] at this; omega
  have hb := byts_get h.byts (k / 8)
  have hbi := bi_range (L.getD k false)
  rw [take_snoc hk, shl_nat hbi.1, bi_toNat, or_u8 hb ⟨by omega, by omega⟩, Int.toNat_natCast]
  have := lay_in (T := [L.getD k false]) (c := (((B.getD (k / 8) 0).toNat ||| (L.getD k false).toNat * 2 ^ (7 - k % 8) % 256 : Nat) : Int)) h (by rw [hl]; exact h8) (by rw [hl]; simp; omega)
    ⟨by omega, by have := or_lt256 (a := (B.getD (k / 8) 0).toNat) (b := (L.getD k false).toNat * 2 ^ (7 - k % 8) % 256) (by omega) (by omega); omega⟩ (fun j hj => ?_)
  · rwa [show B.length - 1 = k / 8 from by omega] at this
  · rw [hl, Int.toNat_natCast, Nat.testBit_or, bi_shift, show B.length - 1 = k / 8 from by omega]
    have e : (B.getD (k / 8) 0).toNat.testBit (7 - j) = bitAt B (8 * (k / 8) + j) := by
      unfold bitAt
      rw [show (8 * (k / 8) + j) / 8 = k / 8 from by omega, show (8 * (k / 8) + j) % 8 = j from by omega]
    rw [e]
    by_cases h1 : j < k % 8
    · rw [if_pos h1, decide_eq_false (by omega : ¬ 7 - j = 7 - k % 8)]
      simp
    · rw [if_neg h1]
      have e2 : bitAt B (8 * (k / 8) + j) = false := by rw [h.bit, getD_far _ _ (by omega)]
      rw [e2]
      by_cases h2 : j = k % 8
      · subst h2
        simp
        omega
      · rw [decide_eq_false (by omega : ¬ 7 - j = 7 - k % 8), getD_far [L.getD k false] false (by simp; omega)]
        simp

end Go.Proofs.Ytokolgelmikfmaa.Pl
