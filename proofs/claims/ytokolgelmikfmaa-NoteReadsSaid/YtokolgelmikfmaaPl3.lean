/-
  Plain facts on numbers that bits are: what reading them gives.
-/
import Derived.Test.YtokolgelmikfmaaPl2
namespace Go.Proofs.Ytokolgelmikfmaa.Pl

/-- The number that bits are. -/
def val (L : List Bool) : Nat := L.foldl (fun a b => 2 * a + b.toNat) 0
theorem foldl_val (L : List Bool) (a : Nat) : L.foldl (fun a b => 2 * a + b.toNat) a = a * 2 ^ L.length + val L := by
  induction L generalizing a with
  | nil => simp [val]
  | cons b l ih =>
    simp only [List.foldl_cons, List.length_cons, val]
    rw [ih, ih (2 * 0 + b.toNat), Nat.pow_succ, Nat.add_mul]
    simp only [Nat.mul_zero, Nat.zero_add]
    rw [Nat.mul_comm 2 a, Nat.mul_assoc, Nat.mul_comm 2]
    omega
theorem val_append (L M : List Bool) : val (L ++ M) = val L * 2 ^ M.length + val M := by
  rw [val, List.foldl_append, foldl_val]
  rfl
theorem val_nil : val [] = 0 := rfl
theorem val_one (b : Bool) : val [b] = b.toNat := by simp [val]
theorem val_snoc (L : List Bool) (b : Bool) : val (L ++ [b]) = 2 * val L + b.toNat := by
  rw [val_append, val_one]; simp; omega
theorem val_lt (L : List Bool) : val L < 2 ^ L.length := by
  induction L with
  | nil => simp [val]
  | cons b l ih =>
    rw [show b :: l = [b] ++ l from rfl, val_append, List.length_append, Nat.pow_add, val_one]
    have : b.toNat ≤ 1 := Bool.toNat_le b
    have h2 : b.toNat * 2 ^ l.length ≤ 1 * 2 ^ l.length := Nat.mul_le_mul_right _ this
    simp only [List.length_cons, List.length_nil, Nat.zero_add, Nat.pow_one]
    omega

theorem nbits_succ (v w : Nat) : nbits v (w + 1) = nbits (v / 2) w ++ [v.testBit 0] := by
  have := nbits_add v w 1
  rw [Nat.pow_one] at this
  rw [this]
  congr 1
theorem val_nbits (v w : Nat) : val (nbits v w) = v % 2 ^ w := by
  induction w generalizing v with
  | zero => simp [nbits, val, Nat.mod_one]
  | succ w ih =>
    rw [nbits_succ, val_snoc, ih, Nat.pow_succ]
    have h1 : v % (2 ^ w * 2) = v % 2 + 2 * (v / 2 % 2 ^ w) := by rw [Nat.mul_comm, Nat.mod_mul]
    have h2 : (v.testBit 0).toNat = v % 2 := by
      rw [Nat.testBit_zero]
      rcases Nat.mod_two_eq_zero_or_one v with h | h <;> rw [h] <;> rfl
    rw [h1, h2]; omega

/-- The first n bits of a byte, as a number. -/
theorem topb_nbits {b : Int} (n : Nat) (hn : n ≤ 8) : topb b n = nbits (b.toNat / 2 ^ (8 - n)) n := by
  apply List.ext_getElem?
  intro j
  by_cases h : j < n
  · rw [nbits_get _ _ _ h, shr_testBit]
    simp only [topb, List.getElem?_map, List.getElem?_range h, Option.map_some]
    congr 2
    omega
  · rw [List.getElem?_eq_none (by rw [topb_length]; omega), List.getElem?_eq_none (by rw [nbits_length]; omega)]
theorem val_topb {b : Int} (h : 0 ≤ b ∧ b < 256) (n : Nat) (hn : n ≤ 8) : val (topb b n) = b.toNat / 2 ^ (8 - n) := by
  rw [topb_nbits n hn, val_nbits]
  apply Nat.mod_eq_of_lt
  apply Nat.div_lt_of_lt_mul
  rw [← Nat.pow_add, show 8 - n + n = 8 from by omega]
  omega

/-- The bits from a place on, so many. -/
def sub (L : List Bool) (p n : Nat) : List Bool := (L.drop p).take n
theorem sub_length {L : List Bool} {p n : Nat} (h : p + n ≤ L.length) : (sub L p n).length = n := by simp [sub]; omega
theorem sub_get {L : List Bool} {p n j : Nat} (h : p + n ≤ L.length) (hj : j < n) : (sub L p n)[j]? = some (L.getD (p + j) false) := by
  simp only [sub]
  rw [List.getElem?_take, if_pos hj, List.getElem?_drop, List.getD_eq_getElem?_getD, List.getElem?_eq_getElem (by omega)]
  rfl
theorem sub_zero (L : List Bool) (p : Nat) : sub L p 0 = [] := by simp [sub]
theorem sub_add (L : List Bool) (p a b : Nat) : sub L p (a + b) = sub L p a ++ sub L (p + a) b := by
  simp only [sub]
  rw [← List.drop_drop, List.take_add]
theorem topb_sub {B : List Int} {L : List Bool} {p n : Nat} {b : Int} (hp : Packs B L) (hb : ∀ j, j < 8 → b.toNat.testBit (7 - j) = bitAt B (p + j)) (hn : n ≤ 8) (h : p + n ≤ L.length) : topb b n = sub L p n := by
  apply List.ext_getElem?
  intro j
  by_cases hj : j < n
  · rw [sub_get h hj, ← hp.bit, ← hb j (by omega)]
    simp only [topb, List.getElem?_map, List.getElem?_range hj, Option.map_some]
  · rw [List.getElem?_eq_none (by rw [topb_length]; omega), List.getElem?_eq_none (by rw [sub_length h]; omega)]

/-- Bits read on behind a number of 64 bits. -/
theorem or_u64 {a b : Nat} (ha : a < 18446744073709551616) (hb : b < 18446744073709551616) : bits .or .u64 (a : Int) (b : Int) = ((a ||| b : Nat) : Int) := by
  refine (bits_nat .u64 64 (by decide) (fun n h0 h1 => ?_) a b (by simpa using ha) (by simpa using hb)).2
  rw [wrap_u64]
  have : (2 : Int) ^ 64 = 18446744073709551616 := by decide
  omega
theorem push_bits {v k n : Nat} {x : Nat} (hv : v < 2 ^ k) (hx : x < 2 ^ n) (hk : k + n ≤ 64) : bits .or .u64 (IntKind.u64.wrap ((v : Int) * 2 ^ n)) (x : Int) = ((v * 2 ^ n + x : Nat) : Int) := by
  have h1 : v * 2 ^ n + 2 ^ n ≤ 2 ^ (k + n) := by
    rw [Nat.pow_add, ← Nat.succ_mul]
    exact Nat.mul_le_mul_right _ hv
  have h2 : 2 ^ (k + n) ≤ 2 ^ 64 := Nat.pow_le_pow_right (by omega) hk
  have h3 : (2 : Nat) ^ 64 = 18446744073709551616 := by decide
  rw [nat_mul, wrap_u64]
  have e : ((v * 2 ^ n : Nat) : Int) % 18446744073709551616 = ((v * 2 ^ n : Nat) : Int) := by
    generalize v * 2 ^ n = q at *
    omega
  rw [e, or_u64 (by omega) (by omega), Nat.mul_comm v, Nat.two_pow_add_eq_or_of_lt hx]

theorem wrap_u64_small {x : Int} (h : 0 ≤ x ∧ x < 256) : IntKind.u64.wrap x = x := by rw [wrap_u64]; omega
theorem push8 {S : List Bool} {x : Int} (h : 0 ≤ x ∧ x < 256) (hS : S.length + 8 ≤ 64) : bits .or .u64 (IntKind.u64.wrap ((val S : Int) * 256)) (IntKind.u64.wrap x) = (val (S ++ topb x 8) : Nat) := by
  have := push_bits (v := val S) (k := S.length) (n := 8) (x := x.toNat) (val_lt S) (by omega) hS
  rw [wrap_u64_small h]
  rw [show ((x.toNat : Nat) : Int) = x from by omega, show ((2 : Int) ^ 8) = 256 from by decide] at this
  rw [this, val_append, val_topb h 8 (by omega), topb_length]
  simp
theorem push_few {S : List Bool} {x : Int} {r : Nat} (h : 0 ≤ x ∧ x < 256) (hr : r ≤ 8) (hS : S.length + r ≤ 64) : bits .or .u64 (IntKind.u64.wrap ((val S : Int) * 2 ^ r)) (IntKind.u64.wrap (x / 2 ^ (8 - r))) = (val (S ++ topb x r) : Nat) := by
  have hd := div_byte h (8 - r)
  have e : x.toNat / 2 ^ (8 - r) = val (topb x r) := (val_topb h r hr).symm
  have hlt := val_lt (topb x r)
  rw [topb_length] at hlt
  rw [div_nat h.1, wrap_u64_small hd, e]
  rw [push_bits (v := val S) (k := S.length) (n := r) (val_lt S) hlt hS, val_append, topb_length]

end Go.Proofs.Ytokolgelmikfmaa.Pl
