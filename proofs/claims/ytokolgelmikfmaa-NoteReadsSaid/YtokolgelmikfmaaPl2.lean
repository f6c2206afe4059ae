/-
  Plain facts on bytes as the walks spell them: Int numbers, the model's bit operations.
-/
import Derived.Test.YtokolgelmikfmaaPl
import Derived.Laws.BitsLemmas
import Derived.Laws.BitsAllLaws
namespace Go.Proofs.Ytokolgelmikfmaa.Pl

theorem or_u8 {a b : Int} (ha : 0 ≤ a ∧ a < 256) (hb : 0 ≤ b ∧ b < 256) : bits .or .u8 a b = ((a.toNat ||| b.toNat : Nat) : Int) := by
  obtain ⟨x, rfl⟩ := Int.eq_ofNat_of_zero_le ha.1
  obtain ⟨y, rfl⟩ := Int.eq_ofNat_of_zero_le hb.1
  exact (bits_nat .u8 8 (by decide) wraps_u8 x y (by simpa using (by omega : x < 256)) (by simpa using (by omega : y < 256))).2
theorem and_u8 {a b : Int} (ha : 0 ≤ a ∧ a < 256) (hb : 0 ≤ b ∧ b < 256) : bits .and .u8 a b = ((a.toNat &&& b.toNat : Nat) : Int) := by
  obtain ⟨x, rfl⟩ := Int.eq_ofNat_of_zero_le ha.1
  obtain ⟨y, rfl⟩ := Int.eq_ofNat_of_zero_le hb.1
  exact (bits_nat .u8 8 (by decide) wraps_u8 x y (by simpa using (by omega : x < 256)) (by simpa using (by omega : y < 256))).1

theorem pow_cast (k : Nat) : (2 : Int) ^ k = ((2 ^ k : Nat) : Int) := by simp
theorem div_nat {a : Int} (ha : 0 ≤ a) (k : Nat) : a / 2 ^ k = ((a.toNat / 2 ^ k : Nat) : Int) := by
  obtain ⟨x, rfl⟩ := Int.eq_ofNat_of_zero_le ha
  rw [pow_cast, Int.toNat_natCast, Int.natCast_ediv]
theorem mul_nat {a : Int} (ha : 0 ≤ a) (k m : Nat) : a * 2 ^ k % (m : Int) = ((a.toNat * 2 ^ k % m : Nat) : Int) := by
  obtain ⟨x, rfl⟩ := Int.eq_ofNat_of_zero_le ha
  rw [pow_cast, Int.toNat_natCast, Int.natCast_emod, Int.natCast_mul]
theorem shl_nat {a : Int} (ha : 0 ≤ a) (k : Nat) : a * 2 ^ k % 256 = ((a.toNat * 2 ^ k % 256 : Nat) : Int) := mul_nat ha k 256

/-- The first n bits of a byte, the highest first. -/
def topb (b : Int) (n : Nat) : List Bool := (List.range n).map fun j => b.toNat.testBit (7 - j)
theorem topb_length (b : Int) (n : Nat) : (topb b n).length = n := by simp [topb]
theorem topb_getD (b : Int) (n j : Nat) : (topb b n).getD j false = if j < n then b.toNat.testBit (7 - j) else false := by
  unfold topb
  by_cases h : j < n <;> simp [List.getD_eq_getElem?_getD, h]

theorem all_testBit (i : Nat) : (255 : Nat).testBit i = decide (i < 8) := by
  rw [show (255 : Nat) = 2 ^ 8 - 1 from rfl, Nat.testBit_two_pow_sub_one]

theorem mask_eq (b m : Int) (hb : 0 ≤ b ∧ b < 256) : bits .and .u8 b (255 * 2 ^ (8 - m).toNat % 256) = ((b.toNat &&& (255 * 2 ^ (8 - m).toNat % 256) : Nat) : Int) := by
  have e : (255 * 2 ^ (8 - m).toNat % 256 : Int) = ((255 * 2 ^ (8 - m).toNat % 256 : Nat) : Int) := shl_nat (a := 255) (by decide) _
  rw [e, and_u8 hb ⟨by omega, by omega⟩, Int.toNat_natCast]

theorem top_mask (b m : Int) (hb : 0 ≤ b ∧ b < 256) (hm : 0 ≤ m ∧ m ≤ 8) : Top (bits .and .u8 b (255 * 2 ^ (8 - m).toNat % 256)) (topb b m.toNat) := by
  rw [mask_eq b m hb]
  have hlt : (b.toNat &&& (255 * 2 ^ (8 - m).toNat % 256) : Nat) ≤ b.toNat := Nat.and_le_left
  refine ⟨⟨by omega, by omega⟩, fun j hj => ?_⟩
  rw [Int.toNat_natCast, Nat.testBit_and, shl_testBit, all_testBit, topb_getD]
  by_cases h : j < m.toNat
  · rw [if_pos h, decide_eq_true (by omega : 7 - j < 8), decide_eq_true (by omega : (8 - m).toNat ≤ 7 - j), decide_eq_true (by omega : 7 - j - (8 - m).toNat < 8)]
    simp
  · rw [if_neg h, decide_eq_false (by omega : ¬ (8 - m).toNat ≤ 7 - j)]
    simp

theorem div_byte {x : Int} (h : 0 ≤ x ∧ x < 256) (k : Nat) : 0 ≤ ((x.toNat / 2 ^ k : Nat) : Int) ∧ ((x.toNat / 2 ^ k : Nat) : Int) < 256 := by
  have hd : x.toNat / 2 ^ k ≤ x.toNat := Nat.div_le_self _ _
  generalize x.toNat / 2 ^ k = q at *
  omega

/-- What 'lay' makes of the last byte, as the walk spells it. -/
theorem in_last {B : List Int} {L T : List Bool} {n : Nat} {c x N : Int} (h : Packs B L) (hn : B.length = n + 1) (hc : B.getD n 0 = c) (hN : N = (L.length : Int)) (hk : L.length % 8 ≠ 0) (hT : T.length ≤ 8 - L.length % 8) (ht : Top x T) :
    Packs (B.set n (bits .or .u8 c (x / 2 ^ (N % 8).toNat))) (L ++ T) := by
  have h1 := lay_last h hk ht
  subst hc; subst hN
  have e8 : ((L.length : Int) % 8).toNat = L.length % 8 := by omega
  rw [e8, div_nat ht.1.1, or_u8 (byts_get h.byts n) (div_byte ht.1 _), Int.toNat_natCast]
  rw [show B.length - 1 = n from by omega] at h1
  rwa [List.take_of_length_le (by omega)] at h1

theorem over_last {B : List Int} {L T : List Bool} {n : Nat} {c x N : Int} (h : Packs B L) (hn : B.length = n + 1) (hc : B.getD n 0 = c) (hN : N = (L.length : Int)) (hk : L.length % 8 ≠ 0) (hT : T.length ≤ 8) (hT2 : 8 - L.length % 8 < T.length) (ht : Top x T) :
    Packs (B.set n (bits .or .u8 c (x / 2 ^ (N % 8).toNat)) ++ [x * 2 ^ (8 - N % 8).toNat % 256]) (L ++ T) := by
  have h1 := lay_over h hk hT hT2 ht
  subst hc; subst hN
  have e8 : ((L.length : Int) % 8).toNat = L.length % 8 := by omega
  have e9 : (8 - (L.length : Int) % 8).toNat = 8 - L.length % 8 := by omega
  rw [e8, e9, div_nat ht.1.1, or_u8 (byts_get h.byts n) (div_byte ht.1 _), Int.toNat_natCast, shl_nat ht.1.1]
  rw [show B.length - 1 = n from by omega] at h1
  exact h1

/-- Eight bits at a place: the two bytes that hold them. -/
theorem at_two {B : List Int} (hB : Byts B) (p : Nat) :
    let v := bits .or .u8 (B.getD (p / 8) 0 * 2 ^ (p % 8) % 256) (B.getD (p / 8 + 1) 0 / 2 ^ (8 - p % 8))
    (0 ≤ v ∧ v < 256) ∧ ∀ j, j < 8 → v.toNat.testBit (7 - j) = bitAt B (p + j) := by
  intro v
  have h0 := byts_get hB (p / 8)
  have h1 := byts_get hB (p / 8 + 1)
  have e : v = (((B.getD (p / 8) 0).toNat * 2 ^ (p % 8) % 256 ||| (B.getD (p / 8 + 1) 0).toNat / 2 ^ (8 - p % 8) : Nat) : Int) := by
    show bits .or .u8 _ _ = _
    rw [shl_nat h0.1, div_nat h1.1, or_u8 ⟨by omega, by omega⟩ (div_byte h1 _), Int.toNat_natCast, Int.toNat_natCast]
  have hd := div_byte h1 (8 - p % 8)
  refine ⟨⟨by omega, ?_⟩, fun j hj => ?_⟩
  · have := or_lt256 (a := (B.getD (p / 8) 0).toNat * 2 ^ (p % 8) % 256) (b := (B.getD (p / 8 + 1) 0).toNat / 2 ^ (8 - p % 8)) (by omega) (by omega)
    omega
  · rw [e, Int.toNat_natCast, Nat.testBit_or, shl_testBit, shr_testBit]
    unfold bitAt
    by_cases h : p % 8 + j < 8
    · rw [show (p + j) / 8 = p / 8 from by omega, show (p + j) % 8 = p % 8 + j from by omega, decide_eq_true (by omega : 7 - j < 8), decide_eq_true (by omega : p % 8 ≤ 7 - j)]
      have : (B.getD (p / 8 + 1) 0).toNat.testBit (7 - j + (8 - p % 8)) = false := Nat.testBit_lt_two_pow (by
        have hp : 2 ^ 8 ≤ 2 ^ (7 - j + (8 - p % 8)) := Nat.pow_le_pow_right (by omega) (by omega)
        omega)
      rw [this, show 7 - j - p % 8 = 7 - (p % 8 + j) from by omega]
      simp
    · rw [show (p + j) / 8 = p / 8 + 1 from by omega, show (p + j) % 8 = p % 8 + j - 8 from by omega, decide_eq_false (by omega : ¬ p % 8 ≤ 7 - j)]
      rw [show 7 - j + (8 - p % 8) = 7 - (p % 8 + j - 8) from by omega]
      simp

/-- Where only the first byte counts: at a byte's beginning, or in the last byte. -/
theorem at_one {B : List Int} (hB : Byts B) (p : Nat) (hz : p % 8 = 0 ∨ B.length ≤ p / 8 + 1) :
    let v := B.getD (p / 8) 0 * 2 ^ (p % 8) % 256
    (0 ≤ v ∧ v < 256) ∧ ∀ j, j < 8 → v.toNat.testBit (7 - j) = bitAt B (p + j) := by
  intro v
  have h0 := byts_get hB (p / 8)
  have e : v = (((B.getD (p / 8) 0).toNat * 2 ^ (p % 8) % 256 : Nat) : Int) := shl_nat h0.1 _
  refine ⟨⟨by omega, by omega⟩, fun j hj => ?_⟩
  rw [e, Int.toNat_natCast, shl_testBit]
  unfold bitAt
  by_cases h : p % 8 + j < 8
  · rw [show (p + j) / 8 = p / 8 from by omega, show (p + j) % 8 = p % 8 + j from by omega, decide_eq_true (by omega : 7 - j < 8), decide_eq_true (by omega : p % 8 ≤ 7 - j)]
    rw [show 7 - j - p % 8 = 7 - (p % 8 + j) from by omega]
    simp
  · rw [decide_eq_false (by omega : ¬ p % 8 ≤ 7 - j), getD_far B 0 (i := (p + j) / 8) (by omega)]
    simp

/-- A number of 64 bits (the bound behind a name: a numeral so great in a walk's context stops it). -/
def U64 (v : Int) : Prop := 0 ≤ v ∧ v < 18446744073709551616

/-- A number's last w bits, the highest first. -/
def nbits (v w : Nat) : List Bool := (List.range w).map fun j => v.testBit (w - 1 - j)
theorem nbits_length (v w : Nat) : (nbits v w).length = w := by simp [nbits]
theorem nbits_get (v w j : Nat) (h : j < w) : (nbits v w)[j]? = some (v.testBit (w - 1 - j)) := by simp [nbits, h]
theorem nbits_add (v a b : Nat) : nbits v (a + b) = nbits (v / 2 ^ b) a ++ nbits v b := by
  apply List.ext_getElem?
  intro j
  by_cases h : j < a + b
  · rw [nbits_get _ _ _ h]
    by_cases h2 : j < a
    · rw [List.getElem?_append_left (by rw [nbits_length]; exact h2), nbits_get _ _ _ h2, shr_testBit]
      congr 2
      omega
    · rw [List.getElem?_append_right (by rw [nbits_length]; omega), nbits_length, nbits_get _ _ _ (by omega)]
      congr 2
      omega
  · rw [List.getElem?_eq_none (by rw [nbits_length]; omega), List.getElem?_eq_none (by rw [List.length_append, nbits_length, nbits_length]; omega)]

theorem nbits_byte (v n : Nat) (hn : n ≤ 8) : topb ((v * 2 ^ (8 - n) % 256 : Nat) : Int) n = nbits v n := by
  apply List.ext_getElem?
  intro j
  by_cases h : j < n
  · rw [nbits_get _ _ _ h]
    simp only [topb, List.getElem?_map, List.getElem?_range h, Option.map_some, Int.toNat_natCast]
    rw [shl_testBit, decide_eq_true (by omega : 7 - j < 8), decide_eq_true (by omega : 8 - n ≤ 7 - j)]
    simp only [Bool.true_and]
    congr 2
    omega
  · rw [List.getElem?_eq_none (by rw [topb_length]; omega), List.getElem?_eq_none (by rw [nbits_length]; omega)]

theorem wrap_u64 (x : Int) : IntKind.u64.wrap x = x % 18446744073709551616 := by simp [IntKind.wrap, IntKind.bits, IntKind.signed]

theorem wrap_byte (x : Nat) : IntKind.u64.wrap (x : Int) % 256 = ((x % 256 : Nat) : Int) := by rw [wrap_u64]; omega
theorem nat_div (v k : Nat) : (v : Int) / 2 ^ k = ((v / 2 ^ k : Nat) : Int) := by simp
theorem nat_mul (v k : Nat) : (v : Int) * 2 ^ k = ((v * 2 ^ k : Nat) : Int) := by simp

/-- What the writer hands to 'lay': eight bits. -/
theorem byte_many (v q : Nat) : topb (IntKind.u64.wrap ((v : Int) / 2 ^ q) % 256) 8 = nbits (v / 2 ^ q) 8 := by
  rw [nat_div, wrap_byte, ← nbits_byte _ 8 (by omega)]
  simp
/-- The last few. -/
theorem byte_few (v r : Nat) (h : r ≤ 8) : topb (IntKind.u64.wrap ((v : Int) * 2 ^ (8 - r)) % 256) r = nbits v r := by
  rw [nat_mul, wrap_byte, nbits_byte _ _ h]

/-- May the bytes be so many bits? As a test. -/
def sndB (B : List Int) (N : Int) : Bool :=
  decide (0 ≤ N) && decide (B.length = (N.toNat + 7) / 8) && (List.range (8 * B.length)).all fun i => decide (i < N.toNat) || !bitAt B i
theorem sndB_iff (B : List Int) (N : Int) : sndB B N = true ↔ Snd B N := by
  simp only [sndB, Bool.and_eq_true, decide_eq_true_eq, List.all_eq_true, List.mem_range, Bool.or_eq_true, Bool.not_eq_true', Snd]
  constructor
  · rintro ⟨⟨h0, h1⟩, h2⟩
    refine ⟨h0, h1, fun i hi => ?_⟩
    by_cases h : i < 8 * B.length
    · rcases h2 i h with h3 | h3
      · omega
      · exact h3
    · exact bitAt_far (by omega)
  · rintro ⟨h0, h1, h2⟩
    refine ⟨⟨h0, h1⟩, fun i _ => ?_⟩
    by_cases h : i < N.toNat
    · exact .inl h
    · exact .inr (h2 i (by omega))
theorem sndB_false {B : List Int} {N : Int} (h : ¬ Snd B N) : sndB B N = false := by
  rw [← Bool.not_eq_true, sndB_iff]; exact h

/-- At a byte's end nothing is left to ask. -/
theorem snd_whole {B : List Int} {N : Int} (h0 : 0 ≤ N) (hl : (B.length : Int) = (N + 7) / 8) (hk : N % 8 = 0) : Snd B N :=
  ⟨h0, by omega, fun i hi => bitAt_far (by omega)⟩
/-- Inside a byte the last byte tells. -/
theorem snd_last {B : List Int} {N : Int} {q : Nat} (hB : Byts B) (h0 : 0 ≤ N) (hq : B.length = q + 1) (hl : (B.length : Int) = (N + 7) / 8) (hk : N % 8 ≠ 0) :
    (bits .and .u8 (B.getD q 0) (255 / 2 ^ (N % 8).toNat) == 0) = sndB B N := by
  have hb := byts_get hB q
  have e : (255 / 2 ^ (N % 8).toNat : Int) = ((255 / 2 ^ (N % 8).toNat : Nat) : Int) := div_nat (a := 255) (by decide) _
  have hd := div_byte (x := 255) (by decide) (N % 8).toNat
  rw [e, and_u8 hb (by simpa using hd)]
  rw [Bool.eq_iff_iff, sndB_iff, beq_iff_eq, Int.toNat_natCast]
  have key : ∀ j, j < 8 → ((B.getD q 0).toNat &&& 255 / 2 ^ (N % 8).toNat).testBit (7 - j) = (bitAt B (8 * q + j) && decide ((N % 8).toNat ≤ j)) := by
    intro j hj
    rw [Nat.testBit_and, shr_testBit, all_testBit]
    unfold bitAt
    rw [show (8 * q + j) / 8 = q from by omega, show (8 * q + j) % 8 = j from by omega]
    by_cases h : (N % 8).toNat ≤ j
    · rw [decide_eq_true h, decide_eq_true (by omega : 7 - j + (N % 8).toNat < 8)]
    · rw [decide_eq_false h, decide_eq_false (by omega : ¬ 7 - j + (N % 8).toNat < 8)]
  constructor
  · intro hz
    have hz' : ((B.getD q 0).toNat &&& 255 / 2 ^ (N % 8).toNat) = 0 := by omega
    refine ⟨h0, by omega, fun i hi => ?_⟩
    by_cases hf : i < 8 * B.length
    · have := key (i - 8 * q) (by omega)
      rw [hz', Nat.zero_testBit, show 8 * q + (i - 8 * q) = i from by omega, decide_eq_true (by omega : (N % 8).toNat ≤ i - 8 * q), Bool.and_true] at this
      exact this.symm
    · exact bitAt_far (by omega)
  · intro hs
    have : ((B.getD q 0).toNat &&& 255 / 2 ^ (N % 8).toNat) = 0 := by
      apply Nat.eq_of_testBit_eq
      intro i
      rw [Nat.zero_testBit]
      by_cases hi : i < 8
      · have h1 := key (7 - i) (by omega)
        rw [show 7 - (7 - i) = i from by omega] at h1
        rw [h1]
        by_cases h : (N % 8).toNat ≤ 7 - i
        · rw [hs.2.2 _ (by omega), Bool.false_and]
        · rw [decide_eq_false h, Bool.and_false]
      · rw [Nat.testBit_and]
        have : (B.getD q 0).toNat.testBit i = false := Nat.testBit_lt_two_pow (by
          have hp : 2 ^ 8 ≤ 2 ^ i := Nat.pow_le_pow_right (by omega) (by omega)
          omega)
        rw [this, Bool.false_and]
    rw [this]; rfl

end Go.Proofs.Ytokolgelmikfmaa.Pl
