/-
  Plain facts on bits, eight in a byte: no program in sight. A list of bytes B packs a list of bits L; what laying, reading and counting do to it.
-/
import Derived.KernelRfl
namespace Go.Proofs.Ytokolgelmikfmaa.Pl

/-- The i-th bit of a row of bytes, the highest of a byte first; noughts behind the end. -/
def bitAt (B : List Int) (i : Nat) : Bool := (B.getD (i / 8) 0).toNat.testBit (7 - i % 8)

/-- All are bytes. -/
def Byts (B : List Int) : Prop := ∀ x ∈ B, 0 ≤ x ∧ x < 256

/-- The bytes B are the bits L, those beyond the end noughts. -/
structure Packs (B : List Int) (L : List Bool) : Prop where
  len : B.length = (L.length + 7) / 8
  byts : Byts B
  bit : ∀ i, bitAt B i = L.getD i false

theorem packs_nil : Packs [] [] := ⟨rfl, (fun x h => absurd h (by simp)), fun i => by simp [bitAt]⟩

theorem byts_get {B : List Int} (h : Byts B) (i : Nat) : 0 ≤ B.getD i 0 ∧ B.getD i 0 < 256 := by
  by_cases hi : i < B.length
  · rw [List.getD_eq_getElem?_getD, List.getElem?_eq_getElem hi]; exact h _ (List.getElem_mem hi)
  · rw [List.getD_eq_getElem?_getD, List.getElem?_eq_none (by omega)]; simp

theorem bytes_ext {x y : Int} (hx : 0 ≤ x ∧ x < 256) (hy : 0 ≤ y ∧ y < 256) (h : ∀ j, j < 8 → x.toNat.testBit (7 - j) = y.toNat.testBit (7 - j)) : x = y := by
  have e : x.toNat = y.toNat := by
    apply Nat.eq_of_testBit_eq
    intro i
    by_cases hi : i < 8
    · have := h (7 - i) (by omega)
      rwa [show 7 - (7 - i) = i from by omega] at this
    · have hp : 2 ^ 8 ≤ 2 ^ i := Nat.pow_le_pow_right (by omega) (by omega)
      rw [Nat.testBit_lt_two_pow (by omega), Nat.testBit_lt_two_pow (by omega)]
  omega

/-- Rows of bytes of one length with the same bits are the same. -/
theorem row_ext {B B' : List Int} (hl : B.length = B'.length) (h : Byts B) (h' : Byts B') (hb : ∀ i, i < 8 * B.length → bitAt B i = bitAt B' i) : B = B' := by
  apply List.ext_getElem hl
  intro q h1 h2
  have g : ∀ (C : List Int) (hq : q < C.length), C.getD q 0 = C[q] := fun C hq => by rw [List.getD_eq_getElem?_getD, List.getElem?_eq_getElem hq]; rfl
  refine bytes_ext (h _ (List.getElem_mem h1)) (h' _ (List.getElem_mem h2)) fun j hj => ?_
  have := hb (8 * q + j) (by omega)
  unfold bitAt at this
  rw [show (8 * q + j) / 8 = q from by omega, show (8 * q + j) % 8 = j from by omega, g B h1, g B' h2] at this
  exact this

theorem packs_inj {B B' : List Int} {L : List Bool} (h : Packs B L) (h' : Packs B' L) : B = B' :=
  row_ext (by rw [h.len, h'.len]) h.byts h'.byts fun i _ => by rw [h.bit, h'.bit]

theorem packs_inj' {B : List Int} {L L' : List Bool} (h : Packs B L) (h' : Packs B L') (hl : L.length = L'.length) : L = L' := by
  apply List.ext_getElem hl
  intro i h1 h2
  have := (h.bit i).symm.trans (h'.bit i)
  simpa [List.getD_eq_getElem?_getD, List.getElem?_eq_getElem h1, List.getElem?_eq_getElem h2] using this

/-- Of one number of bits the rows are alike just if the bits are. -/
theorem packs_iff {B B' : List Int} {L L' : List Bool} (h : Packs B L) (h' : Packs B' L') : (L.length = L'.length ∧ B = B') ↔ L = L' := by
  constructor
  · rintro ⟨hl, rfl⟩; exact packs_inj' h h' hl
  · rintro rfl; exact ⟨rfl, packs_inj h h'⟩

theorem bitAt_far {B : List Int} {i : Nat} (h : 8 * B.length ≤ i) : bitAt B i = false := by
  unfold bitAt
  rw [List.getD_eq_getElem?_getD, List.getElem?_eq_none (by omega)]
  simp

/-! ### Which bits may be -/

/-- May so many bytes be so many bits? -/
def Snd (B : List Int) (N : Int) : Prop := 0 ≤ N ∧ B.length = (N.toNat + 7) / 8 ∧ ∀ i, N.toNat ≤ i → bitAt B i = false

theorem snd_of_packs {B : List Int} {L : List Bool} (h : Packs B L) : Snd B (L.length : Int) :=
  ⟨by omega, by rw [h.len]; rfl, fun i hi => by rw [h.bit, List.getD_eq_getElem?_getD, List.getElem?_eq_none (by simpa using hi)]; rfl⟩

/-- The bits of a row. -/
def bitsOf (B : List Int) (n : Nat) : List Bool := (List.range n).map (bitAt B)

theorem bitsOf_length (B : List Int) (n : Nat) : (bitsOf B n).length = n := by simp [bitsOf]
theorem bitsOf_getD (B : List Int) (n i : Nat) : (bitsOf B n).getD i false = if i < n then bitAt B i else false := by
  unfold bitsOf
  by_cases h : i < n
  · simp [List.getD_eq_getElem?_getD, h]
  · simp [List.getD_eq_getElem?_getD, h]

theorem packs_of_snd {B : List Int} {N : Int} (hb : Byts B) (h : Snd B N) : Packs B (bitsOf B N.toNat) :=
  ⟨by rw [bitsOf_length]; exact h.2.1, hb, fun i => by
    rw [bitsOf_getD]
    by_cases hi : i < N.toNat
    · rw [if_pos hi]
    · rw [if_neg hi]; exact h.2.2 i (by omega)⟩

theorem packs_len_le {B : List Int} {L : List Bool} (h : Packs B L) : L.length ≤ 8 * B.length := by rw [h.len]; omega
theorem packs_bits {B : List Int} {L : List Bool} (h : Packs B L) : bitsOf B L.length = L :=
  packs_inj' (by have := packs_of_snd h.byts (snd_of_packs h); simpa using this) h (by simp [bitsOf])

/-! ### Laying -/

theorem testBit_or_nat (a b i : Nat) : (a ||| b).testBit i = (a.testBit i || b.testBit i) := Nat.testBit_or a b i

theorem getD_append_left' {α : Type} (l r : List α) (d : α) {i : Nat} (h : i < l.length) : (l ++ r).getD i d = l.getD i d := by
  simp [List.getD_eq_getElem?_getD, List.getElem?_append_left h]
theorem getD_append_right' {α : Type} (l r : List α) (d : α) {i : Nat} (h : l.length ≤ i) : (l ++ r).getD i d = r.getD (i - l.length) d := by
  simp [List.getD_eq_getElem?_getD, List.getElem?_append_right h]
theorem getD_far {α : Type} (l : List α) (d : α) {i : Nat} (h : l.length ≤ i) : l.getD i d = d := by
  simp [List.getD_eq_getElem?_getD, List.getElem?_eq_none h]

/-- A byte that has the bits T ahead, noughts behind them. -/
def Top (b : Int) (T : List Bool) : Prop := (0 ≤ b ∧ b < 256) ∧ ∀ j, j < 8 → b.toNat.testBit (7 - j) = T.getD j false

/-- At a byte's end: a new byte. -/
theorem lay_new {B : List Int} {L T : List Bool} {b : Int} (h : Packs B L) (hk : L.length % 8 = 0) (h1 : 0 < T.length) (h8 : T.length ≤ 8) (ht : Top b T) : Packs (B ++ [b]) (L ++ T) := by
  have hlen : L.length = 8 * B.length := by have := h.len; omega
  refine ⟨?_, ?_, ?_⟩
  · simp only [List.length_append, List.length_cons, List.length_nil]; omega
  · intro x hx
    rcases List.mem_append.1 hx with hx | hx
    · exact h.byts x hx
    · simp at hx; subst hx; exact ht.1
  · intro i
    unfold bitAt
    by_cases hi : i < L.length
    · rw [getD_append_left' _ _ _ hi, getD_append_left' _ _ _ (by omega)]
      exact h.bit i
    · rw [getD_append_right' _ _ _ (by omega), getD_append_right' _ _ _ (by omega)]
      by_cases h9 : i < L.length + 8
      · rw [show i / 8 - B.length = 0 from by omega]
        show b.toNat.testBit (7 - i % 8) = _
        rw [ht.2 (i % 8) (by omega), show i - L.length = i % 8 from by omega]
      · rw [getD_far _ _ (by simp; omega), getD_far _ _ (by omega)]
        simp

theorem set_getD {α : Type} (l : List α) (q : Nat) (v d : α) (hq : q < l.length) (i : Nat) : (l.set q v).getD i d = if i = q then v else l.getD i d := by
  rw [List.getD_eq_getElem?_getD, List.getElem?_set, List.getD_eq_getElem?_getD]
  by_cases h : q = i
  · subst h; simp [hq]
  · rw [if_neg h, if_neg (by omega)]

/-- Inside a byte: as many as fit are laid into the last byte (given: what the last byte becomes). -/
theorem lay_in {B : List Int} {L T : List Bool} {c : Int} (h : Packs B L) (hk : L.length % 8 ≠ 0) (hT : T.length ≤ 8 - L.length % 8)
    (hc : 0 ≤ c ∧ c < 256) (hbit : ∀ j, j < 8 → c.toNat.testBit (7 - j) = if j < L.length % 8 then bitAt B (8 * (B.length - 1) + j) else T.getD (j - L.length % 8) false) :
    Packs (B.set (B.length - 1) c) (L ++ T) := by
  have hlen := h.len
  have hq : B.length - 1 < B.length := by omega
  refine ⟨?_, ?_, ?_⟩
  · simp only [List.length_set, List.length_append]; omega
  · intro x hx
    rcases List.mem_or_eq_of_mem_set hx with hx | hx
    · exact h.byts x hx
    · subst hx; exact hc
  · intro i
    show ((B.set (B.length - 1) c).getD (i / 8) 0).toNat.testBit (7 - i % 8) = _
    rw [set_getD _ _ _ _ hq]
    by_cases hi : i / 8 = B.length - 1
    · rw [if_pos hi, hbit (i % 8) (by omega)]
      by_cases hj : i % 8 < L.length % 8
      · rw [if_pos hj, getD_append_left' _ _ _ (by omega), ← h.bit]
        congr 1
        omega
      · rw [if_neg hj, getD_append_right' _ _ _ (by omega)]
        congr 1
        omega
    · rw [if_neg hi]
      have e : (B.getD (i / 8) 0).toNat.testBit (7 - i % 8) = L.getD i false := h.bit i
      rw [e]
      by_cases hj : i < L.length
      · rw [getD_append_left' _ _ _ hj]
      · rw [getD_far _ _ (by omega), getD_far _ _ (by simp; omega)]

/-! ### Byte arithmetic by bits -/

theorem shr_testBit (b : Nat) (k i : Nat) : (b / 2 ^ k).testBit i = b.testBit (i + k) := by
  rw [← Nat.shiftRight_eq_div_pow, Nat.testBit_shiftRight, Nat.add_comm]
theorem shl_testBit (b k i : Nat) : (b * 2 ^ k % 256).testBit i = (decide (i < 8) && decide (k ≤ i) && b.testBit (i - k)) := by
  rw [show (256 : Nat) = 2 ^ 8 from rfl, Nat.testBit_mod_two_pow, Nat.testBit_mul_two_pow]
  by_cases h1 : i < 8 <;> by_cases h2 : k ≤ i <;> simp [h1, h2]

theorem or_lt256 {a b : Nat} (ha : a < 256) (hb : b < 256) : a ||| b < 256 := Nat.or_lt_two_pow (n := 8) ha hb

/-- What 'lay' makes of the last byte. -/
theorem lay_last {B : List Int} {L T : List Bool} {b : Int} (h : Packs B L) (hk : L.length % 8 ≠ 0) (ht : Top b T) :
    Packs (B.set (B.length - 1) (((B.getD (B.length - 1) 0).toNat ||| b.toNat / 2 ^ (L.length % 8) : Nat) : Int)) (L ++ T.take (8 - L.length % 8)) := by
  have hb := byts_get h.byts (B.length - 1)
  have hdiv : b.toNat / 2 ^ (L.length % 8) ≤ b.toNat := Nat.div_le_self _ _
  have hlt := or_lt256 (a := (B.getD (B.length - 1) 0).toNat) (b := b.toNat / 2 ^ (L.length % 8)) (by omega) (by have := ht.1; omega)
  refine lay_in h hk (by simp; omega) ⟨by omega, by omega⟩ fun j hj => ?_
  have hlen := h.len
  rw [Int.toNat_natCast, Nat.testBit_or, shr_testBit]
  have e : (B.getD (B.length - 1) 0).toNat.testBit (7 - j) = bitAt B (8 * (B.length - 1) + j) := by
    unfold bitAt
    rw [show (8 * (B.length - 1) + j) / 8 = B.length - 1 from by omega, show (8 * (B.length - 1) + j) % 8 = j from by omega]
  rw [e]
  by_cases hjk : j < L.length % 8
  · rw [if_pos hjk]
    have : b.toNat.testBit (7 - j + L.length % 8) = false := Nat.testBit_lt_two_pow (by
      have hp : 2 ^ 8 ≤ 2 ^ (7 - j + L.length % 8) := Nat.pow_le_pow_right (by omega) (by omega)
      have := ht.1; omega)
    rw [this, Bool.or_false]
  · rw [if_neg hjk]
    have e2 : bitAt B (8 * (B.length - 1) + j) = false := by rw [h.bit, getD_far _ _ (by omega)]
    rw [e2, Bool.false_or, show 7 - j + L.length % 8 = 7 - (j - L.length % 8) from by omega, ht.2 _ (by omega)]
    rw [List.getD_eq_getElem?_getD, List.getD_eq_getElem?_getD, List.getElem?_take, if_pos (by omega)]

/-- What did not fit stands in a new byte. -/
theorem lay_over {B : List Int} {L T : List Bool} {b : Int} (h : Packs B L) (hk : L.length % 8 ≠ 0) (hT : T.length ≤ 8) (hT2 : 8 - L.length % 8 < T.length) (ht : Top b T) :
    Packs (B.set (B.length - 1) (((B.getD (B.length - 1) 0).toNat ||| b.toNat / 2 ^ (L.length % 8) : Nat) : Int) ++ [((b.toNat * 2 ^ (8 - L.length % 8) % 256 : Nat) : Int)]) (L ++ T) := by
  have h1 := lay_last h hk ht
  have hlt : (L ++ T.take (8 - L.length % 8)).length % 8 = 0 := by simp; omega
  have h2 := lay_new (T := T.drop (8 - L.length % 8)) (b := ((b.toNat * 2 ^ (8 - L.length % 8) % 256 : Nat) : Int)) h1 hlt (by simp; omega) (by simp; omega) ⟨by omega, fun j hj => ?_⟩
  · rwa [List.append_assoc, List.take_append_drop] at h2
  · rw [Int.toNat_natCast, shl_testBit]
    rw [List.getD_eq_getElem?_getD, List.getElem?_drop, ← List.getD_eq_getElem?_getD]
    by_cases hj2 : 8 - L.length % 8 ≤ 7 - j
    · rw [decide_eq_true (by omega : 7 - j < 8), decide_eq_true hj2, show 7 - j - (8 - L.length % 8) = 7 - (8 - L.length % 8 + j) from by omega, ht.2 _ (by omega)]
      simp
    · rw [decide_eq_false hj2, getD_far _ _ (by omega)]
      simp

end Go.Proofs.Ytokolgelmikfmaa.Pl
