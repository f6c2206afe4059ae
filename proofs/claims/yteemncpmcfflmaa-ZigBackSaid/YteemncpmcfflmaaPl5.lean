/-
  Plain facts on parts of lists of bits.
-/
import Derived.Test.YteemncpmcfflmaaPl4
namespace Go.Proofs.Yteemncpmcfflmaa.Pl

theorem sub_append_left {L M : List Bool} {p n : Nat} (h : p + n ≤ L.length) : sub (L ++ M) p n = sub L p n := by
  simp only [sub]
  rw [List.drop_append_of_le_length (by omega), List.take_append_of_le_length (by rw [List.length_drop]; omega)]
theorem sub_append_right (L M : List Bool) : sub (L ++ M) L.length M.length = M := by
  simp only [sub]
  rw [List.drop_left, List.take_length]
theorem val_back (L : List Bool) (u W : Nat) : val (sub (L ++ nbits u W) L.length W) = u % 2 ^ W := by
  have := sub_append_right L (nbits u W)
  rw [nbits_length] at this
  rw [this, val_nbits]
theorem sub_all (L : List Bool) : sub L 0 L.length = L := by simp [sub]
theorem sub_sub {L : List Bool} {p n q m : Nat} (h : q + m ≤ n) : sub (sub L p n) q m = sub L (p + q) m := by
  simp only [sub]
  rw [List.drop_take, List.take_take, List.drop_drop, Nat.min_eq_left (by omega)]
theorem append_left_iff {L M X : List Bool} : L ++ X = M ++ X ↔ L = M := ⟨fun h => List.append_cancel_right h, fun h => by rw [h]⟩
theorem append_right_iff {L X Y : List Bool} : L ++ X = L ++ Y ↔ X = Y := ⟨fun h => List.append_cancel_left h, fun h => by rw [h]⟩
theorem nbits_inj (u v W : Nat) : nbits u W = nbits v W ↔ u % 2 ^ W = v % 2 ^ W := by
  constructor
  · intro h
    have := congrArg val h
    rwa [val_nbits, val_nbits] at this
  · intro h
    apply List.ext_getElem?
    intro j
    by_cases hj : j < W
    · rw [nbits_get _ _ _ hj, nbits_get _ _ _ hj]
      congr 1
      have := congrArg (fun x => x.testBit (W - 1 - j)) h
      simp only [Nat.testBit_mod_two_pow, decide_eq_true (by omega : W - 1 - j < W), Bool.true_and] at this
      exact this
    · rw [List.getElem?_eq_none (by rw [nbits_length]; omega), List.getElem?_eq_none (by rw [nbits_length]; omega)]

end Go.Proofs.Yteemncpmcfflmaa.Pl
