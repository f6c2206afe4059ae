/-
  (*bit.writer).number: a number of so many bits is laid.
-/
import Derived.Test.YteemncpmcfflmaaLay
namespace Go.Proofs.Yteemncpmcfflmaa
open Go.RowKit Pl
set_option linter.unusedVariables false

set_option maxRecDepth 100000 in
set_option maxHeartbeats 1000000 in
theorem number_any (base gw : Nat) (L : List Bool) (v : Nat) (W : Nat) (w : World) (hwr : Wr w base gw L) (hv : U64 v) (hW : W ≤ 64) (hL : (L.length : Int) + W ≤ 1000000000) (hbs : base ≤ w.heap.size) :
    Calls Try.prog 35 #[.pointer (some ⟨gw, 0, none⟩), .int .u64 v, .int .i64 W] w fun e w' => e = .returned (.tuple #[]) ∧ Wr w' base gw (L ++ nbits v W) ∧ Below base w w' := by
  go_enter Try.func35, Try.ntmps35
  go_wp2_with fail
  go_loopw [2] (fun i wr => ∃ r : Nat, r ≤ W ∧ i = .int .i64 r ∧ Wr wr base gw (L ++ nbits (v / 2 ^ r) (W - r)) ∧ Below base w wr) (fun i _ => (intOf i).toNat)
  case atStart => exact ⟨W, Nat.le_refl _, rfl, by simpa [nbits] using hwr, Below.refl _ _⟩
  case round =>
    obtain ⟨r, hr, rfl, hwr1, hbel⟩ := hrel
    have hr64 : (r : Int) ≤ 64 := by omega
    by_cases h0 : r = 0
    · subst h0
      go_wp2_with fail
      go_end0
      exact ⟨rfl, by simpa using hwr1, hbel⟩
    · have h0' : decide (0 < r) = true := by simp; omega
      have H0 := Lib.hid h0
      clear h0
      by_cases h8 : 8 < r
      · obtain ⟨q, rfl⟩ : ∃ q, r = q + 8 := ⟨r - 8, by omega⟩
        have h8' : (8 : Int) < (q : Int) + 8 := by omega
        have HQ := Lib.hid h8
        clear h8 h0'
        have h0' : decide (0 < q + 8) = true := by simp
        go_wp2_with fail
        refine (lay_any base gw _ _ _ _ hwr1 (by rw [List.length_append, nbits_length]; omega) (by omega) (by omega) (by omega) (by have := hbel.size; omega)).mono ?_
        rintro e w1 ⟨rfl, hwr2, hbel2⟩
        rw [show ((8 : Int)).toNat = 8 from rfl, byte_many, List.append_assoc] at hwr2
        go_wp2_with fail
        go_roundw
        case rel =>
          refine ⟨q, by omega, by go_num, ?_, hbel.trans hbel2⟩
          rw [show W - q = (W - (q + 8)) + 8 from by omega, nbits_add, Nat.div_div_eq_div_mul, ← Nat.pow_add]
          exact hwr2
        case measure => simp [intOf]; omega
      · have h8' : (r : Int) ≤ (8 : Int) := by omega
        have HR := Lib.hid h8
        clear h8
        go_wp2_with fail
        refine (lay_any base gw _ _ _ _ hwr1 (by rw [List.length_append, nbits_length]; omega) (by omega) (by omega) (by omega) (by have := hbel.size; omega)).mono ?_
        rintro e w1 ⟨rfl, hwr2, hbel2⟩
        rw [Int.toNat_natCast, byte_few _ _ (by have := HR.out; omega), List.append_assoc] at hwr2
        go_wp2_with fail
        go_roundw
        case rel =>
          refine ⟨0, by omega, by go_num, ?_, hbel.trans hbel2⟩
          rw [show W - 0 = (W - r) + r from by omega, nbits_add]
          simpa using hwr2
        case measure => have := H0.out; simp [intOf]; omega

end Go.Proofs.Yteemncpmcfflmaa
