/-
  Fold and Unfold: the program's and the reference's.
-/
import Derived.Test.YteemncpmcfflmaaProg
import Derived.Test.YteemncpmcfflmaaBase
import Derived.Test.YteemncpmcfflmaaZgPl
namespace Go.Proofs.Yteemncpmcfflmaa
open Go.RowKit Pl
set_option linter.unusedVariables false

theorem fold_any (v : Int) (w : World) (h : I64 v) :
    Calls Try.prog 12 #[.int .i64 v] w fun e w' => e = .returned (.int .u64 (fold v : Nat)) ∧ w = w' := by
  have H := Lib.hid h
  clear h
  go_enter Try.func12, Try.ntmps12
  go_wp2
  go_ret
  refine ⟨ret_int ?_, rfl⟩
  by_cases h0 : 0 ≤ v
  · exact fold_pos H.out h0
  · exact fold_neg H.out h0
theorem rfold_any (v : Int) (w : World) (h : I64 v) :
    Calls Try.prog 13 #[.int .i64 v] w fun e w' => e = .returned (.int .u64 (fold v : Nat)) ∧ w = w' := by
  have h0 := h.1
  have h1 := h.2
  clear h
  go_enter Try.func13, Try.ntmps13
  go_wp2
  all_goals
    go_ret
    exact ⟨ret_int (by unfold fold; split <;> omega), rfl⟩
theorem unfold_any (n : Nat) (w : World) (h : U64 n) :
    Calls Try.prog 14 #[.int .u64 (n : Int)] w fun e w' => e = .returned (.int .i64 (unfold n)) ∧ w = w' := by
  have H := Lib.hid h
  clear h
  go_enter Try.func14, Try.ntmps14
  go_wp2
  go_ret
  refine ⟨ret_int ?_, rfl⟩
  have h := H.out
  rw [and_odd n h]
  simp only [U64] at h
  have e1 : wrap64 ((n : Int) / 2) = ((n / 2 : Nat) : Int) := by unfold wrap64; omega
  have e2 : wrap64 ((n % 2 : Nat) : Int) = ((n % 2 : Nat) : Int) := by unfold wrap64; omega
  rw [e1, e2]
  unfold unfold
  by_cases h0 : n % 2 = 0
  · rw [if_pos h0, h0]
    have e3 : wrap64 (-((0 : Nat) : Int)) = 0 := by unfold wrap64; omega
    rw [e3]
    exact xor_i64_zero (by omega)
  · rw [if_neg h0, show n % 2 = 1 from by omega]
    have e3 : wrap64 (-((1 : Nat) : Int)) = -1 := by unfold wrap64; omega
    rw [e3]
    exact xor_i64_all (by omega)
theorem runfold_any (n : Nat) (w : World) (h : U64 n) :
    Calls Try.prog 15 #[.int .u64 (n : Int)] w fun e w' => e = .returned (.int .i64 (unfold n)) ∧ w = w' := by
  have H := Lib.hid h
  clear h
  by_cases h0 : n % 2 = 0
  · have t : ((n : Int) % 2 == 0) = true := beq_iff_eq.2 (by omega)
    go_enter Try.func15, Try.ntmps15
    go_wp2
    all_goals
      go_ret
      refine ⟨ret_int ?_, rfl⟩
      have h := H.out
      simp only [U64] at h
      unfold unfold
      rw [if_pos h0, wrap_u64]
      unfold wrap64
      omega
  · have t : ((n : Int) % 2 == 0) = false := beq_eq_false_iff_ne.2 (by omega)
    go_enter Try.func15, Try.ntmps15
    go_wp2
    all_goals
      go_ret
      refine ⟨ret_int ?_, rfl⟩
      have h := H.out
      simp only [U64] at h
      unfold unfold
      rw [if_neg h0, wrap_u64]
      unfold wrap64
      omega
end Go.Proofs.Yteemncpmcfflmaa
