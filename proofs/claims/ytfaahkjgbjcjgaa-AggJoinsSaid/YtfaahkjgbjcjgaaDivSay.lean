/-
  math/bits.Div64: for every first digit below the divisor, nought too.
-/
import Derived.Test.YtfaahkjgbjcjgaaDivAny
import Derived.Deep.Draws
namespace Go.Proofs.Ytfaahkjgbjcjgaa
open Go.RowKit
set_option linter.unusedVariables false

set_option maxHeartbeats 1000000 in
theorem div64_zero (lo y : Nat) (hlo : lo < 18446744073709551616) (hy : 0 < y) (w : World) :
    Calls Try.prog 19 #[.int .u64 0, .int .u64 lo, .int .u64 y] w fun e w' => e = .returned (.tuple #[.int .u64 (lo / y : Nat), .int .u64 (lo % y : Nat)]) ∧ w.drewN 1 = w' := by
  have t1 : ((y : Int) == 0) = false := beq_eq_false_iff_ne.2 (by omega)
  have t2 : decide ((y : Int) ≤ 0) = false := decide_eq_false (by omega)
  have t3 : ¬ (y : Int) = 0 := by omega
  have h0 : (0 : Int) ≤ (lo : Int) := by omega
  have hw : IntKind.u64.wrap ((lo : Int).tdiv (y : Int)) = ((lo / y : Nat) : Int) := by
    rw [Int.tdiv_eq_ediv_of_nonneg h0]; exact quo_nat hlo
  have hw2 : IntKind.u64.wrap ((lo : Int) / (y : Int)) = ((lo / y : Nat) : Int) := quo_nat hlo
  clear hlo hy
  go_enter Try.func19, Try.ntmps19
  go_wp2_with fail
  go_region
  all_goals (go_wp2_with fail)
  all_goals (go_ret2; exact ⟨by simp, rfl⟩)

theorem div64_say (hi lo y : Nat) (hy : hi < y) (hyM : y < 18446744073709551616) (hlo : lo < 18446744073709551616) (w : World) :
    Calls Try.prog 19 #[.int .u64 hi, .int .u64 lo, .int .u64 y] w fun e w' => e = .returned (.tuple #[.int .u64 ((hi * 18446744073709551616 + lo) / y : Nat), .int .u64 ((hi * 18446744073709551616 + lo) % y : Nat)]) ∧ ∃ k, w.drewN k = w' := by
  by_cases h : hi = 0
  · subst h
    refine (div64_zero lo y hlo hy w).mono fun e w' h => ⟨?_, 1, h.2⟩
    rw [h.1, Nat.zero_mul, Nat.zero_add]
  · exact (div64_any hi lo y (by omega) hy hyM hlo w).mono fun e w' h => ⟨h.1, 0, h.2⟩
end Go.Proofs.Ytfaahkjgbjcjgaa
