/-
  The reference's row and fits.
-/
import Derived.Test.YteemncpmcfflmaaZgPut
import Derived.Test.YteemncpmcfflmaaRefS
namespace Go.Proofs.Yteemncpmcfflmaa
open Go.RowKit Pl
set_option linter.unusedVariables false

set_option maxRecDepth 100000 in
set_option maxHeartbeats 2000000 in
theorem rrow_any (k : Nat) (hk : k ≤ 5) (w : World) :
    Calls Try.prog 26 #[.int .i64 (k : Int)] w fun e w' => e = .returned (.tuple #[.int .i64 (k : Int), .int .i64 (wid k : Nat)]) ∧ Below w.heap.size w w' := by
  obtain rfl | rfl | rfl | rfl | rfl | rfl : k = 0 ∨ k = 1 ∨ k = 2 ∨ k = 3 ∨ k = 4 ∨ k = 5 := by omega
  all_goals
    clear hk
    go_enter Try.func26, Try.ntmps26
    go_wp2_with fail
    go_region
    all_goals
      go_wp2_with fail
      go_ret2
      exact ⟨rfl, ((Below.refl _ _).alloc (Nat.le_refl _) _).drew⟩

theorem row_fits {n k : Nat} (hk : k ≤ 5) : row n ≤ k ↔ k = 5 ∨ n / 2 ^ wid k = 0 := by
  have h := row_cases n
  obtain rfl | rfl | rfl | rfl | rfl | rfl : k = 0 ∨ k = 1 ∨ k = 2 ∨ k = 3 ∨ k = 4 ∨ k = 5 := by omega
  · show row n ≤ 0 ↔ 0 = 5 ∨ n / 2 ^ 0 = 0; rw [Nat.pow_zero]; omega
  · show row n ≤ 1 ↔ 1 = 5 ∨ n / 2 ^ 7 = 0; rw [show (2 : Nat) ^ 7 = 128 from by decide]; omega
  · show row n ≤ 2 ↔ 2 = 5 ∨ n / 2 ^ 9 = 0; rw [show (2 : Nat) ^ 9 = 512 from by decide]; omega
  · show row n ≤ 3 ↔ 3 = 5 ∨ n / 2 ^ 12 = 0; rw [show (2 : Nat) ^ 12 = 4096 from by decide]; omega
  · show row n ≤ 4 ↔ 4 = 5 ∨ n / 2 ^ 32 = 0; rw [show (2 : Nat) ^ 32 = 4294967296 from by decide]; omega
  · exact ⟨fun _ => .inl rfl, fun _ => by omega⟩

set_option maxRecDepth 100000 in
set_option maxHeartbeats 2000000 in
theorem rfits_any (n k : Nat) (hk : k ≤ 5) (w : World) :
    Calls Try.prog 25 #[.int .u64 (n : Int), .int .i64 (k : Int)] w fun e w' => e = .returned (.bool (decide (row n ≤ k))) ∧ Below w.heap.size w w' := by
  have hf := row_fits (n := n) hk
  obtain ⟨b, hb⟩ : ∃ b, decide (row n ≤ k) = b := ⟨_, rfl⟩
  rw [hb]
  have HR := Lib.hid (rrow_any k hk)
  obtain rfl | rfl | rfl | rfl | rfl | rfl : k = 0 ∨ k = 1 ∨ k = 2 ∨ k = 3 ∨ k = 4 ∨ k = 5 := by omega
  · have t : ((n : Int) == 0) = b := by
      rw [← hb]; rw [Bool.eq_iff_iff, beq_iff_eq, decide_eq_true_eq, hf]
      rw [show wid 0 = 0 from rfl, Nat.pow_zero]; omega
    clear hf hb
    go_enter Try.func25, Try.ntmps25
    go_wp2_with fail
    refine (HR.out _).mono ?_
    rintro e w1 ⟨rfl, hb1⟩
    rw [show wid 0 = 0 from rfl]
    go_wp2_with fail
    go_ret
    exact ⟨rfl, hb1⟩
  · have t : ((n : Int) / 128 == 0) = b := by
      rw [← hb]; rw [Bool.eq_iff_iff, beq_iff_eq, decide_eq_true_eq, hf]
      rw [show wid 1 = 7 from rfl, show (2 : Nat) ^ 7 = 128 from by decide]; omega
    clear hf hb
    go_enter Try.func25, Try.ntmps25
    go_wp2_with fail
    refine (HR.out _).mono ?_
    rintro e w1 ⟨rfl, hb1⟩
    rw [show wid 1 = 7 from rfl]
    go_wp2_with fail
    go_ret
    exact ⟨rfl, hb1⟩
  · have t : ((n : Int) / 512 == 0) = b := by
      rw [← hb]; rw [Bool.eq_iff_iff, beq_iff_eq, decide_eq_true_eq, hf]
      rw [show wid 2 = 9 from rfl, show (2 : Nat) ^ 9 = 512 from by decide]; omega
    clear hf hb
    go_enter Try.func25, Try.ntmps25
    go_wp2_with fail
    refine (HR.out _).mono ?_
    rintro e w1 ⟨rfl, hb1⟩
    rw [show wid 2 = 9 from rfl]
    go_wp2_with fail
    go_ret
    exact ⟨rfl, hb1⟩
  · have t : ((n : Int) / 4096 == 0) = b := by
      rw [← hb]; rw [Bool.eq_iff_iff, beq_iff_eq, decide_eq_true_eq, hf]
      rw [show wid 3 = 12 from rfl, show (2 : Nat) ^ 12 = 4096 from by decide]; omega
    clear hf hb
    go_enter Try.func25, Try.ntmps25
    go_wp2_with fail
    refine (HR.out _).mono ?_
    rintro e w1 ⟨rfl, hb1⟩
    rw [show wid 3 = 12 from rfl]
    go_wp2_with fail
    go_ret
    exact ⟨rfl, hb1⟩
  · have t : ((n : Int) / 4294967296 == 0) = b := by
      rw [← hb]; rw [Bool.eq_iff_iff, beq_iff_eq, decide_eq_true_eq, hf]
      rw [show wid 4 = 32 from rfl, show (2 : Nat) ^ 32 = 4294967296 from by decide]; omega
    clear hf hb
    go_enter Try.func25, Try.ntmps25
    go_wp2_with fail
    refine (HR.out _).mono ?_
    rintro e w1 ⟨rfl, hb1⟩
    rw [show wid 4 = 32 from rfl]
    go_wp2_with fail
    go_ret
    exact ⟨rfl, hb1⟩
  · obtain rfl : b = true := by rw [← hb]; exact decide_eq_true (hf.2 (.inl rfl))
    clear hf hb
    go_enter Try.func25, Try.ntmps25
    go_wp2_with fail
    refine (HR.out _).mono ?_
    rintro e w1 ⟨rfl, hb1⟩
    rw [show wid 5 = 64 from rfl]
    go_wp2_with fail
    go_ret
    exact ⟨rfl, hb1⟩
end Go.Proofs.Yteemncpmcfflmaa
