/-
  Sums that go on: the key's powers, halves joined: the program's.
-/
import Derived.Test.YtaphpejhppeopaaRollA
namespace Go.Proofs.Ytaphpejhppeopaa
open Go.RowKit
set_option linter.unusedVariables false

/-- The key so many times by itself. -/
def powN (n : Nat) : Nat := 1000000007 ^ n % P

theorem pow_odd {o k m : Nat} (h : m % 2 = 1) : o * k % P * (k * k % P) ^ (m / 2) % P = o * k ^ m % P := by
  have h1 : m = 2 * (m / 2) + 1 := by omega
  rw [Nat.mul_mod, Nat.mod_mod, ← Nat.pow_mod, ← Nat.mul_mod]
  conv => rhs; rw [h1, Nat.pow_succ, Nat.pow_mul, Nat.pow_two]
  congr 1
  rw [Nat.mul_assoc, Nat.mul_comm k]
theorem pow_even {o k m : Nat} (h : m % 2 = 0) : o * (k * k % P) ^ (m / 2) % P = o * k ^ m % P := by
  have h1 : m = 2 * (m / 2) := by omega
  rw [Nat.mul_mod, ← Nat.pow_mod, ← Nat.mul_mod]
  conv => rhs; rw [h1, Nat.pow_mul, Nat.pow_two]

set_option maxRecDepth 100000 in
set_option maxHeartbeats 1000000 in
theorem power_any (n : Int) (hn : -9223372036854775808 ≤ n ∧ n ≤ 9223372036854775807) (w : World) :
    Calls Try.prog 22 #[.int .i64 n] w fun e w' => e = .returned (.int .u64 (powN n.toNat : Nat)) ∧ ∃ k, w.drewN k = w' := by
  by_cases hn0 : n ≤ 0
  · have hd : decide (0 < n) = false := decide_eq_false (by omega)
    have e : powN n.toNat = 1 := by rw [show n.toNat = 0 from by omega]; rfl
    rw [e]
    clear e hn0
    go_enter Try.func22, Try.ntmps22
    go_wp2_with fail
    go_loopw [0, 3, 4] (fun s0 s3 s4 wr => s0 = .int .i64 n ∧ s3 = .int .u64 1 ∧ wr = w) (fun _ _ _ _ => 0)
    case atStart => exact ⟨rfl, rfl, rfl⟩
    case round =>
      obtain ⟨rfl, rfl, rfl⟩ := hrel
      go_wp2_with fail
      go_ret
      exact ⟨rfl, 0, rfl⟩
  · obtain ⟨N, rfl⟩ := Int.eq_ofNat_of_zero_le (a := n) (by omega)
    rw [Int.toNat_natCast]
    have hN : (N : Int) ≤ 9223372036854775807 := hn.2
    obtain ⟨R, hR⟩ : ∃ R, powN N = R := ⟨_, rfl⟩
    rw [hR]
    have HR := Lib.hid hR
    clear hn hn0 hR
    go_enter Try.func22, Try.ntmps22
    go_wp2_with fail
    go_loopw [0, 3, 4] (fun s0 s3 s4 wr => ∃ m o k j : Nat, m ≤ N ∧ s0 = .int .i64 m ∧ s3 = .int .u64 o ∧ s4 = .int .u64 k ∧ Hid (o * k ^ m % P = R) ∧ Hid (o < P) ∧ Hid (N64 k) ∧ wr = w.drewN j) (fun s0 _ _ _ => (intOf s0).toNat)
    case atStart => exact ⟨N, 1, 1000000007, 0, Nat.le_refl _, rfl, rfl, rfl, Lib.hid (by rw [Nat.one_mul]; exact HR.out), Lib.hid (by rw [P_val]; omega), Lib.hid (by unfold N64; omega), rfl⟩
    case round =>
      obtain ⟨m, o, k, j, hm, rfl, rfl, rfl, H1, H2, H3, rfl⟩ := hrel
      have ho : N64 o := by have := H2.out; rw [P_val] at this; unfold N64; omega
      by_cases h0 : m = 0
      · subst h0
        have hRo : R = o := by rw [← H1.out, Nat.pow_zero, Nat.mul_one, Nat.mod_eq_of_lt H2.out]
        subst hRo
        go_wp2_with fail
        go_ret
        exact ⟨rfl, j, rfl⟩
      · have hd : decide (0 < m) = true := decide_eq_true (by omega)
        have ht2 := times_any k k H3.out H3.out
        obtain ⟨x2, hx2⟩ : ∃ x, k * k % P = x := ⟨_, rfl⟩
        rw [hx2] at ht2
        have HT2 := Lib.hid ht2
        have HX2 := Lib.hid hx2
        clear ht2 hx2
        have HM0 := Lib.hid h0
        have hm' : (m : Int) ≤ 9223372036854775807 := by omega
        clear h0
        by_cases hodd : m % 2 = 1
        · have hd2 : ((m : Int) % 2 != 0) = true := by rw [bne_iff_ne]; omega
          have ht1 := times_any o k ho H3.out
          obtain ⟨x1, hx1⟩ : ∃ x, o * k % P = x := ⟨_, rfl⟩
          rw [hx1] at ht1
          have HT1 := Lib.hid ht1
          have HX1 := Lib.hid hx1
          clear ht1 hx1
          have HO := Lib.hid hodd
          clear hodd ho
          go_wp2_with fail
          refine (HT1.out _).mono ?_
          rintro e w1 ⟨rfl, j1, rfl⟩
          go_wp2_with fail
          refine (HT2.out _).mono ?_
          rintro e w1 ⟨rfl, j2, rfl⟩
          go_wp2_with fail
          go_roundw
          case rel => exact ⟨m / 2, x1, x2, _, by omega, by go_num, rfl, rfl, Lib.hid (by rw [← HX1.out, ← HX2.out, pow_odd HO.out]; exact H1.out), Lib.hid (by rw [← HX1.out]; exact Nat.mod_lt _ P_pos), Lib.hid (by rw [← HX2.out]; exact N64.mod _), rfl⟩
          case measure => have := HM0.out; simp [intOf]; omega
        · have hd2 : ((m : Int) % 2 != 0) = false := by rw [bne_eq_false_iff_eq]; omega
          have HO := Lib.hid (show m % 2 = 0 by omega)
          clear hodd ho
          go_wp2_with fail
          refine (HT2.out _).mono ?_
          rintro e w1 ⟨rfl, j2, rfl⟩
          go_wp2_with fail
          go_roundw
          case rel => exact ⟨m / 2, o, x2, _, by omega, by go_num, rfl, rfl, Lib.hid (by rw [← HX2.out, pow_even HO.out]; exact H1.out), H2, Lib.hid (by rw [← HX2.out]; exact N64.mod _), rfl⟩
          case measure => have := HM0.out; simp [intOf]; omega

/-- Halves joined. -/
def joinN (a b n : Nat) : Nat := (a * 1000000007 ^ n + b) % P

theorem joinN_eq (a b n : Nat) : (a * powN n % P + b) % P = joinN a b n := by
  unfold powN joinN
  rw [Nat.mod_add_mod, Nat.add_mod, Nat.mul_mod_mod, ← Nat.add_mod]

set_option maxHeartbeats 1000000 in
theorem join_any (a b : Nat) (ha : N64 a) (n : Int) (hn : -9223372036854775808 ≤ n ∧ n ≤ 9223372036854775807) (w : World) :
    Calls Try.prog 11 #[.int .u64 a, .int .u64 b, .int .i64 n] w fun e w' => e = .returned (.int .u64 (joinN a b n.toNat : Nat)) ∧ ∃ k, w.drewN k = w' := by
  have hN : N64 (powN n.toNat) := N64.mod _
  have hp := plus_any (a * powN n.toNat % P) b
  rw [joinN_eq] at hp
  have hw := power_any n hn
  have ht := times_any a (powN n.toNat) ha hN
  obtain ⟨x, hx⟩ : ∃ x, a * powN n.toNat % P = x := ⟨_, rfl⟩
  obtain ⟨y, hy⟩ : ∃ x, powN n.toNat = x := ⟨_, rfl⟩
  obtain ⟨z, hz⟩ : ∃ x, joinN a b n.toNat = x := ⟨_, rfl⟩
  rw [hx] at hp ht
  rw [hy] at ht hw
  rw [hz] at hp ⊢
  have HP := Lib.hid hw
  have HT := Lib.hid ht
  have HS := Lib.hid hp
  clear hp hn hN ha hx hy hz hw ht
  go_enter Try.func11, Try.ntmps11
  go_wp2_with fail
  refine (HP.out _).mono ?_
  rintro e w1 ⟨rfl, j1, rfl⟩
  go_wp2_with fail
  refine (HT.out _).mono ?_
  rintro e w1 ⟨rfl, j2, rfl⟩
  go_wp2_with fail
  refine (HS.out _).mono ?_
  rintro e w1 ⟨rfl, rfl⟩
  go_wp2_with fail
  go_ret
  exact ⟨rfl, _, rfl⟩
end Go.Proofs.Ytaphpejhppeopaa
