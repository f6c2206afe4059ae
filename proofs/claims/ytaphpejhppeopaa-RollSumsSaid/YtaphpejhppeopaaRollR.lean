/-
  Sums that go on: the reference's products, one bit more, halves joined.
-/
import Derived.Test.YtaphpejhppeopaaRollC
namespace Go.Proofs.Ytaphpejhppeopaa
open Go.RowKit
set_option linter.unusedVariables false

theorem and_one64 {b k : Nat} (hb : N64 b) : bits .and .u64 ((b : Int) / 2 ^ k) 1 = ((b / 2 ^ k % 2 : Nat) : Int) := by
  rw [shr_nat, show (1 : Int) = ((1 : Nat) : Int) from rfl, bits_and_u64_nat _ _ (Nat.lt_of_le_of_lt (Nat.div_le_self _ _) hb) (by omega), Nat.and_one_is_mod]
theorem add_wrap {x y : Nat} (hx : x < P) (hy : y < P) : IntKind.u64.wrap ((x : Int) + (y : Int)) = ((x + y : Nat) : Int) := by
  rw [P_val] at *; rw [IntKind.wrap_u64]; omega
theorem mul_step {a b k : Nat} (h : b / 2 ^ k % 2 = 1) : (a * (b % 2 ^ k) % P + a * 2 ^ k % P) % P = a * (b % 2 ^ (k + 1)) % P := by
  rw [← Nat.add_mod, ← Nat.mul_add, Nat.mod_pow_succ, h, Nat.mul_one]
theorem mul_skip {a b k : Nat} (h : b / 2 ^ k % 2 = 0) : a * (b % 2 ^ k) % P = a * (b % 2 ^ (k + 1)) % P := by
  rw [Nat.mod_pow_succ, h, Nat.mul_zero, Nat.add_zero]
theorem mul_twice {a k : Nat} : (a * 2 ^ k % P + a * 2 ^ k % P) % P = a * 2 ^ (k + 1) % P := by
  rw [← Nat.add_mod, ← Nat.mul_add, Nat.pow_succ, Nat.mul_two]

set_option maxRecDepth 100000 in
set_option maxHeartbeats 2000000 in
theorem rtimes_any (a b : Nat) (hb : N64 b) (w : World) :
    Calls Try.prog 21 #[.int .u64 a, .int .u64 b] w fun e w' => e = .returned (.int .u64 ((a * b % P : Nat) : Int)) ∧ w = w' := by
  obtain ⟨R, hR⟩ : ∃ R, a * b % P = R := ⟨_, rfl⟩
  have HR := Lib.hid hR
  have HM := Lib.hid (mod_nat a)
  have HB := Lib.hid hb
  rw [hR]
  clear hb hR
  go_enter Try.func21, Try.ntmps21
  go_wp2_with fail
  go_loop [0, 5, 6] (fun s0 s5 s6 => ∃ k x o : Nat, k ≤ 64 ∧ s6 = .int .i64 k ∧ s0 = .int .u64 x ∧ s5 = .int .u64 o ∧ Hid (x = a * 2 ^ k % P) ∧ Hid (o = a * (b % 2 ^ k) % P)) (fun _ _ s6 => 64 - (intOf s6).toNat)
  case atStart => exact ⟨0, a % P, 0, by omega, rfl, by rw [HM.out], rfl, Lib.hid (by rw [Nat.pow_zero, Nat.mul_one]), Lib.hid (by rw [Nat.pow_zero, Nat.mod_one, Nat.mul_zero, Nat.zero_mod])⟩
  case round =>
    obtain ⟨k, x, o, hk, rfl, rfl, rfl, HX, HO⟩ := hrel
    have hk' : (k : Int) ≤ 64 := by omega
    by_cases h0 : k = 64
    · have ho : R = o := by rw [HO.out, h0, ← HR.out, Nat.mod_eq_of_lt (a := b) HB.out]
      have hd : decide ((k : Int) < 64) = false := decide_eq_false (by omega)
      subst ho
      clear h0
      go_wp2_with fail
      go_ret
      exact ⟨rfl, rfl⟩
    · have hd : decide ((k : Int) < 64) = true := decide_eq_true (by omega)
      have hkI : (k : Int) ≤ 63 := by omega
      have hxP : x < P := by rw [HX.out]; exact Nat.mod_lt _ P_pos
      have hoP : o < P := by rw [HO.out]; exact Nat.mod_lt _ P_pos
      have f1 := and_one64 (k := k) HB.out
      have f2 := add_wrap hxP hxP
      have f3 := mod_nat (x + x)
      obtain ⟨x2, hx2⟩ : ∃ x2, (x + x) % P = x2 := ⟨_, rfl⟩
      obtain ⟨xx, hxx⟩ : ∃ x2, x + x = x2 := ⟨_, rfl⟩
      rw [hx2] at f3
      rw [hxx] at f2 f3
      have HX2 : Hid (x2 = a * 2 ^ (k + 1) % P) := Lib.hid (by rw [← hx2, HX.out]; exact mul_twice)
      have f4 := add_wrap hoP hxP
      have f5 := mod_nat (o + x)
      obtain ⟨o2, ho2⟩ : ∃ x2, (o + x) % P = x2 := ⟨_, rfl⟩
      obtain ⟨ox, hox⟩ : ∃ x2, o + x = x2 := ⟨_, rfl⟩
      rw [ho2] at f5
      rw [hox] at f4 f5
      have F3 := Lib.hid f3
      have F5 := Lib.hid f5
      by_cases hbit : b / 2 ^ k % 2 = 1
      · rw [hbit] at f1
        have HO2 : Hid (o2 = a * (b % 2 ^ (k + 1)) % P) := Lib.hid (by rw [← ho2, HX.out, HO.out]; exact mul_step hbit)
        clear hbit hx2 hxx ho2 hox hxP hoP h0 f3 f5
        go_wp2_with fail
        go_round
        case rel => exact ⟨k + 1, x2, o2, by omega, by go_num, by rw [F3.out], by rw [F5.out], HX2, HO2⟩
        case measure => simp [intOf]; omega
      · have hb0 : b / 2 ^ k % 2 = 0 := by omega
        rw [hb0] at f1
        have HO2 : Hid (o = a * (b % 2 ^ (k + 1)) % P) := Lib.hid (by rw [← mul_skip hb0]; exact HO.out)
        clear hbit hb0 hx2 hxx ho2 hox hxP hoP h0 f3 f5 f4
        go_wp2_with fail
        go_round
        case rel => exact ⟨k + 1, x2, o, by omega, by go_num, by rw [F3.out], rfl, HX2, HO2⟩
        case measure => simp [intOf]; omega

set_option maxHeartbeats 1000000 in
theorem rnext_any (s : Nat) (one : Bool) (w : World) :
    Calls Try.prog 10 #[.int .u64 s, .bool one] w fun e w' => e = .returned (.int .u64 (nextN s one : Nat)) ∧ w = w' := by
  have ht := rtimes_any s 1000000007 (by unfold N64; omega)
  obtain ⟨x, hx⟩ : ∃ x, s * 1000000007 % P = x := ⟨_, rfl⟩
  rw [hx] at ht
  have hxP : x < P := by rw [← hx]; exact Nat.mod_lt _ P_pos
  have HT : Hid (∀ wx, Calls Try.prog 21 #[.int .u64 s, .int .u64 1000000007] wx fun e w' => e = .returned (.int .u64 (x : Nat)) ∧ wx = w') := Lib.hid ht
  have w1 : IntKind.u64.wrap ((x : Int) + 1) = ((x + 1 : Nat) : Int) := by rw [P_val] at hxP; rw [IntKind.wrap_u64]; omega
  have w2 : IntKind.u64.wrap ((x : Int) + 2) = ((x + 2 : Nat) : Int) := by rw [P_val] at hxP; rw [IntKind.wrap_u64]; omega
  obtain ⟨x1, h1⟩ : ∃ y, x + 1 = y := ⟨_, rfl⟩
  obtain ⟨x2, h2⟩ : ∃ y, x + 2 = y := ⟨_, rfl⟩
  rw [h1] at w1
  rw [h2] at w2
  have HM1 : Hid ((x1 : Int) % 2305843009213693951 = (nextN s false : Nat)) := Lib.hid (by rw [mod_nat, ← h1, ← hx, Nat.mod_add_mod]; rfl)
  have HM2 : Hid ((x2 : Int) % 2305843009213693951 = (nextN s true : Nat)) := Lib.hid (by rw [mod_nat, ← h2, ← hx, Nat.mod_add_mod]; rfl)
  clear ht hx hxP h1 h2
  cases one
  · go_enter Try.func10, Try.ntmps10
    go_wp2_with fail
    refine (HT.out _).mono ?_
    rintro e w1 ⟨rfl, rfl⟩
    go_wp2_with fail
    go_ret
    refine ⟨?_, rfl⟩
    rw [← HM1.out]
    rfl
  · go_enter Try.func10, Try.ntmps10
    go_wp2_with fail
    refine (HT.out _).mono ?_
    rintro e w1 ⟨rfl, rfl⟩
    go_wp2_with fail
    go_ret
    refine ⟨?_, rfl⟩
    rw [← HM2.out]
    rfl

theorem rj_fin {o : Nat} (b : Nat) (ho : o < P) : IntKind.u64.wrap ((o : Int) + (b : Int) % 2305843009213693951) % 2305843009213693951 = (((o + b) % P : Nat) : Int) := by
  rw [mod_nat b, add_wrap ho (Nat.mod_lt _ P_pos), mod_nat, Nat.add_mod_mod]

set_option maxRecDepth 100000 in
set_option maxHeartbeats 1000000 in
theorem rjoin_any (a b : Nat) (n : Int) (hn : -9223372036854775808 ≤ n ∧ n ≤ 9223372036854775807) (w : World) :
    Calls Try.prog 12 #[.int .u64 a, .int .u64 b, .int .i64 n] w fun e w' => e = .returned (.int .u64 (joinN a b n.toNat : Nat)) ∧ w = w' := by
  have HMA := Lib.hid (mod_nat a)
  by_cases hn0 : n ≤ 0
  · have hd : decide (0 < n) = false := decide_eq_false (by omega)
    have HE : Hid ((a % P + b) % P = joinN a b n.toNat) := Lib.hid (by rw [show n.toNat = 0 from by omega]; unfold joinN; rw [Nat.pow_zero, Nat.mul_one, Nat.mod_add_mod])
    have hx : a % P < P := Nat.mod_lt _ P_pos
    obtain ⟨x, hx2⟩ : ∃ x, a % P = x := ⟨_, rfl⟩
    rw [hx2] at HMA HE hx
    have HX := Lib.hid hx
    clear hx hx2 hn hn0
    go_enter Try.func12, Try.ntmps12
    go_wp2_with fail
    go_loop [0, 2, 7] (fun s0 s2 s7 => s0 = .int .u64 x ∧ s2 = .int .i64 n ∧ s7 = .int .u64 1000000007) (fun _ _ _ => 0)
    case atStart => exact ⟨by rw [HMA.out], rfl, rfl⟩
    case round =>
      obtain ⟨rfl, rfl, rfl⟩ := hrel
      go_wp2_with fail
      go_ret
      refine ⟨?_, rfl⟩
      rw [← HE.out, ← rj_fin b HX.out]
      rfl
  · obtain ⟨N, rfl⟩ := Int.eq_ofNat_of_zero_le (a := n) (by omega)
    rw [Int.toNat_natCast]
    have hN : (N : Int) ≤ 9223372036854775807 := hn.2
    obtain ⟨R, hR⟩ : ∃ R, joinN a b N = R := ⟨_, rfl⟩
    rw [hR]
    have HR := Lib.hid hR
    have HX0 : Hid (a % P < P) := Lib.hid (Nat.mod_lt _ P_pos)
    obtain ⟨x0, hx0⟩ : ∃ x, a % P = x := ⟨_, rfl⟩
    rw [hx0] at HMA HX0
    have HX := Lib.hid hx0
    clear hn hn0 hR hx0
    go_enter Try.func12, Try.ntmps12
    go_wp2_with fail
    go_loop [0, 2, 7] (fun s0 s2 s7 => ∃ m o k : Nat, m ≤ N ∧ s2 = .int .i64 m ∧ s0 = .int .u64 o ∧ s7 = .int .u64 k ∧ Hid (o * k ^ m % P = a * 1000000007 ^ N % P) ∧ Hid (o < P) ∧ Hid (N64 k)) (fun _ s2 _ => (intOf s2).toNat)
    case atStart => exact ⟨N, x0, 1000000007, Nat.le_refl _, rfl, by rw [HMA.out], rfl, Lib.hid (by rw [← HX.out, Nat.mod_mul_mod]), HX0, Lib.hid (by unfold N64; omega)⟩
    case round =>
      obtain ⟨m, o, k, hm, rfl, rfl, rfl, H1, H2, H3⟩ := hrel
      by_cases h0 : m = 0
      · have HRo : Hid (R = (o + b) % P) := Lib.hid (by
          have := H1.out
          rw [h0, Nat.pow_zero, Nat.mul_one, Nat.mod_eq_of_lt H2.out] at this
          rw [← HR.out, this]; unfold joinN; rw [Nat.mod_add_mod])
        subst h0
        go_wp2_with fail
        go_ret
        refine ⟨?_, rfl⟩
        rw [HRo.out, ← rj_fin b H2.out]
        rfl
      · have hd : decide (0 < m) = true := decide_eq_true (by omega)
        have ht2 := rtimes_any k k H3.out
        obtain ⟨x2, hx2⟩ : ∃ x, k * k % P = x := ⟨_, rfl⟩
        rw [hx2] at ht2
        have HT2 := Lib.hid ht2
        have HX2 := Lib.hid hx2
        have HM0 := Lib.hid h0
        have hm' : (m : Int) ≤ 9223372036854775807 := by omega
        clear h0 ht2 hx2
        by_cases hodd : m % 2 = 1
        · have hd2 : ((m : Int) % 2 == 1) = true := by rw [beq_iff_eq]; omega
          have ht1 := rtimes_any o k H3.out
          obtain ⟨x1, hx1⟩ : ∃ x, o * k % P = x := ⟨_, rfl⟩
          rw [hx1] at ht1
          have HT1 := Lib.hid ht1
          have HX1 := Lib.hid hx1
          have HO := Lib.hid hodd
          clear hodd ht1 hx1
          go_wp2_with fail
          refine (HT1.out _).mono ?_
          rintro e w1 ⟨rfl, rfl⟩
          go_wp2_with fail
          refine (HT2.out _).mono ?_
          rintro e w1 ⟨rfl, rfl⟩
          go_wp2_with fail
          go_round
          case rel => exact ⟨m / 2, x1, x2, by omega, by go_num, rfl, rfl, Lib.hid (by rw [← HX1.out, ← HX2.out, pow_odd HO.out]; exact H1.out), Lib.hid (by rw [← HX1.out]; exact Nat.mod_lt _ P_pos), Lib.hid (by rw [← HX2.out]; exact N64.mod _)⟩
          case measure => have := HM0.out; simp [intOf]; omega
        · have hd2 : ((m : Int) % 2 == 1) = false := by rw [beq_eq_false_iff_ne]; omega
          have HO := Lib.hid (show m % 2 = 0 by omega)
          clear hodd
          go_wp2_with fail
          refine (HT2.out _).mono ?_
          rintro e w1 ⟨rfl, rfl⟩
          go_wp2_with fail
          go_round
          case rel => exact ⟨m / 2, o, x2, by omega, by go_num, rfl, rfl, Lib.hid (by rw [← HX2.out, pow_even HO.out]; exact H1.out), H2, Lib.hid (by rw [← HX2.out]; exact N64.mod _)⟩
          case measure => have := HM0.out; simp [intOf]; omega
end Go.Proofs.Ytaphpejhppeopaa
