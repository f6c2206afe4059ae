/-
  Sums that go on: products, sums, one bit more: the program's.
-/
import Derived.Test.YtaphpejhppeopaaDivSay
import Derived.Lib.Mul64
namespace Go.Proofs.Ytaphpejhppeopaa
open Go.RowKit
set_option linter.unusedVariables false

namespace M64
theorem maskN (a : Nat) (ha : a < 18446744073709551616) : bits .and .u64 (a : Int) 4294967295 = ((a % 4294967296 : Nat) : Int) := mask_nat ha
theorem divN (a : Nat) : (a : Int) / 4294967296 = ((a / 4294967296 : Nat) : Int) := by omega
theorem mulN (a b : Nat) : (a : Int) * (b : Int) = ((a * b : Nat) : Int) := (Int.natCast_mul a b).symm
theorem addN (a b : Nat) : (a : Int) + (b : Int) = ((a + b : Nat) : Int) := (Int.natCast_add a b).symm
end M64

set_option maxHeartbeats 1000000 in
theorem mul64_any (x y : Nat) (hx : x < 18446744073709551616) (hy : y < 18446744073709551616) (w : World) :
    Calls Try.prog 29 #[.int .u64 x, .int .u64 y] w fun e w' => e = .returned (.tuple #[.int .u64 ((x * y / 18446744073709551616 : Nat) : Int), .int .u64 ((x * y % 18446744073709551616 : Nat) : Int)]) ∧ w = w' := by
  obtain ⟨bd, bt, bw, hhi⟩ := Lib.mul64_hi x y hx hy
  have ba := Lib.half_mul_le (a := x / 4294967296) (b := y / 4294967296) (by omega) (by omega)
  have bb := Lib.half_mul_le (a := x / 4294967296) (b := y % 4294967296) (by omega) (by omega)
  have bc := Lib.half_mul_le (a := x % 4294967296) (b := y / 4294967296) (by omega) (by omega)
  have ba' : x / 4294967296 * (y / 4294967296) < 18446744073709551616 := by omega
  have bb' : x / 4294967296 * (y % 4294967296) < 18446744073709551616 := by omega
  have bc' : x % 4294967296 * (y / 4294967296) < 18446744073709551616 := by omega
  have bh1 : x / 4294967296 * (y / 4294967296) + (x / 4294967296 * (y % 4294967296) + x % 4294967296 * (y % 4294967296) / 4294967296) / 4294967296 < 18446744073709551616 := by omega
  have bh : x / 4294967296 * (y / 4294967296) + (x / 4294967296 * (y % 4294967296) + x % 4294967296 * (y % 4294967296) / 4294967296) / 4294967296 + ((x / 4294967296 * (y % 4294967296) + x % 4294967296 * (y % 4294967296) / 4294967296) % 4294967296 + x % 4294967296 * (y / 4294967296)) / 4294967296 < 18446744073709551616 := by rw [hhi]; exact Nat.div_lt_of_lt_mul (Nat.mul_lt_mul_of_lt_of_lt hx hy)
  go_enter Try.func29, Try.ntmps29
  go_wp2
  simp only [M64.maskN x hx, M64.maskN y hy, M64.divN, M64.mulN, M64.addN, wrapNat bd, wrapNat bb', wrapNat bt, M64.maskN _ bt, wrapNat bc', wrapNat bw, wrapNat ba', wrapNat bh1, wrapNat bh, wrapMod (x * y)]
  rw [hhi]
  go_ret2
  exact ⟨rfl, rfl⟩

/-- The prime. -/
def P : Nat := 2305843009213693951
theorem P_val : P = 2305843009213693951 := rfl
theorem P_pos : 0 < P := by rw [P_val]; omega
theorem mod_nat (a : Nat) : (a : Int) % 2305843009213693951 = ((a % P : Nat) : Int) := by rw [P_val]; omega
theorem P_int : (2305843009213693951 : Int) = ((P : Nat) : Int) := rfl
/-- A number of 64 bits. -/
def N64 (a : Nat) : Prop := a < 18446744073709551616
theorem N64.mod (a : Nat) : N64 (a % P) := by have := Nat.mod_lt a P_pos; rw [P_val] at this; unfold N64; rw [P_val]; omega

theorem fit_plain (h l : Nat) : (h % P * 18446744073709551616 + l) % P = (h * 18446744073709551616 + l) % P := by
  rw [Nat.add_mod, Nat.mod_mul_mod, ← Nat.add_mod]

set_option maxHeartbeats 1000000 in
theorem fit_any (h l : Nat) (hl : N64 l) (w : World) :
    Calls Try.prog 28 #[.int .u64 h, .int .u64 l] w fun e w' => e = .returned (.int .u64 (((h * 18446744073709551616 + l) % P : Nat) : Int)) ∧ ∃ k, w.drewN k = w' := by
  have hd := div64_say (h % P) l P (Nat.mod_lt _ P_pos) (by rw [P_val]; omega) hl
  rw [fit_plain] at hd
  obtain ⟨q, hq⟩ : ∃ q, (h % P * 18446744073709551616 + l) / P = q := ⟨_, rfl⟩
  rw [hq] at hd
  obtain ⟨r, hr⟩ : ∃ r, (h * 18446744073709551616 + l) % P = r := ⟨_, rfl⟩
  rw [hr] at hd ⊢
  have hm := mod_nat h
  obtain ⟨h', hh⟩ : ∃ h', h % P = h' := ⟨_, rfl⟩
  rw [hh] at hd hm
  have HD : Hid (∀ wx, Calls Try.prog 30 #[.int .u64 h', .int .u64 l, .int .u64 2305843009213693951] wx fun e w' => e = .returned (.tuple #[.int .u64 q, .int .u64 r]) ∧ ∃ k, wx.drewN k = w') := Lib.hid hd
  clear hd hq hr hh hl
  go_enter Try.func28, Try.ntmps28
  go_wp2_with fail
  refine (HD.out _).mono ?_
  rintro e w1 ⟨rfl, k, rfl⟩
  go_wp2_with fail
  go_ret
  exact ⟨rfl, k, rfl⟩

set_option maxHeartbeats 1000000 in
theorem times_any (a b : Nat) (ha : N64 a) (hb : N64 b) (w : World) :
    Calls Try.prog 20 #[.int .u64 a, .int .u64 b] w fun e w' => e = .returned (.int .u64 ((a * b % P : Nat) : Int)) ∧ ∃ k, w.drewN k = w' := by
  have hm := mul64_any a b ha hb
  obtain ⟨x, hx⟩ : ∃ x, a * b / 18446744073709551616 = x := ⟨_, rfl⟩
  obtain ⟨y, hy⟩ : ∃ x, a * b % 18446744073709551616 = x := ⟨_, rfl⟩
  have hf := fit_any x y (by rw [← hy]; unfold N64; omega)
  rw [show x * 18446744073709551616 + y = a * b from by rw [← hx, ← hy]; omega] at hf
  rw [hx, hy] at hm
  obtain ⟨r, hr⟩ : ∃ r, a * b % P = r := ⟨_, rfl⟩
  rw [hr] at hf ⊢
  have HM := Lib.hid hm
  have HF := Lib.hid hf
  clear hm hx hy hf hr ha hb
  go_enter Try.func20, Try.ntmps20
  go_wp2_with fail
  refine (HM.out _).mono ?_
  rintro e w1 ⟨rfl, rfl⟩
  go_wp2_with fail
  refine (HF.out _).mono ?_
  rintro e w1 ⟨rfl, k, rfl⟩
  go_wp2_with fail
  go_ret
  exact ⟨rfl, k, rfl⟩

theorem plus_wrap (a b : Nat) : IntKind.u64.wrap (((a % P : Nat) : Int) + ((b % P : Nat) : Int)) = ((a % P + b % P : Nat) : Int) := by
  have h1 := Nat.mod_lt a P_pos
  have h2 := Nat.mod_lt b P_pos
  rw [P_val] at *
  rw [IntKind.wrap_u64]; omega

set_option maxHeartbeats 1000000 in
theorem plus_any (a b : Nat) (w : World) :
    Calls Try.prog 19 #[.int .u64 a, .int .u64 b] w fun e w' => e = .returned (.int .u64 (((a + b) % P : Nat) : Int)) ∧ w = w' := by
  have m1 := mod_nat a
  have m2 := mod_nat b
  have m3 := plus_wrap a b
  have m4 := mod_nat (a % P + b % P)
  rw [← Nat.add_mod] at m4
  obtain ⟨r, hr⟩ : ∃ r, (a + b) % P = r := ⟨_, rfl⟩
  obtain ⟨x, hx⟩ : ∃ r, a % P = r := ⟨_, rfl⟩
  obtain ⟨y, hy⟩ : ∃ r, b % P = r := ⟨_, rfl⟩
  rw [hr] at m4 ⊢
  rw [hx] at m1 m3 m4
  rw [hy] at m2 m3 m4
  obtain ⟨z, hz⟩ : ∃ r, x + y = r := ⟨_, rfl⟩
  rw [hz] at m3 m4
  clear hr hx hy hz
  go_enter Try.func19, Try.ntmps19
  go_wp2_with fail
  go_ret
  refine ⟨?_, rfl⟩
  show Ending.returned (.int .u64 ((z : Int) % 2305843009213693951)) = _
  rw [m4]

/-- A sum with one bit more. -/
def nextN (s : Nat) (one : Bool) : Nat := (s * 1000000007 + (if one then 2 else 1)) % P

set_option maxHeartbeats 1000000 in
theorem next_any (s : Nat) (hs : N64 s) (one : Bool) (w : World) :
    Calls Try.prog 9 #[.int .u64 s, .bool one] w fun e w' => e = .returned (.int .u64 (nextN s one : Nat)) ∧ ∃ k, w.drewN k = w' := by
  have HT := Lib.hid (times_any s 1000000007 hs (by unfold N64; omega))
  cases one
  · have hp : ∀ wx, Calls Try.prog 19 #[.int .u64 (s * 1000000007 % P : Nat), .int .u64 1] wx fun e w' => e = .returned (.int .u64 (nextN s false : Nat)) ∧ wx = w' := fun wx => by
      have := plus_any (s * 1000000007 % P) 1 wx
      rw [Nat.mod_add_mod] at this
      exact this
    have HP := Lib.hid hp
    clear hp hs
    go_enter Try.func9, Try.ntmps9
    go_wp2_with fail
    refine (HT.out _).mono ?_
    rintro e w1 ⟨rfl, k, rfl⟩
    go_wp2_with fail
    refine (HP.out _).mono ?_
    rintro e w1 ⟨rfl, rfl⟩
    go_wp2_with fail
    go_ret
    exact ⟨rfl, k, rfl⟩
  · have hp : ∀ wx, Calls Try.prog 19 #[.int .u64 (s * 1000000007 % P : Nat), .int .u64 2] wx fun e w' => e = .returned (.int .u64 (nextN s true : Nat)) ∧ wx = w' := fun wx => by
      have := plus_any (s * 1000000007 % P) 2 wx
      rw [Nat.mod_add_mod] at this
      exact this
    have HP := Lib.hid hp
    clear hp hs
    go_enter Try.func9, Try.ntmps9
    go_wp2_with fail
    refine (HT.out _).mono ?_
    rintro e w1 ⟨rfl, k, rfl⟩
    go_wp2_with fail
    refine (HP.out _).mono ?_
    rintro e w1 ⟨rfl, rfl⟩
    go_wp2_with fail
    go_ret
    exact ⟨rfl, k, rfl⟩
end Go.Proofs.Ytaphpejhppeopaa
