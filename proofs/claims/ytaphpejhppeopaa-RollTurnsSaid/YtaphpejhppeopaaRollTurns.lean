/-
  Rows.RollTurnsSaid is proved: for every two numbers and every bit: sums that go on with one bit more are told apart by the bit, and by the sum modulo the prime. No condition.
-/
import Derived.Test.YtaphpejhppeopaaRollOpen
namespace Go.Proofs.Ytaphpejhppeopaa
open Go.ChangeShapes Go.WideShapes Go.ChangeAt Go.RowKit
open Pl
set_option linter.unusedVariables false

theorem key_inverse : 1000000007 * 162220979843304191 % P = 1 := by decide +kernel
theorem key_le {a b n : Nat} (hab : a ≤ b) (hb : b < P) (h : (b * 1000000007 + n) % P = (a * 1000000007 + n) % P) : a = b := by
  have h1 := Nat.sub_mod_eq_zero_of_mod_eq h
  rw [Nat.add_sub_add_right, ← Nat.sub_mul] at h1
  have h2 : (b - a) * 1000000007 * 162220979843304191 % P = 0 := by rw [Nat.mul_mod, h1, Nat.zero_mul, Nat.zero_mod]
  rw [Nat.mul_assoc, Nat.mul_mod, key_inverse, Nat.mul_one, Nat.mod_mod, Nat.mod_eq_of_lt (by omega)] at h2
  omega
theorem key_cancel {a b n : Nat} (ha : a < P) (hb : b < P) (h : (a * 1000000007 + n) % P = (b * 1000000007 + n) % P) : a = b := by
  rcases Nat.le_total a b with h1 | h1
  · exact key_le h1 hb h.symm
  · exact (key_le h1 ha h).symm
theorem next_apart (a : Nat) : (nextN a true == nextN a false) = false := by
  rw [beq_eq_false_iff_ne]
  intro h
  simp only [nextN, if_true, Bool.false_eq_true, if_false] at h
  generalize a * 1000000007 = x at h
  rw [P_val] at h
  omega
theorem next_inj {a b : Nat} (ha : a < P) (hb : b < P) (one : Bool) : (nextN a one == nextN b one) = (a == b) := by
  rw [Bool.eq_iff_iff, beq_iff_eq, beq_iff_eq]
  exact ⟨fun h => key_cancel ha hb h, fun h => by rw [h]⟩
theorem next_mod (s : Nat) (one : Bool) : nextN (s % P) one = nextN s one := by
  unfold nextN
  rw [Nat.add_mod, Nat.mod_mul_mod, ← Nat.add_mod]

theorem beq_cast (a b : Nat) : ((a : Int) == (b : Int)) = (a == b) := by
  rw [Bool.eq_iff_iff, beq_iff_eq, beq_iff_eq]; omega

set_option maxRecDepth 100000 in
set_option maxHeartbeats 2000000 in
theorem walk_RollTurns (w : World) (s : Int) (hs : U64 s) (t : Int) (ht : U64 t) (one : Bool) :
    Calls Try.prog 5 #[.int .u64 s, .int .u64 t, .bool one] w fun e w' => e = .returned (.bool true) ∧ Below w.heap.size w w' := by
  obtain ⟨s, rfl⟩ := Int.eq_ofNat_of_zero_le hs.1
  obtain ⟨t, rfl⟩ := Int.eq_ofNat_of_zero_le ht.1
  have hs64 : N64 s := by have := hs.2; unfold N64; omega
  have m1 := mod_nat s
  have m2 := mod_nat t
  have hn0 := next_mod s one
  obtain ⟨a, ha⟩ : ∃ a, s % P = a := ⟨_, rfl⟩
  obtain ⟨b, hb⟩ : ∃ a, t % P = a := ⟨_, rfl⟩
  have haP : a < P := by rw [← ha]; exact Nat.mod_lt _ P_pos
  have hbP : b < P := by rw [← hb]; exact Nat.mod_lt _ P_pos
  rw [ha] at m1 hn0
  rw [hb] at m2
  have e1 := next_apart a
  have e2 := next_inj haP hbP one
  have n1 := next_any a (P_n64 haP) true
  have n2 := next_any a (P_n64 haP) false
  have n3 := next_any a (P_n64 haP) one
  have n4 := next_any b (P_n64 hbP) one
  have n5 := next_any s hs64 one
  have hlt := nextN_lt s one
  rw [← hn0] at n5 hlt
  obtain ⟨x, hx⟩ : ∃ x, nextN a true = x := ⟨_, rfl⟩
  obtain ⟨y, hy⟩ : ∃ x, nextN a false = x := ⟨_, rfl⟩
  rw [hx] at n1 e1
  rw [hy] at n2 e1
  obtain ⟨z, hz⟩ : ∃ x, nextN a one = x := ⟨_, rfl⟩
  obtain ⟨v, hv⟩ : ∃ x, nextN b one = x := ⟨_, rfl⟩
  rw [hz] at n3 n5 e2 hlt
  rw [hv] at n4 e2
  have N1 := Lib.hid n1
  have N2 := Lib.hid n2
  have N3 := Lib.hid n3
  have N4 := Lib.hid n4
  have N5 := Lib.hid n5
  have M1 := Lib.hid m1
  have M2 := Lib.hid m2
  have f1 : ((x : Int) == (y : Int)) = false := by rw [beq_cast]; exact e1
  have f1' : ((x : Int) != (y : Int)) = true := by rw [bne, f1]; rfl
  have f2 : ((z : Int) == (v : Int)) = ((a : Int) == (b : Int)) := by rw [beq_cast, beq_cast]; exact e2
  obtain ⟨q, hq⟩ : ∃ q, ((a : Int) == (b : Int)) = q := ⟨_, rfl⟩
  rw [hq] at f2
  have f3 : decide ((z : Int) < 2305843009213693951) = true := decide_eq_true (by rw [P_val] at hlt; omega)
  clear n1 n2 n3 n4 n5 m1 m2 e1 e2 hn0 haP hbP ha hb hx hy hz hv hs ht hs64 hlt
  go_enter Try.func5, Try.ntmps5
  go_wp2_with fail
  refine (known_any _).mono ?_
  rintro e w1 ⟨rfl, hb1⟩
  go_wp2_with fail
  rw [M1.out]
  refine (N1.out _).mono ?_
  rintro e w2 ⟨rfl, k2, rfl⟩
  go_wp2_with fail
  refine (N2.out _).mono ?_
  rintro e w3 ⟨rfl, k3, rfl⟩
  go_wp2_with fail
  refine (N3.out _).mono ?_
  rintro e w4 ⟨rfl, k4, rfl⟩
  go_wp2_with fail
  rw [M2.out]
  refine (N4.out _).mono ?_
  rintro e w5 ⟨rfl, k5, rfl⟩
  go_wp2_with fail
  refine (N5.out _).mono ?_
  rintro e w6 ⟨rfl, k6, rfl⟩
  go_wp2_with fail
  refine (N3.out _).mono ?_
  rintro e w7 ⟨rfl, k7, rfl⟩
  go_wp2_with fail
  refine (N5.out _).mono ?_
  rintro e w8 ⟨rfl, k8, rfl⟩
  go_wp2_with fail
  go_ret
  exact ⟨rfl, below_drewN hb1 _⟩
set_option maxRecDepth 100000 in
theorem lifted_RollTurns (os : Os) (started : os.Started) (H : Type) (enc : TypeId × Value → H) :
    ReturnsInHanded {} Try.checked os 5 .any (Rows.rollTurnsSpec.pre6 enc Try.prog Try.f5 Rows.rollTurnsRow.domain false) (Rows.rollTurnsSpec.post enc Try.prog Try.f5 false true false false) := by
  refine returnsInHanded_of_change (C := Try.checked) own started (by kernel_rfl) Try.func5
    (ChangeSpec.witness6 (enc := enc) (C := Try.checked) false ⟨#[], #[.int .u64 0, .int .u64 0, .bool false], []⟩ 8 (by kernel_rfl) (by kernel_rfl) (by kernel_rfl) (by kernel_rfl)) ?_
  intro W base args ds gs before hval0 hW hcnd _
  have hval : ∀ (j : Nat) t v, Try.f5.params[j]? = some t → args[j]? = some v → Value.okWide Try.prog W .any base t v := hval0
  have hW' := hW
  obtain ⟨p, q, hA0, hV, rfl, hfz, hnd⟩ := hW
  have hA : DataW.TrodAll enc Try.prog W 0 (fun _ => true) true Try.f5.params.toList args.toList ds p := hA0
  rw [Try.params5] at hA hval
  obtain ⟨v0, vs0, d0, ds0, p0, q0, hargs, rfl, rfl, h0, r0⟩ := trodAll_cons hA
  obtain ⟨v1, vs1, d1, ds1, p1, q1, rfl, rfl, rfl, h1, r1⟩ := trodAll_cons r0
  obtain ⟨v2, vs2, d2, ds2, p2, q2, rfl, rfl, rfl, h2, r2⟩ := trodAll_cons r1
  obtain ⟨rfl, rfl, rfl⟩ := trodAll_nil r2
  obtain rfl : args = #[v0, v1, v2] := by cases args; simp_all
  obtain ⟨rfl, rfl⟩ := trodVars_none hV
  obtain ⟨a0, rfl, rfl, rfl, w0⟩ := open_int Try.underlying22 (hval 0 22 v0 rfl rfl) h0
  obtain ⟨a1, rfl, rfl, rfl, w1⟩ := open_int Try.underlying22 (hval 1 22 v1 rfl rfl) h1
  obtain ⟨a2, rfl, rfl, rfl⟩ := open_bool Try.underlying4 (hval 2 4 v2 rfl rfl) h2
  clear hA0 hval0
  refine (walk_RollTurns W a0 (range_u64 w0) a1 (range_u64 w1) a2).mono fun e W' ⟨he, bel⟩ => ?_
  subst he
  exact ⟨_, rfl, _, _, _, [], _, [], hW', trodAll_mk1 (shut_bool Try.underlying4 _), (trodAll_cons_mk (shut_int Try.underlying22 w0) (trodAll_cons_mk (shut_int Try.underlying22 w1) (trodAll_cons_mk (shut_bool Try.underlying4 a2) trodAll_mk0))), rfl, bel.frame _, fun h => by cases h⟩

theorem over_RollTurns : Rows.rollTurnsRow.holds Try.pinned (OpenSpec.ofChange Rows.rollTurnsSpec) :=
  OpenClaim.holds_of_wide 5 Try.f5 rfl rfl rfl rfl rfl rfl rfl ⟨rfl, rfl, rfl, rfl, rfl⟩ rfl rfl rfl rfl rfl (by kernel_rfl) Try.func5 (by kernel_rfl)
    (of_decide_eq_true (by kernel_rfl)) (by unfold Func.isWrapper; first | (rw [if_pos (by decide +kernel)]; kernel_rfl) | (rw [if_neg (by decide +kernel)]; exact ⟨rfl, rfl⟩))
    (fun os started H enc _ => lifted_RollTurns os started H enc)

theorem rollTurns_holds : Rows.RollTurnsSaid := over_RollTurns

#print axioms rollTurns_holds
end Go.Proofs.Ytaphpejhppeopaa
