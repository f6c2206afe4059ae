/-
  Rows.RollJoinsSaid is proved: for every three numbers and every two lengths: three parts are joined in either order. No condition.
-/
import Derived.Test.YtaphpejhppeopaaRollOpen
namespace Go.Proofs.Ytaphpejhppeopaa
open Go.ChangeShapes Go.WideShapes Go.ChangeAt Go.RowKit
open Pl
set_option linter.unusedVariables false

theorem join_assoc (a b c n k : Nat) : joinN (joinN a b n) c k = joinN a (joinN b c k) (n + k) := by
  unfold joinN
  rw [Nat.add_mod, Nat.mod_mul_mod, ← Nat.add_mod, Nat.add_mod_mod]
  congr 1
  rw [Nat.add_mul, Nat.pow_add, Nat.mul_assoc, Nat.add_assoc]
theorem join_none (a : Nat) : joinN a 0 0 = a % P := by unfold joinN; rw [Nat.pow_zero, Nat.mul_one, Nat.add_zero]

set_option maxRecDepth 100000 in
set_option maxHeartbeats 2000000 in
theorem walk_RollJoins (w : World) (a : Int) (ha : U64 a) (b : Int) (hb : U64 b) (c : Int) (hc : U64 c) (n : Int) (hn : 0 ≤ n ∧ n < 65536) (k : Int) (hk : 0 ≤ k ∧ k < 65536) :
    Calls Try.prog 6 #[.int .u64 a, .int .u64 b, .int .u64 c, .int .u16 n, .int .u16 k] w fun e w' => e = .returned (.bool true) ∧ Below w.heap.size w w' := by
  obtain ⟨a, rfl⟩ := Int.eq_ofNat_of_zero_le ha.1
  obtain ⟨b, rfl⟩ := Int.eq_ofNat_of_zero_le hb.1
  obtain ⟨c, rfl⟩ := Int.eq_ofNat_of_zero_le hc.1
  obtain ⟨n, rfl⟩ := Int.eq_ofNat_of_zero_le hn.1
  obtain ⟨k, rfl⟩ := Int.eq_ofNat_of_zero_le hk.1
  have ha64 : N64 a := by have := ha.2; unfold N64; omega
  have hb64 : N64 b := by have := hb.2; unfold N64; omega
  have hn' : (n : Int) ≤ 65535 := by omega
  have hk' : (k : Int) ≤ 65535 := by omega
  have j1 := join_any a b ha64 (n : Int) (by omega)
  have j2 := join_any (joinN a b n) c (N64.mod _) (k : Int) (by omega)
  have j3 := join_any b c hb64 (k : Int) (by omega)
  have j4 := join_any a (joinN b c k) ha64 ((n : Int) + (k : Int)) (by omega)
  have j5 := join_any a 0 ha64 0 (by omega)
  rw [Int.toNat_natCast] at j1 j2 j3
  rw [show ((n : Int) + (k : Int)).toNat = n + k from by omega, ← join_assoc] at j4
  rw [show (0 : Int).toNat = 0 from rfl, join_none] at j5
  have m1 := mod_nat a
  obtain ⟨x, hx⟩ : ∃ x, joinN a b n = x := ⟨_, rfl⟩
  obtain ⟨y, hy⟩ : ∃ x, joinN b c k = x := ⟨_, rfl⟩
  rw [hx] at j1 j2 j4
  rw [hy] at j3 j4
  obtain ⟨z, hz⟩ : ∃ z, joinN x c k = z := ⟨_, rfl⟩
  rw [hz] at j2 j4
  obtain ⟨q, hq⟩ : ∃ q, a % P = q := ⟨_, rfl⟩
  rw [hq] at j5 m1
  have J1 := Lib.hid j1
  have J2 := Lib.hid j2
  have J3 := Lib.hid j3
  have J4 := Lib.hid j4
  have J5 : Hid (∀ wx, Calls Try.prog 11 #[.int .u64 a, .int .u64 0, .int .i64 0] wx fun e w' => e = .returned (.int .u64 (q : Nat)) ∧ ∃ k, wx.drewN k = w') := Lib.hid j5
  have M1 := Lib.hid m1
  clear j1 j2 j3 j4 j5 m1 hx hy hz hq ha hb hc hn hk ha64 hb64
  go_enter Try.func6, Try.ntmps6
  go_wp2_with fail
  refine (J1.out _).mono ?_
  rintro e w1 ⟨rfl, k1, rfl⟩
  go_wp2_with fail
  refine (J2.out _).mono ?_
  rintro e w1 ⟨rfl, k2, rfl⟩
  go_wp2_with fail
  refine (J3.out _).mono ?_
  rintro e w1 ⟨rfl, k3, rfl⟩
  go_wp2_with fail
  refine (J4.out _).mono ?_
  rintro e w1 ⟨rfl, k4, rfl⟩
  go_wp2_with fail
  refine (known_any _).mono ?_
  rintro e w1 ⟨rfl, hb1⟩
  have hb2 : Below w.heap.size w w1 := (below_drewN (Below.refl _ _) _).trans (hb1.mono (Nat.le_refl _))
  go_wp2_with fail
  refine (J5.out _).mono ?_
  rintro e w2 ⟨rfl, k5, rfl⟩
  have m1 := M1.out
  go_wp2_with fail
  go_ret
  exact ⟨rfl, below_drewN hb2 _⟩
set_option maxRecDepth 100000 in
theorem lifted_RollJoins (os : Os) (started : os.Started) (H : Type) (enc : TypeId × Value → H) :
    ReturnsInHanded {} Try.checked os 6 .any (Rows.rollJoinsSpec.pre6 enc Try.prog Try.f6 Rows.rollJoinsRow.domain false) (Rows.rollJoinsSpec.post enc Try.prog Try.f6 false true false false) := by
  refine returnsInHanded_of_change (C := Try.checked) own started (by kernel_rfl) Try.func6
    (ChangeSpec.witness6 (enc := enc) (C := Try.checked) false ⟨#[], #[.int .u64 0, .int .u64 0, .int .u64 0, .int .u16 0, .int .u16 0], []⟩ 8 (by kernel_rfl) (by kernel_rfl) (by kernel_rfl) (by kernel_rfl)) ?_
  intro W base args ds gs before hval0 hW hcnd _
  have hval : ∀ (j : Nat) t v, Try.f6.params[j]? = some t → args[j]? = some v → Value.okWide Try.prog W .any base t v := hval0
  have hW' := hW
  obtain ⟨p, q, hA0, hV, rfl, hfz, hnd⟩ := hW
  have hA : DataW.TrodAll enc Try.prog W 0 (fun _ => true) true Try.f6.params.toList args.toList ds p := hA0
  rw [Try.params6] at hA hval
  obtain ⟨v0, vs0, d0, ds0, p0, q0, hargs, rfl, rfl, h0, r0⟩ := trodAll_cons hA
  obtain ⟨v1, vs1, d1, ds1, p1, q1, rfl, rfl, rfl, h1, r1⟩ := trodAll_cons r0
  obtain ⟨v2, vs2, d2, ds2, p2, q2, rfl, rfl, rfl, h2, r2⟩ := trodAll_cons r1
  obtain ⟨v3, vs3, d3, ds3, p3, q3, rfl, rfl, rfl, h3, r3⟩ := trodAll_cons r2
  obtain ⟨v4, vs4, d4, ds4, p4, q4, rfl, rfl, rfl, h4, r4⟩ := trodAll_cons r3
  obtain ⟨rfl, rfl, rfl⟩ := trodAll_nil r4
  obtain rfl : args = #[v0, v1, v2, v3, v4] := by cases args; simp_all
  obtain ⟨rfl, rfl⟩ := trodVars_none hV
  obtain ⟨a0, rfl, rfl, rfl, w0⟩ := open_int Try.underlying22 (hval 0 22 v0 rfl rfl) h0
  obtain ⟨a1, rfl, rfl, rfl, w1⟩ := open_int Try.underlying22 (hval 1 22 v1 rfl rfl) h1
  obtain ⟨a2, rfl, rfl, rfl, w2⟩ := open_int Try.underlying22 (hval 2 22 v2 rfl rfl) h2
  obtain ⟨a3, rfl, rfl, rfl, w3⟩ := open_int Try.underlying30 (hval 3 30 v3 rfl rfl) h3
  obtain ⟨a4, rfl, rfl, rfl, w4⟩ := open_int Try.underlying30 (hval 4 30 v4 rfl rfl) h4
  clear hA0 hval0
  refine (walk_RollJoins W a0 (range_u64 w0) a1 (range_u64 w1) a2 (range_u64 w2) a3 (range_u16 w3) a4 (range_u16 w4)).mono fun e W' ⟨he, bel⟩ => ?_
  subst he
  exact ⟨_, rfl, _, _, _, [], _, [], hW', trodAll_mk1 (shut_bool Try.underlying4 _), (trodAll_cons_mk (shut_int Try.underlying22 w0) (trodAll_cons_mk (shut_int Try.underlying22 w1) (trodAll_cons_mk (shut_int Try.underlying22 w2) (trodAll_cons_mk (shut_int Try.underlying30 w3) (trodAll_cons_mk (shut_int Try.underlying30 w4) trodAll_mk0))))), rfl, bel.frame _, fun h => by cases h⟩

theorem over_RollJoins : Rows.rollJoinsRow.holds Try.pinned (OpenSpec.ofChange Rows.rollJoinsSpec) :=
  OpenClaim.holds_of_wide 6 Try.f6 rfl rfl rfl rfl rfl rfl rfl ⟨rfl, rfl, rfl, rfl, rfl⟩ rfl rfl rfl rfl rfl (by kernel_rfl) Try.func6 (by kernel_rfl)
    (of_decide_eq_true (by kernel_rfl)) (by unfold Func.isWrapper; first | (rw [if_pos (by decide +kernel)]; kernel_rfl) | (rw [if_neg (by decide +kernel)]; exact ⟨rfl, rfl⟩))
    (fun os started H enc _ => lifted_RollJoins os started H enc)

theorem rollJoins_holds : Rows.RollJoinsSaid := over_RollJoins

#print axioms rollJoins_holds
end Go.Proofs.Ytaphpejhppeopaa
