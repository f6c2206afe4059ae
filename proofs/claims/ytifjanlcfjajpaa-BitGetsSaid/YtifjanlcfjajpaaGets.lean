/-
  Rows.BitGetsSaid is proved: for every bits by value, every place and every width the call returns true, and the bits read as they did. No condition.
-/
import Derived.Test.YtifjanlcfjajpaaBoth
namespace Go.Proofs.Ytifjanlcfjajpaa
open Go.ChangeShapes Go.WideShapes Go.ChangeAt Go.RowKit
open Pl
set_option linter.unusedVariables false

set_option maxRecDepth 100000 in
set_option maxHeartbeats 4000000 in
theorem walk_BitGets (w : World) (A : Option Addr) (c : Nat) (B : List Int) (N : Int) (hr : Rd w A B) (hB : Byts B) (hN : -9223372036854775808 ≤ N ∧ N ≤ 9223372036854775807) (p : Int) (hp : -9223372036854775808 ≤ p ∧ p ≤ 9223372036854775807) (W : Int) (hW : -9223372036854775808 ≤ W ∧ W ≤ 9223372036854775807) :
    Calls Try.prog 6 #[.agg #[.slice A B.length c, .int .i64 N], .int .i64 p, .int .i64 W] w fun e w' => e = .returned (.bool true) ∧ Below w.heap.size w w' := by
  by_cases hbig : (1500 : Int) < (B.length : Int)
  · have hd' : decide (1500 < B.length) = true := by simp; omega
    clear hN hB hr hp hW
    go_enter Try.func6, Try.ntmps6
    go_wp2_with fail
    refine (known_any _).mono ?_
    rintro e w1 ⟨rfl, hb1⟩
    go_wp2_with fail
    go_ret
    exact ⟨rfl, ((Below.refl _ _).alloc (Nat.le_refl _) _).trans (hb1.mono (by simp))⟩
  · have hd' : decide (1500 < B.length) = false := by simp; omega
    obtain ⟨v, x, hx, PG, RG⟩ := get_both B N p W hB hN hp.2 (by omega)
    have PG := Lib.hid PG
    have RG := Lib.hid RG
    have hx0 := hx.1
    have hx1 := hx.2
    have hvv : (v == v) = true := beq_self_eq_true v
    have hxx : (x == x) = true := beq_self_eq_true x
    clear hB hN hp hW hx
    go_enter Try.func6, Try.ntmps6
    go_wp2_with fail
    refine (known_any _).mono ?_
    rintro e w1 ⟨rfl, hb1⟩
    have hc1 := hb1.cell (p := ⟨w.heap.size, 0, none⟩) (by simp)
    have hc2 := hb1.cell (p := ⟨w.heap.size, 1, none⟩) (by simp)
    have hz1 : w.heap.size < w1.heap.size := by have := hb1.size; simp at this; omega
    have hbw1 : Below w.heap.size w w1 := ((Below.refl _ _).alloc (Nat.le_refl _) _).trans (hb1.mono (by simp))
    go_wp2_with fail
    refine (PG.out _ _ _ (hr.below hbw1)).mono ?_
    rintro e w2 ⟨rfl, hb2⟩
    have hd1 := (hb2.cell (p := ⟨w.heap.size, 0, none⟩) hz1).trans hc1
    have hd2 := (hb2.cell (p := ⟨w.heap.size, 1, none⟩) hz1).trans hc2
    have hbw2 : Below w.heap.size w w2 := hbw1.trans (hb2.mono (by omega))
    clear hb1 hc1 hc2
    go_wp2_with fail
    refine (RG.out _ _ _ (hr.below hbw2)).mono ?_
    rintro e w3 ⟨rfl, hb3⟩
    go_wp2_with fail
    go_ret
    exact ⟨rfl, hbw2.trans (hb3.mono hbw2.size)⟩

set_option maxRecDepth 100000 in
theorem lifted_BitGets (os : Os) (started : os.Started) (H : Type) (enc : TypeId × Value → H) :
    ReturnsInHanded {} Try.checked os 6 .any (Rows.bitGetsSpec.pre6 enc Try.prog Try.f6 Rows.bitGetsRow.domain false) (Rows.bitGetsSpec.post enc Try.prog Try.f6 false true false false) := by
  refine returnsInHanded_of_change (C := Try.checked) own started (by kernel_rfl) Try.func6
    (ChangeSpec.witness6 (enc := enc) (C := Try.checked) false ⟨#[], #[.agg #[.slice none 0 0, .int .i64 0], .int .i64 0, .int .i64 0], []⟩ 8 (by kernel_rfl) (by kernel_rfl) (by kernel_rfl) (by kernel_rfl)) ?_
  intro W base args ds gs before hval0 hW hcnd _
  have hval : ∀ (j : Nat) t v, Try.f6.params[j]? = some t → args[j]? = some v → Value.okWide Try.prog W .any base t v := hval0
  have hW' := hW
  obtain ⟨p, q, hA0, hV, rfl, hfz, hnd⟩ := hW
  have hA : DataW.TrodAll enc Try.prog W 0 (fun _ => true) true Try.f6.params.toList args.toList ds p := hA0
  rw [Try.params6] at hA hval
  obtain ⟨v0, vs0, d0, ds0, p0, q0, hargs, rfl, rfl, h0, r0⟩ := trodAll_cons hA
  obtain ⟨v1, vs1, d1, ds1, p1, q1, rfl, rfl, rfl, h1, r1⟩ := trodAll_cons r0
  obtain ⟨v2, vs2, d2, ds2, p2, q2, rfl, rfl, rfl, h2, r2⟩ := trodAll_cons r1
  obtain ⟨rfl, rfl, rfl⟩ := trodAll_nil r2
  obtain rfl : args = #[v0, v1, v2] := by cases args; simp_all
  obtain ⟨rfl, rfl⟩ := trodVars_none hV
  have k0 := h0
  have lt0 : ∀ x ∈ p0, x.block < W.heap.size := by obtain ⟨m, hm⟩ := k0; exact DataW.trod_lt m _ _ _ hm
  obtain ⟨A0, c0, B0, N0, rfl, rd0, by0, rg0⟩ := open_bits (hval 0 24 v0 rfl rfl) h0
  obtain ⟨a1, rfl, rfl, rfl, w1⟩ := open_int Try.underlying3 (hval 1 3 v1 rfl rfl) h1
  obtain ⟨a2, rfl, rfl, rfl, w2⟩ := open_int Try.underlying3 (hval 2 3 v2 rfl rfl) h2
  clear hA0 hval0
  refine (walk_BitGets W A0 c0 B0 N0 rd0 by0 rg0 a1 (range_i64 w1) a2 (range_i64 w2)).mono fun e W' ⟨he, bel⟩ => ?_
  subst he
  exact ⟨_, rfl, _, _, _, [], _, [], hW', trodAll_mk1 (shut_bool Try.underlying4 _), (trodAll_cons_mk (Below.trod laidOut (by kernel_rfl) (of_decide_eq_true (by kernel_rfl)) k0 bel lt0) (trodAll_cons_mk (shut_int Try.underlying3 w1) (trodAll_cons_mk (shut_int Try.underlying3 w2) trodAll_mk0))), rfl, bel.frame _, fun h => by cases h⟩

theorem over_BitGets : Rows.bitGetsRow.holds Try.pinned (OpenSpec.ofChange Rows.bitGetsSpec) :=
  OpenClaim.holds_of_wide 6 Try.f6 rfl rfl rfl rfl rfl rfl rfl ⟨rfl, rfl, rfl, rfl, rfl⟩ rfl rfl rfl rfl rfl (by kernel_rfl) Try.func6 (by kernel_rfl)
    (of_decide_eq_true (by kernel_rfl)) (by unfold Func.isWrapper; first | (rw [if_pos (by decide +kernel)]; kernel_rfl) | (rw [if_neg (by decide +kernel)]; exact ⟨rfl, rfl⟩))
    (fun os started H enc _ => lifted_BitGets os started H enc)

theorem bitGets_holds : Rows.BitGetsSaid := over_BitGets

#print axioms bitGets_holds
end Go.Proofs.Ytifjanlcfjajpaa
