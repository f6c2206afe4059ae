/-
  Rows.RollSumsSaid is proved: Of and More of any bits by value and any sum answer what the reference answers. No condition.
-/
import Derived.Test.YtaphpejhppeopaaRollOpen
import Derived.Test.YtaphpejhppeopaaRollS
namespace Go.Proofs.Ytaphpejhppeopaa
open Go.ChangeShapes Go.WideShapes Go.ChangeAt Go.RowKit
open Pl
set_option linter.unusedVariables false

set_option maxRecDepth 100000 in
set_option maxHeartbeats 2000000 in
theorem walk_RollSums (w : World) (A : Option Addr) (c : Nat) (B : List Int) (N : Int) (hr : Rd w A B) (hB : Byts B) (hN : -9223372036854775808 ≤ N ∧ N ≤ 9223372036854775807) (s : Int) (hs : U64 s) :
    Calls Try.prog 4 #[.agg #[.slice A B.length c, .int .i64 N], .int .u64 s] w fun e w' => e = .returned (.bool true) ∧ Below w.heap.size w w' := by
  by_cases hbig : (60 : Int) < (B.length : Int)
  · have hd' : decide (60 < B.length) = true := by simp; omega
    clear hN hB hr
    go_enter Try.func4, Try.ntmps4
    go_wp2_with fail
    refine (known_any _).mono ?_
    rintro e w1 ⟨rfl, hb1⟩
    go_wp2_with fail
    go_ret
    exact ⟨rfl, ((Below.refl _ _).alloc (Nat.le_refl _) _).trans (hb1.mono (by simp))⟩
  · have hd' : decide (60 < B.length) = false := by simp; omega
    obtain ⟨s, rfl⟩ := Int.eq_ofNat_of_zero_le hs.1
    obtain ⟨v0, x0, hx0, p0, r0⟩ := more_both 0 B N hB hN (by omega)
    obtain ⟨v1, x1, hx1, p1, r1⟩ := more_both s B N hB hN (by omega)
    obtain ⟨n, hn⟩ : ∃ n, B.length = n := ⟨_, rfl⟩
    rw [hn] at hd' p0 r0 p1 r1
    rw [hn]
    have hl : n ≤ 60 := by omega
    have hx00 := hx0.1
    have hx01 := hx0.2
    have hx10 := hx1.1
    have hx11 := hx1.2
    have P0 := Lib.hid (fun wx (h : Rd wx A B) => of_by (n := n) (c := c) wx h (fun wy hy => p0 wy A c hy))
    have R0 := Lib.hid (fun wx (h : Rd wx A B) => rof_by (n := n) (c := c) wx h (fun wy hy => r0 wy A c hy))
    have P1 := Lib.hid (fun wx (h : Rd wx A B) => p1 wx A c h)
    have R1 := Lib.hid (fun wx (h : Rd wx A B) => r1 wx A c h)
    clear hB hN hs hbig hn p0 r0 p1 r1 hx0 hx1
    go_enter Try.func4, Try.ntmps4
    go_wp2_with fail
    refine (known_any _).mono ?_
    rintro e w1 ⟨rfl, hb1⟩
    have hbw1 : Below w.heap.size w w1 := ((Below.refl _ _).alloc (Nat.le_refl _) _).trans (hb1.mono (by simp))
    have HT := Lib.hid (rollBlk.below hb1 (by simp) : Blk w1 w.heap.size 29 #[.slice A n c, .int .i64 N])
    clear hb1
    have c0 := HT.out.cell 0
    have c1 := HT.out.cell 1
    go_wp2_with fail
    refine (P0.out _ (hr.below hbw1)).mono ?_
    rintro e w2 ⟨rfl, hb2⟩
    have hbw2 := hbw1.trans (hb2.mono hbw1.size)
    replace HT := Lib.hid (HT.out.below hb2 HT.out.lt)
    clear c0 c1 hb2
    have c0 := HT.out.cell 0
    have c1 := HT.out.cell 1
    go_wp2_with fail
    refine (R0.out _ (hr.below hbw2)).mono ?_
    rintro e w3 ⟨rfl, hb3⟩
    have hbw3 := hbw2.trans (hb3.mono hbw2.size)
    replace HT := Lib.hid (HT.out.below hb3 HT.out.lt)
    clear c0 c1 hb3
    have c0 := HT.out.cell 0
    have c1 := HT.out.cell 1
    go_wp2_with fail
    refine (P1.out _ (hr.below hbw3)).mono ?_
    rintro e w4 ⟨rfl, hb4⟩
    have hbw4 := hbw3.trans (hb4.mono hbw3.size)
    replace HT := Lib.hid (HT.out.below hb4 HT.out.lt)
    clear c0 c1 hb4
    have c0 := HT.out.cell 0
    have c1 := HT.out.cell 1
    go_wp2_with fail
    refine (R1.out _ (hr.below hbw4)).mono ?_
    rintro e w5 ⟨rfl, hb5⟩
    have hbw5 := hbw4.trans (hb5.mono hbw4.size)
    clear c0 c1 hb5
    go_wp2_with fail
    go_ret
    exact ⟨rfl, hbw5⟩
set_option maxRecDepth 100000 in
theorem lifted_RollSums (os : Os) (started : os.Started) (H : Type) (enc : TypeId × Value → H) :
    ReturnsInHanded {} Try.checked os 4 .any (Rows.rollSumsSpec.pre6 enc Try.prog Try.f4 Rows.rollSumsRow.domain false) (Rows.rollSumsSpec.post enc Try.prog Try.f4 false true false false) := by
  refine returnsInHanded_of_change (C := Try.checked) own started (by kernel_rfl) Try.func4
    (ChangeSpec.witness6 (enc := enc) (C := Try.checked) false ⟨#[], #[.agg #[.slice none 0 0, .int .i64 0], .int .u64 0], []⟩ 8 (by kernel_rfl) (by kernel_rfl) (by kernel_rfl) (by kernel_rfl)) ?_
  intro W base args ds gs before hval0 hW hcnd _
  have hval : ∀ (j : Nat) t v, Try.f4.params[j]? = some t → args[j]? = some v → Value.okWide Try.prog W .any base t v := hval0
  have hW' := hW
  obtain ⟨p, q, hA0, hV, rfl, hfz, hnd⟩ := hW
  have hA : DataW.TrodAll enc Try.prog W 0 (fun _ => true) true Try.f4.params.toList args.toList ds p := hA0
  rw [Try.params4] at hA hval
  obtain ⟨v0, vs0, d0, ds0, p0, q0, hargs, rfl, rfl, h0, r0⟩ := trodAll_cons hA
  obtain ⟨v1, vs1, d1, ds1, p1, q1, rfl, rfl, rfl, h1, r1⟩ := trodAll_cons r0
  obtain ⟨rfl, rfl, rfl⟩ := trodAll_nil r1
  obtain rfl : args = #[v0, v1] := by cases args; simp_all
  obtain ⟨rfl, rfl⟩ := trodVars_none hV
  have k0 := h0
  have lt0 : ∀ x ∈ p0, x.block < W.heap.size := by obtain ⟨m, hm⟩ := k0; exact DataW.trod_lt m _ _ _ hm
  obtain ⟨A0, c0, B0, N0, rfl, rd0, by0, rg0⟩ := open_bits (hval 0 29 v0 rfl rfl) h0
  obtain ⟨a1, rfl, rfl, rfl, w1⟩ := open_int Try.underlying22 (hval 1 22 v1 rfl rfl) h1
  clear hA0 hval0
  refine (walk_RollSums W A0 c0 B0 N0 rd0 by0 rg0 a1 (range_u64 w1)).mono fun e W' ⟨he, bel⟩ => ?_
  subst he
  exact ⟨_, rfl, _, _, _, [], _, [], hW', trodAll_mk1 (shut_bool Try.underlying4 _), (trodAll_cons_mk (Below.trod laidOut (by kernel_rfl) (of_decide_eq_true (by kernel_rfl)) k0 bel lt0) (trodAll_cons_mk (shut_int Try.underlying22 w1) trodAll_mk0)), rfl, bel.frame _, fun h => by cases h⟩

theorem over_RollSums : Rows.rollSumsRow.holds Try.pinned (OpenSpec.ofChange Rows.rollSumsSpec) :=
  OpenClaim.holds_of_wide 4 Try.f4 rfl rfl rfl rfl rfl rfl rfl ⟨rfl, rfl, rfl, rfl, rfl⟩ rfl rfl rfl rfl rfl (by kernel_rfl) Try.func4 (by kernel_rfl)
    (of_decide_eq_true (by kernel_rfl)) (by unfold Func.isWrapper; first | (rw [if_pos (by decide +kernel)]; kernel_rfl) | (rw [if_neg (by decide +kernel)]; exact ⟨rfl, rfl⟩))
    (fun os started H enc _ => lifted_RollSums os started H enc)

theorem rollSums_holds : Rows.RollSumsSaid := over_RollSums

#print axioms rollSums_holds
end Go.Proofs.Ytaphpejhppeopaa
