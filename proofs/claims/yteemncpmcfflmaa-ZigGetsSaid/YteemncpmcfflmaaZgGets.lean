/-
  Rows.ZigGetsSaid is proved: Get of any bits at any place is what the chapter says. No condition.
-/
import Derived.Test.YteemncpmcfflmaaZgOpen
namespace Go.Proofs.Yteemncpmcfflmaa
open Go.ChangeShapes Go.WideShapes Go.ChangeAt Go.RowKit
open Pl
set_option linter.unusedVariables false

theorem zget_both (B : List Int) (N p : Int) (hB : Byts B) (hN : -9223372036854775808 ≤ N ∧ N ≤ 9223372036854775807) (hp : -9223372036854775808 ≤ p ∧ p ≤ 9223372036854775807) (hl : (B.length : Int) ≤ 500) :
    ∃ v q x, (x = 0 ∨ x = 10 ∨ x = 11) ∧ (∀ wx A c, Rd wx A B → Calls Try.prog 18 #[.agg #[.slice A B.length c, .int .i64 N], .int .i64 p] wx (RetZ .u16 v q x wx)) ∧
      (∀ wx A c, Rd wx A B → Calls Try.prog 19 #[.agg #[.slice A B.length c, .int .i64 N], .int .i64 p] wx (RetZ .i64 v q x wx)) := by
  by_cases hs : Snd B N
  · have hpk := packs_of_snd hB hs
    obtain ⟨L, hL⟩ : ∃ L, bitsOf B N.toNat = L := ⟨_, rfl⟩
    have hLN : N = (L.length : Int) := by rw [← hL, bitsOf_length]; have := hs.1; omega
    rw [hL] at hpk
    subst hLN
    by_cases hpf : p < 0 ∨ (L.length : Int) < p
    · exact ⟨0, 0, 10, .inr (.inl rfl), fun wx A c h => zget_err A c B _ p 10 wx h (.inl rfl) (fun wy hy => which_err A c B _ p 10 wy hy (.inl rfl) (fun wz hz => get_far A c B L p 1 wz hz hpk (by omega) (by decide) hp.2 (by omega))),
        fun wx A c h => rzget_far A c B L p wx h hpk (by omega) hpf⟩
    · obtain ⟨q, rfl⟩ := Int.eq_ofNat_of_zero_le (a := p) (by omega)
      have h1 := fun wx A c h => zget_at A c B L q wx h hpk (by omega) (by omega)
      have h2 := fun wx A c h => rzget_at A c B L q wx h hpk (by omega) (by omega)
      by_cases hsh : Short L q
      · exact ⟨0, 0, 10, .inr (.inl rfl), fun wx A c h => (h1 wx A c h).mono fun _ _ hh => hh.1 hsh, fun wx A c h => (h2 wx A c h).mono fun _ _ hh => hh.1 hsh⟩
      · by_cases hrw : row (zgN L q) = whK L q
        · exact ⟨_, _, 0, .inl rfl, fun wx A c h => (h1 wx A c h).mono fun _ _ hh => hh.2.2 hsh hrw, fun wx A c h => (h2 wx A c h).mono fun _ _ hh => hh.2.2 hsh hrw⟩
        · exact ⟨0, 0, 11, .inr (.inr rfl), fun wx A c h => (h1 wx A c h).mono fun _ _ hh => hh.2.1 hsh hrw, fun wx A c h => (h2 wx A c h).mono fun _ _ hh => hh.2.1 hsh hrw⟩
  · exact ⟨0, 0, 11, .inr (.inr rfl), fun wx A c h => zget_err A c B _ p 11 wx h (.inr rfl) (fun wy hy => which_err A c B _ p 11 wy hy (.inr rfl) (fun wz hz => get_unsound A c B N p 1 wz hz hB hN (by omega) hs)),
      fun wx A c h => rzget_unsound A c B N p wx h hB hN (by omega) hs⟩

set_option maxRecDepth 100000 in
set_option maxHeartbeats 2000000 in
theorem walk_ZigGets (w : World) (A : Option Addr) (c : Nat) (B : List Int) (N : Int) (hr : Rd w A B) (hB : Byts B) (hN : -9223372036854775808 ≤ N ∧ N ≤ 9223372036854775807) (p : Int) (hp : -9223372036854775808 ≤ p ∧ p ≤ 9223372036854775807) :
    Calls Try.prog 6 #[.agg #[.slice A B.length c, .int .i64 N], .int .i64 p] w fun e w' => e = .returned (.bool true) ∧ Below w.heap.size w w' := by
  by_cases hbig : (500 : Int) < (B.length : Int)
  · have hd' : decide (500 < B.length) = true := by simp; omega
    clear hN hB hr hp
    go_enter Try.func6, Try.ntmps6
    go_wp2_with fail
    refine (known_any _).mono ?_
    rintro e w1 ⟨rfl, hb1⟩
    go_wp2_with fail
    go_ret
    exact ⟨rfl, ((Below.refl _ _).alloc (Nat.le_refl _) _).trans (hb1.mono (by simp))⟩
  have hd' : decide (500 < B.length) = false := by simp; omega
  obtain ⟨v, q, x, hx, h1, h2⟩ := zget_both B N p hB hN hp (by omega)
  have hl : B.length ≤ 500 := by omega
  obtain ⟨n, hn⟩ : ∃ n, B.length = n := ⟨_, rfl⟩
  rw [hn] at hd' h1 h2 hl
  rw [hn]
  have H1 := Lib.hid h1
  have H2 := Lib.hid h2
  clear hB hN hp hbig hn h1 h2
  go_enter Try.func6, Try.ntmps6
  go_wp2_with fail
  refine (known_any _).mono ?_
  rintro e w1 ⟨rfl, hb1⟩
  have hbw1 : Below w.heap.size w w1 := ((Below.refl _ _).alloc (Nat.le_refl _) _).trans (hb1.mono (by simp))
  have HX : Hid (Blk w1 w.heap.size 27 #[.slice A n c, .int .i64 N]) := Lib.hid ((Blk.new w _ _).below hb1 (by simp))
  clear hb1
  have x0 := HX.out.cell 0
  have x1 := HX.out.cell 1
  go_wp2_with fail
  refine (H1.out _ _ _ (hr.below hbw1)).mono ?_
  rintro e w2 ⟨rfl, hb2⟩
  have hbw2 := hbw1.trans (hb2.mono hbw1.size)
  replace HX := Lib.hid (HX.out.below hb2 HX.out.lt)
  clear hb2 x0 x1
  have x0 := HX.out.cell 0
  have x1 := HX.out.cell 1
  go_wp2_with fail
  refine (H2.out _ _ _ (hr.below hbw2)).mono ?_
  rintro e w3 ⟨rfl, hb3⟩
  have hbw3 := hbw2.trans (hb3.mono hbw2.size)
  clear hb3 x0 x1 HX
  rcases hx with rfl | rfl | rfl
  all_goals
    go_wp2_with fail
    go_ret
    exact ⟨rfl, hbw3⟩

set_option maxRecDepth 100000 in
theorem lifted_ZigGets (os : Os) (started : os.Started) (H : Type) (enc : TypeId × Value → H) :
    ReturnsInHanded {} Try.checked os 6 .any (Rows.zigGetsSpec.pre6 enc Try.prog Try.f6 Rows.zigGetsRow.domain false) (Rows.zigGetsSpec.post enc Try.prog Try.f6 false true false false) := by
  refine returnsInHanded_of_change (C := Try.checked) own started (by kernel_rfl) Try.func6
    (ChangeSpec.witness6 (enc := enc) (C := Try.checked) false ⟨#[], #[.agg #[.slice none 0 0, .int .i64 0], .int .i64 0], []⟩ 8 (by kernel_rfl) (by kernel_rfl) (by kernel_rfl) (by kernel_rfl)) ?_
  intro W base args ds gs before hval0 hW hcnd _
  have hval : ∀ (j : Nat) t v, Try.f6.params[j]? = some t → args[j]? = some v → Value.okWide Try.prog W .any base t v := hval0
  have hW' := hW
  obtain ⟨p, q, hA0, hV, rfl, hfz, hnd⟩ := hW
  have hA : DataW.TrodAll enc Try.prog W 0 (fun _ => true) true Try.f6.params.toList args.toList ds p := hA0
  rw [Try.params6] at hA hval
  obtain ⟨v0, vs0, d0, ds0, p0, q0, hargs, rfl, rfl, h0, r0⟩ := trodAll_cons hA
  obtain ⟨v1, vs1, d1, ds1, p1, q1, rfl, rfl, rfl, h1, r1⟩ := trodAll_cons r0
  obtain ⟨rfl, rfl, rfl⟩ := trodAll_nil r1
  obtain rfl : args = #[v0, v1] := by cases args; simp_all
  obtain ⟨rfl, rfl⟩ := trodVars_none hV
  have k0 := h0
  have lt0 : ∀ x ∈ p0, x.block < W.heap.size := by obtain ⟨m, hm⟩ := k0; exact DataW.trod_lt m _ _ _ hm
  obtain ⟨A0, c0, B0, N0, rfl, rd0, by0, rg0⟩ := open_bits (hval 0 27 v0 rfl rfl) h0
  obtain ⟨a1, rfl, rfl, rfl, w1⟩ := open_int Try.underlying3 (hval 1 3 v1 rfl rfl) h1
  clear hA0 hval0
  refine (walk_ZigGets W A0 c0 B0 N0 rd0 by0 rg0 a1 (range_i64 w1)).mono fun e W' ⟨he, bel⟩ => ?_
  subst he
  exact ⟨_, rfl, _, _, _, [], _, [], hW', trodAll_mk1 (shut_bool Try.underlying4 _), (trodAll_cons_mk (Below.trod laidOut (by kernel_rfl) (of_decide_eq_true (by kernel_rfl)) k0 bel lt0) (trodAll_cons_mk (shut_int Try.underlying3 w1) trodAll_mk0)), rfl, bel.frame _, fun h => by cases h⟩

theorem over_ZigGets : Rows.zigGetsRow.holds Try.pinned (OpenSpec.ofChange Rows.zigGetsSpec) :=
  OpenClaim.holds_of_wide 6 Try.f6 rfl rfl rfl rfl rfl rfl rfl ⟨rfl, rfl, rfl, rfl, rfl⟩ rfl rfl rfl rfl rfl (by kernel_rfl) Try.func6 (by kernel_rfl)
    (of_decide_eq_true (by kernel_rfl)) (by unfold Func.isWrapper; first | (rw [if_pos (by decide +kernel)]; kernel_rfl) | (rw [if_neg (by decide +kernel)]; exact ⟨rfl, rfl⟩))
    (fun os started H enc _ => lifted_ZigGets os started H enc)

theorem zigGets_holds : Rows.ZigGetsSaid := over_ZigGets

#print axioms zigGets_holds
end Go.Proofs.Yteemncpmcfflmaa
