/-
  Rows.BitSoundsSaid is proved: for every bits by value the call returns true, and the bits read as they did. No condition.
-/
import Derived.Test.YtifjanlcfjajpaaOpen
import Derived.Deep.RegionHeld3
namespace Go.Proofs.Ytifjanlcfjajpaa
open Go.ChangeShapes Go.WideShapes Go.ChangeAt Go.RowKit
open Pl
set_option linter.unusedVariables false

/-- Four cells of two blocks stay behind a call that turns nothing old. -/
theorem cells4 {W w' : World} {g h : Nat} {x0 x1 y0 y1 : Value} (hb : Below W.heap.size W w') (hg : g < W.heap.size) (hh : h < W.heap.size)
    (hx : (W.cell? ⟨g, 0, none⟩ = some x0 ∧ W.cell? ⟨g, 1, none⟩ = some x1) ∧ (W.cell? ⟨h, 0, none⟩ = some y0 ∧ W.cell? ⟨h, 1, none⟩ = some y1)) :
    (w'.cell? ⟨g, 0, none⟩ = some x0 ∧ w'.cell? ⟨g, 1, none⟩ = some x1) ∧ (w'.cell? ⟨h, 0, none⟩ = some y0 ∧ w'.cell? ⟨h, 1, none⟩ = some y1) :=
  ⟨⟨(hb.cell (p := ⟨g, 0, none⟩) hg).trans hx.1.1, (hb.cell (p := ⟨g, 1, none⟩) hg).trans hx.1.2⟩, (hb.cell (p := ⟨h, 0, none⟩) hh).trans hx.2.1, (hb.cell (p := ⟨h, 1, none⟩) hh).trans hx.2.2⟩

set_option maxRecDepth 100000 in
set_option maxHeartbeats 4000000 in
theorem walk_BitSounds (w : World) (A : Option Addr) (c : Nat) (B : List Int) (N : Int) (hr : Rd w A B) (hB : Byts B) (hN : -9223372036854775808 ≤ N ∧ N ≤ 9223372036854775807) :
    Calls Try.prog 4 #[.agg #[.slice A B.length c, .int .i64 N]] w fun e w' => e = .returned (.bool true) ∧ Below w.heap.size w w' := by
  by_cases hbig : (1500 : Int) < (B.length : Int)
  · have hd : decide ((1500 : Int) < (B.length : Int)) = true := by simp; omega
    have hd' : decide (1500 < B.length) = true := by simp; omega
    clear hN hB hr
    go_enter Try.func4, Try.ntmps4
    go_wp2_with fail
    refine (known_any _).mono ?_
    rintro e w1 ⟨rfl, hb1⟩
    go_wp2_with fail
    go_ret
    exact ⟨rfl, ((Below.refl _ _).alloc (Nat.le_refl _) _).trans (hb1.mono (by simp))⟩
  · have hd' : decide (1500 < B.length) = false := by simp; omega
    go_enter Try.func4, Try.ntmps4
    have hl : (B.length : Int) ≤ 1500 := by omega
    go_wp2_with fail
    refine (known_any _).mono ?_
    rintro e w1 ⟨rfl, hb1⟩
    have hc1 := hb1.cell (p := ⟨w.heap.size, 0, none⟩) (by simp)
    have hc2 := hb1.cell (p := ⟨w.heap.size, 1, none⟩) (by simp)
    have hz1 : w.heap.size < w1.heap.size := by have := hb1.size; simp at this; omega
    have hbw1 : Below w.heap.size w w1 := ((Below.refl _ _).alloc (Nat.le_refl _) _).trans (hb1.mono (by simp))
    have hr1 := hr.below hbw1
    go_wp2_with fail
    refine (lent_any A c B N _ hr1 (by omega)).mono ?_
    rintro e w2 ⟨A2, c2, rfl, hown2, hb2⟩
    have hd1 := (hb2.cell (p := ⟨w.heap.size, 0, none⟩) hz1).trans hc1
    have hd2 := (hb2.cell (p := ⟨w.heap.size, 1, none⟩) hz1).trans hc2
    have hz2 : w.heap.size < w2.heap.size := by have := hb2.size; omega
    have hr2 := hr1.below hb2
    have hq2 := Rd.of_own hown2
    have hbw2 : Below w.heap.size w w2 := hbw1.trans (hb2.mono (by omega))
    have SA := Lib.hid (fun wx (h : Rd wx A2 B) => sound_any A2 c2 B N wx h hB hN (by omega))
    have SB := Lib.hid (fun wx (h : Rd wx A B) => rsound_any A c B N wx h hB hN (by omega))
    have SC := Lib.hid (fun wx (h2 : Rd wx A2 B) (h : Rd wx A B) => same_any A2 A c2 c B B N N wx h2 h hB hB)
    clear hb1 hc1 hc2 hown2 hb2 hr1 hB hN
    have hk1 : (w2.alloc (.cells #[.slice A2 B.length c2, .int .i64 N] 24)).cell? ⟨w.heap.size, 0, none⟩ = some (.slice A B.length c) := (World.cell?_alloc_lt _ _ _ hz2).trans (hd1.trans (by simp))
    have hk2 : (w2.alloc (.cells #[.slice A2 B.length c2, .int .i64 N] 24)).cell? ⟨w.heap.size, 1, none⟩ = some (.int .i64 N) := (World.cell?_alloc_lt _ _ _ hz2).trans (hd2.trans (by simp))
    have hk3 : (w2.alloc (.cells #[.slice A2 B.length c2, .int .i64 N] 24)).cell? ⟨w2.heap.size, 0, none⟩ = some (.slice A2 B.length c2) := by simp
    have hk4 : (w2.alloc (.cells #[.slice A2 B.length c2, .int .i64 N] 24)).cell? ⟨w2.heap.size, 1, none⟩ = some (.int .i64 N) := by simp
    have hkr := hr2.alloc (.cells #[.slice A2 B.length c2, .int .i64 N] 24)
    have hkq := hq2.alloc (.cells #[.slice A2 B.length c2, .int .i64 N] 24)
    have HK := Lib.hid (And.intro (And.intro hk1 hk2) (And.intro hk3 hk4))
    clear hk1 hk2 hk3 hk4
    go_wp2_with fail
    go_region_held3 (fun w' => (w'.cell? ⟨w.heap.size, 0, none⟩ = some (.slice A B.length c) ∧ w'.cell? ⟨w.heap.size, 1, none⟩ = some (.int .i64 N)) ∧ (w'.cell? ⟨w2.heap.size, 0, none⟩ = some (.slice A2 B.length c2) ∧ w'.cell? ⟨w2.heap.size, 1, none⟩ = some (.int .i64 N)))
      (first
        | go_keep
        | (exact hS3)
        | (exact hS4)
        | (exact hS5))
      ((first
        | (go_at_call 17; refine (SA.out _ ?_).mono ?_; (exact hkq.drew); rintro e w3 ⟨rfl, hb3⟩; have hS3 := cells4 (hb3.mono (Nat.le_refl _)) (by simp; omega) (by simp) HK.out; have hr3 := hkr.drew.below hb3; have hq3 := hkq.drew.below hb3)
        | (go_at_call 18; refine (SB.out _ ?_).mono ?_; (exact hr3); rintro e w4 ⟨rfl, hb4⟩; have hS4 := cells4 hb4 (by have := hb3.size; simp at this; omega) (by have := hb3.size; simp at this; omega) hS3; have hr4 := hr3.below hb4; have hq4 := hq3.below hb4)
        | (go_at_call 15; refine (SC.out _ ?_ ?_).mono ?_; (exact hq4); (exact hr4); rintro e w5 ⟨rfl, hb5⟩; have hS5 := cells4 hb5 (by have := hb3.size; have := hb4.size; simp at *; omega) (by have := hb3.size; have := hb4.size; simp at *; omega) hS4)))
    all_goals
      go_wp2_with fail
      go_ret
      refine ⟨rfl, ?_⟩
      have z3 := hb3.size
      have z4 := hb4.size
      have zw := hbw2.size
      simp at z3
      exact ((((hbw2.alloc zw _).drew.trans (hb3.mono (by simp; omega))).trans (hb4.mono (by omega))).trans (hb5.mono (by omega)))

set_option maxRecDepth 100000 in
theorem lifted_BitSounds (os : Os) (started : os.Started) (H : Type) (enc : TypeId × Value → H) :
    ReturnsInHanded {} Try.checked os 4 .any (Rows.bitSoundsSpec.pre6 enc Try.prog Try.f4 Rows.bitSoundsRow.domain false) (Rows.bitSoundsSpec.post enc Try.prog Try.f4 false true false false) := by
  refine returnsInHanded_of_change (C := Try.checked) own started (by kernel_rfl) Try.func4
    (ChangeSpec.witness6 (enc := enc) (C := Try.checked) false ⟨#[], #[.agg #[.slice none 0 0, .int .i64 0]], []⟩ 8 (by kernel_rfl) (by kernel_rfl) (by kernel_rfl) (by kernel_rfl)) ?_
  intro W base args ds gs before hval0 hW hcnd _
  have hval : ∀ (j : Nat) t v, Try.f4.params[j]? = some t → args[j]? = some v → Value.okWide Try.prog W .any base t v := hval0
  have hW' := hW
  obtain ⟨p, q, hA0, hV, rfl, hfz, hnd⟩ := hW
  have hA : DataW.TrodAll enc Try.prog W 0 (fun _ => true) true Try.f4.params.toList args.toList ds p := hA0
  rw [Try.params4] at hA hval
  obtain ⟨v0, vs0, d0, ds0, p0, q0, hargs, rfl, rfl, h0, r0⟩ := trodAll_cons hA
  obtain ⟨rfl, rfl, rfl⟩ := trodAll_nil r0
  obtain rfl : args = #[v0] := by cases args; simp_all
  obtain ⟨rfl, rfl⟩ := trodVars_none hV
  have k0 := h0
  have lt0 : ∀ x ∈ p0, x.block < W.heap.size := by obtain ⟨m, hm⟩ := k0; exact DataW.trod_lt m _ _ _ hm
  obtain ⟨A0, c0, B0, N0, rfl, rd0, by0, rg0⟩ := open_bits (hval 0 24 v0 rfl rfl) h0
  clear hA0 hval0
  refine (walk_BitSounds W A0 c0 B0 N0 rd0 by0 rg0).mono fun e W' ⟨he, bel⟩ => ?_
  subst he
  exact ⟨_, rfl, _, _, _, [], _, [], hW', trodAll_mk1 (shut_bool Try.underlying4 _), (trodAll_cons_mk (Below.trod laidOut (by kernel_rfl) (of_decide_eq_true (by kernel_rfl)) k0 bel lt0) trodAll_mk0), rfl, bel.frame _, fun h => by cases h⟩

theorem over_BitSounds : Rows.bitSoundsRow.holds Try.pinned (OpenSpec.ofChange Rows.bitSoundsSpec) :=
  OpenClaim.holds_of_wide 4 Try.f4 rfl rfl rfl rfl rfl rfl rfl ⟨rfl, rfl, rfl, rfl, rfl⟩ rfl rfl rfl rfl rfl (by kernel_rfl) Try.func4 (by kernel_rfl)
    (of_decide_eq_true (by kernel_rfl)) (by unfold Func.isWrapper; first | (rw [if_pos (by decide +kernel)]; kernel_rfl) | (rw [if_neg (by decide +kernel)]; exact ⟨rfl, rfl⟩))
    (fun os started H enc _ => lifted_BitSounds os started H enc)

theorem bitSounds_holds : Rows.BitSoundsSaid := over_BitSounds

#print axioms bitSounds_holds
end Go.Proofs.Ytifjanlcfjajpaa
