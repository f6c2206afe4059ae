/-
  Rows.NoteOnlySaid is proved: bytes that are read as a note are what it is written as. No condition.
-/
import Derived.Test.YtokolgelmikfmaaNtOpen
namespace Go.Proofs.Ytokolgelmikfmaa
open Go.ChangeShapes Go.WideShapes Go.ChangeAt Go.RowKit
open Pl
set_option linter.unusedVariables false

theorem parse_small {Bs : List Int} (hl : (Bs.length : Int) ≤ 1000000) : ((parse Bs).B.length : Int) ≤ 1000000 := by
  have : (parse Bs).B.length ≤ Bs.length := by
    unfold parse
    split
    · simp
    · split
      · simp
      · split
        · simp
        · split
          · simp
          · simp
  omega

set_option maxRecDepth 100000 in
set_option maxHeartbeats 4000000 in
theorem walk_NoteOnly (w : World) (A : Option Addr) (c : Nat) (B : List Int) (hr : Rd w A B) (hB : Byts B) (hc : B.length ≤ c) :
    Calls Try.prog 6 #[.slice A B.length c] w fun e w' => e = .returned (.bool true) ∧ Below w.heap.size w w' := by
  by_cases hbig : (1000 : Int) < (B.length : Int)
  · have hd' : decide (1000 < B.length) = true := by simp; omega
    clear hB hr hc
    go_enter Try.func6, Try.ntmps6
    go_wp2_with fail
    refine (known_any _).mono ?_
    rintro e w1 ⟨rfl, hb1⟩
    go_wp2_with fail
    go_ret
    exact ⟨rfl, hb1⟩
  have hd' : decide (1000 < B.length) = false := by simp; omega
  have DEC := fun wx (h : Rd wx A B) => decode_any A c B hB (by omega) wx h hc
  obtain ⟨n, hn⟩ : ∃ n, B.length = n := ⟨_, rfl⟩
  have HN := Lib.hid hn
  have HBY := Lib.hid hB
  have hnI : (n : Int) ≤ 1000 := by omega
  rw [hn] at hd' DEC ⊢
  cases hg : goodB B
  · rw [hg] at DEC
    unfold RetNote at DEC
    have SAME := fun A2 c2 wx => rnsame_any z0 z0 (fun x hx => absurd hx (by simp [z0])) (fun x hx => absurd hx (by simp [z0])) A2 none c2 0 wx (Rd.nil _ _) (Rd.nil _ _)
    rw [show sameB z0 z0 = true from by decide] at SAME
    unfold nv z0 at DEC SAME
    have HD := Lib.hid DEC
    have HS := Lib.hid SAME
    clear DEC SAME hB hc hn hg hbig
    go_enter Try.func6, Try.ntmps6
    go_wp2_with fail
    refine (known_any _).mono ?_
    rintro e w1 ⟨rfl, hb1⟩
    go_wp2_with fail
    refine (HD.out _ (hr.below hb1)).mono ?_
    rintro e w2 ⟨A2, c2, rfl, hown, hb2⟩
    have hbw := hb1.trans (hb2.mono hb1.size)
    clear hown
    simp only [Bool.false_eq_true, if_false]
    go_wp2_with fail
    refine (HS.out _ _ _).mono ?_
    rintro e w3 ⟨rfl, hb3⟩
    have hbz := (hbw.alloc hbw.size _).trans (hb3.mono (hbw.alloc hbw.size _).size)
    go_wp2_with fail
    go_ret
    exact ⟨rfl, hbz⟩
  · rw [hg] at DEC
    simp only [if_true] at DEC
    obtain ⟨hm, he⟩ := good_parts hg
    have ENC := fun A2 c2 wx (h : Rd wx A2 (parse B).B) => encode_may (parse B) (parse_ok hB) (parse_small (by omega)) hm A2 c2 wx h
    rw [he] at ENC
    obtain ⟨x, hx⟩ : ∃ x, parse B = x := ⟨_, rfl⟩
    rw [hx] at DEC ENC
    unfold RetNote at DEC
    unfold nv at DEC ENC
    unfold RetBytes at ENC
    rw [hn] at ENC
    have HD := Lib.hid DEC
    have HE := Lib.hid ENC
    clear DEC ENC hB hc hg hm he hx hbig hn
    go_enter Try.func6, Try.ntmps6
    go_wp2_with fail
    refine (known_any _).mono ?_
    rintro e w1 ⟨rfl, hb1⟩
    have hr1 := hr.below hb1
    go_wp2_with fail
    refine (HD.out _ hr1).mono ?_
    rintro e w2 ⟨A2, c2, rfl, hown, hb2⟩
    have hbw := hb1.trans (hb2.mono hb1.size)
    have hrx := Rd.of_own hown
    have hr2 := hr1.below hb2
    obtain ⟨xl, hxl⟩ : ∃ n, x.B.length = n := ⟨_, rfl⟩
    rw [hxl] at HE ⊢
    clear hown hb2 HD hr1 hxl
    have hbz := hbw.alloc hbw.size (.cells #[.int .u8 x.k, .int .u32 x.e, .int .u32 x.s, .int .i64 x.t, .int .u64 x.v, .int .u32 x.c, .int .u32 x.b, .int .u32 x.m, .int .u32 x.n, .bool x.z, .slice A2 xl c2, .int .i64 x.N] 32)
    have hr3 := hr2.alloc (.cells #[.int .u8 x.k, .int .u32 x.e, .int .u32 x.s, .int .i64 x.t, .int .u64 x.v, .int .u32 x.c, .int .u32 x.b, .int .u32 x.m, .int .u32 x.n, .bool x.z, .slice A2 xl c2, .int .i64 x.N] 32)
    go_wp2_with fail
    refine (HE.out _ _ _ (hrx.alloc _)).mono ?_
    rintro e w3 ⟨A3, c3, rfl, hown3, hb3⟩
    have hr4 := hr3.below hb3
    have hr5 := Rd.of_own hown3
    have hbv := hbz.trans (hb3.mono hbz.size)
    have k1 := run_text (P := Try.prog) w3 28 9 5 A c B Try.underlying28 Try.underlying5 Try.underlying9 HBY.out hr4
    have k2 := run_text (P := Try.prog) w3 28 9 5 A3 c3 B Try.underlying28 Try.underlying5 Try.underlying9 HBY.out hr5
    rw [HN.out] at k1 k2
    obtain ⟨S, hS⟩ : ∃ S, strB B = S := ⟨_, rfl⟩
    rw [hS] at k1 k2
    clear hS hown3 hb3 hr2 hr3 hr4 hr5 hrx HE
    go_wp2_with fail
    go_ret
    exact ⟨rfl, hbv⟩

set_option maxRecDepth 100000 in
theorem lifted_NoteOnly (os : Os) (started : os.Started) (H : Type) (enc : TypeId × Value → H) :
    ReturnsInHanded {} Try.checked os 6 .any (Rows.noteOnlySpec.pre6 enc Try.prog Try.f6 Rows.noteOnlyRow.domain false) (Rows.noteOnlySpec.post enc Try.prog Try.f6 false true false false) := by
  refine returnsInHanded_of_change (C := Try.checked) own started (by kernel_rfl) Try.func6
    (ChangeSpec.witness6 (enc := enc) (C := Try.checked) false ⟨#[], #[.slice none 0 0], []⟩ 8 (by kernel_rfl) (by kernel_rfl) (by kernel_rfl) (by kernel_rfl)) ?_
  intro W base args ds gs before hval0 hW hcnd _
  have hval : ∀ (j : Nat) t v, Try.f6.params[j]? = some t → args[j]? = some v → Value.okWide Try.prog W .any base t v := hval0
  have hW' := hW
  obtain ⟨p, q, hA0, hV, rfl, hfz, hnd⟩ := hW
  have hA : DataW.TrodAll enc Try.prog W 0 (fun _ => true) true Try.f6.params.toList args.toList ds p := hA0
  rw [Try.params6] at hA hval
  obtain ⟨v0, vs0, d0, ds0, p0, q0, hargs, rfl, rfl, h0, r0⟩ := trodAll_cons hA
  obtain ⟨rfl, rfl, rfl⟩ := trodAll_nil r0
  obtain rfl : args = #[v0] := by cases args; simp_all
  obtain ⟨rfl, rfl⟩ := trodVars_none hV
  have k0 := h0
  have lt0 : ∀ x ∈ p0, x.block < W.heap.size := by obtain ⟨m, hm⟩ := k0; exact DataW.trod_lt m _ _ _ hm
  obtain ⟨A0, c0, B0, rfl, rd0, by0, lc0⟩ := open_bytes (hval 0 28 v0 rfl rfl) h0
  clear hA0 hval0
  refine (walk_NoteOnly W A0 c0 B0 rd0 by0 lc0).mono fun e W' ⟨he, bel⟩ => ?_
  subst he
  exact ⟨_, rfl, _, _, _, [], _, [], hW', trodAll_mk1 (shut_bool Try.underlying4 _), (trodAll_cons_mk (Below.trod laidOut (by kernel_rfl) (of_decide_eq_true (by kernel_rfl)) k0 bel lt0) trodAll_mk0), rfl, bel.frame _, fun h => by cases h⟩

theorem over_NoteOnly : Rows.noteOnlyRow.holds Try.pinned (OpenSpec.ofChange Rows.noteOnlySpec) :=
  OpenClaim.holds_of_wide 6 Try.f6 rfl rfl rfl rfl rfl rfl rfl ⟨rfl, rfl, rfl, rfl, rfl⟩ rfl rfl rfl rfl rfl (by kernel_rfl) Try.func6 (by kernel_rfl)
    (of_decide_eq_true (by kernel_rfl)) (by unfold Func.isWrapper; first | (rw [if_pos (by decide +kernel)]; kernel_rfl) | (rw [if_neg (by decide +kernel)]; exact ⟨rfl, rfl⟩))
    (fun os started H enc _ => lifted_NoteOnly os started H enc)

theorem noteOnly_holds : Rows.NoteOnlySaid := over_NoteOnly

#print axioms noteOnly_holds
end Go.Proofs.Ytokolgelmikfmaa
