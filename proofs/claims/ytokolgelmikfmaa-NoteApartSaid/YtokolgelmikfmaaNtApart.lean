/-
  Rows.NoteApartSaid is proved: two notes that may be are written alike just if they are alike. No condition.
-/
import Derived.Test.YtokolgelmikfmaaNtOpen
import Derived.Deep.RegionWith
namespace Go.Proofs.Ytokolgelmikfmaa
open Go.ChangeShapes Go.WideShapes Go.ChangeAt Go.RowKit
open Pl
set_option linter.unusedVariables false

/-- What Encode answers: the bytes and the error. -/
def encB (x : Nt) : List Int := if mayB x then enc x else []
def encE (x : Nt) : Int := if mayB x then 0 else 110
theorem encode_any (x : Nt) (hx : x.Ok) (hl : (x.B.length : Int) ≤ 1000000) (A : Option Addr) (c : Nat) (w : World) (hr : Rd w A x.B) :
    Calls Try.prog 9 #[nv x A c] w (RetBytes .u16 (encB x) (encE x) w) := by
  unfold encB encE
  cases hm : mayB x
  · exact encode_none x hx hl hm A c w hr
  · exact encode_may x hx hl hm A c w hr
theorem encB_byts {x : Nt} (hx : x.Ok) : Byts (encB x) := by
  unfold encB
  split
  · exact enc_byts hx
  · exact fun y hy => absurd hy (by simp)

set_option maxRecDepth 100000 in
set_option maxHeartbeats 4000000 in
theorem walk_NoteApart (w : World) (x : Nt) (hx : x.Ok) (A : Option Addr) (c : Nat) (hr : Rd w A x.B) (y : Nt) (hy : y.Ok) (A' : Option Addr) (c' : Nat) (hr' : Rd w A' y.B) :
    Calls Try.prog 7 #[nv x A c, nv y A' c'] w fun e w' => e = .returned (.bool true) ∧ Below w.heap.size w w' := by
  by_cases hbig : (1000 : Int) < (x.B.length : Int)
  · unfold nv
    obtain ⟨n, hn⟩ : ∃ n, x.B.length = n := ⟨_, rfl⟩
    rw [hn] at hbig ⊢
    have hd' : decide (1000 < n) = true := by simp; omega
    have hdI : ¬ (n : Int) ≤ 1000 := by omega
    clear hr hx hn hr' hy
    go_enter Try.func7, Try.ntmps7
    go_wp2_with fail
    refine (known_any _).mono ?_
    rintro e w1 ⟨rfl, hb1⟩
    go_wp2_with fail
    go_ret
    exact ⟨rfl, (((Below.refl _ _).alloc (Nat.le_refl _) _).alloc (by simp) _).trans (hb1.mono (by simp; omega))⟩
  by_cases hbig2 : (1000 : Int) < (y.B.length : Int)
  · unfold nv
    obtain ⟨n, hn⟩ : ∃ n, x.B.length = n := ⟨_, rfl⟩
    obtain ⟨m, hm⟩ : ∃ n, y.B.length = n := ⟨_, rfl⟩
    rw [hn] at hbig ⊢
    rw [hm] at hbig2 ⊢
    have hd' : decide (1000 < m) = true := by simp; omega
    have hd2 : decide (1000 < n) = false := by simp; omega
    have hdI : ¬ (m : Int) ≤ 1000 := by omega
    have hdJ : (n : Int) ≤ 1000 := by omega
    clear hr hx hn hr' hy hm
    go_enter Try.func7, Try.ntmps7
    go_wp2_with fail
    refine (known_any _).mono ?_
    rintro e w1 ⟨rfl, hb1⟩
    go_wp2_with fail
    go_ret
    exact ⟨rfl, (((Below.refl _ _).alloc (Nat.le_refl _) _).alloc (by simp) _).trans (hb1.mono (by simp; omega))⟩
  have ENX := fun wx (h : Rd wx A x.B) => encode_any x hx (by omega) A c wx h
  have ENY := fun wx (h : Rd wx A' y.B) => encode_any y hy (by omega) A' c' wx h
  have SAME := fun wx (h : Rd wx A x.B) (h' : Rd wx A' y.B) => rnsame_any x y hx.2.2.2.2.2.2.2.2.2.1 hy.2.2.2.2.2.2.2.2.2.1 A A' c c' wx h h'
  have HBX := Lib.hid (encB_byts hx)
  have HBY := Lib.hid (encB_byts hy)
  have HEQ : Hid (encE x = 0 → encE y = 0 → (encB x = encB y ↔ x = y)) := Lib.hid (by
    unfold encE encB
    cases hm : mayB x <;> cases hn : mayB y
    · intro h; simp at h
    · intro h; simp at h
    · intro _ h; simp at h
    · intro _ _
      simp only [if_true]
      exact ⟨enc_inj hx hy hm hn, fun h => by rw [h]⟩)
  have HE01 : Hid ((encE x = 0 ∨ encE x = 110) ∧ (encE y = 0 ∨ encE y = 110)) := Lib.hid (by
    unfold encE
    cases mayB x <;> cases mayB y <;> simp)
  obtain ⟨L, hL⟩ : ∃ L, encB x = L := ⟨_, rfl⟩
  obtain ⟨M, hM⟩ : ∃ L, encB y = L := ⟨_, rfl⟩
  obtain ⟨a, ha⟩ : ∃ a, encE x = a := ⟨_, rfl⟩
  obtain ⟨b, hb⟩ : ∃ b, encE y = b := ⟨_, rfl⟩
  obtain ⟨q, hq⟩ : ∃ q, sameB x y = q := ⟨_, rfl⟩
  rw [hL, ha] at ENX
  rw [hM, hb] at ENY
  rw [hq] at SAME
  rw [hL] at HBX
  rw [hM] at HBY
  rw [hL, hM, ha, hb] at HEQ
  rw [ha, hb] at HE01
  have HQ := Lib.hid hq
  unfold RetBytes at ENX ENY
  unfold nv at ENX ENY SAME ⊢
  obtain ⟨n, hn⟩ : ∃ n, x.B.length = n := ⟨_, rfl⟩
  obtain ⟨m, hm⟩ : ∃ n, y.B.length = n := ⟨_, rfl⟩
  obtain ⟨l1, hl1⟩ : ∃ n, L.length = n := ⟨_, rfl⟩
  obtain ⟨l2, hl2⟩ : ∃ n, M.length = n := ⟨_, rfl⟩
  have HL1 := Lib.hid hl1
  have HL2 := Lib.hid hl2
  rw [hn] at hbig ENX SAME ⊢
  rw [hm] at hbig2 ENY SAME ⊢
  rw [hl1] at ENX
  rw [hl2] at ENY
  have HX := Lib.hid ENX
  have HY := Lib.hid ENY
  have HS := Lib.hid SAME
  have hd' : decide (1000 < m) = false := by simp; omega
  have hd2 : decide (1000 < n) = false := by simp; omega
  have hdI : (m : Int) ≤ 1000 := by omega
  have hdJ : (n : Int) ≤ 1000 := by omega
  clear ENX ENY SAME hx hy hL hM ha hb hq hn hm hl1 hl2 hbig hbig2
  go_enter Try.func7, Try.ntmps7
  go_wp2_with fail
  refine (known_any _).mono ?_
  rintro e w1 ⟨rfl, hb1⟩
  have hbw : Below w.heap.size w w1 := (((Below.refl _ _).alloc (Nat.le_refl _) _).alloc (by simp) _).trans (hb1.mono (by simp; omega))
  have hx1 := ((Blk.new w _ _).alloc _).below hb1 (by simp; omega)
  have hy1 := (blk_at (H := w.heap.size + 1) (by simp)).below hb1 (by simp)
  have x0 := cells12 hx1
  have y0 := cells12 hy1
  have HXB := Lib.hid hx1
  have HYB := Lib.hid hy1
  have hr1 := hr.below hbw
  have hr1' := hr'.below hbw
  clear hb1 hx1 hy1
  go_wp2_with fail
  refine (HX.out _ hr1).mono ?_
  rintro e w2 ⟨A2, c2, rfl, hown2, hb2⟩
  have hrL := Rd.of_own hown2
  have hbw2 := hbw.trans (hb2.mono hbw.size)
  replace HXB := Lib.hid (HXB.out.below hb2 HXB.out.lt)
  replace HYB := Lib.hid (HYB.out.below hb2 HYB.out.lt)
  have hr2 := hr1.below hb2
  have hr2' := hr1'.below hb2
  clear hown2 hb2 x0 y0 hr1 hr1' HX
  have y0 := cells12 HYB.out
  go_wp2_with fail
  refine (HY.out _ hr2').mono ?_
  rintro e w3 ⟨A3, c3, rfl, hown3, hb3⟩
  have hrM := Rd.of_own hown3
  have hrL3 := hrL.below hb3
  have hbw3 := hbw2.trans (hb3.mono hbw2.size)
  replace HXB := Lib.hid (HXB.out.below hb3 HXB.out.lt)
  replace HYB := Lib.hid (HYB.out.below hb3 HYB.out.lt)
  have hr3 := hr2.below hb3
  have hr3' := hr2'.below hb3
  clear hown3 hb3 y0 hr2 hr2' HY hrL
  by_cases hgo : a = 0 ∧ b = 0
  · obtain ⟨rfl, rfl⟩ := hgo
    have hiff := HEQ.out rfl rfl
    have x0 := cells12 HXB.out
    have y0 := cells12 HYB.out
    have TX := fun wx (h : Rd wx A2 L) => run_text (P := Try.prog) wx 28 9 5 A2 c2 L Try.underlying28 Try.underlying5 Try.underlying9 HBX.out h
    have TY := fun wx (h : Rd wx A3 M) => run_text (P := Try.prog) wx 28 9 5 A3 c3 M Try.underlying28 Try.underlying5 Try.underlying9 HBY.out h
    rw [HL1.out] at TX
    rw [HL2.out] at TY
    have hcmp : ((strB L).toList == (strB M).toList) = q := by
      rw [text_eq ⟨strB_inj HBX.out HBY.out, fun h => by rw [h]⟩, ← HQ.out, Bool.eq_iff_iff, decide_eq_true_eq, sameB_iff]
      exact hiff
    obtain ⟨S1, hS1⟩ : ∃ S, strB L = S := ⟨_, rfl⟩
    obtain ⟨S2, hS2⟩ : ∃ S, strB M = S := ⟨_, rfl⟩
    rw [hS1] at TX hcmp
    rw [hS2] at TY hcmp
    have HTX := Lib.hid TX
    have HTY := Lib.hid TY
    have HCM := Lib.hid hcmp
    have hS3 : ((w3.drew.cell? ⟨w.heap.size, 0, none⟩ = some (.int .u8 x.k) ∧ w3.drew.cell? ⟨w.heap.size, 1, none⟩ = some (.int .u32 x.e) ∧ w3.drew.cell? ⟨w.heap.size, 2, none⟩ = some (.int .u32 x.s) ∧ w3.drew.cell? ⟨w.heap.size, 3, none⟩ = some (.int .i64 x.t) ∧ w3.drew.cell? ⟨w.heap.size, 4, none⟩ = some (.int .u64 x.v) ∧ w3.drew.cell? ⟨w.heap.size, 5, none⟩ = some (.int .u32 x.c) ∧ w3.drew.cell? ⟨w.heap.size, 6, none⟩ = some (.int .u32 x.b) ∧ w3.drew.cell? ⟨w.heap.size, 7, none⟩ = some (.int .u32 x.m) ∧ w3.drew.cell? ⟨w.heap.size, 8, none⟩ = some (.int .u32 x.n) ∧ w3.drew.cell? ⟨w.heap.size, 9, none⟩ = some (.bool x.z) ∧ w3.drew.cell? ⟨w.heap.size, 10, none⟩ = some (.slice A n c) ∧ w3.drew.cell? ⟨w.heap.size, 11, none⟩ = some (.int .i64 x.N)) ∧ (w3.drew.cell? ⟨w.heap.size + 1, 0, none⟩ = some (.int .u8 y.k) ∧ w3.drew.cell? ⟨w.heap.size + 1, 1, none⟩ = some (.int .u32 y.e) ∧ w3.drew.cell? ⟨w.heap.size + 1, 2, none⟩ = some (.int .u32 y.s) ∧ w3.drew.cell? ⟨w.heap.size + 1, 3, none⟩ = some (.int .i64 y.t) ∧ w3.drew.cell? ⟨w.heap.size + 1, 4, none⟩ = some (.int .u64 y.v) ∧ w3.drew.cell? ⟨w.heap.size + 1, 5, none⟩ = some (.int .u32 y.c) ∧ w3.drew.cell? ⟨w.heap.size + 1, 6, none⟩ = some (.int .u32 y.b) ∧ w3.drew.cell? ⟨w.heap.size + 1, 7, none⟩ = some (.int .u32 y.m) ∧ w3.drew.cell? ⟨w.heap.size + 1, 8, none⟩ = some (.int .u32 y.n) ∧ w3.drew.cell? ⟨w.heap.size + 1, 9, none⟩ = some (.bool y.z) ∧ w3.drew.cell? ⟨w.heap.size + 1, 10, none⟩ = some (.slice A' m c') ∧ w3.drew.cell? ⟨w.heap.size + 1, 11, none⟩ = some (.int .i64 y.N))) ∧ ((convert 28 9 (.slice A2 l1 c2)).run Try.prog w3.drew = .ok (.string S1) w3.drew ∧ (convert 28 9 (.slice A3 l2 c3)).run Try.prog w3.drew = .ok (.string S2) w3.drew) := ⟨⟨cells12 (HXB.out.drew), cells12 (HYB.out.drew)⟩, TX w3.drew hrL3.drew, TY w3.drew hrM.drew⟩
    have HS3 := Lib.hid hS3
    clear TX TY hcmp hS1 hS2 hiff hS3
    go_wp2_with fail
    go_region_held3 (fun W => ((W.cell? ⟨w.heap.size, 0, none⟩ = some (.int .u8 x.k) ∧ W.cell? ⟨w.heap.size, 1, none⟩ = some (.int .u32 x.e) ∧ W.cell? ⟨w.heap.size, 2, none⟩ = some (.int .u32 x.s) ∧ W.cell? ⟨w.heap.size, 3, none⟩ = some (.int .i64 x.t) ∧ W.cell? ⟨w.heap.size, 4, none⟩ = some (.int .u64 x.v) ∧ W.cell? ⟨w.heap.size, 5, none⟩ = some (.int .u32 x.c) ∧ W.cell? ⟨w.heap.size, 6, none⟩ = some (.int .u32 x.b) ∧ W.cell? ⟨w.heap.size, 7, none⟩ = some (.int .u32 x.m) ∧ W.cell? ⟨w.heap.size, 8, none⟩ = some (.int .u32 x.n) ∧ W.cell? ⟨w.heap.size, 9, none⟩ = some (.bool x.z) ∧ W.cell? ⟨w.heap.size, 10, none⟩ = some (.slice A n c) ∧ W.cell? ⟨w.heap.size, 11, none⟩ = some (.int .i64 x.N)) ∧ (W.cell? ⟨w.heap.size + 1, 0, none⟩ = some (.int .u8 y.k) ∧ W.cell? ⟨w.heap.size + 1, 1, none⟩ = some (.int .u32 y.e) ∧ W.cell? ⟨w.heap.size + 1, 2, none⟩ = some (.int .u32 y.s) ∧ W.cell? ⟨w.heap.size + 1, 3, none⟩ = some (.int .i64 y.t) ∧ W.cell? ⟨w.heap.size + 1, 4, none⟩ = some (.int .u64 y.v) ∧ W.cell? ⟨w.heap.size + 1, 5, none⟩ = some (.int .u32 y.c) ∧ W.cell? ⟨w.heap.size + 1, 6, none⟩ = some (.int .u32 y.b) ∧ W.cell? ⟨w.heap.size + 1, 7, none⟩ = some (.int .u32 y.m) ∧ W.cell? ⟨w.heap.size + 1, 8, none⟩ = some (.int .u32 y.n) ∧ W.cell? ⟨w.heap.size + 1, 9, none⟩ = some (.bool y.z) ∧ W.cell? ⟨w.heap.size + 1, 10, none⟩ = some (.slice A' m c') ∧ W.cell? ⟨w.heap.size + 1, 11, none⟩ = some (.int .i64 y.N))) ∧ ((convert 28 9 (.slice A2 l1 c2)).run Try.prog W = .ok (.string S1) W ∧ (convert 28 9 (.slice A3 l2 c3)).run Try.prog W = .ok (.string S2) W))
      (first | (exact HS3.out) | (exact hS4))
      ((go_at_call 15; ((with_reducible refine (HS.out _ hr3.drew hr3'.drew).mono ?_); rintro e w4 ⟨rfl, hb4⟩; have hS4 := And.intro (And.intro (cells12 (HXB.out.drew.below hb4 HXB.out.lt)) (cells12 (HYB.out.drew.below hb4 HYB.out.lt))) (And.intro (HTX.out _ (hrL3.drew.below hb4)) (HTY.out _ (hrM.drew.below hb4))))))
    all_goals
      have hcm := HCM.out
      clear hS4
      rw [hcm]
      cases q
      all_goals
        go_wp2_with fail
        go_ret
        exact ⟨rfl, hbw3.drew.trans (hb4.mono hbw3.size)⟩
  · rcases HE01.out with ⟨h1 | h1, h2 | h2⟩
    · exact absurd ⟨h1, h2⟩ hgo
    all_goals
      clear hgo HE01 HEQ
      subst h1
      subst h2
      go_wp2_with fail
      go_ret
      exact ⟨rfl, hbw3⟩

set_option maxRecDepth 100000 in
theorem lifted_NoteApart (os : Os) (started : os.Started) (H : Type) (enc : TypeId × Value → H) :
    ReturnsInHanded {} Try.checked os 7 .any (Rows.noteApartSpec.pre6 enc Try.prog Try.f7 Rows.noteApartRow.domain false) (Rows.noteApartSpec.post enc Try.prog Try.f7 false true false false) := by
  refine returnsInHanded_of_change (C := Try.checked) own started (by kernel_rfl) Try.func7
    (ChangeSpec.witness6 (enc := enc) (C := Try.checked) false ⟨#[], #[.agg #[.int .u8 0, .int .u32 0, .int .u32 0, .int .i64 0, .int .u64 0, .int .u32 0, .int .u32 0, .int .u32 0, .int .u32 0, .bool false, .slice none 0 0, .int .i64 0], .agg #[.int .u8 0, .int .u32 0, .int .u32 0, .int .i64 0, .int .u64 0, .int .u32 0, .int .u32 0, .int .u32 0, .int .u32 0, .bool false, .slice none 0 0, .int .i64 0]], []⟩ 8 (by kernel_rfl) (by kernel_rfl) (by kernel_rfl) (by kernel_rfl)) ?_
  intro W base args ds gs before hval0 hW hcnd _
  have hval : ∀ (j : Nat) t v, Try.f7.params[j]? = some t → args[j]? = some v → Value.okWide Try.prog W .any base t v := hval0
  have hW' := hW
  obtain ⟨p, q, hA0, hV, rfl, hfz, hnd⟩ := hW
  have hA : DataW.TrodAll enc Try.prog W 0 (fun _ => true) true Try.f7.params.toList args.toList ds p := hA0
  rw [Try.params7] at hA hval
  obtain ⟨v0, vs0, d0, ds0, p0, q0, hargs, rfl, rfl, h0, r0⟩ := trodAll_cons hA
  obtain ⟨v1, vs1, d1, ds1, p1, q1, rfl, rfl, rfl, h1, r1⟩ := trodAll_cons r0
  obtain ⟨rfl, rfl, rfl⟩ := trodAll_nil r1
  obtain rfl : args = #[v0, v1] := by cases args; simp_all
  obtain ⟨rfl, rfl⟩ := trodVars_none hV
  have k0 := h0
  have lt0 : ∀ x ∈ p0, x.block < W.heap.size := by obtain ⟨m, hm⟩ := k0; exact DataW.trod_lt m _ _ _ hm
  obtain ⟨x0, A0, c0, ok0, rfl, rd0⟩ := open_note (hval 0 32 v0 rfl rfl) h0
  have k1 := h1
  have lt1 : ∀ x ∈ p1, x.block < W.heap.size := by obtain ⟨m, hm⟩ := k1; exact DataW.trod_lt m _ _ _ hm
  obtain ⟨x1, A1, c1, ok1, rfl, rd1⟩ := open_note (hval 1 32 v1 rfl rfl) h1
  clear hA0 hval0
  refine (walk_NoteApart W x0 ok0 A0 c0 rd0 x1 ok1 A1 c1 rd1).mono fun e W' ⟨he, bel⟩ => ?_
  subst he
  exact ⟨_, rfl, _, _, _, [], _, [], hW', trodAll_mk1 (shut_bool Try.underlying4 _), (trodAll_cons_mk (Below.trod laidOut (by kernel_rfl) (of_decide_eq_true (by kernel_rfl)) k0 bel lt0) (trodAll_cons_mk (Below.trod laidOut (by kernel_rfl) (of_decide_eq_true (by kernel_rfl)) k1 bel lt1) trodAll_mk0)), rfl, bel.frame _, fun h => by cases h⟩

theorem over_NoteApart : Rows.noteApartRow.holds Try.pinned (OpenSpec.ofChange Rows.noteApartSpec) :=
  OpenClaim.holds_of_wide 7 Try.f7 rfl rfl rfl rfl rfl rfl rfl ⟨rfl, rfl, rfl, rfl, rfl⟩ rfl rfl rfl rfl rfl (by kernel_rfl) Try.func7 (by kernel_rfl)
    (of_decide_eq_true (by kernel_rfl)) (by unfold Func.isWrapper; first | (rw [if_pos (by decide +kernel)]; kernel_rfl) | (rw [if_neg (by decide +kernel)]; exact ⟨rfl, rfl⟩))
    (fun os started H enc _ => lifted_NoteApart os started H enc)

theorem noteApart_holds : Rows.NoteApartSaid := over_NoteApart

#print axioms noteApart_holds
end Go.Proofs.Ytokolgelmikfmaa
