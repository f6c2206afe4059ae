/-
  Rows.NoteMaysSaid is proved: May and Encode of any note are what the chapter says. No condition.
-/
import Derived.Test.YtokolgelmikfmaaNtOpen
import Derived.Test.YtokolgelmikfmaaNtREnc
import Derived.Deep.RegionWith
import Derived.Deep.RegionHeld3
namespace Go.Proofs.Ytokolgelmikfmaa
open Go.ChangeShapes Go.WideShapes Go.ChangeAt Go.RowKit
open Pl
set_option linter.unusedVariables false

/-- What Encode answers: the bytes and the error. -/
def encB (x : Nt) : List Int := if mayB x then enc x else []
def encE (x : Nt) : Int := if mayB x then 0 else 110
theorem encode_any (x : Nt) (hx : x.Ok) (hl : (x.B.length : Int) ≤ 1000000) (A : Option Addr) (c : Nat) (w : World) (hr : Rd w A x.B) :
    Calls Try.prog 9 #[nv x A c] w (RetBytes .u16 (encB x) (encE x) w) := by
  unfold encB encE
  cases hm : mayB x
  · exact encode_none x hx hl hm A c w hr
  · exact encode_may x hx hl hm A c w hr
theorem encB_byts {x : Nt} (hx : x.Ok) : Byts (encB x) := by
  unfold encB
  split
  · exact enc_byts hx
  · exact fun y hy => absurd hy (by simp)
/-- A note's box reads so. -/
def NtS (g : Nat) (k e s t v cc b m n : Int) (z : Bool) (A : Option Addr) (l c : Nat) (N : Int) (wx : World) : Prop :=
  wx.cell? ⟨g, 0, none⟩ = some (.int .u8 k) ∧ wx.cell? ⟨g, 1, none⟩ = some (.int .u32 e) ∧ wx.cell? ⟨g, 2, none⟩ = some (.int .u32 s) ∧ wx.cell? ⟨g, 3, none⟩ = some (.int .i64 t) ∧ wx.cell? ⟨g, 4, none⟩ = some (.int .u64 v) ∧ wx.cell? ⟨g, 5, none⟩ = some (.int .u32 cc) ∧
    wx.cell? ⟨g, 6, none⟩ = some (.int .u32 b) ∧ wx.cell? ⟨g, 7, none⟩ = some (.int .u32 m) ∧ wx.cell? ⟨g, 8, none⟩ = some (.int .u32 n) ∧ wx.cell? ⟨g, 9, none⟩ = some (.bool z) ∧ wx.cell? ⟨g, 10, none⟩ = some (.slice A l c) ∧ wx.cell? ⟨g, 11, none⟩ = some (.int .i64 N)

section
variable {g : Nat} {k e s t v cc b m n : Int} {z : Bool} {A : Option Addr} {l c : Nat} {N : Int} {w w' : World}
theorem NtS.drew (h : NtS g k e s t v cc b m n z A l c N w) : NtS g k e s t v cc b m n z A l c N w.drew := h
theorem NtS.below (h : NtS g k e s t v cc b m n z A l c N w) (hb : Below w.heap.size w w') (hg : g < w.heap.size) : NtS g k e s t v cc b m n z A l c N w' := by
  have q : ∀ (i : Nat), w'.cell? ⟨g, i, none⟩ = w.cell? ⟨g, i, none⟩ := fun i => hb.cell (p := ⟨g, i, none⟩) hg
  obtain ⟨h0, h1, h2, h3, h4, h5, h6, h7, h8, h9, h10, h11⟩ := h
  exact ⟨(q 0).trans h0, (q 1).trans h1, (q 2).trans h2, (q 3).trans h3, (q 4).trans h4, (q 5).trans h5, (q 6).trans h6, (q 7).trans h7, (q 8).trans h8, (q 9).trans h9, (q 10).trans h10, (q 11).trans h11⟩
end

/-- Besides, both slices read as the same text. -/
def NtC (g : Nat) (k e s t v cc b m n : Int) (z : Bool) (A : Option Addr) (l c : Nat) (N : Int) (A2 A3 : Option Addr) (l1 c2 c3 : Nat) (S : ByteArray) (wx : World) : Prop :=
  NtS g k e s t v cc b m n z A l c N wx ∧ ((convert 28 9 (.slice A2 l1 c2)).run Try.prog wx = .ok (.string S) wx ∧ (convert 28 9 (.slice A3 l1 c3)).run Try.prog wx = .ok (.string S) wx)

set_option maxRecDepth 100000 in
set_option maxHeartbeats 4000000 in
theorem walk_NoteMays (w : World) (x : Nt) (hx : x.Ok) (A : Option Addr) (c : Nat) (hr : Rd w A x.B) :
    Calls Try.prog 3 #[nv x A c] w fun e w' => e = .returned (.bool true) ∧ Below w.heap.size w w' := by
  by_cases hbig : (1000 : Int) < (x.B.length : Int)
  · unfold nv
    obtain ⟨n, hn⟩ : ∃ n, x.B.length = n := ⟨_, rfl⟩
    rw [hn] at hbig ⊢
    have hd' : decide (1000 < n) = true := by simp; omega
    have hdI : ¬ (n : Int) ≤ 1000 := by omega
    clear hr hx hn
    go_enter Try.func3, Try.ntmps3
    go_wp2_with fail
    refine (known_any _).mono ?_
    rintro e w1 ⟨rfl, hb1⟩
    go_wp2_with fail
    go_ret
    exact ⟨rfl, ((Below.refl _ _).alloc (Nat.le_refl _) _).trans (hb1.mono (by simp))⟩
  have ENC := fun wx (h : Rd wx A x.B) => encode_any x hx (by omega) A c wx h
  have REN := fun wx (h : Rd wx A x.B) => rencode_any x hx (by omega) A c wx h
  have MAY := fun wx (h : Rd wx A x.B) => may_any x hx (by omega) A c wx h
  have RMA := fun wx (h : Rd wx A x.B) => rmay_any x hx (by omega) A c wx h
  have HBX := Lib.hid (encB_byts hx)
  have HE01 : Hid (encE x = 0 ∨ encE x = 110) := Lib.hid (by unfold encE; cases mayB x <;> simp)
  change ∀ wx, _ → Calls _ _ _ _ (RetBytes .i64 (encB x) (encE x) wx) at REN
  obtain ⟨L, hL⟩ : ∃ L, encB x = L := ⟨_, rfl⟩
  obtain ⟨a, ha⟩ : ∃ a, encE x = a := ⟨_, rfl⟩
  obtain ⟨q, hq⟩ : ∃ q, mayB x = q := ⟨_, rfl⟩
  rw [hL, ha] at ENC REN
  rw [hL] at HBX
  rw [ha] at HE01
  rw [hq] at MAY RMA
  unfold RetBytes at ENC REN
  unfold nv at ENC REN MAY RMA ⊢
  obtain ⟨n, hn⟩ : ∃ n, x.B.length = n := ⟨_, rfl⟩
  obtain ⟨l1, hl1⟩ : ∃ n, L.length = n := ⟨_, rfl⟩
  have HL1 := Lib.hid hl1
  rw [hn] at hbig ENC REN MAY RMA ⊢
  rw [hl1] at ENC REN
  have HX := Lib.hid ENC
  have HY := Lib.hid REN
  have HM := Lib.hid MAY
  have HR := Lib.hid RMA
  have hd' : decide (1000 < n) = false := by simp; omega
  have hdJ : (n : Int) ≤ 1000 := by omega
  clear ENC REN MAY RMA hx hL ha hq hn hl1 hbig
  go_enter Try.func3, Try.ntmps3
  go_wp2_with fail
  refine (known_any _).mono ?_
  rintro e w1 ⟨rfl, hb1⟩
  have hbw : Below w.heap.size w w1 := ((Below.refl _ _).alloc (Nat.le_refl _) _).trans (hb1.mono (by simp))
  have hx1 := (Blk.new w _ _).below hb1 (by simp)
  have x0 := cells12 hx1
  have HXB := Lib.hid hx1
  have hr1 := hr.below hbw
  clear hb1 hx1
  go_wp2_with fail
  refine (HX.out _ hr1).mono ?_
  rintro e w2 ⟨A2, c2, rfl, hown2, hb2⟩
  have hbw2 := hbw.trans (hb2.mono hbw.size)
  replace HXB := Lib.hid (HXB.out.below hb2 HXB.out.lt)
  have hr2 := hr1.below hb2
  have hrL := Rd.of_own hown2
  clear hown2 hb2 x0 hr1 HX
  have x0 := cells12 HXB.out
  go_wp2_with fail
  refine (HY.out _ hr2).mono ?_
  rintro e w3 ⟨A3, c3, rfl, hown3, hb3⟩
  have hbw3 := hbw2.trans (hb3.mono hbw2.size)
  replace HXB := Lib.hid (HXB.out.below hb3 HXB.out.lt)
  have hr3 := hr2.below hb3
  have hrL3 := hrL.below hb3
  have hrM := Rd.of_own hown3
  clear hown3 hb3 x0 hr2 hrL HY
  have z1 : w.heap.size < w3.heap.size := HXB.out.lt
  have hS0 : NtS w.heap.size x.k x.e x.s x.t x.v x.c x.b x.m x.n x.z A n c x.N w3 := cells12 HXB.out
  have TX := fun wx (h : Rd wx A2 L) => run_text (P := Try.prog) wx 28 9 5 A2 c2 L Try.underlying28 Try.underlying5 Try.underlying9 HBX.out h
  have TY := fun wx (h : Rd wx A3 L) => run_text (P := Try.prog) wx 28 9 5 A3 c3 L Try.underlying28 Try.underlying5 Try.underlying9 HBX.out h
  rw [HL1.out] at TX TY
  obtain ⟨S1, hS1⟩ : ∃ S, strB L = S := ⟨_, rfl⟩
  rw [hS1] at TX TY
  have HS0 : Hid (NtC w.heap.size x.k x.e x.s x.t x.v x.c x.b x.m x.n x.z A n c x.N A2 A3 l1 c2 c3 S1 w3.drew) := Lib.hid ⟨hS0.drew, TX _ hrL3.drew, TY _ hrM.drew⟩
  have HK : Hid (∀ wx, Below w3.heap.size w3 wx → NtC w.heap.size x.k x.e x.s x.t x.v x.c x.b x.m x.n x.z A n c x.N A2 A3 l1 c2 c3 S1 wx) := Lib.hid (fun wx hb => ⟨hS0.below hb z1, TX _ (hrL3.below hb), TY _ (hrM.below hb)⟩)
  clear HXB hS0 TX TY hS1 hrL3 hrM
  rcases HE01.out with rfl | rfl
  all_goals
    go_wp2_with fail
    go_region_held3 (fun W => (W.cell? ⟨w.heap.size, 0, none⟩ = some (.int .u8 x.k) ∧ W.cell? ⟨w.heap.size, 1, none⟩ = some (.int .u32 x.e) ∧ W.cell? ⟨w.heap.size, 2, none⟩ = some (.int .u32 x.s) ∧ W.cell? ⟨w.heap.size, 3, none⟩ = some (.int .i64 x.t) ∧ W.cell? ⟨w.heap.size, 4, none⟩ = some (.int .u64 x.v) ∧ W.cell? ⟨w.heap.size, 5, none⟩ = some (.int .u32 x.c) ∧ W.cell? ⟨w.heap.size, 6, none⟩ = some (.int .u32 x.b) ∧ W.cell? ⟨w.heap.size, 7, none⟩ = some (.int .u32 x.m) ∧ W.cell? ⟨w.heap.size, 8, none⟩ = some (.int .u32 x.n) ∧ W.cell? ⟨w.heap.size, 9, none⟩ = some (.bool x.z) ∧ W.cell? ⟨w.heap.size, 10, none⟩ = some (.slice A n c) ∧ W.cell? ⟨w.heap.size, 11, none⟩ = some (.int .i64 x.N)) ∧ ((convert 28 9 (.slice A2 l1 c2)).run Try.prog W = .ok (.string S1) W ∧ (convert 28 9 (.slice A3 l1 c3)).run Try.prog W = .ok (.string S1) W))
      ((show NtC w.heap.size x.k x.e x.s x.t x.v x.c x.b x.m x.n x.z A n c x.N A2 A3 l1 c2 c3 S1 _; with_reducible first | exact HS0.out | exact hS1 | exact hS2 | fail))
      ((first
        | (go_at_call 11; ((with_reducible refine (HM.out _ hr3.drew).mono ?_); rintro e w4 ⟨rfl, hb4⟩; have hC1 : Below w3.heap.size w3 w4 := (Below.refl _ _).drew.trans hb4; have hS1 := HK.out _ hC1; have hr4 := hr3.below hC1))
        | (go_at_call 12; ((with_reducible refine (HR.out _ hr4).mono ?_); rintro e w5 ⟨rfl, hb5⟩; have hC2 : Below w3.heap.size w3 w5 := hC1.trans (hb5.mono hC1.size); have hS2 := HK.out _ hC2))))
    all_goals
      go_wp2_with fail
      go_ret
      exact ⟨rfl, hbw3.trans (hC2.mono hbw3.size)⟩

set_option maxRecDepth 100000 in
theorem lifted_NoteMays (os : Os) (started : os.Started) (H : Type) (enc : TypeId × Value → H) :
    ReturnsInHanded {} Try.checked os 3 .any (Rows.noteMaysSpec.pre6 enc Try.prog Try.f3 Rows.noteMaysRow.domain false) (Rows.noteMaysSpec.post enc Try.prog Try.f3 false true false false) := by
  refine returnsInHanded_of_change (C := Try.checked) own started (by kernel_rfl) Try.func3
    (ChangeSpec.witness6 (enc := enc) (C := Try.checked) false ⟨#[], #[.agg #[.int .u8 0, .int .u32 0, .int .u32 0, .int .i64 0, .int .u64 0, .int .u32 0, .int .u32 0, .int .u32 0, .int .u32 0, .bool false, .slice none 0 0, .int .i64 0]], []⟩ 8 (by kernel_rfl) (by kernel_rfl) (by kernel_rfl) (by kernel_rfl)) ?_
  intro W base args ds gs before hval0 hW hcnd _
  have hval : ∀ (j : Nat) t v, Try.f3.params[j]? = some t → args[j]? = some v → Value.okWide Try.prog W .any base t v := hval0
  have hW' := hW
  obtain ⟨p, q, hA0, hV, rfl, hfz, hnd⟩ := hW
  have hA : DataW.TrodAll enc Try.prog W 0 (fun _ => true) true Try.f3.params.toList args.toList ds p := hA0
  rw [Try.params3] at hA hval
  obtain ⟨v0, vs0, d0, ds0, p0, q0, hargs, rfl, rfl, h0, r0⟩ := trodAll_cons hA
  obtain ⟨rfl, rfl, rfl⟩ := trodAll_nil r0
  obtain rfl : args = #[v0] := by cases args; simp_all
  obtain ⟨rfl, rfl⟩ := trodVars_none hV
  have k0 := h0
  have lt0 : ∀ x ∈ p0, x.block < W.heap.size := by obtain ⟨m, hm⟩ := k0; exact DataW.trod_lt m _ _ _ hm
  obtain ⟨x0, A0, c0, ok0, rfl, rd0⟩ := open_note (hval 0 32 v0 rfl rfl) h0
  clear hA0 hval0
  refine (walk_NoteMays W x0 ok0 A0 c0 rd0).mono fun e W' ⟨he, bel⟩ => ?_
  subst he
  exact ⟨_, rfl, _, _, _, [], _, [], hW', trodAll_mk1 (shut_bool Try.underlying4 _), (trodAll_cons_mk (Below.trod laidOut (by kernel_rfl) (of_decide_eq_true (by kernel_rfl)) k0 bel lt0) trodAll_mk0), rfl, bel.frame _, fun h => by cases h⟩

theorem over_NoteMays : Rows.noteMaysRow.holds Try.pinned (OpenSpec.ofChange Rows.noteMaysSpec) :=
  OpenClaim.holds_of_wide 3 Try.f3 rfl rfl rfl rfl rfl rfl rfl ⟨rfl, rfl, rfl, rfl, rfl⟩ rfl rfl rfl rfl rfl (by kernel_rfl) Try.func3 (by kernel_rfl)
    (of_decide_eq_true (by kernel_rfl)) (by unfold Func.isWrapper; first | (rw [if_pos (by decide +kernel)]; kernel_rfl) | (rw [if_neg (by decide +kernel)]; exact ⟨rfl, rfl⟩))
    (fun os started H enc _ => lifted_NoteMays os started H enc)

theorem noteMays_holds : Rows.NoteMaysSaid := over_NoteMays

#print axioms noteMays_holds
end Go.Proofs.Ytokolgelmikfmaa
