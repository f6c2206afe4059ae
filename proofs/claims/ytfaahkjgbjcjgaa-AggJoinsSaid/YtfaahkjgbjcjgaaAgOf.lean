/-
  Of: the program's and the reference's: one sample behind the other.
-/
import Derived.Test.YtfaahkjgbjcjgaaAgJoin
import Derived.Test.YtfaahkjgbjcjgaaAgPl2
import Derived.Deep.RegionWith
import Derived.Deep.DeepCutAuto
namespace Go.Proofs.Ytfaahkjgbjcjgaa
open Go.RowKit
set_option linter.unusedVariables false

/-- The slice at A reads as these samples. -/
def RdS (w : World) (A : Option Addr) (l : List Smp) : Prop :=
  l = [] ∨ ∃ g o, A = some ⟨g, o, none⟩ ∧ g < w.heap.size ∧ ∀ i x, l[i]? = some x → w.cell? ⟨g, o + i * 2, none⟩ = some (.int .i64 x.1) ∧ w.cell? ⟨g, o + i * 2 + 1, none⟩ = some (.int .u64 x.2)

theorem RdS.below {w w' : World} {A : Option Addr} {l : List Smp} (h : RdS w A l) (hb : Below w.heap.size w w') : RdS w' A l := by
  rcases h with rfl | ⟨g, o, rfl, hg, hc⟩
  · exact .inl rfl
  · exact .inr ⟨g, o, rfl, by have := hb.size; omega, fun i x hi => ⟨(hb.cell (p := ⟨g, o + i * 2, none⟩) hg).trans (hc i x hi).1, (hb.cell (p := ⟨g, o + i * 2 + 1, none⟩) hg).trans (hc i x hi).2⟩⟩
theorem RdS.alloc {w : World} {A : Option Addr} {l : List Smp} (h : RdS w A l) (o : Obj) : RdS (w.alloc o) A l := h.below ((Below.refl _ _).alloc (Nat.le_refl _) o)
theorem RdS.at_ {w : World} {A : Option Addr} {l : List Smp} (h : RdS w A l) {k : Nat} {x : Smp} (hx : l[k]? = some x) :
    ∃ g o, A = some ⟨g, o, none⟩ ∧ g < w.heap.size ∧ w.cell? ⟨g, o + k * 2, none⟩ = some (.int .i64 x.1) ∧ w.cell? ⟨g, o + k * 2 + 1, none⟩ = some (.int .u64 x.2) := by
  rcases h with rfl | ⟨g, o, hA, hg, hc⟩
  · simp at hx
  · exact ⟨g, o, hA, hg, (hc k x hx).1, (hc k x hx).2⟩
theorem agBlk {w : World} {t : TypeId} {cs : Array Value} : Blk (w.alloc (.cells cs t)) w.heap.size t cs := Blk.new w t cs

theorem agSet {w : World} {g : Nat} {t : TypeId} {a r : Ag} (h : Blk w g t #[.int .u64 a.n, .int .i64 a.ft, .int .u64 a.fv, .int .i64 a.lt, .int .u64 a.lv, .int .u64 a.mi, .int .u64 a.ma, .int .u64 a.hi, .int .u64 a.lo]) : Blk (((((((((w.setCell ⟨g, 0, none⟩ (.int .u64 r.n)).setCell ⟨g, 1, none⟩ (.int .i64 r.ft)).setCell ⟨g, 2, none⟩ (.int .u64 r.fv)).setCell ⟨g, 3, none⟩ (.int .i64 r.lt)).setCell ⟨g, 4, none⟩ (.int .u64 r.lv)).setCell ⟨g, 5, none⟩ (.int .u64 r.mi)).setCell ⟨g, 6, none⟩ (.int .u64 r.ma)).setCell ⟨g, 7, none⟩ (.int .u64 r.hi)).setCell ⟨g, 8, none⟩ (.int .u64 r.lo)) g t #[.int .u64 r.n, .int .i64 r.ft, .int .u64 r.fv, .int .i64 r.lt, .int .u64 r.lv, .int .u64 r.mi, .int .u64 r.ma, .int .u64 r.hi, .int .u64 r.lo] := by
  have := (((((((((h.set_ 0 (.int .u64 r.n)).set_ 1 (.int .i64 r.ft)).set_ 2 (.int .u64 r.fv)).set_ 3 (.int .i64 r.lt)).set_ 4 (.int .u64 r.lv)).set_ 5 (.int .u64 r.mi)).set_ 6 (.int .u64 r.ma)).set_ 7 (.int .u64 r.hi)).set_ 8 (.int .u64 r.lo))
  simpa using this
theorem agFar {w : World} {g g' : Nat} {t : TypeId} {cs : Array Value} {r : Ag} (h : Blk w g' t cs) (hne : g' ≠ g) : Blk (((((((((w.setCell ⟨g, 0, none⟩ (.int .u64 r.n)).setCell ⟨g, 1, none⟩ (.int .i64 r.ft)).setCell ⟨g, 2, none⟩ (.int .u64 r.fv)).setCell ⟨g, 3, none⟩ (.int .i64 r.lt)).setCell ⟨g, 4, none⟩ (.int .u64 r.lv)).setCell ⟨g, 5, none⟩ (.int .u64 r.mi)).setCell ⟨g, 6, none⟩ (.int .u64 r.ma)).setCell ⟨g, 7, none⟩ (.int .u64 r.hi)).setCell ⟨g, 8, none⟩ (.int .u64 r.lo)) g' t cs := (((((((((h.far hne _).far hne _).far hne _).far hne _).far hne _).far hne _).far hne _).far hne _).far hne _)
theorem agBelow {w0 w : World} {B g : Nat} {r : Ag} (h : Below B w0 w) (hg : B ≤ g) : Below B w0 (((((((((w.setCell ⟨g, 0, none⟩ (.int .u64 r.n)).setCell ⟨g, 1, none⟩ (.int .i64 r.ft)).setCell ⟨g, 2, none⟩ (.int .u64 r.fv)).setCell ⟨g, 3, none⟩ (.int .i64 r.lt)).setCell ⟨g, 4, none⟩ (.int .u64 r.lv)).setCell ⟨g, 5, none⟩ (.int .u64 r.mi)).setCell ⟨g, 6, none⟩ (.int .u64 r.ma)).setCell ⟨g, 7, none⟩ (.int .u64 r.hi)).setCell ⟨g, 8, none⟩ (.int .u64 r.lo)) := (((((((((h.setCell hg _).setCell hg _).setCell hg _).setCell hg _).setCell hg _).setCell hg _).setCell hg _).setCell hg _).setCell hg _)

set_option maxRecDepth 100000 in
set_option maxHeartbeats 4000000 in
theorem of_any (A : Option Addr) (c : Nat) (l : List Smp) (w : World) (hr : RdS w A l) (hn : l.length ≤ 1000000) (hok : ∀ s ∈ l, SmpOk s) :
    Calls Try.prog 10 #[.slice A l.length c] w (RetAg .u16 (ofR l).1 (ofR l).2 w) := by
  obtain ⟨n, hnl⟩ : ∃ n, l.length = n := ⟨_, rfl⟩
  rw [hnl] at hn
  rw [hnl]
  have HN := Lib.hid hnl
  have HOK := Lib.hid hok
  obtain ⟨R, hR⟩ : ∃ R, ofR l = R := ⟨_, rfl⟩
  rw [hR]
  have HR := Lib.hid hR
  clear hnl hok hR
  have hn' : (n : Int) ≤ 1000000 := by omega
  go_enter Try.func10, Try.ntmps10
  go_wp2_with fail
  go_loopw [10] (fun i wr => ∃ (k : Nat) (a : Ag), k ≤ n ∧ i = .int .i64 k ∧ Hid (ofR (l.take k) = (a, 0)) ∧ Hid (Blk wr w.heap.size 29 #[.int .u64 0, .int .i64 0, .int .u64 0, .int .i64 0, .int .u64 0, .int .u64 0, .int .u64 0, .int .u64 0, .int .u64 0]) ∧ Hid (Blk wr (w.heap.size + 1) 29 #[.int .u64 a.n, .int .i64 a.ft, .int .u64 a.fv, .int .i64 a.lt, .int .u64 a.lv, .int .u64 a.mi, .int .u64 a.ma, .int .u64 a.hi, .int .u64 a.lo]) ∧ Below w.heap.size w wr) (fun i _ => n - (intOf i).toNat)
  case atStart =>
    refine ⟨0, Ag.zero, Nat.zero_le _, rfl, Lib.hid rfl, Lib.hid (agBlk.alloc _), Lib.hid ?_, ((Below.refl _ _).alloc (Nat.le_refl _) _).alloc (by simp) _⟩
    have := agBlk (w := w.alloc (.cells #[.int .u64 0, .int .i64 0, .int .u64 0, .int .i64 0, .int .u64 0, .int .u64 0, .int .u64 0, .int .u64 0, .int .u64 0] 29)) (t := 29) (cs := #[.int .u64 0, .int .i64 0, .int .u64 0, .int .i64 0, .int .u64 0, .int .u64 0, .int .u64 0, .int .u64 0, .int .u64 0])
    rwa [show (w.alloc (.cells #[.int .u64 0, .int .i64 0, .int .u64 0, .int .i64 0, .int .u64 0, .int .u64 0, .int .u64 0, .int .u64 0, .int .u64 0] 29)).heap.size = w.heap.size + 1 from by simp] at this
  case round =>
    obtain ⟨wo, rfl⟩ : ∃ wo : World, wo = wr := ⟨_, rfl⟩
    obtain ⟨k, a, hk, rfl, HA, HB0, HB1, hbel⟩ := hrel
    have hrd := hr.below hbel
    have hk' : (k : Int) ≤ n := by omega
    have z0 := HB0.out.lt
    have z1 := HB1.out.lt
    by_cases h0 : k = n
    · subst h0
      have hRa : R = (a, 0) := by rw [← HR.out, ← HA.out, List.take_of_length_le (by rw [HN.out]; exact Nat.le_refl _)]
      subst hRa
      have c0 := HB1.out.cell 0
      have c1 := HB1.out.cell 1
      have c2 := HB1.out.cell 2
      have c3 := HB1.out.cell 3
      have c4 := HB1.out.cell 4
      have c5 := HB1.out.cell 5
      have c6 := HB1.out.cell 6
      have c7 := HB1.out.cell 7
      have c8 := HB1.out.cell 8
      have b0 := HB0.out.cell 0
      have b1 := HB0.out.cell 1
      have b2 := HB0.out.cell 2
      have b3 := HB0.out.cell 3
      have b4 := HB0.out.cell 4
      have b5 := HB0.out.cell 5
      have b6 := HB0.out.cell 6
      have b7 := HB0.out.cell 7
      have b8 := HB0.out.cell 8
      have f0 := HB0.out.frozen
      go_wp2_with fail
      refine bodyPost_ret (v := .tuple #[.agg #[.int .u64 a.n, .int .i64 a.ft, .int .u64 a.fv, .int .i64 a.lt, .int .u64 a.lv, .int .u64 a.mi, .int .u64 a.ma, .int .u64 a.hi, .int .u64 a.lo], .int .u16 0]) (by simp [results, Try.results10, go_sem, b0, b1, b2, b3, b4, b5, b6, b7, b8]) rfl ⟨rfl, agBelow hbel (Nat.le_refl _)⟩
    · have hlt : k < n := by omega
      have hlt2 : decide (k < n) = true := by simp; omega
      obtain ⟨x, hx⟩ : ∃ x, l[k]? = some x := ⟨l[k]'(by rw [HN.out]; exact hlt), List.getElem?_eq_getElem (by rw [HN.out]; exact hlt)⟩
      obtain ⟨t, v⟩ := x
      have hsx : SmpOk (t, v) := HOK.out _ (List.mem_of_getElem? hx)
      have oa : a.Ok := by
        have := (ofR_ok (l := l.take k) (fun s hs => HOK.out s (List.mem_of_mem_take hs))).1
        rw [HA.out] at this
        exact this
      obtain ⟨r, hr'⟩ : ∃ r, joinV a (Ag.one t v) = r := ⟨_, rfl⟩
      obtain ⟨E, hE'⟩ : ∃ E, joinE a (Ag.one t v) = E := ⟨_, rfl⟩
      have hj : ∀ wx, Calls Try.prog 11 #[.agg #[.int .u64 a.n, .int .i64 a.ft, .int .u64 a.fv, .int .i64 a.lt, .int .u64 a.lv, .int .u64 a.mi, .int .u64 a.ma, .int .u64 a.hi, .int .u64 a.lo], .agg #[.int .u64 1, .int .i64 t, .int .u64 v, .int .i64 t, .int .u64 v, .int .u64 v, .int .u64 v, .int .u64 0, .int .u64 v]] wx (RetAg .u16 r E wx) := fun wx => by
        have := join_any a (Ag.one t v) wx oa (Ag.one_ok hsx)
        rw [hr', hE'] at this
        exact this
      have HJ := Lib.hid hj
      clear hj
      have HST : Hid (ofR (l.take (k + 1)) = if E = 0 then (r, 0) else (Ag.zero, E)) := Lib.hid (by rw [take_snoc' hx, ofR_snoc, HA.out]; simp only [ofStep, hr', hE', if_true])
      obtain ⟨g, o, rfl, hg, e0, e1⟩ := hrd.at_ hx
      have HE2 := Lib.hid (show E = 0 ∨ E = 240 by rw [← hE']; exact joinE_two _ _)
      clear hx hsx oa hr' hE' hrd h0
      go_upto_region 6 with fail
      have T0 := HB0.out.alloc (.cells #[.int .i64 t, .int .u64 v] 27)
      have T1 := HB1.out.alloc (.cells #[.int .i64 t, .int .u64 v] 27)
      have T2 := agBlk (w := wo) (t := 27) (cs := #[.int .i64 t, .int .u64 v])
      have hbz := hbel.alloc hbel.size (.cells #[.int .i64 t, .int .u64 v] 27)
      go_cut [7] (fun s7 wx => s7 = .int .u16 E ∧ Hid (Blk wx w.heap.size 29 #[.int .u64 0, .int .i64 0, .int .u64 0, .int .i64 0, .int .u64 0, .int .u64 0, .int .u64 0, .int .u64 0, .int .u64 0]) ∧ Hid (Blk wx (w.heap.size + 1) 29 #[.int .u64 r.n, .int .i64 r.ft, .int .u64 r.fv, .int .i64 r.lt, .int .u64 r.lv, .int .u64 r.mi, .int .u64 r.ma, .int .u64 r.hi, .int .u64 r.lo]) ∧ Below w.heap.size w wx)
      case first =>
        have d0 := (Lib.hid T1).out.cell 0
        have d1 := (Lib.hid T1).out.cell 1
        have d2 := (Lib.hid T1).out.cell 2
        have d3 := (Lib.hid T1).out.cell 3
        have d4 := (Lib.hid T1).out.cell 4
        have d5 := (Lib.hid T1).out.cell 5
        have d6 := (Lib.hid T1).out.cell 6
        have d7 := (Lib.hid T1).out.cell 7
        have d8 := (Lib.hid T1).out.cell 8
        have d9 := T2.cell 0
        have d10 := T2.cell 1
        have fz := T1.frozen
        go_region_with ((first
            | (go_at_call 15; ((with_reducible refine (one_any t v _).mono ?_); rintro e w1 ⟨rfl, hb1⟩; have T1a := T1.drew.below hb1 T1.lt; have T0a := T0.drew.below hb1 T0.lt; have e0 := T1a.cell 0; have e1 := T1a.cell 1; have e2 := T1a.cell 2; have e3 := T1a.cell 3; have e4 := T1a.cell 4; have e5 := T1a.cell 5; have e6 := T1a.cell 6; have e7 := T1a.cell 7; have e8 := T1a.cell 8))
            | (go_at_call 11; ((with_reducible refine (HJ.out _).mono ?_); rintro e w2 ⟨rfl, hb2⟩; have T1b := T1a.below hb2 T1a.lt; have T0b := T0a.below hb2 T0a.lt; have fz2 := T1b.frozen; have i0 := T1b.cell 0; have i1 := T1b.cell 1; have i2 := T1b.cell 2; have i3 := T1b.cell 3; have i4 := T1b.cell 4; have i5 := T1b.cell 5; have i6 := T1b.cell 6; have i7 := T1b.cell 7; have i8 := T1b.cell 8))))
        all_goals
          go_wp2_with fail
          go_meet
          have hbx := hbz.drew.trans (hb1.mono hbz.size)
          have hby := hbx.trans (hb2.mono hbx.size)
          exact ⟨rfl, Lib.hid (agFar T0b (by omega)), Lib.hid (agSet T1b), agBelow hby (Nat.le_succ _)⟩
      case rest =>
        obtain ⟨rfl, HC0, HC1, hbc⟩ := hcut
        rcases HE2.out with hE | hE
        · subst hE
          go_wp2_with fail
          go_roundw
          case rel => exact ⟨k + 1, r, by omega, by go_num, HST, HC0, HC1, hbc⟩
          case measure => simp [intOf]; omega
        · subst hE
          have hRz : R = (Ag.zero, 240) := by
            have h1 := HST.out
            rw [if_neg (by decide)] at h1
            rw [← HR.out, ofR_err (k := k + 1) (by rw [h1]; decide), h1]
          subst hRz
          have b0 := HC0.out.cell 0
          have b1 := HC0.out.cell 1
          have b2 := HC0.out.cell 2
          have b3 := HC0.out.cell 3
          have b4 := HC0.out.cell 4
          have b5 := HC0.out.cell 5
          have b6 := HC0.out.cell 6
          have b7 := HC0.out.cell 7
          have b8 := HC0.out.cell 8
          have f0 := HC0.out.frozen
          go_wp2_with fail
          refine bodyPost_ret (v := .tuple #[.agg #[.int .u64 0, .int .i64 0, .int .u64 0, .int .i64 0, .int .u64 0, .int .u64 0, .int .u64 0, .int .u64 0, .int .u64 0], .int .u16 240]) (by simp [results, Try.results10, go_sem, b0, b1, b2, b3, b4, b5, b6, b7, b8]) rfl ⟨rfl, agBelow (r := Ag.zero) hbc (Nat.le_refl _)⟩

end Go.Proofs.Ytfaahkjgbjcjgaa
