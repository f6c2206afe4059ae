/-
  Of, the reference's: one sample behind the other.
-/
import Derived.Test.YtfaahkjgbjcjgaaAgOf
import Derived.Deep.RegionHeld3
namespace Go.Proofs.Ytfaahkjgbjcjgaa
open Go.RowKit
set_option linter.unusedVariables false

/-- What a round's region reads: a whole block of what came so far, and a sample. -/
def OfS (g1 g p : Nat) (a : Ag) (t v : Int) (wx : World) : Prop := wx.cell? ⟨g1, 0, none⟩ = some (.int .u64 a.n) ∧ wx.cell? ⟨g1, 1, none⟩ = some (.int .i64 a.ft) ∧ wx.cell? ⟨g1, 2, none⟩ = some (.int .u64 a.fv) ∧ wx.cell? ⟨g1, 3, none⟩ = some (.int .i64 a.lt) ∧ wx.cell? ⟨g1, 4, none⟩ = some (.int .u64 a.lv) ∧ wx.cell? ⟨g1, 5, none⟩ = some (.int .u64 a.mi) ∧ wx.cell? ⟨g1, 6, none⟩ = some (.int .u64 a.ma) ∧ wx.cell? ⟨g1, 7, none⟩ = some (.int .u64 a.hi) ∧ wx.cell? ⟨g1, 8, none⟩ = some (.int .u64 a.lo) ∧ wx.cell? ⟨g, p, none⟩ = some (.int .i64 t) ∧ wx.cell? ⟨g, p + 1, none⟩ = some (.int .u64 v)
section
variable {W W' : World} {g1 g p : Nat} {a : Ag} {t v : Int}
theorem OfS.keep (h : OfS g1 g p a t v W) (hk : ∀ b o, (b = g1 ∨ b = g) → W'.cell? ⟨b, o, none⟩ = W.cell? ⟨b, o, none⟩) : OfS g1 g p a t v W' := by
  obtain ⟨h0, h1, h2, h3, h4, h5, h6, h7, h8, h9, h10⟩ := h
  exact ⟨(hk _ _ (.inl rfl)).trans h0, (hk _ _ (.inl rfl)).trans h1, (hk _ _ (.inl rfl)).trans h2, (hk _ _ (.inl rfl)).trans h3, (hk _ _ (.inl rfl)).trans h4, (hk _ _ (.inl rfl)).trans h5, (hk _ _ (.inl rfl)).trans h6, (hk _ _ (.inl rfl)).trans h7, (hk _ _ (.inl rfl)).trans h8, (hk _ _ (.inr rfl)).trans h9, (hk _ _ (.inr rfl)).trans h10⟩
theorem OfS.below (h : OfS g1 g p a t v W) {B : Nat} (hb : Below B W W') (h1 : g1 < B) (h2 : g < B) : OfS g1 g p a t v W' :=
  h.keep fun b o hh => hb.cell (p := ⟨b, o, none⟩) (by rcases hh with e | e <;> (show b < B; omega))
theorem OfS.alloc (h : OfS g1 g p a t v W) (h1 : g1 < W.heap.size) (h2 : g < W.heap.size) (o : Obj) : OfS g1 g p a t v (W.alloc o) :=
  h.below ((Below.refl _ _).alloc (Nat.le_refl _) o) h1 h2
theorem OfS.drew (h : OfS g1 g p a t v W) : OfS g1 g p a t v W.drew := h
theorem OfS.set (h : OfS g1 g p a t v W) {gb : Nat} (h1 : g1 < gb) (h2 : g < gb) (r : Ag) : OfS g1 g p a t v (((((((((W.setCell ⟨gb, 0, none⟩ (.int .u64 r.n)).setCell ⟨gb, 1, none⟩ (.int .i64 r.ft)).setCell ⟨gb, 2, none⟩ (.int .u64 r.fv)).setCell ⟨gb, 3, none⟩ (.int .i64 r.lt)).setCell ⟨gb, 4, none⟩ (.int .u64 r.lv)).setCell ⟨gb, 5, none⟩ (.int .u64 r.mi)).setCell ⟨gb, 6, none⟩ (.int .u64 r.ma)).setCell ⟨gb, 7, none⟩ (.int .u64 r.hi)).setCell ⟨gb, 8, none⟩ (.int .u64 r.lo)) :=
  h.below (agBelow (w := W) (g := gb) (r := r) (Below.refl gb W) (Nat.le_refl _)) h1 h2
end

set_option maxRecDepth 100000 in
set_option maxHeartbeats 4000000 in
theorem rof_any (A : Option Addr) (c : Nat) (l : List Smp) (w : World) (hr : RdS w A l) (hn : l.length ≤ 1000000) (hok : ∀ s ∈ l, SmpOk s) :
    Calls Try.prog 17 #[.slice A l.length c] w (RetAg .i64 (ofR l).1 (ofR l).2 w) := by
  obtain ⟨n, hnl⟩ : ∃ n, l.length = n := ⟨_, rfl⟩
  rw [hnl] at hn
  rw [hnl]
  have HN := Lib.hid hnl
  have HOK := Lib.hid hok
  obtain ⟨R, hR⟩ : ∃ R, ofR l = R := ⟨_, rfl⟩
  rw [hR]
  have HR := Lib.hid hR
  clear hnl hok hR
  have hn' : (n : Int) ≤ 1000000 := by omega
  go_enter Try.func17, Try.ntmps17
  go_wp2_with fail
  go_loopw [5] (fun i wr => ∃ (k : Nat) (a : Ag), k ≤ n ∧ i = .int .i64 k ∧ Hid (ofR (l.take k) = (a, 0)) ∧ Hid (Blk wr w.heap.size 29 #[.int .u64 0, .int .i64 0, .int .u64 0, .int .i64 0, .int .u64 0, .int .u64 0, .int .u64 0, .int .u64 0, .int .u64 0]) ∧ Hid (Blk wr (w.heap.size + 1) 29 #[.int .u64 a.n, .int .i64 a.ft, .int .u64 a.fv, .int .i64 a.lt, .int .u64 a.lv, .int .u64 a.mi, .int .u64 a.ma, .int .u64 a.hi, .int .u64 a.lo]) ∧ Below w.heap.size w wr) (fun i _ => n - (intOf i).toNat)
  case atStart =>
    refine ⟨0, Ag.zero, Nat.zero_le _, rfl, Lib.hid rfl, Lib.hid (agBlk.alloc _), Lib.hid ?_, ((Below.refl _ _).alloc (Nat.le_refl _) _).alloc (by simp) _⟩
    have := agBlk (w := w.alloc (.cells #[.int .u64 0, .int .i64 0, .int .u64 0, .int .i64 0, .int .u64 0, .int .u64 0, .int .u64 0, .int .u64 0, .int .u64 0] 29)) (t := 29) (cs := #[.int .u64 0, .int .i64 0, .int .u64 0, .int .i64 0, .int .u64 0, .int .u64 0, .int .u64 0, .int .u64 0, .int .u64 0])
    rwa [show (w.alloc (.cells #[.int .u64 0, .int .i64 0, .int .u64 0, .int .i64 0, .int .u64 0, .int .u64 0, .int .u64 0, .int .u64 0, .int .u64 0] 29)).heap.size = w.heap.size + 1 from by simp] at this
  case round =>
    obtain ⟨wo, rfl⟩ : ∃ wo : World, wo = wr := ⟨_, rfl⟩
    obtain ⟨k, a, hk, rfl, HA, HB0, HB1, hbel⟩ := hrel
    have hrd := hr.below hbel
    have hk' : (k : Int) ≤ n := by omega
    have z0 := HB0.out.lt
    have z1 := HB1.out.lt
    by_cases h0 : k = n
    · subst h0
      have hRa : R = (a, 0) := by rw [← HR.out, ← HA.out, List.take_of_length_le (by rw [HN.out]; exact Nat.le_refl _)]
      subst hRa
      have c0 := HB1.out.cell 0; have c1 := HB1.out.cell 1; have c2 := HB1.out.cell 2; have c3 := HB1.out.cell 3; have c4 := HB1.out.cell 4; have c5 := HB1.out.cell 5; have c6 := HB1.out.cell 6; have c7 := HB1.out.cell 7; have c8 := HB1.out.cell 8
      have b0 := HB0.out.cell 0; have b1 := HB0.out.cell 1; have b2 := HB0.out.cell 2; have b3 := HB0.out.cell 3; have b4 := HB0.out.cell 4; have b5 := HB0.out.cell 5; have b6 := HB0.out.cell 6; have b7 := HB0.out.cell 7; have b8 := HB0.out.cell 8
      have f0 := HB0.out.frozen
      go_wp2_with fail
      refine bodyPost_ret (v := .tuple #[.agg #[.int .u64 a.n, .int .i64 a.ft, .int .u64 a.fv, .int .i64 a.lt, .int .u64 a.lv, .int .u64 a.mi, .int .u64 a.ma, .int .u64 a.hi, .int .u64 a.lo], .int .i64 0]) (by simp [results, Try.results17, go_sem, b0, b1, b2, b3, b4, b5, b6, b7, b8]) rfl ⟨rfl, agBelow hbel (Nat.le_refl _)⟩
    · have hlt : k < n := by omega
      have hltI : (k : Int) < (n : Int) := by omega
      have hk0 : (0 : Int) ≤ (k : Int) := by omega
      have hlt2 : decide (k < n) = true := by simp; omega
      obtain ⟨x, hx⟩ : ∃ x, l[k]? = some x := ⟨l[k]'(by rw [HN.out]; exact hlt), List.getElem?_eq_getElem (by rw [HN.out]; exact hlt)⟩
      obtain ⟨t, v⟩ := x
      have hsx : SmpOk (t, v) := HOK.out _ (List.mem_of_getElem? hx)
      have oa : a.Ok := by
        have := (ofR_ok (l := l.take k) (fun s hs => HOK.out s (List.mem_of_mem_take hs))).1
        rw [HA.out] at this
        exact this
      obtain ⟨r, hr'⟩ : ∃ r, joinV a (Ag.one t v) = r := ⟨_, rfl⟩
      obtain ⟨E, hE'⟩ : ∃ E, joinE a (Ag.one t v) = E := ⟨_, rfl⟩
      have hj : ∀ wx, Calls Try.prog 12 #[.agg #[.int .u64 a.n, .int .i64 a.ft, .int .u64 a.fv, .int .i64 a.lt, .int .u64 a.lv, .int .u64 a.mi, .int .u64 a.ma, .int .u64 a.hi, .int .u64 a.lo], .agg #[.int .u64 1, .int .i64 t, .int .u64 v, .int .i64 t, .int .u64 v, .int .u64 v, .int .u64 v, .int .u64 0, .int .u64 v]] wx (RetAg .i64 r E wx) := fun wx => by
        have := rjoin_any a (Ag.one t v) wx oa (Ag.one_ok hsx)
        rw [hr', hE'] at this
        exact this
      have HJ := Lib.hid hj
      clear hj
      have HST : Hid (ofR (l.take (k + 1)) = if E = 0 then (r, 0) else (Ag.zero, E)) := Lib.hid (by rw [take_snoc' hx, ofR_snoc, HA.out]; simp only [ofStep, hr', hE', if_true])
      obtain ⟨g, o, rfl, hg, e0, e1⟩ := hrd.at_ hx
      have HE2 := Lib.hid (show E = 0 ∨ E = 240 by rw [← hE']; exact joinE_two _ _)
      have HS0 : Hid (OfS (w.heap.size + 1) g (o + k * 2) a t v wo) := Lib.hid ⟨HB1.out.cell 0, HB1.out.cell 1, HB1.out.cell 2, HB1.out.cell 3, HB1.out.cell 4, HB1.out.cell 5, HB1.out.cell 6, HB1.out.cell 7, HB1.out.cell 8, e0, e1⟩
      clear hx hsx oa hr' hE' hrd h0 e0 e1
      go_upto_region 5 with fail
      go_cut [6, 7] (fun s6 s7 wx => s7 = .int .i64 E ∧ ∃ gb, s6 = .pointer (some ⟨gb, 0, none⟩) ∧ Hid (Blk wx w.heap.size 29 #[.int .u64 0, .int .i64 0, .int .u64 0, .int .i64 0, .int .u64 0, .int .u64 0, .int .u64 0, .int .u64 0, .int .u64 0]) ∧ Hid (Blk wx (w.heap.size + 1) 29 #[.int .u64 a.n, .int .i64 a.ft, .int .u64 a.fv, .int .i64 a.lt, .int .u64 a.lv, .int .u64 a.mi, .int .u64 a.ma, .int .u64 a.hi, .int .u64 a.lo]) ∧ Hid (Blk wx gb 29 #[.int .u64 r.n, .int .i64 r.ft, .int .u64 r.fv, .int .i64 r.lt, .int .u64 r.lv, .int .u64 r.mi, .int .u64 r.ma, .int .u64 r.hi, .int .u64 r.lo]) ∧ gb ≠ w.heap.size ∧ gb ≠ w.heap.size + 1 ∧ Below w.heap.size w wx)
      case first =>
        have hC0 : Below wo.heap.size wo wo.drew := (Below.refl _ _).drew
        go_region_held3 (fun wx => wx.cell? ⟨w.heap.size + 1, 0, none⟩ = some (.int .u64 a.n) ∧ wx.cell? ⟨w.heap.size + 1, 1, none⟩ = some (.int .i64 a.ft) ∧ wx.cell? ⟨w.heap.size + 1, 2, none⟩ = some (.int .u64 a.fv) ∧ wx.cell? ⟨w.heap.size + 1, 3, none⟩ = some (.int .i64 a.lt) ∧ wx.cell? ⟨w.heap.size + 1, 4, none⟩ = some (.int .u64 a.lv) ∧ wx.cell? ⟨w.heap.size + 1, 5, none⟩ = some (.int .u64 a.mi) ∧ wx.cell? ⟨w.heap.size + 1, 6, none⟩ = some (.int .u64 a.ma) ∧ wx.cell? ⟨w.heap.size + 1, 7, none⟩ = some (.int .u64 a.hi) ∧ wx.cell? ⟨w.heap.size + 1, 8, none⟩ = some (.int .u64 a.lo) ∧ wx.cell? ⟨g, o + k * 2, none⟩ = some (.int .i64 t) ∧ wx.cell? ⟨g, o + k * 2 + 1, none⟩ = some (.int .u64 v))
          ((show OfS (w.heap.size + 1) g (o + k * 2) a t v _; with_reducible first | exact HS0.out.drew | exact hS2 | exact hS1 | exact (HS0.out.alloc z1 hg _).drew | exact HS0.out.drew.alloc z1 hg _ | exact hS1.alloc g1a g1b _ | exact hS2.alloc g2a g2b _ | exact hS2.set g6a g6b r | exact (hS2.alloc g2a g2b _).set g2a g2b r | fail))
          ((first
            | (go_at_call 16; ((with_reducible refine (rone_any t v _).mono ?_); rintro e w1 ⟨rfl, hb1⟩; have hC1 : Below wo.heap.size wo w1 := (by first | exact hC0.trans (hb1.mono hC0.size) | exact (hC0.alloc hC0.size _).trans (hb1.mono (hC0.alloc hC0.size _).size)); have hS1 : OfS (w.heap.size + 1) g (o + k * 2) a t v w1 := HS0.out.below hC1 z1 hg; have g1a : w.heap.size + 1 < w1.heap.size := Nat.lt_of_lt_of_le z1 hC1.size; have g1b : g < w1.heap.size := Nat.lt_of_lt_of_le hg hC1.size; try (have T6a : Blk w1 wo.heap.size 29 #[.int .u64 0, .int .i64 0, .int .u64 0, .int .i64 0, .int .u64 0, .int .u64 0, .int .u64 0, .int .u64 0, .int .u64 0] := (agBlk (w := wo.drew) (t := 29) (cs := #[.int .u64 0, .int .i64 0, .int .u64 0, .int .i64 0, .int .u64 0, .int .u64 0, .int .u64 0, .int .u64 0, .int .u64 0])).below hb1 (by simp))))
            | (go_at_call 12; ((with_reducible refine (HJ.out _).mono ?_); rintro e w2 ⟨rfl, hb2⟩; have hC2 : Below wo.heap.size wo w2 := (by first | exact hC1.trans (hb2.mono hC1.size) | exact (hC1.alloc hC1.size _).trans (hb2.mono (hC1.alloc hC1.size _).size)); have hS2 : OfS (w.heap.size + 1) g (o + k * 2) a t v w2 := HS0.out.below hC2 z1 hg; have g2a : w.heap.size + 1 < w2.heap.size := Nat.lt_of_lt_of_le z1 hC2.size; have g2b : g < w2.heap.size := Nat.lt_of_lt_of_le hg hC2.size; (first | (have T6b : Blk w2 wo.heap.size 29 #[.int .u64 0, .int .i64 0, .int .u64 0, .int .i64 0, .int .u64 0, .int .u64 0, .int .u64 0, .int .u64 0, .int .u64 0] := T6a.below hb2 T6a.lt; have g6a : w.heap.size + 1 < wo.heap.size := z1; have g6b : g < wo.heap.size := hg; have m0 := T6b.cell 0; have m1 := T6b.cell 1; have m2 := T6b.cell 2; have m3 := T6b.cell 3; have m4 := T6b.cell 4; have m5 := T6b.cell 5; have m6 := T6b.cell 6; have m7 := T6b.cell 7; have m8 := T6b.cell 8; have fm := T6b.frozen) | (have T6b : Blk w2 w1.heap.size 29 #[.int .u64 0, .int .i64 0, .int .u64 0, .int .i64 0, .int .u64 0, .int .u64 0, .int .u64 0, .int .u64 0, .int .u64 0] := (agBlk (w := w1) (t := 29) (cs := #[.int .u64 0, .int .i64 0, .int .u64 0, .int .i64 0, .int .u64 0, .int .u64 0, .int .u64 0, .int .u64 0, .int .u64 0])).below hb2 (by simp); have g6a : w.heap.size + 1 < w1.heap.size := g1a; have g6b : g < w1.heap.size := g1b; have m0 := T6b.cell 0; have m1 := T6b.cell 1; have m2 := T6b.cell 2; have m3 := T6b.cell 3; have m4 := T6b.cell 4; have m5 := T6b.cell 5; have m6 := T6b.cell 6; have m7 := T6b.cell 7; have m8 := T6b.cell 8; have fm := T6b.frozen) | skip)))))
        all_goals
          go_wp2_with fail
          go_meet
          have X0 := HB0.out.below hC2 z0
          have X1 := HB1.out.below hC2 z1
          have hbx := hbel.trans (hC2.mono hbel.size)
          (first | (have T6z := agSet (a := Ag.zero) (r := r) T6b) | skip)
          with_reducible first
            | exact ⟨rfl, _, rfl, Lib.hid (agFar X0 (Nat.ne_of_lt (Nat.lt_of_succ_lt g6a))), Lib.hid (agFar X1 (Nat.ne_of_lt g6a)), Lib.hid T6z, Nat.ne_of_gt (Nat.lt_of_succ_lt g6a), Nat.ne_of_gt g6a, agBelow hbx (Nat.le_of_lt (Nat.lt_of_succ_lt g6a))⟩
            | exact ⟨rfl, _, rfl, Lib.hid (X0.alloc _), Lib.hid (X1.alloc _), Lib.hid agBlk, by omega, by omega, hbx.alloc hbx.size _⟩
            | exact ⟨rfl, _, rfl, Lib.hid (agFar (X0.alloc _) (by omega)), Lib.hid (agFar (X1.alloc _) (by omega)), Lib.hid (agSet agBlk), by omega, by omega, agBelow (hbx.alloc hbx.size _) (by omega)⟩
            | fail
      case rest =>
        obtain ⟨rfl, gb, rfl, HC0, HC1, HC2, hgb0, hgb1, hbc⟩ := hcut
        rcases HE2.out with hE | hE
        · subst hE
          have p0 := HC2.out.cell 0; have p1 := HC2.out.cell 1; have p2 := HC2.out.cell 2; have p3 := HC2.out.cell 3; have p4 := HC2.out.cell 4; have p5 := HC2.out.cell 5; have p6 := HC2.out.cell 6; have p7 := HC2.out.cell 7; have p8 := HC2.out.cell 8
          have q0 := HC1.out.cell 0; have q1 := HC1.out.cell 1; have q2 := HC1.out.cell 2; have q3 := HC1.out.cell 3; have q4 := HC1.out.cell 4; have q5 := HC1.out.cell 5; have q6 := HC1.out.cell 6; have q7 := HC1.out.cell 7; have q8 := HC1.out.cell 8
          have fq := HC1.out.frozen
          go_wp2_with fail
          go_roundw
          case rel => exact ⟨k + 1, r, by omega, by go_num, HST, Lib.hid (agFar HC0.out (by omega)), Lib.hid (agSet HC1.out), agBelow hbc (Nat.le_succ _)⟩
          case measure => simp [intOf]; omega
        · subst hE
          have hRz : R = (Ag.zero, 240) := by
            have h1 := HST.out
            rw [if_neg (by decide)] at h1
            rw [← HR.out, ofR_err (k := k + 1) (by rw [h1]; decide), h1]
          subst hRz
          have b0 := HC0.out.cell 0; have b1 := HC0.out.cell 1; have b2 := HC0.out.cell 2; have b3 := HC0.out.cell 3; have b4 := HC0.out.cell 4; have b5 := HC0.out.cell 5; have b6 := HC0.out.cell 6; have b7 := HC0.out.cell 7; have b8 := HC0.out.cell 8
          have f0 := HC0.out.frozen
          go_wp2_with fail
          refine bodyPost_ret (v := .tuple #[.agg #[.int .u64 0, .int .i64 0, .int .u64 0, .int .i64 0, .int .u64 0, .int .u64 0, .int .u64 0, .int .u64 0, .int .u64 0], .int .i64 240]) (by simp [results, Try.results17, go_sem, b0, b1, b2, b3, b4, b5, b6, b7, b8]) rfl ⟨rfl, agBelow (r := Ag.zero) hbc (Nat.le_refl _)⟩
end Go.Proofs.Ytfaahkjgbjcjgaa
