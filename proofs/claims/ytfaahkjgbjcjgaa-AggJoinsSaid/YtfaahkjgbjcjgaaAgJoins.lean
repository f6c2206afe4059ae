/-
  Rows.AggJoinsSaid is proved: One, Join and Mean of anything are what the chapter says. No condition.
-/
import Derived.Test.YtfaahkjgbjcjgaaAgOpen2
import Derived.Test.YtfaahkjgbjcjgaaAgRMean
import Derived.Test.YtfaahkjgbjcjgaaDivSay
import Derived.Deep.RegionHeld3
namespace Go.Proofs.Ytfaahkjgbjcjgaa
open Go.ChangeShapes Go.WideShapes Go.ChangeAt Go.RowKit
set_option linter.unusedVariables false

/-- What the last statement reads: two boxes of what samples come to, and a sample. -/
def JoS (g1 g2 g3 : Nat) (r : Ag) (t v : Int) (wx : World) : Prop := wx.cell? ⟨g1, 0, none⟩ = some (.int .u64 r.n) ∧ wx.cell? ⟨g1, 1, none⟩ = some (.int .i64 r.ft) ∧ wx.cell? ⟨g1, 2, none⟩ = some (.int .u64 r.fv) ∧ wx.cell? ⟨g1, 3, none⟩ = some (.int .i64 r.lt) ∧ wx.cell? ⟨g1, 4, none⟩ = some (.int .u64 r.lv) ∧ wx.cell? ⟨g1, 5, none⟩ = some (.int .u64 r.mi) ∧ wx.cell? ⟨g1, 6, none⟩ = some (.int .u64 r.ma) ∧ wx.cell? ⟨g1, 7, none⟩ = some (.int .u64 r.hi) ∧ wx.cell? ⟨g1, 8, none⟩ = some (.int .u64 r.lo) ∧ wx.cell? ⟨g2, 0, none⟩ = some (.int .u64 r.n) ∧ wx.cell? ⟨g2, 1, none⟩ = some (.int .i64 r.ft) ∧ wx.cell? ⟨g2, 2, none⟩ = some (.int .u64 r.fv) ∧ wx.cell? ⟨g2, 3, none⟩ = some (.int .i64 r.lt) ∧ wx.cell? ⟨g2, 4, none⟩ = some (.int .u64 r.lv) ∧ wx.cell? ⟨g2, 5, none⟩ = some (.int .u64 r.mi) ∧ wx.cell? ⟨g2, 6, none⟩ = some (.int .u64 r.ma) ∧ wx.cell? ⟨g2, 7, none⟩ = some (.int .u64 r.hi) ∧ wx.cell? ⟨g2, 8, none⟩ = some (.int .u64 r.lo) ∧ wx.cell? ⟨g3, 0, none⟩ = some (.int .i64 t) ∧ wx.cell? ⟨g3, 1, none⟩ = some (.int .u64 v)
section
variable {W W' : World} {g1 g2 g3 : Nat} {r : Ag} {t v : Int}
theorem JoS.keep (h : JoS g1 g2 g3 r t v W) (hk : ∀ b o, (b = g1 ∨ b = g2 ∨ b = g3) → W'.cell? ⟨b, o, none⟩ = W.cell? ⟨b, o, none⟩) : JoS g1 g2 g3 r t v W' := by
  obtain ⟨h0, h1, h2, h3, h4, h5, h6, h7, h8, h9, h10, h11, h12, h13, h14, h15, h16, h17, h18, h19⟩ := h
  exact ⟨(hk _ _ (.inl rfl)).trans h0, (hk _ _ (.inl rfl)).trans h1, (hk _ _ (.inl rfl)).trans h2, (hk _ _ (.inl rfl)).trans h3, (hk _ _ (.inl rfl)).trans h4, (hk _ _ (.inl rfl)).trans h5, (hk _ _ (.inl rfl)).trans h6, (hk _ _ (.inl rfl)).trans h7, (hk _ _ (.inl rfl)).trans h8, (hk _ _ (.inr (.inl rfl))).trans h9, (hk _ _ (.inr (.inl rfl))).trans h10, (hk _ _ (.inr (.inl rfl))).trans h11, (hk _ _ (.inr (.inl rfl))).trans h12, (hk _ _ (.inr (.inl rfl))).trans h13, (hk _ _ (.inr (.inl rfl))).trans h14, (hk _ _ (.inr (.inl rfl))).trans h15, (hk _ _ (.inr (.inl rfl))).trans h16, (hk _ _ (.inr (.inl rfl))).trans h17, (hk _ _ (.inr (.inr rfl))).trans h18, (hk _ _ (.inr (.inr rfl))).trans h19⟩
theorem JoS.below (h : JoS g1 g2 g3 r t v W) {B : Nat} (hb : Below B W W') (h1 : g1 < B) (h2 : g2 < B) (h3 : g3 < B) : JoS g1 g2 g3 r t v W' :=
  h.keep fun b o hh => hb.cell (p := ⟨b, o, none⟩) (by rcases hh with e | e | e <;> (show b < B; omega))
theorem JoS.drew (h : JoS g1 g2 g3 r t v W) : JoS g1 g2 g3 r t v W.drew := h
end

theorem blk_at {w : World} {H : Nat} {t : TypeId} {cs : Array Value} (hH : w.heap.size = H) : Blk (w.alloc (.cells cs t)) H t cs := heap_new_at w _ H hH

theorem mean_both (a : Ag) (ha : a.Ok) : ∃ (q : Int) (is : Bool), (∀ wx, Calls Try.prog 13 #[.agg #[.int .u64 a.n, .int .i64 a.ft, .int .u64 a.fv, .int .i64 a.lt, .int .u64 a.lv, .int .u64 a.mi, .int .u64 a.ma, .int .u64 a.hi, .int .u64 a.lo]] wx fun e w' => e = .returned (.tuple #[.int .u64 q, .bool is]) ∧ Below wx.heap.size wx w') ∧
    (∀ wx, Calls Try.prog 14 #[.agg #[.int .u64 a.n, .int .i64 a.ft, .int .u64 a.fv, .int .i64 a.lt, .int .u64 a.lv, .int .u64 a.mi, .int .u64 a.ma, .int .u64 a.hi, .int .u64 a.lo]] wx fun e w' => e = .returned (.tuple #[.int .u64 q, .bool is]) ∧ Below wx.heap.size wx w') := by
  by_cases h : a.n = 0 ∨ a.n ≤ a.hi
  · exact ⟨0, false, fun wx => mean_none a wx h, fun wx => rmean_none a wx h⟩
  · obtain ⟨n, ft, fv, lt, lv, mi, ma, hi, lo⟩ := a
    obtain ⟨H, rfl⟩ := Int.eq_ofNat_of_zero_le ha.hi.1
    obtain ⟨O, rfl⟩ := Int.eq_ofNat_of_zero_le ha.lo.1
    obtain ⟨N, rfl⟩ := Int.eq_ofNat_of_zero_le ha.n.1
    have hN : N < 18446744073709551616 := by have : (N : Int) < 18446744073709551616 := ha.n.2; omega
    have hO : O < 18446744073709551616 := by have : (O : Int) < 18446744073709551616 := ha.lo.2; omega
    have h1 : ¬ (N : Int) = 0 := fun e => h (.inl e)
    have h2 : (H : Int) < (N : Int) := by have : ¬ (N : Int) ≤ (H : Int) := fun e => h (.inr e); omega
    have hf : Fair H O N := ⟨by omega, hN, hO⟩
    exact ⟨((H * 18446744073709551616 + O) / N : Nat), true,
      fun wx => mean_of ⟨N, ft, fv, lt, lv, mi, ma, H, O⟩ _ ((H * 18446744073709551616 + O) % N : Nat) wx (fun wy => div64_say H O N (by omega) hN hO wy) h1 h2,
      fun wx => rmean_walk H O N ⟨N, ft, fv, lt, lv, mi, ma, H, O⟩ wx hf⟩

set_option maxRecDepth 100000 in
set_option maxHeartbeats 4000000 in
theorem walk_AggJoins (w : World) (a : Ag) (oa : a.Ok) (b : Ag) (ob : b.Ok) (s : Smp) (os : SmpOk s) :
    Calls Try.prog 4 #[.agg #[.int .u64 a.n, .int .i64 a.ft, .int .u64 a.fv, .int .i64 a.lt, .int .u64 a.lv, .int .u64 a.mi, .int .u64 a.ma, .int .u64 a.hi, .int .u64 a.lo], .agg #[.int .u64 b.n, .int .i64 b.ft, .int .u64 b.fv, .int .i64 b.lt, .int .u64 b.lv, .int .u64 b.mi, .int .u64 b.ma, .int .u64 b.hi, .int .u64 b.lo], .agg #[.int .i64 s.1, .int .u64 s.2]] w fun e w' => e = .returned (.bool true) ∧ Below w.heap.size w w' := by
  obtain ⟨t, v⟩ := s
  obtain ⟨r, hr⟩ : ∃ r, joinV a b = r := ⟨_, rfl⟩
  obtain ⟨E, hE⟩ : ∃ E, joinE a b = E := ⟨_, rfl⟩
  have hJ := fun wx => join_any a b wx oa ob
  have hRJ := fun wx => rjoin_any a b wx oa ob
  rw [hr, hE] at hJ hRJ
  have HJ := Lib.hid hJ
  have HRJ := Lib.hid hRJ
  have HE2 := Lib.hid (show E = 0 ∨ E = 240 by rw [← hE]; exact joinE_two _ _)
  obtain ⟨q, is, hm, hrm⟩ := mean_both a oa
  have HM := Lib.hid hm
  have HRM := Lib.hid hrm
  clear hJ hRJ hr hE hm hrm oa ob os
  go_enter Try.func4, Try.ntmps4
  go_wp2_with fail
  refine (HJ.out _).mono ?_
  rintro e w1 ⟨rfl, hb1⟩
  have hbw1 : Below w.heap.size w w1 := ((((Below.refl _ _).alloc (Nat.le_refl _) _).alloc (by simp) _).alloc (by simp; omega) _).trans (hb1.mono (by simp; omega))
  have HA : Hid (Blk w1 w.heap.size 29 #[.int .u64 a.n, .int .i64 a.ft, .int .u64 a.fv, .int .i64 a.lt, .int .u64 a.lv, .int .u64 a.mi, .int .u64 a.ma, .int .u64 a.hi, .int .u64 a.lo]) := Lib.hid (((agBlk.alloc _).alloc _).below hb1 (by simp; omega))
  have HB : Hid (Blk w1 (w.heap.size + 1) 29 #[.int .u64 b.n, .int .i64 b.ft, .int .u64 b.fv, .int .i64 b.lt, .int .u64 b.lv, .int .u64 b.mi, .int .u64 b.ma, .int .u64 b.hi, .int .u64 b.lo]) := Lib.hid (((blk_at (w := w.alloc _) (H := w.heap.size + 1) (by simp)).alloc _).below hb1 (by simp))
  have HS : Hid (Blk w1 (w.heap.size + 1 + 1) 27 #[.int .i64 t, .int .u64 v]) := Lib.hid ((blk_at (w := (w.alloc _).alloc _) (H := w.heap.size + 1 + 1) (by simp)).below hb1 (by simp))
  clear hb1
  replace HA := Lib.hid (HA.out.alloc (.cells #[.int .u64 r.n, .int .i64 r.ft, .int .u64 r.fv, .int .i64 r.lt, .int .u64 r.lv, .int .u64 r.mi, .int .u64 r.ma, .int .u64 r.hi, .int .u64 r.lo] 29))
  replace HB := Lib.hid (HB.out.alloc (.cells #[.int .u64 r.n, .int .i64 r.ft, .int .u64 r.fv, .int .i64 r.lt, .int .u64 r.lv, .int .u64 r.mi, .int .u64 r.ma, .int .u64 r.hi, .int .u64 r.lo] 29))
  replace HS := Lib.hid (HS.out.alloc (.cells #[.int .u64 r.n, .int .i64 r.ft, .int .u64 r.fv, .int .i64 r.lt, .int .u64 r.lv, .int .u64 r.mi, .int .u64 r.ma, .int .u64 r.hi, .int .u64 r.lo] 29))
  have HX := Lib.hid (agBlk (w := w1) (t := 29) (cs := #[.int .u64 r.n, .int .i64 r.ft, .int .u64 r.fv, .int .i64 r.lt, .int .u64 r.lv, .int .u64 r.mi, .int .u64 r.ma, .int .u64 r.hi, .int .u64 r.lo]))
  have hbz1 := hbw1.alloc hbw1.size (.cells #[.int .u64 r.n, .int .i64 r.ft, .int .u64 r.fv, .int .i64 r.lt, .int .u64 r.lv, .int .u64 r.mi, .int .u64 r.ma, .int .u64 r.hi, .int .u64 r.lo] 29)
  have c0 := HA.out.cell 0; have c1 := HA.out.cell 1; have c2 := HA.out.cell 2; have c3 := HA.out.cell 3; have c4 := HA.out.cell 4; have c5 := HA.out.cell 5; have c6 := HA.out.cell 6; have c7 := HA.out.cell 7; have c8 := HA.out.cell 8
  have d0 := HB.out.cell 0; have d1 := HB.out.cell 1; have d2 := HB.out.cell 2; have d3 := HB.out.cell 3; have d4 := HB.out.cell 4; have d5 := HB.out.cell 5; have d6 := HB.out.cell 6; have d7 := HB.out.cell 7; have d8 := HB.out.cell 8
  go_wp2_with fail
  refine (HRJ.out _).mono ?_
  rintro e w2 ⟨rfl, hb2⟩
  clear c0 d0 c1 d1 c2 d2 c3 d3 c4 d4 c5 d5 c6 d6 c7 d7 c8 d8
  have hbw2 := hbz1.trans (hb2.mono hbz1.size)
  replace HA := Lib.hid ((HA.out.below hb2 HA.out.lt).alloc (.cells #[.int .u64 r.n, .int .i64 r.ft, .int .u64 r.fv, .int .i64 r.lt, .int .u64 r.lv, .int .u64 r.mi, .int .u64 r.ma, .int .u64 r.hi, .int .u64 r.lo] 29))
  replace HS := Lib.hid ((HS.out.below hb2 HS.out.lt).alloc (.cells #[.int .u64 r.n, .int .i64 r.ft, .int .u64 r.fv, .int .i64 r.lt, .int .u64 r.lv, .int .u64 r.mi, .int .u64 r.ma, .int .u64 r.hi, .int .u64 r.lo] 29))
  replace HX := Lib.hid ((HX.out.below hb2 HX.out.lt).alloc (.cells #[.int .u64 r.n, .int .i64 r.ft, .int .u64 r.fv, .int .i64 r.lt, .int .u64 r.lv, .int .u64 r.mi, .int .u64 r.ma, .int .u64 r.hi, .int .u64 r.lo] 29))
  have HY := Lib.hid (agBlk (w := w2) (t := 29) (cs := #[.int .u64 r.n, .int .i64 r.ft, .int .u64 r.fv, .int .i64 r.lt, .int .u64 r.lv, .int .u64 r.mi, .int .u64 r.ma, .int .u64 r.hi, .int .u64 r.lo]))
  have hbz2 := hbw2.alloc hbw2.size (.cells #[.int .u64 r.n, .int .i64 r.ft, .int .u64 r.fv, .int .i64 r.lt, .int .u64 r.lv, .int .u64 r.mi, .int .u64 r.ma, .int .u64 r.hi, .int .u64 r.lo] 29)
  clear hb2 HB
  have c0 := HA.out.cell 0; have c1 := HA.out.cell 1; have c2 := HA.out.cell 2; have c3 := HA.out.cell 3; have c4 := HA.out.cell 4; have c5 := HA.out.cell 5; have c6 := HA.out.cell 6; have c7 := HA.out.cell 7; have c8 := HA.out.cell 8
  go_wp2_with fail
  refine (HM.out _).mono ?_
  rintro e w3 ⟨rfl, hb3⟩
  clear c0 c1 c2 c3 c4 c5 c6 c7 c8
  have hbw3 := hbz2.trans (hb3.mono hbz2.size)
  replace HA := Lib.hid (HA.out.below hb3 HA.out.lt)
  replace HS := Lib.hid (HS.out.below hb3 HS.out.lt)
  replace HX := Lib.hid (HX.out.below hb3 HX.out.lt)
  replace HY := Lib.hid (HY.out.below hb3 HY.out.lt)
  clear hb3
  have c0 := HA.out.cell 0; have c1 := HA.out.cell 1; have c2 := HA.out.cell 2; have c3 := HA.out.cell 3; have c4 := HA.out.cell 4; have c5 := HA.out.cell 5; have c6 := HA.out.cell 6; have c7 := HA.out.cell 7; have c8 := HA.out.cell 8
  go_wp2_with fail
  refine (HRM.out _).mono ?_
  rintro e w4 ⟨rfl, hb4⟩
  clear c0 c1 c2 c3 c4 c5 c6 c7 c8
  have hbw4 := hbw3.trans (hb4.mono hbw3.size)
  replace HS := Lib.hid (HS.out.below hb4 HS.out.lt)
  replace HX := Lib.hid (HX.out.below hb4 HX.out.lt)
  replace HY := Lib.hid (HY.out.below hb4 HY.out.lt)
  have z1 := HX.out.lt
  have z2 := HY.out.lt
  have z3 := HS.out.lt
  have HS0 : Hid (JoS w1.heap.size w2.heap.size (w.heap.size + 1 + 1) r t v w4) := Lib.hid ⟨HX.out.cell 0, HX.out.cell 1, HX.out.cell 2, HX.out.cell 3, HX.out.cell 4, HX.out.cell 5, HX.out.cell 6, HX.out.cell 7, HX.out.cell 8, HY.out.cell 0, HY.out.cell 1, HY.out.cell 2, HY.out.cell 3, HY.out.cell 4, HY.out.cell 5, HY.out.cell 6, HY.out.cell 7, HY.out.cell 8, HS.out.cell 0, HS.out.cell 1⟩
  clear hb4 HS HX HY HA
  rcases HE2.out with rfl | rfl
  all_goals
    go_wp2_with fail
    go_region_held3 (fun wx => wx.cell? ⟨w1.heap.size, 0, none⟩ = some (.int .u64 r.n) ∧ wx.cell? ⟨w1.heap.size, 1, none⟩ = some (.int .i64 r.ft) ∧ wx.cell? ⟨w1.heap.size, 2, none⟩ = some (.int .u64 r.fv) ∧ wx.cell? ⟨w1.heap.size, 3, none⟩ = some (.int .i64 r.lt) ∧ wx.cell? ⟨w1.heap.size, 4, none⟩ = some (.int .u64 r.lv) ∧ wx.cell? ⟨w1.heap.size, 5, none⟩ = some (.int .u64 r.mi) ∧ wx.cell? ⟨w1.heap.size, 6, none⟩ = some (.int .u64 r.ma) ∧ wx.cell? ⟨w1.heap.size, 7, none⟩ = some (.int .u64 r.hi) ∧ wx.cell? ⟨w1.heap.size, 8, none⟩ = some (.int .u64 r.lo) ∧ wx.cell? ⟨w2.heap.size, 0, none⟩ = some (.int .u64 r.n) ∧ wx.cell? ⟨w2.heap.size, 1, none⟩ = some (.int .i64 r.ft) ∧ wx.cell? ⟨w2.heap.size, 2, none⟩ = some (.int .u64 r.fv) ∧ wx.cell? ⟨w2.heap.size, 3, none⟩ = some (.int .i64 r.lt) ∧ wx.cell? ⟨w2.heap.size, 4, none⟩ = some (.int .u64 r.lv) ∧ wx.cell? ⟨w2.heap.size, 5, none⟩ = some (.int .u64 r.mi) ∧ wx.cell? ⟨w2.heap.size, 6, none⟩ = some (.int .u64 r.ma) ∧ wx.cell? ⟨w2.heap.size, 7, none⟩ = some (.int .u64 r.hi) ∧ wx.cell? ⟨w2.heap.size, 8, none⟩ = some (.int .u64 r.lo) ∧ wx.cell? ⟨(w.heap.size + 1 + 1), 0, none⟩ = some (.int .i64 t) ∧ wx.cell? ⟨(w.heap.size + 1 + 1), 1, none⟩ = some (.int .u64 v))
      ((show JoS w1.heap.size w2.heap.size (w.heap.size + 1 + 1) r t v _; with_reducible first | exact HS0.out.drew | exact hS1 | exact hS2 | exact hS3 | fail))
      ((first
        | (go_at_call 8; ((with_reducible refine (known_any _).mono ?_); rintro e w5 ⟨rfl, hb5⟩; have hC1 : Below w4.heap.size w4 w5 := (Below.refl _ _).drew.trans hb5; have hS1 : JoS w1.heap.size w2.heap.size (w.heap.size + 1 + 1) r t v w5 := HS0.out.below hC1 z1 z2 z3))
        | (go_at_call 15; ((with_reducible refine (one_any t v _).mono ?_); rintro e w6 ⟨rfl, hb6⟩; have hC2 : Below w4.heap.size w4 w6 := hC1.trans (hb6.mono hC1.size); have hS2 : JoS w1.heap.size w2.heap.size (w.heap.size + 1 + 1) r t v w6 := HS0.out.below hC2 z1 z2 z3))
        | (go_at_call 16; ((with_reducible refine (rone_any t v _).mono ?_); rintro e w7 ⟨rfl, hb7⟩; have hC3 : Below w4.heap.size w4 w7 := hC2.trans (hb7.mono hC2.size); have hS3 : JoS w1.heap.size w2.heap.size (w.heap.size + 1 + 1) r t v w7 := HS0.out.below hC3 z1 z2 z3))))
    all_goals
      go_wp2_with fail
      go_ret
      exact ⟨rfl, hbw4.trans (hC3.mono hbw4.size)⟩

set_option maxRecDepth 100000 in
theorem lifted_AggJoins (os : Os) (started : os.Started) (H : Type) (enc : TypeId × Value → H) :
    ReturnsInHanded {} Try.checked os 4 .any (Rows.aggJoinsSpec.pre6 enc Try.prog Try.f4 Rows.aggJoinsRow.domain false) (Rows.aggJoinsSpec.post enc Try.prog Try.f4 false true false false) := by
  refine returnsInHanded_of_change (C := Try.checked) own started (by kernel_rfl) Try.func4
    (ChangeSpec.witness6 (enc := enc) (C := Try.checked) false ⟨#[], #[.agg #[.int .u64 0, .int .i64 0, .int .u64 0, .int .i64 0, .int .u64 0, .int .u64 0, .int .u64 0, .int .u64 0, .int .u64 0], .agg #[.int .u64 0, .int .i64 0, .int .u64 0, .int .i64 0, .int .u64 0, .int .u64 0, .int .u64 0, .int .u64 0, .int .u64 0], .agg #[.int .i64 0, .int .u64 0]], []⟩ 8 (by kernel_rfl) (by kernel_rfl) (by kernel_rfl) (by kernel_rfl)) ?_
  intro W base args ds gs before hval0 hW hcnd _
  have hval : ∀ (j : Nat) t v, Try.f4.params[j]? = some t → args[j]? = some v → Value.okWide Try.prog W .any base t v := hval0
  have hW' := hW
  obtain ⟨p, q, hA0, hV, rfl, hfz, hnd⟩ := hW
  have hA : DataW.TrodAll enc Try.prog W 0 (fun _ => true) true Try.f4.params.toList args.toList ds p := hA0
  rw [Try.params4] at hA hval
  obtain ⟨v0, vs0, d0, ds0, p0, q0, hargs, rfl, rfl, h0, r0⟩ := trodAll_cons hA
  obtain ⟨v1, vs1, d1, ds1, p1, q1, rfl, rfl, rfl, h1, r1⟩ := trodAll_cons r0
  obtain ⟨v2, vs2, d2, ds2, p2, q2, rfl, rfl, rfl, h2, r2⟩ := trodAll_cons r1
  obtain ⟨rfl, rfl, rfl⟩ := trodAll_nil r2
  obtain rfl : args = #[v0, v1, v2] := by cases args; simp_all
  obtain ⟨rfl, rfl⟩ := trodVars_none hV
  have k0 := h0
  have lt0 : ∀ x ∈ p0, x.block < W.heap.size := by obtain ⟨m, hm⟩ := k0; exact DataW.trod_lt m _ _ _ hm
  obtain ⟨x0, ok0, rfl⟩ := open_agg9 (hval 0 29 v0 rfl rfl) h0
  have k1 := h1
  have lt1 : ∀ x ∈ p1, x.block < W.heap.size := by obtain ⟨m, hm⟩ := k1; exact DataW.trod_lt m _ _ _ hm
  obtain ⟨x1, ok1, rfl⟩ := open_agg9 (hval 1 29 v1 rfl rfl) h1
  have k2 := h2
  have lt2 : ∀ x ∈ p2, x.block < W.heap.size := by obtain ⟨m, hm⟩ := k2; exact DataW.trod_lt m _ _ _ hm
  obtain ⟨x2, ok2, rfl⟩ := open_smp (hval 2 27 v2 rfl rfl) h2
  clear hA0 hval0
  refine (walk_AggJoins W x0 ok0 x1 ok1 x2 ok2).mono fun e W' ⟨he, bel⟩ => ?_
  subst he
  exact ⟨_, rfl, _, _, _, [], _, [], hW', trodAll_mk1 (shut_bool Try.underlying4 _), (trodAll_cons_mk (Below.trod laidOut (by kernel_rfl) (of_decide_eq_true (by kernel_rfl)) k0 bel lt0) (trodAll_cons_mk (Below.trod laidOut (by kernel_rfl) (of_decide_eq_true (by kernel_rfl)) k1 bel lt1) (trodAll_cons_mk (Below.trod laidOut (by kernel_rfl) (of_decide_eq_true (by kernel_rfl)) k2 bel lt2) trodAll_mk0))), rfl, bel.frame _, fun h => by cases h⟩

theorem over_AggJoins : Rows.aggJoinsRow.holds Try.pinned (OpenSpec.ofChange Rows.aggJoinsSpec) :=
  OpenClaim.holds_of_wide 4 Try.f4 rfl rfl rfl rfl rfl rfl rfl ⟨rfl, rfl, rfl, rfl, rfl⟩ rfl rfl rfl rfl rfl (by kernel_rfl) Try.func4 (by kernel_rfl)
    (of_decide_eq_true (by kernel_rfl)) (by unfold Func.isWrapper; first | (rw [if_pos (by decide +kernel)]; kernel_rfl) | (rw [if_neg (by decide +kernel)]; exact ⟨rfl, rfl⟩))
    (fun os started H enc _ => lifted_AggJoins os started H enc)

theorem aggJoins_holds : Rows.AggJoinsSaid := over_AggJoins

#print axioms aggJoins_holds
end Go.Proofs.Ytfaahkjgbjcjgaa
