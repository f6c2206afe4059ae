/-
  Rows.AggHalvesSaid is proved: for every list of samples and every place, the halves joined come to what all come to; the other way round it is an error just if both have some. No condition.
-/
import Derived.Test.YtfaahkjgbjcjgaaAgLaw
namespace Go.Proofs.Ytfaahkjgbjcjgaa
open Go.ChangeShapes Go.WideShapes Go.ChangeAt Go.RowKit
set_option linter.unusedVariables false

/-- Join the other way round. -/
theorem join_back_any {a b : List Smp} (hf : Few (a ++ b)) (hr : Ris (a ++ b)) {x y z : Ag} {X : Int} (hx : mk a = x) (hy : mk b = y) (hz : joinV y x = z) (hX : (if a ≠ [] ∧ b ≠ [] then (240 : Int) else 0) = X) (w : World) :
    Calls Try.prog 11 #[.agg #[.int .u64 y.n, .int .i64 y.ft, .int .u64 y.fv, .int .i64 y.lt, .int .u64 y.lv, .int .u64 y.mi, .int .u64 y.ma, .int .u64 y.hi, .int .u64 y.lo], .agg #[.int .u64 x.n, .int .i64 x.ft, .int .u64 x.fv, .int .i64 x.lt, .int .u64 x.lv, .int .u64 x.mi, .int .u64 x.ma, .int .u64 x.hi, .int .u64 x.lo]] w (RetAg .u16 z X w) := by
  subst hx hy hz hX
  have := join_any (mk b) (mk a) w (mk_ok hf.right hr.right) (mk_ok hf.left hr.left)
  rw [join_back hf hr] at this
  exact this

set_option maxRecDepth 100000 in
set_option maxHeartbeats 4000000 in
theorem walk_AggHalves (w : World) (A : Option Addr) (c : Nat) (l : List Smp) (hr : RdS w A l) (hf : ∀ s ∈ l, SmpOk s) (hm : l.length ≤ maxLen) (i : Int) (hi : -9223372036854775808 ≤ i ∧ i ≤ 9223372036854775807) :
    Calls Try.prog 6 #[.slice A l.length c, .int .i64 i] w fun e w' => e = .returned (.bool true) ∧ Below w.heap.size w w' := by
  by_cases hbig : (60 : Int) < (l.length : Int)
  · have hd' : decide (60 < l.length) = true := by simp; omega
    clear hm hf hr
    go_enter Try.func6, Try.ntmps6
    go_wp2_with fail
    refine (known_any _).mono ?_
    rintro e w1 ⟨rfl, hb1⟩
    go_wp2_with fail
    go_ret
    exact ⟨rfl, hb1⟩
  have hd' : decide (60 < l.length) = false := by simp; omega
  have hl60 : l.length ≤ 60 := by omega
  obtain ⟨L, hL⟩ : ∃ L, rise l = L := ⟨_, rfl⟩
  obtain ⟨m, hml⟩ : ∃ m, L.length = m := ⟨_, rfl⟩
  have hall := rise_all l
  rw [hL] at hall
  have hm60 : m ≤ 60 := by have := hall.2.1; omega
  have hm60' : (m : Int) ≤ 60 := by omega
  have hFew : Few L := ⟨by omega, fun s hs => hf s (hall.2.2 s hs)⟩
  have hRis := hall.1
  have hRA := fun wx (h : RdS wx A l) => rising_any A c l wx h (by omega)
  rw [hL] at hRA
  obtain ⟨n, hn⟩ : ∃ n, l.length = n := ⟨_, rfl⟩
  rw [hn] at hd' hRA
  rw [hn]
  have HRA := Lib.hid hRA
  have HM := Lib.hid hml
  have hLm : L.length = m := hml
  clear hf hm hbig hl60 hL hml hall hRA hn
  have hn' : n ≤ 60 := by simpa using hd'
  obtain ⟨F, hFm, hF0, hF1⟩ := pick_mod i m
  have HF0 := Lib.hid hF0
  have HF1 := Lib.hid hF1
  have hm0 : ¬ ((m : Int) + 1 = 0) := by omega
  clear hF0 hF1
  obtain ⟨P1, hP1⟩ : ∃ P, L.take F = P := ⟨_, rfl⟩
  obtain ⟨P2, hP2⟩ : ∃ P, L.drop F = P := ⟨_, rfl⟩
  have hsum : P1 ++ P2 = L := by rw [← hP1, ← hP2, List.take_append_drop]
  have hl1 : P1.length = F := by rw [← hP1, List.length_take, hLm]; omega
  have hl2 : P2.length = m - F := by rw [← hP2, List.length_drop, hLm]
  have hFew3 : Few (P1 ++ P2) := by rw [hsum]; exact hFew
  have hRis3 : Ris (P1 ++ P2) := by rw [hsum]; exact hRis
  obtain ⟨a, ha⟩ : ∃ a, mk P1 = a := ⟨_, rfl⟩
  obtain ⟨b, hb⟩ : ∃ a, mk P2 = a := ⟨_, rfl⟩
  obtain ⟨z, hz⟩ : ∃ a, mk (P1 ++ P2) = a := ⟨_, rfl⟩
  obtain ⟨y, hy⟩ : ∃ y, joinV b a = y := ⟨_, rfl⟩
  obtain ⟨X, hX⟩ : ∃ X, (if P1 ≠ [] ∧ P2 ≠ [] then (240 : Int) else 0) = X := ⟨_, rfl⟩
  have HO1 := Lib.hid (fun (A' : Option Addr) (c' : Nat) wx h => by have := of_mk (A := A') (c := c') hl1 hFew3.left hRis3.left wx h; rw [ha] at this; exact this)
  have HO2 := Lib.hid (fun (A' : Option Addr) (c' : Nat) wx h => by have := of_mk (A := A') (c := c') hl2 hFew3.right hRis3.right wx h; rw [hb] at this; exact this)
  have HO3 := Lib.hid (fun (A' : Option Addr) (c' : Nat) wx h => by have := of_mk (A := A') (c := c') hLm hFew hRis wx h; rw [← hsum, hz] at this; exact this)
  have HJ1 := Lib.hid (fun wx => join_mk_any hFew3 hRis3 ha hb hz wx)
  have HJ2 := Lib.hid (fun wx => join_back_any hFew3 hRis3 ha hb hy hX wx)
  have HX : Hid (X = if 0 < F ∧ F < m then 240 else 0) := Lib.hid (by
    rw [← hX]
    have e1 : P1 ≠ [] ↔ 0 < F := by rw [← hl1]; exact List.length_pos_iff.symm
    have e2 : P2 ≠ [] ↔ F < m := by rw [← List.length_pos_iff, hl2]; omega
    simp only [e1, e2])
  have HP1 := Lib.hid hP1
  have HP2 := Lib.hid hP2
  clear hP1 hP2 hsum hl1 hl2 hFew hRis hFew3 hRis3 ha hb hz hy hX hLm
  go_enter Try.func6, Try.ntmps6
  go_wp2_with fail
  refine (known_any _).mono ?_
  rintro e w1 ⟨rfl, hbw1⟩
  go_wp2_with fail
  refine (HRA.out _ (hr.below hbw1)).mono ?_
  rintro e w2 ⟨A2, c2, rfl, hcap, hown, hb2⟩
  rw [HM.out] at hcap ⊢
  have hbw2 := hbw1.trans (hb2.mono hbw1.size)
  have hR2 := RdS.of_own hown
  clear hown hb2 HRA
  go_upto_region 4 with fail
  go_cut [6] (fun s8 wx => wx = w2 ∧ s8 = .int .i64 (F : Int))
  case first =>
    by_cases hi0 : i < 0
    · have := HF0.out hi0
      subst this
      go_wp2_with fail
      go_meet
      exact ⟨rfl, rfl⟩
    · have hf := HF1.out (Int.not_lt.1 hi0)
      go_wp2_with fail
      go_meet
      exact ⟨rfl, rfl⟩
  case rest =>
    obtain ⟨rfl, rfl⟩ := hcut
    go_wp2_with fail
    with_reducible refine (HO1.out A2 c2 _ (by have := hR2.part 0 F (v := A2) (fun g o h _ => by rw [h, Nat.zero_mul, Nat.add_zero]); rw [List.drop_zero, HP1.out] at this; exact this)).mono ?_
    rintro e w3 ⟨rfl, hb3⟩
    have hbw3 := hbw2.trans (hb3.mono hbw2.size)
    replace hR2 := hR2.below hb3
    clear hb3
    replace hR2 := hR2.alloc (.cells #[.int .u64 a.n, .int .i64 a.ft, .int .u64 a.fv, .int .i64 a.lt, .int .u64 a.lv, .int .u64 a.mi, .int .u64 a.ma, .int .u64 a.hi, .int .u64 a.lo] 29)
    have HTa := Lib.hid (agBlk (w := w3) (t := 29) (cs := #[.int .u64 a.n, .int .i64 a.ft, .int .u64 a.fv, .int .i64 a.lt, .int .u64 a.lv, .int .u64 a.mi, .int .u64 a.ma, .int .u64 a.hi, .int .u64 a.lo]))
    have hbwz3 : Below w.heap.size w _ := hbw3.alloc hbw3.size (.cells #[.int .u64 a.n, .int .i64 a.ft, .int .u64 a.fv, .int .i64 a.lt, .int .u64 a.lv, .int .u64 a.mi, .int .u64 a.ma, .int .u64 a.hi, .int .u64 a.lo] 29)
    by_cases hcF : c2 = F
    · have h2 : F = c2 := by omega
      clear hcF
      have e1 : m - F = 0 := by omega
      have e2 : m = F := by omega
      rw [e1] at HO2
      clear e1 e2
      obtain rfl : c2 = F := h2.symm
      go_wp2_with fail
      with_reducible refine (HO2.out _ _ _ (by rw [← HP2.out, ← List.take_of_length_le (l := L.drop c2) (i := m - c2) (by rw [List.length_drop, HM.out]; exact Nat.le_refl _)]; exact hR2.part c2 (m - c2) (fun g o h hp => by rw [HM.out] at hp; first | (exfalso; omega) | (rw [h]; simp [Addr.add])))).mono ?_
      rintro e w4 ⟨rfl, hb4⟩
      have hbw4 := hbwz3.trans (hb4.mono hbwz3.size)
      replace HTa := Lib.hid (HTa.out.below hb4 HTa.out.lt)
      replace hR2 := hR2.below hb4
      clear hb4
      replace HTa := Lib.hid (HTa.out.alloc (.cells #[.int .u64 b.n, .int .i64 b.ft, .int .u64 b.fv, .int .i64 b.lt, .int .u64 b.lv, .int .u64 b.mi, .int .u64 b.ma, .int .u64 b.hi, .int .u64 b.lo] 29))
      replace hR2 := hR2.alloc (.cells #[.int .u64 b.n, .int .i64 b.ft, .int .u64 b.fv, .int .i64 b.lt, .int .u64 b.lv, .int .u64 b.mi, .int .u64 b.ma, .int .u64 b.hi, .int .u64 b.lo] 29)
      have HTb := Lib.hid (agBlk (w := w4) (t := 29) (cs := #[.int .u64 b.n, .int .i64 b.ft, .int .u64 b.fv, .int .i64 b.lt, .int .u64 b.lv, .int .u64 b.mi, .int .u64 b.ma, .int .u64 b.hi, .int .u64 b.lo]))
      have hbwz4 : Below w.heap.size w _ := hbw4.alloc hbw4.size (.cells #[.int .u64 b.n, .int .i64 b.ft, .int .u64 b.fv, .int .i64 b.lt, .int .u64 b.lv, .int .u64 b.mi, .int .u64 b.ma, .int .u64 b.hi, .int .u64 b.lo] 29)
      go_wp2_with fail
      with_reducible refine (HO3.out _ _ _ hR2).mono ?_
      rintro e w5 ⟨rfl, hb5⟩
      have hbw5 := hbwz4.trans (hb5.mono hbwz4.size)
      replace HTa := Lib.hid (HTa.out.below hb5 HTa.out.lt)
      replace HTb := Lib.hid (HTb.out.below hb5 HTb.out.lt)
      replace hR2 := hR2.below hb5
      clear hb5
      replace HTa := Lib.hid (HTa.out.alloc (.cells #[.int .u64 z.n, .int .i64 z.ft, .int .u64 z.fv, .int .i64 z.lt, .int .u64 z.lv, .int .u64 z.mi, .int .u64 z.ma, .int .u64 z.hi, .int .u64 z.lo] 29))
      replace HTb := Lib.hid (HTb.out.alloc (.cells #[.int .u64 z.n, .int .i64 z.ft, .int .u64 z.fv, .int .i64 z.lt, .int .u64 z.lv, .int .u64 z.mi, .int .u64 z.ma, .int .u64 z.hi, .int .u64 z.lo] 29))
      replace hR2 := hR2.alloc (.cells #[.int .u64 z.n, .int .i64 z.ft, .int .u64 z.fv, .int .i64 z.lt, .int .u64 z.lv, .int .u64 z.mi, .int .u64 z.ma, .int .u64 z.hi, .int .u64 z.lo] 29)
      have HTd := Lib.hid (agBlk (w := w5) (t := 29) (cs := #[.int .u64 z.n, .int .i64 z.ft, .int .u64 z.fv, .int .i64 z.lt, .int .u64 z.lv, .int .u64 z.mi, .int .u64 z.ma, .int .u64 z.hi, .int .u64 z.lo]))
      have hbwz5 : Below w.heap.size w _ := hbw5.alloc hbw5.size (.cells #[.int .u64 z.n, .int .i64 z.ft, .int .u64 z.fv, .int .i64 z.lt, .int .u64 z.lv, .int .u64 z.mi, .int .u64 z.ma, .int .u64 z.hi, .int .u64 z.lo] 29)
      have c0a := HTa.out.cell 0
      have c1a := HTa.out.cell 1
      have c2a := HTa.out.cell 2
      have c3a := HTa.out.cell 3
      have c4a := HTa.out.cell 4
      have c5a := HTa.out.cell 5
      have c6a := HTa.out.cell 6
      have c7a := HTa.out.cell 7
      have c8a := HTa.out.cell 8
      have c0b := HTb.out.cell 0
      have c1b := HTb.out.cell 1
      have c2b := HTb.out.cell 2
      have c3b := HTb.out.cell 3
      have c4b := HTb.out.cell 4
      have c5b := HTb.out.cell 5
      have c6b := HTb.out.cell 6
      have c7b := HTb.out.cell 7
      have c8b := HTb.out.cell 8
      go_wp2_with fail
      with_reducible refine (HJ1.out _).mono ?_
      rintro e w6 ⟨rfl, hb6⟩
      clear c0a c1a c2a c3a c4a c5a c6a c7a c8a c0b c1b c2b c3b c4b c5b c6b c7b c8b
      have hbw6 := hbwz5.trans (hb6.mono hbwz5.size)
      replace HTa := Lib.hid (HTa.out.below hb6 HTa.out.lt)
      replace HTb := Lib.hid (HTb.out.below hb6 HTb.out.lt)
      replace HTd := Lib.hid (HTd.out.below hb6 HTd.out.lt)
      replace hR2 := hR2.below hb6
      clear hb6
      replace HTa := Lib.hid (HTa.out.alloc (.cells #[.int .u64 z.n, .int .i64 z.ft, .int .u64 z.fv, .int .i64 z.lt, .int .u64 z.lv, .int .u64 z.mi, .int .u64 z.ma, .int .u64 z.hi, .int .u64 z.lo] 29))
      replace HTb := Lib.hid (HTb.out.alloc (.cells #[.int .u64 z.n, .int .i64 z.ft, .int .u64 z.fv, .int .i64 z.lt, .int .u64 z.lv, .int .u64 z.mi, .int .u64 z.ma, .int .u64 z.hi, .int .u64 z.lo] 29))
      replace HTd := Lib.hid (HTd.out.alloc (.cells #[.int .u64 z.n, .int .i64 z.ft, .int .u64 z.fv, .int .i64 z.lt, .int .u64 z.lv, .int .u64 z.mi, .int .u64 z.ma, .int .u64 z.hi, .int .u64 z.lo] 29))
      replace hR2 := hR2.alloc (.cells #[.int .u64 z.n, .int .i64 z.ft, .int .u64 z.fv, .int .i64 z.lt, .int .u64 z.lv, .int .u64 z.mi, .int .u64 z.ma, .int .u64 z.hi, .int .u64 z.lo] 29)
      have HTe := Lib.hid (agBlk (w := w6) (t := 29) (cs := #[.int .u64 z.n, .int .i64 z.ft, .int .u64 z.fv, .int .i64 z.lt, .int .u64 z.lv, .int .u64 z.mi, .int .u64 z.ma, .int .u64 z.hi, .int .u64 z.lo]))
      have hbwz6 : Below w.heap.size w _ := hbw6.alloc hbw6.size (.cells #[.int .u64 z.n, .int .i64 z.ft, .int .u64 z.fv, .int .i64 z.lt, .int .u64 z.lv, .int .u64 z.mi, .int .u64 z.ma, .int .u64 z.hi, .int .u64 z.lo] 29)
      have c0b := HTb.out.cell 0
      have c1b := HTb.out.cell 1
      have c2b := HTb.out.cell 2
      have c3b := HTb.out.cell 3
      have c4b := HTb.out.cell 4
      have c5b := HTb.out.cell 5
      have c6b := HTb.out.cell 6
      have c7b := HTb.out.cell 7
      have c8b := HTb.out.cell 8
      have c0a := HTa.out.cell 0
      have c1a := HTa.out.cell 1
      have c2a := HTa.out.cell 2
      have c3a := HTa.out.cell 3
      have c4a := HTa.out.cell 4
      have c5a := HTa.out.cell 5
      have c6a := HTa.out.cell 6
      have c7a := HTa.out.cell 7
      have c8a := HTa.out.cell 8
      go_wp2_with fail
      with_reducible refine (HJ2.out _).mono ?_
      rintro e w7 ⟨rfl, hb7⟩
      clear c0b c1b c2b c3b c4b c5b c6b c7b c8b c0a c1a c2a c3a c4a c5a c6a c7a c8a
      have hbw7 := hbwz6.trans (hb7.mono hbwz6.size)
      replace HTa := Lib.hid (HTa.out.below hb7 HTa.out.lt)
      replace HTb := Lib.hid (HTb.out.below hb7 HTb.out.lt)
      replace HTd := Lib.hid (HTd.out.below hb7 HTd.out.lt)
      replace HTe := Lib.hid (HTe.out.below hb7 HTe.out.lt)
      replace hR2 := hR2.below hb7
      clear hb7
      replace HTa := Lib.hid (HTa.out.alloc (.cells #[.int .u64 y.n, .int .i64 y.ft, .int .u64 y.fv, .int .i64 y.lt, .int .u64 y.lv, .int .u64 y.mi, .int .u64 y.ma, .int .u64 y.hi, .int .u64 y.lo] 29))
      replace HTb := Lib.hid (HTb.out.alloc (.cells #[.int .u64 y.n, .int .i64 y.ft, .int .u64 y.fv, .int .i64 y.lt, .int .u64 y.lv, .int .u64 y.mi, .int .u64 y.ma, .int .u64 y.hi, .int .u64 y.lo] 29))
      replace HTd := Lib.hid (HTd.out.alloc (.cells #[.int .u64 y.n, .int .i64 y.ft, .int .u64 y.fv, .int .i64 y.lt, .int .u64 y.lv, .int .u64 y.mi, .int .u64 y.ma, .int .u64 y.hi, .int .u64 y.lo] 29))
      replace HTe := Lib.hid (HTe.out.alloc (.cells #[.int .u64 y.n, .int .i64 y.ft, .int .u64 y.fv, .int .i64 y.lt, .int .u64 y.lv, .int .u64 y.mi, .int .u64 y.ma, .int .u64 y.hi, .int .u64 y.lo] 29))
      replace hR2 := hR2.alloc (.cells #[.int .u64 y.n, .int .i64 y.ft, .int .u64 y.fv, .int .i64 y.lt, .int .u64 y.lv, .int .u64 y.mi, .int .u64 y.ma, .int .u64 y.hi, .int .u64 y.lo] 29)
      have HTy := Lib.hid (agBlk (w := w7) (t := 29) (cs := #[.int .u64 y.n, .int .i64 y.ft, .int .u64 y.fv, .int .i64 y.lt, .int .u64 y.lv, .int .u64 y.mi, .int .u64 y.ma, .int .u64 y.hi, .int .u64 y.lo]))
      have hbwz7 : Below w.heap.size w _ := hbw7.alloc hbw7.size (.cells #[.int .u64 y.n, .int .i64 y.ft, .int .u64 y.fv, .int .i64 y.lt, .int .u64 y.lv, .int .u64 y.mi, .int .u64 y.ma, .int .u64 y.hi, .int .u64 y.lo] 29)
      have c0d := HTd.out.cell 0
      have c1d := HTd.out.cell 1
      have c2d := HTd.out.cell 2
      have c3d := HTd.out.cell 3
      have c4d := HTd.out.cell 4
      have c5d := HTd.out.cell 5
      have c6d := HTd.out.cell 6
      have c7d := HTd.out.cell 7
      have c8d := HTd.out.cell 8
      have c0e := HTe.out.cell 0
      have c1e := HTe.out.cell 1
      have c2e := HTe.out.cell 2
      have c3e := HTe.out.cell 3
      have c4e := HTe.out.cell 4
      have c5e := HTe.out.cell 5
      have c6e := HTe.out.cell 6
      have c7e := HTe.out.cell 7
      have c8e := HTe.out.cell 8
      have hXX := HX.out
      by_cases h1 : 0 < c2
      · have p1 : decide (0 < c2) = true := decide_eq_true h1
        by_cases h2 : c2 < m
        · have p2 : decide (c2 < m) = true := decide_eq_true h2
          rw [if_pos ⟨h1, h2⟩] at hXX
          subst hXX
          clear h1 h2
          go_wp2_with fail
          go_ret
          exact ⟨rfl, hbwz7⟩
        · have p2 : decide (c2 < m) = false := decide_eq_false h2
          rw [if_neg (fun h => h2 h.2)] at hXX
          subst hXX
          clear h1 h2
          go_wp2_with fail
          go_ret
          exact ⟨rfl, hbwz7⟩
      · have p1 : decide (0 < c2) = false := decide_eq_false h1
        rw [if_neg (fun h => h1 h.1)] at hXX
        subst hXX
        clear h1
        go_wp2_with fail
        go_ret
        exact ⟨rfl, hbwz7⟩
    · have hxx : True := trivial
      go_wp2_with fail
      with_reducible refine (HO2.out _ _ _ (by rw [← HP2.out, ← List.take_of_length_le (l := L.drop F) (i := m - F) (by rw [List.length_drop, HM.out]; exact Nat.le_refl _)]; exact hR2.part F (m - F) (fun g o h hp => by rw [HM.out] at hp; first | (exfalso; omega) | (rw [h]; simp [Addr.add])))).mono ?_
      rintro e w4 ⟨rfl, hb4⟩
      have hbw4 := hbwz3.trans (hb4.mono hbwz3.size)
      replace HTa := Lib.hid (HTa.out.below hb4 HTa.out.lt)
      replace hR2 := hR2.below hb4
      clear hb4
      replace HTa := Lib.hid (HTa.out.alloc (.cells #[.int .u64 b.n, .int .i64 b.ft, .int .u64 b.fv, .int .i64 b.lt, .int .u64 b.lv, .int .u64 b.mi, .int .u64 b.ma, .int .u64 b.hi, .int .u64 b.lo] 29))
      replace hR2 := hR2.alloc (.cells #[.int .u64 b.n, .int .i64 b.ft, .int .u64 b.fv, .int .i64 b.lt, .int .u64 b.lv, .int .u64 b.mi, .int .u64 b.ma, .int .u64 b.hi, .int .u64 b.lo] 29)
      have HTb := Lib.hid (agBlk (w := w4) (t := 29) (cs := #[.int .u64 b.n, .int .i64 b.ft, .int .u64 b.fv, .int .i64 b.lt, .int .u64 b.lv, .int .u64 b.mi, .int .u64 b.ma, .int .u64 b.hi, .int .u64 b.lo]))
      have hbwz4 : Below w.heap.size w _ := hbw4.alloc hbw4.size (.cells #[.int .u64 b.n, .int .i64 b.ft, .int .u64 b.fv, .int .i64 b.lt, .int .u64 b.lv, .int .u64 b.mi, .int .u64 b.ma, .int .u64 b.hi, .int .u64 b.lo] 29)
      go_wp2_with fail
      with_reducible refine (HO3.out _ _ _ hR2).mono ?_
      rintro e w5 ⟨rfl, hb5⟩
      have hbw5 := hbwz4.trans (hb5.mono hbwz4.size)
      replace HTa := Lib.hid (HTa.out.below hb5 HTa.out.lt)
      replace HTb := Lib.hid (HTb.out.below hb5 HTb.out.lt)
      replace hR2 := hR2.below hb5
      clear hb5
      replace HTa := Lib.hid (HTa.out.alloc (.cells #[.int .u64 z.n, .int .i64 z.ft, .int .u64 z.fv, .int .i64 z.lt, .int .u64 z.lv, .int .u64 z.mi, .int .u64 z.ma, .int .u64 z.hi, .int .u64 z.lo] 29))
      replace HTb := Lib.hid (HTb.out.alloc (.cells #[.int .u64 z.n, .int .i64 z.ft, .int .u64 z.fv, .int .i64 z.lt, .int .u64 z.lv, .int .u64 z.mi, .int .u64 z.ma, .int .u64 z.hi, .int .u64 z.lo] 29))
      replace hR2 := hR2.alloc (.cells #[.int .u64 z.n, .int .i64 z.ft, .int .u64 z.fv, .int .i64 z.lt, .int .u64 z.lv, .int .u64 z.mi, .int .u64 z.ma, .int .u64 z.hi, .int .u64 z.lo] 29)
      have HTd := Lib.hid (agBlk (w := w5) (t := 29) (cs := #[.int .u64 z.n, .int .i64 z.ft, .int .u64 z.fv, .int .i64 z.lt, .int .u64 z.lv, .int .u64 z.mi, .int .u64 z.ma, .int .u64 z.hi, .int .u64 z.lo]))
      have hbwz5 : Below w.heap.size w _ := hbw5.alloc hbw5.size (.cells #[.int .u64 z.n, .int .i64 z.ft, .int .u64 z.fv, .int .i64 z.lt, .int .u64 z.lv, .int .u64 z.mi, .int .u64 z.ma, .int .u64 z.hi, .int .u64 z.lo] 29)
      have c0a := HTa.out.cell 0
      have c1a := HTa.out.cell 1
      have c2a := HTa.out.cell 2
      have c3a := HTa.out.cell 3
      have c4a := HTa.out.cell 4
      have c5a := HTa.out.cell 5
      have c6a := HTa.out.cell 6
      have c7a := HTa.out.cell 7
      have c8a := HTa.out.cell 8
      have c0b := HTb.out.cell 0
      have c1b := HTb.out.cell 1
      have c2b := HTb.out.cell 2
      have c3b := HTb.out.cell 3
      have c4b := HTb.out.cell 4
      have c5b := HTb.out.cell 5
      have c6b := HTb.out.cell 6
      have c7b := HTb.out.cell 7
      have c8b := HTb.out.cell 8
      go_wp2_with fail
      with_reducible refine (HJ1.out _).mono ?_
      rintro e w6 ⟨rfl, hb6⟩
      clear c0a c1a c2a c3a c4a c5a c6a c7a c8a c0b c1b c2b c3b c4b c5b c6b c7b c8b
      have hbw6 := hbwz5.trans (hb6.mono hbwz5.size)
      replace HTa := Lib.hid (HTa.out.below hb6 HTa.out.lt)
      replace HTb := Lib.hid (HTb.out.below hb6 HTb.out.lt)
      replace HTd := Lib.hid (HTd.out.below hb6 HTd.out.lt)
      replace hR2 := hR2.below hb6
      clear hb6
      replace HTa := Lib.hid (HTa.out.alloc (.cells #[.int .u64 z.n, .int .i64 z.ft, .int .u64 z.fv, .int .i64 z.lt, .int .u64 z.lv, .int .u64 z.mi, .int .u64 z.ma, .int .u64 z.hi, .int .u64 z.lo] 29))
      replace HTb := Lib.hid (HTb.out.alloc (.cells #[.int .u64 z.n, .int .i64 z.ft, .int .u64 z.fv, .int .i64 z.lt, .int .u64 z.lv, .int .u64 z.mi, .int .u64 z.ma, .int .u64 z.hi, .int .u64 z.lo] 29))
      replace HTd := Lib.hid (HTd.out.alloc (.cells #[.int .u64 z.n, .int .i64 z.ft, .int .u64 z.fv, .int .i64 z.lt, .int .u64 z.lv, .int .u64 z.mi, .int .u64 z.ma, .int .u64 z.hi, .int .u64 z.lo] 29))
      replace hR2 := hR2.alloc (.cells #[.int .u64 z.n, .int .i64 z.ft, .int .u64 z.fv, .int .i64 z.lt, .int .u64 z.lv, .int .u64 z.mi, .int .u64 z.ma, .int .u64 z.hi, .int .u64 z.lo] 29)
      have HTe := Lib.hid (agBlk (w := w6) (t := 29) (cs := #[.int .u64 z.n, .int .i64 z.ft, .int .u64 z.fv, .int .i64 z.lt, .int .u64 z.lv, .int .u64 z.mi, .int .u64 z.ma, .int .u64 z.hi, .int .u64 z.lo]))
      have hbwz6 : Below w.heap.size w _ := hbw6.alloc hbw6.size (.cells #[.int .u64 z.n, .int .i64 z.ft, .int .u64 z.fv, .int .i64 z.lt, .int .u64 z.lv, .int .u64 z.mi, .int .u64 z.ma, .int .u64 z.hi, .int .u64 z.lo] 29)
      have c0b := HTb.out.cell 0
      have c1b := HTb.out.cell 1
      have c2b := HTb.out.cell 2
      have c3b := HTb.out.cell 3
      have c4b := HTb.out.cell 4
      have c5b := HTb.out.cell 5
      have c6b := HTb.out.cell 6
      have c7b := HTb.out.cell 7
      have c8b := HTb.out.cell 8
      have c0a := HTa.out.cell 0
      have c1a := HTa.out.cell 1
      have c2a := HTa.out.cell 2
      have c3a := HTa.out.cell 3
      have c4a := HTa.out.cell 4
      have c5a := HTa.out.cell 5
      have c6a := HTa.out.cell 6
      have c7a := HTa.out.cell 7
      have c8a := HTa.out.cell 8
      go_wp2_with fail
      with_reducible refine (HJ2.out _).mono ?_
      rintro e w7 ⟨rfl, hb7⟩
      clear c0b c1b c2b c3b c4b c5b c6b c7b c8b c0a c1a c2a c3a c4a c5a c6a c7a c8a
      have hbw7 := hbwz6.trans (hb7.mono hbwz6.size)
      replace HTa := Lib.hid (HTa.out.below hb7 HTa.out.lt)
      replace HTb := Lib.hid (HTb.out.below hb7 HTb.out.lt)
      replace HTd := Lib.hid (HTd.out.below hb7 HTd.out.lt)
      replace HTe := Lib.hid (HTe.out.below hb7 HTe.out.lt)
      replace hR2 := hR2.below hb7
      clear hb7
      replace HTa := Lib.hid (HTa.out.alloc (.cells #[.int .u64 y.n, .int .i64 y.ft, .int .u64 y.fv, .int .i64 y.lt, .int .u64 y.lv, .int .u64 y.mi, .int .u64 y.ma, .int .u64 y.hi, .int .u64 y.lo] 29))
      replace HTb := Lib.hid (HTb.out.alloc (.cells #[.int .u64 y.n, .int .i64 y.ft, .int .u64 y.fv, .int .i64 y.lt, .int .u64 y.lv, .int .u64 y.mi, .int .u64 y.ma, .int .u64 y.hi, .int .u64 y.lo] 29))
      replace HTd := Lib.hid (HTd.out.alloc (.cells #[.int .u64 y.n, .int .i64 y.ft, .int .u64 y.fv, .int .i64 y.lt, .int .u64 y.lv, .int .u64 y.mi, .int .u64 y.ma, .int .u64 y.hi, .int .u64 y.lo] 29))
      replace HTe := Lib.hid (HTe.out.alloc (.cells #[.int .u64 y.n, .int .i64 y.ft, .int .u64 y.fv, .int .i64 y.lt, .int .u64 y.lv, .int .u64 y.mi, .int .u64 y.ma, .int .u64 y.hi, .int .u64 y.lo] 29))
      replace hR2 := hR2.alloc (.cells #[.int .u64 y.n, .int .i64 y.ft, .int .u64 y.fv, .int .i64 y.lt, .int .u64 y.lv, .int .u64 y.mi, .int .u64 y.ma, .int .u64 y.hi, .int .u64 y.lo] 29)
      have HTy := Lib.hid (agBlk (w := w7) (t := 29) (cs := #[.int .u64 y.n, .int .i64 y.ft, .int .u64 y.fv, .int .i64 y.lt, .int .u64 y.lv, .int .u64 y.mi, .int .u64 y.ma, .int .u64 y.hi, .int .u64 y.lo]))
      have hbwz7 : Below w.heap.size w _ := hbw7.alloc hbw7.size (.cells #[.int .u64 y.n, .int .i64 y.ft, .int .u64 y.fv, .int .i64 y.lt, .int .u64 y.lv, .int .u64 y.mi, .int .u64 y.ma, .int .u64 y.hi, .int .u64 y.lo] 29)
      have c0d := HTd.out.cell 0
      have c1d := HTd.out.cell 1
      have c2d := HTd.out.cell 2
      have c3d := HTd.out.cell 3
      have c4d := HTd.out.cell 4
      have c5d := HTd.out.cell 5
      have c6d := HTd.out.cell 6
      have c7d := HTd.out.cell 7
      have c8d := HTd.out.cell 8
      have c0e := HTe.out.cell 0
      have c1e := HTe.out.cell 1
      have c2e := HTe.out.cell 2
      have c3e := HTe.out.cell 3
      have c4e := HTe.out.cell 4
      have c5e := HTe.out.cell 5
      have c6e := HTe.out.cell 6
      have c7e := HTe.out.cell 7
      have c8e := HTe.out.cell 8
      have hXX := HX.out
      by_cases h1 : 0 < F
      · have p1 : decide (0 < F) = true := decide_eq_true h1
        by_cases h2 : F < m
        · have p2 : decide (F < m) = true := decide_eq_true h2
          rw [if_pos ⟨h1, h2⟩] at hXX
          subst hXX
          clear h1 h2
          go_wp2_with fail
          go_ret
          exact ⟨rfl, hbwz7⟩
        · have p2 : decide (F < m) = false := decide_eq_false h2
          rw [if_neg (fun h => h2 h.2)] at hXX
          subst hXX
          clear h1 h2
          go_wp2_with fail
          go_ret
          exact ⟨rfl, hbwz7⟩
      · have p1 : decide (0 < F) = false := decide_eq_false h1
        rw [if_neg (fun h => h1 h.1)] at hXX
        subst hXX
        clear h1
        go_wp2_with fail
        go_ret
        exact ⟨rfl, hbwz7⟩

set_option maxRecDepth 100000 in
theorem lifted_AggHalves (os : Os) (started : os.Started) (H : Type) (enc : TypeId × Value → H) :
    ReturnsInHanded {} Try.checked os 6 .any (Rows.aggHalvesSpec.pre6 enc Try.prog Try.f6 Rows.aggHalvesRow.domain false) (Rows.aggHalvesSpec.post enc Try.prog Try.f6 false true false false) := by
  refine returnsInHanded_of_change (C := Try.checked) own started (by kernel_rfl) Try.func6
    (ChangeSpec.witness6 (enc := enc) (C := Try.checked) false ⟨#[], #[.slice none 0 0, .int .i64 0], []⟩ 8 (by kernel_rfl) (by kernel_rfl) (by kernel_rfl) (by kernel_rfl)) ?_
  intro W base args ds gs before hval0 hW hcnd _
  have hval : ∀ (j : Nat) t v, Try.f6.params[j]? = some t → args[j]? = some v → Value.okWide Try.prog W .any base t v := hval0
  have hW' := hW
  obtain ⟨p, q, hA0, hV, rfl, hfz, hnd⟩ := hW
  have hA : DataW.TrodAll enc Try.prog W 0 (fun _ => true) true Try.f6.params.toList args.toList ds p := hA0
  rw [Try.params6] at hA hval
  obtain ⟨v0, vs0, d0, ds0, p0, q0, hargs, rfl, rfl, h0, r0⟩ := trodAll_cons hA
  obtain ⟨v1, vs1, d1, ds1, p1, q1, rfl, rfl, rfl, h1, r1⟩ := trodAll_cons r0
  obtain ⟨rfl, rfl, rfl⟩ := trodAll_nil r1
  obtain rfl : args = #[v0, v1] := by cases args; simp_all
  obtain ⟨rfl, rfl⟩ := trodVars_none hV
  have k0 := h0
  have lt0 : ∀ x ∈ p0, x.block < W.heap.size := by obtain ⟨m, hm⟩ := k0; exact DataW.trod_lt m _ _ _ hm
  obtain ⟨A0, c0, l0, rfl, rd0, fi0, le0⟩ := open_samples (hval 0 22 v0 rfl rfl) h0
  obtain ⟨a1, rfl, rfl, rfl, w1⟩ := open_int Try.underlying3 (hval 1 3 v1 rfl rfl) h1
  clear hA0 hval0
  refine (walk_AggHalves W A0 c0 l0 rd0 fi0 le0 a1 (range_i64 w1)).mono fun e W' ⟨he, bel⟩ => ?_
  subst he
  exact ⟨_, rfl, _, _, _, [], _, [], hW', trodAll_mk1 (shut_bool Try.underlying4 _), (trodAll_cons_mk (Below.trod laidOut (by kernel_rfl) (of_decide_eq_true (by kernel_rfl)) k0 bel lt0) (trodAll_cons_mk (shut_int Try.underlying3 w1) trodAll_mk0)), rfl, bel.frame _, fun h => by cases h⟩

theorem over_AggHalves : Rows.aggHalvesRow.holds Try.pinned (OpenSpec.ofChange Rows.aggHalvesSpec) :=
  OpenClaim.holds_of_wide 6 Try.f6 rfl rfl rfl rfl rfl rfl rfl ⟨rfl, rfl, rfl, rfl, rfl⟩ rfl rfl rfl rfl rfl (by kernel_rfl) Try.func6 (by kernel_rfl)
    (of_decide_eq_true (by kernel_rfl)) (by unfold Func.isWrapper; first | (rw [if_pos (by decide +kernel)]; kernel_rfl) | (rw [if_neg (by decide +kernel)]; exact ⟨rfl, rfl⟩))
    (fun os started H enc _ => lifted_AggHalves os started H enc)

theorem aggHalves_holds : Rows.AggHalvesSaid := over_AggHalves

#print axioms aggHalves_holds
end Go.Proofs.Ytfaahkjgbjcjgaa
