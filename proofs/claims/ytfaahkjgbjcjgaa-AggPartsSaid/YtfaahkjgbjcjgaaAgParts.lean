/-
  Rows.AggPartsSaid is proved: for every list of samples and every two places, what three parts come to is the same, whichever two are joined first. No condition.
-/
import Derived.Test.YtfaahkjgbjcjgaaAgOpen
import Derived.Deep.DeepCutAuto
namespace Go.Proofs.Ytfaahkjgbjcjgaa
open Go.ChangeShapes Go.WideShapes Go.ChangeAt Go.RowKit
set_option linter.unusedVariables false

theorem pick_mod (i : Int) (m : Nat) : ∃ F : Nat, F ≤ m ∧ (i < 0 → F = 0) ∧ (¬ i < 0 → i % ((m : Int) + 1) = (F : Int)) := by
  by_cases h : i < 0
  · exact ⟨0, Nat.zero_le _, fun _ => rfl, fun h' => absurd h h'⟩
  · have h1 := Int.emod_nonneg i (b := (m : Int) + 1) (by omega)
    have h2 := Int.emod_lt_of_pos i (b := (m : Int) + 1) (by omega)
    exact ⟨(i % ((m : Int) + 1)).toNat, by omega, fun h' => absurd h' h, fun _ => by omega⟩

/-- Of, of samples whose times rise. -/
theorem of_mk {A : Option Addr} {c n : Nat} {l : List Smp} (hl : l.length = n) (hf : Few l) (hs : Ris l) (w : World) (hr : RdS w A l) :
    Calls Try.prog 10 #[.slice A n c] w (RetAg .u16 (mk l) 0 w) := by
  subst hl
  have := of_any A c l w hr hf.1 hf.2
  rw [ofR_mk hf hs] at this
  exact this
theorem mk_ok {l : List Smp} (hf : Few l) (hs : Ris l) : (mk l).Ok := by
  have := (ofR_ok (l := l) hf.2).1
  rwa [ofR_mk hf hs] at this
/-- Join of neighbours. -/
theorem join_mk_any {a b : List Smp} (hf : Few (a ++ b)) (hr : Ris (a ++ b)) {x y z : Ag} (hx : mk a = x) (hy : mk b = y) (hz : mk (a ++ b) = z) (w : World) :
    Calls Try.prog 11 #[.agg #[.int .u64 x.n, .int .i64 x.ft, .int .u64 x.fv, .int .i64 x.lt, .int .u64 x.lv, .int .u64 x.mi, .int .u64 x.ma, .int .u64 x.hi, .int .u64 x.lo], .agg #[.int .u64 y.n, .int .i64 y.ft, .int .u64 y.fv, .int .i64 y.lt, .int .u64 y.lv, .int .u64 y.mi, .int .u64 y.ma, .int .u64 y.hi, .int .u64 y.lo]] w (RetAg .u16 z 0 w) := by
  subst hx hy hz
  have := join_any (mk a) (mk b) w (mk_ok hf.left hr.left) (mk_ok hf.right hr.right)
  rw [(join_mk hf hr).1, (join_mk hf hr).2] at this
  exact this

/-- A part of a row. -/
theorem RdS.part {w : World} {A : Option Addr} {L : List Smp} (h : RdS w A L) (p t : Nat) {v : Option Addr} (hv : ∀ g o, A = some ⟨g, o, none⟩ → p < L.length → v = some ⟨g, o + p * 2, none⟩) : RdS w v ((L.drop p).take t) := by
  by_cases hp : p < L.length
  · rcases h with rfl | ⟨g, o, hA, hg, hc⟩
    · simp at hp
    · refine .inr ⟨g, o + p * 2, hv g o hA hp, hg, fun i x hi => ?_⟩
      rw [List.getElem?_take] at hi
      split at hi
      · rw [List.getElem?_drop] at hi
        have := hc (p + i) x hi
        rw [show o + p * 2 + i * 2 = o + (p + i) * 2 from by omega]
        exact this
      · cases hi
  · left
    rw [List.drop_eq_nil_of_le (by omega), List.take_nil]

set_option maxRecDepth 100000 in
set_option maxHeartbeats 4000000 in
theorem walk_AggParts (w : World) (A : Option Addr) (c : Nat) (l : List Smp) (hr : RdS w A l) (hf : ∀ s ∈ l, SmpOk s) (hm : l.length ≤ maxLen) (i : Int) (hi : -9223372036854775808 ≤ i ∧ i ≤ 9223372036854775807) (k : Int) (hk : -9223372036854775808 ≤ k ∧ k ≤ 9223372036854775807) :
    Calls Try.prog 3 #[.slice A l.length c, .int .i64 i, .int .i64 k] w fun e w' => e = .returned (.bool true) ∧ Below w.heap.size w w' := by
  by_cases hbig : (60 : Int) < (l.length : Int)
  · have hd' : decide (60 < l.length) = true := by simp; omega
    clear hm hf hr
    go_enter Try.func3, Try.ntmps3
    go_wp2_with fail
    refine (known_any _).mono ?_
    rintro e w1 ⟨rfl, hb1⟩
    go_wp2_with fail
    go_ret
    exact ⟨rfl, hb1⟩
  have hd' : decide (60 < l.length) = false := by simp; omega
  have hl60 : l.length ≤ 60 := by omega
  obtain ⟨L, hL⟩ : ∃ L, rise l = L := ⟨_, rfl⟩
  obtain ⟨m, hml⟩ : ∃ m, L.length = m := ⟨_, rfl⟩
  have hall := rise_all l
  rw [hL] at hall
  have hm60 : m ≤ 60 := by have := hall.2.1; omega
  have hm60' : (m : Int) ≤ 60 := by omega
  have hFew : Few L := ⟨by omega, fun s hs => hf s (hall.2.2 s hs)⟩
  have hRis := hall.1
  have hRA := fun wx (h : RdS wx A l) => rising_any A c l wx h (by omega)
  rw [hL] at hRA
  obtain ⟨n, hn⟩ : ∃ n, l.length = n := ⟨_, rfl⟩
  rw [hn] at hd' hRA
  rw [hn]
  have HRA := Lib.hid hRA
  have HM := Lib.hid hml
  clear hf hm hbig hl60 hL hml hall hRA hn
  have hn' : n ≤ 60 := by simpa using hd'
  obtain ⟨F, hFm, hF0, hF1⟩ := pick_mod i m
  obtain ⟨R, hR⟩ : ∃ R : Nat, m - F = R := ⟨_, rfl⟩
  obtain ⟨G, hGm, hG0, hG1⟩ := pick_mod k R
  have hRi : (m : Int) - (F : Int) = (R : Int) := by omega
  have hFG : F + G ≤ m := by omega
  obtain ⟨E, hE⟩ : ∃ E, F + G = E := ⟨_, rfl⟩
  have HRi := Lib.hid hRi
  have HF0 := Lib.hid hF0
  have HF1 := Lib.hid hF1
  have HG0 := Lib.hid hG0
  have HG1 := Lib.hid hG1
  have HE := Lib.hid hE
  have hEI : (F : Int) + (G : Int) = (E : Int) := by omega
  have HEI := Lib.hid hEI
  have hEm : E ≤ m := by omega
  have hFE : F ≤ E := by omega
  have hm0 : ¬ ((m : Int) + 1 = 0) := by omega
  have hr0 : ¬ ((R : Int) + 1 = 0) := by omega
  have hRm : R ≤ m := by omega
  clear hRi hF0 hF1 hG0 hG1 hR hE hFG hEI
  obtain ⟨P1, hP1⟩ : ∃ P, L.take F = P := ⟨_, rfl⟩
  obtain ⟨P2, hP2⟩ : ∃ P, (L.drop F).take (E - F) = P := ⟨_, rfl⟩
  obtain ⟨P3, hP3⟩ : ∃ P, L.drop E = P := ⟨_, rfl⟩
  have hsum : (P1 ++ P2) ++ P3 = L := by
    rw [← hP1, ← hP2, ← hP3]
    rw [show L.drop E = (L.drop F).drop (E - F) from by rw [List.drop_drop, show F + (E - F) = E from by omega], List.append_assoc, List.take_append_drop, List.take_append_drop]
  have hl1 : P1.length = F := by rw [← hP1, List.length_take, HM.out]; omega
  have hl2 : P2.length = E - F := by rw [← hP2, List.length_take, List.length_drop, HM.out]; first | omega | done
  have hl3 : P3.length = m - E := by rw [← hP3, List.length_drop, HM.out]
  have hFew3 : Few ((P1 ++ P2) ++ P3) := by rw [hsum]; exact hFew
  have hRis3 : Ris ((P1 ++ P2) ++ P3) := by rw [hsum]; exact hRis
  have hFew4 : Few (P1 ++ (P2 ++ P3)) := by rw [← List.append_assoc]; exact hFew3
  have hRis4 : Ris (P1 ++ (P2 ++ P3)) := by rw [← List.append_assoc]; exact hRis3
  obtain ⟨a, ha⟩ : ∃ a, mk P1 = a := ⟨_, rfl⟩
  obtain ⟨b, hb⟩ : ∃ a, mk P2 = a := ⟨_, rfl⟩
  obtain ⟨d, hd⟩ : ∃ a, mk P3 = a := ⟨_, rfl⟩
  obtain ⟨ab, hab⟩ : ∃ a, mk (P1 ++ P2) = a := ⟨_, rfl⟩
  obtain ⟨bd, hbd⟩ : ∃ a, mk (P2 ++ P3) = a := ⟨_, rfl⟩
  obtain ⟨z, hz⟩ : ∃ a, mk ((P1 ++ P2) ++ P3) = a := ⟨_, rfl⟩
  have HO1 := Lib.hid (fun (A' : Option Addr) (c' : Nat) wx h => by have := of_mk (A := A') (c := c') hl1 hFew3.left.left hRis3.left.left wx h; rw [ha] at this; exact this)
  have HO2 := Lib.hid (fun (A' : Option Addr) (c' : Nat) wx h => by have := of_mk (A := A') (c := c') hl2 hFew3.left.right hRis3.left.right wx h; rw [hb] at this; exact this)
  have HO3 := Lib.hid (fun (A' : Option Addr) (c' : Nat) wx h => by have := of_mk (A := A') (c := c') hl3 hFew3.right hRis3.right wx h; rw [hd] at this; exact this)
  have HJ1 := Lib.hid (fun wx => join_mk_any hFew3.left hRis3.left ha hb hab wx)
  have HJ2 := Lib.hid (fun wx => join_mk_any hFew3 hRis3 hab hd hz wx)
  have HJ3 := Lib.hid (fun wx => join_mk_any hFew4.right hRis4.right hb hd hbd wx)
  have HJ4 := Lib.hid (fun wx => join_mk_any (z := z) hFew4 hRis4 ha hbd (by rw [← List.append_assoc]; exact hz) wx)
  have HP1 := Lib.hid hP1
  have HP2 := Lib.hid hP2
  have HP3 := Lib.hid hP3
  clear hP1 hP2 hP3 hsum hl1 hl2 hl3 hFew hRis hFew3 hRis3 hFew4 hRis4 ha hb hd hab hbd hz
  go_enter Try.func3, Try.ntmps3
  go_wp2_with fail
  refine (known_any _).mono ?_
  rintro e w1 ⟨rfl, hbw1⟩
  go_wp2_with fail
  refine (HRA.out _ (hr.below hbw1)).mono ?_
  rintro e w2 ⟨A2, c2, rfl, hcap, hown, hb2⟩
  rw [HM.out] at hcap ⊢
  have hbw2 := hbw1.trans (hb2.mono hbw1.size)
  have hR2 := RdS.of_own hown
  clear hown hb2 HRA
  go_upto_region 4 with fail
  go_cut [8] (fun s8 wx => wx = w2 ∧ s8 = .int .i64 (F : Int))
  case first =>
    by_cases hi0 : i < 0
    · have := HF0.out hi0
      subst this
      go_wp2_with fail
      go_meet
      exact ⟨rfl, rfl⟩
    · have hf := HF1.out (Int.not_lt.1 hi0)
      go_wp2_with fail
      go_meet
      exact ⟨rfl, rfl⟩
  case rest =>
    obtain ⟨rfl, rfl⟩ := hcut
    go_upto_region 5 with fail
    go_cut [9] (fun s9 wx => wx = wc ∧ s9 = .int .i64 (E : Int))
    case first =>
      have hmf := HRi.out
      by_cases hk0 : k < 0
      · have := HG0.out hk0
        subst this
        have hee : F = E := by have := HE.out; omega
        subst hee
        go_wp2_with fail
        go_meet
        exact ⟨rfl, rfl⟩
      · have hf := HG1.out (Int.not_lt.1 hk0)
        have hee := HEI.out
        go_wp2_with fail
        go_meet
        exact ⟨rfl, rfl⟩
    case rest =>
      obtain ⟨rfl, rfl⟩ := hcut
      go_wp2_with fail
      with_reducible refine (HO1.out A2 c2 _ (by have := hR2.part 0 F (v := A2) (fun g o h _ => by rw [h, Nat.zero_mul, Nat.add_zero]); rw [List.drop_zero, HP1.out] at this; exact this)).mono ?_
      rintro e w3 ⟨rfl, hb3⟩
      have hbw3 := hbw2.trans (hb3.mono hbw2.size)
      replace hR2 := hR2.below hb3
      clear hb3
      replace hR2 := hR2.alloc (.cells #[.int .u64 a.n, .int .i64 a.ft, .int .u64 a.fv, .int .i64 a.lt, .int .u64 a.lv, .int .u64 a.mi, .int .u64 a.ma, .int .u64 a.hi, .int .u64 a.lo] 29)
      have HTa := Lib.hid (agBlk (w := w3) (t := 29) (cs := #[.int .u64 a.n, .int .i64 a.ft, .int .u64 a.fv, .int .i64 a.lt, .int .u64 a.lv, .int .u64 a.mi, .int .u64 a.ma, .int .u64 a.hi, .int .u64 a.lo]))
      have hbwz3 : Below w.heap.size w _ := hbw3.alloc hbw3.size (.cells #[.int .u64 a.n, .int .i64 a.ft, .int .u64 a.fv, .int .i64 a.lt, .int .u64 a.lv, .int .u64 a.mi, .int .u64 a.ma, .int .u64 a.hi, .int .u64 a.lo] 29)
      by_cases hcF : c2 = F
      · have h1 : E = F := by omega
        have h2 : E = c2 := by omega
        clear hcF
        subst h1
        subst h2
        rw [Nat.sub_self] at HO2
        have e1 : m - E = 0 := by omega
        rw [e1] at HO3
        clear e1
        go_upto_region 7 with fail
        go_cut [12, 13] (fun sp se wx => ∃ gn, sp = .pointer (some ⟨gn, 0, none⟩) ∧ se = .int .u16 0 ∧ Hid (Blk wx gn 29 #[.int .u64 b.n, .int .i64 b.ft, .int .u64 b.fv, .int .i64 b.lt, .int .u64 b.lv, .int .u64 b.mi, .int .u64 b.ma, .int .u64 b.hi, .int .u64 b.lo]) ∧ Hid (Blk wx w3.heap.size 29 #[.int .u64 a.n, .int .i64 a.ft, .int .u64 a.fv, .int .i64 a.lt, .int .u64 a.lv, .int .u64 a.mi, .int .u64 a.ma, .int .u64 a.hi, .int .u64 a.lo]) ∧ RdS wx A2 L ∧ Below w.heap.size w wx)
        case first =>
          go_wp2_with fail
          all_goals
            with_reducible refine (HO2.out _ _ _ ?_).mono ?_
            · rw [← HP2.out]; exact hR2.part E (E - E) (fun g o h hp => by rw [HM.out] at hp; first | (exfalso; omega) | (rw [h]; simp [Addr.add]))
            rintro e w4 ⟨rfl, hb4⟩
            have hbx := hbwz3.trans (hb4.mono hbwz3.size)
            have hR3 := (hR2.below hb4).alloc (.cells #[.int .u64 b.n, .int .i64 b.ft, .int .u64 b.fv, .int .i64 b.lt, .int .u64 b.lv, .int .u64 b.mi, .int .u64 b.ma, .int .u64 b.hi, .int .u64 b.lo] 29)
            have HKa := Lib.hid ((HTa.out.below hb4 HTa.out.lt).alloc (.cells #[.int .u64 b.n, .int .i64 b.ft, .int .u64 b.fv, .int .i64 b.lt, .int .u64 b.lv, .int .u64 b.mi, .int .u64 b.ma, .int .u64 b.hi, .int .u64 b.lo] 29))
            have hby := hbx.alloc hbx.size (.cells #[.int .u64 b.n, .int .i64 b.ft, .int .u64 b.fv, .int .i64 b.lt, .int .u64 b.lv, .int .u64 b.mi, .int .u64 b.ma, .int .u64 b.hi, .int .u64 b.lo] 29)
            clear hb4
            go_wp2_with fail
            go_meet
            exact ⟨_, rfl, rfl, Lib.hid agBlk, HKa, hR3, hby⟩
        case rest =>
          obtain ⟨wk4, hwk⟩ : ∃ wk, wk = wc := ⟨_, rfl⟩
          subst hwk
          obtain ⟨gb, rfl, rfl, HTb, HTa, hR2, hbwk4⟩ := hcut
          go_upto_region 8 with fail
          go_cut [14, 15] (fun sp se wx => ∃ gn, sp = .pointer (some ⟨gn, 0, none⟩) ∧ se = .int .u16 0 ∧ Hid (Blk wx gn 29 #[.int .u64 d.n, .int .i64 d.ft, .int .u64 d.fv, .int .i64 d.lt, .int .u64 d.lv, .int .u64 d.mi, .int .u64 d.ma, .int .u64 d.hi, .int .u64 d.lo]) ∧ Hid (Blk wx w3.heap.size 29 #[.int .u64 a.n, .int .i64 a.ft, .int .u64 a.fv, .int .i64 a.lt, .int .u64 a.lv, .int .u64 a.mi, .int .u64 a.ma, .int .u64 a.hi, .int .u64 a.lo]) ∧ Hid (Blk wx gb 29 #[.int .u64 b.n, .int .i64 b.ft, .int .u64 b.fv, .int .i64 b.lt, .int .u64 b.lv, .int .u64 b.mi, .int .u64 b.ma, .int .u64 b.hi, .int .u64 b.lo]) ∧ RdS wx A2 L ∧ Below w.heap.size w wx)
          case first =>
            go_wp2_with fail
            all_goals
              with_reducible refine (HO3.out _ _ _ ?_).mono ?_
              · rw [← HP3.out, ← List.take_of_length_le (l := L.drop E) (i := m - E) (by rw [List.length_drop, HM.out]; exact Nat.le_refl _)]; exact hR2.part E (m - E) (fun g o h hp => by rw [HM.out] at hp; first | (exfalso; omega) | (rw [h]; simp [Addr.add]))
              rintro e w5 ⟨rfl, hb5⟩
              have hbx := hbwk4.trans (hb5.mono hbwk4.size)
              have hR3 := (hR2.below hb5).alloc (.cells #[.int .u64 d.n, .int .i64 d.ft, .int .u64 d.fv, .int .i64 d.lt, .int .u64 d.lv, .int .u64 d.mi, .int .u64 d.ma, .int .u64 d.hi, .int .u64 d.lo] 29)
              have HKa := Lib.hid ((HTa.out.below hb5 HTa.out.lt).alloc (.cells #[.int .u64 d.n, .int .i64 d.ft, .int .u64 d.fv, .int .i64 d.lt, .int .u64 d.lv, .int .u64 d.mi, .int .u64 d.ma, .int .u64 d.hi, .int .u64 d.lo] 29))
              have HKb := Lib.hid ((HTb.out.below hb5 HTb.out.lt).alloc (.cells #[.int .u64 d.n, .int .i64 d.ft, .int .u64 d.fv, .int .i64 d.lt, .int .u64 d.lv, .int .u64 d.mi, .int .u64 d.ma, .int .u64 d.hi, .int .u64 d.lo] 29))
              have hby := hbx.alloc hbx.size (.cells #[.int .u64 d.n, .int .i64 d.ft, .int .u64 d.fv, .int .i64 d.lt, .int .u64 d.lv, .int .u64 d.mi, .int .u64 d.ma, .int .u64 d.hi, .int .u64 d.lo] 29)
              clear hb5
              go_wp2_with fail
              go_meet
              exact ⟨_, rfl, rfl, Lib.hid agBlk, HKa, HKb, hR3, hby⟩
          case rest =>
            obtain ⟨wk5, hwk⟩ : ∃ wk, wk = wc := ⟨_, rfl⟩
            subst hwk
            obtain ⟨gd, rfl, rfl, HTd, HTa, HTb, hR2, hbwk5⟩ := hcut
            have c0a := HTa.out.cell 0
            have c1a := HTa.out.cell 1
            have c2a := HTa.out.cell 2
            have c3a := HTa.out.cell 3
            have c4a := HTa.out.cell 4
            have c5a := HTa.out.cell 5
            have c6a := HTa.out.cell 6
            have c7a := HTa.out.cell 7
            have c8a := HTa.out.cell 8
            have c0b := HTb.out.cell 0
            have c1b := HTb.out.cell 1
            have c2b := HTb.out.cell 2
            have c3b := HTb.out.cell 3
            have c4b := HTb.out.cell 4
            have c5b := HTb.out.cell 5
            have c6b := HTb.out.cell 6
            have c7b := HTb.out.cell 7
            have c8b := HTb.out.cell 8
            go_wp2_with fail
            with_reducible refine (HJ1.out _).mono ?_
            rintro e w6 ⟨rfl, hb6⟩
            clear c0a c1a c2a c3a c4a c5a c6a c7a c8a c0b c1b c2b c3b c4b c5b c6b c7b c8b
            have hbw6 := hbwk5.trans (hb6.mono hbwk5.size)
            replace HTa := Lib.hid (HTa.out.below hb6 HTa.out.lt)
            replace HTb := Lib.hid (HTb.out.below hb6 HTb.out.lt)
            replace HTd := Lib.hid (HTd.out.below hb6 HTd.out.lt)
            clear hb6
            replace HTa := Lib.hid (HTa.out.alloc (.cells #[.int .u64 ab.n, .int .i64 ab.ft, .int .u64 ab.fv, .int .i64 ab.lt, .int .u64 ab.lv, .int .u64 ab.mi, .int .u64 ab.ma, .int .u64 ab.hi, .int .u64 ab.lo] 29))
            replace HTb := Lib.hid (HTb.out.alloc (.cells #[.int .u64 ab.n, .int .i64 ab.ft, .int .u64 ab.fv, .int .i64 ab.lt, .int .u64 ab.lv, .int .u64 ab.mi, .int .u64 ab.ma, .int .u64 ab.hi, .int .u64 ab.lo] 29))
            replace HTd := Lib.hid (HTd.out.alloc (.cells #[.int .u64 ab.n, .int .i64 ab.ft, .int .u64 ab.fv, .int .i64 ab.lt, .int .u64 ab.lv, .int .u64 ab.mi, .int .u64 ab.ma, .int .u64 ab.hi, .int .u64 ab.lo] 29))
            have HTab := Lib.hid (agBlk (w := w6) (t := 29) (cs := #[.int .u64 ab.n, .int .i64 ab.ft, .int .u64 ab.fv, .int .i64 ab.lt, .int .u64 ab.lv, .int .u64 ab.mi, .int .u64 ab.ma, .int .u64 ab.hi, .int .u64 ab.lo]))
            have hbwz6 : Below w.heap.size w _ := hbw6.alloc hbw6.size (.cells #[.int .u64 ab.n, .int .i64 ab.ft, .int .u64 ab.fv, .int .i64 ab.lt, .int .u64 ab.lv, .int .u64 ab.mi, .int .u64 ab.ma, .int .u64 ab.hi, .int .u64 ab.lo] 29)
            have c0ab := HTab.out.cell 0
            have c1ab := HTab.out.cell 1
            have c2ab := HTab.out.cell 2
            have c3ab := HTab.out.cell 3
            have c4ab := HTab.out.cell 4
            have c5ab := HTab.out.cell 5
            have c6ab := HTab.out.cell 6
            have c7ab := HTab.out.cell 7
            have c8ab := HTab.out.cell 8
            have c0d := HTd.out.cell 0
            have c1d := HTd.out.cell 1
            have c2d := HTd.out.cell 2
            have c3d := HTd.out.cell 3
            have c4d := HTd.out.cell 4
            have c5d := HTd.out.cell 5
            have c6d := HTd.out.cell 6
            have c7d := HTd.out.cell 7
            have c8d := HTd.out.cell 8
            go_wp2_with fail
            with_reducible refine (HJ2.out _).mono ?_
            rintro e w7 ⟨rfl, hb7⟩
            clear c0ab c1ab c2ab c3ab c4ab c5ab c6ab c7ab c8ab c0d c1d c2d c3d c4d c5d c6d c7d c8d
            have hbw7 := hbwz6.trans (hb7.mono hbwz6.size)
            replace HTa := Lib.hid (HTa.out.below hb7 HTa.out.lt)
            replace HTb := Lib.hid (HTb.out.below hb7 HTb.out.lt)
            replace HTd := Lib.hid (HTd.out.below hb7 HTd.out.lt)
            replace HTab := Lib.hid (HTab.out.below hb7 HTab.out.lt)
            clear hb7
            replace HTa := Lib.hid (HTa.out.alloc (.cells #[.int .u64 z.n, .int .i64 z.ft, .int .u64 z.fv, .int .i64 z.lt, .int .u64 z.lv, .int .u64 z.mi, .int .u64 z.ma, .int .u64 z.hi, .int .u64 z.lo] 29))
            replace HTb := Lib.hid (HTb.out.alloc (.cells #[.int .u64 z.n, .int .i64 z.ft, .int .u64 z.fv, .int .i64 z.lt, .int .u64 z.lv, .int .u64 z.mi, .int .u64 z.ma, .int .u64 z.hi, .int .u64 z.lo] 29))
            replace HTd := Lib.hid (HTd.out.alloc (.cells #[.int .u64 z.n, .int .i64 z.ft, .int .u64 z.fv, .int .i64 z.lt, .int .u64 z.lv, .int .u64 z.mi, .int .u64 z.ma, .int .u64 z.hi, .int .u64 z.lo] 29))
            replace HTab := Lib.hid (HTab.out.alloc (.cells #[.int .u64 z.n, .int .i64 z.ft, .int .u64 z.fv, .int .i64 z.lt, .int .u64 z.lv, .int .u64 z.mi, .int .u64 z.ma, .int .u64 z.hi, .int .u64 z.lo] 29))
            have HTy := Lib.hid (agBlk (w := w7) (t := 29) (cs := #[.int .u64 z.n, .int .i64 z.ft, .int .u64 z.fv, .int .i64 z.lt, .int .u64 z.lv, .int .u64 z.mi, .int .u64 z.ma, .int .u64 z.hi, .int .u64 z.lo]))
            have hbwz7 : Below w.heap.size w _ := hbw7.alloc hbw7.size (.cells #[.int .u64 z.n, .int .i64 z.ft, .int .u64 z.fv, .int .i64 z.lt, .int .u64 z.lv, .int .u64 z.mi, .int .u64 z.ma, .int .u64 z.hi, .int .u64 z.lo] 29)
            have c0b := HTb.out.cell 0
            have c1b := HTb.out.cell 1
            have c2b := HTb.out.cell 2
            have c3b := HTb.out.cell 3
            have c4b := HTb.out.cell 4
            have c5b := HTb.out.cell 5
            have c6b := HTb.out.cell 6
            have c7b := HTb.out.cell 7
            have c8b := HTb.out.cell 8
            have c0d := HTd.out.cell 0
            have c1d := HTd.out.cell 1
            have c2d := HTd.out.cell 2
            have c3d := HTd.out.cell 3
            have c4d := HTd.out.cell 4
            have c5d := HTd.out.cell 5
            have c6d := HTd.out.cell 6
            have c7d := HTd.out.cell 7
            have c8d := HTd.out.cell 8
            go_wp2_with fail
            with_reducible refine (HJ3.out _).mono ?_
            rintro e w8 ⟨rfl, hb8⟩
            clear c0b c1b c2b c3b c4b c5b c6b c7b c8b c0d c1d c2d c3d c4d c5d c6d c7d c8d
            have hbw8 := hbwz7.trans (hb8.mono hbwz7.size)
            replace HTa := Lib.hid (HTa.out.below hb8 HTa.out.lt)
            replace HTb := Lib.hid (HTb.out.below hb8 HTb.out.lt)
            replace HTd := Lib.hid (HTd.out.below hb8 HTd.out.lt)
            replace HTab := Lib.hid (HTab.out.below hb8 HTab.out.lt)
            replace HTy := Lib.hid (HTy.out.below hb8 HTy.out.lt)
            clear hb8
            replace HTa := Lib.hid (HTa.out.alloc (.cells #[.int .u64 bd.n, .int .i64 bd.ft, .int .u64 bd.fv, .int .i64 bd.lt, .int .u64 bd.lv, .int .u64 bd.mi, .int .u64 bd.ma, .int .u64 bd.hi, .int .u64 bd.lo] 29))
            replace HTb := Lib.hid (HTb.out.alloc (.cells #[.int .u64 bd.n, .int .i64 bd.ft, .int .u64 bd.fv, .int .i64 bd.lt, .int .u64 bd.lv, .int .u64 bd.mi, .int .u64 bd.ma, .int .u64 bd.hi, .int .u64 bd.lo] 29))
            replace HTd := Lib.hid (HTd.out.alloc (.cells #[.int .u64 bd.n, .int .i64 bd.ft, .int .u64 bd.fv, .int .i64 bd.lt, .int .u64 bd.lv, .int .u64 bd.mi, .int .u64 bd.ma, .int .u64 bd.hi, .int .u64 bd.lo] 29))
            replace HTab := Lib.hid (HTab.out.alloc (.cells #[.int .u64 bd.n, .int .i64 bd.ft, .int .u64 bd.fv, .int .i64 bd.lt, .int .u64 bd.lv, .int .u64 bd.mi, .int .u64 bd.ma, .int .u64 bd.hi, .int .u64 bd.lo] 29))
            replace HTy := Lib.hid (HTy.out.alloc (.cells #[.int .u64 bd.n, .int .i64 bd.ft, .int .u64 bd.fv, .int .i64 bd.lt, .int .u64 bd.lv, .int .u64 bd.mi, .int .u64 bd.ma, .int .u64 bd.hi, .int .u64 bd.lo] 29))
            have HTbd := Lib.hid (agBlk (w := w8) (t := 29) (cs := #[.int .u64 bd.n, .int .i64 bd.ft, .int .u64 bd.fv, .int .i64 bd.lt, .int .u64 bd.lv, .int .u64 bd.mi, .int .u64 bd.ma, .int .u64 bd.hi, .int .u64 bd.lo]))
            have hbwz8 : Below w.heap.size w _ := hbw8.alloc hbw8.size (.cells #[.int .u64 bd.n, .int .i64 bd.ft, .int .u64 bd.fv, .int .i64 bd.lt, .int .u64 bd.lv, .int .u64 bd.mi, .int .u64 bd.ma, .int .u64 bd.hi, .int .u64 bd.lo] 29)
            have c0a := HTa.out.cell 0
            have c1a := HTa.out.cell 1
            have c2a := HTa.out.cell 2
            have c3a := HTa.out.cell 3
            have c4a := HTa.out.cell 4
            have c5a := HTa.out.cell 5
            have c6a := HTa.out.cell 6
            have c7a := HTa.out.cell 7
            have c8a := HTa.out.cell 8
            have c0bd := HTbd.out.cell 0
            have c1bd := HTbd.out.cell 1
            have c2bd := HTbd.out.cell 2
            have c3bd := HTbd.out.cell 3
            have c4bd := HTbd.out.cell 4
            have c5bd := HTbd.out.cell 5
            have c6bd := HTbd.out.cell 6
            have c7bd := HTbd.out.cell 7
            have c8bd := HTbd.out.cell 8
            go_wp2_with fail
            with_reducible refine (HJ4.out _).mono ?_
            rintro e w9 ⟨rfl, hb9⟩
            clear c0a c1a c2a c3a c4a c5a c6a c7a c8a c0bd c1bd c2bd c3bd c4bd c5bd c6bd c7bd c8bd
            have hbw9 := hbwz8.trans (hb9.mono hbwz8.size)
            replace HTa := Lib.hid (HTa.out.below hb9 HTa.out.lt)
            replace HTb := Lib.hid (HTb.out.below hb9 HTb.out.lt)
            replace HTd := Lib.hid (HTd.out.below hb9 HTd.out.lt)
            replace HTab := Lib.hid (HTab.out.below hb9 HTab.out.lt)
            replace HTy := Lib.hid (HTy.out.below hb9 HTy.out.lt)
            replace HTbd := Lib.hid (HTbd.out.below hb9 HTbd.out.lt)
            clear hb9
            replace HTa := Lib.hid (HTa.out.alloc (.cells #[.int .u64 z.n, .int .i64 z.ft, .int .u64 z.fv, .int .i64 z.lt, .int .u64 z.lv, .int .u64 z.mi, .int .u64 z.ma, .int .u64 z.hi, .int .u64 z.lo] 29))
            replace HTb := Lib.hid (HTb.out.alloc (.cells #[.int .u64 z.n, .int .i64 z.ft, .int .u64 z.fv, .int .i64 z.lt, .int .u64 z.lv, .int .u64 z.mi, .int .u64 z.ma, .int .u64 z.hi, .int .u64 z.lo] 29))
            replace HTd := Lib.hid (HTd.out.alloc (.cells #[.int .u64 z.n, .int .i64 z.ft, .int .u64 z.fv, .int .i64 z.lt, .int .u64 z.lv, .int .u64 z.mi, .int .u64 z.ma, .int .u64 z.hi, .int .u64 z.lo] 29))
            replace HTab := Lib.hid (HTab.out.alloc (.cells #[.int .u64 z.n, .int .i64 z.ft, .int .u64 z.fv, .int .i64 z.lt, .int .u64 z.lv, .int .u64 z.mi, .int .u64 z.ma, .int .u64 z.hi, .int .u64 z.lo] 29))
            replace HTy := Lib.hid (HTy.out.alloc (.cells #[.int .u64 z.n, .int .i64 z.ft, .int .u64 z.fv, .int .i64 z.lt, .int .u64 z.lv, .int .u64 z.mi, .int .u64 z.ma, .int .u64 z.hi, .int .u64 z.lo] 29))
            replace HTbd := Lib.hid (HTbd.out.alloc (.cells #[.int .u64 z.n, .int .i64 z.ft, .int .u64 z.fv, .int .i64 z.lt, .int .u64 z.lv, .int .u64 z.mi, .int .u64 z.ma, .int .u64 z.hi, .int .u64 z.lo] 29))
            have HTw := Lib.hid (agBlk (w := w9) (t := 29) (cs := #[.int .u64 z.n, .int .i64 z.ft, .int .u64 z.fv, .int .i64 z.lt, .int .u64 z.lv, .int .u64 z.mi, .int .u64 z.ma, .int .u64 z.hi, .int .u64 z.lo]))
            have hbwz9 : Below w.heap.size w _ := hbw9.alloc hbw9.size (.cells #[.int .u64 z.n, .int .i64 z.ft, .int .u64 z.fv, .int .i64 z.lt, .int .u64 z.lv, .int .u64 z.mi, .int .u64 z.ma, .int .u64 z.hi, .int .u64 z.lo] 29)
            have c0y := HTy.out.cell 0
            have c1y := HTy.out.cell 1
            have c2y := HTy.out.cell 2
            have c3y := HTy.out.cell 3
            have c4y := HTy.out.cell 4
            have c5y := HTy.out.cell 5
            have c6y := HTy.out.cell 6
            have c7y := HTy.out.cell 7
            have c8y := HTy.out.cell 8
            have c0w := HTw.out.cell 0
            have c1w := HTw.out.cell 1
            have c2w := HTw.out.cell 2
            have c3w := HTw.out.cell 3
            have c4w := HTw.out.cell 4
            have c5w := HTw.out.cell 5
            have c6w := HTw.out.cell 6
            have c7w := HTw.out.cell 7
            have c8w := HTw.out.cell 8
            go_wp2_with fail
            go_ret
            exact ⟨rfl, hbwz9⟩
      by_cases hcE : c2 = E
      · have h2 : E = c2 := by omega
        clear hcE
        subst h2
        have e1 : m - E = 0 := by omega
        rw [e1] at HO3
        clear e1
        go_upto_region 7 with fail
        go_cut [12, 13] (fun sp se wx => ∃ gn, sp = .pointer (some ⟨gn, 0, none⟩) ∧ se = .int .u16 0 ∧ Hid (Blk wx gn 29 #[.int .u64 b.n, .int .i64 b.ft, .int .u64 b.fv, .int .i64 b.lt, .int .u64 b.lv, .int .u64 b.mi, .int .u64 b.ma, .int .u64 b.hi, .int .u64 b.lo]) ∧ Hid (Blk wx w3.heap.size 29 #[.int .u64 a.n, .int .i64 a.ft, .int .u64 a.fv, .int .i64 a.lt, .int .u64 a.lv, .int .u64 a.mi, .int .u64 a.ma, .int .u64 a.hi, .int .u64 a.lo]) ∧ RdS wx A2 L ∧ Below w.heap.size w wx)
        case first =>
          go_wp2_with fail
          all_goals
            with_reducible refine (HO2.out _ _ _ ?_).mono ?_
            · rw [← HP2.out]; exact hR2.part F (E - F) (fun g o h hp => by rw [HM.out] at hp; first | (exfalso; omega) | (rw [h]; simp [Addr.add]))
            rintro e w4 ⟨rfl, hb4⟩
            have hbx := hbwz3.trans (hb4.mono hbwz3.size)
            have hR3 := (hR2.below hb4).alloc (.cells #[.int .u64 b.n, .int .i64 b.ft, .int .u64 b.fv, .int .i64 b.lt, .int .u64 b.lv, .int .u64 b.mi, .int .u64 b.ma, .int .u64 b.hi, .int .u64 b.lo] 29)
            have HKa := Lib.hid ((HTa.out.below hb4 HTa.out.lt).alloc (.cells #[.int .u64 b.n, .int .i64 b.ft, .int .u64 b.fv, .int .i64 b.lt, .int .u64 b.lv, .int .u64 b.mi, .int .u64 b.ma, .int .u64 b.hi, .int .u64 b.lo] 29))
            have hby := hbx.alloc hbx.size (.cells #[.int .u64 b.n, .int .i64 b.ft, .int .u64 b.fv, .int .i64 b.lt, .int .u64 b.lv, .int .u64 b.mi, .int .u64 b.ma, .int .u64 b.hi, .int .u64 b.lo] 29)
            clear hb4
            go_wp2_with fail
            go_meet
            exact ⟨_, rfl, rfl, Lib.hid agBlk, HKa, hR3, hby⟩
        case rest =>
          obtain ⟨wk4, hwk⟩ : ∃ wk, wk = wc := ⟨_, rfl⟩
          subst hwk
          obtain ⟨gb, rfl, rfl, HTb, HTa, hR2, hbwk4⟩ := hcut
          go_upto_region 8 with fail
          go_cut [14, 15] (fun sp se wx => ∃ gn, sp = .pointer (some ⟨gn, 0, none⟩) ∧ se = .int .u16 0 ∧ Hid (Blk wx gn 29 #[.int .u64 d.n, .int .i64 d.ft, .int .u64 d.fv, .int .i64 d.lt, .int .u64 d.lv, .int .u64 d.mi, .int .u64 d.ma, .int .u64 d.hi, .int .u64 d.lo]) ∧ Hid (Blk wx w3.heap.size 29 #[.int .u64 a.n, .int .i64 a.ft, .int .u64 a.fv, .int .i64 a.lt, .int .u64 a.lv, .int .u64 a.mi, .int .u64 a.ma, .int .u64 a.hi, .int .u64 a.lo]) ∧ Hid (Blk wx gb 29 #[.int .u64 b.n, .int .i64 b.ft, .int .u64 b.fv, .int .i64 b.lt, .int .u64 b.lv, .int .u64 b.mi, .int .u64 b.ma, .int .u64 b.hi, .int .u64 b.lo]) ∧ RdS wx A2 L ∧ Below w.heap.size w wx)
          case first =>
            go_wp2_with fail
            all_goals
              with_reducible refine (HO3.out _ _ _ ?_).mono ?_
              · rw [← HP3.out, ← List.take_of_length_le (l := L.drop E) (i := m - E) (by rw [List.length_drop, HM.out]; exact Nat.le_refl _)]; exact hR2.part E (m - E) (fun g o h hp => by rw [HM.out] at hp; first | (exfalso; omega) | (rw [h]; simp [Addr.add]))
              rintro e w5 ⟨rfl, hb5⟩
              have hbx := hbwk4.trans (hb5.mono hbwk4.size)
              have hR3 := (hR2.below hb5).alloc (.cells #[.int .u64 d.n, .int .i64 d.ft, .int .u64 d.fv, .int .i64 d.lt, .int .u64 d.lv, .int .u64 d.mi, .int .u64 d.ma, .int .u64 d.hi, .int .u64 d.lo] 29)
              have HKa := Lib.hid ((HTa.out.below hb5 HTa.out.lt).alloc (.cells #[.int .u64 d.n, .int .i64 d.ft, .int .u64 d.fv, .int .i64 d.lt, .int .u64 d.lv, .int .u64 d.mi, .int .u64 d.ma, .int .u64 d.hi, .int .u64 d.lo] 29))
              have HKb := Lib.hid ((HTb.out.below hb5 HTb.out.lt).alloc (.cells #[.int .u64 d.n, .int .i64 d.ft, .int .u64 d.fv, .int .i64 d.lt, .int .u64 d.lv, .int .u64 d.mi, .int .u64 d.ma, .int .u64 d.hi, .int .u64 d.lo] 29))
              have hby := hbx.alloc hbx.size (.cells #[.int .u64 d.n, .int .i64 d.ft, .int .u64 d.fv, .int .i64 d.lt, .int .u64 d.lv, .int .u64 d.mi, .int .u64 d.ma, .int .u64 d.hi, .int .u64 d.lo] 29)
              clear hb5
              go_wp2_with fail
              go_meet
              exact ⟨_, rfl, rfl, Lib.hid agBlk, HKa, HKb, hR3, hby⟩
          case rest =>
            obtain ⟨wk5, hwk⟩ : ∃ wk, wk = wc := ⟨_, rfl⟩
            subst hwk
            obtain ⟨gd, rfl, rfl, HTd, HTa, HTb, hR2, hbwk5⟩ := hcut
            have c0a := HTa.out.cell 0
            have c1a := HTa.out.cell 1
            have c2a := HTa.out.cell 2
            have c3a := HTa.out.cell 3
            have c4a := HTa.out.cell 4
            have c5a := HTa.out.cell 5
            have c6a := HTa.out.cell 6
            have c7a := HTa.out.cell 7
            have c8a := HTa.out.cell 8
            have c0b := HTb.out.cell 0
            have c1b := HTb.out.cell 1
            have c2b := HTb.out.cell 2
            have c3b := HTb.out.cell 3
            have c4b := HTb.out.cell 4
            have c5b := HTb.out.cell 5
            have c6b := HTb.out.cell 6
            have c7b := HTb.out.cell 7
            have c8b := HTb.out.cell 8
            go_wp2_with fail
            with_reducible refine (HJ1.out _).mono ?_
            rintro e w6 ⟨rfl, hb6⟩
            clear c0a c1a c2a c3a c4a c5a c6a c7a c8a c0b c1b c2b c3b c4b c5b c6b c7b c8b
            have hbw6 := hbwk5.trans (hb6.mono hbwk5.size)
            replace HTa := Lib.hid (HTa.out.below hb6 HTa.out.lt)
            replace HTb := Lib.hid (HTb.out.below hb6 HTb.out.lt)
            replace HTd := Lib.hid (HTd.out.below hb6 HTd.out.lt)
            clear hb6
            replace HTa := Lib.hid (HTa.out.alloc (.cells #[.int .u64 ab.n, .int .i64 ab.ft, .int .u64 ab.fv, .int .i64 ab.lt, .int .u64 ab.lv, .int .u64 ab.mi, .int .u64 ab.ma, .int .u64 ab.hi, .int .u64 ab.lo] 29))
            replace HTb := Lib.hid (HTb.out.alloc (.cells #[.int .u64 ab.n, .int .i64 ab.ft, .int .u64 ab.fv, .int .i64 ab.lt, .int .u64 ab.lv, .int .u64 ab.mi, .int .u64 ab.ma, .int .u64 ab.hi, .int .u64 ab.lo] 29))
            replace HTd := Lib.hid (HTd.out.alloc (.cells #[.int .u64 ab.n, .int .i64 ab.ft, .int .u64 ab.fv, .int .i64 ab.lt, .int .u64 ab.lv, .int .u64 ab.mi, .int .u64 ab.ma, .int .u64 ab.hi, .int .u64 ab.lo] 29))
            have HTab := Lib.hid (agBlk (w := w6) (t := 29) (cs := #[.int .u64 ab.n, .int .i64 ab.ft, .int .u64 ab.fv, .int .i64 ab.lt, .int .u64 ab.lv, .int .u64 ab.mi, .int .u64 ab.ma, .int .u64 ab.hi, .int .u64 ab.lo]))
            have hbwz6 : Below w.heap.size w _ := hbw6.alloc hbw6.size (.cells #[.int .u64 ab.n, .int .i64 ab.ft, .int .u64 ab.fv, .int .i64 ab.lt, .int .u64 ab.lv, .int .u64 ab.mi, .int .u64 ab.ma, .int .u64 ab.hi, .int .u64 ab.lo] 29)
            have c0ab := HTab.out.cell 0
            have c1ab := HTab.out.cell 1
            have c2ab := HTab.out.cell 2
            have c3ab := HTab.out.cell 3
            have c4ab := HTab.out.cell 4
            have c5ab := HTab.out.cell 5
            have c6ab := HTab.out.cell 6
            have c7ab := HTab.out.cell 7
            have c8ab := HTab.out.cell 8
            have c0d := HTd.out.cell 0
            have c1d := HTd.out.cell 1
            have c2d := HTd.out.cell 2
            have c3d := HTd.out.cell 3
            have c4d := HTd.out.cell 4
            have c5d := HTd.out.cell 5
            have c6d := HTd.out.cell 6
            have c7d := HTd.out.cell 7
            have c8d := HTd.out.cell 8
            go_wp2_with fail
            with_reducible refine (HJ2.out _).mono ?_
            rintro e w7 ⟨rfl, hb7⟩
            clear c0ab c1ab c2ab c3ab c4ab c5ab c6ab c7ab c8ab c0d c1d c2d c3d c4d c5d c6d c7d c8d
            have hbw7 := hbwz6.trans (hb7.mono hbwz6.size)
            replace HTa := Lib.hid (HTa.out.below hb7 HTa.out.lt)
            replace HTb := Lib.hid (HTb.out.below hb7 HTb.out.lt)
            replace HTd := Lib.hid (HTd.out.below hb7 HTd.out.lt)
            replace HTab := Lib.hid (HTab.out.below hb7 HTab.out.lt)
            clear hb7
            replace HTa := Lib.hid (HTa.out.alloc (.cells #[.int .u64 z.n, .int .i64 z.ft, .int .u64 z.fv, .int .i64 z.lt, .int .u64 z.lv, .int .u64 z.mi, .int .u64 z.ma, .int .u64 z.hi, .int .u64 z.lo] 29))
            replace HTb := Lib.hid (HTb.out.alloc (.cells #[.int .u64 z.n, .int .i64 z.ft, .int .u64 z.fv, .int .i64 z.lt, .int .u64 z.lv, .int .u64 z.mi, .int .u64 z.ma, .int .u64 z.hi, .int .u64 z.lo] 29))
            replace HTd := Lib.hid (HTd.out.alloc (.cells #[.int .u64 z.n, .int .i64 z.ft, .int .u64 z.fv, .int .i64 z.lt, .int .u64 z.lv, .int .u64 z.mi, .int .u64 z.ma, .int .u64 z.hi, .int .u64 z.lo] 29))
            replace HTab := Lib.hid (HTab.out.alloc (.cells #[.int .u64 z.n, .int .i64 z.ft, .int .u64 z.fv, .int .i64 z.lt, .int .u64 z.lv, .int .u64 z.mi, .int .u64 z.ma, .int .u64 z.hi, .int .u64 z.lo] 29))
            have HTy := Lib.hid (agBlk (w := w7) (t := 29) (cs := #[.int .u64 z.n, .int .i64 z.ft, .int .u64 z.fv, .int .i64 z.lt, .int .u64 z.lv, .int .u64 z.mi, .int .u64 z.ma, .int .u64 z.hi, .int .u64 z.lo]))
            have hbwz7 : Below w.heap.size w _ := hbw7.alloc hbw7.size (.cells #[.int .u64 z.n, .int .i64 z.ft, .int .u64 z.fv, .int .i64 z.lt, .int .u64 z.lv, .int .u64 z.mi, .int .u64 z.ma, .int .u64 z.hi, .int .u64 z.lo] 29)
            have c0b := HTb.out.cell 0
            have c1b := HTb.out.cell 1
            have c2b := HTb.out.cell 2
            have c3b := HTb.out.cell 3
            have c4b := HTb.out.cell 4
            have c5b := HTb.out.cell 5
            have c6b := HTb.out.cell 6
            have c7b := HTb.out.cell 7
            have c8b := HTb.out.cell 8
            have c0d := HTd.out.cell 0
            have c1d := HTd.out.cell 1
            have c2d := HTd.out.cell 2
            have c3d := HTd.out.cell 3
            have c4d := HTd.out.cell 4
            have c5d := HTd.out.cell 5
            have c6d := HTd.out.cell 6
            have c7d := HTd.out.cell 7
            have c8d := HTd.out.cell 8
            go_wp2_with fail
            with_reducible refine (HJ3.out _).mono ?_
            rintro e w8 ⟨rfl, hb8⟩
            clear c0b c1b c2b c3b c4b c5b c6b c7b c8b c0d c1d c2d c3d c4d c5d c6d c7d c8d
            have hbw8 := hbwz7.trans (hb8.mono hbwz7.size)
            replace HTa := Lib.hid (HTa.out.below hb8 HTa.out.lt)
            replace HTb := Lib.hid (HTb.out.below hb8 HTb.out.lt)
            replace HTd := Lib.hid (HTd.out.below hb8 HTd.out.lt)
            replace HTab := Lib.hid (HTab.out.below hb8 HTab.out.lt)
            replace HTy := Lib.hid (HTy.out.below hb8 HTy.out.lt)
            clear hb8
            replace HTa := Lib.hid (HTa.out.alloc (.cells #[.int .u64 bd.n, .int .i64 bd.ft, .int .u64 bd.fv, .int .i64 bd.lt, .int .u64 bd.lv, .int .u64 bd.mi, .int .u64 bd.ma, .int .u64 bd.hi, .int .u64 bd.lo] 29))
            replace HTb := Lib.hid (HTb.out.alloc (.cells #[.int .u64 bd.n, .int .i64 bd.ft, .int .u64 bd.fv, .int .i64 bd.lt, .int .u64 bd.lv, .int .u64 bd.mi, .int .u64 bd.ma, .int .u64 bd.hi, .int .u64 bd.lo] 29))
            replace HTd := Lib.hid (HTd.out.alloc (.cells #[.int .u64 bd.n, .int .i64 bd.ft, .int .u64 bd.fv, .int .i64 bd.lt, .int .u64 bd.lv, .int .u64 bd.mi, .int .u64 bd.ma, .int .u64 bd.hi, .int .u64 bd.lo] 29))
            replace HTab := Lib.hid (HTab.out.alloc (.cells #[.int .u64 bd.n, .int .i64 bd.ft, .int .u64 bd.fv, .int .i64 bd.lt, .int .u64 bd.lv, .int .u64 bd.mi, .int .u64 bd.ma, .int .u64 bd.hi, .int .u64 bd.lo] 29))
            replace HTy := Lib.hid (HTy.out.alloc (.cells #[.int .u64 bd.n, .int .i64 bd.ft, .int .u64 bd.fv, .int .i64 bd.lt, .int .u64 bd.lv, .int .u64 bd.mi, .int .u64 bd.ma, .int .u64 bd.hi, .int .u64 bd.lo] 29))
            have HTbd := Lib.hid (agBlk (w := w8) (t := 29) (cs := #[.int .u64 bd.n, .int .i64 bd.ft, .int .u64 bd.fv, .int .i64 bd.lt, .int .u64 bd.lv, .int .u64 bd.mi, .int .u64 bd.ma, .int .u64 bd.hi, .int .u64 bd.lo]))
            have hbwz8 : Below w.heap.size w _ := hbw8.alloc hbw8.size (.cells #[.int .u64 bd.n, .int .i64 bd.ft, .int .u64 bd.fv, .int .i64 bd.lt, .int .u64 bd.lv, .int .u64 bd.mi, .int .u64 bd.ma, .int .u64 bd.hi, .int .u64 bd.lo] 29)
            have c0a := HTa.out.cell 0
            have c1a := HTa.out.cell 1
            have c2a := HTa.out.cell 2
            have c3a := HTa.out.cell 3
            have c4a := HTa.out.cell 4
            have c5a := HTa.out.cell 5
            have c6a := HTa.out.cell 6
            have c7a := HTa.out.cell 7
            have c8a := HTa.out.cell 8
            have c0bd := HTbd.out.cell 0
            have c1bd := HTbd.out.cell 1
            have c2bd := HTbd.out.cell 2
            have c3bd := HTbd.out.cell 3
            have c4bd := HTbd.out.cell 4
            have c5bd := HTbd.out.cell 5
            have c6bd := HTbd.out.cell 6
            have c7bd := HTbd.out.cell 7
            have c8bd := HTbd.out.cell 8
            go_wp2_with fail
            with_reducible refine (HJ4.out _).mono ?_
            rintro e w9 ⟨rfl, hb9⟩
            clear c0a c1a c2a c3a c4a c5a c6a c7a c8a c0bd c1bd c2bd c3bd c4bd c5bd c6bd c7bd c8bd
            have hbw9 := hbwz8.trans (hb9.mono hbwz8.size)
            replace HTa := Lib.hid (HTa.out.below hb9 HTa.out.lt)
            replace HTb := Lib.hid (HTb.out.below hb9 HTb.out.lt)
            replace HTd := Lib.hid (HTd.out.below hb9 HTd.out.lt)
            replace HTab := Lib.hid (HTab.out.below hb9 HTab.out.lt)
            replace HTy := Lib.hid (HTy.out.below hb9 HTy.out.lt)
            replace HTbd := Lib.hid (HTbd.out.below hb9 HTbd.out.lt)
            clear hb9
            replace HTa := Lib.hid (HTa.out.alloc (.cells #[.int .u64 z.n, .int .i64 z.ft, .int .u64 z.fv, .int .i64 z.lt, .int .u64 z.lv, .int .u64 z.mi, .int .u64 z.ma, .int .u64 z.hi, .int .u64 z.lo] 29))
            replace HTb := Lib.hid (HTb.out.alloc (.cells #[.int .u64 z.n, .int .i64 z.ft, .int .u64 z.fv, .int .i64 z.lt, .int .u64 z.lv, .int .u64 z.mi, .int .u64 z.ma, .int .u64 z.hi, .int .u64 z.lo] 29))
            replace HTd := Lib.hid (HTd.out.alloc (.cells #[.int .u64 z.n, .int .i64 z.ft, .int .u64 z.fv, .int .i64 z.lt, .int .u64 z.lv, .int .u64 z.mi, .int .u64 z.ma, .int .u64 z.hi, .int .u64 z.lo] 29))
            replace HTab := Lib.hid (HTab.out.alloc (.cells #[.int .u64 z.n, .int .i64 z.ft, .int .u64 z.fv, .int .i64 z.lt, .int .u64 z.lv, .int .u64 z.mi, .int .u64 z.ma, .int .u64 z.hi, .int .u64 z.lo] 29))
            replace HTy := Lib.hid (HTy.out.alloc (.cells #[.int .u64 z.n, .int .i64 z.ft, .int .u64 z.fv, .int .i64 z.lt, .int .u64 z.lv, .int .u64 z.mi, .int .u64 z.ma, .int .u64 z.hi, .int .u64 z.lo] 29))
            replace HTbd := Lib.hid (HTbd.out.alloc (.cells #[.int .u64 z.n, .int .i64 z.ft, .int .u64 z.fv, .int .i64 z.lt, .int .u64 z.lv, .int .u64 z.mi, .int .u64 z.ma, .int .u64 z.hi, .int .u64 z.lo] 29))
            have HTw := Lib.hid (agBlk (w := w9) (t := 29) (cs := #[.int .u64 z.n, .int .i64 z.ft, .int .u64 z.fv, .int .i64 z.lt, .int .u64 z.lv, .int .u64 z.mi, .int .u64 z.ma, .int .u64 z.hi, .int .u64 z.lo]))
            have hbwz9 : Below w.heap.size w _ := hbw9.alloc hbw9.size (.cells #[.int .u64 z.n, .int .i64 z.ft, .int .u64 z.fv, .int .i64 z.lt, .int .u64 z.lv, .int .u64 z.mi, .int .u64 z.ma, .int .u64 z.hi, .int .u64 z.lo] 29)
            have c0y := HTy.out.cell 0
            have c1y := HTy.out.cell 1
            have c2y := HTy.out.cell 2
            have c3y := HTy.out.cell 3
            have c4y := HTy.out.cell 4
            have c5y := HTy.out.cell 5
            have c6y := HTy.out.cell 6
            have c7y := HTy.out.cell 7
            have c8y := HTy.out.cell 8
            have c0w := HTw.out.cell 0
            have c1w := HTw.out.cell 1
            have c2w := HTw.out.cell 2
            have c3w := HTw.out.cell 3
            have c4w := HTw.out.cell 4
            have c5w := HTw.out.cell 5
            have c6w := HTw.out.cell 6
            have c7w := HTw.out.cell 7
            have c8w := HTw.out.cell 8
            go_wp2_with fail
            go_ret
            exact ⟨rfl, hbwz9⟩
      · have hxx : True := trivial
        go_upto_region 7 with fail
        go_cut [12, 13] (fun sp se wx => ∃ gn, sp = .pointer (some ⟨gn, 0, none⟩) ∧ se = .int .u16 0 ∧ Hid (Blk wx gn 29 #[.int .u64 b.n, .int .i64 b.ft, .int .u64 b.fv, .int .i64 b.lt, .int .u64 b.lv, .int .u64 b.mi, .int .u64 b.ma, .int .u64 b.hi, .int .u64 b.lo]) ∧ Hid (Blk wx w3.heap.size 29 #[.int .u64 a.n, .int .i64 a.ft, .int .u64 a.fv, .int .i64 a.lt, .int .u64 a.lv, .int .u64 a.mi, .int .u64 a.ma, .int .u64 a.hi, .int .u64 a.lo]) ∧ RdS wx A2 L ∧ Below w.heap.size w wx)
        case first =>
          go_wp2_with fail
          all_goals
            with_reducible refine (HO2.out _ _ _ ?_).mono ?_
            · rw [← HP2.out]; exact hR2.part F (E - F) (fun g o h hp => by rw [HM.out] at hp; first | (exfalso; omega) | (rw [h]; simp [Addr.add]))
            rintro e w4 ⟨rfl, hb4⟩
            have hbx := hbwz3.trans (hb4.mono hbwz3.size)
            have hR3 := (hR2.below hb4).alloc (.cells #[.int .u64 b.n, .int .i64 b.ft, .int .u64 b.fv, .int .i64 b.lt, .int .u64 b.lv, .int .u64 b.mi, .int .u64 b.ma, .int .u64 b.hi, .int .u64 b.lo] 29)
            have HKa := Lib.hid ((HTa.out.below hb4 HTa.out.lt).alloc (.cells #[.int .u64 b.n, .int .i64 b.ft, .int .u64 b.fv, .int .i64 b.lt, .int .u64 b.lv, .int .u64 b.mi, .int .u64 b.ma, .int .u64 b.hi, .int .u64 b.lo] 29))
            have hby := hbx.alloc hbx.size (.cells #[.int .u64 b.n, .int .i64 b.ft, .int .u64 b.fv, .int .i64 b.lt, .int .u64 b.lv, .int .u64 b.mi, .int .u64 b.ma, .int .u64 b.hi, .int .u64 b.lo] 29)
            clear hb4
            go_wp2_with fail
            go_meet
            exact ⟨_, rfl, rfl, Lib.hid agBlk, HKa, hR3, hby⟩
        case rest =>
          obtain ⟨wk4, hwk⟩ : ∃ wk, wk = wc := ⟨_, rfl⟩
          subst hwk
          obtain ⟨gb, rfl, rfl, HTb, HTa, hR2, hbwk4⟩ := hcut
          go_upto_region 8 with fail
          go_cut [14, 15] (fun sp se wx => ∃ gn, sp = .pointer (some ⟨gn, 0, none⟩) ∧ se = .int .u16 0 ∧ Hid (Blk wx gn 29 #[.int .u64 d.n, .int .i64 d.ft, .int .u64 d.fv, .int .i64 d.lt, .int .u64 d.lv, .int .u64 d.mi, .int .u64 d.ma, .int .u64 d.hi, .int .u64 d.lo]) ∧ Hid (Blk wx w3.heap.size 29 #[.int .u64 a.n, .int .i64 a.ft, .int .u64 a.fv, .int .i64 a.lt, .int .u64 a.lv, .int .u64 a.mi, .int .u64 a.ma, .int .u64 a.hi, .int .u64 a.lo]) ∧ Hid (Blk wx gb 29 #[.int .u64 b.n, .int .i64 b.ft, .int .u64 b.fv, .int .i64 b.lt, .int .u64 b.lv, .int .u64 b.mi, .int .u64 b.ma, .int .u64 b.hi, .int .u64 b.lo]) ∧ RdS wx A2 L ∧ Below w.heap.size w wx)
          case first =>
            go_wp2_with fail
            all_goals
              with_reducible refine (HO3.out _ _ _ ?_).mono ?_
              · rw [← HP3.out, ← List.take_of_length_le (l := L.drop E) (i := m - E) (by rw [List.length_drop, HM.out]; exact Nat.le_refl _)]; exact hR2.part E (m - E) (fun g o h hp => by rw [HM.out] at hp; first | (exfalso; omega) | (rw [h]; simp [Addr.add]))
              rintro e w5 ⟨rfl, hb5⟩
              have hbx := hbwk4.trans (hb5.mono hbwk4.size)
              have hR3 := (hR2.below hb5).alloc (.cells #[.int .u64 d.n, .int .i64 d.ft, .int .u64 d.fv, .int .i64 d.lt, .int .u64 d.lv, .int .u64 d.mi, .int .u64 d.ma, .int .u64 d.hi, .int .u64 d.lo] 29)
              have HKa := Lib.hid ((HTa.out.below hb5 HTa.out.lt).alloc (.cells #[.int .u64 d.n, .int .i64 d.ft, .int .u64 d.fv, .int .i64 d.lt, .int .u64 d.lv, .int .u64 d.mi, .int .u64 d.ma, .int .u64 d.hi, .int .u64 d.lo] 29))
              have HKb := Lib.hid ((HTb.out.below hb5 HTb.out.lt).alloc (.cells #[.int .u64 d.n, .int .i64 d.ft, .int .u64 d.fv, .int .i64 d.lt, .int .u64 d.lv, .int .u64 d.mi, .int .u64 d.ma, .int .u64 d.hi, .int .u64 d.lo] 29))
              have hby := hbx.alloc hbx.size (.cells #[.int .u64 d.n, .int .i64 d.ft, .int .u64 d.fv, .int .i64 d.lt, .int .u64 d.lv, .int .u64 d.mi, .int .u64 d.ma, .int .u64 d.hi, .int .u64 d.lo] 29)
              clear hb5
              go_wp2_with fail
              go_meet
              exact ⟨_, rfl, rfl, Lib.hid agBlk, HKa, HKb, hR3, hby⟩
          case rest =>
            obtain ⟨wk5, hwk⟩ : ∃ wk, wk = wc := ⟨_, rfl⟩
            subst hwk
            obtain ⟨gd, rfl, rfl, HTd, HTa, HTb, hR2, hbwk5⟩ := hcut
            have c0a := HTa.out.cell 0
            have c1a := HTa.out.cell 1
            have c2a := HTa.out.cell 2
            have c3a := HTa.out.cell 3
            have c4a := HTa.out.cell 4
            have c5a := HTa.out.cell 5
            have c6a := HTa.out.cell 6
            have c7a := HTa.out.cell 7
            have c8a := HTa.out.cell 8
            have c0b := HTb.out.cell 0
            have c1b := HTb.out.cell 1
            have c2b := HTb.out.cell 2
            have c3b := HTb.out.cell 3
            have c4b := HTb.out.cell 4
            have c5b := HTb.out.cell 5
            have c6b := HTb.out.cell 6
            have c7b := HTb.out.cell 7
            have c8b := HTb.out.cell 8
            go_wp2_with fail
            with_reducible refine (HJ1.out _).mono ?_
            rintro e w6 ⟨rfl, hb6⟩
            clear c0a c1a c2a c3a c4a c5a c6a c7a c8a c0b c1b c2b c3b c4b c5b c6b c7b c8b
            have hbw6 := hbwk5.trans (hb6.mono hbwk5.size)
            replace HTa := Lib.hid (HTa.out.below hb6 HTa.out.lt)
            replace HTb := Lib.hid (HTb.out.below hb6 HTb.out.lt)
            replace HTd := Lib.hid (HTd.out.below hb6 HTd.out.lt)
            clear hb6
            replace HTa := Lib.hid (HTa.out.alloc (.cells #[.int .u64 ab.n, .int .i64 ab.ft, .int .u64 ab.fv, .int .i64 ab.lt, .int .u64 ab.lv, .int .u64 ab.mi, .int .u64 ab.ma, .int .u64 ab.hi, .int .u64 ab.lo] 29))
            replace HTb := Lib.hid (HTb.out.alloc (.cells #[.int .u64 ab.n, .int .i64 ab.ft, .int .u64 ab.fv, .int .i64 ab.lt, .int .u64 ab.lv, .int .u64 ab.mi, .int .u64 ab.ma, .int .u64 ab.hi, .int .u64 ab.lo] 29))
            replace HTd := Lib.hid (HTd.out.alloc (.cells #[.int .u64 ab.n, .int .i64 ab.ft, .int .u64 ab.fv, .int .i64 ab.lt, .int .u64 ab.lv, .int .u64 ab.mi, .int .u64 ab.ma, .int .u64 ab.hi, .int .u64 ab.lo] 29))
            have HTab := Lib.hid (agBlk (w := w6) (t := 29) (cs := #[.int .u64 ab.n, .int .i64 ab.ft, .int .u64 ab.fv, .int .i64 ab.lt, .int .u64 ab.lv, .int .u64 ab.mi, .int .u64 ab.ma, .int .u64 ab.hi, .int .u64 ab.lo]))
            have hbwz6 : Below w.heap.size w _ := hbw6.alloc hbw6.size (.cells #[.int .u64 ab.n, .int .i64 ab.ft, .int .u64 ab.fv, .int .i64 ab.lt, .int .u64 ab.lv, .int .u64 ab.mi, .int .u64 ab.ma, .int .u64 ab.hi, .int .u64 ab.lo] 29)
            have c0ab := HTab.out.cell 0
            have c1ab := HTab.out.cell 1
            have c2ab := HTab.out.cell 2
            have c3ab := HTab.out.cell 3
            have c4ab := HTab.out.cell 4
            have c5ab := HTab.out.cell 5
            have c6ab := HTab.out.cell 6
            have c7ab := HTab.out.cell 7
            have c8ab := HTab.out.cell 8
            have c0d := HTd.out.cell 0
            have c1d := HTd.out.cell 1
            have c2d := HTd.out.cell 2
            have c3d := HTd.out.cell 3
            have c4d := HTd.out.cell 4
            have c5d := HTd.out.cell 5
            have c6d := HTd.out.cell 6
            have c7d := HTd.out.cell 7
            have c8d := HTd.out.cell 8
            go_wp2_with fail
            with_reducible refine (HJ2.out _).mono ?_
            rintro e w7 ⟨rfl, hb7⟩
            clear c0ab c1ab c2ab c3ab c4ab c5ab c6ab c7ab c8ab c0d c1d c2d c3d c4d c5d c6d c7d c8d
            have hbw7 := hbwz6.trans (hb7.mono hbwz6.size)
            replace HTa := Lib.hid (HTa.out.below hb7 HTa.out.lt)
            replace HTb := Lib.hid (HTb.out.below hb7 HTb.out.lt)
            replace HTd := Lib.hid (HTd.out.below hb7 HTd.out.lt)
            replace HTab := Lib.hid (HTab.out.below hb7 HTab.out.lt)
            clear hb7
            replace HTa := Lib.hid (HTa.out.alloc (.cells #[.int .u64 z.n, .int .i64 z.ft, .int .u64 z.fv, .int .i64 z.lt, .int .u64 z.lv, .int .u64 z.mi, .int .u64 z.ma, .int .u64 z.hi, .int .u64 z.lo] 29))
            replace HTb := Lib.hid (HTb.out.alloc (.cells #[.int .u64 z.n, .int .i64 z.ft, .int .u64 z.fv, .int .i64 z.lt, .int .u64 z.lv, .int .u64 z.mi, .int .u64 z.ma, .int .u64 z.hi, .int .u64 z.lo] 29))
            replace HTd := Lib.hid (HTd.out.alloc (.cells #[.int .u64 z.n, .int .i64 z.ft, .int .u64 z.fv, .int .i64 z.lt, .int .u64 z.lv, .int .u64 z.mi, .int .u64 z.ma, .int .u64 z.hi, .int .u64 z.lo] 29))
            replace HTab := Lib.hid (HTab.out.alloc (.cells #[.int .u64 z.n, .int .i64 z.ft, .int .u64 z.fv, .int .i64 z.lt, .int .u64 z.lv, .int .u64 z.mi, .int .u64 z.ma, .int .u64 z.hi, .int .u64 z.lo] 29))
            have HTy := Lib.hid (agBlk (w := w7) (t := 29) (cs := #[.int .u64 z.n, .int .i64 z.ft, .int .u64 z.fv, .int .i64 z.lt, .int .u64 z.lv, .int .u64 z.mi, .int .u64 z.ma, .int .u64 z.hi, .int .u64 z.lo]))
            have hbwz7 : Below w.heap.size w _ := hbw7.alloc hbw7.size (.cells #[.int .u64 z.n, .int .i64 z.ft, .int .u64 z.fv, .int .i64 z.lt, .int .u64 z.lv, .int .u64 z.mi, .int .u64 z.ma, .int .u64 z.hi, .int .u64 z.lo] 29)
            have c0b := HTb.out.cell 0
            have c1b := HTb.out.cell 1
            have c2b := HTb.out.cell 2
            have c3b := HTb.out.cell 3
            have c4b := HTb.out.cell 4
            have c5b := HTb.out.cell 5
            have c6b := HTb.out.cell 6
            have c7b := HTb.out.cell 7
            have c8b := HTb.out.cell 8
            have c0d := HTd.out.cell 0
            have c1d := HTd.out.cell 1
            have c2d := HTd.out.cell 2
            have c3d := HTd.out.cell 3
            have c4d := HTd.out.cell 4
            have c5d := HTd.out.cell 5
            have c6d := HTd.out.cell 6
            have c7d := HTd.out.cell 7
            have c8d := HTd.out.cell 8
            go_wp2_with fail
            with_reducible refine (HJ3.out _).mono ?_
            rintro e w8 ⟨rfl, hb8⟩
            clear c0b c1b c2b c3b c4b c5b c6b c7b c8b c0d c1d c2d c3d c4d c5d c6d c7d c8d
            have hbw8 := hbwz7.trans (hb8.mono hbwz7.size)
            replace HTa := Lib.hid (HTa.out.below hb8 HTa.out.lt)
            replace HTb := Lib.hid (HTb.out.below hb8 HTb.out.lt)
            replace HTd := Lib.hid (HTd.out.below hb8 HTd.out.lt)
            replace HTab := Lib.hid (HTab.out.below hb8 HTab.out.lt)
            replace HTy := Lib.hid (HTy.out.below hb8 HTy.out.lt)
            clear hb8
            replace HTa := Lib.hid (HTa.out.alloc (.cells #[.int .u64 bd.n, .int .i64 bd.ft, .int .u64 bd.fv, .int .i64 bd.lt, .int .u64 bd.lv, .int .u64 bd.mi, .int .u64 bd.ma, .int .u64 bd.hi, .int .u64 bd.lo] 29))
            replace HTb := Lib.hid (HTb.out.alloc (.cells #[.int .u64 bd.n, .int .i64 bd.ft, .int .u64 bd.fv, .int .i64 bd.lt, .int .u64 bd.lv, .int .u64 bd.mi, .int .u64 bd.ma, .int .u64 bd.hi, .int .u64 bd.lo] 29))
            replace HTd := Lib.hid (HTd.out.alloc (.cells #[.int .u64 bd.n, .int .i64 bd.ft, .int .u64 bd.fv, .int .i64 bd.lt, .int .u64 bd.lv, .int .u64 bd.mi, .int .u64 bd.ma, .int .u64 bd.hi, .int .u64 bd.lo] 29))
            replace HTab := Lib.hid (HTab.out.alloc (.cells #[.int .u64 bd.n, .int .i64 bd.ft, .int .u64 bd.fv, .int .i64 bd.lt, .int .u64 bd.lv, .int .u64 bd.mi, .int .u64 bd.ma, .int .u64 bd.hi, .int .u64 bd.lo] 29))
            replace HTy := Lib.hid (HTy.out.alloc (.cells #[.int .u64 bd.n, .int .i64 bd.ft, .int .u64 bd.fv, .int .i64 bd.lt, .int .u64 bd.lv, .int .u64 bd.mi, .int .u64 bd.ma, .int .u64 bd.hi, .int .u64 bd.lo] 29))
            have HTbd := Lib.hid (agBlk (w := w8) (t := 29) (cs := #[.int .u64 bd.n, .int .i64 bd.ft, .int .u64 bd.fv, .int .i64 bd.lt, .int .u64 bd.lv, .int .u64 bd.mi, .int .u64 bd.ma, .int .u64 bd.hi, .int .u64 bd.lo]))
            have hbwz8 : Below w.heap.size w _ := hbw8.alloc hbw8.size (.cells #[.int .u64 bd.n, .int .i64 bd.ft, .int .u64 bd.fv, .int .i64 bd.lt, .int .u64 bd.lv, .int .u64 bd.mi, .int .u64 bd.ma, .int .u64 bd.hi, .int .u64 bd.lo] 29)
            have c0a := HTa.out.cell 0
            have c1a := HTa.out.cell 1
            have c2a := HTa.out.cell 2
            have c3a := HTa.out.cell 3
            have c4a := HTa.out.cell 4
            have c5a := HTa.out.cell 5
            have c6a := HTa.out.cell 6
            have c7a := HTa.out.cell 7
            have c8a := HTa.out.cell 8
            have c0bd := HTbd.out.cell 0
            have c1bd := HTbd.out.cell 1
            have c2bd := HTbd.out.cell 2
            have c3bd := HTbd.out.cell 3
            have c4bd := HTbd.out.cell 4
            have c5bd := HTbd.out.cell 5
            have c6bd := HTbd.out.cell 6
            have c7bd := HTbd.out.cell 7
            have c8bd := HTbd.out.cell 8
            go_wp2_with fail
            with_reducible refine (HJ4.out _).mono ?_
            rintro e w9 ⟨rfl, hb9⟩
            clear c0a c1a c2a c3a c4a c5a c6a c7a c8a c0bd c1bd c2bd c3bd c4bd c5bd c6bd c7bd c8bd
            have hbw9 := hbwz8.trans (hb9.mono hbwz8.size)
            replace HTa := Lib.hid (HTa.out.below hb9 HTa.out.lt)
            replace HTb := Lib.hid (HTb.out.below hb9 HTb.out.lt)
            replace HTd := Lib.hid (HTd.out.below hb9 HTd.out.lt)
            replace HTab := Lib.hid (HTab.out.below hb9 HTab.out.lt)
            replace HTy := Lib.hid (HTy.out.below hb9 HTy.out.lt)
            replace HTbd := Lib.hid (HTbd.out.below hb9 HTbd.out.lt)
            clear hb9
            replace HTa := Lib.hid (HTa.out.alloc (.cells #[.int .u64 z.n, .int .i64 z.ft, .int .u64 z.fv, .int .i64 z.lt, .int .u64 z.lv, .int .u64 z.mi, .int .u64 z.ma, .int .u64 z.hi, .int .u64 z.lo] 29))
            replace HTb := Lib.hid (HTb.out.alloc (.cells #[.int .u64 z.n, .int .i64 z.ft, .int .u64 z.fv, .int .i64 z.lt, .int .u64 z.lv, .int .u64 z.mi, .int .u64 z.ma, .int .u64 z.hi, .int .u64 z.lo] 29))
            replace HTd := Lib.hid (HTd.out.alloc (.cells #[.int .u64 z.n, .int .i64 z.ft, .int .u64 z.fv, .int .i64 z.lt, .int .u64 z.lv, .int .u64 z.mi, .int .u64 z.ma, .int .u64 z.hi, .int .u64 z.lo] 29))
            replace HTab := Lib.hid (HTab.out.alloc (.cells #[.int .u64 z.n, .int .i64 z.ft, .int .u64 z.fv, .int .i64 z.lt, .int .u64 z.lv, .int .u64 z.mi, .int .u64 z.ma, .int .u64 z.hi, .int .u64 z.lo] 29))
            replace HTy := Lib.hid (HTy.out.alloc (.cells #[.int .u64 z.n, .int .i64 z.ft, .int .u64 z.fv, .int .i64 z.lt, .int .u64 z.lv, .int .u64 z.mi, .int .u64 z.ma, .int .u64 z.hi, .int .u64 z.lo] 29))
            replace HTbd := Lib.hid (HTbd.out.alloc (.cells #[.int .u64 z.n, .int .i64 z.ft, .int .u64 z.fv, .int .i64 z.lt, .int .u64 z.lv, .int .u64 z.mi, .int .u64 z.ma, .int .u64 z.hi, .int .u64 z.lo] 29))
            have HTw := Lib.hid (agBlk (w := w9) (t := 29) (cs := #[.int .u64 z.n, .int .i64 z.ft, .int .u64 z.fv, .int .i64 z.lt, .int .u64 z.lv, .int .u64 z.mi, .int .u64 z.ma, .int .u64 z.hi, .int .u64 z.lo]))
            have hbwz9 : Below w.heap.size w _ := hbw9.alloc hbw9.size (.cells #[.int .u64 z.n, .int .i64 z.ft, .int .u64 z.fv, .int .i64 z.lt, .int .u64 z.lv, .int .u64 z.mi, .int .u64 z.ma, .int .u64 z.hi, .int .u64 z.lo] 29)
            have c0y := HTy.out.cell 0
            have c1y := HTy.out.cell 1
            have c2y := HTy.out.cell 2
            have c3y := HTy.out.cell 3
            have c4y := HTy.out.cell 4
            have c5y := HTy.out.cell 5
            have c6y := HTy.out.cell 6
            have c7y := HTy.out.cell 7
            have c8y := HTy.out.cell 8
            have c0w := HTw.out.cell 0
            have c1w := HTw.out.cell 1
            have c2w := HTw.out.cell 2
            have c3w := HTw.out.cell 3
            have c4w := HTw.out.cell 4
            have c5w := HTw.out.cell 5
            have c6w := HTw.out.cell 6
            have c7w := HTw.out.cell 7
            have c8w := HTw.out.cell 8
            go_wp2_with fail
            go_ret
            exact ⟨rfl, hbwz9⟩

set_option maxRecDepth 100000 in
theorem lifted_AggParts (os : Os) (started : os.Started) (H : Type) (enc : TypeId × Value → H) :
    ReturnsInHanded {} Try.checked os 3 .any (Rows.aggPartsSpec.pre6 enc Try.prog Try.f3 Rows.aggPartsRow.domain false) (Rows.aggPartsSpec.post enc Try.prog Try.f3 false true false false) := by
  refine returnsInHanded_of_change (C := Try.checked) own started (by kernel_rfl) Try.func3
    (ChangeSpec.witness6 (enc := enc) (C := Try.checked) false ⟨#[], #[.slice none 0 0, .int .i64 0, .int .i64 0], []⟩ 8 (by kernel_rfl) (by kernel_rfl) (by kernel_rfl) (by kernel_rfl)) ?_
  intro W base args ds gs before hval0 hW hcnd _
  have hval : ∀ (j : Nat) t v, Try.f3.params[j]? = some t → args[j]? = some v → Value.okWide Try.prog W .any base t v := hval0
  have hW' := hW
  obtain ⟨p, q, hA0, hV, rfl, hfz, hnd⟩ := hW
  have hA : DataW.TrodAll enc Try.prog W 0 (fun _ => true) true Try.f3.params.toList args.toList ds p := hA0
  rw [Try.params3] at hA hval
  obtain ⟨v0, vs0, d0, ds0, p0, q0, hargs, rfl, rfl, h0, r0⟩ := trodAll_cons hA
  obtain ⟨v1, vs1, d1, ds1, p1, q1, rfl, rfl, rfl, h1, r1⟩ := trodAll_cons r0
  obtain ⟨v2, vs2, d2, ds2, p2, q2, rfl, rfl, rfl, h2, r2⟩ := trodAll_cons r1
  obtain ⟨rfl, rfl, rfl⟩ := trodAll_nil r2
  obtain rfl : args = #[v0, v1, v2] := by cases args; simp_all
  obtain ⟨rfl, rfl⟩ := trodVars_none hV
  have k0 := h0
  have lt0 : ∀ x ∈ p0, x.block < W.heap.size := by obtain ⟨m, hm⟩ := k0; exact DataW.trod_lt m _ _ _ hm
  obtain ⟨A0, c0, l0, rfl, rd0, fi0, le0⟩ := open_samples (hval 0 22 v0 rfl rfl) h0
  obtain ⟨a1, rfl, rfl, rfl, w1⟩ := open_int Try.underlying3 (hval 1 3 v1 rfl rfl) h1
  obtain ⟨a2, rfl, rfl, rfl, w2⟩ := open_int Try.underlying3 (hval 2 3 v2 rfl rfl) h2
  clear hA0 hval0
  refine (walk_AggParts W A0 c0 l0 rd0 fi0 le0 a1 (range_i64 w1) a2 (range_i64 w2)).mono fun e W' ⟨he, bel⟩ => ?_
  subst he
  exact ⟨_, rfl, _, _, _, [], _, [], hW', trodAll_mk1 (shut_bool Try.underlying4 _), (trodAll_cons_mk (Below.trod laidOut (by kernel_rfl) (of_decide_eq_true (by kernel_rfl)) k0 bel lt0) (trodAll_cons_mk (shut_int Try.underlying3 w1) (trodAll_cons_mk (shut_int Try.underlying3 w2) trodAll_mk0))), rfl, bel.frame _, fun h => by cases h⟩

theorem over_AggParts : Rows.aggPartsRow.holds Try.pinned (OpenSpec.ofChange Rows.aggPartsSpec) :=
  OpenClaim.holds_of_wide 3 Try.f3 rfl rfl rfl rfl rfl rfl rfl ⟨rfl, rfl, rfl, rfl, rfl⟩ rfl rfl rfl rfl rfl (by kernel_rfl) Try.func3 (by kernel_rfl)
    (of_decide_eq_true (by kernel_rfl)) (by unfold Func.isWrapper; first | (rw [if_pos (by decide +kernel)]; kernel_rfl) | (rw [if_neg (by decide +kernel)]; exact ⟨rfl, rfl⟩))
    (fun os started H enc _ => lifted_AggParts os started H enc)

theorem aggParts_holds : Rows.AggPartsSaid := over_AggParts

#print axioms aggParts_holds
end Go.Proofs.Ytfaahkjgbjcjgaa
