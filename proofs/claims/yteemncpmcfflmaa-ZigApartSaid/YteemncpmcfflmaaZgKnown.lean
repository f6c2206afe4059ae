/-
  The statements' own helpers: known (the chapter's examples), row (numbers one behind the other); Same, of bits that are told as lists.
-/
import Derived.Test.YteemncpmcfflmaaZgPl2
import Derived.Test.YteemncpmcfflmaaSame
import Derived.Deep.RegionHeld3
namespace Go.Proofs.Yteemncpmcfflmaa
open Go.RowKit Pl
set_option linter.unusedVariables false

theorem packs_decide {B : List Int} {L : List Bool} (h1 : B.length = (L.length + 7) / 8) (h2 : B.all (fun x => decide (0 ≤ x) && decide (x < 256)) = true) (h3 : (List.range (8 * B.length)).all (fun i => bitAt B i == L.getD i false) = true) : Packs B L := by
  refine ⟨h1, fun x hx => ?_, fun i => ?_⟩
  · have := List.all_eq_true.1 h2 x hx
    simpa using this
  · by_cases h : i < 8 * B.length
    · have := List.all_eq_true.1 h3 i (by simpa using h)
      simpa using this
    · rw [bitAt_far (by omega), getD_far _ _ (by omega)]


theorem Rd.two (w : World) (x y : Int) (t : TypeId) : Rd (w.alloc (.cells #[.int .u8 x, .int .u8 y] t)) (some ⟨w.heap.size, 0, none⟩) [x, y] := by
  refine .inr ⟨w.heap.size, 0, rfl, by simp, fun i hi => ?_⟩
  have h2 : i = 0 ∨ i = 1 := by simp at hi; omega
  rcases h2 with rfl | rfl
  · rw [cell_of_row _ _ _ _ _ _ (heap_alloc_new w _)]; rfl
  · rw [cell_of_row _ _ _ _ _ _ (heap_alloc_new w _)]; rfl

/-- Same, of bits that are told as lists. -/
theorem same_packs {A1 A2 : Option Addr} {c1 c2 : Nat} {B1 B2 : List Int} {L1 L2 : List Bool} {n1 n2 : Nat} (p1 : Packs B1 L1) (p2 : Packs B2 L2) (l1 : L1.length = n1) (l2 : L2.length = n2) (b : Bool) (hb : decide (L1 = L2) = b) (w : World) (h1 : Rd w A1 B1) (h2 : Rd w A2 B2) :
    Calls Try.prog 10 #[.agg #[.slice A1 B1.length c1, .int .i64 (n1 : Int)], .agg #[.slice A2 B2.length c2, .int .i64 (n2 : Int)]] w fun e w' => e = .returned (.bool b) ∧ Below w.heap.size w w' := by
  refine (same_any A1 A2 c1 c2 B1 B2 (n1 : Int) (n2 : Int) w h1 h2 p1.byts p2.byts).mono fun e w' h => ⟨?_, h.2⟩
  rw [h.1, ← hb, ← Bool.decide_and]
  have := packs_iff p1 p2
  rw [l1, l2] at this
  exact congrArg (fun b => Ending.returned (.bool b)) (decide_eq_decide.2 (by rw [Int.natCast_inj]; exact this))


set_option maxRecDepth 100000 in
set_option maxHeartbeats 4000000 in
theorem known_any (w : World) : Calls Try.prog 9 #[] w fun e w' => e = .returned (.bool true) ∧ Below w.heap.size w w' := by
  have P1 : ∀ wx, Calls Try.prog 16 #[.agg #[.slice none 0 0, .int .i64 0], .int .i64 0] wx (RetBits 5 .u16 [false] wx) := fun wx => by
    have := zput_sound none 0 [] [] 0 wx (Rd.nil wx none) packs_nil (by simp) (by simp only [I64]; decide)
    rw [show [] ++ code 0 = [false] from by decide] at this
    exact this
  have P2 : ∀ wx, Calls Try.prog 16 #[.agg #[.slice none 0 0, .int .i64 0], .int .i64 (-1)] wx (RetBits 5 .u16 [true, false, false, false, false, false, false, false, true] wx) := fun wx => by
    have := zput_sound none 0 [] [] (-1) wx (Rd.nil wx none) packs_nil (by simp) (by simp only [I64]; decide)
    rw [show [] ++ code (-1) = [true, false, false, false, false, false, false, false, true] from by decide] at this
    exact this
  have hp9 : Packs [128, 0] [true, false, false, false, false, false, false, false, false] := packs_decide (by decide) (by decide) (by decide)
  have G1 : ∀ wx A, Rd wx A [128, 0] → Calls Try.prog 18 #[.agg #[.slice A 2 2, .int .i64 9], .int .i64 0] wx (RetZ .u16 0 0 11 wx) := fun wx A h => by
    refine (zget_at A 2 [128, 0] [true, false, false, false, false, false, false, false, false] 0 wx h hp9 (by decide) (by decide)).mono fun e w' hh => ?_
    have hns : ¬ Short [true, false, false, false, false, false, false, false, false] 0 := by
      intro h; rcases h with ⟨_, h⟩ | h <;> exact absurd h (by decide)
    exact hh.2.1 hns (by decide)
  have HF := Lib.hid (fun wx => fold_any 64 wx (by simp only [I64]; decide))
  have HP1 := Lib.hid P1
  have HP2 := Lib.hid P2
  have HG1 := Lib.hid G1
  clear P1 P2 G1 hp9
  go_enter Try.func9, Try.ntmps9
  go_wp2_with fail
  refine (HP1.out _).mono ?_
  rintro e w1 ⟨A1, c1, B1, rfl, hp1, hown1, hb1⟩
  have hl1 : B1.length = 1 := by have := hp1.len; simpa using this
  rw [hl1]
  have HX := Lib.hid (Blk.new w1 27 #[.slice A1 1 c1, .int .i64 1])
  have hbz1 := hb1.alloc hb1.size (.cells #[.slice A1 1 c1, .int .i64 1] 27)
  clear hp1 hown1 hb1 hl1
  go_wp2_with fail
  refine (HP2.out _).mono ?_
  rintro e w2 ⟨A2, c2, B2, rfl, hp2, hown2, hb2⟩
  obtain rfl : B2 = [128, 128] := packs_inj hp2 (packs_decide (by decide) (by decide) (by decide))
  obtain ⟨g, hA2, hbg, hlg, hcg, _⟩ := own_form hown2 (by decide)
  subst hA2
  have hg0 : w2.cell? ⟨g, 0, none⟩ = some (.int .u8 128) := hcg 0 (by decide)
  have hg1 : w2.cell? ⟨g, 1, none⟩ = some (.int .u8 128) := hcg 1 (by decide)
  have hbw2 := hbz1.trans (hb2.mono hbz1.size)
  replace HX := Lib.hid ((HX.out.below hb2 HX.out.lt).alloc (.cells #[.slice (some ⟨g, 0, none⟩) 2 c2, .int .i64 9] 27))
  have HY := Lib.hid (Blk.new w2 27 #[.slice (some ⟨g, 0, none⟩) 2 c2, .int .i64 9])
  have hbz2 := hbw2.alloc hbw2.size (.cells #[.slice (some ⟨g, 0, none⟩) 2 c2, .int .i64 9] 27)
  have hrt : ∀ t, Rd ((w2.alloc (.cells #[.slice (some ⟨g, 0, none⟩) 2 c2, .int .i64 9] 27)).alloc (.cells #[.int .u8 128, .int .u8 0] t)) (some ⟨w2.heap.size + 1, 0, none⟩) [128, 0] := fun t => by
    have := Rd.two (w2.alloc (.cells #[.slice (some ⟨g, 0, none⟩) 2 c2, .int .i64 9] 27)) 128 0 t
    rwa [World.size_alloc] at this
  have HRT := Lib.hid hrt
  clear hp2 hown2 hb2 hcg hrt
  go_wp2_with fail
  refine (HG1.out _ _ (HRT.out _)).mono ?_
  rintro e w3 ⟨rfl, hb3⟩
  have k0 : w3.cell? ⟨g, 0, none⟩ = some (.int .u8 128) := (hb3.cell (p := ⟨g, 0, none⟩) (by simp; omega)).trans (by rw [World.cell?_alloc_lt _ _ _ (by simp; omega), World.cell?_alloc_lt _ _ _ hlg]; exact hg0)
  have k1 : w3.cell? ⟨g, 1, none⟩ = some (.int .u8 128) := (hb3.cell (p := ⟨g, 1, none⟩) (by simp; omega)).trans (by rw [World.cell?_alloc_lt _ _ _ (by simp; omega), World.cell?_alloc_lt _ _ _ hlg]; exact hg1)
  have hbw3 := (hbz2.alloc hbz2.size _).trans (hb3.mono (hbz2.alloc hbz2.size _).size)
  replace HX := Lib.hid ((HX.out.alloc _).below hb3 (HX.out.alloc _).lt)
  replace HY := Lib.hid ((HY.out.alloc _).below hb3 (HY.out.alloc _).lt)
  clear hb3 hg0 hg1 hlg hbg
  have x1 := HX.out.cell 1
  have y0 := HY.out.cell 0
  have y1 := HY.out.cell 1
  go_wp2_with fail
  refine (HF.out _).mono ?_
  rintro e w4 ⟨rfl, rfl⟩
  rw [show fold 64 = 128 from by decide]
  go_wp2_with fail
  go_ret
  exact ⟨rfl, hbw3⟩

/-- The slice at A reads as these numbers. -/
def RdI (w : World) (A : Option Addr) (l : List Int) : Prop :=
  l = [] ∨ ∃ g o, A = some ⟨g, o, none⟩ ∧ g < w.heap.size ∧ ∀ i x, l[i]? = some x → w.cell? ⟨g, o + i, none⟩ = some (.int .i64 x)
theorem RdI.below {w w' : World} {A : Option Addr} {l : List Int} (h : RdI w A l) (hb : Below w.heap.size w w') : RdI w' A l := by
  rcases h with rfl | ⟨g, o, rfl, hg, hc⟩
  · exact .inl rfl
  · exact .inr ⟨g, o, rfl, by have := hb.size; omega, fun i x hi => (hb.cell (p := ⟨g, o + i, none⟩) hg).trans (hc i x hi)⟩
theorem RdI.at_ {w : World} {A : Option Addr} {l : List Int} (h : RdI w A l) {k : Nat} {x : Int} (hx : l[k]? = some x) :
    ∃ g o, A = some ⟨g, o, none⟩ ∧ g < w.heap.size ∧ w.cell? ⟨g, o + k, none⟩ = some (.int .i64 x) := by
  rcases h with rfl | ⟨g, o, hA, hg, hc⟩
  · simp at hx
  · exact ⟨g, o, hA, hg, hc k x hx⟩
theorem take_snoc' {α : Type} {l : List α} {k : Nat} {s : α} (h : l[k]? = some s) : l.take (k + 1) = l.take k ++ [s] := by
  rw [List.take_add_one, h]; rfl

/-- What a round's region reads. -/
def RoS (g1 g p : Nat) (s n : Value) (v : Int) (wx : World) : Prop := wx.cell? ⟨g1, 0, none⟩ = some s ∧ wx.cell? ⟨g1, 1, none⟩ = some n ∧ wx.cell? ⟨g, p, none⟩ = some (.int .i64 v)
theorem RoS.below {W W' : World} {g1 g p : Nat} {s n : Value} {v : Int} (h : RoS g1 g p s n v W) {B : Nat} (hb : Below B W W') (h1 : g1 < B) (h2 : g < B) : RoS g1 g p s n v W' :=
  ⟨(hb.cell (p := ⟨g1, 0, none⟩) h1).trans h.1, (hb.cell (p := ⟨g1, 1, none⟩) h1).trans h.2.1, (hb.cell (p := ⟨g, p, none⟩) h2).trans h.2.2⟩
theorem RoS.drew {W : World} {g1 g p : Nat} {s n : Value} {v : Int} (h : RoS g1 g p s n v W) : RoS g1 g p s n v W.drew := h

theorem Blk.set2 {w : World} {g : Nat} {t : TypeId} {a b a' b' : Value} (h : Blk w g t #[a, b]) : Blk ((w.setCell ⟨g, 0, none⟩ a').setCell ⟨g, 1, none⟩ b') g t #[a', b'] := by
  have := (h.set_ 0 a').set_ 1 b'
  simpa using this
theorem Blk.far2 {w : World} {g g' : Nat} {t : TypeId} {cs : Array Value} (h : Blk w g t cs) (hne : g ≠ g') (a b : Value) : Blk ((w.setCell ⟨g', 0, none⟩ a).setCell ⟨g', 1, none⟩ b) g t cs := (h.far (p := ⟨g', 0, none⟩) hne a).far (p := ⟨g', 1, none⟩) hne b
theorem own_kept {w w' : World} {base : Nat} {e : TypeId} {size : Nat} {A : Option Addr} {n c m : Nat} {xs : List Value} (h : w.ownsRow base e size (.slice A n c) m xs) (hb : Below w.heap.size w w') : w'.ownsRow base e size (.slice A n c) m xs :=
  h.kept (row := none) ⟨hb.os, hb.tape, hb.output, hb.size, fun j hj _ => hb.block j hj⟩ (by cases (Value.slice A n c).ownBlock <;> simp)
theorem below_set2 {B : Nat} {w0 w : World} (h : Below B w0 w) {g : Nat} (hg : B ≤ g) (a b : Value) : Below B w0 ((w.setCell ⟨g, 0, none⟩ a).setCell ⟨g, 1, none⟩ b) := (h.setCell hg a).setCell hg b
theorem own_far2 {w : World} {base : Nat} {e : TypeId} {size n : Nat} {v : Value} {xs : List Value} (h : w.ownsRow base e size v n xs) {g : Nat} (hne : v.ownBlock ≠ some g) (a b : Value) : ((w.setCell ⟨g, 0, none⟩ a).setCell ⟨g, 1, none⟩ b).ownsRow base e size v n xs := own_far (own_far h hne a) hne b

set_option maxRecDepth 100000 in
set_option maxHeartbeats 4000000 in
theorem row_any (A : Option Addr) (c : Nat) (l : List Int) (w : World) (hr : RdI w A l) (hn : l.length ≤ 1000) (hok : ∀ x ∈ l, I64 x) :
    Calls Try.prog 11 #[.slice A l.length c] w (RetOf 5 (codes l) w) := by
  obtain ⟨n, hnl⟩ : ∃ n, l.length = n := ⟨_, rfl⟩
  rw [hnl] at hn
  rw [hnl]
  have HN := Lib.hid hnl
  have HOK := Lib.hid hok
  obtain ⟨L', hL'⟩ : ∃ L', codes l = L' := ⟨_, rfl⟩
  rw [hL']
  have HL' := Lib.hid hL'
  clear hnl hok hL'
  have hn' : (n : Int) ≤ 1000 := by omega
  go_enter Try.func11, Try.ntmps11
  go_wp2_with fail
  go_loopw [4] (fun i wr => ∃ (k : Nat) (A' : Option Addr) (c' m : Nat) (B' : List Int), k ≤ n ∧ i = .int .i64 k ∧ Hid (Packs B' (codes (l.take k))) ∧ Hid ((codes (l.take k)).length = m) ∧ Hid (Blk wr w.heap.size 27 #[.slice none 0 0, .int .i64 0]) ∧ Hid (Blk wr (w.heap.size + 1) 27 #[.slice A' B'.length c', .int .i64 (m : Int)]) ∧ wr.ownsRow w.heap.size 5 1 (.slice A' B'.length c') B'.length (u8s B') ∧ Below w.heap.size w wr) (fun i _ => n - (intOf i).toNat)
  case atStart =>
    exact ⟨0, none, 0, 0, [], Nat.zero_le _, rfl, Lib.hid packs_nil, Lib.hid rfl, Lib.hid ((Blk.new w _ _).alloc _), Lib.hid (blk_at (by simp)), World.ownsRow_nil _ _ _ _, ((Below.refl _ _).alloc (Nat.le_refl _) _).alloc (by simp) _⟩
  case round =>
    obtain ⟨wo, rfl⟩ : ∃ wo : World, wo = wr := ⟨_, rfl⟩
    obtain ⟨k, A', c', m, B', hk, rfl, HP, HM, HB0, HB1, hown, hbel⟩ := hrel
    have hrd := hr.below hbel
    have hk' : (k : Int) ≤ n := by omega
    have z0 := HB0.out.lt
    have z1 := HB1.out.lt
    by_cases h0 : k = n
    · subst h0
      have hLa : codes (l.take k) = L' := by rw [← HL'.out, List.take_of_length_le (by rw [HN.out]; exact Nat.le_refl _)]
      have HP2 := HP.out
      have HM2 := HM.out
      rw [hLa] at HP2 HM2
      subst HM2
      have b0 := HB0.out.cell 0
      have b1 := HB0.out.cell 1
      have f0 := HB0.out.frozen
      have c0 := HB1.out.cell 0
      have c1 := HB1.out.cell 1
      have hne := own_blk_ne hown HB0.out (by decide)
      clear hLa
      have HPP := Lib.hid HP2
      clear HP2
      go_wp2_with fail
      refine bodyPost_ret (v := .agg #[.slice A' B'.length c', .int .i64 (L'.length : Int)]) (by simp [results, Try.results11, go_sem, b0, b1]) rfl ?_
      exact ⟨A', c', B', rfl, HPP.out, own_far2 hown hne _ _, below_set2 hbel (Nat.le_refl _) _ _⟩
    · have hlt : k < n := by omega
      have hltI : (k : Int) < (n : Int) := by omega
      have hk0 : (0 : Int) ≤ (k : Int) := by omega
      have hlt2 : decide (k < n) = true := by simp; omega
      obtain ⟨v, hx⟩ : ∃ x, l[k]? = some x := ⟨l[k]'(by rw [HN.out]; exact hlt), List.getElem?_eq_getElem (by rw [HN.out]; exact hlt)⟩
      have hv : I64 v := HOK.out _ (List.mem_of_getElem? hx)
      have hlenB : (B'.length : Int) ≤ 900000 := by
        have h1 := HP.out.len
        have h2 := codes_len (l.take k)
        rw [List.length_take, HN.out] at h2
        omega
      have hzp := fun wx h => zput_sound A' c' B' (codes (l.take k)) v wx h HP.out hlenB hv
      have hsn : codes (l.take (k + 1)) = codes (l.take k) ++ code v := by rw [take_snoc' hx, codes_snoc]
      rw [← hsn, HM.out] at hzp
      have HZ := Lib.hid hzp
      obtain ⟨g, o, rfl, hg, e0⟩ := hrd.at_ hx
      have HS0 : Hid (RoS (w.heap.size + 1) g (o + k) (.slice A' B'.length c') (.int .i64 (m : Int)) v wo) := Lib.hid ⟨HB1.out.cell 0, HB1.out.cell 1, e0⟩
      have HO := Lib.hid hown
      obtain ⟨bl, hbl⟩ : ∃ n, B'.length = n := ⟨_, rfl⟩
      rw [hbl] at HZ HS0 HO HB1
      obtain ⟨m2, hm2⟩ : ∃ m, (codes (l.take (k + 1))).length = m := ⟨_, rfl⟩
      have HM2 := Lib.hid hm2
      have hro : Rd wo A' B' := Rd.of_own hown
      clear hx hv hlenB hzp hsn hrd h0 e0 hown hbl hm2 HM
      go_upto_region 5 with fail
      go_cut [5, 6] (fun s5 s6 wx => s6 = .int .u16 0 ∧ ∃ (gb : Nat) (A2 : Option Addr) (c2 : Nat) (B2 : List Int), s5 = .pointer (some ⟨gb, 0, none⟩) ∧ Hid (Packs B2 (codes (l.take (k + 1)))) ∧ Hid (Blk wx w.heap.size 27 #[.slice none 0 0, .int .i64 0]) ∧ Hid (Blk wx (w.heap.size + 1) 27 #[.slice A' bl c', .int .i64 (m : Int)]) ∧ Hid (Blk wx gb 27 #[.slice A2 B2.length c2, .int .i64 (m2 : Int)]) ∧ gb ≠ w.heap.size ∧ gb ≠ w.heap.size + 1 ∧ wx.ownsRow w.heap.size 5 1 (.slice A2 B2.length c2) B2.length (u8s B2) ∧ Below w.heap.size w wx)
      case first =>
        have hC0 : Below wo.heap.size wo wo.drew := (Below.refl _ _).drew
        have q0 : w.heap.size < wo.heap.size := z0
        have q1 : w.heap.size + 1 < wo.heap.size := z1
        go_region_held3 (fun wx => wx.cell? ⟨w.heap.size + 1, 0, none⟩ = some (.slice A' bl c') ∧ wx.cell? ⟨w.heap.size + 1, 1, none⟩ = some (.int .i64 (m : Int)) ∧ wx.cell? ⟨g, o + k, none⟩ = some (.int .i64 v))
          ((show RoS (w.heap.size + 1) g (o + k) (.slice A' bl c') (.int .i64 (m : Int)) v _; with_reducible first | exact HS0.out.drew | exact HS0.out.below (hC0.alloc hC0.size _) z1 hg | exact HS0.out.below (((Below.refl _ _).alloc (Nat.le_refl _) _).drew) z1 hg | exact hS1 | exact HS0.out.below (hC1.alloc hC1.size _) z1 hg | exact HS0.out.below (below_set2 hC1 (Nat.le_refl _) _ _) z1 hg | exact HS0.out.below (below_set2 (hC1.alloc hC1.size _) hC1.size _ _) z1 hg | fail))
          ((first
            | (go_at_call 16; ((with_reducible refine (HZ.out _ ?_).mono ?_); (first | exact hro.drew | exact (hro.alloc _).drew | exact hro.drew.alloc _); (rintro e w1 ⟨A2, c2, B2, rfl, hp2, hown2, hb1⟩); have hC1 : Below wo.heap.size wo w1 := (by first | exact hC0.trans (hb1.mono hC0.size) | exact (hC0.alloc hC0.size _).trans (hb1.mono (hC0.alloc hC0.size _).size)); have hS1 : RoS (w.heap.size + 1) g (o + k) (.slice A' bl c') (.int .i64 (m : Int)) v w1 := HS0.out.below hC1 z1 hg; rw [HM2.out]; (first | (have T6 : Blk w1 wo.heap.size 27 #[.slice none 0 0, .int .i64 0] := (Blk.new wo.drew _ _).below hb1 (by simp); have m0 := T6.cell 0; have m1 := T6.cell 1; have fm := T6.frozen) | skip)))))
        all_goals
          go_wp2_with fail
          go_meet
          have X0 := HB0.out.below hC1 z0
          have X1 := HB1.out.below hC1 z1
          have hbx := hbel.trans (hC1.mono hbel.size)
          have hown3 : w1.ownsRow w.heap.size 5 1 (.slice A2 B2.length c2) B2.length (u8s B2) := own_base hown2 (by have := hC0.size; first | exact Nat.le_of_lt z0 | (simp; omega))
          (first | (have T7 := T6.set2 (a' := .slice A2 B2.length c2) (b' := .int .i64 (m2 : Int)); have hne7 := own_blk_ne hown3 T6 (by decide)) | skip)
          first
            | exact ⟨rfl, _, A2, c2, B2, rfl, Lib.hid hp2, Lib.hid (X0.far2 (by omega) _ _), Lib.hid (X1.far2 (by omega) _ _), Lib.hid T7, by omega, by omega, own_far2 hown3 hne7 _ _, below_set2 hbx (by omega) _ _⟩
            | exact ⟨rfl, _, A2, c2, B2, rfl, Lib.hid hp2, Lib.hid (X0.alloc _), Lib.hid (X1.alloc _), Lib.hid (Blk.new _ _ _), Nat.ne_of_gt X0.lt, Nat.ne_of_gt X1.lt, hown3.alloc _, hbx.alloc hbx.size _⟩
            | fail
      case rest =>
        obtain ⟨rfl, gb, A2, c2, B2, rfl, HP2, HC0, HC1, HC2, hgb0, hgb1, hown2, hbc⟩ := hcut
        have p0 := HC2.out.cell 0
        have p1 := HC2.out.cell 1
        have q0 := HC1.out.cell 0
        have q1 := HC1.out.cell 1
        have fq := HC1.out.frozen
        have hne := own_blk_ne hown2 HC1.out (by decide)
        go_wp2_with fail
        go_roundw
        case rel => exact ⟨k + 1, A2, c2, m2, B2, by omega, by go_num, HP2, HM2, Lib.hid (HC0.out.far2 (by omega) _ _), Lib.hid HC1.out.set2, own_far2 hown2 hne _ _, below_set2 hbc (Nat.le_succ _) _ _⟩
        case measure => simp [intOf]; omega
end Go.Proofs.Yteemncpmcfflmaa
