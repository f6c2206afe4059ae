/-
  Rows.BitHalvesSaid is proved: for all bits by value and every three places, cutting in three and joining again answers the same bits, and a cut of a cut is a cut. No condition.
-/
import Derived.Test.YtifjanlcfjajpaaPacks
import Derived.Deep.DeepCutAuto
import Derived.Test.YtifjanlcfjajpaaPl5
namespace Go.Proofs.Ytifjanlcfjajpaa
open Go.ChangeShapes Go.WideShapes Go.ChangeAt Go.RowKit
open Pl
set_option linter.unusedVariables false

theorem halBlk {w : World} {t : TypeId} {cs : Array Value} : Blk (w.alloc (.cells cs t)) w.heap.size t cs := Blk.new w t cs

theorem pick_mod (i : Int) (m : Nat) : ∃ F : Nat, F ≤ m ∧ (i < 0 → F = 0) ∧ (¬ i < 0 → i % ((m : Int) + 1) = (F : Int)) := by
  by_cases h : i < 0
  · exact ⟨0, Nat.zero_le _, fun _ => rfl, fun h' => absurd h h'⟩
  · have h1 := Int.emod_nonneg i (b := (m : Int) + 1) (by omega)
    have h2 := Int.emod_lt_of_pos i (b := (m : Int) + 1) (by omega)
    exact ⟨(i % ((m : Int) + 1)).toNat, by omega, fun h' => absurd h' h, fun _ => by omega⟩

theorem rdBits3 {w : World} (x y z : BitV) (t : TypeId) (hx : Rd w x.A x.B) (hy : Rd w y.A y.B) (hz : Rd w z.A z.B) :
    RdBits (w.alloc (.cells #[.slice x.A x.B.length x.c, .int .i64 x.N, .slice y.A y.B.length y.c, .int .i64 y.N, .slice z.A z.B.length z.c, .int .i64 z.N] t)) (some ⟨w.heap.size, 0, none⟩) [x, y, z] := by
  refine .inr ⟨w.heap.size, 0, rfl, by simp, fun i v hi => ?_⟩
  match i, hi with
  | 0, hi => injection hi with hi; subst hi; exact ⟨by simp, by simp, hx.alloc _⟩
  | 1, hi => injection hi with hi; subst hi; exact ⟨by simp, by simp, hy.alloc _⟩
  | 2, hi => injection hi with hi; subst hi; exact ⟨by simp, by simp, hz.alloc _⟩
  | i + 3, hi => simp at hi

theorem join3 {w : World} {A3 A4 A5 : Option Addr} {c3 c4 c5 : Nat} {B3 B4 B5 : List Int} {L3 L4 L5 : List Bool} {n3 n4 n5 : Nat} (h3 : Rd w A3 B3) (h4 : Rd w A4 B4) (h5 : Rd w A5 B5)
    (p3 : Packs B3 L3) (p4 : Packs B4 L4) (p5 : Packs B5 L5) (l3 : L3.length = n3) (l4 : L4.length = n4) (l5 : L5.length = n5) (b3 : n3 ≤ 12000) (b4 : n4 ≤ 12000) (b5 : n5 ≤ 12000) {gs : Nat} (hgs : w.heap.size = gs) :
    Calls Try.prog 22 #[.slice (some ⟨gs, 0, none⟩) 3 3] (w.alloc (.cells #[.slice A3 B3.length c3, .int .i64 (n3 : Int), .slice A4 B4.length c4, .int .i64 (n4 : Int), .slice A5 B5.length c5, .int .i64 (n5 : Int)] 24))
      (RetBits 5 .u16 (L3 ++ (L4 ++ L5)) (w.alloc (.cells #[.slice A3 B3.length c3, .int .i64 (n3 : Int), .slice A4 B4.length c4, .int .i64 (n4 : Int), .slice A5 B5.length c5, .int .i64 (n5 : Int)] 24))) := by
  subst l3 l4 l5 hgs
  have hr := rdBits3 ⟨A3, B3, c3, (L3.length : Int)⟩ ⟨A4, B4, c4, (L4.length : Int)⟩ ⟨A5, B5, c5, (L5.length : Int)⟩ 24 h3 h4 h5
  have ok : ∀ {A : Option Addr} {c : Nat} {B : List Int} {L : List Bool}, Packs B L → L.length ≤ 12000 → BitV.Ok ⟨A, B, c, (L.length : Int)⟩ ∧ Snd B (L.length : Int) := fun {A c B L} hp hb =>
    ⟨⟨hp.byts, ⟨by show (-9223372036854775808 : Int) ≤ (L.length : Int); omega, by show (L.length : Int) ≤ 9223372036854775807; omega⟩, by have := hp.len; show B.length ≤ 2000; omega⟩, snd_of_packs hp⟩
  have hj := join_sound _ 3 _ _ hr (by simp) (by
    intro x hx
    simp only [List.mem_cons, List.not_mem_nil, or_false] at hx
    rcases hx with rfl | rfl | rfl
    · exact ok p3 b3
    · exact ok p4 b4
    · exact ok p5 b5)
  have e : ([⟨A3, B3, c3, (L3.length : Int)⟩, ⟨A4, B4, c4, (L4.length : Int)⟩, ⟨A5, B5, c5, (L5.length : Int)⟩] : List BitV).flatMap BitV.L = L3 ++ (L4 ++ L5) := by
    simp only [List.flatMap_cons, List.flatMap_nil, List.append_nil, BitV.L, Int.toNat_natCast, packs_bits p3, packs_bits p4, packs_bits p5]
  rw [e] at hj
  exact hj

theorem halves3 {L : List Bool} {m F G : Nat} (hm : L.length = m) (h : F + G ≤ m) : sub L 0 (F - 0) ++ (sub L F (F + G - F) ++ sub L (F + G) (m - (F + G))) = L := by
  subst hm
  simp only [sub]
  rw [show F + G - F = G from by omega, show F - 0 = F from rfl, List.drop_zero, ← List.drop_drop, ]
  have h1 : (List.drop F L).take G ++ ((List.drop F L).drop G).take (L.length - (F + G)) = List.drop F L := by
    rw [List.take_of_length_le (l := (List.drop F L).drop G) (by simp only [List.length_drop]; omega), List.take_append_drop]
  rw [h1, List.take_append_drop]

set_option maxRecDepth 100000 in
set_option maxHeartbeats 4000000 in
theorem walk_BitHalves (w : World) (A : Option Addr) (c : Nat) (B : List Int) (N : Int) (hr : Rd w A B) (hB : Byts B) (hN : -9223372036854775808 ≤ N ∧ N ≤ 9223372036854775807) (i : Int) (hi : -9223372036854775808 ≤ i ∧ i ≤ 9223372036854775807) (k : Int) (hk : -9223372036854775808 ≤ k ∧ k ≤ 9223372036854775807) (j : Int) (hj : -9223372036854775808 ≤ j ∧ j ≤ 9223372036854775807) :
    Calls Try.prog 11 #[.agg #[.slice A B.length c, .int .i64 N], .int .i64 i, .int .i64 k, .int .i64 j] w fun e w' => e = .returned (.bool true) ∧ Below w.heap.size w w' := by
  by_cases hbig : (1500 : Int) < (B.length : Int)
  · have hd' : decide (1500 < B.length) = true := by simp; omega
    clear hN hB hr
    go_enter Try.func11, Try.ntmps11
    go_wp2_with fail
    refine (known_any _).mono ?_
    rintro e w1 ⟨rfl, hb1⟩
    go_wp2_with fail
    go_ret
    exact ⟨rfl, ((Below.refl _ _).alloc (Nat.le_refl _) _).trans (hb1.mono (by simp))⟩
  · have hd' : decide (1500 < B.length) = false := by simp; omega
    obtain ⟨L, hL⟩ : ∃ L, bitsOf B (someN B N) = L := ⟨_, rfl⟩
    obtain ⟨m, hm⟩ : ∃ m, L.length = m := ⟨_, rfl⟩
    have hm12 : (m : Int) ≤ 12000 := by rw [← hm, ← hL, bitsOf_length]; unfold someN; omega
    have hSM := fun wx (h : Rd wx A B) => some_any A c B N wx h hB hN (by omega)
    rw [hL] at hSM
    obtain ⟨n, hn⟩ : ∃ n, B.length = n := ⟨_, rfl⟩
    rw [hn] at hd' hSM
    have hl : n ≤ 1500 := by omega
    have HSM := Lib.hid hSM
    have HM := Lib.hid hm
    rw [hn]
    clear hB hN hbig hSM hL hm hn
    go_enter Try.func11, Try.ntmps11
    go_wp2_with fail
    refine (known_any _).mono ?_
    rintro e w1 ⟨rfl, hb1⟩
    have hbw1 : Below w.heap.size w w1 := ((Below.refl _ _).alloc (Nat.le_refl _) _).trans (hb1.mono (by simp))
    have HT5 := Lib.hid (halBlk.below hb1 (by simp) : Blk w1 w.heap.size 24 #[.slice A n c, .int .i64 N])
    have t50 := HT5.out.cell 0
    have t51 := HT5.out.cell 1
    clear hb1
    go_wp2_with fail
    refine (HSM.out _ (hr.below hbw1)).mono ?_
    rintro e w2 ⟨A2, c2, B2, rfl, hp2, own2, hb2⟩
    rw [HM.out]
    have HP2 := Lib.hid hp2
    have hB2 : (B2.length : Int) ≤ 2000 := by have := hp2.len; have := HM.out; omega
    have hbw2 : Below w.heap.size w w2 := hbw1.trans (hb2.mono hbw1.size)
    have hR2 := Rd.of_own own2
    clear t50 t51 HT5 own2 hb2 hp2
    have hm0 : ¬ ((m : Int) + 1 = 0) := by omega
    have hm1 : (m : Int) + 1 ≤ 12001 := by omega
    obtain ⟨F, hFm, hF0, hF1⟩ := pick_mod i m
    obtain ⟨R, hR⟩ : ∃ R : Nat, m - F = R := ⟨_, rfl⟩
    obtain ⟨G, hGm, hG0, hG1⟩ := pick_mod k R
    obtain ⟨J, hJm, hJ0, hJ1⟩ := pick_mod j G
    have hRi : (m : Int) - (F : Int) = (R : Int) := by omega
    have hFR : F + R = m := by omega
    have hRm : R ≤ m := by omega
    have HRi := Lib.hid hRi
    have HF0 := Lib.hid hF0
    have HF1 := Lib.hid hF1
    have HG0 := Lib.hid hG0
    have HG1 := Lib.hid hG1
    have HJ0 := Lib.hid hJ0
    have HJ1 := Lib.hid hJ1
    have HFR := Lib.hid hFR
    clear hRi hF0 hF1 hG0 hG1 hJ0 hJ1 hR hFR
    obtain ⟨wy, hwy⟩ : ∃ wy, w2.alloc (.cells #[.slice A2 B2.length c2, .int .i64 (m : Int)] 24) = wy := ⟨_, rfl⟩
    have HWY := Lib.hid hwy
    clear hwy
    go_upto_region 4 with fail
    go_cut [10] (fun s10 wx => wx = wy ∧ s10 = .int .i64 (F : Int))
    case first =>
      by_cases hi0 : i < 0
      · have := HF0.out hi0
        subst this
        go_wp2_with fail
        go_meet
        exact ⟨HWY.out, rfl⟩
      · have hf := HF1.out (Int.not_lt.1 hi0)
        go_wp2_with fail
        go_meet
        exact ⟨HWY.out, rfl⟩
    case rest =>
      obtain ⟨hwe, rfl⟩ := hcut; replace hwe := hwe.symm; subst hwe
      have t0 : wy.cell? ⟨w2.heap.size, 0, none⟩ = some (.slice A2 B2.length c2) := by rw [← HWY.out]; simp
      have t1 : wy.cell? ⟨w2.heap.size, 1, none⟩ = some (.int .i64 (m : Int)) := by rw [← HWY.out]; simp
      have hr0 : ¬ ((R : Int) + 1 = 0) := by omega
      have hr1 : (R : Int) + 1 ≤ 12001 := by omega
      go_upto_region 5 with fail
      go_cut [11] (fun s11 wx => wx = wy ∧ s11 = .int .i64 ((F + G : Nat) : Int))
      case first =>
        have hmf := HRi.out
        by_cases hk0 : k < 0
        · have := HG0.out hk0
          subst this
          go_wp2_with fail
          go_meet
          exact ⟨rfl, by simp⟩
        · have hf := HG1.out (Int.not_lt.1 hk0)
          go_wp2_with fail
          go_meet
          exact ⟨rfl, by simp⟩
      case rest =>
        obtain ⟨hwe, rfl⟩ := hcut; replace hwe := hwe.symm; subst hwe
        have HCA := Lib.hid (fun (P T : Int) (p t : Nat) (hP : P = (p : Int)) (hT : T = (t : Int)) (h1 : p ≤ t) (h2 : t ≤ m) wx (h : Rd wx A2 B2) => by
          have := cut_sound A2 c2 B2 L p t wx h HP2.out (by omega) h1 (by rw [HM.out]; exact h2)
          rw [HM.out, ← hP, ← hT] at this
          exact this)
        have hRy : Rd wy A2 B2 := by rw [← HWY.out]; exact hR2.alloc _
        have hbwy : Below w.heap.size w wy := by rw [← HWY.out]; exact hbw2.alloc hbw2.size _
        have HTy : Hid (Blk wy w2.heap.size 24 #[.slice A2 B2.length c2, .int .i64 (m : Int)]) := Lib.hid (by rw [← HWY.out]; exact halBlk)
        clear t0 t1 hR2 HWY
        have hFG : F + G ≤ m := by have := HFR.out; omega
        obtain ⟨X, hX⟩ : ∃ X, m - (F + G) = X := ⟨_, rfl⟩
        obtain ⟨Z, hZ⟩ : ∃ Z, G - J = Z := ⟨_, rfl⟩
        have hZ2 : F + G - (F + J) = Z := by omega
        have hXm : X ≤ m := by omega
        have HX := Lib.hid hX
        have HZ := Lib.hid hZ
        have HZ2 := Lib.hid hZ2
        clear hX hZ hZ2
        have c0y := HTy.out.cell 0
        have c1y := HTy.out.cell 1
        go_wp2_with fail
        refine (HCA.out _ _ 0 F rfl rfl (Nat.zero_le _) (by omega) _ hRy).mono ?_
        rintro e w3 ⟨A3, c3, B3, rfl, hp3, own3, hb3⟩
        clear c0y c1y
        have hl3 : (sub L 0 (F - 0)).length = F := by rw [sub_length (by rw [HM.out]; omega)]; omega
        rw [hl3]
        have hRp := Rd.of_own own3
        have hbw3 := hbwy.trans (hb3.mono hbwy.size)
        replace HTy := Lib.hid (HTy.out.below hb3 HTy.out.lt)
        replace hRy := hRy.below hb3
        replace HTy := Lib.hid (HTy.out.alloc (.cells #[.slice A3 B3.length c3, .int .i64 ((F : Nat) : Int)] 24))
        replace hRy := hRy.alloc (.cells #[.slice A3 B3.length c3, .int .i64 ((F : Nat) : Int)] 24)
        replace hRp := hRp.alloc (.cells #[.slice A3 B3.length c3, .int .i64 ((F : Nat) : Int)] 24)
        have HTp := Lib.hid (halBlk (w := w3) (t := 24) (cs := #[.slice A3 B3.length c3, .int .i64 ((F : Nat) : Int)]))
        have hbwz3 : Below w.heap.size w _ := hbw3.alloc hbw3.size (.cells #[.slice A3 B3.length c3, .int .i64 ((F : Nat) : Int)] 24)
        have HP3 := Lib.hid hp3
        have HL3 := Lib.hid hl3
        clear own3 hb3 hp3 hl3
        have c0y := HTy.out.cell 0
        have c1y := HTy.out.cell 1
        have c0p := HTp.out.cell 0
        have c1p := HTp.out.cell 1
        go_wp2_with fail
        refine (HCA.out _ _ F (F + G) rfl rfl (by omega) (by omega) _ hRy).mono ?_
        rintro e w4 ⟨A4, c4, B4, rfl, hp4, own4, hb4⟩
        clear c0y c1y c0p c1p
        have hl4 : (sub L F (F + G - F)).length = G := by rw [sub_length (by rw [HM.out]; omega)]; omega
        rw [hl4]
        have hRq := Rd.of_own own4
        have hbw4 := hbwz3.trans (hb4.mono hbwz3.size)
        replace HTy := Lib.hid (HTy.out.below hb4 HTy.out.lt)
        replace hRy := hRy.below hb4
        replace HTp := Lib.hid (HTp.out.below hb4 HTp.out.lt)
        replace hRp := hRp.below hb4
        replace HTy := Lib.hid (HTy.out.alloc (.cells #[.slice A4 B4.length c4, .int .i64 ((G : Nat) : Int)] 24))
        replace hRy := hRy.alloc (.cells #[.slice A4 B4.length c4, .int .i64 ((G : Nat) : Int)] 24)
        replace HTp := Lib.hid (HTp.out.alloc (.cells #[.slice A4 B4.length c4, .int .i64 ((G : Nat) : Int)] 24))
        replace hRp := hRp.alloc (.cells #[.slice A4 B4.length c4, .int .i64 ((G : Nat) : Int)] 24)
        replace hRq := hRq.alloc (.cells #[.slice A4 B4.length c4, .int .i64 ((G : Nat) : Int)] 24)
        have HTq := Lib.hid (halBlk (w := w4) (t := 24) (cs := #[.slice A4 B4.length c4, .int .i64 ((G : Nat) : Int)]))
        have hbwz4 : Below w.heap.size w _ := hbw4.alloc hbw4.size (.cells #[.slice A4 B4.length c4, .int .i64 ((G : Nat) : Int)] 24)
        have HP4 := Lib.hid hp4
        have HL4 := Lib.hid hl4
        clear own4 hb4 hp4 hl4
        have c0y := HTy.out.cell 0
        have c1y := HTy.out.cell 1
        have c0p := HTp.out.cell 0
        have c1p := HTp.out.cell 1
        have c0q := HTq.out.cell 0
        have c1q := HTq.out.cell 1
        go_wp2_with fail
        refine (HCA.out _ _ (F + G) m rfl rfl (by omega) (by omega) _ hRy).mono ?_
        rintro e w5 ⟨A5, c5, B5, rfl, hp5, own5, hb5⟩
        clear c0y c1y c0p c1p c0q c1q
        have hl5 : (sub L (F + G) (m - (F + G))).length = X := by rw [sub_length (by rw [HM.out]; omega), HX.out]
        rw [hl5]
        have hRr := Rd.of_own own5
        have hbw5 := hbwz4.trans (hb5.mono hbwz4.size)
        replace HTy := Lib.hid (HTy.out.below hb5 HTy.out.lt)
        replace hRy := hRy.below hb5
        replace HTp := Lib.hid (HTp.out.below hb5 HTp.out.lt)
        replace hRp := hRp.below hb5
        replace HTq := Lib.hid (HTq.out.below hb5 HTq.out.lt)
        replace hRq := hRq.below hb5
        replace HTy := Lib.hid (HTy.out.alloc (.cells #[.slice A5 B5.length c5, .int .i64 ((X : Nat) : Int)] 24))
        replace hRy := hRy.alloc (.cells #[.slice A5 B5.length c5, .int .i64 ((X : Nat) : Int)] 24)
        replace HTp := Lib.hid (HTp.out.alloc (.cells #[.slice A5 B5.length c5, .int .i64 ((X : Nat) : Int)] 24))
        replace hRp := hRp.alloc (.cells #[.slice A5 B5.length c5, .int .i64 ((X : Nat) : Int)] 24)
        replace HTq := Lib.hid (HTq.out.alloc (.cells #[.slice A5 B5.length c5, .int .i64 ((X : Nat) : Int)] 24))
        replace hRq := hRq.alloc (.cells #[.slice A5 B5.length c5, .int .i64 ((X : Nat) : Int)] 24)
        replace hRr := hRr.alloc (.cells #[.slice A5 B5.length c5, .int .i64 ((X : Nat) : Int)] 24)
        have HTr := Lib.hid (halBlk (w := w5) (t := 24) (cs := #[.slice A5 B5.length c5, .int .i64 ((X : Nat) : Int)]))
        have hbwz5 : Below w.heap.size w _ := hbw5.alloc hbw5.size (.cells #[.slice A5 B5.length c5, .int .i64 ((X : Nat) : Int)] 24)
        have HP5 := Lib.hid hp5
        have HL5 := Lib.hid hl5
        clear own5 hb5 hp5 hl5
        have c0y := HTy.out.cell 0
        have c1y := HTy.out.cell 1
        have c0p := HTp.out.cell 0
        have c1p := HTp.out.cell 1
        have c0q := HTq.out.cell 0
        have c1q := HTq.out.cell 1
        have c0r := HTr.out.cell 0
        have c1r := HTr.out.cell 1
        go_wp2_with fail
        clear c0y c1y c0p c1p c0q c1q c0r c1r
        have JOIN := join3 (c3 := c3) (c4 := c4) (c5 := c5) hRp hRq hRr HP3.out HP4.out HP5.out HL3.out HL4.out HL5.out (by omega) (by omega) (by omega) (gs := w5.heap.size + 1) (by simp)
        rw [halves3 HM.out hFG] at JOIN
        with_reducible refine JOIN.mono ?_
        rintro e w6 ⟨A6, c6, B6, rfl, hp6, own6, hb6⟩
        clear JOIN
        rw [HM.out]
        obtain rfl := packs_inj hp6 HP2.out
        have hRa := Rd.of_own own6
        have hbwr : Below w.heap.size w _ := hbwz5.alloc hbwz5.size (.cells #[.slice A3 B3.length c3, .int .i64 ((F : Nat) : Int), .slice A4 B4.length c4, .int .i64 ((G : Nat) : Int), .slice A5 B5.length c5, .int .i64 ((X : Nat) : Int)] 24)
        replace HTy := Lib.hid (HTy.out.alloc (.cells #[.slice A3 B3.length c3, .int .i64 ((F : Nat) : Int), .slice A4 B4.length c4, .int .i64 ((G : Nat) : Int), .slice A5 B5.length c5, .int .i64 ((X : Nat) : Int)] 24))
        replace hRy := hRy.alloc (.cells #[.slice A3 B3.length c3, .int .i64 ((F : Nat) : Int), .slice A4 B4.length c4, .int .i64 ((G : Nat) : Int), .slice A5 B5.length c5, .int .i64 ((X : Nat) : Int)] 24)
        replace HTp := Lib.hid (HTp.out.alloc (.cells #[.slice A3 B3.length c3, .int .i64 ((F : Nat) : Int), .slice A4 B4.length c4, .int .i64 ((G : Nat) : Int), .slice A5 B5.length c5, .int .i64 ((X : Nat) : Int)] 24))
        replace hRp := hRp.alloc (.cells #[.slice A3 B3.length c3, .int .i64 ((F : Nat) : Int), .slice A4 B4.length c4, .int .i64 ((G : Nat) : Int), .slice A5 B5.length c5, .int .i64 ((X : Nat) : Int)] 24)
        replace HTq := Lib.hid (HTq.out.alloc (.cells #[.slice A3 B3.length c3, .int .i64 ((F : Nat) : Int), .slice A4 B4.length c4, .int .i64 ((G : Nat) : Int), .slice A5 B5.length c5, .int .i64 ((X : Nat) : Int)] 24))
        replace hRq := hRq.alloc (.cells #[.slice A3 B3.length c3, .int .i64 ((F : Nat) : Int), .slice A4 B4.length c4, .int .i64 ((G : Nat) : Int), .slice A5 B5.length c5, .int .i64 ((X : Nat) : Int)] 24)
        replace HTr := Lib.hid (HTr.out.alloc (.cells #[.slice A3 B3.length c3, .int .i64 ((F : Nat) : Int), .slice A4 B4.length c4, .int .i64 ((G : Nat) : Int), .slice A5 B5.length c5, .int .i64 ((X : Nat) : Int)] 24))
        replace hRr := hRr.alloc (.cells #[.slice A3 B3.length c3, .int .i64 ((F : Nat) : Int), .slice A4 B4.length c4, .int .i64 ((G : Nat) : Int), .slice A5 B5.length c5, .int .i64 ((X : Nat) : Int)] 24)
        have hbw6 := hbwr.trans (hb6.mono hbwr.size)
        replace HTy := Lib.hid (HTy.out.below hb6 HTy.out.lt)
        replace hRy := hRy.below hb6
        replace HTp := Lib.hid (HTp.out.below hb6 HTp.out.lt)
        replace hRp := hRp.below hb6
        replace HTq := Lib.hid (HTq.out.below hb6 HTq.out.lt)
        replace hRq := hRq.below hb6
        replace HTr := Lib.hid (HTr.out.below hb6 HTr.out.lt)
        replace hRr := hRr.below hb6
        replace HTy := Lib.hid (HTy.out.alloc (.cells #[.slice A6 B6.length c6, .int .i64 (m : Int)] 24))
        replace hRy := hRy.alloc (.cells #[.slice A6 B6.length c6, .int .i64 (m : Int)] 24)
        replace HTp := Lib.hid (HTp.out.alloc (.cells #[.slice A6 B6.length c6, .int .i64 (m : Int)] 24))
        replace hRp := hRp.alloc (.cells #[.slice A6 B6.length c6, .int .i64 (m : Int)] 24)
        replace HTq := Lib.hid (HTq.out.alloc (.cells #[.slice A6 B6.length c6, .int .i64 (m : Int)] 24))
        replace hRq := hRq.alloc (.cells #[.slice A6 B6.length c6, .int .i64 (m : Int)] 24)
        replace HTr := Lib.hid (HTr.out.alloc (.cells #[.slice A6 B6.length c6, .int .i64 (m : Int)] 24))
        replace hRr := hRr.alloc (.cells #[.slice A6 B6.length c6, .int .i64 (m : Int)] 24)
        replace hRa := hRa.alloc (.cells #[.slice A6 B6.length c6, .int .i64 (m : Int)] 24)
        have HTa := Lib.hid (halBlk (w := w6) (t := 24) (cs := #[.slice A6 B6.length c6, .int .i64 (m : Int)]))
        have hbwz6 : Below w.heap.size w _ := hbw6.alloc hbw6.size (.cells #[.slice A6 B6.length c6, .int .i64 (m : Int)] 24)
        clear own6 hb6 hp6
        obtain ⟨wz, hwz⟩ : ∃ wz, w6.alloc (.cells #[.slice A6 B6.length c6, .int .i64 (m : Int)] 24) = wz := ⟨_, rfl⟩
        rw [hwz] at HTy hRy
        rw [hwz] at HTp hRp
        rw [hwz] at HTq hRq
        rw [hwz] at HTr hRr
        rw [hwz] at HTa hRa
        rw [hwz] at hbwz6
        have HWZ := Lib.hid hwz
        clear hwz
        have hg0 : ¬ ((F : Int) + (G : Int) - (F : Int) + 1 = 0) := by omega
        have hg1 : (F : Int) + (G : Int) ≤ 12000 := by omega
        have hg2 : 0 ≤ (F : Int) + (G : Int) := by omega
        go_upto_region 10 with fail
        go_cut [20] (fun s20 wx => wx = wz ∧ s20 = .int .i64 (J : Int))
        case first =>
          by_cases hj0 : j < 0
          · have := HJ0.out hj0
            subst this
            go_wp2_with fail
            go_meet
            exact ⟨HWZ.out, rfl⟩
          · have hf : j % ((F : Int) + (G : Int) - (F : Int) + 1) = (J : Int) := by rw [show (F : Int) + (G : Int) - (F : Int) + 1 = (G : Int) + 1 from by omega]; exact HJ1.out (Int.not_lt.1 hj0)
            go_wp2_with fail
            go_meet
            exact ⟨HWZ.out, rfl⟩
        case rest =>
          obtain ⟨hwe, rfl⟩ := hcut; replace hwe := hwe.symm; subst hwe
          have HCQ := Lib.hid (fun (P T : Int) (p t : Nat) (hP : P = (p : Int)) (hT : T = (t : Int)) (h1 : p ≤ t) (h2 : t ≤ G) wx (h : Rd wx A4 B4) => by
            have := cut_sound A4 c4 B4 _ p t wx h HP4.out (by have := HP4.out.len; rw [HL4.out] at this; omega) h1 (by rw [HL4.out]; exact h2)
            rw [HL4.out, ← hP, ← hT] at this
            exact this)
          have c0y := HTy.out.cell 0
          have c1y := HTy.out.cell 1
          have c0p := HTp.out.cell 0
          have c1p := HTp.out.cell 1
          have c0q := HTq.out.cell 0
          have c1q := HTq.out.cell 1
          have c0r := HTr.out.cell 0
          have c1r := HTr.out.cell 1
          have c0a := HTa.out.cell 0
          have c1a := HTa.out.cell 1
          go_wp2_with fail
          refine (HCQ.out _ _ J G rfl (by omega) (by omega) (by omega) _ hRq).mono ?_
          rintro e w7 ⟨A7, c7, B7, rfl, hp7, own7, hb7⟩
          clear c0y c1y c0p c1p c0q c1q c0r c1r c0a c1a
          have hl7 : (sub (sub L F (F + G - F)) J (G - J)).length = Z := by rw [sub_length (by rw [HL4.out]; omega), HZ.out]
          rw [hl7]
          have hRs := Rd.of_own own7
          have hbw7 := hbwz6.trans (hb7.mono hbwz6.size)
          replace HTy := Lib.hid (HTy.out.below hb7 HTy.out.lt)
          replace hRy := hRy.below hb7
          replace HTp := Lib.hid (HTp.out.below hb7 HTp.out.lt)
          replace hRp := hRp.below hb7
          replace HTq := Lib.hid (HTq.out.below hb7 HTq.out.lt)
          replace hRq := hRq.below hb7
          replace HTr := Lib.hid (HTr.out.below hb7 HTr.out.lt)
          replace hRr := hRr.below hb7
          replace HTa := Lib.hid (HTa.out.below hb7 HTa.out.lt)
          replace hRa := hRa.below hb7
          replace HTy := Lib.hid (HTy.out.alloc (.cells #[.slice A7 B7.length c7, .int .i64 ((Z : Nat) : Int)] 24))
          replace hRy := hRy.alloc (.cells #[.slice A7 B7.length c7, .int .i64 ((Z : Nat) : Int)] 24)
          replace HTp := Lib.hid (HTp.out.alloc (.cells #[.slice A7 B7.length c7, .int .i64 ((Z : Nat) : Int)] 24))
          replace hRp := hRp.alloc (.cells #[.slice A7 B7.length c7, .int .i64 ((Z : Nat) : Int)] 24)
          replace HTq := Lib.hid (HTq.out.alloc (.cells #[.slice A7 B7.length c7, .int .i64 ((Z : Nat) : Int)] 24))
          replace hRq := hRq.alloc (.cells #[.slice A7 B7.length c7, .int .i64 ((Z : Nat) : Int)] 24)
          replace HTr := Lib.hid (HTr.out.alloc (.cells #[.slice A7 B7.length c7, .int .i64 ((Z : Nat) : Int)] 24))
          replace hRr := hRr.alloc (.cells #[.slice A7 B7.length c7, .int .i64 ((Z : Nat) : Int)] 24)
          replace HTa := Lib.hid (HTa.out.alloc (.cells #[.slice A7 B7.length c7, .int .i64 ((Z : Nat) : Int)] 24))
          replace hRa := hRa.alloc (.cells #[.slice A7 B7.length c7, .int .i64 ((Z : Nat) : Int)] 24)
          replace hRs := hRs.alloc (.cells #[.slice A7 B7.length c7, .int .i64 ((Z : Nat) : Int)] 24)
          have HTs := Lib.hid (halBlk (w := w7) (t := 24) (cs := #[.slice A7 B7.length c7, .int .i64 ((Z : Nat) : Int)]))
          have hbwz7 : Below w.heap.size w _ := hbw7.alloc hbw7.size (.cells #[.slice A7 B7.length c7, .int .i64 ((Z : Nat) : Int)] 24)
          have HP7 := Lib.hid hp7
          have HL7 := Lib.hid hl7
          clear own7 hb7 hp7 hl7
          have c0y := HTy.out.cell 0
          have c1y := HTy.out.cell 1
          have c0p := HTp.out.cell 0
          have c1p := HTp.out.cell 1
          have c0q := HTq.out.cell 0
          have c1q := HTq.out.cell 1
          have c0r := HTr.out.cell 0
          have c1r := HTr.out.cell 1
          have c0a := HTa.out.cell 0
          have c1a := HTa.out.cell 1
          have c0s := HTs.out.cell 0
          have c1s := HTs.out.cell 1
          go_wp2_with fail
          refine (HCA.out _ _ (F + J) (F + G) (by omega) (by omega) (by omega) (by omega) _ hRy).mono ?_
          rintro e w8 ⟨A8, c8, B8, rfl, hp8, own8, hb8⟩
          clear c0y c1y c0p c1p c0q c1q c0r c1r c0a c1a c0s c1s
          have hl8 : (sub L (F + J) (F + G - (F + J))).length = Z := by rw [sub_length (by rw [HM.out]; omega), HZ2.out]
          rw [hl8]
          have hRt := Rd.of_own own8
          have hbw8 := hbwz7.trans (hb8.mono hbwz7.size)
          replace HTy := Lib.hid (HTy.out.below hb8 HTy.out.lt)
          replace hRy := hRy.below hb8
          replace HTp := Lib.hid (HTp.out.below hb8 HTp.out.lt)
          replace hRp := hRp.below hb8
          replace HTq := Lib.hid (HTq.out.below hb8 HTq.out.lt)
          replace hRq := hRq.below hb8
          replace HTr := Lib.hid (HTr.out.below hb8 HTr.out.lt)
          replace hRr := hRr.below hb8
          replace HTa := Lib.hid (HTa.out.below hb8 HTa.out.lt)
          replace hRa := hRa.below hb8
          replace HTs := Lib.hid (HTs.out.below hb8 HTs.out.lt)
          replace hRs := hRs.below hb8
          replace HTy := Lib.hid (HTy.out.alloc (.cells #[.slice A8 B8.length c8, .int .i64 ((Z : Nat) : Int)] 24))
          replace hRy := hRy.alloc (.cells #[.slice A8 B8.length c8, .int .i64 ((Z : Nat) : Int)] 24)
          replace HTp := Lib.hid (HTp.out.alloc (.cells #[.slice A8 B8.length c8, .int .i64 ((Z : Nat) : Int)] 24))
          replace hRp := hRp.alloc (.cells #[.slice A8 B8.length c8, .int .i64 ((Z : Nat) : Int)] 24)
          replace HTq := Lib.hid (HTq.out.alloc (.cells #[.slice A8 B8.length c8, .int .i64 ((Z : Nat) : Int)] 24))
          replace hRq := hRq.alloc (.cells #[.slice A8 B8.length c8, .int .i64 ((Z : Nat) : Int)] 24)
          replace HTr := Lib.hid (HTr.out.alloc (.cells #[.slice A8 B8.length c8, .int .i64 ((Z : Nat) : Int)] 24))
          replace hRr := hRr.alloc (.cells #[.slice A8 B8.length c8, .int .i64 ((Z : Nat) : Int)] 24)
          replace HTa := Lib.hid (HTa.out.alloc (.cells #[.slice A8 B8.length c8, .int .i64 ((Z : Nat) : Int)] 24))
          replace hRa := hRa.alloc (.cells #[.slice A8 B8.length c8, .int .i64 ((Z : Nat) : Int)] 24)
          replace HTs := Lib.hid (HTs.out.alloc (.cells #[.slice A8 B8.length c8, .int .i64 ((Z : Nat) : Int)] 24))
          replace hRs := hRs.alloc (.cells #[.slice A8 B8.length c8, .int .i64 ((Z : Nat) : Int)] 24)
          replace hRt := hRt.alloc (.cells #[.slice A8 B8.length c8, .int .i64 ((Z : Nat) : Int)] 24)
          have HTt := Lib.hid (halBlk (w := w8) (t := 24) (cs := #[.slice A8 B8.length c8, .int .i64 ((Z : Nat) : Int)]))
          have hbwz8 : Below w.heap.size w _ := hbw8.alloc hbw8.size (.cells #[.slice A8 B8.length c8, .int .i64 ((Z : Nat) : Int)] 24)
          have HP8 := Lib.hid hp8
          have HL8 := Lib.hid hl8
          clear own8 hb8 hp8 hl8
          have HS1 := Lib.hid (fun wx (h1 : Rd wx A6 B6) (h2 : Rd wx A2 B6) => same_packs (c1 := c6) (c2 := c2) HP2.out HP2.out HM.out HM.out true (by simp) wx h1 h2)
          have HS2 := Lib.hid (fun wx (h1 : Rd wx A7 B7) (h2 : Rd wx A8 B8) => same_packs (c1 := c7) (c2 := c8) HP7.out HP8.out HL7.out HL8.out true (by rw [sub_sub (by omega), HZ.out, HZ2.out]; simp) wx h1 h2)
          have c0y := HTy.out.cell 0
          have c1y := HTy.out.cell 1
          have c0p := HTp.out.cell 0
          have c1p := HTp.out.cell 1
          have c0q := HTq.out.cell 0
          have c1q := HTq.out.cell 1
          have c0r := HTr.out.cell 0
          have c1r := HTr.out.cell 1
          have c0a := HTa.out.cell 0
          have c1a := HTa.out.cell 1
          have c0s := HTs.out.cell 0
          have c1s := HTs.out.cell 1
          have c0t := HTt.out.cell 0
          have c1t := HTt.out.cell 1
          go_wp2_with fail
          with_reducible refine (HS1.out _ hRa hRy).mono ?_
          rintro e w9 ⟨rfl, hb9⟩
          clear c0y c1y c0p c1p c0q c1q c0r c1r c0a c1a c0s c1s c0t c1t
          have hbw9 := hbwz8.trans (hb9.mono hbwz8.size)
          replace HTy := Lib.hid (HTy.out.below hb9 HTy.out.lt)
          replace hRy := hRy.below hb9
          replace HTp := Lib.hid (HTp.out.below hb9 HTp.out.lt)
          replace hRp := hRp.below hb9
          replace HTq := Lib.hid (HTq.out.below hb9 HTq.out.lt)
          replace hRq := hRq.below hb9
          replace HTr := Lib.hid (HTr.out.below hb9 HTr.out.lt)
          replace hRr := hRr.below hb9
          replace HTa := Lib.hid (HTa.out.below hb9 HTa.out.lt)
          replace hRa := hRa.below hb9
          replace HTs := Lib.hid (HTs.out.below hb9 HTs.out.lt)
          replace hRs := hRs.below hb9
          replace HTt := Lib.hid (HTt.out.below hb9 HTt.out.lt)
          replace hRt := hRt.below hb9
          have c0y := HTy.out.cell 0
          have c1y := HTy.out.cell 1
          have c0p := HTp.out.cell 0
          have c1p := HTp.out.cell 1
          have c0q := HTq.out.cell 0
          have c1q := HTq.out.cell 1
          have c0r := HTr.out.cell 0
          have c1r := HTr.out.cell 1
          have c0a := HTa.out.cell 0
          have c1a := HTa.out.cell 1
          have c0s := HTs.out.cell 0
          have c1s := HTs.out.cell 1
          have c0t := HTt.out.cell 0
          have c1t := HTt.out.cell 1
          go_wp2_with fail
          with_reducible refine (HS2.out _ hRs hRt).mono ?_
          rintro e w10 ⟨rfl, hb10⟩
          clear c0y c1y c0p c1p c0q c1q c0r c1r c0a c1a c0s c1s c0t c1t
          go_wp2_with fail
          go_ret
          exact ⟨rfl, hbw9.trans (hb10.mono hbw9.size)⟩

set_option maxRecDepth 100000 in
theorem lifted_BitHalves (os : Os) (started : os.Started) (H : Type) (enc : TypeId × Value → H) :
    ReturnsInHanded {} Try.checked os 11 .any (Rows.bitHalvesSpec.pre6 enc Try.prog Try.f11 Rows.bitHalvesRow.domain false) (Rows.bitHalvesSpec.post enc Try.prog Try.f11 false true false false) := by
  refine returnsInHanded_of_change (C := Try.checked) own started (by kernel_rfl) Try.func11
    (ChangeSpec.witness6 (enc := enc) (C := Try.checked) false ⟨#[], #[.agg #[.slice none 0 0, .int .i64 0], .int .i64 0, .int .i64 0, .int .i64 0], []⟩ 8 (by kernel_rfl) (by kernel_rfl) (by kernel_rfl) (by kernel_rfl)) ?_
  intro W base args ds gs before hval0 hW hcnd _
  have hval : ∀ (j : Nat) t v, Try.f11.params[j]? = some t → args[j]? = some v → Value.okWide Try.prog W .any base t v := hval0
  have hW' := hW
  obtain ⟨p, q, hA0, hV, rfl, hfz, hnd⟩ := hW
  have hA : DataW.TrodAll enc Try.prog W 0 (fun _ => true) true Try.f11.params.toList args.toList ds p := hA0
  rw [Try.params11] at hA hval
  obtain ⟨v0, vs0, d0, ds0, p0, q0, hargs, rfl, rfl, h0, r0⟩ := trodAll_cons hA
  obtain ⟨v1, vs1, d1, ds1, p1, q1, rfl, rfl, rfl, h1, r1⟩ := trodAll_cons r0
  obtain ⟨v2, vs2, d2, ds2, p2, q2, rfl, rfl, rfl, h2, r2⟩ := trodAll_cons r1
  obtain ⟨v3, vs3, d3, ds3, p3, q3, rfl, rfl, rfl, h3, r3⟩ := trodAll_cons r2
  obtain ⟨rfl, rfl, rfl⟩ := trodAll_nil r3
  obtain rfl : args = #[v0, v1, v2, v3] := by cases args; simp_all
  obtain ⟨rfl, rfl⟩ := trodVars_none hV
  have k0 := h0
  have lt0 : ∀ x ∈ p0, x.block < W.heap.size := by obtain ⟨m, hm⟩ := k0; exact DataW.trod_lt m _ _ _ hm
  obtain ⟨A0, c0, B0, N0, rfl, rd0, by0, rg0⟩ := open_bits (hval 0 24 v0 rfl rfl) h0
  obtain ⟨a1, rfl, rfl, rfl, w1⟩ := open_int Try.underlying3 (hval 1 3 v1 rfl rfl) h1
  obtain ⟨a2, rfl, rfl, rfl, w2⟩ := open_int Try.underlying3 (hval 2 3 v2 rfl rfl) h2
  obtain ⟨a3, rfl, rfl, rfl, w3⟩ := open_int Try.underlying3 (hval 3 3 v3 rfl rfl) h3
  clear hA0 hval0
  refine (walk_BitHalves W A0 c0 B0 N0 rd0 by0 rg0 a1 (range_i64 w1) a2 (range_i64 w2) a3 (range_i64 w3)).mono fun e W' ⟨he, bel⟩ => ?_
  subst he
  exact ⟨_, rfl, _, _, _, [], _, [], hW', trodAll_mk1 (shut_bool Try.underlying4 _), (trodAll_cons_mk (Below.trod laidOut (by kernel_rfl) (of_decide_eq_true (by kernel_rfl)) k0 bel lt0) (trodAll_cons_mk (shut_int Try.underlying3 w1) (trodAll_cons_mk (shut_int Try.underlying3 w2) (trodAll_cons_mk (shut_int Try.underlying3 w3) trodAll_mk0)))), rfl, bel.frame _, fun h => by cases h⟩

theorem over_BitHalves : Rows.bitHalvesRow.holds Try.pinned (OpenSpec.ofChange Rows.bitHalvesSpec) :=
  OpenClaim.holds_of_wide 11 Try.f11 rfl rfl rfl rfl rfl rfl rfl ⟨rfl, rfl, rfl, rfl, rfl⟩ rfl rfl rfl rfl rfl (by kernel_rfl) Try.func11 (by kernel_rfl)
    (of_decide_eq_true (by kernel_rfl)) (by unfold Func.isWrapper; first | (rw [if_pos (by decide +kernel)]; kernel_rfl) | (rw [if_neg (by decide +kernel)]; exact ⟨rfl, rfl⟩))
    (fun os started H enc _ => lifted_BitHalves os started H enc)

theorem bitHalves_holds : Rows.BitHalvesSaid := over_BitHalves

#print axioms bitHalves_holds
end Go.Proofs.Ytifjanlcfjajpaa
