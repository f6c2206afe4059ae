/-
  bit.Join: bits one behind the other.
-/
import Derived.Test.YtifjanlcfjajpaaCut
namespace Go.Proofs.Ytifjanlcfjajpaa
open Go.RowKit Pl
set_option linter.unusedVariables false

/-- Bits as they came in: where their bytes lie, the bytes, the capacity, the number of bits. -/
structure BitV where
  A : Option Addr
  B : List Int
  c : Nat
  N : Int
/-- Its bits. -/
def BitV.L (x : BitV) : List Bool := bitsOf x.B x.N.toNat
/-- It is what a value can be, and of no great length. -/
def BitV.Ok (x : BitV) : Prop := Byts x.B ∧ (-9223372036854775808 ≤ x.N ∧ x.N ≤ 9223372036854775807) ∧ x.B.length ≤ 2000

theorem Wr.drew {w : World} {base gw : Nat} {L : List Bool} (h : Wr w base gw L) : Wr w.drew base gw L := h

/-- The slice at A reads as these bits, one behind the other. -/
def RdBits (w : World) (A : Option Addr) (l : List BitV) : Prop :=
  l = [] ∨ ∃ g o, A = some ⟨g, o, none⟩ ∧ g < w.heap.size ∧ ∀ i x, l[i]? = some x → w.cell? ⟨g, o + i * 2, none⟩ = some (.slice x.A x.B.length x.c) ∧ w.cell? ⟨g, o + i * 2 + 1, none⟩ = some (.int .i64 x.N) ∧ Rd w x.A x.B

theorem RdBits.keep {w w' : World} {A : Option Addr} {l : List BitV} (h : RdBits w A l) (hb : Below w.heap.size w w') : RdBits w' A l := by
  rcases h with rfl | ⟨g, o, rfl, hg, hc⟩
  · exact .inl rfl
  · exact .inr ⟨g, o, rfl, by have := hb.size; omega, fun i x hi => ⟨(hb.cell (p := ⟨g, o + i * 2, none⟩) hg).trans (hc i x hi).1, (hb.cell (p := ⟨g, o + i * 2 + 1, none⟩) hg).trans (hc i x hi).2.1, (hc i x hi).2.2.below hb⟩⟩

theorem flat_len {l : List BitV} (h : ∀ x ∈ l, BitV.Ok x ∧ Snd x.B x.N) : (l.flatMap BitV.L).length ≤ l.length * 16000 := by
  induction l with
  | nil => simp
  | cons x l ih =>
    have h1 := h x (by simp)
    have h2 := ih (fun y hy => h y (by simp [hy]))
    have h3 : x.L.length = x.N.toNat := bitsOf_length _ _
    have h4 := h1.1.2.2
    have h5 := h1.2.2.1
    rw [List.flatMap_cons, List.length_append, List.length_cons]
    omega

/-- All in order, where all K may be; else an error. -/
def JoinPost (l : List BitV) (K : Nat) (w : World) (e : Ending) (w' : World) : Prop :=
  (K = l.length → RetBits 5 .u16 (l.flatMap BitV.L) w e w') ∧ (K < l.length → RetNone .u16 11 w e w')

set_option maxRecDepth 100000 in
set_option maxHeartbeats 4000000 in
theorem join_all (A : Option Addr) (c : Nat) (l : List BitV) (K : Nat) (w : World) (hr : RdBits w A l) (hn : l.length ≤ 1000) (hKl : K ≤ l.length) (hok : ∀ x ∈ l.take K, BitV.Ok x ∧ Snd x.B x.N)
    (hend : ∀ x, l[K]? = some x → BitV.Ok x ∧ ¬ Snd x.B x.N) :
    Calls Try.prog 22 #[.slice A l.length c] w (JoinPost l K w) := by
  obtain ⟨n, hnl⟩ : ∃ n, l.length = n := ⟨_, rfl⟩
  rw [hnl] at hn hKl
  rw [hnl]
  have HN := Lib.hid hnl
  have HOK := Lib.hid hok
  have HEND := Lib.hid hend
  clear hnl hok hend
  have hn' : (n : Int) ≤ 1000 := by omega
  go_enter Try.func22, Try.ntmps22
  go_wp2_with fail
  go_loopw [12] (fun i wr => ∃ k : Nat, k ≤ K ∧ i = .int .i64 k ∧ Wr wr (w.heap.size + 1) (w.heap.size + 1) ((l.take k).flatMap BitV.L) ∧ Below (w.heap.size + 1) (w.alloc (.cells #[.slice none 0 0, .int .i64 0] 24)) wr) (fun i _ => n - (intOf i).toNat)
  case atStart => exact ⟨0, Nat.zero_le _, rfl, by simpa using Wr.new (w.alloc _), (Below.refl _ _).alloc (by simp) _⟩
  case round =>
    obtain ⟨wo, rfl⟩ : ∃ wo : World, wo = wr := ⟨_, rfl⟩
    obtain ⟨k, hk, rfl, hwr, hbel⟩ := hrel
    have hb2 : Below w.heap.size w wo := ((Below.refl _ _).alloc (Nat.le_refl _) _).trans (hbel.mono (by omega))
    have hrd := hr.keep hb2
    have hk' : (k : Int) ≤ n := by omega
    have hrc0 : wo.cell? ⟨w.heap.size, 0, none⟩ = some (.slice none 0 0) := (hbel.cell (by simp)).trans (by simp)
    have hrc1 : wo.cell? ⟨w.heap.size, 1, none⟩ = some (.int .i64 0) := (hbel.cell (by simp)).trans (by simp)
    have hrf0 : wo.frozen? ⟨w.heap.size, 0, none⟩ = false := (hbel.frozen (by simp)).trans (by simp)
    have hrf1 : wo.frozen? ⟨w.heap.size, 1, none⟩ = false := (hbel.frozen (by simp)).trans (by simp)
    have hzr : w.heap.size + 1 < wo.heap.size := by obtain ⟨_, _, _, _, hblk, _⟩ := hwr; exact hblk.lt
    by_cases hKn : k = K ∧ K = n
    · obtain ⟨rfl, rfl⟩ := hKn
      obtain ⟨L', hL'⟩ : ∃ L', L' = l.flatMap BitV.L := ⟨_, rfl⟩
      rw [List.take_of_length_le (by have := HN.out; omega), ← hL'] at hwr
      have HL' := Lib.hid hL'
      clear hL'
      obtain ⟨A', n', c', B', hblk, hgw, hown, hp'⟩ := hwr
      have hg0 := hblk.cell 0
      have hg1 := hblk.cell 1
      go_wp2_with fail
      refine bodyPost_ret (v := .tuple #[.agg #[.slice A' n' c', .int .i64 (L'.length : Int)], .int .u16 0]) (by simp [results, Try.results22, go_sem, hrc0, hrc1]) rfl ?_
      have hn' := own_len hown
      subst hn'
      refine ⟨fun _ => ?_, fun h => absurd h (by have := HN.out; omega)⟩
      rw [← HL'.out]
      refine ⟨A', c', B', rfl, hp', ?_, ?_⟩
      · exact own_far (own_far (own_base hown (by omega)) (fun e => by have := hown.lt _ e; simp at this; omega) _) (fun e => by have := hown.lt _ e; simp at this; omega) _
      · exact ((hb2.setCell (by simp) _).setCell (by simp) _)
    · have h1 : decide (k < n) = true := by simp; omega
      have hkn : k < n := by omega
      have hkl : k < l.length := by have := HN.out; omega
      obtain ⟨x, hx⟩ : ∃ x, l[k]? = some x := ⟨_, List.getElem?_eq_getElem hkl⟩
      rcases hr with rfl | ⟨g, o, rfl, hg, hcs⟩
      · simp at hkl
      obtain ⟨f0, f1, erd0⟩ := hcs k x hx
      have e0 := (hb2.cell (p := ⟨g, o + k * 2, none⟩) hg).trans f0
      have e1 := (hb2.cell (p := ⟨g, o + k * 2 + 1, none⟩) hg).trans f1
      have erd := erd0.below hb2
      clear f0 f1 hrd
      by_cases h0 : k = K
      · subst h0
        have HX := HEND.out x hx
        have hxl : (x.B.length : Int) ≤ 2000 := by have := HX.1.2.2; omega
        have HS := sound_no (A := x.A) (c := x.c) HX.1.1 HX.1.2.1 (by omega) HX.2
        have hXA : ∃ A B c N, x.A = A ∧ x.B = B ∧ x.c = c ∧ x.N = N := ⟨_, _, _, _, rfl, rfl, rfl, rfl⟩
        obtain ⟨xA, xB, xc, xN, hxa, hxb, hxc, hxn⟩ := hXA
        rw [hxa, hxb, hxc] at e0
        rw [hxn] at e1
        rw [hxa, hxb] at erd
        rw [hxb] at hxl
        rw [hxa, hxb, hxc, hxn] at HS
        clear hcs HX hx hxa hxb hxc hxn erd0
        go_wp2_with fail
        refine (HS _ (erd.alloc _)).mono ?_
        rintro e ws ⟨rfl, hbs⟩
        have hq0 : ws.cell? ⟨w.heap.size, 0, none⟩ = some (.slice none 0 0) := (hbs.cell (p := ⟨w.heap.size, 0, none⟩) (by simp; omega)).trans ((World.cell?_alloc_lt _ _ _ (by simp; omega)).trans hrc0)
        have hq1 : ws.cell? ⟨w.heap.size, 1, none⟩ = some (.int .i64 0) := (hbs.cell (p := ⟨w.heap.size, 1, none⟩) (by simp; omega)).trans ((World.cell?_alloc_lt _ _ _ (by simp; omega)).trans hrc1)
        have hq2 : ws.frozen? ⟨w.heap.size, 0, none⟩ = false := (hbs.frozen (p := ⟨w.heap.size, 0, none⟩) (by simp; omega)).trans ((World.frozen?_of_block (Below.heap_alloc _ _ _ (by simp; omega))).trans hrf0)
        have hq3 : ws.frozen? ⟨w.heap.size, 1, none⟩ = false := (hbs.frozen (p := ⟨w.heap.size, 1, none⟩) (by simp; omega)).trans ((World.frozen?_of_block (Below.heap_alloc _ _ _ (by simp; omega))).trans hrf1)
        have hb9 : Below w.heap.size w ws := (hb2.alloc (by omega) _).trans (hbs.mono (by simp; omega))
        clear hbs hwr e0 e1 hrc0 hrc1 hrf0 hrf1 HS
        go_wp2_with fail
        refine bodyPost_ret (v := .tuple #[.agg #[.slice none 0 0, .int .i64 0], .int .u16 11]) (by simp [results, Try.results22, go_sem, hq0, hq1]) rfl ?_
        refine ⟨fun h => absurd h (by have := HN.out; omega), fun _ => ⟨rfl, ?_⟩⟩
        exact ((hb9.setCell (by simp) _).setCell (by simp) _)
      have HX := HOK.out x (List.mem_of_getElem? (i := k) (by rw [List.getElem?_take, if_pos (by omega)]; exact hx))
      have hpx := packs_of_snd HX.1.1 HX.2
      have hxl : (x.B.length : Int) ≤ 2000 := by have := HX.1.2.2; omega
      have HS := sound_yes (A := x.A) (c := x.c) hpx (by omega)
      rw [bitsOf_length] at HS
      obtain ⟨M, hM⟩ : ∃ M : Nat, x.N = M := ⟨x.N.toNat, by have := HX.2.1; omega⟩
      rw [hM, Int.toNat_natCast] at HS hpx
      rw [hM] at e1
      have hM8 : (M : Int) ≤ 16000 := by have := HX.2.2.1; omega
      have hMB : M ≤ 8 * x.B.length := by have := HX.2.2.1; omega
      obtain ⟨Lx, hLx⟩ : ∃ Lx, bitsOf x.B M = Lx := ⟨_, rfl⟩
      have hLM : Lx.length = M := by rw [← hLx, bitsOf_length]
      rw [hLx] at hpx
      have hxL : x.L = Lx := by rw [← hLx]; show bitsOf x.B x.N.toNat = _; rw [hM]; rfl
      have hpl : ((l.take k).flatMap BitV.L).length ≤ k * 16000 := by
        have := flat_len (l := l.take k) (fun y hy => HOK.out y (List.mem_of_mem_take (by rw [List.take_take, Nat.min_eq_left hk]; exact hy : y ∈ (l.take K).take k)))
        rw [List.length_take] at this
        have h2 : min k l.length ≤ k := Nat.min_le_left _ _
        have h3 := Nat.mul_le_mul_right 16000 h2
        omega
      obtain ⟨pre, hpre⟩ : ∃ pre, (l.take k).flatMap BitV.L = pre := ⟨_, rfl⟩
      rw [hpre] at hwr hpl
      have HPX := Lib.hid hpx
      have HLM := Lib.hid hLM
      have HXL := Lib.hid hxL
      have HPRE := Lib.hid hpre
      have HK := Lib.hid h0
      have HCX := Lib.hid hx
      have hXA : ∃ A B c, x.A = A ∧ x.B = B ∧ x.c = c := ⟨_, _, _, rfl, rfl, rfl⟩
      obtain ⟨xA, xB, xc, hxa, hxb, hxc⟩ := hXA
      rw [hxa, hxb, hxc] at e0
      rw [hxa, hxb] at erd erd0
      rw [hxb] at hxl hMB HPX
      rw [hxa, hxb, hxc] at HS
      clear hcs hpx HX h0 hx hM hLx hLM hxL hpre hxa hxb hxc
      go_wp2_with fail
      refine (HS _ (erd.alloc _)).mono ?_
      rintro e ws ⟨rfl, hbs⟩
      have hws : Wr ws (w.heap.size + 1) (w.heap.size + 1) pre := (hwr.below ((Below.refl _ _).alloc (Nat.le_refl _) _)).below hbs
      have hbx : Blk ws wo.heap.size 24 #[.slice xA xB.length xc, .int .i64 M] := (Blk.new wo _ _).below hbs (by simp)
      have hbw : Below (w.heap.size + 1) (w.alloc (.cells #[.slice none 0 0, .int .i64 0] 24)) ws := (hbel.alloc (by omega) _).trans (hbs.mono (by simp; omega))
      have hrs : Rd ws xA xB := (erd.alloc _).below hbs
      have hzs : wo.heap.size < ws.heap.size := by have := hbs.size; simp at this; omega
      clear hwr HS e0 e1 hbs hrc0 hrc1 hrf0 hrf1
      go_wp2_with fail
      go_loopw [7] (fun f wi => ∃ q : Nat, (q ≤ M + 7 ∧ q % 8 = 0) ∧ f = .int .i64 q ∧ Wr wi (w.heap.size + 1) (w.heap.size + 1) (pre ++ sub Lx 0 (min q M)) ∧ Below (w.heap.size + 1) (w.alloc (.cells #[.slice none 0 0, .int .i64 0] 24)) wi ∧ Blk wi wo.heap.size 24 #[.slice xA xB.length xc, .int .i64 M] ∧ Rd wi xA xB) (fun f _ => M + 7 - (intOf f).toNat)
      case atStart => exact ⟨0, by omega, rfl, by simpa [sub_zero] using hws, hbw, hbx, hrs⟩
      case round =>
        obtain ⟨q, ⟨hq7, hq8⟩, rfl, hwi, hbi, hbk, hri⟩ := hrel
        have hi0 := hbk.cell 0
        have hi1 := hbk.cell 1
        have hq7' : (q : Int) ≤ M + 7 := by omega
        have hzi : wo.heap.size < wr.heap.size := hbk.lt
        have HBK := Lib.hid hbk
        clear hws hbw hbx hrs hbk
        by_cases hqM : q < M
        · by_cases h8 : q + 8 < M
          · have h8' : (8 : Int) < (M : Int) - (q : Int) := by omega
            have hqM' : (q : Int) < (M : Int) := by omega
            have HLEN : Hid (((pre ++ sub Lx 0 (min q M)).length : Int) ≤ 1000000000) := by
              have := HLM.out
              rw [List.length_append, sub_length (by omega)]
              exact (by omega : ((pre.length + min q M : Nat) : Int) ≤ 1000000000)
            have H8 := Lib.hid h8
            have HQM := Lib.hid hqM
            have hwq : IntKind.i64.wrap ((M : Int) - (q : Int)) = (M : Int) - (q : Int) := IntWalk.i64_in _ (by omega)
            have hwq0 : (0 : Int) ≤ (M : Int) - (q : Int) := by omega
            clear h8 hqM
            go_wp2_with fail
            go_region_held3 (fun w' => w'.cell? ⟨wo.heap.size, 0, none⟩ = some (.slice xA xB.length xc) ∧ w'.cell? ⟨wo.heap.size, 1, none⟩ = some (.int .i64 M))
            (first
              | go_keep
              | (exact ⟨hk2.cell 0, hk2.cell 1⟩)
              | (exact ⟨hk3.cell 0, hk3.cell 1⟩))
            ((first
              | (go_at_call 32; refine (at_any xA xc xB M q _ ?_ HPX.out.byts ?_ ?_).mono ?_; (exact hri); omega; omega; rintro e w2 ⟨y, rfl, hy, hyb, hb3⟩; have hk2 := HBK.out.drew.below hb3 hzi)
              | (go_at_call 33; refine (lay_full (w.heap.size + 1) (w.heap.size + 1) (pre ++ sub Lx 0 (min q M)) y _ _ (hwi.drew.below hb3) HLEN.out hy ?_ ?_ ?_).mono ?_; omega; omega; (have := hb3.size; simp at this ⊢; omega); rintro e w3 ⟨rfl, hwr3, hb4, hkp⟩; have hk3 := hkp _ _ _ (by decide) (by decide) hk2)))
            all_goals
              rw [show ((8 : Int)).toNat = 8 from rfl, topb_sub HPX.out hyb (by omega) (by have := HLM.out; have := H8.out; omega)] at hwr3
              have hri3 : Rd w3 xA xB := erd0.below (((((Below.refl _ _).alloc (Nat.le_refl _) _).trans (hbi.mono (by omega))).drew.trans (hb3.mono (by simp; omega))).trans (hb4.mono (by omega)))
              go_wp2_with fail
              go_roundw
              case rel =>
                have := H8.out
                refine ⟨q + 8, ⟨by omega, by omega⟩, by go_num, ?_, (hbi.drew.trans (hb3.mono (by simp; omega))).trans hb4, hk3, hri3⟩
                rw [show min (q + 8) M = min q M + 8 from by omega, sub_add, show 0 + min q M = q from by omega, ← List.append_assoc]
                exact hwr3
              case measure => have := H8.out; simp [intOf]; omega
          · have h8' : (M : Int) - (q : Int) ≤ 8 := by omega
            have hqM' : (q : Int) < (M : Int) := by omega
            have HLEN : Hid (((pre ++ sub Lx 0 (min q M)).length : Int) ≤ 1000000000) := by
              have := HLM.out
              rw [List.length_append, sub_length (by omega)]
              exact (by omega : ((pre.length + min q M : Nat) : Int) ≤ 1000000000)
            have H8 := Lib.hid h8
            have HQM := Lib.hid hqM
            have hwq : IntKind.i64.wrap ((M : Int) - (q : Int)) = (M : Int) - (q : Int) := IntWalk.i64_in _ (by omega)
            have hwq0 : (0 : Int) ≤ (M : Int) - (q : Int) := by omega
            clear h8 hqM
            go_wp2_with fail
            go_region_held3 (fun w' => w'.cell? ⟨wo.heap.size, 0, none⟩ = some (.slice xA xB.length xc) ∧ w'.cell? ⟨wo.heap.size, 1, none⟩ = some (.int .i64 M))
            (first
              | go_keep
              | (exact ⟨hk2.cell 0, hk2.cell 1⟩)
              | (exact ⟨hk3.cell 0, hk3.cell 1⟩))
            ((first
              | (go_at_call 32; refine (at_any xA xc xB M q _ ?_ HPX.out.byts ?_ ?_).mono ?_; (exact hri); omega; omega; rintro e w2 ⟨y, rfl, hy, hyb, hb3⟩; have hk2 := HBK.out.drew.below hb3 hzi)
              | (go_at_call 33; refine (lay_full (w.heap.size + 1) (w.heap.size + 1) (pre ++ sub Lx 0 (min q M)) y _ _ (hwi.drew.below hb3) HLEN.out hy ?_ ?_ ?_).mono ?_; omega; omega; (have := hb3.size; simp at this ⊢; omega); rintro e w3 ⟨rfl, hwr3, hb4, hkp⟩; have hk3 := hkp _ _ _ (by decide) (by decide) hk2)))
            all_goals
              try rw [if_neg (by omega)] at hwr3
              rw [show ((M : Int) - (q : Int)).toNat = M - q from by have := HQM.out; omega, topb_sub HPX.out hyb (by have := HQM.out; omega) (by have := HLM.out; have := HQM.out; omega)] at hwr3
              have hri3 : Rd w3 xA xB := erd0.below (((((Below.refl _ _).alloc (Nat.le_refl _) _).trans (hbi.mono (by omega))).drew.trans (hb3.mono (by simp; omega))).trans (hb4.mono (by omega)))
              go_wp2_with fail
              go_roundw
              case rel =>
                have := H8.out
                have := HQM.out
                refine ⟨q + 8, ⟨by omega, by omega⟩, by go_num, ?_, (hbi.drew.trans (hb3.mono (by simp; omega))).trans hb4, hk3, hri3⟩
                rw [show min (q + 8) M = min q M + (M - q) from by omega, sub_add, show 0 + min q M = q from by omega, ← List.append_assoc]
                exact hwr3
              case measure => have := HQM.out; simp [intOf]; omega
        · have hqM' : decide (q < M) = false := by simp; omega
          have HQM := Lib.hid hqM
          clear hqM
          go_wp2_with fail
          go_roundw
          case rel =>
            refine ⟨k + 1, by have := HK.out; omega, by go_num, ?_, hbi⟩
            rw [List.take_add_one, HCX.out]
            simp only [Option.toList_some, List.flatMap_append, List.flatMap_cons, List.flatMap_nil, List.append_nil]
            rw [HPRE.out, HXL.out]
            have := HLM.out
            have := HQM.out
            rw [show min q M = M from by omega] at hwi
            simpa [sub, List.take_of_length_le (Nat.le_of_eq HLM.out)] using hwi
          case measure => simp [intOf]; omega

theorem join_sound (A : Option Addr) (c : Nat) (l : List BitV) (w : World) (hr : RdBits w A l) (hn : l.length ≤ 1000) (hok : ∀ x ∈ l, BitV.Ok x ∧ Snd x.B x.N) :
    Calls Try.prog 22 #[.slice A l.length c] w (RetBits 5 .u16 (l.flatMap BitV.L) w) :=
  (join_all A c l l.length w hr hn (Nat.le_refl _) (fun x hx => hok x (List.mem_of_mem_take hx)) (fun x hx => absurd hx (by simp))).mono fun _ _ h => h.1 rfl

theorem join_unsound (A : Option Addr) (c : Nat) (l : List BitV) (w : World) (hr : RdBits w A l) (hn : l.length ≤ 1000) (hok : ∀ x ∈ l, BitV.Ok x) (hs : ¬ ∀ x ∈ l, Snd x.B x.N) :
    Calls Try.prog 22 #[.slice A l.length c] w (RetNone .u16 11 w) := by
  obtain ⟨K, hK, h1, h2⟩ : ∃ K, K < l.length ∧ (∀ x ∈ l.take K, Snd x.B x.N) ∧ ∀ x, l[K]? = some x → ¬ Snd x.B x.N := by
    clear hr hn hok
    induction l with
    | nil => exact absurd (fun x hx => by cases hx) hs
    | cons y l ih =>
      by_cases hy : Snd y.B y.N
      · obtain ⟨K, h0, h1, h2⟩ := ih (fun h => hs (fun x hx => by
          rcases List.mem_cons.1 hx with rfl | hx
          · exact hy
          · exact h x hx))
        refine ⟨K + 1, by simpa using h0, fun x hx => ?_, fun x hx => h2 x (by simpa using hx)⟩
        rw [List.take_succ_cons] at hx
        rcases List.mem_cons.1 hx with rfl | hx
        · exact hy
        · exact h1 x hx
      · exact ⟨0, by simp, fun x hx => by simp at hx, fun x hx => by simp at hx; subst hx; exact hy⟩
  exact (join_all A c l K w hr hn (by omega) (fun x hx => ⟨hok x (List.mem_of_mem_take hx), h1 x hx⟩) (fun x hx => ⟨hok x (List.mem_of_getElem? hx), h2 x hx⟩)).mono fun _ _ h => h.2 hK

end Go.Proofs.Ytifjanlcfjajpaa
