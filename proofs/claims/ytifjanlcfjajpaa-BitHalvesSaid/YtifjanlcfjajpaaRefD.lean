/-
  The reference's Join, and Same.
-/
import Derived.Test.YtifjanlcfjajpaaRefC
import Derived.Test.YtifjanlcfjajpaaJoin
import Derived.Laws.BytesString
import Derived.Laws.IdiomStrings
namespace Go.Proofs.Ytifjanlcfjajpaa
open Go.RowKit Pl
set_option linter.unusedVariables false

/-- All in order, where all K may be; else an error. -/
def RJoinPost (l : List BitV) (K : Nat) (w : World) (e : Ending) (w' : World) : Prop :=
  (K = l.length → RetBits 5 .i64 (l.flatMap BitV.L) w e w') ∧ (K < l.length → RetNone .i64 11 w e w')

set_option maxRecDepth 100000 in
set_option maxHeartbeats 4000000 in
theorem rjoin_all (A : Option Addr) (c : Nat) (l : List BitV) (K : Nat) (w : World) (hr : RdBits w A l) (hn : l.length ≤ 1000) (hKl : K ≤ l.length) (hok : ∀ x ∈ l.take K, BitV.Ok x ∧ Snd x.B x.N)
    (hend : ∀ x, l[K]? = some x → BitV.Ok x ∧ ¬ Snd x.B x.N) :
    Calls Try.prog 23 #[.slice A l.length c] w (RJoinPost l K w) := by
  obtain ⟨i0, hi, hz0, hz1, hzb⟩ := info_parts info_u8'
  obtain ⟨n, hnl⟩ : ∃ n, l.length = n := ⟨_, rfl⟩
  rw [hnl] at hn hKl
  rw [hnl]
  have HN := Lib.hid hnl
  have HOK := Lib.hid hok
  have HEND := Lib.hid hend
  clear hnl hok hend
  have hn' : (n : Int) ≤ 1000 := by omega
  go_enter Try.func23, Try.ntmps23
  go_wp2_with fail
  go_loopw [4, 5] (fun v i wr => ∃ k n' A' c', k ≤ K ∧ ((l.take k).flatMap BitV.L).length = n' ∧ i = .int .i64 (k : Nat) ∧ v = .slice A' n' c' ∧ wr.ownsRow (w.heap.size + 1) 5 1 (.slice A' n' c') n' (u8s (ones ((l.take k).flatMap BitV.L))) ∧ Below (w.heap.size + 1) (w.alloc (.cells #[.slice none 0 0, .int .i64 0] 24)) wr) (fun _ i _ => n - (intOf i).toNat)
  case atStart => exact ⟨0, 0, none, 0, Nat.zero_le _, by simp, rfl, rfl, by simpa [ones, u8s] using World.ownsRow_nil _ _ _ _, Below.refl _ _⟩
  case round =>
    obtain ⟨k, n', A', c', hk, hn2, rfl, rfl, hown, hbel⟩ := hrel
    have hb2 : Below w.heap.size w wr := ((Below.refl _ _).alloc (Nat.le_refl _) _).trans (hbel.mono (by omega))
    have hk' : (k : Int) ≤ n := by omega
    have hrc0 : wr.cell? ⟨w.heap.size, 0, none⟩ = some (.slice none 0 0) := (hbel.cell (by simp)).trans (by simp)
    have hrc1 : wr.cell? ⟨w.heap.size, 1, none⟩ = some (.int .i64 0) := (hbel.cell (by simp)).trans (by simp)
    have hrf0 : wr.frozen? ⟨w.heap.size, 0, none⟩ = false := (hbel.frozen (by simp)).trans (by simp)
    have hrf1 : wr.frozen? ⟨w.heap.size, 1, none⟩ = false := (hbel.frozen (by simp)).trans (by simp)
    have hzr : w.heap.size < wr.heap.size := by have := hbel.size; simp at this; omega
    have hpl : ((l.take k).flatMap BitV.L).length ≤ k * 16000 := by
      have := flat_len (l := l.take k) (fun y hy => HOK.out y (List.mem_of_mem_take (by rw [List.take_take, Nat.min_eq_left hk]; exact hy : y ∈ (l.take K).take k)))
      rw [List.length_take] at this
      have h2 : min k l.length ≤ k := Nat.min_le_left _ _
      have h3 := Nat.mul_le_mul_right 16000 h2
      omega
    rw [hn2] at hpl
    have HN2 := Lib.hid hn2
    clear hn2
    by_cases hKn : k = K ∧ K = n
    · obtain ⟨rfl, rfl⟩ := hKn
      obtain ⟨L', hL'⟩ : ∃ L', L' = l.flatMap BitV.L := ⟨_, rfl⟩
      have hall : (l.take k).flatMap BitV.L = L' := by rw [List.take_of_length_le (by have := HN.out; omega), ← hL']
      rw [hall] at hown
      have hlen : L'.length = n' := by rw [← hall]; exact HN2.out
      have hof := rof_any A' c' L' wr (Rd.of_own hown) (by rw [hlen]; omega)
      rw [hlen] at hof
      have HOF := Lib.hid hof
      have HLEN := Lib.hid hlen
      have HL' := Lib.hid hL'
      clear hof hlen hL' hall hown hr
      go_wp2_with fail
      refine HOF.out.mono ?_
      rintro e w4 ⟨A4, c4, B4, rfl, hp4, hown4, hb4⟩
      have hcs0 := (hb4.cell (p := ⟨w.heap.size, 0, none⟩) hzr).trans hrc0
      have hcs1 := (hb4.cell (p := ⟨w.heap.size, 1, none⟩) hzr).trans hrc1
      have hfs0 := (hb4.frozen (p := ⟨w.heap.size, 0, none⟩) hzr).trans hrf0
      have hfs1 := (hb4.frozen (p := ⟨w.heap.size, 1, none⟩) hzr).trans hrf1
      go_wp2_with fail
      refine bodyPost_ret (v := .tuple #[.agg #[.slice A4 B4.length c4, .int .i64 (L'.length : Int)], .int .i64 0]) (by simp [results, Try.results23, go_sem, hcs0, hcs1]) rfl ?_
      refine ⟨fun _ => ?_, fun h => absurd h (by have := HN.out; omega)⟩
      rw [← HL'.out]
      refine ⟨A4, c4, B4, rfl, hp4, ?_, ?_⟩
      · exact own_far (own_far (own_base hown4 (by omega)) (fun e => by have := hown4.lt _ e; simp at this; omega) _) (fun e => by have := hown4.lt _ e; simp at this; omega) _
      · exact (((hb2.trans (hb4.mono (by omega))).setCell (by simp) _).setCell (by simp) _)
    · have h1 : decide (k < n) = true := by simp; omega
      have hkn : k < n := by omega
      have hkl : k < l.length := by have := HN.out; omega
      obtain ⟨x, hx⟩ : ∃ x, l[k]? = some x := ⟨_, List.getElem?_eq_getElem hkl⟩
      rcases hr with rfl | ⟨g, o, rfl, hg, hcs⟩
      · simp at hkl
      obtain ⟨f0, f1, erd0⟩ := hcs k x hx
      have e0 := (hb2.cell (p := ⟨g, o + k * 2, none⟩) hg).trans f0
      have e1 := (hb2.cell (p := ⟨g, o + k * 2 + 1, none⟩) hg).trans f1
      have erd := erd0.below hb2
      by_cases h0 : k = K
      · subst h0
        have HX := HEND.out x hx
        have hxl : (x.B.length : Int) ≤ 2000 := by have := HX.1.2.2; omega
        have HS := rsound_no (A := x.A) (c := x.c) HX.1.1 HX.1.2.1 (by omega) HX.2
        have hXA : ∃ A B c N, x.A = A ∧ x.B = B ∧ x.c = c ∧ x.N = N := ⟨_, _, _, _, rfl, rfl, rfl, rfl⟩
        obtain ⟨xA, xB, xc, xN, hxa, hxb, hxc, hxn⟩ := hXA
        rw [hxa, hxb, hxc] at e0
        rw [hxn] at e1
        rw [hxa, hxb] at erd
        rw [hxb] at hxl
        rw [hxa, hxb, hxc, hxn] at HS
        clear hcs HX hx hxa hxb hxc hxn erd0 f0 f1
        go_wp2_with fail
        refine (HS _ erd).mono ?_
        rintro e ws ⟨rfl, hbs⟩
        have hq0 := (hbs.cell (p := ⟨w.heap.size, 0, none⟩) hzr).trans hrc0
        have hq1 := (hbs.cell (p := ⟨w.heap.size, 1, none⟩) hzr).trans hrc1
        have hq2 := (hbs.frozen (p := ⟨w.heap.size, 0, none⟩) hzr).trans hrf0
        have hq3 := (hbs.frozen (p := ⟨w.heap.size, 1, none⟩) hzr).trans hrf1
        have hb9 : Below w.heap.size w ws := hb2.trans (hbs.mono (by omega))
        clear hbs e0 e1 hrc0 hrc1 hrf0 hrf1 HS
        go_wp2_with fail
        refine bodyPost_ret (v := .tuple #[.agg #[.slice none 0 0, .int .i64 0], .int .i64 11]) (by simp [results, Try.results23, go_sem, hq0, hq1]) rfl ?_
        refine ⟨fun h => absurd h (by have := HN.out; omega), fun _ => ⟨rfl, ?_⟩⟩
        exact ((hb9.setCell (by simp) _).setCell (by simp) _)
      have HX := HOK.out x (List.mem_of_getElem? (i := k) (by rw [List.getElem?_take, if_pos (by omega)]; exact hx))
      have hpx := packs_of_snd HX.1.1 HX.2
      have hxl : (x.B.length : Int) ≤ 2000 := by have := HX.1.2.2; omega
      have HS := rsound_yes (A := x.A) (c := x.c) hpx (by omega)
      rw [bitsOf_length] at HS
      obtain ⟨M, hM⟩ : ∃ M : Nat, x.N = M := ⟨x.N.toNat, by have := HX.2.1; omega⟩
      rw [hM, Int.toNat_natCast] at HS hpx
      rw [hM] at e1 f1
      have hM8 : (M : Int) ≤ 16000 := by have := HX.2.2.1; omega
      obtain ⟨Lx, hLx⟩ : ∃ Lx, bitsOf x.B M = Lx := ⟨_, rfl⟩
      have hLM : Lx.length = M := by rw [← hLx, bitsOf_length]
      rw [hLx] at hpx
      have hxL : x.L = Lx := by rw [← hLx]; show bitsOf x.B x.N.toNat = _; rw [hM]; rfl
      obtain ⟨pre, hpre⟩ : ∃ pre, (l.take k).flatMap BitV.L = pre := ⟨_, rfl⟩
      rw [hpre] at hown HN2
      have hXA : ∃ A B c, x.A = A ∧ x.B = B ∧ x.c = c := ⟨_, _, _, rfl, rfl, rfl⟩
      obtain ⟨xA, xB, xc, hxa, hxb, hxc⟩ := hXA
      rw [hxa, hxb, hxc] at e0 f0
      rw [hxa, hxb] at erd erd0
      rw [hxb] at hxl hpx
      rw [hxa, hxb, hxc] at HS
      have HLIST := Lib.hid (fun wx (h : Rd wx xA xB) => by
        have := rlist_any xA xc xB Lx wx h hpx (by omega)
        rwa [hLM] at this)
      have HLM := Lib.hid hLM
      have HXL := Lib.hid hxL
      have HPRE := Lib.hid hpre
      have HK := Lib.hid h0
      have HCX := Lib.hid hx
      clear hcs hpx HX h0 hx hM hLx hLM hxL hpre hxa hxb hxc
      go_wp2_with fail
      refine (HS _ erd).mono ?_
      rintro e ws ⟨rfl, hbs⟩
      have hbw : Below w.heap.size w ws := hb2.trans (hbs.mono (by omega))
      have g0 := (hbw.cell (p := ⟨g, o + k * 2, none⟩) hg).trans f0
      have g1 := (hbw.cell (p := ⟨g, o + k * 2 + 1, none⟩) hg).trans f1
      have hzs : wr.heap.size ≤ ws.heap.size := hbs.size
      go_wp2_with fail
      refine (HLIST.out _ (erd0.below hbw)).mono ?_
      rintro e w2 ⟨A2, c2, rfl, hown2, hb3⟩
      have hbig : Below wr.heap.size wr w2 := hbs.trans (hb3.mono hzs)
      have hown3 : w2.ownsRow (w.heap.size + 1) 5 1 (.slice A' n' c') n' (u8s (ones pre)) := hown.kept (row := none) ⟨hbig.os, hbig.tape, hbig.output, hbig.size, fun j hj _ => hbig.block j hj⟩ (by cases (Value.slice A' n' c').ownBlock <;> simp)
      have hrd2 := Rd.of_own hown2
      have hlm : (ones Lx).length = M := by rw [ones_length]; exact HLM.out
      have hsum : n' + (ones Lx).length ≤ 140737488355328 := by rw [hlm]; omega
      have hz2 : w.heap.size + 1 ≤ w2.heap.size := by have := hbig.size; omega
      have HOWN2 := Lib.hid hown2
      have HLM2 := Lib.hid hlm
      clear hown2 hlm
      go_wp2_with (at_builtin; refine wpList_append_rd _ rfl _ _ 22 rfl (w.heap.size + 1) 5 i0 (.int .u8 0) Try.underlying22 hi hz0 hz1 hzb rfl (.slice A' n' c') n' (u8s (ones pre)) rfl hown3 A2 c2 (ones Lx) rfl hrd2 hsum hz2 ?_; intro v' w3 hown4 hgrow hat)
      obtain ⟨A9, c9, rfl, _⟩ := own_shape hown4
      go_roundw
      case rel =>
        have hflat : (l.take (k + 1)).flatMap BitV.L = pre ++ Lx := by
          rw [List.take_add_one, HCX.out]
          simp only [Option.toList_some, List.flatMap_append, List.flatMap_cons, List.flatMap_nil, List.append_nil]
          rw [HPRE.out, HXL.out]
        refine ⟨k + 1, n' + (ones Lx).length, A9, c9, by have := HK.out; omega, ?_, by go_num, rfl, ?_, ?_⟩
        · rw [hflat, List.length_append, HN2.out, ones_length]
        · rw [hflat, ones_append, u8s_append]; exact hown4
        · exact (hbel.trans (hbig.mono (by omega))).grown hgrow hz2 (fun j hj => (hown3.lt j hj).1)
      case measure => simp [intOf]; omega

theorem rjoin_sound (A : Option Addr) (c : Nat) (l : List BitV) (w : World) (hr : RdBits w A l) (hn : l.length ≤ 1000) (hok : ∀ x ∈ l, BitV.Ok x ∧ Snd x.B x.N) :
    Calls Try.prog 23 #[.slice A l.length c] w (RetBits 5 .i64 (l.flatMap BitV.L) w) :=
  (rjoin_all A c l l.length w hr hn (Nat.le_refl _) (fun x hx => hok x (List.mem_of_mem_take hx)) (fun x hx => absurd hx (by simp))).mono fun _ _ h => h.1 rfl

theorem first_unsound {l : List BitV} (hs : ¬ ∀ x ∈ l, Snd x.B x.N) : ∃ K, K < l.length ∧ (∀ x ∈ l.take K, Snd x.B x.N) ∧ ∀ x, l[K]? = some x → ¬ Snd x.B x.N := by
  induction l with
  | nil => exact absurd (fun x hx => by cases hx) hs
  | cons y l ih =>
    by_cases hy : Snd y.B y.N
    · obtain ⟨K, h0, h1, h2⟩ := ih (fun h => hs (fun x hx => by
        rcases List.mem_cons.1 hx with rfl | hx
        · exact hy
        · exact h x hx))
      refine ⟨K + 1, by simpa using h0, fun x hx => ?_, fun x hx => h2 x (by simpa using hx)⟩
      rw [List.take_succ_cons] at hx
      rcases List.mem_cons.1 hx with rfl | hx
      · exact hy
      · exact h1 x hx
    · exact ⟨0, by simp, fun x hx => by simp at hx, fun x hx => by simp at hx; subst hx; exact hy⟩

theorem rjoin_unsound (A : Option Addr) (c : Nat) (l : List BitV) (w : World) (hr : RdBits w A l) (hn : l.length ≤ 1000) (hok : ∀ x ∈ l, BitV.Ok x) (hs : ¬ ∀ x ∈ l, Snd x.B x.N) :
    Calls Try.prog 23 #[.slice A l.length c] w (RetNone .i64 11 w) := by
  obtain ⟨K, hK, h1, h2⟩ := first_unsound hs
  exact (rjoin_all A c l K w hr hn (by omega) (fun x hx => ⟨hok x (List.mem_of_mem_take hx), h1 x hx⟩) (fun x hx => ⟨hok x (List.mem_of_getElem? hx), h2 x hx⟩)).mono fun _ _ h => h.2 hK

/-- Bytes as a text. -/
def strB (B : List Int) : ByteArray := ⟨(B.map fun n => UInt8.ofNat n.toNat).toArray⟩
theorem strB_inj {B C : List Int} (hB : Byts B) (hC : Byts C) (h : strB B = strB C) : B = C := by
  have h1 : B.map (fun n => UInt8.ofNat n.toNat) = C.map (fun n => UInt8.ofNat n.toNat) := by
    have := congrArg (fun x : ByteArray => x.data.toList) h
    simpa [strB] using this
  have back : ∀ D : List Int, Byts D → (D.map (fun n => UInt8.ofNat n.toNat)).map (fun u => (u.toNat : Int)) = D := by
    intro D hD
    rw [List.map_map]
    conv => rhs; rw [← List.map_id D]
    apply List.map_congr_left
    intro x hx
    have := hD x hx
    simp only [Function.comp, UInt8.toNat_ofNat', id]
    omega
  have := congrArg (List.map fun u : UInt8 => (u.toNat : Int)) h1
  rwa [back B hB, back C hC] at this

theorem text_eq {B C : List Int} (h : strB B = strB C ↔ B = C) : ((strB B).toList == (strB C).toList) = decide (B = C) := by
  rw [ByteArray.toList_eq, ByteArray.toList_eq, Bool.eq_iff_iff, beq_iff_eq, decide_eq_true_eq, ← h]
  constructor
  · intro e
    have : (strB B).data = (strB C).data := by
      apply Array.toList_inj.1 e
    cases hb : strB B
    cases hc : strB C
    rw [hb, hc] at this
    simp_all
  · intro e; rw [e]
theorem run_text {P : Program} (w : World) (src dst e : TypeId) (A : Option Addr) (cap : Nat) (B : List Int) (hs : P.underlying src = some (.slice e)) (he : P.underlying e = some (.int .u8)) (hd : P.underlying dst = some .string)
    (hB : Byts B) (hr : Rd w A B) : (convert src dst (.slice A B.length cap)).run P w = .ok (.string (strB B)) w := by
  have back : (B.map (fun n => UInt8.ofNat n.toNat)).length = B.length := by simp
  rcases A with _ | a
  · have := hr.none_
    subst this
    rw [run_convert_bytes_string w src dst e none _ cap hs he hd]
    rfl
  · have := run_convert_bytes_back (P := P) w src dst e a cap (B.map (fun n => UInt8.ofNat n.toNat)) hs he hd (fun j hj => by
      rw [back] at hj
      obtain ⟨g, o, hA, _, hc⟩ := hr.at_ (by omega)
      injection hA with hA
      subst hA
      have e : (⟨g, o, none⟩ : Addr).add j = ⟨g, o + j, none⟩ := by unfold Addr.add; split <;> simp_all
      rw [e, hc j hj]
      have hb := hB _ (List.getElem_mem hj)
      have hn : nth B j = B[j] := by simp [nth, List.getD_eq_getElem?_getD, List.getElem?_eq_getElem hj]
      rw [hn]
      simp only [List.getElem_map, UInt8.toNat_ofNat']
      congr 3
      omega)
    rw [back] at this
    exact this

set_option maxHeartbeats 1000000 in
theorem same_any (A1 A2 : Option Addr) (c1 c2 : Nat) (B1 B2 : List Int) (N1 N2 : Int) (w : World) (hr1 : Rd w A1 B1) (hr2 : Rd w A2 B2) (hB1 : Byts B1) (hB2 : Byts B2) :
    Calls Try.prog 15 #[.agg #[.slice A1 B1.length c1, .int .i64 N1], .agg #[.slice A2 B2.length c2, .int .i64 N2]] w fun e w' => e = .returned (.bool (decide (N1 = N2) && decide (B1 = B2))) ∧ Below w.heap.size w w' := by
  have k1 := run_text (P := Try.prog) ((w.alloc (.cells #[.slice A1 B1.length c1, .int .i64 N1] 24)).alloc (.cells #[.slice A2 B2.length c2, .int .i64 N2] 24)) 22 9 5 A1 c1 B1 Try.underlying22 Try.underlying5 Try.underlying9 hB1 ((hr1.alloc _).alloc _)
  have k2 := run_text (P := Try.prog) ((w.alloc (.cells #[.slice A1 B1.length c1, .int .i64 N1] 24)).alloc (.cells #[.slice A2 B2.length c2, .int .i64 N2] 24)) 22 9 5 A2 c2 B2 Try.underlying22 Try.underlying5 Try.underlying9 hB2 ((hr2.alloc _).alloc _)
  have hcmp : (strB B1 = strB B2) ↔ B1 = B2 := ⟨strB_inj hB1 hB2, fun h => by rw [h]⟩
  have HC := Lib.hid hcmp
  obtain ⟨n1, hn1⟩ : ∃ n, B1.length = n := ⟨_, rfl⟩
  obtain ⟨n2, hn2⟩ : ∃ n, B2.length = n := ⟨_, rfl⟩
  rw [hn1, hn2] at k1 k2
  rw [hn1, hn2]
  clear hcmp hB1 hB2 hr1 hr2 hn1 hn2
  by_cases hN : N1 = N2
  · have hz : (N1 == N2) = true := by rw [beq_iff_eq]; exact hN
    have HN := Lib.hid hN
    clear hN
    go_enter Try.func15, Try.ntmps15
    go_wp2_with fail
    go_ret
    refine ⟨ret_bool ?_, (((Below.refl _ _).alloc (Nat.le_refl _) _).alloc (by simp) _)⟩
    rw [decide_eq_true HN.out, Bool.true_and]
    exact text_eq HC.out
  · have hz : (N1 == N2) = false := by rw [beq_eq_false_iff_ne]; exact hN
    have HN := Lib.hid hN
    clear hN
    go_enter Try.func15, Try.ntmps15
    go_wp2_with fail
    go_ret
    exact ⟨ret_bool (by rw [decide_eq_false HN.out, Bool.false_and]), (((Below.refl _ _).alloc (Nat.le_refl _) _).alloc (by simp) _)⟩

end Go.Proofs.Ytifjanlcfjajpaa
