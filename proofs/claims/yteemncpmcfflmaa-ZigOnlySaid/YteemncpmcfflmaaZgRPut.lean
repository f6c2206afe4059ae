/-
  The reference's Put.
-/
import Derived.Test.YteemncpmcfflmaaZgRef
import Derived.Test.YteemncpmcfflmaaRefGC
namespace Go.Proofs.Yteemncpmcfflmaa
open Go.RowKit Pl
set_option linter.unusedVariables false

theorem ahd_bits {k : Nat} (hk : k ≤ 5) : nbits (ahd k) (mny k) = List.replicate k true ++ (if k < 5 then [false] else []) := by
  obtain rfl | rfl | rfl | rfl | rfl | rfl : k = 0 ∨ k = 1 ∨ k = 2 ∨ k = 3 ∨ k = 4 ∨ k = 5 := by omega
  all_goals decide
theorem replicate_snoc (i : Nat) : List.replicate (i + 1) true = List.replicate i true ++ [true] := by rw [List.replicate_succ']
theorem ones_app1 (X : List Bool) (b : Bool) : u8s (ones (X ++ [b])) = u8s (ones X) ++ [.int .u8 (bi b)] := by rw [ones_snoc, u8s_append]; rfl

set_option maxRecDepth 100000 in
set_option maxHeartbeats 1000000 in
theorem rzput_unsound (A : Option Addr) (c : Nat) (B : List Int) (N v : Int) (w : World) (hr : Rd w A B) (hB : Byts B) (hN : -9223372036854775808 ≤ N ∧ N ≤ 9223372036854775807) (hl : (B.length : Int) ≤ 100000000) (hs : ¬ Snd B N) :
    Calls Try.prog 17 #[.agg #[.slice A B.length c, .int .i64 N], .int .i64 v] w (RetNone .i64 11 w) := by
  have HS : RSoundSays A c B N false := rsound_no hB hN hl hs
  clear hN hB hs
  go_enter Try.func17, Try.ntmps17
  go_wp2_with fail
  refine (HS _ ?_).mono ?_
  · exact (hr.alloc _).alloc _
  rintro e w1 ⟨rfl, hb1⟩
  obtain ⟨hc, hf⟩ := bcell hb1
  have hz : w.heap.size + 1 < w1.heap.size := by have := hb1.size; simp at this; omega
  have hb2 : Below w.heap.size w w1 := (((Below.refl _ _).alloc (Nat.le_refl _) _).alloc (by simp) _).trans (hb1.mono (by simp; omega))
  go_wp2_with fail
  refine bodyPost_ret (v := .tuple #[.agg #[.slice none 0 0, .int .i64 0], .int .i64 11]) (by simp [results, Try.results17, go_sem, hc]) rfl ⟨rfl, ?_⟩
  exact ((hb2.setCell (by simp) _).setCell (by simp) _)

set_option maxRecDepth 100000 in
set_option maxHeartbeats 6000000 in
theorem rzput_sound (A : Option Addr) (c : Nat) (B : List Int) (L : List Bool) (v : Int) (w : World) (hr : Rd w A B) (hp : Packs B L) (hl : (B.length : Int) ≤ 900000) (hv : I64 v) :
    Calls Try.prog 17 #[.agg #[.slice A B.length c, .int .i64 (L.length : Int)], .int .i64 v] w (RetBits 5 .i64 (L ++ code v) w) := by
  have HS : RSoundSays A c B (L.length : Int) true := rsound_yes hp (by omega)
  obtain ⟨i0, hi, hz0, hz1, hz2⟩ := info_parts info_u8'
  have hLB := packs_len_le hp
  obtain ⟨n, hn⟩ : ∃ n, fold v = n := ⟨_, rfl⟩
  have hF := fun wx => rfold_any v wx hv
  have hn64 := fold_lt hv
  obtain ⟨k, hk⟩ : ∃ k, row n = k := ⟨_, rfl⟩
  have hk5 : k ≤ 5 := by rw [← hk]; exact row_le n
  obtain ⟨L', hL'⟩ : ∃ L', L' = L ++ code v := ⟨_, rfl⟩
  rw [← hL']
  unfold code at hL'
  rw [hn] at hF hn64 hL'
  rw [hk, ahd_bits hk5, ← List.append_assoc, ← List.append_assoc] at hL'
  obtain ⟨d, hd⟩ : ∃ d, wid k = d := ⟨_, rfl⟩
  have hd64 : d ≤ 64 := by rw [← hd]; exact (row_ok hk5).2.2
  rw [hd] at hL'
  have hRR := rrow_any k hk5
  rw [hd] at hRR
  have hFI := fun j (hj : j ≤ 5) wx => rfits_any n j hj wx
  rw [hk] at hFI
  have HF := Lib.hid hF
  have HN64 := Lib.hid hn64
  have HRR := Lib.hid hRR
  have HFI := Lib.hid hFI
  have HL' := Lib.hid hL'
  have hRL := fun wx h => rlist_any A c B L wx h hp (by omega)
  rw [show RetRow 5 (ones L) = RetRow 5 (ones L) from rfl] at hRL
  have HRL := Lib.hid hRL
  obtain ⟨bl, hbl⟩ : ∃ n, B.length = n := ⟨_, rfl⟩
  obtain ⟨m, hm⟩ : ∃ n, L.length = n := ⟨_, rfl⟩
  unfold RSoundSays at HS
  rw [hbl, hm] at HS HRL
  rw [hbl, hm]
  have HM := Lib.hid hm
  have hm8 : (m : Int) ≤ 8000000 := by omega
  have HSS := Lib.hid HS
  clear hp hl hv hn hF hn64 hk hL' hd hRR hFI hRL hbl hm hLB HS
  go_enter Try.func17, Try.ntmps17
  go_wp2_with fail
  refine (HSS.out _ ?_).mono ?_
  · exact (hr.alloc _).alloc _
  rintro e w1 ⟨rfl, hb1⟩
  have hb2 : Below w.heap.size w w1 := (((Below.refl _ _).alloc (Nat.le_refl _) _).alloc (by simp) _).trans (hb1.mono (by simp; omega))
  have HX : Hid (Blk w1 w.heap.size 27 #[.slice A bl c, .int .i64 (m : Int)]) := Lib.hid (((Blk.new w _ _).alloc _).below hb1 (by simp; omega))
  have HR : Hid (Blk w1 (w.heap.size + 1) 27 #[.slice none 0 0, .int .i64 0]) := Lib.hid ((blk_at (by simp)).below hb1 (by simp))
  have hz : w.heap.size + 1 < w1.heap.size := HR.out.lt
  clear hb1
  have x0 := HX.out.cell 0
  have x1 := HX.out.cell 1
  go_wp2_with fail
  refine (HF.out _).mono ?_
  rintro e w0 ⟨rfl, rfl⟩
  go_wp2_with fail
  refine (HRL.out _ (hr.below hb2)).mono ?_
  rintro e w2 ⟨A2, c2, rfl, hown2, hb3⟩
  rw [ones_length, HM.out] at hown2 ⊢
  clear x0 x1 HX
  have HB0 : Hid (Below w.heap.size w w1) := Lib.hid hb2
  clear hb2
  go_wp2_with fail
  -- which row
  go_loopw [9] (fun s9 wr => ∃ j, j ≤ k ∧ s9 = .int .i64 (j : Int) ∧ wr.ownsRow w1.heap.size 5 1 (.slice A2 m c2) m (u8s (ones L)) ∧ Below w1.heap.size w1 wr) (fun s9 _ => k - (intOf s9).toNat)
  case atStart => exact ⟨0, Nat.zero_le _, rfl, hown2, hb3⟩
  case round =>
    obtain ⟨wo, rfl⟩ : ∃ wo : World, wo = wr := ⟨_, rfl⟩
    obtain ⟨j, hjk, rfl, hown, hbel⟩ := hrel
    have hjI : (j : Int) ≤ 5 := by omega
    have hfi := Lib.hid (HFI.out j (by omega))
    by_cases h0 : j = k
    case neg =>
      have hdd : decide (k ≤ j) = false := decide_eq_false (by omega)
      rw [hdd] at hfi
      have HJ := Lib.hid (show j < k by omega)
      clear h0 hdd
      go_wp2_with fail
      refine (hfi.out _).mono ?_
      rintro e w3 ⟨rfl, hb4⟩
      have hown3 := hown.kept (row := none) ⟨hb4.os, hb4.tape, hb4.output, hb4.size, fun j hj _ => hb4.block j hj⟩ (by cases (Value.slice A2 m c2).ownBlock <;> simp)
      have hbel3 := hbel.trans (hb4.mono hbel.size)
      clear hb4
      go_wp2_with fail
      go_roundw
      case rel => exact ⟨j + 1, by have := HJ.out; omega, by go_num, hown3, hbel3⟩
      case measure => have := HJ.out; simp [intOf]; omega
    subst h0
    have hdd : decide (j ≤ j) = true := decide_eq_true (Nat.le_refl _)
    rw [hdd] at hfi
    clear hdd
    go_wp2_with fail
    refine (hfi.out _).mono ?_
    rintro e w3 ⟨rfl, hb4⟩
    have hown3 := hown.kept (row := none) ⟨hb4.os, hb4.tape, hb4.output, hb4.size, fun j hj _ => hb4.block j hj⟩ (by cases (Value.slice A2 m c2).ownBlock <;> simp)
    have hbel3 := hbel.trans (hb4.mono hbel.size)
    clear hb4 hown hbel hown2 hb3
    go_wp2_with fail
    refine (HRR.out _).mono ?_
    rintro e w4 ⟨rfl, hb4⟩
    have hown4 := hown3.kept (row := none) ⟨hb4.os, hb4.tape, hb4.output, hb4.size, fun j hj _ => hb4.block j hj⟩ (by cases (Value.slice A2 m c2).ownBlock <;> simp)
    have hbel4 := hbel3.trans (hb4.mono hbel3.size)
    clear hb4 hown3 hbel3
    go_wp2_with fail
    -- the ones ahead
    go_loopw [8, 12] (fun s8 s12 wr => ∃ (i n' c' : Nat) (A' : Option Addr), i ≤ j ∧ n' = m + i ∧ s12 = .int .i64 (i : Int) ∧ s8 = .slice A' n' c' ∧ wr.ownsRow w1.heap.size 5 1 (.slice A' n' c') n' (u8s (ones (L ++ List.replicate i true))) ∧ Below w1.heap.size w1 wr) (fun _ s12 _ => j - (intOf s12).toNat)
    case atStart => exact ⟨0, m, c2, A2, Nat.zero_le _, rfl, rfl, rfl, by simpa using hown4, hbel4⟩
    case round =>
      obtain ⟨wi, rfl⟩ : ∃ wi : World, wi = wr := ⟨_, rfl⟩
      obtain ⟨i, NN, c', A', hij, hn', rfl, rfl, hown, hbel⟩ := hrel
      have hiI : (i : Int) ≤ (j : Int) := by omega
      have hzr : w1.heap.size ≤ wi.heap.size := hbel.size
      clear hown4 hbel4
      have hnI : (NN : Int) ≤ 8000005 := by omega
      have hmx : NN + 1 ≤ maxLen := by unfold maxLen; omega
      have hby : (NN + 1) * 1 ≤ 140737488355328 := by omega
      have HN' := Lib.hid hn'
      clear hn'
      by_cases h0 : i = j
      case neg =>
        have hltI : (i : Int) < (j : Int) := by omega
        have hdd : decide (i < j) = true := decide_eq_true (by omega)
        have HJ := Lib.hid (show i < j by omega)
        clear h0
        go_wp2_with (at_builtin; refine wpList_append_lies _ rfl _ _ 25 rfl w1.heap.size 5 i0 (.int .u8 0) 1 1 Try.underlying25 hi hz0 hz1 hz2 rfl (by decide) (.slice A' NN c') NN (u8s (ones (L ++ List.replicate i true))) rfl (hown.alloc _) ⟨wi.heap.size, 0, none⟩ 1 1 [_] rfl rfl (World.news_of_block (heap_alloc_new wi _)) (by simp [Value.oneCell']) (by decide) hmx hby (by simp; omega) (wi.heap.size + 1) (by simp) ?_; intro gg cap w5 hown5 hgrow hat hlt5)
        go_roundw
        case rel =>
          refine ⟨i + 1, NN + 1, cap, some ⟨gg, 0, none⟩, by have := HJ.out; omega, by have := HN'.out; omega, by go_num, rfl, ?_, ((hbel.alloc hzr _).grown hgrow (by simp; omega) (fun j hj => (hown.lt j hj).1))⟩
          rw [replicate_snoc, ← List.append_assoc, ones_app1]
          exact hown5
        case measure => have := HJ.out; simp [intOf]; omega
      subst h0
      have hm9 : (m : Int) ≤ 8000000 := hm8
      have hi5 : (i : Int) ≤ 5 := by omega
      by_cases h5 : i < 5
      · have hdd : decide (i < 5) = true := decide_eq_true h5
        have hddI : (i : Int) < 5 := by omega
        have HLL : Hid (L' = (L ++ List.replicate i true ++ [false]) ++ nbits n d) := Lib.hid (by rw [HL'.out, if_pos h5])
        have hb5 : bi false = 0 := rfl
        have HH5 := Lib.hid h5
        clear h5
        go_wp2_with (at_builtin; refine wpList_append_lies _ rfl _ _ 25 rfl w1.heap.size 5 i0 (.int .u8 0) 1 1 Try.underlying25 hi hz0 hz1 hz2 rfl (by decide) (.slice A' NN c') NN (u8s (ones (L ++ List.replicate i true))) rfl (hown.alloc _) ⟨wi.heap.size, 0, none⟩ 1 1 [_] rfl rfl (World.news_of_block (heap_alloc_new wi _)) (by simp [Value.oneCell']) (by decide) hmx hby (by simp; omega) (wi.heap.size + 1) (by simp) ?_; intro gg cap w5 hown5 hgrow hat hlt5)
        replace hown5 : w5.ownsRow w1.heap.size 5 1 (.slice (some ⟨gg, 0, none⟩) (NN + 1) cap) (NN + 1) (u8s (ones (L ++ List.replicate i true ++ [false]))) := by rw [ones_app1]; exact hown5
        have hbel5 := ((hbel.alloc hzr (.cells #[.int .u8 0] 5)).grown hgrow (by simp; omega) (fun j hj => (hown.lt j hj).1))
        clear hgrow hown hbel hat hlt5 hb5
        have hn5 : ((NN + 1 : Nat) : Int) ≤ 8000006 := by omega
        go_loopw [8, 13] (fun s8 s13 wr => ∃ r n' A' c', (r ≤ d ∧ n' + r = (NN + 1) + d) ∧ s13 = .int .i64 ((r : Nat) - 1 : Int) ∧ s8 = .slice A' n' c' ∧ wr.ownsRow w1.heap.size 5 1 (.slice A' n' c') n' (u8s (ones ((L ++ List.replicate i true ++ [false]) ++ nbits (n / 2 ^ r) (d - r)))) ∧ Below w1.heap.size w1 wr) (fun _ s13 _ => (intOf s13 + 1).toNat)
        case atStart => exact ⟨d, (NN + 1), (some ⟨gg, 0, none⟩), cap, ⟨Nat.le_refl _, rfl⟩, rfl, rfl, by simpa [nbits] using hown5, hbel5⟩
        case round =>
          obtain ⟨wq, rfl⟩ : ∃ wq : World, wq = wr := ⟨_, rfl⟩
          clear hown5 hbel5
          obtain ⟨r, n', A', c', ⟨hrW, hn'⟩, rfl, rfl, hown, hbel⟩ := hrel
          have hnb : (n' : Int) ≤ 9000000 := by omega
          have hzq : w1.heap.size ≤ wq.heap.size := hbel.size
          cases r with
          | zero =>
            have hd9 : decide ((0 : Int) ≤ ((0 : Nat) : Int) - 1) = false := by decide
            have hL0 : (L ++ List.replicate i true ++ [false]) ++ nbits (n / 2 ^ 0) (d - 0) = L' := by rw [HLL.out]; simp
            rw [hL0] at hown
            have hlen : L'.length = n' := by
              have := own_len hown
              rw [ones_length] at this
              exact this
            have hof := rof_any A' c' L' wq (Rd.of_own hown) (by rw [hlen]; omega)
            rw [hlen] at hof
            have HOF := Lib.hid hof
            have HLEN := Lib.hid hlen
            replace HR := Lib.hid (HR.out.below hbel hz)
            clear hof hlen hL0 hown hn' hrW
            go_wp2_with fail
            refine HOF.out.mono ?_
            rintro e w8 ⟨A4, c4, B4, rfl, hp4, hown4, hb4⟩
            replace HR := Lib.hid (HR.out.below hb4 HR.out.lt)
            have r0 := HR.out.cell 0
            have r1 := HR.out.cell 1
            have rf := HR.out.frozen
            go_wp2_with fail
            refine bodyPost_ret (v := .tuple #[.agg #[.slice A4 B4.length c4, .int .i64 (L'.length : Int)], .int .i64 0]) (by simp [results, Try.results17, go_sem, r0, r1]) rfl ?_
            refine ⟨A4, c4, B4, rfl, hp4, ?_, ?_⟩
            · exact own_far (own_far (own_base hown4 (by omega)) (fun e => by have := hown4.lt _ e; simp at this; omega) _) (fun e => by have := hown4.lt _ e; simp at this; omega) _
            · exact ((((HB0.out.trans (hbel.mono (by omega))).trans (hb4.mono (by omega))).setCell (by simp) _).setCell (by simp) _)
          | succ r =>
            have HN' := Lib.hid hn'
            clear hn'
            have hmx : n' + 1 ≤ maxLen := by unfold maxLen; omega
            have hby : (n' + 1) * 1 ≤ 140737488355328 := by omega
            go_wp2_with (at_builtin; refine wpList_append_lies _ rfl _ _ 25 rfl w1.heap.size 5 i0 (.int .u8 0) 1 1 Try.underlying25 hi hz0 hz1 hz2 rfl (by decide) (.slice A' n' c') n' (u8s (ones ((L ++ List.replicate i true ++ [false]) ++ nbits (n / 2 ^ (r + 1)) (d - (r + 1))))) rfl (hown.alloc _) ⟨wq.heap.size, 0, none⟩ 1 1 [_] rfl rfl (World.news_of_block (heap_alloc_new wq _)) (by simp [Value.oneCell']) (by decide) hmx hby (by simp; omega) (wq.heap.size + 1) (by simp) ?_; intro gg cap w9 hown9 hgrow hat hlt9)
            rw [num_bit HN64.out] at hown9
            go_roundw
            case rel =>
              refine ⟨r, n' + 1, some ⟨gg, 0, none⟩, cap, ⟨by omega, by have := HN'.out; omega⟩, rfl, rfl, ?_, ?_⟩
              · rw [nbits_step hrW, ← List.append_assoc, ones_snoc, u8s_append]; exact hown9
              · exact ((hbel.alloc hzq _).grown hgrow (by simp; omega) (fun j hj => (hown.lt j hj).1))
            case measure => simp [intOf]
      · have hdd : decide (i < 5) = false := decide_eq_false h5
        have hddI : ¬ (i : Int) < 5 := by omega
        have hdd2 : decide ((i : Int) < 5) = false := decide_eq_false hddI
        have HLL : Hid (L' = (L ++ List.replicate i true) ++ nbits n d) := Lib.hid (by rw [HL'.out, if_neg h5, List.append_nil])
        clear h5
        go_wp2_with fail
        have hown5 := hown
        have hbel5 := hbel
        clear hown hbel
        go_loopw [8, 13] (fun s8 s13 wr => ∃ r n' A' c', (r ≤ d ∧ n' + r = NN + d) ∧ s13 = .int .i64 ((r : Nat) - 1 : Int) ∧ s8 = .slice A' n' c' ∧ wr.ownsRow w1.heap.size 5 1 (.slice A' n' c') n' (u8s (ones ((L ++ List.replicate i true) ++ nbits (n / 2 ^ r) (d - r)))) ∧ Below w1.heap.size w1 wr) (fun _ s13 _ => (intOf s13 + 1).toNat)
        case atStart => exact ⟨d, NN, A', c', ⟨Nat.le_refl _, rfl⟩, rfl, rfl, by simpa [nbits] using hown5, hbel5⟩
        case round =>
          obtain ⟨wq, rfl⟩ : ∃ wq : World, wq = wr := ⟨_, rfl⟩
          clear hown5 hbel5
          obtain ⟨r, n', A', c', ⟨hrW, hn'⟩, rfl, rfl, hown, hbel⟩ := hrel
          have hnb : (n' : Int) ≤ 9000000 := by omega
          have hzq : w1.heap.size ≤ wq.heap.size := hbel.size
          cases r with
          | zero =>
            have hd9 : decide ((0 : Int) ≤ ((0 : Nat) : Int) - 1) = false := by decide
            have hL0 : (L ++ List.replicate i true) ++ nbits (n / 2 ^ 0) (d - 0) = L' := by rw [HLL.out]; simp
            rw [hL0] at hown
            have hlen : L'.length = n' := by
              have := own_len hown
              rw [ones_length] at this
              exact this
            have hof := rof_any A' c' L' wq (Rd.of_own hown) (by rw [hlen]; omega)
            rw [hlen] at hof
            have HOF := Lib.hid hof
            have HLEN := Lib.hid hlen
            replace HR := Lib.hid (HR.out.below hbel hz)
            clear hof hlen hL0 hown hn' hrW
            go_wp2_with fail
            refine HOF.out.mono ?_
            rintro e w8 ⟨A4, c4, B4, rfl, hp4, hown4, hb4⟩
            replace HR := Lib.hid (HR.out.below hb4 HR.out.lt)
            have r0 := HR.out.cell 0
            have r1 := HR.out.cell 1
            have rf := HR.out.frozen
            go_wp2_with fail
            refine bodyPost_ret (v := .tuple #[.agg #[.slice A4 B4.length c4, .int .i64 (L'.length : Int)], .int .i64 0]) (by simp [results, Try.results17, go_sem, r0, r1]) rfl ?_
            refine ⟨A4, c4, B4, rfl, hp4, ?_, ?_⟩
            · exact own_far (own_far (own_base hown4 (by omega)) (fun e => by have := hown4.lt _ e; simp at this; omega) _) (fun e => by have := hown4.lt _ e; simp at this; omega) _
            · exact ((((HB0.out.trans (hbel.mono (by omega))).trans (hb4.mono (by omega))).setCell (by simp) _).setCell (by simp) _)
          | succ r =>
            have HN' := Lib.hid hn'
            clear hn'
            have hmx : n' + 1 ≤ maxLen := by unfold maxLen; omega
            have hby : (n' + 1) * 1 ≤ 140737488355328 := by omega
            go_wp2_with (at_builtin; refine wpList_append_lies _ rfl _ _ 25 rfl w1.heap.size 5 i0 (.int .u8 0) 1 1 Try.underlying25 hi hz0 hz1 hz2 rfl (by decide) (.slice A' n' c') n' (u8s (ones ((L ++ List.replicate i true) ++ nbits (n / 2 ^ (r + 1)) (d - (r + 1))))) rfl (hown.alloc _) ⟨wq.heap.size, 0, none⟩ 1 1 [_] rfl rfl (World.news_of_block (heap_alloc_new wq _)) (by simp [Value.oneCell']) (by decide) hmx hby (by simp; omega) (wq.heap.size + 1) (by simp) ?_; intro gg cap w9 hown9 hgrow hat hlt9)
            rw [num_bit HN64.out] at hown9
            go_roundw
            case rel =>
              refine ⟨r, n' + 1, some ⟨gg, 0, none⟩, cap, ⟨by omega, by have := HN'.out; omega⟩, rfl, rfl, ?_, ?_⟩
              · rw [nbits_step hrW, ← List.append_assoc, ones_snoc, u8s_append]; exact hown9
              · exact ((hbel.alloc hzq _).grown hgrow (by simp; omega) (fun j hj => (hown.lt j hj).1))
            case measure => simp [intOf]
end Go.Proofs.Yteemncpmcfflmaa
