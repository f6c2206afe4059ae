/-
  The reference's Get.
-/
import Derived.Test.YteemncpmcfflmaaZgRPut
import Derived.Test.YteemncpmcfflmaaZgGet
namespace Go.Proofs.Yteemncpmcfflmaa
open Go.RowKit Pl
set_option linter.unusedVariables false

set_option maxHeartbeats 1000000 in
theorem rzget_unsound (A : Option Addr) (c : Nat) (B : List Int) (N p : Int) (w : World) (hr : Rd w A B) (hB : Byts B) (hN : -9223372036854775808 ≤ N ∧ N ≤ 9223372036854775807) (hl : (B.length : Int) ≤ 100000000) (hs : ¬ Snd B N) :
    Calls Try.prog 19 #[.agg #[.slice A B.length c, .int .i64 N], .int .i64 p] w (RetZ .i64 0 0 11 w) := by
  have HS : RSoundSays A c B N false := rsound_no hB hN hl hs
  clear hN hB hs
  go_enter Try.func19, Try.ntmps19
  go_wp2_with fail
  refine (HS _ ?_).mono ?_
  · exact (hr.alloc _)
  rintro e w1 ⟨rfl, hb1⟩
  have hb2 : Below w.heap.size w w1 := (((Below.refl _ _).alloc (Nat.le_refl _) _)).trans (hb1.mono (by simp))
  go_wp2_with fail
  go_ret3
  exact ⟨rfl, hb2⟩

set_option maxHeartbeats 1000000 in
theorem rzget_far (A : Option Addr) (c : Nat) (B : List Int) (L : List Bool) (p : Int) (w : World) (hr : Rd w A B) (hp : Packs B L) (hl : (B.length : Int) ≤ 100000000) (hf : p < 0 ∨ (L.length : Int) < p) :
    Calls Try.prog 19 #[.agg #[.slice A B.length c, .int .i64 (L.length : Int)], .int .i64 p] w (RetZ .i64 0 0 10 w) := by
  have HS : RSoundSays A c B (L.length : Int) true := rsound_yes hp hl
  clear hp
  have hd3 : decide (p < 0) = true ∨ decide (p < 0) = false ∧ decide ((L.length : Int) < p) = true := by
    by_cases h1 : p < 0
    · left; simp; omega
    · right; constructor <;> simp <;> omega
  clear hf
  rcases hd3 with hd3 | ⟨hd3, hd4⟩
  all_goals
    go_enter Try.func19, Try.ntmps19
    go_wp2_with fail
    refine (HS _ ?_).mono ?_
    · exact (hr.alloc _)
    rintro e w1 ⟨rfl, hb1⟩
    have hb2 : Below w.heap.size w w1 := (((Below.refl _ _).alloc (Nat.le_refl _) _)).trans (hb1.mono (by simp))
    obtain ⟨hc, hf⟩ := bcell hb1
    go_wp2_with fail
    go_ret3
    exact ⟨rfl, hb2⟩

set_option maxRecDepth 100000 in
set_option maxHeartbeats 6000000 in
theorem rzget_at (A : Option Addr) (c : Nat) (B : List Int) (L : List Bool) (p : Nat) (w : World) (hr : Rd w A B) (hp : Packs B L) (hl : (B.length : Int) ≤ 900000) (hpl : p ≤ L.length) :
    Calls Try.prog 19 #[.agg #[.slice A B.length c, .int .i64 (L.length : Int)], .int .i64 p] w (ZgSays .i64 L p w) := by
  have hLB := hp.len
  have HSS : RSoundSays A c B (L.length : Int) true := rsound_yes hp (by omega)
  unfold RSoundSays at HSS
  have HBY := Lib.hid hp
  have hG := fun (q d : Nat) (hd : d ≤ 64) (h : L.length < q + d) (hq : q ≤ 9000000) wx hh => rget_far A c B L (q : Int) (d : Int) wx hh hp (by omega) (by omega) (by omega) (.inr (by omega))
  have hS := fun (q d : Nat) (hd : d ≤ 64) (h : ¬ L.length < q + d) (hq : q ≤ 9000000) wx hh => rget_sound A c B L q d wx hh hp (by omega) hd (by omega)
  have hBI := fun q (hq : q < L.length) wx hh => rbit_any A c B (L.length : Int) q wx hh hp.byts (by omega) (by omega)
  have hbit := hp.bit
  simp only [hbit] at hBI
  obtain ⟨n, hn⟩ : ∃ n, B.length = n := ⟨_, rfl⟩
  obtain ⟨m, hm⟩ : ∃ n, L.length = n := ⟨_, rfl⟩
  rw [hn, hm] at hG hS hBI HSS
  rw [hn, hm]
  rw [hm] at hpl
  have HM := Lib.hid hm
  have HPL := Lib.hid hpl
  have hpI : (p : Int) ≤ 8000000 := by omega
  have hmI : (m : Int) ≤ 8000000 := by omega
  have HBI := Lib.hid hBI
  have HSO := Lib.hid HSS
  have HGG := Lib.hid hG
  have HSG := Lib.hid hS
  have hdp : decide ((p : Int) < 0) = false := by simp
  have hdp2 : decide (m < p) = false := decide_eq_false (by omega)
  have hdp3 : ¬ (m : Int) < (p : Int) := by omega
  clear hp hl hpl hLB hG hS hBI hn hm hbit HSS
  go_enter Try.func19, Try.ntmps19
  go_wp2_with fail
  refine (HSO.out _ (hr.alloc _)).mono ?_
  rintro e w1 ⟨rfl, hb1⟩
  have hbw1 : Below w.heap.size w w1 := ((Below.refl _ _).alloc (Nat.le_refl _) _).trans (hb1.mono (by simp))
  have HX : Hid (Blk w1 w.heap.size 27 #[.slice A n c, .int .i64 (m : Int)]) := Lib.hid ((Blk.new w _ _).below hb1 (by simp))
  clear hb1
  have x0 := HX.out.cell 0
  have x1 := HX.out.cell 1
  go_wp2_with fail
  clear x0 x1
  go_loopw [1, 8] (fun s1 s8 wr => ∃ k : Nat, s1 = .int .i64 ((p : Int) + (k : Int)) ∧ s8 = .int .i64 (k : Int) ∧ k ≤ 5 ∧ Hid (k ≤ lead (L.drop p)) ∧ Hid (Blk wr w.heap.size 27 #[.slice A n c, .int .i64 (m : Int)]) ∧ Below w.heap.size w wr) (fun _ s8 _ => 5 - (intOf s8).toNat)
  case atStart => exact ⟨0, by simp, rfl, by decide, Lib.hid (Nat.zero_le _), HX, hbw1⟩
  case round =>
    clear HX hbw1
    obtain ⟨k, rfl, rfl, hk5, HK, HX, hbel⟩ := hrel
    have x0 := HX.out.cell 0
    have x1 := HX.out.cell 1
    have hrr := hr.below hbel
    have hkI : (k : Int) ≤ 5 := by omega
    have hleN := lead_len (L.drop p)
    rw [List.length_drop, HM.out] at hleN
    have HLN := Lib.hid hleN
    clear hleN
    obtain ⟨d, hd⟩ : ∃ d, wid k = d := ⟨_, rfl⟩
    have hd64 : d ≤ 64 := by rw [← hd]; exact (row_ok hk5).2.2
    have HD := Lib.hid hd
    have hdI : (d : Int) ≤ 64 := by omega
    have hRR := rrow_any k hk5
    rw [hd] at hRR
    have HRR := Lib.hid hRR
    have HG := Lib.hid (fun q (h : m < q + d) (hq : q ≤ 9000000) wx hh => HGG.out q d hd64 h hq wx hh)
    have HS := Lib.hid (fun q (h : ¬ m < q + d) (hq : q ≤ 9000000) wx hh => HSG.out q d hd64 h hq wx hh)
    clear hd hRR
    by_cases h5 : k = 5
    · have EK : Hid (whK L p = k) := Lib.hid (by unfold whK; have := HK.out; omega)
      have EQ : Hid (whQ L p = p + k) := Lib.hid (by unfold whQ; rw [EK.out, if_neg (by omega)]; rfl)
      have NE : Hid (¬ WhE L p) := Lib.hid (fun h => by have := h.1; rw [EK.out] at this; omega)
      have hd5 : decide (k < 5) = false := decide_eq_false (by omega)
      have hd5I : ¬ (k : Int) < 5 := by omega
      clear h5
      have HQ := Lib.hid (fun (h : m < (p + k) + d) wy hh => HG.out (p + k) h (by omega) wy hh)
      have HQ2 := Lib.hid (fun (h : ¬ m < (p + k) + d) wy hh => HS.out (p + k) h (by omega) wy hh)
      rw [Int.natCast_add] at HQ HQ2
      have hqI : ((p + k) : Nat) ≤ 8000006 := by omega
      go_wp2_with fail
      refine (HRR.out _).mono ?_
      rintro e w3 ⟨rfl, hb3⟩
      have hbw3 := hbel.trans (hb3.mono hbel.size)
      replace HX := Lib.hid (HX.out.below hb3 HX.out.lt)
      clear hb3 x0 x1
      have x0 := HX.out.cell 0
      have x1 := HX.out.cell 1
      have hr3 := hr.below hbw3
      by_cases hsh : m < (p + k) + d
      · have HQ' := Lib.hid (HQ.out hsh)
        have HSH := Lib.hid hsh
        clear hsh HQ HQ2
        go_wp2_with fail
        refine (HQ'.out _ hr3).mono ?_
        rintro e w4 ⟨rfl, hb4⟩
        go_wp2_with fail
        go_ret3
        have hS : Short L p := .inr (by rw [EQ.out, EK.out, HD.out, HM.out]; exact HSH.out)
        exact ⟨fun _ => ⟨rfl, hbw3.trans (hb4.mono hbw3.size)⟩, fun h => absurd hS h, fun h => absurd hS h⟩
      · have HQ' := Lib.hid (HQ2.out hsh)
        have HSH : Hid (¬ Short L p) := Lib.hid (fun h => h.elim NE.out (fun h2 => by rw [EQ.out, EK.out, HD.out, HM.out] at h2; exact hsh h2))
        have HSH2 := Lib.hid hsh
        clear hsh HQ HQ2
        obtain ⟨v, hv⟩ : ∃ v, val (sub L (p + k) d) = v := ⟨_, rfl⟩
        rw [hv] at HQ'
        have HZ : Hid (zgN L p = v) := Lib.hid (by unfold zgN; rw [EQ.out, EK.out, HD.out]; exact hv)
        have hvl : v < 2 ^ d := by
          have := val_lt (sub L (p + k) d)
          rw [hv] at this
          have h2 : (sub L (p + k) d).length ≤ d := by simp only [sub]; rw [List.length_take]; omega
          exact Nat.lt_of_lt_of_le this (Nat.pow_le_pow_right (by decide) h2)
        have HV : Hid (U64 (v : Int)) := Lib.hid (by
          have h3 : 2 ^ d ≤ 2 ^ 64 := Nat.pow_le_pow_right (by decide) hd64
          have h4 : (2 : Nat) ^ 64 = 18446744073709551616 := by decide
          simp only [U64]; omega)
        have HRK : Hid (row v ≤ k) := Lib.hid ((row_fits hk5).2 (.inr (by rw [HD.out]; exact Nat.div_eq_of_lt hvl)))
        clear hv hvl
        go_wp2_with fail
        refine (HQ'.out _ hr3).mono ?_
        rintro e w4 ⟨rfl, hb4⟩
        have hbw4 := hbw3.trans (hb4.mono hbw3.size)
        clear hb4 x0 x1
        by_cases hk0 : k = 0
        · have hd0 : decide (0 < k) = false := decide_eq_false (by omega)
          have hd0I : ¬ (0 : Int) < (k : Int) := by omega
          have HRE : Hid (row v = k) := Lib.hid (by have := HRK.out; omega)
          clear hk0
          go_wp2_with fail
          refine (runfold_any v _ HV.out).mono ?_
          rintro e w5 ⟨rfl, rfl⟩
          go_wp2_with fail
          go_ret3
          refine ⟨fun h => absurd h HSH.out, fun _ h => absurd (by rw [HZ.out, EK.out]; exact HRE.out) h, fun _ _ => ⟨?_, hbw4⟩⟩
          rw [HZ.out, EQ.out, EK.out, HD.out]
          simp only [Int.natCast_add]
          rfl
        · obtain ⟨k1, hk1⟩ : ∃ k1, k = k1 + 1 := ⟨k - 1, by omega⟩
          have hd0 : decide (0 < k) = true := decide_eq_true (by omega)
          have hd0I : (0 : Int) < (k : Int) := by omega
          have hs1 : (k : Int) - 1 = (k1 : Int) := by omega
          have HK1 := Lib.hid hk1
          have hfi := Lib.hid (rfits_any v k1 (by omega))
          obtain ⟨b, hb⟩ : ∃ b, decide (row v ≤ k1) = b := ⟨_, rfl⟩
          rw [hb] at hfi
          have HB := Lib.hid hb
          rw [← hs1] at hfi
          clear hb hk0 hk1 hs1
          cases b
          · go_wp2_with fail
            refine (hfi.out _).mono ?_
            rintro e w6 ⟨rfl, hb6⟩
            have hbw6 := hbw4.trans (hb6.mono hbw4.size)
            clear hb6
            go_wp2_with fail
            refine (runfold_any v _ HV.out).mono ?_
            rintro e w5 ⟨rfl, rfl⟩
            go_wp2_with fail
            go_ret3
            have hre : row v = k := by have := HRK.out; have := of_decide_eq_false HB.out; have := HK1.out; omega
            refine ⟨fun h => absurd h HSH.out, fun _ h => absurd (by rw [HZ.out, EK.out]; exact hre) h, fun _ _ => ⟨?_, hbw6⟩⟩
            rw [HZ.out, EQ.out, EK.out, HD.out]
            simp only [Int.natCast_add]
            rfl
          · go_wp2_with fail
            refine (hfi.out _).mono ?_
            rintro e w6 ⟨rfl, hb6⟩
            have hbw6 := hbw4.trans (hb6.mono hbw4.size)
            clear hb6
            go_wp2_with fail
            go_ret3
            have hre : ¬ row v = k := by have := of_decide_eq_true HB.out; have := HK1.out; omega
            exact ⟨fun h => absurd h HSH.out, fun _ _ => ⟨rfl, hbw6⟩, fun _ h => absurd (by rw [HZ.out, EK.out] at h; exact h) hre⟩
    · have hlt : (k : Int) < 5 := by omega
      have hd5 : decide (k < 5) = true := decide_eq_true (by omega)
      have H5 := Lib.hid (show k < 5 by omega)
      clear h5
      by_cases hend : m ≤ p + k
      · have EK : Hid (whK L p = k) := Lib.hid (by unfold whK; have := HK.out; have := HLN.out; have := H5.out; omega)
        have hSh : Hid (Short L p) := Lib.hid (.inl ⟨by rw [EK.out]; exact H5.out, by rw [EK.out, HM.out]; exact hend⟩)
        have he : decide ((p : Int) + (k : Int) < (m : Int)) = false := decide_eq_false (by omega)
        have heI : ¬ (p : Int) + (k : Int) < (m : Int) := by omega
        have he2 : (m : Int) ≤ (p : Int) + (k : Int) := by omega
        have he3 : decide ((m : Int) ≤ (p : Int) + (k : Int)) = true := decide_eq_true he2
        clear hend
        go_wp2_with fail
        go_ret3
        exact ⟨fun _ => ⟨rfl, hbel⟩, fun h => absurd hSh.out h, fun h => absurd hSh.out h⟩
      · have he : decide ((p : Int) + (k : Int) < (m : Int)) = true := decide_eq_true (by omega)
        have heI : (p : Int) + (k : Int) < (m : Int) := by omega
        have HC := Lib.hid (HBI.out (p + k) (by omega))
        rw [Int.natCast_add] at HC
        have HE := Lib.hid (show p + k < m by omega)
        obtain ⟨b, hb⟩ : ∃ b, L.getD (p + k) false = b := ⟨_, rfl⟩
        rw [hb] at HC
        have HB := Lib.hid hb
        clear hb hend
        cases b
        · have hk := lead_false _ _ HK.out (by rw [getD_drop]; exact HB.out)
          have EK : Hid (whK L p = k) := Lib.hid (by unfold whK; have := H5.out; omega)
          have EQ : Hid (whQ L p = p + k + 1) := Lib.hid (by unfold whQ; rw [EK.out, if_pos H5.out])
          have NE : Hid (¬ WhE L p) := Lib.hid (fun h => by have := h.2; rw [EK.out, HM.out] at this; have := HE.out; omega)
          have hb0 : bi false = 0 := rfl
          rw [hb0] at HC
          clear hk hb0
          go_wp2_with fail
          refine (HC.out _ hrr).mono ?_
          rintro e w2 ⟨rfl, hb2⟩
          have hbel2 := hbel.trans (hb2.mono hbel.size)
          replace HX := Lib.hid (HX.out.below hb2 HX.out.lt)
          clear hb2 x0 x1
          have x0 := HX.out.cell 0
          have x1 := HX.out.cell 1
          have he9 : ¬ (m : Int) ≤ (p : Int) + (k : Int) := by omega
          have he8 : decide ((m : Int) ≤ (p : Int) + (k : Int)) = false := decide_eq_false he9
          have HQ := Lib.hid (fun (h : m < (p + k + 1) + d) wy hh => HG.out (p + k + 1) h (by omega) wy hh)
          have HQ2 := Lib.hid (fun (h : ¬ m < (p + k + 1) + d) wy hh => HS.out (p + k + 1) h (by omega) wy hh)
          rw [Int.natCast_add, Int.natCast_add] at HQ HQ2
          have hqI : ((p + k + 1) : Nat) ≤ 8000006 := by omega
          go_wp2_with fail
          refine (HRR.out _).mono ?_
          rintro e w3 ⟨rfl, hb3⟩
          have hbw3 := hbel2.trans (hb3.mono hbel2.size)
          replace HX := Lib.hid (HX.out.below hb3 HX.out.lt)
          clear hb3 x0 x1
          have x0 := HX.out.cell 0
          have x1 := HX.out.cell 1
          have hr3 := hr.below hbw3
          by_cases hsh : m < (p + k + 1) + d
          · have HQ' := Lib.hid (HQ.out hsh)
            have HSH := Lib.hid hsh
            clear hsh HQ HQ2
            go_wp2_with fail
            refine (HQ'.out _ hr3).mono ?_
            rintro e w4 ⟨rfl, hb4⟩
            go_wp2_with fail
            go_ret3
            have hS : Short L p := .inr (by rw [EQ.out, EK.out, HD.out, HM.out]; exact HSH.out)
            exact ⟨fun _ => ⟨rfl, hbw3.trans (hb4.mono hbw3.size)⟩, fun h => absurd hS h, fun h => absurd hS h⟩
          · have HQ' := Lib.hid (HQ2.out hsh)
            have HSH : Hid (¬ Short L p) := Lib.hid (fun h => h.elim NE.out (fun h2 => by rw [EQ.out, EK.out, HD.out, HM.out] at h2; exact hsh h2))
            have HSH2 := Lib.hid hsh
            clear hsh HQ HQ2
            obtain ⟨v, hv⟩ : ∃ v, val (sub L (p + k + 1) d) = v := ⟨_, rfl⟩
            rw [hv] at HQ'
            have HZ : Hid (zgN L p = v) := Lib.hid (by unfold zgN; rw [EQ.out, EK.out, HD.out]; exact hv)
            have hvl : v < 2 ^ d := by
              have := val_lt (sub L (p + k + 1) d)
              rw [hv] at this
              have h2 : (sub L (p + k + 1) d).length ≤ d := by simp only [sub]; rw [List.length_take]; omega
              exact Nat.lt_of_lt_of_le this (Nat.pow_le_pow_right (by decide) h2)
            have HV : Hid (U64 (v : Int)) := Lib.hid (by
              have h3 : 2 ^ d ≤ 2 ^ 64 := Nat.pow_le_pow_right (by decide) hd64
              have h4 : (2 : Nat) ^ 64 = 18446744073709551616 := by decide
              simp only [U64]; omega)
            have HRK : Hid (row v ≤ k) := Lib.hid ((row_fits hk5).2 (.inr (by rw [HD.out]; exact Nat.div_eq_of_lt hvl)))
            clear hv hvl
            go_wp2_with fail
            refine (HQ'.out _ hr3).mono ?_
            rintro e w4 ⟨rfl, hb4⟩
            have hbw4 := hbw3.trans (hb4.mono hbw3.size)
            clear hb4 x0 x1
            by_cases hk0 : k = 0
            · have hd0 : decide (0 < k) = false := decide_eq_false (by omega)
              have hd0I : ¬ (0 : Int) < (k : Int) := by omega
              have HRE : Hid (row v = k) := Lib.hid (by have := HRK.out; omega)
              clear hk0
              go_wp2_with fail
              refine (runfold_any v _ HV.out).mono ?_
              rintro e w5 ⟨rfl, rfl⟩
              go_wp2_with fail
              go_ret3
              refine ⟨fun h => absurd h HSH.out, fun _ h => absurd (by rw [HZ.out, EK.out]; exact HRE.out) h, fun _ _ => ⟨?_, hbw4⟩⟩
              rw [HZ.out, EQ.out, EK.out, HD.out]
              simp only [Int.natCast_add]
              rfl
            · obtain ⟨k1, hk1⟩ : ∃ k1, k = k1 + 1 := ⟨k - 1, by omega⟩
              have hd0 : decide (0 < k) = true := decide_eq_true (by omega)
              have hd0I : (0 : Int) < (k : Int) := by omega
              have hs1 : (k : Int) - 1 = (k1 : Int) := by omega
              have HK1 := Lib.hid hk1
              have hfi := Lib.hid (rfits_any v k1 (by omega))
              obtain ⟨b, hb⟩ : ∃ b, decide (row v ≤ k1) = b := ⟨_, rfl⟩
              rw [hb] at hfi
              have HB := Lib.hid hb
              rw [← hs1] at hfi
              clear hb hk0 hk1 hs1
              cases b
              · go_wp2_with fail
                refine (hfi.out _).mono ?_
                rintro e w6 ⟨rfl, hb6⟩
                have hbw6 := hbw4.trans (hb6.mono hbw4.size)
                clear hb6
                go_wp2_with fail
                refine (runfold_any v _ HV.out).mono ?_
                rintro e w5 ⟨rfl, rfl⟩
                go_wp2_with fail
                go_ret3
                have hre : row v = k := by have := HRK.out; have := of_decide_eq_false HB.out; have := HK1.out; omega
                refine ⟨fun h => absurd h HSH.out, fun _ h => absurd (by rw [HZ.out, EK.out]; exact hre) h, fun _ _ => ⟨?_, hbw6⟩⟩
                rw [HZ.out, EQ.out, EK.out, HD.out]
                simp only [Int.natCast_add]
                rfl
              · go_wp2_with fail
                refine (hfi.out _).mono ?_
                rintro e w6 ⟨rfl, hb6⟩
                have hbw6 := hbw4.trans (hb6.mono hbw4.size)
                clear hb6
                go_wp2_with fail
                go_ret3
                have hre : ¬ row v = k := by have := of_decide_eq_true HB.out; have := HK1.out; omega
                exact ⟨fun h => absurd h HSH.out, fun _ _ => ⟨rfl, hbw6⟩, fun _ h => absurd (by rw [HZ.out, EK.out] at h; exact h) hre⟩
        · have hb0 : bi true = 1 := rfl
          rw [hb0] at HC
          have hk := Lib.hid (lead_true _ _ HK.out (by rw [getD_drop]; exact HB.out))
          clear hb0
          go_wp2_with fail
          refine (HC.out _ hrr).mono ?_
          rintro e w2 ⟨rfl, hb2⟩
          have hbel2 := hbel.trans (hb2.mono hbel.size)
          replace HX := Lib.hid (HX.out.below hb2 HX.out.lt)
          clear hb2 x0 x1
          go_wp2_with fail
          go_roundw
          case rel => exact ⟨k + 1, by rw [Int.natCast_add, Int.add_assoc]; rfl, by go_num, by have := H5.out; omega, hk, HX, hbel2⟩
          case measure => have := H5.out; simp [intOf]; omega
end Go.Proofs.Yteemncpmcfflmaa
