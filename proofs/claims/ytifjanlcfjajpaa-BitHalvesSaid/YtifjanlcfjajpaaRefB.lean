/-
  draymanref01.Sound, and the references' Put, Get, Cut, Join.
-/
import Derived.Test.YtifjanlcfjajpaaRefA
namespace Go.Proofs.Ytifjanlcfjajpaa
open Go.RowKit Pl
set_option linter.unusedVariables false

/-- No bit from M to k is set. -/
def Clear (B : List Int) (M k : Nat) : Prop := ∀ i, M ≤ i → i < k → bitAt B i = false
theorem Clear.more {B : List Int} {M k : Nat} (h : Clear B M k) (hb : bitAt B k = false) : Clear B M (k + 1) := fun i h1 h2 => by
  by_cases e : i = k
  · subst e; exact hb
  · exact h i h1 (by omega)
theorem snd_clear {B : List Int} {M k : Nat} (h : Clear B M k) (hk : k = 8 * B.length) (hl : B.length = (M + 7) / 8) : Snd B (M : Int) :=
  ⟨by omega, by rw [Int.toNat_natCast]; exact hl, fun i hi => by
    rw [Int.toNat_natCast] at hi
    by_cases e : i < k
    · exact h i hi e
    · exact bitAt_far (by omega)⟩

set_option maxRecDepth 100000 in
set_option maxHeartbeats 2000000 in
theorem rsound_any (A : Option Addr) (c : Nat) (B : List Int) (N : Int) (w : World) (hr : Rd w A B) (hB : Byts B) (hN : -9223372036854775808 ≤ N ∧ N ≤ 9223372036854775807) (hl : (B.length : Int) ≤ 100000000) :
    Calls Try.prog 18 #[.agg #[.slice A B.length c, .int .i64 N]] w fun e w' => e = .returned (.bool (sndB B N)) ∧ Below w.heap.size w w' := by
  obtain ⟨n, hn⟩ : ∃ n, B.length = n := ⟨_, rfl⟩
  have HNL := Lib.hid hn
  have hl' : (n : Int) ≤ 100000000 := by omega
  by_cases h0 : N < 0
  · rw [sndB_false (fun h => absurd h.1 (by omega)), hn]
    have hd : decide (N < 0) = true := by simp; omega
    clear hN hn hB hr hl
    go_enter Try.func18, Try.ntmps18
    go_wp2_with fail
    go_ret
    exact ⟨rfl, (Below.refl _ _).alloc (Nat.le_refl _) _⟩
  · have hd : decide (N < 0) = false := by simp; omega
    have hN0 : 0 ≤ N := by omega
    have hN1 : N ≤ 9223372036854775807 := hN.2
    by_cases h1 : 8 * (n : Int) < N
    · rw [sndB_false (fun h => by have := h.2.1; omega), hn]
      have hd1 : decide (8 * (n : Int) < N) = true := by simp; omega
      clear hN hn hB hr hl
      go_enter Try.func18, Try.ntmps18
      go_wp2_with fail
      go_ret
      exact ⟨rfl, (Below.refl _ _).alloc (Nat.le_refl _) _⟩
    · have hd1 : decide (8 * (n : Int) < N) = false := by simp; omega
      by_cases h2 : n ≠ 0 ∧ N ≤ 8 * ((n : Int) - 1)
      · rw [sndB_false (fun h => by have := h.2.1; omega), hn]
        have hd2 : ((n : Int) != 0) = true := by rw [bne_iff_ne]; omega
        have hd3 : decide (N ≤ 8 * ((n : Int) - 1)) = true := by simp; omega
        clear hN hn hB hr hl h2
        go_enter Try.func18, Try.ntmps18
        go_wp2_with fail
        go_ret
        exact ⟨rfl, (Below.refl _ _).alloc (Nat.le_refl _) _⟩
      · obtain ⟨M, rfl⟩ : ∃ M : Nat, N = M := ⟨N.toNat, by omega⟩
        have hM8 : M ≤ 8 * n := by omega
        have hMn : n = (M + 7) / 8 := by omega
        rw [hn]
        by_cases hn0 : n = 0
        · have hd2 : ((n : Int) != 0) = false := by rw [bne_eq_false_iff_eq]; omega
          have HMN := Lib.hid hMn
          clear hN hn hl h2 hn0 hMn
          go_enter Try.func18, Try.ntmps18
          go_wp2_with fail
          go_loopw [3] (fun i wr => ∃ k : Nat, (M ≤ k ∧ k ≤ 8 * n) ∧ i = .int .i64 k ∧ Clear B M k ∧ Below (w.heap.size + 1) (w.alloc (.cells #[.slice A n c, .int .i64 M] 24)) wr) (fun i _ => 8 * n - (intOf i).toNat)
          case atStart => exact ⟨M, ⟨Nat.le_refl _, hM8⟩, rfl, fun i h1 h2 => absurd h2 (by omega), Below.refl _ _⟩
          case round =>
            obtain ⟨k, ⟨hk1, hk2⟩, rfl, hclr, hbel⟩ := hrel
            have hb2 : Below w.heap.size w wr := ((Below.refl _ _).alloc (Nat.le_refl _) _).trans (hbel.mono (by omega))
            have hc0 : wr.cell? ⟨w.heap.size, 0, none⟩ = some (.slice A n c) := (hbel.cell (by simp)).trans (by simp)
            have hc1 : wr.cell? ⟨w.heap.size, 1, none⟩ = some (.int .i64 (M : Int)) := (hbel.cell (by simp)).trans (by simp)
            have hrd := hr.below hb2
            have hkb : (k : Int) ≤ 800000000 := by omega
            by_cases h9 : k = 8 * n
            · have hf : decide ((k : Int) < 8 * (n : Int)) = false := by simp; omega
              have HK := Lib.hid h9
              clear h9
              go_wp2_with fail
              go_ret
              refine ⟨ret_bool ?_, hb2⟩
              exact ((sndB_iff B M).2 (snd_clear hclr (by rw [HNL.out]; exact HK.out) (by rw [HNL.out]; exact HMN.out))).symm
            · have hf : decide ((k : Int) < 8 * (n : Int)) = true := by simp; omega
              have hk8 : k < 8 * B.length := by have := HNL.out; omega
              have HK := Lib.hid h9
              clear h9
              go_wp2_with fail
              rw [← HNL.out]
              refine (rbit_any A c B M k _ hrd hB hk8 (by have := HNL.out; omega)).mono ?_
              rintro e w1 ⟨rfl, hb3⟩
              rw [HNL.out]
              cases hbit : bitAt B k
              · have h3 : (bi false == 1) = false := rfl
                have HB := Lib.hid hbit
                clear hbit
                go_wp2_with fail
                go_roundw
                case rel => exact ⟨k + 1, ⟨by omega, by have := HK.out; omega⟩, by go_num, hclr.more HB.out, hbel.trans (hb3.mono (by have := hbel.size; simp at this; omega))⟩
                case measure => have := HK.out; simp [intOf]; omega
              · have h3 : (bi true == 1) = true := rfl
                have HB := Lib.hid hbit
                clear hbit
                go_wp2_with fail
                go_ret
                refine ⟨ret_bool ?_, hb2.trans (hb3.mono (by have := hb2.size; omega))⟩
                exact (sndB_false (fun h => by have := h.2.2 k (by omega); rw [HB.out] at this; cases this)).symm
        · have hd2 : ((n : Int) != 0) = true := by rw [bne_iff_ne]; omega
          have hd3 : decide ((M : Int) ≤ 8 * ((n : Int) - 1)) = false := by simp; omega
          have HMN := Lib.hid hMn
          clear hN hn hl h2 hn0 hMn
          go_enter Try.func18, Try.ntmps18
          go_wp2_with fail
          go_loopw [3] (fun i wr => ∃ k : Nat, (M ≤ k ∧ k ≤ 8 * n) ∧ i = .int .i64 k ∧ Clear B M k ∧ Below (w.heap.size + 1) (w.alloc (.cells #[.slice A n c, .int .i64 M] 24)) wr) (fun i _ => 8 * n - (intOf i).toNat)
          case atStart => exact ⟨M, ⟨Nat.le_refl _, hM8⟩, rfl, fun i h1 h2 => absurd h2 (by omega), Below.refl _ _⟩
          case round =>
            obtain ⟨k, ⟨hk1, hk2⟩, rfl, hclr, hbel⟩ := hrel
            have hb2 : Below w.heap.size w wr := ((Below.refl _ _).alloc (Nat.le_refl _) _).trans (hbel.mono (by omega))
            have hc0 : wr.cell? ⟨w.heap.size, 0, none⟩ = some (.slice A n c) := (hbel.cell (by simp)).trans (by simp)
            have hc1 : wr.cell? ⟨w.heap.size, 1, none⟩ = some (.int .i64 (M : Int)) := (hbel.cell (by simp)).trans (by simp)
            have hrd := hr.below hb2
            have hkb : (k : Int) ≤ 800000000 := by omega
            by_cases h9 : k = 8 * n
            · have hf : decide ((k : Int) < 8 * (n : Int)) = false := by simp; omega
              have HK := Lib.hid h9
              clear h9
              go_wp2_with fail
              go_ret
              refine ⟨ret_bool ?_, hb2⟩
              exact ((sndB_iff B M).2 (snd_clear hclr (by rw [HNL.out]; exact HK.out) (by rw [HNL.out]; exact HMN.out))).symm
            · have hf : decide ((k : Int) < 8 * (n : Int)) = true := by simp; omega
              have hk8 : k < 8 * B.length := by have := HNL.out; omega
              have HK := Lib.hid h9
              clear h9
              go_wp2_with fail
              rw [← HNL.out]
              refine (rbit_any A c B M k _ hrd hB hk8 (by have := HNL.out; omega)).mono ?_
              rintro e w1 ⟨rfl, hb3⟩
              rw [HNL.out]
              cases hbit : bitAt B k
              · have h3 : (bi false == 1) = false := rfl
                have HB := Lib.hid hbit
                clear hbit
                go_wp2_with fail
                go_roundw
                case rel => exact ⟨k + 1, ⟨by omega, by have := HK.out; omega⟩, by go_num, hclr.more HB.out, hbel.trans (hb3.mono (by have := hbel.size; simp at this; omega))⟩
                case measure => have := HK.out; simp [intOf]; omega
              · have h3 : (bi true == 1) = true := rfl
                have HB := Lib.hid hbit
                clear hbit
                go_wp2_with fail
                go_ret
                refine ⟨ret_bool ?_, hb2.trans (hb3.mono (by have := hb2.size; omega))⟩
                exact (sndB_false (fun h => by have := h.2.2 k (by omega); rw [HB.out] at this; cases this)).symm

/-- What the walk is told of the reference's 'Sound', hidden. -/
def RSoundSays (A : Option Addr) (c : Nat) (B : List Int) (N : Int) (x : Bool) : Prop :=
  ∀ wx, Rd wx A B → Calls Try.prog 18 #[.agg #[.slice A B.length c, .int .i64 N]] wx fun e w' => e = .returned (.bool x) ∧ Below wx.heap.size wx w'

theorem rsound_no {A : Option Addr} {c : Nat} {B : List Int} {N : Int} (hB : Byts B) (hN : -9223372036854775808 ≤ N ∧ N ≤ 9223372036854775807) (hl : (B.length : Int) ≤ 100000000) (hs : ¬ Snd B N) : RSoundSays A c B N false :=
  fun wx h => by have := rsound_any A c B N wx h hB hN hl; rwa [sndB_false hs] at this
theorem rsound_yes {A : Option Addr} {c : Nat} {B : List Int} {L : List Bool} (hp : Packs B L) (hl : (B.length : Int) ≤ 100000000) : RSoundSays A c B (L.length : Int) true :=
  fun wx h => by
    have := packs_len_le hp
    have := rsound_any A c B (L.length : Int) wx h hp.byts (by omega) hl
    rwa [(sndB_iff B _).2 (snd_of_packs hp)] at this

set_option maxHeartbeats 1000000 in
theorem rput_unsound (A : Option Addr) (c : Nat) (B : List Int) (N v W : Int) (w : World) (hr : Rd w A B) (hB : Byts B) (hN : -9223372036854775808 ≤ N ∧ N ≤ 9223372036854775807) (hl : (B.length : Int) ≤ 100000000) (hs : ¬ Snd B N) :
    Calls Try.prog 19 #[.agg #[.slice A B.length c, .int .i64 N], .int .u64 v, .int .i64 W] w (RetNone .i64 11 w) := by
  have HS : RSoundSays A c B N false := rsound_no hB hN hl hs
  clear hN hB hs
  go_enter Try.func19, Try.ntmps19
  go_wp2_with fail
  refine (HS _ ?_).mono ?_
  · exact (hr.alloc _).alloc _
  rintro e w1 ⟨rfl, hb1⟩
  obtain ⟨hc, hf⟩ := bcell hb1
  have hz : w.heap.size + 1 < w1.heap.size := by have := hb1.size; simp at this; omega
  have hb2 : Below w.heap.size w w1 := (((Below.refl _ _).alloc (Nat.le_refl _) _).alloc (by simp) _).trans (hb1.mono (by simp; omega))
  go_wp2_with fail
  refine bodyPost_ret (v := .tuple #[.agg #[.slice none 0 0, .int .i64 0], .int .i64 11]) (by simp [results, Try.results19, go_sem, hc]) rfl ⟨rfl, ?_⟩
  exact ((hb2.setCell (by simp) _).setCell (by simp) _)

set_option maxHeartbeats 1000000 in
theorem rput_wide (A : Option Addr) (c : Nat) (B : List Int) (L : List Bool) (v W : Int) (w : World) (hr : Rd w A B) (hp : Packs B L) (hl : (B.length : Int) ≤ 100000000) (hW : W < 0 ∨ 64 < W) :
    Calls Try.prog 19 #[.agg #[.slice A B.length c, .int .i64 (L.length : Int)], .int .u64 v, .int .i64 W] w (RetNone .i64 1 w) := by
  have HS : RSoundSays A c B (L.length : Int) true := rsound_yes hp hl
  clear hp
  have hd : decide (W < 0) = true ∨ decide (W < 0) = false ∧ decide (64 < W) = true := by
    rcases hW with h | h
    · left; simp; omega
    · right; constructor <;> simp <;> omega
  clear hW
  rcases hd with hd | ⟨hd, hd2⟩
  all_goals
    go_enter Try.func19, Try.ntmps19
    go_wp2_with fail
    refine (HS _ ?_).mono ?_
    · exact (hr.alloc _).alloc _
    rintro e w1 ⟨rfl, hb1⟩
    obtain ⟨hc, hf⟩ := bcell hb1
    have hz : w.heap.size + 1 < w1.heap.size := by have := hb1.size; simp at this; omega
    have hb2 : Below w.heap.size w w1 := (((Below.refl _ _).alloc (Nat.le_refl _) _).alloc (by simp) _).trans (hb1.mono (by simp; omega))
    go_wp2_with fail
    refine bodyPost_ret (v := .tuple #[.agg #[.slice none 0 0, .int .i64 0], .int .i64 1]) (by simp [results, Try.results19, go_sem, hc]) rfl ⟨rfl, ?_⟩
    exact ((hb2.setCell (by simp) _).setCell (by simp) _)

set_option maxRecDepth 100000 in
set_option maxHeartbeats 2000000 in
theorem rput_sound (A : Option Addr) (c : Nat) (B : List Int) (L : List Bool) (v W : Nat) (w : World) (hr : Rd w A B) (hp : Packs B L) (hl : (B.length : Int) ≤ 1000000) (hv : U64 v) (hW : W ≤ 64) :
    Calls Try.prog 19 #[.agg #[.slice A B.length c, .int .i64 (L.length : Int)], .int .u64 v, .int .i64 W] w (RetBits 5 .i64 (L ++ nbits v W) w) := by
  have HS : RSoundSays A c B (L.length : Int) true := rsound_yes hp (by omega)
  obtain ⟨i0, hi, hz0, hz1, hz2⟩ := info_parts info_u8'
  have hd : decide ((W : Int) < 0) = false := by simp
  have hd2 : decide ((64 : Int) < (W : Int)) = false := by simp; omega
  have HP := Lib.hid hp
  have hLB := packs_len_le hp
  clear hp
  obtain ⟨L', hL'⟩ : ∃ L', L' = L ++ nbits v W := ⟨_, rfl⟩
  rw [← hL']
  have HL' := Lib.hid hL'
  clear hL'
  go_enter Try.func19, Try.ntmps19
  go_wp2_with fail
  refine (HS _ ?_).mono ?_
  · exact (hr.alloc _).alloc _
  rintro e w1 ⟨rfl, hb1⟩
  obtain ⟨hc, hf⟩ := bcell hb1
  have hz : w.heap.size + 1 < w1.heap.size := by have := hb1.size; simp at this; omega
  have hb2 : Below w.heap.size w w1 := (((Below.refl _ _).alloc (Nat.le_refl _) _).alloc (by simp) _).trans (hb1.mono (by simp; omega))
  go_wp2_with fail
  refine (rlist_any A c B L _ ?_ HP.out (by omega)).mono ?_
  · exact hr.below hb2
  rintro e w2 ⟨A2, c2, rfl, hown2, hb3⟩
  have hq0 : w1.cell? ⟨w.heap.size + 1, 0, none⟩ = some (.slice none 0 0) := (hb1.cell (p := ⟨w.heap.size + 1, 0, none⟩) (by simp)).trans (by simp)
  have hq1 : w1.cell? ⟨w.heap.size + 1, 1, none⟩ = some (.int .i64 0) := (hb1.cell (p := ⟨w.heap.size + 1, 1, none⟩) (by simp)).trans (by simp)
  have hg0 : w1.frozen? ⟨w.heap.size + 1, 0, none⟩ = false := (hb1.frozen (p := ⟨w.heap.size + 1, 0, none⟩) (by simp)).trans (by simp)
  have hg1 : w1.frozen? ⟨w.heap.size + 1, 1, none⟩ = false := (hb1.frozen (p := ⟨w.heap.size + 1, 1, none⟩) (by simp)).trans (by simp)
  rw [ones_length] at hown2 ⊢
  obtain ⟨m, hm⟩ : ∃ m, L.length = m := ⟨_, rfl⟩
  rw [hm] at hown2 hLB ⊢
  have hm8 : (m : Int) ≤ 8000000 := by omega
  have HM := Lib.hid hm
  clear hm hc hf hb1 HS
  go_wp2_with fail
  go_loopw [9, 10] (fun l i wr => ∃ r n' A' c', (r ≤ W ∧ n' + r = m + W) ∧ i = .int .i64 ((r : Nat) - 1 : Int) ∧ l = .slice A' n' c' ∧ wr.ownsRow w1.heap.size 5 1 (.slice A' n' c') n' (u8s (ones (L ++ nbits (v / 2 ^ r) (W - r)))) ∧ Below w1.heap.size w1 wr) (fun _ i _ => (intOf i + 1).toNat)
  case atStart => exact ⟨W, m, A2, c2, ⟨Nat.le_refl _, rfl⟩, rfl, rfl, by simpa [nbits] using hown2, hb3⟩
  case round =>
    obtain ⟨r, n', A', c', ⟨hrW, hn'⟩, rfl, rfl, hown, hbel⟩ := hrel
    have hbw : Below w.heap.size w wr := hb2.trans (hbel.mono (by omega))
    have hnb : (n' : Int) ≤ 9000000 := by omega
    cases r with
    | zero =>
      have hd9 : decide ((0 : Int) ≤ ((0 : Nat) : Int) - 1) = false := by decide
      have hlen : L'.length = n' := by rw [HL'.out, List.length_append, nbits_length, HM.out]; omega
      have hL0 : L ++ nbits (v / 2 ^ 0) (W - 0) = L' := by rw [HL'.out]; simp
      rw [hL0] at hown
      have hof := rof_any A' c' L' wr (Rd.of_own hown) (by rw [hlen]; omega)
      rw [hlen] at hof
      have HOF := Lib.hid hof
      have HLEN := Lib.hid hlen
      have hcr0 := (hbel.cell (p := ⟨w.heap.size + 1, 0, none⟩) hz).trans hq0
      have hcr1 := (hbel.cell (p := ⟨w.heap.size + 1, 1, none⟩) hz).trans hq1
      have hfr0 := (hbel.frozen (p := ⟨w.heap.size + 1, 0, none⟩) hz).trans hg0
      have hfr1 := (hbel.frozen (p := ⟨w.heap.size + 1, 1, none⟩) hz).trans hg1
      have hzr : w.heap.size + 1 < wr.heap.size := by have := hbel.size; omega
      clear hof hlen hL0 hown hn' hrW
      go_wp2_with fail
      refine HOF.out.mono ?_
      rintro e w4 ⟨A4, c4, B4, rfl, hp4, hown4, hb4⟩
      have hcs0 := (hb4.cell (p := ⟨w.heap.size + 1, 0, none⟩) hzr).trans hcr0
      have hcs1 := (hb4.cell (p := ⟨w.heap.size + 1, 1, none⟩) hzr).trans hcr1
      have hfs0 := (hb4.frozen (p := ⟨w.heap.size + 1, 0, none⟩) hzr).trans hfr0
      have hfs1 := (hb4.frozen (p := ⟨w.heap.size + 1, 1, none⟩) hzr).trans hfr1
      go_wp2_with fail
      refine bodyPost_ret (v := .tuple #[.agg #[.slice A4 B4.length c4, .int .i64 (L'.length : Int)], .int .i64 0]) (by simp [results, Try.results19, go_sem, hcs0, hcs1]) rfl ?_
      refine ⟨A4, c4, B4, rfl, hp4, ?_, ?_⟩
      · exact own_far (own_far (own_base hown4 (by omega)) (fun e => by have := hown4.lt _ e; simp at this; omega) _) (fun e => by have := hown4.lt _ e; simp at this; omega) _
      · exact (((hbw.trans (hb4.mono (by omega))).setCell (by simp) _).setCell (by simp) _)
    | succ r =>
      have HN' := Lib.hid hn'
      clear hn'
      have hmx : n' + 1 ≤ maxLen := by unfold maxLen; omega
      have hby : (n' + 1) * 1 ≤ 140737488355328 := by omega
      have hzr : w1.heap.size ≤ wr.heap.size := hbel.size
      go_wp2_with (at_builtin; refine wpList_append_lies _ rfl _ _ 22 rfl w1.heap.size 5 i0 (.int .u8 0) 1 1 Try.underlying22 hi hz0 hz1 hz2 rfl (by decide) (.slice A' n' c') n' (u8s (ones (L ++ nbits (v / 2 ^ (r + 1)) (W - (r + 1))))) rfl (hown.alloc _) ⟨wr.heap.size, 0, none⟩ 1 1 [_] rfl rfl (World.news_of_block (heap_alloc_new wr _)) (by simp [Value.oneCell']) (by decide) hmx hby (by simp; omega) (wr.heap.size + 1) (by simp) ?_; intro gg cap w2 hown2 hgrow hat hlt2)
      rw [num_bit hv] at hown2
      go_roundw
      case rel =>
        refine ⟨r, n' + 1, some ⟨gg, 0, none⟩, cap, ⟨by omega, by have := HN'.out; omega⟩, rfl, rfl, ?_, ?_⟩
        · rw [nbits_step hrW, ← List.append_assoc, ones_snoc, u8s_append]; exact hown2
        · exact ((hbel.alloc hzr _).grown hgrow (by simp; omega) (fun j hj => (hown.lt j hj).1))
      case measure => simp [intOf]

end Go.Proofs.Ytifjanlcfjajpaa
