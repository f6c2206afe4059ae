/-
  The references' Get and Cut.
-/
import Derived.Test.YteemncpmcfflmaaRefS
namespace Go.Proofs.Yteemncpmcfflmaa
open Go.RowKit Pl
set_option linter.unusedVariables false

theorem dbl_bit {S : List Bool} {b : Bool} (hS : S.length + 1 ≤ 64) : IntKind.u64.wrap (IntKind.u64.wrap (2 * (val S : Int)) + IntKind.u64.wrap (bi b)) = (val (S ++ [b]) : Nat) := by
  have h1 := val_lt (S ++ [b])
  rw [List.length_append] at h1
  have h2 : 2 ^ (S.length + [b].length) ≤ 2 ^ 64 := Nat.pow_le_pow_right (by omega) (by simpa using hS)
  have h3 : (2 : Nat) ^ 64 = 18446744073709551616 := by decide
  have hb := bi_range b
  have e : bi b = (b.toNat : Int) := by cases b <;> rfl
  rw [wrap_u64, wrap_u64, wrap_u64, val_snoc, e]
  rw [val_snoc] at h1
  omega
theorem sub_snoc {L : List Bool} {p q : Nat} (h : p + q < L.length) : sub L p (q + 1) = sub L p q ++ [L.getD (p + q) false] := by
  rw [sub_add]
  congr 1
  simp only [sub]
  rw [List.drop_eq_getElem_cons h, List.getD_eq_getElem?_getD, List.getElem?_eq_getElem h]
  rfl

def RRetNum (v x : Int) (w : World) (e : Ending) (w' : World) : Prop :=
  e = .returned (.tuple #[.int .u64 v, .int .i64 x]) ∧ Below w.heap.size w w'

set_option maxHeartbeats 1000000 in
theorem rget_unsound (A : Option Addr) (c : Nat) (B : List Int) (N p W : Int) (w : World) (hr : Rd w A B) (hB : Byts B) (hN : -9223372036854775808 ≤ N ∧ N ≤ 9223372036854775807) (hl : (B.length : Int) ≤ 100000000) (hs : ¬ Snd B N) :
    Calls Try.prog 32 #[.agg #[.slice A B.length c, .int .i64 N], .int .i64 p, .int .i64 W] w (RRetNum 0 11 w) := by
  have HS : RSoundSays A c B N false := rsound_no hB hN hl hs
  clear hN hB hs
  go_enter Try.func32, Try.ntmps32
  go_wp2_with fail
  refine (HS _ ?_).mono ?_
  · exact (hr.alloc _)
  rintro e w1 ⟨rfl, hb1⟩
  have hb2 : Below w.heap.size w w1 := (((Below.refl _ _).alloc (Nat.le_refl _) _)).trans (hb1.mono (by simp))
  go_wp2_with fail
  go_ret2
  exact ⟨rfl, hb2⟩

set_option maxHeartbeats 1000000 in
theorem rget_wide (A : Option Addr) (c : Nat) (B : List Int) (L : List Bool) (p W : Int) (w : World) (hr : Rd w A B) (hp : Packs B L) (hl : (B.length : Int) ≤ 100000000) (hW : W < 0 ∨ 64 < W) :
    Calls Try.prog 32 #[.agg #[.slice A B.length c, .int .i64 (L.length : Int)], .int .i64 p, .int .i64 W] w (RRetNum 0 1 w) := by
  have HS : RSoundSays A c B (L.length : Int) true := rsound_yes hp hl
  clear hp
  have hd : decide (W < 0) = true ∨ decide (W < 0) = false ∧ decide (64 < W) = true := by
    rcases hW with h | h
    · left; simp; omega
    · right; constructor <;> simp <;> omega
  clear hW
  rcases hd with hd | ⟨hd, hd2⟩
  all_goals
    go_enter Try.func32, Try.ntmps32
    go_wp2_with fail
    refine (HS _ ?_).mono ?_
    · exact (hr.alloc _)
    rintro e w1 ⟨rfl, hb1⟩
    have hb2 : Below w.heap.size w w1 := (((Below.refl _ _).alloc (Nat.le_refl _) _)).trans (hb1.mono (by simp))
    go_wp2_with fail
    go_ret2
    exact ⟨rfl, hb2⟩

set_option maxHeartbeats 1000000 in
theorem rget_far (A : Option Addr) (c : Nat) (B : List Int) (L : List Bool) (p W : Int) (w : World) (hr : Rd w A B) (hp : Packs B L) (hl : (B.length : Int) ≤ 100000000) (hW : 0 ≤ W ∧ W ≤ 64) (hi : p ≤ 9223372036854775807) (hf : p < 0 ∨ (L.length : Int) < p ∨ (L.length : Int) - p < W) :
    Calls Try.prog 32 #[.agg #[.slice A B.length c, .int .i64 (L.length : Int)], .int .i64 p, .int .i64 W] w (RRetNum 0 10 w) := by
  have HS : RSoundSays A c B (L.length : Int) true := rsound_yes hp hl
  have hLB := packs_len_le hp
  clear hp
  have hd : decide (W < 0) = false := by simp; omega
  have hd2 : decide (64 < W) = false := by simp; omega
  have hd3 : decide (p < 0) = true ∨ decide (p < 0) = false ∧ decide ((L.length : Int) < p) = true ∨ (0 ≤ p ∧ decide (p < 0) = false ∧ decide ((L.length : Int) < p) = false ∧ decide ((L.length : Int) - p < W) = true) := by
    by_cases h1 : p < 0
    · left; simp; omega
    · right
      by_cases h2 : (L.length : Int) < p
      · left; constructor <;> simp <;> omega
      · right; refine ⟨by omega, ?_, ?_, ?_⟩ <;> simp <;> omega
  clear hf
  rcases hd3 with hd3 | ⟨hd3, hd4⟩ | ⟨hd0, hd3, hd4, hd5⟩
  all_goals
    go_enter Try.func32, Try.ntmps32
    go_wp2_with fail
    refine (HS _ ?_).mono ?_
    · exact (hr.alloc _)
    rintro e w1 ⟨rfl, hb1⟩
    have hb2 : Below w.heap.size w w1 := (((Below.refl _ _).alloc (Nat.le_refl _) _)).trans (hb1.mono (by simp))
    obtain ⟨hc, hf⟩ := bcell hb1
    go_wp2_with fail
    go_ret2
    exact ⟨rfl, hb2⟩

set_option maxRecDepth 100000 in
set_option maxHeartbeats 2000000 in
theorem rget_sound (A : Option Addr) (c : Nat) (B : List Int) (L : List Bool) (p W : Nat) (w : World) (hr : Rd w A B) (hp : Packs B L) (hl : (B.length : Int) ≤ 1000000) (hW : W ≤ 64) (hpw : p + W ≤ L.length) :
    Calls Try.prog 32 #[.agg #[.slice A B.length c, .int .i64 (L.length : Int)], .int .i64 p, .int .i64 W] w (RRetNum (val (sub L p W) : Nat) 0 w) := by
  have HS : RSoundSays A c B (L.length : Int) true := rsound_yes hp (by omega)
  have hLB := packs_len_le hp
  have HP := Lib.hid hp
  clear hp
  have hd : decide ((W : Int) < 0) = false := by simp
  have hd2 : decide ((64 : Int) < (W : Int)) = false := by simp; omega
  have hd3 : decide ((p : Int) < 0) = false := by simp
  have hd5 : decide ((L.length : Int) - (p : Int) < (W : Int)) = false := by simp; omega
  have hd6 : decide (L.length < p) = false := by simp; omega
  go_enter Try.func32, Try.ntmps32
  go_wp2_with fail
  refine (HS _ ?_).mono ?_
  · exact (hr.alloc _)
  rintro e w1 ⟨rfl, hb1⟩
  have hb2 : Below w.heap.size w w1 := (((Below.refl _ _).alloc (Nat.le_refl _) _)).trans (hb1.mono (by simp))
  have hz : w.heap.size < w1.heap.size := by have := hb1.size; simp at this; omega
  have hc0 : w1.cell? ⟨w.heap.size, 0, none⟩ = some (.slice A B.length c) := (hb1.cell (p := ⟨w.heap.size, 0, none⟩) (by simp)).trans (by simp)
  have hc1 : w1.cell? ⟨w.heap.size, 1, none⟩ = some (.int .i64 (L.length : Int)) := (hb1.cell (p := ⟨w.heap.size, 1, none⟩) (by simp)).trans (by simp)
  go_wp2_with fail
  go_loopw [9, 10] (fun v i wr => ∃ q : Nat, q ≤ W ∧ i = .int .i64 ((p + q : Nat) : Int) ∧ v = .int .u64 (val (sub L p q) : Nat) ∧ Below w1.heap.size w1 wr) (fun _ i _ => p + W - (intOf i).toNat)
  case atStart => exact ⟨0, Nat.zero_le _, rfl, by simp [sub_zero, val], Below.refl _ _⟩
  case round =>
    obtain ⟨q, hqW, rfl, rfl, hbel⟩ := hrel
    have hcr0 : wr.cell? ⟨w.heap.size, 0, none⟩ = some (.slice A B.length c) := (hbel.cell hz).trans hc0
    have hcr1 : wr.cell? ⟨w.heap.size, 1, none⟩ = some (.int .i64 (L.length : Int)) := (hbel.cell hz).trans hc1
    have hrd := hr.below (hb2.trans (hbel.mono (by omega)))
    have hp64 : (p : Int) + W ≤ 8000000 := by omega
    have hq64 : (q : Int) ≤ W := by omega
    have hbw := hb2.trans (hbel.mono (by omega))
    clear hb1 hc0 hc1 hd3 hd5 hd6 HS
    by_cases h0 : q = W
    · subst h0
      go_wp2_with fail
      go_ret2
      exact ⟨rfl, hbw⟩
    · have h1 : decide (q < W) = true := by simp; omega
      have H0 := Lib.hid h0
      clear h0
      have hqW' : q < W := by have := H0.out; omega
      have hbit := rbit_any A c B (L.length : Int) (p + q) wr hrd HP.out.byts (by omega) (by omega)
      rw [HP.out.bit, Int.natCast_add] at hbit
      have HB := Lib.hid hbit
      obtain ⟨b, hb⟩ : ∃ b, L.getD (p + q) false = b := ⟨_, rfl⟩
      have HBB := Lib.hid hb
      clear hbit hb
      go_wp2_with fail
      refine HB.out.mono ?_
      rintro e w2 ⟨rfl, hb3⟩
      rw [HBB.out]
      go_wp2_with fail
      rw [dbl_bit (by rw [sub_length (by omega)]; omega), ← HBB.out, ← sub_snoc (by omega)]
      go_roundw
      case rel => exact ⟨q + 1, by omega, by go_num, rfl, hbel.trans (hb3.mono hbel.size)⟩
      case measure => simp [intOf]; omega

set_option maxHeartbeats 1000000 in
theorem rcut_unsound (A : Option Addr) (c : Nat) (B : List Int) (N p t : Int) (w : World) (hr : Rd w A B) (hB : Byts B) (hN : -9223372036854775808 ≤ N ∧ N ≤ 9223372036854775807) (hl : (B.length : Int) ≤ 100000000) (hs : ¬ Snd B N) :
    Calls Try.prog 20 #[.agg #[.slice A B.length c, .int .i64 N], .int .i64 p, .int .i64 t] w (RetNone .i64 11 w) := by
  have HS : RSoundSays A c B N false := rsound_no hB hN hl hs
  clear hN hB hs
  go_enter Try.func20, Try.ntmps20
  go_wp2_with fail
  refine (HS _ ?_).mono ?_
  · exact (hr.alloc _).alloc _
  rintro e w1 ⟨rfl, hb1⟩
  obtain ⟨hc, hf⟩ := bcell hb1
  have hz : w.heap.size + 1 < w1.heap.size := by have := hb1.size; simp at this; omega
  have hb2 : Below w.heap.size w w1 := (((Below.refl _ _).alloc (Nat.le_refl _) _).alloc (by simp) _).trans (hb1.mono (by simp; omega))
  go_wp2_with fail
  refine bodyPost_ret (v := .tuple #[.agg #[.slice none 0 0, .int .i64 0], .int .i64 11]) (by simp [results, Try.results20, go_sem, hc]) rfl ⟨rfl, ?_⟩
  exact ((hb2.setCell (by simp) _).setCell (by simp) _)

set_option maxHeartbeats 1000000 in
theorem rcut_far (A : Option Addr) (c : Nat) (B : List Int) (L : List Bool) (p t : Int) (w : World) (hr : Rd w A B) (hp : Packs B L) (hl : (B.length : Int) ≤ 100000000) (h : p < 0 ∨ t < p ∨ (L.length : Int) < t) :
    Calls Try.prog 20 #[.agg #[.slice A B.length c, .int .i64 (L.length : Int)], .int .i64 p, .int .i64 t] w (RetNone .i64 10 w) := by
  have HS : RSoundSays A c B (L.length : Int) true := rsound_yes hp hl
  clear hp
  have hd3 : decide (p < 0) = true ∨ decide (p < 0) = false ∧ decide (t < p) = true ∨ (decide (p < 0) = false ∧ decide (t < p) = false ∧ decide ((L.length : Int) < t) = true) := by
    by_cases h1 : p < 0
    · left; simp; omega
    · right
      by_cases h2 : t < p
      · left; constructor <;> simp <;> omega
      · right; refine ⟨?_, ?_, ?_⟩ <;> simp <;> omega
  clear h
  rcases hd3 with hd3 | ⟨hd3, hd4⟩ | ⟨hd3, hd4, hd5⟩
  all_goals
    go_enter Try.func20, Try.ntmps20
    go_wp2_with fail
    refine (HS _ ?_).mono ?_
    · exact (hr.alloc _).alloc _
    rintro e w1 ⟨rfl, hb1⟩
    obtain ⟨hc, hf⟩ := bcell hb1
    have hz : w.heap.size + 1 < w1.heap.size := by have := hb1.size; simp at this; omega
    have hb2 : Below w.heap.size w w1 := (((Below.refl _ _).alloc (Nat.le_refl _) _).alloc (by simp) _).trans (hb1.mono (by simp; omega))
    go_wp2_with fail
    refine bodyPost_ret (v := .tuple #[.agg #[.slice none 0 0, .int .i64 0], .int .i64 10]) (by simp [results, Try.results20, go_sem, hc]) rfl ⟨rfl, ?_⟩
    exact ((hb2.setCell (by simp) _).setCell (by simp) _)

set_option maxRecDepth 100000 in
set_option maxHeartbeats 2000000 in
theorem rcut_sound (A : Option Addr) (c : Nat) (B : List Int) (L : List Bool) (p t : Nat) (w : World) (hr : Rd w A B) (hp : Packs B L) (hl : (B.length : Int) ≤ 1000000) (hpt : p ≤ t) (htl : t ≤ L.length) :
    Calls Try.prog 20 #[.agg #[.slice A B.length c, .int .i64 (L.length : Int)], .int .i64 p, .int .i64 t] w (RetBits 5 .i64 (sub L p (t - p)) w) := by
  have HS : RSoundSays A c B (L.length : Int) true := rsound_yes hp (by omega)
  obtain ⟨i0, hi, hz0, hz1, hz2⟩ := info_parts info_u8'
  have hLB := packs_len_le hp
  have HP := Lib.hid hp
  clear hp
  have hd3 : decide ((p : Int) < 0) = false := by simp
  have hd4 : decide (t < p) = false := by simp; omega
  have hd5 : decide (L.length < t) = false := by simp; omega
  obtain ⟨L', hL'⟩ : ∃ L', L' = sub L p (t - p) := ⟨_, rfl⟩
  rw [← hL']
  have HL' := Lib.hid hL'
  clear hL'
  go_enter Try.func20, Try.ntmps20
  go_wp2_with fail
  refine (HS _ ?_).mono ?_
  · exact (hr.alloc _).alloc _
  rintro e w1 ⟨rfl, hb1⟩
  have hz : w.heap.size + 1 < w1.heap.size := by have := hb1.size; simp at this; omega
  have hb2 : Below w.heap.size w w1 := (((Below.refl _ _).alloc (Nat.le_refl _) _).alloc (by simp) _).trans (hb1.mono (by simp; omega))
  have hc0 : w1.cell? ⟨w.heap.size, 0, none⟩ = some (.slice A B.length c) := (hb1.cell (p := ⟨w.heap.size, 0, none⟩) (by simp; omega)).trans (by simp)
  have hc1 : w1.cell? ⟨w.heap.size, 1, none⟩ = some (.int .i64 (L.length : Int)) := (hb1.cell (p := ⟨w.heap.size, 1, none⟩) (by simp; omega)).trans (by simp)
  have hq0 : w1.cell? ⟨w.heap.size + 1, 0, none⟩ = some (.slice none 0 0) := (hb1.cell (p := ⟨w.heap.size + 1, 0, none⟩) (by simp)).trans (by simp)
  have hq1 : w1.cell? ⟨w.heap.size + 1, 1, none⟩ = some (.int .i64 0) := (hb1.cell (p := ⟨w.heap.size + 1, 1, none⟩) (by simp)).trans (by simp)
  have hg0 : w1.frozen? ⟨w.heap.size + 1, 0, none⟩ = false := (hb1.frozen (p := ⟨w.heap.size + 1, 0, none⟩) (by simp)).trans (by simp)
  have hg1 : w1.frozen? ⟨w.heap.size + 1, 1, none⟩ = false := (hb1.frozen (p := ⟨w.heap.size + 1, 1, none⟩) (by simp)).trans (by simp)
  go_wp2_with fail
  go_loopw [9, 10] (fun l i wr => ∃ q A' c', p + q ≤ t ∧ i = .int .i64 ((p + q : Nat) : Int) ∧ l = .slice A' q c' ∧ wr.ownsRow w1.heap.size 5 1 (.slice A' q c') q (u8s (ones (sub L p q))) ∧ Below w1.heap.size w1 wr) (fun _ i _ => t - (intOf i).toNat)
  case atStart => exact ⟨0, none, 0, hpt, rfl, rfl, by simpa [sub_zero, ones, u8s] using World.ownsRow_nil w1 _ _ _, Below.refl _ _⟩
  case round =>
    obtain ⟨q, A', c', hqt, rfl, rfl, hown, hbel⟩ := hrel
    have hbw : Below w.heap.size w wr := hb2.trans (hbel.mono (by omega))
    have hcr0 : wr.cell? ⟨w.heap.size, 0, none⟩ = some (.slice A B.length c) := (hbel.cell (by simp; omega)).trans hc0
    have hcr1 : wr.cell? ⟨w.heap.size, 1, none⟩ = some (.int .i64 (L.length : Int)) := (hbel.cell (by simp; omega)).trans hc1
    have hzr : w1.heap.size ≤ wr.heap.size := hbel.size
    have hrd := hr.below hbw
    have hp64 : (p : Int) + (q : Int) ≤ 8000000 := by omega
    have ht64 : (t : Int) ≤ 8000000 := by omega
    by_cases h0 : p + q = t
    · have hd9 : decide (p + q < t) = false := by simp; omega
      have hd10 : decide ((p : Int) + (q : Int) < (t : Int)) = false := by simp; omega
      have hL0 : sub L p q = L' := by rw [HL'.out, show t - p = q from by omega]
      have hlen : L'.length = q := by rw [← hL0, sub_length (by omega)]
      rw [hL0] at hown
      have hof := rof_any A' c' L' wr (Rd.of_own hown) (by rw [hlen]; omega)
      rw [hlen] at hof
      have HOF := Lib.hid hof
      have HLEN := Lib.hid hlen
      have hcr2 := (hbel.cell (p := ⟨w.heap.size + 1, 0, none⟩) hz).trans hq0
      have hcr3 := (hbel.cell (p := ⟨w.heap.size + 1, 1, none⟩) hz).trans hq1
      have hfr2 := (hbel.frozen (p := ⟨w.heap.size + 1, 0, none⟩) hz).trans hg0
      have hfr3 := (hbel.frozen (p := ⟨w.heap.size + 1, 1, none⟩) hz).trans hg1
      have hzr2 : w.heap.size + 1 < wr.heap.size := by omega
      clear hof hlen hL0 hown h0 hqt hb1 hc0 hc1 hq0 hq1 hg0 hg1 hd3 hd4 hd5 HS
      go_wp2_with fail
      refine HOF.out.mono ?_
      rintro e w4 ⟨A4, c4, B4, rfl, hp4, hown4, hb4⟩
      have hcs0 := (hb4.cell (p := ⟨w.heap.size + 1, 0, none⟩) hzr2).trans hcr2
      have hcs1 := (hb4.cell (p := ⟨w.heap.size + 1, 1, none⟩) hzr2).trans hcr3
      have hfs0 := (hb4.frozen (p := ⟨w.heap.size + 1, 0, none⟩) hzr2).trans hfr2
      have hfs1 := (hb4.frozen (p := ⟨w.heap.size + 1, 1, none⟩) hzr2).trans hfr3
      go_wp2_with fail
      refine bodyPost_ret (v := .tuple #[.agg #[.slice A4 B4.length c4, .int .i64 (L'.length : Int)], .int .i64 0]) (by simp [results, Try.results20, go_sem, hcs0, hcs1]) rfl ?_
      refine ⟨A4, c4, B4, rfl, hp4, ?_, ?_⟩
      · exact own_far (own_far (own_base hown4 (by omega)) (fun e => by have := hown4.lt _ e; simp at this; omega) _) (fun e => by have := hown4.lt _ e; simp at this; omega) _
      · exact (((hbw.trans (hb4.mono (by omega))).setCell (by simp) _).setCell (by simp) _)
    · have hd9 : decide (p + q < t) = true := by simp; omega
      have hd10 : decide ((p : Int) + (q : Int) < (t : Int)) = true := by simp; omega
      have hqt' : p + q < t := by omega
      have hbit := rbit_any A c B (L.length : Int) (p + q) wr hrd HP.out.byts (by omega) (by omega)
      rw [HP.out.bit, Int.natCast_add] at hbit
      have HB := Lib.hid hbit
      obtain ⟨b, hb⟩ : ∃ b, L.getD (p + q) false = b := ⟨_, rfl⟩
      have HBB := Lib.hid hb
      have hmx : q + 1 ≤ maxLen := by unfold maxLen; omega
      have hby : (q + 1) * 1 ≤ 140737488355328 := by omega
      clear hbit hb h0 hb1 hc0 hc1 hq0 hq1 hg0 hg1 hd3 hd4 hd5 HS
      go_wp2_with fail
      refine HB.out.mono ?_
      rintro e w2 ⟨rfl, hb3⟩
      rw [HBB.out]
      have hown1 : w2.ownsRow w1.heap.size 5 1 (.slice A' q c') q (u8s (ones (sub L p q))) := hown.kept (row := none) ⟨hb3.os, hb3.tape, hb3.output, hb3.size, fun j hj _ => hb3.block j hj⟩ (by cases (Value.slice A' q c').ownBlock <;> simp)
      have hz2' : w1.heap.size ≤ w2.heap.size := by have := hb3.size; omega
      go_wp2_with (at_builtin; refine wpList_append_lies _ rfl _ _ 25 rfl w1.heap.size 5 i0 (.int .u8 0) 1 1 Try.underlying25 hi hz0 hz1 hz2 rfl (by decide) (.slice A' q c') q (u8s (ones (sub L p q))) rfl (hown1.alloc _) ⟨w2.heap.size, 0, none⟩ 1 1 [_] rfl rfl (World.news_of_block (heap_alloc_new w2 _)) (by simp [Value.oneCell']) (by decide) hmx hby (by simp; omega) (w2.heap.size + 1) (by simp) ?_; intro gg cap w3 hown2 hgrow hat hlt2)
      go_roundw
      case rel =>
        refine ⟨q + 1, some ⟨gg, 0, none⟩, cap, by omega, by go_num, rfl, ?_, ?_⟩
        · rw [sub_snoc (by omega), HBB.out, ones_snoc, u8s_append]; exact hown2
        · exact (((hbel.trans (hb3.mono hzr)).alloc (by omega) _).grown hgrow (by simp; omega) (fun j hj => (hown1.lt j hj).1))
      case measure => simp [intOf]; omega

end Go.Proofs.Yteemncpmcfflmaa
