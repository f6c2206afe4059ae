/-
  bit.Get: the number at a place.
-/
import Derived.Test.YteemncpmcfflmaaPut
import Derived.Test.YteemncpmcfflmaaPl3
import Derived.Deep.RegionHeld3
namespace Go.Proofs.Yteemncpmcfflmaa
open Go.RowKit Pl
set_option linter.unusedVariables false

def RetNum (k : IntKind) (v x : Int) (w : World) (e : Ending) (w' : World) : Prop :=
  e = .returned (.tuple #[.int .u64 v, .int k x]) ∧ Below w.heap.size w w'

set_option maxHeartbeats 1000000 in
theorem get_unsound (A : Option Addr) (c : Nat) (B : List Int) (N p W : Int) (w : World) (hr : Rd w A B) (hB : Byts B) (hN : -9223372036854775808 ≤ N ∧ N ≤ 9223372036854775807) (hl : (B.length : Int) ≤ 1000000000) (hs : ¬ Snd B N) :
    Calls Try.prog 30 #[.agg #[.slice A B.length c, .int .i64 N], .int .i64 p, .int .i64 W] w (RetNum .u16 0 11 w) := by
  have HS : SoundSays A c B N false := sound_no hB hN hl hs
  clear hN hB hs
  go_enter Try.func30, Try.ntmps30
  go_wp2_with fail
  refine (HS _ ?_).mono ?_
  · exact (hr.alloc _)
  rintro e w1 ⟨rfl, hb1⟩
  have hb2 : Below w.heap.size w w1 := (((Below.refl _ _).alloc (Nat.le_refl _) _)).trans (hb1.mono (by simp))
  go_wp2_with fail
  go_ret2
  exact ⟨rfl, hb2⟩

set_option maxHeartbeats 1000000 in
theorem get_wide (A : Option Addr) (c : Nat) (B : List Int) (L : List Bool) (p W : Int) (w : World) (hr : Rd w A B) (hp : Packs B L) (hl : (B.length : Int) ≤ 1000000000) (hW : W < 0 ∨ 64 < W) :
    Calls Try.prog 30 #[.agg #[.slice A B.length c, .int .i64 (L.length : Int)], .int .i64 p, .int .i64 W] w (RetNum .u16 0 1 w) := by
  have HS : SoundSays A c B (L.length : Int) true := sound_yes hp hl
  clear hp
  rcases hW with hW | hW
  · have hd : decide (W < 0) = true := by simp; omega
    go_enter Try.func30, Try.ntmps30
    go_wp2_with fail
    refine (HS _ ?_).mono ?_
    · exact (hr.alloc _)
    rintro e w1 ⟨rfl, hb1⟩
    have hb2 : Below w.heap.size w w1 := (((Below.refl _ _).alloc (Nat.le_refl _) _)).trans (hb1.mono (by simp))
    go_wp2_with fail
    go_ret2
    exact ⟨rfl, hb2⟩
  · have hd : decide (W < 0) = false := by simp; omega
    have hd2 : decide (64 < W) = true := by simp; omega
    go_enter Try.func30, Try.ntmps30
    go_wp2_with fail
    refine (HS _ ?_).mono ?_
    · exact (hr.alloc _)
    rintro e w1 ⟨rfl, hb1⟩
    have hb2 : Below w.heap.size w w1 := (((Below.refl _ _).alloc (Nat.le_refl _) _)).trans (hb1.mono (by simp))
    go_wp2_with fail
    go_ret2
    exact ⟨rfl, hb2⟩

set_option maxHeartbeats 1000000 in
theorem get_far (A : Option Addr) (c : Nat) (B : List Int) (L : List Bool) (p W : Int) (w : World) (hr : Rd w A B) (hp : Packs B L) (hl : (B.length : Int) ≤ 1000000000) (hW : 0 ≤ W ∧ W ≤ 64) (hi : p ≤ 9223372036854775807) (hf : p < 0 ∨ (L.length : Int) < p ∨ (L.length : Int) - p < W) :
    Calls Try.prog 30 #[.agg #[.slice A B.length c, .int .i64 (L.length : Int)], .int .i64 p, .int .i64 W] w (RetNum .u16 0 10 w) := by
  have HS : SoundSays A c B (L.length : Int) true := sound_yes hp hl
  have hLB := packs_len_le hp
  clear hp
  have hd : decide (W < 0) = false := by simp; omega
  have hd2 : decide (64 < W) = false := by simp; omega
  by_cases h1 : p < 0
  · have hd3 : decide (p < 0) = true := by simp; omega
    go_enter Try.func30, Try.ntmps30
    go_wp2_with fail
    refine (HS _ ?_).mono ?_
    · exact (hr.alloc _)
    rintro e w1 ⟨rfl, hb1⟩
    have hb2 : Below w.heap.size w w1 := (((Below.refl _ _).alloc (Nat.le_refl _) _)).trans (hb1.mono (by simp))
    go_wp2_with fail
    go_ret2
    exact ⟨rfl, hb2⟩
  · have hd3 : decide (p < 0) = false := by simp; omega
    by_cases h2 : (L.length : Int) < p
    · have hd4 : decide ((L.length : Int) < p) = true := by simp; omega
      clear hf
      go_enter Try.func30, Try.ntmps30
      go_wp2_with fail
      refine (HS _ ?_).mono ?_
      · exact (hr.alloc _)
      rintro e w1 ⟨rfl, hb1⟩
      have hb2 : Below w.heap.size w w1 := (((Below.refl _ _).alloc (Nat.le_refl _) _)).trans (hb1.mono (by simp))
      obtain ⟨hc, hf⟩ := bcell hb1
      go_wp2_with fail
      go_ret2
      exact ⟨rfl, hb2⟩
    · have hd4 : decide ((L.length : Int) < p) = false := by simp; omega
      have hd5 : decide ((L.length : Int) - p < W) = true := by simp; omega
      clear hf
      go_enter Try.func30, Try.ntmps30
      go_wp2_with fail
      refine (HS _ ?_).mono ?_
      · exact (hr.alloc _)
      rintro e w1 ⟨rfl, hb1⟩
      have hb2 : Below w.heap.size w w1 := (((Below.refl _ _).alloc (Nat.le_refl _) _)).trans (hb1.mono (by simp))
      obtain ⟨hc, hf⟩ := bcell hb1
      go_wp2_with fail
      go_ret2
      exact ⟨rfl, hb2⟩

set_option maxRecDepth 100000 in
set_option maxHeartbeats 2000000 in
theorem get_sound (A : Option Addr) (c : Nat) (B : List Int) (L : List Bool) (p W : Nat) (w : World) (hr : Rd w A B) (hp : Packs B L) (hl : (B.length : Int) ≤ 1000000) (hW : W ≤ 64) (hpw : p + W ≤ L.length) :
    Calls Try.prog 30 #[.agg #[.slice A B.length c, .int .i64 (L.length : Int)], .int .i64 p, .int .i64 W] w (RetNum .u16 (val (sub L p W) : Nat) 0 w) := by
  have HS : SoundSays A c B (L.length : Int) true := sound_yes hp (by omega)
  have hLB := packs_len_le hp
  have HP := Lib.hid hp
  clear hp
  have hd : decide ((W : Int) < 0) = false := by simp
  have hd2 : decide ((64 : Int) < (W : Int)) = false := by simp; omega
  have hd3 : decide ((p : Int) < 0) = false := by simp
  have hd4 : decide ((L.length : Int) < (p : Int)) = false := by simp; omega
  have hd5 : decide ((L.length : Int) - (p : Int) < (W : Int)) = false := by simp; omega
  have hd6 : decide (L.length < p) = false := by simp; omega
  go_enter Try.func30, Try.ntmps30
  go_wp2_with fail
  refine (HS _ ?_).mono ?_
  · exact (hr.alloc _)
  rintro e w1 ⟨rfl, hb1⟩
  have hb2 : Below w.heap.size w w1 := (((Below.refl _ _).alloc (Nat.le_refl _) _)).trans (hb1.mono (by simp))
  have hz : w.heap.size < w1.heap.size := by have := hb1.size; simp at this; omega
  have hc0 : w1.cell? ⟨w.heap.size, 0, none⟩ = some (.slice A B.length c) := (hb1.cell (p := ⟨w.heap.size, 0, none⟩) (by simp)).trans (by simp)
  have hc1 : w1.cell? ⟨w.heap.size, 1, none⟩ = some (.int .i64 (L.length : Int)) := (hb1.cell (p := ⟨w.heap.size, 1, none⟩) (by simp)).trans (by simp)
  go_wp2_with fail
  go_loopw [1, 2, 8] (fun f i v wr => ∃ q r : Nat, q + r = p + W ∧ r ≤ W ∧ f = .int .i64 q ∧ i = .int .i64 r ∧ v = .int .u64 (val (sub L p (W - r)) : Nat) ∧ Below w1.heap.size w1 wr) (fun _ i _ _ => (intOf i).toNat)
  case atStart => exact ⟨p, W, rfl, Nat.le_refl _, rfl, rfl, by simp [sub_zero, val], Below.refl _ _⟩
  case round =>
    obtain ⟨q, r, hqr, hr1, rfl, rfl, rfl, hbel⟩ := hrel
    have hcr0 : wr.cell? ⟨w.heap.size, 0, none⟩ = some (.slice A B.length c) := (hbel.cell hz).trans hc0
    have hcr1 : wr.cell? ⟨w.heap.size, 1, none⟩ = some (.int .i64 (L.length : Int)) := (hbel.cell hz).trans hc1
    have hzr : w.heap.size < wr.heap.size := by have := hbel.size; omega
    have hrd := hr.below (hb2.trans (hbel.mono (by omega)))
    have hr64 : (r : Int) ≤ 64 := by omega
    have hq64 : (q : Int) ≤ 8000000 := by omega
    have HQ := Lib.hid hqr
    clear hqr hd hd2 hd3 hd4 hd5 hd6 hb1 hc0 hc1
    by_cases h0 : r = 0
    · subst h0
      go_wp2_with fail
      go_ret2
      exact ⟨rfl, hb2.trans (hbel.mono (by omega))⟩
    · have h0' : decide (0 < r) = true := by simp; omega
      have H0 := Lib.hid h0
      clear h0
      by_cases h8 : 8 < r
      · obtain ⟨t, rfl⟩ : ∃ t, r = t + 8 := ⟨r - 8, by omega⟩
        have h8' : (8 : Int) < (t : Int) + 8 := by omega
        clear h8 h0'
        have h0' : decide (0 < t + 8) = true := by simp
        have hw0 : IntKind.i64.wrap 0 = 0 := by decide
        go_wp2_with fail
        go_region_held3 (fun w' => w'.cell? ⟨w.heap.size, 0, none⟩ = some (.slice A B.length c) ∧ w'.cell? ⟨w.heap.size, 1, none⟩ = some (.int .i64 (L.length : Int)))
          (first
            | go_keep
            | (refine ⟨(hb3.cell (p := ⟨w.heap.size, 0, none⟩) (by simp; omega)).trans (by simp; assumption), (hb3.cell (p := ⟨w.heap.size, 1, none⟩) (by simp; omega)).trans (by simp; assumption)⟩))
          ((go_at_call 36; refine (at_any A c B _ q _ ?_ HP.out.byts ?_ ?_).mono ?_; (exact hrd); (have := HQ.out; omega); omega; rintro e w2 ⟨x, rfl, hx, hxb, hb3⟩))
        go_wp2_with fail
        have HV := push8 (S := sub L p (W - (t + 8))) hx (by rw [sub_length (by omega)]; omega)
        rw [topb_sub HP.out hxb (by omega) (by have := HQ.out; omega)] at HV
        have hq : q = p + (W - (t + 8)) := by have := HQ.out; omega
        rw [hq, ← sub_add, show W - (t + 8) + 8 = W - t from by omega] at HV
        clear hq
        rw [HV]
        have HV := Lib.hid HV
        go_roundw
        case rel => exact ⟨q + 8, t, by have := HQ.out; omega, by omega, by go_num, by go_num, rfl, hbel.drew.trans (hb3.mono hbel.size)⟩
        case measure => simp [intOf]; omega
      · have h8' : (r : Int) ≤ 8 := by omega
        have hw0 : IntKind.i64.wrap (8 - (r : Int)) = 8 - (r : Int) := IntWalk.i64_in _ (by omega)
        have hw1 : (0 : Int) ≤ 8 - (r : Int) := by omega
        have H8 := Lib.hid h8
        clear h8
        go_wp2_with fail
        go_region_held3 (fun w' => w'.cell? ⟨w.heap.size, 0, none⟩ = some (.slice A B.length c) ∧ w'.cell? ⟨w.heap.size, 1, none⟩ = some (.int .i64 (L.length : Int)))
          (first
            | go_keep
            | (refine ⟨(hb3.cell (p := ⟨w.heap.size, 0, none⟩) (by simp; omega)).trans (by simp; assumption), (hb3.cell (p := ⟨w.heap.size, 1, none⟩) (by simp; omega)).trans (by simp; assumption)⟩))
          ((go_at_call 36; refine (at_any A c B _ q _ ?_ HP.out.byts ?_ ?_).mono ?_; (exact hrd); (have := HQ.out; have := H0.out; omega); omega; rintro e w2 ⟨x, rfl, hx, hxb, hb3⟩))
        go_wp2_with fail
        have HV := push_few (S := sub L p (W - r)) (r := r) hx (by omega) (by rw [sub_length (by omega)]; omega)
        rw [topb_sub HP.out hxb (by omega) (by have := HQ.out; omega)] at HV
        have hq : q = p + (W - r) := by have := HQ.out; omega
        rw [hq, ← sub_add, show W - r + r = W - 0 from by omega] at HV
        clear hq
        rw [HV]
        have HV := Lib.hid HV
        go_roundw
        case rel => exact ⟨q + r, 0, by have := HQ.out; omega, by omega, by go_num, by go_num, rfl, hbel.drew.trans (hb3.mono hbel.size)⟩
        case measure => have := H0.out; simp [intOf]; omega

end Go.Proofs.Yteemncpmcfflmaa
