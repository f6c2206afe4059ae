/-
  bit.Cut, where no more of bit is there: the bits between two places.
-/
import Derived.Test.YtaphpejhppeopaaSound
import Derived.Test.YtaphpejhppeopaaLay
import Derived.Test.YtaphpejhppeopaaPl3
import Derived.Deep.RegionHeld3
namespace Go.Proofs.Ytaphpejhppeopaa
open Go.RowKit Pl
set_option linter.unusedVariables false

/-- What the walk is told of 'Sound', hidden. -/
def SoundSays (A : Option Addr) (c : Nat) (B : List Int) (N : Int) (x : Bool) : Prop :=
  ∀ wx, Rd wx A B → Calls Try.prog 17 #[.agg #[.slice A B.length c, .int .i64 N]] wx fun e w' => e = .returned (.bool x) ∧ Below wx.heap.size wx w'

theorem sound_no {A : Option Addr} {c : Nat} {B : List Int} {N : Int} (hB : Byts B) (hN : -9223372036854775808 ≤ N ∧ N ≤ 9223372036854775807) (hl : (B.length : Int) ≤ 1000000000) (hs : ¬ Snd B N) : SoundSays A c B N false :=
  fun wx h => by have := sound_any A c B N wx h hB hN hl; rwa [sndB_false hs] at this
theorem sound_yes {A : Option Addr} {c : Nat} {B : List Int} {L : List Bool} (hp : Packs B L) (hl : (B.length : Int) ≤ 1000000000) : SoundSays A c B (L.length : Int) true :=
  fun wx h => by
    have := packs_len_le hp
    have := sound_any A c B (L.length : Int) wx h hp.byts (by omega) hl
    rwa [(sndB_iff B _).2 (snd_of_packs hp)] at this


set_option maxHeartbeats 1000000 in
theorem cut_unsound (A : Option Addr) (c : Nat) (B : List Int) (N p t : Int) (w : World) (hr : Rd w A B) (hB : Byts B) (hN : -9223372036854775808 ≤ N ∧ N ≤ 9223372036854775807) (hl : (B.length : Int) ≤ 1000000000) (hs : ¬ Snd B N) :
    Calls Try.prog 18 #[.agg #[.slice A B.length c, .int .i64 N], .int .i64 p, .int .i64 t] w (RetNone .u16 11 w) := by
  have HS : SoundSays A c B N false := sound_no hB hN hl hs
  clear hN hB hs
  go_enter Try.func18, Try.ntmps18
  go_wp2_with fail
  refine (HS _ ?_).mono ?_
  · exact (hr.alloc _).alloc _
  rintro e w1 ⟨rfl, hb1⟩
  obtain ⟨hc, hf⟩ := bcell hb1
  have hz : w.heap.size + 1 < w1.heap.size := by have := hb1.size; simp at this; omega
  have hb2 : Below w.heap.size w w1 := (((Below.refl _ _).alloc (Nat.le_refl _) _).alloc (by simp) _).trans (hb1.mono (by simp; omega))
  go_wp2_with fail
  refine bodyPost_ret (v := .tuple #[.agg #[.slice none 0 0, .int .i64 0], .int .u16 11]) (by simp [results, Try.results18, go_sem, hc]) rfl ⟨rfl, ?_⟩
  exact ((hb2.setCell (by simp) _).setCell (by simp) _)

set_option maxHeartbeats 1000000 in
theorem cut_far (A : Option Addr) (c : Nat) (B : List Int) (L : List Bool) (p t : Int) (w : World) (hr : Rd w A B) (hp : Packs B L) (hl : (B.length : Int) ≤ 1000000000) (h : p < 0 ∨ t < p ∨ (L.length : Int) < t) :
    Calls Try.prog 18 #[.agg #[.slice A B.length c, .int .i64 (L.length : Int)], .int .i64 p, .int .i64 t] w (RetNone .u16 10 w) := by
  have HS : SoundSays A c B (L.length : Int) true := sound_yes hp hl
  clear hp
  by_cases h1 : p < 0
  · have hd : decide (p < 0) = true := by simp; omega
    clear h h1
    go_enter Try.func18, Try.ntmps18
    go_wp2_with fail
    refine (HS _ ?_).mono ?_
    · exact (hr.alloc _).alloc _
    rintro e w1 ⟨rfl, hb1⟩
    obtain ⟨hc, hf⟩ := bcell hb1
    have hz : w.heap.size + 1 < w1.heap.size := by have := hb1.size; simp at this; omega
    have hb2 : Below w.heap.size w w1 := (((Below.refl _ _).alloc (Nat.le_refl _) _).alloc (by simp) _).trans (hb1.mono (by simp; omega))
    go_wp2_with fail
    refine bodyPost_ret (v := .tuple #[.agg #[.slice none 0 0, .int .i64 0], .int .u16 10]) (by simp [results, Try.results18, go_sem, hc]) rfl ⟨rfl, ?_⟩
    exact ((hb2.setCell (by simp) _).setCell (by simp) _)
  · have hd : decide (p < 0) = false := by simp; omega
    by_cases h2 : t < p
    · have hd2 : decide (t < p) = true := by simp; omega
      clear h h1
      go_enter Try.func18, Try.ntmps18
      go_wp2_with fail
      refine (HS _ ?_).mono ?_
      · exact (hr.alloc _).alloc _
      rintro e w1 ⟨rfl, hb1⟩
      obtain ⟨hc, hf⟩ := bcell hb1
      have hz : w.heap.size + 1 < w1.heap.size := by have := hb1.size; simp at this; omega
      have hb2 : Below w.heap.size w w1 := (((Below.refl _ _).alloc (Nat.le_refl _) _).alloc (by simp) _).trans (hb1.mono (by simp; omega))
      go_wp2_with fail
      refine bodyPost_ret (v := .tuple #[.agg #[.slice none 0 0, .int .i64 0], .int .u16 10]) (by simp [results, Try.results18, go_sem, hc]) rfl ⟨rfl, ?_⟩
      exact ((hb2.setCell (by simp) _).setCell (by simp) _)
    · have hd2 : decide (t < p) = false := by simp; omega
      have hd3 : decide ((L.length : Int) < t) = true := by simp; omega
      have hd3' : (L.length : Int) < t := by omega
      clear h h1 h2
      go_enter Try.func18, Try.ntmps18
      go_wp2_with fail
      refine (HS _ ?_).mono ?_
      · exact (hr.alloc _).alloc _
      rintro e w1 ⟨rfl, hb1⟩
      obtain ⟨hc, hf⟩ := bcell hb1
      have hz : w.heap.size + 1 < w1.heap.size := by have := hb1.size; simp at this; omega
      have hb2 : Below w.heap.size w w1 := (((Below.refl _ _).alloc (Nat.le_refl _) _).alloc (by simp) _).trans (hb1.mono (by simp; omega))
      go_wp2_with fail
      refine bodyPost_ret (v := .tuple #[.agg #[.slice none 0 0, .int .i64 0], .int .u16 10]) (by simp [results, Try.results18, go_sem, hc]) rfl ⟨rfl, ?_⟩
      exact ((hb2.setCell (by simp) _).setCell (by simp) _)

/-- A new writer holds nothing. -/
theorem Wr.new (w : World) : Wr (w.alloc (.cells #[.slice none 0 0, .int .i64 0] 51)) w.heap.size w.heap.size [] :=
  ⟨none, 0, 0, [], Blk.new _ _ _, Nat.le_refl _, World.ownsRow_nil _ _ _ _, packs_nil⟩

/-- A writer stays behind a call that turns nothing old. -/
theorem Wr.below {w w' : World} {base gw : Nat} {L : List Bool} (h : Wr w base gw L) (hb : Below w.heap.size w w') : Wr w' base gw L := by
  obtain ⟨A, n, c, B, hblk, hg, hown, hp⟩ := h
  refine ⟨A, n, c, B, hblk.below hb hblk.lt, hg, ?_, hp⟩
  exact hown.kept (row := none) ⟨hb.os, hb.tape, hb.output, hb.size, fun k hk _ => hb.block k hk⟩ (by cases (Value.slice A n c).ownBlock <;> simp)

set_option maxRecDepth 100000 in
set_option maxHeartbeats 2000000 in
theorem cut_sound (A : Option Addr) (c : Nat) (B : List Int) (L : List Bool) (p t : Nat) (w : World) (hr : Rd w A B) (hp : Packs B L) (hl : (B.length : Int) ≤ 1000000) (hpt : p ≤ t) (htl : t ≤ L.length) :
    Calls Try.prog 18 #[.agg #[.slice A B.length c, .int .i64 (L.length : Int)], .int .i64 p, .int .i64 t] w (RetBits 5 .u16 (sub L p (t - p)) w) := by
  have HS : SoundSays A c B (L.length : Int) true := sound_yes hp (by omega)
  have hLB := packs_len_le hp
  have HP := Lib.hid hp
  clear hp
  have hd3 : decide ((p : Int) < 0) = false := by simp
  have hd4 : decide (t < p) = false := by simp; omega
  have hd5 : decide (L.length < t) = false := by simp; omega
  obtain ⟨L', hL'⟩ : ∃ L', L' = sub L p (t - p) := ⟨_, rfl⟩
  rw [← hL']
  have HL' := Lib.hid hL'
  clear hL'
  go_enter Try.func18, Try.ntmps18
  go_wp2_with fail
  refine (HS _ ?_).mono ?_
  · exact (hr.alloc _).alloc _
  rintro e w1 ⟨rfl, hb1⟩
  have hz : w.heap.size + 1 < w1.heap.size := by have := hb1.size; simp at this; omega
  have hb2 : Below w.heap.size w w1 := (((Below.refl _ _).alloc (Nat.le_refl _) _).alloc (by simp) _).trans (hb1.mono (by simp; omega))
  have hc0 : w1.cell? ⟨w.heap.size, 0, none⟩ = some (.slice A B.length c) := (hb1.cell (p := ⟨w.heap.size, 0, none⟩) (by simp; omega)).trans (by simp)
  have hc1 : w1.cell? ⟨w.heap.size, 1, none⟩ = some (.int .i64 (L.length : Int)) := (hb1.cell (p := ⟨w.heap.size, 1, none⟩) (by simp; omega)).trans (by simp)
  have hc2 : w1.cell? ⟨w.heap.size + 1, 0, none⟩ = some (.slice none 0 0) := (hb1.cell (p := ⟨w.heap.size + 1, 0, none⟩) (by simp)).trans (by simp)
  have hc3 : w1.cell? ⟨w.heap.size + 1, 1, none⟩ = some (.int .i64 0) := (hb1.cell (p := ⟨w.heap.size + 1, 1, none⟩) (by simp)).trans (by simp)
  have hf2 : w1.frozen? ⟨w.heap.size + 1, 0, none⟩ = false := (hb1.frozen (p := ⟨w.heap.size + 1, 0, none⟩) (by simp)).trans (by simp)
  have hf3 : w1.frozen? ⟨w.heap.size + 1, 1, none⟩ = false := (hb1.frozen (p := ⟨w.heap.size + 1, 1, none⟩) (by simp)).trans (by simp)
  go_wp2_with fail
  go_loopw [1] (fun f wr => ∃ q : Nat, p ≤ q ∧ q ≤ t ∧ f = .int .i64 q ∧ Wr wr w1.heap.size w1.heap.size (sub L p (q - p)) ∧ Below w1.heap.size w1 wr) (fun f _ => t - (intOf f).toNat)
  case atStart => exact ⟨p, Nat.le_refl _, hpt, rfl, by simpa [sub_zero] using Wr.new w1, (Below.refl _ _).alloc (Nat.le_refl _) _⟩
  case round =>
    obtain ⟨q, hpq, hqt, rfl, hwr, hbel⟩ := hrel
    have hcr0 : wr.cell? ⟨w.heap.size, 0, none⟩ = some (.slice A B.length c) := (hbel.cell (by simp; omega)).trans hc0
    have hcr1 : wr.cell? ⟨w.heap.size, 1, none⟩ = some (.int .i64 (L.length : Int)) := (hbel.cell (by simp; omega)).trans hc1
    have hcr2 : wr.cell? ⟨w.heap.size + 1, 0, none⟩ = some (.slice none 0 0) := (hbel.cell hz).trans hc2
    have hcr3 : wr.cell? ⟨w.heap.size + 1, 1, none⟩ = some (.int .i64 0) := (hbel.cell hz).trans hc3
    have hfr2 : wr.frozen? ⟨w.heap.size + 1, 0, none⟩ = false := (hbel.frozen hz).trans hf2
    have hfr3 : wr.frozen? ⟨w.heap.size + 1, 1, none⟩ = false := (hbel.frozen hz).trans hf3
    have hzr : w1.heap.size ≤ wr.heap.size := hbel.size
    have hrd := hr.below (hb2.trans (hbel.mono (by omega)))
    have hq64 : (q : Int) ≤ 8000000 := by omega
    have ht64 : (t : Int) ≤ 8000000 := by omega
    clear hb1 hc0 hc1 hc2 hc3 hf2 hf3 hd3 hd4 hd5
    by_cases h0 : q = t
    · subst h0
      rw [← HL'.out] at hwr
      obtain ⟨A', n', c', B', hblk, hgw, hown, hp'⟩ := hwr
      have hg0 := hblk.cell 0
      have hg1 := hblk.cell 1
      go_wp2_with fail
      refine bodyPost_ret (v := .tuple #[.agg #[.slice A' n' c', .int .i64 (L'.length : Int)], .int .u16 0]) (by simp [results, Try.results18, go_sem, hcr2, hcr3]) rfl ?_
      have hn' := own_len hown
      subst hn'
      refine ⟨A', c', B', rfl, hp', ?_, ?_⟩
      · exact own_far (own_far (own_base hown (by omega)) (fun e => by have := hown.lt _ e; simp at this; omega) _) (fun e => by have := hown.lt _ e; simp at this; omega) _
      · exact (((hb2.trans (hbel.mono (by omega))).setCell (by simp) _).setCell (by simp) _)
    · have h1 : decide (q < t) = true := by simp; omega
      by_cases h8 : q + 8 < t
      · have h8' : (8 : Int) < (t : Int) - (q : Int) := by omega
        have H8 := Lib.hid h8
        clear h8 h0
        go_wp2_with fail
        refine (at_any A c B _ q _ hrd HP.out.byts (by have := H8.out; omega) (by omega)).mono ?_
        rintro e w2 ⟨x, rfl, hx, hxb, hb3⟩
        go_wp2_with fail
        refine (lay_any w1.heap.size w1.heap.size (sub L p (q - p)) x 8 w2 ?_ (by have := H8.out; rw [sub_length (by omega)]; omega) hx (by omega) (by omega) (by have := hb3.size; omega)).mono ?_
        · exact hwr.below hb3
        rintro e w3 ⟨rfl, hwr3, hb4⟩
        rw [show ((8 : Int)).toNat = 8 from rfl, topb_sub HP.out hxb (by omega) (by have := H8.out; omega)] at hwr3
        go_wp2_with fail
        go_roundw
        case rel =>
          have := H8.out
          refine ⟨q + 8, by omega, by omega, by go_num, ?_, (hbel.trans (hb3.mono hzr)).trans hb4⟩
          rw [show q + 8 - p = (q - p) + 8 from by omega, sub_add, show p + (q - p) = q from by omega]
          exact hwr3
        case measure => have := H8.out; simp [intOf]; omega
      · have h8' : (t : Int) - (q : Int) ≤ 8 := by omega
        have hqt' : (q : Int) < (t : Int) := by omega
        have H8 := Lib.hid h0
        clear h8 h0
        go_wp2_with fail
        refine (at_any A c B _ q _ hrd HP.out.byts (by omega) (by omega)).mono ?_
        rintro e w2 ⟨x, rfl, hx, hxb, hb3⟩
        go_wp2_with fail
        refine (lay_any w1.heap.size w1.heap.size (sub L p (q - p)) x ((t : Int) - q) w2 ?_ (by rw [sub_length (by omega)]; omega) hx (by omega) (by omega) (by have := hb3.size; omega)).mono ?_
        · exact hwr.below hb3
        rintro e w3 ⟨rfl, hwr3, hb4⟩
        rw [show ((t : Int) - (q : Int)).toNat = t - q from by omega, topb_sub HP.out hxb (by omega) (by omega)] at hwr3
        go_wp2_with fail
        go_roundw
        case rel =>
          refine ⟨t, by omega, by omega, by go_num, ?_, (hbel.trans (hb3.mono hzr)).trans hb4⟩
          rw [show t - p = (q - p) + (t - q) from by omega, sub_add, show p + (q - p) = q from by omega]
          exact hwr3
        case measure => simp [intOf]; omega

end Go.Proofs.Ytaphpejhppeopaa
