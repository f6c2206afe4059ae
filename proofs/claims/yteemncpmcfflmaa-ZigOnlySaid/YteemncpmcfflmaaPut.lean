/-
  bit.Put: a number behind bits.
-/
import Derived.Test.YteemncpmcfflmaaSound
import Derived.Test.YteemncpmcfflmaaNumber
import Derived.Test.YteemncpmcfflmaaClone
namespace Go.Proofs.Yteemncpmcfflmaa
open Go.RowKit Pl
set_option linter.unusedVariables false

/-- What the walk is told of 'Sound', hidden. -/
def SoundSays (A : Option Addr) (c : Nat) (B : List Int) (N : Int) (x : Bool) : Prop :=
  ∀ wx, Rd wx A B → Calls Try.prog 33 #[.agg #[.slice A B.length c, .int .i64 N]] wx fun e w' => e = .returned (.bool x) ∧ Below wx.heap.size wx w'

theorem sound_no {A : Option Addr} {c : Nat} {B : List Int} {N : Int} (hB : Byts B) (hN : -9223372036854775808 ≤ N ∧ N ≤ 9223372036854775807) (hl : (B.length : Int) ≤ 1000000000) (hs : ¬ Snd B N) : SoundSays A c B N false :=
  fun wx h => by have := sound_any A c B N wx h hB hN hl; rwa [sndB_false hs] at this
theorem sound_yes {A : Option Addr} {c : Nat} {B : List Int} {L : List Bool} (hp : Packs B L) (hl : (B.length : Int) ≤ 1000000000) : SoundSays A c B (L.length : Int) true :=
  fun wx h => by
    have := packs_len_le hp
    have := sound_any A c B (L.length : Int) wx h hp.byts (by omega) hl
    rwa [(sndB_iff B _).2 (snd_of_packs hp)] at this

set_option maxHeartbeats 1000000 in
theorem put_unsound (A : Option Addr) (c : Nat) (B : List Int) (N v W : Int) (w : World) (hr : Rd w A B) (hB : Byts B) (hN : -9223372036854775808 ≤ N ∧ N ≤ 9223372036854775807) (hl : (B.length : Int) ≤ 1000000000) (hs : ¬ Snd B N) :
    Calls Try.prog 22 #[.agg #[.slice A B.length c, .int .i64 N], .int .u64 v, .int .i64 W] w (RetNone .u16 11 w) := by
  have HS : SoundSays A c B N false := sound_no hB hN hl hs
  clear hN hB hs
  go_enter Try.func22, Try.ntmps22
  go_wp2_with fail
  refine (HS _ ?_).mono ?_
  · exact (hr.alloc _).alloc _
  rintro e w1 ⟨rfl, hb1⟩
  obtain ⟨hc, hf⟩ := bcell hb1
  have hz : w.heap.size + 1 < w1.heap.size := by have := hb1.size; simp at this; omega
  have hb2 : Below w.heap.size w w1 := (((Below.refl _ _).alloc (Nat.le_refl _) _).alloc (by simp) _).trans (hb1.mono (by simp; omega))
  go_wp2_with fail
  refine bodyPost_ret (v := .tuple #[.agg #[.slice none 0 0, .int .i64 0], .int .u16 11]) (by simp [results, Try.results22, go_sem, hc]) rfl ⟨rfl, ?_⟩
  exact ((hb2.setCell (by simp) _).setCell (by simp) _)

set_option maxHeartbeats 1000000 in
theorem put_wide (A : Option Addr) (c : Nat) (B : List Int) (L : List Bool) (v W : Int) (w : World) (hr : Rd w A B) (hp : Packs B L) (hl : (B.length : Int) ≤ 1000000000) (hW : W < 0 ∨ 64 < W) :
    Calls Try.prog 22 #[.agg #[.slice A B.length c, .int .i64 (L.length : Int)], .int .u64 v, .int .i64 W] w (RetNone .u16 1 w) := by
  have HS : SoundSays A c B (L.length : Int) true := sound_yes hp hl
  clear hp
  rcases hW with hW | hW
  · have hd : decide (W < 0) = true := by simp; omega
    go_enter Try.func22, Try.ntmps22
    go_wp2_with fail
    refine (HS _ ?_).mono ?_
    · exact (hr.alloc _).alloc _
    rintro e w1 ⟨rfl, hb1⟩
    obtain ⟨hc, hf⟩ := bcell hb1
    have hz : w.heap.size + 1 < w1.heap.size := by have := hb1.size; simp at this; omega
    have hb2 : Below w.heap.size w w1 := (((Below.refl _ _).alloc (Nat.le_refl _) _).alloc (by simp) _).trans (hb1.mono (by simp; omega))
    go_wp2_with fail
    refine bodyPost_ret (v := .tuple #[.agg #[.slice none 0 0, .int .i64 0], .int .u16 1]) (by simp [results, Try.results22, go_sem, hc]) rfl ⟨rfl, ?_⟩
    exact ((hb2.setCell (by simp) _).setCell (by simp) _)
  · have hd : decide (W < 0) = false := by simp; omega
    have hd2 : decide (64 < W) = true := by simp; omega
    go_enter Try.func22, Try.ntmps22
    go_wp2_with fail
    refine (HS _ ?_).mono ?_
    · exact (hr.alloc _).alloc _
    rintro e w1 ⟨rfl, hb1⟩
    obtain ⟨hc, hf⟩ := bcell hb1
    have hz : w.heap.size + 1 < w1.heap.size := by have := hb1.size; simp at this; omega
    have hb2 : Below w.heap.size w w1 := (((Below.refl _ _).alloc (Nat.le_refl _) _).alloc (by simp) _).trans (hb1.mono (by simp; omega))
    go_wp2_with fail
    refine bodyPost_ret (v := .tuple #[.agg #[.slice none 0 0, .int .i64 0], .int .u16 1]) (by simp [results, Try.results22, go_sem, hc]) rfl ⟨rfl, ?_⟩
    exact ((hb2.setCell (by simp) _).setCell (by simp) _)

set_option maxHeartbeats 1000000 in
theorem put_sound (A : Option Addr) (c : Nat) (B : List Int) (L : List Bool) (v W : Nat) (w : World) (hr : Rd w A B) (hp : Packs B L) (hl : (B.length : Int) ≤ 1000000) (hv : U64 v) (hW : W ≤ 64) :
    Calls Try.prog 22 #[.agg #[.slice A B.length c, .int .i64 (L.length : Int)], .int .u64 v, .int .i64 W] w (RetBits 5 .u16 (L ++ nbits v W) w) := by
  have HS : SoundSays A c B (L.length : Int) true := sound_yes hp (by omega)
  have hd : decide ((W : Int) < 0) = false := by simp
  have hd2 : decide ((64 : Int) < (W : Int)) = false := by simp; omega
  have HP := Lib.hid hp
  have hLB := packs_len_le hp
  clear hp
  obtain ⟨L', hL'⟩ : ∃ L', L' = L ++ nbits v W := ⟨_, rfl⟩
  rw [← hL']
  have HL' := Lib.hid hL'
  clear hL'
  go_enter Try.func22, Try.ntmps22
  go_wp2_with fail
  refine (HS _ ?_).mono ?_
  · exact (hr.alloc _).alloc _
  rintro e w1 ⟨rfl, hb1⟩
  obtain ⟨hc, hf⟩ := bcell hb1
  have hz : w.heap.size + 1 < w1.heap.size := by have := hb1.size; simp at this; omega
  have hb2 : Below w.heap.size w w1 := (((Below.refl _ _).alloc (Nat.le_refl _) _).alloc (by simp) _).trans (hb1.mono (by simp; omega))
  go_wp2_with fail
  refine (begin_any A c B L _ ?_ HP.out (by omega)).mono ?_
  · exact hr.below hb2
  rintro e w2 ⟨gw, rfl, hwr, hb3⟩
  go_wp2_with fail
  refine (number_any _ gw L v W _ hwr hv hW (by omega) hb3.size).mono ?_
  rintro e w3 ⟨rfl, hwr3, hb4⟩
  rw [← HL'.out] at hwr3
  obtain ⟨A', n', c', B', hblk, hgw, hown, hp'⟩ := hwr3
  have hc0 := hblk.cell 0
  have hc1 := hblk.cell 1
  have hb5 := hb3.trans hb4
  obtain ⟨hc', hf'⟩ := bcell hb5
  go_wp2_with fail
  refine bodyPost_ret (v := .tuple #[.agg #[.slice A' n' c', .int .i64 (L'.length : Int)], .int .u16 0]) (by simp [results, Try.results22, go_sem, hc, hc', hz]) rfl ?_
  have hn' := own_len hown
  subst hn'
  refine ⟨A', c', B', rfl, hp', ?_, ?_⟩
  · exact own_far (own_far (own_base hown (by omega)) (fun e => by have := hown.lt _ e; simp at this; omega) _) (fun e => by have := hown.lt _ e; simp at this; omega) _
  · exact (((hb2.trans (hb5.mono (by omega))).setCell (by simp) _).setCell (by simp) _)

end Go.Proofs.Yteemncpmcfflmaa
