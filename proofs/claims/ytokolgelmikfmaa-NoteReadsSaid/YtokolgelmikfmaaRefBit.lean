/-
  The reference's Bit and Sound, alone.
-/
import Derived.Test.YtokolgelmikfmaaProg
import Derived.Test.YtokolgelmikfmaaBase
import Derived.Test.YtokolgelmikfmaaPl4
import Derived.Deep.QuietTactic
import Derived.BigQuiet
import Derived.BigRegion
import Derived.Laws.Pointers
namespace Go.Proofs.Ytokolgelmikfmaa
open Go.RowKit Pl
set_option linter.unusedVariables false

theorem info_u8' : (Try.prog.info? 5).map (fun i => (i.zero, i.size, i.bytes)) = some (some (.int .u8 0), 1, 1) := by kernel_rfl

set_option maxHeartbeats 1000000 in
theorem rbit_any (A : Option Addr) (c : Nat) (B : List Int) (N : Int) (p : Nat) (w : World) (hr : Rd w A B) (hB : Byts B) (hp : p < 8 * B.length) (hl : (B.length : Int) ≤ 1000000000) :
    Calls Try.prog 29 #[.agg #[.slice A B.length c, .int .i64 N], .int .i64 p] w fun e w' => e = .returned (.int .u8 (bi (bitAt B p))) ∧ Below w.heap.size w w' := by
  obtain ⟨g, o, rfl, hg, hc⟩ := hr.at_ (by omega)
  obtain ⟨n, hn⟩ : ∃ n, B.length = n := ⟨_, rfl⟩
  have h1 := hc (p / 8) (by omega)
  have hi : p / 8 < n := by omega
  have hp' : (p : Int) ≤ 8000000000 := by omega
  have A1 := bit_of hB p
  rw [hn] at hl
  rw [hn]
  change bits .and .u8 (nth B (p / 8) / 2 ^ (7 - p % 8)) 1 = _ at A1
  have H1 := Lib.hid A1
  clear hn hB hr hc A1
  go_enter Try.func29, Try.ntmps29
  go_wp2
  go_ret
  refine ⟨ret_int ?_, (Below.refl _ _).alloc (Nat.le_refl _) _⟩
  rw [← H1.out]



/-- No bit from M to k is set. -/
def Clear (B : List Int) (M k : Nat) : Prop := ∀ i, M ≤ i → i < k → bitAt B i = false
theorem Clear.more {B : List Int} {M k : Nat} (h : Clear B M k) (hb : bitAt B k = false) : Clear B M (k + 1) := fun i h1 h2 => by
  by_cases e : i = k
  · subst e; exact hb
  · exact h i h1 (by omega)
theorem snd_clear {B : List Int} {M k : Nat} (h : Clear B M k) (hk : k = 8 * B.length) (hl : B.length = (M + 7) / 8) : Snd B (M : Int) :=
  ⟨by omega, by rw [Int.toNat_natCast]; exact hl, fun i hi => by
    rw [Int.toNat_natCast] at hi
    by_cases e : i < k
    · exact h i hi e
    · exact bitAt_far (by omega)⟩

set_option maxRecDepth 100000 in
set_option maxHeartbeats 2000000 in
theorem rsound_any (A : Option Addr) (c : Nat) (B : List Int) (N : Int) (w : World) (hr : Rd w A B) (hB : Byts B) (hN : -9223372036854775808 ≤ N ∧ N ≤ 9223372036854775807) (hl : (B.length : Int) ≤ 100000000) :
    Calls Try.prog 22 #[.agg #[.slice A B.length c, .int .i64 N]] w fun e w' => e = .returned (.bool (sndB B N)) ∧ Below w.heap.size w w' := by
  obtain ⟨n, hn⟩ : ∃ n, B.length = n := ⟨_, rfl⟩
  have HNL := Lib.hid hn
  have hl' : (n : Int) ≤ 100000000 := by omega
  by_cases h0 : N < 0
  · rw [sndB_false (fun h => absurd h.1 (by omega)), hn]
    have hd : decide (N < 0) = true := by simp; omega
    clear hN hn hB hr hl
    go_enter Try.func22, Try.ntmps22
    go_wp2_with fail
    go_ret
    exact ⟨rfl, (Below.refl _ _).alloc (Nat.le_refl _) _⟩
  · have hd : decide (N < 0) = false := by simp; omega
    have hN0 : 0 ≤ N := by omega
    have hN1 : N ≤ 9223372036854775807 := hN.2
    by_cases h1 : 8 * (n : Int) < N
    · rw [sndB_false (fun h => by have := h.2.1; omega), hn]
      have hd1 : decide (8 * (n : Int) < N) = true := by simp; omega
      clear hN hn hB hr hl
      go_enter Try.func22, Try.ntmps22
      go_wp2_with fail
      go_ret
      exact ⟨rfl, (Below.refl _ _).alloc (Nat.le_refl _) _⟩
    · have hd1 : decide (8 * (n : Int) < N) = false := by simp; omega
      by_cases h2 : n ≠ 0 ∧ N ≤ 8 * ((n : Int) - 1)
      · rw [sndB_false (fun h => by have := h.2.1; omega), hn]
        have hd2 : ((n : Int) != 0) = true := by rw [bne_iff_ne]; omega
        have hd3 : decide (N ≤ 8 * ((n : Int) - 1)) = true := by simp; omega
        clear hN hn hB hr hl h2
        go_enter Try.func22, Try.ntmps22
        go_wp2_with fail
        go_ret
        exact ⟨rfl, (Below.refl _ _).alloc (Nat.le_refl _) _⟩
      · obtain ⟨M, rfl⟩ : ∃ M : Nat, N = M := ⟨N.toNat, by omega⟩
        have hM8 : M ≤ 8 * n := by omega
        have hMn : n = (M + 7) / 8 := by omega
        rw [hn]
        by_cases hn0 : n = 0
        · have hd2 : ((n : Int) != 0) = false := by rw [bne_eq_false_iff_eq]; omega
          have HMN := Lib.hid hMn
          clear hN hn hl h2 hn0 hMn
          go_enter Try.func22, Try.ntmps22
          go_wp2_with fail
          go_loopw [3] (fun i wr => ∃ k : Nat, (M ≤ k ∧ k ≤ 8 * n) ∧ i = .int .i64 k ∧ Clear B M k ∧ Below (w.heap.size + 1) (w.alloc (.cells #[.slice A n c, .int .i64 M] 30)) wr) (fun i _ => 8 * n - (intOf i).toNat)
          case atStart => exact ⟨M, ⟨Nat.le_refl _, hM8⟩, rfl, fun i h1 h2 => absurd h2 (by omega), Below.refl _ _⟩
          case round =>
            obtain ⟨k, ⟨hk1, hk2⟩, rfl, hclr, hbel⟩ := hrel
            have hb2 : Below w.heap.size w wr := ((Below.refl _ _).alloc (Nat.le_refl _) _).trans (hbel.mono (by omega))
            have hc0 : wr.cell? ⟨w.heap.size, 0, none⟩ = some (.slice A n c) := (hbel.cell (by simp)).trans (by simp)
            have hc1 : wr.cell? ⟨w.heap.size, 1, none⟩ = some (.int .i64 (M : Int)) := (hbel.cell (by simp)).trans (by simp)
            have hrd := hr.below hb2
            have hkb : (k : Int) ≤ 800000000 := by omega
            by_cases h9 : k = 8 * n
            · have hf : decide ((k : Int) < 8 * (n : Int)) = false := by simp; omega
              have HK := Lib.hid h9
              clear h9
              go_wp2_with fail
              go_ret
              refine ⟨ret_bool ?_, hb2⟩
              exact ((sndB_iff B M).2 (snd_clear hclr (by rw [HNL.out]; exact HK.out) (by rw [HNL.out]; exact HMN.out))).symm
            · have hf : decide ((k : Int) < 8 * (n : Int)) = true := by simp; omega
              have hk8 : k < 8 * B.length := by have := HNL.out; omega
              have HK := Lib.hid h9
              clear h9
              go_wp2_with fail
              rw [← HNL.out]
              refine (rbit_any A c B M k _ hrd hB hk8 (by have := HNL.out; omega)).mono ?_
              rintro e w1 ⟨rfl, hb3⟩
              rw [HNL.out]
              cases hbit : bitAt B k
              · have h3 : (bi false == 1) = false := rfl
                have HB := Lib.hid hbit
                clear hbit
                go_wp2_with fail
                go_roundw
                case rel => exact ⟨k + 1, ⟨by omega, by have := HK.out; omega⟩, by go_num, hclr.more HB.out, hbel.trans (hb3.mono (by have := hbel.size; simp at this; omega))⟩
                case measure => have := HK.out; simp [intOf]; omega
              · have h3 : (bi true == 1) = true := rfl
                have HB := Lib.hid hbit
                clear hbit
                go_wp2_with fail
                go_ret
                refine ⟨ret_bool ?_, hb2.trans (hb3.mono (by have := hb2.size; omega))⟩
                exact (sndB_false (fun h => by have := h.2.2 k (by omega); rw [HB.out] at this; cases this)).symm
        · have hd2 : ((n : Int) != 0) = true := by rw [bne_iff_ne]; omega
          have hd3 : decide ((M : Int) ≤ 8 * ((n : Int) - 1)) = false := by simp; omega
          have HMN := Lib.hid hMn
          clear hN hn hl h2 hn0 hMn
          go_enter Try.func22, Try.ntmps22
          go_wp2_with fail
          go_loopw [3] (fun i wr => ∃ k : Nat, (M ≤ k ∧ k ≤ 8 * n) ∧ i = .int .i64 k ∧ Clear B M k ∧ Below (w.heap.size + 1) (w.alloc (.cells #[.slice A n c, .int .i64 M] 30)) wr) (fun i _ => 8 * n - (intOf i).toNat)
          case atStart => exact ⟨M, ⟨Nat.le_refl _, hM8⟩, rfl, fun i h1 h2 => absurd h2 (by omega), Below.refl _ _⟩
          case round =>
            obtain ⟨k, ⟨hk1, hk2⟩, rfl, hclr, hbel⟩ := hrel
            have hb2 : Below w.heap.size w wr := ((Below.refl _ _).alloc (Nat.le_refl _) _).trans (hbel.mono (by omega))
            have hc0 : wr.cell? ⟨w.heap.size, 0, none⟩ = some (.slice A n c) := (hbel.cell (by simp)).trans (by simp)
            have hc1 : wr.cell? ⟨w.heap.size, 1, none⟩ = some (.int .i64 (M : Int)) := (hbel.cell (by simp)).trans (by simp)
            have hrd := hr.below hb2
            have hkb : (k : Int) ≤ 800000000 := by omega
            by_cases h9 : k = 8 * n
            · have hf : decide ((k : Int) < 8 * (n : Int)) = false := by simp; omega
              have HK := Lib.hid h9
              clear h9
              go_wp2_with fail
              go_ret
              refine ⟨ret_bool ?_, hb2⟩
              exact ((sndB_iff B M).2 (snd_clear hclr (by rw [HNL.out]; exact HK.out) (by rw [HNL.out]; exact HMN.out))).symm
            · have hf : decide ((k : Int) < 8 * (n : Int)) = true := by simp; omega
              have hk8 : k < 8 * B.length := by have := HNL.out; omega
              have HK := Lib.hid h9
              clear h9
              go_wp2_with fail
              rw [← HNL.out]
              refine (rbit_any A c B M k _ hrd hB hk8 (by have := HNL.out; omega)).mono ?_
              rintro e w1 ⟨rfl, hb3⟩
              rw [HNL.out]
              cases hbit : bitAt B k
              · have h3 : (bi false == 1) = false := rfl
                have HB := Lib.hid hbit
                clear hbit
                go_wp2_with fail
                go_roundw
                case rel => exact ⟨k + 1, ⟨by omega, by have := HK.out; omega⟩, by go_num, hclr.more HB.out, hbel.trans (hb3.mono (by have := hbel.size; simp at this; omega))⟩
                case measure => have := HK.out; simp [intOf]; omega
              · have h3 : (bi true == 1) = true := rfl
                have HB := Lib.hid hbit
                clear hbit
                go_wp2_with fail
                go_ret
                refine ⟨ret_bool ?_, hb2.trans (hb3.mono (by have := hb2.size; omega))⟩
                exact (sndB_false (fun h => by have := h.2.2 k (by omega); rw [HB.out] at this; cases this)).symm

/-- What the walk is told of the reference's 'Sound', hidden. -/
def RSoundSays (A : Option Addr) (c : Nat) (B : List Int) (N : Int) (x : Bool) : Prop :=
  ∀ wx, Rd wx A B → Calls Try.prog 22 #[.agg #[.slice A B.length c, .int .i64 N]] wx fun e w' => e = .returned (.bool x) ∧ Below wx.heap.size wx w'

theorem rsound_no {A : Option Addr} {c : Nat} {B : List Int} {N : Int} (hB : Byts B) (hN : -9223372036854775808 ≤ N ∧ N ≤ 9223372036854775807) (hl : (B.length : Int) ≤ 100000000) (hs : ¬ Snd B N) : RSoundSays A c B N false :=
  fun wx h => by have := rsound_any A c B N wx h hB hN hl; rwa [sndB_false hs] at this
theorem rsound_yes {A : Option Addr} {c : Nat} {B : List Int} {L : List Bool} (hp : Packs B L) (hl : (B.length : Int) ≤ 100000000) : RSoundSays A c B (L.length : Int) true :=
  fun wx h => by
    have := packs_len_le hp
    have := rsound_any A c B (L.length : Int) wx h hp.byts (by omega) hl
    rwa [(sndB_iff B _).2 (snd_of_packs hp)] at this
end Go.Proofs.Ytokolgelmikfmaa
