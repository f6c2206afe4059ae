/-
  bit.Sound: may bits be?
-/
import Derived.Test.YtokolgelmikfmaaBytes
namespace Go.Proofs.Ytokolgelmikfmaa
open Go.RowKit Pl
set_option linter.unusedVariables false

set_option maxHeartbeats 1000000 in
theorem sound_any (A : Option Addr) (c : Nat) (B : List Int) (N : Int) (w : World) (hr : Rd w A B) (hB : Byts B) (hN : -9223372036854775808 ≤ N ∧ N ≤ 9223372036854775807) (hl : (B.length : Int) ≤ 1000000000) :
    Calls Try.prog 21 #[.agg #[.slice A B.length c, .int .i64 N]] w fun e w' => e = .returned (.bool (sndB B N)) ∧ Below w.heap.size w w' := by
  by_cases h0 : N < 0
  · rw [sndB_false (fun h => absurd h.1 (by omega))]
    have hd : decide (N < 0) = true := by simp; omega
    clear hN
    go_enter Try.func21, Try.ntmps21
    go_wp2_with fail
    go_quiet (fail)
    go_wp2_with fail
    go_ret
    exact ⟨rfl, below_drewN ((Below.refl _ _).alloc (Nat.le_refl _) _) _⟩
  · have hd : decide (N < 0) = false := by simp; omega
    have hN0 : 0 ≤ N := by omega
    have hN1 : N ≤ 9223372036854775807 := hN.2
    obtain ⟨n, hn⟩ : ∃ n, B.length = n := ⟨_, rfl⟩
    have HNL := Lib.hid hn
    by_cases hlen : (n : Int) = (N + 7) / 8
    · have hne : ((n : Int) != (N + 7) / 8) = false := by rw [bne_eq_false_iff_eq]; exact hlen
      by_cases hk : N % 8 = 0
      · have hs : sndB B N = true := (sndB_iff B N).2 (snd_whole hN0 (by omega) hk)
        rw [hs]
        have hz : (N % 8 == 0) = true := by rw [beq_iff_eq]; exact hk
        rw [hn]
        clear hN hn hlen hk h0 hB hr hs
        go_enter Try.func21, Try.ntmps21
        go_wp2_with fail
        go_quiet ((go_at_call 28; exact Calls.quiet_of_same ((bytes_any _ _ (by omega) (by omega)).mono fun _ _ h => ⟨h.1, h.2.symm⟩)))
        go_wp2_with fail
        go_quiet (fail)
        go_wp2_with fail
        go_ret
        exact ⟨rfl, below_drewN (below_drewN ((Below.refl _ _).alloc (Nat.le_refl _) _) _) _⟩
      · obtain ⟨q, hq⟩ : ∃ q, n = q + 1 := ⟨n - 1, by omega⟩
        have hs := snd_last hB hN0 (hn.trans hq) (by omega) hk
        obtain ⟨g, o, rfl, hg, hc⟩ := hr.at_ (by omega)
        have hcq := hc q (by omega)
        have hz : (N % 8 == 0) = false := by rw [beq_eq_false_iff_ne]; exact hk
        have hk0 : (0 : Int) ≤ N % 8 := by omega
        have hb := byts_get hB q
        change 0 ≤ nth B q ∧ nth B q < 256 at hb
        change (bits .and .u8 (nth B q) (255 / 2 ^ (N % 8).toNat) == 0) = sndB B N at hs
        have hb0 := hb.1
        have hb1 := hb.2
        have HS := Lib.hid hs
        subst hq
        have hq1 : (q : Int) ≤ 1000000000 := by omega
        rw [hn]
        have hw1 : IntKind.i64.wrap ((q : Int) + 1 - 1) = (q : Int) := by rw [show (q : Int) + 1 - 1 = (q : Int) from by omega]; exact IntWalk.i64_in _ (by omega)
        have hq0 : (0 : Int) ≤ (q : Int) := by omega
        have hqn : (q : Int) < (q : Int) + 1 := by omega
        clear hN hn hlen hk h0 hB hr hc hb hs HNL
        go_enter Try.func21, Try.ntmps21
        go_wp2_with fail
        go_quiet ((go_at_call 28; exact Calls.quiet_of_same ((bytes_any _ _ (by omega) (by omega)).mono fun _ _ h => ⟨h.1, h.2.symm⟩)))
        go_wp2_with fail
        go_quiet (fail)
        go_wp2_with fail
        go_ret
        refine ⟨ret_bool ?_, below_drewN (below_drewN ((Below.refl _ _).alloc (Nat.le_refl _) _) _) _⟩
        rw [← HS.out]
    · have hne : ((n : Int) != (N + 7) / 8) = true := by rw [bne_iff_ne]; exact hlen
      have hs : sndB B N = false := sndB_false (fun h => hlen (by have := h.2.1; omega))
      rw [hs]
      rw [hn]
      clear hN hn hlen h0 hB hr hs
      go_enter Try.func21, Try.ntmps21
      go_wp2_with fail
      go_quiet ((go_at_call 28; exact Calls.quiet_of_same ((bytes_any _ _ (by omega) (by omega)).mono fun _ _ h => ⟨h.1, h.2.symm⟩)))
      go_wp2_with fail
      go_ret
      exact ⟨rfl, below_drewN ((Below.refl _ _).alloc (Nat.le_refl _) _) _⟩

end Go.Proofs.Ytokolgelmikfmaa
