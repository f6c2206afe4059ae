/-
  The reference's number: so many bytes at a place; noughts behind the end.
-/
import Derived.Test.YtokolgelmikfmaaNtPl
import Derived.Test.YtokolgelmikfmaaNtMay
namespace Go.Proofs.Ytokolgelmikfmaa
open Go.RowKit Pl
set_option linter.unusedVariables false

theorem num_step {Bs : List Int} (hB : Byts Bs) {p k : Nat} (hk : k < 8) :
    IntKind.u64.wrap ((num Bs p k : Nat) * 256 : Int) = ((num Bs p k * 256 : Nat) : Int) ∧ IntKind.u64.wrap (((num Bs p k * 256 : Nat) : Int) + Bs.getD (p + k) 0) = ((num Bs p (k + 1) : Nat) : Int) := by
  have h1 := num_lt hB p k
  have h2 := num_lt hB p (k + 1)
  have h3 : (256 : Nat) ^ (k + 1) ≤ 256 ^ 8 := Nat.pow_le_pow_right (by decide) (by omega)
  have h4 : (256 : Nat) ^ (k + 1) = 256 ^ k * 256 := Nat.pow_succ _ _
  rw [pow8] at h3
  have hx := byts_get hB (p + k)
  have h5 := num_snoc Bs p k
  rw [wrap_u64, wrap_u64]
  constructor
  · omega
  · rw [h5]; omega

set_option maxRecDepth 100000 in
set_option maxHeartbeats 2000000 in
theorem rnum_any (A : Option Addr) (c : Nat) (Bs : List Int) (p W : Nat) (hB : Byts Bs) (w : World) (hr : Rd w A Bs) (hp : p ≤ 100) (hW : W ≤ 8) (hl : (Bs.length : Int) ≤ 1000000) :
    Calls Try.prog 25 #[.slice A Bs.length c, .int .i64 p, .int .i64 W] w fun e w' => e = .returned (.int .u64 (num Bs p W : Nat)) ∧ w' = w := by
  have hpI : (p : Int) ≤ 100 := by omega
  have hWI : (W : Int) ≤ 8 := by omega
  have HB := Lib.hid hB
  obtain ⟨n, hn⟩ : ∃ n, Bs.length = n := ⟨_, rfl⟩
  rw [hn] at hl ⊢
  have HN := Lib.hid hn
  have HR := Lib.hid hr
  clear hB hn hr
  go_enter Try.func25, Try.ntmps25
  go_wp2_with fail
  go_loopw [7, 8] (fun s i wr => ∃ (k j m : Nat), k ≤ W ∧ Hid (j = p + k) ∧ i = .int .i64 j ∧ s = .int .u64 m ∧ Hid (m = num Bs p k) ∧ wr = w) (fun _ i _ => (p + W) - (intOf i).toNat)
  case atStart => exact ⟨0, p, 0, Nat.zero_le _, Lib.hid rfl, rfl, rfl, Lib.hid (num_zero _ _).symm, rfl⟩
  case round =>
    obtain ⟨k, j, m, hk, HJ, rfl, rfl, HM, rfl⟩ := hrel
    by_cases h0 : k = W
    · have hj : j = p + W := by rw [HJ.out, h0]
      have hjd : ¬ (j : Int) < (p : Int) + (W : Int) := by omega
      go_wp2_with fail
      go_ret
      refine ⟨ret_int ?_, rfl⟩
      rw [HM.out, h0]
    · have hkW : k < W := by omega
      have hjd : (j : Int) < (p : Int) + (W : Int) := by have := HJ.out; omega
      have hj8 : (j : Int) ≤ 108 := by omega
      obtain ⟨h1, h2⟩ := num_step HB.out (p := p) (k := k) (by omega)
      rw [← HM.out, ← HJ.out] at h2
      rw [← HM.out] at h1
      obtain ⟨x, hx⟩ : ∃ x, Bs.getD j 0 = x := ⟨_, rfl⟩
      rw [hx] at h2
      have hxw : IntKind.u64.wrap x = x := by have := byts_get HB.out j; rw [hx] at this; rw [wrap_u64]; omega
      obtain ⟨m1, hm1⟩ : ∃ m1, m * 256 = m1 := ⟨_, rfl⟩
      rw [hm1] at h1 h2
      obtain ⟨m2, hm2⟩ : ∃ m2, num Bs p (k + 1) = m2 := ⟨_, rfl⟩
      rw [hm2] at h2
      have HM2 := Lib.hid hm2
      clear hm1 hm2
      by_cases hlt : j < n
      · have hd : decide (j < n) = true := by simpa using hlt
        obtain ⟨g, o, rfl, hg, hc⟩ := HR.out.at_ (by rw [HN.out]; omega)
        have e0 : wr.cell? ⟨g, o + j, none⟩ = some (.int .u8 x) := by rw [hc j (by rw [HN.out]; exact hlt), ← hx]; rfl
        have hjI : (j : Int) < (n : Int) := by omega
        clear hc hx
        go_wp2_with fail
        go_roundw
        case rel => exact ⟨k + 1, j + 1, m2, by omega, Lib.hid (by rw [HJ.out]; omega), by go_num, rfl, Lib.hid HM2.out.symm, trivial⟩
        case measure => simp [intOf]; omega
      · have hd : decide (j < n) = false := by simpa using hlt
        have hx0 : x = 0 := by rw [← hx, List.getD_eq_getElem?_getD, List.getElem?_eq_none (by rw [HN.out]; omega)]; rfl
        subst hx0
        have hmm : m1 = m2 := by
          have h3 := h1
          rw [wrap_u64] at h2 h3
          omega
        subst hmm
        clear hx h2
        go_wp2_with fail
        go_roundw
        case rel => exact ⟨k + 1, j + 1, m1, by omega, Lib.hid (by rw [HJ.out]; omega), by go_num, rfl, Lib.hid HM2.out.symm, trivial⟩
        case measure => simp [intOf]; omega
end Go.Proofs.Ytokolgelmikfmaa
