/-
  bit.at: eight bits at a place; bit.bytes: how many bytes so many bits need.
-/
import Derived.Test.YteemncpmcfflmaaProg
import Derived.Test.YteemncpmcfflmaaBase
import Derived.Test.YteemncpmcfflmaaPl2
import Derived.Deep.QuietTactic
import Derived.BigQuiet
import Derived.Laws.Pointers
namespace Go.Proofs.Yteemncpmcfflmaa
open Go.RowKit Pl
set_option linter.unusedVariables false

/-- The call answers eight bits of the row B from the place p on; nothing that was there has turned. -/
def RetAt (B : List Int) (p : Nat) (w : World) (e : Ending) (w' : World) : Prop :=
  ∃ v : Int, e = .returned (.int .u8 v) ∧ (0 ≤ v ∧ v < 256) ∧ (∀ j, j < 8 → v.toNat.testBit (7 - j) = bitAt B (p + j)) ∧ Below w.heap.size w w'

set_option maxHeartbeats 1000000 in
theorem at_any (A : Option Addr) (c : Nat) (B : List Int) (N : Int) (p : Nat) (w : World) (hr : Rd w A B) (hB : Byts B) (hp : p < 8 * B.length) (hl : (B.length : Int) ≤ 1000000000) :
    Calls Try.prog 36 #[.agg #[.slice A B.length c, .int .i64 N], .int .i64 p] w (RetAt B p w) := by
  obtain ⟨g, o, rfl, hg, hc⟩ := hr.at_ (by omega)
  obtain ⟨n, hn⟩ : ∃ n, B.length = n := ⟨_, rfl⟩
  have h1 := hc (p / 8) (by omega)
  have hi : (p : Int) / 8 < (n : Int) := by omega
  have hp' : (p : Int) ≤ 8000000000 := by omega
  have A1 := at_one hB p
  have A2 := at_two hB p
  have hc2 : p / 8 + 1 < B.length → w.cell? ⟨g, o + (p / 8 + 1), none⟩ = some (.int .u8 (nth B (p / 8 + 1))) := hc _
  rw [hn] at A1 hc2 hl
  rw [hn]
  change w.cell? ⟨g, o + p / 8, none⟩ = some (.int .u8 (nth B (p / 8))) at h1
  obtain ⟨x, hx⟩ : ∃ x, nth B (p / 8) = x := ⟨_, rfl⟩
  obtain ⟨y, hy⟩ : ∃ x, nth B (p / 8 + 1) = x := ⟨_, rfl⟩
  unfold nth at hx hy h1 hc2
  rw [hx] at A1 A2 h1
  rw [hy] at A2 hc2
  have H1 := Lib.hid A1
  have H2 := Lib.hid A2
  clear hx hy hn hB hr hc A1 A2
  by_cases hz : p % 8 = 0
  · have hz' : decide ((0 : Int) < (p : Int) % 8) = false := by simp; omega
    have HZ := Lib.hid hz
    clear hz
    go_enter Try.func36, Try.ntmps36
    go_wp2
    go_ret
    exact ⟨_, rfl, (H1.out (.inl HZ.out)).1, (H1.out (.inl HZ.out)).2, (Below.refl _ _).alloc (Nat.le_refl _) _⟩
  · have hz1 : (0 : Int) < (p : Int) % 8 := by omega
    have hz' : decide ((0 : Int) < (p : Int) % 8) = true := by simp; omega
    clear hz
    by_cases hf : p / 8 + 1 < n
    · have h2 := hc2 hf
      have hf' : decide ((p : Int) / 8 + 1 < (n : Int)) = true := by simp; omega
      have hf2 : (p : Int) / 8 + 1 < (n : Int) := by omega
      have h3 : w.cell? ⟨g, o + p / 8 + 1, none⟩ = some (.int .u8 y) := h2
      clear hc2
      go_enter Try.func36, Try.ntmps36
      go_wp2
      go_ret
      exact ⟨_, rfl, H2.out.1, H2.out.2, (Below.refl _ _).alloc (Nat.le_refl _) _⟩
    · have hf' : decide ((p : Int) / 8 + 1 < (n : Int)) = false := by simp; omega
      clear hc2
      go_enter Try.func36, Try.ntmps36
      go_wp2
      go_ret
      exact ⟨_, rfl, (H1.out (.inr (by omega))).1, (H1.out (.inr (by omega))).2, (Below.refl _ _).alloc (Nat.le_refl _) _⟩

set_option maxHeartbeats 400000 in
theorem bytes_any (n : Int) (w : World) (h0 : 0 ≤ n) (h1 : n ≤ 9223372036854775807) :
    Calls Try.prog 37 #[.int .i64 n] w fun e w' => e = .returned (.int .i64 ((n + 7) / 8)) ∧ w = w' := by
  go_enter Try.func37, Try.ntmps37
  go_wp2
  all_goals
    go_ret
    exact ⟨ret_int (by omega), rfl⟩

end Go.Proofs.Yteemncpmcfflmaa
