/-
  Words that the laws on what samples come to share.
-/
import Derived.Test.YtfaahkjgbjcjgaaAgOpen
import Derived.Deep.DeepCutAuto
namespace Go.Proofs.Ytfaahkjgbjcjgaa
open Go.RowKit
set_option linter.unusedVariables false

theorem pick_mod (i : Int) (m : Nat) : ∃ F : Nat, F ≤ m ∧ (i < 0 → F = 0) ∧ (¬ i < 0 → i % ((m : Int) + 1) = (F : Int)) := by
  by_cases h : i < 0
  · exact ⟨0, Nat.zero_le _, fun _ => rfl, fun h' => absurd h h'⟩
  · have h1 := Int.emod_nonneg i (b := (m : Int) + 1) (by omega)
    have h2 := Int.emod_lt_of_pos i (b := (m : Int) + 1) (by omega)
    exact ⟨(i % ((m : Int) + 1)).toNat, by omega, fun h' => absurd h' h, fun _ => by omega⟩

/-- Of, of samples whose times rise. -/
theorem of_mk {A : Option Addr} {c n : Nat} {l : List Smp} (hl : l.length = n) (hf : Few l) (hs : Ris l) (w : World) (hr : RdS w A l) :
    Calls Try.prog 10 #[.slice A n c] w (RetAg .u16 (mk l) 0 w) := by
  subst hl
  have := of_any A c l w hr hf.1 hf.2
  rw [ofR_mk hf hs] at this
  exact this
theorem mk_ok {l : List Smp} (hf : Few l) (hs : Ris l) : (mk l).Ok := by
  have := (ofR_ok (l := l) hf.2).1
  rwa [ofR_mk hf hs] at this
/-- Join of neighbours. -/
theorem join_mk_any {a b : List Smp} (hf : Few (a ++ b)) (hr : Ris (a ++ b)) {x y z : Ag} (hx : mk a = x) (hy : mk b = y) (hz : mk (a ++ b) = z) (w : World) :
    Calls Try.prog 11 #[.agg #[.int .u64 x.n, .int .i64 x.ft, .int .u64 x.fv, .int .i64 x.lt, .int .u64 x.lv, .int .u64 x.mi, .int .u64 x.ma, .int .u64 x.hi, .int .u64 x.lo], .agg #[.int .u64 y.n, .int .i64 y.ft, .int .u64 y.fv, .int .i64 y.lt, .int .u64 y.lv, .int .u64 y.mi, .int .u64 y.ma, .int .u64 y.hi, .int .u64 y.lo]] w (RetAg .u16 z 0 w) := by
  subst hx hy hz
  have := join_any (mk a) (mk b) w (mk_ok hf.left hr.left) (mk_ok hf.right hr.right)
  rw [(join_mk hf hr).1, (join_mk hf hr).2] at this
  exact this

/-- A part of a row. -/
theorem RdS.part {w : World} {A : Option Addr} {L : List Smp} (h : RdS w A L) (p t : Nat) {v : Option Addr} (hv : ∀ g o, A = some ⟨g, o, none⟩ → p < L.length → v = some ⟨g, o + p * 2, none⟩) : RdS w v ((L.drop p).take t) := by
  by_cases hp : p < L.length
  · rcases h with rfl | ⟨g, o, hA, hg, hc⟩
    · simp at hp
    · refine .inr ⟨g, o + p * 2, hv g o hA hp, hg, fun i x hi => ?_⟩
      rw [List.getElem?_take] at hi
      split at hi
      · rw [List.getElem?_drop] at hi
        have := hc (p + i) x hi
        rw [show o + p * 2 + i * 2 = o + (p + i) * 2 from by omega]
        exact this
      · cases hi
  · left
    rw [List.drop_eq_nil_of_le (by omega), List.take_nil]

end Go.Proofs.Ytfaahkjgbjcjgaa
