/-
  How the statements' arguments are opened: bits by value; a slice of numbers.
-/
import Derived.Test.YteemncpmcfflmaaRows
import Derived.Test.YteemncpmcfflmaaZgKnown
import Derived.ProofKit
import Derived.OpenShut
import Derived.Lib.SmallJoins
namespace Go.Proofs.Yteemncpmcfflmaa
open Go.ChangeShapes Go.WideShapes Go.ChangeAt Go.RowKit Go.Joins
open Pl
set_option linter.unusedVariables false

theorem own : ownKnob Try.prog.godebug = none := by kernel_rfl
theorem laidOut : laidOutB Try.prog = true := by kernel_rfl
theorem cells_bits : Try.prog.cellsOf 27 = 2 := by kernel_rfl
theorem cells_u8 : Try.prog.cellsOf 5 = 1 := by kernel_rfl

theorem range_i64 {N : Int} (h : (Lit.int .i64 N).wf = true) : -9223372036854775808 ≤ N ∧ N ≤ 9223372036854775807 := by
  simpa [Lit.wf, IntKind.min, IntKind.max, IntKind.signed, IntKind.bits] using h
theorem range_u64 {N : Int} (h : (Lit.int .u64 N).wf = true) : U64 N := by
  have : 0 ≤ N ∧ N ≤ 18446744073709551615 := by simpa [Lit.wf, IntKind.min, IntKind.max, IntKind.signed, IntKind.bits] using h
  exact ⟨this.1, by omega⟩
theorem range_u8 {N : Int} (h : (Lit.int .u8 N).wf = true) : 0 ≤ N ∧ N < 256 := by
  have : 0 ≤ N ∧ N ≤ 255 := by simpa [Lit.wf, IntKind.min, IntKind.max, IntKind.signed, IntKind.bits] using h
  omega

theorem range_u16 {N : Int} (h : (Lit.int .u16 N).wf = true) : 0 ≤ N ∧ N < 65536 := by
  have : 0 ≤ N ∧ N ≤ 65535 := by simpa [Lit.wf, IntKind.min, IntKind.max, IntKind.signed, IntKind.bits] using h
  omega

/-- Bits that came in by value. -/
theorem open_bits {H : Type} {enc : TypeId × Value → H} {W : World} {base : Nat} {v : Value} {d : DataW H} {p : List MemPlace}
    (hval : Value.okWide Try.prog W .any base 27 v) (h : DataW.Trod enc Try.prog W 0 (fun _ => true) true 27 v d p) :
    ∃ A c B N, v = .agg #[.slice A B.length c, .int .i64 N] ∧ Rd W A B ∧ Byts B ∧ (-9223372036854775808 ≤ N ∧ N ≤ 9223372036854775807) := by
  obtain ⟨v0, v1, y0, y1, n, rfl, _, _, h0, h1⟩ := open_agg2 Try.underlying27 (by kernel_rfl) cells_bits hval h
  obtain ⟨N, e1, _, wN⟩ := DataW.trod_int Try.underlying3 h1
  simp at e1
  subst e1
  rcases open_ints Try.underlying25 Try.underlying5 cells_u8 h0 with ⟨hcs, _⟩ | ⟨a, len, cap, zs, hcs, _, hl, hm, hz, _, hcell, hwz⟩
  · simp at hcs
    subst hcs
    exact ⟨none, 0, [], N, rfl, Rd.nil _ _, (fun x hx => absurd hx (by simp)), range_i64 wN⟩
  · simp at hcs
    subst hcs
    simp only [if_true] at hz
    have hlen : (zs.take len).length = len := by rw [List.length_take]; omega
    refine ⟨some a, cap, zs.take len, N, by rw [hlen], ?_, fun x hx => range_u8 (hwz x (List.mem_of_mem_take hx)), range_i64 wN⟩
    by_cases hn : len = 0
    · left; subst hn; simp
    · right
      obtain ⟨b, off, spot⟩ := a
      have h00 := hcell 0 (by omega)
      have hspot : spot = none := by simpa [Addr.add] using World.cell?_spot h00
      subst hspot
      refine ⟨b, off, rfl, ?_, fun i hi => ?_⟩
      · have := World.block_lt_of_cell? W _ h00
        simpa [block_of_add] using this
      · rw [hlen] at hi
        have hc := hcell i (by omega)
        have e : (⟨b, off, none⟩ : Addr).add i = ⟨b, off + i, none⟩ := by unfold Addr.add; split <;> simp_all
        rw [e] at hc
        rw [hc]
        unfold nth
        rw [List.getD_eq_getElem?_getD, List.getD_eq_getElem?_getD, List.getElem?_take, if_pos hi]

theorem cells_i64 : Try.prog.cellsOf 2 = 1 := by kernel_rfl

/-- A slice of numbers that came in. -/
theorem open_i64s {H : Type} {enc : TypeId × Value → H} {W : World} {base : Nat} {v : Value} {d : DataW H} {p : List MemPlace}
    (hval : Value.okWide Try.prog W .any base 22 v) (h : DataW.Trod enc Try.prog W 0 (fun _ => true) true 22 v d p) :
    ∃ A c l, v = .slice A (List.length l) c ∧ RdI W A l ∧ (∀ x ∈ l, I64 x) ∧ l.length ≤ maxLen := by
  obtain ⟨a0, len0, cap0, rfl⟩ := okWide_slice Try.underlying22 hval
  obtain ⟨fuel, hf⟩ := h
  rcases open_ints Try.underlying22 Try.underlying2 cells_i64 hf with ⟨hcs, _⟩ | ⟨a, len, cap, zs, hcs, _, hl, hm, hz, _, hcell, hwz⟩
  · simp [Value.cells] at hcs
    obtain ⟨rfl, rfl, rfl⟩ := hcs
    exact ⟨none, 0, [], rfl, .inl rfl, (fun x hx => absurd hx (by simp)), by unfold maxLen; simp⟩
  · simp [Value.cells] at hcs
    obtain ⟨rfl, rfl, rfl⟩ := hcs
    simp only [if_true] at hz
    have hlen : (zs.take len0).length = len0 := by rw [List.length_take]; omega
    refine ⟨some a, cap0, zs.take len0, by rw [hlen], ?_, fun x hx => range_i64 (hwz x (List.mem_of_mem_take hx)), by rw [hlen]; omega⟩
    by_cases hn : len0 = 0
    · left; subst hn; simp
    · right
      obtain ⟨b, off, spot⟩ := a
      have h00 := hcell 0 (by omega)
      have hspot : spot = none := by simpa [Addr.add] using World.cell?_spot h00
      subst hspot
      refine ⟨b, off, rfl, ?_, fun i x hi => ?_⟩
      · have := World.block_lt_of_cell? W _ h00
        simpa [block_of_add] using this
      · have hil : i < len0 := by
          have := (List.getElem?_eq_some_iff.1 hi).1
          omega
        rw [List.getElem?_take_of_lt hil] at hi
        have hc := hcell i (by omega)
        rw [List.getD_eq_getElem?_getD, hi] at hc
        have e : (⟨b, off, none⟩ : Addr).add i = ⟨b, off + i, none⟩ := by unfold Addr.add; split <;> simp_all
        rw [e] at hc
        exact hc
end Go.Proofs.Yteemncpmcfflmaa
