/-
  How the statements' arguments are opened: a slice of bits.
-/
import Derived.Test.YtifjanlcfjajpaaOpen
import Derived.Deep.Slices
import Derived.Deep.Fields
import Derived.ChangeSame
namespace Go.Proofs.Ytifjanlcfjajpaa
open Go.ChangeShapes Go.WideShapes Go.ChangeAt Go.RowKit Go.Joins Go.Deep
open Pl
set_option linter.unusedVariables false

section
variable {H : Type} {enc : TypeId × Value → H} {P : Program} {w : World} {base : Nat} {spare : Nat → Bool} {held : Bool}
theorem open_slice_fields {t e : TypeId} {fs : Array Field} {fuel : Nat} {cs : List Value} {x : DataW H × List MemPlace} (ht : P.underlying t = some (.slice e)) (he : P.underlying e = some (.struct fs))
    (hone : oneCellFields P fs = true) (hC : P.cellsOf e = fs.size) (h : DataW.trod enc P w base spare held fuel t cs = some x) :
    (cs = [.slice none 0 0] ∧ x = (.nil, [])) ∨
    ∃ (a : Addr) (len cap m : Nat), cs = [.slice (some a) len cap] ∧ base ≤ a.block ∧ len ≤ cap ∧ cap ≤ maxLen ∧ m = (if spare a.block then cap else len) ∧
      ∀ i, i < m → ∃ (n : Nat), 
        ∀ (j : Nat) (f : Field), fs[j]? = some f → ∃ (v : Value) (y : DataW H × List MemPlace), w.cell? (a.add (i * fs.size + j)) = some v ∧ DataW.trod enc P w base spare held n f.type [v] = some y := by
  rcases open_slice ht h with h0 | ⟨a, len, cap, m, n, D, Pl, hcs, hb, hl, hm, hmm, hx, hi⟩
  · exact .inl h0
  · refine .inr ⟨a, len, cap, m, hcs, hb, hl, hm, hmm, fun i him => ?_⟩
    obtain ⟨cs', hc, ht'⟩ := hi i him
    rw [hC] at hc
    obtain ⟨ys, n', hn', hy, hlen, hyl, hf⟩ := DataW.trod_struct he ht'
    obtain ⟨_, hcl, hat⟩ := World.cells?_some hc
    refine ⟨n', fun j f hj => ?_⟩
    obtain ⟨ho, hk⟩ := hone_of hone j f hj
    have hjl : j < fs.size := (Array.getElem?_eq_some_iff.1 hj).1
    have hcell := hat j hjl
    have hv : cs'[j]? = some (cs'[j]'(by omega)) := List.getElem?_eq_getElem (by omega)
    have h1 := hf j f hj
    rw [ho, hk] at h1
    have hone' : (cs'.drop j).take 1 = [cs'[j]'(by omega)] := by
      rw [List.drop_eq_getElem_cons (by omega)]
      rfl
    rw [hone'] at h1
    have hys : ys[j]? = some (ys[j]'(by omega)) := List.getElem?_eq_getElem (by omega)
    refine ⟨_, _, ?_, h1.trans hys⟩
    rw [← Go.Deep.add_add, hcell, hv]
end

/-- Bytes in a cell. -/
theorem open_bytes {H : Type} {enc : TypeId × Value → H} {W : World} {n : Nat} {v : Value} {y : DataW H × List MemPlace}
    (h : DataW.trod enc Try.prog W 0 (fun _ => true) true n 22 [v] = some y) : ∃ A c B, v = .slice A B.length c ∧ Rd W A B ∧ Byts B := by
  rcases open_ints Try.underlying22 Try.underlying5 cells_u8 h with ⟨hcs, _⟩ | ⟨a, len, cap, zs, hcs, _, hl, hm, hz, _, hcell, hwz⟩
  · simp at hcs
    subst hcs
    exact ⟨none, 0, [], rfl, Rd.nil _ _, fun x hx => absurd hx (by simp)⟩
  · simp at hcs
    subst hcs
    simp only [if_true] at hz
    have hlen : (zs.take len).length = len := by rw [List.length_take]; omega
    refine ⟨some a, cap, zs.take len, by rw [hlen], ?_, fun x hx => range_u8 (hwz x (List.mem_of_mem_take hx))⟩
    by_cases hn : len = 0
    · left; subst hn; simp
    · right
      obtain ⟨b, off, spot⟩ := a
      have h00 := hcell 0 (by omega)
      have hspot : spot = none := by simpa [Addr.add] using World.cell?_spot h00
      subst hspot
      refine ⟨b, off, rfl, ?_, fun i hi => ?_⟩
      · have := World.block_lt_of_cell? W _ h00
        simpa [block_of_add] using this
      · rw [hlen] at hi
        have hc := hcell i (by omega)
        have e : (⟨b, off, none⟩ : Addr).add i = ⟨b, off + i, none⟩ := by unfold Addr.add; split <;> simp_all
        rw [e] at hc
        rw [hc]
        unfold nth
        rw [List.getD_eq_getElem?_getD, List.getD_eq_getElem?_getD, List.getElem?_take, if_pos hi]

theorem list_of {α : Type} {p : Nat → α → Prop} : ∀ n, (∀ i, i < n → ∃ x, p i x) → ∃ l : List α, l.length = n ∧ ∀ i x, l[i]? = some x → p i x
  | 0, _ => ⟨[], rfl, fun i x h => by simp at h⟩
  | n + 1, h => by
    obtain ⟨l, hl, hp⟩ := list_of n (fun i hi => h i (by omega))
    obtain ⟨x, hx⟩ := h n (by omega)
    refine ⟨l ++ [x], by simp [hl], fun i y hy => ?_⟩
    by_cases hi : i < n
    · rw [List.getElem?_append_left (by omega)] at hy; exact hp i y hy
    · rw [List.getElem?_append_right (by omega)] at hy
      have : i = n := by
        have := (List.getElem?_eq_some_iff.1 hy).1
        simp at this
        omega
      subst this
      rw [hl, Nat.sub_self] at hy
      simp at hy
      subst hy
      exact hx

/-- What a value can be. -/
def BitV.Fine (x : BitV) : Prop := Byts x.B ∧ (-9223372036854775808 ≤ x.N ∧ x.N ≤ 9223372036854775807)

/-- A slice of bits that came in. -/
theorem open_bitslist {H : Type} {enc : TypeId × Value → H} {W : World} {base : Nat} {v : Value} {d : DataW H} {p : List MemPlace}
    (hval : Value.okWide Try.prog W .any base 46 v) (h : DataW.Trod enc Try.prog W 0 (fun _ => true) true 46 v d p) :
    ∃ A c l, v = .slice A (List.length l) c ∧ RdBits W A l ∧ (∀ x ∈ l, BitV.Fine x) ∧ l.length ≤ maxLen := by
  obtain ⟨a0, len0, cap0, rfl⟩ := okWide_slice Try.underlying46 hval
  obtain ⟨fuel, hf⟩ := h
  rcases open_slice_fields Try.underlying46 Try.underlying24 (by kernel_rfl) cells_bits hf with ⟨hcs, _⟩ | ⟨a, len, cap, m, hcs, _, hl, hm, hmm, hi⟩
  · simp [Value.cells] at hcs
    obtain ⟨rfl, rfl, rfl⟩ := hcs
    exact ⟨none, 0, [], rfl, .inl rfl, (fun x hx => absurd hx (by simp)), by unfold maxLen; simp⟩
  · simp [Value.cells] at hcs
    obtain ⟨rfl, rfl, rfl⟩ := hcs
    simp only [if_true] at hmm
    subst hmm
    have each : ∀ i, i < len0 → ∃ x : BitV, (W.cell? (a.add (i * 2)) = some (.slice x.A x.B.length x.c) ∧ W.cell? (a.add (i * 2 + 1)) = some (.int .i64 x.N) ∧ Rd W x.A x.B) ∧ BitV.Fine x := by
      intro i hil
      obtain ⟨n, hfld⟩ := hi i (by omega)
      obtain ⟨v0, y0, hc0, ht0⟩ := hfld 0 _ rfl
      obtain ⟨v1, y1, hc1, ht1⟩ := hfld 1 _ rfl
      obtain ⟨A, c, B, rfl, hrd, hby⟩ := open_bytes ht0
      obtain ⟨N, e1, _, wN⟩ := DataW.trod_int Try.underlying3 ht1
      simp at e1
      subst e1
      exact ⟨⟨A, B, c, N⟩, ⟨by simpa using hc0, by simpa using hc1, hrd⟩, hby, range_i64 wN⟩
    obtain ⟨l, hll, hlp⟩ := list_of len0 each
    refine ⟨some a, m, l, by rw [hll], ?_, fun x hx => ?_, by rw [hll]; omega⟩
    · by_cases hn : len0 = 0
      · left; exact List.eq_nil_of_length_eq_zero (by omega)
      · right
        obtain ⟨b, off, spot⟩ := a
        obtain ⟨x0, hx0⟩ : ∃ x, l[0]? = some x := ⟨_, List.getElem?_eq_getElem (by omega)⟩
        have h00 := (hlp 0 x0 hx0).1.1
        have hspot : spot = none := by simpa [Addr.add] using World.cell?_spot h00
        subst hspot
        refine ⟨b, off, rfl, ?_, fun i x hx => ?_⟩
        · have := World.block_lt_of_cell? W _ h00
          simpa [block_of_add] using this
        · have hc := hlp i x hx
          have e : ∀ j, (⟨b, off, none⟩ : Addr).add j = ⟨b, off + j, none⟩ := fun j => by unfold Addr.add; split <;> simp_all
          rw [e, e] at hc
          exact ⟨hc.1.1, by simpa [Nat.add_assoc] using hc.1.2.1, hc.1.2.2⟩
    · obtain ⟨i, hi, rfl⟩ := List.getElem_of_mem hx
      exact (hlp i _ (List.getElem?_eq_getElem hi)).2

end Go.Proofs.Ytifjanlcfjajpaa
