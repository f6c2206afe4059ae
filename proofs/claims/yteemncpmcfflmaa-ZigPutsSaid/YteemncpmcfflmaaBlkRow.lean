/-
  A whole block stored or loaded at once (arrays and structs of many cells).
-/
import Derived.Test.YteemncpmcfflmaaBase
import Derived.Deep.MidRow
namespace Go.Proofs.Yteemncpmcfflmaa
open Go.RowKit
set_option linter.unusedVariables false

section
variable {w : World} {g : Nat} {t : TypeId}
theorem blk_setCells : ∀ (vs pre old post : List Value) (w : World), old.length = vs.length → Blk w g t (pre ++ old ++ post).toArray → Blk (w.setCells g pre.length vs) g t (pre ++ vs ++ post).toArray
  | [], pre, old, post, w, hl, h => by
    have : old = [] := List.eq_nil_of_length_eq_zero hl
    subst this
    exact h
  | v :: r, pre, old, post, w, hl, h => by
    obtain ⟨x, old', rfl⟩ : ∃ x old', old = x :: old' := by cases old with
      | nil => simp at hl
      | cons x o => exact ⟨x, o, rfl⟩
    have h1 := h.set_ pre.length v
    have e1 : (pre ++ x :: old' ++ post).toArray.setIfInBounds pre.length v = ((pre ++ [v]) ++ old' ++ post).toArray := by
      simp
    rw [e1] at h1
    have h2 := blk_setCells r (pre ++ [v]) old' post _ (by simpa using hl) h1
    rw [World.setCells]
    simpa using h2
theorem blk_setAll {cs0 cs : Array Value} (h : Blk w g t cs0) (hl : cs0.size = cs.size) : Blk (w.setCells g 0 cs.toList) g t cs := by
  have := blk_setCells (g := g) (t := t) cs.toList [] cs0.toList [] w (by simpa using hl) (by simpa using h)
  simpa using this
theorem below_setCells {B : Nat} {w0 : World} : ∀ (vs : List Value) (o : Nat) (w : World), B ≤ g → Below B w0 w → Below B w0 (w.setCells g o vs)
  | [], o, w, hg, h => h
  | v :: r, o, w, hg, h => by rw [World.setCells]; exact below_setCells r (o + 1) _ hg (h.setCell hg v)
theorem heap_setCells : ∀ (vs : List Value) (o : Nat) (w : World) (k : Nat), k ≠ g → (w.setCells g o vs).heap[k]? = w.heap[k]?
  | [], o, w, k, hk => rfl
  | v :: r, o, w, k, hk => by rw [World.setCells, heap_setCells r (o + 1) _ k hk]; exact Below.heap_setCell _ _ _ _ hk
end

section
variable {P : Program} {ops : Array Oper} {rest : List Oper} {op : Oper} {a : Act} {w : World} {Q : Exit → Act → World → Prop}
/-- A store of a whole block. -/
theorem wpList_store_blk (hgd : op.guard = none) (ty : TypeId) (x y : Operand) (ho : op.op = .store ty x y)
    (g : Nat) (t : TypeId) (cs0 cs : Array Value) (hx : a.eval x = .pointer (some ⟨g, 0, none⟩)) (hy : a.eval y = .agg cs)
    (hb : Blk w g t cs0) (hl : cs0.size = cs.size) (hi : (P.info? ty).map (·.size) = some cs.size) (h1 : cs.all (·.oneCell') = true)
    (h : ∀ w', Blk w' g t cs → (∀ B, B ≤ g → Below B w w') → (∀ k, k ≠ g → w'.heap[k]? = w.heap[k]?) → wpList P ops Q rest (a.put op.dst undef) w') : wpList P ops Q (op :: rest) a w :=
  wpList_store_mid hgd ty x y ho g 0 cs hx hy (fun j hj => ⟨by rw [Nat.zero_add, hb.cell, Array.getElem?_eq_getElem (by omega)]; rfl, hb.frozen _⟩) hi h1
    (h _ (blk_setAll hb hl) (fun B hB => below_setCells _ _ _ hB (Below.refl _ _)) (fun k hk => heap_setCells _ _ _ k hk))
end
end Go.Proofs.Yteemncpmcfflmaa
