/-
  Plain facts on lists of samples and what they come to: no program in sight.
-/
import Derived.Test.YtfaahkjgbjcjgaaAgPl
namespace Go.Proofs.Ytfaahkjgbjcjgaa
open Go.RowKit

/-- A sample: its time, its value. -/
abbrev Smp := Int × Int
def SmpOk (s : Smp) : Prop := (-9223372036854775808 ≤ s.1 ∧ s.1 ≤ 9223372036854775807) ∧ U64 s.2

/-- One sample more; an error stays. -/
def ofStep (r : Ag × Int) (s : Smp) : Ag × Int :=
  if r.2 = 0 then (if joinE r.1 (Ag.one s.1 s.2) = 0 then (joinV r.1 (Ag.one s.1 s.2), 0) else (Ag.zero, joinE r.1 (Ag.one s.1 s.2))) else r
/-- What samples come to, one by one, and the number of an error. -/
def ofR (l : List Smp) : Ag × Int := l.foldl ofStep (Ag.zero, 0)

theorem Ag.zero_ok : Ag.zero.Ok := by constructor <;> simp only [Ag.zero, U64] <;> decide
theorem Ag.one_ok {s : Smp} (h : SmpOk s) : (Ag.one s.1 s.2).Ok := ⟨by simp only [Ag.one, U64]; decide, h.2, h.2, h.2, h.2, by simp only [Ag.one, U64]; decide, h.2, h.1, h.1⟩
theorem u64_min {x y : Int} (hx : U64 x) (hy : U64 y) : U64 (min x y) := by simp only [U64] at *; omega
theorem u64_max {x y : Int} (hx : U64 x) (hy : U64 y) : U64 (max x y) := by simp only [U64] at *; omega
theorem joinV_ok {a b : Ag} (ha : a.Ok) (hb : b.Ok) : (joinV a b).Ok := by
  unfold joinV
  split
  · exact hb
  split
  · exact ha
  split
  · exact Ag.zero_ok
  · exact ⟨u64_addLo _ _ _, ha.fv, hb.lv, u64_min ha.mi hb.mi, u64_max ha.ma hb.ma, u64_addLo _ _ _, u64_addLo _ _ _, ha.ft, hb.lt⟩
theorem joinE_two (a b : Ag) : joinE a b = 0 ∨ joinE a b = 240 := by
  unfold joinE; split
  · exact .inl rfl
  split
  · exact .inl rfl
  split
  · exact .inr rfl
  · exact .inl rfl
theorem ofR_snoc (l : List Smp) (s : Smp) : ofR (l ++ [s]) = ofStep (ofR l) s := by simp [ofR, List.foldl_append]
theorem ofStep_err {r : Ag × Int} (h : r.2 ≠ 0) (s : Smp) : ofStep r s = r := by simp [ofStep, h]
theorem foldl_err (l : List Smp) {r : Ag × Int} (h : r.2 ≠ 0) : l.foldl ofStep r = r := by
  induction l with
  | nil => rfl
  | cons s l ih => rw [List.foldl_cons, ofStep_err h]; exact ih
theorem ofR_append (l m : List Smp) : ofR (l ++ m) = m.foldl ofStep (ofR l) := by simp [ofR, List.foldl_append]
/-- An error stays: it is the whole list's. -/
theorem ofR_err {l : List Smp} {k : Nat} (h : (ofR (l.take k)).2 ≠ 0) : ofR l = ofR (l.take k) := by
  have := ofR_append (l.take k) (l.drop k)
  rw [List.take_append_drop] at this
  rw [this, foldl_err _ h]
theorem take_snoc' {α : Type} {l : List α} {k : Nat} {s : α} (h : l[k]? = some s) : l.take (k + 1) = l.take k ++ [s] := by
  rw [List.take_add_one, h]; rfl
theorem ofR_ok {l : List Smp} (h : ∀ s ∈ l, SmpOk s) : (ofR l).1.Ok ∧ ((ofR l).2 = 0 ∨ (ofR l).2 = 240) := by
  suffices H : ∀ (l : List Smp) (r : Ag × Int), (∀ s ∈ l, SmpOk s) → r.1.Ok ∧ (r.2 = 0 ∨ r.2 = 240) → (l.foldl ofStep r).1.Ok ∧ ((l.foldl ofStep r).2 = 0 ∨ (l.foldl ofStep r).2 = 240) from H l _ h ⟨Ag.zero_ok, .inl rfl⟩
  intro l
  induction l with
  | nil => intro r _ h; exact h
  | cons s l ih =>
    intro r hs hr
    refine ih _ (fun x hx => hs x (by simp [hx])) ?_
    unfold ofStep
    split
    · split
      · exact ⟨joinV_ok hr.1 (Ag.one_ok (hs s (by simp))), .inl rfl⟩
      · exact ⟨Ag.zero_ok, joinE_two _ _⟩
    · exact hr
end Go.Proofs.Ytfaahkjgbjcjgaa
