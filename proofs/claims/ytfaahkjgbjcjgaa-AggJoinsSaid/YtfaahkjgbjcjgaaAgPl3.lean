/-
  Plain facts on lists of samples whose times rise: no program in sight.
-/
import Derived.Test.YtfaahkjgbjcjgaaAgPl2
namespace Go.Proofs.Ytfaahkjgbjcjgaa
open Go.RowKit

/-- One sample more, where its time is behind the last one's. -/
def riseStep (out : List Smp) (s : Smp) : List Smp :=
  match out.getLast? with
  | none => out ++ [s]
  | some x => if x.1 < s.1 then out ++ [s] else out
def rise (l : List Smp) : List Smp := l.foldl riseStep []
theorem rise_snoc (l : List Smp) (s : Smp) : rise (l ++ [s]) = riseStep (rise l) s := by simp [rise, List.foldl_append]
/-- Times rise. -/
def Ris (l : List Smp) : Prop := l.Pairwise (fun x y => x.1 < y.1)

theorem getLast_snoc {α : Type} (l : List α) (x : α) : (l ++ [x]).getLast? = some x := by simp
theorem riseStep_nil (s : Smp) : riseStep [] s = [s] := rfl
theorem riseStep_yes (out : List Smp) (x s : Smp) (h : x.1 < s.1) : riseStep (out ++ [x]) s = (out ++ [x]) ++ [s] := by
  unfold riseStep; rw [getLast_snoc]; exact if_pos h
theorem riseStep_no (out : List Smp) (x s : Smp) (h : ¬ x.1 < s.1) : riseStep (out ++ [x]) s = out ++ [x] := by
  unfold riseStep; rw [getLast_snoc]; exact if_neg h

theorem snoc_cases {α : Type} (l : List α) : l = [] ∨ ∃ m x, l = m ++ [x] := by
  rcases List.eq_nil_or_concat l with h | ⟨m, x, h⟩
  · exact .inl h
  · exact .inr ⟨m, x, by simpa using h⟩

theorem ris_snoc {l : List Smp} {x s : Smp} (h : Ris (l ++ [x])) (hx : x.1 < s.1) : Ris ((l ++ [x]) ++ [s]) := by
  unfold Ris at *
  rw [List.pairwise_append]
  refine ⟨h, by simp, fun a ha b hb => ?_⟩
  simp only [List.mem_singleton] at hb
  subst hb
  rw [List.pairwise_append] at h
  rcases List.mem_append.1 ha with ha | ha
  · exact Int.lt_trans (h.2.2 a ha x (by simp)) hx
  · simp only [List.mem_singleton] at ha; subst ha; exact hx

theorem rise_all (l : List Smp) : Ris (rise l) ∧ (rise l).length ≤ l.length ∧ ∀ s ∈ rise l, s ∈ l := by
  suffices H : ∀ (l out all : List Smp), (Ris out ∧ out.length ≤ all.length ∧ ∀ s ∈ out, s ∈ all) → Ris (l.foldl riseStep out) ∧ (l.foldl riseStep out).length ≤ (all ++ l).length ∧ ∀ s ∈ l.foldl riseStep out, s ∈ all ++ l by
    have := H l [] [] ⟨by simp [Ris], by simp, by simp⟩
    rw [List.nil_append] at this
    exact this
  intro l
  induction l with
  | nil => intro out all h; simpa using h
  | cons s l ih =>
    intro out all h
    have hs : Ris (riseStep out s) ∧ (riseStep out s).length ≤ (all ++ [s]).length ∧ ∀ x ∈ riseStep out s, x ∈ all ++ [s] := by
      rcases snoc_cases out with rfl | ⟨m, x, rfl⟩
      · exact ⟨by simp [riseStep_nil, Ris], by simp [riseStep_nil], by simp [riseStep_nil]⟩
      · by_cases hx : x.1 < s.1
        · rw [riseStep_yes _ _ _ hx]
          refine ⟨ris_snoc h.1 hx, ?_, fun y hy => ?_⟩
          · have := h.2.1; simp only [List.length_append, List.length_cons, List.length_nil] at *; omega
          · rcases List.mem_append.1 hy with hy | hy
            · exact List.mem_append_left _ (h.2.2 y hy)
            · exact List.mem_append_right _ hy
        · rw [riseStep_no _ _ _ hx]
          exact ⟨h.1, by have := h.2.1; simp only [List.length_append, List.length_cons, List.length_nil] at *; omega, fun y hy => List.mem_append_left _ (h.2.2 y hy)⟩
    have := ih _ _ hs
    rw [List.append_assoc] at this
    exact this

/-- The samples as cells. -/
def smpCells (l : List Smp) : List Value := l.flatMap fun s => [.int .i64 s.1, .int .u64 s.2]
theorem smpCells_length (l : List Smp) : (smpCells l).length = l.length * 2 := by
  induction l with
  | nil => rfl
  | cons s l ih => simp only [smpCells, List.flatMap_cons, List.length_append, List.length_cons, List.length_nil] at *; omega
theorem smpCells_append (l m : List Smp) : smpCells (l ++ m) = smpCells l ++ smpCells m := by simp [smpCells]
theorem smpCells_get {l : List Smp} {i : Nat} {s : Smp} (h : l[i]? = some s) : (smpCells l)[i * 2]? = some (.int .i64 s.1) ∧ (smpCells l)[i * 2 + 1]? = some (.int .u64 s.2) := by
  induction l generalizing i with
  | nil => simp at h
  | cons x l ih =>
    have e : smpCells (x :: l) = .int .i64 x.1 :: .int .u64 x.2 :: smpCells l := rfl
    rw [e]
    cases i with
    | zero => simp at h; subst h; exact ⟨rfl, rfl⟩
    | succ i =>
      have := ih (i := i) (by simpa using h)
      rw [show (i + 1) * 2 = i * 2 + 1 + 1 from by omega]
      exact this
theorem smpCells_one {l : List Smp} : ∀ u ∈ smpCells l, u.oneCell' = true := by
  intro u hu
  simp only [smpCells, List.mem_flatMap] at hu
  obtain ⟨s, _, hs⟩ := hu
  simp only [List.mem_cons, List.not_mem_nil, or_false] at hs
  rcases hs with rfl | rfl <;> rfl
end Go.Proofs.Ytfaahkjgbjcjgaa
