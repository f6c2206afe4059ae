/-
  Plain laws of what samples come to, written out: no program in sight.
-/
import Derived.Test.YtfaahkjgbjcjgaaAgPl3
namespace Go.Proofs.Ytfaahkjgbjcjgaa
open Go.RowKit

def hdS (l : List Smp) : Smp := l.head?.getD (0, 0)
def laS (l : List Smp) : Smp := l.getLast?.getD (0, 0)
def tot : List Smp → Int
  | [] => 0
  | s :: r => s.2 + tot r
def mins (l : List Smp) : Int := l.tail.foldl (fun m x => min m x.2) (hdS l).2
def maxs (l : List Smp) : Int := l.tail.foldl (fun m x => max m x.2) (hdS l).2

/-- What samples come to, written out. -/
def mk (l : List Smp) : Ag :=
  if l = [] then Ag.zero else ⟨(l.length : Int) % 18446744073709551616, (hdS l).1, (hdS l).2, (laS l).1, (laS l).2, mins l, maxs l, tot l / 18446744073709551616 % 18446744073709551616, tot l % 18446744073709551616⟩

theorem tot_append (a b : List Smp) : tot (a ++ b) = tot a + tot b := by
  induction a with
  | nil => simp [tot]
  | cons s r ih => simp only [List.cons_append, tot, ih]; omega
theorem foldl_min (r : List Smp) (a b : Int) : r.foldl (fun m x => min m x.2) (min a b) = min a (r.foldl (fun m x => min m x.2) b) := by
  induction r generalizing b with
  | nil => rfl
  | cons s r ih => simp only [List.foldl_cons]; rw [← ih, Int.min_assoc]
theorem foldl_max (r : List Smp) (a b : Int) : r.foldl (fun m x => max m x.2) (max a b) = max a (r.foldl (fun m x => max m x.2) b) := by
  induction r generalizing b with
  | nil => rfl
  | cons s r ih => simp only [List.foldl_cons]; rw [← ih, Int.max_assoc]
theorem mins_append {a b : List Smp} (ha : a ≠ []) (hb : b ≠ []) : mins (a ++ b) = min (mins a) (mins b) := by
  obtain ⟨s, r, rfl⟩ := List.exists_cons_of_ne_nil ha
  obtain ⟨t, q, rfl⟩ := List.exists_cons_of_ne_nil hb
  simp only [mins, hdS, List.cons_append, List.tail_cons, List.head?_cons, Option.getD_some, List.foldl_append, List.foldl_cons]
  exact foldl_min _ _ _
theorem maxs_append {a b : List Smp} (ha : a ≠ []) (hb : b ≠ []) : maxs (a ++ b) = max (maxs a) (maxs b) := by
  obtain ⟨s, r, rfl⟩ := List.exists_cons_of_ne_nil ha
  obtain ⟨t, q, rfl⟩ := List.exists_cons_of_ne_nil hb
  simp only [maxs, hdS, List.cons_append, List.tail_cons, List.head?_cons, Option.getD_some, List.foldl_append, List.foldl_cons]
  exact foldl_max _ _ _
theorem hdS_append {a b : List Smp} (ha : a ≠ []) : hdS (a ++ b) = hdS a := by
  obtain ⟨s, r, rfl⟩ := List.exists_cons_of_ne_nil ha
  rfl
theorem laS_snoc (l : List Smp) (x : Smp) : laS (l ++ [x]) = x := by simp [laS]
theorem laS_append {a b : List Smp} (hb : b ≠ []) : laS (a ++ b) = laS b := by
  rcases snoc_cases b with rfl | ⟨m, x, rfl⟩
  · exact absurd rfl hb
  · rw [← List.append_assoc, laS_snoc, laS_snoc]
theorem laS_mem {a : List Smp} (ha : a ≠ []) : laS a ∈ a := by
  rcases snoc_cases a with rfl | ⟨m, x, rfl⟩
  · exact absurd rfl ha
  · rw [laS_snoc]; simp
theorem hdS_mem {a : List Smp} (ha : a ≠ []) : hdS a ∈ a := by
  obtain ⟨s, r, rfl⟩ := List.exists_cons_of_ne_nil ha
  simp [hdS]

/-- Few samples, each of which may be. -/
def Few (l : List Smp) : Prop := l.length ≤ 1000000 ∧ ∀ s ∈ l, SmpOk s
theorem Few.left {a b : List Smp} (h : Few (a ++ b)) : Few a := ⟨by have := h.1; rw [List.length_append] at this; omega, fun s hs => h.2 s (List.mem_append_left _ hs)⟩
theorem Few.right {a b : List Smp} (h : Few (a ++ b)) : Few b := ⟨by have := h.1; rw [List.length_append] at this; omega, fun s hs => h.2 s (List.mem_append_right _ hs)⟩
theorem Ris.left {a b : List Smp} (h : Ris (a ++ b)) : Ris a := (List.pairwise_append.1 h).1
theorem Ris.right {a b : List Smp} (h : Ris (a ++ b)) : Ris b := (List.pairwise_append.1 h).2.1
theorem Ris.mid {a b : List Smp} (h : Ris (a ++ b)) (ha : a ≠ []) (hb : b ≠ []) : (laS a).1 < (hdS b).1 :=
  (List.pairwise_append.1 h).2.2 _ (laS_mem ha) _ (hdS_mem hb)

theorem mk_nil : mk [] = Ag.zero := rfl
theorem mk_n {l : List Smp} (h : Few l) : (mk l).n = (l.length : Int) := by
  unfold mk
  split
  · rename_i h0; subst h0; rfl
  · have := h.1; show (l.length : Int) % 18446744073709551616 = _; omega
theorem mk_n0 {l : List Smp} (h : Few l) : (mk l).n = 0 ↔ l = [] := by
  rw [mk_n h]
  constructor
  · intro e; exact List.eq_nil_of_length_eq_zero (by omega)
  · rintro rfl; rfl
theorem mk_ft {l : List Smp} (h : l ≠ []) : (mk l).ft = (hdS l).1 := by unfold mk; rw [if_neg h]
theorem mk_lt {l : List Smp} (h : l ≠ []) : (mk l).lt = (laS l).1 := by unfold mk; rw [if_neg h]
theorem mk_one (s : Smp) (h : SmpOk s) : mk [s] = Ag.one s.1 s.2 := by
  have := h.2
  simp only [U64] at this
  simp only [mk, if_neg (List.cons_ne_nil s []), Ag.one, hdS, laS, tot, mins, maxs, List.head?_cons, List.tail_cons, List.foldl_nil, Option.getD_some, List.getLast?_singleton, List.length_singleton]
  congr 1 <;> omega

/-- The halves joined are what all come to. -/
theorem join_mk {a b : List Smp} (hf : Few (a ++ b)) (hr : Ris (a ++ b)) : joinV (mk a) (mk b) = mk (a ++ b) ∧ joinE (mk a) (mk b) = 0 := by
  by_cases ha : a = []
  · subst ha
    have h0 : (mk []).n = 0 := rfl
    exact ⟨by rw [joinV, if_pos h0, List.nil_append], by rw [joinE, if_pos h0]⟩
  by_cases hb : b = []
  · subst hb
    have hn : ¬ (mk a).n = 0 := fun e => ha ((mk_n0 hf.left).1 e)
    have h0 : (mk []).n = 0 := rfl
    exact ⟨by rw [joinV, if_neg hn, if_pos h0, List.append_nil], by rw [joinE, if_neg hn, if_pos h0]⟩
  have hn : ¬ (mk a).n = 0 := fun e => ha ((mk_n0 hf.left).1 e)
  have hm : ¬ (mk b).n = 0 := fun e => hb ((mk_n0 hf.right).1 e)
  have ho : ¬ (mk b).ft ≤ (mk a).lt := by rw [mk_ft hb, mk_lt ha]; have := hr.mid ha hb; omega
  refine ⟨?_, by rw [joinE, if_neg hn, if_neg hm, if_neg ho]⟩
  rw [joinV, if_neg hn, if_neg hm, if_neg ho]
  have hab : a ++ b ≠ [] := by simp [ha]
  simp only [Ag.comb, mk, if_neg ha, if_neg hb, if_neg hab, hdS_append ha, laS_append hb, mins_append ha hb, maxs_append ha hb, tot_append, List.length_append, addLo, addHi]
  congr 1 <;> omega

/-- Of samples whose times rise. -/
theorem ofR_mk {l : List Smp} (hf : Few l) (hr : Ris l) : ofR l = (mk l, 0) := by
  have h : ∀ k, k ≤ l.length → ofR (l.take k) = (mk (l.take k), 0) := by
    intro k
    induction k with
    | zero => intro _; rfl
    | succ k ih =>
      intro hk
      have hx : l[k]? = some (l[k]'(by omega)) := List.getElem?_eq_getElem (by omega)
      obtain ⟨x, hx'⟩ : ∃ x, l[k]'(by omega) = x := ⟨_, rfl⟩
      rw [hx'] at hx
      have e := take_snoc' hx
      have hsub : l = (l.take k ++ [x]) ++ l.drop (k + 1) := by rw [← e, List.take_append_drop]
      have hf' : Few (l.take k ++ [x]) := by rw [hsub] at hf; exact hf.left
      have hr' : Ris (l.take k ++ [x]) := by rw [hsub] at hr; exact hr.left
      rw [e, ofR_snoc, ih (by omega)]
      have hj := join_mk hf' hr'
      rw [mk_one x (hf'.2 x (by simp))] at hj
      unfold ofStep
      rw [if_pos rfl, if_pos hj.2, hj.1]
  have := h l.length (Nat.le_refl _)
  rwa [List.take_length] at this

/-- The other way round it is an error, where both have some. -/
theorem join_back {a b : List Smp} (hf : Few (a ++ b)) (hr : Ris (a ++ b)) : joinE (mk b) (mk a) = if a ≠ [] ∧ b ≠ [] then 240 else 0 := by
  by_cases hb : b = []
  · subst hb
    have h0 : (mk []).n = 0 := rfl
    rw [joinE, if_pos h0, if_neg (by simp)]
  by_cases ha : a = []
  · subst ha
    have hm : ¬ (mk b).n = 0 := fun e => hb ((mk_n0 hf.right).1 e)
    have h0 : (mk []).n = 0 := rfl
    rw [joinE, if_neg hm, if_pos h0, if_neg (by simp)]
  have hn : ¬ (mk a).n = 0 := fun e => ha ((mk_n0 hf.left).1 e)
  have hm : ¬ (mk b).n = 0 := fun e => hb ((mk_n0 hf.right).1 e)
  have h1 : (hdS a).1 ≤ (laS a).1 := by
    rcases snoc_cases a with rfl | ⟨m, x, rfl⟩
    · exact absurd rfl ha
    · rw [laS_snoc]
      by_cases hm0 : m = []
      · subst hm0; exact Int.le_refl _
      · rw [hdS_append hm0]
        have := (List.pairwise_append.1 hr.left).2.2 _ (hdS_mem hm0) x (by simp)
        omega
  have h2 : (hdS b).1 ≤ (laS b).1 := by
    rcases snoc_cases b with rfl | ⟨m, x, rfl⟩
    · exact absurd rfl hb
    · rw [laS_snoc]
      by_cases hm0 : m = []
      · subst hm0; exact Int.le_refl _
      · rw [hdS_append hm0]
        have := (List.pairwise_append.1 hr.right).2.2 _ (hdS_mem hm0) x (by simp)
        omega
  have ho : (mk a).ft ≤ (mk b).lt := by rw [mk_ft ha, mk_lt hb]; have := hr.mid ha hb; omega
  rw [joinE, if_neg hm, if_neg hn, if_pos ho, if_pos ⟨ha, hb⟩]
end Go.Proofs.Ytfaahkjgbjcjgaa
