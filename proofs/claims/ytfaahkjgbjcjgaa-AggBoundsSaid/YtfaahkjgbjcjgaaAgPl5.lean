/-
  Plain laws: values lie between the least and the greatest; the mean does; the sum, digit by digit.
-/
import Derived.Test.YtfaahkjgbjcjgaaAgPl4
namespace Go.Proofs.Ytfaahkjgbjcjgaa
open Go.RowKit

theorem mins_one (s : Smp) : mins [s] = s.2 := rfl
theorem maxs_one (s : Smp) : maxs [s] = s.2 := rfl
theorem bounds_all (l : List Smp) : (∀ s ∈ l, mins l ≤ s.2 ∧ s.2 ≤ maxs l) ∧ (l ≠ [] → (∃ s ∈ l, s.2 = mins l) ∧ ∃ s ∈ l, s.2 = maxs l) := by
  suffices H : ∀ k, k ≤ l.length → (∀ s ∈ l.take k, mins (l.take k) ≤ s.2 ∧ s.2 ≤ maxs (l.take k)) ∧ (l.take k ≠ [] → (∃ s ∈ l.take k, s.2 = mins (l.take k)) ∧ ∃ s ∈ l.take k, s.2 = maxs (l.take k)) by
    have := H l.length (Nat.le_refl _)
    rwa [List.take_length] at this
  intro k
  induction k with
  | zero => intro _; simp
  | succ k ih =>
    intro hk
    obtain ⟨x, hx⟩ : ∃ x, l[k]? = some x := ⟨_, List.getElem?_eq_getElem (by omega)⟩
    have e := take_snoc' hx
    rw [e]
    have ih := ih (by omega)
    generalize l.take k = p at *
    by_cases hp : p = []
    · subst hp
      refine ⟨fun s hs => ?_, fun _ => ⟨⟨x, by simp, rfl⟩, ⟨x, by simp, rfl⟩⟩⟩
      simp only [List.nil_append, List.mem_singleton] at hs
      subst hs
      exact ⟨Int.le_refl _, Int.le_refl _⟩
    · obtain ⟨⟨s1, h1, e1⟩, ⟨s2, h2, e2⟩⟩ := ih.2 hp
      rw [mins_append hp (by simp), maxs_append hp (by simp), mins_one, maxs_one]
      refine ⟨fun s hs => ?_, fun _ => ⟨?_, ?_⟩⟩
      · rcases List.mem_append.1 hs with hs | hs
        · have := ih.1 s hs; omega
        · simp only [List.mem_singleton] at hs; subst hs; omega
      · by_cases hc : mins p ≤ x.2
        · exact ⟨s1, List.mem_append_left _ h1, by omega⟩
        · exact ⟨x, by simp, by omega⟩
      · by_cases hc : x.2 ≤ maxs p
        · exact ⟨s2, List.mem_append_left _ h2, by omega⟩
        · exact ⟨x, by simp, by omega⟩

theorem tot_low {l : List Smp} {c : Int} (h : ∀ s ∈ l, c ≤ s.2) : (l.length : Int) * c ≤ tot l := by
  induction l with
  | nil => simp [tot]
  | cons s r ih =>
    have h1 := h s (by simp)
    have h2 := ih (fun x hx => h x (by simp [hx]))
    rw [List.length_cons, Int.natCast_add, Int.add_mul]
    simp only [tot]
    omega
theorem tot_high {l : List Smp} {c : Int} (h : ∀ s ∈ l, s.2 ≤ c) : tot l ≤ (l.length : Int) * c := by
  induction l with
  | nil => simp [tot]
  | cons s r ih =>
    have h1 := h s (by simp)
    have h2 := ih (fun x hx => h x (by simp [hx]))
    rw [List.length_cons, Int.natCast_add, Int.add_mul]
    simp only [tot]
    omega
theorem tot_nonneg {l : List Smp} (h : ∀ s ∈ l, SmpOk s) : 0 ≤ tot l := by
  have := tot_low (l := l) (c := 0) (fun s hs => (h s hs).2.1)
  omega

/-- One value more, digit by digit. -/
theorem tot_step {T lo hi v lo' : Int} (h : T = hi * 18446744073709551616 + lo) (hlo : U64 lo) (hv : U64 v) (hl : lo' = (lo + v) % 18446744073709551616) :
    T + v = (if lo' < v then hi + 1 else hi) * 18446744073709551616 + lo' ∧ U64 lo' := by
  simp only [U64] at *
  split <;> omega
theorem tot_end {T lo hi : Int} (h : T = hi * 18446744073709551616 + lo) (hlo : U64 lo) : T / 18446744073709551616 = hi ∧ T % 18446744073709551616 = lo := by
  simp only [U64] at *; omega

/-- What few samples come to, field by field. -/
theorem mk_fields {l : List Smp} (hf : Few l) (h60 : l.length ≤ 60) (h0 : l ≠ []) :
    mk l = ⟨(l.length : Int), (hdS l).1, (hdS l).2, (laS l).1, (laS l).2, mins l, maxs l, tot l / 18446744073709551616, tot l % 18446744073709551616⟩ ∧ 0 ≤ tot l / 18446744073709551616 ∧ tot l / 18446744073709551616 < (l.length : Int) := by
  have h1 := tot_nonneg hf.2
  have h2 := tot_high (l := l) (c := 18446744073709551615) (fun s hs => by have := (hf.2 s hs).2.2; omega)
  have h3 : tot l / 18446744073709551616 < (l.length : Int) := by
    have : 0 < l.length := List.length_pos_iff.2 h0
    omega
  refine ⟨?_, by omega, h3⟩
  unfold mk
  rw [if_neg h0]
  congr 1 <;> omega
/-- The mean lies between. -/
theorem mean_between {l : List Smp} (h0 : l ≠ []) : mins l ≤ tot l / (l.length : Int) ∧ tot l / (l.length : Int) ≤ maxs l := by
  have hb := (bounds_all l).1
  have h1 := tot_low (fun s hs => (hb s hs).1)
  have h2 := tot_high (fun s hs => (hb s hs).2)
  have hp : 0 < (l.length : Int) := by have := List.length_pos_iff.2 h0; omega
  refine ⟨(Int.le_ediv_iff_mul_le hp).2 (by rw [Int.mul_comm]; exact h1), ?_⟩
  have : tot l / (l.length : Int) < maxs l + 1 := (Int.ediv_lt_iff_lt_mul hp).2 (by rw [Int.add_mul, Int.mul_comm]; omega)
  omega
end Go.Proofs.Ytfaahkjgbjcjgaa
