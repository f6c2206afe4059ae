/-
  Mean by Div64's contract; the chapter's example.
-/
import Derived.Test.YtfaahkjgbjcjgaaAgOf
namespace Go.Proofs.Ytfaahkjgbjcjgaa
open Go.RowKit
set_option linter.unusedVariables false

/-- Div64 of these answers that. -/
def DivSays (hi lo y q r : Int) : Prop := ∀ w, Calls Try.prog 19 #[.int .u64 hi, .int .u64 lo, .int .u64 y] w fun e w' => e = .returned (.tuple #[.int .u64 q, .int .u64 r]) ∧ ∃ k, w.drewN k = w'

set_option maxHeartbeats 1000000 in
theorem div_zero (lo y : Int) (hlo : U64 lo) (hy : 0 < y) : DivSays 0 lo y (lo / y) (lo % y) := by
  intro w
  have h0 := hlo.1
  have hw : IntKind.u64.wrap (lo.tdiv y) = lo / y := by
    rw [Int.tdiv_eq_ediv_of_nonneg h0, IntKind.wrap_u64]
    have h1 := Int.ediv_nonneg h0 (Int.le_of_lt hy)
    have h2 : lo / y ≤ lo := Int.ediv_le_self y h0
    have h3 := hlo.2
    exact Int.emod_eq_of_lt h1 (by omega)
  clear hlo
  have t1 : (y == 0) = false := beq_eq_false_iff_ne.2 (by omega)
  have t2 : decide (y ≤ 0) = false := decide_eq_false (by omega)
  have t3 : ¬ y = 0 := by omega
  go_enter Try.func19, Try.ntmps19
  go_wp2_with fail
  go_region
  all_goals (go_wp2_with fail)
  all_goals (go_ret2; exact ⟨rfl, 1, rfl⟩)

set_option maxHeartbeats 1000000 in
theorem mean_of (a : Ag) (q r : Int) (w : World) (h : DivSays a.hi a.lo a.n q r) (hn : ¬ a.n = 0) (hh : a.hi < a.n) :
    Calls Try.prog 13 #[.agg #[.int .u64 a.n, .int .i64 a.ft, .int .u64 a.fv, .int .i64 a.lt, .int .u64 a.lv, .int .u64 a.mi, .int .u64 a.ma, .int .u64 a.hi, .int .u64 a.lo]] w fun e w' => e = .returned (.tuple #[.int .u64 q, .bool true]) ∧ Below w.heap.size w w' := by
  have t1 : (a.n == 0) = false := beq_eq_false_iff_ne.2 hn
  have t2 : decide (a.n ≤ a.hi) = false := decide_eq_false (by omega)
  have H := Lib.hid h
  clear hn hh h
  go_enter Try.func13, Try.ntmps13
  go_wp2_with fail
  refine (H.out _).mono ?_
  rintro e w1 ⟨rfl, k, rfl⟩
  go_wp2_with fail
  go_ret2
  exact ⟨rfl, below_drewN ((Below.refl _ _).alloc (Nat.le_refl _) _) k⟩

set_option maxHeartbeats 1000000 in
theorem mean_none (a : Ag) (w : World) (h : a.n = 0 ∨ a.n ≤ a.hi) :
    Calls Try.prog 13 #[.agg #[.int .u64 a.n, .int .i64 a.ft, .int .u64 a.fv, .int .i64 a.lt, .int .u64 a.lv, .int .u64 a.mi, .int .u64 a.ma, .int .u64 a.hi, .int .u64 a.lo]] w fun e w' => e = .returned (.tuple #[.int .u64 0, .bool false]) ∧ Below w.heap.size w w' := by
  by_cases h0 : a.n = 0
  · have t1 : (a.n == 0) = true := beq_iff_eq.2 h0
    clear h h0
    go_enter Try.func13, Try.ntmps13
    go_wp2_with fail
    go_ret2
    exact ⟨rfl, (Below.refl _ _).alloc (Nat.le_refl _) _⟩
  · have t1 : (a.n == 0) = false := beq_eq_false_iff_ne.2 h0
    have t2 : decide (a.n ≤ a.hi) = true := decide_eq_true (by omega)
    clear h h0
    go_enter Try.func13, Try.ntmps13
    go_wp2_with fail
    go_ret2
    exact ⟨rfl, (Below.refl _ _).alloc (Nat.le_refl _) _⟩

theorem rdS2 {w : World} {t : TypeId} (x y : Smp) : RdS (w.alloc (.cells #[.int .i64 x.1, .int .u64 x.2, .int .i64 y.1, .int .u64 y.2] t)) (some ⟨w.heap.size, 0, none⟩) [x, y] := by
  refine .inr ⟨w.heap.size, 0, rfl, by simp, fun i v hi => ?_⟩
  match i, hi with
  | 0, hi => injection hi with hi; subst hi; exact ⟨by simp, by simp⟩
  | 1, hi => injection hi with hi; subst hi; exact ⟨by simp, by simp⟩
  | i + 2, hi => simp at hi

theorem smp_small {x y : Int} (h0 : 0 ≤ x) (h1 : x ≤ 1000) (h2 : 0 ≤ y) (h3 : y ≤ 1000) : SmpOk (x, y) := by simp only [SmpOk, U64]; omega

set_option maxRecDepth 100000 in
set_option maxHeartbeats 4000000 in
theorem known_any (w : World) : Calls Try.prog 8 #[] w fun e w' => e = .returned (.bool true) ∧ Below w.heap.size w w' := by
  have h1 := Lib.hid (fun (wx : World) (t : TypeId) => of_any (some ⟨wx.heap.size, 0, none⟩) 2 [(1, 2), (3, 5)] _ (rdS2 (w := wx) (t := t) (1, 2) (3, 5)) (by decide) (fun s hs => by
    simp only [List.mem_cons, List.not_mem_nil, or_false] at hs
    rcases hs with rfl | rfl <;> exact smp_small (by decide) (by decide) (by decide) (by decide)))
  have h2 := Lib.hid (fun (wx : World) (t : TypeId) => of_any (some ⟨wx.heap.size, 0, none⟩) 2 [(1, 0), (1, 0)] _ (rdS2 (w := wx) (t := t) (1, 0) (1, 0)) (by decide) (fun s hs => by
    simp only [List.mem_cons, List.not_mem_nil, or_false] at hs
    rcases hs with rfl | rfl <;> exact smp_small (by decide) (by decide) (by decide) (by decide)))
  have hm := Lib.hid (fun wx => mean_of ⟨2, 1, 2, 3, 5, 2, 5, 0, 7⟩ 3 1 wx (div_zero 7 2 ⟨by decide, by decide⟩ (by decide)) (by decide) (by decide))
  go_enter Try.func8, Try.ntmps8
  go_wp2_with fail
  refine (h1.out _ _).mono ?_
  rintro e w1 ⟨rfl, hb1⟩
  rw [show ofR [(1, 2), (3, 5)] = (⟨2, 1, 2, 3, 5, 2, 5, 0, 7⟩, 0) from rfl]
  have hw1 : Below w.heap.size w w1 := ((Below.refl _ _).alloc (Nat.le_refl _) _).trans (hb1.mono (by simp))
  have HT1 := Lib.hid (agBlk (w := w1) (t := 29) (cs := #[.int .u64 2, .int .i64 1, .int .u64 2, .int .i64 3, .int .u64 5, .int .u64 2, .int .u64 5, .int .u64 0, .int .u64 7]))
  have hw1b := hw1.alloc hw1.size (.cells #[.int .u64 2, .int .i64 1, .int .u64 2, .int .i64 3, .int .u64 5, .int .u64 2, .int .u64 5, .int .u64 0, .int .u64 7] 29)
  clear hb1
  go_wp2_with fail
  refine (hm.out _).mono ?_
  rintro e w2 ⟨rfl, hb2⟩
  have HT2 := Lib.hid (HT1.out.below hb2 HT1.out.lt)
  have hw2 := hw1b.trans (hb2.mono hw1b.size)
  clear hb2
  go_wp2_with fail
  refine (h2.out _ _).mono ?_
  rintro e w3 ⟨rfl, hb3⟩
  rw [show ofR [(1, 0), (1, 0)] = (Ag.zero, 240) from rfl]
  have HT3 := (HT2.out.alloc _).below hb3 (HT2.out.alloc _).lt
  have hw3 : Below w.heap.size w w3 := (hw2.alloc hw2.size _).trans (hb3.mono (by have := hw2.size; simp; omega))
  have c0 := HT3.cell 0
  have c1 := HT3.cell 5
  have c2 := HT3.cell 6
  have c3 := HT3.cell 7
  have c4 := HT3.cell 8
  have hlt := HT3.lt
  clear HT3 HT2 HT1 hb3
  go_wp2_with fail
  go_ret
  exact ⟨rfl, hw3.alloc hw3.size _⟩
end Go.Proofs.Ytfaahkjgbjcjgaa
