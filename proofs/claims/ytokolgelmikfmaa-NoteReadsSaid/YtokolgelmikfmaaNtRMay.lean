/-
  The reference's May.
-/
import Derived.Test.YtokolgelmikfmaaNtSame
import Derived.Test.YtokolgelmikfmaaRefBit
namespace Go.Proofs.Ytokolgelmikfmaa
open Go.RowKit Pl
set_option linter.unusedVariables false

theorem sameB_one (e s t v cc b m n : Int) (z : Bool) (B : List Int) (N : Int) : sameB ⟨1, e, s, t, v, cc, b, m, n, z, B, N⟩ ⟨1, e, 0, 0, 0, 0, 0, 0, 0, false, [], 0⟩ = mayB ⟨1, e, s, t, v, cc, b, m, n, z, B, N⟩ := by
  rw [Bool.eq_iff_iff]
  simp only [sameB, mayB, plB, if_true, Bool.and_eq_true, beq_iff_eq, decide_eq_true_eq, Bool.not_eq_true', List.length_eq_zero_iff]
  constructor
  · intro h; simp_all
  · intro h; simp_all

set_option maxRecDepth 100000 in
set_option maxHeartbeats 2000000 in
theorem rmay_one (x : Nt) (hx : Byts x.B) (hk : x.k = 1) (A : Option Addr) (c : Nat) (w : World) (hr : Rd w A x.B) :
    Calls Try.prog 12 #[nv x A c] w fun e w' => e = .returned (.bool (mayB x)) ∧ Below w.heap.size w w' := by
  obtain ⟨k, e, s, t, v, cc, b, m, n, z, B, N⟩ := x
  simp only at hk hr hx
  subst hk
  have S := fun wx (h : Rd wx A B) => rnsame_any ⟨1, e, s, t, v, cc, b, m, n, z, B, N⟩ ⟨1, e, 0, 0, 0, 0, 0, 0, 0, false, [], 0⟩ hx (fun x hx => absurd hx (by simp)) A none c 0 wx h (Rd.nil _ _)
  rw [sameB_one] at S
  obtain ⟨q, hq⟩ : ∃ q, mayB ⟨1, e, s, t, v, cc, b, m, n, z, B, N⟩ = q := ⟨_, rfl⟩
  rw [hq] at S ⊢
  unfold nv at S ⊢
  have HS := Lib.hid S
  simp only [List.length_nil] at HS ⊢
  obtain ⟨bl, hbl⟩ : ∃ n, B.length = n := ⟨_, rfl⟩
  rw [hbl] at HS ⊢
  clear S hq hbl hx
  go_enter Try.func12, Try.ntmps12
  go_wp2_with fail
  refine (HS.out _ (hr.alloc _)).mono ?_
  rintro e w1 ⟨rfl, hb1⟩
  go_wp2_with fail
  go_ret
  exact ⟨rfl, ((Below.refl _ _).alloc (Nat.le_refl _) _).trans (hb1.mono (by simp))⟩

theorem sameB_two (e s t v cc b m n : Int) (z : Bool) (B : List Int) (N : Int) : sameB ⟨2, e, s, t, v, cc, b, m, n, z, B, N⟩ ⟨2, 0, s, t, v, 0, 0, 0, 0, false, [], 0⟩ = mayB ⟨2, e, s, t, v, cc, b, m, n, z, B, N⟩ := by
  rw [Bool.eq_iff_iff]
  simp only [sameB, mayB, plB, show ¬ (2 : Int) = 1 from by decide, if_false, if_true, Bool.and_eq_true, beq_iff_eq, decide_eq_true_eq, Bool.not_eq_true', List.length_eq_zero_iff]
  constructor
  · intro h; simp_all
  · intro h; simp_all

set_option maxRecDepth 100000 in
set_option maxHeartbeats 2000000 in
theorem rmay_two (x : Nt) (hx : Byts x.B) (hk : x.k = 2) (A : Option Addr) (c : Nat) (w : World) (hr : Rd w A x.B) :
    Calls Try.prog 12 #[nv x A c] w fun e w' => e = .returned (.bool (mayB x)) ∧ Below w.heap.size w w' := by
  obtain ⟨k, e, s, t, v, cc, b, m, n, z, B, N⟩ := x
  simp only at hk hr hx
  subst hk
  have S := fun wx (h : Rd wx A B) => rnsame_any ⟨2, e, s, t, v, cc, b, m, n, z, B, N⟩ ⟨2, 0, s, t, v, 0, 0, 0, 0, false, [], 0⟩ hx (fun x hx => absurd hx (by simp)) A none c 0 wx h (Rd.nil _ _)
  rw [sameB_two] at S
  obtain ⟨q, hq⟩ : ∃ q, mayB ⟨2, e, s, t, v, cc, b, m, n, z, B, N⟩ = q := ⟨_, rfl⟩
  rw [hq] at S ⊢
  unfold nv at S ⊢
  have HS := Lib.hid S
  simp only [List.length_nil] at HS ⊢
  obtain ⟨bl, hbl⟩ : ∃ n, B.length = n := ⟨_, rfl⟩
  rw [hbl] at HS ⊢
  clear S hq hbl hx
  go_enter Try.func12, Try.ntmps12
  go_wp2_with fail
  refine (HS.out _ (hr.alloc _)).mono ?_
  rintro e w1 ⟨rfl, hb1⟩
  go_wp2_with fail
  go_ret
  exact ⟨rfl, ((Below.refl _ _).alloc (Nat.le_refl _) _).trans (hb1.mono (by simp))⟩

theorem sameB_three (e s t v cc b m n : Int) (z : Bool) (B : List Int) (N : Int) : sameB ⟨3, e, s, t, v, cc, b, m, n, z, B, N⟩ ⟨3, 0, s, 0, 0, cc, b, m, 0, false, [], 0⟩ = mayB ⟨3, e, s, t, v, cc, b, m, n, z, B, N⟩ := by
  rw [Bool.eq_iff_iff]
  simp only [sameB, mayB, plB, show ¬ (3 : Int) = 1 from by decide, if_false, show ¬ (3 : Int) = 2 from by decide, if_true, Bool.and_eq_true, beq_iff_eq, decide_eq_true_eq, Bool.not_eq_true', List.length_eq_zero_iff]
  constructor
  · intro h; simp_all
  · intro h; simp_all

set_option maxRecDepth 100000 in
set_option maxHeartbeats 2000000 in
theorem rmay_three (x : Nt) (hx : Byts x.B) (hk : x.k = 3) (A : Option Addr) (c : Nat) (w : World) (hr : Rd w A x.B) :
    Calls Try.prog 12 #[nv x A c] w fun e w' => e = .returned (.bool (mayB x)) ∧ Below w.heap.size w w' := by
  obtain ⟨k, e, s, t, v, cc, b, m, n, z, B, N⟩ := x
  simp only at hk hr hx
  subst hk
  have S := fun wx (h : Rd wx A B) => rnsame_any ⟨3, e, s, t, v, cc, b, m, n, z, B, N⟩ ⟨3, 0, s, 0, 0, cc, b, m, 0, false, [], 0⟩ hx (fun x hx => absurd hx (by simp)) A none c 0 wx h (Rd.nil _ _)
  rw [sameB_three] at S
  obtain ⟨q, hq⟩ : ∃ q, mayB ⟨3, e, s, t, v, cc, b, m, n, z, B, N⟩ = q := ⟨_, rfl⟩
  rw [hq] at S ⊢
  unfold nv at S ⊢
  have HS := Lib.hid S
  simp only [List.length_nil] at HS ⊢
  obtain ⟨bl, hbl⟩ : ∃ n, B.length = n := ⟨_, rfl⟩
  rw [hbl] at HS ⊢
  clear S hq hbl hx
  go_enter Try.func12, Try.ntmps12
  go_wp2_with fail
  refine (HS.out _ (hr.alloc _)).mono ?_
  rintro e w1 ⟨rfl, hb1⟩
  go_wp2_with fail
  go_ret
  exact ⟨rfl, ((Below.refl _ _).alloc (Nat.le_refl _) _).trans (hb1.mono (by simp))⟩

set_option maxRecDepth 100000 in
set_option maxHeartbeats 2000000 in
theorem rmay_four (x : Nt) (hx : x.Ok) (hl : (x.B.length : Int) ≤ 1000000) (hk : x.k = 4) (A : Option Addr) (c : Nat) (w : World) (hr : Rd w A x.B) :
    Calls Try.prog 12 #[nv x A c] w fun e w' => e = .returned (.bool (mayB x)) ∧ Below w.heap.size w w' := by
  obtain ⟨k, e, s, t, v, cc, b, m, n, z, B, N⟩ := x
  simp only at hk
  subst hk
  have HS := Lib.hid (fun wx (h : Rd wx A B) => rsound_any A c B N wx h hx.2.2.2.2.2.2.2.2.2.1 hx.2.2.2.2.2.2.2.2.2.2 (by simp only at hl; omega))
  unfold mayB
  unfold nv
  simp only [show ¬ (4 : Int) = 1 from by decide, if_false, show ¬ (4 : Int) = 2 from by decide, show ¬ (4 : Int) = 3 from by decide, if_true] at hl hr ⊢
  obtain ⟨y, hy⟩ : ∃ y : Bool, sndB B N = y := ⟨_, rfl⟩
  obtain ⟨bl, hbl⟩ : ∃ n, B.length = n := ⟨_, rfl⟩
  rw [hbl] at HS hl ⊢
  rw [hy] at HS ⊢
  clear hbl hy hx
  go_enter Try.func12, Try.ntmps12
  go_wp2_with fail
  refine (HS.out _ (hr.alloc _)).mono ?_
  rintro e w1 ⟨rfl, hb1⟩
  have x0 := cells12 ((Blk.new w _ _).below hb1 (by simp))
  have hbw : Below w.heap.size w w1 := ((Below.refl _ _).alloc (Nat.le_refl _) _).trans (hb1.mono (by simp))
  clear hb1 HS hr
  cases y
  · go_wp2_with fail
    go_ret
    refine ⟨ret_bool (by simp), hbw⟩
  · go_wp2_with fail
    all_goals
      clear x0
      go_ret
      refine ⟨ret_bool ?_, hbw⟩
      clear hbw
      first
        | (have d1 : ¬ bl ≤ 500 := (by omega); simp [d1]; done)
        | (have d1 : ¬ 0 < N := (by omega); simp [d1]; done)
        | (have d1 : ¬ m < n := (by omega); simp [d1]; done)
        | (have d1 : 0 < N := (by omega); have d2 : bl ≤ 500 := (by omega); have d3 : m < n := (by omega); simp [d1, d2, d3]; done)
        | (have d1 : 0 < N := (by omega); have d2 : bl ≤ 500 := (by omega); have d3 : m < n := (by omega); simp [*]; done)
        | (simp [*]; done)

set_option maxRecDepth 100000 in
set_option maxHeartbeats 2000000 in
theorem rmay_other (x : Nt) (h1 : ¬ x.k = 1) (h2 : ¬ x.k = 2) (h3 : ¬ x.k = 3) (h4 : ¬ x.k = 4) (A : Option Addr) (c : Nat) (w : World) :
    Calls Try.prog 12 #[nv x A c] w fun e w' => e = .returned (.bool (mayB x)) ∧ Below w.heap.size w w' := by
  obtain ⟨k, e, s, t, v, cc, b, m, n, z, B, N⟩ := x
  simp only at h1 h2 h3 h4
  have d1 : (k == 1) = false := by rw [beq_eq_false_iff_ne]; exact h1
  have d2 : (k == 2) = false := by rw [beq_eq_false_iff_ne]; exact h2
  have d3 : (k == 3) = false := by rw [beq_eq_false_iff_ne]; exact h3
  have d4 : (k == 4) = false := by rw [beq_eq_false_iff_ne]; exact h4
  have hm : mayB ⟨k, e, s, t, v, cc, b, m, n, z, B, N⟩ = false := by unfold mayB; rw [if_neg h1, if_neg h2, if_neg h3, if_neg h4]
  rw [hm]
  unfold nv
  simp only
  obtain ⟨bl, hbl⟩ : ∃ n, B.length = n := ⟨_, rfl⟩
  rw [hbl]
  clear hbl hm h1 h2 h3 h4
  go_enter Try.func12, Try.ntmps12
  go_wp2_with fail
  go_ret
  exact ⟨rfl, (Below.refl _ _).alloc (Nat.le_refl _) _⟩

theorem rmay_any (x : Nt) (hx : x.Ok) (hl : (x.B.length : Int) ≤ 1000000) (A : Option Addr) (c : Nat) (w : World) (hr : Rd w A x.B) :
    Calls Try.prog 12 #[nv x A c] w fun e w' => e = .returned (.bool (mayB x)) ∧ Below w.heap.size w w' := by
  have hB := hx.2.2.2.2.2.2.2.2.2.1
  by_cases h1 : x.k = 1
  · exact rmay_one x hB h1 A c w hr
  by_cases h2 : x.k = 2
  · exact rmay_two x hB h2 A c w hr
  by_cases h3 : x.k = 3
  · exact rmay_three x hB h3 A c w hr
  by_cases h4 : x.k = 4
  · exact rmay_four x hx hl h4 A c w hr
  · exact rmay_other x h1 h2 h3 h4 A c w
end Go.Proofs.Ytokolgelmikfmaa
