/-
  note.May: may a note be?
-/
import Derived.Test.YtokolgelmikfmaaSoundB
import Derived.Test.YtokolgelmikfmaaNtPl
namespace Go.Proofs.Ytokolgelmikfmaa
open Go.RowKit Pl
set_option linter.unusedVariables false

/-- A note as a value. -/
def nv (x : Nt) (A : Option Addr) (c : Nat) : Value :=
  .agg #[.int .u8 x.k, .int .u32 x.e, .int .u32 x.s, .int .i64 x.t, .int .u64 x.v, .int .u32 x.c, .int .u32 x.b, .int .u32 x.m, .int .u32 x.n, .bool x.z, .slice A x.B.length c, .int .i64 x.N]

theorem cells12 {w : World} {g : Nat} {t : TypeId} {a0 a1 a2 a3 a4 a5 a6 a7 a8 a9 a10 a11 : Value} (h : Blk w g t #[a0, a1, a2, a3, a4, a5, a6, a7, a8, a9, a10, a11]) :
    w.cell? ⟨g, 0, none⟩ = some a0 ∧ w.cell? ⟨g, 1, none⟩ = some a1 ∧ w.cell? ⟨g, 2, none⟩ = some a2 ∧ w.cell? ⟨g, 3, none⟩ = some a3 ∧ w.cell? ⟨g, 4, none⟩ = some a4 ∧ w.cell? ⟨g, 5, none⟩ = some a5 ∧
    w.cell? ⟨g, 6, none⟩ = some a6 ∧ w.cell? ⟨g, 7, none⟩ = some a7 ∧ w.cell? ⟨g, 8, none⟩ = some a8 ∧ w.cell? ⟨g, 9, none⟩ = some a9 ∧ w.cell? ⟨g, 10, none⟩ = some a10 ∧ w.cell? ⟨g, 11, none⟩ = some a11 :=
  ⟨h.cell 0, h.cell 1, h.cell 2, h.cell 3, h.cell 4, h.cell 5, h.cell 6, h.cell 7, h.cell 8, h.cell 9, h.cell 10, h.cell 11⟩
theorem cells2 {w : World} {g : Nat} {t : TypeId} {a0 a1 : Value} (h : Blk w g t #[a0, a1]) : w.cell? ⟨g, 0, none⟩ = some a0 ∧ w.cell? ⟨g, 1, none⟩ = some a1 := ⟨h.cell 0, h.cell 1⟩
theorem cells3 {w : World} {g : Nat} {t : TypeId} {a0 a1 a2 : Value} (h : Blk w g t #[a0, a1, a2]) : w.cell? ⟨g, 0, none⟩ = some a0 ∧ w.cell? ⟨g, 1, none⟩ = some a1 ∧ w.cell? ⟨g, 2, none⟩ = some a2 := ⟨h.cell 0, h.cell 1, h.cell 2⟩
theorem blk_at {w : World} {H : Nat} {t : TypeId} {cs : Array Value} (hH : w.heap.size = H) : Blk (w.alloc (.cells cs t)) H t cs := heap_new_at w _ H hH

theorem none_any (A : Option Addr) (n c : Nat) (N : Int) (w : World) :
    Calls Try.prog 27 #[.agg #[.slice A n c, .int .i64 N]] w fun e w' => e = .returned (.bool (N == 0 && n == 0)) ∧ Below w.heap.size w w' := by
  by_cases h : N = 0
  · subst h
    by_cases hn : n = 0
    · subst hn
      go_enter Try.func27, Try.ntmps27
      go_wp2_with fail
      go_ret
      exact ⟨rfl, (Below.refl _ _).alloc (Nat.le_refl _) _⟩
    · have hd : ((n : Int) == 0) = false := by rw [beq_eq_false_iff_ne]; omega
      have hd2 : (n == 0) = false := by rw [beq_eq_false_iff_ne]; omega
      rw [hd2]
      clear hn
      go_enter Try.func27, Try.ntmps27
      go_wp2_with fail
      go_ret
      exact ⟨rfl, (Below.refl _ _).alloc (Nat.le_refl _) _⟩
  · have hd : (N == 0) = false := by rw [beq_eq_false_iff_ne]; omega
    rw [hd]
    clear h
    go_enter Try.func27, Try.ntmps27
    go_wp2_with fail
    go_ret
    exact ⟨rfl, (Below.refl _ _).alloc (Nat.le_refl _) _⟩

set_option maxRecDepth 100000 in
set_option maxHeartbeats 1000000 in
theorem plain_any (x : Nt) (A : Option Addr) (c : Nat) (w : World) :
    Calls Try.prog 20 #[nv x A c] w fun e w' => e = .returned (.bool (plB x)) ∧ Below w.heap.size w w' := by
  obtain ⟨k, e, s, t, v, cc, b, m, n, z, B, N⟩ := x
  unfold nv plB
  simp only
  obtain ⟨bl, hbl⟩ : ∃ n, B.length = n := ⟨_, rfl⟩
  rw [hbl]
  clear hbl
  have HN := Lib.hid (fun wx => none_any A bl c N wx)
  obtain ⟨y, hy⟩ : ∃ y : Bool, (N == 0 && bl == 0) = y := ⟨_, rfl⟩
  rw [hy] at HN
  rw [hy]
  clear hy
  by_cases h : n = 0
  · subst h
    cases z
    · go_enter Try.func20, Try.ntmps20
      go_wp2_with fail
      refine (HN.out _).mono ?_
      rintro e w1 ⟨rfl, hb1⟩
      go_wp2_with fail
      go_ret
      exact ⟨rfl, ((Below.refl _ _).alloc (Nat.le_refl _) _).trans (hb1.mono (by simp))⟩
    · go_enter Try.func20, Try.ntmps20
      go_wp2_with fail
      go_ret
      exact ⟨rfl, (Below.refl _ _).alloc (Nat.le_refl _) _⟩
  · have hd : (n == 0) = false := by rw [beq_eq_false_iff_ne]; omega
    rw [hd]
    clear h
    go_enter Try.func20, Try.ntmps20
    go_wp2_with fail
    go_ret
    exact ⟨rfl, (Below.refl _ _).alloc (Nat.le_refl _) _⟩

set_option maxRecDepth 100000 in
set_option maxHeartbeats 2000000 in
theorem may_one (x : Nt) (hk : x.k = 1) (A : Option Addr) (c : Nat) (w : World) :
    Calls Try.prog 11 #[nv x A c] w fun e w' => e = .returned (.bool (mayB x)) ∧ Below w.heap.size w w' := by
  obtain ⟨k, e, s, t, v, cc, b, m, n, z, B, N⟩ := x
  simp only at hk
  subst hk
  have HP := Lib.hid (fun wx => plain_any ⟨1, e, s, t, v, cc, b, m, n, z, B, N⟩ A c wx)
  obtain ⟨y, hy⟩ : ∃ y : Bool, plB ⟨1, e, s, t, v, cc, b, m, n, z, B, N⟩ = y := ⟨_, rfl⟩
  unfold mayB
  unfold nv at HP ⊢
  rw [hy] at HP
  rw [hy]
  simp only [if_true] at HP ⊢
  obtain ⟨bl, hbl⟩ : ∃ n, B.length = n := ⟨_, rfl⟩
  rw [hbl] at HP ⊢
  clear hbl hy
  go_enter Try.func11, Try.ntmps11
  go_wp2_with fail
  refine (HP.out _).mono ?_
  rintro e w1 ⟨rfl, hb1⟩
  have x0 := cells12 (((Blk.new w _ _).alloc _).below hb1 (by simp; omega))
  have x1 := cells2 ((blk_at (H := w.heap.size + 1) (by simp)).below hb1 (by simp))
  have hbw : Below w.heap.size w w1 := (((Below.refl _ _).alloc (Nat.le_refl _) _).alloc (by simp) _).trans (hb1.mono (by simp; omega))
  clear hb1 HP
  cases y
  · go_wp2_with fail
    go_ret
    exact ⟨rfl, hbw⟩
  · go_wp2_with fail
    all_goals
      clear x0 x1
      go_ret
      refine ⟨ret_bool ?_, hbw⟩
      clear hbw
      simp [*]

set_option maxRecDepth 100000 in
set_option maxHeartbeats 2000000 in
theorem may_two (x : Nt) (hk : x.k = 2) (A : Option Addr) (c : Nat) (w : World) :
    Calls Try.prog 11 #[nv x A c] w fun e w' => e = .returned (.bool (mayB x)) ∧ Below w.heap.size w w' := by
  obtain ⟨k, e, s, t, v, cc, b, m, n, z, B, N⟩ := x
  simp only at hk
  subst hk
  have HP := Lib.hid (fun wx => plain_any ⟨2, e, s, t, v, cc, b, m, n, z, B, N⟩ A c wx)
  obtain ⟨y, hy⟩ : ∃ y : Bool, plB ⟨2, e, s, t, v, cc, b, m, n, z, B, N⟩ = y := ⟨_, rfl⟩
  unfold mayB
  unfold nv at HP ⊢
  rw [hy] at HP
  rw [hy]
  simp only [show ¬ (2 : Int) = 1 from by decide, if_false, if_true] at HP ⊢
  obtain ⟨bl, hbl⟩ : ∃ n, B.length = n := ⟨_, rfl⟩
  rw [hbl] at HP ⊢
  clear hbl hy
  go_enter Try.func11, Try.ntmps11
  go_wp2_with fail
  refine (HP.out _).mono ?_
  rintro e w1 ⟨rfl, hb1⟩
  have x0 := cells12 (((Blk.new w _ _).alloc _).below hb1 (by simp; omega))
  have x1 := cells2 ((blk_at (H := w.heap.size + 1) (by simp)).below hb1 (by simp))
  have hbw : Below w.heap.size w w1 := (((Below.refl _ _).alloc (Nat.le_refl _) _).alloc (by simp) _).trans (hb1.mono (by simp; omega))
  clear hb1 HP
  cases y
  · go_wp2_with fail
    go_ret
    exact ⟨rfl, hbw⟩
  · go_wp2_with fail
    all_goals
      clear x0 x1
      go_ret
      refine ⟨ret_bool ?_, hbw⟩
      clear hbw
      simp [*]

set_option maxRecDepth 100000 in
set_option maxHeartbeats 2000000 in
theorem may_three (x : Nt) (hk : x.k = 3) (A : Option Addr) (c : Nat) (w : World) :
    Calls Try.prog 11 #[nv x A c] w fun e w' => e = .returned (.bool (mayB x)) ∧ Below w.heap.size w w' := by
  obtain ⟨k, e, s, t, v, cc, b, m, n, z, B, N⟩ := x
  simp only at hk
  subst hk
  have HP := Lib.hid (fun wx => plain_any ⟨3, e, s, t, v, cc, b, m, n, z, B, N⟩ A c wx)
  obtain ⟨y, hy⟩ : ∃ y : Bool, plB ⟨3, e, s, t, v, cc, b, m, n, z, B, N⟩ = y := ⟨_, rfl⟩
  unfold mayB
  unfold nv at HP ⊢
  rw [hy] at HP
  rw [hy]
  simp only [show ¬ (3 : Int) = 1 from by decide, if_false, show ¬ (3 : Int) = 2 from by decide, if_true] at HP ⊢
  obtain ⟨bl, hbl⟩ : ∃ n, B.length = n := ⟨_, rfl⟩
  rw [hbl] at HP ⊢
  clear hbl hy
  go_enter Try.func11, Try.ntmps11
  go_wp2_with fail
  refine (HP.out _).mono ?_
  rintro e w1 ⟨rfl, hb1⟩
  have x0 := cells12 (((Blk.new w _ _).alloc _).below hb1 (by simp; omega))
  have x1 := cells2 ((blk_at (H := w.heap.size + 1) (by simp)).below hb1 (by simp))
  have hbw : Below w.heap.size w w1 := (((Below.refl _ _).alloc (Nat.le_refl _) _).alloc (by simp) _).trans (hb1.mono (by simp; omega))
  clear hb1 HP
  cases y
  · go_wp2_with fail
    go_ret
    exact ⟨rfl, hbw⟩
  · go_wp2_with fail
    all_goals
      clear x0 x1
      go_ret
      refine ⟨ret_bool ?_, hbw⟩
      clear hbw
      simp [*]

set_option maxRecDepth 100000 in
set_option maxHeartbeats 2000000 in
theorem may_four (x : Nt) (hx : x.Ok) (hl : (x.B.length : Int) ≤ 1000000) (hk : x.k = 4) (A : Option Addr) (c : Nat) (w : World) (hr : Rd w A x.B) :
    Calls Try.prog 11 #[nv x A c] w fun e w' => e = .returned (.bool (mayB x)) ∧ Below w.heap.size w w' := by
  obtain ⟨k, e, s, t, v, cc, b, m, n, z, B, N⟩ := x
  simp only at hk
  subst hk
  have HS := Lib.hid (fun wx (h : Rd wx A B) => sound_any A c B N wx h hx.2.2.2.2.2.2.2.2.2.1 hx.2.2.2.2.2.2.2.2.2.2 (by simp only at hl; omega))
  unfold mayB
  unfold nv
  simp only [show ¬ (4 : Int) = 1 from by decide, if_false, show ¬ (4 : Int) = 2 from by decide, show ¬ (4 : Int) = 3 from by decide, if_true] at hl hr ⊢
  obtain ⟨y, hy⟩ : ∃ y : Bool, sndB B N = y := ⟨_, rfl⟩
  obtain ⟨bl, hbl⟩ : ∃ n, B.length = n := ⟨_, rfl⟩
  rw [hbl] at HS hl ⊢
  rw [hy] at HS ⊢
  clear hbl hy hx
  go_enter Try.func11, Try.ntmps11
  go_wp2_with ((with_reducible refine (HS.out _ ((hr.alloc _).alloc _)).mono ?_); rintro e w1 ⟨rfl, hb1⟩)
  all_goals
    go_ret
    refine ⟨ret_bool ?_, by first | exact (((Below.refl _ _).alloc (Nat.le_refl _) _).alloc (by simp) _) | exact (((Below.refl _ _).alloc (Nat.le_refl _) _).alloc (by simp) _).trans (hb1.mono (by simp; omega))⟩
    clear hr HS
    first
      | (have d1 : ¬ bl ≤ 500 := (by omega); simp [d1]; done)
      | (have d1 : ¬ 0 < N := (by omega); simp [d1]; done)
      | (have d1 : ¬ m < n := (by omega); simp [d1]; done)
      | (have d1 : bl ≤ 500 := (by omega); simp [*]; done)
      | (simp [*]; done)

set_option maxRecDepth 100000 in
set_option maxHeartbeats 2000000 in
theorem may_other (x : Nt) (hx : x.Ok) (h1 : ¬ x.k = 1) (h2 : ¬ x.k = 2) (h3 : ¬ x.k = 3) (h4 : ¬ x.k = 4) (A : Option Addr) (c : Nat) (w : World) :
    Calls Try.prog 11 #[nv x A c] w fun e w' => e = .returned (.bool (mayB x)) ∧ Below w.heap.size w w' := by
  obtain ⟨k, e, s, t, v, cc, b, m, n, z, B, N⟩ := x
  simp only at h1 h2 h3 h4
  have d1 : (k == 1) = false := by rw [beq_eq_false_iff_ne]; exact h1
  have d2 : (k == 2) = false := by rw [beq_eq_false_iff_ne]; exact h2
  have d3 : (k == 3) = false := by rw [beq_eq_false_iff_ne]; exact h3
  have d4 : (k == 4) = false := by rw [beq_eq_false_iff_ne]; exact h4
  have hm : mayB ⟨k, e, s, t, v, cc, b, m, n, z, B, N⟩ = false := by unfold mayB; rw [if_neg h1, if_neg h2, if_neg h3, if_neg h4]
  rw [hm]
  unfold nv
  simp only
  obtain ⟨bl, hbl⟩ : ∃ n, B.length = n := ⟨_, rfl⟩
  rw [hbl]
  clear hbl hx hm h1 h2 h3 h4
  go_enter Try.func11, Try.ntmps11
  go_wp2_with fail
  go_ret
  exact ⟨rfl, ((Below.refl _ _).alloc (Nat.le_refl _) _).alloc (by simp) _⟩

theorem may_any (x : Nt) (hx : x.Ok) (hl : (x.B.length : Int) ≤ 1000000) (A : Option Addr) (c : Nat) (w : World) (hr : Rd w A x.B) :
    Calls Try.prog 11 #[nv x A c] w fun e w' => e = .returned (.bool (mayB x)) ∧ Below w.heap.size w w' := by
  by_cases h1 : x.k = 1
  · exact may_one x h1 A c w
  by_cases h2 : x.k = 2
  · exact may_two x h2 A c w
  by_cases h3 : x.k = 3
  · exact may_three x h3 A c w
  by_cases h4 : x.k = 4
  · exact may_four x hx hl h4 A c w hr
  · exact may_other x hx h1 h2 h3 h4 A c w
end Go.Proofs.Ytokolgelmikfmaa
