/-
  The reference's Same, of notes.
-/
import Derived.Test.YtokolgelmikfmaaNtMay
import Derived.Test.YtokolgelmikfmaaSame
namespace Go.Proofs.Ytokolgelmikfmaa
open Go.RowKit Pl
set_option linter.unusedVariables false

/-- Are notes alike? -/
def sameB (x y : Nt) : Bool := x.k == y.k && (x.e == y.e && (x.s == y.s && ((x.t == y.t && x.v == y.v) && ((x.c == y.c && (x.b == y.b && x.m == y.m)) && (x.n == y.n && (x.z == y.z && (decide (x.N = y.N) && decide (x.B = y.B))))))))
theorem sameB_iff (x y : Nt) : sameB x y = true ↔ x = y := by
  obtain ⟨k, e, s, t, v, c, b, m, n, z, B, N⟩ := x
  obtain ⟨k', e', s', t', v', c', b', m', n', z', B', N'⟩ := y
  simp only [sameB, Bool.and_eq_true, beq_iff_eq, decide_eq_true_eq, Nt.mk.injEq]
  constructor
  · rintro ⟨h1, h2, h3, ⟨h4, h5⟩, ⟨h6, h7, h8⟩, h9, h10, h11, h12⟩
    exact ⟨h1, h2, h3, h4, h5, h6, h7, h8, h9, h10, h12, h11⟩
  · rintro ⟨h1, h2, h3, h4, h5, h6, h7, h8, h9, h10, h12, h11⟩
    exact ⟨h1, h2, h3, ⟨h4, h5⟩, ⟨h6, h7, h8⟩, h9, h10, h11, h12⟩

set_option maxRecDepth 100000 in
set_option maxHeartbeats 4000000 in
theorem rnsame_any (x y : Nt) (hx : Byts x.B) (hy : Byts y.B) (A A' : Option Addr) (c c' : Nat) (w : World) (hr : Rd w A x.B) (hr' : Rd w A' y.B) :
    Calls Try.prog 15 #[nv x A c, nv y A' c'] w fun e w' => e = .returned (.bool (sameB x y)) ∧ Below w.heap.size w w' := by
  obtain ⟨k, e, s, t, v, cc, b, m, n, z, B, N⟩ := x
  obtain ⟨k', e', s', t', v', cc', b', m', n', z', B', N'⟩ := y
  simp only at hx hy hr hr'
  have HS := Lib.hid (fun wx (h : Rd wx A B) (h' : Rd wx A' B') => same_any A A' c c' B B' N N' wx h h' hx hy)
  unfold nv sameB
  simp only
  obtain ⟨q, hq⟩ : ∃ q : Bool, (decide (N = N') && decide (B = B')) = q := ⟨_, rfl⟩
  obtain ⟨bl, hbl⟩ : ∃ n, B.length = n := ⟨_, rfl⟩
  obtain ⟨bl', hbl'⟩ : ∃ n, B'.length = n := ⟨_, rfl⟩
  rw [hbl, hbl', hq] at HS
  rw [hbl, hbl', hq]
  clear hbl hbl' hq hx hy
  go_enter Try.func15, Try.ntmps15
  go_wp2_with ((with_reducible refine (HS.out _ ((hr.alloc _).alloc _) ((hr'.alloc _).alloc _)).mono ?_); rintro e w1 ⟨rfl, hb1⟩)
  all_goals
    go_ret
    refine ⟨ret_bool ?_, by first | exact (((Below.refl _ _).alloc (Nat.le_refl _) _).alloc (by simp) _) | exact (((Below.refl _ _).alloc (Nat.le_refl _) _).alloc (by simp) _).trans (hb1.mono (by simp; omega))⟩
    clear hr hr' HS
    simp [*]
end Go.Proofs.Ytokolgelmikfmaa
