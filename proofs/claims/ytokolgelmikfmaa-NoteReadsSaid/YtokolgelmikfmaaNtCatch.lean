/-
  note.Decode's deferred closure: a panic with short is caught.
-/
import Derived.Test.YtokolgelmikfmaaNtRead
import Derived.Defers
import Derived.Recover
namespace Go.Proofs.Ytokolgelmikfmaa
open Go.RowKit Pl
set_option linter.unusedVariables false

theorem nil_no (w : World) : (binOp .eql 20 (.iface 57 (.agg #[])) .nilIface).run Try.prog w = .ok (.bool false) w := by kernel_rfl
theorem nil_yes (w : World) : (binOp .eql 20 .nilIface .nilIface).run Try.prog w = .ok (.bool true) w := by kernel_rfl
theorem assert_short (w : World) : (Instr.typeAssert (.iface 57 (.agg #[])) 20 57 true).run Try.prog w = .ok (.tuple #[.agg #[], .bool true]) w := by kernel_rfl

theorem blk_put {w : World} {g i : Nat} {t : TypeId} {cs cs' : Array Value} {u : Value} (h : Blk w g t cs) (e : cs.setIfInBounds i u = cs') : Blk (w.setCell ⟨g, i, none⟩ u) g t cs' := e ▸ h.set_ i u
theorem blk_set12 {w : World} {g : Nat} {t : TypeId} {a0 a1 a2 a3 a4 a5 a6 a7 a8 a9 a10 a11 : Value} (h : Blk w g t #[a0, a1, a2, a3, a4, a5, a6, a7, a8, a9, a10, a11]) (b0 b1 b2 b3 b4 b5 b6 b7 b8 b9 b10 b11 : Value) :
    Blk ((((((((((((w.setCell ⟨g, 0, none⟩ b0).setCell ⟨g, 1, none⟩ b1).setCell ⟨g, 2, none⟩ b2).setCell ⟨g, 3, none⟩ b3).setCell ⟨g, 4, none⟩ b4).setCell ⟨g, 5, none⟩ b5).setCell ⟨g, 6, none⟩ b6).setCell ⟨g, 7, none⟩ b7).setCell ⟨g, 8, none⟩ b8).setCell ⟨g, 9, none⟩ b9).setCell ⟨g, 10, none⟩ b10).setCell ⟨g, 11, none⟩ b11) g t #[b0, b1, b2, b3, b4, b5, b6, b7, b8, b9, b10, b11] := by
  have h0 := blk_put (i := 0) (u := b0) (cs' := #[b0, a1, a2, a3, a4, a5, a6, a7, a8, a9, a10, a11]) h (by simp)
  have h1 := blk_put (i := 1) (u := b1) (cs' := #[b0, b1, a2, a3, a4, a5, a6, a7, a8, a9, a10, a11]) h0 (by simp)
  have h2 := blk_put (i := 2) (u := b2) (cs' := #[b0, b1, b2, a3, a4, a5, a6, a7, a8, a9, a10, a11]) h1 (by simp)
  have h3 := blk_put (i := 3) (u := b3) (cs' := #[b0, b1, b2, b3, a4, a5, a6, a7, a8, a9, a10, a11]) h2 (by simp)
  have h4 := blk_put (i := 4) (u := b4) (cs' := #[b0, b1, b2, b3, b4, a5, a6, a7, a8, a9, a10, a11]) h3 (by simp)
  have h5 := blk_put (i := 5) (u := b5) (cs' := #[b0, b1, b2, b3, b4, b5, a6, a7, a8, a9, a10, a11]) h4 (by simp)
  have h6 := blk_put (i := 6) (u := b6) (cs' := #[b0, b1, b2, b3, b4, b5, b6, a7, a8, a9, a10, a11]) h5 (by simp)
  have h7 := blk_put (i := 7) (u := b7) (cs' := #[b0, b1, b2, b3, b4, b5, b6, b7, a8, a9, a10, a11]) h6 (by simp)
  have h8 := blk_put (i := 8) (u := b8) (cs' := #[b0, b1, b2, b3, b4, b5, b6, b7, b8, a9, a10, a11]) h7 (by simp)
  have h9 := blk_put (i := 9) (u := b9) (cs' := #[b0, b1, b2, b3, b4, b5, b6, b7, b8, b9, a10, a11]) h8 (by simp)
  have h10 := blk_put (i := 10) (u := b10) (cs' := #[b0, b1, b2, b3, b4, b5, b6, b7, b8, b9, b10, a11]) h9 (by simp)
  have h11 := blk_put (i := 11) (u := b11) (cs' := #[b0, b1, b2, b3, b4, b5, b6, b7, b8, b9, b10, b11]) h10 (by simp)
  exact h11
theorem below_set12 {B : Nat} {a w : World} {g : Nat} (h : Below B a w) (hg : B ≤ g) (b0 b1 b2 b3 b4 b5 b6 b7 b8 b9 b10 b11 : Value) :
    Below B a ((((((((((((w.setCell ⟨g, 0, none⟩ b0).setCell ⟨g, 1, none⟩ b1).setCell ⟨g, 2, none⟩ b2).setCell ⟨g, 3, none⟩ b3).setCell ⟨g, 4, none⟩ b4).setCell ⟨g, 5, none⟩ b5).setCell ⟨g, 6, none⟩ b6).setCell ⟨g, 7, none⟩ b7).setCell ⟨g, 8, none⟩ b8).setCell ⟨g, 9, none⟩ b9).setCell ⟨g, 10, none⟩ b10).setCell ⟨g, 11, none⟩ b11) :=
  (((((((((((h.setCell (p := ⟨g, 0, none⟩) hg b0).setCell (p := ⟨g, 1, none⟩) hg b1).setCell (p := ⟨g, 2, none⟩) hg b2).setCell (p := ⟨g, 3, none⟩) hg b3).setCell (p := ⟨g, 4, none⟩) hg b4).setCell (p := ⟨g, 5, none⟩) hg b5).setCell (p := ⟨g, 6, none⟩) hg b6).setCell (p := ⟨g, 7, none⟩) hg b7).setCell (p := ⟨g, 8, none⟩) hg b8).setCell (p := ⟨g, 9, none⟩) hg b9).setCell (p := ⟨g, 10, none⟩) hg b10).setCell (p := ⟨g, 11, none⟩) hg b11
theorem far_set12 {w : World} {k : Nat} {t : TypeId} {cs : Array Value} {g : Nat} (h : Blk w k t cs) (hg : k ≠ g) (b0 b1 b2 b3 b4 b5 b6 b7 b8 b9 b10 b11 : Value) :
    Blk ((((((((((((w.setCell ⟨g, 0, none⟩ b0).setCell ⟨g, 1, none⟩ b1).setCell ⟨g, 2, none⟩ b2).setCell ⟨g, 3, none⟩ b3).setCell ⟨g, 4, none⟩ b4).setCell ⟨g, 5, none⟩ b5).setCell ⟨g, 6, none⟩ b6).setCell ⟨g, 7, none⟩ b7).setCell ⟨g, 8, none⟩ b8).setCell ⟨g, 9, none⟩ b9).setCell ⟨g, 10, none⟩ b10).setCell ⟨g, 11, none⟩ b11) k t cs :=
  (((((((((((h.far (p := ⟨g, 0, none⟩) hg b0).far (p := ⟨g, 1, none⟩) hg b1).far (p := ⟨g, 2, none⟩) hg b2).far (p := ⟨g, 3, none⟩) hg b3).far (p := ⟨g, 4, none⟩) hg b4).far (p := ⟨g, 5, none⟩) hg b5).far (p := ⟨g, 6, none⟩) hg b6).far (p := ⟨g, 7, none⟩) hg b7).far (p := ⟨g, 8, none⟩) hg b8).far (p := ⟨g, 9, none⟩) hg b9).far (p := ⟨g, 10, none⟩) hg b10).far (p := ⟨g, 11, none⟩) hg b11
theorem own_set12 {w : World} {base n : Nat} {e : TypeId} {v : Value} {xs : List Value} (h : w.ownsRow base e 1 v n xs) {g : Nat} (hg : v.ownBlock ≠ some g) (b0 b1 b2 b3 b4 b5 b6 b7 b8 b9 b10 b11 : Value) :
    ((((((((((((w.setCell ⟨g, 0, none⟩ b0).setCell ⟨g, 1, none⟩ b1).setCell ⟨g, 2, none⟩ b2).setCell ⟨g, 3, none⟩ b3).setCell ⟨g, 4, none⟩ b4).setCell ⟨g, 5, none⟩ b5).setCell ⟨g, 6, none⟩ b6).setCell ⟨g, 7, none⟩ b7).setCell ⟨g, 8, none⟩ b8).setCell ⟨g, 9, none⟩ b9).setCell ⟨g, 10, none⟩ b10).setCell ⟨g, 11, none⟩ b11).ownsRow base e 1 v n xs :=
  own_far (own_far (own_far (own_far (own_far (own_far (own_far (own_far (own_far (own_far (own_far (own_far h hg b0) hg b1) hg b2) hg b3) hg b4) hg b5) hg b6) hg b7) hg b8) hg b9) hg b10) hg b11

/-- What a caught panic leaves: no note, the error. -/
def Caught (B gn ge : Nat) (w w' : World) : Prop :=
  Blk w' gn 32 #[.int .u8 0, .int .u32 0, .int .u32 0, .int .i64 0, .int .u64 0, .int .u32 0, .int .u32 0, .int .u32 0, .int .u32 0, .bool false, .slice none 0 0, .int .i64 0] ∧ Blk w' ge 35 #[.int .u16 110] ∧ Below B w w'

set_option maxRecDepth 100000 in
set_option maxHeartbeats 2000000 in
theorem catch_short (B gn ge : Nat) (a0 a1 a2 a3 a4 a5 a6 a7 a8 a9 a10 a11 b0 : Value) (w : World) (hn : Blk w gn 32 #[a0, a1, a2, a3, a4, a5, a6, a7, a8, a9, a10, a11]) (he : Blk w ge 35 #[b0]) (hBn : B ≤ gn) (hBe : B ≤ ge) :
    CallsD Try.prog 23 #[.pointer (some ⟨gn, 0, none⟩), .pointer (some ⟨ge, 0, none⟩)] (.panicking ({ v := .iface 57 (.agg #[]), recovered := false } :: [])) w fun e u' w' =>
      e = .returned (.tuple #[]) ∧ u' = .panicking ({ v := .iface 57 (.agg #[]), recovered := true } :: []) ∧ Caught B gn ge w w' := by
  have x0 := cells12 hn
  have e0 := he.cell 0
  have xf := hn.frozen
  have ef := he.frozen
  have l1 := hn.lt
  have l2 := he.lt
  have hne : ¬ gn = ge := hn.ne_ he (by decide)
  have hne' : ¬ ge = gn := fun h => hne h.symm
  have HN := Lib.hid hn
  have HE := Lib.hid he
  clear hn he
  refine callsD_of_wpS Try.func23 rfl fun c₀ cs hu => ?_
  apply wpS_seq
  apply wpS_region
  simp [wpOpsS, go_sem, recoverD, hu, Try.ntmps23, Exit.thenS]
  apply wpS_of_wp
  have q1 := nil_no
  have q2 := assert_short
  go_wp2
  refine ⟨rfl, _, rfl, .tuple #[], by simp [results, Try.results23], rfl, rfl, ?_, ?_, ?_⟩
  · exact ((blk_set12 HN.out _ _ _ _ _ _ _ _ _ _ _ _).far (p := ⟨ge, 0, none⟩) hne _).alloc _
  · exact (blk_put (far_set12 HE.out hne' _ _ _ _ _ _ _ _ _ _ _ _) rfl).alloc _
  · exact ((below_set12 (Below.refl _ _) hBn _ _ _ _ _ _ _ _ _ _ _ _).setCell (p := ⟨ge, 0, none⟩) hBe _).alloc (by simp; omega) _

theorem catch_idle (pn pe : Value) (w : World) :
    CallsD Try.prog 23 #[pn, pe] .returning w fun e u' w' => e = .returned (.tuple #[]) ∧ u' = .returning ∧ w' = w := by
  refine callsD_of_wpS Try.func23 rfl fun c₀ cs hu => ?_
  apply wpS_seq
  apply wpS_region
  simp [wpOpsS, go_sem, recoverD, hu, Try.ntmps23, Exit.thenS]
  apply wpS_of_wp
  have q1 := nil_yes
  go_wp2
  exact ⟨rfl, .returning, by rw [← hu], .tuple #[], by simp [results, Try.results23], rfl, rfl, rfl⟩
end Go.Proofs.Ytokolgelmikfmaa
