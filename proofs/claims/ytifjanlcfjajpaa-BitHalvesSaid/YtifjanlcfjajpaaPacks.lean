/-
  Words that the laws share: a new box; Same of bits that are told as lists.
-/
import Derived.Test.YtifjanlcfjajpaaBoth
namespace Go.Proofs.Ytifjanlcfjajpaa
open Go.RowKit Pl
set_option linter.unusedVariables false

theorem genBlk {w : World} {t : TypeId} {cs : Array Value} : Blk (w.alloc (.cells cs t)) w.heap.size t cs := Blk.new w t cs

/-- Same, of bits that are told as lists. -/
theorem same_packs {A1 A2 : Option Addr} {c1 c2 : Nat} {B1 B2 : List Int} {L1 L2 : List Bool} {n1 n2 : Nat} (p1 : Packs B1 L1) (p2 : Packs B2 L2) (l1 : L1.length = n1) (l2 : L2.length = n2) (b : Bool) (hb : decide (L1 = L2) = b) (w : World) (h1 : Rd w A1 B1) (h2 : Rd w A2 B2) :
    Calls Try.prog 15 #[.agg #[.slice A1 B1.length c1, .int .i64 (n1 : Int)], .agg #[.slice A2 B2.length c2, .int .i64 (n2 : Int)]] w fun e w' => e = .returned (.bool b) ∧ Below w.heap.size w w' := by
  refine (same_any A1 A2 c1 c2 B1 B2 (n1 : Int) (n2 : Int) w h1 h2 p1.byts p2.byts).mono fun e w' h => ⟨?_, h.2⟩
  rw [h.1, ← hb, ← Bool.decide_and]
  have := packs_iff p1 p2
  rw [l1, l2] at this
  exact congrArg (fun b => Ending.returned (.bool b)) (decide_eq_decide.2 (by rw [Int.natCast_inj]; exact this))

/-- The two cells of a box stay behind a call that turns nothing old. -/
theorem box2 {W w' : World} {g : Nat} {x0 x1 : Value} (hb : Below W.heap.size W w') (hg : g < W.heap.size) (hx : W.cell? ⟨g, 0, none⟩ = some x0 ∧ W.cell? ⟨g, 1, none⟩ = some x1) : w'.cell? ⟨g, 0, none⟩ = some x0 ∧ w'.cell? ⟨g, 1, none⟩ = some x1 :=
  ⟨(hb.cell (p := ⟨g, 0, none⟩) hg).trans hx.1, (hb.cell (p := ⟨g, 1, none⟩) hg).trans hx.2⟩

end Go.Proofs.Ytifjanlcfjajpaa
