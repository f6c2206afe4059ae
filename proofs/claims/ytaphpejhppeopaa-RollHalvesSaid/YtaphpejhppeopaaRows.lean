/-
  No cell of these rows narrows 'for every input' (looked for: loops, veiled, ifaces, maps, wideKeys, modest, calm, conditions, laid).
  DERIVED. THE GIVEN ROWS OF THIS SEAT. 5 by the template 'for every input the law returns true; each argument reads behind the call as it read before'; 0 by the template 'total and deterministic' (their statements: YtaphpejhppeopaaTotals.lean).
  GIVEN WITH THE SEED: the statements are not yours to turn. If you find one false, say at which input.
  Laid BY PROGRAM, IN A SANDBOX (cutbox-rows.mjs): the forced cells as the released guide's own fill.sh prints them over the translation 43339c27abb3f75f… (all of the seat's roots in one cut). By AI agents, Wed Nov 11 2026. No macro, syntax, notation, axiom, sorry.
-/
import Derived.Test.YtaphpejhppeopaaChecked
import GoSem.Claim
import GoSem.ClaimJoined
import GoSem.ClaimMapViews
import Derived.JoinedTies
import Derived.KernelRfl
namespace Go.Proofs.Ytaphpejhppeopaa
/- THE CELL 'sum', in the pinned program and in every row, IS THE sha256 OF THE DUMP (.gsa) THAT YtaphpejhppeopaaProg.lean LOADS. Nothing in Lean hashes anything: it is a label: what it is worth is what the hold of that sum in a sandbox is worth. -/
noncomputable def Try.pinned : Pinned := { name := "ytaphpejhppeopaa", sum := "43339c27abb3f75f670501ceb4ff966b823848e442b943db070b3cc11066fe19", checked := Try.checked }
namespace Rows
def none {H : Type} : Left H := { results := [], args := [] }

/-- 'draymanlaw05.RollNexts': WHATEVER THE INPUT: true; the input reads as it did. -/
def rollNextsSpec : ChangeSpec := { name := "rollNexts", fn := fun _ => fun
  | [d1, d2, d3, d4] => { results := [.lit (.bool true)], args := [d1, d2, d3, d4] }
  | _ => none }
def rollNextsRow : OpenClaim := { program := "ytaphpejhppeopaa", sum := "43339c27abb3f75f670501ceb4ff966b823848e442b943db070b3cc11066fe19", func := "drayman/draymanlaw05.RollNexts", spec := "rollNexts", named := ["math/bits.divideError", "math/bits.overflowError"], apart := false }
def RollNextsSaid : Prop := rollNextsRow.holds Try.pinned (OpenSpec.ofChange rollNextsSpec)

/-- ITS FALSE NEIGHBOUR: 'it returns false'. Refute it at one input. -/
def rollNextsWrong : ChangeSpec := { name := "rollNexts", fn := fun _ => fun
  | [d1, d2, d3, d4] => { results := [.lit (.bool false)], args := [d1, d2, d3, d4] }
  | _ => none }
def RollNextsWrongFalsely : Prop := rollNextsRow.holds Try.pinned (OpenSpec.ofChange rollNextsWrong)

/-- 'draymanlaw05.RollSums': WHATEVER THE INPUT: true; the input reads as it did. -/
def rollSumsSpec : ChangeSpec := { name := "rollSums", fn := fun _ => fun
  | [d1, d2] => { results := [.lit (.bool true)], args := [d1, d2] }
  | _ => none }
def rollSumsRow : OpenClaim := { program := "ytaphpejhppeopaa", sum := "43339c27abb3f75f670501ceb4ff966b823848e442b943db070b3cc11066fe19", func := "drayman/draymanlaw05.RollSums", spec := "rollSums", named := ["math/bits.divideError", "math/bits.overflowError"], apart := false }
def RollSumsSaid : Prop := rollSumsRow.holds Try.pinned (OpenSpec.ofChange rollSumsSpec)

/-- ITS FALSE NEIGHBOUR: 'it returns false'. Refute it at one input. -/
def rollSumsWrong : ChangeSpec := { name := "rollSums", fn := fun _ => fun
  | [d1, d2] => { results := [.lit (.bool false)], args := [d1, d2] }
  | _ => none }
def RollSumsWrongFalsely : Prop := rollSumsRow.holds Try.pinned (OpenSpec.ofChange rollSumsWrong)

/-- 'draymanlaw05.RollTurns': WHATEVER THE INPUT: true; the input reads as it did. -/
def rollTurnsSpec : ChangeSpec := { name := "rollTurns", fn := fun _ => fun
  | [d1, d2, d3] => { results := [.lit (.bool true)], args := [d1, d2, d3] }
  | _ => none }
def rollTurnsRow : OpenClaim := { program := "ytaphpejhppeopaa", sum := "43339c27abb3f75f670501ceb4ff966b823848e442b943db070b3cc11066fe19", func := "drayman/draymanlaw05.RollTurns", spec := "rollTurns", named := ["math/bits.divideError", "math/bits.overflowError"], apart := false }
def RollTurnsSaid : Prop := rollTurnsRow.holds Try.pinned (OpenSpec.ofChange rollTurnsSpec)

/-- ITS FALSE NEIGHBOUR: 'it returns false'. Refute it at one input. -/
def rollTurnsWrong : ChangeSpec := { name := "rollTurns", fn := fun _ => fun
  | [d1, d2, d3] => { results := [.lit (.bool false)], args := [d1, d2, d3] }
  | _ => none }
def RollTurnsWrongFalsely : Prop := rollTurnsRow.holds Try.pinned (OpenSpec.ofChange rollTurnsWrong)

/-- 'draymanlaw05.RollJoins': WHATEVER THE INPUT: true; the input reads as it did. -/
def rollJoinsSpec : ChangeSpec := { name := "rollJoins", fn := fun _ => fun
  | [d1, d2, d3, d4, d5] => { results := [.lit (.bool true)], args := [d1, d2, d3, d4, d5] }
  | _ => none }
def rollJoinsRow : OpenClaim := { program := "ytaphpejhppeopaa", sum := "43339c27abb3f75f670501ceb4ff966b823848e442b943db070b3cc11066fe19", func := "drayman/draymanlaw05.RollJoins", spec := "rollJoins", named := ["math/bits.divideError", "math/bits.overflowError"], apart := false }
def RollJoinsSaid : Prop := rollJoinsRow.holds Try.pinned (OpenSpec.ofChange rollJoinsSpec)

/-- ITS FALSE NEIGHBOUR: 'it returns false'. Refute it at one input. -/
def rollJoinsWrong : ChangeSpec := { name := "rollJoins", fn := fun _ => fun
  | [d1, d2, d3, d4, d5] => { results := [.lit (.bool false)], args := [d1, d2, d3, d4, d5] }
  | _ => none }
def RollJoinsWrongFalsely : Prop := rollJoinsRow.holds Try.pinned (OpenSpec.ofChange rollJoinsWrong)

/-- 'draymanlaw05.RollHalves': WHATEVER THE INPUT: true; the input reads as it did. -/
def rollHalvesSpec : ChangeSpec := { name := "rollHalves", fn := fun _ => fun
  | [d1, d2] => { results := [.lit (.bool true)], args := [d1, d2] }
  | _ => none }
def rollHalvesRow : OpenClaim := { program := "ytaphpejhppeopaa", sum := "43339c27abb3f75f670501ceb4ff966b823848e442b943db070b3cc11066fe19", func := "drayman/draymanlaw05.RollHalves", spec := "rollHalves", named := ["math/bits.divideError", "math/bits.overflowError"], apart := false }
def RollHalvesSaid : Prop := rollHalvesRow.holds Try.pinned (OpenSpec.ofChange rollHalvesSpec)

/-- ITS FALSE NEIGHBOUR: 'it returns false'. Refute it at one input. -/
def rollHalvesWrong : ChangeSpec := { name := "rollHalves", fn := fun _ => fun
  | [d1, d2] => { results := [.lit (.bool false)], args := [d1, d2] }
  | _ => none }
def RollHalvesWrongFalsely : Prop := rollHalvesRow.holds Try.pinned (OpenSpec.ofChange rollHalvesWrong)

/- THE SECOND FORM. 'bulk': how many values and letters a reading holds, each counted each time it is reached (what is shared counts as often as it is met; a slice's spare places count too). A statement '..UptoSaid' is the law's where the arguments, and the package variables that the reading takes, are together of bulk at most 1048576: NARROWER than '..Said'. Prove '..Said' where nothing that the law and all that it calls make is longer than what came in: it says more and counts as full. Else prove '..UptoSaid'. A law counts once. -/
mutual
def uptoBulk {H : Type} : DataW H → Nat
  | .lit (.string bytes) => bytes.length + 1
  | .lit _ => 1
  | .nil => 1
  | .ptr d => uptoBulk d + 1
  | .slice elems spare => uptoBulkAll elems + uptoBulkAll spare + 1
  | .agg parts => uptoBulkAll parts + 1
  | .iface _ d => uptoBulk d + 1
  | .map entries => uptoBulkEntries entries + 1
  | .held _ => 1
def uptoBulkAll {H : Type} : List (DataW H) → Nat
  | [] => 0
  | d :: r => uptoBulk d + uptoBulkAll r
def uptoBulkEntries {H : Type} : List (Lit × DataW H) → Nat
  | [] => 0
  | x :: r => uptoBulkEntry x + uptoBulkEntries r
def uptoBulkEntry {H : Type} : Lit × DataW H → Nat
  | (.string bytes, d) => bytes.length + uptoBulk d + 1
  | (_, d) => uptoBulk d + 1
 end
def uptoSmall : (H : Type) → List (DataW H) → Bool := fun _ ds => decide (uptoBulkAll ds ≤ 1048576)
def OpenSpec.upto (s : _root_.Go.ChangeSpec) : _root_.Go.OpenSpec := { _root_.Go.OpenSpec.ofChange s with cond := some uptoSmall }

/-- 'draymanlaw05.RollNexts', WHERE WHAT IT READS IS OF BULK AT MOST 1048576: true; the input reads as it did. -/
def rollNextsUptoRow : OpenClaim := { program := "ytaphpejhppeopaa", sum := "43339c27abb3f75f670501ceb4ff966b823848e442b943db070b3cc11066fe19", func := "drayman/draymanlaw05.RollNexts", spec := "rollNexts", named := ["math/bits.divideError", "math/bits.overflowError"], apart := false, narrowed := true }
def RollNextsUptoSaid : Prop := rollNextsUptoRow.holds Try.pinned (OpenSpec.upto rollNextsSpec)

/-- 'draymanlaw05.RollSums', WHERE WHAT IT READS IS OF BULK AT MOST 1048576: true; the input reads as it did. -/
def rollSumsUptoRow : OpenClaim := { program := "ytaphpejhppeopaa", sum := "43339c27abb3f75f670501ceb4ff966b823848e442b943db070b3cc11066fe19", func := "drayman/draymanlaw05.RollSums", spec := "rollSums", named := ["math/bits.divideError", "math/bits.overflowError"], apart := false, narrowed := true }
def RollSumsUptoSaid : Prop := rollSumsUptoRow.holds Try.pinned (OpenSpec.upto rollSumsSpec)

/-- 'draymanlaw05.RollTurns', WHERE WHAT IT READS IS OF BULK AT MOST 1048576: true; the input reads as it did. -/
def rollTurnsUptoRow : OpenClaim := { program := "ytaphpejhppeopaa", sum := "43339c27abb3f75f670501ceb4ff966b823848e442b943db070b3cc11066fe19", func := "drayman/draymanlaw05.RollTurns", spec := "rollTurns", named := ["math/bits.divideError", "math/bits.overflowError"], apart := false, narrowed := true }
def RollTurnsUptoSaid : Prop := rollTurnsUptoRow.holds Try.pinned (OpenSpec.upto rollTurnsSpec)

/-- 'draymanlaw05.RollJoins', WHERE WHAT IT READS IS OF BULK AT MOST 1048576: true; the input reads as it did. -/
def rollJoinsUptoRow : OpenClaim := { program := "ytaphpejhppeopaa", sum := "43339c27abb3f75f670501ceb4ff966b823848e442b943db070b3cc11066fe19", func := "drayman/draymanlaw05.RollJoins", spec := "rollJoins", named := ["math/bits.divideError", "math/bits.overflowError"], apart := false, narrowed := true }
def RollJoinsUptoSaid : Prop := rollJoinsUptoRow.holds Try.pinned (OpenSpec.upto rollJoinsSpec)

/-- 'draymanlaw05.RollHalves', WHERE WHAT IT READS IS OF BULK AT MOST 1048576: true; the input reads as it did. -/
def rollHalvesUptoRow : OpenClaim := { program := "ytaphpejhppeopaa", sum := "43339c27abb3f75f670501ceb4ff966b823848e442b943db070b3cc11066fe19", func := "drayman/draymanlaw05.RollHalves", spec := "rollHalves", named := ["math/bits.divideError", "math/bits.overflowError"], apart := false, narrowed := true }
def RollHalvesUptoSaid : Prop := rollHalvesUptoRow.holds Try.pinned (OpenSpec.upto rollHalvesSpec)

end Rows
end Go.Proofs.Ytaphpejhppeopaa
