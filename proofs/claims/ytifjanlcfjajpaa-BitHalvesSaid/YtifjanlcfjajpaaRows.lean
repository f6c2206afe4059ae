/-
  No cell of these rows narrows 'for every input' (looked for: loops, veiled, ifaces, maps, wideKeys, modest, calm, conditions, laid).
  DERIVED. THE GIVEN ROWS OF THIS SEAT. 9 by the template 'for every input the law returns true; each argument reads behind the call as it read before'; 0 by the template 'total and deterministic' (their statements: YtifjanlcfjajpaaTotals.lean).
  GIVEN WITH THE SEED: the statements are not yours to turn. If you find one false, say at which input.
  Laid BY PROGRAM, IN A SANDBOX (cutbox-rows.mjs): the forced cells as the released guide's own fill.sh prints them over the translation da022aa1eee35949… (all of the seat's roots in one cut). By AI agents, Wed Nov 11 2026. No macro, syntax, notation, axiom, sorry.
-/
import Derived.Test.YtifjanlcfjajpaaChecked
import GoSem.Claim
import GoSem.ClaimJoined
import GoSem.ClaimMapViews
import Derived.JoinedTies
import Derived.KernelRfl
namespace Go.Proofs.Ytifjanlcfjajpaa
/- THE CELL 'sum', in the pinned program and in every row, IS THE sha256 OF THE DUMP (.gsa) THAT YtifjanlcfjajpaaProg.lean LOADS. Nothing in Lean hashes anything: it is a label: what it is worth is what the hold of that sum in a sandbox is worth. -/
noncomputable def Try.pinned : Pinned := { name := "ytifjanlcfjajpaa", sum := "da022aa1eee35949294b840eebb24d5f8371cbe79d32d7832d06add3bfffcbcc", checked := Try.checked }
namespace Rows
def none {H : Type} : Left H := { results := [], args := [] }

/-- 'draymanlaw01.BitApart': WHATEVER THE INPUT: true; the input reads as it did. -/
def bitApartSpec : ChangeSpec := { name := "bitApart", fn := fun _ => fun
  | [d1, d2, d3, d4, d5] => { results := [.lit (.bool true)], args := [d1, d2, d3, d4, d5] }
  | _ => none }
def bitApartRow : OpenClaim := { program := "ytifjanlcfjajpaa", sum := "da022aa1eee35949294b840eebb24d5f8371cbe79d32d7832d06add3bfffcbcc", func := "drayman/draymanlaw01.BitApart", spec := "bitApart", apart := false }
def BitApartSaid : Prop := bitApartRow.holds Try.pinned (OpenSpec.ofChange bitApartSpec)

/-- ITS FALSE NEIGHBOUR: 'it returns false'. Refute it at one input. -/
def bitApartWrong : ChangeSpec := { name := "bitApart", fn := fun _ => fun
  | [d1, d2, d3, d4, d5] => { results := [.lit (.bool false)], args := [d1, d2, d3, d4, d5] }
  | _ => none }
def BitApartWrongFalsely : Prop := bitApartRow.holds Try.pinned (OpenSpec.ofChange bitApartWrong)

/-- 'draymanlaw01.BitSounds': WHATEVER THE INPUT: true; the input reads as it did. -/
def bitSoundsSpec : ChangeSpec := { name := "bitSounds", fn := fun _ => fun
  | [d] => { results := [.lit (.bool true)], args := [d] }
  | _ => none }
def bitSoundsRow : OpenClaim := { program := "ytifjanlcfjajpaa", sum := "da022aa1eee35949294b840eebb24d5f8371cbe79d32d7832d06add3bfffcbcc", func := "drayman/draymanlaw01.BitSounds", spec := "bitSounds", apart := false }
def BitSoundsSaid : Prop := bitSoundsRow.holds Try.pinned (OpenSpec.ofChange bitSoundsSpec)

/-- ITS FALSE NEIGHBOUR: 'it returns false'. Refute it at one input. -/
def bitSoundsWrong : ChangeSpec := { name := "bitSounds", fn := fun _ => fun
  | [d] => { results := [.lit (.bool false)], args := [d] }
  | _ => none }
def BitSoundsWrongFalsely : Prop := bitSoundsRow.holds Try.pinned (OpenSpec.ofChange bitSoundsWrong)

/-- 'draymanlaw01.BitPuts': WHATEVER THE INPUT: true; the input reads as it did. -/
def bitPutsSpec : ChangeSpec := { name := "bitPuts", fn := fun _ => fun
  | [d1, d2, d3] => { results := [.lit (.bool true)], args := [d1, d2, d3] }
  | _ => none }
def bitPutsRow : OpenClaim := { program := "ytifjanlcfjajpaa", sum := "da022aa1eee35949294b840eebb24d5f8371cbe79d32d7832d06add3bfffcbcc", func := "drayman/draymanlaw01.BitPuts", spec := "bitPuts", apart := false }
def BitPutsSaid : Prop := bitPutsRow.holds Try.pinned (OpenSpec.ofChange bitPutsSpec)

/-- ITS FALSE NEIGHBOUR: 'it returns false'. Refute it at one input. -/
def bitPutsWrong : ChangeSpec := { name := "bitPuts", fn := fun _ => fun
  | [d1, d2, d3] => { results := [.lit (.bool false)], args := [d1, d2, d3] }
  | _ => none }
def BitPutsWrongFalsely : Prop := bitPutsRow.holds Try.pinned (OpenSpec.ofChange bitPutsWrong)

/-- 'draymanlaw01.BitGets': WHATEVER THE INPUT: true; the input reads as it did. -/
def bitGetsSpec : ChangeSpec := { name := "bitGets", fn := fun _ => fun
  | [d1, d2, d3] => { results := [.lit (.bool true)], args := [d1, d2, d3] }
  | _ => none }
def bitGetsRow : OpenClaim := { program := "ytifjanlcfjajpaa", sum := "da022aa1eee35949294b840eebb24d5f8371cbe79d32d7832d06add3bfffcbcc", func := "drayman/draymanlaw01.BitGets", spec := "bitGets", apart := false }
def BitGetsSaid : Prop := bitGetsRow.holds Try.pinned (OpenSpec.ofChange bitGetsSpec)

/-- ITS FALSE NEIGHBOUR: 'it returns false'. Refute it at one input. -/
def bitGetsWrong : ChangeSpec := { name := "bitGets", fn := fun _ => fun
  | [d1, d2, d3] => { results := [.lit (.bool false)], args := [d1, d2, d3] }
  | _ => none }
def BitGetsWrongFalsely : Prop := bitGetsRow.holds Try.pinned (OpenSpec.ofChange bitGetsWrong)

/-- 'draymanlaw01.BitBack': WHATEVER THE INPUT: true; the input reads as it did. -/
def bitBackSpec : ChangeSpec := { name := "bitBack", fn := fun _ => fun
  | [d1, d2, d3, d4, d5] => { results := [.lit (.bool true)], args := [d1, d2, d3, d4, d5] }
  | _ => none }
def bitBackRow : OpenClaim := { program := "ytifjanlcfjajpaa", sum := "da022aa1eee35949294b840eebb24d5f8371cbe79d32d7832d06add3bfffcbcc", func := "drayman/draymanlaw01.BitBack", spec := "bitBack", apart := false }
def BitBackSaid : Prop := bitBackRow.holds Try.pinned (OpenSpec.ofChange bitBackSpec)

/-- ITS FALSE NEIGHBOUR: 'it returns false'. Refute it at one input. -/
def bitBackWrong : ChangeSpec := { name := "bitBack", fn := fun _ => fun
  | [d1, d2, d3, d4, d5] => { results := [.lit (.bool false)], args := [d1, d2, d3, d4, d5] }
  | _ => none }
def BitBackWrongFalsely : Prop := bitBackRow.holds Try.pinned (OpenSpec.ofChange bitBackWrong)

/-- 'draymanlaw01.BitPieces': WHATEVER THE INPUT: true; the input reads as it did. -/
def bitPiecesSpec : ChangeSpec := { name := "bitPieces", fn := fun _ => fun
  | [d1, d2, d3, d4] => { results := [.lit (.bool true)], args := [d1, d2, d3, d4] }
  | _ => none }
def bitPiecesRow : OpenClaim := { program := "ytifjanlcfjajpaa", sum := "da022aa1eee35949294b840eebb24d5f8371cbe79d32d7832d06add3bfffcbcc", func := "drayman/draymanlaw01.BitPieces", spec := "bitPieces", apart := false }
def BitPiecesSaid : Prop := bitPiecesRow.holds Try.pinned (OpenSpec.ofChange bitPiecesSpec)

/-- ITS FALSE NEIGHBOUR: 'it returns false'. Refute it at one input. -/
def bitPiecesWrong : ChangeSpec := { name := "bitPieces", fn := fun _ => fun
  | [d1, d2, d3, d4] => { results := [.lit (.bool false)], args := [d1, d2, d3, d4] }
  | _ => none }
def BitPiecesWrongFalsely : Prop := bitPiecesRow.holds Try.pinned (OpenSpec.ofChange bitPiecesWrong)

/-- 'draymanlaw01.BitJoins': WHATEVER THE INPUT: true; the input reads as it did. -/
def bitJoinsSpec : ChangeSpec := { name := "bitJoins", fn := fun _ => fun
  | [d] => { results := [.lit (.bool true)], args := [d] }
  | _ => none }
def bitJoinsRow : OpenClaim := { program := "ytifjanlcfjajpaa", sum := "da022aa1eee35949294b840eebb24d5f8371cbe79d32d7832d06add3bfffcbcc", func := "drayman/draymanlaw01.BitJoins", spec := "bitJoins", apart := false }
def BitJoinsSaid : Prop := bitJoinsRow.holds Try.pinned (OpenSpec.ofChange bitJoinsSpec)

/-- ITS FALSE NEIGHBOUR: 'it returns false'. Refute it at one input. -/
def bitJoinsWrong : ChangeSpec := { name := "bitJoins", fn := fun _ => fun
  | [d] => { results := [.lit (.bool false)], args := [d] }
  | _ => none }
def BitJoinsWrongFalsely : Prop := bitJoinsRow.holds Try.pinned (OpenSpec.ofChange bitJoinsWrong)

/-- 'draymanlaw01.BitCuts': WHATEVER THE INPUT: true; the input reads as it did. -/
def bitCutsSpec : ChangeSpec := { name := "bitCuts", fn := fun _ => fun
  | [d1, d2, d3] => { results := [.lit (.bool true)], args := [d1, d2, d3] }
  | _ => none }
def bitCutsRow : OpenClaim := { program := "ytifjanlcfjajpaa", sum := "da022aa1eee35949294b840eebb24d5f8371cbe79d32d7832d06add3bfffcbcc", func := "drayman/draymanlaw01.BitCuts", spec := "bitCuts", apart := false }
def BitCutsSaid : Prop := bitCutsRow.holds Try.pinned (OpenSpec.ofChange bitCutsSpec)

/-- ITS FALSE NEIGHBOUR: 'it returns false'. Refute it at one input. -/
def bitCutsWrong : ChangeSpec := { name := "bitCuts", fn := fun _ => fun
  | [d1, d2, d3] => { results := [.lit (.bool false)], args := [d1, d2, d3] }
  | _ => none }
def BitCutsWrongFalsely : Prop := bitCutsRow.holds Try.pinned (OpenSpec.ofChange bitCutsWrong)

/-- 'draymanlaw01.BitHalves': WHATEVER THE INPUT: true; the input reads as it did. -/
def bitHalvesSpec : ChangeSpec := { name := "bitHalves", fn := fun _ => fun
  | [d1, d2, d3, d4] => { results := [.lit (.bool true)], args := [d1, d2, d3, d4] }
  | _ => none }
def bitHalvesRow : OpenClaim := { program := "ytifjanlcfjajpaa", sum := "da022aa1eee35949294b840eebb24d5f8371cbe79d32d7832d06add3bfffcbcc", func := "drayman/draymanlaw01.BitHalves", spec := "bitHalves", apart := false }
def BitHalvesSaid : Prop := bitHalvesRow.holds Try.pinned (OpenSpec.ofChange bitHalvesSpec)

/-- ITS FALSE NEIGHBOUR: 'it returns false'. Refute it at one input. -/
def bitHalvesWrong : ChangeSpec := { name := "bitHalves", fn := fun _ => fun
  | [d1, d2, d3, d4] => { results := [.lit (.bool false)], args := [d1, d2, d3, d4] }
  | _ => none }
def BitHalvesWrongFalsely : Prop := bitHalvesRow.holds Try.pinned (OpenSpec.ofChange bitHalvesWrong)

/- THE SECOND FORM. 'bulk': how many values and letters a reading holds, each counted each time it is reached (what is shared counts as often as it is met; a slice's spare places count too). A statement '..UptoSaid' is the law's where the arguments, and the package variables that the reading takes, are together of bulk at most 1048576: NARROWER than '..Said'. Prove '..Said' where nothing that the law and all that it calls make is longer than what came in: it says more and counts as full. Else prove '..UptoSaid'. A law counts once. -/
mutual
def uptoBulk {H : Type} : DataW H → Nat
  | .lit (.string bytes) => bytes.length + 1
  | .lit _ => 1
  | .nil => 1
  | .ptr d => uptoBulk d + 1
  | .slice elems spare => uptoBulkAll elems + uptoBulkAll spare + 1
  | .agg parts => uptoBulkAll parts + 1
  | .iface _ d => uptoBulk d + 1
  | .map entries => uptoBulkEntries entries + 1
  | .held _ => 1
def uptoBulkAll {H : Type} : List (DataW H) → Nat
  | [] => 0
  | d :: r => uptoBulk d + uptoBulkAll r
def uptoBulkEntries {H : Type} : List (Lit × DataW H) → Nat
  | [] => 0
  | x :: r => uptoBulkEntry x + uptoBulkEntries r
def uptoBulkEntry {H : Type} : Lit × DataW H → Nat
  | (.string bytes, d) => bytes.length + uptoBulk d + 1
  | (_, d) => uptoBulk d + 1
 end
def uptoSmall : (H : Type) → List (DataW H) → Bool := fun _ ds => decide (uptoBulkAll ds ≤ 1048576)
def OpenSpec.upto (s : _root_.Go.ChangeSpec) : _root_.Go.OpenSpec := { _root_.Go.OpenSpec.ofChange s with cond := some uptoSmall }

/-- 'draymanlaw01.BitApart', WHERE WHAT IT READS IS OF BULK AT MOST 1048576: true; the input reads as it did. -/
def bitApartUptoRow : OpenClaim := { program := "ytifjanlcfjajpaa", sum := "da022aa1eee35949294b840eebb24d5f8371cbe79d32d7832d06add3bfffcbcc", func := "drayman/draymanlaw01.BitApart", spec := "bitApart", apart := false, narrowed := true }
def BitApartUptoSaid : Prop := bitApartUptoRow.holds Try.pinned (OpenSpec.upto bitApartSpec)

/-- 'draymanlaw01.BitSounds', WHERE WHAT IT READS IS OF BULK AT MOST 1048576: true; the input reads as it did. -/
def bitSoundsUptoRow : OpenClaim := { program := "ytifjanlcfjajpaa", sum := "da022aa1eee35949294b840eebb24d5f8371cbe79d32d7832d06add3bfffcbcc", func := "drayman/draymanlaw01.BitSounds", spec := "bitSounds", apart := false, narrowed := true }
def BitSoundsUptoSaid : Prop := bitSoundsUptoRow.holds Try.pinned (OpenSpec.upto bitSoundsSpec)

/-- 'draymanlaw01.BitPuts', WHERE WHAT IT READS IS OF BULK AT MOST 1048576: true; the input reads as it did. -/
def bitPutsUptoRow : OpenClaim := { program := "ytifjanlcfjajpaa", sum := "da022aa1eee35949294b840eebb24d5f8371cbe79d32d7832d06add3bfffcbcc", func := "drayman/draymanlaw01.BitPuts", spec := "bitPuts", apart := false, narrowed := true }
def BitPutsUptoSaid : Prop := bitPutsUptoRow.holds Try.pinned (OpenSpec.upto bitPutsSpec)

/-- 'draymanlaw01.BitGets', WHERE WHAT IT READS IS OF BULK AT MOST 1048576: true; the input reads as it did. -/
def bitGetsUptoRow : OpenClaim := { program := "ytifjanlcfjajpaa", sum := "da022aa1eee35949294b840eebb24d5f8371cbe79d32d7832d06add3bfffcbcc", func := "drayman/draymanlaw01.BitGets", spec := "bitGets", apart := false, narrowed := true }
def BitGetsUptoSaid : Prop := bitGetsUptoRow.holds Try.pinned (OpenSpec.upto bitGetsSpec)

/-- 'draymanlaw01.BitBack', WHERE WHAT IT READS IS OF BULK AT MOST 1048576: true; the input reads as it did. -/
def bitBackUptoRow : OpenClaim := { program := "ytifjanlcfjajpaa", sum := "da022aa1eee35949294b840eebb24d5f8371cbe79d32d7832d06add3bfffcbcc", func := "drayman/draymanlaw01.BitBack", spec := "bitBack", apart := false, narrowed := true }
def BitBackUptoSaid : Prop := bitBackUptoRow.holds Try.pinned (OpenSpec.upto bitBackSpec)

/-- 'draymanlaw01.BitPieces', WHERE WHAT IT READS IS OF BULK AT MOST 1048576: true; the input reads as it did. -/
def bitPiecesUptoRow : OpenClaim := { program := "ytifjanlcfjajpaa", sum := "da022aa1eee35949294b840eebb24d5f8371cbe79d32d7832d06add3bfffcbcc", func := "drayman/draymanlaw01.BitPieces", spec := "bitPieces", apart := false, narrowed := true }
def BitPiecesUptoSaid : Prop := bitPiecesUptoRow.holds Try.pinned (OpenSpec.upto bitPiecesSpec)

/-- 'draymanlaw01.BitJoins', WHERE WHAT IT READS IS OF BULK AT MOST 1048576: true; the input reads as it did. -/
def bitJoinsUptoRow : OpenClaim := { program := "ytifjanlcfjajpaa", sum := "da022aa1eee35949294b840eebb24d5f8371cbe79d32d7832d06add3bfffcbcc", func := "drayman/draymanlaw01.BitJoins", spec := "bitJoins", apart := false, narrowed := true }
def BitJoinsUptoSaid : Prop := bitJoinsUptoRow.holds Try.pinned (OpenSpec.upto bitJoinsSpec)

/-- 'draymanlaw01.BitCuts', WHERE WHAT IT READS IS OF BULK AT MOST 1048576: true; the input reads as it did. -/
def bitCutsUptoRow : OpenClaim := { program := "ytifjanlcfjajpaa", sum := "da022aa1eee35949294b840eebb24d5f8371cbe79d32d7832d06add3bfffcbcc", func := "drayman/draymanlaw01.BitCuts", spec := "bitCuts", apart := false, narrowed := true }
def BitCutsUptoSaid : Prop := bitCutsUptoRow.holds Try.pinned (OpenSpec.upto bitCutsSpec)

/-- 'draymanlaw01.BitHalves', WHERE WHAT IT READS IS OF BULK AT MOST 1048576: true; the input reads as it did. -/
def bitHalvesUptoRow : OpenClaim := { program := "ytifjanlcfjajpaa", sum := "da022aa1eee35949294b840eebb24d5f8371cbe79d32d7832d06add3bfffcbcc", func := "drayman/draymanlaw01.BitHalves", spec := "bitHalves", apart := false, narrowed := true }
def BitHalvesUptoSaid : Prop := bitHalvesUptoRow.holds Try.pinned (OpenSpec.upto bitHalvesSpec)

end Rows
end Go.Proofs.Ytifjanlcfjajpaa
