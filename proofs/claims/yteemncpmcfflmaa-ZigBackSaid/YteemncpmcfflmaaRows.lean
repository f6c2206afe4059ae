/-
  No cell of these rows narrows 'for every input' (looked for: loops, veiled, ifaces, maps, wideKeys, modest, calm, conditions, laid).
  DERIVED. THE GIVEN ROWS OF THIS SEAT. 6 by the template 'for every input the law returns true; each argument reads behind the call as it read before'; 0 by the template 'total and deterministic' (their statements: YteemncpmcfflmaaTotals.lean).
  GIVEN WITH THE SEED: the statements are not yours to turn. If you find one false, say at which input.
  Laid BY PROGRAM, IN A SANDBOX (cutbox-rows.mjs): the forced cells as the released guide's own fill.sh prints them over the translation abfa164f453d51b5… (all of the seat's roots in one cut). By AI agents, Wed Nov 11 2026. No macro, syntax, notation, axiom, sorry.
-/
import Derived.Test.YteemncpmcfflmaaChecked
import GoSem.Claim
import GoSem.ClaimJoined
import GoSem.ClaimMapViews
import Derived.JoinedTies
import Derived.KernelRfl
namespace Go.Proofs.Yteemncpmcfflmaa
/- THE CELL 'sum', in the pinned program and in every row, IS THE sha256 OF THE DUMP (.gsa) THAT YteemncpmcfflmaaProg.lean LOADS. Nothing in Lean hashes anything: it is a label: what it is worth is what the hold of that sum in a sandbox is worth. -/
noncomputable def Try.pinned : Pinned := { name := "yteemncpmcfflmaa", sum := "abfa164f453d51b51a21e4cf669906ce6f236f02717ffbc9b42555c1bcd6876e", checked := Try.checked }
namespace Rows
def none {H : Type} : Left H := { results := [], args := [] }

/-- 'draymanlaw02.ZigApart': WHATEVER THE INPUT: true; the input reads as it did. -/
def zigApartSpec : ChangeSpec := { name := "zigApart", fn := fun _ => fun
  | [d1, d2] => { results := [.lit (.bool true)], args := [d1, d2] }
  | _ => none }
def zigApartRow : OpenClaim := { program := "yteemncpmcfflmaa", sum := "abfa164f453d51b51a21e4cf669906ce6f236f02717ffbc9b42555c1bcd6876e", func := "drayman/draymanlaw02.ZigApart", spec := "zigApart", apart := false }
def ZigApartSaid : Prop := zigApartRow.holds Try.pinned (OpenSpec.ofChange zigApartSpec)

/-- ITS FALSE NEIGHBOUR: 'it returns false'. Refute it at one input. -/
def zigApartWrong : ChangeSpec := { name := "zigApart", fn := fun _ => fun
  | [d1, d2] => { results := [.lit (.bool false)], args := [d1, d2] }
  | _ => none }
def ZigApartWrongFalsely : Prop := zigApartRow.holds Try.pinned (OpenSpec.ofChange zigApartWrong)

/-- 'draymanlaw02.ZigFolds': WHATEVER THE INPUT: true; the input reads as it did. -/
def zigFoldsSpec : ChangeSpec := { name := "zigFolds", fn := fun _ => fun
  | [d1, d2] => { results := [.lit (.bool true)], args := [d1, d2] }
  | _ => none }
def zigFoldsRow : OpenClaim := { program := "yteemncpmcfflmaa", sum := "abfa164f453d51b51a21e4cf669906ce6f236f02717ffbc9b42555c1bcd6876e", func := "drayman/draymanlaw02.ZigFolds", spec := "zigFolds", apart := false }
def ZigFoldsSaid : Prop := zigFoldsRow.holds Try.pinned (OpenSpec.ofChange zigFoldsSpec)

/-- ITS FALSE NEIGHBOUR: 'it returns false'. Refute it at one input. -/
def zigFoldsWrong : ChangeSpec := { name := "zigFolds", fn := fun _ => fun
  | [d1, d2] => { results := [.lit (.bool false)], args := [d1, d2] }
  | _ => none }
def ZigFoldsWrongFalsely : Prop := zigFoldsRow.holds Try.pinned (OpenSpec.ofChange zigFoldsWrong)

/-- 'draymanlaw02.ZigPuts': WHATEVER THE INPUT: true; the input reads as it did. -/
def zigPutsSpec : ChangeSpec := { name := "zigPuts", fn := fun _ => fun
  | [d1, d2] => { results := [.lit (.bool true)], args := [d1, d2] }
  | _ => none }
def zigPutsRow : OpenClaim := { program := "yteemncpmcfflmaa", sum := "abfa164f453d51b51a21e4cf669906ce6f236f02717ffbc9b42555c1bcd6876e", func := "drayman/draymanlaw02.ZigPuts", spec := "zigPuts", apart := false }
def ZigPutsSaid : Prop := zigPutsRow.holds Try.pinned (OpenSpec.ofChange zigPutsSpec)

/-- ITS FALSE NEIGHBOUR: 'it returns false'. Refute it at one input. -/
def zigPutsWrong : ChangeSpec := { name := "zigPuts", fn := fun _ => fun
  | [d1, d2] => { results := [.lit (.bool false)], args := [d1, d2] }
  | _ => none }
def ZigPutsWrongFalsely : Prop := zigPutsRow.holds Try.pinned (OpenSpec.ofChange zigPutsWrong)

/-- 'draymanlaw02.ZigGets': WHATEVER THE INPUT: true; the input reads as it did. -/
def zigGetsSpec : ChangeSpec := { name := "zigGets", fn := fun _ => fun
  | [d1, d2] => { results := [.lit (.bool true)], args := [d1, d2] }
  | _ => none }
def zigGetsRow : OpenClaim := { program := "yteemncpmcfflmaa", sum := "abfa164f453d51b51a21e4cf669906ce6f236f02717ffbc9b42555c1bcd6876e", func := "drayman/draymanlaw02.ZigGets", spec := "zigGets", apart := false }
def ZigGetsSaid : Prop := zigGetsRow.holds Try.pinned (OpenSpec.ofChange zigGetsSpec)

/-- ITS FALSE NEIGHBOUR: 'it returns false'. Refute it at one input. -/
def zigGetsWrong : ChangeSpec := { name := "zigGets", fn := fun _ => fun
  | [d1, d2] => { results := [.lit (.bool false)], args := [d1, d2] }
  | _ => none }
def ZigGetsWrongFalsely : Prop := zigGetsRow.holds Try.pinned (OpenSpec.ofChange zigGetsWrong)

/-- 'draymanlaw02.ZigBack': WHATEVER THE INPUT: true; the input reads as it did. -/
def zigBackSpec : ChangeSpec := { name := "zigBack", fn := fun _ => fun
  | [d] => { results := [.lit (.bool true)], args := [d] }
  | _ => none }
def zigBackRow : OpenClaim := { program := "yteemncpmcfflmaa", sum := "abfa164f453d51b51a21e4cf669906ce6f236f02717ffbc9b42555c1bcd6876e", func := "drayman/draymanlaw02.ZigBack", spec := "zigBack", apart := false }
def ZigBackSaid : Prop := zigBackRow.holds Try.pinned (OpenSpec.ofChange zigBackSpec)

/-- ITS FALSE NEIGHBOUR: 'it returns false'. Refute it at one input. -/
def zigBackWrong : ChangeSpec := { name := "zigBack", fn := fun _ => fun
  | [d] => { results := [.lit (.bool false)], args := [d] }
  | _ => none }
def ZigBackWrongFalsely : Prop := zigBackRow.holds Try.pinned (OpenSpec.ofChange zigBackWrong)

/-- 'draymanlaw02.ZigOnly': WHATEVER THE INPUT: true; the input reads as it did. -/
def zigOnlySpec : ChangeSpec := { name := "zigOnly", fn := fun _ => fun
  | [d1, d2, d3] => { results := [.lit (.bool true)], args := [d1, d2, d3] }
  | _ => none }
def zigOnlyRow : OpenClaim := { program := "yteemncpmcfflmaa", sum := "abfa164f453d51b51a21e4cf669906ce6f236f02717ffbc9b42555c1bcd6876e", func := "drayman/draymanlaw02.ZigOnly", spec := "zigOnly", apart := false }
def ZigOnlySaid : Prop := zigOnlyRow.holds Try.pinned (OpenSpec.ofChange zigOnlySpec)

/-- ITS FALSE NEIGHBOUR: 'it returns false'. Refute it at one input. -/
def zigOnlyWrong : ChangeSpec := { name := "zigOnly", fn := fun _ => fun
  | [d1, d2, d3] => { results := [.lit (.bool false)], args := [d1, d2, d3] }
  | _ => none }
def ZigOnlyWrongFalsely : Prop := zigOnlyRow.holds Try.pinned (OpenSpec.ofChange zigOnlyWrong)

/- THE SECOND FORM. 'bulk': how many values and letters a reading holds, each counted each time it is reached (what is shared counts as often as it is met; a slice's spare places count too). A statement '..UptoSaid' is the law's where the arguments, and the package variables that the reading takes, are together of bulk at most 1048576: NARROWER than '..Said'. Prove '..Said' where nothing that the law and all that it calls make is longer than what came in: it says more and counts as full. Else prove '..UptoSaid'. A law counts once. -/
mutual
def uptoBulk {H : Type} : DataW H → Nat
  | .lit (.string bytes) => bytes.length + 1
  | .lit _ => 1
  | .nil => 1
  | .ptr d => uptoBulk d + 1
  | .slice elems spare => uptoBulkAll elems + uptoBulkAll spare + 1
  | .agg parts => uptoBulkAll parts + 1
  | .iface _ d => uptoBulk d + 1
  | .map entries => uptoBulkEntries entries + 1
  | .held _ => 1
def uptoBulkAll {H : Type} : List (DataW H) → Nat
  | [] => 0
  | d :: r => uptoBulk d + uptoBulkAll r
def uptoBulkEntries {H : Type} : List (Lit × DataW H) → Nat
  | [] => 0
  | x :: r => uptoBulkEntry x + uptoBulkEntries r
def uptoBulkEntry {H : Type} : Lit × DataW H → Nat
  | (.string bytes, d) => bytes.length + uptoBulk d + 1
  | (_, d) => uptoBulk d + 1
 end
def uptoSmall : (H : Type) → List (DataW H) → Bool := fun _ ds => decide (uptoBulkAll ds ≤ 1048576)
def OpenSpec.upto (s : _root_.Go.ChangeSpec) : _root_.Go.OpenSpec := { _root_.Go.OpenSpec.ofChange s with cond := some uptoSmall }

/-- 'draymanlaw02.ZigApart', WHERE WHAT IT READS IS OF BULK AT MOST 1048576: true; the input reads as it did. -/
def zigApartUptoRow : OpenClaim := { program := "yteemncpmcfflmaa", sum := "abfa164f453d51b51a21e4cf669906ce6f236f02717ffbc9b42555c1bcd6876e", func := "drayman/draymanlaw02.ZigApart", spec := "zigApart", apart := false, narrowed := true }
def ZigApartUptoSaid : Prop := zigApartUptoRow.holds Try.pinned (OpenSpec.upto zigApartSpec)

/-- 'draymanlaw02.ZigFolds', WHERE WHAT IT READS IS OF BULK AT MOST 1048576: true; the input reads as it did. -/
def zigFoldsUptoRow : OpenClaim := { program := "yteemncpmcfflmaa", sum := "abfa164f453d51b51a21e4cf669906ce6f236f02717ffbc9b42555c1bcd6876e", func := "drayman/draymanlaw02.ZigFolds", spec := "zigFolds", apart := false, narrowed := true }
def ZigFoldsUptoSaid : Prop := zigFoldsUptoRow.holds Try.pinned (OpenSpec.upto zigFoldsSpec)

/-- 'draymanlaw02.ZigPuts', WHERE WHAT IT READS IS OF BULK AT MOST 1048576: true; the input reads as it did. -/
def zigPutsUptoRow : OpenClaim := { program := "yteemncpmcfflmaa", sum := "abfa164f453d51b51a21e4cf669906ce6f236f02717ffbc9b42555c1bcd6876e", func := "drayman/draymanlaw02.ZigPuts", spec := "zigPuts", apart := false, narrowed := true }
def ZigPutsUptoSaid : Prop := zigPutsUptoRow.holds Try.pinned (OpenSpec.upto zigPutsSpec)

/-- 'draymanlaw02.ZigGets', WHERE WHAT IT READS IS OF BULK AT MOST 1048576: true; the input reads as it did. -/
def zigGetsUptoRow : OpenClaim := { program := "yteemncpmcfflmaa", sum := "abfa164f453d51b51a21e4cf669906ce6f236f02717ffbc9b42555c1bcd6876e", func := "drayman/draymanlaw02.ZigGets", spec := "zigGets", apart := false, narrowed := true }
def ZigGetsUptoSaid : Prop := zigGetsUptoRow.holds Try.pinned (OpenSpec.upto zigGetsSpec)

/-- 'draymanlaw02.ZigBack', WHERE WHAT IT READS IS OF BULK AT MOST 1048576: true; the input reads as it did. -/
def zigBackUptoRow : OpenClaim := { program := "yteemncpmcfflmaa", sum := "abfa164f453d51b51a21e4cf669906ce6f236f02717ffbc9b42555c1bcd6876e", func := "drayman/draymanlaw02.ZigBack", spec := "zigBack", apart := false, narrowed := true }
def ZigBackUptoSaid : Prop := zigBackUptoRow.holds Try.pinned (OpenSpec.upto zigBackSpec)

/-- 'draymanlaw02.ZigOnly', WHERE WHAT IT READS IS OF BULK AT MOST 1048576: true; the input reads as it did. -/
def zigOnlyUptoRow : OpenClaim := { program := "yteemncpmcfflmaa", sum := "abfa164f453d51b51a21e4cf669906ce6f236f02717ffbc9b42555c1bcd6876e", func := "drayman/draymanlaw02.ZigOnly", spec := "zigOnly", apart := false, narrowed := true }
def ZigOnlyUptoSaid : Prop := zigOnlyUptoRow.holds Try.pinned (OpenSpec.upto zigOnlySpec)

end Rows
end Go.Proofs.Yteemncpmcfflmaa
