/-
  No cell of these rows narrows 'for every input' (looked for: loops, veiled, ifaces, maps, wideKeys, modest, calm, conditions, laid).
  DERIVED. THE GIVEN ROWS OF THIS SEAT. 5 by the template 'for every input the law returns true; each argument reads behind the call as it read before'; 0 by the template 'total and deterministic' (their statements: YtokolgelmikfmaaTotals.lean).
  GIVEN WITH THE SEED: the statements are not yours to turn. If you find one false, say at which input.
  Laid BY PROGRAM, IN A SANDBOX (cutbox-rows.mjs): the forced cells as the released guide's own fill.sh prints them over the translation f2435225768f730c… (all of the seat's roots in one cut). By AI agents, Wed Nov 11 2026. No macro, syntax, notation, axiom, sorry.
-/
import Derived.Test.YtokolgelmikfmaaChecked
import GoSem.Claim
import GoSem.ClaimJoined
import GoSem.ClaimMapViews
import Derived.JoinedTies
import Derived.KernelRfl
namespace Go.Proofs.Ytokolgelmikfmaa
/- THE CELL 'sum', in the pinned program and in every row, IS THE sha256 OF THE DUMP (.gsa) THAT YtokolgelmikfmaaProg.lean LOADS. Nothing in Lean hashes anything: it is a label: what it is worth is what the hold of that sum in a sandbox is worth. -/
noncomputable def Try.pinned : Pinned := { name := "ytokolgelmikfmaa", sum := "f2435225768f730cb9132cec4ac090d1a2db8675c3daeb7bec0883a045b2c598", checked := Try.checked }
namespace Rows
def none {H : Type} : Left H := { results := [], args := [] }

/-- 'draymanlaw11.NoteMays': WHATEVER THE INPUT: true; the input reads as it did. -/
def noteMaysSpec : ChangeSpec := { name := "noteMays", fn := fun _ => fun
  | [d] => { results := [.lit (.bool true)], args := [d] }
  | _ => none }
def noteMaysRow : OpenClaim := { program := "ytokolgelmikfmaa", sum := "f2435225768f730cb9132cec4ac090d1a2db8675c3daeb7bec0883a045b2c598", func := "drayman/draymanlaw11.NoteMays", spec := "noteMays", unfollowed := true, recurses := true, apart := false }
def NoteMaysSaid : Prop := noteMaysRow.holds Try.pinned (OpenSpec.ofChange noteMaysSpec)

/-- ITS FALSE NEIGHBOUR: 'it returns false'. Refute it at one input. -/
def noteMaysWrong : ChangeSpec := { name := "noteMays", fn := fun _ => fun
  | [d] => { results := [.lit (.bool false)], args := [d] }
  | _ => none }
def NoteMaysWrongFalsely : Prop := noteMaysRow.holds Try.pinned (OpenSpec.ofChange noteMaysWrong)

/-- 'draymanlaw11.NoteReads': WHATEVER THE INPUT: true; the input reads as it did. -/
def noteReadsSpec : ChangeSpec := { name := "noteReads", fn := fun _ => fun
  | [d] => { results := [.lit (.bool true)], args := [d] }
  | _ => none }
def noteReadsRow : OpenClaim := { program := "ytokolgelmikfmaa", sum := "f2435225768f730cb9132cec4ac090d1a2db8675c3daeb7bec0883a045b2c598", func := "drayman/draymanlaw11.NoteReads", spec := "noteReads", unfollowed := true, recurses := true, apart := false }
def NoteReadsSaid : Prop := noteReadsRow.holds Try.pinned (OpenSpec.ofChange noteReadsSpec)

/-- ITS FALSE NEIGHBOUR: 'it returns false'. Refute it at one input. -/
def noteReadsWrong : ChangeSpec := { name := "noteReads", fn := fun _ => fun
  | [d] => { results := [.lit (.bool false)], args := [d] }
  | _ => none }
def NoteReadsWrongFalsely : Prop := noteReadsRow.holds Try.pinned (OpenSpec.ofChange noteReadsWrong)

/-- 'draymanlaw11.NoteBack': WHATEVER THE INPUT: true; the input reads as it did. -/
def noteBackSpec : ChangeSpec := { name := "noteBack", fn := fun _ => fun
  | [d1, d2] => { results := [.lit (.bool true)], args := [d1, d2] }
  | _ => none }
def noteBackRow : OpenClaim := { program := "ytokolgelmikfmaa", sum := "f2435225768f730cb9132cec4ac090d1a2db8675c3daeb7bec0883a045b2c598", func := "drayman/draymanlaw11.NoteBack", spec := "noteBack", unfollowed := true, recurses := true, apart := false }
def NoteBackSaid : Prop := noteBackRow.holds Try.pinned (OpenSpec.ofChange noteBackSpec)

/-- ITS FALSE NEIGHBOUR: 'it returns false'. Refute it at one input. -/
def noteBackWrong : ChangeSpec := { name := "noteBack", fn := fun _ => fun
  | [d1, d2] => { results := [.lit (.bool false)], args := [d1, d2] }
  | _ => none }
def NoteBackWrongFalsely : Prop := noteBackRow.holds Try.pinned (OpenSpec.ofChange noteBackWrong)

/-- 'draymanlaw11.NoteOnly': WHATEVER THE INPUT: true; the input reads as it did. -/
def noteOnlySpec : ChangeSpec := { name := "noteOnly", fn := fun _ => fun
  | [d] => { results := [.lit (.bool true)], args := [d] }
  | _ => none }
def noteOnlyRow : OpenClaim := { program := "ytokolgelmikfmaa", sum := "f2435225768f730cb9132cec4ac090d1a2db8675c3daeb7bec0883a045b2c598", func := "drayman/draymanlaw11.NoteOnly", spec := "noteOnly", unfollowed := true, recurses := true, apart := false }
def NoteOnlySaid : Prop := noteOnlyRow.holds Try.pinned (OpenSpec.ofChange noteOnlySpec)

/-- ITS FALSE NEIGHBOUR: 'it returns false'. Refute it at one input. -/
def noteOnlyWrong : ChangeSpec := { name := "noteOnly", fn := fun _ => fun
  | [d] => { results := [.lit (.bool false)], args := [d] }
  | _ => none }
def NoteOnlyWrongFalsely : Prop := noteOnlyRow.holds Try.pinned (OpenSpec.ofChange noteOnlyWrong)

/-- 'draymanlaw11.NoteApart': WHATEVER THE INPUT: true; the input reads as it did. -/
def noteApartSpec : ChangeSpec := { name := "noteApart", fn := fun _ => fun
  | [d1, d2] => { results := [.lit (.bool true)], args := [d1, d2] }
  | _ => none }
def noteApartRow : OpenClaim := { program := "ytokolgelmikfmaa", sum := "f2435225768f730cb9132cec4ac090d1a2db8675c3daeb7bec0883a045b2c598", func := "drayman/draymanlaw11.NoteApart", spec := "noteApart", unfollowed := true, recurses := true, apart := false }
def NoteApartSaid : Prop := noteApartRow.holds Try.pinned (OpenSpec.ofChange noteApartSpec)

/-- ITS FALSE NEIGHBOUR: 'it returns false'. Refute it at one input. -/
def noteApartWrong : ChangeSpec := { name := "noteApart", fn := fun _ => fun
  | [d1, d2] => { results := [.lit (.bool false)], args := [d1, d2] }
  | _ => none }
def NoteApartWrongFalsely : Prop := noteApartRow.holds Try.pinned (OpenSpec.ofChange noteApartWrong)

/- THE SECOND FORM. 'bulk': how many values and letters a reading holds, each counted each time it is reached (what is shared counts as often as it is met; a slice's spare places count too). A statement '..UptoSaid' is the law's where the arguments, and the package variables that the reading takes, are together of bulk at most 1048576: NARROWER than '..Said'. Prove '..Said' where nothing that the law and all that it calls make is longer than what came in: it says more and counts as full. Else prove '..UptoSaid'. A law counts once. -/
mutual
def uptoBulk {H : Type} : DataW H → Nat
  | .lit (.string bytes) => bytes.length + 1
  | .lit _ => 1
  | .nil => 1
  | .ptr d => uptoBulk d + 1
  | .slice elems spare => uptoBulkAll elems + uptoBulkAll spare + 1
  | .agg parts => uptoBulkAll parts + 1
  | .iface _ d => uptoBulk d + 1
  | .map entries => uptoBulkEntries entries + 1
  | .held _ => 1
def uptoBulkAll {H : Type} : List (DataW H) → Nat
  | [] => 0
  | d :: r => uptoBulk d + uptoBulkAll r
def uptoBulkEntries {H : Type} : List (Lit × DataW H) → Nat
  | [] => 0
  | x :: r => uptoBulkEntry x + uptoBulkEntries r
def uptoBulkEntry {H : Type} : Lit × DataW H → Nat
  | (.string bytes, d) => bytes.length + uptoBulk d + 1
  | (_, d) => uptoBulk d + 1
 end
def uptoSmall : (H : Type) → List (DataW H) → Bool := fun _ ds => decide (uptoBulkAll ds ≤ 1048576)
def OpenSpec.upto (s : _root_.Go.ChangeSpec) : _root_.Go.OpenSpec := { _root_.Go.OpenSpec.ofChange s with cond := some uptoSmall }

/-- 'draymanlaw11.NoteMays', WHERE WHAT IT READS IS OF BULK AT MOST 1048576: true; the input reads as it did. -/
def noteMaysUptoRow : OpenClaim := { program := "ytokolgelmikfmaa", sum := "f2435225768f730cb9132cec4ac090d1a2db8675c3daeb7bec0883a045b2c598", func := "drayman/draymanlaw11.NoteMays", spec := "noteMays", unfollowed := true, recurses := true, apart := false, narrowed := true }
def NoteMaysUptoSaid : Prop := noteMaysUptoRow.holds Try.pinned (OpenSpec.upto noteMaysSpec)

/-- 'draymanlaw11.NoteReads', WHERE WHAT IT READS IS OF BULK AT MOST 1048576: true; the input reads as it did. -/
def noteReadsUptoRow : OpenClaim := { program := "ytokolgelmikfmaa", sum := "f2435225768f730cb9132cec4ac090d1a2db8675c3daeb7bec0883a045b2c598", func := "drayman/draymanlaw11.NoteReads", spec := "noteReads", unfollowed := true, recurses := true, apart := false, narrowed := true }
def NoteReadsUptoSaid : Prop := noteReadsUptoRow.holds Try.pinned (OpenSpec.upto noteReadsSpec)

/-- 'draymanlaw11.NoteBack', WHERE WHAT IT READS IS OF BULK AT MOST 1048576: true; the input reads as it did. -/
def noteBackUptoRow : OpenClaim := { program := "ytokolgelmikfmaa", sum := "f2435225768f730cb9132cec4ac090d1a2db8675c3daeb7bec0883a045b2c598", func := "drayman/draymanlaw11.NoteBack", spec := "noteBack", unfollowed := true, recurses := true, apart := false, narrowed := true }
def NoteBackUptoSaid : Prop := noteBackUptoRow.holds Try.pinned (OpenSpec.upto noteBackSpec)

/-- 'draymanlaw11.NoteOnly', WHERE WHAT IT READS IS OF BULK AT MOST 1048576: true; the input reads as it did. -/
def noteOnlyUptoRow : OpenClaim := { program := "ytokolgelmikfmaa", sum := "f2435225768f730cb9132cec4ac090d1a2db8675c3daeb7bec0883a045b2c598", func := "drayman/draymanlaw11.NoteOnly", spec := "noteOnly", unfollowed := true, recurses := true, apart := false, narrowed := true }
def NoteOnlyUptoSaid : Prop := noteOnlyUptoRow.holds Try.pinned (OpenSpec.upto noteOnlySpec)

/-- 'draymanlaw11.NoteApart', WHERE WHAT IT READS IS OF BULK AT MOST 1048576: true; the input reads as it did. -/
def noteApartUptoRow : OpenClaim := { program := "ytokolgelmikfmaa", sum := "f2435225768f730cb9132cec4ac090d1a2db8675c3daeb7bec0883a045b2c598", func := "drayman/draymanlaw11.NoteApart", spec := "noteApart", unfollowed := true, recurses := true, apart := false, narrowed := true }
def NoteApartUptoSaid : Prop := noteApartUptoRow.holds Try.pinned (OpenSpec.upto noteApartSpec)

end Rows
end Go.Proofs.Ytokolgelmikfmaa
