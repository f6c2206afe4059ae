/-
  No cell of these rows narrows 'for every input' (looked for: loops, veiled, ifaces, maps, wideKeys, modest, calm, conditions, laid).
  DERIVED. THE GIVEN ROWS OF THIS SEAT. 5 by the template 'for every input the law returns true; each argument reads behind the call as it read before'; 0 by the template 'total and deterministic' (their statements: YtfaahkjgbjcjgaaTotals.lean).
  GIVEN WITH THE SEED: the statements are not yours to turn. If you find one false, say at which input.
  Laid BY PROGRAM, IN A SANDBOX (cutbox-rows.mjs): the forced cells as the released guide's own fill.sh prints them over the translation 845882ec74bc8e94… (all of the seat's roots in one cut). By AI agents, Wed Nov 11 2026. No macro, syntax, notation, axiom, sorry.
-/
import Derived.Test.YtfaahkjgbjcjgaaChecked
import GoSem.Claim
import GoSem.ClaimJoined
import GoSem.ClaimMapViews
import Derived.JoinedTies
import Derived.KernelRfl
namespace Go.Proofs.Ytfaahkjgbjcjgaa
/- THE CELL 'sum', in the pinned program and in every row, IS THE sha256 OF THE DUMP (.gsa) THAT YtfaahkjgbjcjgaaProg.lean LOADS. Nothing in Lean hashes anything: it is a label: what it is worth is what the hold of that sum in a sandbox is worth. -/
noncomputable def Try.pinned : Pinned := { name := "ytfaahkjgbjcjgaa", sum := "845882ec74bc8e9486837be22ee9212d122c6cdb7237082746fb088a014a218f", checked := Try.checked }
namespace Rows
def none {H : Type} : Left H := { results := [], args := [] }

/-- 'draymanlaw24.AggParts': WHATEVER THE INPUT: true; the input reads as it did. -/
def aggPartsSpec : ChangeSpec := { name := "aggParts", fn := fun _ => fun
  | [d1, d2, d3] => { results := [.lit (.bool true)], args := [d1, d2, d3] }
  | _ => none }
def aggPartsRow : OpenClaim := { program := "ytfaahkjgbjcjgaa", sum := "845882ec74bc8e9486837be22ee9212d122c6cdb7237082746fb088a014a218f", func := "drayman/draymanlaw24.AggParts", spec := "aggParts", inPlace := ["math/bits.Add64"], named := ["math/bits.divideError", "math/bits.overflowError"], apart := false }
def AggPartsSaid : Prop := aggPartsRow.holds Try.pinned (OpenSpec.ofChange aggPartsSpec)

/-- ITS FALSE NEIGHBOUR: 'it returns false'. Refute it at one input. -/
def aggPartsWrong : ChangeSpec := { name := "aggParts", fn := fun _ => fun
  | [d1, d2, d3] => { results := [.lit (.bool false)], args := [d1, d2, d3] }
  | _ => none }
def AggPartsWrongFalsely : Prop := aggPartsRow.holds Try.pinned (OpenSpec.ofChange aggPartsWrong)

/-- 'draymanlaw24.AggJoins': WHATEVER THE INPUT: true; the input reads as it did. -/
def aggJoinsSpec : ChangeSpec := { name := "aggJoins", fn := fun _ => fun
  | [d1, d2, d3] => { results := [.lit (.bool true)], args := [d1, d2, d3] }
  | _ => none }
def aggJoinsRow : OpenClaim := { program := "ytfaahkjgbjcjgaa", sum := "845882ec74bc8e9486837be22ee9212d122c6cdb7237082746fb088a014a218f", func := "drayman/draymanlaw24.AggJoins", spec := "aggJoins", inPlace := ["math/bits.Add64"], named := ["math/bits.divideError", "math/bits.overflowError"], apart := false }
def AggJoinsSaid : Prop := aggJoinsRow.holds Try.pinned (OpenSpec.ofChange aggJoinsSpec)

/-- ITS FALSE NEIGHBOUR: 'it returns false'. Refute it at one input. -/
def aggJoinsWrong : ChangeSpec := { name := "aggJoins", fn := fun _ => fun
  | [d1, d2, d3] => { results := [.lit (.bool false)], args := [d1, d2, d3] }
  | _ => none }
def AggJoinsWrongFalsely : Prop := aggJoinsRow.holds Try.pinned (OpenSpec.ofChange aggJoinsWrong)

/-- 'draymanlaw24.AggAll': WHATEVER THE INPUT: true; the input reads as it did. -/
def aggAllSpec : ChangeSpec := { name := "aggAll", fn := fun _ => fun
  | [d] => { results := [.lit (.bool true)], args := [d] }
  | _ => none }
def aggAllRow : OpenClaim := { program := "ytfaahkjgbjcjgaa", sum := "845882ec74bc8e9486837be22ee9212d122c6cdb7237082746fb088a014a218f", func := "drayman/draymanlaw24.AggAll", spec := "aggAll", inPlace := ["math/bits.Add64"], named := ["math/bits.divideError", "math/bits.overflowError"], apart := false }
def AggAllSaid : Prop := aggAllRow.holds Try.pinned (OpenSpec.ofChange aggAllSpec)

/-- ITS FALSE NEIGHBOUR: 'it returns false'. Refute it at one input. -/
def aggAllWrong : ChangeSpec := { name := "aggAll", fn := fun _ => fun
  | [d] => { results := [.lit (.bool false)], args := [d] }
  | _ => none }
def AggAllWrongFalsely : Prop := aggAllRow.holds Try.pinned (OpenSpec.ofChange aggAllWrong)

/-- 'draymanlaw24.AggHalves': WHATEVER THE INPUT: true; the input reads as it did. -/
def aggHalvesSpec : ChangeSpec := { name := "aggHalves", fn := fun _ => fun
  | [d1, d2] => { results := [.lit (.bool true)], args := [d1, d2] }
  | _ => none }
def aggHalvesRow : OpenClaim := { program := "ytfaahkjgbjcjgaa", sum := "845882ec74bc8e9486837be22ee9212d122c6cdb7237082746fb088a014a218f", func := "drayman/draymanlaw24.AggHalves", spec := "aggHalves", inPlace := ["math/bits.Add64"], named := ["math/bits.divideError", "math/bits.overflowError"], apart := false }
def AggHalvesSaid : Prop := aggHalvesRow.holds Try.pinned (OpenSpec.ofChange aggHalvesSpec)

/-- ITS FALSE NEIGHBOUR: 'it returns false'. Refute it at one input. -/
def aggHalvesWrong : ChangeSpec := { name := "aggHalves", fn := fun _ => fun
  | [d1, d2] => { results := [.lit (.bool false)], args := [d1, d2] }
  | _ => none }
def AggHalvesWrongFalsely : Prop := aggHalvesRow.holds Try.pinned (OpenSpec.ofChange aggHalvesWrong)

/-- 'draymanlaw24.AggBounds': WHATEVER THE INPUT: true; the input reads as it did. -/
def aggBoundsSpec : ChangeSpec := { name := "aggBounds", fn := fun _ => fun
  | [d] => { results := [.lit (.bool true)], args := [d] }
  | _ => none }
def aggBoundsRow : OpenClaim := { program := "ytfaahkjgbjcjgaa", sum := "845882ec74bc8e9486837be22ee9212d122c6cdb7237082746fb088a014a218f", func := "drayman/draymanlaw24.AggBounds", spec := "aggBounds", inPlace := ["math/bits.Add64"], named := ["math/bits.divideError", "math/bits.overflowError"], apart := false }
def AggBoundsSaid : Prop := aggBoundsRow.holds Try.pinned (OpenSpec.ofChange aggBoundsSpec)

/-- ITS FALSE NEIGHBOUR: 'it returns false'. Refute it at one input. -/
def aggBoundsWrong : ChangeSpec := { name := "aggBounds", fn := fun _ => fun
  | [d] => { results := [.lit (.bool false)], args := [d] }
  | _ => none }
def AggBoundsWrongFalsely : Prop := aggBoundsRow.holds Try.pinned (OpenSpec.ofChange aggBoundsWrong)

/- THE SECOND FORM. 'bulk': how many values and letters a reading holds, each counted each time it is reached (what is shared counts as often as it is met; a slice's spare places count too). A statement '..UptoSaid' is the law's where the arguments, and the package variables that the reading takes, are together of bulk at most 1048576: NARROWER than '..Said'. Prove '..Said' where nothing that the law and all that it calls make is longer than what came in: it says more and counts as full. Else prove '..UptoSaid'. A law counts once. -/
mutual
def uptoBulk {H : Type} : DataW H → Nat
  | .lit (.string bytes) => bytes.length + 1
  | .lit _ => 1
  | .nil => 1
  | .ptr d => uptoBulk d + 1
  | .slice elems spare => uptoBulkAll elems + uptoBulkAll spare + 1
  | .agg parts => uptoBulkAll parts + 1
  | .iface _ d => uptoBulk d + 1
  | .map entries => uptoBulkEntries entries + 1
  | .held _ => 1
def uptoBulkAll {H : Type} : List (DataW H) → Nat
  | [] => 0
  | d :: r => uptoBulk d + uptoBulkAll r
def uptoBulkEntries {H : Type} : List (Lit × DataW H) → Nat
  | [] => 0
  | x :: r => uptoBulkEntry x + uptoBulkEntries r
def uptoBulkEntry {H : Type} : Lit × DataW H → Nat
  | (.string bytes, d) => bytes.length + uptoBulk d + 1
  | (_, d) => uptoBulk d + 1
 end
def uptoSmall : (H : Type) → List (DataW H) → Bool := fun _ ds => decide (uptoBulkAll ds ≤ 1048576)
def OpenSpec.upto (s : _root_.Go.ChangeSpec) : _root_.Go.OpenSpec := { _root_.Go.OpenSpec.ofChange s with cond := some uptoSmall }

/-- 'draymanlaw24.AggParts', WHERE WHAT IT READS IS OF BULK AT MOST 1048576: true; the input reads as it did. -/
def aggPartsUptoRow : OpenClaim := { program := "ytfaahkjgbjcjgaa", sum := "845882ec74bc8e9486837be22ee9212d122c6cdb7237082746fb088a014a218f", func := "drayman/draymanlaw24.AggParts", spec := "aggParts", inPlace := ["math/bits.Add64"], named := ["math/bits.divideError", "math/bits.overflowError"], apart := false, narrowed := true }
def AggPartsUptoSaid : Prop := aggPartsUptoRow.holds Try.pinned (OpenSpec.upto aggPartsSpec)

/-- 'draymanlaw24.AggJoins', WHERE WHAT IT READS IS OF BULK AT MOST 1048576: true; the input reads as it did. -/
def aggJoinsUptoRow : OpenClaim := { program := "ytfaahkjgbjcjgaa", sum := "845882ec74bc8e9486837be22ee9212d122c6cdb7237082746fb088a014a218f", func := "drayman/draymanlaw24.AggJoins", spec := "aggJoins", inPlace := ["math/bits.Add64"], named := ["math/bits.divideError", "math/bits.overflowError"], apart := false, narrowed := true }
def AggJoinsUptoSaid : Prop := aggJoinsUptoRow.holds Try.pinned (OpenSpec.upto aggJoinsSpec)

/-- 'draymanlaw24.AggAll', WHERE WHAT IT READS IS OF BULK AT MOST 1048576: true; the input reads as it did. -/
def aggAllUptoRow : OpenClaim := { program := "ytfaahkjgbjcjgaa", sum := "845882ec74bc8e9486837be22ee9212d122c6cdb7237082746fb088a014a218f", func := "drayman/draymanlaw24.AggAll", spec := "aggAll", inPlace := ["math/bits.Add64"], named := ["math/bits.divideError", "math/bits.overflowError"], apart := false, narrowed := true }
def AggAllUptoSaid : Prop := aggAllUptoRow.holds Try.pinned (OpenSpec.upto aggAllSpec)

/-- 'draymanlaw24.AggHalves', WHERE WHAT IT READS IS OF BULK AT MOST 1048576: true; the input reads as it did. -/
def aggHalvesUptoRow : OpenClaim := { program := "ytfaahkjgbjcjgaa", sum := "845882ec74bc8e9486837be22ee9212d122c6cdb7237082746fb088a014a218f", func := "drayman/draymanlaw24.AggHalves", spec := "aggHalves", inPlace := ["math/bits.Add64"], named := ["math/bits.divideError", "math/bits.overflowError"], apart := false, narrowed := true }
def AggHalvesUptoSaid : Prop := aggHalvesUptoRow.holds Try.pinned (OpenSpec.upto aggHalvesSpec)

/-- 'draymanlaw24.AggBounds', WHERE WHAT IT READS IS OF BULK AT MOST 1048576: true; the input reads as it did. -/
def aggBoundsUptoRow : OpenClaim := { program := "ytfaahkjgbjcjgaa", sum := "845882ec74bc8e9486837be22ee9212d122c6cdb7237082746fb088a014a218f", func := "drayman/draymanlaw24.AggBounds", spec := "aggBounds", inPlace := ["math/bits.Add64"], named := ["math/bits.divideError", "math/bits.overflowError"], apart := false, narrowed := true }
def AggBoundsUptoSaid : Prop := aggBoundsUptoRow.holds Try.pinned (OpenSpec.upto aggBoundsSpec)

end Rows
end Go.Proofs.Ytfaahkjgbjcjgaa
