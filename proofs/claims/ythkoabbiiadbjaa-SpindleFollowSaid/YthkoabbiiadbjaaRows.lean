/-
  No cell of these rows narrows 'for every input' (looked for: loops, veiled, ifaces, maps, wideKeys, modest, calm, conditions, laid).
  DERIVED. THE GIVEN ROWS OF THIS SEAT. 5 by the template 'for every input the law returns true; each argument reads behind the call as it read before'; 0 by the template 'total and deterministic' (their statements: YthkoabbiiadbjaaTotals.lean).
  GIVEN WITH THE SEED: the statements are not yours to turn. If you find one false, say at which input.
  Laid BY PROGRAM, IN A SANDBOX (cutbox-rows.mjs): the forced cells as the released guide's own fill.sh prints them over the translation 011fe50b94a2fa2a… (all of the seat's roots in one cut). By AI agents, Wed Nov 11 2026. No macro, syntax, notation, axiom, sorry.
-/
import Derived.Test.YthkoabbiiadbjaaChecked
import GoSem.Claim
import GoSem.ClaimJoined
import GoSem.ClaimMapViews
import Derived.JoinedTies
import Derived.KernelRfl
namespace Go.Proofs.Ythkoabbiiadbjaa
/- THE CELL 'sum', in the pinned program and in every row, IS THE sha256 OF THE DUMP (.gsa) THAT YthkoabbiiadbjaaProg.lean LOADS. Nothing in Lean hashes anything: it is a label: what it is worth is what the hold of that sum in a sandbox is worth. -/
noncomputable def Try.pinned : Pinned := { name := "ythkoabbiiadbjaa", sum := "011fe50b94a2fa2a59c5788fd09381d89c21eea3dd4b62471757bb93afd109f5", checked := Try.checked }
namespace Rows
def none {H : Type} : Left H := { results := [], args := [] }

/-- 'cnclaw37.SpindleRate': WHATEVER THE INPUT: true; the input reads as it did. -/
def spindleRateSpec : ChangeSpec := { name := "spindleRate", fn := fun _ => fun
  | [d] => { results := [.lit (.bool true)], args := [d] }
  | _ => none }
def spindleRateRow : OpenClaim := { program := "ythkoabbiiadbjaa", sum := "011fe50b94a2fa2a59c5788fd09381d89c21eea3dd4b62471757bb93afd109f5", func := "cnc/cnclaw37.SpindleRate", spec := "spindleRate", named := ["math/bits.divideError", "math/bits.overflowError"], apart := false }
def SpindleRateSaid : Prop := spindleRateRow.holds Try.pinned (OpenSpec.ofChange spindleRateSpec)

/-- ITS FALSE NEIGHBOUR: 'it returns false'. Refute it at one input. -/
def spindleRateWrong : ChangeSpec := { name := "spindleRate", fn := fun _ => fun
  | [d] => { results := [.lit (.bool false)], args := [d] }
  | _ => none }
def SpindleRateWrongFalsely : Prop := spindleRateRow.holds Try.pinned (OpenSpec.ofChange spindleRateWrong)

/-- 'cnclaw37.SpindleIndex': WHATEVER THE INPUT: true; the input reads as it did. -/
def spindleIndexSpec : ChangeSpec := { name := "spindleIndex", fn := fun _ => fun
  | [d1, d2] => { results := [.lit (.bool true)], args := [d1, d2] }
  | _ => none }
def spindleIndexRow : OpenClaim := { program := "ythkoabbiiadbjaa", sum := "011fe50b94a2fa2a59c5788fd09381d89c21eea3dd4b62471757bb93afd109f5", func := "cnc/cnclaw37.SpindleIndex", spec := "spindleIndex", named := ["math/bits.divideError", "math/bits.overflowError"], apart := false }
def SpindleIndexSaid : Prop := spindleIndexRow.holds Try.pinned (OpenSpec.ofChange spindleIndexSpec)

/-- ITS FALSE NEIGHBOUR: 'it returns false'. Refute it at one input. -/
def spindleIndexWrong : ChangeSpec := { name := "spindleIndex", fn := fun _ => fun
  | [d1, d2] => { results := [.lit (.bool false)], args := [d1, d2] }
  | _ => none }
def SpindleIndexWrongFalsely : Prop := spindleIndexRow.holds Try.pinned (OpenSpec.ofChange spindleIndexWrong)

/-- 'cnclaw37.SpindleFollow': WHATEVER THE INPUT: true; the input reads as it did. -/
def spindleFollowSpec : ChangeSpec := { name := "spindleFollow", fn := fun _ => fun
  | [d1, d2, d3] => { results := [.lit (.bool true)], args := [d1, d2, d3] }
  | _ => none }
def spindleFollowRow : OpenClaim := { program := "ythkoabbiiadbjaa", sum := "011fe50b94a2fa2a59c5788fd09381d89c21eea3dd4b62471757bb93afd109f5", func := "cnc/cnclaw37.SpindleFollow", spec := "spindleFollow", named := ["math/bits.divideError", "math/bits.overflowError"], apart := false }
def SpindleFollowSaid : Prop := spindleFollowRow.holds Try.pinned (OpenSpec.ofChange spindleFollowSpec)

/-- ITS FALSE NEIGHBOUR: 'it returns false'. Refute it at one input. -/
def spindleFollowWrong : ChangeSpec := { name := "spindleFollow", fn := fun _ => fun
  | [d1, d2, d3] => { results := [.lit (.bool false)], args := [d1, d2, d3] }
  | _ => none }
def SpindleFollowWrongFalsely : Prop := spindleFollowRow.holds Try.pinned (OpenSpec.ofChange spindleFollowWrong)

/-- 'cnclaw37.SpindleStep': WHATEVER THE INPUT: true; the input reads as it did. -/
def spindleStepSpec : ChangeSpec := { name := "spindleStep", fn := fun _ => fun
  | [d1, d2] => { results := [.lit (.bool true)], args := [d1, d2] }
  | _ => none }
def spindleStepRow : OpenClaim := { program := "ythkoabbiiadbjaa", sum := "011fe50b94a2fa2a59c5788fd09381d89c21eea3dd4b62471757bb93afd109f5", func := "cnc/cnclaw37.SpindleStep", spec := "spindleStep", named := ["math/bits.divideError", "math/bits.overflowError"], apart := false }
def SpindleStepSaid : Prop := spindleStepRow.holds Try.pinned (OpenSpec.ofChange spindleStepSpec)

/-- ITS FALSE NEIGHBOUR: 'it returns false'. Refute it at one input. -/
def spindleStepWrong : ChangeSpec := { name := "spindleStep", fn := fun _ => fun
  | [d1, d2] => { results := [.lit (.bool false)], args := [d1, d2] }
  | _ => none }
def SpindleStepWrongFalsely : Prop := spindleStepRow.holds Try.pinned (OpenSpec.ofChange spindleStepWrong)

/-- 'cnclaw37.SpindleCommand': WHATEVER THE INPUT: true; the input reads as it did. -/
def spindleCommandSpec : ChangeSpec := { name := "spindleCommand", fn := fun _ => fun
  | [d1, d2, d3] => { results := [.lit (.bool true)], args := [d1, d2, d3] }
  | _ => none }
def spindleCommandRow : OpenClaim := { program := "ythkoabbiiadbjaa", sum := "011fe50b94a2fa2a59c5788fd09381d89c21eea3dd4b62471757bb93afd109f5", func := "cnc/cnclaw37.SpindleCommand", spec := "spindleCommand", named := ["math/bits.divideError", "math/bits.overflowError"], apart := false }
def SpindleCommandSaid : Prop := spindleCommandRow.holds Try.pinned (OpenSpec.ofChange spindleCommandSpec)

/-- ITS FALSE NEIGHBOUR: 'it returns false'. Refute it at one input. -/
def spindleCommandWrong : ChangeSpec := { name := "spindleCommand", fn := fun _ => fun
  | [d1, d2, d3] => { results := [.lit (.bool false)], args := [d1, d2, d3] }
  | _ => none }
def SpindleCommandWrongFalsely : Prop := spindleCommandRow.holds Try.pinned (OpenSpec.ofChange spindleCommandWrong)

/- THE SECOND FORM. 'bulk': how many values and letters a reading holds, each counted each time it is reached (what is shared counts as often as it is met; a slice's spare places count too). A statement '..UptoSaid' is the law's where the arguments, and the package variables that the reading takes, are together of bulk at most 1048576: NARROWER than '..Said'. Prove '..Said' where nothing that the law and all that it calls make is longer than what came in: it says more and counts as full. Else prove '..UptoSaid'. A law counts once. -/
mutual
def uptoBulk {H : Type} : DataW H → Nat
  | .lit (.string bytes) => bytes.length + 1
  | .lit _ => 1
  | .nil => 1
  | .ptr d => uptoBulk d + 1
  | .slice elems spare => uptoBulkAll elems + uptoBulkAll spare + 1
  | .agg parts => uptoBulkAll parts + 1
  | .iface _ d => uptoBulk d + 1
  | .map entries => uptoBulkEntries entries + 1
  | .held _ => 1
def uptoBulkAll {H : Type} : List (DataW H) → Nat
  | [] => 0
  | d :: r => uptoBulk d + uptoBulkAll r
def uptoBulkEntries {H : Type} : List (Lit × DataW H) → Nat
  | [] => 0
  | x :: r => uptoBulkEntry x + uptoBulkEntries r
def uptoBulkEntry {H : Type} : Lit × DataW H → Nat
  | (.string bytes, d) => bytes.length + uptoBulk d + 1
  | (_, d) => uptoBulk d + 1
 end
def uptoSmall : (H : Type) → List (DataW H) → Bool := fun _ ds => decide (uptoBulkAll ds ≤ 1048576)
def OpenSpec.upto (s : _root_.Go.ChangeSpec) : _root_.Go.OpenSpec := { _root_.Go.OpenSpec.ofChange s with cond := some uptoSmall }

/-- 'cnclaw37.SpindleRate', WHERE WHAT IT READS IS OF BULK AT MOST 1048576: true; the input reads as it did. -/
def spindleRateUptoRow : OpenClaim := { program := "ythkoabbiiadbjaa", sum := "011fe50b94a2fa2a59c5788fd09381d89c21eea3dd4b62471757bb93afd109f5", func := "cnc/cnclaw37.SpindleRate", spec := "spindleRate", named := ["math/bits.divideError", "math/bits.overflowError"], apart := false, narrowed := true }
def SpindleRateUptoSaid : Prop := spindleRateUptoRow.holds Try.pinned (OpenSpec.upto spindleRateSpec)

/-- 'cnclaw37.SpindleIndex', WHERE WHAT IT READS IS OF BULK AT MOST 1048576: true; the input reads as it did. -/
def spindleIndexUptoRow : OpenClaim := { program := "ythkoabbiiadbjaa", sum := "011fe50b94a2fa2a59c5788fd09381d89c21eea3dd4b62471757bb93afd109f5", func := "cnc/cnclaw37.SpindleIndex", spec := "spindleIndex", named := ["math/bits.divideError", "math/bits.overflowError"], apart := false, narrowed := true }
def SpindleIndexUptoSaid : Prop := spindleIndexUptoRow.holds Try.pinned (OpenSpec.upto spindleIndexSpec)

/-- 'cnclaw37.SpindleFollow', WHERE WHAT IT READS IS OF BULK AT MOST 1048576: true; the input reads as it did. -/
def spindleFollowUptoRow : OpenClaim := { program := "ythkoabbiiadbjaa", sum := "011fe50b94a2fa2a59c5788fd09381d89c21eea3dd4b62471757bb93afd109f5", func := "cnc/cnclaw37.SpindleFollow", spec := "spindleFollow", named := ["math/bits.divideError", "math/bits.overflowError"], apart := false, narrowed := true }
def SpindleFollowUptoSaid : Prop := spindleFollowUptoRow.holds Try.pinned (OpenSpec.upto spindleFollowSpec)

/-- 'cnclaw37.SpindleStep', WHERE WHAT IT READS IS OF BULK AT MOST 1048576: true; the input reads as it did. -/
def spindleStepUptoRow : OpenClaim := { program := "ythkoabbiiadbjaa", sum := "011fe50b94a2fa2a59c5788fd09381d89c21eea3dd4b62471757bb93afd109f5", func := "cnc/cnclaw37.SpindleStep", spec := "spindleStep", named := ["math/bits.divideError", "math/bits.overflowError"], apart := false, narrowed := true }
def SpindleStepUptoSaid : Prop := spindleStepUptoRow.holds Try.pinned (OpenSpec.upto spindleStepSpec)

/-- 'cnclaw37.SpindleCommand', WHERE WHAT IT READS IS OF BULK AT MOST 1048576: true; the input reads as it did. -/
def spindleCommandUptoRow : OpenClaim := { program := "ythkoabbiiadbjaa", sum := "011fe50b94a2fa2a59c5788fd09381d89c21eea3dd4b62471757bb93afd109f5", func := "cnc/cnclaw37.SpindleCommand", spec := "spindleCommand", named := ["math/bits.divideError", "math/bits.overflowError"], apart := false, narrowed := true }
def SpindleCommandUptoSaid : Prop := spindleCommandUptoRow.holds Try.pinned (OpenSpec.upto spindleCommandSpec)

end Rows
end Go.Proofs.Ythkoabbiiadbjaa
