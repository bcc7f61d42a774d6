/-
  No cell of these rows narrows 'for every input' (looked for: loops, veiled, ifaces, maps, wideKeys, modest, calm, conditions, laid).
  DERIVED. THE GIVEN ROWS OF THIS SEAT. 6 by the template 'for every input the law returns true; each argument reads behind the call as it read before'; 0 by the template 'total and deterministic' (their statements: YtneingpnkdeooaaGreatTotals.lean).
  GIVEN WITH THE SEED: the statements are not yours to turn. If you find one false, say at which input.
  Laid BY PROGRAM, IN A SANDBOX (cutbox-rows.mjs): the forced cells as the released guide's own fill.sh prints them over the translation 18f2bc5e7f9f55a6… (all of the seat's roots in one cut). By AI agents, Wed Nov 11 2026. No macro, syntax, notation, axiom, sorry.
-/
import Derived.Test.YtneingpnkdeooaaGreatChecked
import GoSem.Claim
import GoSem.ClaimJoined
import GoSem.ClaimMapViews
import Derived.JoinedTies
import Derived.KernelRfl
namespace Go.Proofs.YtneingpnkdeooaaGreat
/- THE CELL 'sum', in the pinned program and in every row, IS THE sha256 OF THE DUMP (.gsa) THAT YtneingpnkdeooaaGreatProg.lean LOADS. Nothing in Lean hashes anything: it is a label: what it is worth is what the hold of that sum in a sandbox is worth. -/
noncomputable def Tryz.pinned : Pinned := { name := "ytneingpnkdeooaagreat", sum := "18f2bc5e7f9f55a64aa1565d14efe8b0d4b988d96b6d551bc41c2c055e42df3c", checked := Tryz.checked }
namespace Rows
def none {H : Type} : Left H := { results := [], args := [] }

/-- 'cnclaw30.PulseBetween': WHATEVER THE INPUT: true; the input reads as it did. -/
def pulseBetweenSpec : ChangeSpec := { name := "pulseBetween", fn := fun _ => fun
  | [d1, d2, d3, d4, d5, d6, d7] => { results := [.lit (.bool true)], args := [d1, d2, d3, d4, d5, d6, d7] }
  | _ => none }
def pulseBetweenRow : OpenClaim := { program := "ytneingpnkdeooaagreat", sum := "18f2bc5e7f9f55a64aa1565d14efe8b0d4b988d96b6d551bc41c2c055e42df3c", func := "cnc/cnclaw30.PulseBetween", spec := "pulseBetween", recurses := true, named := ["math/bits.divideError", "math/bits.overflowError"], apart := false }
def PulseBetweenSaid : Prop := pulseBetweenRow.holds Tryz.pinned (OpenSpec.ofChange pulseBetweenSpec)

/-- ITS FALSE NEIGHBOUR: 'it returns false'. Refute it at one input. -/
def pulseBetweenWrong : ChangeSpec := { name := "pulseBetween", fn := fun _ => fun
  | [d1, d2, d3, d4, d5, d6, d7] => { results := [.lit (.bool false)], args := [d1, d2, d3, d4, d5, d6, d7] }
  | _ => none }
def PulseBetweenWrongFalsely : Prop := pulseBetweenRow.holds Tryz.pinned (OpenSpec.ofChange pulseBetweenWrong)

/-- 'cnclaw40.PlantFollows': WHATEVER THE INPUT: true; the input reads as it did. -/
def plantFollowsSpec : ChangeSpec := { name := "plantFollows", fn := fun _ => fun
  | [d1, d2, d3] => { results := [.lit (.bool true)], args := [d1, d2, d3] }
  | _ => none }
def plantFollowsRow : OpenClaim := { program := "ytneingpnkdeooaagreat", sum := "18f2bc5e7f9f55a64aa1565d14efe8b0d4b988d96b6d551bc41c2c055e42df3c", func := "cnc/cnclaw40.PlantFollows", spec := "plantFollows", recurses := true, named := ["math/bits.divideError", "math/bits.overflowError"], apart := false }
def PlantFollowsSaid : Prop := plantFollowsRow.holds Tryz.pinned (OpenSpec.ofChange plantFollowsSpec)

/-- ITS FALSE NEIGHBOUR: 'it returns false'. Refute it at one input. -/
def plantFollowsWrong : ChangeSpec := { name := "plantFollows", fn := fun _ => fun
  | [d1, d2, d3] => { results := [.lit (.bool false)], args := [d1, d2, d3] }
  | _ => none }
def PlantFollowsWrongFalsely : Prop := plantFollowsRow.holds Tryz.pinned (OpenSpec.ofChange plantFollowsWrong)

/-- 'cnclaw40.PlantNear': WHATEVER THE INPUT: true; the input reads as it did. -/
def plantNearSpec : ChangeSpec := { name := "plantNear", fn := fun _ => fun
  | [d1, d2, d3] => { results := [.lit (.bool true)], args := [d1, d2, d3] }
  | _ => none }
def plantNearRow : OpenClaim := { program := "ytneingpnkdeooaagreat", sum := "18f2bc5e7f9f55a64aa1565d14efe8b0d4b988d96b6d551bc41c2c055e42df3c", func := "cnc/cnclaw40.PlantNear", spec := "plantNear", recurses := true, named := ["math/bits.divideError", "math/bits.overflowError"], apart := false }
def PlantNearSaid : Prop := plantNearRow.holds Tryz.pinned (OpenSpec.ofChange plantNearSpec)

/-- ITS FALSE NEIGHBOUR: 'it returns false'. Refute it at one input. -/
def plantNearWrong : ChangeSpec := { name := "plantNear", fn := fun _ => fun
  | [d1, d2, d3] => { results := [.lit (.bool false)], args := [d1, d2, d3] }
  | _ => none }
def PlantNearWrongFalsely : Prop := plantNearRow.holds Tryz.pinned (OpenSpec.ofChange plantNearWrong)

/-- 'cnclaw42.RetraceMotors': WHATEVER THE INPUT: true; the input reads as it did. -/
def retraceMotorsSpec : ChangeSpec := { name := "retraceMotors", fn := fun _ => fun
  | [d1, d2, d3, d4, d5, d6, d7] => { results := [.lit (.bool true)], args := [d1, d2, d3, d4, d5, d6, d7] }
  | _ => none }
def retraceMotorsRow : OpenClaim := { program := "ytneingpnkdeooaagreat", sum := "18f2bc5e7f9f55a64aa1565d14efe8b0d4b988d96b6d551bc41c2c055e42df3c", func := "cnc/cnclaw42.RetraceMotors", spec := "retraceMotors", unfollowed := true, recurses := true, named := ["math/bits.divideError", "math/bits.overflowError"], apart := false }
def RetraceMotorsSaid : Prop := retraceMotorsRow.holds Tryz.pinned (OpenSpec.ofChange retraceMotorsSpec)

/-- ITS FALSE NEIGHBOUR: 'it returns false'. Refute it at one input. -/
def retraceMotorsWrong : ChangeSpec := { name := "retraceMotors", fn := fun _ => fun
  | [d1, d2, d3, d4, d5, d6, d7] => { results := [.lit (.bool false)], args := [d1, d2, d3, d4, d5, d6, d7] }
  | _ => none }
def RetraceMotorsWrongFalsely : Prop := retraceMotorsRow.holds Tryz.pinned (OpenSpec.ofChange retraceMotorsWrong)

/-- 'cnclaw42.RetraceHome': WHATEVER THE INPUT: true; the input reads as it did. -/
def retraceHomeSpec : ChangeSpec := { name := "retraceHome", fn := fun _ => fun
  | [d1, d2, d3, d4] => { results := [.lit (.bool true)], args := [d1, d2, d3, d4] }
  | _ => none }
def retraceHomeRow : OpenClaim := { program := "ytneingpnkdeooaagreat", sum := "18f2bc5e7f9f55a64aa1565d14efe8b0d4b988d96b6d551bc41c2c055e42df3c", func := "cnc/cnclaw42.RetraceHome", spec := "retraceHome", unfollowed := true, recurses := true, named := ["math/bits.divideError", "math/bits.overflowError"], apart := false }
def RetraceHomeSaid : Prop := retraceHomeRow.holds Tryz.pinned (OpenSpec.ofChange retraceHomeSpec)

/-- ITS FALSE NEIGHBOUR: 'it returns false'. Refute it at one input. -/
def retraceHomeWrong : ChangeSpec := { name := "retraceHome", fn := fun _ => fun
  | [d1, d2, d3, d4] => { results := [.lit (.bool false)], args := [d1, d2, d3, d4] }
  | _ => none }
def RetraceHomeWrongFalsely : Prop := retraceHomeRow.holds Tryz.pinned (OpenSpec.ofChange retraceHomeWrong)

/-- 'cnclaw40.PlantReturns': WHATEVER THE INPUT: true; the input reads as it did. -/
def plantReturnsSpec : ChangeSpec := { name := "plantReturns", fn := fun _ => fun
  | [d1, d2, d3, d4, d5] => { results := [.lit (.bool true)], args := [d1, d2, d3, d4, d5] }
  | _ => none }
def plantReturnsRow : OpenClaim := { program := "ytneingpnkdeooaagreat", sum := "18f2bc5e7f9f55a64aa1565d14efe8b0d4b988d96b6d551bc41c2c055e42df3c", func := "cnc/cnclaw40.PlantReturns", spec := "plantReturns", unfollowed := true, recurses := true, named := ["math/bits.divideError", "math/bits.overflowError"], apart := false }
def PlantReturnsSaid : Prop := plantReturnsRow.holds Tryz.pinned (OpenSpec.ofChange plantReturnsSpec)

/-- ITS FALSE NEIGHBOUR: 'it returns false'. Refute it at one input. -/
def plantReturnsWrong : ChangeSpec := { name := "plantReturns", fn := fun _ => fun
  | [d1, d2, d3, d4, d5] => { results := [.lit (.bool false)], args := [d1, d2, d3, d4, d5] }
  | _ => none }
def PlantReturnsWrongFalsely : Prop := plantReturnsRow.holds Tryz.pinned (OpenSpec.ofChange plantReturnsWrong)

/- THE SECOND FORM. 'bulk': how many values and letters a reading holds, each counted each time it is reached (what is shared counts as often as it is met; a slice's spare places count too). A statement '..UptoSaid' is the law's where the arguments, and the package variables that the reading takes, are together of bulk at most 1048576: NARROWER than '..Said'. Prove '..Said' where nothing that the law and all that it calls make is longer than what came in: it says more and counts as full. Else prove '..UptoSaid'. A law counts once. -/
mutual
def uptoBulk {H : Type} : DataW H → Nat
  | .lit (.string bytes) => bytes.length + 1
  | .lit _ => 1
  | .nil => 1
  | .ptr d => uptoBulk d + 1
  | .slice elems spare => uptoBulkAll elems + uptoBulkAll spare + 1
  | .agg parts => uptoBulkAll parts + 1
  | .iface _ d => uptoBulk d + 1
  | .map entries => uptoBulkEntries entries + 1
  | .held _ => 1
def uptoBulkAll {H : Type} : List (DataW H) → Nat
  | [] => 0
  | d :: r => uptoBulk d + uptoBulkAll r
def uptoBulkEntries {H : Type} : List (Lit × DataW H) → Nat
  | [] => 0
  | x :: r => uptoBulkEntry x + uptoBulkEntries r
def uptoBulkEntry {H : Type} : Lit × DataW H → Nat
  | (.string bytes, d) => bytes.length + uptoBulk d + 1
  | (_, d) => uptoBulk d + 1
 end
def uptoSmall : (H : Type) → List (DataW H) → Bool := fun _ ds => decide (uptoBulkAll ds ≤ 1048576)
def OpenSpec.upto (s : _root_.Go.ChangeSpec) : _root_.Go.OpenSpec := { _root_.Go.OpenSpec.ofChange s with cond := some uptoSmall }

/-- 'cnclaw30.PulseBetween', WHERE WHAT IT READS IS OF BULK AT MOST 1048576: true; the input reads as it did. -/
def pulseBetweenUptoRow : OpenClaim := { program := "ytneingpnkdeooaagreat", sum := "18f2bc5e7f9f55a64aa1565d14efe8b0d4b988d96b6d551bc41c2c055e42df3c", func := "cnc/cnclaw30.PulseBetween", spec := "pulseBetween", recurses := true, named := ["math/bits.divideError", "math/bits.overflowError"], apart := false, narrowed := true }
def PulseBetweenUptoSaid : Prop := pulseBetweenUptoRow.holds Tryz.pinned (OpenSpec.upto pulseBetweenSpec)

/-- 'cnclaw40.PlantFollows', WHERE WHAT IT READS IS OF BULK AT MOST 1048576: true; the input reads as it did. -/
def plantFollowsUptoRow : OpenClaim := { program := "ytneingpnkdeooaagreat", sum := "18f2bc5e7f9f55a64aa1565d14efe8b0d4b988d96b6d551bc41c2c055e42df3c", func := "cnc/cnclaw40.PlantFollows", spec := "plantFollows", recurses := true, named := ["math/bits.divideError", "math/bits.overflowError"], apart := false, narrowed := true }
def PlantFollowsUptoSaid : Prop := plantFollowsUptoRow.holds Tryz.pinned (OpenSpec.upto plantFollowsSpec)

/-- 'cnclaw40.PlantNear', WHERE WHAT IT READS IS OF BULK AT MOST 1048576: true; the input reads as it did. -/
def plantNearUptoRow : OpenClaim := { program := "ytneingpnkdeooaagreat", sum := "18f2bc5e7f9f55a64aa1565d14efe8b0d4b988d96b6d551bc41c2c055e42df3c", func := "cnc/cnclaw40.PlantNear", spec := "plantNear", recurses := true, named := ["math/bits.divideError", "math/bits.overflowError"], apart := false, narrowed := true }
def PlantNearUptoSaid : Prop := plantNearUptoRow.holds Tryz.pinned (OpenSpec.upto plantNearSpec)

/-- 'cnclaw42.RetraceMotors', WHERE WHAT IT READS IS OF BULK AT MOST 1048576: true; the input reads as it did. -/
def retraceMotorsUptoRow : OpenClaim := { program := "ytneingpnkdeooaagreat", sum := "18f2bc5e7f9f55a64aa1565d14efe8b0d4b988d96b6d551bc41c2c055e42df3c", func := "cnc/cnclaw42.RetraceMotors", spec := "retraceMotors", unfollowed := true, recurses := true, named := ["math/bits.divideError", "math/bits.overflowError"], apart := false, narrowed := true }
def RetraceMotorsUptoSaid : Prop := retraceMotorsUptoRow.holds Tryz.pinned (OpenSpec.upto retraceMotorsSpec)

/-- 'cnclaw42.RetraceHome', WHERE WHAT IT READS IS OF BULK AT MOST 1048576: true; the input reads as it did. -/
def retraceHomeUptoRow : OpenClaim := { program := "ytneingpnkdeooaagreat", sum := "18f2bc5e7f9f55a64aa1565d14efe8b0d4b988d96b6d551bc41c2c055e42df3c", func := "cnc/cnclaw42.RetraceHome", spec := "retraceHome", unfollowed := true, recurses := true, named := ["math/bits.divideError", "math/bits.overflowError"], apart := false, narrowed := true }
def RetraceHomeUptoSaid : Prop := retraceHomeUptoRow.holds Tryz.pinned (OpenSpec.upto retraceHomeSpec)

/-- 'cnclaw40.PlantReturns', WHERE WHAT IT READS IS OF BULK AT MOST 1048576: true; the input reads as it did. -/
def plantReturnsUptoRow : OpenClaim := { program := "ytneingpnkdeooaagreat", sum := "18f2bc5e7f9f55a64aa1565d14efe8b0d4b988d96b6d551bc41c2c055e42df3c", func := "cnc/cnclaw40.PlantReturns", spec := "plantReturns", unfollowed := true, recurses := true, named := ["math/bits.divideError", "math/bits.overflowError"], apart := false, narrowed := true }
def PlantReturnsUptoSaid : Prop := plantReturnsUptoRow.holds Tryz.pinned (OpenSpec.upto plantReturnsSpec)

end Rows
end Go.Proofs.YtneingpnkdeooaaGreat
