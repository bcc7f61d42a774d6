/-
  No cell of these rows narrows 'for every input' (looked for: loops, veiled, ifaces, maps, wideKeys, modest, calm, conditions, laid).
  DERIVED. THE GIVEN ROWS OF THIS SEAT. 6 by the template 'for every input the law returns true; each argument reads behind the call as it read before'; 0 by the template 'total and deterministic' (their statements: YtneingpnkdeooaaTotals.lean).
  GIVEN WITH THE SEED: the statements are not yours to turn. If you find one false, say at which input.
  Laid BY PROGRAM, IN A SANDBOX (cutbox-rows.mjs): the forced cells as the released guide's own fill.sh prints them over the translation 123813e76c341989… (all of the seat's roots in one cut). By AI agents, Wed Nov 11 2026. No macro, syntax, notation, axiom, sorry.
-/
import Derived.Test.YtneingpnkdeooaaChecked
import GoSem.Claim
import GoSem.ClaimJoined
import GoSem.ClaimMapViews
import Derived.JoinedTies
import Derived.KernelRfl
namespace Go.Proofs.Ytneingpnkdeooaa
/- THE CELL 'sum', in the pinned program and in every row, IS THE sha256 OF THE DUMP (.gsa) THAT YtneingpnkdeooaaProg.lean LOADS. Nothing in Lean hashes anything: it is a label: what it is worth is what the hold of that sum in a sandbox is worth. -/
noncomputable def Try.pinned : Pinned := { name := "ytneingpnkdeooaa", sum := "123813e76c341989fb4f62931ebb0eb82a2373e13826eb25e44118b31729ee0f", checked := Try.checked }
namespace Rows
def none {H : Type} : Left H := { results := [], args := [] }

/-- 'cnclaw42.RetraceFacing': WHATEVER THE INPUT: true; the input reads as it did. -/
def retraceFacingSpec : ChangeSpec := { name := "retraceFacing", fn := fun _ => fun
  | [d1, d2, d3, d4, d5, d6] => { results := [.lit (.bool true)], args := [d1, d2, d3, d4, d5, d6] }
  | _ => none }
def retraceFacingRow : OpenClaim := { program := "ytneingpnkdeooaa", sum := "123813e76c341989fb4f62931ebb0eb82a2373e13826eb25e44118b31729ee0f", func := "cnc/cnclaw42.RetraceFacing", spec := "retraceFacing", unfollowed := true, recurses := true, apart := false }
def RetraceFacingSaid : Prop := retraceFacingRow.holds Try.pinned (OpenSpec.ofChange retraceFacingSpec)

/-- ITS FALSE NEIGHBOUR: 'it returns false'. Refute it at one input. -/
def retraceFacingWrong : ChangeSpec := { name := "retraceFacing", fn := fun _ => fun
  | [d1, d2, d3, d4, d5, d6] => { results := [.lit (.bool false)], args := [d1, d2, d3, d4, d5, d6] }
  | _ => none }
def RetraceFacingWrongFalsely : Prop := retraceFacingRow.holds Try.pinned (OpenSpec.ofChange retraceFacingWrong)

/-- 'cnclaw42.RetraceTurn': WHATEVER THE INPUT: true; the input reads as it did. -/
def retraceTurnSpec : ChangeSpec := { name := "retraceTurn", fn := fun _ => fun
  | [d1, d2, d3, d4, d5, d6, d7, d8] => { results := [.lit (.bool true)], args := [d1, d2, d3, d4, d5, d6, d7, d8] }
  | _ => none }
def retraceTurnRow : OpenClaim := { program := "ytneingpnkdeooaa", sum := "123813e76c341989fb4f62931ebb0eb82a2373e13826eb25e44118b31729ee0f", func := "cnc/cnclaw42.RetraceTurn", spec := "retraceTurn", unfollowed := true, recurses := true, apart := false }
def RetraceTurnSaid : Prop := retraceTurnRow.holds Try.pinned (OpenSpec.ofChange retraceTurnSpec)

/-- ITS FALSE NEIGHBOUR: 'it returns false'. Refute it at one input. -/
def retraceTurnWrong : ChangeSpec := { name := "retraceTurn", fn := fun _ => fun
  | [d1, d2, d3, d4, d5, d6, d7, d8] => { results := [.lit (.bool false)], args := [d1, d2, d3, d4, d5, d6, d7, d8] }
  | _ => none }
def RetraceTurnWrongFalsely : Prop := retraceTurnRow.holds Try.pinned (OpenSpec.ofChange retraceTurnWrong)

/-- 'cnclaw30.PulseSum': WHATEVER THE INPUT: true; the input reads as it did. -/
def pulseSumSpec : ChangeSpec := { name := "pulseSum", fn := fun _ => fun
  | [d] => { results := [.lit (.bool true)], args := [d] }
  | _ => none }
def pulseSumRow : OpenClaim := { program := "ytneingpnkdeooaa", sum := "123813e76c341989fb4f62931ebb0eb82a2373e13826eb25e44118b31729ee0f", func := "cnc/cnclaw30.PulseSum", spec := "pulseSum", named := ["math/bits.divideError", "math/bits.overflowError"], apart := false }
def PulseSumSaid : Prop := pulseSumRow.holds Try.pinned (OpenSpec.ofChange pulseSumSpec)

/-- ITS FALSE NEIGHBOUR: 'it returns false'. Refute it at one input. -/
def pulseSumWrong : ChangeSpec := { name := "pulseSum", fn := fun _ => fun
  | [d] => { results := [.lit (.bool false)], args := [d] }
  | _ => none }
def PulseSumWrongFalsely : Prop := pulseSumRow.holds Try.pinned (OpenSpec.ofChange pulseSumWrong)

/-- 'cnclaw30.PulseMotors': WHATEVER THE INPUT: true; the input reads as it did. -/
def pulseMotorsSpec : ChangeSpec := { name := "pulseMotors", fn := fun _ => fun
  | [d1, d2, d3, d4, d5, d6, d7] => { results := [.lit (.bool true)], args := [d1, d2, d3, d4, d5, d6, d7] }
  | _ => none }
def pulseMotorsRow : OpenClaim := { program := "ytneingpnkdeooaa", sum := "123813e76c341989fb4f62931ebb0eb82a2373e13826eb25e44118b31729ee0f", func := "cnc/cnclaw30.PulseMotors", spec := "pulseMotors", recurses := true, named := ["math/bits.divideError", "math/bits.overflowError"], apart := false }
def PulseMotorsSaid : Prop := pulseMotorsRow.holds Try.pinned (OpenSpec.ofChange pulseMotorsSpec)

/-- ITS FALSE NEIGHBOUR: 'it returns false'. Refute it at one input. -/
def pulseMotorsWrong : ChangeSpec := { name := "pulseMotors", fn := fun _ => fun
  | [d1, d2, d3, d4, d5, d6, d7] => { results := [.lit (.bool false)], args := [d1, d2, d3, d4, d5, d6, d7] }
  | _ => none }
def PulseMotorsWrongFalsely : Prop := pulseMotorsRow.holds Try.pinned (OpenSpec.ofChange pulseMotorsWrong)

/-- 'cnclaw30.PulseJoined': WHATEVER THE INPUT: true; the input reads as it did. -/
def pulseJoinedSpec : ChangeSpec := { name := "pulseJoined", fn := fun _ => fun
  | [d1, d2, d3, d4, d5, d6] => { results := [.lit (.bool true)], args := [d1, d2, d3, d4, d5, d6] }
  | _ => none }
def pulseJoinedRow : OpenClaim := { program := "ytneingpnkdeooaa", sum := "123813e76c341989fb4f62931ebb0eb82a2373e13826eb25e44118b31729ee0f", func := "cnc/cnclaw30.PulseJoined", spec := "pulseJoined", recurses := true, named := ["math/bits.divideError", "math/bits.overflowError"], apart := false }
def PulseJoinedSaid : Prop := pulseJoinedRow.holds Try.pinned (OpenSpec.ofChange pulseJoinedSpec)

/-- ITS FALSE NEIGHBOUR: 'it returns false'. Refute it at one input. -/
def pulseJoinedWrong : ChangeSpec := { name := "pulseJoined", fn := fun _ => fun
  | [d1, d2, d3, d4, d5, d6] => { results := [.lit (.bool false)], args := [d1, d2, d3, d4, d5, d6] }
  | _ => none }
def PulseJoinedWrongFalsely : Prop := pulseJoinedRow.holds Try.pinned (OpenSpec.ofChange pulseJoinedWrong)

/-- 'cnclaw30.PulseOrder': WHATEVER THE INPUT: true; the input reads as it did. -/
def pulseOrderSpec : ChangeSpec := { name := "pulseOrder", fn := fun _ => fun
  | [d1, d2, d3, d4, d5] => { results := [.lit (.bool true)], args := [d1, d2, d3, d4, d5] }
  | _ => none }
def pulseOrderRow : OpenClaim := { program := "ytneingpnkdeooaa", sum := "123813e76c341989fb4f62931ebb0eb82a2373e13826eb25e44118b31729ee0f", func := "cnc/cnclaw30.PulseOrder", spec := "pulseOrder", recurses := true, named := ["math/bits.divideError", "math/bits.overflowError"], apart := false }
def PulseOrderSaid : Prop := pulseOrderRow.holds Try.pinned (OpenSpec.ofChange pulseOrderSpec)

/-- ITS FALSE NEIGHBOUR: 'it returns false'. Refute it at one input. -/
def pulseOrderWrong : ChangeSpec := { name := "pulseOrder", fn := fun _ => fun
  | [d1, d2, d3, d4, d5] => { results := [.lit (.bool false)], args := [d1, d2, d3, d4, d5] }
  | _ => none }
def PulseOrderWrongFalsely : Prop := pulseOrderRow.holds Try.pinned (OpenSpec.ofChange pulseOrderWrong)

/- THE SECOND FORM. 'bulk': how many values and letters a reading holds, each counted each time it is reached (what is shared counts as often as it is met; a slice's spare places count too). A statement '..UptoSaid' is the law's where the arguments, and the package variables that the reading takes, are together of bulk at most 1048576: NARROWER than '..Said'. Prove '..Said' where nothing that the law and all that it calls make is longer than what came in: it says more and counts as full. Else prove '..UptoSaid'. A law counts once. -/
mutual
def uptoBulk {H : Type} : DataW H → Nat
  | .lit (.string bytes) => bytes.length + 1
  | .lit _ => 1
  | .nil => 1
  | .ptr d => uptoBulk d + 1
  | .slice elems spare => uptoBulkAll elems + uptoBulkAll spare + 1
  | .agg parts => uptoBulkAll parts + 1
  | .iface _ d => uptoBulk d + 1
  | .map entries => uptoBulkEntries entries + 1
  | .held _ => 1
def uptoBulkAll {H : Type} : List (DataW H) → Nat
  | [] => 0
  | d :: r => uptoBulk d + uptoBulkAll r
def uptoBulkEntries {H : Type} : List (Lit × DataW H) → Nat
  | [] => 0
  | x :: r => uptoBulkEntry x + uptoBulkEntries r
def uptoBulkEntry {H : Type} : Lit × DataW H → Nat
  | (.string bytes, d) => bytes.length + uptoBulk d + 1
  | (_, d) => uptoBulk d + 1
 end
def uptoSmall : (H : Type) → List (DataW H) → Bool := fun _ ds => decide (uptoBulkAll ds ≤ 1048576)
def OpenSpec.upto (s : _root_.Go.ChangeSpec) : _root_.Go.OpenSpec := { _root_.Go.OpenSpec.ofChange s with cond := some uptoSmall }

/-- 'cnclaw42.RetraceFacing', WHERE WHAT IT READS IS OF BULK AT MOST 1048576: true; the input reads as it did. -/
def retraceFacingUptoRow : OpenClaim := { program := "ytneingpnkdeooaa", sum := "123813e76c341989fb4f62931ebb0eb82a2373e13826eb25e44118b31729ee0f", func := "cnc/cnclaw42.RetraceFacing", spec := "retraceFacing", unfollowed := true, recurses := true, apart := false, narrowed := true }
def RetraceFacingUptoSaid : Prop := retraceFacingUptoRow.holds Try.pinned (OpenSpec.upto retraceFacingSpec)

/-- 'cnclaw42.RetraceTurn', WHERE WHAT IT READS IS OF BULK AT MOST 1048576: true; the input reads as it did. -/
def retraceTurnUptoRow : OpenClaim := { program := "ytneingpnkdeooaa", sum := "123813e76c341989fb4f62931ebb0eb82a2373e13826eb25e44118b31729ee0f", func := "cnc/cnclaw42.RetraceTurn", spec := "retraceTurn", unfollowed := true, recurses := true, apart := false, narrowed := true }
def RetraceTurnUptoSaid : Prop := retraceTurnUptoRow.holds Try.pinned (OpenSpec.upto retraceTurnSpec)

/-- 'cnclaw30.PulseSum', WHERE WHAT IT READS IS OF BULK AT MOST 1048576: true; the input reads as it did. -/
def pulseSumUptoRow : OpenClaim := { program := "ytneingpnkdeooaa", sum := "123813e76c341989fb4f62931ebb0eb82a2373e13826eb25e44118b31729ee0f", func := "cnc/cnclaw30.PulseSum", spec := "pulseSum", named := ["math/bits.divideError", "math/bits.overflowError"], apart := false, narrowed := true }
def PulseSumUptoSaid : Prop := pulseSumUptoRow.holds Try.pinned (OpenSpec.upto pulseSumSpec)

/-- 'cnclaw30.PulseMotors', WHERE WHAT IT READS IS OF BULK AT MOST 1048576: true; the input reads as it did. -/
def pulseMotorsUptoRow : OpenClaim := { program := "ytneingpnkdeooaa", sum := "123813e76c341989fb4f62931ebb0eb82a2373e13826eb25e44118b31729ee0f", func := "cnc/cnclaw30.PulseMotors", spec := "pulseMotors", recurses := true, named := ["math/bits.divideError", "math/bits.overflowError"], apart := false, narrowed := true }
def PulseMotorsUptoSaid : Prop := pulseMotorsUptoRow.holds Try.pinned (OpenSpec.upto pulseMotorsSpec)

/-- 'cnclaw30.PulseJoined', WHERE WHAT IT READS IS OF BULK AT MOST 1048576: true; the input reads as it did. -/
def pulseJoinedUptoRow : OpenClaim := { program := "ytneingpnkdeooaa", sum := "123813e76c341989fb4f62931ebb0eb82a2373e13826eb25e44118b31729ee0f", func := "cnc/cnclaw30.PulseJoined", spec := "pulseJoined", recurses := true, named := ["math/bits.divideError", "math/bits.overflowError"], apart := false, narrowed := true }
def PulseJoinedUptoSaid : Prop := pulseJoinedUptoRow.holds Try.pinned (OpenSpec.upto pulseJoinedSpec)

/-- 'cnclaw30.PulseOrder', WHERE WHAT IT READS IS OF BULK AT MOST 1048576: true; the input reads as it did. -/
def pulseOrderUptoRow : OpenClaim := { program := "ytneingpnkdeooaa", sum := "123813e76c341989fb4f62931ebb0eb82a2373e13826eb25e44118b31729ee0f", func := "cnc/cnclaw30.PulseOrder", spec := "pulseOrder", recurses := true, named := ["math/bits.divideError", "math/bits.overflowError"], apart := false, narrowed := true }
def PulseOrderUptoSaid : Prop := pulseOrderUptoRow.holds Try.pinned (OpenSpec.upto pulseOrderSpec)

end Rows
end Go.Proofs.Ytneingpnkdeooaa
