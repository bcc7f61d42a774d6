/-
  No cell of these rows narrows 'for every input' (looked for: loops, veiled, ifaces, maps, wideKeys, modest, calm, conditions, laid).
  DERIVED. THE GIVEN ROWS OF THIS SEAT. 6 by the template 'for every input the law returns true; each argument reads behind the call as it read before'; 0 by the template 'total and deterministic' (their statements: YtajppnnfgefpjaaTotals.lean).
  GIVEN WITH THE SEED: the statements are not yours to turn. If you find one false, say at which input.
  Laid BY PROGRAM, IN A SANDBOX (cutbox-rows.mjs): the forced cells as the released guide's own fill.sh prints them over the translation a37d557057813f4d… (all of the seat's roots in one cut). By AI agents, Wed Nov 11 2026. No macro, syntax, notation, axiom, sorry.
-/
import Derived.Test.YtajppnnfgefpjaaChecked
import GoSem.Claim
import GoSem.ClaimJoined
import GoSem.ClaimMapViews
import Derived.JoinedTies
import Derived.KernelRfl
namespace Go.Proofs.Ytajppnnfgefpjaa
/- THE CELL 'sum', in the pinned program and in every row, IS THE sha256 OF THE DUMP (.gsa) THAT YtajppnnfgefpjaaProg.lean LOADS. Nothing in Lean hashes anything: it is a label: what it is worth is what the hold of that sum in a sandbox is worth. -/
noncomputable def Try.pinned : Pinned := { name := "ytajppnnfgefpjaa", sum := "a37d557057813f4d19c5b555370bf42ac7cbf1640fe3ce349ff9d10d9192f707", checked := Try.checked }
namespace Rows
def none {H : Type} : Left H := { results := [], args := [] }

/-- 'cnclaw27.PitchCorrect': WHATEVER THE INPUT: true; the input reads as it did. -/
def pitchCorrectSpec : ChangeSpec := { name := "pitchCorrect", fn := fun _ => fun
  | [d1, d2] => { results := [.lit (.bool true)], args := [d1, d2] }
  | _ => none }
def pitchCorrectRow : OpenClaim := { program := "ytajppnnfgefpjaa", sum := "a37d557057813f4d19c5b555370bf42ac7cbf1640fe3ce349ff9d10d9192f707", func := "cnc/cnclaw27.PitchCorrect", spec := "pitchCorrect", named := ["math/bits.divideError", "math/bits.overflowError"], apart := false }
def PitchCorrectSaid : Prop := pitchCorrectRow.holds Try.pinned (OpenSpec.ofChange pitchCorrectSpec)

/-- ITS FALSE NEIGHBOUR: 'it returns false'. Refute it at one input. -/
def pitchCorrectWrong : ChangeSpec := { name := "pitchCorrect", fn := fun _ => fun
  | [d1, d2] => { results := [.lit (.bool false)], args := [d1, d2] }
  | _ => none }
def PitchCorrectWrongFalsely : Prop := pitchCorrectRow.holds Try.pinned (OpenSpec.ofChange pitchCorrectWrong)

/-- 'cnclaw27.PitchKnots': WHATEVER THE INPUT: true; the input reads as it did. -/
def pitchKnotsSpec : ChangeSpec := { name := "pitchKnots", fn := fun _ => fun
  | [d1, d2] => { results := [.lit (.bool true)], args := [d1, d2] }
  | _ => none }
def pitchKnotsRow : OpenClaim := { program := "ytajppnnfgefpjaa", sum := "a37d557057813f4d19c5b555370bf42ac7cbf1640fe3ce349ff9d10d9192f707", func := "cnc/cnclaw27.PitchKnots", spec := "pitchKnots", named := ["math/bits.divideError", "math/bits.overflowError"], apart := false }
def PitchKnotsSaid : Prop := pitchKnotsRow.holds Try.pinned (OpenSpec.ofChange pitchKnotsSpec)

/-- ITS FALSE NEIGHBOUR: 'it returns false'. Refute it at one input. -/
def pitchKnotsWrong : ChangeSpec := { name := "pitchKnots", fn := fun _ => fun
  | [d1, d2] => { results := [.lit (.bool false)], args := [d1, d2] }
  | _ => none }
def PitchKnotsWrongFalsely : Prop := pitchKnotsRow.holds Try.pinned (OpenSpec.ofChange pitchKnotsWrong)

/-- 'cnclaw27.PitchSlope': WHATEVER THE INPUT: true; the input reads as it did. -/
def pitchSlopeSpec : ChangeSpec := { name := "pitchSlope", fn := fun _ => fun
  | [d1, d2] => { results := [.lit (.bool true)], args := [d1, d2] }
  | _ => none }
def pitchSlopeRow : OpenClaim := { program := "ytajppnnfgefpjaa", sum := "a37d557057813f4d19c5b555370bf42ac7cbf1640fe3ce349ff9d10d9192f707", func := "cnc/cnclaw27.PitchSlope", spec := "pitchSlope", named := ["math/bits.divideError", "math/bits.overflowError"], apart := false }
def PitchSlopeSaid : Prop := pitchSlopeRow.holds Try.pinned (OpenSpec.ofChange pitchSlopeSpec)

/-- ITS FALSE NEIGHBOUR: 'it returns false'. Refute it at one input. -/
def pitchSlopeWrong : ChangeSpec := { name := "pitchSlope", fn := fun _ => fun
  | [d1, d2] => { results := [.lit (.bool false)], args := [d1, d2] }
  | _ => none }
def PitchSlopeWrongFalsely : Prop := pitchSlopeRow.holds Try.pinned (OpenSpec.ofChange pitchSlopeWrong)

/-- 'cnclaw27.PitchMotor': WHATEVER THE INPUT: true; the input reads as it did. -/
def pitchMotorSpec : ChangeSpec := { name := "pitchMotor", fn := fun _ => fun
  | [d1, d2] => { results := [.lit (.bool true)], args := [d1, d2] }
  | _ => none }
def pitchMotorRow : OpenClaim := { program := "ytajppnnfgefpjaa", sum := "a37d557057813f4d19c5b555370bf42ac7cbf1640fe3ce349ff9d10d9192f707", func := "cnc/cnclaw27.PitchMotor", spec := "pitchMotor", named := ["math/bits.divideError", "math/bits.overflowError"], apart := false }
def PitchMotorSaid : Prop := pitchMotorRow.holds Try.pinned (OpenSpec.ofChange pitchMotorSpec)

/-- ITS FALSE NEIGHBOUR: 'it returns false'. Refute it at one input. -/
def pitchMotorWrong : ChangeSpec := { name := "pitchMotor", fn := fun _ => fun
  | [d1, d2] => { results := [.lit (.bool false)], args := [d1, d2] }
  | _ => none }
def PitchMotorWrongFalsely : Prop := pitchMotorRow.holds Try.pinned (OpenSpec.ofChange pitchMotorWrong)

/-- 'cnclaw27.PitchInverse': WHATEVER THE INPUT: true; the input reads as it did. -/
def pitchInverseSpec : ChangeSpec := { name := "pitchInverse", fn := fun _ => fun
  | [d1, d2] => { results := [.lit (.bool true)], args := [d1, d2] }
  | _ => none }
def pitchInverseRow : OpenClaim := { program := "ytajppnnfgefpjaa", sum := "a37d557057813f4d19c5b555370bf42ac7cbf1640fe3ce349ff9d10d9192f707", func := "cnc/cnclaw27.PitchInverse", spec := "pitchInverse", named := ["math/bits.divideError", "math/bits.overflowError"], apart := false }
def PitchInverseSaid : Prop := pitchInverseRow.holds Try.pinned (OpenSpec.ofChange pitchInverseSpec)

/-- ITS FALSE NEIGHBOUR: 'it returns false'. Refute it at one input. -/
def pitchInverseWrong : ChangeSpec := { name := "pitchInverse", fn := fun _ => fun
  | [d1, d2] => { results := [.lit (.bool false)], args := [d1, d2] }
  | _ => none }
def PitchInverseWrongFalsely : Prop := pitchInverseRow.holds Try.pinned (OpenSpec.ofChange pitchInverseWrong)

/-- 'cnclaw27.PitchBack': WHATEVER THE INPUT: true; the input reads as it did. -/
def pitchBackSpec : ChangeSpec := { name := "pitchBack", fn := fun _ => fun
  | [d1, d2] => { results := [.lit (.bool true)], args := [d1, d2] }
  | _ => none }
def pitchBackRow : OpenClaim := { program := "ytajppnnfgefpjaa", sum := "a37d557057813f4d19c5b555370bf42ac7cbf1640fe3ce349ff9d10d9192f707", func := "cnc/cnclaw27.PitchBack", spec := "pitchBack", named := ["math/bits.divideError", "math/bits.overflowError"], apart := false }
def PitchBackSaid : Prop := pitchBackRow.holds Try.pinned (OpenSpec.ofChange pitchBackSpec)

/-- ITS FALSE NEIGHBOUR: 'it returns false'. Refute it at one input. -/
def pitchBackWrong : ChangeSpec := { name := "pitchBack", fn := fun _ => fun
  | [d1, d2] => { results := [.lit (.bool false)], args := [d1, d2] }
  | _ => none }
def PitchBackWrongFalsely : Prop := pitchBackRow.holds Try.pinned (OpenSpec.ofChange pitchBackWrong)

/- THE SECOND FORM. 'bulk': how many values and letters a reading holds, each counted each time it is reached (what is shared counts as often as it is met; a slice's spare places count too). A statement '..UptoSaid' is the law's where the arguments, and the package variables that the reading takes, are together of bulk at most 1048576: NARROWER than '..Said'. Prove '..Said' where nothing that the law and all that it calls make is longer than what came in: it says more and counts as full. Else prove '..UptoSaid'. A law counts once. -/
mutual
def uptoBulk {H : Type} : DataW H → Nat
  | .lit (.string bytes) => bytes.length + 1
  | .lit _ => 1
  | .nil => 1
  | .ptr d => uptoBulk d + 1
  | .slice elems spare => uptoBulkAll elems + uptoBulkAll spare + 1
  | .agg parts => uptoBulkAll parts + 1
  | .iface _ d => uptoBulk d + 1
  | .map entries => uptoBulkEntries entries + 1
  | .held _ => 1
def uptoBulkAll {H : Type} : List (DataW H) → Nat
  | [] => 0
  | d :: r => uptoBulk d + uptoBulkAll r
def uptoBulkEntries {H : Type} : List (Lit × DataW H) → Nat
  | [] => 0
  | x :: r => uptoBulkEntry x + uptoBulkEntries r
def uptoBulkEntry {H : Type} : Lit × DataW H → Nat
  | (.string bytes, d) => bytes.length + uptoBulk d + 1
  | (_, d) => uptoBulk d + 1
 end
def uptoSmall : (H : Type) → List (DataW H) → Bool := fun _ ds => decide (uptoBulkAll ds ≤ 1048576)
def OpenSpec.upto (s : _root_.Go.ChangeSpec) : _root_.Go.OpenSpec := { _root_.Go.OpenSpec.ofChange s with cond := some uptoSmall }

/-- 'cnclaw27.PitchCorrect', WHERE WHAT IT READS IS OF BULK AT MOST 1048576: true; the input reads as it did. -/
def pitchCorrectUptoRow : OpenClaim := { program := "ytajppnnfgefpjaa", sum := "a37d557057813f4d19c5b555370bf42ac7cbf1640fe3ce349ff9d10d9192f707", func := "cnc/cnclaw27.PitchCorrect", spec := "pitchCorrect", named := ["math/bits.divideError", "math/bits.overflowError"], apart := false, narrowed := true }
def PitchCorrectUptoSaid : Prop := pitchCorrectUptoRow.holds Try.pinned (OpenSpec.upto pitchCorrectSpec)

/-- 'cnclaw27.PitchKnots', WHERE WHAT IT READS IS OF BULK AT MOST 1048576: true; the input reads as it did. -/
def pitchKnotsUptoRow : OpenClaim := { program := "ytajppnnfgefpjaa", sum := "a37d557057813f4d19c5b555370bf42ac7cbf1640fe3ce349ff9d10d9192f707", func := "cnc/cnclaw27.PitchKnots", spec := "pitchKnots", named := ["math/bits.divideError", "math/bits.overflowError"], apart := false, narrowed := true }
def PitchKnotsUptoSaid : Prop := pitchKnotsUptoRow.holds Try.pinned (OpenSpec.upto pitchKnotsSpec)

/-- 'cnclaw27.PitchSlope', WHERE WHAT IT READS IS OF BULK AT MOST 1048576: true; the input reads as it did. -/
def pitchSlopeUptoRow : OpenClaim := { program := "ytajppnnfgefpjaa", sum := "a37d557057813f4d19c5b555370bf42ac7cbf1640fe3ce349ff9d10d9192f707", func := "cnc/cnclaw27.PitchSlope", spec := "pitchSlope", named := ["math/bits.divideError", "math/bits.overflowError"], apart := false, narrowed := true }
def PitchSlopeUptoSaid : Prop := pitchSlopeUptoRow.holds Try.pinned (OpenSpec.upto pitchSlopeSpec)

/-- 'cnclaw27.PitchMotor', WHERE WHAT IT READS IS OF BULK AT MOST 1048576: true; the input reads as it did. -/
def pitchMotorUptoRow : OpenClaim := { program := "ytajppnnfgefpjaa", sum := "a37d557057813f4d19c5b555370bf42ac7cbf1640fe3ce349ff9d10d9192f707", func := "cnc/cnclaw27.PitchMotor", spec := "pitchMotor", named := ["math/bits.divideError", "math/bits.overflowError"], apart := false, narrowed := true }
def PitchMotorUptoSaid : Prop := pitchMotorUptoRow.holds Try.pinned (OpenSpec.upto pitchMotorSpec)

/-- 'cnclaw27.PitchInverse', WHERE WHAT IT READS IS OF BULK AT MOST 1048576: true; the input reads as it did. -/
def pitchInverseUptoRow : OpenClaim := { program := "ytajppnnfgefpjaa", sum := "a37d557057813f4d19c5b555370bf42ac7cbf1640fe3ce349ff9d10d9192f707", func := "cnc/cnclaw27.PitchInverse", spec := "pitchInverse", named := ["math/bits.divideError", "math/bits.overflowError"], apart := false, narrowed := true }
def PitchInverseUptoSaid : Prop := pitchInverseUptoRow.holds Try.pinned (OpenSpec.upto pitchInverseSpec)

/-- 'cnclaw27.PitchBack', WHERE WHAT IT READS IS OF BULK AT MOST 1048576: true; the input reads as it did. -/
def pitchBackUptoRow : OpenClaim := { program := "ytajppnnfgefpjaa", sum := "a37d557057813f4d19c5b555370bf42ac7cbf1640fe3ce349ff9d10d9192f707", func := "cnc/cnclaw27.PitchBack", spec := "pitchBack", named := ["math/bits.divideError", "math/bits.overflowError"], apart := false, narrowed := true }
def PitchBackUptoSaid : Prop := pitchBackUptoRow.holds Try.pinned (OpenSpec.upto pitchBackSpec)

end Rows
end Go.Proofs.Ytajppnnfgefpjaa
