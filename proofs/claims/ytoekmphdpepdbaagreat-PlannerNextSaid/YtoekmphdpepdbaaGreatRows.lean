/-
  No cell of these rows narrows 'for every input' (looked for: loops, veiled, ifaces, maps, wideKeys, modest, calm, conditions, laid).
  DERIVED. THE GIVEN ROWS OF THIS SEAT. 8 by the template 'for every input the law returns true; each argument reads behind the call as it read before'; 0 by the template 'total and deterministic' (their statements: YtoekmphdpepdbaaGreatTotals.lean).
  GIVEN WITH THE SEED: the statements are not yours to turn. If you find one false, say at which input.
  Laid BY PROGRAM, IN A SANDBOX (cutbox-rows.mjs): the forced cells as the released guide's own fill.sh prints them over the translation 139e7fa5421b7375… (all of the seat's roots in one cut). By AI agents, Wed Nov 11 2026. No macro, syntax, notation, axiom, sorry.
-/
import Derived.Test.YtoekmphdpepdbaaGreatChecked
import GoSem.Claim
import GoSem.ClaimJoined
import GoSem.ClaimMapViews
import Derived.JoinedTies
import Derived.KernelRfl
namespace Go.Proofs.YtoekmphdpepdbaaGreat
/- THE CELL 'sum', in the pinned program and in every row, IS THE sha256 OF THE DUMP (.gsa) THAT YtoekmphdpepdbaaGreatProg.lean LOADS. Nothing in Lean hashes anything: it is a label: what it is worth is what the hold of that sum in a sandbox is worth. -/
noncomputable def Tryz.pinned : Pinned := { name := "ytoekmphdpepdbaagreat", sum := "139e7fa5421b73755baeb5f9114bb4ae4d516e57290888a52d5de533f5710604", checked := Tryz.checked }
namespace Rows
def none {H : Type} : Left H := { results := [], args := [] }

/-- 'cnclaw36.PlannerSafe': WHATEVER THE INPUT: true; the input reads as it did. -/
def plannerSafeSpec : ChangeSpec := { name := "plannerSafe", fn := fun _ => fun
  | [d1, d2, d3, d4, d5, d6, d7, d8, d9] => { results := [.lit (.bool true)], args := [d1, d2, d3, d4, d5, d6, d7, d8, d9] }
  | _ => none }
def plannerSafeRow : OpenClaim := { program := "ytoekmphdpepdbaagreat", sum := "139e7fa5421b73755baeb5f9114bb4ae4d516e57290888a52d5de533f5710604", func := "cnc/cnclaw36.PlannerSafe", spec := "plannerSafe", recurses := true, named := ["math/bits.divideError", "math/bits.overflowError"], apart := false }
def PlannerSafeSaid : Prop := plannerSafeRow.holds Tryz.pinned (OpenSpec.ofChange plannerSafeSpec)

/-- ITS FALSE NEIGHBOUR: 'it returns false'. Refute it at one input. -/
def plannerSafeWrong : ChangeSpec := { name := "plannerSafe", fn := fun _ => fun
  | [d1, d2, d3, d4, d5, d6, d7, d8, d9] => { results := [.lit (.bool false)], args := [d1, d2, d3, d4, d5, d6, d7, d8, d9] }
  | _ => none }
def PlannerSafeWrongFalsely : Prop := plannerSafeRow.holds Tryz.pinned (OpenSpec.ofChange plannerSafeWrong)

/-- 'cnclaw36.PlannerNext': WHATEVER THE INPUT: true; the input reads as it did. -/
def plannerNextSpec : ChangeSpec := { name := "plannerNext", fn := fun _ => fun
  | [d1, d2, d3, d4, d5, d6] => { results := [.lit (.bool true)], args := [d1, d2, d3, d4, d5, d6] }
  | _ => none }
def plannerNextRow : OpenClaim := { program := "ytoekmphdpepdbaagreat", sum := "139e7fa5421b73755baeb5f9114bb4ae4d516e57290888a52d5de533f5710604", func := "cnc/cnclaw36.PlannerNext", spec := "plannerNext", recurses := true, named := ["math/bits.divideError", "math/bits.overflowError"], apart := false }
def PlannerNextSaid : Prop := plannerNextRow.holds Tryz.pinned (OpenSpec.ofChange plannerNextSpec)

/-- ITS FALSE NEIGHBOUR: 'it returns false'. Refute it at one input. -/
def plannerNextWrong : ChangeSpec := { name := "plannerNext", fn := fun _ => fun
  | [d1, d2, d3, d4, d5, d6] => { results := [.lit (.bool false)], args := [d1, d2, d3, d4, d5, d6] }
  | _ => none }
def PlannerNextWrongFalsely : Prop := plannerNextRow.holds Tryz.pinned (OpenSpec.ofChange plannerNextWrong)

/-- 'cnclaw36.PlannerLimits': WHATEVER THE INPUT: true; the input reads as it did. -/
def plannerLimitsSpec : ChangeSpec := { name := "plannerLimits", fn := fun _ => fun
  | [d1, d2, d3, d4, d5, d6] => { results := [.lit (.bool true)], args := [d1, d2, d3, d4, d5, d6] }
  | _ => none }
def plannerLimitsRow : OpenClaim := { program := "ytoekmphdpepdbaagreat", sum := "139e7fa5421b73755baeb5f9114bb4ae4d516e57290888a52d5de533f5710604", func := "cnc/cnclaw36.PlannerLimits", spec := "plannerLimits", recurses := true, named := ["math/bits.divideError", "math/bits.overflowError"], apart := false }
def PlannerLimitsSaid : Prop := plannerLimitsRow.holds Tryz.pinned (OpenSpec.ofChange plannerLimitsSpec)

/-- ITS FALSE NEIGHBOUR: 'it returns false'. Refute it at one input. -/
def plannerLimitsWrong : ChangeSpec := { name := "plannerLimits", fn := fun _ => fun
  | [d1, d2, d3, d4, d5, d6] => { results := [.lit (.bool false)], args := [d1, d2, d3, d4, d5, d6] }
  | _ => none }
def PlannerLimitsWrongFalsely : Prop := plannerLimitsRow.holds Tryz.pinned (OpenSpec.ofChange plannerLimitsWrong)

/-- 'cnclaw36.PlannerMoves': WHATEVER THE INPUT: true; the input reads as it did. -/
def plannerMovesSpec : ChangeSpec := { name := "plannerMoves", fn := fun _ => fun
  | [d1, d2, d3, d4, d5, d6, d7] => { results := [.lit (.bool true)], args := [d1, d2, d3, d4, d5, d6, d7] }
  | _ => none }
def plannerMovesRow : OpenClaim := { program := "ytoekmphdpepdbaagreat", sum := "139e7fa5421b73755baeb5f9114bb4ae4d516e57290888a52d5de533f5710604", func := "cnc/cnclaw36.PlannerMoves", spec := "plannerMoves", recurses := true, named := ["math/bits.divideError", "math/bits.overflowError"], apart := false }
def PlannerMovesSaid : Prop := plannerMovesRow.holds Tryz.pinned (OpenSpec.ofChange plannerMovesSpec)

/-- ITS FALSE NEIGHBOUR: 'it returns false'. Refute it at one input. -/
def plannerMovesWrong : ChangeSpec := { name := "plannerMoves", fn := fun _ => fun
  | [d1, d2, d3, d4, d5, d6, d7] => { results := [.lit (.bool false)], args := [d1, d2, d3, d4, d5, d6, d7] }
  | _ => none }
def PlannerMovesWrongFalsely : Prop := plannerMovesRow.holds Tryz.pinned (OpenSpec.ofChange plannerMovesWrong)

/-- 'cnclaw36.PlannerArrives': WHATEVER THE INPUT: true; the input reads as it did. -/
def plannerArrivesSpec : ChangeSpec := { name := "plannerArrives", fn := fun _ => fun
  | [d1, d2, d3, d4, d5] => { results := [.lit (.bool true)], args := [d1, d2, d3, d4, d5] }
  | _ => none }
def plannerArrivesRow : OpenClaim := { program := "ytoekmphdpepdbaagreat", sum := "139e7fa5421b73755baeb5f9114bb4ae4d516e57290888a52d5de533f5710604", func := "cnc/cnclaw36.PlannerArrives", spec := "plannerArrives", recurses := true, named := ["math/bits.divideError", "math/bits.overflowError"], apart := false }
def PlannerArrivesSaid : Prop := plannerArrivesRow.holds Tryz.pinned (OpenSpec.ofChange plannerArrivesSpec)

/-- ITS FALSE NEIGHBOUR: 'it returns false'. Refute it at one input. -/
def plannerArrivesWrong : ChangeSpec := { name := "plannerArrives", fn := fun _ => fun
  | [d1, d2, d3, d4, d5] => { results := [.lit (.bool false)], args := [d1, d2, d3, d4, d5] }
  | _ => none }
def PlannerArrivesWrongFalsely : Prop := plannerArrivesRow.holds Tryz.pinned (OpenSpec.ofChange plannerArrivesWrong)

/-- 'cnclaw36.PlannerFeed': WHATEVER THE INPUT: true; the input reads as it did. -/
def plannerFeedSpec : ChangeSpec := { name := "plannerFeed", fn := fun _ => fun
  | [d1, d2, d3, d4, d5, d6] => { results := [.lit (.bool true)], args := [d1, d2, d3, d4, d5, d6] }
  | _ => none }
def plannerFeedRow : OpenClaim := { program := "ytoekmphdpepdbaagreat", sum := "139e7fa5421b73755baeb5f9114bb4ae4d516e57290888a52d5de533f5710604", func := "cnc/cnclaw36.PlannerFeed", spec := "plannerFeed", recurses := true, named := ["math/bits.divideError", "math/bits.overflowError"], apart := false }
def PlannerFeedSaid : Prop := plannerFeedRow.holds Tryz.pinned (OpenSpec.ofChange plannerFeedSpec)

/-- ITS FALSE NEIGHBOUR: 'it returns false'. Refute it at one input. -/
def plannerFeedWrong : ChangeSpec := { name := "plannerFeed", fn := fun _ => fun
  | [d1, d2, d3, d4, d5, d6] => { results := [.lit (.bool false)], args := [d1, d2, d3, d4, d5, d6] }
  | _ => none }
def PlannerFeedWrongFalsely : Prop := plannerFeedRow.holds Tryz.pinned (OpenSpec.ofChange plannerFeedWrong)

/-- 'cnclaw36.PlannerStops': WHATEVER THE INPUT: true; the input reads as it did. -/
def plannerStopsSpec : ChangeSpec := { name := "plannerStops", fn := fun _ => fun
  | [d1, d2, d3, d4, d5, d6] => { results := [.lit (.bool true)], args := [d1, d2, d3, d4, d5, d6] }
  | _ => none }
def plannerStopsRow : OpenClaim := { program := "ytoekmphdpepdbaagreat", sum := "139e7fa5421b73755baeb5f9114bb4ae4d516e57290888a52d5de533f5710604", func := "cnc/cnclaw36.PlannerStops", spec := "plannerStops", recurses := true, named := ["math/bits.divideError", "math/bits.overflowError"], apart := false }
def PlannerStopsSaid : Prop := plannerStopsRow.holds Tryz.pinned (OpenSpec.ofChange plannerStopsSpec)

/-- ITS FALSE NEIGHBOUR: 'it returns false'. Refute it at one input. -/
def plannerStopsWrong : ChangeSpec := { name := "plannerStops", fn := fun _ => fun
  | [d1, d2, d3, d4, d5, d6] => { results := [.lit (.bool false)], args := [d1, d2, d3, d4, d5, d6] }
  | _ => none }
def PlannerStopsWrongFalsely : Prop := plannerStopsRow.holds Tryz.pinned (OpenSpec.ofChange plannerStopsWrong)

/-- 'cnclaw36.PlannerHold': WHATEVER THE INPUT: true; the input reads as it did. -/
def plannerHoldSpec : ChangeSpec := { name := "plannerHold", fn := fun _ => fun
  | [d1, d2, d3, d4, d5, d6] => { results := [.lit (.bool true)], args := [d1, d2, d3, d4, d5, d6] }
  | _ => none }
def plannerHoldRow : OpenClaim := { program := "ytoekmphdpepdbaagreat", sum := "139e7fa5421b73755baeb5f9114bb4ae4d516e57290888a52d5de533f5710604", func := "cnc/cnclaw36.PlannerHold", spec := "plannerHold", recurses := true, named := ["math/bits.divideError", "math/bits.overflowError"], apart := false }
def PlannerHoldSaid : Prop := plannerHoldRow.holds Tryz.pinned (OpenSpec.ofChange plannerHoldSpec)

/-- ITS FALSE NEIGHBOUR: 'it returns false'. Refute it at one input. -/
def plannerHoldWrong : ChangeSpec := { name := "plannerHold", fn := fun _ => fun
  | [d1, d2, d3, d4, d5, d6] => { results := [.lit (.bool false)], args := [d1, d2, d3, d4, d5, d6] }
  | _ => none }
def PlannerHoldWrongFalsely : Prop := plannerHoldRow.holds Tryz.pinned (OpenSpec.ofChange plannerHoldWrong)

/- THE SECOND FORM. 'bulk': how many values and letters a reading holds, each counted each time it is reached (what is shared counts as often as it is met; a slice's spare places count too). A statement '..UptoSaid' is the law's where the arguments, and the package variables that the reading takes, are together of bulk at most 1048576: NARROWER than '..Said'. Prove '..Said' where nothing that the law and all that it calls make is longer than what came in: it says more and counts as full. Else prove '..UptoSaid'. A law counts once. -/
mutual
def uptoBulk {H : Type} : DataW H → Nat
  | .lit (.string bytes) => bytes.length + 1
  | .lit _ => 1
  | .nil => 1
  | .ptr d => uptoBulk d + 1
  | .slice elems spare => uptoBulkAll elems + uptoBulkAll spare + 1
  | .agg parts => uptoBulkAll parts + 1
  | .iface _ d => uptoBulk d + 1
  | .map entries => uptoBulkEntries entries + 1
  | .held _ => 1
def uptoBulkAll {H : Type} : List (DataW H) → Nat
  | [] => 0
  | d :: r => uptoBulk d + uptoBulkAll r
def uptoBulkEntries {H : Type} : List (Lit × DataW H) → Nat
  | [] => 0
  | x :: r => uptoBulkEntry x + uptoBulkEntries r
def uptoBulkEntry {H : Type} : Lit × DataW H → Nat
  | (.string bytes, d) => bytes.length + uptoBulk d + 1
  | (_, d) => uptoBulk d + 1
 end
def uptoSmall : (H : Type) → List (DataW H) → Bool := fun _ ds => decide (uptoBulkAll ds ≤ 1048576)
def OpenSpec.upto (s : _root_.Go.ChangeSpec) : _root_.Go.OpenSpec := { _root_.Go.OpenSpec.ofChange s with cond := some uptoSmall }

/-- 'cnclaw36.PlannerSafe', WHERE WHAT IT READS IS OF BULK AT MOST 1048576: true; the input reads as it did. -/
def plannerSafeUptoRow : OpenClaim := { program := "ytoekmphdpepdbaagreat", sum := "139e7fa5421b73755baeb5f9114bb4ae4d516e57290888a52d5de533f5710604", func := "cnc/cnclaw36.PlannerSafe", spec := "plannerSafe", recurses := true, named := ["math/bits.divideError", "math/bits.overflowError"], apart := false, narrowed := true }
def PlannerSafeUptoSaid : Prop := plannerSafeUptoRow.holds Tryz.pinned (OpenSpec.upto plannerSafeSpec)

/-- 'cnclaw36.PlannerNext', WHERE WHAT IT READS IS OF BULK AT MOST 1048576: true; the input reads as it did. -/
def plannerNextUptoRow : OpenClaim := { program := "ytoekmphdpepdbaagreat", sum := "139e7fa5421b73755baeb5f9114bb4ae4d516e57290888a52d5de533f5710604", func := "cnc/cnclaw36.PlannerNext", spec := "plannerNext", recurses := true, named := ["math/bits.divideError", "math/bits.overflowError"], apart := false, narrowed := true }
def PlannerNextUptoSaid : Prop := plannerNextUptoRow.holds Tryz.pinned (OpenSpec.upto plannerNextSpec)

/-- 'cnclaw36.PlannerLimits', WHERE WHAT IT READS IS OF BULK AT MOST 1048576: true; the input reads as it did. -/
def plannerLimitsUptoRow : OpenClaim := { program := "ytoekmphdpepdbaagreat", sum := "139e7fa5421b73755baeb5f9114bb4ae4d516e57290888a52d5de533f5710604", func := "cnc/cnclaw36.PlannerLimits", spec := "plannerLimits", recurses := true, named := ["math/bits.divideError", "math/bits.overflowError"], apart := false, narrowed := true }
def PlannerLimitsUptoSaid : Prop := plannerLimitsUptoRow.holds Tryz.pinned (OpenSpec.upto plannerLimitsSpec)

/-- 'cnclaw36.PlannerMoves', WHERE WHAT IT READS IS OF BULK AT MOST 1048576: true; the input reads as it did. -/
def plannerMovesUptoRow : OpenClaim := { program := "ytoekmphdpepdbaagreat", sum := "139e7fa5421b73755baeb5f9114bb4ae4d516e57290888a52d5de533f5710604", func := "cnc/cnclaw36.PlannerMoves", spec := "plannerMoves", recurses := true, named := ["math/bits.divideError", "math/bits.overflowError"], apart := false, narrowed := true }
def PlannerMovesUptoSaid : Prop := plannerMovesUptoRow.holds Tryz.pinned (OpenSpec.upto plannerMovesSpec)

/-- 'cnclaw36.PlannerArrives', WHERE WHAT IT READS IS OF BULK AT MOST 1048576: true; the input reads as it did. -/
def plannerArrivesUptoRow : OpenClaim := { program := "ytoekmphdpepdbaagreat", sum := "139e7fa5421b73755baeb5f9114bb4ae4d516e57290888a52d5de533f5710604", func := "cnc/cnclaw36.PlannerArrives", spec := "plannerArrives", recurses := true, named := ["math/bits.divideError", "math/bits.overflowError"], apart := false, narrowed := true }
def PlannerArrivesUptoSaid : Prop := plannerArrivesUptoRow.holds Tryz.pinned (OpenSpec.upto plannerArrivesSpec)

/-- 'cnclaw36.PlannerFeed', WHERE WHAT IT READS IS OF BULK AT MOST 1048576: true; the input reads as it did. -/
def plannerFeedUptoRow : OpenClaim := { program := "ytoekmphdpepdbaagreat", sum := "139e7fa5421b73755baeb5f9114bb4ae4d516e57290888a52d5de533f5710604", func := "cnc/cnclaw36.PlannerFeed", spec := "plannerFeed", recurses := true, named := ["math/bits.divideError", "math/bits.overflowError"], apart := false, narrowed := true }
def PlannerFeedUptoSaid : Prop := plannerFeedUptoRow.holds Tryz.pinned (OpenSpec.upto plannerFeedSpec)

/-- 'cnclaw36.PlannerStops', WHERE WHAT IT READS IS OF BULK AT MOST 1048576: true; the input reads as it did. -/
def plannerStopsUptoRow : OpenClaim := { program := "ytoekmphdpepdbaagreat", sum := "139e7fa5421b73755baeb5f9114bb4ae4d516e57290888a52d5de533f5710604", func := "cnc/cnclaw36.PlannerStops", spec := "plannerStops", recurses := true, named := ["math/bits.divideError", "math/bits.overflowError"], apart := false, narrowed := true }
def PlannerStopsUptoSaid : Prop := plannerStopsUptoRow.holds Tryz.pinned (OpenSpec.upto plannerStopsSpec)

/-- 'cnclaw36.PlannerHold', WHERE WHAT IT READS IS OF BULK AT MOST 1048576: true; the input reads as it did. -/
def plannerHoldUptoRow : OpenClaim := { program := "ytoekmphdpepdbaagreat", sum := "139e7fa5421b73755baeb5f9114bb4ae4d516e57290888a52d5de533f5710604", func := "cnc/cnclaw36.PlannerHold", spec := "plannerHold", recurses := true, named := ["math/bits.divideError", "math/bits.overflowError"], apart := false, narrowed := true }
def PlannerHoldUptoSaid : Prop := plannerHoldUptoRow.holds Tryz.pinned (OpenSpec.upto plannerHoldSpec)

end Rows
end Go.Proofs.YtoekmphdpepdbaaGreat
