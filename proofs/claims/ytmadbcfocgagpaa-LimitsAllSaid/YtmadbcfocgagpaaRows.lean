/-
  No cell of these rows narrows 'for every input' (looked for: loops, veiled, ifaces, maps, wideKeys, modest, calm, conditions, laid).
  DERIVED. THE GIVEN ROWS OF THIS SEAT. 6 by the template 'for every input the law returns true; each argument reads behind the call as it read before'; 0 by the template 'total and deterministic' (their statements: YtmadbcfocgagpaaTotals.lean).
  GIVEN WITH THE SEED: the statements are not yours to turn. If you find one false, say at which input.
  Laid BY PROGRAM, IN A SANDBOX (cutbox-rows.mjs): the forced cells as the released guide's own fill.sh prints them over the translation f51f56ed123e500a… (all of the seat's roots in one cut). By AI agents, Wed Nov 11 2026. No macro, syntax, notation, axiom, sorry.
-/
import Derived.Test.YtmadbcfocgagpaaChecked
import GoSem.Claim
import GoSem.ClaimJoined
import GoSem.ClaimMapViews
import Derived.JoinedTies
import Derived.KernelRfl
namespace Go.Proofs.Ytmadbcfocgagpaa
/- THE CELL 'sum', in the pinned program and in every row, IS THE sha256 OF THE DUMP (.gsa) THAT YtmadbcfocgagpaaProg.lean LOADS. Nothing in Lean hashes anything: it is a label: what it is worth is what the hold of that sum in a sandbox is worth. -/
noncomputable def Try.pinned : Pinned := { name := "ytmadbcfocgagpaa", sum := "f51f56ed123e500a77361743901a136ed33e552a0b0814d816b27596cf564c36", checked := Try.checked }
namespace Rows
def none {H : Type} : Left H := { results := [], args := [] }

/-- 'cnclaw31.LimitsDifferences': WHATEVER THE INPUT: true; the input reads as it did. -/
def limitsDifferencesSpec : ChangeSpec := { name := "limitsDifferences", fn := fun _ => fun
  | [d] => { results := [.lit (.bool true)], args := [d] }
  | _ => none }
def limitsDifferencesRow : OpenClaim := { program := "ytmadbcfocgagpaa", sum := "f51f56ed123e500a77361743901a136ed33e552a0b0814d816b27596cf564c36", func := "cnc/cnclaw31.LimitsDifferences", spec := "limitsDifferences", apart := false }
def LimitsDifferencesSaid : Prop := limitsDifferencesRow.holds Try.pinned (OpenSpec.ofChange limitsDifferencesSpec)

/-- ITS FALSE NEIGHBOUR: 'it returns false'. Refute it at one input. -/
def limitsDifferencesWrong : ChangeSpec := { name := "limitsDifferences", fn := fun _ => fun
  | [d] => { results := [.lit (.bool false)], args := [d] }
  | _ => none }
def LimitsDifferencesWrongFalsely : Prop := limitsDifferencesRow.holds Try.pinned (OpenSpec.ofChange limitsDifferencesWrong)

/-- 'cnclaw31.LimitsWithin': WHATEVER THE INPUT: true; the input reads as it did. -/
def limitsWithinSpec : ChangeSpec := { name := "limitsWithin", fn := fun _ => fun
  | [d1, d2] => { results := [.lit (.bool true)], args := [d1, d2] }
  | _ => none }
def limitsWithinRow : OpenClaim := { program := "ytmadbcfocgagpaa", sum := "f51f56ed123e500a77361743901a136ed33e552a0b0814d816b27596cf564c36", func := "cnc/cnclaw31.LimitsWithin", spec := "limitsWithin", apart := false }
def LimitsWithinSaid : Prop := limitsWithinRow.holds Try.pinned (OpenSpec.ofChange limitsWithinSpec)

/-- ITS FALSE NEIGHBOUR: 'it returns false'. Refute it at one input. -/
def limitsWithinWrong : ChangeSpec := { name := "limitsWithin", fn := fun _ => fun
  | [d1, d2] => { results := [.lit (.bool false)], args := [d1, d2] }
  | _ => none }
def LimitsWithinWrongFalsely : Prop := limitsWithinRow.holds Try.pinned (OpenSpec.ofChange limitsWithinWrong)

/-- 'cnclaw31.LimitsParts': WHATEVER THE INPUT: true; the input reads as it did. -/
def limitsPartsSpec : ChangeSpec := { name := "limitsParts", fn := fun _ => fun
  | [d1, d2, d3, d4] => { results := [.lit (.bool true)], args := [d1, d2, d3, d4] }
  | _ => none }
def limitsPartsRow : OpenClaim := { program := "ytmadbcfocgagpaa", sum := "f51f56ed123e500a77361743901a136ed33e552a0b0814d816b27596cf564c36", func := "cnc/cnclaw31.LimitsParts", spec := "limitsParts", apart := false }
def LimitsPartsSaid : Prop := limitsPartsRow.holds Try.pinned (OpenSpec.ofChange limitsPartsSpec)

/-- ITS FALSE NEIGHBOUR: 'it returns false'. Refute it at one input. -/
def limitsPartsWrong : ChangeSpec := { name := "limitsParts", fn := fun _ => fun
  | [d1, d2, d3, d4] => { results := [.lit (.bool false)], args := [d1, d2, d3, d4] }
  | _ => none }
def LimitsPartsWrongFalsely : Prop := limitsPartsRow.holds Try.pinned (OpenSpec.ofChange limitsPartsWrong)

/-- 'cnclaw31.LimitsJoin': WHATEVER THE INPUT: true; the input reads as it did. -/
def limitsJoinSpec : ChangeSpec := { name := "limitsJoin", fn := fun _ => fun
  | [d1, d2, d3] => { results := [.lit (.bool true)], args := [d1, d2, d3] }
  | _ => none }
def limitsJoinRow : OpenClaim := { program := "ytmadbcfocgagpaa", sum := "f51f56ed123e500a77361743901a136ed33e552a0b0814d816b27596cf564c36", func := "cnc/cnclaw31.LimitsJoin", spec := "limitsJoin", apart := false }
def LimitsJoinSaid : Prop := limitsJoinRow.holds Try.pinned (OpenSpec.ofChange limitsJoinSpec)

/-- ITS FALSE NEIGHBOUR: 'it returns false'. Refute it at one input. -/
def limitsJoinWrong : ChangeSpec := { name := "limitsJoin", fn := fun _ => fun
  | [d1, d2, d3] => { results := [.lit (.bool false)], args := [d1, d2, d3] }
  | _ => none }
def LimitsJoinWrongFalsely : Prop := limitsJoinRow.holds Try.pinned (OpenSpec.ofChange limitsJoinWrong)

/-- 'cnclaw31.LimitsUnit': WHATEVER THE INPUT: true; the input reads as it did. -/
def limitsUnitSpec : ChangeSpec := { name := "limitsUnit", fn := fun _ => fun
  | [d1, d2] => { results := [.lit (.bool true)], args := [d1, d2] }
  | _ => none }
def limitsUnitRow : OpenClaim := { program := "ytmadbcfocgagpaa", sum := "f51f56ed123e500a77361743901a136ed33e552a0b0814d816b27596cf564c36", func := "cnc/cnclaw31.LimitsUnit", spec := "limitsUnit", apart := false }
def LimitsUnitSaid : Prop := limitsUnitRow.holds Try.pinned (OpenSpec.ofChange limitsUnitSpec)

/-- ITS FALSE NEIGHBOUR: 'it returns false'. Refute it at one input. -/
def limitsUnitWrong : ChangeSpec := { name := "limitsUnit", fn := fun _ => fun
  | [d1, d2] => { results := [.lit (.bool false)], args := [d1, d2] }
  | _ => none }
def LimitsUnitWrongFalsely : Prop := limitsUnitRow.holds Try.pinned (OpenSpec.ofChange limitsUnitWrong)

/-- 'cnclaw31.LimitsAll': WHATEVER THE INPUT: true; the input reads as it did. -/
def limitsAllSpec : ChangeSpec := { name := "limitsAll", fn := fun _ => fun
  | [d1, d2] => { results := [.lit (.bool true)], args := [d1, d2] }
  | _ => none }
def limitsAllRow : OpenClaim := { program := "ytmadbcfocgagpaa", sum := "f51f56ed123e500a77361743901a136ed33e552a0b0814d816b27596cf564c36", func := "cnc/cnclaw31.LimitsAll", spec := "limitsAll", apart := false }
def LimitsAllSaid : Prop := limitsAllRow.holds Try.pinned (OpenSpec.ofChange limitsAllSpec)

/-- ITS FALSE NEIGHBOUR: 'it returns false'. Refute it at one input. -/
def limitsAllWrong : ChangeSpec := { name := "limitsAll", fn := fun _ => fun
  | [d1, d2] => { results := [.lit (.bool false)], args := [d1, d2] }
  | _ => none }
def LimitsAllWrongFalsely : Prop := limitsAllRow.holds Try.pinned (OpenSpec.ofChange limitsAllWrong)

/- THE SECOND FORM. 'bulk': how many values and letters a reading holds, each counted each time it is reached (what is shared counts as often as it is met; a slice's spare places count too). A statement '..UptoSaid' is the law's where the arguments, and the package variables that the reading takes, are together of bulk at most 1048576: NARROWER than '..Said'. Prove '..Said' where nothing that the law and all that it calls make is longer than what came in: it says more and counts as full. Else prove '..UptoSaid'. A law counts once. -/
mutual
def uptoBulk {H : Type} : DataW H → Nat
  | .lit (.string bytes) => bytes.length + 1
  | .lit _ => 1
  | .nil => 1
  | .ptr d => uptoBulk d + 1
  | .slice elems spare => uptoBulkAll elems + uptoBulkAll spare + 1
  | .agg parts => uptoBulkAll parts + 1
  | .iface _ d => uptoBulk d + 1
  | .map entries => uptoBulkEntries entries + 1
  | .held _ => 1
def uptoBulkAll {H : Type} : List (DataW H) → Nat
  | [] => 0
  | d :: r => uptoBulk d + uptoBulkAll r
def uptoBulkEntries {H : Type} : List (Lit × DataW H) → Nat
  | [] => 0
  | x :: r => uptoBulkEntry x + uptoBulkEntries r
def uptoBulkEntry {H : Type} : Lit × DataW H → Nat
  | (.string bytes, d) => bytes.length + uptoBulk d + 1
  | (_, d) => uptoBulk d + 1
 end
def uptoSmall : (H : Type) → List (DataW H) → Bool := fun _ ds => decide (uptoBulkAll ds ≤ 1048576)
def OpenSpec.upto (s : _root_.Go.ChangeSpec) : _root_.Go.OpenSpec := { _root_.Go.OpenSpec.ofChange s with cond := some uptoSmall }

/-- 'cnclaw31.LimitsDifferences', WHERE WHAT IT READS IS OF BULK AT MOST 1048576: true; the input reads as it did. -/
def limitsDifferencesUptoRow : OpenClaim := { program := "ytmadbcfocgagpaa", sum := "f51f56ed123e500a77361743901a136ed33e552a0b0814d816b27596cf564c36", func := "cnc/cnclaw31.LimitsDifferences", spec := "limitsDifferences", apart := false, narrowed := true }
def LimitsDifferencesUptoSaid : Prop := limitsDifferencesUptoRow.holds Try.pinned (OpenSpec.upto limitsDifferencesSpec)

/-- 'cnclaw31.LimitsWithin', WHERE WHAT IT READS IS OF BULK AT MOST 1048576: true; the input reads as it did. -/
def limitsWithinUptoRow : OpenClaim := { program := "ytmadbcfocgagpaa", sum := "f51f56ed123e500a77361743901a136ed33e552a0b0814d816b27596cf564c36", func := "cnc/cnclaw31.LimitsWithin", spec := "limitsWithin", apart := false, narrowed := true }
def LimitsWithinUptoSaid : Prop := limitsWithinUptoRow.holds Try.pinned (OpenSpec.upto limitsWithinSpec)

/-- 'cnclaw31.LimitsParts', WHERE WHAT IT READS IS OF BULK AT MOST 1048576: true; the input reads as it did. -/
def limitsPartsUptoRow : OpenClaim := { program := "ytmadbcfocgagpaa", sum := "f51f56ed123e500a77361743901a136ed33e552a0b0814d816b27596cf564c36", func := "cnc/cnclaw31.LimitsParts", spec := "limitsParts", apart := false, narrowed := true }
def LimitsPartsUptoSaid : Prop := limitsPartsUptoRow.holds Try.pinned (OpenSpec.upto limitsPartsSpec)

/-- 'cnclaw31.LimitsJoin', WHERE WHAT IT READS IS OF BULK AT MOST 1048576: true; the input reads as it did. -/
def limitsJoinUptoRow : OpenClaim := { program := "ytmadbcfocgagpaa", sum := "f51f56ed123e500a77361743901a136ed33e552a0b0814d816b27596cf564c36", func := "cnc/cnclaw31.LimitsJoin", spec := "limitsJoin", apart := false, narrowed := true }
def LimitsJoinUptoSaid : Prop := limitsJoinUptoRow.holds Try.pinned (OpenSpec.upto limitsJoinSpec)

/-- 'cnclaw31.LimitsUnit', WHERE WHAT IT READS IS OF BULK AT MOST 1048576: true; the input reads as it did. -/
def limitsUnitUptoRow : OpenClaim := { program := "ytmadbcfocgagpaa", sum := "f51f56ed123e500a77361743901a136ed33e552a0b0814d816b27596cf564c36", func := "cnc/cnclaw31.LimitsUnit", spec := "limitsUnit", apart := false, narrowed := true }
def LimitsUnitUptoSaid : Prop := limitsUnitUptoRow.holds Try.pinned (OpenSpec.upto limitsUnitSpec)

/-- 'cnclaw31.LimitsAll', WHERE WHAT IT READS IS OF BULK AT MOST 1048576: true; the input reads as it did. -/
def limitsAllUptoRow : OpenClaim := { program := "ytmadbcfocgagpaa", sum := "f51f56ed123e500a77361743901a136ed33e552a0b0814d816b27596cf564c36", func := "cnc/cnclaw31.LimitsAll", spec := "limitsAll", apart := false, narrowed := true }
def LimitsAllUptoSaid : Prop := limitsAllUptoRow.holds Try.pinned (OpenSpec.upto limitsAllSpec)

end Rows
end Go.Proofs.Ytmadbcfocgagpaa
