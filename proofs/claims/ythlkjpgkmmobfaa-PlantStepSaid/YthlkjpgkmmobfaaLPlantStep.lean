/-
  Whatever comes in, PlantStep returns true, and the arguments read as before.
  Conditions: none.
-/
import Derived.Test.YthlkjpgkmmobfaaRows
import Derived.WalkKit
import Derived.ProofKit
import Derived.OpenShut
import Derived.ShutString
import Derived.ChangeOld
import Derived.Below
import Derived.Test.YthlkjpgkmmobfaaHzc
import Derived.Test.YthlkjpgkmmobfaaT2
namespace Go.Proofs.Ythlkjpgkmmobfaa.plantStep
open Go.ChangeShapes Go.WideShapes Go.ChangeAt Go.RowKit
open Go.ChangeMaps (open_string shut_string)
set_option linter.unusedVariables false

theorem own : ownKnob Try.prog.godebug = none := by kernel_rfl
theorem laidOut : laidOutB Try.prog = true := by kernel_rfl

set_option maxRecDepth 100000 in
theorem lifted (os : Os) (started : os.Started) (H : Type) (enc : TypeId × Value → H) :
    ReturnsInHanded {} Try.checked os 3 .any (Rows.plantStepSpec.pre6 enc Try.prog Try.f3 Rows.plantStepRow.domain false) (Rows.plantStepSpec.post enc Try.prog Try.f3 false true false false) := by
  refine returnsInHanded_of_change (C := Try.checked) own started (by kernel_rfl) Try.func3
    (ChangeSpec.witness6 (enc := enc) (C := Try.checked) false ⟨#[], #[.slice none 0 0, .agg #[.int .i64 0, .int .i64 0, .int .i64 0], .agg #[.int .i64 0, .int .i64 0, .int .i64 0, .int .i64 0, .int .i64 0, .int .i64 0], .slice none 0 0], []⟩ 8 (by kernel_rfl) (by kernel_rfl) (by kernel_rfl) (by kernel_rfl)) ?_
  intro W base args ds gs before hval0 hW hcnd _
  have hval : ∀ (j : Nat) t v, Try.f3.params[j]? = some t → args[j]? = some v → Value.okWide Try.prog W .any base t v := hval0
  have hW' := hW
  obtain ⟨p, q, hA0, hV, rfl, hfz, hnd⟩ := hW
  have hA : DataW.TrodAll enc Try.prog W 0 (fun _ => true) true Try.f3.params.toList args.toList ds p := hA0
  rw [Try.params3] at hA hval
  obtain ⟨v0, vs0, d0, ds0, p0, q0, hargs, rfl, rfl, h0, r0⟩ := trodAll_cons hA
  obtain ⟨v1, vs1, d1, ds1, p1, q1, rfl, rfl, rfl, h1, r1⟩ := trodAll_cons r0
  obtain ⟨v2, vs2, d2, ds2, p2, q2, rfl, rfl, rfl, h2, r2⟩ := trodAll_cons r1
  obtain ⟨v3, vs3, d3, ds3, p3, q3, rfl, rfl, rfl, h3, r3⟩ := trodAll_cons r2
  obtain ⟨rfl, rfl, rfl⟩ := trodAll_nil r3
  obtain rfl : args = #[v0, v1, v2, v3] := by cases args; simp_all
  obtain ⟨rfl, rfl⟩ := trodVars_none hV
  have k0 := h0
  have lt0 : ∀ x ∈ p0, x.block < W.heap.size := by obtain ⟨m, hm⟩ := k0; exact DataW.trod_lt m _ _ _ hm
  obtain ⟨z0, l0, al0, u0⟩ := HL.in_slice (P := Try.prog) (ks := [4]) Try.underlying22 (by kernel_rfl) (by kernel_rfl) (by decide) (hval 0 22 v0 rfl rfl) k0
  have k1 := h1
  have lt1 : ∀ x ∈ p1, x.block < W.heap.size := by obtain ⟨m, hm⟩ := k1; exact DataW.trod_lt m _ _ _ hm
  obtain ⟨row1, al1, u1⟩ := HL.in_agg (P := Try.prog) (ks := [4, 4, 4]) (by kernel_rfl) (by kernel_rfl) (hval 1 24 v1 rfl rfl) k1
  obtain ⟨n1_0, row1, rfl⟩ := HL.AllIn.cons al1
  have b1_0 := al1.1
  replace al1 := al1.2
  obtain ⟨n1_1, row1, rfl⟩ := HL.AllIn.cons al1
  have b1_1 := al1.1
  replace al1 := al1.2
  obtain ⟨n1_2, row1, rfl⟩ := HL.AllIn.cons al1
  have b1_2 := al1.1
  replace al1 := al1.2
  obtain rfl := HL.AllIn.nil al1
  have k2 := h2
  have lt2 : ∀ x ∈ p2, x.block < W.heap.size := by obtain ⟨m, hm⟩ := k2; exact DataW.trod_lt m _ _ _ hm
  obtain ⟨row2, al2, u2⟩ := HL.in_agg (P := Try.prog) (ks := [4, 4, 4, 4, 4, 4]) (by kernel_rfl) (by kernel_rfl) (hval 2 26 v2 rfl rfl) k2
  obtain ⟨n2_0, row2, rfl⟩ := HL.AllIn.cons al2
  have b2_0 := al2.1
  replace al2 := al2.2
  obtain ⟨n2_1, row2, rfl⟩ := HL.AllIn.cons al2
  have b2_1 := al2.1
  replace al2 := al2.2
  obtain ⟨n2_2, row2, rfl⟩ := HL.AllIn.cons al2
  have b2_2 := al2.1
  replace al2 := al2.2
  obtain ⟨n2_3, row2, rfl⟩ := HL.AllIn.cons al2
  have b2_3 := al2.1
  replace al2 := al2.2
  obtain ⟨n2_4, row2, rfl⟩ := HL.AllIn.cons al2
  have b2_4 := al2.1
  replace al2 := al2.2
  obtain ⟨n2_5, row2, rfl⟩ := HL.AllIn.cons al2
  have b2_5 := al2.1
  replace al2 := al2.2
  obtain rfl := HL.AllIn.nil al2
  have k3 := h3
  have lt3 : ∀ x ∈ p3, x.block < W.heap.size := by obtain ⟨m, hm⟩ := k3; exact DataW.trod_lt m _ _ _ hm
  obtain ⟨z3, l3, al3, u3⟩ := HL.in_slice (P := Try.prog) (ks := [4, 4, 4]) Try.underlying27 (by kernel_rfl) (by kernel_rfl) (by decide) (hval 3 27 v3 rfl rfl) k3
  clear hA0 hval0
  refine Calls.mono (HL.law_true sLaw (HL.pre0 (hargs := [.ce (.sl false [4] z0), .agg [.int .i64 n1_0, .int .i64 n1_1, .int .i64 n1_2], .agg [.int .i64 n2_0, .int .i64 n2_1, .int .i64 n2_2, .int .i64 n2_3, .int .i64 n2_4, .int .i64 n2_5], .ce (.sl false [4, 4, 4] z3)]) rfl fun i hv hi => ?_) ⟨l0, rfl⟩) fun e W' ⟨he, bel⟩ => ?_
  · match i, hi with
    | 0, hi => cases hi; exact ⟨_, rfl, u0⟩
    | 1, hi => cases hi; exact ⟨_, rfl, u1⟩
    | 2, hi => cases hi; exact ⟨_, rfl, u2⟩
    | 3, hi => cases hi; exact ⟨_, rfl, u3⟩
  subst he
  exact ⟨_, rfl, _, _, _, [], _, [], hW', trodAll_mk1 (shut_bool Try.underlying4 _), (trodAll_cons_mk (Below.trod laidOut (by kernel_rfl) (of_decide_eq_true (by kernel_rfl)) k0 bel lt0) (trodAll_cons_mk (Below.trod laidOut (by kernel_rfl) (of_decide_eq_true (by kernel_rfl)) k1 bel lt1) (trodAll_cons_mk (Below.trod laidOut (by kernel_rfl) (of_decide_eq_true (by kernel_rfl)) k2 bel lt2) (trodAll_cons_mk (Below.trod laidOut (by kernel_rfl) (of_decide_eq_true (by kernel_rfl)) k3 bel lt3) trodAll_mk0)))), rfl, bel.frame _, fun h => by cases h⟩

theorem over : Rows.plantStepRow.holds Try.pinned (OpenSpec.ofChange Rows.plantStepSpec) :=
  OpenClaim.holds_of_wide 3 Try.f3 rfl rfl rfl rfl rfl rfl rfl ⟨rfl, rfl, rfl, rfl, rfl⟩ rfl rfl rfl rfl rfl (by kernel_rfl) Try.func3 (by kernel_rfl)
    (of_decide_eq_true (by kernel_rfl)) (by unfold Func.isWrapper; first | (rw [if_pos (by decide +kernel)]; kernel_rfl) | (rw [if_neg (by decide +kernel)]; exact ⟨rfl, rfl⟩))
    (fun os started H enc _ => lifted os started H enc)

/-- The statement. -/
theorem proved : Rows.PlantStepSaid := over
#print axioms proved
end Go.Proofs.Ythlkjpgkmmobfaa.plantStep
