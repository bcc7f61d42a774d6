/-
  Whatever comes in, PlannerMotion returns true, and the arguments read as before.
  Conditions: none.
-/
import Derived.Test.YtoekmphdpepdbaaPPlannerMotion4
import Derived.Test.YtoekmphdpepdbaaRows
import Derived.WalkKit
import Derived.ProofKit
import Derived.OpenShut
import Derived.ShutString
import Derived.ChangeOld
import Derived.Below
namespace Go.Proofs.Ytoekmphdpepdbaa.plannerMotion
open Go.ChangeShapes Go.WideShapes Go.ChangeAt Go.RowKit
open Go.ChangeMaps (open_string shut_string)
set_option linter.unusedVariables false

theorem own : ownKnob Try.prog.godebug = none := by kernel_rfl
theorem laidOut : laidOutB Try.prog = true := by kernel_rfl

set_option maxRecDepth 100000 in
theorem lifted (os : Os) (started : os.Started) (H : Type) (enc : TypeId × Value → H) :
    ReturnsInHanded {} Try.checked os 3 .any (Rows.plannerMotionSpec.pre6 enc Try.prog Try.f3 Rows.plannerMotionRow.domain false) (Rows.plannerMotionSpec.post enc Try.prog Try.f3 false true false false) := by
  refine returnsInHanded_of_change (C := Try.checked) own started (by kernel_rfl) Try.func3
    (ChangeSpec.witness6 (enc := enc) (C := Try.checked) false ⟨#[], #[.agg #[.int .i64 0, .int .i64 0, .int .i64 0], .agg #[.int .i64 0, .int .i64 0, .int .i64 0, .int .i64 0, .int .i64 0, .int .i64 0], .int .i64 0, .int .i64 0], []⟩ 8 (by kernel_rfl) (by kernel_rfl) (by kernel_rfl) (by kernel_rfl)) ?_
  intro W base args ds gs before hval0 hW hcnd _
  have hval : ∀ (j : Nat) t v, Try.f3.params[j]? = some t → args[j]? = some v → Value.okWide Try.prog W .any base t v := hval0
  have hW' := hW
  obtain ⟨p, q, hA0, hV, rfl, hfz, hnd⟩ := hW
  have hA : DataW.TrodAll enc Try.prog W 0 (fun _ => true) true Try.f3.params.toList args.toList ds p := hA0
  rw [Try.params3] at hA hval
  obtain ⟨v0, vs0, d0, ds0, p0, q0, hargs, rfl, rfl, h0, r0⟩ := trodAll_cons hA
  obtain ⟨v1, vs1, d1, ds1, p1, q1, rfl, rfl, rfl, h1, r1⟩ := trodAll_cons r0
  obtain ⟨v2, vs2, d2, ds2, p2, q2, rfl, rfl, rfl, h2, r2⟩ := trodAll_cons r1
  obtain ⟨v3, vs3, d3, ds3, p3, q3, rfl, rfl, rfl, h3, r3⟩ := trodAll_cons r2
  obtain ⟨rfl, rfl, rfl⟩ := trodAll_nil r3
  obtain rfl : args = #[v0, v1, v2, v3] := by cases args; simp_all
  obtain ⟨rfl, rfl⟩ := trodVars_none hV
  have k0 := h0
  have lt0 : ∀ x ∈ p0, x.block < W.heap.size := by obtain ⟨m, hm⟩ := k0; exact DataW.trod_lt m _ _ _ hm
  obtain ⟨row0, al0, u0⟩ := HL.in_agg (P := Try.prog) (ks := [4, 4, 4]) (by kernel_rfl) (by kernel_rfl) (hval 0 23 v0 rfl rfl) k0
  obtain ⟨n0_0, row0, rfl⟩ := HL.AllIn.cons al0
  have b0_0 := al0.1
  replace al0 := al0.2
  obtain ⟨n0_1, row0, rfl⟩ := HL.AllIn.cons al0
  have b0_1 := al0.1
  replace al0 := al0.2
  obtain ⟨n0_2, row0, rfl⟩ := HL.AllIn.cons al0
  have b0_2 := al0.1
  replace al0 := al0.2
  obtain rfl := HL.AllIn.nil al0
  have k1 := h1
  have lt1 : ∀ x ∈ p1, x.block < W.heap.size := by obtain ⟨m, hm⟩ := k1; exact DataW.trod_lt m _ _ _ hm
  obtain ⟨row1, al1, u1⟩ := HL.in_agg (P := Try.prog) (ks := [4, 4, 4, 4, 4, 4]) (by kernel_rfl) (by kernel_rfl) (hval 1 25 v1 rfl rfl) k1
  obtain ⟨n1_0, row1, rfl⟩ := HL.AllIn.cons al1
  have b1_0 := al1.1
  replace al1 := al1.2
  obtain ⟨n1_1, row1, rfl⟩ := HL.AllIn.cons al1
  have b1_1 := al1.1
  replace al1 := al1.2
  obtain ⟨n1_2, row1, rfl⟩ := HL.AllIn.cons al1
  have b1_2 := al1.1
  replace al1 := al1.2
  obtain ⟨n1_3, row1, rfl⟩ := HL.AllIn.cons al1
  have b1_3 := al1.1
  replace al1 := al1.2
  obtain ⟨n1_4, row1, rfl⟩ := HL.AllIn.cons al1
  have b1_4 := al1.1
  replace al1 := al1.2
  obtain ⟨n1_5, row1, rfl⟩ := HL.AllIn.cons al1
  have b1_5 := al1.1
  replace al1 := al1.2
  obtain rfl := HL.AllIn.nil al1
  have k2 := h2
  have lt2 : ∀ x ∈ p2, x.block < W.heap.size := by obtain ⟨m, hm⟩ := k2; exact DataW.trod_lt m _ _ _ hm
  obtain ⟨a2, hv2, _, _, w2⟩ := open_int Try.underlying3 (hval 2 3 v2 rfl rfl) h2
  subst hv2
  have r2 := (HL.wf_in w2).1
  have r2 := HL.wf_i64 w2
  have k3 := h3
  have lt3 : ∀ x ∈ p3, x.block < W.heap.size := by obtain ⟨m, hm⟩ := k3; exact DataW.trod_lt m _ _ _ hm
  obtain ⟨a3, hv3, _, _, w3⟩ := open_int Try.underlying3 (hval 3 3 v3 rfl rfl) h3
  subst hv3
  have r3 := (HL.wf_in w3).1
  have r3 := HL.wf_i64 w3
  clear hA0 hval0
  refine Calls.mono (HL.law_true sLMotion (HL.pre0 (hargs := [.agg [.int .i64 n0_0, .int .i64 n0_1, .int .i64 n0_2], .agg [.int .i64 n1_0, .int .i64 n1_1, .int .i64 n1_2, .int .i64 n1_3, .int .i64 n1_4, .int .i64 n1_5], .ce (.int .i64 a2), .ce (.int .i64 a3)]) rfl fun i hv hi => ?_) ⟨trivial, rfl⟩) fun e W' ⟨he, bel⟩ => ?_
  · match i, hi with
    | 0, hi => cases hi; exact ⟨_, rfl, u0⟩
    | 1, hi => cases hi; exact ⟨_, rfl, u1⟩
    | 2, hi => cases hi; exact ⟨_, rfl, rfl⟩
    | 3, hi => cases hi; exact ⟨_, rfl, rfl⟩
  subst he
  exact ⟨_, rfl, _, _, _, [], _, [], hW', trodAll_mk1 (shut_bool Try.underlying4 _), (trodAll_cons_mk (Below.trod laidOut (by kernel_rfl) (of_decide_eq_true (by kernel_rfl)) k0 bel lt0) (trodAll_cons_mk (Below.trod laidOut (by kernel_rfl) (of_decide_eq_true (by kernel_rfl)) k1 bel lt1) (trodAll_cons_mk (Below.trod laidOut (by kernel_rfl) (of_decide_eq_true (by kernel_rfl)) k2 bel lt2) (trodAll_cons_mk (Below.trod laidOut (by kernel_rfl) (of_decide_eq_true (by kernel_rfl)) k3 bel lt3) trodAll_mk0)))), rfl, bel.frame _, fun h => by cases h⟩

theorem over : Rows.plannerMotionRow.holds Try.pinned (OpenSpec.ofChange Rows.plannerMotionSpec) :=
  OpenClaim.holds_of_wide 3 Try.f3 rfl rfl rfl rfl rfl rfl rfl ⟨rfl, rfl, rfl, rfl, rfl⟩ rfl rfl rfl rfl rfl (by kernel_rfl) Try.func3 (by kernel_rfl)
    (of_decide_eq_true (by kernel_rfl)) (by unfold Func.isWrapper; first | (rw [if_pos (by decide +kernel)]; kernel_rfl) | (rw [if_neg (by decide +kernel)]; exact ⟨rfl, rfl⟩))
    (fun os started H enc _ => lifted os started H enc)

/-- The statement. -/
theorem proved : Rows.PlannerMotionSaid := over
#print axioms proved
end Go.Proofs.Ytoekmphdpepdbaa.plannerMotion
