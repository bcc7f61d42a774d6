/-
  Whatever comes in, ModalApply returns true, and the arguments read as before.
  Conditions: none.
-/
import Derived.Test.YtcfgklmpfkmdkaaRows
import Derived.WalkKit
import Derived.ProofKit
import Derived.OpenShut
import Derived.ShutString
import Derived.ChangeOld
import Derived.Below
import Derived.Test.YtcfgklmpfkmdkaaHzc
import Derived.Test.YtcfgklmpfkmdkaaM12
namespace Go.Proofs.Ytcfgklmpfkmdkaa.modalApply
open Go.ChangeShapes Go.WideShapes Go.ChangeAt Go.RowKit
open Go.ChangeMaps (open_string shut_string)
set_option linter.unusedVariables false

theorem own : ownKnob Try.prog.godebug = none := by kernel_rfl
theorem laidOut : laidOutB Try.prog = true := by kernel_rfl

set_option maxRecDepth 100000 in
theorem lifted (os : Os) (started : os.Started) (H : Type) (enc : TypeId × Value → H) :
    ReturnsInHanded {} Try.checked os 6 .any (Rows.modalApplySpec.pre6 enc Try.prog Try.f6 Rows.modalApplyRow.domain false) (Rows.modalApplySpec.post enc Try.prog Try.f6 false true false false) := by
  refine returnsInHanded_of_change (C := Try.checked) own started (by kernel_rfl) Try.func6
    (ChangeSpec.witness6 (enc := enc) (C := Try.checked) false ⟨#[], #[.agg #[.int .i64 0, .int .i64 0, .int .i64 0, .int .i64 0, .int .i64 0, .int .i64 0, .int .i64 0, .int .i64 0, .int .i64 0, .int .i64 0, .int .i64 0, .int .i64 0, .int .i64 0, .bool false, .bool false, .int .i64 0, .int .i64 0, .int .i64 0, .int .i64 0, .int .i64 0, .int .i64 0, .int .i64 0], .slice none 0 0, .slice none 0 0, .slice none 0 0], []⟩ 8 (by kernel_rfl) (by kernel_rfl) (by kernel_rfl) (by kernel_rfl)) ?_
  intro W base args ds gs before hval0 hW hcnd _
  have hval : ∀ (j : Nat) t v, Try.f6.params[j]? = some t → args[j]? = some v → Value.okWide Try.prog W .any base t v := hval0
  have hW' := hW
  obtain ⟨p, q, hA0, hV, rfl, hfz, hnd⟩ := hW
  have hA : DataW.TrodAll enc Try.prog W 0 (fun _ => true) true Try.f6.params.toList args.toList ds p := hA0
  rw [Try.params6] at hA hval
  obtain ⟨v0, vs0, d0, ds0, p0, q0, hargs, rfl, rfl, h0, r0⟩ := trodAll_cons hA
  obtain ⟨v1, vs1, d1, ds1, p1, q1, rfl, rfl, rfl, h1, r1⟩ := trodAll_cons r0
  obtain ⟨v2, vs2, d2, ds2, p2, q2, rfl, rfl, rfl, h2, r2⟩ := trodAll_cons r1
  obtain ⟨v3, vs3, d3, ds3, p3, q3, rfl, rfl, rfl, h3, r3⟩ := trodAll_cons r2
  obtain ⟨rfl, rfl, rfl⟩ := trodAll_nil r3
  obtain rfl : args = #[v0, v1, v2, v3] := by cases args; simp_all
  obtain ⟨rfl, rfl⟩ := trodVars_none hV
  have k0 := h0
  have lt0 : ∀ x ∈ p0, x.block < W.heap.size := by obtain ⟨m, hm⟩ := k0; exact DataW.trod_lt m _ _ _ hm
  obtain ⟨row0, al0, u0⟩ := HL.in_agg (P := Try.prog) (ks := [4, 4, 4, 4, 4, 4, 4, 4, 4, 4, 4, 4, 4, 0, 0, 4, 4, 4, 4, 4, 4, 4]) (by kernel_rfl) (by kernel_rfl) (hval 0 24 v0 rfl rfl) k0
  obtain ⟨n0_0, row0, rfl⟩ := HL.AllIn.cons al0
  have b0_0 := al0.1
  replace al0 := al0.2
  obtain ⟨n0_1, row0, rfl⟩ := HL.AllIn.cons al0
  have b0_1 := al0.1
  replace al0 := al0.2
  obtain ⟨n0_2, row0, rfl⟩ := HL.AllIn.cons al0
  have b0_2 := al0.1
  replace al0 := al0.2
  obtain ⟨n0_3, row0, rfl⟩ := HL.AllIn.cons al0
  have b0_3 := al0.1
  replace al0 := al0.2
  obtain ⟨n0_4, row0, rfl⟩ := HL.AllIn.cons al0
  have b0_4 := al0.1
  replace al0 := al0.2
  obtain ⟨n0_5, row0, rfl⟩ := HL.AllIn.cons al0
  have b0_5 := al0.1
  replace al0 := al0.2
  obtain ⟨n0_6, row0, rfl⟩ := HL.AllIn.cons al0
  have b0_6 := al0.1
  replace al0 := al0.2
  obtain ⟨n0_7, row0, rfl⟩ := HL.AllIn.cons al0
  have b0_7 := al0.1
  replace al0 := al0.2
  obtain ⟨n0_8, row0, rfl⟩ := HL.AllIn.cons al0
  have b0_8 := al0.1
  replace al0 := al0.2
  obtain ⟨n0_9, row0, rfl⟩ := HL.AllIn.cons al0
  have b0_9 := al0.1
  replace al0 := al0.2
  obtain ⟨n0_10, row0, rfl⟩ := HL.AllIn.cons al0
  have b0_10 := al0.1
  replace al0 := al0.2
  obtain ⟨n0_11, row0, rfl⟩ := HL.AllIn.cons al0
  have b0_11 := al0.1
  replace al0 := al0.2
  obtain ⟨n0_12, row0, rfl⟩ := HL.AllIn.cons al0
  have b0_12 := al0.1
  replace al0 := al0.2
  obtain ⟨n0_13, row0, rfl⟩ := HL.AllIn.cons al0
  have b0_13 := al0.1
  replace al0 := al0.2
  obtain ⟨n0_14, row0, rfl⟩ := HL.AllIn.cons al0
  have b0_14 := al0.1
  replace al0 := al0.2
  obtain ⟨n0_15, row0, rfl⟩ := HL.AllIn.cons al0
  have b0_15 := al0.1
  replace al0 := al0.2
  obtain ⟨n0_16, row0, rfl⟩ := HL.AllIn.cons al0
  have b0_16 := al0.1
  replace al0 := al0.2
  obtain ⟨n0_17, row0, rfl⟩ := HL.AllIn.cons al0
  have b0_17 := al0.1
  replace al0 := al0.2
  obtain ⟨n0_18, row0, rfl⟩ := HL.AllIn.cons al0
  have b0_18 := al0.1
  replace al0 := al0.2
  obtain ⟨n0_19, row0, rfl⟩ := HL.AllIn.cons al0
  have b0_19 := al0.1
  replace al0 := al0.2
  obtain ⟨n0_20, row0, rfl⟩ := HL.AllIn.cons al0
  have b0_20 := al0.1
  replace al0 := al0.2
  obtain ⟨n0_21, row0, rfl⟩ := HL.AllIn.cons al0
  have b0_21 := al0.1
  replace al0 := al0.2
  obtain rfl := HL.AllIn.nil al0
  have k1 := h1
  have lt1 : ∀ x ∈ p1, x.block < W.heap.size := by obtain ⟨m, hm⟩ := k1; exact DataW.trod_lt m _ _ _ hm
  obtain ⟨z1, l1, al1, u1⟩ := HL.in_slice (P := Try.prog) (ks := [4, 4]) Try.underlying26 (by kernel_rfl) (by kernel_rfl) (by decide) (hval 1 26 v1 rfl rfl) k1
  have k2 := h2
  have lt2 : ∀ x ∈ p2, x.block < W.heap.size := by obtain ⟨m, hm⟩ := k2; exact DataW.trod_lt m _ _ _ hm
  obtain ⟨z2, l2, al2, u2⟩ := HL.in_slice (P := Try.prog) (ks := [4]) Try.underlying27 (by kernel_rfl) (by kernel_rfl) (by decide) (hval 2 27 v2 rfl rfl) k2
  have k3 := h3
  have lt3 : ∀ x ∈ p3, x.block < W.heap.size := by obtain ⟨m, hm⟩ := k3; exact DataW.trod_lt m _ _ _ hm
  obtain ⟨z3, l3, al3, u3⟩ := HL.in_slice (P := Try.prog) (ks := [4]) Try.underlying27 (by kernel_rfl) (by kernel_rfl) (by decide) (hval 3 27 v3 rfl rfl) k3
  clear hA0 hval0
  refine Calls.mono (HL.law_true sLApply (HL.pre0 (hargs := [.agg [.int .i64 n0_0, .int .i64 n0_1, .int .i64 n0_2, .int .i64 n0_3, .int .i64 n0_4, .int .i64 n0_5, .int .i64 n0_6, .int .i64 n0_7, .int .i64 n0_8, .int .i64 n0_9, .int .i64 n0_10, .int .i64 n0_11, .int .i64 n0_12, .bool (n0_13 != 0), .bool (n0_14 != 0), .int .i64 n0_15, .int .i64 n0_16, .int .i64 n0_17, .int .i64 n0_18, .int .i64 n0_19, .int .i64 n0_20, .int .i64 n0_21], .ce (.sl false [4, 4] z1), .ce (.sl false [4] z2), .ce (.sl false [4] z3)]) rfl fun i hv hi => ?_) ⟨trivial, rfl⟩) fun e W' ⟨he, bel⟩ => ?_
  · match i, hi with
    | 0, hi => cases hi; exact ⟨_, rfl, u0⟩
    | 1, hi => cases hi; exact ⟨_, rfl, u1⟩
    | 2, hi => cases hi; exact ⟨_, rfl, u2⟩
    | 3, hi => cases hi; exact ⟨_, rfl, u3⟩
  subst he
  exact ⟨_, rfl, _, _, _, [], _, [], hW', trodAll_mk1 (shut_bool Try.underlying4 _), (trodAll_cons_mk (Below.trod laidOut (by kernel_rfl) (of_decide_eq_true (by kernel_rfl)) k0 bel lt0) (trodAll_cons_mk (Below.trod laidOut (by kernel_rfl) (of_decide_eq_true (by kernel_rfl)) k1 bel lt1) (trodAll_cons_mk (Below.trod laidOut (by kernel_rfl) (of_decide_eq_true (by kernel_rfl)) k2 bel lt2) (trodAll_cons_mk (Below.trod laidOut (by kernel_rfl) (of_decide_eq_true (by kernel_rfl)) k3 bel lt3) trodAll_mk0)))), rfl, bel.frame _, fun h => by cases h⟩

theorem over : Rows.modalApplyRow.holds Try.pinned (OpenSpec.ofChange Rows.modalApplySpec) :=
  OpenClaim.holds_of_wide 6 Try.f6 rfl rfl rfl rfl rfl rfl rfl ⟨rfl, rfl, rfl, rfl, rfl⟩ rfl rfl rfl rfl rfl (by kernel_rfl) Try.func6 (by kernel_rfl)
    (of_decide_eq_true (by kernel_rfl)) (by unfold Func.isWrapper; first | (rw [if_pos (by decide +kernel)]; kernel_rfl) | (rw [if_neg (by decide +kernel)]; exact ⟨rfl, rfl⟩))
    (fun os started H enc _ => lifted os started H enc)

/-- The statement. -/
theorem proved : Rows.ModalApplySaid := over
#print axioms proved
end Go.Proofs.Ytcfgklmpfkmdkaa.modalApply
