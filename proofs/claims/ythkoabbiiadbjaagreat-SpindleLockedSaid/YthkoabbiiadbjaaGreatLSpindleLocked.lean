/-
  Whatever comes in, SpindleLocked returns true, and the arguments read as before.
  Conditions: none.
-/
import Derived.Test.YthkoabbiiadbjaaGreatPSpindleLocked5
import Derived.Test.YthkoabbiiadbjaaGreatRows
import Derived.WalkKit
import Derived.ProofKit
import Derived.OpenShut
import Derived.ShutString
import Derived.ChangeOld
import Derived.Below
namespace Go.Proofs.YthkoabbiiadbjaaGreat.spindleLocked
open Go.ChangeShapes Go.WideShapes Go.ChangeAt Go.RowKit
open Go.ChangeMaps (open_string shut_string)
set_option linter.unusedVariables false

theorem own : ownKnob Tryz.prog.godebug = none := by kernel_rfl
theorem laidOut : laidOutB Tryz.prog = true := by kernel_rfl

set_option maxRecDepth 100000 in
theorem lifted (os : Os) (started : os.Started) (H : Type) (enc : TypeId × Value → H) :
    ReturnsInHanded {} Tryz.checked os 4 .any (Rows.spindleLockedSpec.pre6 enc Tryz.prog Tryz.f4 Rows.spindleLockedRow.domain false) (Rows.spindleLockedSpec.post enc Tryz.prog Tryz.f4 false true false false) := by
  refine returnsInHanded_of_change (C := Tryz.checked) own started (by kernel_rfl) Tryz.func4
    (ChangeSpec.witness6 (enc := enc) (C := Tryz.checked) false ⟨#[], #[.slice none 0 0, .slice none 0 0, .slice none 0 0, .int .i64 0, .int .i64 0, .int .i64 0], []⟩ 8 (by kernel_rfl) (by kernel_rfl) (by kernel_rfl) (by kernel_rfl)) ?_
  intro W base args ds gs before hval0 hW hcnd _
  have hval : ∀ (j : Nat) t v, Tryz.f4.params[j]? = some t → args[j]? = some v → Value.okWide Tryz.prog W .any base t v := hval0
  have hW' := hW
  obtain ⟨p, q, hA0, hV, rfl, hfz, hnd⟩ := hW
  have hA : DataW.TrodAll enc Tryz.prog W 0 (fun _ => true) true Tryz.f4.params.toList args.toList ds p := hA0
  rw [Tryz.params4] at hA hval
  obtain ⟨v0, vs0, d0, ds0, p0, q0, hargs, rfl, rfl, h0, r0⟩ := trodAll_cons hA
  obtain ⟨v1, vs1, d1, ds1, p1, q1, rfl, rfl, rfl, h1, r1⟩ := trodAll_cons r0
  obtain ⟨v2, vs2, d2, ds2, p2, q2, rfl, rfl, rfl, h2, r2⟩ := trodAll_cons r1
  obtain ⟨v3, vs3, d3, ds3, p3, q3, rfl, rfl, rfl, h3, r3⟩ := trodAll_cons r2
  obtain ⟨v4, vs4, d4, ds4, p4, q4, rfl, rfl, rfl, h4, r4⟩ := trodAll_cons r3
  obtain ⟨v5, vs5, d5, ds5, p5, q5, rfl, rfl, rfl, h5, r5⟩ := trodAll_cons r4
  obtain ⟨rfl, rfl, rfl⟩ := trodAll_nil r5
  obtain rfl : args = #[v0, v1, v2, v3, v4, v5] := by cases args; simp_all
  obtain ⟨rfl, rfl⟩ := trodVars_none hV
  have k0 := h0
  have lt0 : ∀ x ∈ p0, x.block < W.heap.size := by obtain ⟨m, hm⟩ := k0; exact DataW.trod_lt m _ _ _ hm
  obtain ⟨z0, l0, al0, u0⟩ := HL.in_slice (P := Tryz.prog) (ks := [4]) Tryz.underlying22 (by kernel_rfl) (by kernel_rfl) (by decide) (hval 0 22 v0 rfl rfl) k0
  have k1 := h1
  have lt1 : ∀ x ∈ p1, x.block < W.heap.size := by obtain ⟨m, hm⟩ := k1; exact DataW.trod_lt m _ _ _ hm
  obtain ⟨z1, l1, al1, u1⟩ := HL.in_slice (P := Tryz.prog) (ks := [4]) Tryz.underlying22 (by kernel_rfl) (by kernel_rfl) (by decide) (hval 1 22 v1 rfl rfl) k1
  have k2 := h2
  have lt2 : ∀ x ∈ p2, x.block < W.heap.size := by obtain ⟨m, hm⟩ := k2; exact DataW.trod_lt m _ _ _ hm
  obtain ⟨z2, l2, al2, u2⟩ := HL.in_slice (P := Tryz.prog) (ks := [4]) Tryz.underlying22 (by kernel_rfl) (by kernel_rfl) (by decide) (hval 2 22 v2 rfl rfl) k2
  have k3 := h3
  have lt3 : ∀ x ∈ p3, x.block < W.heap.size := by obtain ⟨m, hm⟩ := k3; exact DataW.trod_lt m _ _ _ hm
  obtain ⟨a3, hv3, _, _, w3⟩ := open_int Tryz.underlying3 (hval 3 3 v3 rfl rfl) h3
  subst hv3
  have r3 := (HL.wf_in w3).1
  have r3 := HL.wf_i64 w3
  have k4 := h4
  have lt4 : ∀ x ∈ p4, x.block < W.heap.size := by obtain ⟨m, hm⟩ := k4; exact DataW.trod_lt m _ _ _ hm
  obtain ⟨a4, hv4, _, _, w4⟩ := open_int Tryz.underlying3 (hval 4 3 v4 rfl rfl) h4
  subst hv4
  have r4 := (HL.wf_in w4).1
  have r4 := HL.wf_i64 w4
  have k5 := h5
  have lt5 : ∀ x ∈ p5, x.block < W.heap.size := by obtain ⟨m, hm⟩ := k5; exact DataW.trod_lt m _ _ _ hm
  obtain ⟨a5, hv5, _, _, w5⟩ := open_int Tryz.underlying3 (hval 5 3 v5 rfl rfl) h5
  subst hv5
  have r5 := (HL.wf_in w5).1
  have r5 := HL.wf_i64 w5
  clear hA0 hval0
  refine Calls.mono (HL.law_true sLLok (HL.pre0 (hargs := [.ce (.sl false [4] z0), .ce (.sl false [4] z1), .ce (.sl false [4] z2), .ce (.int .i64 a3), .ce (.int .i64 a4), .ce (.int .i64 a5)]) rfl fun i hv hi => ?_) ⟨⟨l0,l1⟩, rfl⟩) fun e W' ⟨he, bel⟩ => ?_
  · match i, hi with
    | 0, hi => cases hi; exact ⟨_, rfl, u0⟩
    | 1, hi => cases hi; exact ⟨_, rfl, u1⟩
    | 2, hi => cases hi; exact ⟨_, rfl, u2⟩
    | 3, hi => cases hi; exact ⟨_, rfl, rfl⟩
    | 4, hi => cases hi; exact ⟨_, rfl, rfl⟩
    | 5, hi => cases hi; exact ⟨_, rfl, rfl⟩
  subst he
  exact ⟨_, rfl, _, _, _, [], _, [], hW', trodAll_mk1 (shut_bool Tryz.underlying4 _), (trodAll_cons_mk (Below.trod laidOut (by kernel_rfl) (of_decide_eq_true (by kernel_rfl)) k0 bel lt0) (trodAll_cons_mk (Below.trod laidOut (by kernel_rfl) (of_decide_eq_true (by kernel_rfl)) k1 bel lt1) (trodAll_cons_mk (Below.trod laidOut (by kernel_rfl) (of_decide_eq_true (by kernel_rfl)) k2 bel lt2) (trodAll_cons_mk (Below.trod laidOut (by kernel_rfl) (of_decide_eq_true (by kernel_rfl)) k3 bel lt3) (trodAll_cons_mk (Below.trod laidOut (by kernel_rfl) (of_decide_eq_true (by kernel_rfl)) k4 bel lt4) (trodAll_cons_mk (Below.trod laidOut (by kernel_rfl) (of_decide_eq_true (by kernel_rfl)) k5 bel lt5) trodAll_mk0)))))), rfl, bel.frame _, fun h => by cases h⟩

theorem over : Rows.spindleLockedRow.holds Tryz.pinned (OpenSpec.ofChange Rows.spindleLockedSpec) :=
  OpenClaim.holds_of_wide 4 Tryz.f4 rfl rfl rfl rfl rfl rfl rfl ⟨rfl, rfl, rfl, rfl, rfl⟩ rfl rfl rfl rfl rfl (by kernel_rfl) Tryz.func4 (by kernel_rfl)
    (of_decide_eq_true (by kernel_rfl)) (by unfold Func.isWrapper; first | (rw [if_pos (by decide +kernel)]; kernel_rfl) | (rw [if_neg (by decide +kernel)]; exact ⟨rfl, rfl⟩))
    (fun os started H enc _ => lifted os started H enc)

/-- The statement. -/
theorem proved : Rows.SpindleLockedSaid := over
#print axioms proved
end Go.Proofs.YthkoabbiiadbjaaGreat.spindleLocked
