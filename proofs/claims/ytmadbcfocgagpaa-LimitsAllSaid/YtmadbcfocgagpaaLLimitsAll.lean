/-
  Whatever comes in, LimitsAll returns true, and the arguments read as before.
  Conditions: none.
-/
import Derived.Test.YtmadbcfocgagpaaRows
import Derived.WalkKit
import Derived.ProofKit
import Derived.OpenShut
import Derived.ShutString
import Derived.ChangeOld
import Derived.Below
import Derived.SizedLaws
import Derived.Test.YtmadbcfocgagpaaHzc
import Derived.Test.YtmadbcfocgagpaaL9
namespace Go.Proofs.Ytmadbcfocgagpaa.limitsAll
open Go.ChangeShapes Go.WideShapes Go.ChangeAt Go.RowKit
open Go.ChangeMaps (open_string shut_string)
set_option linter.unusedVariables false

theorem own : ownKnob Try.prog.godebug = none := by kernel_rfl
theorem laidOut : laidOutB Try.prog = true := by kernel_rfl

set_option maxRecDepth 100000 in
theorem lifted (os : Os) (started : os.Started) (H : Type) (enc : TypeId × Value → H) :
    ReturnsInHanded {} Try.checked os 8 .any (Rows.limitsAllSpec.pre6 enc Try.prog Try.f8 Rows.limitsAllRow.domain false) (Rows.limitsAllSpec.post enc Try.prog Try.f8 false true false false) := by
  refine returnsInHanded_of_change_sized (C := Try.checked) own started (by kernel_rfl) Try.func8
    (ChangeSpec.witness6 (enc := enc) (C := Try.checked) false ⟨#[], #[.slice none 0 0, .slice none 0 0], []⟩ 8 (by kernel_rfl) (by kernel_rfl) (by kernel_rfl) (by kernel_rfl)) ?_
  intro W base args ds gs before hval0 hW hcnd hsz _
  have hval : ∀ (j : Nat) t v, Try.f8.params[j]? = some t → args[j]? = some v → Value.okWide Try.prog W .any base t v := hval0
  have hW' := hW
  obtain ⟨p, q, hA0, hV, rfl, hfz, hnd⟩ := hW
  have hA : DataW.TrodAll enc Try.prog W 0 (fun _ => true) true Try.f8.params.toList args.toList ds p := hA0
  rw [Try.params8] at hA hval
  obtain ⟨v0, vs0, d0, ds0, p0, q0, hargs, rfl, rfl, h0, r0⟩ := trodAll_cons hA
  obtain ⟨v1, vs1, d1, ds1, p1, q1, rfl, rfl, rfl, h1, r1⟩ := trodAll_cons r0
  obtain ⟨rfl, rfl, rfl⟩ := trodAll_nil r1
  obtain rfl : args = #[v0, v1] := by cases args; simp_all
  obtain ⟨rfl, rfl⟩ := trodVars_none hV
  have k0 := h0
  have lt0 : ∀ x ∈ p0, x.block < W.heap.size := by obtain ⟨m, hm⟩ := k0; exact DataW.trod_lt m _ _ _ hm
  obtain ⟨z0, l0, al0, u0, sz0⟩ := HL.in_slice_sz (P := Try.prog) (ks := [4]) Try.underlying22 (by kernel_rfl) (by kernel_rfl) (by decide) (hval 0 22 v0 rfl rfl) k0
  have s0 : z0.length * 8 ≤ 140737488355328 := Nat.le_trans (sz0 reachBytes 8 fun es sp e => by
    have hz0 := sized_slice hsz (j := 0) (t := 22) (e := 3) (elems := es) (spare := sp) rfl (by rw [e]; rfl) Try.underlying22
    rw [show Try.checked.prog.bytesOf 3 = 8 by kernel_rfl] at hz0
    exact hz0) (Nat.le_of_lt reachBytes_lt)
  have k1 := h1
  have lt1 : ∀ x ∈ p1, x.block < W.heap.size := by obtain ⟨m, hm⟩ := k1; exact DataW.trod_lt m _ _ _ hm
  obtain ⟨z1, l1, al1, u1, sz1⟩ := HL.in_slice_sz (P := Try.prog) (ks := [4, 4, 4]) Try.underlying36 (by kernel_rfl) (by kernel_rfl) (by decide) (hval 1 36 v1 rfl rfl) k1
  have s1 : z1.length * 24 ≤ 140737488355328 := Nat.le_trans (sz1 reachBytes 24 fun es sp e => by
    have hz0 := sized_slice hsz (j := 1) (t := 36) (e := 37) (elems := es) (spare := sp) rfl (by rw [e]; rfl) Try.underlying36
    rw [show Try.checked.prog.bytesOf 37 = 24 by kernel_rfl] at hz0
    exact hz0) (Nat.le_of_lt reachBytes_lt)
  clear hA0 hval0 hsz
  refine Calls.mono (HL.law_true law8 (HL.pre0 (hargs := [.ce (.sl false [4] z0), .ce (.sl false [4, 4, 4] z1)]) rfl fun i hv hi => ?_) ⟨⟨l0, s1⟩, rfl⟩) fun e W' ⟨he, bel⟩ => ?_
  · match i, hi with
    | 0, hi => cases hi; exact ⟨_, rfl, u0⟩
    | 1, hi => cases hi; exact ⟨_, rfl, u1⟩
  subst he
  exact ⟨_, rfl, _, _, _, [], _, [], hW', trodAll_mk1 (shut_bool Try.underlying4 _), (trodAll_cons_mk (Below.trod laidOut (by kernel_rfl) (of_decide_eq_true (by kernel_rfl)) k0 bel lt0) (trodAll_cons_mk (Below.trod laidOut (by kernel_rfl) (of_decide_eq_true (by kernel_rfl)) k1 bel lt1) trodAll_mk0)), rfl, bel.frame _, fun h => by cases h⟩

theorem over : Rows.limitsAllRow.holds Try.pinned (OpenSpec.ofChange Rows.limitsAllSpec) :=
  OpenClaim.holds_of_wide 8 Try.f8 rfl rfl rfl rfl rfl rfl rfl ⟨rfl, rfl, rfl, rfl, rfl⟩ rfl rfl rfl rfl rfl (by kernel_rfl) Try.func8 (by kernel_rfl)
    (of_decide_eq_true (by kernel_rfl)) (by unfold Func.isWrapper; first | (rw [if_pos (by decide +kernel)]; kernel_rfl) | (rw [if_neg (by decide +kernel)]; exact ⟨rfl, rfl⟩))
    (fun os started H enc _ => lifted os started H enc)

/-- The statement. -/
theorem proved : Rows.LimitsAllSaid := over
#print axioms proved
end Go.Proofs.Ytmadbcfocgagpaa.limitsAll
