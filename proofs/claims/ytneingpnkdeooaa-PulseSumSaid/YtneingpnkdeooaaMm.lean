/-
  Mod.
  Conditions: none.
-/
import Derived.Test.YtneingpnkdeooaaUa
set_option maxRecDepth 100000
namespace Go.Proofs.Ytneingpnkdeooaa
open Go Go.HL U
def SMod (hargs : List HV) (pars : List (List HC)) : SR :=
  match hargs, pars with
  | [.ce (.int .i64 a), .ce (.int .i64 b)], [] => .det (0 < b ∧ b ≤ 4611686018427387904) ⟨.ce (.int .i64 (a % b)), false, [], []⟩
  | _, _ => .fail
noncomputable def CMod : Ctx := ⟨Try.prog, gam [], 12, [], []⟩
theorem vcMod (a b : Int) (Q : Res → Prop) : (nfun true CMod Try.f11 (bodyOf Try.f11) [.ce (.int .i64 a), .ce (.int .i64 b)] [] Q) =
    (b ≠ (0 : Int) ∧ ∀ (x1 : Int), x1 = Int.tmod a b → ((-9223372036854775808 : Int) ≤ x1 + b ∧ x1 + b ≤ (9223372036854775807 : Int)) ∧ ∀ (x2 : Int), x2 = x1 + b → b ≠ (0 : Int) ∧ ∀ (x3 : Int), x3 = Int.tmod x2 b → Q { val := HV.ce (HC.int IntKind.i64 x3), own := false, pars := [], news := [] }) := by kernel_rfl
end Go.Proofs.Ytneingpnkdeooaa
namespace Go.Proofs.Ytneingpnkdeooaa
open Go Go.HL U
theorem sMod : Sound Try.prog 11 SMod := by
  refine sound_of (C := CMod) [] Try.func11 (by kernel_rfl) (by decide +kernel) (by kernel_rfl) rfl trivial (loops0 (by kernel_rfl)) ?_
  intro hargs pars R h
  unfold SMod at h
  split at h
  · rename_i a b
    refine byVC (vcMod a b R) ?_
    obtain ⟨⟨h1, h2⟩, hq⟩ := h
    have := tmod_lt (a := a) h1
    refine ⟨by omega, fun x1 e1 => ⟨by omega, fun x2 e2 => ⟨by omega, fun x3 e3 => ?_⟩⟩⟩
    subst e1 e2
    rw [mod_eq h1] at e3
    subst e3
    exact hq
  · exact h.elim

end Go.Proofs.Ytneingpnkdeooaa
