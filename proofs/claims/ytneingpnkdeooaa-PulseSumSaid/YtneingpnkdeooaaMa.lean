/-
  The makers of data: From, Next.
  Conditions: none.
-/
import Derived.Test.YtneingpnkdeooaaMm
set_option maxRecDepth 100000
namespace U
open Go
/-- the place of a source after a number was taken -/
def adv (l : List (List Int)) (p : Int) : Int := if p < (l.length : Int) then p + 1 else p
def inSrc (l : List (List Int)) (p : Int) : Prop := 0 ≤ p ∧ l.length ≤ 9223372036854775807
def drew (l : List (List Int)) (p m : Int) (x : Int × Int) : Prop := 0 ≤ x.1 ∧ x.1 < m ∧ x.2 = adv l p
theorem inSrc_adv {l : List (List Int)} {p : Int} (h : inSrc l p) : inSrc l (adv l p) := ⟨by have := h.1; unfold adv; split <;> omega, h.2⟩
theorem drew_src {l : List (List Int)} {p m : Int} {x : Int × Int} (h : inSrc l p) (hd : drew l p m x) : inSrc l x.2 := by rw [hd.2.2]; exact inSrc_adv h
theorem drew_ex (l : List (List Int)) (p : Int) {m : Int} (h : 0 < m) : ∃ x, drew l p m x := ⟨(0, adv l p), Int.le_refl _, h, rfl⟩
end U
namespace Go.Proofs.Ytneingpnkdeooaa
open Go Go.HL U
def SFrom (hargs : List HV) (pars : List (List HC)) : SR :=
  match hargs, pars with
  | [.ce (.sl false [4] l)], [] => .det True ⟨.ce (.ptr 500 0), false, [], [[.sl false [4] l, .int .i64 0]]⟩
  | _, _ => .fail
noncomputable def CFrom : Ctx := ⟨Try.prog, gam [], 6, [], []⟩
theorem vcFrom (l : List (List Int)) (Q : Res → Prop) : (nfun true CFrom Try.f47 (bodyOf Try.f47) [.ce (.sl false [4] l)] [] Q) =
    (Q { val := HV.ce (HC.ptr (500 : Nat) (0 : Nat)), own := false, pars := [], news := [[HC.sl false [(4 : Nat)] l, HC.int IntKind.i64 (0 : Int)]] }) := by kernel_rfl
def SNext (hargs : List HV) (pars : List (List HC)) : SR :=
  match hargs, pars with
  | [.ce (.ptr 0 0), .ce (.int .i64 m)], [[.sl false [4] l, .int .i64 p]] =>
    .all (0 < m ∧ m ≤ 4611686018427387904 ∧ inSrc l p) (Int × Int) (fun x => drew l p m x)
      (fun x => ⟨.ce (.int .i64 x.1), false, [[.sl false [4] l, .int .i64 x.2]], []⟩)
  | _, _ => .fail
def tabNext : List (FuncId × HL.Spec) := [(11, SMod)]
noncomputable def CNext : Ctx := ⟨Try.prog, gam tabNext, 36, [], []⟩
theorem vcNext (l : List (List Int)) (p m : Int) (Q : Res → Prop) : (nfun true CNext Try.f73 (bodyOf Try.f73) [.ce (.ptr 0 0), .ce (.int .i64 m)] [[.sl false [4] l, .int .i64 p]] Q) =
    ((decide (p ≥ (((List.length l) : Nat) : Int)) = true → Q { val := HV.ce (HC.int IntKind.i64 (0 : Int)), own := false, pars := [[HC.sl false [(4 : Nat)] l, HC.int IntKind.i64 p]], news := [] }) ∧ (decide (p ≥ (((List.length l) : Nat) : Int)) = false → ((0 : Int) ≤ p ∧ p < (((List.length l) : Nat) : Int)) ∧ ∀ (x1 : Int), x1 = el l (Int.toNat p) → ((-9223372036854775808 : Int) ≤ p + (1 : Int) ∧ p + (1 : Int) ≤ (9223372036854775807 : Int)) ∧ ∀ (x2 : Int), x2 = p + (1 : Int) → ((0 : Int) < m ∧ m ≤ (4611686018427387904 : Int)) ∧ ∀ (x3 : Int), x3 = x1 % m → Q { val := HV.ce (HC.int IntKind.i64 x3), own := false, pars := [[HC.sl false [(4 : Nat)] l, HC.int IntKind.i64 x2]], news := [] })) := by kernel_rfl
end Go.Proofs.Ytneingpnkdeooaa
namespace Go.Proofs.Ytneingpnkdeooaa
open Go Go.HL U
theorem sFrom : Sound Try.prog 47 SFrom := by
  refine sound_of (C := CFrom) [] Try.func47 (by kernel_rfl) (by decide +kernel) (by kernel_rfl) rfl trivial (loops0 (by kernel_rfl)) ?_
  intro hargs pars R h
  unfold SFrom at h
  split at h
  · refine byVC (vcFrom _ R) ?_
   ; exact h.2
  · exact h.elim

theorem sNext : Sound Try.prog 73 SNext := by
  refine sound_of (C := CNext) tabNext Try.func73 (by kernel_rfl) (by decide +kernel) (by kernel_rfl) rfl ⟨sMod, trivial⟩ (loops0 (by kernel_rfl)) ?_
  intro hargs pars R h
  unfold SNext at h
  split at h
  · rename_i m l p
    refine byVC (vcNext l p m R) ?_
    obtain ⟨⟨h1, h2, h3, h4⟩, _, hq⟩ := h
    refine ⟨fun e => ?_, fun e => ?_⟩
    · have e := of_decide_eq_true e
      exact hq (0, p) ⟨Int.le_refl _, h1, by unfold adv; rw [if_neg (by omega)]⟩
    · have e := of_decide_eq_false e
      refine ⟨by omega, fun x3 e3 => ⟨by omega, fun x5 e5 => ⟨⟨h1, h2⟩, fun y ey => ?_⟩⟩⟩
      subst ey
      exact hq (x3 % m, x5) ⟨Int.emod_nonneg _ (by omega), Int.emod_lt_of_pos _ h1, by unfold adv; rw [if_pos (by omega)]; exact e5⟩
  · exact h.elim
end Go.Proofs.Ytneingpnkdeooaa
