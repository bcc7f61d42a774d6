/-
  The sanity check, and the law on the differences.
  Conditions: none.
-/
import Derived.Test.YtmadbcfocgagpaaL3
import Derived.Test.YtmadbcfocgagpaaHz
namespace Go.Proofs.Ytmadbcfocgagpaa
open Go Go.HL U
def tabA : List (FuncId × HL.Spec) := [(16, SW)]
noncomputable def CA : Ctx := ⟨Try.prog, gam tabA, 12, [], []⟩
def SA (hargs : List HV) (pars : List (List HC)) : SR :=
  match hargs, pars with
  | [], [] => .det True ⟨.ce (.bool true), false, [], []⟩
  | _, _ => .fail
theorem vc9 (Q : Res → Prop) : (hfun CA Try.f9 (bodyOf Try.f9) [] [] Q) =
    ((4 : Nat) ≤ (1000 : Nat) ∧
      (W (3 : Int) (1 : Int) (4 : Int) [[(0 : Int)], [(1 : Int)], [(3 : Int)], [(6 : Int)]] = true →
          (3 : Nat) ≤ (1000 : Nat) ∧
            Q
              { val := HV.ce (HC.bool !W (3 : Int) (1 : Int) (4 : Int) [[(0 : Int)], [(1 : Int)], [(4 : Int)]]),
                own := false, pars := [], news := [] }) ∧
        (W (3 : Int) (1 : Int) (4 : Int) [[(0 : Int)], [(1 : Int)], [(3 : Int)], [(6 : Int)]] = false →
          Q { val := HV.ce (HC.bool false), own := false, pars := [], news := [] })) := by kernel_rfl
def tab3 : List (FuncId × HL.Spec) := [(9, SA), (10, SF), (12, SD'), (13, SD'), (11, SS)]
noncomputable def C3 : Ctx := ⟨Try.prog, gam tab3, 15, [], []⟩
def S3 (hargs : List HV) (pars : List (List HC)) : SR :=
  match hargs, pars with
  | [.ce (.sl false [4] _)], [] => .det True ⟨.ce (.bool true), false, [], []⟩
  | _, _ => .fail
theorem vc3 (l : List (List Int)) (Q : Res → Prop) : (hfun C3 Try.f3 (bodyOf Try.f3) [.ce (.sl false [4] l)] [] Q) =
    (True ∧
      ((!true) = true → Q { val := HV.ce (HC.bool false), own := false, pars := [], news := [] }) ∧
        ((!true) = false →
          True ∧
            ((!few l) = true → Q { val := HV.ce (HC.bool true), own := false, pars := [], news := [] }) ∧
              ((!few l) = false →
                List.length l ≤ (1000 : Nat) ∧
                  List.length l ≤ (1000 : Nat) ∧
                    (List.length (d1 l) ≤ (1000 : Nat) ∧ List.length (d1 l) ≤ (1000 : Nat)) ∧
                      Q { val := HV.ce (HC.bool (same (d1 l) (d1 l))), own := false, pars := [], news := [] }))) := by kernel_rfl

theorem s9 : Sound Try.prog 9 SA := by
  refine sound_of (C := CA) tabA Try.func9 (by kernel_rfl) (by decide +kernel) (by kernel_rfl) rfl ⟨s16, trivial⟩ (loops0 (by kernel_rfl)) ?_
  intro hargs pars R h
  unfold SA at h
  split at h
  · rw [vc9]
    have e1 : W 3 1 4 [[0], [1], [3], [6]] = true := by decide +kernel
    have e2 : W 3 1 4 [[0], [1], [4]] = false := by decide +kernel
    rw [e1, e2]
    exact ⟨by omega, fun _ => ⟨by omega, h.2⟩, (fun e => nomatch e)⟩
  · exact h.elim

theorem same_self (l : List (List Int)) : same l l = true := by
  unfold same same1
  rw [Bool.and_eq_true, allN_iff]
  exact ⟨by simp, fun j _ => by simp⟩

theorem few_le {l : List (List Int)} (h : few l = true) : l.length ≤ 100 := by
  unfold few at h
  rw [Bool.and_eq_true] at h
  exact of_decide_eq_true h.1

theorem s3 : Sound Try.prog 3 S3 := by
  refine sound_of (C := C3) tab3 Try.func3 (by kernel_rfl) (by decide +kernel) (by kernel_rfl) rfl ⟨s9, s10, t12, t13, s11, trivial⟩ (loops0 (by kernel_rfl)) ?_
  intro hargs pars R h
  unfold S3 at h
  split at h
  · rename_i l
    rw [vc3]
    refine ⟨trivial, (fun e => nomatch e), fun _ => ⟨trivial, fun _ => h.2, fun e => ?_⟩⟩
    have hl := few_le (l := l) (by simpa using e)
    have h1 := d1_le l (by omega)
    rw [same_self]
    exact ⟨by omega, by omega, ⟨h1, h1⟩, h.2⟩
  · exact h.elim
end Go.Proofs.Ytmadbcfocgagpaa
