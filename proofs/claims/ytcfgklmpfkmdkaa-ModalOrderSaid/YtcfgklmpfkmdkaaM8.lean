/-
  Package modal: ModalSets, ModalGroups, ModalCodes.
  Conditions: none.
-/
import Derived.Test.YtcfgklmpfkmdkaaM7
namespace Go.Proofs.Ytcfgklmpfkmdkaa
open Go Go.HL U
/-- a block that is the constant nil is the empty block -/
def SApplyN (hargs : List HV) (pars : List (List HC)) : SR :=
  match hargs with
  | [a, .ce (.sl false [] [])] => SApply [a, .ce (.sl false [4, 4] [])] pars
  | _ => SApply hargs pars
def tabLSets : List (FuncId × HL.Spec) := [(13, STrue0), (17, SLight), (19, SNew), (26, SMakeM), (27, SApplyN), (29, SGroup), (25, SMod)]
def SLSets (hargs : List HV) (pars : List (List HC)) : SR :=
  match hargs, pars with
  | [.ce (.sl false [4] l), .ce (.int .i64 w)], [] => .det True ⟨.ce (.bool true), false, [], []⟩
  | _, _ => .fail
noncomputable def CLSets : Ctx := ⟨Try.prog, gam tabLSets, Try.f9.ntmps, [], []⟩
theorem vcLSets (l : List (List Int)) (w : Int) (Q : Res → Prop) : (nfun true CLSets Try.f9 (bodyOf Try.f9) [.ce (.sl false [4] l), .ce (.int .i64 w)] [] Q) =
    (True ∧ ∀ (x1 : Bool), x1 = decide ((((List.length l) : Nat) : Int) ≤ (120 : Int)) → ((!x1) = true → True ∧ ∀ (x2 : Bool), x2 = true → Q { val := HV.ce (HC.bool x2), own := false, pars := [], news := [] }) ∧ ((!x1) = false → True ∧ ∀ (x3 : List (List Int)), x3 = l → ∀ (x4 : Int), x4 = (0 : Int) → inSrc x3 x4 ∧ (∃ (x : M × Int), inSrc x3 x.2) ∧ ∀ (x : M × Int), inSrc x3 x.2 → (0 : Nat) ≤ (1000 : Nat) ∧ (∃ (x_1 : Int × M), x_1 = appM [] { m0 := x.1.m0, m1 := x.1.m1, m2 := x.1.m2, m3 := x.1.m3, m4 := x.1.m4, m5 := x.1.m5, m6 := x.1.m6, m7 := x.1.m7, m8 := x.1.m8, m9 := x.1.m9, m10 := x.1.m10, m11 := x.1.m11, m12 := x.1.m12, m13 := x.1.m13, m14 := x.1.m14, m15 := x.1.m15, m16 := x.1.m16, m17 := x.1.m17, m18 := x.1.m18, m19 := x.1.m19, m20 := x.1.m20, m21 := x.1.m21 }) ∧ ∀ (x_1 : Int × M), x_1 = appM [] { m0 := x.1.m0, m1 := x.1.m1, m2 := x.1.m2, m3 := x.1.m3, m4 := x.1.m4, m5 := x.1.m5, m6 := x.1.m6, m7 := x.1.m7, m8 := x.1.m8, m9 := x.1.m9, m10 := x.1.m10, m11 := x.1.m11, m12 := x.1.m12, m13 := x.1.m13, m14 := x.1.m14, m15 := x.1.m15, m16 := x.1.m16, m17 := x.1.m17, m18 := x.1.m18, m19 := x.1.m19, m20 := x.1.m20, m21 := x.1.m21 } →
    ((0 : Int) < (28 : Int) ∧ (28 : Int) ≤ (4611686018427387904 : Int)) ∧ ∀ (x7 : Int), x7 = w % (28 : Int) → ((0 : Int) ≤ x7 ∧ x7 < (28 : Int)) ∧ ∀ (x8 : Int), x8 = el [[(0 : Int)], [(1 : Int)], [(2 : Int)], [(3 : Int)], [(17 : Int)], [(18 : Int)], [(19 : Int)], [(20 : Int)], [(21 : Int)], [(54 : Int)], [(55 : Int)], [(59 : Int)], [(68 : Int)], [(69 : Int)], [(73 : Int)], [(80 : Int)], [(90 : Int)], [(91 : Int)], [(94 : Int)], [(95 : Int)], [(98 : Int)], [(99 : Int)], [(15 : Int)], [(16 : Int)], [(41 : Int)], [(42 : Int)], [(43 : Int)], [(44 : Int)]] (Int.toNat x7) → ((-9223372036854775808 : Int) ≤ x8 * (1000000 : Int) ∧ x8 * (1000000 : Int) ≤ (9223372036854775807 : Int)) ∧ ∀ (x9 : Int), x9 = x8 * (1000000 : Int) → (1 : Nat) ≤ (1000 : Nat) ∧ (∃ (x_2 : Int × M), x_2 = appM [[(71 : Int), x9]] { m0 := x.1.m0, m1 := x.1.m1, m2 := x.1.m2, m3 := x.1.m3, m4 := x.1.m4, m5 := x.1.m5, m6 := x.1.m6, m7 := x.1.m7, m8 := x.1.m8, m9 := x.1.m9, m10 := x.1.m10, m11 := x.1.m11, m12 := x.1.m12, m13 := x.1.m13, m14 := x.1.m14, m15 := x.1.m15, m16 := x.1.m16, m17 := x.1.m17, m18 := x.1.m18, m19 := x.1.m19, m20 := x.1.m20, m21 := x.1.m21 }) ∧
    ∀ (x_2 : Int × M), x_2 = appM [[(71 : Int), x9]] { m0 := x.1.m0, m1 := x.1.m1, m2 := x.1.m2, m3 := x.1.m3, m4 := x.1.m4, m5 := x.1.m5, m6 := x.1.m6, m7 := x.1.m7, m8 := x.1.m8, m9 := x.1.m9, m10 := x.1.m10, m11 := x.1.m11, m12 := x.1.m12, m13 := x.1.m13, m14 := x.1.m14, m15 := x.1.m15, m16 := x.1.m16, m17 := x.1.m17, m18 := x.1.m18, m19 := x.1.m19, m20 := x.1.m20, m21 := x.1.m21 } → True ∧ ∀ (x11 : Int), x11 = grp (71 : Int) x8 → ((x11 == (1 : Int)) = true → True ∧ ∀ (x12 : Bool), x12 = true → (x12 = true → ((x_1.1 == (0 : Int)) = true → ((x_1.2.m0 == x.1.m0 && (x_1.2.m1 == x.1.m1 && (x_1.2.m2 == x.1.m2 && (x_1.2.m3 == x.1.m3 && (x_1.2.m4 == x.1.m4 && (x_1.2.m5 == x.1.m5 && (x_1.2.m6 == x.1.m6 && (x_1.2.m7 == x.1.m7 && (x_1.2.m8 == x.1.m8 && (x_1.2.m9 == x.1.m9 && (x_1.2.m10 == x.1.m10 && (x_1.2.m11 == x.1.m11 && (x_1.2.m12 == x.1.m12 && (x_1.2.m13 == x.1.m13 && (x_1.2.m14 == x.1.m14 && (x_1.2.m15 == x.1.m15 && (x_1.2.m16 == x.1.m16 && (x_1.2.m17 == x.1.m17 && (x_1.2.m18 == x.1.m18 && (x_1.2.m19 == x.1.m19 && (x_1.2.m20 == x.1.m20 && (x_1.2.m21 == x.1.m21 && true)))))))))))))))))))))) = true →
    ((x_2.1 == (0 : Int)) = true → Q { val := HV.ce (HC.bool (x_2.2.m0 == x8 && (x_2.2.m1 == x.1.m1 && (x_2.2.m2 == x.1.m2 && (x_2.2.m3 == x.1.m3 && (x_2.2.m4 == x.1.m4 && (x_2.2.m5 == x.1.m5 && (x_2.2.m6 == x.1.m6 && (x_2.2.m7 == x.1.m7 && (x_2.2.m8 == x.1.m8 && (x_2.2.m9 == x.1.m9 && (x_2.2.m10 == x.1.m10 && (x_2.2.m11 == x.1.m11 && (x_2.2.m12 == x.1.m12 && (x_2.2.m13 == x.1.m13 && (x_2.2.m14 == x.1.m14 && (x_2.2.m15 == x.1.m15 && (x_2.2.m16 == x.1.m16 && (x_2.2.m17 == x.1.m17 && (x_2.2.m18 == x.1.m18 && (x_2.2.m19 == x.1.m19 && (x_2.2.m20 == x.1.m20 && (x_2.2.m21 == x.1.m21 && true))))))))))))))))))))))), own := false, pars := [], news := [] }) ∧ ((x_2.1 == (0 : Int)) = false → Q { val := HV.ce (HC.bool false), own := false, pars := [], news := [] })) ∧ ((x_1.2.m0 == x.1.m0 && (x_1.2.m1 == x.1.m1 && (x_1.2.m2 == x.1.m2 && (x_1.2.m3 == x.1.m3 && (x_1.2.m4 == x.1.m4 && (x_1.2.m5 == x.1.m5 && (x_1.2.m6 == x.1.m6 && (x_1.2.m7 == x.1.m7 && (x_1.2.m8 == x.1.m8 && (x_1.2.m9 == x.1.m9 && (x_1.2.m10 == x.1.m10 && (x_1.2.m11 == x.1.m11 && (x_1.2.m12 == x.1.m12 && (x_1.2.m13 == x.1.m13 && (x_1.2.m14 == x.1.m14 && (x_1.2.m15 == x.1.m15 && (x_1.2.m16 == x.1.m16 && (x_1.2.m17 == x.1.m17 && (x_1.2.m18 == x.1.m18 && (x_1.2.m19 == x.1.m19 && (x_1.2.m20 == x.1.m20 && (x_1.2.m21 == x.1.m21 && true)))))))))))))))))))))) = false →
    Q { val := HV.ce (HC.bool false), own := false, pars := [], news := [] })) ∧ ((x_1.1 == (0 : Int)) = false → Q { val := HV.ce (HC.bool false), own := false, pars := [], news := [] })) ∧ (x12 = false → Q { val := HV.ce (HC.bool false), own := false, pars := [], news := [] })) ∧ ((x11 == (1 : Int)) = false → ((x11 == (2 : Int)) = true → True ∧ ∀ (x13 : Bool), x13 = true → (x13 = true → ((x_1.1 == (0 : Int)) = true → ((x_1.2.m0 == x.1.m0 && (x_1.2.m1 == x.1.m1 && (x_1.2.m2 == x.1.m2 && (x_1.2.m3 == x.1.m3 && (x_1.2.m4 == x.1.m4 && (x_1.2.m5 == x.1.m5 && (x_1.2.m6 == x.1.m6 && (x_1.2.m7 == x.1.m7 && (x_1.2.m8 == x.1.m8 && (x_1.2.m9 == x.1.m9 && (x_1.2.m10 == x.1.m10 && (x_1.2.m11 == x.1.m11 && (x_1.2.m12 == x.1.m12 && (x_1.2.m13 == x.1.m13 && (x_1.2.m14 == x.1.m14 && (x_1.2.m15 == x.1.m15 && (x_1.2.m16 == x.1.m16 && (x_1.2.m17 == x.1.m17 && (x_1.2.m18 == x.1.m18 && (x_1.2.m19 == x.1.m19 && (x_1.2.m20 == x.1.m20 && (x_1.2.m21 == x.1.m21 && true)))))))))))))))))))))) = true →
    ((x_2.1 == (0 : Int)) = true → Q { val := HV.ce (HC.bool (x_2.2.m0 == x.1.m0 && (x_2.2.m1 == x8 && (x_2.2.m2 == x.1.m2 && (x_2.2.m3 == x.1.m3 && (x_2.2.m4 == x.1.m4 && (x_2.2.m5 == x.1.m5 && (x_2.2.m6 == x.1.m6 && (x_2.2.m7 == x.1.m7 && (x_2.2.m8 == x.1.m8 && (x_2.2.m9 == x.1.m9 && (x_2.2.m10 == x.1.m10 && (x_2.2.m11 == x.1.m11 && (x_2.2.m12 == x.1.m12 && (x_2.2.m13 == x.1.m13 && (x_2.2.m14 == x.1.m14 && (x_2.2.m15 == x.1.m15 && (x_2.2.m16 == x.1.m16 && (x_2.2.m17 == x.1.m17 && (x_2.2.m18 == x.1.m18 && (x_2.2.m19 == x.1.m19 && (x_2.2.m20 == x.1.m20 && (x_2.2.m21 == x.1.m21 && true))))))))))))))))))))))), own := false, pars := [], news := [] }) ∧ ((x_2.1 == (0 : Int)) = false → Q { val := HV.ce (HC.bool false), own := false, pars := [], news := [] })) ∧ ((x_1.2.m0 == x.1.m0 && (x_1.2.m1 == x.1.m1 && (x_1.2.m2 == x.1.m2 && (x_1.2.m3 == x.1.m3 && (x_1.2.m4 == x.1.m4 && (x_1.2.m5 == x.1.m5 && (x_1.2.m6 == x.1.m6 && (x_1.2.m7 == x.1.m7 && (x_1.2.m8 == x.1.m8 && (x_1.2.m9 == x.1.m9 && (x_1.2.m10 == x.1.m10 && (x_1.2.m11 == x.1.m11 && (x_1.2.m12 == x.1.m12 && (x_1.2.m13 == x.1.m13 && (x_1.2.m14 == x.1.m14 && (x_1.2.m15 == x.1.m15 && (x_1.2.m16 == x.1.m16 && (x_1.2.m17 == x.1.m17 && (x_1.2.m18 == x.1.m18 && (x_1.2.m19 == x.1.m19 && (x_1.2.m20 == x.1.m20 && (x_1.2.m21 == x.1.m21 && true)))))))))))))))))))))) = false →
    Q { val := HV.ce (HC.bool false), own := false, pars := [], news := [] })) ∧ ((x_1.1 == (0 : Int)) = false → Q { val := HV.ce (HC.bool false), own := false, pars := [], news := [] })) ∧ (x13 = false → Q { val := HV.ce (HC.bool false), own := false, pars := [], news := [] })) ∧ ((x11 == (2 : Int)) = false → ((x11 == (3 : Int)) = true → True ∧ ∀ (x14 : Bool), x14 = true → (x14 = true → ((x_1.1 == (0 : Int)) = true → ((x_1.2.m0 == x.1.m0 && (x_1.2.m1 == x.1.m1 && (x_1.2.m2 == x.1.m2 && (x_1.2.m3 == x.1.m3 && (x_1.2.m4 == x.1.m4 && (x_1.2.m5 == x.1.m5 && (x_1.2.m6 == x.1.m6 && (x_1.2.m7 == x.1.m7 && (x_1.2.m8 == x.1.m8 && (x_1.2.m9 == x.1.m9 && (x_1.2.m10 == x.1.m10 && (x_1.2.m11 == x.1.m11 && (x_1.2.m12 == x.1.m12 && (x_1.2.m13 == x.1.m13 && (x_1.2.m14 == x.1.m14 && (x_1.2.m15 == x.1.m15 && (x_1.2.m16 == x.1.m16 && (x_1.2.m17 == x.1.m17 && (x_1.2.m18 == x.1.m18 && (x_1.2.m19 == x.1.m19 && (x_1.2.m20 == x.1.m20 && (x_1.2.m21 == x.1.m21 && true)))))))))))))))))))))) = true →
    ((x_2.1 == (0 : Int)) = true → Q { val := HV.ce (HC.bool (x_2.2.m0 == x.1.m0 && (x_2.2.m1 == x.1.m1 && (x_2.2.m2 == x8 && (x_2.2.m3 == x.1.m3 && (x_2.2.m4 == x.1.m4 && (x_2.2.m5 == x.1.m5 && (x_2.2.m6 == x.1.m6 && (x_2.2.m7 == x.1.m7 && (x_2.2.m8 == x.1.m8 && (x_2.2.m9 == x.1.m9 && (x_2.2.m10 == x.1.m10 && (x_2.2.m11 == x.1.m11 && (x_2.2.m12 == x.1.m12 && (x_2.2.m13 == x.1.m13 && (x_2.2.m14 == x.1.m14 && (x_2.2.m15 == x.1.m15 && (x_2.2.m16 == x.1.m16 && (x_2.2.m17 == x.1.m17 && (x_2.2.m18 == x.1.m18 && (x_2.2.m19 == x.1.m19 && (x_2.2.m20 == x.1.m20 && (x_2.2.m21 == x.1.m21 && true))))))))))))))))))))))), own := false, pars := [], news := [] }) ∧ ((x_2.1 == (0 : Int)) = false → Q { val := HV.ce (HC.bool false), own := false, pars := [], news := [] })) ∧ ((x_1.2.m0 == x.1.m0 && (x_1.2.m1 == x.1.m1 && (x_1.2.m2 == x.1.m2 && (x_1.2.m3 == x.1.m3 && (x_1.2.m4 == x.1.m4 && (x_1.2.m5 == x.1.m5 && (x_1.2.m6 == x.1.m6 && (x_1.2.m7 == x.1.m7 && (x_1.2.m8 == x.1.m8 && (x_1.2.m9 == x.1.m9 && (x_1.2.m10 == x.1.m10 && (x_1.2.m11 == x.1.m11 && (x_1.2.m12 == x.1.m12 && (x_1.2.m13 == x.1.m13 && (x_1.2.m14 == x.1.m14 && (x_1.2.m15 == x.1.m15 && (x_1.2.m16 == x.1.m16 && (x_1.2.m17 == x.1.m17 && (x_1.2.m18 == x.1.m18 && (x_1.2.m19 == x.1.m19 && (x_1.2.m20 == x.1.m20 && (x_1.2.m21 == x.1.m21 && true)))))))))))))))))))))) = false →
    Q { val := HV.ce (HC.bool false), own := false, pars := [], news := [] })) ∧ ((x_1.1 == (0 : Int)) = false → Q { val := HV.ce (HC.bool false), own := false, pars := [], news := [] })) ∧ (x14 = false → Q { val := HV.ce (HC.bool false), own := false, pars := [], news := [] })) ∧ ((x11 == (3 : Int)) = false → ((x11 == (4 : Int)) = true → True ∧ ∀ (x15 : Bool), x15 = true → (x15 = true → ((x_1.1 == (0 : Int)) = true → ((x_1.2.m0 == x.1.m0 && (x_1.2.m1 == x.1.m1 && (x_1.2.m2 == x.1.m2 && (x_1.2.m3 == x.1.m3 && (x_1.2.m4 == x.1.m4 && (x_1.2.m5 == x.1.m5 && (x_1.2.m6 == x.1.m6 && (x_1.2.m7 == x.1.m7 && (x_1.2.m8 == x.1.m8 && (x_1.2.m9 == x.1.m9 && (x_1.2.m10 == x.1.m10 && (x_1.2.m11 == x.1.m11 && (x_1.2.m12 == x.1.m12 && (x_1.2.m13 == x.1.m13 && (x_1.2.m14 == x.1.m14 && (x_1.2.m15 == x.1.m15 && (x_1.2.m16 == x.1.m16 && (x_1.2.m17 == x.1.m17 && (x_1.2.m18 == x.1.m18 && (x_1.2.m19 == x.1.m19 && (x_1.2.m20 == x.1.m20 && (x_1.2.m21 == x.1.m21 && true)))))))))))))))))))))) = true →
    ((x_2.1 == (0 : Int)) = true → Q { val := HV.ce (HC.bool (x_2.2.m0 == x.1.m0 && (x_2.2.m1 == x.1.m1 && (x_2.2.m2 == x.1.m2 && (x_2.2.m3 == x8 && (x_2.2.m4 == x.1.m4 && (x_2.2.m5 == x.1.m5 && (x_2.2.m6 == x.1.m6 && (x_2.2.m7 == x.1.m7 && (x_2.2.m8 == x.1.m8 && (x_2.2.m9 == x.1.m9 && (x_2.2.m10 == x.1.m10 && (x_2.2.m11 == x.1.m11 && (x_2.2.m12 == x.1.m12 && (x_2.2.m13 == x.1.m13 && (x_2.2.m14 == x.1.m14 && (x_2.2.m15 == x.1.m15 && (x_2.2.m16 == x.1.m16 && (x_2.2.m17 == x.1.m17 && (x_2.2.m18 == x.1.m18 && (x_2.2.m19 == x.1.m19 && (x_2.2.m20 == x.1.m20 && (x_2.2.m21 == x.1.m21 && true))))))))))))))))))))))), own := false, pars := [], news := [] }) ∧ ((x_2.1 == (0 : Int)) = false → Q { val := HV.ce (HC.bool false), own := false, pars := [], news := [] })) ∧ ((x_1.2.m0 == x.1.m0 && (x_1.2.m1 == x.1.m1 && (x_1.2.m2 == x.1.m2 && (x_1.2.m3 == x.1.m3 && (x_1.2.m4 == x.1.m4 && (x_1.2.m5 == x.1.m5 && (x_1.2.m6 == x.1.m6 && (x_1.2.m7 == x.1.m7 && (x_1.2.m8 == x.1.m8 && (x_1.2.m9 == x.1.m9 && (x_1.2.m10 == x.1.m10 && (x_1.2.m11 == x.1.m11 && (x_1.2.m12 == x.1.m12 && (x_1.2.m13 == x.1.m13 && (x_1.2.m14 == x.1.m14 && (x_1.2.m15 == x.1.m15 && (x_1.2.m16 == x.1.m16 && (x_1.2.m17 == x.1.m17 && (x_1.2.m18 == x.1.m18 && (x_1.2.m19 == x.1.m19 && (x_1.2.m20 == x.1.m20 && (x_1.2.m21 == x.1.m21 && true)))))))))))))))))))))) = false →
    Q { val := HV.ce (HC.bool false), own := false, pars := [], news := [] })) ∧ ((x_1.1 == (0 : Int)) = false → Q { val := HV.ce (HC.bool false), own := false, pars := [], news := [] })) ∧ (x15 = false → Q { val := HV.ce (HC.bool false), own := false, pars := [], news := [] })) ∧ ((x11 == (4 : Int)) = false → ((x11 == (5 : Int)) = true → True ∧ ∀ (x16 : Bool), x16 = true → (x16 = true → ((x_1.1 == (0 : Int)) = true → ((x_1.2.m0 == x.1.m0 && (x_1.2.m1 == x.1.m1 && (x_1.2.m2 == x.1.m2 && (x_1.2.m3 == x.1.m3 && (x_1.2.m4 == x.1.m4 && (x_1.2.m5 == x.1.m5 && (x_1.2.m6 == x.1.m6 && (x_1.2.m7 == x.1.m7 && (x_1.2.m8 == x.1.m8 && (x_1.2.m9 == x.1.m9 && (x_1.2.m10 == x.1.m10 && (x_1.2.m11 == x.1.m11 && (x_1.2.m12 == x.1.m12 && (x_1.2.m13 == x.1.m13 && (x_1.2.m14 == x.1.m14 && (x_1.2.m15 == x.1.m15 && (x_1.2.m16 == x.1.m16 && (x_1.2.m17 == x.1.m17 && (x_1.2.m18 == x.1.m18 && (x_1.2.m19 == x.1.m19 && (x_1.2.m20 == x.1.m20 && (x_1.2.m21 == x.1.m21 && true)))))))))))))))))))))) = true →
    ((x_2.1 == (0 : Int)) = true → Q { val := HV.ce (HC.bool (x_2.2.m0 == x.1.m0 && (x_2.2.m1 == x.1.m1 && (x_2.2.m2 == x.1.m2 && (x_2.2.m3 == x.1.m3 && (x_2.2.m4 == x8 && (x_2.2.m5 == x.1.m5 && (x_2.2.m6 == x.1.m6 && (x_2.2.m7 == x.1.m7 && (x_2.2.m8 == x.1.m8 && (x_2.2.m9 == x.1.m9 && (x_2.2.m10 == x.1.m10 && (x_2.2.m11 == x.1.m11 && (x_2.2.m12 == x.1.m12 && (x_2.2.m13 == x.1.m13 && (x_2.2.m14 == x.1.m14 && (x_2.2.m15 == x.1.m15 && (x_2.2.m16 == x.1.m16 && (x_2.2.m17 == x.1.m17 && (x_2.2.m18 == x.1.m18 && (x_2.2.m19 == x.1.m19 && (x_2.2.m20 == x.1.m20 && (x_2.2.m21 == x.1.m21 && true))))))))))))))))))))))), own := false, pars := [], news := [] }) ∧ ((x_2.1 == (0 : Int)) = false → Q { val := HV.ce (HC.bool false), own := false, pars := [], news := [] })) ∧ ((x_1.2.m0 == x.1.m0 && (x_1.2.m1 == x.1.m1 && (x_1.2.m2 == x.1.m2 && (x_1.2.m3 == x.1.m3 && (x_1.2.m4 == x.1.m4 && (x_1.2.m5 == x.1.m5 && (x_1.2.m6 == x.1.m6 && (x_1.2.m7 == x.1.m7 && (x_1.2.m8 == x.1.m8 && (x_1.2.m9 == x.1.m9 && (x_1.2.m10 == x.1.m10 && (x_1.2.m11 == x.1.m11 && (x_1.2.m12 == x.1.m12 && (x_1.2.m13 == x.1.m13 && (x_1.2.m14 == x.1.m14 && (x_1.2.m15 == x.1.m15 && (x_1.2.m16 == x.1.m16 && (x_1.2.m17 == x.1.m17 && (x_1.2.m18 == x.1.m18 && (x_1.2.m19 == x.1.m19 && (x_1.2.m20 == x.1.m20 && (x_1.2.m21 == x.1.m21 && true)))))))))))))))))))))) = false →
    Q { val := HV.ce (HC.bool false), own := false, pars := [], news := [] })) ∧ ((x_1.1 == (0 : Int)) = false → Q { val := HV.ce (HC.bool false), own := false, pars := [], news := [] })) ∧ (x16 = false → Q { val := HV.ce (HC.bool false), own := false, pars := [], news := [] })) ∧ ((x11 == (5 : Int)) = false → ((x11 == (6 : Int)) = true → True ∧ ∀ (x17 : Bool), x17 = true → (x17 = true → ((x_1.1 == (0 : Int)) = true → ((x_1.2.m0 == x.1.m0 && (x_1.2.m1 == x.1.m1 && (x_1.2.m2 == x.1.m2 && (x_1.2.m3 == x.1.m3 && (x_1.2.m4 == x.1.m4 && (x_1.2.m5 == x.1.m5 && (x_1.2.m6 == x.1.m6 && (x_1.2.m7 == x.1.m7 && (x_1.2.m8 == x.1.m8 && (x_1.2.m9 == x.1.m9 && (x_1.2.m10 == x.1.m10 && (x_1.2.m11 == x.1.m11 && (x_1.2.m12 == x.1.m12 && (x_1.2.m13 == x.1.m13 && (x_1.2.m14 == x.1.m14 && (x_1.2.m15 == x.1.m15 && (x_1.2.m16 == x.1.m16 && (x_1.2.m17 == x.1.m17 && (x_1.2.m18 == x.1.m18 && (x_1.2.m19 == x.1.m19 && (x_1.2.m20 == x.1.m20 && (x_1.2.m21 == x.1.m21 && true)))))))))))))))))))))) = true →
    ((x_2.1 == (0 : Int)) = true → Q { val := HV.ce (HC.bool (x_2.2.m0 == x.1.m0 && (x_2.2.m1 == x.1.m1 && (x_2.2.m2 == x.1.m2 && (x_2.2.m3 == x.1.m3 && (x_2.2.m4 == x.1.m4 && (x_2.2.m5 == x8 && (x_2.2.m6 == x.1.m6 && (x_2.2.m7 == x.1.m7 && (x_2.2.m8 == x.1.m8 && (x_2.2.m9 == x.1.m9 && (x_2.2.m10 == x.1.m10 && (x_2.2.m11 == x.1.m11 && (x_2.2.m12 == x.1.m12 && (x_2.2.m13 == x.1.m13 && (x_2.2.m14 == x.1.m14 && (x_2.2.m15 == x.1.m15 && (x_2.2.m16 == x.1.m16 && (x_2.2.m17 == x.1.m17 && (x_2.2.m18 == x.1.m18 && (x_2.2.m19 == x.1.m19 && (x_2.2.m20 == x.1.m20 && (x_2.2.m21 == x.1.m21 && true))))))))))))))))))))))), own := false, pars := [], news := [] }) ∧ ((x_2.1 == (0 : Int)) = false → Q { val := HV.ce (HC.bool false), own := false, pars := [], news := [] })) ∧ ((x_1.2.m0 == x.1.m0 && (x_1.2.m1 == x.1.m1 && (x_1.2.m2 == x.1.m2 && (x_1.2.m3 == x.1.m3 && (x_1.2.m4 == x.1.m4 && (x_1.2.m5 == x.1.m5 && (x_1.2.m6 == x.1.m6 && (x_1.2.m7 == x.1.m7 && (x_1.2.m8 == x.1.m8 && (x_1.2.m9 == x.1.m9 && (x_1.2.m10 == x.1.m10 && (x_1.2.m11 == x.1.m11 && (x_1.2.m12 == x.1.m12 && (x_1.2.m13 == x.1.m13 && (x_1.2.m14 == x.1.m14 && (x_1.2.m15 == x.1.m15 && (x_1.2.m16 == x.1.m16 && (x_1.2.m17 == x.1.m17 && (x_1.2.m18 == x.1.m18 && (x_1.2.m19 == x.1.m19 && (x_1.2.m20 == x.1.m20 && (x_1.2.m21 == x.1.m21 && true)))))))))))))))))))))) = false →
    Q { val := HV.ce (HC.bool false), own := false, pars := [], news := [] })) ∧ ((x_1.1 == (0 : Int)) = false → Q { val := HV.ce (HC.bool false), own := false, pars := [], news := [] })) ∧ (x17 = false → Q { val := HV.ce (HC.bool false), own := false, pars := [], news := [] })) ∧ ((x11 == (6 : Int)) = false → ((x11 == (7 : Int)) = true → True ∧ ∀ (x18 : Bool), x18 = true → (x18 = true → ((x_1.1 == (0 : Int)) = true → ((x_1.2.m0 == x.1.m0 && (x_1.2.m1 == x.1.m1 && (x_1.2.m2 == x.1.m2 && (x_1.2.m3 == x.1.m3 && (x_1.2.m4 == x.1.m4 && (x_1.2.m5 == x.1.m5 && (x_1.2.m6 == x.1.m6 && (x_1.2.m7 == x.1.m7 && (x_1.2.m8 == x.1.m8 && (x_1.2.m9 == x.1.m9 && (x_1.2.m10 == x.1.m10 && (x_1.2.m11 == x.1.m11 && (x_1.2.m12 == x.1.m12 && (x_1.2.m13 == x.1.m13 && (x_1.2.m14 == x.1.m14 && (x_1.2.m15 == x.1.m15 && (x_1.2.m16 == x.1.m16 && (x_1.2.m17 == x.1.m17 && (x_1.2.m18 == x.1.m18 && (x_1.2.m19 == x.1.m19 && (x_1.2.m20 == x.1.m20 && (x_1.2.m21 == x.1.m21 && true)))))))))))))))))))))) = true →
    ((x_2.1 == (0 : Int)) = true → Q { val := HV.ce (HC.bool (x_2.2.m0 == x.1.m0 && (x_2.2.m1 == x.1.m1 && (x_2.2.m2 == x.1.m2 && (x_2.2.m3 == x.1.m3 && (x_2.2.m4 == x.1.m4 && (x_2.2.m5 == x.1.m5 && (x_2.2.m6 == x8 && (x_2.2.m7 == x.1.m7 && (x_2.2.m8 == x.1.m8 && (x_2.2.m9 == x.1.m9 && (x_2.2.m10 == x.1.m10 && (x_2.2.m11 == x.1.m11 && (x_2.2.m12 == x.1.m12 && (x_2.2.m13 == x.1.m13 && (x_2.2.m14 == x.1.m14 && (x_2.2.m15 == x.1.m15 && (x_2.2.m16 == x.1.m16 && (x_2.2.m17 == x.1.m17 && (x_2.2.m18 == x.1.m18 && (x_2.2.m19 == x.1.m19 && (x_2.2.m20 == x.1.m20 && (x_2.2.m21 == x.1.m21 && true))))))))))))))))))))))), own := false, pars := [], news := [] }) ∧ ((x_2.1 == (0 : Int)) = false → Q { val := HV.ce (HC.bool false), own := false, pars := [], news := [] })) ∧ ((x_1.2.m0 == x.1.m0 && (x_1.2.m1 == x.1.m1 && (x_1.2.m2 == x.1.m2 && (x_1.2.m3 == x.1.m3 && (x_1.2.m4 == x.1.m4 && (x_1.2.m5 == x.1.m5 && (x_1.2.m6 == x.1.m6 && (x_1.2.m7 == x.1.m7 && (x_1.2.m8 == x.1.m8 && (x_1.2.m9 == x.1.m9 && (x_1.2.m10 == x.1.m10 && (x_1.2.m11 == x.1.m11 && (x_1.2.m12 == x.1.m12 && (x_1.2.m13 == x.1.m13 && (x_1.2.m14 == x.1.m14 && (x_1.2.m15 == x.1.m15 && (x_1.2.m16 == x.1.m16 && (x_1.2.m17 == x.1.m17 && (x_1.2.m18 == x.1.m18 && (x_1.2.m19 == x.1.m19 && (x_1.2.m20 == x.1.m20 && (x_1.2.m21 == x.1.m21 && true)))))))))))))))))))))) = false →
    Q { val := HV.ce (HC.bool false), own := false, pars := [], news := [] })) ∧ ((x_1.1 == (0 : Int)) = false → Q { val := HV.ce (HC.bool false), own := false, pars := [], news := [] })) ∧ (x18 = false → Q { val := HV.ce (HC.bool false), own := false, pars := [], news := [] })) ∧ ((x11 == (7 : Int)) = false → ((x11 == (8 : Int)) = true → True ∧ ∀ (x19 : Bool), x19 = true → (x19 = true → ((x_1.1 == (0 : Int)) = true → ((x_1.2.m0 == x.1.m0 && (x_1.2.m1 == x.1.m1 && (x_1.2.m2 == x.1.m2 && (x_1.2.m3 == x.1.m3 && (x_1.2.m4 == x.1.m4 && (x_1.2.m5 == x.1.m5 && (x_1.2.m6 == x.1.m6 && (x_1.2.m7 == x.1.m7 && (x_1.2.m8 == x.1.m8 && (x_1.2.m9 == x.1.m9 && (x_1.2.m10 == x.1.m10 && (x_1.2.m11 == x.1.m11 && (x_1.2.m12 == x.1.m12 && (x_1.2.m13 == x.1.m13 && (x_1.2.m14 == x.1.m14 && (x_1.2.m15 == x.1.m15 && (x_1.2.m16 == x.1.m16 && (x_1.2.m17 == x.1.m17 && (x_1.2.m18 == x.1.m18 && (x_1.2.m19 == x.1.m19 && (x_1.2.m20 == x.1.m20 && (x_1.2.m21 == x.1.m21 && true)))))))))))))))))))))) = true →
    ((x_2.1 == (0 : Int)) = true → Q { val := HV.ce (HC.bool (x_2.2.m0 == x.1.m0 && (x_2.2.m1 == x.1.m1 && (x_2.2.m2 == x.1.m2 && (x_2.2.m3 == x.1.m3 && (x_2.2.m4 == x.1.m4 && (x_2.2.m5 == x.1.m5 && (x_2.2.m6 == x.1.m6 && (x_2.2.m7 == x8 && (x_2.2.m8 == x.1.m8 && (x_2.2.m9 == x.1.m9 && (x_2.2.m10 == x.1.m10 && (x_2.2.m11 == x.1.m11 && (x_2.2.m12 == x.1.m12 && (x_2.2.m13 == x.1.m13 && (x_2.2.m14 == x.1.m14 && (x_2.2.m15 == x.1.m15 && (x_2.2.m16 == x.1.m16 && (x_2.2.m17 == x.1.m17 && (x_2.2.m18 == x.1.m18 && (x_2.2.m19 == x.1.m19 && (x_2.2.m20 == x.1.m20 && (x_2.2.m21 == x.1.m21 && true))))))))))))))))))))))), own := false, pars := [], news := [] }) ∧ ((x_2.1 == (0 : Int)) = false → Q { val := HV.ce (HC.bool false), own := false, pars := [], news := [] })) ∧ ((x_1.2.m0 == x.1.m0 && (x_1.2.m1 == x.1.m1 && (x_1.2.m2 == x.1.m2 && (x_1.2.m3 == x.1.m3 && (x_1.2.m4 == x.1.m4 && (x_1.2.m5 == x.1.m5 && (x_1.2.m6 == x.1.m6 && (x_1.2.m7 == x.1.m7 && (x_1.2.m8 == x.1.m8 && (x_1.2.m9 == x.1.m9 && (x_1.2.m10 == x.1.m10 && (x_1.2.m11 == x.1.m11 && (x_1.2.m12 == x.1.m12 && (x_1.2.m13 == x.1.m13 && (x_1.2.m14 == x.1.m14 && (x_1.2.m15 == x.1.m15 && (x_1.2.m16 == x.1.m16 && (x_1.2.m17 == x.1.m17 && (x_1.2.m18 == x.1.m18 && (x_1.2.m19 == x.1.m19 && (x_1.2.m20 == x.1.m20 && (x_1.2.m21 == x.1.m21 && true)))))))))))))))))))))) = false →
    Q { val := HV.ce (HC.bool false), own := false, pars := [], news := [] })) ∧ ((x_1.1 == (0 : Int)) = false → Q { val := HV.ce (HC.bool false), own := false, pars := [], news := [] })) ∧ (x19 = false → Q { val := HV.ce (HC.bool false), own := false, pars := [], news := [] })) ∧ ((x11 == (8 : Int)) = false → ((x11 == (9 : Int)) = true → True ∧ ∀ (x20 : Bool), x20 = true → (x20 = true → ((x_1.1 == (0 : Int)) = true → ((x_1.2.m0 == x.1.m0 && (x_1.2.m1 == x.1.m1 && (x_1.2.m2 == x.1.m2 && (x_1.2.m3 == x.1.m3 && (x_1.2.m4 == x.1.m4 && (x_1.2.m5 == x.1.m5 && (x_1.2.m6 == x.1.m6 && (x_1.2.m7 == x.1.m7 && (x_1.2.m8 == x.1.m8 && (x_1.2.m9 == x.1.m9 && (x_1.2.m10 == x.1.m10 && (x_1.2.m11 == x.1.m11 && (x_1.2.m12 == x.1.m12 && (x_1.2.m13 == x.1.m13 && (x_1.2.m14 == x.1.m14 && (x_1.2.m15 == x.1.m15 && (x_1.2.m16 == x.1.m16 && (x_1.2.m17 == x.1.m17 && (x_1.2.m18 == x.1.m18 && (x_1.2.m19 == x.1.m19 && (x_1.2.m20 == x.1.m20 && (x_1.2.m21 == x.1.m21 && true)))))))))))))))))))))) = true →
    ((x_2.1 == (0 : Int)) = true → Q { val := HV.ce (HC.bool (x_2.2.m0 == x.1.m0 && (x_2.2.m1 == x.1.m1 && (x_2.2.m2 == x.1.m2 && (x_2.2.m3 == x.1.m3 && (x_2.2.m4 == x.1.m4 && (x_2.2.m5 == x.1.m5 && (x_2.2.m6 == x.1.m6 && (x_2.2.m7 == x.1.m7 && (x_2.2.m8 == x8 && (x_2.2.m9 == x.1.m9 && (x_2.2.m10 == x.1.m10 && (x_2.2.m11 == x.1.m11 && (x_2.2.m12 == x.1.m12 && (x_2.2.m13 == x.1.m13 && (x_2.2.m14 == x.1.m14 && (x_2.2.m15 == x.1.m15 && (x_2.2.m16 == x.1.m16 && (x_2.2.m17 == x.1.m17 && (x_2.2.m18 == x.1.m18 && (x_2.2.m19 == x.1.m19 && (x_2.2.m20 == x.1.m20 && (x_2.2.m21 == x.1.m21 && true))))))))))))))))))))))), own := false, pars := [], news := [] }) ∧ ((x_2.1 == (0 : Int)) = false → Q { val := HV.ce (HC.bool false), own := false, pars := [], news := [] })) ∧ ((x_1.2.m0 == x.1.m0 && (x_1.2.m1 == x.1.m1 && (x_1.2.m2 == x.1.m2 && (x_1.2.m3 == x.1.m3 && (x_1.2.m4 == x.1.m4 && (x_1.2.m5 == x.1.m5 && (x_1.2.m6 == x.1.m6 && (x_1.2.m7 == x.1.m7 && (x_1.2.m8 == x.1.m8 && (x_1.2.m9 == x.1.m9 && (x_1.2.m10 == x.1.m10 && (x_1.2.m11 == x.1.m11 && (x_1.2.m12 == x.1.m12 && (x_1.2.m13 == x.1.m13 && (x_1.2.m14 == x.1.m14 && (x_1.2.m15 == x.1.m15 && (x_1.2.m16 == x.1.m16 && (x_1.2.m17 == x.1.m17 && (x_1.2.m18 == x.1.m18 && (x_1.2.m19 == x.1.m19 && (x_1.2.m20 == x.1.m20 && (x_1.2.m21 == x.1.m21 && true)))))))))))))))))))))) = false →
    Q { val := HV.ce (HC.bool false), own := false, pars := [], news := [] })) ∧ ((x_1.1 == (0 : Int)) = false → Q { val := HV.ce (HC.bool false), own := false, pars := [], news := [] })) ∧ (x20 = false → Q { val := HV.ce (HC.bool false), own := false, pars := [], news := [] })) ∧ ((x11 == (9 : Int)) = false → ((x11 == (11 : Int)) = true → True ∧ ∀ (x21 : Bool), x21 = true → (x21 = true → ((x_1.1 == (0 : Int)) = true → ((x_1.2.m0 == x.1.m0 && (x_1.2.m1 == x.1.m1 && (x_1.2.m2 == x.1.m2 && (x_1.2.m3 == x.1.m3 && (x_1.2.m4 == x.1.m4 && (x_1.2.m5 == x.1.m5 && (x_1.2.m6 == x.1.m6 && (x_1.2.m7 == x.1.m7 && (x_1.2.m8 == x.1.m8 && (x_1.2.m9 == x.1.m9 && (x_1.2.m10 == x.1.m10 && (x_1.2.m11 == x.1.m11 && (x_1.2.m12 == x.1.m12 && (x_1.2.m13 == x.1.m13 && (x_1.2.m14 == x.1.m14 && (x_1.2.m15 == x.1.m15 && (x_1.2.m16 == x.1.m16 && (x_1.2.m17 == x.1.m17 && (x_1.2.m18 == x.1.m18 && (x_1.2.m19 == x.1.m19 && (x_1.2.m20 == x.1.m20 && (x_1.2.m21 == x.1.m21 && true)))))))))))))))))))))) = true →
    ((x_2.1 == (0 : Int)) = true → Q { val := HV.ce (HC.bool (x_2.2.m0 == x.1.m0 && (x_2.2.m1 == x.1.m1 && (x_2.2.m2 == x.1.m2 && (x_2.2.m3 == x.1.m3 && (x_2.2.m4 == x.1.m4 && (x_2.2.m5 == x.1.m5 && (x_2.2.m6 == x.1.m6 && (x_2.2.m7 == x.1.m7 && (x_2.2.m8 == x.1.m8 && (x_2.2.m9 == x.1.m9 && (x_2.2.m10 == x8 && (x_2.2.m11 == x.1.m11 && (x_2.2.m12 == x.1.m12 && (x_2.2.m13 == x.1.m13 && (x_2.2.m14 == x.1.m14 && (x_2.2.m15 == x.1.m15 && (x_2.2.m16 == x.1.m16 && (x_2.2.m17 == x.1.m17 && (x_2.2.m18 == x.1.m18 && (x_2.2.m19 == x.1.m19 && (x_2.2.m20 == x.1.m20 && (x_2.2.m21 == x.1.m21 && true))))))))))))))))))))))), own := false, pars := [], news := [] }) ∧ ((x_2.1 == (0 : Int)) = false → Q { val := HV.ce (HC.bool false), own := false, pars := [], news := [] })) ∧ ((x_1.2.m0 == x.1.m0 && (x_1.2.m1 == x.1.m1 && (x_1.2.m2 == x.1.m2 && (x_1.2.m3 == x.1.m3 && (x_1.2.m4 == x.1.m4 && (x_1.2.m5 == x.1.m5 && (x_1.2.m6 == x.1.m6 && (x_1.2.m7 == x.1.m7 && (x_1.2.m8 == x.1.m8 && (x_1.2.m9 == x.1.m9 && (x_1.2.m10 == x.1.m10 && (x_1.2.m11 == x.1.m11 && (x_1.2.m12 == x.1.m12 && (x_1.2.m13 == x.1.m13 && (x_1.2.m14 == x.1.m14 && (x_1.2.m15 == x.1.m15 && (x_1.2.m16 == x.1.m16 && (x_1.2.m17 == x.1.m17 && (x_1.2.m18 == x.1.m18 && (x_1.2.m19 == x.1.m19 && (x_1.2.m20 == x.1.m20 && (x_1.2.m21 == x.1.m21 && true)))))))))))))))))))))) = false →
    Q { val := HV.ce (HC.bool false), own := false, pars := [], news := [] })) ∧ ((x_1.1 == (0 : Int)) = false → Q { val := HV.ce (HC.bool false), own := false, pars := [], news := [] })) ∧ (x21 = false → Q { val := HV.ce (HC.bool false), own := false, pars := [], news := [] })) ∧ ((x11 == (11 : Int)) = false → ((x11 == (12 : Int)) = true → True ∧ ∀ (x22 : Bool), x22 = true → (x22 = true → ((x_1.1 == (0 : Int)) = true → ((x_1.2.m0 == x.1.m0 && (x_1.2.m1 == x.1.m1 && (x_1.2.m2 == x.1.m2 && (x_1.2.m3 == x.1.m3 && (x_1.2.m4 == x.1.m4 && (x_1.2.m5 == x.1.m5 && (x_1.2.m6 == x.1.m6 && (x_1.2.m7 == x.1.m7 && (x_1.2.m8 == x.1.m8 && (x_1.2.m9 == x.1.m9 && (x_1.2.m10 == x.1.m10 && (x_1.2.m11 == x.1.m11 && (x_1.2.m12 == x.1.m12 && (x_1.2.m13 == x.1.m13 && (x_1.2.m14 == x.1.m14 && (x_1.2.m15 == x.1.m15 && (x_1.2.m16 == x.1.m16 && (x_1.2.m17 == x.1.m17 && (x_1.2.m18 == x.1.m18 && (x_1.2.m19 == x.1.m19 && (x_1.2.m20 == x.1.m20 && (x_1.2.m21 == x.1.m21 && true)))))))))))))))))))))) = true →
    ((x_2.1 == (0 : Int)) = true → Q { val := HV.ce (HC.bool (x_2.2.m0 == x.1.m0 && (x_2.2.m1 == x.1.m1 && (x_2.2.m2 == x.1.m2 && (x_2.2.m3 == x.1.m3 && (x_2.2.m4 == x.1.m4 && (x_2.2.m5 == x.1.m5 && (x_2.2.m6 == x.1.m6 && (x_2.2.m7 == x.1.m7 && (x_2.2.m8 == x.1.m8 && (x_2.2.m9 == x.1.m9 && (x_2.2.m10 == x.1.m10 && (x_2.2.m11 == x8 && (x_2.2.m12 == x.1.m12 && (x_2.2.m13 == x.1.m13 && (x_2.2.m14 == x.1.m14 && (x_2.2.m15 == x.1.m15 && (x_2.2.m16 == x.1.m16 && (x_2.2.m17 == x.1.m17 && (x_2.2.m18 == x.1.m18 && (x_2.2.m19 == x.1.m19 && (x_2.2.m20 == x.1.m20 && (x_2.2.m21 == x.1.m21 && true))))))))))))))))))))))), own := false, pars := [], news := [] }) ∧ ((x_2.1 == (0 : Int)) = false → Q { val := HV.ce (HC.bool false), own := false, pars := [], news := [] })) ∧ ((x_1.2.m0 == x.1.m0 && (x_1.2.m1 == x.1.m1 && (x_1.2.m2 == x.1.m2 && (x_1.2.m3 == x.1.m3 && (x_1.2.m4 == x.1.m4 && (x_1.2.m5 == x.1.m5 && (x_1.2.m6 == x.1.m6 && (x_1.2.m7 == x.1.m7 && (x_1.2.m8 == x.1.m8 && (x_1.2.m9 == x.1.m9 && (x_1.2.m10 == x.1.m10 && (x_1.2.m11 == x.1.m11 && (x_1.2.m12 == x.1.m12 && (x_1.2.m13 == x.1.m13 && (x_1.2.m14 == x.1.m14 && (x_1.2.m15 == x.1.m15 && (x_1.2.m16 == x.1.m16 && (x_1.2.m17 == x.1.m17 && (x_1.2.m18 == x.1.m18 && (x_1.2.m19 == x.1.m19 && (x_1.2.m20 == x.1.m20 && (x_1.2.m21 == x.1.m21 && true)))))))))))))))))))))) = false →
    Q { val := HV.ce (HC.bool false), own := false, pars := [], news := [] })) ∧ ((x_1.1 == (0 : Int)) = false → Q { val := HV.ce (HC.bool false), own := false, pars := [], news := [] })) ∧ (x22 = false → Q { val := HV.ce (HC.bool false), own := false, pars := [], news := [] })) ∧ ((x11 == (12 : Int)) = false → Q { val := HV.ce (HC.bool false), own := false, pars := [], news := [] }))))))))))))) := by kernel_rfl
def tabLGroups : List (FuncId × HL.Spec) := [(13, STrue0), (16, SFew), (17, SLight), (19, SNew), (18, SValues), (29, SGroup), (30, SGroup), (31, SHas), (32, SHas), (33, SFind), (34, SFind), (25, SMod)]
def SLGroups (hargs : List HV) (pars : List (List HC)) : SR :=
  match hargs, pars with
  | [.ce (.int .i64 t), .ce (.int .i64 c), .ce (.sl false [4, 4] r), .ce (.sl false [4] l)], [] => .det True ⟨.ce (.bool true), false, [], []⟩
  | _, _ => .fail
def anG : LAnn := ⟨[0, 1, 2, 9, 10, 36, 37, 38], [0, 9], [], false⟩
def LG (v : LV) : LR :=
  match v with
  | ([.ce (.int .i64 t), .ce (.int .i64 c), .ce (.sl false [4, 4] r), .ce (.sl false [4, 4] v), .ce (.int .i64 c2), .ce (.sl false [4] d), .ce (.int .i64 len), .ce (.int .i64 k)], []) =>
    .det (k = 0 ∧ len = (d.length : Int) ∧ d.length ≤ 3 ∧ r.length ≤ 1000 ∧ v.length ≤ 1000) (.exit 0) ([.ce (.int .i64 t), .ce (.sl false [4, 4] v)], [])
  | _ => .fail
noncomputable def CLGroups : Ctx := ⟨Try.prog, gam tabLGroups, Try.f12.ntmps, [(6, anG, LG)], []⟩
theorem vcLGroups (t c : Int) (r l : List (List Int)) (Q : Res → Prop) : (nfun true CLGroups Try.f12 (bodyOf Try.f12) [.ce (.int .i64 t), .ce (.int .i64 c), .ce (.sl false [4, 4] r), .ce (.sl false [4] l)] [] Q) =
    (True ∧ ∀ (x1 : Bool), x1 = decide ((((List.length r) : Nat) : Int) ≤ (40 : Int)) → ((!x1) = true → True ∧ ∀ (x2 : Bool), x2 = true → Q { val := HV.ce (HC.bool x2), own := false, pars := [], news := [] }) ∧ ((!x1) = false → True ∧ ∀ (x3 : Bool), x3 = decide ((((List.length l) : Nat) : Int) ≤ (120 : Int)) → ((!x3) = true → True ∧ ∀ (x4 : Bool), x4 = true → Q { val := HV.ce (HC.bool x4), own := false, pars := [], news := [] }) ∧ ((!x3) = false → True ∧ ∀ (x5 : List (List Int)), x5 = l → ∀ (x6 : Int), x6 = (0 : Int) → inSrc x5 x6 ∧ (∃ (x : List (List Int) × Int), inSrc x5 x.2 ∧ List.length x.1 ≤ (40 : Nat)) ∧ ∀ (x : List (List Int) × Int), inSrc x5 x.2 ∧ List.length x.1 ≤ (40 : Nat) → ((0 : Int) < (110 : Int) ∧ (110 : Int) ≤ (4611686018427387904 : Int)) ∧ ∀ (x8 : Int), x8 = c % (110 : Int) → ((0 : Int) = (0 : Int) ∧ (((3 : Nat) : Nat) : Int) = (((3 : Nat) : Nat) : Int) ∧ (3 : Nat) ≤ (3 : Nat) ∧
    List.length r ≤ (1000 : Nat) ∧ List.length x.1 ≤ (1000 : Nat)) ∧ List.length x.1 ≤ (1000 : Nat) ∧ ∀ (x9 : Int), x9 = fndN t x.1 → ∀ (x10 : Bool), x10 = fndB t x.1 → List.length x.1 ≤ (1000 : Nat) ∧ ∀ (x11 : Int), x11 = fndN t x.1 → ∀ (x12 : Bool), x12 = fndB t x.1 → ((0 : Int) < (26 : Int) ∧ (26 : Int) ≤ (4611686018427387904 : Int)) ∧ ∀ (x13 : Int), x13 = t % (26 : Int) → ((-9223372036854775808 : Int) ≤ (65 : Int) + x13 ∧ (65 : Int) + x13 ≤ (9223372036854775807 : Int)) ∧ ∀ (x14 : Int), x14 = (65 : Int) + x13 → List.length x.1 ≤ (1000 : Nat) ∧ ∀ (x15 : Int), x15 = fndN x14 x.1 → ∀ (x16 : Bool), x16 = fndB x14 x.1 → ((0 : Int) < (26 : Int) ∧ (26 : Int) ≤ (4611686018427387904 : Int)) ∧ ∀ (x17 : Int), x17 = t % (26 : Int) → ((-9223372036854775808 : Int) ≤ (65 : Int) + x17 ∧ (65 : Int) + x17 ≤ (9223372036854775807 : Int)) ∧ ∀ (x18 : Int), x18 = (65 : Int) + x17 → List.length x.1 ≤ (1000 : Nat) ∧
    ∀ (x19 : Int), x19 = fndN x18 x.1 → ∀ (x20 : Bool), x20 = fndB x18 x.1 → True ∧ ∀ (x21 : Bool), x21 = true → (x21 = true → ((x9 == x11) = true → ((x10 == x12) = true → ((x15 == x19) = true → Q { val := HV.ce (HC.bool (x16 == x20)), own := false, pars := [], news := [] }) ∧ ((x15 == x19) = false → Q { val := HV.ce (HC.bool false), own := false, pars := [], news := [] })) ∧ ((x10 == x12) = false → Q { val := HV.ce (HC.bool false), own := false, pars := [], news := [] })) ∧ ((x9 == x11) = false → Q { val := HV.ce (HC.bool false), own := false, pars := [], news := [] })) ∧ (x21 = false → Q { val := HV.ce (HC.bool false), own := false, pars := [], news := [] })))) := by kernel_rfl
theorem vbG (t c : Int) (r v : List (List Int)) (c2 : Int) (d : List (List Int)) (len k : Int) (K : HEx → LV → Prop) : (nbodyT true CLGroups anG (nthLoop Try.f12 0) (([.ce (.int .i64 t), .ce (.int .i64 c), .ce (.sl false [4, 4] r), .ce (.sl false [4, 4] v), .ce (.int .i64 c2), .ce (.sl false [4] d), .ce (.int .i64 len), .ce (.int .i64 k)], [])) K) =
    ((decide (k < len) = true → ((0 : Int) ≤ k ∧ k < (((List.length d) : Nat) : Int)) ∧ ∀ (x1 : Int), x1 = el d (Int.toNat k) → True ∧ ∀ (x2 : Int), x2 = grp x1 c → True ∧ ∀ (x3 : Int), x3 = grp x1 c → ((x2 != x3) = true → K HEx.ret ([HV.ce (HC.int IntKind.i64 t), HV.ce (HC.sl false [(4 : Nat), (4 : Nat)] v)], [])) ∧ ((x2 != x3) = false → True ∧ ∀ (x4 : Int), x4 = grp x1 c2 → True ∧ ∀ (x5 : Int), x5 = grp x1 c2 → ((x4 != x5) = true → K HEx.ret ([HV.ce (HC.int IntKind.i64 t), HV.ce (HC.sl false [(4 : Nat), (4 : Nat)] v)], [])) ∧ ((x4 != x5) = false → List.length v ≤ (1000 : Nat) ∧ ∀ (x6 : Bool), x6 = has x1 c2 v → List.length v ≤ (1000 : Nat) ∧ ∀ (x7 : Bool), x7 = has x1 c2 v → ((!x6 == x7) = true → K HEx.ret ([HV.ce (HC.int IntKind.i64 t), HV.ce (HC.sl false [(4 : Nat), (4 : Nat)] v)], [])) ∧ ((!x6 == x7) = false → List.length r ≤ (1000 : Nat) ∧ ∀ (x8 : Bool), x8 = has x1 c r → List.length r ≤ (1000 : Nat) ∧
    ∀ (x9 : Bool), x9 = has x1 c r → ((!x8 == x9) = true → K HEx.ret ([HV.ce (HC.int IntKind.i64 t), HV.ce (HC.sl false [(4 : Nat), (4 : Nat)] v)], [])) ∧ ((!x8 == x9) = false → ((-9223372036854775808 : Int) ≤ k + (1 : Int) ∧ k + (1 : Int) ≤ (9223372036854775807 : Int)) ∧ ∀ (x10 : Int), x10 = k + (1 : Int) → K HEx.normal ([HV.ce (HC.int IntKind.i64 t), HV.ce (HC.int IntKind.i64 c), HV.ce (HC.sl false [(4 : Nat), (4 : Nat)] r), HV.ce (HC.sl false [(4 : Nat), (4 : Nat)] v), HV.ce (HC.int IntKind.i64 c2), HV.ce (HC.sl false [(4 : Nat)] d), HV.ce (HC.int IntKind.i64 len), HV.ce (HC.int IntKind.i64 x10)], [])))))) ∧ (decide (k < len) = false → K (HEx.exit (0 : Nat)) ([HV.ce (HC.int IntKind.i64 t), HV.ce (HC.sl false [(4 : Nat), (4 : Nat)] v)], []))) := by kernel_rfl
attribute [local irreducible] hfun bodyT
def eqM (a b : M) : Bool := (a.m0 == b.m0 && (a.m1 == b.m1 && (a.m2 == b.m2 && (a.m3 == b.m3 && (a.m4 == b.m4 && (a.m5 == b.m5 && (a.m6 == b.m6 && (a.m7 == b.m7 && (a.m8 == b.m8 && (a.m9 == b.m9 && (a.m10 == b.m10 && (a.m11 == b.m11 && (a.m12 == b.m12 && (a.m13 == b.m13 && (a.m14 == b.m14 && (a.m15 == b.m15 && (a.m16 == b.m16 && (a.m17 == b.m17 && (a.m18 == b.m18 && (a.m19 == b.m19 && (a.m20 == b.m20 && (a.m21 == b.m21 && true))))))))))))))))))))))
theorem eqM_refl (a : M) : eqM a a = true := by unfold eqM; simp only [beq_self_eq_true, Bool.and_self]
theorem nil_in {G : Ghost} {w : World} {v : Value} {ks : List Nat} (h : VRel G w none (.ce (.sl false [] [])) v) : VRel G w none (.ce (.sl false ks [])) v := by
  obtain ⟨a, cap, h1, h2, h3, h4⟩ := h
  refine ⟨a, cap, h1, h2, h3, ?_⟩
  rcases h4 with h | ⟨b, off, h5, _, _⟩
  · exact .inl h
  · exact .inr ⟨b, off, h5, fun i j hi _ => absurd hi (Nat.not_lt_zero _), fun _ he => nomatch he⟩
theorem sApplyN : Sound Try.prog 27 SApplyN := by
  refine ⟨sApply.1, fun G w hargs args pars R hp hs => ?_⟩
  unfold SApplyN at hs
  split at hs
  · rename_i a
    refine sApply.2 G w [a, .ce (.sl false [4, 4] [])] args pars R ⟨hp.size, fun i hv hi => ?_, hp.mem⟩ hs
    match i, hi with
    | 0, hi => exact hp.args 0 hv hi
    | 1, hi =>
      cases hi
      obtain ⟨v, hv, hr⟩ := hp.args 1 _ rfl
      exact ⟨v, hv, nil_in hr⟩
  · exact sApply.2 G w _ args pars R hp hs
def okR : Res := ⟨.ce (.bool true), false, [], []⟩
theorem leafS {x1 x2 : Int × M} {s want : M} {R : Res → Prop} (h1 : x1 = (0, s)) (h2 : x2 = (0, want)) (hq : R okR) :
    True ∧ ∀ z : Bool, z = true → (z = true → ((x1.1 == 0) = true → (eqM x1.2 s = true → ((x2.1 == 0) = true → R ⟨.ce (.bool (eqM x2.2 want)), false, [], []⟩) ∧ ((x2.1 == 0) = false → R ⟨.ce (.bool false), false, [], []⟩)) ∧ (eqM x1.2 s = false → R ⟨.ce (.bool false), false, [], []⟩)) ∧ ((x1.1 == 0) = false → R ⟨.ce (.bool false), false, [], []⟩)) ∧ (z = false → R ⟨.ce (.bool false), false, [], []⟩) := by
  subst h1 h2
  refine ⟨trivial, fun z ez => ⟨fun _ => ⟨fun _ => ⟨fun _ => ⟨fun _ => ?_, fun k => absurd k (by simp)⟩, fun k => ?_⟩, fun k => absurd k (by simp)⟩, fun k => ?_⟩⟩
  · dsimp only
    rw [eqM_refl]; exact hq
  · dsimp only at k
    rw [eqM_refl] at k; cases k
  · rw [ez] at k; cases k
set_option maxHeartbeats 400000 in
set_option maxRecDepth 100000 in
theorem sLSets : Sound Try.prog 9 SLSets := by
  refine sound_of (C := CLSets) tabLSets Try.func9 (by kernel_rfl) (by decide +kernel) (by kernel_rfl) rfl ⟨sAwake, sLight, sNew, sMakeM, sApplyN, sGroup, sMod, trivial⟩ (loops0 (by kernel_rfl)) ?_
  intro hargs pars R h
  unfold SLSets at h
  split at h
  case h_2 => exfalso; exact h
  rename_i l w
  have hq : R okR := h.2
  clear h
  refine byVC (vcLSets l w R) ⟨trivial, fun x1 e1 => ⟨fun _ => ⟨trivial, fun x2 e2 => by rw [e2]; exact hq⟩, fun k1 => ⟨trivial, fun x3 e3 x4 e4 => ?_⟩⟩⟩
  have hl : (l.length : Int) ≤ 120 := by
    rw [e1] at k1
    have k1 : decide ((l.length : Int) ≤ 120) = true := by simpa using k1
    exact of_decide_eq_true k1
  subst e3 e4
  have hs : inSrc x3 0 := ⟨Int.le_refl _, by omega⟩
  refine ⟨hs, ⟨(mst, 0), hs⟩, fun x hx => ⟨by decide, ⟨_, rfl⟩, fun y1 d1 => ⟨by decide, fun x7 e7 => ?_⟩⟩⟩
  have c1 : y1 = (0, x.1) := by rw [d1]; kernel_rfl
  have b1 := Int.emod_nonneg w (b := 28) (by decide)
  have b2 := Int.emod_lt_of_pos w (b := 28) (by decide)
  rw [← e7] at b1 b2
  clear e7 d1
  refine ⟨⟨b1, b2⟩, fun x8 e8 => ⟨?_, fun x9 e9 => ⟨by decide, ⟨_, rfl⟩, fun y2 e2 => ⟨trivial, fun x11 e11 => ?_⟩⟩⟩⟩
  · have := sml_el (c := [[0], [1], [2], [3], [17], [18], [19], [20], [21], [54], [55], [59], [68], [69], [73], [80], [90], [91], [94], [95], [98], [99], [15], [16], [41], [42], [43], [44]]) (by decide) x7.toNat (by show x7.toNat < 28; omega)
    rw [← e8] at this
    omega
  have hx7 : x7 = 0 ∨ x7 = 1 ∨ x7 = 2 ∨ x7 = 3 ∨ x7 = 4 ∨ x7 = 5 ∨ x7 = 6 ∨ x7 = 7 ∨ x7 = 8 ∨ x7 = 9 ∨ x7 = 10 ∨ x7 = 11 ∨ x7 = 12 ∨ x7 = 13 ∨ x7 = 14 ∨ x7 = 15 ∨ x7 = 16 ∨ x7 = 17 ∨ x7 = 18 ∨ x7 = 19 ∨ x7 = 20 ∨ x7 = 21 ∨ x7 = 22 ∨ x7 = 23 ∨ x7 = 24 ∨ x7 = 25 ∨ x7 = 26 ∨ x7 = 27 := by omega
  rcases hx7 with rfl | rfl | rfl | rfl | rfl | rfl | rfl | rfl | rfl | rfl | rfl | rfl | rfl | rfl | rfl | rfl | rfl | rfl | rfl | rfl | rfl | rfl | rfl | rfl | rfl | rfl | rfl | rfl
  · have c8 : x8 = 0 := e8
    subst c8
    have c9 : x9 = 0 := e9
    subst c9
    have c2 : y2 = (0, { x.1 with m0 := 0 }) := by rw [e2]; kernel_rfl
    have c11 : x11 = 1 := by rw [e11]; decide +kernel
    subst c11
    exact ⟨fun _ => leafS (s := x.1) (want := { x.1 with m0 := 0 }) c1 c2 hq, fun k => absurd k (by decide)⟩
  · have c8 : x8 = 1 := e8
    subst c8
    have c9 : x9 = 1000000 := e9
    subst c9
    have c2 : y2 = (0, { x.1 with m0 := 1 }) := by rw [e2]; kernel_rfl
    have c11 : x11 = 1 := by rw [e11]; decide +kernel
    subst c11
    exact ⟨fun _ => leafS (s := x.1) (want := { x.1 with m0 := 1 }) c1 c2 hq, fun k => absurd k (by decide)⟩
  · have c8 : x8 = 2 := e8
    subst c8
    have c9 : x9 = 2000000 := e9
    subst c9
    have c2 : y2 = (0, { x.1 with m0 := 2 }) := by rw [e2]; kernel_rfl
    have c11 : x11 = 1 := by rw [e11]; decide +kernel
    subst c11
    exact ⟨fun _ => leafS (s := x.1) (want := { x.1 with m0 := 2 }) c1 c2 hq, fun k => absurd k (by decide)⟩
  · have c8 : x8 = 3 := e8
    subst c8
    have c9 : x9 = 3000000 := e9
    subst c9
    have c2 : y2 = (0, { x.1 with m0 := 3 }) := by rw [e2]; kernel_rfl
    have c11 : x11 = 1 := by rw [e11]; decide +kernel
    subst c11
    exact ⟨fun _ => leafS (s := x.1) (want := { x.1 with m0 := 3 }) c1 c2 hq, fun k => absurd k (by decide)⟩
  · have c8 : x8 = 17 := e8
    subst c8
    have c9 : x9 = 17000000 := e9
    subst c9
    have c2 : y2 = (0, { x.1 with m1 := 17 }) := by rw [e2]; kernel_rfl
    have c11 : x11 = 2 := by rw [e11]; decide +kernel
    subst c11
    exact ⟨fun k => absurd k (by decide), fun _ => ⟨fun _ => leafS (s := x.1) (want := { x.1 with m1 := 17 }) c1 c2 hq, fun k => absurd k (by decide)⟩⟩
  · have c8 : x8 = 18 := e8
    subst c8
    have c9 : x9 = 18000000 := e9
    subst c9
    have c2 : y2 = (0, { x.1 with m1 := 18 }) := by rw [e2]; kernel_rfl
    have c11 : x11 = 2 := by rw [e11]; decide +kernel
    subst c11
    exact ⟨fun k => absurd k (by decide), fun _ => ⟨fun _ => leafS (s := x.1) (want := { x.1 with m1 := 18 }) c1 c2 hq, fun k => absurd k (by decide)⟩⟩
  · have c8 : x8 = 19 := e8
    subst c8
    have c9 : x9 = 19000000 := e9
    subst c9
    have c2 : y2 = (0, { x.1 with m1 := 19 }) := by rw [e2]; kernel_rfl
    have c11 : x11 = 2 := by rw [e11]; decide +kernel
    subst c11
    exact ⟨fun k => absurd k (by decide), fun _ => ⟨fun _ => leafS (s := x.1) (want := { x.1 with m1 := 19 }) c1 c2 hq, fun k => absurd k (by decide)⟩⟩
  · have c8 : x8 = 20 := e8
    subst c8
    have c9 : x9 = 20000000 := e9
    subst c9
    have c2 : y2 = (0, { x.1 with m3 := 20 }) := by rw [e2]; kernel_rfl
    have c11 : x11 = 4 := by rw [e11]; decide +kernel
    subst c11
    exact ⟨fun k => absurd k (by decide), fun _ => ⟨fun k => absurd k (by decide), fun _ => ⟨fun k => absurd k (by decide), fun _ => ⟨fun _ => leafS (s := x.1) (want := { x.1 with m3 := 20 }) c1 c2 hq, fun k => absurd k (by decide)⟩⟩⟩⟩
  · have c8 : x8 = 21 := e8
    subst c8
    have c9 : x9 = 21000000 := e9
    subst c9
    have c2 : y2 = (0, { x.1 with m3 := 21 }) := by rw [e2]; kernel_rfl
    have c11 : x11 = 4 := by rw [e11]; decide +kernel
    subst c11
    exact ⟨fun k => absurd k (by decide), fun _ => ⟨fun k => absurd k (by decide), fun _ => ⟨fun k => absurd k (by decide), fun _ => ⟨fun _ => leafS (s := x.1) (want := { x.1 with m3 := 21 }) c1 c2 hq, fun k => absurd k (by decide)⟩⟩⟩⟩
  · have c8 : x8 = 54 := e8
    subst c8
    have c9 : x9 = 54000000 := e9
    subst c9
    have c2 : y2 = (0, { x.1 with m8 := 54 }) := by rw [e2]; kernel_rfl
    have c11 : x11 = 9 := by rw [e11]; decide +kernel
    subst c11
    exact ⟨fun k => absurd k (by decide), fun _ => ⟨fun k => absurd k (by decide), fun _ => ⟨fun k => absurd k (by decide), fun _ => ⟨fun k => absurd k (by decide), fun _ => ⟨fun k => absurd k (by decide), fun _ => ⟨fun k => absurd k (by decide), fun _ => ⟨fun k => absurd k (by decide), fun _ => ⟨fun k => absurd k (by decide), fun _ => ⟨fun _ => leafS (s := x.1) (want := { x.1 with m8 := 54 }) c1 c2 hq, fun k => absurd k (by decide)⟩⟩⟩⟩⟩⟩⟩⟩⟩
  · have c8 : x8 = 55 := e8
    subst c8
    have c9 : x9 = 55000000 := e9
    subst c9
    have c2 : y2 = (0, { x.1 with m8 := 55 }) := by rw [e2]; kernel_rfl
    have c11 : x11 = 9 := by rw [e11]; decide +kernel
    subst c11
    exact ⟨fun k => absurd k (by decide), fun _ => ⟨fun k => absurd k (by decide), fun _ => ⟨fun k => absurd k (by decide), fun _ => ⟨fun k => absurd k (by decide), fun _ => ⟨fun k => absurd k (by decide), fun _ => ⟨fun k => absurd k (by decide), fun _ => ⟨fun k => absurd k (by decide), fun _ => ⟨fun k => absurd k (by decide), fun _ => ⟨fun _ => leafS (s := x.1) (want := { x.1 with m8 := 55 }) c1 c2 hq, fun k => absurd k (by decide)⟩⟩⟩⟩⟩⟩⟩⟩⟩
  · have c8 : x8 = 59 := e8
    subst c8
    have c9 : x9 = 59000000 := e9
    subst c9
    have c2 : y2 = (0, { x.1 with m8 := 59 }) := by rw [e2]; kernel_rfl
    have c11 : x11 = 9 := by rw [e11]; decide +kernel
    subst c11
    exact ⟨fun k => absurd k (by decide), fun _ => ⟨fun k => absurd k (by decide), fun _ => ⟨fun k => absurd k (by decide), fun _ => ⟨fun k => absurd k (by decide), fun _ => ⟨fun k => absurd k (by decide), fun _ => ⟨fun k => absurd k (by decide), fun _ => ⟨fun k => absurd k (by decide), fun _ => ⟨fun k => absurd k (by decide), fun _ => ⟨fun _ => leafS (s := x.1) (want := { x.1 with m8 := 59 }) c1 c2 hq, fun k => absurd k (by decide)⟩⟩⟩⟩⟩⟩⟩⟩⟩
  · have c8 : x8 = 68 := e8
    subst c8
    have c9 : x9 = 68000000 := e9
    subst c9
    have c2 : y2 = (0, { x.1 with m11 := 68 }) := by rw [e2]; kernel_rfl
    have c11 : x11 = 12 := by rw [e11]; decide +kernel
    subst c11
    exact ⟨fun k => absurd k (by decide), fun _ => ⟨fun k => absurd k (by decide), fun _ => ⟨fun k => absurd k (by decide), fun _ => ⟨fun k => absurd k (by decide), fun _ => ⟨fun k => absurd k (by decide), fun _ => ⟨fun k => absurd k (by decide), fun _ => ⟨fun k => absurd k (by decide), fun _ => ⟨fun k => absurd k (by decide), fun _ => ⟨fun k => absurd k (by decide), fun _ => ⟨fun k => absurd k (by decide), fun _ => ⟨fun _ => leafS (s := x.1) (want := { x.1 with m11 := 68 }) c1 c2 hq, fun k => absurd k (by decide)⟩⟩⟩⟩⟩⟩⟩⟩⟩⟩⟩
  · have c8 : x8 = 69 := e8
    subst c8
    have c9 : x9 = 69000000 := e9
    subst c9
    have c2 : y2 = (0, { x.1 with m11 := 69 }) := by rw [e2]; kernel_rfl
    have c11 : x11 = 12 := by rw [e11]; decide +kernel
    subst c11
    exact ⟨fun k => absurd k (by decide), fun _ => ⟨fun k => absurd k (by decide), fun _ => ⟨fun k => absurd k (by decide), fun _ => ⟨fun k => absurd k (by decide), fun _ => ⟨fun k => absurd k (by decide), fun _ => ⟨fun k => absurd k (by decide), fun _ => ⟨fun k => absurd k (by decide), fun _ => ⟨fun k => absurd k (by decide), fun _ => ⟨fun k => absurd k (by decide), fun _ => ⟨fun k => absurd k (by decide), fun _ => ⟨fun _ => leafS (s := x.1) (want := { x.1 with m11 := 69 }) c1 c2 hq, fun k => absurd k (by decide)⟩⟩⟩⟩⟩⟩⟩⟩⟩⟩⟩
  · have c8 : x8 = 73 := e8
    subst c8
    have c9 : x9 = 73000000 := e9
    subst c9
    have c2 : y2 = (0, { x.1 with m0 := 73 }) := by rw [e2]; kernel_rfl
    have c11 : x11 = 1 := by rw [e11]; decide +kernel
    subst c11
    exact ⟨fun _ => leafS (s := x.1) (want := { x.1 with m0 := 73 }) c1 c2 hq, fun k => absurd k (by decide)⟩
  · have c8 : x8 = 80 := e8
    subst c8
    have c9 : x9 = 80000000 := e9
    subst c9
    have c2 : y2 = (0, { x.1 with m0 := 80 }) := by rw [e2]; kernel_rfl
    have c11 : x11 = 1 := by rw [e11]; decide +kernel
    subst c11
    exact ⟨fun _ => leafS (s := x.1) (want := { x.1 with m0 := 80 }) c1 c2 hq, fun k => absurd k (by decide)⟩
  · have c8 : x8 = 90 := e8
    subst c8
    have c9 : x9 = 90000000 := e9
    subst c9
    have c2 : y2 = (0, { x.1 with m2 := 90 }) := by rw [e2]; kernel_rfl
    have c11 : x11 = 3 := by rw [e11]; decide +kernel
    subst c11
    exact ⟨fun k => absurd k (by decide), fun _ => ⟨fun k => absurd k (by decide), fun _ => ⟨fun _ => leafS (s := x.1) (want := { x.1 with m2 := 90 }) c1 c2 hq, fun k => absurd k (by decide)⟩⟩⟩
  · have c8 : x8 = 91 := e8
    subst c8
    have c9 : x9 = 91000000 := e9
    subst c9
    have c2 : y2 = (0, { x.1 with m2 := 91 }) := by rw [e2]; kernel_rfl
    have c11 : x11 = 3 := by rw [e11]; decide +kernel
    subst c11
    exact ⟨fun k => absurd k (by decide), fun _ => ⟨fun k => absurd k (by decide), fun _ => ⟨fun _ => leafS (s := x.1) (want := { x.1 with m2 := 91 }) c1 c2 hq, fun k => absurd k (by decide)⟩⟩⟩
  · have c8 : x8 = 94 := e8
    subst c8
    have c9 : x9 = 94000000 := e9
    subst c9
    have c2 : y2 = (0, { x.1 with m4 := 94 }) := by rw [e2]; kernel_rfl
    have c11 : x11 = 5 := by rw [e11]; decide +kernel
    subst c11
    exact ⟨fun k => absurd k (by decide), fun _ => ⟨fun k => absurd k (by decide), fun _ => ⟨fun k => absurd k (by decide), fun _ => ⟨fun k => absurd k (by decide), fun _ => ⟨fun _ => leafS (s := x.1) (want := { x.1 with m4 := 94 }) c1 c2 hq, fun k => absurd k (by decide)⟩⟩⟩⟩⟩
  · have c8 : x8 = 95 := e8
    subst c8
    have c9 : x9 = 95000000 := e9
    subst c9
    have c2 : y2 = (0, { x.1 with m4 := 95 }) := by rw [e2]; kernel_rfl
    have c11 : x11 = 5 := by rw [e11]; decide +kernel
    subst c11
    exact ⟨fun k => absurd k (by decide), fun _ => ⟨fun k => absurd k (by decide), fun _ => ⟨fun k => absurd k (by decide), fun _ => ⟨fun k => absurd k (by decide), fun _ => ⟨fun _ => leafS (s := x.1) (want := { x.1 with m4 := 95 }) c1 c2 hq, fun k => absurd k (by decide)⟩⟩⟩⟩⟩
  · have c8 : x8 = 98 := e8
    subst c8
    have c9 : x9 = 98000000 := e9
    subst c9
    have c2 : y2 = (0, { x.1 with m7 := 98 }) := by rw [e2]; kernel_rfl
    have c11 : x11 = 8 := by rw [e11]; decide +kernel
    subst c11
    exact ⟨fun k => absurd k (by decide), fun _ => ⟨fun k => absurd k (by decide), fun _ => ⟨fun k => absurd k (by decide), fun _ => ⟨fun k => absurd k (by decide), fun _ => ⟨fun k => absurd k (by decide), fun _ => ⟨fun k => absurd k (by decide), fun _ => ⟨fun k => absurd k (by decide), fun _ => ⟨fun _ => leafS (s := x.1) (want := { x.1 with m7 := 98 }) c1 c2 hq, fun k => absurd k (by decide)⟩⟩⟩⟩⟩⟩⟩⟩
  · have c8 : x8 = 99 := e8
    subst c8
    have c9 : x9 = 99000000 := e9
    subst c9
    have c2 : y2 = (0, { x.1 with m7 := 99 }) := by rw [e2]; kernel_rfl
    have c11 : x11 = 8 := by rw [e11]; decide +kernel
    subst c11
    exact ⟨fun k => absurd k (by decide), fun _ => ⟨fun k => absurd k (by decide), fun _ => ⟨fun k => absurd k (by decide), fun _ => ⟨fun k => absurd k (by decide), fun _ => ⟨fun k => absurd k (by decide), fun _ => ⟨fun k => absurd k (by decide), fun _ => ⟨fun k => absurd k (by decide), fun _ => ⟨fun _ => leafS (s := x.1) (want := { x.1 with m7 := 99 }) c1 c2 hq, fun k => absurd k (by decide)⟩⟩⟩⟩⟩⟩⟩⟩
  · have c8 : x8 = 15 := e8
    subst c8
    have c9 : x9 = 15000000 := e9
    subst c9
    have c2 : y2 = (0, { x.1 with m10 := 15 }) := by rw [e2]; kernel_rfl
    have c11 : x11 = 11 := by rw [e11]; decide +kernel
    subst c11
    exact ⟨fun k => absurd k (by decide), fun _ => ⟨fun k => absurd k (by decide), fun _ => ⟨fun k => absurd k (by decide), fun _ => ⟨fun k => absurd k (by decide), fun _ => ⟨fun k => absurd k (by decide), fun _ => ⟨fun k => absurd k (by decide), fun _ => ⟨fun k => absurd k (by decide), fun _ => ⟨fun k => absurd k (by decide), fun _ => ⟨fun k => absurd k (by decide), fun _ => ⟨fun _ => leafS (s := x.1) (want := { x.1 with m10 := 15 }) c1 c2 hq, fun k => absurd k (by decide)⟩⟩⟩⟩⟩⟩⟩⟩⟩⟩
  · have c8 : x8 = 16 := e8
    subst c8
    have c9 : x9 = 16000000 := e9
    subst c9
    have c2 : y2 = (0, { x.1 with m10 := 16 }) := by rw [e2]; kernel_rfl
    have c11 : x11 = 11 := by rw [e11]; decide +kernel
    subst c11
    exact ⟨fun k => absurd k (by decide), fun _ => ⟨fun k => absurd k (by decide), fun _ => ⟨fun k => absurd k (by decide), fun _ => ⟨fun k => absurd k (by decide), fun _ => ⟨fun k => absurd k (by decide), fun _ => ⟨fun k => absurd k (by decide), fun _ => ⟨fun k => absurd k (by decide), fun _ => ⟨fun k => absurd k (by decide), fun _ => ⟨fun k => absurd k (by decide), fun _ => ⟨fun _ => leafS (s := x.1) (want := { x.1 with m10 := 16 }) c1 c2 hq, fun k => absurd k (by decide)⟩⟩⟩⟩⟩⟩⟩⟩⟩⟩
  · have c8 : x8 = 41 := e8
    subst c8
    have c9 : x9 = 41000000 := e9
    subst c9
    have c2 : y2 = (0, { x.1 with m5 := 41 }) := by rw [e2]; kernel_rfl
    have c11 : x11 = 6 := by rw [e11]; decide +kernel
    subst c11
    exact ⟨fun k => absurd k (by decide), fun _ => ⟨fun k => absurd k (by decide), fun _ => ⟨fun k => absurd k (by decide), fun _ => ⟨fun k => absurd k (by decide), fun _ => ⟨fun k => absurd k (by decide), fun _ => ⟨fun _ => leafS (s := x.1) (want := { x.1 with m5 := 41 }) c1 c2 hq, fun k => absurd k (by decide)⟩⟩⟩⟩⟩⟩
  · have c8 : x8 = 42 := e8
    subst c8
    have c9 : x9 = 42000000 := e9
    subst c9
    have c2 : y2 = (0, { x.1 with m5 := 42 }) := by rw [e2]; kernel_rfl
    have c11 : x11 = 6 := by rw [e11]; decide +kernel
    subst c11
    exact ⟨fun k => absurd k (by decide), fun _ => ⟨fun k => absurd k (by decide), fun _ => ⟨fun k => absurd k (by decide), fun _ => ⟨fun k => absurd k (by decide), fun _ => ⟨fun k => absurd k (by decide), fun _ => ⟨fun _ => leafS (s := x.1) (want := { x.1 with m5 := 42 }) c1 c2 hq, fun k => absurd k (by decide)⟩⟩⟩⟩⟩⟩
  · have c8 : x8 = 43 := e8
    subst c8
    have c9 : x9 = 43000000 := e9
    subst c9
    have c2 : y2 = (0, { x.1 with m6 := 43 }) := by rw [e2]; kernel_rfl
    have c11 : x11 = 7 := by rw [e11]; decide +kernel
    subst c11
    exact ⟨fun k => absurd k (by decide), fun _ => ⟨fun k => absurd k (by decide), fun _ => ⟨fun k => absurd k (by decide), fun _ => ⟨fun k => absurd k (by decide), fun _ => ⟨fun k => absurd k (by decide), fun _ => ⟨fun k => absurd k (by decide), fun _ => ⟨fun _ => leafS (s := x.1) (want := { x.1 with m6 := 43 }) c1 c2 hq, fun k => absurd k (by decide)⟩⟩⟩⟩⟩⟩⟩
  · have c8 : x8 = 44 := e8
    subst c8
    have c9 : x9 = 44000000 := e9
    subst c9
    have c2 : y2 = (0, { x.1 with m6 := 44 }) := by rw [e2]; kernel_rfl
    have c11 : x11 = 7 := by rw [e11]; decide +kernel
    subst c11
    exact ⟨fun k => absurd k (by decide), fun _ => ⟨fun k => absurd k (by decide), fun _ => ⟨fun k => absurd k (by decide), fun _ => ⟨fun k => absurd k (by decide), fun _ => ⟨fun k => absurd k (by decide), fun _ => ⟨fun k => absurd k (by decide), fun _ => ⟨fun _ => leafS (s := x.1) (want := { x.1 with m6 := 44 }) c1 c2 hq, fun k => absurd k (by decide)⟩⟩⟩⟩⟩⟩⟩
set_option maxRecDepth 100000 in
theorem loopG : ∀ v Q, (LG v).wp Q → hloop CLGroups anG (nthLoop Try.f12 0) v Q := by
  intro v Q h
  unfold LG at h
  split at h
  case h_2 => exact h.elim
  rename_i t c r v c2 d len k0
  obtain ⟨⟨h1, h2, h3, h4, h5⟩, hq⟩ := h
  subst h1 h2
  refine hloop_rec (σ := Nat) (fun j => ([.ce (.int .i64 t), .ce (.int .i64 c), .ce (.sl false [4, 4] r), .ce (.sl false [4, 4] v), .ce (.int .i64 c2), .ce (.sl false [4] d), .ce (.int .i64 (d.length : Int)), .ce (.int .i64 (j : Int))], [])) (fun j => d.length - j) (fun j => j ≤ d.length) ?_ 0 (Nat.zero_le _)
  rintro j hj K hn he _
  refine byVB (vbG t c r v c2 d _ j K) ⟨fun hlt => ⟨by have := of_decide_eq_true hlt; omega, fun x1 e1 => ⟨trivial, fun x2 e2 => ⟨trivial, fun x3 e3 => ⟨fun k => ?_, fun _ => ⟨trivial, fun x4 e4 => ⟨trivial, fun x5 e5 => ⟨fun k => ?_, fun _ => ⟨h5, fun x6 e6 => ⟨h5, fun x7 e7 => ⟨fun k => ?_, fun _ => ⟨h4, fun x8 e8 => ⟨h4, fun x9 e9 => ⟨fun k => ?_, fun _ => ⟨?_, fun x10 e10 => ?_⟩⟩⟩⟩⟩⟩⟩⟩⟩⟩⟩⟩⟩⟩, fun hge => ?_⟩
  · rw [e2, e3] at k; simp at k
  · rw [e4, e5] at k; simp at k
  · rw [e6, e7] at k; simp at k
  · rw [e8, e9] at k; simp at k
  · have := of_decide_eq_true hlt; omega
  · have := of_decide_eq_true hlt
    rw [show x10 = ((j + 1 : Nat) : Int) by omega]
    exact hn (j + 1) (by omega) (by omega)
  · exact he _ _ hq
set_option maxHeartbeats 400000 in
set_option maxRecDepth 100000 in
theorem sLGroups : Sound Try.prog 12 SLGroups := by
  refine sound_of (C := CLGroups) tabLGroups Try.func12 (by kernel_rfl) (by decide +kernel) (by kernel_rfl) rfl ⟨sAwake, sFew, sLight, sNew, sValues, sGroup, sGroup2, sHas, sHas2, sFind, sFind2, sMod, trivial⟩ (loops1 (by kernel_rfl) (loopOK_of (an := anG) (S := LG) (by kernel_rfl) loopG)) ?_
  intro hargs pars R h
  unfold SLGroups at h
  split at h
  case h_2 => exfalso; exact h
  rename_i t c r l
  have hq : R okR := h.2
  clear h
  refine byVC (vcLGroups t c r l R) ⟨trivial, fun x1 e1 => ⟨fun _ => ⟨trivial, fun x2 e2 => by rw [e2]; exact hq⟩, fun k1 => ⟨trivial, fun x3 e3 => ⟨fun _ => ⟨trivial, fun x2 e2 => by rw [e2]; exact hq⟩, fun k3 => ⟨trivial, fun x5 e5 x6 e6 => ?_⟩⟩⟩⟩⟩
  have hr : (r.length : Int) ≤ 40 := by
    rw [e1] at k1
    have k1 : decide ((r.length : Int) ≤ 40) = true := by simpa using k1
    exact of_decide_eq_true k1
  have hl : (l.length : Int) ≤ 120 := by
    rw [e3] at k3
    have k3 : decide ((l.length : Int) ≤ 120) = true := by simpa using k3
    exact of_decide_eq_true k3
  subst e5 e6
  have hs : inSrc x5 0 := ⟨Int.le_refl _, by omega⟩
  have b1 := Int.emod_nonneg t (b := 26) (by decide)
  have b2 := Int.emod_lt_of_pos t (b := 26) (by decide)
  refine ⟨hs, ⟨([], 0), hs, Nat.zero_le _⟩, fun x hx => ?_⟩
  have hv : x.1.length ≤ 1000 := Nat.le_trans hx.2 (by decide)
  refine ⟨by decide, fun x8 e8 => ⟨⟨rfl, rfl, by decide, by omega, hv⟩, hv, fun x9 e9 x10 e10 => ⟨hv, fun x11 e11 x12 e12 => ⟨by decide, fun x13 e13 => ⟨by omega, fun x14 e14 => ⟨hv, fun x15 e15 x16 e16 => ⟨by decide, fun x17 e17 => ⟨by omega, fun x18 e18 => ⟨hv, fun x19 e19 x20 e20 => ⟨trivial, fun x21 e21 => ?_⟩⟩⟩⟩⟩⟩⟩⟩⟩⟩
  obtain rfl : x17 = x13 := by rw [e17, e13]
  obtain rfl : x18 = x14 := by rw [e18, e14]
  subst e9 e10 e11 e12 e15 e16 e19 e20 e21
  refine ⟨fun _ => ⟨fun _ => ⟨fun _ => ⟨fun _ => ?_, fun k => ?_⟩, fun k => ?_⟩, fun k => ?_⟩, fun k => by cases k⟩
  · rw [beq_self_eq_true]; exact hq
  all_goals rw [beq_self_eq_true] at k; cases k
end Go.Proofs.Ytcfgklmpfkmdkaa
