/-
  Package modal: ModalApply.
  Conditions: none.
-/
import Derived.Test.YtcfgklmpfkmdkaaM8
import Derived.Test.YtcfgklmpfkmdkaaM11
namespace Go.Proofs.Ytcfgklmpfkmdkaa
open Go Go.HL U
def tabLApply : List (FuncId × HL.Spec) := [(13, STrue0), (16, SFew), (17, SLight), (19, SNew), (26, SMakeM), (18, SValues), (27, SApply), (28, SApply)]
def SLApply (hargs : List HV) (pars : List (List HC)) : SR :=
  match hargs, pars with
  | [.agg b, .ce (.sl false [4, 4] o), .ce (.sl false [4] l), .ce (.sl false [4] k)], [] => (match b with
    | [.int .i64 m0, .int .i64 m1, .int .i64 m2, .int .i64 m3, .int .i64 m4, .int .i64 m5, .int .i64 m6, .int .i64 m7, .int .i64 m8, .int .i64 m9, .int .i64 m10, .int .i64 m11, .int .i64 m12, .bool m13, .bool m14, .int .i64 m15, .int .i64 m16, .int .i64 m17, .int .i64 m18, .int .i64 m19, .int .i64 m20, .int .i64 m21] => .det True ⟨.ce (.bool true), false, [], []⟩
    | _ => .fail)
  | _, _ => .fail
noncomputable def CLApply : Ctx := ⟨Try.prog, gam tabLApply, Try.f6.ntmps, [], []⟩
theorem vcLApply (m0 m1 m2 m3 m4 m5 m6 m7 m8 m9 m10 m11 m12 m15 m16 m17 m18 m19 m20 m21 : Int) (m13 m14 : Bool) (o l k : List (List Int)) (Q : Res → Prop) : (nfun true CLApply Try.f6 (bodyOf Try.f6) [.agg [.int .i64 m0, .int .i64 m1, .int .i64 m2, .int .i64 m3, .int .i64 m4, .int .i64 m5, .int .i64 m6, .int .i64 m7, .int .i64 m8, .int .i64 m9, .int .i64 m10, .int .i64 m11, .int .i64 m12, .bool m13, .bool m14, .int .i64 m15, .int .i64 m16, .int .i64 m17, .int .i64 m18, .int .i64 m19, .int .i64 m20, .int .i64 m21], .ce (.sl false [4, 4] o), .ce (.sl false [4] l), .ce (.sl false [4] k)] [] Q) =
    (True ∧ ∀ (x1 : Bool), x1 = decide ((((List.length o) : Nat) : Int) ≤ (40 : Int)) → ((!x1) = true → True ∧ ∀ (x2 : Bool), x2 = true → Q { val := HV.ce (HC.bool x2), own := false, pars := [], news := [] }) ∧ ((!x1) = false → True ∧ ∀ (x3 : Bool), x3 = decide ((((List.length l) : Nat) : Int) ≤ (120 : Int)) → ((!x3) = true → True ∧ ∀ (x4 : Bool), x4 = true → Q { val := HV.ce (HC.bool x4), own := false, pars := [], news := [] }) ∧ ((!x3) = false → True ∧ ∀ (x5 : Bool), x5 = decide ((((List.length k) : Nat) : Int) ≤ (120 : Int)) → ((!x5) = true → True ∧ ∀ (x6 : Bool), x6 = true → Q { val := HV.ce (HC.bool x6), own := false, pars := [], news := [] }) ∧ ((!x5) = false → True ∧ ∀ (x7 : List (List Int)), x7 = l → ∀ (x8 : Int), x8 = (0 : Int) → inSrc x7 x8 ∧ (∃ (x : M × Int), inSrc x7 x.2) ∧ ∀ (x : M × Int), inSrc x7 x.2 → True ∧ ∀ (x10 : List (List Int)), x10 = k → ∀ (x11 : Int), x11 = (0 : Int) → inSrc x10 x11 ∧
    (∃ (x : List (List Int) × Int), inSrc x10 x.2 ∧ List.length x.1 ≤ (40 : Nat)) ∧ ∀ (x_1 : List (List Int) × Int), inSrc x10 x_1.2 ∧ List.length x_1.1 ≤ (40 : Nat) → List.length x_1.1 ≤ (1000 : Nat) ∧ (∃ (x_2 : Int × M), x_2 = appM x_1.1 { m0 := x.1.m0, m1 := x.1.m1, m2 := x.1.m2, m3 := x.1.m3, m4 := x.1.m4, m5 := x.1.m5, m6 := x.1.m6, m7 := x.1.m7, m8 := x.1.m8, m9 := x.1.m9, m10 := x.1.m10, m11 := x.1.m11, m12 := x.1.m12, m13 := x.1.m13, m14 := x.1.m14, m15 := x.1.m15, m16 := x.1.m16, m17 := x.1.m17, m18 := x.1.m18, m19 := x.1.m19, m20 := x.1.m20, m21 := x.1.m21 }) ∧ ∀ (x_2 : Int × M), x_2 = appM x_1.1 { m0 := x.1.m0, m1 := x.1.m1, m2 := x.1.m2, m3 := x.1.m3, m4 := x.1.m4, m5 := x.1.m5, m6 := x.1.m6, m7 := x.1.m7, m8 := x.1.m8, m9 := x.1.m9, m10 := x.1.m10, m11 := x.1.m11, m12 := x.1.m12, m13 := x.1.m13, m14 := x.1.m14, m15 := x.1.m15, m16 := x.1.m16, m17 := x.1.m17, m18 := x.1.m18, m19 := x.1.m19, m20 := x.1.m20, m21 := x.1.m21 } →
    List.length x_1.1 ≤ (1000 : Nat) ∧ (∃ (x_3 : Int × M), x_3 = appM x_1.1 { m0 := x.1.m0, m1 := x.1.m1, m2 := x.1.m2, m3 := x.1.m3, m4 := x.1.m4, m5 := x.1.m5, m6 := x.1.m6, m7 := x.1.m7, m8 := x.1.m8, m9 := x.1.m9, m10 := x.1.m10, m11 := x.1.m11, m12 := x.1.m12, m13 := x.1.m13, m14 := x.1.m14, m15 := x.1.m15, m16 := x.1.m16, m17 := x.1.m17, m18 := x.1.m18, m19 := x.1.m19, m20 := x.1.m20, m21 := x.1.m21 }) ∧ ∀ (x_3 : Int × M), x_3 = appM x_1.1 { m0 := x.1.m0, m1 := x.1.m1, m2 := x.1.m2, m3 := x.1.m3, m4 := x.1.m4, m5 := x.1.m5, m6 := x.1.m6, m7 := x.1.m7, m8 := x.1.m8, m9 := x.1.m9, m10 := x.1.m10, m11 := x.1.m11, m12 := x.1.m12, m13 := x.1.m13, m14 := x.1.m14, m15 := x.1.m15, m16 := x.1.m16, m17 := x.1.m17, m18 := x.1.m18, m19 := x.1.m19, m20 := x.1.m20, m21 := x.1.m21 } → List.length x_1.1 ≤ (1000 : Nat) ∧ (∃ (x : Int × M), x = appM x_1.1 { m0 := m0, m1 := m1, m2 := m2, m3 := m3, m4 := m4, m5 := m5, m6 := m6, m7 := m7, m8 := m8, m9 := m9, m10 := m10, m11 := m11, m12 := m12, m13 := m13, m14 := m14, m15 := m15, m16 := m16, m17 := m17, m18 := m18, m19 := m19, m20 := m20, m21 := m21 }) ∧
    ∀ (x_4 : Int × M), x_4 = appM x_1.1 { m0 := m0, m1 := m1, m2 := m2, m3 := m3, m4 := m4, m5 := m5, m6 := m6, m7 := m7, m8 := m8, m9 := m9, m10 := m10, m11 := m11, m12 := m12, m13 := m13, m14 := m14, m15 := m15, m16 := m16, m17 := m17, m18 := m18, m19 := m19, m20 := m20, m21 := m21 } → List.length x_1.1 ≤ (1000 : Nat) ∧ (∃ (x : Int × M), x = appM x_1.1 { m0 := m0, m1 := m1, m2 := m2, m3 := m3, m4 := m4, m5 := m5, m6 := m6, m7 := m7, m8 := m8, m9 := m9, m10 := m10, m11 := m11, m12 := m12, m13 := m13, m14 := m14, m15 := m15, m16 := m16, m17 := m17, m18 := m18, m19 := m19, m20 := m20, m21 := m21 }) ∧ ∀ (x_5 : Int × M), x_5 = appM x_1.1 { m0 := m0, m1 := m1, m2 := m2, m3 := m3, m4 := m4, m5 := m5, m6 := m6, m7 := m7, m8 := m8, m9 := m9, m10 := m10, m11 := m11, m12 := m12, m13 := m13, m14 := m14, m15 := m15, m16 := m16, m17 := m17, m18 := m18, m19 := m19, m20 := m20, m21 := m21 } → List.length o ≤ (1000 : Nat) ∧
    (∃ (x_6 : Int × M), x_6 = appM o { m0 := x.1.m0, m1 := x.1.m1, m2 := x.1.m2, m3 := x.1.m3, m4 := x.1.m4, m5 := x.1.m5, m6 := x.1.m6, m7 := x.1.m7, m8 := x.1.m8, m9 := x.1.m9, m10 := x.1.m10, m11 := x.1.m11, m12 := x.1.m12, m13 := x.1.m13, m14 := x.1.m14, m15 := x.1.m15, m16 := x.1.m16, m17 := x.1.m17, m18 := x.1.m18, m19 := x.1.m19, m20 := x.1.m20, m21 := x.1.m21 }) ∧ ∀ (x_6 : Int × M), x_6 = appM o { m0 := x.1.m0, m1 := x.1.m1, m2 := x.1.m2, m3 := x.1.m3, m4 := x.1.m4, m5 := x.1.m5, m6 := x.1.m6, m7 := x.1.m7, m8 := x.1.m8, m9 := x.1.m9, m10 := x.1.m10, m11 := x.1.m11, m12 := x.1.m12, m13 := x.1.m13, m14 := x.1.m14, m15 := x.1.m15, m16 := x.1.m16, m17 := x.1.m17, m18 := x.1.m18, m19 := x.1.m19, m20 := x.1.m20, m21 := x.1.m21 } → List.length o ≤ (1000 : Nat) ∧ (∃ (x_7 : Int × M), x_7 = appM o { m0 := x.1.m0, m1 := x.1.m1, m2 := x.1.m2, m3 := x.1.m3, m4 := x.1.m4, m5 := x.1.m5, m6 := x.1.m6, m7 := x.1.m7, m8 := x.1.m8, m9 := x.1.m9, m10 := x.1.m10, m11 := x.1.m11, m12 := x.1.m12, m13 := x.1.m13, m14 := x.1.m14, m15 := x.1.m15, m16 := x.1.m16, m17 := x.1.m17, m18 := x.1.m18, m19 := x.1.m19, m20 := x.1.m20, m21 := x.1.m21 }) ∧
    ∀ (x_7 : Int × M), x_7 = appM o { m0 := x.1.m0, m1 := x.1.m1, m2 := x.1.m2, m3 := x.1.m3, m4 := x.1.m4, m5 := x.1.m5, m6 := x.1.m6, m7 := x.1.m7, m8 := x.1.m8, m9 := x.1.m9, m10 := x.1.m10, m11 := x.1.m11, m12 := x.1.m12, m13 := x.1.m13, m14 := x.1.m14, m15 := x.1.m15, m16 := x.1.m16, m17 := x.1.m17, m18 := x.1.m18, m19 := x.1.m19, m20 := x.1.m20, m21 := x.1.m21 } → True ∧ ∀ (x19 : Bool), x19 = true → (x19 = true → ((x_2.2.m0 == x_3.2.m0 && (x_2.2.m1 == x_3.2.m1 && (x_2.2.m2 == x_3.2.m2 && (x_2.2.m3 == x_3.2.m3 && (x_2.2.m4 == x_3.2.m4 && (x_2.2.m5 == x_3.2.m5 && (x_2.2.m6 == x_3.2.m6 && (x_2.2.m7 == x_3.2.m7 && (x_2.2.m8 == x_3.2.m8 && (x_2.2.m9 == x_3.2.m9 && (x_2.2.m10 == x_3.2.m10 && (x_2.2.m11 == x_3.2.m11 && (x_2.2.m12 == x_3.2.m12 && (x_2.2.m13 == x_3.2.m13 && (x_2.2.m14 == x_3.2.m14 && (x_2.2.m15 == x_3.2.m15 && (x_2.2.m16 == x_3.2.m16 && (x_2.2.m17 == x_3.2.m17 && (x_2.2.m18 == x_3.2.m18 && (x_2.2.m19 == x_3.2.m19 && (x_2.2.m20 == x_3.2.m20 && (x_2.2.m21 == x_3.2.m21 && true)))))))))))))))))))))) = true →
    ((x_2.1 == x_3.1) = true → ((x_4.2.m0 == x_5.2.m0 && (x_4.2.m1 == x_5.2.m1 && (x_4.2.m2 == x_5.2.m2 && (x_4.2.m3 == x_5.2.m3 && (x_4.2.m4 == x_5.2.m4 && (x_4.2.m5 == x_5.2.m5 && (x_4.2.m6 == x_5.2.m6 && (x_4.2.m7 == x_5.2.m7 && (x_4.2.m8 == x_5.2.m8 && (x_4.2.m9 == x_5.2.m9 && (x_4.2.m10 == x_5.2.m10 && (x_4.2.m11 == x_5.2.m11 && (x_4.2.m12 == x_5.2.m12 && (x_4.2.m13 == x_5.2.m13 && (x_4.2.m14 == x_5.2.m14 && (x_4.2.m15 == x_5.2.m15 && (x_4.2.m16 == x_5.2.m16 && (x_4.2.m17 == x_5.2.m17 && (x_4.2.m18 == x_5.2.m18 && (x_4.2.m19 == x_5.2.m19 && (x_4.2.m20 == x_5.2.m20 && (x_4.2.m21 == x_5.2.m21 && true)))))))))))))))))))))) = true → ((x_4.1 == x_5.1) = true → ((x_6.2.m0 == x_7.2.m0 && (x_6.2.m1 == x_7.2.m1 && (x_6.2.m2 == x_7.2.m2 && (x_6.2.m3 == x_7.2.m3 && (x_6.2.m4 == x_7.2.m4 && (x_6.2.m5 == x_7.2.m5 && (x_6.2.m6 == x_7.2.m6 && (x_6.2.m7 == x_7.2.m7 && (x_6.2.m8 == x_7.2.m8 && (x_6.2.m9 == x_7.2.m9 && (x_6.2.m10 == x_7.2.m10 && (x_6.2.m11 == x_7.2.m11 && (x_6.2.m12 == x_7.2.m12 && (x_6.2.m13 == x_7.2.m13 && (x_6.2.m14 == x_7.2.m14 && (x_6.2.m15 == x_7.2.m15 && (x_6.2.m16 == x_7.2.m16 && (x_6.2.m17 == x_7.2.m17 && (x_6.2.m18 == x_7.2.m18 && (x_6.2.m19 == x_7.2.m19 && (x_6.2.m20 == x_7.2.m20 && (x_6.2.m21 == x_7.2.m21 && true)))))))))))))))))))))) = true →
    Q { val := HV.ce (HC.bool (x_6.1 == x_7.1)), own := false, pars := [], news := [] }) ∧ ((x_6.2.m0 == x_7.2.m0 && (x_6.2.m1 == x_7.2.m1 && (x_6.2.m2 == x_7.2.m2 && (x_6.2.m3 == x_7.2.m3 && (x_6.2.m4 == x_7.2.m4 && (x_6.2.m5 == x_7.2.m5 && (x_6.2.m6 == x_7.2.m6 && (x_6.2.m7 == x_7.2.m7 && (x_6.2.m8 == x_7.2.m8 && (x_6.2.m9 == x_7.2.m9 && (x_6.2.m10 == x_7.2.m10 && (x_6.2.m11 == x_7.2.m11 && (x_6.2.m12 == x_7.2.m12 && (x_6.2.m13 == x_7.2.m13 && (x_6.2.m14 == x_7.2.m14 && (x_6.2.m15 == x_7.2.m15 && (x_6.2.m16 == x_7.2.m16 && (x_6.2.m17 == x_7.2.m17 && (x_6.2.m18 == x_7.2.m18 && (x_6.2.m19 == x_7.2.m19 && (x_6.2.m20 == x_7.2.m20 && (x_6.2.m21 == x_7.2.m21 && true)))))))))))))))))))))) = false → Q { val := HV.ce (HC.bool false), own := false, pars := [], news := [] })) ∧ ((x_4.1 == x_5.1) = false → Q { val := HV.ce (HC.bool false), own := false, pars := [], news := [] })) ∧ ((x_4.2.m0 == x_5.2.m0 && (x_4.2.m1 == x_5.2.m1 && (x_4.2.m2 == x_5.2.m2 && (x_4.2.m3 == x_5.2.m3 && (x_4.2.m4 == x_5.2.m4 && (x_4.2.m5 == x_5.2.m5 && (x_4.2.m6 == x_5.2.m6 && (x_4.2.m7 == x_5.2.m7 && (x_4.2.m8 == x_5.2.m8 && (x_4.2.m9 == x_5.2.m9 && (x_4.2.m10 == x_5.2.m10 && (x_4.2.m11 == x_5.2.m11 && (x_4.2.m12 == x_5.2.m12 && (x_4.2.m13 == x_5.2.m13 && (x_4.2.m14 == x_5.2.m14 && (x_4.2.m15 == x_5.2.m15 && (x_4.2.m16 == x_5.2.m16 && (x_4.2.m17 == x_5.2.m17 && (x_4.2.m18 == x_5.2.m18 && (x_4.2.m19 == x_5.2.m19 && (x_4.2.m20 == x_5.2.m20 && (x_4.2.m21 == x_5.2.m21 && true)))))))))))))))))))))) = false →
    Q { val := HV.ce (HC.bool false), own := false, pars := [], news := [] })) ∧ ((x_2.1 == x_3.1) = false → Q { val := HV.ce (HC.bool false), own := false, pars := [], news := [] })) ∧ ((x_2.2.m0 == x_3.2.m0 && (x_2.2.m1 == x_3.2.m1 && (x_2.2.m2 == x_3.2.m2 && (x_2.2.m3 == x_3.2.m3 && (x_2.2.m4 == x_3.2.m4 && (x_2.2.m5 == x_3.2.m5 && (x_2.2.m6 == x_3.2.m6 && (x_2.2.m7 == x_3.2.m7 && (x_2.2.m8 == x_3.2.m8 && (x_2.2.m9 == x_3.2.m9 && (x_2.2.m10 == x_3.2.m10 && (x_2.2.m11 == x_3.2.m11 && (x_2.2.m12 == x_3.2.m12 && (x_2.2.m13 == x_3.2.m13 && (x_2.2.m14 == x_3.2.m14 && (x_2.2.m15 == x_3.2.m15 && (x_2.2.m16 == x_3.2.m16 && (x_2.2.m17 == x_3.2.m17 && (x_2.2.m18 == x_3.2.m18 && (x_2.2.m19 == x_3.2.m19 && (x_2.2.m20 == x_3.2.m20 && (x_2.2.m21 == x_3.2.m21 && true)))))))))))))))))))))) = false → Q { val := HV.ce (HC.bool false), own := false, pars := [], news := [] })) ∧ (x19 = false → Q { val := HV.ce (HC.bool false), own := false, pars := [], news := [] }))))) := by kernel_rfl
attribute [local irreducible] hfun bodyT fragT
theorem sRapplyM : Sound Try.prog 28 SApply := by
  refine sound_weaken sRapply ?_
  intro hargs pars R h
  unfold SApply at h
  split at h
  case h_2 => exact h.elim
  split at h
  case h_2 => exact h.elim
  exact ⟨h.1, ⟨_, rfl⟩, fun x hx => h.2.2 x (by rw [hx, app_eq])⟩
theorem leafA {a b c : Int × M} {R : Res → Prop} (hq : R okR) : ∀ z : Bool, z = true → (z = true → (eqM a.2 a.2 = true → ((a.1 == a.1) = true → (eqM b.2 b.2 = true → ((b.1 == b.1) = true → (eqM c.2 c.2 = true → R ⟨.ce (.bool (c.1 == c.1)), false, [], []⟩) ∧ (eqM c.2 c.2 = false → R ⟨.ce (.bool false), false, [], []⟩)) ∧ ((b.1 == b.1) = false → R ⟨.ce (.bool false), false, [], []⟩)) ∧ (eqM b.2 b.2 = false → R ⟨.ce (.bool false), false, [], []⟩)) ∧ ((a.1 == a.1) = false → R ⟨.ce (.bool false), false, [], []⟩)) ∧ (eqM a.2 a.2 = false → R ⟨.ce (.bool false), false, [], []⟩)) ∧ (z = false → R ⟨.ce (.bool false), false, [], []⟩) := by
  intro z ez
  have f : ∀ m : M, eqM m m = false → R ⟨.ce (.bool false), false, [], []⟩ := fun m k => by rw [eqM_refl] at k; cases k
  have g : ∀ i : Int, (i == i) = false → R ⟨.ce (.bool false), false, [], []⟩ := fun i k => by rw [beq_self_eq_true] at k; cases k
  refine ⟨fun _ => ⟨fun _ => ⟨fun _ => ⟨fun _ => ⟨fun _ => ⟨fun _ => ?_, f _⟩, g _⟩, f _⟩, g _⟩, f _⟩, fun k => by rw [ez] at k; cases k⟩
  rw [beq_self_eq_true]; exact hq
theorem len_of {l : List (List Int)} {x : Bool} {n : Int} (e : x = decide ((l.length : Int) ≤ n)) (k : (!x) = false) : (l.length : Int) ≤ n := by
  rw [e] at k
  have k : decide ((l.length : Int) ≤ n) = true := by simpa using k
  exact of_decide_eq_true k
set_option maxHeartbeats 400000 in
set_option maxRecDepth 100000 in
theorem sLApply : Sound Try.prog 6 SLApply := by
  refine sound_of (C := CLApply) tabLApply Try.func6 (by kernel_rfl) (by decide +kernel) (by kernel_rfl) rfl ⟨sAwake, sFew, sLight, sNew, sMakeM, sValues, sApply, sRapplyM, trivial⟩ (loops0 (by kernel_rfl)) ?_
  intro hargs pars R h
  unfold SLApply at h
  split at h
  case h_2 => exfalso; exact h
  rename_i b o l k
  split at h
  case h_2 => exact h.elim
  rename_i m0 m1 m2 m3 m4 m5 m6 m7 m8 m9 m10 m11 m12 m13 m14 m15 m16 m17 m18 m19 m20 m21
  have hq : R okR := h.2
  clear h
  refine byVC (vcLApply m0 m1 m2 m3 m4 m5 m6 m7 m8 m9 m10 m11 m12 m15 m16 m17 m18 m19 m20 m21 m13 m14 o l k R) ⟨trivial, fun x1 e1 => ⟨fun _ => ⟨trivial, fun x2 e2 => by rw [e2]; exact hq⟩, fun k1 => ⟨trivial, fun x3 e3 => ⟨fun _ => ⟨trivial, fun x2 e2 => by rw [e2]; exact hq⟩, fun k3 => ⟨trivial, fun x5 e5 => ⟨fun _ => ⟨trivial, fun x2 e2 => by rw [e2]; exact hq⟩, fun k5 => ⟨trivial, fun x7 e7 x8 e8 => ?_⟩⟩⟩⟩⟩⟩⟩
  have h1 := len_of e1 k1
  have h3 := len_of e3 k3
  have h5 := len_of e5 k5
  subst e7 e8
  have hs : inSrc x7 0 := ⟨Int.le_refl _, by omega⟩
  refine ⟨hs, ⟨(mst, 0), hs⟩, fun x hx => ⟨trivial, fun x10 e10 x11 e11 => ?_⟩⟩
  subst e10 e11
  have hs2 : inSrc x10 0 := ⟨Int.le_refl _, by omega⟩
  refine ⟨hs2, ⟨([], 0), hs2, Nat.zero_le _⟩, fun v hv => ?_⟩
  have hl : v.1.length ≤ 1000 := Nat.le_trans hv.2 (by decide)
  have ho : o.length ≤ 1000 := by omega
  refine ⟨hl, ⟨_, rfl⟩, fun a ea => ⟨hl, ⟨_, rfl⟩, fun a2 ea2 => ⟨hl, ⟨_, rfl⟩, fun c ec => ⟨hl, ⟨_, rfl⟩, fun c2 ec2 => ⟨ho, ⟨_, rfl⟩, fun d ed => ⟨ho, ⟨_, rfl⟩, fun d2 ed2 => ⟨trivial, ?_⟩⟩⟩⟩⟩⟩⟩
  obtain rfl : a2 = a := by rw [ea2, ea]
  obtain rfl : c2 = c := by rw [ec2, ec]
  obtain rfl : d2 = d := by rw [ed2, ed]
  exact leafA hq
end Go.Proofs.Ytcfgklmpfkmdkaa
