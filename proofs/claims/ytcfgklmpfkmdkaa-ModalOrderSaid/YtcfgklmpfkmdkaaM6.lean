/-
  Package modal: ModalStart, ModalRate, ModalRates, ModalConflicts.
  Conditions: none.
-/
import Derived.Test.YtcfgklmpfkmdkaaM5
namespace Go.Proofs.Ytcfgklmpfkmdkaa
open Go Go.HL U
def tabLStart : List (FuncId × HL.Spec) := [(13, STrue0), (14, SStart), (15, SStart)]
noncomputable def CLStart : Ctx := ⟨Try.prog, gam tabLStart, Try.f3.ntmps, [], []⟩
theorem vcLStart (Q : Res → Prop) : (nfun true CLStart Try.f3 (bodyOf Try.f3) [] [] Q) =
    (True ∧ ∀ (x1 : Bool), x1 = true → (x1 = true → True ∧ ∀ (x2 : Int), x2 = (80 : Int) → ∀ (x3 : Int), x3 = (17 : Int) → ∀ (x4 : Int), x4 = (90 : Int) → ∀ (x5 : Int), x5 = (21 : Int) → ∀ (x6 : Int), x6 = (94 : Int) → ∀ (x7 : Int), x7 = (40 : Int) → ∀ (x8 : Int), x8 = (49 : Int) → ∀ (x9 : Int), x9 = (98 : Int) → ∀ (x10 : Int), x10 = (54 : Int) → ∀ (x11 : Int), x11 = (61 : Int) → ∀ (x12 : Int), x12 = (15 : Int) → ∀ (x13 : Int), x13 = (69 : Int) → ∀ (x14 : Int), x14 = (5 : Int) → ∀ (x15 : Bool), x15 = mst.m13 → ∀ (x16 : Bool), x16 = mst.m14 → ∀ (x17 : Int), x17 = (0 : Int) → ∀ (x18 : Int), x18 = (0 : Int) → ∀ (x19 : Int), x19 = (0 : Int) → ∀ (x20 : Int), x20 = (0 : Int) → ∀ (x21 : Int), x21 = (0 : Int) → ∀ (x22 : Int), x22 = (0 : Int) → ∀ (x23 : Int), x23 = (0 : Int) → True ∧ ∀ (x24 : Int), x24 = (80 : Int) → ∀ (x25 : Int), x25 = (17 : Int) → ∀ (x26 : Int), x26 = (90 : Int) → ∀ (x27 : Int), x27 = (21 : Int) →
    ∀ (x28 : Int), x28 = (94 : Int) → ∀ (x29 : Int), x29 = (40 : Int) → ∀ (x30 : Int), x30 = (49 : Int) → ∀ (x31 : Int), x31 = (98 : Int) → ∀ (x32 : Int), x32 = (54 : Int) → ∀ (x33 : Int), x33 = (61 : Int) → ∀ (x34 : Int), x34 = (15 : Int) → ∀ (x35 : Int), x35 = (69 : Int) → ∀ (x36 : Int), x36 = (5 : Int) → ∀ (x37 : Bool), x37 = mst.m13 → ∀ (x38 : Bool), x38 = mst.m14 → ∀ (x39 : Int), x39 = (0 : Int) → ∀ (x40 : Int), x40 = (0 : Int) → ∀ (x41 : Int), x41 = (0 : Int) → ∀ (x42 : Int), x42 = (0 : Int) → ∀ (x43 : Int), x43 = (0 : Int) → ∀ (x44 : Int), x44 = (0 : Int) → ∀ (x45 : Int), x45 = (0 : Int) → Q { val := HV.ce (HC.bool (x2 == x24 && (x3 == x25 && (x4 == x26 && (x5 == x27 && (x6 == x28 && (x7 == x29 && (x8 == x30 && (x9 == x31 && (x10 == x32 && (x11 == x33 && (x12 == x34 && (x13 == x35 && (x14 == x36 && (x15 == x37 && (x16 == x38 && (x17 == x39 && (x18 == x40 && (x19 == x41 && (x20 == x42 && (x21 == x43 && (x22 == x44 && (x23 == x45 && true))))))))))))))))))))))), own := false, pars := [], news := [] }) ∧
    (x1 = false → Q { val := HV.ce (HC.bool false), own := false, pars := [], news := [] })) := by kernel_rfl
def tabLRate : List (FuncId × HL.Spec) := [(13, STrue0), (22, SRate), (23, SRate), (24, SBetween), (25, SMod)]
def SLRate (hargs : List HV) (pars : List (List HC)) : SR :=
  match hargs, pars with
  | [.ce (.int .i64 n), .ce (.int .i64 u)], [] => .det True ⟨.ce (.bool true), false, [], []⟩
  | _, _ => .fail
noncomputable def CLRate : Ctx := ⟨Try.prog, gam tabLRate, Try.f5.ntmps, [], []⟩
theorem vcLRate (n u : Int) (Q : Res → Prop) : (nfun true CLRate Try.f5 (bodyOf Try.f5) [.ce (.int .i64 n), .ce (.int .i64 u)] [] Q) =
    (True ∧ ∀ (x1 : Int), x1 = rtN n u → ∀ (x2 : Int), x2 = rtE n u → True ∧ ∀ (x3 : Int), x3 = rtN n u → ∀ (x4 : Int), x4 = rtE n u → ((-4611686018427387904 : Int) ≤ (-1000 : Int) ∧ (-1000 : Int) ≤ (70000000000 : Int) ∧ (70000000000 : Int) ≤ (4611686018427387904 : Int) ∧ (70000001000 : Int) < (4611686018427387904 : Int)) ∧ ∀ (x5 : Int), x5 = (-1000 : Int) + n % (70000001001 : Int) → ((0 : Int) < (2 : Int) ∧ (2 : Int) ≤ (4611686018427387904 : Int)) ∧ ∀ (x6 : Int), x6 = u % (2 : Int) → ((-9223372036854775808 : Int) ≤ (20 : Int) + x6 ∧ (20 : Int) + x6 ≤ (9223372036854775807 : Int)) ∧ ∀ (x7 : Int), x7 = (20 : Int) + x6 → True ∧ ∀ (x8 : Int), x8 = rtN x5 x7 → ∀ (x9 : Int), x9 = rtE x5 x7 → ((0 : Int) < (2 : Int) ∧ (2 : Int) ≤ (4611686018427387904 : Int)) ∧ ∀ (x10 : Int), x10 = u % (2 : Int) → ((-9223372036854775808 : Int) ≤ (20 : Int) + x10 ∧ (20 : Int) + x10 ≤ (9223372036854775807 : Int)) ∧ ∀ (x11 : Int), x11 = (20 : Int) + x10 →
    True ∧ ∀ (x12 : Int), x12 = rtN x5 x11 → ∀ (x13 : Int), x13 = rtE x5 x11 → True ∧ ∀ (x14 : Bool), x14 = true → (x14 = true → ((x1 == x3) = true → ((x2 == x4) = true → ((x8 == x12) = true → Q { val := HV.ce (HC.bool (x9 == x13)), own := false, pars := [], news := [] }) ∧ ((x8 == x12) = false → Q { val := HV.ce (HC.bool false), own := false, pars := [], news := [] })) ∧ ((x2 == x4) = false → Q { val := HV.ce (HC.bool false), own := false, pars := [], news := [] })) ∧ ((x1 == x3) = false → Q { val := HV.ce (HC.bool false), own := false, pars := [], news := [] })) ∧ (x14 = false → Q { val := HV.ce (HC.bool false), own := false, pars := [], news := [] })) := by kernel_rfl
def SLRates (hargs : List HV) (pars : List (List HC)) : SR :=
  match hargs, pars with
  | [.ce (.int .i64 n)], [] => .det True ⟨.ce (.bool true), false, [], []⟩
  | _, _ => .fail
noncomputable def CLRates : Ctx := ⟨Try.prog, gam tabLRate, Try.f11.ntmps, [], []⟩
theorem vcLRates (n : Int) (Q : Res → Prop) : (nfun true CLRates Try.f11 (bodyOf Try.f11) [.ce (.int .i64 n)] [] Q) =
    (((-4611686018427387904 : Int) ≤ (1000000 : Int) ∧ (1000000 : Int) ≤ (2000000000 : Int) ∧ (2000000000 : Int) ≤ (4611686018427387904 : Int) ∧ (1999000000 : Int) < (4611686018427387904 : Int)) ∧ ∀ (x1 : Int), x1 = (1000000 : Int) + n % (1999000001 : Int) → True ∧ ∀ (x2 : Int), x2 = rtN x1 (21 : Int) → ∀ (x3 : Int), x3 = rtE x1 (21 : Int) → True ∧ ∀ (x4 : Int), x4 = rtN x1 (20 : Int) → ∀ (x5 : Int), x5 = rtE x1 (20 : Int) → True ∧ ∀ (x6 : Bool), x6 = true → ((!x6) = true → Q { val := HV.ce (HC.bool false), own := false, pars := [], news := [] }) ∧ ((!x6) = false → ((x3 != (0 : Int)) = true → Q { val := HV.ce (HC.bool false), own := false, pars := [], news := [] }) ∧ ((x3 != (0 : Int)) = false → ((x5 != (0 : Int)) = true → Q { val := HV.ce (HC.bool false), own := false, pars := [], news := [] }) ∧ ((x5 != (0 : Int)) = false → ((-9223372036854775808 : Int) ≤ x2 * (1000 : Int) ∧ x2 * (1000 : Int) ≤ (9223372036854775807 : Int)) ∧
    ∀ (x7 : Int), x7 = x2 * (1000 : Int) → ((-9223372036854775808 : Int) ≤ x7 - x1 ∧ x7 - x1 ≤ (9223372036854775807 : Int)) ∧ ∀ (x8 : Int), x8 = x7 - x1 → ((-9223372036854775808 : Int) ≤ x2 * (1000 : Int) ∧ x2 * (1000 : Int) ≤ (9223372036854775807 : Int)) ∧ ∀ (x9 : Int), x9 = x2 * (1000 : Int) → ((-9223372036854775808 : Int) ≤ x1 - x9 ∧ x1 - x9 ≤ (9223372036854775807 : Int)) ∧ ∀ (x10 : Int), x10 = x1 - x9 → ∀ (x11 : Int), x11 = max x8 x10 → (decide (x11 > (500 : Int)) = true → Q { val := HV.ce (HC.bool false), own := false, pars := [], news := [] }) ∧ (decide (x11 > (500 : Int)) = false → ((-9223372036854775808 : Int) ≤ x4 * (10000 : Int) ∧ x4 * (10000 : Int) ≤ (9223372036854775807 : Int)) ∧ ∀ (x12 : Int), x12 = x4 * (10000 : Int) → ((-9223372036854775808 : Int) ≤ x1 * (254 : Int) ∧ x1 * (254 : Int) ≤ (9223372036854775807 : Int)) ∧ ∀ (x13 : Int), x13 = x1 * (254 : Int) → ((-9223372036854775808 : Int) ≤ x12 - x13 ∧
    x12 - x13 ≤ (9223372036854775807 : Int)) ∧ ∀ (x14 : Int), x14 = x12 - x13 → ((-9223372036854775808 : Int) ≤ (0 : Int) - x14 ∧ (0 : Int) - x14 ≤ (9223372036854775807 : Int)) ∧ ∀ (x15 : Int), x15 = (0 : Int) - x14 → ∀ (x16 : Int), x16 = max x14 x15 → Q { val := HV.ce (HC.bool (decide (x16 ≤ (5000 : Int)))), own := false, pars := [], news := [] }))))) := by kernel_rfl
def tabLConf : List (FuncId × HL.Spec) := [(13, STrue0), (29, SGroup), (20, SCheck), (25, SMod)]
def SLConf (hargs : List HV) (pars : List (List HC)) : SR :=
  match hargs, pars with
  | [.ce (.int .i64 c), .ce (.int .i64 d), .ce (.bool g)], [] => .det True ⟨.ce (.bool true), false, [], []⟩
  | _, _ => .fail
noncomputable def CLConf : Ctx := ⟨Try.prog, gam tabLConf, Try.f10.ntmps, [], []⟩
theorem vcLConf (c d : Int) (g : Bool) (Q : Res → Prop) : (nfun true CLConf Try.f10 (bodyOf Try.f10) [.ce (.int .i64 c), .ce (.int .i64 d), .ce (.bool g)] [] Q) =
    (((0 : Int) < (100 : Int) ∧ (100 : Int) ≤ (4611686018427387904 : Int)) ∧ ∀ (x1 : Int), x1 = c % (100 : Int) → ((0 : Int) < (100 : Int) ∧ (100 : Int) ≤ (4611686018427387904 : Int)) ∧ ∀ (x2 : Int), x2 = d % (100 : Int) → (g = true → True ∧ ∀ (x3 : Int), x3 = grp (71 : Int) x1 → True ∧ ∀ (x4 : Int), x4 = grp (71 : Int) x2 → ((-9223372036854775808 : Int) ≤ x1 * (1000000 : Int) ∧ x1 * (1000000 : Int) ≤ (9223372036854775807 : Int)) ∧ ∀ (x5 : Int), x5 = x1 * (1000000 : Int) → ((-9223372036854775808 : Int) ≤ x2 * (1000000 : Int) ∧ x2 * (1000000 : Int) ≤ (9223372036854775807 : Int)) ∧ ∀ (x6 : Int), x6 = x2 * (1000000 : Int) → (2 : Nat) ≤ (1000 : Nat) ∧ ∀ (x7 : Int), x7 = ckk [[(71 : Int), x5], [(71 : Int), x6]] → ∀ (x8 : Int), x8 = min x3 x4 → ∀ (x9 : Int), x9 = max x3 x4 → ((x3 == (0 : Int)) = true → True ∧ ∀ (x10 : Bool), x10 = true → (x10 = true → Q { val := HV.ce (HC.bool (x7 == (6 : Int))), own := false, pars := [], news := [] }) ∧
    (x10 = false → Q { val := HV.ce (HC.bool false), own := false, pars := [], news := [] })) ∧ ((x3 == (0 : Int)) = false → ((x4 == (0 : Int)) = true → True ∧ ∀ (x11 : Bool), x11 = true → (x11 = true → Q { val := HV.ce (HC.bool (x7 == (6 : Int))), own := false, pars := [], news := [] }) ∧ (x11 = false → Q { val := HV.ce (HC.bool false), own := false, pars := [], news := [] })) ∧ ((x4 == (0 : Int)) = false → ((x3 == x4) = true → True ∧ ∀ (x12 : Bool), x12 = true → (x12 = true → Q { val := HV.ce (HC.bool (x7 == (8 : Int))), own := false, pars := [], news := [] }) ∧ (x12 = false → Q { val := HV.ce (HC.bool false), own := false, pars := [], news := [] })) ∧ ((x3 == x4) = false → ((x9 == (14 : Int)) = true → ((x8 == (1 : Int)) = true → True ∧ ∀ (x13 : Bool), x13 = true → (x13 = true → Q { val := HV.ce (HC.bool (x7 == (8 : Int))), own := false, pars := [], news := [] }) ∧ (x13 = false → Q { val := HV.ce (HC.bool false), own := false, pars := [], news := [] })) ∧
    ((x8 == (1 : Int)) = false → ((x8 == (13 : Int)) = true → True ∧ ∀ (x14 : Bool), x14 = true → (x14 = true → Q { val := HV.ce (HC.bool (x7 == (8 : Int))), own := false, pars := [], news := [] }) ∧ (x14 = false → Q { val := HV.ce (HC.bool false), own := false, pars := [], news := [] })) ∧ ((x8 == (13 : Int)) = false → True ∧ ∀ (x15 : Bool), x15 = true → (x15 = true → Q { val := HV.ce (HC.bool (x7 == (0 : Int))), own := false, pars := [], news := [] }) ∧ (x15 = false → Q { val := HV.ce (HC.bool false), own := false, pars := [], news := [] })))) ∧ ((x9 == (14 : Int)) = false → True ∧ ∀ (x16 : Bool), x16 = true → (x16 = true → Q { val := HV.ce (HC.bool (x7 == (0 : Int))), own := false, pars := [], news := [] }) ∧ (x16 = false → Q { val := HV.ce (HC.bool false), own := false, pars := [], news := [] })))))) ∧ (g = false → True ∧ ∀ (x17 : Int), x17 = grp (77 : Int) x1 → True ∧ ∀ (x18 : Int), x18 = grp (77 : Int) x2 →
    ((-9223372036854775808 : Int) ≤ x1 * (1000000 : Int) ∧ x1 * (1000000 : Int) ≤ (9223372036854775807 : Int)) ∧ ∀ (x19 : Int), x19 = x1 * (1000000 : Int) → ((-9223372036854775808 : Int) ≤ x2 * (1000000 : Int) ∧ x2 * (1000000 : Int) ≤ (9223372036854775807 : Int)) ∧ ∀ (x20 : Int), x20 = x2 * (1000000 : Int) → (2 : Nat) ≤ (1000 : Nat) ∧ ∀ (x21 : Int), x21 = ckk [[(77 : Int), x19], [(77 : Int), x20]] → ∀ (x22 : Int), x22 = min x17 x18 → ∀ (x23 : Int), x23 = max x17 x18 → ((x17 == (0 : Int)) = true → True ∧ ∀ (x24 : Bool), x24 = true → (x24 = true → Q { val := HV.ce (HC.bool (x21 == (6 : Int))), own := false, pars := [], news := [] }) ∧ (x24 = false → Q { val := HV.ce (HC.bool false), own := false, pars := [], news := [] })) ∧ ((x17 == (0 : Int)) = false → ((x18 == (0 : Int)) = true → True ∧ ∀ (x25 : Bool), x25 = true → (x25 = true → Q { val := HV.ce (HC.bool (x21 == (6 : Int))), own := false, pars := [], news := [] }) ∧
    (x25 = false → Q { val := HV.ce (HC.bool false), own := false, pars := [], news := [] })) ∧ ((x18 == (0 : Int)) = false → ((x17 == x18) = true → True ∧ ∀ (x26 : Bool), x26 = true → (x26 = true → Q { val := HV.ce (HC.bool (x21 == (8 : Int))), own := false, pars := [], news := [] }) ∧ (x26 = false → Q { val := HV.ce (HC.bool false), own := false, pars := [], news := [] })) ∧ ((x17 == x18) = false → ((x23 == (14 : Int)) = true → ((x22 == (1 : Int)) = true → True ∧ ∀ (x27 : Bool), x27 = true → (x27 = true → Q { val := HV.ce (HC.bool (x21 == (8 : Int))), own := false, pars := [], news := [] }) ∧ (x27 = false → Q { val := HV.ce (HC.bool false), own := false, pars := [], news := [] })) ∧ ((x22 == (1 : Int)) = false → ((x22 == (13 : Int)) = true → True ∧ ∀ (x28 : Bool), x28 = true → (x28 = true → Q { val := HV.ce (HC.bool (x21 == (8 : Int))), own := false, pars := [], news := [] }) ∧ (x28 = false →
    Q { val := HV.ce (HC.bool false), own := false, pars := [], news := [] })) ∧ ((x22 == (13 : Int)) = false → True ∧ ∀ (x29 : Bool), x29 = true → (x29 = true → Q { val := HV.ce (HC.bool (x21 == (0 : Int))), own := false, pars := [], news := [] }) ∧ (x29 = false → Q { val := HV.ce (HC.bool false), own := false, pars := [], news := [] })))) ∧ ((x23 == (14 : Int)) = false → True ∧ ∀ (x30 : Bool), x30 = true → (x30 = true → Q { val := HV.ce (HC.bool (x21 == (0 : Int))), own := false, pars := [], news := [] }) ∧ (x30 = false → Q { val := HV.ce (HC.bool false), own := false, pars := [], news := [] }))))))) := by kernel_rfl
attribute [local irreducible] hfun
theorem lnW20 (n : Int) : lnV n 20 = (2 * (n * 254) + 10000) / 20000 := rfl
theorem lnW21 (n : Int) : lnV n 21 = (2 * (n * 1) + 1000) / 2000 := rfl
theorem okU20 {n : Int} (h : 1000000 ≤ n) (h2 : n ≤ 2000000000) : okU n 20 = true := by
  unfold okU
  rw [vl_iff.2 ⟨by omega, by omega⟩]; rfl
theorem okU21 {n : Int} (h : 1000000 ≤ n) (h2 : n ≤ 2000000000) : okU n 21 = true := by
  unfold okU
  rw [vl_iff.2 ⟨by omega, by omega⟩]; rfl
theorem rt20 {n : Int} (h : 1000000 ≤ n) (h2 : n ≤ 2000000000) : rtE n 20 = 0 ∧ rtN n 20 = (2 * (n * 254) + 10000) / 20000 := by
  have e : rtE n 20 = 0 := by unfold rtE; rw [okU20 h h2, if_pos rfl, lnW20, if_neg (by omega)]
  exact ⟨e, by unfold rtN; rw [if_pos e, lnW20]⟩
theorem rt21 {n : Int} (h : 1000000 ≤ n) (h2 : n ≤ 2000000000) : rtE n 21 = 0 ∧ rtN n 21 = (2 * (n * 1) + 1000) / 2000 := by
  have e : rtE n 21 = 0 := by unfold rtE; rw [okU21 h h2, if_pos rfl, lnW21, if_neg (by omega)]
  exact ⟨e, by unfold rtN; rw [if_pos e, lnW21]⟩
theorem geta_z26 (j : Int) : geta z26 j = false := by
  unfold geta el z26
  by_cases h : j.toNat < 26
  · have : (List.replicate 26 ([0] : List Int)).getD j.toNat [] = [0] := by rw [List.getD_eq_getElem?_getD, List.getElem?_replicate, if_pos h]; rfl
    rw [this]; rfl
  · have : (List.replicate 26 ([0] : List Int)).getD j.toNat [] = [] := by rw [List.getD_eq_getElem?_getD, List.getElem?_replicate, if_neg h]; rfl
    rw [this]; rfl
theorem isw_mul {c : Int} (h : 0 ≤ c) (h2 : c < 100) : isw (c * 1000000) = true ∧ wv (c * 1000000) = c := by
  have a : isw (c * 1000000) = true := by
    unfold isw
    rw [vl_iff.2 ⟨by omega, by omega⟩, Int.mul_tmod_left]; rfl
  exact ⟨a, by unfold wv; rw [a, if_pos rfl, Int.mul_tdiv_cancel _ (by decide)]⟩
theorem grp_le (L c : Int) : 0 ≤ grp L c ∧ grp L c ≤ 25 := grp_bd L c
def two (x y : Int) : Int := if x = 0 ∨ y = 0 then 6 else if x = y then 8 else if (x = 14 ∧ (y = 1 ∨ y = 13)) ∨ (y = 14 ∧ (x = 1 ∨ x = 13)) then 8 else 0
theorem ckk_two {L c d : Int} (hL : L = 71 ∨ L = 77) (hc : 0 ≤ c ∧ c < 100) (hd : 0 ≤ d ∧ d < 100) : ckk [[L, c * 1000000], [L, d * 1000000]] = two (grp L c) (grp L d) := by
  have b1 := grp_le L c
  have b2 := grp_le L d
  obtain ⟨i1, w1⟩ := isw_mul hc.1 hc.2
  obtain ⟨i2, w2⟩ := isw_mul hd.1 hd.2
  have v1 : vl (c * 1000000) = true := vl_iff.2 ⟨by omega, by omega⟩
  have v2 : vl (d * 1000000) = true := vl_iff.2 ⟨by omega, by omega⟩
  have hl : (decide (65 ≤ L ∧ L ≤ 90)) = true := decide_eq_true (by omega)
  have hcl : (L == 71 || L == 77) = true := by rcases hL with rfl | rfl <;> rfl
  unfold ckk
  rw [chk_cons (a := L) (n := c * 1000000) rfl rfl, i1, w1, chk_cons (r := [L, d * 1000000]) (l := []) (L := z26) (G := seta z26 (grp L c)) (a := L) (n := d * 1000000) rfl rfl, i2, w2, v1, v2, hl, hcl, geta_z26]
  generalize grp L c = x at *
  generalize grp L d = y at *
  have gl : (z26.length : Int) = 26 := by decide
  have gx := fun j (hj : 0 ≤ j) => geta_seta (L := z26) (i := x) (j := j) b1.1 (by rw [gl]; omega) hj
  have gl2 : ((seta z26 x).length : Int) = 26 := by unfold seta; rw [List.length_set]; exact gl
  have gy := fun j (hj : 0 ≤ j) => geta_seta (L := seta z26 x) (i := y) (j := j) b2.1 (by rw [gl2]; omega) hj
  rw [gx y b2.1, geta_z26]
  simp only [Bool.and_self, Bool.not_true, if_false, Bool.false_or, Bool.or_false, Bool.false_eq_true, beq_iff_eq, chk]
  unfold two
  by_cases x0 : x = 0
  · simp [x0]
  by_cases y0 : y = 0
  · simp [x0, y0]
  by_cases xy : x = y
  · simp [x0, y0, xy]
  have k14 : geta (seta (seta z26 x) y) 14 = (y == 14 || x == 14) := by rw [gy 14 (by decide), gx 14 (by decide), geta_z26, Bool.or_false]
  have k1 : geta (seta (seta z26 x) y) 1 = (y == 1 || x == 1) := by rw [gy 1 (by decide), gx 1 (by decide), geta_z26, Bool.or_false]
  have k13 : geta (seta (seta z26 x) y) 13 = (y == 13 || x == 13) := by rw [gy 13 (by decide), gx 13 (by decide), geta_z26, Bool.or_false]
  clear gx gy
  have xyb : (x == y || false) = false := by rw [Bool.or_false]; simpa using xy
  simp only [x0, y0, xy, if_false, false_or, or_false, ne_eq, not_true_eq_false, geta_z26, xyb, Bool.false_eq_true]
  simp only [k14, k1, k13]
  by_cases a1 : x = 14 <;> by_cases a2 : y = 14 <;> by_cases a3 : x = 1 <;> by_cases a4 : y = 1 <;> by_cases a5 : x = 13 <;> by_cases a6 : y = 13 <;> first | omega | simp [a1, a2, a3, a4, a5, a6]
set_option maxHeartbeats 400000 in
set_option maxRecDepth 100000 in
theorem sLStart : Sound Try.prog 3 STrue0 := by
  refine sound_of (C := CLStart) tabLStart Try.func3 (by kernel_rfl) (by decide +kernel) (by kernel_rfl) rfl ⟨sAwake, sStart, sStart2, trivial⟩ (loops0 (by kernel_rfl)) ?_
  intro hargs pars R h
  unfold STrue0 at h
  split at h
  case h_2 => exfalso; exact h
  have hq := h.2
  clear h
  refine byVC (vcLStart R) ⟨trivial, fun x1 e1 => ⟨fun _ => ⟨trivial, ?_⟩, fun k => by rw [e1] at k; cases k⟩⟩
  rintro _ rfl _ rfl _ rfl _ rfl _ rfl _ rfl _ rfl _ rfl _ rfl _ rfl _ rfl _ rfl _ rfl _ rfl _ rfl _ rfl _ rfl _ rfl _ rfl _ rfl _ rfl _ rfl
  refine ⟨trivial, ?_⟩
  rintro _ rfl _ rfl _ rfl _ rfl _ rfl _ rfl _ rfl _ rfl _ rfl _ rfl _ rfl _ rfl _ rfl _ rfl _ rfl _ rfl _ rfl _ rfl _ rfl _ rfl _ rfl _ rfl
  exact hq
set_option maxHeartbeats 400000 in
set_option maxRecDepth 100000 in
theorem sLRate : Sound Try.prog 5 SLRate := by
  refine sound_of (C := CLRate) tabLRate Try.func5 (by kernel_rfl) (by decide +kernel) (by kernel_rfl) rfl ⟨sAwake, sRate, sRate2, sBetween, sMod, trivial⟩ (loops0 (by kernel_rfl)) ?_
  intro hargs pars R h
  unfold SLRate at h
  split at h
  case h_2 => exfalso; exact h
  rename_i n u
  have hq := h.2
  clear h
  refine byVC (vcLRate n u R) ⟨trivial, fun x1 e1 x2 e2 => ⟨trivial, fun x3 e3 x4 e4 => ⟨by decide, fun x5 e5 => ⟨by decide, fun x6 e6 => ⟨?_, fun x7 e7 => ⟨trivial, fun x8 e8 x9 e9 => ⟨by decide, fun x10 e10 => ⟨?_, fun x11 e11 => ⟨trivial, fun x12 e12 x13 e13 => ⟨trivial, fun x14 e14 => ?_⟩⟩⟩⟩⟩⟩⟩⟩⟩⟩
  · have := Int.emod_nonneg u (b := 2) (by decide)
    have := Int.emod_lt_of_pos u (b := 2) (by decide)
    omega
  · have := Int.emod_nonneg u (b := 2) (by decide)
    have := Int.emod_lt_of_pos u (b := 2) (by decide)
    omega
  obtain rfl : x10 = x6 := by rw [e10, e6]
  obtain rfl : x11 = x7 := by rw [e11, e7]
  subst e1 e2 e3 e4 e8 e9 e12 e13 e14
  refine ⟨fun _ => ⟨fun _ => ⟨fun _ => ⟨fun _ => ?_, fun k => ?_⟩, fun k => ?_⟩, fun k => ?_⟩, fun k => by cases k⟩
  · rw [beq_self_eq_true]; exact hq
  all_goals rw [beq_self_eq_true] at k; cases k
set_option maxHeartbeats 400000 in
set_option maxRecDepth 100000 in
theorem sLRates : Sound Try.prog 11 SLRates := by
  refine sound_of (C := CLRates) tabLRate Try.func11 (by kernel_rfl) (by decide +kernel) (by kernel_rfl) rfl ⟨sAwake, sRate, sRate2, sBetween, sMod, trivial⟩ (loops0 (by kernel_rfl)) ?_
  intro hargs pars R h
  unfold SLRates at h
  split at h
  case h_2 => exfalso; exact h
  rename_i n
  have hq := h.2
  clear h
  have h1 := Int.emod_nonneg n (b := 1999000001) (by decide)
  have h2 := Int.emod_lt_of_pos n (b := 1999000001) (by decide)
  refine byVC (vcLRates n R) ⟨by decide, fun x1 e1 => ⟨trivial, fun x2 e2 x3 e3 => ⟨trivial, fun x4 e4 x5 e5 => ⟨trivial, fun x6 e6 => ?_⟩⟩⟩⟩
  have b1 : 1000000 ≤ x1 := by omega
  have b2 : x1 ≤ 2000000000 := by omega
  rw [(rt21 b1 b2).2] at e2
  rw [(rt21 b1 b2).1] at e3
  rw [(rt20 b1 b2).2] at e4
  rw [(rt20 b1 b2).1] at e5
  subst e3 e5 e6
  refine ⟨fun k => (by cases k), fun _ => ⟨fun k => (by cases k), fun _ => ⟨fun k => (by cases k), fun _ => ⟨by omega, fun x7 e7 => ⟨by omega, fun x8 e8 => ⟨by omega, fun x9 e9 => ⟨by omega, fun x10 e10 x11 e11 => ⟨fun k => ?_, fun k => ⟨by omega, fun x12 e12 => ⟨by omega, fun x13 e13 => ⟨by omega, fun x14 e14 => ⟨by omega, fun x15 e15 x16 e16 => ?_⟩⟩⟩⟩⟩⟩⟩⟩⟩⟩⟩⟩
  · have k := of_decide_eq_true k
    omega
  · have : decide (x16 ≤ 5000) = true := decide_eq_true (by omega)
    rw [this]; exact hq
theorem two_r {x y v : Int} {R : Res → Prop} (hv : v = two x y) (hq : R ⟨.ce (.bool true), false, [], []⟩) (b1 : 0 ≤ x ∧ x ≤ 25) (b2 : 0 ≤ y ∧ y ≤ 25) : (∀ m, m = min x y → ∀ M, M = max x y →
    ((x == 0) = true → True ∧ ∀ z, z = true → (z = true → R ⟨.ce (.bool (v == 6)), false, [], []⟩) ∧ (z = false → R ⟨.ce (.bool false), false, [], []⟩)) ∧ ((x == 0) = false →
    ((y == 0) = true → True ∧ ∀ z, z = true → (z = true → R ⟨.ce (.bool (v == 6)), false, [], []⟩) ∧ (z = false → R ⟨.ce (.bool false), false, [], []⟩)) ∧ ((y == 0) = false →
    ((x == y) = true → True ∧ ∀ z, z = true → (z = true → R ⟨.ce (.bool (v == 8)), false, [], []⟩) ∧ (z = false → R ⟨.ce (.bool false), false, [], []⟩)) ∧ ((x == y) = false →
    ((M == 14) = true →
      ((m == 1) = true → True ∧ ∀ z, z = true → (z = true → R ⟨.ce (.bool (v == 8)), false, [], []⟩) ∧ (z = false → R ⟨.ce (.bool false), false, [], []⟩)) ∧ ((m == 1) = false →
      ((m == 13) = true → True ∧ ∀ z, z = true → (z = true → R ⟨.ce (.bool (v == 8)), false, [], []⟩) ∧ (z = false → R ⟨.ce (.bool false), false, [], []⟩)) ∧ ((m == 13) = false → True ∧ ∀ z, z = true → (z = true → R ⟨.ce (.bool (v == 0)), false, [], []⟩) ∧ (z = false → R ⟨.ce (.bool false), false, [], []⟩)))) ∧ ((M == 14) = false → True ∧ ∀ z, z = true → (z = true → R ⟨.ce (.bool (v == 0)), false, [], []⟩) ∧ (z = false → R ⟨.ce (.bool false), false, [], []⟩)))))) := by
  have fin : ∀ w, v = w → True ∧ ∀ z, z = true → (z = true → R ⟨.ce (.bool (v == w)), false, [], []⟩) ∧ (z = false → R ⟨.ce (.bool false), false, [], []⟩) := by
    intro w e
    refine ⟨trivial, fun z ez => ⟨fun _ => ?_, fun k => by rw [ez] at k; cases k⟩⟩
    rw [e, beq_self_eq_true]; exact hq
  intro m em M eM
  unfold two at hv
  refine ⟨fun a => fin 6 ?_, fun a => ⟨fun b => fin 6 ?_, fun b => ⟨fun c => fin 8 ?_, fun c => ⟨fun d => ⟨fun e => fin 8 ?_, fun e => ⟨fun f => fin 8 ?_, fun f => fin 0 ?_⟩⟩, fun d => fin 0 ?_⟩⟩⟩⟩
  all_goals
    simp only [beq_iff_eq, beq_eq_false_iff_ne, ne_eq] at *
  · rw [if_pos (.inl a)] at hv; exact hv
  · rw [if_pos (.inr b)] at hv; exact hv
  · rw [if_neg (by omega), if_pos c] at hv; exact hv
  · rw [if_neg (by omega), if_neg c, if_pos (by omega)] at hv; exact hv
  · rw [if_neg (by omega), if_neg c, if_pos (by omega)] at hv; exact hv
  · rw [if_neg (by omega), if_neg c, if_neg (by omega)] at hv; exact hv
  · rw [if_neg (by omega), if_neg c, if_neg (by omega)] at hv; exact hv
set_option maxHeartbeats 400000 in
set_option maxRecDepth 100000 in
theorem sLConf : Sound Try.prog 10 SLConf := by
  refine sound_of (C := CLConf) tabLConf Try.func10 (by kernel_rfl) (by decide +kernel) (by kernel_rfl) rfl ⟨sAwake, sGroup, sCheck, sMod, trivial⟩ (loops0 (by kernel_rfl)) ?_
  intro hargs pars R h
  unfold SLConf at h
  split at h
  case h_2 => exfalso; exact h
  rename_i c d g
  have hq := h.2
  clear h
  have c1 := Int.emod_nonneg c (b := 100) (by decide)
  have c2 := Int.emod_lt_of_pos c (b := 100) (by decide)
  have d1 := Int.emod_nonneg d (b := 100) (by decide)
  have d2 := Int.emod_lt_of_pos d (b := 100) (by decide)
  refine byVC (vcLConf c d g R) ⟨by decide, fun x1 e1 => ⟨by decide, fun x2 e2 => ⟨fun _ => ⟨trivial, fun x3 e3 => ⟨trivial, fun x4 e4 => ⟨by omega, fun x5 e5 => ⟨by omega, fun x6 e6 => ⟨by decide, fun x7 e7 => ?_⟩⟩⟩⟩⟩, fun _ => ⟨trivial, fun x3 e3 => ⟨trivial, fun x4 e4 => ⟨by omega, fun x5 e5 => ⟨by omega, fun x6 e6 => ⟨by decide, fun x7 e7 => ?_⟩⟩⟩⟩⟩⟩⟩⟩
  all_goals
    rw [e5, e6, ckk_two (by decide) (by omega) (by omega), ← e3, ← e4] at e7
    exact two_r e7 hq (by rw [e3]; exact grp_le _ _) (by rw [e4]; exact grp_le _ _)
end Go.Proofs.Ytcfgklmpfkmdkaa
