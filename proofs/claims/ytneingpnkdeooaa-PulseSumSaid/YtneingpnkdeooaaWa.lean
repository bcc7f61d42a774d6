/-
  math/bits.Mul64, and math/bits.Div64 where the dividend has one word; package wide up to MulDiv.
  Conditions: none.
-/
import Derived.Test.YtneingpnkdeooaaUa
set_option maxRecDepth 100000
namespace Go.Proofs.Ytneingpnkdeooaa
open Go Go.HL U
def SMul64 (hargs : List HV) (pars : List (List HC)) : SR :=
  match hargs, pars with
  | [.ce (.int .u64 x), .ce (.int .u64 y)], [] => .det (0 ≤ x ∧ x < 18446744073709551616 ∧ 0 ≤ y ∧ y < 18446744073709551616) ⟨.tup [.ce (.int .u64 (x * y / 18446744073709551616)), .ce (.int .u64 (x * y % 18446744073709551616))], false, [], []⟩
  | _, _ => .fail
noncomputable def CMul64 : Ctx := ⟨Try.prog, gam [], 51, [], []⟩
theorem vcMul64 (x y : Int) (Q : Res → Prop) : (nfun true CMul64 Try.f93 (bodyOf Try.f93) [.ce (.int .u64 x), .ce (.int .u64 y)] [] Q) =
    (((0 : Int) ≤ x ∧ x ≤ (18446744073709551615 : Int) ∧ (4294967295 : Int) ≤ (18446744073709551615 : Int)) ∧ ∀ (x1 : Int), x1 = x % (4294967296 : Int) → (0 : Int) ≤ (32 : Int) ∧ ∀ (x2 : Int), x2 = x / (4294967296 : Int) → ((0 : Int) ≤ y ∧ y ≤ (18446744073709551615 : Int) ∧ (4294967295 : Int) ≤ (18446744073709551615 : Int)) ∧ ∀ (x3 : Int), x3 = y % (4294967296 : Int) → (0 : Int) ≤ (32 : Int) ∧ ∀ (x4 : Int), x4 = y / (4294967296 : Int) → ∀ (x5 : Int), x5 = x1 * x3 % (18446744073709551616 : Int) → ∀ (x6 : Int), x6 = x2 * x3 % (18446744073709551616 : Int) → (0 : Int) ≤ (32 : Int) ∧ ∀ (x7 : Int), x7 = x5 / (4294967296 : Int) → ∀ (x8 : Int), x8 = (x6 + x7) % (18446744073709551616 : Int) → ((0 : Int) ≤ x8 ∧ x8 ≤ (18446744073709551615 : Int) ∧ (4294967295 : Int) ≤ (18446744073709551615 : Int)) ∧ ∀ (x9 : Int), x9 = x8 % (4294967296 : Int) → (0 : Int) ≤ (32 : Int) ∧ ∀ (x10 : Int), x10 = x8 / (4294967296 : Int) →
    ∀ (x11 : Int), x11 = x1 * x4 % (18446744073709551616 : Int) → ∀ (x12 : Int), x12 = (x9 + x11) % (18446744073709551616 : Int) → ∀ (x13 : Int), x13 = x2 * x4 % (18446744073709551616 : Int) → ∀ (x14 : Int), x14 = (x13 + x10) % (18446744073709551616 : Int) → (0 : Int) ≤ (32 : Int) ∧ ∀ (x15 : Int), x15 = x12 / (4294967296 : Int) → ∀ (x16 : Int), x16 = (x14 + x15) % (18446744073709551616 : Int) → ∀ (x17 : Int), x17 = x * y % (18446744073709551616 : Int) → Q { val := HV.tup [H0.ce (HC.int IntKind.u64 x16), H0.ce (HC.int IntKind.u64 x17)], own := false, pars := [], news := [] }) := by kernel_rfl
def SDiv64 (hargs : List HV) (pars : List (List HC)) : SR :=
  match hargs, pars with
  | [.ce (.int .u64 h), .ce (.int .u64 x), .ce (.int .u64 y)], [] => .det (h = 0 ∧ 0 ≤ x ∧ x < 18446744073709551616 ∧ 0 < y ∧ y < 18446744073709551616) ⟨.tup [.ce (.int .u64 (x / y)), .ce (.int .u64 (x % y))], false, [], []⟩
  | _, _ => .fail
noncomputable def CDiv64 : Ctx := ⟨Try.prog, gam [], 135, [], []⟩
theorem vcDiv64 (h x y : Int) (Q : Res → Prop) : (nfun true CDiv64 Try.f80 (bodyOf Try.f80) [.ce (.int .u64 h), .ce (.int .u64 x), .ce (.int .u64 y)] [] Q) =
    (((y == (0 : Int)) = true → False) ∧ ((y == (0 : Int)) = false → (decide (y ≤ h) = true → False) ∧ (decide (y ≤ h) = false → ((h == (0 : Int)) = true → y ≠ (0 : Int) ∧ ∀ (x1 : Int), x1 = Int.tdiv x y % (18446744073709551616 : Int) → y ≠ (0 : Int) ∧ ∀ (x2 : Int), x2 = Int.tmod x y → Q { val := HV.tup [H0.ce (HC.int IntKind.u64 x1), H0.ce (HC.int IntKind.u64 x2)], own := false, pars := [], news := [] }) ∧ ((h == (0 : Int)) = false → False)))) := by kernel_rfl
def SSize (hargs : List HV) (pars : List (List HC)) : SR :=
  match hargs, pars with
  | [.ce (.int .i64 x)], [] => .det (-9223372036854775808 ≤ x ∧ x ≤ 9223372036854775807) ⟨.ce (.int .u64 (x.natAbs : Int)), false, [], []⟩
  | _, _ => .fail
noncomputable def CSize : Ctx := ⟨Try.prog, gam [], 12, [], []⟩
theorem vcSize (x : Int) (Q : Res → Prop) : (nfun true CSize Try.f79 (bodyOf Try.f79) [.ce (.int .i64 x)] [] Q) =
    ((decide (x < (0 : Int)) = true → ((-9223372036854775808 : Int) ≤ x + (1 : Int) ∧ x + (1 : Int) ≤ (9223372036854775807 : Int)) ∧ ∀ (x1 : Int), x1 = x + (1 : Int) → ((-9223372036854775808 : Int) ≤ (0 : Int) - x1 ∧ (0 : Int) - x1 ≤ (9223372036854775807 : Int)) ∧ ∀ (x2 : Int), x2 = (0 : Int) - x1 → ∀ (x3 : Int), x3 = x2 % (18446744073709551616 : Int) → ∀ (x4 : Int), x4 = (x3 + (1 : Int)) % (18446744073709551616 : Int) → Q { val := HV.ce (HC.int IntKind.u64 x4), own := false, pars := [], news := [] }) ∧ (decide (x < (0 : Int)) = false → ∀ (x5 : Int), x5 = x % (18446744073709551616 : Int) → Q { val := HV.ce (HC.int IntKind.u64 x5), own := false, pars := [], news := [] })) := by kernel_rfl
def SProduct (hargs : List HV) (pars : List (List HC)) : SR :=
  match hargs, pars with
  | [.ce (.int .u64 x), .ce (.int .u64 y)], [] => .det (0 ≤ x ∧ x < 18446744073709551616 ∧ 0 ≤ y ∧ y < 18446744073709551616) ⟨.agg [.int .u64 (x * y / 18446744073709551616), .int .u64 (x * y % 18446744073709551616)], false, [], []⟩
  | _, _ => .fail
def tabProduct : List (FuncId × HL.Spec) := [(93, SMul64)]
noncomputable def CProduct : Ctx := ⟨Try.prog, gam tabProduct, 16, [], []⟩
theorem vcProduct (x y : Int) (Q : Res → Prop) : (nfun true CProduct Try.f78 (bodyOf Try.f78) [.ce (.int .u64 x), .ce (.int .u64 y)] [] Q) =
    (((0 : Int) ≤ x ∧ x < (18446744073709551616 : Int) ∧ (0 : Int) ≤ y ∧ y < (18446744073709551616 : Int)) ∧ ∀ (x1 : Int), x1 = x * y / (18446744073709551616 : Int) → ∀ (x2 : Int), x2 = x * y % (18446744073709551616 : Int) → Q { val := HV.agg [HC.int IntKind.u64 x1, HC.int IntKind.u64 x2], own := false, pars := [], news := [] }) := by kernel_rfl
def SKnown (hargs : List HV) (pars : List (List HC)) : SR :=
  match hargs, pars with
  | [.ce (.int .i64 x)], [] => .det True ⟨.ce (.bool (decide (0 ≤ x ∧ x ≤ 2))), false, [], []⟩
  | _, _ => .fail
noncomputable def CKnown : Ctx := ⟨Try.prog, gam [], 13, [], []⟩
theorem vcKnown (x : Int) (Q : Res → Prop) : (nfun true CKnown Try.f77 (bodyOf Try.f77) [.ce (.int .i64 x)] [] Q) =
    (((x == (0 : Int)) = true → Q { val := HV.ce (HC.bool true), own := false, pars := [], news := [] }) ∧ ((x == (0 : Int)) = false → ((x == (1 : Int)) = true → Q { val := HV.ce (HC.bool true), own := false, pars := [], news := [] }) ∧ ((x == (1 : Int)) = false → Q { val := HV.ce (HC.bool (x == (2 : Int))), own := false, pars := [], news := [] }))) := by kernel_rfl
def SSign (hargs : List HV) (pars : List (List HC)) : SR :=
  match hargs, pars with
  | [.ce (.int .i64 x), .ce (.int .i64 y)], [] => .det True ⟨.ce (.int .i64 (x.sign * y.sign)), false, [], []⟩
  | _, _ => .fail
noncomputable def CSign : Ctx := ⟨Try.prog, gam [], 18, [], []⟩
theorem vcSign (x y : Int) (Q : Res → Prop) : (nfun true CSign Try.f81 (bodyOf Try.f81) [.ce (.int .i64 x), .ce (.int .i64 y)] [] Q) =
    (((x == (0 : Int)) = true → Q { val := HV.ce (HC.int IntKind.i64 (0 : Int)), own := false, pars := [], news := [] }) ∧ ((x == (0 : Int)) = false → ((y == (0 : Int)) = true → Q { val := HV.ce (HC.int IntKind.i64 (0 : Int)), own := false, pars := [], news := [] }) ∧ ((y == (0 : Int)) = false → ((decide (x < (0 : Int)) == decide (y < (0 : Int))) = true → Q { val := HV.ce (HC.int IntKind.i64 (1 : Int)), own := false, pars := [], news := [] }) ∧ ((decide (x < (0 : Int)) == decide (y < (0 : Int))) = false → Q { val := HV.ce (HC.int IntKind.i64 (-1 : Int)), own := false, pars := [], news := [] })))) := by kernel_rfl
noncomputable def CGrows : Ctx := ⟨Try.prog, gam [], 33, [], []⟩
theorem vcGrows (m e : Int) (s n : Bool) (Q : Res → Prop) : (nfun true CGrows Try.f82 (bodyOf Try.f82) [.ce (.int .i64 m), .ce (.int .i64 e), .ce (.bool s), .ce (.bool n)] [] Q) =
    (((m == (0 : Int)) = true → (s = true → Q { val := HV.ce (HC.bool n), own := false, pars := [], news := [] }) ∧ (s = false → Q { val := HV.ce (HC.bool false), own := false, pars := [], news := [] })) ∧ ((m == (0 : Int)) = false → ((m == (1 : Int)) = true → (s = true → Q { val := HV.ce (HC.bool !n), own := false, pars := [], news := [] }) ∧ (s = false → Q { val := HV.ce (HC.bool false), own := false, pars := [], news := [] })) ∧ ((m == (1 : Int)) = false → (decide (e > (0 : Int)) = true → Q { val := HV.ce (HC.bool true), own := false, pars := [], news := [] }) ∧ (decide (e > (0 : Int)) = false → ((e == (0 : Int)) = true → Q { val := HV.ce (HC.bool !n), own := false, pars := [], news := [] }) ∧ ((e == (0 : Int)) = false → Q { val := HV.ce (HC.bool false), own := false, pars := [], news := [] }))))) := by kernel_rfl
noncomputable def CSigned : Ctx := ⟨Try.prog, gam [], 24, [], []⟩
theorem vcSigned (n : Int) (neg : Bool) (Q : Res → Prop) : (nfun false CSigned Try.f83 (bodyOf Try.f83) [.ce (.int .u64 n), .ce (.bool neg)] [] Q) =
    ((neg = true → (decide (n ≤ (9223372036854775808 : Int)) = true → ∀ (x1 : Int), x1 = IntKind.wrap IntKind.u64 ((0 : Int) - n) → ∀ (x2 : Int), x2 = IntKind.wrap IntKind.i64 x1 → Q { val := HV.tup [H0.ce (HC.int IntKind.i64 x2), H0.ce (HC.bool true)], own := false, pars := [], news := [] }) ∧ (decide (n ≤ (9223372036854775808 : Int)) = false → ((!neg) = true → (decide (n < (9223372036854775808 : Int)) = true → ∀ (x3 : Int), x3 = IntKind.wrap IntKind.i64 n → Q { val := HV.tup [H0.ce (HC.int IntKind.i64 x3), H0.ce (HC.bool true)], own := false, pars := [], news := [] }) ∧ (decide (n < (9223372036854775808 : Int)) = false → Q { val := HV.tup [H0.ce (HC.int IntKind.i64 (0 : Int)), H0.ce (HC.bool false)], own := false, pars := [], news := [] })) ∧ ((!neg) = false → Q { val := HV.tup [H0.ce (HC.int IntKind.i64 (0 : Int)), H0.ce (HC.bool false)], own := false, pars := [], news := [] }))) ∧ (neg = false →
    ((!neg) = true → (decide (n < (9223372036854775808 : Int)) = true → ∀ (x4 : Int), x4 = IntKind.wrap IntKind.i64 n → Q { val := HV.tup [H0.ce (HC.int IntKind.i64 x4), H0.ce (HC.bool true)], own := false, pars := [], news := [] }) ∧ (decide (n < (9223372036854775808 : Int)) = false → Q { val := HV.tup [H0.ce (HC.int IntKind.i64 (0 : Int)), H0.ce (HC.bool false)], own := false, pars := [], news := [] })) ∧ ((!neg) = false → Q { val := HV.tup [H0.ce (HC.int IntKind.i64 (0 : Int)), H0.ce (HC.bool false)], own := false, pars := [], news := [] }))) := by kernel_rfl
end Go.Proofs.Ytneingpnkdeooaa
namespace Go.Proofs.Ytneingpnkdeooaa
open Go Go.HL U
theorem mul_bd {a b A B : Int} (ha : 0 ≤ a) (hA : a ≤ A) (hb : 0 ≤ b) (hB : b ≤ B) : 0 ≤ a * b ∧ a * b ≤ A * B :=
  ⟨Int.mul_nonneg ha hb, Int.le_trans (Int.mul_le_mul_of_nonneg_right hA hb) (Int.mul_le_mul_of_nonneg_left hB (Int.le_trans ha hA))⟩
set_option maxRecDepth 100000 in
theorem sMul64 : Sound Try.prog 93 SMul64 := by
  refine sound_of (C := CMul64) [] Try.func93 (by kernel_rfl) (by decide +kernel) (by kernel_rfl) rfl trivial (loops0 (by kernel_rfl)) ?_
  intro hargs pars R h
  unfold SMul64 at h
  split at h
  · rename_i x y
    obtain ⟨⟨h1, h2, h3, h4⟩, hq⟩ := h
    refine byVC (vcMul64 x y R) ?_
    refine ⟨by omega, fun x1 e1 => ⟨by omega, fun x2 e2 => ⟨by omega, fun x3 e3 => ⟨by omega, fun x4 e4 => ?_⟩⟩⟩⟩
    have b1 := mul_bd (a := x1) (b := x3) (A := 4294967295) (B := 4294967295) (by omega) (by omega) (by omega) (by omega)
    have b2 := mul_bd (a := x2) (b := x3) (A := 4294967295) (B := 4294967295) (by omega) (by omega) (by omega) (by omega)
    have b3 := mul_bd (a := x1) (b := x4) (A := 4294967295) (B := 4294967295) (by omega) (by omega) (by omega) (by omega)
    have b4 := mul_bd (a := x2) (b := x4) (A := 4294967295) (B := 4294967295) (by omega) (by omega) (by omega) (by omega)
    have hx : x = 4294967296 * x2 + x1 := by omega
    have hy : y = 4294967296 * x4 + x3 := by omega
    have e : x * y = 18446744073709551616 * (x2 * x4) + 4294967296 * (x1 * x4) + 4294967296 * (x2 * x3) + x1 * x3 := by
      rw [hx, hy]; grind
    rw [e] at hq
    rw [e]
    clear e hx hy
    generalize x1 * x3 = p at *
    generalize x2 * x3 = q at *
    generalize x1 * x4 = r at *
    generalize x2 * x4 = t at *
    intro x5 e5 x6 e6
    refine ⟨by omega, fun x7 e7 x8 e8 => ⟨by omega, fun x9 e9 => ⟨by omega, fun x10 e10 x11 e11 x12 e12 x13 e13 x14 e14 => ⟨by omega, fun x15 e15 x16 e16 x17 e17 => ?_⟩⟩⟩⟩
    rw [show x16 = (18446744073709551616 * t + 4294967296 * r + 4294967296 * q + p) / 18446744073709551616 by omega, e17]
    exact hq
  · exact h.elim

set_option maxRecDepth 100000 in
theorem sDiv64 : Sound Try.prog 80 SDiv64 := by
  refine sound_of (C := CDiv64) [] Try.func80 (by kernel_rfl) (by decide +kernel) (by kernel_rfl) rfl trivial (loops2 (by kernel_rfl) ?_ ?_) ?_
  · intro an S h; rw [show (firstReg (nthLoop Try.f80 0)).bind (findAnn CDiv64.loops) = none by kernel_rfl] at h; cases h
  · intro an S h; rw [show (firstReg (nthLoop Try.f80 1)).bind (findAnn CDiv64.loops) = none by kernel_rfl] at h; cases h
  intro hargs pars R h
  unfold SDiv64 at h
  split at h
  · rename_i hi x y
    obtain ⟨⟨h1, h2, h3, h4, h5⟩, hq⟩ := h
    subst h1
    refine byVC (vcDiv64 0 x y R) ?_
    refine ⟨fun e => ?_, fun _ => ⟨fun e => ?_, fun _ => ⟨fun _ => ⟨by omega, fun x1 e1 => ⟨by omega, fun x2 e2 => ?_⟩⟩, fun e => (nomatch e)⟩⟩⟩
    · have : y = 0 := by simpa using e
      omega
    · have := of_decide_eq_true e; omega
    · have hd : 0 ≤ x / y := Int.ediv_nonneg h2 (by omega)
      have hd2 : x / y ≤ x := Int.ediv_le_self _ h2
      rw [tdiv_pos h2] at e1
      rw [tmod_pos h2] at e2
      rw [e1, e2, Int.emod_eq_of_lt hd (by omega)]
      exact hq
  · exact h.elim

set_option maxRecDepth 100000 in
theorem sSize : Sound Try.prog 79 SSize := by
  refine sound_of (C := CSize) [] Try.func79 (by kernel_rfl) (by decide +kernel) (by kernel_rfl) rfl trivial (loops0 (by kernel_rfl)) ?_
  intro hargs pars R h
  unfold SSize at h
  split at h
  · rename_i x
    obtain ⟨⟨h1, h2⟩, hq⟩ := h
    refine byVC (vcSize x R) ⟨fun e => ?_, fun e => ?_⟩
    · have := of_decide_eq_true e
      refine ⟨by omega, fun x1 e1 => ⟨by omega, fun x2 e2 x3 e3 x4 e4 => ?_⟩⟩
      rw [show x4 = (x.natAbs : Int) by omega]
      exact hq
    · have := of_decide_eq_false e
      intro x5 e5
      rw [show x5 = (x.natAbs : Int) by omega]
      exact hq
  · exact h.elim

set_option maxRecDepth 100000 in
theorem sProduct : Sound Try.prog 78 SProduct := by
  refine sound_of (C := CProduct) tabProduct Try.func78 (by kernel_rfl) (by decide +kernel) (by kernel_rfl) rfl ⟨sMul64, trivial⟩ (loops0 (by kernel_rfl)) ?_
  intro hargs pars R h
  unfold SProduct at h
  split at h
  · exact byVC (vcProduct _ _ R) ⟨h.1, fun x1 e1 x2 e2 => by subst e1 e2; exact h.2⟩
  · exact h.elim

set_option maxRecDepth 100000 in
theorem sKnown : Sound Try.prog 77 SKnown := by
  refine sound_of (C := CKnown) [] Try.func77 (by kernel_rfl) (by decide +kernel) (by kernel_rfl) rfl trivial (loops0 (by kernel_rfl)) ?_
  intro hargs pars R h
  unfold SKnown at h
  split at h
  · rename_i x
    have hq := h.2
    refine byVC (vcKnown x R) ⟨fun e => ?_, fun e => ⟨fun e2 => ?_, fun e2 => ?_⟩⟩
    · have : x = 0 := by simpa using e
      subst this; exact hq
    · have : x = 1 := by simpa using e2
      subst this; exact hq
    · have h0 : x ≠ 0 := by simpa using e
      have h1 : x ≠ 1 := by simpa using e2
      have : (x == 2) = decide (0 ≤ x ∧ x ≤ 2) := by
        by_cases hx : x = 2
        · subst hx; rfl
        · rw [decide_eq_false (by omega)]; simpa using hx
      rw [this]; exact hq
  · exact h.elim

set_option maxRecDepth 100000 in
theorem sSign : Sound Try.prog 81 SSign := by
  refine sound_of (C := CSign) [] Try.func81 (by kernel_rfl) (by decide +kernel) (by kernel_rfl) rfl trivial (loops0 (by kernel_rfl)) ?_
  intro hargs pars R h
  unfold SSign at h
  split at h
  · rename_i x y
    have hq := h.2
    refine byVC (vcSign x y R) ⟨fun e => ?_, fun e => ⟨fun e2 => ?_, fun e2 => ⟨fun e3 => ?_, fun e3 => ?_⟩⟩⟩
    · have : x = 0 := by simpa using e
      subst this; simpa using hq
    · have : y = 0 := by simpa using e2
      subst this; simpa using hq
    · have h0 : x ≠ 0 := by simpa using e
      have h1 : y ≠ 0 := by simpa using e2
      have : x.sign * y.sign = 1 := by
        rcases Int.lt_or_gt_of_ne h0 with hx | hx <;> rcases Int.lt_or_gt_of_ne h1 with hy | hy
        · rw [Int.sign_eq_neg_one_of_neg hx, Int.sign_eq_neg_one_of_neg hy]; rfl
        · simp [hx, Int.not_lt.2 (Int.le_of_lt hy)] at e3
        · simp [hy, Int.not_lt.2 (Int.le_of_lt hx)] at e3
        · rw [Int.sign_eq_one_of_pos hx, Int.sign_eq_one_of_pos hy]; rfl
      rw [this] at hq; exact hq
    · have h0 : x ≠ 0 := by simpa using e
      have h1 : y ≠ 0 := by simpa using e2
      have : x.sign * y.sign = -1 := by
        rcases Int.lt_or_gt_of_ne h0 with hx | hx <;> rcases Int.lt_or_gt_of_ne h1 with hy | hy
        · simp [hx, hy] at e3
        · rw [Int.sign_eq_neg_one_of_neg hx, Int.sign_eq_one_of_pos hy]; rfl
        · rw [Int.sign_eq_one_of_pos hx, Int.sign_eq_neg_one_of_neg hy]; rfl
        · simp [Int.not_lt.2 (Int.le_of_lt hx), Int.not_lt.2 (Int.le_of_lt hy)] at e3
      rw [this] at hq; exact hq
  · exact h.elim
end Go.Proofs.Ytneingpnkdeooaa
