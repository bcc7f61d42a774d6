/-
  Part 4 of the texts that the law needs, merged: a value-level calculus of the code (HL), the contracts of the functions, and their proofs.
  Conditions: none.
-/
import Derived.Test.YtgnknciihdajiaaDoorPFrameTarget3
set_option maxRecDepth 100000
set_option maxHeartbeats 400000
set_option linter.unusedVariables false
set_option linter.unusedSimpArgs false
namespace Go.Proofs.YtgnknciihdajiaaDoor
open Go Go.HL U
def SMul64 (hargs : List HV) (pars : List (List HC)) : SR :=
  match hargs, pars with
  | [.ce (.int .u64 x), .ce (.int .u64 y)], [] => .det (0 ≤ x ∧ x < 18446744073709551616 ∧ 0 ≤ y ∧ y < 18446744073709551616) ⟨.tup [.ce (.int .u64 (x * y / 18446744073709551616)), .ce (.int .u64 (x * y % 18446744073709551616))], false, [], []⟩
  | _, _ => .fail
noncomputable def CMul64 : Ctx := ⟨Tryd.prog, gam [], 51, [], []⟩
theorem vcMul64 (x y : Int) (Q : Res → Prop) : (nfun true CMul64 Tryd.f105 (bodyOf Tryd.f105) [.ce (.int .u64 x), .ce (.int .u64 y)] [] Q) =
    ((0 ≤ x ∧ x ≤ 18446744073709551615 ∧ (4294967295 : Int) ≤ (18446744073709551615 : Int)) ∧ ∀ (x1 : Int), x1 = x % (4294967296 : Int) → (0 : Int) ≤ (32 : Int) ∧ ∀ (x2 : Int), x2 = x / (4294967296 : Int) → (0 ≤ y ∧ y ≤ 18446744073709551615 ∧ (4294967295 : Int) ≤ (18446744073709551615 : Int)) ∧ ∀ (x3 : Int), x3 = y % (4294967296 : Int) → (0 : Int) ≤ (32 : Int) ∧ ∀ (x4 : Int), x4 = y / (4294967296 : Int) → ∀ (x5 : Int), x5 = x1 * x3 % (18446744073709551616 : Int) → ∀ (x6 : Int), x6 = x2 * x3 % (18446744073709551616 : Int) → (0 : Int) ≤ (32 : Int) ∧ ∀ (x7 : Int), x7 = x5 / (4294967296 : Int) → ∀ (x8 : Int), x8 = (x6 + x7) % (18446744073709551616 : Int) → (0 ≤ x8 ∧ x8 ≤ 18446744073709551615 ∧ (4294967295 : Int) ≤ (18446744073709551615 : Int)) ∧ ∀ (x9 : Int), x9 = x8 % (4294967296 : Int) → (0 : Int) ≤ (32 : Int) ∧ ∀ (x10 : Int), x10 = x8 / (4294967296 : Int) → ∀ (x11 : Int), x11 = x1 * x4 % (18446744073709551616 : Int) →
    ∀ (x12 : Int), x12 = (x9 + x11) % (18446744073709551616 : Int) → ∀ (x13 : Int), x13 = x2 * x4 % (18446744073709551616 : Int) → ∀ (x14 : Int), x14 = (x13 + x10) % (18446744073709551616 : Int) → (0 : Int) ≤ (32 : Int) ∧ ∀ (x15 : Int), x15 = x12 / (4294967296 : Int) → ∀ (x16 : Int), x16 = (x14 + x15) % (18446744073709551616 : Int) → ∀ (x17 : Int), x17 = x * y % (18446744073709551616 : Int) → Q ⟨.tup [.ce (.int .u64 x16), .ce (.int .u64 x17)], false, [], []⟩) := by kernel_rfl
def SDiv64 (hargs : List HV) (pars : List (List HC)) : SR :=
  match hargs, pars with
  | [.ce (.int .u64 h), .ce (.int .u64 x), .ce (.int .u64 y)], [] => .det (h = 0 ∧ 0 ≤ x ∧ x < 18446744073709551616 ∧ 0 < y ∧ y < 18446744073709551616) ⟨.tup [.ce (.int .u64 (x / y)), .ce (.int .u64 (x % y))], false, [], []⟩
  | _, _ => .fail
noncomputable def CDiv64 : Ctx := ⟨Tryd.prog, gam [], 135, [], []⟩
theorem vcDiv64 (h x y : Int) (Q : Res → Prop) : (nfun true CDiv64 Tryd.f85 (bodyOf Tryd.f85) [.ce (.int .u64 h), .ce (.int .u64 x), .ce (.int .u64 y)] [] Q) =
    (((y == 0) = true → False) ∧ ((y == 0) = false → (decide (y ≤ h) = true → False) ∧ (decide (y ≤ h) = false → ((h == 0) = true → y ≠ 0 ∧ ∀ (x1 : Int), x1 = Int.tdiv x y % (18446744073709551616 : Int) → y ≠ 0 ∧ ∀ (x2 : Int), x2 = Int.tmod x y → Q ⟨.tup [.ce (.int .u64 x1), .ce (.int .u64 x2)], false, [], []⟩) ∧ ((h == 0) = false → False)))) := by kernel_rfl
def SSize (hargs : List HV) (pars : List (List HC)) : SR :=
  match hargs, pars with
  | [.ce (.int .i64 x)], [] => .det (-9223372036854775808 ≤ x ∧ x ≤ 9223372036854775807) ⟨.ce (.int .u64 (x.natAbs : Int)), false, [], []⟩
  | _, _ => .fail
noncomputable def CSize : Ctx := ⟨Tryd.prog, gam [], 12, [], []⟩
theorem vcSize (x : Int) (Q : Res → Prop) : (nfun true CSize Tryd.f84 (bodyOf Tryd.f84) [.ce (.int .i64 x)] [] Q) =
    ((decide (x < 0) = true → (-9223372036854775808 ≤ x + 1 ∧ x + 1 ≤ 9223372036854775807) ∧ ∀ (x1 : Int), x1 = x + 1 → (-9223372036854775808 ≤ (0 : Int) - x1 ∧ (0 : Int) - x1 ≤ 9223372036854775807) ∧ ∀ (x2 : Int), x2 = 0 - x1 → ∀ (x3 : Int), x3 = x2 % (18446744073709551616 : Int) → ∀ (x4 : Int), x4 = (x3 + 1) % (18446744073709551616 : Int) → Q ⟨.ce (.int .u64 x4), false, [], []⟩) ∧ (decide (x < 0) = false → ∀ (x5 : Int), x5 = x % (18446744073709551616 : Int) → Q ⟨.ce (.int .u64 x5), false, [], []⟩)) := by kernel_rfl
def SProduct (hargs : List HV) (pars : List (List HC)) : SR :=
  match hargs, pars with
  | [.ce (.int .u64 x), .ce (.int .u64 y)], [] => .det (0 ≤ x ∧ x < 18446744073709551616 ∧ 0 ≤ y ∧ y < 18446744073709551616) ⟨.agg [.int .u64 (x * y / 18446744073709551616), .int .u64 (x * y % 18446744073709551616)], false, [], []⟩
  | _, _ => .fail
def tabProduct : List (FuncId × HL.Spec) := [(105, SMul64)]
noncomputable def CProduct : Ctx := ⟨Tryd.prog, gam tabProduct, 16, [], []⟩
theorem vcProduct (x y : Int) (Q : Res → Prop) : (nfun true CProduct Tryd.f83 (bodyOf Tryd.f83) [.ce (.int .u64 x), .ce (.int .u64 y)] [] Q) =
    ((0 ≤ x ∧ x < 18446744073709551616 ∧ 0 ≤ y ∧ y < 18446744073709551616) ∧ ∀ (x1 : Int), x1 = x * y / (18446744073709551616 : Int) → ∀ (x2 : Int), x2 = x * y % (18446744073709551616 : Int) → Q ⟨.agg [.int .u64 x1, .int .u64 x2], false, [], []⟩) := by kernel_rfl
def SKnown (hargs : List HV) (pars : List (List HC)) : SR :=
  match hargs, pars with
  | [.ce (.int .i64 x)], [] => .det True ⟨.ce (.bool (decide (0 ≤ x ∧ x ≤ 2))), false, [], []⟩
  | _, _ => .fail
noncomputable def CKnown : Ctx := ⟨Tryd.prog, gam [], 13, [], []⟩
theorem vcKnown (x : Int) (Q : Res → Prop) : (nfun true CKnown Tryd.f82 (bodyOf Tryd.f82) [.ce (.int .i64 x)] [] Q) =
    (((x == 0) = true → Q ⟨.ce (.bool true), false, [], []⟩) ∧ ((x == 0) = false → ((x == 1) = true → Q ⟨.ce (.bool true), false, [], []⟩) ∧ ((x == 1) = false → Q ⟨.ce (.bool (x == 2)), false, [], []⟩))) := by kernel_rfl
def SSign (hargs : List HV) (pars : List (List HC)) : SR :=
  match hargs, pars with
  | [.ce (.int .i64 x), .ce (.int .i64 y)], [] => .det True ⟨.ce (.int .i64 (x.sign * y.sign)), false, [], []⟩
  | _, _ => .fail
noncomputable def CSign : Ctx := ⟨Tryd.prog, gam [], 18, [], []⟩
theorem vcSign (x y : Int) (Q : Res → Prop) : (nfun true CSign Tryd.f86 (bodyOf Tryd.f86) [.ce (.int .i64 x), .ce (.int .i64 y)] [] Q) =
    (((x == 0) = true → Q ⟨.ce (.int .i64 0), false, [], []⟩) ∧ ((x == 0) = false → ((y == 0) = true → Q ⟨.ce (.int .i64 0), false, [], []⟩) ∧ ((y == 0) = false → ((decide (x < 0) == decide (y < 0)) = true → Q ⟨.ce (.int .i64 1), false, [], []⟩) ∧ ((decide (x < 0) == decide (y < 0)) = false → Q ⟨.ce (.int .i64 (-1)), false, [], []⟩)))) := by kernel_rfl
noncomputable def CGrows : Ctx := ⟨Tryd.prog, gam [], 33, [], []⟩
theorem vcGrows (m e : Int) (s n : Bool) (Q : Res → Prop) : (nfun true CGrows Tryd.f87 (bodyOf Tryd.f87) [.ce (.int .i64 m), .ce (.int .i64 e), .ce (.bool s), .ce (.bool n)] [] Q) =
    (((m == 0) = true → (s = true → Q ⟨.ce (.bool n), false, [], []⟩) ∧ (s = false → Q ⟨.ce (.bool false), false, [], []⟩)) ∧ ((m == 0) = false → ((m == 1) = true → (s = true → Q ⟨.ce (.bool !n), false, [], []⟩) ∧ (s = false → Q ⟨.ce (.bool false), false, [], []⟩)) ∧ ((m == 1) = false → (decide (e > 0) = true → Q ⟨.ce (.bool true), false, [], []⟩) ∧ (decide (e > 0) = false → ((e == 0) = true → Q ⟨.ce (.bool !n), false, [], []⟩) ∧ ((e == 0) = false → Q ⟨.ce (.bool false), false, [], []⟩))))) := by kernel_rfl
noncomputable def CSigned : Ctx := ⟨Tryd.prog, gam [], 24, [], []⟩
theorem vcSigned (n : Int) (neg : Bool) (Q : Res → Prop) : (nfun false CSigned Tryd.f88 (bodyOf Tryd.f88) [.ce (.int .u64 n), .ce (.bool neg)] [] Q) =
    ((neg = true → (decide (n ≤ 9223372036854775808) = true → ∀ (x1 : Int), x1 = IntKind.wrap .u64 ((0 : Int) - n) → ∀ (x2 : Int), x2 = IntKind.wrap .i64 x1 → Q ⟨.tup [.ce (.int .i64 x2), .ce (.bool true)], false, [], []⟩) ∧ (decide (n ≤ 9223372036854775808) = false → ((!neg) = true → (decide (n < 9223372036854775808) = true → ∀ (x3 : Int), x3 = IntKind.wrap .i64 n → Q ⟨.tup [.ce (.int .i64 x3), .ce (.bool true)], false, [], []⟩) ∧ (decide (n < 9223372036854775808) = false → Q ⟨.tup [.ce (.int .i64 0), .ce (.bool false)], false, [], []⟩)) ∧ ((!neg) = false → Q ⟨.tup [.ce (.int .i64 0), .ce (.bool false)], false, [], []⟩))) ∧ (neg = false → ((!neg) = true → (decide (n < 9223372036854775808) = true → ∀ (x4 : Int), x4 = IntKind.wrap .i64 n → Q ⟨.tup [.ce (.int .i64 x4), .ce (.bool true)], false, [], []⟩) ∧ (decide (n < 9223372036854775808) = false → Q ⟨.tup [.ce (.int .i64 0), .ce (.bool false)], false, [], []⟩)) ∧
    ((!neg) = false → Q ⟨.tup [.ce (.int .i64 0), .ce (.bool false)], false, [], []⟩))) := by kernel_rfl
end Go.Proofs.YtgnknciihdajiaaDoor
namespace Go.Proofs.YtgnknciihdajiaaDoor
open Go Go.HL U
theorem mul_bd {a b A B : Int} (ha : 0 ≤ a) (hA : a ≤ A) (hb : 0 ≤ b) (hB : b ≤ B) : 0 ≤ a * b ∧ a * b ≤ A * B :=
  ⟨Int.mul_nonneg ha hb, Int.le_trans (Int.mul_le_mul_of_nonneg_right hA hb) (Int.mul_le_mul_of_nonneg_left hB (Int.le_trans ha hA))⟩
set_option maxRecDepth 100000 in
theorem sMul64 : Sound Tryd.prog 105 SMul64 := by
  refine sound_of (C := CMul64) [] Tryd.func105 (by kernel_rfl) (by decide +kernel) (by kernel_rfl) rfl trivial (loops0 (by kernel_rfl)) ?_
  intro hargs pars R h
  unfold SMul64 at h
  split at h
  · rename_i x y
    obtain ⟨⟨h1, h2, h3, h4⟩, hq⟩ := h
    refine byVC (vcMul64 x y R) ?_
    refine ⟨by omega, fun x1 e1 => ⟨by omega, fun x2 e2 => ⟨by omega, fun x3 e3 => ⟨by omega, fun x4 e4 => ?_⟩⟩⟩⟩
    have b1 := mul_bd (a := x1) (b := x3) (A := 4294967295) (B := 4294967295) (by omega) (by omega) (by omega) (by omega)
    have b2 := mul_bd (a := x2) (b := x3) (A := 4294967295) (B := 4294967295) (by omega) (by omega) (by omega) (by omega)
    have b3 := mul_bd (a := x1) (b := x4) (A := 4294967295) (B := 4294967295) (by omega) (by omega) (by omega) (by omega)
    have b4 := mul_bd (a := x2) (b := x4) (A := 4294967295) (B := 4294967295) (by omega) (by omega) (by omega) (by omega)
    have hx : x = 4294967296 * x2 + x1 := by omega
    have hy : y = 4294967296 * x4 + x3 := by omega
    have e : x * y = 18446744073709551616 * (x2 * x4) + 4294967296 * (x1 * x4) + 4294967296 * (x2 * x3) + x1 * x3 := by
      rw [hx, hy]; grind
    rw [e] at hq
    rw [e]
    clear e hx hy
    generalize x1 * x3 = p at *
    generalize x2 * x3 = q at *
    generalize x1 * x4 = r at *
    generalize x2 * x4 = t at *
    intro x5 e5 x6 e6
    refine ⟨by omega, fun x7 e7 x8 e8 => ⟨by omega, fun x9 e9 => ⟨by omega, fun x10 e10 x11 e11 x12 e12 x13 e13 x14 e14 => ⟨by omega, fun x15 e15 x16 e16 x17 e17 => ?_⟩⟩⟩⟩
    rw [show x16 = (18446744073709551616 * t + 4294967296 * r + 4294967296 * q + p) / 18446744073709551616 by omega, e17]
    exact hq
  · exact h.elim
set_option maxRecDepth 100000 in
theorem sDiv64 : Sound Tryd.prog 85 SDiv64 := by
  refine sound_of (C := CDiv64) [] Tryd.func85 (by kernel_rfl) (by decide +kernel) (by kernel_rfl) rfl trivial (loops2 (by kernel_rfl) ?_ ?_) ?_
  · intro an S h; rw [show (firstReg (nthLoop Tryd.f85 0)).bind (findAnn CDiv64.loops) = none by kernel_rfl] at h; cases h
  · intro an S h; rw [show (firstReg (nthLoop Tryd.f85 1)).bind (findAnn CDiv64.loops) = none by kernel_rfl] at h; cases h
  intro hargs pars R h
  unfold SDiv64 at h
  split at h
  · rename_i hi x y
    obtain ⟨⟨h1, h2, h3, h4, h5⟩, hq⟩ := h
    subst h1
    refine byVC (vcDiv64 0 x y R) ?_
    refine ⟨fun e => ?_, fun _ => ⟨fun e => ?_, fun _ => ⟨fun _ => ⟨by omega, fun x1 e1 => ⟨by omega, fun x2 e2 => ?_⟩⟩, fun e => (nomatch e)⟩⟩⟩
    · have : y = 0 := by simpa using e
      omega
    · have := of_decide_eq_true e; omega
    · have hd : 0 ≤ x / y := Int.ediv_nonneg h2 (by omega)
      have hd2 : x / y ≤ x := Int.ediv_le_self _ h2
      rw [tdiv_pos h2] at e1
      rw [tmod_pos h2] at e2
      rw [e1, e2, Int.emod_eq_of_lt hd (by omega)]
      exact hq
  · exact h.elim
set_option maxRecDepth 100000 in
theorem sSize : Sound Tryd.prog 84 SSize := by
  refine sound_of (C := CSize) [] Tryd.func84 (by kernel_rfl) (by decide +kernel) (by kernel_rfl) rfl trivial (loops0 (by kernel_rfl)) ?_
  intro hargs pars R h
  unfold SSize at h
  split at h
  · rename_i x
    obtain ⟨⟨h1, h2⟩, hq⟩ := h
    refine byVC (vcSize x R) ⟨fun e => ?_, fun e => ?_⟩
    · have := of_decide_eq_true e
      refine ⟨by omega, fun x1 e1 => ⟨by omega, fun x2 e2 x3 e3 x4 e4 => ?_⟩⟩
      rw [show x4 = (x.natAbs : Int) by omega]
      exact hq
    · have := of_decide_eq_false e
      intro x5 e5
      rw [show x5 = (x.natAbs : Int) by omega]
      exact hq
  · exact h.elim
set_option maxRecDepth 100000 in
theorem sProduct : Sound Tryd.prog 83 SProduct := by
  refine sound_of (C := CProduct) tabProduct Tryd.func83 (by kernel_rfl) (by decide +kernel) (by kernel_rfl) rfl ⟨sMul64, trivial⟩ (loops0 (by kernel_rfl)) ?_
  intro hargs pars R h
  unfold SProduct at h
  split at h
  · exact byVC (vcProduct _ _ R) ⟨h.1, fun x1 e1 x2 e2 => by subst e1 e2; exact h.2⟩
  · exact h.elim
set_option maxRecDepth 100000 in
theorem sKnown : Sound Tryd.prog 82 SKnown := by
  refine sound_of (C := CKnown) [] Tryd.func82 (by kernel_rfl) (by decide +kernel) (by kernel_rfl) rfl trivial (loops0 (by kernel_rfl)) ?_
  intro hargs pars R h
  unfold SKnown at h
  split at h
  · rename_i x
    have hq := h.2
    refine byVC (vcKnown x R) ⟨fun e => ?_, fun e => ⟨fun e2 => ?_, fun e2 => ?_⟩⟩
    · have : x = 0 := by simpa using e
      subst this; exact hq
    · have : x = 1 := by simpa using e2
      subst this; exact hq
    · have h0 : x ≠ 0 := by simpa using e
      have h1 : x ≠ 1 := by simpa using e2
      have : (x == 2) = decide (0 ≤ x ∧ x ≤ 2) := by
        by_cases hx : x = 2
        · subst hx; rfl
        · rw [decide_eq_false (by omega)]; simpa using hx
      rw [this]; exact hq
  · exact h.elim
set_option maxRecDepth 100000 in
theorem sSign : Sound Tryd.prog 86 SSign := by
  refine sound_of (C := CSign) [] Tryd.func86 (by kernel_rfl) (by decide +kernel) (by kernel_rfl) rfl trivial (loops0 (by kernel_rfl)) ?_
  intro hargs pars R h
  unfold SSign at h
  split at h
  · rename_i x y
    have hq := h.2
    refine byVC (vcSign x y R) ⟨fun e => ?_, fun e => ⟨fun e2 => ?_, fun e2 => ⟨fun e3 => ?_, fun e3 => ?_⟩⟩⟩
    · have : x = 0 := by simpa using e
      subst this; simpa using hq
    · have : y = 0 := by simpa using e2
      subst this; simpa using hq
    · have h0 : x ≠ 0 := by simpa using e
      have h1 : y ≠ 0 := by simpa using e2
      have : x.sign * y.sign = 1 := by
        rcases Int.lt_or_gt_of_ne h0 with hx | hx <;> rcases Int.lt_or_gt_of_ne h1 with hy | hy
        · rw [Int.sign_eq_neg_one_of_neg hx, Int.sign_eq_neg_one_of_neg hy]; rfl
        · simp [hx, Int.not_lt.2 (Int.le_of_lt hy)] at e3
        · simp [hy, Int.not_lt.2 (Int.le_of_lt hx)] at e3
        · rw [Int.sign_eq_one_of_pos hx, Int.sign_eq_one_of_pos hy]; rfl
      rw [this] at hq; exact hq
    · have h0 : x ≠ 0 := by simpa using e
      have h1 : y ≠ 0 := by simpa using e2
      have : x.sign * y.sign = -1 := by
        rcases Int.lt_or_gt_of_ne h0 with hx | hx <;> rcases Int.lt_or_gt_of_ne h1 with hy | hy
        · simp [hx, hy] at e3
        · rw [Int.sign_eq_neg_one_of_neg hx, Int.sign_eq_one_of_pos hy]; rfl
        · rw [Int.sign_eq_one_of_pos hx, Int.sign_eq_neg_one_of_neg hy]; rfl
        · simp [Int.not_lt.2 (Int.le_of_lt hx), Int.not_lt.2 (Int.le_of_lt hy)] at e3
      rw [this] at hq; exact hq
  · exact h.elim
end Go.Proofs.YtgnknciihdajiaaDoor
namespace U
open Go
def grw (m e : Int) (s n : Bool) : Bool := if m = 0 then s && n else if m = 1 then s && !n else decide (e > 0) || (decide (e = 0) && !n)
def mdv (n c mode : Int) : Int := if mode = 0 then n / c else if mode = 1 then -((-n) / c) else (2 * n + c) / (2 * c)
end U
namespace Go.Proofs.YtgnknciihdajiaaDoor
open Go Go.HL U
def SGrows (hargs : List HV) (pars : List (List HC)) : SR :=
  match hargs, pars with
  | [.ce (.int .i64 m), .ce (.int .i64 e), .ce (.bool s), .ce (.bool n)], [] => .det True ⟨.ce (.bool (grw m e s n)), false, [], []⟩
  | _, _ => .fail
def SSigned (hargs : List HV) (pars : List (List HC)) : SR :=
  match hargs, pars with
  | [.ce (.int .u64 n), .ce (.bool neg)], [] => .det (0 ≤ n ∧ n ≤ 9223372036854775807) ⟨.tup [.ce (.int .i64 (if neg then -n else n)), .ce (.bool true)], false, [], []⟩
  | _, _ => .fail
def SMulDiv (hargs : List HV) (pars : List (List HC)) : SR :=
  match hargs, pars with
  | [.ce (.int .i64 a), .ce (.int .i64 b), .ce (.int .i64 c), .ce (.int .i64 m)], [] =>
    .det ((-9223372036854775808 ≤ a ∧ a ≤ 9223372036854775807) ∧ (-9223372036854775808 ≤ b ∧ b ≤ 9223372036854775807) ∧ (0 < c ∧ c ≤ 9223372036854775807) ∧ (-4611686018427387904 ≤ a * b ∧ a * b ≤ 4611686018427387904) ∧ (0 ≤ m ∧ m ≤ 2))
      ⟨.tup [.ce (.int .i64 (mdv (a * b) c m)), .ce (.bool true)], false, [], []⟩
  | _, _ => .fail
def tabMulDiv : List (FuncId × HL.Spec) := [(82, SKnown), (83, SProduct), (84, SSize), (85, SDiv64), (86, SSign), (87, SGrows), (88, SSigned)]
noncomputable def CMulDiv : Ctx := ⟨Tryd.prog, gam tabMulDiv, 83, [], []⟩
theorem vcMulDiv (a b c m : Int) (Q : Res → Prop) : (nfun true CMulDiv Tryd.f69 (bodyOf Tryd.f69) [.ce (.int .i64 a), .ce (.int .i64 b), .ce (.int .i64 c), .ce (.int .i64 m)] [] Q) =
    (((c == 0) = true → Q ⟨.tup [.ce (.int .i64 0), .ce (.bool false)], false, [], []⟩) ∧ ((c == 0) = false → True ∧ ∀ (x1 : Bool), x1 = decide (0 ≤ m ∧ m ≤ 2) → ((!x1) = true → Q ⟨.tup [.ce (.int .i64 0), .ce (.bool false)], false, [], []⟩) ∧ ((!x1) = false → (-9223372036854775808 ≤ a ∧ a ≤ 9223372036854775807) ∧ ∀ (x2 : Int), x2 = (((Int.natAbs a) : Nat) : Int) → (-9223372036854775808 ≤ b ∧ b ≤ 9223372036854775807) ∧ ∀ (x3 : Int), x3 = (((Int.natAbs b) : Nat) : Int) → (0 ≤ x2 ∧ x2 < 18446744073709551616 ∧ 0 ≤ x3 ∧ x3 < 18446744073709551616) ∧ ∀ (x4 : Int), x4 = x2 * x3 / (18446744073709551616 : Int) → ∀ (x5 : Int), x5 = x2 * x3 % (18446744073709551616 : Int) → (-9223372036854775808 ≤ c ∧ c ≤ 9223372036854775807) ∧ ∀ (x6 : Int), x6 = (((Int.natAbs c) : Nat) : Int) → (decide (x4 ≥ x6) = true → Q ⟨.tup [.ce (.int .i64 0), .ce (.bool false)], false, [], []⟩) ∧ (decide (x4 ≥ x6) = false → (x4 = 0 ∧
    0 ≤ x5 ∧ x5 < 18446744073709551616 ∧ 0 < x6 ∧ x6 < 18446744073709551616) ∧ ∀ (x7 : Int), x7 = x5 / x6 → ∀ (x8 : Int), x8 = x5 % x6 → True ∧ ∀ (x9 : Int), x9 = Int.sign a * Int.sign b → ((!decide (x9 < 0) == decide (c < 0)) = true → True ∧ ∀ (x10 : Int), x10 = Int.sign a * Int.sign b → ∀ (x11 : Int), x11 = (x6 - x8) % (18446744073709551616 : Int) → (decide (x8 > x11) = true → True ∧ ∀ (x12 : Bool), x12 = grw m (1 : Int) (decide (x8 > 0)) (x10 != 0) → (x12 = true → ∀ (x13 : Int), x13 = (x7 + 1) % (18446744073709551616 : Int) → ((x13 == 0) = true → Q ⟨.tup [.ce (.int .i64 0), .ce (.bool false)], false, [], []⟩) ∧ ((x13 == 0) = false → (0 ≤ x13 ∧ x13 ≤ 9223372036854775807) ∧ ∀ (x14 : Int), (x14 = if (x10 != 0) = true then -x13 else x13) → ∀ (x15 : Bool), x15 = true → Q ⟨.tup [.ce (.int .i64 x14), .ce (.bool x15)], false, [], []⟩)) ∧ (x12 = false → (0 ≤ x7 ∧ x7 ≤ 9223372036854775807) ∧ ∀ (x16 : Int), (x16 = if (x10 != 0) = true then -x7 else x7) →
    ∀ (x17 : Bool), x17 = true → Q ⟨.tup [.ce (.int .i64 x16), .ce (.bool x17)], false, [], []⟩)) ∧ (decide (x8 > x11) = false → ∀ (x18 : Int), x18 = (x6 - x8) % (18446744073709551616 : Int) → (decide (x8 < x18) = true → True ∧ ∀ (x19 : Bool), x19 = grw m (-1 : Int) (decide (x8 > 0)) (x10 != 0) → (x19 = true → ∀ (x20 : Int), x20 = (x7 + 1) % (18446744073709551616 : Int) → ((x20 == 0) = true → Q ⟨.tup [.ce (.int .i64 0), .ce (.bool false)], false, [], []⟩) ∧ ((x20 == 0) = false → (0 ≤ x20 ∧ x20 ≤ 9223372036854775807) ∧ ∀ (x21 : Int), (x21 = if (x10 != 0) = true then -x20 else x20) → ∀ (x22 : Bool), x22 = true → Q ⟨.tup [.ce (.int .i64 x21), .ce (.bool x22)], false, [], []⟩)) ∧ (x19 = false → (0 ≤ x7 ∧ x7 ≤ 9223372036854775807) ∧ ∀ (x23 : Int), (x23 = if (x10 != 0) = true then -x7 else x7) → ∀ (x24 : Bool), x24 = true → Q ⟨.tup [.ce (.int .i64 x23), .ce (.bool x24)], false, [], []⟩)) ∧ (decide (x8 < x18) = false →
    True ∧ ∀ (x25 : Bool), x25 = grw m (0 : Int) (decide (x8 > 0)) (x10 != 0) → (x25 = true → ∀ (x26 : Int), x26 = (x7 + 1) % (18446744073709551616 : Int) → ((x26 == 0) = true → Q ⟨.tup [.ce (.int .i64 0), .ce (.bool false)], false, [], []⟩) ∧ ((x26 == 0) = false → (0 ≤ x26 ∧ x26 ≤ 9223372036854775807) ∧ ∀ (x27 : Int), (x27 = if (x10 != 0) = true then -x26 else x26) → ∀ (x28 : Bool), x28 = true → Q ⟨.tup [.ce (.int .i64 x27), .ce (.bool x28)], false, [], []⟩)) ∧ (x25 = false → (0 ≤ x7 ∧ x7 ≤ 9223372036854775807) ∧ ∀ (x29 : Int), (x29 = if (x10 != 0) = true then -x7 else x7) → ∀ (x30 : Bool), x30 = true → Q ⟨.tup [.ce (.int .i64 x29), .ce (.bool x30)], false, [], []⟩)))) ∧ ((!decide (x9 < 0) == decide (c < 0)) = false → ∀ (x31 : Int), x31 = (x6 - x8) % (18446744073709551616 : Int) → (decide (x8 > x31) = true → True ∧ ∀ (x32 : Bool), x32 = grw m (1 : Int) (decide (x8 > 0)) false → (x32 = true →
    ∀ (x33 : Int), x33 = (x7 + 1) % (18446744073709551616 : Int) → ((x33 == 0) = true → Q ⟨.tup [.ce (.int .i64 0), .ce (.bool false)], false, [], []⟩) ∧ ((x33 == 0) = false → (0 ≤ x33 ∧ x33 ≤ 9223372036854775807) ∧ ∀ (x34 : Int), (x34 = if false = true then -x33 else x33) → ∀ (x35 : Bool), x35 = true → Q ⟨.tup [.ce (.int .i64 x34), .ce (.bool x35)], false, [], []⟩)) ∧ (x32 = false → (0 ≤ x7 ∧ x7 ≤ 9223372036854775807) ∧ ∀ (x36 : Int), (x36 = if false = true then -x7 else x7) → ∀ (x37 : Bool), x37 = true → Q ⟨.tup [.ce (.int .i64 x36), .ce (.bool x37)], false, [], []⟩)) ∧ (decide (x8 > x31) = false → ∀ (x38 : Int), x38 = (x6 - x8) % (18446744073709551616 : Int) → (decide (x8 < x38) = true → True ∧ ∀ (x39 : Bool), x39 = grw m (-1 : Int) (decide (x8 > 0)) false → (x39 = true → ∀ (x40 : Int), x40 = (x7 + 1) % (18446744073709551616 : Int) → ((x40 == 0) = true → Q ⟨.tup [.ce (.int .i64 0), .ce (.bool false)], false, [], []⟩) ∧
    ((x40 == 0) = false → (0 ≤ x40 ∧ x40 ≤ 9223372036854775807) ∧ ∀ (x41 : Int), (x41 = if false = true then -x40 else x40) → ∀ (x42 : Bool), x42 = true → Q ⟨.tup [.ce (.int .i64 x41), .ce (.bool x42)], false, [], []⟩)) ∧ (x39 = false → (0 ≤ x7 ∧ x7 ≤ 9223372036854775807) ∧ ∀ (x43 : Int), (x43 = if false = true then -x7 else x7) → ∀ (x44 : Bool), x44 = true → Q ⟨.tup [.ce (.int .i64 x43), .ce (.bool x44)], false, [], []⟩)) ∧ (decide (x8 < x38) = false → True ∧ ∀ (x45 : Bool), x45 = grw m (0 : Int) (decide (x8 > 0)) false → (x45 = true → ∀ (x46 : Int), x46 = (x7 + 1) % (18446744073709551616 : Int) → ((x46 == 0) = true → Q ⟨.tup [.ce (.int .i64 0), .ce (.bool false)], false, [], []⟩) ∧ ((x46 == 0) = false → (0 ≤ x46 ∧ x46 ≤ 9223372036854775807) ∧ ∀ (x47 : Int), (x47 = if false = true then -x46 else x46) → ∀ (x48 : Bool), x48 = true → Q ⟨.tup [.ce (.int .i64 x47), .ce (.bool x48)], false, [], []⟩)) ∧
    (x45 = false → (0 ≤ x7 ∧ x7 ≤ 9223372036854775807) ∧ ∀ (x49 : Int), (x49 = if false = true then -x7 else x7) → ∀ (x50 : Bool), x50 = true → Q ⟨.tup [.ce (.int .i64 x49), .ce (.bool x50)], false, [], []⟩)))))))) := by kernel_rfl
end Go.Proofs.YtgnknciihdajiaaDoor
namespace U
open Go
theorem ediv_of {x d k : Int} (hd : 0 < d) (h1 : d * k ≤ x) (h2 : x < d * k + d) : x / d = k := by
  have a1 : k ≤ x / d := Int.le_ediv_of_mul_le hd (by rw [Int.mul_comm]; exact h1)
  have a2 : x / d < k + 1 := Int.ediv_lt_of_lt_mul hd (by rw [Int.add_mul, Int.one_mul, Int.mul_comm]; exact h2)
  omega
theorem mdv_eq {n c m q r e : Int} {neg : Bool} (hc : 0 < c) (hm : 0 ≤ m ∧ m ≤ 2) (hr : 0 ≤ r ∧ r < c) (hn : (if neg then -n else n) = c * q + r) (h0 : neg = true → 0 < c * q + r)
    (he1 : 0 < e ↔ c < 2 * r) (he0 : e = 0 ↔ 2 * r = c) :
    mdv n c m = if neg then -(if grw m e (decide (r > 0)) neg then q + 1 else q) else (if grw m e (decide (r > 0)) neg then q + 1 else q) := by
  have hm' : m = 0 ∨ m = 1 ∨ m = 2 := by omega
  unfold mdv grw
  cases neg with
  | false =>
    simp only [Bool.false_eq_true, if_false] at hn
    subst hn
    have g : ∀ k, c * (q + k) = c * q + c * k := fun k => Int.mul_add c q k
    rcases hm' with rfl | rfl | rfl
    · simp
      exact ediv_of hc (by omega) (by omega)
    · simp
      by_cases h : 0 < r
      · simp [h]
        have := g 1
        rw [ediv_of (k := -(q + 1)) hc (by rw [Int.mul_neg]; omega) (by rw [Int.mul_neg]; omega)]; omega
      · simp [h]
        rw [ediv_of (k := -q) hc (by rw [Int.mul_neg]; omega) (by rw [Int.mul_neg]; omega)]; omega
    · simp
      by_cases h : c ≤ 2 * r
      · have : 0 < e ∨ e = 0 := by omega
        simp [this]
        have := g 1
        exact ediv_of (by omega) (by rw [Int.mul_assoc]; omega) (by rw [Int.mul_assoc]; omega)
      · have : ¬ (0 < e ∨ e = 0) := by omega
        simp [this]
        exact ediv_of (by omega) (by rw [Int.mul_assoc]; omega) (by rw [Int.mul_assoc]; omega)
  | true =>
    simp only [if_true] at hn
    obtain rfl : n = -(c * q + r) := by omega
    have g : ∀ k, c * (q + k) = c * q + c * k := fun k => Int.mul_add c q k
    rcases hm' with rfl | rfl | rfl
    · simp
      by_cases h : 0 < r
      · simp [h]
        have := g 1
        exact ediv_of hc (by rw [Int.mul_neg]; omega) (by rw [Int.mul_neg]; omega)
      · simp [h]
        exact ediv_of hc (by rw [Int.mul_neg]; omega) (by rw [Int.mul_neg]; omega)
    · simp
      rw [ediv_of (k := q) hc (by omega) (by omega)]
    · simp
      by_cases h : c < 2 * r
      · have : 0 < e := by omega
        simp [this]
        have := g 1
        exact ediv_of (by omega) (by rw [Int.mul_assoc]; simp only [Int.mul_neg]; omega) (by rw [Int.mul_assoc]; simp only [Int.mul_neg]; omega)
      · have : ¬ 0 < e := by omega
        simp [this]
        exact ediv_of (by omega) (by rw [Int.mul_assoc]; simp only [Int.mul_neg]; omega) (by rw [Int.mul_assoc]; simp only [Int.mul_neg]; omega)
end U
namespace Go.Proofs.YtgnknciihdajiaaDoor
open Go Go.HL U
set_option maxRecDepth 100000 in
theorem sGrows : Sound Tryd.prog 87 SGrows := by
  refine sound_of (C := CGrows) [] Tryd.func87 (by kernel_rfl) (by decide +kernel) (by kernel_rfl) rfl trivial (loops0 (by kernel_rfl)) ?_
  intro hargs pars R h
  unfold SGrows at h
  split at h
  · rename_i m e s n
    have hq := h.2
    unfold grw at hq
    refine byVC (vcGrows m e s n R) ⟨fun e1 => ?_, fun e1 => ⟨fun e2 => ?_, fun e2 => ⟨fun e3 => ?_, fun e3 => ⟨fun e4 => ?_, fun e4 => ?_⟩⟩⟩⟩
    · have : m = 0 := by simpa using e1
      subst this
      exact ⟨fun k => by subst k; simpa using hq, fun k => by subst k; simpa using hq⟩
    · have : m = 1 := by simpa using e2
      subst this
      exact ⟨fun k => by subst k; simpa using hq, fun k => by subst k; simpa using hq⟩
    · have h0 : m ≠ 0 := by simpa using e1
      have h1 : m ≠ 1 := by simpa using e2
      have h3 := of_decide_eq_true e3
      simpa [h0, h1, h3] using hq
    · have h0 : m ≠ 0 := by simpa using e1
      have h1 : m ≠ 1 := by simpa using e2
      have h4 : e = 0 := by simpa using e4
      subst h4
      simpa [h0, h1] using hq
    · have h0 : m ≠ 0 := by simpa using e1
      have h1 : m ≠ 1 := by simpa using e2
      have h3 := of_decide_eq_false e3
      have h4 : e ≠ 0 := by simpa using e4
      simpa [h0, h1, h3, h4] using hq
  · exact h.elim
set_option maxRecDepth 100000 in
theorem sSigned : Sound Tryd.prog 88 SSigned := by
  refine sound_of (C := CSigned) [] Tryd.func88 (by kernel_rfl) (by decide +kernel) (by kernel_rfl) rfl trivial (loops0 (by kernel_rfl)) ?_
  intro hargs pars R h
  unfold SSigned at h
  split at h
  · rename_i n neg
    obtain ⟨⟨h1, h2⟩, hq⟩ := h
    refine byVC (vcSigned n neg R) ⟨fun e => ?_, fun e => ?_⟩
    · subst e
      refine ⟨fun _ x1 e1 x2 e2 => ?_, fun e => absurd (of_decide_eq_false e) (by omega)⟩
      have : x2 = -n := by
        rw [e2, e1]
        simp [IntKind.wrap, IntKind.signed, IntKind.bits]
        split <;> omega
      rw [this]; exact hq
    · subst e
      refine ⟨fun _ => ⟨fun _ x1 e1 => ?_, fun e => absurd (of_decide_eq_false e) (by omega)⟩, fun e => (nomatch e)⟩
      have hw := U.wrap_small (x := n) (by omega) (by omega)
      rw [e1, hw]; exact hq
  · exact h.elim
set_option maxRecDepth 100000 in
theorem sMulDiv : Sound Tryd.prog 69 SMulDiv := by
  refine sound_of (C := CMulDiv) tabMulDiv Tryd.func69 (by kernel_rfl) (by decide +kernel) (by kernel_rfl) rfl ⟨sKnown, sProduct, sSize, sDiv64, sSign, sGrows, sSigned, trivial⟩ (loops0 (by kernel_rfl)) ?_
  intro hargs pars R h
  unfold SMulDiv at h
  split at h
  · rename_i a b c m
    obtain ⟨⟨ha, hb, hc, hab, hm⟩, hq⟩ := h
    have hprod : ((a.natAbs : Int)) * (b.natAbs : Int) = ((a * b).natAbs : Int) := by rw [Int.natAbs_mul]; rfl
    have hsg : a.sign * b.sign = (a * b).sign := (Int.sign_mul a b).symm
    refine byVC (vcMulDiv a b c m R) ?_
    generalize a * b = n at *
    refine ⟨fun e => absurd e (by simp; omega), fun _ => ⟨trivial, fun x1 e1 => ⟨fun e => absurd e (by rw [e1]; simp; omega), fun _ => ⟨ha, fun x2 e2 => ⟨hb, fun x3 e3 => ⟨by omega, ?_⟩⟩⟩⟩⟩⟩
    rw [e2, e3, hprod]
    intro x4 e4 x5 e5
    refine ⟨by omega, fun x6 e6 => ⟨fun e => absurd (of_decide_eq_true e) (by omega), fun _ => ⟨by omega, fun x7 e7 x8 e8 => ⟨trivial, fun x9 e9 => ?_⟩⟩⟩⟩
    have hx6 : x6 = c := by omega
    subst hx6
    have r0 := Int.emod_nonneg x5 (show x6 ≠ 0 by omega)
    have r1 := Int.emod_lt_of_pos x5 (show 0 < x6 by omega)
    have d1 := Int.mul_ediv_add_emod x5 x6
    have d2 : 0 ≤ x5 / x6 := Int.ediv_nonneg (by omega) (by omega)
    have d3 : x5 / x6 ≤ x5 := Int.ediv_le_self _ (by omega)
    rw [← e7] at d1 d2 d3
    rw [← e8] at d1 r0 r1
    rw [hsg] at e9
    have hc0 : decide (x6 < 0) = false := decide_eq_false (by omega)
    rw [hc0]
    have fin : ∀ (e : Int) (neg : Bool) (q v : Int) (w : Bool), (neg = true → n < 0) → (neg = false → 0 ≤ n) → (0 < e ↔ x6 < 2 * x8) → (e = 0 ↔ 2 * x8 = x6) → q = (if grw m e (decide (x8 > 0)) neg then x7 + 1 else x7) →
        v = (if neg = true then -q else q) → w = true → R ⟨.tup [.ce (.int .i64 v), .ce (.bool w)], false, [], []⟩ := by
      intro e neg q v w n1 n0 g1 g0 hqq hv hw
      subst hw
      have := mdv_eq (n := n) (c := x6) (m := m) (q := x7) (r := x8) (e := e) (neg := neg) (by omega) hm ⟨r0, r1⟩ (by
        cases neg with
        | false => have := n0 rfl; simp; omega
        | true => have := n1 rfl; simp; omega) (fun k => by have := n1 k; omega) g1 g0
      rw [hv, hqq]
      rw [this] at hq
      exact hq
    have leaf : ∀ (e : Int) (neg y : Bool), y = grw m e (decide (x8 > 0)) neg → (neg = true → n < 0) → (neg = false → 0 ≤ n) → (0 < e ↔ x6 < 2 * x8) → (e = 0 ↔ 2 * x8 = x6) →
        (y = true → ∀ q1 : Int, q1 = (x7 + 1) % 18446744073709551616 → ((q1 == 0) = true → R ⟨.tup [.ce (.int .i64 0), .ce (.bool false)], false, [], []⟩) ∧
          ((q1 == 0) = false → (0 ≤ q1 ∧ q1 ≤ 9223372036854775807) ∧ ∀ v : Int, v = (if neg = true then -q1 else q1) → ∀ w : Bool, w = true → R ⟨.tup [.ce (.int .i64 v), .ce (.bool w)], false, [], []⟩)) ∧
        (y = false → (0 ≤ x7 ∧ x7 ≤ 9223372036854775807) ∧ ∀ v : Int, v = (if neg = true then -x7 else x7) → ∀ w : Bool, w = true → R ⟨.tup [.ce (.int .i64 v), .ce (.bool w)], false, [], []⟩) := by
      intro e neg y hy n1 n0 g1 g0
      refine ⟨fun u q1 eq1 => ?_, fun u => ⟨by omega, fun v hv w hw => fin e neg x7 v w n1 n0 g1 g0 (by rw [← hy, u]; rfl) hv hw⟩⟩
      have hq1 : q1 = x7 + 1 := by omega
      exact ⟨fun z => absurd z (by simp; omega), fun _ => ⟨by omega, fun v hv w hw => fin e neg q1 v w n1 n0 g1 g0 (by rw [← hy, u, hq1]; rfl) hv hw⟩⟩
    clear fin hq d1 e7 hprod
    refine ⟨fun en => ⟨trivial, fun x10 e10 => ?_⟩, fun en => ?_⟩
    · rw [hsg] at e10
      have hn : n < 0 := by
        rcases Int.lt_trichotomy n 0 with h | h | h
        · exact h
        · subst h; simp [e9] at en
        · rw [Int.sign_eq_one_of_pos h] at e9; subst e9; simp at en
      rw [Int.sign_eq_neg_one_of_neg hn] at e10
      subst e10
      intro x11 e11
      have s1 : x11 = x6 - x8 := by omega
      refine ⟨fun k => ⟨trivial, ?_⟩, fun k x18 e18 => ⟨fun k2 => ⟨trivial, ?_⟩, fun k2 => ⟨trivial, ?_⟩⟩⟩
      · have k := of_decide_eq_true k
        exact fun y ey => leaf 1 true y ey (fun _ => hn) (fun z => nomatch z) (by omega) (by omega)
      · have k := of_decide_eq_false k
        have k2 := of_decide_eq_true k2
        exact fun y ey => leaf (-1) true y ey (fun _ => hn) (fun z => nomatch z) (by omega) (by omega)
      · have k := of_decide_eq_false k
        have k2 := of_decide_eq_false k2
        exact fun y ey => leaf 0 true y ey (fun _ => hn) (fun z => nomatch z) (by omega) (by omega)
    · have hn : 0 ≤ n := by
        rcases Int.lt_trichotomy n 0 with h | h | h
        · rw [Int.sign_eq_neg_one_of_neg h] at e9; subst e9; simp at en
        · omega
        · omega
      intro x31 e31
      have s1 : x31 = x6 - x8 := by omega
      refine ⟨fun k => ⟨trivial, ?_⟩, fun k x38 e38 => ⟨fun k2 => ⟨trivial, ?_⟩, fun k2 => ⟨trivial, ?_⟩⟩⟩
      · have k := of_decide_eq_true k
        exact fun y ey => leaf 1 false y ey (fun z => nomatch z) (fun _ => hn) (by omega) (by omega)
      · have k := of_decide_eq_false k
        have k2 := of_decide_eq_true k2
        exact fun y ey => leaf (-1) false y ey (fun z => nomatch z) (fun _ => hn) (by omega) (by omega)
      · have k := of_decide_eq_false k
        have k2 := of_decide_eq_false k2
        exact fun y ey => leaf 0 false y ey (fun z => nomatch z) (fun _ => hn) (by omega) (by omega)
  · exact h.elim
end Go.Proofs.YtgnknciihdajiaaDoor
namespace U
open Go Go.HL
def vl (n : Int) : Bool := decide (n ≥ -1000000000000000) && decide (n ≤ 1000000000000000)
def lt (r : List Int) : Int := r.getD 0 0
def nm (r : List Int) : Int := r.getD 1 0
def fnd (c : Int) : List (List Int) → Option Int
  | [] => none
  | r :: l => if lt r = c then some (nm r) else fnd c l
def fndN (c : Int) (l : List (List Int)) : Int := match fnd c l with | some x => x | none => 0
def fndB (c : Int) (l : List (List Int)) : Bool := match fnd c l with | some _ => true | none => false
structure M where
  m0 : Int
  m1 : Int
  m2 : Int
  m3 : Int
  m4 : Int
  m5 : Int
  m6 : Int
  m7 : Int
  m8 : Int
  m9 : Int
  m10 : Int
  m11 : Int
  m12 : Int
  m13 : Bool
  m14 : Bool
  m15 : Int
  m16 : Int
  m17 : Int
  m18 : Int
  m19 : Int
  m20 : Int
  m21 : Int
def cM (m : M) : List HC := [.int .i64 m.m0, .int .i64 m.m1, .int .i64 m.m2, .int .i64 m.m3, .int .i64 m.m4, .int .i64 m.m5, .int .i64 m.m6, .int .i64 m.m7, .int .i64 m.m8, .int .i64 m.m9, .int .i64 m.m10, .int .i64 m.m11, .int .i64 m.m12, .bool m.m13, .bool m.m14, .int .i64 m.m15, .int .i64 m.m16, .int .i64 m.m17, .int .i64 m.m18, .int .i64 m.m19, .int .i64 m.m20, .int .i64 m.m21]
def lnV (n u : Int) : Int := if u = 20 then mdv (n * 254) 10000 2 else mdv (n * 1) 1000 2
def okU (n u : Int) : Bool := vl n && (u == 20 || u == 21)
def lnE (n u : Int) : Int := if okU n u then (if lnV n u < -1048576 ∨ lnV n u > 1048576 then 3 else 0) else 1
def lnN (n u : Int) : Int := if lnE n u = 0 then lnV n u else 0
def adv (l : List (List Int)) (p : Int) : Int := if p < (l.length : Int) then p + 1 else p
def inSrc (l : List (List Int)) (p : Int) : Prop := 0 ≤ p ∧ l.length ≤ 9223372036854775807
def drew (l : List (List Int)) (p m : Int) (x : Int × Int) : Prop := 0 ≤ x.1 ∧ x.1 < m ∧ x.2 = adv l p
theorem inSrc_adv {l : List (List Int)} {p : Int} (h : inSrc l p) : inSrc l (adv l p) := ⟨by have := h.1; unfold adv; split <;> omega, h.2⟩
theorem drew_src {l : List (List Int)} {p m : Int} {x : Int × Int} (h : inSrc l p) (hd : drew l p m x) : inSrc l x.2 := by rw [hd.2.2]; exact inSrc_adv h
theorem drew_ex (l : List (List Int)) (p : Int) {m : Int} (h : 0 < m) : ∃ x, drew l p m x := ⟨(0, adv l p), Int.le_refl _, h, rfl⟩
def sml (c : List (List Int)) : Bool := c.all fun r => decide (0 ≤ r.getD 0 0) && decide (r.getD 0 0 ≤ 99)
end U
namespace Go.Proofs.YtgnknciihdajiaaDoor
open Go Go.HL U
def SVl (hargs : List HV) (pars : List (List HC)) : SR :=
  match hargs, pars with
  | [.ce (.int .i64 n)], [] => .det True ⟨.ce (.bool (vl n)), false, [], []⟩
  | _, _ => .fail
noncomputable def CVl : Ctx := ⟨Tryd.prog, gam [], Tryd.f68.ntmps, [], []⟩
theorem vcVl (n : Int) (Q : Res → Prop) : (nfun true CVl Tryd.f68 (bodyOf Tryd.f68) [.ce (.int .i64 n)] [] Q) =
    ((decide (n ≥ (-1000000000000000 : Int)) = true → Q ⟨.ce (.bool (decide (n ≤ 1000000000000000))), false, [], []⟩) ∧ (decide (n ≥ (-1000000000000000 : Int)) = false → Q ⟨.ce (.bool false), false, [], []⟩)) := by kernel_rfl
theorem vcVl2 (n : Int) (Q : Res → Prop) : (nfun true CVl Tryd.f73 (bodyOf Tryd.f73) [.ce (.int .i64 n)] [] Q) =
    ((decide (n ≥ (-1000000000000000 : Int)) = true → Q ⟨.ce (.bool (decide (n ≤ 1000000000000000))), false, [], []⟩) ∧ (decide (n ≥ (-1000000000000000 : Int)) = false → Q ⟨.ce (.bool false), false, [], []⟩)) := by kernel_rfl
def SFind (hargs : List HV) (pars : List (List HC)) : SR :=
  match hargs, pars with
  | [.ce (.sl false [4, 4] l), .ce (.int .i64 c)], [] => .det (l.length ≤ 1000) ⟨.tup [.ce (.int .i64 (fndN c l)), .ce (.bool (fndB c l))], false, [], []⟩
  | _, _ => .fail
def anFind : LAnn := ⟨[1, 4, 5, 8, 9, 10], [4, 5], [], false⟩
def LFind (v : LV) : LR :=
  match v with
  | ([.ce (.int .i64 c), .ce (.int .i64 r), .ce (.bool s), .ce (.sl false [4, 4] l), .ce (.int .i64 len), .ce (.int .i64 k)], []) =>
    .alts (k = 0 ∧ len = (l.length : Int) ∧ l.length ≤ 1000) [(fndB c l = false, .exit 0, ([.ce (.int .i64 r), .ce (.bool s)], [])), (fndB c l = true, .ret, ([.ce (.int .i64 (fndN c l)), .ce (.bool true)], []))]
  | _ => .fail
noncomputable def CFind : Ctx := ⟨Tryd.prog, gam [], Tryd.f45.ntmps, [(2, anFind, LFind)], []⟩
theorem vcFind (l : List (List Int)) (c : Int) (Q : Res → Prop) : (nfun true CFind Tryd.f45 (bodyOf Tryd.f45) [.ce (.sl false [4, 4] l), .ce (.int .i64 c)] [] Q) =
    (((0 : Int) = (0 : Int) ∧ (List.length l : Int) = (List.length l : Int) ∧ List.length l ≤ (1000 : Nat)) ∧ (fndB c l = false → Q ⟨.tup [.ce (.int .i64 0), .ce (.bool false)], false, [], []⟩) ∧ (fndB c l = true → Q ⟨.tup [.ce (.int .i64 (fndN c l)), .ce (.bool true)], false, [], []⟩)) := by kernel_rfl
theorem vbFind (c r len k : Int) (s : Bool) (l : List (List Int)) (K : HEx → LV → Prop) : (nbodyT true CFind anFind (nthLoop Tryd.f45 0) (([.ce (.int .i64 c), .ce (.int .i64 r), .ce (.bool s), .ce (.sl false [4, 4] l), .ce (.int .i64 len), .ce (.int .i64 k)], [])) K) =
    ((decide (k < len) = true → (0 ≤ k ∧ k < (List.length l : Int)) ∧ ((el l k.toNat == c) = true → K .ret ([.ce (.int .i64 (ec l k.toNat 1)), .ce (.bool true)], [])) ∧ ((el l k.toNat == c) = false → (-9223372036854775808 ≤ k + 1 ∧ k + 1 ≤ 9223372036854775807) ∧ ∀ (x1 : Int), x1 = k + 1 → K .normal ([.ce (.int .i64 c), .ce (.int .i64 r), .ce (.bool s), .ce (.sl false [4, 4] l), .ce (.int .i64 len), .ce (.int .i64 x1)], []))) ∧ (decide (k < len) = false → K (.exit 0) ([.ce (.int .i64 r), .ce (.bool s)], []))) := by kernel_rfl
def anFind2 : LAnn := ⟨[0, 1, 4, 5, 6], [4, 5], [], false⟩
def LFind2 (v : LV) : LR :=
  match v with
  | ([.ce (.sl false [4, 4] l), .ce (.int .i64 c), .ce (.int .i64 r), .ce (.bool s), .ce (.int .i64 k)], []) =>
    .alts (k = 0 ∧ l.length ≤ 1000) [(fndB c l = false, .exit 0, ([.ce (.int .i64 r), .ce (.bool s)], [])), (fndB c l = true, .ret, ([.ce (.int .i64 (fndN c l)), .ce (.bool true)], []))]
  | _ => .fail
noncomputable def CFind2 : Ctx := ⟨Tryd.prog, gam [], Tryd.f51.ntmps, [(2, anFind2, LFind2)], []⟩
theorem vcFind2 (l : List (List Int)) (c : Int) (Q : Res → Prop) : (nfun true CFind2 Tryd.f51 (bodyOf Tryd.f51) [.ce (.sl false [4, 4] l), .ce (.int .i64 c)] [] Q) =
    (((0 : Int) = (0 : Int) ∧ List.length l ≤ (1000 : Nat)) ∧ (fndB c l = false → Q ⟨.tup [.ce (.int .i64 0), .ce (.bool false)], false, [], []⟩) ∧ (fndB c l = true → Q ⟨.tup [.ce (.int .i64 (fndN c l)), .ce (.bool true)], false, [], []⟩)) := by kernel_rfl
theorem vbFind2 (c r k : Int) (s : Bool) (l : List (List Int)) (K : HEx → LV → Prop) : (nbodyT true CFind2 anFind2 (nthLoop Tryd.f51 0) (([.ce (.sl false [4, 4] l), .ce (.int .i64 c), .ce (.int .i64 r), .ce (.bool s), .ce (.int .i64 k)], [])) K) =
    ((decide (k < (List.length l : Int)) = true → (0 ≤ k ∧ k < (List.length l : Int)) ∧ ∀ (x1 : Int), x1 = el l k.toNat → ((x1 == c) = true → (0 ≤ k ∧ k < (List.length l : Int)) ∧ ∀ (x2 : Int), x2 = ec l k.toNat 1 → K .ret ([.ce (.int .i64 x2), .ce (.bool true)], [])) ∧ ((x1 == c) = false → (-9223372036854775808 ≤ k + 1 ∧ k + 1 ≤ 9223372036854775807) ∧ ∀ (x3 : Int), x3 = k + 1 → K .normal ([.ce (.sl false [4, 4] l), .ce (.int .i64 c), .ce (.int .i64 r), .ce (.bool s), .ce (.int .i64 x3)], []))) ∧ (decide (k < (List.length l : Int)) = false → K (.exit 0) ([.ce (.int .i64 r), .ce (.bool s)], []))) := by kernel_rfl
def tabLen : List (FuncId × HL.Spec) := [(68, SVl), (69, SMulDiv)]
def tabLen2 : List (FuncId × HL.Spec) := [(73, SVl), (74, SRMulDiv)]
def SLen (hargs : List HV) (pars : List (List HC)) : SR :=
  match hargs, pars with
  | [.ce (.int .i64 n), .ce (.int .i64 u)], [] => .det True ⟨.tup [.ce (.int .i64 (lnN n u)), .ce (.int .i64 (lnE n u))], false, [], []⟩
  | _, _ => .fail
noncomputable def CLen : Ctx := ⟨Tryd.prog, gam tabLen, Tryd.f48.ntmps, [], []⟩
theorem vcLen (n u : Int) (Q : Res → Prop) : (nfun true CLen Tryd.f48 (bodyOf Tryd.f48) [.ce (.int .i64 n), .ce (.int .i64 u)] [] Q) =
    (True ∧ ∀ (x1 : Bool), x1 = vl n → ((!x1) = true → Q ⟨.tup [.ce (.int .i64 0), .ce (.int .i64 1)], false, [], []⟩) ∧ ((!x1) = false → ((u != 20) = true → ((u != 21) = true → Q ⟨.tup [.ce (.int .i64 0), .ce (.int .i64 1)], false, [], []⟩) ∧ ((u != 21) = false → ((-9223372036854775808 ≤ n ∧ n ≤ 9223372036854775807) ∧ (-9223372036854775808 ≤ (1 : Int) ∧ (1 : Int) ≤ 9223372036854775807) ∧ ((0 : Int) < (1000 : Int) ∧ (1000 : Int) ≤ 9223372036854775807) ∧ ((-4611686018427387904 : Int) ≤ n * 1 ∧ n * 1 ≤ (4611686018427387904 : Int)) ∧ (0 : Int) ≤ (2 : Int) ∧ (2 : Int) ≤ (2 : Int)) ∧ ∀ (x2 : Int), x2 = mdv (n * 1) (1000 : Int) (2 : Int) → ∀ (x3 : Bool), x3 = true → ((u == 20) = true → ((-9223372036854775808 ≤ n ∧ n ≤ 9223372036854775807) ∧ (-9223372036854775808 ≤ (254 : Int) ∧ (254 : Int) ≤ 9223372036854775807) ∧ ((0 : Int) < (10000 : Int) ∧ (10000 : Int) ≤ 9223372036854775807) ∧ ((-4611686018427387904 : Int) ≤ n * 254 ∧
    n * 254 ≤ (4611686018427387904 : Int)) ∧ (0 : Int) ≤ (2 : Int) ∧ (2 : Int) ≤ (2 : Int)) ∧ ∀ (x4 : Int), x4 = mdv (n * 254) (10000 : Int) (2 : Int) → ∀ (x5 : Bool), x5 = true → ((!x5) = true → Q ⟨.tup [.ce (.int .i64 0), .ce (.int .i64 3)], false, [], []⟩) ∧ ((!x5) = false → (decide (x4 < (-1048576 : Int)) = true → Q ⟨.tup [.ce (.int .i64 0), .ce (.int .i64 3)], false, [], []⟩) ∧ (decide (x4 < (-1048576 : Int)) = false → (decide (x4 > 1048576) = true → Q ⟨.tup [.ce (.int .i64 0), .ce (.int .i64 3)], false, [], []⟩) ∧ (decide (x4 > 1048576) = false → Q ⟨.tup [.ce (.int .i64 x4), .ce (.int .i64 0)], false, [], []⟩)))) ∧ ((u == 20) = false → ((!x3) = true → Q ⟨.tup [.ce (.int .i64 0), .ce (.int .i64 3)], false, [], []⟩) ∧ ((!x3) = false → (decide (x2 < (-1048576 : Int)) = true → Q ⟨.tup [.ce (.int .i64 0), .ce (.int .i64 3)], false, [], []⟩) ∧ (decide (x2 < (-1048576 : Int)) = false → (decide (x2 > 1048576) = true →
    Q ⟨.tup [.ce (.int .i64 0), .ce (.int .i64 3)], false, [], []⟩) ∧ (decide (x2 > 1048576) = false → Q ⟨.tup [.ce (.int .i64 x2), .ce (.int .i64 0)], false, [], []⟩)))))) ∧ ((u != 20) = false → ((-9223372036854775808 ≤ n ∧ n ≤ 9223372036854775807) ∧ (-9223372036854775808 ≤ (1 : Int) ∧ (1 : Int) ≤ 9223372036854775807) ∧ ((0 : Int) < (1000 : Int) ∧ (1000 : Int) ≤ 9223372036854775807) ∧ ((-4611686018427387904 : Int) ≤ n * 1 ∧ n * 1 ≤ (4611686018427387904 : Int)) ∧ (0 : Int) ≤ (2 : Int) ∧ (2 : Int) ≤ (2 : Int)) ∧ ∀ (x6 : Int), x6 = mdv (n * 1) (1000 : Int) (2 : Int) → ∀ (x7 : Bool), x7 = true → ((u == 20) = true → ((-9223372036854775808 ≤ n ∧ n ≤ 9223372036854775807) ∧ (-9223372036854775808 ≤ (254 : Int) ∧ (254 : Int) ≤ 9223372036854775807) ∧ ((0 : Int) < (10000 : Int) ∧ (10000 : Int) ≤ 9223372036854775807) ∧ ((-4611686018427387904 : Int) ≤ n * 254 ∧ n * 254 ≤ (4611686018427387904 : Int)) ∧ (0 : Int) ≤ (2 : Int) ∧
    (2 : Int) ≤ (2 : Int)) ∧ ∀ (x8 : Int), x8 = mdv (n * 254) (10000 : Int) (2 : Int) → ∀ (x9 : Bool), x9 = true → ((!x9) = true → Q ⟨.tup [.ce (.int .i64 0), .ce (.int .i64 3)], false, [], []⟩) ∧ ((!x9) = false → (decide (x8 < (-1048576 : Int)) = true → Q ⟨.tup [.ce (.int .i64 0), .ce (.int .i64 3)], false, [], []⟩) ∧ (decide (x8 < (-1048576 : Int)) = false → (decide (x8 > 1048576) = true → Q ⟨.tup [.ce (.int .i64 0), .ce (.int .i64 3)], false, [], []⟩) ∧ (decide (x8 > 1048576) = false → Q ⟨.tup [.ce (.int .i64 x8), .ce (.int .i64 0)], false, [], []⟩)))) ∧ ((u == 20) = false → ((!x7) = true → Q ⟨.tup [.ce (.int .i64 0), .ce (.int .i64 3)], false, [], []⟩) ∧ ((!x7) = false → (decide (x6 < (-1048576 : Int)) = true → Q ⟨.tup [.ce (.int .i64 0), .ce (.int .i64 3)], false, [], []⟩) ∧ (decide (x6 < (-1048576 : Int)) = false → (decide (x6 > 1048576) = true → Q ⟨.tup [.ce (.int .i64 0), .ce (.int .i64 3)], false, [], []⟩) ∧
    (decide (x6 > 1048576) = false → Q ⟨.tup [.ce (.int .i64 x6), .ce (.int .i64 0)], false, [], []⟩))))))) := by kernel_rfl
noncomputable def CLen2 : Ctx := ⟨Tryd.prog, gam tabLen2, Tryd.f52.ntmps, [], []⟩
theorem vcLen2 (n u : Int) (Q : Res → Prop) : (nfun true CLen2 Tryd.f52 (bodyOf Tryd.f52) [.ce (.int .i64 n), .ce (.int .i64 u)] [] Q) =
    (True ∧ ∀ (x1 : Bool), x1 = vl n → ((!x1) = true → Q ⟨.tup [.ce (.int .i64 0), .ce (.int .i64 1)], false, [], []⟩) ∧ ((!x1) = false → ((u != 20) = true → ((u != 21) = true → Q ⟨.tup [.ce (.int .i64 0), .ce (.int .i64 1)], false, [], []⟩) ∧ ((u != 21) = false → ((-9223372036854775808 ≤ n ∧ n ≤ 9223372036854775807) ∧ (-9223372036854775808 ≤ (1 : Int) ∧ (1 : Int) ≤ 9223372036854775807) ∧ -9223372036854775808 ≤ (1000 : Int) ∧ (1000 : Int) ≤ 9223372036854775807) ∧ ∀ (x2 : Int), x2 = (rmd n (1 : Int) (1000 : Int) (2 : Int)).1 → ∀ (x3 : Bool), x3 = (rmd n (1 : Int) (1000 : Int) (2 : Int)).2 → ((u == 20) = true → ((-9223372036854775808 ≤ n ∧ n ≤ 9223372036854775807) ∧ (-9223372036854775808 ≤ (254 : Int) ∧ (254 : Int) ≤ 9223372036854775807) ∧ -9223372036854775808 ≤ (10000 : Int) ∧ (10000 : Int) ≤ 9223372036854775807) ∧ ∀ (x4 : Int), x4 = (rmd n (254 : Int) (10000 : Int) (2 : Int)).1 → ∀ (x5 : Bool), x5 = (rmd n (254 : Int) (10000 : Int) (2 : Int)).2 →
    ((!x5) = true → Q ⟨.tup [.ce (.int .i64 0), .ce (.int .i64 3)], false, [], []⟩) ∧ ((!x5) = false → (decide (x4 > 1048576) = true → Q ⟨.tup [.ce (.int .i64 0), .ce (.int .i64 3)], false, [], []⟩) ∧ (decide (x4 > 1048576) = false → (decide (x4 < (-1048576 : Int)) = true → Q ⟨.tup [.ce (.int .i64 0), .ce (.int .i64 3)], false, [], []⟩) ∧ (decide (x4 < (-1048576 : Int)) = false → Q ⟨.tup [.ce (.int .i64 x4), .ce (.int .i64 0)], false, [], []⟩)))) ∧ ((u == 20) = false → ((!x3) = true → Q ⟨.tup [.ce (.int .i64 0), .ce (.int .i64 3)], false, [], []⟩) ∧ ((!x3) = false → (decide (x2 > 1048576) = true → Q ⟨.tup [.ce (.int .i64 0), .ce (.int .i64 3)], false, [], []⟩) ∧ (decide (x2 > 1048576) = false → (decide (x2 < (-1048576 : Int)) = true → Q ⟨.tup [.ce (.int .i64 0), .ce (.int .i64 3)], false, [], []⟩) ∧ (decide (x2 < (-1048576 : Int)) = false → Q ⟨.tup [.ce (.int .i64 x2), .ce (.int .i64 0)], false, [], []⟩)))))) ∧
    ((u != 20) = false → ((-9223372036854775808 ≤ n ∧ n ≤ 9223372036854775807) ∧ (-9223372036854775808 ≤ (1 : Int) ∧ (1 : Int) ≤ 9223372036854775807) ∧ -9223372036854775808 ≤ (1000 : Int) ∧ (1000 : Int) ≤ 9223372036854775807) ∧ ∀ (x6 : Int), x6 = (rmd n (1 : Int) (1000 : Int) (2 : Int)).1 → ∀ (x7 : Bool), x7 = (rmd n (1 : Int) (1000 : Int) (2 : Int)).2 → ((u == 20) = true → ((-9223372036854775808 ≤ n ∧ n ≤ 9223372036854775807) ∧ (-9223372036854775808 ≤ (254 : Int) ∧ (254 : Int) ≤ 9223372036854775807) ∧ -9223372036854775808 ≤ (10000 : Int) ∧ (10000 : Int) ≤ 9223372036854775807) ∧ ∀ (x8 : Int), x8 = (rmd n (254 : Int) (10000 : Int) (2 : Int)).1 → ∀ (x9 : Bool), x9 = (rmd n (254 : Int) (10000 : Int) (2 : Int)).2 → ((!x9) = true → Q ⟨.tup [.ce (.int .i64 0), .ce (.int .i64 3)], false, [], []⟩) ∧ ((!x9) = false → (decide (x8 > 1048576) = true → Q ⟨.tup [.ce (.int .i64 0), .ce (.int .i64 3)], false, [], []⟩) ∧
    (decide (x8 > 1048576) = false → (decide (x8 < (-1048576 : Int)) = true → Q ⟨.tup [.ce (.int .i64 0), .ce (.int .i64 3)], false, [], []⟩) ∧ (decide (x8 < (-1048576 : Int)) = false → Q ⟨.tup [.ce (.int .i64 x8), .ce (.int .i64 0)], false, [], []⟩)))) ∧ ((u == 20) = false → ((!x7) = true → Q ⟨.tup [.ce (.int .i64 0), .ce (.int .i64 3)], false, [], []⟩) ∧ ((!x7) = false → (decide (x6 > 1048576) = true → Q ⟨.tup [.ce (.int .i64 0), .ce (.int .i64 3)], false, [], []⟩) ∧ (decide (x6 > 1048576) = false → (decide (x6 < (-1048576 : Int)) = true → Q ⟨.tup [.ce (.int .i64 0), .ce (.int .i64 3)], false, [], []⟩) ∧ (decide (x6 < (-1048576 : Int)) = false → Q ⟨.tup [.ce (.int .i64 x6), .ce (.int .i64 0)], false, [], []⟩))))))) := by kernel_rfl
def SLight (hargs : List HV) (pars : List (List HC)) : SR :=
  match hargs, pars with
  | [.ce (.sl false [4] l)], [] => .det True ⟨.ce (.bool (decide ((l.length : Int) ≤ 120))), false, [], []⟩
  | _, _ => .fail
noncomputable def CLight : Ctx := ⟨Tryd.prog, gam [], Tryd.f11.ntmps, [], []⟩
theorem vcLight (l : List (List Int)) (Q : Res → Prop) : (nfun true CLight Tryd.f11 (bodyOf Tryd.f11) [.ce (.sl false [4] l)] [] Q) =
    (Q ⟨.ce (.bool (decide ((List.length l : Int) ≤ (120 : Int)))), false, [], []⟩) := by kernel_rfl
def SMod (hargs : List HV) (pars : List (List HC)) : SR :=
  match hargs, pars with
  | [.ce (.int .i64 v), .ce (.int .i64 n)], [] => .det (0 < n ∧ n ≤ 4611686018427387904) ⟨.ce (.int .i64 (v % n)), false, [], []⟩
  | _, _ => .fail
noncomputable def CMod : Ctx := ⟨Tryd.prog, gam [], Tryd.f28.ntmps, [], []⟩
theorem vcMod (v n : Int) (Q : Res → Prop) : (nfun true CMod Tryd.f28 (bodyOf Tryd.f28) [.ce (.int .i64 v), .ce (.int .i64 n)] [] Q) =
    (n ≠ 0 ∧ ∀ (x1 : Int), x1 = Int.tmod v n → (decide (x1 < 0) = true → (-9223372036854775808 ≤ x1 + n ∧ x1 + n ≤ 9223372036854775807) ∧ ∀ (x2 : Int), x2 = x1 + n → Q ⟨.ce (.int .i64 x2), false, [], []⟩) ∧ (decide (x1 < 0) = false → Q ⟨.ce (.int .i64 x1), false, [], []⟩)) := by kernel_rfl
def SBetween (hargs : List HV) (pars : List (List HC)) : SR :=
  match hargs, pars with
  | [.ce (.int .i64 v), .ce (.int .i64 a), .ce (.int .i64 b)], [] => .det (-4611686018427387904 ≤ a ∧ a ≤ b ∧ b ≤ 4611686018427387904 ∧ b - a < 4611686018427387904) ⟨.ce (.int .i64 (a + v % (b - a + 1))), false, [], []⟩
  | _, _ => .fail
def tabBetween : List (FuncId × HL.Spec) := [(28, SMod)]
noncomputable def CBetween : Ctx := ⟨Tryd.prog, gam tabBetween, Tryd.f27.ntmps, [], []⟩
theorem vcBetween (v a b : Int) (Q : Res → Prop) : (nfun true CBetween Tryd.f27 (bodyOf Tryd.f27) [.ce (.int .i64 v), .ce (.int .i64 a), .ce (.int .i64 b)] [] Q) =
    ((-9223372036854775808 ≤ b - a ∧ b - a ≤ 9223372036854775807) ∧ ∀ (x1 : Int), x1 = b - a → (-9223372036854775808 ≤ x1 + 1 ∧ x1 + 1 ≤ 9223372036854775807) ∧ ∀ (x2 : Int), x2 = x1 + 1 → (0 < x2 ∧ x2 ≤ 4611686018427387904) ∧ ∀ (x3 : Int), x3 = v % x2 → (-9223372036854775808 ≤ a + x3 ∧ a + x3 ≤ 9223372036854775807) ∧ ∀ (x4 : Int), x4 = a + x3 → Q ⟨.ce (.int .i64 x4), false, [], []⟩) := by kernel_rfl
def SNew (hargs : List HV) (pars : List (List HC)) : SR :=
  match hargs, pars with
  | [.ce (.sl false [4] l)], [] => .det True ⟨.ce (.ptr 500 0), false, [], [[.sl false [4] l, .int .i64 0]]⟩
  | _, _ => .fail
noncomputable def CNew : Ctx := ⟨Tryd.prog, gam [], Tryd.f14.ntmps, [], []⟩
theorem vcNew (l : List (List Int)) (Q : Res → Prop) : (nfun true CNew Tryd.f14 (bodyOf Tryd.f14) [.ce (.sl false [4] l)] [] Q) =
    (Q { val := .ce (.ptr 500 0), own := false, pars := [], news := [[.sl false [4] l, .int .i64 0]] }) := by kernel_rfl
def SNext (hargs : List HV) (pars : List (List HC)) : SR :=
  match hargs, pars with
  | [.ce (.ptr 0 0), .ce (.int .i64 m)], [[.sl false [4] l, .int .i64 p]] =>
    .all (0 < m ∧ m ≤ 4611686018427387904 ∧ inSrc l p) (Int × Int) (fun x => drew l p m x)
      (fun x => ⟨.ce (.int .i64 x.1), false, [[.sl false [4] l, .int .i64 x.2]], []⟩)
  | _, _ => .fail
def tabNext : List (FuncId × HL.Spec) := [(28, SMod)]
noncomputable def CNext : Ctx := ⟨Tryd.prog, gam tabNext, Tryd.f41.ntmps, [], []⟩
theorem vcNext (l : List (List Int)) (p m : Int) (Q : Res → Prop) : (nfun true CNext Tryd.f41 (bodyOf Tryd.f41) [.ce (.ptr 0 0), .ce (.int .i64 m)] [[.sl false [4] l, .int .i64 p]] Q) =
    ((decide (p ≥ (List.length l : Int)) = true → Q { val := .ce (.int .i64 0), own := false, pars := [[.sl false [4] l, .int .i64 p]], news := [] }) ∧ (decide (p ≥ (List.length l : Int)) = false → (-9223372036854775808 ≤ p + 1 ∧ p + 1 ≤ 9223372036854775807) ∧ ∀ (x1 : Int), x1 = p + 1 → (-9223372036854775808 ≤ x1 - 1 ∧ x1 - 1 ≤ 9223372036854775807) ∧ ∀ (x2 : Int), x2 = x1 - 1 → (0 ≤ x2 ∧ x2 < (List.length l : Int)) ∧ ∀ (x3 : Int), x3 = el l x2.toNat → (0 < m ∧ m ≤ 4611686018427387904) ∧ ∀ (x4 : Int), x4 = x3 % m → Q { val := .ce (.int .i64 x4), own := false, pars := [[.sl false [4] l, .int .i64 x1]], news := [] })) := by kernel_rfl
def SRange (hargs : List HV) (pars : List (List HC)) : SR :=
  match hargs, pars with
  | [.ce (.ptr 0 0), .ce (.int .i64 a), .ce (.int .i64 b)], [[.sl false [4] l, .int .i64 p]] =>
    .all (-1000000000000000000 ≤ a ∧ a ≤ b ∧ b ≤ 1000000000000000000 ∧ inSrc l p) (Int × Int) (fun x => a ≤ x.1 ∧ x.1 ≤ b ∧ x.2 = adv l p)
      (fun x => ⟨.ce (.int .i64 x.1), false, [[.sl false [4] l, .int .i64 x.2]], []⟩)
  | _, _ => .fail
def tabRange : List (FuncId × HL.Spec) := [(41, SNext)]
noncomputable def CRange : Ctx := ⟨Tryd.prog, gam tabRange, Tryd.f42.ntmps, [], []⟩
theorem vcRange (l : List (List Int)) (p a b : Int) (Q : Res → Prop) : (nfun true CRange Tryd.f42 (bodyOf Tryd.f42) [.ce (.ptr 0 0), .ce (.int .i64 a), .ce (.int .i64 b)] [[.sl false [4] l, .int .i64 p]] Q) =
    ((-9223372036854775808 ≤ b - a ∧ b - a ≤ 9223372036854775807) ∧ ∀ (x1 : Int), x1 = b - a → (-9223372036854775808 ≤ x1 + 1 ∧ x1 + 1 ≤ 9223372036854775807) ∧ ∀ (x2 : Int), x2 = x1 + 1 → (0 < x2 ∧ x2 ≤ 4611686018427387904 ∧ inSrc l p) ∧ (∃ (x : Int × Int), drew l p x2 x) ∧ ∀ (x : Int × Int), drew l p x2 x → (-9223372036854775808 ≤ a + x.1 ∧ a + x.1 ≤ 9223372036854775807) ∧ ∀ (x4 : Int), x4 = a + x.1 → Q { val := .ce (.int .i64 x4), own := false, pars := [[.sl false [4] l, .int .i64 x.2]], news := [] }) := by kernel_rfl
def SNumb (hargs : List HV) (pars : List (List HC)) : SR :=
  match hargs, pars with
  | [.ce (.ptr 0 0)], [[.sl false [4] l, .int .i64 p]] =>
    .all (inSrc l p) (Int × Int) (fun x => 0 ≤ x.1 ∧ x.1 ≤ 1000000000000000 ∧ inSrc l x.2)
      (fun x => ⟨.ce (.int .i64 x.1), false, [[.sl false [4] l, .int .i64 x.2]], []⟩)
  | _, _ => .fail
noncomputable def CNumb : Ctx := ⟨Tryd.prog, gam tabRange, Tryd.f43.ntmps, [], []⟩
theorem vcNumb (l : List (List Int)) (p : Int) (Q : Res → Prop) : (nfun true CNumb Tryd.f43 (bodyOf Tryd.f43) [.ce (.ptr 0 0)] [[.sl false [4] l, .int .i64 p]] Q) =
    (((0 : Int) < (8 : Int) ∧ (8 : Int) ≤ (4611686018427387904 : Int) ∧ inSrc l p) ∧ (∃ (x : Int × Int), drew l p (8 : Int) x) ∧ ∀ (x : Int × Int), drew l p (8 : Int) x → ((x.1 == 0) = true → ((0 : Int) < (1000000000000000 : Int) ∧ (1000000000000000 : Int) ≤ (4611686018427387904 : Int) ∧ inSrc l x.2) ∧ (∃ (x_1 : Int × Int), drew l x.2 (1000000000000000 : Int) x_1) ∧ ∀ (x_1 : Int × Int), drew l x.2 (1000000000000000 : Int) x_1 → Q { val := .ce (.int .i64 x_1.1), own := false, pars := [[.sl false [4] l, .int .i64 x_1.2]], news := [] }) ∧ ((x.1 == 0) = false → ((x.1 == 1) = true → ((0 : Int) < (1000000 : Int) ∧ (1000000 : Int) ≤ (4611686018427387904 : Int) ∧ inSrc l x.2) ∧ (∃ (x_1 : Int × Int), drew l x.2 (1000000 : Int) x_1) ∧ ∀ (x_1 : Int × Int), drew l x.2 (1000000 : Int) x_1 → (-9223372036854775808 ≤ x_1.1 * 100 ∧ x_1.1 * 100 ≤ 9223372036854775807) ∧ ∀ (x4 : Int), x4 = x_1.1 * 100 → Q { val := .ce (.int .i64 x4), own := false, pars := [[.sl false [4] l, .int .i64 x_1.2]], news := [] }) ∧
    ((x.1 == 1) = false → ((x.1 == 2) = true → ((0 : Int) < (40 : Int) ∧ (40 : Int) ≤ (4611686018427387904 : Int) ∧ inSrc l x.2) ∧ (∃ (x_1 : Int × Int), drew l x.2 (40 : Int) x_1) ∧ ∀ (x_1 : Int × Int), drew l x.2 (40 : Int) x_1 → (-9223372036854775808 ≤ x_1.1 * 250000 ∧ x_1.1 * 250000 ≤ 9223372036854775807) ∧ ∀ (x6 : Int), x6 = x_1.1 * 250000 → Q { val := .ce (.int .i64 x6), own := false, pars := [[.sl false [4] l, .int .i64 x_1.2]], news := [] }) ∧ ((x.1 == 2) = false → ((x.1 == 3) = true → ((0 : Int) < (40 : Int) ∧ (40 : Int) ≤ (4611686018427387904 : Int) ∧ inSrc l x.2) ∧ (∃ (x_1 : Int × Int), drew l x.2 (40 : Int) x_1) ∧ ∀ (x_1 : Int × Int), drew l x.2 (40 : Int) x_1 → (-9223372036854775808 ≤ x_1.1 * 250000 ∧ x_1.1 * 250000 ≤ 9223372036854775807) ∧ ∀ (x8 : Int), x8 = x_1.1 * 250000 → Q { val := .ce (.int .i64 x8), own := false, pars := [[.sl false [4] l, .int .i64 x_1.2]], news := [] }) ∧
    ((x.1 == 3) = false → ((0 : Int) < (12 : Int) ∧ (12 : Int) ≤ (4611686018427387904 : Int) ∧ inSrc l x.2) ∧ (∃ (x_1 : Int × Int), drew l x.2 (12 : Int) x_1) ∧ ∀ (x_1 : Int × Int), drew l x.2 (12 : Int) x_1 → (-9223372036854775808 ≤ x_1.1 * 1000000 ∧ x_1.1 * 1000000 ≤ 9223372036854775807) ∧ ∀ (x10 : Int), x10 = x_1.1 * 1000000 → Q { val := .ce (.int .i64 x10), own := false, pars := [[.sl false [4] l, .int .i64 x_1.2]], news := [] }))))) := by kernel_rfl
def SMakeM (hargs : List HV) (pars : List (List HC)) : SR :=
  match hargs, pars with
  | [.ce (.ptr 0 0)], [[.sl false [4] l, .int .i64 p]] =>
    .all (inSrc l p) (M × Int) (fun x => (17 ≤ x.1.m1 ∧ x.1.m1 ≤ 19) ∧ inSrc l x.2)
      (fun x => ⟨.agg (cM x.1), false, [[.sl false [4] l, .int .i64 x.2]], []⟩)
  | _, _ => .fail
def tabMakeM : List (FuncId × HL.Spec) := [(41, SNext), (42, SRange)]
noncomputable def CMakeM : Ctx := ⟨Tryd.prog, gam tabMakeM, Tryd.f13.ntmps, [], []⟩
theorem vcMakeM (l : List (List Int)) (p : Int) (Q : Res → Prop) : (nfun true CMakeM Tryd.f13 (bodyOf Tryd.f13) [.ce (.ptr 0 0)] [[.sl false [4] l, .int .i64 p]] Q) =
    (((0 : Int) < (15 : Int) ∧ (15 : Int) ≤ (4611686018427387904 : Int) ∧ inSrc l p) ∧ (∃ (x : Int × Int), drew l p (15 : Int) x) ∧ ∀ (x : Int × Int), drew l p (15 : Int) x → (0 ≤ x.1 ∧ x.1 < 15) ∧ ∀ (x2 : Int), x2 = el [[(0 : Int)], [(1 : Int)], [(2 : Int)], [(3 : Int)], [(33 : Int)], [(73 : Int)], [(74 : Int)], [(80 : Int)], [(81 : Int)], [(82 : Int)], [(83 : Int)], [(84 : Int)], [(85 : Int)], [(86 : Int)], [(89 : Int)]] x.1.toNat → ((-1000000000000000000 : Int) ≤ (17 : Int) ∧ (17 : Int) ≤ (19 : Int) ∧ (19 : Int) ≤ (1000000000000000000 : Int) ∧ inSrc l x.2) ∧ (∃ (x_1 : Int × Int), 17 ≤ x_1.1 ∧ x_1.1 ≤ 19 ∧ x_1.2 = adv l x.2) ∧ ∀ (x_1 : Int × Int), 17 ≤ x_1.1 ∧ x_1.1 ≤ 19 ∧ x_1.2 = adv l x.2 → ((-1000000000000000000 : Int) ≤ (90 : Int) ∧ (90 : Int) ≤ (91 : Int) ∧ (91 : Int) ≤ (1000000000000000000 : Int) ∧ inSrc l x_1.2) ∧ (∃ (x : Int × Int), 90 ≤ x.1 ∧ x.1 ≤ 91 ∧ x.2 = adv l x_1.2) ∧ ∀ (x : Int × Int), 90 ≤ x.1 ∧
    x.1 ≤ 91 ∧ x.2 = adv l x_1.2 → ((-1000000000000000000 : Int) ≤ (20 : Int) ∧ (20 : Int) ≤ (21 : Int) ∧ (21 : Int) ≤ (1000000000000000000 : Int) ∧ inSrc l x.2) ∧ (∃ (x_2 : Int × Int), 20 ≤ x_2.1 ∧ x_2.1 ≤ 21 ∧ x_2.2 = adv l x.2) ∧ ∀ (x_2 : Int × Int), 20 ≤ x_2.1 ∧ x_2.1 ≤ 21 ∧ x_2.2 = adv l x.2 → ((-1000000000000000000 : Int) ≤ (94 : Int) ∧ (94 : Int) ≤ (95 : Int) ∧ (95 : Int) ≤ (1000000000000000000 : Int) ∧ inSrc l x_2.2) ∧ (∃ (x : Int × Int), 94 ≤ x.1 ∧ x.1 ≤ 95 ∧ x.2 = adv l x_2.2) ∧ ∀ (x_3 : Int × Int), 94 ≤ x_3.1 ∧ x_3.1 ≤ 95 ∧ x_3.2 = adv l x_2.2 → ((-1000000000000000000 : Int) ≤ (40 : Int) ∧ (40 : Int) ≤ (42 : Int) ∧ (42 : Int) ≤ (1000000000000000000 : Int) ∧ inSrc l x_3.2) ∧ (∃ (x : Int × Int), 40 ≤ x.1 ∧ x.1 ≤ 42 ∧ x.2 = adv l x_3.2) ∧ ∀ (x_4 : Int × Int), 40 ≤ x_4.1 ∧ x_4.1 ≤ 42 ∧ x_4.2 = adv l x_3.2 → ((0 : Int) < (3 : Int) ∧ (3 : Int) ≤ (4611686018427387904 : Int) ∧ inSrc l x_4.2) ∧
    (∃ (x : Int × Int), drew l x_4.2 (3 : Int) x) ∧ ∀ (x_5 : Int × Int), drew l x_4.2 (3 : Int) x_5 → (0 ≤ x_5.1 ∧ x_5.1 < 3) ∧ ∀ (x9 : Int), x9 = el [[(43 : Int)], [(44 : Int)], [(49 : Int)]] x_5.1.toNat → ((-1000000000000000000 : Int) ≤ (98 : Int) ∧ (98 : Int) ≤ (99 : Int) ∧ (99 : Int) ≤ (1000000000000000000 : Int) ∧ inSrc l x_5.2) ∧ (∃ (x : Int × Int), 98 ≤ x.1 ∧ x.1 ≤ 99 ∧ x.2 = adv l x_5.2) ∧ ∀ (x_6 : Int × Int), 98 ≤ x_6.1 ∧ x_6.1 ≤ 99 ∧ x_6.2 = adv l x_5.2 → ((-1000000000000000000 : Int) ≤ (54 : Int) ∧ (54 : Int) ≤ (59 : Int) ∧ (59 : Int) ≤ (1000000000000000000 : Int) ∧ inSrc l x_6.2) ∧ (∃ (x : Int × Int), 54 ≤ x.1 ∧ x.1 ≤ 59 ∧ x.2 = adv l x_6.2) ∧ ∀ (x_7 : Int × Int), 54 ≤ x_7.1 ∧ x_7.1 ≤ 59 ∧ x_7.2 = adv l x_6.2 → ((0 : Int) < (2 : Int) ∧ (2 : Int) ≤ (4611686018427387904 : Int) ∧ inSrc l x_7.2) ∧ (∃ (x : Int × Int), drew l x_7.2 (2 : Int) x) ∧ ∀ (x_8 : Int × Int), drew l x_7.2 (2 : Int) x_8 →
    (0 ≤ x_8.1 ∧ x_8.1 < 2) ∧ ∀ (x13 : Int), x13 = el [[(61 : Int)], [(64 : Int)]] x_8.1.toNat → ((-1000000000000000000 : Int) ≤ (15 : Int) ∧ (15 : Int) ≤ (16 : Int) ∧ (16 : Int) ≤ (1000000000000000000 : Int) ∧ inSrc l x_8.2) ∧ (∃ (x : Int × Int), 15 ≤ x.1 ∧ x.1 ≤ 16 ∧ x.2 = adv l x_8.2) ∧ ∀ (x_9 : Int × Int), 15 ≤ x_9.1 ∧ x_9.1 ≤ 16 ∧ x_9.2 = adv l x_8.2 → ((-1000000000000000000 : Int) ≤ (68 : Int) ∧ (68 : Int) ≤ (69 : Int) ∧ (69 : Int) ≤ (1000000000000000000 : Int) ∧ inSrc l x_9.2) ∧ (∃ (x : Int × Int), 68 ≤ x.1 ∧ x.1 ≤ 69 ∧ x.2 = adv l x_9.2) ∧ ∀ (x_10 : Int × Int), 68 ≤ x_10.1 ∧ x_10.1 ≤ 69 ∧ x_10.2 = adv l x_9.2 → ((-1000000000000000000 : Int) ≤ (3 : Int) ∧ (3 : Int) ≤ (5 : Int) ∧ (5 : Int) ≤ (1000000000000000000 : Int) ∧ inSrc l x_10.2) ∧ (∃ (x : Int × Int), 3 ≤ x.1 ∧ x.1 ≤ 5 ∧ x.2 = adv l x_10.2) ∧ ∀ (x_11 : Int × Int), 3 ≤ x_11.1 ∧ x_11.1 ≤ 5 ∧ x_11.2 = adv l x_10.2 → ((0 : Int) < (2 : Int) ∧
    (2 : Int) ≤ (4611686018427387904 : Int) ∧ inSrc l x_11.2) ∧ (∃ (x : Int × Int), drew l x_11.2 (2 : Int) x) ∧ ∀ (x_12 : Int × Int), drew l x_11.2 (2 : Int) x_12 → ((0 : Int) < (2 : Int) ∧ (2 : Int) ≤ (4611686018427387904 : Int) ∧ inSrc l x_12.2) ∧ (∃ (x : Int × Int), drew l x_12.2 (2 : Int) x) ∧ ∀ (x_13 : Int × Int), drew l x_12.2 (2 : Int) x_13 → ((0 : Int) < (100000 : Int) ∧ (100000 : Int) ≤ (4611686018427387904 : Int) ∧ inSrc l x_13.2) ∧ (∃ (x : Int × Int), drew l x_13.2 (100000 : Int) x) ∧ ∀ (x_14 : Int × Int), drew l x_13.2 (100000 : Int) x_14 → ((0 : Int) < (9000 : Int) ∧ (9000 : Int) ≤ (4611686018427387904 : Int) ∧ inSrc l x_14.2) ∧ (∃ (x : Int × Int), drew l x_14.2 (9000 : Int) x) ∧ ∀ (x_15 : Int × Int), drew l x_14.2 (9000 : Int) x_15 → ((0 : Int) < (5 : Int) ∧ (5 : Int) ≤ (4611686018427387904 : Int) ∧ inSrc l x_15.2) ∧ (∃ (x : Int × Int), drew l x_15.2 (5 : Int) x) ∧ ∀ (x_16 : Int × Int), drew l x_15.2 (5 : Int) x_16 →
    ((0 : Int) < (5 : Int) ∧ (5 : Int) ≤ (4611686018427387904 : Int) ∧ inSrc l x_16.2) ∧ (∃ (x : Int × Int), drew l x_16.2 (5 : Int) x) ∧ ∀ (x_17 : Int × Int), drew l x_16.2 (5 : Int) x_17 → ((0 : Int) < (4 : Int) ∧ (4 : Int) ≤ (4611686018427387904 : Int) ∧ inSrc l x_17.2) ∧ (∃ (x : Int × Int), drew l x_17.2 (4 : Int) x) ∧ ∀ (x_18 : Int × Int), drew l x_17.2 (4 : Int) x_18 → ((0 : Int) < (4 : Int) ∧ (4 : Int) ≤ (4611686018427387904 : Int) ∧ inSrc l x_18.2) ∧ (∃ (x : Int × Int), drew l x_18.2 (4 : Int) x) ∧ ∀ (x_19 : Int × Int), drew l x_18.2 (4 : Int) x_19 → ((x13 == 64) = true → ((0 : Int) < (1001 : Int) ∧ (1001 : Int) ≤ (4611686018427387904 : Int) ∧ inSrc l x_19.2) ∧ (∃ (x : Int × Int), drew l x_19.2 (1001 : Int) x) ∧ ∀ (x_20 : Int × Int), drew l x_19.2 (1001 : Int) x_20 → Q { val := .agg [.int .i64 x2, .int .i64 x_1.1, .int .i64 x.1, .int .i64 x_2.1, .int .i64 x_3.1, .int .i64 x_4.1, .int .i64 x9, .int .i64 x_6.1, .int .i64 x_7.1, .int .i64 x13, .int .i64 x_9.1, .int .i64 x_10.1, .int .i64 x_11.1, .bool (x_12.1 == 0), .bool (x_13.1 == 0), .int .i64 x_20.1, .int .i64 x_14.1, .int .i64 x_15.1, .int .i64 x_16.1, .int .i64 x_17.1, .int .i64 x_18.1, .int .i64 x_19.1], own := false, pars := [[.sl false [4] l, .int .i64 x_20.2]], news := [] }) ∧
    ((x13 == 64) = false → Q { val := .agg [.int .i64 x2, .int .i64 x_1.1, .int .i64 x.1, .int .i64 x_2.1, .int .i64 x_3.1, .int .i64 x_4.1, .int .i64 x9, .int .i64 x_6.1, .int .i64 x_7.1, .int .i64 x13, .int .i64 x_9.1, .int .i64 x_10.1, .int .i64 x_11.1, .bool (x_12.1 == 0), .bool (x_13.1 == 0), .int .i64 0, .int .i64 x_14.1, .int .i64 x_15.1, .int .i64 x_16.1, .int .i64 x_17.1, .int .i64 x_18.1, .int .i64 x_19.1], own := false, pars := [[.sl false [4] l, .int .i64 x_19.2]], news := [] })) := by kernel_rfl
def SValues (hargs : List HV) (pars : List (List HC)) : SR :=
  match hargs, pars with
  | [.ce (.ptr 0 0)], [[.sl false [4] l, .int .i64 p]] =>
    .all (inSrc l p) (List (List Int) × Int) (fun x => inSrc l x.2 ∧ x.1.length ≤ 40)
      (fun x => ⟨.ce (.sl false [4, 4] x.1), true, [[.sl false [4] l, .int .i64 x.2]], []⟩)
  | _, _ => .fail
def anV0 : LAnn := ⟨[0, 3, 100003, 4, 5], [0, 3, 100003], [0], false⟩
def anV1 : LAnn := ⟨[0, 3, 100003, 6, 7], [0, 3, 100003], [0], false⟩
def anV2 : LAnn := ⟨[0, 3, 100003, 8, 9], [0, 3, 100003], [0], false⟩
def LV01 (e : Nat) (v : LV) : LR :=
  match v with
  | ([.ce (.ptr 0 0), .ce (.sl false [4, 4] acc), .ce (.lit true), .ce (.sl false [4] c), .ce (.int .i64 n)], [[.sl false [4] l, .int .i64 p]]) =>
    .all (0 ≤ n ∧ n ≤ 10 ∧ inSrc l p ∧ acc.length ≤ 100 ∧ sml c = true ∧ 0 < c.length ∧ c.length ≤ 100) (List (List Int) × Int) (fun x => inSrc l x.2 ∧ (x.1.length : Int) ≤ acc.length + n) (fun _ => .exit e)
      (fun x => ([.ce (.ptr 0 0), .ce (.sl false [4, 4] x.1), .ce (.lit true)], [[.sl false [4] l, .int .i64 x.2]]))
  | _ => .fail
def LV2 (v : LV) : LR :=
  match v with
  | ([.ce (.ptr 0 0), .ce (.sl false [4, 4] acc), .ce (.lit true), .ce (.str s), .ce (.int .i64 i)], [[.sl false [4] l, .int .i64 p]]) => bif Nat.ble s.size 20 then
    .all (0 ≤ i ∧ i ≤ 20 ∧ inSrc l p ∧ acc.length ≤ 100) (List (List Int) × Int) (fun x => inSrc l x.2 ∧ (x.1.length : Int) ≤ acc.length + (20 - i)) (fun _ => .exit 4)
      (fun x => ([.ce (.ptr 0 0), .ce (.sl false [4, 4] x.1), .ce (.lit true)], [[.sl false [4] l, .int .i64 x.2]])) else .fail
  | _ => .fail
def tabValues : List (FuncId × HL.Spec) := [(41, SNext), (43, SNumb)]
noncomputable def CValues : Ctx := ⟨Tryd.prog, gam tabValues, Tryd.f15.ntmps, [(4, anV0, LV01 0), (9, anV1, LV01 2), (14, anV2, LV2)], []⟩
theorem vcValues (l : List (List Int)) (p : Int) (Q : Res → Prop) : (nfun true CValues Tryd.f15 (bodyOf Tryd.f15) [.ce (.ptr 0 0)] [[.sl false [4] l, .int .i64 p]] Q) =
    (((0 : Int) < (4 : Int) ∧ (4 : Int) ≤ (4611686018427387904 : Int) ∧ inSrc l p) ∧ (∃ (x : Int × Int), drew l p (4 : Int) x) ∧ ∀ (x : Int × Int), drew l p (4 : Int) x → (0 ≤ x.1 ∧ x.1 ≤ 10 ∧ inSrc l x.2 ∧ (0 : Nat) ≤ (100 : Nat) ∧ sml [[(0 : Int)], [(1 : Int)], [(2 : Int)], [(3 : Int)], [(4 : Int)], [(10 : Int)], [(12 : Int)], [(13 : Int)], [(15 : Int)], [(16 : Int)], [(17 : Int)], [(18 : Int)], [(19 : Int)], [(20 : Int)], [(21 : Int)], [(31 : Int)], [(33 : Int)], [(40 : Int)], [(41 : Int)], [(42 : Int)], [(43 : Int)], [(44 : Int)], [(49 : Int)], [(52 : Int)], [(53 : Int)], [(54 : Int)], [(55 : Int)], [(59 : Int)], [(61 : Int)], [(64 : Int)], [(68 : Int)], [(69 : Int)], [(73 : Int)], [(80 : Int)], [(81 : Int)], [(90 : Int)], [(91 : Int)], [(92 : Int)], [(94 : Int)], [(95 : Int)], [(98 : Int)], [(99 : Int)], [(5 : Int)], [(65 : Int)]] = true ∧ (0 : Nat) < (44 : Nat) ∧ (44 : Nat) ≤ (100 : Nat)) ∧
    ∀ (x_1 : List (List Int) × Int), inSrc l x_1.2 ∧ (List.length x_1.1 : Int) ≤ (0 : Int) + x.1 → ((0 : Int) < (3 : Int) ∧ (3 : Int) ≤ (4611686018427387904 : Int) ∧ inSrc l x_1.2) ∧ (∃ (x : Int × Int), drew l x_1.2 (3 : Int) x) ∧ ∀ (x : Int × Int), drew l x_1.2 (3 : Int) x → (0 ≤ x.1 ∧ x.1 ≤ 10 ∧ inSrc l x.2 ∧ List.length x_1.1 ≤ (100 : Nat) ∧ sml [[(0 : Int)], [(1 : Int)], [(2 : Int)], [(3 : Int)], [(4 : Int)], [(5 : Int)], [(6 : Int)], [(7 : Int)], [(8 : Int)], [(9 : Int)], [(30 : Int)], [(62 : Int)], [(63 : Int)], [(98 : Int)], [(10 : Int)]] = true ∧ (0 : Nat) < (15 : Nat) ∧ (15 : Nat) ≤ (100 : Nat)) ∧ ∀ (x_2 : List (List Int) × Int), inSrc l x_2.2 ∧ (List.length x_2.1 : Int) ≤ (List.length x_1.1 : Int) + x.1 → ((0 : Int) ≤ (0 : Int) ∧ (0 : Int) ≤ (20 : Int) ∧ inSrc l x_2.2 ∧ List.length x_2.1 ≤ (100 : Nat)) ∧ ∀ (x : List (List Int) × Int), inSrc l x.2 ∧ (List.length x.1 : Int) ≤ (List.length x_2.1 : Int) + (20 : Int) →
    Q { val := .ce (.sl false [4, 4] x.1), own := true, pars := [[.sl false [4] l, .int .i64 x.2]], news := [] }) := by kernel_rfl
theorem vbV0 (acc c l : List (List Int)) (n p : Int) (K : HEx → LV → Prop) : (nbodyT true CValues anV0 (nthLoop Tryd.f15 0) (([.ce (.ptr 0 0), .ce (.sl false [4, 4] acc), .ce (.lit true), .ce (.sl false [4] c), .ce (.int .i64 n)], [[.sl false [4] l, .int .i64 p]])) K) =
    ((decide (n > 0) = true → ((0 : Int) < (List.length c : Int) ∧ (List.length c : Int) ≤ (4611686018427387904 : Int) ∧ inSrc l p) ∧ (∃ (x : Int × Int), drew l p ((List.length c : Int)) x) ∧ ∀ (x : Int × Int), drew l p ((List.length c : Int)) x → (0 ≤ x.1 ∧ x.1 < (List.length c : Int)) ∧ ∀ (x2 : Int), x2 = el c x.1.toNat → (-9223372036854775808 ≤ x2 * 1000000 ∧ x2 * 1000000 ≤ 9223372036854775807) ∧ ∀ (x3 : Int), x3 = x2 * 1000000 → ((List.length acc + (1 : Nat)) * (16 : Nat) ≤ (140737488355328 : Nat) ∧ List.length acc + (1 : Nat) ≤ maxLen) ∧ (-9223372036854775808 ≤ n - 1 ∧ n - 1 ≤ 9223372036854775807) ∧ ∀ (x4 : Int), x4 = n - 1 → K .normal ([.ce (.ptr 0 0), .ce (.sl false [4, 4] (acc ++ [[(71 : Int), x3]])), .ce (.lit true), .ce (.sl false [4] c), .ce (.int .i64 x4)], [[.sl false [4] l, .int .i64 x.2]])) ∧ (decide (n > 0) = false → K (.exit 0) ([.ce (.ptr 0 0), .ce (.sl false [4, 4] acc), .ce (.lit true)], [[.sl false [4] l, .int .i64 p]]))) := by kernel_rfl
theorem vbV1 (acc c l : List (List Int)) (n p : Int) (K : HEx → LV → Prop) : (nbodyT true CValues anV1 (nthLoop Tryd.f15 1) (([.ce (.ptr 0 0), .ce (.sl false [4, 4] acc), .ce (.lit true), .ce (.sl false [4] c), .ce (.int .i64 n)], [[.sl false [4] l, .int .i64 p]])) K) =
    ((decide (n > 0) = true → ((0 : Int) < (List.length c : Int) ∧ (List.length c : Int) ≤ (4611686018427387904 : Int) ∧ inSrc l p) ∧ (∃ (x : Int × Int), drew l p ((List.length c : Int)) x) ∧ ∀ (x : Int × Int), drew l p ((List.length c : Int)) x → (0 ≤ x.1 ∧ x.1 < (List.length c : Int)) ∧ ∀ (x2 : Int), x2 = el c x.1.toNat → (-9223372036854775808 ≤ x2 * 1000000 ∧ x2 * 1000000 ≤ 9223372036854775807) ∧ ∀ (x3 : Int), x3 = x2 * 1000000 → ((List.length acc + (1 : Nat)) * (16 : Nat) ≤ (140737488355328 : Nat) ∧ List.length acc + (1 : Nat) ≤ maxLen) ∧ (-9223372036854775808 ≤ n - 1 ∧ n - 1 ≤ 9223372036854775807) ∧ ∀ (x4 : Int), x4 = n - 1 → K .normal ([.ce (.ptr 0 0), .ce (.sl false [4, 4] (acc ++ [[(77 : Int), x3]])), .ce (.lit true), .ce (.sl false [4] c), .ce (.int .i64 x4)], [[.sl false [4] l, .int .i64 x.2]])) ∧ (decide (n > 0) = false → K (.exit 2) ([.ce (.ptr 0 0), .ce (.sl false [4, 4] acc), .ce (.lit true)], [[.sl false [4] l, .int .i64 p]]))) := by kernel_rfl
theorem vbV2 (acc l : List (List Int)) (s : ByteArray) (i p : Int) (K : HEx → LV → Prop) : (nbodyT true CValues anV2 (nthLoop Tryd.f15 2) (([.ce (.ptr 0 0), .ce (.sl false [4, 4] acc), .ce (.lit true), .ce (.str s), .ce (.int .i64 i)], [[.sl false [4] l, .int .i64 p]])) K) =
    ((decide (i < (List.length s.data.1 : Int)) = true → ((0 : Int) < (4 : Int) ∧ (4 : Int) ≤ (4611686018427387904 : Int) ∧ inSrc l p) ∧ (∃ (x : Int × Int), drew l p (4 : Int) x) ∧ ∀ (x : Int × Int), drew l p (4 : Int) x → ((x.1 == 0) = true → inSrc l x.2 ∧ (∃ (x : Int × Int), 0 ≤ x.1 ∧ x.1 ≤ 1000000000000000 ∧ inSrc l x.2) ∧ ∀ (x : Int × Int), 0 ≤ x.1 ∧ x.1 ≤ 1000000000000000 ∧ inSrc l x.2 → ((0 : Int) < (3 : Int) ∧ (3 : Int) ≤ (4611686018427387904 : Int) ∧ inSrc l x.2) ∧ (∃ (x_1 : Int × Int), drew l x.2 (3 : Int) x_1) ∧ ∀ (x_1 : Int × Int), drew l x.2 (3 : Int) x_1 → ((x_1.1 == 0) = true → (-9223372036854775808 ≤ (0 : Int) - x.1 ∧ (0 : Int) - x.1 ≤ 9223372036854775807) ∧ ∀ (x4 : Int), x4 = 0 - x.1 → (0 ≤ i ∧ i < (List.length s.data.1 : Int)) ∧ (-9223372036854775808 ≤ Int.ofNat (BitVec.toNat (Array.getD s.data i.toNat (0 : UInt8)).1) ∧ Int.ofNat (BitVec.toNat (Array.getD s.data i.toNat (0 : UInt8)).1) ≤ 9223372036854775807) ∧
    ∀ (x5 : Int), x5 = Int.ofNat (BitVec.toNat (Array.getD s.data i.toNat (0 : UInt8)).1) → ((List.length acc + (1 : Nat)) * (16 : Nat) ≤ (140737488355328 : Nat) ∧ List.length acc + (1 : Nat) ≤ maxLen) ∧ (-9223372036854775808 ≤ i + 1 ∧ i + 1 ≤ 9223372036854775807) ∧ ∀ (x6 : Int), x6 = i + 1 → K .normal ([.ce (.ptr 0 0), .ce (.sl false [4, 4] (acc ++ [[x5, x4]])), .ce (.lit true), .ce (.str s), .ce (.int .i64 x6)], [[.sl false [4] l, .int .i64 x_1.2]])) ∧ ((x_1.1 == 0) = false → (0 ≤ i ∧ i < (List.length s.data.1 : Int)) ∧ (-9223372036854775808 ≤ Int.ofNat (BitVec.toNat (Array.getD s.data i.toNat (0 : UInt8)).1) ∧ Int.ofNat (BitVec.toNat (Array.getD s.data i.toNat (0 : UInt8)).1) ≤ 9223372036854775807) ∧ ∀ (x7 : Int), x7 = Int.ofNat (BitVec.toNat (Array.getD s.data i.toNat (0 : UInt8)).1) → ((List.length acc + (1 : Nat)) * (16 : Nat) ≤ (140737488355328 : Nat) ∧ List.length acc + (1 : Nat) ≤ maxLen) ∧
    (-9223372036854775808 ≤ i + 1 ∧ i + 1 ≤ 9223372036854775807) ∧ ∀ (x8 : Int), x8 = i + 1 → K .normal ([.ce (.ptr 0 0), .ce (.sl false [4, 4] (acc ++ [[x7, x.1]])), .ce (.lit true), .ce (.str s), .ce (.int .i64 x8)], [[.sl false [4] l, .int .i64 x_1.2]]))) ∧ ((x.1 == 0) = false → (-9223372036854775808 ≤ i + 1 ∧ i + 1 ≤ 9223372036854775807) ∧ ∀ (x9 : Int), x9 = i + 1 → K .normal ([.ce (.ptr 0 0), .ce (.sl false [4, 4] acc), .ce (.lit true), .ce (.str s), .ce (.int .i64 x9)], [[.sl false [4] l, .int .i64 x.2]]))) ∧ (decide (i < (List.length s.data.1 : Int)) = false → K (.exit 4) ([.ce (.ptr 0 0), .ce (.sl false [4, 4] acc), .ce (.lit true)], [[.sl false [4] l, .int .i64 p]]))) := by kernel_rfl
end Go.Proofs.YtgnknciihdajiaaDoor
namespace U
open Go Go.HL
theorem drop_cons (l : List (List Int)) {j : Nat} (h : j < l.length) : l.drop j = l.getD j [] :: l.drop (j + 1) := by
  rw [List.drop_eq_getElem_cons h]
  congr 1
  simp [List.getD_eq_getElem?_getD, h]
theorem lt_el (l : List (List Int)) (j : Nat) : lt (l.getD j []) = el l j := rfl
theorem nm_ec (l : List (List Int)) (j : Nat) : nm (l.getD j []) = ec l j 1 := rfl
theorem vl_iff {n : Int} : vl n = true ↔ -1000000000000000 ≤ n ∧ n ≤ 1000000000000000 := by
  unfold vl
  simp
theorem rmd_mdv {a b c m : Int} (hc : 0 < c) (hab : -4611686018427387904 ≤ a * b ∧ a * b ≤ 4611686018427387904) (hm : 0 ≤ m ∧ m ≤ 2) : rmd a b c m = (mdv (a * b) c m, true) := by
  unfold rmd
  rw [if_neg (by omega)]
  dsimp only
  have hX : (a.natAbs * b.natAbs : Nat) = (a * b).natAbs := (Int.natAbs_mul a b).symm
  have hsg : a.sign * b.sign = (a * b).sign := (Int.sign_mul a b).symm
  rw [hX, hsg]
  generalize a * b = n at *
  have hcn : decide (c < 0) = false := decide_eq_false (by omega)
  rw [hcn]
  have hneg : (decide (n.sign < 0) != false) = decide (n < 0) := by
    rcases Int.lt_trichotomy n 0 with h | h | h
    · rw [Int.sign_eq_neg_one_of_neg h, decide_eq_true h]; rfl
    · subst h; rfl
    · rw [Int.sign_eq_one_of_pos h, show decide (n < 0) = false from decide_eq_false (by omega)]; rfl
  rw [hneg]
  have hd : 0 < c.natAbs := by omega
  have hq : qsat n.natAbs c.natAbs = n.natAbs / c.natAbs := by
    unfold qsat
    have := Nat.div_le_self n.natAbs c.natAbs
    omega
  rw [hq]
  have e1 := Nat.div_add_mod n.natAbs c.natAbs
  have e2 := Nat.mod_lt n.natAbs hd
  have e3 := Nat.div_le_self n.natAbs c.natAbs
  rw [Nat.mul_comm (n.natAbs / c.natAbs) c.natAbs]
  generalize hQ : n.natAbs / c.natAbs = q at *
  generalize hR : n.natAbs % c.natAbs = r at *
  generalize hP : c.natAbs * q = p at *
  have hPc : c * (q : Int) = (p : Int) := by
    have : ((c.natAbs * q : Nat) : Int) = (p : Int) := by rw [hP]
    rw [Int.natCast_mul] at this
    rw [← this]
    congr 1
    omega
  have hex : (cmp3 n.natAbs p == 0) = !decide ((r : Int) > 0) := by
    unfold cmp3
    by_cases h : r = 0
    · rw [if_neg (by omega), if_pos (by omega), decide_eq_false (by omega)]; rfl
    · rw [if_neg (by omega), if_neg (by omega), decide_eq_true (by omega)]; rfl
  have hhalf : (0 < cmp3 (n.natAbs + n.natAbs) (p + p + c.natAbs) ↔ c < 2 * (r : Int)) ∧ (cmp3 (n.natAbs + n.natAbs) (p + p + c.natAbs) = 0 ↔ 2 * (r : Int) = c) := by
    unfold cmp3
    split
    · constructor <;> constructor <;> intro h <;> omega
    · split
      · constructor <;> constructor <;> intro h <;> omega
      · constructor <;> constructor <;> intro h <;> omega
  generalize cmp3 (n.natAbs + n.natAbs) (p + p + c.natAbs) = half at *
  rw [hex]
  have hmdv := mdv_eq (n := n) (c := c) (m := m) (q := (q : Int)) (r := (r : Int)) (e := half) (neg := decide (n < 0)) hc hm (by omega) (by
    rw [hPc]
    by_cases h : n < 0
    · rw [decide_eq_true h]; simp; omega
    · rw [decide_eq_false h]; simp; omega) (fun h => by
      have := of_decide_eq_true h
      rw [hPc]; omega) hhalf.1 hhalf.2
  have hmore : more (decide (n < 0)) (!decide ((r : Int) > 0)) half m = grw m half (decide ((r : Int) > 0)) (decide (n < 0)) := by
    unfold more grw
    have : m = 0 ∨ m = 1 ∨ m = 2 := by omega
    rcases this with rfl | rfl | rfl
    · simp [Bool.and_comm]
    · simp [Bool.and_comm]
    · simp only [show ¬ (2 : Int) = 0 by omega, show ¬ (2 : Int) = 1 by omega, if_false]
      cases decide (n < 0)
      · by_cases h1 : half > 0
        · simp [h1, show half ≥ 0 by omega]
        · by_cases h0 : half = 0
          · simp [h0]
          · simp [h1, h0, show ¬ half ≥ 0 by omega]
      · simp
  unfold rnd
  rw [if_neg (by omega)]
  dsimp only
  rw [hmore]
  have hle : (if grw m half (decide ((r : Int) > 0)) (decide (n < 0)) = true then (q : Int) + 1 else q) ≤ 4611686018427387905 := by split <;> omega
  rw [hmdv]
  generalize (if grw m half (decide ((r : Int) > 0)) (decide (n < 0)) = true then (q : Int) + 1 else q) = v at *
  by_cases h : n < 0
  · rw [decide_eq_true h, if_pos rfl, if_neg (by omega), if_pos rfl]
  · rw [decide_eq_false h, if_neg (by simp), if_neg (by omega), if_neg (by simp)]
end U
namespace Go.Proofs.YtgnknciihdajiaaDoor
open Go Go.HL U
attribute [local irreducible] hfun bodyT fragT
set_option maxHeartbeats 400000 in
set_option maxRecDepth 100000 in
theorem sVl : Sound Tryd.prog 68 SVl := by
  refine sound_of (C := CVl) [] Tryd.func68 (by kernel_rfl) (by decide +kernel) (by kernel_rfl) rfl trivial (loops0 (by kernel_rfl)) ?_
  intro hargs pars R h
  unfold SVl at h
  split at h
  case h_2 => exfalso; exact h
  rename_i n
  have hq := h.2
  unfold vl at hq
  refine byVC (vcVl n R) ⟨fun e => ?_, fun e => ?_⟩ <;> rw [e] at hq <;> exact hq
set_option maxHeartbeats 400000 in
set_option maxRecDepth 100000 in
theorem sVl2 : Sound Tryd.prog 73 SVl := by
  refine sound_of (C := CVl) [] Tryd.func73 (by kernel_rfl) (by decide +kernel) (by kernel_rfl) rfl trivial (loops0 (by kernel_rfl)) ?_
  intro hargs pars R h
  unfold SVl at h
  split at h
  case h_2 => exfalso; exact h
  rename_i n
  have hq := h.2
  unfold vl at hq
  refine byVC (vcVl2 n R) ⟨fun e => ?_, fun e => ?_⟩ <;> rw [e] at hq <;> exact hq
theorem fnd_cons (c : Int) (r : List Int) (l : List (List Int)) : fndN c (r :: l) = (if lt r = c then nm r else fndN c l) ∧ fndB c (r :: l) = (if lt r = c then true else fndB c l) := by
  unfold fndN fndB
  rw [show fnd c (r :: l) = (if lt r = c then some (nm r) else fnd c l) from rfl]
  by_cases h : lt r = c
  · rw [if_pos h, if_pos h, if_pos h]; exact ⟨rfl, rfl⟩
  · rw [if_neg h, if_neg h, if_neg h]; exact ⟨rfl, rfl⟩
set_option maxRecDepth 100000 in
theorem loopFind : ∀ v Q, (LFind v).wp Q → hloop CFind anFind (nthLoop Tryd.f45 0) v Q := by
  intro v Q h
  unfold LFind at h
  split at h
  case h_2 => exact h.elim
  rename_i c r s l len k
  obtain ⟨⟨h1, h2, h3⟩, hq1, hq2⟩ := h
  subst h1 h2
  refine hloop_rec (σ := Nat) (fun j => ([.ce (.int .i64 c), .ce (.int .i64 r), .ce (.bool s), .ce (.sl false [4, 4] l), .ce (.int .i64 (l.length : Int)), .ce (.int .i64 (j : Int))], [])) (fun j => l.length - j) (fun j => j ≤ l.length ∧ fndN c l = fndN c (l.drop j) ∧ fndB c l = fndB c (l.drop j)) ?_ 0 ⟨Nat.zero_le _, rfl, rfl⟩
  rintro j ⟨hj, hp, hp'⟩ K hn he hr
  refine byVB (vbFind c r _ j s l K) ⟨fun hlt => ⟨by have := of_decide_eq_true hlt; omega, ?_⟩, fun hge => ?_⟩
  · have hlt := of_decide_eq_true hlt
    have hjl : j < l.length := by omega
    rw [drop_cons l hjl, (fnd_cons c _ _).1, lt_el, nm_ec] at hp
    rw [drop_cons l hjl, (fnd_cons c _ _).2, lt_el] at hp'
    have ej : ((j : Nat) : Int).toNat = j := by omega
    rw [ej]
    refine ⟨fun k => ?_, fun k => ⟨by omega, fun x e => ?_⟩⟩
    · have k : el l j = c := by simpa using k
      rw [if_pos k] at hp hp'
      have := hq2 hp'
      rw [hp] at this
      exact hr _ this
    · have k : el l j ≠ c := by simpa using k
      rw [if_neg k] at hp hp'
      rw [show x = ((j + 1 : Nat) : Int) by omega]
      exact hn (j + 1) ⟨by omega, hp, hp'⟩ (by omega)
  · have hge := of_decide_eq_false hge
    have : j = l.length := by omega
    subst this
    rw [List.drop_length] at hp'
    exact he _ _ (hq1 hp')
theorem fndN_none {c : Int} {l : List (List Int)} (h : fndB c l = false) : fndN c l = 0 := by
  unfold fndB at h
  unfold fndN
  split at h
  · cases h
  · rfl
set_option maxHeartbeats 400000 in
set_option maxRecDepth 100000 in
theorem sFind : Sound Tryd.prog 45 SFind := by
  refine sound_of (C := CFind) [] Tryd.func45 (by kernel_rfl) (by decide +kernel) (by kernel_rfl) rfl trivial (loops1 (by kernel_rfl) (loopOK_of (an := anFind) (S := LFind) (by kernel_rfl) loopFind)) ?_
  intro hargs pars R h
  unfold SFind at h
  split at h
  case h_2 => exfalso; exact h
  rename_i l c
  have hq := h.2
  exact byVC (vcFind l c R) ⟨⟨rfl, rfl, h.1⟩, fun e => by rw [fndN_none e, e] at hq; exact hq, fun e => by rw [e] at hq; exact hq⟩
set_option maxRecDepth 100000 in
theorem loopFind2 : ∀ v Q, (LFind2 v).wp Q → hloop CFind2 anFind2 (nthLoop Tryd.f51 0) v Q := by
  intro v Q h
  unfold LFind2 at h
  split at h
  case h_2 => exact h.elim
  rename_i l c r s k
  obtain ⟨⟨h1, h3⟩, hq1, hq2⟩ := h
  subst h1
  refine hloop_rec (σ := Nat) (fun j => ([.ce (.sl false [4, 4] l), .ce (.int .i64 c), .ce (.int .i64 r), .ce (.bool s), .ce (.int .i64 (j : Int))], [])) (fun j => l.length - j) (fun j => j ≤ l.length ∧ fndN c l = fndN c (l.drop j) ∧ fndB c l = fndB c (l.drop j)) ?_ 0 ⟨Nat.zero_le _, rfl, rfl⟩
  rintro j ⟨hj, hp, hp'⟩ K hn he hr
  refine byVB (vbFind2 c r j s l K) ⟨fun hlt => ⟨by have := of_decide_eq_true hlt; omega, fun x1 e1 => ?_⟩, fun hge => ?_⟩
  · have hlt := of_decide_eq_true hlt
    have hjl : j < l.length := by omega
    have ej : ((j : Nat) : Int).toNat = j := by omega
    rw [ej] at e1 ⊢
    rw [drop_cons l hjl, (fnd_cons c _ _).1, lt_el, nm_ec, ← e1] at hp
    rw [drop_cons l hjl, (fnd_cons c _ _).2, lt_el, ← e1] at hp'
    refine ⟨fun k => ⟨by omega, fun x2 e2 => ?_⟩, fun k => ⟨by omega, fun x e => ?_⟩⟩
    · have k : x1 = c := by simpa using k
      rw [if_pos k] at hp hp'
      have := hq2 hp'
      rw [hp, ← e2] at this
      exact hr _ this
    · have k : x1 ≠ c := by simpa using k
      rw [if_neg k] at hp hp'
      rw [show x = ((j + 1 : Nat) : Int) by omega]
      exact hn (j + 1) ⟨by omega, hp, hp'⟩ (by omega)
  · have hge := of_decide_eq_false hge
    have : j = l.length := by omega
    subst this
    rw [List.drop_length] at hp'
    exact he _ _ (hq1 hp')
set_option maxHeartbeats 400000 in
set_option maxRecDepth 100000 in
theorem sFind2 : Sound Tryd.prog 51 SFind := by
  refine sound_of (C := CFind2) [] Tryd.func51 (by kernel_rfl) (by decide +kernel) (by kernel_rfl) rfl trivial (loops1 (by kernel_rfl) (loopOK_of (an := anFind2) (S := LFind2) (by kernel_rfl) loopFind2)) ?_
  intro hargs pars R h
  unfold SFind at h
  split at h
  case h_2 => exfalso; exact h
  rename_i l c
  have hq := h.2
  exact byVC (vcFind2 l c R) ⟨⟨rfl, h.1⟩, fun e => by rw [fndN_none e, e] at hq; exact hq, fun e => by rw [e] at hq; exact hq⟩
theorem ok_20 {n : Int} (h : vl n = true) : okU n 20 = true := by unfold okU; rw [h]; rfl
theorem ok_21 {n : Int} (h : vl n = true) : okU n 21 = true := by unfold okU; rw [h]; rfl
theorem ok_vl {n u : Int} (h : vl n = false) : okU n u = false := by unfold okU; rw [h]; rfl
theorem ok_u {n u : Int} (h : u ≠ 20) (h2 : u ≠ 21) : okU n u = false := by
  unfold okU
  have e1 : (u == 20) = false := by simpa using h
  have e2 : (u == 21) = false := by simpa using h2
  rw [e1, e2]; simp
theorem ln_bad {n u : Int} {R : Res → Prop} (hq : R ⟨.tup [.ce (.int .i64 (lnN n u)), .ce (.int .i64 (lnE n u))], false, [], []⟩) (h : okU n u = false) : R ⟨.tup [.ce (.int .i64 0), .ce (.int .i64 1)], false, [], []⟩ := by
  have e : lnE n u = 1 := by unfold lnE; rw [h]; rfl
  unfold lnN at hq
  rw [e] at hq
  exact hq
theorem ln_out {n u : Int} {R : Res → Prop} (hq : R ⟨.tup [.ce (.int .i64 (lnN n u)), .ce (.int .i64 (lnE n u))], false, [], []⟩) (h : okU n u = true) (h2 : lnV n u < -1048576 ∨ lnV n u > 1048576) : R ⟨.tup [.ce (.int .i64 0), .ce (.int .i64 3)], false, [], []⟩ := by
  have e : lnE n u = 3 := by unfold lnE; rw [h, if_pos rfl, if_pos h2]
  unfold lnN at hq
  rw [e] at hq
  exact hq
theorem ln_ok {n u : Int} {R : Res → Prop} (hq : R ⟨.tup [.ce (.int .i64 (lnN n u)), .ce (.int .i64 (lnE n u))], false, [], []⟩) (h : okU n u = true) (h2 : ¬ (lnV n u < -1048576 ∨ lnV n u > 1048576)) {x : Int} (hx : x = lnV n u) : R ⟨.tup [.ce (.int .i64 x), .ce (.int .i64 0)], false, [], []⟩ := by
  have e : lnE n u = 0 := by unfold lnE; rw [h, if_pos rfl, if_neg h2]
  unfold lnN at hq
  rw [e] at hq
  rw [hx]
  exact hq
theorem lnV20 (n : Int) : lnV n 20 = mdv (n * 254) 10000 2 := rfl
theorem lnV21 (n : Int) : lnV n 21 = mdv (n * 1) 1000 2 := rfl
set_option maxHeartbeats 400000 in
set_option maxRecDepth 100000 in
theorem sLen : Sound Tryd.prog 48 SLen := by
  refine sound_of (C := CLen) tabLen Tryd.func48 (by kernel_rfl) (by decide +kernel) (by kernel_rfl) rfl ⟨sVl, sMulDiv, trivial⟩ (loops0 (by kernel_rfl)) ?_
  intro hargs pars R h
  unfold SLen at h
  split at h
  case h_2 => exfalso; exact h
  rename_i n u
  have hq := h.2
  clear h
  refine byVC (vcLen n u R) ⟨trivial, fun x1 e1 => ⟨fun k => ln_bad hq (ok_vl (by rw [← e1]; simpa using k)), fun k => ?_⟩⟩
  have hv : vl n = true := by rw [← e1]; simpa using k
  have hb := vl_iff.1 hv
  refine ⟨fun k1 => ⟨fun k2 => ln_bad hq (ok_u (by simpa using k1) (by simpa using k2)), fun k2 => ?_⟩, fun k1 => ?_⟩
  · have k1 : u ≠ 20 := by simpa using k1
    have k2 : u = 21 := by simpa using k2
    subst k2
    have h21 := ok_21 hv
    have hl := lnV21 n
    refine ⟨⟨by omega, by omega, by omega, by omega, by omega⟩, fun x2 e2 x3 e3 => ⟨fun z => absurd z (by simp), fun z => ⟨fun y => absurd y (by simp [e3]), fun y => ⟨fun a => ln_out hq h21 (.inl ?_), fun a => ⟨fun b => ln_out hq h21 (.inr ?_), fun b => ln_ok hq h21 ?_ (by omega)⟩⟩⟩⟩⟩
    all_goals
      simp only [decide_eq_true_eq, decide_eq_false_iff_not] at *
      omega
  · have k1 : u = 20 := by simpa using k1
    subst k1
    have h20 := ok_20 hv
    have hl := lnV20 n
    refine ⟨⟨by omega, by omega, by omega, by omega, by omega⟩, fun x2 e2 x3 e3 => ⟨fun z => ⟨⟨by omega, by omega, by omega, by omega, by omega⟩, fun x4 e4 x5 e5 => ⟨fun y => absurd y (by simp [e5]), fun y => ⟨fun a => ln_out hq h20 (.inl ?_), fun a => ⟨fun b => ln_out hq h20 (.inr ?_), fun b => ln_ok hq h20 ?_ (by omega)⟩⟩⟩⟩, fun z => absurd z (by simp)⟩⟩
    all_goals
      simp only [decide_eq_true_eq, decide_eq_false_iff_not] at *
      omega
set_option maxHeartbeats 400000 in
set_option maxRecDepth 100000 in
theorem sLen2 : Sound Tryd.prog 52 SLen := by
  refine sound_of (C := CLen2) tabLen2 Tryd.func52 (by kernel_rfl) (by decide +kernel) (by kernel_rfl) rfl ⟨sVl2, sRMulDiv, trivial⟩ (loops0 (by kernel_rfl)) ?_
  intro hargs pars R h
  unfold SLen at h
  split at h
  case h_2 => exfalso; exact h
  rename_i n u
  have hq := h.2
  clear h
  refine byVC (vcLen2 n u R) ⟨trivial, fun x1 e1 => ⟨fun k => ln_bad hq (ok_vl (by rw [← e1]; simpa using k)), fun k => ?_⟩⟩
  have hv : vl n = true := by rw [← e1]; simpa using k
  have hb := vl_iff.1 hv
  have r1 := rmd_mdv (a := n) (b := 1) (c := 1000) (m := 2) (by omega) (by omega) (by omega)
  have r2 := rmd_mdv (a := n) (b := 254) (c := 10000) (m := 2) (by omega) (by omega) (by omega)
  refine ⟨fun k1 => ⟨fun k2 => ln_bad hq (ok_u (by simpa using k1) (by simpa using k2)), fun k2 => ?_⟩, fun k1 => ?_⟩
  · have k1 : u ≠ 20 := by simpa using k1
    have k2 : u = 21 := by simpa using k2
    subst k2
    have h21 := ok_21 hv
    have hl := lnV21 n
    rw [r1]
    refine ⟨⟨by omega, by omega, by omega⟩, fun x2 e2 x3 e3 => ⟨fun z => absurd z (by simp), fun z => ⟨fun y => absurd y (by simp [e3]), fun y => ⟨fun a => ln_out hq h21 (.inr ?_), fun a => ⟨fun b => ln_out hq h21 (.inl ?_), fun b => ln_ok hq h21 ?_ (by rw [e2, hl])⟩⟩⟩⟩⟩
    all_goals
      simp only [decide_eq_true_eq, decide_eq_false_iff_not] at *
      omega
  · have k1 : u = 20 := by simpa using k1
    subst k1
    have h20 := ok_20 hv
    have hl := lnV20 n
    rw [r2]
    refine ⟨⟨by omega, by omega, by omega⟩, fun x2 e2 x3 e3 => ⟨fun z => ⟨⟨by omega, by omega, by omega⟩, fun x4 e4 x5 e5 => ⟨fun y => absurd y (by simp [e5]), fun y => ⟨fun a => ln_out hq h20 (.inr ?_), fun a => ⟨fun b => ln_out hq h20 (.inl ?_), fun b => ln_ok hq h20 ?_ (by rw [e4, hl])⟩⟩⟩⟩, fun z => absurd z (by simp)⟩⟩
    all_goals
      simp only [decide_eq_true_eq, decide_eq_false_iff_not] at *
      omega
theorem tmod_small {v n : Int} (h : 0 < n) : (v.tmod n < 0 → v.tmod n + n = v % n) ∧ (¬ v.tmod n < 0 → v.tmod n = v % n) := by
  have b := tmod_lt (a := v) h
  have e := Int.mul_tdiv_add_tmod v n
  have k : v % n = (v.tmod n) % n := by
    conv => lhs; rw [← e]
    rw [Int.mul_add_emod_self_left]
  constructor
  · intro z
    rw [k, ← Int.add_emod_right, Int.emod_eq_of_lt (by omega) (by omega)]
  · intro z
    rw [k, Int.emod_eq_of_lt (by omega) (by omega)]
set_option maxHeartbeats 400000 in
set_option maxRecDepth 100000 in
theorem sLight : Sound Tryd.prog 11 SLight := by
  refine sound_of (C := CLight) [] Tryd.func11 (by kernel_rfl) (by decide +kernel) (by kernel_rfl) rfl trivial (loops0 (by kernel_rfl)) ?_
  intro hargs pars R h
  unfold SLight at h
  split at h
  case h_2 => exfalso; exact h
  exact byVC (vcLight _ R) h.2
set_option maxHeartbeats 400000 in
set_option maxRecDepth 100000 in
theorem sMod : Sound Tryd.prog 28 SMod := by
  refine sound_of (C := CMod) [] Tryd.func28 (by kernel_rfl) (by decide +kernel) (by kernel_rfl) rfl trivial (loops0 (by kernel_rfl)) ?_
  intro hargs pars R h
  unfold SMod at h
  split at h
  case h_2 => exfalso; exact h
  rename_i v n
  obtain ⟨⟨h1, h2⟩, hq⟩ := h
  have := tmod_lt (a := v) h1
  refine byVC (vcMod v n R) ⟨by omega, fun x1 e1 => ⟨fun k => ⟨by omega, fun x2 e2 => ?_⟩, fun k => ?_⟩⟩
  · have k := of_decide_eq_true k
    have : x2 = v % n := by rw [e2, e1]; exact (tmod_small h1).1 (by rw [← e1]; exact k)
    rw [this]; exact hq
  · have k := of_decide_eq_false k
    have : x1 = v % n := by rw [e1]; exact (tmod_small h1).2 (by rw [← e1]; exact k)
    rw [this]; exact hq
set_option maxHeartbeats 400000 in
set_option maxRecDepth 100000 in
theorem sBetween : Sound Tryd.prog 27 SBetween := by
  refine sound_of (C := CBetween) tabBetween Tryd.func27 (by kernel_rfl) (by decide +kernel) (by kernel_rfl) rfl ⟨sMod, trivial⟩ (loops0 (by kernel_rfl)) ?_
  intro hargs pars R h
  unfold SBetween at h
  split at h
  case h_2 => exfalso; exact h
  rename_i v a b
  obtain ⟨⟨h1, h2, h3, h4⟩, hq⟩ := h
  refine byVC (vcBetween v a b R) ⟨by omega, fun x1 e1 => ⟨by omega, fun x2 e2 => ⟨by omega, fun x3 e3 => ?_⟩⟩⟩
  subst e1 e2
  have := Int.emod_nonneg v (b := b - a + 1) (by omega)
  have := Int.emod_lt_of_pos v (b := b - a + 1) (by omega)
  refine ⟨by omega, fun x4 e4 => ?_⟩
  rw [e4, e3]; exact hq
theorem rng_ex {a b : Int} (l : List (List Int)) (p : Int) (h : a ≤ b) : ∃ x : Int × Int, a ≤ x.1 ∧ x.1 ≤ b ∧ x.2 = adv l p := ⟨(a, adv l p), Int.le_refl _, h, rfl⟩
theorem sml_el {c : List (List Int)} (h : sml c = true) (i : Nat) (hi : i < c.length) : 0 ≤ el c i ∧ el c i ≤ 99 := by
  unfold sml at h
  rw [List.all_eq_true] at h
  have := h (c.getD i []) (by rw [List.getD_eq_getElem?_getD, List.getElem?_eq_getElem hi]; exact List.getElem_mem hi)
  rw [Bool.and_eq_true] at this
  exact ⟨of_decide_eq_true this.1, of_decide_eq_true this.2⟩
set_option maxHeartbeats 400000 in
set_option maxRecDepth 100000 in
theorem sNew : Sound Tryd.prog 14 SNew := by
  refine sound_of (C := CNew) [] Tryd.func14 (by kernel_rfl) (by decide +kernel) (by kernel_rfl) rfl trivial (loops0 (by kernel_rfl)) ?_
  intro hargs pars R h
  unfold SNew at h
  split at h
  case h_2 => exfalso; exact h
  exact byVC (vcNew _ R) h.2
set_option maxHeartbeats 400000 in
set_option maxRecDepth 100000 in
theorem sNext : Sound Tryd.prog 41 SNext := by
  refine sound_of (C := CNext) tabNext Tryd.func41 (by kernel_rfl) (by decide +kernel) (by kernel_rfl) rfl ⟨sMod, trivial⟩ (loops0 (by kernel_rfl)) ?_
  intro hargs pars R h
  unfold SNext at h
  split at h
  case h_2 => exfalso; exact h
  rename_i m l p
  obtain ⟨⟨h1, h2, h3, h4⟩, _, hq⟩ := h
  refine byVC (vcNext l p m R) ⟨fun e => ?_, fun e => ?_⟩
  · have e := of_decide_eq_true e
    exact hq (0, p) ⟨Int.le_refl _, h1, by unfold adv; rw [if_neg (by omega)]⟩
  · have e := of_decide_eq_false e
    refine ⟨by omega, fun x1 e1 => ⟨by omega, fun x2 e2 => ⟨by omega, fun x3 e3 => ⟨⟨h1, h2⟩, fun y ey => ?_⟩⟩⟩⟩
    subst ey
    exact hq (x3 % m, x1) ⟨Int.emod_nonneg _ (by omega), Int.emod_lt_of_pos _ h1, by unfold adv; rw [if_pos (by omega)]; exact e1⟩
set_option maxHeartbeats 400000 in
set_option maxRecDepth 100000 in
theorem sRange : Sound Tryd.prog 42 SRange := by
  refine sound_of (C := CRange) tabRange Tryd.func42 (by kernel_rfl) (by decide +kernel) (by kernel_rfl) rfl ⟨sNext, trivial⟩ (loops0 (by kernel_rfl)) ?_
  intro hargs pars R h
  unfold SRange at h
  split at h
  case h_2 => exfalso; exact h
  rename_i a b l p
  obtain ⟨⟨h1, h2, h3, h4⟩, _, hq⟩ := h
  refine byVC (vcRange l p a b R) ⟨by omega, fun x1 e1 => ⟨by omega, fun x2 e2 => ⟨⟨by omega, by omega, h4⟩, drew_ex _ _ (by omega), fun x hx => ?_⟩⟩⟩
  have k1 := hx.1
  have k2 := hx.2.1
  refine ⟨by omega, fun x4 e4 => ?_⟩
  exact hq (x4, x.2) ⟨by dsimp only; omega, by dsimp only; omega, hx.2.2⟩
set_option maxHeartbeats 400000 in
set_option maxRecDepth 100000 in
theorem sNumb : Sound Tryd.prog 43 SNumb := by
  refine sound_of (C := CNumb) tabRange Tryd.func43 (by kernel_rfl) (by decide +kernel) (by kernel_rfl) rfl ⟨sNext, trivial⟩ (loops0 (by kernel_rfl)) ?_
  intro hargs pars R h
  unfold SNumb at h
  split at h
  case h_2 => exfalso; exact h
  rename_i l p
  obtain ⟨h1, _, hq⟩ := h
  refine byVC (vcNumb l p R) ⟨⟨by decide, by decide, h1⟩, drew_ex _ _ (by decide), fun x hx => ?_⟩
  have h2 := drew_src h1 hx
  refine ⟨fun _ => ⟨⟨by decide, by decide, h2⟩, drew_ex _ _ (by decide), fun y hy => ?_⟩, fun _ => ⟨fun _ => ⟨⟨by decide, by decide, h2⟩, drew_ex _ _ (by decide), fun y hy => ?_⟩, fun _ => ⟨fun _ => ⟨⟨by decide, by decide, h2⟩, drew_ex _ _ (by decide), fun y hy => ?_⟩, fun _ => ⟨fun _ => ⟨⟨by decide, by decide, h2⟩, drew_ex _ _ (by decide), fun y hy => ?_⟩, fun _ => ⟨⟨by decide, by decide, h2⟩, drew_ex _ _ (by decide), fun y hy => ?_⟩⟩⟩⟩⟩
  all_goals
    have b1 := hy.1
    have b2 := hy.2.1
    have b3 := drew_src h2 hy
  · exact hq (y.1, y.2) ⟨b1, by dsimp only; omega, b3⟩
  all_goals
    refine ⟨by omega, fun z ez => ?_⟩
    exact hq (z, y.2) ⟨by dsimp only; omega, by dsimp only; omega, b3⟩
set_option maxHeartbeats 400000 in
set_option maxRecDepth 100000 in
theorem sMakeM : Sound Tryd.prog 13 SMakeM := by
  refine sound_of (C := CMakeM) tabMakeM Tryd.func13 (by kernel_rfl) (by decide +kernel) (by kernel_rfl) rfl ⟨sNext, sRange, trivial⟩ (loops0 (by kernel_rfl)) ?_
  intro hargs pars R h
  unfold SMakeM at h
  split at h
  case h_2 => exfalso; exact h
  rename_i l p
  obtain ⟨hs0, _, hq⟩ := h
  refine byVC (vcMakeM l p R) ?_
  refine ⟨⟨by decide, by decide, hs0⟩, drew_ex _ _ (by decide), fun x1 hx1 => ?_⟩
  have hs1 := drew_src hs0 hx1
  refine ⟨⟨hx1.1, hx1.2.1⟩, fun y2 ey2 => ?_⟩
  refine ⟨⟨by decide, by decide, by decide, hs1⟩, rng_ex (a := 17) _ _ (by decide), fun x3 hx3 => ?_⟩
  have hs3 : inSrc l x3.2 := by rw [hx3.2.2]; exact inSrc_adv hs1
  refine ⟨⟨by decide, by decide, by decide, hs3⟩, rng_ex (a := 90) _ _ (by decide), fun x4 hx4 => ?_⟩
  have hs4 : inSrc l x4.2 := by rw [hx4.2.2]; exact inSrc_adv hs3
  refine ⟨⟨by decide, by decide, by decide, hs4⟩, rng_ex (a := 20) _ _ (by decide), fun x5 hx5 => ?_⟩
  have hs5 : inSrc l x5.2 := by rw [hx5.2.2]; exact inSrc_adv hs4
  refine ⟨⟨by decide, by decide, by decide, hs5⟩, rng_ex (a := 94) _ _ (by decide), fun x6 hx6 => ?_⟩
  have hs6 : inSrc l x6.2 := by rw [hx6.2.2]; exact inSrc_adv hs5
  refine ⟨⟨by decide, by decide, by decide, hs6⟩, rng_ex (a := 40) _ _ (by decide), fun x7 hx7 => ?_⟩
  have hs7 : inSrc l x7.2 := by rw [hx7.2.2]; exact inSrc_adv hs6
  refine ⟨⟨by decide, by decide, hs7⟩, drew_ex _ _ (by decide), fun x8 hx8 => ?_⟩
  have hs8 := drew_src hs7 hx8
  refine ⟨⟨hx8.1, hx8.2.1⟩, fun y9 ey9 => ?_⟩
  refine ⟨⟨by decide, by decide, by decide, hs8⟩, rng_ex (a := 98) _ _ (by decide), fun x10 hx10 => ?_⟩
  have hs10 : inSrc l x10.2 := by rw [hx10.2.2]; exact inSrc_adv hs8
  refine ⟨⟨by decide, by decide, by decide, hs10⟩, rng_ex (a := 54) _ _ (by decide), fun x11 hx11 => ?_⟩
  have hs11 : inSrc l x11.2 := by rw [hx11.2.2]; exact inSrc_adv hs10
  refine ⟨⟨by decide, by decide, hs11⟩, drew_ex _ _ (by decide), fun x12 hx12 => ?_⟩
  have hs12 := drew_src hs11 hx12
  refine ⟨⟨hx12.1, hx12.2.1⟩, fun y13 ey13 => ?_⟩
  refine ⟨⟨by decide, by decide, by decide, hs12⟩, rng_ex (a := 15) _ _ (by decide), fun x14 hx14 => ?_⟩
  have hs14 : inSrc l x14.2 := by rw [hx14.2.2]; exact inSrc_adv hs12
  refine ⟨⟨by decide, by decide, by decide, hs14⟩, rng_ex (a := 68) _ _ (by decide), fun x15 hx15 => ?_⟩
  have hs15 : inSrc l x15.2 := by rw [hx15.2.2]; exact inSrc_adv hs14
  refine ⟨⟨by decide, by decide, by decide, hs15⟩, rng_ex (a := 3) _ _ (by decide), fun x16 hx16 => ?_⟩
  have hs16 : inSrc l x16.2 := by rw [hx16.2.2]; exact inSrc_adv hs15
  refine ⟨⟨by decide, by decide, hs16⟩, drew_ex _ _ (by decide), fun x17 hx17 => ?_⟩
  have hs17 := drew_src hs16 hx17
  refine ⟨⟨by decide, by decide, hs17⟩, drew_ex _ _ (by decide), fun x18 hx18 => ?_⟩
  have hs18 := drew_src hs17 hx18
  refine ⟨⟨by decide, by decide, hs18⟩, drew_ex _ _ (by decide), fun x19 hx19 => ?_⟩
  have hs19 := drew_src hs18 hx19
  refine ⟨⟨by decide, by decide, hs19⟩, drew_ex _ _ (by decide), fun x20 hx20 => ?_⟩
  have hs20 := drew_src hs19 hx20
  refine ⟨⟨by decide, by decide, hs20⟩, drew_ex _ _ (by decide), fun x21 hx21 => ?_⟩
  have hs21 := drew_src hs20 hx21
  refine ⟨⟨by decide, by decide, hs21⟩, drew_ex _ _ (by decide), fun x22 hx22 => ?_⟩
  have hs22 := drew_src hs21 hx22
  refine ⟨⟨by decide, by decide, hs22⟩, drew_ex _ _ (by decide), fun x23 hx23 => ?_⟩
  have hs23 := drew_src hs22 hx23
  refine ⟨⟨by decide, by decide, hs23⟩, drew_ex _ _ (by decide), fun x24 hx24 => ?_⟩
  have hs24 := drew_src hs23 hx24
  refine ⟨fun kk => ⟨⟨by decide, by decide, hs24⟩, drew_ex _ _ (by decide), fun z hz => ?_⟩, fun kk => ?_⟩
  · exact hq (M.mk _ _ _ _ _ _ _ _ _ _ _ _ _ _ _ _ _ _ _ _ _ _, _) ⟨⟨hx3.1, hx3.2.1⟩, drew_src hs24 hz⟩
  · exact hq (M.mk _ _ _ _ _ _ _ _ _ _ _ _ _ _ _ _ _ _ _ _ _ _, _) ⟨⟨hx3.1, hx3.2.1⟩, hs24⟩
theorem loopV0 : ∀ v Q, (LV01 0 v).wp Q → hloop CValues anV0 (nthLoop Tryd.f15 0) v Q := by
  intro v Q h
  unfold LV01 at h
  split at h
  case h_2 => exfalso; exact h
  rename_i acc0 c n0 l p0
  obtain ⟨⟨h1, h2, h3, h4, h5, h6, h7⟩, hq⟩ := h
  refine hloop_rec (σ := List (List Int) × Int × Int) (fun s => ([.ce (.ptr 0 0), .ce (.sl false [4, 4] s.1), .ce (.lit true), .ce (.sl false [4] c), .ce (.int .i64 s.2.1)], [[.sl false [4] l, .int .i64 s.2.2]])) (fun s => s.2.1.toNat)
    (fun s => 0 ≤ s.2.1 ∧ s.2.1 ≤ 10 ∧ inSrc l s.2.2 ∧ (s.1.length : Int) + s.2.1 ≤ acc0.length + n0) ?_ (acc0, n0, p0) ⟨h1, h2, h3, Int.le_refl _⟩
  rintro ⟨acc, n, p⟩ ⟨i1, i2, i3, i4⟩ K hn he _
  dsimp only at i1 i2 i3 i4 hn ⊢
  refine byVB (vbV0 acc c l n p K) ⟨fun k => ?_, fun k => ?_⟩
  · have k := of_decide_eq_true k
    refine ⟨⟨by omega, by omega, i3⟩, drew_ex _ _ (by omega), fun x hx => ⟨⟨hx.1, hx.2.1⟩, fun x2 e2 => ?_⟩⟩
    have b2 := sml_el h5 x.1.toNat (by have := hx.1; have := hx.2.1; omega)
    refine ⟨by omega, fun x3 e3 => ⟨⟨by omega, by unfold maxLen; omega⟩, by omega, fun x4 e4 => ?_⟩⟩
    exact hn (acc ++ [[71, x3]], x4, x.2) ⟨(by dsimp only; omega), (by dsimp only; omega), (show inSrc l x.2 from drew_src i3 hx), (by dsimp only; rw [List.length_append, List.length_singleton]; omega)⟩ (by dsimp only; omega)
  · have k := of_decide_eq_false k
    exact he _ _ (hq (acc, p) ⟨i3, by dsimp only; omega⟩)
theorem loopV1 : ∀ v Q, (LV01 2 v).wp Q → hloop CValues anV1 (nthLoop Tryd.f15 1) v Q := by
  intro v Q h
  unfold LV01 at h
  split at h
  case h_2 => exfalso; exact h
  rename_i acc0 c n0 l p0
  obtain ⟨⟨h1, h2, h3, h4, h5, h6, h7⟩, hq⟩ := h
  refine hloop_rec (σ := List (List Int) × Int × Int) (fun s => ([.ce (.ptr 0 0), .ce (.sl false [4, 4] s.1), .ce (.lit true), .ce (.sl false [4] c), .ce (.int .i64 s.2.1)], [[.sl false [4] l, .int .i64 s.2.2]])) (fun s => s.2.1.toNat)
    (fun s => 0 ≤ s.2.1 ∧ s.2.1 ≤ 10 ∧ inSrc l s.2.2 ∧ (s.1.length : Int) + s.2.1 ≤ acc0.length + n0) ?_ (acc0, n0, p0) ⟨h1, h2, h3, Int.le_refl _⟩
  rintro ⟨acc, n, p⟩ ⟨i1, i2, i3, i4⟩ K hn he _
  dsimp only at i1 i2 i3 i4 hn ⊢
  refine byVB (vbV1 acc c l n p K) ⟨fun k => ?_, fun k => ?_⟩
  · have k := of_decide_eq_true k
    refine ⟨⟨by omega, by omega, i3⟩, drew_ex _ _ (by omega), fun x hx => ⟨⟨hx.1, hx.2.1⟩, fun x2 e2 => ?_⟩⟩
    have b2 := sml_el h5 x.1.toNat (by have := hx.1; have := hx.2.1; omega)
    refine ⟨by omega, fun x3 e3 => ⟨⟨by omega, by unfold maxLen; omega⟩, by omega, fun x4 e4 => ?_⟩⟩
    exact hn (acc ++ [[77, x3]], x4, x.2) ⟨(by dsimp only; omega), (by dsimp only; omega), (show inSrc l x.2 from drew_src i3 hx), (by dsimp only; rw [List.length_append, List.length_singleton]; omega)⟩ (by dsimp only; omega)
  · have k := of_decide_eq_false k
    exact he _ _ (hq (acc, p) ⟨i3, by dsimp only; omega⟩)
theorem byte_bd (b : UInt8) : -9223372036854775808 ≤ Int.ofNat b.toBitVec.toNat ∧ Int.ofNat b.toBitVec.toNat ≤ 9223372036854775807 := by
  have := b.toBitVec.isLt
  have e : Int.ofNat b.toBitVec.toNat = ((b.toBitVec.toNat : Nat) : Int) := rfl
  rw [e]
  omega
theorem loopV2 : ∀ v Q, (LV2 v).wp Q → hloop CValues anV2 (nthLoop Tryd.f15 2) v Q := by
  intro v Q h
  unfold LV2 at h
  split at h
  case h_2 => exfalso; exact h
  rename_i acc0 s i0 l p0
  cases hsz : Nat.ble s.size 20 with
  | false => rw [hsz] at h; exfalso; exact h
  | true =>
  rw [hsz] at h
  have hsz : s.data.1.length ≤ 20 := Nat.le_of_ble_eq_true hsz
  obtain ⟨⟨h1, h2, h3, h4⟩, hq⟩ := h
  refine hloop_rec (σ := List (List Int) × Int × Int) (fun t => ([.ce (.ptr 0 0), .ce (.sl false [4, 4] t.1), .ce (.lit true), .ce (.str s), .ce (.int .i64 t.2.1)], [[.sl false [4] l, .int .i64 t.2.2]])) (fun t => (20 - t.2.1).toNat)
    (fun t => 0 ≤ t.2.1 ∧ t.2.1 ≤ 20 ∧ inSrc l t.2.2 ∧ (t.1.length : Int) + (20 - t.2.1) ≤ acc0.length + (20 - i0)) ?_ (acc0, i0, p0) ⟨h1, h2, h3, Int.le_refl _⟩
  rintro ⟨acc, i, p⟩ ⟨i1, i2, i3, i4⟩ K hn he _
  dsimp only at i1 i2 i3 i4 hn ⊢
  refine byVB (vbV2 acc l s i p K) ⟨fun k => ?_, fun k => ?_⟩
  · have k := of_decide_eq_true k
    refine ⟨⟨by decide, by decide, i3⟩, drew_ex _ _ (by decide), fun x hx => ⟨fun _ => ⟨drew_src i3 hx, ⟨(0, x.2), Int.le_refl _, (by decide : (0 : Int) ≤ 1000000000000000), (show inSrc l x.2 from drew_src i3 hx)⟩, fun y hy => ⟨⟨by decide, by decide, hy.2.2⟩, drew_ex _ _ (by decide), fun z hz => ⟨fun _ => ?_, fun _ => ?_⟩⟩⟩, fun _ => ⟨by omega, fun x9 e9 => ?_⟩⟩⟩
    · have y1 := hy.1
      have y2 := hy.2.1
      refine ⟨by omega, fun x4 e4 => ⟨⟨i1, k⟩, ?_, fun x5 e5 => ⟨⟨by omega, by unfold maxLen; omega⟩, by omega, fun x6 e6 => ?_⟩⟩⟩
      · exact byte_bd _
      · exact hn (acc ++ [[x5, x4]], x6, z.2) ⟨(by dsimp only; omega), (by dsimp only; omega), (show inSrc l z.2 from drew_src hy.2.2 hz), (by dsimp only; rw [List.length_append, List.length_singleton]; omega)⟩ (by dsimp only; omega)
    · refine ⟨⟨i1, k⟩, ?_, fun x5 e5 => ⟨⟨by omega, by unfold maxLen; omega⟩, by omega, fun x6 e6 => ?_⟩⟩
      · exact byte_bd _
      · exact hn (acc ++ [[x5, y.1]], x6, z.2) ⟨(by dsimp only; omega), (by dsimp only; omega), (show inSrc l z.2 from drew_src hy.2.2 hz), (by dsimp only; rw [List.length_append, List.length_singleton]; omega)⟩ (by dsimp only; omega)
    · exact hn (acc, x9, x.2) ⟨(by dsimp only; omega), (by dsimp only; omega), (show inSrc l x.2 from drew_src i3 hx), (by dsimp only; omega)⟩ (by dsimp only; omega)
  · have k := of_decide_eq_false k
    exact he _ _ (hq (acc, p) ⟨i3, by dsimp only; omega⟩)
set_option maxHeartbeats 400000 in
set_option maxRecDepth 100000 in
theorem sValues : Sound Tryd.prog 15 SValues := by
  refine sound_of (C := CValues) tabValues Tryd.func15 (by kernel_rfl) (by decide +kernel) (by kernel_rfl) rfl ⟨sNext, sNumb, trivial⟩ (loops3 (by kernel_rfl) (loopOK_of (an := anV0) (S := LV01 0) (by kernel_rfl) loopV0) (loopOK_of (an := anV1) (S := LV01 2) (by kernel_rfl) loopV1) (loopOK_of (an := anV2) (S := LV2) (by kernel_rfl) loopV2)) ?_
  intro hargs pars R h
  unfold SValues at h
  split at h
  case h_2 => exfalso; exact h
  rename_i l p
  obtain ⟨h1, _, hq⟩ := h
  refine byVC (vcValues l p R) ⟨⟨by decide, by decide, h1⟩, drew_ex _ _ (by decide), fun x hx => ?_⟩
  have x1 := hx.1
  have x2 := hx.2.1
  refine ⟨⟨x1, by omega, drew_src h1 hx, by decide, by decide, by decide, by decide⟩, fun y hy => ?_⟩
  have y2 := hy.2
  refine ⟨⟨by decide, by decide, hy.1⟩, drew_ex _ _ (by decide), fun z hz => ?_⟩
  have z1 := hz.1
  have z2 := hz.2.1
  refine ⟨⟨z1, by omega, drew_src hy.1 hz, by omega, by decide, by decide, by decide⟩, fun w hw => ?_⟩
  have w2 := hw.2
  refine ⟨⟨by decide, by decide, hw.1, by omega⟩, fun u hu => ?_⟩
  have u2 := hu.2
  exact hq (u.1, u.2) ⟨hu.1, by dsimp only; omega⟩
end Go.Proofs.YtgnknciihdajiaaDoor
namespace U
open Go Go.HL
structure C3 where
  x : Int
  y : Int
  z : Int
def cstep (i : Nat) (s : C3) : C3 :=
  if s.z ≥ 0 then ⟨s.x - s.y.fdiv (2 ^ i), s.y + s.x.fdiv (2 ^ i), s.z - atab.getD i 0⟩ else ⟨s.x + s.y.fdiv (2 ^ i), s.y - s.x.fdiv (2 ^ i), s.z + atab.getD i 0⟩
def cord (z : Int) : Nat → C3
  | 0 => ⟨652032874, 0, z⟩
  | n + 1 => cstep n (cord z n)
def trn : Nat → Int × Int → Int × Int
  | 0, p => p
  | n + 1, p => trn n (-p.2, p.1)
def ang (a : Int) : Int := a % 360000000
def akq (a : Int) : Int := (ang a + 45000000) / 90000000
def ars (a : Int) : Int := ang a - akq a * 90000000
def cs0 (a : Int) : Int × Int := if ars a ≠ 0 then ((cord (ars a * 1000) 26).x, (cord (ars a * 1000) 26).y) else (1073741824, 0)
def scC (a : Int) : Int := (trn (akq a).toNat (cs0 a)).1
def scS (a : Int) : Int := (trn (akq a).toNat (cs0 a)).2
def nr (n : Int) : Int := (n + 536870912) / 1073741824
def rtB (x y : Int) : Bool := decide (-4194304 ≤ x ∧ x ≤ 4194304 ∧ -4194304 ≤ y ∧ y ≤ 4194304)
def rtU (x y a : Int) : Int := if rtB x y then nr (x * scC a - y * scS a) else 0
def rtW (x y a : Int) : Int := if rtB x y then nr (x * scS a + y * scC a) else 0
def tabC : List HC := [.int .i64 45000000000, .int .i64 26565051177, .int .i64 14036243468, .int .i64 7125016349, .int .i64 3576334375, .int .i64 1789910608, .int .i64 895173710, .int .i64 447614171, .int .i64 223810500, .int .i64 111905677, .int .i64 55952892, .int .i64 27976453, .int .i64 13988227, .int .i64 6994114, .int .i64 3497057, .int .i64 1748528, .int .i64 874264, .int .i64 437132, .int .i64 218566, .int .i64 109283, .int .i64 54642, .int .i64 27321, .int .i64 13660, .int .i64 6830, .int .i64 3415, .int .i64 1708]
def tabR : List (List Int) := [[45000000000], [26565051177], [14036243468], [7125016349], [3576334375], [1789910608], [895173710], [447614171], [223810500], [111905677], [55952892], [27976453], [13988227], [6994114], [3497057], [1748528], [874264], [437132], [218566], [109283], [54642], [27321], [13660], [6830], [3415], [1708]]
end U
namespace Go.Proofs.YtgnknciihdajiaaDoor
open Go Go.HL U
def SRem (hargs : List HV) (pars : List (List HC)) : SR :=
  match hargs, pars with
  | [.ce (.int .i64 a), .ce (.int .i64 b)], [] => .det (0 < b ∧ b ≤ 4611686018427387904) ⟨.ce (.int .i64 (a % b)), false, [], []⟩
  | _, _ => .fail
noncomputable def CRem : Ctx := ⟨Tryd.prog, gam [], Tryd.f89.ntmps, [], []⟩
theorem vcRem (a b : Int) (Q : Res → Prop) : (nfun true CRem Tryd.f89 (bodyOf Tryd.f89) [.ce (.int .i64 a), .ce (.int .i64 b)] [] Q) =
    (b ≠ 0 ∧ ∀ (x1 : Int), x1 = Int.tmod a b → (decide (x1 < 0) = true → (-9223372036854775808 ≤ x1 + b ∧ x1 + b ≤ 9223372036854775807) ∧ ∀ (x2 : Int), x2 = x1 + b → Q ⟨.ce (.int .i64 x2), false, [], []⟩) ∧ (decide (x1 < 0) = false → Q ⟨.ce (.int .i64 x1), false, [], []⟩)) := by kernel_rfl
def STrn (hargs : List HV) (pars : List (List HC)) : SR :=
  match hargs, pars with
  | [.ce (.int .i64 x), .ce (.int .i64 y), .ce (.int .i64 k)], [] => .det ((-4611686018427387904 ≤ x ∧ x ≤ 4611686018427387904) ∧ (-4611686018427387904 ≤ y ∧ y ≤ 4611686018427387904) ∧ (0 ≤ k ∧ k ≤ 4611686018427387904)) ⟨.tup [.ce (.int .i64 (trn k.toNat (x, y)).1), .ce (.int .i64 (trn k.toNat (x, y)).2)], false, [], []⟩
  | _, _ => .fail
def anTrn : LAnn := ⟨[0, 1, 2], [0, 1], [], false⟩
def LTrn (v : LV) : LR :=
  match v with
  | ([.ce (.int .i64 x), .ce (.int .i64 y), .ce (.int .i64 k)], []) => .det ((-4611686018427387904 ≤ x ∧ x ≤ 4611686018427387904) ∧ (-4611686018427387904 ≤ y ∧ y ≤ 4611686018427387904) ∧ (0 ≤ k ∧ k ≤ 4611686018427387904)) (.exit 0) ([.ce (.int .i64 (trn k.toNat (x, y)).1), .ce (.int .i64 (trn k.toNat (x, y)).2)], [])
  | _ => .fail
noncomputable def CTrn : Ctx := ⟨Tryd.prog, gam [], Tryd.f90.ntmps, [(1, anTrn, LTrn)], []⟩
theorem vcTrn (x y k : Int) (Q : Res → Prop) : (nfun true CTrn Tryd.f90 (bodyOf Tryd.f90) [.ce (.int .i64 x), .ce (.int .i64 y), .ce (.int .i64 k)] [] Q) =
    ((((-4611686018427387904 : Int) ≤ x ∧ x ≤ 4611686018427387904) ∧ ((-4611686018427387904 : Int) ≤ y ∧ y ≤ 4611686018427387904) ∧ 0 ≤ k ∧ k ≤ 4611686018427387904) ∧ Q ⟨.tup [.ce (.int .i64 (trn k.toNat (x, y)).1), .ce (.int .i64 (trn k.toNat (x, y)).2)], false, [], []⟩) := by kernel_rfl
theorem vbTrn (x y k : Int) (K : HEx → LV → Prop) : (nbodyT true CTrn anTrn (nthLoop Tryd.f90 0) (([.ce (.int .i64 x), .ce (.int .i64 y), .ce (.int .i64 k)], [])) K) =
    ((decide (k > 0) = true → (-9223372036854775808 ≤ (0 : Int) - y ∧ (0 : Int) - y ≤ 9223372036854775807) ∧ ∀ (x1 : Int), x1 = 0 - y → (-9223372036854775808 ≤ k - 1 ∧ k - 1 ≤ 9223372036854775807) ∧ ∀ (x2 : Int), x2 = k - 1 → K .normal ([.ce (.int .i64 x1), .ce (.int .i64 x), .ce (.int .i64 x2)], [])) ∧ (decide (k > 0) = false → K (.exit 0) ([.ce (.int .i64 x), .ce (.int .i64 y)], []))) := by kernel_rfl
def anTrn2 : LAnn := ⟨[0, 1, 2, 8], [0, 1], [], false⟩
def LTrn2 (v : LV) : LR :=
  match v with
  | ([.ce (.int .i64 x), .ce (.int .i64 y), .ce (.int .i64 k), .ce (.int .i64 i)], []) => .det (i = 0 ∧ (-4611686018427387904 ≤ x ∧ x ≤ 4611686018427387904) ∧ (-4611686018427387904 ≤ y ∧ y ≤ 4611686018427387904) ∧ (0 ≤ k ∧ k ≤ 4611686018427387904)) (.exit 0) ([.ce (.int .i64 (trn k.toNat (x, y)).1), .ce (.int .i64 (trn k.toNat (x, y)).2)], [])
  | _ => .fail
noncomputable def CTrn2 : Ctx := ⟨Tryd.prog, gam [], Tryd.f101.ntmps, [(2, anTrn2, LTrn2)], []⟩
theorem vcTrn2 (x y k : Int) (Q : Res → Prop) : (nfun true CTrn2 Tryd.f101 (bodyOf Tryd.f101) [.ce (.int .i64 x), .ce (.int .i64 y), .ce (.int .i64 k)] [] Q) =
    (((0 : Int) = (0 : Int) ∧ ((-4611686018427387904 : Int) ≤ x ∧ x ≤ 4611686018427387904) ∧ ((-4611686018427387904 : Int) ≤ y ∧ y ≤ 4611686018427387904) ∧ 0 ≤ k ∧ k ≤ 4611686018427387904) ∧ Q ⟨.tup [.ce (.int .i64 (trn k.toNat (x, y)).1), .ce (.int .i64 (trn k.toNat (x, y)).2)], false, [], []⟩) := by kernel_rfl
theorem vbTrn2 (x y k i : Int) (K : HEx → LV → Prop) : (nbodyT true CTrn2 anTrn2 (nthLoop Tryd.f101 0) (([.ce (.int .i64 x), .ce (.int .i64 y), .ce (.int .i64 k), .ce (.int .i64 i)], [])) K) =
    ((decide (i < k) = true → (-9223372036854775808 ≤ (0 : Int) - y ∧ (0 : Int) - y ≤ 9223372036854775807) ∧ ∀ (x1 : Int), x1 = 0 - y → (-9223372036854775808 ≤ i + 1 ∧ i + 1 ≤ 9223372036854775807) ∧ ∀ (x2 : Int), x2 = i + 1 → K .normal ([.ce (.int .i64 x1), .ce (.int .i64 x), .ce (.int .i64 k), .ce (.int .i64 x2)], [])) ∧ (decide (i < k) = false → K (.exit 0) ([.ce (.int .i64 x), .ce (.int .i64 y)], []))) := by kernel_rfl
def SSin (hargs : List HV) (pars : List (List HC)) : SR :=
  match hargs, pars with
  | [.ce (.int .i64 a)], [] => .det True ⟨.tup [.ce (.int .i64 (scS a)), .ce (.int .i64 (scC a))], false, [], []⟩
  | _, _ => .fail
def tabSin : List (FuncId × HL.Spec) := [(89, SRem), (90, STrn)]
def anSin : LAnn := ⟨[5, 6, 7, 9, 25, 26], [5, 6, 7], [], false⟩
def LSin (v : LV) : LR :=
  match v with
  | ([.ce (.int .i64 k), .ce (.int .i64 x), .ce (.int .i64 y), .ce (.int .i64 z), .agg tb, .ce (.int .i64 i)], []) =>
    .det (tb = tabC ∧ i = 0 ∧ x = 652032874 ∧ y = 0 ∧ (-45000000000 ≤ z ∧ z ≤ 45000000000)) (.exit 0) ([.ce (.int .i64 k), .ce (.int .i64 (cord z 26).x), .ce (.int .i64 (cord z 26).y)], [])
  | _ => .fail
def anSf : LAnn := ⟨[5, 6, 7, 9, 25, 26], [5, 6, 7, 9, 10, 11, 25, 26], [], false⟩
def LSf (v : LV) : LR :=
  match v with
  | ([.ce (.int .i64 k), .ce (.int .i64 x), .ce (.int .i64 y), .ce (.int .i64 z), .agg tb, .ce (.int .i64 i)], []) =>
    .det (tb = tabC ∧ 0 ≤ i ∧ i < 26) .normal ([.ce (.int .i64 k), .ce (.int .i64 x), .ce (.int .i64 y), .ce (.int .i64 z), .ce (.int .i64 i), .ce (.int .i64 (atab.getD i.toNat 0)), .agg tabC, .ce (.int .i64 i)], [])
  | _ => .fail
noncomputable def CSin : Ctx := ⟨Tryd.prog, gam tabSin, Tryd.f70.ntmps, [(9, anSin, LSin), (3000010, anSf, LSf)], []⟩
theorem vcSin (a : Int) (Q : Res → Prop) : (nfun true CSin Tryd.f70 (bodyOf Tryd.f70) [.ce (.int .i64 a)] [] Q) =
    (((0 : Int) < (360000000 : Int) ∧ (360000000 : Int) ≤ (4611686018427387904 : Int)) ∧ ∀ (x1 : Int), x1 = a % (360000000 : Int) → (-9223372036854775808 ≤ x1 + 45000000 ∧ x1 + 45000000 ≤ 9223372036854775807) ∧ ∀ (x2 : Int), x2 = x1 + 45000000 → (90000000 : Int) ≠ (0 : Int) ∧ (-9223372036854775808 ≤ Int.tdiv x2 (90000000 : Int) ∧ Int.tdiv x2 (90000000 : Int) ≤ 9223372036854775807) ∧ ∀ (x3 : Int), x3 = Int.tdiv x2 (90000000 : Int) → (-9223372036854775808 ≤ x3 * 90000000 ∧ x3 * 90000000 ≤ 9223372036854775807) ∧ ∀ (x4 : Int), x4 = x3 * 90000000 → (-9223372036854775808 ≤ x1 - x4 ∧ x1 - x4 ≤ 9223372036854775807) ∧ ∀ (x5 : Int), x5 = x1 - x4 → ((x5 != 0) = true → (-9223372036854775808 ≤ x5 * 1000 ∧ x5 * 1000 ≤ 9223372036854775807) ∧ ∀ (x6 : Int), x6 = x5 * 1000 → ([.int .i64 45000000000, .int .i64 26565051177, .int .i64 14036243468, .int .i64 7125016349, .int .i64 3576334375, .int .i64 1789910608, .int .i64 895173710, .int .i64 447614171, .int .i64 223810500, .int .i64 111905677, .int .i64 55952892, .int .i64 27976453, .int .i64 13988227, .int .i64 6994114, .int .i64 3497057, .int .i64 1748528, .int .i64 874264, .int .i64 437132, .int .i64 218566, .int .i64 109283, .int .i64 54642, .int .i64 27321, .int .i64 13660, .int .i64 6830, .int .i64 3415, .int .i64 1708] = tabC ∧
    (0 : Int) = (0 : Int) ∧ (652032874 : Int) = (652032874 : Int) ∧ (0 : Int) = (0 : Int) ∧ (-45000000000 : Int) ≤ x6 ∧ x6 ≤ 45000000000) ∧ (((-4611686018427387904 : Int) ≤ (cord x6 (26 : Nat)).x ∧ (cord x6 (26 : Nat)).x ≤ (4611686018427387904 : Int)) ∧ ((-4611686018427387904 : Int) ≤ (cord x6 (26 : Nat)).y ∧ (cord x6 (26 : Nat)).y ≤ (4611686018427387904 : Int)) ∧ 0 ≤ x3 ∧ x3 ≤ 4611686018427387904) ∧ ∀ (x7 : Int), x7 = (trn x3.toNat ((cord x6 (26 : Nat)).x, (cord x6 (26 : Nat)).y)).1 → ∀ (x8 : Int), x8 = (trn x3.toNat ((cord x6 (26 : Nat)).x, (cord x6 (26 : Nat)).y)).2 → Q ⟨.tup [.ce (.int .i64 x8), .ce (.int .i64 x7)], false, [], []⟩) ∧ ((x5 != 0) = false → (((-4611686018427387904 : Int) ≤ (1073741824 : Int) ∧ (1073741824 : Int) ≤ (4611686018427387904 : Int)) ∧ ((-4611686018427387904 : Int) ≤ (0 : Int) ∧ (0 : Int) ≤ (4611686018427387904 : Int)) ∧ 0 ≤ x3 ∧ x3 ≤ 4611686018427387904) ∧ ∀ (x9 : Int), x9 = (trn x3.toNat ((1073741824 : Int), (0 : Int))).1 →
    ∀ (x10 : Int), x10 = (trn x3.toNat ((1073741824 : Int), (0 : Int))).2 → Q ⟨.tup [.ce (.int .i64 x10), .ce (.int .i64 x9)], false, [], []⟩)) := by kernel_rfl
theorem vbSin (k x y z i : Int) (K : HEx → LV → Prop) : (nbodyT true CSin anSin (nthLoop Tryd.f70 0) (([.ce (.int .i64 k), .ce (.int .i64 x), .ce (.int .i64 y), .ce (.int .i64 z), .agg [.int .i64 45000000000, .int .i64 26565051177, .int .i64 14036243468, .int .i64 7125016349, .int .i64 3576334375, .int .i64 1789910608, .int .i64 895173710, .int .i64 447614171, .int .i64 223810500, .int .i64 111905677, .int .i64 55952892, .int .i64 27976453, .int .i64 13988227, .int .i64 6994114, .int .i64 3497057, .int .i64 1748528, .int .i64 874264, .int .i64 437132, .int .i64 218566, .int .i64 109283, .int .i64 54642, .int .i64 27321, .int .i64 13660, .int .i64 6830, .int .i64 3415, .int .i64 1708], .ce (.int .i64 i)], [])) K) =
    ((decide (i < 26) = true → ([.int .i64 45000000000, .int .i64 26565051177, .int .i64 14036243468, .int .i64 7125016349, .int .i64 3576334375, .int .i64 1789910608, .int .i64 895173710, .int .i64 447614171, .int .i64 223810500, .int .i64 111905677, .int .i64 55952892, .int .i64 27976453, .int .i64 13988227, .int .i64 6994114, .int .i64 3497057, .int .i64 1748528, .int .i64 874264, .int .i64 437132, .int .i64 218566, .int .i64 109283, .int .i64 54642, .int .i64 27321, .int .i64 13660, .int .i64 6830, .int .i64 3415, .int .i64 1708] = tabC ∧ 0 ≤ i ∧ i < 26) ∧ (decide (z ≥ 0) = true → 0 ≤ i ∧ ∀ (x1 : Int), x1 = Int.fdiv y ((2 : Int) ^ min i.toNat (64 : Nat)) → (-9223372036854775808 ≤ x - x1 ∧ x - x1 ≤ 9223372036854775807) ∧ ∀ (x2 : Int), x2 = x - x1 → 0 ≤ i ∧ ∀ (x3 : Int), x3 = Int.fdiv x ((2 : Int) ^ min i.toNat (64 : Nat)) → (-9223372036854775808 ≤ y + x3 ∧ y + x3 ≤ 9223372036854775807) ∧ ∀ (x4 : Int), x4 = y + x3 →
    (-9223372036854775808 ≤ z - List.getD atab i.toNat (0 : Int) ∧ z - List.getD atab i.toNat (0 : Int) ≤ 9223372036854775807) ∧ ∀ (x5 : Int), x5 = z - List.getD atab i.toNat (0 : Int) → (-9223372036854775808 ≤ i + 1 ∧ i + 1 ≤ 9223372036854775807) ∧ ∀ (x6 : Int), x6 = i + 1 → K .normal ([.ce (.int .i64 k), .ce (.int .i64 x2), .ce (.int .i64 x4), .ce (.int .i64 x5), .agg [.int .i64 45000000000, .int .i64 26565051177, .int .i64 14036243468, .int .i64 7125016349, .int .i64 3576334375, .int .i64 1789910608, .int .i64 895173710, .int .i64 447614171, .int .i64 223810500, .int .i64 111905677, .int .i64 55952892, .int .i64 27976453, .int .i64 13988227, .int .i64 6994114, .int .i64 3497057, .int .i64 1748528, .int .i64 874264, .int .i64 437132, .int .i64 218566, .int .i64 109283, .int .i64 54642, .int .i64 27321, .int .i64 13660, .int .i64 6830, .int .i64 3415, .int .i64 1708], .ce (.int .i64 x6)], [])) ∧
    (decide (z ≥ 0) = false → 0 ≤ i ∧ ∀ (x7 : Int), x7 = Int.fdiv y ((2 : Int) ^ min i.toNat (64 : Nat)) → (-9223372036854775808 ≤ x + x7 ∧ x + x7 ≤ 9223372036854775807) ∧ ∀ (x8 : Int), x8 = x + x7 → 0 ≤ i ∧ ∀ (x9 : Int), x9 = Int.fdiv x ((2 : Int) ^ min i.toNat (64 : Nat)) → (-9223372036854775808 ≤ y - x9 ∧ y - x9 ≤ 9223372036854775807) ∧ ∀ (x10 : Int), x10 = y - x9 → (-9223372036854775808 ≤ z + List.getD atab i.toNat (0 : Int) ∧ z + List.getD atab i.toNat (0 : Int) ≤ 9223372036854775807) ∧ ∀ (x11 : Int), x11 = z + List.getD atab i.toNat (0 : Int) → (-9223372036854775808 ≤ i + 1 ∧ i + 1 ≤ 9223372036854775807) ∧ ∀ (x12 : Int), x12 = i + 1 → K .normal ([.ce (.int .i64 k), .ce (.int .i64 x8), .ce (.int .i64 x10), .ce (.int .i64 x11), .agg [.int .i64 45000000000, .int .i64 26565051177, .int .i64 14036243468, .int .i64 7125016349, .int .i64 3576334375, .int .i64 1789910608, .int .i64 895173710, .int .i64 447614171, .int .i64 223810500, .int .i64 111905677, .int .i64 55952892, .int .i64 27976453, .int .i64 13988227, .int .i64 6994114, .int .i64 3497057, .int .i64 1748528, .int .i64 874264, .int .i64 437132, .int .i64 218566, .int .i64 109283, .int .i64 54642, .int .i64 27321, .int .i64 13660, .int .i64 6830, .int .i64 3415, .int .i64 1708], .ce (.int .i64 x12)], []))) ∧
    (decide (i < 26) = false → K (.exit 0) ([.ce (.int .i64 k), .ce (.int .i64 x), .ce (.int .i64 y)], []))) := by kernel_rfl
theorem vgSin (k x y z i : Int) (K : HEx → LV → Prop) : (nfragT true CSin anSf (nthFrag CSin Tryd.f70 0) (([.ce (.int .i64 k), .ce (.int .i64 x), .ce (.int .i64 y), .ce (.int .i64 z), .agg [.int .i64 45000000000, .int .i64 26565051177, .int .i64 14036243468, .int .i64 7125016349, .int .i64 3576334375, .int .i64 1789910608, .int .i64 895173710, .int .i64 447614171, .int .i64 223810500, .int .i64 111905677, .int .i64 55952892, .int .i64 27976453, .int .i64 13988227, .int .i64 6994114, .int .i64 3497057, .int .i64 1748528, .int .i64 874264, .int .i64 437132, .int .i64 218566, .int .i64 109283, .int .i64 54642, .int .i64 27321, .int .i64 13660, .int .i64 6830, .int .i64 3415, .int .i64 1708], .ce (.int .i64 i)], [])) K) =
    ((0 ≤ i ∧ i < 26) ∧ (i = 0 → K .normal ([.ce (.int .i64 k), .ce (.int .i64 x), .ce (.int .i64 y), .ce (.int .i64 z), .ce (.int .i64 i), .ce (.int .i64 45000000000), .agg [.int .i64 45000000000, .int .i64 26565051177, .int .i64 14036243468, .int .i64 7125016349, .int .i64 3576334375, .int .i64 1789910608, .int .i64 895173710, .int .i64 447614171, .int .i64 223810500, .int .i64 111905677, .int .i64 55952892, .int .i64 27976453, .int .i64 13988227, .int .i64 6994114, .int .i64 3497057, .int .i64 1748528, .int .i64 874264, .int .i64 437132, .int .i64 218566, .int .i64 109283, .int .i64 54642, .int .i64 27321, .int .i64 13660, .int .i64 6830, .int .i64 3415, .int .i64 1708], .ce (.int .i64 i)], [])) ∧ (i = 1 → K .normal ([.ce (.int .i64 k), .ce (.int .i64 x), .ce (.int .i64 y), .ce (.int .i64 z), .ce (.int .i64 i), .ce (.int .i64 26565051177), .agg [.int .i64 45000000000, .int .i64 26565051177, .int .i64 14036243468, .int .i64 7125016349, .int .i64 3576334375, .int .i64 1789910608, .int .i64 895173710, .int .i64 447614171, .int .i64 223810500, .int .i64 111905677, .int .i64 55952892, .int .i64 27976453, .int .i64 13988227, .int .i64 6994114, .int .i64 3497057, .int .i64 1748528, .int .i64 874264, .int .i64 437132, .int .i64 218566, .int .i64 109283, .int .i64 54642, .int .i64 27321, .int .i64 13660, .int .i64 6830, .int .i64 3415, .int .i64 1708], .ce (.int .i64 i)], [])) ∧
    (i = 2 → K .normal ([.ce (.int .i64 k), .ce (.int .i64 x), .ce (.int .i64 y), .ce (.int .i64 z), .ce (.int .i64 i), .ce (.int .i64 14036243468), .agg [.int .i64 45000000000, .int .i64 26565051177, .int .i64 14036243468, .int .i64 7125016349, .int .i64 3576334375, .int .i64 1789910608, .int .i64 895173710, .int .i64 447614171, .int .i64 223810500, .int .i64 111905677, .int .i64 55952892, .int .i64 27976453, .int .i64 13988227, .int .i64 6994114, .int .i64 3497057, .int .i64 1748528, .int .i64 874264, .int .i64 437132, .int .i64 218566, .int .i64 109283, .int .i64 54642, .int .i64 27321, .int .i64 13660, .int .i64 6830, .int .i64 3415, .int .i64 1708], .ce (.int .i64 i)], [])) ∧ (i = 3 → K .normal ([.ce (.int .i64 k), .ce (.int .i64 x), .ce (.int .i64 y), .ce (.int .i64 z), .ce (.int .i64 i), .ce (.int .i64 7125016349), .agg [.int .i64 45000000000, .int .i64 26565051177, .int .i64 14036243468, .int .i64 7125016349, .int .i64 3576334375, .int .i64 1789910608, .int .i64 895173710, .int .i64 447614171, .int .i64 223810500, .int .i64 111905677, .int .i64 55952892, .int .i64 27976453, .int .i64 13988227, .int .i64 6994114, .int .i64 3497057, .int .i64 1748528, .int .i64 874264, .int .i64 437132, .int .i64 218566, .int .i64 109283, .int .i64 54642, .int .i64 27321, .int .i64 13660, .int .i64 6830, .int .i64 3415, .int .i64 1708], .ce (.int .i64 i)], [])) ∧
    (i = 4 → K .normal ([.ce (.int .i64 k), .ce (.int .i64 x), .ce (.int .i64 y), .ce (.int .i64 z), .ce (.int .i64 i), .ce (.int .i64 3576334375), .agg [.int .i64 45000000000, .int .i64 26565051177, .int .i64 14036243468, .int .i64 7125016349, .int .i64 3576334375, .int .i64 1789910608, .int .i64 895173710, .int .i64 447614171, .int .i64 223810500, .int .i64 111905677, .int .i64 55952892, .int .i64 27976453, .int .i64 13988227, .int .i64 6994114, .int .i64 3497057, .int .i64 1748528, .int .i64 874264, .int .i64 437132, .int .i64 218566, .int .i64 109283, .int .i64 54642, .int .i64 27321, .int .i64 13660, .int .i64 6830, .int .i64 3415, .int .i64 1708], .ce (.int .i64 i)], [])) ∧ (i = 5 → K .normal ([.ce (.int .i64 k), .ce (.int .i64 x), .ce (.int .i64 y), .ce (.int .i64 z), .ce (.int .i64 i), .ce (.int .i64 1789910608), .agg [.int .i64 45000000000, .int .i64 26565051177, .int .i64 14036243468, .int .i64 7125016349, .int .i64 3576334375, .int .i64 1789910608, .int .i64 895173710, .int .i64 447614171, .int .i64 223810500, .int .i64 111905677, .int .i64 55952892, .int .i64 27976453, .int .i64 13988227, .int .i64 6994114, .int .i64 3497057, .int .i64 1748528, .int .i64 874264, .int .i64 437132, .int .i64 218566, .int .i64 109283, .int .i64 54642, .int .i64 27321, .int .i64 13660, .int .i64 6830, .int .i64 3415, .int .i64 1708], .ce (.int .i64 i)], [])) ∧
    (i = 6 → K .normal ([.ce (.int .i64 k), .ce (.int .i64 x), .ce (.int .i64 y), .ce (.int .i64 z), .ce (.int .i64 i), .ce (.int .i64 895173710), .agg [.int .i64 45000000000, .int .i64 26565051177, .int .i64 14036243468, .int .i64 7125016349, .int .i64 3576334375, .int .i64 1789910608, .int .i64 895173710, .int .i64 447614171, .int .i64 223810500, .int .i64 111905677, .int .i64 55952892, .int .i64 27976453, .int .i64 13988227, .int .i64 6994114, .int .i64 3497057, .int .i64 1748528, .int .i64 874264, .int .i64 437132, .int .i64 218566, .int .i64 109283, .int .i64 54642, .int .i64 27321, .int .i64 13660, .int .i64 6830, .int .i64 3415, .int .i64 1708], .ce (.int .i64 i)], [])) ∧ (i = 7 → K .normal ([.ce (.int .i64 k), .ce (.int .i64 x), .ce (.int .i64 y), .ce (.int .i64 z), .ce (.int .i64 i), .ce (.int .i64 447614171), .agg [.int .i64 45000000000, .int .i64 26565051177, .int .i64 14036243468, .int .i64 7125016349, .int .i64 3576334375, .int .i64 1789910608, .int .i64 895173710, .int .i64 447614171, .int .i64 223810500, .int .i64 111905677, .int .i64 55952892, .int .i64 27976453, .int .i64 13988227, .int .i64 6994114, .int .i64 3497057, .int .i64 1748528, .int .i64 874264, .int .i64 437132, .int .i64 218566, .int .i64 109283, .int .i64 54642, .int .i64 27321, .int .i64 13660, .int .i64 6830, .int .i64 3415, .int .i64 1708], .ce (.int .i64 i)], [])) ∧
    (i = 8 → K .normal ([.ce (.int .i64 k), .ce (.int .i64 x), .ce (.int .i64 y), .ce (.int .i64 z), .ce (.int .i64 i), .ce (.int .i64 223810500), .agg [.int .i64 45000000000, .int .i64 26565051177, .int .i64 14036243468, .int .i64 7125016349, .int .i64 3576334375, .int .i64 1789910608, .int .i64 895173710, .int .i64 447614171, .int .i64 223810500, .int .i64 111905677, .int .i64 55952892, .int .i64 27976453, .int .i64 13988227, .int .i64 6994114, .int .i64 3497057, .int .i64 1748528, .int .i64 874264, .int .i64 437132, .int .i64 218566, .int .i64 109283, .int .i64 54642, .int .i64 27321, .int .i64 13660, .int .i64 6830, .int .i64 3415, .int .i64 1708], .ce (.int .i64 i)], [])) ∧ (i = 9 → K .normal ([.ce (.int .i64 k), .ce (.int .i64 x), .ce (.int .i64 y), .ce (.int .i64 z), .ce (.int .i64 i), .ce (.int .i64 111905677), .agg [.int .i64 45000000000, .int .i64 26565051177, .int .i64 14036243468, .int .i64 7125016349, .int .i64 3576334375, .int .i64 1789910608, .int .i64 895173710, .int .i64 447614171, .int .i64 223810500, .int .i64 111905677, .int .i64 55952892, .int .i64 27976453, .int .i64 13988227, .int .i64 6994114, .int .i64 3497057, .int .i64 1748528, .int .i64 874264, .int .i64 437132, .int .i64 218566, .int .i64 109283, .int .i64 54642, .int .i64 27321, .int .i64 13660, .int .i64 6830, .int .i64 3415, .int .i64 1708], .ce (.int .i64 i)], [])) ∧
    (i = 10 → K .normal ([.ce (.int .i64 k), .ce (.int .i64 x), .ce (.int .i64 y), .ce (.int .i64 z), .ce (.int .i64 i), .ce (.int .i64 55952892), .agg [.int .i64 45000000000, .int .i64 26565051177, .int .i64 14036243468, .int .i64 7125016349, .int .i64 3576334375, .int .i64 1789910608, .int .i64 895173710, .int .i64 447614171, .int .i64 223810500, .int .i64 111905677, .int .i64 55952892, .int .i64 27976453, .int .i64 13988227, .int .i64 6994114, .int .i64 3497057, .int .i64 1748528, .int .i64 874264, .int .i64 437132, .int .i64 218566, .int .i64 109283, .int .i64 54642, .int .i64 27321, .int .i64 13660, .int .i64 6830, .int .i64 3415, .int .i64 1708], .ce (.int .i64 i)], [])) ∧ (i = 11 → K .normal ([.ce (.int .i64 k), .ce (.int .i64 x), .ce (.int .i64 y), .ce (.int .i64 z), .ce (.int .i64 i), .ce (.int .i64 27976453), .agg [.int .i64 45000000000, .int .i64 26565051177, .int .i64 14036243468, .int .i64 7125016349, .int .i64 3576334375, .int .i64 1789910608, .int .i64 895173710, .int .i64 447614171, .int .i64 223810500, .int .i64 111905677, .int .i64 55952892, .int .i64 27976453, .int .i64 13988227, .int .i64 6994114, .int .i64 3497057, .int .i64 1748528, .int .i64 874264, .int .i64 437132, .int .i64 218566, .int .i64 109283, .int .i64 54642, .int .i64 27321, .int .i64 13660, .int .i64 6830, .int .i64 3415, .int .i64 1708], .ce (.int .i64 i)], [])) ∧
    (i = 12 → K .normal ([.ce (.int .i64 k), .ce (.int .i64 x), .ce (.int .i64 y), .ce (.int .i64 z), .ce (.int .i64 i), .ce (.int .i64 13988227), .agg [.int .i64 45000000000, .int .i64 26565051177, .int .i64 14036243468, .int .i64 7125016349, .int .i64 3576334375, .int .i64 1789910608, .int .i64 895173710, .int .i64 447614171, .int .i64 223810500, .int .i64 111905677, .int .i64 55952892, .int .i64 27976453, .int .i64 13988227, .int .i64 6994114, .int .i64 3497057, .int .i64 1748528, .int .i64 874264, .int .i64 437132, .int .i64 218566, .int .i64 109283, .int .i64 54642, .int .i64 27321, .int .i64 13660, .int .i64 6830, .int .i64 3415, .int .i64 1708], .ce (.int .i64 i)], [])) ∧ (i = 13 → K .normal ([.ce (.int .i64 k), .ce (.int .i64 x), .ce (.int .i64 y), .ce (.int .i64 z), .ce (.int .i64 i), .ce (.int .i64 6994114), .agg [.int .i64 45000000000, .int .i64 26565051177, .int .i64 14036243468, .int .i64 7125016349, .int .i64 3576334375, .int .i64 1789910608, .int .i64 895173710, .int .i64 447614171, .int .i64 223810500, .int .i64 111905677, .int .i64 55952892, .int .i64 27976453, .int .i64 13988227, .int .i64 6994114, .int .i64 3497057, .int .i64 1748528, .int .i64 874264, .int .i64 437132, .int .i64 218566, .int .i64 109283, .int .i64 54642, .int .i64 27321, .int .i64 13660, .int .i64 6830, .int .i64 3415, .int .i64 1708], .ce (.int .i64 i)], [])) ∧
    (i = 14 → K .normal ([.ce (.int .i64 k), .ce (.int .i64 x), .ce (.int .i64 y), .ce (.int .i64 z), .ce (.int .i64 i), .ce (.int .i64 3497057), .agg [.int .i64 45000000000, .int .i64 26565051177, .int .i64 14036243468, .int .i64 7125016349, .int .i64 3576334375, .int .i64 1789910608, .int .i64 895173710, .int .i64 447614171, .int .i64 223810500, .int .i64 111905677, .int .i64 55952892, .int .i64 27976453, .int .i64 13988227, .int .i64 6994114, .int .i64 3497057, .int .i64 1748528, .int .i64 874264, .int .i64 437132, .int .i64 218566, .int .i64 109283, .int .i64 54642, .int .i64 27321, .int .i64 13660, .int .i64 6830, .int .i64 3415, .int .i64 1708], .ce (.int .i64 i)], [])) ∧ (i = 15 → K .normal ([.ce (.int .i64 k), .ce (.int .i64 x), .ce (.int .i64 y), .ce (.int .i64 z), .ce (.int .i64 i), .ce (.int .i64 1748528), .agg [.int .i64 45000000000, .int .i64 26565051177, .int .i64 14036243468, .int .i64 7125016349, .int .i64 3576334375, .int .i64 1789910608, .int .i64 895173710, .int .i64 447614171, .int .i64 223810500, .int .i64 111905677, .int .i64 55952892, .int .i64 27976453, .int .i64 13988227, .int .i64 6994114, .int .i64 3497057, .int .i64 1748528, .int .i64 874264, .int .i64 437132, .int .i64 218566, .int .i64 109283, .int .i64 54642, .int .i64 27321, .int .i64 13660, .int .i64 6830, .int .i64 3415, .int .i64 1708], .ce (.int .i64 i)], [])) ∧
    (i = 16 → K .normal ([.ce (.int .i64 k), .ce (.int .i64 x), .ce (.int .i64 y), .ce (.int .i64 z), .ce (.int .i64 i), .ce (.int .i64 874264), .agg [.int .i64 45000000000, .int .i64 26565051177, .int .i64 14036243468, .int .i64 7125016349, .int .i64 3576334375, .int .i64 1789910608, .int .i64 895173710, .int .i64 447614171, .int .i64 223810500, .int .i64 111905677, .int .i64 55952892, .int .i64 27976453, .int .i64 13988227, .int .i64 6994114, .int .i64 3497057, .int .i64 1748528, .int .i64 874264, .int .i64 437132, .int .i64 218566, .int .i64 109283, .int .i64 54642, .int .i64 27321, .int .i64 13660, .int .i64 6830, .int .i64 3415, .int .i64 1708], .ce (.int .i64 i)], [])) ∧ (i = 17 → K .normal ([.ce (.int .i64 k), .ce (.int .i64 x), .ce (.int .i64 y), .ce (.int .i64 z), .ce (.int .i64 i), .ce (.int .i64 437132), .agg [.int .i64 45000000000, .int .i64 26565051177, .int .i64 14036243468, .int .i64 7125016349, .int .i64 3576334375, .int .i64 1789910608, .int .i64 895173710, .int .i64 447614171, .int .i64 223810500, .int .i64 111905677, .int .i64 55952892, .int .i64 27976453, .int .i64 13988227, .int .i64 6994114, .int .i64 3497057, .int .i64 1748528, .int .i64 874264, .int .i64 437132, .int .i64 218566, .int .i64 109283, .int .i64 54642, .int .i64 27321, .int .i64 13660, .int .i64 6830, .int .i64 3415, .int .i64 1708], .ce (.int .i64 i)], [])) ∧
    (i = 18 → K .normal ([.ce (.int .i64 k), .ce (.int .i64 x), .ce (.int .i64 y), .ce (.int .i64 z), .ce (.int .i64 i), .ce (.int .i64 218566), .agg [.int .i64 45000000000, .int .i64 26565051177, .int .i64 14036243468, .int .i64 7125016349, .int .i64 3576334375, .int .i64 1789910608, .int .i64 895173710, .int .i64 447614171, .int .i64 223810500, .int .i64 111905677, .int .i64 55952892, .int .i64 27976453, .int .i64 13988227, .int .i64 6994114, .int .i64 3497057, .int .i64 1748528, .int .i64 874264, .int .i64 437132, .int .i64 218566, .int .i64 109283, .int .i64 54642, .int .i64 27321, .int .i64 13660, .int .i64 6830, .int .i64 3415, .int .i64 1708], .ce (.int .i64 i)], [])) ∧ (i = 19 → K .normal ([.ce (.int .i64 k), .ce (.int .i64 x), .ce (.int .i64 y), .ce (.int .i64 z), .ce (.int .i64 i), .ce (.int .i64 109283), .agg [.int .i64 45000000000, .int .i64 26565051177, .int .i64 14036243468, .int .i64 7125016349, .int .i64 3576334375, .int .i64 1789910608, .int .i64 895173710, .int .i64 447614171, .int .i64 223810500, .int .i64 111905677, .int .i64 55952892, .int .i64 27976453, .int .i64 13988227, .int .i64 6994114, .int .i64 3497057, .int .i64 1748528, .int .i64 874264, .int .i64 437132, .int .i64 218566, .int .i64 109283, .int .i64 54642, .int .i64 27321, .int .i64 13660, .int .i64 6830, .int .i64 3415, .int .i64 1708], .ce (.int .i64 i)], [])) ∧
    (i = 20 → K .normal ([.ce (.int .i64 k), .ce (.int .i64 x), .ce (.int .i64 y), .ce (.int .i64 z), .ce (.int .i64 i), .ce (.int .i64 54642), .agg [.int .i64 45000000000, .int .i64 26565051177, .int .i64 14036243468, .int .i64 7125016349, .int .i64 3576334375, .int .i64 1789910608, .int .i64 895173710, .int .i64 447614171, .int .i64 223810500, .int .i64 111905677, .int .i64 55952892, .int .i64 27976453, .int .i64 13988227, .int .i64 6994114, .int .i64 3497057, .int .i64 1748528, .int .i64 874264, .int .i64 437132, .int .i64 218566, .int .i64 109283, .int .i64 54642, .int .i64 27321, .int .i64 13660, .int .i64 6830, .int .i64 3415, .int .i64 1708], .ce (.int .i64 i)], [])) ∧ (i = 21 → K .normal ([.ce (.int .i64 k), .ce (.int .i64 x), .ce (.int .i64 y), .ce (.int .i64 z), .ce (.int .i64 i), .ce (.int .i64 27321), .agg [.int .i64 45000000000, .int .i64 26565051177, .int .i64 14036243468, .int .i64 7125016349, .int .i64 3576334375, .int .i64 1789910608, .int .i64 895173710, .int .i64 447614171, .int .i64 223810500, .int .i64 111905677, .int .i64 55952892, .int .i64 27976453, .int .i64 13988227, .int .i64 6994114, .int .i64 3497057, .int .i64 1748528, .int .i64 874264, .int .i64 437132, .int .i64 218566, .int .i64 109283, .int .i64 54642, .int .i64 27321, .int .i64 13660, .int .i64 6830, .int .i64 3415, .int .i64 1708], .ce (.int .i64 i)], [])) ∧
    (i = 22 → K .normal ([.ce (.int .i64 k), .ce (.int .i64 x), .ce (.int .i64 y), .ce (.int .i64 z), .ce (.int .i64 i), .ce (.int .i64 13660), .agg [.int .i64 45000000000, .int .i64 26565051177, .int .i64 14036243468, .int .i64 7125016349, .int .i64 3576334375, .int .i64 1789910608, .int .i64 895173710, .int .i64 447614171, .int .i64 223810500, .int .i64 111905677, .int .i64 55952892, .int .i64 27976453, .int .i64 13988227, .int .i64 6994114, .int .i64 3497057, .int .i64 1748528, .int .i64 874264, .int .i64 437132, .int .i64 218566, .int .i64 109283, .int .i64 54642, .int .i64 27321, .int .i64 13660, .int .i64 6830, .int .i64 3415, .int .i64 1708], .ce (.int .i64 i)], [])) ∧ (i = 23 → K .normal ([.ce (.int .i64 k), .ce (.int .i64 x), .ce (.int .i64 y), .ce (.int .i64 z), .ce (.int .i64 i), .ce (.int .i64 6830), .agg [.int .i64 45000000000, .int .i64 26565051177, .int .i64 14036243468, .int .i64 7125016349, .int .i64 3576334375, .int .i64 1789910608, .int .i64 895173710, .int .i64 447614171, .int .i64 223810500, .int .i64 111905677, .int .i64 55952892, .int .i64 27976453, .int .i64 13988227, .int .i64 6994114, .int .i64 3497057, .int .i64 1748528, .int .i64 874264, .int .i64 437132, .int .i64 218566, .int .i64 109283, .int .i64 54642, .int .i64 27321, .int .i64 13660, .int .i64 6830, .int .i64 3415, .int .i64 1708], .ce (.int .i64 i)], [])) ∧
    (i = 24 → K .normal ([.ce (.int .i64 k), .ce (.int .i64 x), .ce (.int .i64 y), .ce (.int .i64 z), .ce (.int .i64 i), .ce (.int .i64 3415), .agg [.int .i64 45000000000, .int .i64 26565051177, .int .i64 14036243468, .int .i64 7125016349, .int .i64 3576334375, .int .i64 1789910608, .int .i64 895173710, .int .i64 447614171, .int .i64 223810500, .int .i64 111905677, .int .i64 55952892, .int .i64 27976453, .int .i64 13988227, .int .i64 6994114, .int .i64 3497057, .int .i64 1748528, .int .i64 874264, .int .i64 437132, .int .i64 218566, .int .i64 109283, .int .i64 54642, .int .i64 27321, .int .i64 13660, .int .i64 6830, .int .i64 3415, .int .i64 1708], .ce (.int .i64 i)], [])) ∧ (i = 25 → K .normal ([.ce (.int .i64 k), .ce (.int .i64 x), .ce (.int .i64 y), .ce (.int .i64 z), .ce (.int .i64 i), .ce (.int .i64 1708), .agg [.int .i64 45000000000, .int .i64 26565051177, .int .i64 14036243468, .int .i64 7125016349, .int .i64 3576334375, .int .i64 1789910608, .int .i64 895173710, .int .i64 447614171, .int .i64 223810500, .int .i64 111905677, .int .i64 55952892, .int .i64 27976453, .int .i64 13988227, .int .i64 6994114, .int .i64 3497057, .int .i64 1748528, .int .i64 874264, .int .i64 437132, .int .i64 218566, .int .i64 109283, .int .i64 54642, .int .i64 27321, .int .i64 13660, .int .i64 6830, .int .i64 3415, .int .i64 1708], .ce (.int .i64 i)], []))) := by kernel_rfl
def STab (hargs : List HV) (pars : List (List HC)) : SR :=
  match hargs, pars with
  | [], [] => .det True ⟨.ce (.sl false [4] tabR), true, [], []⟩
  | _, _ => .fail
noncomputable def CTab : Ctx := ⟨Tryd.prog, gam [], Tryd.f100.ntmps, [], []⟩
theorem vcTab (Q : Res → Prop) : (nfun true CTab Tryd.f100 (bodyOf Tryd.f100) [] [] Q) =
    (Q ⟨.ce (.sl false [4] [[(45000000000 : Int)], [(26565051177 : Int)], [(14036243468 : Int)], [(7125016349 : Int)], [(3576334375 : Int)], [(1789910608 : Int)], [(895173710 : Int)], [(447614171 : Int)], [(223810500 : Int)], [(111905677 : Int)], [(55952892 : Int)], [(27976453 : Int)], [(13988227 : Int)], [(6994114 : Int)], [(3497057 : Int)], [(1748528 : Int)], [(874264 : Int)], [(437132 : Int)], [(218566 : Int)], [(109283 : Int)], [(54642 : Int)], [(27321 : Int)], [(13660 : Int)], [(6830 : Int)], [(3415 : Int)], [(1708 : Int)]]), true, [], []⟩) := by kernel_rfl
def tabSin2 : List (FuncId × HL.Spec) := [(28, SMod), (101, STrn), (100, STab)]
def anSin2 : LAnn := ⟨[5, 7, 8, 9, 10, 11], [5, 7, 8], [], false⟩
def LSin2 (v : LV) : LR :=
  match v with
  | ([.ce (.int .i64 k), .ce (.int .i64 x), .ce (.int .i64 y), .ce (.int .i64 z), .ce (.sl false [4] tb), .ce (.int .i64 i)], []) =>
    .det (tb = tabR ∧ i = 0 ∧ x = 652032874 ∧ y = 0 ∧ (-45000000000 ≤ z ∧ z ≤ 45000000000)) (.exit 0) ([.ce (.int .i64 k), .ce (.int .i64 (cord z 26).x), .ce (.int .i64 (cord z 26).y)], [])
  | _ => .fail
noncomputable def CSin2 : Ctx := ⟨Tryd.prog, gam tabSin2, Tryd.f76.ntmps, [(10, anSin2, LSin2)], []⟩
theorem vcSin2 (a : Int) (Q : Res → Prop) : (nfun true CSin2 Tryd.f76 (bodyOf Tryd.f76) [.ce (.int .i64 a)] [] Q) =
    (((0 : Int) < (360000000 : Int) ∧ (360000000 : Int) ≤ (4611686018427387904 : Int)) ∧ ∀ (x1 : Int), x1 = a % (360000000 : Int) → (-9223372036854775808 ≤ x1 + 45000000 ∧ x1 + 45000000 ≤ 9223372036854775807) ∧ ∀ (x2 : Int), x2 = x1 + 45000000 → (90000000 : Int) ≠ (0 : Int) ∧ (-9223372036854775808 ≤ Int.tdiv x2 (90000000 : Int) ∧ Int.tdiv x2 (90000000 : Int) ≤ 9223372036854775807) ∧ ∀ (x3 : Int), x3 = Int.tdiv x2 (90000000 : Int) → (-9223372036854775808 ≤ x3 * 90000000 ∧ x3 * 90000000 ≤ 9223372036854775807) ∧ ∀ (x4 : Int), x4 = x3 * 90000000 → (-9223372036854775808 ≤ x1 - x4 ∧ x1 - x4 ≤ 9223372036854775807) ∧ ∀ (x5 : Int), x5 = x1 - x4 → ((x5 != 0) = true → (-9223372036854775808 ≤ x5 * 1000 ∧ x5 * 1000 ≤ 9223372036854775807) ∧ ∀ (x6 : Int), x6 = x5 * 1000 → True ∧ ∀ (x7 : List (List Int)), x7 = tabR → (x7 = tabR ∧ (0 : Int) = (0 : Int) ∧ (652032874 : Int) = (652032874 : Int) ∧ (0 : Int) = (0 : Int) ∧
    (-45000000000 : Int) ≤ x6 ∧ x6 ≤ 45000000000) ∧ (((-4611686018427387904 : Int) ≤ (cord x6 (26 : Nat)).x ∧ (cord x6 (26 : Nat)).x ≤ (4611686018427387904 : Int)) ∧ ((-4611686018427387904 : Int) ≤ (cord x6 (26 : Nat)).y ∧ (cord x6 (26 : Nat)).y ≤ (4611686018427387904 : Int)) ∧ 0 ≤ x3 ∧ x3 ≤ 4611686018427387904) ∧ ∀ (x8 : Int), x8 = (trn x3.toNat ((cord x6 (26 : Nat)).x, (cord x6 (26 : Nat)).y)).1 → ∀ (x9 : Int), x9 = (trn x3.toNat ((cord x6 (26 : Nat)).x, (cord x6 (26 : Nat)).y)).2 → Q ⟨.tup [.ce (.int .i64 x9), .ce (.int .i64 x8)], false, [], []⟩) ∧ ((x5 != 0) = false → (((-4611686018427387904 : Int) ≤ (1073741824 : Int) ∧ (1073741824 : Int) ≤ (4611686018427387904 : Int)) ∧ ((-4611686018427387904 : Int) ≤ (0 : Int) ∧ (0 : Int) ≤ (4611686018427387904 : Int)) ∧ 0 ≤ x3 ∧ x3 ≤ 4611686018427387904) ∧ ∀ (x10 : Int), x10 = (trn x3.toNat ((1073741824 : Int), (0 : Int))).1 → ∀ (x11 : Int), x11 = (trn x3.toNat ((1073741824 : Int), (0 : Int))).2 →
    Q ⟨.tup [.ce (.int .i64 x11), .ce (.int .i64 x10)], false, [], []⟩)) := by kernel_rfl
theorem vbSin2 (k x y z i : Int) (tb : List (List Int)) (K : HEx → LV → Prop) : (nbodyT true CSin2 anSin2 (nthLoop Tryd.f76 0) (([.ce (.int .i64 k), .ce (.int .i64 x), .ce (.int .i64 y), .ce (.int .i64 z), .ce (.sl false [4] tb), .ce (.int .i64 i)], [])) K) =
    ((decide (i < (List.length tb : Int)) = true → ∀ (x1 : Int), x1 = i % (18446744073709551616 : Int) → 0 ≤ x1 ∧ ∀ (x2 : Int), x2 = Int.fdiv y ((2 : Int) ^ min x1.toNat (64 : Nat)) → ∀ (x3 : Int), x3 = i % (18446744073709551616 : Int) → 0 ≤ x3 ∧ ∀ (x4 : Int), x4 = Int.fdiv x ((2 : Int) ^ min x3.toNat (64 : Nat)) → (decide (z ≥ 0) = true → (-9223372036854775808 ≤ x - x2 ∧ x - x2 ≤ 9223372036854775807) ∧ ∀ (x5 : Int), x5 = x - x2 → (-9223372036854775808 ≤ y + x4 ∧ y + x4 ≤ 9223372036854775807) ∧ ∀ (x6 : Int), x6 = y + x4 → (0 ≤ i ∧ i < (List.length tb : Int)) ∧ ∀ (x7 : Int), x7 = el tb i.toNat → (-9223372036854775808 ≤ z - x7 ∧ z - x7 ≤ 9223372036854775807) ∧ ∀ (x8 : Int), x8 = z - x7 → (-9223372036854775808 ≤ i + 1 ∧ i + 1 ≤ 9223372036854775807) ∧ ∀ (x9 : Int), x9 = i + 1 → K .normal ([.ce (.int .i64 k), .ce (.int .i64 x5), .ce (.int .i64 x6), .ce (.int .i64 x8), .ce (.sl false [4] tb), .ce (.int .i64 x9)], [])) ∧
    (decide (z ≥ 0) = false → (-9223372036854775808 ≤ x + x2 ∧ x + x2 ≤ 9223372036854775807) ∧ ∀ (x10 : Int), x10 = x + x2 → (-9223372036854775808 ≤ y - x4 ∧ y - x4 ≤ 9223372036854775807) ∧ ∀ (x11 : Int), x11 = y - x4 → (0 ≤ i ∧ i < (List.length tb : Int)) ∧ ∀ (x12 : Int), x12 = el tb i.toNat → (-9223372036854775808 ≤ z + x12 ∧ z + x12 ≤ 9223372036854775807) ∧ ∀ (x13 : Int), x13 = z + x12 → (-9223372036854775808 ≤ i + 1 ∧ i + 1 ≤ 9223372036854775807) ∧ ∀ (x14 : Int), x14 = i + 1 → K .normal ([.ce (.int .i64 k), .ce (.int .i64 x10), .ce (.int .i64 x11), .ce (.int .i64 x13), .ce (.sl false [4] tb), .ce (.int .i64 x14)], []))) ∧ (decide (i < (List.length tb : Int)) = false → K (.exit 0) ([.ce (.int .i64 k), .ce (.int .i64 x), .ce (.int .i64 y)], []))) := by kernel_rfl
def SNr (hargs : List HV) (pars : List (List HC)) : SR :=
  match hargs, pars with
  | [.ce (.int .i64 n)], [] => .det (-4611686018427387904 ≤ n ∧ n ≤ 4611686018427387904) ⟨.ce (.int .i64 (nr n)), false, [], []⟩
  | _, _ => .fail
noncomputable def CNr : Ctx := ⟨Tryd.prog, gam [], Tryd.f71.ntmps, [], []⟩
theorem vcNr (n : Int) (Q : Res → Prop) : (nfun true CNr Tryd.f71 (bodyOf Tryd.f71) [.ce (.int .i64 n)] [] Q) =
    ((-9223372036854775808 ≤ n + 536870912 ∧ n + 536870912 ≤ 9223372036854775807) ∧ ∀ (x1 : Int), x1 = n + 536870912 → (0 : Int) ≤ (30 : Int) ∧ ∀ (x2 : Int), x2 = x1 / (1073741824 : Int) → Q ⟨.ce (.int .i64 x2), false, [], []⟩) := by kernel_rfl
theorem vcNr2 (n : Int) (Q : Res → Prop) : (nfun true CNr Tryd.f77 (bodyOf Tryd.f77) [.ce (.int .i64 n)] [] Q) =
    ((-9223372036854775808 ≤ n + 536870912 ∧ n + 536870912 ≤ 9223372036854775807) ∧ ∀ (x1 : Int), x1 = n + 536870912 → (0 : Int) ≤ (30 : Int) ∧ ∀ (x2 : Int), x2 = x1 / (1073741824 : Int) → Q ⟨.ce (.int .i64 x2), false, [], []⟩) := by kernel_rfl
def SSml (hargs : List HV) (pars : List (List HC)) : SR :=
  match hargs, pars with
  | [.ce (.int .i64 n)], [] => .det True ⟨.ce (.bool (decide (n ≥ -4194304) && decide (n ≤ 4194304))), false, [], []⟩
  | _, _ => .fail
noncomputable def CSml : Ctx := ⟨Tryd.prog, gam [], Tryd.f75.ntmps, [], []⟩
theorem vcSml (n : Int) (Q : Res → Prop) : (nfun true CSml Tryd.f75 (bodyOf Tryd.f75) [.ce (.int .i64 n)] [] Q) =
    ((decide (n ≥ (-4194304 : Int)) = true → Q ⟨.ce (.bool (decide (n ≤ 4194304))), false, [], []⟩) ∧ (decide (n ≥ (-4194304 : Int)) = false → Q ⟨.ce (.bool false), false, [], []⟩)) := by kernel_rfl
def SRot (hargs : List HV) (pars : List (List HC)) : SR :=
  match hargs, pars with
  | [.ce (.int .i64 x), .ce (.int .i64 y), .ce (.int .i64 a)], [] => .det True ⟨.tup [.ce (.int .i64 (rtU x y a)), .ce (.int .i64 (rtW x y a)), .ce (.bool (rtB x y))], false, [], []⟩
  | _, _ => .fail
def tabRot : List (FuncId × HL.Spec) := [(70, SSin), (71, SNr)]
noncomputable def CRot : Ctx := ⟨Tryd.prog, gam tabRot, Tryd.f49.ntmps, [], []⟩
theorem vcRot (x y a : Int) (Q : Res → Prop) : (nfun true CRot Tryd.f49 (bodyOf Tryd.f49) [.ce (.int .i64 x), .ce (.int .i64 y), .ce (.int .i64 a)] [] Q) =
    ((decide (x < (-4194304 : Int)) = true → Q ⟨.tup [.ce (.int .i64 0), .ce (.int .i64 0), .ce (.bool false)], false, [], []⟩) ∧ (decide (x < (-4194304 : Int)) = false → (decide (x > 4194304) = true → Q ⟨.tup [.ce (.int .i64 0), .ce (.int .i64 0), .ce (.bool false)], false, [], []⟩) ∧ (decide (x > 4194304) = false → (decide (y < (-4194304 : Int)) = true → Q ⟨.tup [.ce (.int .i64 0), .ce (.int .i64 0), .ce (.bool false)], false, [], []⟩) ∧ (decide (y < (-4194304 : Int)) = false → (decide (y > 4194304) = true → Q ⟨.tup [.ce (.int .i64 0), .ce (.int .i64 0), .ce (.bool false)], false, [], []⟩) ∧ (decide (y > 4194304) = false → True ∧ ∀ (x1 : Int), x1 = scS a → ∀ (x2 : Int), x2 = scC a → (-9223372036854775808 ≤ x * x2 ∧ x * x2 ≤ 9223372036854775807) ∧ ∀ (x3 : Int), x3 = x * x2 → (-9223372036854775808 ≤ y * x1 ∧ y * x1 ≤ 9223372036854775807) ∧ ∀ (x4 : Int), x4 = y * x1 → (-9223372036854775808 ≤ x3 - x4 ∧
    x3 - x4 ≤ 9223372036854775807) ∧ ∀ (x5 : Int), x5 = x3 - x4 → ((-4611686018427387904 : Int) ≤ x5 ∧ x5 ≤ 4611686018427387904) ∧ ∀ (x6 : Int), x6 = nr x5 → (-9223372036854775808 ≤ x * x1 ∧ x * x1 ≤ 9223372036854775807) ∧ ∀ (x7 : Int), x7 = x * x1 → (-9223372036854775808 ≤ y * x2 ∧ y * x2 ≤ 9223372036854775807) ∧ ∀ (x8 : Int), x8 = y * x2 → (-9223372036854775808 ≤ x7 + x8 ∧ x7 + x8 ≤ 9223372036854775807) ∧ ∀ (x9 : Int), x9 = x7 + x8 → ((-4611686018427387904 : Int) ≤ x9 ∧ x9 ≤ 4611686018427387904) ∧ ∀ (x10 : Int), x10 = nr x9 → Q ⟨.tup [.ce (.int .i64 x6), .ce (.int .i64 x10), .ce (.bool true)], false, [], []⟩))))) := by kernel_rfl
def tabRot2 : List (FuncId × HL.Spec) := [(75, SSml), (76, SSin), (77, SNr)]
noncomputable def CRot2 : Ctx := ⟨Tryd.prog, gam tabRot2, Tryd.f53.ntmps, [], []⟩
theorem vcRot2 (x y a : Int) (Q : Res → Prop) : (nfun true CRot2 Tryd.f53 (bodyOf Tryd.f53) [.ce (.int .i64 x), .ce (.int .i64 y), .ce (.int .i64 a)] [] Q) =
    (True ∧ ∀ (x1 : Bool), x1 = (decide (x ≥ (-4194304 : Int)) && decide (x ≤ 4194304)) → ((!x1) = true → Q ⟨.tup [.ce (.int .i64 0), .ce (.int .i64 0), .ce (.bool false)], false, [], []⟩) ∧ ((!x1) = false → True ∧ ∀ (x2 : Bool), x2 = (decide (y ≥ (-4194304 : Int)) && decide (y ≤ 4194304)) → ((!x2) = true → Q ⟨.tup [.ce (.int .i64 0), .ce (.int .i64 0), .ce (.bool false)], false, [], []⟩) ∧ ((!x2) = false → True ∧ ∀ (x3 : Int), x3 = scS a → ∀ (x4 : Int), x4 = scC a → (-9223372036854775808 ≤ x * x4 ∧ x * x4 ≤ 9223372036854775807) ∧ ∀ (x5 : Int), x5 = x * x4 → (-9223372036854775808 ≤ y * x3 ∧ y * x3 ≤ 9223372036854775807) ∧ ∀ (x6 : Int), x6 = y * x3 → (-9223372036854775808 ≤ x5 - x6 ∧ x5 - x6 ≤ 9223372036854775807) ∧ ∀ (x7 : Int), x7 = x5 - x6 → ((-4611686018427387904 : Int) ≤ x7 ∧ x7 ≤ 4611686018427387904) ∧ ∀ (x8 : Int), x8 = nr x7 → (-9223372036854775808 ≤ x * x3 ∧ x * x3 ≤ 9223372036854775807) ∧
    ∀ (x9 : Int), x9 = x * x3 → (-9223372036854775808 ≤ y * x4 ∧ y * x4 ≤ 9223372036854775807) ∧ ∀ (x10 : Int), x10 = y * x4 → (-9223372036854775808 ≤ x9 + x10 ∧ x9 + x10 ≤ 9223372036854775807) ∧ ∀ (x11 : Int), x11 = x9 + x10 → ((-4611686018427387904 : Int) ≤ x11 ∧ x11 ≤ 4611686018427387904) ∧ ∀ (x12 : Int), x12 = nr x11 → Q ⟨.tup [.ce (.int .i64 x8), .ce (.int .i64 x12), .ce (.bool true)], false, [], []⟩))) := by kernel_rfl
end Go.Proofs.YtgnknciihdajiaaDoor
namespace U
theorem fdiv_pow (y : Int) (n : Nat) : y.fdiv (2 ^ n) = y / 2 ^ n := Int.fdiv_eq_ediv_of_nonneg _ (Int.le_of_lt (Int.pow_pos (by decide)))
theorem fdiv_bd {y B : Int} (n : Nat) (h : -B ≤ y ∧ y ≤ B) : -(B / 2 ^ n + 1) ≤ y.fdiv (2 ^ n) ∧ y.fdiv (2 ^ n) ≤ B / 2 ^ n := by
  have hp : (0 : Int) < 2 ^ n := Int.pow_pos (by decide)
  rw [fdiv_pow]
  refine ⟨Int.le_ediv_of_mul_le hp ?_, Int.ediv_le_ediv hp h.2⟩
  have := Int.lt_ediv_add_one_mul_self B hp
  rw [Int.neg_mul]
  omega
def cbd : Nat → Int
  | 0 => 652032874
  | n + 1 => cbd n + cbd n / 2 ^ n + 1
theorem cord_succ (z : Int) (n : Nat) : cord z (n + 1) = cstep n (cord z n) := rfl
theorem cord_bd (z : Int) : ∀ n, (-cbd n ≤ (cord z n).x ∧ (cord z n).x ≤ cbd n) ∧ (-cbd n ≤ (cord z n).y ∧ (cord z n).y ≤ cbd n)
  | 0 => by
    have e : (cord z 0).x = 652032874 ∧ (cord z 0).y = 0 ∧ cbd 0 = 652032874 := ⟨rfl, rfl, rfl⟩
    omega
  | n + 1 => by
    obtain ⟨hx, hy⟩ := cord_bd z n
    have fx := fdiv_bd n hx
    have fy := fdiv_bd n hy
    have e : cbd (n + 1) = cbd n + cbd n / 2 ^ n + 1 := rfl
    rw [cord_succ, e]
    unfold cstep
    split
    · dsimp only; omega
    · dsimp only; omega
theorem cbd_le : ∀ n, n ≤ 26 → cbd n ≤ 4294967296 := by
  have e : ∀ n, n < 27 → cbd n ≤ 4294967296 := by decide +kernel
  exact fun n hn => e n (by omega)
theorem atab_bd (n : Nat) : 0 ≤ atab.getD n 0 ∧ atab.getD n 0 ≤ 45000000000 := by
  by_cases h : n < 26
  · have e : ∀ n, n < 26 → 0 ≤ atab.getD n 0 ∧ atab.getD n 0 ≤ 45000000000 := by decide +kernel
    exact e n h
  · have : atab.length ≤ n := by show 26 ≤ n; omega
    rw [List.getD_eq_getElem?_getD, List.getElem?_eq_none this]; decide
theorem cord_z (z : Int) : ∀ n : Nat, -(z.natAbs : Int) - 45000000000 * n ≤ (cord z n).z ∧ (cord z n).z ≤ (z.natAbs : Int) + 45000000000 * n
  | 0 => by
    have e : (cord z 0).z = z := rfl
    rw [e]; omega
  | n + 1 => by
    have h := cord_z z n
    have t := atab_bd n
    rw [cord_succ]
    unfold cstep
    split
    · dsimp only; omega
    · dsimp only; omega
theorem trn_bd (B : Int) : ∀ (n : Nat) (p : Int × Int), (-B ≤ p.1 ∧ p.1 ≤ B) ∧ (-B ≤ p.2 ∧ p.2 ≤ B) → (-B ≤ (trn n p).1 ∧ (trn n p).1 ≤ B) ∧ (-B ≤ (trn n p).2 ∧ (trn n p).2 ≤ B)
  | 0, p, h => h
  | n + 1, p, h => trn_bd B n (-p.2, p.1) ⟨by dsimp only; omega, by dsimp only; omega⟩
theorem trn_succ (n : Nat) (x y : Int) : trn (n + 1) (x, y) = trn n (-y, x) := rfl
theorem sc_bd (a : Int) : (-4294967296 ≤ scC a ∧ scC a ≤ 4294967296) ∧ (-4294967296 ≤ scS a ∧ scS a ≤ 4294967296) := by
  unfold scC scS
  refine trn_bd 4294967296 _ _ ?_
  unfold cs0
  have h := cord_bd (ars a * 1000) 26
  have c := cbd_le 26 (Nat.le_refl _)
  split
  · dsimp only; omega
  · dsimp only; omega
theorem atab_el : ∀ n, n < 26 → el tabR n = atab.getD n 0 := by decide +kernel
theorem ang_bd (a : Int) : 0 ≤ ang a ∧ ang a < 360000000 := ⟨Int.emod_nonneg _ (by decide), Int.emod_lt_of_pos _ (by decide)⟩
theorem akq_bd (a : Int) : 0 ≤ akq a ∧ akq a ≤ 4 := by
  have := ang_bd a
  unfold akq
  omega
theorem ars_bd (a : Int) : -45000000 ≤ ars a ∧ ars a < 45000000 := by
  have := ang_bd a
  unfold ars akq
  omega
theorem mul_sc {x c : Int} (hx : -4194304 ≤ x ∧ x ≤ 4194304) (hc : -4294967296 ≤ c ∧ c ≤ 4294967296) : -18014398509481984 ≤ x * c ∧ x * c ≤ 18014398509481984 := by
  have h1 : (x * c).natAbs ≤ 4194304 * 4294967296 := by
    rw [Int.natAbs_mul]
    exact Nat.mul_le_mul (by omega) (by omega)
  omega
end U
namespace Go.Proofs.YtgnknciihdajiaaDoor
open Go Go.HL U
attribute [local irreducible] hfun bodyT fragT
set_option maxHeartbeats 400000 in
set_option maxRecDepth 100000 in
theorem sRem : Sound Tryd.prog 89 SRem := by
  refine sound_of (C := CRem) [] Tryd.func89 (by kernel_rfl) (by decide +kernel) (by kernel_rfl) rfl trivial (loops0 (by kernel_rfl)) ?_
  intro hargs pars R h
  unfold SRem at h
  split at h
  case h_2 => exfalso; exact h
  rename_i a b
  obtain ⟨hb, hq⟩ := h
  have t := tmod_small (v := a) hb.1
  refine byVC (vcRem a b R) ⟨by omega, fun x e => ⟨fun g => ⟨?_, fun x2 e2 => ?_⟩, fun g => ?_⟩⟩
  · have := Int.tmod_lt_of_pos a hb.1
    have := of_decide_eq_true g
    have h3 := t.1 (by omega)
    have h4 := Int.emod_nonneg a (show b ≠ 0 by omega)
    omega
  · have g := of_decide_eq_true g
    rw [show x2 = a % b by rw [e2, e]; exact t.1 (by omega)]; exact hq
  · have g := of_decide_eq_false g
    rw [show x = a % b by rw [e]; exact t.2 (by omega)]; exact hq
theorem loopTrn : ∀ v Q, (LTrn v).wp Q → hloop CTrn anTrn (nthLoop Tryd.f90 0) v Q := by
  intro v Q h
  unfold LTrn at h
  split at h
  case h_2 => exact h.elim
  rename_i x y k
  obtain ⟨⟨hx, hy, hk⟩, hq⟩ := h
  refine hloop_rec (σ := Int × Int × Int) (fun s => ([.ce (.int .i64 s.1), .ce (.int .i64 s.2.1), .ce (.int .i64 s.2.2)], []))
    (fun s => s.2.2.toNat) (fun s => (-4611686018427387904 ≤ s.1 ∧ s.1 ≤ 4611686018427387904) ∧ (-4611686018427387904 ≤ s.2.1 ∧ s.2.1 ≤ 4611686018427387904) ∧ (0 ≤ s.2.2 ∧ s.2.2 ≤ 4611686018427387904) ∧ trn s.2.2.toNat (s.1, s.2.1) = trn k.toNat (x, y)) ?_ (x, y, k) ⟨hx, hy, hk, rfl⟩
  rintro ⟨x', y', k'⟩ ⟨h1, h2, h3, h4⟩ K hn hxx _
  dsimp only at h1 h2 h3 h4 hn ⊢
  refine byVB (vbTrn x' y' k' K) ⟨fun g => ⟨by omega, fun x1 e1 => ⟨by omega, fun x2 e2 => ?_⟩⟩, fun g => ?_⟩
  · have g := of_decide_eq_true g
    refine hn (x1, x', x2) ⟨by dsimp only; omega, by dsimp only; omega, by dsimp only; omega, ?_⟩ (by dsimp only; omega)
    dsimp only
    rw [← h4, show k'.toNat = x2.toNat + 1 by omega, trn_succ, e1, Int.zero_sub]
  · have g := of_decide_eq_false g
    have e : k'.toNat = 0 := by omega
    rw [e] at h4
    have h4 : (x', y') = trn k.toNat (x, y) := h4
    rw [← h4] at hq
    exact hxx _ _ hq
set_option maxHeartbeats 400000 in
set_option maxRecDepth 100000 in
theorem sTrn : Sound Tryd.prog 90 STrn := by
  refine sound_of (C := CTrn) [] Tryd.func90 (by kernel_rfl) (by decide +kernel) (by kernel_rfl) rfl trivial (loops1 (by kernel_rfl) (loopOK_of (an := anTrn) (S := LTrn) (by kernel_rfl) loopTrn)) ?_
  intro hargs pars R h
  unfold STrn at h
  split at h
  case h_2 => exfalso; exact h
  rename_i x y k
  exact byVC (vcTrn x y k R) h
theorem loopTrn2 : ∀ v Q, (LTrn2 v).wp Q → hloop CTrn2 anTrn2 (nthLoop Tryd.f101 0) v Q := by
  intro v Q h
  unfold LTrn2 at h
  split at h
  case h_2 => exact h.elim
  rename_i x y k i
  obtain ⟨⟨hi, hx, hy, hk⟩, hq⟩ := h
  subst hi
  refine hloop_rec (σ := Int × Int × Int) (fun s => ([.ce (.int .i64 s.1), .ce (.int .i64 s.2.1), .ce (.int .i64 k), .ce (.int .i64 s.2.2)], []))
    (fun s => (k - s.2.2).toNat) (fun s => (-4611686018427387904 ≤ s.1 ∧ s.1 ≤ 4611686018427387904) ∧ (-4611686018427387904 ≤ s.2.1 ∧ s.2.1 ≤ 4611686018427387904) ∧ (0 ≤ s.2.2 ∧ s.2.2 ≤ k) ∧ trn (k - s.2.2).toNat (s.1, s.2.1) = trn k.toNat (x, y)) ?_ (x, y, 0) ⟨hx, hy, by dsimp only; omega, by dsimp only; rw [Int.sub_zero]⟩
  rintro ⟨x', y', i'⟩ ⟨h1, h2, h3, h4⟩ K hn hxx _
  dsimp only at h1 h2 h3 h4 hn ⊢
  refine byVB (vbTrn2 x' y' k i' K) ⟨fun g => ⟨by omega, fun x1 e1 => ⟨by omega, fun x2 e2 => ?_⟩⟩, fun g => ?_⟩
  · have g := of_decide_eq_true g
    refine hn (x1, x', x2) ⟨by dsimp only; omega, by dsimp only; omega, by dsimp only; omega, ?_⟩ (by dsimp only; omega)
    dsimp only
    rw [← h4, show (k - i').toNat = (k - x2).toNat + 1 by omega, trn_succ, e1, Int.zero_sub]
  · have g := of_decide_eq_false g
    have e : (k - i').toNat = 0 := by omega
    rw [e] at h4
    have h4 : (x', y') = trn k.toNat (x, y) := h4
    rw [← h4] at hq
    exact hxx _ _ hq
set_option maxHeartbeats 400000 in
set_option maxRecDepth 100000 in
theorem sTrn2 : Sound Tryd.prog 101 STrn := by
  refine sound_of (C := CTrn2) [] Tryd.func101 (by kernel_rfl) (by decide +kernel) (by kernel_rfl) rfl trivial (loops1 (by kernel_rfl) (loopOK_of (an := anTrn2) (S := LTrn2) (by kernel_rfl) loopTrn2)) ?_
  intro hargs pars R h
  unfold STrn at h
  split at h
  case h_2 => exfalso; exact h
  rename_i x y k
  obtain ⟨⟨hx, hy, hk⟩, hq⟩ := h
  exact byVC (vcTrn2 x y k R) ⟨⟨rfl, hx, hy, hk⟩, hq⟩
theorem cord_step {z : Int} (hz : -45000000000 ≤ z ∧ z ≤ 45000000000) {n : Nat} (hn : n < 26) :
    ((-4294967296 ≤ (cord z n).x ∧ (cord z n).x ≤ 4294967296) ∧ (-4294967296 ≤ (cord z n).y ∧ (cord z n).y ≤ 4294967296) ∧ (-2000000000000 ≤ (cord z n).z ∧ (cord z n).z ≤ 2000000000000)) ∧
    ((-4294967297 ≤ (cord z n).x.fdiv (2 ^ n) ∧ (cord z n).x.fdiv (2 ^ n) ≤ 4294967296) ∧ (-4294967297 ≤ (cord z n).y.fdiv (2 ^ n) ∧ (cord z n).y.fdiv (2 ^ n) ≤ 4294967296)) := by
  have h := cord_bd z n
  have c := cbd_le n (by omega)
  have hzz := cord_z z n
  have q : ∀ y : Int, -4294967296 ≤ y ∧ y ≤ 4294967296 → -4294967297 ≤ y.fdiv (2 ^ n) ∧ y.fdiv (2 ^ n) ≤ 4294967296 := fun y hy => by
    have f := fdiv_bd n hy
    have p : (0 : Int) < 2 ^ n := Int.pow_pos (by decide)
    have : (4294967296 : Int) / 2 ^ n ≤ 4294967296 := Int.ediv_le_self _ (by decide)
    omega
  exact ⟨⟨by omega, by omega, by omega⟩, q _ (by omega), q _ (by omega)⟩
theorem fragSin : ∀ v Q, (LSf v).wp Q → fragT CSin anSf (nthFrag CSin Tryd.f70 0) v Q := by
  intro v Q h
  unfold LSf at h
  split at h
  case h_2 => exact h.elim
  rename_i k x y z tb i
  obtain ⟨⟨rfl, hi⟩, hq⟩ := h
  obtain ⟨n, rfl⟩ := Int.eq_ofNat_of_zero_le hi.1
  have e : ∀ m : Nat, (n : Int) = (m : Int) → ∀ t : Int, atab.getD m 0 = t → Q .normal ([.ce (.int .i64 k), .ce (.int .i64 x), .ce (.int .i64 y), .ce (.int .i64 z), .ce (.int .i64 (n : Int)), .ce (.int .i64 t), .agg tabC, .ce (.int .i64 (n : Int))], []) := fun m hm t ht => by
    have : n = m := by omega
    subst this
    rw [← ht]; exact hq
  exact byVG (vgSin k x y z n Q) ⟨hi, fun g => e 0 g _ rfl, fun g => e 1 g _ rfl, fun g => e 2 g _ rfl, fun g => e 3 g _ rfl, fun g => e 4 g _ rfl, fun g => e 5 g _ rfl, fun g => e 6 g _ rfl, fun g => e 7 g _ rfl, fun g => e 8 g _ rfl, fun g => e 9 g _ rfl, fun g => e 10 g _ rfl, fun g => e 11 g _ rfl, fun g => e 12 g _ rfl, fun g => e 13 g _ rfl, fun g => e 14 g _ rfl, fun g => e 15 g _ rfl, fun g => e 16 g _ rfl, fun g => e 17 g _ rfl, fun g => e 18 g _ rfl, fun g => e 19 g _ rfl, fun g => e 20 g _ rfl, fun g => e 21 g _ rfl, fun g => e 22 g _ rfl, fun g => e 23 g _ rfl, fun g => e 24 g _ rfl, fun g => e 25 g _ rfl⟩
theorem loopSin : ∀ v Q, (LSin v).wp Q → hloop CSin anSin (nthLoop Tryd.f70 0) v Q := by
  intro v Q h
  unfold LSin at h
  split at h
  case h_2 => exact h.elim
  rename_i k x y z tb i
  obtain ⟨⟨h1, h2, h3, h4, hz⟩, hq⟩ := h
  subst h1 h2 h3 h4
  refine hloop_rec (σ := Nat) (fun n => ([.ce (.int .i64 k), .ce (.int .i64 (cord z n).x), .ce (.int .i64 (cord z n).y), .ce (.int .i64 (cord z n).z), .agg tabC, .ce (.int .i64 (n : Int))], []))
    (fun n => 26 - n) (fun n => n ≤ 26) ?_ 0 (Nat.zero_le _)
  intro n hn K hnn hxx _
  have hm : (min ((n : Int)).toNat 64) = n := by rw [Int.toNat_natCast]; omega
  refine byVB (vbSin k (cord z n).x (cord z n).y (cord z n).z n K) ⟨fun g => ?_, fun g => ?_⟩
  · have g := of_decide_eq_true g
    have hs := cord_step hz (n := n) (by omega)
    have t := atab_bd n
    have next := hnn (n + 1) (by omega) (by omega)
    rw [cord_succ] at next
    refine ⟨⟨rfl, by omega, g⟩, fun c => ?_, fun c => ?_⟩
    · have c := of_decide_eq_true c
      rw [hm, Int.toNat_natCast]
      refine ⟨by omega, fun x1 e1 => ⟨by omega, fun x2 e2 => ⟨by omega, fun x3 e3 => ⟨by omega, fun x4 e4 => ⟨by omega, fun x5 e5 => ⟨by omega, fun x6 e6 => ?_⟩⟩⟩⟩⟩⟩
      unfold cstep at next
      rw [if_pos c] at next
      rw [e2, e1, e4, e3, e5, show x6 = ((n + 1 : Nat) : Int) by omega]
      exact next
    · have c := of_decide_eq_false c
      rw [hm, Int.toNat_natCast]
      refine ⟨by omega, fun x1 e1 => ⟨by omega, fun x2 e2 => ⟨by omega, fun x3 e3 => ⟨by omega, fun x4 e4 => ⟨by omega, fun x5 e5 => ⟨by omega, fun x6 e6 => ?_⟩⟩⟩⟩⟩⟩
      unfold cstep at next
      rw [if_neg c] at next
      rw [e2, e1, e4, e3, e5, show x6 = ((n + 1 : Nat) : Int) by omega]
      exact next
  · have g := of_decide_eq_false g
    have : n = 26 := by omega
    subst this
    exact hxx _ _ hq
theorem quarter {x : Int} (h : 0 ≤ x) : x.tdiv 90000000 = x / 90000000 := tdiv_pos h
theorem sin_fin {a : Int} {R : Res → Prop} (hq : R ⟨.tup [.ce (.int .i64 (scS a)), .ce (.int .i64 (scC a))], false, [], []⟩) {x1 x2 x3 x4 x5 : Int} (e1 : x1 = a % 360000000) (e2 : x2 = x1 + 45000000) (e3 : x3 = x2.tdiv 90000000) (e4 : x4 = x3 * 90000000) (e5 : x5 = x1 - x4) :
    x1 = ang a ∧ x3 = akq a ∧ x5 = ars a ∧ (x5 ≠ 0 → R ⟨.tup [.ce (.int .i64 (trn x3.toNat ((cord (x5 * 1000) 26).x, (cord (x5 * 1000) 26).y)).2), .ce (.int .i64 (trn x3.toNat ((cord (x5 * 1000) 26).x, (cord (x5 * 1000) 26).y)).1)], false, [], []⟩) ∧
      (x5 = 0 → R ⟨.tup [.ce (.int .i64 (trn x3.toNat (1073741824, 0)).2), .ce (.int .i64 (trn x3.toNat (1073741824, 0)).1)], false, [], []⟩) := by
  have h1 : x1 = ang a := e1
  have b1 := ang_bd a
  have h3 : x3 = akq a := by rw [e3, quarter (by omega), e2, h1]; rfl
  have h5 : x5 = ars a := by rw [e5, e4, h3, h1]; rfl
  refine ⟨h1, h3, h5, fun g => ?_, fun g => ?_⟩
  · unfold scS scC cs0 at hq
    rw [← h5, if_pos g, ← h3] at hq; exact hq
  · unfold scS scC cs0 at hq
    rw [← h5, if_neg (by simpa using g), ← h3] at hq; exact hq
set_option maxHeartbeats 400000 in
set_option maxRecDepth 100000 in
theorem sSin : Sound Tryd.prog 70 SSin := by
  refine sound_of (C := CSin) tabSin Tryd.func70 (by kernel_rfl) (by decide +kernel) (by kernel_rfl) rfl ⟨sRem, sTrn, trivial⟩ (loopsG [nthLoop Tryd.f70 0] [nthFrag CSin Tryd.f70 0] (by kernel_rfl) (by kernel_rfl) ⟨loopOK_of (an := anSin) (S := LSin) (by kernel_rfl) loopSin, trivial⟩ ⟨fragOK_of (an := anSf) (S := LSf) (by kernel_rfl) fragSin, trivial⟩) ?_
  intro hargs pars R h
  unfold SSin at h
  split at h
  case h_2 => exfalso; exact h
  rename_i a
  obtain ⟨_, hq⟩ := h
  have ba := ang_bd a
  have bk := akq_bd a
  have br := ars_bd a
  refine byVC (vcSin a R) ⟨by omega, fun x1 e1 => ?_⟩
  have h1 : x1 = ang a := e1
  refine ⟨by omega, fun x2 e2 => ⟨by omega, ?_⟩⟩
  have h3 : x2.tdiv 90000000 = akq a := by rw [quarter (by omega), e2, h1]; rfl
  refine ⟨by omega, fun x3 e3 => ⟨by omega, fun x4 e4 => ⟨by omega, fun x5 e5 => ?_⟩⟩⟩
  obtain ⟨_, k3, k5, f1, f2⟩ := sin_fin hq e1 e2 e3 e4 e5
  refine ⟨fun g => ?_, fun g => ?_⟩
  · have g : x5 ≠ 0 := by simpa using g
    refine ⟨by omega, fun x6 e6 => ⟨⟨rfl, rfl, rfl, rfl, by omega⟩, ?_⟩⟩
    have b := cord_bd x6 26
    have c := cbd_le 26 (Nat.le_refl _)
    refine ⟨⟨by omega, by omega, by omega⟩, fun x7 e7 x8 e8 => ?_⟩
    have := f1 g
    rw [← e6] at this
    rw [e7, e8]; exact this
  · have g : x5 = 0 := by simpa using g
    refine ⟨⟨by omega, by omega, by omega⟩, fun x9 e9 x10 e10 => ?_⟩
    rw [e9, e10]; exact f2 g
set_option maxHeartbeats 400000 in
set_option maxRecDepth 100000 in
theorem sTab : Sound Tryd.prog 100 STab := by
  refine sound_of (C := CTab) [] Tryd.func100 (by kernel_rfl) (by decide +kernel) (by kernel_rfl) rfl trivial (loops0 (by kernel_rfl)) ?_
  intro hargs pars R h
  unfold STab at h
  split at h
  case h_2 => exfalso; exact h
  exact byVC (vcTab R) h.2
theorem loopSin2 : ∀ v Q, (LSin2 v).wp Q → hloop CSin2 anSin2 (nthLoop Tryd.f76 0) v Q := by
  intro v Q h
  unfold LSin2 at h
  split at h
  case h_2 => exact h.elim
  rename_i k x y z tb i
  obtain ⟨⟨h1, h2, h3, h4, hz⟩, hq⟩ := h
  subst h1 h2 h3 h4
  refine hloop_rec (σ := Nat) (fun n => ([.ce (.int .i64 k), .ce (.int .i64 (cord z n).x), .ce (.int .i64 (cord z n).y), .ce (.int .i64 (cord z n).z), .ce (.sl false [4] tabR), .ce (.int .i64 (n : Int))], []))
    (fun n => 26 - n) (fun n => n ≤ 26) ?_ 0 (Nat.zero_le _)
  intro n hn K hnn hxx _
  have hl : (List.length tabR : Int) = 26 := rfl
  refine byVB (vbSin2 k (cord z n).x (cord z n).y (cord z n).z n tabR K) ⟨fun g => ?_, fun g => ?_⟩
  · have g := of_decide_eq_true g
    rw [hl] at g ⊢
    have hs := cord_step hz (n := n) (by omega)
    have t := atab_bd n
    have next := hnn (n + 1) (by omega) (by omega)
    rw [cord_succ] at next
    have ht := atab_el n (by omega)
    rw [show (n : Int) % 18446744073709551616 = (n : Int) by omega, Int.toNat_natCast, ht]
    rintro _ rfl
    have hm : min ((n : Int)).toNat 64 = n := by rw [Int.toNat_natCast]; omega
    rw [hm]
    refine ⟨by omega, fun x2 e2 => ?_⟩
    rintro _ rfl
    rw [hm]
    refine ⟨by omega, fun x4 e4 => ⟨fun c => ?_, fun c => ?_⟩⟩
    · have c := of_decide_eq_true c
      refine ⟨by omega, fun x5 e5 => ⟨by omega, fun x6 e6 => ⟨by omega, fun x7 e7 => ⟨by omega, fun x8 e8 => ⟨by omega, fun x9 e9 => ?_⟩⟩⟩⟩⟩
      unfold cstep at next
      rw [if_pos c] at next
      rw [e5, e2, e6, e4, e8, e7, show x9 = ((n + 1 : Nat) : Int) by omega]
      exact next
    · have c := of_decide_eq_false c
      refine ⟨by omega, fun x5 e5 => ⟨by omega, fun x6 e6 => ⟨by omega, fun x7 e7 => ⟨by omega, fun x8 e8 => ⟨by omega, fun x9 e9 => ?_⟩⟩⟩⟩⟩
      unfold cstep at next
      rw [if_neg c] at next
      rw [e5, e2, e6, e4, e8, e7, show x9 = ((n + 1 : Nat) : Int) by omega]
      exact next
  · have g := of_decide_eq_false g
    rw [hl] at g
    have : n = 26 := by omega
    subst this
    exact hxx _ _ hq
set_option maxHeartbeats 400000 in
set_option maxRecDepth 100000 in
theorem sSin2 : Sound Tryd.prog 76 SSin := by
  refine sound_of (C := CSin2) tabSin2 Tryd.func76 (by kernel_rfl) (by decide +kernel) (by kernel_rfl) rfl ⟨sMod, sTrn2, sTab, trivial⟩ (loops1 (by kernel_rfl) (loopOK_of (an := anSin2) (S := LSin2) (by kernel_rfl) loopSin2)) ?_
  intro hargs pars R h
  unfold SSin at h
  split at h
  case h_2 => exfalso; exact h
  rename_i a
  obtain ⟨_, hq⟩ := h
  have ba := ang_bd a
  have bk := akq_bd a
  have br := ars_bd a
  refine byVC (vcSin2 a R) ⟨by omega, fun x1 e1 => ?_⟩
  have h1 : x1 = ang a := e1
  refine ⟨by omega, fun x2 e2 => ⟨by omega, ?_⟩⟩
  have h3 : x2.tdiv 90000000 = akq a := by rw [quarter (by omega), e2, h1]; rfl
  refine ⟨by omega, fun x3 e3 => ⟨by omega, fun x4 e4 => ⟨by omega, fun x5 e5 => ?_⟩⟩⟩
  obtain ⟨_, k3, k5, f1, f2⟩ := sin_fin hq e1 e2 e3 e4 e5
  refine ⟨fun g => ?_, fun g => ?_⟩
  · have g : x5 ≠ 0 := by simpa using g
    refine ⟨by omega, fun x6 e6 => ⟨trivial, fun x7 e7 => ⟨⟨e7, rfl, rfl, rfl, by omega⟩, ?_⟩⟩⟩
    have b := cord_bd x6 26
    have c := cbd_le 26 (Nat.le_refl _)
    refine ⟨⟨by omega, by omega, by omega⟩, fun x7 e7 x8 e8 => ?_⟩
    have := f1 g
    rw [← e6] at this
    rw [e7, e8]; exact this
  · have g : x5 = 0 := by simpa using g
    refine ⟨⟨by omega, by omega, by omega⟩, fun x9 e9 x10 e10 => ?_⟩
    rw [e9, e10]; exact f2 g
set_option maxHeartbeats 400000 in
set_option maxRecDepth 100000 in
theorem sNr : Sound Tryd.prog 71 SNr := by
  refine sound_of (C := CNr) [] Tryd.func71 (by kernel_rfl) (by decide +kernel) (by kernel_rfl) rfl trivial (loops0 (by kernel_rfl)) ?_
  intro hargs pars R h
  unfold SNr at h
  split at h
  case h_2 => exfalso; exact h
  rename_i n
  obtain ⟨hn, hq⟩ := h
  refine byVC (vcNr n R) ⟨by omega, fun x1 e1 => ⟨by omega, fun x2 e2 => ?_⟩⟩
  rw [e2, e1]; exact hq
set_option maxHeartbeats 400000 in
set_option maxRecDepth 100000 in
theorem sNr2 : Sound Tryd.prog 77 SNr := by
  refine sound_of (C := CNr) [] Tryd.func77 (by kernel_rfl) (by decide +kernel) (by kernel_rfl) rfl trivial (loops0 (by kernel_rfl)) ?_
  intro hargs pars R h
  unfold SNr at h
  split at h
  case h_2 => exfalso; exact h
  rename_i n
  obtain ⟨hn, hq⟩ := h
  refine byVC (vcNr2 n R) ⟨by omega, fun x1 e1 => ⟨by omega, fun x2 e2 => ?_⟩⟩
  rw [e2, e1]; exact hq
set_option maxHeartbeats 400000 in
set_option maxRecDepth 100000 in
theorem sSml : Sound Tryd.prog 75 SSml := by
  refine sound_of (C := CSml) [] Tryd.func75 (by kernel_rfl) (by decide +kernel) (by kernel_rfl) rfl trivial (loops0 (by kernel_rfl)) ?_
  intro hargs pars R h
  unfold SSml at h
  split at h
  case h_2 => exfalso; exact h
  rename_i n
  obtain ⟨_, hq⟩ := h
  refine byVC (vcSml n R) ?_
  refine ⟨fun g => ?_, fun g => ?_⟩
  · rw [g, Bool.true_and] at hq; exact hq
  · rw [g, Bool.false_and] at hq; exact hq
theorem rot_bad {x y a : Int} {R : Res → Prop} (hq : R ⟨.tup [.ce (.int .i64 (rtU x y a)), .ce (.int .i64 (rtW x y a)), .ce (.bool (rtB x y))], false, [], []⟩) (h : ¬ (-4194304 ≤ x ∧ x ≤ 4194304 ∧ -4194304 ≤ y ∧ y ≤ 4194304)) :
    R ⟨.tup [.ce (.int .i64 0), .ce (.int .i64 0), .ce (.bool false)], false, [], []⟩ := by
  have e : rtB x y = false := decide_eq_false h
  unfold rtU rtW at hq
  rw [e] at hq
  exact hq
theorem rot_ok {x y a x1 x2 x3 x4 x5 x6 x7 x8 x9 x10 : Int} {R : Res → Prop} (hq : R ⟨.tup [.ce (.int .i64 (rtU x y a)), .ce (.int .i64 (rtW x y a)), .ce (.bool (rtB x y))], false, [], []⟩) (h : -4194304 ≤ x ∧ x ≤ 4194304 ∧ -4194304 ≤ y ∧ y ≤ 4194304)
    (e1 : x1 = scS a) (e2 : x2 = scC a) (e3 : x3 = x * x2) (e4 : x4 = y * x1) (e5 : x5 = x3 - x4) (e6 : x6 = nr x5) (e7 : x7 = x * x1) (e8 : x8 = y * x2) (e9 : x9 = x7 + x8) (e10 : x10 = nr x9) :
    R ⟨.tup [.ce (.int .i64 x6), .ce (.int .i64 x10), .ce (.bool true)], false, [], []⟩ := by
  have e : rtB x y = true := decide_eq_true h
  unfold rtU rtW at hq
  rw [e, if_pos rfl, if_pos rfl] at hq
  rw [e10, e9, e8, e7, e6, e5, e4, e3, e2, e1]
  exact hq
set_option maxHeartbeats 400000 in
set_option maxRecDepth 100000 in
theorem sRot : Sound Tryd.prog 49 SRot := by
  refine sound_of (C := CRot) tabRot Tryd.func49 (by kernel_rfl) (by decide +kernel) (by kernel_rfl) rfl ⟨sSin, sNr, trivial⟩ (loops0 (by kernel_rfl)) ?_
  intro hargs pars R h
  unfold SRot at h
  split at h
  case h_2 => exfalso; exact h
  rename_i x y a
  obtain ⟨_, hq⟩ := h
  refine byVC (vcRot x y a R) ⟨fun g1 => rot_bad hq (by have := of_decide_eq_true g1; omega), fun g1 => ⟨fun g2 => rot_bad hq (by have := of_decide_eq_true g2; omega), fun g2 => ⟨fun g3 => rot_bad hq (by have := of_decide_eq_true g3; omega), fun g3 => ⟨fun g4 => rot_bad hq (by have := of_decide_eq_true g4; omega), fun g4 => ?_⟩⟩⟩⟩
  have g1 := of_decide_eq_false g1
  have g2 := of_decide_eq_false g2
  have g3 := of_decide_eq_false g3
  have g4 := of_decide_eq_false g4
  have b := sc_bd a
  refine ⟨trivial, fun x1 e1 x2 e2 => ?_⟩
  have m1 := mul_sc (x := x) (c := x2) (by omega) (by omega)
  have m2 := mul_sc (x := y) (c := x1) (by omega) (by omega)
  have m3 := mul_sc (x := x) (c := x1) (by omega) (by omega)
  have m4 := mul_sc (x := y) (c := x2) (by omega) (by omega)
  exact ⟨by omega, fun x3 e3 => ⟨by omega, fun x4 e4 => ⟨by omega, fun x5 e5 => ⟨by omega, fun x6 e6 => ⟨by omega, fun x7 e7 => ⟨by omega, fun x8 e8 => ⟨by omega, fun x9 e9 => ⟨by omega, fun x10 e10 => rot_ok hq (by omega) e1 e2 e3 e4 e5 e6 e7 e8 e9 e10⟩⟩⟩⟩⟩⟩⟩⟩
set_option maxHeartbeats 400000 in
set_option maxRecDepth 100000 in
theorem sRot2 : Sound Tryd.prog 53 SRot := by
  refine sound_of (C := CRot2) tabRot2 Tryd.func53 (by kernel_rfl) (by decide +kernel) (by kernel_rfl) rfl ⟨sSml, sSin2, sNr2, trivial⟩ (loops0 (by kernel_rfl)) ?_
  intro hargs pars R h
  unfold SRot at h
  split at h
  case h_2 => exfalso; exact h
  rename_i x y a
  obtain ⟨_, hq⟩ := h
  have q : ∀ {b : Bool} {n : Int}, b = (decide (n ≥ -4194304) && decide (n ≤ 4194304)) → (b = true ↔ -4194304 ≤ n ∧ n ≤ 4194304) := fun {b n} e => by
    rw [e, Bool.and_eq_true, decide_eq_true_eq, decide_eq_true_eq]
  have nt : ∀ {b : Bool}, (!b) = true → ¬ b = true := fun {b} g e => by rw [e] at g; cases g
  have nf : ∀ {b : Bool}, (!b) = false → b = true := fun {b} g => by cases b; cases g; rfl
  refine byVC (vcRot2 x y a R) ⟨trivial, fun b1 eb1 => ⟨fun g1 => rot_bad hq (fun hh => nt g1 ((q eb1).2 ⟨hh.1, hh.2.1⟩)), fun g1 => ⟨trivial, fun b2 eb2 => ⟨fun g2 => rot_bad hq (fun hh => nt g2 ((q eb2).2 ⟨hh.2.2.1, hh.2.2.2⟩)), fun g2 => ?_⟩⟩⟩⟩
  have g1 := (q eb1).1 (nf g1)
  have g2 := (q eb2).1 (nf g2)
  have b := sc_bd a
  refine ⟨trivial, fun x1 e1 x2 e2 => ?_⟩
  have m1 := mul_sc (x := x) (c := x2) (by omega) (by omega)
  have m2 := mul_sc (x := y) (c := x1) (by omega) (by omega)
  have m3 := mul_sc (x := x) (c := x1) (by omega) (by omega)
  have m4 := mul_sc (x := y) (c := x2) (by omega) (by omega)
  exact ⟨by omega, fun x3 e3 => ⟨by omega, fun x4 e4 => ⟨by omega, fun x5 e5 => ⟨by omega, fun x6 e6 => ⟨by omega, fun x7 e7 => ⟨by omega, fun x8 e8 => ⟨by omega, fun x9 e9 => ⟨by omega, fun x10 e10 => rot_ok hq (by omega) e1 e2 e3 e4 e5 e6 e7 e8 e9 e10⟩⟩⟩⟩⟩⟩⟩⟩
end Go.Proofs.YtgnknciihdajiaaDoor
namespace U
open Go Go.HL
def ins (n : Int) : Bool := decide (-1048576 ≤ n ∧ n ≤ 1048576)
def wn (x y z : Int) : Bool := ins x && (ins y && ins z)
def isPl (p : Int) : Bool := p == 17 || (p == 18 || p == 19)
def sel3 (p a b c : Int) : Int := if p = 17 then a else if p = 18 then b else if p = 19 then c else 0
def fU (p x y z : Int) : Int := sel3 p x z y
def fW (p x y z : Int) : Int := sel3 p y x z
def fH (p x y z : Int) : Int := sel3 p z y x
def sX (p u w h : Int) : Int := sel3 p u w h
def sY (p u w h : Int) : Int := sel3 p w h u
def sZ (p u w h : Int) : Int := sel3 p h u w
def pk6 (s a b c d e f : Int) : Int := if s = 54 then a else if s = 55 then b else if s = 56 then c else if s = 57 then d else if s = 58 then e else f
def B3 (B x y z : Int) : Prop := (-B ≤ x ∧ x ≤ B) ∧ (-B ≤ y ∧ y ≤ B) ∧ (-B ≤ z ∧ z ≤ B)
end U
namespace Go.Proofs.YtgnknciihdajiaaDoor
open Go Go.HL U
def SIns (hargs : List HV) (pars : List (List HC)) : SR :=
  match hargs, pars with
  | [.ce (.int .i64 n)], [] => .det True ⟨.ce (.bool (ins n)), false, [], []⟩
  | _, _ => .fail
noncomputable def CIns : Ctx := ⟨Tryd.prog, gam [], Tryd.f67.ntmps, [], []⟩
theorem vcIns (n : Int) (Q : Res → Prop) : (nfun true CIns Tryd.f67 (bodyOf Tryd.f67) [.ce (.int .i64 n)] [] Q) =
    ((decide (n ≥ (-1048576 : Int)) = true → Q ⟨.ce (.bool (decide (n ≤ 1048576))), false, [], []⟩) ∧ (decide (n ≥ (-1048576 : Int)) = false → Q ⟨.ce (.bool false), false, [], []⟩)) := by kernel_rfl
def SIns2 (hargs : List HV) (pars : List (List HC)) : SR :=
  match hargs, pars with
  | [.ce (.int .i64 n), .ce (.int .i64 l)], [] => .det (l = 1048576) ⟨.ce (.bool (ins n)), false, [], []⟩
  | _, _ => .fail
noncomputable def CIns2 : Ctx := ⟨Tryd.prog, gam [], Tryd.f72.ntmps, [], []⟩
theorem vcIns2 (n l : Int) (Q : Res → Prop) : (nfun true CIns2 Tryd.f72 (bodyOf Tryd.f72) [.ce (.int .i64 n), .ce (.int .i64 l)] [] Q) =
    ((-9223372036854775808 ≤ (0 : Int) - l ∧ (0 : Int) - l ≤ 9223372036854775807) ∧ ∀ (x1 : Int), x1 = 0 - l → (decide (n ≥ x1) = true → Q ⟨.ce (.bool (decide (n ≤ l))), false, [], []⟩) ∧ (decide (n ≥ x1) = false → Q ⟨.ce (.bool false), false, [], []⟩)) := by kernel_rfl
def SWn (hargs : List HV) (pars : List (List HC)) : SR :=
  match hargs, pars with
  | [.agg [.int .i64 x, .int .i64 y, .int .i64 z]], [] => .det True ⟨.ce (.bool (wn x y z)), false, [], []⟩
  | _, _ => .fail
def tabWn : List (FuncId × HL.Spec) := [(67, SIns)]
noncomputable def CWn : Ctx := ⟨Tryd.prog, gam tabWn, Tryd.f44.ntmps, [], []⟩
theorem vcWn (x y z : Int) (Q : Res → Prop) : (nfun true CWn Tryd.f44 (bodyOf Tryd.f44) [.agg [.int .i64 x, .int .i64 y, .int .i64 z]] [] Q) =
    (True ∧ ∀ (x1 : Bool), x1 = ins x → (x1 = true → True ∧ ∀ (x2 : Bool), x2 = ins y → (x2 = true → True ∧ ∀ (x3 : Bool), x3 = ins z → Q ⟨.ce (.bool x3), false, [], []⟩) ∧ (x2 = false → Q ⟨.ce (.bool false), false, [], []⟩)) ∧ (x1 = false → Q ⟨.ce (.bool false), false, [], []⟩)) := by kernel_rfl
def tabWn2 : List (FuncId × HL.Spec) := [(72, SIns2)]
noncomputable def CWn2 : Ctx := ⟨Tryd.prog, gam tabWn2, Tryd.f50.ntmps, [], []⟩
theorem vcWn2 (x y z : Int) (Q : Res → Prop) : (nfun true CWn2 Tryd.f50 (bodyOf Tryd.f50) [.agg [.int .i64 x, .int .i64 y, .int .i64 z]] [] Q) =
    ((1048576 : Int) = (1048576 : Int) ∧ ∀ (x1 : Bool), x1 = ins x → (x1 = true → (1048576 : Int) = (1048576 : Int) ∧ ∀ (x2 : Bool), x2 = ins y → (x2 = true → (1048576 : Int) = (1048576 : Int) ∧ ∀ (x3 : Bool), x3 = ins z → Q ⟨.ce (.bool x3), false, [], []⟩) ∧ (x2 = false → Q ⟨.ce (.bool false), false, [], []⟩)) ∧ (x1 = false → Q ⟨.ce (.bool false), false, [], []⟩)) := by kernel_rfl
def SAd (hargs : List HV) (pars : List (List HC)) : SR :=
  match hargs, pars with
  | [.agg [.int .i64 x, .int .i64 y, .int .i64 z], .agg [.int .i64 a, .int .i64 b, .int .i64 c]], [] => .det (B3 1152921504606846976 x y z ∧ B3 1152921504606846976 a b c) ⟨.agg [.int .i64 (x + a), .int .i64 (y + b), .int .i64 (z + c)], false, [], []⟩
  | _, _ => .fail
def SSb (hargs : List HV) (pars : List (List HC)) : SR :=
  match hargs, pars with
  | [.agg [.int .i64 x, .int .i64 y, .int .i64 z], .agg [.int .i64 a, .int .i64 b, .int .i64 c]], [] => .det (B3 1152921504606846976 x y z ∧ B3 1152921504606846976 a b c) ⟨.agg [.int .i64 (x - a), .int .i64 (y - b), .int .i64 (z - c)], false, [], []⟩
  | _, _ => .fail
noncomputable def CAd : Ctx := ⟨Tryd.prog, gam [], Tryd.f55.ntmps, [], []⟩
theorem vcAd (x y z a b c : Int) (Q : Res → Prop) : (nfun true CAd Tryd.f55 (bodyOf Tryd.f55) [.agg [.int .i64 x, .int .i64 y, .int .i64 z], .agg [.int .i64 a, .int .i64 b, .int .i64 c]] [] Q) =
    ((-9223372036854775808 ≤ x + a ∧ x + a ≤ 9223372036854775807) ∧ ∀ (x1 : Int), x1 = x + a → (-9223372036854775808 ≤ y + b ∧ y + b ≤ 9223372036854775807) ∧ ∀ (x2 : Int), x2 = y + b → (-9223372036854775808 ≤ z + c ∧ z + c ≤ 9223372036854775807) ∧ ∀ (x3 : Int), x3 = z + c → Q ⟨.agg [.int .i64 x1, .int .i64 x2, .int .i64 x3], false, [], []⟩) := by kernel_rfl
theorem vcSb (x y z a b c : Int) (Q : Res → Prop) : (nfun true CAd Tryd.f65 (bodyOf Tryd.f65) [.agg [.int .i64 x, .int .i64 y, .int .i64 z], .agg [.int .i64 a, .int .i64 b, .int .i64 c]] [] Q) =
    ((-9223372036854775808 ≤ x - a ∧ x - a ≤ 9223372036854775807) ∧ ∀ (x1 : Int), x1 = x - a → (-9223372036854775808 ≤ y - b ∧ y - b ≤ 9223372036854775807) ∧ ∀ (x2 : Int), x2 = y - b → (-9223372036854775808 ≤ z - c ∧ z - c ≤ 9223372036854775807) ∧ ∀ (x3 : Int), x3 = z - c → Q ⟨.agg [.int .i64 x1, .int .i64 x2, .int .i64 x3], false, [], []⟩) := by kernel_rfl
def SFl (hargs : List HV) (pars : List (List HC)) : SR :=
  match hargs, pars with
  | [.ce (.int .i64 p), .agg [.int .i64 x, .int .i64 y, .int .i64 z]], [] => .det True ⟨.tup [.agg [.int .i64 (fU p x y z), .int .i64 (fW p x y z)], .ce (.int .i64 (fH p x y z)), .ce (.bool (isPl p))], false, [], []⟩
  | _, _ => .fail
noncomputable def CFl : Ctx := ⟨Tryd.prog, gam [], Tryd.f102.ntmps, [], []⟩
theorem vcFl (p x y z : Int) (Q : Res → Prop) : (nfun true CFl Tryd.f102 (bodyOf Tryd.f102) [.ce (.int .i64 p), .agg [.int .i64 x, .int .i64 y, .int .i64 z]] [] Q) =
    (((p == 17) = true → Q ⟨.tup [.agg [.int .i64 x, .int .i64 y], .ce (.int .i64 z), .ce (.bool true)], false, [], []⟩) ∧ ((p == 17) = false → ((p == 18) = true → Q ⟨.tup [.agg [.int .i64 z, .int .i64 x], .ce (.int .i64 y), .ce (.bool true)], false, [], []⟩) ∧ ((p == 18) = false → ((p == 19) = true → Q ⟨.tup [.agg [.int .i64 y, .int .i64 z], .ce (.int .i64 x), .ce (.bool true)], false, [], []⟩) ∧ ((p == 19) = false → Q ⟨.tup [.agg [.int .i64 0, .int .i64 0], .ce (.int .i64 0), .ce (.bool false)], false, [], []⟩)))) := by kernel_rfl
def SSo (hargs : List HV) (pars : List (List HC)) : SR :=
  match hargs, pars with
  | [.ce (.int .i64 p), .agg [.int .i64 u, .int .i64 w], .ce (.int .i64 h)], [] => .det True ⟨.tup [.agg [.int .i64 (sX p u w h), .int .i64 (sY p u w h), .int .i64 (sZ p u w h)], .ce (.bool (isPl p))], false, [], []⟩
  | _, _ => .fail
noncomputable def CSo : Ctx := ⟨Tryd.prog, gam [], Tryd.f103.ntmps, [], []⟩
theorem vcSo (p u w h : Int) (Q : Res → Prop) : (nfun true CSo Tryd.f103 (bodyOf Tryd.f103) [.ce (.int .i64 p), .agg [.int .i64 u, .int .i64 w], .ce (.int .i64 h)] [] Q) =
    (((p == 17) = true → Q ⟨.tup [.agg [.int .i64 u, .int .i64 w, .int .i64 h], .ce (.bool true)], false, [], []⟩) ∧ ((p == 17) = false → ((p == 18) = true → Q ⟨.tup [.agg [.int .i64 w, .int .i64 h, .int .i64 u], .ce (.bool true)], false, [], []⟩) ∧ ((p == 18) = false → ((p == 19) = true → Q ⟨.tup [.agg [.int .i64 h, .int .i64 u, .int .i64 w], .ce (.bool true)], false, [], []⟩) ∧ ((p == 19) = false → Q ⟨.tup [.agg [.int .i64 0, .int .i64 0, .int .i64 0], .ce (.bool false)], false, [], []⟩)))) := by kernel_rfl
def SPl (hargs : List HV) (pars : List (List HC)) : SR :=
  match hargs, pars with
  | [.ce (.int .i64 p)], [] => .det True ⟨.ce (.bool (isPl p)), false, [], []⟩
  | _, _ => .fail
noncomputable def CPl : Ctx := ⟨Tryd.prog, gam [], Tryd.f47.ntmps, [], []⟩
theorem vcPl (p : Int) (Q : Res → Prop) : (nfun true CPl Tryd.f47 (bodyOf Tryd.f47) [.ce (.int .i64 p)] [] Q) =
    (((p == 17) = true → Q ⟨.ce (.bool true), false, [], []⟩) ∧ ((p == 17) = false → ((p == 18) = true → Q ⟨.ce (.bool true), false, [], []⟩) ∧ ((p == 18) = false → Q ⟨.ce (.bool (p == 19)), false, [], []⟩))) := by kernel_rfl
def SOrg (hargs : List HV) (pars : List (List HC)) : SR :=
  match hargs, pars with
  | [.agg cs], [] => match cs with
    | [.int .i64 s0, .int .i64 s1, .int .i64 s2, .int .i64 s3, .int .i64 s4, .int .i64 s5, .int .i64 s6, .int .i64 s7, .int .i64 s8, .int .i64 s9, .int .i64 s10, .int .i64 s11, .int .i64 s12, .int .i64 s13, .int .i64 s14, .int .i64 s15, .int .i64 s16, .int .i64 s17, .int .i64 sy, .int .i64 l0, .int .i64 l1, .int .i64 l2, .int .i64 h0, .int .i64 h1, .int .i64 h2, .int .i64 ln, .bool tu, .int .i64 pl, .int .i64 c0, .int .i64 c1, .int .i64 c2, .int .i64 an] => .det ((54 ≤ sy ∧ sy ≤ 59) ∧ (B3 1073741824 s0 s1 s2 ∧ B3 1073741824 s3 s4 s5 ∧ B3 1073741824 s6 s7 s8 ∧ B3 1073741824 s9 s10 s11 ∧ B3 1073741824 s12 s13 s14 ∧ B3 1073741824 s15 s16 s17) ∧ B3 1073741824 l0 l1 l2 ∧ B3 1073741824 h0 h1 h2 ∧ (-1073741824 ≤ ln ∧ ln ≤ 1073741824))
        ⟨.agg [.int .i64 (pk6 sy s0 s3 s6 s9 s12 s15 + l0 + h0), .int .i64 (pk6 sy s1 s4 s7 s10 s13 s16 + l1 + h1), .int .i64 (pk6 sy s2 s5 s8 s11 s14 s17 + l2 + h2 + ln)], false, [], []⟩
    | _ => .fail
  | _, _ => .fail
def tabOrg : List (FuncId × HL.Spec) := [(55, SAd)]
noncomputable def COrg : Ctx := ⟨Tryd.prog, gam tabOrg, Tryd.f22.ntmps, [], []⟩
theorem vcOrg (s0 s1 s2 s3 s4 s5 s6 s7 s8 s9 s10 s11 s12 s13 s14 s15 s16 s17 sy l0 l1 l2 h0 h1 h2 ln pl c0 c1 c2 an : Int) (tu : Bool) (Q : Res → Prop) : (nfun true COrg Tryd.f22 (bodyOf Tryd.f22) [.agg [.int .i64 s0, .int .i64 s1, .int .i64 s2, .int .i64 s3, .int .i64 s4, .int .i64 s5, .int .i64 s6, .int .i64 s7, .int .i64 s8, .int .i64 s9, .int .i64 s10, .int .i64 s11, .int .i64 s12, .int .i64 s13, .int .i64 s14, .int .i64 s15, .int .i64 s16, .int .i64 s17, .int .i64 sy, .int .i64 l0, .int .i64 l1, .int .i64 l2, .int .i64 h0, .int .i64 h1, .int .i64 h2, .int .i64 ln, .bool tu, .int .i64 pl, .int .i64 c0, .int .i64 c1, .int .i64 c2, .int .i64 an]] [] Q) =
    ((B3 (1152921504606846976 : Int) l0 l1 l2 ∧ B3 (1152921504606846976 : Int) h0 h1 h2) ∧ ∀ (x1 : Int), x1 = l0 + h0 → ∀ (x2 : Int), x2 = l1 + h1 → ∀ (x3 : Int), x3 = l2 + h2 → (-9223372036854775808 ≤ x3 + ln ∧ x3 + ln ≤ 9223372036854775807) ∧ ∀ (x4 : Int), x4 = x3 + ln → (-9223372036854775808 ≤ sy - 54 ∧ sy - 54 ≤ 9223372036854775807) ∧ ∀ (x5 : Int), x5 = sy - 54 → (decide (x5 ≥ 0) = true → (decide (x5 < 6) = true → (0 ≤ x5 ∧ x5 < 6) ∧ (x5 = 0 → (B3 (1152921504606846976 : Int) x1 x2 x4 ∧ B3 (1152921504606846976 : Int) s0 s1 s2) ∧ ∀ (x6 : Int), x6 = x1 + s0 → ∀ (x7 : Int), x7 = x2 + s1 → ∀ (x8 : Int), x8 = x4 + s2 → Q ⟨.agg [.int .i64 x6, .int .i64 x7, .int .i64 x8], false, [], []⟩) ∧ (x5 = 1 → (B3 (1152921504606846976 : Int) x1 x2 x4 ∧ B3 (1152921504606846976 : Int) s3 s4 s5) ∧ ∀ (x9 : Int), x9 = x1 + s3 → ∀ (x10 : Int), x10 = x2 + s4 → ∀ (x11 : Int), x11 = x4 + s5 → Q ⟨.agg [.int .i64 x9, .int .i64 x10, .int .i64 x11], false, [], []⟩) ∧
    (x5 = 2 → (B3 (1152921504606846976 : Int) x1 x2 x4 ∧ B3 (1152921504606846976 : Int) s6 s7 s8) ∧ ∀ (x12 : Int), x12 = x1 + s6 → ∀ (x13 : Int), x13 = x2 + s7 → ∀ (x14 : Int), x14 = x4 + s8 → Q ⟨.agg [.int .i64 x12, .int .i64 x13, .int .i64 x14], false, [], []⟩) ∧ (x5 = 3 → (B3 (1152921504606846976 : Int) x1 x2 x4 ∧ B3 (1152921504606846976 : Int) s9 s10 s11) ∧ ∀ (x15 : Int), x15 = x1 + s9 → ∀ (x16 : Int), x16 = x2 + s10 → ∀ (x17 : Int), x17 = x4 + s11 → Q ⟨.agg [.int .i64 x15, .int .i64 x16, .int .i64 x17], false, [], []⟩) ∧ (x5 = 4 → (B3 (1152921504606846976 : Int) x1 x2 x4 ∧ B3 (1152921504606846976 : Int) s12 s13 s14) ∧ ∀ (x18 : Int), x18 = x1 + s12 → ∀ (x19 : Int), x19 = x2 + s13 → ∀ (x20 : Int), x20 = x4 + s14 → Q ⟨.agg [.int .i64 x18, .int .i64 x19, .int .i64 x20], false, [], []⟩) ∧ (x5 = 5 → (B3 (1152921504606846976 : Int) x1 x2 x4 ∧ B3 (1152921504606846976 : Int) s15 s16 s17) ∧ ∀ (x21 : Int), x21 = x1 + s15 →
    ∀ (x22 : Int), x22 = x2 + s16 → ∀ (x23 : Int), x23 = x4 + s17 → Q ⟨.agg [.int .i64 x21, .int .i64 x22, .int .i64 x23], false, [], []⟩)) ∧ (decide (x5 < 6) = false → Q ⟨.agg [.int .i64 x1, .int .i64 x2, .int .i64 x4], false, [], []⟩)) ∧ (decide (x5 ≥ 0) = false → Q ⟨.agg [.int .i64 x1, .int .i64 x2, .int .i64 x4], false, [], []⟩)) := by kernel_rfl
end Go.Proofs.YtgnknciihdajiaaDoor
namespace U
theorem sel3_no {p a b c : Int} (h1 : (p == 17) = false) (h2 : (p == 18) = false) (h3 : (p == 19) = false) : sel3 p a b c = 0 := by
  unfold sel3
  rw [if_neg (by simpa using h1), if_neg (by simpa using h2), if_neg (by simpa using h3)]
theorem ins_iff {n : Int} : ins n = true ↔ -1048576 ≤ n ∧ n ≤ 1048576 := by unfold ins; rw [decide_eq_true_eq]
theorem wn_iff {x y z : Int} : wn x y z = true ↔ B3 1048576 x y z := by
  unfold wn B3
  rw [Bool.and_eq_true, Bool.and_eq_true, ins_iff, ins_iff, ins_iff]
theorem eqp {p k : Int} (h : (p == k) = true) : p = k := by simpa using h
theorem nep {p k : Int} (h : (p == k) = false) : p ≠ k := by simpa using h
end U
namespace Go.Proofs.YtgnknciihdajiaaDoor
open Go Go.HL U
attribute [local irreducible] hfun bodyT fragT
set_option maxHeartbeats 400000 in
set_option maxRecDepth 100000 in
theorem sIns : Sound Tryd.prog 67 SIns := by
  refine sound_of (C := CIns) [] Tryd.func67 (by kernel_rfl) (by decide +kernel) (by kernel_rfl) rfl trivial (loops0 (by kernel_rfl)) ?_
  intro hargs pars R h
  unfold SIns at h
  split at h
  case h_2 => exfalso; exact h
  rename_i n
  obtain ⟨_, hq⟩ := h
  refine byVC (vcIns n R) ⟨fun g => ?_, fun g => ?_⟩
  · have g := of_decide_eq_true g
    have e : ins n = decide (n ≤ 1048576) := by unfold ins; exact decide_eq_decide.2 (by omega)
    rw [e] at hq; exact hq
  · have g := of_decide_eq_false g
    have e : ins n = false := decide_eq_false (by omega)
    rw [e] at hq; exact hq
set_option maxHeartbeats 400000 in
set_option maxRecDepth 100000 in
theorem sIns2 : Sound Tryd.prog 72 SIns2 := by
  refine sound_of (C := CIns2) [] Tryd.func72 (by kernel_rfl) (by decide +kernel) (by kernel_rfl) rfl trivial (loops0 (by kernel_rfl)) ?_
  intro hargs pars R h
  unfold SIns2 at h
  split at h
  case h_2 => exfalso; exact h
  rename_i n l
  obtain ⟨rfl, hq⟩ := h
  refine byVC (vcIns2 n 1048576 R) ⟨by omega, fun x e => ⟨fun g => ?_, fun g => ?_⟩⟩
  · have g := of_decide_eq_true g
    have e : ins n = decide (n ≤ 1048576) := by unfold ins; exact decide_eq_decide.2 (by omega)
    rw [e] at hq; exact hq
  · have g := of_decide_eq_false g
    have e : ins n = false := decide_eq_false (by omega)
    rw [e] at hq; exact hq
theorem wn_fin {x y z : Int} {R : Res → Prop} (hq : R ⟨.ce (.bool (wn x y z)), false, [], []⟩) {x1 : Bool} (e1 : x1 = ins x) :
    (x1 = true → ∀ x2, x2 = ins y → (x2 = true → ∀ x3, x3 = ins z → R ⟨.ce (.bool x3), false, [], []⟩) ∧ (x2 = false → R ⟨.ce (.bool false), false, [], []⟩)) ∧ (x1 = false → R ⟨.ce (.bool false), false, [], []⟩) := by
  unfold wn at hq
  rw [← e1] at hq
  refine ⟨fun g x2 e2 => ?_, fun g => ?_⟩
  · rw [g, Bool.true_and, ← e2] at hq
    refine ⟨fun g x3 e3 => ?_, fun g => ?_⟩
    · rw [g, Bool.true_and, ← e3] at hq; exact hq
    · rw [g, Bool.false_and] at hq; exact hq
  · rw [g, Bool.false_and] at hq; exact hq
set_option maxHeartbeats 400000 in
set_option maxRecDepth 100000 in
theorem sWn : Sound Tryd.prog 44 SWn := by
  refine sound_of (C := CWn) tabWn Tryd.func44 (by kernel_rfl) (by decide +kernel) (by kernel_rfl) rfl ⟨sIns, trivial⟩ (loops0 (by kernel_rfl)) ?_
  intro hargs pars R h
  unfold SWn at h
  split at h
  case h_2 => exfalso; exact h
  rename_i x y z
  obtain ⟨_, hq⟩ := h
  refine byVC (vcWn x y z R) ⟨trivial, fun x1 e1 => ⟨fun g => ⟨trivial, fun x2 e2 => ⟨fun g2 => ⟨trivial, fun x3 e3 => ?_⟩, fun g2 => ?_⟩⟩, fun g => ?_⟩⟩
  · exact ((wn_fin hq e1).1 g x2 e2).1 g2 x3 e3
  · exact ((wn_fin hq e1).1 g x2 e2).2 g2
  · exact (wn_fin hq e1).2 g
set_option maxHeartbeats 400000 in
set_option maxRecDepth 100000 in
theorem sWn2 : Sound Tryd.prog 50 SWn := by
  refine sound_of (C := CWn2) tabWn2 Tryd.func50 (by kernel_rfl) (by decide +kernel) (by kernel_rfl) rfl ⟨sIns2, trivial⟩ (loops0 (by kernel_rfl)) ?_
  intro hargs pars R h
  unfold SWn at h
  split at h
  case h_2 => exfalso; exact h
  rename_i x y z
  obtain ⟨_, hq⟩ := h
  refine byVC (vcWn2 x y z R) ⟨rfl, fun x1 e1 => ⟨fun g => ⟨rfl, fun x2 e2 => ⟨fun g2 => ⟨rfl, fun x3 e3 => ?_⟩, fun g2 => ?_⟩⟩, fun g => ?_⟩⟩
  · exact ((wn_fin hq e1).1 g x2 e2).1 g2 x3 e3
  · exact ((wn_fin hq e1).1 g x2 e2).2 g2
  · exact (wn_fin hq e1).2 g
set_option maxHeartbeats 400000 in
set_option maxRecDepth 100000 in
theorem sAd : Sound Tryd.prog 55 SAd := by
  refine sound_of (C := CAd) [] Tryd.func55 (by kernel_rfl) (by decide +kernel) (by kernel_rfl) rfl trivial (loops0 (by kernel_rfl)) ?_
  intro hargs pars R h
  unfold SAd at h
  split at h
  case h_2 => exfalso; exact h
  rename_i x y z a b c
  obtain ⟨⟨⟨h1, h2, h3⟩, h4, h5, h6⟩, hq⟩ := h
  refine byVC (vcAd x y z a b c R) ⟨by omega, fun x1 e1 => ⟨by omega, fun x2 e2 => ⟨by omega, fun x3 e3 => ?_⟩⟩⟩
  rw [e1, e2, e3]; exact hq
set_option maxHeartbeats 400000 in
set_option maxRecDepth 100000 in
theorem sSb : Sound Tryd.prog 65 SSb := by
  refine sound_of (C := CAd) [] Tryd.func65 (by kernel_rfl) (by decide +kernel) (by kernel_rfl) rfl trivial (loops0 (by kernel_rfl)) ?_
  intro hargs pars R h
  unfold SSb at h
  split at h
  case h_2 => exfalso; exact h
  rename_i x y z a b c
  obtain ⟨⟨⟨h1, h2, h3⟩, h4, h5, h6⟩, hq⟩ := h
  refine byVC (vcSb x y z a b c R) ⟨by omega, fun x1 e1 => ⟨by omega, fun x2 e2 => ⟨by omega, fun x3 e3 => ?_⟩⟩⟩
  rw [e1, e2, e3]; exact hq
theorem isPl_no {p : Int} (h1 : (p == 17) = false) (h2 : (p == 18) = false) (h3 : (p == 19) = false) : isPl p = false := by unfold isPl; rw [h1, h2, h3]; rfl
theorem fl_fin {p x y z : Int} {R : Res → Prop} (hq : R ⟨.tup [.agg [.int .i64 (fU p x y z), .int .i64 (fW p x y z)], .ce (.int .i64 (fH p x y z)), .ce (.bool (isPl p))], false, [], []⟩) :
    ((p == 17) = true → R ⟨.tup [.agg [.int .i64 x, .int .i64 y], .ce (.int .i64 z), .ce (.bool true)], false, [], []⟩) ∧ ((p == 17) = false →
    ((p == 18) = true → R ⟨.tup [.agg [.int .i64 z, .int .i64 x], .ce (.int .i64 y), .ce (.bool true)], false, [], []⟩) ∧ ((p == 18) = false →
    ((p == 19) = true → R ⟨.tup [.agg [.int .i64 y, .int .i64 z], .ce (.int .i64 x), .ce (.bool true)], false, [], []⟩) ∧ ((p == 19) = false →
    R ⟨.tup [.agg [.int .i64 0, .int .i64 0], .ce (.int .i64 0), .ce (.bool false)], false, [], []⟩))) := by
  refine ⟨fun g => ?_, fun g1 => ⟨fun g => ?_, fun g2 => ⟨fun g => ?_, fun g3 => ?_⟩⟩⟩
  · rw [eqp g] at hq; exact hq
  · rw [eqp g] at hq; exact hq
  · rw [eqp g] at hq; exact hq
  · unfold fU fW fH at hq
    rw [sel3_no g1 g2 g3, sel3_no g1 g2 g3, sel3_no g1 g2 g3, isPl_no g1 g2 g3] at hq; exact hq
set_option maxHeartbeats 400000 in
set_option maxRecDepth 100000 in
theorem sFl : Sound Tryd.prog 102 SFl := by
  refine sound_of (C := CFl) [] Tryd.func102 (by kernel_rfl) (by decide +kernel) (by kernel_rfl) rfl trivial (loops0 (by kernel_rfl)) ?_
  intro hargs pars R h
  unfold SFl at h
  split at h
  case h_2 => exfalso; exact h
  rename_i p x y z
  exact byVC (vcFl p x y z R) (fl_fin h.2)
theorem so_fin {p u w h : Int} {R : Res → Prop} (hq : R ⟨.tup [.agg [.int .i64 (sX p u w h), .int .i64 (sY p u w h), .int .i64 (sZ p u w h)], .ce (.bool (isPl p))], false, [], []⟩) :
    ((p == 17) = true → R ⟨.tup [.agg [.int .i64 u, .int .i64 w, .int .i64 h], .ce (.bool true)], false, [], []⟩) ∧ ((p == 17) = false →
    ((p == 18) = true → R ⟨.tup [.agg [.int .i64 w, .int .i64 h, .int .i64 u], .ce (.bool true)], false, [], []⟩) ∧ ((p == 18) = false →
    ((p == 19) = true → R ⟨.tup [.agg [.int .i64 h, .int .i64 u, .int .i64 w], .ce (.bool true)], false, [], []⟩) ∧ ((p == 19) = false →
    R ⟨.tup [.agg [.int .i64 0, .int .i64 0, .int .i64 0], .ce (.bool false)], false, [], []⟩))) := by
  refine ⟨fun g => ?_, fun g1 => ⟨fun g => ?_, fun g2 => ⟨fun g => ?_, fun g3 => ?_⟩⟩⟩
  · rw [eqp g] at hq; exact hq
  · rw [eqp g] at hq; exact hq
  · rw [eqp g] at hq; exact hq
  · unfold sX sY sZ at hq
    rw [sel3_no g1 g2 g3, sel3_no g1 g2 g3, sel3_no g1 g2 g3, isPl_no g1 g2 g3] at hq; exact hq
set_option maxHeartbeats 400000 in
set_option maxRecDepth 100000 in
theorem sSo : Sound Tryd.prog 103 SSo := by
  refine sound_of (C := CSo) [] Tryd.func103 (by kernel_rfl) (by decide +kernel) (by kernel_rfl) rfl trivial (loops0 (by kernel_rfl)) ?_
  intro hargs pars R h
  unfold SSo at h
  split at h
  case h_2 => exfalso; exact h
  rename_i p u w h'
  exact byVC (vcSo p u w h' R) (so_fin h.2)
theorem pl_fin {p : Int} {R : Res → Prop} (hq : R ⟨.ce (.bool (isPl p)), false, [], []⟩) :
    ((p == 17) = true → R ⟨.ce (.bool true), false, [], []⟩) ∧ ((p == 17) = false → ((p == 18) = true → R ⟨.ce (.bool true), false, [], []⟩) ∧ ((p == 18) = false → R ⟨.ce (.bool (p == 19)), false, [], []⟩)) := by
  unfold isPl at hq
  refine ⟨fun g => ?_, fun g1 => ⟨fun g => ?_, fun g2 => ?_⟩⟩
  · rw [g, Bool.true_or] at hq; exact hq
  · rw [g1, g, Bool.false_or, Bool.true_or] at hq; exact hq
  · rw [g1, g2, Bool.false_or, Bool.false_or] at hq; exact hq
set_option maxHeartbeats 400000 in
set_option maxRecDepth 100000 in
theorem sPl : Sound Tryd.prog 47 SPl := by
  refine sound_of (C := CPl) [] Tryd.func47 (by kernel_rfl) (by decide +kernel) (by kernel_rfl) rfl trivial (loops0 (by kernel_rfl)) ?_
  intro hargs pars R h
  unfold SPl at h
  split at h
  case h_2 => exfalso; exact h
  rename_i p
  exact byVC (vcPl p R) (pl_fin h.2)
set_option maxHeartbeats 400000 in
set_option maxRecDepth 100000 in
theorem sOrg : Sound Tryd.prog 22 SOrg := by
  refine sound_of (C := COrg) tabOrg Tryd.func22 (by kernel_rfl) (by decide +kernel) (by kernel_rfl) rfl ⟨sAd, trivial⟩ (loops0 (by kernel_rfl)) ?_
  intro hargs pars R h
  unfold SOrg at h
  split at h
  case h_2 => exfalso; exact h
  rename_i cs
  split at h
  case h_2 => exact h.elim
  rename_i s0 s1 s2 s3 s4 s5 s6 s7 s8 s9 s10 s11 s12 s13 s14 s15 s16 s17 sy l0 l1 l2 h0 h1 h2 ln tu pl c0 c1 c2 an
  obtain ⟨⟨hs, ⟨⟨a0, a1, a2⟩, ⟨a3, a4, a5⟩, ⟨a6, a7, a8⟩, ⟨a9, a10, a11⟩, ⟨a12, a13, a14⟩, ⟨a15, a16, a17⟩⟩, ⟨b0, b1, b2⟩, ⟨d0, d1, d2⟩, hln⟩, hq⟩ := h
  have fin : ∀ {x y z : Int}, x = pk6 sy s0 s3 s6 s9 s12 s15 + l0 + h0 → y = pk6 sy s1 s4 s7 s10 s13 s16 + l1 + h1 → z = pk6 sy s2 s5 s8 s11 s14 s17 + l2 + h2 + ln → R ⟨.agg [.int .i64 x, .int .i64 y, .int .i64 z], false, [], []⟩ := fun ex ey ez => by rw [ex, ey, ez]; exact hq
  unfold pk6 at fin
  refine byVC (vcOrg s0 s1 s2 s3 s4 s5 s6 s7 s8 s9 s10 s11 s12 s13 s14 s15 s16 s17 sy l0 l1 l2 h0 h1 h2 ln pl c0 c1 c2 an tu R) ⟨by unfold B3; omega, fun x1 e1 x2 e2 x3 e3 => ⟨by omega, fun x4 e4 => ⟨by omega, fun x5 e5 => ⟨fun _ => ⟨fun _ => ⟨by omega, fun g => ?_, fun g => ?_, fun g => ?_, fun g => ?_, fun g => ?_, fun g => ?_⟩, fun g => ?_⟩, fun g => ?_⟩⟩⟩⟩
  · exact ⟨by unfold B3; omega, fun x6 e6 x7 e7 x8 e8 => fin (by omega) (by omega) (by omega)⟩
  · exact ⟨by unfold B3; omega, fun x6 e6 x7 e7 x8 e8 => fin (by omega) (by omega) (by omega)⟩
  · exact ⟨by unfold B3; omega, fun x6 e6 x7 e7 x8 e8 => fin (by omega) (by omega) (by omega)⟩
  · exact ⟨by unfold B3; omega, fun x6 e6 x7 e7 x8 e8 => fin (by omega) (by omega) (by omega)⟩
  · exact ⟨by unfold B3; omega, fun x6 e6 x7 e7 x8 e8 => fin (by omega) (by omega) (by omega)⟩
  · exact ⟨by unfold B3; omega, fun x6 e6 x7 e7 x8 e8 => fin (by omega) (by omega) (by omega)⟩
  · have := of_decide_eq_false g; omega
  · have := of_decide_eq_false g; omega
end Go.Proofs.YtgnknciihdajiaaDoor
namespace U
open Go Go.HL
def tA (p c0 c1 c2 x y z a : Int) : Int := rtU (fU p x y z - fU p c0 c1 c2) (fW p x y z - fW p c0 c1 c2) a + fU p c0 c1 c2
def tB (p c0 c1 c2 x y z a : Int) : Int := rtW (fU p x y z - fU p c0 c1 c2) (fW p x y z - fW p c0 c1 c2) a + fW p c0 c1 c2
def tOk (p c0 c1 c2 x y z : Int) : Bool := rtB (fU p x y z - fU p c0 c1 c2) (fW p x y z - fW p c0 c1 c2)
def tX (p c0 c1 c2 x y z a : Int) : Int := sX p (tA p c0 c1 c2 x y z a) (tB p c0 c1 c2 x y z a) (fH p x y z)
def tY (p c0 c1 c2 x y z a : Int) : Int := sY p (tA p c0 c1 c2 x y z a) (tB p c0 c1 c2 x y z a) (fH p x y z)
def tZ (p c0 c1 c2 x y z a : Int) : Int := sZ p (tA p c0 c1 c2 x y z a) (tB p c0 c1 c2 x y z a) (fH p x y z)
structure RotS where
  x : Int
  y : Int
  z : Int
  ok : Bool
def rotF (tu : Bool) (p c0 c1 c2 x y z a : Int) : RotS :=
  if tu then ⟨tX p c0 c1 c2 x y z a, tY p c0 c1 c2 x y z a, tZ p c0 c1 c2 x y z a, tOk p c0 c1 c2 x y z⟩ else ⟨x, y, z, true⟩
structure MapS where
  x : Int
  y : Int
  z : Int
  e : Int
def mapW (x y z : Int) (ok : Bool) : MapS := if ok && wn x y z then ⟨x, y, z, 0⟩ else ⟨0, 0, 0, 3⟩
def toF (tu : Bool) (p c0 c1 c2 a o0 o1 o2 x y z : Int) : MapS :=
  if wn x y z then mapW ((rotF tu p c0 c1 c2 x y z a).x + o0) ((rotF tu p c0 c1 c2 x y z a).y + o1) ((rotF tu p c0 c1 c2 x y z a).z + o2) (rotF tu p c0 c1 c2 x y z a).ok else ⟨0, 0, 0, 3⟩
def fromF (tu : Bool) (p c0 c1 c2 a o0 o1 o2 x y z : Int) : MapS :=
  if wn x y z then mapW (rotF tu p c0 c1 c2 (x - o0) (y - o1) (z - o2) (-a)).x (rotF tu p c0 c1 c2 (x - o0) (y - o1) (z - o2) (-a)).y (rotF tu p c0 c1 c2 (x - o0) (y - o1) (z - o2) (-a)).z (rotF tu p c0 c1 c2 (x - o0) (y - o1) (z - o2) (-a)).ok else ⟨0, 0, 0, 3⟩
def okP (tu : Bool) (p a : Int) : Prop := (tu = true → 17 ≤ p ∧ p ≤ 19) ∧ (-4611686018427387904 ≤ a ∧ a ≤ 4611686018427387904)
def okO (sy s0 s1 s2 s3 s4 s5 s6 s7 s8 s9 s10 s11 s12 s13 s14 s15 s16 s17 l0 l1 l2 h0 h1 h2 ln : Int) : Prop :=
  (54 ≤ sy ∧ sy ≤ 59) ∧ (B3 1073741824 s0 s1 s2 ∧ B3 1073741824 s3 s4 s5 ∧ B3 1073741824 s6 s7 s8 ∧ B3 1073741824 s9 s10 s11 ∧ B3 1073741824 s12 s13 s14 ∧ B3 1073741824 s15 s16 s17) ∧ B3 1073741824 l0 l1 l2 ∧ B3 1073741824 h0 h1 h2 ∧ (-1073741824 ≤ ln ∧ ln ≤ 1073741824)
def orX (sy s0 s3 s6 s9 s12 s15 l0 h0 : Int) : Int := pk6 sy s0 s3 s6 s9 s12 s15 + l0 + h0
def orZ (sy s2 s5 s8 s11 s14 s17 l2 h2 ln : Int) : Int := pk6 sy s2 s5 s8 s11 s14 s17 + l2 + h2 + ln
def okOr (r : List Int) : Prop := okO (r.getD 18 0) (r.getD 0 0) (r.getD 1 0) (r.getD 2 0) (r.getD 3 0) (r.getD 4 0) (r.getD 5 0) (r.getD 6 0) (r.getD 7 0) (r.getD 8 0) (r.getD 9 0) (r.getD 10 0) (r.getD 11 0) (r.getD 12 0) (r.getD 13 0) (r.getD 14 0) (r.getD 15 0) (r.getD 16 0) (r.getD 17 0) (r.getD 19 0) (r.getD 20 0) (r.getD 21 0) (r.getD 22 0) (r.getD 23 0) (r.getD 24 0) (r.getD 25 0)
def orR0 (r : List Int) : Int := orX (r.getD 18 0) (r.getD 0 0) (r.getD 3 0) (r.getD 6 0) (r.getD 9 0) (r.getD 12 0) (r.getD 15 0) (r.getD 19 0) (r.getD 22 0)
def orR1 (r : List Int) : Int := orX (r.getD 18 0) (r.getD 1 0) (r.getD 4 0) (r.getD 7 0) (r.getD 10 0) (r.getD 13 0) (r.getD 16 0) (r.getD 20 0) (r.getD 23 0)
def orR2 (r : List Int) : Int := orZ (r.getD 18 0) (r.getD 2 0) (r.getD 5 0) (r.getD 8 0) (r.getD 11 0) (r.getD 14 0) (r.getD 17 0) (r.getD 21 0) (r.getD 24 0) (r.getD 25 0)
def rotR (r : List Int) (sg x y z : Int) : RotS := rotF (r.getD 26 0 != 0) (r.getD 27 0) (r.getD 28 0) (r.getD 29 0) (r.getD 30 0) x y z (sg * r.getD 31 0)
def okPr (r : List Int) : Prop := okP (r.getD 26 0 != 0) (r.getD 27 0) (r.getD 31 0) ∧ B3 1073741824 (r.getD 28 0) (r.getD 29 0) (r.getD 30 0)
end U
namespace Go.Proofs.YtgnknciihdajiaaDoor
open Go Go.HL U
def STurn (hargs : List HV) (pars : List (List HC)) : SR :=
  match hargs, pars with
  | [.agg cs, .agg [.int .i64 x, .int .i64 y, .int .i64 z], .ce (.int .i64 a)], [] => match cs with
    | [.int .i64 s0, .int .i64 s1, .int .i64 s2, .int .i64 s3, .int .i64 s4, .int .i64 s5, .int .i64 s6, .int .i64 s7, .int .i64 s8, .int .i64 s9, .int .i64 s10, .int .i64 s11, .int .i64 s12, .int .i64 s13, .int .i64 s14, .int .i64 s15, .int .i64 s16, .int .i64 s17, .int .i64 sy, .int .i64 l0, .int .i64 l1, .int .i64 l2, .int .i64 h0, .int .i64 h1, .int .i64 h2, .int .i64 ln, .bool tu, .int .i64 pl, .int .i64 c0, .int .i64 c1, .int .i64 c2, .int .i64 an] => .det ((17 ≤ pl ∧ pl ≤ 19) ∧ B3 1073741824 c0 c1 c2 ∧ B3 1099511627776 x y z)
        ⟨.tup [.agg [.int .i64 (tX pl c0 c1 c2 x y z a), .int .i64 (tY pl c0 c1 c2 x y z a), .int .i64 (tZ pl c0 c1 c2 x y z a)], .ce (.bool (tOk pl c0 c1 c2 x y z))], false, [], []⟩
    | _ => .fail
  | _, _ => .fail
def tabTurn : List (FuncId × HL.Spec) := [(102, SFl), (103, SSo), (49, SRot)]
noncomputable def CTurn : Ctx := ⟨Tryd.prog, gam tabTurn, Tryd.f79.ntmps, [], []⟩
theorem vcTurn (s0 s1 s2 s3 s4 s5 s6 s7 s8 s9 s10 s11 s12 s13 s14 s15 s16 s17 sy l0 l1 l2 h0 h1 h2 ln pl c0 c1 c2 an : Int) (tu : Bool) (x y z a : Int) (Q : Res → Prop) : (nfun true CTurn Tryd.f79 (bodyOf Tryd.f79) [.agg [.int .i64 s0, .int .i64 s1, .int .i64 s2, .int .i64 s3, .int .i64 s4, .int .i64 s5, .int .i64 s6, .int .i64 s7, .int .i64 s8, .int .i64 s9, .int .i64 s10, .int .i64 s11, .int .i64 s12, .int .i64 s13, .int .i64 s14, .int .i64 s15, .int .i64 s16, .int .i64 s17, .int .i64 sy, .int .i64 l0, .int .i64 l1, .int .i64 l2, .int .i64 h0, .int .i64 h1, .int .i64 h2, .int .i64 ln, .bool tu, .int .i64 pl, .int .i64 c0, .int .i64 c1, .int .i64 c2, .int .i64 an], .agg [.int .i64 x, .int .i64 y, .int .i64 z], .ce (.int .i64 a)] [] Q) =
    (True ∧ ∀ (x1 : Int), x1 = fU pl x y z → ∀ (x2 : Int), x2 = fW pl x y z → ∀ (x3 : Int), x3 = fH pl x y z → ∀ (x4 : Bool), x4 = isPl pl → True ∧ ∀ (x5 : Int), x5 = fU pl c0 c1 c2 → ∀ (x6 : Int), x6 = fW pl c0 c1 c2 → ∀ (x7 : Int), x7 = fH pl c0 c1 c2 → ∀ (x8 : Bool), x8 = isPl pl → (-9223372036854775808 ≤ x1 - x5 ∧ x1 - x5 ≤ 9223372036854775807) ∧ ∀ (x9 : Int), x9 = x1 - x5 → (-9223372036854775808 ≤ x2 - x6 ∧ x2 - x6 ≤ 9223372036854775807) ∧ ∀ (x10 : Int), x10 = x2 - x6 → True ∧ ∀ (x11 : Int), x11 = rtU x9 x10 a → ∀ (x12 : Int), x12 = rtW x9 x10 a → ∀ (x13 : Bool), x13 = rtB x9 x10 → (-9223372036854775808 ≤ x11 + x5 ∧ x11 + x5 ≤ 9223372036854775807) ∧ ∀ (x14 : Int), x14 = x11 + x5 → (-9223372036854775808 ≤ x12 + x6 ∧ x12 + x6 ≤ 9223372036854775807) ∧ ∀ (x15 : Int), x15 = x12 + x6 → True ∧ ∀ (x16 : Int), x16 = sX pl x14 x15 x3 → ∀ (x17 : Int), x17 = sY pl x14 x15 x3 → ∀ (x18 : Int), x18 = sZ pl x14 x15 x3 →
    ∀ (x19 : Bool), x19 = isPl pl → (x4 = true → Q ⟨.tup [.agg [.int .i64 x16, .int .i64 x17, .int .i64 x18], .ce (.bool x13)], false, [], []⟩) ∧ (x4 = false → Q ⟨.tup [.agg [.int .i64 x16, .int .i64 x17, .int .i64 x18], .ce (.bool false)], false, [], []⟩)) := by kernel_rfl
def SRotn (hargs : List HV) (pars : List (List HC)) : SR :=
  match hargs, pars with
  | [.agg cs, .ce (.int .i64 g)], [] => match cs with
    | [.int .i64 s0, .int .i64 s1, .int .i64 s2, .int .i64 s3, .int .i64 s4, .int .i64 s5, .int .i64 s6, .int .i64 s7, .int .i64 s8, .int .i64 s9, .int .i64 s10, .int .i64 s11, .int .i64 s12, .int .i64 s13, .int .i64 s14, .int .i64 s15, .int .i64 s16, .int .i64 s17, .int .i64 sy, .int .i64 l0, .int .i64 l1, .int .i64 l2, .int .i64 h0, .int .i64 h1, .int .i64 h2, .int .i64 ln, .bool tu, .int .i64 pl, .int .i64 c0, .int .i64 c1, .int .i64 c2, .int .i64 an] => .det True ⟨.ce (.fnv 78 [([4, 4, 4, 4, 4, 4, 4, 4, 4, 4, 4, 4, 4, 4, 4, 4, 4, 4, 4, 4, 4, 4, 4, 4, 4, 4, 0, 4, 4, 4, 4, 4], [s0, s1, s2, s3, s4, s5, s6, s7, s8, s9, s10, s11, s12, s13, s14, s15, s16, s17, sy, l0, l1, l2, h0, h1, h2, ln, (cond tu 1 0), pl, c0, c1, c2, an]), ([4], [g])]), false, [], []⟩
    | _ => .fail
  | _, _ => .fail
noncomputable def CRotn : Ctx := ⟨Tryd.prog, gam [], Tryd.f57.ntmps, [], [5]⟩
theorem vcRotn (s0 s1 s2 s3 s4 s5 s6 s7 s8 s9 s10 s11 s12 s13 s14 s15 s16 s17 sy l0 l1 l2 h0 h1 h2 ln pl c0 c1 c2 an : Int) (tu : Bool) (g : Int) (Q : Res → Prop) : (nfun true CRotn Tryd.f57 (bodyOf Tryd.f57) [.agg [.int .i64 s0, .int .i64 s1, .int .i64 s2, .int .i64 s3, .int .i64 s4, .int .i64 s5, .int .i64 s6, .int .i64 s7, .int .i64 s8, .int .i64 s9, .int .i64 s10, .int .i64 s11, .int .i64 s12, .int .i64 s13, .int .i64 s14, .int .i64 s15, .int .i64 s16, .int .i64 s17, .int .i64 sy, .int .i64 l0, .int .i64 l1, .int .i64 l2, .int .i64 h0, .int .i64 h1, .int .i64 h2, .int .i64 ln, .bool tu, .int .i64 pl, .int .i64 c0, .int .i64 c1, .int .i64 c2, .int .i64 an], .ce (.int .i64 g)] [] Q) =
    (Q ⟨.ce (.fnv (78 : Nat) [([4, 4, 4, 4, 4, 4, 4, 4, 4, 4, 4, 4, 4, 4, 4, 4, 4, 4, 4, 4, 4, 4, 4, 4, 4, 4, 0, 4, 4, 4, 4, 4], [s0, s1, s2, s3, s4, s5, s6, s7, s8, s9, s10, s11, s12, s13, s14, s15, s16, s17, sy, l0, l1, l2, h0, h1, h2, ln, bif tu then (1 : Int) else (0 : Int), pl, c0, c1, c2, an]), ([4], [g])]), false, [], []⟩) := by kernel_rfl
def SRot1 (hargs : List HV) (pars : List (List HC)) : SR :=
  match hargs, pars with
  | [.agg [.int .i64 x, .int .i64 y, .int .i64 z], .ce (.el [4, 4, 4, 4, 4, 4, 4, 4, 4, 4, 4, 4, 4, 4, 4, 4, 4, 4, 4, 4, 4, 4, 4, 4, 4, 4, 0, 4, 4, 4, 4, 4] r 0), .ce (.el [4] g 0)], [] =>
      .det (okPr r ∧ (g.getD 0 0 = 1 ∨ g.getD 0 0 = -1) ∧ B3 1099511627776 x y z)
        ⟨.tup [.agg [.int .i64 (rotR r (g.getD 0 0) x y z).x, .int .i64 (rotR r (g.getD 0 0) x y z).y, .int .i64 (rotR r (g.getD 0 0) x y z).z], .ce (.bool (rotR r (g.getD 0 0) x y z).ok)], false, [], []⟩
  | _, _ => .fail
def tabRot1 : List (FuncId × HL.Spec) := [(79, STurn)]
noncomputable def CRot1 : Ctx := ⟨Tryd.prog, gam tabRot1, Tryd.f78.ntmps, [], []⟩
theorem vcRot1 (x y z : Int) (r g : List Int) (Q : Res → Prop) : (nfun true CRot1 Tryd.f78 (bodyOf Tryd.f78) [.agg [.int .i64 x, .int .i64 y, .int .i64 z], .ce (.el [4, 4, 4, 4, 4, 4, 4, 4, 4, 4, 4, 4, 4, 4, 4, 4, 4, 4, 4, 4, 4, 4, 4, 4, 4, 4, 0, 4, 4, 4, 4, 4] r 0), .ce (.el [4] g 0)] [] Q) =
    (((!List.getD r (26 : Nat) (0 : Int) != (0 : Int)) = true → Q ⟨.tup [.agg [.int .i64 x, .int .i64 y, .int .i64 z], .ce (.bool true)], false, [], []⟩) ∧ ((!List.getD r (26 : Nat) (0 : Int) != (0 : Int)) = false → ∀ (x1 : Int), x1 = List.getD g (0 : Nat) (0 : Int) → ∀ (x2 : Int), x2 = List.getD r (31 : Nat) (0 : Int) → (-9223372036854775808 ≤ x1 * x2 ∧ x1 * x2 ≤ 9223372036854775807) ∧ ∀ (x3 : Int), x3 = x1 * x2 → ((17 ≤ List.getD r (27 : Nat) (0 : Int) ∧ List.getD r (27 : Nat) (0 : Int) ≤ (19 : Int)) ∧ B3 (1073741824 : Int) (List.getD r (28 : Nat) (0 : Int)) (List.getD r (29 : Nat) (0 : Int)) (List.getD r (30 : Nat) (0 : Int)) ∧ B3 (1099511627776 : Int) x y z) ∧ ∀ (x4 : Int), x4 = tX (List.getD r (27 : Nat) (0 : Int)) (List.getD r (28 : Nat) (0 : Int)) (List.getD r (29 : Nat) (0 : Int)) (List.getD r (30 : Nat) (0 : Int)) x y z x3 → ∀ (x5 : Int), x5 = tY (List.getD r (27 : Nat) (0 : Int)) (List.getD r (28 : Nat) (0 : Int)) (List.getD r (29 : Nat) (0 : Int)) (List.getD r (30 : Nat) (0 : Int)) x y z x3 →
    ∀ (x6 : Int), x6 = tZ (List.getD r (27 : Nat) (0 : Int)) (List.getD r (28 : Nat) (0 : Int)) (List.getD r (29 : Nat) (0 : Int)) (List.getD r (30 : Nat) (0 : Int)) x y z x3 → ∀ (x7 : Bool), x7 = tOk (List.getD r (27 : Nat) (0 : Int)) (List.getD r (28 : Nat) (0 : Int)) (List.getD r (29 : Nat) (0 : Int)) (List.getD r (30 : Nat) (0 : Int)) x y z → Q ⟨.tup [.agg [.int .i64 x4, .int .i64 x5, .int .i64 x6], .ce (.bool x7)], false, [], []⟩)) := by kernel_rfl
def STo1 (hargs : List HV) (pars : List (List HC)) : SR :=
  match hargs, pars with
  | [.agg [.int .i64 x, .int .i64 y, .int .i64 z], .ce (.el [4, 4, 4, 4, 4, 4, 4, 4, 4, 4, 4, 4, 4, 4, 4, 4, 4, 4, 4, 4, 4, 4, 4, 4, 4, 4, 0, 4, 4, 4, 4, 4] r 0)], [] =>
      .det (okOr r ∧ B3 1099511627776 x y z) ⟨.tup [.agg [.int .i64 (x + orR0 r), .int .i64 (y + orR1 r), .int .i64 (z + orR2 r)], .ce (.bool true)], false, [], []⟩
  | _, _ => .fail
def tabTo1 : List (FuncId × HL.Spec) := [(22, SOrg), (55, SAd)]
noncomputable def CTo1 : Ctx := ⟨Tryd.prog, gam tabTo1, Tryd.f54.ntmps, [], []⟩
theorem vcTo1 (x y z : Int) (r : List Int) (Q : Res → Prop) : (nfun true CTo1 Tryd.f54 (bodyOf Tryd.f54) [.agg [.int .i64 x, .int .i64 y, .int .i64 z], .ce (.el [4, 4, 4, 4, 4, 4, 4, 4, 4, 4, 4, 4, 4, 4, 4, 4, 4, 4, 4, 4, 4, 4, 4, 4, 4, 4, 0, 4, 4, 4, 4, 4] r 0)] [] Q) =
    (((54 ≤ List.getD r (18 : Nat) (0 : Int) ∧ List.getD r (18 : Nat) (0 : Int) ≤ (59 : Int)) ∧ (B3 (1073741824 : Int) (List.getD r (0 : Nat) (0 : Int)) (List.getD r (1 : Nat) (0 : Int)) (List.getD r (2 : Nat) (0 : Int)) ∧ B3 (1073741824 : Int) (List.getD r (3 : Nat) (0 : Int)) (List.getD r (4 : Nat) (0 : Int)) (List.getD r (5 : Nat) (0 : Int)) ∧ B3 (1073741824 : Int) (List.getD r (6 : Nat) (0 : Int)) (List.getD r (7 : Nat) (0 : Int)) (List.getD r (8 : Nat) (0 : Int)) ∧ B3 (1073741824 : Int) (List.getD r (9 : Nat) (0 : Int)) (List.getD r (10 : Nat) (0 : Int)) (List.getD r (11 : Nat) (0 : Int)) ∧ B3 (1073741824 : Int) (List.getD r (12 : Nat) (0 : Int)) (List.getD r (13 : Nat) (0 : Int)) (List.getD r (14 : Nat) (0 : Int)) ∧ B3 (1073741824 : Int) (List.getD r (15 : Nat) (0 : Int)) (List.getD r (16 : Nat) (0 : Int)) (List.getD r (17 : Nat) (0 : Int))) ∧ B3 (1073741824 : Int) (List.getD r (19 : Nat) (0 : Int)) (List.getD r (20 : Nat) (0 : Int)) (List.getD r (21 : Nat) (0 : Int)) ∧
    B3 (1073741824 : Int) (List.getD r (22 : Nat) (0 : Int)) (List.getD r (23 : Nat) (0 : Int)) (List.getD r (24 : Nat) (0 : Int)) ∧ (-1073741824 : Int) ≤ List.getD r (25 : Nat) (0 : Int) ∧ List.getD r (25 : Nat) (0 : Int) ≤ (1073741824 : Int)) ∧ ∀ (x1 : Int), x1 = pk6 (List.getD r (18 : Nat) (0 : Int)) (List.getD r (0 : Nat) (0 : Int)) (List.getD r (3 : Nat) (0 : Int)) (List.getD r (6 : Nat) (0 : Int)) (List.getD r (9 : Nat) (0 : Int)) (List.getD r (12 : Nat) (0 : Int)) (List.getD r (15 : Nat) (0 : Int)) + List.getD r (19 : Nat) (0 : Int) + List.getD r (22 : Nat) (0 : Int) → ∀ (x2 : Int), x2 = pk6 (List.getD r (18 : Nat) (0 : Int)) (List.getD r (1 : Nat) (0 : Int)) (List.getD r (4 : Nat) (0 : Int)) (List.getD r (7 : Nat) (0 : Int)) (List.getD r (10 : Nat) (0 : Int)) (List.getD r (13 : Nat) (0 : Int)) (List.getD r (16 : Nat) (0 : Int)) + List.getD r (20 : Nat) (0 : Int) + List.getD r (23 : Nat) (0 : Int) →
    ∀ (x3 : Int), x3 = pk6 (List.getD r (18 : Nat) (0 : Int)) (List.getD r (2 : Nat) (0 : Int)) (List.getD r (5 : Nat) (0 : Int)) (List.getD r (8 : Nat) (0 : Int)) (List.getD r (11 : Nat) (0 : Int)) (List.getD r (14 : Nat) (0 : Int)) (List.getD r (17 : Nat) (0 : Int)) + List.getD r (21 : Nat) (0 : Int) + List.getD r (24 : Nat) (0 : Int) + List.getD r (25 : Nat) (0 : Int) → (B3 (1152921504606846976 : Int) x y z ∧ B3 (1152921504606846976 : Int) x1 x2 x3) ∧ ∀ (x4 : Int), x4 = x + x1 → ∀ (x5 : Int), x5 = y + x2 → ∀ (x6 : Int), x6 = z + x3 → Q ⟨.tup [.agg [.int .i64 x4, .int .i64 x5, .int .i64 x6], .ce (.bool true)], false, [], []⟩) := by kernel_rfl
def SFr1 (hargs : List HV) (pars : List (List HC)) : SR :=
  match hargs, pars with
  | [.agg [.int .i64 x, .int .i64 y, .int .i64 z], .ce (.el [4, 4, 4, 4, 4, 4, 4, 4, 4, 4, 4, 4, 4, 4, 4, 4, 4, 4, 4, 4, 4, 4, 4, 4, 4, 4, 0, 4, 4, 4, 4, 4] r 0)], [] =>
      .det (okOr r ∧ B3 1099511627776 x y z) ⟨.tup [.agg [.int .i64 (x - orR0 r), .int .i64 (y - orR1 r), .int .i64 (z - orR2 r)], .ce (.bool true)], false, [], []⟩
  | _, _ => .fail
def tabFr1 : List (FuncId × HL.Spec) := [(22, SOrg), (65, SSb)]
noncomputable def CFr1 : Ctx := ⟨Tryd.prog, gam tabFr1, Tryd.f64.ntmps, [], []⟩
theorem vcFr1 (x y z : Int) (r : List Int) (Q : Res → Prop) : (nfun true CFr1 Tryd.f64 (bodyOf Tryd.f64) [.agg [.int .i64 x, .int .i64 y, .int .i64 z], .ce (.el [4, 4, 4, 4, 4, 4, 4, 4, 4, 4, 4, 4, 4, 4, 4, 4, 4, 4, 4, 4, 4, 4, 4, 4, 4, 4, 0, 4, 4, 4, 4, 4] r 0)] [] Q) =
    (((54 ≤ List.getD r (18 : Nat) (0 : Int) ∧ List.getD r (18 : Nat) (0 : Int) ≤ (59 : Int)) ∧ (B3 (1073741824 : Int) (List.getD r (0 : Nat) (0 : Int)) (List.getD r (1 : Nat) (0 : Int)) (List.getD r (2 : Nat) (0 : Int)) ∧ B3 (1073741824 : Int) (List.getD r (3 : Nat) (0 : Int)) (List.getD r (4 : Nat) (0 : Int)) (List.getD r (5 : Nat) (0 : Int)) ∧ B3 (1073741824 : Int) (List.getD r (6 : Nat) (0 : Int)) (List.getD r (7 : Nat) (0 : Int)) (List.getD r (8 : Nat) (0 : Int)) ∧ B3 (1073741824 : Int) (List.getD r (9 : Nat) (0 : Int)) (List.getD r (10 : Nat) (0 : Int)) (List.getD r (11 : Nat) (0 : Int)) ∧ B3 (1073741824 : Int) (List.getD r (12 : Nat) (0 : Int)) (List.getD r (13 : Nat) (0 : Int)) (List.getD r (14 : Nat) (0 : Int)) ∧ B3 (1073741824 : Int) (List.getD r (15 : Nat) (0 : Int)) (List.getD r (16 : Nat) (0 : Int)) (List.getD r (17 : Nat) (0 : Int))) ∧ B3 (1073741824 : Int) (List.getD r (19 : Nat) (0 : Int)) (List.getD r (20 : Nat) (0 : Int)) (List.getD r (21 : Nat) (0 : Int)) ∧
    B3 (1073741824 : Int) (List.getD r (22 : Nat) (0 : Int)) (List.getD r (23 : Nat) (0 : Int)) (List.getD r (24 : Nat) (0 : Int)) ∧ (-1073741824 : Int) ≤ List.getD r (25 : Nat) (0 : Int) ∧ List.getD r (25 : Nat) (0 : Int) ≤ (1073741824 : Int)) ∧ ∀ (x1 : Int), x1 = pk6 (List.getD r (18 : Nat) (0 : Int)) (List.getD r (0 : Nat) (0 : Int)) (List.getD r (3 : Nat) (0 : Int)) (List.getD r (6 : Nat) (0 : Int)) (List.getD r (9 : Nat) (0 : Int)) (List.getD r (12 : Nat) (0 : Int)) (List.getD r (15 : Nat) (0 : Int)) + List.getD r (19 : Nat) (0 : Int) + List.getD r (22 : Nat) (0 : Int) → ∀ (x2 : Int), x2 = pk6 (List.getD r (18 : Nat) (0 : Int)) (List.getD r (1 : Nat) (0 : Int)) (List.getD r (4 : Nat) (0 : Int)) (List.getD r (7 : Nat) (0 : Int)) (List.getD r (10 : Nat) (0 : Int)) (List.getD r (13 : Nat) (0 : Int)) (List.getD r (16 : Nat) (0 : Int)) + List.getD r (20 : Nat) (0 : Int) + List.getD r (23 : Nat) (0 : Int) →
    ∀ (x3 : Int), x3 = pk6 (List.getD r (18 : Nat) (0 : Int)) (List.getD r (2 : Nat) (0 : Int)) (List.getD r (5 : Nat) (0 : Int)) (List.getD r (8 : Nat) (0 : Int)) (List.getD r (11 : Nat) (0 : Int)) (List.getD r (14 : Nat) (0 : Int)) (List.getD r (17 : Nat) (0 : Int)) + List.getD r (21 : Nat) (0 : Int) + List.getD r (24 : Nat) (0 : Int) + List.getD r (25 : Nat) (0 : Int) → (B3 (1152921504606846976 : Int) x y z ∧ B3 (1152921504606846976 : Int) x1 x2 x3) ∧ ∀ (x4 : Int), x4 = x - x1 → ∀ (x5 : Int), x5 = y - x2 → ∀ (x6 : Int), x6 = z - x3 → Q ⟨.tup [.agg [.int .i64 x4, .int .i64 x5, .int .i64 x6], .ce (.bool true)], false, [], []⟩) := by kernel_rfl
end Go.Proofs.YtgnknciihdajiaaDoor
namespace U
theorem nr_bd {n : Int} (h : -36028797018963968 ≤ n ∧ n ≤ 36028797018963968) : -33554432 ≤ nr n ∧ nr n ≤ 33554433 := by unfold nr; omega
theorem rt_bd (x y a : Int) : (-33554432 ≤ rtU x y a ∧ rtU x y a ≤ 33554433) ∧ (-33554432 ≤ rtW x y a ∧ rtW x y a ≤ 33554433) := by
  unfold rtU rtW
  by_cases h : rtB x y = true
  · rw [if_pos h, if_pos h]
    unfold rtB at h
    have h := of_decide_eq_true h
    have b := sc_bd a
    have m1 := mul_sc (x := x) (c := scC a) (by omega) (by omega)
    have m2 := mul_sc (x := y) (c := scS a) (by omega) (by omega)
    have m3 := mul_sc (x := x) (c := scS a) (by omega) (by omega)
    have m4 := mul_sc (x := y) (c := scC a) (by omega) (by omega)
    exact ⟨nr_bd (by omega), nr_bd (by omega)⟩
  · rw [if_neg h, if_neg h]; decide
theorem sel3_bd {B p a b c : Int} (hB : 0 ≤ B) (ha : -B ≤ a ∧ a ≤ B) (hb : -B ≤ b ∧ b ≤ B) (hc : -B ≤ c ∧ c ≤ B) : -B ≤ sel3 p a b c ∧ sel3 p a b c ≤ B := by
  unfold sel3
  split
  · exact ha
  · split
    · exact hb
    · split
      · exact hc
      · omega
theorem isPl_yes {p : Int} (h : 17 ≤ p ∧ p ≤ 19) : isPl p = true := by
  have : p = 17 ∨ p = 18 ∨ p = 19 := by omega
  rcases this with rfl | rfl | rfl <;> rfl
theorem flat_bd {B p x y z : Int} (hB : 0 ≤ B) (h : B3 B x y z) : (-B ≤ fU p x y z ∧ fU p x y z ≤ B) ∧ (-B ≤ fW p x y z ∧ fW p x y z ≤ B) ∧ (-B ≤ fH p x y z ∧ fH p x y z ≤ B) :=
  ⟨sel3_bd hB h.1 h.2.2 h.2.1, sel3_bd hB h.2.1 h.1 h.2.2, sel3_bd hB h.2.2 h.2.1 h.1⟩
theorem t_bd {p c0 c1 c2 x y z : Int} (a : Int) (hc : B3 1073741824 c0 c1 c2) (h : B3 1099511627776 x y z) : B3 1099511627776 (tX p c0 c1 c2 x y z a) (tY p c0 c1 c2 x y z a) (tZ p c0 c1 c2 x y z a) := by
  have f := flat_bd (p := p) (by decide) h
  have g := flat_bd (p := p) (by decide) hc
  have r := rt_bd (fU p x y z - fU p c0 c1 c2) (fW p x y z - fW p c0 c1 c2) a
  have hA : -1099511627776 ≤ tA p c0 c1 c2 x y z a ∧ tA p c0 c1 c2 x y z a ≤ 1099511627776 := by unfold tA; omega
  have hBt : -1099511627776 ≤ tB p c0 c1 c2 x y z a ∧ tB p c0 c1 c2 x y z a ≤ 1099511627776 := by unfold tB; omega
  exact ⟨sel3_bd (by decide) hA hBt f.2.2, sel3_bd (by decide) hBt f.2.2 hA, sel3_bd (by decide) f.2.2 hA hBt⟩
theorem rotF_bd {tu : Bool} {p c0 c1 c2 x y z : Int} (a : Int) (hc : B3 1073741824 c0 c1 c2) (h : B3 1099511627776 x y z) : B3 1099511627776 (rotF tu p c0 c1 c2 x y z a).x (rotF tu p c0 c1 c2 x y z a).y (rotF tu p c0 c1 c2 x y z a).z := by
  cases tu
  · exact h
  · exact t_bd a hc h
end U
namespace Go.Proofs.YtgnknciihdajiaaDoor
open Go Go.HL U
attribute [local irreducible] hfun bodyT fragT
set_option maxHeartbeats 400000 in
set_option maxRecDepth 100000 in
theorem sTurn : Sound Tryd.prog 79 STurn := by
  refine sound_of (C := CTurn) tabTurn Tryd.func79 (by kernel_rfl) (by decide +kernel) (by kernel_rfl) rfl ⟨sFl, sSo, sRot, trivial⟩ (loops0 (by kernel_rfl)) ?_
  intro hargs pars R h
  unfold STurn at h
  split at h
  case h_2 => exfalso; exact h
  rename_i cs x y z a
  split at h
  case h_2 => exact h.elim
  rename_i s0 s1 s2 s3 s4 s5 s6 s7 s8 s9 s10 s11 s12 s13 s14 s15 s16 s17 sy l0 l1 l2 h0 h1 h2 ln tu pl c0 c1 c2 an
  obtain ⟨⟨hp, hc, hx⟩, hq⟩ := h
  have f := flat_bd (p := pl) (by decide) hx
  have g := flat_bd (p := pl) (by decide) hc
  have r := rt_bd (fU pl x y z - fU pl c0 c1 c2) (fW pl x y z - fW pl c0 c1 c2) a
  have ip := isPl_yes hp
  refine byVC (vcTurn s0 s1 s2 s3 s4 s5 s6 s7 s8 s9 s10 s11 s12 s13 s14 s15 s16 s17 sy l0 l1 l2 h0 h1 h2 ln pl c0 c1 c2 an tu x y z a R) ⟨trivial, fun x1 e1 x2 e2 x3 e3 x4 e4 => ⟨trivial, fun x5 e5 x6 e6 x7 e7 x8 e8 => ⟨by omega, fun x9 e9 => ⟨by omega, fun x10 e10 => ⟨trivial, fun x11 e11 x12 e12 x13 e13 => ?_⟩⟩⟩⟩⟩
  rw [e10, e9, e1, e2, e5, e6] at e11 e12 e13
  refine ⟨by omega, fun x14 e14 => ⟨by omega, fun x15 e15 => ⟨trivial, fun x16 e16 x17 e17 x18 e18 x19 e19 => ⟨fun _ => ?_, fun g => ?_⟩⟩⟩⟩
  · have h14 : x14 = tA pl c0 c1 c2 x y z a := by rw [e14, e11, e5]; rfl
    have h15 : x15 = tB pl c0 c1 c2 x y z a := by rw [e15, e12, e6]; rfl
    rw [e16, e17, e18, e13, h14, h15, e3]
    exact hq
  · rw [e4, ip] at g; cases g
set_option maxHeartbeats 400000 in
set_option maxRecDepth 100000 in
theorem sRotn : Sound Tryd.prog 57 SRotn := by
  refine sound_of (C := CRotn) [] Tryd.func57 (by kernel_rfl) (by decide +kernel) (by kernel_rfl) rfl trivial (loops0 (by kernel_rfl)) ?_
  intro hargs pars R h
  unfold SRotn at h
  split at h
  case h_2 => exfalso; exact h
  rename_i cs g
  split at h
  case h_2 => exact h.elim
  rename_i s0 s1 s2 s3 s4 s5 s6 s7 s8 s9 s10 s11 s12 s13 s14 s15 s16 s17 sy l0 l1 l2 h0 h1 h2 ln tu pl c0 c1 c2 an
  exact byVC (vcRotn s0 s1 s2 s3 s4 s5 s6 s7 s8 s9 s10 s11 s12 s13 s14 s15 s16 s17 sy l0 l1 l2 h0 h1 h2 ln pl c0 c1 c2 an tu g R) h.2
set_option maxHeartbeats 400000 in
set_option maxRecDepth 100000 in
theorem sRot1 : Sound Tryd.prog 78 SRot1 := by
  refine sound_of (C := CRot1) tabRot1 Tryd.func78 (by kernel_rfl) (by decide +kernel) (by kernel_rfl) rfl ⟨sTurn, trivial⟩ (loops0 (by kernel_rfl)) ?_
  intro hargs pars R h
  unfold SRot1 at h
  split at h
  case h_2 => exfalso; exact h
  rename_i x y z r g
  obtain ⟨⟨⟨hp, hc⟩, hg, hx⟩, hq⟩ := h
  refine byVC (vcRot1 x y z r g R) ⟨fun t => ?_, fun t => ?_⟩
  · have t : (r.getD 26 0 != 0) = false := by simpa using t
    unfold rotR rotF at hq
    rw [t] at hq
    exact hq
  · have t : (r.getD 26 0 != 0) = true := by simpa using t
    have ha := hp.2
    have m : ∀ u : Int, u = 1 ∨ u = -1 → (-9223372036854775808 ≤ u * r.getD 31 0 ∧ u * r.getD 31 0 ≤ 9223372036854775807) := fun u hu => by
      rcases hu with rfl | rfl <;> omega
    refine fun x1 e1 x2 e2 => ⟨by rw [e1, e2]; exact m _ hg, fun x3 e3 => ⟨⟨hp.1 t, hc, hx⟩, fun x4 e4 x5 e5 x6 e6 x7 e7 => ?_⟩⟩
    unfold rotR rotF at hq
    rw [t] at hq
    rw [e4, e5, e6, e7, e3, e1, e2]
    exact hq
theorem or_bd {r : List Int} (h : okOr r) : (-4294967296 ≤ orR0 r ∧ orR0 r ≤ 4294967296) ∧ (-4294967296 ≤ orR1 r ∧ orR1 r ≤ 4294967296) ∧ (-4294967296 ≤ orR2 r ∧ orR2 r ≤ 4294967296) := by
  obtain ⟨hs, ⟨⟨a0, a1, a2⟩, ⟨a3, a4, a5⟩, ⟨a6, a7, a8⟩, ⟨a9, a10, a11⟩, ⟨a12, a13, a14⟩, ⟨a15, a16, a17⟩⟩, ⟨b0, b1, b2⟩, ⟨d0, d1, d2⟩, hln⟩ := h
  have p : ∀ {s a b c d e f : Int}, (-1073741824 ≤ a ∧ a ≤ 1073741824) → (-1073741824 ≤ b ∧ b ≤ 1073741824) → (-1073741824 ≤ c ∧ c ≤ 1073741824) → (-1073741824 ≤ d ∧ d ≤ 1073741824) → (-1073741824 ≤ e ∧ e ≤ 1073741824) → (-1073741824 ≤ f ∧ f ≤ 1073741824) →
      -1073741824 ≤ pk6 s a b c d e f ∧ pk6 s a b c d e f ≤ 1073741824 := fun {s a b c d e f} ha hb hc hd he hf => by
    unfold pk6
    repeat' split
    all_goals assumption
  have q0 := p (s := r.getD 18 0) a0 a3 a6 a9 a12 a15
  have q1 := p (s := r.getD 18 0) a1 a4 a7 a10 a13 a16
  have q2 := p (s := r.getD 18 0) a2 a5 a8 a11 a14 a17
  unfold orR0 orR1 orR2 orX orZ
  omega
set_option maxHeartbeats 400000 in
set_option maxRecDepth 100000 in
theorem sTo1 : Sound Tryd.prog 54 STo1 := by
  refine sound_of (C := CTo1) tabTo1 Tryd.func54 (by kernel_rfl) (by decide +kernel) (by kernel_rfl) rfl ⟨sOrg, sAd, trivial⟩ (loops0 (by kernel_rfl)) ?_
  intro hargs pars R h
  unfold STo1 at h
  split at h
  case h_2 => exfalso; exact h
  rename_i x y z r
  obtain ⟨⟨ho, hx⟩, hq⟩ := h
  have b := or_bd ho
  refine byVC (vcTo1 x y z r R) ⟨ho, fun x1 e1 x2 e2 x3 e3 => ?_⟩
  have e1 : x1 = orR0 r := e1
  have e2 : x2 = orR1 r := e2
  have e3 : x3 = orR2 r := e3
  obtain ⟨h1, h2, h3⟩ := hx
  refine ⟨⟨⟨by omega, by omega, by omega⟩, by omega, by omega, by omega⟩, fun x4 e4 x5 e5 x6 e6 => ?_⟩
  rw [e4, e5, e6, e1, e2, e3]; exact hq
set_option maxHeartbeats 400000 in
set_option maxRecDepth 100000 in
theorem sFr1 : Sound Tryd.prog 64 SFr1 := by
  refine sound_of (C := CFr1) tabFr1 Tryd.func64 (by kernel_rfl) (by decide +kernel) (by kernel_rfl) rfl ⟨sOrg, sSb, trivial⟩ (loops0 (by kernel_rfl)) ?_
  intro hargs pars R h
  unfold SFr1 at h
  split at h
  case h_2 => exfalso; exact h
  rename_i x y z r
  obtain ⟨⟨ho, hx⟩, hq⟩ := h
  have b := or_bd ho
  refine byVC (vcFr1 x y z r R) ⟨ho, fun x1 e1 x2 e2 x3 e3 => ?_⟩
  have e1 : x1 = orR0 r := e1
  have e2 : x2 = orR1 r := e2
  have e3 : x3 = orR2 r := e3
  obtain ⟨h1, h2, h3⟩ := hx
  refine ⟨⟨⟨by omega, by omega, by omega⟩, by omega, by omega, by omega⟩, fun x4 e4 x5 e5 x6 e6 => ?_⟩
  rw [e4, e5, e6, e1, e2, e3]; exact hq
end Go.Proofs.YtgnknciihdajiaaDoor
namespace U
open Go Go.HL
def toR (r r2 : List Int) (g x y z : Int) : MapS := toF (r.getD 26 0 != 0) (r.getD 27 0) (r.getD 28 0) (r.getD 29 0) (r.getD 30 0) (g * r.getD 31 0) (orR0 r2) (orR1 r2) (orR2 r2) x y z
def fromR (r r2 : List Int) (g x y z : Int) : MapS := fromF (r.getD 26 0 != 0) (r.getD 27 0) (r.getD 28 0) (r.getD 29 0) (r.getD 30 0) (-(g * r.getD 31 0)) (orR0 r2) (orR1 r2) (orR2 r2) x y z
end U
namespace Go.Proofs.YtgnknciihdajiaaDoor
open Go Go.HL U
def frK : List Nat := [4, 4, 4, 4, 4, 4, 4, 4, 4, 4, 4, 4, 4, 4, 4, 4, 4, 4, 4, 4, 4, 4, 4, 4, 4, 4, 0, 4, 4, 4, 4, 4]
def SMapd (hargs : List HV) (pars : List (List HC)) : SR :=
  match hargs, pars with
  | [.agg [.int .i64 x, .int .i64 y, .int .i64 z], .ce (.fsl l)], [] => match l with
    | [(f1, [(k1, r), (k2, [g])]), (f2, [(k3, r2)])] =>
      bif Nat.beq f1 78 && (Nat.beq f2 54 && (ksEq k1 frK && (ksEq k2 [4] && ksEq k3 frK))) then
      .all (okPr r ∧ okOr r2 ∧ g = 1) MapS (fun m => m = toR r r2 g x y z) (fun m => ⟨.tup [.agg [.int .i64 m.x, .int .i64 m.y, .int .i64 m.z], .ce (.int .i64 m.e)], false, [], []⟩) else .fail
    | [(f2, [(k3, r2)]), (f1, [(k1, r), (k2, [g])])] =>
      bif Nat.beq f1 78 && (Nat.beq f2 64 && (ksEq k1 frK && (ksEq k2 [4] && ksEq k3 frK))) then
      .all (okPr r ∧ okOr r2 ∧ g = -1) MapS (fun m => m = fromR r r2 g x y z) (fun m => ⟨.tup [.agg [.int .i64 m.x, .int .i64 m.y, .int .i64 m.z], .ce (.int .i64 m.e)], false, [], []⟩) else .fail
    | _ => .fail
  | _, _ => .fail
def unrT (b : List Nat) : LAnn := ⟨[], [4], b, true⟩
def tabMapd : List (FuncId × HL.Spec) := [(44, SWn), (78, SRot1), (54, STo1), (64, SFr1)]
noncomputable def CMapd : Ctx := ⟨Tryd.prog, gam tabMapd, Tryd.f56.ntmps, [(4000004, unrT [1000002, 1000004], fun _ => .fail)], []⟩
theorem vcMapT (x y z g : Int) (r r2 : List Int) (Q : Res → Prop) : (nfun true CMapd Tryd.f56 (bodyOf Tryd.f56) [.agg [.int .i64 x, .int .i64 y, .int .i64 z], .ce (.fsl [(78, [([4, 4, 4, 4, 4, 4, 4, 4, 4, 4, 4, 4, 4, 4, 4, 4, 4, 4, 4, 4, 4, 4, 4, 4, 4, 4, 0, 4, 4, 4, 4, 4], r), ([4], [g])]), (54, [([4, 4, 4, 4, 4, 4, 4, 4, 4, 4, 4, 4, 4, 4, 4, 4, 4, 4, 4, 4, 4, 4, 4, 4, 4, 4, 0, 4, 4, 4, 4, 4], r2)])])] [] Q) =
    (True ∧ ∀ (x1 : Bool), x1 = wn x y z → ((!x1) = true → Q ⟨.tup [.agg [.int .i64 0, .int .i64 0, .int .i64 0], .ce (.int .i64 3)], false, [], []⟩) ∧ ((!x1) = false → ((0 : Int) ≤ (0 : Int) ∧ (0 : Int) < (((2 : Nat) : Nat) : Int)) ∧ (okPr r ∧ (g = 1 ∨ g = (-1 : Int)) ∧ B3 (1099511627776 : Int) x y z) ∧ ∀ (x2 : Int), x2 = (rotR r g x y z).x → ∀ (x3 : Int), x3 = (rotR r g x y z).y → ∀ (x4 : Int), x4 = (rotR r g x y z).z → ∀ (x5 : Bool), x5 = (rotR r g x y z).ok → ((!x5) = true → Q ⟨.tup [.agg [.int .i64 0, .int .i64 0, .int .i64 0], .ce (.int .i64 3)], false, [], []⟩) ∧ ((!x5) = false → ((0 : Int) ≤ (1 : Int) ∧ (1 : Int) < (((2 : Nat) : Nat) : Int)) ∧ (okOr r2 ∧ B3 (1099511627776 : Int) x2 x3 x4) ∧ ∀ (x6 : Int), x6 = x2 + orR0 r2 → ∀ (x7 : Int), x7 = x3 + orR1 r2 → ∀ (x8 : Int), x8 = x4 + orR2 r2 → ∀ (x9 : Bool), x9 = true → ((!x9) = true → Q ⟨.tup [.agg [.int .i64 0, .int .i64 0, .int .i64 0], .ce (.int .i64 3)], false, [], []⟩) ∧
    ((!x9) = false → True ∧ ∀ (x10 : Bool), x10 = wn x6 x7 x8 → ((!x10) = true → Q ⟨.tup [.agg [.int .i64 0, .int .i64 0, .int .i64 0], .ce (.int .i64 3)], false, [], []⟩) ∧ ((!x10) = false → Q ⟨.tup [.agg [.int .i64 x6, .int .i64 x7, .int .i64 x8], .ce (.int .i64 0)], false, [], []⟩))))) := by kernel_rfl
theorem vcMapF (x y z g : Int) (r r2 : List Int) (Q : Res → Prop) : (nfun true CMapd Tryd.f56 (bodyOf Tryd.f56) [.agg [.int .i64 x, .int .i64 y, .int .i64 z], .ce (.fsl [(64, [([4, 4, 4, 4, 4, 4, 4, 4, 4, 4, 4, 4, 4, 4, 4, 4, 4, 4, 4, 4, 4, 4, 4, 4, 4, 4, 0, 4, 4, 4, 4, 4], r2)]), (78, [([4, 4, 4, 4, 4, 4, 4, 4, 4, 4, 4, 4, 4, 4, 4, 4, 4, 4, 4, 4, 4, 4, 4, 4, 4, 4, 0, 4, 4, 4, 4, 4], r), ([4], [g])])])] [] Q) =
    (True ∧ ∀ (x1 : Bool), x1 = wn x y z → ((!x1) = true → Q ⟨.tup [.agg [.int .i64 0, .int .i64 0, .int .i64 0], .ce (.int .i64 3)], false, [], []⟩) ∧ ((!x1) = false → ((0 : Int) ≤ (0 : Int) ∧ (0 : Int) < (((2 : Nat) : Nat) : Int)) ∧ (okOr r2 ∧ B3 (1099511627776 : Int) x y z) ∧ ∀ (x2 : Int), x2 = x - orR0 r2 → ∀ (x3 : Int), x3 = y - orR1 r2 → ∀ (x4 : Int), x4 = z - orR2 r2 → ∀ (x5 : Bool), x5 = true → ((!x5) = true → Q ⟨.tup [.agg [.int .i64 0, .int .i64 0, .int .i64 0], .ce (.int .i64 3)], false, [], []⟩) ∧ ((!x5) = false → ((0 : Int) ≤ (1 : Int) ∧ (1 : Int) < (((2 : Nat) : Nat) : Int)) ∧ (okPr r ∧ (g = 1 ∨ g = (-1 : Int)) ∧ B3 (1099511627776 : Int) x2 x3 x4) ∧ ∀ (x6 : Int), x6 = (rotR r g x2 x3 x4).x → ∀ (x7 : Int), x7 = (rotR r g x2 x3 x4).y → ∀ (x8 : Int), x8 = (rotR r g x2 x3 x4).z → ∀ (x9 : Bool), x9 = (rotR r g x2 x3 x4).ok → ((!x9) = true → Q ⟨.tup [.agg [.int .i64 0, .int .i64 0, .int .i64 0], .ce (.int .i64 3)], false, [], []⟩) ∧
    ((!x9) = false → True ∧ ∀ (x10 : Bool), x10 = wn x6 x7 x8 → ((!x10) = true → Q ⟨.tup [.agg [.int .i64 0, .int .i64 0, .int .i64 0], .ce (.int .i64 3)], false, [], []⟩) ∧ ((!x10) = false → Q ⟨.tup [.agg [.int .i64 x6, .int .i64 x7, .int .i64 x8], .ce (.int .i64 0)], false, [], []⟩))))) := by kernel_rfl
def STo (hargs : List HV) (pars : List (List HC)) : SR :=
  match hargs, pars with
  | [.agg cs, .agg [.int .i64 x, .int .i64 y, .int .i64 z]], [] => match cs with
    | [.int .i64 s0, .int .i64 s1, .int .i64 s2, .int .i64 s3, .int .i64 s4, .int .i64 s5, .int .i64 s6, .int .i64 s7, .int .i64 s8, .int .i64 s9, .int .i64 s10, .int .i64 s11, .int .i64 s12, .int .i64 s13, .int .i64 s14, .int .i64 s15, .int .i64 s16, .int .i64 s17, .int .i64 sy, .int .i64 l0, .int .i64 l1, .int .i64 l2, .int .i64 h0, .int .i64 h1, .int .i64 h2, .int .i64 ln, .bool tu, .int .i64 pl, .int .i64 c0, .int .i64 c1, .int .i64 c2, .int .i64 an] => .all (okO sy s0 s1 s2 s3 s4 s5 s6 s7 s8 s9 s10 s11 s12 s13 s14 s15 s16 s17 l0 l1 l2 h0 h1 h2 ln ∧ okP tu pl an ∧ B3 1073741824 c0 c1 c2) MapS
        (fun m => m = toF tu pl c0 c1 c2 an (orX sy s0 s3 s6 s9 s12 s15 l0 h0) (orX sy s1 s4 s7 s10 s13 s16 l1 h1) (orZ sy s2 s5 s8 s11 s14 s17 l2 h2 ln) x y z)
        (fun m => ⟨.tup [.agg [.int .i64 m.x, .int .i64 m.y, .int .i64 m.z], .ce (.int .i64 m.e)], false, [], []⟩)
    | _ => .fail
  | _, _ => .fail
def tabTo : List (FuncId × HL.Spec) := [(57, SRotn), (56, SMapd)]
noncomputable def CTo : Ctx := ⟨Tryd.prog, gam tabTo, Tryd.f21.ntmps, [], [7]⟩
theorem vcTo (s0 s1 s2 s3 s4 s5 s6 s7 s8 s9 s10 s11 s12 s13 s14 s15 s16 s17 sy l0 l1 l2 h0 h1 h2 ln pl c0 c1 c2 an : Int) (tu : Bool) (x y z : Int) (Q : Res → Prop) : (nfun true CTo Tryd.f21 (bodyOf Tryd.f21) [.agg [.int .i64 s0, .int .i64 s1, .int .i64 s2, .int .i64 s3, .int .i64 s4, .int .i64 s5, .int .i64 s6, .int .i64 s7, .int .i64 s8, .int .i64 s9, .int .i64 s10, .int .i64 s11, .int .i64 s12, .int .i64 s13, .int .i64 s14, .int .i64 s15, .int .i64 s16, .int .i64 s17, .int .i64 sy, .int .i64 l0, .int .i64 l1, .int .i64 l2, .int .i64 h0, .int .i64 h1, .int .i64 h2, .int .i64 ln, .bool tu, .int .i64 pl, .int .i64 c0, .int .i64 c1, .int .i64 c2, .int .i64 an], .agg [.int .i64 x, .int .i64 y, .int .i64 z]] [] Q) =
    (True ∧ (okPr [s0, s1, s2, s3, s4, s5, s6, s7, s8, s9, s10, s11, s12, s13, s14, s15, s16, s17, sy, l0, l1, l2, h0, h1, h2, ln, bif (bif tu then (1 : Int) else (0 : Int)) != 0 then (1 : Int) else (0 : Int), pl, c0, c1, c2, an] ∧ okOr [s0, s1, s2, s3, s4, s5, s6, s7, s8, s9, s10, s11, s12, s13, s14, s15, s16, s17, sy, l0, l1, l2, h0, h1, h2, ln, bif tu then (1 : Int) else (0 : Int), pl, c0, c1, c2, an] ∧ (1 : Int) = (1 : Int)) ∧ (∃ (x_1 : MapS), x_1 = toR [s0, s1, s2, s3, s4, s5, s6, s7, s8, s9, s10, s11, s12, s13, s14, s15, s16, s17, sy, l0, l1, l2, h0, h1, h2, ln, bif (bif tu then (1 : Int) else (0 : Int)) != 0 then (1 : Int) else (0 : Int), pl, c0, c1, c2, an] [s0, s1, s2, s3, s4, s5, s6, s7, s8, s9, s10, s11, s12, s13, s14, s15, s16, s17, sy, l0, l1, l2, h0, h1, h2, ln, bif tu then (1 : Int) else (0 : Int), pl, c0, c1, c2, an] (1 : Int) x y z) ∧ ∀ (x_1 : MapS), x_1 = toR [s0, s1, s2, s3, s4, s5, s6, s7, s8, s9, s10, s11, s12, s13, s14, s15, s16, s17, sy, l0, l1, l2, h0, h1, h2, ln, bif (bif tu then (1 : Int) else (0 : Int)) != 0 then (1 : Int) else (0 : Int), pl, c0, c1, c2, an] [s0, s1, s2, s3, s4, s5, s6, s7, s8, s9, s10, s11, s12, s13, s14, s15, s16, s17, sy, l0, l1, l2, h0, h1, h2, ln, bif tu then (1 : Int) else (0 : Int), pl, c0, c1, c2, an] (1 : Int) x y z →
    Q ⟨.tup [.agg [.int .i64 x_1.x, .int .i64 x_1.y, .int .i64 x_1.z], .ce (.int .i64 x_1.e)], false, [], []⟩) := by kernel_rfl
end Go.Proofs.YtgnknciihdajiaaDoor
namespace U
theorem B3_mono {B C x y z : Int} (h : B3 B x y z) (hBC : B ≤ C) : B3 C x y z := by
  obtain ⟨⟨a, b⟩, ⟨c, d⟩, e, f⟩ := h
  exact ⟨⟨by omega, by omega⟩, ⟨by omega, by omega⟩, by omega, by omega⟩
theorem mapW_ok {x y z : Int} {b : Bool} (h1 : b = true) (h2 : wn x y z = true) : mapW x y z b = ⟨x, y, z, 0⟩ := by unfold mapW; rw [h1, h2]; rfl
theorem mapW_b {x y z : Int} {b : Bool} (h1 : b = false) : mapW x y z b = ⟨0, 0, 0, 3⟩ := by unfold mapW; rw [h1]; rfl
theorem mapW_w {x y z : Int} {b : Bool} (h1 : wn x y z = false) : mapW x y z b = ⟨0, 0, 0, 3⟩ := by unfold mapW; rw [h1, Bool.and_false]; rfl
theorem toR_w {r r2 : List Int} {g x y z : Int} (h : wn x y z = false) : toR r r2 g x y z = ⟨0, 0, 0, 3⟩ := by unfold toR toF; rw [h]; rfl
theorem toR_eq {r r2 : List Int} {g x y z : Int} (h : wn x y z = true) : toR r r2 g x y z = mapW ((rotR r g x y z).x + orR0 r2) ((rotR r g x y z).y + orR1 r2) ((rotR r g x y z).z + orR2 r2) (rotR r g x y z).ok := by
  unfold toR toF; rw [if_pos h]; rfl
theorem fromR_w {r r2 : List Int} {g x y z : Int} (h : wn x y z = false) : fromR r r2 g x y z = ⟨0, 0, 0, 3⟩ := by unfold fromR fromF; rw [h]; rfl
theorem fromR_eq {r r2 : List Int} {g x y z : Int} (h : wn x y z = true) : fromR r r2 g x y z = mapW (rotR r g (x - orR0 r2) (y - orR1 r2) (z - orR2 r2)).x (rotR r g (x - orR0 r2) (y - orR1 r2) (z - orR2 r2)).y (rotR r g (x - orR0 r2) (y - orR1 r2) (z - orR2 r2)).z (rotR r g (x - orR0 r2) (y - orR1 r2) (z - orR2 r2)).ok := by
  unfold fromR fromF; rw [if_pos h, Int.neg_neg]; rfl
theorem nt_f {b : Bool} (h : (!b) = true) : b = false := by cases b; rfl; cases h
theorem nf_t {b : Bool} (h : (!b) = false) : b = true := by cases b; cases h; rfl
end U
namespace Go.Proofs.YtgnknciihdajiaaDoor
open Go Go.HL U
attribute [local irreducible] hfun bodyT fragT
theorem rotR_bd {r : List Int} {g x y z : Int} (h : okPr r) (hx : B3 1099511627776 x y z) : B3 1099511627776 (rotR r g x y z).x (rotR r g x y z).y (rotR r g x y z).z := rotF_bd _ h.2 hx
set_option maxHeartbeats 400000 in
set_option maxRecDepth 100000 in
theorem sMapd : Sound Tryd.prog 56 SMapd := by
  refine sound_of (C := CMapd) tabMapd Tryd.func56 (by kernel_rfl) (by decide +kernel) (by kernel_rfl) rfl ⟨sWn, sRot1, sTo1, sFr1, trivial⟩ (loopsAll (by kernel_rfl)) ?_
  intro hargs pars R h
  unfold SMapd at h
  split at h
  case h_2 => exfalso; exact h
  rename_i x y z l
  split at h
  case h_3 => exact h.elim
  · rename_i f1 k1 r k2 g f2 k3 r2
    cases hb : (Nat.beq f1 78 && (Nat.beq f2 54 && (ksEq k1 frK && (ksEq k2 [4] && ksEq k3 frK)))) with
    | false => rw [hb] at h; exact h.elim
    | true =>
    rw [hb] at h
    rw [Bool.and_eq_true, Bool.and_eq_true, Bool.and_eq_true, Bool.and_eq_true] at hb
    obtain ⟨b1, b2, b3, b4, b5⟩ := hb
    have b1 := Nat.eq_of_beq_eq_true b1
    have b2 := Nat.eq_of_beq_eq_true b2
    have b3 := ksEq_eq b3
    have b4 := ksEq_eq b4
    have b5 := ksEq_eq b5
    subst b1 b2 b3 b4 b5
    obtain ⟨⟨hp, ho, hg⟩, _, hR⟩ := h
    subst hg
    have ob := or_bd ho
    refine byVC (vcMapT x y z 1 r r2 R) ⟨trivial, fun x1 e1 => ⟨fun n => ?_, fun n => ?_⟩⟩
    · exact hR ⟨0, 0, 0, 3⟩ (toR_w (e1.symm.trans (nt_f n))).symm
    have hw := e1.symm.trans (nf_t n)
    have hb := B3_mono (wn_iff.1 hw) (C := 1099511627776) (by decide)
    have rb := rotR_bd (g := 1) hp hb
    rw [toR_eq hw] at hR
    refine ⟨by omega, ⟨hp, .inl rfl, hb⟩, fun x2 e2 x3 e3 x4 e4 x5 e5 => ⟨fun n5 => ?_, fun n5 => ?_⟩⟩
    · exact hR ⟨0, 0, 0, 3⟩ (mapW_b (e5.symm.trans (nt_f n5))).symm
    rw [← e2, ← e3, ← e4, ← e5] at hR
    rw [← e2, ← e3, ← e4] at rb
    refine ⟨by omega, ⟨ho, rb⟩, fun x6 e6 x7 e7 x8 e8 x9 e9 => ⟨fun n9 => (by rw [e9] at n9; cases n9), fun _ => ⟨trivial, fun x10 e10 => ⟨fun n10 => ?_, fun n10 => ?_⟩⟩⟩⟩
    · rw [← e6, ← e7, ← e8] at hR
      exact hR ⟨0, 0, 0, 3⟩ (mapW_w (e10.symm.trans (nt_f n10))).symm
    · rw [← e6, ← e7, ← e8] at hR
      exact hR ⟨x6, x7, x8, 0⟩ (mapW_ok (nf_t n5) (e10.symm.trans (nf_t n10))).symm
  · rename_i f2 k3 r2 f1 k1 r k2 g
    cases hb : (Nat.beq f1 78 && (Nat.beq f2 64 && (ksEq k1 frK && (ksEq k2 [4] && ksEq k3 frK)))) with
    | false => rw [hb] at h; exact h.elim
    | true =>
    rw [hb] at h
    rw [Bool.and_eq_true, Bool.and_eq_true, Bool.and_eq_true, Bool.and_eq_true] at hb
    obtain ⟨b1, b2, b3, b4, b5⟩ := hb
    have b1 := Nat.eq_of_beq_eq_true b1
    have b2 := Nat.eq_of_beq_eq_true b2
    have b3 := ksEq_eq b3
    have b4 := ksEq_eq b4
    have b5 := ksEq_eq b5
    subst b1 b2 b3 b4 b5
    obtain ⟨⟨hp, ho, hg⟩, _, hR⟩ := h
    subst hg
    have ob := or_bd ho
    refine byVC (vcMapF x y z (-1) r r2 R) ⟨trivial, fun x1 e1 => ⟨fun n => ?_, fun n => ?_⟩⟩
    · exact hR ⟨0, 0, 0, 3⟩ (fromR_w (e1.symm.trans (nt_f n))).symm
    have hw := e1.symm.trans (nf_t n)
    have hb := wn_iff.1 hw
    rw [fromR_eq hw] at hR
    refine ⟨by omega, ⟨ho, B3_mono hb (by decide)⟩, fun x2 e2 x3 e3 x4 e4 x5 e5 => ⟨fun n5 => (by rw [e5] at n5; cases n5), fun n5 => ?_⟩⟩
    have hb2 : B3 1099511627776 x2 x3 x4 := by
      obtain ⟨b1, b2, b3⟩ := hb
      exact ⟨by omega, by omega, by omega⟩
    rw [← e2, ← e3, ← e4] at hR
    refine ⟨by omega, ⟨hp, .inr rfl, hb2⟩, fun x6 e6 x7 e7 x8 e8 x9 e9 => ⟨fun n9 => ?_, fun n9 => ⟨trivial, fun x10 e10 => ⟨fun n10 => ?_, fun n10 => ?_⟩⟩⟩⟩
    · exact hR ⟨0, 0, 0, 3⟩ (mapW_b (e9.symm.trans (nt_f n9))).symm
    · rw [← e6, ← e7, ← e8] at hR
      exact hR ⟨0, 0, 0, 3⟩ (mapW_w (e10.symm.trans (nt_f n10))).symm
    · rw [← e6, ← e7, ← e8] at hR
      exact hR ⟨x6, x7, x8, 0⟩ (mapW_ok (e9.symm.trans (nf_t n9)) (e10.symm.trans (nf_t n10))).symm
set_option maxHeartbeats 400000 in
set_option maxRecDepth 100000 in
theorem sTo : Sound Tryd.prog 21 STo := by
  refine sound_of (C := CTo) tabTo Tryd.func21 (by kernel_rfl) (by decide +kernel) (by kernel_rfl) rfl ⟨sRotn, sMapd, trivial⟩ (loops0 (by kernel_rfl)) ?_
  intro hargs pars R h
  unfold STo at h
  split at h
  case h_2 => exfalso; exact h
  rename_i cs x y z
  split at h
  case h_2 => exact h.elim
  rename_i s0 s1 s2 s3 s4 s5 s6 s7 s8 s9 s10 s11 s12 s13 s14 s15 s16 s17 sy l0 l1 l2 h0 h1 h2 ln tu pl c0 c1 c2 an
  obtain ⟨⟨ho, hp, hc⟩, _, hR⟩ := h
  cases tu
  · exact byVC (vcTo s0 s1 s2 s3 s4 s5 s6 s7 s8 s9 s10 s11 s12 s13 s14 s15 s16 s17 sy l0 l1 l2 h0 h1 h2 ln pl c0 c1 c2 an false x y z R) ⟨trivial, ⟨⟨hp, hc⟩, ho, rfl⟩, ⟨_, rfl⟩, fun m hm => hR m (by rw [hm]; unfold toR; rw [Int.one_mul]; rfl)⟩
  · exact byVC (vcTo s0 s1 s2 s3 s4 s5 s6 s7 s8 s9 s10 s11 s12 s13 s14 s15 s16 s17 sy l0 l1 l2 h0 h1 h2 ln pl c0 c1 c2 an true x y z R) ⟨trivial, ⟨⟨hp, hc⟩, ho, rfl⟩, ⟨_, rfl⟩, fun m hm => hR m (by rw [hm]; unfold toR; rw [Int.one_mul]; rfl)⟩
end Go.Proofs.YtgnknciihdajiaaDoor
