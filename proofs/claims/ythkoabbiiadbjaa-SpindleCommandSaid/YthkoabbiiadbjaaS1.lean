/-
  The spindle: speeds, positions, ways.
  Conditions: none.
-/
import Derived.Test.YthkoabbiiadbjaaWb
import Derived.Test.YthkoabbiiadbjaaMm
namespace U
open Go
def rate (s : Int) : Int := (2 * (s * 1048576) + 60000) / 120000
def idx (p d : Int) : Int := if d = -1 then p / 1048576 * 1048576 else -((-p) / 1048576) * 1048576
def dirOf (n : Int) : Int := if n = 3 then 1 else if n = 4 then -1 else 0
end U
namespace Go.Proofs.Ythkoabbiiadbjaa
open Go Go.HL U
def SFloor (hargs : List HV) (pars : List (List HC)) : SR :=
  match hargs, pars with
  | [.ce (.int .i64 a), .ce (.int .i64 b)], [] => .det ((-9223372036854775807 ≤ a ∧ a ≤ 9223372036854775807) ∧ 0 < b) ⟨.ce (.int .i64 (a / b)), false, [], []⟩
  | _, _ => .fail
noncomputable def CFloor : Ctx := ⟨Try.prog, gam [], 16, [], []⟩
theorem vcFloor (a b : Int) (Q : Res → Prop) : (nfun true CFloor Try.f25 (bodyOf Try.f25) [.ce (.int .i64 a), .ce (.int .i64 b)] [] Q) =
    (b ≠ (0 : Int) ∧
      ((-9223372036854775808 : Int) ≤ Int.tdiv a b ∧ Int.tdiv a b ≤ (9223372036854775807 : Int)) ∧
        ∀ (x1 : Int),
          x1 = Int.tdiv a b →
            b ≠ (0 : Int) ∧
              ∀ (x2 : Int),
                x2 = Int.tmod a b →
                  (decide (x2 < (0 : Int)) = true →
                      ((-9223372036854775808 : Int) ≤ x1 - (1 : Int) ∧ x1 - (1 : Int) ≤ (9223372036854775807 : Int)) ∧
                        ∀ (x3 : Int),
                          x3 = x1 - (1 : Int) →
                            Q { val := HV.ce (HC.int IntKind.i64 x3), own := false, pars := [], news := [] }) ∧
                    (decide (x2 < (0 : Int)) = false →
                      Q { val := HV.ce (HC.int IntKind.i64 x1), own := false, pars := [], news := [] })) := by kernel_rfl
theorem vcFloor2 (a b : Int) (Q : Res → Prop) : (nfun true CFloor Try.f26 (bodyOf Try.f26) [.ce (.int .i64 a), .ce (.int .i64 b)] [] Q) =
    (b ≠ (0 : Int) ∧
      ((-9223372036854775808 : Int) ≤ Int.tdiv a b ∧ Int.tdiv a b ≤ (9223372036854775807 : Int)) ∧
        ∀ (x1 : Int),
          x1 = Int.tdiv a b →
            b ≠ (0 : Int) ∧
              ∀ (x2 : Int),
                x2 = Int.tmod a b →
                  (decide (x2 < (0 : Int)) = true →
                      ((-9223372036854775808 : Int) ≤ x1 - (1 : Int) ∧ x1 - (1 : Int) ≤ (9223372036854775807 : Int)) ∧
                        ∀ (x3 : Int),
                          x3 = x1 - (1 : Int) →
                            Q { val := HV.ce (HC.int IntKind.i64 x3), own := false, pars := [], news := [] }) ∧
                    (decide (x2 < (0 : Int)) = false →
                      Q { val := HV.ce (HC.int IntKind.i64 x1), own := false, pars := [], news := [] })) := by kernel_rfl
def SRate (hargs : List HV) (pars : List (List HC)) : SR :=
  match hargs, pars with
  | [.ce (.int .i64 a)], [] => .det (0 ≤ a ∧ a ≤ 1000000) ⟨.ce (.int .i64 (rate a)), false, [], []⟩
  | _, _ => .fail
def tabS1 : List (FuncId × HL.Spec) := [(24, SMulDiv), (25, SFloor), (26, SFloor)]
noncomputable def CRate : Ctx := ⟨Try.prog, gam tabS1, 11, [], []⟩
noncomputable def CRate2 : Ctx := ⟨Try.prog, gam tabS1, 9, [], []⟩
theorem vcRate (a : Int) (Q : Res → Prop) : (nfun true CRate Try.f10 (bodyOf Try.f10) [.ce (.int .i64 a)] [] Q) =
    ((((-9223372036854775808 : Int) ≤ a ∧ a ≤ (9223372036854775807 : Int)) ∧
        ((-9223372036854775808 : Int) ≤ (1048576 : Int) ∧ (1048576 : Int) ≤ (9223372036854775807 : Int)) ∧
          ((0 : Int) < (60000 : Int) ∧ (60000 : Int) ≤ (9223372036854775807 : Int)) ∧
            ((-4611686018427387904 : Int) ≤ a * (1048576 : Int) ∧ a * (1048576 : Int) ≤ (4611686018427387904 : Int)) ∧
              (0 : Int) ≤ (2 : Int) ∧ (2 : Int) ≤ (2 : Int)) ∧
      ∀ (x1 : Int),
        x1 = mdv (a * (1048576 : Int)) (60000 : Int) (2 : Int) →
          ∀ (x2 : Bool), x2 = true → Q { val := HV.ce (HC.int IntKind.i64 x1), own := false, pars := [], news := [] }) := by kernel_rfl
theorem vcRate2 (a : Int) (Q : Res → Prop) : (nfun true CRate2 Try.f11 (bodyOf Try.f11) [.ce (.int .i64 a)] [] Q) =
    (((-9223372036854775808 : Int) ≤ (2 : Int) * a ∧ (2 : Int) * a ≤ (9223372036854775807 : Int)) ∧
      ∀ (x1 : Int),
        x1 = (2 : Int) * a →
          ((-9223372036854775808 : Int) ≤ x1 * (4096 : Int) ∧ x1 * (4096 : Int) ≤ (9223372036854775807 : Int)) ∧
            ∀ (x2 : Int),
              x2 = x1 * (4096 : Int) →
                ((-9223372036854775808 : Int) ≤ x2 * (256 : Int) ∧ x2 * (256 : Int) ≤ (9223372036854775807 : Int)) ∧
                  ∀ (x3 : Int),
                    x3 = x2 * (256 : Int) →
                      ((-9223372036854775808 : Int) ≤ x3 + (60000 : Int) ∧
                          x3 + (60000 : Int) ≤ (9223372036854775807 : Int)) ∧
                        ∀ (x4 : Int),
                          x4 = x3 + (60000 : Int) →
                            (((-9223372036854775807 : Int) ≤ x4 ∧ x4 ≤ (9223372036854775807 : Int)) ∧
                                (0 : Int) < (120000 : Int)) ∧
                              ∀ (x5 : Int),
                                x5 = x4 / (120000 : Int) →
                                  Q { val := HV.ce (HC.int IntKind.i64 x5), own := false, pars := [], news := [] }) := by kernel_rfl
def SIndex (hargs : List HV) (pars : List (List HC)) : SR :=
  match hargs, pars with
  | [.ce (.int .i64 p), .ce (.int .i64 d)], [] => .det (-1125899906842624 ≤ p ∧ p ≤ 1125899906842624) ⟨.ce (.int .i64 (idx p d)), false, [], []⟩
  | _, _ => .fail
noncomputable def CIndex : Ctx := ⟨Try.prog, gam tabS1, 15, [], []⟩
theorem vcIndex (p d : Int) (Q : Res → Prop) : (nfun true CIndex Try.f12 (bodyOf Try.f12) [.ce (.int .i64 p), .ce (.int .i64 d)] [] Q) =
    (((d == (-1 : Int)) = true →
        (((-9223372036854775807 : Int) ≤ p ∧ p ≤ (9223372036854775807 : Int)) ∧ (0 : Int) < (1048576 : Int)) ∧
          ∀ (x1 : Int),
            x1 = p / (1048576 : Int) →
              ((-9223372036854775808 : Int) ≤ x1 * (1048576 : Int) ∧ x1 * (1048576 : Int) ≤ (9223372036854775807 : Int)) ∧
                ∀ (x2 : Int),
                  x2 = x1 * (1048576 : Int) →
                    Q { val := HV.ce (HC.int IntKind.i64 x2), own := false, pars := [], news := [] }) ∧
      ((d == (-1 : Int)) = false →
        ((-9223372036854775808 : Int) ≤ (0 : Int) - p ∧ (0 : Int) - p ≤ (9223372036854775807 : Int)) ∧
          ∀ (x3 : Int),
            x3 = (0 : Int) - p →
              (((-9223372036854775807 : Int) ≤ x3 ∧ x3 ≤ (9223372036854775807 : Int)) ∧ (0 : Int) < (1048576 : Int)) ∧
                ∀ (x4 : Int),
                  x4 = x3 / (1048576 : Int) →
                    ((-9223372036854775808 : Int) ≤ (0 : Int) - x4 ∧ (0 : Int) - x4 ≤ (9223372036854775807 : Int)) ∧
                      ∀ (x5 : Int),
                        x5 = (0 : Int) - x4 →
                          ((-9223372036854775808 : Int) ≤ x5 * (1048576 : Int) ∧
                              x5 * (1048576 : Int) ≤ (9223372036854775807 : Int)) ∧
                            ∀ (x6 : Int),
                              x6 = x5 * (1048576 : Int) →
                                Q { val := HV.ce (HC.int IntKind.i64 x6), own := false, pars := [], news := [] })) := by kernel_rfl
def SFollow (hargs : List HV) (pars : List (List HC)) : SR :=
  match hargs, pars with
  | [.ce (.int .i64 l), .ce (.int .i64 w)], [] => .det ((0 ≤ l ∧ l ≤ 1048576) ∧ 0 ≤ w ∧ w ≤ 1099511627776) ⟨.ce (.int .i64 (l * w / 4096)), false, [], []⟩
  | _, _ => .fail
noncomputable def CFollow : Ctx := ⟨Try.prog, gam tabS1, 14, [], []⟩
theorem vcFollow (l w : Int) (Q : Res → Prop) : (nfun true CFollow Try.f13 (bodyOf Try.f13) [.ce (.int .i64 l), .ce (.int .i64 w)] [] Q) =
    ((((-9223372036854775808 : Int) ≤ l ∧ l ≤ (9223372036854775807 : Int)) ∧
        ((-9223372036854775808 : Int) ≤ w ∧ w ≤ (9223372036854775807 : Int)) ∧
          ((0 : Int) < (4096 : Int) ∧ (4096 : Int) ≤ (9223372036854775807 : Int)) ∧
            ((-4611686018427387904 : Int) ≤ l * w ∧ l * w ≤ (4611686018427387904 : Int)) ∧
              (0 : Int) ≤ (0 : Int) ∧ (0 : Int) ≤ (2 : Int)) ∧
      ∀ (x1 : Int),
        x1 = mdv (l * w) (4096 : Int) (0 : Int) →
          ∀ (x2 : Bool), x2 = true → Q { val := HV.ce (HC.int IntKind.i64 x1), own := false, pars := [], news := [] }) := by kernel_rfl
def SAngle (hargs : List HV) (pars : List (List HC)) : SR :=
  match hargs, pars with
  | [.ce (.int .i64 l), .ce (.int .i64 w)], [] => .det ((0 < l ∧ l ≤ 9223372036854775807) ∧ 0 ≤ w ∧ w ≤ 1099511627776) ⟨.ce (.int .i64 (4096 * w / l)), false, [], []⟩
  | _, _ => .fail
theorem vcAngle (l w : Int) (Q : Res → Prop) : (nfun true CFollow Try.f14 (bodyOf Try.f14) [.ce (.int .i64 l), .ce (.int .i64 w)] [] Q) =
    ((((-9223372036854775808 : Int) ≤ (4096 : Int) ∧ (4096 : Int) ≤ (9223372036854775807 : Int)) ∧
        ((-9223372036854775808 : Int) ≤ w ∧ w ≤ (9223372036854775807 : Int)) ∧
          ((0 : Int) < l ∧ l ≤ (9223372036854775807 : Int)) ∧
            ((-4611686018427387904 : Int) ≤ (4096 : Int) * w ∧ (4096 : Int) * w ≤ (4611686018427387904 : Int)) ∧
              (0 : Int) ≤ (0 : Int) ∧ (0 : Int) ≤ (2 : Int)) ∧
      ∀ (x1 : Int),
        x1 = mdv ((4096 : Int) * w) l (0 : Int) →
          ∀ (x2 : Bool), x2 = true → Q { val := HV.ce (HC.int IntKind.i64 x1), own := false, pars := [], news := [] }) := by kernel_rfl
def SDirection (hargs : List HV) (pars : List (List HC)) : SR :=
  match hargs, pars with
  | [.ce (.int .i64 n)], [] => .det True ⟨.ce (.int .i64 (dirOf n)), false, [], []⟩
  | _, _ => .fail
noncomputable def CDirection : Ctx := ⟨Try.prog, gam [], 8, [], []⟩
theorem vcDirection (n : Int) (Q : Res → Prop) : (nfun true CDirection Try.f28 (bodyOf Try.f28) [.ce (.int .i64 n)] [] Q) =
    (((n == (3 : Int)) = true → Q { val := HV.ce (HC.int IntKind.i64 (1 : Int)), own := false, pars := [], news := [] }) ∧
      ((n == (3 : Int)) = false →
        ((n == (4 : Int)) = true →
            Q { val := HV.ce (HC.int IntKind.i64 (-1 : Int)), own := false, pars := [], news := [] }) ∧
          ((n == (4 : Int)) = false →
            Q { val := HV.ce (HC.int IntKind.i64 (0 : Int)), own := false, pars := [], news := [] }))) := by kernel_rfl
theorem vcDirection2 (n : Int) (Q : Res → Prop) : (nfun true CDirection Try.f29 (bodyOf Try.f29) [.ce (.int .i64 n)] [] Q) =
    (((n == (3 : Int)) = true → Q { val := HV.ce (HC.int IntKind.i64 (1 : Int)), own := false, pars := [], news := [] }) ∧
      ((n == (3 : Int)) = false →
        ((n == (4 : Int)) = true →
            Q { val := HV.ce (HC.int IntKind.i64 (-1 : Int)), own := false, pars := [], news := [] }) ∧
          ((n == (4 : Int)) = false →
            Q { val := HV.ce (HC.int IntKind.i64 (0 : Int)), own := false, pars := [], news := [] }))) := by kernel_rfl
end Go.Proofs.Ythkoabbiiadbjaa
namespace U
theorem floor_of {a b : Int} (hb : 0 < b) : (a.tmod b < 0 → a.tdiv b - 1 = a / b) ∧ (0 ≤ a.tmod b → a.tdiv b = a / b) := by
  have e1 := Int.mul_ediv_add_emod a b
  have e2 := Int.mul_tdiv_add_tmod a b
  have m1 := Int.emod_nonneg a (show b ≠ 0 by omega)
  have m2 := Int.emod_lt_of_pos a hb
  have ⟨t1, t2⟩ := tmod_lt (a := a) hb
  generalize a.tmod b = r at *
  generalize a.tdiv b = q at *
  generalize a % b = s at *
  generalize a / b = k at *
  have e3 : b * (k - q) = r - s := by rw [Int.mul_sub]; omega
  refine ⟨fun h => ?_, fun h => ?_⟩
  · have : k - q = -1 := by
      have h1 : k - q < 0 := by
        refine Int.not_le.1 fun hh => ?_
        have := Int.mul_nonneg (Int.le_of_lt hb) hh; omega
      have h2 : -2 < k - q := by
        refine Int.not_le.1 fun hh => ?_
        have := Int.mul_le_mul_of_nonneg_left hh (Int.le_of_lt hb); omega
      omega
    omega
  · have : k - q = 0 := by
      have h1 : k - q < 1 := by
        refine Int.not_le.1 fun hh => ?_
        have := Int.mul_le_mul_of_nonneg_left hh (Int.le_of_lt hb); omega
      have h2 : -1 < k - q := by
        refine Int.not_le.1 fun hh => ?_
        have := Int.mul_le_mul_of_nonneg_left hh (Int.le_of_lt hb); omega
      omega
    omega
theorem ediv_bd {a b : Int} (hb : 0 < b) : (0 ≤ a → 0 ≤ a / b ∧ a / b ≤ a) ∧ (a < 0 → a ≤ a / b ∧ a / b < 0) := by
  refine ⟨fun h => ⟨Int.ediv_nonneg h (by omega), Int.ediv_le_self _ h⟩, fun h => ⟨?_, Int.ediv_neg_of_neg_of_pos h hb⟩⟩
  exact Int.le_ediv_of_mul_le hb (by
    have := Int.mul_nonneg (show 0 ≤ -a by omega) (show 0 ≤ b - 1 by omega)
    rw [Int.mul_sub, Int.mul_one, Int.neg_mul] at this
    omega)
end U
namespace Go.Proofs.Ythkoabbiiadbjaa
open Go Go.HL U
theorem floor_fin {a b : Int} {R : Res → Prop} (hr : -9223372036854775807 ≤ a ∧ a ≤ 9223372036854775807) (hb : 0 < b) (hq : R ⟨.ce (.int .i64 (a / b)), false, [], []⟩) :
    b ≠ 0 ∧ (-9223372036854775808 ≤ Int.tdiv a b ∧ Int.tdiv a b ≤ 9223372036854775807) ∧ ∀ x1 : Int, x1 = Int.tdiv a b → b ≠ 0 ∧ ∀ x2 : Int, x2 = Int.tmod a b →
      (decide (x2 < 0) = true → (-9223372036854775808 ≤ x1 - 1 ∧ x1 - 1 ≤ 9223372036854775807) ∧ ∀ x3 : Int, x3 = x1 - 1 → R ⟨.ce (.int .i64 x3), false, [], []⟩) ∧
      (decide (x2 < 0) = false → R ⟨.ce (.int .i64 x1), false, [], []⟩) := by
  have ⟨f1, f2⟩ := floor_of (a := a) hb
  have ⟨g1, g2⟩ := ediv_bd (a := a) hb
  have hq1 : a.tmod b < 0 ∨ 0 ≤ a.tmod b := by omega
  have hh : -9223372036854775807 ≤ a / b ∧ a / b ≤ 9223372036854775807 := by
    by_cases ha : 0 ≤ a
    · have := g1 ha; omega
    · have := g2 (by omega); omega
  have ht : a.tdiv b = a / b ∨ a.tdiv b = a / b + 1 := by omega
  have hpos : a < 0 → a / b < 0 := fun h => (g2 h).2
  have hneg : a.tmod b < 0 → a < 0 := fun h => by
    refine Int.not_le.1 fun hh => ?_
    have := Int.tmod_nonneg b hh
    omega
  refine ⟨by omega, by omega, fun x1 e1 => ⟨by omega, fun x2 e2 => ⟨fun k => ?_, fun k => ?_⟩⟩⟩
  · have k := of_decide_eq_true k
    refine ⟨by omega, fun x3 e3 => ?_⟩
    rw [show x3 = a / b by omega]; exact hq
  · have k := of_decide_eq_false k
    rw [show x1 = a / b by omega]; exact hq
theorem sFloor : Sound Try.prog 25 SFloor := by
  refine sound_of (C := CFloor) [] Try.func25 (by kernel_rfl) (by decide +kernel) (by kernel_rfl) rfl trivial (loops0 (by kernel_rfl)) ?_
  intro hargs pars R h
  unfold SFloor at h
  split at h
  case h_2 => exact h.elim
  rename_i a b
  exact byVC (vcFloor a b R) (floor_fin h.1.1 h.1.2 h.2)
theorem sFloor2 : Sound Try.prog 26 SFloor := by
  refine sound_of (C := CFloor) [] Try.func26 (by kernel_rfl) (by decide +kernel) (by kernel_rfl) rfl trivial (loops0 (by kernel_rfl)) ?_
  intro hargs pars R h
  unfold SFloor at h
  split at h
  case h_2 => exact h.elim
  rename_i a b
  exact byVC (vcFloor2 a b R) (floor_fin h.1.1 h.1.2 h.2)
theorem sRate : Sound Try.prog 10 SRate := by
  refine sound_of (C := CRate) tabS1 Try.func10 (by kernel_rfl) (by decide +kernel) (by kernel_rfl) rfl ⟨sMulDiv, sFloor, sFloor2, trivial⟩ (loops0 (by kernel_rfl)) ?_
  intro hargs pars R h
  unfold SRate at h
  split at h
  case h_2 => exact h.elim
  rename_i a
  obtain ⟨h1, hq⟩ := h
  refine byVC (vcRate a R) ⟨by omega, fun x1 e1 x2 _ => ?_⟩
  have : x1 = rate a := by rw [e1]; unfold mdv rate; simp
  rw [this]; exact hq
theorem sRate2 : Sound Try.prog 11 SRate := by
  refine sound_of (C := CRate2) tabS1 Try.func11 (by kernel_rfl) (by decide +kernel) (by kernel_rfl) rfl ⟨sMulDiv, sFloor, sFloor2, trivial⟩ (loops0 (by kernel_rfl)) ?_
  intro hargs pars R h
  unfold SRate at h
  split at h
  case h_2 => exact h.elim
  rename_i a
  obtain ⟨h1, hq⟩ := h
  refine byVC (vcRate2 a R) ⟨by omega, fun x1 e1 => ⟨by omega, fun x2 e2 => ⟨by omega, fun x3 e3 => ⟨by omega, fun x4 e4 => ⟨by omega, fun x5 e5 => ?_⟩⟩⟩⟩⟩
  have : x5 = rate a := by unfold rate; omega
  rw [this]; exact hq
theorem sIndex : Sound Try.prog 12 SIndex := by
  refine sound_of (C := CIndex) tabS1 Try.func12 (by kernel_rfl) (by decide +kernel) (by kernel_rfl) rfl ⟨sMulDiv, sFloor, sFloor2, trivial⟩ (loops0 (by kernel_rfl)) ?_
  intro hargs pars R h
  unfold SIndex at h
  split at h
  case h_2 => exact h.elim
  rename_i p d
  obtain ⟨h1, hq⟩ := h
  unfold idx at hq
  refine byVC (vcIndex p d R) ⟨fun e => ?_, fun e => ?_⟩
  · have : d = -1 := by simpa using e
    rw [if_pos this] at hq
    refine ⟨by omega, fun x1 e1 => ⟨by omega, fun x2 e2 => ?_⟩⟩
    rw [e2, e1]; exact hq
  · have : d ≠ -1 := by simpa using e
    rw [if_neg this] at hq
    refine ⟨by omega, fun x3 e3 => ⟨by omega, fun x4 e4 => ⟨by omega, fun x5 e5 => ⟨by omega, fun x6 e6 => ?_⟩⟩⟩⟩
    rw [show x6 = -((-p) / 1048576) * 1048576 by omega]; exact hq
theorem sFollow : Sound Try.prog 13 SFollow := by
  refine sound_of (C := CFollow) tabS1 Try.func13 (by kernel_rfl) (by decide +kernel) (by kernel_rfl) rfl ⟨sMulDiv, sFloor, sFloor2, trivial⟩ (loops0 (by kernel_rfl)) ?_
  intro hargs pars R h
  unfold SFollow at h
  split at h
  case h_2 => exact h.elim
  rename_i l w
  obtain ⟨⟨h1, h2⟩, hq⟩ := h
  have hb := mul_bd (a := l) (b := w) (A := 1048576) (B := 1099511627776) (by omega) (by omega) (by omega) (by omega)
  refine byVC (vcFollow l w R) ⟨by omega, fun x1 e1 x2 _ => ?_⟩
  have : x1 = l * w / 4096 := by rw [e1]; rfl
  rw [this]; exact hq
theorem sAngle : Sound Try.prog 14 SAngle := by
  refine sound_of (C := CFollow) tabS1 Try.func14 (by kernel_rfl) (by decide +kernel) (by kernel_rfl) rfl ⟨sMulDiv, sFloor, sFloor2, trivial⟩ (loops0 (by kernel_rfl)) ?_
  intro hargs pars R h
  unfold SAngle at h
  split at h
  case h_2 => exact h.elim
  rename_i l w
  obtain ⟨⟨h1, h2⟩, hq⟩ := h
  refine byVC (vcAngle l w R) ⟨by omega, fun x1 e1 x2 _ => ?_⟩
  have : x1 = 4096 * w / l := by rw [e1]; rfl
  rw [this]; exact hq
theorem sDirection : Sound Try.prog 28 SDirection := by
  refine sound_of (C := CDirection) [] Try.func28 (by kernel_rfl) (by decide +kernel) (by kernel_rfl) rfl trivial (loops0 (by kernel_rfl)) ?_
  intro hargs pars R h
  unfold SDirection at h
  split at h
  case h_2 => exact h.elim
  rename_i n
  have hq := h.2
  unfold dirOf at hq
  refine byVC (vcDirection n R) ⟨fun e => ?_, fun e => ⟨fun e2 => ?_, fun e2 => ?_⟩⟩
  · have : n = 3 := by simpa using e
    rw [if_pos this] at hq; exact hq
  · have h3 : n ≠ 3 := by simpa using e
    have h4 : n = 4 := by simpa using e2
    rw [if_neg h3, if_pos h4] at hq; exact hq
  · have h3 : n ≠ 3 := by simpa using e
    have h4 : n ≠ 4 := by simpa using e2
    rw [if_neg h3, if_neg h4] at hq; exact hq
theorem sDirection2 : Sound Try.prog 29 SDirection := by
  refine sound_of (C := CDirection) [] Try.func29 (by kernel_rfl) (by decide +kernel) (by kernel_rfl) rfl trivial (loops0 (by kernel_rfl)) ?_
  intro hargs pars R h
  unfold SDirection at h
  split at h
  case h_2 => exact h.elim
  rename_i n
  have hq := h.2
  unfold dirOf at hq
  refine byVC (vcDirection2 n R) ⟨fun e => ?_, fun e => ⟨fun e2 => ?_, fun e2 => ?_⟩⟩
  · have : n = 3 := by simpa using e
    rw [if_pos this] at hq; exact hq
  · have h3 : n ≠ 3 := by simpa using e
    have h4 : n = 4 := by simpa using e2
    rw [if_neg h3, if_pos h4] at hq; exact hq
  · have h3 : n ≠ 3 := by simpa using e
    have h4 : n ≠ 4 := by simpa using e2
    rw [if_neg h3, if_neg h4] at hq; exact hq
end Go.Proofs.Ythkoabbiiadbjaa
