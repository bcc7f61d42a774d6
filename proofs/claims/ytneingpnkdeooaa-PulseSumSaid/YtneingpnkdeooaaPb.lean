/-
  The correction of a screw: Correct, Steps, Motor, both ways.
  Conditions: none.
-/
import Derived.Test.YtneingpnkdeooaaPa
import Derived.Test.YtneingpnkdeooaaMb
set_option maxRecDepth 100000
namespace U
open Go
def stp (st q : Int) : Int := (2 * q + st) / (2 * st)
def okC (og sg : Int) (pit : List (List Int)) : Prop :=
  (0 < pit.length → 0 < sg) ∧ (0 ≤ sg ∧ sg ≤ 16777216) ∧ (-16777216 ≤ og ∧ og ≤ 16777216) ∧ pit.length ≤ 4096 ∧ ∀ j, j < pit.length → -4096 ≤ el pit j ∧ el pit j ≤ 4096
end U
namespace Go.Proofs.Ytneingpnkdeooaa
open Go Go.HL U
def axI (st sp ac je lo hi bl og sg : Int) (pit : List (List Int)) : List HC := [.int .i64 st, .int .i64 sp, .int .i64 ac, .int .i64 je, .int .i64 lo, .int .i64 hi, .int .i64 bl, .int .i64 og, .int .i64 sg, .sl false [4] pit]
def SFloor (hargs : List HV) (pars : List (List HC)) : SR :=
  match hargs, pars with
  | [.ce (.int .i64 a), .ce (.int .i64 b)], [] => .det ((-9223372036854775807 ≤ a ∧ a ≤ 9223372036854775807) ∧ 0 < b) ⟨.ce (.int .i64 (a / b)), false, [], []⟩
  | _, _ => .fail
noncomputable def CFloor : Ctx := ⟨Try.prog, gam [], 16, [], []⟩
theorem vcFloor (a b : Int) (Q : Res → Prop) : (nfun true CFloor Try.f58 (bodyOf Try.f58) [.ce (.int .i64 a), .ce (.int .i64 b)] [] Q) =
    (b ≠ (0 : Int) ∧ ((-9223372036854775808 : Int) ≤ Int.tdiv a b ∧ Int.tdiv a b ≤ (9223372036854775807 : Int)) ∧ ∀ (x1 : Int), x1 = Int.tdiv a b → b ≠ (0 : Int) ∧ ∀ (x2 : Int), x2 = Int.tmod a b → (decide (x2 < (0 : Int)) = true → ((-9223372036854775808 : Int) ≤ x1 - (1 : Int) ∧ x1 - (1 : Int) ≤ (9223372036854775807 : Int)) ∧ ∀ (x3 : Int), x3 = x1 - (1 : Int) → Q { val := HV.ce (HC.int IntKind.i64 x3), own := false, pars := [], news := [] }) ∧ (decide (x2 < (0 : Int)) = false → Q { val := HV.ce (HC.int IntKind.i64 x1), own := false, pars := [], news := [] })) := by kernel_rfl
def SCorrect (hargs : List HV) (pars : List (List HC)) : SR :=
  match hargs, pars with
  | [.agg [.int .i64 st, .int .i64 _, .int .i64 _, .int .i64 _, .int .i64 _, .int .i64 _, .int .i64 _, .int .i64 og, .int .i64 sg, .sl false [4] pit], .ce (.int .i64 p)], [] => .det (okC og sg pit ∧ -1073741824 ≤ p ∧ p ≤ 1073741824) ⟨.ce (.int .i64 (corr og sg pit p)), false, [], []⟩
  | _, _ => .fail
def SSteps (hargs : List HV) (pars : List (List HC)) : SR :=
  match hargs, pars with
  | [.agg [.int .i64 st, .int .i64 _, .int .i64 _, .int .i64 _, .int .i64 _, .int .i64 _, .int .i64 _, .int .i64 og, .int .i64 sg, .sl false [4] pit], .ce (.int .i64 p)], [] => .det ((0 < st ∧ st ≤ 16777216) ∧ -1099511627776 ≤ p ∧ p ≤ 1099511627776) ⟨.ce (.int .i64 (stp st p)), false, [], []⟩
  | _, _ => .fail
def SMotor (hargs : List HV) (pars : List (List HC)) : SR :=
  match hargs, pars with
  | [.agg [.int .i64 st, .int .i64 _, .int .i64 _, .int .i64 _, .int .i64 _, .int .i64 _, .int .i64 _, .int .i64 og, .int .i64 sg, .sl false [4] pit], .ce (.int .i64 p)], [] => .det ((0 < st ∧ st ≤ 16777216) ∧ okC og sg pit ∧ -1073741824 ≤ p ∧ p ≤ 1073741824) ⟨.ce (.int .i64 (mot st og sg pit p)), false, [], []⟩
  | _, _ => .fail
def tabP1 : List (FuncId × HL.Spec) := [(60, SMulDiv), (58, SFloor)]
def tabP2 : List (FuncId × HL.Spec) := [(62, SCorrect), (61, SSteps)]
noncomputable def CCorrect : Ctx := ⟨Try.prog, gam tabP1, 74, [], []⟩
noncomputable def CSteps : Ctx := ⟨Try.prog, gam tabP1, 31, [], []⟩
noncomputable def CMotor : Ctx := ⟨Try.prog, gam tabP2, 12, [], []⟩
theorem vcCorrect (st sp ac je lo hi bl og sg p : Int) (pit : List (List Int)) (Q : Res → Prop) : (nfun true CCorrect Try.f62 (bodyOf Try.f62) [.agg (axI st sp ac je lo hi bl og sg pit), .ce (.int .i64 p)] [] Q) =
    (((-9223372036854775808 : Int) ≤ (((List.length pit) : Nat) : Int) - (1 : Int) ∧ (((List.length pit) : Nat) : Int) - (1 : Int) ≤ (9223372036854775807 : Int)) ∧ ∀ (x1 : Int), x1 = (((List.length pit) : Nat) : Int) - (1 : Int) → (decide (x1 < (0 : Int)) = true → Q { val := HV.ce (HC.int IntKind.i64 (0 : Int)), own := false, pars := [], news := [] }) ∧ (decide (x1 < (0 : Int)) = false → ((-9223372036854775808 : Int) ≤ p - og ∧ p - og ≤ (9223372036854775807 : Int)) ∧ ∀ (x2 : Int), x2 = p - og → (decide (x2 ≤ (0 : Int)) = true → ((0 : Int) ≤ (0 : Int) ∧ (0 : Int) < (((List.length pit) : Nat) : Int)) ∧ ∀ (x3 : Int), x3 = el pit ((0 : Nat)) → Q { val := HV.ce (HC.int IntKind.i64 x3), own := false, pars := [], news := [] }) ∧ (decide (x2 ≤ (0 : Int)) = false → (decide (sg ≤ (0 : Int)) = true → ((0 : Int) ≤ (0 : Int) ∧ (0 : Int) < (((List.length pit) : Nat) : Int)) ∧ ∀ (x4 : Int), x4 = el pit ((0 : Nat)) →
    Q { val := HV.ce (HC.int IntKind.i64 x4), own := false, pars := [], news := [] }) ∧ (decide (sg ≤ (0 : Int)) = false → sg ≠ (0 : Int) ∧ ((-9223372036854775808 : Int) ≤ Int.tdiv x2 sg ∧ Int.tdiv x2 sg ≤ (9223372036854775807 : Int)) ∧ ∀ (x5 : Int), x5 = Int.tdiv x2 sg → (decide (x5 ≥ x1) = true → ((0 : Int) ≤ x1 ∧ x1 < (((List.length pit) : Nat) : Int)) ∧ ∀ (x6 : Int), x6 = el pit (Int.toNat x1) → Q { val := HV.ce (HC.int IntKind.i64 x6), own := false, pars := [], news := [] }) ∧ (decide (x5 ≥ x1) = false → ((-9223372036854775808 : Int) ≤ x5 + (1 : Int) ∧ x5 + (1 : Int) ≤ (9223372036854775807 : Int)) ∧ ∀ (x7 : Int), x7 = x5 + (1 : Int) → ((0 : Int) ≤ x7 ∧ x7 < (((List.length pit) : Nat) : Int)) ∧ ∀ (x8 : Int), x8 = el pit (Int.toNat x7) → ((0 : Int) ≤ x5 ∧ x5 < (((List.length pit) : Nat) : Int)) ∧ ∀ (x9 : Int), x9 = el pit (Int.toNat x5) → ((-9223372036854775808 : Int) ≤ x8 - x9 ∧ x8 - x9 ≤ (9223372036854775807 : Int)) ∧
    ∀ (x10 : Int), x10 = x8 - x9 → ((-9223372036854775808 : Int) ≤ x5 * sg ∧ x5 * sg ≤ (9223372036854775807 : Int)) ∧ ∀ (x11 : Int), x11 = x5 * sg → ((-9223372036854775808 : Int) ≤ x2 - x11 ∧ x2 - x11 ≤ (9223372036854775807 : Int)) ∧ ∀ (x12 : Int), x12 = x2 - x11 → (((-9223372036854775808 : Int) ≤ x10 ∧ x10 ≤ (9223372036854775807 : Int)) ∧ ((-9223372036854775808 : Int) ≤ x12 ∧ x12 ≤ (9223372036854775807 : Int)) ∧ ((0 : Int) < sg ∧ sg ≤ (9223372036854775807 : Int)) ∧ ((-4611686018427387904 : Int) ≤ x10 * x12 ∧ x10 * x12 ≤ (4611686018427387904 : Int)) ∧ (0 : Int) ≤ (2 : Int) ∧ (2 : Int) ≤ (2 : Int)) ∧ ∀ (x13 : Int), x13 = mdv (x10 * x12) sg (2 : Int) → ∀ (x14 : Bool), x14 = true → ((0 : Int) ≤ x5 ∧ x5 < (((List.length pit) : Nat) : Int)) ∧ ∀ (x15 : Int), x15 = el pit (Int.toNat x5) → ((-9223372036854775808 : Int) ≤ x15 + x13 ∧ x15 + x13 ≤ (9223372036854775807 : Int)) ∧ ∀ (x16 : Int), x16 = x15 + x13 →
    Q { val := HV.ce (HC.int IntKind.i64 x16), own := false, pars := [], news := [] }))))) := by kernel_rfl
theorem vcSteps (st sp ac je lo hi bl og sg p : Int) (pit : List (List Int)) (Q : Res → Prop) : (nfun true CSteps Try.f61 (bodyOf Try.f61) [.agg (axI st sp ac je lo hi bl og sg pit), .ce (.int .i64 p)] [] Q) =
    ((decide (st ≤ (0 : Int)) = true → Q { val := HV.ce (HC.int IntKind.i64 (0 : Int)), own := false, pars := [], news := [] }) ∧ (decide (st ≤ (0 : Int)) = false → ((-9223372036854775808 : Int) ≤ (2 : Int) * p ∧ (2 : Int) * p ≤ (9223372036854775807 : Int)) ∧ ∀ (x1 : Int), x1 = (2 : Int) * p → ((-9223372036854775808 : Int) ≤ x1 + st ∧ x1 + st ≤ (9223372036854775807 : Int)) ∧ ∀ (x2 : Int), x2 = x1 + st → ((-9223372036854775808 : Int) ≤ (2 : Int) * st ∧ (2 : Int) * st ≤ (9223372036854775807 : Int)) ∧ ∀ (x3 : Int), x3 = (2 : Int) * st → (decide (x3 ≤ (0 : Int)) = true → Q { val := HV.ce (HC.int IntKind.i64 (0 : Int)), own := false, pars := [], news := [] }) ∧ (decide (x3 ≤ (0 : Int)) = false → x3 ≠ (0 : Int) ∧ ((-9223372036854775808 : Int) ≤ Int.tdiv x2 x3 ∧ Int.tdiv x2 x3 ≤ (9223372036854775807 : Int)) ∧ ∀ (x4 : Int), x4 = Int.tdiv x2 x3 → x3 ≠ (0 : Int) ∧ ∀ (x5 : Int), x5 = Int.tmod x2 x3 → (decide (x5 < (0 : Int)) = true →
    ((-9223372036854775808 : Int) ≤ x4 - (1 : Int) ∧ x4 - (1 : Int) ≤ (9223372036854775807 : Int)) ∧ ∀ (x6 : Int), x6 = x4 - (1 : Int) → Q { val := HV.ce (HC.int IntKind.i64 x6), own := false, pars := [], news := [] }) ∧ (decide (x5 < (0 : Int)) = false → Q { val := HV.ce (HC.int IntKind.i64 x4), own := false, pars := [], news := [] })))) := by kernel_rfl
theorem vcMotor (st sp ac je lo hi bl og sg p : Int) (pit : List (List Int)) (Q : Res → Prop) : (nfun true CMotor Try.f42 (bodyOf Try.f42) [.agg (axI st sp ac je lo hi bl og sg pit), .ce (.int .i64 p)] [] Q) =
    ((okC og sg pit ∧ (-1073741824 : Int) ≤ p ∧ p ≤ (1073741824 : Int)) ∧ ∀ (x1 : Int), x1 = corr og sg pit p → ((-9223372036854775808 : Int) ≤ p + x1 ∧ p + x1 ≤ (9223372036854775807 : Int)) ∧ ∀ (x2 : Int), x2 = p + x1 → (((0 : Int) < st ∧ st ≤ (16777216 : Int)) ∧ (-1099511627776 : Int) ≤ x2 ∧ x2 ≤ (1099511627776 : Int)) ∧ ∀ (x3 : Int), x3 = stp st x2 → Q { val := HV.ce (HC.int IntKind.i64 x3), own := false, pars := [], news := [] }) := by kernel_rfl
end Go.Proofs.Ytneingpnkdeooaa
namespace U
theorem floor_of {a b : Int} (hb : 0 < b) : (a.tmod b < 0 → a.tdiv b - 1 = a / b) ∧ (0 ≤ a.tmod b → a.tdiv b = a / b) := by
  have e1 := Int.mul_ediv_add_emod a b
  have e2 := Int.mul_tdiv_add_tmod a b
  have m1 := Int.emod_nonneg a (show b ≠ 0 by omega)
  have m2 := Int.emod_lt_of_pos a hb
  have ⟨t1, t2⟩ := tmod_lt (a := a) hb
  generalize a.tmod b = r at *
  generalize a.tdiv b = q at *
  generalize a % b = s at *
  generalize a / b = k at *
  have e3 : b * (k - q) = r - s := by rw [Int.mul_sub]; omega
  refine ⟨fun h => ?_, fun h => ?_⟩
  · have : k - q = -1 := by
      have h1 : k - q < 0 := by
        refine Int.not_le.1 fun hh => ?_
        have := Int.mul_nonneg (Int.le_of_lt hb) hh; omega
      have h2 : -2 < k - q := by
        refine Int.not_le.1 fun hh => ?_
        have := Int.mul_le_mul_of_nonneg_left hh (Int.le_of_lt hb); omega
      omega
    omega
  · have : k - q = 0 := by
      have h1 : k - q < 1 := by
        refine Int.not_le.1 fun hh => ?_
        have := Int.mul_le_mul_of_nonneg_left hh (Int.le_of_lt hb); omega
      have h2 : -1 < k - q := by
        refine Int.not_le.1 fun hh => ?_
        have := Int.mul_le_mul_of_nonneg_left hh (Int.le_of_lt hb); omega
      omega
    omega
theorem ediv_bd {a b : Int} (hb : 0 < b) : (0 ≤ a → 0 ≤ a / b ∧ a / b ≤ a) ∧ (a < 0 → a ≤ a / b ∧ a / b < 0) := by
  refine ⟨fun h => ⟨Int.ediv_nonneg h (by omega), Int.ediv_le_self _ h⟩, fun h => ⟨?_, Int.ediv_neg_of_neg_of_pos h hb⟩⟩
  exact Int.le_ediv_of_mul_le hb (by
    have := Int.mul_nonneg (show 0 ≤ -a by omega) (show 0 ≤ b - 1 by omega)
    rw [Int.mul_sub, Int.mul_one, Int.neg_mul] at this
    omega)
end U
namespace Go.Proofs.Ytneingpnkdeooaa
open Go Go.HL U
theorem floor_fin {a b : Int} {R : Res → Prop} (hr : -9223372036854775807 ≤ a ∧ a ≤ 9223372036854775807) (hb : 0 < b) (hq : R ⟨.ce (.int .i64 (a / b)), false, [], []⟩) :
    b ≠ 0 ∧ (-9223372036854775808 ≤ Int.tdiv a b ∧ Int.tdiv a b ≤ 9223372036854775807) ∧ ∀ x1 : Int, x1 = Int.tdiv a b → b ≠ 0 ∧ ∀ x2 : Int, x2 = Int.tmod a b →
      (decide (x2 < 0) = true → (-9223372036854775808 ≤ x1 - 1 ∧ x1 - 1 ≤ 9223372036854775807) ∧ ∀ x3 : Int, x3 = x1 - 1 → R ⟨.ce (.int .i64 x3), false, [], []⟩) ∧
      (decide (x2 < 0) = false → R ⟨.ce (.int .i64 x1), false, [], []⟩) := by
  have ⟨f1, f2⟩ := floor_of (a := a) hb
  have ⟨g1, g2⟩ := ediv_bd (a := a) hb
  have hq1 : a.tmod b < 0 ∨ 0 ≤ a.tmod b := by omega
  have hh : -9223372036854775807 ≤ a / b ∧ a / b ≤ 9223372036854775807 := by
    by_cases ha : 0 ≤ a
    · have := g1 ha; omega
    · have := g2 (by omega); omega
  have ht : a.tdiv b = a / b ∨ a.tdiv b = a / b + 1 := by omega
  have hpos : a < 0 → a / b < 0 := fun h => (g2 h).2
  have hneg : a.tmod b < 0 → a < 0 := fun h => by
    refine Int.not_le.1 fun hh => ?_
    have := Int.tmod_nonneg b hh
    omega
  refine ⟨by omega, by omega, fun x1 e1 => ⟨by omega, fun x2 e2 => ⟨fun k => ?_, fun k => ?_⟩⟩⟩
  · have k := of_decide_eq_true k
    refine ⟨by omega, fun x3 e3 => ?_⟩
    rw [show x3 = a / b by omega]; exact hq
  · have k := of_decide_eq_false k
    rw [show x1 = a / b by omega]; exact hq
set_option maxHeartbeats 400000 in
set_option maxRecDepth 100000 in
theorem sFloor : Sound Try.prog 58 SFloor := by
  refine sound_of (C := CFloor) [] Try.func58 (by kernel_rfl) (by decide +kernel) (by kernel_rfl) rfl trivial (loops0 (by kernel_rfl)) ?_
  intro hargs pars R h
  unfold SFloor at h
  split at h
  case h_2 => exfalso; exact h
  rename_i a b
  exact byVC (vcFloor a b R) (floor_fin h.1.1 h.1.2 h.2)
end Go.Proofs.Ytneingpnkdeooaa
namespace U
theorem mul_bd2 {a b A B : Int} (ha : -A ≤ a ∧ a ≤ A) (hb : 0 ≤ b ∧ b ≤ B) : -(A * B) ≤ a * b ∧ a * b ≤ A * B := by
  have hA : 0 ≤ A := by omega
  have m1 : A * b ≤ A * B := Int.mul_le_mul_of_nonneg_left hb.2 hA
  have m2 : a * b ≤ A * b := Int.mul_le_mul_of_nonneg_right ha.2 hb.1
  have m3 : -A * b ≤ a * b := Int.mul_le_mul_of_nonneg_right ha.1 hb.1
  rw [Int.neg_mul] at m3
  omega
theorem stp_eq (st og sg : Int) (pit : List (List Int)) (p : Int) : stp st (p + corr og sg pit p) = mot st og sg pit p := rfl
theorem corr_empty {og sg : Int} {pit : List (List Int)} (p : Int) (h : pit.length = 0) : corr og sg pit p = 0 := by unfold corr; rw [if_pos h]
theorem corr_lo {og sg p : Int} {pit : List (List Int)} (h : 0 < pit.length) (hs : 0 < sg) (hp : p ≤ og) : corr og sg pit p = el pit 0 := by
  unfold corr cn; rw [if_neg (by omega), if_pos hp, corr_knot hs]
theorem corr_hi {og sg p : Int} {pit : List (List Int)} (h : 0 < pit.length) (hs : 0 < sg) (hp : og < p) (hl : (pit.length : Int) - 1 ≤ (p - og) / sg) : corr og sg pit p = el pit (pit.length - 1) := by
  unfold corr cn; rw [if_neg (by omega), if_neg (by omega), if_pos hl, corr_knot hs]
theorem corr_mid {og sg p : Int} {pit : List (List Int)} (h : 0 < pit.length) (hs : 0 < sg) (hp : og < p) (hl : (p - og) / sg < (pit.length : Int) - 1) :
    corr og sg pit p = el pit ((p - og) / sg).toNat + (2 * ((el pit (((p - og) / sg).toNat + 1) - el pit ((p - og) / sg).toNat) * ((p - og) % sg)) + sg) / (2 * sg) := by
  unfold corr cn; rw [if_neg (by omega), if_neg (by omega), if_neg (by omega)]
  generalize el pit ((p - og) / sg).toNat = v
  generalize (el pit (((p - og) / sg).toNat + 1) - v) * ((p - og) % sg) = k
  rw [show 2 * (v * sg + k) + sg = (2 * k + sg) + (2 * sg) * v by grind, Int.add_mul_ediv_left _ _ (by omega), Int.add_comm]
theorem cn_bd {og sg : Int} {pit : List (List Int)} (h : okC og sg pit) (hl : 0 < pit.length) (p : Int) : -4096 * sg ≤ cn og sg pit p ∧ cn og sg pit p ≤ 4096 * sg := by
  obtain ⟨h1, h2, h3, h4, h5⟩ := h
  have hs := h1 hl
  have one : ∀ v : Int, -4096 ≤ v → v ≤ 4096 → -4096 * sg ≤ v * sg ∧ v * sg ≤ 4096 * sg := fun v a b =>
    ⟨Int.mul_le_mul_of_nonneg_right a (by omega), Int.mul_le_mul_of_nonneg_right b (by omega)⟩
  unfold cn
  by_cases c1 : p ≤ og
  · rw [if_pos c1]; have := h5 0 hl; exact one _ this.1 this.2
  rw [if_neg c1]
  by_cases c2 : (pit.length : Int) - 1 ≤ (p - og) / sg
  · rw [if_pos c2]; have := h5 (pit.length - 1) (by omega); exact one _ this.1 this.2
  rw [if_neg c2]
  have i0 : 0 ≤ (p - og) / sg := Int.ediv_nonneg (by omega) (by omega)
  have a := h5 ((p - og) / sg).toNat (by omega)
  have b := h5 (((p - og) / sg).toNat + 1) (by omega)
  have r0 := Int.emod_nonneg (p - og) (show sg ≠ 0 by omega)
  have r1 := Int.emod_lt_of_pos (p - og) hs
  generalize el pit ((p - og) / sg).toNat = v at *
  generalize el pit (((p - og) / sg).toNat + 1) = w at *
  generalize (p - og) % sg = r at *
  have e : v * sg + (w - v) * r = v * (sg - r) + w * r := by grind
  rw [e]
  have m1 : -4096 * (sg - r) ≤ v * (sg - r) := Int.mul_le_mul_of_nonneg_right a.1 (by omega)
  have m2 : v * (sg - r) ≤ 4096 * (sg - r) := Int.mul_le_mul_of_nonneg_right a.2 (by omega)
  have m3 : -4096 * r ≤ w * r := Int.mul_le_mul_of_nonneg_right b.1 (by omega)
  have m4 : w * r ≤ 4096 * r := Int.mul_le_mul_of_nonneg_right b.2 (by omega)
  omega
theorem corr_bd {og sg : Int} {pit : List (List Int)} (h : okC og sg pit) (p : Int) : -4096 ≤ corr og sg pit p ∧ corr og sg pit p ≤ 4096 := by
  unfold corr
  by_cases hl : pit.length = 0
  · rw [if_pos hl]; omega
  rw [if_neg hl]
  have hs := h.1 (by omega)
  have := cn_bd h (by omega) p
  generalize cn og sg pit p = a at *
  refine ⟨Int.le_ediv_of_mul_le (by omega) (by omega), Int.lt_add_one_iff.1 (Int.ediv_lt_of_lt_mul (by omega) (by omega))⟩
theorem stp_bd {st q : Int} (h : 0 < st) (hq : -1099511627776 ≤ q ∧ q ≤ 1099511627776) : -2199023255552 ≤ stp st q ∧ stp st q ≤ 2199023255554 := by
  unfold stp
  have e := ediv_bd (a := 2 * q + st) (b := 2 * st) (by omega)
  by_cases hh : 0 ≤ 2 * q + st
  · have := e.1 hh
    refine ⟨by omega, ?_⟩
    exact Int.lt_add_one_iff.1 (Int.ediv_lt_of_lt_mul (by omega) (by omega))
  · have := e.2 (by omega); omega
theorem motor_of {st og sg p : Int} {pit : List (List Int)} (h : 0 < st) : mot st og sg pit p * st ≤ p + corr og sg pit p + st / 2 ∧ p + corr og sg pit p < mot st og sg pit p * st + st - st / 2 := by
  unfold mot
  generalize p + corr og sg pit p = g
  have e := Int.mul_ediv_add_emod (2 * g + st) (2 * st)
  have m1 := Int.emod_nonneg (2 * g + st) (show 2 * st ≠ 0 by omega)
  have m2 := Int.emod_lt_of_pos (2 * g + st) (show 0 < 2 * st by omega)
  generalize (2 * g + st) / (2 * st) = k at *
  have : 2 * st * k = 2 * (k * st) := by grind
  omega
end U
namespace Go.Proofs.Ytneingpnkdeooaa
open Go Go.HL U
set_option maxHeartbeats 400000 in
set_option maxRecDepth 100000 in
theorem sCorrect : Sound Try.prog 62 SCorrect := by
  refine sound_of (C := CCorrect) tabP1 Try.func62 (by kernel_rfl) (by decide +kernel) (by kernel_rfl) rfl ⟨sMulDiv, sFloor, trivial⟩ (loops0 (by kernel_rfl)) ?_
  intro hargs pars R h
  unfold SCorrect at h
  split at h
  case h_2 => exfalso; exact h
  rename_i st x1 x2 x3 x4 x5 x6 og sg pit p
  obtain ⟨⟨hc, hp1, hp2⟩, hq⟩ := h
  obtain ⟨h1, h2, h3, h4, h5⟩ := hc
  refine byVC (vcCorrect st x1 x2 x3 x4 x5 x6 og sg p pit R) ⟨by omega, fun y1 e1 => ⟨fun k => ?_, fun k => ?_⟩⟩
  · have k := of_decide_eq_true k
    rw [corr_empty p (by omega)] at hq; exact hq
  have k := of_decide_eq_false k
  have hs := h1 (by omega)
  refine ⟨by omega, fun y2 e2 => ⟨fun k2 => ?_, fun k2 => ⟨fun k3 => ?_, fun k3 => ?_⟩⟩⟩
  · have k2 := of_decide_eq_true k2
    refine ⟨by omega, fun y3 e3 => ?_⟩
    rw [corr_lo (by omega) hs (by omega)] at hq
    rw [e3]; exact hq
  · have k3 := of_decide_eq_true k3
    omega
  have k2 := of_decide_eq_false k2
  have ed := ediv_bd (a := y2) hs
  have ed1 := ed.1 (by omega)
  have et : y2.tdiv sg = y2 / sg := Int.tdiv_eq_ediv_of_nonneg (by omega)
  rw [e2] at et ed1
  rw [← e2] at et
  refine ⟨by omega, by rw [et]; omega, fun y5 e5 => ⟨fun k4 => ?_, fun k4 => ?_⟩⟩
  · have k4 := of_decide_eq_true k4
    refine ⟨by omega, fun y6 e6 => ?_⟩
    rw [corr_hi (by omega) hs (by omega) (by rw [← e2]; omega)] at hq
    rw [e6, show y1.toNat = pit.length - 1 by omega]; exact hq
  have k4 := of_decide_eq_false k4
  have hd : y5 = (p - og) / sg := by rw [← e2]; omega
  have hmod := Int.mul_ediv_add_emod (p - og) sg
  have r0 := Int.emod_nonneg (p - og) (show sg ≠ 0 by omega)
  have r1 := Int.emod_lt_of_pos (p - og) hs
  rw [corr_mid (by omega) hs (by omega) (by omega)] at hq
  have bd := corr_bd ⟨h1, h2, h3, h4, h5⟩ p
  rw [corr_mid (by omega) hs (by omega) (by omega)] at bd
  rw [← hd] at hq bd hmod
  generalize (p - og) % sg = r at *
  have em : y5 * sg = p - og - r := by rw [Int.mul_comm]; omega
  have a := h5 y5.toNat (by omega)
  have b := h5 (y5.toNat + 1) (by omega)
  refine ⟨by omega, fun y7 e7 => ⟨by omega, fun y8 e8 => ⟨by omega, fun y9 e9 => ?_⟩⟩⟩
  rw [show y7.toNat = y5.toNat + 1 by omega] at e8
  rw [← e9] at a hq bd
  rw [← e8] at b hq bd
  refine ⟨by omega, fun y10 e10 => ⟨by omega, fun y11 e11 => ⟨by omega, fun y12 e12 => ?_⟩⟩⟩
  have er : y12 = r := by omega
  rw [← e10] at hq bd
  rw [← er] at hq bd r0 r1
  have pb := mul_bd2 (a := y10) (b := y12) (A := 8192) (B := 16777216) (by omega) (by omega)
  refine ⟨⟨by omega, by omega, by omega, by omega, by omega⟩, fun y13 e13 y14 _ => ⟨by omega, fun y15 e15 => ?_⟩⟩
  have e13' : y13 = (2 * (y10 * y12) + sg) / (2 * sg) := by rw [e13]; unfold mdv; simp
  rw [← e13'] at hq bd
  rw [← e9] at e15
  refine ⟨by omega, fun y16 e16 => ?_⟩
  rw [e16, e15]; exact hq
set_option maxHeartbeats 400000 in
set_option maxRecDepth 100000 in
theorem sSteps : Sound Try.prog 61 SSteps := by
  refine sound_of (C := CSteps) tabP1 Try.func61 (by kernel_rfl) (by decide +kernel) (by kernel_rfl) rfl ⟨sMulDiv, sFloor, trivial⟩ (loops0 (by kernel_rfl)) ?_
  intro hargs pars R h
  unfold SSteps at h
  split at h
  case h_2 => exfalso; exact h
  rename_i st x1 x2 x3 x4 x5 x6 og sg pit p
  obtain ⟨⟨h1, h2⟩, hq⟩ := h
  refine byVC (vcSteps st x1 x2 x3 x4 x5 x6 og sg p pit R) ⟨fun k => ?_, fun k => ?_⟩
  · have k := of_decide_eq_true k; omega
  refine ⟨by omega, fun y1 e1 => ⟨by omega, fun y2 e2 => ⟨by omega, fun y3 e3 => ⟨fun k => ?_, fun k => ?_⟩⟩⟩⟩
  · have k := of_decide_eq_true k; omega
  have hq : R ⟨.ce (.int .i64 (y2 / y3)), false, [], []⟩ := by rw [e2, e1, e3]; exact hq
  exact floor_fin (by omega) (by omega) hq
set_option maxHeartbeats 400000 in
set_option maxRecDepth 100000 in
theorem sMotor : Sound Try.prog 42 SMotor := by
  refine sound_of (C := CMotor) tabP2 Try.func42 (by kernel_rfl) (by decide +kernel) (by kernel_rfl) rfl ⟨sCorrect, sSteps, trivial⟩ (loops0 (by kernel_rfl)) ?_
  intro hargs pars R h
  unfold SMotor at h
  split at h
  case h_2 => exfalso; exact h
  rename_i st x1 x2 x3 x4 x5 x6 og sg pit p
  obtain ⟨⟨h1, h2, h3⟩, hq⟩ := h
  have bd := corr_bd h2 p
  refine byVC (vcMotor st x1 x2 x3 x4 x5 x6 og sg p pit R) ⟨⟨h2, h3⟩, fun y1 e1 => ?_⟩
  rw [← e1] at bd
  refine ⟨by omega, fun y2 e2 => ⟨⟨h1, by omega⟩, fun y3 e3 => ?_⟩⟩
  rw [e3, e2, e1, stp_eq]; exact hq
end Go.Proofs.Ytneingpnkdeooaa
