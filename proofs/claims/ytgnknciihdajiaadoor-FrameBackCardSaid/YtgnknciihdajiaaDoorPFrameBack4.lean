/-
  Part 4 of the texts that the law needs, merged: a value-level calculus of the code (HL), the contracts of the functions, and their proofs.
  Conditions: none.
-/
import Derived.Test.YtgnknciihdajiaaDoorPFrameBack3
set_option maxRecDepth 100000
set_option maxHeartbeats 400000
set_option linter.unusedVariables false
set_option linter.unusedSimpArgs false
namespace U
open Go Go.HL
def ins (n : Int) : Bool := decide (-1048576 ≤ n ∧ n ≤ 1048576)
def wn (x y z : Int) : Bool := ins x && (ins y && ins z)
def isPl (p : Int) : Bool := p == 17 || (p == 18 || p == 19)
def sel3 (p a b c : Int) : Int := if p = 17 then a else if p = 18 then b else if p = 19 then c else 0
def fU (p x y z : Int) : Int := sel3 p x z y
def fW (p x y z : Int) : Int := sel3 p y x z
def fH (p x y z : Int) : Int := sel3 p z y x
def sX (p u w h : Int) : Int := sel3 p u w h
def sY (p u w h : Int) : Int := sel3 p w h u
def sZ (p u w h : Int) : Int := sel3 p h u w
def pk6 (s a b c d e f : Int) : Int := if s = 54 then a else if s = 55 then b else if s = 56 then c else if s = 57 then d else if s = 58 then e else f
def B3 (B x y z : Int) : Prop := (-B ≤ x ∧ x ≤ B) ∧ (-B ≤ y ∧ y ≤ B) ∧ (-B ≤ z ∧ z ≤ B)
end U
namespace Go.Proofs.YtgnknciihdajiaaDoor
open Go Go.HL U
def SIns (hargs : List HV) (pars : List (List HC)) : SR :=
  match hargs, pars with
  | [.ce (.int .i64 n)], [] => .det True ⟨.ce (.bool (ins n)), false, [], []⟩
  | _, _ => .fail
noncomputable def CIns : Ctx := ⟨Tryd.prog, gam [], Tryd.f67.ntmps, [], []⟩
theorem vcIns (n : Int) (Q : Res → Prop) : (nfun true CIns Tryd.f67 (bodyOf Tryd.f67) [.ce (.int .i64 n)] [] Q) =
    ((decide (n ≥ (-1048576 : Int)) = true → Q ⟨.ce (.bool (decide (n ≤ 1048576))), false, [], []⟩) ∧ (decide (n ≥ (-1048576 : Int)) = false → Q ⟨.ce (.bool false), false, [], []⟩)) := by kernel_rfl
def SWn (hargs : List HV) (pars : List (List HC)) : SR :=
  match hargs, pars with
  | [.agg [.int .i64 x, .int .i64 y, .int .i64 z]], [] => .det True ⟨.ce (.bool (wn x y z)), false, [], []⟩
  | _, _ => .fail
def tabWn : List (FuncId × HL.Spec) := [(67, SIns)]
noncomputable def CWn : Ctx := ⟨Tryd.prog, gam tabWn, Tryd.f44.ntmps, [], []⟩
theorem vcWn (x y z : Int) (Q : Res → Prop) : (nfun true CWn Tryd.f44 (bodyOf Tryd.f44) [.agg [.int .i64 x, .int .i64 y, .int .i64 z]] [] Q) =
    (True ∧ ∀ (x1 : Bool), x1 = ins x → (x1 = true → True ∧ ∀ (x2 : Bool), x2 = ins y → (x2 = true → True ∧ ∀ (x3 : Bool), x3 = ins z → Q ⟨.ce (.bool x3), false, [], []⟩) ∧ (x2 = false → Q ⟨.ce (.bool false), false, [], []⟩)) ∧ (x1 = false → Q ⟨.ce (.bool false), false, [], []⟩)) := by kernel_rfl
def SAd (hargs : List HV) (pars : List (List HC)) : SR :=
  match hargs, pars with
  | [.agg [.int .i64 x, .int .i64 y, .int .i64 z], .agg [.int .i64 a, .int .i64 b, .int .i64 c]], [] => .det (B3 1152921504606846976 x y z ∧ B3 1152921504606846976 a b c) ⟨.agg [.int .i64 (x + a), .int .i64 (y + b), .int .i64 (z + c)], false, [], []⟩
  | _, _ => .fail
def SSb (hargs : List HV) (pars : List (List HC)) : SR :=
  match hargs, pars with
  | [.agg [.int .i64 x, .int .i64 y, .int .i64 z], .agg [.int .i64 a, .int .i64 b, .int .i64 c]], [] => .det (B3 1152921504606846976 x y z ∧ B3 1152921504606846976 a b c) ⟨.agg [.int .i64 (x - a), .int .i64 (y - b), .int .i64 (z - c)], false, [], []⟩
  | _, _ => .fail
noncomputable def CAd : Ctx := ⟨Tryd.prog, gam [], Tryd.f55.ntmps, [], []⟩
theorem vcAd (x y z a b c : Int) (Q : Res → Prop) : (nfun true CAd Tryd.f55 (bodyOf Tryd.f55) [.agg [.int .i64 x, .int .i64 y, .int .i64 z], .agg [.int .i64 a, .int .i64 b, .int .i64 c]] [] Q) =
    ((-9223372036854775808 ≤ x + a ∧ x + a ≤ 9223372036854775807) ∧ ∀ (x1 : Int), x1 = x + a → (-9223372036854775808 ≤ y + b ∧ y + b ≤ 9223372036854775807) ∧ ∀ (x2 : Int), x2 = y + b → (-9223372036854775808 ≤ z + c ∧ z + c ≤ 9223372036854775807) ∧ ∀ (x3 : Int), x3 = z + c → Q ⟨.agg [.int .i64 x1, .int .i64 x2, .int .i64 x3], false, [], []⟩) := by kernel_rfl
theorem vcSb (x y z a b c : Int) (Q : Res → Prop) : (nfun true CAd Tryd.f65 (bodyOf Tryd.f65) [.agg [.int .i64 x, .int .i64 y, .int .i64 z], .agg [.int .i64 a, .int .i64 b, .int .i64 c]] [] Q) =
    ((-9223372036854775808 ≤ x - a ∧ x - a ≤ 9223372036854775807) ∧ ∀ (x1 : Int), x1 = x - a → (-9223372036854775808 ≤ y - b ∧ y - b ≤ 9223372036854775807) ∧ ∀ (x2 : Int), x2 = y - b → (-9223372036854775808 ≤ z - c ∧ z - c ≤ 9223372036854775807) ∧ ∀ (x3 : Int), x3 = z - c → Q ⟨.agg [.int .i64 x1, .int .i64 x2, .int .i64 x3], false, [], []⟩) := by kernel_rfl
theorem vcSb2 (x y z a b c : Int) (Q : Res → Prop) : (nfun true CAd Tryd.f23 (bodyOf Tryd.f23) [.agg [.int .i64 x, .int .i64 y, .int .i64 z], .agg [.int .i64 a, .int .i64 b, .int .i64 c]] [] Q) =
    ((-9223372036854775808 ≤ x - a ∧ x - a ≤ 9223372036854775807) ∧ ∀ (x1 : Int), x1 = x - a → (-9223372036854775808 ≤ y - b ∧ y - b ≤ 9223372036854775807) ∧ ∀ (x2 : Int), x2 = y - b → (-9223372036854775808 ≤ z - c ∧ z - c ≤ 9223372036854775807) ∧ ∀ (x3 : Int), x3 = z - c → Q ⟨.agg [.int .i64 x1, .int .i64 x2, .int .i64 x3], false, [], []⟩) := by kernel_rfl
def SFl (hargs : List HV) (pars : List (List HC)) : SR :=
  match hargs, pars with
  | [.ce (.int .i64 p), .agg [.int .i64 x, .int .i64 y, .int .i64 z]], [] => .det True ⟨.tup [.agg [.int .i64 (fU p x y z), .int .i64 (fW p x y z)], .ce (.int .i64 (fH p x y z)), .ce (.bool (isPl p))], false, [], []⟩
  | _, _ => .fail
noncomputable def CFl : Ctx := ⟨Tryd.prog, gam [], Tryd.f102.ntmps, [], []⟩
theorem vcFl (p x y z : Int) (Q : Res → Prop) : (nfun true CFl Tryd.f102 (bodyOf Tryd.f102) [.ce (.int .i64 p), .agg [.int .i64 x, .int .i64 y, .int .i64 z]] [] Q) =
    (((p == 17) = true → Q ⟨.tup [.agg [.int .i64 x, .int .i64 y], .ce (.int .i64 z), .ce (.bool true)], false, [], []⟩) ∧ ((p == 17) = false → ((p == 18) = true → Q ⟨.tup [.agg [.int .i64 z, .int .i64 x], .ce (.int .i64 y), .ce (.bool true)], false, [], []⟩) ∧ ((p == 18) = false → ((p == 19) = true → Q ⟨.tup [.agg [.int .i64 y, .int .i64 z], .ce (.int .i64 x), .ce (.bool true)], false, [], []⟩) ∧ ((p == 19) = false → Q ⟨.tup [.agg [.int .i64 0, .int .i64 0], .ce (.int .i64 0), .ce (.bool false)], false, [], []⟩)))) := by kernel_rfl
def SSo (hargs : List HV) (pars : List (List HC)) : SR :=
  match hargs, pars with
  | [.ce (.int .i64 p), .agg [.int .i64 u, .int .i64 w], .ce (.int .i64 h)], [] => .det True ⟨.tup [.agg [.int .i64 (sX p u w h), .int .i64 (sY p u w h), .int .i64 (sZ p u w h)], .ce (.bool (isPl p))], false, [], []⟩
  | _, _ => .fail
noncomputable def CSo : Ctx := ⟨Tryd.prog, gam [], Tryd.f103.ntmps, [], []⟩
theorem vcSo (p u w h : Int) (Q : Res → Prop) : (nfun true CSo Tryd.f103 (bodyOf Tryd.f103) [.ce (.int .i64 p), .agg [.int .i64 u, .int .i64 w], .ce (.int .i64 h)] [] Q) =
    (((p == 17) = true → Q ⟨.tup [.agg [.int .i64 u, .int .i64 w, .int .i64 h], .ce (.bool true)], false, [], []⟩) ∧ ((p == 17) = false → ((p == 18) = true → Q ⟨.tup [.agg [.int .i64 w, .int .i64 h, .int .i64 u], .ce (.bool true)], false, [], []⟩) ∧ ((p == 18) = false → ((p == 19) = true → Q ⟨.tup [.agg [.int .i64 h, .int .i64 u, .int .i64 w], .ce (.bool true)], false, [], []⟩) ∧ ((p == 19) = false → Q ⟨.tup [.agg [.int .i64 0, .int .i64 0, .int .i64 0], .ce (.bool false)], false, [], []⟩)))) := by kernel_rfl
def SPl (hargs : List HV) (pars : List (List HC)) : SR :=
  match hargs, pars with
  | [.ce (.int .i64 p)], [] => .det True ⟨.ce (.bool (isPl p)), false, [], []⟩
  | _, _ => .fail
noncomputable def CPl : Ctx := ⟨Tryd.prog, gam [], Tryd.f47.ntmps, [], []⟩
theorem vcPl (p : Int) (Q : Res → Prop) : (nfun true CPl Tryd.f47 (bodyOf Tryd.f47) [.ce (.int .i64 p)] [] Q) =
    (((p == 17) = true → Q ⟨.ce (.bool true), false, [], []⟩) ∧ ((p == 17) = false → ((p == 18) = true → Q ⟨.ce (.bool true), false, [], []⟩) ∧ ((p == 18) = false → Q ⟨.ce (.bool (p == 19)), false, [], []⟩))) := by kernel_rfl
def SOrg (hargs : List HV) (pars : List (List HC)) : SR :=
  match hargs, pars with
  | [.agg cs], [] => match cs with
    | [.int .i64 s0, .int .i64 s1, .int .i64 s2, .int .i64 s3, .int .i64 s4, .int .i64 s5, .int .i64 s6, .int .i64 s7, .int .i64 s8, .int .i64 s9, .int .i64 s10, .int .i64 s11, .int .i64 s12, .int .i64 s13, .int .i64 s14, .int .i64 s15, .int .i64 s16, .int .i64 s17, .int .i64 sy, .int .i64 l0, .int .i64 l1, .int .i64 l2, .int .i64 h0, .int .i64 h1, .int .i64 h2, .int .i64 ln, .bool tu, .int .i64 pl, .int .i64 c0, .int .i64 c1, .int .i64 c2, .int .i64 an] => .det ((54 ≤ sy ∧ sy ≤ 59) ∧ (B3 1073741824 s0 s1 s2 ∧ B3 1073741824 s3 s4 s5 ∧ B3 1073741824 s6 s7 s8 ∧ B3 1073741824 s9 s10 s11 ∧ B3 1073741824 s12 s13 s14 ∧ B3 1073741824 s15 s16 s17) ∧ B3 1073741824 l0 l1 l2 ∧ B3 1073741824 h0 h1 h2 ∧ (-1073741824 ≤ ln ∧ ln ≤ 1073741824))
        ⟨.agg [.int .i64 (pk6 sy s0 s3 s6 s9 s12 s15 + l0 + h0), .int .i64 (pk6 sy s1 s4 s7 s10 s13 s16 + l1 + h1), .int .i64 (pk6 sy s2 s5 s8 s11 s14 s17 + l2 + h2 + ln)], false, [], []⟩
    | _ => .fail
  | _, _ => .fail
def tabOrg : List (FuncId × HL.Spec) := [(55, SAd)]
noncomputable def COrg : Ctx := ⟨Tryd.prog, gam tabOrg, Tryd.f22.ntmps, [], []⟩
theorem vcOrg (s0 s1 s2 s3 s4 s5 s6 s7 s8 s9 s10 s11 s12 s13 s14 s15 s16 s17 sy l0 l1 l2 h0 h1 h2 ln pl c0 c1 c2 an : Int) (tu : Bool) (Q : Res → Prop) : (nfun true COrg Tryd.f22 (bodyOf Tryd.f22) [.agg [.int .i64 s0, .int .i64 s1, .int .i64 s2, .int .i64 s3, .int .i64 s4, .int .i64 s5, .int .i64 s6, .int .i64 s7, .int .i64 s8, .int .i64 s9, .int .i64 s10, .int .i64 s11, .int .i64 s12, .int .i64 s13, .int .i64 s14, .int .i64 s15, .int .i64 s16, .int .i64 s17, .int .i64 sy, .int .i64 l0, .int .i64 l1, .int .i64 l2, .int .i64 h0, .int .i64 h1, .int .i64 h2, .int .i64 ln, .bool tu, .int .i64 pl, .int .i64 c0, .int .i64 c1, .int .i64 c2, .int .i64 an]] [] Q) =
    ((B3 (1152921504606846976 : Int) l0 l1 l2 ∧ B3 (1152921504606846976 : Int) h0 h1 h2) ∧ ∀ (x1 : Int), x1 = l0 + h0 → ∀ (x2 : Int), x2 = l1 + h1 → ∀ (x3 : Int), x3 = l2 + h2 → (-9223372036854775808 ≤ x3 + ln ∧ x3 + ln ≤ 9223372036854775807) ∧ ∀ (x4 : Int), x4 = x3 + ln → (-9223372036854775808 ≤ sy - 54 ∧ sy - 54 ≤ 9223372036854775807) ∧ ∀ (x5 : Int), x5 = sy - 54 → (decide (x5 ≥ 0) = true → (decide (x5 < 6) = true → (0 ≤ x5 ∧ x5 < 6) ∧ (x5 = 0 → (B3 (1152921504606846976 : Int) x1 x2 x4 ∧ B3 (1152921504606846976 : Int) s0 s1 s2) ∧ ∀ (x6 : Int), x6 = x1 + s0 → ∀ (x7 : Int), x7 = x2 + s1 → ∀ (x8 : Int), x8 = x4 + s2 → Q ⟨.agg [.int .i64 x6, .int .i64 x7, .int .i64 x8], false, [], []⟩) ∧ (x5 = 1 → (B3 (1152921504606846976 : Int) x1 x2 x4 ∧ B3 (1152921504606846976 : Int) s3 s4 s5) ∧ ∀ (x9 : Int), x9 = x1 + s3 → ∀ (x10 : Int), x10 = x2 + s4 → ∀ (x11 : Int), x11 = x4 + s5 → Q ⟨.agg [.int .i64 x9, .int .i64 x10, .int .i64 x11], false, [], []⟩) ∧
    (x5 = 2 → (B3 (1152921504606846976 : Int) x1 x2 x4 ∧ B3 (1152921504606846976 : Int) s6 s7 s8) ∧ ∀ (x12 : Int), x12 = x1 + s6 → ∀ (x13 : Int), x13 = x2 + s7 → ∀ (x14 : Int), x14 = x4 + s8 → Q ⟨.agg [.int .i64 x12, .int .i64 x13, .int .i64 x14], false, [], []⟩) ∧ (x5 = 3 → (B3 (1152921504606846976 : Int) x1 x2 x4 ∧ B3 (1152921504606846976 : Int) s9 s10 s11) ∧ ∀ (x15 : Int), x15 = x1 + s9 → ∀ (x16 : Int), x16 = x2 + s10 → ∀ (x17 : Int), x17 = x4 + s11 → Q ⟨.agg [.int .i64 x15, .int .i64 x16, .int .i64 x17], false, [], []⟩) ∧ (x5 = 4 → (B3 (1152921504606846976 : Int) x1 x2 x4 ∧ B3 (1152921504606846976 : Int) s12 s13 s14) ∧ ∀ (x18 : Int), x18 = x1 + s12 → ∀ (x19 : Int), x19 = x2 + s13 → ∀ (x20 : Int), x20 = x4 + s14 → Q ⟨.agg [.int .i64 x18, .int .i64 x19, .int .i64 x20], false, [], []⟩) ∧ (x5 = 5 → (B3 (1152921504606846976 : Int) x1 x2 x4 ∧ B3 (1152921504606846976 : Int) s15 s16 s17) ∧ ∀ (x21 : Int), x21 = x1 + s15 →
    ∀ (x22 : Int), x22 = x2 + s16 → ∀ (x23 : Int), x23 = x4 + s17 → Q ⟨.agg [.int .i64 x21, .int .i64 x22, .int .i64 x23], false, [], []⟩)) ∧ (decide (x5 < 6) = false → Q ⟨.agg [.int .i64 x1, .int .i64 x2, .int .i64 x4], false, [], []⟩)) ∧ (decide (x5 ≥ 0) = false → Q ⟨.agg [.int .i64 x1, .int .i64 x2, .int .i64 x4], false, [], []⟩)) := by kernel_rfl
end Go.Proofs.YtgnknciihdajiaaDoor
namespace U
theorem sel3_no {p a b c : Int} (h1 : (p == 17) = false) (h2 : (p == 18) = false) (h3 : (p == 19) = false) : sel3 p a b c = 0 := by
  unfold sel3
  rw [if_neg (by simpa using h1), if_neg (by simpa using h2), if_neg (by simpa using h3)]
theorem ins_iff {n : Int} : ins n = true ↔ -1048576 ≤ n ∧ n ≤ 1048576 := by unfold ins; rw [decide_eq_true_eq]
theorem wn_iff {x y z : Int} : wn x y z = true ↔ B3 1048576 x y z := by
  unfold wn B3
  rw [Bool.and_eq_true, Bool.and_eq_true, ins_iff, ins_iff, ins_iff]
theorem eqp {p k : Int} (h : (p == k) = true) : p = k := by simpa using h
theorem nep {p k : Int} (h : (p == k) = false) : p ≠ k := by simpa using h
end U
namespace Go.Proofs.YtgnknciihdajiaaDoor
open Go Go.HL U
attribute [local irreducible] hfun bodyT fragT
set_option maxHeartbeats 400000 in
set_option maxRecDepth 100000 in
theorem sIns : Sound Tryd.prog 67 SIns := by
  refine sound_of (C := CIns) [] Tryd.func67 (by kernel_rfl) (by decide +kernel) (by kernel_rfl) rfl trivial (loops0 (by kernel_rfl)) ?_
  intro hargs pars R h
  unfold SIns at h
  split at h
  case h_2 => exfalso; exact h
  rename_i n
  obtain ⟨_, hq⟩ := h
  refine byVC (vcIns n R) ⟨fun g => ?_, fun g => ?_⟩
  · have g := of_decide_eq_true g
    have e : ins n = decide (n ≤ 1048576) := by unfold ins; exact decide_eq_decide.2 (by omega)
    rw [e] at hq; exact hq
  · have g := of_decide_eq_false g
    have e : ins n = false := decide_eq_false (by omega)
    rw [e] at hq; exact hq
theorem wn_fin {x y z : Int} {R : Res → Prop} (hq : R ⟨.ce (.bool (wn x y z)), false, [], []⟩) {x1 : Bool} (e1 : x1 = ins x) :
    (x1 = true → ∀ x2, x2 = ins y → (x2 = true → ∀ x3, x3 = ins z → R ⟨.ce (.bool x3), false, [], []⟩) ∧ (x2 = false → R ⟨.ce (.bool false), false, [], []⟩)) ∧ (x1 = false → R ⟨.ce (.bool false), false, [], []⟩) := by
  unfold wn at hq
  rw [← e1] at hq
  refine ⟨fun g x2 e2 => ?_, fun g => ?_⟩
  · rw [g, Bool.true_and, ← e2] at hq
    refine ⟨fun g x3 e3 => ?_, fun g => ?_⟩
    · rw [g, Bool.true_and, ← e3] at hq; exact hq
    · rw [g, Bool.false_and] at hq; exact hq
  · rw [g, Bool.false_and] at hq; exact hq
set_option maxHeartbeats 400000 in
set_option maxRecDepth 100000 in
theorem sWn : Sound Tryd.prog 44 SWn := by
  refine sound_of (C := CWn) tabWn Tryd.func44 (by kernel_rfl) (by decide +kernel) (by kernel_rfl) rfl ⟨sIns, trivial⟩ (loops0 (by kernel_rfl)) ?_
  intro hargs pars R h
  unfold SWn at h
  split at h
  case h_2 => exfalso; exact h
  rename_i x y z
  obtain ⟨_, hq⟩ := h
  refine byVC (vcWn x y z R) ⟨trivial, fun x1 e1 => ⟨fun g => ⟨trivial, fun x2 e2 => ⟨fun g2 => ⟨trivial, fun x3 e3 => ?_⟩, fun g2 => ?_⟩⟩, fun g => ?_⟩⟩
  · exact ((wn_fin hq e1).1 g x2 e2).1 g2 x3 e3
  · exact ((wn_fin hq e1).1 g x2 e2).2 g2
  · exact (wn_fin hq e1).2 g
set_option maxHeartbeats 400000 in
set_option maxRecDepth 100000 in
theorem sAd : Sound Tryd.prog 55 SAd := by
  refine sound_of (C := CAd) [] Tryd.func55 (by kernel_rfl) (by decide +kernel) (by kernel_rfl) rfl trivial (loops0 (by kernel_rfl)) ?_
  intro hargs pars R h
  unfold SAd at h
  split at h
  case h_2 => exfalso; exact h
  rename_i x y z a b c
  obtain ⟨⟨⟨h1, h2, h3⟩, h4, h5, h6⟩, hq⟩ := h
  refine byVC (vcAd x y z a b c R) ⟨by omega, fun x1 e1 => ⟨by omega, fun x2 e2 => ⟨by omega, fun x3 e3 => ?_⟩⟩⟩
  rw [e1, e2, e3]; exact hq
set_option maxHeartbeats 400000 in
set_option maxRecDepth 100000 in
theorem sSb : Sound Tryd.prog 65 SSb := by
  refine sound_of (C := CAd) [] Tryd.func65 (by kernel_rfl) (by decide +kernel) (by kernel_rfl) rfl trivial (loops0 (by kernel_rfl)) ?_
  intro hargs pars R h
  unfold SSb at h
  split at h
  case h_2 => exfalso; exact h
  rename_i x y z a b c
  obtain ⟨⟨⟨h1, h2, h3⟩, h4, h5, h6⟩, hq⟩ := h
  refine byVC (vcSb x y z a b c R) ⟨by omega, fun x1 e1 => ⟨by omega, fun x2 e2 => ⟨by omega, fun x3 e3 => ?_⟩⟩⟩
  rw [e1, e2, e3]; exact hq
set_option maxHeartbeats 400000 in
set_option maxRecDepth 100000 in
theorem sSb2 : Sound Tryd.prog 23 SSb := by
  refine sound_of (C := CAd) [] Tryd.func23 (by kernel_rfl) (by decide +kernel) (by kernel_rfl) rfl trivial (loops0 (by kernel_rfl)) ?_
  intro hargs pars R h
  unfold SSb at h
  split at h
  case h_2 => exfalso; exact h
  rename_i x y z a b c
  obtain ⟨⟨⟨h1, h2, h3⟩, h4, h5, h6⟩, hq⟩ := h
  refine byVC (vcSb2 x y z a b c R) ⟨by omega, fun x1 e1 => ⟨by omega, fun x2 e2 => ⟨by omega, fun x3 e3 => ?_⟩⟩⟩
  rw [e1, e2, e3]; exact hq
theorem isPl_no {p : Int} (h1 : (p == 17) = false) (h2 : (p == 18) = false) (h3 : (p == 19) = false) : isPl p = false := by unfold isPl; rw [h1, h2, h3]; rfl
theorem fl_fin {p x y z : Int} {R : Res → Prop} (hq : R ⟨.tup [.agg [.int .i64 (fU p x y z), .int .i64 (fW p x y z)], .ce (.int .i64 (fH p x y z)), .ce (.bool (isPl p))], false, [], []⟩) :
    ((p == 17) = true → R ⟨.tup [.agg [.int .i64 x, .int .i64 y], .ce (.int .i64 z), .ce (.bool true)], false, [], []⟩) ∧ ((p == 17) = false →
    ((p == 18) = true → R ⟨.tup [.agg [.int .i64 z, .int .i64 x], .ce (.int .i64 y), .ce (.bool true)], false, [], []⟩) ∧ ((p == 18) = false →
    ((p == 19) = true → R ⟨.tup [.agg [.int .i64 y, .int .i64 z], .ce (.int .i64 x), .ce (.bool true)], false, [], []⟩) ∧ ((p == 19) = false →
    R ⟨.tup [.agg [.int .i64 0, .int .i64 0], .ce (.int .i64 0), .ce (.bool false)], false, [], []⟩))) := by
  refine ⟨fun g => ?_, fun g1 => ⟨fun g => ?_, fun g2 => ⟨fun g => ?_, fun g3 => ?_⟩⟩⟩
  · rw [eqp g] at hq; exact hq
  · rw [eqp g] at hq; exact hq
  · rw [eqp g] at hq; exact hq
  · unfold fU fW fH at hq
    rw [sel3_no g1 g2 g3, sel3_no g1 g2 g3, sel3_no g1 g2 g3, isPl_no g1 g2 g3] at hq; exact hq
set_option maxHeartbeats 400000 in
set_option maxRecDepth 100000 in
theorem sFl : Sound Tryd.prog 102 SFl := by
  refine sound_of (C := CFl) [] Tryd.func102 (by kernel_rfl) (by decide +kernel) (by kernel_rfl) rfl trivial (loops0 (by kernel_rfl)) ?_
  intro hargs pars R h
  unfold SFl at h
  split at h
  case h_2 => exfalso; exact h
  rename_i p x y z
  exact byVC (vcFl p x y z R) (fl_fin h.2)
theorem so_fin {p u w h : Int} {R : Res → Prop} (hq : R ⟨.tup [.agg [.int .i64 (sX p u w h), .int .i64 (sY p u w h), .int .i64 (sZ p u w h)], .ce (.bool (isPl p))], false, [], []⟩) :
    ((p == 17) = true → R ⟨.tup [.agg [.int .i64 u, .int .i64 w, .int .i64 h], .ce (.bool true)], false, [], []⟩) ∧ ((p == 17) = false →
    ((p == 18) = true → R ⟨.tup [.agg [.int .i64 w, .int .i64 h, .int .i64 u], .ce (.bool true)], false, [], []⟩) ∧ ((p == 18) = false →
    ((p == 19) = true → R ⟨.tup [.agg [.int .i64 h, .int .i64 u, .int .i64 w], .ce (.bool true)], false, [], []⟩) ∧ ((p == 19) = false →
    R ⟨.tup [.agg [.int .i64 0, .int .i64 0, .int .i64 0], .ce (.bool false)], false, [], []⟩))) := by
  refine ⟨fun g => ?_, fun g1 => ⟨fun g => ?_, fun g2 => ⟨fun g => ?_, fun g3 => ?_⟩⟩⟩
  · rw [eqp g] at hq; exact hq
  · rw [eqp g] at hq; exact hq
  · rw [eqp g] at hq; exact hq
  · unfold sX sY sZ at hq
    rw [sel3_no g1 g2 g3, sel3_no g1 g2 g3, sel3_no g1 g2 g3, isPl_no g1 g2 g3] at hq; exact hq
set_option maxHeartbeats 400000 in
set_option maxRecDepth 100000 in
theorem sSo : Sound Tryd.prog 103 SSo := by
  refine sound_of (C := CSo) [] Tryd.func103 (by kernel_rfl) (by decide +kernel) (by kernel_rfl) rfl trivial (loops0 (by kernel_rfl)) ?_
  intro hargs pars R h
  unfold SSo at h
  split at h
  case h_2 => exfalso; exact h
  rename_i p u w h'
  exact byVC (vcSo p u w h' R) (so_fin h.2)
theorem pl_fin {p : Int} {R : Res → Prop} (hq : R ⟨.ce (.bool (isPl p)), false, [], []⟩) :
    ((p == 17) = true → R ⟨.ce (.bool true), false, [], []⟩) ∧ ((p == 17) = false → ((p == 18) = true → R ⟨.ce (.bool true), false, [], []⟩) ∧ ((p == 18) = false → R ⟨.ce (.bool (p == 19)), false, [], []⟩)) := by
  unfold isPl at hq
  refine ⟨fun g => ?_, fun g1 => ⟨fun g => ?_, fun g2 => ?_⟩⟩
  · rw [g, Bool.true_or] at hq; exact hq
  · rw [g1, g, Bool.false_or, Bool.true_or] at hq; exact hq
  · rw [g1, g2, Bool.false_or, Bool.false_or] at hq; exact hq
set_option maxHeartbeats 400000 in
set_option maxRecDepth 100000 in
theorem sPl : Sound Tryd.prog 47 SPl := by
  refine sound_of (C := CPl) [] Tryd.func47 (by kernel_rfl) (by decide +kernel) (by kernel_rfl) rfl trivial (loops0 (by kernel_rfl)) ?_
  intro hargs pars R h
  unfold SPl at h
  split at h
  case h_2 => exfalso; exact h
  rename_i p
  exact byVC (vcPl p R) (pl_fin h.2)
set_option maxHeartbeats 400000 in
set_option maxRecDepth 100000 in
theorem sOrg : Sound Tryd.prog 22 SOrg := by
  refine sound_of (C := COrg) tabOrg Tryd.func22 (by kernel_rfl) (by decide +kernel) (by kernel_rfl) rfl ⟨sAd, trivial⟩ (loops0 (by kernel_rfl)) ?_
  intro hargs pars R h
  unfold SOrg at h
  split at h
  case h_2 => exfalso; exact h
  rename_i cs
  split at h
  case h_2 => exact h.elim
  rename_i s0 s1 s2 s3 s4 s5 s6 s7 s8 s9 s10 s11 s12 s13 s14 s15 s16 s17 sy l0 l1 l2 h0 h1 h2 ln tu pl c0 c1 c2 an
  obtain ⟨⟨hs, ⟨⟨a0, a1, a2⟩, ⟨a3, a4, a5⟩, ⟨a6, a7, a8⟩, ⟨a9, a10, a11⟩, ⟨a12, a13, a14⟩, ⟨a15, a16, a17⟩⟩, ⟨b0, b1, b2⟩, ⟨d0, d1, d2⟩, hln⟩, hq⟩ := h
  have fin : ∀ {x y z : Int}, x = pk6 sy s0 s3 s6 s9 s12 s15 + l0 + h0 → y = pk6 sy s1 s4 s7 s10 s13 s16 + l1 + h1 → z = pk6 sy s2 s5 s8 s11 s14 s17 + l2 + h2 + ln → R ⟨.agg [.int .i64 x, .int .i64 y, .int .i64 z], false, [], []⟩ := fun ex ey ez => by rw [ex, ey, ez]; exact hq
  unfold pk6 at fin
  refine byVC (vcOrg s0 s1 s2 s3 s4 s5 s6 s7 s8 s9 s10 s11 s12 s13 s14 s15 s16 s17 sy l0 l1 l2 h0 h1 h2 ln pl c0 c1 c2 an tu R) ⟨by unfold B3; omega, fun x1 e1 x2 e2 x3 e3 => ⟨by omega, fun x4 e4 => ⟨by omega, fun x5 e5 => ⟨fun _ => ⟨fun _ => ⟨by omega, fun g => ?_, fun g => ?_, fun g => ?_, fun g => ?_, fun g => ?_, fun g => ?_⟩, fun g => ?_⟩, fun g => ?_⟩⟩⟩⟩
  · exact ⟨by unfold B3; omega, fun x6 e6 x7 e7 x8 e8 => fin (by omega) (by omega) (by omega)⟩
  · exact ⟨by unfold B3; omega, fun x6 e6 x7 e7 x8 e8 => fin (by omega) (by omega) (by omega)⟩
  · exact ⟨by unfold B3; omega, fun x6 e6 x7 e7 x8 e8 => fin (by omega) (by omega) (by omega)⟩
  · exact ⟨by unfold B3; omega, fun x6 e6 x7 e7 x8 e8 => fin (by omega) (by omega) (by omega)⟩
  · exact ⟨by unfold B3; omega, fun x6 e6 x7 e7 x8 e8 => fin (by omega) (by omega) (by omega)⟩
  · exact ⟨by unfold B3; omega, fun x6 e6 x7 e7 x8 e8 => fin (by omega) (by omega) (by omega)⟩
  · have := of_decide_eq_false g; omega
  · have := of_decide_eq_false g; omega
end Go.Proofs.YtgnknciihdajiaaDoor
namespace U
open Go Go.HL
def tA (p c0 c1 c2 x y z a : Int) : Int := rtU (fU p x y z - fU p c0 c1 c2) (fW p x y z - fW p c0 c1 c2) a + fU p c0 c1 c2
def tB (p c0 c1 c2 x y z a : Int) : Int := rtW (fU p x y z - fU p c0 c1 c2) (fW p x y z - fW p c0 c1 c2) a + fW p c0 c1 c2
def tOk (p c0 c1 c2 x y z : Int) : Bool := rtB (fU p x y z - fU p c0 c1 c2) (fW p x y z - fW p c0 c1 c2)
def tX (p c0 c1 c2 x y z a : Int) : Int := sX p (tA p c0 c1 c2 x y z a) (tB p c0 c1 c2 x y z a) (fH p x y z)
def tY (p c0 c1 c2 x y z a : Int) : Int := sY p (tA p c0 c1 c2 x y z a) (tB p c0 c1 c2 x y z a) (fH p x y z)
def tZ (p c0 c1 c2 x y z a : Int) : Int := sZ p (tA p c0 c1 c2 x y z a) (tB p c0 c1 c2 x y z a) (fH p x y z)
structure RotS where
  x : Int
  y : Int
  z : Int
  ok : Bool
def rotF (tu : Bool) (p c0 c1 c2 x y z a : Int) : RotS :=
  if tu then ⟨tX p c0 c1 c2 x y z a, tY p c0 c1 c2 x y z a, tZ p c0 c1 c2 x y z a, tOk p c0 c1 c2 x y z⟩ else ⟨x, y, z, true⟩
structure MapS where
  x : Int
  y : Int
  z : Int
  e : Int
def mapW (x y z : Int) (ok : Bool) : MapS := if ok && wn x y z then ⟨x, y, z, 0⟩ else ⟨0, 0, 0, 3⟩
def toF (tu : Bool) (p c0 c1 c2 a o0 o1 o2 x y z : Int) : MapS :=
  if wn x y z then mapW ((rotF tu p c0 c1 c2 x y z a).x + o0) ((rotF tu p c0 c1 c2 x y z a).y + o1) ((rotF tu p c0 c1 c2 x y z a).z + o2) (rotF tu p c0 c1 c2 x y z a).ok else ⟨0, 0, 0, 3⟩
def fromF (tu : Bool) (p c0 c1 c2 a o0 o1 o2 x y z : Int) : MapS :=
  if wn x y z then mapW (rotF tu p c0 c1 c2 (x - o0) (y - o1) (z - o2) (-a)).x (rotF tu p c0 c1 c2 (x - o0) (y - o1) (z - o2) (-a)).y (rotF tu p c0 c1 c2 (x - o0) (y - o1) (z - o2) (-a)).z (rotF tu p c0 c1 c2 (x - o0) (y - o1) (z - o2) (-a)).ok else ⟨0, 0, 0, 3⟩
def okP (tu : Bool) (p a : Int) : Prop := (tu = true → 17 ≤ p ∧ p ≤ 19) ∧ (-4611686018427387904 ≤ a ∧ a ≤ 4611686018427387904)
def okO (sy s0 s1 s2 s3 s4 s5 s6 s7 s8 s9 s10 s11 s12 s13 s14 s15 s16 s17 l0 l1 l2 h0 h1 h2 ln : Int) : Prop :=
  (54 ≤ sy ∧ sy ≤ 59) ∧ (B3 1073741824 s0 s1 s2 ∧ B3 1073741824 s3 s4 s5 ∧ B3 1073741824 s6 s7 s8 ∧ B3 1073741824 s9 s10 s11 ∧ B3 1073741824 s12 s13 s14 ∧ B3 1073741824 s15 s16 s17) ∧ B3 1073741824 l0 l1 l2 ∧ B3 1073741824 h0 h1 h2 ∧ (-1073741824 ≤ ln ∧ ln ≤ 1073741824)
def orX (sy s0 s3 s6 s9 s12 s15 l0 h0 : Int) : Int := pk6 sy s0 s3 s6 s9 s12 s15 + l0 + h0
def orZ (sy s2 s5 s8 s11 s14 s17 l2 h2 ln : Int) : Int := pk6 sy s2 s5 s8 s11 s14 s17 + l2 + h2 + ln
def okOr (r : List Int) : Prop := okO (r.getD 18 0) (r.getD 0 0) (r.getD 1 0) (r.getD 2 0) (r.getD 3 0) (r.getD 4 0) (r.getD 5 0) (r.getD 6 0) (r.getD 7 0) (r.getD 8 0) (r.getD 9 0) (r.getD 10 0) (r.getD 11 0) (r.getD 12 0) (r.getD 13 0) (r.getD 14 0) (r.getD 15 0) (r.getD 16 0) (r.getD 17 0) (r.getD 19 0) (r.getD 20 0) (r.getD 21 0) (r.getD 22 0) (r.getD 23 0) (r.getD 24 0) (r.getD 25 0)
def orR0 (r : List Int) : Int := orX (r.getD 18 0) (r.getD 0 0) (r.getD 3 0) (r.getD 6 0) (r.getD 9 0) (r.getD 12 0) (r.getD 15 0) (r.getD 19 0) (r.getD 22 0)
def orR1 (r : List Int) : Int := orX (r.getD 18 0) (r.getD 1 0) (r.getD 4 0) (r.getD 7 0) (r.getD 10 0) (r.getD 13 0) (r.getD 16 0) (r.getD 20 0) (r.getD 23 0)
def orR2 (r : List Int) : Int := orZ (r.getD 18 0) (r.getD 2 0) (r.getD 5 0) (r.getD 8 0) (r.getD 11 0) (r.getD 14 0) (r.getD 17 0) (r.getD 21 0) (r.getD 24 0) (r.getD 25 0)
def rotR (r : List Int) (sg x y z : Int) : RotS := rotF (r.getD 26 0 != 0) (r.getD 27 0) (r.getD 28 0) (r.getD 29 0) (r.getD 30 0) x y z (sg * r.getD 31 0)
def okPr (r : List Int) : Prop := okP (r.getD 26 0 != 0) (r.getD 27 0) (r.getD 31 0) ∧ B3 1073741824 (r.getD 28 0) (r.getD 29 0) (r.getD 30 0)
end U
namespace Go.Proofs.YtgnknciihdajiaaDoor
open Go Go.HL U
def STurn (hargs : List HV) (pars : List (List HC)) : SR :=
  match hargs, pars with
  | [.agg cs, .agg [.int .i64 x, .int .i64 y, .int .i64 z], .ce (.int .i64 a)], [] => match cs with
    | [.int .i64 s0, .int .i64 s1, .int .i64 s2, .int .i64 s3, .int .i64 s4, .int .i64 s5, .int .i64 s6, .int .i64 s7, .int .i64 s8, .int .i64 s9, .int .i64 s10, .int .i64 s11, .int .i64 s12, .int .i64 s13, .int .i64 s14, .int .i64 s15, .int .i64 s16, .int .i64 s17, .int .i64 sy, .int .i64 l0, .int .i64 l1, .int .i64 l2, .int .i64 h0, .int .i64 h1, .int .i64 h2, .int .i64 ln, .bool tu, .int .i64 pl, .int .i64 c0, .int .i64 c1, .int .i64 c2, .int .i64 an] => .det ((17 ≤ pl ∧ pl ≤ 19) ∧ B3 1073741824 c0 c1 c2 ∧ B3 1099511627776 x y z)
        ⟨.tup [.agg [.int .i64 (tX pl c0 c1 c2 x y z a), .int .i64 (tY pl c0 c1 c2 x y z a), .int .i64 (tZ pl c0 c1 c2 x y z a)], .ce (.bool (tOk pl c0 c1 c2 x y z))], false, [], []⟩
    | _ => .fail
  | _, _ => .fail
def tabTurn : List (FuncId × HL.Spec) := [(102, SFl), (103, SSo), (49, SRot)]
noncomputable def CTurn : Ctx := ⟨Tryd.prog, gam tabTurn, Tryd.f79.ntmps, [], []⟩
theorem vcTurn (s0 s1 s2 s3 s4 s5 s6 s7 s8 s9 s10 s11 s12 s13 s14 s15 s16 s17 sy l0 l1 l2 h0 h1 h2 ln pl c0 c1 c2 an : Int) (tu : Bool) (x y z a : Int) (Q : Res → Prop) : (nfun true CTurn Tryd.f79 (bodyOf Tryd.f79) [.agg [.int .i64 s0, .int .i64 s1, .int .i64 s2, .int .i64 s3, .int .i64 s4, .int .i64 s5, .int .i64 s6, .int .i64 s7, .int .i64 s8, .int .i64 s9, .int .i64 s10, .int .i64 s11, .int .i64 s12, .int .i64 s13, .int .i64 s14, .int .i64 s15, .int .i64 s16, .int .i64 s17, .int .i64 sy, .int .i64 l0, .int .i64 l1, .int .i64 l2, .int .i64 h0, .int .i64 h1, .int .i64 h2, .int .i64 ln, .bool tu, .int .i64 pl, .int .i64 c0, .int .i64 c1, .int .i64 c2, .int .i64 an], .agg [.int .i64 x, .int .i64 y, .int .i64 z], .ce (.int .i64 a)] [] Q) =
    (True ∧ ∀ (x1 : Int), x1 = fU pl x y z → ∀ (x2 : Int), x2 = fW pl x y z → ∀ (x3 : Int), x3 = fH pl x y z → ∀ (x4 : Bool), x4 = isPl pl → True ∧ ∀ (x5 : Int), x5 = fU pl c0 c1 c2 → ∀ (x6 : Int), x6 = fW pl c0 c1 c2 → ∀ (x7 : Int), x7 = fH pl c0 c1 c2 → ∀ (x8 : Bool), x8 = isPl pl → (-9223372036854775808 ≤ x1 - x5 ∧ x1 - x5 ≤ 9223372036854775807) ∧ ∀ (x9 : Int), x9 = x1 - x5 → (-9223372036854775808 ≤ x2 - x6 ∧ x2 - x6 ≤ 9223372036854775807) ∧ ∀ (x10 : Int), x10 = x2 - x6 → True ∧ ∀ (x11 : Int), x11 = rtU x9 x10 a → ∀ (x12 : Int), x12 = rtW x9 x10 a → ∀ (x13 : Bool), x13 = rtB x9 x10 → (-9223372036854775808 ≤ x11 + x5 ∧ x11 + x5 ≤ 9223372036854775807) ∧ ∀ (x14 : Int), x14 = x11 + x5 → (-9223372036854775808 ≤ x12 + x6 ∧ x12 + x6 ≤ 9223372036854775807) ∧ ∀ (x15 : Int), x15 = x12 + x6 → True ∧ ∀ (x16 : Int), x16 = sX pl x14 x15 x3 → ∀ (x17 : Int), x17 = sY pl x14 x15 x3 → ∀ (x18 : Int), x18 = sZ pl x14 x15 x3 →
    ∀ (x19 : Bool), x19 = isPl pl → (x4 = true → Q ⟨.tup [.agg [.int .i64 x16, .int .i64 x17, .int .i64 x18], .ce (.bool x13)], false, [], []⟩) ∧ (x4 = false → Q ⟨.tup [.agg [.int .i64 x16, .int .i64 x17, .int .i64 x18], .ce (.bool false)], false, [], []⟩)) := by kernel_rfl
def SRotn (hargs : List HV) (pars : List (List HC)) : SR :=
  match hargs, pars with
  | [.agg cs, .ce (.int .i64 g)], [] => match cs with
    | [.int .i64 s0, .int .i64 s1, .int .i64 s2, .int .i64 s3, .int .i64 s4, .int .i64 s5, .int .i64 s6, .int .i64 s7, .int .i64 s8, .int .i64 s9, .int .i64 s10, .int .i64 s11, .int .i64 s12, .int .i64 s13, .int .i64 s14, .int .i64 s15, .int .i64 s16, .int .i64 s17, .int .i64 sy, .int .i64 l0, .int .i64 l1, .int .i64 l2, .int .i64 h0, .int .i64 h1, .int .i64 h2, .int .i64 ln, .bool tu, .int .i64 pl, .int .i64 c0, .int .i64 c1, .int .i64 c2, .int .i64 an] => .det True ⟨.ce (.fnv 78 [([4, 4, 4, 4, 4, 4, 4, 4, 4, 4, 4, 4, 4, 4, 4, 4, 4, 4, 4, 4, 4, 4, 4, 4, 4, 4, 0, 4, 4, 4, 4, 4], [s0, s1, s2, s3, s4, s5, s6, s7, s8, s9, s10, s11, s12, s13, s14, s15, s16, s17, sy, l0, l1, l2, h0, h1, h2, ln, (cond tu 1 0), pl, c0, c1, c2, an]), ([4], [g])]), false, [], []⟩
    | _ => .fail
  | _, _ => .fail
noncomputable def CRotn : Ctx := ⟨Tryd.prog, gam [], Tryd.f57.ntmps, [], [5]⟩
theorem vcRotn (s0 s1 s2 s3 s4 s5 s6 s7 s8 s9 s10 s11 s12 s13 s14 s15 s16 s17 sy l0 l1 l2 h0 h1 h2 ln pl c0 c1 c2 an : Int) (tu : Bool) (g : Int) (Q : Res → Prop) : (nfun true CRotn Tryd.f57 (bodyOf Tryd.f57) [.agg [.int .i64 s0, .int .i64 s1, .int .i64 s2, .int .i64 s3, .int .i64 s4, .int .i64 s5, .int .i64 s6, .int .i64 s7, .int .i64 s8, .int .i64 s9, .int .i64 s10, .int .i64 s11, .int .i64 s12, .int .i64 s13, .int .i64 s14, .int .i64 s15, .int .i64 s16, .int .i64 s17, .int .i64 sy, .int .i64 l0, .int .i64 l1, .int .i64 l2, .int .i64 h0, .int .i64 h1, .int .i64 h2, .int .i64 ln, .bool tu, .int .i64 pl, .int .i64 c0, .int .i64 c1, .int .i64 c2, .int .i64 an], .ce (.int .i64 g)] [] Q) =
    (Q ⟨.ce (.fnv (78 : Nat) [([4, 4, 4, 4, 4, 4, 4, 4, 4, 4, 4, 4, 4, 4, 4, 4, 4, 4, 4, 4, 4, 4, 4, 4, 4, 4, 0, 4, 4, 4, 4, 4], [s0, s1, s2, s3, s4, s5, s6, s7, s8, s9, s10, s11, s12, s13, s14, s15, s16, s17, sy, l0, l1, l2, h0, h1, h2, ln, bif tu then (1 : Int) else (0 : Int), pl, c0, c1, c2, an]), ([4], [g])]), false, [], []⟩) := by kernel_rfl
def SRot1 (hargs : List HV) (pars : List (List HC)) : SR :=
  match hargs, pars with
  | [.agg [.int .i64 x, .int .i64 y, .int .i64 z], .ce (.el [4, 4, 4, 4, 4, 4, 4, 4, 4, 4, 4, 4, 4, 4, 4, 4, 4, 4, 4, 4, 4, 4, 4, 4, 4, 4, 0, 4, 4, 4, 4, 4] r 0), .ce (.el [4] g 0)], [] =>
      .det (okPr r ∧ (g.getD 0 0 = 1 ∨ g.getD 0 0 = -1) ∧ B3 1099511627776 x y z)
        ⟨.tup [.agg [.int .i64 (rotR r (g.getD 0 0) x y z).x, .int .i64 (rotR r (g.getD 0 0) x y z).y, .int .i64 (rotR r (g.getD 0 0) x y z).z], .ce (.bool (rotR r (g.getD 0 0) x y z).ok)], false, [], []⟩
  | _, _ => .fail
def tabRot1 : List (FuncId × HL.Spec) := [(79, STurn)]
noncomputable def CRot1 : Ctx := ⟨Tryd.prog, gam tabRot1, Tryd.f78.ntmps, [], []⟩
theorem vcRot1 (x y z : Int) (r g : List Int) (Q : Res → Prop) : (nfun true CRot1 Tryd.f78 (bodyOf Tryd.f78) [.agg [.int .i64 x, .int .i64 y, .int .i64 z], .ce (.el [4, 4, 4, 4, 4, 4, 4, 4, 4, 4, 4, 4, 4, 4, 4, 4, 4, 4, 4, 4, 4, 4, 4, 4, 4, 4, 0, 4, 4, 4, 4, 4] r 0), .ce (.el [4] g 0)] [] Q) =
    (((!List.getD r (26 : Nat) (0 : Int) != (0 : Int)) = true → Q ⟨.tup [.agg [.int .i64 x, .int .i64 y, .int .i64 z], .ce (.bool true)], false, [], []⟩) ∧ ((!List.getD r (26 : Nat) (0 : Int) != (0 : Int)) = false → ∀ (x1 : Int), x1 = List.getD g (0 : Nat) (0 : Int) → ∀ (x2 : Int), x2 = List.getD r (31 : Nat) (0 : Int) → (-9223372036854775808 ≤ x1 * x2 ∧ x1 * x2 ≤ 9223372036854775807) ∧ ∀ (x3 : Int), x3 = x1 * x2 → ((17 ≤ List.getD r (27 : Nat) (0 : Int) ∧ List.getD r (27 : Nat) (0 : Int) ≤ (19 : Int)) ∧ B3 (1073741824 : Int) (List.getD r (28 : Nat) (0 : Int)) (List.getD r (29 : Nat) (0 : Int)) (List.getD r (30 : Nat) (0 : Int)) ∧ B3 (1099511627776 : Int) x y z) ∧ ∀ (x4 : Int), x4 = tX (List.getD r (27 : Nat) (0 : Int)) (List.getD r (28 : Nat) (0 : Int)) (List.getD r (29 : Nat) (0 : Int)) (List.getD r (30 : Nat) (0 : Int)) x y z x3 → ∀ (x5 : Int), x5 = tY (List.getD r (27 : Nat) (0 : Int)) (List.getD r (28 : Nat) (0 : Int)) (List.getD r (29 : Nat) (0 : Int)) (List.getD r (30 : Nat) (0 : Int)) x y z x3 →
    ∀ (x6 : Int), x6 = tZ (List.getD r (27 : Nat) (0 : Int)) (List.getD r (28 : Nat) (0 : Int)) (List.getD r (29 : Nat) (0 : Int)) (List.getD r (30 : Nat) (0 : Int)) x y z x3 → ∀ (x7 : Bool), x7 = tOk (List.getD r (27 : Nat) (0 : Int)) (List.getD r (28 : Nat) (0 : Int)) (List.getD r (29 : Nat) (0 : Int)) (List.getD r (30 : Nat) (0 : Int)) x y z → Q ⟨.tup [.agg [.int .i64 x4, .int .i64 x5, .int .i64 x6], .ce (.bool x7)], false, [], []⟩)) := by kernel_rfl
def STo1 (hargs : List HV) (pars : List (List HC)) : SR :=
  match hargs, pars with
  | [.agg [.int .i64 x, .int .i64 y, .int .i64 z], .ce (.el [4, 4, 4, 4, 4, 4, 4, 4, 4, 4, 4, 4, 4, 4, 4, 4, 4, 4, 4, 4, 4, 4, 4, 4, 4, 4, 0, 4, 4, 4, 4, 4] r 0)], [] =>
      .det (okOr r ∧ B3 1099511627776 x y z) ⟨.tup [.agg [.int .i64 (x + orR0 r), .int .i64 (y + orR1 r), .int .i64 (z + orR2 r)], .ce (.bool true)], false, [], []⟩
  | _, _ => .fail
def tabTo1 : List (FuncId × HL.Spec) := [(22, SOrg), (55, SAd)]
noncomputable def CTo1 : Ctx := ⟨Tryd.prog, gam tabTo1, Tryd.f54.ntmps, [], []⟩
theorem vcTo1 (x y z : Int) (r : List Int) (Q : Res → Prop) : (nfun true CTo1 Tryd.f54 (bodyOf Tryd.f54) [.agg [.int .i64 x, .int .i64 y, .int .i64 z], .ce (.el [4, 4, 4, 4, 4, 4, 4, 4, 4, 4, 4, 4, 4, 4, 4, 4, 4, 4, 4, 4, 4, 4, 4, 4, 4, 4, 0, 4, 4, 4, 4, 4] r 0)] [] Q) =
    (((54 ≤ List.getD r (18 : Nat) (0 : Int) ∧ List.getD r (18 : Nat) (0 : Int) ≤ (59 : Int)) ∧ (B3 (1073741824 : Int) (List.getD r (0 : Nat) (0 : Int)) (List.getD r (1 : Nat) (0 : Int)) (List.getD r (2 : Nat) (0 : Int)) ∧ B3 (1073741824 : Int) (List.getD r (3 : Nat) (0 : Int)) (List.getD r (4 : Nat) (0 : Int)) (List.getD r (5 : Nat) (0 : Int)) ∧ B3 (1073741824 : Int) (List.getD r (6 : Nat) (0 : Int)) (List.getD r (7 : Nat) (0 : Int)) (List.getD r (8 : Nat) (0 : Int)) ∧ B3 (1073741824 : Int) (List.getD r (9 : Nat) (0 : Int)) (List.getD r (10 : Nat) (0 : Int)) (List.getD r (11 : Nat) (0 : Int)) ∧ B3 (1073741824 : Int) (List.getD r (12 : Nat) (0 : Int)) (List.getD r (13 : Nat) (0 : Int)) (List.getD r (14 : Nat) (0 : Int)) ∧ B3 (1073741824 : Int) (List.getD r (15 : Nat) (0 : Int)) (List.getD r (16 : Nat) (0 : Int)) (List.getD r (17 : Nat) (0 : Int))) ∧ B3 (1073741824 : Int) (List.getD r (19 : Nat) (0 : Int)) (List.getD r (20 : Nat) (0 : Int)) (List.getD r (21 : Nat) (0 : Int)) ∧
    B3 (1073741824 : Int) (List.getD r (22 : Nat) (0 : Int)) (List.getD r (23 : Nat) (0 : Int)) (List.getD r (24 : Nat) (0 : Int)) ∧ (-1073741824 : Int) ≤ List.getD r (25 : Nat) (0 : Int) ∧ List.getD r (25 : Nat) (0 : Int) ≤ (1073741824 : Int)) ∧ ∀ (x1 : Int), x1 = pk6 (List.getD r (18 : Nat) (0 : Int)) (List.getD r (0 : Nat) (0 : Int)) (List.getD r (3 : Nat) (0 : Int)) (List.getD r (6 : Nat) (0 : Int)) (List.getD r (9 : Nat) (0 : Int)) (List.getD r (12 : Nat) (0 : Int)) (List.getD r (15 : Nat) (0 : Int)) + List.getD r (19 : Nat) (0 : Int) + List.getD r (22 : Nat) (0 : Int) → ∀ (x2 : Int), x2 = pk6 (List.getD r (18 : Nat) (0 : Int)) (List.getD r (1 : Nat) (0 : Int)) (List.getD r (4 : Nat) (0 : Int)) (List.getD r (7 : Nat) (0 : Int)) (List.getD r (10 : Nat) (0 : Int)) (List.getD r (13 : Nat) (0 : Int)) (List.getD r (16 : Nat) (0 : Int)) + List.getD r (20 : Nat) (0 : Int) + List.getD r (23 : Nat) (0 : Int) →
    ∀ (x3 : Int), x3 = pk6 (List.getD r (18 : Nat) (0 : Int)) (List.getD r (2 : Nat) (0 : Int)) (List.getD r (5 : Nat) (0 : Int)) (List.getD r (8 : Nat) (0 : Int)) (List.getD r (11 : Nat) (0 : Int)) (List.getD r (14 : Nat) (0 : Int)) (List.getD r (17 : Nat) (0 : Int)) + List.getD r (21 : Nat) (0 : Int) + List.getD r (24 : Nat) (0 : Int) + List.getD r (25 : Nat) (0 : Int) → (B3 (1152921504606846976 : Int) x y z ∧ B3 (1152921504606846976 : Int) x1 x2 x3) ∧ ∀ (x4 : Int), x4 = x + x1 → ∀ (x5 : Int), x5 = y + x2 → ∀ (x6 : Int), x6 = z + x3 → Q ⟨.tup [.agg [.int .i64 x4, .int .i64 x5, .int .i64 x6], .ce (.bool true)], false, [], []⟩) := by kernel_rfl
def SFr1 (hargs : List HV) (pars : List (List HC)) : SR :=
  match hargs, pars with
  | [.agg [.int .i64 x, .int .i64 y, .int .i64 z], .ce (.el [4, 4, 4, 4, 4, 4, 4, 4, 4, 4, 4, 4, 4, 4, 4, 4, 4, 4, 4, 4, 4, 4, 4, 4, 4, 4, 0, 4, 4, 4, 4, 4] r 0)], [] =>
      .det (okOr r ∧ B3 1099511627776 x y z) ⟨.tup [.agg [.int .i64 (x - orR0 r), .int .i64 (y - orR1 r), .int .i64 (z - orR2 r)], .ce (.bool true)], false, [], []⟩
  | _, _ => .fail
def tabFr1 : List (FuncId × HL.Spec) := [(22, SOrg), (65, SSb)]
noncomputable def CFr1 : Ctx := ⟨Tryd.prog, gam tabFr1, Tryd.f64.ntmps, [], []⟩
theorem vcFr1 (x y z : Int) (r : List Int) (Q : Res → Prop) : (nfun true CFr1 Tryd.f64 (bodyOf Tryd.f64) [.agg [.int .i64 x, .int .i64 y, .int .i64 z], .ce (.el [4, 4, 4, 4, 4, 4, 4, 4, 4, 4, 4, 4, 4, 4, 4, 4, 4, 4, 4, 4, 4, 4, 4, 4, 4, 4, 0, 4, 4, 4, 4, 4] r 0)] [] Q) =
    (((54 ≤ List.getD r (18 : Nat) (0 : Int) ∧ List.getD r (18 : Nat) (0 : Int) ≤ (59 : Int)) ∧ (B3 (1073741824 : Int) (List.getD r (0 : Nat) (0 : Int)) (List.getD r (1 : Nat) (0 : Int)) (List.getD r (2 : Nat) (0 : Int)) ∧ B3 (1073741824 : Int) (List.getD r (3 : Nat) (0 : Int)) (List.getD r (4 : Nat) (0 : Int)) (List.getD r (5 : Nat) (0 : Int)) ∧ B3 (1073741824 : Int) (List.getD r (6 : Nat) (0 : Int)) (List.getD r (7 : Nat) (0 : Int)) (List.getD r (8 : Nat) (0 : Int)) ∧ B3 (1073741824 : Int) (List.getD r (9 : Nat) (0 : Int)) (List.getD r (10 : Nat) (0 : Int)) (List.getD r (11 : Nat) (0 : Int)) ∧ B3 (1073741824 : Int) (List.getD r (12 : Nat) (0 : Int)) (List.getD r (13 : Nat) (0 : Int)) (List.getD r (14 : Nat) (0 : Int)) ∧ B3 (1073741824 : Int) (List.getD r (15 : Nat) (0 : Int)) (List.getD r (16 : Nat) (0 : Int)) (List.getD r (17 : Nat) (0 : Int))) ∧ B3 (1073741824 : Int) (List.getD r (19 : Nat) (0 : Int)) (List.getD r (20 : Nat) (0 : Int)) (List.getD r (21 : Nat) (0 : Int)) ∧
    B3 (1073741824 : Int) (List.getD r (22 : Nat) (0 : Int)) (List.getD r (23 : Nat) (0 : Int)) (List.getD r (24 : Nat) (0 : Int)) ∧ (-1073741824 : Int) ≤ List.getD r (25 : Nat) (0 : Int) ∧ List.getD r (25 : Nat) (0 : Int) ≤ (1073741824 : Int)) ∧ ∀ (x1 : Int), x1 = pk6 (List.getD r (18 : Nat) (0 : Int)) (List.getD r (0 : Nat) (0 : Int)) (List.getD r (3 : Nat) (0 : Int)) (List.getD r (6 : Nat) (0 : Int)) (List.getD r (9 : Nat) (0 : Int)) (List.getD r (12 : Nat) (0 : Int)) (List.getD r (15 : Nat) (0 : Int)) + List.getD r (19 : Nat) (0 : Int) + List.getD r (22 : Nat) (0 : Int) → ∀ (x2 : Int), x2 = pk6 (List.getD r (18 : Nat) (0 : Int)) (List.getD r (1 : Nat) (0 : Int)) (List.getD r (4 : Nat) (0 : Int)) (List.getD r (7 : Nat) (0 : Int)) (List.getD r (10 : Nat) (0 : Int)) (List.getD r (13 : Nat) (0 : Int)) (List.getD r (16 : Nat) (0 : Int)) + List.getD r (20 : Nat) (0 : Int) + List.getD r (23 : Nat) (0 : Int) →
    ∀ (x3 : Int), x3 = pk6 (List.getD r (18 : Nat) (0 : Int)) (List.getD r (2 : Nat) (0 : Int)) (List.getD r (5 : Nat) (0 : Int)) (List.getD r (8 : Nat) (0 : Int)) (List.getD r (11 : Nat) (0 : Int)) (List.getD r (14 : Nat) (0 : Int)) (List.getD r (17 : Nat) (0 : Int)) + List.getD r (21 : Nat) (0 : Int) + List.getD r (24 : Nat) (0 : Int) + List.getD r (25 : Nat) (0 : Int) → (B3 (1152921504606846976 : Int) x y z ∧ B3 (1152921504606846976 : Int) x1 x2 x3) ∧ ∀ (x4 : Int), x4 = x - x1 → ∀ (x5 : Int), x5 = y - x2 → ∀ (x6 : Int), x6 = z - x3 → Q ⟨.tup [.agg [.int .i64 x4, .int .i64 x5, .int .i64 x6], .ce (.bool true)], false, [], []⟩) := by kernel_rfl
end Go.Proofs.YtgnknciihdajiaaDoor
namespace U
theorem nr_bd {n : Int} (h : -36028797018963968 ≤ n ∧ n ≤ 36028797018963968) : -33554432 ≤ nr n ∧ nr n ≤ 33554433 := by unfold nr; omega
theorem rt_bd (x y a : Int) : (-33554432 ≤ rtU x y a ∧ rtU x y a ≤ 33554433) ∧ (-33554432 ≤ rtW x y a ∧ rtW x y a ≤ 33554433) := by
  unfold rtU rtW
  by_cases h : rtB x y = true
  · rw [if_pos h, if_pos h]
    unfold rtB at h
    have h := of_decide_eq_true h
    have b := sc_bd a
    have m1 := mul_sc (x := x) (c := scC a) (by omega) (by omega)
    have m2 := mul_sc (x := y) (c := scS a) (by omega) (by omega)
    have m3 := mul_sc (x := x) (c := scS a) (by omega) (by omega)
    have m4 := mul_sc (x := y) (c := scC a) (by omega) (by omega)
    exact ⟨nr_bd (by omega), nr_bd (by omega)⟩
  · rw [if_neg h, if_neg h]; decide
theorem sel3_bd {B p a b c : Int} (hB : 0 ≤ B) (ha : -B ≤ a ∧ a ≤ B) (hb : -B ≤ b ∧ b ≤ B) (hc : -B ≤ c ∧ c ≤ B) : -B ≤ sel3 p a b c ∧ sel3 p a b c ≤ B := by
  unfold sel3
  split
  · exact ha
  · split
    · exact hb
    · split
      · exact hc
      · omega
theorem isPl_yes {p : Int} (h : 17 ≤ p ∧ p ≤ 19) : isPl p = true := by
  have : p = 17 ∨ p = 18 ∨ p = 19 := by omega
  rcases this with rfl | rfl | rfl <;> rfl
theorem flat_bd {B p x y z : Int} (hB : 0 ≤ B) (h : B3 B x y z) : (-B ≤ fU p x y z ∧ fU p x y z ≤ B) ∧ (-B ≤ fW p x y z ∧ fW p x y z ≤ B) ∧ (-B ≤ fH p x y z ∧ fH p x y z ≤ B) :=
  ⟨sel3_bd hB h.1 h.2.2 h.2.1, sel3_bd hB h.2.1 h.1 h.2.2, sel3_bd hB h.2.2 h.2.1 h.1⟩
theorem t_bd {p c0 c1 c2 x y z : Int} (a : Int) (hc : B3 1073741824 c0 c1 c2) (h : B3 1099511627776 x y z) : B3 1099511627776 (tX p c0 c1 c2 x y z a) (tY p c0 c1 c2 x y z a) (tZ p c0 c1 c2 x y z a) := by
  have f := flat_bd (p := p) (by decide) h
  have g := flat_bd (p := p) (by decide) hc
  have r := rt_bd (fU p x y z - fU p c0 c1 c2) (fW p x y z - fW p c0 c1 c2) a
  have hA : -1099511627776 ≤ tA p c0 c1 c2 x y z a ∧ tA p c0 c1 c2 x y z a ≤ 1099511627776 := by unfold tA; omega
  have hBt : -1099511627776 ≤ tB p c0 c1 c2 x y z a ∧ tB p c0 c1 c2 x y z a ≤ 1099511627776 := by unfold tB; omega
  exact ⟨sel3_bd (by decide) hA hBt f.2.2, sel3_bd (by decide) hBt f.2.2 hA, sel3_bd (by decide) f.2.2 hA hBt⟩
theorem rotF_bd {tu : Bool} {p c0 c1 c2 x y z : Int} (a : Int) (hc : B3 1073741824 c0 c1 c2) (h : B3 1099511627776 x y z) : B3 1099511627776 (rotF tu p c0 c1 c2 x y z a).x (rotF tu p c0 c1 c2 x y z a).y (rotF tu p c0 c1 c2 x y z a).z := by
  cases tu
  · exact h
  · exact t_bd a hc h
end U
namespace Go.Proofs.YtgnknciihdajiaaDoor
open Go Go.HL U
attribute [local irreducible] hfun bodyT fragT
set_option maxHeartbeats 400000 in
set_option maxRecDepth 100000 in
theorem sTurn : Sound Tryd.prog 79 STurn := by
  refine sound_of (C := CTurn) tabTurn Tryd.func79 (by kernel_rfl) (by decide +kernel) (by kernel_rfl) rfl ⟨sFl, sSo, sRot, trivial⟩ (loops0 (by kernel_rfl)) ?_
  intro hargs pars R h
  unfold STurn at h
  split at h
  case h_2 => exfalso; exact h
  rename_i cs x y z a
  split at h
  case h_2 => exact h.elim
  rename_i s0 s1 s2 s3 s4 s5 s6 s7 s8 s9 s10 s11 s12 s13 s14 s15 s16 s17 sy l0 l1 l2 h0 h1 h2 ln tu pl c0 c1 c2 an
  obtain ⟨⟨hp, hc, hx⟩, hq⟩ := h
  have f := flat_bd (p := pl) (by decide) hx
  have g := flat_bd (p := pl) (by decide) hc
  have r := rt_bd (fU pl x y z - fU pl c0 c1 c2) (fW pl x y z - fW pl c0 c1 c2) a
  have ip := isPl_yes hp
  refine byVC (vcTurn s0 s1 s2 s3 s4 s5 s6 s7 s8 s9 s10 s11 s12 s13 s14 s15 s16 s17 sy l0 l1 l2 h0 h1 h2 ln pl c0 c1 c2 an tu x y z a R) ⟨trivial, fun x1 e1 x2 e2 x3 e3 x4 e4 => ⟨trivial, fun x5 e5 x6 e6 x7 e7 x8 e8 => ⟨by omega, fun x9 e9 => ⟨by omega, fun x10 e10 => ⟨trivial, fun x11 e11 x12 e12 x13 e13 => ?_⟩⟩⟩⟩⟩
  rw [e10, e9, e1, e2, e5, e6] at e11 e12 e13
  refine ⟨by omega, fun x14 e14 => ⟨by omega, fun x15 e15 => ⟨trivial, fun x16 e16 x17 e17 x18 e18 x19 e19 => ⟨fun _ => ?_, fun g => ?_⟩⟩⟩⟩
  · have h14 : x14 = tA pl c0 c1 c2 x y z a := by rw [e14, e11, e5]; rfl
    have h15 : x15 = tB pl c0 c1 c2 x y z a := by rw [e15, e12, e6]; rfl
    rw [e16, e17, e18, e13, h14, h15, e3]
    exact hq
  · rw [e4, ip] at g; cases g
set_option maxHeartbeats 400000 in
set_option maxRecDepth 100000 in
theorem sRotn : Sound Tryd.prog 57 SRotn := by
  refine sound_of (C := CRotn) [] Tryd.func57 (by kernel_rfl) (by decide +kernel) (by kernel_rfl) rfl trivial (loops0 (by kernel_rfl)) ?_
  intro hargs pars R h
  unfold SRotn at h
  split at h
  case h_2 => exfalso; exact h
  rename_i cs g
  split at h
  case h_2 => exact h.elim
  rename_i s0 s1 s2 s3 s4 s5 s6 s7 s8 s9 s10 s11 s12 s13 s14 s15 s16 s17 sy l0 l1 l2 h0 h1 h2 ln tu pl c0 c1 c2 an
  exact byVC (vcRotn s0 s1 s2 s3 s4 s5 s6 s7 s8 s9 s10 s11 s12 s13 s14 s15 s16 s17 sy l0 l1 l2 h0 h1 h2 ln pl c0 c1 c2 an tu g R) h.2
set_option maxHeartbeats 400000 in
set_option maxRecDepth 100000 in
theorem sRot1 : Sound Tryd.prog 78 SRot1 := by
  refine sound_of (C := CRot1) tabRot1 Tryd.func78 (by kernel_rfl) (by decide +kernel) (by kernel_rfl) rfl ⟨sTurn, trivial⟩ (loops0 (by kernel_rfl)) ?_
  intro hargs pars R h
  unfold SRot1 at h
  split at h
  case h_2 => exfalso; exact h
  rename_i x y z r g
  obtain ⟨⟨⟨hp, hc⟩, hg, hx⟩, hq⟩ := h
  refine byVC (vcRot1 x y z r g R) ⟨fun t => ?_, fun t => ?_⟩
  · have t : (r.getD 26 0 != 0) = false := by simpa using t
    unfold rotR rotF at hq
    rw [t] at hq
    exact hq
  · have t : (r.getD 26 0 != 0) = true := by simpa using t
    have ha := hp.2
    have m : ∀ u : Int, u = 1 ∨ u = -1 → (-9223372036854775808 ≤ u * r.getD 31 0 ∧ u * r.getD 31 0 ≤ 9223372036854775807) := fun u hu => by
      rcases hu with rfl | rfl <;> omega
    refine fun x1 e1 x2 e2 => ⟨by rw [e1, e2]; exact m _ hg, fun x3 e3 => ⟨⟨hp.1 t, hc, hx⟩, fun x4 e4 x5 e5 x6 e6 x7 e7 => ?_⟩⟩
    unfold rotR rotF at hq
    rw [t] at hq
    rw [e4, e5, e6, e7, e3, e1, e2]
    exact hq
theorem or_bd {r : List Int} (h : okOr r) : (-4294967296 ≤ orR0 r ∧ orR0 r ≤ 4294967296) ∧ (-4294967296 ≤ orR1 r ∧ orR1 r ≤ 4294967296) ∧ (-4294967296 ≤ orR2 r ∧ orR2 r ≤ 4294967296) := by
  obtain ⟨hs, ⟨⟨a0, a1, a2⟩, ⟨a3, a4, a5⟩, ⟨a6, a7, a8⟩, ⟨a9, a10, a11⟩, ⟨a12, a13, a14⟩, ⟨a15, a16, a17⟩⟩, ⟨b0, b1, b2⟩, ⟨d0, d1, d2⟩, hln⟩ := h
  have p : ∀ {s a b c d e f : Int}, (-1073741824 ≤ a ∧ a ≤ 1073741824) → (-1073741824 ≤ b ∧ b ≤ 1073741824) → (-1073741824 ≤ c ∧ c ≤ 1073741824) → (-1073741824 ≤ d ∧ d ≤ 1073741824) → (-1073741824 ≤ e ∧ e ≤ 1073741824) → (-1073741824 ≤ f ∧ f ≤ 1073741824) →
      -1073741824 ≤ pk6 s a b c d e f ∧ pk6 s a b c d e f ≤ 1073741824 := fun {s a b c d e f} ha hb hc hd he hf => by
    unfold pk6
    repeat' split
    all_goals assumption
  have q0 := p (s := r.getD 18 0) a0 a3 a6 a9 a12 a15
  have q1 := p (s := r.getD 18 0) a1 a4 a7 a10 a13 a16
  have q2 := p (s := r.getD 18 0) a2 a5 a8 a11 a14 a17
  unfold orR0 orR1 orR2 orX orZ
  omega
set_option maxHeartbeats 400000 in
set_option maxRecDepth 100000 in
theorem sTo1 : Sound Tryd.prog 54 STo1 := by
  refine sound_of (C := CTo1) tabTo1 Tryd.func54 (by kernel_rfl) (by decide +kernel) (by kernel_rfl) rfl ⟨sOrg, sAd, trivial⟩ (loops0 (by kernel_rfl)) ?_
  intro hargs pars R h
  unfold STo1 at h
  split at h
  case h_2 => exfalso; exact h
  rename_i x y z r
  obtain ⟨⟨ho, hx⟩, hq⟩ := h
  have b := or_bd ho
  refine byVC (vcTo1 x y z r R) ⟨ho, fun x1 e1 x2 e2 x3 e3 => ?_⟩
  have e1 : x1 = orR0 r := e1
  have e2 : x2 = orR1 r := e2
  have e3 : x3 = orR2 r := e3
  obtain ⟨h1, h2, h3⟩ := hx
  refine ⟨⟨⟨by omega, by omega, by omega⟩, by omega, by omega, by omega⟩, fun x4 e4 x5 e5 x6 e6 => ?_⟩
  rw [e4, e5, e6, e1, e2, e3]; exact hq
set_option maxHeartbeats 400000 in
set_option maxRecDepth 100000 in
theorem sFr1 : Sound Tryd.prog 64 SFr1 := by
  refine sound_of (C := CFr1) tabFr1 Tryd.func64 (by kernel_rfl) (by decide +kernel) (by kernel_rfl) rfl ⟨sOrg, sSb, trivial⟩ (loops0 (by kernel_rfl)) ?_
  intro hargs pars R h
  unfold SFr1 at h
  split at h
  case h_2 => exfalso; exact h
  rename_i x y z r
  obtain ⟨⟨ho, hx⟩, hq⟩ := h
  have b := or_bd ho
  refine byVC (vcFr1 x y z r R) ⟨ho, fun x1 e1 x2 e2 x3 e3 => ?_⟩
  have e1 : x1 = orR0 r := e1
  have e2 : x2 = orR1 r := e2
  have e3 : x3 = orR2 r := e3
  obtain ⟨h1, h2, h3⟩ := hx
  refine ⟨⟨⟨by omega, by omega, by omega⟩, by omega, by omega, by omega⟩, fun x4 e4 x5 e5 x6 e6 => ?_⟩
  rw [e4, e5, e6, e1, e2, e3]; exact hq
end Go.Proofs.YtgnknciihdajiaaDoor
namespace U
open Go Go.HL
def toR (r r2 : List Int) (g x y z : Int) : MapS := toF (r.getD 26 0 != 0) (r.getD 27 0) (r.getD 28 0) (r.getD 29 0) (r.getD 30 0) (g * r.getD 31 0) (orR0 r2) (orR1 r2) (orR2 r2) x y z
def fromR (r r2 : List Int) (g x y z : Int) : MapS := fromF (r.getD 26 0 != 0) (r.getD 27 0) (r.getD 28 0) (r.getD 29 0) (r.getD 30 0) (-(g * r.getD 31 0)) (orR0 r2) (orR1 r2) (orR2 r2) x y z
end U
namespace Go.Proofs.YtgnknciihdajiaaDoor
open Go Go.HL U
def frK : List Nat := [4, 4, 4, 4, 4, 4, 4, 4, 4, 4, 4, 4, 4, 4, 4, 4, 4, 4, 4, 4, 4, 4, 4, 4, 4, 4, 0, 4, 4, 4, 4, 4]
def SMapd (hargs : List HV) (pars : List (List HC)) : SR :=
  match hargs, pars with
  | [.agg [.int .i64 x, .int .i64 y, .int .i64 z], .ce (.fsl l)], [] => match l with
    | [(f1, [(k1, r), (k2, [g])]), (f2, [(k3, r2)])] =>
      bif Nat.beq f1 78 && (Nat.beq f2 54 && (ksEq k1 frK && (ksEq k2 [4] && ksEq k3 frK))) then
      .all (okPr r ∧ okOr r2 ∧ g = 1) MapS (fun m => m = toR r r2 g x y z) (fun m => ⟨.tup [.agg [.int .i64 m.x, .int .i64 m.y, .int .i64 m.z], .ce (.int .i64 m.e)], false, [], []⟩) else .fail
    | [(f2, [(k3, r2)]), (f1, [(k1, r), (k2, [g])])] =>
      bif Nat.beq f1 78 && (Nat.beq f2 64 && (ksEq k1 frK && (ksEq k2 [4] && ksEq k3 frK))) then
      .all (okPr r ∧ okOr r2 ∧ g = -1) MapS (fun m => m = fromR r r2 g x y z) (fun m => ⟨.tup [.agg [.int .i64 m.x, .int .i64 m.y, .int .i64 m.z], .ce (.int .i64 m.e)], false, [], []⟩) else .fail
    | _ => .fail
  | _, _ => .fail
def unrT (b : List Nat) : LAnn := ⟨[], [4], b, true⟩
def tabMapd : List (FuncId × HL.Spec) := [(44, SWn), (78, SRot1), (54, STo1), (64, SFr1)]
noncomputable def CMapd : Ctx := ⟨Tryd.prog, gam tabMapd, Tryd.f56.ntmps, [(4000004, unrT [1000002, 1000004], fun _ => .fail)], []⟩
theorem vcMapT (x y z g : Int) (r r2 : List Int) (Q : Res → Prop) : (nfun true CMapd Tryd.f56 (bodyOf Tryd.f56) [.agg [.int .i64 x, .int .i64 y, .int .i64 z], .ce (.fsl [(78, [([4, 4, 4, 4, 4, 4, 4, 4, 4, 4, 4, 4, 4, 4, 4, 4, 4, 4, 4, 4, 4, 4, 4, 4, 4, 4, 0, 4, 4, 4, 4, 4], r), ([4], [g])]), (54, [([4, 4, 4, 4, 4, 4, 4, 4, 4, 4, 4, 4, 4, 4, 4, 4, 4, 4, 4, 4, 4, 4, 4, 4, 4, 4, 0, 4, 4, 4, 4, 4], r2)])])] [] Q) =
    (True ∧ ∀ (x1 : Bool), x1 = wn x y z → ((!x1) = true → Q ⟨.tup [.agg [.int .i64 0, .int .i64 0, .int .i64 0], .ce (.int .i64 3)], false, [], []⟩) ∧ ((!x1) = false → ((0 : Int) ≤ (0 : Int) ∧ (0 : Int) < (((2 : Nat) : Nat) : Int)) ∧ (okPr r ∧ (g = 1 ∨ g = (-1 : Int)) ∧ B3 (1099511627776 : Int) x y z) ∧ ∀ (x2 : Int), x2 = (rotR r g x y z).x → ∀ (x3 : Int), x3 = (rotR r g x y z).y → ∀ (x4 : Int), x4 = (rotR r g x y z).z → ∀ (x5 : Bool), x5 = (rotR r g x y z).ok → ((!x5) = true → Q ⟨.tup [.agg [.int .i64 0, .int .i64 0, .int .i64 0], .ce (.int .i64 3)], false, [], []⟩) ∧ ((!x5) = false → ((0 : Int) ≤ (1 : Int) ∧ (1 : Int) < (((2 : Nat) : Nat) : Int)) ∧ (okOr r2 ∧ B3 (1099511627776 : Int) x2 x3 x4) ∧ ∀ (x6 : Int), x6 = x2 + orR0 r2 → ∀ (x7 : Int), x7 = x3 + orR1 r2 → ∀ (x8 : Int), x8 = x4 + orR2 r2 → ∀ (x9 : Bool), x9 = true → ((!x9) = true → Q ⟨.tup [.agg [.int .i64 0, .int .i64 0, .int .i64 0], .ce (.int .i64 3)], false, [], []⟩) ∧
    ((!x9) = false → True ∧ ∀ (x10 : Bool), x10 = wn x6 x7 x8 → ((!x10) = true → Q ⟨.tup [.agg [.int .i64 0, .int .i64 0, .int .i64 0], .ce (.int .i64 3)], false, [], []⟩) ∧ ((!x10) = false → Q ⟨.tup [.agg [.int .i64 x6, .int .i64 x7, .int .i64 x8], .ce (.int .i64 0)], false, [], []⟩))))) := by kernel_rfl
theorem vcMapF (x y z g : Int) (r r2 : List Int) (Q : Res → Prop) : (nfun true CMapd Tryd.f56 (bodyOf Tryd.f56) [.agg [.int .i64 x, .int .i64 y, .int .i64 z], .ce (.fsl [(64, [([4, 4, 4, 4, 4, 4, 4, 4, 4, 4, 4, 4, 4, 4, 4, 4, 4, 4, 4, 4, 4, 4, 4, 4, 4, 4, 0, 4, 4, 4, 4, 4], r2)]), (78, [([4, 4, 4, 4, 4, 4, 4, 4, 4, 4, 4, 4, 4, 4, 4, 4, 4, 4, 4, 4, 4, 4, 4, 4, 4, 4, 0, 4, 4, 4, 4, 4], r), ([4], [g])])])] [] Q) =
    (True ∧ ∀ (x1 : Bool), x1 = wn x y z → ((!x1) = true → Q ⟨.tup [.agg [.int .i64 0, .int .i64 0, .int .i64 0], .ce (.int .i64 3)], false, [], []⟩) ∧ ((!x1) = false → ((0 : Int) ≤ (0 : Int) ∧ (0 : Int) < (((2 : Nat) : Nat) : Int)) ∧ (okOr r2 ∧ B3 (1099511627776 : Int) x y z) ∧ ∀ (x2 : Int), x2 = x - orR0 r2 → ∀ (x3 : Int), x3 = y - orR1 r2 → ∀ (x4 : Int), x4 = z - orR2 r2 → ∀ (x5 : Bool), x5 = true → ((!x5) = true → Q ⟨.tup [.agg [.int .i64 0, .int .i64 0, .int .i64 0], .ce (.int .i64 3)], false, [], []⟩) ∧ ((!x5) = false → ((0 : Int) ≤ (1 : Int) ∧ (1 : Int) < (((2 : Nat) : Nat) : Int)) ∧ (okPr r ∧ (g = 1 ∨ g = (-1 : Int)) ∧ B3 (1099511627776 : Int) x2 x3 x4) ∧ ∀ (x6 : Int), x6 = (rotR r g x2 x3 x4).x → ∀ (x7 : Int), x7 = (rotR r g x2 x3 x4).y → ∀ (x8 : Int), x8 = (rotR r g x2 x3 x4).z → ∀ (x9 : Bool), x9 = (rotR r g x2 x3 x4).ok → ((!x9) = true → Q ⟨.tup [.agg [.int .i64 0, .int .i64 0, .int .i64 0], .ce (.int .i64 3)], false, [], []⟩) ∧
    ((!x9) = false → True ∧ ∀ (x10 : Bool), x10 = wn x6 x7 x8 → ((!x10) = true → Q ⟨.tup [.agg [.int .i64 0, .int .i64 0, .int .i64 0], .ce (.int .i64 3)], false, [], []⟩) ∧ ((!x10) = false → Q ⟨.tup [.agg [.int .i64 x6, .int .i64 x7, .int .i64 x8], .ce (.int .i64 0)], false, [], []⟩))))) := by kernel_rfl
def STo (hargs : List HV) (pars : List (List HC)) : SR :=
  match hargs, pars with
  | [.agg cs, .agg [.int .i64 x, .int .i64 y, .int .i64 z]], [] => match cs with
    | [.int .i64 s0, .int .i64 s1, .int .i64 s2, .int .i64 s3, .int .i64 s4, .int .i64 s5, .int .i64 s6, .int .i64 s7, .int .i64 s8, .int .i64 s9, .int .i64 s10, .int .i64 s11, .int .i64 s12, .int .i64 s13, .int .i64 s14, .int .i64 s15, .int .i64 s16, .int .i64 s17, .int .i64 sy, .int .i64 l0, .int .i64 l1, .int .i64 l2, .int .i64 h0, .int .i64 h1, .int .i64 h2, .int .i64 ln, .bool tu, .int .i64 pl, .int .i64 c0, .int .i64 c1, .int .i64 c2, .int .i64 an] => .all (okO sy s0 s1 s2 s3 s4 s5 s6 s7 s8 s9 s10 s11 s12 s13 s14 s15 s16 s17 l0 l1 l2 h0 h1 h2 ln ∧ okP tu pl an ∧ B3 1073741824 c0 c1 c2) MapS
        (fun m => m = toF tu pl c0 c1 c2 an (orX sy s0 s3 s6 s9 s12 s15 l0 h0) (orX sy s1 s4 s7 s10 s13 s16 l1 h1) (orZ sy s2 s5 s8 s11 s14 s17 l2 h2 ln) x y z)
        (fun m => ⟨.tup [.agg [.int .i64 m.x, .int .i64 m.y, .int .i64 m.z], .ce (.int .i64 m.e)], false, [], []⟩)
    | _ => .fail
  | _, _ => .fail
def SFrom (hargs : List HV) (pars : List (List HC)) : SR :=
  match hargs, pars with
  | [.agg cs, .agg [.int .i64 x, .int .i64 y, .int .i64 z]], [] => match cs with
    | [.int .i64 s0, .int .i64 s1, .int .i64 s2, .int .i64 s3, .int .i64 s4, .int .i64 s5, .int .i64 s6, .int .i64 s7, .int .i64 s8, .int .i64 s9, .int .i64 s10, .int .i64 s11, .int .i64 s12, .int .i64 s13, .int .i64 s14, .int .i64 s15, .int .i64 s16, .int .i64 s17, .int .i64 sy, .int .i64 l0, .int .i64 l1, .int .i64 l2, .int .i64 h0, .int .i64 h1, .int .i64 h2, .int .i64 ln, .bool tu, .int .i64 pl, .int .i64 c0, .int .i64 c1, .int .i64 c2, .int .i64 an] => .all (okO sy s0 s1 s2 s3 s4 s5 s6 s7 s8 s9 s10 s11 s12 s13 s14 s15 s16 s17 l0 l1 l2 h0 h1 h2 ln ∧ okP tu pl an ∧ B3 1073741824 c0 c1 c2) MapS
        (fun m => m = fromF tu pl c0 c1 c2 an (orX sy s0 s3 s6 s9 s12 s15 l0 h0) (orX sy s1 s4 s7 s10 s13 s16 l1 h1) (orZ sy s2 s5 s8 s11 s14 s17 l2 h2 ln) x y z)
        (fun m => ⟨.tup [.agg [.int .i64 m.x, .int .i64 m.y, .int .i64 m.z], .ce (.int .i64 m.e)], false, [], []⟩)
    | _ => .fail
  | _, _ => .fail
def tabTo : List (FuncId × HL.Spec) := [(57, SRotn), (56, SMapd)]
noncomputable def CTo : Ctx := ⟨Tryd.prog, gam tabTo, Tryd.f21.ntmps, [], [7]⟩
noncomputable def CFrom : Ctx := ⟨Tryd.prog, gam tabTo, Tryd.f36.ntmps, [], [7]⟩
theorem vcTo (s0 s1 s2 s3 s4 s5 s6 s7 s8 s9 s10 s11 s12 s13 s14 s15 s16 s17 sy l0 l1 l2 h0 h1 h2 ln pl c0 c1 c2 an : Int) (tu : Bool) (x y z : Int) (Q : Res → Prop) : (nfun true CTo Tryd.f21 (bodyOf Tryd.f21) [.agg [.int .i64 s0, .int .i64 s1, .int .i64 s2, .int .i64 s3, .int .i64 s4, .int .i64 s5, .int .i64 s6, .int .i64 s7, .int .i64 s8, .int .i64 s9, .int .i64 s10, .int .i64 s11, .int .i64 s12, .int .i64 s13, .int .i64 s14, .int .i64 s15, .int .i64 s16, .int .i64 s17, .int .i64 sy, .int .i64 l0, .int .i64 l1, .int .i64 l2, .int .i64 h0, .int .i64 h1, .int .i64 h2, .int .i64 ln, .bool tu, .int .i64 pl, .int .i64 c0, .int .i64 c1, .int .i64 c2, .int .i64 an], .agg [.int .i64 x, .int .i64 y, .int .i64 z]] [] Q) =
    (True ∧ (okPr [s0, s1, s2, s3, s4, s5, s6, s7, s8, s9, s10, s11, s12, s13, s14, s15, s16, s17, sy, l0, l1, l2, h0, h1, h2, ln, bif (bif tu then (1 : Int) else (0 : Int)) != 0 then (1 : Int) else (0 : Int), pl, c0, c1, c2, an] ∧ okOr [s0, s1, s2, s3, s4, s5, s6, s7, s8, s9, s10, s11, s12, s13, s14, s15, s16, s17, sy, l0, l1, l2, h0, h1, h2, ln, bif tu then (1 : Int) else (0 : Int), pl, c0, c1, c2, an] ∧ (1 : Int) = (1 : Int)) ∧ (∃ (x_1 : MapS), x_1 = toR [s0, s1, s2, s3, s4, s5, s6, s7, s8, s9, s10, s11, s12, s13, s14, s15, s16, s17, sy, l0, l1, l2, h0, h1, h2, ln, bif (bif tu then (1 : Int) else (0 : Int)) != 0 then (1 : Int) else (0 : Int), pl, c0, c1, c2, an] [s0, s1, s2, s3, s4, s5, s6, s7, s8, s9, s10, s11, s12, s13, s14, s15, s16, s17, sy, l0, l1, l2, h0, h1, h2, ln, bif tu then (1 : Int) else (0 : Int), pl, c0, c1, c2, an] (1 : Int) x y z) ∧ ∀ (x_1 : MapS), x_1 = toR [s0, s1, s2, s3, s4, s5, s6, s7, s8, s9, s10, s11, s12, s13, s14, s15, s16, s17, sy, l0, l1, l2, h0, h1, h2, ln, bif (bif tu then (1 : Int) else (0 : Int)) != 0 then (1 : Int) else (0 : Int), pl, c0, c1, c2, an] [s0, s1, s2, s3, s4, s5, s6, s7, s8, s9, s10, s11, s12, s13, s14, s15, s16, s17, sy, l0, l1, l2, h0, h1, h2, ln, bif tu then (1 : Int) else (0 : Int), pl, c0, c1, c2, an] (1 : Int) x y z →
    Q ⟨.tup [.agg [.int .i64 x_1.x, .int .i64 x_1.y, .int .i64 x_1.z], .ce (.int .i64 x_1.e)], false, [], []⟩) := by kernel_rfl
theorem vcFrom (s0 s1 s2 s3 s4 s5 s6 s7 s8 s9 s10 s11 s12 s13 s14 s15 s16 s17 sy l0 l1 l2 h0 h1 h2 ln pl c0 c1 c2 an : Int) (tu : Bool) (x y z : Int) (Q : Res → Prop) : (nfun true CFrom Tryd.f36 (bodyOf Tryd.f36) [.agg [.int .i64 s0, .int .i64 s1, .int .i64 s2, .int .i64 s3, .int .i64 s4, .int .i64 s5, .int .i64 s6, .int .i64 s7, .int .i64 s8, .int .i64 s9, .int .i64 s10, .int .i64 s11, .int .i64 s12, .int .i64 s13, .int .i64 s14, .int .i64 s15, .int .i64 s16, .int .i64 s17, .int .i64 sy, .int .i64 l0, .int .i64 l1, .int .i64 l2, .int .i64 h0, .int .i64 h1, .int .i64 h2, .int .i64 ln, .bool tu, .int .i64 pl, .int .i64 c0, .int .i64 c1, .int .i64 c2, .int .i64 an], .agg [.int .i64 x, .int .i64 y, .int .i64 z]] [] Q) =
    (True ∧ (okPr [s0, s1, s2, s3, s4, s5, s6, s7, s8, s9, s10, s11, s12, s13, s14, s15, s16, s17, sy, l0, l1, l2, h0, h1, h2, ln, bif (bif tu then (1 : Int) else (0 : Int)) != 0 then (1 : Int) else (0 : Int), pl, c0, c1, c2, an] ∧ okOr [s0, s1, s2, s3, s4, s5, s6, s7, s8, s9, s10, s11, s12, s13, s14, s15, s16, s17, sy, l0, l1, l2, h0, h1, h2, ln, bif tu then (1 : Int) else (0 : Int), pl, c0, c1, c2, an] ∧ (-1 : Int) = (-1 : Int)) ∧ (∃ (x_1 : MapS), x_1 = fromR [s0, s1, s2, s3, s4, s5, s6, s7, s8, s9, s10, s11, s12, s13, s14, s15, s16, s17, sy, l0, l1, l2, h0, h1, h2, ln, bif (bif tu then (1 : Int) else (0 : Int)) != 0 then (1 : Int) else (0 : Int), pl, c0, c1, c2, an] [s0, s1, s2, s3, s4, s5, s6, s7, s8, s9, s10, s11, s12, s13, s14, s15, s16, s17, sy, l0, l1, l2, h0, h1, h2, ln, bif tu then (1 : Int) else (0 : Int), pl, c0, c1, c2, an] (-1 : Int) x y z) ∧ ∀ (x_1 : MapS), x_1 = fromR [s0, s1, s2, s3, s4, s5, s6, s7, s8, s9, s10, s11, s12, s13, s14, s15, s16, s17, sy, l0, l1, l2, h0, h1, h2, ln, bif (bif tu then (1 : Int) else (0 : Int)) != 0 then (1 : Int) else (0 : Int), pl, c0, c1, c2, an] [s0, s1, s2, s3, s4, s5, s6, s7, s8, s9, s10, s11, s12, s13, s14, s15, s16, s17, sy, l0, l1, l2, h0, h1, h2, ln, bif tu then (1 : Int) else (0 : Int), pl, c0, c1, c2, an] (-1 : Int) x y z →
    Q ⟨.tup [.agg [.int .i64 x_1.x, .int .i64 x_1.y, .int .i64 x_1.z], .ce (.int .i64 x_1.e)], false, [], []⟩) := by kernel_rfl
end Go.Proofs.YtgnknciihdajiaaDoor
namespace U
theorem B3_mono {B C x y z : Int} (h : B3 B x y z) (hBC : B ≤ C) : B3 C x y z := by
  obtain ⟨⟨a, b⟩, ⟨c, d⟩, e, f⟩ := h
  exact ⟨⟨by omega, by omega⟩, ⟨by omega, by omega⟩, by omega, by omega⟩
theorem mapW_ok {x y z : Int} {b : Bool} (h1 : b = true) (h2 : wn x y z = true) : mapW x y z b = ⟨x, y, z, 0⟩ := by unfold mapW; rw [h1, h2]; rfl
theorem mapW_b {x y z : Int} {b : Bool} (h1 : b = false) : mapW x y z b = ⟨0, 0, 0, 3⟩ := by unfold mapW; rw [h1]; rfl
theorem mapW_w {x y z : Int} {b : Bool} (h1 : wn x y z = false) : mapW x y z b = ⟨0, 0, 0, 3⟩ := by unfold mapW; rw [h1, Bool.and_false]; rfl
theorem toR_w {r r2 : List Int} {g x y z : Int} (h : wn x y z = false) : toR r r2 g x y z = ⟨0, 0, 0, 3⟩ := by unfold toR toF; rw [h]; rfl
theorem toR_eq {r r2 : List Int} {g x y z : Int} (h : wn x y z = true) : toR r r2 g x y z = mapW ((rotR r g x y z).x + orR0 r2) ((rotR r g x y z).y + orR1 r2) ((rotR r g x y z).z + orR2 r2) (rotR r g x y z).ok := by
  unfold toR toF; rw [if_pos h]; rfl
theorem fromR_w {r r2 : List Int} {g x y z : Int} (h : wn x y z = false) : fromR r r2 g x y z = ⟨0, 0, 0, 3⟩ := by unfold fromR fromF; rw [h]; rfl
theorem fromR_eq {r r2 : List Int} {g x y z : Int} (h : wn x y z = true) : fromR r r2 g x y z = mapW (rotR r g (x - orR0 r2) (y - orR1 r2) (z - orR2 r2)).x (rotR r g (x - orR0 r2) (y - orR1 r2) (z - orR2 r2)).y (rotR r g (x - orR0 r2) (y - orR1 r2) (z - orR2 r2)).z (rotR r g (x - orR0 r2) (y - orR1 r2) (z - orR2 r2)).ok := by
  unfold fromR fromF; rw [if_pos h, Int.neg_neg]; rfl
theorem nt_f {b : Bool} (h : (!b) = true) : b = false := by cases b; rfl; cases h
theorem nf_t {b : Bool} (h : (!b) = false) : b = true := by cases b; cases h; rfl
end U
namespace Go.Proofs.YtgnknciihdajiaaDoor
open Go Go.HL U
attribute [local irreducible] hfun bodyT fragT
theorem rotR_bd {r : List Int} {g x y z : Int} (h : okPr r) (hx : B3 1099511627776 x y z) : B3 1099511627776 (rotR r g x y z).x (rotR r g x y z).y (rotR r g x y z).z := rotF_bd _ h.2 hx
set_option maxHeartbeats 400000 in
set_option maxRecDepth 100000 in
theorem sMapd : Sound Tryd.prog 56 SMapd := by
  refine sound_of (C := CMapd) tabMapd Tryd.func56 (by kernel_rfl) (by decide +kernel) (by kernel_rfl) rfl ⟨sWn, sRot1, sTo1, sFr1, trivial⟩ (loopsAll (by kernel_rfl)) ?_
  intro hargs pars R h
  unfold SMapd at h
  split at h
  case h_2 => exfalso; exact h
  rename_i x y z l
  split at h
  case h_3 => exact h.elim
  · rename_i f1 k1 r k2 g f2 k3 r2
    cases hb : (Nat.beq f1 78 && (Nat.beq f2 54 && (ksEq k1 frK && (ksEq k2 [4] && ksEq k3 frK)))) with
    | false => rw [hb] at h; exact h.elim
    | true =>
    rw [hb] at h
    rw [Bool.and_eq_true, Bool.and_eq_true, Bool.and_eq_true, Bool.and_eq_true] at hb
    obtain ⟨b1, b2, b3, b4, b5⟩ := hb
    have b1 := Nat.eq_of_beq_eq_true b1
    have b2 := Nat.eq_of_beq_eq_true b2
    have b3 := ksEq_eq b3
    have b4 := ksEq_eq b4
    have b5 := ksEq_eq b5
    subst b1 b2 b3 b4 b5
    obtain ⟨⟨hp, ho, hg⟩, _, hR⟩ := h
    subst hg
    have ob := or_bd ho
    refine byVC (vcMapT x y z 1 r r2 R) ⟨trivial, fun x1 e1 => ⟨fun n => ?_, fun n => ?_⟩⟩
    · exact hR ⟨0, 0, 0, 3⟩ (toR_w (e1.symm.trans (nt_f n))).symm
    have hw := e1.symm.trans (nf_t n)
    have hb := B3_mono (wn_iff.1 hw) (C := 1099511627776) (by decide)
    have rb := rotR_bd (g := 1) hp hb
    rw [toR_eq hw] at hR
    refine ⟨by omega, ⟨hp, .inl rfl, hb⟩, fun x2 e2 x3 e3 x4 e4 x5 e5 => ⟨fun n5 => ?_, fun n5 => ?_⟩⟩
    · exact hR ⟨0, 0, 0, 3⟩ (mapW_b (e5.symm.trans (nt_f n5))).symm
    rw [← e2, ← e3, ← e4, ← e5] at hR
    rw [← e2, ← e3, ← e4] at rb
    refine ⟨by omega, ⟨ho, rb⟩, fun x6 e6 x7 e7 x8 e8 x9 e9 => ⟨fun n9 => (by rw [e9] at n9; cases n9), fun _ => ⟨trivial, fun x10 e10 => ⟨fun n10 => ?_, fun n10 => ?_⟩⟩⟩⟩
    · rw [← e6, ← e7, ← e8] at hR
      exact hR ⟨0, 0, 0, 3⟩ (mapW_w (e10.symm.trans (nt_f n10))).symm
    · rw [← e6, ← e7, ← e8] at hR
      exact hR ⟨x6, x7, x8, 0⟩ (mapW_ok (nf_t n5) (e10.symm.trans (nf_t n10))).symm
  · rename_i f2 k3 r2 f1 k1 r k2 g
    cases hb : (Nat.beq f1 78 && (Nat.beq f2 64 && (ksEq k1 frK && (ksEq k2 [4] && ksEq k3 frK)))) with
    | false => rw [hb] at h; exact h.elim
    | true =>
    rw [hb] at h
    rw [Bool.and_eq_true, Bool.and_eq_true, Bool.and_eq_true, Bool.and_eq_true] at hb
    obtain ⟨b1, b2, b3, b4, b5⟩ := hb
    have b1 := Nat.eq_of_beq_eq_true b1
    have b2 := Nat.eq_of_beq_eq_true b2
    have b3 := ksEq_eq b3
    have b4 := ksEq_eq b4
    have b5 := ksEq_eq b5
    subst b1 b2 b3 b4 b5
    obtain ⟨⟨hp, ho, hg⟩, _, hR⟩ := h
    subst hg
    have ob := or_bd ho
    refine byVC (vcMapF x y z (-1) r r2 R) ⟨trivial, fun x1 e1 => ⟨fun n => ?_, fun n => ?_⟩⟩
    · exact hR ⟨0, 0, 0, 3⟩ (fromR_w (e1.symm.trans (nt_f n))).symm
    have hw := e1.symm.trans (nf_t n)
    have hb := wn_iff.1 hw
    rw [fromR_eq hw] at hR
    refine ⟨by omega, ⟨ho, B3_mono hb (by decide)⟩, fun x2 e2 x3 e3 x4 e4 x5 e5 => ⟨fun n5 => (by rw [e5] at n5; cases n5), fun n5 => ?_⟩⟩
    have hb2 : B3 1099511627776 x2 x3 x4 := by
      obtain ⟨b1, b2, b3⟩ := hb
      exact ⟨by omega, by omega, by omega⟩
    rw [← e2, ← e3, ← e4] at hR
    refine ⟨by omega, ⟨hp, .inr rfl, hb2⟩, fun x6 e6 x7 e7 x8 e8 x9 e9 => ⟨fun n9 => ?_, fun n9 => ⟨trivial, fun x10 e10 => ⟨fun n10 => ?_, fun n10 => ?_⟩⟩⟩⟩
    · exact hR ⟨0, 0, 0, 3⟩ (mapW_b (e9.symm.trans (nt_f n9))).symm
    · rw [← e6, ← e7, ← e8] at hR
      exact hR ⟨0, 0, 0, 3⟩ (mapW_w (e10.symm.trans (nt_f n10))).symm
    · rw [← e6, ← e7, ← e8] at hR
      exact hR ⟨x6, x7, x8, 0⟩ (mapW_ok (e9.symm.trans (nf_t n9)) (e10.symm.trans (nf_t n10))).symm
set_option maxHeartbeats 400000 in
set_option maxRecDepth 100000 in
theorem sTo : Sound Tryd.prog 21 STo := by
  refine sound_of (C := CTo) tabTo Tryd.func21 (by kernel_rfl) (by decide +kernel) (by kernel_rfl) rfl ⟨sRotn, sMapd, trivial⟩ (loops0 (by kernel_rfl)) ?_
  intro hargs pars R h
  unfold STo at h
  split at h
  case h_2 => exfalso; exact h
  rename_i cs x y z
  split at h
  case h_2 => exact h.elim
  rename_i s0 s1 s2 s3 s4 s5 s6 s7 s8 s9 s10 s11 s12 s13 s14 s15 s16 s17 sy l0 l1 l2 h0 h1 h2 ln tu pl c0 c1 c2 an
  obtain ⟨⟨ho, hp, hc⟩, _, hR⟩ := h
  cases tu
  · exact byVC (vcTo s0 s1 s2 s3 s4 s5 s6 s7 s8 s9 s10 s11 s12 s13 s14 s15 s16 s17 sy l0 l1 l2 h0 h1 h2 ln pl c0 c1 c2 an false x y z R) ⟨trivial, ⟨⟨hp, hc⟩, ho, rfl⟩, ⟨_, rfl⟩, fun m hm => hR m (by rw [hm]; unfold toR; rw [Int.one_mul]; rfl)⟩
  · exact byVC (vcTo s0 s1 s2 s3 s4 s5 s6 s7 s8 s9 s10 s11 s12 s13 s14 s15 s16 s17 sy l0 l1 l2 h0 h1 h2 ln pl c0 c1 c2 an true x y z R) ⟨trivial, ⟨⟨hp, hc⟩, ho, rfl⟩, ⟨_, rfl⟩, fun m hm => hR m (by rw [hm]; unfold toR; rw [Int.one_mul]; rfl)⟩
set_option maxHeartbeats 400000 in
set_option maxRecDepth 100000 in
theorem sFrom : Sound Tryd.prog 36 SFrom := by
  refine sound_of (C := CFrom) tabTo Tryd.func36 (by kernel_rfl) (by decide +kernel) (by kernel_rfl) rfl ⟨sRotn, sMapd, trivial⟩ (loops0 (by kernel_rfl)) ?_
  intro hargs pars R h
  unfold SFrom at h
  split at h
  case h_2 => exfalso; exact h
  rename_i cs x y z
  split at h
  case h_2 => exact h.elim
  rename_i s0 s1 s2 s3 s4 s5 s6 s7 s8 s9 s10 s11 s12 s13 s14 s15 s16 s17 sy l0 l1 l2 h0 h1 h2 ln tu pl c0 c1 c2 an
  obtain ⟨⟨ho, hp, hc⟩, _, hR⟩ := h
  have e : ∀ u : Int, -(-1 * u) = u := fun u => by omega
  cases tu
  · exact byVC (vcFrom s0 s1 s2 s3 s4 s5 s6 s7 s8 s9 s10 s11 s12 s13 s14 s15 s16 s17 sy l0 l1 l2 h0 h1 h2 ln pl c0 c1 c2 an false x y z R) ⟨trivial, ⟨⟨hp, hc⟩, ho, rfl⟩, ⟨_, rfl⟩, fun m hm => hR m (by rw [hm]; unfold fromR; rw [e]; rfl)⟩
  · exact byVC (vcFrom s0 s1 s2 s3 s4 s5 s6 s7 s8 s9 s10 s11 s12 s13 s14 s15 s16 s17 sy l0 l1 l2 h0 h1 h2 ln pl c0 c1 c2 an true x y z R) ⟨trivial, ⟨⟨hp, hc⟩, ho, rfl⟩, ⟨_, rfl⟩, fun m hm => hR m (by rw [hm]; unfold fromR; rw [e]; rfl)⟩
end Go.Proofs.YtgnknciihdajiaaDoor
namespace U
open Go Go.HL
def fsP (p : Int) : Int := if p = 18 then 2 else if p = 19 then 1 else 0
def scP (p : Int) : Int := if p = 18 then 0 else if p = 19 then 2 else 1
def at3 (i a b c : Int) : Int := if i = 0 then a else if i = 1 then b else c
def at3b (i : Int) (a b c : Bool) : Bool := if i = 0 then a else if i = 1 then b else c
def wE (a i u : Int) (h : Bool) (n : Int) : Int := if h = true ∧ i ≠ a then lnE n u else 0
def wN (a i u : Int) (h : Bool) (n : Int) : Int := if h = true ∧ i ≠ a then lnN n u else n
def put3 (i j u w k n : Int) : Int := if k = j then w else if k = i then u else n
def mv (d : Int) (h : Bool) (p n : Int) : Int := if h then (if d = 91 then p + n else n) else p
def mI (r : List HC) (k : Nat) : Int := match r[k]? with
  | some (.int _ v) => v
  | _ => 0
structure TgS where
  x : Int
  y : Int
  z : Int
  any : Bool
  e : Int
def tg3 (d : Int) (b0 b1 b2 : Bool) (x y z n0 n1 n2 : Int) : TgS :=
  if wn (mv d b0 x n0) (mv d b1 y n1) (mv d b2 z n2) then ⟨mv d b0 x n0, mv d b1 y n1, mv d b2 z n2, b0 || (b1 || b2), 0⟩ else ⟨0, 0, 0, false, 3⟩
def tg2 (f s a d : Int) (b0 b1 b2 : Bool) (x y z n0 n1 n2 : Int) : TgS :=
  if (decide (0 ≤ a) && (at3b f b0 b1 b2 != at3b s b0 b1 b2)) = true then ⟨0, 0, 0, false, 9⟩
  else if (decide (0 ≤ a) && at3b f b0 b1 b2) = true then
    tg3 d b0 b1 b2 x y z (put3 f s (rtU (at3 f n0 n1 n2) 0 (at3 s n0 n1 n2)) (rtW (at3 f n0 n1 n2) 0 (at3 s n0 n1 n2)) 0 n0)
      (put3 f s (rtU (at3 f n0 n1 n2) 0 (at3 s n0 n1 n2)) (rtW (at3 f n0 n1 n2) 0 (at3 s n0 n1 n2)) 1 n1)
      (put3 f s (rtU (at3 f n0 n1 n2) 0 (at3 s n0 n1 n2)) (rtW (at3 f n0 n1 n2) 0 (at3 s n0 n1 n2)) 2 n2)
  else tg3 d b0 b1 b2 x y z n0 n1 n2
def tg1 (f s a d u : Int) (b0 b1 b2 : Bool) (x y z n0 n1 n2 : Int) : TgS :=
  if wE a 0 u b0 n0 ≠ 0 then ⟨0, 0, 0, false, wE a 0 u b0 n0⟩ else if wE a 1 u b1 n1 ≠ 0 then ⟨0, 0, 0, false, wE a 1 u b1 n1⟩
  else if wE a 2 u b2 n2 ≠ 0 then ⟨0, 0, 0, false, wE a 2 u b2 n2⟩ else tg2 f s a d b0 b1 b2 x y z (wN a 0 u b0 n0) (wN a 1 u b1 n1) (wN a 2 u b2 n2)
def anP (p po : Int) : Int := if po = 16 then scP p else -1
def tgF (p d u po : Int) (l : List (List Int)) (x y z : Int) : TgS :=
  if wn x y z then tg1 (fsP p) (scP p) (anP p po) d u (fndB 88 l) (fndB 89 l) (fndB 90 l) x y z (fndN 88 l) (fndN 89 l) (fndN 90 l) else ⟨0, 0, 0, false, 1⟩
end U
namespace Go.Proofs.YtgnknciihdajiaaDoor
open Go Go.HL U
def SFx (hargs : List HV) (pars : List (List HC)) : SR :=
  match hargs, pars with
  | [.ce (.int .i64 p)], [] => .det True ⟨.tup [.ce (.int .i64 (fsP p)), .ce (.int .i64 (scP p))], false, [], []⟩
  | _, _ => .fail
noncomputable def CFx : Ctx := ⟨Tryd.prog, gam [], Tryd.f46.ntmps, [], []⟩
theorem vcFx (p : Int) (Q : Res → Prop) : (nfun true CFx Tryd.f46 (bodyOf Tryd.f46) [.ce (.int .i64 p)] [] Q) =
    (((p == 18) = true → Q ⟨.tup [.ce (.int .i64 2), .ce (.int .i64 0)], false, [], []⟩) ∧ ((p == 18) = false → ((p == 19) = true → Q ⟨.tup [.ce (.int .i64 1), .ce (.int .i64 2)], false, [], []⟩) ∧ ((p == 19) = false → Q ⟨.tup [.ce (.int .i64 0), .ce (.int .i64 1)], false, [], []⟩))) := by kernel_rfl
def STgt (hargs : List HV) (pars : List (List HC)) : SR :=
  match hargs, pars with
  | [.agg cs, .ce (.sl false [4, 4] l), .agg [.int .i64 x, .int .i64 y, .int .i64 z]], [] => match cs with
    | [.int .i64 m0, .int .i64 m1, .int .i64 m2, .int .i64 m3, .int .i64 m4, .int .i64 m5, .int .i64 m6, .int .i64 m7, .int .i64 m8, .int .i64 m9, .int .i64 m10, .int .i64 m11, .int .i64 m12, .bool m13, .bool m14, .int .i64 m15, .int .i64 m16, .int .i64 m17, .int .i64 m18, .int .i64 m19, .int .i64 m20, .int .i64 m21] => .all (l.length ≤ 1000 ∧ 17 ≤ m1 ∧ m1 ≤ 19) TgS (fun r => r = tgF m1 m2 m3 m10 l x y z)
        (fun r => ⟨.tup [.agg [.int .i64 r.x, .int .i64 r.y, .int .i64 r.z], .ce (.bool r.any), .ce (.int .i64 r.e)], false, [], []⟩)
    | _ => .fail
  | _, _ => .fail
def hT1 : Nat → Bool := fun s => Nat.beq s 31
def anT1 : LAnn := ⟨[1, 3, 5, 6, 7, 8, 9, 10, 30, 31], [3, 5, 6, 7, 8, 9, 10], [1000003, 1000005, 1000006, 1000009], hT1⟩
def LT1 (v : LV) : LR :=
  match v with
  | ([.ce (.sl false [4, 4] l), .ce (.ptr 1000003 0), .ce (.ptr 1000005 0), .ce (.ptr 1000006 0), .ce (.bool t7), .ce (.int .i64 t8), .ce (.ptr 1000009 0), .ce (.bool a), .agg [.int .i64 e0, .int .i64 e1, .int .i64 e2], .ce (.num .i64 i)], [rm, [.int .i64 x, .int .i64 y, .int .i64 z], [.int .i64 r0, .int .i64 r1, .int .i64 r2], [.int .i64 n0, .bool h0, .int .i64 n1, .bool h1, .int .i64 n2, .bool h2]]) =>
    .det (i = 0 ∧ a = false ∧ (e0 = 88 ∧ e1 = 89 ∧ e2 = 90) ∧ l.length ≤ 1000 ∧ ∃ m, rm = cM m) (.exit 0)
      ([.ce (.ptr 1000003 0), .ce (.ptr 1000005 0), .ce (.ptr 1000006 0), .ce (.bool t7), .ce (.int .i64 t8), .ce (.ptr 1000009 0), .ce (.bool (fndB 88 l || (fndB 89 l || fndB 90 l)))], [rm, [.int .i64 x, .int .i64 y, .int .i64 z], [.int .i64 r0, .int .i64 r1, .int .i64 r2], [.int .i64 (fndN 88 l), .bool (fndB 88 l), .int .i64 (fndN 89 l), .bool (fndB 89 l), .int .i64 (fndN 90 l), .bool (fndB 90 l)]])
  | _ => .fail
def hT2 : Nat → Bool := fun s => Nat.beq s 70
def anT2 : LAnn := ⟨[3, 5, 6, 7, 8, 9, 10, 13, 14, 15, 70], [3, 5, 6, 7, 8, 9, 10, 13, 14, 15], [1000003, 1000005, 1000006, 1000009], hT2⟩
def LT2 (v : LV) : LR :=
  match v with
  | ([.ce (.ptr 1000003 0), .ce (.ptr 1000005 0), .ce (.ptr 1000006 0), .ce (.bool t7), .ce (.int .i64 t8), .ce (.ptr 1000009 0), .ce (.bool y0), .ce (.int .i64 f), .ce (.int .i64 s), .ce (.int .i64 a), .ce (.num .i64 i)], [rm, [.int .i64 x, .int .i64 y, .int .i64 z], [.int .i64 r0, .int .i64 r1, .int .i64 r2], [.int .i64 n0, .bool h0, .int .i64 n1, .bool h1, .int .i64 n2, .bool h2]]) =>
    .alts (i = 0 ∧ ∃ m, rm = cM m)
      [(wE a 0 (mI rm 3) h0 n0 ≠ 0, .ret, ([.ce (.ptr 1000003 0), .ce (.ptr 1000005 0), .ce (.ptr 1000006 0), .ce (.bool false), .ce (.int .i64 (wE a 0 (mI rm 3) h0 n0)), .ce (.ptr 1000009 0), .ce (.bool y0), .ce (.int .i64 f), .ce (.int .i64 s), .ce (.int .i64 a)], [rm, [.int .i64 x, .int .i64 y, .int .i64 z], [.int .i64 0, .int .i64 0, .int .i64 0], [.int .i64 n0, .bool h0, .int .i64 n1, .bool h1, .int .i64 n2, .bool h2]])),
       (wE a 0 (mI rm 3) h0 n0 = 0 ∧ wE a 1 (mI rm 3) h1 n1 ≠ 0, .ret, ([.ce (.ptr 1000003 0), .ce (.ptr 1000005 0), .ce (.ptr 1000006 0), .ce (.bool false), .ce (.int .i64 (wE a 1 (mI rm 3) h1 n1)), .ce (.ptr 1000009 0), .ce (.bool y0), .ce (.int .i64 f), .ce (.int .i64 s), .ce (.int .i64 a)], [rm, [.int .i64 x, .int .i64 y, .int .i64 z], [.int .i64 0, .int .i64 0, .int .i64 0], [.int .i64 (wN a 0 (mI rm 3) h0 n0), .bool h0, .int .i64 n1, .bool h1, .int .i64 n2, .bool h2]])),
       (wE a 0 (mI rm 3) h0 n0 = 0 ∧ wE a 1 (mI rm 3) h1 n1 = 0 ∧ wE a 2 (mI rm 3) h2 n2 ≠ 0, .ret, ([.ce (.ptr 1000003 0), .ce (.ptr 1000005 0), .ce (.ptr 1000006 0), .ce (.bool false), .ce (.int .i64 (wE a 2 (mI rm 3) h2 n2)), .ce (.ptr 1000009 0), .ce (.bool y0), .ce (.int .i64 f), .ce (.int .i64 s), .ce (.int .i64 a)], [rm, [.int .i64 x, .int .i64 y, .int .i64 z], [.int .i64 0, .int .i64 0, .int .i64 0], [.int .i64 (wN a 0 (mI rm 3) h0 n0), .bool h0, .int .i64 (wN a 1 (mI rm 3) h1 n1), .bool h1, .int .i64 n2, .bool h2]])),
       (wE a 0 (mI rm 3) h0 n0 = 0 ∧ wE a 1 (mI rm 3) h1 n1 = 0 ∧ wE a 2 (mI rm 3) h2 n2 = 0, .exit 2, ([.ce (.ptr 1000003 0), .ce (.ptr 1000005 0), .ce (.ptr 1000006 0), .ce (.bool t7), .ce (.int .i64 t8), .ce (.ptr 1000009 0), .ce (.bool y0), .ce (.int .i64 f), .ce (.int .i64 s), .ce (.int .i64 a)], [rm, [.int .i64 x, .int .i64 y, .int .i64 z], [.int .i64 r0, .int .i64 r1, .int .i64 r2], [.int .i64 (wN a 0 (mI rm 3) h0 n0), .bool h0, .int .i64 (wN a 1 (mI rm 3) h1 n1), .bool h1, .int .i64 (wN a 2 (mI rm 3) h2 n2), .bool h2]]))]
  | _ => .fail
def anT3 : LAnn := ⟨[3, 5, 6, 7, 8, 9, 10, 13, 14, 15], [3, 5, 6, 7, 8, 9, 10, 13, 14, 15, 114], [1000003, 1000005, 1000006, 1000009], false⟩
def LT3 (v : LV) : LR :=
  match v with
  | ([.ce (.ptr 1000003 0), .ce (.ptr 1000005 0), .ce (.ptr 1000006 0), .ce (.bool t7), .ce (.int .i64 t8), .ce (.ptr 1000009 0), .ce (.bool y0), .ce (.int .i64 f), .ce (.int .i64 s), .ce (.int .i64 a)], [rm, [.int .i64 x, .int .i64 y, .int .i64 z], [.int .i64 r0, .int .i64 r1, .int .i64 r2], [.int .i64 n0, .bool h0, .int .i64 n1, .bool h1, .int .i64 n2, .bool h2]]) =>
    .all ((0 ≤ f ∧ f ≤ 2 ∧ 0 ≤ s ∧ s ≤ 2) ∧ ∃ m, rm = cM m) Bool (fun b => b = (decide (0 ≤ a) && (at3b f h0 h1 h2 != at3b s h0 h1 h2))) (fun _ => .normal)
      (fun b => ([.ce (.ptr 1000003 0), .ce (.ptr 1000005 0), .ce (.ptr 1000006 0), .ce (.bool t7), .ce (.int .i64 t8), .ce (.ptr 1000009 0), .ce (.bool y0), .ce (.int .i64 f), .ce (.int .i64 s), .ce (.int .i64 a), .ce (.bool b)], [rm, [.int .i64 x, .int .i64 y, .int .i64 z], [.int .i64 r0, .int .i64 r1, .int .i64 r2], [.int .i64 n0, .bool h0, .int .i64 n1, .bool h1, .int .i64 n2, .bool h2]]))
  | _ => .fail
def anT4 : LAnn := ⟨[3, 6, 9, 10, 13, 14, 15, 19], [3, 6, 9, 10, 13, 14, 19, 130], [1000003, 1000006, 1000009, 1000019], false⟩
def LT4 (v : LV) : LR :=
  match v with
  | ([.ce (.ptr 1000003 0), .ce (.ptr 1000006 0), .ce (.ptr 1000009 0), .ce (.bool y0), .ce (.int .i64 f), .ce (.int .i64 s), .ce (.int .i64 a), .ce (.ptr 1000019 0)], [rm, [.int .i64 r0, .int .i64 r1, .int .i64 r2], [.int .i64 n0, .bool h0, .int .i64 n1, .bool h1, .int .i64 n2, .bool h2], [.int .i64 x, .int .i64 y, .int .i64 z]]) =>
    .all ((0 ≤ f ∧ f ≤ 2) ∧ ∃ m, rm = cM m) Bool (fun b => b = (decide (0 ≤ a) && at3b f h0 h1 h2)) (fun _ => .normal)
      (fun b => ([.ce (.ptr 1000003 0), .ce (.ptr 1000006 0), .ce (.ptr 1000009 0), .ce (.bool y0), .ce (.int .i64 f), .ce (.int .i64 s), .ce (.ptr 1000019 0), .ce (.bool b)], [rm, [.int .i64 r0, .int .i64 r1, .int .i64 r2], [.int .i64 n0, .bool h0, .int .i64 n1, .bool h1, .int .i64 n2, .bool h2], [.int .i64 x, .int .i64 y, .int .i64 z]]))
  | _ => .fail
def anT5 : LAnn := ⟨[3, 6, 9, 10, 13, 14, 19, 130], [3, 6, 9, 10, 19], [1000003, 1000006, 1000009, 1000019], false⟩
def LT5 (v : LV) : LR :=
  match v with
  | ([.ce (.ptr 1000003 0), .ce (.ptr 1000006 0), .ce (.ptr 1000009 0), .ce (.bool y0), .ce (.int .i64 f), .ce (.int .i64 s), .ce (.ptr 1000019 0), .ce (.bool c)], [rm, [.int .i64 r0, .int .i64 r1, .int .i64 r2], [.int .i64 n0, .bool h0, .int .i64 n1, .bool h1, .int .i64 n2, .bool h2], [.int .i64 x, .int .i64 y, .int .i64 z]]) =>
    .all ((0 ≤ f ∧ f ≤ 2 ∧ 0 ≤ s ∧ s ≤ 2) ∧ ∃ m, rm = cM m) (Int × Int × Int)
      (fun q => (c = false → q.1 = n0 ∧ q.2.1 = n1 ∧ q.2.2 = n2) ∧ (c = true →
        q.1 = put3 f s (rtU (at3 f n0 n1 n2) 0 (at3 s n0 n1 n2)) (rtW (at3 f n0 n1 n2) 0 (at3 s n0 n1 n2)) 0 n0 ∧
        q.2.1 = put3 f s (rtU (at3 f n0 n1 n2) 0 (at3 s n0 n1 n2)) (rtW (at3 f n0 n1 n2) 0 (at3 s n0 n1 n2)) 1 n1 ∧
        q.2.2 = put3 f s (rtU (at3 f n0 n1 n2) 0 (at3 s n0 n1 n2)) (rtW (at3 f n0 n1 n2) 0 (at3 s n0 n1 n2)) 2 n2)) (fun _ => .normal)
      (fun q => ([.ce (.ptr 1000003 0), .ce (.ptr 1000006 0), .ce (.ptr 1000009 0), .ce (.bool y0), .ce (.ptr 1000019 0)], [rm, [.int .i64 r0, .int .i64 r1, .int .i64 r2], [.int .i64 q.1, .bool h0, .int .i64 q.2.1, .bool h1, .int .i64 q.2.2, .bool h2], [.int .i64 x, .int .i64 y, .int .i64 z]]))
  | _ => .fail
def hT6 : Nat → Bool := fun s => Nat.beq s 153
def anT6 : LAnn := ⟨[3, 6, 10, 19, 152, 153], [6, 10, 19], [1000003, 1000006, 1000019], hT6⟩
def bmv (h : Bool) (n : Int) : Prop := h = true → -1099511627776 ≤ n ∧ n ≤ 1099511627776
def LT6 (v : LV) : LR :=
  match v with
  | ([.ce (.ptr 1000003 0), .ce (.ptr 1000006 0), .ce (.bool y0), .ce (.ptr 1000019 0), .agg [.int .i64 n0, .bool h0, .int .i64 n1, .bool h1, .int .i64 n2, .bool h2], .ce (.num .i64 i)], [rm, [.int .i64 r0, .int .i64 r1, .int .i64 r2], [.int .i64 x, .int .i64 y, .int .i64 z]]) =>
    .det (i = 0 ∧ (∃ m, rm = cM m) ∧ B3 1099511627776 x y z ∧ bmv h0 n0 ∧ bmv h1 n1 ∧ bmv h2 n2) (.exit 4)
      ([.ce (.ptr 1000006 0), .ce (.bool y0), .ce (.ptr 1000019 0)], [rm, [.int .i64 r0, .int .i64 r1, .int .i64 r2], [.int .i64 (mv (mI rm 2) h0 x n0), .int .i64 (mv (mI rm 2) h1 y n1), .int .i64 (mv (mI rm 2) h2 z n2)]])
  | _ => .fail
def tabTgt : List (FuncId × HL.Spec) := [(44, SWn), (45, SFind), (46, SFx), (47, SPl), (48, SLen), (49, SRot)]
noncomputable def CTgt : Ctx := ⟨Tryd.prog, gam tabTgt, Tryd.f17.ntmps, [(6, anT1, LT1), (16, anT2, LT2), (3000024, anT3, LT3), (3000027, anT4, LT4), (2000028, anT5, LT5), (31, anT6, LT6)], [spl 24 13 3 0, spl 24 14 3 0, spl 27 13 3 0, spl 28 13 3 0, spl 28 14 3 0]⟩
theorem vbT10 (l : List (List Int)) (m : M) (t7 a h0 h1 h2 : Bool) (t8 e0 e1 e2 x y z r0 r1 r2 n0 n1 n2 : Int) (K : HEx → LV → Prop) : (nbodyT true CTgt anT1 (nthLoop Tryd.f17 0) (([.ce (.sl false [4, 4] l), .ce (.ptr 1000003 0), .ce (.ptr 1000005 0), .ce (.ptr 1000006 0), .ce (.bool t7), .ce (.int .i64 t8), .ce (.ptr 1000009 0), .ce (.bool a), .agg [.int .i64 e0, .int .i64 e1, .int .i64 e2], .ce (.num .i64 0)], [[.int .i64 m.m0, .int .i64 m.m1, .int .i64 m.m2, .int .i64 m.m3, .int .i64 m.m4, .int .i64 m.m5, .int .i64 m.m6, .int .i64 m.m7, .int .i64 m.m8, .int .i64 m.m9, .int .i64 m.m10, .int .i64 m.m11, .int .i64 m.m12, .bool m.m13, .bool m.m14, .int .i64 m.m15, .int .i64 m.m16, .int .i64 m.m17, .int .i64 m.m18, .int .i64 m.m19, .int .i64 m.m20, .int .i64 m.m21], [.int .i64 x, .int .i64 y, .int .i64 z], [.int .i64 r0, .int .i64 r1, .int .i64 r2], [.int .i64 n0, .bool h0, .int .i64 n1, .bool h1, .int .i64 n2, .bool h2]])) K) =
    (List.length l ≤ (1000 : Nat) ∧ ∀ (x1 : Int), x1 = fndN e0 l → ∀ (x2 : Bool), x2 = fndB e0 l → (a = true → K .normal ([.ce (.sl false [4, 4] l), .ce (.ptr 1000003 0), .ce (.ptr 1000005 0), .ce (.ptr 1000006 0), .ce (.bool t7), .ce (.int .i64 t8), .ce (.ptr 1000009 0), .ce (.bool true), .agg [.int .i64 e0, .int .i64 e1, .int .i64 e2], .ce (.num .i64 (1 : Int))], [(cM m), [.int .i64 x, .int .i64 y, .int .i64 z], [.int .i64 r0, .int .i64 r1, .int .i64 r2], [.int .i64 x1, .bool x2, .int .i64 n1, .bool h1, .int .i64 n2, .bool h2]])) ∧ (a = false → K .normal ([.ce (.sl false [4, 4] l), .ce (.ptr 1000003 0), .ce (.ptr 1000005 0), .ce (.ptr 1000006 0), .ce (.bool t7), .ce (.int .i64 t8), .ce (.ptr 1000009 0), .ce (.bool x2), .agg [.int .i64 e0, .int .i64 e1, .int .i64 e2], .ce (.num .i64 (1 : Int))], [(cM m), [.int .i64 x, .int .i64 y, .int .i64 z], [.int .i64 r0, .int .i64 r1, .int .i64 r2], [.int .i64 x1, .bool x2, .int .i64 n1, .bool h1, .int .i64 n2, .bool h2]]))) := by kernel_rfl
theorem vbT11 (l : List (List Int)) (m : M) (t7 a h0 h1 h2 : Bool) (t8 e0 e1 e2 x y z r0 r1 r2 n0 n1 n2 : Int) (K : HEx → LV → Prop) : (nbodyT true CTgt anT1 (nthLoop Tryd.f17 0) (([.ce (.sl false [4, 4] l), .ce (.ptr 1000003 0), .ce (.ptr 1000005 0), .ce (.ptr 1000006 0), .ce (.bool t7), .ce (.int .i64 t8), .ce (.ptr 1000009 0), .ce (.bool a), .agg [.int .i64 e0, .int .i64 e1, .int .i64 e2], .ce (.num .i64 1)], [[.int .i64 m.m0, .int .i64 m.m1, .int .i64 m.m2, .int .i64 m.m3, .int .i64 m.m4, .int .i64 m.m5, .int .i64 m.m6, .int .i64 m.m7, .int .i64 m.m8, .int .i64 m.m9, .int .i64 m.m10, .int .i64 m.m11, .int .i64 m.m12, .bool m.m13, .bool m.m14, .int .i64 m.m15, .int .i64 m.m16, .int .i64 m.m17, .int .i64 m.m18, .int .i64 m.m19, .int .i64 m.m20, .int .i64 m.m21], [.int .i64 x, .int .i64 y, .int .i64 z], [.int .i64 r0, .int .i64 r1, .int .i64 r2], [.int .i64 n0, .bool h0, .int .i64 n1, .bool h1, .int .i64 n2, .bool h2]])) K) =
    (List.length l ≤ (1000 : Nat) ∧ ∀ (x1 : Int), x1 = fndN e1 l → ∀ (x2 : Bool), x2 = fndB e1 l → (a = true → K .normal ([.ce (.sl false [4, 4] l), .ce (.ptr 1000003 0), .ce (.ptr 1000005 0), .ce (.ptr 1000006 0), .ce (.bool t7), .ce (.int .i64 t8), .ce (.ptr 1000009 0), .ce (.bool true), .agg [.int .i64 e0, .int .i64 e1, .int .i64 e2], .ce (.num .i64 (2 : Int))], [(cM m), [.int .i64 x, .int .i64 y, .int .i64 z], [.int .i64 r0, .int .i64 r1, .int .i64 r2], [.int .i64 n0, .bool h0, .int .i64 x1, .bool x2, .int .i64 n2, .bool h2]])) ∧ (a = false → K .normal ([.ce (.sl false [4, 4] l), .ce (.ptr 1000003 0), .ce (.ptr 1000005 0), .ce (.ptr 1000006 0), .ce (.bool t7), .ce (.int .i64 t8), .ce (.ptr 1000009 0), .ce (.bool x2), .agg [.int .i64 e0, .int .i64 e1, .int .i64 e2], .ce (.num .i64 (2 : Int))], [(cM m), [.int .i64 x, .int .i64 y, .int .i64 z], [.int .i64 r0, .int .i64 r1, .int .i64 r2], [.int .i64 n0, .bool h0, .int .i64 x1, .bool x2, .int .i64 n2, .bool h2]]))) := by kernel_rfl
theorem vbT12 (l : List (List Int)) (m : M) (t7 a h0 h1 h2 : Bool) (t8 e0 e1 e2 x y z r0 r1 r2 n0 n1 n2 : Int) (K : HEx → LV → Prop) : (nbodyT true CTgt anT1 (nthLoop Tryd.f17 0) (([.ce (.sl false [4, 4] l), .ce (.ptr 1000003 0), .ce (.ptr 1000005 0), .ce (.ptr 1000006 0), .ce (.bool t7), .ce (.int .i64 t8), .ce (.ptr 1000009 0), .ce (.bool a), .agg [.int .i64 e0, .int .i64 e1, .int .i64 e2], .ce (.num .i64 2)], [[.int .i64 m.m0, .int .i64 m.m1, .int .i64 m.m2, .int .i64 m.m3, .int .i64 m.m4, .int .i64 m.m5, .int .i64 m.m6, .int .i64 m.m7, .int .i64 m.m8, .int .i64 m.m9, .int .i64 m.m10, .int .i64 m.m11, .int .i64 m.m12, .bool m.m13, .bool m.m14, .int .i64 m.m15, .int .i64 m.m16, .int .i64 m.m17, .int .i64 m.m18, .int .i64 m.m19, .int .i64 m.m20, .int .i64 m.m21], [.int .i64 x, .int .i64 y, .int .i64 z], [.int .i64 r0, .int .i64 r1, .int .i64 r2], [.int .i64 n0, .bool h0, .int .i64 n1, .bool h1, .int .i64 n2, .bool h2]])) K) =
    (List.length l ≤ (1000 : Nat) ∧ ∀ (x1 : Int), x1 = fndN e2 l → ∀ (x2 : Bool), x2 = fndB e2 l → (a = true → K .normal ([.ce (.sl false [4, 4] l), .ce (.ptr 1000003 0), .ce (.ptr 1000005 0), .ce (.ptr 1000006 0), .ce (.bool t7), .ce (.int .i64 t8), .ce (.ptr 1000009 0), .ce (.bool true), .agg [.int .i64 e0, .int .i64 e1, .int .i64 e2], .ce (.num .i64 (3 : Int))], [(cM m), [.int .i64 x, .int .i64 y, .int .i64 z], [.int .i64 r0, .int .i64 r1, .int .i64 r2], [.int .i64 n0, .bool h0, .int .i64 n1, .bool h1, .int .i64 x1, .bool x2]])) ∧ (a = false → K .normal ([.ce (.sl false [4, 4] l), .ce (.ptr 1000003 0), .ce (.ptr 1000005 0), .ce (.ptr 1000006 0), .ce (.bool t7), .ce (.int .i64 t8), .ce (.ptr 1000009 0), .ce (.bool x2), .agg [.int .i64 e0, .int .i64 e1, .int .i64 e2], .ce (.num .i64 (3 : Int))], [(cM m), [.int .i64 x, .int .i64 y, .int .i64 z], [.int .i64 r0, .int .i64 r1, .int .i64 r2], [.int .i64 n0, .bool h0, .int .i64 n1, .bool h1, .int .i64 x1, .bool x2]]))) := by kernel_rfl
theorem vbT13 (l : List (List Int)) (m : M) (t7 a h0 h1 h2 : Bool) (t8 e0 e1 e2 x y z r0 r1 r2 n0 n1 n2 : Int) (K : HEx → LV → Prop) : (nbodyT true CTgt anT1 (nthLoop Tryd.f17 0) (([.ce (.sl false [4, 4] l), .ce (.ptr 1000003 0), .ce (.ptr 1000005 0), .ce (.ptr 1000006 0), .ce (.bool t7), .ce (.int .i64 t8), .ce (.ptr 1000009 0), .ce (.bool a), .agg [.int .i64 e0, .int .i64 e1, .int .i64 e2], .ce (.num .i64 3)], [[.int .i64 m.m0, .int .i64 m.m1, .int .i64 m.m2, .int .i64 m.m3, .int .i64 m.m4, .int .i64 m.m5, .int .i64 m.m6, .int .i64 m.m7, .int .i64 m.m8, .int .i64 m.m9, .int .i64 m.m10, .int .i64 m.m11, .int .i64 m.m12, .bool m.m13, .bool m.m14, .int .i64 m.m15, .int .i64 m.m16, .int .i64 m.m17, .int .i64 m.m18, .int .i64 m.m19, .int .i64 m.m20, .int .i64 m.m21], [.int .i64 x, .int .i64 y, .int .i64 z], [.int .i64 r0, .int .i64 r1, .int .i64 r2], [.int .i64 n0, .bool h0, .int .i64 n1, .bool h1, .int .i64 n2, .bool h2]])) K) =
    (K (.exit 0) ([.ce (.ptr 1000003 0), .ce (.ptr 1000005 0), .ce (.ptr 1000006 0), .ce (.bool t7), .ce (.int .i64 t8), .ce (.ptr 1000009 0), .ce (.bool a)], [(cM m), [.int .i64 x, .int .i64 y, .int .i64 z], [.int .i64 r0, .int .i64 r1, .int .i64 r2], [.int .i64 n0, .bool h0, .int .i64 n1, .bool h1, .int .i64 n2, .bool h2]])) := by kernel_rfl
theorem vbT20 (m : M) (t7 y0 h0 h1 h2 : Bool) (t8 f s a x y z r0 r1 r2 n0 n1 n2 : Int) (K : HEx → LV → Prop) : (nbodyT true CTgt anT2 (nthLoop Tryd.f17 1) (([.ce (.ptr 1000003 0), .ce (.ptr 1000005 0), .ce (.ptr 1000006 0), .ce (.bool t7), .ce (.int .i64 t8), .ce (.ptr 1000009 0), .ce (.bool y0), .ce (.int .i64 f), .ce (.int .i64 s), .ce (.int .i64 a), .ce (.num .i64 0)], [[.int .i64 m.m0, .int .i64 m.m1, .int .i64 m.m2, .int .i64 m.m3, .int .i64 m.m4, .int .i64 m.m5, .int .i64 m.m6, .int .i64 m.m7, .int .i64 m.m8, .int .i64 m.m9, .int .i64 m.m10, .int .i64 m.m11, .int .i64 m.m12, .bool m.m13, .bool m.m14, .int .i64 m.m15, .int .i64 m.m16, .int .i64 m.m17, .int .i64 m.m18, .int .i64 m.m19, .int .i64 m.m20, .int .i64 m.m21], [.int .i64 x, .int .i64 y, .int .i64 z], [.int .i64 r0, .int .i64 r1, .int .i64 r2], [.int .i64 n0, .bool h0, .int .i64 n1, .bool h1, .int .i64 n2, .bool h2]])) K) =
    (((!h0) = true → K .normal ([.ce (.ptr 1000003 0), .ce (.ptr 1000005 0), .ce (.ptr 1000006 0), .ce (.bool t7), .ce (.int .i64 t8), .ce (.ptr 1000009 0), .ce (.bool y0), .ce (.int .i64 f), .ce (.int .i64 s), .ce (.int .i64 a), .ce (.num .i64 (1 : Int))], [(cM m), [.int .i64 x, .int .i64 y, .int .i64 z], [.int .i64 r0, .int .i64 r1, .int .i64 r2], [.int .i64 n0, .bool h0, .int .i64 n1, .bool h1, .int .i64 n2, .bool h2]])) ∧ ((!h0) = false → (((0 : Int) == a) = true → K .normal ([.ce (.ptr 1000003 0), .ce (.ptr 1000005 0), .ce (.ptr 1000006 0), .ce (.bool t7), .ce (.int .i64 t8), .ce (.ptr 1000009 0), .ce (.bool y0), .ce (.int .i64 f), .ce (.int .i64 s), .ce (.int .i64 a), .ce (.num .i64 (1 : Int))], [(cM m), [.int .i64 x, .int .i64 y, .int .i64 z], [.int .i64 r0, .int .i64 r1, .int .i64 r2], [.int .i64 n0, .bool h0, .int .i64 n1, .bool h1, .int .i64 n2, .bool h2]])) ∧
    (((0 : Int) == a) = false → True ∧ ∀ (x1 : Int), x1 = lnN n0 m.m3 → ∀ (x2 : Int), x2 = lnE n0 m.m3 → ((x2 != 0) = true → K .ret ([.ce (.ptr 1000003 0), .ce (.ptr 1000005 0), .ce (.ptr 1000006 0), .ce (.bool false), .ce (.int .i64 x2), .ce (.ptr 1000009 0), .ce (.bool y0), .ce (.int .i64 f), .ce (.int .i64 s), .ce (.int .i64 a)], [(cM m), [.int .i64 x, .int .i64 y, .int .i64 z], [.int .i64 0, .int .i64 0, .int .i64 0], [.int .i64 n0, .bool h0, .int .i64 n1, .bool h1, .int .i64 n2, .bool h2]])) ∧ ((x2 != 0) = false → K .normal ([.ce (.ptr 1000003 0), .ce (.ptr 1000005 0), .ce (.ptr 1000006 0), .ce (.bool t7), .ce (.int .i64 t8), .ce (.ptr 1000009 0), .ce (.bool y0), .ce (.int .i64 f), .ce (.int .i64 s), .ce (.int .i64 a), .ce (.num .i64 (1 : Int))], [(cM m), [.int .i64 x, .int .i64 y, .int .i64 z], [.int .i64 r0, .int .i64 r1, .int .i64 r2], [.int .i64 x1, .bool h0, .int .i64 n1, .bool h1, .int .i64 n2, .bool h2]]))))) := by kernel_rfl
theorem vbT21 (m : M) (t7 y0 h0 h1 h2 : Bool) (t8 f s a x y z r0 r1 r2 n0 n1 n2 : Int) (K : HEx → LV → Prop) : (nbodyT true CTgt anT2 (nthLoop Tryd.f17 1) (([.ce (.ptr 1000003 0), .ce (.ptr 1000005 0), .ce (.ptr 1000006 0), .ce (.bool t7), .ce (.int .i64 t8), .ce (.ptr 1000009 0), .ce (.bool y0), .ce (.int .i64 f), .ce (.int .i64 s), .ce (.int .i64 a), .ce (.num .i64 1)], [[.int .i64 m.m0, .int .i64 m.m1, .int .i64 m.m2, .int .i64 m.m3, .int .i64 m.m4, .int .i64 m.m5, .int .i64 m.m6, .int .i64 m.m7, .int .i64 m.m8, .int .i64 m.m9, .int .i64 m.m10, .int .i64 m.m11, .int .i64 m.m12, .bool m.m13, .bool m.m14, .int .i64 m.m15, .int .i64 m.m16, .int .i64 m.m17, .int .i64 m.m18, .int .i64 m.m19, .int .i64 m.m20, .int .i64 m.m21], [.int .i64 x, .int .i64 y, .int .i64 z], [.int .i64 r0, .int .i64 r1, .int .i64 r2], [.int .i64 n0, .bool h0, .int .i64 n1, .bool h1, .int .i64 n2, .bool h2]])) K) =
    (((!h1) = true → K .normal ([.ce (.ptr 1000003 0), .ce (.ptr 1000005 0), .ce (.ptr 1000006 0), .ce (.bool t7), .ce (.int .i64 t8), .ce (.ptr 1000009 0), .ce (.bool y0), .ce (.int .i64 f), .ce (.int .i64 s), .ce (.int .i64 a), .ce (.num .i64 (2 : Int))], [(cM m), [.int .i64 x, .int .i64 y, .int .i64 z], [.int .i64 r0, .int .i64 r1, .int .i64 r2], [.int .i64 n0, .bool h0, .int .i64 n1, .bool h1, .int .i64 n2, .bool h2]])) ∧ ((!h1) = false → (((1 : Int) == a) = true → K .normal ([.ce (.ptr 1000003 0), .ce (.ptr 1000005 0), .ce (.ptr 1000006 0), .ce (.bool t7), .ce (.int .i64 t8), .ce (.ptr 1000009 0), .ce (.bool y0), .ce (.int .i64 f), .ce (.int .i64 s), .ce (.int .i64 a), .ce (.num .i64 (2 : Int))], [(cM m), [.int .i64 x, .int .i64 y, .int .i64 z], [.int .i64 r0, .int .i64 r1, .int .i64 r2], [.int .i64 n0, .bool h0, .int .i64 n1, .bool h1, .int .i64 n2, .bool h2]])) ∧
    (((1 : Int) == a) = false → True ∧ ∀ (x1 : Int), x1 = lnN n1 m.m3 → ∀ (x2 : Int), x2 = lnE n1 m.m3 → ((x2 != 0) = true → K .ret ([.ce (.ptr 1000003 0), .ce (.ptr 1000005 0), .ce (.ptr 1000006 0), .ce (.bool false), .ce (.int .i64 x2), .ce (.ptr 1000009 0), .ce (.bool y0), .ce (.int .i64 f), .ce (.int .i64 s), .ce (.int .i64 a)], [(cM m), [.int .i64 x, .int .i64 y, .int .i64 z], [.int .i64 0, .int .i64 0, .int .i64 0], [.int .i64 n0, .bool h0, .int .i64 n1, .bool h1, .int .i64 n2, .bool h2]])) ∧ ((x2 != 0) = false → K .normal ([.ce (.ptr 1000003 0), .ce (.ptr 1000005 0), .ce (.ptr 1000006 0), .ce (.bool t7), .ce (.int .i64 t8), .ce (.ptr 1000009 0), .ce (.bool y0), .ce (.int .i64 f), .ce (.int .i64 s), .ce (.int .i64 a), .ce (.num .i64 (2 : Int))], [(cM m), [.int .i64 x, .int .i64 y, .int .i64 z], [.int .i64 r0, .int .i64 r1, .int .i64 r2], [.int .i64 n0, .bool h0, .int .i64 x1, .bool h1, .int .i64 n2, .bool h2]]))))) := by kernel_rfl
theorem vbT22 (m : M) (t7 y0 h0 h1 h2 : Bool) (t8 f s a x y z r0 r1 r2 n0 n1 n2 : Int) (K : HEx → LV → Prop) : (nbodyT true CTgt anT2 (nthLoop Tryd.f17 1) (([.ce (.ptr 1000003 0), .ce (.ptr 1000005 0), .ce (.ptr 1000006 0), .ce (.bool t7), .ce (.int .i64 t8), .ce (.ptr 1000009 0), .ce (.bool y0), .ce (.int .i64 f), .ce (.int .i64 s), .ce (.int .i64 a), .ce (.num .i64 2)], [[.int .i64 m.m0, .int .i64 m.m1, .int .i64 m.m2, .int .i64 m.m3, .int .i64 m.m4, .int .i64 m.m5, .int .i64 m.m6, .int .i64 m.m7, .int .i64 m.m8, .int .i64 m.m9, .int .i64 m.m10, .int .i64 m.m11, .int .i64 m.m12, .bool m.m13, .bool m.m14, .int .i64 m.m15, .int .i64 m.m16, .int .i64 m.m17, .int .i64 m.m18, .int .i64 m.m19, .int .i64 m.m20, .int .i64 m.m21], [.int .i64 x, .int .i64 y, .int .i64 z], [.int .i64 r0, .int .i64 r1, .int .i64 r2], [.int .i64 n0, .bool h0, .int .i64 n1, .bool h1, .int .i64 n2, .bool h2]])) K) =
    (((!h2) = true → K .normal ([.ce (.ptr 1000003 0), .ce (.ptr 1000005 0), .ce (.ptr 1000006 0), .ce (.bool t7), .ce (.int .i64 t8), .ce (.ptr 1000009 0), .ce (.bool y0), .ce (.int .i64 f), .ce (.int .i64 s), .ce (.int .i64 a), .ce (.num .i64 (3 : Int))], [(cM m), [.int .i64 x, .int .i64 y, .int .i64 z], [.int .i64 r0, .int .i64 r1, .int .i64 r2], [.int .i64 n0, .bool h0, .int .i64 n1, .bool h1, .int .i64 n2, .bool h2]])) ∧ ((!h2) = false → (((2 : Int) == a) = true → K .normal ([.ce (.ptr 1000003 0), .ce (.ptr 1000005 0), .ce (.ptr 1000006 0), .ce (.bool t7), .ce (.int .i64 t8), .ce (.ptr 1000009 0), .ce (.bool y0), .ce (.int .i64 f), .ce (.int .i64 s), .ce (.int .i64 a), .ce (.num .i64 (3 : Int))], [(cM m), [.int .i64 x, .int .i64 y, .int .i64 z], [.int .i64 r0, .int .i64 r1, .int .i64 r2], [.int .i64 n0, .bool h0, .int .i64 n1, .bool h1, .int .i64 n2, .bool h2]])) ∧
    (((2 : Int) == a) = false → True ∧ ∀ (x1 : Int), x1 = lnN n2 m.m3 → ∀ (x2 : Int), x2 = lnE n2 m.m3 → ((x2 != 0) = true → K .ret ([.ce (.ptr 1000003 0), .ce (.ptr 1000005 0), .ce (.ptr 1000006 0), .ce (.bool false), .ce (.int .i64 x2), .ce (.ptr 1000009 0), .ce (.bool y0), .ce (.int .i64 f), .ce (.int .i64 s), .ce (.int .i64 a)], [(cM m), [.int .i64 x, .int .i64 y, .int .i64 z], [.int .i64 0, .int .i64 0, .int .i64 0], [.int .i64 n0, .bool h0, .int .i64 n1, .bool h1, .int .i64 n2, .bool h2]])) ∧ ((x2 != 0) = false → K .normal ([.ce (.ptr 1000003 0), .ce (.ptr 1000005 0), .ce (.ptr 1000006 0), .ce (.bool t7), .ce (.int .i64 t8), .ce (.ptr 1000009 0), .ce (.bool y0), .ce (.int .i64 f), .ce (.int .i64 s), .ce (.int .i64 a), .ce (.num .i64 (3 : Int))], [(cM m), [.int .i64 x, .int .i64 y, .int .i64 z], [.int .i64 r0, .int .i64 r1, .int .i64 r2], [.int .i64 n0, .bool h0, .int .i64 n1, .bool h1, .int .i64 x1, .bool h2]]))))) := by kernel_rfl
theorem vbT23 (m : M) (t7 y0 h0 h1 h2 : Bool) (t8 f s a x y z r0 r1 r2 n0 n1 n2 : Int) (K : HEx → LV → Prop) : (nbodyT true CTgt anT2 (nthLoop Tryd.f17 1) (([.ce (.ptr 1000003 0), .ce (.ptr 1000005 0), .ce (.ptr 1000006 0), .ce (.bool t7), .ce (.int .i64 t8), .ce (.ptr 1000009 0), .ce (.bool y0), .ce (.int .i64 f), .ce (.int .i64 s), .ce (.int .i64 a), .ce (.num .i64 3)], [[.int .i64 m.m0, .int .i64 m.m1, .int .i64 m.m2, .int .i64 m.m3, .int .i64 m.m4, .int .i64 m.m5, .int .i64 m.m6, .int .i64 m.m7, .int .i64 m.m8, .int .i64 m.m9, .int .i64 m.m10, .int .i64 m.m11, .int .i64 m.m12, .bool m.m13, .bool m.m14, .int .i64 m.m15, .int .i64 m.m16, .int .i64 m.m17, .int .i64 m.m18, .int .i64 m.m19, .int .i64 m.m20, .int .i64 m.m21], [.int .i64 x, .int .i64 y, .int .i64 z], [.int .i64 r0, .int .i64 r1, .int .i64 r2], [.int .i64 n0, .bool h0, .int .i64 n1, .bool h1, .int .i64 n2, .bool h2]])) K) =
    (K (.exit 2) ([.ce (.ptr 1000003 0), .ce (.ptr 1000005 0), .ce (.ptr 1000006 0), .ce (.bool t7), .ce (.int .i64 t8), .ce (.ptr 1000009 0), .ce (.bool y0), .ce (.int .i64 f), .ce (.int .i64 s), .ce (.int .i64 a)], [(cM m), [.int .i64 x, .int .i64 y, .int .i64 z], [.int .i64 r0, .int .i64 r1, .int .i64 r2], [.int .i64 n0, .bool h0, .int .i64 n1, .bool h1, .int .i64 n2, .bool h2]])) := by kernel_rfl
theorem vbT60 (m : M) (y0 h0 h1 h2 : Bool) (x y z r0 r1 r2 n0 n1 n2 : Int) (K : HEx → LV → Prop) : (nbodyT true CTgt anT6 (nthLoop Tryd.f17 2) (([.ce (.ptr 1000003 0), .ce (.ptr 1000006 0), .ce (.bool y0), .ce (.ptr 1000019 0), .agg [.int .i64 n0, .bool h0, .int .i64 n1, .bool h1, .int .i64 n2, .bool h2], .ce (.num .i64 0)], [[.int .i64 m.m0, .int .i64 m.m1, .int .i64 m.m2, .int .i64 m.m3, .int .i64 m.m4, .int .i64 m.m5, .int .i64 m.m6, .int .i64 m.m7, .int .i64 m.m8, .int .i64 m.m9, .int .i64 m.m10, .int .i64 m.m11, .int .i64 m.m12, .bool m.m13, .bool m.m14, .int .i64 m.m15, .int .i64 m.m16, .int .i64 m.m17, .int .i64 m.m18, .int .i64 m.m19, .int .i64 m.m20, .int .i64 m.m21], [.int .i64 r0, .int .i64 r1, .int .i64 r2], [.int .i64 x, .int .i64 y, .int .i64 z]])) K) =
    ((h0 = true → ((m.m2 == 91) = true → (-9223372036854775808 ≤ x + n0 ∧ x + n0 ≤ 9223372036854775807) ∧ ∀ (x1 : Int), x1 = x + n0 → K .normal ([.ce (.ptr 1000003 0), .ce (.ptr 1000006 0), .ce (.bool y0), .ce (.ptr 1000019 0), .agg [.int .i64 n0, .bool h0, .int .i64 n1, .bool h1, .int .i64 n2, .bool h2], .ce (.num .i64 (1 : Int))], [(cM m), [.int .i64 r0, .int .i64 r1, .int .i64 r2], [.int .i64 x1, .int .i64 y, .int .i64 z]])) ∧ ((m.m2 == 91) = false → (h0 = true → K .normal ([.ce (.ptr 1000003 0), .ce (.ptr 1000006 0), .ce (.bool y0), .ce (.ptr 1000019 0), .agg [.int .i64 n0, .bool h0, .int .i64 n1, .bool h1, .int .i64 n2, .bool h2], .ce (.num .i64 (1 : Int))], [(cM m), [.int .i64 r0, .int .i64 r1, .int .i64 r2], [.int .i64 n0, .int .i64 y, .int .i64 z]])) ∧
    (h0 = false → K .normal ([.ce (.ptr 1000003 0), .ce (.ptr 1000006 0), .ce (.bool y0), .ce (.ptr 1000019 0), .agg [.int .i64 n0, .bool h0, .int .i64 n1, .bool h1, .int .i64 n2, .bool h2], .ce (.num .i64 (1 : Int))], [(cM m), [.int .i64 r0, .int .i64 r1, .int .i64 r2], [.int .i64 x, .int .i64 y, .int .i64 z]])))) ∧ (h0 = false → (h0 = true → K .normal ([.ce (.ptr 1000003 0), .ce (.ptr 1000006 0), .ce (.bool y0), .ce (.ptr 1000019 0), .agg [.int .i64 n0, .bool h0, .int .i64 n1, .bool h1, .int .i64 n2, .bool h2], .ce (.num .i64 (1 : Int))], [(cM m), [.int .i64 r0, .int .i64 r1, .int .i64 r2], [.int .i64 n0, .int .i64 y, .int .i64 z]])) ∧
    (h0 = false → K .normal ([.ce (.ptr 1000003 0), .ce (.ptr 1000006 0), .ce (.bool y0), .ce (.ptr 1000019 0), .agg [.int .i64 n0, .bool h0, .int .i64 n1, .bool h1, .int .i64 n2, .bool h2], .ce (.num .i64 (1 : Int))], [(cM m), [.int .i64 r0, .int .i64 r1, .int .i64 r2], [.int .i64 x, .int .i64 y, .int .i64 z]])))) := by kernel_rfl
theorem vbT61 (m : M) (y0 h0 h1 h2 : Bool) (x y z r0 r1 r2 n0 n1 n2 : Int) (K : HEx → LV → Prop) : (nbodyT true CTgt anT6 (nthLoop Tryd.f17 2) (([.ce (.ptr 1000003 0), .ce (.ptr 1000006 0), .ce (.bool y0), .ce (.ptr 1000019 0), .agg [.int .i64 n0, .bool h0, .int .i64 n1, .bool h1, .int .i64 n2, .bool h2], .ce (.num .i64 1)], [[.int .i64 m.m0, .int .i64 m.m1, .int .i64 m.m2, .int .i64 m.m3, .int .i64 m.m4, .int .i64 m.m5, .int .i64 m.m6, .int .i64 m.m7, .int .i64 m.m8, .int .i64 m.m9, .int .i64 m.m10, .int .i64 m.m11, .int .i64 m.m12, .bool m.m13, .bool m.m14, .int .i64 m.m15, .int .i64 m.m16, .int .i64 m.m17, .int .i64 m.m18, .int .i64 m.m19, .int .i64 m.m20, .int .i64 m.m21], [.int .i64 r0, .int .i64 r1, .int .i64 r2], [.int .i64 x, .int .i64 y, .int .i64 z]])) K) =
    ((h1 = true → ((m.m2 == 91) = true → (-9223372036854775808 ≤ y + n1 ∧ y + n1 ≤ 9223372036854775807) ∧ ∀ (x1 : Int), x1 = y + n1 → K .normal ([.ce (.ptr 1000003 0), .ce (.ptr 1000006 0), .ce (.bool y0), .ce (.ptr 1000019 0), .agg [.int .i64 n0, .bool h0, .int .i64 n1, .bool h1, .int .i64 n2, .bool h2], .ce (.num .i64 (2 : Int))], [(cM m), [.int .i64 r0, .int .i64 r1, .int .i64 r2], [.int .i64 x, .int .i64 x1, .int .i64 z]])) ∧ ((m.m2 == 91) = false → (h1 = true → K .normal ([.ce (.ptr 1000003 0), .ce (.ptr 1000006 0), .ce (.bool y0), .ce (.ptr 1000019 0), .agg [.int .i64 n0, .bool h0, .int .i64 n1, .bool h1, .int .i64 n2, .bool h2], .ce (.num .i64 (2 : Int))], [(cM m), [.int .i64 r0, .int .i64 r1, .int .i64 r2], [.int .i64 x, .int .i64 n1, .int .i64 z]])) ∧
    (h1 = false → K .normal ([.ce (.ptr 1000003 0), .ce (.ptr 1000006 0), .ce (.bool y0), .ce (.ptr 1000019 0), .agg [.int .i64 n0, .bool h0, .int .i64 n1, .bool h1, .int .i64 n2, .bool h2], .ce (.num .i64 (2 : Int))], [(cM m), [.int .i64 r0, .int .i64 r1, .int .i64 r2], [.int .i64 x, .int .i64 y, .int .i64 z]])))) ∧ (h1 = false → (h1 = true → K .normal ([.ce (.ptr 1000003 0), .ce (.ptr 1000006 0), .ce (.bool y0), .ce (.ptr 1000019 0), .agg [.int .i64 n0, .bool h0, .int .i64 n1, .bool h1, .int .i64 n2, .bool h2], .ce (.num .i64 (2 : Int))], [(cM m), [.int .i64 r0, .int .i64 r1, .int .i64 r2], [.int .i64 x, .int .i64 n1, .int .i64 z]])) ∧
    (h1 = false → K .normal ([.ce (.ptr 1000003 0), .ce (.ptr 1000006 0), .ce (.bool y0), .ce (.ptr 1000019 0), .agg [.int .i64 n0, .bool h0, .int .i64 n1, .bool h1, .int .i64 n2, .bool h2], .ce (.num .i64 (2 : Int))], [(cM m), [.int .i64 r0, .int .i64 r1, .int .i64 r2], [.int .i64 x, .int .i64 y, .int .i64 z]])))) := by kernel_rfl
theorem vbT62 (m : M) (y0 h0 h1 h2 : Bool) (x y z r0 r1 r2 n0 n1 n2 : Int) (K : HEx → LV → Prop) : (nbodyT true CTgt anT6 (nthLoop Tryd.f17 2) (([.ce (.ptr 1000003 0), .ce (.ptr 1000006 0), .ce (.bool y0), .ce (.ptr 1000019 0), .agg [.int .i64 n0, .bool h0, .int .i64 n1, .bool h1, .int .i64 n2, .bool h2], .ce (.num .i64 2)], [[.int .i64 m.m0, .int .i64 m.m1, .int .i64 m.m2, .int .i64 m.m3, .int .i64 m.m4, .int .i64 m.m5, .int .i64 m.m6, .int .i64 m.m7, .int .i64 m.m8, .int .i64 m.m9, .int .i64 m.m10, .int .i64 m.m11, .int .i64 m.m12, .bool m.m13, .bool m.m14, .int .i64 m.m15, .int .i64 m.m16, .int .i64 m.m17, .int .i64 m.m18, .int .i64 m.m19, .int .i64 m.m20, .int .i64 m.m21], [.int .i64 r0, .int .i64 r1, .int .i64 r2], [.int .i64 x, .int .i64 y, .int .i64 z]])) K) =
    ((h2 = true → ((m.m2 == 91) = true → (-9223372036854775808 ≤ z + n2 ∧ z + n2 ≤ 9223372036854775807) ∧ ∀ (x1 : Int), x1 = z + n2 → K .normal ([.ce (.ptr 1000003 0), .ce (.ptr 1000006 0), .ce (.bool y0), .ce (.ptr 1000019 0), .agg [.int .i64 n0, .bool h0, .int .i64 n1, .bool h1, .int .i64 n2, .bool h2], .ce (.num .i64 (3 : Int))], [(cM m), [.int .i64 r0, .int .i64 r1, .int .i64 r2], [.int .i64 x, .int .i64 y, .int .i64 x1]])) ∧ ((m.m2 == 91) = false → (h2 = true → K .normal ([.ce (.ptr 1000003 0), .ce (.ptr 1000006 0), .ce (.bool y0), .ce (.ptr 1000019 0), .agg [.int .i64 n0, .bool h0, .int .i64 n1, .bool h1, .int .i64 n2, .bool h2], .ce (.num .i64 (3 : Int))], [(cM m), [.int .i64 r0, .int .i64 r1, .int .i64 r2], [.int .i64 x, .int .i64 y, .int .i64 n2]])) ∧
    (h2 = false → K .normal ([.ce (.ptr 1000003 0), .ce (.ptr 1000006 0), .ce (.bool y0), .ce (.ptr 1000019 0), .agg [.int .i64 n0, .bool h0, .int .i64 n1, .bool h1, .int .i64 n2, .bool h2], .ce (.num .i64 (3 : Int))], [(cM m), [.int .i64 r0, .int .i64 r1, .int .i64 r2], [.int .i64 x, .int .i64 y, .int .i64 z]])))) ∧ (h2 = false → (h2 = true → K .normal ([.ce (.ptr 1000003 0), .ce (.ptr 1000006 0), .ce (.bool y0), .ce (.ptr 1000019 0), .agg [.int .i64 n0, .bool h0, .int .i64 n1, .bool h1, .int .i64 n2, .bool h2], .ce (.num .i64 (3 : Int))], [(cM m), [.int .i64 r0, .int .i64 r1, .int .i64 r2], [.int .i64 x, .int .i64 y, .int .i64 n2]])) ∧
    (h2 = false → K .normal ([.ce (.ptr 1000003 0), .ce (.ptr 1000006 0), .ce (.bool y0), .ce (.ptr 1000019 0), .agg [.int .i64 n0, .bool h0, .int .i64 n1, .bool h1, .int .i64 n2, .bool h2], .ce (.num .i64 (3 : Int))], [(cM m), [.int .i64 r0, .int .i64 r1, .int .i64 r2], [.int .i64 x, .int .i64 y, .int .i64 z]])))) := by kernel_rfl
theorem vbT63 (m : M) (y0 h0 h1 h2 : Bool) (x y z r0 r1 r2 n0 n1 n2 : Int) (K : HEx → LV → Prop) : (nbodyT true CTgt anT6 (nthLoop Tryd.f17 2) (([.ce (.ptr 1000003 0), .ce (.ptr 1000006 0), .ce (.bool y0), .ce (.ptr 1000019 0), .agg [.int .i64 n0, .bool h0, .int .i64 n1, .bool h1, .int .i64 n2, .bool h2], .ce (.num .i64 3)], [[.int .i64 m.m0, .int .i64 m.m1, .int .i64 m.m2, .int .i64 m.m3, .int .i64 m.m4, .int .i64 m.m5, .int .i64 m.m6, .int .i64 m.m7, .int .i64 m.m8, .int .i64 m.m9, .int .i64 m.m10, .int .i64 m.m11, .int .i64 m.m12, .bool m.m13, .bool m.m14, .int .i64 m.m15, .int .i64 m.m16, .int .i64 m.m17, .int .i64 m.m18, .int .i64 m.m19, .int .i64 m.m20, .int .i64 m.m21], [.int .i64 r0, .int .i64 r1, .int .i64 r2], [.int .i64 x, .int .i64 y, .int .i64 z]])) K) =
    (K (.exit 4) ([.ce (.ptr 1000006 0), .ce (.bool y0), .ce (.ptr 1000019 0)], [(cM m), [.int .i64 r0, .int .i64 r1, .int .i64 r2], [.int .i64 x, .int .i64 y, .int .i64 z]])) := by kernel_rfl
theorem vgT3 (m : M) (t7 y0 h0 h1 h2 : Bool) (t8 f s a x y z r0 r1 r2 n0 n1 n2 : Int) (K : HEx → LV → Prop) : (nfragT true CTgt anT3 (nthFrag CTgt Tryd.f17 0) (([.ce (.ptr 1000003 0), .ce (.ptr 1000005 0), .ce (.ptr 1000006 0), .ce (.bool t7), .ce (.int .i64 t8), .ce (.ptr 1000009 0), .ce (.bool y0), .ce (.int .i64 f), .ce (.int .i64 s), .ce (.int .i64 a)], [[.int .i64 m.m0, .int .i64 m.m1, .int .i64 m.m2, .int .i64 m.m3, .int .i64 m.m4, .int .i64 m.m5, .int .i64 m.m6, .int .i64 m.m7, .int .i64 m.m8, .int .i64 m.m9, .int .i64 m.m10, .int .i64 m.m11, .int .i64 m.m12, .bool m.m13, .bool m.m14, .int .i64 m.m15, .int .i64 m.m16, .int .i64 m.m17, .int .i64 m.m18, .int .i64 m.m19, .int .i64 m.m20, .int .i64 m.m21], [.int .i64 x, .int .i64 y, .int .i64 z], [.int .i64 r0, .int .i64 r1, .int .i64 r2], [.int .i64 n0, .bool h0, .int .i64 n1, .bool h1, .int .i64 n2, .bool h2]])) K) =
    ((f = 0 → (s = 0 → (decide (a ≥ 0) = true → K .normal ([.ce (.ptr 1000003 0), .ce (.ptr 1000005 0), .ce (.ptr 1000006 0), .ce (.bool t7), .ce (.int .i64 t8), .ce (.ptr 1000009 0), .ce (.bool y0), .ce (.int .i64 0), .ce (.int .i64 0), .ce (.int .i64 a), .ce (.bool !h0 == h0)], [(cM m), [.int .i64 x, .int .i64 y, .int .i64 z], [.int .i64 r0, .int .i64 r1, .int .i64 r2], [.int .i64 n0, .bool h0, .int .i64 n1, .bool h1, .int .i64 n2, .bool h2]])) ∧ (decide (a ≥ 0) = false → K .normal ([.ce (.ptr 1000003 0), .ce (.ptr 1000005 0), .ce (.ptr 1000006 0), .ce (.bool t7), .ce (.int .i64 t8), .ce (.ptr 1000009 0), .ce (.bool y0), .ce (.int .i64 0), .ce (.int .i64 0), .ce (.int .i64 a), .ce (.bool false)], [(cM m), [.int .i64 x, .int .i64 y, .int .i64 z], [.int .i64 r0, .int .i64 r1, .int .i64 r2], [.int .i64 n0, .bool h0, .int .i64 n1, .bool h1, .int .i64 n2, .bool h2]]))) ∧
    (s ≠ 0 → (s = 1 → (decide (a ≥ 0) = true → K .normal ([.ce (.ptr 1000003 0), .ce (.ptr 1000005 0), .ce (.ptr 1000006 0), .ce (.bool t7), .ce (.int .i64 t8), .ce (.ptr 1000009 0), .ce (.bool y0), .ce (.int .i64 0), .ce (.int .i64 1), .ce (.int .i64 a), .ce (.bool !h0 == h1)], [(cM m), [.int .i64 x, .int .i64 y, .int .i64 z], [.int .i64 r0, .int .i64 r1, .int .i64 r2], [.int .i64 n0, .bool h0, .int .i64 n1, .bool h1, .int .i64 n2, .bool h2]])) ∧ (decide (a ≥ 0) = false → K .normal ([.ce (.ptr 1000003 0), .ce (.ptr 1000005 0), .ce (.ptr 1000006 0), .ce (.bool t7), .ce (.int .i64 t8), .ce (.ptr 1000009 0), .ce (.bool y0), .ce (.int .i64 0), .ce (.int .i64 1), .ce (.int .i64 a), .ce (.bool false)], [(cM m), [.int .i64 x, .int .i64 y, .int .i64 z], [.int .i64 r0, .int .i64 r1, .int .i64 r2], [.int .i64 n0, .bool h0, .int .i64 n1, .bool h1, .int .i64 n2, .bool h2]]))) ∧
    (s ≠ 1 → (s = 2 → (decide (a ≥ 0) = true → K .normal ([.ce (.ptr 1000003 0), .ce (.ptr 1000005 0), .ce (.ptr 1000006 0), .ce (.bool t7), .ce (.int .i64 t8), .ce (.ptr 1000009 0), .ce (.bool y0), .ce (.int .i64 0), .ce (.int .i64 2), .ce (.int .i64 a), .ce (.bool !h0 == h2)], [(cM m), [.int .i64 x, .int .i64 y, .int .i64 z], [.int .i64 r0, .int .i64 r1, .int .i64 r2], [.int .i64 n0, .bool h0, .int .i64 n1, .bool h1, .int .i64 n2, .bool h2]])) ∧ (decide (a ≥ 0) = false → K .normal ([.ce (.ptr 1000003 0), .ce (.ptr 1000005 0), .ce (.ptr 1000006 0), .ce (.bool t7), .ce (.int .i64 t8), .ce (.ptr 1000009 0), .ce (.bool y0), .ce (.int .i64 0), .ce (.int .i64 2), .ce (.int .i64 a), .ce (.bool false)], [(cM m), [.int .i64 x, .int .i64 y, .int .i64 z], [.int .i64 r0, .int .i64 r1, .int .i64 r2], [.int .i64 n0, .bool h0, .int .i64 n1, .bool h1, .int .i64 n2, .bool h2]]))) ∧
    (s ≠ 2 → False)))) ∧ (f ≠ 0 → (f = 1 → (s = 0 → (decide (a ≥ 0) = true → K .normal ([.ce (.ptr 1000003 0), .ce (.ptr 1000005 0), .ce (.ptr 1000006 0), .ce (.bool t7), .ce (.int .i64 t8), .ce (.ptr 1000009 0), .ce (.bool y0), .ce (.int .i64 1), .ce (.int .i64 0), .ce (.int .i64 a), .ce (.bool !h1 == h0)], [(cM m), [.int .i64 x, .int .i64 y, .int .i64 z], [.int .i64 r0, .int .i64 r1, .int .i64 r2], [.int .i64 n0, .bool h0, .int .i64 n1, .bool h1, .int .i64 n2, .bool h2]])) ∧ (decide (a ≥ 0) = false → K .normal ([.ce (.ptr 1000003 0), .ce (.ptr 1000005 0), .ce (.ptr 1000006 0), .ce (.bool t7), .ce (.int .i64 t8), .ce (.ptr 1000009 0), .ce (.bool y0), .ce (.int .i64 1), .ce (.int .i64 0), .ce (.int .i64 a), .ce (.bool false)], [(cM m), [.int .i64 x, .int .i64 y, .int .i64 z], [.int .i64 r0, .int .i64 r1, .int .i64 r2], [.int .i64 n0, .bool h0, .int .i64 n1, .bool h1, .int .i64 n2, .bool h2]]))) ∧
    (s ≠ 0 → (s = 1 → (decide (a ≥ 0) = true → K .normal ([.ce (.ptr 1000003 0), .ce (.ptr 1000005 0), .ce (.ptr 1000006 0), .ce (.bool t7), .ce (.int .i64 t8), .ce (.ptr 1000009 0), .ce (.bool y0), .ce (.int .i64 1), .ce (.int .i64 1), .ce (.int .i64 a), .ce (.bool !h1 == h1)], [(cM m), [.int .i64 x, .int .i64 y, .int .i64 z], [.int .i64 r0, .int .i64 r1, .int .i64 r2], [.int .i64 n0, .bool h0, .int .i64 n1, .bool h1, .int .i64 n2, .bool h2]])) ∧ (decide (a ≥ 0) = false → K .normal ([.ce (.ptr 1000003 0), .ce (.ptr 1000005 0), .ce (.ptr 1000006 0), .ce (.bool t7), .ce (.int .i64 t8), .ce (.ptr 1000009 0), .ce (.bool y0), .ce (.int .i64 1), .ce (.int .i64 1), .ce (.int .i64 a), .ce (.bool false)], [(cM m), [.int .i64 x, .int .i64 y, .int .i64 z], [.int .i64 r0, .int .i64 r1, .int .i64 r2], [.int .i64 n0, .bool h0, .int .i64 n1, .bool h1, .int .i64 n2, .bool h2]]))) ∧
    (s ≠ 1 → (s = 2 → (decide (a ≥ 0) = true → K .normal ([.ce (.ptr 1000003 0), .ce (.ptr 1000005 0), .ce (.ptr 1000006 0), .ce (.bool t7), .ce (.int .i64 t8), .ce (.ptr 1000009 0), .ce (.bool y0), .ce (.int .i64 1), .ce (.int .i64 2), .ce (.int .i64 a), .ce (.bool !h1 == h2)], [(cM m), [.int .i64 x, .int .i64 y, .int .i64 z], [.int .i64 r0, .int .i64 r1, .int .i64 r2], [.int .i64 n0, .bool h0, .int .i64 n1, .bool h1, .int .i64 n2, .bool h2]])) ∧ (decide (a ≥ 0) = false → K .normal ([.ce (.ptr 1000003 0), .ce (.ptr 1000005 0), .ce (.ptr 1000006 0), .ce (.bool t7), .ce (.int .i64 t8), .ce (.ptr 1000009 0), .ce (.bool y0), .ce (.int .i64 1), .ce (.int .i64 2), .ce (.int .i64 a), .ce (.bool false)], [(cM m), [.int .i64 x, .int .i64 y, .int .i64 z], [.int .i64 r0, .int .i64 r1, .int .i64 r2], [.int .i64 n0, .bool h0, .int .i64 n1, .bool h1, .int .i64 n2, .bool h2]]))) ∧
    (s ≠ 2 → False)))) ∧ (f ≠ 1 → (f = 2 → (s = 0 → (decide (a ≥ 0) = true → K .normal ([.ce (.ptr 1000003 0), .ce (.ptr 1000005 0), .ce (.ptr 1000006 0), .ce (.bool t7), .ce (.int .i64 t8), .ce (.ptr 1000009 0), .ce (.bool y0), .ce (.int .i64 2), .ce (.int .i64 0), .ce (.int .i64 a), .ce (.bool !h2 == h0)], [(cM m), [.int .i64 x, .int .i64 y, .int .i64 z], [.int .i64 r0, .int .i64 r1, .int .i64 r2], [.int .i64 n0, .bool h0, .int .i64 n1, .bool h1, .int .i64 n2, .bool h2]])) ∧ (decide (a ≥ 0) = false → K .normal ([.ce (.ptr 1000003 0), .ce (.ptr 1000005 0), .ce (.ptr 1000006 0), .ce (.bool t7), .ce (.int .i64 t8), .ce (.ptr 1000009 0), .ce (.bool y0), .ce (.int .i64 2), .ce (.int .i64 0), .ce (.int .i64 a), .ce (.bool false)], [(cM m), [.int .i64 x, .int .i64 y, .int .i64 z], [.int .i64 r0, .int .i64 r1, .int .i64 r2], [.int .i64 n0, .bool h0, .int .i64 n1, .bool h1, .int .i64 n2, .bool h2]]))) ∧
    (s ≠ 0 → (s = 1 → (decide (a ≥ 0) = true → K .normal ([.ce (.ptr 1000003 0), .ce (.ptr 1000005 0), .ce (.ptr 1000006 0), .ce (.bool t7), .ce (.int .i64 t8), .ce (.ptr 1000009 0), .ce (.bool y0), .ce (.int .i64 2), .ce (.int .i64 1), .ce (.int .i64 a), .ce (.bool !h2 == h1)], [(cM m), [.int .i64 x, .int .i64 y, .int .i64 z], [.int .i64 r0, .int .i64 r1, .int .i64 r2], [.int .i64 n0, .bool h0, .int .i64 n1, .bool h1, .int .i64 n2, .bool h2]])) ∧ (decide (a ≥ 0) = false → K .normal ([.ce (.ptr 1000003 0), .ce (.ptr 1000005 0), .ce (.ptr 1000006 0), .ce (.bool t7), .ce (.int .i64 t8), .ce (.ptr 1000009 0), .ce (.bool y0), .ce (.int .i64 2), .ce (.int .i64 1), .ce (.int .i64 a), .ce (.bool false)], [(cM m), [.int .i64 x, .int .i64 y, .int .i64 z], [.int .i64 r0, .int .i64 r1, .int .i64 r2], [.int .i64 n0, .bool h0, .int .i64 n1, .bool h1, .int .i64 n2, .bool h2]]))) ∧
    (s ≠ 1 → (s = 2 → (decide (a ≥ 0) = true → K .normal ([.ce (.ptr 1000003 0), .ce (.ptr 1000005 0), .ce (.ptr 1000006 0), .ce (.bool t7), .ce (.int .i64 t8), .ce (.ptr 1000009 0), .ce (.bool y0), .ce (.int .i64 2), .ce (.int .i64 2), .ce (.int .i64 a), .ce (.bool !h2 == h2)], [(cM m), [.int .i64 x, .int .i64 y, .int .i64 z], [.int .i64 r0, .int .i64 r1, .int .i64 r2], [.int .i64 n0, .bool h0, .int .i64 n1, .bool h1, .int .i64 n2, .bool h2]])) ∧ (decide (a ≥ 0) = false → K .normal ([.ce (.ptr 1000003 0), .ce (.ptr 1000005 0), .ce (.ptr 1000006 0), .ce (.bool t7), .ce (.int .i64 t8), .ce (.ptr 1000009 0), .ce (.bool y0), .ce (.int .i64 2), .ce (.int .i64 2), .ce (.int .i64 a), .ce (.bool false)], [(cM m), [.int .i64 x, .int .i64 y, .int .i64 z], [.int .i64 r0, .int .i64 r1, .int .i64 r2], [.int .i64 n0, .bool h0, .int .i64 n1, .bool h1, .int .i64 n2, .bool h2]]))) ∧
    (s ≠ 2 → False)))) ∧ (f ≠ 2 → False)))) := by kernel_rfl
theorem vgT4 (m : M) (y0 h0 h1 h2 : Bool) (f s a x y z r0 r1 r2 n0 n1 n2 : Int) (K : HEx → LV → Prop) : (nfragT true CTgt anT4 (nthFrag CTgt Tryd.f17 1) (([.ce (.ptr 1000003 0), .ce (.ptr 1000006 0), .ce (.ptr 1000009 0), .ce (.bool y0), .ce (.int .i64 f), .ce (.int .i64 s), .ce (.int .i64 a), .ce (.ptr 1000019 0)], [[.int .i64 m.m0, .int .i64 m.m1, .int .i64 m.m2, .int .i64 m.m3, .int .i64 m.m4, .int .i64 m.m5, .int .i64 m.m6, .int .i64 m.m7, .int .i64 m.m8, .int .i64 m.m9, .int .i64 m.m10, .int .i64 m.m11, .int .i64 m.m12, .bool m.m13, .bool m.m14, .int .i64 m.m15, .int .i64 m.m16, .int .i64 m.m17, .int .i64 m.m18, .int .i64 m.m19, .int .i64 m.m20, .int .i64 m.m21], [.int .i64 r0, .int .i64 r1, .int .i64 r2], [.int .i64 n0, .bool h0, .int .i64 n1, .bool h1, .int .i64 n2, .bool h2], [.int .i64 x, .int .i64 y, .int .i64 z]])) K) =
    ((f = 0 → (decide (a ≥ 0) = true → K .normal ([.ce (.ptr 1000003 0), .ce (.ptr 1000006 0), .ce (.ptr 1000009 0), .ce (.bool y0), .ce (.int .i64 0), .ce (.int .i64 s), .ce (.ptr 1000019 0), .ce (.bool h0)], [(cM m), [.int .i64 r0, .int .i64 r1, .int .i64 r2], [.int .i64 n0, .bool h0, .int .i64 n1, .bool h1, .int .i64 n2, .bool h2], [.int .i64 x, .int .i64 y, .int .i64 z]])) ∧ (decide (a ≥ 0) = false → K .normal ([.ce (.ptr 1000003 0), .ce (.ptr 1000006 0), .ce (.ptr 1000009 0), .ce (.bool y0), .ce (.int .i64 0), .ce (.int .i64 s), .ce (.ptr 1000019 0), .ce (.bool false)], [(cM m), [.int .i64 r0, .int .i64 r1, .int .i64 r2], [.int .i64 n0, .bool h0, .int .i64 n1, .bool h1, .int .i64 n2, .bool h2], [.int .i64 x, .int .i64 y, .int .i64 z]]))) ∧
    (f ≠ 0 → (f = 1 → (decide (a ≥ 0) = true → K .normal ([.ce (.ptr 1000003 0), .ce (.ptr 1000006 0), .ce (.ptr 1000009 0), .ce (.bool y0), .ce (.int .i64 1), .ce (.int .i64 s), .ce (.ptr 1000019 0), .ce (.bool h1)], [(cM m), [.int .i64 r0, .int .i64 r1, .int .i64 r2], [.int .i64 n0, .bool h0, .int .i64 n1, .bool h1, .int .i64 n2, .bool h2], [.int .i64 x, .int .i64 y, .int .i64 z]])) ∧ (decide (a ≥ 0) = false → K .normal ([.ce (.ptr 1000003 0), .ce (.ptr 1000006 0), .ce (.ptr 1000009 0), .ce (.bool y0), .ce (.int .i64 1), .ce (.int .i64 s), .ce (.ptr 1000019 0), .ce (.bool false)], [(cM m), [.int .i64 r0, .int .i64 r1, .int .i64 r2], [.int .i64 n0, .bool h0, .int .i64 n1, .bool h1, .int .i64 n2, .bool h2], [.int .i64 x, .int .i64 y, .int .i64 z]]))) ∧
    (f ≠ 1 → (f = 2 → (decide (a ≥ 0) = true → K .normal ([.ce (.ptr 1000003 0), .ce (.ptr 1000006 0), .ce (.ptr 1000009 0), .ce (.bool y0), .ce (.int .i64 2), .ce (.int .i64 s), .ce (.ptr 1000019 0), .ce (.bool h2)], [(cM m), [.int .i64 r0, .int .i64 r1, .int .i64 r2], [.int .i64 n0, .bool h0, .int .i64 n1, .bool h1, .int .i64 n2, .bool h2], [.int .i64 x, .int .i64 y, .int .i64 z]])) ∧ (decide (a ≥ 0) = false → K .normal ([.ce (.ptr 1000003 0), .ce (.ptr 1000006 0), .ce (.ptr 1000009 0), .ce (.bool y0), .ce (.int .i64 2), .ce (.int .i64 s), .ce (.ptr 1000019 0), .ce (.bool false)], [(cM m), [.int .i64 r0, .int .i64 r1, .int .i64 r2], [.int .i64 n0, .bool h0, .int .i64 n1, .bool h1, .int .i64 n2, .bool h2], [.int .i64 x, .int .i64 y, .int .i64 z]]))) ∧
    (f ≠ 2 → False)))) := by kernel_rfl
theorem vgT5 (m : M) (y0 h0 h1 h2 c : Bool) (f s x y z r0 r1 r2 n0 n1 n2 : Int) (K : HEx → LV → Prop) : (nfragT true CTgt anT5 (nthFrag CTgt Tryd.f17 2) (([.ce (.ptr 1000003 0), .ce (.ptr 1000006 0), .ce (.ptr 1000009 0), .ce (.bool y0), .ce (.int .i64 f), .ce (.int .i64 s), .ce (.ptr 1000019 0), .ce (.bool c)], [[.int .i64 m.m0, .int .i64 m.m1, .int .i64 m.m2, .int .i64 m.m3, .int .i64 m.m4, .int .i64 m.m5, .int .i64 m.m6, .int .i64 m.m7, .int .i64 m.m8, .int .i64 m.m9, .int .i64 m.m10, .int .i64 m.m11, .int .i64 m.m12, .bool m.m13, .bool m.m14, .int .i64 m.m15, .int .i64 m.m16, .int .i64 m.m17, .int .i64 m.m18, .int .i64 m.m19, .int .i64 m.m20, .int .i64 m.m21], [.int .i64 r0, .int .i64 r1, .int .i64 r2], [.int .i64 n0, .bool h0, .int .i64 n1, .bool h1, .int .i64 n2, .bool h2], [.int .i64 x, .int .i64 y, .int .i64 z]])) K) =
    ((c = true → (f = 0 → (s = 0 → True ∧ ∀ (x1 : Int), x1 = rtU n0 (0 : Int) n0 → ∀ (x2 : Int), x2 = rtW n0 (0 : Int) n0 → ∀ (x3 : Bool), x3 = rtB n0 (0 : Int) → K .normal ([.ce (.ptr 1000003 0), .ce (.ptr 1000006 0), .ce (.ptr 1000009 0), .ce (.bool y0), .ce (.ptr 1000019 0)], [(cM m), [.int .i64 r0, .int .i64 r1, .int .i64 r2], [.int .i64 x2, .bool h0, .int .i64 n1, .bool h1, .int .i64 n2, .bool h2], [.int .i64 x, .int .i64 y, .int .i64 z]])) ∧ (s ≠ 0 → (s = 1 → True ∧ ∀ (x4 : Int), x4 = rtU n0 (0 : Int) n1 → ∀ (x5 : Int), x5 = rtW n0 (0 : Int) n1 →
    ∀ (x6 : Bool), x6 = rtB n0 (0 : Int) → K .normal ([.ce (.ptr 1000003 0), .ce (.ptr 1000006 0), .ce (.ptr 1000009 0), .ce (.bool y0), .ce (.ptr 1000019 0)], [(cM m), [.int .i64 r0, .int .i64 r1, .int .i64 r2], [.int .i64 x4, .bool h0, .int .i64 x5, .bool h1, .int .i64 n2, .bool h2], [.int .i64 x, .int .i64 y, .int .i64 z]])) ∧ (s ≠ 1 → (s = 2 → True ∧ ∀ (x7 : Int), x7 = rtU n0 (0 : Int) n2 → ∀ (x8 : Int), x8 = rtW n0 (0 : Int) n2 → ∀ (x9 : Bool), x9 = rtB n0 (0 : Int) → K .normal ([.ce (.ptr 1000003 0), .ce (.ptr 1000006 0), .ce (.ptr 1000009 0), .ce (.bool y0), .ce (.ptr 1000019 0)], [(cM m), [.int .i64 r0, .int .i64 r1, .int .i64 r2], [.int .i64 x7, .bool h0, .int .i64 n1, .bool h1, .int .i64 x8, .bool h2], [.int .i64 x, .int .i64 y, .int .i64 z]])) ∧
    (s ≠ 2 → False)))) ∧ (f ≠ 0 → (f = 1 → (s = 0 → True ∧ ∀ (x10 : Int), x10 = rtU n1 (0 : Int) n0 → ∀ (x11 : Int), x11 = rtW n1 (0 : Int) n0 → ∀ (x12 : Bool), x12 = rtB n1 (0 : Int) → K .normal ([.ce (.ptr 1000003 0), .ce (.ptr 1000006 0), .ce (.ptr 1000009 0), .ce (.bool y0), .ce (.ptr 1000019 0)], [(cM m), [.int .i64 r0, .int .i64 r1, .int .i64 r2], [.int .i64 x11, .bool h0, .int .i64 x10, .bool h1, .int .i64 n2, .bool h2], [.int .i64 x, .int .i64 y, .int .i64 z]])) ∧ (s ≠ 0 → (s = 1 → True ∧ ∀ (x13 : Int), x13 = rtU n1 (0 : Int) n1 → ∀ (x14 : Int), x14 = rtW n1 (0 : Int) n1 →
    ∀ (x15 : Bool), x15 = rtB n1 (0 : Int) → K .normal ([.ce (.ptr 1000003 0), .ce (.ptr 1000006 0), .ce (.ptr 1000009 0), .ce (.bool y0), .ce (.ptr 1000019 0)], [(cM m), [.int .i64 r0, .int .i64 r1, .int .i64 r2], [.int .i64 n0, .bool h0, .int .i64 x14, .bool h1, .int .i64 n2, .bool h2], [.int .i64 x, .int .i64 y, .int .i64 z]])) ∧ (s ≠ 1 → (s = 2 → True ∧ ∀ (x16 : Int), x16 = rtU n1 (0 : Int) n2 → ∀ (x17 : Int), x17 = rtW n1 (0 : Int) n2 → ∀ (x18 : Bool), x18 = rtB n1 (0 : Int) → K .normal ([.ce (.ptr 1000003 0), .ce (.ptr 1000006 0), .ce (.ptr 1000009 0), .ce (.bool y0), .ce (.ptr 1000019 0)], [(cM m), [.int .i64 r0, .int .i64 r1, .int .i64 r2], [.int .i64 n0, .bool h0, .int .i64 x16, .bool h1, .int .i64 x17, .bool h2], [.int .i64 x, .int .i64 y, .int .i64 z]])) ∧
    (s ≠ 2 → False)))) ∧ (f ≠ 1 → (f = 2 → (s = 0 → True ∧ ∀ (x19 : Int), x19 = rtU n2 (0 : Int) n0 → ∀ (x20 : Int), x20 = rtW n2 (0 : Int) n0 → ∀ (x21 : Bool), x21 = rtB n2 (0 : Int) → K .normal ([.ce (.ptr 1000003 0), .ce (.ptr 1000006 0), .ce (.ptr 1000009 0), .ce (.bool y0), .ce (.ptr 1000019 0)], [(cM m), [.int .i64 r0, .int .i64 r1, .int .i64 r2], [.int .i64 x20, .bool h0, .int .i64 n1, .bool h1, .int .i64 x19, .bool h2], [.int .i64 x, .int .i64 y, .int .i64 z]])) ∧ (s ≠ 0 → (s = 1 → True ∧ ∀ (x22 : Int), x22 = rtU n2 (0 : Int) n1 → ∀ (x23 : Int), x23 = rtW n2 (0 : Int) n1 →
    ∀ (x24 : Bool), x24 = rtB n2 (0 : Int) → K .normal ([.ce (.ptr 1000003 0), .ce (.ptr 1000006 0), .ce (.ptr 1000009 0), .ce (.bool y0), .ce (.ptr 1000019 0)], [(cM m), [.int .i64 r0, .int .i64 r1, .int .i64 r2], [.int .i64 n0, .bool h0, .int .i64 x23, .bool h1, .int .i64 x22, .bool h2], [.int .i64 x, .int .i64 y, .int .i64 z]])) ∧ (s ≠ 1 → (s = 2 → True ∧ ∀ (x25 : Int), x25 = rtU n2 (0 : Int) n2 → ∀ (x26 : Int), x26 = rtW n2 (0 : Int) n2 → ∀ (x27 : Bool), x27 = rtB n2 (0 : Int) → K .normal ([.ce (.ptr 1000003 0), .ce (.ptr 1000006 0), .ce (.ptr 1000009 0), .ce (.bool y0), .ce (.ptr 1000019 0)], [(cM m), [.int .i64 r0, .int .i64 r1, .int .i64 r2], [.int .i64 n0, .bool h0, .int .i64 n1, .bool h1, .int .i64 x26, .bool h2], [.int .i64 x, .int .i64 y, .int .i64 z]])) ∧
    (s ≠ 2 → False)))) ∧ (f ≠ 2 → False)))) ∧ (c = false → K .normal ([.ce (.ptr 1000003 0), .ce (.ptr 1000006 0), .ce (.ptr 1000009 0), .ce (.bool y0), .ce (.ptr 1000019 0)], [(cM m), [.int .i64 r0, .int .i64 r1, .int .i64 r2], [.int .i64 n0, .bool h0, .int .i64 n1, .bool h1, .int .i64 n2, .bool h2], [.int .i64 x, .int .i64 y, .int .i64 z]]))) := by kernel_rfl
theorem vcTgt (m : M) (l : List (List Int)) (x y z : Int) (Q : Res → Prop) : (nfun true CTgt Tryd.f17 (bodyOf Tryd.f17) [.agg [.int .i64 m.m0, .int .i64 m.m1, .int .i64 m.m2, .int .i64 m.m3, .int .i64 m.m4, .int .i64 m.m5, .int .i64 m.m6, .int .i64 m.m7, .int .i64 m.m8, .int .i64 m.m9, .int .i64 m.m10, .int .i64 m.m11, .int .i64 m.m12, .bool m.m13, .bool m.m14, .int .i64 m.m15, .int .i64 m.m16, .int .i64 m.m17, .int .i64 m.m18, .int .i64 m.m19, .int .i64 m.m20, .int .i64 m.m21], .ce (.sl false [4, 4] l), .agg [.int .i64 x, .int .i64 y, .int .i64 z]] [] Q) =
    (True ∧ ∀ (x1 : Bool), x1 = wn x y z → ((!x1) = true → Q ⟨.tup [.agg [.int .i64 0, .int .i64 0, .int .i64 0], .ce (.bool false), .ce (.int .i64 1)], false, [], []⟩) ∧ ((!x1) = false → ((0 : Int) = (0 : Int) ∧ false = false ∧ ((88 : Int) = (88 : Int) ∧ (89 : Int) = (89 : Int) ∧ (90 : Int) = (90 : Int)) ∧ List.length l ≤ (1000 : Nat) ∧ ∃ (m_1 : M), (cM m) = cM m_1) ∧ True ∧ ∀ (x2 : Int), x2 = fsP m.m1 → ∀ (x3 : Int), x3 = scP m.m1 → ((m.m10 == 16) = true → True ∧ ∀ (x4 : Bool), x4 = isPl m.m1 → (x4 = true → ((0 : Int) = (0 : Int) ∧ ∃ (m_1 : M), (cM m) = cM m_1) ∧
    (wE x3 (0 : Int) (mI (cM m) (3 : Nat)) (fndB (88 : Int) l) (fndN (88 : Int) l) ≠ (0 : Int) → Q ⟨.tup [.agg [.int .i64 0, .int .i64 0, .int .i64 0], .ce (.bool false), .ce (.int .i64 (wE x3 (0 : Int) (mI (cM m) (3 : Nat)) (fndB (88 : Int) l) (fndN (88 : Int) l)))], false, [], []⟩) ∧
    (wE x3 (0 : Int) (mI (cM m) (3 : Nat)) (fndB (88 : Int) l) (fndN (88 : Int) l) = (0 : Int) ∧ wE x3 (1 : Int) (mI (cM m) (3 : Nat)) (fndB (89 : Int) l) (fndN (89 : Int) l) ≠ (0 : Int) → Q ⟨.tup [.agg [.int .i64 0, .int .i64 0, .int .i64 0], .ce (.bool false), .ce (.int .i64 (wE x3 (1 : Int) (mI (cM m) (3 : Nat)) (fndB (89 : Int) l) (fndN (89 : Int) l)))], false, [], []⟩) ∧
    (wE x3 (0 : Int) (mI (cM m) (3 : Nat)) (fndB (88 : Int) l) (fndN (88 : Int) l) = (0 : Int) ∧ wE x3 (1 : Int) (mI (cM m) (3 : Nat)) (fndB (89 : Int) l) (fndN (89 : Int) l) = (0 : Int) ∧ wE x3 (2 : Int) (mI (cM m) (3 : Nat)) (fndB (90 : Int) l) (fndN (90 : Int) l) ≠ (0 : Int) →
    Q ⟨.tup [.agg [.int .i64 0, .int .i64 0, .int .i64 0], .ce (.bool false), .ce (.int .i64 (wE x3 (2 : Int) (mI (cM m) (3 : Nat)) (fndB (90 : Int) l) (fndN (90 : Int) l)))], false, [], []⟩) ∧ (wE x3 (0 : Int) (mI (cM m) (3 : Nat)) (fndB (88 : Int) l) (fndN (88 : Int) l) = (0 : Int) ∧
    wE x3 (1 : Int) (mI (cM m) (3 : Nat)) (fndB (89 : Int) l) (fndN (89 : Int) l) = (0 : Int) ∧ wE x3 (2 : Int) (mI (cM m) (3 : Nat)) (fndB (90 : Int) l) (fndN (90 : Int) l) = (0 : Int) → ((0 ≤ x2 ∧ x2 ≤ 2 ∧
    0 ≤ x3 ∧ x3 ≤ 2) ∧ ∃ (m_1 : M), (cM m) = cM m_1) ∧ ∀ (x_1 : Bool), x_1 = (decide (0 ≤ x3) && at3b x2 (fndB (88 : Int) l) (fndB (89 : Int) l) (fndB (90 : Int) l) != at3b x3 (fndB (88 : Int) l) (fndB (89 : Int) l) (fndB (90 : Int) l)) → (x_1 = true → Q ⟨.tup [.agg [.int .i64 0, .int .i64 0, .int .i64 0], .ce (.bool false), .ce (.int .i64 9)], false, [], []⟩) ∧ (x_1 = false → ((0 ≤ x2 ∧ x2 ≤ 2) ∧ ∃ (m_1 : M), (cM m) = cM m_1) ∧
    ∀ (x_2 : Bool), x_2 = (decide (0 ≤ x3) && at3b x2 (fndB (88 : Int) l) (fndB (89 : Int) l) (fndB (90 : Int) l)) → ((0 ≤ x2 ∧ x2 ≤ 2 ∧ 0 ≤ x3 ∧ x3 ≤ 2) ∧ ∃ (m_1 : M), (cM m) = cM m_1) ∧ ∀ (x_3 : Int × Int × Int), (x_2 = false → x_3.1 = wN x3 (0 : Int) (mI (cM m) (3 : Nat)) (fndB (88 : Int) l) (fndN (88 : Int) l) ∧
    x_3.snd.1 = wN x3 (1 : Int) (mI (cM m) (3 : Nat)) (fndB (89 : Int) l) (fndN (89 : Int) l) ∧ x_3.snd.2 = wN x3 (2 : Int) (mI (cM m) (3 : Nat)) (fndB (90 : Int) l) (fndN (90 : Int) l)) ∧ (x_2 = true → x_3.1 = put3 x2 x3 (rtU (at3 x2 (wN x3 (0 : Int) (mI (cM m) (3 : Nat)) (fndB (88 : Int) l) (fndN (88 : Int) l)) (wN x3 (1 : Int) (mI (cM m) (3 : Nat)) (fndB (89 : Int) l) (fndN (89 : Int) l)) (wN x3 (2 : Int) (mI (cM m) (3 : Nat)) (fndB (90 : Int) l) (fndN (90 : Int) l))) (0 : Int) (at3 x3 (wN x3 (0 : Int) (mI (cM m) (3 : Nat)) (fndB (88 : Int) l) (fndN (88 : Int) l)) (wN x3 (1 : Int) (mI (cM m) (3 : Nat)) (fndB (89 : Int) l) (fndN (89 : Int) l)) (wN x3 (2 : Int) (mI (cM m) (3 : Nat)) (fndB (90 : Int) l) (fndN (90 : Int) l)))) (rtW (at3 x2 (wN x3 (0 : Int) (mI (cM m) (3 : Nat)) (fndB (88 : Int) l) (fndN (88 : Int) l)) (wN x3 (1 : Int) (mI (cM m) (3 : Nat)) (fndB (89 : Int) l) (fndN (89 : Int) l)) (wN x3 (2 : Int) (mI (cM m) (3 : Nat)) (fndB (90 : Int) l) (fndN (90 : Int) l))) (0 : Int) (at3 x3 (wN x3 (0 : Int) (mI (cM m) (3 : Nat)) (fndB (88 : Int) l) (fndN (88 : Int) l)) (wN x3 (1 : Int) (mI (cM m) (3 : Nat)) (fndB (89 : Int) l) (fndN (89 : Int) l)) (wN x3 (2 : Int) (mI (cM m) (3 : Nat)) (fndB (90 : Int) l) (fndN (90 : Int) l)))) (0 : Int) (wN x3 (0 : Int) (mI (cM m) (3 : Nat)) (fndB (88 : Int) l) (fndN (88 : Int) l)) ∧
    x_3.snd.1 = put3 x2 x3 (rtU (at3 x2 (wN x3 (0 : Int) (mI (cM m) (3 : Nat)) (fndB (88 : Int) l) (fndN (88 : Int) l)) (wN x3 (1 : Int) (mI (cM m) (3 : Nat)) (fndB (89 : Int) l) (fndN (89 : Int) l)) (wN x3 (2 : Int) (mI (cM m) (3 : Nat)) (fndB (90 : Int) l) (fndN (90 : Int) l))) (0 : Int) (at3 x3 (wN x3 (0 : Int) (mI (cM m) (3 : Nat)) (fndB (88 : Int) l) (fndN (88 : Int) l)) (wN x3 (1 : Int) (mI (cM m) (3 : Nat)) (fndB (89 : Int) l) (fndN (89 : Int) l)) (wN x3 (2 : Int) (mI (cM m) (3 : Nat)) (fndB (90 : Int) l) (fndN (90 : Int) l)))) (rtW (at3 x2 (wN x3 (0 : Int) (mI (cM m) (3 : Nat)) (fndB (88 : Int) l) (fndN (88 : Int) l)) (wN x3 (1 : Int) (mI (cM m) (3 : Nat)) (fndB (89 : Int) l) (fndN (89 : Int) l)) (wN x3 (2 : Int) (mI (cM m) (3 : Nat)) (fndB (90 : Int) l) (fndN (90 : Int) l))) (0 : Int) (at3 x3 (wN x3 (0 : Int) (mI (cM m) (3 : Nat)) (fndB (88 : Int) l) (fndN (88 : Int) l)) (wN x3 (1 : Int) (mI (cM m) (3 : Nat)) (fndB (89 : Int) l) (fndN (89 : Int) l)) (wN x3 (2 : Int) (mI (cM m) (3 : Nat)) (fndB (90 : Int) l) (fndN (90 : Int) l)))) (1 : Int) (wN x3 (1 : Int) (mI (cM m) (3 : Nat)) (fndB (89 : Int) l) (fndN (89 : Int) l)) ∧
    x_3.snd.2 = put3 x2 x3 (rtU (at3 x2 (wN x3 (0 : Int) (mI (cM m) (3 : Nat)) (fndB (88 : Int) l) (fndN (88 : Int) l)) (wN x3 (1 : Int) (mI (cM m) (3 : Nat)) (fndB (89 : Int) l) (fndN (89 : Int) l)) (wN x3 (2 : Int) (mI (cM m) (3 : Nat)) (fndB (90 : Int) l) (fndN (90 : Int) l))) (0 : Int) (at3 x3 (wN x3 (0 : Int) (mI (cM m) (3 : Nat)) (fndB (88 : Int) l) (fndN (88 : Int) l)) (wN x3 (1 : Int) (mI (cM m) (3 : Nat)) (fndB (89 : Int) l) (fndN (89 : Int) l)) (wN x3 (2 : Int) (mI (cM m) (3 : Nat)) (fndB (90 : Int) l) (fndN (90 : Int) l)))) (rtW (at3 x2 (wN x3 (0 : Int) (mI (cM m) (3 : Nat)) (fndB (88 : Int) l) (fndN (88 : Int) l)) (wN x3 (1 : Int) (mI (cM m) (3 : Nat)) (fndB (89 : Int) l) (fndN (89 : Int) l)) (wN x3 (2 : Int) (mI (cM m) (3 : Nat)) (fndB (90 : Int) l) (fndN (90 : Int) l))) (0 : Int) (at3 x3 (wN x3 (0 : Int) (mI (cM m) (3 : Nat)) (fndB (88 : Int) l) (fndN (88 : Int) l)) (wN x3 (1 : Int) (mI (cM m) (3 : Nat)) (fndB (89 : Int) l) (fndN (89 : Int) l)) (wN x3 (2 : Int) (mI (cM m) (3 : Nat)) (fndB (90 : Int) l) (fndN (90 : Int) l)))) (2 : Int) (wN x3 (2 : Int) (mI (cM m) (3 : Nat)) (fndB (90 : Int) l) (fndN (90 : Int) l))) →
    ((0 : Int) = (0 : Int) ∧ (∃ (m_1 : M), (cM m) = cM m_1) ∧ B3 (1099511627776 : Int) x y z ∧ (fndB (88 : Int) l = true → (-1099511627776 : Int) ≤ x_3.1 ∧ x_3.1 ≤ 1099511627776) ∧ (fndB (89 : Int) l = true → (-1099511627776 : Int) ≤ x_3.snd.1 ∧ x_3.snd.1 ≤ 1099511627776) ∧ (fndB (90 : Int) l = true → (-1099511627776 : Int) ≤ x_3.snd.2 ∧ x_3.snd.2 ≤ 1099511627776)) ∧ True ∧ ∀ (x8 : Bool), x8 = wn (mv (mI (cM m) (2 : Nat)) (fndB (88 : Int) l) x x_3.1) (mv (mI (cM m) (2 : Nat)) (fndB (89 : Int) l) y x_3.snd.1) (mv (mI (cM m) (2 : Nat)) (fndB (90 : Int) l) z x_3.snd.2) →
    ((!x8) = true → Q ⟨.tup [.agg [.int .i64 0, .int .i64 0, .int .i64 0], .ce (.bool false), .ce (.int .i64 3)], false, [], []⟩) ∧ ((!x8) = false → Q ⟨.tup [.agg [.int .i64 (mv (mI (cM m) (2 : Nat)) (fndB (88 : Int) l) x x_3.1), .int .i64 (mv (mI (cM m) (2 : Nat)) (fndB (89 : Int) l) y x_3.snd.1), .int .i64 (mv (mI (cM m) (2 : Nat)) (fndB (90 : Int) l) z x_3.snd.2)], .ce (.bool (fndB (88 : Int) l || (fndB (89 : Int) l || fndB (90 : Int) l))), .ce (.int .i64 0)], false, [], []⟩)))) ∧
    (x4 = false → ((0 : Int) = (0 : Int) ∧ ∃ (m_1 : M), (cM m) = cM m_1) ∧ (wE (-1 : Int) (0 : Int) (mI (cM m) (3 : Nat)) (fndB (88 : Int) l) (fndN (88 : Int) l) ≠ (0 : Int) → Q ⟨.tup [.agg [.int .i64 0, .int .i64 0, .int .i64 0], .ce (.bool false), .ce (.int .i64 (wE (-1 : Int) (0 : Int) (mI (cM m) (3 : Nat)) (fndB (88 : Int) l) (fndN (88 : Int) l)))], false, [], []⟩) ∧
    (wE (-1 : Int) (0 : Int) (mI (cM m) (3 : Nat)) (fndB (88 : Int) l) (fndN (88 : Int) l) = (0 : Int) ∧ wE (-1 : Int) (1 : Int) (mI (cM m) (3 : Nat)) (fndB (89 : Int) l) (fndN (89 : Int) l) ≠ (0 : Int) → Q ⟨.tup [.agg [.int .i64 0, .int .i64 0, .int .i64 0], .ce (.bool false), .ce (.int .i64 (wE (-1 : Int) (1 : Int) (mI (cM m) (3 : Nat)) (fndB (89 : Int) l) (fndN (89 : Int) l)))], false, [], []⟩) ∧
    (wE (-1 : Int) (0 : Int) (mI (cM m) (3 : Nat)) (fndB (88 : Int) l) (fndN (88 : Int) l) = (0 : Int) ∧ wE (-1 : Int) (1 : Int) (mI (cM m) (3 : Nat)) (fndB (89 : Int) l) (fndN (89 : Int) l) = (0 : Int) ∧ wE (-1 : Int) (2 : Int) (mI (cM m) (3 : Nat)) (fndB (90 : Int) l) (fndN (90 : Int) l) ≠ (0 : Int) →
    Q ⟨.tup [.agg [.int .i64 0, .int .i64 0, .int .i64 0], .ce (.bool false), .ce (.int .i64 (wE (-1 : Int) (2 : Int) (mI (cM m) (3 : Nat)) (fndB (90 : Int) l) (fndN (90 : Int) l)))], false, [], []⟩) ∧ (wE (-1 : Int) (0 : Int) (mI (cM m) (3 : Nat)) (fndB (88 : Int) l) (fndN (88 : Int) l) = (0 : Int) ∧
    wE (-1 : Int) (1 : Int) (mI (cM m) (3 : Nat)) (fndB (89 : Int) l) (fndN (89 : Int) l) = (0 : Int) ∧ wE (-1 : Int) (2 : Int) (mI (cM m) (3 : Nat)) (fndB (90 : Int) l) (fndN (90 : Int) l) = (0 : Int) → ((0 ≤ x2 ∧
    x2 ≤ 2 ∧ 0 ≤ x3 ∧ x3 ≤ 2) ∧ ∃ (m_1 : M), (cM m) = cM m_1) ∧ ∀ (x_1 : Bool), x_1 = (decide ((0 : Int) ≤ (-1 : Int)) && at3b x2 (fndB (88 : Int) l) (fndB (89 : Int) l) (fndB (90 : Int) l) != at3b x3 (fndB (88 : Int) l) (fndB (89 : Int) l) (fndB (90 : Int) l)) → (x_1 = true → Q ⟨.tup [.agg [.int .i64 0, .int .i64 0, .int .i64 0], .ce (.bool false), .ce (.int .i64 9)], false, [], []⟩) ∧ (x_1 = false → ((0 ≤ x2 ∧ x2 ≤ 2) ∧ ∃ (m_1 : M), (cM m) = cM m_1) ∧
    ∀ (x_2 : Bool), x_2 = (decide ((0 : Int) ≤ (-1 : Int)) && at3b x2 (fndB (88 : Int) l) (fndB (89 : Int) l) (fndB (90 : Int) l)) → ((0 ≤ x2 ∧ x2 ≤ 2 ∧ 0 ≤ x3 ∧ x3 ≤ 2) ∧ ∃ (m_1 : M), (cM m) = cM m_1) ∧ ∀ (x_3 : Int × Int × Int), (x_2 = false → x_3.1 = wN (-1 : Int) (0 : Int) (mI (cM m) (3 : Nat)) (fndB (88 : Int) l) (fndN (88 : Int) l) ∧
    x_3.snd.1 = wN (-1 : Int) (1 : Int) (mI (cM m) (3 : Nat)) (fndB (89 : Int) l) (fndN (89 : Int) l) ∧ x_3.snd.2 = wN (-1 : Int) (2 : Int) (mI (cM m) (3 : Nat)) (fndB (90 : Int) l) (fndN (90 : Int) l)) ∧ (x_2 = true →
    x_3.1 = put3 x2 x3 (rtU (at3 x2 (wN (-1 : Int) (0 : Int) (mI (cM m) (3 : Nat)) (fndB (88 : Int) l) (fndN (88 : Int) l)) (wN (-1 : Int) (1 : Int) (mI (cM m) (3 : Nat)) (fndB (89 : Int) l) (fndN (89 : Int) l)) (wN (-1 : Int) (2 : Int) (mI (cM m) (3 : Nat)) (fndB (90 : Int) l) (fndN (90 : Int) l))) (0 : Int) (at3 x3 (wN (-1 : Int) (0 : Int) (mI (cM m) (3 : Nat)) (fndB (88 : Int) l) (fndN (88 : Int) l)) (wN (-1 : Int) (1 : Int) (mI (cM m) (3 : Nat)) (fndB (89 : Int) l) (fndN (89 : Int) l)) (wN (-1 : Int) (2 : Int) (mI (cM m) (3 : Nat)) (fndB (90 : Int) l) (fndN (90 : Int) l)))) (rtW (at3 x2 (wN (-1 : Int) (0 : Int) (mI (cM m) (3 : Nat)) (fndB (88 : Int) l) (fndN (88 : Int) l)) (wN (-1 : Int) (1 : Int) (mI (cM m) (3 : Nat)) (fndB (89 : Int) l) (fndN (89 : Int) l)) (wN (-1 : Int) (2 : Int) (mI (cM m) (3 : Nat)) (fndB (90 : Int) l) (fndN (90 : Int) l))) (0 : Int) (at3 x3 (wN (-1 : Int) (0 : Int) (mI (cM m) (3 : Nat)) (fndB (88 : Int) l) (fndN (88 : Int) l)) (wN (-1 : Int) (1 : Int) (mI (cM m) (3 : Nat)) (fndB (89 : Int) l) (fndN (89 : Int) l)) (wN (-1 : Int) (2 : Int) (mI (cM m) (3 : Nat)) (fndB (90 : Int) l) (fndN (90 : Int) l)))) (0 : Int) (wN (-1 : Int) (0 : Int) (mI (cM m) (3 : Nat)) (fndB (88 : Int) l) (fndN (88 : Int) l)) ∧
    x_3.snd.1 = put3 x2 x3 (rtU (at3 x2 (wN (-1 : Int) (0 : Int) (mI (cM m) (3 : Nat)) (fndB (88 : Int) l) (fndN (88 : Int) l)) (wN (-1 : Int) (1 : Int) (mI (cM m) (3 : Nat)) (fndB (89 : Int) l) (fndN (89 : Int) l)) (wN (-1 : Int) (2 : Int) (mI (cM m) (3 : Nat)) (fndB (90 : Int) l) (fndN (90 : Int) l))) (0 : Int) (at3 x3 (wN (-1 : Int) (0 : Int) (mI (cM m) (3 : Nat)) (fndB (88 : Int) l) (fndN (88 : Int) l)) (wN (-1 : Int) (1 : Int) (mI (cM m) (3 : Nat)) (fndB (89 : Int) l) (fndN (89 : Int) l)) (wN (-1 : Int) (2 : Int) (mI (cM m) (3 : Nat)) (fndB (90 : Int) l) (fndN (90 : Int) l)))) (rtW (at3 x2 (wN (-1 : Int) (0 : Int) (mI (cM m) (3 : Nat)) (fndB (88 : Int) l) (fndN (88 : Int) l)) (wN (-1 : Int) (1 : Int) (mI (cM m) (3 : Nat)) (fndB (89 : Int) l) (fndN (89 : Int) l)) (wN (-1 : Int) (2 : Int) (mI (cM m) (3 : Nat)) (fndB (90 : Int) l) (fndN (90 : Int) l))) (0 : Int) (at3 x3 (wN (-1 : Int) (0 : Int) (mI (cM m) (3 : Nat)) (fndB (88 : Int) l) (fndN (88 : Int) l)) (wN (-1 : Int) (1 : Int) (mI (cM m) (3 : Nat)) (fndB (89 : Int) l) (fndN (89 : Int) l)) (wN (-1 : Int) (2 : Int) (mI (cM m) (3 : Nat)) (fndB (90 : Int) l) (fndN (90 : Int) l)))) (1 : Int) (wN (-1 : Int) (1 : Int) (mI (cM m) (3 : Nat)) (fndB (89 : Int) l) (fndN (89 : Int) l)) ∧
    x_3.snd.2 = put3 x2 x3 (rtU (at3 x2 (wN (-1 : Int) (0 : Int) (mI (cM m) (3 : Nat)) (fndB (88 : Int) l) (fndN (88 : Int) l)) (wN (-1 : Int) (1 : Int) (mI (cM m) (3 : Nat)) (fndB (89 : Int) l) (fndN (89 : Int) l)) (wN (-1 : Int) (2 : Int) (mI (cM m) (3 : Nat)) (fndB (90 : Int) l) (fndN (90 : Int) l))) (0 : Int) (at3 x3 (wN (-1 : Int) (0 : Int) (mI (cM m) (3 : Nat)) (fndB (88 : Int) l) (fndN (88 : Int) l)) (wN (-1 : Int) (1 : Int) (mI (cM m) (3 : Nat)) (fndB (89 : Int) l) (fndN (89 : Int) l)) (wN (-1 : Int) (2 : Int) (mI (cM m) (3 : Nat)) (fndB (90 : Int) l) (fndN (90 : Int) l)))) (rtW (at3 x2 (wN (-1 : Int) (0 : Int) (mI (cM m) (3 : Nat)) (fndB (88 : Int) l) (fndN (88 : Int) l)) (wN (-1 : Int) (1 : Int) (mI (cM m) (3 : Nat)) (fndB (89 : Int) l) (fndN (89 : Int) l)) (wN (-1 : Int) (2 : Int) (mI (cM m) (3 : Nat)) (fndB (90 : Int) l) (fndN (90 : Int) l))) (0 : Int) (at3 x3 (wN (-1 : Int) (0 : Int) (mI (cM m) (3 : Nat)) (fndB (88 : Int) l) (fndN (88 : Int) l)) (wN (-1 : Int) (1 : Int) (mI (cM m) (3 : Nat)) (fndB (89 : Int) l) (fndN (89 : Int) l)) (wN (-1 : Int) (2 : Int) (mI (cM m) (3 : Nat)) (fndB (90 : Int) l) (fndN (90 : Int) l)))) (2 : Int) (wN (-1 : Int) (2 : Int) (mI (cM m) (3 : Nat)) (fndB (90 : Int) l) (fndN (90 : Int) l))) →
    ((0 : Int) = (0 : Int) ∧ (∃ (m_1 : M), (cM m) = cM m_1) ∧ B3 (1099511627776 : Int) x y z ∧ (fndB (88 : Int) l = true → (-1099511627776 : Int) ≤ x_3.1 ∧ x_3.1 ≤ 1099511627776) ∧ (fndB (89 : Int) l = true → (-1099511627776 : Int) ≤ x_3.snd.1 ∧ x_3.snd.1 ≤ 1099511627776) ∧ (fndB (90 : Int) l = true → (-1099511627776 : Int) ≤ x_3.snd.2 ∧ x_3.snd.2 ≤ 1099511627776)) ∧ True ∧ ∀ (x12 : Bool), x12 = wn (mv (mI (cM m) (2 : Nat)) (fndB (88 : Int) l) x x_3.1) (mv (mI (cM m) (2 : Nat)) (fndB (89 : Int) l) y x_3.snd.1) (mv (mI (cM m) (2 : Nat)) (fndB (90 : Int) l) z x_3.snd.2) →
    ((!x12) = true → Q ⟨.tup [.agg [.int .i64 0, .int .i64 0, .int .i64 0], .ce (.bool false), .ce (.int .i64 3)], false, [], []⟩) ∧ ((!x12) = false → Q ⟨.tup [.agg [.int .i64 (mv (mI (cM m) (2 : Nat)) (fndB (88 : Int) l) x x_3.1), .int .i64 (mv (mI (cM m) (2 : Nat)) (fndB (89 : Int) l) y x_3.snd.1), .int .i64 (mv (mI (cM m) (2 : Nat)) (fndB (90 : Int) l) z x_3.snd.2)], .ce (.bool (fndB (88 : Int) l || (fndB (89 : Int) l || fndB (90 : Int) l))), .ce (.int .i64 0)], false, [], []⟩))))) ∧
    ((m.m10 == 16) = false → ((0 : Int) = (0 : Int) ∧ ∃ (m_1 : M), (cM m) = cM m_1) ∧ (wE (-1 : Int) (0 : Int) (mI (cM m) (3 : Nat)) (fndB (88 : Int) l) (fndN (88 : Int) l) ≠ (0 : Int) → Q ⟨.tup [.agg [.int .i64 0, .int .i64 0, .int .i64 0], .ce (.bool false), .ce (.int .i64 (wE (-1 : Int) (0 : Int) (mI (cM m) (3 : Nat)) (fndB (88 : Int) l) (fndN (88 : Int) l)))], false, [], []⟩) ∧
    (wE (-1 : Int) (0 : Int) (mI (cM m) (3 : Nat)) (fndB (88 : Int) l) (fndN (88 : Int) l) = (0 : Int) ∧ wE (-1 : Int) (1 : Int) (mI (cM m) (3 : Nat)) (fndB (89 : Int) l) (fndN (89 : Int) l) ≠ (0 : Int) → Q ⟨.tup [.agg [.int .i64 0, .int .i64 0, .int .i64 0], .ce (.bool false), .ce (.int .i64 (wE (-1 : Int) (1 : Int) (mI (cM m) (3 : Nat)) (fndB (89 : Int) l) (fndN (89 : Int) l)))], false, [], []⟩) ∧
    (wE (-1 : Int) (0 : Int) (mI (cM m) (3 : Nat)) (fndB (88 : Int) l) (fndN (88 : Int) l) = (0 : Int) ∧ wE (-1 : Int) (1 : Int) (mI (cM m) (3 : Nat)) (fndB (89 : Int) l) (fndN (89 : Int) l) = (0 : Int) ∧ wE (-1 : Int) (2 : Int) (mI (cM m) (3 : Nat)) (fndB (90 : Int) l) (fndN (90 : Int) l) ≠ (0 : Int) →
    Q ⟨.tup [.agg [.int .i64 0, .int .i64 0, .int .i64 0], .ce (.bool false), .ce (.int .i64 (wE (-1 : Int) (2 : Int) (mI (cM m) (3 : Nat)) (fndB (90 : Int) l) (fndN (90 : Int) l)))], false, [], []⟩) ∧ (wE (-1 : Int) (0 : Int) (mI (cM m) (3 : Nat)) (fndB (88 : Int) l) (fndN (88 : Int) l) = (0 : Int) ∧
    wE (-1 : Int) (1 : Int) (mI (cM m) (3 : Nat)) (fndB (89 : Int) l) (fndN (89 : Int) l) = (0 : Int) ∧ wE (-1 : Int) (2 : Int) (mI (cM m) (3 : Nat)) (fndB (90 : Int) l) (fndN (90 : Int) l) = (0 : Int) → ((0 ≤ x2 ∧
    x2 ≤ 2 ∧ 0 ≤ x3 ∧ x3 ≤ 2) ∧ ∃ (m_1 : M), (cM m) = cM m_1) ∧ ∀ (x_1 : Bool), x_1 = (decide ((0 : Int) ≤ (-1 : Int)) && at3b x2 (fndB (88 : Int) l) (fndB (89 : Int) l) (fndB (90 : Int) l) != at3b x3 (fndB (88 : Int) l) (fndB (89 : Int) l) (fndB (90 : Int) l)) → (x_1 = true → Q ⟨.tup [.agg [.int .i64 0, .int .i64 0, .int .i64 0], .ce (.bool false), .ce (.int .i64 9)], false, [], []⟩) ∧ (x_1 = false → ((0 ≤ x2 ∧ x2 ≤ 2) ∧ ∃ (m_1 : M), (cM m) = cM m_1) ∧
    ∀ (x_2 : Bool), x_2 = (decide ((0 : Int) ≤ (-1 : Int)) && at3b x2 (fndB (88 : Int) l) (fndB (89 : Int) l) (fndB (90 : Int) l)) → ((0 ≤ x2 ∧ x2 ≤ 2 ∧ 0 ≤ x3 ∧ x3 ≤ 2) ∧ ∃ (m_1 : M), (cM m) = cM m_1) ∧ ∀ (x_3 : Int × Int × Int), (x_2 = false → x_3.1 = wN (-1 : Int) (0 : Int) (mI (cM m) (3 : Nat)) (fndB (88 : Int) l) (fndN (88 : Int) l) ∧
    x_3.snd.1 = wN (-1 : Int) (1 : Int) (mI (cM m) (3 : Nat)) (fndB (89 : Int) l) (fndN (89 : Int) l) ∧ x_3.snd.2 = wN (-1 : Int) (2 : Int) (mI (cM m) (3 : Nat)) (fndB (90 : Int) l) (fndN (90 : Int) l)) ∧ (x_2 = true →
    x_3.1 = put3 x2 x3 (rtU (at3 x2 (wN (-1 : Int) (0 : Int) (mI (cM m) (3 : Nat)) (fndB (88 : Int) l) (fndN (88 : Int) l)) (wN (-1 : Int) (1 : Int) (mI (cM m) (3 : Nat)) (fndB (89 : Int) l) (fndN (89 : Int) l)) (wN (-1 : Int) (2 : Int) (mI (cM m) (3 : Nat)) (fndB (90 : Int) l) (fndN (90 : Int) l))) (0 : Int) (at3 x3 (wN (-1 : Int) (0 : Int) (mI (cM m) (3 : Nat)) (fndB (88 : Int) l) (fndN (88 : Int) l)) (wN (-1 : Int) (1 : Int) (mI (cM m) (3 : Nat)) (fndB (89 : Int) l) (fndN (89 : Int) l)) (wN (-1 : Int) (2 : Int) (mI (cM m) (3 : Nat)) (fndB (90 : Int) l) (fndN (90 : Int) l)))) (rtW (at3 x2 (wN (-1 : Int) (0 : Int) (mI (cM m) (3 : Nat)) (fndB (88 : Int) l) (fndN (88 : Int) l)) (wN (-1 : Int) (1 : Int) (mI (cM m) (3 : Nat)) (fndB (89 : Int) l) (fndN (89 : Int) l)) (wN (-1 : Int) (2 : Int) (mI (cM m) (3 : Nat)) (fndB (90 : Int) l) (fndN (90 : Int) l))) (0 : Int) (at3 x3 (wN (-1 : Int) (0 : Int) (mI (cM m) (3 : Nat)) (fndB (88 : Int) l) (fndN (88 : Int) l)) (wN (-1 : Int) (1 : Int) (mI (cM m) (3 : Nat)) (fndB (89 : Int) l) (fndN (89 : Int) l)) (wN (-1 : Int) (2 : Int) (mI (cM m) (3 : Nat)) (fndB (90 : Int) l) (fndN (90 : Int) l)))) (0 : Int) (wN (-1 : Int) (0 : Int) (mI (cM m) (3 : Nat)) (fndB (88 : Int) l) (fndN (88 : Int) l)) ∧
    x_3.snd.1 = put3 x2 x3 (rtU (at3 x2 (wN (-1 : Int) (0 : Int) (mI (cM m) (3 : Nat)) (fndB (88 : Int) l) (fndN (88 : Int) l)) (wN (-1 : Int) (1 : Int) (mI (cM m) (3 : Nat)) (fndB (89 : Int) l) (fndN (89 : Int) l)) (wN (-1 : Int) (2 : Int) (mI (cM m) (3 : Nat)) (fndB (90 : Int) l) (fndN (90 : Int) l))) (0 : Int) (at3 x3 (wN (-1 : Int) (0 : Int) (mI (cM m) (3 : Nat)) (fndB (88 : Int) l) (fndN (88 : Int) l)) (wN (-1 : Int) (1 : Int) (mI (cM m) (3 : Nat)) (fndB (89 : Int) l) (fndN (89 : Int) l)) (wN (-1 : Int) (2 : Int) (mI (cM m) (3 : Nat)) (fndB (90 : Int) l) (fndN (90 : Int) l)))) (rtW (at3 x2 (wN (-1 : Int) (0 : Int) (mI (cM m) (3 : Nat)) (fndB (88 : Int) l) (fndN (88 : Int) l)) (wN (-1 : Int) (1 : Int) (mI (cM m) (3 : Nat)) (fndB (89 : Int) l) (fndN (89 : Int) l)) (wN (-1 : Int) (2 : Int) (mI (cM m) (3 : Nat)) (fndB (90 : Int) l) (fndN (90 : Int) l))) (0 : Int) (at3 x3 (wN (-1 : Int) (0 : Int) (mI (cM m) (3 : Nat)) (fndB (88 : Int) l) (fndN (88 : Int) l)) (wN (-1 : Int) (1 : Int) (mI (cM m) (3 : Nat)) (fndB (89 : Int) l) (fndN (89 : Int) l)) (wN (-1 : Int) (2 : Int) (mI (cM m) (3 : Nat)) (fndB (90 : Int) l) (fndN (90 : Int) l)))) (1 : Int) (wN (-1 : Int) (1 : Int) (mI (cM m) (3 : Nat)) (fndB (89 : Int) l) (fndN (89 : Int) l)) ∧
    x_3.snd.2 = put3 x2 x3 (rtU (at3 x2 (wN (-1 : Int) (0 : Int) (mI (cM m) (3 : Nat)) (fndB (88 : Int) l) (fndN (88 : Int) l)) (wN (-1 : Int) (1 : Int) (mI (cM m) (3 : Nat)) (fndB (89 : Int) l) (fndN (89 : Int) l)) (wN (-1 : Int) (2 : Int) (mI (cM m) (3 : Nat)) (fndB (90 : Int) l) (fndN (90 : Int) l))) (0 : Int) (at3 x3 (wN (-1 : Int) (0 : Int) (mI (cM m) (3 : Nat)) (fndB (88 : Int) l) (fndN (88 : Int) l)) (wN (-1 : Int) (1 : Int) (mI (cM m) (3 : Nat)) (fndB (89 : Int) l) (fndN (89 : Int) l)) (wN (-1 : Int) (2 : Int) (mI (cM m) (3 : Nat)) (fndB (90 : Int) l) (fndN (90 : Int) l)))) (rtW (at3 x2 (wN (-1 : Int) (0 : Int) (mI (cM m) (3 : Nat)) (fndB (88 : Int) l) (fndN (88 : Int) l)) (wN (-1 : Int) (1 : Int) (mI (cM m) (3 : Nat)) (fndB (89 : Int) l) (fndN (89 : Int) l)) (wN (-1 : Int) (2 : Int) (mI (cM m) (3 : Nat)) (fndB (90 : Int) l) (fndN (90 : Int) l))) (0 : Int) (at3 x3 (wN (-1 : Int) (0 : Int) (mI (cM m) (3 : Nat)) (fndB (88 : Int) l) (fndN (88 : Int) l)) (wN (-1 : Int) (1 : Int) (mI (cM m) (3 : Nat)) (fndB (89 : Int) l) (fndN (89 : Int) l)) (wN (-1 : Int) (2 : Int) (mI (cM m) (3 : Nat)) (fndB (90 : Int) l) (fndN (90 : Int) l)))) (2 : Int) (wN (-1 : Int) (2 : Int) (mI (cM m) (3 : Nat)) (fndB (90 : Int) l) (fndN (90 : Int) l))) →
    ((0 : Int) = (0 : Int) ∧ (∃ (m_1 : M), (cM m) = cM m_1) ∧ B3 (1099511627776 : Int) x y z ∧ (fndB (88 : Int) l = true → (-1099511627776 : Int) ≤ x_3.1 ∧ x_3.1 ≤ 1099511627776) ∧ (fndB (89 : Int) l = true → (-1099511627776 : Int) ≤ x_3.snd.1 ∧ x_3.snd.1 ≤ 1099511627776) ∧ (fndB (90 : Int) l = true → (-1099511627776 : Int) ≤ x_3.snd.2 ∧ x_3.snd.2 ≤ 1099511627776)) ∧ True ∧ ∀ (x16 : Bool), x16 = wn (mv (mI (cM m) (2 : Nat)) (fndB (88 : Int) l) x x_3.1) (mv (mI (cM m) (2 : Nat)) (fndB (89 : Int) l) y x_3.snd.1) (mv (mI (cM m) (2 : Nat)) (fndB (90 : Int) l) z x_3.snd.2) →
    ((!x16) = true → Q ⟨.tup [.agg [.int .i64 0, .int .i64 0, .int .i64 0], .ce (.bool false), .ce (.int .i64 3)], false, [], []⟩) ∧ ((!x16) = false → Q ⟨.tup [.agg [.int .i64 (mv (mI (cM m) (2 : Nat)) (fndB (88 : Int) l) x x_3.1), .int .i64 (mv (mI (cM m) (2 : Nat)) (fndB (89 : Int) l) y x_3.snd.1), .int .i64 (mv (mI (cM m) (2 : Nat)) (fndB (90 : Int) l) z x_3.snd.2)], .ce (.bool (fndB (88 : Int) l || (fndB (89 : Int) l || fndB (90 : Int) l))), .ce (.int .i64 0)], false, [], []⟩)))))) := by kernel_rfl
end Go.Proofs.YtgnknciihdajiaaDoor
namespace U
theorem lnN_bd (n u : Int) : -1048576 ≤ lnN n u ∧ lnN n u ≤ 1048576 := by
  unfold lnN
  by_cases h : lnE n u = 0
  · rw [if_pos h]
    unfold lnE at h
    cases hk : okU n u with
    | false => rw [hk] at h; simp at h
    | true =>
      rw [hk, if_pos rfl] at h
      by_cases h2 : lnV n u < -1048576 ∨ lnV n u > 1048576
      · rw [if_pos h2] at h; cases h
      · omega
  · rw [if_neg h]; decide
theorem wN_bd {a i u n : Int} {h : Bool} (hh : h = true) (hi : i ≠ a) : -1048576 ≤ wN a i u h n ∧ wN a i u h n ≤ 1048576 := by
  unfold wN; rw [if_pos ⟨hh, hi⟩]; exact lnN_bd n u
theorem wN_no {a i u n : Int} {h : Bool} (hh : ¬ (h = true ∧ i ≠ a)) : wN a i u h n = n := by unfold wN; rw [if_neg hh]
theorem wE_no {a i u n : Int} {h : Bool} (hh : ¬ (h = true ∧ i ≠ a)) : wE a i u h n = 0 := by unfold wE; rw [if_neg hh]
theorem put_bd {f s U W i n B : Int} (hU : -B ≤ U ∧ U ≤ B) (hW : -B ≤ W ∧ W ≤ B) (hn : i ≠ s → i ≠ f → -B ≤ n ∧ n ≤ B) : -B ≤ put3 f s U W i n ∧ put3 f s U W i n ≤ B := by
  unfold put3
  by_cases h1 : i = s
  · rw [if_pos h1]; exact hW
  · rw [if_neg h1]
    by_cases h2 : i = f
    · rw [if_pos h2]; exact hU
    · rw [if_neg h2]; exact hn h1 h2
theorem lstep {h : Bool} {a j u n : Int} {B C : Int → Prop} (hB : wE a j u h n ≠ 0 → B (wE a j u h n)) (hC : wE a j u h n = 0 → C (wN a j u h n)) :
    ((!h) = true → C n) ∧ ((!h) = false → ((j == a) = true → C n) ∧ ((j == a) = false → True ∧ ∀ x1, x1 = lnN n u → ∀ x2, x2 = lnE n u → ((x2 != 0) = true → B x2) ∧ ((x2 != 0) = false → C x1))) := by
  refine ⟨fun g => ?_, fun g => ⟨fun g2 => ?_, fun g2 => ⟨trivial, ?_⟩⟩⟩
  · have g := nt_f g
    have e : ¬ (h = true ∧ j ≠ a) := by rw [g]; exact fun k => by cases k.1
    have hC := hC (wE_no e)
    rw [wN_no e] at hC; exact hC
  · have e : ¬ (h = true ∧ j ≠ a) := fun k => k.2 (by simpa using g2)
    have hC := hC (wE_no e)
    rw [wN_no e] at hC; exact hC
  · have g := nf_t g
    have g2 : j ≠ a := by simpa using g2
    unfold wE at hB
    unfold wE wN at hC
    rw [if_pos ⟨g, g2⟩] at hB
    rw [if_pos ⟨g, g2⟩, if_pos ⟨g, g2⟩] at hC
    rintro _ rfl _ rfl
    exact ⟨fun k => hB (by simpa using k), fun k => hC (by simpa using k)⟩
theorem vstep {h : Bool} {d p n : Int} {C : Int → Prop} (hp : -1099511627776 ≤ p ∧ p ≤ 1099511627776) (hn : h = true → -1099511627776 ≤ n ∧ n ≤ 1099511627776) (hC : C (mv d h p n)) :
    (h = true → ((d == 91) = true → (-9223372036854775808 ≤ p + n ∧ p + n ≤ 9223372036854775807) ∧ ∀ x1, x1 = p + n → C x1) ∧ ((d == 91) = false → (h = true → C n) ∧ (h = false → C p))) ∧ (h = false → (h = true → C n) ∧ (h = false → C p)) := by
  unfold mv at hC
  refine ⟨fun g => ?_, fun g => ⟨fun g2 => (by rw [g] at g2; cases g2), fun _ => ?_⟩⟩
  · rw [if_pos g] at hC
    refine ⟨fun g2 => ⟨by have := hn g; omega, ?_⟩, fun g2 => ⟨fun _ => ?_, fun g3 => (by rw [g] at g3; cases g3)⟩⟩
    · rw [if_pos (by simpa using g2)] at hC
      rintro _ rfl; exact hC
    · rw [if_neg (by simpa using g2)] at hC; exact hC
  · rw [g] at hC; exact hC
theorem sp3 {f : Int} {A0 A1 A2 : Prop} (hf : 0 ≤ f ∧ f ≤ 2) (h0 : f = 0 → A0) (h1 : f = 1 → A1) (h2 : f = 2 → A2) :
    (f = 0 → A0) ∧ (f ≠ 0 → (f = 1 → A1) ∧ (f ≠ 1 → (f = 2 → A2) ∧ (f ≠ 2 → False))) := ⟨h0, fun _ => ⟨h1, fun _ => ⟨h2, fun _ => by omega⟩⟩⟩
theorem fs_bd (p : Int) : 0 ≤ fsP p ∧ fsP p ≤ 2 := by
  unfold fsP
  split
  · decide
  · split <;> decide
theorem sc_bd3 (p : Int) : 0 ≤ scP p ∧ scP p ≤ 2 := by
  unfold scP
  split
  · decide
  · split <;> decide
theorem fs_sc (p : Int) : fsP p ≠ scP p := by
  unfold fsP scP
  by_cases h : p = 18
  · rw [if_pos h, if_pos h]; decide
  · rw [if_neg h, if_neg h]
    by_cases h2 : p = 19
    · rw [if_pos h2, if_pos h2]; decide
    · rw [if_neg h2, if_neg h2]; decide
def nnk {α : Type} (k j : Nat) (v w : α) : α := if j < k then v else w
def anyK (k : Nat) (a b c : Bool) : Bool := if k = 0 then false else if k = 1 then a else if k = 2 then (a || b) else (a || (b || c))
end U
namespace Go.Proofs.YtgnknciihdajiaaDoor
open Go Go.HL U
attribute [local irreducible] hfun bodyT fragT
set_option maxHeartbeats 400000 in
set_option maxRecDepth 100000 in
theorem sFx : Sound Tryd.prog 46 SFx := by
  refine sound_of (C := CFx) [] Tryd.func46 (by kernel_rfl) (by decide +kernel) (by kernel_rfl) rfl trivial (loops0 (by kernel_rfl)) ?_
  intro hargs pars R h
  unfold SFx at h
  split at h
  case h_2 => exfalso; exact h
  rename_i p
  obtain ⟨_, hq⟩ := h
  unfold fsP scP at hq
  refine byVC (vcFx p R) ⟨fun g => ?_, fun g => ⟨fun g2 => ?_, fun g2 => ?_⟩⟩
  · rw [if_pos (eqp g), if_pos (eqp g)] at hq; exact hq
  · rw [if_neg (nep g), if_neg (nep g), if_pos (eqp g2), if_pos (eqp g2)] at hq; exact hq
  · rw [if_neg (nep g), if_neg (nep g), if_neg (nep g2), if_neg (nep g2)] at hq; exact hq
def encT1 (l : List (List Int)) (m : M) (t7 : Bool) (t8 x y z r0 r1 r2 : Int) (a : Bool) (n0 : Int) (h0 : Bool) (n1 : Int) (h1 : Bool) (n2 : Int) (h2 : Bool) (i : Int) : LV :=
  ([.ce (.sl false [4, 4] l), .ce (.ptr 1000003 0), .ce (.ptr 1000005 0), .ce (.ptr 1000006 0), .ce (.bool t7), .ce (.int .i64 t8), .ce (.ptr 1000009 0), .ce (.bool a), .agg [.int .i64 88, .int .i64 89, .int .i64 90], .ce (.num .i64 i)], [cM m, [.int .i64 x, .int .i64 y, .int .i64 z], [.int .i64 r0, .int .i64 r1, .int .i64 r2], [.int .i64 n0, .bool h0, .int .i64 n1, .bool h1, .int .i64 n2, .bool h2]])
theorem loopT1 : ∀ v Q, (LT1 v).wp Q → hloop CTgt anT1 (nthLoop Tryd.f17 0) v Q := by
  intro v Q h
  unfold LT1 at h
  split at h
  case h_2 => exact h.elim
  rename_i l t7 t8 a e0 e1 e2 i rm x y z r0 r1 r2 n0 h0 n1 h1 n2 h2
  obtain ⟨⟨k1, k2, ⟨k3, k4, k5⟩, hl, m, km⟩, hq⟩ := h
  subst k1 k2 k3 k4 k5 km
  refine hloop_rec (σ := Nat) (fun k => encT1 l m t7 t8 x y z r0 r1 r2 (anyK k (fndB 88 l) (fndB 89 l) (fndB 90 l)) (nnk k 0 (fndN 88 l) n0) (nnk k 0 (fndB 88 l) h0) (nnk k 1 (fndN 89 l) n1) (nnk k 1 (fndB 89 l) h1) (nnk k 2 (fndN 90 l) n2) (nnk k 2 (fndB 90 l) h2) (k : Int))
    (fun k => 3 - k) (fun k => k ≤ 3) ?_ 0 (Nat.zero_le _)
  intro k hk K hn hx _
  have hk : k = 0 ∨ k = 1 ∨ k = 2 ∨ k = 3 := by omega
  rcases hk with rfl | rfl | rfl | rfl
  · have nx : K .normal (encT1 l m t7 t8 x y z r0 r1 r2 (fndB 88 l) (fndN 88 l) (fndB 88 l) n1 h1 n2 h2 1) := hn 1 (by omega) (by omega)
    refine byVB (vbT10 l m t7 false h0 h1 h2 t8 88 89 90 x y z r0 r1 r2 n0 n1 n2 K) ⟨hl, ?_⟩
    rintro _ rfl _ rfl
    exact ⟨fun g => (by cases g), fun _ => nx⟩
  · have nx : K .normal (encT1 l m t7 t8 x y z r0 r1 r2 (fndB 88 l || fndB 89 l) (fndN 88 l) (fndB 88 l) (fndN 89 l) (fndB 89 l) n2 h2 2) := hn 2 (by omega) (by omega)
    refine byVB (vbT11 l m t7 (fndB 88 l) (fndB 88 l) h1 h2 t8 88 89 90 x y z r0 r1 r2 (fndN 88 l) n1 n2 K) ⟨hl, ?_⟩
    rintro _ rfl _ rfl
    refine ⟨fun g => ?_, fun g => ?_⟩
    · have e : (fndB 88 l || fndB 89 l) = true := by rw [g]; rfl
      rw [e] at nx; exact nx
    · have e : (fndB 88 l || fndB 89 l) = fndB 89 l := by rw [g]; rfl
      rw [e] at nx; exact nx
  · have nx : K .normal (encT1 l m t7 t8 x y z r0 r1 r2 (fndB 88 l || (fndB 89 l || fndB 90 l)) (fndN 88 l) (fndB 88 l) (fndN 89 l) (fndB 89 l) (fndN 90 l) (fndB 90 l) 3) := hn 3 (by omega) (by omega)
    refine byVB (vbT12 l m t7 (fndB 88 l || fndB 89 l) (fndB 88 l) (fndB 89 l) h2 t8 88 89 90 x y z r0 r1 r2 (fndN 88 l) (fndN 89 l) n2 K) ⟨hl, ?_⟩
    rintro _ rfl _ rfl
    rw [← Bool.or_assoc] at nx
    refine ⟨fun g => ?_, fun g => ?_⟩
    · have e : (fndB 88 l || fndB 89 l || fndB 90 l) = true := by rw [g]; rfl
      rw [e] at nx; exact nx
    · have e : (fndB 88 l || fndB 89 l || fndB 90 l) = fndB 90 l := by rw [g]; rfl
      rw [e] at nx; exact nx
  · exact byVB (vbT13 l m t7 _ _ _ _ t8 88 89 90 x y z r0 r1 r2 _ _ _ K) (hx _ _ hq)
def encT2 (m : M) (t7 : Bool) (t8 : Int) (y0 : Bool) (f s a x y z r0 r1 r2 n0 : Int) (h0 : Bool) (n1 : Int) (h1 : Bool) (n2 : Int) (h2 : Bool) (i : Int) : LV :=
  ([.ce (.ptr 1000003 0), .ce (.ptr 1000005 0), .ce (.ptr 1000006 0), .ce (.bool t7), .ce (.int .i64 t8), .ce (.ptr 1000009 0), .ce (.bool y0), .ce (.int .i64 f), .ce (.int .i64 s), .ce (.int .i64 a), .ce (.num .i64 i)], [cM m, [.int .i64 x, .int .i64 y, .int .i64 z], [.int .i64 r0, .int .i64 r1, .int .i64 r2], [.int .i64 n0, .bool h0, .int .i64 n1, .bool h1, .int .i64 n2, .bool h2]])
def retT2 (m : M) (e : Int) (y0 : Bool) (f s a x y z n0 : Int) (h0 : Bool) (n1 : Int) (h1 : Bool) (n2 : Int) (h2 : Bool) : LV :=
  ([.ce (.ptr 1000003 0), .ce (.ptr 1000005 0), .ce (.ptr 1000006 0), .ce (.bool false), .ce (.int .i64 e), .ce (.ptr 1000009 0), .ce (.bool y0), .ce (.int .i64 f), .ce (.int .i64 s), .ce (.int .i64 a)], [cM m, [.int .i64 x, .int .i64 y, .int .i64 z], [.int .i64 0, .int .i64 0, .int .i64 0], [.int .i64 n0, .bool h0, .int .i64 n1, .bool h1, .int .i64 n2, .bool h2]])
theorem loopT2 : ∀ v Q, (LT2 v).wp Q → hloop CTgt anT2 (nthLoop Tryd.f17 1) v Q := by
  intro v Q h
  unfold LT2 at h
  split at h
  case h_2 => exact h.elim
  rename_i t7 t8 y0 f s a i rm x y z r0 r1 r2 n0 h0 n1 h1 n2 h2
  obtain ⟨⟨k1, m, km⟩, hq⟩ := h
  subst k1 km
  refine hloop_rec (σ := Nat) (fun k => encT2 m t7 t8 y0 f s a x y z r0 r1 r2 (nnk k 0 (wN a 0 m.m3 h0 n0) n0) h0 (nnk k 1 (wN a 1 m.m3 h1 n1) n1) h1 (nnk k 2 (wN a 2 m.m3 h2 n2) n2) h2 (k : Int))
    (fun k => 3 - k) (fun k => k ≤ 3 ∧ (0 < k → wE a 0 m.m3 h0 n0 = 0) ∧ (1 < k → wE a 1 m.m3 h1 n1 = 0) ∧ (2 < k → wE a 2 m.m3 h2 n2 = 0)) ?_ 0 ⟨Nat.zero_le _, fun k => (by omega), fun k => (by omega), fun k => (by omega)⟩
  intro k hk K hn hx hr
  obtain ⟨hk, i0, i1, i2⟩ := hk
  have hk : k = 0 ∨ k = 1 ∨ k = 2 ∨ k = 3 := by omega
  rcases hk with rfl | rfl | rfl | rfl
  · exact byVB (vbT20 m t7 y0 h0 h1 h2 t8 f s a x y z r0 r1 r2 n0 n1 n2 K) (lstep (B := fun e => K .ret (retT2 m e y0 f s a x y z n0 h0 n1 h1 n2 h2)) (C := fun n => K .normal (encT2 m t7 t8 y0 f s a x y z r0 r1 r2 n h0 n1 h1 n2 h2 1))
      (fun g => hr _ (hq.1 g)) (fun g => hn 1 ⟨by omega, fun _ => g, fun k => (by omega), fun k => (by omega)⟩ (by omega)))
  · exact byVB (vbT21 m t7 y0 h0 h1 h2 t8 f s a x y z r0 r1 r2 (wN a 0 m.m3 h0 n0) n1 n2 K) (lstep (B := fun e => K .ret (retT2 m e y0 f s a x y z (wN a 0 m.m3 h0 n0) h0 n1 h1 n2 h2)) (C := fun n => K .normal (encT2 m t7 t8 y0 f s a x y z r0 r1 r2 (wN a 0 m.m3 h0 n0) h0 n h1 n2 h2 2))
      (fun g => hr _ (hq.2.1 ⟨i0 (by omega), g⟩)) (fun g => hn 2 ⟨by omega, fun _ => i0 (by omega), fun _ => g, fun k => (by omega)⟩ (by omega)))
  · exact byVB (vbT22 m t7 y0 h0 h1 h2 t8 f s a x y z r0 r1 r2 (wN a 0 m.m3 h0 n0) (wN a 1 m.m3 h1 n1) n2 K) (lstep (B := fun e => K .ret (retT2 m e y0 f s a x y z (wN a 0 m.m3 h0 n0) h0 (wN a 1 m.m3 h1 n1) h1 n2 h2)) (C := fun n => K .normal (encT2 m t7 t8 y0 f s a x y z r0 r1 r2 (wN a 0 m.m3 h0 n0) h0 (wN a 1 m.m3 h1 n1) h1 n h2 3))
      (fun g => hr _ (hq.2.2.1 ⟨i0 (by omega), i1 (by omega), g⟩)) (fun g => hn 3 ⟨by omega, fun _ => i0 (by omega), fun _ => i1 (by omega), fun _ => g⟩ (by omega)))
  · exact byVB (vbT23 m t7 y0 h0 h1 h2 t8 f s a x y z r0 r1 r2 _ _ _ K) (hx _ _ (hq.2.2.2 ⟨i0 (by omega), i1 (by omega), i2 (by omega)⟩))
def encT6 (m : M) (y0 : Bool) (n0 : Int) (h0 : Bool) (n1 : Int) (h1 : Bool) (n2 : Int) (h2 : Bool) (r0 r1 r2 x y z i : Int) : LV :=
  ([.ce (.ptr 1000003 0), .ce (.ptr 1000006 0), .ce (.bool y0), .ce (.ptr 1000019 0), .agg [.int .i64 n0, .bool h0, .int .i64 n1, .bool h1, .int .i64 n2, .bool h2], .ce (.num .i64 i)], [cM m, [.int .i64 r0, .int .i64 r1, .int .i64 r2], [.int .i64 x, .int .i64 y, .int .i64 z]])
theorem loopT6 : ∀ v Q, (LT6 v).wp Q → hloop CTgt anT6 (nthLoop Tryd.f17 2) v Q := by
  intro v Q h
  unfold LT6 at h
  split at h
  case h_2 => exact h.elim
  rename_i y0 n0 h0 n1 h1 n2 h2 i rm r0 r1 r2 x y z
  obtain ⟨⟨k1, ⟨m, km⟩, hb, b0, b1, b2⟩, hq⟩ := h
  subst k1 km
  obtain ⟨bx, bY, bz⟩ := hb
  refine hloop_rec (σ := Nat) (fun k => encT6 m y0 n0 h0 n1 h1 n2 h2 r0 r1 r2 (nnk k 0 (mv m.m2 h0 x n0) x) (nnk k 1 (mv m.m2 h1 y n1) y) (nnk k 2 (mv m.m2 h2 z n2) z) (k : Int))
    (fun k => 3 - k) (fun k => k ≤ 3) ?_ 0 (Nat.zero_le _)
  intro k hk K hn hx hr
  have hk : k = 0 ∨ k = 1 ∨ k = 2 ∨ k = 3 := by omega
  rcases hk with rfl | rfl | rfl | rfl
  · exact byVB (vbT60 m y0 h0 h1 h2 x y z r0 r1 r2 n0 n1 n2 K) (vstep (C := fun v => K .normal (encT6 m y0 n0 h0 n1 h1 n2 h2 r0 r1 r2 v y z 1)) bx b0 (hn 1 (by omega) (by omega)))
  · exact byVB (vbT61 m y0 h0 h1 h2 (mv m.m2 h0 x n0) y z r0 r1 r2 n0 n1 n2 K) (vstep (C := fun v => K .normal (encT6 m y0 n0 h0 n1 h1 n2 h2 r0 r1 r2 (mv m.m2 h0 x n0) v z 2)) bY b1 (hn 2 (by omega) (by omega)))
  · exact byVB (vbT62 m y0 h0 h1 h2 (mv m.m2 h0 x n0) (mv m.m2 h1 y n1) z r0 r1 r2 n0 n1 n2 K) (vstep (C := fun v => K .normal (encT6 m y0 n0 h0 n1 h1 n2 h2 r0 r1 r2 (mv m.m2 h0 x n0) (mv m.m2 h1 y n1) v 3)) bz b2 (hn 3 (by omega) (by omega)))
  · exact byVB (vbT63 m y0 h0 h1 h2 _ _ _ r0 r1 r2 n0 n1 n2 K) (hx _ _ hq)
theorem fragT3 : ∀ v Q, (LT3 v).wp Q → fragT CTgt anT3 (nthFrag CTgt Tryd.f17 0) v Q := by
  intro v Q h
  unfold LT3 at h
  split at h
  case h_2 => exact h.elim
  rename_i t7 t8 y0 f s a rm x y z r0 r1 r2 n0 h0 n1 h1 n2 h2
  obtain ⟨⟨⟨f1, f2, s1, s2⟩, m, km⟩, hq⟩ := h
  subst km
  refine byVG (vgT3 m t7 y0 h0 h1 h2 t8 f s a x y z r0 r1 r2 n0 n1 n2 Q) (sp3 ⟨f1, f2⟩ ?_ ?_ ?_)
  all_goals
    intro e
    subst e
    refine sp3 ⟨s1, s2⟩ ?_ ?_ ?_
    all_goals
      intro e
      subst e
      exact ⟨fun g => hq _ (by rw [show decide (0 ≤ a) = true from g]; rfl), fun g => hq _ (by rw [show decide (0 ≤ a) = false from g]; rfl)⟩
theorem fragT4 : ∀ v Q, (LT4 v).wp Q → fragT CTgt anT4 (nthFrag CTgt Tryd.f17 1) v Q := by
  intro v Q h
  unfold LT4 at h
  split at h
  case h_2 => exact h.elim
  rename_i y0 f s a rm r0 r1 r2 n0 h0 n1 h1 n2 h2 x y z
  obtain ⟨⟨⟨f1, f2⟩, m, km⟩, hq⟩ := h
  subst km
  refine byVG (vgT4 m y0 h0 h1 h2 f s a x y z r0 r1 r2 n0 n1 n2 Q) (sp3 ⟨f1, f2⟩ ?_ ?_ ?_)
  all_goals
    intro e
    subst e
    exact ⟨fun g => hq _ (by rw [show decide (0 ≤ a) = true from g]; rfl), fun g => hq _ (by rw [show decide (0 ≤ a) = false from g]; rfl)⟩
theorem fragT5 : ∀ v Q, (LT5 v).wp Q → fragT CTgt anT5 (nthFrag CTgt Tryd.f17 2) v Q := by
  intro v Q h
  unfold LT5 at h
  split at h
  case h_2 => exact h.elim
  rename_i y0 f s c rm r0 r1 r2 n0 h0 n1 h1 n2 h2 x y z
  obtain ⟨⟨⟨f1, f2, s1, s2⟩, m, km⟩, hq⟩ := h
  subst km
  refine byVG (vgT5 m y0 h0 h1 h2 c f s x y z r0 r1 r2 n0 n1 n2 Q) ⟨fun g => sp3 ⟨f1, f2⟩ ?_ ?_ ?_, fun g => hq (n0, n1, n2) ⟨fun _ => ⟨rfl, rfl, rfl⟩, fun g2 => (by rw [g] at g2; cases g2)⟩⟩
  all_goals
    intro e
    subst e
    refine sp3 ⟨s1, s2⟩ ?_ ?_ ?_
    all_goals
      intro e
      subst e
      refine ⟨trivial, fun u eu w ew b _ => hq (_, _, _) ⟨fun g2 => (by rw [g] at g2; cases g2), fun _ => ⟨?_, ?_, ?_⟩⟩⟩
      all_goals first
        | exact eu
        | exact ew
        | rfl
theorem tgTail (m : M) (l : List (List Int)) (x y z : Int) (R : Res → Prop) (f s a : Int) (hxyz : B3 1048576 x y z) (hf : 0 ≤ f ∧ f ≤ 2) (hs : 0 ≤ s ∧ s ≤ 2) (hfs : f ≠ s) (ha : 0 ≤ a → a = s)
    (hR : ∀ r, r = tg1 f s a m.m2 m.m3 (fndB 88 l) (fndB 89 l) (fndB 90 l) x y z (fndN 88 l) (fndN 89 l) (fndN 90 l) → R ⟨.tup [.agg [.int .i64 r.x, .int .i64 r.y, .int .i64 r.z], .ce (.bool r.any), .ce (.int .i64 r.e)], false, [], []⟩) :
    ((0 : Int) = (0 : Int) ∧ ∃ (m_1 : M), (cM m) = cM m_1) ∧ (wE a (0 : Int) (mI (cM m) (3 : Nat)) (fndB (88 : Int) l) (fndN (88 : Int) l) ≠ (0 : Int) → R ⟨.tup [.agg [.int .i64 0, .int .i64 0, .int .i64 0], .ce (.bool false), .ce (.int .i64 (wE a (0 : Int) (mI (cM m) (3 : Nat)) (fndB (88 : Int) l) (fndN (88 : Int) l)))], false, [], []⟩) ∧ (wE a (0 : Int) (mI (cM m) (3 : Nat)) (fndB (88 : Int) l) (fndN (88 : Int) l) = (0 : Int) ∧ wE a (1 : Int) (mI (cM m) (3 : Nat)) (fndB (89 : Int) l) (fndN (89 : Int) l) ≠ (0 : Int) → R ⟨.tup [.agg [.int .i64 0, .int .i64 0, .int .i64 0], .ce (.bool false), .ce (.int .i64 (wE a (1 : Int) (mI (cM m) (3 : Nat)) (fndB (89 : Int) l) (fndN (89 : Int) l)))], false, [], []⟩) ∧ (wE a (0 : Int) (mI (cM m) (3 : Nat)) (fndB (88 : Int) l) (fndN (88 : Int) l) = (0 : Int) ∧ wE a (1 : Int) (mI (cM m) (3 : Nat)) (fndB (89 : Int) l) (fndN (89 : Int) l) = (0 : Int) ∧ wE a (2 : Int) (mI (cM m) (3 : Nat)) (fndB (90 : Int) l) (fndN (90 : Int) l) ≠ (0 : Int) → R ⟨.tup [.agg [.int .i64 0, .int .i64 0, .int .i64 0], .ce (.bool false), .ce (.int .i64 (wE a (2 : Int) (mI (cM m) (3 : Nat)) (fndB (90 : Int) l) (fndN (90 : Int) l)))], false, [], []⟩) ∧ (wE a (0 : Int) (mI (cM m) (3 : Nat)) (fndB (88 : Int) l) (fndN (88 : Int) l) = (0 : Int) ∧ wE a (1 : Int) (mI (cM m) (3 : Nat)) (fndB (89 : Int) l) (fndN (89 : Int) l) = (0 : Int) ∧ wE a (2 : Int) (mI (cM m) (3 : Nat)) (fndB (90 : Int) l) (fndN (90 : Int) l) = (0 : Int) → ((0 ≤ f ∧ f ≤ 2 ∧ 0 ≤ s ∧ s ≤ 2) ∧ ∃ (m_1 : M), (cM m) = cM m_1) ∧ ∀ (x_1 : Bool), x_1 = (decide ((0 : Int) ≤ a) && at3b f (fndB (88 : Int) l) (fndB (89 : Int) l) (fndB (90 : Int) l) != at3b s (fndB (88 : Int) l) (fndB (89 : Int) l) (fndB (90 : Int) l)) → (x_1 = true → R ⟨.tup [.agg [.int .i64 0, .int .i64 0, .int .i64 0], .ce (.bool false), .ce (.int .i64 9)], false, [], []⟩) ∧ (x_1 = false → ((0 ≤ f ∧ f ≤ 2) ∧ ∃ (m_1 : M), (cM m) = cM m_1) ∧ ∀ (x_2 : Bool), x_2 = (decide ((0 : Int) ≤ a) && at3b f (fndB (88 : Int) l) (fndB (89 : Int) l) (fndB (90 : Int) l)) → ((0 ≤ f ∧ f ≤ 2 ∧ 0 ≤ s ∧ s ≤ 2) ∧ ∃ (m_1 : M), (cM m) = cM m_1) ∧ ∀ (x_3 : Int × Int × Int), (x_2 = false → x_3.1 = wN a (0 : Int) (mI (cM m) (3 : Nat)) (fndB (88 : Int) l) (fndN (88 : Int) l) ∧ x_3.snd.1 = wN a (1 : Int) (mI (cM m) (3 : Nat)) (fndB (89 : Int) l) (fndN (89 : Int) l) ∧ x_3.snd.2 = wN a (2 : Int) (mI (cM m) (3 : Nat)) (fndB (90 : Int) l) (fndN (90 : Int) l)) ∧ (x_2 = true → x_3.1 = put3 f s (rtU (at3 f (wN a (0 : Int) (mI (cM m) (3 : Nat)) (fndB (88 : Int) l) (fndN (88 : Int) l)) (wN a (1 : Int) (mI (cM m) (3 : Nat)) (fndB (89 : Int) l) (fndN (89 : Int) l)) (wN a (2 : Int) (mI (cM m) (3 : Nat)) (fndB (90 : Int) l) (fndN (90 : Int) l))) (0 : Int) (at3 s (wN a (0 : Int) (mI (cM m) (3 : Nat)) (fndB (88 : Int) l) (fndN (88 : Int) l)) (wN a (1 : Int) (mI (cM m) (3 : Nat)) (fndB (89 : Int) l) (fndN (89 : Int) l)) (wN a (2 : Int) (mI (cM m) (3 : Nat)) (fndB (90 : Int) l) (fndN (90 : Int) l)))) (rtW (at3 f (wN a (0 : Int) (mI (cM m) (3 : Nat)) (fndB (88 : Int) l) (fndN (88 : Int) l)) (wN a (1 : Int) (mI (cM m) (3 : Nat)) (fndB (89 : Int) l) (fndN (89 : Int) l)) (wN a (2 : Int) (mI (cM m) (3 : Nat)) (fndB (90 : Int) l) (fndN (90 : Int) l))) (0 : Int) (at3 s (wN a (0 : Int) (mI (cM m) (3 : Nat)) (fndB (88 : Int) l) (fndN (88 : Int) l)) (wN a (1 : Int) (mI (cM m) (3 : Nat)) (fndB (89 : Int) l) (fndN (89 : Int) l)) (wN a (2 : Int) (mI (cM m) (3 : Nat)) (fndB (90 : Int) l) (fndN (90 : Int) l)))) (0 : Int) (wN a (0 : Int) (mI (cM m) (3 : Nat)) (fndB (88 : Int) l) (fndN (88 : Int) l)) ∧ x_3.snd.1 = put3 f s (rtU (at3 f (wN a (0 : Int) (mI (cM m) (3 : Nat)) (fndB (88 : Int) l) (fndN (88 : Int) l)) (wN a (1 : Int) (mI (cM m) (3 : Nat)) (fndB (89 : Int) l) (fndN (89 : Int) l)) (wN a (2 : Int) (mI (cM m) (3 : Nat)) (fndB (90 : Int) l) (fndN (90 : Int) l))) (0 : Int) (at3 s (wN a (0 : Int) (mI (cM m) (3 : Nat)) (fndB (88 : Int) l) (fndN (88 : Int) l)) (wN a (1 : Int) (mI (cM m) (3 : Nat)) (fndB (89 : Int) l) (fndN (89 : Int) l)) (wN a (2 : Int) (mI (cM m) (3 : Nat)) (fndB (90 : Int) l) (fndN (90 : Int) l)))) (rtW (at3 f (wN a (0 : Int) (mI (cM m) (3 : Nat)) (fndB (88 : Int) l) (fndN (88 : Int) l)) (wN a (1 : Int) (mI (cM m) (3 : Nat)) (fndB (89 : Int) l) (fndN (89 : Int) l)) (wN a (2 : Int) (mI (cM m) (3 : Nat)) (fndB (90 : Int) l) (fndN (90 : Int) l))) (0 : Int) (at3 s (wN a (0 : Int) (mI (cM m) (3 : Nat)) (fndB (88 : Int) l) (fndN (88 : Int) l)) (wN a (1 : Int) (mI (cM m) (3 : Nat)) (fndB (89 : Int) l) (fndN (89 : Int) l)) (wN a (2 : Int) (mI (cM m) (3 : Nat)) (fndB (90 : Int) l) (fndN (90 : Int) l)))) (1 : Int) (wN a (1 : Int) (mI (cM m) (3 : Nat)) (fndB (89 : Int) l) (fndN (89 : Int) l)) ∧ x_3.snd.2 = put3 f s (rtU (at3 f (wN a (0 : Int) (mI (cM m) (3 : Nat)) (fndB (88 : Int) l) (fndN (88 : Int) l)) (wN a (1 : Int) (mI (cM m) (3 : Nat)) (fndB (89 : Int) l) (fndN (89 : Int) l)) (wN a (2 : Int) (mI (cM m) (3 : Nat)) (fndB (90 : Int) l) (fndN (90 : Int) l))) (0 : Int) (at3 s (wN a (0 : Int) (mI (cM m) (3 : Nat)) (fndB (88 : Int) l) (fndN (88 : Int) l)) (wN a (1 : Int) (mI (cM m) (3 : Nat)) (fndB (89 : Int) l) (fndN (89 : Int) l)) (wN a (2 : Int) (mI (cM m) (3 : Nat)) (fndB (90 : Int) l) (fndN (90 : Int) l)))) (rtW (at3 f (wN a (0 : Int) (mI (cM m) (3 : Nat)) (fndB (88 : Int) l) (fndN (88 : Int) l)) (wN a (1 : Int) (mI (cM m) (3 : Nat)) (fndB (89 : Int) l) (fndN (89 : Int) l)) (wN a (2 : Int) (mI (cM m) (3 : Nat)) (fndB (90 : Int) l) (fndN (90 : Int) l))) (0 : Int) (at3 s (wN a (0 : Int) (mI (cM m) (3 : Nat)) (fndB (88 : Int) l) (fndN (88 : Int) l)) (wN a (1 : Int) (mI (cM m) (3 : Nat)) (fndB (89 : Int) l) (fndN (89 : Int) l)) (wN a (2 : Int) (mI (cM m) (3 : Nat)) (fndB (90 : Int) l) (fndN (90 : Int) l)))) (2 : Int) (wN a (2 : Int) (mI (cM m) (3 : Nat)) (fndB (90 : Int) l) (fndN (90 : Int) l))) → ((0 : Int) = (0 : Int) ∧ (∃ (m_1 : M), (cM m) = cM m_1) ∧ B3 (1099511627776 : Int) x y z ∧ (fndB (88 : Int) l = true → (-1099511627776 : Int) ≤ x_3.1 ∧ x_3.1 ≤ 1099511627776) ∧ (fndB (89 : Int) l = true → (-1099511627776 : Int) ≤ x_3.snd.1 ∧ x_3.snd.1 ≤ 1099511627776) ∧ (fndB (90 : Int) l = true → (-1099511627776 : Int) ≤ x_3.snd.2 ∧ x_3.snd.2 ≤ 1099511627776)) ∧ True ∧ ∀ (x16 : Bool), x16 = wn (mv (mI (cM m) (2 : Nat)) (fndB (88 : Int) l) x x_3.1) (mv (mI (cM m) (2 : Nat)) (fndB (89 : Int) l) y x_3.snd.1) (mv (mI (cM m) (2 : Nat)) (fndB (90 : Int) l) z x_3.snd.2) → ((!x16) = true → R ⟨.tup [.agg [.int .i64 0, .int .i64 0, .int .i64 0], .ce (.bool false), .ce (.int .i64 3)], false, [], []⟩) ∧ ((!x16) = false → R ⟨.tup [.agg [.int .i64 (mv (mI (cM m) (2 : Nat)) (fndB (88 : Int) l) x x_3.1), .int .i64 (mv (mI (cM m) (2 : Nat)) (fndB (89 : Int) l) y x_3.snd.1), .int .i64 (mv (mI (cM m) (2 : Nat)) (fndB (90 : Int) l) z x_3.snd.2)], .ce (.bool (fndB (88 : Int) l || (fndB (89 : Int) l || fndB (90 : Int) l))), .ce (.int .i64 0)], false, [], []⟩))) := by
  have hR : ∀ r, r = tg1 f s a (mI (cM m) 2) (mI (cM m) 3) (fndB 88 l) (fndB 89 l) (fndB 90 l) x y z (fndN 88 l) (fndN 89 l) (fndN 90 l) → R ⟨.tup [.agg [.int .i64 r.x, .int .i64 r.y, .int .i64 r.z], .ce (.bool r.any), .ce (.int .i64 r.e)], false, [], []⟩ := hR
  generalize fndB 88 l = b0 at *
  generalize fndB 89 l = b1 at *
  generalize fndB 90 l = b2 at *
  generalize fndN 88 l = n0 at *
  generalize fndN 89 l = n1 at *
  generalize fndN 90 l = n2 at *
  generalize mI (cM m) 2 = dd at *
  generalize mI (cM m) 3 = u at *
  refine ⟨⟨rfl, m, rfl⟩, fun c => ?_, fun c => ?_, fun c => ?_, fun c => ?_⟩
  · exact hR ⟨0, 0, 0, false, wE a 0 u b0 n0⟩ (by unfold tg1; rw [if_pos c])
  · exact hR ⟨0, 0, 0, false, wE a 1 u b1 n1⟩ (by unfold tg1; rw [if_neg (fun k => k c.1), if_pos c.2])
  · exact hR ⟨0, 0, 0, false, wE a 2 u b2 n2⟩ (by unfold tg1; rw [if_neg (fun k => k c.1), if_neg (fun k => k c.2.1), if_pos c.2.2])
  unfold tg1 at hR
  rw [if_neg (fun k => k c.1), if_neg (fun k => k c.2.1), if_neg (fun k => k c.2.2)] at hR
  have q0 : b0 = true → (0 : Int) ≠ a → -1048576 ≤ wN a 0 u b0 n0 ∧ wN a 0 u b0 n0 ≤ 1048576 := fun k1 k2 => wN_bd k1 k2
  have q1 : b1 = true → (1 : Int) ≠ a → -1048576 ≤ wN a 1 u b1 n1 ∧ wN a 1 u b1 n1 ≤ 1048576 := fun k1 k2 => wN_bd k1 k2
  have q2 : b2 = true → (2 : Int) ≠ a → -1048576 ≤ wN a 2 u b2 n2 ∧ wN a 2 u b2 n2 ≤ 1048576 := fun k1 k2 => wN_bd k1 k2
  generalize wN a 0 u b0 n0 = w0 at *
  generalize wN a 1 u b1 n1 = w1 at *
  generalize wN a 2 u b2 n2 = w2 at *
  refine ⟨⟨⟨hf.1, hf.2, hs.1, hs.2⟩, m, rfl⟩, fun b eb => ⟨fun g => ?_, fun g => ?_⟩⟩
  · exact hR ⟨0, 0, 0, false, 9⟩ (by unfold tg2; rw [if_pos (eb.symm.trans g)])
  have g9 := eb.symm.trans g
  unfold tg2 at hR
  rw [if_neg (by rw [g9]; decide)] at hR
  refine ⟨⟨hf, m, rfl⟩, fun p ep => ⟨⟨⟨hf.1, hf.2, hs.1, hs.2⟩, m, rfl⟩, fun q hq => ?_⟩⟩
  rw [← ep] at hR
  have rb := rt_bd (at3 f w0 w1 w2) 0 (at3 s w0 w1 w2)
  have na : p = false → ∀ i : Int, i = a → 0 ≤ i → at3b i b0 b1 b2 = true → False := by
    intro hp i hi h0 hb
    have ha2 := ha (by omega)
    rw [ha2] at hi
    rw [hi] at hb
    have ge : decide (0 ≤ a) = true := decide_eq_true (by omega)
    rw [ge, Bool.true_and] at g9 ep
    rw [hp] at ep
    rw [← ep, hb] at g9
    cases g9
  have bd : bmv b0 q.1 ∧ bmv b1 q.2.1 ∧ bmv b2 q.2.2 := by
    cases hp : p with
    | false =>
      obtain ⟨k0, k1, k2⟩ := hq.1 hp
      rw [k0, k1, k2]
      refine ⟨fun k => ?_, fun k => ?_, fun k => ?_⟩
      · have := q0 k (fun j => na hp 0 j (by decide) k); omega
      · have := q1 k (fun j => na hp 1 j (by decide) k); omega
      · have := q2 k (fun j => na hp 2 j (by decide) k); omega
    | true =>
      obtain ⟨k0, k1, k2⟩ := hq.2 hp
      have aa : 0 ≤ a := by
        rw [hp] at ep
        have ep := ep.symm
        rw [Bool.and_eq_true] at ep
        exact of_decide_eq_true ep.1
      have aa := ha aa
      rw [k0, k1, k2]
      refine ⟨fun k => put_bd (B := 1099511627776) (by omega) (by omega) fun j1 _ => ?_, fun k => put_bd (B := 1099511627776) (by omega) (by omega) fun j1 _ => ?_, fun k => put_bd (B := 1099511627776) (by omega) (by omega) fun j1 _ => ?_⟩
      · have := q0 k (by rw [aa]; exact j1); omega
      · have := q1 k (by rw [aa]; exact j1); omega
      · have := q2 k (by rw [aa]; exact j1); omega
  refine ⟨⟨rfl, ⟨m, rfl⟩, B3_mono hxyz (by decide), bd.1, bd.2.1, bd.2.2⟩, trivial, fun x8 e8 => ?_⟩
  have et : (if p = true then
      tg3 dd b0 b1 b2 x y z (put3 f s (rtU (at3 f w0 w1 w2) 0 (at3 s w0 w1 w2)) (rtW (at3 f w0 w1 w2) 0 (at3 s w0 w1 w2)) 0 w0)
        (put3 f s (rtU (at3 f w0 w1 w2) 0 (at3 s w0 w1 w2)) (rtW (at3 f w0 w1 w2) 0 (at3 s w0 w1 w2)) 1 w1)
        (put3 f s (rtU (at3 f w0 w1 w2) 0 (at3 s w0 w1 w2)) (rtW (at3 f w0 w1 w2) 0 (at3 s w0 w1 w2)) 2 w2)
      else tg3 dd b0 b1 b2 x y z w0 w1 w2) = tg3 dd b0 b1 b2 x y z q.1 q.2.1 q.2.2 := by
    cases hp : p with
    | false =>
      obtain ⟨k0, k1, k2⟩ := hq.1 hp
      rw [k0, k1, k2]; rfl
    | true =>
      obtain ⟨k0, k1, k2⟩ := hq.2 hp
      rw [k0, k1, k2]; rfl
  rw [et] at hR
  unfold tg3 at hR
  refine ⟨fun g => ?_, fun g => ?_⟩
  · exact hR ⟨0, 0, 0, false, 3⟩ (by rw [if_neg (by rw [e8.symm.trans (nt_f g)]; decide)])
  · exact hR ⟨mv dd b0 x q.1, mv dd b1 y q.2.1, mv dd b2 z q.2.2, b0 || (b1 || b2), 0⟩ (by rw [if_pos (e8.symm.trans (nf_t g))])
set_option maxHeartbeats 400000 in
set_option maxRecDepth 100000 in
theorem sTgt : Sound Tryd.prog 17 STgt := by
  refine sound_of (C := CTgt) tabTgt Tryd.func17 (by kernel_rfl) (by decide +kernel) (by kernel_rfl) rfl ⟨sWn, sFind, sFx, sPl, sLen, sRot, trivial⟩ (loopsG [nthLoop Tryd.f17 0, nthLoop Tryd.f17 1, nthLoop Tryd.f17 2] [nthFrag CTgt Tryd.f17 0, nthFrag CTgt Tryd.f17 1, nthFrag CTgt Tryd.f17 2] (by kernel_rfl) (by kernel_rfl) ⟨loopOK_of (an := anT1) (S := LT1) (by kernel_rfl) loopT1, loopOK_of (an := anT2) (S := LT2) (by kernel_rfl) loopT2, loopOK_of (an := anT6) (S := LT6) (by kernel_rfl) loopT6, trivial⟩ ⟨fragOK_of (an := anT3) (S := LT3) (by kernel_rfl) fragT3, fragOK_of (an := anT4) (S := LT4) (by kernel_rfl) fragT4, fragOK_of (an := anT5) (S := LT5) (by kernel_rfl) fragT5, trivial⟩) ?_
  intro hargs pars R h
  unfold STgt at h
  split at h
  case h_2 => exfalso; exact h
  rename_i cs l x y z
  split at h
  case h_2 => exact h.elim
  rename_i m0 m1 m2 m3 m4 m5 m6 m7 m8 m9 m10 m11 m12 m13 m14 m15 m16 m17 m18 m19 m20 m21
  obtain ⟨⟨hl, hp⟩, _, hR⟩ := h
  refine byVC (vcTgt ⟨m0, m1, m2, m3, m4, m5, m6, m7, m8, m9, m10, m11, m12, m13, m14, m15, m16, m17, m18, m19, m20, m21⟩ l x y z R) ⟨trivial, fun x1 e1 => ⟨fun g => ?_, fun g => ?_⟩⟩
  · have w := e1.symm.trans (nt_f g)
    exact hR ⟨0, 0, 0, false, 1⟩ (by unfold tgF; rw [w]; rfl)
  have w := e1.symm.trans (nf_t g)
  have hxyz := wn_iff.1 w
  unfold tgF at hR
  rw [if_pos w] at hR
  refine ⟨⟨rfl, rfl, ⟨rfl, rfl, rfl⟩, hl, _, rfl⟩, trivial, fun x2 e2 x3 e3 => ⟨fun g16 => ⟨trivial, fun x4 e4 => ⟨fun g4 => ?_, fun g4 => ?_⟩⟩, fun g16 => ?_⟩⟩
  case refine_2.refine_2 =>
    exfalso
    have e4 := e4.symm.trans g4
    unfold isPl at e4
    have : m1 = 17 ∨ m1 = 18 ∨ m1 = 19 := by omega
    rcases this with r | r | r <;> rw [r] at e4 <;> cases e4
  case refine_2.refine_1 =>
    have ea : anP m1 m10 = x3 := by unfold anP; rw [if_pos (eqp g16)]; exact e3.symm
    rw [ea, ← e2, ← e3] at hR
    exact tgTail ⟨m0, m1, m2, m3, m4, m5, m6, m7, m8, m9, m10, m11, m12, m13, m14, m15, m16, m17, m18, m19, m20, m21⟩ l x y z R x2 x3 x3 hxyz (e2 ▸ fs_bd m1) (e3 ▸ sc_bd3 m1) (by rw [e2, e3]; exact fs_sc m1) (fun _ => rfl) hR
  case refine_2.refine_3 =>
    have ea : anP m1 m10 = -1 := by unfold anP; rw [if_neg (nep g16)]
    rw [ea, ← e2, ← e3] at hR
    exact tgTail ⟨m0, m1, m2, m3, m4, m5, m6, m7, m8, m9, m10, m11, m12, m13, m14, m15, m16, m17, m18, m19, m20, m21⟩ l x y z R x2 x3 (-1) hxyz (e2 ▸ fs_bd m1) (e3 ▸ sc_bd3 m1) (by rw [e2, e3]; exact fs_sc m1) (fun k => (by omega)) hR
end Go.Proofs.YtgnknciihdajiaaDoor

namespace Go.Proofs.YtgnknciihdajiaaDoor
open Go Go.HL U
def okB1 : Res := ⟨.ce (.bool true), false, [], []⟩
def SAwk (hargs : List HV) (pars : List (List HC)) : SR :=
  match hargs, pars with
  | [], [] => .det True ⟨.ce (.bool true), false, [], []⟩
  | _, _ => .fail
def tabAwk : List (FuncId × HL.Spec) := [(21, STo), (17, STgt)]
noncomputable def CAwk : Ctx := ⟨Tryd.prog, gam tabAwk, Tryd.f12.ntmps, [], []⟩
theorem vcAwk (u : Int) (Q : Res → Prop) : (nfun true CAwk Tryd.f12 (bodyOf Tryd.f12) [] [] Q) =
    ((okO (54 : Int) (0 : Int) (0 : Int) (0 : Int) (0 : Int) (0 : Int) (0 : Int) (0 : Int) (0 : Int) (0 : Int) (0 : Int) (0 : Int) (0 : Int) (0 : Int) (0 : Int) (0 : Int) (0 : Int) (0 : Int) (0 : Int) (10 : Int) (0 : Int) (0 : Int) (0 : Int) (0 : Int) (0 : Int) (0 : Int) ∧ okP false (0 : Int) (0 : Int) ∧ B3 (1073741824 : Int) (0 : Int) (0 : Int) (0 : Int)) ∧ (∃ (x : MapS), x = toF false (0 : Int) (0 : Int) (0 : Int) (0 : Int) (0 : Int) (10 : Int) (0 : Int) (0 : Int) (1 : Int) (2 : Int) (3 : Int)) ∧ ∀ (x : MapS), x = toF false (0 : Int) (0 : Int) (0 : Int) (0 : Int) (0 : Int) (10 : Int) (0 : Int) (0 : Int) (1 : Int) (2 : Int) (3 : Int) → ((2 : Nat) ≤ (1000 : Nat) ∧ (17 : Int) ≤ (17 : Int) ∧ (17 : Int) ≤ (19 : Int)) ∧ (∃ (x : TgS), x = tgF (17 : Int) (90 : Int) (21 : Int) (16 : Int) [[(88 : Int), (5000000 : Int)], [(89 : Int), (90000000 : Int)]] (0 : Int) (0 : Int) (0 : Int)) ∧ ∀ (x_1 : TgS), x_1 = tgF (17 : Int) (90 : Int) (21 : Int) (16 : Int) [[(88 : Int), (5000000 : Int)], [(89 : Int), (90000000 : Int)]] (0 : Int) (0 : Int) (0 : Int) →
    ((x.e == 0) = true → ((x.x == 11 && (x.y == 2 && (x.z == 3 && true))) = true → (x_1.any = true → ((x_1.e == 0) = true → Q ⟨.ce (.bool (x_1.x == 0 && (x_1.y == 5000 && (x_1.z == 0 && true)))), false, [], []⟩) ∧ ((x_1.e == 0) = false → Q ⟨.ce (.bool false), false, [], []⟩)) ∧ (x_1.any = false → Q ⟨.ce (.bool false), false, [], []⟩)) ∧ ((x.x == 11 && (x.y == 2 && (x.z == 3 && true))) = false → Q ⟨.ce (.bool false), false, [], []⟩)) ∧ ((x.e == 0) = false → Q ⟨.ce (.bool false), false, [], []⟩)) := by kernel_rfl
end Go.Proofs.YtgnknciihdajiaaDoor
namespace U
theorem tr {X : Bool} {A B : Prop} (hX : X = true) (hA : A) : (X = true → A) ∧ (X = false → B) := ⟨fun _ => hA, fun g => by rw [hX] at g; cases g⟩
theorem v3 (x y z : Int) : (x == x && (y == y && (z == z && true))) = true := by simp
end U
namespace Go.Proofs.YtgnknciihdajiaaDoor
open Go Go.HL U
attribute [local irreducible] hfun bodyT fragT
theorem awkT : tgF 17 90 21 16 [[88, 5000000], [89, 90000000]] 0 0 0 = ⟨0, 5000, 0, true, 0⟩ := by kernel_rfl
set_option maxHeartbeats 400000 in
set_option maxRecDepth 100000 in
theorem sAwk : Sound Tryd.prog 12 SAwk := by
  refine sound_of (C := CAwk) tabAwk Tryd.func12 (by kernel_rfl) (by decide +kernel) (by kernel_rfl) rfl ⟨sTo, sTgt, trivial⟩ (loops0 (by kernel_rfl)) ?_
  intro hargs pars R h
  unfold SAwk at h
  split at h
  case h_2 => exfalso; exact h
  obtain ⟨_, hq⟩ := h
  refine byVC (vcAwk 0 R) ⟨⟨by unfold okO B3; decide, by unfold okP; decide, by unfold B3; decide⟩, ⟨_, rfl⟩, fun a ha => ⟨⟨by decide, by decide, by decide⟩, ⟨_, rfl⟩, fun b hb => ?_⟩⟩
  have ha : a = ⟨11, 2, 3, 0⟩ := ha.trans (by kernel_rfl)
  have hb : b = ⟨0, 5000, 0, true, 0⟩ := hb.trans awkT
  subst ha hb
  exact tr rfl (tr rfl (tr rfl (tr rfl hq)))
end Go.Proofs.YtgnknciihdajiaaDoor
namespace U
open Go Go.HL
structure FrS where
  s0 : Int
  s1 : Int
  s2 : Int
  s3 : Int
  s4 : Int
  s5 : Int
  s6 : Int
  s7 : Int
  s8 : Int
  s9 : Int
  s10 : Int
  s11 : Int
  s12 : Int
  s13 : Int
  s14 : Int
  s15 : Int
  s16 : Int
  s17 : Int
  sy : Int
  l0 : Int
  l1 : Int
  l2 : Int
  h0 : Int
  h1 : Int
  h2 : Int
  ln : Int
  tu : Bool
  pl : Int
  c0 : Int
  c1 : Int
  c2 : Int
  an : Int
def cF (x : FrS) : List HC := [.int .i64 x.s0, .int .i64 x.s1, .int .i64 x.s2, .int .i64 x.s3, .int .i64 x.s4, .int .i64 x.s5, .int .i64 x.s6, .int .i64 x.s7, .int .i64 x.s8, .int .i64 x.s9, .int .i64 x.s10, .int .i64 x.s11, .int .i64 x.s12, .int .i64 x.s13, .int .i64 x.s14, .int .i64 x.s15, .int .i64 x.s16, .int .i64 x.s17, .int .i64 x.sy, .int .i64 x.l0, .int .i64 x.l1, .int .i64 x.l2, .int .i64 x.h0, .int .i64 x.h1, .int .i64 x.h2, .int .i64 x.ln, .bool x.tu, .int .i64 x.pl, .int .i64 x.c0, .int .i64 x.c1, .int .i64 x.c2, .int .i64 x.an]
def okF (x : FrS) : Prop := (54 ≤ x.sy ∧ x.sy ≤ 59) ∧ B3 50000 x.s0 x.s1 x.s2 ∧ B3 50000 x.s3 x.s4 x.s5 ∧ B3 50000 x.s6 x.s7 x.s8 ∧ B3 50000 x.s9 x.s10 x.s11 ∧ B3 50000 x.s12 x.s13 x.s14 ∧ B3 50000 x.s15 x.s16 x.s17 ∧
  B3 20000 x.l0 x.l1 x.l2 ∧ B3 20000 x.h0 x.h1 x.h2 ∧ (-5000 ≤ x.ln ∧ x.ln ≤ 5000) ∧
  (x.tu = false → x.pl = 0 ∧ x.c0 = 0 ∧ x.c1 = 0 ∧ x.c2 = 0 ∧ x.an = 0) ∧ (x.tu = true → (17 ≤ x.pl ∧ x.pl ≤ 19) ∧ B3 50000 x.c0 x.c1 x.c2 ∧ 0 ≤ x.an ∧ x.an < 360000000)
end U
namespace Go.Proofs.YtgnknciihdajiaaDoor
open Go Go.HL U
def SVec (hargs : List HV) (pars : List (List HC)) : SR :=
  match hargs, pars with
  | [.ce (.ptr 0 0), .ce (.int .i64 n)], [[.sl false [4] l, .int .i64 p]] =>
    .all (0 ≤ n ∧ n ≤ 1000000000000 ∧ inSrc l p) (Int × Int × Int × Int) (fun x => B3 n x.1 x.2.1 x.2.2.1 ∧ inSrc l x.2.2.2)
      (fun x => ⟨.agg [.int .i64 x.1, .int .i64 x.2.1, .int .i64 x.2.2.1], false, [[.sl false [4] l, .int .i64 x.2.2.2]], []⟩)
  | _, _ => .fail
def tabVec : List (FuncId × HL.Spec) := [(42, SRange)]
noncomputable def CVec : Ctx := ⟨Tryd.prog, gam tabVec, Tryd.f20.ntmps, [], []⟩
theorem vcVec (l : List (List Int)) (p n : Int) (Q : Res → Prop) : (nfun true CVec Tryd.f20 (bodyOf Tryd.f20) [.ce (.ptr 0 0), .ce (.int .i64 n)] [[.sl false [4] l, .int .i64 p]] Q) =
    ((-9223372036854775808 ≤ (0 : Int) - n ∧ (0 : Int) - n ≤ 9223372036854775807) ∧ ∀ (x1 : Int), x1 = 0 - n → ((-1000000000000000000 : Int) ≤ x1 ∧ x1 ≤ n ∧ n ≤ 1000000000000000000 ∧ inSrc l p) ∧ (∃ (x : Int × Int), x1 ≤ x.1 ∧ x.1 ≤ n ∧ x.2 = adv l p) ∧ ∀ (x : Int × Int), x1 ≤ x.1 ∧ x.1 ≤ n ∧ x.2 = adv l p → (-9223372036854775808 ≤ (0 : Int) - n ∧ (0 : Int) - n ≤ 9223372036854775807) ∧ ∀ (x3 : Int), x3 = 0 - n → ((-1000000000000000000 : Int) ≤ x3 ∧ x3 ≤ n ∧ n ≤ 1000000000000000000 ∧ inSrc l x.2) ∧ (∃ (x_1 : Int × Int), x3 ≤ x_1.1 ∧ x_1.1 ≤ n ∧ x_1.2 = adv l x.2) ∧ ∀ (x_1 : Int × Int), x3 ≤ x_1.1 ∧ x_1.1 ≤ n ∧ x_1.2 = adv l x.2 → (-9223372036854775808 ≤ (0 : Int) - n ∧ (0 : Int) - n ≤ 9223372036854775807) ∧ ∀ (x5 : Int), x5 = 0 - n → ((-1000000000000000000 : Int) ≤ x5 ∧ x5 ≤ n ∧ n ≤ 1000000000000000000 ∧ inSrc l x_1.2) ∧ (∃ (x : Int × Int), x5 ≤ x.1 ∧ x.1 ≤ n ∧ x.2 = adv l x_1.2) ∧ ∀ (x_2 : Int × Int), x5 ≤ x_2.1 ∧
    x_2.1 ≤ n ∧ x_2.2 = adv l x_1.2 → Q { val := .agg [.int .i64 x.1, .int .i64 x_1.1, .int .i64 x_2.1], own := false, pars := [[.sl false [4] l, .int .i64 x_2.2]], news := [] }) := by kernel_rfl
def SFrm (hargs : List HV) (pars : List (List HC)) : SR :=
  match hargs, pars with
  | [.ce (.ptr 0 0)], [[.sl false [4] l, .int .i64 p]] =>
    .all (inSrc l p) (FrS × Int) (fun x => okF x.1 ∧ inSrc l x.2) (fun x => ⟨.agg (cF x.1), false, [[.sl false [4] l, .int .i64 x.2]], []⟩)
  | _, _ => .fail
def unr8 (b : List Nat) : LAnn := ⟨[], [8], b, true⟩
def tabFrm : List (FuncId × HL.Spec) := [(42, SRange), (41, SNext), (20, SVec)]
noncomputable def CFrm : Ctx := ⟨Tryd.prog, gam tabFrm, Tryd.f19.ntmps, [(4000003, unr8 [0, 1000002, 1000003], fun _ => .fail)], []⟩
theorem vcFrm (l : List (List Int)) (p : Int) (Q : Res → Prop) : (nfun true CFrm Tryd.f19 (bodyOf Tryd.f19) [.ce (.ptr 0 0)] [[.sl false [4] l, .int .i64 p]] Q) =
    (((-1000000000000000000 : Int) ≤ (54 : Int) ∧ (54 : Int) ≤ (59 : Int) ∧ (59 : Int) ≤ (1000000000000000000 : Int) ∧ inSrc l p) ∧ (∃ (x : Int × Int), 54 ≤ x.1 ∧ x.1 ≤ 59 ∧ x.2 = adv l p) ∧ ∀ (x : Int × Int), 54 ≤ x.1 ∧ x.1 ≤ 59 ∧ x.2 = adv l p → ((0 : Int) ≤ (20000 : Int) ∧ (20000 : Int) ≤ (1000000000000 : Int) ∧ inSrc l x.2) ∧ (∃ (x : Int × Int × Int × Int), B3 (20000 : Int) x.1 x.snd.1 x.snd.snd.1 ∧ inSrc l x.snd.snd.2) ∧ ∀ (x_1 : Int × Int × Int × Int), B3 (20000 : Int) x_1.1 x_1.snd.1 x_1.snd.snd.1 ∧ inSrc l x_1.snd.snd.2 → ((0 : Int) ≤ (20000 : Int) ∧ (20000 : Int) ≤ (1000000000000 : Int) ∧ inSrc l x_1.snd.snd.2) ∧ (∃ (x : Int × Int × Int × Int), B3 (20000 : Int) x.1 x.snd.1 x.snd.snd.1 ∧ inSrc l x.snd.snd.2) ∧ ∀ (x_2 : Int × Int × Int × Int), B3 (20000 : Int) x_2.1 x_2.snd.1 x_2.snd.snd.1 ∧ inSrc l x_2.snd.snd.2 → ((-1000000000000000000 : Int) ≤ (-5000 : Int) ∧ (-5000 : Int) ≤ (5000 : Int) ∧
    (5000 : Int) ≤ (1000000000000000000 : Int) ∧ inSrc l x_2.snd.snd.2) ∧ (∃ (x : Int × Int), (-5000 : Int) ≤ x.1 ∧ x.1 ≤ 5000 ∧ x.2 = adv l x_2.snd.snd.2) ∧ ∀ (x_3 : Int × Int), (-5000 : Int) ≤ x_3.1 ∧ x_3.1 ≤ 5000 ∧ x_3.2 = adv l x_2.snd.snd.2 → ((0 : Int) ≤ (50000 : Int) ∧ (50000 : Int) ≤ (1000000000000 : Int) ∧ inSrc l x_3.2) ∧ (∃ (x : Int × Int × Int × Int), B3 (50000 : Int) x.1 x.snd.1 x.snd.snd.1 ∧ inSrc l x.snd.snd.2) ∧ ∀ (x_4 : Int × Int × Int × Int), B3 (50000 : Int) x_4.1 x_4.snd.1 x_4.snd.snd.1 ∧ inSrc l x_4.snd.snd.2 → ((0 : Int) ≤ (50000 : Int) ∧ (50000 : Int) ≤ (1000000000000 : Int) ∧ inSrc l x_4.snd.snd.2) ∧ (∃ (x : Int × Int × Int × Int), B3 (50000 : Int) x.1 x.snd.1 x.snd.snd.1 ∧ inSrc l x.snd.snd.2) ∧ ∀ (x_5 : Int × Int × Int × Int), B3 (50000 : Int) x_5.1 x_5.snd.1 x_5.snd.snd.1 ∧ inSrc l x_5.snd.snd.2 → ((0 : Int) ≤ (50000 : Int) ∧ (50000 : Int) ≤ (1000000000000 : Int) ∧ inSrc l x_5.snd.snd.2) ∧
    (∃ (x : Int × Int × Int × Int), B3 (50000 : Int) x.1 x.snd.1 x.snd.snd.1 ∧ inSrc l x.snd.snd.2) ∧ ∀ (x_6 : Int × Int × Int × Int), B3 (50000 : Int) x_6.1 x_6.snd.1 x_6.snd.snd.1 ∧ inSrc l x_6.snd.snd.2 → ((0 : Int) ≤ (50000 : Int) ∧ (50000 : Int) ≤ (1000000000000 : Int) ∧ inSrc l x_6.snd.snd.2) ∧ (∃ (x : Int × Int × Int × Int), B3 (50000 : Int) x.1 x.snd.1 x.snd.snd.1 ∧ inSrc l x.snd.snd.2) ∧ ∀ (x_7 : Int × Int × Int × Int), B3 (50000 : Int) x_7.1 x_7.snd.1 x_7.snd.snd.1 ∧ inSrc l x_7.snd.snd.2 → ((0 : Int) ≤ (50000 : Int) ∧ (50000 : Int) ≤ (1000000000000 : Int) ∧ inSrc l x_7.snd.snd.2) ∧ (∃ (x : Int × Int × Int × Int), B3 (50000 : Int) x.1 x.snd.1 x.snd.snd.1 ∧ inSrc l x.snd.snd.2) ∧ ∀ (x_8 : Int × Int × Int × Int), B3 (50000 : Int) x_8.1 x_8.snd.1 x_8.snd.snd.1 ∧ inSrc l x_8.snd.snd.2 → ((0 : Int) ≤ (50000 : Int) ∧ (50000 : Int) ≤ (1000000000000 : Int) ∧ inSrc l x_8.snd.snd.2) ∧ (∃ (x : Int × Int × Int × Int), B3 (50000 : Int) x.1 x.snd.1 x.snd.snd.1 ∧
    inSrc l x.snd.snd.2) ∧ ∀ (x_9 : Int × Int × Int × Int), B3 (50000 : Int) x_9.1 x_9.snd.1 x_9.snd.snd.1 ∧ inSrc l x_9.snd.snd.2 → ((0 : Int) < (2 : Int) ∧ (2 : Int) ≤ (4611686018427387904 : Int) ∧ inSrc l x_9.snd.snd.2) ∧ (∃ (x : Int × Int), drew l x_9.snd.snd.2 (2 : Int) x) ∧ ∀ (x_10 : Int × Int), drew l x_9.snd.snd.2 (2 : Int) x_10 → ((x_10.1 == 0) = true → ((-1000000000000000000 : Int) ≤ (17 : Int) ∧ (17 : Int) ≤ (19 : Int) ∧ (19 : Int) ≤ (1000000000000000000 : Int) ∧ inSrc l x_10.2) ∧ (∃ (x : Int × Int), 17 ≤ x.1 ∧ x.1 ≤ 19 ∧ x.2 = adv l x_10.2) ∧ ∀ (x_11 : Int × Int), 17 ≤ x_11.1 ∧ x_11.1 ≤ 19 ∧ x_11.2 = adv l x_10.2 → ((0 : Int) ≤ (50000 : Int) ∧ (50000 : Int) ≤ (1000000000000 : Int) ∧ inSrc l x_11.2) ∧ (∃ (x : Int × Int × Int × Int), B3 (50000 : Int) x.1 x.snd.1 x.snd.snd.1 ∧ inSrc l x.snd.snd.2) ∧ ∀ (x_12 : Int × Int × Int × Int), B3 (50000 : Int) x_12.1 x_12.snd.1 x_12.snd.snd.1 ∧
    inSrc l x_12.snd.snd.2 → ((0 : Int) < (360000000 : Int) ∧ (360000000 : Int) ≤ (4611686018427387904 : Int) ∧ inSrc l x_12.snd.snd.2) ∧ (∃ (x : Int × Int), drew l x_12.snd.snd.2 (360000000 : Int) x) ∧ ∀ (x_13 : Int × Int), drew l x_12.snd.snd.2 (360000000 : Int) x_13 → Q { val := .agg [.int .i64 x_4.1, .int .i64 x_4.snd.1, .int .i64 x_4.snd.snd.1, .int .i64 x_5.1, .int .i64 x_5.snd.1, .int .i64 x_5.snd.snd.1, .int .i64 x_6.1, .int .i64 x_6.snd.1, .int .i64 x_6.snd.snd.1, .int .i64 x_7.1, .int .i64 x_7.snd.1, .int .i64 x_7.snd.snd.1, .int .i64 x_8.1, .int .i64 x_8.snd.1, .int .i64 x_8.snd.snd.1, .int .i64 x_9.1, .int .i64 x_9.snd.1, .int .i64 x_9.snd.snd.1, .int .i64 x.1, .int .i64 x_1.1, .int .i64 x_1.snd.1, .int .i64 x_1.snd.snd.1, .int .i64 x_2.1, .int .i64 x_2.snd.1, .int .i64 x_2.snd.snd.1, .int .i64 x_3.1, .bool true, .int .i64 x_11.1, .int .i64 x_12.1, .int .i64 x_12.snd.1, .int .i64 x_12.snd.snd.1, .int .i64 x_13.1], own := false, pars := [[.sl false [4] l, .int .i64 x_13.2]], news := [] }) ∧
    ((x_10.1 == 0) = false → Q { val := .agg [.int .i64 x_4.1, .int .i64 x_4.snd.1, .int .i64 x_4.snd.snd.1, .int .i64 x_5.1, .int .i64 x_5.snd.1, .int .i64 x_5.snd.snd.1, .int .i64 x_6.1, .int .i64 x_6.snd.1, .int .i64 x_6.snd.snd.1, .int .i64 x_7.1, .int .i64 x_7.snd.1, .int .i64 x_7.snd.snd.1, .int .i64 x_8.1, .int .i64 x_8.snd.1, .int .i64 x_8.snd.snd.1, .int .i64 x_9.1, .int .i64 x_9.snd.1, .int .i64 x_9.snd.snd.1, .int .i64 x.1, .int .i64 x_1.1, .int .i64 x_1.snd.1, .int .i64 x_1.snd.snd.1, .int .i64 x_2.1, .int .i64 x_2.snd.1, .int .i64 x_2.snd.snd.1, .int .i64 x_3.1, .bool false, .int .i64 0, .int .i64 0, .int .i64 0, .int .i64 0, .int .i64 0], own := false, pars := [[.sl false [4] l, .int .i64 x_10.2]], news := [] })) := by kernel_rfl
end Go.Proofs.YtgnknciihdajiaaDoor
namespace U
theorem src_ex {l : List (List Int)} {p B : Int} (h : inSrc l p) (hB : 0 ≤ B) : ∃ x : Int × Int × Int × Int, B3 B x.1 x.2.1 x.2.2.1 ∧ inSrc l x.2.2.2 :=
  ⟨(0, 0, 0, p), ⟨⟨by show -B ≤ 0; omega, hB⟩, ⟨by show -B ≤ 0; omega, hB⟩, by show -B ≤ 0; omega, hB⟩, h⟩
theorem rngx (l : List (List Int)) (p a b : Int) (h : a ≤ b) : ∃ x : Int × Int, a ≤ x.1 ∧ x.1 ≤ b ∧ x.2 = adv l p := ⟨(a, adv l p), Int.le_refl _, h, rfl⟩
end U
namespace Go.Proofs.YtgnknciihdajiaaDoor
open Go Go.HL U
attribute [local irreducible] hfun bodyT fragT
set_option maxHeartbeats 400000 in
set_option maxRecDepth 100000 in
theorem sVec : Sound Tryd.prog 20 SVec := by
  refine sound_of (C := CVec) tabVec Tryd.func20 (by kernel_rfl) (by decide +kernel) (by kernel_rfl) rfl ⟨sRange, trivial⟩ (loops0 (by kernel_rfl)) ?_
  intro hargs pars R h
  unfold SVec at h
  split at h
  case h_2 => exfalso; exact h
  rename_i n l p
  obtain ⟨⟨h0, h1, hs⟩, _, hR⟩ := h
  refine byVC (vcVec l p n R) ⟨by omega, fun x1 e1 => ⟨⟨by omega, by omega, by omega, hs⟩, rngx _ _ _ _ (by omega), fun a ha => ⟨by omega, fun x3 e3 => ?_⟩⟩⟩
  have s1 : inSrc l a.2 := by rw [ha.2.2]; exact inSrc_adv hs
  refine ⟨⟨by omega, by omega, by omega, s1⟩, rngx _ _ _ _ (by omega), fun b hb => ⟨by omega, fun x5 e5 => ?_⟩⟩
  have s2 : inSrc l b.2 := by rw [hb.2.2]; exact inSrc_adv s1
  refine ⟨⟨by omega, by omega, by omega, s2⟩, rngx _ _ _ _ (by omega), fun c hc => ?_⟩
  have s3 : inSrc l c.2 := by rw [hc.2.2]; exact inSrc_adv s2
  exact hR (a.1, b.1, c.1, c.2) ⟨⟨⟨by show -n ≤ a.1; omega, ha.2.1⟩, ⟨by show -n ≤ b.1; omega, hb.2.1⟩, by show -n ≤ c.1; omega, hc.2.1⟩, s3⟩
set_option maxHeartbeats 400000 in
set_option maxRecDepth 100000 in
theorem sFrm : Sound Tryd.prog 19 SFrm := by
  refine sound_of (C := CFrm) tabFrm Tryd.func19 (by kernel_rfl) (by decide +kernel) (by kernel_rfl) rfl ⟨sRange, sNext, sVec, trivial⟩ (loopsAll (by kernel_rfl)) ?_
  intro hargs pars R h
  unfold SFrm at h
  split at h
  case h_2 => exfalso; exact h
  rename_i l p
  obtain ⟨hs, _, hR⟩ := h
  refine byVC (vcFrm l p R) ⟨⟨by decide, by decide, by decide, hs⟩, rngx _ _ _ _ (by decide), fun a ha => ?_⟩
  have s0 : inSrc l a.2 := by rw [ha.2.2]; exact inSrc_adv hs
  refine ⟨⟨by decide, by decide, s0⟩, src_ex s0 (by decide), fun b hb => ⟨⟨by decide, by decide, hb.2⟩, src_ex hb.2 (by decide), fun c hc => ⟨⟨by decide, by decide, by decide, hc.2⟩, rngx _ _ _ _ (by decide), fun d hd => ?_⟩⟩⟩
  have s1 : inSrc l d.2 := by rw [hd.2.2]; exact inSrc_adv hc.2
  refine ⟨⟨by decide, by decide, s1⟩, src_ex s1 (by decide), fun e0 k0 => ⟨⟨by decide, by decide, k0.2⟩, src_ex k0.2 (by decide), fun e1 k1 => ⟨⟨by decide, by decide, k1.2⟩, src_ex k1.2 (by decide), fun e2 k2 => ⟨⟨by decide, by decide, k2.2⟩, src_ex k2.2 (by decide), fun e3 k3 => ⟨⟨by decide, by decide, k3.2⟩, src_ex k3.2 (by decide), fun e4 k4 => ⟨⟨by decide, by decide, k4.2⟩, src_ex k4.2 (by decide), fun e5 k5 => ⟨⟨by decide, by decide, k5.2⟩, drew_ex _ _ (by decide), fun t ht => ?_⟩⟩⟩⟩⟩⟩⟩
  have s2 := drew_src k5.2 ht
  refine ⟨fun g => ⟨⟨by decide, by decide, by decide, s2⟩, rngx _ _ _ _ (by decide), fun u hu => ?_⟩, fun g => ?_⟩
  · have s3 : inSrc l u.2 := by rw [hu.2.2]; exact inSrc_adv s2
    refine ⟨⟨by decide, by decide, s3⟩, src_ex s3 (by decide), fun v hv => ⟨⟨by decide, by decide, hv.2⟩, drew_ex _ _ (by decide), fun w hw => ?_⟩⟩
    exact hR (⟨e0.1, e0.2.1, e0.2.2.1, e1.1, e1.2.1, e1.2.2.1, e2.1, e2.2.1, e2.2.2.1, e3.1, e3.2.1, e3.2.2.1, e4.1, e4.2.1, e4.2.2.1, e5.1, e5.2.1, e5.2.2.1, a.1, b.1, b.2.1, b.2.2.1, c.1, c.2.1, c.2.2.1, d.1, true, u.1, v.1, v.2.1, v.2.2.1, w.1⟩, w.2)
      ⟨⟨⟨ha.1, ha.2.1⟩, k0.1, k1.1, k2.1, k3.1, k4.1, k5.1, hb.1, hc.1, ⟨hd.1, hd.2.1⟩, fun k => (by cases k), fun _ => ⟨⟨hu.1, hu.2.1⟩, hv.1, hw.1, hw.2.1⟩⟩, drew_src hv.2 hw⟩
  · exact hR (⟨e0.1, e0.2.1, e0.2.2.1, e1.1, e1.2.1, e1.2.2.1, e2.1, e2.2.1, e2.2.2.1, e3.1, e3.2.1, e3.2.2.1, e4.1, e4.2.1, e4.2.2.1, e5.1, e5.2.1, e5.2.2.1, a.1, b.1, b.2.1, b.2.2.1, c.1, c.2.1, c.2.2.1, d.1, false, 0, 0, 0, 0, 0⟩, t.2)
      ⟨⟨⟨ha.1, ha.2.1⟩, k0.1, k1.1, k2.1, k3.1, k4.1, k5.1, hb.1, hc.1, ⟨hd.1, hd.2.1⟩, fun _ => ⟨rfl, rfl, rfl, rfl, rfl⟩, fun k => (by cases k)⟩, s2⟩
end Go.Proofs.YtgnknciihdajiaaDoor
namespace U
open Go Go.HL
theorem fl {X : Bool} {A B : Prop} (hX : X = false) (hB : B) : (X = true → A) ∧ (X = false → B) := ⟨fun g => (by rw [hX] at g; cases g), fun _ => hB⟩
theorem okF_O {f : FrS} (h : okF f) : okO f.sy f.s0 f.s1 f.s2 f.s3 f.s4 f.s5 f.s6 f.s7 f.s8 f.s9 f.s10 f.s11 f.s12 f.s13 f.s14 f.s15 f.s16 f.s17 f.l0 f.l1 f.l2 f.h0 f.h1 f.h2 f.ln := by
  obtain ⟨h1, a0, a1, a2, a3, a4, a5, b, c, d, _⟩ := h
  exact ⟨h1, ⟨B3_mono a0 (by decide), B3_mono a1 (by decide), B3_mono a2 (by decide), B3_mono a3 (by decide), B3_mono a4 (by decide), B3_mono a5 (by decide)⟩, B3_mono b (by decide), B3_mono c (by decide), by omega⟩
theorem okF_P {f : FrS} (h : okF f) : okP f.tu f.pl f.an ∧ B3 50000 f.c0 f.c1 f.c2 := by
  obtain ⟨_, _, _, _, _, _, _, _, _, _, h0, h1⟩ := h
  cases ht : f.tu with
  | false =>
    obtain ⟨e1, e2, e3, e4, e5⟩ := h0 ht
    rw [e2, e3, e4, e5]
    exact ⟨⟨fun k => (by cases k), by decide⟩, by unfold B3; decide⟩
  | true =>
    obtain ⟨e1, e2, e3⟩ := h1 ht
    exact ⟨⟨fun _ => e1, by omega⟩, e2⟩
def frZ : FrS := ⟨0, 0, 0, 0, 0, 0, 0, 0, 0, 0, 0, 0, 0, 0, 0, 0, 0, 0, 54, 0, 0, 0, 0, 0, 0, 0, false, 0, 0, 0, 0, 0⟩
theorem okF_Z : okF frZ :=
  have a : B3 50000 0 0 0 := by unfold B3; decide
  have b : B3 20000 0 0 0 := by unfold B3; decide
  ⟨by decide, a, a, a, a, a, a, b, b, by decide, fun _ => ⟨rfl, rfl, rfl, rfl, rfl⟩, fun k => (by cases k)⟩
end U

namespace U
open Go Go.HL
def cN (s : C3) : Int := s.x * s.x + s.y * s.y
def loN : Nat → Int
  | 0 => 652032874 * 652032874
  | n + 1 => loN n + loN n / (2 ^ n * 2 ^ n) - 34493956099
def hiN : Nat → Int
  | 0 => 652032874 * 652032874
  | n + 1 => hiN n + hiN n / (2 ^ n * 2 ^ n) + 34493956100
theorem mulb {u v A B : Int} (hu : -A ≤ u ∧ u ≤ A) (hv : -B ≤ v ∧ v ≤ B) : -(A * B) ≤ u * v ∧ u * v ≤ A * B := by
  have h : (u * v).natAbs ≤ A.toNat * B.toNat := by rw [Int.natAbs_mul]; exact Nat.mul_le_mul (by omega) (by omega)
  have e : ((A.toNat * B.toNat : Nat) : Int) = A * B := by
    rw [Int.natCast_mul, Int.toNat_of_nonneg (by omega), Int.toNat_of_nonneg (by omega)]
  omega
theorem nstep {x y P M : Int} (hP : 1 ≤ P) (hx : -M ≤ x ∧ x ≤ M) (hy : -M ≤ y ∧ y ≤ M) :
    ((x * x + y * y) + (x * x + y * y) / (P * P) - (8 * M + 4 * P + 3) ≤ (x - y / P) * (x - y / P) + (y + x / P) * (y + x / P) ∧
      (x - y / P) * (x - y / P) + (y + x / P) * (y + x / P) ≤ (x * x + y * y) + (x * x + y * y) / (P * P) + (8 * M + 4 * P + 3)) ∧
    ((x * x + y * y) + (x * x + y * y) / (P * P) - (8 * M + 4 * P + 3) ≤ (x + y / P) * (x + y / P) + (y - x / P) * (y - x / P) ∧
      (x + y / P) * (x + y / P) + (y - x / P) * (y - x / P) ≤ (x * x + y * y) + (x * x + y * y) / (P * P) + (8 * M + 4 * P + 3)) := by
  have p0 : 0 < P := by omega
  have ea := Int.mul_ediv_add_emod y P
  have eb := Int.mul_ediv_add_emod x P
  have ra := Int.emod_nonneg y (by omega : P ≠ 0)
  have rb := Int.emod_lt_of_pos y p0
  have sa := Int.emod_nonneg x (by omega : P ≠ 0)
  have sb := Int.emod_lt_of_pos x p0
  generalize y / P = a at *
  generalize x / P = b at *
  generalize y % P = r at *
  generalize x % P = s at *
  have w1 : P * P * 1 ≤ P * P * 1 := Int.le_refl _
  have hPW : P ≤ P * P := by have := Int.mul_le_mul_of_nonneg_left hP (Int.le_of_lt p0); rw [Int.mul_one] at this; exact this
  have hW : 0 < P * P := by omega
  have hd1 := Int.mul_ediv_add_emod (x * x + y * y) (P * P)
  have hd2 := Int.emod_nonneg (x * x + y * y) (by omega : P * P ≠ 0)
  have hd3 := Int.emod_lt_of_pos (x * x + y * y) hW
  generalize (x * x + y * y) / (P * P) = d at *
  generalize (x * x + y * y) % (P * P) = t at *
  have yr := mulb hy (show -P ≤ r ∧ r ≤ P by omega)
  have xs := mulb hx (show -P ≤ s ∧ s ≤ P by omega)
  have rr := mulb (show -P ≤ r ∧ r ≤ P by omega) (show -P ≤ r ∧ r ≤ P by omega)
  have ss := mulb (show -P ≤ s ∧ s ≤ P by omega) (show -P ≤ s ∧ s ≤ P by omega)
  have rr0 : 0 ≤ r * r := Int.mul_nonneg ra ra
  have ss0 : 0 ≤ s * s := Int.mul_nonneg sa sa
  have f1 : P * P * (a * a) = y * y - 2 * (y * r) + r * r := by
    have : P * a = y - r := by omega
    have e : P * P * (a * a) = (P * a) * (P * a) := by rw [Int.mul_assoc, Int.mul_assoc, Int.mul_left_comm P a a]
    rw [e, this, Int.sub_mul, Int.mul_sub, Int.mul_sub, Int.mul_comm r y]; omega
  have f2 : P * P * (b * b) = x * x - 2 * (x * s) + s * s := by
    have : P * b = x - s := by omega
    have e : P * P * (b * b) = (P * b) * (P * b) := by rw [Int.mul_assoc, Int.mul_assoc, Int.mul_left_comm P b b]
    rw [e, this, Int.sub_mul, Int.mul_sub, Int.mul_sub, Int.mul_comm s x]; omega
  have m0 : 0 ≤ M := by omega
  have hMP : M * P ≤ M * (P * P) := Int.mul_le_mul_of_nonneg_left hPW m0
  have hMW : M * (P * P) = P * P * M := Int.mul_comm _ _
  have q1 : P * P * (-(4 * M)) ≤ P * P * (a * a + b * b - d) := by
    rw [Int.mul_sub, Int.mul_add, f1, f2, Int.mul_neg, Int.mul_left_comm (P * P) 4 M]
    omega
  have q2 : P * P * (a * a + b * b - d) ≤ P * P * (4 * M + 3) := by
    rw [Int.mul_sub, Int.mul_add, f1, f2, Int.mul_add, Int.mul_left_comm (P * P) 4 M]
    omega
  have q1 := Int.le_of_mul_le_mul_left q1 hW
  have q2 := Int.le_of_mul_le_mul_left q2 hW
  have g1 : x * a = P * (a * b) + s * a := by
    rw [← eb, Int.add_mul, Int.mul_assoc, Int.mul_comm b a]
  have g2 : y * b = P * (a * b) + r * b := by
    rw [← ea, Int.add_mul, Int.mul_assoc]
  have small : ∀ {u v k w : Int}, P * v + w = u → 0 ≤ w → w < P → 0 ≤ k → k < P → (-M ≤ u ∧ u ≤ M) → -(M + P) ≤ k * v ∧ k * v ≤ M + P := by
    intro u v k w e w0 wP k0 kP hu
    by_cases hv : 0 ≤ v
    · have h1 := Int.mul_nonneg k0 hv
      have h2 := Int.mul_le_mul_of_nonneg_right (Int.le_of_lt kP) hv
      omega
    · have hv : v ≤ 0 := by omega
      have h1 := Int.mul_nonneg k0 (show 0 ≤ -v by omega)
      have h2 := Int.mul_le_mul_of_nonneg_right (Int.le_of_lt kP) (show 0 ≤ -v by omega)
      rw [Int.mul_neg] at h1 h2
      rw [Int.mul_neg] at h2
      omega
  have h1 := small ea ra rb sa sb hy
  have h2 := small eb sa sb ra rb hx
  have i1 : (x - a) * (x - a) + (y + b) * (y + b) = x * x + y * y + (a * a + b * b) + 2 * (r * b) - 2 * (s * a) := by
    rw [Int.sub_mul, Int.mul_sub, Int.mul_sub, Int.add_mul, Int.mul_add, Int.mul_add, Int.mul_comm a x, Int.mul_comm b y, g1, g2]; omega
  have i2 : (x + a) * (x + a) + (y - b) * (y - b) = x * x + y * y + (a * a + b * b) - 2 * (r * b) + 2 * (s * a) := by
    rw [Int.sub_mul, Int.mul_sub, Int.mul_sub, Int.add_mul, Int.mul_add, Int.mul_add, Int.mul_comm a x, Int.mul_comm b y, g1, g2]; omega
  rw [i1, i2]
  omega
theorem cnorm (z : Int) : ∀ n, n ≤ 26 → loN n ≤ cN (cord z n) ∧ cN (cord z n) ≤ hiN n
  | 0, _ => by
    have e : cN (cord z 0) = 652032874 * 652032874 := rfl
    rw [e]; exact ⟨Int.le_refl _, Int.le_refl _⟩
  | n + 1, hn => by
    obtain ⟨h1, h2⟩ := cnorm z n (by omega)
    have cb := cord_bd z n
    have cl := cbd_le n (by omega)
    have hp : (1 : Int) ≤ 2 ^ n := Int.pow_pos (by decide)
    have hp2 : (2 : Int) ^ n ≤ 33554432 := by
      have e : ∀ n, n < 26 → (2 : Int) ^ n ≤ 33554432 := by decide +kernel
      exact e n (by omega)
    have hw : (0 : Int) < 2 ^ n * 2 ^ n := Int.mul_pos (by omega) (by omega)
    have st := nstep (x := (cord z n).x) (y := (cord z n).y) (P := 2 ^ n) (M := 4294967296) hp (by omega) (by omega)
    have l1 := Int.ediv_le_ediv hw h1
    have l2 := Int.ediv_le_ediv hw h2
    have el : loN (n + 1) = loN n + loN n / (2 ^ n * 2 ^ n) - 34493956099 := rfl
    have eh : hiN (n + 1) = hiN n + hiN n / (2 ^ n * 2 ^ n) + 34493956100 := rfl
    rw [cord_succ, el, eh]
    unfold cstep
    split
    · unfold cN at *
      dsimp only
      rw [fdiv_pow, fdiv_pow]
      have := st.1
      omega
    · unfold cN at *
      dsimp only
      rw [fdiv_pow, fdiv_pow]
      have := st.2
      omega
theorem trn_n : ∀ (n : Nat) (p : Int × Int), (trn n p).1 * (trn n p).1 + (trn n p).2 * (trn n p).2 = p.1 * p.1 + p.2 * p.2
  | 0, _ => rfl
  | n + 1, p => by
    show (trn n (-p.2, p.1)).1 * (trn n (-p.2, p.1)).1 + (trn n (-p.2, p.1)).2 * (trn n (-p.2, p.1)).2 = _
    rw [trn_n n]
    show -p.2 * -p.2 + p.1 * p.1 = _
    rw [Int.neg_mul_neg]; omega
theorem sc_n (a : Int) : 1152920586126786920 ≤ scC a * scC a + scS a * scS a ∧ scC a * scC a + scS a * scS a ≤ 1152922422000000000 := by
  unfold scC scS
  rw [trn_n]
  unfold cs0
  have h := cnorm (ars a * 1000) 26 (Nat.le_refl _)
  have e1 : (1152920586126786920 : Int) ≤ loN 26 := by decide +kernel
  have e2 : hiN 26 ≤ (1152922422000000000 : Int) := by decide +kernel
  unfold cN at h
  split
  · dsimp only; omega
  · dsimp only; omega
end U

namespace Go.Proofs.YtgnknciihdajiaaDoor
open Go Go.HL U
def SFS (hargs : List HV) (pars : List (List HC)) : SR :=
  match hargs, pars with
  | [.ce (.sl false [4] l), .ce (.sl false [4] k)], [] => .det (l.length ≤ 9223372036854775807 ∧ k.length ≤ 9223372036854775807) okB1
  | _, _ => .fail
end Go.Proofs.YtgnknciihdajiaaDoor
namespace U
theorem sq_bd {c N : Int} {K : Nat} (h : c * c ≤ N) (hK : N < ((K * K : Nat) : Int)) : -(K : Int) ≤ c ∧ c ≤ (K : Int) := by
  have e := Int.natAbs_mul_self (a := c)
  by_cases k : c.natAbs ≤ K
  · omega
  · have := Nat.mul_le_mul (show K ≤ c.natAbs by omega) (show K ≤ c.natAbs by omega)
    omega
theorem sc_b (a : Int) : (-1073742300 ≤ scC a ∧ scC a ≤ 1073742300) ∧ (-1073742300 ≤ scS a ∧ scS a ≤ 1073742300) := by
  have h := (sc_n a).2
  have c0 : 0 ≤ scC a * scC a := by have := Int.natAbs_mul_self (a := scC a); omega
  have s0 : 0 ≤ scS a * scS a := by have := Int.natAbs_mul_self (a := scS a); omega
  exact ⟨sq_bd (K := 1073742300) (show scC a * scC a ≤ 1152922422000000000 by omega) (by decide), sq_bd (K := 1073742300) (show scS a * scS a ≤ 1152922422000000000 by omega) (by decide)⟩
theorem rt_b {x y a : Int} (hx : -250000 ≤ x ∧ x ≤ 250000) (hy : -250000 ≤ y ∧ y ≤ 250000) : (-500001 ≤ rtU x y a ∧ rtU x y a ≤ 500001) ∧ (-500001 ≤ rtW x y a ∧ rtW x y a ≤ 500001) := by
  have b := sc_b a
  have h1 := mulb hx b.1
  have h2 := mulb hx b.2
  have h3 := mulb hy b.1
  have h4 := mulb hy b.2
  unfold rtU rtW
  split
  · unfold nr; omega
  · decide
theorem pk6_b {s a b c d e f B : Int} (ha : -B ≤ a ∧ a ≤ B) (hb : -B ≤ b ∧ b ≤ B) (hc : -B ≤ c ∧ c ≤ B) (hd : -B ≤ d ∧ d ≤ B) (he : -B ≤ e ∧ e ≤ B) (hf : -B ≤ f ∧ f ≤ B) : -B ≤ pk6 s a b c d e f ∧ pk6 s a b c d e f ≤ B := by
  unfold pk6
  split
  · exact ha
  · split
    · exact hb
    · split
      · exact hc
      · split
        · exact hd
        · split
          · exact he
          · exact hf
def oX (f : FrS) : Int := orX f.sy f.s0 f.s3 f.s6 f.s9 f.s12 f.s15 f.l0 f.h0
def oY (f : FrS) : Int := orX f.sy f.s1 f.s4 f.s7 f.s10 f.s13 f.s16 f.l1 f.h1
def oZ (f : FrS) : Int := orZ f.sy f.s2 f.s5 f.s8 f.s11 f.s14 f.s17 f.l2 f.h2 f.ln
theorem orF_b {f : FrS} (h : okF f) : B3 95000 (oX f) (oY f) (oZ f) := by
  obtain ⟨_, ⟨a0, b0, c0⟩, ⟨a1, b1, c1⟩, ⟨a2, b2, c2⟩, ⟨a3, b3, c3⟩, ⟨a4, b4, c4⟩, ⟨a5, b5, c5⟩, ⟨d0, d1, d2⟩, ⟨e0, e1, e2⟩, g, _⟩ := h
  have p0 := pk6_b (s := f.sy) a0 a1 a2 a3 a4 a5
  have p1 := pk6_b (s := f.sy) b0 b1 b2 b3 b4 b5
  have p2 := pk6_b (s := f.sy) c0 c1 c2 c3 c4 c5
  unfold oX oY oZ orX orZ
  exact ⟨by omega, by omega, by omega⟩
theorem rotF_b {f : FrS} {x y z : Int} (hf : okF f) (hp : B3 200000 x y z) : (rotF f.tu f.pl f.c0 f.c1 f.c2 x y z f.an).ok = true ∧ B3 550001 (rotF f.tu f.pl f.c0 f.c1 f.c2 x y z f.an).x (rotF f.tu f.pl f.c0 f.c1 f.c2 x y z f.an).y (rotF f.tu f.pl f.c0 f.c1 f.c2 x y z f.an).z := by
  have hc := (okF_P hf).2
  have hpl := (okF_P hf).1.1
  cases ht : f.tu with
  | false => exact ⟨rfl, B3_mono hp (by decide)⟩
  | true =>
    have hpl := hpl ht
    have a := flat_bd (p := f.pl) (by decide) hp
    have b := flat_bd (p := f.pl) (by decide) hc
    have r := rt_b (x := fU f.pl x y z - fU f.pl f.c0 f.c1 f.c2) (y := fW f.pl x y z - fW f.pl f.c0 f.c1 f.c2) (a := f.an) (by omega) (by omega)
    have hA : -550001 ≤ tA f.pl f.c0 f.c1 f.c2 x y z f.an ∧ tA f.pl f.c0 f.c1 f.c2 x y z f.an ≤ 550001 := by unfold tA; omega
    have hB : -550001 ≤ tB f.pl f.c0 f.c1 f.c2 x y z f.an ∧ tB f.pl f.c0 f.c1 f.c2 x y z f.an ≤ 550001 := by unfold tB; omega
    have hH : -550001 ≤ fH f.pl x y z ∧ fH f.pl x y z ≤ 550001 := by omega
    refine ⟨decide_eq_true (by omega), ?_⟩
    show B3 550001 (tX f.pl f.c0 f.c1 f.c2 x y z f.an) (tY f.pl f.c0 f.c1 f.c2 x y z f.an) (tZ f.pl f.c0 f.c1 f.c2 x y z f.an)
    unfold tX tY tZ
    have k : f.pl = 17 ∨ f.pl = 18 ∨ f.pl = 19 := by omega
    generalize tA f.pl f.c0 f.c1 f.c2 x y z f.an = A at *
    generalize tB f.pl f.c0 f.c1 f.c2 x y z f.an = D at *
    generalize fH f.pl x y z = H at *
    rcases k with e | e | e <;> rw [e]
    · exact ⟨hA, hB, hH⟩
    · exact ⟨hB, hH, hA⟩
    · exact ⟨hH, hA, hB⟩
theorem toF_ok {f : FrS} {x y z o0 o1 o2 : Int} (hf : okF f) (hp : B3 200000 x y z) (ho : B3 95000 o0 o1 o2) :
    toF f.tu f.pl f.c0 f.c1 f.c2 f.an o0 o1 o2 x y z = ⟨(rotF f.tu f.pl f.c0 f.c1 f.c2 x y z f.an).x + o0, (rotF f.tu f.pl f.c0 f.c1 f.c2 x y z f.an).y + o1, (rotF f.tu f.pl f.c0 f.c1 f.c2 x y z f.an).z + o2, 0⟩ := by
  obtain ⟨h1, ⟨b0, b1, b2⟩⟩ := rotF_b hf hp
  obtain ⟨k0, k1, k2⟩ := ho
  unfold toF
  rw [if_pos (wn_iff.2 (B3_mono hp (by decide)))]
  exact mapW_ok h1 (wn_iff.2 ⟨by omega, by omega, by omega⟩)
end U


namespace U
theorem sq_le {a b : Int} (hb : 0 ≤ b) (h : a * a ≤ b * b) : a ≤ b := by
  by_cases k : a ≤ b
  · exact k
  · have h1 := Int.mul_le_mul (show b + 1 ≤ a by omega) (show b + 1 ≤ a by omega) (by omega) (by omega)
    have e : (b + 1) * (b + 1) = b * b + 2 * b + 1 := by grind
    omega
theorem sq_nn (a : Int) : 0 ≤ a * a := by have := Int.natAbs_mul_self (a := a); omega
theorem nr_e (m : Int) : ∃ e : Int, 1073741824 * nr m = m + e ∧ -536870912 ≤ e ∧ e ≤ 536870912 := ⟨1073741824 * nr m - m, by omega, by unfold nr; omega, by unfold nr; omega⟩
end U

