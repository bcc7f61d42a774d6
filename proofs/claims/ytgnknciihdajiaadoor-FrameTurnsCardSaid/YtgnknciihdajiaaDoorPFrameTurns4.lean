/-
  Part 4 of the texts that the law needs, merged: a value-level calculus of the code (HL), the contracts of the functions, and their proofs.
  Conditions: none.
-/
import Derived.Test.YtgnknciihdajiaaDoorPFrameTurns3
set_option maxRecDepth 100000
set_option maxHeartbeats 400000
set_option linter.unusedVariables false
set_option linter.unusedSimpArgs false
namespace U
open Go Go.HL
def vl (n : Int) : Bool := decide (n ≥ -1000000000000000) && decide (n ≤ 1000000000000000)
def lt (r : List Int) : Int := r.getD 0 0
def nm (r : List Int) : Int := r.getD 1 0
def fnd (c : Int) : List (List Int) → Option Int
  | [] => none
  | r :: l => if lt r = c then some (nm r) else fnd c l
def fndN (c : Int) (l : List (List Int)) : Int := match fnd c l with | some x => x | none => 0
def fndB (c : Int) (l : List (List Int)) : Bool := match fnd c l with | some _ => true | none => false
structure M where
  m0 : Int
  m1 : Int
  m2 : Int
  m3 : Int
  m4 : Int
  m5 : Int
  m6 : Int
  m7 : Int
  m8 : Int
  m9 : Int
  m10 : Int
  m11 : Int
  m12 : Int
  m13 : Bool
  m14 : Bool
  m15 : Int
  m16 : Int
  m17 : Int
  m18 : Int
  m19 : Int
  m20 : Int
  m21 : Int
def cM (m : M) : List HC := [.int .i64 m.m0, .int .i64 m.m1, .int .i64 m.m2, .int .i64 m.m3, .int .i64 m.m4, .int .i64 m.m5, .int .i64 m.m6, .int .i64 m.m7, .int .i64 m.m8, .int .i64 m.m9, .int .i64 m.m10, .int .i64 m.m11, .int .i64 m.m12, .bool m.m13, .bool m.m14, .int .i64 m.m15, .int .i64 m.m16, .int .i64 m.m17, .int .i64 m.m18, .int .i64 m.m19, .int .i64 m.m20, .int .i64 m.m21]
def lnV (n u : Int) : Int := if u = 20 then mdv (n * 254) 10000 2 else mdv (n * 1) 1000 2
def okU (n u : Int) : Bool := vl n && (u == 20 || u == 21)
def lnE (n u : Int) : Int := if okU n u then (if lnV n u < -1048576 ∨ lnV n u > 1048576 then 3 else 0) else 1
def lnN (n u : Int) : Int := if lnE n u = 0 then lnV n u else 0
def adv (l : List (List Int)) (p : Int) : Int := if p < (l.length : Int) then p + 1 else p
def inSrc (l : List (List Int)) (p : Int) : Prop := 0 ≤ p ∧ l.length ≤ 9223372036854775807
def drew (l : List (List Int)) (p m : Int) (x : Int × Int) : Prop := 0 ≤ x.1 ∧ x.1 < m ∧ x.2 = adv l p
theorem inSrc_adv {l : List (List Int)} {p : Int} (h : inSrc l p) : inSrc l (adv l p) := ⟨by have := h.1; unfold adv; split <;> omega, h.2⟩
theorem drew_src {l : List (List Int)} {p m : Int} {x : Int × Int} (h : inSrc l p) (hd : drew l p m x) : inSrc l x.2 := by rw [hd.2.2]; exact inSrc_adv h
theorem drew_ex (l : List (List Int)) (p : Int) {m : Int} (h : 0 < m) : ∃ x, drew l p m x := ⟨(0, adv l p), Int.le_refl _, h, rfl⟩
end U
namespace Go.Proofs.YtgnknciihdajiaaDoor
open Go Go.HL U
def SVl (hargs : List HV) (pars : List (List HC)) : SR :=
  match hargs, pars with
  | [.ce (.int .i64 n)], [] => .det True ⟨.ce (.bool (vl n)), false, [], []⟩
  | _, _ => .fail
noncomputable def CVl : Ctx := ⟨Tryd.prog, gam [], Tryd.f68.ntmps, [], []⟩
theorem vcVl (n : Int) (Q : Res → Prop) : (nfun true CVl Tryd.f68 (bodyOf Tryd.f68) [.ce (.int .i64 n)] [] Q) =
    ((decide (n ≥ (-1000000000000000 : Int)) = true → Q ⟨.ce (.bool (decide (n ≤ 1000000000000000))), false, [], []⟩) ∧ (decide (n ≥ (-1000000000000000 : Int)) = false → Q ⟨.ce (.bool false), false, [], []⟩)) := by kernel_rfl
def SFind (hargs : List HV) (pars : List (List HC)) : SR :=
  match hargs, pars with
  | [.ce (.sl false [4, 4] l), .ce (.int .i64 c)], [] => .det (l.length ≤ 1000) ⟨.tup [.ce (.int .i64 (fndN c l)), .ce (.bool (fndB c l))], false, [], []⟩
  | _, _ => .fail
def anFind : LAnn := ⟨[1, 4, 5, 8, 9, 10], [4, 5], [], false⟩
def LFind (v : LV) : LR :=
  match v with
  | ([.ce (.int .i64 c), .ce (.int .i64 r), .ce (.bool s), .ce (.sl false [4, 4] l), .ce (.int .i64 len), .ce (.int .i64 k)], []) =>
    .alts (k = 0 ∧ len = (l.length : Int) ∧ l.length ≤ 1000) [(fndB c l = false, .exit 0, ([.ce (.int .i64 r), .ce (.bool s)], [])), (fndB c l = true, .ret, ([.ce (.int .i64 (fndN c l)), .ce (.bool true)], []))]
  | _ => .fail
noncomputable def CFind : Ctx := ⟨Tryd.prog, gam [], Tryd.f45.ntmps, [(2, anFind, LFind)], []⟩
theorem vcFind (l : List (List Int)) (c : Int) (Q : Res → Prop) : (nfun true CFind Tryd.f45 (bodyOf Tryd.f45) [.ce (.sl false [4, 4] l), .ce (.int .i64 c)] [] Q) =
    (((0 : Int) = (0 : Int) ∧ (List.length l : Int) = (List.length l : Int) ∧ List.length l ≤ (1000 : Nat)) ∧ (fndB c l = false → Q ⟨.tup [.ce (.int .i64 0), .ce (.bool false)], false, [], []⟩) ∧ (fndB c l = true → Q ⟨.tup [.ce (.int .i64 (fndN c l)), .ce (.bool true)], false, [], []⟩)) := by kernel_rfl
theorem vbFind (c r len k : Int) (s : Bool) (l : List (List Int)) (K : HEx → LV → Prop) : (nbodyT true CFind anFind (nthLoop Tryd.f45 0) (([.ce (.int .i64 c), .ce (.int .i64 r), .ce (.bool s), .ce (.sl false [4, 4] l), .ce (.int .i64 len), .ce (.int .i64 k)], [])) K) =
    ((decide (k < len) = true → (0 ≤ k ∧ k < (List.length l : Int)) ∧ ((el l k.toNat == c) = true → K .ret ([.ce (.int .i64 (ec l k.toNat 1)), .ce (.bool true)], [])) ∧ ((el l k.toNat == c) = false → (-9223372036854775808 ≤ k + 1 ∧ k + 1 ≤ 9223372036854775807) ∧ ∀ (x1 : Int), x1 = k + 1 → K .normal ([.ce (.int .i64 c), .ce (.int .i64 r), .ce (.bool s), .ce (.sl false [4, 4] l), .ce (.int .i64 len), .ce (.int .i64 x1)], []))) ∧ (decide (k < len) = false → K (.exit 0) ([.ce (.int .i64 r), .ce (.bool s)], []))) := by kernel_rfl
def tabLen : List (FuncId × HL.Spec) := [(68, SVl), (69, SMulDiv)]
def SLen (hargs : List HV) (pars : List (List HC)) : SR :=
  match hargs, pars with
  | [.ce (.int .i64 n), .ce (.int .i64 u)], [] => .det True ⟨.tup [.ce (.int .i64 (lnN n u)), .ce (.int .i64 (lnE n u))], false, [], []⟩
  | _, _ => .fail
noncomputable def CLen : Ctx := ⟨Tryd.prog, gam tabLen, Tryd.f48.ntmps, [], []⟩
theorem vcLen (n u : Int) (Q : Res → Prop) : (nfun true CLen Tryd.f48 (bodyOf Tryd.f48) [.ce (.int .i64 n), .ce (.int .i64 u)] [] Q) =
    (True ∧ ∀ (x1 : Bool), x1 = vl n → ((!x1) = true → Q ⟨.tup [.ce (.int .i64 0), .ce (.int .i64 1)], false, [], []⟩) ∧ ((!x1) = false → ((u != 20) = true → ((u != 21) = true → Q ⟨.tup [.ce (.int .i64 0), .ce (.int .i64 1)], false, [], []⟩) ∧ ((u != 21) = false → ((-9223372036854775808 ≤ n ∧ n ≤ 9223372036854775807) ∧ (-9223372036854775808 ≤ (1 : Int) ∧ (1 : Int) ≤ 9223372036854775807) ∧ ((0 : Int) < (1000 : Int) ∧ (1000 : Int) ≤ 9223372036854775807) ∧ ((-4611686018427387904 : Int) ≤ n * 1 ∧ n * 1 ≤ (4611686018427387904 : Int)) ∧ (0 : Int) ≤ (2 : Int) ∧ (2 : Int) ≤ (2 : Int)) ∧ ∀ (x2 : Int), x2 = mdv (n * 1) (1000 : Int) (2 : Int) → ∀ (x3 : Bool), x3 = true → ((u == 20) = true → ((-9223372036854775808 ≤ n ∧ n ≤ 9223372036854775807) ∧ (-9223372036854775808 ≤ (254 : Int) ∧ (254 : Int) ≤ 9223372036854775807) ∧ ((0 : Int) < (10000 : Int) ∧ (10000 : Int) ≤ 9223372036854775807) ∧ ((-4611686018427387904 : Int) ≤ n * 254 ∧
    n * 254 ≤ (4611686018427387904 : Int)) ∧ (0 : Int) ≤ (2 : Int) ∧ (2 : Int) ≤ (2 : Int)) ∧ ∀ (x4 : Int), x4 = mdv (n * 254) (10000 : Int) (2 : Int) → ∀ (x5 : Bool), x5 = true → ((!x5) = true → Q ⟨.tup [.ce (.int .i64 0), .ce (.int .i64 3)], false, [], []⟩) ∧ ((!x5) = false → (decide (x4 < (-1048576 : Int)) = true → Q ⟨.tup [.ce (.int .i64 0), .ce (.int .i64 3)], false, [], []⟩) ∧ (decide (x4 < (-1048576 : Int)) = false → (decide (x4 > 1048576) = true → Q ⟨.tup [.ce (.int .i64 0), .ce (.int .i64 3)], false, [], []⟩) ∧ (decide (x4 > 1048576) = false → Q ⟨.tup [.ce (.int .i64 x4), .ce (.int .i64 0)], false, [], []⟩)))) ∧ ((u == 20) = false → ((!x3) = true → Q ⟨.tup [.ce (.int .i64 0), .ce (.int .i64 3)], false, [], []⟩) ∧ ((!x3) = false → (decide (x2 < (-1048576 : Int)) = true → Q ⟨.tup [.ce (.int .i64 0), .ce (.int .i64 3)], false, [], []⟩) ∧ (decide (x2 < (-1048576 : Int)) = false → (decide (x2 > 1048576) = true →
    Q ⟨.tup [.ce (.int .i64 0), .ce (.int .i64 3)], false, [], []⟩) ∧ (decide (x2 > 1048576) = false → Q ⟨.tup [.ce (.int .i64 x2), .ce (.int .i64 0)], false, [], []⟩)))))) ∧ ((u != 20) = false → ((-9223372036854775808 ≤ n ∧ n ≤ 9223372036854775807) ∧ (-9223372036854775808 ≤ (1 : Int) ∧ (1 : Int) ≤ 9223372036854775807) ∧ ((0 : Int) < (1000 : Int) ∧ (1000 : Int) ≤ 9223372036854775807) ∧ ((-4611686018427387904 : Int) ≤ n * 1 ∧ n * 1 ≤ (4611686018427387904 : Int)) ∧ (0 : Int) ≤ (2 : Int) ∧ (2 : Int) ≤ (2 : Int)) ∧ ∀ (x6 : Int), x6 = mdv (n * 1) (1000 : Int) (2 : Int) → ∀ (x7 : Bool), x7 = true → ((u == 20) = true → ((-9223372036854775808 ≤ n ∧ n ≤ 9223372036854775807) ∧ (-9223372036854775808 ≤ (254 : Int) ∧ (254 : Int) ≤ 9223372036854775807) ∧ ((0 : Int) < (10000 : Int) ∧ (10000 : Int) ≤ 9223372036854775807) ∧ ((-4611686018427387904 : Int) ≤ n * 254 ∧ n * 254 ≤ (4611686018427387904 : Int)) ∧ (0 : Int) ≤ (2 : Int) ∧
    (2 : Int) ≤ (2 : Int)) ∧ ∀ (x8 : Int), x8 = mdv (n * 254) (10000 : Int) (2 : Int) → ∀ (x9 : Bool), x9 = true → ((!x9) = true → Q ⟨.tup [.ce (.int .i64 0), .ce (.int .i64 3)], false, [], []⟩) ∧ ((!x9) = false → (decide (x8 < (-1048576 : Int)) = true → Q ⟨.tup [.ce (.int .i64 0), .ce (.int .i64 3)], false, [], []⟩) ∧ (decide (x8 < (-1048576 : Int)) = false → (decide (x8 > 1048576) = true → Q ⟨.tup [.ce (.int .i64 0), .ce (.int .i64 3)], false, [], []⟩) ∧ (decide (x8 > 1048576) = false → Q ⟨.tup [.ce (.int .i64 x8), .ce (.int .i64 0)], false, [], []⟩)))) ∧ ((u == 20) = false → ((!x7) = true → Q ⟨.tup [.ce (.int .i64 0), .ce (.int .i64 3)], false, [], []⟩) ∧ ((!x7) = false → (decide (x6 < (-1048576 : Int)) = true → Q ⟨.tup [.ce (.int .i64 0), .ce (.int .i64 3)], false, [], []⟩) ∧ (decide (x6 < (-1048576 : Int)) = false → (decide (x6 > 1048576) = true → Q ⟨.tup [.ce (.int .i64 0), .ce (.int .i64 3)], false, [], []⟩) ∧
    (decide (x6 > 1048576) = false → Q ⟨.tup [.ce (.int .i64 x6), .ce (.int .i64 0)], false, [], []⟩))))))) := by kernel_rfl
def SLight (hargs : List HV) (pars : List (List HC)) : SR :=
  match hargs, pars with
  | [.ce (.sl false [4] l)], [] => .det True ⟨.ce (.bool (decide ((l.length : Int) ≤ 120))), false, [], []⟩
  | _, _ => .fail
noncomputable def CLight : Ctx := ⟨Tryd.prog, gam [], Tryd.f11.ntmps, [], []⟩
theorem vcLight (l : List (List Int)) (Q : Res → Prop) : (nfun true CLight Tryd.f11 (bodyOf Tryd.f11) [.ce (.sl false [4] l)] [] Q) =
    (Q ⟨.ce (.bool (decide ((List.length l : Int) ≤ (120 : Int)))), false, [], []⟩) := by kernel_rfl
def SMod (hargs : List HV) (pars : List (List HC)) : SR :=
  match hargs, pars with
  | [.ce (.int .i64 v), .ce (.int .i64 n)], [] => .det (0 < n ∧ n ≤ 4611686018427387904) ⟨.ce (.int .i64 (v % n)), false, [], []⟩
  | _, _ => .fail
noncomputable def CMod : Ctx := ⟨Tryd.prog, gam [], Tryd.f28.ntmps, [], []⟩
theorem vcMod (v n : Int) (Q : Res → Prop) : (nfun true CMod Tryd.f28 (bodyOf Tryd.f28) [.ce (.int .i64 v), .ce (.int .i64 n)] [] Q) =
    (n ≠ 0 ∧ ∀ (x1 : Int), x1 = Int.tmod v n → (decide (x1 < 0) = true → (-9223372036854775808 ≤ x1 + n ∧ x1 + n ≤ 9223372036854775807) ∧ ∀ (x2 : Int), x2 = x1 + n → Q ⟨.ce (.int .i64 x2), false, [], []⟩) ∧ (decide (x1 < 0) = false → Q ⟨.ce (.int .i64 x1), false, [], []⟩)) := by kernel_rfl
def SNew (hargs : List HV) (pars : List (List HC)) : SR :=
  match hargs, pars with
  | [.ce (.sl false [4] l)], [] => .det True ⟨.ce (.ptr 500 0), false, [], [[.sl false [4] l, .int .i64 0]]⟩
  | _, _ => .fail
noncomputable def CNew : Ctx := ⟨Tryd.prog, gam [], Tryd.f14.ntmps, [], []⟩
theorem vcNew (l : List (List Int)) (Q : Res → Prop) : (nfun true CNew Tryd.f14 (bodyOf Tryd.f14) [.ce (.sl false [4] l)] [] Q) =
    (Q { val := .ce (.ptr 500 0), own := false, pars := [], news := [[.sl false [4] l, .int .i64 0]] }) := by kernel_rfl
def SNext (hargs : List HV) (pars : List (List HC)) : SR :=
  match hargs, pars with
  | [.ce (.ptr 0 0), .ce (.int .i64 m)], [[.sl false [4] l, .int .i64 p]] =>
    .all (0 < m ∧ m ≤ 4611686018427387904 ∧ inSrc l p) (Int × Int) (fun x => drew l p m x)
      (fun x => ⟨.ce (.int .i64 x.1), false, [[.sl false [4] l, .int .i64 x.2]], []⟩)
  | _, _ => .fail
def tabNext : List (FuncId × HL.Spec) := [(28, SMod)]
noncomputable def CNext : Ctx := ⟨Tryd.prog, gam tabNext, Tryd.f41.ntmps, [], []⟩
theorem vcNext (l : List (List Int)) (p m : Int) (Q : Res → Prop) : (nfun true CNext Tryd.f41 (bodyOf Tryd.f41) [.ce (.ptr 0 0), .ce (.int .i64 m)] [[.sl false [4] l, .int .i64 p]] Q) =
    ((decide (p ≥ (List.length l : Int)) = true → Q { val := .ce (.int .i64 0), own := false, pars := [[.sl false [4] l, .int .i64 p]], news := [] }) ∧ (decide (p ≥ (List.length l : Int)) = false → (-9223372036854775808 ≤ p + 1 ∧ p + 1 ≤ 9223372036854775807) ∧ ∀ (x1 : Int), x1 = p + 1 → (-9223372036854775808 ≤ x1 - 1 ∧ x1 - 1 ≤ 9223372036854775807) ∧ ∀ (x2 : Int), x2 = x1 - 1 → (0 ≤ x2 ∧ x2 < (List.length l : Int)) ∧ ∀ (x3 : Int), x3 = el l x2.toNat → (0 < m ∧ m ≤ 4611686018427387904) ∧ ∀ (x4 : Int), x4 = x3 % m → Q { val := .ce (.int .i64 x4), own := false, pars := [[.sl false [4] l, .int .i64 x1]], news := [] })) := by kernel_rfl
def SRange (hargs : List HV) (pars : List (List HC)) : SR :=
  match hargs, pars with
  | [.ce (.ptr 0 0), .ce (.int .i64 a), .ce (.int .i64 b)], [[.sl false [4] l, .int .i64 p]] =>
    .all (-1000000000000000000 ≤ a ∧ a ≤ b ∧ b ≤ 1000000000000000000 ∧ inSrc l p) (Int × Int) (fun x => a ≤ x.1 ∧ x.1 ≤ b ∧ x.2 = adv l p)
      (fun x => ⟨.ce (.int .i64 x.1), false, [[.sl false [4] l, .int .i64 x.2]], []⟩)
  | _, _ => .fail
def tabRange : List (FuncId × HL.Spec) := [(41, SNext)]
noncomputable def CRange : Ctx := ⟨Tryd.prog, gam tabRange, Tryd.f42.ntmps, [], []⟩
theorem vcRange (l : List (List Int)) (p a b : Int) (Q : Res → Prop) : (nfun true CRange Tryd.f42 (bodyOf Tryd.f42) [.ce (.ptr 0 0), .ce (.int .i64 a), .ce (.int .i64 b)] [[.sl false [4] l, .int .i64 p]] Q) =
    ((-9223372036854775808 ≤ b - a ∧ b - a ≤ 9223372036854775807) ∧ ∀ (x1 : Int), x1 = b - a → (-9223372036854775808 ≤ x1 + 1 ∧ x1 + 1 ≤ 9223372036854775807) ∧ ∀ (x2 : Int), x2 = x1 + 1 → (0 < x2 ∧ x2 ≤ 4611686018427387904 ∧ inSrc l p) ∧ (∃ (x : Int × Int), drew l p x2 x) ∧ ∀ (x : Int × Int), drew l p x2 x → (-9223372036854775808 ≤ a + x.1 ∧ a + x.1 ≤ 9223372036854775807) ∧ ∀ (x4 : Int), x4 = a + x.1 → Q { val := .ce (.int .i64 x4), own := false, pars := [[.sl false [4] l, .int .i64 x.2]], news := [] }) := by kernel_rfl
end Go.Proofs.YtgnknciihdajiaaDoor
namespace U
open Go Go.HL
theorem drop_cons (l : List (List Int)) {j : Nat} (h : j < l.length) : l.drop j = l.getD j [] :: l.drop (j + 1) := by
  rw [List.drop_eq_getElem_cons h]
  congr 1
  simp [List.getD_eq_getElem?_getD, h]
theorem lt_el (l : List (List Int)) (j : Nat) : lt (l.getD j []) = el l j := rfl
theorem nm_ec (l : List (List Int)) (j : Nat) : nm (l.getD j []) = ec l j 1 := rfl
theorem vl_iff {n : Int} : vl n = true ↔ -1000000000000000 ≤ n ∧ n ≤ 1000000000000000 := by
  unfold vl
  simp
end U
namespace Go.Proofs.YtgnknciihdajiaaDoor
open Go Go.HL U
attribute [local irreducible] hfun bodyT fragT
set_option maxHeartbeats 400000 in
set_option maxRecDepth 100000 in
theorem sVl : Sound Tryd.prog 68 SVl := by
  refine sound_of (C := CVl) [] Tryd.func68 (by kernel_rfl) (by decide +kernel) (by kernel_rfl) rfl trivial (loops0 (by kernel_rfl)) ?_
  intro hargs pars R h
  unfold SVl at h
  split at h
  case h_2 => exfalso; exact h
  rename_i n
  have hq := h.2
  unfold vl at hq
  refine byVC (vcVl n R) ⟨fun e => ?_, fun e => ?_⟩ <;> rw [e] at hq <;> exact hq
theorem fnd_cons (c : Int) (r : List Int) (l : List (List Int)) : fndN c (r :: l) = (if lt r = c then nm r else fndN c l) ∧ fndB c (r :: l) = (if lt r = c then true else fndB c l) := by
  unfold fndN fndB
  rw [show fnd c (r :: l) = (if lt r = c then some (nm r) else fnd c l) from rfl]
  by_cases h : lt r = c
  · rw [if_pos h, if_pos h, if_pos h]; exact ⟨rfl, rfl⟩
  · rw [if_neg h, if_neg h, if_neg h]; exact ⟨rfl, rfl⟩
set_option maxRecDepth 100000 in
theorem loopFind : ∀ v Q, (LFind v).wp Q → hloop CFind anFind (nthLoop Tryd.f45 0) v Q := by
  intro v Q h
  unfold LFind at h
  split at h
  case h_2 => exact h.elim
  rename_i c r s l len k
  obtain ⟨⟨h1, h2, h3⟩, hq1, hq2⟩ := h
  subst h1 h2
  refine hloop_rec (σ := Nat) (fun j => ([.ce (.int .i64 c), .ce (.int .i64 r), .ce (.bool s), .ce (.sl false [4, 4] l), .ce (.int .i64 (l.length : Int)), .ce (.int .i64 (j : Int))], [])) (fun j => l.length - j) (fun j => j ≤ l.length ∧ fndN c l = fndN c (l.drop j) ∧ fndB c l = fndB c (l.drop j)) ?_ 0 ⟨Nat.zero_le _, rfl, rfl⟩
  rintro j ⟨hj, hp, hp'⟩ K hn he hr
  refine byVB (vbFind c r _ j s l K) ⟨fun hlt => ⟨by have := of_decide_eq_true hlt; omega, ?_⟩, fun hge => ?_⟩
  · have hlt := of_decide_eq_true hlt
    have hjl : j < l.length := by omega
    rw [drop_cons l hjl, (fnd_cons c _ _).1, lt_el, nm_ec] at hp
    rw [drop_cons l hjl, (fnd_cons c _ _).2, lt_el] at hp'
    have ej : ((j : Nat) : Int).toNat = j := by omega
    rw [ej]
    refine ⟨fun k => ?_, fun k => ⟨by omega, fun x e => ?_⟩⟩
    · have k : el l j = c := by simpa using k
      rw [if_pos k] at hp hp'
      have := hq2 hp'
      rw [hp] at this
      exact hr _ this
    · have k : el l j ≠ c := by simpa using k
      rw [if_neg k] at hp hp'
      rw [show x = ((j + 1 : Nat) : Int) by omega]
      exact hn (j + 1) ⟨by omega, hp, hp'⟩ (by omega)
  · have hge := of_decide_eq_false hge
    have : j = l.length := by omega
    subst this
    rw [List.drop_length] at hp'
    exact he _ _ (hq1 hp')
theorem fndN_none {c : Int} {l : List (List Int)} (h : fndB c l = false) : fndN c l = 0 := by
  unfold fndB at h
  unfold fndN
  split at h
  · cases h
  · rfl
set_option maxHeartbeats 400000 in
set_option maxRecDepth 100000 in
theorem sFind : Sound Tryd.prog 45 SFind := by
  refine sound_of (C := CFind) [] Tryd.func45 (by kernel_rfl) (by decide +kernel) (by kernel_rfl) rfl trivial (loops1 (by kernel_rfl) (loopOK_of (an := anFind) (S := LFind) (by kernel_rfl) loopFind)) ?_
  intro hargs pars R h
  unfold SFind at h
  split at h
  case h_2 => exfalso; exact h
  rename_i l c
  have hq := h.2
  exact byVC (vcFind l c R) ⟨⟨rfl, rfl, h.1⟩, fun e => by rw [fndN_none e, e] at hq; exact hq, fun e => by rw [e] at hq; exact hq⟩
theorem ok_20 {n : Int} (h : vl n = true) : okU n 20 = true := by unfold okU; rw [h]; rfl
theorem ok_21 {n : Int} (h : vl n = true) : okU n 21 = true := by unfold okU; rw [h]; rfl
theorem ok_vl {n u : Int} (h : vl n = false) : okU n u = false := by unfold okU; rw [h]; rfl
theorem ok_u {n u : Int} (h : u ≠ 20) (h2 : u ≠ 21) : okU n u = false := by
  unfold okU
  have e1 : (u == 20) = false := by simpa using h
  have e2 : (u == 21) = false := by simpa using h2
  rw [e1, e2]; simp
theorem ln_bad {n u : Int} {R : Res → Prop} (hq : R ⟨.tup [.ce (.int .i64 (lnN n u)), .ce (.int .i64 (lnE n u))], false, [], []⟩) (h : okU n u = false) : R ⟨.tup [.ce (.int .i64 0), .ce (.int .i64 1)], false, [], []⟩ := by
  have e : lnE n u = 1 := by unfold lnE; rw [h]; rfl
  unfold lnN at hq
  rw [e] at hq
  exact hq
theorem ln_out {n u : Int} {R : Res → Prop} (hq : R ⟨.tup [.ce (.int .i64 (lnN n u)), .ce (.int .i64 (lnE n u))], false, [], []⟩) (h : okU n u = true) (h2 : lnV n u < -1048576 ∨ lnV n u > 1048576) : R ⟨.tup [.ce (.int .i64 0), .ce (.int .i64 3)], false, [], []⟩ := by
  have e : lnE n u = 3 := by unfold lnE; rw [h, if_pos rfl, if_pos h2]
  unfold lnN at hq
  rw [e] at hq
  exact hq
theorem ln_ok {n u : Int} {R : Res → Prop} (hq : R ⟨.tup [.ce (.int .i64 (lnN n u)), .ce (.int .i64 (lnE n u))], false, [], []⟩) (h : okU n u = true) (h2 : ¬ (lnV n u < -1048576 ∨ lnV n u > 1048576)) {x : Int} (hx : x = lnV n u) : R ⟨.tup [.ce (.int .i64 x), .ce (.int .i64 0)], false, [], []⟩ := by
  have e : lnE n u = 0 := by unfold lnE; rw [h, if_pos rfl, if_neg h2]
  unfold lnN at hq
  rw [e] at hq
  rw [hx]
  exact hq
theorem lnV20 (n : Int) : lnV n 20 = mdv (n * 254) 10000 2 := rfl
theorem lnV21 (n : Int) : lnV n 21 = mdv (n * 1) 1000 2 := rfl
set_option maxHeartbeats 400000 in
set_option maxRecDepth 100000 in
theorem sLen : Sound Tryd.prog 48 SLen := by
  refine sound_of (C := CLen) tabLen Tryd.func48 (by kernel_rfl) (by decide +kernel) (by kernel_rfl) rfl ⟨sVl, sMulDiv, trivial⟩ (loops0 (by kernel_rfl)) ?_
  intro hargs pars R h
  unfold SLen at h
  split at h
  case h_2 => exfalso; exact h
  rename_i n u
  have hq := h.2
  clear h
  refine byVC (vcLen n u R) ⟨trivial, fun x1 e1 => ⟨fun k => ln_bad hq (ok_vl (by rw [← e1]; simpa using k)), fun k => ?_⟩⟩
  have hv : vl n = true := by rw [← e1]; simpa using k
  have hb := vl_iff.1 hv
  refine ⟨fun k1 => ⟨fun k2 => ln_bad hq (ok_u (by simpa using k1) (by simpa using k2)), fun k2 => ?_⟩, fun k1 => ?_⟩
  · have k1 : u ≠ 20 := by simpa using k1
    have k2 : u = 21 := by simpa using k2
    subst k2
    have h21 := ok_21 hv
    have hl := lnV21 n
    refine ⟨⟨by omega, by omega, by omega, by omega, by omega⟩, fun x2 e2 x3 e3 => ⟨fun z => absurd z (by simp), fun z => ⟨fun y => absurd y (by simp [e3]), fun y => ⟨fun a => ln_out hq h21 (.inl ?_), fun a => ⟨fun b => ln_out hq h21 (.inr ?_), fun b => ln_ok hq h21 ?_ (by omega)⟩⟩⟩⟩⟩
    all_goals
      simp only [decide_eq_true_eq, decide_eq_false_iff_not] at *
      omega
  · have k1 : u = 20 := by simpa using k1
    subst k1
    have h20 := ok_20 hv
    have hl := lnV20 n
    refine ⟨⟨by omega, by omega, by omega, by omega, by omega⟩, fun x2 e2 x3 e3 => ⟨fun z => ⟨⟨by omega, by omega, by omega, by omega, by omega⟩, fun x4 e4 x5 e5 => ⟨fun y => absurd y (by simp [e5]), fun y => ⟨fun a => ln_out hq h20 (.inl ?_), fun a => ⟨fun b => ln_out hq h20 (.inr ?_), fun b => ln_ok hq h20 ?_ (by omega)⟩⟩⟩⟩, fun z => absurd z (by simp)⟩⟩
    all_goals
      simp only [decide_eq_true_eq, decide_eq_false_iff_not] at *
      omega
theorem tmod_small {v n : Int} (h : 0 < n) : (v.tmod n < 0 → v.tmod n + n = v % n) ∧ (¬ v.tmod n < 0 → v.tmod n = v % n) := by
  have b := tmod_lt (a := v) h
  have e := Int.mul_tdiv_add_tmod v n
  have k : v % n = (v.tmod n) % n := by
    conv => lhs; rw [← e]
    rw [Int.mul_add_emod_self_left]
  constructor
  · intro z
    rw [k, ← Int.add_emod_right, Int.emod_eq_of_lt (by omega) (by omega)]
  · intro z
    rw [k, Int.emod_eq_of_lt (by omega) (by omega)]
set_option maxHeartbeats 400000 in
set_option maxRecDepth 100000 in
theorem sLight : Sound Tryd.prog 11 SLight := by
  refine sound_of (C := CLight) [] Tryd.func11 (by kernel_rfl) (by decide +kernel) (by kernel_rfl) rfl trivial (loops0 (by kernel_rfl)) ?_
  intro hargs pars R h
  unfold SLight at h
  split at h
  case h_2 => exfalso; exact h
  exact byVC (vcLight _ R) h.2
set_option maxHeartbeats 400000 in
set_option maxRecDepth 100000 in
theorem sMod : Sound Tryd.prog 28 SMod := by
  refine sound_of (C := CMod) [] Tryd.func28 (by kernel_rfl) (by decide +kernel) (by kernel_rfl) rfl trivial (loops0 (by kernel_rfl)) ?_
  intro hargs pars R h
  unfold SMod at h
  split at h
  case h_2 => exfalso; exact h
  rename_i v n
  obtain ⟨⟨h1, h2⟩, hq⟩ := h
  have := tmod_lt (a := v) h1
  refine byVC (vcMod v n R) ⟨by omega, fun x1 e1 => ⟨fun k => ⟨by omega, fun x2 e2 => ?_⟩, fun k => ?_⟩⟩
  · have k := of_decide_eq_true k
    have : x2 = v % n := by rw [e2, e1]; exact (tmod_small h1).1 (by rw [← e1]; exact k)
    rw [this]; exact hq
  · have k := of_decide_eq_false k
    have : x1 = v % n := by rw [e1]; exact (tmod_small h1).2 (by rw [← e1]; exact k)
    rw [this]; exact hq
set_option maxHeartbeats 400000 in
set_option maxRecDepth 100000 in
theorem sNew : Sound Tryd.prog 14 SNew := by
  refine sound_of (C := CNew) [] Tryd.func14 (by kernel_rfl) (by decide +kernel) (by kernel_rfl) rfl trivial (loops0 (by kernel_rfl)) ?_
  intro hargs pars R h
  unfold SNew at h
  split at h
  case h_2 => exfalso; exact h
  exact byVC (vcNew _ R) h.2
set_option maxHeartbeats 400000 in
set_option maxRecDepth 100000 in
theorem sNext : Sound Tryd.prog 41 SNext := by
  refine sound_of (C := CNext) tabNext Tryd.func41 (by kernel_rfl) (by decide +kernel) (by kernel_rfl) rfl ⟨sMod, trivial⟩ (loops0 (by kernel_rfl)) ?_
  intro hargs pars R h
  unfold SNext at h
  split at h
  case h_2 => exfalso; exact h
  rename_i m l p
  obtain ⟨⟨h1, h2, h3, h4⟩, _, hq⟩ := h
  refine byVC (vcNext l p m R) ⟨fun e => ?_, fun e => ?_⟩
  · have e := of_decide_eq_true e
    exact hq (0, p) ⟨Int.le_refl _, h1, by unfold adv; rw [if_neg (by omega)]⟩
  · have e := of_decide_eq_false e
    refine ⟨by omega, fun x1 e1 => ⟨by omega, fun x2 e2 => ⟨by omega, fun x3 e3 => ⟨⟨h1, h2⟩, fun y ey => ?_⟩⟩⟩⟩
    subst ey
    exact hq (x3 % m, x1) ⟨Int.emod_nonneg _ (by omega), Int.emod_lt_of_pos _ h1, by unfold adv; rw [if_pos (by omega)]; exact e1⟩
set_option maxHeartbeats 400000 in
set_option maxRecDepth 100000 in
theorem sRange : Sound Tryd.prog 42 SRange := by
  refine sound_of (C := CRange) tabRange Tryd.func42 (by kernel_rfl) (by decide +kernel) (by kernel_rfl) rfl ⟨sNext, trivial⟩ (loops0 (by kernel_rfl)) ?_
  intro hargs pars R h
  unfold SRange at h
  split at h
  case h_2 => exfalso; exact h
  rename_i a b l p
  obtain ⟨⟨h1, h2, h3, h4⟩, _, hq⟩ := h
  refine byVC (vcRange l p a b R) ⟨by omega, fun x1 e1 => ⟨by omega, fun x2 e2 => ⟨⟨by omega, by omega, h4⟩, drew_ex _ _ (by omega), fun x hx => ?_⟩⟩⟩
  have k1 := hx.1
  have k2 := hx.2.1
  refine ⟨by omega, fun x4 e4 => ?_⟩
  exact hq (x4, x.2) ⟨by dsimp only; omega, by dsimp only; omega, hx.2.2⟩
end Go.Proofs.YtgnknciihdajiaaDoor
namespace U
open Go Go.HL
structure C3 where
  x : Int
  y : Int
  z : Int
def cstep (i : Nat) (s : C3) : C3 :=
  if s.z ≥ 0 then ⟨s.x - s.y.fdiv (2 ^ i), s.y + s.x.fdiv (2 ^ i), s.z - atab.getD i 0⟩ else ⟨s.x + s.y.fdiv (2 ^ i), s.y - s.x.fdiv (2 ^ i), s.z + atab.getD i 0⟩
def cord (z : Int) : Nat → C3
  | 0 => ⟨652032874, 0, z⟩
  | n + 1 => cstep n (cord z n)
def trn : Nat → Int × Int → Int × Int
  | 0, p => p
  | n + 1, p => trn n (-p.2, p.1)
def ang (a : Int) : Int := a % 360000000
def akq (a : Int) : Int := (ang a + 45000000) / 90000000
def ars (a : Int) : Int := ang a - akq a * 90000000
def cs0 (a : Int) : Int × Int := if ars a ≠ 0 then ((cord (ars a * 1000) 26).x, (cord (ars a * 1000) 26).y) else (1073741824, 0)
def scC (a : Int) : Int := (trn (akq a).toNat (cs0 a)).1
def scS (a : Int) : Int := (trn (akq a).toNat (cs0 a)).2
def nr (n : Int) : Int := (n + 536870912) / 1073741824
def rtB (x y : Int) : Bool := decide (-4194304 ≤ x ∧ x ≤ 4194304 ∧ -4194304 ≤ y ∧ y ≤ 4194304)
def rtU (x y a : Int) : Int := if rtB x y then nr (x * scC a - y * scS a) else 0
def rtW (x y a : Int) : Int := if rtB x y then nr (x * scS a + y * scC a) else 0
def tabC : List HC := [.int .i64 45000000000, .int .i64 26565051177, .int .i64 14036243468, .int .i64 7125016349, .int .i64 3576334375, .int .i64 1789910608, .int .i64 895173710, .int .i64 447614171, .int .i64 223810500, .int .i64 111905677, .int .i64 55952892, .int .i64 27976453, .int .i64 13988227, .int .i64 6994114, .int .i64 3497057, .int .i64 1748528, .int .i64 874264, .int .i64 437132, .int .i64 218566, .int .i64 109283, .int .i64 54642, .int .i64 27321, .int .i64 13660, .int .i64 6830, .int .i64 3415, .int .i64 1708]
end U
namespace Go.Proofs.YtgnknciihdajiaaDoor
open Go Go.HL U
def SRem (hargs : List HV) (pars : List (List HC)) : SR :=
  match hargs, pars with
  | [.ce (.int .i64 a), .ce (.int .i64 b)], [] => .det (0 < b ∧ b ≤ 4611686018427387904) ⟨.ce (.int .i64 (a % b)), false, [], []⟩
  | _, _ => .fail
noncomputable def CRem : Ctx := ⟨Tryd.prog, gam [], Tryd.f89.ntmps, [], []⟩
theorem vcRem (a b : Int) (Q : Res → Prop) : (nfun true CRem Tryd.f89 (bodyOf Tryd.f89) [.ce (.int .i64 a), .ce (.int .i64 b)] [] Q) =
    (b ≠ 0 ∧ ∀ (x1 : Int), x1 = Int.tmod a b → (decide (x1 < 0) = true → (-9223372036854775808 ≤ x1 + b ∧ x1 + b ≤ 9223372036854775807) ∧ ∀ (x2 : Int), x2 = x1 + b → Q ⟨.ce (.int .i64 x2), false, [], []⟩) ∧ (decide (x1 < 0) = false → Q ⟨.ce (.int .i64 x1), false, [], []⟩)) := by kernel_rfl
def STrn (hargs : List HV) (pars : List (List HC)) : SR :=
  match hargs, pars with
  | [.ce (.int .i64 x), .ce (.int .i64 y), .ce (.int .i64 k)], [] => .det ((-4611686018427387904 ≤ x ∧ x ≤ 4611686018427387904) ∧ (-4611686018427387904 ≤ y ∧ y ≤ 4611686018427387904) ∧ (0 ≤ k ∧ k ≤ 4611686018427387904)) ⟨.tup [.ce (.int .i64 (trn k.toNat (x, y)).1), .ce (.int .i64 (trn k.toNat (x, y)).2)], false, [], []⟩
  | _, _ => .fail
def anTrn : LAnn := ⟨[0, 1, 2], [0, 1], [], false⟩
def LTrn (v : LV) : LR :=
  match v with
  | ([.ce (.int .i64 x), .ce (.int .i64 y), .ce (.int .i64 k)], []) => .det ((-4611686018427387904 ≤ x ∧ x ≤ 4611686018427387904) ∧ (-4611686018427387904 ≤ y ∧ y ≤ 4611686018427387904) ∧ (0 ≤ k ∧ k ≤ 4611686018427387904)) (.exit 0) ([.ce (.int .i64 (trn k.toNat (x, y)).1), .ce (.int .i64 (trn k.toNat (x, y)).2)], [])
  | _ => .fail
noncomputable def CTrn : Ctx := ⟨Tryd.prog, gam [], Tryd.f90.ntmps, [(1, anTrn, LTrn)], []⟩
theorem vcTrn (x y k : Int) (Q : Res → Prop) : (nfun true CTrn Tryd.f90 (bodyOf Tryd.f90) [.ce (.int .i64 x), .ce (.int .i64 y), .ce (.int .i64 k)] [] Q) =
    ((((-4611686018427387904 : Int) ≤ x ∧ x ≤ 4611686018427387904) ∧ ((-4611686018427387904 : Int) ≤ y ∧ y ≤ 4611686018427387904) ∧ 0 ≤ k ∧ k ≤ 4611686018427387904) ∧ Q ⟨.tup [.ce (.int .i64 (trn k.toNat (x, y)).1), .ce (.int .i64 (trn k.toNat (x, y)).2)], false, [], []⟩) := by kernel_rfl
theorem vbTrn (x y k : Int) (K : HEx → LV → Prop) : (nbodyT true CTrn anTrn (nthLoop Tryd.f90 0) (([.ce (.int .i64 x), .ce (.int .i64 y), .ce (.int .i64 k)], [])) K) =
    ((decide (k > 0) = true → (-9223372036854775808 ≤ (0 : Int) - y ∧ (0 : Int) - y ≤ 9223372036854775807) ∧ ∀ (x1 : Int), x1 = 0 - y → (-9223372036854775808 ≤ k - 1 ∧ k - 1 ≤ 9223372036854775807) ∧ ∀ (x2 : Int), x2 = k - 1 → K .normal ([.ce (.int .i64 x1), .ce (.int .i64 x), .ce (.int .i64 x2)], [])) ∧ (decide (k > 0) = false → K (.exit 0) ([.ce (.int .i64 x), .ce (.int .i64 y)], []))) := by kernel_rfl
def SSin (hargs : List HV) (pars : List (List HC)) : SR :=
  match hargs, pars with
  | [.ce (.int .i64 a)], [] => .det True ⟨.tup [.ce (.int .i64 (scS a)), .ce (.int .i64 (scC a))], false, [], []⟩
  | _, _ => .fail
def tabSin : List (FuncId × HL.Spec) := [(89, SRem), (90, STrn)]
def anSin : LAnn := ⟨[5, 6, 7, 9, 25, 26], [5, 6, 7], [], false⟩
def LSin (v : LV) : LR :=
  match v with
  | ([.ce (.int .i64 k), .ce (.int .i64 x), .ce (.int .i64 y), .ce (.int .i64 z), .agg tb, .ce (.int .i64 i)], []) =>
    .det (tb = tabC ∧ i = 0 ∧ x = 652032874 ∧ y = 0 ∧ (-45000000000 ≤ z ∧ z ≤ 45000000000)) (.exit 0) ([.ce (.int .i64 k), .ce (.int .i64 (cord z 26).x), .ce (.int .i64 (cord z 26).y)], [])
  | _ => .fail
def anSf : LAnn := ⟨[5, 6, 7, 9, 25, 26], [5, 6, 7, 9, 10, 11, 25, 26], [], false⟩
def LSf (v : LV) : LR :=
  match v with
  | ([.ce (.int .i64 k), .ce (.int .i64 x), .ce (.int .i64 y), .ce (.int .i64 z), .agg tb, .ce (.int .i64 i)], []) =>
    .det (tb = tabC ∧ 0 ≤ i ∧ i < 26) .normal ([.ce (.int .i64 k), .ce (.int .i64 x), .ce (.int .i64 y), .ce (.int .i64 z), .ce (.int .i64 i), .ce (.int .i64 (atab.getD i.toNat 0)), .agg tabC, .ce (.int .i64 i)], [])
  | _ => .fail
noncomputable def CSin : Ctx := ⟨Tryd.prog, gam tabSin, Tryd.f70.ntmps, [(9, anSin, LSin), (3000010, anSf, LSf)], []⟩
theorem vcSin (a : Int) (Q : Res → Prop) : (nfun true CSin Tryd.f70 (bodyOf Tryd.f70) [.ce (.int .i64 a)] [] Q) =
    (((0 : Int) < (360000000 : Int) ∧ (360000000 : Int) ≤ (4611686018427387904 : Int)) ∧ ∀ (x1 : Int), x1 = a % (360000000 : Int) → (-9223372036854775808 ≤ x1 + 45000000 ∧ x1 + 45000000 ≤ 9223372036854775807) ∧ ∀ (x2 : Int), x2 = x1 + 45000000 → (90000000 : Int) ≠ (0 : Int) ∧ (-9223372036854775808 ≤ Int.tdiv x2 (90000000 : Int) ∧ Int.tdiv x2 (90000000 : Int) ≤ 9223372036854775807) ∧ ∀ (x3 : Int), x3 = Int.tdiv x2 (90000000 : Int) → (-9223372036854775808 ≤ x3 * 90000000 ∧ x3 * 90000000 ≤ 9223372036854775807) ∧ ∀ (x4 : Int), x4 = x3 * 90000000 → (-9223372036854775808 ≤ x1 - x4 ∧ x1 - x4 ≤ 9223372036854775807) ∧ ∀ (x5 : Int), x5 = x1 - x4 → ((x5 != 0) = true → (-9223372036854775808 ≤ x5 * 1000 ∧ x5 * 1000 ≤ 9223372036854775807) ∧ ∀ (x6 : Int), x6 = x5 * 1000 → ([.int .i64 45000000000, .int .i64 26565051177, .int .i64 14036243468, .int .i64 7125016349, .int .i64 3576334375, .int .i64 1789910608, .int .i64 895173710, .int .i64 447614171, .int .i64 223810500, .int .i64 111905677, .int .i64 55952892, .int .i64 27976453, .int .i64 13988227, .int .i64 6994114, .int .i64 3497057, .int .i64 1748528, .int .i64 874264, .int .i64 437132, .int .i64 218566, .int .i64 109283, .int .i64 54642, .int .i64 27321, .int .i64 13660, .int .i64 6830, .int .i64 3415, .int .i64 1708] = tabC ∧
    (0 : Int) = (0 : Int) ∧ (652032874 : Int) = (652032874 : Int) ∧ (0 : Int) = (0 : Int) ∧ (-45000000000 : Int) ≤ x6 ∧ x6 ≤ 45000000000) ∧ (((-4611686018427387904 : Int) ≤ (cord x6 (26 : Nat)).x ∧ (cord x6 (26 : Nat)).x ≤ (4611686018427387904 : Int)) ∧ ((-4611686018427387904 : Int) ≤ (cord x6 (26 : Nat)).y ∧ (cord x6 (26 : Nat)).y ≤ (4611686018427387904 : Int)) ∧ 0 ≤ x3 ∧ x3 ≤ 4611686018427387904) ∧ ∀ (x7 : Int), x7 = (trn x3.toNat ((cord x6 (26 : Nat)).x, (cord x6 (26 : Nat)).y)).1 → ∀ (x8 : Int), x8 = (trn x3.toNat ((cord x6 (26 : Nat)).x, (cord x6 (26 : Nat)).y)).2 → Q ⟨.tup [.ce (.int .i64 x8), .ce (.int .i64 x7)], false, [], []⟩) ∧ ((x5 != 0) = false → (((-4611686018427387904 : Int) ≤ (1073741824 : Int) ∧ (1073741824 : Int) ≤ (4611686018427387904 : Int)) ∧ ((-4611686018427387904 : Int) ≤ (0 : Int) ∧ (0 : Int) ≤ (4611686018427387904 : Int)) ∧ 0 ≤ x3 ∧ x3 ≤ 4611686018427387904) ∧ ∀ (x9 : Int), x9 = (trn x3.toNat ((1073741824 : Int), (0 : Int))).1 →
    ∀ (x10 : Int), x10 = (trn x3.toNat ((1073741824 : Int), (0 : Int))).2 → Q ⟨.tup [.ce (.int .i64 x10), .ce (.int .i64 x9)], false, [], []⟩)) := by kernel_rfl
theorem vbSin (k x y z i : Int) (K : HEx → LV → Prop) : (nbodyT true CSin anSin (nthLoop Tryd.f70 0) (([.ce (.int .i64 k), .ce (.int .i64 x), .ce (.int .i64 y), .ce (.int .i64 z), .agg [.int .i64 45000000000, .int .i64 26565051177, .int .i64 14036243468, .int .i64 7125016349, .int .i64 3576334375, .int .i64 1789910608, .int .i64 895173710, .int .i64 447614171, .int .i64 223810500, .int .i64 111905677, .int .i64 55952892, .int .i64 27976453, .int .i64 13988227, .int .i64 6994114, .int .i64 3497057, .int .i64 1748528, .int .i64 874264, .int .i64 437132, .int .i64 218566, .int .i64 109283, .int .i64 54642, .int .i64 27321, .int .i64 13660, .int .i64 6830, .int .i64 3415, .int .i64 1708], .ce (.int .i64 i)], [])) K) =
    ((decide (i < 26) = true → ([.int .i64 45000000000, .int .i64 26565051177, .int .i64 14036243468, .int .i64 7125016349, .int .i64 3576334375, .int .i64 1789910608, .int .i64 895173710, .int .i64 447614171, .int .i64 223810500, .int .i64 111905677, .int .i64 55952892, .int .i64 27976453, .int .i64 13988227, .int .i64 6994114, .int .i64 3497057, .int .i64 1748528, .int .i64 874264, .int .i64 437132, .int .i64 218566, .int .i64 109283, .int .i64 54642, .int .i64 27321, .int .i64 13660, .int .i64 6830, .int .i64 3415, .int .i64 1708] = tabC ∧ 0 ≤ i ∧ i < 26) ∧ (decide (z ≥ 0) = true → 0 ≤ i ∧ ∀ (x1 : Int), x1 = Int.fdiv y ((2 : Int) ^ min i.toNat (64 : Nat)) → (-9223372036854775808 ≤ x - x1 ∧ x - x1 ≤ 9223372036854775807) ∧ ∀ (x2 : Int), x2 = x - x1 → 0 ≤ i ∧ ∀ (x3 : Int), x3 = Int.fdiv x ((2 : Int) ^ min i.toNat (64 : Nat)) → (-9223372036854775808 ≤ y + x3 ∧ y + x3 ≤ 9223372036854775807) ∧ ∀ (x4 : Int), x4 = y + x3 →
    (-9223372036854775808 ≤ z - List.getD atab i.toNat (0 : Int) ∧ z - List.getD atab i.toNat (0 : Int) ≤ 9223372036854775807) ∧ ∀ (x5 : Int), x5 = z - List.getD atab i.toNat (0 : Int) → (-9223372036854775808 ≤ i + 1 ∧ i + 1 ≤ 9223372036854775807) ∧ ∀ (x6 : Int), x6 = i + 1 → K .normal ([.ce (.int .i64 k), .ce (.int .i64 x2), .ce (.int .i64 x4), .ce (.int .i64 x5), .agg [.int .i64 45000000000, .int .i64 26565051177, .int .i64 14036243468, .int .i64 7125016349, .int .i64 3576334375, .int .i64 1789910608, .int .i64 895173710, .int .i64 447614171, .int .i64 223810500, .int .i64 111905677, .int .i64 55952892, .int .i64 27976453, .int .i64 13988227, .int .i64 6994114, .int .i64 3497057, .int .i64 1748528, .int .i64 874264, .int .i64 437132, .int .i64 218566, .int .i64 109283, .int .i64 54642, .int .i64 27321, .int .i64 13660, .int .i64 6830, .int .i64 3415, .int .i64 1708], .ce (.int .i64 x6)], [])) ∧
    (decide (z ≥ 0) = false → 0 ≤ i ∧ ∀ (x7 : Int), x7 = Int.fdiv y ((2 : Int) ^ min i.toNat (64 : Nat)) → (-9223372036854775808 ≤ x + x7 ∧ x + x7 ≤ 9223372036854775807) ∧ ∀ (x8 : Int), x8 = x + x7 → 0 ≤ i ∧ ∀ (x9 : Int), x9 = Int.fdiv x ((2 : Int) ^ min i.toNat (64 : Nat)) → (-9223372036854775808 ≤ y - x9 ∧ y - x9 ≤ 9223372036854775807) ∧ ∀ (x10 : Int), x10 = y - x9 → (-9223372036854775808 ≤ z + List.getD atab i.toNat (0 : Int) ∧ z + List.getD atab i.toNat (0 : Int) ≤ 9223372036854775807) ∧ ∀ (x11 : Int), x11 = z + List.getD atab i.toNat (0 : Int) → (-9223372036854775808 ≤ i + 1 ∧ i + 1 ≤ 9223372036854775807) ∧ ∀ (x12 : Int), x12 = i + 1 → K .normal ([.ce (.int .i64 k), .ce (.int .i64 x8), .ce (.int .i64 x10), .ce (.int .i64 x11), .agg [.int .i64 45000000000, .int .i64 26565051177, .int .i64 14036243468, .int .i64 7125016349, .int .i64 3576334375, .int .i64 1789910608, .int .i64 895173710, .int .i64 447614171, .int .i64 223810500, .int .i64 111905677, .int .i64 55952892, .int .i64 27976453, .int .i64 13988227, .int .i64 6994114, .int .i64 3497057, .int .i64 1748528, .int .i64 874264, .int .i64 437132, .int .i64 218566, .int .i64 109283, .int .i64 54642, .int .i64 27321, .int .i64 13660, .int .i64 6830, .int .i64 3415, .int .i64 1708], .ce (.int .i64 x12)], []))) ∧
    (decide (i < 26) = false → K (.exit 0) ([.ce (.int .i64 k), .ce (.int .i64 x), .ce (.int .i64 y)], []))) := by kernel_rfl
theorem vgSin (k x y z i : Int) (K : HEx → LV → Prop) : (nfragT true CSin anSf (nthFrag CSin Tryd.f70 0) (([.ce (.int .i64 k), .ce (.int .i64 x), .ce (.int .i64 y), .ce (.int .i64 z), .agg [.int .i64 45000000000, .int .i64 26565051177, .int .i64 14036243468, .int .i64 7125016349, .int .i64 3576334375, .int .i64 1789910608, .int .i64 895173710, .int .i64 447614171, .int .i64 223810500, .int .i64 111905677, .int .i64 55952892, .int .i64 27976453, .int .i64 13988227, .int .i64 6994114, .int .i64 3497057, .int .i64 1748528, .int .i64 874264, .int .i64 437132, .int .i64 218566, .int .i64 109283, .int .i64 54642, .int .i64 27321, .int .i64 13660, .int .i64 6830, .int .i64 3415, .int .i64 1708], .ce (.int .i64 i)], [])) K) =
    ((0 ≤ i ∧ i < 26) ∧ (i = 0 → K .normal ([.ce (.int .i64 k), .ce (.int .i64 x), .ce (.int .i64 y), .ce (.int .i64 z), .ce (.int .i64 i), .ce (.int .i64 45000000000), .agg [.int .i64 45000000000, .int .i64 26565051177, .int .i64 14036243468, .int .i64 7125016349, .int .i64 3576334375, .int .i64 1789910608, .int .i64 895173710, .int .i64 447614171, .int .i64 223810500, .int .i64 111905677, .int .i64 55952892, .int .i64 27976453, .int .i64 13988227, .int .i64 6994114, .int .i64 3497057, .int .i64 1748528, .int .i64 874264, .int .i64 437132, .int .i64 218566, .int .i64 109283, .int .i64 54642, .int .i64 27321, .int .i64 13660, .int .i64 6830, .int .i64 3415, .int .i64 1708], .ce (.int .i64 i)], [])) ∧ (i = 1 → K .normal ([.ce (.int .i64 k), .ce (.int .i64 x), .ce (.int .i64 y), .ce (.int .i64 z), .ce (.int .i64 i), .ce (.int .i64 26565051177), .agg [.int .i64 45000000000, .int .i64 26565051177, .int .i64 14036243468, .int .i64 7125016349, .int .i64 3576334375, .int .i64 1789910608, .int .i64 895173710, .int .i64 447614171, .int .i64 223810500, .int .i64 111905677, .int .i64 55952892, .int .i64 27976453, .int .i64 13988227, .int .i64 6994114, .int .i64 3497057, .int .i64 1748528, .int .i64 874264, .int .i64 437132, .int .i64 218566, .int .i64 109283, .int .i64 54642, .int .i64 27321, .int .i64 13660, .int .i64 6830, .int .i64 3415, .int .i64 1708], .ce (.int .i64 i)], [])) ∧
    (i = 2 → K .normal ([.ce (.int .i64 k), .ce (.int .i64 x), .ce (.int .i64 y), .ce (.int .i64 z), .ce (.int .i64 i), .ce (.int .i64 14036243468), .agg [.int .i64 45000000000, .int .i64 26565051177, .int .i64 14036243468, .int .i64 7125016349, .int .i64 3576334375, .int .i64 1789910608, .int .i64 895173710, .int .i64 447614171, .int .i64 223810500, .int .i64 111905677, .int .i64 55952892, .int .i64 27976453, .int .i64 13988227, .int .i64 6994114, .int .i64 3497057, .int .i64 1748528, .int .i64 874264, .int .i64 437132, .int .i64 218566, .int .i64 109283, .int .i64 54642, .int .i64 27321, .int .i64 13660, .int .i64 6830, .int .i64 3415, .int .i64 1708], .ce (.int .i64 i)], [])) ∧ (i = 3 → K .normal ([.ce (.int .i64 k), .ce (.int .i64 x), .ce (.int .i64 y), .ce (.int .i64 z), .ce (.int .i64 i), .ce (.int .i64 7125016349), .agg [.int .i64 45000000000, .int .i64 26565051177, .int .i64 14036243468, .int .i64 7125016349, .int .i64 3576334375, .int .i64 1789910608, .int .i64 895173710, .int .i64 447614171, .int .i64 223810500, .int .i64 111905677, .int .i64 55952892, .int .i64 27976453, .int .i64 13988227, .int .i64 6994114, .int .i64 3497057, .int .i64 1748528, .int .i64 874264, .int .i64 437132, .int .i64 218566, .int .i64 109283, .int .i64 54642, .int .i64 27321, .int .i64 13660, .int .i64 6830, .int .i64 3415, .int .i64 1708], .ce (.int .i64 i)], [])) ∧
    (i = 4 → K .normal ([.ce (.int .i64 k), .ce (.int .i64 x), .ce (.int .i64 y), .ce (.int .i64 z), .ce (.int .i64 i), .ce (.int .i64 3576334375), .agg [.int .i64 45000000000, .int .i64 26565051177, .int .i64 14036243468, .int .i64 7125016349, .int .i64 3576334375, .int .i64 1789910608, .int .i64 895173710, .int .i64 447614171, .int .i64 223810500, .int .i64 111905677, .int .i64 55952892, .int .i64 27976453, .int .i64 13988227, .int .i64 6994114, .int .i64 3497057, .int .i64 1748528, .int .i64 874264, .int .i64 437132, .int .i64 218566, .int .i64 109283, .int .i64 54642, .int .i64 27321, .int .i64 13660, .int .i64 6830, .int .i64 3415, .int .i64 1708], .ce (.int .i64 i)], [])) ∧ (i = 5 → K .normal ([.ce (.int .i64 k), .ce (.int .i64 x), .ce (.int .i64 y), .ce (.int .i64 z), .ce (.int .i64 i), .ce (.int .i64 1789910608), .agg [.int .i64 45000000000, .int .i64 26565051177, .int .i64 14036243468, .int .i64 7125016349, .int .i64 3576334375, .int .i64 1789910608, .int .i64 895173710, .int .i64 447614171, .int .i64 223810500, .int .i64 111905677, .int .i64 55952892, .int .i64 27976453, .int .i64 13988227, .int .i64 6994114, .int .i64 3497057, .int .i64 1748528, .int .i64 874264, .int .i64 437132, .int .i64 218566, .int .i64 109283, .int .i64 54642, .int .i64 27321, .int .i64 13660, .int .i64 6830, .int .i64 3415, .int .i64 1708], .ce (.int .i64 i)], [])) ∧
    (i = 6 → K .normal ([.ce (.int .i64 k), .ce (.int .i64 x), .ce (.int .i64 y), .ce (.int .i64 z), .ce (.int .i64 i), .ce (.int .i64 895173710), .agg [.int .i64 45000000000, .int .i64 26565051177, .int .i64 14036243468, .int .i64 7125016349, .int .i64 3576334375, .int .i64 1789910608, .int .i64 895173710, .int .i64 447614171, .int .i64 223810500, .int .i64 111905677, .int .i64 55952892, .int .i64 27976453, .int .i64 13988227, .int .i64 6994114, .int .i64 3497057, .int .i64 1748528, .int .i64 874264, .int .i64 437132, .int .i64 218566, .int .i64 109283, .int .i64 54642, .int .i64 27321, .int .i64 13660, .int .i64 6830, .int .i64 3415, .int .i64 1708], .ce (.int .i64 i)], [])) ∧ (i = 7 → K .normal ([.ce (.int .i64 k), .ce (.int .i64 x), .ce (.int .i64 y), .ce (.int .i64 z), .ce (.int .i64 i), .ce (.int .i64 447614171), .agg [.int .i64 45000000000, .int .i64 26565051177, .int .i64 14036243468, .int .i64 7125016349, .int .i64 3576334375, .int .i64 1789910608, .int .i64 895173710, .int .i64 447614171, .int .i64 223810500, .int .i64 111905677, .int .i64 55952892, .int .i64 27976453, .int .i64 13988227, .int .i64 6994114, .int .i64 3497057, .int .i64 1748528, .int .i64 874264, .int .i64 437132, .int .i64 218566, .int .i64 109283, .int .i64 54642, .int .i64 27321, .int .i64 13660, .int .i64 6830, .int .i64 3415, .int .i64 1708], .ce (.int .i64 i)], [])) ∧
    (i = 8 → K .normal ([.ce (.int .i64 k), .ce (.int .i64 x), .ce (.int .i64 y), .ce (.int .i64 z), .ce (.int .i64 i), .ce (.int .i64 223810500), .agg [.int .i64 45000000000, .int .i64 26565051177, .int .i64 14036243468, .int .i64 7125016349, .int .i64 3576334375, .int .i64 1789910608, .int .i64 895173710, .int .i64 447614171, .int .i64 223810500, .int .i64 111905677, .int .i64 55952892, .int .i64 27976453, .int .i64 13988227, .int .i64 6994114, .int .i64 3497057, .int .i64 1748528, .int .i64 874264, .int .i64 437132, .int .i64 218566, .int .i64 109283, .int .i64 54642, .int .i64 27321, .int .i64 13660, .int .i64 6830, .int .i64 3415, .int .i64 1708], .ce (.int .i64 i)], [])) ∧ (i = 9 → K .normal ([.ce (.int .i64 k), .ce (.int .i64 x), .ce (.int .i64 y), .ce (.int .i64 z), .ce (.int .i64 i), .ce (.int .i64 111905677), .agg [.int .i64 45000000000, .int .i64 26565051177, .int .i64 14036243468, .int .i64 7125016349, .int .i64 3576334375, .int .i64 1789910608, .int .i64 895173710, .int .i64 447614171, .int .i64 223810500, .int .i64 111905677, .int .i64 55952892, .int .i64 27976453, .int .i64 13988227, .int .i64 6994114, .int .i64 3497057, .int .i64 1748528, .int .i64 874264, .int .i64 437132, .int .i64 218566, .int .i64 109283, .int .i64 54642, .int .i64 27321, .int .i64 13660, .int .i64 6830, .int .i64 3415, .int .i64 1708], .ce (.int .i64 i)], [])) ∧
    (i = 10 → K .normal ([.ce (.int .i64 k), .ce (.int .i64 x), .ce (.int .i64 y), .ce (.int .i64 z), .ce (.int .i64 i), .ce (.int .i64 55952892), .agg [.int .i64 45000000000, .int .i64 26565051177, .int .i64 14036243468, .int .i64 7125016349, .int .i64 3576334375, .int .i64 1789910608, .int .i64 895173710, .int .i64 447614171, .int .i64 223810500, .int .i64 111905677, .int .i64 55952892, .int .i64 27976453, .int .i64 13988227, .int .i64 6994114, .int .i64 3497057, .int .i64 1748528, .int .i64 874264, .int .i64 437132, .int .i64 218566, .int .i64 109283, .int .i64 54642, .int .i64 27321, .int .i64 13660, .int .i64 6830, .int .i64 3415, .int .i64 1708], .ce (.int .i64 i)], [])) ∧ (i = 11 → K .normal ([.ce (.int .i64 k), .ce (.int .i64 x), .ce (.int .i64 y), .ce (.int .i64 z), .ce (.int .i64 i), .ce (.int .i64 27976453), .agg [.int .i64 45000000000, .int .i64 26565051177, .int .i64 14036243468, .int .i64 7125016349, .int .i64 3576334375, .int .i64 1789910608, .int .i64 895173710, .int .i64 447614171, .int .i64 223810500, .int .i64 111905677, .int .i64 55952892, .int .i64 27976453, .int .i64 13988227, .int .i64 6994114, .int .i64 3497057, .int .i64 1748528, .int .i64 874264, .int .i64 437132, .int .i64 218566, .int .i64 109283, .int .i64 54642, .int .i64 27321, .int .i64 13660, .int .i64 6830, .int .i64 3415, .int .i64 1708], .ce (.int .i64 i)], [])) ∧
    (i = 12 → K .normal ([.ce (.int .i64 k), .ce (.int .i64 x), .ce (.int .i64 y), .ce (.int .i64 z), .ce (.int .i64 i), .ce (.int .i64 13988227), .agg [.int .i64 45000000000, .int .i64 26565051177, .int .i64 14036243468, .int .i64 7125016349, .int .i64 3576334375, .int .i64 1789910608, .int .i64 895173710, .int .i64 447614171, .int .i64 223810500, .int .i64 111905677, .int .i64 55952892, .int .i64 27976453, .int .i64 13988227, .int .i64 6994114, .int .i64 3497057, .int .i64 1748528, .int .i64 874264, .int .i64 437132, .int .i64 218566, .int .i64 109283, .int .i64 54642, .int .i64 27321, .int .i64 13660, .int .i64 6830, .int .i64 3415, .int .i64 1708], .ce (.int .i64 i)], [])) ∧ (i = 13 → K .normal ([.ce (.int .i64 k), .ce (.int .i64 x), .ce (.int .i64 y), .ce (.int .i64 z), .ce (.int .i64 i), .ce (.int .i64 6994114), .agg [.int .i64 45000000000, .int .i64 26565051177, .int .i64 14036243468, .int .i64 7125016349, .int .i64 3576334375, .int .i64 1789910608, .int .i64 895173710, .int .i64 447614171, .int .i64 223810500, .int .i64 111905677, .int .i64 55952892, .int .i64 27976453, .int .i64 13988227, .int .i64 6994114, .int .i64 3497057, .int .i64 1748528, .int .i64 874264, .int .i64 437132, .int .i64 218566, .int .i64 109283, .int .i64 54642, .int .i64 27321, .int .i64 13660, .int .i64 6830, .int .i64 3415, .int .i64 1708], .ce (.int .i64 i)], [])) ∧
    (i = 14 → K .normal ([.ce (.int .i64 k), .ce (.int .i64 x), .ce (.int .i64 y), .ce (.int .i64 z), .ce (.int .i64 i), .ce (.int .i64 3497057), .agg [.int .i64 45000000000, .int .i64 26565051177, .int .i64 14036243468, .int .i64 7125016349, .int .i64 3576334375, .int .i64 1789910608, .int .i64 895173710, .int .i64 447614171, .int .i64 223810500, .int .i64 111905677, .int .i64 55952892, .int .i64 27976453, .int .i64 13988227, .int .i64 6994114, .int .i64 3497057, .int .i64 1748528, .int .i64 874264, .int .i64 437132, .int .i64 218566, .int .i64 109283, .int .i64 54642, .int .i64 27321, .int .i64 13660, .int .i64 6830, .int .i64 3415, .int .i64 1708], .ce (.int .i64 i)], [])) ∧ (i = 15 → K .normal ([.ce (.int .i64 k), .ce (.int .i64 x), .ce (.int .i64 y), .ce (.int .i64 z), .ce (.int .i64 i), .ce (.int .i64 1748528), .agg [.int .i64 45000000000, .int .i64 26565051177, .int .i64 14036243468, .int .i64 7125016349, .int .i64 3576334375, .int .i64 1789910608, .int .i64 895173710, .int .i64 447614171, .int .i64 223810500, .int .i64 111905677, .int .i64 55952892, .int .i64 27976453, .int .i64 13988227, .int .i64 6994114, .int .i64 3497057, .int .i64 1748528, .int .i64 874264, .int .i64 437132, .int .i64 218566, .int .i64 109283, .int .i64 54642, .int .i64 27321, .int .i64 13660, .int .i64 6830, .int .i64 3415, .int .i64 1708], .ce (.int .i64 i)], [])) ∧
    (i = 16 → K .normal ([.ce (.int .i64 k), .ce (.int .i64 x), .ce (.int .i64 y), .ce (.int .i64 z), .ce (.int .i64 i), .ce (.int .i64 874264), .agg [.int .i64 45000000000, .int .i64 26565051177, .int .i64 14036243468, .int .i64 7125016349, .int .i64 3576334375, .int .i64 1789910608, .int .i64 895173710, .int .i64 447614171, .int .i64 223810500, .int .i64 111905677, .int .i64 55952892, .int .i64 27976453, .int .i64 13988227, .int .i64 6994114, .int .i64 3497057, .int .i64 1748528, .int .i64 874264, .int .i64 437132, .int .i64 218566, .int .i64 109283, .int .i64 54642, .int .i64 27321, .int .i64 13660, .int .i64 6830, .int .i64 3415, .int .i64 1708], .ce (.int .i64 i)], [])) ∧ (i = 17 → K .normal ([.ce (.int .i64 k), .ce (.int .i64 x), .ce (.int .i64 y), .ce (.int .i64 z), .ce (.int .i64 i), .ce (.int .i64 437132), .agg [.int .i64 45000000000, .int .i64 26565051177, .int .i64 14036243468, .int .i64 7125016349, .int .i64 3576334375, .int .i64 1789910608, .int .i64 895173710, .int .i64 447614171, .int .i64 223810500, .int .i64 111905677, .int .i64 55952892, .int .i64 27976453, .int .i64 13988227, .int .i64 6994114, .int .i64 3497057, .int .i64 1748528, .int .i64 874264, .int .i64 437132, .int .i64 218566, .int .i64 109283, .int .i64 54642, .int .i64 27321, .int .i64 13660, .int .i64 6830, .int .i64 3415, .int .i64 1708], .ce (.int .i64 i)], [])) ∧
    (i = 18 → K .normal ([.ce (.int .i64 k), .ce (.int .i64 x), .ce (.int .i64 y), .ce (.int .i64 z), .ce (.int .i64 i), .ce (.int .i64 218566), .agg [.int .i64 45000000000, .int .i64 26565051177, .int .i64 14036243468, .int .i64 7125016349, .int .i64 3576334375, .int .i64 1789910608, .int .i64 895173710, .int .i64 447614171, .int .i64 223810500, .int .i64 111905677, .int .i64 55952892, .int .i64 27976453, .int .i64 13988227, .int .i64 6994114, .int .i64 3497057, .int .i64 1748528, .int .i64 874264, .int .i64 437132, .int .i64 218566, .int .i64 109283, .int .i64 54642, .int .i64 27321, .int .i64 13660, .int .i64 6830, .int .i64 3415, .int .i64 1708], .ce (.int .i64 i)], [])) ∧ (i = 19 → K .normal ([.ce (.int .i64 k), .ce (.int .i64 x), .ce (.int .i64 y), .ce (.int .i64 z), .ce (.int .i64 i), .ce (.int .i64 109283), .agg [.int .i64 45000000000, .int .i64 26565051177, .int .i64 14036243468, .int .i64 7125016349, .int .i64 3576334375, .int .i64 1789910608, .int .i64 895173710, .int .i64 447614171, .int .i64 223810500, .int .i64 111905677, .int .i64 55952892, .int .i64 27976453, .int .i64 13988227, .int .i64 6994114, .int .i64 3497057, .int .i64 1748528, .int .i64 874264, .int .i64 437132, .int .i64 218566, .int .i64 109283, .int .i64 54642, .int .i64 27321, .int .i64 13660, .int .i64 6830, .int .i64 3415, .int .i64 1708], .ce (.int .i64 i)], [])) ∧
    (i = 20 → K .normal ([.ce (.int .i64 k), .ce (.int .i64 x), .ce (.int .i64 y), .ce (.int .i64 z), .ce (.int .i64 i), .ce (.int .i64 54642), .agg [.int .i64 45000000000, .int .i64 26565051177, .int .i64 14036243468, .int .i64 7125016349, .int .i64 3576334375, .int .i64 1789910608, .int .i64 895173710, .int .i64 447614171, .int .i64 223810500, .int .i64 111905677, .int .i64 55952892, .int .i64 27976453, .int .i64 13988227, .int .i64 6994114, .int .i64 3497057, .int .i64 1748528, .int .i64 874264, .int .i64 437132, .int .i64 218566, .int .i64 109283, .int .i64 54642, .int .i64 27321, .int .i64 13660, .int .i64 6830, .int .i64 3415, .int .i64 1708], .ce (.int .i64 i)], [])) ∧ (i = 21 → K .normal ([.ce (.int .i64 k), .ce (.int .i64 x), .ce (.int .i64 y), .ce (.int .i64 z), .ce (.int .i64 i), .ce (.int .i64 27321), .agg [.int .i64 45000000000, .int .i64 26565051177, .int .i64 14036243468, .int .i64 7125016349, .int .i64 3576334375, .int .i64 1789910608, .int .i64 895173710, .int .i64 447614171, .int .i64 223810500, .int .i64 111905677, .int .i64 55952892, .int .i64 27976453, .int .i64 13988227, .int .i64 6994114, .int .i64 3497057, .int .i64 1748528, .int .i64 874264, .int .i64 437132, .int .i64 218566, .int .i64 109283, .int .i64 54642, .int .i64 27321, .int .i64 13660, .int .i64 6830, .int .i64 3415, .int .i64 1708], .ce (.int .i64 i)], [])) ∧
    (i = 22 → K .normal ([.ce (.int .i64 k), .ce (.int .i64 x), .ce (.int .i64 y), .ce (.int .i64 z), .ce (.int .i64 i), .ce (.int .i64 13660), .agg [.int .i64 45000000000, .int .i64 26565051177, .int .i64 14036243468, .int .i64 7125016349, .int .i64 3576334375, .int .i64 1789910608, .int .i64 895173710, .int .i64 447614171, .int .i64 223810500, .int .i64 111905677, .int .i64 55952892, .int .i64 27976453, .int .i64 13988227, .int .i64 6994114, .int .i64 3497057, .int .i64 1748528, .int .i64 874264, .int .i64 437132, .int .i64 218566, .int .i64 109283, .int .i64 54642, .int .i64 27321, .int .i64 13660, .int .i64 6830, .int .i64 3415, .int .i64 1708], .ce (.int .i64 i)], [])) ∧ (i = 23 → K .normal ([.ce (.int .i64 k), .ce (.int .i64 x), .ce (.int .i64 y), .ce (.int .i64 z), .ce (.int .i64 i), .ce (.int .i64 6830), .agg [.int .i64 45000000000, .int .i64 26565051177, .int .i64 14036243468, .int .i64 7125016349, .int .i64 3576334375, .int .i64 1789910608, .int .i64 895173710, .int .i64 447614171, .int .i64 223810500, .int .i64 111905677, .int .i64 55952892, .int .i64 27976453, .int .i64 13988227, .int .i64 6994114, .int .i64 3497057, .int .i64 1748528, .int .i64 874264, .int .i64 437132, .int .i64 218566, .int .i64 109283, .int .i64 54642, .int .i64 27321, .int .i64 13660, .int .i64 6830, .int .i64 3415, .int .i64 1708], .ce (.int .i64 i)], [])) ∧
    (i = 24 → K .normal ([.ce (.int .i64 k), .ce (.int .i64 x), .ce (.int .i64 y), .ce (.int .i64 z), .ce (.int .i64 i), .ce (.int .i64 3415), .agg [.int .i64 45000000000, .int .i64 26565051177, .int .i64 14036243468, .int .i64 7125016349, .int .i64 3576334375, .int .i64 1789910608, .int .i64 895173710, .int .i64 447614171, .int .i64 223810500, .int .i64 111905677, .int .i64 55952892, .int .i64 27976453, .int .i64 13988227, .int .i64 6994114, .int .i64 3497057, .int .i64 1748528, .int .i64 874264, .int .i64 437132, .int .i64 218566, .int .i64 109283, .int .i64 54642, .int .i64 27321, .int .i64 13660, .int .i64 6830, .int .i64 3415, .int .i64 1708], .ce (.int .i64 i)], [])) ∧ (i = 25 → K .normal ([.ce (.int .i64 k), .ce (.int .i64 x), .ce (.int .i64 y), .ce (.int .i64 z), .ce (.int .i64 i), .ce (.int .i64 1708), .agg [.int .i64 45000000000, .int .i64 26565051177, .int .i64 14036243468, .int .i64 7125016349, .int .i64 3576334375, .int .i64 1789910608, .int .i64 895173710, .int .i64 447614171, .int .i64 223810500, .int .i64 111905677, .int .i64 55952892, .int .i64 27976453, .int .i64 13988227, .int .i64 6994114, .int .i64 3497057, .int .i64 1748528, .int .i64 874264, .int .i64 437132, .int .i64 218566, .int .i64 109283, .int .i64 54642, .int .i64 27321, .int .i64 13660, .int .i64 6830, .int .i64 3415, .int .i64 1708], .ce (.int .i64 i)], []))) := by kernel_rfl
def SNr (hargs : List HV) (pars : List (List HC)) : SR :=
  match hargs, pars with
  | [.ce (.int .i64 n)], [] => .det (-4611686018427387904 ≤ n ∧ n ≤ 4611686018427387904) ⟨.ce (.int .i64 (nr n)), false, [], []⟩
  | _, _ => .fail
noncomputable def CNr : Ctx := ⟨Tryd.prog, gam [], Tryd.f71.ntmps, [], []⟩
theorem vcNr (n : Int) (Q : Res → Prop) : (nfun true CNr Tryd.f71 (bodyOf Tryd.f71) [.ce (.int .i64 n)] [] Q) =
    ((-9223372036854775808 ≤ n + 536870912 ∧ n + 536870912 ≤ 9223372036854775807) ∧ ∀ (x1 : Int), x1 = n + 536870912 → (0 : Int) ≤ (30 : Int) ∧ ∀ (x2 : Int), x2 = x1 / (1073741824 : Int) → Q ⟨.ce (.int .i64 x2), false, [], []⟩) := by kernel_rfl
def SRot (hargs : List HV) (pars : List (List HC)) : SR :=
  match hargs, pars with
  | [.ce (.int .i64 x), .ce (.int .i64 y), .ce (.int .i64 a)], [] => .det True ⟨.tup [.ce (.int .i64 (rtU x y a)), .ce (.int .i64 (rtW x y a)), .ce (.bool (rtB x y))], false, [], []⟩
  | _, _ => .fail
def tabRot : List (FuncId × HL.Spec) := [(70, SSin), (71, SNr)]
noncomputable def CRot : Ctx := ⟨Tryd.prog, gam tabRot, Tryd.f49.ntmps, [], []⟩
theorem vcRot (x y a : Int) (Q : Res → Prop) : (nfun true CRot Tryd.f49 (bodyOf Tryd.f49) [.ce (.int .i64 x), .ce (.int .i64 y), .ce (.int .i64 a)] [] Q) =
    ((decide (x < (-4194304 : Int)) = true → Q ⟨.tup [.ce (.int .i64 0), .ce (.int .i64 0), .ce (.bool false)], false, [], []⟩) ∧ (decide (x < (-4194304 : Int)) = false → (decide (x > 4194304) = true → Q ⟨.tup [.ce (.int .i64 0), .ce (.int .i64 0), .ce (.bool false)], false, [], []⟩) ∧ (decide (x > 4194304) = false → (decide (y < (-4194304 : Int)) = true → Q ⟨.tup [.ce (.int .i64 0), .ce (.int .i64 0), .ce (.bool false)], false, [], []⟩) ∧ (decide (y < (-4194304 : Int)) = false → (decide (y > 4194304) = true → Q ⟨.tup [.ce (.int .i64 0), .ce (.int .i64 0), .ce (.bool false)], false, [], []⟩) ∧ (decide (y > 4194304) = false → True ∧ ∀ (x1 : Int), x1 = scS a → ∀ (x2 : Int), x2 = scC a → (-9223372036854775808 ≤ x * x2 ∧ x * x2 ≤ 9223372036854775807) ∧ ∀ (x3 : Int), x3 = x * x2 → (-9223372036854775808 ≤ y * x1 ∧ y * x1 ≤ 9223372036854775807) ∧ ∀ (x4 : Int), x4 = y * x1 → (-9223372036854775808 ≤ x3 - x4 ∧
    x3 - x4 ≤ 9223372036854775807) ∧ ∀ (x5 : Int), x5 = x3 - x4 → ((-4611686018427387904 : Int) ≤ x5 ∧ x5 ≤ 4611686018427387904) ∧ ∀ (x6 : Int), x6 = nr x5 → (-9223372036854775808 ≤ x * x1 ∧ x * x1 ≤ 9223372036854775807) ∧ ∀ (x7 : Int), x7 = x * x1 → (-9223372036854775808 ≤ y * x2 ∧ y * x2 ≤ 9223372036854775807) ∧ ∀ (x8 : Int), x8 = y * x2 → (-9223372036854775808 ≤ x7 + x8 ∧ x7 + x8 ≤ 9223372036854775807) ∧ ∀ (x9 : Int), x9 = x7 + x8 → ((-4611686018427387904 : Int) ≤ x9 ∧ x9 ≤ 4611686018427387904) ∧ ∀ (x10 : Int), x10 = nr x9 → Q ⟨.tup [.ce (.int .i64 x6), .ce (.int .i64 x10), .ce (.bool true)], false, [], []⟩))))) := by kernel_rfl
end Go.Proofs.YtgnknciihdajiaaDoor
namespace U
theorem fdiv_pow (y : Int) (n : Nat) : y.fdiv (2 ^ n) = y / 2 ^ n := Int.fdiv_eq_ediv_of_nonneg _ (Int.le_of_lt (Int.pow_pos (by decide)))
theorem fdiv_bd {y B : Int} (n : Nat) (h : -B ≤ y ∧ y ≤ B) : -(B / 2 ^ n + 1) ≤ y.fdiv (2 ^ n) ∧ y.fdiv (2 ^ n) ≤ B / 2 ^ n := by
  have hp : (0 : Int) < 2 ^ n := Int.pow_pos (by decide)
  rw [fdiv_pow]
  refine ⟨Int.le_ediv_of_mul_le hp ?_, Int.ediv_le_ediv hp h.2⟩
  have := Int.lt_ediv_add_one_mul_self B hp
  rw [Int.neg_mul]
  omega
def cbd : Nat → Int
  | 0 => 652032874
  | n + 1 => cbd n + cbd n / 2 ^ n + 1
theorem cord_succ (z : Int) (n : Nat) : cord z (n + 1) = cstep n (cord z n) := rfl
theorem cord_bd (z : Int) : ∀ n, (-cbd n ≤ (cord z n).x ∧ (cord z n).x ≤ cbd n) ∧ (-cbd n ≤ (cord z n).y ∧ (cord z n).y ≤ cbd n)
  | 0 => by
    have e : (cord z 0).x = 652032874 ∧ (cord z 0).y = 0 ∧ cbd 0 = 652032874 := ⟨rfl, rfl, rfl⟩
    omega
  | n + 1 => by
    obtain ⟨hx, hy⟩ := cord_bd z n
    have fx := fdiv_bd n hx
    have fy := fdiv_bd n hy
    have e : cbd (n + 1) = cbd n + cbd n / 2 ^ n + 1 := rfl
    rw [cord_succ, e]
    unfold cstep
    split
    · dsimp only; omega
    · dsimp only; omega
theorem cbd_le : ∀ n, n ≤ 26 → cbd n ≤ 4294967296 := by
  have e : ∀ n, n < 27 → cbd n ≤ 4294967296 := by decide +kernel
  exact fun n hn => e n (by omega)
theorem atab_bd (n : Nat) : 0 ≤ atab.getD n 0 ∧ atab.getD n 0 ≤ 45000000000 := by
  by_cases h : n < 26
  · have e : ∀ n, n < 26 → 0 ≤ atab.getD n 0 ∧ atab.getD n 0 ≤ 45000000000 := by decide +kernel
    exact e n h
  · have : atab.length ≤ n := by show 26 ≤ n; omega
    rw [List.getD_eq_getElem?_getD, List.getElem?_eq_none this]; decide
theorem cord_z (z : Int) : ∀ n : Nat, -(z.natAbs : Int) - 45000000000 * n ≤ (cord z n).z ∧ (cord z n).z ≤ (z.natAbs : Int) + 45000000000 * n
  | 0 => by
    have e : (cord z 0).z = z := rfl
    rw [e]; omega
  | n + 1 => by
    have h := cord_z z n
    have t := atab_bd n
    rw [cord_succ]
    unfold cstep
    split
    · dsimp only; omega
    · dsimp only; omega
theorem trn_bd (B : Int) : ∀ (n : Nat) (p : Int × Int), (-B ≤ p.1 ∧ p.1 ≤ B) ∧ (-B ≤ p.2 ∧ p.2 ≤ B) → (-B ≤ (trn n p).1 ∧ (trn n p).1 ≤ B) ∧ (-B ≤ (trn n p).2 ∧ (trn n p).2 ≤ B)
  | 0, p, h => h
  | n + 1, p, h => trn_bd B n (-p.2, p.1) ⟨by dsimp only; omega, by dsimp only; omega⟩
theorem trn_succ (n : Nat) (x y : Int) : trn (n + 1) (x, y) = trn n (-y, x) := rfl
theorem sc_bd (a : Int) : (-4294967296 ≤ scC a ∧ scC a ≤ 4294967296) ∧ (-4294967296 ≤ scS a ∧ scS a ≤ 4294967296) := by
  unfold scC scS
  refine trn_bd 4294967296 _ _ ?_
  unfold cs0
  have h := cord_bd (ars a * 1000) 26
  have c := cbd_le 26 (Nat.le_refl _)
  split
  · dsimp only; omega
  · dsimp only; omega
theorem ang_bd (a : Int) : 0 ≤ ang a ∧ ang a < 360000000 := ⟨Int.emod_nonneg _ (by decide), Int.emod_lt_of_pos _ (by decide)⟩
theorem akq_bd (a : Int) : 0 ≤ akq a ∧ akq a ≤ 4 := by
  have := ang_bd a
  unfold akq
  omega
theorem ars_bd (a : Int) : -45000000 ≤ ars a ∧ ars a < 45000000 := by
  have := ang_bd a
  unfold ars akq
  omega
theorem mul_sc {x c : Int} (hx : -4194304 ≤ x ∧ x ≤ 4194304) (hc : -4294967296 ≤ c ∧ c ≤ 4294967296) : -18014398509481984 ≤ x * c ∧ x * c ≤ 18014398509481984 := by
  have h1 : (x * c).natAbs ≤ 4194304 * 4294967296 := by
    rw [Int.natAbs_mul]
    exact Nat.mul_le_mul (by omega) (by omega)
  omega
end U
namespace Go.Proofs.YtgnknciihdajiaaDoor
open Go Go.HL U
attribute [local irreducible] hfun bodyT fragT
set_option maxHeartbeats 400000 in
set_option maxRecDepth 100000 in
theorem sRem : Sound Tryd.prog 89 SRem := by
  refine sound_of (C := CRem) [] Tryd.func89 (by kernel_rfl) (by decide +kernel) (by kernel_rfl) rfl trivial (loops0 (by kernel_rfl)) ?_
  intro hargs pars R h
  unfold SRem at h
  split at h
  case h_2 => exfalso; exact h
  rename_i a b
  obtain ⟨hb, hq⟩ := h
  have t := tmod_small (v := a) hb.1
  refine byVC (vcRem a b R) ⟨by omega, fun x e => ⟨fun g => ⟨?_, fun x2 e2 => ?_⟩, fun g => ?_⟩⟩
  · have := Int.tmod_lt_of_pos a hb.1
    have := of_decide_eq_true g
    have h3 := t.1 (by omega)
    have h4 := Int.emod_nonneg a (show b ≠ 0 by omega)
    omega
  · have g := of_decide_eq_true g
    rw [show x2 = a % b by rw [e2, e]; exact t.1 (by omega)]; exact hq
  · have g := of_decide_eq_false g
    rw [show x = a % b by rw [e]; exact t.2 (by omega)]; exact hq
theorem loopTrn : ∀ v Q, (LTrn v).wp Q → hloop CTrn anTrn (nthLoop Tryd.f90 0) v Q := by
  intro v Q h
  unfold LTrn at h
  split at h
  case h_2 => exact h.elim
  rename_i x y k
  obtain ⟨⟨hx, hy, hk⟩, hq⟩ := h
  refine hloop_rec (σ := Int × Int × Int) (fun s => ([.ce (.int .i64 s.1), .ce (.int .i64 s.2.1), .ce (.int .i64 s.2.2)], []))
    (fun s => s.2.2.toNat) (fun s => (-4611686018427387904 ≤ s.1 ∧ s.1 ≤ 4611686018427387904) ∧ (-4611686018427387904 ≤ s.2.1 ∧ s.2.1 ≤ 4611686018427387904) ∧ (0 ≤ s.2.2 ∧ s.2.2 ≤ 4611686018427387904) ∧ trn s.2.2.toNat (s.1, s.2.1) = trn k.toNat (x, y)) ?_ (x, y, k) ⟨hx, hy, hk, rfl⟩
  rintro ⟨x', y', k'⟩ ⟨h1, h2, h3, h4⟩ K hn hxx _
  dsimp only at h1 h2 h3 h4 hn ⊢
  refine byVB (vbTrn x' y' k' K) ⟨fun g => ⟨by omega, fun x1 e1 => ⟨by omega, fun x2 e2 => ?_⟩⟩, fun g => ?_⟩
  · have g := of_decide_eq_true g
    refine hn (x1, x', x2) ⟨by dsimp only; omega, by dsimp only; omega, by dsimp only; omega, ?_⟩ (by dsimp only; omega)
    dsimp only
    rw [← h4, show k'.toNat = x2.toNat + 1 by omega, trn_succ, e1, Int.zero_sub]
  · have g := of_decide_eq_false g
    have e : k'.toNat = 0 := by omega
    rw [e] at h4
    have h4 : (x', y') = trn k.toNat (x, y) := h4
    rw [← h4] at hq
    exact hxx _ _ hq
set_option maxHeartbeats 400000 in
set_option maxRecDepth 100000 in
theorem sTrn : Sound Tryd.prog 90 STrn := by
  refine sound_of (C := CTrn) [] Tryd.func90 (by kernel_rfl) (by decide +kernel) (by kernel_rfl) rfl trivial (loops1 (by kernel_rfl) (loopOK_of (an := anTrn) (S := LTrn) (by kernel_rfl) loopTrn)) ?_
  intro hargs pars R h
  unfold STrn at h
  split at h
  case h_2 => exfalso; exact h
  rename_i x y k
  exact byVC (vcTrn x y k R) h
theorem cord_step {z : Int} (hz : -45000000000 ≤ z ∧ z ≤ 45000000000) {n : Nat} (hn : n < 26) :
    ((-4294967296 ≤ (cord z n).x ∧ (cord z n).x ≤ 4294967296) ∧ (-4294967296 ≤ (cord z n).y ∧ (cord z n).y ≤ 4294967296) ∧ (-2000000000000 ≤ (cord z n).z ∧ (cord z n).z ≤ 2000000000000)) ∧
    ((-4294967297 ≤ (cord z n).x.fdiv (2 ^ n) ∧ (cord z n).x.fdiv (2 ^ n) ≤ 4294967296) ∧ (-4294967297 ≤ (cord z n).y.fdiv (2 ^ n) ∧ (cord z n).y.fdiv (2 ^ n) ≤ 4294967296)) := by
  have h := cord_bd z n
  have c := cbd_le n (by omega)
  have hzz := cord_z z n
  have q : ∀ y : Int, -4294967296 ≤ y ∧ y ≤ 4294967296 → -4294967297 ≤ y.fdiv (2 ^ n) ∧ y.fdiv (2 ^ n) ≤ 4294967296 := fun y hy => by
    have f := fdiv_bd n hy
    have p : (0 : Int) < 2 ^ n := Int.pow_pos (by decide)
    have : (4294967296 : Int) / 2 ^ n ≤ 4294967296 := Int.ediv_le_self _ (by decide)
    omega
  exact ⟨⟨by omega, by omega, by omega⟩, q _ (by omega), q _ (by omega)⟩
theorem fragSin : ∀ v Q, (LSf v).wp Q → fragT CSin anSf (nthFrag CSin Tryd.f70 0) v Q := by
  intro v Q h
  unfold LSf at h
  split at h
  case h_2 => exact h.elim
  rename_i k x y z tb i
  obtain ⟨⟨rfl, hi⟩, hq⟩ := h
  obtain ⟨n, rfl⟩ := Int.eq_ofNat_of_zero_le hi.1
  have e : ∀ m : Nat, (n : Int) = (m : Int) → ∀ t : Int, atab.getD m 0 = t → Q .normal ([.ce (.int .i64 k), .ce (.int .i64 x), .ce (.int .i64 y), .ce (.int .i64 z), .ce (.int .i64 (n : Int)), .ce (.int .i64 t), .agg tabC, .ce (.int .i64 (n : Int))], []) := fun m hm t ht => by
    have : n = m := by omega
    subst this
    rw [← ht]; exact hq
  exact byVG (vgSin k x y z n Q) ⟨hi, fun g => e 0 g _ rfl, fun g => e 1 g _ rfl, fun g => e 2 g _ rfl, fun g => e 3 g _ rfl, fun g => e 4 g _ rfl, fun g => e 5 g _ rfl, fun g => e 6 g _ rfl, fun g => e 7 g _ rfl, fun g => e 8 g _ rfl, fun g => e 9 g _ rfl, fun g => e 10 g _ rfl, fun g => e 11 g _ rfl, fun g => e 12 g _ rfl, fun g => e 13 g _ rfl, fun g => e 14 g _ rfl, fun g => e 15 g _ rfl, fun g => e 16 g _ rfl, fun g => e 17 g _ rfl, fun g => e 18 g _ rfl, fun g => e 19 g _ rfl, fun g => e 20 g _ rfl, fun g => e 21 g _ rfl, fun g => e 22 g _ rfl, fun g => e 23 g _ rfl, fun g => e 24 g _ rfl, fun g => e 25 g _ rfl⟩
theorem loopSin : ∀ v Q, (LSin v).wp Q → hloop CSin anSin (nthLoop Tryd.f70 0) v Q := by
  intro v Q h
  unfold LSin at h
  split at h
  case h_2 => exact h.elim
  rename_i k x y z tb i
  obtain ⟨⟨h1, h2, h3, h4, hz⟩, hq⟩ := h
  subst h1 h2 h3 h4
  refine hloop_rec (σ := Nat) (fun n => ([.ce (.int .i64 k), .ce (.int .i64 (cord z n).x), .ce (.int .i64 (cord z n).y), .ce (.int .i64 (cord z n).z), .agg tabC, .ce (.int .i64 (n : Int))], []))
    (fun n => 26 - n) (fun n => n ≤ 26) ?_ 0 (Nat.zero_le _)
  intro n hn K hnn hxx _
  have hm : (min ((n : Int)).toNat 64) = n := by rw [Int.toNat_natCast]; omega
  refine byVB (vbSin k (cord z n).x (cord z n).y (cord z n).z n K) ⟨fun g => ?_, fun g => ?_⟩
  · have g := of_decide_eq_true g
    have hs := cord_step hz (n := n) (by omega)
    have t := atab_bd n
    have next := hnn (n + 1) (by omega) (by omega)
    rw [cord_succ] at next
    refine ⟨⟨rfl, by omega, g⟩, fun c => ?_, fun c => ?_⟩
    · have c := of_decide_eq_true c
      rw [hm, Int.toNat_natCast]
      refine ⟨by omega, fun x1 e1 => ⟨by omega, fun x2 e2 => ⟨by omega, fun x3 e3 => ⟨by omega, fun x4 e4 => ⟨by omega, fun x5 e5 => ⟨by omega, fun x6 e6 => ?_⟩⟩⟩⟩⟩⟩
      unfold cstep at next
      rw [if_pos c] at next
      rw [e2, e1, e4, e3, e5, show x6 = ((n + 1 : Nat) : Int) by omega]
      exact next
    · have c := of_decide_eq_false c
      rw [hm, Int.toNat_natCast]
      refine ⟨by omega, fun x1 e1 => ⟨by omega, fun x2 e2 => ⟨by omega, fun x3 e3 => ⟨by omega, fun x4 e4 => ⟨by omega, fun x5 e5 => ⟨by omega, fun x6 e6 => ?_⟩⟩⟩⟩⟩⟩
      unfold cstep at next
      rw [if_neg c] at next
      rw [e2, e1, e4, e3, e5, show x6 = ((n + 1 : Nat) : Int) by omega]
      exact next
  · have g := of_decide_eq_false g
    have : n = 26 := by omega
    subst this
    exact hxx _ _ hq
theorem quarter {x : Int} (h : 0 ≤ x) : x.tdiv 90000000 = x / 90000000 := tdiv_pos h
theorem sin_fin {a : Int} {R : Res → Prop} (hq : R ⟨.tup [.ce (.int .i64 (scS a)), .ce (.int .i64 (scC a))], false, [], []⟩) {x1 x2 x3 x4 x5 : Int} (e1 : x1 = a % 360000000) (e2 : x2 = x1 + 45000000) (e3 : x3 = x2.tdiv 90000000) (e4 : x4 = x3 * 90000000) (e5 : x5 = x1 - x4) :
    x1 = ang a ∧ x3 = akq a ∧ x5 = ars a ∧ (x5 ≠ 0 → R ⟨.tup [.ce (.int .i64 (trn x3.toNat ((cord (x5 * 1000) 26).x, (cord (x5 * 1000) 26).y)).2), .ce (.int .i64 (trn x3.toNat ((cord (x5 * 1000) 26).x, (cord (x5 * 1000) 26).y)).1)], false, [], []⟩) ∧
      (x5 = 0 → R ⟨.tup [.ce (.int .i64 (trn x3.toNat (1073741824, 0)).2), .ce (.int .i64 (trn x3.toNat (1073741824, 0)).1)], false, [], []⟩) := by
  have h1 : x1 = ang a := e1
  have b1 := ang_bd a
  have h3 : x3 = akq a := by rw [e3, quarter (by omega), e2, h1]; rfl
  have h5 : x5 = ars a := by rw [e5, e4, h3, h1]; rfl
  refine ⟨h1, h3, h5, fun g => ?_, fun g => ?_⟩
  · unfold scS scC cs0 at hq
    rw [← h5, if_pos g, ← h3] at hq; exact hq
  · unfold scS scC cs0 at hq
    rw [← h5, if_neg (by simpa using g), ← h3] at hq; exact hq
set_option maxHeartbeats 400000 in
set_option maxRecDepth 100000 in
theorem sSin : Sound Tryd.prog 70 SSin := by
  refine sound_of (C := CSin) tabSin Tryd.func70 (by kernel_rfl) (by decide +kernel) (by kernel_rfl) rfl ⟨sRem, sTrn, trivial⟩ (loopsG [nthLoop Tryd.f70 0] [nthFrag CSin Tryd.f70 0] (by kernel_rfl) (by kernel_rfl) ⟨loopOK_of (an := anSin) (S := LSin) (by kernel_rfl) loopSin, trivial⟩ ⟨fragOK_of (an := anSf) (S := LSf) (by kernel_rfl) fragSin, trivial⟩) ?_
  intro hargs pars R h
  unfold SSin at h
  split at h
  case h_2 => exfalso; exact h
  rename_i a
  obtain ⟨_, hq⟩ := h
  have ba := ang_bd a
  have bk := akq_bd a
  have br := ars_bd a
  refine byVC (vcSin a R) ⟨by omega, fun x1 e1 => ?_⟩
  have h1 : x1 = ang a := e1
  refine ⟨by omega, fun x2 e2 => ⟨by omega, ?_⟩⟩
  have h3 : x2.tdiv 90000000 = akq a := by rw [quarter (by omega), e2, h1]; rfl
  refine ⟨by omega, fun x3 e3 => ⟨by omega, fun x4 e4 => ⟨by omega, fun x5 e5 => ?_⟩⟩⟩
  obtain ⟨_, k3, k5, f1, f2⟩ := sin_fin hq e1 e2 e3 e4 e5
  refine ⟨fun g => ?_, fun g => ?_⟩
  · have g : x5 ≠ 0 := by simpa using g
    refine ⟨by omega, fun x6 e6 => ⟨⟨rfl, rfl, rfl, rfl, by omega⟩, ?_⟩⟩
    have b := cord_bd x6 26
    have c := cbd_le 26 (Nat.le_refl _)
    refine ⟨⟨by omega, by omega, by omega⟩, fun x7 e7 x8 e8 => ?_⟩
    have := f1 g
    rw [← e6] at this
    rw [e7, e8]; exact this
  · have g : x5 = 0 := by simpa using g
    refine ⟨⟨by omega, by omega, by omega⟩, fun x9 e9 x10 e10 => ?_⟩
    rw [e9, e10]; exact f2 g
set_option maxHeartbeats 400000 in
set_option maxRecDepth 100000 in
theorem sNr : Sound Tryd.prog 71 SNr := by
  refine sound_of (C := CNr) [] Tryd.func71 (by kernel_rfl) (by decide +kernel) (by kernel_rfl) rfl trivial (loops0 (by kernel_rfl)) ?_
  intro hargs pars R h
  unfold SNr at h
  split at h
  case h_2 => exfalso; exact h
  rename_i n
  obtain ⟨hn, hq⟩ := h
  refine byVC (vcNr n R) ⟨by omega, fun x1 e1 => ⟨by omega, fun x2 e2 => ?_⟩⟩
  rw [e2, e1]; exact hq
theorem rot_bad {x y a : Int} {R : Res → Prop} (hq : R ⟨.tup [.ce (.int .i64 (rtU x y a)), .ce (.int .i64 (rtW x y a)), .ce (.bool (rtB x y))], false, [], []⟩) (h : ¬ (-4194304 ≤ x ∧ x ≤ 4194304 ∧ -4194304 ≤ y ∧ y ≤ 4194304)) :
    R ⟨.tup [.ce (.int .i64 0), .ce (.int .i64 0), .ce (.bool false)], false, [], []⟩ := by
  have e : rtB x y = false := decide_eq_false h
  unfold rtU rtW at hq
  rw [e] at hq
  exact hq
theorem rot_ok {x y a x1 x2 x3 x4 x5 x6 x7 x8 x9 x10 : Int} {R : Res → Prop} (hq : R ⟨.tup [.ce (.int .i64 (rtU x y a)), .ce (.int .i64 (rtW x y a)), .ce (.bool (rtB x y))], false, [], []⟩) (h : -4194304 ≤ x ∧ x ≤ 4194304 ∧ -4194304 ≤ y ∧ y ≤ 4194304)
    (e1 : x1 = scS a) (e2 : x2 = scC a) (e3 : x3 = x * x2) (e4 : x4 = y * x1) (e5 : x5 = x3 - x4) (e6 : x6 = nr x5) (e7 : x7 = x * x1) (e8 : x8 = y * x2) (e9 : x9 = x7 + x8) (e10 : x10 = nr x9) :
    R ⟨.tup [.ce (.int .i64 x6), .ce (.int .i64 x10), .ce (.bool true)], false, [], []⟩ := by
  have e : rtB x y = true := decide_eq_true h
  unfold rtU rtW at hq
  rw [e, if_pos rfl, if_pos rfl] at hq
  rw [e10, e9, e8, e7, e6, e5, e4, e3, e2, e1]
  exact hq
set_option maxHeartbeats 400000 in
set_option maxRecDepth 100000 in
theorem sRot : Sound Tryd.prog 49 SRot := by
  refine sound_of (C := CRot) tabRot Tryd.func49 (by kernel_rfl) (by decide +kernel) (by kernel_rfl) rfl ⟨sSin, sNr, trivial⟩ (loops0 (by kernel_rfl)) ?_
  intro hargs pars R h
  unfold SRot at h
  split at h
  case h_2 => exfalso; exact h
  rename_i x y a
  obtain ⟨_, hq⟩ := h
  refine byVC (vcRot x y a R) ⟨fun g1 => rot_bad hq (by have := of_decide_eq_true g1; omega), fun g1 => ⟨fun g2 => rot_bad hq (by have := of_decide_eq_true g2; omega), fun g2 => ⟨fun g3 => rot_bad hq (by have := of_decide_eq_true g3; omega), fun g3 => ⟨fun g4 => rot_bad hq (by have := of_decide_eq_true g4; omega), fun g4 => ?_⟩⟩⟩⟩
  have g1 := of_decide_eq_false g1
  have g2 := of_decide_eq_false g2
  have g3 := of_decide_eq_false g3
  have g4 := of_decide_eq_false g4
  have b := sc_bd a
  refine ⟨trivial, fun x1 e1 x2 e2 => ?_⟩
  have m1 := mul_sc (x := x) (c := x2) (by omega) (by omega)
  have m2 := mul_sc (x := y) (c := x1) (by omega) (by omega)
  have m3 := mul_sc (x := x) (c := x1) (by omega) (by omega)
  have m4 := mul_sc (x := y) (c := x2) (by omega) (by omega)
  exact ⟨by omega, fun x3 e3 => ⟨by omega, fun x4 e4 => ⟨by omega, fun x5 e5 => ⟨by omega, fun x6 e6 => ⟨by omega, fun x7 e7 => ⟨by omega, fun x8 e8 => ⟨by omega, fun x9 e9 => ⟨by omega, fun x10 e10 => rot_ok hq (by omega) e1 e2 e3 e4 e5 e6 e7 e8 e9 e10⟩⟩⟩⟩⟩⟩⟩⟩
end Go.Proofs.YtgnknciihdajiaaDoor
namespace U
open Go Go.HL
def ins (n : Int) : Bool := decide (-1048576 ≤ n ∧ n ≤ 1048576)
def wn (x y z : Int) : Bool := ins x && (ins y && ins z)
def isPl (p : Int) : Bool := p == 17 || (p == 18 || p == 19)
def sel3 (p a b c : Int) : Int := if p = 17 then a else if p = 18 then b else if p = 19 then c else 0
def fU (p x y z : Int) : Int := sel3 p x z y
def fW (p x y z : Int) : Int := sel3 p y x z
def fH (p x y z : Int) : Int := sel3 p z y x
def sX (p u w h : Int) : Int := sel3 p u w h
def sY (p u w h : Int) : Int := sel3 p w h u
def sZ (p u w h : Int) : Int := sel3 p h u w
def pk6 (s a b c d e f : Int) : Int := if s = 54 then a else if s = 55 then b else if s = 56 then c else if s = 57 then d else if s = 58 then e else f
def B3 (B x y z : Int) : Prop := (-B ≤ x ∧ x ≤ B) ∧ (-B ≤ y ∧ y ≤ B) ∧ (-B ≤ z ∧ z ≤ B)
end U
namespace Go.Proofs.YtgnknciihdajiaaDoor
open Go Go.HL U
def SIns (hargs : List HV) (pars : List (List HC)) : SR :=
  match hargs, pars with
  | [.ce (.int .i64 n)], [] => .det True ⟨.ce (.bool (ins n)), false, [], []⟩
  | _, _ => .fail
noncomputable def CIns : Ctx := ⟨Tryd.prog, gam [], Tryd.f67.ntmps, [], []⟩
theorem vcIns (n : Int) (Q : Res → Prop) : (nfun true CIns Tryd.f67 (bodyOf Tryd.f67) [.ce (.int .i64 n)] [] Q) =
    ((decide (n ≥ (-1048576 : Int)) = true → Q ⟨.ce (.bool (decide (n ≤ 1048576))), false, [], []⟩) ∧ (decide (n ≥ (-1048576 : Int)) = false → Q ⟨.ce (.bool false), false, [], []⟩)) := by kernel_rfl
def SWn (hargs : List HV) (pars : List (List HC)) : SR :=
  match hargs, pars with
  | [.agg [.int .i64 x, .int .i64 y, .int .i64 z]], [] => .det True ⟨.ce (.bool (wn x y z)), false, [], []⟩
  | _, _ => .fail
def tabWn : List (FuncId × HL.Spec) := [(67, SIns)]
noncomputable def CWn : Ctx := ⟨Tryd.prog, gam tabWn, Tryd.f44.ntmps, [], []⟩
theorem vcWn (x y z : Int) (Q : Res → Prop) : (nfun true CWn Tryd.f44 (bodyOf Tryd.f44) [.agg [.int .i64 x, .int .i64 y, .int .i64 z]] [] Q) =
    (True ∧ ∀ (x1 : Bool), x1 = ins x → (x1 = true → True ∧ ∀ (x2 : Bool), x2 = ins y → (x2 = true → True ∧ ∀ (x3 : Bool), x3 = ins z → Q ⟨.ce (.bool x3), false, [], []⟩) ∧ (x2 = false → Q ⟨.ce (.bool false), false, [], []⟩)) ∧ (x1 = false → Q ⟨.ce (.bool false), false, [], []⟩)) := by kernel_rfl
def SAd (hargs : List HV) (pars : List (List HC)) : SR :=
  match hargs, pars with
  | [.agg [.int .i64 x, .int .i64 y, .int .i64 z], .agg [.int .i64 a, .int .i64 b, .int .i64 c]], [] => .det (B3 1152921504606846976 x y z ∧ B3 1152921504606846976 a b c) ⟨.agg [.int .i64 (x + a), .int .i64 (y + b), .int .i64 (z + c)], false, [], []⟩
  | _, _ => .fail
def SSb (hargs : List HV) (pars : List (List HC)) : SR :=
  match hargs, pars with
  | [.agg [.int .i64 x, .int .i64 y, .int .i64 z], .agg [.int .i64 a, .int .i64 b, .int .i64 c]], [] => .det (B3 1152921504606846976 x y z ∧ B3 1152921504606846976 a b c) ⟨.agg [.int .i64 (x - a), .int .i64 (y - b), .int .i64 (z - c)], false, [], []⟩
  | _, _ => .fail
noncomputable def CAd : Ctx := ⟨Tryd.prog, gam [], Tryd.f55.ntmps, [], []⟩
theorem vcAd (x y z a b c : Int) (Q : Res → Prop) : (nfun true CAd Tryd.f55 (bodyOf Tryd.f55) [.agg [.int .i64 x, .int .i64 y, .int .i64 z], .agg [.int .i64 a, .int .i64 b, .int .i64 c]] [] Q) =
    ((-9223372036854775808 ≤ x + a ∧ x + a ≤ 9223372036854775807) ∧ ∀ (x1 : Int), x1 = x + a → (-9223372036854775808 ≤ y + b ∧ y + b ≤ 9223372036854775807) ∧ ∀ (x2 : Int), x2 = y + b → (-9223372036854775808 ≤ z + c ∧ z + c ≤ 9223372036854775807) ∧ ∀ (x3 : Int), x3 = z + c → Q ⟨.agg [.int .i64 x1, .int .i64 x2, .int .i64 x3], false, [], []⟩) := by kernel_rfl
theorem vcAd2 (x y z a b c : Int) (Q : Res → Prop) : (nfun true CAd Tryd.f25 (bodyOf Tryd.f25) [.agg [.int .i64 x, .int .i64 y, .int .i64 z], .agg [.int .i64 a, .int .i64 b, .int .i64 c]] [] Q) =
    ((-9223372036854775808 ≤ x + a ∧ x + a ≤ 9223372036854775807) ∧ ∀ (x1 : Int), x1 = x + a → (-9223372036854775808 ≤ y + b ∧ y + b ≤ 9223372036854775807) ∧ ∀ (x2 : Int), x2 = y + b → (-9223372036854775808 ≤ z + c ∧ z + c ≤ 9223372036854775807) ∧ ∀ (x3 : Int), x3 = z + c → Q ⟨.agg [.int .i64 x1, .int .i64 x2, .int .i64 x3], false, [], []⟩) := by kernel_rfl
theorem vcSb (x y z a b c : Int) (Q : Res → Prop) : (nfun true CAd Tryd.f65 (bodyOf Tryd.f65) [.agg [.int .i64 x, .int .i64 y, .int .i64 z], .agg [.int .i64 a, .int .i64 b, .int .i64 c]] [] Q) =
    ((-9223372036854775808 ≤ x - a ∧ x - a ≤ 9223372036854775807) ∧ ∀ (x1 : Int), x1 = x - a → (-9223372036854775808 ≤ y - b ∧ y - b ≤ 9223372036854775807) ∧ ∀ (x2 : Int), x2 = y - b → (-9223372036854775808 ≤ z - c ∧ z - c ≤ 9223372036854775807) ∧ ∀ (x3 : Int), x3 = z - c → Q ⟨.agg [.int .i64 x1, .int .i64 x2, .int .i64 x3], false, [], []⟩) := by kernel_rfl
theorem vcSb2 (x y z a b c : Int) (Q : Res → Prop) : (nfun true CAd Tryd.f23 (bodyOf Tryd.f23) [.agg [.int .i64 x, .int .i64 y, .int .i64 z], .agg [.int .i64 a, .int .i64 b, .int .i64 c]] [] Q) =
    ((-9223372036854775808 ≤ x - a ∧ x - a ≤ 9223372036854775807) ∧ ∀ (x1 : Int), x1 = x - a → (-9223372036854775808 ≤ y - b ∧ y - b ≤ 9223372036854775807) ∧ ∀ (x2 : Int), x2 = y - b → (-9223372036854775808 ≤ z - c ∧ z - c ≤ 9223372036854775807) ∧ ∀ (x3 : Int), x3 = z - c → Q ⟨.agg [.int .i64 x1, .int .i64 x2, .int .i64 x3], false, [], []⟩) := by kernel_rfl
def SFl (hargs : List HV) (pars : List (List HC)) : SR :=
  match hargs, pars with
  | [.ce (.int .i64 p), .agg [.int .i64 x, .int .i64 y, .int .i64 z]], [] => .det True ⟨.tup [.agg [.int .i64 (fU p x y z), .int .i64 (fW p x y z)], .ce (.int .i64 (fH p x y z)), .ce (.bool (isPl p))], false, [], []⟩
  | _, _ => .fail
noncomputable def CFl : Ctx := ⟨Tryd.prog, gam [], Tryd.f102.ntmps, [], []⟩
theorem vcFl (p x y z : Int) (Q : Res → Prop) : (nfun true CFl Tryd.f102 (bodyOf Tryd.f102) [.ce (.int .i64 p), .agg [.int .i64 x, .int .i64 y, .int .i64 z]] [] Q) =
    (((p == 17) = true → Q ⟨.tup [.agg [.int .i64 x, .int .i64 y], .ce (.int .i64 z), .ce (.bool true)], false, [], []⟩) ∧ ((p == 17) = false → ((p == 18) = true → Q ⟨.tup [.agg [.int .i64 z, .int .i64 x], .ce (.int .i64 y), .ce (.bool true)], false, [], []⟩) ∧ ((p == 18) = false → ((p == 19) = true → Q ⟨.tup [.agg [.int .i64 y, .int .i64 z], .ce (.int .i64 x), .ce (.bool true)], false, [], []⟩) ∧ ((p == 19) = false → Q ⟨.tup [.agg [.int .i64 0, .int .i64 0], .ce (.int .i64 0), .ce (.bool false)], false, [], []⟩)))) := by kernel_rfl
def SSo (hargs : List HV) (pars : List (List HC)) : SR :=
  match hargs, pars with
  | [.ce (.int .i64 p), .agg [.int .i64 u, .int .i64 w], .ce (.int .i64 h)], [] => .det True ⟨.tup [.agg [.int .i64 (sX p u w h), .int .i64 (sY p u w h), .int .i64 (sZ p u w h)], .ce (.bool (isPl p))], false, [], []⟩
  | _, _ => .fail
noncomputable def CSo : Ctx := ⟨Tryd.prog, gam [], Tryd.f103.ntmps, [], []⟩
theorem vcSo (p u w h : Int) (Q : Res → Prop) : (nfun true CSo Tryd.f103 (bodyOf Tryd.f103) [.ce (.int .i64 p), .agg [.int .i64 u, .int .i64 w], .ce (.int .i64 h)] [] Q) =
    (((p == 17) = true → Q ⟨.tup [.agg [.int .i64 u, .int .i64 w, .int .i64 h], .ce (.bool true)], false, [], []⟩) ∧ ((p == 17) = false → ((p == 18) = true → Q ⟨.tup [.agg [.int .i64 w, .int .i64 h, .int .i64 u], .ce (.bool true)], false, [], []⟩) ∧ ((p == 18) = false → ((p == 19) = true → Q ⟨.tup [.agg [.int .i64 h, .int .i64 u, .int .i64 w], .ce (.bool true)], false, [], []⟩) ∧ ((p == 19) = false → Q ⟨.tup [.agg [.int .i64 0, .int .i64 0, .int .i64 0], .ce (.bool false)], false, [], []⟩)))) := by kernel_rfl
def SPl (hargs : List HV) (pars : List (List HC)) : SR :=
  match hargs, pars with
  | [.ce (.int .i64 p)], [] => .det True ⟨.ce (.bool (isPl p)), false, [], []⟩
  | _, _ => .fail
noncomputable def CPl : Ctx := ⟨Tryd.prog, gam [], Tryd.f47.ntmps, [], []⟩
theorem vcPl (p : Int) (Q : Res → Prop) : (nfun true CPl Tryd.f47 (bodyOf Tryd.f47) [.ce (.int .i64 p)] [] Q) =
    (((p == 17) = true → Q ⟨.ce (.bool true), false, [], []⟩) ∧ ((p == 17) = false → ((p == 18) = true → Q ⟨.ce (.bool true), false, [], []⟩) ∧ ((p == 18) = false → Q ⟨.ce (.bool (p == 19)), false, [], []⟩))) := by kernel_rfl
def SOrg (hargs : List HV) (pars : List (List HC)) : SR :=
  match hargs, pars with
  | [.agg cs], [] => match cs with
    | [.int .i64 s0, .int .i64 s1, .int .i64 s2, .int .i64 s3, .int .i64 s4, .int .i64 s5, .int .i64 s6, .int .i64 s7, .int .i64 s8, .int .i64 s9, .int .i64 s10, .int .i64 s11, .int .i64 s12, .int .i64 s13, .int .i64 s14, .int .i64 s15, .int .i64 s16, .int .i64 s17, .int .i64 sy, .int .i64 l0, .int .i64 l1, .int .i64 l2, .int .i64 h0, .int .i64 h1, .int .i64 h2, .int .i64 ln, .bool tu, .int .i64 pl, .int .i64 c0, .int .i64 c1, .int .i64 c2, .int .i64 an] => .det ((54 ≤ sy ∧ sy ≤ 59) ∧ (B3 1073741824 s0 s1 s2 ∧ B3 1073741824 s3 s4 s5 ∧ B3 1073741824 s6 s7 s8 ∧ B3 1073741824 s9 s10 s11 ∧ B3 1073741824 s12 s13 s14 ∧ B3 1073741824 s15 s16 s17) ∧ B3 1073741824 l0 l1 l2 ∧ B3 1073741824 h0 h1 h2 ∧ (-1073741824 ≤ ln ∧ ln ≤ 1073741824))
        ⟨.agg [.int .i64 (pk6 sy s0 s3 s6 s9 s12 s15 + l0 + h0), .int .i64 (pk6 sy s1 s4 s7 s10 s13 s16 + l1 + h1), .int .i64 (pk6 sy s2 s5 s8 s11 s14 s17 + l2 + h2 + ln)], false, [], []⟩
    | _ => .fail
  | _, _ => .fail
def tabOrg : List (FuncId × HL.Spec) := [(55, SAd)]
noncomputable def COrg : Ctx := ⟨Tryd.prog, gam tabOrg, Tryd.f22.ntmps, [], []⟩
theorem vcOrg (s0 s1 s2 s3 s4 s5 s6 s7 s8 s9 s10 s11 s12 s13 s14 s15 s16 s17 sy l0 l1 l2 h0 h1 h2 ln pl c0 c1 c2 an : Int) (tu : Bool) (Q : Res → Prop) : (nfun true COrg Tryd.f22 (bodyOf Tryd.f22) [.agg [.int .i64 s0, .int .i64 s1, .int .i64 s2, .int .i64 s3, .int .i64 s4, .int .i64 s5, .int .i64 s6, .int .i64 s7, .int .i64 s8, .int .i64 s9, .int .i64 s10, .int .i64 s11, .int .i64 s12, .int .i64 s13, .int .i64 s14, .int .i64 s15, .int .i64 s16, .int .i64 s17, .int .i64 sy, .int .i64 l0, .int .i64 l1, .int .i64 l2, .int .i64 h0, .int .i64 h1, .int .i64 h2, .int .i64 ln, .bool tu, .int .i64 pl, .int .i64 c0, .int .i64 c1, .int .i64 c2, .int .i64 an]] [] Q) =
    ((B3 (1152921504606846976 : Int) l0 l1 l2 ∧ B3 (1152921504606846976 : Int) h0 h1 h2) ∧ ∀ (x1 : Int), x1 = l0 + h0 → ∀ (x2 : Int), x2 = l1 + h1 → ∀ (x3 : Int), x3 = l2 + h2 → (-9223372036854775808 ≤ x3 + ln ∧ x3 + ln ≤ 9223372036854775807) ∧ ∀ (x4 : Int), x4 = x3 + ln → (-9223372036854775808 ≤ sy - 54 ∧ sy - 54 ≤ 9223372036854775807) ∧ ∀ (x5 : Int), x5 = sy - 54 → (decide (x5 ≥ 0) = true → (decide (x5 < 6) = true → (0 ≤ x5 ∧ x5 < 6) ∧ (x5 = 0 → (B3 (1152921504606846976 : Int) x1 x2 x4 ∧ B3 (1152921504606846976 : Int) s0 s1 s2) ∧ ∀ (x6 : Int), x6 = x1 + s0 → ∀ (x7 : Int), x7 = x2 + s1 → ∀ (x8 : Int), x8 = x4 + s2 → Q ⟨.agg [.int .i64 x6, .int .i64 x7, .int .i64 x8], false, [], []⟩) ∧ (x5 = 1 → (B3 (1152921504606846976 : Int) x1 x2 x4 ∧ B3 (1152921504606846976 : Int) s3 s4 s5) ∧ ∀ (x9 : Int), x9 = x1 + s3 → ∀ (x10 : Int), x10 = x2 + s4 → ∀ (x11 : Int), x11 = x4 + s5 → Q ⟨.agg [.int .i64 x9, .int .i64 x10, .int .i64 x11], false, [], []⟩) ∧
    (x5 = 2 → (B3 (1152921504606846976 : Int) x1 x2 x4 ∧ B3 (1152921504606846976 : Int) s6 s7 s8) ∧ ∀ (x12 : Int), x12 = x1 + s6 → ∀ (x13 : Int), x13 = x2 + s7 → ∀ (x14 : Int), x14 = x4 + s8 → Q ⟨.agg [.int .i64 x12, .int .i64 x13, .int .i64 x14], false, [], []⟩) ∧ (x5 = 3 → (B3 (1152921504606846976 : Int) x1 x2 x4 ∧ B3 (1152921504606846976 : Int) s9 s10 s11) ∧ ∀ (x15 : Int), x15 = x1 + s9 → ∀ (x16 : Int), x16 = x2 + s10 → ∀ (x17 : Int), x17 = x4 + s11 → Q ⟨.agg [.int .i64 x15, .int .i64 x16, .int .i64 x17], false, [], []⟩) ∧ (x5 = 4 → (B3 (1152921504606846976 : Int) x1 x2 x4 ∧ B3 (1152921504606846976 : Int) s12 s13 s14) ∧ ∀ (x18 : Int), x18 = x1 + s12 → ∀ (x19 : Int), x19 = x2 + s13 → ∀ (x20 : Int), x20 = x4 + s14 → Q ⟨.agg [.int .i64 x18, .int .i64 x19, .int .i64 x20], false, [], []⟩) ∧ (x5 = 5 → (B3 (1152921504606846976 : Int) x1 x2 x4 ∧ B3 (1152921504606846976 : Int) s15 s16 s17) ∧ ∀ (x21 : Int), x21 = x1 + s15 →
    ∀ (x22 : Int), x22 = x2 + s16 → ∀ (x23 : Int), x23 = x4 + s17 → Q ⟨.agg [.int .i64 x21, .int .i64 x22, .int .i64 x23], false, [], []⟩)) ∧ (decide (x5 < 6) = false → Q ⟨.agg [.int .i64 x1, .int .i64 x2, .int .i64 x4], false, [], []⟩)) ∧ (decide (x5 ≥ 0) = false → Q ⟨.agg [.int .i64 x1, .int .i64 x2, .int .i64 x4], false, [], []⟩)) := by kernel_rfl
end Go.Proofs.YtgnknciihdajiaaDoor
namespace U
theorem sel3_no {p a b c : Int} (h1 : (p == 17) = false) (h2 : (p == 18) = false) (h3 : (p == 19) = false) : sel3 p a b c = 0 := by
  unfold sel3
  rw [if_neg (by simpa using h1), if_neg (by simpa using h2), if_neg (by simpa using h3)]
theorem ins_iff {n : Int} : ins n = true ↔ -1048576 ≤ n ∧ n ≤ 1048576 := by unfold ins; rw [decide_eq_true_eq]
theorem wn_iff {x y z : Int} : wn x y z = true ↔ B3 1048576 x y z := by
  unfold wn B3
  rw [Bool.and_eq_true, Bool.and_eq_true, ins_iff, ins_iff, ins_iff]
theorem eqp {p k : Int} (h : (p == k) = true) : p = k := by simpa using h
theorem nep {p k : Int} (h : (p == k) = false) : p ≠ k := by simpa using h
end U
namespace Go.Proofs.YtgnknciihdajiaaDoor
open Go Go.HL U
attribute [local irreducible] hfun bodyT fragT
set_option maxHeartbeats 400000 in
set_option maxRecDepth 100000 in
theorem sIns : Sound Tryd.prog 67 SIns := by
  refine sound_of (C := CIns) [] Tryd.func67 (by kernel_rfl) (by decide +kernel) (by kernel_rfl) rfl trivial (loops0 (by kernel_rfl)) ?_
  intro hargs pars R h
  unfold SIns at h
  split at h
  case h_2 => exfalso; exact h
  rename_i n
  obtain ⟨_, hq⟩ := h
  refine byVC (vcIns n R) ⟨fun g => ?_, fun g => ?_⟩
  · have g := of_decide_eq_true g
    have e : ins n = decide (n ≤ 1048576) := by unfold ins; exact decide_eq_decide.2 (by omega)
    rw [e] at hq; exact hq
  · have g := of_decide_eq_false g
    have e : ins n = false := decide_eq_false (by omega)
    rw [e] at hq; exact hq
theorem wn_fin {x y z : Int} {R : Res → Prop} (hq : R ⟨.ce (.bool (wn x y z)), false, [], []⟩) {x1 : Bool} (e1 : x1 = ins x) :
    (x1 = true → ∀ x2, x2 = ins y → (x2 = true → ∀ x3, x3 = ins z → R ⟨.ce (.bool x3), false, [], []⟩) ∧ (x2 = false → R ⟨.ce (.bool false), false, [], []⟩)) ∧ (x1 = false → R ⟨.ce (.bool false), false, [], []⟩) := by
  unfold wn at hq
  rw [← e1] at hq
  refine ⟨fun g x2 e2 => ?_, fun g => ?_⟩
  · rw [g, Bool.true_and, ← e2] at hq
    refine ⟨fun g x3 e3 => ?_, fun g => ?_⟩
    · rw [g, Bool.true_and, ← e3] at hq; exact hq
    · rw [g, Bool.false_and] at hq; exact hq
  · rw [g, Bool.false_and] at hq; exact hq
set_option maxHeartbeats 400000 in
set_option maxRecDepth 100000 in
theorem sWn : Sound Tryd.prog 44 SWn := by
  refine sound_of (C := CWn) tabWn Tryd.func44 (by kernel_rfl) (by decide +kernel) (by kernel_rfl) rfl ⟨sIns, trivial⟩ (loops0 (by kernel_rfl)) ?_
  intro hargs pars R h
  unfold SWn at h
  split at h
  case h_2 => exfalso; exact h
  rename_i x y z
  obtain ⟨_, hq⟩ := h
  refine byVC (vcWn x y z R) ⟨trivial, fun x1 e1 => ⟨fun g => ⟨trivial, fun x2 e2 => ⟨fun g2 => ⟨trivial, fun x3 e3 => ?_⟩, fun g2 => ?_⟩⟩, fun g => ?_⟩⟩
  · exact ((wn_fin hq e1).1 g x2 e2).1 g2 x3 e3
  · exact ((wn_fin hq e1).1 g x2 e2).2 g2
  · exact (wn_fin hq e1).2 g
set_option maxHeartbeats 400000 in
set_option maxRecDepth 100000 in
theorem sAd : Sound Tryd.prog 55 SAd := by
  refine sound_of (C := CAd) [] Tryd.func55 (by kernel_rfl) (by decide +kernel) (by kernel_rfl) rfl trivial (loops0 (by kernel_rfl)) ?_
  intro hargs pars R h
  unfold SAd at h
  split at h
  case h_2 => exfalso; exact h
  rename_i x y z a b c
  obtain ⟨⟨⟨h1, h2, h3⟩, h4, h5, h6⟩, hq⟩ := h
  refine byVC (vcAd x y z a b c R) ⟨by omega, fun x1 e1 => ⟨by omega, fun x2 e2 => ⟨by omega, fun x3 e3 => ?_⟩⟩⟩
  rw [e1, e2, e3]; exact hq
set_option maxHeartbeats 400000 in
set_option maxRecDepth 100000 in
theorem sAd2 : Sound Tryd.prog 25 SAd := by
  refine sound_of (C := CAd) [] Tryd.func25 (by kernel_rfl) (by decide +kernel) (by kernel_rfl) rfl trivial (loops0 (by kernel_rfl)) ?_
  intro hargs pars R h
  unfold SAd at h
  split at h
  case h_2 => exfalso; exact h
  rename_i x y z a b c
  obtain ⟨⟨⟨h1, h2, h3⟩, h4, h5, h6⟩, hq⟩ := h
  refine byVC (vcAd2 x y z a b c R) ⟨by omega, fun x1 e1 => ⟨by omega, fun x2 e2 => ⟨by omega, fun x3 e3 => ?_⟩⟩⟩
  rw [e1, e2, e3]; exact hq
set_option maxHeartbeats 400000 in
set_option maxRecDepth 100000 in
theorem sSb : Sound Tryd.prog 65 SSb := by
  refine sound_of (C := CAd) [] Tryd.func65 (by kernel_rfl) (by decide +kernel) (by kernel_rfl) rfl trivial (loops0 (by kernel_rfl)) ?_
  intro hargs pars R h
  unfold SSb at h
  split at h
  case h_2 => exfalso; exact h
  rename_i x y z a b c
  obtain ⟨⟨⟨h1, h2, h3⟩, h4, h5, h6⟩, hq⟩ := h
  refine byVC (vcSb x y z a b c R) ⟨by omega, fun x1 e1 => ⟨by omega, fun x2 e2 => ⟨by omega, fun x3 e3 => ?_⟩⟩⟩
  rw [e1, e2, e3]; exact hq
set_option maxHeartbeats 400000 in
set_option maxRecDepth 100000 in
theorem sSb2 : Sound Tryd.prog 23 SSb := by
  refine sound_of (C := CAd) [] Tryd.func23 (by kernel_rfl) (by decide +kernel) (by kernel_rfl) rfl trivial (loops0 (by kernel_rfl)) ?_
  intro hargs pars R h
  unfold SSb at h
  split at h
  case h_2 => exfalso; exact h
  rename_i x y z a b c
  obtain ⟨⟨⟨h1, h2, h3⟩, h4, h5, h6⟩, hq⟩ := h
  refine byVC (vcSb2 x y z a b c R) ⟨by omega, fun x1 e1 => ⟨by omega, fun x2 e2 => ⟨by omega, fun x3 e3 => ?_⟩⟩⟩
  rw [e1, e2, e3]; exact hq
theorem isPl_no {p : Int} (h1 : (p == 17) = false) (h2 : (p == 18) = false) (h3 : (p == 19) = false) : isPl p = false := by unfold isPl; rw [h1, h2, h3]; rfl
theorem fl_fin {p x y z : Int} {R : Res → Prop} (hq : R ⟨.tup [.agg [.int .i64 (fU p x y z), .int .i64 (fW p x y z)], .ce (.int .i64 (fH p x y z)), .ce (.bool (isPl p))], false, [], []⟩) :
    ((p == 17) = true → R ⟨.tup [.agg [.int .i64 x, .int .i64 y], .ce (.int .i64 z), .ce (.bool true)], false, [], []⟩) ∧ ((p == 17) = false →
    ((p == 18) = true → R ⟨.tup [.agg [.int .i64 z, .int .i64 x], .ce (.int .i64 y), .ce (.bool true)], false, [], []⟩) ∧ ((p == 18) = false →
    ((p == 19) = true → R ⟨.tup [.agg [.int .i64 y, .int .i64 z], .ce (.int .i64 x), .ce (.bool true)], false, [], []⟩) ∧ ((p == 19) = false →
    R ⟨.tup [.agg [.int .i64 0, .int .i64 0], .ce (.int .i64 0), .ce (.bool false)], false, [], []⟩))) := by
  refine ⟨fun g => ?_, fun g1 => ⟨fun g => ?_, fun g2 => ⟨fun g => ?_, fun g3 => ?_⟩⟩⟩
  · rw [eqp g] at hq; exact hq
  · rw [eqp g] at hq; exact hq
  · rw [eqp g] at hq; exact hq
  · unfold fU fW fH at hq
    rw [sel3_no g1 g2 g3, sel3_no g1 g2 g3, sel3_no g1 g2 g3, isPl_no g1 g2 g3] at hq; exact hq
set_option maxHeartbeats 400000 in
set_option maxRecDepth 100000 in
theorem sFl : Sound Tryd.prog 102 SFl := by
  refine sound_of (C := CFl) [] Tryd.func102 (by kernel_rfl) (by decide +kernel) (by kernel_rfl) rfl trivial (loops0 (by kernel_rfl)) ?_
  intro hargs pars R h
  unfold SFl at h
  split at h
  case h_2 => exfalso; exact h
  rename_i p x y z
  exact byVC (vcFl p x y z R) (fl_fin h.2)
theorem so_fin {p u w h : Int} {R : Res → Prop} (hq : R ⟨.tup [.agg [.int .i64 (sX p u w h), .int .i64 (sY p u w h), .int .i64 (sZ p u w h)], .ce (.bool (isPl p))], false, [], []⟩) :
    ((p == 17) = true → R ⟨.tup [.agg [.int .i64 u, .int .i64 w, .int .i64 h], .ce (.bool true)], false, [], []⟩) ∧ ((p == 17) = false →
    ((p == 18) = true → R ⟨.tup [.agg [.int .i64 w, .int .i64 h, .int .i64 u], .ce (.bool true)], false, [], []⟩) ∧ ((p == 18) = false →
    ((p == 19) = true → R ⟨.tup [.agg [.int .i64 h, .int .i64 u, .int .i64 w], .ce (.bool true)], false, [], []⟩) ∧ ((p == 19) = false →
    R ⟨.tup [.agg [.int .i64 0, .int .i64 0, .int .i64 0], .ce (.bool false)], false, [], []⟩))) := by
  refine ⟨fun g => ?_, fun g1 => ⟨fun g => ?_, fun g2 => ⟨fun g => ?_, fun g3 => ?_⟩⟩⟩
  · rw [eqp g] at hq; exact hq
  · rw [eqp g] at hq; exact hq
  · rw [eqp g] at hq; exact hq
  · unfold sX sY sZ at hq
    rw [sel3_no g1 g2 g3, sel3_no g1 g2 g3, sel3_no g1 g2 g3, isPl_no g1 g2 g3] at hq; exact hq
set_option maxHeartbeats 400000 in
set_option maxRecDepth 100000 in
theorem sSo : Sound Tryd.prog 103 SSo := by
  refine sound_of (C := CSo) [] Tryd.func103 (by kernel_rfl) (by decide +kernel) (by kernel_rfl) rfl trivial (loops0 (by kernel_rfl)) ?_
  intro hargs pars R h
  unfold SSo at h
  split at h
  case h_2 => exfalso; exact h
  rename_i p u w h'
  exact byVC (vcSo p u w h' R) (so_fin h.2)
theorem pl_fin {p : Int} {R : Res → Prop} (hq : R ⟨.ce (.bool (isPl p)), false, [], []⟩) :
    ((p == 17) = true → R ⟨.ce (.bool true), false, [], []⟩) ∧ ((p == 17) = false → ((p == 18) = true → R ⟨.ce (.bool true), false, [], []⟩) ∧ ((p == 18) = false → R ⟨.ce (.bool (p == 19)), false, [], []⟩)) := by
  unfold isPl at hq
  refine ⟨fun g => ?_, fun g1 => ⟨fun g => ?_, fun g2 => ?_⟩⟩
  · rw [g, Bool.true_or] at hq; exact hq
  · rw [g1, g, Bool.false_or, Bool.true_or] at hq; exact hq
  · rw [g1, g2, Bool.false_or, Bool.false_or] at hq; exact hq
set_option maxHeartbeats 400000 in
set_option maxRecDepth 100000 in
theorem sPl : Sound Tryd.prog 47 SPl := by
  refine sound_of (C := CPl) [] Tryd.func47 (by kernel_rfl) (by decide +kernel) (by kernel_rfl) rfl trivial (loops0 (by kernel_rfl)) ?_
  intro hargs pars R h
  unfold SPl at h
  split at h
  case h_2 => exfalso; exact h
  rename_i p
  exact byVC (vcPl p R) (pl_fin h.2)
set_option maxHeartbeats 400000 in
set_option maxRecDepth 100000 in
theorem sOrg : Sound Tryd.prog 22 SOrg := by
  refine sound_of (C := COrg) tabOrg Tryd.func22 (by kernel_rfl) (by decide +kernel) (by kernel_rfl) rfl ⟨sAd, trivial⟩ (loops0 (by kernel_rfl)) ?_
  intro hargs pars R h
  unfold SOrg at h
  split at h
  case h_2 => exfalso; exact h
  rename_i cs
  split at h
  case h_2 => exact h.elim
  rename_i s0 s1 s2 s3 s4 s5 s6 s7 s8 s9 s10 s11 s12 s13 s14 s15 s16 s17 sy l0 l1 l2 h0 h1 h2 ln tu pl c0 c1 c2 an
  obtain ⟨⟨hs, ⟨⟨a0, a1, a2⟩, ⟨a3, a4, a5⟩, ⟨a6, a7, a8⟩, ⟨a9, a10, a11⟩, ⟨a12, a13, a14⟩, ⟨a15, a16, a17⟩⟩, ⟨b0, b1, b2⟩, ⟨d0, d1, d2⟩, hln⟩, hq⟩ := h
  have fin : ∀ {x y z : Int}, x = pk6 sy s0 s3 s6 s9 s12 s15 + l0 + h0 → y = pk6 sy s1 s4 s7 s10 s13 s16 + l1 + h1 → z = pk6 sy s2 s5 s8 s11 s14 s17 + l2 + h2 + ln → R ⟨.agg [.int .i64 x, .int .i64 y, .int .i64 z], false, [], []⟩ := fun ex ey ez => by rw [ex, ey, ez]; exact hq
  unfold pk6 at fin
  refine byVC (vcOrg s0 s1 s2 s3 s4 s5 s6 s7 s8 s9 s10 s11 s12 s13 s14 s15 s16 s17 sy l0 l1 l2 h0 h1 h2 ln pl c0 c1 c2 an tu R) ⟨by unfold B3; omega, fun x1 e1 x2 e2 x3 e3 => ⟨by omega, fun x4 e4 => ⟨by omega, fun x5 e5 => ⟨fun _ => ⟨fun _ => ⟨by omega, fun g => ?_, fun g => ?_, fun g => ?_, fun g => ?_, fun g => ?_, fun g => ?_⟩, fun g => ?_⟩, fun g => ?_⟩⟩⟩⟩
  · exact ⟨by unfold B3; omega, fun x6 e6 x7 e7 x8 e8 => fin (by omega) (by omega) (by omega)⟩
  · exact ⟨by unfold B3; omega, fun x6 e6 x7 e7 x8 e8 => fin (by omega) (by omega) (by omega)⟩
  · exact ⟨by unfold B3; omega, fun x6 e6 x7 e7 x8 e8 => fin (by omega) (by omega) (by omega)⟩
  · exact ⟨by unfold B3; omega, fun x6 e6 x7 e7 x8 e8 => fin (by omega) (by omega) (by omega)⟩
  · exact ⟨by unfold B3; omega, fun x6 e6 x7 e7 x8 e8 => fin (by omega) (by omega) (by omega)⟩
  · exact ⟨by unfold B3; omega, fun x6 e6 x7 e7 x8 e8 => fin (by omega) (by omega) (by omega)⟩
  · have := of_decide_eq_false g; omega
  · have := of_decide_eq_false g; omega
end Go.Proofs.YtgnknciihdajiaaDoor
namespace U
open Go Go.HL
def tA (p c0 c1 c2 x y z a : Int) : Int := rtU (fU p x y z - fU p c0 c1 c2) (fW p x y z - fW p c0 c1 c2) a + fU p c0 c1 c2
def tB (p c0 c1 c2 x y z a : Int) : Int := rtW (fU p x y z - fU p c0 c1 c2) (fW p x y z - fW p c0 c1 c2) a + fW p c0 c1 c2
def tOk (p c0 c1 c2 x y z : Int) : Bool := rtB (fU p x y z - fU p c0 c1 c2) (fW p x y z - fW p c0 c1 c2)
def tX (p c0 c1 c2 x y z a : Int) : Int := sX p (tA p c0 c1 c2 x y z a) (tB p c0 c1 c2 x y z a) (fH p x y z)
def tY (p c0 c1 c2 x y z a : Int) : Int := sY p (tA p c0 c1 c2 x y z a) (tB p c0 c1 c2 x y z a) (fH p x y z)
def tZ (p c0 c1 c2 x y z a : Int) : Int := sZ p (tA p c0 c1 c2 x y z a) (tB p c0 c1 c2 x y z a) (fH p x y z)
structure RotS where
  x : Int
  y : Int
  z : Int
  ok : Bool
def rotF (tu : Bool) (p c0 c1 c2 x y z a : Int) : RotS :=
  if tu then ⟨tX p c0 c1 c2 x y z a, tY p c0 c1 c2 x y z a, tZ p c0 c1 c2 x y z a, tOk p c0 c1 c2 x y z⟩ else ⟨x, y, z, true⟩
structure MapS where
  x : Int
  y : Int
  z : Int
  e : Int
def mapW (x y z : Int) (ok : Bool) : MapS := if ok && wn x y z then ⟨x, y, z, 0⟩ else ⟨0, 0, 0, 3⟩
def toF (tu : Bool) (p c0 c1 c2 a o0 o1 o2 x y z : Int) : MapS :=
  if wn x y z then mapW ((rotF tu p c0 c1 c2 x y z a).x + o0) ((rotF tu p c0 c1 c2 x y z a).y + o1) ((rotF tu p c0 c1 c2 x y z a).z + o2) (rotF tu p c0 c1 c2 x y z a).ok else ⟨0, 0, 0, 3⟩
def fromF (tu : Bool) (p c0 c1 c2 a o0 o1 o2 x y z : Int) : MapS :=
  if wn x y z then mapW (rotF tu p c0 c1 c2 (x - o0) (y - o1) (z - o2) (-a)).x (rotF tu p c0 c1 c2 (x - o0) (y - o1) (z - o2) (-a)).y (rotF tu p c0 c1 c2 (x - o0) (y - o1) (z - o2) (-a)).z (rotF tu p c0 c1 c2 (x - o0) (y - o1) (z - o2) (-a)).ok else ⟨0, 0, 0, 3⟩
def okP (tu : Bool) (p a : Int) : Prop := (tu = true → 17 ≤ p ∧ p ≤ 19) ∧ (-4611686018427387904 ≤ a ∧ a ≤ 4611686018427387904)
def okO (sy s0 s1 s2 s3 s4 s5 s6 s7 s8 s9 s10 s11 s12 s13 s14 s15 s16 s17 l0 l1 l2 h0 h1 h2 ln : Int) : Prop :=
  (54 ≤ sy ∧ sy ≤ 59) ∧ (B3 1073741824 s0 s1 s2 ∧ B3 1073741824 s3 s4 s5 ∧ B3 1073741824 s6 s7 s8 ∧ B3 1073741824 s9 s10 s11 ∧ B3 1073741824 s12 s13 s14 ∧ B3 1073741824 s15 s16 s17) ∧ B3 1073741824 l0 l1 l2 ∧ B3 1073741824 h0 h1 h2 ∧ (-1073741824 ≤ ln ∧ ln ≤ 1073741824)
def orX (sy s0 s3 s6 s9 s12 s15 l0 h0 : Int) : Int := pk6 sy s0 s3 s6 s9 s12 s15 + l0 + h0
def orZ (sy s2 s5 s8 s11 s14 s17 l2 h2 ln : Int) : Int := pk6 sy s2 s5 s8 s11 s14 s17 + l2 + h2 + ln
def okOr (r : List Int) : Prop := okO (r.getD 18 0) (r.getD 0 0) (r.getD 1 0) (r.getD 2 0) (r.getD 3 0) (r.getD 4 0) (r.getD 5 0) (r.getD 6 0) (r.getD 7 0) (r.getD 8 0) (r.getD 9 0) (r.getD 10 0) (r.getD 11 0) (r.getD 12 0) (r.getD 13 0) (r.getD 14 0) (r.getD 15 0) (r.getD 16 0) (r.getD 17 0) (r.getD 19 0) (r.getD 20 0) (r.getD 21 0) (r.getD 22 0) (r.getD 23 0) (r.getD 24 0) (r.getD 25 0)
def orR0 (r : List Int) : Int := orX (r.getD 18 0) (r.getD 0 0) (r.getD 3 0) (r.getD 6 0) (r.getD 9 0) (r.getD 12 0) (r.getD 15 0) (r.getD 19 0) (r.getD 22 0)
def orR1 (r : List Int) : Int := orX (r.getD 18 0) (r.getD 1 0) (r.getD 4 0) (r.getD 7 0) (r.getD 10 0) (r.getD 13 0) (r.getD 16 0) (r.getD 20 0) (r.getD 23 0)
def orR2 (r : List Int) : Int := orZ (r.getD 18 0) (r.getD 2 0) (r.getD 5 0) (r.getD 8 0) (r.getD 11 0) (r.getD 14 0) (r.getD 17 0) (r.getD 21 0) (r.getD 24 0) (r.getD 25 0)
def rotR (r : List Int) (sg x y z : Int) : RotS := rotF (r.getD 26 0 != 0) (r.getD 27 0) (r.getD 28 0) (r.getD 29 0) (r.getD 30 0) x y z (sg * r.getD 31 0)
def okPr (r : List Int) : Prop := okP (r.getD 26 0 != 0) (r.getD 27 0) (r.getD 31 0) ∧ B3 1073741824 (r.getD 28 0) (r.getD 29 0) (r.getD 30 0)
end U
namespace Go.Proofs.YtgnknciihdajiaaDoor
open Go Go.HL U
def STurn (hargs : List HV) (pars : List (List HC)) : SR :=
  match hargs, pars with
  | [.agg cs, .agg [.int .i64 x, .int .i64 y, .int .i64 z], .ce (.int .i64 a)], [] => match cs with
    | [.int .i64 s0, .int .i64 s1, .int .i64 s2, .int .i64 s3, .int .i64 s4, .int .i64 s5, .int .i64 s6, .int .i64 s7, .int .i64 s8, .int .i64 s9, .int .i64 s10, .int .i64 s11, .int .i64 s12, .int .i64 s13, .int .i64 s14, .int .i64 s15, .int .i64 s16, .int .i64 s17, .int .i64 sy, .int .i64 l0, .int .i64 l1, .int .i64 l2, .int .i64 h0, .int .i64 h1, .int .i64 h2, .int .i64 ln, .bool tu, .int .i64 pl, .int .i64 c0, .int .i64 c1, .int .i64 c2, .int .i64 an] => .det ((17 ≤ pl ∧ pl ≤ 19) ∧ B3 1073741824 c0 c1 c2 ∧ B3 1099511627776 x y z)
        ⟨.tup [.agg [.int .i64 (tX pl c0 c1 c2 x y z a), .int .i64 (tY pl c0 c1 c2 x y z a), .int .i64 (tZ pl c0 c1 c2 x y z a)], .ce (.bool (tOk pl c0 c1 c2 x y z))], false, [], []⟩
    | _ => .fail
  | _, _ => .fail
def tabTurn : List (FuncId × HL.Spec) := [(102, SFl), (103, SSo), (49, SRot)]
noncomputable def CTurn : Ctx := ⟨Tryd.prog, gam tabTurn, Tryd.f79.ntmps, [], []⟩
theorem vcTurn (s0 s1 s2 s3 s4 s5 s6 s7 s8 s9 s10 s11 s12 s13 s14 s15 s16 s17 sy l0 l1 l2 h0 h1 h2 ln pl c0 c1 c2 an : Int) (tu : Bool) (x y z a : Int) (Q : Res → Prop) : (nfun true CTurn Tryd.f79 (bodyOf Tryd.f79) [.agg [.int .i64 s0, .int .i64 s1, .int .i64 s2, .int .i64 s3, .int .i64 s4, .int .i64 s5, .int .i64 s6, .int .i64 s7, .int .i64 s8, .int .i64 s9, .int .i64 s10, .int .i64 s11, .int .i64 s12, .int .i64 s13, .int .i64 s14, .int .i64 s15, .int .i64 s16, .int .i64 s17, .int .i64 sy, .int .i64 l0, .int .i64 l1, .int .i64 l2, .int .i64 h0, .int .i64 h1, .int .i64 h2, .int .i64 ln, .bool tu, .int .i64 pl, .int .i64 c0, .int .i64 c1, .int .i64 c2, .int .i64 an], .agg [.int .i64 x, .int .i64 y, .int .i64 z], .ce (.int .i64 a)] [] Q) =
    (True ∧ ∀ (x1 : Int), x1 = fU pl x y z → ∀ (x2 : Int), x2 = fW pl x y z → ∀ (x3 : Int), x3 = fH pl x y z → ∀ (x4 : Bool), x4 = isPl pl → True ∧ ∀ (x5 : Int), x5 = fU pl c0 c1 c2 → ∀ (x6 : Int), x6 = fW pl c0 c1 c2 → ∀ (x7 : Int), x7 = fH pl c0 c1 c2 → ∀ (x8 : Bool), x8 = isPl pl → (-9223372036854775808 ≤ x1 - x5 ∧ x1 - x5 ≤ 9223372036854775807) ∧ ∀ (x9 : Int), x9 = x1 - x5 → (-9223372036854775808 ≤ x2 - x6 ∧ x2 - x6 ≤ 9223372036854775807) ∧ ∀ (x10 : Int), x10 = x2 - x6 → True ∧ ∀ (x11 : Int), x11 = rtU x9 x10 a → ∀ (x12 : Int), x12 = rtW x9 x10 a → ∀ (x13 : Bool), x13 = rtB x9 x10 → (-9223372036854775808 ≤ x11 + x5 ∧ x11 + x5 ≤ 9223372036854775807) ∧ ∀ (x14 : Int), x14 = x11 + x5 → (-9223372036854775808 ≤ x12 + x6 ∧ x12 + x6 ≤ 9223372036854775807) ∧ ∀ (x15 : Int), x15 = x12 + x6 → True ∧ ∀ (x16 : Int), x16 = sX pl x14 x15 x3 → ∀ (x17 : Int), x17 = sY pl x14 x15 x3 → ∀ (x18 : Int), x18 = sZ pl x14 x15 x3 →
    ∀ (x19 : Bool), x19 = isPl pl → (x4 = true → Q ⟨.tup [.agg [.int .i64 x16, .int .i64 x17, .int .i64 x18], .ce (.bool x13)], false, [], []⟩) ∧ (x4 = false → Q ⟨.tup [.agg [.int .i64 x16, .int .i64 x17, .int .i64 x18], .ce (.bool false)], false, [], []⟩)) := by kernel_rfl
def SRotn (hargs : List HV) (pars : List (List HC)) : SR :=
  match hargs, pars with
  | [.agg cs, .ce (.int .i64 g)], [] => match cs with
    | [.int .i64 s0, .int .i64 s1, .int .i64 s2, .int .i64 s3, .int .i64 s4, .int .i64 s5, .int .i64 s6, .int .i64 s7, .int .i64 s8, .int .i64 s9, .int .i64 s10, .int .i64 s11, .int .i64 s12, .int .i64 s13, .int .i64 s14, .int .i64 s15, .int .i64 s16, .int .i64 s17, .int .i64 sy, .int .i64 l0, .int .i64 l1, .int .i64 l2, .int .i64 h0, .int .i64 h1, .int .i64 h2, .int .i64 ln, .bool tu, .int .i64 pl, .int .i64 c0, .int .i64 c1, .int .i64 c2, .int .i64 an] => .det True ⟨.ce (.fnv 78 [([4, 4, 4, 4, 4, 4, 4, 4, 4, 4, 4, 4, 4, 4, 4, 4, 4, 4, 4, 4, 4, 4, 4, 4, 4, 4, 0, 4, 4, 4, 4, 4], [s0, s1, s2, s3, s4, s5, s6, s7, s8, s9, s10, s11, s12, s13, s14, s15, s16, s17, sy, l0, l1, l2, h0, h1, h2, ln, (cond tu 1 0), pl, c0, c1, c2, an]), ([4], [g])]), false, [], []⟩
    | _ => .fail
  | _, _ => .fail
noncomputable def CRotn : Ctx := ⟨Tryd.prog, gam [], Tryd.f57.ntmps, [], [5]⟩
theorem vcRotn (s0 s1 s2 s3 s4 s5 s6 s7 s8 s9 s10 s11 s12 s13 s14 s15 s16 s17 sy l0 l1 l2 h0 h1 h2 ln pl c0 c1 c2 an : Int) (tu : Bool) (g : Int) (Q : Res → Prop) : (nfun true CRotn Tryd.f57 (bodyOf Tryd.f57) [.agg [.int .i64 s0, .int .i64 s1, .int .i64 s2, .int .i64 s3, .int .i64 s4, .int .i64 s5, .int .i64 s6, .int .i64 s7, .int .i64 s8, .int .i64 s9, .int .i64 s10, .int .i64 s11, .int .i64 s12, .int .i64 s13, .int .i64 s14, .int .i64 s15, .int .i64 s16, .int .i64 s17, .int .i64 sy, .int .i64 l0, .int .i64 l1, .int .i64 l2, .int .i64 h0, .int .i64 h1, .int .i64 h2, .int .i64 ln, .bool tu, .int .i64 pl, .int .i64 c0, .int .i64 c1, .int .i64 c2, .int .i64 an], .ce (.int .i64 g)] [] Q) =
    (Q ⟨.ce (.fnv (78 : Nat) [([4, 4, 4, 4, 4, 4, 4, 4, 4, 4, 4, 4, 4, 4, 4, 4, 4, 4, 4, 4, 4, 4, 4, 4, 4, 4, 0, 4, 4, 4, 4, 4], [s0, s1, s2, s3, s4, s5, s6, s7, s8, s9, s10, s11, s12, s13, s14, s15, s16, s17, sy, l0, l1, l2, h0, h1, h2, ln, bif tu then (1 : Int) else (0 : Int), pl, c0, c1, c2, an]), ([4], [g])]), false, [], []⟩) := by kernel_rfl
def SRot1 (hargs : List HV) (pars : List (List HC)) : SR :=
  match hargs, pars with
  | [.agg [.int .i64 x, .int .i64 y, .int .i64 z], .ce (.el [4, 4, 4, 4, 4, 4, 4, 4, 4, 4, 4, 4, 4, 4, 4, 4, 4, 4, 4, 4, 4, 4, 4, 4, 4, 4, 0, 4, 4, 4, 4, 4] r 0), .ce (.el [4] g 0)], [] =>
      .det (okPr r ∧ (g.getD 0 0 = 1 ∨ g.getD 0 0 = -1) ∧ B3 1099511627776 x y z)
        ⟨.tup [.agg [.int .i64 (rotR r (g.getD 0 0) x y z).x, .int .i64 (rotR r (g.getD 0 0) x y z).y, .int .i64 (rotR r (g.getD 0 0) x y z).z], .ce (.bool (rotR r (g.getD 0 0) x y z).ok)], false, [], []⟩
  | _, _ => .fail
def tabRot1 : List (FuncId × HL.Spec) := [(79, STurn)]
noncomputable def CRot1 : Ctx := ⟨Tryd.prog, gam tabRot1, Tryd.f78.ntmps, [], []⟩
theorem vcRot1 (x y z : Int) (r g : List Int) (Q : Res → Prop) : (nfun true CRot1 Tryd.f78 (bodyOf Tryd.f78) [.agg [.int .i64 x, .int .i64 y, .int .i64 z], .ce (.el [4, 4, 4, 4, 4, 4, 4, 4, 4, 4, 4, 4, 4, 4, 4, 4, 4, 4, 4, 4, 4, 4, 4, 4, 4, 4, 0, 4, 4, 4, 4, 4] r 0), .ce (.el [4] g 0)] [] Q) =
    (((!List.getD r (26 : Nat) (0 : Int) != (0 : Int)) = true → Q ⟨.tup [.agg [.int .i64 x, .int .i64 y, .int .i64 z], .ce (.bool true)], false, [], []⟩) ∧ ((!List.getD r (26 : Nat) (0 : Int) != (0 : Int)) = false → ∀ (x1 : Int), x1 = List.getD g (0 : Nat) (0 : Int) → ∀ (x2 : Int), x2 = List.getD r (31 : Nat) (0 : Int) → (-9223372036854775808 ≤ x1 * x2 ∧ x1 * x2 ≤ 9223372036854775807) ∧ ∀ (x3 : Int), x3 = x1 * x2 → ((17 ≤ List.getD r (27 : Nat) (0 : Int) ∧ List.getD r (27 : Nat) (0 : Int) ≤ (19 : Int)) ∧ B3 (1073741824 : Int) (List.getD r (28 : Nat) (0 : Int)) (List.getD r (29 : Nat) (0 : Int)) (List.getD r (30 : Nat) (0 : Int)) ∧ B3 (1099511627776 : Int) x y z) ∧ ∀ (x4 : Int), x4 = tX (List.getD r (27 : Nat) (0 : Int)) (List.getD r (28 : Nat) (0 : Int)) (List.getD r (29 : Nat) (0 : Int)) (List.getD r (30 : Nat) (0 : Int)) x y z x3 → ∀ (x5 : Int), x5 = tY (List.getD r (27 : Nat) (0 : Int)) (List.getD r (28 : Nat) (0 : Int)) (List.getD r (29 : Nat) (0 : Int)) (List.getD r (30 : Nat) (0 : Int)) x y z x3 →
    ∀ (x6 : Int), x6 = tZ (List.getD r (27 : Nat) (0 : Int)) (List.getD r (28 : Nat) (0 : Int)) (List.getD r (29 : Nat) (0 : Int)) (List.getD r (30 : Nat) (0 : Int)) x y z x3 → ∀ (x7 : Bool), x7 = tOk (List.getD r (27 : Nat) (0 : Int)) (List.getD r (28 : Nat) (0 : Int)) (List.getD r (29 : Nat) (0 : Int)) (List.getD r (30 : Nat) (0 : Int)) x y z → Q ⟨.tup [.agg [.int .i64 x4, .int .i64 x5, .int .i64 x6], .ce (.bool x7)], false, [], []⟩)) := by kernel_rfl
def STo1 (hargs : List HV) (pars : List (List HC)) : SR :=
  match hargs, pars with
  | [.agg [.int .i64 x, .int .i64 y, .int .i64 z], .ce (.el [4, 4, 4, 4, 4, 4, 4, 4, 4, 4, 4, 4, 4, 4, 4, 4, 4, 4, 4, 4, 4, 4, 4, 4, 4, 4, 0, 4, 4, 4, 4, 4] r 0)], [] =>
      .det (okOr r ∧ B3 1099511627776 x y z) ⟨.tup [.agg [.int .i64 (x + orR0 r), .int .i64 (y + orR1 r), .int .i64 (z + orR2 r)], .ce (.bool true)], false, [], []⟩
  | _, _ => .fail
def tabTo1 : List (FuncId × HL.Spec) := [(22, SOrg), (55, SAd)]
noncomputable def CTo1 : Ctx := ⟨Tryd.prog, gam tabTo1, Tryd.f54.ntmps, [], []⟩
theorem vcTo1 (x y z : Int) (r : List Int) (Q : Res → Prop) : (nfun true CTo1 Tryd.f54 (bodyOf Tryd.f54) [.agg [.int .i64 x, .int .i64 y, .int .i64 z], .ce (.el [4, 4, 4, 4, 4, 4, 4, 4, 4, 4, 4, 4, 4, 4, 4, 4, 4, 4, 4, 4, 4, 4, 4, 4, 4, 4, 0, 4, 4, 4, 4, 4] r 0)] [] Q) =
    (((54 ≤ List.getD r (18 : Nat) (0 : Int) ∧ List.getD r (18 : Nat) (0 : Int) ≤ (59 : Int)) ∧ (B3 (1073741824 : Int) (List.getD r (0 : Nat) (0 : Int)) (List.getD r (1 : Nat) (0 : Int)) (List.getD r (2 : Nat) (0 : Int)) ∧ B3 (1073741824 : Int) (List.getD r (3 : Nat) (0 : Int)) (List.getD r (4 : Nat) (0 : Int)) (List.getD r (5 : Nat) (0 : Int)) ∧ B3 (1073741824 : Int) (List.getD r (6 : Nat) (0 : Int)) (List.getD r (7 : Nat) (0 : Int)) (List.getD r (8 : Nat) (0 : Int)) ∧ B3 (1073741824 : Int) (List.getD r (9 : Nat) (0 : Int)) (List.getD r (10 : Nat) (0 : Int)) (List.getD r (11 : Nat) (0 : Int)) ∧ B3 (1073741824 : Int) (List.getD r (12 : Nat) (0 : Int)) (List.getD r (13 : Nat) (0 : Int)) (List.getD r (14 : Nat) (0 : Int)) ∧ B3 (1073741824 : Int) (List.getD r (15 : Nat) (0 : Int)) (List.getD r (16 : Nat) (0 : Int)) (List.getD r (17 : Nat) (0 : Int))) ∧ B3 (1073741824 : Int) (List.getD r (19 : Nat) (0 : Int)) (List.getD r (20 : Nat) (0 : Int)) (List.getD r (21 : Nat) (0 : Int)) ∧
    B3 (1073741824 : Int) (List.getD r (22 : Nat) (0 : Int)) (List.getD r (23 : Nat) (0 : Int)) (List.getD r (24 : Nat) (0 : Int)) ∧ (-1073741824 : Int) ≤ List.getD r (25 : Nat) (0 : Int) ∧ List.getD r (25 : Nat) (0 : Int) ≤ (1073741824 : Int)) ∧ ∀ (x1 : Int), x1 = pk6 (List.getD r (18 : Nat) (0 : Int)) (List.getD r (0 : Nat) (0 : Int)) (List.getD r (3 : Nat) (0 : Int)) (List.getD r (6 : Nat) (0 : Int)) (List.getD r (9 : Nat) (0 : Int)) (List.getD r (12 : Nat) (0 : Int)) (List.getD r (15 : Nat) (0 : Int)) + List.getD r (19 : Nat) (0 : Int) + List.getD r (22 : Nat) (0 : Int) → ∀ (x2 : Int), x2 = pk6 (List.getD r (18 : Nat) (0 : Int)) (List.getD r (1 : Nat) (0 : Int)) (List.getD r (4 : Nat) (0 : Int)) (List.getD r (7 : Nat) (0 : Int)) (List.getD r (10 : Nat) (0 : Int)) (List.getD r (13 : Nat) (0 : Int)) (List.getD r (16 : Nat) (0 : Int)) + List.getD r (20 : Nat) (0 : Int) + List.getD r (23 : Nat) (0 : Int) →
    ∀ (x3 : Int), x3 = pk6 (List.getD r (18 : Nat) (0 : Int)) (List.getD r (2 : Nat) (0 : Int)) (List.getD r (5 : Nat) (0 : Int)) (List.getD r (8 : Nat) (0 : Int)) (List.getD r (11 : Nat) (0 : Int)) (List.getD r (14 : Nat) (0 : Int)) (List.getD r (17 : Nat) (0 : Int)) + List.getD r (21 : Nat) (0 : Int) + List.getD r (24 : Nat) (0 : Int) + List.getD r (25 : Nat) (0 : Int) → (B3 (1152921504606846976 : Int) x y z ∧ B3 (1152921504606846976 : Int) x1 x2 x3) ∧ ∀ (x4 : Int), x4 = x + x1 → ∀ (x5 : Int), x5 = y + x2 → ∀ (x6 : Int), x6 = z + x3 → Q ⟨.tup [.agg [.int .i64 x4, .int .i64 x5, .int .i64 x6], .ce (.bool true)], false, [], []⟩) := by kernel_rfl
def SFr1 (hargs : List HV) (pars : List (List HC)) : SR :=
  match hargs, pars with
  | [.agg [.int .i64 x, .int .i64 y, .int .i64 z], .ce (.el [4, 4, 4, 4, 4, 4, 4, 4, 4, 4, 4, 4, 4, 4, 4, 4, 4, 4, 4, 4, 4, 4, 4, 4, 4, 4, 0, 4, 4, 4, 4, 4] r 0)], [] =>
      .det (okOr r ∧ B3 1099511627776 x y z) ⟨.tup [.agg [.int .i64 (x - orR0 r), .int .i64 (y - orR1 r), .int .i64 (z - orR2 r)], .ce (.bool true)], false, [], []⟩
  | _, _ => .fail
def tabFr1 : List (FuncId × HL.Spec) := [(22, SOrg), (65, SSb)]
noncomputable def CFr1 : Ctx := ⟨Tryd.prog, gam tabFr1, Tryd.f64.ntmps, [], []⟩
theorem vcFr1 (x y z : Int) (r : List Int) (Q : Res → Prop) : (nfun true CFr1 Tryd.f64 (bodyOf Tryd.f64) [.agg [.int .i64 x, .int .i64 y, .int .i64 z], .ce (.el [4, 4, 4, 4, 4, 4, 4, 4, 4, 4, 4, 4, 4, 4, 4, 4, 4, 4, 4, 4, 4, 4, 4, 4, 4, 4, 0, 4, 4, 4, 4, 4] r 0)] [] Q) =
    (((54 ≤ List.getD r (18 : Nat) (0 : Int) ∧ List.getD r (18 : Nat) (0 : Int) ≤ (59 : Int)) ∧ (B3 (1073741824 : Int) (List.getD r (0 : Nat) (0 : Int)) (List.getD r (1 : Nat) (0 : Int)) (List.getD r (2 : Nat) (0 : Int)) ∧ B3 (1073741824 : Int) (List.getD r (3 : Nat) (0 : Int)) (List.getD r (4 : Nat) (0 : Int)) (List.getD r (5 : Nat) (0 : Int)) ∧ B3 (1073741824 : Int) (List.getD r (6 : Nat) (0 : Int)) (List.getD r (7 : Nat) (0 : Int)) (List.getD r (8 : Nat) (0 : Int)) ∧ B3 (1073741824 : Int) (List.getD r (9 : Nat) (0 : Int)) (List.getD r (10 : Nat) (0 : Int)) (List.getD r (11 : Nat) (0 : Int)) ∧ B3 (1073741824 : Int) (List.getD r (12 : Nat) (0 : Int)) (List.getD r (13 : Nat) (0 : Int)) (List.getD r (14 : Nat) (0 : Int)) ∧ B3 (1073741824 : Int) (List.getD r (15 : Nat) (0 : Int)) (List.getD r (16 : Nat) (0 : Int)) (List.getD r (17 : Nat) (0 : Int))) ∧ B3 (1073741824 : Int) (List.getD r (19 : Nat) (0 : Int)) (List.getD r (20 : Nat) (0 : Int)) (List.getD r (21 : Nat) (0 : Int)) ∧
    B3 (1073741824 : Int) (List.getD r (22 : Nat) (0 : Int)) (List.getD r (23 : Nat) (0 : Int)) (List.getD r (24 : Nat) (0 : Int)) ∧ (-1073741824 : Int) ≤ List.getD r (25 : Nat) (0 : Int) ∧ List.getD r (25 : Nat) (0 : Int) ≤ (1073741824 : Int)) ∧ ∀ (x1 : Int), x1 = pk6 (List.getD r (18 : Nat) (0 : Int)) (List.getD r (0 : Nat) (0 : Int)) (List.getD r (3 : Nat) (0 : Int)) (List.getD r (6 : Nat) (0 : Int)) (List.getD r (9 : Nat) (0 : Int)) (List.getD r (12 : Nat) (0 : Int)) (List.getD r (15 : Nat) (0 : Int)) + List.getD r (19 : Nat) (0 : Int) + List.getD r (22 : Nat) (0 : Int) → ∀ (x2 : Int), x2 = pk6 (List.getD r (18 : Nat) (0 : Int)) (List.getD r (1 : Nat) (0 : Int)) (List.getD r (4 : Nat) (0 : Int)) (List.getD r (7 : Nat) (0 : Int)) (List.getD r (10 : Nat) (0 : Int)) (List.getD r (13 : Nat) (0 : Int)) (List.getD r (16 : Nat) (0 : Int)) + List.getD r (20 : Nat) (0 : Int) + List.getD r (23 : Nat) (0 : Int) →
    ∀ (x3 : Int), x3 = pk6 (List.getD r (18 : Nat) (0 : Int)) (List.getD r (2 : Nat) (0 : Int)) (List.getD r (5 : Nat) (0 : Int)) (List.getD r (8 : Nat) (0 : Int)) (List.getD r (11 : Nat) (0 : Int)) (List.getD r (14 : Nat) (0 : Int)) (List.getD r (17 : Nat) (0 : Int)) + List.getD r (21 : Nat) (0 : Int) + List.getD r (24 : Nat) (0 : Int) + List.getD r (25 : Nat) (0 : Int) → (B3 (1152921504606846976 : Int) x y z ∧ B3 (1152921504606846976 : Int) x1 x2 x3) ∧ ∀ (x4 : Int), x4 = x - x1 → ∀ (x5 : Int), x5 = y - x2 → ∀ (x6 : Int), x6 = z - x3 → Q ⟨.tup [.agg [.int .i64 x4, .int .i64 x5, .int .i64 x6], .ce (.bool true)], false, [], []⟩) := by kernel_rfl
end Go.Proofs.YtgnknciihdajiaaDoor
namespace U
theorem nr_bd {n : Int} (h : -36028797018963968 ≤ n ∧ n ≤ 36028797018963968) : -33554432 ≤ nr n ∧ nr n ≤ 33554433 := by unfold nr; omega
theorem rt_bd (x y a : Int) : (-33554432 ≤ rtU x y a ∧ rtU x y a ≤ 33554433) ∧ (-33554432 ≤ rtW x y a ∧ rtW x y a ≤ 33554433) := by
  unfold rtU rtW
  by_cases h : rtB x y = true
  · rw [if_pos h, if_pos h]
    unfold rtB at h
    have h := of_decide_eq_true h
    have b := sc_bd a
    have m1 := mul_sc (x := x) (c := scC a) (by omega) (by omega)
    have m2 := mul_sc (x := y) (c := scS a) (by omega) (by omega)
    have m3 := mul_sc (x := x) (c := scS a) (by omega) (by omega)
    have m4 := mul_sc (x := y) (c := scC a) (by omega) (by omega)
    exact ⟨nr_bd (by omega), nr_bd (by omega)⟩
  · rw [if_neg h, if_neg h]; decide
theorem sel3_bd {B p a b c : Int} (hB : 0 ≤ B) (ha : -B ≤ a ∧ a ≤ B) (hb : -B ≤ b ∧ b ≤ B) (hc : -B ≤ c ∧ c ≤ B) : -B ≤ sel3 p a b c ∧ sel3 p a b c ≤ B := by
  unfold sel3
  split
  · exact ha
  · split
    · exact hb
    · split
      · exact hc
      · omega
theorem isPl_yes {p : Int} (h : 17 ≤ p ∧ p ≤ 19) : isPl p = true := by
  have : p = 17 ∨ p = 18 ∨ p = 19 := by omega
  rcases this with rfl | rfl | rfl <;> rfl
theorem flat_bd {B p x y z : Int} (hB : 0 ≤ B) (h : B3 B x y z) : (-B ≤ fU p x y z ∧ fU p x y z ≤ B) ∧ (-B ≤ fW p x y z ∧ fW p x y z ≤ B) ∧ (-B ≤ fH p x y z ∧ fH p x y z ≤ B) :=
  ⟨sel3_bd hB h.1 h.2.2 h.2.1, sel3_bd hB h.2.1 h.1 h.2.2, sel3_bd hB h.2.2 h.2.1 h.1⟩
theorem t_bd {p c0 c1 c2 x y z : Int} (a : Int) (hc : B3 1073741824 c0 c1 c2) (h : B3 1099511627776 x y z) : B3 1099511627776 (tX p c0 c1 c2 x y z a) (tY p c0 c1 c2 x y z a) (tZ p c0 c1 c2 x y z a) := by
  have f := flat_bd (p := p) (by decide) h
  have g := flat_bd (p := p) (by decide) hc
  have r := rt_bd (fU p x y z - fU p c0 c1 c2) (fW p x y z - fW p c0 c1 c2) a
  have hA : -1099511627776 ≤ tA p c0 c1 c2 x y z a ∧ tA p c0 c1 c2 x y z a ≤ 1099511627776 := by unfold tA; omega
  have hBt : -1099511627776 ≤ tB p c0 c1 c2 x y z a ∧ tB p c0 c1 c2 x y z a ≤ 1099511627776 := by unfold tB; omega
  exact ⟨sel3_bd (by decide) hA hBt f.2.2, sel3_bd (by decide) hBt f.2.2 hA, sel3_bd (by decide) f.2.2 hA hBt⟩
theorem rotF_bd {tu : Bool} {p c0 c1 c2 x y z : Int} (a : Int) (hc : B3 1073741824 c0 c1 c2) (h : B3 1099511627776 x y z) : B3 1099511627776 (rotF tu p c0 c1 c2 x y z a).x (rotF tu p c0 c1 c2 x y z a).y (rotF tu p c0 c1 c2 x y z a).z := by
  cases tu
  · exact h
  · exact t_bd a hc h
end U
namespace Go.Proofs.YtgnknciihdajiaaDoor
open Go Go.HL U
attribute [local irreducible] hfun bodyT fragT
set_option maxHeartbeats 400000 in
set_option maxRecDepth 100000 in
theorem sTurn : Sound Tryd.prog 79 STurn := by
  refine sound_of (C := CTurn) tabTurn Tryd.func79 (by kernel_rfl) (by decide +kernel) (by kernel_rfl) rfl ⟨sFl, sSo, sRot, trivial⟩ (loops0 (by kernel_rfl)) ?_
  intro hargs pars R h
  unfold STurn at h
  split at h
  case h_2 => exfalso; exact h
  rename_i cs x y z a
  split at h
  case h_2 => exact h.elim
  rename_i s0 s1 s2 s3 s4 s5 s6 s7 s8 s9 s10 s11 s12 s13 s14 s15 s16 s17 sy l0 l1 l2 h0 h1 h2 ln tu pl c0 c1 c2 an
  obtain ⟨⟨hp, hc, hx⟩, hq⟩ := h
  have f := flat_bd (p := pl) (by decide) hx
  have g := flat_bd (p := pl) (by decide) hc
  have r := rt_bd (fU pl x y z - fU pl c0 c1 c2) (fW pl x y z - fW pl c0 c1 c2) a
  have ip := isPl_yes hp
  refine byVC (vcTurn s0 s1 s2 s3 s4 s5 s6 s7 s8 s9 s10 s11 s12 s13 s14 s15 s16 s17 sy l0 l1 l2 h0 h1 h2 ln pl c0 c1 c2 an tu x y z a R) ⟨trivial, fun x1 e1 x2 e2 x3 e3 x4 e4 => ⟨trivial, fun x5 e5 x6 e6 x7 e7 x8 e8 => ⟨by omega, fun x9 e9 => ⟨by omega, fun x10 e10 => ⟨trivial, fun x11 e11 x12 e12 x13 e13 => ?_⟩⟩⟩⟩⟩
  rw [e10, e9, e1, e2, e5, e6] at e11 e12 e13
  refine ⟨by omega, fun x14 e14 => ⟨by omega, fun x15 e15 => ⟨trivial, fun x16 e16 x17 e17 x18 e18 x19 e19 => ⟨fun _ => ?_, fun g => ?_⟩⟩⟩⟩
  · have h14 : x14 = tA pl c0 c1 c2 x y z a := by rw [e14, e11, e5]; rfl
    have h15 : x15 = tB pl c0 c1 c2 x y z a := by rw [e15, e12, e6]; rfl
    rw [e16, e17, e18, e13, h14, h15, e3]
    exact hq
  · rw [e4, ip] at g; cases g
set_option maxHeartbeats 400000 in
set_option maxRecDepth 100000 in
theorem sRotn : Sound Tryd.prog 57 SRotn := by
  refine sound_of (C := CRotn) [] Tryd.func57 (by kernel_rfl) (by decide +kernel) (by kernel_rfl) rfl trivial (loops0 (by kernel_rfl)) ?_
  intro hargs pars R h
  unfold SRotn at h
  split at h
  case h_2 => exfalso; exact h
  rename_i cs g
  split at h
  case h_2 => exact h.elim
  rename_i s0 s1 s2 s3 s4 s5 s6 s7 s8 s9 s10 s11 s12 s13 s14 s15 s16 s17 sy l0 l1 l2 h0 h1 h2 ln tu pl c0 c1 c2 an
  exact byVC (vcRotn s0 s1 s2 s3 s4 s5 s6 s7 s8 s9 s10 s11 s12 s13 s14 s15 s16 s17 sy l0 l1 l2 h0 h1 h2 ln pl c0 c1 c2 an tu g R) h.2
set_option maxHeartbeats 400000 in
set_option maxRecDepth 100000 in
theorem sRot1 : Sound Tryd.prog 78 SRot1 := by
  refine sound_of (C := CRot1) tabRot1 Tryd.func78 (by kernel_rfl) (by decide +kernel) (by kernel_rfl) rfl ⟨sTurn, trivial⟩ (loops0 (by kernel_rfl)) ?_
  intro hargs pars R h
  unfold SRot1 at h
  split at h
  case h_2 => exfalso; exact h
  rename_i x y z r g
  obtain ⟨⟨⟨hp, hc⟩, hg, hx⟩, hq⟩ := h
  refine byVC (vcRot1 x y z r g R) ⟨fun t => ?_, fun t => ?_⟩
  · have t : (r.getD 26 0 != 0) = false := by simpa using t
    unfold rotR rotF at hq
    rw [t] at hq
    exact hq
  · have t : (r.getD 26 0 != 0) = true := by simpa using t
    have ha := hp.2
    have m : ∀ u : Int, u = 1 ∨ u = -1 → (-9223372036854775808 ≤ u * r.getD 31 0 ∧ u * r.getD 31 0 ≤ 9223372036854775807) := fun u hu => by
      rcases hu with rfl | rfl <;> omega
    refine fun x1 e1 x2 e2 => ⟨by rw [e1, e2]; exact m _ hg, fun x3 e3 => ⟨⟨hp.1 t, hc, hx⟩, fun x4 e4 x5 e5 x6 e6 x7 e7 => ?_⟩⟩
    unfold rotR rotF at hq
    rw [t] at hq
    rw [e4, e5, e6, e7, e3, e1, e2]
    exact hq
theorem or_bd {r : List Int} (h : okOr r) : (-4294967296 ≤ orR0 r ∧ orR0 r ≤ 4294967296) ∧ (-4294967296 ≤ orR1 r ∧ orR1 r ≤ 4294967296) ∧ (-4294967296 ≤ orR2 r ∧ orR2 r ≤ 4294967296) := by
  obtain ⟨hs, ⟨⟨a0, a1, a2⟩, ⟨a3, a4, a5⟩, ⟨a6, a7, a8⟩, ⟨a9, a10, a11⟩, ⟨a12, a13, a14⟩, ⟨a15, a16, a17⟩⟩, ⟨b0, b1, b2⟩, ⟨d0, d1, d2⟩, hln⟩ := h
  have p : ∀ {s a b c d e f : Int}, (-1073741824 ≤ a ∧ a ≤ 1073741824) → (-1073741824 ≤ b ∧ b ≤ 1073741824) → (-1073741824 ≤ c ∧ c ≤ 1073741824) → (-1073741824 ≤ d ∧ d ≤ 1073741824) → (-1073741824 ≤ e ∧ e ≤ 1073741824) → (-1073741824 ≤ f ∧ f ≤ 1073741824) →
      -1073741824 ≤ pk6 s a b c d e f ∧ pk6 s a b c d e f ≤ 1073741824 := fun {s a b c d e f} ha hb hc hd he hf => by
    unfold pk6
    repeat' split
    all_goals assumption
  have q0 := p (s := r.getD 18 0) a0 a3 a6 a9 a12 a15
  have q1 := p (s := r.getD 18 0) a1 a4 a7 a10 a13 a16
  have q2 := p (s := r.getD 18 0) a2 a5 a8 a11 a14 a17
  unfold orR0 orR1 orR2 orX orZ
  omega
set_option maxHeartbeats 400000 in
set_option maxRecDepth 100000 in
theorem sTo1 : Sound Tryd.prog 54 STo1 := by
  refine sound_of (C := CTo1) tabTo1 Tryd.func54 (by kernel_rfl) (by decide +kernel) (by kernel_rfl) rfl ⟨sOrg, sAd, trivial⟩ (loops0 (by kernel_rfl)) ?_
  intro hargs pars R h
  unfold STo1 at h
  split at h
  case h_2 => exfalso; exact h
  rename_i x y z r
  obtain ⟨⟨ho, hx⟩, hq⟩ := h
  have b := or_bd ho
  refine byVC (vcTo1 x y z r R) ⟨ho, fun x1 e1 x2 e2 x3 e3 => ?_⟩
  have e1 : x1 = orR0 r := e1
  have e2 : x2 = orR1 r := e2
  have e3 : x3 = orR2 r := e3
  obtain ⟨h1, h2, h3⟩ := hx
  refine ⟨⟨⟨by omega, by omega, by omega⟩, by omega, by omega, by omega⟩, fun x4 e4 x5 e5 x6 e6 => ?_⟩
  rw [e4, e5, e6, e1, e2, e3]; exact hq
set_option maxHeartbeats 400000 in
set_option maxRecDepth 100000 in
theorem sFr1 : Sound Tryd.prog 64 SFr1 := by
  refine sound_of (C := CFr1) tabFr1 Tryd.func64 (by kernel_rfl) (by decide +kernel) (by kernel_rfl) rfl ⟨sOrg, sSb, trivial⟩ (loops0 (by kernel_rfl)) ?_
  intro hargs pars R h
  unfold SFr1 at h
  split at h
  case h_2 => exfalso; exact h
  rename_i x y z r
  obtain ⟨⟨ho, hx⟩, hq⟩ := h
  have b := or_bd ho
  refine byVC (vcFr1 x y z r R) ⟨ho, fun x1 e1 x2 e2 x3 e3 => ?_⟩
  have e1 : x1 = orR0 r := e1
  have e2 : x2 = orR1 r := e2
  have e3 : x3 = orR2 r := e3
  obtain ⟨h1, h2, h3⟩ := hx
  refine ⟨⟨⟨by omega, by omega, by omega⟩, by omega, by omega, by omega⟩, fun x4 e4 x5 e5 x6 e6 => ?_⟩
  rw [e4, e5, e6, e1, e2, e3]; exact hq
end Go.Proofs.YtgnknciihdajiaaDoor
namespace U
open Go Go.HL
def toR (r r2 : List Int) (g x y z : Int) : MapS := toF (r.getD 26 0 != 0) (r.getD 27 0) (r.getD 28 0) (r.getD 29 0) (r.getD 30 0) (g * r.getD 31 0) (orR0 r2) (orR1 r2) (orR2 r2) x y z
def fromR (r r2 : List Int) (g x y z : Int) : MapS := fromF (r.getD 26 0 != 0) (r.getD 27 0) (r.getD 28 0) (r.getD 29 0) (r.getD 30 0) (-(g * r.getD 31 0)) (orR0 r2) (orR1 r2) (orR2 r2) x y z
end U
namespace Go.Proofs.YtgnknciihdajiaaDoor
open Go Go.HL U
def frK : List Nat := [4, 4, 4, 4, 4, 4, 4, 4, 4, 4, 4, 4, 4, 4, 4, 4, 4, 4, 4, 4, 4, 4, 4, 4, 4, 4, 0, 4, 4, 4, 4, 4]
def SMapd (hargs : List HV) (pars : List (List HC)) : SR :=
  match hargs, pars with
  | [.agg [.int .i64 x, .int .i64 y, .int .i64 z], .ce (.fsl l)], [] => match l with
    | [(f1, [(k1, r), (k2, [g])]), (f2, [(k3, r2)])] =>
      bif Nat.beq f1 78 && (Nat.beq f2 54 && (ksEq k1 frK && (ksEq k2 [4] && ksEq k3 frK))) then
      .all (okPr r ∧ okOr r2 ∧ g = 1) MapS (fun m => m = toR r r2 g x y z) (fun m => ⟨.tup [.agg [.int .i64 m.x, .int .i64 m.y, .int .i64 m.z], .ce (.int .i64 m.e)], false, [], []⟩) else .fail
    | [(f2, [(k3, r2)]), (f1, [(k1, r), (k2, [g])])] =>
      bif Nat.beq f1 78 && (Nat.beq f2 64 && (ksEq k1 frK && (ksEq k2 [4] && ksEq k3 frK))) then
      .all (okPr r ∧ okOr r2 ∧ g = -1) MapS (fun m => m = fromR r r2 g x y z) (fun m => ⟨.tup [.agg [.int .i64 m.x, .int .i64 m.y, .int .i64 m.z], .ce (.int .i64 m.e)], false, [], []⟩) else .fail
    | _ => .fail
  | _, _ => .fail
def unrT (b : List Nat) : LAnn := ⟨[], [4], b, true⟩
def tabMapd : List (FuncId × HL.Spec) := [(44, SWn), (78, SRot1), (54, STo1), (64, SFr1)]
noncomputable def CMapd : Ctx := ⟨Tryd.prog, gam tabMapd, Tryd.f56.ntmps, [(4000004, unrT [1000002, 1000004], fun _ => .fail)], []⟩
theorem vcMapT (x y z g : Int) (r r2 : List Int) (Q : Res → Prop) : (nfun true CMapd Tryd.f56 (bodyOf Tryd.f56) [.agg [.int .i64 x, .int .i64 y, .int .i64 z], .ce (.fsl [(78, [([4, 4, 4, 4, 4, 4, 4, 4, 4, 4, 4, 4, 4, 4, 4, 4, 4, 4, 4, 4, 4, 4, 4, 4, 4, 4, 0, 4, 4, 4, 4, 4], r), ([4], [g])]), (54, [([4, 4, 4, 4, 4, 4, 4, 4, 4, 4, 4, 4, 4, 4, 4, 4, 4, 4, 4, 4, 4, 4, 4, 4, 4, 4, 0, 4, 4, 4, 4, 4], r2)])])] [] Q) =
    (True ∧ ∀ (x1 : Bool), x1 = wn x y z → ((!x1) = true → Q ⟨.tup [.agg [.int .i64 0, .int .i64 0, .int .i64 0], .ce (.int .i64 3)], false, [], []⟩) ∧ ((!x1) = false → ((0 : Int) ≤ (0 : Int) ∧ (0 : Int) < (((2 : Nat) : Nat) : Int)) ∧ (okPr r ∧ (g = 1 ∨ g = (-1 : Int)) ∧ B3 (1099511627776 : Int) x y z) ∧ ∀ (x2 : Int), x2 = (rotR r g x y z).x → ∀ (x3 : Int), x3 = (rotR r g x y z).y → ∀ (x4 : Int), x4 = (rotR r g x y z).z → ∀ (x5 : Bool), x5 = (rotR r g x y z).ok → ((!x5) = true → Q ⟨.tup [.agg [.int .i64 0, .int .i64 0, .int .i64 0], .ce (.int .i64 3)], false, [], []⟩) ∧ ((!x5) = false → ((0 : Int) ≤ (1 : Int) ∧ (1 : Int) < (((2 : Nat) : Nat) : Int)) ∧ (okOr r2 ∧ B3 (1099511627776 : Int) x2 x3 x4) ∧ ∀ (x6 : Int), x6 = x2 + orR0 r2 → ∀ (x7 : Int), x7 = x3 + orR1 r2 → ∀ (x8 : Int), x8 = x4 + orR2 r2 → ∀ (x9 : Bool), x9 = true → ((!x9) = true → Q ⟨.tup [.agg [.int .i64 0, .int .i64 0, .int .i64 0], .ce (.int .i64 3)], false, [], []⟩) ∧
    ((!x9) = false → True ∧ ∀ (x10 : Bool), x10 = wn x6 x7 x8 → ((!x10) = true → Q ⟨.tup [.agg [.int .i64 0, .int .i64 0, .int .i64 0], .ce (.int .i64 3)], false, [], []⟩) ∧ ((!x10) = false → Q ⟨.tup [.agg [.int .i64 x6, .int .i64 x7, .int .i64 x8], .ce (.int .i64 0)], false, [], []⟩))))) := by kernel_rfl
theorem vcMapF (x y z g : Int) (r r2 : List Int) (Q : Res → Prop) : (nfun true CMapd Tryd.f56 (bodyOf Tryd.f56) [.agg [.int .i64 x, .int .i64 y, .int .i64 z], .ce (.fsl [(64, [([4, 4, 4, 4, 4, 4, 4, 4, 4, 4, 4, 4, 4, 4, 4, 4, 4, 4, 4, 4, 4, 4, 4, 4, 4, 4, 0, 4, 4, 4, 4, 4], r2)]), (78, [([4, 4, 4, 4, 4, 4, 4, 4, 4, 4, 4, 4, 4, 4, 4, 4, 4, 4, 4, 4, 4, 4, 4, 4, 4, 4, 0, 4, 4, 4, 4, 4], r), ([4], [g])])])] [] Q) =
    (True ∧ ∀ (x1 : Bool), x1 = wn x y z → ((!x1) = true → Q ⟨.tup [.agg [.int .i64 0, .int .i64 0, .int .i64 0], .ce (.int .i64 3)], false, [], []⟩) ∧ ((!x1) = false → ((0 : Int) ≤ (0 : Int) ∧ (0 : Int) < (((2 : Nat) : Nat) : Int)) ∧ (okOr r2 ∧ B3 (1099511627776 : Int) x y z) ∧ ∀ (x2 : Int), x2 = x - orR0 r2 → ∀ (x3 : Int), x3 = y - orR1 r2 → ∀ (x4 : Int), x4 = z - orR2 r2 → ∀ (x5 : Bool), x5 = true → ((!x5) = true → Q ⟨.tup [.agg [.int .i64 0, .int .i64 0, .int .i64 0], .ce (.int .i64 3)], false, [], []⟩) ∧ ((!x5) = false → ((0 : Int) ≤ (1 : Int) ∧ (1 : Int) < (((2 : Nat) : Nat) : Int)) ∧ (okPr r ∧ (g = 1 ∨ g = (-1 : Int)) ∧ B3 (1099511627776 : Int) x2 x3 x4) ∧ ∀ (x6 : Int), x6 = (rotR r g x2 x3 x4).x → ∀ (x7 : Int), x7 = (rotR r g x2 x3 x4).y → ∀ (x8 : Int), x8 = (rotR r g x2 x3 x4).z → ∀ (x9 : Bool), x9 = (rotR r g x2 x3 x4).ok → ((!x9) = true → Q ⟨.tup [.agg [.int .i64 0, .int .i64 0, .int .i64 0], .ce (.int .i64 3)], false, [], []⟩) ∧
    ((!x9) = false → True ∧ ∀ (x10 : Bool), x10 = wn x6 x7 x8 → ((!x10) = true → Q ⟨.tup [.agg [.int .i64 0, .int .i64 0, .int .i64 0], .ce (.int .i64 3)], false, [], []⟩) ∧ ((!x10) = false → Q ⟨.tup [.agg [.int .i64 x6, .int .i64 x7, .int .i64 x8], .ce (.int .i64 0)], false, [], []⟩))))) := by kernel_rfl
def STo (hargs : List HV) (pars : List (List HC)) : SR :=
  match hargs, pars with
  | [.agg cs, .agg [.int .i64 x, .int .i64 y, .int .i64 z]], [] => match cs with
    | [.int .i64 s0, .int .i64 s1, .int .i64 s2, .int .i64 s3, .int .i64 s4, .int .i64 s5, .int .i64 s6, .int .i64 s7, .int .i64 s8, .int .i64 s9, .int .i64 s10, .int .i64 s11, .int .i64 s12, .int .i64 s13, .int .i64 s14, .int .i64 s15, .int .i64 s16, .int .i64 s17, .int .i64 sy, .int .i64 l0, .int .i64 l1, .int .i64 l2, .int .i64 h0, .int .i64 h1, .int .i64 h2, .int .i64 ln, .bool tu, .int .i64 pl, .int .i64 c0, .int .i64 c1, .int .i64 c2, .int .i64 an] => .all (okO sy s0 s1 s2 s3 s4 s5 s6 s7 s8 s9 s10 s11 s12 s13 s14 s15 s16 s17 l0 l1 l2 h0 h1 h2 ln ∧ okP tu pl an ∧ B3 1073741824 c0 c1 c2) MapS
        (fun m => m = toF tu pl c0 c1 c2 an (orX sy s0 s3 s6 s9 s12 s15 l0 h0) (orX sy s1 s4 s7 s10 s13 s16 l1 h1) (orZ sy s2 s5 s8 s11 s14 s17 l2 h2 ln) x y z)
        (fun m => ⟨.tup [.agg [.int .i64 m.x, .int .i64 m.y, .int .i64 m.z], .ce (.int .i64 m.e)], false, [], []⟩)
    | _ => .fail
  | _, _ => .fail
def tabTo : List (FuncId × HL.Spec) := [(57, SRotn), (56, SMapd)]
noncomputable def CTo : Ctx := ⟨Tryd.prog, gam tabTo, Tryd.f21.ntmps, [], [7]⟩
theorem vcTo (s0 s1 s2 s3 s4 s5 s6 s7 s8 s9 s10 s11 s12 s13 s14 s15 s16 s17 sy l0 l1 l2 h0 h1 h2 ln pl c0 c1 c2 an : Int) (tu : Bool) (x y z : Int) (Q : Res → Prop) : (nfun true CTo Tryd.f21 (bodyOf Tryd.f21) [.agg [.int .i64 s0, .int .i64 s1, .int .i64 s2, .int .i64 s3, .int .i64 s4, .int .i64 s5, .int .i64 s6, .int .i64 s7, .int .i64 s8, .int .i64 s9, .int .i64 s10, .int .i64 s11, .int .i64 s12, .int .i64 s13, .int .i64 s14, .int .i64 s15, .int .i64 s16, .int .i64 s17, .int .i64 sy, .int .i64 l0, .int .i64 l1, .int .i64 l2, .int .i64 h0, .int .i64 h1, .int .i64 h2, .int .i64 ln, .bool tu, .int .i64 pl, .int .i64 c0, .int .i64 c1, .int .i64 c2, .int .i64 an], .agg [.int .i64 x, .int .i64 y, .int .i64 z]] [] Q) =
    (True ∧ (okPr [s0, s1, s2, s3, s4, s5, s6, s7, s8, s9, s10, s11, s12, s13, s14, s15, s16, s17, sy, l0, l1, l2, h0, h1, h2, ln, bif (bif tu then (1 : Int) else (0 : Int)) != 0 then (1 : Int) else (0 : Int), pl, c0, c1, c2, an] ∧ okOr [s0, s1, s2, s3, s4, s5, s6, s7, s8, s9, s10, s11, s12, s13, s14, s15, s16, s17, sy, l0, l1, l2, h0, h1, h2, ln, bif tu then (1 : Int) else (0 : Int), pl, c0, c1, c2, an] ∧ (1 : Int) = (1 : Int)) ∧ (∃ (x_1 : MapS), x_1 = toR [s0, s1, s2, s3, s4, s5, s6, s7, s8, s9, s10, s11, s12, s13, s14, s15, s16, s17, sy, l0, l1, l2, h0, h1, h2, ln, bif (bif tu then (1 : Int) else (0 : Int)) != 0 then (1 : Int) else (0 : Int), pl, c0, c1, c2, an] [s0, s1, s2, s3, s4, s5, s6, s7, s8, s9, s10, s11, s12, s13, s14, s15, s16, s17, sy, l0, l1, l2, h0, h1, h2, ln, bif tu then (1 : Int) else (0 : Int), pl, c0, c1, c2, an] (1 : Int) x y z) ∧ ∀ (x_1 : MapS), x_1 = toR [s0, s1, s2, s3, s4, s5, s6, s7, s8, s9, s10, s11, s12, s13, s14, s15, s16, s17, sy, l0, l1, l2, h0, h1, h2, ln, bif (bif tu then (1 : Int) else (0 : Int)) != 0 then (1 : Int) else (0 : Int), pl, c0, c1, c2, an] [s0, s1, s2, s3, s4, s5, s6, s7, s8, s9, s10, s11, s12, s13, s14, s15, s16, s17, sy, l0, l1, l2, h0, h1, h2, ln, bif tu then (1 : Int) else (0 : Int), pl, c0, c1, c2, an] (1 : Int) x y z →
    Q ⟨.tup [.agg [.int .i64 x_1.x, .int .i64 x_1.y, .int .i64 x_1.z], .ce (.int .i64 x_1.e)], false, [], []⟩) := by kernel_rfl
end Go.Proofs.YtgnknciihdajiaaDoor
namespace U
theorem B3_mono {B C x y z : Int} (h : B3 B x y z) (hBC : B ≤ C) : B3 C x y z := by
  obtain ⟨⟨a, b⟩, ⟨c, d⟩, e, f⟩ := h
  exact ⟨⟨by omega, by omega⟩, ⟨by omega, by omega⟩, by omega, by omega⟩
theorem mapW_ok {x y z : Int} {b : Bool} (h1 : b = true) (h2 : wn x y z = true) : mapW x y z b = ⟨x, y, z, 0⟩ := by unfold mapW; rw [h1, h2]; rfl
theorem mapW_b {x y z : Int} {b : Bool} (h1 : b = false) : mapW x y z b = ⟨0, 0, 0, 3⟩ := by unfold mapW; rw [h1]; rfl
theorem mapW_w {x y z : Int} {b : Bool} (h1 : wn x y z = false) : mapW x y z b = ⟨0, 0, 0, 3⟩ := by unfold mapW; rw [h1, Bool.and_false]; rfl
theorem toR_w {r r2 : List Int} {g x y z : Int} (h : wn x y z = false) : toR r r2 g x y z = ⟨0, 0, 0, 3⟩ := by unfold toR toF; rw [h]; rfl
theorem toR_eq {r r2 : List Int} {g x y z : Int} (h : wn x y z = true) : toR r r2 g x y z = mapW ((rotR r g x y z).x + orR0 r2) ((rotR r g x y z).y + orR1 r2) ((rotR r g x y z).z + orR2 r2) (rotR r g x y z).ok := by
  unfold toR toF; rw [if_pos h]; rfl
theorem fromR_w {r r2 : List Int} {g x y z : Int} (h : wn x y z = false) : fromR r r2 g x y z = ⟨0, 0, 0, 3⟩ := by unfold fromR fromF; rw [h]; rfl
theorem fromR_eq {r r2 : List Int} {g x y z : Int} (h : wn x y z = true) : fromR r r2 g x y z = mapW (rotR r g (x - orR0 r2) (y - orR1 r2) (z - orR2 r2)).x (rotR r g (x - orR0 r2) (y - orR1 r2) (z - orR2 r2)).y (rotR r g (x - orR0 r2) (y - orR1 r2) (z - orR2 r2)).z (rotR r g (x - orR0 r2) (y - orR1 r2) (z - orR2 r2)).ok := by
  unfold fromR fromF; rw [if_pos h, Int.neg_neg]; rfl
theorem nt_f {b : Bool} (h : (!b) = true) : b = false := by cases b; rfl; cases h
theorem nf_t {b : Bool} (h : (!b) = false) : b = true := by cases b; cases h; rfl
end U
namespace Go.Proofs.YtgnknciihdajiaaDoor
open Go Go.HL U
attribute [local irreducible] hfun bodyT fragT
theorem rotR_bd {r : List Int} {g x y z : Int} (h : okPr r) (hx : B3 1099511627776 x y z) : B3 1099511627776 (rotR r g x y z).x (rotR r g x y z).y (rotR r g x y z).z := rotF_bd _ h.2 hx
set_option maxHeartbeats 400000 in
set_option maxRecDepth 100000 in
theorem sMapd : Sound Tryd.prog 56 SMapd := by
  refine sound_of (C := CMapd) tabMapd Tryd.func56 (by kernel_rfl) (by decide +kernel) (by kernel_rfl) rfl ⟨sWn, sRot1, sTo1, sFr1, trivial⟩ (loopsAll (by kernel_rfl)) ?_
  intro hargs pars R h
  unfold SMapd at h
  split at h
  case h_2 => exfalso; exact h
  rename_i x y z l
  split at h
  case h_3 => exact h.elim
  · rename_i f1 k1 r k2 g f2 k3 r2
    cases hb : (Nat.beq f1 78 && (Nat.beq f2 54 && (ksEq k1 frK && (ksEq k2 [4] && ksEq k3 frK)))) with
    | false => rw [hb] at h; exact h.elim
    | true =>
    rw [hb] at h
    rw [Bool.and_eq_true, Bool.and_eq_true, Bool.and_eq_true, Bool.and_eq_true] at hb
    obtain ⟨b1, b2, b3, b4, b5⟩ := hb
    have b1 := Nat.eq_of_beq_eq_true b1
    have b2 := Nat.eq_of_beq_eq_true b2
    have b3 := ksEq_eq b3
    have b4 := ksEq_eq b4
    have b5 := ksEq_eq b5
    subst b1 b2 b3 b4 b5
    obtain ⟨⟨hp, ho, hg⟩, _, hR⟩ := h
    subst hg
    have ob := or_bd ho
    refine byVC (vcMapT x y z 1 r r2 R) ⟨trivial, fun x1 e1 => ⟨fun n => ?_, fun n => ?_⟩⟩
    · exact hR ⟨0, 0, 0, 3⟩ (toR_w (e1.symm.trans (nt_f n))).symm
    have hw := e1.symm.trans (nf_t n)
    have hb := B3_mono (wn_iff.1 hw) (C := 1099511627776) (by decide)
    have rb := rotR_bd (g := 1) hp hb
    rw [toR_eq hw] at hR
    refine ⟨by omega, ⟨hp, .inl rfl, hb⟩, fun x2 e2 x3 e3 x4 e4 x5 e5 => ⟨fun n5 => ?_, fun n5 => ?_⟩⟩
    · exact hR ⟨0, 0, 0, 3⟩ (mapW_b (e5.symm.trans (nt_f n5))).symm
    rw [← e2, ← e3, ← e4, ← e5] at hR
    rw [← e2, ← e3, ← e4] at rb
    refine ⟨by omega, ⟨ho, rb⟩, fun x6 e6 x7 e7 x8 e8 x9 e9 => ⟨fun n9 => (by rw [e9] at n9; cases n9), fun _ => ⟨trivial, fun x10 e10 => ⟨fun n10 => ?_, fun n10 => ?_⟩⟩⟩⟩
    · rw [← e6, ← e7, ← e8] at hR
      exact hR ⟨0, 0, 0, 3⟩ (mapW_w (e10.symm.trans (nt_f n10))).symm
    · rw [← e6, ← e7, ← e8] at hR
      exact hR ⟨x6, x7, x8, 0⟩ (mapW_ok (nf_t n5) (e10.symm.trans (nf_t n10))).symm
  · rename_i f2 k3 r2 f1 k1 r k2 g
    cases hb : (Nat.beq f1 78 && (Nat.beq f2 64 && (ksEq k1 frK && (ksEq k2 [4] && ksEq k3 frK)))) with
    | false => rw [hb] at h; exact h.elim
    | true =>
    rw [hb] at h
    rw [Bool.and_eq_true, Bool.and_eq_true, Bool.and_eq_true, Bool.and_eq_true] at hb
    obtain ⟨b1, b2, b3, b4, b5⟩ := hb
    have b1 := Nat.eq_of_beq_eq_true b1
    have b2 := Nat.eq_of_beq_eq_true b2
    have b3 := ksEq_eq b3
    have b4 := ksEq_eq b4
    have b5 := ksEq_eq b5
    subst b1 b2 b3 b4 b5
    obtain ⟨⟨hp, ho, hg⟩, _, hR⟩ := h
    subst hg
    have ob := or_bd ho
    refine byVC (vcMapF x y z (-1) r r2 R) ⟨trivial, fun x1 e1 => ⟨fun n => ?_, fun n => ?_⟩⟩
    · exact hR ⟨0, 0, 0, 3⟩ (fromR_w (e1.symm.trans (nt_f n))).symm
    have hw := e1.symm.trans (nf_t n)
    have hb := wn_iff.1 hw
    rw [fromR_eq hw] at hR
    refine ⟨by omega, ⟨ho, B3_mono hb (by decide)⟩, fun x2 e2 x3 e3 x4 e4 x5 e5 => ⟨fun n5 => (by rw [e5] at n5; cases n5), fun n5 => ?_⟩⟩
    have hb2 : B3 1099511627776 x2 x3 x4 := by
      obtain ⟨b1, b2, b3⟩ := hb
      exact ⟨by omega, by omega, by omega⟩
    rw [← e2, ← e3, ← e4] at hR
    refine ⟨by omega, ⟨hp, .inr rfl, hb2⟩, fun x6 e6 x7 e7 x8 e8 x9 e9 => ⟨fun n9 => ?_, fun n9 => ⟨trivial, fun x10 e10 => ⟨fun n10 => ?_, fun n10 => ?_⟩⟩⟩⟩
    · exact hR ⟨0, 0, 0, 3⟩ (mapW_b (e9.symm.trans (nt_f n9))).symm
    · rw [← e6, ← e7, ← e8] at hR
      exact hR ⟨0, 0, 0, 3⟩ (mapW_w (e10.symm.trans (nt_f n10))).symm
    · rw [← e6, ← e7, ← e8] at hR
      exact hR ⟨x6, x7, x8, 0⟩ (mapW_ok (e9.symm.trans (nf_t n9)) (e10.symm.trans (nf_t n10))).symm
set_option maxHeartbeats 400000 in
set_option maxRecDepth 100000 in
theorem sTo : Sound Tryd.prog 21 STo := by
  refine sound_of (C := CTo) tabTo Tryd.func21 (by kernel_rfl) (by decide +kernel) (by kernel_rfl) rfl ⟨sRotn, sMapd, trivial⟩ (loops0 (by kernel_rfl)) ?_
  intro hargs pars R h
  unfold STo at h
  split at h
  case h_2 => exfalso; exact h
  rename_i cs x y z
  split at h
  case h_2 => exact h.elim
  rename_i s0 s1 s2 s3 s4 s5 s6 s7 s8 s9 s10 s11 s12 s13 s14 s15 s16 s17 sy l0 l1 l2 h0 h1 h2 ln tu pl c0 c1 c2 an
  obtain ⟨⟨ho, hp, hc⟩, _, hR⟩ := h
  cases tu
  · exact byVC (vcTo s0 s1 s2 s3 s4 s5 s6 s7 s8 s9 s10 s11 s12 s13 s14 s15 s16 s17 sy l0 l1 l2 h0 h1 h2 ln pl c0 c1 c2 an false x y z R) ⟨trivial, ⟨⟨hp, hc⟩, ho, rfl⟩, ⟨_, rfl⟩, fun m hm => hR m (by rw [hm]; unfold toR; rw [Int.one_mul]; rfl)⟩
  · exact byVC (vcTo s0 s1 s2 s3 s4 s5 s6 s7 s8 s9 s10 s11 s12 s13 s14 s15 s16 s17 sy l0 l1 l2 h0 h1 h2 ln pl c0 c1 c2 an true x y z R) ⟨trivial, ⟨⟨hp, hc⟩, ho, rfl⟩, ⟨_, rfl⟩, fun m hm => hR m (by rw [hm]; unfold toR; rw [Int.one_mul]; rfl)⟩
end Go.Proofs.YtgnknciihdajiaaDoor
namespace U
open Go Go.HL
def fsP (p : Int) : Int := if p = 18 then 2 else if p = 19 then 1 else 0
def scP (p : Int) : Int := if p = 18 then 0 else if p = 19 then 2 else 1
def at3 (i a b c : Int) : Int := if i = 0 then a else if i = 1 then b else c
def at3b (i : Int) (a b c : Bool) : Bool := if i = 0 then a else if i = 1 then b else c
def wE (a i u : Int) (h : Bool) (n : Int) : Int := if h = true ∧ i ≠ a then lnE n u else 0
def wN (a i u : Int) (h : Bool) (n : Int) : Int := if h = true ∧ i ≠ a then lnN n u else n
def put3 (i j u w k n : Int) : Int := if k = j then w else if k = i then u else n
def mv (d : Int) (h : Bool) (p n : Int) : Int := if h then (if d = 91 then p + n else n) else p
def mI (r : List HC) (k : Nat) : Int := match r[k]? with
  | some (.int _ v) => v
  | _ => 0
structure TgS where
  x : Int
  y : Int
  z : Int
  any : Bool
  e : Int
def tg3 (d : Int) (b0 b1 b2 : Bool) (x y z n0 n1 n2 : Int) : TgS :=
  if wn (mv d b0 x n0) (mv d b1 y n1) (mv d b2 z n2) then ⟨mv d b0 x n0, mv d b1 y n1, mv d b2 z n2, b0 || (b1 || b2), 0⟩ else ⟨0, 0, 0, false, 3⟩
def tg2 (f s a d : Int) (b0 b1 b2 : Bool) (x y z n0 n1 n2 : Int) : TgS :=
  if (decide (0 ≤ a) && (at3b f b0 b1 b2 != at3b s b0 b1 b2)) = true then ⟨0, 0, 0, false, 9⟩
  else if (decide (0 ≤ a) && at3b f b0 b1 b2) = true then
    tg3 d b0 b1 b2 x y z (put3 f s (rtU (at3 f n0 n1 n2) 0 (at3 s n0 n1 n2)) (rtW (at3 f n0 n1 n2) 0 (at3 s n0 n1 n2)) 0 n0)
      (put3 f s (rtU (at3 f n0 n1 n2) 0 (at3 s n0 n1 n2)) (rtW (at3 f n0 n1 n2) 0 (at3 s n0 n1 n2)) 1 n1)
      (put3 f s (rtU (at3 f n0 n1 n2) 0 (at3 s n0 n1 n2)) (rtW (at3 f n0 n1 n2) 0 (at3 s n0 n1 n2)) 2 n2)
  else tg3 d b0 b1 b2 x y z n0 n1 n2
def tg1 (f s a d u : Int) (b0 b1 b2 : Bool) (x y z n0 n1 n2 : Int) : TgS :=
  if wE a 0 u b0 n0 ≠ 0 then ⟨0, 0, 0, false, wE a 0 u b0 n0⟩ else if wE a 1 u b1 n1 ≠ 0 then ⟨0, 0, 0, false, wE a 1 u b1 n1⟩
  else if wE a 2 u b2 n2 ≠ 0 then ⟨0, 0, 0, false, wE a 2 u b2 n2⟩ else tg2 f s a d b0 b1 b2 x y z (wN a 0 u b0 n0) (wN a 1 u b1 n1) (wN a 2 u b2 n2)
def anP (p po : Int) : Int := if po = 16 then scP p else -1
def tgF (p d u po : Int) (l : List (List Int)) (x y z : Int) : TgS :=
  if wn x y z then tg1 (fsP p) (scP p) (anP p po) d u (fndB 88 l) (fndB 89 l) (fndB 90 l) x y z (fndN 88 l) (fndN 89 l) (fndN 90 l) else ⟨0, 0, 0, false, 1⟩
end U
namespace Go.Proofs.YtgnknciihdajiaaDoor
open Go Go.HL U
def SFx (hargs : List HV) (pars : List (List HC)) : SR :=
  match hargs, pars with
  | [.ce (.int .i64 p)], [] => .det True ⟨.tup [.ce (.int .i64 (fsP p)), .ce (.int .i64 (scP p))], false, [], []⟩
  | _, _ => .fail
noncomputable def CFx : Ctx := ⟨Tryd.prog, gam [], Tryd.f46.ntmps, [], []⟩
theorem vcFx (p : Int) (Q : Res → Prop) : (nfun true CFx Tryd.f46 (bodyOf Tryd.f46) [.ce (.int .i64 p)] [] Q) =
    (((p == 18) = true → Q ⟨.tup [.ce (.int .i64 2), .ce (.int .i64 0)], false, [], []⟩) ∧ ((p == 18) = false → ((p == 19) = true → Q ⟨.tup [.ce (.int .i64 1), .ce (.int .i64 2)], false, [], []⟩) ∧ ((p == 19) = false → Q ⟨.tup [.ce (.int .i64 0), .ce (.int .i64 1)], false, [], []⟩))) := by kernel_rfl
def STgt (hargs : List HV) (pars : List (List HC)) : SR :=
  match hargs, pars with
  | [.agg cs, .ce (.sl false [4, 4] l), .agg [.int .i64 x, .int .i64 y, .int .i64 z]], [] => match cs with
    | [.int .i64 m0, .int .i64 m1, .int .i64 m2, .int .i64 m3, .int .i64 m4, .int .i64 m5, .int .i64 m6, .int .i64 m7, .int .i64 m8, .int .i64 m9, .int .i64 m10, .int .i64 m11, .int .i64 m12, .bool m13, .bool m14, .int .i64 m15, .int .i64 m16, .int .i64 m17, .int .i64 m18, .int .i64 m19, .int .i64 m20, .int .i64 m21] => .all (l.length ≤ 1000 ∧ 17 ≤ m1 ∧ m1 ≤ 19) TgS (fun r => r = tgF m1 m2 m3 m10 l x y z)
        (fun r => ⟨.tup [.agg [.int .i64 r.x, .int .i64 r.y, .int .i64 r.z], .ce (.bool r.any), .ce (.int .i64 r.e)], false, [], []⟩)
    | _ => .fail
  | _, _ => .fail
def hT1 : Nat → Bool := fun s => Nat.beq s 31
def anT1 : LAnn := ⟨[1, 3, 5, 6, 7, 8, 9, 10, 30, 31], [3, 5, 6, 7, 8, 9, 10], [1000003, 1000005, 1000006, 1000009], hT1⟩
def LT1 (v : LV) : LR :=
  match v with
  | ([.ce (.sl false [4, 4] l), .ce (.ptr 1000003 0), .ce (.ptr 1000005 0), .ce (.ptr 1000006 0), .ce (.bool t7), .ce (.int .i64 t8), .ce (.ptr 1000009 0), .ce (.bool a), .agg [.int .i64 e0, .int .i64 e1, .int .i64 e2], .ce (.num .i64 i)], [rm, [.int .i64 x, .int .i64 y, .int .i64 z], [.int .i64 r0, .int .i64 r1, .int .i64 r2], [.int .i64 n0, .bool h0, .int .i64 n1, .bool h1, .int .i64 n2, .bool h2]]) =>
    .det (i = 0 ∧ a = false ∧ (e0 = 88 ∧ e1 = 89 ∧ e2 = 90) ∧ l.length ≤ 1000 ∧ ∃ m, rm = cM m) (.exit 0)
      ([.ce (.ptr 1000003 0), .ce (.ptr 1000005 0), .ce (.ptr 1000006 0), .ce (.bool t7), .ce (.int .i64 t8), .ce (.ptr 1000009 0), .ce (.bool (fndB 88 l || (fndB 89 l || fndB 90 l)))], [rm, [.int .i64 x, .int .i64 y, .int .i64 z], [.int .i64 r0, .int .i64 r1, .int .i64 r2], [.int .i64 (fndN 88 l), .bool (fndB 88 l), .int .i64 (fndN 89 l), .bool (fndB 89 l), .int .i64 (fndN 90 l), .bool (fndB 90 l)]])
  | _ => .fail
def hT2 : Nat → Bool := fun s => Nat.beq s 70
def anT2 : LAnn := ⟨[3, 5, 6, 7, 8, 9, 10, 13, 14, 15, 70], [3, 5, 6, 7, 8, 9, 10, 13, 14, 15], [1000003, 1000005, 1000006, 1000009], hT2⟩
def LT2 (v : LV) : LR :=
  match v with
  | ([.ce (.ptr 1000003 0), .ce (.ptr 1000005 0), .ce (.ptr 1000006 0), .ce (.bool t7), .ce (.int .i64 t8), .ce (.ptr 1000009 0), .ce (.bool y0), .ce (.int .i64 f), .ce (.int .i64 s), .ce (.int .i64 a), .ce (.num .i64 i)], [rm, [.int .i64 x, .int .i64 y, .int .i64 z], [.int .i64 r0, .int .i64 r1, .int .i64 r2], [.int .i64 n0, .bool h0, .int .i64 n1, .bool h1, .int .i64 n2, .bool h2]]) =>
    .alts (i = 0 ∧ ∃ m, rm = cM m)
      [(wE a 0 (mI rm 3) h0 n0 ≠ 0, .ret, ([.ce (.ptr 1000003 0), .ce (.ptr 1000005 0), .ce (.ptr 1000006 0), .ce (.bool false), .ce (.int .i64 (wE a 0 (mI rm 3) h0 n0)), .ce (.ptr 1000009 0), .ce (.bool y0), .ce (.int .i64 f), .ce (.int .i64 s), .ce (.int .i64 a)], [rm, [.int .i64 x, .int .i64 y, .int .i64 z], [.int .i64 0, .int .i64 0, .int .i64 0], [.int .i64 n0, .bool h0, .int .i64 n1, .bool h1, .int .i64 n2, .bool h2]])),
       (wE a 0 (mI rm 3) h0 n0 = 0 ∧ wE a 1 (mI rm 3) h1 n1 ≠ 0, .ret, ([.ce (.ptr 1000003 0), .ce (.ptr 1000005 0), .ce (.ptr 1000006 0), .ce (.bool false), .ce (.int .i64 (wE a 1 (mI rm 3) h1 n1)), .ce (.ptr 1000009 0), .ce (.bool y0), .ce (.int .i64 f), .ce (.int .i64 s), .ce (.int .i64 a)], [rm, [.int .i64 x, .int .i64 y, .int .i64 z], [.int .i64 0, .int .i64 0, .int .i64 0], [.int .i64 (wN a 0 (mI rm 3) h0 n0), .bool h0, .int .i64 n1, .bool h1, .int .i64 n2, .bool h2]])),
       (wE a 0 (mI rm 3) h0 n0 = 0 ∧ wE a 1 (mI rm 3) h1 n1 = 0 ∧ wE a 2 (mI rm 3) h2 n2 ≠ 0, .ret, ([.ce (.ptr 1000003 0), .ce (.ptr 1000005 0), .ce (.ptr 1000006 0), .ce (.bool false), .ce (.int .i64 (wE a 2 (mI rm 3) h2 n2)), .ce (.ptr 1000009 0), .ce (.bool y0), .ce (.int .i64 f), .ce (.int .i64 s), .ce (.int .i64 a)], [rm, [.int .i64 x, .int .i64 y, .int .i64 z], [.int .i64 0, .int .i64 0, .int .i64 0], [.int .i64 (wN a 0 (mI rm 3) h0 n0), .bool h0, .int .i64 (wN a 1 (mI rm 3) h1 n1), .bool h1, .int .i64 n2, .bool h2]])),
       (wE a 0 (mI rm 3) h0 n0 = 0 ∧ wE a 1 (mI rm 3) h1 n1 = 0 ∧ wE a 2 (mI rm 3) h2 n2 = 0, .exit 2, ([.ce (.ptr 1000003 0), .ce (.ptr 1000005 0), .ce (.ptr 1000006 0), .ce (.bool t7), .ce (.int .i64 t8), .ce (.ptr 1000009 0), .ce (.bool y0), .ce (.int .i64 f), .ce (.int .i64 s), .ce (.int .i64 a)], [rm, [.int .i64 x, .int .i64 y, .int .i64 z], [.int .i64 r0, .int .i64 r1, .int .i64 r2], [.int .i64 (wN a 0 (mI rm 3) h0 n0), .bool h0, .int .i64 (wN a 1 (mI rm 3) h1 n1), .bool h1, .int .i64 (wN a 2 (mI rm 3) h2 n2), .bool h2]]))]
  | _ => .fail
def anT3 : LAnn := ⟨[3, 5, 6, 7, 8, 9, 10, 13, 14, 15], [3, 5, 6, 7, 8, 9, 10, 13, 14, 15, 114], [1000003, 1000005, 1000006, 1000009], false⟩
def LT3 (v : LV) : LR :=
  match v with
  | ([.ce (.ptr 1000003 0), .ce (.ptr 1000005 0), .ce (.ptr 1000006 0), .ce (.bool t7), .ce (.int .i64 t8), .ce (.ptr 1000009 0), .ce (.bool y0), .ce (.int .i64 f), .ce (.int .i64 s), .ce (.int .i64 a)], [rm, [.int .i64 x, .int .i64 y, .int .i64 z], [.int .i64 r0, .int .i64 r1, .int .i64 r2], [.int .i64 n0, .bool h0, .int .i64 n1, .bool h1, .int .i64 n2, .bool h2]]) =>
    .all ((0 ≤ f ∧ f ≤ 2 ∧ 0 ≤ s ∧ s ≤ 2) ∧ ∃ m, rm = cM m) Bool (fun b => b = (decide (0 ≤ a) && (at3b f h0 h1 h2 != at3b s h0 h1 h2))) (fun _ => .normal)
      (fun b => ([.ce (.ptr 1000003 0), .ce (.ptr 1000005 0), .ce (.ptr 1000006 0), .ce (.bool t7), .ce (.int .i64 t8), .ce (.ptr 1000009 0), .ce (.bool y0), .ce (.int .i64 f), .ce (.int .i64 s), .ce (.int .i64 a), .ce (.bool b)], [rm, [.int .i64 x, .int .i64 y, .int .i64 z], [.int .i64 r0, .int .i64 r1, .int .i64 r2], [.int .i64 n0, .bool h0, .int .i64 n1, .bool h1, .int .i64 n2, .bool h2]]))
  | _ => .fail
def anT4 : LAnn := ⟨[3, 6, 9, 10, 13, 14, 15, 19], [3, 6, 9, 10, 13, 14, 19, 130], [1000003, 1000006, 1000009, 1000019], false⟩
def LT4 (v : LV) : LR :=
  match v with
  | ([.ce (.ptr 1000003 0), .ce (.ptr 1000006 0), .ce (.ptr 1000009 0), .ce (.bool y0), .ce (.int .i64 f), .ce (.int .i64 s), .ce (.int .i64 a), .ce (.ptr 1000019 0)], [rm, [.int .i64 r0, .int .i64 r1, .int .i64 r2], [.int .i64 n0, .bool h0, .int .i64 n1, .bool h1, .int .i64 n2, .bool h2], [.int .i64 x, .int .i64 y, .int .i64 z]]) =>
    .all ((0 ≤ f ∧ f ≤ 2) ∧ ∃ m, rm = cM m) Bool (fun b => b = (decide (0 ≤ a) && at3b f h0 h1 h2)) (fun _ => .normal)
      (fun b => ([.ce (.ptr 1000003 0), .ce (.ptr 1000006 0), .ce (.ptr 1000009 0), .ce (.bool y0), .ce (.int .i64 f), .ce (.int .i64 s), .ce (.ptr 1000019 0), .ce (.bool b)], [rm, [.int .i64 r0, .int .i64 r1, .int .i64 r2], [.int .i64 n0, .bool h0, .int .i64 n1, .bool h1, .int .i64 n2, .bool h2], [.int .i64 x, .int .i64 y, .int .i64 z]]))
  | _ => .fail
def anT5 : LAnn := ⟨[3, 6, 9, 10, 13, 14, 19, 130], [3, 6, 9, 10, 19], [1000003, 1000006, 1000009, 1000019], false⟩
def LT5 (v : LV) : LR :=
  match v with
  | ([.ce (.ptr 1000003 0), .ce (.ptr 1000006 0), .ce (.ptr 1000009 0), .ce (.bool y0), .ce (.int .i64 f), .ce (.int .i64 s), .ce (.ptr 1000019 0), .ce (.bool c)], [rm, [.int .i64 r0, .int .i64 r1, .int .i64 r2], [.int .i64 n0, .bool h0, .int .i64 n1, .bool h1, .int .i64 n2, .bool h2], [.int .i64 x, .int .i64 y, .int .i64 z]]) =>
    .all ((0 ≤ f ∧ f ≤ 2 ∧ 0 ≤ s ∧ s ≤ 2) ∧ ∃ m, rm = cM m) (Int × Int × Int)
      (fun q => (c = false → q.1 = n0 ∧ q.2.1 = n1 ∧ q.2.2 = n2) ∧ (c = true →
        q.1 = put3 f s (rtU (at3 f n0 n1 n2) 0 (at3 s n0 n1 n2)) (rtW (at3 f n0 n1 n2) 0 (at3 s n0 n1 n2)) 0 n0 ∧
        q.2.1 = put3 f s (rtU (at3 f n0 n1 n2) 0 (at3 s n0 n1 n2)) (rtW (at3 f n0 n1 n2) 0 (at3 s n0 n1 n2)) 1 n1 ∧
        q.2.2 = put3 f s (rtU (at3 f n0 n1 n2) 0 (at3 s n0 n1 n2)) (rtW (at3 f n0 n1 n2) 0 (at3 s n0 n1 n2)) 2 n2)) (fun _ => .normal)
      (fun q => ([.ce (.ptr 1000003 0), .ce (.ptr 1000006 0), .ce (.ptr 1000009 0), .ce (.bool y0), .ce (.ptr 1000019 0)], [rm, [.int .i64 r0, .int .i64 r1, .int .i64 r2], [.int .i64 q.1, .bool h0, .int .i64 q.2.1, .bool h1, .int .i64 q.2.2, .bool h2], [.int .i64 x, .int .i64 y, .int .i64 z]]))
  | _ => .fail
def hT6 : Nat → Bool := fun s => Nat.beq s 153
def anT6 : LAnn := ⟨[3, 6, 10, 19, 152, 153], [6, 10, 19], [1000003, 1000006, 1000019], hT6⟩
def bmv (h : Bool) (n : Int) : Prop := h = true → -1099511627776 ≤ n ∧ n ≤ 1099511627776
def LT6 (v : LV) : LR :=
  match v with
  | ([.ce (.ptr 1000003 0), .ce (.ptr 1000006 0), .ce (.bool y0), .ce (.ptr 1000019 0), .agg [.int .i64 n0, .bool h0, .int .i64 n1, .bool h1, .int .i64 n2, .bool h2], .ce (.num .i64 i)], [rm, [.int .i64 r0, .int .i64 r1, .int .i64 r2], [.int .i64 x, .int .i64 y, .int .i64 z]]) =>
    .det (i = 0 ∧ (∃ m, rm = cM m) ∧ B3 1099511627776 x y z ∧ bmv h0 n0 ∧ bmv h1 n1 ∧ bmv h2 n2) (.exit 4)
      ([.ce (.ptr 1000006 0), .ce (.bool y0), .ce (.ptr 1000019 0)], [rm, [.int .i64 r0, .int .i64 r1, .int .i64 r2], [.int .i64 (mv (mI rm 2) h0 x n0), .int .i64 (mv (mI rm 2) h1 y n1), .int .i64 (mv (mI rm 2) h2 z n2)]])
  | _ => .fail
def tabTgt : List (FuncId × HL.Spec) := [(44, SWn), (45, SFind), (46, SFx), (47, SPl), (48, SLen), (49, SRot)]
noncomputable def CTgt : Ctx := ⟨Tryd.prog, gam tabTgt, Tryd.f17.ntmps, [(6, anT1, LT1), (16, anT2, LT2), (3000024, anT3, LT3), (3000027, anT4, LT4), (2000028, anT5, LT5), (31, anT6, LT6)], [spl 24 13 3 0, spl 24 14 3 0, spl 27 13 3 0, spl 28 13 3 0, spl 28 14 3 0]⟩
theorem vbT10 (l : List (List Int)) (m : M) (t7 a h0 h1 h2 : Bool) (t8 e0 e1 e2 x y z r0 r1 r2 n0 n1 n2 : Int) (K : HEx → LV → Prop) : (nbodyT true CTgt anT1 (nthLoop Tryd.f17 0) (([.ce (.sl false [4, 4] l), .ce (.ptr 1000003 0), .ce (.ptr 1000005 0), .ce (.ptr 1000006 0), .ce (.bool t7), .ce (.int .i64 t8), .ce (.ptr 1000009 0), .ce (.bool a), .agg [.int .i64 e0, .int .i64 e1, .int .i64 e2], .ce (.num .i64 0)], [[.int .i64 m.m0, .int .i64 m.m1, .int .i64 m.m2, .int .i64 m.m3, .int .i64 m.m4, .int .i64 m.m5, .int .i64 m.m6, .int .i64 m.m7, .int .i64 m.m8, .int .i64 m.m9, .int .i64 m.m10, .int .i64 m.m11, .int .i64 m.m12, .bool m.m13, .bool m.m14, .int .i64 m.m15, .int .i64 m.m16, .int .i64 m.m17, .int .i64 m.m18, .int .i64 m.m19, .int .i64 m.m20, .int .i64 m.m21], [.int .i64 x, .int .i64 y, .int .i64 z], [.int .i64 r0, .int .i64 r1, .int .i64 r2], [.int .i64 n0, .bool h0, .int .i64 n1, .bool h1, .int .i64 n2, .bool h2]])) K) =
    (List.length l ≤ (1000 : Nat) ∧ ∀ (x1 : Int), x1 = fndN e0 l → ∀ (x2 : Bool), x2 = fndB e0 l → (a = true → K .normal ([.ce (.sl false [4, 4] l), .ce (.ptr 1000003 0), .ce (.ptr 1000005 0), .ce (.ptr 1000006 0), .ce (.bool t7), .ce (.int .i64 t8), .ce (.ptr 1000009 0), .ce (.bool true), .agg [.int .i64 e0, .int .i64 e1, .int .i64 e2], .ce (.num .i64 (1 : Int))], [(cM m), [.int .i64 x, .int .i64 y, .int .i64 z], [.int .i64 r0, .int .i64 r1, .int .i64 r2], [.int .i64 x1, .bool x2, .int .i64 n1, .bool h1, .int .i64 n2, .bool h2]])) ∧ (a = false → K .normal ([.ce (.sl false [4, 4] l), .ce (.ptr 1000003 0), .ce (.ptr 1000005 0), .ce (.ptr 1000006 0), .ce (.bool t7), .ce (.int .i64 t8), .ce (.ptr 1000009 0), .ce (.bool x2), .agg [.int .i64 e0, .int .i64 e1, .int .i64 e2], .ce (.num .i64 (1 : Int))], [(cM m), [.int .i64 x, .int .i64 y, .int .i64 z], [.int .i64 r0, .int .i64 r1, .int .i64 r2], [.int .i64 x1, .bool x2, .int .i64 n1, .bool h1, .int .i64 n2, .bool h2]]))) := by kernel_rfl
theorem vbT11 (l : List (List Int)) (m : M) (t7 a h0 h1 h2 : Bool) (t8 e0 e1 e2 x y z r0 r1 r2 n0 n1 n2 : Int) (K : HEx → LV → Prop) : (nbodyT true CTgt anT1 (nthLoop Tryd.f17 0) (([.ce (.sl false [4, 4] l), .ce (.ptr 1000003 0), .ce (.ptr 1000005 0), .ce (.ptr 1000006 0), .ce (.bool t7), .ce (.int .i64 t8), .ce (.ptr 1000009 0), .ce (.bool a), .agg [.int .i64 e0, .int .i64 e1, .int .i64 e2], .ce (.num .i64 1)], [[.int .i64 m.m0, .int .i64 m.m1, .int .i64 m.m2, .int .i64 m.m3, .int .i64 m.m4, .int .i64 m.m5, .int .i64 m.m6, .int .i64 m.m7, .int .i64 m.m8, .int .i64 m.m9, .int .i64 m.m10, .int .i64 m.m11, .int .i64 m.m12, .bool m.m13, .bool m.m14, .int .i64 m.m15, .int .i64 m.m16, .int .i64 m.m17, .int .i64 m.m18, .int .i64 m.m19, .int .i64 m.m20, .int .i64 m.m21], [.int .i64 x, .int .i64 y, .int .i64 z], [.int .i64 r0, .int .i64 r1, .int .i64 r2], [.int .i64 n0, .bool h0, .int .i64 n1, .bool h1, .int .i64 n2, .bool h2]])) K) =
    (List.length l ≤ (1000 : Nat) ∧ ∀ (x1 : Int), x1 = fndN e1 l → ∀ (x2 : Bool), x2 = fndB e1 l → (a = true → K .normal ([.ce (.sl false [4, 4] l), .ce (.ptr 1000003 0), .ce (.ptr 1000005 0), .ce (.ptr 1000006 0), .ce (.bool t7), .ce (.int .i64 t8), .ce (.ptr 1000009 0), .ce (.bool true), .agg [.int .i64 e0, .int .i64 e1, .int .i64 e2], .ce (.num .i64 (2 : Int))], [(cM m), [.int .i64 x, .int .i64 y, .int .i64 z], [.int .i64 r0, .int .i64 r1, .int .i64 r2], [.int .i64 n0, .bool h0, .int .i64 x1, .bool x2, .int .i64 n2, .bool h2]])) ∧ (a = false → K .normal ([.ce (.sl false [4, 4] l), .ce (.ptr 1000003 0), .ce (.ptr 1000005 0), .ce (.ptr 1000006 0), .ce (.bool t7), .ce (.int .i64 t8), .ce (.ptr 1000009 0), .ce (.bool x2), .agg [.int .i64 e0, .int .i64 e1, .int .i64 e2], .ce (.num .i64 (2 : Int))], [(cM m), [.int .i64 x, .int .i64 y, .int .i64 z], [.int .i64 r0, .int .i64 r1, .int .i64 r2], [.int .i64 n0, .bool h0, .int .i64 x1, .bool x2, .int .i64 n2, .bool h2]]))) := by kernel_rfl
theorem vbT12 (l : List (List Int)) (m : M) (t7 a h0 h1 h2 : Bool) (t8 e0 e1 e2 x y z r0 r1 r2 n0 n1 n2 : Int) (K : HEx → LV → Prop) : (nbodyT true CTgt anT1 (nthLoop Tryd.f17 0) (([.ce (.sl false [4, 4] l), .ce (.ptr 1000003 0), .ce (.ptr 1000005 0), .ce (.ptr 1000006 0), .ce (.bool t7), .ce (.int .i64 t8), .ce (.ptr 1000009 0), .ce (.bool a), .agg [.int .i64 e0, .int .i64 e1, .int .i64 e2], .ce (.num .i64 2)], [[.int .i64 m.m0, .int .i64 m.m1, .int .i64 m.m2, .int .i64 m.m3, .int .i64 m.m4, .int .i64 m.m5, .int .i64 m.m6, .int .i64 m.m7, .int .i64 m.m8, .int .i64 m.m9, .int .i64 m.m10, .int .i64 m.m11, .int .i64 m.m12, .bool m.m13, .bool m.m14, .int .i64 m.m15, .int .i64 m.m16, .int .i64 m.m17, .int .i64 m.m18, .int .i64 m.m19, .int .i64 m.m20, .int .i64 m.m21], [.int .i64 x, .int .i64 y, .int .i64 z], [.int .i64 r0, .int .i64 r1, .int .i64 r2], [.int .i64 n0, .bool h0, .int .i64 n1, .bool h1, .int .i64 n2, .bool h2]])) K) =
    (List.length l ≤ (1000 : Nat) ∧ ∀ (x1 : Int), x1 = fndN e2 l → ∀ (x2 : Bool), x2 = fndB e2 l → (a = true → K .normal ([.ce (.sl false [4, 4] l), .ce (.ptr 1000003 0), .ce (.ptr 1000005 0), .ce (.ptr 1000006 0), .ce (.bool t7), .ce (.int .i64 t8), .ce (.ptr 1000009 0), .ce (.bool true), .agg [.int .i64 e0, .int .i64 e1, .int .i64 e2], .ce (.num .i64 (3 : Int))], [(cM m), [.int .i64 x, .int .i64 y, .int .i64 z], [.int .i64 r0, .int .i64 r1, .int .i64 r2], [.int .i64 n0, .bool h0, .int .i64 n1, .bool h1, .int .i64 x1, .bool x2]])) ∧ (a = false → K .normal ([.ce (.sl false [4, 4] l), .ce (.ptr 1000003 0), .ce (.ptr 1000005 0), .ce (.ptr 1000006 0), .ce (.bool t7), .ce (.int .i64 t8), .ce (.ptr 1000009 0), .ce (.bool x2), .agg [.int .i64 e0, .int .i64 e1, .int .i64 e2], .ce (.num .i64 (3 : Int))], [(cM m), [.int .i64 x, .int .i64 y, .int .i64 z], [.int .i64 r0, .int .i64 r1, .int .i64 r2], [.int .i64 n0, .bool h0, .int .i64 n1, .bool h1, .int .i64 x1, .bool x2]]))) := by kernel_rfl
theorem vbT13 (l : List (List Int)) (m : M) (t7 a h0 h1 h2 : Bool) (t8 e0 e1 e2 x y z r0 r1 r2 n0 n1 n2 : Int) (K : HEx → LV → Prop) : (nbodyT true CTgt anT1 (nthLoop Tryd.f17 0) (([.ce (.sl false [4, 4] l), .ce (.ptr 1000003 0), .ce (.ptr 1000005 0), .ce (.ptr 1000006 0), .ce (.bool t7), .ce (.int .i64 t8), .ce (.ptr 1000009 0), .ce (.bool a), .agg [.int .i64 e0, .int .i64 e1, .int .i64 e2], .ce (.num .i64 3)], [[.int .i64 m.m0, .int .i64 m.m1, .int .i64 m.m2, .int .i64 m.m3, .int .i64 m.m4, .int .i64 m.m5, .int .i64 m.m6, .int .i64 m.m7, .int .i64 m.m8, .int .i64 m.m9, .int .i64 m.m10, .int .i64 m.m11, .int .i64 m.m12, .bool m.m13, .bool m.m14, .int .i64 m.m15, .int .i64 m.m16, .int .i64 m.m17, .int .i64 m.m18, .int .i64 m.m19, .int .i64 m.m20, .int .i64 m.m21], [.int .i64 x, .int .i64 y, .int .i64 z], [.int .i64 r0, .int .i64 r1, .int .i64 r2], [.int .i64 n0, .bool h0, .int .i64 n1, .bool h1, .int .i64 n2, .bool h2]])) K) =
    (K (.exit 0) ([.ce (.ptr 1000003 0), .ce (.ptr 1000005 0), .ce (.ptr 1000006 0), .ce (.bool t7), .ce (.int .i64 t8), .ce (.ptr 1000009 0), .ce (.bool a)], [(cM m), [.int .i64 x, .int .i64 y, .int .i64 z], [.int .i64 r0, .int .i64 r1, .int .i64 r2], [.int .i64 n0, .bool h0, .int .i64 n1, .bool h1, .int .i64 n2, .bool h2]])) := by kernel_rfl
theorem vbT20 (m : M) (t7 y0 h0 h1 h2 : Bool) (t8 f s a x y z r0 r1 r2 n0 n1 n2 : Int) (K : HEx → LV → Prop) : (nbodyT true CTgt anT2 (nthLoop Tryd.f17 1) (([.ce (.ptr 1000003 0), .ce (.ptr 1000005 0), .ce (.ptr 1000006 0), .ce (.bool t7), .ce (.int .i64 t8), .ce (.ptr 1000009 0), .ce (.bool y0), .ce (.int .i64 f), .ce (.int .i64 s), .ce (.int .i64 a), .ce (.num .i64 0)], [[.int .i64 m.m0, .int .i64 m.m1, .int .i64 m.m2, .int .i64 m.m3, .int .i64 m.m4, .int .i64 m.m5, .int .i64 m.m6, .int .i64 m.m7, .int .i64 m.m8, .int .i64 m.m9, .int .i64 m.m10, .int .i64 m.m11, .int .i64 m.m12, .bool m.m13, .bool m.m14, .int .i64 m.m15, .int .i64 m.m16, .int .i64 m.m17, .int .i64 m.m18, .int .i64 m.m19, .int .i64 m.m20, .int .i64 m.m21], [.int .i64 x, .int .i64 y, .int .i64 z], [.int .i64 r0, .int .i64 r1, .int .i64 r2], [.int .i64 n0, .bool h0, .int .i64 n1, .bool h1, .int .i64 n2, .bool h2]])) K) =
    (((!h0) = true → K .normal ([.ce (.ptr 1000003 0), .ce (.ptr 1000005 0), .ce (.ptr 1000006 0), .ce (.bool t7), .ce (.int .i64 t8), .ce (.ptr 1000009 0), .ce (.bool y0), .ce (.int .i64 f), .ce (.int .i64 s), .ce (.int .i64 a), .ce (.num .i64 (1 : Int))], [(cM m), [.int .i64 x, .int .i64 y, .int .i64 z], [.int .i64 r0, .int .i64 r1, .int .i64 r2], [.int .i64 n0, .bool h0, .int .i64 n1, .bool h1, .int .i64 n2, .bool h2]])) ∧ ((!h0) = false → (((0 : Int) == a) = true → K .normal ([.ce (.ptr 1000003 0), .ce (.ptr 1000005 0), .ce (.ptr 1000006 0), .ce (.bool t7), .ce (.int .i64 t8), .ce (.ptr 1000009 0), .ce (.bool y0), .ce (.int .i64 f), .ce (.int .i64 s), .ce (.int .i64 a), .ce (.num .i64 (1 : Int))], [(cM m), [.int .i64 x, .int .i64 y, .int .i64 z], [.int .i64 r0, .int .i64 r1, .int .i64 r2], [.int .i64 n0, .bool h0, .int .i64 n1, .bool h1, .int .i64 n2, .bool h2]])) ∧
    (((0 : Int) == a) = false → True ∧ ∀ (x1 : Int), x1 = lnN n0 m.m3 → ∀ (x2 : Int), x2 = lnE n0 m.m3 → ((x2 != 0) = true → K .ret ([.ce (.ptr 1000003 0), .ce (.ptr 1000005 0), .ce (.ptr 1000006 0), .ce (.bool false), .ce (.int .i64 x2), .ce (.ptr 1000009 0), .ce (.bool y0), .ce (.int .i64 f), .ce (.int .i64 s), .ce (.int .i64 a)], [(cM m), [.int .i64 x, .int .i64 y, .int .i64 z], [.int .i64 0, .int .i64 0, .int .i64 0], [.int .i64 n0, .bool h0, .int .i64 n1, .bool h1, .int .i64 n2, .bool h2]])) ∧ ((x2 != 0) = false → K .normal ([.ce (.ptr 1000003 0), .ce (.ptr 1000005 0), .ce (.ptr 1000006 0), .ce (.bool t7), .ce (.int .i64 t8), .ce (.ptr 1000009 0), .ce (.bool y0), .ce (.int .i64 f), .ce (.int .i64 s), .ce (.int .i64 a), .ce (.num .i64 (1 : Int))], [(cM m), [.int .i64 x, .int .i64 y, .int .i64 z], [.int .i64 r0, .int .i64 r1, .int .i64 r2], [.int .i64 x1, .bool h0, .int .i64 n1, .bool h1, .int .i64 n2, .bool h2]]))))) := by kernel_rfl
theorem vbT21 (m : M) (t7 y0 h0 h1 h2 : Bool) (t8 f s a x y z r0 r1 r2 n0 n1 n2 : Int) (K : HEx → LV → Prop) : (nbodyT true CTgt anT2 (nthLoop Tryd.f17 1) (([.ce (.ptr 1000003 0), .ce (.ptr 1000005 0), .ce (.ptr 1000006 0), .ce (.bool t7), .ce (.int .i64 t8), .ce (.ptr 1000009 0), .ce (.bool y0), .ce (.int .i64 f), .ce (.int .i64 s), .ce (.int .i64 a), .ce (.num .i64 1)], [[.int .i64 m.m0, .int .i64 m.m1, .int .i64 m.m2, .int .i64 m.m3, .int .i64 m.m4, .int .i64 m.m5, .int .i64 m.m6, .int .i64 m.m7, .int .i64 m.m8, .int .i64 m.m9, .int .i64 m.m10, .int .i64 m.m11, .int .i64 m.m12, .bool m.m13, .bool m.m14, .int .i64 m.m15, .int .i64 m.m16, .int .i64 m.m17, .int .i64 m.m18, .int .i64 m.m19, .int .i64 m.m20, .int .i64 m.m21], [.int .i64 x, .int .i64 y, .int .i64 z], [.int .i64 r0, .int .i64 r1, .int .i64 r2], [.int .i64 n0, .bool h0, .int .i64 n1, .bool h1, .int .i64 n2, .bool h2]])) K) =
    (((!h1) = true → K .normal ([.ce (.ptr 1000003 0), .ce (.ptr 1000005 0), .ce (.ptr 1000006 0), .ce (.bool t7), .ce (.int .i64 t8), .ce (.ptr 1000009 0), .ce (.bool y0), .ce (.int .i64 f), .ce (.int .i64 s), .ce (.int .i64 a), .ce (.num .i64 (2 : Int))], [(cM m), [.int .i64 x, .int .i64 y, .int .i64 z], [.int .i64 r0, .int .i64 r1, .int .i64 r2], [.int .i64 n0, .bool h0, .int .i64 n1, .bool h1, .int .i64 n2, .bool h2]])) ∧ ((!h1) = false → (((1 : Int) == a) = true → K .normal ([.ce (.ptr 1000003 0), .ce (.ptr 1000005 0), .ce (.ptr 1000006 0), .ce (.bool t7), .ce (.int .i64 t8), .ce (.ptr 1000009 0), .ce (.bool y0), .ce (.int .i64 f), .ce (.int .i64 s), .ce (.int .i64 a), .ce (.num .i64 (2 : Int))], [(cM m), [.int .i64 x, .int .i64 y, .int .i64 z], [.int .i64 r0, .int .i64 r1, .int .i64 r2], [.int .i64 n0, .bool h0, .int .i64 n1, .bool h1, .int .i64 n2, .bool h2]])) ∧
    (((1 : Int) == a) = false → True ∧ ∀ (x1 : Int), x1 = lnN n1 m.m3 → ∀ (x2 : Int), x2 = lnE n1 m.m3 → ((x2 != 0) = true → K .ret ([.ce (.ptr 1000003 0), .ce (.ptr 1000005 0), .ce (.ptr 1000006 0), .ce (.bool false), .ce (.int .i64 x2), .ce (.ptr 1000009 0), .ce (.bool y0), .ce (.int .i64 f), .ce (.int .i64 s), .ce (.int .i64 a)], [(cM m), [.int .i64 x, .int .i64 y, .int .i64 z], [.int .i64 0, .int .i64 0, .int .i64 0], [.int .i64 n0, .bool h0, .int .i64 n1, .bool h1, .int .i64 n2, .bool h2]])) ∧ ((x2 != 0) = false → K .normal ([.ce (.ptr 1000003 0), .ce (.ptr 1000005 0), .ce (.ptr 1000006 0), .ce (.bool t7), .ce (.int .i64 t8), .ce (.ptr 1000009 0), .ce (.bool y0), .ce (.int .i64 f), .ce (.int .i64 s), .ce (.int .i64 a), .ce (.num .i64 (2 : Int))], [(cM m), [.int .i64 x, .int .i64 y, .int .i64 z], [.int .i64 r0, .int .i64 r1, .int .i64 r2], [.int .i64 n0, .bool h0, .int .i64 x1, .bool h1, .int .i64 n2, .bool h2]]))))) := by kernel_rfl
theorem vbT22 (m : M) (t7 y0 h0 h1 h2 : Bool) (t8 f s a x y z r0 r1 r2 n0 n1 n2 : Int) (K : HEx → LV → Prop) : (nbodyT true CTgt anT2 (nthLoop Tryd.f17 1) (([.ce (.ptr 1000003 0), .ce (.ptr 1000005 0), .ce (.ptr 1000006 0), .ce (.bool t7), .ce (.int .i64 t8), .ce (.ptr 1000009 0), .ce (.bool y0), .ce (.int .i64 f), .ce (.int .i64 s), .ce (.int .i64 a), .ce (.num .i64 2)], [[.int .i64 m.m0, .int .i64 m.m1, .int .i64 m.m2, .int .i64 m.m3, .int .i64 m.m4, .int .i64 m.m5, .int .i64 m.m6, .int .i64 m.m7, .int .i64 m.m8, .int .i64 m.m9, .int .i64 m.m10, .int .i64 m.m11, .int .i64 m.m12, .bool m.m13, .bool m.m14, .int .i64 m.m15, .int .i64 m.m16, .int .i64 m.m17, .int .i64 m.m18, .int .i64 m.m19, .int .i64 m.m20, .int .i64 m.m21], [.int .i64 x, .int .i64 y, .int .i64 z], [.int .i64 r0, .int .i64 r1, .int .i64 r2], [.int .i64 n0, .bool h0, .int .i64 n1, .bool h1, .int .i64 n2, .bool h2]])) K) =
    (((!h2) = true → K .normal ([.ce (.ptr 1000003 0), .ce (.ptr 1000005 0), .ce (.ptr 1000006 0), .ce (.bool t7), .ce (.int .i64 t8), .ce (.ptr 1000009 0), .ce (.bool y0), .ce (.int .i64 f), .ce (.int .i64 s), .ce (.int .i64 a), .ce (.num .i64 (3 : Int))], [(cM m), [.int .i64 x, .int .i64 y, .int .i64 z], [.int .i64 r0, .int .i64 r1, .int .i64 r2], [.int .i64 n0, .bool h0, .int .i64 n1, .bool h1, .int .i64 n2, .bool h2]])) ∧ ((!h2) = false → (((2 : Int) == a) = true → K .normal ([.ce (.ptr 1000003 0), .ce (.ptr 1000005 0), .ce (.ptr 1000006 0), .ce (.bool t7), .ce (.int .i64 t8), .ce (.ptr 1000009 0), .ce (.bool y0), .ce (.int .i64 f), .ce (.int .i64 s), .ce (.int .i64 a), .ce (.num .i64 (3 : Int))], [(cM m), [.int .i64 x, .int .i64 y, .int .i64 z], [.int .i64 r0, .int .i64 r1, .int .i64 r2], [.int .i64 n0, .bool h0, .int .i64 n1, .bool h1, .int .i64 n2, .bool h2]])) ∧
    (((2 : Int) == a) = false → True ∧ ∀ (x1 : Int), x1 = lnN n2 m.m3 → ∀ (x2 : Int), x2 = lnE n2 m.m3 → ((x2 != 0) = true → K .ret ([.ce (.ptr 1000003 0), .ce (.ptr 1000005 0), .ce (.ptr 1000006 0), .ce (.bool false), .ce (.int .i64 x2), .ce (.ptr 1000009 0), .ce (.bool y0), .ce (.int .i64 f), .ce (.int .i64 s), .ce (.int .i64 a)], [(cM m), [.int .i64 x, .int .i64 y, .int .i64 z], [.int .i64 0, .int .i64 0, .int .i64 0], [.int .i64 n0, .bool h0, .int .i64 n1, .bool h1, .int .i64 n2, .bool h2]])) ∧ ((x2 != 0) = false → K .normal ([.ce (.ptr 1000003 0), .ce (.ptr 1000005 0), .ce (.ptr 1000006 0), .ce (.bool t7), .ce (.int .i64 t8), .ce (.ptr 1000009 0), .ce (.bool y0), .ce (.int .i64 f), .ce (.int .i64 s), .ce (.int .i64 a), .ce (.num .i64 (3 : Int))], [(cM m), [.int .i64 x, .int .i64 y, .int .i64 z], [.int .i64 r0, .int .i64 r1, .int .i64 r2], [.int .i64 n0, .bool h0, .int .i64 n1, .bool h1, .int .i64 x1, .bool h2]]))))) := by kernel_rfl
theorem vbT23 (m : M) (t7 y0 h0 h1 h2 : Bool) (t8 f s a x y z r0 r1 r2 n0 n1 n2 : Int) (K : HEx → LV → Prop) : (nbodyT true CTgt anT2 (nthLoop Tryd.f17 1) (([.ce (.ptr 1000003 0), .ce (.ptr 1000005 0), .ce (.ptr 1000006 0), .ce (.bool t7), .ce (.int .i64 t8), .ce (.ptr 1000009 0), .ce (.bool y0), .ce (.int .i64 f), .ce (.int .i64 s), .ce (.int .i64 a), .ce (.num .i64 3)], [[.int .i64 m.m0, .int .i64 m.m1, .int .i64 m.m2, .int .i64 m.m3, .int .i64 m.m4, .int .i64 m.m5, .int .i64 m.m6, .int .i64 m.m7, .int .i64 m.m8, .int .i64 m.m9, .int .i64 m.m10, .int .i64 m.m11, .int .i64 m.m12, .bool m.m13, .bool m.m14, .int .i64 m.m15, .int .i64 m.m16, .int .i64 m.m17, .int .i64 m.m18, .int .i64 m.m19, .int .i64 m.m20, .int .i64 m.m21], [.int .i64 x, .int .i64 y, .int .i64 z], [.int .i64 r0, .int .i64 r1, .int .i64 r2], [.int .i64 n0, .bool h0, .int .i64 n1, .bool h1, .int .i64 n2, .bool h2]])) K) =
    (K (.exit 2) ([.ce (.ptr 1000003 0), .ce (.ptr 1000005 0), .ce (.ptr 1000006 0), .ce (.bool t7), .ce (.int .i64 t8), .ce (.ptr 1000009 0), .ce (.bool y0), .ce (.int .i64 f), .ce (.int .i64 s), .ce (.int .i64 a)], [(cM m), [.int .i64 x, .int .i64 y, .int .i64 z], [.int .i64 r0, .int .i64 r1, .int .i64 r2], [.int .i64 n0, .bool h0, .int .i64 n1, .bool h1, .int .i64 n2, .bool h2]])) := by kernel_rfl
theorem vbT60 (m : M) (y0 h0 h1 h2 : Bool) (x y z r0 r1 r2 n0 n1 n2 : Int) (K : HEx → LV → Prop) : (nbodyT true CTgt anT6 (nthLoop Tryd.f17 2) (([.ce (.ptr 1000003 0), .ce (.ptr 1000006 0), .ce (.bool y0), .ce (.ptr 1000019 0), .agg [.int .i64 n0, .bool h0, .int .i64 n1, .bool h1, .int .i64 n2, .bool h2], .ce (.num .i64 0)], [[.int .i64 m.m0, .int .i64 m.m1, .int .i64 m.m2, .int .i64 m.m3, .int .i64 m.m4, .int .i64 m.m5, .int .i64 m.m6, .int .i64 m.m7, .int .i64 m.m8, .int .i64 m.m9, .int .i64 m.m10, .int .i64 m.m11, .int .i64 m.m12, .bool m.m13, .bool m.m14, .int .i64 m.m15, .int .i64 m.m16, .int .i64 m.m17, .int .i64 m.m18, .int .i64 m.m19, .int .i64 m.m20, .int .i64 m.m21], [.int .i64 r0, .int .i64 r1, .int .i64 r2], [.int .i64 x, .int .i64 y, .int .i64 z]])) K) =
    ((h0 = true → ((m.m2 == 91) = true → (-9223372036854775808 ≤ x + n0 ∧ x + n0 ≤ 9223372036854775807) ∧ ∀ (x1 : Int), x1 = x + n0 → K .normal ([.ce (.ptr 1000003 0), .ce (.ptr 1000006 0), .ce (.bool y0), .ce (.ptr 1000019 0), .agg [.int .i64 n0, .bool h0, .int .i64 n1, .bool h1, .int .i64 n2, .bool h2], .ce (.num .i64 (1 : Int))], [(cM m), [.int .i64 r0, .int .i64 r1, .int .i64 r2], [.int .i64 x1, .int .i64 y, .int .i64 z]])) ∧ ((m.m2 == 91) = false → (h0 = true → K .normal ([.ce (.ptr 1000003 0), .ce (.ptr 1000006 0), .ce (.bool y0), .ce (.ptr 1000019 0), .agg [.int .i64 n0, .bool h0, .int .i64 n1, .bool h1, .int .i64 n2, .bool h2], .ce (.num .i64 (1 : Int))], [(cM m), [.int .i64 r0, .int .i64 r1, .int .i64 r2], [.int .i64 n0, .int .i64 y, .int .i64 z]])) ∧
    (h0 = false → K .normal ([.ce (.ptr 1000003 0), .ce (.ptr 1000006 0), .ce (.bool y0), .ce (.ptr 1000019 0), .agg [.int .i64 n0, .bool h0, .int .i64 n1, .bool h1, .int .i64 n2, .bool h2], .ce (.num .i64 (1 : Int))], [(cM m), [.int .i64 r0, .int .i64 r1, .int .i64 r2], [.int .i64 x, .int .i64 y, .int .i64 z]])))) ∧ (h0 = false → (h0 = true → K .normal ([.ce (.ptr 1000003 0), .ce (.ptr 1000006 0), .ce (.bool y0), .ce (.ptr 1000019 0), .agg [.int .i64 n0, .bool h0, .int .i64 n1, .bool h1, .int .i64 n2, .bool h2], .ce (.num .i64 (1 : Int))], [(cM m), [.int .i64 r0, .int .i64 r1, .int .i64 r2], [.int .i64 n0, .int .i64 y, .int .i64 z]])) ∧
    (h0 = false → K .normal ([.ce (.ptr 1000003 0), .ce (.ptr 1000006 0), .ce (.bool y0), .ce (.ptr 1000019 0), .agg [.int .i64 n0, .bool h0, .int .i64 n1, .bool h1, .int .i64 n2, .bool h2], .ce (.num .i64 (1 : Int))], [(cM m), [.int .i64 r0, .int .i64 r1, .int .i64 r2], [.int .i64 x, .int .i64 y, .int .i64 z]])))) := by kernel_rfl
theorem vbT61 (m : M) (y0 h0 h1 h2 : Bool) (x y z r0 r1 r2 n0 n1 n2 : Int) (K : HEx → LV → Prop) : (nbodyT true CTgt anT6 (nthLoop Tryd.f17 2) (([.ce (.ptr 1000003 0), .ce (.ptr 1000006 0), .ce (.bool y0), .ce (.ptr 1000019 0), .agg [.int .i64 n0, .bool h0, .int .i64 n1, .bool h1, .int .i64 n2, .bool h2], .ce (.num .i64 1)], [[.int .i64 m.m0, .int .i64 m.m1, .int .i64 m.m2, .int .i64 m.m3, .int .i64 m.m4, .int .i64 m.m5, .int .i64 m.m6, .int .i64 m.m7, .int .i64 m.m8, .int .i64 m.m9, .int .i64 m.m10, .int .i64 m.m11, .int .i64 m.m12, .bool m.m13, .bool m.m14, .int .i64 m.m15, .int .i64 m.m16, .int .i64 m.m17, .int .i64 m.m18, .int .i64 m.m19, .int .i64 m.m20, .int .i64 m.m21], [.int .i64 r0, .int .i64 r1, .int .i64 r2], [.int .i64 x, .int .i64 y, .int .i64 z]])) K) =
    ((h1 = true → ((m.m2 == 91) = true → (-9223372036854775808 ≤ y + n1 ∧ y + n1 ≤ 9223372036854775807) ∧ ∀ (x1 : Int), x1 = y + n1 → K .normal ([.ce (.ptr 1000003 0), .ce (.ptr 1000006 0), .ce (.bool y0), .ce (.ptr 1000019 0), .agg [.int .i64 n0, .bool h0, .int .i64 n1, .bool h1, .int .i64 n2, .bool h2], .ce (.num .i64 (2 : Int))], [(cM m), [.int .i64 r0, .int .i64 r1, .int .i64 r2], [.int .i64 x, .int .i64 x1, .int .i64 z]])) ∧ ((m.m2 == 91) = false → (h1 = true → K .normal ([.ce (.ptr 1000003 0), .ce (.ptr 1000006 0), .ce (.bool y0), .ce (.ptr 1000019 0), .agg [.int .i64 n0, .bool h0, .int .i64 n1, .bool h1, .int .i64 n2, .bool h2], .ce (.num .i64 (2 : Int))], [(cM m), [.int .i64 r0, .int .i64 r1, .int .i64 r2], [.int .i64 x, .int .i64 n1, .int .i64 z]])) ∧
    (h1 = false → K .normal ([.ce (.ptr 1000003 0), .ce (.ptr 1000006 0), .ce (.bool y0), .ce (.ptr 1000019 0), .agg [.int .i64 n0, .bool h0, .int .i64 n1, .bool h1, .int .i64 n2, .bool h2], .ce (.num .i64 (2 : Int))], [(cM m), [.int .i64 r0, .int .i64 r1, .int .i64 r2], [.int .i64 x, .int .i64 y, .int .i64 z]])))) ∧ (h1 = false → (h1 = true → K .normal ([.ce (.ptr 1000003 0), .ce (.ptr 1000006 0), .ce (.bool y0), .ce (.ptr 1000019 0), .agg [.int .i64 n0, .bool h0, .int .i64 n1, .bool h1, .int .i64 n2, .bool h2], .ce (.num .i64 (2 : Int))], [(cM m), [.int .i64 r0, .int .i64 r1, .int .i64 r2], [.int .i64 x, .int .i64 n1, .int .i64 z]])) ∧
    (h1 = false → K .normal ([.ce (.ptr 1000003 0), .ce (.ptr 1000006 0), .ce (.bool y0), .ce (.ptr 1000019 0), .agg [.int .i64 n0, .bool h0, .int .i64 n1, .bool h1, .int .i64 n2, .bool h2], .ce (.num .i64 (2 : Int))], [(cM m), [.int .i64 r0, .int .i64 r1, .int .i64 r2], [.int .i64 x, .int .i64 y, .int .i64 z]])))) := by kernel_rfl
theorem vbT62 (m : M) (y0 h0 h1 h2 : Bool) (x y z r0 r1 r2 n0 n1 n2 : Int) (K : HEx → LV → Prop) : (nbodyT true CTgt anT6 (nthLoop Tryd.f17 2) (([.ce (.ptr 1000003 0), .ce (.ptr 1000006 0), .ce (.bool y0), .ce (.ptr 1000019 0), .agg [.int .i64 n0, .bool h0, .int .i64 n1, .bool h1, .int .i64 n2, .bool h2], .ce (.num .i64 2)], [[.int .i64 m.m0, .int .i64 m.m1, .int .i64 m.m2, .int .i64 m.m3, .int .i64 m.m4, .int .i64 m.m5, .int .i64 m.m6, .int .i64 m.m7, .int .i64 m.m8, .int .i64 m.m9, .int .i64 m.m10, .int .i64 m.m11, .int .i64 m.m12, .bool m.m13, .bool m.m14, .int .i64 m.m15, .int .i64 m.m16, .int .i64 m.m17, .int .i64 m.m18, .int .i64 m.m19, .int .i64 m.m20, .int .i64 m.m21], [.int .i64 r0, .int .i64 r1, .int .i64 r2], [.int .i64 x, .int .i64 y, .int .i64 z]])) K) =
    ((h2 = true → ((m.m2 == 91) = true → (-9223372036854775808 ≤ z + n2 ∧ z + n2 ≤ 9223372036854775807) ∧ ∀ (x1 : Int), x1 = z + n2 → K .normal ([.ce (.ptr 1000003 0), .ce (.ptr 1000006 0), .ce (.bool y0), .ce (.ptr 1000019 0), .agg [.int .i64 n0, .bool h0, .int .i64 n1, .bool h1, .int .i64 n2, .bool h2], .ce (.num .i64 (3 : Int))], [(cM m), [.int .i64 r0, .int .i64 r1, .int .i64 r2], [.int .i64 x, .int .i64 y, .int .i64 x1]])) ∧ ((m.m2 == 91) = false → (h2 = true → K .normal ([.ce (.ptr 1000003 0), .ce (.ptr 1000006 0), .ce (.bool y0), .ce (.ptr 1000019 0), .agg [.int .i64 n0, .bool h0, .int .i64 n1, .bool h1, .int .i64 n2, .bool h2], .ce (.num .i64 (3 : Int))], [(cM m), [.int .i64 r0, .int .i64 r1, .int .i64 r2], [.int .i64 x, .int .i64 y, .int .i64 n2]])) ∧
    (h2 = false → K .normal ([.ce (.ptr 1000003 0), .ce (.ptr 1000006 0), .ce (.bool y0), .ce (.ptr 1000019 0), .agg [.int .i64 n0, .bool h0, .int .i64 n1, .bool h1, .int .i64 n2, .bool h2], .ce (.num .i64 (3 : Int))], [(cM m), [.int .i64 r0, .int .i64 r1, .int .i64 r2], [.int .i64 x, .int .i64 y, .int .i64 z]])))) ∧ (h2 = false → (h2 = true → K .normal ([.ce (.ptr 1000003 0), .ce (.ptr 1000006 0), .ce (.bool y0), .ce (.ptr 1000019 0), .agg [.int .i64 n0, .bool h0, .int .i64 n1, .bool h1, .int .i64 n2, .bool h2], .ce (.num .i64 (3 : Int))], [(cM m), [.int .i64 r0, .int .i64 r1, .int .i64 r2], [.int .i64 x, .int .i64 y, .int .i64 n2]])) ∧
    (h2 = false → K .normal ([.ce (.ptr 1000003 0), .ce (.ptr 1000006 0), .ce (.bool y0), .ce (.ptr 1000019 0), .agg [.int .i64 n0, .bool h0, .int .i64 n1, .bool h1, .int .i64 n2, .bool h2], .ce (.num .i64 (3 : Int))], [(cM m), [.int .i64 r0, .int .i64 r1, .int .i64 r2], [.int .i64 x, .int .i64 y, .int .i64 z]])))) := by kernel_rfl
theorem vbT63 (m : M) (y0 h0 h1 h2 : Bool) (x y z r0 r1 r2 n0 n1 n2 : Int) (K : HEx → LV → Prop) : (nbodyT true CTgt anT6 (nthLoop Tryd.f17 2) (([.ce (.ptr 1000003 0), .ce (.ptr 1000006 0), .ce (.bool y0), .ce (.ptr 1000019 0), .agg [.int .i64 n0, .bool h0, .int .i64 n1, .bool h1, .int .i64 n2, .bool h2], .ce (.num .i64 3)], [[.int .i64 m.m0, .int .i64 m.m1, .int .i64 m.m2, .int .i64 m.m3, .int .i64 m.m4, .int .i64 m.m5, .int .i64 m.m6, .int .i64 m.m7, .int .i64 m.m8, .int .i64 m.m9, .int .i64 m.m10, .int .i64 m.m11, .int .i64 m.m12, .bool m.m13, .bool m.m14, .int .i64 m.m15, .int .i64 m.m16, .int .i64 m.m17, .int .i64 m.m18, .int .i64 m.m19, .int .i64 m.m20, .int .i64 m.m21], [.int .i64 r0, .int .i64 r1, .int .i64 r2], [.int .i64 x, .int .i64 y, .int .i64 z]])) K) =
    (K (.exit 4) ([.ce (.ptr 1000006 0), .ce (.bool y0), .ce (.ptr 1000019 0)], [(cM m), [.int .i64 r0, .int .i64 r1, .int .i64 r2], [.int .i64 x, .int .i64 y, .int .i64 z]])) := by kernel_rfl
theorem vgT3 (m : M) (t7 y0 h0 h1 h2 : Bool) (t8 f s a x y z r0 r1 r2 n0 n1 n2 : Int) (K : HEx → LV → Prop) : (nfragT true CTgt anT3 (nthFrag CTgt Tryd.f17 0) (([.ce (.ptr 1000003 0), .ce (.ptr 1000005 0), .ce (.ptr 1000006 0), .ce (.bool t7), .ce (.int .i64 t8), .ce (.ptr 1000009 0), .ce (.bool y0), .ce (.int .i64 f), .ce (.int .i64 s), .ce (.int .i64 a)], [[.int .i64 m.m0, .int .i64 m.m1, .int .i64 m.m2, .int .i64 m.m3, .int .i64 m.m4, .int .i64 m.m5, .int .i64 m.m6, .int .i64 m.m7, .int .i64 m.m8, .int .i64 m.m9, .int .i64 m.m10, .int .i64 m.m11, .int .i64 m.m12, .bool m.m13, .bool m.m14, .int .i64 m.m15, .int .i64 m.m16, .int .i64 m.m17, .int .i64 m.m18, .int .i64 m.m19, .int .i64 m.m20, .int .i64 m.m21], [.int .i64 x, .int .i64 y, .int .i64 z], [.int .i64 r0, .int .i64 r1, .int .i64 r2], [.int .i64 n0, .bool h0, .int .i64 n1, .bool h1, .int .i64 n2, .bool h2]])) K) =
    ((f = 0 → (s = 0 → (decide (a ≥ 0) = true → K .normal ([.ce (.ptr 1000003 0), .ce (.ptr 1000005 0), .ce (.ptr 1000006 0), .ce (.bool t7), .ce (.int .i64 t8), .ce (.ptr 1000009 0), .ce (.bool y0), .ce (.int .i64 0), .ce (.int .i64 0), .ce (.int .i64 a), .ce (.bool !h0 == h0)], [(cM m), [.int .i64 x, .int .i64 y, .int .i64 z], [.int .i64 r0, .int .i64 r1, .int .i64 r2], [.int .i64 n0, .bool h0, .int .i64 n1, .bool h1, .int .i64 n2, .bool h2]])) ∧ (decide (a ≥ 0) = false → K .normal ([.ce (.ptr 1000003 0), .ce (.ptr 1000005 0), .ce (.ptr 1000006 0), .ce (.bool t7), .ce (.int .i64 t8), .ce (.ptr 1000009 0), .ce (.bool y0), .ce (.int .i64 0), .ce (.int .i64 0), .ce (.int .i64 a), .ce (.bool false)], [(cM m), [.int .i64 x, .int .i64 y, .int .i64 z], [.int .i64 r0, .int .i64 r1, .int .i64 r2], [.int .i64 n0, .bool h0, .int .i64 n1, .bool h1, .int .i64 n2, .bool h2]]))) ∧
    (s ≠ 0 → (s = 1 → (decide (a ≥ 0) = true → K .normal ([.ce (.ptr 1000003 0), .ce (.ptr 1000005 0), .ce (.ptr 1000006 0), .ce (.bool t7), .ce (.int .i64 t8), .ce (.ptr 1000009 0), .ce (.bool y0), .ce (.int .i64 0), .ce (.int .i64 1), .ce (.int .i64 a), .ce (.bool !h0 == h1)], [(cM m), [.int .i64 x, .int .i64 y, .int .i64 z], [.int .i64 r0, .int .i64 r1, .int .i64 r2], [.int .i64 n0, .bool h0, .int .i64 n1, .bool h1, .int .i64 n2, .bool h2]])) ∧ (decide (a ≥ 0) = false → K .normal ([.ce (.ptr 1000003 0), .ce (.ptr 1000005 0), .ce (.ptr 1000006 0), .ce (.bool t7), .ce (.int .i64 t8), .ce (.ptr 1000009 0), .ce (.bool y0), .ce (.int .i64 0), .ce (.int .i64 1), .ce (.int .i64 a), .ce (.bool false)], [(cM m), [.int .i64 x, .int .i64 y, .int .i64 z], [.int .i64 r0, .int .i64 r1, .int .i64 r2], [.int .i64 n0, .bool h0, .int .i64 n1, .bool h1, .int .i64 n2, .bool h2]]))) ∧
    (s ≠ 1 → (s = 2 → (decide (a ≥ 0) = true → K .normal ([.ce (.ptr 1000003 0), .ce (.ptr 1000005 0), .ce (.ptr 1000006 0), .ce (.bool t7), .ce (.int .i64 t8), .ce (.ptr 1000009 0), .ce (.bool y0), .ce (.int .i64 0), .ce (.int .i64 2), .ce (.int .i64 a), .ce (.bool !h0 == h2)], [(cM m), [.int .i64 x, .int .i64 y, .int .i64 z], [.int .i64 r0, .int .i64 r1, .int .i64 r2], [.int .i64 n0, .bool h0, .int .i64 n1, .bool h1, .int .i64 n2, .bool h2]])) ∧ (decide (a ≥ 0) = false → K .normal ([.ce (.ptr 1000003 0), .ce (.ptr 1000005 0), .ce (.ptr 1000006 0), .ce (.bool t7), .ce (.int .i64 t8), .ce (.ptr 1000009 0), .ce (.bool y0), .ce (.int .i64 0), .ce (.int .i64 2), .ce (.int .i64 a), .ce (.bool false)], [(cM m), [.int .i64 x, .int .i64 y, .int .i64 z], [.int .i64 r0, .int .i64 r1, .int .i64 r2], [.int .i64 n0, .bool h0, .int .i64 n1, .bool h1, .int .i64 n2, .bool h2]]))) ∧
    (s ≠ 2 → False)))) ∧ (f ≠ 0 → (f = 1 → (s = 0 → (decide (a ≥ 0) = true → K .normal ([.ce (.ptr 1000003 0), .ce (.ptr 1000005 0), .ce (.ptr 1000006 0), .ce (.bool t7), .ce (.int .i64 t8), .ce (.ptr 1000009 0), .ce (.bool y0), .ce (.int .i64 1), .ce (.int .i64 0), .ce (.int .i64 a), .ce (.bool !h1 == h0)], [(cM m), [.int .i64 x, .int .i64 y, .int .i64 z], [.int .i64 r0, .int .i64 r1, .int .i64 r2], [.int .i64 n0, .bool h0, .int .i64 n1, .bool h1, .int .i64 n2, .bool h2]])) ∧ (decide (a ≥ 0) = false → K .normal ([.ce (.ptr 1000003 0), .ce (.ptr 1000005 0), .ce (.ptr 1000006 0), .ce (.bool t7), .ce (.int .i64 t8), .ce (.ptr 1000009 0), .ce (.bool y0), .ce (.int .i64 1), .ce (.int .i64 0), .ce (.int .i64 a), .ce (.bool false)], [(cM m), [.int .i64 x, .int .i64 y, .int .i64 z], [.int .i64 r0, .int .i64 r1, .int .i64 r2], [.int .i64 n0, .bool h0, .int .i64 n1, .bool h1, .int .i64 n2, .bool h2]]))) ∧
    (s ≠ 0 → (s = 1 → (decide (a ≥ 0) = true → K .normal ([.ce (.ptr 1000003 0), .ce (.ptr 1000005 0), .ce (.ptr 1000006 0), .ce (.bool t7), .ce (.int .i64 t8), .ce (.ptr 1000009 0), .ce (.bool y0), .ce (.int .i64 1), .ce (.int .i64 1), .ce (.int .i64 a), .ce (.bool !h1 == h1)], [(cM m), [.int .i64 x, .int .i64 y, .int .i64 z], [.int .i64 r0, .int .i64 r1, .int .i64 r2], [.int .i64 n0, .bool h0, .int .i64 n1, .bool h1, .int .i64 n2, .bool h2]])) ∧ (decide (a ≥ 0) = false → K .normal ([.ce (.ptr 1000003 0), .ce (.ptr 1000005 0), .ce (.ptr 1000006 0), .ce (.bool t7), .ce (.int .i64 t8), .ce (.ptr 1000009 0), .ce (.bool y0), .ce (.int .i64 1), .ce (.int .i64 1), .ce (.int .i64 a), .ce (.bool false)], [(cM m), [.int .i64 x, .int .i64 y, .int .i64 z], [.int .i64 r0, .int .i64 r1, .int .i64 r2], [.int .i64 n0, .bool h0, .int .i64 n1, .bool h1, .int .i64 n2, .bool h2]]))) ∧
    (s ≠ 1 → (s = 2 → (decide (a ≥ 0) = true → K .normal ([.ce (.ptr 1000003 0), .ce (.ptr 1000005 0), .ce (.ptr 1000006 0), .ce (.bool t7), .ce (.int .i64 t8), .ce (.ptr 1000009 0), .ce (.bool y0), .ce (.int .i64 1), .ce (.int .i64 2), .ce (.int .i64 a), .ce (.bool !h1 == h2)], [(cM m), [.int .i64 x, .int .i64 y, .int .i64 z], [.int .i64 r0, .int .i64 r1, .int .i64 r2], [.int .i64 n0, .bool h0, .int .i64 n1, .bool h1, .int .i64 n2, .bool h2]])) ∧ (decide (a ≥ 0) = false → K .normal ([.ce (.ptr 1000003 0), .ce (.ptr 1000005 0), .ce (.ptr 1000006 0), .ce (.bool t7), .ce (.int .i64 t8), .ce (.ptr 1000009 0), .ce (.bool y0), .ce (.int .i64 1), .ce (.int .i64 2), .ce (.int .i64 a), .ce (.bool false)], [(cM m), [.int .i64 x, .int .i64 y, .int .i64 z], [.int .i64 r0, .int .i64 r1, .int .i64 r2], [.int .i64 n0, .bool h0, .int .i64 n1, .bool h1, .int .i64 n2, .bool h2]]))) ∧
    (s ≠ 2 → False)))) ∧ (f ≠ 1 → (f = 2 → (s = 0 → (decide (a ≥ 0) = true → K .normal ([.ce (.ptr 1000003 0), .ce (.ptr 1000005 0), .ce (.ptr 1000006 0), .ce (.bool t7), .ce (.int .i64 t8), .ce (.ptr 1000009 0), .ce (.bool y0), .ce (.int .i64 2), .ce (.int .i64 0), .ce (.int .i64 a), .ce (.bool !h2 == h0)], [(cM m), [.int .i64 x, .int .i64 y, .int .i64 z], [.int .i64 r0, .int .i64 r1, .int .i64 r2], [.int .i64 n0, .bool h0, .int .i64 n1, .bool h1, .int .i64 n2, .bool h2]])) ∧ (decide (a ≥ 0) = false → K .normal ([.ce (.ptr 1000003 0), .ce (.ptr 1000005 0), .ce (.ptr 1000006 0), .ce (.bool t7), .ce (.int .i64 t8), .ce (.ptr 1000009 0), .ce (.bool y0), .ce (.int .i64 2), .ce (.int .i64 0), .ce (.int .i64 a), .ce (.bool false)], [(cM m), [.int .i64 x, .int .i64 y, .int .i64 z], [.int .i64 r0, .int .i64 r1, .int .i64 r2], [.int .i64 n0, .bool h0, .int .i64 n1, .bool h1, .int .i64 n2, .bool h2]]))) ∧
    (s ≠ 0 → (s = 1 → (decide (a ≥ 0) = true → K .normal ([.ce (.ptr 1000003 0), .ce (.ptr 1000005 0), .ce (.ptr 1000006 0), .ce (.bool t7), .ce (.int .i64 t8), .ce (.ptr 1000009 0), .ce (.bool y0), .ce (.int .i64 2), .ce (.int .i64 1), .ce (.int .i64 a), .ce (.bool !h2 == h1)], [(cM m), [.int .i64 x, .int .i64 y, .int .i64 z], [.int .i64 r0, .int .i64 r1, .int .i64 r2], [.int .i64 n0, .bool h0, .int .i64 n1, .bool h1, .int .i64 n2, .bool h2]])) ∧ (decide (a ≥ 0) = false → K .normal ([.ce (.ptr 1000003 0), .ce (.ptr 1000005 0), .ce (.ptr 1000006 0), .ce (.bool t7), .ce (.int .i64 t8), .ce (.ptr 1000009 0), .ce (.bool y0), .ce (.int .i64 2), .ce (.int .i64 1), .ce (.int .i64 a), .ce (.bool false)], [(cM m), [.int .i64 x, .int .i64 y, .int .i64 z], [.int .i64 r0, .int .i64 r1, .int .i64 r2], [.int .i64 n0, .bool h0, .int .i64 n1, .bool h1, .int .i64 n2, .bool h2]]))) ∧
    (s ≠ 1 → (s = 2 → (decide (a ≥ 0) = true → K .normal ([.ce (.ptr 1000003 0), .ce (.ptr 1000005 0), .ce (.ptr 1000006 0), .ce (.bool t7), .ce (.int .i64 t8), .ce (.ptr 1000009 0), .ce (.bool y0), .ce (.int .i64 2), .ce (.int .i64 2), .ce (.int .i64 a), .ce (.bool !h2 == h2)], [(cM m), [.int .i64 x, .int .i64 y, .int .i64 z], [.int .i64 r0, .int .i64 r1, .int .i64 r2], [.int .i64 n0, .bool h0, .int .i64 n1, .bool h1, .int .i64 n2, .bool h2]])) ∧ (decide (a ≥ 0) = false → K .normal ([.ce (.ptr 1000003 0), .ce (.ptr 1000005 0), .ce (.ptr 1000006 0), .ce (.bool t7), .ce (.int .i64 t8), .ce (.ptr 1000009 0), .ce (.bool y0), .ce (.int .i64 2), .ce (.int .i64 2), .ce (.int .i64 a), .ce (.bool false)], [(cM m), [.int .i64 x, .int .i64 y, .int .i64 z], [.int .i64 r0, .int .i64 r1, .int .i64 r2], [.int .i64 n0, .bool h0, .int .i64 n1, .bool h1, .int .i64 n2, .bool h2]]))) ∧
    (s ≠ 2 → False)))) ∧ (f ≠ 2 → False)))) := by kernel_rfl
theorem vgT4 (m : M) (y0 h0 h1 h2 : Bool) (f s a x y z r0 r1 r2 n0 n1 n2 : Int) (K : HEx → LV → Prop) : (nfragT true CTgt anT4 (nthFrag CTgt Tryd.f17 1) (([.ce (.ptr 1000003 0), .ce (.ptr 1000006 0), .ce (.ptr 1000009 0), .ce (.bool y0), .ce (.int .i64 f), .ce (.int .i64 s), .ce (.int .i64 a), .ce (.ptr 1000019 0)], [[.int .i64 m.m0, .int .i64 m.m1, .int .i64 m.m2, .int .i64 m.m3, .int .i64 m.m4, .int .i64 m.m5, .int .i64 m.m6, .int .i64 m.m7, .int .i64 m.m8, .int .i64 m.m9, .int .i64 m.m10, .int .i64 m.m11, .int .i64 m.m12, .bool m.m13, .bool m.m14, .int .i64 m.m15, .int .i64 m.m16, .int .i64 m.m17, .int .i64 m.m18, .int .i64 m.m19, .int .i64 m.m20, .int .i64 m.m21], [.int .i64 r0, .int .i64 r1, .int .i64 r2], [.int .i64 n0, .bool h0, .int .i64 n1, .bool h1, .int .i64 n2, .bool h2], [.int .i64 x, .int .i64 y, .int .i64 z]])) K) =
    ((f = 0 → (decide (a ≥ 0) = true → K .normal ([.ce (.ptr 1000003 0), .ce (.ptr 1000006 0), .ce (.ptr 1000009 0), .ce (.bool y0), .ce (.int .i64 0), .ce (.int .i64 s), .ce (.ptr 1000019 0), .ce (.bool h0)], [(cM m), [.int .i64 r0, .int .i64 r1, .int .i64 r2], [.int .i64 n0, .bool h0, .int .i64 n1, .bool h1, .int .i64 n2, .bool h2], [.int .i64 x, .int .i64 y, .int .i64 z]])) ∧ (decide (a ≥ 0) = false → K .normal ([.ce (.ptr 1000003 0), .ce (.ptr 1000006 0), .ce (.ptr 1000009 0), .ce (.bool y0), .ce (.int .i64 0), .ce (.int .i64 s), .ce (.ptr 1000019 0), .ce (.bool false)], [(cM m), [.int .i64 r0, .int .i64 r1, .int .i64 r2], [.int .i64 n0, .bool h0, .int .i64 n1, .bool h1, .int .i64 n2, .bool h2], [.int .i64 x, .int .i64 y, .int .i64 z]]))) ∧
    (f ≠ 0 → (f = 1 → (decide (a ≥ 0) = true → K .normal ([.ce (.ptr 1000003 0), .ce (.ptr 1000006 0), .ce (.ptr 1000009 0), .ce (.bool y0), .ce (.int .i64 1), .ce (.int .i64 s), .ce (.ptr 1000019 0), .ce (.bool h1)], [(cM m), [.int .i64 r0, .int .i64 r1, .int .i64 r2], [.int .i64 n0, .bool h0, .int .i64 n1, .bool h1, .int .i64 n2, .bool h2], [.int .i64 x, .int .i64 y, .int .i64 z]])) ∧ (decide (a ≥ 0) = false → K .normal ([.ce (.ptr 1000003 0), .ce (.ptr 1000006 0), .ce (.ptr 1000009 0), .ce (.bool y0), .ce (.int .i64 1), .ce (.int .i64 s), .ce (.ptr 1000019 0), .ce (.bool false)], [(cM m), [.int .i64 r0, .int .i64 r1, .int .i64 r2], [.int .i64 n0, .bool h0, .int .i64 n1, .bool h1, .int .i64 n2, .bool h2], [.int .i64 x, .int .i64 y, .int .i64 z]]))) ∧
    (f ≠ 1 → (f = 2 → (decide (a ≥ 0) = true → K .normal ([.ce (.ptr 1000003 0), .ce (.ptr 1000006 0), .ce (.ptr 1000009 0), .ce (.bool y0), .ce (.int .i64 2), .ce (.int .i64 s), .ce (.ptr 1000019 0), .ce (.bool h2)], [(cM m), [.int .i64 r0, .int .i64 r1, .int .i64 r2], [.int .i64 n0, .bool h0, .int .i64 n1, .bool h1, .int .i64 n2, .bool h2], [.int .i64 x, .int .i64 y, .int .i64 z]])) ∧ (decide (a ≥ 0) = false → K .normal ([.ce (.ptr 1000003 0), .ce (.ptr 1000006 0), .ce (.ptr 1000009 0), .ce (.bool y0), .ce (.int .i64 2), .ce (.int .i64 s), .ce (.ptr 1000019 0), .ce (.bool false)], [(cM m), [.int .i64 r0, .int .i64 r1, .int .i64 r2], [.int .i64 n0, .bool h0, .int .i64 n1, .bool h1, .int .i64 n2, .bool h2], [.int .i64 x, .int .i64 y, .int .i64 z]]))) ∧
    (f ≠ 2 → False)))) := by kernel_rfl
theorem vgT5 (m : M) (y0 h0 h1 h2 c : Bool) (f s x y z r0 r1 r2 n0 n1 n2 : Int) (K : HEx → LV → Prop) : (nfragT true CTgt anT5 (nthFrag CTgt Tryd.f17 2) (([.ce (.ptr 1000003 0), .ce (.ptr 1000006 0), .ce (.ptr 1000009 0), .ce (.bool y0), .ce (.int .i64 f), .ce (.int .i64 s), .ce (.ptr 1000019 0), .ce (.bool c)], [[.int .i64 m.m0, .int .i64 m.m1, .int .i64 m.m2, .int .i64 m.m3, .int .i64 m.m4, .int .i64 m.m5, .int .i64 m.m6, .int .i64 m.m7, .int .i64 m.m8, .int .i64 m.m9, .int .i64 m.m10, .int .i64 m.m11, .int .i64 m.m12, .bool m.m13, .bool m.m14, .int .i64 m.m15, .int .i64 m.m16, .int .i64 m.m17, .int .i64 m.m18, .int .i64 m.m19, .int .i64 m.m20, .int .i64 m.m21], [.int .i64 r0, .int .i64 r1, .int .i64 r2], [.int .i64 n0, .bool h0, .int .i64 n1, .bool h1, .int .i64 n2, .bool h2], [.int .i64 x, .int .i64 y, .int .i64 z]])) K) =
    ((c = true → (f = 0 → (s = 0 → True ∧ ∀ (x1 : Int), x1 = rtU n0 (0 : Int) n0 → ∀ (x2 : Int), x2 = rtW n0 (0 : Int) n0 → ∀ (x3 : Bool), x3 = rtB n0 (0 : Int) → K .normal ([.ce (.ptr 1000003 0), .ce (.ptr 1000006 0), .ce (.ptr 1000009 0), .ce (.bool y0), .ce (.ptr 1000019 0)], [(cM m), [.int .i64 r0, .int .i64 r1, .int .i64 r2], [.int .i64 x2, .bool h0, .int .i64 n1, .bool h1, .int .i64 n2, .bool h2], [.int .i64 x, .int .i64 y, .int .i64 z]])) ∧ (s ≠ 0 → (s = 1 → True ∧ ∀ (x4 : Int), x4 = rtU n0 (0 : Int) n1 → ∀ (x5 : Int), x5 = rtW n0 (0 : Int) n1 →
    ∀ (x6 : Bool), x6 = rtB n0 (0 : Int) → K .normal ([.ce (.ptr 1000003 0), .ce (.ptr 1000006 0), .ce (.ptr 1000009 0), .ce (.bool y0), .ce (.ptr 1000019 0)], [(cM m), [.int .i64 r0, .int .i64 r1, .int .i64 r2], [.int .i64 x4, .bool h0, .int .i64 x5, .bool h1, .int .i64 n2, .bool h2], [.int .i64 x, .int .i64 y, .int .i64 z]])) ∧ (s ≠ 1 → (s = 2 → True ∧ ∀ (x7 : Int), x7 = rtU n0 (0 : Int) n2 → ∀ (x8 : Int), x8 = rtW n0 (0 : Int) n2 → ∀ (x9 : Bool), x9 = rtB n0 (0 : Int) → K .normal ([.ce (.ptr 1000003 0), .ce (.ptr 1000006 0), .ce (.ptr 1000009 0), .ce (.bool y0), .ce (.ptr 1000019 0)], [(cM m), [.int .i64 r0, .int .i64 r1, .int .i64 r2], [.int .i64 x7, .bool h0, .int .i64 n1, .bool h1, .int .i64 x8, .bool h2], [.int .i64 x, .int .i64 y, .int .i64 z]])) ∧
    (s ≠ 2 → False)))) ∧ (f ≠ 0 → (f = 1 → (s = 0 → True ∧ ∀ (x10 : Int), x10 = rtU n1 (0 : Int) n0 → ∀ (x11 : Int), x11 = rtW n1 (0 : Int) n0 → ∀ (x12 : Bool), x12 = rtB n1 (0 : Int) → K .normal ([.ce (.ptr 1000003 0), .ce (.ptr 1000006 0), .ce (.ptr 1000009 0), .ce (.bool y0), .ce (.ptr 1000019 0)], [(cM m), [.int .i64 r0, .int .i64 r1, .int .i64 r2], [.int .i64 x11, .bool h0, .int .i64 x10, .bool h1, .int .i64 n2, .bool h2], [.int .i64 x, .int .i64 y, .int .i64 z]])) ∧ (s ≠ 0 → (s = 1 → True ∧ ∀ (x13 : Int), x13 = rtU n1 (0 : Int) n1 → ∀ (x14 : Int), x14 = rtW n1 (0 : Int) n1 →
    ∀ (x15 : Bool), x15 = rtB n1 (0 : Int) → K .normal ([.ce (.ptr 1000003 0), .ce (.ptr 1000006 0), .ce (.ptr 1000009 0), .ce (.bool y0), .ce (.ptr 1000019 0)], [(cM m), [.int .i64 r0, .int .i64 r1, .int .i64 r2], [.int .i64 n0, .bool h0, .int .i64 x14, .bool h1, .int .i64 n2, .bool h2], [.int .i64 x, .int .i64 y, .int .i64 z]])) ∧ (s ≠ 1 → (s = 2 → True ∧ ∀ (x16 : Int), x16 = rtU n1 (0 : Int) n2 → ∀ (x17 : Int), x17 = rtW n1 (0 : Int) n2 → ∀ (x18 : Bool), x18 = rtB n1 (0 : Int) → K .normal ([.ce (.ptr 1000003 0), .ce (.ptr 1000006 0), .ce (.ptr 1000009 0), .ce (.bool y0), .ce (.ptr 1000019 0)], [(cM m), [.int .i64 r0, .int .i64 r1, .int .i64 r2], [.int .i64 n0, .bool h0, .int .i64 x16, .bool h1, .int .i64 x17, .bool h2], [.int .i64 x, .int .i64 y, .int .i64 z]])) ∧
    (s ≠ 2 → False)))) ∧ (f ≠ 1 → (f = 2 → (s = 0 → True ∧ ∀ (x19 : Int), x19 = rtU n2 (0 : Int) n0 → ∀ (x20 : Int), x20 = rtW n2 (0 : Int) n0 → ∀ (x21 : Bool), x21 = rtB n2 (0 : Int) → K .normal ([.ce (.ptr 1000003 0), .ce (.ptr 1000006 0), .ce (.ptr 1000009 0), .ce (.bool y0), .ce (.ptr 1000019 0)], [(cM m), [.int .i64 r0, .int .i64 r1, .int .i64 r2], [.int .i64 x20, .bool h0, .int .i64 n1, .bool h1, .int .i64 x19, .bool h2], [.int .i64 x, .int .i64 y, .int .i64 z]])) ∧ (s ≠ 0 → (s = 1 → True ∧ ∀ (x22 : Int), x22 = rtU n2 (0 : Int) n1 → ∀ (x23 : Int), x23 = rtW n2 (0 : Int) n1 →
    ∀ (x24 : Bool), x24 = rtB n2 (0 : Int) → K .normal ([.ce (.ptr 1000003 0), .ce (.ptr 1000006 0), .ce (.ptr 1000009 0), .ce (.bool y0), .ce (.ptr 1000019 0)], [(cM m), [.int .i64 r0, .int .i64 r1, .int .i64 r2], [.int .i64 n0, .bool h0, .int .i64 x23, .bool h1, .int .i64 x22, .bool h2], [.int .i64 x, .int .i64 y, .int .i64 z]])) ∧ (s ≠ 1 → (s = 2 → True ∧ ∀ (x25 : Int), x25 = rtU n2 (0 : Int) n2 → ∀ (x26 : Int), x26 = rtW n2 (0 : Int) n2 → ∀ (x27 : Bool), x27 = rtB n2 (0 : Int) → K .normal ([.ce (.ptr 1000003 0), .ce (.ptr 1000006 0), .ce (.ptr 1000009 0), .ce (.bool y0), .ce (.ptr 1000019 0)], [(cM m), [.int .i64 r0, .int .i64 r1, .int .i64 r2], [.int .i64 n0, .bool h0, .int .i64 n1, .bool h1, .int .i64 x26, .bool h2], [.int .i64 x, .int .i64 y, .int .i64 z]])) ∧
    (s ≠ 2 → False)))) ∧ (f ≠ 2 → False)))) ∧ (c = false → K .normal ([.ce (.ptr 1000003 0), .ce (.ptr 1000006 0), .ce (.ptr 1000009 0), .ce (.bool y0), .ce (.ptr 1000019 0)], [(cM m), [.int .i64 r0, .int .i64 r1, .int .i64 r2], [.int .i64 n0, .bool h0, .int .i64 n1, .bool h1, .int .i64 n2, .bool h2], [.int .i64 x, .int .i64 y, .int .i64 z]]))) := by kernel_rfl
theorem vcTgt (m : M) (l : List (List Int)) (x y z : Int) (Q : Res → Prop) : (nfun true CTgt Tryd.f17 (bodyOf Tryd.f17) [.agg [.int .i64 m.m0, .int .i64 m.m1, .int .i64 m.m2, .int .i64 m.m3, .int .i64 m.m4, .int .i64 m.m5, .int .i64 m.m6, .int .i64 m.m7, .int .i64 m.m8, .int .i64 m.m9, .int .i64 m.m10, .int .i64 m.m11, .int .i64 m.m12, .bool m.m13, .bool m.m14, .int .i64 m.m15, .int .i64 m.m16, .int .i64 m.m17, .int .i64 m.m18, .int .i64 m.m19, .int .i64 m.m20, .int .i64 m.m21], .ce (.sl false [4, 4] l), .agg [.int .i64 x, .int .i64 y, .int .i64 z]] [] Q) =
    (True ∧ ∀ (x1 : Bool), x1 = wn x y z → ((!x1) = true → Q ⟨.tup [.agg [.int .i64 0, .int .i64 0, .int .i64 0], .ce (.bool false), .ce (.int .i64 1)], false, [], []⟩) ∧ ((!x1) = false → ((0 : Int) = (0 : Int) ∧ false = false ∧ ((88 : Int) = (88 : Int) ∧ (89 : Int) = (89 : Int) ∧ (90 : Int) = (90 : Int)) ∧ List.length l ≤ (1000 : Nat) ∧ ∃ (m_1 : M), (cM m) = cM m_1) ∧ True ∧ ∀ (x2 : Int), x2 = fsP m.m1 → ∀ (x3 : Int), x3 = scP m.m1 → ((m.m10 == 16) = true → True ∧ ∀ (x4 : Bool), x4 = isPl m.m1 → (x4 = true → ((0 : Int) = (0 : Int) ∧ ∃ (m_1 : M), (cM m) = cM m_1) ∧
    (wE x3 (0 : Int) (mI (cM m) (3 : Nat)) (fndB (88 : Int) l) (fndN (88 : Int) l) ≠ (0 : Int) → Q ⟨.tup [.agg [.int .i64 0, .int .i64 0, .int .i64 0], .ce (.bool false), .ce (.int .i64 (wE x3 (0 : Int) (mI (cM m) (3 : Nat)) (fndB (88 : Int) l) (fndN (88 : Int) l)))], false, [], []⟩) ∧
    (wE x3 (0 : Int) (mI (cM m) (3 : Nat)) (fndB (88 : Int) l) (fndN (88 : Int) l) = (0 : Int) ∧ wE x3 (1 : Int) (mI (cM m) (3 : Nat)) (fndB (89 : Int) l) (fndN (89 : Int) l) ≠ (0 : Int) → Q ⟨.tup [.agg [.int .i64 0, .int .i64 0, .int .i64 0], .ce (.bool false), .ce (.int .i64 (wE x3 (1 : Int) (mI (cM m) (3 : Nat)) (fndB (89 : Int) l) (fndN (89 : Int) l)))], false, [], []⟩) ∧
    (wE x3 (0 : Int) (mI (cM m) (3 : Nat)) (fndB (88 : Int) l) (fndN (88 : Int) l) = (0 : Int) ∧ wE x3 (1 : Int) (mI (cM m) (3 : Nat)) (fndB (89 : Int) l) (fndN (89 : Int) l) = (0 : Int) ∧ wE x3 (2 : Int) (mI (cM m) (3 : Nat)) (fndB (90 : Int) l) (fndN (90 : Int) l) ≠ (0 : Int) →
    Q ⟨.tup [.agg [.int .i64 0, .int .i64 0, .int .i64 0], .ce (.bool false), .ce (.int .i64 (wE x3 (2 : Int) (mI (cM m) (3 : Nat)) (fndB (90 : Int) l) (fndN (90 : Int) l)))], false, [], []⟩) ∧ (wE x3 (0 : Int) (mI (cM m) (3 : Nat)) (fndB (88 : Int) l) (fndN (88 : Int) l) = (0 : Int) ∧
    wE x3 (1 : Int) (mI (cM m) (3 : Nat)) (fndB (89 : Int) l) (fndN (89 : Int) l) = (0 : Int) ∧ wE x3 (2 : Int) (mI (cM m) (3 : Nat)) (fndB (90 : Int) l) (fndN (90 : Int) l) = (0 : Int) → ((0 ≤ x2 ∧ x2 ≤ 2 ∧
    0 ≤ x3 ∧ x3 ≤ 2) ∧ ∃ (m_1 : M), (cM m) = cM m_1) ∧ ∀ (x_1 : Bool), x_1 = (decide (0 ≤ x3) && at3b x2 (fndB (88 : Int) l) (fndB (89 : Int) l) (fndB (90 : Int) l) != at3b x3 (fndB (88 : Int) l) (fndB (89 : Int) l) (fndB (90 : Int) l)) → (x_1 = true → Q ⟨.tup [.agg [.int .i64 0, .int .i64 0, .int .i64 0], .ce (.bool false), .ce (.int .i64 9)], false, [], []⟩) ∧ (x_1 = false → ((0 ≤ x2 ∧ x2 ≤ 2) ∧ ∃ (m_1 : M), (cM m) = cM m_1) ∧
    ∀ (x_2 : Bool), x_2 = (decide (0 ≤ x3) && at3b x2 (fndB (88 : Int) l) (fndB (89 : Int) l) (fndB (90 : Int) l)) → ((0 ≤ x2 ∧ x2 ≤ 2 ∧ 0 ≤ x3 ∧ x3 ≤ 2) ∧ ∃ (m_1 : M), (cM m) = cM m_1) ∧ ∀ (x_3 : Int × Int × Int), (x_2 = false → x_3.1 = wN x3 (0 : Int) (mI (cM m) (3 : Nat)) (fndB (88 : Int) l) (fndN (88 : Int) l) ∧
    x_3.snd.1 = wN x3 (1 : Int) (mI (cM m) (3 : Nat)) (fndB (89 : Int) l) (fndN (89 : Int) l) ∧ x_3.snd.2 = wN x3 (2 : Int) (mI (cM m) (3 : Nat)) (fndB (90 : Int) l) (fndN (90 : Int) l)) ∧ (x_2 = true → x_3.1 = put3 x2 x3 (rtU (at3 x2 (wN x3 (0 : Int) (mI (cM m) (3 : Nat)) (fndB (88 : Int) l) (fndN (88 : Int) l)) (wN x3 (1 : Int) (mI (cM m) (3 : Nat)) (fndB (89 : Int) l) (fndN (89 : Int) l)) (wN x3 (2 : Int) (mI (cM m) (3 : Nat)) (fndB (90 : Int) l) (fndN (90 : Int) l))) (0 : Int) (at3 x3 (wN x3 (0 : Int) (mI (cM m) (3 : Nat)) (fndB (88 : Int) l) (fndN (88 : Int) l)) (wN x3 (1 : Int) (mI (cM m) (3 : Nat)) (fndB (89 : Int) l) (fndN (89 : Int) l)) (wN x3 (2 : Int) (mI (cM m) (3 : Nat)) (fndB (90 : Int) l) (fndN (90 : Int) l)))) (rtW (at3 x2 (wN x3 (0 : Int) (mI (cM m) (3 : Nat)) (fndB (88 : Int) l) (fndN (88 : Int) l)) (wN x3 (1 : Int) (mI (cM m) (3 : Nat)) (fndB (89 : Int) l) (fndN (89 : Int) l)) (wN x3 (2 : Int) (mI (cM m) (3 : Nat)) (fndB (90 : Int) l) (fndN (90 : Int) l))) (0 : Int) (at3 x3 (wN x3 (0 : Int) (mI (cM m) (3 : Nat)) (fndB (88 : Int) l) (fndN (88 : Int) l)) (wN x3 (1 : Int) (mI (cM m) (3 : Nat)) (fndB (89 : Int) l) (fndN (89 : Int) l)) (wN x3 (2 : Int) (mI (cM m) (3 : Nat)) (fndB (90 : Int) l) (fndN (90 : Int) l)))) (0 : Int) (wN x3 (0 : Int) (mI (cM m) (3 : Nat)) (fndB (88 : Int) l) (fndN (88 : Int) l)) ∧
    x_3.snd.1 = put3 x2 x3 (rtU (at3 x2 (wN x3 (0 : Int) (mI (cM m) (3 : Nat)) (fndB (88 : Int) l) (fndN (88 : Int) l)) (wN x3 (1 : Int) (mI (cM m) (3 : Nat)) (fndB (89 : Int) l) (fndN (89 : Int) l)) (wN x3 (2 : Int) (mI (cM m) (3 : Nat)) (fndB (90 : Int) l) (fndN (90 : Int) l))) (0 : Int) (at3 x3 (wN x3 (0 : Int) (mI (cM m) (3 : Nat)) (fndB (88 : Int) l) (fndN (88 : Int) l)) (wN x3 (1 : Int) (mI (cM m) (3 : Nat)) (fndB (89 : Int) l) (fndN (89 : Int) l)) (wN x3 (2 : Int) (mI (cM m) (3 : Nat)) (fndB (90 : Int) l) (fndN (90 : Int) l)))) (rtW (at3 x2 (wN x3 (0 : Int) (mI (cM m) (3 : Nat)) (fndB (88 : Int) l) (fndN (88 : Int) l)) (wN x3 (1 : Int) (mI (cM m) (3 : Nat)) (fndB (89 : Int) l) (fndN (89 : Int) l)) (wN x3 (2 : Int) (mI (cM m) (3 : Nat)) (fndB (90 : Int) l) (fndN (90 : Int) l))) (0 : Int) (at3 x3 (wN x3 (0 : Int) (mI (cM m) (3 : Nat)) (fndB (88 : Int) l) (fndN (88 : Int) l)) (wN x3 (1 : Int) (mI (cM m) (3 : Nat)) (fndB (89 : Int) l) (fndN (89 : Int) l)) (wN x3 (2 : Int) (mI (cM m) (3 : Nat)) (fndB (90 : Int) l) (fndN (90 : Int) l)))) (1 : Int) (wN x3 (1 : Int) (mI (cM m) (3 : Nat)) (fndB (89 : Int) l) (fndN (89 : Int) l)) ∧
    x_3.snd.2 = put3 x2 x3 (rtU (at3 x2 (wN x3 (0 : Int) (mI (cM m) (3 : Nat)) (fndB (88 : Int) l) (fndN (88 : Int) l)) (wN x3 (1 : Int) (mI (cM m) (3 : Nat)) (fndB (89 : Int) l) (fndN (89 : Int) l)) (wN x3 (2 : Int) (mI (cM m) (3 : Nat)) (fndB (90 : Int) l) (fndN (90 : Int) l))) (0 : Int) (at3 x3 (wN x3 (0 : Int) (mI (cM m) (3 : Nat)) (fndB (88 : Int) l) (fndN (88 : Int) l)) (wN x3 (1 : Int) (mI (cM m) (3 : Nat)) (fndB (89 : Int) l) (fndN (89 : Int) l)) (wN x3 (2 : Int) (mI (cM m) (3 : Nat)) (fndB (90 : Int) l) (fndN (90 : Int) l)))) (rtW (at3 x2 (wN x3 (0 : Int) (mI (cM m) (3 : Nat)) (fndB (88 : Int) l) (fndN (88 : Int) l)) (wN x3 (1 : Int) (mI (cM m) (3 : Nat)) (fndB (89 : Int) l) (fndN (89 : Int) l)) (wN x3 (2 : Int) (mI (cM m) (3 : Nat)) (fndB (90 : Int) l) (fndN (90 : Int) l))) (0 : Int) (at3 x3 (wN x3 (0 : Int) (mI (cM m) (3 : Nat)) (fndB (88 : Int) l) (fndN (88 : Int) l)) (wN x3 (1 : Int) (mI (cM m) (3 : Nat)) (fndB (89 : Int) l) (fndN (89 : Int) l)) (wN x3 (2 : Int) (mI (cM m) (3 : Nat)) (fndB (90 : Int) l) (fndN (90 : Int) l)))) (2 : Int) (wN x3 (2 : Int) (mI (cM m) (3 : Nat)) (fndB (90 : Int) l) (fndN (90 : Int) l))) →
    ((0 : Int) = (0 : Int) ∧ (∃ (m_1 : M), (cM m) = cM m_1) ∧ B3 (1099511627776 : Int) x y z ∧ (fndB (88 : Int) l = true → (-1099511627776 : Int) ≤ x_3.1 ∧ x_3.1 ≤ 1099511627776) ∧ (fndB (89 : Int) l = true → (-1099511627776 : Int) ≤ x_3.snd.1 ∧ x_3.snd.1 ≤ 1099511627776) ∧ (fndB (90 : Int) l = true → (-1099511627776 : Int) ≤ x_3.snd.2 ∧ x_3.snd.2 ≤ 1099511627776)) ∧ True ∧ ∀ (x8 : Bool), x8 = wn (mv (mI (cM m) (2 : Nat)) (fndB (88 : Int) l) x x_3.1) (mv (mI (cM m) (2 : Nat)) (fndB (89 : Int) l) y x_3.snd.1) (mv (mI (cM m) (2 : Nat)) (fndB (90 : Int) l) z x_3.snd.2) →
    ((!x8) = true → Q ⟨.tup [.agg [.int .i64 0, .int .i64 0, .int .i64 0], .ce (.bool false), .ce (.int .i64 3)], false, [], []⟩) ∧ ((!x8) = false → Q ⟨.tup [.agg [.int .i64 (mv (mI (cM m) (2 : Nat)) (fndB (88 : Int) l) x x_3.1), .int .i64 (mv (mI (cM m) (2 : Nat)) (fndB (89 : Int) l) y x_3.snd.1), .int .i64 (mv (mI (cM m) (2 : Nat)) (fndB (90 : Int) l) z x_3.snd.2)], .ce (.bool (fndB (88 : Int) l || (fndB (89 : Int) l || fndB (90 : Int) l))), .ce (.int .i64 0)], false, [], []⟩)))) ∧
    (x4 = false → ((0 : Int) = (0 : Int) ∧ ∃ (m_1 : M), (cM m) = cM m_1) ∧ (wE (-1 : Int) (0 : Int) (mI (cM m) (3 : Nat)) (fndB (88 : Int) l) (fndN (88 : Int) l) ≠ (0 : Int) → Q ⟨.tup [.agg [.int .i64 0, .int .i64 0, .int .i64 0], .ce (.bool false), .ce (.int .i64 (wE (-1 : Int) (0 : Int) (mI (cM m) (3 : Nat)) (fndB (88 : Int) l) (fndN (88 : Int) l)))], false, [], []⟩) ∧
    (wE (-1 : Int) (0 : Int) (mI (cM m) (3 : Nat)) (fndB (88 : Int) l) (fndN (88 : Int) l) = (0 : Int) ∧ wE (-1 : Int) (1 : Int) (mI (cM m) (3 : Nat)) (fndB (89 : Int) l) (fndN (89 : Int) l) ≠ (0 : Int) → Q ⟨.tup [.agg [.int .i64 0, .int .i64 0, .int .i64 0], .ce (.bool false), .ce (.int .i64 (wE (-1 : Int) (1 : Int) (mI (cM m) (3 : Nat)) (fndB (89 : Int) l) (fndN (89 : Int) l)))], false, [], []⟩) ∧
    (wE (-1 : Int) (0 : Int) (mI (cM m) (3 : Nat)) (fndB (88 : Int) l) (fndN (88 : Int) l) = (0 : Int) ∧ wE (-1 : Int) (1 : Int) (mI (cM m) (3 : Nat)) (fndB (89 : Int) l) (fndN (89 : Int) l) = (0 : Int) ∧ wE (-1 : Int) (2 : Int) (mI (cM m) (3 : Nat)) (fndB (90 : Int) l) (fndN (90 : Int) l) ≠ (0 : Int) →
    Q ⟨.tup [.agg [.int .i64 0, .int .i64 0, .int .i64 0], .ce (.bool false), .ce (.int .i64 (wE (-1 : Int) (2 : Int) (mI (cM m) (3 : Nat)) (fndB (90 : Int) l) (fndN (90 : Int) l)))], false, [], []⟩) ∧ (wE (-1 : Int) (0 : Int) (mI (cM m) (3 : Nat)) (fndB (88 : Int) l) (fndN (88 : Int) l) = (0 : Int) ∧
    wE (-1 : Int) (1 : Int) (mI (cM m) (3 : Nat)) (fndB (89 : Int) l) (fndN (89 : Int) l) = (0 : Int) ∧ wE (-1 : Int) (2 : Int) (mI (cM m) (3 : Nat)) (fndB (90 : Int) l) (fndN (90 : Int) l) = (0 : Int) → ((0 ≤ x2 ∧
    x2 ≤ 2 ∧ 0 ≤ x3 ∧ x3 ≤ 2) ∧ ∃ (m_1 : M), (cM m) = cM m_1) ∧ ∀ (x_1 : Bool), x_1 = (decide ((0 : Int) ≤ (-1 : Int)) && at3b x2 (fndB (88 : Int) l) (fndB (89 : Int) l) (fndB (90 : Int) l) != at3b x3 (fndB (88 : Int) l) (fndB (89 : Int) l) (fndB (90 : Int) l)) → (x_1 = true → Q ⟨.tup [.agg [.int .i64 0, .int .i64 0, .int .i64 0], .ce (.bool false), .ce (.int .i64 9)], false, [], []⟩) ∧ (x_1 = false → ((0 ≤ x2 ∧ x2 ≤ 2) ∧ ∃ (m_1 : M), (cM m) = cM m_1) ∧
    ∀ (x_2 : Bool), x_2 = (decide ((0 : Int) ≤ (-1 : Int)) && at3b x2 (fndB (88 : Int) l) (fndB (89 : Int) l) (fndB (90 : Int) l)) → ((0 ≤ x2 ∧ x2 ≤ 2 ∧ 0 ≤ x3 ∧ x3 ≤ 2) ∧ ∃ (m_1 : M), (cM m) = cM m_1) ∧ ∀ (x_3 : Int × Int × Int), (x_2 = false → x_3.1 = wN (-1 : Int) (0 : Int) (mI (cM m) (3 : Nat)) (fndB (88 : Int) l) (fndN (88 : Int) l) ∧
    x_3.snd.1 = wN (-1 : Int) (1 : Int) (mI (cM m) (3 : Nat)) (fndB (89 : Int) l) (fndN (89 : Int) l) ∧ x_3.snd.2 = wN (-1 : Int) (2 : Int) (mI (cM m) (3 : Nat)) (fndB (90 : Int) l) (fndN (90 : Int) l)) ∧ (x_2 = true →
    x_3.1 = put3 x2 x3 (rtU (at3 x2 (wN (-1 : Int) (0 : Int) (mI (cM m) (3 : Nat)) (fndB (88 : Int) l) (fndN (88 : Int) l)) (wN (-1 : Int) (1 : Int) (mI (cM m) (3 : Nat)) (fndB (89 : Int) l) (fndN (89 : Int) l)) (wN (-1 : Int) (2 : Int) (mI (cM m) (3 : Nat)) (fndB (90 : Int) l) (fndN (90 : Int) l))) (0 : Int) (at3 x3 (wN (-1 : Int) (0 : Int) (mI (cM m) (3 : Nat)) (fndB (88 : Int) l) (fndN (88 : Int) l)) (wN (-1 : Int) (1 : Int) (mI (cM m) (3 : Nat)) (fndB (89 : Int) l) (fndN (89 : Int) l)) (wN (-1 : Int) (2 : Int) (mI (cM m) (3 : Nat)) (fndB (90 : Int) l) (fndN (90 : Int) l)))) (rtW (at3 x2 (wN (-1 : Int) (0 : Int) (mI (cM m) (3 : Nat)) (fndB (88 : Int) l) (fndN (88 : Int) l)) (wN (-1 : Int) (1 : Int) (mI (cM m) (3 : Nat)) (fndB (89 : Int) l) (fndN (89 : Int) l)) (wN (-1 : Int) (2 : Int) (mI (cM m) (3 : Nat)) (fndB (90 : Int) l) (fndN (90 : Int) l))) (0 : Int) (at3 x3 (wN (-1 : Int) (0 : Int) (mI (cM m) (3 : Nat)) (fndB (88 : Int) l) (fndN (88 : Int) l)) (wN (-1 : Int) (1 : Int) (mI (cM m) (3 : Nat)) (fndB (89 : Int) l) (fndN (89 : Int) l)) (wN (-1 : Int) (2 : Int) (mI (cM m) (3 : Nat)) (fndB (90 : Int) l) (fndN (90 : Int) l)))) (0 : Int) (wN (-1 : Int) (0 : Int) (mI (cM m) (3 : Nat)) (fndB (88 : Int) l) (fndN (88 : Int) l)) ∧
    x_3.snd.1 = put3 x2 x3 (rtU (at3 x2 (wN (-1 : Int) (0 : Int) (mI (cM m) (3 : Nat)) (fndB (88 : Int) l) (fndN (88 : Int) l)) (wN (-1 : Int) (1 : Int) (mI (cM m) (3 : Nat)) (fndB (89 : Int) l) (fndN (89 : Int) l)) (wN (-1 : Int) (2 : Int) (mI (cM m) (3 : Nat)) (fndB (90 : Int) l) (fndN (90 : Int) l))) (0 : Int) (at3 x3 (wN (-1 : Int) (0 : Int) (mI (cM m) (3 : Nat)) (fndB (88 : Int) l) (fndN (88 : Int) l)) (wN (-1 : Int) (1 : Int) (mI (cM m) (3 : Nat)) (fndB (89 : Int) l) (fndN (89 : Int) l)) (wN (-1 : Int) (2 : Int) (mI (cM m) (3 : Nat)) (fndB (90 : Int) l) (fndN (90 : Int) l)))) (rtW (at3 x2 (wN (-1 : Int) (0 : Int) (mI (cM m) (3 : Nat)) (fndB (88 : Int) l) (fndN (88 : Int) l)) (wN (-1 : Int) (1 : Int) (mI (cM m) (3 : Nat)) (fndB (89 : Int) l) (fndN (89 : Int) l)) (wN (-1 : Int) (2 : Int) (mI (cM m) (3 : Nat)) (fndB (90 : Int) l) (fndN (90 : Int) l))) (0 : Int) (at3 x3 (wN (-1 : Int) (0 : Int) (mI (cM m) (3 : Nat)) (fndB (88 : Int) l) (fndN (88 : Int) l)) (wN (-1 : Int) (1 : Int) (mI (cM m) (3 : Nat)) (fndB (89 : Int) l) (fndN (89 : Int) l)) (wN (-1 : Int) (2 : Int) (mI (cM m) (3 : Nat)) (fndB (90 : Int) l) (fndN (90 : Int) l)))) (1 : Int) (wN (-1 : Int) (1 : Int) (mI (cM m) (3 : Nat)) (fndB (89 : Int) l) (fndN (89 : Int) l)) ∧
    x_3.snd.2 = put3 x2 x3 (rtU (at3 x2 (wN (-1 : Int) (0 : Int) (mI (cM m) (3 : Nat)) (fndB (88 : Int) l) (fndN (88 : Int) l)) (wN (-1 : Int) (1 : Int) (mI (cM m) (3 : Nat)) (fndB (89 : Int) l) (fndN (89 : Int) l)) (wN (-1 : Int) (2 : Int) (mI (cM m) (3 : Nat)) (fndB (90 : Int) l) (fndN (90 : Int) l))) (0 : Int) (at3 x3 (wN (-1 : Int) (0 : Int) (mI (cM m) (3 : Nat)) (fndB (88 : Int) l) (fndN (88 : Int) l)) (wN (-1 : Int) (1 : Int) (mI (cM m) (3 : Nat)) (fndB (89 : Int) l) (fndN (89 : Int) l)) (wN (-1 : Int) (2 : Int) (mI (cM m) (3 : Nat)) (fndB (90 : Int) l) (fndN (90 : Int) l)))) (rtW (at3 x2 (wN (-1 : Int) (0 : Int) (mI (cM m) (3 : Nat)) (fndB (88 : Int) l) (fndN (88 : Int) l)) (wN (-1 : Int) (1 : Int) (mI (cM m) (3 : Nat)) (fndB (89 : Int) l) (fndN (89 : Int) l)) (wN (-1 : Int) (2 : Int) (mI (cM m) (3 : Nat)) (fndB (90 : Int) l) (fndN (90 : Int) l))) (0 : Int) (at3 x3 (wN (-1 : Int) (0 : Int) (mI (cM m) (3 : Nat)) (fndB (88 : Int) l) (fndN (88 : Int) l)) (wN (-1 : Int) (1 : Int) (mI (cM m) (3 : Nat)) (fndB (89 : Int) l) (fndN (89 : Int) l)) (wN (-1 : Int) (2 : Int) (mI (cM m) (3 : Nat)) (fndB (90 : Int) l) (fndN (90 : Int) l)))) (2 : Int) (wN (-1 : Int) (2 : Int) (mI (cM m) (3 : Nat)) (fndB (90 : Int) l) (fndN (90 : Int) l))) →
    ((0 : Int) = (0 : Int) ∧ (∃ (m_1 : M), (cM m) = cM m_1) ∧ B3 (1099511627776 : Int) x y z ∧ (fndB (88 : Int) l = true → (-1099511627776 : Int) ≤ x_3.1 ∧ x_3.1 ≤ 1099511627776) ∧ (fndB (89 : Int) l = true → (-1099511627776 : Int) ≤ x_3.snd.1 ∧ x_3.snd.1 ≤ 1099511627776) ∧ (fndB (90 : Int) l = true → (-1099511627776 : Int) ≤ x_3.snd.2 ∧ x_3.snd.2 ≤ 1099511627776)) ∧ True ∧ ∀ (x12 : Bool), x12 = wn (mv (mI (cM m) (2 : Nat)) (fndB (88 : Int) l) x x_3.1) (mv (mI (cM m) (2 : Nat)) (fndB (89 : Int) l) y x_3.snd.1) (mv (mI (cM m) (2 : Nat)) (fndB (90 : Int) l) z x_3.snd.2) →
    ((!x12) = true → Q ⟨.tup [.agg [.int .i64 0, .int .i64 0, .int .i64 0], .ce (.bool false), .ce (.int .i64 3)], false, [], []⟩) ∧ ((!x12) = false → Q ⟨.tup [.agg [.int .i64 (mv (mI (cM m) (2 : Nat)) (fndB (88 : Int) l) x x_3.1), .int .i64 (mv (mI (cM m) (2 : Nat)) (fndB (89 : Int) l) y x_3.snd.1), .int .i64 (mv (mI (cM m) (2 : Nat)) (fndB (90 : Int) l) z x_3.snd.2)], .ce (.bool (fndB (88 : Int) l || (fndB (89 : Int) l || fndB (90 : Int) l))), .ce (.int .i64 0)], false, [], []⟩))))) ∧
    ((m.m10 == 16) = false → ((0 : Int) = (0 : Int) ∧ ∃ (m_1 : M), (cM m) = cM m_1) ∧ (wE (-1 : Int) (0 : Int) (mI (cM m) (3 : Nat)) (fndB (88 : Int) l) (fndN (88 : Int) l) ≠ (0 : Int) → Q ⟨.tup [.agg [.int .i64 0, .int .i64 0, .int .i64 0], .ce (.bool false), .ce (.int .i64 (wE (-1 : Int) (0 : Int) (mI (cM m) (3 : Nat)) (fndB (88 : Int) l) (fndN (88 : Int) l)))], false, [], []⟩) ∧
    (wE (-1 : Int) (0 : Int) (mI (cM m) (3 : Nat)) (fndB (88 : Int) l) (fndN (88 : Int) l) = (0 : Int) ∧ wE (-1 : Int) (1 : Int) (mI (cM m) (3 : Nat)) (fndB (89 : Int) l) (fndN (89 : Int) l) ≠ (0 : Int) → Q ⟨.tup [.agg [.int .i64 0, .int .i64 0, .int .i64 0], .ce (.bool false), .ce (.int .i64 (wE (-1 : Int) (1 : Int) (mI (cM m) (3 : Nat)) (fndB (89 : Int) l) (fndN (89 : Int) l)))], false, [], []⟩) ∧
    (wE (-1 : Int) (0 : Int) (mI (cM m) (3 : Nat)) (fndB (88 : Int) l) (fndN (88 : Int) l) = (0 : Int) ∧ wE (-1 : Int) (1 : Int) (mI (cM m) (3 : Nat)) (fndB (89 : Int) l) (fndN (89 : Int) l) = (0 : Int) ∧ wE (-1 : Int) (2 : Int) (mI (cM m) (3 : Nat)) (fndB (90 : Int) l) (fndN (90 : Int) l) ≠ (0 : Int) →
    Q ⟨.tup [.agg [.int .i64 0, .int .i64 0, .int .i64 0], .ce (.bool false), .ce (.int .i64 (wE (-1 : Int) (2 : Int) (mI (cM m) (3 : Nat)) (fndB (90 : Int) l) (fndN (90 : Int) l)))], false, [], []⟩) ∧ (wE (-1 : Int) (0 : Int) (mI (cM m) (3 : Nat)) (fndB (88 : Int) l) (fndN (88 : Int) l) = (0 : Int) ∧
    wE (-1 : Int) (1 : Int) (mI (cM m) (3 : Nat)) (fndB (89 : Int) l) (fndN (89 : Int) l) = (0 : Int) ∧ wE (-1 : Int) (2 : Int) (mI (cM m) (3 : Nat)) (fndB (90 : Int) l) (fndN (90 : Int) l) = (0 : Int) → ((0 ≤ x2 ∧
    x2 ≤ 2 ∧ 0 ≤ x3 ∧ x3 ≤ 2) ∧ ∃ (m_1 : M), (cM m) = cM m_1) ∧ ∀ (x_1 : Bool), x_1 = (decide ((0 : Int) ≤ (-1 : Int)) && at3b x2 (fndB (88 : Int) l) (fndB (89 : Int) l) (fndB (90 : Int) l) != at3b x3 (fndB (88 : Int) l) (fndB (89 : Int) l) (fndB (90 : Int) l)) → (x_1 = true → Q ⟨.tup [.agg [.int .i64 0, .int .i64 0, .int .i64 0], .ce (.bool false), .ce (.int .i64 9)], false, [], []⟩) ∧ (x_1 = false → ((0 ≤ x2 ∧ x2 ≤ 2) ∧ ∃ (m_1 : M), (cM m) = cM m_1) ∧
    ∀ (x_2 : Bool), x_2 = (decide ((0 : Int) ≤ (-1 : Int)) && at3b x2 (fndB (88 : Int) l) (fndB (89 : Int) l) (fndB (90 : Int) l)) → ((0 ≤ x2 ∧ x2 ≤ 2 ∧ 0 ≤ x3 ∧ x3 ≤ 2) ∧ ∃ (m_1 : M), (cM m) = cM m_1) ∧ ∀ (x_3 : Int × Int × Int), (x_2 = false → x_3.1 = wN (-1 : Int) (0 : Int) (mI (cM m) (3 : Nat)) (fndB (88 : Int) l) (fndN (88 : Int) l) ∧
    x_3.snd.1 = wN (-1 : Int) (1 : Int) (mI (cM m) (3 : Nat)) (fndB (89 : Int) l) (fndN (89 : Int) l) ∧ x_3.snd.2 = wN (-1 : Int) (2 : Int) (mI (cM m) (3 : Nat)) (fndB (90 : Int) l) (fndN (90 : Int) l)) ∧ (x_2 = true →
    x_3.1 = put3 x2 x3 (rtU (at3 x2 (wN (-1 : Int) (0 : Int) (mI (cM m) (3 : Nat)) (fndB (88 : Int) l) (fndN (88 : Int) l)) (wN (-1 : Int) (1 : Int) (mI (cM m) (3 : Nat)) (fndB (89 : Int) l) (fndN (89 : Int) l)) (wN (-1 : Int) (2 : Int) (mI (cM m) (3 : Nat)) (fndB (90 : Int) l) (fndN (90 : Int) l))) (0 : Int) (at3 x3 (wN (-1 : Int) (0 : Int) (mI (cM m) (3 : Nat)) (fndB (88 : Int) l) (fndN (88 : Int) l)) (wN (-1 : Int) (1 : Int) (mI (cM m) (3 : Nat)) (fndB (89 : Int) l) (fndN (89 : Int) l)) (wN (-1 : Int) (2 : Int) (mI (cM m) (3 : Nat)) (fndB (90 : Int) l) (fndN (90 : Int) l)))) (rtW (at3 x2 (wN (-1 : Int) (0 : Int) (mI (cM m) (3 : Nat)) (fndB (88 : Int) l) (fndN (88 : Int) l)) (wN (-1 : Int) (1 : Int) (mI (cM m) (3 : Nat)) (fndB (89 : Int) l) (fndN (89 : Int) l)) (wN (-1 : Int) (2 : Int) (mI (cM m) (3 : Nat)) (fndB (90 : Int) l) (fndN (90 : Int) l))) (0 : Int) (at3 x3 (wN (-1 : Int) (0 : Int) (mI (cM m) (3 : Nat)) (fndB (88 : Int) l) (fndN (88 : Int) l)) (wN (-1 : Int) (1 : Int) (mI (cM m) (3 : Nat)) (fndB (89 : Int) l) (fndN (89 : Int) l)) (wN (-1 : Int) (2 : Int) (mI (cM m) (3 : Nat)) (fndB (90 : Int) l) (fndN (90 : Int) l)))) (0 : Int) (wN (-1 : Int) (0 : Int) (mI (cM m) (3 : Nat)) (fndB (88 : Int) l) (fndN (88 : Int) l)) ∧
    x_3.snd.1 = put3 x2 x3 (rtU (at3 x2 (wN (-1 : Int) (0 : Int) (mI (cM m) (3 : Nat)) (fndB (88 : Int) l) (fndN (88 : Int) l)) (wN (-1 : Int) (1 : Int) (mI (cM m) (3 : Nat)) (fndB (89 : Int) l) (fndN (89 : Int) l)) (wN (-1 : Int) (2 : Int) (mI (cM m) (3 : Nat)) (fndB (90 : Int) l) (fndN (90 : Int) l))) (0 : Int) (at3 x3 (wN (-1 : Int) (0 : Int) (mI (cM m) (3 : Nat)) (fndB (88 : Int) l) (fndN (88 : Int) l)) (wN (-1 : Int) (1 : Int) (mI (cM m) (3 : Nat)) (fndB (89 : Int) l) (fndN (89 : Int) l)) (wN (-1 : Int) (2 : Int) (mI (cM m) (3 : Nat)) (fndB (90 : Int) l) (fndN (90 : Int) l)))) (rtW (at3 x2 (wN (-1 : Int) (0 : Int) (mI (cM m) (3 : Nat)) (fndB (88 : Int) l) (fndN (88 : Int) l)) (wN (-1 : Int) (1 : Int) (mI (cM m) (3 : Nat)) (fndB (89 : Int) l) (fndN (89 : Int) l)) (wN (-1 : Int) (2 : Int) (mI (cM m) (3 : Nat)) (fndB (90 : Int) l) (fndN (90 : Int) l))) (0 : Int) (at3 x3 (wN (-1 : Int) (0 : Int) (mI (cM m) (3 : Nat)) (fndB (88 : Int) l) (fndN (88 : Int) l)) (wN (-1 : Int) (1 : Int) (mI (cM m) (3 : Nat)) (fndB (89 : Int) l) (fndN (89 : Int) l)) (wN (-1 : Int) (2 : Int) (mI (cM m) (3 : Nat)) (fndB (90 : Int) l) (fndN (90 : Int) l)))) (1 : Int) (wN (-1 : Int) (1 : Int) (mI (cM m) (3 : Nat)) (fndB (89 : Int) l) (fndN (89 : Int) l)) ∧
    x_3.snd.2 = put3 x2 x3 (rtU (at3 x2 (wN (-1 : Int) (0 : Int) (mI (cM m) (3 : Nat)) (fndB (88 : Int) l) (fndN (88 : Int) l)) (wN (-1 : Int) (1 : Int) (mI (cM m) (3 : Nat)) (fndB (89 : Int) l) (fndN (89 : Int) l)) (wN (-1 : Int) (2 : Int) (mI (cM m) (3 : Nat)) (fndB (90 : Int) l) (fndN (90 : Int) l))) (0 : Int) (at3 x3 (wN (-1 : Int) (0 : Int) (mI (cM m) (3 : Nat)) (fndB (88 : Int) l) (fndN (88 : Int) l)) (wN (-1 : Int) (1 : Int) (mI (cM m) (3 : Nat)) (fndB (89 : Int) l) (fndN (89 : Int) l)) (wN (-1 : Int) (2 : Int) (mI (cM m) (3 : Nat)) (fndB (90 : Int) l) (fndN (90 : Int) l)))) (rtW (at3 x2 (wN (-1 : Int) (0 : Int) (mI (cM m) (3 : Nat)) (fndB (88 : Int) l) (fndN (88 : Int) l)) (wN (-1 : Int) (1 : Int) (mI (cM m) (3 : Nat)) (fndB (89 : Int) l) (fndN (89 : Int) l)) (wN (-1 : Int) (2 : Int) (mI (cM m) (3 : Nat)) (fndB (90 : Int) l) (fndN (90 : Int) l))) (0 : Int) (at3 x3 (wN (-1 : Int) (0 : Int) (mI (cM m) (3 : Nat)) (fndB (88 : Int) l) (fndN (88 : Int) l)) (wN (-1 : Int) (1 : Int) (mI (cM m) (3 : Nat)) (fndB (89 : Int) l) (fndN (89 : Int) l)) (wN (-1 : Int) (2 : Int) (mI (cM m) (3 : Nat)) (fndB (90 : Int) l) (fndN (90 : Int) l)))) (2 : Int) (wN (-1 : Int) (2 : Int) (mI (cM m) (3 : Nat)) (fndB (90 : Int) l) (fndN (90 : Int) l))) →
    ((0 : Int) = (0 : Int) ∧ (∃ (m_1 : M), (cM m) = cM m_1) ∧ B3 (1099511627776 : Int) x y z ∧ (fndB (88 : Int) l = true → (-1099511627776 : Int) ≤ x_3.1 ∧ x_3.1 ≤ 1099511627776) ∧ (fndB (89 : Int) l = true → (-1099511627776 : Int) ≤ x_3.snd.1 ∧ x_3.snd.1 ≤ 1099511627776) ∧ (fndB (90 : Int) l = true → (-1099511627776 : Int) ≤ x_3.snd.2 ∧ x_3.snd.2 ≤ 1099511627776)) ∧ True ∧ ∀ (x16 : Bool), x16 = wn (mv (mI (cM m) (2 : Nat)) (fndB (88 : Int) l) x x_3.1) (mv (mI (cM m) (2 : Nat)) (fndB (89 : Int) l) y x_3.snd.1) (mv (mI (cM m) (2 : Nat)) (fndB (90 : Int) l) z x_3.snd.2) →
    ((!x16) = true → Q ⟨.tup [.agg [.int .i64 0, .int .i64 0, .int .i64 0], .ce (.bool false), .ce (.int .i64 3)], false, [], []⟩) ∧ ((!x16) = false → Q ⟨.tup [.agg [.int .i64 (mv (mI (cM m) (2 : Nat)) (fndB (88 : Int) l) x x_3.1), .int .i64 (mv (mI (cM m) (2 : Nat)) (fndB (89 : Int) l) y x_3.snd.1), .int .i64 (mv (mI (cM m) (2 : Nat)) (fndB (90 : Int) l) z x_3.snd.2)], .ce (.bool (fndB (88 : Int) l || (fndB (89 : Int) l || fndB (90 : Int) l))), .ce (.int .i64 0)], false, [], []⟩)))))) := by kernel_rfl
end Go.Proofs.YtgnknciihdajiaaDoor
namespace U
theorem lnN_bd (n u : Int) : -1048576 ≤ lnN n u ∧ lnN n u ≤ 1048576 := by
  unfold lnN
  by_cases h : lnE n u = 0
  · rw [if_pos h]
    unfold lnE at h
    cases hk : okU n u with
    | false => rw [hk] at h; simp at h
    | true =>
      rw [hk, if_pos rfl] at h
      by_cases h2 : lnV n u < -1048576 ∨ lnV n u > 1048576
      · rw [if_pos h2] at h; cases h
      · omega
  · rw [if_neg h]; decide
theorem wN_bd {a i u n : Int} {h : Bool} (hh : h = true) (hi : i ≠ a) : -1048576 ≤ wN a i u h n ∧ wN a i u h n ≤ 1048576 := by
  unfold wN; rw [if_pos ⟨hh, hi⟩]; exact lnN_bd n u
theorem wN_no {a i u n : Int} {h : Bool} (hh : ¬ (h = true ∧ i ≠ a)) : wN a i u h n = n := by unfold wN; rw [if_neg hh]
theorem wE_no {a i u n : Int} {h : Bool} (hh : ¬ (h = true ∧ i ≠ a)) : wE a i u h n = 0 := by unfold wE; rw [if_neg hh]
theorem put_bd {f s U W i n B : Int} (hU : -B ≤ U ∧ U ≤ B) (hW : -B ≤ W ∧ W ≤ B) (hn : i ≠ s → i ≠ f → -B ≤ n ∧ n ≤ B) : -B ≤ put3 f s U W i n ∧ put3 f s U W i n ≤ B := by
  unfold put3
  by_cases h1 : i = s
  · rw [if_pos h1]; exact hW
  · rw [if_neg h1]
    by_cases h2 : i = f
    · rw [if_pos h2]; exact hU
    · rw [if_neg h2]; exact hn h1 h2
theorem lstep {h : Bool} {a j u n : Int} {B C : Int → Prop} (hB : wE a j u h n ≠ 0 → B (wE a j u h n)) (hC : wE a j u h n = 0 → C (wN a j u h n)) :
    ((!h) = true → C n) ∧ ((!h) = false → ((j == a) = true → C n) ∧ ((j == a) = false → True ∧ ∀ x1, x1 = lnN n u → ∀ x2, x2 = lnE n u → ((x2 != 0) = true → B x2) ∧ ((x2 != 0) = false → C x1))) := by
  refine ⟨fun g => ?_, fun g => ⟨fun g2 => ?_, fun g2 => ⟨trivial, ?_⟩⟩⟩
  · have g := nt_f g
    have e : ¬ (h = true ∧ j ≠ a) := by rw [g]; exact fun k => by cases k.1
    have hC := hC (wE_no e)
    rw [wN_no e] at hC; exact hC
  · have e : ¬ (h = true ∧ j ≠ a) := fun k => k.2 (by simpa using g2)
    have hC := hC (wE_no e)
    rw [wN_no e] at hC; exact hC
  · have g := nf_t g
    have g2 : j ≠ a := by simpa using g2
    unfold wE at hB
    unfold wE wN at hC
    rw [if_pos ⟨g, g2⟩] at hB
    rw [if_pos ⟨g, g2⟩, if_pos ⟨g, g2⟩] at hC
    rintro _ rfl _ rfl
    exact ⟨fun k => hB (by simpa using k), fun k => hC (by simpa using k)⟩
theorem vstep {h : Bool} {d p n : Int} {C : Int → Prop} (hp : -1099511627776 ≤ p ∧ p ≤ 1099511627776) (hn : h = true → -1099511627776 ≤ n ∧ n ≤ 1099511627776) (hC : C (mv d h p n)) :
    (h = true → ((d == 91) = true → (-9223372036854775808 ≤ p + n ∧ p + n ≤ 9223372036854775807) ∧ ∀ x1, x1 = p + n → C x1) ∧ ((d == 91) = false → (h = true → C n) ∧ (h = false → C p))) ∧ (h = false → (h = true → C n) ∧ (h = false → C p)) := by
  unfold mv at hC
  refine ⟨fun g => ?_, fun g => ⟨fun g2 => (by rw [g] at g2; cases g2), fun _ => ?_⟩⟩
  · rw [if_pos g] at hC
    refine ⟨fun g2 => ⟨by have := hn g; omega, ?_⟩, fun g2 => ⟨fun _ => ?_, fun g3 => (by rw [g] at g3; cases g3)⟩⟩
    · rw [if_pos (by simpa using g2)] at hC
      rintro _ rfl; exact hC
    · rw [if_neg (by simpa using g2)] at hC; exact hC
  · rw [g] at hC; exact hC
theorem sp3 {f : Int} {A0 A1 A2 : Prop} (hf : 0 ≤ f ∧ f ≤ 2) (h0 : f = 0 → A0) (h1 : f = 1 → A1) (h2 : f = 2 → A2) :
    (f = 0 → A0) ∧ (f ≠ 0 → (f = 1 → A1) ∧ (f ≠ 1 → (f = 2 → A2) ∧ (f ≠ 2 → False))) := ⟨h0, fun _ => ⟨h1, fun _ => ⟨h2, fun _ => by omega⟩⟩⟩
theorem fs_bd (p : Int) : 0 ≤ fsP p ∧ fsP p ≤ 2 := by
  unfold fsP
  split
  · decide
  · split <;> decide
theorem sc_bd3 (p : Int) : 0 ≤ scP p ∧ scP p ≤ 2 := by
  unfold scP
  split
  · decide
  · split <;> decide
theorem fs_sc (p : Int) : fsP p ≠ scP p := by
  unfold fsP scP
  by_cases h : p = 18
  · rw [if_pos h, if_pos h]; decide
  · rw [if_neg h, if_neg h]
    by_cases h2 : p = 19
    · rw [if_pos h2, if_pos h2]; decide
    · rw [if_neg h2, if_neg h2]; decide
def nnk {α : Type} (k j : Nat) (v w : α) : α := if j < k then v else w
def anyK (k : Nat) (a b c : Bool) : Bool := if k = 0 then false else if k = 1 then a else if k = 2 then (a || b) else (a || (b || c))
end U
namespace Go.Proofs.YtgnknciihdajiaaDoor
open Go Go.HL U
attribute [local irreducible] hfun bodyT fragT
set_option maxHeartbeats 400000 in
set_option maxRecDepth 100000 in
theorem sFx : Sound Tryd.prog 46 SFx := by
  refine sound_of (C := CFx) [] Tryd.func46 (by kernel_rfl) (by decide +kernel) (by kernel_rfl) rfl trivial (loops0 (by kernel_rfl)) ?_
  intro hargs pars R h
  unfold SFx at h
  split at h
  case h_2 => exfalso; exact h
  rename_i p
  obtain ⟨_, hq⟩ := h
  unfold fsP scP at hq
  refine byVC (vcFx p R) ⟨fun g => ?_, fun g => ⟨fun g2 => ?_, fun g2 => ?_⟩⟩
  · rw [if_pos (eqp g), if_pos (eqp g)] at hq; exact hq
  · rw [if_neg (nep g), if_neg (nep g), if_pos (eqp g2), if_pos (eqp g2)] at hq; exact hq
  · rw [if_neg (nep g), if_neg (nep g), if_neg (nep g2), if_neg (nep g2)] at hq; exact hq
def encT1 (l : List (List Int)) (m : M) (t7 : Bool) (t8 x y z r0 r1 r2 : Int) (a : Bool) (n0 : Int) (h0 : Bool) (n1 : Int) (h1 : Bool) (n2 : Int) (h2 : Bool) (i : Int) : LV :=
  ([.ce (.sl false [4, 4] l), .ce (.ptr 1000003 0), .ce (.ptr 1000005 0), .ce (.ptr 1000006 0), .ce (.bool t7), .ce (.int .i64 t8), .ce (.ptr 1000009 0), .ce (.bool a), .agg [.int .i64 88, .int .i64 89, .int .i64 90], .ce (.num .i64 i)], [cM m, [.int .i64 x, .int .i64 y, .int .i64 z], [.int .i64 r0, .int .i64 r1, .int .i64 r2], [.int .i64 n0, .bool h0, .int .i64 n1, .bool h1, .int .i64 n2, .bool h2]])
theorem loopT1 : ∀ v Q, (LT1 v).wp Q → hloop CTgt anT1 (nthLoop Tryd.f17 0) v Q := by
  intro v Q h
  unfold LT1 at h
  split at h
  case h_2 => exact h.elim
  rename_i l t7 t8 a e0 e1 e2 i rm x y z r0 r1 r2 n0 h0 n1 h1 n2 h2
  obtain ⟨⟨k1, k2, ⟨k3, k4, k5⟩, hl, m, km⟩, hq⟩ := h
  subst k1 k2 k3 k4 k5 km
  refine hloop_rec (σ := Nat) (fun k => encT1 l m t7 t8 x y z r0 r1 r2 (anyK k (fndB 88 l) (fndB 89 l) (fndB 90 l)) (nnk k 0 (fndN 88 l) n0) (nnk k 0 (fndB 88 l) h0) (nnk k 1 (fndN 89 l) n1) (nnk k 1 (fndB 89 l) h1) (nnk k 2 (fndN 90 l) n2) (nnk k 2 (fndB 90 l) h2) (k : Int))
    (fun k => 3 - k) (fun k => k ≤ 3) ?_ 0 (Nat.zero_le _)
  intro k hk K hn hx _
  have hk : k = 0 ∨ k = 1 ∨ k = 2 ∨ k = 3 := by omega
  rcases hk with rfl | rfl | rfl | rfl
  · have nx : K .normal (encT1 l m t7 t8 x y z r0 r1 r2 (fndB 88 l) (fndN 88 l) (fndB 88 l) n1 h1 n2 h2 1) := hn 1 (by omega) (by omega)
    refine byVB (vbT10 l m t7 false h0 h1 h2 t8 88 89 90 x y z r0 r1 r2 n0 n1 n2 K) ⟨hl, ?_⟩
    rintro _ rfl _ rfl
    exact ⟨fun g => (by cases g), fun _ => nx⟩
  · have nx : K .normal (encT1 l m t7 t8 x y z r0 r1 r2 (fndB 88 l || fndB 89 l) (fndN 88 l) (fndB 88 l) (fndN 89 l) (fndB 89 l) n2 h2 2) := hn 2 (by omega) (by omega)
    refine byVB (vbT11 l m t7 (fndB 88 l) (fndB 88 l) h1 h2 t8 88 89 90 x y z r0 r1 r2 (fndN 88 l) n1 n2 K) ⟨hl, ?_⟩
    rintro _ rfl _ rfl
    refine ⟨fun g => ?_, fun g => ?_⟩
    · have e : (fndB 88 l || fndB 89 l) = true := by rw [g]; rfl
      rw [e] at nx; exact nx
    · have e : (fndB 88 l || fndB 89 l) = fndB 89 l := by rw [g]; rfl
      rw [e] at nx; exact nx
  · have nx : K .normal (encT1 l m t7 t8 x y z r0 r1 r2 (fndB 88 l || (fndB 89 l || fndB 90 l)) (fndN 88 l) (fndB 88 l) (fndN 89 l) (fndB 89 l) (fndN 90 l) (fndB 90 l) 3) := hn 3 (by omega) (by omega)
    refine byVB (vbT12 l m t7 (fndB 88 l || fndB 89 l) (fndB 88 l) (fndB 89 l) h2 t8 88 89 90 x y z r0 r1 r2 (fndN 88 l) (fndN 89 l) n2 K) ⟨hl, ?_⟩
    rintro _ rfl _ rfl
    rw [← Bool.or_assoc] at nx
    refine ⟨fun g => ?_, fun g => ?_⟩
    · have e : (fndB 88 l || fndB 89 l || fndB 90 l) = true := by rw [g]; rfl
      rw [e] at nx; exact nx
    · have e : (fndB 88 l || fndB 89 l || fndB 90 l) = fndB 90 l := by rw [g]; rfl
      rw [e] at nx; exact nx
  · exact byVB (vbT13 l m t7 _ _ _ _ t8 88 89 90 x y z r0 r1 r2 _ _ _ K) (hx _ _ hq)
def encT2 (m : M) (t7 : Bool) (t8 : Int) (y0 : Bool) (f s a x y z r0 r1 r2 n0 : Int) (h0 : Bool) (n1 : Int) (h1 : Bool) (n2 : Int) (h2 : Bool) (i : Int) : LV :=
  ([.ce (.ptr 1000003 0), .ce (.ptr 1000005 0), .ce (.ptr 1000006 0), .ce (.bool t7), .ce (.int .i64 t8), .ce (.ptr 1000009 0), .ce (.bool y0), .ce (.int .i64 f), .ce (.int .i64 s), .ce (.int .i64 a), .ce (.num .i64 i)], [cM m, [.int .i64 x, .int .i64 y, .int .i64 z], [.int .i64 r0, .int .i64 r1, .int .i64 r2], [.int .i64 n0, .bool h0, .int .i64 n1, .bool h1, .int .i64 n2, .bool h2]])
def retT2 (m : M) (e : Int) (y0 : Bool) (f s a x y z n0 : Int) (h0 : Bool) (n1 : Int) (h1 : Bool) (n2 : Int) (h2 : Bool) : LV :=
  ([.ce (.ptr 1000003 0), .ce (.ptr 1000005 0), .ce (.ptr 1000006 0), .ce (.bool false), .ce (.int .i64 e), .ce (.ptr 1000009 0), .ce (.bool y0), .ce (.int .i64 f), .ce (.int .i64 s), .ce (.int .i64 a)], [cM m, [.int .i64 x, .int .i64 y, .int .i64 z], [.int .i64 0, .int .i64 0, .int .i64 0], [.int .i64 n0, .bool h0, .int .i64 n1, .bool h1, .int .i64 n2, .bool h2]])
theorem loopT2 : ∀ v Q, (LT2 v).wp Q → hloop CTgt anT2 (nthLoop Tryd.f17 1) v Q := by
  intro v Q h
  unfold LT2 at h
  split at h
  case h_2 => exact h.elim
  rename_i t7 t8 y0 f s a i rm x y z r0 r1 r2 n0 h0 n1 h1 n2 h2
  obtain ⟨⟨k1, m, km⟩, hq⟩ := h
  subst k1 km
  refine hloop_rec (σ := Nat) (fun k => encT2 m t7 t8 y0 f s a x y z r0 r1 r2 (nnk k 0 (wN a 0 m.m3 h0 n0) n0) h0 (nnk k 1 (wN a 1 m.m3 h1 n1) n1) h1 (nnk k 2 (wN a 2 m.m3 h2 n2) n2) h2 (k : Int))
    (fun k => 3 - k) (fun k => k ≤ 3 ∧ (0 < k → wE a 0 m.m3 h0 n0 = 0) ∧ (1 < k → wE a 1 m.m3 h1 n1 = 0) ∧ (2 < k → wE a 2 m.m3 h2 n2 = 0)) ?_ 0 ⟨Nat.zero_le _, fun k => (by omega), fun k => (by omega), fun k => (by omega)⟩
  intro k hk K hn hx hr
  obtain ⟨hk, i0, i1, i2⟩ := hk
  have hk : k = 0 ∨ k = 1 ∨ k = 2 ∨ k = 3 := by omega
  rcases hk with rfl | rfl | rfl | rfl
  · exact byVB (vbT20 m t7 y0 h0 h1 h2 t8 f s a x y z r0 r1 r2 n0 n1 n2 K) (lstep (B := fun e => K .ret (retT2 m e y0 f s a x y z n0 h0 n1 h1 n2 h2)) (C := fun n => K .normal (encT2 m t7 t8 y0 f s a x y z r0 r1 r2 n h0 n1 h1 n2 h2 1))
      (fun g => hr _ (hq.1 g)) (fun g => hn 1 ⟨by omega, fun _ => g, fun k => (by omega), fun k => (by omega)⟩ (by omega)))
  · exact byVB (vbT21 m t7 y0 h0 h1 h2 t8 f s a x y z r0 r1 r2 (wN a 0 m.m3 h0 n0) n1 n2 K) (lstep (B := fun e => K .ret (retT2 m e y0 f s a x y z (wN a 0 m.m3 h0 n0) h0 n1 h1 n2 h2)) (C := fun n => K .normal (encT2 m t7 t8 y0 f s a x y z r0 r1 r2 (wN a 0 m.m3 h0 n0) h0 n h1 n2 h2 2))
      (fun g => hr _ (hq.2.1 ⟨i0 (by omega), g⟩)) (fun g => hn 2 ⟨by omega, fun _ => i0 (by omega), fun _ => g, fun k => (by omega)⟩ (by omega)))
  · exact byVB (vbT22 m t7 y0 h0 h1 h2 t8 f s a x y z r0 r1 r2 (wN a 0 m.m3 h0 n0) (wN a 1 m.m3 h1 n1) n2 K) (lstep (B := fun e => K .ret (retT2 m e y0 f s a x y z (wN a 0 m.m3 h0 n0) h0 (wN a 1 m.m3 h1 n1) h1 n2 h2)) (C := fun n => K .normal (encT2 m t7 t8 y0 f s a x y z r0 r1 r2 (wN a 0 m.m3 h0 n0) h0 (wN a 1 m.m3 h1 n1) h1 n h2 3))
      (fun g => hr _ (hq.2.2.1 ⟨i0 (by omega), i1 (by omega), g⟩)) (fun g => hn 3 ⟨by omega, fun _ => i0 (by omega), fun _ => i1 (by omega), fun _ => g⟩ (by omega)))
  · exact byVB (vbT23 m t7 y0 h0 h1 h2 t8 f s a x y z r0 r1 r2 _ _ _ K) (hx _ _ (hq.2.2.2 ⟨i0 (by omega), i1 (by omega), i2 (by omega)⟩))
def encT6 (m : M) (y0 : Bool) (n0 : Int) (h0 : Bool) (n1 : Int) (h1 : Bool) (n2 : Int) (h2 : Bool) (r0 r1 r2 x y z i : Int) : LV :=
  ([.ce (.ptr 1000003 0), .ce (.ptr 1000006 0), .ce (.bool y0), .ce (.ptr 1000019 0), .agg [.int .i64 n0, .bool h0, .int .i64 n1, .bool h1, .int .i64 n2, .bool h2], .ce (.num .i64 i)], [cM m, [.int .i64 r0, .int .i64 r1, .int .i64 r2], [.int .i64 x, .int .i64 y, .int .i64 z]])
theorem loopT6 : ∀ v Q, (LT6 v).wp Q → hloop CTgt anT6 (nthLoop Tryd.f17 2) v Q := by
  intro v Q h
  unfold LT6 at h
  split at h
  case h_2 => exact h.elim
  rename_i y0 n0 h0 n1 h1 n2 h2 i rm r0 r1 r2 x y z
  obtain ⟨⟨k1, ⟨m, km⟩, hb, b0, b1, b2⟩, hq⟩ := h
  subst k1 km
  obtain ⟨bx, bY, bz⟩ := hb
  refine hloop_rec (σ := Nat) (fun k => encT6 m y0 n0 h0 n1 h1 n2 h2 r0 r1 r2 (nnk k 0 (mv m.m2 h0 x n0) x) (nnk k 1 (mv m.m2 h1 y n1) y) (nnk k 2 (mv m.m2 h2 z n2) z) (k : Int))
    (fun k => 3 - k) (fun k => k ≤ 3) ?_ 0 (Nat.zero_le _)
  intro k hk K hn hx hr
  have hk : k = 0 ∨ k = 1 ∨ k = 2 ∨ k = 3 := by omega
  rcases hk with rfl | rfl | rfl | rfl
  · exact byVB (vbT60 m y0 h0 h1 h2 x y z r0 r1 r2 n0 n1 n2 K) (vstep (C := fun v => K .normal (encT6 m y0 n0 h0 n1 h1 n2 h2 r0 r1 r2 v y z 1)) bx b0 (hn 1 (by omega) (by omega)))
  · exact byVB (vbT61 m y0 h0 h1 h2 (mv m.m2 h0 x n0) y z r0 r1 r2 n0 n1 n2 K) (vstep (C := fun v => K .normal (encT6 m y0 n0 h0 n1 h1 n2 h2 r0 r1 r2 (mv m.m2 h0 x n0) v z 2)) bY b1 (hn 2 (by omega) (by omega)))
  · exact byVB (vbT62 m y0 h0 h1 h2 (mv m.m2 h0 x n0) (mv m.m2 h1 y n1) z r0 r1 r2 n0 n1 n2 K) (vstep (C := fun v => K .normal (encT6 m y0 n0 h0 n1 h1 n2 h2 r0 r1 r2 (mv m.m2 h0 x n0) (mv m.m2 h1 y n1) v 3)) bz b2 (hn 3 (by omega) (by omega)))
  · exact byVB (vbT63 m y0 h0 h1 h2 _ _ _ r0 r1 r2 n0 n1 n2 K) (hx _ _ hq)
theorem fragT3 : ∀ v Q, (LT3 v).wp Q → fragT CTgt anT3 (nthFrag CTgt Tryd.f17 0) v Q := by
  intro v Q h
  unfold LT3 at h
  split at h
  case h_2 => exact h.elim
  rename_i t7 t8 y0 f s a rm x y z r0 r1 r2 n0 h0 n1 h1 n2 h2
  obtain ⟨⟨⟨f1, f2, s1, s2⟩, m, km⟩, hq⟩ := h
  subst km
  refine byVG (vgT3 m t7 y0 h0 h1 h2 t8 f s a x y z r0 r1 r2 n0 n1 n2 Q) (sp3 ⟨f1, f2⟩ ?_ ?_ ?_)
  all_goals
    intro e
    subst e
    refine sp3 ⟨s1, s2⟩ ?_ ?_ ?_
    all_goals
      intro e
      subst e
      exact ⟨fun g => hq _ (by rw [show decide (0 ≤ a) = true from g]; rfl), fun g => hq _ (by rw [show decide (0 ≤ a) = false from g]; rfl)⟩
theorem fragT4 : ∀ v Q, (LT4 v).wp Q → fragT CTgt anT4 (nthFrag CTgt Tryd.f17 1) v Q := by
  intro v Q h
  unfold LT4 at h
  split at h
  case h_2 => exact h.elim
  rename_i y0 f s a rm r0 r1 r2 n0 h0 n1 h1 n2 h2 x y z
  obtain ⟨⟨⟨f1, f2⟩, m, km⟩, hq⟩ := h
  subst km
  refine byVG (vgT4 m y0 h0 h1 h2 f s a x y z r0 r1 r2 n0 n1 n2 Q) (sp3 ⟨f1, f2⟩ ?_ ?_ ?_)
  all_goals
    intro e
    subst e
    exact ⟨fun g => hq _ (by rw [show decide (0 ≤ a) = true from g]; rfl), fun g => hq _ (by rw [show decide (0 ≤ a) = false from g]; rfl)⟩
theorem fragT5 : ∀ v Q, (LT5 v).wp Q → fragT CTgt anT5 (nthFrag CTgt Tryd.f17 2) v Q := by
  intro v Q h
  unfold LT5 at h
  split at h
  case h_2 => exact h.elim
  rename_i y0 f s c rm r0 r1 r2 n0 h0 n1 h1 n2 h2 x y z
  obtain ⟨⟨⟨f1, f2, s1, s2⟩, m, km⟩, hq⟩ := h
  subst km
  refine byVG (vgT5 m y0 h0 h1 h2 c f s x y z r0 r1 r2 n0 n1 n2 Q) ⟨fun g => sp3 ⟨f1, f2⟩ ?_ ?_ ?_, fun g => hq (n0, n1, n2) ⟨fun _ => ⟨rfl, rfl, rfl⟩, fun g2 => (by rw [g] at g2; cases g2)⟩⟩
  all_goals
    intro e
    subst e
    refine sp3 ⟨s1, s2⟩ ?_ ?_ ?_
    all_goals
      intro e
      subst e
      refine ⟨trivial, fun u eu w ew b _ => hq (_, _, _) ⟨fun g2 => (by rw [g] at g2; cases g2), fun _ => ⟨?_, ?_, ?_⟩⟩⟩
      all_goals first
        | exact eu
        | exact ew
        | rfl
theorem tgTail (m : M) (l : List (List Int)) (x y z : Int) (R : Res → Prop) (f s a : Int) (hxyz : B3 1048576 x y z) (hf : 0 ≤ f ∧ f ≤ 2) (hs : 0 ≤ s ∧ s ≤ 2) (hfs : f ≠ s) (ha : 0 ≤ a → a = s)
    (hR : ∀ r, r = tg1 f s a m.m2 m.m3 (fndB 88 l) (fndB 89 l) (fndB 90 l) x y z (fndN 88 l) (fndN 89 l) (fndN 90 l) → R ⟨.tup [.agg [.int .i64 r.x, .int .i64 r.y, .int .i64 r.z], .ce (.bool r.any), .ce (.int .i64 r.e)], false, [], []⟩) :
    ((0 : Int) = (0 : Int) ∧ ∃ (m_1 : M), (cM m) = cM m_1) ∧ (wE a (0 : Int) (mI (cM m) (3 : Nat)) (fndB (88 : Int) l) (fndN (88 : Int) l) ≠ (0 : Int) → R ⟨.tup [.agg [.int .i64 0, .int .i64 0, .int .i64 0], .ce (.bool false), .ce (.int .i64 (wE a (0 : Int) (mI (cM m) (3 : Nat)) (fndB (88 : Int) l) (fndN (88 : Int) l)))], false, [], []⟩) ∧ (wE a (0 : Int) (mI (cM m) (3 : Nat)) (fndB (88 : Int) l) (fndN (88 : Int) l) = (0 : Int) ∧ wE a (1 : Int) (mI (cM m) (3 : Nat)) (fndB (89 : Int) l) (fndN (89 : Int) l) ≠ (0 : Int) → R ⟨.tup [.agg [.int .i64 0, .int .i64 0, .int .i64 0], .ce (.bool false), .ce (.int .i64 (wE a (1 : Int) (mI (cM m) (3 : Nat)) (fndB (89 : Int) l) (fndN (89 : Int) l)))], false, [], []⟩) ∧ (wE a (0 : Int) (mI (cM m) (3 : Nat)) (fndB (88 : Int) l) (fndN (88 : Int) l) = (0 : Int) ∧ wE a (1 : Int) (mI (cM m) (3 : Nat)) (fndB (89 : Int) l) (fndN (89 : Int) l) = (0 : Int) ∧ wE a (2 : Int) (mI (cM m) (3 : Nat)) (fndB (90 : Int) l) (fndN (90 : Int) l) ≠ (0 : Int) → R ⟨.tup [.agg [.int .i64 0, .int .i64 0, .int .i64 0], .ce (.bool false), .ce (.int .i64 (wE a (2 : Int) (mI (cM m) (3 : Nat)) (fndB (90 : Int) l) (fndN (90 : Int) l)))], false, [], []⟩) ∧ (wE a (0 : Int) (mI (cM m) (3 : Nat)) (fndB (88 : Int) l) (fndN (88 : Int) l) = (0 : Int) ∧ wE a (1 : Int) (mI (cM m) (3 : Nat)) (fndB (89 : Int) l) (fndN (89 : Int) l) = (0 : Int) ∧ wE a (2 : Int) (mI (cM m) (3 : Nat)) (fndB (90 : Int) l) (fndN (90 : Int) l) = (0 : Int) → ((0 ≤ f ∧ f ≤ 2 ∧ 0 ≤ s ∧ s ≤ 2) ∧ ∃ (m_1 : M), (cM m) = cM m_1) ∧ ∀ (x_1 : Bool), x_1 = (decide ((0 : Int) ≤ a) && at3b f (fndB (88 : Int) l) (fndB (89 : Int) l) (fndB (90 : Int) l) != at3b s (fndB (88 : Int) l) (fndB (89 : Int) l) (fndB (90 : Int) l)) → (x_1 = true → R ⟨.tup [.agg [.int .i64 0, .int .i64 0, .int .i64 0], .ce (.bool false), .ce (.int .i64 9)], false, [], []⟩) ∧ (x_1 = false → ((0 ≤ f ∧ f ≤ 2) ∧ ∃ (m_1 : M), (cM m) = cM m_1) ∧ ∀ (x_2 : Bool), x_2 = (decide ((0 : Int) ≤ a) && at3b f (fndB (88 : Int) l) (fndB (89 : Int) l) (fndB (90 : Int) l)) → ((0 ≤ f ∧ f ≤ 2 ∧ 0 ≤ s ∧ s ≤ 2) ∧ ∃ (m_1 : M), (cM m) = cM m_1) ∧ ∀ (x_3 : Int × Int × Int), (x_2 = false → x_3.1 = wN a (0 : Int) (mI (cM m) (3 : Nat)) (fndB (88 : Int) l) (fndN (88 : Int) l) ∧ x_3.snd.1 = wN a (1 : Int) (mI (cM m) (3 : Nat)) (fndB (89 : Int) l) (fndN (89 : Int) l) ∧ x_3.snd.2 = wN a (2 : Int) (mI (cM m) (3 : Nat)) (fndB (90 : Int) l) (fndN (90 : Int) l)) ∧ (x_2 = true → x_3.1 = put3 f s (rtU (at3 f (wN a (0 : Int) (mI (cM m) (3 : Nat)) (fndB (88 : Int) l) (fndN (88 : Int) l)) (wN a (1 : Int) (mI (cM m) (3 : Nat)) (fndB (89 : Int) l) (fndN (89 : Int) l)) (wN a (2 : Int) (mI (cM m) (3 : Nat)) (fndB (90 : Int) l) (fndN (90 : Int) l))) (0 : Int) (at3 s (wN a (0 : Int) (mI (cM m) (3 : Nat)) (fndB (88 : Int) l) (fndN (88 : Int) l)) (wN a (1 : Int) (mI (cM m) (3 : Nat)) (fndB (89 : Int) l) (fndN (89 : Int) l)) (wN a (2 : Int) (mI (cM m) (3 : Nat)) (fndB (90 : Int) l) (fndN (90 : Int) l)))) (rtW (at3 f (wN a (0 : Int) (mI (cM m) (3 : Nat)) (fndB (88 : Int) l) (fndN (88 : Int) l)) (wN a (1 : Int) (mI (cM m) (3 : Nat)) (fndB (89 : Int) l) (fndN (89 : Int) l)) (wN a (2 : Int) (mI (cM m) (3 : Nat)) (fndB (90 : Int) l) (fndN (90 : Int) l))) (0 : Int) (at3 s (wN a (0 : Int) (mI (cM m) (3 : Nat)) (fndB (88 : Int) l) (fndN (88 : Int) l)) (wN a (1 : Int) (mI (cM m) (3 : Nat)) (fndB (89 : Int) l) (fndN (89 : Int) l)) (wN a (2 : Int) (mI (cM m) (3 : Nat)) (fndB (90 : Int) l) (fndN (90 : Int) l)))) (0 : Int) (wN a (0 : Int) (mI (cM m) (3 : Nat)) (fndB (88 : Int) l) (fndN (88 : Int) l)) ∧ x_3.snd.1 = put3 f s (rtU (at3 f (wN a (0 : Int) (mI (cM m) (3 : Nat)) (fndB (88 : Int) l) (fndN (88 : Int) l)) (wN a (1 : Int) (mI (cM m) (3 : Nat)) (fndB (89 : Int) l) (fndN (89 : Int) l)) (wN a (2 : Int) (mI (cM m) (3 : Nat)) (fndB (90 : Int) l) (fndN (90 : Int) l))) (0 : Int) (at3 s (wN a (0 : Int) (mI (cM m) (3 : Nat)) (fndB (88 : Int) l) (fndN (88 : Int) l)) (wN a (1 : Int) (mI (cM m) (3 : Nat)) (fndB (89 : Int) l) (fndN (89 : Int) l)) (wN a (2 : Int) (mI (cM m) (3 : Nat)) (fndB (90 : Int) l) (fndN (90 : Int) l)))) (rtW (at3 f (wN a (0 : Int) (mI (cM m) (3 : Nat)) (fndB (88 : Int) l) (fndN (88 : Int) l)) (wN a (1 : Int) (mI (cM m) (3 : Nat)) (fndB (89 : Int) l) (fndN (89 : Int) l)) (wN a (2 : Int) (mI (cM m) (3 : Nat)) (fndB (90 : Int) l) (fndN (90 : Int) l))) (0 : Int) (at3 s (wN a (0 : Int) (mI (cM m) (3 : Nat)) (fndB (88 : Int) l) (fndN (88 : Int) l)) (wN a (1 : Int) (mI (cM m) (3 : Nat)) (fndB (89 : Int) l) (fndN (89 : Int) l)) (wN a (2 : Int) (mI (cM m) (3 : Nat)) (fndB (90 : Int) l) (fndN (90 : Int) l)))) (1 : Int) (wN a (1 : Int) (mI (cM m) (3 : Nat)) (fndB (89 : Int) l) (fndN (89 : Int) l)) ∧ x_3.snd.2 = put3 f s (rtU (at3 f (wN a (0 : Int) (mI (cM m) (3 : Nat)) (fndB (88 : Int) l) (fndN (88 : Int) l)) (wN a (1 : Int) (mI (cM m) (3 : Nat)) (fndB (89 : Int) l) (fndN (89 : Int) l)) (wN a (2 : Int) (mI (cM m) (3 : Nat)) (fndB (90 : Int) l) (fndN (90 : Int) l))) (0 : Int) (at3 s (wN a (0 : Int) (mI (cM m) (3 : Nat)) (fndB (88 : Int) l) (fndN (88 : Int) l)) (wN a (1 : Int) (mI (cM m) (3 : Nat)) (fndB (89 : Int) l) (fndN (89 : Int) l)) (wN a (2 : Int) (mI (cM m) (3 : Nat)) (fndB (90 : Int) l) (fndN (90 : Int) l)))) (rtW (at3 f (wN a (0 : Int) (mI (cM m) (3 : Nat)) (fndB (88 : Int) l) (fndN (88 : Int) l)) (wN a (1 : Int) (mI (cM m) (3 : Nat)) (fndB (89 : Int) l) (fndN (89 : Int) l)) (wN a (2 : Int) (mI (cM m) (3 : Nat)) (fndB (90 : Int) l) (fndN (90 : Int) l))) (0 : Int) (at3 s (wN a (0 : Int) (mI (cM m) (3 : Nat)) (fndB (88 : Int) l) (fndN (88 : Int) l)) (wN a (1 : Int) (mI (cM m) (3 : Nat)) (fndB (89 : Int) l) (fndN (89 : Int) l)) (wN a (2 : Int) (mI (cM m) (3 : Nat)) (fndB (90 : Int) l) (fndN (90 : Int) l)))) (2 : Int) (wN a (2 : Int) (mI (cM m) (3 : Nat)) (fndB (90 : Int) l) (fndN (90 : Int) l))) → ((0 : Int) = (0 : Int) ∧ (∃ (m_1 : M), (cM m) = cM m_1) ∧ B3 (1099511627776 : Int) x y z ∧ (fndB (88 : Int) l = true → (-1099511627776 : Int) ≤ x_3.1 ∧ x_3.1 ≤ 1099511627776) ∧ (fndB (89 : Int) l = true → (-1099511627776 : Int) ≤ x_3.snd.1 ∧ x_3.snd.1 ≤ 1099511627776) ∧ (fndB (90 : Int) l = true → (-1099511627776 : Int) ≤ x_3.snd.2 ∧ x_3.snd.2 ≤ 1099511627776)) ∧ True ∧ ∀ (x16 : Bool), x16 = wn (mv (mI (cM m) (2 : Nat)) (fndB (88 : Int) l) x x_3.1) (mv (mI (cM m) (2 : Nat)) (fndB (89 : Int) l) y x_3.snd.1) (mv (mI (cM m) (2 : Nat)) (fndB (90 : Int) l) z x_3.snd.2) → ((!x16) = true → R ⟨.tup [.agg [.int .i64 0, .int .i64 0, .int .i64 0], .ce (.bool false), .ce (.int .i64 3)], false, [], []⟩) ∧ ((!x16) = false → R ⟨.tup [.agg [.int .i64 (mv (mI (cM m) (2 : Nat)) (fndB (88 : Int) l) x x_3.1), .int .i64 (mv (mI (cM m) (2 : Nat)) (fndB (89 : Int) l) y x_3.snd.1), .int .i64 (mv (mI (cM m) (2 : Nat)) (fndB (90 : Int) l) z x_3.snd.2)], .ce (.bool (fndB (88 : Int) l || (fndB (89 : Int) l || fndB (90 : Int) l))), .ce (.int .i64 0)], false, [], []⟩))) := by
  have hR : ∀ r, r = tg1 f s a (mI (cM m) 2) (mI (cM m) 3) (fndB 88 l) (fndB 89 l) (fndB 90 l) x y z (fndN 88 l) (fndN 89 l) (fndN 90 l) → R ⟨.tup [.agg [.int .i64 r.x, .int .i64 r.y, .int .i64 r.z], .ce (.bool r.any), .ce (.int .i64 r.e)], false, [], []⟩ := hR
  generalize fndB 88 l = b0 at *
  generalize fndB 89 l = b1 at *
  generalize fndB 90 l = b2 at *
  generalize fndN 88 l = n0 at *
  generalize fndN 89 l = n1 at *
  generalize fndN 90 l = n2 at *
  generalize mI (cM m) 2 = dd at *
  generalize mI (cM m) 3 = u at *
  refine ⟨⟨rfl, m, rfl⟩, fun c => ?_, fun c => ?_, fun c => ?_, fun c => ?_⟩
  · exact hR ⟨0, 0, 0, false, wE a 0 u b0 n0⟩ (by unfold tg1; rw [if_pos c])
  · exact hR ⟨0, 0, 0, false, wE a 1 u b1 n1⟩ (by unfold tg1; rw [if_neg (fun k => k c.1), if_pos c.2])
  · exact hR ⟨0, 0, 0, false, wE a 2 u b2 n2⟩ (by unfold tg1; rw [if_neg (fun k => k c.1), if_neg (fun k => k c.2.1), if_pos c.2.2])
  unfold tg1 at hR
  rw [if_neg (fun k => k c.1), if_neg (fun k => k c.2.1), if_neg (fun k => k c.2.2)] at hR
  have q0 : b0 = true → (0 : Int) ≠ a → -1048576 ≤ wN a 0 u b0 n0 ∧ wN a 0 u b0 n0 ≤ 1048576 := fun k1 k2 => wN_bd k1 k2
  have q1 : b1 = true → (1 : Int) ≠ a → -1048576 ≤ wN a 1 u b1 n1 ∧ wN a 1 u b1 n1 ≤ 1048576 := fun k1 k2 => wN_bd k1 k2
  have q2 : b2 = true → (2 : Int) ≠ a → -1048576 ≤ wN a 2 u b2 n2 ∧ wN a 2 u b2 n2 ≤ 1048576 := fun k1 k2 => wN_bd k1 k2
  generalize wN a 0 u b0 n0 = w0 at *
  generalize wN a 1 u b1 n1 = w1 at *
  generalize wN a 2 u b2 n2 = w2 at *
  refine ⟨⟨⟨hf.1, hf.2, hs.1, hs.2⟩, m, rfl⟩, fun b eb => ⟨fun g => ?_, fun g => ?_⟩⟩
  · exact hR ⟨0, 0, 0, false, 9⟩ (by unfold tg2; rw [if_pos (eb.symm.trans g)])
  have g9 := eb.symm.trans g
  unfold tg2 at hR
  rw [if_neg (by rw [g9]; decide)] at hR
  refine ⟨⟨hf, m, rfl⟩, fun p ep => ⟨⟨⟨hf.1, hf.2, hs.1, hs.2⟩, m, rfl⟩, fun q hq => ?_⟩⟩
  rw [← ep] at hR
  have rb := rt_bd (at3 f w0 w1 w2) 0 (at3 s w0 w1 w2)
  have na : p = false → ∀ i : Int, i = a → 0 ≤ i → at3b i b0 b1 b2 = true → False := by
    intro hp i hi h0 hb
    have ha2 := ha (by omega)
    rw [ha2] at hi
    rw [hi] at hb
    have ge : decide (0 ≤ a) = true := decide_eq_true (by omega)
    rw [ge, Bool.true_and] at g9 ep
    rw [hp] at ep
    rw [← ep, hb] at g9
    cases g9
  have bd : bmv b0 q.1 ∧ bmv b1 q.2.1 ∧ bmv b2 q.2.2 := by
    cases hp : p with
    | false =>
      obtain ⟨k0, k1, k2⟩ := hq.1 hp
      rw [k0, k1, k2]
      refine ⟨fun k => ?_, fun k => ?_, fun k => ?_⟩
      · have := q0 k (fun j => na hp 0 j (by decide) k); omega
      · have := q1 k (fun j => na hp 1 j (by decide) k); omega
      · have := q2 k (fun j => na hp 2 j (by decide) k); omega
    | true =>
      obtain ⟨k0, k1, k2⟩ := hq.2 hp
      have aa : 0 ≤ a := by
        rw [hp] at ep
        have ep := ep.symm
        rw [Bool.and_eq_true] at ep
        exact of_decide_eq_true ep.1
      have aa := ha aa
      rw [k0, k1, k2]
      refine ⟨fun k => put_bd (B := 1099511627776) (by omega) (by omega) fun j1 _ => ?_, fun k => put_bd (B := 1099511627776) (by omega) (by omega) fun j1 _ => ?_, fun k => put_bd (B := 1099511627776) (by omega) (by omega) fun j1 _ => ?_⟩
      · have := q0 k (by rw [aa]; exact j1); omega
      · have := q1 k (by rw [aa]; exact j1); omega
      · have := q2 k (by rw [aa]; exact j1); omega
  refine ⟨⟨rfl, ⟨m, rfl⟩, B3_mono hxyz (by decide), bd.1, bd.2.1, bd.2.2⟩, trivial, fun x8 e8 => ?_⟩
  have et : (if p = true then
      tg3 dd b0 b1 b2 x y z (put3 f s (rtU (at3 f w0 w1 w2) 0 (at3 s w0 w1 w2)) (rtW (at3 f w0 w1 w2) 0 (at3 s w0 w1 w2)) 0 w0)
        (put3 f s (rtU (at3 f w0 w1 w2) 0 (at3 s w0 w1 w2)) (rtW (at3 f w0 w1 w2) 0 (at3 s w0 w1 w2)) 1 w1)
        (put3 f s (rtU (at3 f w0 w1 w2) 0 (at3 s w0 w1 w2)) (rtW (at3 f w0 w1 w2) 0 (at3 s w0 w1 w2)) 2 w2)
      else tg3 dd b0 b1 b2 x y z w0 w1 w2) = tg3 dd b0 b1 b2 x y z q.1 q.2.1 q.2.2 := by
    cases hp : p with
    | false =>
      obtain ⟨k0, k1, k2⟩ := hq.1 hp
      rw [k0, k1, k2]; rfl
    | true =>
      obtain ⟨k0, k1, k2⟩ := hq.2 hp
      rw [k0, k1, k2]; rfl
  rw [et] at hR
  unfold tg3 at hR
  refine ⟨fun g => ?_, fun g => ?_⟩
  · exact hR ⟨0, 0, 0, false, 3⟩ (by rw [if_neg (by rw [e8.symm.trans (nt_f g)]; decide)])
  · exact hR ⟨mv dd b0 x q.1, mv dd b1 y q.2.1, mv dd b2 z q.2.2, b0 || (b1 || b2), 0⟩ (by rw [if_pos (e8.symm.trans (nf_t g))])
set_option maxHeartbeats 400000 in
set_option maxRecDepth 100000 in
theorem sTgt : Sound Tryd.prog 17 STgt := by
  refine sound_of (C := CTgt) tabTgt Tryd.func17 (by kernel_rfl) (by decide +kernel) (by kernel_rfl) rfl ⟨sWn, sFind, sFx, sPl, sLen, sRot, trivial⟩ (loopsG [nthLoop Tryd.f17 0, nthLoop Tryd.f17 1, nthLoop Tryd.f17 2] [nthFrag CTgt Tryd.f17 0, nthFrag CTgt Tryd.f17 1, nthFrag CTgt Tryd.f17 2] (by kernel_rfl) (by kernel_rfl) ⟨loopOK_of (an := anT1) (S := LT1) (by kernel_rfl) loopT1, loopOK_of (an := anT2) (S := LT2) (by kernel_rfl) loopT2, loopOK_of (an := anT6) (S := LT6) (by kernel_rfl) loopT6, trivial⟩ ⟨fragOK_of (an := anT3) (S := LT3) (by kernel_rfl) fragT3, fragOK_of (an := anT4) (S := LT4) (by kernel_rfl) fragT4, fragOK_of (an := anT5) (S := LT5) (by kernel_rfl) fragT5, trivial⟩) ?_
  intro hargs pars R h
  unfold STgt at h
  split at h
  case h_2 => exfalso; exact h
  rename_i cs l x y z
  split at h
  case h_2 => exact h.elim
  rename_i m0 m1 m2 m3 m4 m5 m6 m7 m8 m9 m10 m11 m12 m13 m14 m15 m16 m17 m18 m19 m20 m21
  obtain ⟨⟨hl, hp⟩, _, hR⟩ := h
  refine byVC (vcTgt ⟨m0, m1, m2, m3, m4, m5, m6, m7, m8, m9, m10, m11, m12, m13, m14, m15, m16, m17, m18, m19, m20, m21⟩ l x y z R) ⟨trivial, fun x1 e1 => ⟨fun g => ?_, fun g => ?_⟩⟩
  · have w := e1.symm.trans (nt_f g)
    exact hR ⟨0, 0, 0, false, 1⟩ (by unfold tgF; rw [w]; rfl)
  have w := e1.symm.trans (nf_t g)
  have hxyz := wn_iff.1 w
  unfold tgF at hR
  rw [if_pos w] at hR
  refine ⟨⟨rfl, rfl, ⟨rfl, rfl, rfl⟩, hl, _, rfl⟩, trivial, fun x2 e2 x3 e3 => ⟨fun g16 => ⟨trivial, fun x4 e4 => ⟨fun g4 => ?_, fun g4 => ?_⟩⟩, fun g16 => ?_⟩⟩
  case refine_2.refine_2 =>
    exfalso
    have e4 := e4.symm.trans g4
    unfold isPl at e4
    have : m1 = 17 ∨ m1 = 18 ∨ m1 = 19 := by omega
    rcases this with r | r | r <;> rw [r] at e4 <;> cases e4
  case refine_2.refine_1 =>
    have ea : anP m1 m10 = x3 := by unfold anP; rw [if_pos (eqp g16)]; exact e3.symm
    rw [ea, ← e2, ← e3] at hR
    exact tgTail ⟨m0, m1, m2, m3, m4, m5, m6, m7, m8, m9, m10, m11, m12, m13, m14, m15, m16, m17, m18, m19, m20, m21⟩ l x y z R x2 x3 x3 hxyz (e2 ▸ fs_bd m1) (e3 ▸ sc_bd3 m1) (by rw [e2, e3]; exact fs_sc m1) (fun _ => rfl) hR
  case refine_2.refine_3 =>
    have ea : anP m1 m10 = -1 := by unfold anP; rw [if_neg (nep g16)]
    rw [ea, ← e2, ← e3] at hR
    exact tgTail ⟨m0, m1, m2, m3, m4, m5, m6, m7, m8, m9, m10, m11, m12, m13, m14, m15, m16, m17, m18, m19, m20, m21⟩ l x y z R x2 x3 (-1) hxyz (e2 ▸ fs_bd m1) (e3 ▸ sc_bd3 m1) (by rw [e2, e3]; exact fs_sc m1) (fun k => (by omega)) hR
end Go.Proofs.YtgnknciihdajiaaDoor

namespace Go.Proofs.YtgnknciihdajiaaDoor
open Go Go.HL U
def okB1 : Res := ⟨.ce (.bool true), false, [], []⟩
def SAwk (hargs : List HV) (pars : List (List HC)) : SR :=
  match hargs, pars with
  | [], [] => .det True ⟨.ce (.bool true), false, [], []⟩
  | _, _ => .fail
def tabAwk : List (FuncId × HL.Spec) := [(21, STo), (17, STgt)]
noncomputable def CAwk : Ctx := ⟨Tryd.prog, gam tabAwk, Tryd.f12.ntmps, [], []⟩
theorem vcAwk (u : Int) (Q : Res → Prop) : (nfun true CAwk Tryd.f12 (bodyOf Tryd.f12) [] [] Q) =
    ((okO (54 : Int) (0 : Int) (0 : Int) (0 : Int) (0 : Int) (0 : Int) (0 : Int) (0 : Int) (0 : Int) (0 : Int) (0 : Int) (0 : Int) (0 : Int) (0 : Int) (0 : Int) (0 : Int) (0 : Int) (0 : Int) (0 : Int) (10 : Int) (0 : Int) (0 : Int) (0 : Int) (0 : Int) (0 : Int) (0 : Int) ∧ okP false (0 : Int) (0 : Int) ∧ B3 (1073741824 : Int) (0 : Int) (0 : Int) (0 : Int)) ∧ (∃ (x : MapS), x = toF false (0 : Int) (0 : Int) (0 : Int) (0 : Int) (0 : Int) (10 : Int) (0 : Int) (0 : Int) (1 : Int) (2 : Int) (3 : Int)) ∧ ∀ (x : MapS), x = toF false (0 : Int) (0 : Int) (0 : Int) (0 : Int) (0 : Int) (10 : Int) (0 : Int) (0 : Int) (1 : Int) (2 : Int) (3 : Int) → ((2 : Nat) ≤ (1000 : Nat) ∧ (17 : Int) ≤ (17 : Int) ∧ (17 : Int) ≤ (19 : Int)) ∧ (∃ (x : TgS), x = tgF (17 : Int) (90 : Int) (21 : Int) (16 : Int) [[(88 : Int), (5000000 : Int)], [(89 : Int), (90000000 : Int)]] (0 : Int) (0 : Int) (0 : Int)) ∧ ∀ (x_1 : TgS), x_1 = tgF (17 : Int) (90 : Int) (21 : Int) (16 : Int) [[(88 : Int), (5000000 : Int)], [(89 : Int), (90000000 : Int)]] (0 : Int) (0 : Int) (0 : Int) →
    ((x.e == 0) = true → ((x.x == 11 && (x.y == 2 && (x.z == 3 && true))) = true → (x_1.any = true → ((x_1.e == 0) = true → Q ⟨.ce (.bool (x_1.x == 0 && (x_1.y == 5000 && (x_1.z == 0 && true)))), false, [], []⟩) ∧ ((x_1.e == 0) = false → Q ⟨.ce (.bool false), false, [], []⟩)) ∧ (x_1.any = false → Q ⟨.ce (.bool false), false, [], []⟩)) ∧ ((x.x == 11 && (x.y == 2 && (x.z == 3 && true))) = false → Q ⟨.ce (.bool false), false, [], []⟩)) ∧ ((x.e == 0) = false → Q ⟨.ce (.bool false), false, [], []⟩)) := by kernel_rfl
end Go.Proofs.YtgnknciihdajiaaDoor
namespace U
theorem tr {X : Bool} {A B : Prop} (hX : X = true) (hA : A) : (X = true → A) ∧ (X = false → B) := ⟨fun _ => hA, fun g => by rw [hX] at g; cases g⟩
theorem v3 (x y z : Int) : (x == x && (y == y && (z == z && true))) = true := by simp
end U
namespace Go.Proofs.YtgnknciihdajiaaDoor
open Go Go.HL U
attribute [local irreducible] hfun bodyT fragT
theorem awkT : tgF 17 90 21 16 [[88, 5000000], [89, 90000000]] 0 0 0 = ⟨0, 5000, 0, true, 0⟩ := by kernel_rfl
set_option maxHeartbeats 400000 in
set_option maxRecDepth 100000 in
theorem sAwk : Sound Tryd.prog 12 SAwk := by
  refine sound_of (C := CAwk) tabAwk Tryd.func12 (by kernel_rfl) (by decide +kernel) (by kernel_rfl) rfl ⟨sTo, sTgt, trivial⟩ (loops0 (by kernel_rfl)) ?_
  intro hargs pars R h
  unfold SAwk at h
  split at h
  case h_2 => exfalso; exact h
  obtain ⟨_, hq⟩ := h
  refine byVC (vcAwk 0 R) ⟨⟨by unfold okO B3; decide, by unfold okP; decide, by unfold B3; decide⟩, ⟨_, rfl⟩, fun a ha => ⟨⟨by decide, by decide, by decide⟩, ⟨_, rfl⟩, fun b hb => ?_⟩⟩
  have ha : a = ⟨11, 2, 3, 0⟩ := ha.trans (by kernel_rfl)
  have hb : b = ⟨0, 5000, 0, true, 0⟩ := hb.trans awkT
  subst ha hb
  exact tr rfl (tr rfl (tr rfl (tr rfl hq)))
end Go.Proofs.YtgnknciihdajiaaDoor
