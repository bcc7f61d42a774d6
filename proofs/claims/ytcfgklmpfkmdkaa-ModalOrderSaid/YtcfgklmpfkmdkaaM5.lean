/-
  Package modal: awake, and the makers of numbers.
  Conditions: none.
-/
import Derived.Test.YtcfgklmpfkmdkaaM4
namespace U
open Go Go.HL
def mst : M := M.mk 80 17 90 21 94 40 49 98 54 61 15 69 5 false false 0 0 0 0 0 0 0
def awl : List (List Int) := [[70, 100000000], [71, 20000000]]
def awc : List (List Int) := [[71, 1000000], [71, 2000000]]
end U
namespace Go.Proofs.Ytcfgklmpfkmdkaa
open Go Go.HL U
def SStart (hargs : List HV) (pars : List (List HC)) : SR :=
  match hargs, pars with
  | [], [] => .det True ⟨.agg (cM mst), false, [], []⟩
  | _, _ => .fail
noncomputable def CStart : Ctx := ⟨Try.prog, gam [], Try.f14.ntmps, [], []⟩
theorem vcStart (Q : Res → Prop) : (nfun true CStart Try.f14 (bodyOf Try.f14) [] [] Q) =
    (Q { val := HV.agg [HC.int IntKind.i64 (80 : Int), HC.int IntKind.i64 (17 : Int), HC.int IntKind.i64 (90 : Int), HC.int IntKind.i64 (21 : Int), HC.int IntKind.i64 (94 : Int), HC.int IntKind.i64 (40 : Int), HC.int IntKind.i64 (49 : Int), HC.int IntKind.i64 (98 : Int), HC.int IntKind.i64 (54 : Int), HC.int IntKind.i64 (61 : Int), HC.int IntKind.i64 (15 : Int), HC.int IntKind.i64 (69 : Int), HC.int IntKind.i64 (5 : Int), HC.bool false, HC.bool false, HC.int IntKind.i64 (0 : Int), HC.int IntKind.i64 (0 : Int), HC.int IntKind.i64 (0 : Int), HC.int IntKind.i64 (0 : Int), HC.int IntKind.i64 (0 : Int), HC.int IntKind.i64 (0 : Int), HC.int IntKind.i64 (0 : Int)], own := false, pars := [], news := [] }) := by kernel_rfl
noncomputable def CStart2 : Ctx := ⟨Try.prog, gam [], Try.f15.ntmps, [], []⟩
theorem vcStart2 (Q : Res → Prop) : (nfun true CStart2 Try.f15 (bodyOf Try.f15) [] [] Q) =
    (Q { val := HV.agg [HC.int IntKind.i64 (80 : Int), HC.int IntKind.i64 (17 : Int), HC.int IntKind.i64 (90 : Int), HC.int IntKind.i64 (21 : Int), HC.int IntKind.i64 (94 : Int), HC.int IntKind.i64 (40 : Int), HC.int IntKind.i64 (49 : Int), HC.int IntKind.i64 (98 : Int), HC.int IntKind.i64 (54 : Int), HC.int IntKind.i64 (61 : Int), HC.int IntKind.i64 (15 : Int), HC.int IntKind.i64 (69 : Int), HC.int IntKind.i64 (5 : Int), HC.bool false, HC.bool false, HC.int IntKind.i64 (0 : Int), HC.int IntKind.i64 (0 : Int), HC.int IntKind.i64 (0 : Int), HC.int IntKind.i64 (0 : Int), HC.int IntKind.i64 (0 : Int), HC.int IntKind.i64 (0 : Int), HC.int IntKind.i64 (0 : Int)], own := false, pars := [], news := [] }) := by kernel_rfl
def STrue0 (hargs : List HV) (pars : List (List HC)) : SR :=
  match hargs, pars with
  | [], [] => .det True ⟨.ce (.bool true), false, [], []⟩
  | _, _ => .fail
def tabAwake : List (FuncId × HL.Spec) := [(14, SStart), (27, SApply), (29, SGroup), (20, SCheck)]
noncomputable def CAwake : Ctx := ⟨Try.prog, gam tabAwake, Try.f13.ntmps, [], []⟩
theorem vcAwake (Q : Res → Prop) : (nfun true CAwake Try.f13 (bodyOf Try.f13) [] [] Q) =
    (True ∧ ∀ (x1 : Int), x1 = (80 : Int) → ∀ (x2 : Int), x2 = (17 : Int) → ∀ (x3 : Int), x3 = (90 : Int) → ∀ (x4 : Int), x4 = (21 : Int) → ∀ (x5 : Int), x5 = (94 : Int) → ∀ (x6 : Int), x6 = (40 : Int) → ∀ (x7 : Int), x7 = (49 : Int) → ∀ (x8 : Int), x8 = (98 : Int) → ∀ (x9 : Int), x9 = (54 : Int) → ∀ (x10 : Int), x10 = (61 : Int) → ∀ (x11 : Int), x11 = (15 : Int) → ∀ (x12 : Int), x12 = (69 : Int) → ∀ (x13 : Int), x13 = (5 : Int) → ∀ (x14 : Bool), x14 = mst.m13 → ∀ (x15 : Bool), x15 = mst.m14 → ∀ (x16 : Int), x16 = (0 : Int) → ∀ (x17 : Int), x17 = (0 : Int) → ∀ (x18 : Int), x18 = (0 : Int) → ∀ (x19 : Int), x19 = (0 : Int) → ∀ (x20 : Int), x20 = (0 : Int) → ∀ (x21 : Int), x21 = (0 : Int) → ∀ (x22 : Int), x22 = (0 : Int) → (2 : Nat) ≤ (1000 : Nat) ∧ (∃ (x : Int × M), x = appM [[(70 : Int), (100000000 : Int)], [(71 : Int), (20000000 : Int)]] { m0 := x1, m1 := x2, m2 := x3, m3 := x4, m4 := x5, m5 := x6, m6 := x7, m7 := x8, m8 := x9, m9 := x10, m10 := x11, m11 := x12, m12 := x13, m13 := x14, m14 := x15, m15 := x16, m16 := x17, m17 := x18, m18 := x19, m19 := x20, m20 := x21, m21 := x22 }) ∧
    ∀ (x : Int × M), x = appM [[(70 : Int), (100000000 : Int)], [(71 : Int), (20000000 : Int)]] { m0 := x1, m1 := x2, m2 := x3, m3 := x4, m4 := x5, m5 := x6, m6 := x7, m7 := x8, m8 := x9, m9 := x10, m10 := x11, m11 := x12, m12 := x13, m13 := x14, m14 := x15, m15 := x16, m16 := x17, m17 := x18, m18 := x19, m19 := x20, m20 := x21, m21 := x22 } → ((x.1 == (0 : Int)) = true → ((x.2.m16 == (2540000 : Int)) = true → ((x.2.m3 == (20 : Int)) = true → True ∧ ∀ (x24 : Int), x24 = (1 : Int) → ((x24 == (1 : Int)) = true → nat_lit 2 ≤ (1000 : Nat) ∧ ∀ (x25 : Int), x25 = (8 : Int) → Q { val := HV.ce (HC.bool (x25 == (8 : Int))), own := false, pars := [], news := [] }) ∧ ((x24 == (1 : Int)) = false → Q { val := HV.ce (HC.bool false), own := false, pars := [], news := [] })) ∧ ((x.2.m3 == (20 : Int)) = false → Q { val := HV.ce (HC.bool false), own := false, pars := [], news := [] })) ∧ ((x.2.m16 == (2540000 : Int)) = false →
    Q { val := HV.ce (HC.bool false), own := false, pars := [], news := [] })) ∧ ((x.1 == (0 : Int)) = false → Q { val := HV.ce (HC.bool false), own := false, pars := [], news := [] })) := by kernel_rfl
def SFew (hargs : List HV) (pars : List (List HC)) : SR :=
  match hargs, pars with
  | [.ce (.sl false [4, 4] l)], [] => .det True ⟨.ce (.bool (decide ((l.length : Int) ≤ 40))), false, [], []⟩
  | _, _ => .fail
noncomputable def CFew : Ctx := ⟨Try.prog, gam [], Try.f16.ntmps, [], []⟩
theorem vcFew (l : List (List Int)) (Q : Res → Prop) : (nfun true CFew Try.f16 (bodyOf Try.f16) [.ce (.sl false [4, 4] l)] [] Q) =
    (Q { val := HV.ce (HC.bool (decide ((((List.length l) : Nat) : Int) ≤ (40 : Int)))), own := false, pars := [], news := [] }) := by kernel_rfl
def SLight (hargs : List HV) (pars : List (List HC)) : SR :=
  match hargs, pars with
  | [.ce (.sl false [4] l)], [] => .det True ⟨.ce (.bool (decide ((l.length : Int) ≤ 120))), false, [], []⟩
  | _, _ => .fail
noncomputable def CLight : Ctx := ⟨Try.prog, gam [], Try.f17.ntmps, [], []⟩
theorem vcLight (l : List (List Int)) (Q : Res → Prop) : (nfun true CLight Try.f17 (bodyOf Try.f17) [.ce (.sl false [4] l)] [] Q) =
    (Q { val := HV.ce (HC.bool (decide ((((List.length l) : Nat) : Int) ≤ (120 : Int)))), own := false, pars := [], news := [] }) := by kernel_rfl
def SMod (hargs : List HV) (pars : List (List HC)) : SR :=
  match hargs, pars with
  | [.ce (.int .i64 v), .ce (.int .i64 n)], [] => .det (0 < n ∧ n ≤ 4611686018427387904) ⟨.ce (.int .i64 (v % n)), false, [], []⟩
  | _, _ => .fail
noncomputable def CMod : Ctx := ⟨Try.prog, gam [], Try.f25.ntmps, [], []⟩
theorem vcMod (v n : Int) (Q : Res → Prop) : (nfun true CMod Try.f25 (bodyOf Try.f25) [.ce (.int .i64 v), .ce (.int .i64 n)] [] Q) =
    (n ≠ (0 : Int) ∧ ∀ (x1 : Int), x1 = Int.tmod v n → (decide (x1 < (0 : Int)) = true → ((-9223372036854775808 : Int) ≤ x1 + n ∧ x1 + n ≤ (9223372036854775807 : Int)) ∧ ∀ (x2 : Int), x2 = x1 + n → Q { val := HV.ce (HC.int IntKind.i64 x2), own := false, pars := [], news := [] }) ∧ (decide (x1 < (0 : Int)) = false → Q { val := HV.ce (HC.int IntKind.i64 x1), own := false, pars := [], news := [] })) := by kernel_rfl
def SBetween (hargs : List HV) (pars : List (List HC)) : SR :=
  match hargs, pars with
  | [.ce (.int .i64 v), .ce (.int .i64 a), .ce (.int .i64 b)], [] => .det (-4611686018427387904 ≤ a ∧ a ≤ b ∧ b ≤ 4611686018427387904 ∧ b - a < 4611686018427387904) ⟨.ce (.int .i64 (a + v % (b - a + 1))), false, [], []⟩
  | _, _ => .fail
def tabBetween : List (FuncId × HL.Spec) := [(25, SMod)]
noncomputable def CBetween : Ctx := ⟨Try.prog, gam tabBetween, Try.f24.ntmps, [], []⟩
theorem vcBetween (v a b : Int) (Q : Res → Prop) : (nfun true CBetween Try.f24 (bodyOf Try.f24) [.ce (.int .i64 v), .ce (.int .i64 a), .ce (.int .i64 b)] [] Q) =
    (((-9223372036854775808 : Int) ≤ b - a ∧ b - a ≤ (9223372036854775807 : Int)) ∧ ∀ (x1 : Int), x1 = b - a → ((-9223372036854775808 : Int) ≤ x1 + (1 : Int) ∧ x1 + (1 : Int) ≤ (9223372036854775807 : Int)) ∧ ∀ (x2 : Int), x2 = x1 + (1 : Int) → ((0 : Int) < x2 ∧ x2 ≤ (4611686018427387904 : Int)) ∧ ∀ (x3 : Int), x3 = v % x2 → ((-9223372036854775808 : Int) ≤ a + x3 ∧ a + x3 ≤ (9223372036854775807 : Int)) ∧ ∀ (x4 : Int), x4 = a + x3 → Q { val := HV.ce (HC.int IntKind.i64 x4), own := false, pars := [], news := [] }) := by kernel_rfl
attribute [local irreducible] hfun
set_option maxHeartbeats 400000 in
set_option maxRecDepth 100000 in
theorem sStart : Sound Try.prog 14 SStart := by
  refine sound_of (C := CStart) [] Try.func14 (by kernel_rfl) (by decide +kernel) (by kernel_rfl) rfl trivial (loops0 (by kernel_rfl)) ?_
  intro hargs pars R h
  unfold SStart at h
  split at h
  case h_2 => exfalso; exact h
  exact byVC (vcStart R) h.2
set_option maxHeartbeats 400000 in
set_option maxRecDepth 100000 in
theorem sStart2 : Sound Try.prog 15 SStart := by
  refine sound_of (C := CStart2) [] Try.func15 (by kernel_rfl) (by decide +kernel) (by kernel_rfl) rfl trivial (loops0 (by kernel_rfl)) ?_
  intro hargs pars R h
  unfold SStart at h
  split at h
  case h_2 => exfalso; exact h
  exact byVC (vcStart2 R) h.2
theorem aw1 : appM awl mst = (0, { mst with m16 := 2540000, m3 := 20 }) := by kernel_rfl
theorem tmod_small {v n : Int} (h : 0 < n) : (v.tmod n < 0 → v.tmod n + n = v % n) ∧ (¬ v.tmod n < 0 → v.tmod n = v % n) := by
  have b := tmod_lt (a := v) h
  have e := Int.mul_tdiv_add_tmod v n
  have k : v % n = (v.tmod n) % n := by
    conv => lhs; rw [← e]
    rw [Int.mul_add_emod_self_left]
  constructor
  · intro z
    rw [k, ← Int.add_emod_right, Int.emod_eq_of_lt (by omega) (by omega)]
  · intro z
    rw [k, Int.emod_eq_of_lt (by omega) (by omega)]
theorem aw2 : ckk awc = 8 := by decide +kernel
theorem aw3 : grp 71 2 = 1 := by decide +kernel
set_option maxHeartbeats 400000 in
set_option maxRecDepth 100000 in
theorem sAwake : Sound Try.prog 13 STrue0 := by
  refine sound_of (C := CAwake) tabAwake Try.func13 (by kernel_rfl) (by decide +kernel) (by kernel_rfl) rfl ⟨sStart, sApply, sGroup, sCheck, trivial⟩ (loops0 (by kernel_rfl)) ?_
  intro hargs pars R h
  unfold STrue0 at h
  split at h
  case h_2 => exfalso; exact h
  have hq := h.2
  clear h
  refine byVC (vcAwake R) ⟨trivial, ?_⟩
  rintro _ rfl _ rfl _ rfl _ rfl _ rfl _ rfl _ rfl _ rfl _ rfl _ rfl _ rfl _ rfl _ rfl _ rfl _ rfl _ rfl _ rfl _ rfl _ rfl _ rfl _ rfl _ rfl
  refine ⟨by decide, ⟨_, rfl⟩, fun x e => ?_⟩
  have e : x = (0, { mst with m16 := 2540000, m3 := 20 }) := by rw [← aw1]; exact e
  subst e
  refine ⟨fun _ => ⟨fun _ => ⟨fun _ => ⟨trivial, fun y ey => ⟨fun _ => ⟨by decide, fun z ez => ?_⟩, fun k => ?_⟩⟩, fun k => ?_⟩, fun k => ?_⟩, fun k => ?_⟩
  · subst ez; exact hq
  · subst ey; cases k
  · cases k
  · cases k
  · cases k
set_option maxHeartbeats 400000 in
set_option maxRecDepth 100000 in
theorem sFew : Sound Try.prog 16 SFew := by
  refine sound_of (C := CFew) [] Try.func16 (by kernel_rfl) (by decide +kernel) (by kernel_rfl) rfl trivial (loops0 (by kernel_rfl)) ?_
  intro hargs pars R h
  unfold SFew at h
  split at h
  case h_2 => exfalso; exact h
  exact byVC (vcFew _ R) h.2
set_option maxHeartbeats 400000 in
set_option maxRecDepth 100000 in
theorem sLight : Sound Try.prog 17 SLight := by
  refine sound_of (C := CLight) [] Try.func17 (by kernel_rfl) (by decide +kernel) (by kernel_rfl) rfl trivial (loops0 (by kernel_rfl)) ?_
  intro hargs pars R h
  unfold SLight at h
  split at h
  case h_2 => exfalso; exact h
  exact byVC (vcLight _ R) h.2
set_option maxHeartbeats 400000 in
set_option maxRecDepth 100000 in
theorem sMod : Sound Try.prog 25 SMod := by
  refine sound_of (C := CMod) [] Try.func25 (by kernel_rfl) (by decide +kernel) (by kernel_rfl) rfl trivial (loops0 (by kernel_rfl)) ?_
  intro hargs pars R h
  unfold SMod at h
  split at h
  case h_2 => exfalso; exact h
  rename_i v n
  obtain ⟨⟨h1, h2⟩, hq⟩ := h
  have := tmod_lt (a := v) h1
  refine byVC (vcMod v n R) ⟨by omega, fun x1 e1 => ⟨fun k => ⟨by omega, fun x2 e2 => ?_⟩, fun k => ?_⟩⟩
  · have k := of_decide_eq_true k
    have : x2 = v % n := by rw [e2, e1]; exact (tmod_small h1).1 (by rw [← e1]; exact k)
    rw [this]; exact hq
  · have k := of_decide_eq_false k
    have : x1 = v % n := by rw [e1]; exact (tmod_small h1).2 (by rw [← e1]; exact k)
    rw [this]; exact hq
set_option maxHeartbeats 400000 in
set_option maxRecDepth 100000 in
theorem sBetween : Sound Try.prog 24 SBetween := by
  refine sound_of (C := CBetween) tabBetween Try.func24 (by kernel_rfl) (by decide +kernel) (by kernel_rfl) rfl ⟨sMod, trivial⟩ (loops0 (by kernel_rfl)) ?_
  intro hargs pars R h
  unfold SBetween at h
  split at h
  case h_2 => exfalso; exact h
  rename_i v a b
  obtain ⟨⟨h1, h2, h3, h4⟩, hq⟩ := h
  refine byVC (vcBetween v a b R) ⟨by omega, fun x1 e1 => ⟨by omega, fun x2 e2 => ⟨by omega, fun x3 e3 => ?_⟩⟩⟩
  subst e1 e2
  have := Int.emod_nonneg v (b := b - a + 1) (by omega)
  have := Int.emod_lt_of_pos v (b := b - a + 1) (by omega)
  refine ⟨by omega, fun x4 e4 => ?_⟩
  rw [e4, e3]; exact hq
end Go.Proofs.Ytcfgklmpfkmdkaa
