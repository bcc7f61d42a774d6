/-
  Makers of data: tapes, numbers, blocks, modal states.
  Conditions: none.
-/
import Derived.Test.YtcfgklmpfkmdkaaM6
namespace U
open Go
/-- the place of a tape after a number was taken -/
def adv (l : List (List Int)) (p : Int) : Int := if p < (l.length : Int) then p + 1 else p
def inSrc (l : List (List Int)) (p : Int) : Prop := 0 ≤ p ∧ l.length ≤ 9223372036854775807
def drew (l : List (List Int)) (p m : Int) (x : Int × Int) : Prop := 0 ≤ x.1 ∧ x.1 < m ∧ x.2 = adv l p
theorem inSrc_adv {l : List (List Int)} {p : Int} (h : inSrc l p) : inSrc l (adv l p) := ⟨by have := h.1; unfold adv; split <;> omega, h.2⟩
theorem drew_src {l : List (List Int)} {p m : Int} {x : Int × Int} (h : inSrc l p) (hd : drew l p m x) : inSrc l x.2 := by rw [hd.2.2]; exact inSrc_adv h
theorem drew_ex (l : List (List Int)) (p : Int) {m : Int} (h : 0 < m) : ∃ x, drew l p m x := ⟨(0, adv l p), Int.le_refl _, h, rfl⟩
def sml (c : List (List Int)) : Bool := c.all fun r => decide (0 ≤ r.getD 0 0) && decide (r.getD 0 0 ≤ 99)
end U
namespace Go.Proofs.Ytcfgklmpfkmdkaa
open Go Go.HL U
def SNew (hargs : List HV) (pars : List (List HC)) : SR :=
  match hargs, pars with
  | [.ce (.sl false [4] l)], [] => .det True ⟨.ce (.ptr 500 0), false, [], [[.sl false [4] l, .int .i64 0]]⟩
  | _, _ => .fail
noncomputable def CNew : Ctx := ⟨Try.prog, gam [], Try.f19.ntmps, [], []⟩
theorem vcNew (l : List (List Int)) (Q : Res → Prop) : (nfun true CNew Try.f19 (bodyOf Try.f19) [.ce (.sl false [4] l)] [] Q) =
    (Q { val := HV.ce (HC.ptr (500 : Nat) (0 : Nat)), own := false, pars := [], news := [[HC.sl false [(4 : Nat)] l, HC.int IntKind.i64 (0 : Int)]] }) := by kernel_rfl
def SNext (hargs : List HV) (pars : List (List HC)) : SR :=
  match hargs, pars with
  | [.ce (.ptr 0 0), .ce (.int .i64 m)], [[.sl false [4] l, .int .i64 p]] =>
    .all (0 < m ∧ m ≤ 4611686018427387904 ∧ inSrc l p) (Int × Int) (fun x => drew l p m x)
      (fun x => ⟨.ce (.int .i64 x.1), false, [[.sl false [4] l, .int .i64 x.2]], []⟩)
  | _, _ => .fail
def tabNext : List (FuncId × HL.Spec) := [(25, SMod)]
noncomputable def CNext : Ctx := ⟨Try.prog, gam tabNext, Try.f35.ntmps, [], []⟩
theorem vcNext (l : List (List Int)) (p m : Int) (Q : Res → Prop) : (nfun true CNext Try.f35 (bodyOf Try.f35) [.ce (.ptr 0 0), .ce (.int .i64 m)] [[.sl false [4] l, .int .i64 p]] Q) =
    ((decide (p ≥ (((List.length l) : Nat) : Int)) = true → Q { val := HV.ce (HC.int IntKind.i64 (0 : Int)), own := false, pars := [[HC.sl false [(4 : Nat)] l, HC.int IntKind.i64 p]], news := [] }) ∧ (decide (p ≥ (((List.length l) : Nat) : Int)) = false → ((-9223372036854775808 : Int) ≤ p + (1 : Int) ∧ p + (1 : Int) ≤ (9223372036854775807 : Int)) ∧ ∀ (x1 : Int), x1 = p + (1 : Int) → ((-9223372036854775808 : Int) ≤ x1 - (1 : Int) ∧ x1 - (1 : Int) ≤ (9223372036854775807 : Int)) ∧ ∀ (x2 : Int), x2 = x1 - (1 : Int) → ((0 : Int) ≤ x2 ∧ x2 < (((List.length l) : Nat) : Int)) ∧ ∀ (x3 : Int), x3 = el l (Int.toNat x2) → ((0 : Int) < m ∧ m ≤ (4611686018427387904 : Int)) ∧ ∀ (x4 : Int), x4 = x3 % m → Q { val := HV.ce (HC.int IntKind.i64 x4), own := false, pars := [[HC.sl false [(4 : Nat)] l, HC.int IntKind.i64 x1]], news := [] })) := by kernel_rfl
def SRange (hargs : List HV) (pars : List (List HC)) : SR :=
  match hargs, pars with
  | [.ce (.ptr 0 0), .ce (.int .i64 a), .ce (.int .i64 b)], [[.sl false [4] l, .int .i64 p]] =>
    .all (-1000000000000000000 ≤ a ∧ a ≤ b ∧ b ≤ 1000000000000000000 ∧ inSrc l p) (Int × Int) (fun x => a ≤ x.1 ∧ x.1 ≤ b ∧ x.2 = adv l p)
      (fun x => ⟨.ce (.int .i64 x.1), false, [[.sl false [4] l, .int .i64 x.2]], []⟩)
  | _, _ => .fail
def tabRange : List (FuncId × HL.Spec) := [(35, SNext)]
noncomputable def CRange : Ctx := ⟨Try.prog, gam tabRange, Try.f44.ntmps, [], []⟩
theorem vcRange (l : List (List Int)) (p a b : Int) (Q : Res → Prop) : (nfun true CRange Try.f44 (bodyOf Try.f44) [.ce (.ptr 0 0), .ce (.int .i64 a), .ce (.int .i64 b)] [[.sl false [4] l, .int .i64 p]] Q) =
    (((-9223372036854775808 : Int) ≤ b - a ∧ b - a ≤ (9223372036854775807 : Int)) ∧ ∀ (x1 : Int), x1 = b - a → ((-9223372036854775808 : Int) ≤ x1 + (1 : Int) ∧ x1 + (1 : Int) ≤ (9223372036854775807 : Int)) ∧ ∀ (x2 : Int), x2 = x1 + (1 : Int) → ((0 : Int) < x2 ∧ x2 ≤ (4611686018427387904 : Int) ∧ inSrc l p) ∧ (∃ (x : Int × Int), drew l p x2 x) ∧ ∀ (x : Int × Int), drew l p x2 x → ((-9223372036854775808 : Int) ≤ a + x.1 ∧ a + x.1 ≤ (9223372036854775807 : Int)) ∧ ∀ (x4 : Int), x4 = a + x.1 → Q { val := HV.ce (HC.int IntKind.i64 x4), own := false, pars := [[HC.sl false [(4 : Nat)] l, HC.int IntKind.i64 x.2]], news := [] }) := by kernel_rfl
def SNumb (hargs : List HV) (pars : List (List HC)) : SR :=
  match hargs, pars with
  | [.ce (.ptr 0 0)], [[.sl false [4] l, .int .i64 p]] =>
    .all (inSrc l p) (Int × Int) (fun x => 0 ≤ x.1 ∧ x.1 ≤ 1000000000000000 ∧ inSrc l x.2)
      (fun x => ⟨.ce (.int .i64 x.1), false, [[.sl false [4] l, .int .i64 x.2]], []⟩)
  | _, _ => .fail
noncomputable def CNumb : Ctx := ⟨Try.prog, gam tabRange, Try.f36.ntmps, [], []⟩
theorem vcNumb (l : List (List Int)) (p : Int) (Q : Res → Prop) : (nfun true CNumb Try.f36 (bodyOf Try.f36) [.ce (.ptr 0 0)] [[.sl false [4] l, .int .i64 p]] Q) =
    (((0 : Int) < (8 : Int) ∧ (8 : Int) ≤ (4611686018427387904 : Int) ∧ inSrc l p) ∧ (∃ (x : Int × Int), drew l p (8 : Int) x) ∧ ∀ (x : Int × Int), drew l p (8 : Int) x → ((x.1 == (0 : Int)) = true → ((0 : Int) < (1000000000000000 : Int) ∧ (1000000000000000 : Int) ≤ (4611686018427387904 : Int) ∧ inSrc l x.2) ∧ (∃ (x_1 : Int × Int), drew l x.2 (1000000000000000 : Int) x_1) ∧ ∀ (x_1 : Int × Int), drew l x.2 (1000000000000000 : Int) x_1 → Q { val := HV.ce (HC.int IntKind.i64 x_1.1), own := false, pars := [[HC.sl false [(4 : Nat)] l, HC.int IntKind.i64 x_1.2]], news := [] }) ∧ ((x.1 == (0 : Int)) = false → ((x.1 == (1 : Int)) = true → ((0 : Int) < (1000000 : Int) ∧ (1000000 : Int) ≤ (4611686018427387904 : Int) ∧ inSrc l x.2) ∧ (∃ (x_1 : Int × Int), drew l x.2 (1000000 : Int) x_1) ∧ ∀ (x_1 : Int × Int), drew l x.2 (1000000 : Int) x_1 → ((-9223372036854775808 : Int) ≤ x_1.1 * (100 : Int) ∧ x_1.1 * (100 : Int) ≤ (9223372036854775807 : Int)) ∧
    ∀ (x4 : Int), x4 = x_1.1 * (100 : Int) → Q { val := HV.ce (HC.int IntKind.i64 x4), own := false, pars := [[HC.sl false [(4 : Nat)] l, HC.int IntKind.i64 x_1.2]], news := [] }) ∧ ((x.1 == (1 : Int)) = false → ((x.1 == (2 : Int)) = true → ((0 : Int) < (40 : Int) ∧ (40 : Int) ≤ (4611686018427387904 : Int) ∧ inSrc l x.2) ∧ (∃ (x_1 : Int × Int), drew l x.2 (40 : Int) x_1) ∧ ∀ (x_1 : Int × Int), drew l x.2 (40 : Int) x_1 → ((-9223372036854775808 : Int) ≤ x_1.1 * (250000 : Int) ∧ x_1.1 * (250000 : Int) ≤ (9223372036854775807 : Int)) ∧ ∀ (x6 : Int), x6 = x_1.1 * (250000 : Int) → Q { val := HV.ce (HC.int IntKind.i64 x6), own := false, pars := [[HC.sl false [(4 : Nat)] l, HC.int IntKind.i64 x_1.2]], news := [] }) ∧ ((x.1 == (2 : Int)) = false → ((x.1 == (3 : Int)) = true → ((0 : Int) < (40 : Int) ∧ (40 : Int) ≤ (4611686018427387904 : Int) ∧ inSrc l x.2) ∧ (∃ (x_1 : Int × Int), drew l x.2 (40 : Int) x_1) ∧
    ∀ (x_1 : Int × Int), drew l x.2 (40 : Int) x_1 → ((-9223372036854775808 : Int) ≤ x_1.1 * (250000 : Int) ∧ x_1.1 * (250000 : Int) ≤ (9223372036854775807 : Int)) ∧ ∀ (x8 : Int), x8 = x_1.1 * (250000 : Int) → Q { val := HV.ce (HC.int IntKind.i64 x8), own := false, pars := [[HC.sl false [(4 : Nat)] l, HC.int IntKind.i64 x_1.2]], news := [] }) ∧ ((x.1 == (3 : Int)) = false → ((0 : Int) < (12 : Int) ∧ (12 : Int) ≤ (4611686018427387904 : Int) ∧ inSrc l x.2) ∧ (∃ (x_1 : Int × Int), drew l x.2 (12 : Int) x_1) ∧ ∀ (x_1 : Int × Int), drew l x.2 (12 : Int) x_1 → ((-9223372036854775808 : Int) ≤ x_1.1 * (1000000 : Int) ∧ x_1.1 * (1000000 : Int) ≤ (9223372036854775807 : Int)) ∧ ∀ (x10 : Int), x10 = x_1.1 * (1000000 : Int) → Q { val := HV.ce (HC.int IntKind.i64 x10), own := false, pars := [[HC.sl false [(4 : Nat)] l, HC.int IntKind.i64 x_1.2]], news := [] }))))) := by kernel_rfl
def SMakeM (hargs : List HV) (pars : List (List HC)) : SR :=
  match hargs, pars with
  | [.ce (.ptr 0 0)], [[.sl false [4] l, .int .i64 p]] =>
    .all (inSrc l p) (M × Int) (fun x => inSrc l x.2)
      (fun x => ⟨.agg (cM x.1), false, [[.sl false [4] l, .int .i64 x.2]], []⟩)
  | _, _ => .fail
def tabMakeM : List (FuncId × HL.Spec) := [(35, SNext), (44, SRange)]
noncomputable def CMakeM : Ctx := ⟨Try.prog, gam tabMakeM, Try.f26.ntmps, [], []⟩
theorem vcMakeM (l : List (List Int)) (p : Int) (Q : Res → Prop) : (nfun true CMakeM Try.f26 (bodyOf Try.f26) [.ce (.ptr 0 0)] [[.sl false [4] l, .int .i64 p]] Q) =
    (((0 : Int) < (15 : Int) ∧ (15 : Int) ≤ (4611686018427387904 : Int) ∧ inSrc l p) ∧ (∃ (x : Int × Int), drew l p (15 : Int) x) ∧ ∀ (x : Int × Int), drew l p (15 : Int) x → ((0 : Int) ≤ x.1 ∧ x.1 < (15 : Int)) ∧ ∀ (x2 : Int), x2 = el [[(0 : Int)], [(1 : Int)], [(2 : Int)], [(3 : Int)], [(33 : Int)], [(73 : Int)], [(74 : Int)], [(80 : Int)], [(81 : Int)], [(82 : Int)], [(83 : Int)], [(84 : Int)], [(85 : Int)], [(86 : Int)], [(89 : Int)]] (Int.toNat x.1) → ((-1000000000000000000 : Int) ≤ (17 : Int) ∧ (17 : Int) ≤ (19 : Int) ∧ (19 : Int) ≤ (1000000000000000000 : Int) ∧ inSrc l x.2) ∧ (∃ (x_1 : Int × Int), (17 : Int) ≤ x_1.1 ∧ x_1.1 ≤ (19 : Int) ∧ x_1.2 = adv l x.2) ∧ ∀ (x_1 : Int × Int), (17 : Int) ≤ x_1.1 ∧ x_1.1 ≤ (19 : Int) ∧ x_1.2 = adv l x.2 → ((-1000000000000000000 : Int) ≤ (90 : Int) ∧ (90 : Int) ≤ (91 : Int) ∧ (91 : Int) ≤ (1000000000000000000 : Int) ∧ inSrc l x_1.2) ∧ (∃ (x : Int × Int), (90 : Int) ≤ x.1 ∧
    x.1 ≤ (91 : Int) ∧ x.2 = adv l x_1.2) ∧ ∀ (x : Int × Int), (90 : Int) ≤ x.1 ∧ x.1 ≤ (91 : Int) ∧ x.2 = adv l x_1.2 → ((-1000000000000000000 : Int) ≤ (20 : Int) ∧ (20 : Int) ≤ (21 : Int) ∧ (21 : Int) ≤ (1000000000000000000 : Int) ∧ inSrc l x.2) ∧ (∃ (x_2 : Int × Int), (20 : Int) ≤ x_2.1 ∧ x_2.1 ≤ (21 : Int) ∧ x_2.2 = adv l x.2) ∧ ∀ (x_2 : Int × Int), (20 : Int) ≤ x_2.1 ∧ x_2.1 ≤ (21 : Int) ∧ x_2.2 = adv l x.2 → ((-1000000000000000000 : Int) ≤ (94 : Int) ∧ (94 : Int) ≤ (95 : Int) ∧ (95 : Int) ≤ (1000000000000000000 : Int) ∧ inSrc l x_2.2) ∧ (∃ (x : Int × Int), (94 : Int) ≤ x.1 ∧ x.1 ≤ (95 : Int) ∧ x.2 = adv l x_2.2) ∧ ∀ (x_3 : Int × Int), (94 : Int) ≤ x_3.1 ∧ x_3.1 ≤ (95 : Int) ∧ x_3.2 = adv l x_2.2 → ((-1000000000000000000 : Int) ≤ (40 : Int) ∧ (40 : Int) ≤ (42 : Int) ∧ (42 : Int) ≤ (1000000000000000000 : Int) ∧ inSrc l x_3.2) ∧ (∃ (x : Int × Int), (40 : Int) ≤ x.1 ∧ x.1 ≤ (42 : Int) ∧ x.2 = adv l x_3.2) ∧
    ∀ (x_4 : Int × Int), (40 : Int) ≤ x_4.1 ∧ x_4.1 ≤ (42 : Int) ∧ x_4.2 = adv l x_3.2 → ((0 : Int) < (3 : Int) ∧ (3 : Int) ≤ (4611686018427387904 : Int) ∧ inSrc l x_4.2) ∧ (∃ (x : Int × Int), drew l x_4.2 (3 : Int) x) ∧ ∀ (x_5 : Int × Int), drew l x_4.2 (3 : Int) x_5 → ((0 : Int) ≤ x_5.1 ∧ x_5.1 < (3 : Int)) ∧ ∀ (x9 : Int), x9 = el [[(43 : Int)], [(44 : Int)], [(49 : Int)]] (Int.toNat x_5.1) → ((-1000000000000000000 : Int) ≤ (98 : Int) ∧ (98 : Int) ≤ (99 : Int) ∧ (99 : Int) ≤ (1000000000000000000 : Int) ∧ inSrc l x_5.2) ∧ (∃ (x : Int × Int), (98 : Int) ≤ x.1 ∧ x.1 ≤ (99 : Int) ∧ x.2 = adv l x_5.2) ∧ ∀ (x_6 : Int × Int), (98 : Int) ≤ x_6.1 ∧ x_6.1 ≤ (99 : Int) ∧ x_6.2 = adv l x_5.2 → ((-1000000000000000000 : Int) ≤ (54 : Int) ∧ (54 : Int) ≤ (59 : Int) ∧ (59 : Int) ≤ (1000000000000000000 : Int) ∧ inSrc l x_6.2) ∧ (∃ (x : Int × Int), (54 : Int) ≤ x.1 ∧ x.1 ≤ (59 : Int) ∧ x.2 = adv l x_6.2) ∧ ∀ (x_7 : Int × Int), (54 : Int) ≤ x_7.1 ∧
    x_7.1 ≤ (59 : Int) ∧ x_7.2 = adv l x_6.2 → ((0 : Int) < (2 : Int) ∧ (2 : Int) ≤ (4611686018427387904 : Int) ∧ inSrc l x_7.2) ∧ (∃ (x : Int × Int), drew l x_7.2 (2 : Int) x) ∧ ∀ (x_8 : Int × Int), drew l x_7.2 (2 : Int) x_8 → ((0 : Int) ≤ x_8.1 ∧ x_8.1 < (2 : Int)) ∧ ∀ (x13 : Int), x13 = el [[(61 : Int)], [(64 : Int)]] (Int.toNat x_8.1) → ((-1000000000000000000 : Int) ≤ (15 : Int) ∧ (15 : Int) ≤ (16 : Int) ∧ (16 : Int) ≤ (1000000000000000000 : Int) ∧ inSrc l x_8.2) ∧ (∃ (x : Int × Int), (15 : Int) ≤ x.1 ∧ x.1 ≤ (16 : Int) ∧ x.2 = adv l x_8.2) ∧ ∀ (x_9 : Int × Int), (15 : Int) ≤ x_9.1 ∧ x_9.1 ≤ (16 : Int) ∧ x_9.2 = adv l x_8.2 → ((-1000000000000000000 : Int) ≤ (68 : Int) ∧ (68 : Int) ≤ (69 : Int) ∧ (69 : Int) ≤ (1000000000000000000 : Int) ∧ inSrc l x_9.2) ∧ (∃ (x : Int × Int), (68 : Int) ≤ x.1 ∧ x.1 ≤ (69 : Int) ∧ x.2 = adv l x_9.2) ∧ ∀ (x_10 : Int × Int), (68 : Int) ≤ x_10.1 ∧ x_10.1 ≤ (69 : Int) ∧
    x_10.2 = adv l x_9.2 → ((-1000000000000000000 : Int) ≤ (3 : Int) ∧ (3 : Int) ≤ (5 : Int) ∧ (5 : Int) ≤ (1000000000000000000 : Int) ∧ inSrc l x_10.2) ∧ (∃ (x : Int × Int), (3 : Int) ≤ x.1 ∧ x.1 ≤ (5 : Int) ∧ x.2 = adv l x_10.2) ∧ ∀ (x_11 : Int × Int), (3 : Int) ≤ x_11.1 ∧ x_11.1 ≤ (5 : Int) ∧ x_11.2 = adv l x_10.2 → ((0 : Int) < (2 : Int) ∧ (2 : Int) ≤ (4611686018427387904 : Int) ∧ inSrc l x_11.2) ∧ (∃ (x : Int × Int), drew l x_11.2 (2 : Int) x) ∧ ∀ (x_12 : Int × Int), drew l x_11.2 (2 : Int) x_12 → ((0 : Int) < (2 : Int) ∧ (2 : Int) ≤ (4611686018427387904 : Int) ∧ inSrc l x_12.2) ∧ (∃ (x : Int × Int), drew l x_12.2 (2 : Int) x) ∧ ∀ (x_13 : Int × Int), drew l x_12.2 (2 : Int) x_13 → ((0 : Int) < (100000 : Int) ∧ (100000 : Int) ≤ (4611686018427387904 : Int) ∧ inSrc l x_13.2) ∧ (∃ (x : Int × Int), drew l x_13.2 (100000 : Int) x) ∧ ∀ (x_14 : Int × Int), drew l x_13.2 (100000 : Int) x_14 → ((0 : Int) < (9000 : Int) ∧
    (9000 : Int) ≤ (4611686018427387904 : Int) ∧ inSrc l x_14.2) ∧ (∃ (x : Int × Int), drew l x_14.2 (9000 : Int) x) ∧ ∀ (x_15 : Int × Int), drew l x_14.2 (9000 : Int) x_15 → ((0 : Int) < (5 : Int) ∧ (5 : Int) ≤ (4611686018427387904 : Int) ∧ inSrc l x_15.2) ∧ (∃ (x : Int × Int), drew l x_15.2 (5 : Int) x) ∧ ∀ (x_16 : Int × Int), drew l x_15.2 (5 : Int) x_16 → ((0 : Int) < (5 : Int) ∧ (5 : Int) ≤ (4611686018427387904 : Int) ∧ inSrc l x_16.2) ∧ (∃ (x : Int × Int), drew l x_16.2 (5 : Int) x) ∧ ∀ (x_17 : Int × Int), drew l x_16.2 (5 : Int) x_17 → ((0 : Int) < (4 : Int) ∧ (4 : Int) ≤ (4611686018427387904 : Int) ∧ inSrc l x_17.2) ∧ (∃ (x : Int × Int), drew l x_17.2 (4 : Int) x) ∧ ∀ (x_18 : Int × Int), drew l x_17.2 (4 : Int) x_18 → ((0 : Int) < (4 : Int) ∧ (4 : Int) ≤ (4611686018427387904 : Int) ∧ inSrc l x_18.2) ∧ (∃ (x : Int × Int), drew l x_18.2 (4 : Int) x) ∧ ∀ (x_19 : Int × Int), drew l x_18.2 (4 : Int) x_19 →
    ((x13 == (64 : Int)) = true → ((0 : Int) < (1001 : Int) ∧ (1001 : Int) ≤ (4611686018427387904 : Int) ∧ inSrc l x_19.2) ∧ (∃ (x : Int × Int), drew l x_19.2 (1001 : Int) x) ∧ ∀ (x_20 : Int × Int), drew l x_19.2 (1001 : Int) x_20 → Q { val := HV.agg [HC.int IntKind.i64 x2, HC.int IntKind.i64 x_1.1, HC.int IntKind.i64 x.1, HC.int IntKind.i64 x_2.1, HC.int IntKind.i64 x_3.1, HC.int IntKind.i64 x_4.1, HC.int IntKind.i64 x9, HC.int IntKind.i64 x_6.1, HC.int IntKind.i64 x_7.1, HC.int IntKind.i64 x13, HC.int IntKind.i64 x_9.1, HC.int IntKind.i64 x_10.1, HC.int IntKind.i64 x_11.1, HC.bool (x_12.1 == (0 : Int)), HC.bool (x_13.1 == (0 : Int)), HC.int IntKind.i64 x_20.1, HC.int IntKind.i64 x_14.1, HC.int IntKind.i64 x_15.1, HC.int IntKind.i64 x_16.1, HC.int IntKind.i64 x_17.1, HC.int IntKind.i64 x_18.1, HC.int IntKind.i64 x_19.1], own := false, pars := [[HC.sl false [(4 : Nat)] l, HC.int IntKind.i64 x_20.2]], news := [] }) ∧
    ((x13 == (64 : Int)) = false → Q { val := HV.agg [HC.int IntKind.i64 x2, HC.int IntKind.i64 x_1.1, HC.int IntKind.i64 x.1, HC.int IntKind.i64 x_2.1, HC.int IntKind.i64 x_3.1, HC.int IntKind.i64 x_4.1, HC.int IntKind.i64 x9, HC.int IntKind.i64 x_6.1, HC.int IntKind.i64 x_7.1, HC.int IntKind.i64 x13, HC.int IntKind.i64 x_9.1, HC.int IntKind.i64 x_10.1, HC.int IntKind.i64 x_11.1, HC.bool (x_12.1 == (0 : Int)), HC.bool (x_13.1 == (0 : Int)), HC.int IntKind.i64 (0 : Int), HC.int IntKind.i64 x_14.1, HC.int IntKind.i64 x_15.1, HC.int IntKind.i64 x_16.1, HC.int IntKind.i64 x_17.1, HC.int IntKind.i64 x_18.1, HC.int IntKind.i64 x_19.1], own := false, pars := [[HC.sl false [(4 : Nat)] l, HC.int IntKind.i64 x_19.2]], news := [] })) := by kernel_rfl
def SValues (hargs : List HV) (pars : List (List HC)) : SR :=
  match hargs, pars with
  | [.ce (.ptr 0 0)], [[.sl false [4] l, .int .i64 p]] =>
    .all (inSrc l p) (List (List Int) × Int) (fun x => inSrc l x.2 ∧ x.1.length ≤ 40)
      (fun x => ⟨.ce (.sl false [4, 4] x.1), true, [[.sl false [4] l, .int .i64 x.2]], []⟩)
  | _, _ => .fail
def anV0 : LAnn := ⟨[0, 3, 100003, 4, 5], [0, 3, 100003], [0], false⟩
def anV1 : LAnn := ⟨[0, 3, 100003, 6, 7], [0, 3, 100003], [0], false⟩
def anV2 : LAnn := ⟨[0, 3, 100003, 8, 9], [0, 3, 100003], [0], false⟩
def LV01 (e : Nat) (v : LV) : LR :=
  match v with
  | ([.ce (.ptr 0 0), .ce (.sl false [4, 4] acc), .ce (.lit true), .ce (.sl false [4] c), .ce (.int .i64 n)], [[.sl false [4] l, .int .i64 p]]) =>
    .all (0 ≤ n ∧ n ≤ 10 ∧ inSrc l p ∧ acc.length ≤ 100 ∧ sml c = true ∧ 0 < c.length ∧ c.length ≤ 100) (List (List Int) × Int) (fun x => inSrc l x.2 ∧ (x.1.length : Int) ≤ acc.length + n) (fun _ => .exit e)
      (fun x => ([.ce (.ptr 0 0), .ce (.sl false [4, 4] x.1), .ce (.lit true)], [[.sl false [4] l, .int .i64 x.2]]))
  | _ => .fail
def LV2 (v : LV) : LR :=
  match v with
  | ([.ce (.ptr 0 0), .ce (.sl false [4, 4] acc), .ce (.lit true), .ce (.str s), .ce (.int .i64 i)], [[.sl false [4] l, .int .i64 p]]) => bif Nat.ble s.size 20 then
    .all (0 ≤ i ∧ i ≤ 20 ∧ inSrc l p ∧ acc.length ≤ 100) (List (List Int) × Int) (fun x => inSrc l x.2 ∧ (x.1.length : Int) ≤ acc.length + (20 - i)) (fun _ => .exit 4)
      (fun x => ([.ce (.ptr 0 0), .ce (.sl false [4, 4] x.1), .ce (.lit true)], [[.sl false [4] l, .int .i64 x.2]])) else .fail
  | _ => .fail
def tabValues : List (FuncId × HL.Spec) := [(35, SNext), (36, SNumb)]
noncomputable def CValues : Ctx := ⟨Try.prog, gam tabValues, Try.f18.ntmps, [(4, anV0, LV01 0), (9, anV1, LV01 2), (14, anV2, LV2)], []⟩
theorem vcValues (l : List (List Int)) (p : Int) (Q : Res → Prop) : (nfun true CValues Try.f18 (bodyOf Try.f18) [.ce (.ptr 0 0)] [[.sl false [4] l, .int .i64 p]] Q) =
    (((0 : Int) < (4 : Int) ∧ (4 : Int) ≤ (4611686018427387904 : Int) ∧ inSrc l p) ∧ (∃ (x : Int × Int), drew l p (4 : Int) x) ∧ ∀ (x : Int × Int), drew l p (4 : Int) x → ((0 : Int) ≤ x.1 ∧ x.1 ≤ (10 : Int) ∧ inSrc l x.2 ∧ (0 : Nat) ≤ (100 : Nat) ∧ sml [[(0 : Int)], [(1 : Int)], [(2 : Int)], [(3 : Int)], [(4 : Int)], [(10 : Int)], [(12 : Int)], [(13 : Int)], [(15 : Int)], [(16 : Int)], [(17 : Int)], [(18 : Int)], [(19 : Int)], [(20 : Int)], [(21 : Int)], [(31 : Int)], [(33 : Int)], [(40 : Int)], [(41 : Int)], [(42 : Int)], [(43 : Int)], [(44 : Int)], [(49 : Int)], [(52 : Int)], [(53 : Int)], [(54 : Int)], [(55 : Int)], [(59 : Int)], [(61 : Int)], [(64 : Int)], [(68 : Int)], [(69 : Int)], [(73 : Int)], [(80 : Int)], [(81 : Int)], [(90 : Int)], [(91 : Int)], [(92 : Int)], [(94 : Int)], [(95 : Int)], [(98 : Int)], [(99 : Int)], [(5 : Int)], [(65 : Int)]] = true ∧ (0 : Nat) < (44 : Nat) ∧ (44 : Nat) ≤ (100 : Nat)) ∧
    ∀ (x_1 : List (List Int) × Int), inSrc l x_1.2 ∧ (((List.length x_1.1) : Nat) : Int) ≤ (0 : Int) + x.1 → ((0 : Int) < (3 : Int) ∧ (3 : Int) ≤ (4611686018427387904 : Int) ∧ inSrc l x_1.2) ∧ (∃ (x : Int × Int), drew l x_1.2 (3 : Int) x) ∧ ∀ (x : Int × Int), drew l x_1.2 (3 : Int) x → ((0 : Int) ≤ x.1 ∧ x.1 ≤ (10 : Int) ∧ inSrc l x.2 ∧ List.length x_1.1 ≤ (100 : Nat) ∧ sml [[(0 : Int)], [(1 : Int)], [(2 : Int)], [(3 : Int)], [(4 : Int)], [(5 : Int)], [(6 : Int)], [(7 : Int)], [(8 : Int)], [(9 : Int)], [(30 : Int)], [(62 : Int)], [(63 : Int)], [(98 : Int)], [(10 : Int)]] = true ∧ (0 : Nat) < (15 : Nat) ∧ (15 : Nat) ≤ (100 : Nat)) ∧ ∀ (x_2 : List (List Int) × Int), inSrc l x_2.2 ∧ (((List.length x_2.1) : Nat) : Int) ≤ (((List.length x_1.1) : Nat) : Int) + x.1 → ((0 : Int) ≤ (0 : Int) ∧ (0 : Int) ≤ (20 : Int) ∧ inSrc l x_2.2 ∧ List.length x_2.1 ≤ (100 : Nat)) ∧ ∀ (x : List (List Int) × Int), inSrc l x.2 ∧
    (((List.length x.1) : Nat) : Int) ≤ (((List.length x_2.1) : Nat) : Int) + (20 : Int) → Q { val := HV.ce (HC.sl false [(4 : Nat), (4 : Nat)] x.1), own := true, pars := [[HC.sl false [(4 : Nat)] l, HC.int IntKind.i64 x.2]], news := [] }) := by kernel_rfl
theorem vbV0 (acc c l : List (List Int)) (n p : Int) (K : HEx → LV → Prop) : (nbodyT true CValues anV0 (nthLoop Try.f18 0) (([.ce (.ptr 0 0), .ce (.sl false [4, 4] acc), .ce (.lit true), .ce (.sl false [4] c), .ce (.int .i64 n)], [[.sl false [4] l, .int .i64 p]])) K) =
    ((decide (n > (0 : Int)) = true → ((0 : Int) < (((List.length c) : Nat) : Int) ∧ (((List.length c) : Nat) : Int) ≤ (4611686018427387904 : Int) ∧ inSrc l p) ∧ (∃ (x : Int × Int), drew l p ((((List.length c) : Nat) : Int)) x) ∧ ∀ (x : Int × Int), drew l p ((((List.length c) : Nat) : Int)) x → ((0 : Int) ≤ x.1 ∧ x.1 < (((List.length c) : Nat) : Int)) ∧ ∀ (x2 : Int), x2 = el c (Int.toNat x.1) → ((-9223372036854775808 : Int) ≤ x2 * (1000000 : Int) ∧ x2 * (1000000 : Int) ≤ (9223372036854775807 : Int)) ∧ ∀ (x3 : Int), x3 = x2 * (1000000 : Int) → ((List.length acc + (1 : Nat)) * (16 : Nat) ≤ (140737488355328 : Nat) ∧ List.length acc + (1 : Nat) ≤ maxLen) ∧ ((-9223372036854775808 : Int) ≤ n - (1 : Int) ∧ n - (1 : Int) ≤ (9223372036854775807 : Int)) ∧ ∀ (x4 : Int), x4 = n - (1 : Int) → K HEx.normal ([HV.ce (HC.ptr (0 : Nat) (0 : Nat)), HV.ce (HC.sl false [(4 : Nat), (4 : Nat)] (acc ++ [[(71 : Int), x3]])), HV.ce (HC.lit true), HV.ce (HC.sl false [(4 : Nat)] c), HV.ce (HC.int IntKind.i64 x4)], [[HC.sl false [(4 : Nat)] l, HC.int IntKind.i64 x.2]])) ∧
    (decide (n > (0 : Int)) = false → K (HEx.exit (0 : Nat)) ([HV.ce (HC.ptr (0 : Nat) (0 : Nat)), HV.ce (HC.sl false [(4 : Nat), (4 : Nat)] acc), HV.ce (HC.lit true)], [[HC.sl false [(4 : Nat)] l, HC.int IntKind.i64 p]]))) := by kernel_rfl
theorem vbV1 (acc c l : List (List Int)) (n p : Int) (K : HEx → LV → Prop) : (nbodyT true CValues anV1 (nthLoop Try.f18 1) (([.ce (.ptr 0 0), .ce (.sl false [4, 4] acc), .ce (.lit true), .ce (.sl false [4] c), .ce (.int .i64 n)], [[.sl false [4] l, .int .i64 p]])) K) =
    ((decide (n > (0 : Int)) = true → ((0 : Int) < (((List.length c) : Nat) : Int) ∧ (((List.length c) : Nat) : Int) ≤ (4611686018427387904 : Int) ∧ inSrc l p) ∧ (∃ (x : Int × Int), drew l p ((((List.length c) : Nat) : Int)) x) ∧ ∀ (x : Int × Int), drew l p ((((List.length c) : Nat) : Int)) x → ((0 : Int) ≤ x.1 ∧ x.1 < (((List.length c) : Nat) : Int)) ∧ ∀ (x2 : Int), x2 = el c (Int.toNat x.1) → ((-9223372036854775808 : Int) ≤ x2 * (1000000 : Int) ∧ x2 * (1000000 : Int) ≤ (9223372036854775807 : Int)) ∧ ∀ (x3 : Int), x3 = x2 * (1000000 : Int) → ((List.length acc + (1 : Nat)) * (16 : Nat) ≤ (140737488355328 : Nat) ∧ List.length acc + (1 : Nat) ≤ maxLen) ∧ ((-9223372036854775808 : Int) ≤ n - (1 : Int) ∧ n - (1 : Int) ≤ (9223372036854775807 : Int)) ∧ ∀ (x4 : Int), x4 = n - (1 : Int) → K HEx.normal ([HV.ce (HC.ptr (0 : Nat) (0 : Nat)), HV.ce (HC.sl false [(4 : Nat), (4 : Nat)] (acc ++ [[(77 : Int), x3]])), HV.ce (HC.lit true), HV.ce (HC.sl false [(4 : Nat)] c), HV.ce (HC.int IntKind.i64 x4)], [[HC.sl false [(4 : Nat)] l, HC.int IntKind.i64 x.2]])) ∧
    (decide (n > (0 : Int)) = false → K (HEx.exit (2 : Nat)) ([HV.ce (HC.ptr (0 : Nat) (0 : Nat)), HV.ce (HC.sl false [(4 : Nat), (4 : Nat)] acc), HV.ce (HC.lit true)], [[HC.sl false [(4 : Nat)] l, HC.int IntKind.i64 p]]))) := by kernel_rfl
theorem vbV2 (acc l : List (List Int)) (s : ByteArray) (i p : Int) (K : HEx → LV → Prop) : (nbodyT true CValues anV2 (nthLoop Try.f18 2) (([.ce (.ptr 0 0), .ce (.sl false [4, 4] acc), .ce (.lit true), .ce (.str s), .ce (.int .i64 i)], [[.sl false [4] l, .int .i64 p]])) K) =
    ((decide (i < (((List.length s.data.1) : Nat) : Int)) = true → ((0 : Int) < (4 : Int) ∧ (4 : Int) ≤ (4611686018427387904 : Int) ∧ inSrc l p) ∧ (∃ (x : Int × Int), drew l p (4 : Int) x) ∧ ∀ (x : Int × Int), drew l p (4 : Int) x → ((x.1 == (0 : Int)) = true → inSrc l x.2 ∧ (∃ (x : Int × Int), (0 : Int) ≤ x.1 ∧ x.1 ≤ (1000000000000000 : Int) ∧ inSrc l x.2) ∧ ∀ (x : Int × Int), (0 : Int) ≤ x.1 ∧ x.1 ≤ (1000000000000000 : Int) ∧ inSrc l x.2 → ((0 : Int) < (3 : Int) ∧ (3 : Int) ≤ (4611686018427387904 : Int) ∧ inSrc l x.2) ∧ (∃ (x_1 : Int × Int), drew l x.2 (3 : Int) x_1) ∧ ∀ (x_1 : Int × Int), drew l x.2 (3 : Int) x_1 → ((x_1.1 == (0 : Int)) = true → ((-9223372036854775808 : Int) ≤ (0 : Int) - x.1 ∧ (0 : Int) - x.1 ≤ (9223372036854775807 : Int)) ∧ ∀ (x4 : Int), x4 = (0 : Int) - x.1 → ((0 : Int) ≤ i ∧ i < (((List.length s.data.1) : Nat) : Int)) ∧ ((-9223372036854775808 : Int) ≤ Int.ofNat (BitVec.toNat (Array.getD s.data (Int.toNat i) (0 : UInt8)).1) ∧
    Int.ofNat (BitVec.toNat (Array.getD s.data (Int.toNat i) (0 : UInt8)).1) ≤ (9223372036854775807 : Int)) ∧ ∀ (x5 : Int), x5 = Int.ofNat (BitVec.toNat (Array.getD s.data (Int.toNat i) (0 : UInt8)).1) → ((List.length acc + (1 : Nat)) * (16 : Nat) ≤ (140737488355328 : Nat) ∧ List.length acc + (1 : Nat) ≤ maxLen) ∧ ((-9223372036854775808 : Int) ≤ i + (1 : Int) ∧ i + (1 : Int) ≤ (9223372036854775807 : Int)) ∧ ∀ (x6 : Int), x6 = i + (1 : Int) → K HEx.normal ([HV.ce (HC.ptr (0 : Nat) (0 : Nat)), HV.ce (HC.sl false [(4 : Nat), (4 : Nat)] (acc ++ [[x5, x4]])), HV.ce (HC.lit true), HV.ce (HC.str s), HV.ce (HC.int IntKind.i64 x6)], [[HC.sl false [(4 : Nat)] l, HC.int IntKind.i64 x_1.2]])) ∧ ((x_1.1 == (0 : Int)) = false → ((0 : Int) ≤ i ∧ i < (((List.length s.data.1) : Nat) : Int)) ∧ ((-9223372036854775808 : Int) ≤ Int.ofNat (BitVec.toNat (Array.getD s.data (Int.toNat i) (0 : UInt8)).1) ∧ Int.ofNat (BitVec.toNat (Array.getD s.data (Int.toNat i) (0 : UInt8)).1) ≤ (9223372036854775807 : Int)) ∧
    ∀ (x7 : Int), x7 = Int.ofNat (BitVec.toNat (Array.getD s.data (Int.toNat i) (0 : UInt8)).1) → ((List.length acc + (1 : Nat)) * (16 : Nat) ≤ (140737488355328 : Nat) ∧ List.length acc + (1 : Nat) ≤ maxLen) ∧ ((-9223372036854775808 : Int) ≤ i + (1 : Int) ∧ i + (1 : Int) ≤ (9223372036854775807 : Int)) ∧ ∀ (x8 : Int), x8 = i + (1 : Int) → K HEx.normal ([HV.ce (HC.ptr (0 : Nat) (0 : Nat)), HV.ce (HC.sl false [(4 : Nat), (4 : Nat)] (acc ++ [[x7, x.1]])), HV.ce (HC.lit true), HV.ce (HC.str s), HV.ce (HC.int IntKind.i64 x8)], [[HC.sl false [(4 : Nat)] l, HC.int IntKind.i64 x_1.2]]))) ∧ ((x.1 == (0 : Int)) = false → ((-9223372036854775808 : Int) ≤ i + (1 : Int) ∧ i + (1 : Int) ≤ (9223372036854775807 : Int)) ∧ ∀ (x9 : Int), x9 = i + (1 : Int) → K HEx.normal ([HV.ce (HC.ptr (0 : Nat) (0 : Nat)), HV.ce (HC.sl false [(4 : Nat), (4 : Nat)] acc), HV.ce (HC.lit true), HV.ce (HC.str s), HV.ce (HC.int IntKind.i64 x9)], [[HC.sl false [(4 : Nat)] l, HC.int IntKind.i64 x.2]]))) ∧
    (decide (i < (((List.length s.data.1) : Nat) : Int)) = false → K (HEx.exit (4 : Nat)) ([HV.ce (HC.ptr (0 : Nat) (0 : Nat)), HV.ce (HC.sl false [(4 : Nat), (4 : Nat)] acc), HV.ce (HC.lit true)], [[HC.sl false [(4 : Nat)] l, HC.int IntKind.i64 p]]))) := by kernel_rfl
attribute [local irreducible] hfun bodyT
theorem rng_ex {a b : Int} (l : List (List Int)) (p : Int) (h : a ≤ b) : ∃ x : Int × Int, a ≤ x.1 ∧ x.1 ≤ b ∧ x.2 = adv l p := ⟨(a, adv l p), Int.le_refl _, h, rfl⟩
theorem sml_el {c : List (List Int)} (h : sml c = true) (i : Nat) (hi : i < c.length) : 0 ≤ el c i ∧ el c i ≤ 99 := by
  unfold sml at h
  rw [List.all_eq_true] at h
  have := h (c.getD i []) (by rw [List.getD_eq_getElem?_getD, List.getElem?_eq_getElem hi]; exact List.getElem_mem hi)
  rw [Bool.and_eq_true] at this
  exact ⟨of_decide_eq_true this.1, of_decide_eq_true this.2⟩
set_option maxHeartbeats 400000 in
set_option maxRecDepth 100000 in
theorem sNew : Sound Try.prog 19 SNew := by
  refine sound_of (C := CNew) [] Try.func19 (by kernel_rfl) (by decide +kernel) (by kernel_rfl) rfl trivial (loops0 (by kernel_rfl)) ?_
  intro hargs pars R h
  unfold SNew at h
  split at h
  case h_2 => exfalso; exact h
  exact byVC (vcNew _ R) h.2
set_option maxHeartbeats 400000 in
set_option maxRecDepth 100000 in
theorem sNext : Sound Try.prog 35 SNext := by
  refine sound_of (C := CNext) tabNext Try.func35 (by kernel_rfl) (by decide +kernel) (by kernel_rfl) rfl ⟨sMod, trivial⟩ (loops0 (by kernel_rfl)) ?_
  intro hargs pars R h
  unfold SNext at h
  split at h
  case h_2 => exfalso; exact h
  rename_i m l p
  obtain ⟨⟨h1, h2, h3, h4⟩, _, hq⟩ := h
  refine byVC (vcNext l p m R) ⟨fun e => ?_, fun e => ?_⟩
  · have e := of_decide_eq_true e
    exact hq (0, p) ⟨Int.le_refl _, h1, by unfold adv; rw [if_neg (by omega)]⟩
  · have e := of_decide_eq_false e
    refine ⟨by omega, fun x1 e1 => ⟨by omega, fun x2 e2 => ⟨by omega, fun x3 e3 => ⟨⟨h1, h2⟩, fun y ey => ?_⟩⟩⟩⟩
    subst ey
    exact hq (x3 % m, x1) ⟨Int.emod_nonneg _ (by omega), Int.emod_lt_of_pos _ h1, by unfold adv; rw [if_pos (by omega)]; exact e1⟩
set_option maxHeartbeats 400000 in
set_option maxRecDepth 100000 in
theorem sRange : Sound Try.prog 44 SRange := by
  refine sound_of (C := CRange) tabRange Try.func44 (by kernel_rfl) (by decide +kernel) (by kernel_rfl) rfl ⟨sNext, trivial⟩ (loops0 (by kernel_rfl)) ?_
  intro hargs pars R h
  unfold SRange at h
  split at h
  case h_2 => exfalso; exact h
  rename_i a b l p
  obtain ⟨⟨h1, h2, h3, h4⟩, _, hq⟩ := h
  refine byVC (vcRange l p a b R) ⟨by omega, fun x1 e1 => ⟨by omega, fun x2 e2 => ⟨⟨by omega, by omega, h4⟩, drew_ex _ _ (by omega), fun x hx => ?_⟩⟩⟩
  have k1 := hx.1
  have k2 := hx.2.1
  refine ⟨by omega, fun x4 e4 => ?_⟩
  exact hq (x4, x.2) ⟨by dsimp only; omega, by dsimp only; omega, hx.2.2⟩
set_option maxHeartbeats 400000 in
set_option maxRecDepth 100000 in
theorem sNumb : Sound Try.prog 36 SNumb := by
  refine sound_of (C := CNumb) tabRange Try.func36 (by kernel_rfl) (by decide +kernel) (by kernel_rfl) rfl ⟨sNext, trivial⟩ (loops0 (by kernel_rfl)) ?_
  intro hargs pars R h
  unfold SNumb at h
  split at h
  case h_2 => exfalso; exact h
  rename_i l p
  obtain ⟨h1, _, hq⟩ := h
  refine byVC (vcNumb l p R) ⟨⟨by decide, by decide, h1⟩, drew_ex _ _ (by decide), fun x hx => ?_⟩
  have h2 := drew_src h1 hx
  refine ⟨fun _ => ⟨⟨by decide, by decide, h2⟩, drew_ex _ _ (by decide), fun y hy => ?_⟩, fun _ => ⟨fun _ => ⟨⟨by decide, by decide, h2⟩, drew_ex _ _ (by decide), fun y hy => ?_⟩, fun _ => ⟨fun _ => ⟨⟨by decide, by decide, h2⟩, drew_ex _ _ (by decide), fun y hy => ?_⟩, fun _ => ⟨fun _ => ⟨⟨by decide, by decide, h2⟩, drew_ex _ _ (by decide), fun y hy => ?_⟩, fun _ => ⟨⟨by decide, by decide, h2⟩, drew_ex _ _ (by decide), fun y hy => ?_⟩⟩⟩⟩⟩
  all_goals
    have b1 := hy.1
    have b2 := hy.2.1
    have b3 := drew_src h2 hy
  · exact hq (y.1, y.2) ⟨b1, by dsimp only; omega, b3⟩
  all_goals
    refine ⟨by omega, fun z ez => ?_⟩
    exact hq (z, y.2) ⟨by dsimp only; omega, by dsimp only; omega, b3⟩
set_option maxHeartbeats 400000 in
set_option maxRecDepth 100000 in
theorem sMakeM : Sound Try.prog 26 SMakeM := by
  refine sound_of (C := CMakeM) tabMakeM Try.func26 (by kernel_rfl) (by decide +kernel) (by kernel_rfl) rfl ⟨sNext, sRange, trivial⟩ (loops0 (by kernel_rfl)) ?_
  intro hargs pars R h
  unfold SMakeM at h
  split at h
  case h_2 => exfalso; exact h
  rename_i l p
  obtain ⟨hs0, _, hq⟩ := h
  refine byVC (vcMakeM l p R) ?_
  refine ⟨⟨by decide, by decide, hs0⟩, drew_ex _ _ (by decide), fun x1 hx1 => ?_⟩
  have hs1 := drew_src hs0 hx1
  refine ⟨⟨hx1.1, hx1.2.1⟩, fun y2 ey2 => ?_⟩
  refine ⟨⟨by decide, by decide, by decide, hs1⟩, rng_ex (a := 17) _ _ (by decide), fun x3 hx3 => ?_⟩
  have hs3 : inSrc l x3.2 := by rw [hx3.2.2]; exact inSrc_adv hs1
  refine ⟨⟨by decide, by decide, by decide, hs3⟩, rng_ex (a := 90) _ _ (by decide), fun x4 hx4 => ?_⟩
  have hs4 : inSrc l x4.2 := by rw [hx4.2.2]; exact inSrc_adv hs3
  refine ⟨⟨by decide, by decide, by decide, hs4⟩, rng_ex (a := 20) _ _ (by decide), fun x5 hx5 => ?_⟩
  have hs5 : inSrc l x5.2 := by rw [hx5.2.2]; exact inSrc_adv hs4
  refine ⟨⟨by decide, by decide, by decide, hs5⟩, rng_ex (a := 94) _ _ (by decide), fun x6 hx6 => ?_⟩
  have hs6 : inSrc l x6.2 := by rw [hx6.2.2]; exact inSrc_adv hs5
  refine ⟨⟨by decide, by decide, by decide, hs6⟩, rng_ex (a := 40) _ _ (by decide), fun x7 hx7 => ?_⟩
  have hs7 : inSrc l x7.2 := by rw [hx7.2.2]; exact inSrc_adv hs6
  refine ⟨⟨by decide, by decide, hs7⟩, drew_ex _ _ (by decide), fun x8 hx8 => ?_⟩
  have hs8 := drew_src hs7 hx8
  refine ⟨⟨hx8.1, hx8.2.1⟩, fun y9 ey9 => ?_⟩
  refine ⟨⟨by decide, by decide, by decide, hs8⟩, rng_ex (a := 98) _ _ (by decide), fun x10 hx10 => ?_⟩
  have hs10 : inSrc l x10.2 := by rw [hx10.2.2]; exact inSrc_adv hs8
  refine ⟨⟨by decide, by decide, by decide, hs10⟩, rng_ex (a := 54) _ _ (by decide), fun x11 hx11 => ?_⟩
  have hs11 : inSrc l x11.2 := by rw [hx11.2.2]; exact inSrc_adv hs10
  refine ⟨⟨by decide, by decide, hs11⟩, drew_ex _ _ (by decide), fun x12 hx12 => ?_⟩
  have hs12 := drew_src hs11 hx12
  refine ⟨⟨hx12.1, hx12.2.1⟩, fun y13 ey13 => ?_⟩
  refine ⟨⟨by decide, by decide, by decide, hs12⟩, rng_ex (a := 15) _ _ (by decide), fun x14 hx14 => ?_⟩
  have hs14 : inSrc l x14.2 := by rw [hx14.2.2]; exact inSrc_adv hs12
  refine ⟨⟨by decide, by decide, by decide, hs14⟩, rng_ex (a := 68) _ _ (by decide), fun x15 hx15 => ?_⟩
  have hs15 : inSrc l x15.2 := by rw [hx15.2.2]; exact inSrc_adv hs14
  refine ⟨⟨by decide, by decide, by decide, hs15⟩, rng_ex (a := 3) _ _ (by decide), fun x16 hx16 => ?_⟩
  have hs16 : inSrc l x16.2 := by rw [hx16.2.2]; exact inSrc_adv hs15
  refine ⟨⟨by decide, by decide, hs16⟩, drew_ex _ _ (by decide), fun x17 hx17 => ?_⟩
  have hs17 := drew_src hs16 hx17
  refine ⟨⟨by decide, by decide, hs17⟩, drew_ex _ _ (by decide), fun x18 hx18 => ?_⟩
  have hs18 := drew_src hs17 hx18
  refine ⟨⟨by decide, by decide, hs18⟩, drew_ex _ _ (by decide), fun x19 hx19 => ?_⟩
  have hs19 := drew_src hs18 hx19
  refine ⟨⟨by decide, by decide, hs19⟩, drew_ex _ _ (by decide), fun x20 hx20 => ?_⟩
  have hs20 := drew_src hs19 hx20
  refine ⟨⟨by decide, by decide, hs20⟩, drew_ex _ _ (by decide), fun x21 hx21 => ?_⟩
  have hs21 := drew_src hs20 hx21
  refine ⟨⟨by decide, by decide, hs21⟩, drew_ex _ _ (by decide), fun x22 hx22 => ?_⟩
  have hs22 := drew_src hs21 hx22
  refine ⟨⟨by decide, by decide, hs22⟩, drew_ex _ _ (by decide), fun x23 hx23 => ?_⟩
  have hs23 := drew_src hs22 hx23
  refine ⟨⟨by decide, by decide, hs23⟩, drew_ex _ _ (by decide), fun x24 hx24 => ?_⟩
  have hs24 := drew_src hs23 hx24
  refine ⟨fun kk => ⟨⟨by decide, by decide, hs24⟩, drew_ex _ _ (by decide), fun z hz => ?_⟩, fun kk => ?_⟩
  · exact hq (M.mk _ _ _ _ _ _ _ _ _ _ _ _ _ _ _ _ _ _ _ _ _ _, _) (drew_src hs24 hz)
  · exact hq (M.mk _ _ _ _ _ _ _ _ _ _ _ _ _ _ _ _ _ _ _ _ _ _, _) hs24
theorem loopV0 : ∀ v Q, (LV01 0 v).wp Q → hloop CValues anV0 (nthLoop Try.f18 0) v Q := by
  intro v Q h
  unfold LV01 at h
  split at h
  case h_2 => exfalso; exact h
  rename_i acc0 c n0 l p0
  obtain ⟨⟨h1, h2, h3, h4, h5, h6, h7⟩, hq⟩ := h
  refine hloop_rec (σ := List (List Int) × Int × Int) (fun s => ([.ce (.ptr 0 0), .ce (.sl false [4, 4] s.1), .ce (.lit true), .ce (.sl false [4] c), .ce (.int .i64 s.2.1)], [[.sl false [4] l, .int .i64 s.2.2]])) (fun s => s.2.1.toNat)
    (fun s => 0 ≤ s.2.1 ∧ s.2.1 ≤ 10 ∧ inSrc l s.2.2 ∧ (s.1.length : Int) + s.2.1 ≤ acc0.length + n0) ?_ (acc0, n0, p0) ⟨h1, h2, h3, Int.le_refl _⟩
  rintro ⟨acc, n, p⟩ ⟨i1, i2, i3, i4⟩ K hn he _
  dsimp only at i1 i2 i3 i4 hn ⊢
  refine byVB (vbV0 acc c l n p K) ⟨fun k => ?_, fun k => ?_⟩
  · have k := of_decide_eq_true k
    refine ⟨⟨by omega, by omega, i3⟩, drew_ex _ _ (by omega), fun x hx => ⟨⟨hx.1, hx.2.1⟩, fun x2 e2 => ?_⟩⟩
    have b2 := sml_el h5 x.1.toNat (by have := hx.1; have := hx.2.1; omega)
    refine ⟨by omega, fun x3 e3 => ⟨⟨by omega, by unfold maxLen; omega⟩, by omega, fun x4 e4 => ?_⟩⟩
    exact hn (acc ++ [[71, x3]], x4, x.2) ⟨(by dsimp only; omega), (by dsimp only; omega), (show inSrc l x.2 from drew_src i3 hx), (by dsimp only; rw [List.length_append, List.length_singleton]; omega)⟩ (by dsimp only; omega)
  · have k := of_decide_eq_false k
    exact he _ _ (hq (acc, p) ⟨i3, by dsimp only; omega⟩)
theorem loopV1 : ∀ v Q, (LV01 2 v).wp Q → hloop CValues anV1 (nthLoop Try.f18 1) v Q := by
  intro v Q h
  unfold LV01 at h
  split at h
  case h_2 => exfalso; exact h
  rename_i acc0 c n0 l p0
  obtain ⟨⟨h1, h2, h3, h4, h5, h6, h7⟩, hq⟩ := h
  refine hloop_rec (σ := List (List Int) × Int × Int) (fun s => ([.ce (.ptr 0 0), .ce (.sl false [4, 4] s.1), .ce (.lit true), .ce (.sl false [4] c), .ce (.int .i64 s.2.1)], [[.sl false [4] l, .int .i64 s.2.2]])) (fun s => s.2.1.toNat)
    (fun s => 0 ≤ s.2.1 ∧ s.2.1 ≤ 10 ∧ inSrc l s.2.2 ∧ (s.1.length : Int) + s.2.1 ≤ acc0.length + n0) ?_ (acc0, n0, p0) ⟨h1, h2, h3, Int.le_refl _⟩
  rintro ⟨acc, n, p⟩ ⟨i1, i2, i3, i4⟩ K hn he _
  dsimp only at i1 i2 i3 i4 hn ⊢
  refine byVB (vbV1 acc c l n p K) ⟨fun k => ?_, fun k => ?_⟩
  · have k := of_decide_eq_true k
    refine ⟨⟨by omega, by omega, i3⟩, drew_ex _ _ (by omega), fun x hx => ⟨⟨hx.1, hx.2.1⟩, fun x2 e2 => ?_⟩⟩
    have b2 := sml_el h5 x.1.toNat (by have := hx.1; have := hx.2.1; omega)
    refine ⟨by omega, fun x3 e3 => ⟨⟨by omega, by unfold maxLen; omega⟩, by omega, fun x4 e4 => ?_⟩⟩
    exact hn (acc ++ [[77, x3]], x4, x.2) ⟨(by dsimp only; omega), (by dsimp only; omega), (show inSrc l x.2 from drew_src i3 hx), (by dsimp only; rw [List.length_append, List.length_singleton]; omega)⟩ (by dsimp only; omega)
  · have k := of_decide_eq_false k
    exact he _ _ (hq (acc, p) ⟨i3, by dsimp only; omega⟩)
theorem byte_bd (b : UInt8) : -9223372036854775808 ≤ Int.ofNat b.toBitVec.toNat ∧ Int.ofNat b.toBitVec.toNat ≤ 9223372036854775807 := by
  have := b.toBitVec.isLt
  have e : Int.ofNat b.toBitVec.toNat = ((b.toBitVec.toNat : Nat) : Int) := rfl
  rw [e]
  omega
theorem loopV2 : ∀ v Q, (LV2 v).wp Q → hloop CValues anV2 (nthLoop Try.f18 2) v Q := by
  intro v Q h
  unfold LV2 at h
  split at h
  case h_2 => exfalso; exact h
  rename_i acc0 s i0 l p0
  cases hsz : Nat.ble s.size 20 with
  | false => rw [hsz] at h; exfalso; exact h
  | true =>
  rw [hsz] at h
  have hsz : s.data.1.length ≤ 20 := Nat.le_of_ble_eq_true hsz
  obtain ⟨⟨h1, h2, h3, h4⟩, hq⟩ := h
  refine hloop_rec (σ := List (List Int) × Int × Int) (fun t => ([.ce (.ptr 0 0), .ce (.sl false [4, 4] t.1), .ce (.lit true), .ce (.str s), .ce (.int .i64 t.2.1)], [[.sl false [4] l, .int .i64 t.2.2]])) (fun t => (20 - t.2.1).toNat)
    (fun t => 0 ≤ t.2.1 ∧ t.2.1 ≤ 20 ∧ inSrc l t.2.2 ∧ (t.1.length : Int) + (20 - t.2.1) ≤ acc0.length + (20 - i0)) ?_ (acc0, i0, p0) ⟨h1, h2, h3, Int.le_refl _⟩
  rintro ⟨acc, i, p⟩ ⟨i1, i2, i3, i4⟩ K hn he _
  dsimp only at i1 i2 i3 i4 hn ⊢
  refine byVB (vbV2 acc l s i p K) ⟨fun k => ?_, fun k => ?_⟩
  · have k := of_decide_eq_true k
    refine ⟨⟨by decide, by decide, i3⟩, drew_ex _ _ (by decide), fun x hx => ⟨fun _ => ⟨drew_src i3 hx, ⟨(0, x.2), Int.le_refl _, (by decide : (0 : Int) ≤ 1000000000000000), (show inSrc l x.2 from drew_src i3 hx)⟩, fun y hy => ⟨⟨by decide, by decide, hy.2.2⟩, drew_ex _ _ (by decide), fun z hz => ⟨fun _ => ?_, fun _ => ?_⟩⟩⟩, fun _ => ⟨by omega, fun x9 e9 => ?_⟩⟩⟩
    · have y1 := hy.1
      have y2 := hy.2.1
      refine ⟨by omega, fun x4 e4 => ⟨⟨i1, k⟩, ?_, fun x5 e5 => ⟨⟨by omega, by unfold maxLen; omega⟩, by omega, fun x6 e6 => ?_⟩⟩⟩
      · exact byte_bd _
      · exact hn (acc ++ [[x5, x4]], x6, z.2) ⟨(by dsimp only; omega), (by dsimp only; omega), (show inSrc l z.2 from drew_src hy.2.2 hz), (by dsimp only; rw [List.length_append, List.length_singleton]; omega)⟩ (by dsimp only; omega)
    · refine ⟨⟨i1, k⟩, ?_, fun x5 e5 => ⟨⟨by omega, by unfold maxLen; omega⟩, by omega, fun x6 e6 => ?_⟩⟩
      · exact byte_bd _
      · exact hn (acc ++ [[x5, y.1]], x6, z.2) ⟨(by dsimp only; omega), (by dsimp only; omega), (show inSrc l z.2 from drew_src hy.2.2 hz), (by dsimp only; rw [List.length_append, List.length_singleton]; omega)⟩ (by dsimp only; omega)
    · exact hn (acc, x9, x.2) ⟨(by dsimp only; omega), (by dsimp only; omega), (show inSrc l x.2 from drew_src i3 hx), (by dsimp only; omega)⟩ (by dsimp only; omega)
  · have k := of_decide_eq_false k
    exact he _ _ (hq (acc, p) ⟨i3, by dsimp only; omega⟩)
set_option maxHeartbeats 400000 in
set_option maxRecDepth 100000 in
theorem sValues : Sound Try.prog 18 SValues := by
  refine sound_of (C := CValues) tabValues Try.func18 (by kernel_rfl) (by decide +kernel) (by kernel_rfl) rfl ⟨sNext, sNumb, trivial⟩ (loops3 (by kernel_rfl) (loopOK_of (an := anV0) (S := LV01 0) (by kernel_rfl) loopV0) (loopOK_of (an := anV1) (S := LV01 2) (by kernel_rfl) loopV1) (loopOK_of (an := anV2) (S := LV2) (by kernel_rfl) loopV2)) ?_
  intro hargs pars R h
  unfold SValues at h
  split at h
  case h_2 => exfalso; exact h
  rename_i l p
  obtain ⟨h1, _, hq⟩ := h
  refine byVC (vcValues l p R) ⟨⟨by decide, by decide, h1⟩, drew_ex _ _ (by decide), fun x hx => ?_⟩
  have x1 := hx.1
  have x2 := hx.2.1
  refine ⟨⟨x1, by omega, drew_src h1 hx, by decide, by decide, by decide, by decide⟩, fun y hy => ?_⟩
  have y2 := hy.2
  refine ⟨⟨by decide, by decide, hy.1⟩, drew_ex _ _ (by decide), fun z hz => ?_⟩
  have z1 := hz.1
  have z2 := hz.2.1
  refine ⟨⟨z1, by omega, drew_src hy.1 hz, by omega, by decide, by decide, by decide⟩, fun w hw => ?_⟩
  have w2 := hw.2
  refine ⟨⟨by decide, by decide, hw.1, by omega⟩, fun u hu => ?_⟩
  have u2 := hu.2
  exact hq (u.1, u.2) ⟨hu.1, by dsimp only; omega⟩
end Go.Proofs.Ytcfgklmpfkmdkaa
