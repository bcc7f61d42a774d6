/-
  Package modal: groups, codes, what a block holds (and the reference).
  Conditions: none.
-/
import Derived.Test.YtcfgklmpfkmdkaaVc
import Derived.Test.YtcfgklmpfkmdkaaWb
namespace U
open Go
def vl (n : Int) : Bool := decide (n ≥ -1000000000000000) && decide (n ≤ 1000000000000000)
def isw (n : Int) : Bool := vl n && (n.tmod 1000000 == 0)
def wv (n : Int) : Int := if isw n then n.tdiv 1000000 else 0
def lt (r : List Int) : Int := r.getD 0 0
def nm (r : List Int) : Int := r.getD 1 0
def isc (r : List Int) : Bool := isw (nm r) && (lt r == 71 || lt r == 77)
def amg (n : Int) : List (List Int) → Bool
  | [] => false
  | r :: l => (n == r.getD 0 0) || amg n l
/-- the number of the first list that holds c, from i on; 0: none -/
def scn (c : Int) : List (List (List Int)) → Int → Int
  | [], _ => 0
  | g :: r, i => if amg c g then i else scn c r (i + 1)
def glit : List (List (List Int)) := [[[0], [1], [2], [3], [33], [73], [74], [80], [81], [82], [83], [84], [85], [86], [89]], [[17], [18], [19]], [[90], [91]], [[20], [21]], [[94], [95]], [[40], [41], [42]], [[43], [44], [49]], [[98], [99]], [[54], [55], [56], [57], [58], [59]], [[61], [64]], [[15], [16]], [[68], [69]], [[53]], [[4], [10], [12], [13], [31], [52], [92]]]
def prep (c : Int) : Int := scn c glit 1
def misc (c : Int) : Int := if amg c [[0], [1], [2], [30]] then 21 else if amg c [[3], [4], [5]] then 22 else if c = 6 then 23 else if amg c [[7], [8], [9]] then 24 else if c = 62 ∨ c = 63 then 25 else 0
def grp (l c : Int) : Int := if l = 71 then prep c else if l = 77 then misc c else 0
def has (c n : Int) : List (List Int) → Bool
  | [] => false
  | r :: l => (isc r && (lt r == c) && (wv (nm r) == n)) || has c n l
def fnd (c : Int) : List (List Int) → Option Int
  | [] => none
  | r :: l => if lt r = c then some (nm r) else fnd c l
def fndN (c : Int) (l : List (List Int)) : Int := match fnd c l with | some x => x | none => 0
def fndB (c : Int) (l : List (List Int)) : Bool := match fnd c l with | some _ => true | none => false
def gof (g : Int) : List (List Int) → Int
  | [] => -1
  | r :: l => if isw (nm r) && (grp (lt r) (wv (nm r)) == g) then wv (nm r) else gof g l
end U
namespace Go.Proofs.Ytcfgklmpfkmdkaa
open Go Go.HL U
def SVl (hargs : List HV) (pars : List (List HC)) : SR :=
  match hargs, pars with
  | [.ce (.int .i64 n)], [] => .det True ⟨.ce (.bool (vl n)), false, [], []⟩
  | _, _ => .fail
noncomputable def CVl : Ctx := ⟨Try.prog, gam [], Try.f37.ntmps, [], []⟩
theorem vcVl (n : Int) (Q : Res → Prop) : (nfun true CVl Try.f37 (bodyOf Try.f37) [.ce (.int .i64 n)] [] Q) =
    ((decide (n ≥ (-1000000000000000 : Int)) = true → Q { val := HV.ce (HC.bool (decide (n ≤ (1000000000000000 : Int)))), own := false, pars := [], news := [] }) ∧ (decide (n ≥ (-1000000000000000 : Int)) = false → Q { val := HV.ce (HC.bool false), own := false, pars := [], news := [] })) := by kernel_rfl
theorem vcVl2 (n : Int) (Q : Res → Prop) : (nfun true CVl Try.f39 (bodyOf Try.f39) [.ce (.int .i64 n)] [] Q) =
    ((decide (n ≥ (-1000000000000000 : Int)) = true → Q { val := HV.ce (HC.bool (decide (n ≤ (1000000000000000 : Int)))), own := false, pars := [], news := [] }) ∧ (decide (n ≥ (-1000000000000000 : Int)) = false → Q { val := HV.ce (HC.bool false), own := false, pars := [], news := [] })) := by kernel_rfl
def SWhole (hargs : List HV) (pars : List (List HC)) : SR :=
  match hargs, pars with
  | [.ce (.int .i64 n)], [] => .det True ⟨.tup [.ce (.int .i64 (wv n)), .ce (.bool (isw n))], false, [], []⟩
  | _, _ => .fail
def tabVl : List (FuncId × HL.Spec) := [(37, SVl), (39, SVl)]
noncomputable def CWhole : Ctx := ⟨Try.prog, gam tabVl, Try.f55.ntmps, [], []⟩
theorem vcWhole (n : Int) (Q : Res → Prop) : (nfun true CWhole Try.f55 (bodyOf Try.f55) [.ce (.int .i64 n)] [] Q) =
    (True ∧ ∀ (x1 : Bool), x1 = vl n → ((!x1) = true → Q { val := HV.tup [H0.ce (HC.int IntKind.i64 (0 : Int)), H0.ce (HC.bool false)], own := false, pars := [], news := [] }) ∧ ((!x1) = false → (1000000 : Int) ≠ (0 : Int) ∧ ∀ (x2 : Int), x2 = Int.tmod n (1000000 : Int) → ((x2 != (0 : Int)) = true → Q { val := HV.tup [H0.ce (HC.int IntKind.i64 (0 : Int)), H0.ce (HC.bool false)], own := false, pars := [], news := [] }) ∧ ((x2 != (0 : Int)) = false → (1000000 : Int) ≠ (0 : Int) ∧ ((-9223372036854775808 : Int) ≤ Int.tdiv n (1000000 : Int) ∧ Int.tdiv n (1000000 : Int) ≤ (9223372036854775807 : Int)) ∧ ∀ (x3 : Int), x3 = Int.tdiv n (1000000 : Int) → Q { val := HV.tup [H0.ce (HC.int IntKind.i64 x3), H0.ce (HC.bool true)], own := false, pars := [], news := [] }))) := by kernel_rfl
theorem vcWhole2 (n : Int) (Q : Res → Prop) : (nfun true CWhole Try.f40 (bodyOf Try.f40) [.ce (.int .i64 n)] [] Q) =
    (True ∧ ∀ (x1 : Bool), x1 = vl n → ((!x1) = true → Q { val := HV.tup [H0.ce (HC.int IntKind.i64 (0 : Int)), H0.ce (HC.bool false)], own := false, pars := [], news := [] }) ∧ ((!x1) = false → (1000000 : Int) ≠ (0 : Int) ∧ ∀ (x2 : Int), x2 = Int.tmod n (1000000 : Int) → ((x2 != (0 : Int)) = true → Q { val := HV.tup [H0.ce (HC.int IntKind.i64 (0 : Int)), H0.ce (HC.bool false)], own := false, pars := [], news := [] }) ∧ ((x2 != (0 : Int)) = false → (1000000 : Int) ≠ (0 : Int) ∧ ((-9223372036854775808 : Int) ≤ Int.tdiv n (1000000 : Int) ∧ Int.tdiv n (1000000 : Int) ≤ (9223372036854775807 : Int)) ∧ ∀ (x3 : Int), x3 = Int.tdiv n (1000000 : Int) → Q { val := HV.tup [H0.ce (HC.int IntKind.i64 x3), H0.ce (HC.bool true)], own := false, pars := [], news := [] }))) := by kernel_rfl
def SCode (hargs : List HV) (pars : List (List HC)) : SR :=
  match hargs, pars with
  | [.agg [.int .i64 a, .int .i64 n]], [] => .det True ⟨.tup [.ce (.int .i64 (wv n)), .ce (.bool (isc [a, n]))], false, [], []⟩
  | _, _ => .fail
def tabW : List (FuncId × HL.Spec) := [(55, SWhole), (40, SWhole)]
noncomputable def CCode : Ctx := ⟨Try.prog, gam tabW, Try.f38.ntmps, [], []⟩
theorem vcCode (a n : Int) (Q : Res → Prop) : (nfun true CCode Try.f38 (bodyOf Try.f38) [.agg [.int .i64 a, .int .i64 n]] [] Q) =
    (True ∧ ∀ (x1 : Int), x1 = wv n → ∀ (x2 : Bool), x2 = isw n → (x2 = true → ((a == (71 : Int)) = true → Q { val := HV.tup [H0.ce (HC.int IntKind.i64 x1), H0.ce (HC.bool true)], own := false, pars := [], news := [] }) ∧ ((a == (71 : Int)) = false → Q { val := HV.tup [H0.ce (HC.int IntKind.i64 x1), H0.ce (HC.bool (a == (77 : Int)))], own := false, pars := [], news := [] })) ∧ (x2 = false → Q { val := HV.tup [H0.ce (HC.int IntKind.i64 x1), H0.ce (HC.bool false)], own := false, pars := [], news := [] })) := by kernel_rfl
def SPrep (hargs : List HV) (pars : List (List HC)) : SR :=
  match hargs, pars with
  | [.ce (.int .i64 c)], [] => .det True ⟨.ce (.int .i64 (prep c)), false, [], []⟩
  | _, _ => .fail
noncomputable def CPrep : Ctx := ⟨Try.prog, gam [], Try.f52.ntmps, [], []⟩
theorem vcPrep (c : Int) (Q : Res → Prop) : (nfun true CPrep Try.f52 (bodyOf Try.f52) [.ce (.int .i64 c)] [] Q) =
    (((c == (0 : Int)) = true → Q { val := HV.ce (HC.int IntKind.i64 (1 : Int)), own := false, pars := [], news := [] }) ∧ ((c == (0 : Int)) = false → ((c == (1 : Int)) = true → Q { val := HV.ce (HC.int IntKind.i64 (1 : Int)), own := false, pars := [], news := [] }) ∧ ((c == (1 : Int)) = false → ((c == (2 : Int)) = true → Q { val := HV.ce (HC.int IntKind.i64 (1 : Int)), own := false, pars := [], news := [] }) ∧ ((c == (2 : Int)) = false → ((c == (3 : Int)) = true → Q { val := HV.ce (HC.int IntKind.i64 (1 : Int)), own := false, pars := [], news := [] }) ∧ ((c == (3 : Int)) = false → ((c == (33 : Int)) = true → Q { val := HV.ce (HC.int IntKind.i64 (1 : Int)), own := false, pars := [], news := [] }) ∧ ((c == (33 : Int)) = false → ((c == (73 : Int)) = true → Q { val := HV.ce (HC.int IntKind.i64 (1 : Int)), own := false, pars := [], news := [] }) ∧ ((c == (73 : Int)) = false → ((c == (74 : Int)) = true →
    Q { val := HV.ce (HC.int IntKind.i64 (1 : Int)), own := false, pars := [], news := [] }) ∧ ((c == (74 : Int)) = false → ((c == (80 : Int)) = true → Q { val := HV.ce (HC.int IntKind.i64 (1 : Int)), own := false, pars := [], news := [] }) ∧ ((c == (80 : Int)) = false → ((c == (81 : Int)) = true → Q { val := HV.ce (HC.int IntKind.i64 (1 : Int)), own := false, pars := [], news := [] }) ∧ ((c == (81 : Int)) = false → ((c == (82 : Int)) = true → Q { val := HV.ce (HC.int IntKind.i64 (1 : Int)), own := false, pars := [], news := [] }) ∧ ((c == (82 : Int)) = false → ((c == (83 : Int)) = true → Q { val := HV.ce (HC.int IntKind.i64 (1 : Int)), own := false, pars := [], news := [] }) ∧ ((c == (83 : Int)) = false → ((c == (84 : Int)) = true → Q { val := HV.ce (HC.int IntKind.i64 (1 : Int)), own := false, pars := [], news := [] }) ∧ ((c == (84 : Int)) = false → ((c == (85 : Int)) = true → Q { val := HV.ce (HC.int IntKind.i64 (1 : Int)), own := false, pars := [], news := [] }) ∧
    ((c == (85 : Int)) = false → ((c == (86 : Int)) = true → Q { val := HV.ce (HC.int IntKind.i64 (1 : Int)), own := false, pars := [], news := [] }) ∧ ((c == (86 : Int)) = false → ((c == (89 : Int)) = true → Q { val := HV.ce (HC.int IntKind.i64 (1 : Int)), own := false, pars := [], news := [] }) ∧ ((c == (89 : Int)) = false → ((c == (17 : Int)) = true → Q { val := HV.ce (HC.int IntKind.i64 (2 : Int)), own := false, pars := [], news := [] }) ∧ ((c == (17 : Int)) = false → ((c == (18 : Int)) = true → Q { val := HV.ce (HC.int IntKind.i64 (2 : Int)), own := false, pars := [], news := [] }) ∧ ((c == (18 : Int)) = false → ((c == (19 : Int)) = true → Q { val := HV.ce (HC.int IntKind.i64 (2 : Int)), own := false, pars := [], news := [] }) ∧ ((c == (19 : Int)) = false → ((c == (90 : Int)) = true → Q { val := HV.ce (HC.int IntKind.i64 (3 : Int)), own := false, pars := [], news := [] }) ∧ ((c == (90 : Int)) = false →
    ((c == (91 : Int)) = true → Q { val := HV.ce (HC.int IntKind.i64 (3 : Int)), own := false, pars := [], news := [] }) ∧ ((c == (91 : Int)) = false → ((c == (20 : Int)) = true → Q { val := HV.ce (HC.int IntKind.i64 (4 : Int)), own := false, pars := [], news := [] }) ∧ ((c == (20 : Int)) = false → ((c == (21 : Int)) = true → Q { val := HV.ce (HC.int IntKind.i64 (4 : Int)), own := false, pars := [], news := [] }) ∧ ((c == (21 : Int)) = false → ((c == (94 : Int)) = true → Q { val := HV.ce (HC.int IntKind.i64 (5 : Int)), own := false, pars := [], news := [] }) ∧ ((c == (94 : Int)) = false → ((c == (95 : Int)) = true → Q { val := HV.ce (HC.int IntKind.i64 (5 : Int)), own := false, pars := [], news := [] }) ∧ ((c == (95 : Int)) = false → ((c == (40 : Int)) = true → Q { val := HV.ce (HC.int IntKind.i64 (6 : Int)), own := false, pars := [], news := [] }) ∧ ((c == (40 : Int)) = false → ((c == (41 : Int)) = true →
    Q { val := HV.ce (HC.int IntKind.i64 (6 : Int)), own := false, pars := [], news := [] }) ∧ ((c == (41 : Int)) = false → ((c == (42 : Int)) = true → Q { val := HV.ce (HC.int IntKind.i64 (6 : Int)), own := false, pars := [], news := [] }) ∧ ((c == (42 : Int)) = false → ((c == (43 : Int)) = true → Q { val := HV.ce (HC.int IntKind.i64 (7 : Int)), own := false, pars := [], news := [] }) ∧ ((c == (43 : Int)) = false → ((c == (44 : Int)) = true → Q { val := HV.ce (HC.int IntKind.i64 (7 : Int)), own := false, pars := [], news := [] }) ∧ ((c == (44 : Int)) = false → ((c == (49 : Int)) = true → Q { val := HV.ce (HC.int IntKind.i64 (7 : Int)), own := false, pars := [], news := [] }) ∧ ((c == (49 : Int)) = false → ((c == (98 : Int)) = true → Q { val := HV.ce (HC.int IntKind.i64 (8 : Int)), own := false, pars := [], news := [] }) ∧ ((c == (98 : Int)) = false → ((c == (99 : Int)) = true → Q { val := HV.ce (HC.int IntKind.i64 (8 : Int)), own := false, pars := [], news := [] }) ∧
    ((c == (99 : Int)) = false → ((c == (54 : Int)) = true → Q { val := HV.ce (HC.int IntKind.i64 (9 : Int)), own := false, pars := [], news := [] }) ∧ ((c == (54 : Int)) = false → ((c == (55 : Int)) = true → Q { val := HV.ce (HC.int IntKind.i64 (9 : Int)), own := false, pars := [], news := [] }) ∧ ((c == (55 : Int)) = false → ((c == (56 : Int)) = true → Q { val := HV.ce (HC.int IntKind.i64 (9 : Int)), own := false, pars := [], news := [] }) ∧ ((c == (56 : Int)) = false → ((c == (57 : Int)) = true → Q { val := HV.ce (HC.int IntKind.i64 (9 : Int)), own := false, pars := [], news := [] }) ∧ ((c == (57 : Int)) = false → ((c == (58 : Int)) = true → Q { val := HV.ce (HC.int IntKind.i64 (9 : Int)), own := false, pars := [], news := [] }) ∧ ((c == (58 : Int)) = false → ((c == (59 : Int)) = true → Q { val := HV.ce (HC.int IntKind.i64 (9 : Int)), own := false, pars := [], news := [] }) ∧ ((c == (59 : Int)) = false →
    ((c == (61 : Int)) = true → Q { val := HV.ce (HC.int IntKind.i64 (10 : Int)), own := false, pars := [], news := [] }) ∧ ((c == (61 : Int)) = false → ((c == (64 : Int)) = true → Q { val := HV.ce (HC.int IntKind.i64 (10 : Int)), own := false, pars := [], news := [] }) ∧ ((c == (64 : Int)) = false → ((c == (15 : Int)) = true → Q { val := HV.ce (HC.int IntKind.i64 (11 : Int)), own := false, pars := [], news := [] }) ∧ ((c == (15 : Int)) = false → ((c == (16 : Int)) = true → Q { val := HV.ce (HC.int IntKind.i64 (11 : Int)), own := false, pars := [], news := [] }) ∧ ((c == (16 : Int)) = false → ((c == (68 : Int)) = true → Q { val := HV.ce (HC.int IntKind.i64 (12 : Int)), own := false, pars := [], news := [] }) ∧ ((c == (68 : Int)) = false → ((c == (69 : Int)) = true → Q { val := HV.ce (HC.int IntKind.i64 (12 : Int)), own := false, pars := [], news := [] }) ∧ ((c == (69 : Int)) = false → ((c == (53 : Int)) = true →
    Q { val := HV.ce (HC.int IntKind.i64 (13 : Int)), own := false, pars := [], news := [] }) ∧ ((c == (53 : Int)) = false → ((c == (4 : Int)) = true → Q { val := HV.ce (HC.int IntKind.i64 (14 : Int)), own := false, pars := [], news := [] }) ∧ ((c == (4 : Int)) = false → ((c == (10 : Int)) = true → Q { val := HV.ce (HC.int IntKind.i64 (14 : Int)), own := false, pars := [], news := [] }) ∧ ((c == (10 : Int)) = false → ((c == (12 : Int)) = true → Q { val := HV.ce (HC.int IntKind.i64 (14 : Int)), own := false, pars := [], news := [] }) ∧ ((c == (12 : Int)) = false → ((c == (13 : Int)) = true → Q { val := HV.ce (HC.int IntKind.i64 (14 : Int)), own := false, pars := [], news := [] }) ∧ ((c == (13 : Int)) = false → ((c == (31 : Int)) = true → Q { val := HV.ce (HC.int IntKind.i64 (14 : Int)), own := false, pars := [], news := [] }) ∧ ((c == (31 : Int)) = false → ((c == (52 : Int)) = true → Q { val := HV.ce (HC.int IntKind.i64 (14 : Int)), own := false, pars := [], news := [] }) ∧
    ((c == (52 : Int)) = false → ((c == (92 : Int)) = true → Q { val := HV.ce (HC.int IntKind.i64 (14 : Int)), own := false, pars := [], news := [] }) ∧ ((c == (92 : Int)) = false → Q { val := HV.ce (HC.int IntKind.i64 (0 : Int)), own := false, pars := [], news := [] }))))))))))))))))))))))))))))))))))))))))))))))))))))) := by kernel_rfl
def SMisc (hargs : List HV) (pars : List (List HC)) : SR :=
  match hargs, pars with
  | [.ce (.int .i64 c)], [] => .det True ⟨.ce (.int .i64 (misc c)), false, [], []⟩
  | _, _ => .fail
noncomputable def CMisc : Ctx := ⟨Try.prog, gam [], Try.f53.ntmps, [], []⟩
theorem vcMisc (c : Int) (Q : Res → Prop) : (nfun true CMisc Try.f53 (bodyOf Try.f53) [.ce (.int .i64 c)] [] Q) =
    (((c == (0 : Int)) = true → Q { val := HV.ce (HC.int IntKind.i64 (21 : Int)), own := false, pars := [], news := [] }) ∧ ((c == (0 : Int)) = false → ((c == (1 : Int)) = true → Q { val := HV.ce (HC.int IntKind.i64 (21 : Int)), own := false, pars := [], news := [] }) ∧ ((c == (1 : Int)) = false → ((c == (2 : Int)) = true → Q { val := HV.ce (HC.int IntKind.i64 (21 : Int)), own := false, pars := [], news := [] }) ∧ ((c == (2 : Int)) = false → ((c == (30 : Int)) = true → Q { val := HV.ce (HC.int IntKind.i64 (21 : Int)), own := false, pars := [], news := [] }) ∧ ((c == (30 : Int)) = false → ((c == (3 : Int)) = true → Q { val := HV.ce (HC.int IntKind.i64 (22 : Int)), own := false, pars := [], news := [] }) ∧ ((c == (3 : Int)) = false → ((c == (4 : Int)) = true → Q { val := HV.ce (HC.int IntKind.i64 (22 : Int)), own := false, pars := [], news := [] }) ∧ ((c == (4 : Int)) = false → ((c == (5 : Int)) = true →
    Q { val := HV.ce (HC.int IntKind.i64 (22 : Int)), own := false, pars := [], news := [] }) ∧ ((c == (5 : Int)) = false → ((c == (6 : Int)) = true → Q { val := HV.ce (HC.int IntKind.i64 (23 : Int)), own := false, pars := [], news := [] }) ∧ ((c == (6 : Int)) = false → ((c == (7 : Int)) = true → Q { val := HV.ce (HC.int IntKind.i64 (24 : Int)), own := false, pars := [], news := [] }) ∧ ((c == (7 : Int)) = false → ((c == (8 : Int)) = true → Q { val := HV.ce (HC.int IntKind.i64 (24 : Int)), own := false, pars := [], news := [] }) ∧ ((c == (8 : Int)) = false → ((c == (9 : Int)) = true → Q { val := HV.ce (HC.int IntKind.i64 (24 : Int)), own := false, pars := [], news := [] }) ∧ ((c == (9 : Int)) = false → ((c == (62 : Int)) = true → Q { val := HV.ce (HC.int IntKind.i64 (25 : Int)), own := false, pars := [], news := [] }) ∧ ((c == (62 : Int)) = false → ((c == (63 : Int)) = true → Q { val := HV.ce (HC.int IntKind.i64 (25 : Int)), own := false, pars := [], news := [] }) ∧
    ((c == (63 : Int)) = false → Q { val := HV.ce (HC.int IntKind.i64 (0 : Int)), own := false, pars := [], news := [] })))))))))))))) := by kernel_rfl
def SGroup (hargs : List HV) (pars : List (List HC)) : SR :=
  match hargs, pars with
  | [.ce (.int .i64 l), .ce (.int .i64 c)], [] => .det True ⟨.ce (.int .i64 (grp l c)), false, [], []⟩
  | _, _ => .fail
def tabGr : List (FuncId × HL.Spec) := [(52, SPrep), (53, SMisc)]
noncomputable def CGroup : Ctx := ⟨Try.prog, gam tabGr, Try.f29.ntmps, [], []⟩
theorem vcGroup (l c : Int) (Q : Res → Prop) : (nfun true CGroup Try.f29 (bodyOf Try.f29) [.ce (.int .i64 l), .ce (.int .i64 c)] [] Q) =
    (((l == (71 : Int)) = true → True ∧ ∀ (x1 : Int), x1 = prep c → Q { val := HV.ce (HC.int IntKind.i64 x1), own := false, pars := [], news := [] }) ∧ ((l == (71 : Int)) = false → ((l == (77 : Int)) = true → True ∧ ∀ (x2 : Int), x2 = misc c → Q { val := HV.ce (HC.int IntKind.i64 x2), own := false, pars := [], news := [] }) ∧ ((l == (77 : Int)) = false → Q { val := HV.ce (HC.int IntKind.i64 (0 : Int)), own := false, pars := [], news := [] }))) := by kernel_rfl
def SAmong (hargs : List HV) (pars : List (List HC)) : SR :=
  match hargs, pars with
  | [.ce (.int .i64 n), .ce (.sl false [4] l)], [] => .det (l.length ≤ 1000) ⟨.ce (.bool (amg n l)), false, [], []⟩
  | _, _ => .fail
def anAmong : LAnn := ⟨[0, 1, 4, 5], [4], [], false⟩
def LAmong (v : LV) : LR :=
  match v with
  | ([.ce (.int .i64 n), .ce (.sl false [4] l), .ce (.bool r), .ce (.int .i64 k)], []) =>
    .alts (k = 0 ∧ l.length ≤ 1000) [(amg n l = false, .exit 0, ([.ce (.bool r)], [])), (amg n l = true, .ret, ([.ce (.bool true)], []))]
  | _ => .fail
noncomputable def CAmong : Ctx := ⟨Try.prog, gam [], Try.f54.ntmps, [(2, anAmong, LAmong)], []⟩
theorem vcAmong (n : Int) (l : List (List Int)) (Q : Res → Prop) : (nfun true CAmong Try.f54 (bodyOf Try.f54) [.ce (.int .i64 n), .ce (.sl false [4] l)] [] Q) =
    (((0 : Int) = (0 : Int) ∧ List.length l ≤ (1000 : Nat)) ∧ (amg n l = false → Q { val := HV.ce (HC.bool false), own := false, pars := [], news := [] }) ∧ (amg n l = true → Q { val := HV.ce (HC.bool true), own := false, pars := [], news := [] })) := by kernel_rfl
theorem vbAmong (n k : Int) (r : Bool) (l : List (List Int)) (K : HEx → LV → Prop) : (nbodyT true CAmong anAmong (nthLoop Try.f54 0) (([.ce (.int .i64 n), .ce (.sl false [4] l), .ce (.bool r), .ce (.int .i64 k)], [])) K) =
    ((decide (k < (((List.length l) : Nat) : Int)) = true → ((0 : Int) ≤ k ∧ k < (((List.length l) : Nat) : Int)) ∧ ∀ (x1 : Int), x1 = el l (Int.toNat k) → ((x1 == n) = true → K HEx.ret ([HV.ce (HC.bool true)], [])) ∧ ((x1 == n) = false → ((-9223372036854775808 : Int) ≤ k + (1 : Int) ∧ k + (1 : Int) ≤ (9223372036854775807 : Int)) ∧ ∀ (x2 : Int), x2 = k + (1 : Int) → K HEx.normal ([HV.ce (HC.int IntKind.i64 n), HV.ce (HC.sl false [(4 : Nat)] l), HV.ce (HC.bool r), HV.ce (HC.int IntKind.i64 x2)], []))) ∧ (decide (k < (((List.length l) : Nat) : Int)) = false → K (HEx.exit (0 : Nat)) ([HV.ce (HC.bool r)], []))) := by kernel_rfl
def anGroup2 : LAnn := ⟨[1, 4, 5, 6], [4], [], false⟩
def LGroup2 (v : LV) : LR :=
  match v with
  | ([.ce (.int .i64 c), .ce (.int .i64 r), .ce (.nsls [4] ll), .ce (.int .i64 k)], []) =>
    .alts (k = 1 ∧ 1 ≤ ll.length ∧ ll.length ≤ 100 ∧ ∀ g, g ∈ ll → g.length ≤ 100) [(scn c (ll.drop 1) 1 = 0, .exit 1, ([.ce (.int .i64 r)], [])), (scn c (ll.drop 1) 1 ≠ 0, .ret, ([.ce (.int .i64 (scn c (ll.drop 1) 1))], []))]
  | _ => .fail
def tabAm : List (FuncId × HL.Spec) := [(54, SAmong)]
noncomputable def CGroup2 : Ctx := ⟨Try.prog, gam tabAm, Try.f30.ntmps, [(17, anGroup2, LGroup2)], []⟩
theorem vcGroup2 (l c : Int) (Q : Res → Prop) : (nfun true CGroup2 Try.f30 (bodyOf Try.f30) [.ce (.int .i64 l), .ce (.int .i64 c)] [] Q) =
    (((l == (77 : Int)) = true → (4 : Nat) ≤ (1000 : Nat) ∧ ∀ (x1 : Bool), x1 = amg c [[(0 : Int)], [(1 : Int)], [(2 : Int)], [(30 : Int)]] → (x1 = true → Q { val := HV.ce (HC.int IntKind.i64 (21 : Int)), own := false, pars := [], news := [] }) ∧ (x1 = false → (3 : Nat) ≤ (1000 : Nat) ∧ ∀ (x2 : Bool), x2 = amg c [[(3 : Int)], [(4 : Int)], [(5 : Int)]] → (x2 = true → Q { val := HV.ce (HC.int IntKind.i64 (22 : Int)), own := false, pars := [], news := [] }) ∧ (x2 = false → ((c == (6 : Int)) = true → Q { val := HV.ce (HC.int IntKind.i64 (23 : Int)), own := false, pars := [], news := [] }) ∧ ((c == (6 : Int)) = false → (3 : Nat) ≤ (1000 : Nat) ∧ ∀ (x3 : Bool), x3 = amg c [[(7 : Int)], [(8 : Int)], [(9 : Int)]] → (x3 = true → Q { val := HV.ce (HC.int IntKind.i64 (24 : Int)), own := false, pars := [], news := [] }) ∧ (x3 = false → ((c == (62 : Int)) = true → Q { val := HV.ce (HC.int IntKind.i64 (25 : Int)), own := false, pars := [], news := [] }) ∧
    ((c == (62 : Int)) = false → ((c == (63 : Int)) = true → Q { val := HV.ce (HC.int IntKind.i64 (25 : Int)), own := false, pars := [], news := [] }) ∧ ((c == (63 : Int)) = false → Q { val := HV.ce (HC.int IntKind.i64 (0 : Int)), own := false, pars := [], news := [] }))))))) ∧ ((l == (77 : Int)) = false → ((l != (71 : Int)) = true → Q { val := HV.ce (HC.int IntKind.i64 (0 : Int)), own := false, pars := [], news := [] }) ∧ ((l != (71 : Int)) = false → ((1 : Int) = (1 : Int) ∧ (1 : Nat) ≤ (15 : Nat) ∧ (15 : Nat) ≤ (100 : Nat) ∧ ∀ (g : List (List Int)), List.Mem g [[], [[(0 : Int)], [(1 : Int)], [(2 : Int)], [(3 : Int)], [(33 : Int)], [(73 : Int)], [(74 : Int)], [(80 : Int)], [(81 : Int)], [(82 : Int)], [(83 : Int)], [(84 : Int)], [(85 : Int)], [(86 : Int)], [(89 : Int)]], [[(17 : Int)], [(18 : Int)], [(19 : Int)]], [[(90 : Int)], [(91 : Int)]], [[(20 : Int)], [(21 : Int)]], [[(94 : Int)], [(95 : Int)]], [[(40 : Int)], [(41 : Int)], [(42 : Int)]], [[(43 : Int)], [(44 : Int)], [(49 : Int)]], [[(98 : Int)], [(99 : Int)]], [[(54 : Int)], [(55 : Int)], [(56 : Int)], [(57 : Int)], [(58 : Int)], [(59 : Int)]], [[(61 : Int)], [(64 : Int)]], [[(15 : Int)], [(16 : Int)]], [[(68 : Int)], [(69 : Int)]], [[(53 : Int)]], [[(4 : Int)], [(10 : Int)], [(12 : Int)], [(13 : Int)], [(31 : Int)], [(52 : Int)], [(92 : Int)]]] →
    List.length g ≤ (100 : Nat)) ∧ (scn c (List.drop (1 : Nat) [[], [[(0 : Int)], [(1 : Int)], [(2 : Int)], [(3 : Int)], [(33 : Int)], [(73 : Int)], [(74 : Int)], [(80 : Int)], [(81 : Int)], [(82 : Int)], [(83 : Int)], [(84 : Int)], [(85 : Int)], [(86 : Int)], [(89 : Int)]], [[(17 : Int)], [(18 : Int)], [(19 : Int)]], [[(90 : Int)], [(91 : Int)]], [[(20 : Int)], [(21 : Int)]], [[(94 : Int)], [(95 : Int)]], [[(40 : Int)], [(41 : Int)], [(42 : Int)]], [[(43 : Int)], [(44 : Int)], [(49 : Int)]], [[(98 : Int)], [(99 : Int)]], [[(54 : Int)], [(55 : Int)], [(56 : Int)], [(57 : Int)], [(58 : Int)], [(59 : Int)]], [[(61 : Int)], [(64 : Int)]], [[(15 : Int)], [(16 : Int)]], [[(68 : Int)], [(69 : Int)]], [[(53 : Int)]], [[(4 : Int)], [(10 : Int)], [(12 : Int)], [(13 : Int)], [(31 : Int)], [(52 : Int)], [(92 : Int)]]]) (1 : Int) = (0 : Int) → Q { val := HV.ce (HC.int IntKind.i64 (0 : Int)), own := false, pars := [], news := [] }) ∧
    (scn c (List.drop (1 : Nat) [[], [[(0 : Int)], [(1 : Int)], [(2 : Int)], [(3 : Int)], [(33 : Int)], [(73 : Int)], [(74 : Int)], [(80 : Int)], [(81 : Int)], [(82 : Int)], [(83 : Int)], [(84 : Int)], [(85 : Int)], [(86 : Int)], [(89 : Int)]], [[(17 : Int)], [(18 : Int)], [(19 : Int)]], [[(90 : Int)], [(91 : Int)]], [[(20 : Int)], [(21 : Int)]], [[(94 : Int)], [(95 : Int)]], [[(40 : Int)], [(41 : Int)], [(42 : Int)]], [[(43 : Int)], [(44 : Int)], [(49 : Int)]], [[(98 : Int)], [(99 : Int)]], [[(54 : Int)], [(55 : Int)], [(56 : Int)], [(57 : Int)], [(58 : Int)], [(59 : Int)]], [[(61 : Int)], [(64 : Int)]], [[(15 : Int)], [(16 : Int)]], [[(68 : Int)], [(69 : Int)]], [[(53 : Int)]], [[(4 : Int)], [(10 : Int)], [(12 : Int)], [(13 : Int)], [(31 : Int)], [(52 : Int)], [(92 : Int)]]]) (1 : Int) ≠ (0 : Int) → Q { val := HV.ce (HC.int IntKind.i64 (scn c (List.drop (1 : Nat) [[], [[(0 : Int)], [(1 : Int)], [(2 : Int)], [(3 : Int)], [(33 : Int)], [(73 : Int)], [(74 : Int)], [(80 : Int)], [(81 : Int)], [(82 : Int)], [(83 : Int)], [(84 : Int)], [(85 : Int)], [(86 : Int)], [(89 : Int)]], [[(17 : Int)], [(18 : Int)], [(19 : Int)]], [[(90 : Int)], [(91 : Int)]], [[(20 : Int)], [(21 : Int)]], [[(94 : Int)], [(95 : Int)]], [[(40 : Int)], [(41 : Int)], [(42 : Int)]], [[(43 : Int)], [(44 : Int)], [(49 : Int)]], [[(98 : Int)], [(99 : Int)]], [[(54 : Int)], [(55 : Int)], [(56 : Int)], [(57 : Int)], [(58 : Int)], [(59 : Int)]], [[(61 : Int)], [(64 : Int)]], [[(15 : Int)], [(16 : Int)]], [[(68 : Int)], [(69 : Int)]], [[(53 : Int)]], [[(4 : Int)], [(10 : Int)], [(12 : Int)], [(13 : Int)], [(31 : Int)], [(52 : Int)], [(92 : Int)]]]) (1 : Int))), own := false, pars := [], news := [] })))) := by kernel_rfl
theorem vbGroup2 (c r k : Int) (ll : List (List (List Int))) (K : HEx → LV → Prop) : (nbodyT true CGroup2 anGroup2 (nthLoop Try.f30 0) (([.ce (.int .i64 c), .ce (.int .i64 r), .ce (.nsls [4] ll), .ce (.int .i64 k)], [])) K) =
    ((decide (k < (((List.length ll) : Nat) : Int)) = true → ((0 : Int) ≤ k ∧ k < (((List.length ll) : Nat) : Int)) ∧ List.length (List.getD ll (Int.toNat k) []) ≤ (1000 : Nat) ∧ ∀ (x1 : Bool), x1 = amg c (List.getD ll (Int.toNat k) []) → (x1 = true → K HEx.ret ([HV.ce (HC.int IntKind.i64 k)], [])) ∧ (x1 = false → ((-9223372036854775808 : Int) ≤ k + (1 : Int) ∧ k + (1 : Int) ≤ (9223372036854775807 : Int)) ∧ ∀ (x2 : Int), x2 = k + (1 : Int) → K HEx.normal ([HV.ce (HC.int IntKind.i64 c), HV.ce (HC.int IntKind.i64 r), HV.ce (HC.nsls [(4 : Nat)] ll), HV.ce (HC.int IntKind.i64 x2)], []))) ∧ (decide (k < (((List.length ll) : Nat) : Int)) = false → K (HEx.exit (1 : Nat)) ([HV.ce (HC.int IntKind.i64 r)], []))) := by kernel_rfl
def SHas (hargs : List HV) (pars : List (List HC)) : SR :=
  match hargs, pars with
  | [.ce (.sl false [4, 4] l), .ce (.int .i64 c), .ce (.int .i64 n)], [] => .det (l.length ≤ 1000) ⟨.ce (.bool (has c n l)), false, [], []⟩
  | _, _ => .fail
def anHas : LAnn := ⟨[1, 2, 6, 11, 12, 13], [6], [], false⟩
def LHas (v : LV) : LR :=
  match v with
  | ([.ce (.int .i64 c), .ce (.int .i64 n), .ce (.bool r), .ce (.sl false [4, 4] l), .ce (.int .i64 len), .ce (.int .i64 k)], []) =>
    .alts (k = 0 ∧ len = (l.length : Int) ∧ l.length ≤ 1000) [(has c n l = false, .exit 0, ([.ce (.bool r)], [])), (has c n l = true, .ret, ([.ce (.bool true)], []))]
  | _ => .fail
def tabCo : List (FuncId × HL.Spec) := [(38, SCode)]
noncomputable def CHas : Ctx := ⟨Try.prog, gam tabCo, Try.f31.ntmps, [(2, anHas, LHas)], []⟩
theorem vcHas (l : List (List Int)) (c n : Int) (Q : Res → Prop) : (nfun true CHas Try.f31 (bodyOf Try.f31) [.ce (.sl false [4, 4] l), .ce (.int .i64 c), .ce (.int .i64 n)] [] Q) =
    (((0 : Int) = (0 : Int) ∧ (((List.length l) : Nat) : Int) = (((List.length l) : Nat) : Int) ∧ List.length l ≤ (1000 : Nat)) ∧ (has c n l = false → Q { val := HV.ce (HC.bool false), own := false, pars := [], news := [] }) ∧ (has c n l = true → Q { val := HV.ce (HC.bool true), own := false, pars := [], news := [] })) := by kernel_rfl
theorem vbHas (c n len k : Int) (r : Bool) (l : List (List Int)) (K : HEx → LV → Prop) : (nbodyT true CHas anHas (nthLoop Try.f31 0) (([.ce (.int .i64 c), .ce (.int .i64 n), .ce (.bool r), .ce (.sl false [4, 4] l), .ce (.int .i64 len), .ce (.int .i64 k)], [])) K) =
    ((decide (k < len) = true → ((0 : Int) ≤ k ∧ k < (((List.length l) : Nat) : Int)) ∧ True ∧ ∀ (x1 : Int), x1 = wv (ec l (Int.toNat k) ((1 : Nat))) → ∀ (x2 : Bool), x2 = isc [el l (Int.toNat k), ec l (Int.toNat k) ((1 : Nat))] → (x2 = true → ((el l (Int.toNat k) == c) = true → ((x1 == n) = true → K HEx.ret ([HV.ce (HC.bool true)], [])) ∧ ((x1 == n) = false → ((-9223372036854775808 : Int) ≤ k + (1 : Int) ∧ k + (1 : Int) ≤ (9223372036854775807 : Int)) ∧ ∀ (x3 : Int), x3 = k + (1 : Int) → K HEx.normal ([HV.ce (HC.int IntKind.i64 c), HV.ce (HC.int IntKind.i64 n), HV.ce (HC.bool r), HV.ce (HC.sl false [(4 : Nat), (4 : Nat)] l), HV.ce (HC.int IntKind.i64 len), HV.ce (HC.int IntKind.i64 x3)], []))) ∧ ((el l (Int.toNat k) == c) = false → ((-9223372036854775808 : Int) ≤ k + (1 : Int) ∧ k + (1 : Int) ≤ (9223372036854775807 : Int)) ∧ ∀ (x4 : Int), x4 = k + (1 : Int) → K HEx.normal ([HV.ce (HC.int IntKind.i64 c), HV.ce (HC.int IntKind.i64 n), HV.ce (HC.bool r), HV.ce (HC.sl false [(4 : Nat), (4 : Nat)] l), HV.ce (HC.int IntKind.i64 len), HV.ce (HC.int IntKind.i64 x4)], []))) ∧
    (x2 = false → ((-9223372036854775808 : Int) ≤ k + (1 : Int) ∧ k + (1 : Int) ≤ (9223372036854775807 : Int)) ∧ ∀ (x5 : Int), x5 = k + (1 : Int) → K HEx.normal ([HV.ce (HC.int IntKind.i64 c), HV.ce (HC.int IntKind.i64 n), HV.ce (HC.bool r), HV.ce (HC.sl false [(4 : Nat), (4 : Nat)] l), HV.ce (HC.int IntKind.i64 len), HV.ce (HC.int IntKind.i64 x5)], []))) ∧ (decide (k < len) = false → K (HEx.exit (0 : Nat)) ([HV.ce (HC.bool r)], []))) := by kernel_rfl
def anHas2 : LAnn := ⟨[0, 1, 2, 6, 7], [6], [], false⟩
def LHas2 (v : LV) : LR :=
  match v with
  | ([.ce (.sl false [4, 4] l), .ce (.int .i64 c), .ce (.int .i64 n), .ce (.bool r), .ce (.int .i64 k)], []) =>
    .alts (k = 0 ∧ l.length ≤ 1000) [(has c n l = false, .exit 0, ([.ce (.bool r)], [])), (has c n l = true, .ret, ([.ce (.bool true)], []))]
  | _ => .fail
noncomputable def CHas2 : Ctx := ⟨Try.prog, gam tabW, Try.f32.ntmps, [(2, anHas2, LHas2)], []⟩
theorem vcHas2 (l : List (List Int)) (c n : Int) (Q : Res → Prop) : (nfun true CHas2 Try.f32 (bodyOf Try.f32) [.ce (.sl false [4, 4] l), .ce (.int .i64 c), .ce (.int .i64 n)] [] Q) =
    (((0 : Int) = (0 : Int) ∧ List.length l ≤ (1000 : Nat)) ∧ (has c n l = false → Q { val := HV.ce (HC.bool false), own := false, pars := [], news := [] }) ∧ (has c n l = true → Q { val := HV.ce (HC.bool true), own := false, pars := [], news := [] })) := by kernel_rfl
theorem vbHas2 (c n k : Int) (r : Bool) (l : List (List Int)) (K : HEx → LV → Prop) : (nbodyT true CHas2 anHas2 (nthLoop Try.f32 0) (([.ce (.sl false [4, 4] l), .ce (.int .i64 c), .ce (.int .i64 n), .ce (.bool r), .ce (.int .i64 k)], [])) K) =
    ((decide (k < (((List.length l) : Nat) : Int)) = true → ((0 : Int) ≤ k ∧ k < (((List.length l) : Nat) : Int)) ∧ ∀ (x1 : Int), x1 = ec l (Int.toNat k) ((1 : Nat)) → True ∧ ∀ (x2 : Int), x2 = wv x1 → ∀ (x3 : Bool), x3 = isw x1 → ((0 : Int) ≤ k ∧ k < (((List.length l) : Nat) : Int)) ∧ ∀ (x4 : Int), x4 = el l (Int.toNat k) → ((x4 == c) = true → (x3 = true → ((x2 == n) = true → ((c == (71 : Int)) = true → K HEx.ret ([HV.ce (HC.bool true)], [])) ∧ ((c == (71 : Int)) = false → ((c == (77 : Int)) = true → K HEx.ret ([HV.ce (HC.bool true)], [])) ∧ ((c == (77 : Int)) = false → ((-9223372036854775808 : Int) ≤ k + (1 : Int) ∧ k + (1 : Int) ≤ (9223372036854775807 : Int)) ∧ ∀ (x5 : Int), x5 = k + (1 : Int) → K HEx.normal ([HV.ce (HC.sl false [(4 : Nat), (4 : Nat)] l), HV.ce (HC.int IntKind.i64 c), HV.ce (HC.int IntKind.i64 n), HV.ce (HC.bool r), HV.ce (HC.int IntKind.i64 x5)], [])))) ∧ ((x2 == n) = false →
    ((-9223372036854775808 : Int) ≤ k + (1 : Int) ∧ k + (1 : Int) ≤ (9223372036854775807 : Int)) ∧ ∀ (x6 : Int), x6 = k + (1 : Int) → K HEx.normal ([HV.ce (HC.sl false [(4 : Nat), (4 : Nat)] l), HV.ce (HC.int IntKind.i64 c), HV.ce (HC.int IntKind.i64 n), HV.ce (HC.bool r), HV.ce (HC.int IntKind.i64 x6)], []))) ∧ (x3 = false → ((-9223372036854775808 : Int) ≤ k + (1 : Int) ∧ k + (1 : Int) ≤ (9223372036854775807 : Int)) ∧ ∀ (x7 : Int), x7 = k + (1 : Int) → K HEx.normal ([HV.ce (HC.sl false [(4 : Nat), (4 : Nat)] l), HV.ce (HC.int IntKind.i64 c), HV.ce (HC.int IntKind.i64 n), HV.ce (HC.bool r), HV.ce (HC.int IntKind.i64 x7)], []))) ∧ ((x4 == c) = false → ((-9223372036854775808 : Int) ≤ k + (1 : Int) ∧ k + (1 : Int) ≤ (9223372036854775807 : Int)) ∧ ∀ (x8 : Int), x8 = k + (1 : Int) → K HEx.normal ([HV.ce (HC.sl false [(4 : Nat), (4 : Nat)] l), HV.ce (HC.int IntKind.i64 c), HV.ce (HC.int IntKind.i64 n), HV.ce (HC.bool r), HV.ce (HC.int IntKind.i64 x8)], []))) ∧
    (decide (k < (((List.length l) : Nat) : Int)) = false → K (HEx.exit (0 : Nat)) ([HV.ce (HC.bool r)], []))) := by kernel_rfl
def SFind (hargs : List HV) (pars : List (List HC)) : SR :=
  match hargs, pars with
  | [.ce (.sl false [4, 4] l), .ce (.int .i64 c)], [] => .det (l.length ≤ 1000) ⟨.tup [.ce (.int .i64 (fndN c l)), .ce (.bool (fndB c l))], false, [], []⟩
  | _, _ => .fail
def anFind : LAnn := ⟨[1, 4, 5, 8, 9, 10], [4, 5], [], false⟩
def LFind (v : LV) : LR :=
  match v with
  | ([.ce (.int .i64 c), .ce (.int .i64 r), .ce (.bool s), .ce (.sl false [4, 4] l), .ce (.int .i64 len), .ce (.int .i64 k)], []) =>
    .alts (k = 0 ∧ len = (l.length : Int) ∧ l.length ≤ 1000) [(fndB c l = false, .exit 0, ([.ce (.int .i64 r), .ce (.bool s)], [])), (fndB c l = true, .ret, ([.ce (.int .i64 (fndN c l)), .ce (.bool true)], []))]
  | _ => .fail
noncomputable def CFind : Ctx := ⟨Try.prog, gam [], Try.f33.ntmps, [(2, anFind, LFind)], []⟩
theorem vcFind (l : List (List Int)) (c : Int) (Q : Res → Prop) : (nfun true CFind Try.f33 (bodyOf Try.f33) [.ce (.sl false [4, 4] l), .ce (.int .i64 c)] [] Q) =
    (((0 : Int) = (0 : Int) ∧ (((List.length l) : Nat) : Int) = (((List.length l) : Nat) : Int) ∧ List.length l ≤ (1000 : Nat)) ∧ (fndB c l = false → Q { val := HV.tup [H0.ce (HC.int IntKind.i64 (0 : Int)), H0.ce (HC.bool false)], own := false, pars := [], news := [] }) ∧ (fndB c l = true → Q { val := HV.tup [H0.ce (HC.int IntKind.i64 (fndN c l)), H0.ce (HC.bool true)], own := false, pars := [], news := [] })) := by kernel_rfl
theorem vbFind (c r len k : Int) (s : Bool) (l : List (List Int)) (K : HEx → LV → Prop) : (nbodyT true CFind anFind (nthLoop Try.f33 0) (([.ce (.int .i64 c), .ce (.int .i64 r), .ce (.bool s), .ce (.sl false [4, 4] l), .ce (.int .i64 len), .ce (.int .i64 k)], [])) K) =
    ((decide (k < len) = true → ((0 : Int) ≤ k ∧ k < (((List.length l) : Nat) : Int)) ∧ ((el l (Int.toNat k) == c) = true → K HEx.ret ([HV.ce (HC.int IntKind.i64 (ec l (Int.toNat k) ((1 : Nat)))), HV.ce (HC.bool true)], [])) ∧ ((el l (Int.toNat k) == c) = false → ((-9223372036854775808 : Int) ≤ k + (1 : Int) ∧ k + (1 : Int) ≤ (9223372036854775807 : Int)) ∧ ∀ (x1 : Int), x1 = k + (1 : Int) → K HEx.normal ([HV.ce (HC.int IntKind.i64 c), HV.ce (HC.int IntKind.i64 r), HV.ce (HC.bool s), HV.ce (HC.sl false [(4 : Nat), (4 : Nat)] l), HV.ce (HC.int IntKind.i64 len), HV.ce (HC.int IntKind.i64 x1)], []))) ∧ (decide (k < len) = false → K (HEx.exit (0 : Nat)) ([HV.ce (HC.int IntKind.i64 r), HV.ce (HC.bool s)], []))) := by kernel_rfl
def anFind2 : LAnn := ⟨[0, 1, 4, 5, 6], [4, 5], [], false⟩
def LFind2 (v : LV) : LR :=
  match v with
  | ([.ce (.sl false [4, 4] l), .ce (.int .i64 c), .ce (.int .i64 r), .ce (.bool s), .ce (.int .i64 k)], []) =>
    .alts (k = 0 ∧ l.length ≤ 1000) [(fndB c l = false, .exit 0, ([.ce (.int .i64 r), .ce (.bool s)], [])), (fndB c l = true, .ret, ([.ce (.int .i64 (fndN c l)), .ce (.bool true)], []))]
  | _ => .fail
noncomputable def CFind2 : Ctx := ⟨Try.prog, gam [], Try.f34.ntmps, [(2, anFind2, LFind2)], []⟩
theorem vcFind2 (l : List (List Int)) (c : Int) (Q : Res → Prop) : (nfun true CFind2 Try.f34 (bodyOf Try.f34) [.ce (.sl false [4, 4] l), .ce (.int .i64 c)] [] Q) =
    (((0 : Int) = (0 : Int) ∧ List.length l ≤ (1000 : Nat)) ∧ (fndB c l = false → Q { val := HV.tup [H0.ce (HC.int IntKind.i64 (0 : Int)), H0.ce (HC.bool false)], own := false, pars := [], news := [] }) ∧ (fndB c l = true → Q { val := HV.tup [H0.ce (HC.int IntKind.i64 (fndN c l)), H0.ce (HC.bool true)], own := false, pars := [], news := [] })) := by kernel_rfl
theorem vbFind2 (c r k : Int) (s : Bool) (l : List (List Int)) (K : HEx → LV → Prop) : (nbodyT true CFind2 anFind2 (nthLoop Try.f34 0) (([.ce (.sl false [4, 4] l), .ce (.int .i64 c), .ce (.int .i64 r), .ce (.bool s), .ce (.int .i64 k)], [])) K) =
    ((decide (k < (((List.length l) : Nat) : Int)) = true → ((0 : Int) ≤ k ∧ k < (((List.length l) : Nat) : Int)) ∧ ∀ (x1 : Int), x1 = el l (Int.toNat k) → ((x1 == c) = true → ((0 : Int) ≤ k ∧ k < (((List.length l) : Nat) : Int)) ∧ ∀ (x2 : Int), x2 = ec l (Int.toNat k) ((1 : Nat)) → K HEx.ret ([HV.ce (HC.int IntKind.i64 x2), HV.ce (HC.bool true)], [])) ∧ ((x1 == c) = false → ((-9223372036854775808 : Int) ≤ k + (1 : Int) ∧ k + (1 : Int) ≤ (9223372036854775807 : Int)) ∧ ∀ (x3 : Int), x3 = k + (1 : Int) → K HEx.normal ([HV.ce (HC.sl false [(4 : Nat), (4 : Nat)] l), HV.ce (HC.int IntKind.i64 c), HV.ce (HC.int IntKind.i64 r), HV.ce (HC.bool s), HV.ce (HC.int IntKind.i64 x3)], []))) ∧ (decide (k < (((List.length l) : Nat) : Int)) = false → K (HEx.exit (0 : Nat)) ([HV.ce (HC.int IntKind.i64 r), HV.ce (HC.bool s)], []))) := by kernel_rfl
def SGof (hargs : List HV) (pars : List (List HC)) : SR :=
  match hargs, pars with
  | [.ce (.sl false [4, 4] l), .ce (.int .i64 g)], [] => .det (l.length ≤ 1000) ⟨.ce (.int .i64 (gof g l)), false, [], []⟩
  | _, _ => .fail
def anGof : LAnn := ⟨[0, 1, 4, 5], [4], [], false⟩
def LGof (v : LV) : LR :=
  match v with
  | ([.ce (.sl false [4, 4] l), .ce (.int .i64 g), .ce (.int .i64 r), .ce (.int .i64 k)], []) =>
    .alts (k = 0 ∧ l.length ≤ 1000) [(gof g l = -1, .exit 0, ([.ce (.int .i64 r)], [])), (True, .ret, ([.ce (.int .i64 (gof g l))], []))]
  | _ => .fail
def tabGof : List (FuncId × HL.Spec) := [(40, SWhole), (30, SGroup)]
noncomputable def CGof : Ctx := ⟨Try.prog, gam tabGof, Try.f41.ntmps, [(2, anGof, LGof)], []⟩
theorem vcGof (l : List (List Int)) (g : Int) (Q : Res → Prop) : (nfun true CGof Try.f41 (bodyOf Try.f41) [.ce (.sl false [4, 4] l), .ce (.int .i64 g)] [] Q) =
    (((0 : Int) = (0 : Int) ∧ List.length l ≤ (1000 : Nat)) ∧ (gof g l = (-1 : Int) → Q { val := HV.ce (HC.int IntKind.i64 (-1 : Int)), own := false, pars := [], news := [] }) ∧ (True → Q { val := HV.ce (HC.int IntKind.i64 (gof g l)), own := false, pars := [], news := [] })) := by kernel_rfl
theorem vbGof (g r k : Int) (l : List (List Int)) (K : HEx → LV → Prop) : (nbodyT true CGof anGof (nthLoop Try.f41 0) (([.ce (.sl false [4, 4] l), .ce (.int .i64 g), .ce (.int .i64 r), .ce (.int .i64 k)], [])) K) =
    ((decide (k < (((List.length l) : Nat) : Int)) = true → ((0 : Int) ≤ k ∧ k < (((List.length l) : Nat) : Int)) ∧ ∀ (x1 : Int), x1 = ec l (Int.toNat k) ((1 : Nat)) → True ∧ ∀ (x2 : Int), x2 = wv x1 → ∀ (x3 : Bool), x3 = isw x1 → (x3 = true → ((0 : Int) ≤ k ∧ k < (((List.length l) : Nat) : Int)) ∧ ∀ (x4 : Int), x4 = el l (Int.toNat k) → True ∧ ∀ (x5 : Int), x5 = grp x4 x2 → ((x5 == g) = true → K HEx.ret ([HV.ce (HC.int IntKind.i64 x2)], [])) ∧ ((x5 == g) = false → ((-9223372036854775808 : Int) ≤ k + (1 : Int) ∧ k + (1 : Int) ≤ (9223372036854775807 : Int)) ∧ ∀ (x6 : Int), x6 = k + (1 : Int) → K HEx.normal ([HV.ce (HC.sl false [(4 : Nat), (4 : Nat)] l), HV.ce (HC.int IntKind.i64 g), HV.ce (HC.int IntKind.i64 r), HV.ce (HC.int IntKind.i64 x6)], []))) ∧ (x3 = false → ((-9223372036854775808 : Int) ≤ k + (1 : Int) ∧ k + (1 : Int) ≤ (9223372036854775807 : Int)) ∧ ∀ (x7 : Int), x7 = k + (1 : Int) → K HEx.normal ([HV.ce (HC.sl false [(4 : Nat), (4 : Nat)] l), HV.ce (HC.int IntKind.i64 g), HV.ce (HC.int IntKind.i64 r), HV.ce (HC.int IntKind.i64 x7)], []))) ∧
    (decide (k < (((List.length l) : Nat) : Int)) = false → K (HEx.exit (0 : Nat)) ([HV.ce (HC.int IntKind.i64 r)], []))) := by kernel_rfl
end Go.Proofs.Ytcfgklmpfkmdkaa
namespace U
open Go
theorem drop_cons (l : List (List Int)) {j : Nat} (h : j < l.length) : l.drop j = l.getD j [] :: l.drop (j + 1) := by
  rw [List.drop_eq_getElem_cons h]
  congr 1
  simp [List.getD_eq_getElem?_getD, h]
theorem dropn_cons (l : List (List (List Int))) {j : Nat} (h : j < l.length) : l.drop j = l.getD j [] :: l.drop (j + 1) := by
  rw [List.drop_eq_getElem_cons h]
  congr 1
  simp [List.getD_eq_getElem?_getD, h]
theorem lt_el (l : List (List Int)) (j : Nat) : lt (l.getD j []) = el l j := rfl
theorem nm_ec (l : List (List Int)) (j : Nat) : nm (l.getD j []) = ec l j 1 := rfl
theorem isc_row (a n : Int) : isc [a, n] = (isw n && (a == 71 || a == 77)) := rfl
theorem amg_cons (n : Int) (r : List Int) (l : List (List Int)) : amg n (r :: l) = ((r.getD 0 0 == n) || amg n l) := by
  show ((n == r.getD 0 0) || amg n l) = _
  rw [BEq.comm]
theorem scn_cons (c : Int) (g : List (List Int)) (r : List (List (List Int))) (i : Int) : scn c (g :: r) i = if amg c g then i else scn c r (i + 1) := rfl
theorem has_cons (c n : Int) (r : List Int) (l : List (List Int)) : has c n (r :: l) = ((isc r && (lt r == c) && (wv (nm r) == n)) || has c n l) := rfl
theorem gof_cons (g : Int) (r : List Int) (l : List (List Int)) : gof g (r :: l) = if isw (nm r) && (grp (lt r) (wv (nm r)) == g) then wv (nm r) else gof g l := rfl
theorem isw_bd {n : Int} (h : isw n = true) : -1000000000000000 ≤ n ∧ n ≤ 1000000000000000 := by
  unfold isw vl at h
  simp at h
  omega
theorem vl_iff {n : Int} : vl n = true ↔ -1000000000000000 ≤ n ∧ n ≤ 1000000000000000 := by
  unfold vl
  simp
theorem wv_bd (n : Int) : -1000000000 ≤ wv n ∧ wv n ≤ 1000000000 := by
  unfold wv
  split
  · rename_i h
    have := isw_bd h
    rw [tdiv_ite (by omega)]
    split <;> omega
  · omega
end U
namespace Go.Proofs.Ytcfgklmpfkmdkaa
open Go Go.HL U
set_option maxHeartbeats 400000 in
set_option maxRecDepth 100000 in
theorem sVl : Sound Try.prog 37 SVl := by
  refine sound_of (C := CVl) [] Try.func37 (by kernel_rfl) (by decide +kernel) (by kernel_rfl) rfl trivial (loops0 (by kernel_rfl)) ?_
  intro hargs pars R h
  unfold SVl at h
  split at h
  case h_2 => exfalso; exact h
  rename_i n
  have hq := h.2
  unfold vl at hq
  refine byVC (vcVl n R) ⟨fun e => ?_, fun e => ?_⟩ <;> rw [e] at hq <;> exact hq
set_option maxHeartbeats 400000 in
set_option maxRecDepth 100000 in
theorem sVl2 : Sound Try.prog 39 SVl := by
  refine sound_of (C := CVl) [] Try.func39 (by kernel_rfl) (by decide +kernel) (by kernel_rfl) rfl trivial (loops0 (by kernel_rfl)) ?_
  intro hargs pars R h
  unfold SVl at h
  split at h
  case h_2 => exfalso; exact h
  rename_i n
  have hq := h.2
  unfold vl at hq
  refine byVC (vcVl2 n R) ⟨fun e => ?_, fun e => ?_⟩ <;> rw [e] at hq <;> exact hq
theorem whole_fin {n : Int} {R : Res → Prop} (hq : R ⟨.tup [.ce (.int .i64 (wv n)), .ce (.bool (isw n))], false, [], []⟩) : True ∧
 ∀ (x1 : Bool), x1 = vl n →
 ((!x1) = true → R ⟨.tup [.ce (.int .i64 0), .ce (.bool false)], false, [], []⟩) ∧ ((!x1) = false → (1000000 : Int) ≠ 0 ∧
 ∀ (x2 : Int), x2 = Int.tmod n 1000000 →
 ((x2 != 0) = true → R ⟨.tup [.ce (.int .i64 0), .ce (.bool false)], false, [], []⟩) ∧ ((x2 != 0) = false → (1000000 : Int) ≠ 0 ∧ (-9223372036854775808 ≤ Int.tdiv n 1000000 ∧ Int.tdiv n 1000000 ≤ 9223372036854775807) ∧
 ∀ (x3 : Int), x3 = Int.tdiv n 1000000 → R ⟨.tup [.ce (.int .i64 x3), .ce (.bool true)], false, [], []⟩)) := by
  refine ⟨trivial, fun x1 e1 => ⟨fun e => ?_, fun e => ⟨by omega, fun x2 e2 => ⟨fun k => ?_, fun k => ?_⟩⟩⟩⟩
  · have hv : vl n = false := by rw [← e1]; simpa using e
    have hi : isw n = false := by unfold isw; rw [hv]; rfl
    unfold wv at hq
    rw [hi] at hq
    exact hq
  · have hi : isw n = false := by
      unfold isw
      have : (n.tmod 1000000 == 0) = false := by rw [← e2]; simpa using k
      rw [this]; simp
    unfold wv at hq
    rw [hi] at hq
    exact hq
  · have hv : vl n = true := by rw [← e1]; simpa using e
    have hi : isw n = true := by
      unfold isw
      have : (n.tmod 1000000 == 0) = true := by rw [← e2]; simpa using k
      rw [this, hv]; rfl
    have hb := vl_iff.1 hv
    unfold wv at hq
    rw [hi] at hq
    refine ⟨by omega, by rw [tdiv_ite (by omega)]; split <;> omega, fun x3 e3 => ?_⟩
    rw [e3]
    exact hq
set_option maxHeartbeats 400000 in
set_option maxRecDepth 100000 in
theorem sWhole : Sound Try.prog 55 SWhole := by
  refine sound_of (C := CWhole) tabVl Try.func55 (by kernel_rfl) (by decide +kernel) (by kernel_rfl) rfl ⟨sVl, sVl2, trivial⟩ (loops0 (by kernel_rfl)) ?_
  intro hargs pars R h
  unfold SWhole at h
  split at h
  case h_2 => exfalso; exact h
  exact byVC (vcWhole _ R) (whole_fin h.2)
set_option maxHeartbeats 400000 in
set_option maxRecDepth 100000 in
theorem sWhole2 : Sound Try.prog 40 SWhole := by
  refine sound_of (C := CWhole) tabVl Try.func40 (by kernel_rfl) (by decide +kernel) (by kernel_rfl) rfl ⟨sVl, sVl2, trivial⟩ (loops0 (by kernel_rfl)) ?_
  intro hargs pars R h
  unfold SWhole at h
  split at h
  case h_2 => exfalso; exact h
  exact byVC (vcWhole2 _ R) (whole_fin h.2)
set_option maxHeartbeats 400000 in
set_option maxRecDepth 100000 in
theorem sCode : Sound Try.prog 38 SCode := by
  refine sound_of (C := CCode) tabW Try.func38 (by kernel_rfl) (by decide +kernel) (by kernel_rfl) rfl ⟨sWhole, sWhole2, trivial⟩ (loops0 (by kernel_rfl)) ?_
  intro hargs pars R h
  unfold SCode at h
  split at h
  case h_2 => exfalso; exact h
  rename_i a n
  have hq := h.2
  rw [isc_row] at hq
  refine byVC (vcCode a n R) ⟨trivial, fun x1 e1 x2 e2 => ⟨fun k => ⟨fun k2 => ?_, fun k2 => ?_⟩, fun k => ?_⟩⟩
  · rw [e1]; rw [← e2, k, k2] at hq; exact hq
  · rw [e1]; rw [← e2, k, k2] at hq; exact hq
  · rw [e1]; rw [← e2, k] at hq; exact hq
set_option maxHeartbeats 400000 in
set_option maxRecDepth 100000 in
theorem sPrep : Sound Try.prog 52 SPrep := by
  refine sound_of (C := CPrep) [] Try.func52 (by kernel_rfl) (by decide +kernel) (by kernel_rfl) rfl trivial (loops0 (by kernel_rfl)) ?_
  intro hargs pars R h
  unfold SPrep at h
  split at h
  case h_2 => exfalso; exact h
  rename_i c
  have hq := h.2
  clear h
  have leaf : ∀ k v : Int, (c == k) = true → prep k = v → R ⟨.ce (.int .i64 v), false, [], []⟩ := by
    intro k v e1 e2
    have e1 : c = k := by simpa using e1
    rw [e1, e2] at hq
    exact hq
  refine byVC (vcPrep c R) ?_
  repeat' (first
    | exact leaf _ _ (by assumption) (by decide)
    | apply And.intro
    | intro _)
  have : prep c = 0 := by
    simp only [prep, glit, scn, amg, List.getD_cons_zero, Bool.or_self, Bool.false_eq_true, if_false, *]
  rw [this] at hq
  exact hq
set_option maxHeartbeats 400000 in
set_option maxRecDepth 100000 in
theorem sMisc : Sound Try.prog 53 SMisc := by
  refine sound_of (C := CMisc) [] Try.func53 (by kernel_rfl) (by decide +kernel) (by kernel_rfl) rfl trivial (loops0 (by kernel_rfl)) ?_
  intro hargs pars R h
  unfold SMisc at h
  split at h
  case h_2 => exfalso; exact h
  rename_i c
  have hq := h.2
  clear h
  have leaf : ∀ k v : Int, (c == k) = true → misc k = v → R ⟨.ce (.int .i64 v), false, [], []⟩ := by
    intro k v e1 e2
    have e1 : c = k := by simpa using e1
    rw [e1, e2] at hq
    exact hq
  refine byVC (vcMisc c R) ?_
  repeat' (first
    | exact leaf _ _ (by assumption) (by decide)
    | apply And.intro
    | intro _)
  have : misc c = 0 := by
    have n6 : ¬ c = 6 := by simp_all
    have n62 : ¬ (c = 62 ∨ c = 63) := by simp_all
    simp only [misc, amg, List.getD_cons_zero, Bool.or_self, Bool.false_eq_true, if_false, *]
  rw [this] at hq
  exact hq
set_option maxHeartbeats 400000 in
set_option maxRecDepth 100000 in
theorem sGroup : Sound Try.prog 29 SGroup := by
  refine sound_of (C := CGroup) tabGr Try.func29 (by kernel_rfl) (by decide +kernel) (by kernel_rfl) rfl ⟨sPrep, sMisc, trivial⟩ (loops0 (by kernel_rfl)) ?_
  intro hargs pars R h
  unfold SGroup at h
  split at h
  case h_2 => exfalso; exact h
  rename_i l c
  have hq := h.2
  unfold grp at hq
  refine byVC (vcGroup l c R) ⟨fun e => ⟨trivial, fun x1 e1 => ?_⟩, fun e => ⟨fun k => ⟨trivial, fun x2 e2 => ?_⟩, fun k => ?_⟩⟩
  · have e : l = 71 := by simpa using e
    rw [if_pos e] at hq; rw [e1]; exact hq
  · have e : l ≠ 71 := by simpa using e
    have k : l = 77 := by simpa using k
    rw [if_neg e, if_pos k] at hq; rw [e2]; exact hq
  · have e : l ≠ 71 := by simpa using e
    have k : l ≠ 77 := by simpa using k
    rw [if_neg e, if_neg k] at hq; exact hq
set_option maxRecDepth 100000 in
theorem loopAmong : ∀ v Q, (LAmong v).wp Q → hloop CAmong anAmong (nthLoop Try.f54 0) v Q := by
  intro v Q h
  unfold LAmong at h
  split at h
  case h_2 => exact h.elim
  rename_i n l r k
  obtain ⟨⟨h1, h2⟩, hq1, hq2⟩ := h
  subst h1
  refine hloop_rec (σ := Nat) (fun j => ([.ce (.int .i64 n), .ce (.sl false [4] l), .ce (.bool r), .ce (.int .i64 (j : Int))], [])) (fun j => l.length - j) (fun j => j ≤ l.length ∧ amg n l = amg n (l.drop j)) ?_ 0 ⟨Nat.zero_le _, rfl⟩
  rintro j ⟨hj, hp⟩ K hn he hr
  refine byVB (vbAmong n j r l K) ⟨fun hlt => ⟨by have := of_decide_eq_true hlt; omega, fun x1 e1 => ?_⟩, fun hge => ?_⟩
  · have hlt := of_decide_eq_true hlt
    have hjl : j < l.length := by omega
    have hp2 := hp
    rw [drop_cons l hjl] at hp2
    have e1 : x1 = (l.getD j []).getD 0 0 := e1
    rw [amg_cons, ← e1] at hp2
    refine ⟨fun k => hr _ (hq2 (by rw [hp2, k]; rfl)), fun k => ⟨by omega, fun x2 e2 => ?_⟩⟩
    rw [show x2 = ((j + 1 : Nat) : Int) by omega]
    exact hn (j + 1) ⟨by omega, by rw [hp2, k]; rfl⟩ (by omega)
  · have hge := of_decide_eq_false hge
    have : j = l.length := by omega
    subst this
    rw [List.drop_length] at hp
    exact he _ _ (hq1 hp)
set_option maxHeartbeats 400000 in
set_option maxRecDepth 100000 in
theorem sAmong : Sound Try.prog 54 SAmong := by
  refine sound_of (C := CAmong) [] Try.func54 (by kernel_rfl) (by decide +kernel) (by kernel_rfl) rfl trivial (loops1 (by kernel_rfl) (loopOK_of (an := anAmong) (S := LAmong) (by kernel_rfl) loopAmong)) ?_
  intro hargs pars R h
  unfold SAmong at h
  split at h
  case h_2 => exfalso; exact h
  rename_i n l
  have hq := h.2
  exact byVC (vcAmong n l R) ⟨⟨rfl, h.1⟩, fun e => by rw [e] at hq; exact hq, fun e => by rw [e] at hq; exact hq⟩
theorem scn_pos (c : Int) : ∀ (l : List (List (List Int))) (i : Int), 0 < i → 0 ≤ scn c l i ∧ (scn c l i = 0 ∨ i ≤ scn c l i)
  | [], i, _ => ⟨Int.le_refl _, .inl rfl⟩
  | g :: r, i, h => by
    unfold scn
    split
    · omega
    · have := scn_pos c r (i + 1) (by omega)
      omega
set_option maxRecDepth 100000 in
theorem loopGroup2 : ∀ v Q, (LGroup2 v).wp Q → hloop CGroup2 anGroup2 (nthLoop Try.f30 0) v Q := by
  intro v Q h
  unfold LGroup2 at h
  split at h
  case h_2 => exact h.elim
  rename_i c r ll k
  obtain ⟨⟨h1, h2, h3, h4⟩, hq1, hq2⟩ := h
  subst h1
  refine hloop_rec (σ := Nat) (fun j => ([.ce (.int .i64 c), .ce (.int .i64 r), .ce (.nsls [4] ll), .ce (.int .i64 ((j + 1 : Nat) : Int))], [])) (fun j => ll.length - j) (fun j => j + 1 ≤ ll.length ∧ scn c (ll.drop 1) 1 = scn c (ll.drop (j + 1)) ((j + 1 : Nat) : Int)) ?_ 0 ⟨h2, rfl⟩
  rintro j ⟨hj, hp⟩ K hn he hr
  refine byVB (vbGroup2 c r _ ll K) ⟨fun hlt => ⟨by have := of_decide_eq_true hlt; omega, ?_⟩, fun hge => ?_⟩
  · have hlt := of_decide_eq_true hlt
    have hjl : j + 1 < ll.length := by omega
    have hp2 := hp
    rw [dropn_cons ll hjl] at hp2
    rw [scn_cons] at hp2
    have et : (((j + 1 : Nat) : Int)).toNat = j + 1 := by omega
    rw [et]
    refine ⟨by
      have : ll.getD (j + 1) [] ∈ ll := by simp [List.getD_eq_getElem?_getD, hjl]
      have := h4 _ this
      omega, fun x1 e1 => ⟨fun k => ?_, fun k => ⟨by omega, fun x2 e2 => ?_⟩⟩⟩
    · rw [← e1, k, if_pos rfl] at hp2
      refine hr _ ?_
      have := hq2 (by rw [hp2]; omega)
      rw [hp2] at this
      exact this
    · rw [← e1, k, if_neg (by simp)] at hp2
      rw [show x2 = ((j + 1 + 1 : Nat) : Int) by omega]
      exact hn (j + 1) ⟨by omega, by rw [hp2]; rfl⟩ (by omega)
  · have hge := of_decide_eq_false hge
    have hl : j + 1 = ll.length := by omega
    rw [hl, List.drop_length] at hp
    exact he _ _ (hq1 hp)
set_option maxHeartbeats 400000 in
set_option maxRecDepth 100000 in
theorem sGroup2 : Sound Try.prog 30 SGroup := by
  refine sound_of (C := CGroup2) tabAm Try.func30 (by kernel_rfl) (by decide +kernel) (by kernel_rfl) rfl ⟨sAmong, trivial⟩ (loops1 (by kernel_rfl) (loopOK_of (an := anGroup2) (S := LGroup2) (by kernel_rfl) loopGroup2)) ?_
  intro hargs pars R h
  unfold SGroup at h
  split at h
  case h_2 => exfalso; exact h
  rename_i l c
  have hq := h.2
  clear h
  unfold grp at hq
  refine byVC (vcGroup2 l c R) ⟨fun e => ?_, fun e => ⟨fun k => ?_, fun k => ⟨⟨rfl, by omega, by omega, ?_⟩, fun z => ?_, fun z => ?_⟩⟩⟩
  · have e : l = 77 := by simpa using e
    rw [if_neg (by omega), if_pos e] at hq
    unfold misc at hq
    refine ⟨by omega, fun x1 e1 => ⟨fun k => ?_, fun k => ⟨by omega, fun x2 e2 => ⟨fun k2 => ?_, fun k2 => ⟨fun k3 => ?_, fun k3 => ⟨by omega, fun x3 e3 => ⟨fun k4 => ?_, fun k4 => ⟨fun k5 => ?_, fun k5 => ⟨fun k6 => ?_, fun k6 => ?_⟩⟩⟩⟩⟩⟩⟩⟩⟩
    all_goals
      simp_all
  · have e : l ≠ 77 := by simpa using e
    have k : l ≠ 71 := by simpa using k
    rw [if_neg k, if_neg e] at hq; exact hq
  · intro g hg
    have : ∀ g ∈ ([[], [[0], [1], [2], [3], [33], [73], [74], [80], [81], [82], [83], [84], [85], [86], [89]], [[17], [18], [19]], [[90], [91]], [[20], [21]], [[94], [95]], [[40], [41], [42]], [[43], [44], [49]], [[98], [99]], [[54], [55], [56], [57], [58], [59]], [[61], [64]], [[15], [16]], [[68], [69]], [[53]], [[4], [10], [12], [13], [31], [52], [92]]] : List (List (List Int))), g.length ≤ 100 := by decide
    exact this g hg
  · have k : l = 71 := by simpa using k
    rw [if_pos k] at hq
    have z : prep c = 0 := z
    rw [z] at hq; exact hq
  · have k : l = 71 := by simpa using k
    rw [if_pos k] at hq
    exact hq
set_option maxRecDepth 100000 in
theorem loopHas : ∀ v Q, (LHas v).wp Q → hloop CHas anHas (nthLoop Try.f31 0) v Q := by
  intro v Q h
  unfold LHas at h
  split at h
  case h_2 => exact h.elim
  rename_i c n r l len k
  obtain ⟨⟨h1, h2, h3⟩, hq1, hq2⟩ := h
  subst h1 h2
  refine hloop_rec (σ := Nat) (fun j => ([.ce (.int .i64 c), .ce (.int .i64 n), .ce (.bool r), .ce (.sl false [4, 4] l), .ce (.int .i64 (l.length : Int)), .ce (.int .i64 (j : Int))], [])) (fun j => l.length - j) (fun j => j ≤ l.length ∧ has c n l = has c n (l.drop j)) ?_ 0 ⟨Nat.zero_le _, rfl⟩
  rintro j ⟨hj, hp⟩ K hn he hr
  refine byVB (vbHas c n _ j r l K) ⟨fun hlt => ⟨by have := of_decide_eq_true hlt; omega, trivial, fun x1 e1 x2 e2 => ?_⟩, fun hge => ?_⟩
  · have hlt := of_decide_eq_true hlt
    have hjl : j < l.length := by omega
    have hp2 := hp
    rw [drop_cons l hjl] at hp2
    have ej : ((j : Nat) : Int).toNat = j := by omega
    rw [ej] at e1 e2 ⊢
    rw [has_cons] at hp2
    rw [lt_el, nm_ec] at hp2
    have e3 : isc (l.getD j []) = x2 := by rw [e2]; rfl
    rw [e3, ← e1] at hp2
    have nx : ∀ x3 : Int, (x2 && el l j == c && x1 == n) = false → x3 = (j : Int) + 1 → K .normal ([.ce (.int .i64 c), .ce (.int .i64 n), .ce (.bool r), .ce (.sl false [4, 4] l), .ce (.int .i64 (l.length : Int)), .ce (.int .i64 x3)], []) := by
      intro x3 hf e
      rw [show x3 = ((j + 1 : Nat) : Int) by omega]
      exact hn (j + 1) ⟨by omega, by rw [hp2, hf]; rfl⟩ (by omega)
    refine ⟨fun k1 => ⟨fun k2 => ⟨fun k3 => ?_, fun k3 => ⟨by omega, fun x3 e => nx x3 (by rw [k3]; simp) e⟩⟩, fun k2 => ⟨by omega, fun x3 e => nx x3 (by rw [k2]; simp) e⟩⟩, fun k1 => ⟨by omega, fun x3 e => nx x3 (by rw [k1]; simp) e⟩⟩
    exact hr _ (hq2 (by rw [hp2, k1, k2, k3]; rfl))
  · have hge := of_decide_eq_false hge
    have : j = l.length := by omega
    subst this
    rw [List.drop_length] at hp
    exact he _ _ (hq1 hp)
set_option maxHeartbeats 400000 in
set_option maxRecDepth 100000 in
theorem sHas : Sound Try.prog 31 SHas := by
  refine sound_of (C := CHas) tabCo Try.func31 (by kernel_rfl) (by decide +kernel) (by kernel_rfl) rfl ⟨sCode, trivial⟩ (loops1 (by kernel_rfl) (loopOK_of (an := anHas) (S := LHas) (by kernel_rfl) loopHas)) ?_
  intro hargs pars R h
  unfold SHas at h
  split at h
  case h_2 => exfalso; exact h
  rename_i l c n
  have hq := h.2
  exact byVC (vcHas l c n R) ⟨⟨rfl, rfl, h.1⟩, fun e => by rw [e] at hq; exact hq, fun e => by rw [e] at hq; exact hq⟩
set_option maxRecDepth 100000 in
theorem loopHas2 : ∀ v Q, (LHas2 v).wp Q → hloop CHas2 anHas2 (nthLoop Try.f32 0) v Q := by
  intro v Q h
  unfold LHas2 at h
  split at h
  case h_2 => exact h.elim
  rename_i l c n r k
  obtain ⟨⟨h1, h3⟩, hq1, hq2⟩ := h
  subst h1
  refine hloop_rec (σ := Nat) (fun j => ([.ce (.sl false [4, 4] l), .ce (.int .i64 c), .ce (.int .i64 n), .ce (.bool r), .ce (.int .i64 (j : Int))], [])) (fun j => l.length - j) (fun j => j ≤ l.length ∧ has c n l = has c n (l.drop j)) ?_ 0 ⟨Nat.zero_le _, rfl⟩
  rintro j ⟨hj, hp⟩ K hn he hr
  refine byVB (vbHas2 c n j r l K) ⟨fun hlt => ⟨by have := of_decide_eq_true hlt; omega, fun x1 e1 => ⟨trivial, fun x2 e2 x3 e3 => ⟨by have := of_decide_eq_true hlt; omega, fun x4 e4 => ?_⟩⟩⟩, fun hge => ?_⟩
  · have hlt := of_decide_eq_true hlt
    have hjl : j < l.length := by omega
    have hp2 := hp
    rw [drop_cons l hjl] at hp2
    have ej : ((j : Nat) : Int).toNat = j := by omega
    rw [ej] at e1 e4
    rw [has_cons] at hp2
    have e5 : isc (l.getD j []) = (x3 && (x4 == 71 || x4 == 77)) := by rw [e3, e4, e1]; rfl
    rw [e5, lt_el, nm_ec, ← e1, ← e2, ← e4] at hp2
    have nx : ∀ x : Int, ((x3 && (x4 == 71 || x4 == 77)) && x4 == c && x2 == n) = false → x = (j : Int) + 1 → K .normal ([.ce (.sl false [4, 4] l), .ce (.int .i64 c), .ce (.int .i64 n), .ce (.bool r), .ce (.int .i64 x)], []) := by
      intro x hf e
      rw [show x = ((j + 1 : Nat) : Int) by omega]
      exact hn (j + 1) ⟨by omega, by rw [hp2, hf]; rfl⟩ (by omega)
    have yes : ((x3 && (x4 == 71 || x4 == 77)) && x4 == c && x2 == n) = true → K .ret ([.ce (.bool true)], []) := fun ht => hr _ (hq2 (by rw [hp2, ht]; rfl))
    clear hp hp2 hn he hr hq1 hq2 e5 e3 e4
    refine ⟨fun k1 => ⟨fun k2 => ⟨fun k3 => ⟨fun k4 => yes ?_, fun k4 => ⟨fun k5 => yes ?_, fun k5 => ⟨by omega, fun x e => nx x ?_ e⟩⟩⟩, fun k3 => ⟨by omega, fun x e => nx x ?_ e⟩⟩, fun k2 => ⟨by omega, fun x e => nx x ?_ e⟩⟩, fun k1 => ⟨by omega, fun x e => nx x ?_ e⟩⟩
    all_goals
      simp_all
  · have hge := of_decide_eq_false hge
    have : j = l.length := by omega
    subst this
    rw [List.drop_length] at hp
    exact he _ _ (hq1 hp)
set_option maxHeartbeats 400000 in
set_option maxRecDepth 100000 in
theorem sHas2 : Sound Try.prog 32 SHas := by
  refine sound_of (C := CHas2) tabW Try.func32 (by kernel_rfl) (by decide +kernel) (by kernel_rfl) rfl ⟨sWhole, sWhole2, trivial⟩ (loops1 (by kernel_rfl) (loopOK_of (an := anHas2) (S := LHas2) (by kernel_rfl) loopHas2)) ?_
  intro hargs pars R h
  unfold SHas at h
  split at h
  case h_2 => exfalso; exact h
  rename_i l c n
  have hq := h.2
  exact byVC (vcHas2 l c n R) ⟨⟨rfl, h.1⟩, fun e => by rw [e] at hq; exact hq, fun e => by rw [e] at hq; exact hq⟩
theorem fnd_cons (c : Int) (r : List Int) (l : List (List Int)) : fndN c (r :: l) = (if lt r = c then nm r else fndN c l) ∧ fndB c (r :: l) = (if lt r = c then true else fndB c l) := by
  unfold fndN fndB
  rw [show fnd c (r :: l) = (if lt r = c then some (nm r) else fnd c l) from rfl]
  by_cases h : lt r = c
  · rw [if_pos h, if_pos h, if_pos h]; exact ⟨rfl, rfl⟩
  · rw [if_neg h, if_neg h, if_neg h]; exact ⟨rfl, rfl⟩
set_option maxRecDepth 100000 in
theorem loopFind : ∀ v Q, (LFind v).wp Q → hloop CFind anFind (nthLoop Try.f33 0) v Q := by
  intro v Q h
  unfold LFind at h
  split at h
  case h_2 => exact h.elim
  rename_i c r s l len k
  obtain ⟨⟨h1, h2, h3⟩, hq1, hq2⟩ := h
  subst h1 h2
  refine hloop_rec (σ := Nat) (fun j => ([.ce (.int .i64 c), .ce (.int .i64 r), .ce (.bool s), .ce (.sl false [4, 4] l), .ce (.int .i64 (l.length : Int)), .ce (.int .i64 (j : Int))], [])) (fun j => l.length - j) (fun j => j ≤ l.length ∧ fndN c l = fndN c (l.drop j) ∧ fndB c l = fndB c (l.drop j)) ?_ 0 ⟨Nat.zero_le _, rfl, rfl⟩
  rintro j ⟨hj, hp, hp'⟩ K hn he hr
  refine byVB (vbFind c r _ j s l K) ⟨fun hlt => ⟨by have := of_decide_eq_true hlt; omega, ?_⟩, fun hge => ?_⟩
  · have hlt := of_decide_eq_true hlt
    have hjl : j < l.length := by omega
    rw [drop_cons l hjl, (fnd_cons c _ _).1, lt_el, nm_ec] at hp
    rw [drop_cons l hjl, (fnd_cons c _ _).2, lt_el] at hp'
    have ej : ((j : Nat) : Int).toNat = j := by omega
    rw [ej]
    refine ⟨fun k => ?_, fun k => ⟨by omega, fun x e => ?_⟩⟩
    · have k : el l j = c := by simpa using k
      rw [if_pos k] at hp hp'
      have := hq2 hp'
      rw [hp] at this
      exact hr _ this
    · have k : el l j ≠ c := by simpa using k
      rw [if_neg k] at hp hp'
      rw [show x = ((j + 1 : Nat) : Int) by omega]
      exact hn (j + 1) ⟨by omega, hp, hp'⟩ (by omega)
  · have hge := of_decide_eq_false hge
    have : j = l.length := by omega
    subst this
    rw [List.drop_length] at hp'
    exact he _ _ (hq1 hp')
theorem fndN_none {c : Int} {l : List (List Int)} (h : fndB c l = false) : fndN c l = 0 := by
  unfold fndB at h
  unfold fndN
  split at h
  · cases h
  · rfl
set_option maxHeartbeats 400000 in
set_option maxRecDepth 100000 in
theorem sFind : Sound Try.prog 33 SFind := by
  refine sound_of (C := CFind) [] Try.func33 (by kernel_rfl) (by decide +kernel) (by kernel_rfl) rfl trivial (loops1 (by kernel_rfl) (loopOK_of (an := anFind) (S := LFind) (by kernel_rfl) loopFind)) ?_
  intro hargs pars R h
  unfold SFind at h
  split at h
  case h_2 => exfalso; exact h
  rename_i l c
  have hq := h.2
  exact byVC (vcFind l c R) ⟨⟨rfl, rfl, h.1⟩, fun e => by rw [fndN_none e, e] at hq; exact hq, fun e => by rw [e] at hq; exact hq⟩
set_option maxRecDepth 100000 in
theorem loopFind2 : ∀ v Q, (LFind2 v).wp Q → hloop CFind2 anFind2 (nthLoop Try.f34 0) v Q := by
  intro v Q h
  unfold LFind2 at h
  split at h
  case h_2 => exact h.elim
  rename_i l c r s k
  obtain ⟨⟨h1, h3⟩, hq1, hq2⟩ := h
  subst h1
  refine hloop_rec (σ := Nat) (fun j => ([.ce (.sl false [4, 4] l), .ce (.int .i64 c), .ce (.int .i64 r), .ce (.bool s), .ce (.int .i64 (j : Int))], [])) (fun j => l.length - j) (fun j => j ≤ l.length ∧ fndN c l = fndN c (l.drop j) ∧ fndB c l = fndB c (l.drop j)) ?_ 0 ⟨Nat.zero_le _, rfl, rfl⟩
  rintro j ⟨hj, hp, hp'⟩ K hn he hr
  refine byVB (vbFind2 c r j s l K) ⟨fun hlt => ⟨by have := of_decide_eq_true hlt; omega, fun x1 e1 => ?_⟩, fun hge => ?_⟩
  · have hlt := of_decide_eq_true hlt
    have hjl : j < l.length := by omega
    have ej : ((j : Nat) : Int).toNat = j := by omega
    rw [ej] at e1 ⊢
    rw [drop_cons l hjl, (fnd_cons c _ _).1, lt_el, nm_ec, ← e1] at hp
    rw [drop_cons l hjl, (fnd_cons c _ _).2, lt_el, ← e1] at hp'
    refine ⟨fun k => ⟨by omega, fun x2 e2 => ?_⟩, fun k => ⟨by omega, fun x e => ?_⟩⟩
    · have k : x1 = c := by simpa using k
      rw [if_pos k] at hp hp'
      have := hq2 hp'
      rw [hp, ← e2] at this
      exact hr _ this
    · have k : x1 ≠ c := by simpa using k
      rw [if_neg k] at hp hp'
      rw [show x = ((j + 1 : Nat) : Int) by omega]
      exact hn (j + 1) ⟨by omega, hp, hp'⟩ (by omega)
  · have hge := of_decide_eq_false hge
    have : j = l.length := by omega
    subst this
    rw [List.drop_length] at hp'
    exact he _ _ (hq1 hp')
set_option maxHeartbeats 400000 in
set_option maxRecDepth 100000 in
theorem sFind2 : Sound Try.prog 34 SFind := by
  refine sound_of (C := CFind2) [] Try.func34 (by kernel_rfl) (by decide +kernel) (by kernel_rfl) rfl trivial (loops1 (by kernel_rfl) (loopOK_of (an := anFind2) (S := LFind2) (by kernel_rfl) loopFind2)) ?_
  intro hargs pars R h
  unfold SFind at h
  split at h
  case h_2 => exfalso; exact h
  rename_i l c
  have hq := h.2
  exact byVC (vcFind2 l c R) ⟨⟨rfl, h.1⟩, fun e => by rw [fndN_none e, e] at hq; exact hq, fun e => by rw [e] at hq; exact hq⟩
set_option maxRecDepth 100000 in
theorem loopGof : ∀ v Q, (LGof v).wp Q → hloop CGof anGof (nthLoop Try.f41 0) v Q := by
  intro v Q h
  unfold LGof at h
  split at h
  case h_2 => exact h.elim
  rename_i l g r k
  obtain ⟨⟨h1, h3⟩, hq1, hq2⟩ := h
  subst h1
  refine hloop_rec (σ := Nat) (fun j => ([.ce (.sl false [4, 4] l), .ce (.int .i64 g), .ce (.int .i64 r), .ce (.int .i64 (j : Int))], [])) (fun j => l.length - j) (fun j => j ≤ l.length ∧ gof g l = gof g (l.drop j)) ?_ 0 ⟨Nat.zero_le _, rfl⟩
  rintro j ⟨hj, hp⟩ K hn he hr
  refine byVB (vbGof g r j l K) ⟨fun hlt => ⟨by have := of_decide_eq_true hlt; omega, fun x1 e1 => ⟨trivial, fun x2 e2 x3 e3 => ?_⟩⟩, fun hge => ?_⟩
  · have hlt := of_decide_eq_true hlt
    have hjl : j < l.length := by omega
    have ej : ((j : Nat) : Int).toNat = j := by omega
    rw [ej] at e1
    rw [drop_cons l hjl] at hp
    rw [gof_cons, lt_el, nm_ec, ← e1, ← e2, ← e3] at hp
    have nx : ∀ x : Int, (x3 && grp (el l j) x2 == g) = false → x = (j : Int) + 1 → K .normal ([.ce (.sl false [4, 4] l), .ce (.int .i64 g), .ce (.int .i64 r), .ce (.int .i64 x)], []) := by
      intro x hf e
      rw [show x = ((j + 1 : Nat) : Int) by omega]
      exact hn (j + 1) ⟨by omega, by rw [hp, hf]; rfl⟩ (by omega)
    refine ⟨fun k1 => ⟨by omega, fun x4 e4 => ⟨trivial, fun x5 e5 => ?_⟩⟩, fun k1 => ⟨by omega, fun x e => nx x (by rw [k1]; rfl) e⟩⟩
    rw [ej] at e4
    rw [e4] at e5
    refine ⟨fun k => ?_, fun k => ⟨by omega, fun x e => nx x (by rw [← e5, k]; simp) e⟩⟩
    have := hq2 trivial
    rw [hp, ← e5, k1, k] at this
    exact hr _ this
  · have hge := of_decide_eq_false hge
    have : j = l.length := by omega
    subst this
    rw [List.drop_length] at hp
    exact he _ _ (hq1 hp)
set_option maxHeartbeats 400000 in
set_option maxRecDepth 100000 in
theorem sGof : Sound Try.prog 41 SGof := by
  refine sound_of (C := CGof) tabGof Try.func41 (by kernel_rfl) (by decide +kernel) (by kernel_rfl) rfl ⟨sWhole2, sGroup2, trivial⟩ (loops1 (by kernel_rfl) (loopOK_of (an := anGof) (S := LGof) (by kernel_rfl) loopGof)) ?_
  intro hargs pars R h
  unfold SGof at h
  split at h
  case h_2 => exfalso; exact h
  rename_i l g
  have hq := h.2
  exact byVC (vcGof l g R) ⟨⟨rfl, h.1⟩, fun e => by rw [e] at hq; exact hq, fun _ => hq⟩
end Go.Proofs.Ytcfgklmpfkmdkaa
