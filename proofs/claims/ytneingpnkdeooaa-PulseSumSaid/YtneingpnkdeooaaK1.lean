/-
  Paths: their lengths, where a position lies on them, the point there (without the rounding's proof).
  Conditions: none.
-/
import Derived.Test.YtneingpnkdeooaaPb
set_option maxRecDepth 100000
namespace U
open Go
/-- the length of segments -/
def plen : List (List Int) → Int
  | [] => 0
  | r :: l => r.getD 3 0 + plen l
/-- the segment in which a position lies, and the distance from its beginning; -1 if it lies behind all -/
def lfA : List (List Int) → Int → Int → Int × Int
  | [], _, _ => (-1, 0)
  | r :: l, i, s => if s < r.getD 3 0 then (i, s) else lfA l (i + 1) (s - r.getD 3 0)
def pfind (sg : List (List Int)) (s : Int) : Int × Int :=
  if sg.length = 0 then (-1, 0) else if 0 ≤ (lfA sg 0 (max s 0)).1 then lfA sg 0 (max s 0) else ((sg.length : Int) - 1, ec sg (sg.length - 1) 3)
/-- segments of moderate length -/
def okLen (sg : List (List Int)) : Prop := sg.length ≤ 1048576 ∧ ∀ j, j < sg.length → 1 ≤ ec sg j 3 ∧ ec sg j 3 ≤ 4294967296
/-- points of moderate size -/
def okPts (s0 s1 s2 : Int) (sg : List (List Int)) : Prop :=
  (-536870912 ≤ s0 ∧ s0 ≤ 536870912) ∧ (-536870912 ≤ s1 ∧ s1 ≤ 536870912) ∧ (-536870912 ≤ s2 ∧ s2 ≤ 536870912) ∧
  ∀ j, j < sg.length → (-536870912 ≤ ec sg j 0 ∧ ec sg j 0 ≤ 536870912) ∧ (-536870912 ≤ ec sg j 1 ∧ ec sg j 1 ≤ 536870912) ∧ (-536870912 ≤ ec sg j 2 ∧ ec sg j 2 ≤ 536870912)
/-- the point at which segment i begins -/
def bgn (s : Int) (sg : List (List Int)) (c : Nat) (i : Int) : Int := if i ≤ 0 then s else ec sg (i - 1).toNat c
def rnd (a b : Int) : Int := (2 * a + b) / (2 * b)
/-- coordinate c of the point at a position -/
def ptAt (s : Int) (sg : List (List Int)) (c : Nat) (p : Int) : Int :=
  if (pfind sg p).1 < 0 then s else bgn s sg c (pfind sg p).1 + rnd ((ec sg (pfind sg p).1.toNat c - bgn s sg c (pfind sg p).1) * (pfind sg p).2) (ec sg (pfind sg p).1.toNat 3)
end U
namespace Go.Proofs.Ytneingpnkdeooaa
open Go Go.HL U
def SPLen (hargs : List HV) (pars : List (List HC)) : SR :=
  match hargs, pars with
  | [.agg [.int .i64 s0, .int .i64 s1, .int .i64 s2, .sl false [4, 4, 4, 4, 4, 4, 4] sg, .sl false [4, 4, 4] mk]], [] => .det (okLen sg) ⟨.ce (.int .i64 (plen sg)), false, [], []⟩
  | _, _ => .fail
def anLen : LAnn := ⟨[1, 2, 3, 7, 8, 9], [1, 2, 3], [1000001], false⟩
def LLen (v : LV) : LR :=
  match v with
  | ([.ce (.ptr 1000001 0), .ce (.int .i64 z), .ce (.int .i64 t), .ce (.sl false [4, 4, 4, 4, 4, 4, 4] l), .ce (.int .i64 n), .ce (.int .i64 i)], [[.int .i64 s0, .int .i64 s1, .int .i64 s2, .sl false [4, 4, 4, 4, 4, 4, 4] sg, .sl false [4, 4, 4] mk]]) =>
    .det (n = l.length ∧ i = 0 ∧ t = 0 ∧ okLen l) (.exit 0) ([.ce (.ptr 1000001 0), .ce (.int .i64 z), .ce (.int .i64 (plen l))], [[.int .i64 s0, .int .i64 s1, .int .i64 s2, .sl false [4, 4, 4, 4, 4, 4, 4] sg, .sl false [4, 4, 4] mk]])
  | _ => .fail
noncomputable def CPLen : Ctx := ⟨Try.prog, gam [], Try.f27.ntmps, [(3, anLen, LLen)], []⟩
noncomputable def CPLen2 : Ctx := ⟨Try.prog, gam [], Try.f52.ntmps, [(3, anLen, LLen)], []⟩
theorem vbPLen (s0 s1 s2 z t n i : Int) (sg mk l : List (List Int)) (K : HEx → LV → Prop) : (nbodyT true CPLen anLen (nthLoop Try.f27 0) (([.ce (.ptr 1000001 0), .ce (.int .i64 z), .ce (.int .i64 t), .ce (.sl false [4, 4, 4, 4, 4, 4, 4] l), .ce (.int .i64 n), .ce (.int .i64 i)], [[.int .i64 s0, .int .i64 s1, .int .i64 s2, .sl false [4, 4, 4, 4, 4, 4, 4] sg, .sl false [4, 4, 4] mk]])) K) =
    ((decide (i < n) = true → ((0 : Int) ≤ i ∧ i < (((List.length l) : Nat) : Int)) ∧ ((-9223372036854775808 : Int) ≤ t + ec l (Int.toNat i) ((3 : Nat)) ∧ t + ec l (Int.toNat i) ((3 : Nat)) ≤ (9223372036854775807 : Int)) ∧ ∀ (x1 : Int), x1 = t + ec l (Int.toNat i) ((3 : Nat)) → ((-9223372036854775808 : Int) ≤ i + (1 : Int) ∧ i + (1 : Int) ≤ (9223372036854775807 : Int)) ∧ ∀ (x2 : Int), x2 = i + (1 : Int) → K HEx.normal ([HV.ce (HC.ptr (1000001 : Nat) (0 : Nat)), HV.ce (HC.int IntKind.i64 z), HV.ce (HC.int IntKind.i64 x1), HV.ce (HC.sl false [(4 : Nat), (4 : Nat), (4 : Nat), (4 : Nat), (4 : Nat), (4 : Nat), (4 : Nat)] l), HV.ce (HC.int IntKind.i64 n), HV.ce (HC.int IntKind.i64 x2)], [[HC.int IntKind.i64 s0, HC.int IntKind.i64 s1, HC.int IntKind.i64 s2, HC.sl false [(4 : Nat), (4 : Nat), (4 : Nat), (4 : Nat), (4 : Nat), (4 : Nat), (4 : Nat)] sg, HC.sl false [(4 : Nat), (4 : Nat), (4 : Nat)] mk]])) ∧
    (decide (i < n) = false → K (HEx.exit (0 : Nat)) ([HV.ce (HC.ptr (1000001 : Nat) (0 : Nat)), HV.ce (HC.int IntKind.i64 z), HV.ce (HC.int IntKind.i64 t)], [[HC.int IntKind.i64 s0, HC.int IntKind.i64 s1, HC.int IntKind.i64 s2, HC.sl false [(4 : Nat), (4 : Nat), (4 : Nat), (4 : Nat), (4 : Nat), (4 : Nat), (4 : Nat)] sg, HC.sl false [(4 : Nat), (4 : Nat), (4 : Nat)] mk]]))) := by kernel_rfl
theorem vbPLen2 (s0 s1 s2 z t n i : Int) (sg mk l : List (List Int)) (K : HEx → LV → Prop) : (nbodyT true CPLen2 anLen (nthLoop Try.f52 0) (([.ce (.ptr 1000001 0), .ce (.int .i64 z), .ce (.int .i64 t), .ce (.sl false [4, 4, 4, 4, 4, 4, 4] l), .ce (.int .i64 n), .ce (.int .i64 i)], [[.int .i64 s0, .int .i64 s1, .int .i64 s2, .sl false [4, 4, 4, 4, 4, 4, 4] sg, .sl false [4, 4, 4] mk]])) K) =
    ((decide (i < n) = true → ((0 : Int) ≤ i ∧ i < (((List.length l) : Nat) : Int)) ∧ ((-9223372036854775808 : Int) ≤ t + ec l (Int.toNat i) ((3 : Nat)) ∧ t + ec l (Int.toNat i) ((3 : Nat)) ≤ (9223372036854775807 : Int)) ∧ ∀ (x1 : Int), x1 = t + ec l (Int.toNat i) ((3 : Nat)) → ((-9223372036854775808 : Int) ≤ i + (1 : Int) ∧ i + (1 : Int) ≤ (9223372036854775807 : Int)) ∧ ∀ (x2 : Int), x2 = i + (1 : Int) → K HEx.normal ([HV.ce (HC.ptr (1000001 : Nat) (0 : Nat)), HV.ce (HC.int IntKind.i64 z), HV.ce (HC.int IntKind.i64 x1), HV.ce (HC.sl false [(4 : Nat), (4 : Nat), (4 : Nat), (4 : Nat), (4 : Nat), (4 : Nat), (4 : Nat)] l), HV.ce (HC.int IntKind.i64 n), HV.ce (HC.int IntKind.i64 x2)], [[HC.int IntKind.i64 s0, HC.int IntKind.i64 s1, HC.int IntKind.i64 s2, HC.sl false [(4 : Nat), (4 : Nat), (4 : Nat), (4 : Nat), (4 : Nat), (4 : Nat), (4 : Nat)] sg, HC.sl false [(4 : Nat), (4 : Nat), (4 : Nat)] mk]])) ∧
    (decide (i < n) = false → K (HEx.exit (0 : Nat)) ([HV.ce (HC.ptr (1000001 : Nat) (0 : Nat)), HV.ce (HC.int IntKind.i64 z), HV.ce (HC.int IntKind.i64 t)], [[HC.int IntKind.i64 s0, HC.int IntKind.i64 s1, HC.int IntKind.i64 s2, HC.sl false [(4 : Nat), (4 : Nat), (4 : Nat), (4 : Nat), (4 : Nat), (4 : Nat), (4 : Nat)] sg, HC.sl false [(4 : Nat), (4 : Nat), (4 : Nat)] mk]]))) := by kernel_rfl
theorem vcPLen (s0 s1 s2 : Int) (sg mk : List (List Int)) (Q : Res → Prop) : (nfun true CPLen Try.f27 (bodyOf Try.f27) [.agg [.int .i64 s0, .int .i64 s1, .int .i64 s2, .sl false [4, 4, 4, 4, 4, 4, 4] sg, .sl false [4, 4, 4] mk]] [] Q) =
    (((((List.length sg) : Nat) : Int) = (((List.length sg) : Nat) : Int) ∧ (0 : Int) = (0 : Int) ∧ (0 : Int) = (0 : Int) ∧ okLen sg) ∧ Q { val := HV.ce (HC.int IntKind.i64 (plen sg)), own := false, pars := [], news := [] }) := by kernel_rfl
theorem vcPLen2 (s0 s1 s2 : Int) (sg mk : List (List Int)) (Q : Res → Prop) : (nfun true CPLen2 Try.f52 (bodyOf Try.f52) [.agg [.int .i64 s0, .int .i64 s1, .int .i64 s2, .sl false [4, 4, 4, 4, 4, 4, 4] sg, .sl false [4, 4, 4] mk]] [] Q) =
    (((((List.length sg) : Nat) : Int) = (((List.length sg) : Nat) : Int) ∧ (0 : Int) = (0 : Int) ∧ (0 : Int) = (0 : Int) ∧ okLen sg) ∧ Q { val := HV.ce (HC.int IntKind.i64 (plen sg)), own := false, pars := [], news := [] }) := by kernel_rfl
def SPFind (hargs : List HV) (pars : List (List HC)) : SR :=
  match hargs, pars with
  | [.agg [.int .i64 s0, .int .i64 s1, .int .i64 s2, .sl false [4, 4, 4, 4, 4, 4, 4] sg, .sl false [4, 4, 4] mk], .ce (.int .i64 p)], [] => .all (okLen sg ∧ p ≤ 4611686018427387904) (Int × Int) (fun x => x = pfind sg p) (fun x => ⟨.tup [.ce (.int .i64 x.1), .ce (.int .i64 x.2)], false, [], []⟩)
  | _, _ => .fail
def anPF : LAnn := ⟨[1, 2, 4, 5, 11, 12, 13], [2, 4, 5], [1000002], false⟩
def LPF (v : LV) : LR :=
  match v with
  | ([.ce (.int .i64 p), .ce (.ptr 1000002 0), .ce (.int .i64 z), .ce (.int .i64 y), .ce (.sl false [4, 4, 4, 4, 4, 4, 4] l), .ce (.int .i64 n), .ce (.int .i64 i)], [[.int .i64 s0, .int .i64 s1, .int .i64 s2, .sl false [4, 4, 4, 4, 4, 4, 4] sg, .sl false [4, 4, 4] mk]]) =>
    .alts (n = l.length ∧ i = 0 ∧ (0 ≤ p ∧ p ≤ 4611686018427387904) ∧ l = sg ∧ okLen l)
      [(l.length = 0, .exit 0, ([.ce (.ptr 1000002 0), .ce (.int .i64 z), .ce (.int .i64 y)], [[.int .i64 s0, .int .i64 s1, .int .i64 s2, .sl false [4, 4, 4, 4, 4, 4, 4] sg, .sl false [4, 4, 4] mk]])),
       (0 < l.length, .ret, ([.ce (.ptr 1000002 0), .ce (.int .i64 (pfind l p).1), .ce (.int .i64 (pfind l p).2)], [[.int .i64 s0, .int .i64 s1, .int .i64 s2, .sl false [4, 4, 4, 4, 4, 4, 4] sg, .sl false [4, 4, 4] mk]]))]
  | _ => .fail
noncomputable def CPFind : Ctx := ⟨Try.prog, gam [], Try.f59.ntmps, [(3, anPF, LPF)], []⟩
theorem vbPFind (s0 s1 s2 p z y n i : Int) (sg mk l : List (List Int)) (K : HEx → LV → Prop) : (nbodyT true CPFind anPF (nthLoop Try.f59 0) (([.ce (.int .i64 p), .ce (.ptr 1000002 0), .ce (.int .i64 z), .ce (.int .i64 y), .ce (.sl false [4, 4, 4, 4, 4, 4, 4] l), .ce (.int .i64 n), .ce (.int .i64 i)], [[.int .i64 s0, .int .i64 s1, .int .i64 s2, .sl false [4, 4, 4, 4, 4, 4, 4] sg, .sl false [4, 4, 4] mk]])) K) =
    ((decide (i < n) = true → ((0 : Int) ≤ i ∧ i < (((List.length l) : Nat) : Int)) ∧ (decide (p < ec l (Int.toNat i) ((3 : Nat))) = true → K HEx.ret ([HV.ce (HC.ptr (1000002 : Nat) (0 : Nat)), HV.ce (HC.int IntKind.i64 i), HV.ce (HC.int IntKind.i64 p)], [[HC.int IntKind.i64 s0, HC.int IntKind.i64 s1, HC.int IntKind.i64 s2, HC.sl false [(4 : Nat), (4 : Nat), (4 : Nat), (4 : Nat), (4 : Nat), (4 : Nat), (4 : Nat)] sg, HC.sl false [(4 : Nat), (4 : Nat), (4 : Nat)] mk]])) ∧ (decide (p < ec l (Int.toNat i) ((3 : Nat))) = false → ((-9223372036854775808 : Int) ≤ (((List.length sg) : Nat) : Int) - (1 : Int) ∧ (((List.length sg) : Nat) : Int) - (1 : Int) ≤ (9223372036854775807 : Int)) ∧ ∀ (x1 : Int), x1 = (((List.length sg) : Nat) : Int) - (1 : Int) → ((i == x1) = true → K HEx.ret ([HV.ce (HC.ptr (1000002 : Nat) (0 : Nat)), HV.ce (HC.int IntKind.i64 i), HV.ce (HC.int IntKind.i64 (ec l (Int.toNat i) ((3 : Nat))))], [[HC.int IntKind.i64 s0, HC.int IntKind.i64 s1, HC.int IntKind.i64 s2, HC.sl false [(4 : Nat), (4 : Nat), (4 : Nat), (4 : Nat), (4 : Nat), (4 : Nat), (4 : Nat)] sg, HC.sl false [(4 : Nat), (4 : Nat), (4 : Nat)] mk]])) ∧
    ((i == x1) = false → ((-9223372036854775808 : Int) ≤ p - ec l (Int.toNat i) ((3 : Nat)) ∧ p - ec l (Int.toNat i) ((3 : Nat)) ≤ (9223372036854775807 : Int)) ∧ ∀ (x2 : Int), x2 = p - ec l (Int.toNat i) ((3 : Nat)) → ((-9223372036854775808 : Int) ≤ i + (1 : Int) ∧ i + (1 : Int) ≤ (9223372036854775807 : Int)) ∧ ∀ (x3 : Int), x3 = i + (1 : Int) → K HEx.normal ([HV.ce (HC.int IntKind.i64 x2), HV.ce (HC.ptr (1000002 : Nat) (0 : Nat)), HV.ce (HC.int IntKind.i64 z), HV.ce (HC.int IntKind.i64 y), HV.ce (HC.sl false [(4 : Nat), (4 : Nat), (4 : Nat), (4 : Nat), (4 : Nat), (4 : Nat), (4 : Nat)] l), HV.ce (HC.int IntKind.i64 n), HV.ce (HC.int IntKind.i64 x3)], [[HC.int IntKind.i64 s0, HC.int IntKind.i64 s1, HC.int IntKind.i64 s2, HC.sl false [(4 : Nat), (4 : Nat), (4 : Nat), (4 : Nat), (4 : Nat), (4 : Nat), (4 : Nat)] sg, HC.sl false [(4 : Nat), (4 : Nat), (4 : Nat)] mk]])))) ∧ (decide (i < n) = false →
    K (HEx.exit (0 : Nat)) ([HV.ce (HC.ptr (1000002 : Nat) (0 : Nat)), HV.ce (HC.int IntKind.i64 z), HV.ce (HC.int IntKind.i64 y)], [[HC.int IntKind.i64 s0, HC.int IntKind.i64 s1, HC.int IntKind.i64 s2, HC.sl false [(4 : Nat), (4 : Nat), (4 : Nat), (4 : Nat), (4 : Nat), (4 : Nat), (4 : Nat)] sg, HC.sl false [(4 : Nat), (4 : Nat), (4 : Nat)] mk]]))) := by kernel_rfl
theorem vcPFind (s0 s1 s2 p : Int) (sg mk : List (List Int)) (Q : Res → Prop) : (nfun true CPFind Try.f59 (bodyOf Try.f59) [.agg [.int .i64 s0, .int .i64 s1, .int .i64 s2, .sl false [4, 4, 4, 4, 4, 4, 4] sg, .sl false [4, 4, 4] mk], .ce (.int .i64 p)] [] Q) =
    (∀ (x1 : Int), x1 = max p (0 : Int) → ((((List.length sg) : Nat) : Int) = (((List.length sg) : Nat) : Int) ∧ (0 : Int) = (0 : Int) ∧ ((0 : Int) ≤ x1 ∧ x1 ≤ (4611686018427387904 : Int)) ∧ sg = sg ∧ okLen sg) ∧ (List.length sg = (0 : Nat) → Q { val := HV.tup [H0.ce (HC.int IntKind.i64 (-1 : Int)), H0.ce (HC.int IntKind.i64 (0 : Int))], own := false, pars := [], news := [] }) ∧ ((0 : Nat) < List.length sg → Q { val := HV.tup [H0.ce (HC.int IntKind.i64 (pfind sg x1).1), H0.ce (HC.int IntKind.i64 (pfind sg x1).2)], own := false, pars := [], news := [] })) := by kernel_rfl
def SBegin (hargs : List HV) (pars : List (List HC)) : SR :=
  match hargs, pars with
  | [.agg [.int .i64 s0, .int .i64 s1, .int .i64 s2, .sl false [4, 4, 4, 4, 4, 4, 4] sg, .sl false [4, 4, 4] mk], .ce (.int .i64 i)], [] => .det (i ≤ sg.length ∧ sg.length ≤ 1073741824) ⟨.agg [.int .i64 (bgn s0 sg 0 i), .int .i64 (bgn s1 sg 1 i), .int .i64 (bgn s2 sg 2 i)], false, [], []⟩
  | _, _ => .fail
noncomputable def CBegin : Ctx := ⟨Try.prog, gam [], Try.f76.ntmps, [], []⟩
theorem vcBegin (s0 s1 s2 i : Int) (sg mk : List (List Int)) (Q : Res → Prop) : (nfun true CBegin Try.f76 (bodyOf Try.f76) [.agg [.int .i64 s0, .int .i64 s1, .int .i64 s2, .sl false [4, 4, 4, 4, 4, 4, 4] sg, .sl false [4, 4, 4] mk], .ce (.int .i64 i)] [] Q) =
    ((decide (i ≤ (0 : Int)) = true → Q { val := HV.agg [HC.int IntKind.i64 s0, HC.int IntKind.i64 s1, HC.int IntKind.i64 s2], own := false, pars := [], news := [] }) ∧ (decide (i ≤ (0 : Int)) = false → ((-9223372036854775808 : Int) ≤ i - (1 : Int) ∧ i - (1 : Int) ≤ (9223372036854775807 : Int)) ∧ ∀ (x1 : Int), x1 = i - (1 : Int) → ((0 : Int) ≤ x1 ∧ x1 < (((List.length sg) : Nat) : Int)) ∧ Q { val := HV.agg [HC.int IntKind.i64 (el sg (Int.toNat x1)), HC.int IntKind.i64 (ec sg (Int.toNat x1) ((1 : Nat))), HC.int IntKind.i64 (ec sg (Int.toNat x1) ((2 : Nat)))], own := false, pars := [], news := [] })) := by kernel_rfl
def SRnd (hargs : List HV) (pars : List (List HC)) : SR :=
  match hargs, pars with
  | [.ce (.int .i64 a), .ce (.int .i64 b)], [] => .det (-2305843009213693952 ≤ a ∧ a ≤ 2305843009213693952 ∧ 0 < b ∧ b ≤ 2305843009213693952) ⟨.ce (.int .i64 (rnd a b)), false, [], []⟩
  | _, _ => .fail
noncomputable def CRnd : Ctx := ⟨Try.prog, gam [], Try.f85.ntmps, [], []⟩
theorem vcRnd (a b : Int) (Q : Res → Prop) : (nfun true CRnd Try.f85 (bodyOf Try.f85) [.ce (.int .i64 a), .ce (.int .i64 b)] [] Q) =
    (((-9223372036854775808 : Int) ≤ (2 : Int) * a ∧ (2 : Int) * a ≤ (9223372036854775807 : Int)) ∧ ∀ (x1 : Int), x1 = (2 : Int) * a → ((-9223372036854775808 : Int) ≤ x1 + b ∧ x1 + b ≤ (9223372036854775807 : Int)) ∧ ∀ (x2 : Int), x2 = x1 + b → ((-9223372036854775808 : Int) ≤ (2 : Int) * b ∧ (2 : Int) * b ≤ (9223372036854775807 : Int)) ∧ ∀ (x3 : Int), x3 = (2 : Int) * b → x3 ≠ (0 : Int) ∧ ((-9223372036854775808 : Int) ≤ Int.tdiv x2 x3 ∧ Int.tdiv x2 x3 ≤ (9223372036854775807 : Int)) ∧ ∀ (x4 : Int), x4 = Int.tdiv x2 x3 → x3 ≠ (0 : Int) ∧ ∀ (x5 : Int), x5 = Int.tmod x2 x3 → (decide (x5 < (0 : Int)) = true → ((-9223372036854775808 : Int) ≤ x4 - (1 : Int) ∧ x4 - (1 : Int) ≤ (9223372036854775807 : Int)) ∧ ∀ (x6 : Int), x6 = x4 - (1 : Int) → Q { val := HV.ce (HC.int IntKind.i64 x6), own := false, pars := [], news := [] }) ∧ (decide (x5 < (0 : Int)) = false → Q { val := HV.ce (HC.int IntKind.i64 x4), own := false, pars := [], news := [] })) := by kernel_rfl
end Go.Proofs.Ytneingpnkdeooaa
namespace U
theorem plen_append (a b : List (List Int)) : plen (a ++ b) = plen a + plen b := by
  induction a with
  | nil => simp [plen]
  | cons r a ih => simp only [List.cons_append, plen, ih]; omega
theorem take_next {α : Type} (l : List α) {k : Nat} (hk : k < l.length) (d : α) : l.take (k + 1) = l.take k ++ [l.getD k d] := by
  rw [List.take_add_one, List.getElem?_eq_getElem hk]
  simp [List.getD_eq_getElem?_getD, hk]
theorem drop_next {α : Type} (l : List α) {k : Nat} (hk : k < l.length) (d : α) : l.drop k = l.getD k d :: l.drop (k + 1) := by
  rw [List.drop_eq_getElem_cons hk]
  simp [List.getD_eq_getElem?_getD, hk]
theorem plen_next (l : List (List Int)) {k : Nat} (hk : k < l.length) : plen (l.take (k + 1)) = plen (l.take k) + ec l k 3 := by
  rw [take_next l hk [], plen_append]
  simp [plen, ec]
theorem plen_bd {l : List (List Int)} (h : okLen l) : ∀ k, k ≤ l.length → (k : Int) ≤ plen (l.take k) ∧ plen (l.take k) ≤ 4294967296 * (k : Int) := by
  intro k
  induction k with
  | zero => intro _; simp [plen]
  | succ k ih =>
    intro hk
    have h1 := ih (by omega)
    have h2 := h.2 k (by omega)
    rw [plen_next l (by omega)]
    omega
theorem plen_le {l : List (List Int)} (h : okLen l) : 0 ≤ plen l ∧ plen l ≤ 4503599627370496 := by
  have h1 := plen_bd h l.length (Nat.le_refl _)
  rw [List.take_length] at h1
  have := h.1
  omega
theorem lfA_cons {l : List (List Int)} {k : Nat} (hk : k < l.length) (i s : Int) : lfA (l.drop k) i s = if s < ec l k 3 then (i, s) else lfA (l.drop (k + 1)) (i + 1) (s - ec l k 3) := by
  rw [drop_next l hk []]
  rfl
end U
namespace Go.Proofs.Ytneingpnkdeooaa
open Go Go.HL U
attribute [local irreducible] hfun bodyT fragT
theorem loopPLen : ∀ v Q, (LLen v).wp Q → hloop CPLen anLen (nthLoop Try.f27 0) v Q := by
  intro v Q h
  unfold LLen at h
  split at h
  case h_2 => exact h.elim
  rename_i z t l n i s0 s1 s2 sg mk
  obtain ⟨⟨hn, hi, ht, hl⟩, hq⟩ := h
  subst hn hi ht
  refine hloop_rec (σ := Nat) (fun k => ([.ce (.ptr 1000001 0), .ce (.int .i64 z), .ce (.int .i64 (plen (l.take k))), .ce (.sl false [4, 4, 4, 4, 4, 4, 4] l), .ce (.int .i64 (l.length : Int)), .ce (.int .i64 (k : Int))], [[.int .i64 s0, .int .i64 s1, .int .i64 s2, .sl false [4, 4, 4, 4, 4, 4, 4] sg, .sl false [4, 4, 4] mk]]))
    (fun k => l.length - k) (fun k => k ≤ l.length) ?_ 0 (Nat.zero_le _)
  intro k hk K hn hx _
  have hb := plen_bd hl k hk
  have hl1 := hl.1
  refine byVB (vbPLen s0 s1 s2 z (plen (l.take k)) l.length k sg mk l K) ⟨fun g => ?_, fun g => ?_⟩
  · have g := of_decide_eq_true g
    have hkl : k < l.length := by omega
    have h2 := hl.2 k hkl
    have ht : Int.toNat (k : Int) = k := rfl
    rw [ht]
    refine ⟨by omega, by omega, fun x1 e1 => ⟨by omega, fun x2 e2 => ?_⟩⟩
    have := hn (k + 1) hkl (by omega)
    rw [plen_next l hkl] at this
    rw [e1, e2]
    exact this
  · have g := of_decide_eq_false g
    have hkl : k = l.length := by omega
    have := hx 0 _ hq
    rw [hkl, List.take_length]
    exact this
set_option maxHeartbeats 400000 in
set_option maxRecDepth 100000 in
theorem sPLen : Sound Try.prog 27 SPLen := by
  refine sound_of (C := CPLen) [] Try.func27 (by kernel_rfl) (by decide +kernel) (by kernel_rfl) rfl trivial (loops1 (by kernel_rfl) (loopOK_of (an := anLen) (S := LLen) (by kernel_rfl) loopPLen)) ?_
  intro hargs pars R h
  unfold SPLen at h
  split at h
  case h_2 => exfalso; exact h
  rename_i s0 s1 s2 sg mk
  exact byVC (vcPLen s0 s1 s2 sg mk R) ⟨⟨rfl, rfl, rfl, h.1⟩, h.2⟩
theorem loopPLen2 : ∀ v Q, (LLen v).wp Q → hloop CPLen2 anLen (nthLoop Try.f52 0) v Q := by
  intro v Q h
  unfold LLen at h
  split at h
  case h_2 => exact h.elim
  rename_i z t l n i s0 s1 s2 sg mk
  obtain ⟨⟨hn, hi, ht, hl⟩, hq⟩ := h
  subst hn hi ht
  refine hloop_rec (σ := Nat) (fun k => ([.ce (.ptr 1000001 0), .ce (.int .i64 z), .ce (.int .i64 (plen (l.take k))), .ce (.sl false [4, 4, 4, 4, 4, 4, 4] l), .ce (.int .i64 (l.length : Int)), .ce (.int .i64 (k : Int))], [[.int .i64 s0, .int .i64 s1, .int .i64 s2, .sl false [4, 4, 4, 4, 4, 4, 4] sg, .sl false [4, 4, 4] mk]]))
    (fun k => l.length - k) (fun k => k ≤ l.length) ?_ 0 (Nat.zero_le _)
  intro k hk K hn hx _
  have hb := plen_bd hl k hk
  have hl1 := hl.1
  refine byVB (vbPLen2 s0 s1 s2 z (plen (l.take k)) l.length k sg mk l K) ⟨fun g => ?_, fun g => ?_⟩
  · have g := of_decide_eq_true g
    have hkl : k < l.length := by omega
    have h2 := hl.2 k hkl
    have ht : Int.toNat (k : Int) = k := rfl
    rw [ht]
    refine ⟨by omega, by omega, fun x1 e1 => ⟨by omega, fun x2 e2 => ?_⟩⟩
    have := hn (k + 1) hkl (by omega)
    rw [plen_next l hkl] at this
    rw [e1, e2]
    exact this
  · have g := of_decide_eq_false g
    have hkl : k = l.length := by omega
    have := hx 0 _ hq
    rw [hkl, List.take_length]
    exact this
set_option maxHeartbeats 400000 in
set_option maxRecDepth 100000 in
theorem sPLen2 : Sound Try.prog 52 SPLen := by
  refine sound_of (C := CPLen2) [] Try.func52 (by kernel_rfl) (by decide +kernel) (by kernel_rfl) rfl trivial (loops1 (by kernel_rfl) (loopOK_of (an := anLen) (S := LLen) (by kernel_rfl) loopPLen2)) ?_
  intro hargs pars R h
  unfold SPLen at h
  split at h
  case h_2 => exfalso; exact h
  rename_i s0 s1 s2 sg mk
  exact byVC (vcPLen2 s0 s1 s2 sg mk R) ⟨⟨rfl, rfl, rfl, h.1⟩, h.2⟩
theorem loopPFind : ∀ v Q, (LPF v).wp Q → hloop CPFind anPF (nthLoop Try.f59 0) v Q := by
  intro v Q h
  unfold LPF at h
  split at h
  case h_2 => exact h.elim
  rename_i p z y l n i s0 s1 s2 sg mk
  obtain ⟨⟨hn, hi, ⟨hp, hpu⟩, hls, hl⟩, hq0, hq1⟩ := h
  subst hn hi hls
  refine hloop_rec (σ := Nat × Int) (fun s => ([.ce (.int .i64 s.2), .ce (.ptr 1000002 0), .ce (.int .i64 z), .ce (.int .i64 y), .ce (.sl false [4, 4, 4, 4, 4, 4, 4] l), .ce (.int .i64 (l.length : Int)), .ce (.int .i64 (s.1 : Int))], [[.int .i64 s0, .int .i64 s1, .int .i64 s2, .sl false [4, 4, 4, 4, 4, 4, 4] l, .sl false [4, 4, 4] mk]]))
    (fun s => l.length - s.1) (fun s => s.1 ≤ l.length ∧ (s.1 = l.length → s.1 = 0) ∧ 0 ≤ s.2 ∧ s.2 ≤ p ∧ lfA l 0 p = lfA (l.drop s.1) s.1 s.2) ?_ (0, p) ⟨Nat.zero_le _, fun _ => rfl, hp, Int.le_refl _, by simp⟩
  rintro ⟨k, p'⟩ ⟨hk, hk0, hp', hpp, he⟩ K hn hx hr
  dsimp only at hk hk0 hp' hpp he hn ⊢
  have hl1 := hl.1
  have hl1 := hl.1
  have fnd : ∀ x : Int × Int, 0 ≤ x.1 → lfA l 0 p = x → 0 < l.length → pfind l p = x := by
    intro x h0 hx hlen
    unfold pfind
    rw [if_neg (by omega), show max p 0 = p by omega, hx, if_pos h0]
  have lst : lfA l 0 p = (-1, 0) → 0 < l.length → pfind l p = ((l.length : Int) - 1, ec l (l.length - 1) 3) := by
    intro hx hlen
    unfold pfind
    rw [if_neg (by omega), show max p 0 = p by omega, hx, if_neg (by decide)]
  have ht : Int.toNat (k : Int) = k := rfl
  refine byVB (vbPFind s0 s1 s2 p' z y l.length k l mk l K) ⟨fun g => ?_, fun g => ?_⟩
  · have g := of_decide_eq_true g
    have hkl : k < l.length := by omega
    have hh := hl.2 k hkl
    rw [ht]
    rw [lfA_cons hkl] at he
    refine ⟨by omega, fun g2 => ?_, fun g2 => ⟨by omega, fun x1 e1 => ⟨fun g3 => ?_, fun g3 => ?_⟩⟩⟩
    · have g2 := of_decide_eq_true g2
      rw [if_pos g2] at he
      have e := fnd _ (by dsimp only; omega) he (by omega)
      have := hr _ (hq1 (by omega))
      rw [e] at this
      exact this
    · have g2 := of_decide_eq_false g2
      have g3 : (k : Int) = x1 := by simpa using g3
      rw [if_neg g2, List.drop_eq_nil_of_le (by omega)] at he
      have e := lst he (by omega)
      have := hr _ (hq1 (by omega))
      rw [e] at this
      rw [show (l.length : Int) - 1 = (k : Int) by omega, show l.length - 1 = k by omega] at this
      exact this
    · have g2 := of_decide_eq_false g2
      have g3 : ¬ (k : Int) = x1 := by simpa using g3
      rw [if_neg g2] at he
      refine ⟨by omega, fun x2 e2 => ⟨by omega, fun x3 e3 => ?_⟩⟩
      subst e2 e3
      exact hn (k + 1, p' - ec l k 3) ⟨hkl, fun e => by dsimp only at e; omega, by dsimp only; omega, by dsimp only; omega, he⟩ (by dsimp only; omega)
  · have g := of_decide_eq_false g
    have h0 := hk0 (by omega)
    exact hx 0 _ (hq0 (by omega))
set_option maxHeartbeats 400000 in
set_option maxRecDepth 100000 in
theorem sPFind : Sound Try.prog 59 SPFind := by
  refine sound_of (C := CPFind) [] Try.func59 (by kernel_rfl) (by decide +kernel) (by kernel_rfl) rfl trivial (loops1 (by kernel_rfl) (loopOK_of (an := anPF) (S := LPF) (by kernel_rfl) loopPFind)) ?_
  intro hargs pars R h
  unfold SPFind at h
  split at h
  case h_2 => exfalso; exact h
  rename_i s0 s1 s2 sg mk p
  obtain ⟨⟨hl, hpu⟩, _, hq⟩ := h
  refine byVC (vcPFind s0 s1 s2 p sg mk R) (fun x1 e1 => ⟨⟨rfl, rfl, ⟨by omega, by omega⟩, rfl, hl⟩, fun h0 => ?_, fun h0 => ?_⟩)
  · have e : pfind sg p = (-1, 0) := by unfold pfind; rw [if_pos h0]
    have := hq _ rfl
    rw [e] at this
    exact this
  · have e : pfind sg x1 = pfind sg p := by unfold pfind; rw [e1, show max (max p 0) 0 = max p 0 by omega]
    rw [e]
    exact hq _ rfl
set_option maxHeartbeats 400000 in
set_option maxRecDepth 100000 in
theorem sBegin : Sound Try.prog 76 SBegin := by
  refine sound_of (C := CBegin) [] Try.func76 (by kernel_rfl) (by decide +kernel) (by kernel_rfl) rfl trivial (loops0 (by kernel_rfl)) ?_
  intro hargs pars R h
  unfold SBegin at h
  split at h
  case h_2 => exfalso; exact h
  rename_i s0 s1 s2 sg mk i
  obtain ⟨⟨h1, h2⟩, hq⟩ := h
  refine byVC (vcBegin s0 s1 s2 i sg mk R) ⟨fun g => ?_, fun g => ?_⟩
  · have g := of_decide_eq_true g
    unfold bgn at hq
    rw [if_pos g, if_pos g, if_pos g] at hq
    exact hq
  · have g := of_decide_eq_false g
    unfold bgn at hq
    rw [if_neg g, if_neg g, if_neg g] at hq
    refine ⟨by omega, fun x1 e1 => ⟨by omega, ?_⟩⟩
    rw [e1]
    exact hq
set_option maxHeartbeats 400000 in
set_option maxRecDepth 100000 in
theorem sRnd : Sound Try.prog 85 SRnd := by
  refine sound_of (C := CRnd) [] Try.func85 (by kernel_rfl) (by decide +kernel) (by kernel_rfl) rfl trivial (loops0 (by kernel_rfl)) ?_
  intro hargs pars R h
  unfold SRnd at h
  split at h
  case h_2 => exfalso; exact h
  rename_i a b
  obtain ⟨⟨h1, h2, h3, h4⟩, hq⟩ := h
  refine byVC (vcRnd a b R) ⟨by omega, fun x1 e1 => ⟨by omega, fun x2 e2 => ⟨by omega, fun x3 e3 => ?_⟩⟩⟩
  have hq : R ⟨.ce (.int .i64 (x2 / x3)), false, [], []⟩ := by rw [e2, e1, e3]; exact hq
  exact floor_fin (by omega) (by omega) hq
end Go.Proofs.Ytneingpnkdeooaa
