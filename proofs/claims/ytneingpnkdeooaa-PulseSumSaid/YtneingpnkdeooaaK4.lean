/-
  Points of a path; tracks: pieces, places, motors (the program's).
  Conditions: none.
-/
import Derived.Test.YtneingpnkdeooaaK3
set_option maxRecDepth 100000
namespace U
open Go
def endp (pk : List (List Int)) (j : Nat) : Int := ec pk j 0 + ec pk j 1
/-- the pieces of a track: one behind the other, of moderate size -/
def okTrk (pk : List (List Int)) (ln : Int) : Prop :=
  pk.length ≤ 4194304 ∧ (0 ≤ ln ∧ ln ≤ 18014398509481984) ∧ (pk.length = 0 → ln = 0) ∧ (0 < pk.length → ec pk 0 0 = 0 ∧ endp pk (pk.length - 1) = ln) ∧
  (∀ j, j + 1 < pk.length → ec pk (j + 1) 0 = endp pk j) ∧ ∀ j, j < pk.length → 1 ≤ ec pk j 1 ∧ (0 ≤ ec pk j 2 ∧ ec pk j 2 ≤ 18014398509481984) ∧ (-1 ≤ ec pk j 3 ∧ ec pk j 3 ≤ 1)
def tpcA : List (List Int) → Int → Int → Int
  | [], _, _ => -1
  | r :: l, i, u => if u ≤ r.getD 0 0 + r.getD 1 0 then i else tpcA l (i + 1) u
/-- the piece of a track position -/
def tfind (pk : List (List Int)) (u : Int) : Int := tpcA pk 0 u
/-- the path position at a track position -/
def tplace (pk : List (List Int)) (sa u : Int) : Int :=
  if tfind pk u < 0 then sa else ec pk (tfind pk u).toNat 2 + ec pk (tfind pk u).toNat 3 * (u - ec pk (tfind pk u).toNat 0)
def tloose (pk : List (List Int)) (u : Int) : Bool :=
  decide (0 ≤ tfind pk u) && (ec pk (tfind pk u).toNat 3 == 0) && decide (ec pk (tfind pk u).toNat 0 < u) && decide (u < endp pk (tfind pk u).toNat)
def bsh (bl d : Int) : Int := if d = -1 then -bl else 0
def sel3 (k a b c : Int) : Int := if k = 0 then a else if k = 1 then b else c
def tsh (bl mv w d at_ u : Int) : Int := if mv ≠ 0 ∨ w = d then bsh bl d else if d = -1 then -(min (u - at_) bl) else min (u - at_) bl - bl
/-- the motor of an axis at a track position -/
def tmot (st og sg : Int) (pt : List (List Int)) (bl pos : Int) (pk : List (List Int)) (d u : Int) (c : Nat) : Int :=
  mot st og sg pt pos + (if tfind pk u < 0 then bsh bl d else tsh bl (ec pk (tfind pk u).toNat 3) (ec pk (tfind pk u).toNat (4 + c)) (ec pk (tfind pk u).toNat (7 + c)) (ec pk (tfind pk u).toNat 0) u)
def okMA (st og sg : Int) (pit : List (List Int)) (bl : Int) : Prop := (0 < st ∧ st ≤ 16777216) ∧ okC og sg pit ∧ (0 ≤ bl ∧ bl ≤ 4096)
end U
namespace Go.Proofs.Ytneingpnkdeooaa
open Go Go.HL U
def SClamp (hargs : List HV) (pars : List (List HC)) : SR :=
  match hargs, pars with
  | [.ce (.int .i64 v), .ce (.int .i64 n)], [] => .det (0 ≤ n) ⟨.ce (.int .i64 (clamp n v)), false, [], []⟩
  | _, _ => .fail
noncomputable def CClamp : Ctx := ⟨Try.prog, gam [], Try.f39.ntmps, [], []⟩
theorem vcClamp (v n : Int) (Q : Res → Prop) : (nfun true CClamp Try.f39 (bodyOf Try.f39) [.ce (.int .i64 v), .ce (.int .i64 n)] [] Q) =
    (∀ (x1 : Int), x1 = min v n → ∀ (x2 : Int), x2 = max (0 : Int) x1 → Q { val := HV.ce (HC.int IntKind.i64 x2), own := false, pars := [], news := [] }) := by kernel_rfl
def SAt (hargs : List HV) (pars : List (List HC)) : SR :=
  match hargs, pars with
  | [.agg [.int .i64 s0, .int .i64 s1, .int .i64 s2, .sl false [4, 4, 4, 4, 4, 4, 4] sg, .sl false [4, 4, 4] mk], .ce (.int .i64 p)], [] => .det (okLen sg ∧ okPts s0 s1 s2 sg ∧ p ≤ 4611686018427387904) ⟨.agg [.int .i64 (ptAt s0 sg 0 p), .int .i64 (ptAt s1 sg 1 p), .int .i64 (ptAt s2 sg 2 p)], false, [], []⟩
  | _, _ => .fail
def tabAt : List (FuncId × HL.Spec) := [(59, SPFind), (60, SMulDiv)]
noncomputable def CAt : Ctx := ⟨Try.prog, gam tabAt, Try.f40.ntmps, [(4000009, unrT [1000002, 1000004, 1000007, 1000008], fun _ => .fail)], []⟩
theorem vcAt (s0 s1 s2 p : Int) (sg mk : List (List Int)) (Q : Res → Prop) : (nfun true CAt Try.f40 (bodyOf Try.f40) [.agg [.int .i64 s0, .int .i64 s1, .int .i64 s2, .sl false [4, 4, 4, 4, 4, 4, 4] sg, .sl false [4, 4, 4] mk], .ce (.int .i64 p)] [] Q) =
    ((okLen sg ∧ p ≤ (4611686018427387904 : Int)) ∧ (∃ (x : Int × Int), x = pfind sg p) ∧ ∀ (x : Int × Int), x = pfind sg p → (decide (x.1 < (0 : Int)) = true → Q { val := HV.agg [HC.int IntKind.i64 s0, HC.int IntKind.i64 s1, HC.int IntKind.i64 s2], own := false, pars := [], news := [] }) ∧ (decide (x.1 < (0 : Int)) = false → (decide (x.1 > (0 : Int)) = true → ((-9223372036854775808 : Int) ≤ x.1 - (1 : Int) ∧ x.1 - (1 : Int) ≤ (9223372036854775807 : Int)) ∧ ∀ (x2 : Int), x2 = x.1 - (1 : Int) → ((0 : Int) ≤ x2 ∧ x2 < (((List.length sg) : Nat) : Int)) ∧ ((0 : Int) ≤ x.1 ∧ x.1 < (((List.length sg) : Nat) : Int)) ∧ ((-9223372036854775808 : Int) ≤ el sg (Int.toNat x.1) - el sg (Int.toNat x2) ∧ el sg (Int.toNat x.1) - el sg (Int.toNat x2) ≤ (9223372036854775807 : Int)) ∧ ∀ (x3 : Int), x3 = el sg (Int.toNat x.1) - el sg (Int.toNat x2) → (((-9223372036854775808 : Int) ≤ x3 ∧ x3 ≤ (9223372036854775807 : Int)) ∧
    ((-9223372036854775808 : Int) ≤ x.2 ∧ x.2 ≤ (9223372036854775807 : Int)) ∧ ((0 : Int) < ec sg (Int.toNat x.1) ((3 : Nat)) ∧ ec sg (Int.toNat x.1) ((3 : Nat)) ≤ (9223372036854775807 : Int)) ∧ ((-4611686018427387904 : Int) ≤ x3 * x.2 ∧ x3 * x.2 ≤ (4611686018427387904 : Int)) ∧ (0 : Int) ≤ (2 : Int) ∧ (2 : Int) ≤ (2 : Int)) ∧ ∀ (x4 : Int), x4 = mdv (x3 * x.2) (ec sg (Int.toNat x.1) ((3 : Nat))) (2 : Int) → ∀ (x5 : Bool), x5 = true → ((-9223372036854775808 : Int) ≤ el sg (Int.toNat x2) + x4 ∧ el sg (Int.toNat x2) + x4 ≤ (9223372036854775807 : Int)) ∧ ∀ (x6 : Int), x6 = el sg (Int.toNat x2) + x4 → ((-9223372036854775808 : Int) ≤ ec sg (Int.toNat x.1) ((1 : Nat)) - ec sg (Int.toNat x2) ((1 : Nat)) ∧ ec sg (Int.toNat x.1) ((1 : Nat)) - ec sg (Int.toNat x2) ((1 : Nat)) ≤ (9223372036854775807 : Int)) ∧ ∀ (x7 : Int), x7 = ec sg (Int.toNat x.1) ((1 : Nat)) - ec sg (Int.toNat x2) ((1 : Nat)) → (((-9223372036854775808 : Int) ≤ x7 ∧
    x7 ≤ (9223372036854775807 : Int)) ∧ ((-9223372036854775808 : Int) ≤ x.2 ∧ x.2 ≤ (9223372036854775807 : Int)) ∧ ((0 : Int) < ec sg (Int.toNat x.1) ((3 : Nat)) ∧ ec sg (Int.toNat x.1) ((3 : Nat)) ≤ (9223372036854775807 : Int)) ∧ ((-4611686018427387904 : Int) ≤ x7 * x.2 ∧ x7 * x.2 ≤ (4611686018427387904 : Int)) ∧ (0 : Int) ≤ (2 : Int) ∧ (2 : Int) ≤ (2 : Int)) ∧ ∀ (x8 : Int), x8 = mdv (x7 * x.2) (ec sg (Int.toNat x.1) ((3 : Nat))) (2 : Int) → ∀ (x9 : Bool), x9 = true → ((-9223372036854775808 : Int) ≤ ec sg (Int.toNat x2) ((1 : Nat)) + x8 ∧ ec sg (Int.toNat x2) ((1 : Nat)) + x8 ≤ (9223372036854775807 : Int)) ∧ ∀ (x10 : Int), x10 = ec sg (Int.toNat x2) ((1 : Nat)) + x8 → ((-9223372036854775808 : Int) ≤ ec sg (Int.toNat x.1) ((2 : Nat)) - ec sg (Int.toNat x2) ((2 : Nat)) ∧ ec sg (Int.toNat x.1) ((2 : Nat)) - ec sg (Int.toNat x2) ((2 : Nat)) ≤ (9223372036854775807 : Int)) ∧ ∀ (x11 : Int), x11 = ec sg (Int.toNat x.1) ((2 : Nat)) - ec sg (Int.toNat x2) ((2 : Nat)) →
    (((-9223372036854775808 : Int) ≤ x11 ∧ x11 ≤ (9223372036854775807 : Int)) ∧ ((-9223372036854775808 : Int) ≤ x.2 ∧ x.2 ≤ (9223372036854775807 : Int)) ∧ ((0 : Int) < ec sg (Int.toNat x.1) ((3 : Nat)) ∧ ec sg (Int.toNat x.1) ((3 : Nat)) ≤ (9223372036854775807 : Int)) ∧ ((-4611686018427387904 : Int) ≤ x11 * x.2 ∧ x11 * x.2 ≤ (4611686018427387904 : Int)) ∧ (0 : Int) ≤ (2 : Int) ∧ (2 : Int) ≤ (2 : Int)) ∧ ∀ (x12 : Int), x12 = mdv (x11 * x.2) (ec sg (Int.toNat x.1) ((3 : Nat))) (2 : Int) → ∀ (x13 : Bool), x13 = true → ((-9223372036854775808 : Int) ≤ ec sg (Int.toNat x2) ((2 : Nat)) + x12 ∧ ec sg (Int.toNat x2) ((2 : Nat)) + x12 ≤ (9223372036854775807 : Int)) ∧ ∀ (x14 : Int), x14 = ec sg (Int.toNat x2) ((2 : Nat)) + x12 → Q { val := HV.agg [HC.int IntKind.i64 x6, HC.int IntKind.i64 x10, HC.int IntKind.i64 x14], own := false, pars := [], news := [] }) ∧ (decide (x.1 > (0 : Int)) = false → ((0 : Int) ≤ x.1 ∧
    x.1 < (((List.length sg) : Nat) : Int)) ∧ ((-9223372036854775808 : Int) ≤ el sg (Int.toNat x.1) - s0 ∧ el sg (Int.toNat x.1) - s0 ≤ (9223372036854775807 : Int)) ∧ ∀ (x15 : Int), x15 = el sg (Int.toNat x.1) - s0 → (((-9223372036854775808 : Int) ≤ x15 ∧ x15 ≤ (9223372036854775807 : Int)) ∧ ((-9223372036854775808 : Int) ≤ x.2 ∧ x.2 ≤ (9223372036854775807 : Int)) ∧ ((0 : Int) < ec sg (Int.toNat x.1) ((3 : Nat)) ∧ ec sg (Int.toNat x.1) ((3 : Nat)) ≤ (9223372036854775807 : Int)) ∧ ((-4611686018427387904 : Int) ≤ x15 * x.2 ∧ x15 * x.2 ≤ (4611686018427387904 : Int)) ∧ (0 : Int) ≤ (2 : Int) ∧ (2 : Int) ≤ (2 : Int)) ∧ ∀ (x16 : Int), x16 = mdv (x15 * x.2) (ec sg (Int.toNat x.1) ((3 : Nat))) (2 : Int) → ∀ (x17 : Bool), x17 = true → ((-9223372036854775808 : Int) ≤ s0 + x16 ∧ s0 + x16 ≤ (9223372036854775807 : Int)) ∧ ∀ (x18 : Int), x18 = s0 + x16 → ((-9223372036854775808 : Int) ≤ ec sg (Int.toNat x.1) ((1 : Nat)) - s1 ∧
    ec sg (Int.toNat x.1) ((1 : Nat)) - s1 ≤ (9223372036854775807 : Int)) ∧ ∀ (x19 : Int), x19 = ec sg (Int.toNat x.1) ((1 : Nat)) - s1 → (((-9223372036854775808 : Int) ≤ x19 ∧ x19 ≤ (9223372036854775807 : Int)) ∧ ((-9223372036854775808 : Int) ≤ x.2 ∧ x.2 ≤ (9223372036854775807 : Int)) ∧ ((0 : Int) < ec sg (Int.toNat x.1) ((3 : Nat)) ∧ ec sg (Int.toNat x.1) ((3 : Nat)) ≤ (9223372036854775807 : Int)) ∧ ((-4611686018427387904 : Int) ≤ x19 * x.2 ∧ x19 * x.2 ≤ (4611686018427387904 : Int)) ∧ (0 : Int) ≤ (2 : Int) ∧ (2 : Int) ≤ (2 : Int)) ∧ ∀ (x20 : Int), x20 = mdv (x19 * x.2) (ec sg (Int.toNat x.1) ((3 : Nat))) (2 : Int) → ∀ (x21 : Bool), x21 = true → ((-9223372036854775808 : Int) ≤ s1 + x20 ∧ s1 + x20 ≤ (9223372036854775807 : Int)) ∧ ∀ (x22 : Int), x22 = s1 + x20 → ((-9223372036854775808 : Int) ≤ ec sg (Int.toNat x.1) ((2 : Nat)) - s2 ∧ ec sg (Int.toNat x.1) ((2 : Nat)) - s2 ≤ (9223372036854775807 : Int)) ∧
    ∀ (x23 : Int), x23 = ec sg (Int.toNat x.1) ((2 : Nat)) - s2 → (((-9223372036854775808 : Int) ≤ x23 ∧ x23 ≤ (9223372036854775807 : Int)) ∧ ((-9223372036854775808 : Int) ≤ x.2 ∧ x.2 ≤ (9223372036854775807 : Int)) ∧ ((0 : Int) < ec sg (Int.toNat x.1) ((3 : Nat)) ∧ ec sg (Int.toNat x.1) ((3 : Nat)) ≤ (9223372036854775807 : Int)) ∧ ((-4611686018427387904 : Int) ≤ x23 * x.2 ∧ x23 * x.2 ≤ (4611686018427387904 : Int)) ∧ (0 : Int) ≤ (2 : Int) ∧ (2 : Int) ≤ (2 : Int)) ∧ ∀ (x24 : Int), x24 = mdv (x23 * x.2) (ec sg (Int.toNat x.1) ((3 : Nat))) (2 : Int) → ∀ (x25 : Bool), x25 = true → ((-9223372036854775808 : Int) ≤ s2 + x24 ∧ s2 + x24 ≤ (9223372036854775807 : Int)) ∧ ∀ (x26 : Int), x26 = s2 + x24 → Q { val := HV.agg [HC.int IntKind.i64 x18, HC.int IntKind.i64 x22, HC.int IntKind.i64 x26], own := false, pars := [], news := [] }))) := by kernel_rfl
def STFind (hargs : List HV) (pars : List (List HC)) : SR :=
  match hargs, pars with
  | [.agg [.sl false [4, 4, 4, 4, 4, 4, 4, 4, 4, 4] pk, .int .i64 ln, .int .i64 sa, .int .i64 d0, .int .i64 d1, .int .i64 d2], .ce (.int .i64 u)], [] => .det (okTrk pk ln ∧ 0 ≤ u ∧ u ≤ ln) ⟨.ce (.int .i64 (tfind pk u)), false, [], []⟩
  | _, _ => .fail
def anTF : LAnn := ⟨[1, 2, 4, 5, 6], [6], [1000002], false⟩
def LTF (v : LV) : LR :=
  match v with
  | ([.ce (.int .i64 u), .ce (.ptr 1000002 0), .ce (.int .i64 z), .ce (.int .i64 lo), .ce (.int .i64 hi)], [[.sl false [4, 4, 4, 4, 4, 4, 4, 4, 4, 4] pk, .int .i64 ln, .int .i64 sa, .int .i64 d0, .int .i64 d1, .int .i64 d2]]) =>
    .det (lo = 0 ∧ hi = (pk.length : Int) - 1 ∧ okTrk pk ln ∧ 0 ≤ u ∧ u ≤ ln) (.exit 0) ([.ce (.int .i64 (tfind pk u))], [[.sl false [4, 4, 4, 4, 4, 4, 4, 4, 4, 4] pk, .int .i64 ln, .int .i64 sa, .int .i64 d0, .int .i64 d1, .int .i64 d2]])
  | _ => .fail
noncomputable def CTF : Ctx := ⟨Try.prog, gam [], Try.f41.ntmps, [(2, anTF, LTF)], []⟩
theorem vbTF (u z lo hi ln sa d0 d1 d2 : Int) (pk : List (List Int)) (K : HEx → LV → Prop) : (nbodyT true CTF anTF (nthLoop Try.f41 0) (([.ce (.int .i64 u), .ce (.ptr 1000002 0), .ce (.int .i64 z), .ce (.int .i64 lo), .ce (.int .i64 hi)], [[.sl false [4, 4, 4, 4, 4, 4, 4, 4, 4, 4] pk, .int .i64 ln, .int .i64 sa, .int .i64 d0, .int .i64 d1, .int .i64 d2]])) K) =
    ((decide (lo < hi) = true → ((-9223372036854775808 : Int) ≤ lo + hi ∧ lo + hi ≤ (9223372036854775807 : Int)) ∧ ∀ (x1 : Int), x1 = lo + hi → (2 : Int) ≠ (0 : Int) ∧ ((-9223372036854775808 : Int) ≤ Int.tdiv x1 (2 : Int) ∧ Int.tdiv x1 (2 : Int) ≤ (9223372036854775807 : Int)) ∧ ∀ (x2 : Int), x2 = Int.tdiv x1 (2 : Int) → ((0 : Int) ≤ x2 ∧ x2 < (((List.length pk) : Nat) : Int)) ∧ ((-9223372036854775808 : Int) ≤ el pk (Int.toNat x2) + ec pk (Int.toNat x2) ((1 : Nat)) ∧ el pk (Int.toNat x2) + ec pk (Int.toNat x2) ((1 : Nat)) ≤ (9223372036854775807 : Int)) ∧ ∀ (x3 : Int), x3 = el pk (Int.toNat x2) + ec pk (Int.toNat x2) ((1 : Nat)) → (decide (u ≤ x3) = true → K HEx.normal ([HV.ce (HC.int IntKind.i64 u), HV.ce (HC.ptr (1000002 : Nat) (0 : Nat)), HV.ce (HC.int IntKind.i64 z), HV.ce (HC.int IntKind.i64 lo), HV.ce (HC.int IntKind.i64 x2)], [[HC.sl false [(4 : Nat), (4 : Nat), (4 : Nat), (4 : Nat), (4 : Nat), (4 : Nat), (4 : Nat), (4 : Nat), (4 : Nat), (4 : Nat)] pk, HC.int IntKind.i64 ln, HC.int IntKind.i64 sa, HC.int IntKind.i64 d0, HC.int IntKind.i64 d1, HC.int IntKind.i64 d2]])) ∧
    (decide (u ≤ x3) = false → ((-9223372036854775808 : Int) ≤ x2 + (1 : Int) ∧ x2 + (1 : Int) ≤ (9223372036854775807 : Int)) ∧ ∀ (x4 : Int), x4 = x2 + (1 : Int) → K HEx.normal ([HV.ce (HC.int IntKind.i64 u), HV.ce (HC.ptr (1000002 : Nat) (0 : Nat)), HV.ce (HC.int IntKind.i64 z), HV.ce (HC.int IntKind.i64 x4), HV.ce (HC.int IntKind.i64 hi)], [[HC.sl false [(4 : Nat), (4 : Nat), (4 : Nat), (4 : Nat), (4 : Nat), (4 : Nat), (4 : Nat), (4 : Nat), (4 : Nat), (4 : Nat)] pk, HC.int IntKind.i64 ln, HC.int IntKind.i64 sa, HC.int IntKind.i64 d0, HC.int IntKind.i64 d1, HC.int IntKind.i64 d2]]))) ∧ (decide (lo < hi) = false → K (HEx.exit (0 : Nat)) ([HV.ce (HC.int IntKind.i64 hi)], [[HC.sl false [(4 : Nat), (4 : Nat), (4 : Nat), (4 : Nat), (4 : Nat), (4 : Nat), (4 : Nat), (4 : Nat), (4 : Nat), (4 : Nat)] pk, HC.int IntKind.i64 ln, HC.int IntKind.i64 sa, HC.int IntKind.i64 d0, HC.int IntKind.i64 d1, HC.int IntKind.i64 d2]]))) := by kernel_rfl
theorem vcTF (u ln sa d0 d1 d2 : Int) (pk : List (List Int)) (Q : Res → Prop) : (nfun true CTF Try.f41 (bodyOf Try.f41) [.agg [.sl false [4, 4, 4, 4, 4, 4, 4, 4, 4, 4] pk, .int .i64 ln, .int .i64 sa, .int .i64 d0, .int .i64 d1, .int .i64 d2], .ce (.int .i64 u)] [] Q) =
    (((-9223372036854775808 : Int) ≤ (((List.length pk) : Nat) : Int) - (1 : Int) ∧ (((List.length pk) : Nat) : Int) - (1 : Int) ≤ (9223372036854775807 : Int)) ∧ ∀ (x1 : Int), x1 = (((List.length pk) : Nat) : Int) - (1 : Int) → ((0 : Int) = (0 : Int) ∧ x1 = (((List.length pk) : Nat) : Int) - (1 : Int) ∧ okTrk pk ln ∧ (0 : Int) ≤ u ∧ u ≤ ln) ∧ Q { val := HV.ce (HC.int IntKind.i64 (tfind pk u)), own := false, pars := [], news := [] }) := by kernel_rfl
def SPlace (hargs : List HV) (pars : List (List HC)) : SR :=
  match hargs, pars with
  | [.agg [.sl false [4, 4, 4, 4, 4, 4, 4, 4, 4, 4] pk, .int .i64 ln, .int .i64 sa, .int .i64 d0, .int .i64 d1, .int .i64 d2], .ce (.int .i64 u)], [] => .det (okTrk pk ln) ⟨.ce (.int .i64 (tplace pk sa (clamp ln u))), false, [], []⟩
  | _, _ => .fail
def SLoose (hargs : List HV) (pars : List (List HC)) : SR :=
  match hargs, pars with
  | [.agg [.sl false [4, 4, 4, 4, 4, 4, 4, 4, 4, 4] pk, .int .i64 ln, .int .i64 sa, .int .i64 d0, .int .i64 d1, .int .i64 d2], .ce (.int .i64 u)], [] => .det (okTrk pk ln) ⟨.ce (.bool (tloose pk (clamp ln u))), false, [], []⟩
  | _, _ => .fail
def tabTF : List (FuncId × HL.Spec) := [(39, SClamp), (41, STFind)]
noncomputable def CPlace : Ctx := ⟨Try.prog, gam tabTF, Try.f33.ntmps, [], []⟩
noncomputable def CLoose : Ctx := ⟨Try.prog, gam tabTF, Try.f31.ntmps, [], []⟩
theorem vcPlace (u ln sa d0 d1 d2 : Int) (pk : List (List Int)) (Q : Res → Prop) : (nfun true CPlace Try.f33 (bodyOf Try.f33) [.agg [.sl false [4, 4, 4, 4, 4, 4, 4, 4, 4, 4] pk, .int .i64 ln, .int .i64 sa, .int .i64 d0, .int .i64 d1, .int .i64 d2], .ce (.int .i64 u)] [] Q) =
    ((0 : Int) ≤ ln ∧ ∀ (x1 : Int), x1 = clamp ln u → (okTrk pk ln ∧ (0 : Int) ≤ x1 ∧ x1 ≤ ln) ∧ ∀ (x2 : Int), x2 = tfind pk x1 → (decide (x2 < (0 : Int)) = true → Q { val := HV.ce (HC.int IntKind.i64 sa), own := false, pars := [], news := [] }) ∧ (decide (x2 < (0 : Int)) = false → ((0 : Int) ≤ x2 ∧ x2 < (((List.length pk) : Nat) : Int)) ∧ ∀ (x3 : Int), x3 = ec pk (Int.toNat x2) ((2 : Nat)) → ((0 : Int) ≤ x2 ∧ x2 < (((List.length pk) : Nat) : Int)) ∧ ∀ (x4 : Int), x4 = ec pk (Int.toNat x2) ((3 : Nat)) → ((0 : Int) ≤ x2 ∧ x2 < (((List.length pk) : Nat) : Int)) ∧ ∀ (x5 : Int), x5 = el pk (Int.toNat x2) → ((-9223372036854775808 : Int) ≤ x1 - x5 ∧ x1 - x5 ≤ (9223372036854775807 : Int)) ∧ ∀ (x6 : Int), x6 = x1 - x5 → ((-9223372036854775808 : Int) ≤ x4 * x6 ∧ x4 * x6 ≤ (9223372036854775807 : Int)) ∧ ∀ (x7 : Int), x7 = x4 * x6 → ((-9223372036854775808 : Int) ≤ x3 + x7 ∧ x3 + x7 ≤ (9223372036854775807 : Int)) ∧
    ∀ (x8 : Int), x8 = x3 + x7 → Q { val := HV.ce (HC.int IntKind.i64 x8), own := false, pars := [], news := [] })) := by kernel_rfl
theorem vcLoose (u ln sa d0 d1 d2 : Int) (pk : List (List Int)) (Q : Res → Prop) : (nfun true CLoose Try.f31 (bodyOf Try.f31) [.agg [.sl false [4, 4, 4, 4, 4, 4, 4, 4, 4, 4] pk, .int .i64 ln, .int .i64 sa, .int .i64 d0, .int .i64 d1, .int .i64 d2], .ce (.int .i64 u)] [] Q) =
    ((0 : Int) ≤ ln ∧ ∀ (x1 : Int), x1 = clamp ln u → (okTrk pk ln ∧ (0 : Int) ≤ x1 ∧ x1 ≤ ln) ∧ ∀ (x2 : Int), x2 = tfind pk x1 → (decide (x2 < (0 : Int)) = true → Q { val := HV.ce (HC.bool false), own := false, pars := [], news := [] }) ∧ (decide (x2 < (0 : Int)) = false → ((0 : Int) ≤ x2 ∧ x2 < (((List.length pk) : Nat) : Int)) ∧ ((ec pk (Int.toNat x2) ((3 : Nat)) == (0 : Int)) = true → (decide (el pk (Int.toNat x2) < x1) = true → ((-9223372036854775808 : Int) ≤ el pk (Int.toNat x2) + ec pk (Int.toNat x2) ((1 : Nat)) ∧ el pk (Int.toNat x2) + ec pk (Int.toNat x2) ((1 : Nat)) ≤ (9223372036854775807 : Int)) ∧ ∀ (x3 : Int), x3 = el pk (Int.toNat x2) + ec pk (Int.toNat x2) ((1 : Nat)) → Q { val := HV.ce (HC.bool (decide (x1 < x3))), own := false, pars := [], news := [] }) ∧ (decide (el pk (Int.toNat x2) < x1) = false → Q { val := HV.ce (HC.bool false), own := false, pars := [], news := [] })) ∧ ((ec pk (Int.toNat x2) ((3 : Nat)) == (0 : Int)) = false →
    Q { val := HV.ce (HC.bool false), own := false, pars := [], news := [] }))) := by kernel_rfl
def SBsh (hargs : List HV) (pars : List (List HC)) : SR :=
  match hargs, pars with
  | [.agg [.int .i64 sta, .int .i64 spa, .int .i64 aca, .int .i64 jea, .int .i64 loa, .int .i64 hia, .int .i64 bla, .int .i64 oga, .int .i64 sga, .sl false [4] pta], .ce (.int .i64 d)], [] => .det (0 ≤ bla ∧ bla ≤ 4096) ⟨.ce (.int .i64 (bsh bla d)), false, [], []⟩
  | _, _ => .fail
noncomputable def CBsh : Ctx := ⟨Try.prog, gam [], Try.f43.ntmps, [], []⟩
theorem vcBsh (sta spa aca jea loa hia bla oga sga : Int) (pta : List (List Int)) (d : Int) (Q : Res → Prop) : (nfun true CBsh Try.f43 (bodyOf Try.f43) [.agg [.int .i64 sta, .int .i64 spa, .int .i64 aca, .int .i64 jea, .int .i64 loa, .int .i64 hia, .int .i64 bla, .int .i64 oga, .int .i64 sga, .sl false [4] pta], .ce (.int .i64 d)] [] Q) =
    (((d == (-1 : Int)) = true → ((-9223372036854775808 : Int) ≤ (0 : Int) - bla ∧ (0 : Int) - bla ≤ (9223372036854775807 : Int)) ∧ ∀ (x1 : Int), x1 = (0 : Int) - bla → Q { val := HV.ce (HC.int IntKind.i64 x1), own := false, pars := [], news := [] }) ∧ ((d == (-1 : Int)) = false → Q { val := HV.ce (HC.int IntKind.i64 (0 : Int)), own := false, pars := [], news := [] })) := by kernel_rfl
def STsh (hargs : List HV) (pars : List (List HC)) : SR :=
  match hargs, pars with
  | [.agg [.int .i64 sta, .int .i64 spa, .int .i64 aca, .int .i64 jea, .int .i64 loa, .int .i64 hia, .int .i64 bla, .int .i64 oga, .int .i64 sga, .sl false [4] pta], .agg [.int .i64 q0, .int .i64 q1, .int .i64 q2, .int .i64 q3, .int .i64 q4, .int .i64 q5, .int .i64 q6, .int .i64 q7, .int .i64 q8, .int .i64 q9], .ce (.int .i64 k), .ce (.int .i64 u)], [] =>
    .det ((0 ≤ k ∧ k ≤ 2) ∧ (0 ≤ bla ∧ bla ≤ 4096) ∧ (-18014398509481984 ≤ u ∧ u ≤ 18014398509481984) ∧ (-18014398509481984 ≤ q0 ∧ q0 ≤ 18014398509481984)) ⟨.ce (.int .i64 (tsh bla q3 (sel3 k q4 q5 q6) (sel3 k q7 q8 q9) q0 u)), false, [], []⟩
  | _, _ => .fail
def tabTsh : List (FuncId × HL.Spec) := [(43, SBsh)]
noncomputable def CTsh : Ctx := ⟨Try.prog, gam tabTsh, Try.f44.ntmps, [], [spl 1 2 6 0]⟩
theorem vcTsh (sta spa aca jea loa hia bla oga sga : Int) (pta : List (List Int)) (q0 q1 q2 q3 q4 q5 q6 q7 q8 q9 k u : Int) (Q : Res → Prop) : (nfun true CTsh Try.f44 (bodyOf Try.f44) [.agg [.int .i64 sta, .int .i64 spa, .int .i64 aca, .int .i64 jea, .int .i64 loa, .int .i64 hia, .int .i64 bla, .int .i64 oga, .int .i64 sga, .sl false [4] pta], .agg [.int .i64 q0, .int .i64 q1, .int .i64 q2, .int .i64 q3, .int .i64 q4, .int .i64 q5, .int .i64 q6, .int .i64 q7, .int .i64 q8, .int .i64 q9], .ce (.int .i64 k), .ce (.int .i64 u)] [] Q) =
    ((k = (0 : Int) → ((q3 != (0 : Int)) = true → ((0 : Int) ≤ bla ∧ bla ≤ (4096 : Int)) ∧ ∀ (x1 : Int), x1 = bsh bla q7 → Q { val := HV.ce (HC.int IntKind.i64 x1), own := false, pars := [], news := [] }) ∧ ((q3 != (0 : Int)) = false → ((q4 == q7) = true → ((0 : Int) ≤ bla ∧ bla ≤ (4096 : Int)) ∧ ∀ (x2 : Int), x2 = bsh bla q7 → Q { val := HV.ce (HC.int IntKind.i64 x2), own := false, pars := [], news := [] }) ∧ ((q4 == q7) = false → ((-9223372036854775808 : Int) ≤ u - q0 ∧ u - q0 ≤ (9223372036854775807 : Int)) ∧ ∀ (x3 : Int), x3 = u - q0 → ∀ (x4 : Int), x4 = min x3 bla → ((q7 == (-1 : Int)) = true → ((-9223372036854775808 : Int) ≤ (0 : Int) - x4 ∧ (0 : Int) - x4 ≤ (9223372036854775807 : Int)) ∧ ∀ (x5 : Int), x5 = (0 : Int) - x4 → Q { val := HV.ce (HC.int IntKind.i64 x5), own := false, pars := [], news := [] }) ∧ ((q7 == (-1 : Int)) = false → ((-9223372036854775808 : Int) ≤ x4 - bla ∧ x4 - bla ≤ (9223372036854775807 : Int)) ∧
    ∀ (x6 : Int), x6 = x4 - bla → Q { val := HV.ce (HC.int IntKind.i64 x6), own := false, pars := [], news := [] })))) ∧ (k ≠ (0 : Int) → (k = (1 : Int) → ((q3 != (0 : Int)) = true → ((0 : Int) ≤ bla ∧ bla ≤ (4096 : Int)) ∧ ∀ (x7 : Int), x7 = bsh bla q8 → Q { val := HV.ce (HC.int IntKind.i64 x7), own := false, pars := [], news := [] }) ∧ ((q3 != (0 : Int)) = false → ((q5 == q8) = true → ((0 : Int) ≤ bla ∧ bla ≤ (4096 : Int)) ∧ ∀ (x8 : Int), x8 = bsh bla q8 → Q { val := HV.ce (HC.int IntKind.i64 x8), own := false, pars := [], news := [] }) ∧ ((q5 == q8) = false → ((-9223372036854775808 : Int) ≤ u - q0 ∧ u - q0 ≤ (9223372036854775807 : Int)) ∧ ∀ (x9 : Int), x9 = u - q0 → ∀ (x10 : Int), x10 = min x9 bla → ((q8 == (-1 : Int)) = true → ((-9223372036854775808 : Int) ≤ (0 : Int) - x10 ∧ (0 : Int) - x10 ≤ (9223372036854775807 : Int)) ∧ ∀ (x11 : Int), x11 = (0 : Int) - x10 → Q { val := HV.ce (HC.int IntKind.i64 x11), own := false, pars := [], news := [] }) ∧
    ((q8 == (-1 : Int)) = false → ((-9223372036854775808 : Int) ≤ x10 - bla ∧ x10 - bla ≤ (9223372036854775807 : Int)) ∧ ∀ (x12 : Int), x12 = x10 - bla → Q { val := HV.ce (HC.int IntKind.i64 x12), own := false, pars := [], news := [] })))) ∧ (k ≠ (1 : Int) → (k = (2 : Int) → ((q3 != (0 : Int)) = true → ((0 : Int) ≤ bla ∧ bla ≤ (4096 : Int)) ∧ ∀ (x13 : Int), x13 = bsh bla q9 → Q { val := HV.ce (HC.int IntKind.i64 x13), own := false, pars := [], news := [] }) ∧ ((q3 != (0 : Int)) = false → ((q6 == q9) = true → ((0 : Int) ≤ bla ∧ bla ≤ (4096 : Int)) ∧ ∀ (x14 : Int), x14 = bsh bla q9 → Q { val := HV.ce (HC.int IntKind.i64 x14), own := false, pars := [], news := [] }) ∧ ((q6 == q9) = false → ((-9223372036854775808 : Int) ≤ u - q0 ∧ u - q0 ≤ (9223372036854775807 : Int)) ∧ ∀ (x15 : Int), x15 = u - q0 → ∀ (x16 : Int), x16 = min x15 bla → ((q9 == (-1 : Int)) = true → ((-9223372036854775808 : Int) ≤ (0 : Int) - x16 ∧
    (0 : Int) - x16 ≤ (9223372036854775807 : Int)) ∧ ∀ (x17 : Int), x17 = (0 : Int) - x16 → Q { val := HV.ce (HC.int IntKind.i64 x17), own := false, pars := [], news := [] }) ∧ ((q9 == (-1 : Int)) = false → ((-9223372036854775808 : Int) ≤ x16 - bla ∧ x16 - bla ≤ (9223372036854775807 : Int)) ∧ ∀ (x18 : Int), x18 = x16 - bla → Q { val := HV.ce (HC.int IntKind.i64 x18), own := false, pars := [], news := [] })))) ∧ (k ≠ (2 : Int) → False)))) := by kernel_rfl
def SMotors (hargs : List HV) (pars : List (List HC)) : SR :=
  match hargs, pars with
  | [.agg [.int .i64 s0, .int .i64 s1, .int .i64 s2, .sl false [4, 4, 4, 4, 4, 4, 4] sg, .sl false [4, 4, 4] mk], .agg ax, .agg [.sl false [4, 4, 4, 4, 4, 4, 4, 4, 4, 4] pk, .int .i64 ln, .int .i64 sa, .int .i64 d0, .int .i64 d1, .int .i64 d2], .ce (.int .i64 u)], [] =>
    match ax with
    | [.int .i64 sta, .int .i64 spa, .int .i64 aca, .int .i64 jea, .int .i64 loa, .int .i64 hia, .int .i64 bla, .int .i64 oga, .int .i64 sga, .sl false [4] pta, .int .i64 stb, .int .i64 spb, .int .i64 acb, .int .i64 jeb, .int .i64 lob, .int .i64 hib, .int .i64 blb, .int .i64 ogb, .int .i64 sgb, .sl false [4] ptb, .int .i64 stc, .int .i64 spc, .int .i64 acc, .int .i64 jec, .int .i64 loc, .int .i64 hic, .int .i64 blc, .int .i64 ogc, .int .i64 sgc, .sl false [4] ptc] =>
      .det (okLen sg ∧ okPts s0 s1 s2 sg ∧ okTrk pk ln ∧ okMA sta oga sga pta bla ∧ okMA stb ogb sgb ptb blb ∧ okMA stc ogc sgc ptc blc ∧ (0 ≤ sa ∧ sa ≤ 18014398509481984))
        ⟨.agg [.int .i64 (tmot sta oga sga pta bla (ptAt s0 sg 0 (tplace pk sa (clamp ln u))) pk d0 (clamp ln u) 0), .int .i64 (tmot stb ogb sgb ptb blb (ptAt s1 sg 1 (tplace pk sa (clamp ln u))) pk d1 (clamp ln u) 1), .int .i64 (tmot stc ogc sgc ptc blc (ptAt s2 sg 2 (tplace pk sa (clamp ln u))) pk d2 (clamp ln u) 2)], false, [], []⟩
    | _ => .fail
  | _, _ => .fail
def tabMotors : List (FuncId × HL.Spec) := [(39, SClamp), (33, SPlace), (40, SAt), (41, STFind), (42, SMotor), (43, SBsh), (44, STsh)]
noncomputable def CMotors : Ctx := ⟨Try.prog, gam tabMotors, Try.f21.ntmps, [(4000006, unrT [1000004, 1000005, 1000006, 1000008, 1000009, 1000011], fun _ => .fail)], []⟩
theorem vcMotors (s0 s1 s2 u ln sa d0 d1 d2 : Int) (sg mk pk : List (List Int)) (sta spa aca jea loa hia bla oga sga stb spb acb jeb lob hib blb ogb sgb stc spc acc jec loc hic blc ogc sgc : Int) (pta ptb ptc : List (List Int)) (Q : Res → Prop) : (nfun true CMotors Try.f21 (bodyOf Try.f21) [.agg [.int .i64 s0, .int .i64 s1, .int .i64 s2, .sl false [4, 4, 4, 4, 4, 4, 4] sg, .sl false [4, 4, 4] mk], .agg [.int .i64 sta, .int .i64 spa, .int .i64 aca, .int .i64 jea, .int .i64 loa, .int .i64 hia, .int .i64 bla, .int .i64 oga, .int .i64 sga, .sl false [4] pta, .int .i64 stb, .int .i64 spb, .int .i64 acb, .int .i64 jeb, .int .i64 lob, .int .i64 hib, .int .i64 blb, .int .i64 ogb, .int .i64 sgb, .sl false [4] ptb, .int .i64 stc, .int .i64 spc, .int .i64 acc, .int .i64 jec, .int .i64 loc, .int .i64 hic, .int .i64 blc, .int .i64 ogc, .int .i64 sgc, .sl false [4] ptc], .agg [.sl false [4, 4, 4, 4, 4, 4, 4, 4, 4, 4] pk, .int .i64 ln, .int .i64 sa, .int .i64 d0, .int .i64 d1, .int .i64 d2], .ce (.int .i64 u)] [] Q) =
    ((0 : Int) ≤ ln ∧ ∀ (x1 : Int), x1 = clamp ln u → okTrk pk ln ∧ ∀ (x2 : Int), x2 = tplace pk sa (clamp ln x1) → (okLen sg ∧ okPts s0 s1 s2 sg ∧ x2 ≤ (4611686018427387904 : Int)) ∧ ∀ (x3 : Int), x3 = ptAt s0 sg (0 : Nat) x2 → ∀ (x4 : Int), x4 = ptAt s1 sg (1 : Nat) x2 → ∀ (x5 : Int), x5 = ptAt s2 sg (2 : Nat) x2 → (okTrk pk ln ∧ (0 : Int) ≤ x1 ∧ x1 ≤ ln) ∧ ∀ (x6 : Int), x6 = tfind pk x1 → (((0 : Int) < sta ∧ sta ≤ (16777216 : Int)) ∧ okC oga sga pta ∧ (-1073741824 : Int) ≤ x3 ∧ x3 ≤ (1073741824 : Int)) ∧ ∀ (x7 : Int), x7 = mot sta oga sga pta x3 → (decide (x6 < (0 : Int)) = true → ((0 : Int) ≤ bla ∧ bla ≤ (4096 : Int)) ∧ ∀ (x8 : Int), x8 = bsh bla d0 → ((-9223372036854775808 : Int) ≤ x7 + x8 ∧ x7 + x8 ≤ (9223372036854775807 : Int)) ∧ ∀ (x9 : Int), x9 = x7 + x8 → (((0 : Int) < stb ∧ stb ≤ (16777216 : Int)) ∧ okC ogb sgb ptb ∧ (-1073741824 : Int) ≤ x4 ∧ x4 ≤ (1073741824 : Int)) ∧ ∀ (x10 : Int), x10 = mot stb ogb sgb ptb x4 →
    (decide (x6 < (0 : Int)) = true → ((0 : Int) ≤ blb ∧ blb ≤ (4096 : Int)) ∧ ∀ (x11 : Int), x11 = bsh blb d1 → ((-9223372036854775808 : Int) ≤ x10 + x11 ∧ x10 + x11 ≤ (9223372036854775807 : Int)) ∧ ∀ (x12 : Int), x12 = x10 + x11 → (((0 : Int) < stc ∧ stc ≤ (16777216 : Int)) ∧ okC ogc sgc ptc ∧ (-1073741824 : Int) ≤ x5 ∧ x5 ≤ (1073741824 : Int)) ∧ ∀ (x13 : Int), x13 = mot stc ogc sgc ptc x5 → (decide (x6 < (0 : Int)) = true → ((0 : Int) ≤ blc ∧ blc ≤ (4096 : Int)) ∧ ∀ (x14 : Int), x14 = bsh blc d2 → ((-9223372036854775808 : Int) ≤ x13 + x14 ∧ x13 + x14 ≤ (9223372036854775807 : Int)) ∧ ∀ (x15 : Int), x15 = x13 + x14 → Q { val := HV.agg [HC.int IntKind.i64 x9, HC.int IntKind.i64 x12, HC.int IntKind.i64 x15], own := false, pars := [], news := [] }) ∧ (decide (x6 < (0 : Int)) = false → ((0 : Int) ≤ x6 ∧ x6 < (((List.length pk) : Nat) : Int)) ∧ (((0 : Int) ≤ (2 : Int) ∧ (2 : Int) ≤ (2 : Int)) ∧ ((0 : Int) ≤ blc ∧
    blc ≤ (4096 : Int)) ∧ ((-18014398509481984 : Int) ≤ x1 ∧ x1 ≤ (18014398509481984 : Int)) ∧ (-18014398509481984 : Int) ≤ el pk (Int.toNat x6) ∧ el pk (Int.toNat x6) ≤ (18014398509481984 : Int)) ∧ ∀ (x16 : Int), x16 = tsh blc (ec pk (Int.toNat x6) ((3 : Nat))) (sel3 (2 : Int) (ec pk (Int.toNat x6) ((4 : Nat))) (ec pk (Int.toNat x6) ((5 : Nat))) (ec pk (Int.toNat x6) ((6 : Nat)))) (sel3 (2 : Int) (ec pk (Int.toNat x6) ((7 : Nat))) (ec pk (Int.toNat x6) ((8 : Nat))) (ec pk (Int.toNat x6) ((9 : Nat)))) (el pk (Int.toNat x6)) x1 → ((-9223372036854775808 : Int) ≤ x13 + x16 ∧ x13 + x16 ≤ (9223372036854775807 : Int)) ∧ ∀ (x17 : Int), x17 = x13 + x16 → Q { val := HV.agg [HC.int IntKind.i64 x9, HC.int IntKind.i64 x12, HC.int IntKind.i64 x17], own := false, pars := [], news := [] })) ∧ (decide (x6 < (0 : Int)) = false → ((0 : Int) ≤ x6 ∧ x6 < (((List.length pk) : Nat) : Int)) ∧ (((0 : Int) ≤ (1 : Int) ∧
    (1 : Int) ≤ (2 : Int)) ∧ ((0 : Int) ≤ blb ∧ blb ≤ (4096 : Int)) ∧ ((-18014398509481984 : Int) ≤ x1 ∧ x1 ≤ (18014398509481984 : Int)) ∧ (-18014398509481984 : Int) ≤ el pk (Int.toNat x6) ∧ el pk (Int.toNat x6) ≤ (18014398509481984 : Int)) ∧ ∀ (x18 : Int), x18 = tsh blb (ec pk (Int.toNat x6) ((3 : Nat))) (sel3 (1 : Int) (ec pk (Int.toNat x6) ((4 : Nat))) (ec pk (Int.toNat x6) ((5 : Nat))) (ec pk (Int.toNat x6) ((6 : Nat)))) (sel3 (1 : Int) (ec pk (Int.toNat x6) ((7 : Nat))) (ec pk (Int.toNat x6) ((8 : Nat))) (ec pk (Int.toNat x6) ((9 : Nat)))) (el pk (Int.toNat x6)) x1 → ((-9223372036854775808 : Int) ≤ x10 + x18 ∧ x10 + x18 ≤ (9223372036854775807 : Int)) ∧ ∀ (x19 : Int), x19 = x10 + x18 → (((0 : Int) < stc ∧ stc ≤ (16777216 : Int)) ∧ okC ogc sgc ptc ∧ (-1073741824 : Int) ≤ x5 ∧ x5 ≤ (1073741824 : Int)) ∧ ∀ (x20 : Int), x20 = mot stc ogc sgc ptc x5 → (decide (x6 < (0 : Int)) = true → ((0 : Int) ≤ blc ∧
    blc ≤ (4096 : Int)) ∧ ∀ (x21 : Int), x21 = bsh blc d2 → ((-9223372036854775808 : Int) ≤ x20 + x21 ∧ x20 + x21 ≤ (9223372036854775807 : Int)) ∧ ∀ (x22 : Int), x22 = x20 + x21 → Q { val := HV.agg [HC.int IntKind.i64 x9, HC.int IntKind.i64 x19, HC.int IntKind.i64 x22], own := false, pars := [], news := [] }) ∧ (decide (x6 < (0 : Int)) = false → ((0 : Int) ≤ x6 ∧ x6 < (((List.length pk) : Nat) : Int)) ∧ (((0 : Int) ≤ (2 : Int) ∧ (2 : Int) ≤ (2 : Int)) ∧ ((0 : Int) ≤ blc ∧ blc ≤ (4096 : Int)) ∧ ((-18014398509481984 : Int) ≤ x1 ∧ x1 ≤ (18014398509481984 : Int)) ∧ (-18014398509481984 : Int) ≤ el pk (Int.toNat x6) ∧ el pk (Int.toNat x6) ≤ (18014398509481984 : Int)) ∧ ∀ (x23 : Int), x23 = tsh blc (ec pk (Int.toNat x6) ((3 : Nat))) (sel3 (2 : Int) (ec pk (Int.toNat x6) ((4 : Nat))) (ec pk (Int.toNat x6) ((5 : Nat))) (ec pk (Int.toNat x6) ((6 : Nat)))) (sel3 (2 : Int) (ec pk (Int.toNat x6) ((7 : Nat))) (ec pk (Int.toNat x6) ((8 : Nat))) (ec pk (Int.toNat x6) ((9 : Nat)))) (el pk (Int.toNat x6)) x1 →
    ((-9223372036854775808 : Int) ≤ x20 + x23 ∧ x20 + x23 ≤ (9223372036854775807 : Int)) ∧ ∀ (x24 : Int), x24 = x20 + x23 → Q { val := HV.agg [HC.int IntKind.i64 x9, HC.int IntKind.i64 x19, HC.int IntKind.i64 x24], own := false, pars := [], news := [] }))) ∧ (decide (x6 < (0 : Int)) = false → ((0 : Int) ≤ x6 ∧ x6 < (((List.length pk) : Nat) : Int)) ∧ (((0 : Int) ≤ (0 : Int) ∧ (0 : Int) ≤ (2 : Int)) ∧ ((0 : Int) ≤ bla ∧ bla ≤ (4096 : Int)) ∧ ((-18014398509481984 : Int) ≤ x1 ∧ x1 ≤ (18014398509481984 : Int)) ∧ (-18014398509481984 : Int) ≤ el pk (Int.toNat x6) ∧ el pk (Int.toNat x6) ≤ (18014398509481984 : Int)) ∧ ∀ (x25 : Int), x25 = tsh bla (ec pk (Int.toNat x6) ((3 : Nat))) (sel3 (0 : Int) (ec pk (Int.toNat x6) ((4 : Nat))) (ec pk (Int.toNat x6) ((5 : Nat))) (ec pk (Int.toNat x6) ((6 : Nat)))) (sel3 (0 : Int) (ec pk (Int.toNat x6) ((7 : Nat))) (ec pk (Int.toNat x6) ((8 : Nat))) (ec pk (Int.toNat x6) ((9 : Nat)))) (el pk (Int.toNat x6)) x1 →
    ((-9223372036854775808 : Int) ≤ x7 + x25 ∧ x7 + x25 ≤ (9223372036854775807 : Int)) ∧ ∀ (x26 : Int), x26 = x7 + x25 → (((0 : Int) < stb ∧ stb ≤ (16777216 : Int)) ∧ okC ogb sgb ptb ∧ (-1073741824 : Int) ≤ x4 ∧ x4 ≤ (1073741824 : Int)) ∧ ∀ (x27 : Int), x27 = mot stb ogb sgb ptb x4 → (decide (x6 < (0 : Int)) = true → ((0 : Int) ≤ blb ∧ blb ≤ (4096 : Int)) ∧ ∀ (x28 : Int), x28 = bsh blb d1 → ((-9223372036854775808 : Int) ≤ x27 + x28 ∧ x27 + x28 ≤ (9223372036854775807 : Int)) ∧ ∀ (x29 : Int), x29 = x27 + x28 → (((0 : Int) < stc ∧ stc ≤ (16777216 : Int)) ∧ okC ogc sgc ptc ∧ (-1073741824 : Int) ≤ x5 ∧ x5 ≤ (1073741824 : Int)) ∧ ∀ (x30 : Int), x30 = mot stc ogc sgc ptc x5 → (decide (x6 < (0 : Int)) = true → ((0 : Int) ≤ blc ∧ blc ≤ (4096 : Int)) ∧ ∀ (x31 : Int), x31 = bsh blc d2 → ((-9223372036854775808 : Int) ≤ x30 + x31 ∧ x30 + x31 ≤ (9223372036854775807 : Int)) ∧ ∀ (x32 : Int), x32 = x30 + x31 →
    Q { val := HV.agg [HC.int IntKind.i64 x26, HC.int IntKind.i64 x29, HC.int IntKind.i64 x32], own := false, pars := [], news := [] }) ∧ (decide (x6 < (0 : Int)) = false → ((0 : Int) ≤ x6 ∧ x6 < (((List.length pk) : Nat) : Int)) ∧ (((0 : Int) ≤ (2 : Int) ∧ (2 : Int) ≤ (2 : Int)) ∧ ((0 : Int) ≤ blc ∧ blc ≤ (4096 : Int)) ∧ ((-18014398509481984 : Int) ≤ x1 ∧ x1 ≤ (18014398509481984 : Int)) ∧ (-18014398509481984 : Int) ≤ el pk (Int.toNat x6) ∧ el pk (Int.toNat x6) ≤ (18014398509481984 : Int)) ∧ ∀ (x33 : Int), x33 = tsh blc (ec pk (Int.toNat x6) ((3 : Nat))) (sel3 (2 : Int) (ec pk (Int.toNat x6) ((4 : Nat))) (ec pk (Int.toNat x6) ((5 : Nat))) (ec pk (Int.toNat x6) ((6 : Nat)))) (sel3 (2 : Int) (ec pk (Int.toNat x6) ((7 : Nat))) (ec pk (Int.toNat x6) ((8 : Nat))) (ec pk (Int.toNat x6) ((9 : Nat)))) (el pk (Int.toNat x6)) x1 → ((-9223372036854775808 : Int) ≤ x30 + x33 ∧ x30 + x33 ≤ (9223372036854775807 : Int)) ∧
    ∀ (x34 : Int), x34 = x30 + x33 → Q { val := HV.agg [HC.int IntKind.i64 x26, HC.int IntKind.i64 x29, HC.int IntKind.i64 x34], own := false, pars := [], news := [] })) ∧ (decide (x6 < (0 : Int)) = false → ((0 : Int) ≤ x6 ∧ x6 < (((List.length pk) : Nat) : Int)) ∧ (((0 : Int) ≤ (1 : Int) ∧ (1 : Int) ≤ (2 : Int)) ∧ ((0 : Int) ≤ blb ∧ blb ≤ (4096 : Int)) ∧ ((-18014398509481984 : Int) ≤ x1 ∧ x1 ≤ (18014398509481984 : Int)) ∧ (-18014398509481984 : Int) ≤ el pk (Int.toNat x6) ∧ el pk (Int.toNat x6) ≤ (18014398509481984 : Int)) ∧ ∀ (x35 : Int), x35 = tsh blb (ec pk (Int.toNat x6) ((3 : Nat))) (sel3 (1 : Int) (ec pk (Int.toNat x6) ((4 : Nat))) (ec pk (Int.toNat x6) ((5 : Nat))) (ec pk (Int.toNat x6) ((6 : Nat)))) (sel3 (1 : Int) (ec pk (Int.toNat x6) ((7 : Nat))) (ec pk (Int.toNat x6) ((8 : Nat))) (ec pk (Int.toNat x6) ((9 : Nat)))) (el pk (Int.toNat x6)) x1 → ((-9223372036854775808 : Int) ≤ x27 + x35 ∧
    x27 + x35 ≤ (9223372036854775807 : Int)) ∧ ∀ (x36 : Int), x36 = x27 + x35 → (((0 : Int) < stc ∧ stc ≤ (16777216 : Int)) ∧ okC ogc sgc ptc ∧ (-1073741824 : Int) ≤ x5 ∧ x5 ≤ (1073741824 : Int)) ∧ ∀ (x37 : Int), x37 = mot stc ogc sgc ptc x5 → (decide (x6 < (0 : Int)) = true → ((0 : Int) ≤ blc ∧ blc ≤ (4096 : Int)) ∧ ∀ (x38 : Int), x38 = bsh blc d2 → ((-9223372036854775808 : Int) ≤ x37 + x38 ∧ x37 + x38 ≤ (9223372036854775807 : Int)) ∧ ∀ (x39 : Int), x39 = x37 + x38 → Q { val := HV.agg [HC.int IntKind.i64 x26, HC.int IntKind.i64 x36, HC.int IntKind.i64 x39], own := false, pars := [], news := [] }) ∧ (decide (x6 < (0 : Int)) = false → ((0 : Int) ≤ x6 ∧ x6 < (((List.length pk) : Nat) : Int)) ∧ (((0 : Int) ≤ (2 : Int) ∧ (2 : Int) ≤ (2 : Int)) ∧ ((0 : Int) ≤ blc ∧ blc ≤ (4096 : Int)) ∧ ((-18014398509481984 : Int) ≤ x1 ∧ x1 ≤ (18014398509481984 : Int)) ∧ (-18014398509481984 : Int) ≤ el pk (Int.toNat x6) ∧
    el pk (Int.toNat x6) ≤ (18014398509481984 : Int)) ∧ ∀ (x40 : Int), x40 = tsh blc (ec pk (Int.toNat x6) ((3 : Nat))) (sel3 (2 : Int) (ec pk (Int.toNat x6) ((4 : Nat))) (ec pk (Int.toNat x6) ((5 : Nat))) (ec pk (Int.toNat x6) ((6 : Nat)))) (sel3 (2 : Int) (ec pk (Int.toNat x6) ((7 : Nat))) (ec pk (Int.toNat x6) ((8 : Nat))) (ec pk (Int.toNat x6) ((9 : Nat)))) (el pk (Int.toNat x6)) x1 → ((-9223372036854775808 : Int) ≤ x37 + x40 ∧ x37 + x40 ≤ (9223372036854775807 : Int)) ∧ ∀ (x41 : Int), x41 = x37 + x40 → Q { val := HV.agg [HC.int IntKind.i64 x26, HC.int IntKind.i64 x36, HC.int IntKind.i64 x41], own := false, pars := [], news := [] })))) := by kernel_rfl
end Go.Proofs.Ytneingpnkdeooaa
namespace U
theorem lfA_spec : ∀ (l : List (List Int)) (i s : Int), 0 ≤ s → (lfA l i s).1 = -1 ∨ ∃ j : Nat, j < l.length ∧ (lfA l i s).1 = i + j ∧ 0 ≤ (lfA l i s).2 ∧ (lfA l i s).2 < ec l j 3
  | [], i, s, _ => .inl rfl
  | r :: l, i, s, hs => by
    unfold lfA
    by_cases h : s < r.getD 3 0
    · rw [if_pos h]
      exact .inr ⟨0, by simp, by simp, hs, h⟩
    · rw [if_neg h]
      rcases lfA_spec l (i + 1) (s - r.getD 3 0) (by omega) with h1 | ⟨j, h1, h2, h3, h4⟩
      · exact .inl h1
      · exact .inr ⟨j + 1, by simp; exact h1, by rw [h2]; omega, h3, h4⟩
theorem pfind_spec {sg : List (List Int)} (h : okLen sg) (p : Int) : (sg.length = 0 ∧ pfind sg p = (-1, 0)) ∨ ∃ j : Nat, j < sg.length ∧ (pfind sg p).1 = j ∧ 0 ≤ (pfind sg p).2 ∧ (pfind sg p).2 ≤ ec sg j 3 := by
  unfold pfind
  by_cases h0 : sg.length = 0
  · rw [if_pos h0]; exact .inl ⟨h0, rfl⟩
  · rw [if_neg h0]
    right
    by_cases h1 : 0 ≤ (lfA sg 0 (max p 0)).1
    · rw [if_pos h1]
      rcases lfA_spec sg 0 (max p 0) (by omega) with h2 | ⟨j, h2, h3, h4, h5⟩
      · omega
      · exact ⟨j, h2, by omega, h4, by omega⟩
    · rw [if_neg h1]
      have := h.2 (sg.length - 1) (by omega)
      exact ⟨sg.length - 1, by omega, by dsimp only; omega, by dsimp only; omega, Int.le_refl _⟩
theorem rnd_hull {a d L : Int} (hd : 0 ≤ d ∧ d ≤ L) (hL : 0 < L) : (0 ≤ a → 0 ≤ rnd (a * d) L ∧ rnd (a * d) L ≤ a) ∧ (a ≤ 0 → a ≤ rnd (a * d) L ∧ rnd (a * d) L ≤ 0) := by
  unfold rnd
  refine ⟨fun ha => ?_, fun ha => ?_⟩
  · have h1 := Int.mul_nonneg ha hd.1
    have h2 : a * d ≤ a * L := Int.mul_le_mul_of_nonneg_left hd.2 ha
    refine ⟨Int.ediv_nonneg (by omega) (by omega), Int.lt_add_one_iff.1 (Int.ediv_lt_of_lt_mul (by omega) ?_)⟩
    have : (a + 1) * (2 * L) = 2 * (a * L) + 2 * L := by grind
    omega
  · have h1 : a * d ≤ 0 := Int.mul_nonpos_of_nonpos_of_nonneg ha hd.1
    have h2 : a * L ≤ a * d := Int.mul_le_mul_of_nonpos_left ha hd.2
    refine ⟨Int.le_ediv_of_mul_le (by omega) ?_, Int.lt_add_one_iff.1 (Int.ediv_lt_of_lt_mul (by omega) (by omega))⟩
    have : a * (2 * L) = 2 * (a * L) := by grind
    omega
theorem mul_bd3 {a d : Int} (ha : -1073741824 ≤ a ∧ a ≤ 1073741824) (hd : 0 ≤ d ∧ d ≤ 4294967296) : -4611686018427387904 ≤ a * d ∧ a * d ≤ 4611686018427387904 := by
  have := mul_bd2 (a := a) (b := d) (A := 1073741824) (B := 4294967296) ha hd
  omega
/-- what is known of one coordinate at a position -/
theorem coord_bd {s : Int} {sg : List (List Int)} {c : Nat} {j : Nat} {d : Int} (hl : okLen sg) (h0 : -536870912 ≤ s ∧ s ≤ 536870912) (h : ∀ j, j < sg.length → -536870912 ≤ ec sg j c ∧ ec sg j c ≤ 536870912) (hj : j < sg.length) (hd : 0 ≤ d ∧ d ≤ ec sg j 3) :
    (-1073741824 ≤ ec sg j c - bgn s sg c j ∧ ec sg j c - bgn s sg c j ≤ 1073741824) ∧ (-4611686018427387904 ≤ (ec sg j c - bgn s sg c j) * d ∧ (ec sg j c - bgn s sg c j) * d ≤ 4611686018427387904) ∧
    (-536870912 ≤ bgn s sg c j + rnd ((ec sg j c - bgn s sg c j) * d) (ec sg j 3) ∧ bgn s sg c j + rnd ((ec sg j c - bgn s sg c j) * d) (ec sg j 3) ≤ 536870912) := by
  have b := bgn_bd (i := (j : Int)) h0 h (by omega)
  have e := h j hj
  have len := hl.2 j hj
  have m := mul_bd3 (a := ec sg j c - bgn s sg c j) (d := d) (by omega) (by omega)
  have hu := rnd_hull (a := ec sg j c - bgn s sg c j) hd (by omega)
  refine ⟨by omega, m, ?_⟩
  by_cases hs : 0 ≤ ec sg j c - bgn s sg c j
  · have := hu.1 hs; omega
  · have := hu.2 (by omega); omega
theorem ptAt_bd {s : Int} {sg : List (List Int)} {c : Nat} (hl : okLen sg) (h0 : -536870912 ≤ s ∧ s ≤ 536870912) (h : ∀ j, j < sg.length → -536870912 ≤ ec sg j c ∧ ec sg j c ≤ 536870912) (p : Int) : -536870912 ≤ ptAt s sg c p ∧ ptAt s sg c p ≤ 536870912 := by
  unfold ptAt
  rcases pfind_spec hl p with ⟨h1, h2⟩ | ⟨j, h1, h2, h3, h4⟩
  · rw [h2]; exact h0
  · rw [if_neg (by omega), h2]
    exact (coord_bd hl h0 h h1 ⟨h3, h4⟩).2.2
theorem clamp_bd {n v : Int} (h : 0 ≤ n) : 0 ≤ clamp n v ∧ clamp n v ≤ n := by unfold clamp; omega
theorem clamp_idem {n v : Int} (h : 0 ≤ n) : clamp n (clamp n v) = clamp n v := by unfold clamp; omega
theorem clamp_in {n v : Int} (h : 0 ≤ v ∧ v ≤ n) : clamp n v = v := by unfold clamp; omega
theorem tpcA_of (u : Int) : ∀ (l : List (List Int)) (i : Int) (j : Nat), j < l.length → u ≤ endp l j → (∀ k, k < j → endp l k < u) → tpcA l i u = i + j
  | [], i, j, h, _, _ => absurd h (Nat.not_lt_zero _)
  | r :: l, i, 0, _, h, _ => by
    unfold tpcA
    have h : u ≤ r.getD 0 0 + r.getD 1 0 := h
    rw [if_pos h]; simp
  | r :: l, i, j + 1, hj, h, hk => by
    unfold tpcA
    have h0 := hk 0 (by omega)
    have h0 : r.getD 0 0 + r.getD 1 0 < u := h0
    rw [if_neg (by omega), tpcA_of u l (i + 1) j (by simpa using hj) h (fun k hk' => hk (k + 1) (by omega))]
    omega
theorem tpcA_spec (u : Int) : ∀ (l : List (List Int)) (i : Int), (tpcA l i u = -1 ∧ ∀ j, j < l.length → endp l j < u) ∨ ∃ j : Nat, j < l.length ∧ tpcA l i u = i + j ∧ u ≤ endp l j ∧ ∀ k, k < j → endp l k < u
  | [], i => .inl ⟨rfl, fun j hj => absurd hj (Nat.not_lt_zero _)⟩
  | r :: l, i => by
    unfold tpcA
    by_cases h : u ≤ r.getD 0 0 + r.getD 1 0
    · rw [if_pos h]
      exact .inr ⟨0, by simp, by simp, h, fun k hk => absurd hk (Nat.not_lt_zero _)⟩
    · rw [if_neg h]
      have h0 : endp (r :: l) 0 < u := by show r.getD 0 0 + r.getD 1 0 < u; omega
      rcases tpcA_spec u l (i + 1) with ⟨h1, h2⟩ | ⟨j, h1, h2, h3, h4⟩
      · refine .inl ⟨h1, fun j hj => ?_⟩
        cases j with
        | zero => exact h0
        | succ j => exact h2 j (by simpa using hj)
      · refine .inr ⟨j + 1, by simp; exact h1, by rw [h2]; omega, h3, fun k hk => ?_⟩
        cases k with
        | zero => exact h0
        | succ k => exact h4 k (by omega)
theorem tfind_of {pk : List (List Int)} {u : Int} {j : Nat} (h : j < pk.length) (h1 : u ≤ endp pk j) (h2 : ∀ k, k < j → endp pk k < u) : tfind pk u = j := by
  unfold tfind; rw [tpcA_of u pk 0 j h h1 h2]; omega
theorem endp_step {pk : List (List Int)} {ln : Int} (h : okTrk pk ln) {j : Nat} (hj : j + 1 < pk.length) : endp pk j < endp pk (j + 1) := by
  obtain ⟨_, _, _, _, h5, h6⟩ := h
  have a := h5 j hj
  have b := (h6 (j + 1) hj).1
  unfold endp at *
  omega
theorem endp_mono {pk : List (List Int)} {ln : Int} (h : okTrk pk ln) {i : Nat} : ∀ k : Nat, i + k < pk.length → endp pk i ≤ endp pk (i + k)
  | 0, _ => Int.le_refl _
  | k + 1, hk => by
    have h1 := endp_mono h (i := i) k (by omega)
    have h2 := endp_step h (j := i + k) (by omega)
    have : i + (k + 1) = i + k + 1 := rfl
    rw [this]; omega
theorem endp_le {pk : List (List Int)} {ln : Int} (h : okTrk pk ln) {i j : Nat} (hij : i ≤ j) (hj : j < pk.length) : endp pk i ≤ endp pk j := by
  have := endp_mono h (i := i) (j - i) (by omega)
  rw [show i + (j - i) = j by omega] at this
  exact this
theorem at_bd {pk : List (List Int)} {ln : Int} (h : okTrk pk ln) {j : Nat} (hj : j < pk.length) : 0 ≤ ec pk j 0 ∧ ec pk j 0 < endp pk j ∧ endp pk j ≤ ln := by
  have hu := (h.2.2.2.2.2 j hj).1
  have h4 := h.2.2.2.1 (by omega)
  have hl := endp_le h (i := j) (j := pk.length - 1) (by omega) (by omega)
  have e : endp pk j = ec pk j 0 + ec pk j 1 := rfl
  refine ⟨?_, by omega, by omega⟩
  cases j with
  | zero => omega
  | succ i =>
    have h5 := h.2.2.2.2.1 i hj
    have h0 := endp_le h (i := 0) (j := i) (by omega) (by omega)
    have hu0 := (h.2.2.2.2.2 0 (by omega)).1
    have e0 : endp pk 0 = ec pk 0 0 + ec pk 0 1 := rfl
    omega
theorem tfind_spec {pk : List (List Int)} {ln u : Int} (h : okTrk pk ln) (hu : u ≤ ln) : (pk.length = 0 ∧ tfind pk u = -1) ∨ ∃ j : Nat, j < pk.length ∧ tfind pk u = j ∧ u ≤ endp pk j ∧ ∀ k, k < j → endp pk k < u := by
  unfold tfind
  rcases tpcA_spec u pk 0 with ⟨h1, h2⟩ | ⟨j, h1, h2, h3, h4⟩
  · left
    refine ⟨?_, h1⟩
    by_cases h0 : pk.length = 0
    · exact h0
    · have a := h2 (pk.length - 1) (by omega)
      have b := h.2.2.2.1 (by omega)
      omega
  · exact .inr ⟨j, h1, by omega, h3, h4⟩
theorem mul3 {m x B : Int} (hm : -1 ≤ m ∧ m ≤ 1) (hx : -B ≤ x ∧ x ≤ B) : -B ≤ m * x ∧ m * x ≤ B := by
  have : m = -1 ∨ m = 0 ∨ m = 1 := by omega
  rcases this with rfl | rfl | rfl <;> omega
theorem tplace_bd {pk : List (List Int)} {ln sa u : Int} (h : okTrk pk ln) (hsa : 0 ≤ sa ∧ sa ≤ 18014398509481984) (hu : 0 ≤ u ∧ u ≤ ln) : -36028797018963968 ≤ tplace pk sa u ∧ tplace pk sa u ≤ 36028797018963968 := by
  unfold tplace
  rcases tfind_spec h hu.2 with ⟨h1, h2⟩ | ⟨j, h1, h2, h3, h4⟩
  · rw [h2, if_pos (by decide)]; omega
  · rw [if_neg (by omega), h2]
    have hj : ((j : Int)).toNat = j := rfl
    rw [hj]
    have a := at_bd h h1
    have b := h.2.2.2.2.2 j h1
    have hl := h.2.1
    have c := mul3 (x := u - ec pk j 0) (B := 18014398509481984) b.2.2 (by omega)
    omega
end U
namespace Go.Proofs.Ytneingpnkdeooaa
open Go Go.HL U
attribute [local irreducible] hfun bodyT fragT
set_option maxHeartbeats 400000 in
set_option maxRecDepth 100000 in
theorem sClamp : Sound Try.prog 39 SClamp := by
  refine sound_of (C := CClamp) [] Try.func39 (by kernel_rfl) (by decide +kernel) (by kernel_rfl) rfl trivial (loops0 (by kernel_rfl)) ?_
  intro hargs pars R h
  unfold SClamp at h
  split at h
  case h_2 => exfalso; exact h
  rename_i v n
  refine byVC (vcClamp v n R) ?_
  rintro _ rfl x2 e2
  have := h.1
  have e : clamp n v = x2 := by unfold clamp; omega
  rw [← e]; exact h.2
theorem loopTF : ∀ v Q, (LTF v).wp Q → hloop CTF anTF (nthLoop Try.f41 0) v Q := by
  intro v Q h
  unfold LTF at h
  split at h
  case h_2 => exact h.elim
  rename_i u z lo hi pk ln sa d0 d1 d2
  obtain ⟨⟨hlo, hhi, ht, hu0, hu1⟩, hq⟩ := h
  subst hlo hhi
  refine hloop_rec (σ := Int × Int) (fun s => ([.ce (.int .i64 u), .ce (.ptr 1000002 0), .ce (.int .i64 z), .ce (.int .i64 s.1), .ce (.int .i64 s.2)], [[.sl false [4, 4, 4, 4, 4, 4, 4, 4, 4, 4] pk, .int .i64 ln, .int .i64 sa, .int .i64 d0, .int .i64 d1, .int .i64 d2]]))
    (fun s => (s.2 - s.1).toNat) (fun s => (pk.length = 0 ∧ s = (0, -1)) ∨ ((0 ≤ s.1 ∧ s.1 ≤ s.2 ∧ s.2 < pk.length) ∧ u ≤ endp pk s.2.toNat ∧ ∀ k : Nat, (k : Int) < s.1 → endp pk k < u)) ?_ (0, (pk.length : Int) - 1) ?_
  · rintro ⟨lo, hi⟩ hI K hn hx _
    dsimp only at hI hn ⊢
    have hl1 := ht.1
    refine byVB (vbTF u z lo hi ln sa d0 d1 d2 pk K) ⟨fun g => ?_, fun g => ?_⟩
    · have g := of_decide_eq_true g
      rcases hI with ⟨h1, h2⟩ | ⟨⟨h1, h2, h3⟩, h4, h5⟩
      · cases h2; omega
      refine ⟨by omega, fun x1 e1 => ⟨by decide, ?_⟩⟩
      have hd : x1.tdiv 2 = x1 / 2 := Int.tdiv_eq_ediv_of_nonneg (by omega)
      rw [hd]
      refine ⟨by omega, fun x2 e2 => ⟨by omega, ?_⟩⟩
      have hb := at_bd ht (j := x2.toNat) (by omega)
      have hln := ht.2.1
      have ee : el pk x2.toNat + ec pk x2.toNat 1 = endp pk x2.toNat := rfl
      rw [ee]
      refine ⟨by omega, fun x3 e3 => ⟨fun g2 => ?_, fun g2 => ⟨by omega, fun x4 e4 => ?_⟩⟩⟩
      · have g2 := of_decide_eq_true g2
        exact hn (lo, x2) (.inr ⟨⟨h1, by dsimp only; omega, by dsimp only; omega⟩, by dsimp only; omega, h5⟩) (by dsimp only; omega)
      · have g2 := of_decide_eq_false g2
        refine hn (x4, hi) (.inr ⟨⟨by dsimp only; omega, by dsimp only; omega, h3⟩, h4, fun k hk => ?_⟩) (by dsimp only; omega)
        have := endp_le ht (i := k) (j := x2.toNat) (by dsimp only at hk; omega) (by omega)
        omega
    · have g := of_decide_eq_false g
      have e : tfind pk u = hi := by
        rcases hI with ⟨h1, h2⟩ | ⟨⟨h1, h2, h3⟩, h4, h5⟩
        · cases h2
          have : pk = [] := List.eq_nil_of_length_eq_zero h1
          subst this; rfl
        · have := tfind_of (pk := pk) (u := u) (j := hi.toNat) (by omega) h4 (fun k hk => h5 k (by omega))
          omega
      rw [e] at hq
      exact hx 0 _ hq
  · by_cases h0 : pk.length = 0
    · exact .inl ⟨h0, by rw [h0]; rfl⟩
    · have h4 := ht.2.2.2.1 (by omega)
      refine .inr ⟨⟨Int.le_refl _, by dsimp only; omega, by dsimp only; omega⟩, ?_, fun k hk => by dsimp only at hk; omega⟩
      dsimp only
      rw [show ((pk.length : Int) - 1).toNat = pk.length - 1 by omega]
      omega
set_option maxHeartbeats 400000 in
set_option maxRecDepth 100000 in
theorem sTFind : Sound Try.prog 41 STFind := by
  refine sound_of (C := CTF) [] Try.func41 (by kernel_rfl) (by decide +kernel) (by kernel_rfl) rfl trivial (loops1 (by kernel_rfl) (loopOK_of (an := anTF) (S := LTF) (by kernel_rfl) loopTF)) ?_
  intro hargs pars R h
  unfold STFind at h
  split at h
  case h_2 => exfalso; exact h
  rename_i pk ln sa d0 d1 d2 u
  obtain ⟨⟨h1, h2, h3⟩, hq⟩ := h
  have := h1.1
  exact byVC (vcTF u ln sa d0 d1 d2 pk R) ⟨by omega, fun x1 e1 => ⟨⟨rfl, e1, h1, h2, h3⟩, hq⟩⟩
set_option maxHeartbeats 400000 in
set_option maxRecDepth 100000 in
theorem sPlace : Sound Try.prog 33 SPlace := by
  refine sound_of (C := CPlace) tabTF Try.func33 (by kernel_rfl) (by decide +kernel) (by kernel_rfl) rfl ⟨sClamp, sTFind, trivial⟩ (loops0 (by kernel_rfl)) ?_
  intro hargs pars R h
  unfold SPlace at h
  split at h
  case h_2 => exfalso; exact h
  rename_i pk ln sa d0 d1 d2 u
  obtain ⟨ht, hq⟩ := h
  have hl := ht.2.1
  have hc := clamp_bd (v := u) hl.1
  unfold tplace at hq
  refine byVC (vcPlace u ln sa d0 d1 d2 pk R) ⟨hl.1, fun x1 e1 => ?_⟩
  rw [← e1] at hq hc
  refine ⟨⟨ht, hc⟩, fun x2 e2 => ?_⟩
  rw [← e2] at hq
  refine ⟨fun g => ?_, fun g => ?_⟩
  · rw [if_pos (of_decide_eq_true g)] at hq; exact hq
  · have g := of_decide_eq_false g
    rw [if_neg g] at hq
    rcases tfind_spec ht hc.2 with ⟨h1, h2⟩ | ⟨j, h1, h2, h3, h4⟩
    · omega
    have hj : x2.toNat = j := by omega
    have a := at_bd ht h1
    have b := ht.2.2.2.2.2 j h1
    rw [hj] at hq ⊢
    refine ⟨by omega, fun x3 e3 => ⟨by omega, fun x4 e4 => ⟨by omega, fun x5 e5 => ?_⟩⟩⟩
    have e5 : x5 = ec pk j 0 := e5
    have c := mul3 (m := x4) (x := x1 - x5) (B := 18014398509481984) (by omega) (by omega)
    refine ⟨by omega, fun x6 e6 => ?_⟩
    rw [← e6] at c
    refine ⟨by omega, fun x7 e7 => ⟨by omega, fun x8 e8 => ?_⟩⟩
    rw [e8, e7, e6, e5, e4, e3]
    exact hq
set_option maxHeartbeats 400000 in
set_option maxRecDepth 100000 in
theorem sLoose : Sound Try.prog 31 SLoose := by
  refine sound_of (C := CLoose) tabTF Try.func31 (by kernel_rfl) (by decide +kernel) (by kernel_rfl) rfl ⟨sClamp, sTFind, trivial⟩ (loops0 (by kernel_rfl)) ?_
  intro hargs pars R h
  unfold SLoose at h
  split at h
  case h_2 => exfalso; exact h
  rename_i pk ln sa d0 d1 d2 u
  obtain ⟨ht, hq⟩ := h
  have hl := ht.2.1
  have hc := clamp_bd (v := u) hl.1
  unfold tloose at hq
  refine byVC (vcLoose u ln sa d0 d1 d2 pk R) ⟨hl.1, fun x1 e1 => ?_⟩
  rw [← e1] at hq hc
  refine ⟨⟨ht, hc⟩, fun x2 e2 => ?_⟩
  rw [← e2] at hq
  refine ⟨fun g => ?_, fun g => ?_⟩
  · have g := of_decide_eq_true g
    rw [decide_eq_false (by omega)] at hq; exact hq
  · have g := of_decide_eq_false g
    rw [decide_eq_true (by omega)] at hq
    rcases tfind_spec ht hc.2 with ⟨h1, h2⟩ | ⟨j, h1, h2, h3, h4⟩
    · omega
    have hj : x2.toNat = j := by omega
    have a := at_bd ht h1
    rw [hj] at hq ⊢
    refine ⟨by omega, fun g2 => ⟨fun g3 => ⟨?_, fun x3 e3 => ?_⟩, fun g3 => ?_⟩, fun g2 => ?_⟩
    · show -9223372036854775808 ≤ endp pk j ∧ endp pk j ≤ 9223372036854775807
      omega
    · have e3 : x3 = endp pk j := e3
      have g3 : decide (ec pk j 0 < x1) = true := g3
      rw [g2, g3, ← e3] at hq; exact hq
    · have g3 : decide (ec pk j 0 < x1) = false := g3
      rw [g3, Bool.and_false] at hq; exact hq
    · rw [g2] at hq; exact hq
set_option maxHeartbeats 400000 in
set_option maxRecDepth 100000 in
theorem sBsh : Sound Try.prog 43 SBsh := by
  refine sound_of (C := CBsh) [] Try.func43 (by kernel_rfl) (by decide +kernel) (by kernel_rfl) rfl trivial (loops0 (by kernel_rfl)) ?_
  intro hargs pars R h
  unfold SBsh at h
  split at h
  case h_2 => exfalso; exact h
  rename_i sta spa aca jea loa hia bla oga sga pta d
  obtain ⟨h1, hq⟩ := h
  unfold bsh at hq
  refine byVC (vcBsh sta spa aca jea loa hia bla oga sga pta d R) ⟨fun g => ⟨by omega, fun x1 e1 => ?_⟩, fun g => ?_⟩
  · rw [if_pos (by simpa using g)] at hq
    rw [show x1 = -bla by omega]; exact hq
  · rw [if_neg (by simpa using g)] at hq; exact hq
theorem mdv2 (n c : Int) : mdv n c 2 = rnd n c := by unfold mdv rnd; simp
set_option maxHeartbeats 400000 in
set_option maxRecDepth 100000 in
theorem sAt : Sound Try.prog 40 SAt := by
  refine sound_of (C := CAt) tabAt Try.func40 (by kernel_rfl) (by decide +kernel) (by kernel_rfl) rfl ⟨sPFind, sMulDiv, trivial⟩ (loopsAll (by kernel_rfl)) ?_
  intro hargs pars R h
  unfold SAt at h
  split at h
  case h_2 => exfalso; exact h
  rename_i s0 s1 s2 sg mk p
  obtain ⟨⟨hl, ⟨k0, k1, k2, kk⟩, hp⟩, hq⟩ := h
  unfold ptAt at hq
  refine byVC (vcAt s0 s1 s2 p sg mk R) ⟨⟨hl, hp⟩, ⟨_, rfl⟩, fun x ex => ?_⟩
  have sp := pfind_spec hl p
  rw [← ex] at sp hq
  rcases sp with ⟨h1, h2⟩ | ⟨j, h1, h2, h3, h4⟩
  · rw [h2] at hq ⊢
    exact ⟨fun _ => hq, fun g => absurd g (by decide)⟩
  rw [if_neg (by omega), if_neg (by omega), if_neg (by omega), h2] at hq
  have hj : ((j : Int)).toNat = j := rfl
  rw [hj] at hq
  have hlen := hl.2 j h1
  have hl1 := hl.1
  have c0 := coord_bd hl k0 (fun j hj => (kk j hj).1) h1 ⟨h3, h4⟩
  have c1 := coord_bd hl k1 (fun j hj => (kk j hj).2.1) h1 ⟨h3, h4⟩
  have c2 := coord_bd hl k2 (fun j hj => (kk j hj).2.2) h1 ⟨h3, h4⟩
  have hx1 : x.1.toNat = j := by omega
  rw [hx1]
  refine ⟨fun g => ?_, fun g => ⟨fun g2 => ?_, fun g2 => ?_⟩⟩
  · have g := of_decide_eq_true g; omega
  · have g2 := of_decide_eq_true g2
    refine ⟨by omega, fun x2 e2 => ⟨by omega, by omega, ?_⟩⟩
    have hx2 : x2.toNat = j - 1 := by omega
    rw [hx2]
    have b : ∀ s c, bgn s sg c (j : Int) = ec sg (j - 1) c := fun s c => by
      unfold bgn; rw [if_neg (by omega), show ((j : Int) - 1).toNat = j - 1 by omega]
    rw [b, b, b] at hq
    rw [b] at c0 c1 c2
    have c0 : (-1073741824 ≤ el sg j - el sg (j - 1) ∧ el sg j - el sg (j - 1) ≤ 1073741824) ∧ (-4611686018427387904 ≤ (el sg j - el sg (j - 1)) * x.2 ∧ (el sg j - el sg (j - 1)) * x.2 ≤ 4611686018427387904) ∧
        (-536870912 ≤ el sg (j - 1) + rnd ((el sg j - el sg (j - 1)) * x.2) (ec sg j 3) ∧ el sg (j - 1) + rnd ((el sg j - el sg (j - 1)) * x.2) (ec sg j 3) ≤ 536870912) := c0
    refine ⟨by omega, ?_⟩
    rintro _ rfl
    refine ⟨⟨by omega, by omega, by omega, c0.2.1, by decide, by decide⟩, ?_⟩
    rw [mdv2]
    rintro _ rfl _ _
    refine ⟨by omega, ?_⟩
    rintro _ rfl
    refine ⟨by omega, ?_⟩
    rintro _ rfl
    refine ⟨⟨by omega, by omega, by omega, c1.2.1, by decide, by decide⟩, ?_⟩
    rw [mdv2]
    rintro _ rfl _ _
    refine ⟨by omega, ?_⟩
    rintro _ rfl
    refine ⟨by omega, ?_⟩
    rintro _ rfl
    refine ⟨⟨by omega, by omega, by omega, c2.2.1, by decide, by decide⟩, ?_⟩
    rw [mdv2]
    rintro _ rfl _ _
    refine ⟨by omega, ?_⟩
    rintro _ rfl
    exact hq
  · have g2 := of_decide_eq_false g2
    refine ⟨by omega, ?_⟩
    have b : ∀ s c, bgn s sg c (j : Int) = s := fun s c => by
      unfold bgn; rw [if_pos (by omega)]
    rw [b, b, b] at hq
    rw [b] at c0 c1 c2
    have c0 : (-1073741824 ≤ el sg j - s0 ∧ el sg j - s0 ≤ 1073741824) ∧ (-4611686018427387904 ≤ (el sg j - s0) * x.2 ∧ (el sg j - s0) * x.2 ≤ 4611686018427387904) ∧
        (-536870912 ≤ s0 + rnd ((el sg j - s0) * x.2) (ec sg j 3) ∧ s0 + rnd ((el sg j - s0) * x.2) (ec sg j 3) ≤ 536870912) := c0
    refine ⟨by omega, ?_⟩
    rintro _ rfl
    refine ⟨⟨by omega, by omega, by omega, c0.2.1, by decide, by decide⟩, ?_⟩
    rw [mdv2]
    rintro _ rfl _ _
    refine ⟨by omega, ?_⟩
    rintro _ rfl
    refine ⟨by omega, ?_⟩
    rintro _ rfl
    refine ⟨⟨by omega, by omega, by omega, c1.2.1, by decide, by decide⟩, ?_⟩
    rw [mdv2]
    rintro _ rfl _ _
    refine ⟨by omega, ?_⟩
    rintro _ rfl
    refine ⟨by omega, ?_⟩
    rintro _ rfl
    refine ⟨⟨by omega, by omega, by omega, c2.2.1, by decide, by decide⟩, ?_⟩
    rw [mdv2]
    rintro _ rfl _ _
    refine ⟨by omega, ?_⟩
    rintro _ rfl
    exact hq
theorem tsh_fin {bl mv w d at_ u : Int} {R : Res → Prop} (hb : 0 ≤ bl ∧ bl ≤ 4096) (hu : -18014398509481984 ≤ u ∧ u ≤ 18014398509481984) (ha : -18014398509481984 ≤ at_ ∧ at_ ≤ 18014398509481984) (hq : R ⟨.ce (.int .i64 (tsh bl mv w d at_ u)), false, [], []⟩) :
    ((mv != 0) = true → (0 ≤ bl ∧ bl ≤ 4096) ∧ ∀ x1 : Int, x1 = bsh bl d → R ⟨.ce (.int .i64 x1), false, [], []⟩) ∧
    ((mv != 0) = false → ((w == d) = true → (0 ≤ bl ∧ bl ≤ 4096) ∧ ∀ x2 : Int, x2 = bsh bl d → R ⟨.ce (.int .i64 x2), false, [], []⟩) ∧
      ((w == d) = false → (-9223372036854775808 ≤ u - at_ ∧ u - at_ ≤ 9223372036854775807) ∧ ∀ x3 : Int, x3 = u - at_ → ∀ x4 : Int, x4 = min x3 bl →
        ((d == -1) = true → (-9223372036854775808 ≤ 0 - x4 ∧ 0 - x4 ≤ 9223372036854775807) ∧ ∀ x5 : Int, x5 = 0 - x4 → R ⟨.ce (.int .i64 x5), false, [], []⟩) ∧
        ((d == -1) = false → (-9223372036854775808 ≤ x4 - bl ∧ x4 - bl ≤ 9223372036854775807) ∧ ∀ x6 : Int, x6 = x4 - bl → R ⟨.ce (.int .i64 x6), false, [], []⟩))) := by
  unfold tsh at hq
  refine ⟨fun g => ⟨hb, fun x e => ?_⟩, fun g => ⟨fun g2 => ⟨hb, fun x e => ?_⟩, fun g2 => ⟨by omega, fun x3 e3 x4 e4 => ⟨fun g3 => ⟨by omega, fun x e => ?_⟩, fun g3 => ⟨by omega, fun x e => ?_⟩⟩⟩⟩⟩
  · have g : mv ≠ 0 := by simpa using g
    rw [if_pos (.inl g)] at hq; rw [e]; exact hq
  · have g2 : w = d := by simpa using g2
    rw [if_pos (.inr g2)] at hq; rw [e]; exact hq
  · have g : mv = 0 := by simpa using g
    have g2 : w ≠ d := by simpa using g2
    have g3 : d = -1 := by simpa using g3
    rw [if_neg (by intro hh; rcases hh with h | h; exact h g; exact g2 h), if_pos g3] at hq
    rw [show x = -(min (u - at_) bl) by omega]; exact hq
  · have g : mv = 0 := by simpa using g
    have g2 : w ≠ d := by simpa using g2
    have g3 : d ≠ -1 := by simpa using g3
    rw [if_neg (by intro hh; rcases hh with h | h; exact h g; exact g2 h), if_neg g3] at hq
    rw [show x = min (u - at_) bl - bl by omega]; exact hq
set_option maxHeartbeats 400000 in
set_option maxRecDepth 100000 in
theorem sTsh : Sound Try.prog 44 STsh := by
  refine sound_of (C := CTsh) tabTsh Try.func44 (by kernel_rfl) (by decide +kernel) (by kernel_rfl) rfl ⟨sBsh, trivial⟩ (loops0 (by kernel_rfl)) ?_
  intro hargs pars R h
  unfold STsh at h
  split at h
  case h_2 => exfalso; exact h
  rename_i sta spa aca jea loa hia bla oga sga pta q0 q1 q2 q3 q4 q5 q6 q7 q8 q9 k u
  obtain ⟨⟨hk, hb, hu, ha⟩, hq⟩ := h
  refine byVC (vcTsh sta spa aca jea loa hia bla oga sga pta q0 q1 q2 q3 q4 q5 q6 q7 q8 q9 k u R) ⟨fun e => ?_, fun e => ⟨fun e2 => ?_, fun e2 => ⟨fun e3 => ?_, fun e3 => by omega⟩⟩⟩
  · subst e; exact tsh_fin hb hu ha hq
  · subst e2; exact tsh_fin hb hu ha hq
  · subst e3; exact tsh_fin hb hu ha hq
theorem bsh_bd {bl d : Int} (h : 0 ≤ bl ∧ bl ≤ 4096) : -4096 ≤ bsh bl d ∧ bsh bl d ≤ 0 := by unfold bsh; split <;> omega
theorem tsh_bd {bl mv w d at_ u : Int} (h : 0 ≤ bl ∧ bl ≤ 4096) (hu : at_ ≤ u) : -4096 ≤ tsh bl mv w d at_ u ∧ tsh bl mv w d at_ u ≤ 0 := by
  have := bsh_bd (d := d) h
  unfold tsh
  split
  · exact this
  · split <;> omega
theorem motr_bd {st og sg p : Int} {pit : List (List Int)} (h : 0 < st) (hc : okC og sg pit) (hp : -1073741824 ≤ p ∧ p ≤ 1073741824) : -2199023255552 ≤ mot st og sg pit p ∧ mot st og sg pit p ≤ 2199023255554 := by
  have hb := corr_bd hc p
  rw [← stp_eq]
  exact stp_bd h (by omega)
set_option maxHeartbeats 400000 in
set_option maxRecDepth 100000 in
theorem sMotors : Sound Try.prog 21 SMotors := by
  refine sound_of (C := CMotors) tabMotors Try.func21 (by kernel_rfl) (by decide +kernel) (by kernel_rfl) rfl ⟨sClamp, sPlace, sAt, sTFind, sMotor, sBsh, sTsh, trivial⟩ (loopsAll (by kernel_rfl)) ?_
  intro hargs pars R h
  unfold SMotors at h
  split at h
  case h_2 => exfalso; exact h
  rename_i s0 s1 s2 sg mk ax pk ln sa d0 d1 d2 u
  split at h
  case h_2 => exact h.elim
  rename_i sta spa aca jea loa hia bla oga sga pta stb spb acb jeb lob hib blb ogb sgb ptb stc spc acc jec loc hic blc ogc sgc ptc
  obtain ⟨⟨hl, ⟨k0, k1, k2, kk⟩, ht, ma, mb, mc, hsa⟩, hq⟩ := h
  have hln := ht.2.1
  have hc := clamp_bd (v := u) hln.1
  unfold tmot at hq
  refine byVC (vcMotors s0 s1 s2 u ln sa d0 d1 d2 sg mk pk sta spa aca jea loa hia bla oga sga stb spb acb jeb lob hib blb ogb sgb stc spc acc jec loc hic blc ogc sgc pta ptb ptc R) ⟨hln.1, fun x1 e1 => ⟨ht, fun x2 e2 => ?_⟩⟩
  have hci := clamp_idem (v := u) hln.1
  rw [← e1] at hq hc hci
  rw [hci] at e2
  have hx2 := tplace_bd ht hsa hc
  rw [← e2] at hq hx2
  refine ⟨⟨hl, ⟨k0, k1, k2, kk⟩, by omega⟩, fun x3 e3 x4 e4 x5 e5 => ?_⟩
  have p0 := ptAt_bd hl k0 (fun j hj => (kk j hj).1) x2
  have p1 := ptAt_bd hl k1 (fun j hj => (kk j hj).2.1) x2
  have p2 := ptAt_bd hl k2 (fun j hj => (kk j hj).2.2) x2
  rw [← e3] at hq p0
  rw [← e4] at hq p1
  rw [← e5] at hq p2
  refine ⟨⟨ht, hc⟩, fun x6 e6 => ?_⟩
  rw [← e6] at hq
  have q0 := motr_bd ma.1.1 ma.2.1 (p := x3) (by omega)
  have q1 := motr_bd mb.1.1 mb.2.1 (p := x4) (by omega)
  have q2 := motr_bd mc.1.1 mc.2.1 (p := x5) (by omega)
  refine ⟨⟨ma.1, ma.2.1, by omega⟩, fun x7 e7 => ?_⟩
  rw [← e7] at hq q0
  rcases tfind_spec ht hc.2 with ⟨h1, h2⟩ | ⟨j, h1, h2, h3, h4⟩
  · have hx6 : x6 < 0 := by omega
    rw [if_pos hx6, if_pos hx6, if_pos hx6] at hq
    have w0 := bsh_bd (d := d0) ma.2.2
    have w1 := bsh_bd (d := d1) mb.2.2
    have w2 := bsh_bd (d := d2) mc.2.2
    have no : ∀ {P : Prop}, decide (x6 < 0) = false → P := fun g => absurd hx6 (of_decide_eq_false g)
    refine ⟨fun _ => ⟨ma.2.2, fun x8 e8 => ⟨by omega, fun x9 e9 => ⟨⟨mb.1, mb.2.1, by omega⟩, fun x10 e10 => ⟨fun _ => ⟨mb.2.2, fun x11 e11 => ⟨by omega, fun x12 e12 => ⟨⟨mc.1, mc.2.1, by omega⟩, fun x13 e13 => ⟨fun _ => ⟨mc.2.2, fun x14 e14 => ⟨by omega, fun x15 e15 => ?_⟩⟩, no⟩⟩⟩⟩, no⟩⟩⟩⟩, no⟩
    rw [← e8, ← e10, ← e11, ← e13, ← e14, ← e9, ← e12, ← e15] at hq
    exact hq
  · have hx6 : ¬ x6 < 0 := by omega
    rw [if_neg hx6, if_neg hx6, if_neg hx6] at hq
    have hj : x6.toNat = j := by omega
    rw [hj] at hq ⊢
    have a := at_bd ht h1
    have hat : ec pk j 0 ≤ x1 := by
      cases j with
      | zero => have := (ht.2.2.2.1 (by omega)).1; omega
      | succ i =>
        have := h4 i (by omega)
        have := ht.2.2.2.2.1 i h1
        omega
    have a0 : -18014398509481984 ≤ el pk j ∧ el pk j ≤ 18014398509481984 := by
      have : el pk j = ec pk j 0 := rfl
      omega
    have yes : ∀ {P : Prop}, decide (x6 < 0) = true → P := fun g => absurd (of_decide_eq_true g) hx6
    have w0 := tsh_bd (mv := ec pk j 3) (w := ec pk j 4) (d := ec pk j 7) ma.2.2 hat
    have w1 := tsh_bd (mv := ec pk j 3) (w := ec pk j 5) (d := ec pk j 8) mb.2.2 hat
    have w2 := tsh_bd (mv := ec pk j 3) (w := ec pk j 6) (d := ec pk j 9) mc.2.2 hat
    have hin : 0 ≤ x6 ∧ x6 < (pk.length : Int) := by omega
    have hx1 : -18014398509481984 ≤ x1 ∧ x1 ≤ 18014398509481984 := by omega
    refine ⟨yes, fun _ => ⟨hin, ⟨by decide, ma.2.2, hx1, a0⟩, fun y0 f0 => ?_⟩⟩
    have f0 : y0 = tsh bla (ec pk j 3) (ec pk j 4) (ec pk j 7) (ec pk j 0) x1 := f0
    rw [← f0] at w0
    refine ⟨by omega, fun z0 g0 => ⟨⟨mb.1, mb.2.1, by omega⟩, fun x10 e10 => ⟨yes, fun _ => ⟨hin, ⟨by decide, mb.2.2, hx1, a0⟩, fun y1 f1 => ?_⟩⟩⟩⟩
    have f1 : y1 = tsh blb (ec pk j 3) (ec pk j 5) (ec pk j 8) (ec pk j 0) x1 := f1
    rw [← f1] at w1
    refine ⟨by omega, fun z1 g1 => ⟨⟨mc.1, mc.2.1, by omega⟩, fun x20 e20 => ⟨yes, fun _ => ⟨hin, ⟨by decide, mc.2.2, hx1, a0⟩, fun y2 f2 => ?_⟩⟩⟩⟩
    have f2 : y2 = tsh blc (ec pk j 3) (ec pk j 6) (ec pk j 9) (ec pk j 0) x1 := f2
    rw [← f2] at w2
    refine ⟨by omega, fun z2 g2 => ?_⟩
    rw [g0, g1, g2, f0, f1, f2, e10, e20]
    exact hq
end Go.Proofs.Ytneingpnkdeooaa
