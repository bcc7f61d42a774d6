/-
  Part 6 of the texts that the law needs, merged: a value-level calculus of the code (HL), the contracts of the functions, and their proofs.
  Conditions: none.
-/
import Derived.Test.YtneingpnkdeooaaGreatPPulseBetween5
set_option maxRecDepth 100000
set_option linter.unusedVariables false
set_option linter.unusedSimpArgs false
namespace U
open Go
def endp (pk : List (List Int)) (j : Nat) : Int := ec pk j 0 + ec pk j 1
def okTrk (pk : List (List Int)) (ln : Int) : Prop :=
  pk.length ≤ 4194304 ∧ (0 ≤ ln ∧ ln ≤ 18014398509481984) ∧ (pk.length = 0 → ln = 0) ∧ (0 < pk.length → ec pk 0 0 = 0 ∧ endp pk (pk.length - 1) = ln) ∧
  (∀ j, j + 1 < pk.length → ec pk (j + 1) 0 = endp pk j) ∧ ∀ j, j < pk.length → 1 ≤ ec pk j 1 ∧ (0 ≤ ec pk j 2 ∧ ec pk j 2 ≤ 18014398509481984) ∧ (-1 ≤ ec pk j 3 ∧ ec pk j 3 ≤ 1)
def tpcA : List (List Int) → Int → Int → Int
  | [], _, _ => -1
  | r :: l, i, u => if u ≤ r.getD 0 0 + r.getD 1 0 then i else tpcA l (i + 1) u
def tfind (pk : List (List Int)) (u : Int) : Int := tpcA pk 0 u
def tplace (pk : List (List Int)) (sa u : Int) : Int :=
  if tfind pk u < 0 then sa else ec pk (tfind pk u).toNat 2 + ec pk (tfind pk u).toNat 3 * (u - ec pk (tfind pk u).toNat 0)
def bsh (bl d : Int) : Int := if d = -1 then -bl else 0
def sel3 (k a b c : Int) : Int := if k = 0 then a else if k = 1 then b else c
def tsh (bl mv w d at_ u : Int) : Int := if mv ≠ 0 ∨ w = d then bsh bl d else if d = -1 then -(min (u - at_) bl) else min (u - at_) bl - bl
def tmot (st og sg : Int) (pt : List (List Int)) (bl pos : Int) (pk : List (List Int)) (d u : Int) (c : Nat) : Int :=
  mot st og sg pt pos + (if tfind pk u < 0 then bsh bl d else tsh bl (ec pk (tfind pk u).toNat 3) (ec pk (tfind pk u).toNat (4 + c)) (ec pk (tfind pk u).toNat (7 + c)) (ec pk (tfind pk u).toNat 0) u)
def okMA (st og sg : Int) (pit : List (List Int)) (bl : Int) : Prop := (0 < st ∧ st ≤ 16777216) ∧ okC og sg pit ∧ (0 ≤ bl ∧ bl ≤ 4096)
end U
namespace Go.Proofs.YtneingpnkdeooaaGreat
open Go Go.HL U
def SClamp (hargs : List HV) (pars : List (List HC)) : SR :=
  match hargs, pars with
  | [.ce (.int .i64 v), .ce (.int .i64 n)], [] => .det (0 ≤ n) ⟨.ce (.int .i64 (clamp n v)), false, [], []⟩
  | _, _ => .fail
noncomputable def CClamp : Ctx := ⟨Tryz.prog, gam [], Tryz.f42.ntmps, [], []⟩
theorem vcClamp (v n : Int) (Q : Res → Prop) : (nfun true CClamp Tryz.f42 (bodyOf Tryz.f42) [.ce (.int .i64 v), .ce (.int .i64 n)] [] Q) =
    (∀ (x1 : Int), x1 = min v n → ∀ (x2 : Int), x2 = max (0 : Int) x1 → Q ⟨.ce (.int .i64 x2), false, [], []⟩) := by kernel_rfl
def SAt (hargs : List HV) (pars : List (List HC)) : SR :=
  match hargs, pars with
  | [.agg [.int .i64 s0, .int .i64 s1, .int .i64 s2, .sl false [4, 4, 4, 4, 4, 4, 4] sg, .sl false [4, 4, 4] mk], .ce (.int .i64 p)], [] => .det (okLen sg ∧ okPts s0 s1 s2 sg ∧ p ≤ 4611686018427387904) ⟨.agg [.int .i64 (ptAt s0 sg 0 p), .int .i64 (ptAt s1 sg 1 p), .int .i64 (ptAt s2 sg 2 p)], false, [], []⟩
  | _, _ => .fail
def tabAt : List (FuncId × HL.Spec) := [(49, SPFind), (50, SMulDiv)]
noncomputable def CAt : Ctx := ⟨Tryz.prog, gam tabAt, Tryz.f23.ntmps, [(4000009, unrT [1000002, 1000004, 1000007, 1000008], fun _ => .fail)], []⟩
theorem vcAt (s0 s1 s2 p : Int) (sg mk : List (List Int)) (Q : Res → Prop) : (nfun true CAt Tryz.f23 (bodyOf Tryz.f23) [.agg [.int .i64 s0, .int .i64 s1, .int .i64 s2, .sl false [4, 4, 4, 4, 4, 4, 4] sg, .sl false [4, 4, 4] mk], .ce (.int .i64 p)] [] Q) =
    ((okLen sg ∧ p ≤ 4611686018427387904) ∧ (∃ (x : Int × Int), x = pfind sg p) ∧ ∀ (x : Int × Int), x = pfind sg p → (decide (x.1 < 0) = true → Q ⟨.agg [.int .i64 s0, .int .i64 s1, .int .i64 s2], false, [], []⟩) ∧ (decide (x.1 < 0) = false → (decide (x.1 > 0) = true → (-9223372036854775808 ≤ x.1 - 1 ∧ x.1 - 1 ≤ 9223372036854775807) ∧ ∀ (x2 : Int), x2 = x.1 - 1 → (0 ≤ x2 ∧ x2 < (List.length sg : Int)) ∧ (0 ≤ x.1 ∧ x.1 < (List.length sg : Int)) ∧ (-9223372036854775808 ≤ el sg x.1.toNat - el sg x2.toNat ∧ el sg x.1.toNat - el sg x2.toNat ≤ 9223372036854775807) ∧ ∀ (x3 : Int), x3 = el sg x.1.toNat - el sg x2.toNat → ((-9223372036854775808 ≤ x3 ∧ x3 ≤ 9223372036854775807) ∧ (-9223372036854775808 ≤ x.2 ∧ x.2 ≤ 9223372036854775807) ∧ (0 < ec sg x.1.toNat 3 ∧ ec sg x.1.toNat 3 ≤ 9223372036854775807) ∧ ((-4611686018427387904 : Int) ≤ x3 * x.2 ∧ x3 * x.2 ≤ 4611686018427387904) ∧ (0 : Int) ≤ (2 : Int) ∧
    (2 : Int) ≤ (2 : Int)) ∧ ∀ (x4 : Int), x4 = mdv (x3 * x.2) (ec sg x.1.toNat 3) (2 : Int) → ∀ (x5 : Bool), x5 = true → (-9223372036854775808 ≤ el sg x2.toNat + x4 ∧ el sg x2.toNat + x4 ≤ 9223372036854775807) ∧ ∀ (x6 : Int), x6 = el sg x2.toNat + x4 → (-9223372036854775808 ≤ ec sg x.1.toNat 1 - ec sg x2.toNat 1 ∧ ec sg x.1.toNat 1 - ec sg x2.toNat 1 ≤ 9223372036854775807) ∧ ∀ (x7 : Int), x7 = ec sg x.1.toNat 1 - ec sg x2.toNat 1 → ((-9223372036854775808 ≤ x7 ∧ x7 ≤ 9223372036854775807) ∧ (-9223372036854775808 ≤ x.2 ∧ x.2 ≤ 9223372036854775807) ∧ (0 < ec sg x.1.toNat 3 ∧ ec sg x.1.toNat 3 ≤ 9223372036854775807) ∧ ((-4611686018427387904 : Int) ≤ x7 * x.2 ∧ x7 * x.2 ≤ 4611686018427387904) ∧ (0 : Int) ≤ (2 : Int) ∧ (2 : Int) ≤ (2 : Int)) ∧ ∀ (x8 : Int), x8 = mdv (x7 * x.2) (ec sg x.1.toNat 3) (2 : Int) → ∀ (x9 : Bool), x9 = true → (-9223372036854775808 ≤ ec sg x2.toNat 1 + x8 ∧ ec sg x2.toNat 1 + x8 ≤ 9223372036854775807) ∧
    ∀ (x10 : Int), x10 = ec sg x2.toNat 1 + x8 → (-9223372036854775808 ≤ ec sg x.1.toNat 2 - ec sg x2.toNat 2 ∧ ec sg x.1.toNat 2 - ec sg x2.toNat 2 ≤ 9223372036854775807) ∧ ∀ (x11 : Int), x11 = ec sg x.1.toNat 2 - ec sg x2.toNat 2 → ((-9223372036854775808 ≤ x11 ∧ x11 ≤ 9223372036854775807) ∧ (-9223372036854775808 ≤ x.2 ∧ x.2 ≤ 9223372036854775807) ∧ (0 < ec sg x.1.toNat 3 ∧ ec sg x.1.toNat 3 ≤ 9223372036854775807) ∧ ((-4611686018427387904 : Int) ≤ x11 * x.2 ∧ x11 * x.2 ≤ 4611686018427387904) ∧ (0 : Int) ≤ (2 : Int) ∧ (2 : Int) ≤ (2 : Int)) ∧ ∀ (x12 : Int), x12 = mdv (x11 * x.2) (ec sg x.1.toNat 3) (2 : Int) → ∀ (x13 : Bool), x13 = true → (-9223372036854775808 ≤ ec sg x2.toNat 2 + x12 ∧ ec sg x2.toNat 2 + x12 ≤ 9223372036854775807) ∧ ∀ (x14 : Int), x14 = ec sg x2.toNat 2 + x12 → Q ⟨.agg [.int .i64 x6, .int .i64 x10, .int .i64 x14], false, [], []⟩) ∧ (decide (x.1 > 0) = false → (0 ≤ x.1 ∧ x.1 < (List.length sg : Int)) ∧
    (-9223372036854775808 ≤ el sg x.1.toNat - s0 ∧ el sg x.1.toNat - s0 ≤ 9223372036854775807) ∧ ∀ (x15 : Int), x15 = el sg x.1.toNat - s0 → ((-9223372036854775808 ≤ x15 ∧ x15 ≤ 9223372036854775807) ∧ (-9223372036854775808 ≤ x.2 ∧ x.2 ≤ 9223372036854775807) ∧ (0 < ec sg x.1.toNat 3 ∧ ec sg x.1.toNat 3 ≤ 9223372036854775807) ∧ ((-4611686018427387904 : Int) ≤ x15 * x.2 ∧ x15 * x.2 ≤ 4611686018427387904) ∧ (0 : Int) ≤ (2 : Int) ∧ (2 : Int) ≤ (2 : Int)) ∧ ∀ (x16 : Int), x16 = mdv (x15 * x.2) (ec sg x.1.toNat 3) (2 : Int) → ∀ (x17 : Bool), x17 = true → (-9223372036854775808 ≤ s0 + x16 ∧ s0 + x16 ≤ 9223372036854775807) ∧ ∀ (x18 : Int), x18 = s0 + x16 → (-9223372036854775808 ≤ ec sg x.1.toNat 1 - s1 ∧ ec sg x.1.toNat 1 - s1 ≤ 9223372036854775807) ∧ ∀ (x19 : Int), x19 = ec sg x.1.toNat 1 - s1 → ((-9223372036854775808 ≤ x19 ∧ x19 ≤ 9223372036854775807) ∧ (-9223372036854775808 ≤ x.2 ∧ x.2 ≤ 9223372036854775807) ∧
    (0 < ec sg x.1.toNat 3 ∧ ec sg x.1.toNat 3 ≤ 9223372036854775807) ∧ ((-4611686018427387904 : Int) ≤ x19 * x.2 ∧ x19 * x.2 ≤ 4611686018427387904) ∧ (0 : Int) ≤ (2 : Int) ∧ (2 : Int) ≤ (2 : Int)) ∧ ∀ (x20 : Int), x20 = mdv (x19 * x.2) (ec sg x.1.toNat 3) (2 : Int) → ∀ (x21 : Bool), x21 = true → (-9223372036854775808 ≤ s1 + x20 ∧ s1 + x20 ≤ 9223372036854775807) ∧ ∀ (x22 : Int), x22 = s1 + x20 → (-9223372036854775808 ≤ ec sg x.1.toNat 2 - s2 ∧ ec sg x.1.toNat 2 - s2 ≤ 9223372036854775807) ∧ ∀ (x23 : Int), x23 = ec sg x.1.toNat 2 - s2 → ((-9223372036854775808 ≤ x23 ∧ x23 ≤ 9223372036854775807) ∧ (-9223372036854775808 ≤ x.2 ∧ x.2 ≤ 9223372036854775807) ∧ (0 < ec sg x.1.toNat 3 ∧ ec sg x.1.toNat 3 ≤ 9223372036854775807) ∧ ((-4611686018427387904 : Int) ≤ x23 * x.2 ∧ x23 * x.2 ≤ 4611686018427387904) ∧ (0 : Int) ≤ (2 : Int) ∧ (2 : Int) ≤ (2 : Int)) ∧ ∀ (x24 : Int), x24 = mdv (x23 * x.2) (ec sg x.1.toNat 3) (2 : Int) →
    ∀ (x25 : Bool), x25 = true → (-9223372036854775808 ≤ s2 + x24 ∧ s2 + x24 ≤ 9223372036854775807) ∧ ∀ (x26 : Int), x26 = s2 + x24 → Q ⟨.agg [.int .i64 x18, .int .i64 x22, .int .i64 x26], false, [], []⟩))) := by kernel_rfl
def STFind (hargs : List HV) (pars : List (List HC)) : SR :=
  match hargs, pars with
  | [.agg [.sl false [4, 4, 4, 4, 4, 4, 4, 4, 4, 4] pk, .int .i64 ln, .int .i64 sa, .int .i64 d0, .int .i64 d1, .int .i64 d2], .ce (.int .i64 u)], [] => .det (okTrk pk ln ∧ 0 ≤ u ∧ u ≤ ln) ⟨.ce (.int .i64 (tfind pk u)), false, [], []⟩
  | _, _ => .fail
def anTF : LAnn := ⟨[1, 2, 4, 5, 6], [6], [1000002], false⟩
def LTF (v : LV) : LR :=
  match v with
  | ([.ce (.int .i64 u), .ce (.ptr 1000002 0), .ce (.int .i64 z), .ce (.int .i64 lo), .ce (.int .i64 hi)], [[.sl false [4, 4, 4, 4, 4, 4, 4, 4, 4, 4] pk, .int .i64 ln, .int .i64 sa, .int .i64 d0, .int .i64 d1, .int .i64 d2]]) =>
    .det (lo = 0 ∧ hi = (pk.length : Int) - 1 ∧ okTrk pk ln ∧ 0 ≤ u ∧ u ≤ ln) (.exit 0) ([.ce (.int .i64 (tfind pk u))], [[.sl false [4, 4, 4, 4, 4, 4, 4, 4, 4, 4] pk, .int .i64 ln, .int .i64 sa, .int .i64 d0, .int .i64 d1, .int .i64 d2]])
  | _ => .fail
noncomputable def CTF : Ctx := ⟨Tryz.prog, gam [], Tryz.f43.ntmps, [(2, anTF, LTF)], []⟩
theorem vbTF (u z lo hi ln sa d0 d1 d2 : Int) (pk : List (List Int)) (K : HEx → LV → Prop) : (nbodyT true CTF anTF (nthLoop Tryz.f43 0) (([.ce (.int .i64 u), .ce (.ptr 1000002 0), .ce (.int .i64 z), .ce (.int .i64 lo), .ce (.int .i64 hi)], [[.sl false [4, 4, 4, 4, 4, 4, 4, 4, 4, 4] pk, .int .i64 ln, .int .i64 sa, .int .i64 d0, .int .i64 d1, .int .i64 d2]])) K) =
    ((decide (lo < hi) = true → (-9223372036854775808 ≤ lo + hi ∧ lo + hi ≤ 9223372036854775807) ∧ ∀ (x1 : Int), x1 = lo + hi → (2 : Int) ≠ (0 : Int) ∧ (-9223372036854775808 ≤ Int.tdiv x1 (2 : Int) ∧ Int.tdiv x1 (2 : Int) ≤ 9223372036854775807) ∧ ∀ (x2 : Int), x2 = Int.tdiv x1 (2 : Int) → (0 ≤ x2 ∧ x2 < (List.length pk : Int)) ∧ (-9223372036854775808 ≤ el pk x2.toNat + ec pk x2.toNat 1 ∧ el pk x2.toNat + ec pk x2.toNat 1 ≤ 9223372036854775807) ∧ ∀ (x3 : Int), x3 = el pk x2.toNat + ec pk x2.toNat 1 → (decide (u ≤ x3) = true → K .normal ([.ce (.int .i64 u), .ce (.ptr 1000002 0), .ce (.int .i64 z), .ce (.int .i64 lo), .ce (.int .i64 x2)], [[.sl false [4, 4, 4, 4, 4, 4, 4, 4, 4, 4] pk, .int .i64 ln, .int .i64 sa, .int .i64 d0, .int .i64 d1, .int .i64 d2]])) ∧ (decide (u ≤ x3) = false → (-9223372036854775808 ≤ x2 + 1 ∧ x2 + 1 ≤ 9223372036854775807) ∧ ∀ (x4 : Int), x4 = x2 + 1 → K .normal ([.ce (.int .i64 u), .ce (.ptr 1000002 0), .ce (.int .i64 z), .ce (.int .i64 x4), .ce (.int .i64 hi)], [[.sl false [4, 4, 4, 4, 4, 4, 4, 4, 4, 4] pk, .int .i64 ln, .int .i64 sa, .int .i64 d0, .int .i64 d1, .int .i64 d2]]))) ∧
    (decide (lo < hi) = false → K (.exit 0) ([.ce (.int .i64 hi)], [[.sl false [4, 4, 4, 4, 4, 4, 4, 4, 4, 4] pk, .int .i64 ln, .int .i64 sa, .int .i64 d0, .int .i64 d1, .int .i64 d2]]))) := by kernel_rfl
theorem vcTF (u ln sa d0 d1 d2 : Int) (pk : List (List Int)) (Q : Res → Prop) : (nfun true CTF Tryz.f43 (bodyOf Tryz.f43) [.agg [.sl false [4, 4, 4, 4, 4, 4, 4, 4, 4, 4] pk, .int .i64 ln, .int .i64 sa, .int .i64 d0, .int .i64 d1, .int .i64 d2], .ce (.int .i64 u)] [] Q) =
    ((-9223372036854775808 ≤ (List.length pk : Int) - (1 : Int) ∧ (List.length pk : Int) - (1 : Int) ≤ 9223372036854775807) ∧ ∀ (x1 : Int), x1 = (List.length pk : Int) - (1 : Int) → ((0 : Int) = (0 : Int) ∧ x1 = (List.length pk : Int) - (1 : Int) ∧ okTrk pk ln ∧ 0 ≤ u ∧ u ≤ ln) ∧ Q ⟨.ce (.int .i64 (tfind pk u)), false, [], []⟩) := by kernel_rfl
def SPlace (hargs : List HV) (pars : List (List HC)) : SR :=
  match hargs, pars with
  | [.agg [.sl false [4, 4, 4, 4, 4, 4, 4, 4, 4, 4] pk, .int .i64 ln, .int .i64 sa, .int .i64 d0, .int .i64 d1, .int .i64 d2], .ce (.int .i64 u)], [] => .det (okTrk pk ln) ⟨.ce (.int .i64 (tplace pk sa (clamp ln u))), false, [], []⟩
  | _, _ => .fail
def tabTF : List (FuncId × HL.Spec) := [(42, SClamp), (43, STFind)]
noncomputable def CPlace : Ctx := ⟨Tryz.prog, gam tabTF, Tryz.f21.ntmps, [], []⟩
theorem vcPlace (u ln sa d0 d1 d2 : Int) (pk : List (List Int)) (Q : Res → Prop) : (nfun true CPlace Tryz.f21 (bodyOf Tryz.f21) [.agg [.sl false [4, 4, 4, 4, 4, 4, 4, 4, 4, 4] pk, .int .i64 ln, .int .i64 sa, .int .i64 d0, .int .i64 d1, .int .i64 d2], .ce (.int .i64 u)] [] Q) =
    (0 ≤ ln ∧ ∀ (x1 : Int), x1 = clamp ln u → (okTrk pk ln ∧ 0 ≤ x1 ∧ x1 ≤ ln) ∧ ∀ (x2 : Int), x2 = tfind pk x1 → (decide (x2 < 0) = true → Q ⟨.ce (.int .i64 sa), false, [], []⟩) ∧ (decide (x2 < 0) = false → (0 ≤ x2 ∧ x2 < (List.length pk : Int)) ∧ ∀ (x3 : Int), x3 = ec pk x2.toNat 2 → (0 ≤ x2 ∧ x2 < (List.length pk : Int)) ∧ ∀ (x4 : Int), x4 = ec pk x2.toNat 3 → (0 ≤ x2 ∧ x2 < (List.length pk : Int)) ∧ ∀ (x5 : Int), x5 = el pk x2.toNat → (-9223372036854775808 ≤ x1 - x5 ∧ x1 - x5 ≤ 9223372036854775807) ∧ ∀ (x6 : Int), x6 = x1 - x5 → (-9223372036854775808 ≤ x4 * x6 ∧ x4 * x6 ≤ 9223372036854775807) ∧ ∀ (x7 : Int), x7 = x4 * x6 → (-9223372036854775808 ≤ x3 + x7 ∧ x3 + x7 ≤ 9223372036854775807) ∧ ∀ (x8 : Int), x8 = x3 + x7 → Q ⟨.ce (.int .i64 x8), false, [], []⟩)) := by kernel_rfl
def SBsh (hargs : List HV) (pars : List (List HC)) : SR :=
  match hargs, pars with
  | [.agg [.int .i64 sta, .int .i64 spa, .int .i64 aca, .int .i64 jea, .int .i64 loa, .int .i64 hia, .int .i64 bla, .int .i64 oga, .int .i64 sga, .sl false [4] pta], .ce (.int .i64 d)], [] => .det (0 ≤ bla ∧ bla ≤ 4096) ⟨.ce (.int .i64 (bsh bla d)), false, [], []⟩
  | _, _ => .fail
noncomputable def CBsh : Ctx := ⟨Tryz.prog, gam [], Tryz.f44.ntmps, [], []⟩
theorem vcBsh (sta spa aca jea loa hia bla oga sga : Int) (pta : List (List Int)) (d : Int) (Q : Res → Prop) : (nfun true CBsh Tryz.f44 (bodyOf Tryz.f44) [.agg [.int .i64 sta, .int .i64 spa, .int .i64 aca, .int .i64 jea, .int .i64 loa, .int .i64 hia, .int .i64 bla, .int .i64 oga, .int .i64 sga, .sl false [4] pta], .ce (.int .i64 d)] [] Q) =
    (((d == (-1 : Int)) = true → (-9223372036854775808 ≤ (0 : Int) - bla ∧ (0 : Int) - bla ≤ 9223372036854775807) ∧ ∀ (x1 : Int), x1 = 0 - bla → Q ⟨.ce (.int .i64 x1), false, [], []⟩) ∧ ((d == (-1 : Int)) = false → Q ⟨.ce (.int .i64 0), false, [], []⟩)) := by kernel_rfl
def STsh (hargs : List HV) (pars : List (List HC)) : SR :=
  match hargs, pars with
  | [.agg [.int .i64 sta, .int .i64 spa, .int .i64 aca, .int .i64 jea, .int .i64 loa, .int .i64 hia, .int .i64 bla, .int .i64 oga, .int .i64 sga, .sl false [4] pta], .agg [.int .i64 q0, .int .i64 q1, .int .i64 q2, .int .i64 q3, .int .i64 q4, .int .i64 q5, .int .i64 q6, .int .i64 q7, .int .i64 q8, .int .i64 q9], .ce (.int .i64 k), .ce (.int .i64 u)], [] =>
    .det ((0 ≤ k ∧ k ≤ 2) ∧ (0 ≤ bla ∧ bla ≤ 4096) ∧ (-18014398509481984 ≤ u ∧ u ≤ 18014398509481984) ∧ (-18014398509481984 ≤ q0 ∧ q0 ≤ 18014398509481984)) ⟨.ce (.int .i64 (tsh bla q3 (sel3 k q4 q5 q6) (sel3 k q7 q8 q9) q0 u)), false, [], []⟩
  | _, _ => .fail
def tabTsh : List (FuncId × HL.Spec) := [(44, SBsh)]
noncomputable def CTsh : Ctx := ⟨Tryz.prog, gam tabTsh, Tryz.f45.ntmps, [], [spl 1 2 6 0]⟩
theorem vcTsh (sta spa aca jea loa hia bla oga sga : Int) (pta : List (List Int)) (q0 q1 q2 q3 q4 q5 q6 q7 q8 q9 k u : Int) (Q : Res → Prop) : (nfun true CTsh Tryz.f45 (bodyOf Tryz.f45) [.agg [.int .i64 sta, .int .i64 spa, .int .i64 aca, .int .i64 jea, .int .i64 loa, .int .i64 hia, .int .i64 bla, .int .i64 oga, .int .i64 sga, .sl false [4] pta], .agg [.int .i64 q0, .int .i64 q1, .int .i64 q2, .int .i64 q3, .int .i64 q4, .int .i64 q5, .int .i64 q6, .int .i64 q7, .int .i64 q8, .int .i64 q9], .ce (.int .i64 k), .ce (.int .i64 u)] [] Q) =
    ((k = 0 → ((q3 != 0) = true → (0 ≤ bla ∧ bla ≤ 4096) ∧ ∀ (x1 : Int), x1 = bsh bla q7 → Q ⟨.ce (.int .i64 x1), false, [], []⟩) ∧ ((q3 != 0) = false → ((q4 == q7) = true → (0 ≤ bla ∧ bla ≤ 4096) ∧ ∀ (x2 : Int), x2 = bsh bla q7 → Q ⟨.ce (.int .i64 x2), false, [], []⟩) ∧ ((q4 == q7) = false → (-9223372036854775808 ≤ u - q0 ∧ u - q0 ≤ 9223372036854775807) ∧ ∀ (x3 : Int), x3 = u - q0 → ∀ (x4 : Int), x4 = min x3 bla → ((q7 == (-1 : Int)) = true → (-9223372036854775808 ≤ (0 : Int) - x4 ∧ (0 : Int) - x4 ≤ 9223372036854775807) ∧ ∀ (x5 : Int), x5 = 0 - x4 → Q ⟨.ce (.int .i64 x5), false, [], []⟩) ∧ ((q7 == (-1 : Int)) = false → (-9223372036854775808 ≤ x4 - bla ∧ x4 - bla ≤ 9223372036854775807) ∧ ∀ (x6 : Int), x6 = x4 - bla → Q ⟨.ce (.int .i64 x6), false, [], []⟩)))) ∧ (k ≠ 0 → (k = 1 → ((q3 != 0) = true → (0 ≤ bla ∧ bla ≤ 4096) ∧ ∀ (x7 : Int), x7 = bsh bla q8 → Q ⟨.ce (.int .i64 x7), false, [], []⟩) ∧
    ((q3 != 0) = false → ((q5 == q8) = true → (0 ≤ bla ∧ bla ≤ 4096) ∧ ∀ (x8 : Int), x8 = bsh bla q8 → Q ⟨.ce (.int .i64 x8), false, [], []⟩) ∧ ((q5 == q8) = false → (-9223372036854775808 ≤ u - q0 ∧ u - q0 ≤ 9223372036854775807) ∧ ∀ (x9 : Int), x9 = u - q0 → ∀ (x10 : Int), x10 = min x9 bla → ((q8 == (-1 : Int)) = true → (-9223372036854775808 ≤ (0 : Int) - x10 ∧ (0 : Int) - x10 ≤ 9223372036854775807) ∧ ∀ (x11 : Int), x11 = 0 - x10 → Q ⟨.ce (.int .i64 x11), false, [], []⟩) ∧ ((q8 == (-1 : Int)) = false → (-9223372036854775808 ≤ x10 - bla ∧ x10 - bla ≤ 9223372036854775807) ∧ ∀ (x12 : Int), x12 = x10 - bla → Q ⟨.ce (.int .i64 x12), false, [], []⟩)))) ∧ (k ≠ 1 → (k = 2 → ((q3 != 0) = true → (0 ≤ bla ∧ bla ≤ 4096) ∧ ∀ (x13 : Int), x13 = bsh bla q9 → Q ⟨.ce (.int .i64 x13), false, [], []⟩) ∧ ((q3 != 0) = false → ((q6 == q9) = true → (0 ≤ bla ∧ bla ≤ 4096) ∧ ∀ (x14 : Int), x14 = bsh bla q9 → Q ⟨.ce (.int .i64 x14), false, [], []⟩) ∧
    ((q6 == q9) = false → (-9223372036854775808 ≤ u - q0 ∧ u - q0 ≤ 9223372036854775807) ∧ ∀ (x15 : Int), x15 = u - q0 → ∀ (x16 : Int), x16 = min x15 bla → ((q9 == (-1 : Int)) = true → (-9223372036854775808 ≤ (0 : Int) - x16 ∧ (0 : Int) - x16 ≤ 9223372036854775807) ∧ ∀ (x17 : Int), x17 = 0 - x16 → Q ⟨.ce (.int .i64 x17), false, [], []⟩) ∧ ((q9 == (-1 : Int)) = false → (-9223372036854775808 ≤ x16 - bla ∧ x16 - bla ≤ 9223372036854775807) ∧ ∀ (x18 : Int), x18 = x16 - bla → Q ⟨.ce (.int .i64 x18), false, [], []⟩)))) ∧ (k ≠ 2 → False)))) := by kernel_rfl
def SMotors (hargs : List HV) (pars : List (List HC)) : SR :=
  match hargs, pars with
  | [.agg [.int .i64 s0, .int .i64 s1, .int .i64 s2, .sl false [4, 4, 4, 4, 4, 4, 4] sg, .sl false [4, 4, 4] mk], .agg ax, .agg [.sl false [4, 4, 4, 4, 4, 4, 4, 4, 4, 4] pk, .int .i64 ln, .int .i64 sa, .int .i64 d0, .int .i64 d1, .int .i64 d2], .ce (.int .i64 u)], [] =>
    match ax with
    | [.int .i64 sta, .int .i64 spa, .int .i64 aca, .int .i64 jea, .int .i64 loa, .int .i64 hia, .int .i64 bla, .int .i64 oga, .int .i64 sga, .sl false [4] pta, .int .i64 stb, .int .i64 spb, .int .i64 acb, .int .i64 jeb, .int .i64 lob, .int .i64 hib, .int .i64 blb, .int .i64 ogb, .int .i64 sgb, .sl false [4] ptb, .int .i64 stc, .int .i64 spc, .int .i64 acc, .int .i64 jec, .int .i64 loc, .int .i64 hic, .int .i64 blc, .int .i64 ogc, .int .i64 sgc, .sl false [4] ptc] =>
      .det (okLen sg ∧ okPts s0 s1 s2 sg ∧ okTrk pk ln ∧ okMA sta oga sga pta bla ∧ okMA stb ogb sgb ptb blb ∧ okMA stc ogc sgc ptc blc ∧ (0 ≤ sa ∧ sa ≤ 18014398509481984))
        ⟨.agg [.int .i64 (tmot sta oga sga pta bla (ptAt s0 sg 0 (tplace pk sa (clamp ln u))) pk d0 (clamp ln u) 0), .int .i64 (tmot stb ogb sgb ptb blb (ptAt s1 sg 1 (tplace pk sa (clamp ln u))) pk d1 (clamp ln u) 1), .int .i64 (tmot stc ogc sgc ptc blc (ptAt s2 sg 2 (tplace pk sa (clamp ln u))) pk d2 (clamp ln u) 2)], false, [], []⟩
    | _ => .fail
  | _, _ => .fail
def tabMotors : List (FuncId × HL.Spec) := [(42, SClamp), (21, SPlace), (23, SAt), (43, STFind), (40, SMotor), (44, SBsh), (45, STsh)]
noncomputable def CMotors : Ctx := ⟨Tryz.prog, gam tabMotors, Tryz.f19.ntmps, [(4000006, unrT [1000004, 1000005, 1000006, 1000008, 1000009, 1000011], fun _ => .fail)], []⟩
theorem vcMotors (s0 s1 s2 u ln sa d0 d1 d2 : Int) (sg mk pk : List (List Int)) (sta spa aca jea loa hia bla oga sga stb spb acb jeb lob hib blb ogb sgb stc spc acc jec loc hic blc ogc sgc : Int) (pta ptb ptc : List (List Int)) (Q : Res → Prop) : (nfun true CMotors Tryz.f19 (bodyOf Tryz.f19) [.agg [.int .i64 s0, .int .i64 s1, .int .i64 s2, .sl false [4, 4, 4, 4, 4, 4, 4] sg, .sl false [4, 4, 4] mk], .agg [.int .i64 sta, .int .i64 spa, .int .i64 aca, .int .i64 jea, .int .i64 loa, .int .i64 hia, .int .i64 bla, .int .i64 oga, .int .i64 sga, .sl false [4] pta, .int .i64 stb, .int .i64 spb, .int .i64 acb, .int .i64 jeb, .int .i64 lob, .int .i64 hib, .int .i64 blb, .int .i64 ogb, .int .i64 sgb, .sl false [4] ptb, .int .i64 stc, .int .i64 spc, .int .i64 acc, .int .i64 jec, .int .i64 loc, .int .i64 hic, .int .i64 blc, .int .i64 ogc, .int .i64 sgc, .sl false [4] ptc], .agg [.sl false [4, 4, 4, 4, 4, 4, 4, 4, 4, 4] pk, .int .i64 ln, .int .i64 sa, .int .i64 d0, .int .i64 d1, .int .i64 d2], .ce (.int .i64 u)] [] Q) =
    (0 ≤ ln ∧ ∀ (x1 : Int), x1 = clamp ln u → okTrk pk ln ∧ ∀ (x2 : Int), x2 = tplace pk sa (clamp ln x1) → (okLen sg ∧ okPts s0 s1 s2 sg ∧ x2 ≤ 4611686018427387904) ∧ ∀ (x3 : Int), x3 = ptAt s0 sg (0 : Nat) x2 → ∀ (x4 : Int), x4 = ptAt s1 sg (1 : Nat) x2 → ∀ (x5 : Int), x5 = ptAt s2 sg (2 : Nat) x2 → (okTrk pk ln ∧ 0 ≤ x1 ∧ x1 ≤ ln) ∧ ∀ (x6 : Int), x6 = tfind pk x1 → ((0 < sta ∧ sta ≤ 16777216) ∧ okC oga sga pta ∧ (-1073741824 : Int) ≤ x3 ∧ x3 ≤ 1073741824) ∧ ∀ (x7 : Int), x7 = mot sta oga sga pta x3 → (decide (x6 < 0) = true → (0 ≤ bla ∧ bla ≤ 4096) ∧ ∀ (x8 : Int), x8 = bsh bla d0 → (-9223372036854775808 ≤ x7 + x8 ∧ x7 + x8 ≤ 9223372036854775807) ∧ ∀ (x9 : Int), x9 = x7 + x8 → ((0 < stb ∧ stb ≤ 16777216) ∧ okC ogb sgb ptb ∧ (-1073741824 : Int) ≤ x4 ∧ x4 ≤ 1073741824) ∧ ∀ (x10 : Int), x10 = mot stb ogb sgb ptb x4 → (decide (x6 < 0) = true → (0 ≤ blb ∧ blb ≤ 4096) ∧ ∀ (x11 : Int), x11 = bsh blb d1 →
    (-9223372036854775808 ≤ x10 + x11 ∧ x10 + x11 ≤ 9223372036854775807) ∧ ∀ (x12 : Int), x12 = x10 + x11 → ((0 < stc ∧ stc ≤ 16777216) ∧ okC ogc sgc ptc ∧ (-1073741824 : Int) ≤ x5 ∧ x5 ≤ 1073741824) ∧ ∀ (x13 : Int), x13 = mot stc ogc sgc ptc x5 → (decide (x6 < 0) = true → (0 ≤ blc ∧ blc ≤ 4096) ∧ ∀ (x14 : Int), x14 = bsh blc d2 → (-9223372036854775808 ≤ x13 + x14 ∧ x13 + x14 ≤ 9223372036854775807) ∧ ∀ (x15 : Int), x15 = x13 + x14 → Q ⟨.agg [.int .i64 x9, .int .i64 x12, .int .i64 x15], false, [], []⟩) ∧ (decide (x6 < 0) = false → (0 ≤ x6 ∧ x6 < (List.length pk : Int)) ∧ (((0 : Int) ≤ (2 : Int) ∧ (2 : Int) ≤ (2 : Int)) ∧ (0 ≤ blc ∧ blc ≤ 4096) ∧ ((-18014398509481984 : Int) ≤ x1 ∧ x1 ≤ 18014398509481984) ∧ (-18014398509481984 : Int) ≤ el pk x6.toNat ∧ el pk x6.toNat ≤ 18014398509481984) ∧ ∀ (x16 : Int), x16 = tsh blc (ec pk x6.toNat 3) (sel3 (2 : Int) (ec pk x6.toNat 4) (ec pk x6.toNat 5) (ec pk x6.toNat 6)) (sel3 (2 : Int) (ec pk x6.toNat 7) (ec pk x6.toNat 8) (ec pk x6.toNat 9)) (el pk x6.toNat) x1 →
    (-9223372036854775808 ≤ x13 + x16 ∧ x13 + x16 ≤ 9223372036854775807) ∧ ∀ (x17 : Int), x17 = x13 + x16 → Q ⟨.agg [.int .i64 x9, .int .i64 x12, .int .i64 x17], false, [], []⟩)) ∧ (decide (x6 < 0) = false → (0 ≤ x6 ∧ x6 < (List.length pk : Int)) ∧ (((0 : Int) ≤ (1 : Int) ∧ (1 : Int) ≤ (2 : Int)) ∧ (0 ≤ blb ∧ blb ≤ 4096) ∧ ((-18014398509481984 : Int) ≤ x1 ∧ x1 ≤ 18014398509481984) ∧ (-18014398509481984 : Int) ≤ el pk x6.toNat ∧ el pk x6.toNat ≤ 18014398509481984) ∧ ∀ (x18 : Int), x18 = tsh blb (ec pk x6.toNat 3) (sel3 (1 : Int) (ec pk x6.toNat 4) (ec pk x6.toNat 5) (ec pk x6.toNat 6)) (sel3 (1 : Int) (ec pk x6.toNat 7) (ec pk x6.toNat 8) (ec pk x6.toNat 9)) (el pk x6.toNat) x1 → (-9223372036854775808 ≤ x10 + x18 ∧ x10 + x18 ≤ 9223372036854775807) ∧ ∀ (x19 : Int), x19 = x10 + x18 → ((0 < stc ∧ stc ≤ 16777216) ∧ okC ogc sgc ptc ∧ (-1073741824 : Int) ≤ x5 ∧ x5 ≤ 1073741824) ∧ ∀ (x20 : Int), x20 = mot stc ogc sgc ptc x5 →
    (decide (x6 < 0) = true → (0 ≤ blc ∧ blc ≤ 4096) ∧ ∀ (x21 : Int), x21 = bsh blc d2 → (-9223372036854775808 ≤ x20 + x21 ∧ x20 + x21 ≤ 9223372036854775807) ∧ ∀ (x22 : Int), x22 = x20 + x21 → Q ⟨.agg [.int .i64 x9, .int .i64 x19, .int .i64 x22], false, [], []⟩) ∧ (decide (x6 < 0) = false → (0 ≤ x6 ∧ x6 < (List.length pk : Int)) ∧ (((0 : Int) ≤ (2 : Int) ∧ (2 : Int) ≤ (2 : Int)) ∧ (0 ≤ blc ∧ blc ≤ 4096) ∧ ((-18014398509481984 : Int) ≤ x1 ∧ x1 ≤ 18014398509481984) ∧ (-18014398509481984 : Int) ≤ el pk x6.toNat ∧ el pk x6.toNat ≤ 18014398509481984) ∧ ∀ (x23 : Int), x23 = tsh blc (ec pk x6.toNat 3) (sel3 (2 : Int) (ec pk x6.toNat 4) (ec pk x6.toNat 5) (ec pk x6.toNat 6)) (sel3 (2 : Int) (ec pk x6.toNat 7) (ec pk x6.toNat 8) (ec pk x6.toNat 9)) (el pk x6.toNat) x1 → (-9223372036854775808 ≤ x20 + x23 ∧ x20 + x23 ≤ 9223372036854775807) ∧ ∀ (x24 : Int), x24 = x20 + x23 → Q ⟨.agg [.int .i64 x9, .int .i64 x19, .int .i64 x24], false, [], []⟩))) ∧
    (decide (x6 < 0) = false → (0 ≤ x6 ∧ x6 < (List.length pk : Int)) ∧ (((0 : Int) ≤ (0 : Int) ∧ (0 : Int) ≤ (2 : Int)) ∧ (0 ≤ bla ∧ bla ≤ 4096) ∧ ((-18014398509481984 : Int) ≤ x1 ∧ x1 ≤ 18014398509481984) ∧ (-18014398509481984 : Int) ≤ el pk x6.toNat ∧ el pk x6.toNat ≤ 18014398509481984) ∧ ∀ (x25 : Int), x25 = tsh bla (ec pk x6.toNat 3) (sel3 (0 : Int) (ec pk x6.toNat 4) (ec pk x6.toNat 5) (ec pk x6.toNat 6)) (sel3 (0 : Int) (ec pk x6.toNat 7) (ec pk x6.toNat 8) (ec pk x6.toNat 9)) (el pk x6.toNat) x1 → (-9223372036854775808 ≤ x7 + x25 ∧ x7 + x25 ≤ 9223372036854775807) ∧ ∀ (x26 : Int), x26 = x7 + x25 → ((0 < stb ∧ stb ≤ 16777216) ∧ okC ogb sgb ptb ∧ (-1073741824 : Int) ≤ x4 ∧ x4 ≤ 1073741824) ∧ ∀ (x27 : Int), x27 = mot stb ogb sgb ptb x4 → (decide (x6 < 0) = true → (0 ≤ blb ∧ blb ≤ 4096) ∧ ∀ (x28 : Int), x28 = bsh blb d1 → (-9223372036854775808 ≤ x27 + x28 ∧ x27 + x28 ≤ 9223372036854775807) ∧
    ∀ (x29 : Int), x29 = x27 + x28 → ((0 < stc ∧ stc ≤ 16777216) ∧ okC ogc sgc ptc ∧ (-1073741824 : Int) ≤ x5 ∧ x5 ≤ 1073741824) ∧ ∀ (x30 : Int), x30 = mot stc ogc sgc ptc x5 → (decide (x6 < 0) = true → (0 ≤ blc ∧ blc ≤ 4096) ∧ ∀ (x31 : Int), x31 = bsh blc d2 → (-9223372036854775808 ≤ x30 + x31 ∧ x30 + x31 ≤ 9223372036854775807) ∧ ∀ (x32 : Int), x32 = x30 + x31 → Q ⟨.agg [.int .i64 x26, .int .i64 x29, .int .i64 x32], false, [], []⟩) ∧ (decide (x6 < 0) = false → (0 ≤ x6 ∧ x6 < (List.length pk : Int)) ∧ (((0 : Int) ≤ (2 : Int) ∧ (2 : Int) ≤ (2 : Int)) ∧ (0 ≤ blc ∧ blc ≤ 4096) ∧ ((-18014398509481984 : Int) ≤ x1 ∧ x1 ≤ 18014398509481984) ∧ (-18014398509481984 : Int) ≤ el pk x6.toNat ∧ el pk x6.toNat ≤ 18014398509481984) ∧ ∀ (x33 : Int), x33 = tsh blc (ec pk x6.toNat 3) (sel3 (2 : Int) (ec pk x6.toNat 4) (ec pk x6.toNat 5) (ec pk x6.toNat 6)) (sel3 (2 : Int) (ec pk x6.toNat 7) (ec pk x6.toNat 8) (ec pk x6.toNat 9)) (el pk x6.toNat) x1 →
    (-9223372036854775808 ≤ x30 + x33 ∧ x30 + x33 ≤ 9223372036854775807) ∧ ∀ (x34 : Int), x34 = x30 + x33 → Q ⟨.agg [.int .i64 x26, .int .i64 x29, .int .i64 x34], false, [], []⟩)) ∧ (decide (x6 < 0) = false → (0 ≤ x6 ∧ x6 < (List.length pk : Int)) ∧ (((0 : Int) ≤ (1 : Int) ∧ (1 : Int) ≤ (2 : Int)) ∧ (0 ≤ blb ∧ blb ≤ 4096) ∧ ((-18014398509481984 : Int) ≤ x1 ∧ x1 ≤ 18014398509481984) ∧ (-18014398509481984 : Int) ≤ el pk x6.toNat ∧ el pk x6.toNat ≤ 18014398509481984) ∧ ∀ (x35 : Int), x35 = tsh blb (ec pk x6.toNat 3) (sel3 (1 : Int) (ec pk x6.toNat 4) (ec pk x6.toNat 5) (ec pk x6.toNat 6)) (sel3 (1 : Int) (ec pk x6.toNat 7) (ec pk x6.toNat 8) (ec pk x6.toNat 9)) (el pk x6.toNat) x1 → (-9223372036854775808 ≤ x27 + x35 ∧ x27 + x35 ≤ 9223372036854775807) ∧ ∀ (x36 : Int), x36 = x27 + x35 → ((0 < stc ∧ stc ≤ 16777216) ∧ okC ogc sgc ptc ∧ (-1073741824 : Int) ≤ x5 ∧ x5 ≤ 1073741824) ∧ ∀ (x37 : Int), x37 = mot stc ogc sgc ptc x5 →
    (decide (x6 < 0) = true → (0 ≤ blc ∧ blc ≤ 4096) ∧ ∀ (x38 : Int), x38 = bsh blc d2 → (-9223372036854775808 ≤ x37 + x38 ∧ x37 + x38 ≤ 9223372036854775807) ∧ ∀ (x39 : Int), x39 = x37 + x38 → Q ⟨.agg [.int .i64 x26, .int .i64 x36, .int .i64 x39], false, [], []⟩) ∧ (decide (x6 < 0) = false → (0 ≤ x6 ∧ x6 < (List.length pk : Int)) ∧ (((0 : Int) ≤ (2 : Int) ∧ (2 : Int) ≤ (2 : Int)) ∧ (0 ≤ blc ∧ blc ≤ 4096) ∧ ((-18014398509481984 : Int) ≤ x1 ∧ x1 ≤ 18014398509481984) ∧ (-18014398509481984 : Int) ≤ el pk x6.toNat ∧ el pk x6.toNat ≤ 18014398509481984) ∧ ∀ (x40 : Int), x40 = tsh blc (ec pk x6.toNat 3) (sel3 (2 : Int) (ec pk x6.toNat 4) (ec pk x6.toNat 5) (ec pk x6.toNat 6)) (sel3 (2 : Int) (ec pk x6.toNat 7) (ec pk x6.toNat 8) (ec pk x6.toNat 9)) (el pk x6.toNat) x1 → (-9223372036854775808 ≤ x37 + x40 ∧ x37 + x40 ≤ 9223372036854775807) ∧ ∀ (x41 : Int), x41 = x37 + x40 → Q ⟨.agg [.int .i64 x26, .int .i64 x36, .int .i64 x41], false, [], []⟩)))) := by kernel_rfl
end Go.Proofs.YtneingpnkdeooaaGreat
namespace U
theorem lfA_spec : ∀ (l : List (List Int)) (i s : Int), 0 ≤ s → (lfA l i s).1 = -1 ∨ ∃ j : Nat, j < l.length ∧ (lfA l i s).1 = i + j ∧ 0 ≤ (lfA l i s).2 ∧ (lfA l i s).2 < ec l j 3
  | [], i, s, _ => .inl rfl
  | r :: l, i, s, hs => by
    unfold lfA
    by_cases h : s < r.getD 3 0
    · rw [if_pos h]
      exact .inr ⟨0, by simp, by simp, hs, h⟩
    · rw [if_neg h]
      rcases lfA_spec l (i + 1) (s - r.getD 3 0) (by omega) with h1 | ⟨j, h1, h2, h3, h4⟩
      · exact .inl h1
      · exact .inr ⟨j + 1, by simp; exact h1, by rw [h2]; omega, h3, h4⟩
theorem pfind_spec {sg : List (List Int)} (h : okLen sg) (p : Int) : (sg.length = 0 ∧ pfind sg p = (-1, 0)) ∨ ∃ j : Nat, j < sg.length ∧ (pfind sg p).1 = j ∧ 0 ≤ (pfind sg p).2 ∧ (pfind sg p).2 ≤ ec sg j 3 := by
  unfold pfind
  by_cases h0 : sg.length = 0
  · rw [if_pos h0]; exact .inl ⟨h0, rfl⟩
  · rw [if_neg h0]
    right
    by_cases h1 : 0 ≤ (lfA sg 0 (max p 0)).1
    · rw [if_pos h1]
      rcases lfA_spec sg 0 (max p 0) (by omega) with h2 | ⟨j, h2, h3, h4, h5⟩
      · omega
      · exact ⟨j, h2, by omega, h4, by omega⟩
    · rw [if_neg h1]
      have := h.2 (sg.length - 1) (by omega)
      exact ⟨sg.length - 1, by omega, by dsimp only; omega, by dsimp only; omega, Int.le_refl _⟩
theorem rnd_hull {a d L : Int} (hd : 0 ≤ d ∧ d ≤ L) (hL : 0 < L) : (0 ≤ a → 0 ≤ rnd (a * d) L ∧ rnd (a * d) L ≤ a) ∧ (a ≤ 0 → a ≤ rnd (a * d) L ∧ rnd (a * d) L ≤ 0) := by
  unfold rnd
  refine ⟨fun ha => ?_, fun ha => ?_⟩
  · have h1 := Int.mul_nonneg ha hd.1
    have h2 : a * d ≤ a * L := Int.mul_le_mul_of_nonneg_left hd.2 ha
    refine ⟨Int.ediv_nonneg (by omega) (by omega), Int.lt_add_one_iff.1 (Int.ediv_lt_of_lt_mul (by omega) ?_)⟩
    have : (a + 1) * (2 * L) = 2 * (a * L) + 2 * L := by grind
    omega
  · have h1 : a * d ≤ 0 := Int.mul_nonpos_of_nonpos_of_nonneg ha hd.1
    have h2 : a * L ≤ a * d := Int.mul_le_mul_of_nonpos_left ha hd.2
    refine ⟨Int.le_ediv_of_mul_le (by omega) ?_, Int.lt_add_one_iff.1 (Int.ediv_lt_of_lt_mul (by omega) (by omega))⟩
    have : a * (2 * L) = 2 * (a * L) := by grind
    omega
theorem mul_bd3 {a d : Int} (ha : -1073741824 ≤ a ∧ a ≤ 1073741824) (hd : 0 ≤ d ∧ d ≤ 4294967296) : -4611686018427387904 ≤ a * d ∧ a * d ≤ 4611686018427387904 := by
  have := mul_bd2 (a := a) (b := d) (A := 1073741824) (B := 4294967296) ha hd
  omega
theorem coord_bd {s : Int} {sg : List (List Int)} {c : Nat} {j : Nat} {d : Int} (hl : okLen sg) (h0 : -536870912 ≤ s ∧ s ≤ 536870912) (h : ∀ j, j < sg.length → -536870912 ≤ ec sg j c ∧ ec sg j c ≤ 536870912) (hj : j < sg.length) (hd : 0 ≤ d ∧ d ≤ ec sg j 3) :
    (-1073741824 ≤ ec sg j c - bgn s sg c j ∧ ec sg j c - bgn s sg c j ≤ 1073741824) ∧ (-4611686018427387904 ≤ (ec sg j c - bgn s sg c j) * d ∧ (ec sg j c - bgn s sg c j) * d ≤ 4611686018427387904) ∧
    (-536870912 ≤ bgn s sg c j + rnd ((ec sg j c - bgn s sg c j) * d) (ec sg j 3) ∧ bgn s sg c j + rnd ((ec sg j c - bgn s sg c j) * d) (ec sg j 3) ≤ 536870912) := by
  have b := bgn_bd (i := (j : Int)) h0 h (by omega)
  have e := h j hj
  have len := hl.2 j hj
  have m := mul_bd3 (a := ec sg j c - bgn s sg c j) (d := d) (by omega) (by omega)
  have hu := rnd_hull (a := ec sg j c - bgn s sg c j) hd (by omega)
  refine ⟨by omega, m, ?_⟩
  by_cases hs : 0 ≤ ec sg j c - bgn s sg c j
  · have := hu.1 hs; omega
  · have := hu.2 (by omega); omega
theorem ptAt_bd {s : Int} {sg : List (List Int)} {c : Nat} (hl : okLen sg) (h0 : -536870912 ≤ s ∧ s ≤ 536870912) (h : ∀ j, j < sg.length → -536870912 ≤ ec sg j c ∧ ec sg j c ≤ 536870912) (p : Int) : -536870912 ≤ ptAt s sg c p ∧ ptAt s sg c p ≤ 536870912 := by
  unfold ptAt
  rcases pfind_spec hl p with ⟨h1, h2⟩ | ⟨j, h1, h2, h3, h4⟩
  · rw [h2]; exact h0
  · rw [if_neg (by omega), h2]
    exact (coord_bd hl h0 h h1 ⟨h3, h4⟩).2.2
theorem clamp_bd {n v : Int} (h : 0 ≤ n) : 0 ≤ clamp n v ∧ clamp n v ≤ n := by unfold clamp; omega
theorem clamp_idem {n v : Int} (h : 0 ≤ n) : clamp n (clamp n v) = clamp n v := by unfold clamp; omega
theorem clamp_in {n v : Int} (h : 0 ≤ v ∧ v ≤ n) : clamp n v = v := by unfold clamp; omega
theorem tpcA_of (u : Int) : ∀ (l : List (List Int)) (i : Int) (j : Nat), j < l.length → u ≤ endp l j → (∀ k, k < j → endp l k < u) → tpcA l i u = i + j
  | [], i, j, h, _, _ => absurd h (Nat.not_lt_zero _)
  | r :: l, i, 0, _, h, _ => by
    unfold tpcA
    have h : u ≤ r.getD 0 0 + r.getD 1 0 := h
    rw [if_pos h]; simp
  | r :: l, i, j + 1, hj, h, hk => by
    unfold tpcA
    have h0 := hk 0 (by omega)
    have h0 : r.getD 0 0 + r.getD 1 0 < u := h0
    rw [if_neg (by omega), tpcA_of u l (i + 1) j (by simpa using hj) h (fun k hk' => hk (k + 1) (by omega))]
    omega
theorem tpcA_spec (u : Int) : ∀ (l : List (List Int)) (i : Int), (tpcA l i u = -1 ∧ ∀ j, j < l.length → endp l j < u) ∨ ∃ j : Nat, j < l.length ∧ tpcA l i u = i + j ∧ u ≤ endp l j ∧ ∀ k, k < j → endp l k < u
  | [], i => .inl ⟨rfl, fun j hj => absurd hj (Nat.not_lt_zero _)⟩
  | r :: l, i => by
    unfold tpcA
    by_cases h : u ≤ r.getD 0 0 + r.getD 1 0
    · rw [if_pos h]
      exact .inr ⟨0, by simp, by simp, h, fun k hk => absurd hk (Nat.not_lt_zero _)⟩
    · rw [if_neg h]
      have h0 : endp (r :: l) 0 < u := by show r.getD 0 0 + r.getD 1 0 < u; omega
      rcases tpcA_spec u l (i + 1) with ⟨h1, h2⟩ | ⟨j, h1, h2, h3, h4⟩
      · refine .inl ⟨h1, fun j hj => ?_⟩
        cases j with
        | zero => exact h0
        | succ j => exact h2 j (by simpa using hj)
      · refine .inr ⟨j + 1, by simp; exact h1, by rw [h2]; omega, h3, fun k hk => ?_⟩
        cases k with
        | zero => exact h0
        | succ k => exact h4 k (by omega)
theorem tfind_of {pk : List (List Int)} {u : Int} {j : Nat} (h : j < pk.length) (h1 : u ≤ endp pk j) (h2 : ∀ k, k < j → endp pk k < u) : tfind pk u = j := by
  unfold tfind; rw [tpcA_of u pk 0 j h h1 h2]; omega
theorem endp_step {pk : List (List Int)} {ln : Int} (h : okTrk pk ln) {j : Nat} (hj : j + 1 < pk.length) : endp pk j < endp pk (j + 1) := by
  obtain ⟨_, _, _, _, h5, h6⟩ := h
  have a := h5 j hj
  have b := (h6 (j + 1) hj).1
  unfold endp at *
  omega
theorem endp_mono {pk : List (List Int)} {ln : Int} (h : okTrk pk ln) {i : Nat} : ∀ k : Nat, i + k < pk.length → endp pk i ≤ endp pk (i + k)
  | 0, _ => Int.le_refl _
  | k + 1, hk => by
    have h1 := endp_mono h (i := i) k (by omega)
    have h2 := endp_step h (j := i + k) (by omega)
    have : i + (k + 1) = i + k + 1 := rfl
    rw [this]; omega
theorem endp_le {pk : List (List Int)} {ln : Int} (h : okTrk pk ln) {i j : Nat} (hij : i ≤ j) (hj : j < pk.length) : endp pk i ≤ endp pk j := by
  have := endp_mono h (i := i) (j - i) (by omega)
  rw [show i + (j - i) = j by omega] at this
  exact this
theorem at_bd {pk : List (List Int)} {ln : Int} (h : okTrk pk ln) {j : Nat} (hj : j < pk.length) : 0 ≤ ec pk j 0 ∧ ec pk j 0 < endp pk j ∧ endp pk j ≤ ln := by
  have hu := (h.2.2.2.2.2 j hj).1
  have h4 := h.2.2.2.1 (by omega)
  have hl := endp_le h (i := j) (j := pk.length - 1) (by omega) (by omega)
  have e : endp pk j = ec pk j 0 + ec pk j 1 := rfl
  refine ⟨?_, by omega, by omega⟩
  cases j with
  | zero => omega
  | succ i =>
    have h5 := h.2.2.2.2.1 i hj
    have h0 := endp_le h (i := 0) (j := i) (by omega) (by omega)
    have hu0 := (h.2.2.2.2.2 0 (by omega)).1
    have e0 : endp pk 0 = ec pk 0 0 + ec pk 0 1 := rfl
    omega
theorem tfind_spec {pk : List (List Int)} {ln u : Int} (h : okTrk pk ln) (hu : u ≤ ln) : (pk.length = 0 ∧ tfind pk u = -1) ∨ ∃ j : Nat, j < pk.length ∧ tfind pk u = j ∧ u ≤ endp pk j ∧ ∀ k, k < j → endp pk k < u := by
  unfold tfind
  rcases tpcA_spec u pk 0 with ⟨h1, h2⟩ | ⟨j, h1, h2, h3, h4⟩
  · left
    refine ⟨?_, h1⟩
    by_cases h0 : pk.length = 0
    · exact h0
    · have a := h2 (pk.length - 1) (by omega)
      have b := h.2.2.2.1 (by omega)
      omega
  · exact .inr ⟨j, h1, by omega, h3, h4⟩
theorem mul3 {m x B : Int} (hm : -1 ≤ m ∧ m ≤ 1) (hx : -B ≤ x ∧ x ≤ B) : -B ≤ m * x ∧ m * x ≤ B := by
  have : m = -1 ∨ m = 0 ∨ m = 1 := by omega
  rcases this with rfl | rfl | rfl <;> omega
theorem tplace_bd {pk : List (List Int)} {ln sa u : Int} (h : okTrk pk ln) (hsa : 0 ≤ sa ∧ sa ≤ 18014398509481984) (hu : 0 ≤ u ∧ u ≤ ln) : -36028797018963968 ≤ tplace pk sa u ∧ tplace pk sa u ≤ 36028797018963968 := by
  unfold tplace
  rcases tfind_spec h hu.2 with ⟨h1, h2⟩ | ⟨j, h1, h2, h3, h4⟩
  · rw [h2, if_pos (by decide)]; omega
  · rw [if_neg (by omega), h2]
    have hj : ((j : Int)).toNat = j := rfl
    rw [hj]
    have a := at_bd h h1
    have b := h.2.2.2.2.2 j h1
    have hl := h.2.1
    have c := mul3 (x := u - ec pk j 0) (B := 18014398509481984) b.2.2 (by omega)
    omega
end U
namespace Go.Proofs.YtneingpnkdeooaaGreat
open Go Go.HL U
attribute [local irreducible] hfun bodyT fragT
set_option maxHeartbeats 400000 in
set_option maxRecDepth 100000 in
theorem sClamp : Sound Tryz.prog 42 SClamp := by
  refine sound_of (C := CClamp) [] Tryz.func42 (by kernel_rfl) (by decide +kernel) (by kernel_rfl) rfl trivial (loops0 (by kernel_rfl)) ?_
  intro hargs pars R h
  unfold SClamp at h
  split at h
  case h_2 => exfalso; exact h
  rename_i v n
  refine byVC (vcClamp v n R) ?_
  rintro _ rfl x2 e2
  have := h.1
  have e : clamp n v = x2 := by unfold clamp; omega
  rw [← e]; exact h.2
theorem loopTF : ∀ v Q, (LTF v).wp Q → hloop CTF anTF (nthLoop Tryz.f43 0) v Q := by
  intro v Q h
  unfold LTF at h
  split at h
  case h_2 => exact h.elim
  rename_i u z lo hi pk ln sa d0 d1 d2
  obtain ⟨⟨hlo, hhi, ht, hu0, hu1⟩, hq⟩ := h
  subst hlo hhi
  refine hloop_rec (σ := Int × Int) (fun s => ([.ce (.int .i64 u), .ce (.ptr 1000002 0), .ce (.int .i64 z), .ce (.int .i64 s.1), .ce (.int .i64 s.2)], [[.sl false [4, 4, 4, 4, 4, 4, 4, 4, 4, 4] pk, .int .i64 ln, .int .i64 sa, .int .i64 d0, .int .i64 d1, .int .i64 d2]]))
    (fun s => (s.2 - s.1).toNat) (fun s => (pk.length = 0 ∧ s = (0, -1)) ∨ ((0 ≤ s.1 ∧ s.1 ≤ s.2 ∧ s.2 < pk.length) ∧ u ≤ endp pk s.2.toNat ∧ ∀ k : Nat, (k : Int) < s.1 → endp pk k < u)) ?_ (0, (pk.length : Int) - 1) ?_
  · rintro ⟨lo, hi⟩ hI K hn hx _
    dsimp only at hI hn ⊢
    have hl1 := ht.1
    refine byVB (vbTF u z lo hi ln sa d0 d1 d2 pk K) ⟨fun g => ?_, fun g => ?_⟩
    · have g := of_decide_eq_true g
      rcases hI with ⟨h1, h2⟩ | ⟨⟨h1, h2, h3⟩, h4, h5⟩
      · cases h2; omega
      refine ⟨by omega, fun x1 e1 => ⟨by decide, ?_⟩⟩
      have hd : x1.tdiv 2 = x1 / 2 := Int.tdiv_eq_ediv_of_nonneg (by omega)
      rw [hd]
      refine ⟨by omega, fun x2 e2 => ⟨by omega, ?_⟩⟩
      have hb := at_bd ht (j := x2.toNat) (by omega)
      have hln := ht.2.1
      have ee : el pk x2.toNat + ec pk x2.toNat 1 = endp pk x2.toNat := rfl
      rw [ee]
      refine ⟨by omega, fun x3 e3 => ⟨fun g2 => ?_, fun g2 => ⟨by omega, fun x4 e4 => ?_⟩⟩⟩
      · have g2 := of_decide_eq_true g2
        exact hn (lo, x2) (.inr ⟨⟨h1, by dsimp only; omega, by dsimp only; omega⟩, by dsimp only; omega, h5⟩) (by dsimp only; omega)
      · have g2 := of_decide_eq_false g2
        refine hn (x4, hi) (.inr ⟨⟨by dsimp only; omega, by dsimp only; omega, h3⟩, h4, fun k hk => ?_⟩) (by dsimp only; omega)
        have := endp_le ht (i := k) (j := x2.toNat) (by dsimp only at hk; omega) (by omega)
        omega
    · have g := of_decide_eq_false g
      have e : tfind pk u = hi := by
        rcases hI with ⟨h1, h2⟩ | ⟨⟨h1, h2, h3⟩, h4, h5⟩
        · cases h2
          have : pk = [] := List.eq_nil_of_length_eq_zero h1
          subst this; rfl
        · have := tfind_of (pk := pk) (u := u) (j := hi.toNat) (by omega) h4 (fun k hk => h5 k (by omega))
          omega
      rw [e] at hq
      exact hx 0 _ hq
  · by_cases h0 : pk.length = 0
    · exact .inl ⟨h0, by rw [h0]; rfl⟩
    · have h4 := ht.2.2.2.1 (by omega)
      refine .inr ⟨⟨Int.le_refl _, by dsimp only; omega, by dsimp only; omega⟩, ?_, fun k hk => by dsimp only at hk; omega⟩
      dsimp only
      rw [show ((pk.length : Int) - 1).toNat = pk.length - 1 by omega]
      omega
set_option maxHeartbeats 400000 in
set_option maxRecDepth 100000 in
theorem sTFind : Sound Tryz.prog 43 STFind := by
  refine sound_of (C := CTF) [] Tryz.func43 (by kernel_rfl) (by decide +kernel) (by kernel_rfl) rfl trivial (loops1 (by kernel_rfl) (loopOK_of (an := anTF) (S := LTF) (by kernel_rfl) loopTF)) ?_
  intro hargs pars R h
  unfold STFind at h
  split at h
  case h_2 => exfalso; exact h
  rename_i pk ln sa d0 d1 d2 u
  obtain ⟨⟨h1, h2, h3⟩, hq⟩ := h
  have := h1.1
  exact byVC (vcTF u ln sa d0 d1 d2 pk R) ⟨by omega, fun x1 e1 => ⟨⟨rfl, e1, h1, h2, h3⟩, hq⟩⟩
set_option maxHeartbeats 400000 in
set_option maxRecDepth 100000 in
theorem sPlace : Sound Tryz.prog 21 SPlace := by
  refine sound_of (C := CPlace) tabTF Tryz.func21 (by kernel_rfl) (by decide +kernel) (by kernel_rfl) rfl ⟨sClamp, sTFind, trivial⟩ (loops0 (by kernel_rfl)) ?_
  intro hargs pars R h
  unfold SPlace at h
  split at h
  case h_2 => exfalso; exact h
  rename_i pk ln sa d0 d1 d2 u
  obtain ⟨ht, hq⟩ := h
  have hl := ht.2.1
  have hc := clamp_bd (v := u) hl.1
  unfold tplace at hq
  refine byVC (vcPlace u ln sa d0 d1 d2 pk R) ⟨hl.1, fun x1 e1 => ?_⟩
  rw [← e1] at hq hc
  refine ⟨⟨ht, hc⟩, fun x2 e2 => ?_⟩
  rw [← e2] at hq
  refine ⟨fun g => ?_, fun g => ?_⟩
  · rw [if_pos (of_decide_eq_true g)] at hq; exact hq
  · have g := of_decide_eq_false g
    rw [if_neg g] at hq
    rcases tfind_spec ht hc.2 with ⟨h1, h2⟩ | ⟨j, h1, h2, h3, h4⟩
    · omega
    have hj : x2.toNat = j := by omega
    have a := at_bd ht h1
    have b := ht.2.2.2.2.2 j h1
    rw [hj] at hq ⊢
    refine ⟨by omega, fun x3 e3 => ⟨by omega, fun x4 e4 => ⟨by omega, fun x5 e5 => ?_⟩⟩⟩
    have e5 : x5 = ec pk j 0 := e5
    have c := mul3 (m := x4) (x := x1 - x5) (B := 18014398509481984) (by omega) (by omega)
    refine ⟨by omega, fun x6 e6 => ?_⟩
    rw [← e6] at c
    refine ⟨by omega, fun x7 e7 => ⟨by omega, fun x8 e8 => ?_⟩⟩
    rw [e8, e7, e6, e5, e4, e3]
    exact hq
set_option maxHeartbeats 400000 in
set_option maxRecDepth 100000 in
theorem sBsh : Sound Tryz.prog 44 SBsh := by
  refine sound_of (C := CBsh) [] Tryz.func44 (by kernel_rfl) (by decide +kernel) (by kernel_rfl) rfl trivial (loops0 (by kernel_rfl)) ?_
  intro hargs pars R h
  unfold SBsh at h
  split at h
  case h_2 => exfalso; exact h
  rename_i sta spa aca jea loa hia bla oga sga pta d
  obtain ⟨h1, hq⟩ := h
  unfold bsh at hq
  refine byVC (vcBsh sta spa aca jea loa hia bla oga sga pta d R) ⟨fun g => ⟨by omega, fun x1 e1 => ?_⟩, fun g => ?_⟩
  · rw [if_pos (by simpa using g)] at hq
    rw [show x1 = -bla by omega]; exact hq
  · rw [if_neg (by simpa using g)] at hq; exact hq
theorem mdv2 (n c : Int) : mdv n c 2 = rnd n c := by unfold mdv rnd; simp
set_option maxHeartbeats 400000 in
set_option maxRecDepth 100000 in
theorem sAt : Sound Tryz.prog 23 SAt := by
  refine sound_of (C := CAt) tabAt Tryz.func23 (by kernel_rfl) (by decide +kernel) (by kernel_rfl) rfl ⟨sPFind, sMulDiv, trivial⟩ (loopsAll (by kernel_rfl)) ?_
  intro hargs pars R h
  unfold SAt at h
  split at h
  case h_2 => exfalso; exact h
  rename_i s0 s1 s2 sg mk p
  obtain ⟨⟨hl, ⟨k0, k1, k2, kk⟩, hp⟩, hq⟩ := h
  unfold ptAt at hq
  refine byVC (vcAt s0 s1 s2 p sg mk R) ⟨⟨hl, hp⟩, ⟨_, rfl⟩, fun x ex => ?_⟩
  have sp := pfind_spec hl p
  rw [← ex] at sp hq
  rcases sp with ⟨h1, h2⟩ | ⟨j, h1, h2, h3, h4⟩
  · rw [h2] at hq ⊢
    exact ⟨fun _ => hq, fun g => absurd g (by decide)⟩
  rw [if_neg (by omega), if_neg (by omega), if_neg (by omega), h2] at hq
  have hj : ((j : Int)).toNat = j := rfl
  rw [hj] at hq
  have hlen := hl.2 j h1
  have hl1 := hl.1
  have c0 := coord_bd hl k0 (fun j hj => (kk j hj).1) h1 ⟨h3, h4⟩
  have c1 := coord_bd hl k1 (fun j hj => (kk j hj).2.1) h1 ⟨h3, h4⟩
  have c2 := coord_bd hl k2 (fun j hj => (kk j hj).2.2) h1 ⟨h3, h4⟩
  have hx1 : x.1.toNat = j := by omega
  rw [hx1]
  refine ⟨fun g => ?_, fun g => ⟨fun g2 => ?_, fun g2 => ?_⟩⟩
  · have g := of_decide_eq_true g; omega
  · have g2 := of_decide_eq_true g2
    refine ⟨by omega, fun x2 e2 => ⟨by omega, by omega, ?_⟩⟩
    have hx2 : x2.toNat = j - 1 := by omega
    rw [hx2]
    have b : ∀ s c, bgn s sg c (j : Int) = ec sg (j - 1) c := fun s c => by
      unfold bgn; rw [if_neg (by omega), show ((j : Int) - 1).toNat = j - 1 by omega]
    rw [b, b, b] at hq
    rw [b] at c0 c1 c2
    have c0 : (-1073741824 ≤ el sg j - el sg (j - 1) ∧ el sg j - el sg (j - 1) ≤ 1073741824) ∧ (-4611686018427387904 ≤ (el sg j - el sg (j - 1)) * x.2 ∧ (el sg j - el sg (j - 1)) * x.2 ≤ 4611686018427387904) ∧
        (-536870912 ≤ el sg (j - 1) + rnd ((el sg j - el sg (j - 1)) * x.2) (ec sg j 3) ∧ el sg (j - 1) + rnd ((el sg j - el sg (j - 1)) * x.2) (ec sg j 3) ≤ 536870912) := c0
    refine ⟨by omega, ?_⟩
    rintro _ rfl
    refine ⟨⟨by omega, by omega, by omega, c0.2.1, by decide, by decide⟩, ?_⟩
    rw [mdv2]
    rintro _ rfl _ _
    refine ⟨by omega, ?_⟩
    rintro _ rfl
    refine ⟨by omega, ?_⟩
    rintro _ rfl
    refine ⟨⟨by omega, by omega, by omega, c1.2.1, by decide, by decide⟩, ?_⟩
    rw [mdv2]
    rintro _ rfl _ _
    refine ⟨by omega, ?_⟩
    rintro _ rfl
    refine ⟨by omega, ?_⟩
    rintro _ rfl
    refine ⟨⟨by omega, by omega, by omega, c2.2.1, by decide, by decide⟩, ?_⟩
    rw [mdv2]
    rintro _ rfl _ _
    refine ⟨by omega, ?_⟩
    rintro _ rfl
    exact hq
  · have g2 := of_decide_eq_false g2
    refine ⟨by omega, ?_⟩
    have b : ∀ s c, bgn s sg c (j : Int) = s := fun s c => by
      unfold bgn; rw [if_pos (by omega)]
    rw [b, b, b] at hq
    rw [b] at c0 c1 c2
    have c0 : (-1073741824 ≤ el sg j - s0 ∧ el sg j - s0 ≤ 1073741824) ∧ (-4611686018427387904 ≤ (el sg j - s0) * x.2 ∧ (el sg j - s0) * x.2 ≤ 4611686018427387904) ∧
        (-536870912 ≤ s0 + rnd ((el sg j - s0) * x.2) (ec sg j 3) ∧ s0 + rnd ((el sg j - s0) * x.2) (ec sg j 3) ≤ 536870912) := c0
    refine ⟨by omega, ?_⟩
    rintro _ rfl
    refine ⟨⟨by omega, by omega, by omega, c0.2.1, by decide, by decide⟩, ?_⟩
    rw [mdv2]
    rintro _ rfl _ _
    refine ⟨by omega, ?_⟩
    rintro _ rfl
    refine ⟨by omega, ?_⟩
    rintro _ rfl
    refine ⟨⟨by omega, by omega, by omega, c1.2.1, by decide, by decide⟩, ?_⟩
    rw [mdv2]
    rintro _ rfl _ _
    refine ⟨by omega, ?_⟩
    rintro _ rfl
    refine ⟨by omega, ?_⟩
    rintro _ rfl
    refine ⟨⟨by omega, by omega, by omega, c2.2.1, by decide, by decide⟩, ?_⟩
    rw [mdv2]
    rintro _ rfl _ _
    refine ⟨by omega, ?_⟩
    rintro _ rfl
    exact hq
theorem tsh_fin {bl mv w d at_ u : Int} {R : Res → Prop} (hb : 0 ≤ bl ∧ bl ≤ 4096) (hu : -18014398509481984 ≤ u ∧ u ≤ 18014398509481984) (ha : -18014398509481984 ≤ at_ ∧ at_ ≤ 18014398509481984) (hq : R ⟨.ce (.int .i64 (tsh bl mv w d at_ u)), false, [], []⟩) :
    ((mv != 0) = true → (0 ≤ bl ∧ bl ≤ 4096) ∧ ∀ x1 : Int, x1 = bsh bl d → R ⟨.ce (.int .i64 x1), false, [], []⟩) ∧
    ((mv != 0) = false → ((w == d) = true → (0 ≤ bl ∧ bl ≤ 4096) ∧ ∀ x2 : Int, x2 = bsh bl d → R ⟨.ce (.int .i64 x2), false, [], []⟩) ∧
      ((w == d) = false → (-9223372036854775808 ≤ u - at_ ∧ u - at_ ≤ 9223372036854775807) ∧ ∀ x3 : Int, x3 = u - at_ → ∀ x4 : Int, x4 = min x3 bl →
        ((d == -1) = true → (-9223372036854775808 ≤ 0 - x4 ∧ 0 - x4 ≤ 9223372036854775807) ∧ ∀ x5 : Int, x5 = 0 - x4 → R ⟨.ce (.int .i64 x5), false, [], []⟩) ∧
        ((d == -1) = false → (-9223372036854775808 ≤ x4 - bl ∧ x4 - bl ≤ 9223372036854775807) ∧ ∀ x6 : Int, x6 = x4 - bl → R ⟨.ce (.int .i64 x6), false, [], []⟩))) := by
  unfold tsh at hq
  refine ⟨fun g => ⟨hb, fun x e => ?_⟩, fun g => ⟨fun g2 => ⟨hb, fun x e => ?_⟩, fun g2 => ⟨by omega, fun x3 e3 x4 e4 => ⟨fun g3 => ⟨by omega, fun x e => ?_⟩, fun g3 => ⟨by omega, fun x e => ?_⟩⟩⟩⟩⟩
  · have g : mv ≠ 0 := by simpa using g
    rw [if_pos (.inl g)] at hq; rw [e]; exact hq
  · have g2 : w = d := by simpa using g2
    rw [if_pos (.inr g2)] at hq; rw [e]; exact hq
  · have g : mv = 0 := by simpa using g
    have g2 : w ≠ d := by simpa using g2
    have g3 : d = -1 := by simpa using g3
    rw [if_neg (by intro hh; rcases hh with h | h; exact h g; exact g2 h), if_pos g3] at hq
    rw [show x = -(min (u - at_) bl) by omega]; exact hq
  · have g : mv = 0 := by simpa using g
    have g2 : w ≠ d := by simpa using g2
    have g3 : d ≠ -1 := by simpa using g3
    rw [if_neg (by intro hh; rcases hh with h | h; exact h g; exact g2 h), if_neg g3] at hq
    rw [show x = min (u - at_) bl - bl by omega]; exact hq
set_option maxHeartbeats 400000 in
set_option maxRecDepth 100000 in
theorem sTsh : Sound Tryz.prog 45 STsh := by
  refine sound_of (C := CTsh) tabTsh Tryz.func45 (by kernel_rfl) (by decide +kernel) (by kernel_rfl) rfl ⟨sBsh, trivial⟩ (loops0 (by kernel_rfl)) ?_
  intro hargs pars R h
  unfold STsh at h
  split at h
  case h_2 => exfalso; exact h
  rename_i sta spa aca jea loa hia bla oga sga pta q0 q1 q2 q3 q4 q5 q6 q7 q8 q9 k u
  obtain ⟨⟨hk, hb, hu, ha⟩, hq⟩ := h
  refine byVC (vcTsh sta spa aca jea loa hia bla oga sga pta q0 q1 q2 q3 q4 q5 q6 q7 q8 q9 k u R) ⟨fun e => ?_, fun e => ⟨fun e2 => ?_, fun e2 => ⟨fun e3 => ?_, fun e3 => by omega⟩⟩⟩
  · subst e; exact tsh_fin hb hu ha hq
  · subst e2; exact tsh_fin hb hu ha hq
  · subst e3; exact tsh_fin hb hu ha hq
theorem bsh_bd {bl d : Int} (h : 0 ≤ bl ∧ bl ≤ 4096) : -4096 ≤ bsh bl d ∧ bsh bl d ≤ 0 := by unfold bsh; split <;> omega
theorem tsh_bd {bl mv w d at_ u : Int} (h : 0 ≤ bl ∧ bl ≤ 4096) (hu : at_ ≤ u) : -4096 ≤ tsh bl mv w d at_ u ∧ tsh bl mv w d at_ u ≤ 0 := by
  have := bsh_bd (d := d) h
  unfold tsh
  split
  · exact this
  · split <;> omega
theorem motr_bd {st og sg p : Int} {pit : List (List Int)} (h : 0 < st) (hc : okC og sg pit) (hp : -1073741824 ≤ p ∧ p ≤ 1073741824) : -2199023255552 ≤ mot st og sg pit p ∧ mot st og sg pit p ≤ 2199023255554 := by
  have hb := corr_bd hc p
  rw [← stp_eq]
  exact stp_bd h (by omega)
set_option maxHeartbeats 400000 in
set_option maxRecDepth 100000 in
theorem sMotors : Sound Tryz.prog 19 SMotors := by
  refine sound_of (C := CMotors) tabMotors Tryz.func19 (by kernel_rfl) (by decide +kernel) (by kernel_rfl) rfl ⟨sClamp, sPlace, sAt, sTFind, sMotor, sBsh, sTsh, trivial⟩ (loopsAll (by kernel_rfl)) ?_
  intro hargs pars R h
  unfold SMotors at h
  split at h
  case h_2 => exfalso; exact h
  rename_i s0 s1 s2 sg mk ax pk ln sa d0 d1 d2 u
  split at h
  case h_2 => exact h.elim
  rename_i sta spa aca jea loa hia bla oga sga pta stb spb acb jeb lob hib blb ogb sgb ptb stc spc acc jec loc hic blc ogc sgc ptc
  obtain ⟨⟨hl, ⟨k0, k1, k2, kk⟩, ht, ma, mb, mc, hsa⟩, hq⟩ := h
  have hln := ht.2.1
  have hc := clamp_bd (v := u) hln.1
  unfold tmot at hq
  refine byVC (vcMotors s0 s1 s2 u ln sa d0 d1 d2 sg mk pk sta spa aca jea loa hia bla oga sga stb spb acb jeb lob hib blb ogb sgb stc spc acc jec loc hic blc ogc sgc pta ptb ptc R) ⟨hln.1, fun x1 e1 => ⟨ht, fun x2 e2 => ?_⟩⟩
  have hci := clamp_idem (v := u) hln.1
  rw [← e1] at hq hc hci
  rw [hci] at e2
  have hx2 := tplace_bd ht hsa hc
  rw [← e2] at hq hx2
  refine ⟨⟨hl, ⟨k0, k1, k2, kk⟩, by omega⟩, fun x3 e3 x4 e4 x5 e5 => ?_⟩
  have p0 := ptAt_bd hl k0 (fun j hj => (kk j hj).1) x2
  have p1 := ptAt_bd hl k1 (fun j hj => (kk j hj).2.1) x2
  have p2 := ptAt_bd hl k2 (fun j hj => (kk j hj).2.2) x2
  rw [← e3] at hq p0
  rw [← e4] at hq p1
  rw [← e5] at hq p2
  refine ⟨⟨ht, hc⟩, fun x6 e6 => ?_⟩
  rw [← e6] at hq
  have q0 := motr_bd ma.1.1 ma.2.1 (p := x3) (by omega)
  have q1 := motr_bd mb.1.1 mb.2.1 (p := x4) (by omega)
  have q2 := motr_bd mc.1.1 mc.2.1 (p := x5) (by omega)
  refine ⟨⟨ma.1, ma.2.1, by omega⟩, fun x7 e7 => ?_⟩
  rw [← e7] at hq q0
  rcases tfind_spec ht hc.2 with ⟨h1, h2⟩ | ⟨j, h1, h2, h3, h4⟩
  · have hx6 : x6 < 0 := by omega
    rw [if_pos hx6, if_pos hx6, if_pos hx6] at hq
    have w0 := bsh_bd (d := d0) ma.2.2
    have w1 := bsh_bd (d := d1) mb.2.2
    have w2 := bsh_bd (d := d2) mc.2.2
    have no : ∀ {P : Prop}, decide (x6 < 0) = false → P := fun g => absurd hx6 (of_decide_eq_false g)
    refine ⟨fun _ => ⟨ma.2.2, fun x8 e8 => ⟨by omega, fun x9 e9 => ⟨⟨mb.1, mb.2.1, by omega⟩, fun x10 e10 => ⟨fun _ => ⟨mb.2.2, fun x11 e11 => ⟨by omega, fun x12 e12 => ⟨⟨mc.1, mc.2.1, by omega⟩, fun x13 e13 => ⟨fun _ => ⟨mc.2.2, fun x14 e14 => ⟨by omega, fun x15 e15 => ?_⟩⟩, no⟩⟩⟩⟩, no⟩⟩⟩⟩, no⟩
    rw [← e8, ← e10, ← e11, ← e13, ← e14, ← e9, ← e12, ← e15] at hq
    exact hq
  · have hx6 : ¬ x6 < 0 := by omega
    rw [if_neg hx6, if_neg hx6, if_neg hx6] at hq
    have hj : x6.toNat = j := by omega
    rw [hj] at hq ⊢
    have a := at_bd ht h1
    have hat : ec pk j 0 ≤ x1 := by
      cases j with
      | zero => have := (ht.2.2.2.1 (by omega)).1; omega
      | succ i =>
        have := h4 i (by omega)
        have := ht.2.2.2.2.1 i h1
        omega
    have a0 : -18014398509481984 ≤ el pk j ∧ el pk j ≤ 18014398509481984 := by
      have : el pk j = ec pk j 0 := rfl
      omega
    have yes : ∀ {P : Prop}, decide (x6 < 0) = true → P := fun g => absurd (of_decide_eq_true g) hx6
    have w0 := tsh_bd (mv := ec pk j 3) (w := ec pk j 4) (d := ec pk j 7) ma.2.2 hat
    have w1 := tsh_bd (mv := ec pk j 3) (w := ec pk j 5) (d := ec pk j 8) mb.2.2 hat
    have w2 := tsh_bd (mv := ec pk j 3) (w := ec pk j 6) (d := ec pk j 9) mc.2.2 hat
    have hin : 0 ≤ x6 ∧ x6 < (pk.length : Int) := by omega
    have hx1 : -18014398509481984 ≤ x1 ∧ x1 ≤ 18014398509481984 := by omega
    refine ⟨yes, fun _ => ⟨hin, ⟨by decide, ma.2.2, hx1, a0⟩, fun y0 f0 => ?_⟩⟩
    have f0 : y0 = tsh bla (ec pk j 3) (ec pk j 4) (ec pk j 7) (ec pk j 0) x1 := f0
    rw [← f0] at w0
    refine ⟨by omega, fun z0 g0 => ⟨⟨mb.1, mb.2.1, by omega⟩, fun x10 e10 => ⟨yes, fun _ => ⟨hin, ⟨by decide, mb.2.2, hx1, a0⟩, fun y1 f1 => ?_⟩⟩⟩⟩
    have f1 : y1 = tsh blb (ec pk j 3) (ec pk j 5) (ec pk j 8) (ec pk j 0) x1 := f1
    rw [← f1] at w1
    refine ⟨by omega, fun z1 g1 => ⟨⟨mc.1, mc.2.1, by omega⟩, fun x20 e20 => ⟨yes, fun _ => ⟨hin, ⟨by decide, mc.2.2, hx1, a0⟩, fun y2 f2 => ?_⟩⟩⟩⟩
    have f2 : y2 = tsh blc (ec pk j 3) (ec pk j 6) (ec pk j 9) (ec pk j 0) x1 := f2
    rw [← f2] at w2
    refine ⟨by omega, fun z2 g2 => ?_⟩
    rw [g0, g1, g2, f0, f1, f2, e10, e20]
    exact hq
end Go.Proofs.YtneingpnkdeooaaGreat
namespace U
open Go
def pl1 (u k n w : Int) : List (List Int) := if n ≠ w then [[u, k, n - w]] else []
def plAt (M0 M1 M2 : Int → Int) (u : Int) : List (List Int) := pl1 u 0 (M0 u) (M0 (u - 1)) ++ pl1 u 1 (M1 u) (M1 (u - 1)) ++ pl1 u 2 (M2 u) (M2 (u - 1))
def plN (M0 M1 M2 : Int → Int) (a : Int) : Nat → List (List Int)
  | 0 => []
  | n + 1 => plN M0 M1 M2 a n ++ plAt M0 M1 M2 (a + (n : Int) + 1)
def mtr (st og sg : Int) (pt : List (List Int)) (bl s : Int) (sgs : List (List Int)) (c : Nat) (pk : List (List Int)) (sa d : Int) (u : Int) : Int := tmot st og sg pt bl (ptAt s sgs c (tplace pk sa u)) pk d u c
def sumAx (a : Int) : List (List Int) → Int
  | [] => 0
  | r :: l => (if r.getD 1 0 = a then r.getD 2 0 else 0) + sumAx a l
def okDir (l : List (List Int)) : Prop := l.length ≤ 1048576 ∧ ∀ j, j < l.length → -1099511627776 ≤ ec l j 2 ∧ ec l j 2 ≤ 1099511627776
def okSum (l : List (List Int)) : Prop := l.length ≤ 4611686018427387904 ∧ ∀ (a : Int) (k : Nat), 0 ≤ a → a ≤ 2 → k ≤ l.length → -4611686018427387904 ≤ sumAx a (l.take k) ∧ sumAx a (l.take k) ≤ 4611686018427387904
end U
namespace Go.Proofs.YtneingpnkdeooaaGreat
open Go Go.HL U
def SBetween (hargs : List HV) (pars : List (List HC)) : SR :=
  match hargs, pars with
  | [.agg [.int .i64 s0, .int .i64 s1, .int .i64 s2, .sl false [4, 4, 4, 4, 4, 4, 4] sg, .sl false [4, 4, 4] mk], .agg ax, .agg [.sl false [4, 4, 4, 4, 4, 4, 4, 4, 4, 4] pk, .int .i64 ln, .int .i64 sa, .int .i64 d0, .int .i64 d1, .int .i64 d2], .ce (.int .i64 f), .ce (.int .i64 t)], [] =>
    match ax with
    | [.int .i64 sta, .int .i64 spa, .int .i64 aca, .int .i64 jea, .int .i64 loa, .int .i64 hia, .int .i64 bla, .int .i64 oga, .int .i64 sga, .sl false [4] pta, .int .i64 stb, .int .i64 spb, .int .i64 acb, .int .i64 jeb, .int .i64 lob, .int .i64 hib, .int .i64 blb, .int .i64 ogb, .int .i64 sgb, .sl false [4] ptb, .int .i64 stc, .int .i64 spc, .int .i64 acc, .int .i64 jec, .int .i64 loc, .int .i64 hic, .int .i64 blc, .int .i64 ogc, .int .i64 sgc, .sl false [4] ptc] =>
      .all ((okLen sg ∧ okPts s0 s1 s2 sg ∧ okTrk pk ln ∧ okMA sta oga sga pta bla ∧ okMA stb ogb sgb ptb blb ∧ okMA stc ogc sgc ptc blc ∧ (0 ≤ sa ∧ sa ≤ 18014398509481984)) ∧ ln ≤ 1099511627776) (List (List Int))
        (fun x => x = plN (mtr sta oga sga pta bla s0 sg 0 pk sa d0) (mtr stb ogb sgb ptb blb s1 sg 1 pk sa d1) (mtr stc ogc sgc ptc blc s2 sg 2 pk sa d2) (clamp ln f) (clamp ln t - clamp ln f).toNat)
        (fun x => ⟨.ce (.sl false [4, 4, 4] x), true, [], []⟩)
    | _ => .fail
  | _, _ => .fail
def tabBtw : List (FuncId × HL.Spec) := [(19, SMotors)]
def anBtw : LAnn := ⟨[4, 5, 6, 7, 11, 100011, 12, 13], [11, 100011], [1000005, 1000006, 1000007, 1000012], false⟩
def LBtw (v : LV) : LR :=
  match v with
  | ([.ce (.int .i64 t), .ce (.ptr 1000005 0), .ce (.ptr 1000006 0), .ce (.ptr 1000007 0), .ce (.sl false [4, 4, 4] l), .ce (.lit true), .ce (.ptr 1000012 0), .ce (.int .i64 u)], [[.int .i64 s0, .int .i64 s1, .int .i64 s2, .sl false [4, 4, 4, 4, 4, 4, 4] sg, .sl false [4, 4, 4] mk], ax, tr, [.int .i64 w0, .int .i64 w1, .int .i64 w2]]) =>
    match ax with
    | [.int .i64 sta, .int .i64 spa, .int .i64 aca, .int .i64 jea, .int .i64 loa, .int .i64 hia, .int .i64 bla, .int .i64 oga, .int .i64 sga, .sl false [4] pta, .int .i64 stb, .int .i64 spb, .int .i64 acb, .int .i64 jeb, .int .i64 lob, .int .i64 hib, .int .i64 blb, .int .i64 ogb, .int .i64 sgb, .sl false [4] ptb, .int .i64 stc, .int .i64 spc, .int .i64 acc, .int .i64 jec, .int .i64 loc, .int .i64 hic, .int .i64 blc, .int .i64 ogc, .int .i64 sgc, .sl false [4] ptc] => match tr with
      | [.sl false [4, 4, 4, 4, 4, 4, 4, 4, 4, 4] pk, .int .i64 ln, .int .i64 sa, .int .i64 d0, .int .i64 d1, .int .i64 d2] =>
        .all ((okLen sg ∧ okPts s0 s1 s2 sg ∧ okTrk pk ln ∧ okMA sta oga sga pta bla ∧ okMA stb ogb sgb ptb blb ∧ okMA stc ogc sgc ptc blc ∧ (0 ≤ sa ∧ sa ≤ 18014398509481984)) ∧ ln ≤ 1099511627776 ∧ (0 ≤ u ∧ u ≤ ln) ∧ (0 ≤ t ∧ t ≤ ln) ∧ l.length = 0 ∧
            w0 = mtr sta oga sga pta bla s0 sg 0 pk sa d0 u ∧ w1 = mtr stb ogb sgb ptb blb s1 sg 1 pk sa d1 u ∧ w2 = mtr stc ogc sgc ptc blc s2 sg 2 pk sa d2 u)
          (List (List Int) × Int × Int × Int) (fun x => x.1 = plN (mtr sta oga sga pta bla s0 sg 0 pk sa d0) (mtr stb ogb sgb ptb blb s1 sg 1 pk sa d1) (mtr stc ogc sgc ptc blc s2 sg 2 pk sa d2) u (t - u).toNat) (fun _ => .exit 0)
          (fun x => ([.ce (.sl false [4, 4, 4] x.1), .ce (.lit true)], [[.int .i64 s0, .int .i64 s1, .int .i64 s2, .sl false [4, 4, 4, 4, 4, 4, 4] sg, .sl false [4, 4, 4] mk], [.int .i64 sta, .int .i64 spa, .int .i64 aca, .int .i64 jea, .int .i64 loa, .int .i64 hia, .int .i64 bla, .int .i64 oga, .int .i64 sga, .sl false [4] pta, .int .i64 stb, .int .i64 spb, .int .i64 acb, .int .i64 jeb, .int .i64 lob, .int .i64 hib, .int .i64 blb, .int .i64 ogb, .int .i64 sgb, .sl false [4] ptb, .int .i64 stc, .int .i64 spc, .int .i64 acc, .int .i64 jec, .int .i64 loc, .int .i64 hic, .int .i64 blc, .int .i64 ogc, .int .i64 sgc, .sl false [4] ptc], [.sl false [4, 4, 4, 4, 4, 4, 4, 4, 4, 4] pk, .int .i64 ln, .int .i64 sa, .int .i64 d0, .int .i64 d1, .int .i64 d2], [.int .i64 x.2.1, .int .i64 x.2.2.1, .int .i64 x.2.2.2]]))
      | _ => .fail
    | _ => .fail
  | _ => .fail
noncomputable def CBtw : Ctx := ⟨Tryz.prog, gam tabBtw, Tryz.f13.ntmps, [(5, anBtw, LBtw), (4000009, unrT [1000005, 1000006, 1000007, 1000012, 1000014], fun _ => .fail)], []⟩
theorem vbBtw (s0 s1 s2 t u ln sa d0 d1 d2 w0 w1 w2 : Int) (sg mk pk l : List (List Int)) (sta spa aca jea loa hia bla oga sga stb spb acb jeb lob hib blb ogb sgb stc spc acc jec loc hic blc ogc sgc : Int) (pta ptb ptc : List (List Int)) (K : HEx → LV → Prop) : (nbodyT true CBtw anBtw (nthLoop Tryz.f13 0) (([.ce (.int .i64 t), .ce (.ptr 1000005 0), .ce (.ptr 1000006 0), .ce (.ptr 1000007 0), .ce (.sl false [4, 4, 4] l), .ce (.lit true), .ce (.ptr 1000012 0), .ce (.int .i64 u)], [[.int .i64 s0, .int .i64 s1, .int .i64 s2, .sl false [4, 4, 4, 4, 4, 4, 4] sg, .sl false [4, 4, 4] mk], [.int .i64 sta, .int .i64 spa, .int .i64 aca, .int .i64 jea, .int .i64 loa, .int .i64 hia, .int .i64 bla, .int .i64 oga, .int .i64 sga, .sl false [4] pta, .int .i64 stb, .int .i64 spb, .int .i64 acb, .int .i64 jeb, .int .i64 lob, .int .i64 hib, .int .i64 blb, .int .i64 ogb, .int .i64 sgb, .sl false [4] ptb, .int .i64 stc, .int .i64 spc, .int .i64 acc, .int .i64 jec, .int .i64 loc, .int .i64 hic, .int .i64 blc, .int .i64 ogc, .int .i64 sgc, .sl false [4] ptc], [.sl false [4, 4, 4, 4, 4, 4, 4, 4, 4, 4] pk, .int .i64 ln, .int .i64 sa, .int .i64 d0, .int .i64 d1, .int .i64 d2], [.int .i64 w0, .int .i64 w1, .int .i64 w2]])) K) =
    ((decide (u < t) = true → (-9223372036854775808 ≤ u + 1 ∧ u + 1 ≤ 9223372036854775807) ∧ ∀ (x1 : Int), x1 = u + 1 → (okLen sg ∧ okPts s0 s1 s2 sg ∧ okTrk pk ln ∧ okMA sta oga sga pta bla ∧ okMA stb ogb sgb ptb blb ∧ okMA stc ogc sgc ptc blc ∧ 0 ≤ sa ∧ sa ≤ 18014398509481984) ∧ ∀ (x2 : Int), x2 = tmot sta oga sga pta bla (ptAt s0 sg (0 : Nat) (tplace pk sa (clamp ln x1))) pk d0 (clamp ln x1) (0 : Nat) → ∀ (x3 : Int), x3 = tmot stb ogb sgb ptb blb (ptAt s1 sg (1 : Nat) (tplace pk sa (clamp ln x1))) pk d1 (clamp ln x1) (1 : Nat) → ∀ (x4 : Int), x4 = tmot stc ogc sgc ptc blc (ptAt s2 sg (2 : Nat) (tplace pk sa (clamp ln x1))) pk d2 (clamp ln x1) (2 : Nat) → ((x2 != w0) = true → (-9223372036854775808 ≤ x2 - w0 ∧ x2 - w0 ≤ 9223372036854775807) ∧ ∀ (x5 : Int), x5 = x2 - w0 → ((List.length l + (1 : Nat)) * (24 : Nat) ≤ (140737488355328 : Nat) ∧ List.length l + (1 : Nat) ≤ maxLen) ∧ ((x3 != w1) = true →
    (-9223372036854775808 ≤ x3 - w1 ∧ x3 - w1 ≤ 9223372036854775807) ∧ ∀ (x6 : Int), x6 = x3 - w1 → ((List.length (l ++ [[x1, (0 : Int), x5]]) + (1 : Nat)) * (24 : Nat) ≤ (140737488355328 : Nat) ∧ List.length (l ++ [[x1, (0 : Int), x5]]) + (1 : Nat) ≤ maxLen) ∧ ((x4 != w2) = true → (-9223372036854775808 ≤ x4 - w2 ∧ x4 - w2 ≤ 9223372036854775807) ∧ ∀ (x7 : Int), x7 = x4 - w2 → ((List.length (l ++ [[x1, (0 : Int), x5]] ++ [[x1, (1 : Int), x6]]) + (1 : Nat)) * (24 : Nat) ≤ (140737488355328 : Nat) ∧ List.length (l ++ [[x1, (0 : Int), x5]] ++ [[x1, (1 : Int), x6]]) + (1 : Nat) ≤ maxLen) ∧ K .normal ([.ce (.int .i64 t), .ce (.ptr 1000005 0), .ce (.ptr 1000006 0), .ce (.ptr 1000007 0), .ce (.sl false [4, 4, 4] (l ++ [[x1, (0 : Int), x5]] ++ [[x1, (1 : Int), x6]] ++ [[x1, (2 : Int), x7]])), .ce (.lit true), .ce (.ptr 1000012 0), .ce (.int .i64 x1)], [[.int .i64 s0, .int .i64 s1, .int .i64 s2, .sl false [4, 4, 4, 4, 4, 4, 4] sg, .sl false [4, 4, 4] mk], [.int .i64 sta, .int .i64 spa, .int .i64 aca, .int .i64 jea, .int .i64 loa, .int .i64 hia, .int .i64 bla, .int .i64 oga, .int .i64 sga, .sl false [4] pta, .int .i64 stb, .int .i64 spb, .int .i64 acb, .int .i64 jeb, .int .i64 lob, .int .i64 hib, .int .i64 blb, .int .i64 ogb, .int .i64 sgb, .sl false [4] ptb, .int .i64 stc, .int .i64 spc, .int .i64 acc, .int .i64 jec, .int .i64 loc, .int .i64 hic, .int .i64 blc, .int .i64 ogc, .int .i64 sgc, .sl false [4] ptc], [.sl false [4, 4, 4, 4, 4, 4, 4, 4, 4, 4] pk, .int .i64 ln, .int .i64 sa, .int .i64 d0, .int .i64 d1, .int .i64 d2], [.int .i64 x2, .int .i64 x3, .int .i64 x4]])) ∧
    ((x4 != w2) = false → K .normal ([.ce (.int .i64 t), .ce (.ptr 1000005 0), .ce (.ptr 1000006 0), .ce (.ptr 1000007 0), .ce (.sl false [4, 4, 4] (l ++ [[x1, (0 : Int), x5]] ++ [[x1, (1 : Int), x6]])), .ce (.lit true), .ce (.ptr 1000012 0), .ce (.int .i64 x1)], [[.int .i64 s0, .int .i64 s1, .int .i64 s2, .sl false [4, 4, 4, 4, 4, 4, 4] sg, .sl false [4, 4, 4] mk], [.int .i64 sta, .int .i64 spa, .int .i64 aca, .int .i64 jea, .int .i64 loa, .int .i64 hia, .int .i64 bla, .int .i64 oga, .int .i64 sga, .sl false [4] pta, .int .i64 stb, .int .i64 spb, .int .i64 acb, .int .i64 jeb, .int .i64 lob, .int .i64 hib, .int .i64 blb, .int .i64 ogb, .int .i64 sgb, .sl false [4] ptb, .int .i64 stc, .int .i64 spc, .int .i64 acc, .int .i64 jec, .int .i64 loc, .int .i64 hic, .int .i64 blc, .int .i64 ogc, .int .i64 sgc, .sl false [4] ptc], [.sl false [4, 4, 4, 4, 4, 4, 4, 4, 4, 4] pk, .int .i64 ln, .int .i64 sa, .int .i64 d0, .int .i64 d1, .int .i64 d2], [.int .i64 x2, .int .i64 x3, .int .i64 x4]]))) ∧
    ((x3 != w1) = false → ((x4 != w2) = true → (-9223372036854775808 ≤ x4 - w2 ∧ x4 - w2 ≤ 9223372036854775807) ∧ ∀ (x8 : Int), x8 = x4 - w2 → ((List.length (l ++ [[x1, (0 : Int), x5]]) + (1 : Nat)) * (24 : Nat) ≤ (140737488355328 : Nat) ∧ List.length (l ++ [[x1, (0 : Int), x5]]) + (1 : Nat) ≤ maxLen) ∧ K .normal ([.ce (.int .i64 t), .ce (.ptr 1000005 0), .ce (.ptr 1000006 0), .ce (.ptr 1000007 0), .ce (.sl false [4, 4, 4] (l ++ [[x1, (0 : Int), x5]] ++ [[x1, (2 : Int), x8]])), .ce (.lit true), .ce (.ptr 1000012 0), .ce (.int .i64 x1)], [[.int .i64 s0, .int .i64 s1, .int .i64 s2, .sl false [4, 4, 4, 4, 4, 4, 4] sg, .sl false [4, 4, 4] mk], [.int .i64 sta, .int .i64 spa, .int .i64 aca, .int .i64 jea, .int .i64 loa, .int .i64 hia, .int .i64 bla, .int .i64 oga, .int .i64 sga, .sl false [4] pta, .int .i64 stb, .int .i64 spb, .int .i64 acb, .int .i64 jeb, .int .i64 lob, .int .i64 hib, .int .i64 blb, .int .i64 ogb, .int .i64 sgb, .sl false [4] ptb, .int .i64 stc, .int .i64 spc, .int .i64 acc, .int .i64 jec, .int .i64 loc, .int .i64 hic, .int .i64 blc, .int .i64 ogc, .int .i64 sgc, .sl false [4] ptc], [.sl false [4, 4, 4, 4, 4, 4, 4, 4, 4, 4] pk, .int .i64 ln, .int .i64 sa, .int .i64 d0, .int .i64 d1, .int .i64 d2], [.int .i64 x2, .int .i64 x3, .int .i64 x4]])) ∧
    ((x4 != w2) = false → K .normal ([.ce (.int .i64 t), .ce (.ptr 1000005 0), .ce (.ptr 1000006 0), .ce (.ptr 1000007 0), .ce (.sl false [4, 4, 4] (l ++ [[x1, (0 : Int), x5]])), .ce (.lit true), .ce (.ptr 1000012 0), .ce (.int .i64 x1)], [[.int .i64 s0, .int .i64 s1, .int .i64 s2, .sl false [4, 4, 4, 4, 4, 4, 4] sg, .sl false [4, 4, 4] mk], [.int .i64 sta, .int .i64 spa, .int .i64 aca, .int .i64 jea, .int .i64 loa, .int .i64 hia, .int .i64 bla, .int .i64 oga, .int .i64 sga, .sl false [4] pta, .int .i64 stb, .int .i64 spb, .int .i64 acb, .int .i64 jeb, .int .i64 lob, .int .i64 hib, .int .i64 blb, .int .i64 ogb, .int .i64 sgb, .sl false [4] ptb, .int .i64 stc, .int .i64 spc, .int .i64 acc, .int .i64 jec, .int .i64 loc, .int .i64 hic, .int .i64 blc, .int .i64 ogc, .int .i64 sgc, .sl false [4] ptc], [.sl false [4, 4, 4, 4, 4, 4, 4, 4, 4, 4] pk, .int .i64 ln, .int .i64 sa, .int .i64 d0, .int .i64 d1, .int .i64 d2], [.int .i64 x2, .int .i64 x3, .int .i64 x4]])))) ∧
    ((x2 != w0) = false → ((x3 != w1) = true → (-9223372036854775808 ≤ x3 - w1 ∧ x3 - w1 ≤ 9223372036854775807) ∧ ∀ (x9 : Int), x9 = x3 - w1 → ((List.length l + (1 : Nat)) * (24 : Nat) ≤ (140737488355328 : Nat) ∧ List.length l + (1 : Nat) ≤ maxLen) ∧ ((x4 != w2) = true → (-9223372036854775808 ≤ x4 - w2 ∧ x4 - w2 ≤ 9223372036854775807) ∧ ∀ (x10 : Int), x10 = x4 - w2 → ((List.length (l ++ [[x1, (1 : Int), x9]]) + (1 : Nat)) * (24 : Nat) ≤ (140737488355328 : Nat) ∧ List.length (l ++ [[x1, (1 : Int), x9]]) + (1 : Nat) ≤ maxLen) ∧ K .normal ([.ce (.int .i64 t), .ce (.ptr 1000005 0), .ce (.ptr 1000006 0), .ce (.ptr 1000007 0), .ce (.sl false [4, 4, 4] (l ++ [[x1, (1 : Int), x9]] ++ [[x1, (2 : Int), x10]])), .ce (.lit true), .ce (.ptr 1000012 0), .ce (.int .i64 x1)], [[.int .i64 s0, .int .i64 s1, .int .i64 s2, .sl false [4, 4, 4, 4, 4, 4, 4] sg, .sl false [4, 4, 4] mk], [.int .i64 sta, .int .i64 spa, .int .i64 aca, .int .i64 jea, .int .i64 loa, .int .i64 hia, .int .i64 bla, .int .i64 oga, .int .i64 sga, .sl false [4] pta, .int .i64 stb, .int .i64 spb, .int .i64 acb, .int .i64 jeb, .int .i64 lob, .int .i64 hib, .int .i64 blb, .int .i64 ogb, .int .i64 sgb, .sl false [4] ptb, .int .i64 stc, .int .i64 spc, .int .i64 acc, .int .i64 jec, .int .i64 loc, .int .i64 hic, .int .i64 blc, .int .i64 ogc, .int .i64 sgc, .sl false [4] ptc], [.sl false [4, 4, 4, 4, 4, 4, 4, 4, 4, 4] pk, .int .i64 ln, .int .i64 sa, .int .i64 d0, .int .i64 d1, .int .i64 d2], [.int .i64 x2, .int .i64 x3, .int .i64 x4]])) ∧
    ((x4 != w2) = false → K .normal ([.ce (.int .i64 t), .ce (.ptr 1000005 0), .ce (.ptr 1000006 0), .ce (.ptr 1000007 0), .ce (.sl false [4, 4, 4] (l ++ [[x1, (1 : Int), x9]])), .ce (.lit true), .ce (.ptr 1000012 0), .ce (.int .i64 x1)], [[.int .i64 s0, .int .i64 s1, .int .i64 s2, .sl false [4, 4, 4, 4, 4, 4, 4] sg, .sl false [4, 4, 4] mk], [.int .i64 sta, .int .i64 spa, .int .i64 aca, .int .i64 jea, .int .i64 loa, .int .i64 hia, .int .i64 bla, .int .i64 oga, .int .i64 sga, .sl false [4] pta, .int .i64 stb, .int .i64 spb, .int .i64 acb, .int .i64 jeb, .int .i64 lob, .int .i64 hib, .int .i64 blb, .int .i64 ogb, .int .i64 sgb, .sl false [4] ptb, .int .i64 stc, .int .i64 spc, .int .i64 acc, .int .i64 jec, .int .i64 loc, .int .i64 hic, .int .i64 blc, .int .i64 ogc, .int .i64 sgc, .sl false [4] ptc], [.sl false [4, 4, 4, 4, 4, 4, 4, 4, 4, 4] pk, .int .i64 ln, .int .i64 sa, .int .i64 d0, .int .i64 d1, .int .i64 d2], [.int .i64 x2, .int .i64 x3, .int .i64 x4]]))) ∧
    ((x3 != w1) = false → ((x4 != w2) = true → (-9223372036854775808 ≤ x4 - w2 ∧ x4 - w2 ≤ 9223372036854775807) ∧ ∀ (x11 : Int), x11 = x4 - w2 → ((List.length l + (1 : Nat)) * (24 : Nat) ≤ (140737488355328 : Nat) ∧ List.length l + (1 : Nat) ≤ maxLen) ∧ K .normal ([.ce (.int .i64 t), .ce (.ptr 1000005 0), .ce (.ptr 1000006 0), .ce (.ptr 1000007 0), .ce (.sl false [4, 4, 4] (l ++ [[x1, (2 : Int), x11]])), .ce (.lit true), .ce (.ptr 1000012 0), .ce (.int .i64 x1)], [[.int .i64 s0, .int .i64 s1, .int .i64 s2, .sl false [4, 4, 4, 4, 4, 4, 4] sg, .sl false [4, 4, 4] mk], [.int .i64 sta, .int .i64 spa, .int .i64 aca, .int .i64 jea, .int .i64 loa, .int .i64 hia, .int .i64 bla, .int .i64 oga, .int .i64 sga, .sl false [4] pta, .int .i64 stb, .int .i64 spb, .int .i64 acb, .int .i64 jeb, .int .i64 lob, .int .i64 hib, .int .i64 blb, .int .i64 ogb, .int .i64 sgb, .sl false [4] ptb, .int .i64 stc, .int .i64 spc, .int .i64 acc, .int .i64 jec, .int .i64 loc, .int .i64 hic, .int .i64 blc, .int .i64 ogc, .int .i64 sgc, .sl false [4] ptc], [.sl false [4, 4, 4, 4, 4, 4, 4, 4, 4, 4] pk, .int .i64 ln, .int .i64 sa, .int .i64 d0, .int .i64 d1, .int .i64 d2], [.int .i64 x2, .int .i64 x3, .int .i64 x4]])) ∧
    ((x4 != w2) = false → K .normal ([.ce (.int .i64 t), .ce (.ptr 1000005 0), .ce (.ptr 1000006 0), .ce (.ptr 1000007 0), .ce (.sl false [4, 4, 4] l), .ce (.lit true), .ce (.ptr 1000012 0), .ce (.int .i64 x1)], [[.int .i64 s0, .int .i64 s1, .int .i64 s2, .sl false [4, 4, 4, 4, 4, 4, 4] sg, .sl false [4, 4, 4] mk], [.int .i64 sta, .int .i64 spa, .int .i64 aca, .int .i64 jea, .int .i64 loa, .int .i64 hia, .int .i64 bla, .int .i64 oga, .int .i64 sga, .sl false [4] pta, .int .i64 stb, .int .i64 spb, .int .i64 acb, .int .i64 jeb, .int .i64 lob, .int .i64 hib, .int .i64 blb, .int .i64 ogb, .int .i64 sgb, .sl false [4] ptb, .int .i64 stc, .int .i64 spc, .int .i64 acc, .int .i64 jec, .int .i64 loc, .int .i64 hic, .int .i64 blc, .int .i64 ogc, .int .i64 sgc, .sl false [4] ptc], [.sl false [4, 4, 4, 4, 4, 4, 4, 4, 4, 4] pk, .int .i64 ln, .int .i64 sa, .int .i64 d0, .int .i64 d1, .int .i64 d2], [.int .i64 x2, .int .i64 x3, .int .i64 x4]]))))) ∧
    (decide (u < t) = false → K (.exit 0) ([.ce (.sl false [4, 4, 4] l), .ce (.lit true)], [[.int .i64 s0, .int .i64 s1, .int .i64 s2, .sl false [4, 4, 4, 4, 4, 4, 4] sg, .sl false [4, 4, 4] mk], [.int .i64 sta, .int .i64 spa, .int .i64 aca, .int .i64 jea, .int .i64 loa, .int .i64 hia, .int .i64 bla, .int .i64 oga, .int .i64 sga, .sl false [4] pta, .int .i64 stb, .int .i64 spb, .int .i64 acb, .int .i64 jeb, .int .i64 lob, .int .i64 hib, .int .i64 blb, .int .i64 ogb, .int .i64 sgb, .sl false [4] ptb, .int .i64 stc, .int .i64 spc, .int .i64 acc, .int .i64 jec, .int .i64 loc, .int .i64 hic, .int .i64 blc, .int .i64 ogc, .int .i64 sgc, .sl false [4] ptc], [.sl false [4, 4, 4, 4, 4, 4, 4, 4, 4, 4] pk, .int .i64 ln, .int .i64 sa, .int .i64 d0, .int .i64 d1, .int .i64 d2], [.int .i64 w0, .int .i64 w1, .int .i64 w2]]))) := by kernel_rfl
theorem vcBtw (s0 s1 s2 f t ln sa d0 d1 d2 : Int) (sg mk pk : List (List Int)) (sta spa aca jea loa hia bla oga sga stb spb acb jeb lob hib blb ogb sgb stc spc acc jec loc hic blc ogc sgc : Int) (pta ptb ptc : List (List Int)) (Q : Res → Prop) : (nfun true CBtw Tryz.f13 (bodyOf Tryz.f13) [.agg [.int .i64 s0, .int .i64 s1, .int .i64 s2, .sl false [4, 4, 4, 4, 4, 4, 4] sg, .sl false [4, 4, 4] mk], .agg [.int .i64 sta, .int .i64 spa, .int .i64 aca, .int .i64 jea, .int .i64 loa, .int .i64 hia, .int .i64 bla, .int .i64 oga, .int .i64 sga, .sl false [4] pta, .int .i64 stb, .int .i64 spb, .int .i64 acb, .int .i64 jeb, .int .i64 lob, .int .i64 hib, .int .i64 blb, .int .i64 ogb, .int .i64 sgb, .sl false [4] ptb, .int .i64 stc, .int .i64 spc, .int .i64 acc, .int .i64 jec, .int .i64 loc, .int .i64 hic, .int .i64 blc, .int .i64 ogc, .int .i64 sgc, .sl false [4] ptc], .agg [.sl false [4, 4, 4, 4, 4, 4, 4, 4, 4, 4] pk, .int .i64 ln, .int .i64 sa, .int .i64 d0, .int .i64 d1, .int .i64 d2], .ce (.int .i64 f), .ce (.int .i64 t)] [] Q) =
    (∀ (x1 : Int), x1 = min f ln → ∀ (x2 : Int), x2 = max (0 : Int) x1 → ∀ (x3 : Int), x3 = min t ln → ∀ (x4 : Int), x4 = max (0 : Int) x3 → (okLen sg ∧ okPts s0 s1 s2 sg ∧ okTrk pk ln ∧ okMA sta oga sga pta bla ∧ okMA stb ogb sgb ptb blb ∧ okMA stc ogc sgc ptc blc ∧ 0 ≤ sa ∧ sa ≤ 18014398509481984) ∧ ∀ (x5 : Int), x5 = tmot sta oga sga pta bla (ptAt s0 sg (0 : Nat) (tplace pk sa (clamp ln x2))) pk d0 (clamp ln x2) (0 : Nat) → ∀ (x6 : Int), x6 = tmot stb ogb sgb ptb blb (ptAt s1 sg (1 : Nat) (tplace pk sa (clamp ln x2))) pk d1 (clamp ln x2) (1 : Nat) → ∀ (x7 : Int), x7 = tmot stc ogc sgc ptc blc (ptAt s2 sg (2 : Nat) (tplace pk sa (clamp ln x2))) pk d2 (clamp ln x2) (2 : Nat) → ((okLen sg ∧ okPts s0 s1 s2 sg ∧ okTrk pk ln ∧ okMA sta oga sga pta bla ∧ okMA stb ogb sgb ptb blb ∧ okMA stc ogc sgc ptc blc ∧ 0 ≤ sa ∧ sa ≤ 18014398509481984) ∧ ln ≤ 1099511627776 ∧ (0 ≤ x2 ∧ x2 ≤ ln) ∧ (0 ≤ x4 ∧ x4 ≤ ln) ∧
    (0 : Nat) = (0 : Nat) ∧ x5 = mtr sta oga sga pta bla s0 sg (0 : Nat) pk sa d0 x2 ∧ x6 = mtr stb ogb sgb ptb blb s1 sg (1 : Nat) pk sa d1 x2 ∧ x7 = mtr stc ogc sgc ptc blc s2 sg (2 : Nat) pk sa d2 x2) ∧ ∀ (x : List (List Int) × Int × Int × Int), x.1 = plN (mtr sta oga sga pta bla s0 sg (0 : Nat) pk sa d0) (mtr stb ogb sgb ptb blb s1 sg (1 : Nat) pk sa d1) (mtr stc ogc sgc ptc blc s2 sg (2 : Nat) pk sa d2) x2 (Int.toNat (x4 - x2)) → Q ⟨.ce (.sl false [4, 4, 4] x.1), true, [], []⟩) := by kernel_rfl
def SSum (hargs : List HV) (pars : List (List HC)) : SR :=
  match hargs, pars with
  | [.ce (.sl false [4, 4, 4] l)], [] => .det (okSum l) ⟨.agg [.int .i64 (sumAx 0 l), .int .i64 (sumAx 1 l), .int .i64 (sumAx 2 l)], false, [], []⟩
  | _, _ => .fail
def anSum : LAnn := ⟨[2, 3, 6, 7, 8], [2, 3], [1000002, 1000003], false⟩
def LSum (v : LV) : LR :=
  match v with
  | ([.ce (.ptr 1000002 0), .ce (.ptr 1000003 0), .ce (.sl false [4, 4, 4] l), .ce (.int .i64 n), .ce (.int .i64 i)], [[.int .i64 z0, .int .i64 z1, .int .i64 z2], [.int .i64 x0, .int .i64 x1, .int .i64 x2]]) =>
    .det (n = l.length ∧ i = 0 ∧ x0 = 0 ∧ x1 = 0 ∧ x2 = 0 ∧ okSum l) (.exit 0) ([.ce (.ptr 1000002 0), .ce (.ptr 1000003 0)], [[.int .i64 z0, .int .i64 z1, .int .i64 z2], [.int .i64 (sumAx 0 l), .int .i64 (sumAx 1 l), .int .i64 (sumAx 2 l)]])
  | _ => .fail
noncomputable def CSum : Ctx := ⟨Tryz.prog, gam [], Tryz.f35.ntmps, [(3, anSum, LSum)], [spl 6 1000005 1 6]⟩
theorem vbSum (n i z0 z1 z2 x0 x1 x2 : Int) (l : List (List Int)) (K : HEx → LV → Prop) : (nbodyT true CSum anSum (nthLoop Tryz.f35 0) (([.ce (.ptr 1000002 0), .ce (.ptr 1000003 0), .ce (.sl false [4, 4, 4] l), .ce (.int .i64 n), .ce (.int .i64 i)], [[.int .i64 z0, .int .i64 z1, .int .i64 z2], [.int .i64 x0, .int .i64 x1, .int .i64 x2]])) K) =
    ((decide (i < n) = true → (0 ≤ i ∧ i < (List.length l : Int)) ∧ (decide (ec l i.toNat 1 ≥ (0 : Int)) = true → (decide (ec l i.toNat 1 < (3 : Int)) = true → (ec l i.toNat 1 = (0 : Int) → (-9223372036854775808 ≤ x0 + ec l i.toNat 2 ∧ x0 + ec l i.toNat 2 ≤ 9223372036854775807) ∧ ∀ (x1_1 : Int), x1_1 = x0 + ec l i.toNat 2 → (-9223372036854775808 ≤ i + 1 ∧ i + 1 ≤ 9223372036854775807) ∧ ∀ (x2_1 : Int), x2_1 = i + 1 → K .normal ([.ce (.ptr 1000002 0), .ce (.ptr 1000003 0), .ce (.sl false [4, 4, 4] l), .ce (.int .i64 n), .ce (.int .i64 x2_1)], [[.int .i64 z0, .int .i64 z1, .int .i64 z2], [.int .i64 x1_1, .int .i64 x1, .int .i64 x2]])) ∧ (ec l i.toNat 1 ≠ (0 : Int) → (ec l i.toNat 1 = (1 : Int) → (-9223372036854775808 ≤ x1 + ec l i.toNat 2 ∧ x1 + ec l i.toNat 2 ≤ 9223372036854775807) ∧ ∀ (x3 : Int), x3 = x1 + ec l i.toNat 2 → (-9223372036854775808 ≤ i + 1 ∧ i + 1 ≤ 9223372036854775807) ∧ ∀ (x4 : Int), x4 = i + 1 →
    K .normal ([.ce (.ptr 1000002 0), .ce (.ptr 1000003 0), .ce (.sl false [4, 4, 4] l), .ce (.int .i64 n), .ce (.int .i64 x4)], [[.int .i64 z0, .int .i64 z1, .int .i64 z2], [.int .i64 x0, .int .i64 x3, .int .i64 x2]])) ∧ (ec l i.toNat 1 ≠ (1 : Int) → (ec l i.toNat 1 = (2 : Int) → (-9223372036854775808 ≤ x2 + ec l i.toNat 2 ∧ x2 + ec l i.toNat 2 ≤ 9223372036854775807) ∧ ∀ (x5 : Int), x5 = x2 + ec l i.toNat 2 → (-9223372036854775808 ≤ i + 1 ∧ i + 1 ≤ 9223372036854775807) ∧ ∀ (x6 : Int), x6 = i + 1 → K .normal ([.ce (.ptr 1000002 0), .ce (.ptr 1000003 0), .ce (.sl false [4, 4, 4] l), .ce (.int .i64 n), .ce (.int .i64 x6)], [[.int .i64 z0, .int .i64 z1, .int .i64 z2], [.int .i64 x0, .int .i64 x1, .int .i64 x5]])) ∧ (ec l i.toNat 1 ≠ (2 : Int) → False)))) ∧ (decide (ec l i.toNat 1 < (3 : Int)) = false → (-9223372036854775808 ≤ i + 1 ∧ i + 1 ≤ 9223372036854775807) ∧ ∀ (x7 : Int), x7 = i + 1 → K .normal ([.ce (.ptr 1000002 0), .ce (.ptr 1000003 0), .ce (.sl false [4, 4, 4] l), .ce (.int .i64 n), .ce (.int .i64 x7)], [[.int .i64 z0, .int .i64 z1, .int .i64 z2], [.int .i64 x0, .int .i64 x1, .int .i64 x2]]))) ∧
    (decide (ec l i.toNat 1 ≥ (0 : Int)) = false → (-9223372036854775808 ≤ i + 1 ∧ i + 1 ≤ 9223372036854775807) ∧ ∀ (x8 : Int), x8 = i + 1 → K .normal ([.ce (.ptr 1000002 0), .ce (.ptr 1000003 0), .ce (.sl false [4, 4, 4] l), .ce (.int .i64 n), .ce (.int .i64 x8)], [[.int .i64 z0, .int .i64 z1, .int .i64 z2], [.int .i64 x0, .int .i64 x1, .int .i64 x2]]))) ∧ (decide (i < n) = false → K (.exit 0) ([.ce (.ptr 1000002 0), .ce (.ptr 1000003 0)], [[.int .i64 z0, .int .i64 z1, .int .i64 z2], [.int .i64 x0, .int .i64 x1, .int .i64 x2]]))) := by kernel_rfl
theorem vcSum (l : List (List Int)) (Q : Res → Prop) : (nfun true CSum Tryz.f35 (bodyOf Tryz.f35) [.ce (.sl false [4, 4, 4] l)] [] Q) =
    (((List.length l : Int) = (List.length l : Int) ∧ (0 : Int) = (0 : Int) ∧ (0 : Int) = (0 : Int) ∧ (0 : Int) = (0 : Int) ∧ (0 : Int) = (0 : Int) ∧ okSum l) ∧ Q ⟨.agg [.int .i64 (sumAx (0 : Int) l), .int .i64 (sumAx (1 : Int) l), .int .i64 (sumAx (2 : Int) l)], false, [], []⟩) := by kernel_rfl
end Go.Proofs.YtneingpnkdeooaaGreat
namespace U
def okT (pk : List (List Int)) (ln : Int) : Prop :=
  (pk.length = 0 → ln = 0) ∧ (0 < pk.length → ec pk 0 0 = 0 ∧ endp pk (pk.length - 1) = ln) ∧
  (∀ j, j + 1 < pk.length → ec pk (j + 1) 0 = endp pk j) ∧ ∀ j, j < pk.length → 1 ≤ ec pk j 1 ∧ (0 ≤ ec pk j 2 ∧ ec pk j 2 ≤ 18014398509481984) ∧ (-1 ≤ ec pk j 3 ∧ ec pk j 3 ≤ 1)
theorem tadd_okT {pk : List (List Int)} {ln q0 q1 q2 q3 q4 q5 q6 q7 q8 q9 : Int} (h : okT pk ln) (h1 : 1 ≤ q1) (h2 : 0 ≤ q2 ∧ q2 ≤ 18014398509481984) (h3 : -1 ≤ q3 ∧ q3 ≤ 1) : okT (tadd pk ln [q0, q1, q2, q3, q4, q5, q6, q7, q8, q9]).1 (tadd pk ln [q0, q1, q2, q3, q4, q5, q6, q7, q8, q9]).2 := by
  obtain ⟨a1, a2, a3, a4⟩ := h
  by_cases hc : 0 < pk.length ∧ q3 ≠ 0 ∧ ec pk (pk.length - 1) 3 = q3 ∧ ec pk (pk.length - 1) 7 = q7 ∧ ec pk (pk.length - 1) 8 = q8 ∧ ec pk (pk.length - 1) 9 = q9
  · rw [tadd_more hc]
    have hp := hc.1
    have es : ∀ j c, ec (pk.set (pk.length - 1) (more (pk.getD (pk.length - 1) []) q1)) j c = if pk.length - 1 = j then (more (pk.getD (pk.length - 1) []) q1).getD c 0 else ec pk j c := fun j c => ec_set _ _ _ _ _ (by omega)
    have m0 : (more (pk.getD (pk.length - 1) []) q1).getD 0 0 = ec pk (pk.length - 1) 0 := rfl
    have m1 : (more (pk.getD (pk.length - 1) []) q1).getD 1 0 = ec pk (pk.length - 1) 1 + q1 := rfl
    have m2 : (more (pk.getD (pk.length - 1) []) q1).getD 2 0 = ec pk (pk.length - 1) 2 := rfl
    have m3 : (more (pk.getD (pk.length - 1) []) q1).getD 3 0 = ec pk (pk.length - 1) 3 := rfl
    have b2 := a2 hp
    refine ⟨fun h => ?_, fun _ => ⟨?_, ?_⟩, fun j hj => ?_, fun j hj => ?_⟩
    · dsimp only at h; rw [List.length_set] at h; omega
    · dsimp only; rw [es]
      split
      · rename_i e; rw [m0, e]; exact b2.1
      · exact b2.1
    · dsimp only; rw [List.length_set]
      unfold endp at b2 ⊢
      rw [es, es, if_pos rfl, if_pos rfl, m0, m1]
      omega
    · dsimp only at hj ⊢; rw [List.length_set] at hj
      unfold endp
      rw [es, es, es, if_neg (show ¬ pk.length - 1 = j by omega), if_neg (show ¬ pk.length - 1 = j by omega)]
      have := a3 j hj
      unfold endp at this
      split
      · rename_i e; rw [m0, e]; exact this
      · exact this
    · dsimp only at hj ⊢; rw [List.length_set] at hj
      rw [es, es, es]
      have := a4 j hj
      split
      · rename_i e; subst e; rw [m1, m2, m3]; omega
      · exact this
  · rw [tadd_app hc]
    have es : ∀ j c, ec (pk ++ [[ln, q1, q2, q3, q4, q5, q6, q7, q8, q9]]) j c = if j < pk.length then ec pk j c else ec [[ln, q1, q2, q3, q4, q5, q6, q7, q8, q9]] (j - pk.length) c := fun j c => ec_app _ _ _ _
    refine ⟨fun h => ?_, fun _ => ⟨?_, ?_⟩, fun j hj => ?_, fun j hj => ?_⟩
    · simp at h
    · dsimp only; rw [es]
      split
      · rename_i e; exact (a2 e).1
      · rename_i e
        have e0 : pk.length = 0 := by omega
        rw [e0]; show ln = 0
        exact a1 e0
    · dsimp only; rw [List.length_append]
      have e0 : pk.length + ([[ln, q1, q2, q3, q4, q5, q6, q7, q8, q9]] : List (List Int)).length - 1 = pk.length := by simp
      rw [e0]
      unfold endp
      rw [es, es, if_neg (by omega), if_neg (by omega), Nat.sub_self]
      show ln + q1 = ln + q1
      rfl
    · dsimp only at hj ⊢; rw [List.length_append] at hj
      have hj : j + 1 < pk.length + 1 := hj
      unfold endp
      rw [es, es, es, if_pos (show j < pk.length by omega), if_pos (show j < pk.length by omega)]
      split
      · rename_i e; have := a3 j e; unfold endp at this; exact this
      · rename_i e
        have hjl : j = pk.length - 1 := by omega
        have b2 := (a2 (by omega)).2
        unfold endp at b2
        rw [show j + 1 - pk.length = 0 by omega, hjl, b2]
        rfl
    · dsimp only at hj ⊢; rw [List.length_append] at hj
      have hj : j < pk.length + 1 := hj
      rw [es, es, es]
      split
      · rename_i e; exact a4 j e
      · rw [show j - pk.length = 0 by omega]
        exact ⟨h1, h2, h3⟩
theorem okT_seg {s0 s1 s2 : Int} {sg : List (List Int)} {b0 b1 b2 f t m : Int} {x : LegS} {i : Int} (hf : 0 ≤ f ∧ f ≤ 18014398509481984) (ht : 0 ≤ t ∧ t ≤ 18014398509481984) (hm : m = 1 ∨ m = -1) (h : okT x.pk x.ln) :
    okT (legSeg s0 s1 s2 sg b0 b1 b2 f t m x i).pk (legSeg s0 s1 s2 sg b0 b1 b2 f t m x i).ln := by
  unfold legSeg
  have hlow : 0 ≤ legLow x.bg (legE sg m x.bg i) f t := by unfold legLow; omega
  have hhigh : legHigh x.bg (legE sg m x.bg i) f t ≤ 18014398509481984 := by unfold legHigh; omega
  generalize legLow x.bg (legE sg m x.bg i) f t = low at *
  generalize legHigh x.bg (legE sg m x.bg i) f t = high at *
  unfold legPut
  split
  · rename_i hlh
    dsimp only
    have hs : 0 ≤ legS m low high ∧ legS m low high ≤ 18014398509481984 := by unfold legS; split <;> omega
    refine tadd_okT ?_ (by omega) hs (by omega)
    unfold legTk
    split
    · exact tadd_okT h (by omega) hs (by omega)
    · exact h
  · exact h
theorem okT_all {s0 s1 s2 : Int} {sg : List (List Int)} {b0 b1 b2 f t m : Int} {x : LegS} (hf : 0 ≤ f ∧ f ≤ 18014398509481984) (ht : 0 ≤ t ∧ t ≤ 18014398509481984) (hm : m = 1 ∨ m = -1) (h : okT x.pk x.ln) :
    ∀ k, okT (legK s0 s1 s2 sg b0 b1 b2 f t m x k).pk (legK s0 s1 s2 sg b0 b1 b2 f t m x k).ln
  | 0 => h
  | k + 1 => okT_seg hf ht hm (okT_all hf ht hm h k)
theorem leg_ok {s0 s1 s2 : Int} {sg : List (List Int)} {b0 b1 b2 d0 d1 d2 f t : Int} (hl : okLen sg) (hb : okB3 b0 b1 b2) (hf : 0 ≤ f ∧ f ≤ plen sg) (ht : 0 ≤ t ∧ t ≤ plen sg) :
    okTrk (leg s0 s1 s2 sg b0 b1 b2 d0 d1 d2 f t).pk (leg s0 s1 s2 sg b0 b1 b2 d0 d1 d2 f t).ln := by
  have hp := plen_le hl
  have hl1 := hl.1
  unfold leg
  have hm : legM f t = 1 ∨ legM f t = -1 := by unfold legM; split <;> omega
  have hbg : (legM f t = 1 → (if legM f t < 0 then plen sg else 0) = plen (sg.take 0)) ∧ (legM f t = -1 → (if legM f t < 0 then plen sg else 0) = plen (sg.take (sg.length - 0))) := by
    refine ⟨fun e => ?_, fun e => ?_⟩
    · rw [e]; rfl
    · rw [e, if_pos (by decide)]; simp
  generalize legM f t = m at *
  generalize (if m < 0 then plen sg else 0) = bg at *
  have J := legJ_all (s0 := s0) (s1 := s1) (s2 := s2) (f := f) (t := t) (x := ⟨[], 0, d0, d1, d2, bg⟩) hl hb hm ⟨⟨Int.le_refl _, by dsimp only; omega⟩, by simp, fun j hj => by simp at hj, hbg.1, hbg.2⟩ sg.length (Nat.le_refl _)
  have T := okT_all (s0 := s0) (s1 := s1) (s2 := s2) (sg := sg) (b0 := b0) (b1 := b1) (b2 := b2) (f := f) (t := t) (m := m) (x := ⟨[], 0, d0, d1, d2, bg⟩) (by omega) (by omega) hm ⟨fun _ => rfl, fun h => by simp at h, fun j hj => by simp at hj, fun j hj => by simp at hj⟩ sg.length
  exact ⟨by have := J.2.1; omega, by have := J.1; omega, T.1, T.2.1, T.2.2.1, T.2.2.2⟩
theorem at_le {pk : List (List Int)} {ln u : Int} (h : okTrk pk ln) (hu : 0 ≤ u) {j : Nat} (hj : j < pk.length) (hk : ∀ k, k < j → endp pk k < u) : ec pk j 0 ≤ u := by
  cases j with
  | zero => have := (h.2.2.2.1 (by omega)).1; omega
  | succ i =>
    have := hk i (by omega)
    have := h.2.2.2.2.1 i hj
    omega
theorem pl1_t {u k n w : Int} (h : (n != w) = true) : pl1 u k n w = [[u, k, n - w]] := by unfold pl1; rw [if_pos (by simpa using h)]
theorem pl1_f {u k n w : Int} (h : (n != w) = false) : pl1 u k n w = [] := by unfold pl1; rw [if_neg (by simpa using h)]
theorem pl1_len (u k n w : Int) : (pl1 u k n w).length ≤ 1 := by unfold pl1; split <;> simp
theorem plN_len (M0 M1 M2 : Int → Int) (a : Int) : ∀ n, (plN M0 M1 M2 a n).length ≤ 3 * n
  | 0 => by simp [plN]
  | n + 1 => by
    have h := plN_len M0 M1 M2 a n
    unfold plN plAt
    rw [List.length_append, List.length_append, List.length_append]
    have h0 := pl1_len (a + (n : Int) + 1) 0 (M0 (a + (n : Int) + 1)) (M0 (a + (n : Int) + 1 - 1))
    have h1 := pl1_len (a + (n : Int) + 1) 1 (M1 (a + (n : Int) + 1)) (M1 (a + (n : Int) + 1 - 1))
    have h2 := pl1_len (a + (n : Int) + 1) 2 (M2 (a + (n : Int) + 1)) (M2 (a + (n : Int) + 1 - 1))
    omega
end U
namespace Go.Proofs.YtneingpnkdeooaaGreat
open Go Go.HL U
attribute [local irreducible] hfun bodyT fragT
theorem mtr_bd {st og sg : Int} {pt : List (List Int)} {bl s : Int} {sgs : List (List Int)} {c : Nat} {pk : List (List Int)} {ln sa d u : Int} (hl : okLen sgs) (h0 : -536870912 ≤ s ∧ s ≤ 536870912)
    (hp : ∀ j, j < sgs.length → -536870912 ≤ ec sgs j c ∧ ec sgs j c ≤ 536870912) (ht : okTrk pk ln) (hm : okMA st og sg pt bl) (hu : 0 ≤ u ∧ u ≤ ln) :
    -4398046511104 ≤ mtr st og sg pt bl s sgs c pk sa d u ∧ mtr st og sg pt bl s sgs c pk sa d u ≤ 4398046511104 := by
  have p := ptAt_bd hl h0 hp (tplace pk sa u)
  have q := motr_bd hm.1.1 hm.2.1 (p := ptAt s sgs c (tplace pk sa u)) (by omega)
  unfold mtr tmot
  split
  · have := bsh_bd (d := d) hm.2.2
    omega
  · rcases tfind_spec ht hu.2 with ⟨h1, h2⟩ | ⟨j, h1, h2, h3, h4⟩
    · omega
    · have hj : (tfind pk u).toNat = j := by omega
      rw [hj]
      have := tsh_bd (mv := ec pk j 3) (w := ec pk j (4 + c)) (d := ec pk j (7 + c)) hm.2.2 (at_le ht hu.1 h1 h4)
      omega
set_option maxHeartbeats 2000000 in
theorem loopBtw : ∀ v Q, (LBtw v).wp Q → hloop CBtw anBtw (nthLoop Tryz.f13 0) v Q := by
  intro v Q h
  unfold LBtw at h
  split at h
  case h_2 => exact h.elim
  rename_i t l u0 s0 s1 s2 sg mk ax tr w0 w1 w2
  split at h
  case h_2 => exact h.elim
  rename_i sta spa aca jea loa hia bla oga sga pta stb spb acb jeb lob hib blb ogb sgb ptb stc spc acc jec loc hic blc ogc sgc ptc
  split at h
  case h_2 => exact h.elim
  rename_i pk ln sa d0 d1 d2
  obtain ⟨⟨hA, hln, hu0, ht0, hl0, e0, e1, e2⟩, hq⟩ := h
  obtain rfl : l = [] := List.eq_nil_of_length_eq_zero hl0
  have hA' := hA
  obtain ⟨hl, ⟨k0, k1, k2, kk⟩, htr, ma, mb, mc, hsa⟩ := hA'
  subst e0 e1 e2
  have bd0 : ∀ u, 0 ≤ u ∧ u ≤ ln → _ := fun u hu => mtr_bd (sa := sa) (d := d0) hl k0 (fun j hj => (kk j hj).1) htr ma hu
  have bd1 : ∀ u, 0 ≤ u ∧ u ≤ ln → _ := fun u hu => mtr_bd (sa := sa) (d := d1) hl k1 (fun j hj => (kk j hj).2.1) htr mb hu
  have bd2 : ∀ u, 0 ≤ u ∧ u ≤ ln → _ := fun u hu => mtr_bd (sa := sa) (d := d2) hl k2 (fun j hj => (kk j hj).2.2) htr mc hu
  have M0e : ∀ u, 0 ≤ u ∧ u ≤ ln → tmot sta oga sga pta bla (ptAt s0 sg 0 (tplace pk sa (clamp ln u))) pk d0 (clamp ln u) 0 = mtr sta oga sga pta bla s0 sg 0 pk sa d0 u := fun u hu => by rw [clamp_in hu]; rfl
  have M1e : ∀ u, 0 ≤ u ∧ u ≤ ln → tmot stb ogb sgb ptb blb (ptAt s1 sg 1 (tplace pk sa (clamp ln u))) pk d1 (clamp ln u) 1 = mtr stb ogb sgb ptb blb s1 sg 1 pk sa d1 u := fun u hu => by rw [clamp_in hu]; rfl
  have M2e : ∀ u, 0 ≤ u ∧ u ≤ ln → tmot stc ogc sgc ptc blc (ptAt s2 sg 2 (tplace pk sa (clamp ln u))) pk d2 (clamp ln u) 2 = mtr stc ogc sgc ptc blc s2 sg 2 pk sa d2 u := fun u hu => by rw [clamp_in hu]; rfl
  generalize mtr sta oga sga pta bla s0 sg 0 pk sa d0 = M0 at *
  generalize mtr stb ogb sgb ptb blb s1 sg 1 pk sa d1 = M1 at *
  generalize mtr stc ogc sgc ptc blc s2 sg 2 pk sa d2 = M2 at *
  refine hloop_rec (σ := Nat)
    (fun n => ([.ce (.int .i64 t), .ce (.ptr 1000005 0), .ce (.ptr 1000006 0), .ce (.ptr 1000007 0), .ce (.sl false [4, 4, 4] (plN M0 M1 M2 u0 n)), .ce (.lit true), .ce (.ptr 1000012 0), .ce (.int .i64 (u0 + (n : Int)))],
      [[.int .i64 s0, .int .i64 s1, .int .i64 s2, .sl false [4, 4, 4, 4, 4, 4, 4] sg, .sl false [4, 4, 4] mk], [.int .i64 sta, .int .i64 spa, .int .i64 aca, .int .i64 jea, .int .i64 loa, .int .i64 hia, .int .i64 bla, .int .i64 oga, .int .i64 sga, .sl false [4] pta, .int .i64 stb, .int .i64 spb, .int .i64 acb, .int .i64 jeb, .int .i64 lob, .int .i64 hib, .int .i64 blb, .int .i64 ogb, .int .i64 sgb, .sl false [4] ptb, .int .i64 stc, .int .i64 spc, .int .i64 acc, .int .i64 jec, .int .i64 loc, .int .i64 hic, .int .i64 blc, .int .i64 ogc, .int .i64 sgc, .sl false [4] ptc], [.sl false [4, 4, 4, 4, 4, 4, 4, 4, 4, 4] pk, .int .i64 ln, .int .i64 sa, .int .i64 d0, .int .i64 d1, .int .i64 d2], [.int .i64 (M0 (u0 + (n : Int))), .int .i64 (M1 (u0 + (n : Int))), .int .i64 (M2 (u0 + (n : Int)))]]))
    (fun n => (t - u0).toNat - n) (fun n => n ≤ (t - u0).toNat) ?_ 0 (Nat.zero_le _) |> fun x => (by simpa [plN] using x)
  intro n hn K hK hx _
  have hlen := plN_len M0 M1 M2 u0 n
  refine byVB (vbBtw s0 s1 s2 t (u0 + (n : Int)) ln sa d0 d1 d2 (M0 (u0 + (n : Int))) (M1 (u0 + (n : Int))) (M2 (u0 + (n : Int))) sg mk pk (plN M0 M1 M2 u0 n) sta spa aca jea loa hia bla oga sga stb spb acb jeb lob hib blb ogb sgb stc spc acc jec loc hic blc ogc sgc pta ptb ptc K) ⟨fun g => ?_, fun g => ?_⟩
  · have g := of_decide_eq_true g
    have hu : 0 ≤ u0 + (n : Int) ∧ u0 + (n : Int) ≤ ln := by omega
    have hu1 : 0 ≤ u0 + (n : Int) + 1 ∧ u0 + (n : Int) + 1 ≤ ln := by omega
    have a0 := bd0 _ hu
    have a1 := bd1 _ hu
    have a2 := bd2 _ hu
    have c0 := bd0 _ hu1
    have c1 := bd1 _ hu1
    have c2 := bd2 _ hu1
    have fin := hK (n + 1) (by omega) (by omega)
    unfold plN plAt at fin
    rw [show u0 + ((n + 1 : Nat) : Int) = u0 + (n : Int) + 1 by omega, show u0 + (n : Int) + 1 - 1 = u0 + (n : Int) by omega, ← List.append_assoc, ← List.append_assoc] at fin
    refine ⟨by omega, fun x1 e1 => ⟨hA, fun x2 e2 x3 e3 x4 e4 => ?_⟩⟩
    subst e1
    rw [M0e _ hu1] at e2
    rw [M1e _ hu1] at e3
    rw [M2e _ hu1] at e4
    rw [← e2] at fin c0
    rw [← e3] at fin c1
    rw [← e4] at fin c2
    clear hK hx hq bd0 bd1 bd2 M0e M1e M2e hA
    generalize M0 (u0 + (n : Int)) = w0 at *
    generalize M1 (u0 + (n : Int)) = w1 at *
    generalize M2 (u0 + (n : Int)) = w2 at *
    generalize plN M0 M1 M2 u0 n = l at *
    refine ⟨fun g0 => ⟨by omega, ?_⟩, fun g0 => ?_⟩
    · rintro _ rfl
      rw [pl1_t g0] at fin
      refine ⟨⟨by first | omega | (simp only [List.length_append, List.length_cons, List.length_nil]; omega), by unfold maxLen; first | omega | (simp only [List.length_append, List.length_cons, List.length_nil]; omega)⟩, fun g1 => ⟨by omega, ?_⟩, fun g1 => ⟨fun g2 => ⟨by omega, ?_⟩, fun g2 => ?_⟩⟩
      · rintro _ rfl
        rw [pl1_t g1] at fin
        refine ⟨⟨by first | omega | (simp only [List.length_append, List.length_cons, List.length_nil]; omega), by unfold maxLen; first | omega | (simp only [List.length_append, List.length_cons, List.length_nil]; omega)⟩, fun g2 => ⟨by omega, ?_⟩, fun g2 => ?_⟩
        · rintro _ rfl
          rw [pl1_t g2] at fin
          exact ⟨⟨by first | omega | (simp only [List.length_append, List.length_cons, List.length_nil]; omega), by unfold maxLen; first | omega | (simp only [List.length_append, List.length_cons, List.length_nil]; omega)⟩, fin⟩
        · rw [pl1_f g2, List.append_nil] at fin
          exact fin
      · rintro _ rfl
        rw [pl1_f g1, List.append_nil, pl1_t g2] at fin
        exact ⟨⟨by first | omega | (simp only [List.length_append, List.length_cons, List.length_nil]; omega), by unfold maxLen; first | omega | (simp only [List.length_append, List.length_cons, List.length_nil]; omega)⟩, fin⟩
      · rw [pl1_f g1, List.append_nil, pl1_f g2, List.append_nil] at fin
        exact fin
    · rw [pl1_f g0, List.append_nil] at fin
      refine ⟨fun g1 => ⟨by omega, ?_⟩, fun g1 => ⟨fun g2 => ⟨by omega, ?_⟩, fun g2 => ?_⟩⟩
      · rintro _ rfl
        rw [pl1_t g1] at fin
        refine ⟨⟨by first | omega | (simp only [List.length_append, List.length_cons, List.length_nil]; omega), by unfold maxLen; first | omega | (simp only [List.length_append, List.length_cons, List.length_nil]; omega)⟩, fun g2 => ⟨by omega, ?_⟩, fun g2 => ?_⟩
        · rintro _ rfl
          rw [pl1_t g2] at fin
          exact ⟨⟨by first | omega | (simp only [List.length_append, List.length_cons, List.length_nil]; omega), by unfold maxLen; first | omega | (simp only [List.length_append, List.length_cons, List.length_nil]; omega)⟩, fin⟩
        · rw [pl1_f g2, List.append_nil] at fin
          exact fin
      · rintro _ rfl
        rw [pl1_f g1, List.append_nil, pl1_t g2] at fin
        exact ⟨⟨by first | omega | (simp only [List.length_append, List.length_cons, List.length_nil]; omega), by unfold maxLen; first | omega | (simp only [List.length_append, List.length_cons, List.length_nil]; omega)⟩, fin⟩
      · rw [pl1_f g1, List.append_nil, pl1_f g2, List.append_nil] at fin
        exact fin
  · have g := of_decide_eq_false g
    have := hx 0 _ (hq (plN M0 M1 M2 u0 n, M0 (u0 + (n : Int)), M1 (u0 + (n : Int)), M2 (u0 + (n : Int))) (by rw [show n = (t - u0).toNat by omega]))
    exact this
set_option maxHeartbeats 400000 in
set_option maxRecDepth 100000 in
theorem sBtw : Sound Tryz.prog 13 SBetween := by
  refine sound_of (C := CBtw) tabBtw Tryz.func13 (by kernel_rfl) (by decide +kernel) (by kernel_rfl) rfl ⟨sMotors, trivial⟩ (loopsK [nthLoop Tryz.f13 0] [] (by kernel_rfl) (by kernel_rfl) ⟨loopOK_of (an := anBtw) (S := LBtw) (by kernel_rfl) loopBtw, trivial⟩ trivial) ?_
  intro hargs pars R h
  unfold SBetween at h
  split at h
  case h_2 => exfalso; exact h
  rename_i s0 s1 s2 sg mk ax pk ln sa d0 d1 d2 f t
  split at h
  case h_2 => exact h.elim
  rename_i sta spa aca jea loa hia bla oga sga pta stb spb acb jeb lob hib blb ogb sgb ptb stc spc acc jec loc hic blc ogc sgc ptc
  obtain ⟨⟨hA, hln⟩, _, hq⟩ := h
  have h0 := hA.2.2.1.2.1.1
  refine byVC (vcBtw s0 s1 s2 f t ln sa d0 d1 d2 sg mk pk sta spa aca jea loa hia bla oga sga stb spb acb jeb lob hib blb ogb sgb stc spc acc jec loc hic blc ogc sgc pta ptb ptc R) ?_
  rintro _ rfl x2 e2 _ rfl x4 e4
  have c2 : clamp ln f = x2 := by unfold clamp; omega
  have c4 : clamp ln t = x4 := by unfold clamp; omega
  rw [c2, c4] at hq
  have hu : 0 ≤ x2 ∧ x2 ≤ ln := by omega
  have ci := clamp_in hu
  refine ⟨hA, fun x5 e5 x6 e6 x7 e7 => ⟨⟨hA, hln, hu, by omega, rfl, ?_, ?_, ?_⟩, fun x hx => hq _ hx⟩⟩
  · rw [e5, ci]; rfl
  · rw [e6, ci]; rfl
  · rw [e7, ci]; rfl
theorem sumAx_append (a : Int) (l m : List (List Int)) : sumAx a (l ++ m) = sumAx a l + sumAx a m := by
  induction l with
  | nil => simp [sumAx]
  | cons r l ih => simp only [List.cons_append, sumAx, ih]; omega
theorem sumAx_next (a : Int) (l : List (List Int)) {k : Nat} (hk : k < l.length) : sumAx a (l.take (k + 1)) = sumAx a (l.take k) + (if ec l k 1 = a then ec l k 2 else 0) := by
  rw [take_next l hk [], sumAx_append]
  simp [sumAx, ec]
theorem sumAx_bd {l : List (List Int)} (h : okDir l) (a : Int) : ∀ k, k ≤ l.length → -(1099511627776 * (k : Int)) ≤ sumAx a (l.take k) ∧ sumAx a (l.take k) ≤ 1099511627776 * (k : Int)
  | 0, _ => by simp [sumAx]
  | k + 1, hk => by
    have h1 := sumAx_bd h a k (by omega)
    have h2 := h.2 k (by omega)
    rw [sumAx_next a l (by omega)]
    split <;> omega
theorem okSum_of {l : List (List Int)} (h : okDir l) : okSum l := by
  have hl := h.1
  refine ⟨by omega, fun a k _ _ hk => ?_⟩
  have := sumAx_bd h a k hk
  omega
theorem sumAx_bd2 {l : List (List Int)} (h : okSum l) {a : Int} (h0 : 0 ≤ a) (h2 : a ≤ 2) {k : Nat} (hk : k < l.length) (e : ec l k 1 = a) : -4611686018427387904 ≤ sumAx a (l.take k) + ec l k 2 ∧ sumAx a (l.take k) + ec l k 2 ≤ 4611686018427387904 := by
  have := h.2 a (k + 1) h0 h2 hk
  rw [sumAx_next a l hk, if_pos e] at this
  exact this
theorem loopSum : ∀ v Q, (LSum v).wp Q → hloop CSum anSum (nthLoop Tryz.f35 0) v Q := by
  intro v Q h
  unfold LSum at h
  split at h
  case h_2 => exact h.elim
  rename_i l n i z0 z1 z2 x0 x1 x2
  obtain ⟨⟨hn, hi, h0, h1, h2, hd⟩, hq⟩ := h
  subst hn hi h0 h1 h2
  refine hloop_rec (σ := Nat)
    (fun k => ([.ce (.ptr 1000002 0), .ce (.ptr 1000003 0), .ce (.sl false [4, 4, 4] l), .ce (.int .i64 (l.length : Int)), .ce (.int .i64 (k : Int))], [[.int .i64 z0, .int .i64 z1, .int .i64 z2], [.int .i64 (sumAx 0 (l.take k)), .int .i64 (sumAx 1 (l.take k)), .int .i64 (sumAx 2 (l.take k))]]))
    (fun k => l.length - k) (fun k => k ≤ l.length) ?_ 0 (Nat.zero_le _)
  intro k hk K hn hx _
  have b0 := hd.2 0 k (by decide) (by decide) hk
  have b1 := hd.2 1 k (by decide) (by decide) hk
  have b2 := hd.2 2 k (by decide) (by decide) hk
  have hl := hd.1
  refine byVB (vbSum l.length k z0 z1 z2 (sumAx 0 (l.take k)) (sumAx 1 (l.take k)) (sumAx 2 (l.take k)) l K) ⟨fun g => ?_, fun g => ?_⟩
  · have g := of_decide_eq_true g
    have hkl : k < l.length := by omega
    have m0 := sumAx_bd2 hd (a := 0) (by decide) (by decide) hkl
    have m1 := sumAx_bd2 hd (a := 1) (by decide) (by decide) hkl
    have m2 := sumAx_bd2 hd (a := 2) (by decide) (by decide) hkl
    have ht : Int.toNat (k : Int) = k := rfl
    rw [ht]
    have fin := hn (k + 1) hkl (by omega)
    rw [sumAx_next 0 l hkl, sumAx_next 1 l hkl, sumAx_next 2 l hkl, show ((k + 1 : Nat) : Int) = (k : Int) + 1 by omega] at fin
    clear hn hx hq
    generalize ec l k 1 = a at *
    generalize ec l k 2 = d at *
    refine ⟨by omega, fun g0 => ⟨fun g1 => ⟨fun e0 => ⟨by omega, ?_⟩, fun e0 => ⟨fun e1 => ⟨by omega, ?_⟩, fun e1 => ⟨fun e2 => ⟨by omega, ?_⟩, fun e2 => ?_⟩⟩⟩, fun g1 => ⟨by omega, fun x e => ?_⟩⟩, fun g0 => ⟨by omega, fun x e => ?_⟩⟩
    · rintro _ rfl
      refine ⟨by omega, ?_⟩
      rintro _ rfl
      rw [if_pos e0, if_neg (by omega), if_neg (by omega), Int.add_zero, Int.add_zero] at fin
      exact fin
    · rintro _ rfl
      refine ⟨by omega, ?_⟩
      rintro _ rfl
      rw [if_neg (by omega), if_pos e1, if_neg (by omega), Int.add_zero, Int.add_zero] at fin
      exact fin
    · rintro _ rfl
      refine ⟨by omega, ?_⟩
      rintro _ rfl
      rw [if_neg (by omega), if_neg (by omega), if_pos e2, Int.add_zero, Int.add_zero] at fin
      exact fin
    · have g0 := of_decide_eq_true g0
      have g1 := of_decide_eq_true g1
      omega
    · have g1 := of_decide_eq_false g1
      rw [if_neg (by omega), if_neg (by omega), if_neg (by omega), Int.add_zero, Int.add_zero, Int.add_zero] at fin
      rw [e]; exact fin
    · have g0 := of_decide_eq_false g0
      rw [if_neg (by omega), if_neg (by omega), if_neg (by omega), Int.add_zero, Int.add_zero, Int.add_zero] at fin
      rw [e]; exact fin
  · have g := of_decide_eq_false g
    have hkl : k = l.length := by omega
    have := hx 0 _ hq
    rw [hkl, List.take_length]
    exact this
set_option maxHeartbeats 400000 in
set_option maxRecDepth 100000 in
theorem sSum : Sound Tryz.prog 35 SSum := by
  refine sound_of (C := CSum) [] Tryz.func35 (by kernel_rfl) (by decide +kernel) (by kernel_rfl) rfl trivial (loops1 (by kernel_rfl) (loopOK_of (an := anSum) (S := LSum) (by kernel_rfl) loopSum)) ?_
  intro hargs pars R h
  unfold SSum at h
  split at h
  case h_2 => exfalso; exact h
  exact byVC (vcSum _ R) ⟨⟨rfl, rfl, rfl, rfl, rfl, h.1⟩, h.2⟩
end Go.Proofs.YtneingpnkdeooaaGreat
namespace Go.Proofs.YtneingpnkdeooaaGreat
open Go Go.HL U
def STrue0 (hargs : List HV) (pars : List (List HC)) : SR :=
  match hargs, pars with
  | [], [] => .all True Bool (fun x => x = true) (fun x => ⟨.ce (.bool x), false, [], []⟩)
  | _, _ => .fail
def tabAw30 : List (FuncId × HL.Spec) := [(34, SLeg), (13, SBetween), (35, SSum)]
noncomputable def CAw30 : Ctx := ⟨Tryz.prog, gam tabAw30, Tryz.f9.ntmps, [], []⟩
theorem vcAw30 (Q : Res → Prop) : (nfun true CAw30 Tryz.f9 (bodyOf Tryz.f9) [] [] Q) =
    ((okLen [[(-100 : Int), (0 : Int), (0 : Int), (100 : Int), (0 : Int), (0 : Int), (0 : Int)]] ∧ okPts (0 : Int) (0 : Int) (0 : Int) [[(-100 : Int), (0 : Int), (0 : Int), (100 : Int), (0 : Int), (0 : Int), (0 : Int)]] ∧ okB3 (0 : Int) (0 : Int) (0 : Int)) ∧ (∃ (x : LegS), x = leg (0 : Int) (0 : Int) (0 : Int) [[(-100 : Int), (0 : Int), (0 : Int), (100 : Int), (0 : Int), (0 : Int), (0 : Int)]] (0 : Int) (0 : Int) (0 : Int) (1 : Int) (1 : Int) (1 : Int) (0 : Int) (100 : Int)) ∧ ∀ (x : LegS), x = leg (0 : Int) (0 : Int) (0 : Int) [[(-100 : Int), (0 : Int), (0 : Int), (100 : Int), (0 : Int), (0 : Int), (0 : Int)]] (0 : Int) (0 : Int) (0 : Int) (1 : Int) (1 : Int) (1 : Int) (0 : Int) (100 : Int) → ((okLen [[(-100 : Int), (0 : Int), (0 : Int), (100 : Int), (0 : Int), (0 : Int), (0 : Int)]] ∧ okPts (0 : Int) (0 : Int) (0 : Int) [[(-100 : Int), (0 : Int), (0 : Int), (100 : Int), (0 : Int), (0 : Int), (0 : Int)]] ∧
    okTrk x.pk x.ln ∧ okMA (10 : Int) (0 : Int) (0 : Int) [] (0 : Int) ∧ okMA (10 : Int) (0 : Int) (0 : Int) [] (0 : Int) ∧ okMA (10 : Int) (0 : Int) (0 : Int) [] (0 : Int) ∧ (0 : Int) ≤ (0 : Int) ∧ (0 : Int) ≤ (18014398509481984 : Int)) ∧ x.ln ≤ 1099511627776) ∧ (∃ (x_1 : List (List Int)), x_1 = plN (mtr (10 : Int) (0 : Int) (0 : Int) [] (0 : Int) (0 : Int) [[(-100 : Int), (0 : Int), (0 : Int), (100 : Int), (0 : Int), (0 : Int), (0 : Int)]] (0 : Nat) x.pk (0 : Int) (1 : Int)) (mtr (10 : Int) (0 : Int) (0 : Int) [] (0 : Int) (0 : Int) [[(-100 : Int), (0 : Int), (0 : Int), (100 : Int), (0 : Int), (0 : Int), (0 : Int)]] (1 : Nat) x.pk (0 : Int) (1 : Int)) (mtr (10 : Int) (0 : Int) (0 : Int) [] (0 : Int) (0 : Int) [[(-100 : Int), (0 : Int), (0 : Int), (100 : Int), (0 : Int), (0 : Int), (0 : Int)]] (2 : Nat) x.pk (0 : Int) (1 : Int)) (clamp x.ln (0 : Int)) (Int.toNat (clamp x.ln (7 : Int) - clamp x.ln (0 : Int)))) ∧
    ∀ (x_1 : List (List Int)), x_1 = plN (mtr (10 : Int) (0 : Int) (0 : Int) [] (0 : Int) (0 : Int) [[(-100 : Int), (0 : Int), (0 : Int), (100 : Int), (0 : Int), (0 : Int), (0 : Int)]] (0 : Nat) x.pk (0 : Int) (1 : Int)) (mtr (10 : Int) (0 : Int) (0 : Int) [] (0 : Int) (0 : Int) [[(-100 : Int), (0 : Int), (0 : Int), (100 : Int), (0 : Int), (0 : Int), (0 : Int)]] (1 : Nat) x.pk (0 : Int) (1 : Int)) (mtr (10 : Int) (0 : Int) (0 : Int) [] (0 : Int) (0 : Int) [[(-100 : Int), (0 : Int), (0 : Int), (100 : Int), (0 : Int), (0 : Int), (0 : Int)]] (2 : Nat) x.pk (0 : Int) (1 : Int)) (clamp x.ln (0 : Int)) (Int.toNat (clamp x.ln (7 : Int) - clamp x.ln (0 : Int))) → okSum [[(1 : Int), (0 : Int), (1 : Int)], [(2 : Int), (0 : Int), (1 : Int)], [(2 : Int), (2 : Int), (-1 : Int)]] ∧ ∀ (x3 : Int), x3 = 2 → ∀ (x4 : Int), x4 = 0 → ∀ (x5 : Int), x5 = (-1 : Int) → ((x3 == 2 && (x4 == 0 && (x5 == (-1 : Int) && true))) = true →
    (((List.length x_1 : Int) == (1 : Int)) = true → ((0 : Int) ≤ (0 : Int) ∧ (0 : Int) < (List.length x_1 : Int)) ∧ Q ⟨.ce (.bool (el x_1 (0 : Nat) == (6 : Int) && (ec x_1 (0 : Nat) (1 : Nat) == (0 : Int) && (ec x_1 (0 : Nat) (2 : Nat) == (-1 : Int) && true)))), false, [], []⟩) ∧ (((List.length x_1 : Int) == (1 : Int)) = false → Q ⟨.ce (.bool false), false, [], []⟩)) ∧ ((x3 == 2 && (x4 == 0 && (x5 == (-1 : Int) && true))) = false → Q ⟨.ce (.bool false), false, [], []⟩)) := by kernel_rfl
def okR : Res := ⟨.ce (.bool true), false, [], []⟩
end Go.Proofs.YtneingpnkdeooaaGreat
namespace Go.Proofs.YtneingpnkdeooaaGreat
open Go Go.HL U
attribute [local irreducible] hfun bodyT fragT
set_option maxHeartbeats 400000 in
set_option maxRecDepth 100000 in
theorem sAw30 : Sound Tryz.prog 9 STrue0 := by
  refine sound_of (C := CAw30) tabAw30 Tryz.func9 (by kernel_rfl) (by decide +kernel) (by kernel_rfl) rfl ⟨sLeg, sBtw, sSum, trivial⟩ (loops0 (by kernel_rfl)) ?_
  intro hargs pars R h
  unfold STrue0 at h
  split at h
  case h_2 => exfalso; exact h
  obtain ⟨_, _, hq⟩ := h
  have hl : okLen [[-100, 0, 0, 100, 0, 0, 0]] := ⟨by decide, fun j hj => by
    have : j = 0 := by simp at hj; omega
    subst this; decide⟩
  have hp : okPts 0 0 0 [[-100, 0, 0, 100, 0, 0, 0]] := ⟨by decide, by decide, by decide, fun j hj => by
    have : j = 0 := by simp at hj; omega
    subst this; decide⟩
  have hb : okB3 0 0 0 := by unfold okB3; decide
  have hleg : leg 0 0 0 [[-100, 0, 0, 100, 0, 0, 0]] 0 0 0 1 1 1 0 100 = ⟨[[0, 100, 0, 1, -1, 1, 1, -1, 1, 1]], 100, -1, 1, 1, 100⟩ := by kernel_rfl
  have hM : okMA 10 0 0 [] 0 := ⟨by decide, ⟨fun h => by simp at h, by decide, by decide, by decide, fun j hj => by simp at hj⟩, by decide⟩
  refine byVC (vcAw30 R) ⟨⟨hl, hp, hb⟩, ⟨_, rfl⟩, fun x ex => ?_⟩
  have ht := leg_ok (s0 := 0) (s1 := 0) (s2 := 0) (d0 := 1) (d1 := 1) (d2 := 1) (f := 0) (t := 100) hl hb (by decide) (by decide)
  rw [hleg] at ex ht
  subst ex
  refine ⟨⟨⟨hl, hp, ht, hM, hM, hM, by decide⟩, by decide⟩, ⟨_, rfl⟩, fun y ey => ?_⟩
  have hy : y = [[6, 0, -1]] := by rw [ey]; kernel_rfl
  subst hy
  refine ⟨okSum_of ⟨by decide, fun j hj => ?_⟩, fun x3 e3 x4 e4 x5 e5 => ?_⟩
  · have hj : j < 3 := hj
    have : j = 0 ∨ j = 1 ∨ j = 2 := by omega
    rcases this with rfl | rfl | rfl <;> decide
  · subst e3 e4 e5
    exact ⟨fun _ => ⟨fun _ => ⟨by decide, hq _ rfl⟩, fun g => absurd g (by decide)⟩, fun g => absurd g (by decide)⟩
end Go.Proofs.YtneingpnkdeooaaGreat
namespace U
open Go
structure RunS where
  s0 : Int
  s1 : Int
  s2 : Int
  sg : List (List Int)
  mks : List (List Int)
  a : AxV
  b : AxV
  c : AxV
  d0 : Int
  d1 : Int
  d2 : Int
  f : Int
  t : Int
  pk : List (List Int)
  ln : Int
def RunS.L (x : RunS) : LegS := leg x.s0 x.s1 x.s2 x.sg x.a.bl x.b.bl x.c.bl x.d0 x.d1 x.d2 x.f x.t
def okRun (x : RunS) : Prop :=
  okPath x.s0 x.s1 x.s2 x.sg x.mks ∧ okAx x.a ∧ okAx x.b ∧ okAx x.c ∧ (pm x.d0 ∧ pm x.d1 ∧ pm x.d2) ∧ (0 ≤ x.f ∧ x.f ≤ plen x.sg) ∧ (0 ≤ x.t ∧ x.t ≤ plen x.sg) ∧ x.pk = x.L.pk ∧ x.ln = x.L.ln
end U
namespace Go.Proofs.YtneingpnkdeooaaGreat
open Go Go.HL U
def SRun (hargs : List HV) (pars : List (List HC)) : SR :=
  match hargs, pars with
  | [.ce (.sl false [4] l), .ce (.sl false [4] ax), .ce (.int .i64 ds), .ce (.int .i64 f), .ce (.int .i64 t)], [] => .all (l.length ≤ 9223372036854775807 ∧ ax.length ≤ 9223372036854775807) RunS okRun (fun x => ⟨.agg [.int .i64 x.s0, .int .i64 x.s1, .int .i64 x.s2, .sl false [4, 4, 4, 4, 4, 4, 4] x.sg, .sl false [4, 4, 4] x.mks, .int .i64 x.a.st, .int .i64 x.a.sp, .int .i64 x.a.ac, .int .i64 x.a.je, .int .i64 (-16777216), .int .i64 16777216, .int .i64 x.a.bl, .int .i64 x.a.og, .int .i64 x.a.sg, .sl false [4] x.a.pit, .int .i64 x.b.st, .int .i64 x.b.sp, .int .i64 x.b.ac, .int .i64 x.b.je, .int .i64 (-16777216), .int .i64 16777216, .int .i64 x.b.bl, .int .i64 x.b.og, .int .i64 x.b.sg, .sl false [4] x.b.pit, .int .i64 x.c.st, .int .i64 x.c.sp, .int .i64 x.c.ac, .int .i64 x.c.je, .int .i64 (-16777216), .int .i64 16777216, .int .i64 x.c.bl, .int .i64 x.c.og, .int .i64 x.c.sg, .sl false [4] x.c.pit, .sl false [4, 4, 4, 4, 4, 4, 4, 4, 4, 4] x.pk, .int .i64 x.ln, .int .i64 x.f, .int .i64 x.d0, .int .i64 x.d1, .int .i64 x.d2], false, [], []⟩)
  | _, _ => .fail
def tabRun : List (FuncId × HL.Spec) := [(36, SPath), (37, SAxes), (28, SPLen), (38, SDirs), (11, SMod), (34, SLeg)]
noncomputable def CRun30 : Ctx := ⟨Tryz.prog, gam tabRun, Tryz.f10.ntmps, [], []⟩
theorem vcRun30 (l ax : List (List Int)) (ds f t : Int) (Q : Res → Prop) : (nfun true CRun30 Tryz.f10 (bodyOf Tryz.f10) [.ce (.sl false [4] l), .ce (.sl false [4] ax), .ce (.int .i64 ds), .ce (.int .i64 f), .ce (.int .i64 t)] [] Q) =
    (((0 : Int) ≤ (4 : Int) ∧ (4 : Int) ≤ (5 : Int) ∧ List.length l ≤ (9223372036854775807 : Nat)) ∧ (∃ (x : BSt), okPath x.s0 x.s1 x.s2 x.sg x.mks) ∧ ∀ (x : BSt), okPath x.s0 x.s1 x.s2 x.sg x.mks → List.length ax ≤ (9223372036854775807 : Nat) ∧ (∃ (x : AxV × AxV × AxV), okAx x.1 ∧ okAx x.snd.1 ∧ okAx x.snd.2) ∧ ∀ (x_1 : AxV × AxV × AxV), okAx x_1.1 ∧ okAx x_1.snd.1 ∧ okAx x_1.snd.2 → okLen x.sg ∧ ∀ (x3 : Int), x3 = plen x.sg → True ∧ (∃ (x : Int × Int × Int), pm x.1 ∧ pm x.snd.1 ∧ pm x.snd.2) ∧ ∀ (x_2 : Int × Int × Int), pm x_2.1 ∧ pm x_2.snd.1 ∧ pm x_2.snd.2 → (-9223372036854775808 ≤ x3 + 1 ∧ x3 + 1 ≤ 9223372036854775807) ∧ ∀ (x5 : Int), x5 = x3 + 1 → (0 < x5 ∧ x5 ≤ 4611686018427387904) ∧ ∀ (x6 : Int), x6 = f % x5 → (-9223372036854775808 ≤ x3 + 1 ∧ x3 + 1 ≤ 9223372036854775807) ∧ ∀ (x7 : Int), x7 = x3 + 1 → (0 < x7 ∧ x7 ≤ 4611686018427387904) ∧ ∀ (x8 : Int), x8 = t % x7 → (okLen x.sg ∧ okPts x.s0 x.s1 x.s2 x.sg ∧
    okB3 x_1.1.bl x_1.snd.1.bl x_1.snd.2.bl) ∧ (∃ (x_3 : LegS), x_3 = leg x.s0 x.s1 x.s2 x.sg x_1.1.bl x_1.snd.1.bl x_1.snd.2.bl x_2.1 x_2.snd.1 x_2.snd.2 (clamp (plen x.sg) x6) (clamp (plen x.sg) x8)) ∧ ∀ (x_3 : LegS), x_3 = leg x.s0 x.s1 x.s2 x.sg x_1.1.bl x_1.snd.1.bl x_1.snd.2.bl x_2.1 x_2.snd.1 x_2.snd.2 (clamp (plen x.sg) x6) (clamp (plen x.sg) x8) → Q ⟨.agg [.int .i64 x.s0, .int .i64 x.s1, .int .i64 x.s2, .sl false [4, 4, 4, 4, 4, 4, 4] x.sg, .sl false [4, 4, 4] x.mks, .int .i64 x_1.1.st, .int .i64 x_1.1.sp, .int .i64 x_1.1.ac, .int .i64 x_1.1.je, .int .i64 (-16777216), .int .i64 16777216, .int .i64 x_1.1.bl, .int .i64 x_1.1.og, .int .i64 x_1.1.sg, .sl false [4] x_1.1.pit, .int .i64 x_1.snd.1.st, .int .i64 x_1.snd.1.sp, .int .i64 x_1.snd.1.ac, .int .i64 x_1.snd.1.je, .int .i64 (-16777216), .int .i64 16777216, .int .i64 x_1.snd.1.bl, .int .i64 x_1.snd.1.og, .int .i64 x_1.snd.1.sg, .sl false [4] x_1.snd.1.pit, .int .i64 x_1.snd.2.st, .int .i64 x_1.snd.2.sp, .int .i64 x_1.snd.2.ac, .int .i64 x_1.snd.2.je, .int .i64 (-16777216), .int .i64 16777216, .int .i64 x_1.snd.2.bl, .int .i64 x_1.snd.2.og, .int .i64 x_1.snd.2.sg, .sl false [4] x_1.snd.2.pit, .sl false [4, 4, 4, 4, 4, 4, 4, 4, 4, 4] x_3.pk, .int .i64 x_3.ln, .int .i64 (clamp (plen x.sg) x6), .int .i64 x_2.1, .int .i64 x_2.snd.1, .int .i64 x_2.snd.2], false, [], []⟩) := by kernel_rfl
end Go.Proofs.YtneingpnkdeooaaGreat
namespace U
open Go
theorem okAx_MA {a : AxV} (h : okAx a) : okMA a.st a.og a.sg a.pit a.bl := by
  obtain ⟨h1, h2, h3, h4, h5, h6, h7, h8, h9, h10⟩ := h
  exact ⟨by omega, ⟨fun h => by have := h9 h; omega, by omega, by omega, by omega, h10.1⟩, by omega⟩
theorem tadd_ln (pk : List (List Int)) (ln : Int) (q : List Int) : (tadd pk ln q).2 = ln + q.getD 1 0 := by unfold tadd; split <;> rfl
theorem legStep_ln {s0 s1 s2 : Int} {sg : List (List Int)} {b0 b1 b2 f t m : Int} {x : LegS} {k : Nat} (hb : okB3 b0 b1 b2) (hm : m = 1 ∨ m = -1) (hk : k < sg.length) (hs : okSegs s0 s1 s2 sg) :
    (legStep s0 s1 s2 sg b0 b1 b2 f t m x k).ln ≤ x.ln + 135168 := by
  have hi := legI_bd (m := m) hk
  have hl := (hs (legI sg.length m k).toNat (by omega)).2.1
  unfold legStep legSeg legPut
  generalize legI sg.length m k = i at *
  generalize fc1 (bgn s0 sg 0 i) (ec sg i.toNat 0) m x.a0 = n0
  generalize fc1 (bgn s1 sg 1 i) (ec sg i.toNat 1) m x.a1 = n1
  generalize fc1 (bgn s2 sg 2 i) (ec sg i.toNat 2) m x.a2 = n2
  have hu := slk_bd hb x.a0 x.a1 x.a2 n0 n1 n2
  have hE : legE sg m x.bg i = x.bg + m * ec sg i.toNat 3 := rfl
  split
  · dsimp only
    rw [tadd_ln]
    have h2 : (legTk x.pk x.ln (slk b0 b1 b2 x.a0 x.a1 x.a2 n0 n1 n2) (legS m (legLow x.bg (legE sg m x.bg i) f t) (legHigh x.bg (legE sg m x.bg i) f t)) x.a0 x.a1 x.a2 n0 n1 n2).2 ≤ x.ln + 4096 := by
      unfold legTk
      split
      · rw [tadd_ln]
        show x.ln + slk b0 b1 b2 x.a0 x.a1 x.a2 n0 n1 n2 ≤ x.ln + 4096
        omega
      · show x.ln ≤ x.ln + 4096
        omega
    have h3 : legHigh x.bg (legE sg m x.bg i) f t - legLow x.bg (legE sg m x.bg i) f t ≤ 131072 := by
      unfold legHigh legLow
      rw [hE]
      rcases hm with rfl | rfl
      · omega
      · omega
    show _ + (legHigh x.bg (legE sg m x.bg i) f t - legLow x.bg (legE sg m x.bg i) f t) ≤ x.ln + 135168
    omega
  · show x.ln ≤ x.ln + 135168
    omega
theorem legK_ln {s0 s1 s2 : Int} {sg : List (List Int)} {b0 b1 b2 f t m : Int} {x : LegS} (hb : okB3 b0 b1 b2) (hm : m = 1 ∨ m = -1) (hs : okSegs s0 s1 s2 sg) : ∀ k, k ≤ sg.length →
    (legK s0 s1 s2 sg b0 b1 b2 f t m x k).ln ≤ x.ln + 135168 * (k : Int)
  | 0, _ => by show x.ln ≤ x.ln + 135168 * ((0 : Nat) : Int); omega
  | k + 1, h => by
    have h1 := legK_ln (x := x) hb hm hs (f := f) (t := t) k (by omega)
    have h2 := legStep_ln (x := legK s0 s1 s2 sg b0 b1 b2 f t m x k) (f := f) (t := t) hb hm (show k < sg.length by omega) hs
    show (legStep s0 s1 s2 sg b0 b1 b2 f t m (legK s0 s1 s2 sg b0 b1 b2 f t m x k) k).ln ≤ _
    omega
theorem legM_pm (f t : Int) : legM f t = 1 ∨ legM f t = -1 := by unfold legM; split <;> omega
theorem leg_ln {s0 s1 s2 : Int} {sg : List (List Int)} {b0 b1 b2 d0 d1 d2 f t : Int} (hb : okB3 b0 b1 b2) (hs : okSegs s0 s1 s2 sg) (hl : sg.length ≤ 355000) : (leg s0 s1 s2 sg b0 b1 b2 d0 d1 d2 f t).ln ≤ 1099511627776 := by
  unfold leg
  have := legK_ln (x := ⟨[], 0, d0, d1, d2, if legM f t < 0 then plen sg else 0⟩) (f := f) (t := t) hb (legM_pm f t) hs sg.length (Nat.le_refl _)
  dsimp only at this
  omega
def trkPre (x : RunS) : Prop :=
  okLen x.sg ∧ okPts x.s0 x.s1 x.s2 x.sg ∧ okTrk x.pk x.ln ∧ okMA x.a.st x.a.og x.a.sg x.a.pit x.a.bl ∧ okMA x.b.st x.b.og x.b.sg x.b.pit x.b.bl ∧ okMA x.c.st x.c.og x.c.sg x.c.pit x.c.bl ∧ (0 ≤ x.f ∧ x.f ≤ 18014398509481984)
theorem okRun_b3 {x : RunS} (h : okRun x) : okB3 x.a.bl x.b.bl x.c.bl := by
  obtain ⟨_, ha, hb, hc, _⟩ := h
  have := ha.2.2.2.2.1
  have := hb.2.2.2.2.1
  have := hc.2.2.2.2.1
  unfold okB3; omega
theorem okRun_pre {x : RunS} (h : okRun x) : trkPre x := by
  have hb := okRun_b3 h
  obtain ⟨hp, ha, hb', hc, hd, hf, ht, h1, h2⟩ := h
  have hl := okPath_len hp
  have hk := leg_ok (s0 := x.s0) (s1 := x.s1) (s2 := x.s2) (d0 := x.d0) (d1 := x.d1) (d2 := x.d2) hl hb hf ht
  have := plen_le hl
  refine ⟨hl, okPath_pts hp, ?_, okAx_MA ha, okAx_MA hb', okAx_MA hc, by omega⟩
  rw [h1, h2]; exact hk
theorem okRun_ln {x : RunS} (h : okRun x) : x.ln ≤ 1099511627776 := by
  rw [h.2.2.2.2.2.2.2.2]
  exact leg_ln (okRun_b3 h) h.1.2.1 h.1.2.2.1
theorem okPath_ex : ∃ x : BSt, okPath x.s0 x.s1 x.s2 x.sg x.mks := ⟨⟨0, 0, 0, 0, 0, 0, 0, [], [], -1, false⟩, by unfold b3; decide, okSegs_nil _ _ _, by decide, by decide⟩
theorem run_tail {most : Int} {l ax : List (List Int)} {f t : Int} {G : BSt → AxV × AxV × AxV → Int × Int × Int → Int → Int → LegS → Prop} (hm : 0 ≤ most ∧ most ≤ 5) (hl : l.length ≤ 9223372036854775807) (ha : ax.length ≤ 9223372036854775807)
    (fin : ∀ (x : BSt) (y : AxV × AxV × AxV) (z : Int × Int × Int) (u v : Int) (w : LegS), okRun ⟨x.s0, x.s1, x.s2, x.sg, x.mks, y.1, y.2.1, y.2.2, z.1, z.2.1, z.2.2, clamp (plen x.sg) u, clamp (plen x.sg) v, w.pk, w.ln⟩ → G x y z u v w) :
    (0 ≤ most ∧ most ≤ 5 ∧ List.length l ≤ 9223372036854775807) ∧ (∃ (x : BSt), okPath x.s0 x.s1 x.s2 x.sg x.mks) ∧ ∀ (x : BSt), okPath x.s0 x.s1 x.s2 x.sg x.mks → List.length ax ≤ 9223372036854775807 ∧ (∃ (x : AxV × AxV × AxV), okAx x.1 ∧ okAx x.snd.1 ∧ okAx x.snd.2) ∧
    ∀ (x_1 : AxV × AxV × AxV), okAx x_1.1 ∧ okAx x_1.snd.1 ∧ okAx x_1.snd.2 → okLen x.sg ∧ ∀ (x3 : Int), x3 = plen x.sg → True ∧ (∃ (x : Int × Int × Int), pm x.1 ∧ pm x.snd.1 ∧ pm x.snd.2) ∧
    ∀ (x_2 : Int × Int × Int), pm x_2.1 ∧ pm x_2.snd.1 ∧ pm x_2.snd.2 → ((-9223372036854775808 : Int) ≤ x3 + 1 ∧ x3 + 1 ≤ 9223372036854775807) ∧ ∀ (x5 : Int), x5 = x3 + 1 → (0 < x5 ∧ x5 ≤ 4611686018427387904) ∧
    ∀ (x6 : Int), x6 = f % x5 → ((-9223372036854775808 : Int) ≤ x3 + 1 ∧ x3 + 1 ≤ 9223372036854775807) ∧ ∀ (x7 : Int), x7 = x3 + 1 → (0 < x7 ∧ x7 ≤ 4611686018427387904) ∧
    ∀ (x8 : Int), x8 = t % x7 → (okLen x.sg ∧ okPts x.s0 x.s1 x.s2 x.sg ∧ okB3 x_1.1.bl x_1.snd.1.bl x_1.snd.2.bl) ∧ (∃ (x_3 : LegS), x_3 = leg x.s0 x.s1 x.s2 x.sg x_1.1.bl x_1.snd.1.bl x_1.snd.2.bl x_2.1 x_2.snd.1 x_2.snd.2 (clamp (plen x.sg) x6) (clamp (plen x.sg) x8)) ∧
    ∀ (x_3 : LegS), x_3 = leg x.s0 x.s1 x.s2 x.sg x_1.1.bl x_1.snd.1.bl x_1.snd.2.bl x_2.1 x_2.snd.1 x_2.snd.2 (clamp (plen x.sg) x6) (clamp (plen x.sg) x8) → G x x_1 x_2 x6 x8 x_3 := by
  refine ⟨⟨hm.1, hm.2, hl⟩, okPath_ex, fun x hx => ⟨ha, ?_, fun y hy => ?_⟩⟩
  · obtain ⟨a, h⟩ := Go.Proofs.YtneingpnkdeooaaGreat.okAx_ex
    exact ⟨(a, a, a), h, h, h⟩
  · have hL := okPath_len hx
    have hp := plen_le hL
    refine ⟨hL, fun x3 e3 => ⟨trivial, ⟨(1, 1, 1), .inl rfl, .inl rfl, .inl rfl⟩, fun z hz => ⟨by omega, fun x5 e5 => ⟨by omega, fun u eu => ⟨by omega, fun x7 e7 => ⟨by omega, fun v ev => ⟨⟨hL, okPath_pts hx, ?_⟩, ⟨_, rfl⟩, fun w hw => fin x y z u v w ?_⟩⟩⟩⟩⟩⟩⟩
    · have := hy.1.2.2.2.2.1
      have := hy.2.1.2.2.2.2.1
      have := hy.2.2.2.2.2.2.1
      unfold okB3; omega
    · have c1 := clamp_bd (v := u) hp.1
      have c2 := clamp_bd (v := v) hp.1
      exact ⟨hx, hy.1, hy.2.1, hy.2.2, hz, c1, c2, by rw [hw]; rfl, by rw [hw]; rfl⟩
end U
namespace Go.Proofs.YtneingpnkdeooaaGreat
open Go Go.HL U
attribute [local irreducible] hfun bodyT fragT
set_option maxHeartbeats 400000 in
set_option maxRecDepth 100000 in
theorem sRun30 : Sound Tryz.prog 10 SRun := by
  refine sound_of (C := CRun30) tabRun Tryz.func10 (by kernel_rfl) (by decide +kernel) (by kernel_rfl) rfl ⟨sPath, sAxes, sPLen, sDirs, sMod, sLeg, trivial⟩ (loops0 (by kernel_rfl)) ?_
  intro hargs pars R h
  unfold SRun at h
  split at h
  case h_2 => exfalso; exact h
  rename_i l ax ds f t
  obtain ⟨⟨hl, ha⟩, _, hR⟩ := h
  exact byVC (vcRun30 l ax ds f t R) (run_tail (by decide) hl ha fun x y z u v w hw => hR ⟨x.s0, x.s1, x.s2, x.sg, x.mks, y.1, y.2.1, y.2.2, z.1, z.2.1, z.2.2, clamp (plen x.sg) u, clamp (plen x.sg) v, w.pk, w.ln⟩ hw)
end Go.Proofs.YtneingpnkdeooaaGreat
namespace U
open Go
def RunS.M0 (x : RunS) : Int → Int := mtr x.a.st x.a.og x.a.sg x.a.pit x.a.bl x.s0 x.sg 0 x.pk x.f x.d0
def RunS.M1 (x : RunS) : Int → Int := mtr x.b.st x.b.og x.b.sg x.b.pit x.b.bl x.s1 x.sg 1 x.pk x.f x.d1
def RunS.M2 (x : RunS) : Int → Int := mtr x.c.st x.c.og x.c.sg x.c.pit x.c.bl x.s2 x.sg 2 x.pk x.f x.d2
end U
namespace Go.Proofs.YtneingpnkdeooaaGreat
open Go Go.HL U
def SSameP (hargs : List HV) (pars : List (List HC)) : SR :=
  match hargs, pars with
  | [.ce (.sl false [4, 4, 4] a), .ce (.sl false [4, 4, 4] b)], [] => .det (a = b ∧ a.length ≤ 9223372036854775807) okR
  | _, _ => .fail
def anSameP : LAnn := ⟨[0, 1, 4, 12, 13], [4], [], false⟩
def LSameP (v : LV) : LR :=
  match v with
  | ([.ce (.sl false [4, 4, 4] a), .ce (.sl false [4, 4, 4] b), .ce (.bool z), .ce (.int .i64 n), .ce (.int .i64 i)], []) =>
    .det (b = a ∧ n = (a.length : Int) ∧ i = 0 ∧ a.length ≤ 9223372036854775807) (.exit 0) ([.ce (.bool z)], [])
  | _ => .fail
noncomputable def CSameP : Ctx := ⟨Tryz.prog, gam [], Tryz.f12.ntmps, [(4, anSameP, LSameP)], []⟩
theorem vbSameP (n i : Int) (z : Bool) (a b : List (List Int)) (K : HEx → LV → Prop) : (nbodyT true CSameP anSameP (nthLoop Tryz.f12 0) (([.ce (.sl false [4, 4, 4] a), .ce (.sl false [4, 4, 4] b), .ce (.bool z), .ce (.int .i64 n), .ce (.int .i64 i)], [])) K) =
    ((decide (i < n) = true → (0 ≤ i ∧ i < (List.length a : Int)) ∧ (0 ≤ i ∧ i < (List.length b : Int)) ∧ ((!(el a i.toNat == el b i.toNat && (ec a i.toNat 1 == ec b i.toNat 1 && (ec a i.toNat 2 == ec b i.toNat 2 && true)))) = true → K .ret ([.ce (.bool false)], [])) ∧ ((!(el a i.toNat == el b i.toNat && (ec a i.toNat 1 == ec b i.toNat 1 && (ec a i.toNat 2 == ec b i.toNat 2 && true)))) = false → (-9223372036854775808 ≤ i + 1 ∧ i + 1 ≤ 9223372036854775807) ∧ ∀ (x1 : Int), x1 = i + 1 → K .normal ([.ce (.sl false [4, 4, 4] a), .ce (.sl false [4, 4, 4] b), .ce (.bool z), .ce (.int .i64 n), .ce (.int .i64 x1)], []))) ∧ (decide (i < n) = false → K (.exit 0) ([.ce (.bool z)], []))) := by kernel_rfl
theorem vcSameP (a b : List (List Int)) (Q : Res → Prop) : (nfun true CSameP Tryz.f12 (bodyOf Tryz.f12) [.ce (.sl false [4, 4, 4] a), .ce (.sl false [4, 4, 4] b)] [] Q) =
    ((((List.length a : Int) != (List.length b : Int)) = true → Q ⟨.ce (.bool false), false, [], []⟩) ∧ (((List.length a : Int) != (List.length b : Int)) = false → (b = a ∧ (List.length a : Int) = (List.length a : Int) ∧ (0 : Int) = (0 : Int) ∧ List.length a ≤ (9223372036854775807 : Nat)) ∧ Q ⟨.ce (.bool true), false, [], []⟩)) := by kernel_rfl
def SPieceR (hargs : List HV) (pars : List (List HC)) : SR :=
  match hargs, pars with
  | [.agg [.sl false [4, 4, 4, 4, 4, 4, 4, 4, 4, 4] pk, .int .i64 ln, .int .i64 sa, .int .i64 d0, .int .i64 d1, .int .i64 d2], .ce (.int .i64 u)], [] => .det (okTrk pk ln) ⟨.tup [.ce (.int .i64 (tfind pk (clamp ln u))), .ce (.int .i64 (clamp ln u))], false, [], []⟩
  | _, _ => .fail
def anPieceR : LAnn := ⟨[1, 2, 4, 5, 14, 15, 16], [1, 2, 4, 5], [1000002], false⟩
def LPieceR (v : LV) : LR :=
  match v with
  | ([.ce (.int .i64 u), .ce (.ptr 1000002 0), .ce (.int .i64 z), .ce (.int .i64 y), .ce (.sl false [4, 4, 4, 4, 4, 4, 4, 4, 4, 4] l), .ce (.int .i64 n), .ce (.int .i64 i)], [[.sl false [4, 4, 4, 4, 4, 4, 4, 4, 4, 4] pk, .int .i64 ln, .int .i64 sa, .int .i64 d0, .int .i64 d1, .int .i64 d2]]) =>
    .alts (n = (l.length : Int) ∧ i = 0 ∧ l = pk ∧ okTrk pk ln ∧ 0 ≤ u ∧ u ≤ ln)
      [(tfind pk u = -1, .exit 0, ([.ce (.int .i64 u), .ce (.ptr 1000002 0), .ce (.int .i64 z), .ce (.int .i64 y)], [[.sl false [4, 4, 4, 4, 4, 4, 4, 4, 4, 4] pk, .int .i64 ln, .int .i64 sa, .int .i64 d0, .int .i64 d1, .int .i64 d2]])),
       (0 ≤ tfind pk u, .ret, ([.ce (.int .i64 u), .ce (.ptr 1000002 0), .ce (.int .i64 (tfind pk u)), .ce (.int .i64 u)], [[.sl false [4, 4, 4, 4, 4, 4, 4, 4, 4, 4] pk, .int .i64 ln, .int .i64 sa, .int .i64 d0, .int .i64 d1, .int .i64 d2]]))]
  | _ => .fail
noncomputable def CPieceR : Ctx := ⟨Tryz.prog, gam [], Tryz.f67.ntmps, [(3, anPieceR, LPieceR)], []⟩
theorem vbPieceR (u z y n i ln sa d0 d1 d2 : Int) (l pk : List (List Int)) (K : HEx → LV → Prop) : (nbodyT true CPieceR anPieceR (nthLoop Tryz.f67 0) (([.ce (.int .i64 u), .ce (.ptr 1000002 0), .ce (.int .i64 z), .ce (.int .i64 y), .ce (.sl false [4, 4, 4, 4, 4, 4, 4, 4, 4, 4] l), .ce (.int .i64 n), .ce (.int .i64 i)], [[.sl false [4, 4, 4, 4, 4, 4, 4, 4, 4, 4] pk, .int .i64 ln, .int .i64 sa, .int .i64 d0, .int .i64 d1, .int .i64 d2]])) K) =
    ((decide (i < n) = true → (0 ≤ i ∧ i < (List.length l : Int)) ∧ (-9223372036854775808 ≤ el l i.toNat + ec l i.toNat 1 ∧ el l i.toNat + ec l i.toNat 1 ≤ 9223372036854775807) ∧ ∀ (x1 : Int), x1 = el l i.toNat + ec l i.toNat 1 → (decide (u ≤ x1) = true → K .ret ([.ce (.int .i64 u), .ce (.ptr 1000002 0), .ce (.int .i64 i), .ce (.int .i64 u)], [[.sl false [4, 4, 4, 4, 4, 4, 4, 4, 4, 4] pk, .int .i64 ln, .int .i64 sa, .int .i64 d0, .int .i64 d1, .int .i64 d2]])) ∧ (decide (u ≤ x1) = false → (-9223372036854775808 ≤ i + 1 ∧ i + 1 ≤ 9223372036854775807) ∧ ∀ (x2 : Int), x2 = i + 1 → K .normal ([.ce (.int .i64 u), .ce (.ptr 1000002 0), .ce (.int .i64 z), .ce (.int .i64 y), .ce (.sl false [4, 4, 4, 4, 4, 4, 4, 4, 4, 4] l), .ce (.int .i64 n), .ce (.int .i64 x2)], [[.sl false [4, 4, 4, 4, 4, 4, 4, 4, 4, 4] pk, .int .i64 ln, .int .i64 sa, .int .i64 d0, .int .i64 d1, .int .i64 d2]]))) ∧ (decide (i < n) = false →
    K (.exit 0) ([.ce (.int .i64 u), .ce (.ptr 1000002 0), .ce (.int .i64 z), .ce (.int .i64 y)], [[.sl false [4, 4, 4, 4, 4, 4, 4, 4, 4, 4] pk, .int .i64 ln, .int .i64 sa, .int .i64 d0, .int .i64 d1, .int .i64 d2]]))) := by kernel_rfl
theorem vcPieceR (u ln sa d0 d1 d2 : Int) (pk : List (List Int)) (Q : Res → Prop) : (nfun true CPieceR Tryz.f67 (bodyOf Tryz.f67) [.agg [.sl false [4, 4, 4, 4, 4, 4, 4, 4, 4, 4] pk, .int .i64 ln, .int .i64 sa, .int .i64 d0, .int .i64 d1, .int .i64 d2], .ce (.int .i64 u)] [] Q) =
    (∀ (x1 : Int), x1 = max u (0 : Int) → ∀ (x2 : Int), x2 = min x1 ln → ((List.length pk : Int) = (List.length pk : Int) ∧ (0 : Int) = (0 : Int) ∧ pk = pk ∧ okTrk pk ln ∧ 0 ≤ x2 ∧ x2 ≤ ln) ∧ (tfind pk x2 = (-1 : Int) → Q ⟨.tup [.ce (.int .i64 (-1)), .ce (.int .i64 x2)], false, [], []⟩) ∧ (0 ≤ tfind pk x2 → Q ⟨.tup [.ce (.int .i64 (tfind pk x2)), .ce (.int .i64 x2)], false, [], []⟩)) := by kernel_rfl
end Go.Proofs.YtneingpnkdeooaaGreat
namespace Go.Proofs.YtneingpnkdeooaaGreat
open Go Go.HL U
theorem okRun_ex : ∃ x, okRun x := by
  obtain ⟨a, ha⟩ := okAx_ex
  have hp : okPath 0 0 0 [] [] := ⟨by unfold b3; decide, okSegs_nil _ _ _, by decide, by decide⟩
  have h0 : (0 : Int) ≤ 0 ∧ 0 ≤ plen [] := by decide
  exact ⟨⟨0, 0, 0, [], [], a, a, a, 1, 1, 1, 0, 0, _, _⟩, hp, ha, ha, ha, ⟨.inl rfl, .inl rfl, .inl rfl⟩, h0, h0, rfl, rfl⟩
theorem okRun_ln0 {x : RunS} (h : okRun x) : 0 ≤ x.ln := (okRun_pre h).2.2.1.2.1.1
attribute [local irreducible] hfun bodyT fragT
theorem loopSameP : ∀ v Q, (LSameP v).wp Q → hloop CSameP anSameP (nthLoop Tryz.f12 0) v Q := by
  intro v Q h
  unfold LSameP at h
  split at h
  case h_2 => exact h.elim
  rename_i a b z n i
  obtain ⟨⟨h1, h2, h3, h4⟩, hq⟩ := h
  subst h1 h2 h3
  refine hloop_rec (σ := Nat) (fun k => ([.ce (.sl false [4, 4, 4] b), .ce (.sl false [4, 4, 4] b), .ce (.bool z), .ce (.int .i64 (b.length : Int)), .ce (.int .i64 (k : Int))], [])) (fun k => b.length - k) (fun k => k ≤ b.length) ?_ 0 (Nat.zero_le _)
  intro k hk K hn hx _
  refine byVB (vbSameP b.length k z b b K) ⟨fun g => ?_, fun g => hx _ _ hq⟩
  have g := of_decide_eq_true g
  refine ⟨by omega, by omega, fun e => ?_, fun _ => ⟨by omega, fun x1 e1 => ?_⟩⟩
  · simp at e
  · have e1 : x1 = ((k + 1 : Nat) : Int) := by omega
    rw [e1]
    exact hn (k + 1) (by omega) (by omega)
set_option maxHeartbeats 400000 in
set_option maxRecDepth 100000 in
theorem sSameP : Sound Tryz.prog 12 SSameP := by
  refine sound_of (C := CSameP) [] Tryz.func12 (by kernel_rfl) (by decide +kernel) (by kernel_rfl) rfl trivial (loops1 (by kernel_rfl) (loopOK_of (an := anSameP) (S := LSameP) (by kernel_rfl) loopSameP)) ?_
  intro hargs pars R h
  unfold SSameP at h
  split at h
  case h_2 => exfalso; exact h
  rename_i a b
  obtain ⟨⟨h1, h2⟩, hq⟩ := h
  subst h1
  exact byVC (vcSameP a a R) ⟨fun g => (by simp at g), fun _ => ⟨⟨rfl, rfl, rfl, h2⟩, hq⟩⟩
theorem loopPieceR : ∀ v Q, (LPieceR v).wp Q → hloop CPieceR anPieceR (nthLoop Tryz.f67 0) v Q := by
  intro v Q h
  unfold LPieceR at h
  split at h
  case h_2 => exact h.elim
  rename_i u z y l n i pk ln sa d0 d1 d2
  obtain ⟨⟨h1, h2, h3, h4, h5, h6⟩, q0, q1⟩ := h
  subst h1 h2 h3
  refine hloop_rec (σ := Nat) (fun k => ([.ce (.int .i64 u), .ce (.ptr 1000002 0), .ce (.int .i64 z), .ce (.int .i64 y), .ce (.sl false [4, 4, 4, 4, 4, 4, 4, 4, 4, 4] l), .ce (.int .i64 (l.length : Int)), .ce (.int .i64 (k : Int))], [[.sl false [4, 4, 4, 4, 4, 4, 4, 4, 4, 4] l, .int .i64 ln, .int .i64 sa, .int .i64 d0, .int .i64 d1, .int .i64 d2]]))
    (fun k => l.length - k) (fun k => k ≤ l.length ∧ ∀ j, j < k → endp l j < u) ?_ 0 ⟨Nat.zero_le _, fun j hj => by omega⟩
  rintro k ⟨hk, hk2⟩ K hn hx hr
  refine byVB (vbPieceR u z y l.length k ln sa d0 d1 d2 l l K) ⟨fun g => ?_, fun g => ?_⟩
  · have g := of_decide_eq_true g
    have hkl : k < l.length := by omega
    have ht : Int.toNat (k : Int) = k := rfl
    rw [ht]
    have ab := at_bd h4 hkl
    have lnb := h4.2.1
    have hll := h4.1
    have ee : endp l k = el l k + ec l k 1 := rfl
    refine ⟨by omega, by omega, fun x1 e1 => ⟨fun g1 => ?_, fun g1 => ⟨by omega, fun x2 e2 => ?_⟩⟩⟩
    · have g1 := of_decide_eq_true g1
      have hf : tfind l u = k := tfind_of hkl (by omega) hk2
      have q := q1 (by omega)
      rw [hf] at q
      exact hr _ q
    · have g1 := of_decide_eq_false g1
      rw [show x2 = ((k + 1 : Nat) : Int) by omega]
      refine hn (k + 1) ⟨hkl, fun j hj => ?_⟩ (by omega)
      by_cases hjk : j < k
      · exact hk2 j hjk
      · have : j = k := by omega
        subst this; omega
  · have g := of_decide_eq_false g
    refine hx _ _ (q0 ?_)
    rcases tfind_spec h4 h6 with ⟨_, e⟩ | ⟨j, j1, j2, j3, _⟩
    · omega
    · have := hk2 j (by omega)
      omega
set_option maxHeartbeats 400000 in
set_option maxRecDepth 100000 in
theorem sPieceR : Sound Tryz.prog 67 SPieceR := by
  refine sound_of (C := CPieceR) [] Tryz.func67 (by kernel_rfl) (by decide +kernel) (by kernel_rfl) rfl trivial (loops1 (by kernel_rfl) (loopOK_of (an := anPieceR) (S := LPieceR) (by kernel_rfl) loopPieceR)) ?_
  intro hargs pars R h
  unfold SPieceR at h
  split at h
  case h_2 => exfalso; exact h
  rename_i pk ln sa d0 d1 d2 u
  obtain ⟨ht, hq⟩ := h
  have hl := ht.2.1
  refine byVC (vcPieceR u ln sa d0 d1 d2 pk R) (fun x1 e1 x2 e2 => ?_)
  have e : clamp ln u = x2 := by unfold clamp; omega
  rw [e] at hq
  refine ⟨⟨rfl, rfl, rfl, ht, by omega, by omega⟩, fun g => ?_, fun _ => hq⟩
  rw [g] at hq
  exact hq
end Go.Proofs.YtneingpnkdeooaaGreat

namespace Go.Proofs.YtneingpnkdeooaaGreat
open Go Go.HL U
theorem okSegs_D {s0 s1 s2 : Int} {sg : List (List Int)} (h : okSegs s0 s1 s2 sg) {j : Nat} (hj : j < sg.length) :
    (-(ec sg j 3) ≤ ec sg j 0 - bgn s0 sg 0 j ∧ ec sg j 0 - bgn s0 sg 0 j ≤ ec sg j 3) ∧ (-(ec sg j 3) ≤ ec sg j 1 - bgn s1 sg 1 j ∧ ec sg j 1 - bgn s1 sg 1 j ≤ ec sg j 3) ∧ (-(ec sg j 3) ≤ ec sg j 2 - bgn s2 sg 2 j ∧ ec sg j 2 - bgn s2 sg 2 j ≤ ec sg j 3) := (h j hj).2.2
end Go.Proofs.YtneingpnkdeooaaGreat
namespace Go.Proofs.YtneingpnkdeooaaGreat
open Go Go.HL U
def tabP3 : List (FuncId × HL.Spec) := [(76, SCorrect), (75, SSteps)]
noncomputable def CMotor2 : Ctx := ⟨Tryz.prog, gam tabP3, 12, [], []⟩
noncomputable def CCorrect2 : Ctx := ⟨Tryz.prog, gam tabP1, 75, [], []⟩
noncomputable def CSteps2 : Ctx := ⟨Tryz.prog, gam tabP1, 14, [], []⟩
theorem vcCorrect2 (st sp ac je lo hi bl og sg p : Int) (pit : List (List Int)) (Q : Res → Prop) : (nfun true CCorrect2 Tryz.f76 (bodyOf Tryz.f76) [.agg (axI st sp ac je lo hi bl og sg pit), .ce (.int .i64 p)] [] Q) =
    ((((((List.length pit) : Nat) : Int) == (0 : Int)) = true → Q { val := HV.ce (HC.int IntKind.i64 (0 : Int)), own := false, pars := [], news := [] }) ∧ (((((List.length pit) : Nat) : Int) == (0 : Int)) = false → (decide (p ≤ og) = true → ((0 : Int) ≤ (0 : Int) ∧ (0 : Int) < (((List.length pit) : Nat) : Int)) ∧ ∀ (x1 : Int), x1 = el pit ((0 : Nat)) → Q { val := HV.ce (HC.int IntKind.i64 x1), own := false, pars := [], news := [] }) ∧ (decide (p ≤ og) = false → ((-9223372036854775808 : Int) ≤ p - og ∧ p - og ≤ (9223372036854775807 : Int)) ∧ ∀ (x2 : Int), x2 = p - og → sg ≠ (0 : Int) ∧ ((-9223372036854775808 : Int) ≤ Int.tdiv x2 sg ∧ Int.tdiv x2 sg ≤ (9223372036854775807 : Int)) ∧ ∀ (x3 : Int), x3 = Int.tdiv x2 sg → ((-9223372036854775808 : Int) ≤ (((List.length pit) : Nat) : Int) - (1 : Int) ∧ (((List.length pit) : Nat) : Int) - (1 : Int) ≤ (9223372036854775807 : Int)) ∧ ∀ (x4 : Int), x4 = (((List.length pit) : Nat) : Int) - (1 : Int) →
    (decide (x3 ≥ x4) = true → ((-9223372036854775808 : Int) ≤ (((List.length pit) : Nat) : Int) - (1 : Int) ∧ (((List.length pit) : Nat) : Int) - (1 : Int) ≤ (9223372036854775807 : Int)) ∧ ∀ (x5 : Int), x5 = (((List.length pit) : Nat) : Int) - (1 : Int) → ((0 : Int) ≤ x5 ∧ x5 < (((List.length pit) : Nat) : Int)) ∧ ∀ (x6 : Int), x6 = el pit (Int.toNat x5) → Q { val := HV.ce (HC.int IntKind.i64 x6), own := false, pars := [], news := [] }) ∧ (decide (x3 ≥ x4) = false → ((-9223372036854775808 : Int) ≤ p - og ∧ p - og ≤ (9223372036854775807 : Int)) ∧ ∀ (x7 : Int), x7 = p - og → ((-9223372036854775808 : Int) ≤ x3 * sg ∧ x3 * sg ≤ (9223372036854775807 : Int)) ∧ ∀ (x8 : Int), x8 = x3 * sg → ((-9223372036854775808 : Int) ≤ x7 - x8 ∧ x7 - x8 ≤ (9223372036854775807 : Int)) ∧ ∀ (x9 : Int), x9 = x7 - x8 → ((0 : Int) ≤ x3 ∧ x3 < (((List.length pit) : Nat) : Int)) ∧ ∀ (x10 : Int), x10 = el pit (Int.toNat x3) →
    ((-9223372036854775808 : Int) ≤ x3 + (1 : Int) ∧ x3 + (1 : Int) ≤ (9223372036854775807 : Int)) ∧ ∀ (x11 : Int), x11 = x3 + (1 : Int) → ((0 : Int) ≤ x11 ∧ x11 < (((List.length pit) : Nat) : Int)) ∧ ∀ (x12 : Int), x12 = el pit (Int.toNat x11) → ((0 : Int) ≤ x3 ∧ x3 < (((List.length pit) : Nat) : Int)) ∧ ∀ (x13 : Int), x13 = el pit (Int.toNat x3) → ((-9223372036854775808 : Int) ≤ x12 - x13 ∧ x12 - x13 ≤ (9223372036854775807 : Int)) ∧ ∀ (x14 : Int), x14 = x12 - x13 → ((-9223372036854775808 : Int) ≤ (2 : Int) * x14 ∧ (2 : Int) * x14 ≤ (9223372036854775807 : Int)) ∧ ∀ (x15 : Int), x15 = (2 : Int) * x14 → ((-9223372036854775808 : Int) ≤ x15 * x9 ∧ x15 * x9 ≤ (9223372036854775807 : Int)) ∧ ∀ (x16 : Int), x16 = x15 * x9 → ((-9223372036854775808 : Int) ≤ x16 + sg ∧ x16 + sg ≤ (9223372036854775807 : Int)) ∧ ∀ (x17 : Int), x17 = x16 + sg → ((-9223372036854775808 : Int) ≤ (2 : Int) * sg ∧ (2 : Int) * sg ≤ (9223372036854775807 : Int)) ∧
    ∀ (x18 : Int), x18 = (2 : Int) * sg → (((-9223372036854775807 : Int) ≤ x17 ∧ x17 ≤ (9223372036854775807 : Int)) ∧ (0 : Int) < x18) ∧ ∀ (x19 : Int), x19 = x17 / x18 → ((-9223372036854775808 : Int) ≤ x10 + x19 ∧ x10 + x19 ≤ (9223372036854775807 : Int)) ∧ ∀ (x20 : Int), x20 = x10 + x19 → Q { val := HV.ce (HC.int IntKind.i64 x20), own := false, pars := [], news := [] })))) := by kernel_rfl
theorem vcSteps2 (st sp ac je lo hi bl og sg p : Int) (pit : List (List Int)) (Q : Res → Prop) : (nfun true CSteps2 Tryz.f75 (bodyOf Tryz.f75) [.agg (axI st sp ac je lo hi bl og sg pit), .ce (.int .i64 p)] [] Q) =
    (((-9223372036854775808 : Int) ≤ (2 : Int) * p ∧ (2 : Int) * p ≤ (9223372036854775807 : Int)) ∧ ∀ (x1 : Int), x1 = (2 : Int) * p → ((-9223372036854775808 : Int) ≤ x1 + st ∧ x1 + st ≤ (9223372036854775807 : Int)) ∧ ∀ (x2 : Int), x2 = x1 + st → ((-9223372036854775808 : Int) ≤ (2 : Int) * st ∧ (2 : Int) * st ≤ (9223372036854775807 : Int)) ∧ ∀ (x3 : Int), x3 = (2 : Int) * st → (((-9223372036854775807 : Int) ≤ x2 ∧ x2 ≤ (9223372036854775807 : Int)) ∧ (0 : Int) < x3) ∧ ∀ (x4 : Int), x4 = x2 / x3 → Q { val := HV.ce (HC.int IntKind.i64 x4), own := false, pars := [], news := [] }) := by kernel_rfl
theorem vcMotor2 (st sp ac je lo hi bl og sg p : Int) (pit : List (List Int)) (Q : Res → Prop) : (nfun true CMotor2 Tryz.f47 (bodyOf Tryz.f47) [.agg (axI st sp ac je lo hi bl og sg pit), .ce (.int .i64 p)] [] Q) =
    ((okC og sg pit ∧ (-1073741824 : Int) ≤ p ∧ p ≤ (1073741824 : Int)) ∧ ∀ (x1 : Int), x1 = corr og sg pit p → ((-9223372036854775808 : Int) ≤ p + x1 ∧ p + x1 ≤ (9223372036854775807 : Int)) ∧ ∀ (x2 : Int), x2 = p + x1 → (((0 : Int) < st ∧ st ≤ (16777216 : Int)) ∧ (-1099511627776 : Int) ≤ x2 ∧ x2 ≤ (1099511627776 : Int)) ∧ ∀ (x3 : Int), x3 = stp st x2 → Q { val := HV.ce (HC.int IntKind.i64 x3), own := false, pars := [], news := [] }) := by kernel_rfl
set_option maxHeartbeats 400000 in
set_option maxRecDepth 100000 in
theorem sCorrect2 : Sound Tryz.prog 76 SCorrect := by
  refine sound_of (C := CCorrect2) tabP1 Tryz.func76 (by kernel_rfl) (by decide +kernel) (by kernel_rfl) rfl ⟨sMulDiv, sFloor, trivial⟩ (loops0 (by kernel_rfl)) ?_
  intro hargs pars R h
  unfold SCorrect at h
  split at h
  case h_2 => exfalso; exact h
  rename_i st x1 x2 x3 x4 x5 x6 og sg pit p
  obtain ⟨⟨hc, hp1, hp2⟩, hq⟩ := h
  obtain ⟨h1, h2, h3, h4, h5⟩ := hc
  refine byVC (vcCorrect2 st x1 x2 x3 x4 x5 x6 og sg p pit R) ⟨fun k => ?_, fun k => ?_⟩
  · have k : (pit.length : Int) = 0 := by simpa using k
    rw [corr_empty p (by omega)] at hq; exact hq
  have k : ¬ (pit.length : Int) = 0 := by simpa using k
  have hs := h1 (by omega)
  refine ⟨fun k2 => ?_, fun k2 => ?_⟩
  · have k2 := of_decide_eq_true k2
    refine ⟨by omega, fun y3 e3 => ?_⟩
    rw [corr_lo (by omega) hs (by omega)] at hq
    rw [e3]; exact hq
  have k2 := of_decide_eq_false k2
  refine ⟨by omega, fun y2 e2 => ?_⟩
  have ed := ediv_bd (a := y2) hs
  have ed1 := ed.1 (by omega)
  have et : y2.tdiv sg = y2 / sg := Int.tdiv_eq_ediv_of_nonneg (by omega)
  rw [e2] at et ed1
  rw [← e2] at et
  refine ⟨by omega, by rw [et]; omega, fun y5 e5 => ⟨by omega, fun y1 e1 => ⟨fun k4 => ?_, fun k4 => ?_⟩⟩⟩
  · have k4 := of_decide_eq_true k4
    refine ⟨by omega, fun y1' e1' => ⟨by omega, fun y6 e6 => ?_⟩⟩
    rw [corr_hi (by omega) hs (by omega) (by rw [← e2]; omega)] at hq
    rw [e6, show y1'.toNat = pit.length - 1 by omega]; exact hq
  have k4 := of_decide_eq_false k4
  have hd : y5 = (p - og) / sg := by rw [← e2]; omega
  have hmod := Int.mul_ediv_add_emod (p - og) sg
  have r0 := Int.emod_nonneg (p - og) (show sg ≠ 0 by omega)
  have r1 := Int.emod_lt_of_pos (p - og) hs
  rw [corr_mid (by omega) hs (by omega) (by omega)] at hq
  have bd := corr_bd ⟨h1, h2, h3, h4, h5⟩ p
  rw [corr_mid (by omega) hs (by omega) (by omega)] at bd
  rw [← hd] at hq bd hmod
  generalize (p - og) % sg = r at *
  have em : y5 * sg = p - og - r := by rw [Int.mul_comm]; omega
  have a := h5 y5.toNat (by omega)
  have b := h5 (y5.toNat + 1) (by omega)
  refine ⟨by omega, fun y7 e7 => ⟨by omega, fun y8 e8 => ⟨by omega, fun y9 e9 => ?_⟩⟩⟩
  have er : y9 = r := by omega
  refine ⟨by omega, fun y10 e10 => ⟨by omega, fun y11 e11 => ⟨by omega, fun y12 e12 => ⟨by omega, fun y13 e13 => ?_⟩⟩⟩⟩
  rw [show y11.toNat = y5.toNat + 1 by omega] at e12
  rw [← e10] at a hq bd e13
  rw [← e12] at b hq bd
  refine ⟨by omega, fun y14 e14 => ⟨by omega, fun y15 e15 => ?_⟩⟩
  rw [← er] at hq bd r0 r1
  rw [show y12 - y10 = y14 by omega] at hq bd
  have pb := mul_bd2 (a := y14) (b := y9) (A := 8192) (B := 16777216) (by omega) (by omega)
  have e2' : y15 * y9 = 2 * (y14 * y9) := by rw [e15, Int.mul_assoc]
  refine ⟨by omega, fun y16 e16 => ⟨by omega, fun y17 e17 => ⟨by omega, fun y18 e18 => ⟨by omega, fun y19 e19 => ?_⟩⟩⟩⟩
  rw [← e2', ← e16, ← e17, ← e18, ← e19] at hq bd
  refine ⟨by omega, fun y20 e20 => ?_⟩
  rw [e20]; exact hq
set_option maxHeartbeats 400000 in
set_option maxRecDepth 100000 in
theorem sSteps2 : Sound Tryz.prog 75 SSteps := by
  refine sound_of (C := CSteps2) tabP1 Tryz.func75 (by kernel_rfl) (by decide +kernel) (by kernel_rfl) rfl ⟨sMulDiv, sFloor, trivial⟩ (loops0 (by kernel_rfl)) ?_
  intro hargs pars R h
  unfold SSteps at h
  split at h
  case h_2 => exfalso; exact h
  rename_i st x1 x2 x3 x4 x5 x6 og sg pit p
  obtain ⟨⟨h1, h2⟩, hq⟩ := h
  refine byVC (vcSteps2 st x1 x2 x3 x4 x5 x6 og sg p pit R) ⟨by omega, fun y1 e1 => ⟨by omega, fun y2 e2 => ⟨by omega, fun y3 e3 => ⟨by omega, fun y4 e4 => ?_⟩⟩⟩⟩
  rw [e4, e3, e2, e1]; exact hq
set_option maxHeartbeats 400000 in
set_option maxRecDepth 100000 in
theorem sMotor2 : Sound Tryz.prog 47 SMotor := by
  refine sound_of (C := CMotor2) tabP3 Tryz.func47 (by kernel_rfl) (by decide +kernel) (by kernel_rfl) rfl ⟨sCorrect2, sSteps2, trivial⟩ (loops0 (by kernel_rfl)) ?_
  intro hargs pars R h
  unfold SMotor at h
  split at h
  case h_2 => exfalso; exact h
  rename_i st x1 x2 x3 x4 x5 x6 og sg pit p
  obtain ⟨⟨h1, h2, h3⟩, hq⟩ := h
  have bd := corr_bd h2 p
  refine byVC (vcMotor2 st x1 x2 x3 x4 x5 x6 og sg p pit R) ⟨⟨h2, h3⟩, fun y1 e1 => ?_⟩
  rw [← e1] at bd
  refine ⟨by omega, fun y2 e2 => ⟨⟨h1, by omega⟩, fun y3 e3 => ?_⟩⟩
  rw [e3, e2, e1, stp_eq]; exact hq
end Go.Proofs.YtneingpnkdeooaaGreat
namespace U
open Go
def nomi (st og sg : Int) (pt : List (List Int)) (s : Int) (sgs : List (List Int)) (c : Nat) (p : Int) : Int := mot st og sg pt (ptAt s sgs c p)
end U
namespace Go.Proofs.YtneingpnkdeooaaGreat
open Go Go.HL U
def anPFR : LAnn := ⟨[1, 2, 4, 5, 16, 17, 18], [2, 4, 5], [1000002], false⟩
def LPFR (v : LV) : LR :=
  match v with
  | ([.ce (.int .i64 p), .ce (.ptr 1000002 0), .ce (.int .i64 z), .ce (.int .i64 y), .ce (.sl false [4, 4, 4, 4, 4, 4, 4] l), .ce (.int .i64 n), .ce (.int .i64 i)], [[.int .i64 s0, .int .i64 s1, .int .i64 s2, .sl false [4, 4, 4, 4, 4, 4, 4] sg, .sl false [4, 4, 4] mk]]) =>
    .alts (n = l.length ∧ i = 0 ∧ (0 ≤ p ∧ p ≤ 4611686018427387904) ∧ okLen l)
      [((lfA l 0 p).1 < 0, .exit 0, ([.ce (.ptr 1000002 0), .ce (.int .i64 z), .ce (.int .i64 y)], [[.int .i64 s0, .int .i64 s1, .int .i64 s2, .sl false [4, 4, 4, 4, 4, 4, 4] sg, .sl false [4, 4, 4] mk]])),
       (0 ≤ (lfA l 0 p).1, .ret, ([.ce (.ptr 1000002 0), .ce (.int .i64 (lfA l 0 p).1), .ce (.int .i64 (lfA l 0 p).2)], [[.int .i64 s0, .int .i64 s1, .int .i64 s2, .sl false [4, 4, 4, 4, 4, 4, 4] sg, .sl false [4, 4, 4] mk]]))]
  | _ => .fail
noncomputable def CPFindR : Ctx := ⟨Tryz.prog, gam [], Tryz.f72.ntmps, [(5, anPFR, LPFR)], []⟩
theorem vbPFindR (s0 s1 s2 p z y n i : Int) (sg mk l : List (List Int)) (K : HEx → LV → Prop) : (nbodyT true CPFindR anPFR (nthLoop Tryz.f72 0) (([.ce (.int .i64 p), .ce (.ptr 1000002 0), .ce (.int .i64 z), .ce (.int .i64 y), .ce (.sl false [4, 4, 4, 4, 4, 4, 4] l), .ce (.int .i64 n), .ce (.int .i64 i)], [[.int .i64 s0, .int .i64 s1, .int .i64 s2, .sl false [4, 4, 4, 4, 4, 4, 4] sg, .sl false [4, 4, 4] mk]])) K) =
    ((decide (i < n) = true → (0 ≤ i ∧ i < (List.length l : Int)) ∧ (decide (p < ec l i.toNat 3) = true → K .ret ([.ce (.ptr 1000002 0), .ce (.int .i64 i), .ce (.int .i64 p)], [[.int .i64 s0, .int .i64 s1, .int .i64 s2, .sl false [4, 4, 4, 4, 4, 4, 4] sg, .sl false [4, 4, 4] mk]])) ∧ (decide (p < ec l i.toNat 3) = false → (-9223372036854775808 ≤ p - ec l i.toNat 3 ∧ p - ec l i.toNat 3 ≤ 9223372036854775807) ∧ ∀ (x1 : Int), x1 = p - ec l i.toNat 3 → (-9223372036854775808 ≤ i + 1 ∧ i + 1 ≤ 9223372036854775807) ∧ ∀ (x2 : Int), x2 = i + 1 → K .normal ([.ce (.int .i64 x1), .ce (.ptr 1000002 0), .ce (.int .i64 z), .ce (.int .i64 y), .ce (.sl false [4, 4, 4, 4, 4, 4, 4] l), .ce (.int .i64 n), .ce (.int .i64 x2)], [[.int .i64 s0, .int .i64 s1, .int .i64 s2, .sl false [4, 4, 4, 4, 4, 4, 4] sg, .sl false [4, 4, 4] mk]]))) ∧ (decide (i < n) = false → K (.exit 0) ([.ce (.ptr 1000002 0), .ce (.int .i64 z), .ce (.int .i64 y)], [[.int .i64 s0, .int .i64 s1, .int .i64 s2, .sl false [4, 4, 4, 4, 4, 4, 4] sg, .sl false [4, 4, 4] mk]]))) := by kernel_rfl
theorem vcPFindR (s0 s1 s2 p : Int) (sg mk : List (List Int)) (Q : Res → Prop) : (nfun true CPFindR Tryz.f72 (bodyOf Tryz.f72) [.agg [.int .i64 s0, .int .i64 s1, .int .i64 s2, .sl false [4, 4, 4, 4, 4, 4, 4] sg, .sl false [4, 4, 4] mk], .ce (.int .i64 p)] [] Q) =
    ((((List.length sg : Int) == (0 : Int)) = true → Q ⟨.tup [.ce (.int .i64 (-1)), .ce (.int .i64 0)], false, [], []⟩) ∧ (((List.length sg : Int) == (0 : Int)) = false → ∀ (x1 : Int), x1 = max p (0 : Int) → ((List.length sg : Int) = (List.length sg : Int) ∧ (0 : Int) = (0 : Int) ∧ (0 ≤ x1 ∧ x1 ≤ 4611686018427387904) ∧ okLen sg) ∧ ((lfA sg (0 : Int) x1).1 < (0 : Int) → (-9223372036854775808 ≤ (List.length sg : Int) - (1 : Int) ∧ (List.length sg : Int) - (1 : Int) ≤ 9223372036854775807) ∧ ∀ (x2 : Int), x2 = (List.length sg : Int) - (1 : Int) → (0 ≤ x2 ∧ x2 < (List.length sg : Int)) ∧ ∀ (x3 : Int), x3 = ec sg x2.toNat 3 → Q ⟨.tup [.ce (.int .i64 x2), .ce (.int .i64 x3)], false, [], []⟩) ∧ ((0 : Int) ≤ (lfA sg (0 : Int) x1).1 → Q ⟨.tup [.ce (.int .i64 (lfA sg (0 : Int) x1).1), .ce (.int .i64 (lfA sg (0 : Int) x1).2)], false, [], []⟩))) := by kernel_rfl
def SAtR (hargs : List HV) (pars : List (List HC)) : SR :=
  match hargs, pars with
  | [.agg [.int .i64 s0, .int .i64 s1, .int .i64 s2, .sl false [4, 4, 4, 4, 4, 4, 4] sg, .sl false [4, 4, 4] mk], .ce (.int .i64 p)], [] => .det (okPath s0 s1 s2 sg mk ∧ p ≤ 4611686018427387904) ⟨.agg [.int .i64 (ptAt s0 sg 0 p), .int .i64 (ptAt s1 sg 1 p), .int .i64 (ptAt s2 sg 2 p)], false, [], []⟩
  | _, _ => .fail
def tabAtR : List (FuncId × HL.Spec) := [(72, SPFind), (73, SBegin), (74, SRnd)]
noncomputable def CAtR : Ctx := ⟨Tryz.prog, gam tabAtR, Tryz.f46.ntmps, [(4000006, unrT [1000002, 1000004, 1000007, 1000008], fun _ => .fail)], []⟩
theorem vcAtR (s0 s1 s2 p : Int) (sg mk : List (List Int)) (Q : Res → Prop) : (nfun true CAtR Tryz.f46 (bodyOf Tryz.f46) [.agg [.int .i64 s0, .int .i64 s1, .int .i64 s2, .sl false [4, 4, 4, 4, 4, 4, 4] sg, .sl false [4, 4, 4] mk], .ce (.int .i64 p)] [] Q) =
    ((okLen sg ∧ p ≤ 4611686018427387904) ∧ (∃ (x : Int × Int), x = pfind sg p) ∧ ∀ (x : Int × Int), x = pfind sg p → (decide (x.1 < 0) = true → Q ⟨.agg [.int .i64 s0, .int .i64 s1, .int .i64 s2], false, [], []⟩) ∧ (decide (x.1 < 0) = false → (0 ≤ x.1 ∧ x.1 < (List.length sg : Int)) ∧ (x.1 ≤ (List.length sg : Int) ∧ List.length sg ≤ (1073741824 : Nat)) ∧ ∀ (x2 : Int), x2 = bgn s0 sg (0 : Nat) x.1 → ∀ (x3 : Int), x3 = bgn s1 sg (1 : Nat) x.1 → ∀ (x4 : Int), x4 = bgn s2 sg (2 : Nat) x.1 → (-9223372036854775808 ≤ el sg x.1.toNat - x2 ∧ el sg x.1.toNat - x2 ≤ 9223372036854775807) ∧ ∀ (x5 : Int), x5 = el sg x.1.toNat - x2 → (-9223372036854775808 ≤ x5 * x.2 ∧ x5 * x.2 ≤ 9223372036854775807) ∧ ∀ (x6 : Int), x6 = x5 * x.2 → ((-2305843009213693952 : Int) ≤ x6 ∧ x6 ≤ 2305843009213693952 ∧ 0 < ec sg x.1.toNat 3 ∧ ec sg x.1.toNat 3 ≤ (2305843009213693952 : Int)) ∧ ∀ (x7 : Int), x7 = rnd x6 (ec sg x.1.toNat 3) →
    (-9223372036854775808 ≤ x2 + x7 ∧ x2 + x7 ≤ 9223372036854775807) ∧ ∀ (x8 : Int), x8 = x2 + x7 → (-9223372036854775808 ≤ ec sg x.1.toNat 1 - x3 ∧ ec sg x.1.toNat 1 - x3 ≤ 9223372036854775807) ∧ ∀ (x9 : Int), x9 = ec sg x.1.toNat 1 - x3 → (-9223372036854775808 ≤ x9 * x.2 ∧ x9 * x.2 ≤ 9223372036854775807) ∧ ∀ (x10 : Int), x10 = x9 * x.2 → ((-2305843009213693952 : Int) ≤ x10 ∧ x10 ≤ 2305843009213693952 ∧ 0 < ec sg x.1.toNat 3 ∧ ec sg x.1.toNat 3 ≤ (2305843009213693952 : Int)) ∧ ∀ (x11 : Int), x11 = rnd x10 (ec sg x.1.toNat 3) → (-9223372036854775808 ≤ x3 + x11 ∧ x3 + x11 ≤ 9223372036854775807) ∧ ∀ (x12 : Int), x12 = x3 + x11 → (-9223372036854775808 ≤ ec sg x.1.toNat 2 - x4 ∧ ec sg x.1.toNat 2 - x4 ≤ 9223372036854775807) ∧ ∀ (x13 : Int), x13 = ec sg x.1.toNat 2 - x4 → (-9223372036854775808 ≤ x13 * x.2 ∧ x13 * x.2 ≤ 9223372036854775807) ∧ ∀ (x14 : Int), x14 = x13 * x.2 → ((-2305843009213693952 : Int) ≤ x14 ∧
    x14 ≤ 2305843009213693952 ∧ 0 < ec sg x.1.toNat 3 ∧ ec sg x.1.toNat 3 ≤ (2305843009213693952 : Int)) ∧ ∀ (x15 : Int), x15 = rnd x14 (ec sg x.1.toNat 3) → (-9223372036854775808 ≤ x4 + x15 ∧ x4 + x15 ≤ 9223372036854775807) ∧ ∀ (x16 : Int), x16 = x4 + x15 → Q ⟨.agg [.int .i64 x8, .int .i64 x12, .int .i64 x16], false, [], []⟩)) := by kernel_rfl
def tabPlaceR : List (FuncId × HL.Spec) := [(67, SPieceR)]
noncomputable def CPlaceR : Ctx := ⟨Tryz.prog, gam tabPlaceR, Tryz.f66.ntmps, [], []⟩
theorem vcPlaceR (u ln sa d0 d1 d2 : Int) (pk : List (List Int)) (Q : Res → Prop) : (nfun true CPlaceR Tryz.f66 (bodyOf Tryz.f66) [.agg [.sl false [4, 4, 4, 4, 4, 4, 4, 4, 4, 4] pk, .int .i64 ln, .int .i64 sa, .int .i64 d0, .int .i64 d1, .int .i64 d2], .ce (.int .i64 u)] [] Q) =
    (okTrk pk ln ∧ ∀ (x1 : Int), x1 = tfind pk (clamp ln u) → ∀ (x2 : Int), x2 = clamp ln u → (decide (x1 < 0) = true → Q ⟨.ce (.int .i64 sa), false, [], []⟩) ∧ (decide (x1 < 0) = false → (0 ≤ x1 ∧ x1 < (List.length pk : Int)) ∧ ∀ (x3 : Int), x3 = ec pk x1.toNat 2 → (0 ≤ x1 ∧ x1 < (List.length pk : Int)) ∧ ∀ (x4 : Int), x4 = ec pk x1.toNat 3 → (0 ≤ x1 ∧ x1 < (List.length pk : Int)) ∧ ∀ (x5 : Int), x5 = el pk x1.toNat → (-9223372036854775808 ≤ x2 - x5 ∧ x2 - x5 ≤ 9223372036854775807) ∧ ∀ (x6 : Int), x6 = x2 - x5 → (-9223372036854775808 ≤ x4 * x6 ∧ x4 * x6 ≤ 9223372036854775807) ∧ ∀ (x7 : Int), x7 = x4 * x6 → (-9223372036854775808 ≤ x3 + x7 ∧ x3 + x7 ≤ 9223372036854775807) ∧ ∀ (x8 : Int), x8 = x3 + x7 → Q ⟨.ce (.int .i64 x8), false, [], []⟩)) := by kernel_rfl
noncomputable def CBshR : Ctx := ⟨Tryz.prog, gam [], Tryz.f68.ntmps, [], []⟩
theorem vcBshR (sta spa aca jea loa hia bla oga sga : Int) (pta : List (List Int)) (d : Int) (Q : Res → Prop) : (nfun true CBshR Tryz.f68 (bodyOf Tryz.f68) [.agg [.int .i64 sta, .int .i64 spa, .int .i64 aca, .int .i64 jea, .int .i64 loa, .int .i64 hia, .int .i64 bla, .int .i64 oga, .int .i64 sga, .sl false [4] pta], .ce (.int .i64 d)] [] Q) =
    (((d == (-1 : Int)) = true → (-9223372036854775808 ≤ (0 : Int) - bla ∧ (0 : Int) - bla ≤ 9223372036854775807) ∧ ∀ (x1 : Int), x1 = 0 - bla → Q ⟨.ce (.int .i64 x1), false, [], []⟩) ∧ ((d == (-1 : Int)) = false → Q ⟨.ce (.int .i64 0), false, [], []⟩)) := by kernel_rfl
def tabTshR : List (FuncId × HL.Spec) := [(68, SBsh)]
noncomputable def CTshR : Ctx := ⟨Tryz.prog, gam tabTshR, Tryz.f69.ntmps, [], [spl 1 2 6 0]⟩
theorem vcTshR (sta spa aca jea loa hia bla oga sga : Int) (pta : List (List Int)) (q0 q1 q2 q3 q4 q5 q6 q7 q8 q9 k u : Int) (Q : Res → Prop) : (nfun true CTshR Tryz.f69 (bodyOf Tryz.f69) [.agg [.int .i64 sta, .int .i64 spa, .int .i64 aca, .int .i64 jea, .int .i64 loa, .int .i64 hia, .int .i64 bla, .int .i64 oga, .int .i64 sga, .sl false [4] pta], .agg [.int .i64 q0, .int .i64 q1, .int .i64 q2, .int .i64 q3, .int .i64 q4, .int .i64 q5, .int .i64 q6, .int .i64 q7, .int .i64 q8, .int .i64 q9], .ce (.int .i64 k), .ce (.int .i64 u)] [] Q) =
    ((k = 0 → ((q3 != 0) = true → (0 ≤ bla ∧ bla ≤ 4096) ∧ ∀ (x1 : Int), x1 = bsh bla q7 → Q ⟨.ce (.int .i64 x1), false, [], []⟩) ∧ ((q3 != 0) = false → ((q4 == q7) = true → (0 ≤ bla ∧ bla ≤ 4096) ∧ ∀ (x2 : Int), x2 = bsh bla q7 → Q ⟨.ce (.int .i64 x2), false, [], []⟩) ∧ ((q4 == q7) = false → (-9223372036854775808 ≤ u - q0 ∧ u - q0 ≤ 9223372036854775807) ∧ ∀ (x3 : Int), x3 = u - q0 → ∀ (x4 : Int), x4 = min x3 bla → ((q7 == (-1 : Int)) = true → (-9223372036854775808 ≤ (0 : Int) - x4 ∧ (0 : Int) - x4 ≤ 9223372036854775807) ∧ ∀ (x5 : Int), x5 = 0 - x4 → Q ⟨.ce (.int .i64 x5), false, [], []⟩) ∧ ((q7 == (-1 : Int)) = false → (-9223372036854775808 ≤ x4 - bla ∧ x4 - bla ≤ 9223372036854775807) ∧ ∀ (x6 : Int), x6 = x4 - bla → Q ⟨.ce (.int .i64 x6), false, [], []⟩)))) ∧ (k ≠ 0 → (k = 1 → ((q3 != 0) = true → (0 ≤ bla ∧ bla ≤ 4096) ∧ ∀ (x7 : Int), x7 = bsh bla q8 → Q ⟨.ce (.int .i64 x7), false, [], []⟩) ∧
    ((q3 != 0) = false → ((q5 == q8) = true → (0 ≤ bla ∧ bla ≤ 4096) ∧ ∀ (x8 : Int), x8 = bsh bla q8 → Q ⟨.ce (.int .i64 x8), false, [], []⟩) ∧ ((q5 == q8) = false → (-9223372036854775808 ≤ u - q0 ∧ u - q0 ≤ 9223372036854775807) ∧ ∀ (x9 : Int), x9 = u - q0 → ∀ (x10 : Int), x10 = min x9 bla → ((q8 == (-1 : Int)) = true → (-9223372036854775808 ≤ (0 : Int) - x10 ∧ (0 : Int) - x10 ≤ 9223372036854775807) ∧ ∀ (x11 : Int), x11 = 0 - x10 → Q ⟨.ce (.int .i64 x11), false, [], []⟩) ∧ ((q8 == (-1 : Int)) = false → (-9223372036854775808 ≤ x10 - bla ∧ x10 - bla ≤ 9223372036854775807) ∧ ∀ (x12 : Int), x12 = x10 - bla → Q ⟨.ce (.int .i64 x12), false, [], []⟩)))) ∧ (k ≠ 1 → (k = 2 → ((q3 != 0) = true → (0 ≤ bla ∧ bla ≤ 4096) ∧ ∀ (x13 : Int), x13 = bsh bla q9 → Q ⟨.ce (.int .i64 x13), false, [], []⟩) ∧ ((q3 != 0) = false → ((q6 == q9) = true → (0 ≤ bla ∧ bla ≤ 4096) ∧ ∀ (x14 : Int), x14 = bsh bla q9 → Q ⟨.ce (.int .i64 x14), false, [], []⟩) ∧
    ((q6 == q9) = false → (-9223372036854775808 ≤ u - q0 ∧ u - q0 ≤ 9223372036854775807) ∧ ∀ (x15 : Int), x15 = u - q0 → ∀ (x16 : Int), x16 = min x15 bla → ((q9 == (-1 : Int)) = true → (-9223372036854775808 ≤ (0 : Int) - x16 ∧ (0 : Int) - x16 ≤ 9223372036854775807) ∧ ∀ (x17 : Int), x17 = 0 - x16 → Q ⟨.ce (.int .i64 x17), false, [], []⟩) ∧ ((q9 == (-1 : Int)) = false → (-9223372036854775808 ≤ x16 - bla ∧ x16 - bla ≤ 9223372036854775807) ∧ ∀ (x18 : Int), x18 = x16 - bla → Q ⟨.ce (.int .i64 x18), false, [], []⟩)))) ∧ (k ≠ 2 → False)))) := by kernel_rfl
def SNom (hargs : List HV) (pars : List (List HC)) : SR :=
  match hargs, pars with
  | [.agg [.int .i64 s0, .int .i64 s1, .int .i64 s2, .sl false [4, 4, 4, 4, 4, 4, 4] sg, .sl false [4, 4, 4] mk], .agg ax, .ce (.int .i64 p)], [] =>
    match ax with
    | [.int .i64 sta, .int .i64 spa, .int .i64 aca, .int .i64 jea, .int .i64 loa, .int .i64 hia, .int .i64 bla, .int .i64 oga, .int .i64 sga, .sl false [4] pta, .int .i64 stb, .int .i64 spb, .int .i64 acb, .int .i64 jeb, .int .i64 lob, .int .i64 hib, .int .i64 blb, .int .i64 ogb, .int .i64 sgb, .sl false [4] ptb, .int .i64 stc, .int .i64 spc, .int .i64 acc, .int .i64 jec, .int .i64 loc, .int .i64 hic, .int .i64 blc, .int .i64 ogc, .int .i64 sgc, .sl false [4] ptc] => .det (okPath s0 s1 s2 sg mk ∧ okMA sta oga sga pta bla ∧ okMA stb ogb sgb ptb blb ∧ okMA stc ogc sgc ptc blc ∧ p ≤ 4611686018427387904)
        ⟨.agg [.int .i64 (nomi sta oga sga pta s0 sg 0 p), .int .i64 (nomi stb ogb sgb ptb s1 sg 1 p), .int .i64 (nomi stc ogc sgc ptc s2 sg 2 p)], false, [], []⟩
    | _ => .fail
  | _, _ => .fail
def tabNom : List (FuncId × HL.Spec) := [(46, SAtR), (47, SMotor)]
noncomputable def CNom : Ctx := ⟨Tryz.prog, gam tabNom, Tryz.f20.ntmps, [(4000004, unrT [1000003, 1000004, 1000006, 1000007, 1000008], fun _ => .fail)], []⟩
theorem vcNom (s0 s1 s2 p : Int) (sg mk : List (List Int)) (sta spa aca jea loa hia bla oga sga stb spb acb jeb lob hib blb ogb sgb stc spc acc jec loc hic blc ogc sgc : Int) (pta ptb ptc : List (List Int)) (Q : Res → Prop) : (nfun true CNom Tryz.f20 (bodyOf Tryz.f20) [.agg [.int .i64 s0, .int .i64 s1, .int .i64 s2, .sl false [4, 4, 4, 4, 4, 4, 4] sg, .sl false [4, 4, 4] mk], .agg [.int .i64 sta, .int .i64 spa, .int .i64 aca, .int .i64 jea, .int .i64 loa, .int .i64 hia, .int .i64 bla, .int .i64 oga, .int .i64 sga, .sl false [4] pta, .int .i64 stb, .int .i64 spb, .int .i64 acb, .int .i64 jeb, .int .i64 lob, .int .i64 hib, .int .i64 blb, .int .i64 ogb, .int .i64 sgb, .sl false [4] ptb, .int .i64 stc, .int .i64 spc, .int .i64 acc, .int .i64 jec, .int .i64 loc, .int .i64 hic, .int .i64 blc, .int .i64 ogc, .int .i64 sgc, .sl false [4] ptc], .ce (.int .i64 p)] [] Q) =
    ((okPath s0 s1 s2 sg mk ∧ p ≤ 4611686018427387904) ∧ ∀ (x1 : Int), x1 = ptAt s0 sg (0 : Nat) p → ∀ (x2 : Int), x2 = ptAt s1 sg (1 : Nat) p → ∀ (x3 : Int), x3 = ptAt s2 sg (2 : Nat) p → ((0 < sta ∧ sta ≤ 16777216) ∧ okC oga sga pta ∧ (-1073741824 : Int) ≤ x1 ∧ x1 ≤ 1073741824) ∧ ∀ (x4 : Int), x4 = mot sta oga sga pta x1 → ((0 < stb ∧ stb ≤ 16777216) ∧ okC ogb sgb ptb ∧ (-1073741824 : Int) ≤ x2 ∧ x2 ≤ 1073741824) ∧ ∀ (x5 : Int), x5 = mot stb ogb sgb ptb x2 → ((0 < stc ∧ stc ≤ 16777216) ∧ okC ogc sgc ptc ∧ (-1073741824 : Int) ≤ x3 ∧ x3 ≤ 1073741824) ∧ ∀ (x6 : Int), x6 = mot stc ogc sgc ptc x3 → Q ⟨.agg [.int .i64 x4, .int .i64 x5, .int .i64 x6], false, [], []⟩) := by kernel_rfl
def SMotorsR (hargs : List HV) (pars : List (List HC)) : SR :=
  match hargs, pars with
  | [.agg [.int .i64 s0, .int .i64 s1, .int .i64 s2, .sl false [4, 4, 4, 4, 4, 4, 4] sg, .sl false [4, 4, 4] mk], .agg ax, .agg [.sl false [4, 4, 4, 4, 4, 4, 4, 4, 4, 4] pk, .int .i64 ln, .int .i64 sa, .int .i64 d0, .int .i64 d1, .int .i64 d2], .ce (.int .i64 u)], [] =>
    match ax with
    | [.int .i64 sta, .int .i64 spa, .int .i64 aca, .int .i64 jea, .int .i64 loa, .int .i64 hia, .int .i64 bla, .int .i64 oga, .int .i64 sga, .sl false [4] pta, .int .i64 stb, .int .i64 spb, .int .i64 acb, .int .i64 jeb, .int .i64 lob, .int .i64 hib, .int .i64 blb, .int .i64 ogb, .int .i64 sgb, .sl false [4] ptb, .int .i64 stc, .int .i64 spc, .int .i64 acc, .int .i64 jec, .int .i64 loc, .int .i64 hic, .int .i64 blc, .int .i64 ogc, .int .i64 sgc, .sl false [4] ptc] =>
      .det (okPath s0 s1 s2 sg mk ∧ okTrk pk ln ∧ okMA sta oga sga pta bla ∧ okMA stb ogb sgb ptb blb ∧ okMA stc ogc sgc ptc blc ∧ (0 ≤ sa ∧ sa ≤ 18014398509481984))
        ⟨.agg [.int .i64 (mtr sta oga sga pta bla s0 sg 0 pk sa d0 (clamp ln u)), .int .i64 (mtr stb ogb sgb ptb blb s1 sg 1 pk sa d1 (clamp ln u)), .int .i64 (mtr stc ogc sgc ptc blc s2 sg 2 pk sa d2 (clamp ln u))], false, [], []⟩
    | _ => .fail
  | _, _ => .fail
def tabMotorsR : List (FuncId × HL.Spec) := [(66, SPlace), (20, SNom), (67, SPieceR), (68, SBsh), (69, STsh)]
noncomputable def CMotorsR : Ctx := ⟨Tryz.prog, gam tabMotorsR, Tryz.f39.ntmps, [(4000004, unrT [1000004, 1000005, 1000006, 1000008, 1000009], fun _ => .fail)], []⟩
theorem vcMotorsR (s0 s1 s2 u ln sa d0 d1 d2 : Int) (sg mk pk : List (List Int)) (sta spa aca jea loa hia bla oga sga stb spb acb jeb lob hib blb ogb sgb stc spc acc jec loc hic blc ogc sgc : Int) (pta ptb ptc : List (List Int)) (Q : Res → Prop) : (nfun true CMotorsR Tryz.f39 (bodyOf Tryz.f39) [.agg [.int .i64 s0, .int .i64 s1, .int .i64 s2, .sl false [4, 4, 4, 4, 4, 4, 4] sg, .sl false [4, 4, 4] mk], .agg [.int .i64 sta, .int .i64 spa, .int .i64 aca, .int .i64 jea, .int .i64 loa, .int .i64 hia, .int .i64 bla, .int .i64 oga, .int .i64 sga, .sl false [4] pta, .int .i64 stb, .int .i64 spb, .int .i64 acb, .int .i64 jeb, .int .i64 lob, .int .i64 hib, .int .i64 blb, .int .i64 ogb, .int .i64 sgb, .sl false [4] ptb, .int .i64 stc, .int .i64 spc, .int .i64 acc, .int .i64 jec, .int .i64 loc, .int .i64 hic, .int .i64 blc, .int .i64 ogc, .int .i64 sgc, .sl false [4] ptc], .agg [.sl false [4, 4, 4, 4, 4, 4, 4, 4, 4, 4] pk, .int .i64 ln, .int .i64 sa, .int .i64 d0, .int .i64 d1, .int .i64 d2], .ce (.int .i64 u)] [] Q) =
    (okTrk pk ln ∧ ∀ (x1 : Int), x1 = tplace pk sa (clamp ln u) → (okPath s0 s1 s2 sg mk ∧ okMA sta oga sga pta bla ∧ okMA stb ogb sgb ptb blb ∧ okMA stc ogc sgc ptc blc ∧ x1 ≤ 4611686018427387904) ∧ ∀ (x2 : Int), x2 = nomi sta oga sga pta s0 sg (0 : Nat) x1 → ∀ (x3 : Int), x3 = nomi stb ogb sgb ptb s1 sg (1 : Nat) x1 → ∀ (x4 : Int), x4 = nomi stc ogc sgc ptc s2 sg (2 : Nat) x1 → okTrk pk ln ∧ ∀ (x5 : Int), x5 = tfind pk (clamp ln u) → ∀ (x6 : Int), x6 = clamp ln u → (decide (x5 < 0) = true → (0 ≤ bla ∧ bla ≤ 4096) ∧ ∀ (x7 : Int), x7 = bsh bla d0 → (-9223372036854775808 ≤ x2 + x7 ∧ x2 + x7 ≤ 9223372036854775807) ∧ ∀ (x8 : Int), x8 = x2 + x7 → (decide (x5 < 0) = true → (0 ≤ blb ∧ blb ≤ 4096) ∧ ∀ (x9 : Int), x9 = bsh blb d1 → (-9223372036854775808 ≤ x3 + x9 ∧ x3 + x9 ≤ 9223372036854775807) ∧ ∀ (x10 : Int), x10 = x3 + x9 → (decide (x5 < 0) = true → (0 ≤ blc ∧ blc ≤ 4096) ∧ ∀ (x11 : Int), x11 = bsh blc d2 →
    (-9223372036854775808 ≤ x4 + x11 ∧ x4 + x11 ≤ 9223372036854775807) ∧ ∀ (x12 : Int), x12 = x4 + x11 → Q ⟨.agg [.int .i64 x8, .int .i64 x10, .int .i64 x12], false, [], []⟩) ∧ (decide (x5 < 0) = false → (0 ≤ x5 ∧ x5 < (List.length pk : Int)) ∧ (((0 : Int) ≤ (2 : Int) ∧ (2 : Int) ≤ (2 : Int)) ∧ (0 ≤ blc ∧ blc ≤ 4096) ∧ ((-18014398509481984 : Int) ≤ x6 ∧ x6 ≤ 18014398509481984) ∧ (-18014398509481984 : Int) ≤ el pk x5.toNat ∧ el pk x5.toNat ≤ 18014398509481984) ∧ ∀ (x13 : Int), x13 = tsh blc (ec pk x5.toNat 3) (sel3 (2 : Int) (ec pk x5.toNat 4) (ec pk x5.toNat 5) (ec pk x5.toNat 6)) (sel3 (2 : Int) (ec pk x5.toNat 7) (ec pk x5.toNat 8) (ec pk x5.toNat 9)) (el pk x5.toNat) x6 → (-9223372036854775808 ≤ x4 + x13 ∧ x4 + x13 ≤ 9223372036854775807) ∧ ∀ (x14 : Int), x14 = x4 + x13 → Q ⟨.agg [.int .i64 x8, .int .i64 x10, .int .i64 x14], false, [], []⟩)) ∧ (decide (x5 < 0) = false → (0 ≤ x5 ∧ x5 < (List.length pk : Int)) ∧
    (((0 : Int) ≤ (1 : Int) ∧ (1 : Int) ≤ (2 : Int)) ∧ (0 ≤ blb ∧ blb ≤ 4096) ∧ ((-18014398509481984 : Int) ≤ x6 ∧ x6 ≤ 18014398509481984) ∧ (-18014398509481984 : Int) ≤ el pk x5.toNat ∧ el pk x5.toNat ≤ 18014398509481984) ∧ ∀ (x15 : Int), x15 = tsh blb (ec pk x5.toNat 3) (sel3 (1 : Int) (ec pk x5.toNat 4) (ec pk x5.toNat 5) (ec pk x5.toNat 6)) (sel3 (1 : Int) (ec pk x5.toNat 7) (ec pk x5.toNat 8) (ec pk x5.toNat 9)) (el pk x5.toNat) x6 → (-9223372036854775808 ≤ x3 + x15 ∧ x3 + x15 ≤ 9223372036854775807) ∧ ∀ (x16 : Int), x16 = x3 + x15 → (decide (x5 < 0) = true → (0 ≤ blc ∧ blc ≤ 4096) ∧ ∀ (x17 : Int), x17 = bsh blc d2 → (-9223372036854775808 ≤ x4 + x17 ∧ x4 + x17 ≤ 9223372036854775807) ∧ ∀ (x18 : Int), x18 = x4 + x17 → Q ⟨.agg [.int .i64 x8, .int .i64 x16, .int .i64 x18], false, [], []⟩) ∧ (decide (x5 < 0) = false → (0 ≤ x5 ∧ x5 < (List.length pk : Int)) ∧ (((0 : Int) ≤ (2 : Int) ∧ (2 : Int) ≤ (2 : Int)) ∧
    (0 ≤ blc ∧ blc ≤ 4096) ∧ ((-18014398509481984 : Int) ≤ x6 ∧ x6 ≤ 18014398509481984) ∧ (-18014398509481984 : Int) ≤ el pk x5.toNat ∧ el pk x5.toNat ≤ 18014398509481984) ∧ ∀ (x19 : Int), x19 = tsh blc (ec pk x5.toNat 3) (sel3 (2 : Int) (ec pk x5.toNat 4) (ec pk x5.toNat 5) (ec pk x5.toNat 6)) (sel3 (2 : Int) (ec pk x5.toNat 7) (ec pk x5.toNat 8) (ec pk x5.toNat 9)) (el pk x5.toNat) x6 → (-9223372036854775808 ≤ x4 + x19 ∧ x4 + x19 ≤ 9223372036854775807) ∧ ∀ (x20 : Int), x20 = x4 + x19 → Q ⟨.agg [.int .i64 x8, .int .i64 x16, .int .i64 x20], false, [], []⟩))) ∧ (decide (x5 < 0) = false → (0 ≤ x5 ∧ x5 < (List.length pk : Int)) ∧ (((0 : Int) ≤ (0 : Int) ∧ (0 : Int) ≤ (2 : Int)) ∧ (0 ≤ bla ∧ bla ≤ 4096) ∧ ((-18014398509481984 : Int) ≤ x6 ∧ x6 ≤ 18014398509481984) ∧ (-18014398509481984 : Int) ≤ el pk x5.toNat ∧ el pk x5.toNat ≤ 18014398509481984) ∧ ∀ (x21 : Int), x21 = tsh bla (ec pk x5.toNat 3) (sel3 (0 : Int) (ec pk x5.toNat 4) (ec pk x5.toNat 5) (ec pk x5.toNat 6)) (sel3 (0 : Int) (ec pk x5.toNat 7) (ec pk x5.toNat 8) (ec pk x5.toNat 9)) (el pk x5.toNat) x6 →
    (-9223372036854775808 ≤ x2 + x21 ∧ x2 + x21 ≤ 9223372036854775807) ∧ ∀ (x22 : Int), x22 = x2 + x21 → (decide (x5 < 0) = true → (0 ≤ blb ∧ blb ≤ 4096) ∧ ∀ (x23 : Int), x23 = bsh blb d1 → (-9223372036854775808 ≤ x3 + x23 ∧ x3 + x23 ≤ 9223372036854775807) ∧ ∀ (x24 : Int), x24 = x3 + x23 → (decide (x5 < 0) = true → (0 ≤ blc ∧ blc ≤ 4096) ∧ ∀ (x25 : Int), x25 = bsh blc d2 → (-9223372036854775808 ≤ x4 + x25 ∧ x4 + x25 ≤ 9223372036854775807) ∧ ∀ (x26 : Int), x26 = x4 + x25 → Q ⟨.agg [.int .i64 x22, .int .i64 x24, .int .i64 x26], false, [], []⟩) ∧ (decide (x5 < 0) = false → (0 ≤ x5 ∧ x5 < (List.length pk : Int)) ∧ (((0 : Int) ≤ (2 : Int) ∧ (2 : Int) ≤ (2 : Int)) ∧ (0 ≤ blc ∧ blc ≤ 4096) ∧ ((-18014398509481984 : Int) ≤ x6 ∧ x6 ≤ 18014398509481984) ∧ (-18014398509481984 : Int) ≤ el pk x5.toNat ∧ el pk x5.toNat ≤ 18014398509481984) ∧ ∀ (x27 : Int), x27 = tsh blc (ec pk x5.toNat 3) (sel3 (2 : Int) (ec pk x5.toNat 4) (ec pk x5.toNat 5) (ec pk x5.toNat 6)) (sel3 (2 : Int) (ec pk x5.toNat 7) (ec pk x5.toNat 8) (ec pk x5.toNat 9)) (el pk x5.toNat) x6 →
    (-9223372036854775808 ≤ x4 + x27 ∧ x4 + x27 ≤ 9223372036854775807) ∧ ∀ (x28 : Int), x28 = x4 + x27 → Q ⟨.agg [.int .i64 x22, .int .i64 x24, .int .i64 x28], false, [], []⟩)) ∧ (decide (x5 < 0) = false → (0 ≤ x5 ∧ x5 < (List.length pk : Int)) ∧ (((0 : Int) ≤ (1 : Int) ∧ (1 : Int) ≤ (2 : Int)) ∧ (0 ≤ blb ∧ blb ≤ 4096) ∧ ((-18014398509481984 : Int) ≤ x6 ∧ x6 ≤ 18014398509481984) ∧ (-18014398509481984 : Int) ≤ el pk x5.toNat ∧ el pk x5.toNat ≤ 18014398509481984) ∧ ∀ (x29 : Int), x29 = tsh blb (ec pk x5.toNat 3) (sel3 (1 : Int) (ec pk x5.toNat 4) (ec pk x5.toNat 5) (ec pk x5.toNat 6)) (sel3 (1 : Int) (ec pk x5.toNat 7) (ec pk x5.toNat 8) (ec pk x5.toNat 9)) (el pk x5.toNat) x6 → (-9223372036854775808 ≤ x3 + x29 ∧ x3 + x29 ≤ 9223372036854775807) ∧ ∀ (x30 : Int), x30 = x3 + x29 → (decide (x5 < 0) = true → (0 ≤ blc ∧ blc ≤ 4096) ∧ ∀ (x31 : Int), x31 = bsh blc d2 → (-9223372036854775808 ≤ x4 + x31 ∧
    x4 + x31 ≤ 9223372036854775807) ∧ ∀ (x32 : Int), x32 = x4 + x31 → Q ⟨.agg [.int .i64 x22, .int .i64 x30, .int .i64 x32], false, [], []⟩) ∧ (decide (x5 < 0) = false → (0 ≤ x5 ∧ x5 < (List.length pk : Int)) ∧ (((0 : Int) ≤ (2 : Int) ∧ (2 : Int) ≤ (2 : Int)) ∧ (0 ≤ blc ∧ blc ≤ 4096) ∧ ((-18014398509481984 : Int) ≤ x6 ∧ x6 ≤ 18014398509481984) ∧ (-18014398509481984 : Int) ≤ el pk x5.toNat ∧ el pk x5.toNat ≤ 18014398509481984) ∧ ∀ (x33 : Int), x33 = tsh blc (ec pk x5.toNat 3) (sel3 (2 : Int) (ec pk x5.toNat 4) (ec pk x5.toNat 5) (ec pk x5.toNat 6)) (sel3 (2 : Int) (ec pk x5.toNat 7) (ec pk x5.toNat 8) (ec pk x5.toNat 9)) (el pk x5.toNat) x6 → (-9223372036854775808 ≤ x4 + x33 ∧ x4 + x33 ≤ 9223372036854775807) ∧ ∀ (x34 : Int), x34 = x4 + x33 → Q ⟨.agg [.int .i64 x22, .int .i64 x30, .int .i64 x34], false, [], []⟩)))) := by kernel_rfl
def SBtwR (hargs : List HV) (pars : List (List HC)) : SR :=
  match hargs, pars with
  | [.agg [.int .i64 s0, .int .i64 s1, .int .i64 s2, .sl false [4, 4, 4, 4, 4, 4, 4] sg, .sl false [4, 4, 4] mk], .agg ax, .agg [.sl false [4, 4, 4, 4, 4, 4, 4, 4, 4, 4] pk, .int .i64 ln, .int .i64 sa, .int .i64 d0, .int .i64 d1, .int .i64 d2], .ce (.int .i64 f), .ce (.int .i64 t)], [] =>
    match ax with
    | [.int .i64 sta, .int .i64 spa, .int .i64 aca, .int .i64 jea, .int .i64 loa, .int .i64 hia, .int .i64 bla, .int .i64 oga, .int .i64 sga, .sl false [4] pta, .int .i64 stb, .int .i64 spb, .int .i64 acb, .int .i64 jeb, .int .i64 lob, .int .i64 hib, .int .i64 blb, .int .i64 ogb, .int .i64 sgb, .sl false [4] ptb, .int .i64 stc, .int .i64 spc, .int .i64 acc, .int .i64 jec, .int .i64 loc, .int .i64 hic, .int .i64 blc, .int .i64 ogc, .int .i64 sgc, .sl false [4] ptc] =>
      .all ((okPath s0 s1 s2 sg mk ∧ okTrk pk ln ∧ okMA sta oga sga pta bla ∧ okMA stb ogb sgb ptb blb ∧ okMA stc ogc sgc ptc blc ∧ (0 ≤ sa ∧ sa ≤ 18014398509481984)) ∧ ln ≤ 1099511627776) (List (List Int))
        (fun x => x = plN (mtr sta oga sga pta bla s0 sg 0 pk sa d0) (mtr stb ogb sgb ptb blb s1 sg 1 pk sa d1) (mtr stc ogc sgc ptc blc s2 sg 2 pk sa d2) (clamp ln f) (clamp ln t - clamp ln f).toNat)
        (fun x => ⟨.ce (.sl false [4, 4, 4] x), true, [], []⟩)
    | _ => .fail
  | _, _ => .fail
def tabBtwR : List (FuncId × HL.Spec) := [(39, SMotorsR)]
def anBtwR : LAnn := ⟨[4, 5, 6, 7, 11, 100011, 12, 13], [11, 100011], [1000005, 1000006, 1000007, 1000012], false⟩
def LBtwR (v : LV) : LR :=
  match v with
  | ([.ce (.int .i64 t), .ce (.ptr 1000005 0), .ce (.ptr 1000006 0), .ce (.ptr 1000007 0), .ce (.sl false [4, 4, 4] l), .ce (.lit true), .ce (.ptr 1000012 0), .ce (.int .i64 u)], [[.int .i64 s0, .int .i64 s1, .int .i64 s2, .sl false [4, 4, 4, 4, 4, 4, 4] sg, .sl false [4, 4, 4] mk], ax, tr, [.int .i64 w0, .int .i64 w1, .int .i64 w2]]) =>
    match ax with
    | [.int .i64 sta, .int .i64 spa, .int .i64 aca, .int .i64 jea, .int .i64 loa, .int .i64 hia, .int .i64 bla, .int .i64 oga, .int .i64 sga, .sl false [4] pta, .int .i64 stb, .int .i64 spb, .int .i64 acb, .int .i64 jeb, .int .i64 lob, .int .i64 hib, .int .i64 blb, .int .i64 ogb, .int .i64 sgb, .sl false [4] ptb, .int .i64 stc, .int .i64 spc, .int .i64 acc, .int .i64 jec, .int .i64 loc, .int .i64 hic, .int .i64 blc, .int .i64 ogc, .int .i64 sgc, .sl false [4] ptc] => match tr with
      | [.sl false [4, 4, 4, 4, 4, 4, 4, 4, 4, 4] pk, .int .i64 ln, .int .i64 sa, .int .i64 d0, .int .i64 d1, .int .i64 d2] =>
        .all ((okPath s0 s1 s2 sg mk ∧ okTrk pk ln ∧ okMA sta oga sga pta bla ∧ okMA stb ogb sgb ptb blb ∧ okMA stc ogc sgc ptc blc ∧ (0 ≤ sa ∧ sa ≤ 18014398509481984)) ∧ ln ≤ 1099511627776 ∧ (1 ≤ u ∧ u ≤ ln + 1) ∧ (0 ≤ t ∧ t ≤ ln) ∧ l.length = 0 ∧
            w0 = mtr sta oga sga pta bla s0 sg 0 pk sa d0 (u - 1) ∧ w1 = mtr stb ogb sgb ptb blb s1 sg 1 pk sa d1 (u - 1) ∧ w2 = mtr stc ogc sgc ptc blc s2 sg 2 pk sa d2 (u - 1))
          (List (List Int) × Int × Int × Int) (fun x => x.1 = plN (mtr sta oga sga pta bla s0 sg 0 pk sa d0) (mtr stb ogb sgb ptb blb s1 sg 1 pk sa d1) (mtr stc ogc sgc ptc blc s2 sg 2 pk sa d2) (u - 1) (t - (u - 1)).toNat) (fun _ => .exit 0)
          (fun x => ([.ce (.sl false [4, 4, 4] x.1), .ce (.lit true)], [[.int .i64 s0, .int .i64 s1, .int .i64 s2, .sl false [4, 4, 4, 4, 4, 4, 4] sg, .sl false [4, 4, 4] mk], [.int .i64 sta, .int .i64 spa, .int .i64 aca, .int .i64 jea, .int .i64 loa, .int .i64 hia, .int .i64 bla, .int .i64 oga, .int .i64 sga, .sl false [4] pta, .int .i64 stb, .int .i64 spb, .int .i64 acb, .int .i64 jeb, .int .i64 lob, .int .i64 hib, .int .i64 blb, .int .i64 ogb, .int .i64 sgb, .sl false [4] ptb, .int .i64 stc, .int .i64 spc, .int .i64 acc, .int .i64 jec, .int .i64 loc, .int .i64 hic, .int .i64 blc, .int .i64 ogc, .int .i64 sgc, .sl false [4] ptc], [.sl false [4, 4, 4, 4, 4, 4, 4, 4, 4, 4] pk, .int .i64 ln, .int .i64 sa, .int .i64 d0, .int .i64 d1, .int .i64 d2], [.int .i64 x.2.1, .int .i64 x.2.2.1, .int .i64 x.2.2.2]]))
      | _ => .fail
    | _ => .fail
  | _ => .fail
noncomputable def CBtwR : Ctx := ⟨Tryz.prog, gam tabBtwR, Tryz.f14.ntmps, [(5, anBtwR, LBtwR), (4000009, unrT [1000005, 1000006, 1000007, 1000012, 1000014], fun _ => .fail)], []⟩
theorem vbBtwR (s0 s1 s2 t u ln sa d0 d1 d2 w0 w1 w2 : Int) (sg mk pk l : List (List Int)) (sta spa aca jea loa hia bla oga sga stb spb acb jeb lob hib blb ogb sgb stc spc acc jec loc hic blc ogc sgc : Int) (pta ptb ptc : List (List Int)) (K : HEx → LV → Prop) : (nbodyT true CBtwR anBtwR (nthLoop Tryz.f14 0) (([.ce (.int .i64 t), .ce (.ptr 1000005 0), .ce (.ptr 1000006 0), .ce (.ptr 1000007 0), .ce (.sl false [4, 4, 4] l), .ce (.lit true), .ce (.ptr 1000012 0), .ce (.int .i64 u)], [[.int .i64 s0, .int .i64 s1, .int .i64 s2, .sl false [4, 4, 4, 4, 4, 4, 4] sg, .sl false [4, 4, 4] mk], [.int .i64 sta, .int .i64 spa, .int .i64 aca, .int .i64 jea, .int .i64 loa, .int .i64 hia, .int .i64 bla, .int .i64 oga, .int .i64 sga, .sl false [4] pta, .int .i64 stb, .int .i64 spb, .int .i64 acb, .int .i64 jeb, .int .i64 lob, .int .i64 hib, .int .i64 blb, .int .i64 ogb, .int .i64 sgb, .sl false [4] ptb, .int .i64 stc, .int .i64 spc, .int .i64 acc, .int .i64 jec, .int .i64 loc, .int .i64 hic, .int .i64 blc, .int .i64 ogc, .int .i64 sgc, .sl false [4] ptc], [.sl false [4, 4, 4, 4, 4, 4, 4, 4, 4, 4] pk, .int .i64 ln, .int .i64 sa, .int .i64 d0, .int .i64 d1, .int .i64 d2], [.int .i64 w0, .int .i64 w1, .int .i64 w2]])) K) =
    ((decide (u ≤ t) = true → (okPath s0 s1 s2 sg mk ∧ okTrk pk ln ∧ okMA sta oga sga pta bla ∧ okMA stb ogb sgb ptb blb ∧ okMA stc ogc sgc ptc blc ∧ 0 ≤ sa ∧ sa ≤ 18014398509481984) ∧ ∀ (x1 : Int), x1 = mtr sta oga sga pta bla s0 sg (0 : Nat) pk sa d0 (clamp ln u) → ∀ (x2 : Int), x2 = mtr stb ogb sgb ptb blb s1 sg (1 : Nat) pk sa d1 (clamp ln u) → ∀ (x3 : Int), x3 = mtr stc ogc sgc ptc blc s2 sg (2 : Nat) pk sa d2 (clamp ln u) → ((x1 != w0) = true → (-9223372036854775808 ≤ x1 - w0 ∧ x1 - w0 ≤ 9223372036854775807) ∧ ∀ (x4 : Int), x4 = x1 - w0 → ((List.length l + (1 : Nat)) * (24 : Nat) ≤ (140737488355328 : Nat) ∧ List.length l + (1 : Nat) ≤ maxLen) ∧ ((x2 != w1) = true → (-9223372036854775808 ≤ x2 - w1 ∧ x2 - w1 ≤ 9223372036854775807) ∧ ∀ (x5 : Int), x5 = x2 - w1 → ((List.length (l ++ [[u, (0 : Int), x4]]) + (1 : Nat)) * (24 : Nat) ≤ (140737488355328 : Nat) ∧ List.length (l ++ [[u, (0 : Int), x4]]) + (1 : Nat) ≤ maxLen) ∧
    ((x3 != w2) = true → (-9223372036854775808 ≤ x3 - w2 ∧ x3 - w2 ≤ 9223372036854775807) ∧ ∀ (x6 : Int), x6 = x3 - w2 → ((List.length (l ++ [[u, (0 : Int), x4]] ++ [[u, (1 : Int), x5]]) + (1 : Nat)) * (24 : Nat) ≤ (140737488355328 : Nat) ∧ List.length (l ++ [[u, (0 : Int), x4]] ++ [[u, (1 : Int), x5]]) + (1 : Nat) ≤ maxLen) ∧ (-9223372036854775808 ≤ u + 1 ∧ u + 1 ≤ 9223372036854775807) ∧ ∀ (x7 : Int), x7 = u + 1 → K .normal ([.ce (.int .i64 t), .ce (.ptr 1000005 0), .ce (.ptr 1000006 0), .ce (.ptr 1000007 0), .ce (.sl false [4, 4, 4] (l ++ [[u, (0 : Int), x4]] ++ [[u, (1 : Int), x5]] ++ [[u, (2 : Int), x6]])), .ce (.lit true), .ce (.ptr 1000012 0), .ce (.int .i64 x7)], [[.int .i64 s0, .int .i64 s1, .int .i64 s2, .sl false [4, 4, 4, 4, 4, 4, 4] sg, .sl false [4, 4, 4] mk], [.int .i64 sta, .int .i64 spa, .int .i64 aca, .int .i64 jea, .int .i64 loa, .int .i64 hia, .int .i64 bla, .int .i64 oga, .int .i64 sga, .sl false [4] pta, .int .i64 stb, .int .i64 spb, .int .i64 acb, .int .i64 jeb, .int .i64 lob, .int .i64 hib, .int .i64 blb, .int .i64 ogb, .int .i64 sgb, .sl false [4] ptb, .int .i64 stc, .int .i64 spc, .int .i64 acc, .int .i64 jec, .int .i64 loc, .int .i64 hic, .int .i64 blc, .int .i64 ogc, .int .i64 sgc, .sl false [4] ptc], [.sl false [4, 4, 4, 4, 4, 4, 4, 4, 4, 4] pk, .int .i64 ln, .int .i64 sa, .int .i64 d0, .int .i64 d1, .int .i64 d2], [.int .i64 x1, .int .i64 x2, .int .i64 x3]])) ∧
    ((x3 != w2) = false → (-9223372036854775808 ≤ u + 1 ∧ u + 1 ≤ 9223372036854775807) ∧ ∀ (x8 : Int), x8 = u + 1 → K .normal ([.ce (.int .i64 t), .ce (.ptr 1000005 0), .ce (.ptr 1000006 0), .ce (.ptr 1000007 0), .ce (.sl false [4, 4, 4] (l ++ [[u, (0 : Int), x4]] ++ [[u, (1 : Int), x5]])), .ce (.lit true), .ce (.ptr 1000012 0), .ce (.int .i64 x8)], [[.int .i64 s0, .int .i64 s1, .int .i64 s2, .sl false [4, 4, 4, 4, 4, 4, 4] sg, .sl false [4, 4, 4] mk], [.int .i64 sta, .int .i64 spa, .int .i64 aca, .int .i64 jea, .int .i64 loa, .int .i64 hia, .int .i64 bla, .int .i64 oga, .int .i64 sga, .sl false [4] pta, .int .i64 stb, .int .i64 spb, .int .i64 acb, .int .i64 jeb, .int .i64 lob, .int .i64 hib, .int .i64 blb, .int .i64 ogb, .int .i64 sgb, .sl false [4] ptb, .int .i64 stc, .int .i64 spc, .int .i64 acc, .int .i64 jec, .int .i64 loc, .int .i64 hic, .int .i64 blc, .int .i64 ogc, .int .i64 sgc, .sl false [4] ptc], [.sl false [4, 4, 4, 4, 4, 4, 4, 4, 4, 4] pk, .int .i64 ln, .int .i64 sa, .int .i64 d0, .int .i64 d1, .int .i64 d2], [.int .i64 x1, .int .i64 x2, .int .i64 x3]]))) ∧
    ((x2 != w1) = false → ((x3 != w2) = true → (-9223372036854775808 ≤ x3 - w2 ∧ x3 - w2 ≤ 9223372036854775807) ∧ ∀ (x9 : Int), x9 = x3 - w2 → ((List.length (l ++ [[u, (0 : Int), x4]]) + (1 : Nat)) * (24 : Nat) ≤ (140737488355328 : Nat) ∧ List.length (l ++ [[u, (0 : Int), x4]]) + (1 : Nat) ≤ maxLen) ∧ (-9223372036854775808 ≤ u + 1 ∧ u + 1 ≤ 9223372036854775807) ∧ ∀ (x10 : Int), x10 = u + 1 → K .normal ([.ce (.int .i64 t), .ce (.ptr 1000005 0), .ce (.ptr 1000006 0), .ce (.ptr 1000007 0), .ce (.sl false [4, 4, 4] (l ++ [[u, (0 : Int), x4]] ++ [[u, (2 : Int), x9]])), .ce (.lit true), .ce (.ptr 1000012 0), .ce (.int .i64 x10)], [[.int .i64 s0, .int .i64 s1, .int .i64 s2, .sl false [4, 4, 4, 4, 4, 4, 4] sg, .sl false [4, 4, 4] mk], [.int .i64 sta, .int .i64 spa, .int .i64 aca, .int .i64 jea, .int .i64 loa, .int .i64 hia, .int .i64 bla, .int .i64 oga, .int .i64 sga, .sl false [4] pta, .int .i64 stb, .int .i64 spb, .int .i64 acb, .int .i64 jeb, .int .i64 lob, .int .i64 hib, .int .i64 blb, .int .i64 ogb, .int .i64 sgb, .sl false [4] ptb, .int .i64 stc, .int .i64 spc, .int .i64 acc, .int .i64 jec, .int .i64 loc, .int .i64 hic, .int .i64 blc, .int .i64 ogc, .int .i64 sgc, .sl false [4] ptc], [.sl false [4, 4, 4, 4, 4, 4, 4, 4, 4, 4] pk, .int .i64 ln, .int .i64 sa, .int .i64 d0, .int .i64 d1, .int .i64 d2], [.int .i64 x1, .int .i64 x2, .int .i64 x3]])) ∧
    ((x3 != w2) = false → (-9223372036854775808 ≤ u + 1 ∧ u + 1 ≤ 9223372036854775807) ∧ ∀ (x11 : Int), x11 = u + 1 → K .normal ([.ce (.int .i64 t), .ce (.ptr 1000005 0), .ce (.ptr 1000006 0), .ce (.ptr 1000007 0), .ce (.sl false [4, 4, 4] (l ++ [[u, (0 : Int), x4]])), .ce (.lit true), .ce (.ptr 1000012 0), .ce (.int .i64 x11)], [[.int .i64 s0, .int .i64 s1, .int .i64 s2, .sl false [4, 4, 4, 4, 4, 4, 4] sg, .sl false [4, 4, 4] mk], [.int .i64 sta, .int .i64 spa, .int .i64 aca, .int .i64 jea, .int .i64 loa, .int .i64 hia, .int .i64 bla, .int .i64 oga, .int .i64 sga, .sl false [4] pta, .int .i64 stb, .int .i64 spb, .int .i64 acb, .int .i64 jeb, .int .i64 lob, .int .i64 hib, .int .i64 blb, .int .i64 ogb, .int .i64 sgb, .sl false [4] ptb, .int .i64 stc, .int .i64 spc, .int .i64 acc, .int .i64 jec, .int .i64 loc, .int .i64 hic, .int .i64 blc, .int .i64 ogc, .int .i64 sgc, .sl false [4] ptc], [.sl false [4, 4, 4, 4, 4, 4, 4, 4, 4, 4] pk, .int .i64 ln, .int .i64 sa, .int .i64 d0, .int .i64 d1, .int .i64 d2], [.int .i64 x1, .int .i64 x2, .int .i64 x3]])))) ∧
    ((x1 != w0) = false → ((x2 != w1) = true → (-9223372036854775808 ≤ x2 - w1 ∧ x2 - w1 ≤ 9223372036854775807) ∧ ∀ (x12 : Int), x12 = x2 - w1 → ((List.length l + (1 : Nat)) * (24 : Nat) ≤ (140737488355328 : Nat) ∧ List.length l + (1 : Nat) ≤ maxLen) ∧ ((x3 != w2) = true → (-9223372036854775808 ≤ x3 - w2 ∧ x3 - w2 ≤ 9223372036854775807) ∧ ∀ (x13 : Int), x13 = x3 - w2 → ((List.length (l ++ [[u, (1 : Int), x12]]) + (1 : Nat)) * (24 : Nat) ≤ (140737488355328 : Nat) ∧ List.length (l ++ [[u, (1 : Int), x12]]) + (1 : Nat) ≤ maxLen) ∧ (-9223372036854775808 ≤ u + 1 ∧ u + 1 ≤ 9223372036854775807) ∧ ∀ (x14 : Int), x14 = u + 1 → K .normal ([.ce (.int .i64 t), .ce (.ptr 1000005 0), .ce (.ptr 1000006 0), .ce (.ptr 1000007 0), .ce (.sl false [4, 4, 4] (l ++ [[u, (1 : Int), x12]] ++ [[u, (2 : Int), x13]])), .ce (.lit true), .ce (.ptr 1000012 0), .ce (.int .i64 x14)], [[.int .i64 s0, .int .i64 s1, .int .i64 s2, .sl false [4, 4, 4, 4, 4, 4, 4] sg, .sl false [4, 4, 4] mk], [.int .i64 sta, .int .i64 spa, .int .i64 aca, .int .i64 jea, .int .i64 loa, .int .i64 hia, .int .i64 bla, .int .i64 oga, .int .i64 sga, .sl false [4] pta, .int .i64 stb, .int .i64 spb, .int .i64 acb, .int .i64 jeb, .int .i64 lob, .int .i64 hib, .int .i64 blb, .int .i64 ogb, .int .i64 sgb, .sl false [4] ptb, .int .i64 stc, .int .i64 spc, .int .i64 acc, .int .i64 jec, .int .i64 loc, .int .i64 hic, .int .i64 blc, .int .i64 ogc, .int .i64 sgc, .sl false [4] ptc], [.sl false [4, 4, 4, 4, 4, 4, 4, 4, 4, 4] pk, .int .i64 ln, .int .i64 sa, .int .i64 d0, .int .i64 d1, .int .i64 d2], [.int .i64 x1, .int .i64 x2, .int .i64 x3]])) ∧
    ((x3 != w2) = false → (-9223372036854775808 ≤ u + 1 ∧ u + 1 ≤ 9223372036854775807) ∧ ∀ (x15 : Int), x15 = u + 1 → K .normal ([.ce (.int .i64 t), .ce (.ptr 1000005 0), .ce (.ptr 1000006 0), .ce (.ptr 1000007 0), .ce (.sl false [4, 4, 4] (l ++ [[u, (1 : Int), x12]])), .ce (.lit true), .ce (.ptr 1000012 0), .ce (.int .i64 x15)], [[.int .i64 s0, .int .i64 s1, .int .i64 s2, .sl false [4, 4, 4, 4, 4, 4, 4] sg, .sl false [4, 4, 4] mk], [.int .i64 sta, .int .i64 spa, .int .i64 aca, .int .i64 jea, .int .i64 loa, .int .i64 hia, .int .i64 bla, .int .i64 oga, .int .i64 sga, .sl false [4] pta, .int .i64 stb, .int .i64 spb, .int .i64 acb, .int .i64 jeb, .int .i64 lob, .int .i64 hib, .int .i64 blb, .int .i64 ogb, .int .i64 sgb, .sl false [4] ptb, .int .i64 stc, .int .i64 spc, .int .i64 acc, .int .i64 jec, .int .i64 loc, .int .i64 hic, .int .i64 blc, .int .i64 ogc, .int .i64 sgc, .sl false [4] ptc], [.sl false [4, 4, 4, 4, 4, 4, 4, 4, 4, 4] pk, .int .i64 ln, .int .i64 sa, .int .i64 d0, .int .i64 d1, .int .i64 d2], [.int .i64 x1, .int .i64 x2, .int .i64 x3]]))) ∧
    ((x2 != w1) = false → ((x3 != w2) = true → (-9223372036854775808 ≤ x3 - w2 ∧ x3 - w2 ≤ 9223372036854775807) ∧ ∀ (x16 : Int), x16 = x3 - w2 → ((List.length l + (1 : Nat)) * (24 : Nat) ≤ (140737488355328 : Nat) ∧ List.length l + (1 : Nat) ≤ maxLen) ∧ (-9223372036854775808 ≤ u + 1 ∧ u + 1 ≤ 9223372036854775807) ∧ ∀ (x17 : Int), x17 = u + 1 → K .normal ([.ce (.int .i64 t), .ce (.ptr 1000005 0), .ce (.ptr 1000006 0), .ce (.ptr 1000007 0), .ce (.sl false [4, 4, 4] (l ++ [[u, (2 : Int), x16]])), .ce (.lit true), .ce (.ptr 1000012 0), .ce (.int .i64 x17)], [[.int .i64 s0, .int .i64 s1, .int .i64 s2, .sl false [4, 4, 4, 4, 4, 4, 4] sg, .sl false [4, 4, 4] mk], [.int .i64 sta, .int .i64 spa, .int .i64 aca, .int .i64 jea, .int .i64 loa, .int .i64 hia, .int .i64 bla, .int .i64 oga, .int .i64 sga, .sl false [4] pta, .int .i64 stb, .int .i64 spb, .int .i64 acb, .int .i64 jeb, .int .i64 lob, .int .i64 hib, .int .i64 blb, .int .i64 ogb, .int .i64 sgb, .sl false [4] ptb, .int .i64 stc, .int .i64 spc, .int .i64 acc, .int .i64 jec, .int .i64 loc, .int .i64 hic, .int .i64 blc, .int .i64 ogc, .int .i64 sgc, .sl false [4] ptc], [.sl false [4, 4, 4, 4, 4, 4, 4, 4, 4, 4] pk, .int .i64 ln, .int .i64 sa, .int .i64 d0, .int .i64 d1, .int .i64 d2], [.int .i64 x1, .int .i64 x2, .int .i64 x3]])) ∧
    ((x3 != w2) = false → (-9223372036854775808 ≤ u + 1 ∧ u + 1 ≤ 9223372036854775807) ∧ ∀ (x18 : Int), x18 = u + 1 → K .normal ([.ce (.int .i64 t), .ce (.ptr 1000005 0), .ce (.ptr 1000006 0), .ce (.ptr 1000007 0), .ce (.sl false [4, 4, 4] l), .ce (.lit true), .ce (.ptr 1000012 0), .ce (.int .i64 x18)], [[.int .i64 s0, .int .i64 s1, .int .i64 s2, .sl false [4, 4, 4, 4, 4, 4, 4] sg, .sl false [4, 4, 4] mk], [.int .i64 sta, .int .i64 spa, .int .i64 aca, .int .i64 jea, .int .i64 loa, .int .i64 hia, .int .i64 bla, .int .i64 oga, .int .i64 sga, .sl false [4] pta, .int .i64 stb, .int .i64 spb, .int .i64 acb, .int .i64 jeb, .int .i64 lob, .int .i64 hib, .int .i64 blb, .int .i64 ogb, .int .i64 sgb, .sl false [4] ptb, .int .i64 stc, .int .i64 spc, .int .i64 acc, .int .i64 jec, .int .i64 loc, .int .i64 hic, .int .i64 blc, .int .i64 ogc, .int .i64 sgc, .sl false [4] ptc], [.sl false [4, 4, 4, 4, 4, 4, 4, 4, 4, 4] pk, .int .i64 ln, .int .i64 sa, .int .i64 d0, .int .i64 d1, .int .i64 d2], [.int .i64 x1, .int .i64 x2, .int .i64 x3]]))))) ∧
    (decide (u ≤ t) = false → K (.exit 0) ([.ce (.sl false [4, 4, 4] l), .ce (.lit true)], [[.int .i64 s0, .int .i64 s1, .int .i64 s2, .sl false [4, 4, 4, 4, 4, 4, 4] sg, .sl false [4, 4, 4] mk], [.int .i64 sta, .int .i64 spa, .int .i64 aca, .int .i64 jea, .int .i64 loa, .int .i64 hia, .int .i64 bla, .int .i64 oga, .int .i64 sga, .sl false [4] pta, .int .i64 stb, .int .i64 spb, .int .i64 acb, .int .i64 jeb, .int .i64 lob, .int .i64 hib, .int .i64 blb, .int .i64 ogb, .int .i64 sgb, .sl false [4] ptb, .int .i64 stc, .int .i64 spc, .int .i64 acc, .int .i64 jec, .int .i64 loc, .int .i64 hic, .int .i64 blc, .int .i64 ogc, .int .i64 sgc, .sl false [4] ptc], [.sl false [4, 4, 4, 4, 4, 4, 4, 4, 4, 4] pk, .int .i64 ln, .int .i64 sa, .int .i64 d0, .int .i64 d1, .int .i64 d2], [.int .i64 w0, .int .i64 w1, .int .i64 w2]]))) := by kernel_rfl
theorem vcBtwR (s0 s1 s2 f t ln sa d0 d1 d2 : Int) (sg mk pk : List (List Int)) (sta spa aca jea loa hia bla oga sga stb spb acb jeb lob hib blb ogb sgb stc spc acc jec loc hic blc ogc sgc : Int) (pta ptb ptc : List (List Int)) (Q : Res → Prop) : (nfun true CBtwR Tryz.f14 (bodyOf Tryz.f14) [.agg [.int .i64 s0, .int .i64 s1, .int .i64 s2, .sl false [4, 4, 4, 4, 4, 4, 4] sg, .sl false [4, 4, 4] mk], .agg [.int .i64 sta, .int .i64 spa, .int .i64 aca, .int .i64 jea, .int .i64 loa, .int .i64 hia, .int .i64 bla, .int .i64 oga, .int .i64 sga, .sl false [4] pta, .int .i64 stb, .int .i64 spb, .int .i64 acb, .int .i64 jeb, .int .i64 lob, .int .i64 hib, .int .i64 blb, .int .i64 ogb, .int .i64 sgb, .sl false [4] ptb, .int .i64 stc, .int .i64 spc, .int .i64 acc, .int .i64 jec, .int .i64 loc, .int .i64 hic, .int .i64 blc, .int .i64 ogc, .int .i64 sgc, .sl false [4] ptc], .agg [.sl false [4, 4, 4, 4, 4, 4, 4, 4, 4, 4] pk, .int .i64 ln, .int .i64 sa, .int .i64 d0, .int .i64 d1, .int .i64 d2], .ce (.int .i64 f), .ce (.int .i64 t)] [] Q) =
    (∀ (x1 : Int), x1 = max f (0 : Int) → ∀ (x2 : Int), x2 = min x1 ln → ∀ (x3 : Int), x3 = max t (0 : Int) → ∀ (x4 : Int), x4 = min x3 ln → (okPath s0 s1 s2 sg mk ∧ okTrk pk ln ∧ okMA sta oga sga pta bla ∧ okMA stb ogb sgb ptb blb ∧ okMA stc ogc sgc ptc blc ∧ 0 ≤ sa ∧ sa ≤ 18014398509481984) ∧ ∀ (x5 : Int), x5 = mtr sta oga sga pta bla s0 sg (0 : Nat) pk sa d0 (clamp ln x2) → ∀ (x6 : Int), x6 = mtr stb ogb sgb ptb blb s1 sg (1 : Nat) pk sa d1 (clamp ln x2) → ∀ (x7 : Int), x7 = mtr stc ogc sgc ptc blc s2 sg (2 : Nat) pk sa d2 (clamp ln x2) → (-9223372036854775808 ≤ x2 + 1 ∧ x2 + 1 ≤ 9223372036854775807) ∧ ∀ (x8 : Int), x8 = x2 + 1 → ((okPath s0 s1 s2 sg mk ∧ okTrk pk ln ∧ okMA sta oga sga pta bla ∧ okMA stb ogb sgb ptb blb ∧ okMA stc ogc sgc ptc blc ∧ 0 ≤ sa ∧ sa ≤ 18014398509481984) ∧ ln ≤ 1099511627776 ∧ (1 ≤ x8 ∧ x8 ≤ ln + 1) ∧ (0 ≤ x4 ∧ x4 ≤ ln) ∧ (0 : Nat) = (0 : Nat) ∧ x5 = mtr sta oga sga pta bla s0 sg (0 : Nat) pk sa d0 (x8 - 1) ∧
    x6 = mtr stb ogb sgb ptb blb s1 sg (1 : Nat) pk sa d1 (x8 - 1) ∧ x7 = mtr stc ogc sgc ptc blc s2 sg (2 : Nat) pk sa d2 (x8 - 1)) ∧ ∀ (x : List (List Int) × Int × Int × Int), x.1 = plN (mtr sta oga sga pta bla s0 sg (0 : Nat) pk sa d0) (mtr stb ogb sgb ptb blb s1 sg (1 : Nat) pk sa d1) (mtr stc ogc sgc ptc blc s2 sg (2 : Nat) pk sa d2) (x8 - 1) (Int.toNat (x4 - (x8 - 1))) → Q ⟨.ce (.sl false [4, 4, 4] x.1), true, [], []⟩) := by kernel_rfl
def SPMot3 (hargs : List HV) (pars : List (List HC)) : SR :=
  match hargs, pars with
  | [.ce (.sl false [4] l), .ce (.sl false [4] ax), .ce (.int .i64 ds), .ce (.int .i64 f), .ce (.int .i64 t), .ce (.int .i64 a), .ce (.int .i64 b)], [] => .det (l.length ≤ 9223372036854775807 ∧ ax.length ≤ 9223372036854775807) okR
  | _, _ => .fail
def tabPBtw : List (FuncId × HL.Spec) := [(9, STrue0), (10, SRun), (11, SMod), (13, SBetween), (14, SBtwR), (12, SSameP)]
noncomputable def CPBtw : Ctx := ⟨Tryz.prog, gam tabPBtw, Tryz.f3.ntmps, [(4000006, ⟨[], [4], [1000015], true⟩, fun _ => .fail)], []⟩
theorem vcPBtw (l ax : List (List Int)) (ds f t a b : Int) (Q : Res → Prop) : (nfun true CPBtw Tryz.f3 (bodyOf Tryz.f3) [.ce (.sl false [4] l), .ce (.sl false [4] ax), .ce (.int .i64 ds), .ce (.int .i64 f), .ce (.int .i64 t), .ce (.int .i64 a), .ce (.int .i64 b)] [] Q) =
    (True ∧ (∃ (x : Bool), x = true) ∧ ∀ (x : Bool), x = true → ((!x) = true → Q ⟨.ce (.bool false), false, [], []⟩) ∧ ((!x) = false → (List.length l ≤ (9223372036854775807 : Nat) ∧ List.length ax ≤ (9223372036854775807 : Nat)) ∧ (∃ (x : RunS), okRun x) ∧ ∀ (x : RunS), okRun x → (-9223372036854775808 ≤ x.ln + 1 ∧ x.ln + 1 ≤ 9223372036854775807) ∧ ∀ (x3 : Int), x3 = x.ln + 1 → (0 < x3 ∧ x3 ≤ 4611686018427387904) ∧ ∀ (x4 : Int), x4 = a % x3 → (-9223372036854775808 ≤ x.ln + 1 ∧ x.ln + 1 ≤ 9223372036854775807) ∧ ∀ (x5 : Int), x5 = x.ln + 1 → (0 < x5 ∧ x5 ≤ 4611686018427387904) ∧ ∀ (x6 : Int), x6 = b % x5 → ((okLen x.sg ∧ okPts x.s0 x.s1 x.s2 x.sg ∧ okTrk x.pk x.ln ∧ okMA x.a.st x.a.og x.a.sg x.a.pit x.a.bl ∧ okMA x.b.st x.b.og x.b.sg x.b.pit x.b.bl ∧ okMA x.c.st x.c.og x.c.sg x.c.pit x.c.bl ∧ 0 ≤ x.f ∧ x.f ≤ 18014398509481984) ∧ x.ln ≤ 1099511627776) ∧ (∃ (x_1 : List (List Int)), x_1 = plN (mtr x.a.st x.a.og x.a.sg x.a.pit x.a.bl x.s0 x.sg (0 : Nat) x.pk x.f x.d0) (mtr x.b.st x.b.og x.b.sg x.b.pit x.b.bl x.s1 x.sg (1 : Nat) x.pk x.f x.d1) (mtr x.c.st x.c.og x.c.sg x.c.pit x.c.bl x.s2 x.sg (2 : Nat) x.pk x.f x.d2) (clamp x.ln a) (Int.toNat (clamp x.ln b - clamp x.ln a))) ∧
    ∀ (x_1 : List (List Int)), x_1 = plN (mtr x.a.st x.a.og x.a.sg x.a.pit x.a.bl x.s0 x.sg (0 : Nat) x.pk x.f x.d0) (mtr x.b.st x.b.og x.b.sg x.b.pit x.b.bl x.s1 x.sg (1 : Nat) x.pk x.f x.d1) (mtr x.c.st x.c.og x.c.sg x.c.pit x.c.bl x.s2 x.sg (2 : Nat) x.pk x.f x.d2) (clamp x.ln a) (Int.toNat (clamp x.ln b - clamp x.ln a)) → ((okPath x.s0 x.s1 x.s2 x.sg x.mks ∧ okTrk x.pk x.ln ∧ okMA x.a.st x.a.og x.a.sg x.a.pit x.a.bl ∧ okMA x.b.st x.b.og x.b.sg x.b.pit x.b.bl ∧ okMA x.c.st x.c.og x.c.sg x.c.pit x.c.bl ∧ 0 ≤ x.f ∧ x.f ≤ 18014398509481984) ∧ x.ln ≤ 1099511627776) ∧ (∃ (x_2 : List (List Int)), x_2 = plN (mtr x.a.st x.a.og x.a.sg x.a.pit x.a.bl x.s0 x.sg (0 : Nat) x.pk x.f x.d0) (mtr x.b.st x.b.og x.b.sg x.b.pit x.b.bl x.s1 x.sg (1 : Nat) x.pk x.f x.d1) (mtr x.c.st x.c.og x.c.sg x.c.pit x.c.bl x.s2 x.sg (2 : Nat) x.pk x.f x.d2) (clamp x.ln a) (Int.toNat (clamp x.ln b - clamp x.ln a))) ∧ ∀ (x_2 : List (List Int)), x_2 = plN (mtr x.a.st x.a.og x.a.sg x.a.pit x.a.bl x.s0 x.sg (0 : Nat) x.pk x.f x.d0) (mtr x.b.st x.b.og x.b.sg x.b.pit x.b.bl x.s1 x.sg (1 : Nat) x.pk x.f x.d1) (mtr x.c.st x.c.og x.c.sg x.c.pit x.c.bl x.s2 x.sg (2 : Nat) x.pk x.f x.d2) (clamp x.ln a) (Int.toNat (clamp x.ln b - clamp x.ln a)) →
    (x_1 = x_2 ∧ List.length x_1 ≤ (9223372036854775807 : Nat)) ∧ ∀ (x9 : Bool), x9 = true → ((!x9) = true → Q ⟨.ce (.bool false), false, [], []⟩) ∧ ((!x9) = false → ((okLen x.sg ∧ okPts x.s0 x.s1 x.s2 x.sg ∧ okTrk x.pk x.ln ∧ okMA x.a.st x.a.og x.a.sg x.a.pit x.a.bl ∧ okMA x.b.st x.b.og x.b.sg x.b.pit x.b.bl ∧ okMA x.c.st x.c.og x.c.sg x.c.pit x.c.bl ∧ 0 ≤ x.f ∧ x.f ≤ 18014398509481984) ∧ x.ln ≤ 1099511627776) ∧ (∃ (x_3 : List (List Int)), x_3 = plN (mtr x.a.st x.a.og x.a.sg x.a.pit x.a.bl x.s0 x.sg (0 : Nat) x.pk x.f x.d0) (mtr x.b.st x.b.og x.b.sg x.b.pit x.b.bl x.s1 x.sg (1 : Nat) x.pk x.f x.d1) (mtr x.c.st x.c.og x.c.sg x.c.pit x.c.bl x.s2 x.sg (2 : Nat) x.pk x.f x.d2) (clamp x.ln x4) (Int.toNat (clamp x.ln x6 - clamp x.ln x4))) ∧ ∀ (x_3 : List (List Int)), x_3 = plN (mtr x.a.st x.a.og x.a.sg x.a.pit x.a.bl x.s0 x.sg (0 : Nat) x.pk x.f x.d0) (mtr x.b.st x.b.og x.b.sg x.b.pit x.b.bl x.s1 x.sg (1 : Nat) x.pk x.f x.d1) (mtr x.c.st x.c.og x.c.sg x.c.pit x.c.bl x.s2 x.sg (2 : Nat) x.pk x.f x.d2) (clamp x.ln x4) (Int.toNat (clamp x.ln x6 - clamp x.ln x4)) →
    ((okPath x.s0 x.s1 x.s2 x.sg x.mks ∧ okTrk x.pk x.ln ∧ okMA x.a.st x.a.og x.a.sg x.a.pit x.a.bl ∧ okMA x.b.st x.b.og x.b.sg x.b.pit x.b.bl ∧ okMA x.c.st x.c.og x.c.sg x.c.pit x.c.bl ∧ 0 ≤ x.f ∧ x.f ≤ 18014398509481984) ∧ x.ln ≤ 1099511627776) ∧ (∃ (x_4 : List (List Int)), x_4 = plN (mtr x.a.st x.a.og x.a.sg x.a.pit x.a.bl x.s0 x.sg (0 : Nat) x.pk x.f x.d0) (mtr x.b.st x.b.og x.b.sg x.b.pit x.b.bl x.s1 x.sg (1 : Nat) x.pk x.f x.d1) (mtr x.c.st x.c.og x.c.sg x.c.pit x.c.bl x.s2 x.sg (2 : Nat) x.pk x.f x.d2) (clamp x.ln x4) (Int.toNat (clamp x.ln x6 - clamp x.ln x4))) ∧ ∀ (x_4 : List (List Int)), x_4 = plN (mtr x.a.st x.a.og x.a.sg x.a.pit x.a.bl x.s0 x.sg (0 : Nat) x.pk x.f x.d0) (mtr x.b.st x.b.og x.b.sg x.b.pit x.b.bl x.s1 x.sg (1 : Nat) x.pk x.f x.d1) (mtr x.c.st x.c.og x.c.sg x.c.pit x.c.bl x.s2 x.sg (2 : Nat) x.pk x.f x.d2) (clamp x.ln x4) (Int.toNat (clamp x.ln x6 - clamp x.ln x4)) → (x_3 = x_4 ∧
    List.length x_3 ≤ (9223372036854775807 : Nat)) ∧ ∀ (x12 : Bool), x12 = true → ((!x12) = true → Q ⟨.ce (.bool false), false, [], []⟩) ∧ ((!x12) = false → ((okLen x.sg ∧ okPts x.s0 x.s1 x.s2 x.sg ∧ okTrk x.pk x.ln ∧ okMA x.a.st x.a.og x.a.sg x.a.pit x.a.bl ∧ okMA x.b.st x.b.og x.b.sg x.b.pit x.b.bl ∧ okMA x.c.st x.c.og x.c.sg x.c.pit x.c.bl ∧ 0 ≤ x.f ∧ x.f ≤ 18014398509481984) ∧ x.ln ≤ 1099511627776) ∧ (∃ (x_5 : List (List Int)), x_5 = plN (mtr x.a.st x.a.og x.a.sg x.a.pit x.a.bl x.s0 x.sg (0 : Nat) x.pk x.f x.d0) (mtr x.b.st x.b.og x.b.sg x.b.pit x.b.bl x.s1 x.sg (1 : Nat) x.pk x.f x.d1) (mtr x.c.st x.c.og x.c.sg x.c.pit x.c.bl x.s2 x.sg (2 : Nat) x.pk x.f x.d2) (clamp x.ln (0 : Int)) (Int.toNat (clamp x.ln x.ln - clamp x.ln (0 : Int)))) ∧ ∀ (x_5 : List (List Int)), x_5 = plN (mtr x.a.st x.a.og x.a.sg x.a.pit x.a.bl x.s0 x.sg (0 : Nat) x.pk x.f x.d0) (mtr x.b.st x.b.og x.b.sg x.b.pit x.b.bl x.s1 x.sg (1 : Nat) x.pk x.f x.d1) (mtr x.c.st x.c.og x.c.sg x.c.pit x.c.bl x.s2 x.sg (2 : Nat) x.pk x.f x.d2) (clamp x.ln (0 : Int)) (Int.toNat (clamp x.ln x.ln - clamp x.ln (0 : Int))) →
    ((okPath x.s0 x.s1 x.s2 x.sg x.mks ∧ okTrk x.pk x.ln ∧ okMA x.a.st x.a.og x.a.sg x.a.pit x.a.bl ∧ okMA x.b.st x.b.og x.b.sg x.b.pit x.b.bl ∧ okMA x.c.st x.c.og x.c.sg x.c.pit x.c.bl ∧ 0 ≤ x.f ∧ x.f ≤ 18014398509481984) ∧ x.ln ≤ 1099511627776) ∧ (∃ (x_6 : List (List Int)), x_6 = plN (mtr x.a.st x.a.og x.a.sg x.a.pit x.a.bl x.s0 x.sg (0 : Nat) x.pk x.f x.d0) (mtr x.b.st x.b.og x.b.sg x.b.pit x.b.bl x.s1 x.sg (1 : Nat) x.pk x.f x.d1) (mtr x.c.st x.c.og x.c.sg x.c.pit x.c.bl x.s2 x.sg (2 : Nat) x.pk x.f x.d2) (clamp x.ln (0 : Int)) (Int.toNat (clamp x.ln x.ln - clamp x.ln (0 : Int)))) ∧ ∀ (x_6 : List (List Int)), x_6 = plN (mtr x.a.st x.a.og x.a.sg x.a.pit x.a.bl x.s0 x.sg (0 : Nat) x.pk x.f x.d0) (mtr x.b.st x.b.og x.b.sg x.b.pit x.b.bl x.s1 x.sg (1 : Nat) x.pk x.f x.d1) (mtr x.c.st x.c.og x.c.sg x.c.pit x.c.bl x.s2 x.sg (2 : Nat) x.pk x.f x.d2) (clamp x.ln (0 : Int)) (Int.toNat (clamp x.ln x.ln - clamp x.ln (0 : Int))) →
    (x_5 = x_6 ∧ List.length x_5 ≤ (9223372036854775807 : Nat)) ∧ ∀ (x15 : Bool), x15 = true → ((!x15) = true → Q ⟨.ce (.bool false), false, [], []⟩) ∧ ((!x15) = false → Q ⟨.ce (.bool true), false, [], []⟩))))) := by kernel_rfl
end Go.Proofs.YtneingpnkdeooaaGreat
namespace Go.Proofs.YtneingpnkdeooaaGreat
open Go Go.HL U
attribute [local irreducible] hfun bodyT fragT
theorem drop_cons {l : List (List Int)} {k : Nat} (h : k < l.length) : l.drop k = l.getD k [] :: l.drop (k + 1) := by
  rw [List.drop_eq_getElem_cons h, List.getD_eq_getElem?_getD, List.getElem?_eq_getElem h]
  rfl
theorem lfA_cons (r : List Int) (l : List (List Int)) (i s : Int) : lfA (r :: l) i s = if s < r.getD 3 0 then (i, s) else lfA l (i + 1) (s - r.getD 3 0) := rfl
theorem loopPFR : ∀ v Q, (LPFR v).wp Q → hloop CPFindR anPFR (nthLoop Tryz.f72 0) v Q := by
  intro v Q h
  unfold LPFR at h
  split at h
  case h_2 => exact h.elim
  rename_i p z y l n i s0 s1 s2 sg mk
  obtain ⟨⟨h1, h2, h3, h4⟩, q0, q1⟩ := h
  subst h1 h2
  refine hloop_rec (σ := Nat × Int) (fun x => ([.ce (.int .i64 x.2), .ce (.ptr 1000002 0), .ce (.int .i64 z), .ce (.int .i64 y), .ce (.sl false [4, 4, 4, 4, 4, 4, 4] l), .ce (.int .i64 (l.length : Int)), .ce (.int .i64 (x.1 : Int))], [[.int .i64 s0, .int .i64 s1, .int .i64 s2, .sl false [4, 4, 4, 4, 4, 4, 4] sg, .sl false [4, 4, 4] mk]])) (fun x => l.length - x.1)
    (fun x => x.1 ≤ l.length ∧ (0 ≤ x.2 ∧ x.2 ≤ 4611686018427387904) ∧ lfA l 0 p = lfA (l.drop x.1) x.1 x.2) ?_ (0, p) ⟨Nat.zero_le _, h3, rfl⟩
  rintro ⟨k, q⟩ ⟨hk, hq, he⟩ K hn hx hr
  dsimp only at hk hq he hn ⊢
  have hl := h4.1
  refine byVB (vbPFindR s0 s1 s2 q z y l.length k sg mk l K) ⟨fun g => ?_, fun g => ?_⟩
  · have g := of_decide_eq_true g
    have hkl : k < l.length := by omega
    have ht : Int.toNat (k : Int) = k := rfl
    rw [ht]
    have hL := h4.2 k hkl
    rw [drop_cons hkl, lfA_cons] at he
    have e3 : (l.getD k []).getD 3 0 = ec l k 3 := rfl
    rw [e3] at he
    refine ⟨by omega, fun g1 => ?_, fun g1 => ⟨by omega, fun x1 e1 => ⟨by omega, fun x2 e2 => ?_⟩⟩⟩
    · have g1 := of_decide_eq_true g1
      rw [if_pos g1] at he
      have f := q1 (by rw [he]; show (0 : Int) ≤ (k : Int); omega)
      rw [he] at f
      exact hr _ f
    · have g1 := of_decide_eq_false g1
      rw [if_neg g1] at he
      rw [show x2 = ((k + 1 : Nat) : Int) by omega, e1]
      refine hn (k + 1, q - ec l k 3) ⟨hkl, ⟨by dsimp only; omega, by dsimp only; omega⟩, ?_⟩ (by dsimp only; omega)
      dsimp only
      rw [he, show ((k + 1 : Nat) : Int) = (k : Int) + 1 by omega]
  · have g := of_decide_eq_false g
    have hkl : k = l.length := by omega
    rw [hkl, List.drop_length] at he
    exact hx 0 _ (q0 (by rw [he]; show (-1 : Int) < 0; decide))
set_option maxHeartbeats 400000 in
set_option maxRecDepth 100000 in
theorem sPFindR : Sound Tryz.prog 72 SPFind := by
  refine sound_of (C := CPFindR) [] Tryz.func72 (by kernel_rfl) (by decide +kernel) (by kernel_rfl) rfl trivial (loops1 (by kernel_rfl) (loopOK_of (an := anPFR) (S := LPFR) (by kernel_rfl) loopPFR)) ?_
  intro hargs pars R h
  unfold SPFind at h
  split at h
  case h_2 => exfalso; exact h
  rename_i s0 s1 s2 sg mk p
  obtain ⟨⟨hl, hp⟩, _, hR⟩ := h
  have hl1 := hl.1
  have fin : ∀ a b : Int, (a, b) = pfind sg p → R ⟨.tup [.ce (.int .i64 a), .ce (.int .i64 b)], false, [], []⟩ := fun a b e => hR (a, b) e
  refine byVC (vcPFindR s0 s1 s2 p sg mk R) ⟨fun g => fin _ _ ?_, fun g x1 e1 => ⟨⟨rfl, rfl, by omega, hl⟩, fun g2 => ⟨by omega, fun x2 e2 => ?_⟩, fun g2 => fin _ _ ?_⟩⟩
  · have g : (sg.length : Int) = 0 := by simpa using g
    unfold pfind; rw [if_pos (by omega)]
  · have g : ¬ (sg.length : Int) = 0 := by simpa using g
    refine ⟨by omega, fun x3 e3 => fin _ _ ?_⟩
    unfold pfind
    rw [if_neg (by omega), ← e1, if_neg (by omega), e3, e2, show ((sg.length : Int) - 1).toNat = sg.length - 1 by omega]
  · have g : ¬ (sg.length : Int) = 0 := by simpa using g
    unfold pfind
    rw [if_neg (by omega), ← e1, if_pos g2]
theorem ptAt_b3 {s0 s1 s2 : Int} {sg mk : List (List Int)} (h : okPath s0 s1 s2 sg mk) (p : Int) : (-536870912 ≤ ptAt s0 sg 0 p ∧ ptAt s0 sg 0 p ≤ 536870912) ∧ (-536870912 ≤ ptAt s1 sg 1 p ∧ ptAt s1 sg 1 p ≤ 536870912) ∧ (-536870912 ≤ ptAt s2 sg 2 p ∧ ptAt s2 sg 2 p ≤ 536870912) := by
  have hl := okPath_len h
  obtain ⟨k0, k1, k2, kk⟩ := okPath_pts h
  exact ⟨ptAt_bd hl k0 (fun j hj => (kk j hj).1) p, ptAt_bd hl k1 (fun j hj => (kk j hj).2.1) p, ptAt_bd hl k2 (fun j hj => (kk j hj).2.2) p⟩
theorem prod_bd5 {a d L : Int} (ha : -L ≤ a ∧ a ≤ L) (hd : 0 ≤ d ∧ d ≤ L) (hL : 0 ≤ L ∧ L ≤ 131072) : -17179869184 ≤ a * d ∧ a * d ≤ 17179869184 := by
  have h1 : a * d ≤ L * L := Int.le_trans (Int.mul_le_mul_of_nonneg_right ha.2 hd.1) (Int.mul_le_mul_of_nonneg_left hd.2 hL.1)
  have h2 : -L * d ≤ a * d := Int.mul_le_mul_of_nonneg_right ha.1 hd.1
  have h3 : L * d ≤ L * L := Int.mul_le_mul_of_nonneg_left hd.2 hL.1
  have h4 : L * L ≤ 131072 * 131072 := Int.mul_le_mul hL.2 hL.2 hL.1 (by decide)
  rw [Int.neg_mul] at h2
  omega
set_option maxHeartbeats 400000 in
set_option maxRecDepth 100000 in
theorem sAtR : Sound Tryz.prog 46 SAtR := by
  refine sound_of (C := CAtR) tabAtR Tryz.func46 (by kernel_rfl) (by decide +kernel) (by kernel_rfl) rfl ⟨sPFindR, sBegin, sRnd, trivial⟩ (loopsAll (by kernel_rfl)) ?_
  intro hargs pars R h
  unfold SAtR at h
  split at h
  case h_2 => exfalso; exact h
  rename_i s0 s1 s2 sg mk p
  obtain ⟨⟨hp, hpp⟩, hq⟩ := h
  have hl := okPath_len hp
  have hl1 := hl.1
  have hb := ptAt_b3 hp p
  refine byVC (vcAtR s0 s1 s2 p sg mk R) ⟨⟨hl, hpp⟩, ⟨_, rfl⟩, fun x ex => ?_⟩
  unfold ptAt at hq hb
  have sp := pfind_spec hl p
  rw [← ex] at sp hq hb
  rcases sp with ⟨h1, h2⟩ | ⟨j, h1, h2, h3, h4⟩
  · rw [h2] at hq ⊢
    exact ⟨fun _ => hq, fun g => absurd g (by decide)⟩
  rw [if_neg (by omega), if_neg (by omega), if_neg (by omega), h2] at hq hb
  have hj : ((j : Int)).toNat = j := rfl
  rw [hj] at hq hb
  have D := okSegs_D hp.2.1 h1
  have L := (hp.2.1 j h1).2.1
  have P := (hp.2.1 j h1).1
  unfold b3 at P
  have p0 := prod_bd5 D.1 ⟨h3, h4⟩ (by omega)
  have p1 := prod_bd5 D.2.1 ⟨h3, h4⟩ (by omega)
  have p2 := prod_bd5 D.2.2 ⟨h3, h4⟩ (by omega)
  rw [h2, hj]
  have ee : ec sg j 0 = el sg j := rfl
  rw [ee] at p0 hq hb D
  refine ⟨fun g => absurd (of_decide_eq_true g) (by omega), fun _ => ⟨by omega, by omega, fun x2 e2 x3 e3 x4 e4 => ?_⟩⟩
  rw [← e2] at p0 hq hb D
  rw [← e3] at p1 hq hb D
  rw [← e4] at p2 hq hb D
  refine ⟨by omega, fun x5 e5 => ?_⟩
  rw [← e5] at p0 hq hb
  refine ⟨by omega, fun x6 e6 => ?_⟩
  rw [← e6] at p0 hq hb
  refine ⟨by omega, fun x7 e7 => ?_⟩
  rw [← e7] at hq hb
  refine ⟨by omega, fun x8 e8 => ?_⟩
  rw [← e8] at hq
  refine ⟨by omega, fun x9 e9 => ?_⟩
  rw [← e9] at p1 hq hb
  refine ⟨by omega, fun x10 e10 => ?_⟩
  rw [← e10] at p1 hq hb
  refine ⟨by omega, fun x11 e11 => ?_⟩
  rw [← e11] at hq hb
  refine ⟨by omega, fun x12 e12 => ?_⟩
  rw [← e12] at hq
  refine ⟨by omega, fun x13 e13 => ?_⟩
  rw [← e13] at p2 hq hb
  refine ⟨by omega, fun x14 e14 => ?_⟩
  rw [← e14] at p2 hq hb
  refine ⟨by omega, fun x15 e15 => ?_⟩
  rw [← e15] at hq hb
  refine ⟨by omega, fun x16 e16 => ?_⟩
  rw [← e16] at hq
  exact hq
set_option maxHeartbeats 400000 in
set_option maxRecDepth 100000 in
theorem sPlaceR : Sound Tryz.prog 66 SPlace := by
  refine sound_of (C := CPlaceR) tabPlaceR Tryz.func66 (by kernel_rfl) (by decide +kernel) (by kernel_rfl) rfl ⟨sPieceR, trivial⟩ (loops0 (by kernel_rfl)) ?_
  intro hargs pars R h
  unfold SPlace at h
  split at h
  case h_2 => exfalso; exact h
  rename_i pk ln sa d0 d1 d2 u
  obtain ⟨ht, hq⟩ := h
  have hl := ht.2.1
  have hc := clamp_bd (v := u) hl.1
  unfold tplace at hq
  refine byVC (vcPlaceR u ln sa d0 d1 d2 pk R) ⟨ht, fun x1 e1 x2 e2 => ?_⟩
  rw [← e2] at hq hc e1
  rw [← e1] at hq
  refine ⟨fun g => ?_, fun g => ?_⟩
  · rw [if_pos (of_decide_eq_true g)] at hq; exact hq
  · have g := of_decide_eq_false g
    rw [if_neg g] at hq
    rcases tfind_spec ht hc.2 with ⟨h1, h2⟩ | ⟨j, h1, h2, h3, h4⟩
    · omega
    have hj : x1.toNat = j := by omega
    have a := at_bd ht h1
    have b := ht.2.2.2.2.2 j h1
    rw [hj] at hq ⊢
    refine ⟨by omega, fun x3 e3 => ⟨by omega, fun x4 e4 => ⟨by omega, fun x5 e5 => ?_⟩⟩⟩
    have e5 : x5 = ec pk j 0 := e5
    refine ⟨by omega, fun x6 e6 => ?_⟩
    have c := mul3 (m := x4) (x := x6) (B := 18014398509481984) (by omega) (by omega)
    refine ⟨by omega, fun x7 e7 => ⟨by omega, fun x8 e8 => ?_⟩⟩
    rw [e8, e7, e6, e5, e4, e3]
    exact hq
set_option maxHeartbeats 400000 in
set_option maxRecDepth 100000 in
theorem sBshR : Sound Tryz.prog 68 SBsh := by
  refine sound_of (C := CBshR) [] Tryz.func68 (by kernel_rfl) (by decide +kernel) (by kernel_rfl) rfl trivial (loops0 (by kernel_rfl)) ?_
  intro hargs pars R h
  unfold SBsh at h
  split at h
  case h_2 => exfalso; exact h
  rename_i sta spa aca jea loa hia bla oga sga pta d
  obtain ⟨h1, hq⟩ := h
  unfold bsh at hq
  refine byVC (vcBshR sta spa aca jea loa hia bla oga sga pta d R) ⟨fun g => ⟨by omega, fun x1 e1 => ?_⟩, fun g => ?_⟩
  · rw [if_pos (by simpa using g)] at hq
    rw [show x1 = -bla by omega]; exact hq
  · rw [if_neg (by simpa using g)] at hq; exact hq
set_option maxHeartbeats 400000 in
set_option maxRecDepth 100000 in
theorem sTshR : Sound Tryz.prog 69 STsh := by
  refine sound_of (C := CTshR) tabTshR Tryz.func69 (by kernel_rfl) (by decide +kernel) (by kernel_rfl) rfl ⟨sBshR, trivial⟩ (loops0 (by kernel_rfl)) ?_
  intro hargs pars R h
  unfold STsh at h
  split at h
  case h_2 => exfalso; exact h
  rename_i sta spa aca jea loa hia bla oga sga pta q0 q1 q2 q3 q4 q5 q6 q7 q8 q9 k u
  obtain ⟨⟨hk, hb, hu, ha⟩, hq⟩ := h
  refine byVC (vcTshR sta spa aca jea loa hia bla oga sga pta q0 q1 q2 q3 q4 q5 q6 q7 q8 q9 k u R) ⟨fun e => ?_, fun e => ⟨fun e2 => ?_, fun e2 => ⟨fun e3 => ?_, fun e3 => by omega⟩⟩⟩
  · subst e; exact tsh_fin hb hu ha hq
  · subst e2; exact tsh_fin hb hu ha hq
  · subst e3; exact tsh_fin hb hu ha hq
set_option maxHeartbeats 400000 in
set_option maxRecDepth 100000 in
theorem sNom : Sound Tryz.prog 20 SNom := by
  refine sound_of (C := CNom) tabNom Tryz.func20 (by kernel_rfl) (by decide +kernel) (by kernel_rfl) rfl ⟨sAtR, sMotor2, trivial⟩ (loopsAll (by kernel_rfl)) ?_
  intro hargs pars R h
  unfold SNom at h
  split at h
  case h_2 => exfalso; exact h
  rename_i s0 s1 s2 sg mk ax p
  split at h
  case h_2 => exact h.elim
  rename_i sta spa aca jea loa hia bla oga sga pta stb spb acb jeb lob hib blb ogb sgb ptb stc spc acc jec loc hic blc ogc sgc ptc
  obtain ⟨⟨hp, ma, mb, mc, hpp⟩, hq⟩ := h
  have hb := ptAt_b3 hp p
  unfold nomi at hq
  refine byVC (vcNom s0 s1 s2 p sg mk sta spa aca jea loa hia bla oga sga stb spb acb jeb lob hib blb ogb sgb stc spc acc jec loc hic blc ogc sgc pta ptb ptc R) ⟨⟨hp, hpp⟩, fun x1 e1 x2 e2 x3 e3 => ?_⟩
  rw [← e1, ← e2, ← e3] at hq hb
  refine ⟨⟨ma.1, ma.2.1, by omega⟩, fun x4 e4 => ⟨⟨mb.1, mb.2.1, by omega⟩, fun x5 e5 => ⟨⟨mc.1, mc.2.1, by omega⟩, fun x6 e6 => ?_⟩⟩⟩
  rw [e4, e5, e6]
  exact hq
theorem mtr_of {st og sg : Int} {pt : List (List Int)} {bl s : Int} {sgs : List (List Int)} {c : Nat} {pk : List (List Int)} {sa d u : Int} {j : Nat} (h : tfind pk u = j) :
    mtr st og sg pt bl s sgs c pk sa d u = nomi st og sg pt s sgs c (tplace pk sa u) + tsh bl (ec pk j 3) (ec pk j (4 + c)) (ec pk j (7 + c)) (ec pk j 0) u := by
  unfold mtr tmot nomi
  rw [h, if_neg (by omega)]
  rfl
theorem mtr_no {st og sg : Int} {pt : List (List Int)} {bl s : Int} {sgs : List (List Int)} {c : Nat} {pk : List (List Int)} {sa d u : Int} (h : tfind pk u < 0) :
    mtr st og sg pt bl s sgs c pk sa d u = nomi st og sg pt s sgs c (tplace pk sa u) + bsh bl d := by
  unfold mtr tmot nomi
  rw [if_pos h]
set_option maxHeartbeats 1000000 in
set_option maxHeartbeats 400000 in
set_option maxRecDepth 100000 in
theorem sMotorsR : Sound Tryz.prog 39 SMotorsR := by
  refine sound_of (C := CMotorsR) tabMotorsR Tryz.func39 (by kernel_rfl) (by decide +kernel) (by kernel_rfl) rfl ⟨sPlaceR, sNom, sPieceR, sBshR, sTshR, trivial⟩ (loopsAll (by kernel_rfl)) ?_
  intro hargs pars R h
  unfold SMotorsR at h
  split at h
  case h_2 => exfalso; exact h
  rename_i s0 s1 s2 sg mk ax pk ln sa d0 d1 d2 u
  split at h
  case h_2 => exact h.elim
  rename_i sta spa aca jea loa hia bla oga sga pta stb spb acb jeb lob hib blb ogb sgb ptb stc spc acc jec loc hic blc ogc sgc ptc
  obtain ⟨⟨hp, ht, ma, mb, mc, hsa⟩, hq⟩ := h
  have hln := ht.2.1
  have hc := clamp_bd (v := u) hln.1
  refine byVC (vcMotorsR s0 s1 s2 u ln sa d0 d1 d2 sg mk pk sta spa aca jea loa hia bla oga sga stb spb acb jeb lob hib blb ogb sgb stc spc acc jec loc hic blc ogc sgc pta ptb ptc R) ⟨ht, fun x1 e1 => ?_⟩
  have hx1 := tplace_bd ht hsa hc
  rw [← e1] at hx1
  have hb := ptAt_b3 hp x1
  have q0 := motr_bd ma.1.1 ma.2.1 (p := ptAt s0 sg 0 x1) (by omega)
  have q1 := motr_bd mb.1.1 mb.2.1 (p := ptAt s1 sg 1 x1) (by omega)
  have q2 := motr_bd mc.1.1 mc.2.1 (p := ptAt s2 sg 2 x1) (by omega)
  refine ⟨⟨hp, ma, mb, mc, by omega⟩, fun x2 e2 x3 e3 x4 e4 => ⟨ht, fun x5 e5 x6 e6 => ?_⟩⟩
  have q0 : -2199023255552 ≤ x2 ∧ x2 ≤ 2199023255554 := by rw [e2]; exact q0
  have q1 : -2199023255552 ≤ x3 ∧ x3 ≤ 2199023255554 := by rw [e3]; exact q1
  have q2 : -2199023255552 ≤ x4 ∧ x4 ≤ 2199023255554 := by rw [e4]; exact q2
  rw [← e6] at hq hc e1 e5
  rcases tfind_spec ht hc.2 with ⟨h1, h2⟩ | ⟨j, h1, h2, h3, h4⟩
  · have hx5 : x5 < 0 := by omega
    rw [mtr_no (by omega), mtr_no (by omega), mtr_no (by omega), ← e1, ← e2, ← e3, ← e4] at hq
    have w0 := bsh_bd (d := d0) ma.2.2
    have w1 := bsh_bd (d := d1) mb.2.2
    have w2 := bsh_bd (d := d2) mc.2.2
    have no : ∀ {P : Prop}, decide (x5 < 0) = false → P := fun g => absurd hx5 (of_decide_eq_false g)
    refine ⟨fun _ => ⟨ma.2.2, fun x7 e7 => ⟨by omega, fun x8 e8 => ⟨fun _ => ⟨mb.2.2, fun x9 e9 => ⟨by omega, fun x10 e10 => ⟨fun _ => ⟨mc.2.2, fun x11 e11 => ⟨by omega, fun x12 e12 => ?_⟩⟩, no⟩⟩⟩, no⟩⟩⟩, no⟩
    rw [e8, e10, e12, e7, e9, e11]
    exact hq
  · have hx5 : ¬ x5 < 0 := by omega
    rw [mtr_of h2, mtr_of h2, mtr_of h2, ← e1, ← e2, ← e3, ← e4] at hq
    have hj : x5.toNat = j := by omega
    rw [hj]
    have a := at_bd ht h1
    have hat := at_le ht hc.1 h1 h4
    have yes : ∀ {P : Prop}, decide (x5 < 0) = true → P := fun g => absurd (of_decide_eq_true g) hx5
    have w0 := tsh_bd (mv := ec pk j 3) (w := ec pk j 4) (d := ec pk j 7) ma.2.2 hat
    have w1 := tsh_bd (mv := ec pk j 3) (w := ec pk j 5) (d := ec pk j 8) mb.2.2 hat
    have w2 := tsh_bd (mv := ec pk j 3) (w := ec pk j 6) (d := ec pk j 9) mc.2.2 hat
    have hin : 0 ≤ x5 ∧ x5 < (pk.length : Int) := by omega
    have hx6 : -18014398509481984 ≤ x6 ∧ x6 ≤ 18014398509481984 := by omega
    have a0 : -18014398509481984 ≤ el pk j ∧ el pk j ≤ 18014398509481984 := by
      have : el pk j = ec pk j 0 := rfl
      omega
    refine ⟨yes, fun _ => ⟨hin, ⟨by decide, ma.2.2, hx6, a0⟩, fun x21 f0 => ?_⟩⟩
    have f0 : x21 = tsh bla (ec pk j 3) (ec pk j 4) (ec pk j 7) (ec pk j 0) x6 := f0
    rw [← f0] at w0
    refine ⟨by omega, fun x22 g0 => ⟨yes, fun _ => ⟨hin, ⟨by decide, mb.2.2, hx6, a0⟩, fun x29 f1 => ?_⟩⟩⟩
    have f1 : x29 = tsh blb (ec pk j 3) (ec pk j 5) (ec pk j 8) (ec pk j 0) x6 := f1
    rw [← f1] at w1
    refine ⟨by omega, fun x30 g1 => ⟨yes, fun _ => ⟨hin, ⟨by decide, mc.2.2, hx6, a0⟩, fun x33 f2 => ?_⟩⟩⟩
    have f2 : x33 = tsh blc (ec pk j 3) (ec pk j 6) (ec pk j 9) (ec pk j 0) x6 := f2
    rw [← f2] at w2
    refine ⟨by omega, fun x34 g2 => ?_⟩
    rw [g0, g1, g2, f0, f1, f2]
    exact hq
theorem loopBtwR : ∀ v Q, (LBtwR v).wp Q → hloop CBtwR anBtwR (nthLoop Tryz.f14 0) v Q := by
  intro v Q h
  unfold LBtwR at h
  split at h
  case h_2 => exact h.elim
  rename_i t l u0 s0 s1 s2 sg mk ax tr w0 w1 w2
  split at h
  case h_2 => exact h.elim
  rename_i sta spa aca jea loa hia bla oga sga pta stb spb acb jeb lob hib blb ogb sgb ptb stc spc acc jec loc hic blc ogc sgc ptc
  split at h
  case h_2 => exact h.elim
  rename_i pk ln sa d0 d1 d2
  obtain ⟨⟨hA, hln, hu0, ht0, hl0, e0, e1, e2⟩, hq⟩ := h
  obtain rfl : l = [] := List.eq_nil_of_length_eq_zero hl0
  have hA' := hA
  obtain ⟨hpa, htr, ma, mb, mc, hsa⟩ := hA'
  have hl := okPath_len hpa
  obtain ⟨k0, k1, k2, kk⟩ := okPath_pts hpa
  subst e0 e1 e2
  have bd0 : ∀ u, 0 ≤ u ∧ u ≤ ln → _ := fun u hu => mtr_bd (sa := sa) (d := d0) hl k0 (fun j hj => (kk j hj).1) htr ma hu
  have bd1 : ∀ u, 0 ≤ u ∧ u ≤ ln → _ := fun u hu => mtr_bd (sa := sa) (d := d1) hl k1 (fun j hj => (kk j hj).2.1) htr mb hu
  have bd2 : ∀ u, 0 ≤ u ∧ u ≤ ln → _ := fun u hu => mtr_bd (sa := sa) (d := d2) hl k2 (fun j hj => (kk j hj).2.2) htr mc hu
  have M0e : ∀ u, 0 ≤ u ∧ u ≤ ln → mtr sta oga sga pta bla s0 sg 0 pk sa d0 (clamp ln u) = mtr sta oga sga pta bla s0 sg 0 pk sa d0 u := fun u hu => by rw [clamp_in hu]
  have M1e : ∀ u, 0 ≤ u ∧ u ≤ ln → mtr stb ogb sgb ptb blb s1 sg 1 pk sa d1 (clamp ln u) = mtr stb ogb sgb ptb blb s1 sg 1 pk sa d1 u := fun u hu => by rw [clamp_in hu]
  have M2e : ∀ u, 0 ≤ u ∧ u ≤ ln → mtr stc ogc sgc ptc blc s2 sg 2 pk sa d2 (clamp ln u) = mtr stc ogc sgc ptc blc s2 sg 2 pk sa d2 u := fun u hu => by rw [clamp_in hu]
  obtain ⟨v0, rfl⟩ : ∃ v0 : Int, u0 = v0 + 1 := ⟨u0 - 1, by omega⟩
  rw [show v0 + 1 - 1 = v0 by omega] at *
  generalize hM0 : mtr sta oga sga pta bla s0 sg 0 pk sa d0 = M0 at *
  generalize hM1 : mtr stb ogb sgb ptb blb s1 sg 1 pk sa d1 = M1 at *
  generalize hM2 : mtr stc ogc sgc ptc blc s2 sg 2 pk sa d2 = M2 at *
  refine hloop_rec (σ := Nat)
    (fun n => ([.ce (.int .i64 t), .ce (.ptr 1000005 0), .ce (.ptr 1000006 0), .ce (.ptr 1000007 0), .ce (.sl false [4, 4, 4] (plN M0 M1 M2 v0 n)), .ce (.lit true), .ce (.ptr 1000012 0), .ce (.int .i64 (v0 + (n : Int) + 1))],
      [[.int .i64 s0, .int .i64 s1, .int .i64 s2, .sl false [4, 4, 4, 4, 4, 4, 4] sg, .sl false [4, 4, 4] mk], [.int .i64 sta, .int .i64 spa, .int .i64 aca, .int .i64 jea, .int .i64 loa, .int .i64 hia, .int .i64 bla, .int .i64 oga, .int .i64 sga, .sl false [4] pta, .int .i64 stb, .int .i64 spb, .int .i64 acb, .int .i64 jeb, .int .i64 lob, .int .i64 hib, .int .i64 blb, .int .i64 ogb, .int .i64 sgb, .sl false [4] ptb, .int .i64 stc, .int .i64 spc, .int .i64 acc, .int .i64 jec, .int .i64 loc, .int .i64 hic, .int .i64 blc, .int .i64 ogc, .int .i64 sgc, .sl false [4] ptc], [.sl false [4, 4, 4, 4, 4, 4, 4, 4, 4, 4] pk, .int .i64 ln, .int .i64 sa, .int .i64 d0, .int .i64 d1, .int .i64 d2], [.int .i64 (M0 (v0 + (n : Int))), .int .i64 (M1 (v0 + (n : Int))), .int .i64 (M2 (v0 + (n : Int)))]]))
    (fun n => (t - v0).toNat - n) (fun n => n ≤ (t - v0).toNat) ?_ 0 (Nat.zero_le _) |> fun x => (by simpa [plN] using x)
  intro n hn K hK hx _
  have hlen := plN_len M0 M1 M2 v0 n
  refine byVB (vbBtwR s0 s1 s2 t (v0 + (n : Int) + 1) ln sa d0 d1 d2 (M0 (v0 + (n : Int))) (M1 (v0 + (n : Int))) (M2 (v0 + (n : Int))) sg mk pk (plN M0 M1 M2 v0 n) sta spa aca jea loa hia bla oga sga stb spb acb jeb lob hib blb ogb sgb stc spc acc jec loc hic blc ogc sgc pta ptb ptc K) ⟨fun g => ?_, fun g => ?_⟩
  · have g := of_decide_eq_true g
    have hu : 0 ≤ v0 + (n : Int) ∧ v0 + (n : Int) ≤ ln := by omega
    have hu1 : 0 ≤ v0 + (n : Int) + 1 ∧ v0 + (n : Int) + 1 ≤ ln := by omega
    have a0 := bd0 _ hu
    have a1 := bd1 _ hu
    have a2 := bd2 _ hu
    have c0 := bd0 _ hu1
    have c1 := bd1 _ hu1
    have c2 := bd2 _ hu1
    have fin := hK (n + 1) (by omega) (by omega)
    unfold plN plAt at fin
    rw [show v0 + ((n + 1 : Nat) : Int) = v0 + (n : Int) + 1 by omega, show v0 + (n : Int) + 1 - 1 = v0 + (n : Int) by omega, ← List.append_assoc, ← List.append_assoc] at fin
    refine ⟨hA, fun x2 e2 x3 e3 x4 e4 => ?_⟩
    rw [hM0, M0e _ hu1] at e2
    rw [hM1, M1e _ hu1] at e3
    rw [hM2, M2e _ hu1] at e4
    rw [← e2] at fin c0
    rw [← e3] at fin c1
    rw [← e4] at fin c2
    clear hK hx hq bd0 bd1 bd2 M0e M1e M2e hA
    generalize M0 (v0 + (n : Int)) = w0 at *
    generalize M1 (v0 + (n : Int)) = w1 at *
    generalize M2 (v0 + (n : Int)) = w2 at *
    generalize plN M0 M1 M2 v0 n = l at *
    refine ⟨fun g0 => ⟨by omega, ?_⟩, fun g0 => ?_⟩
    · rintro _ rfl
      rw [pl1_t g0] at fin
      refine ⟨⟨by first | omega | (simp only [List.length_append, List.length_cons, List.length_nil]; omega), by unfold maxLen; first | omega | (simp only [List.length_append, List.length_cons, List.length_nil]; omega)⟩, fun g1 => ⟨by omega, ?_⟩, fun g1 => ⟨fun g2 => ⟨by omega, ?_⟩, fun g2 => ?_⟩⟩
      · rintro _ rfl
        rw [pl1_t g1] at fin
        refine ⟨⟨by first | omega | (simp only [List.length_append, List.length_cons, List.length_nil]; omega), by unfold maxLen; first | omega | (simp only [List.length_append, List.length_cons, List.length_nil]; omega)⟩, fun g2 => ⟨by omega, ?_⟩, fun g2 => ?_⟩
        · rintro _ rfl
          rw [pl1_t g2] at fin
          exact ⟨⟨by first | omega | (simp only [List.length_append, List.length_cons, List.length_nil]; omega), by unfold maxLen; first | omega | (simp only [List.length_append, List.length_cons, List.length_nil]; omega)⟩, ⟨by omega, fun y e => (by rw [e]; exact fin)⟩⟩
        · rw [pl1_f g2, List.append_nil] at fin
          exact ⟨by omega, fun y e => (by rw [e]; exact fin)⟩
      · rintro _ rfl
        rw [pl1_f g1, List.append_nil, pl1_t g2] at fin
        exact ⟨⟨by first | omega | (simp only [List.length_append, List.length_cons, List.length_nil]; omega), by unfold maxLen; first | omega | (simp only [List.length_append, List.length_cons, List.length_nil]; omega)⟩, ⟨by omega, fun y e => (by rw [e]; exact fin)⟩⟩
      · rw [pl1_f g1, List.append_nil, pl1_f g2, List.append_nil] at fin
        exact ⟨by omega, fun y e => (by rw [e]; exact fin)⟩
    · rw [pl1_f g0, List.append_nil] at fin
      refine ⟨fun g1 => ⟨by omega, ?_⟩, fun g1 => ⟨fun g2 => ⟨by omega, ?_⟩, fun g2 => ?_⟩⟩
      · rintro _ rfl
        rw [pl1_t g1] at fin
        refine ⟨⟨by first | omega | (simp only [List.length_append, List.length_cons, List.length_nil]; omega), by unfold maxLen; first | omega | (simp only [List.length_append, List.length_cons, List.length_nil]; omega)⟩, fun g2 => ⟨by omega, ?_⟩, fun g2 => ?_⟩
        · rintro _ rfl
          rw [pl1_t g2] at fin
          exact ⟨⟨by first | omega | (simp only [List.length_append, List.length_cons, List.length_nil]; omega), by unfold maxLen; first | omega | (simp only [List.length_append, List.length_cons, List.length_nil]; omega)⟩, ⟨by omega, fun y e => (by rw [e]; exact fin)⟩⟩
        · rw [pl1_f g2, List.append_nil] at fin
          exact ⟨by omega, fun y e => (by rw [e]; exact fin)⟩
      · rintro _ rfl
        rw [pl1_f g1, List.append_nil, pl1_t g2] at fin
        exact ⟨⟨by first | omega | (simp only [List.length_append, List.length_cons, List.length_nil]; omega), by unfold maxLen; first | omega | (simp only [List.length_append, List.length_cons, List.length_nil]; omega)⟩, ⟨by omega, fun y e => (by rw [e]; exact fin)⟩⟩
      · rw [pl1_f g1, List.append_nil, pl1_f g2, List.append_nil] at fin
        exact ⟨by omega, fun y e => (by rw [e]; exact fin)⟩
  · have g := of_decide_eq_false g
    have := hx 0 _ (hq (plN M0 M1 M2 v0 n, M0 (v0 + (n : Int)), M1 (v0 + (n : Int)), M2 (v0 + (n : Int))) (by rw [show n = (t - v0).toNat by omega]))
    exact this
set_option maxHeartbeats 400000 in
set_option maxRecDepth 100000 in
theorem sBtwR : Sound Tryz.prog 14 SBtwR := by
  refine sound_of (C := CBtwR) tabBtwR Tryz.func14 (by kernel_rfl) (by decide +kernel) (by kernel_rfl) rfl ⟨sMotorsR, trivial⟩ (loopsK [nthLoop Tryz.f14 0] [] (by kernel_rfl) (by kernel_rfl) ⟨loopOK_of (an := anBtwR) (S := LBtwR) (by kernel_rfl) loopBtwR, trivial⟩ trivial) ?_
  intro hargs pars R h
  unfold SBtwR at h
  split at h
  case h_2 => exfalso; exact h
  rename_i s0 s1 s2 sg mk ax pk ln sa d0 d1 d2 f t
  split at h
  case h_2 => exact h.elim
  rename_i sta spa aca jea loa hia bla oga sga pta stb spb acb jeb lob hib blb ogb sgb ptb stc spc acc jec loc hic blc ogc sgc ptc
  obtain ⟨⟨hA, hln⟩, _, hq⟩ := h
  have h0 := hA.2.1.2.1.1
  refine byVC (vcBtwR s0 s1 s2 f t ln sa d0 d1 d2 sg mk pk sta spa aca jea loa hia bla oga sga stb spb acb jeb lob hib blb ogb sgb stc spc acc jec loc hic blc ogc sgc pta ptb ptc R) ?_
  rintro _ rfl x2 e2 _ rfl x4 e4
  have c2 : clamp ln f = x2 := by unfold clamp; omega
  have c4 : clamp ln t = x4 := by unfold clamp; omega
  rw [c2, c4] at hq
  have hu : 0 ≤ x2 ∧ x2 ≤ ln := by omega
  have ci := clamp_in hu
  refine ⟨hA, fun x5 e5 x6 e6 x7 e7 => ⟨by omega, fun x8 e8 => ?_⟩⟩
  have e8' : x8 - 1 = x2 := by omega
  rw [e8']
  rw [ci] at e5 e6 e7
  exact ⟨⟨hA, hln, by omega, by omega, rfl, e5, e6, e7⟩, fun x hx => hq _ hx⟩
set_option maxHeartbeats 400000 in
set_option maxRecDepth 100000 in
theorem sPBtw : Sound Tryz.prog 3 SPMot3 := by
  refine sound_of (C := CPBtw) tabPBtw Tryz.func3 (by kernel_rfl) (by decide +kernel) (by kernel_rfl) rfl ⟨sAw30, sRun30, sMod, sBtw, sBtwR, sSameP, trivial⟩ (loopsAll (by kernel_rfl)) ?_
  intro hargs pars R h
  unfold SPMot3 at h
  split at h
  case h_2 => exfalso; exact h
  rename_i l ax ds f t a b
  obtain ⟨⟨hl, hax⟩, hq⟩ := h
  refine byVC (vcPBtw l ax ds f t a b R) ⟨trivial, ⟨true, rfl⟩, fun w ew => ⟨fun g => (by rw [ew] at g; cases g), fun _ => ⟨⟨hl, hax⟩, okRun_ex, fun x hx => ?_⟩⟩⟩
  have hln := okRun_ln hx
  have h0 := okRun_ln0 hx
  have hp := okRun_pre hx
  have hp2 : okPath x.s0 x.s1 x.s2 x.sg x.mks ∧ okTrk x.pk x.ln ∧ okMA x.a.st x.a.og x.a.sg x.a.pit x.a.bl ∧ okMA x.b.st x.b.og x.b.sg x.b.pit x.b.bl ∧ okMA x.c.st x.c.og x.c.sg x.c.pit x.c.bl ∧ (0 ≤ x.f ∧ x.f ≤ 18014398509481984) :=
    ⟨hx.1, hp.2.2.1, hp.2.2.2.1, hp.2.2.2.2.1, hp.2.2.2.2.2.1, hp.2.2.2.2.2.2⟩
  have le : ∀ (u v : Int) (y : List (List Int)), y = plN x.M0 x.M1 x.M2 (clamp x.ln u) (clamp x.ln v - clamp x.ln u).toNat → y.length ≤ 9223372036854775807 := fun u v y e => by
    have c1 := clamp_bd (v := u) h0
    have c2 := clamp_bd (v := v) h0
    have := plN_len x.M0 x.M1 x.M2 (clamp x.ln u) (clamp x.ln v - clamp x.ln u).toNat
    rw [← e] at this
    omega
  have no : ∀ {b : Bool} {P : Prop}, b = true → (!b) = true → P := fun e g => by rw [e] at g; cases g
  refine ⟨by omega, fun x3 e3 => ⟨by omega, fun x4 e4 => ⟨by omega, fun x5 e5 => ⟨by omega, fun x6 e6 => ?_⟩⟩⟩⟩
  refine ⟨⟨hp, hln⟩, ⟨_, rfl⟩, fun y1 f1 => ⟨⟨hp2, hln⟩, ⟨_, rfl⟩, fun y2 f2 => ⟨⟨by rw [f1, f2], le a b y1 f1⟩, fun x9 e9 => ⟨no e9, fun _ => ?_⟩⟩⟩⟩
  refine ⟨⟨hp, hln⟩, ⟨_, rfl⟩, fun y1 f1 => ⟨⟨hp2, hln⟩, ⟨_, rfl⟩, fun y2 f2 => ⟨⟨by rw [f1, f2], le x4 x6 y1 f1⟩, fun x9 e9 => ⟨no e9, fun _ => ?_⟩⟩⟩⟩
  refine ⟨⟨hp, hln⟩, ⟨_, rfl⟩, fun y1 f1 => ⟨⟨hp2, hln⟩, ⟨_, rfl⟩, fun y2 f2 => ⟨⟨by rw [f1, f2], le 0 x.ln y1 f1⟩, fun x9 e9 => ⟨no e9, fun _ => hq⟩⟩⟩⟩
end Go.Proofs.YtneingpnkdeooaaGreat
