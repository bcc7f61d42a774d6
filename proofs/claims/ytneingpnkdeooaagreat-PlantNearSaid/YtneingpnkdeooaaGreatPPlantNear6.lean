/-
  Part 6 of the texts that the law needs, merged: a value-level calculus of the code (HL), the contracts of the functions, and their proofs.
  Conditions: none.
-/
import Derived.Test.YtneingpnkdeooaaGreatPPlantNear5
set_option maxRecDepth 100000
set_option linter.unusedVariables false
set_option linter.unusedSimpArgs false
namespace U
open Go
def endp (pk : List (List Int)) (j : Nat) : Int := ec pk j 0 + ec pk j 1
def okTrk (pk : List (List Int)) (ln : Int) : Prop :=
  pk.length ≤ 4194304 ∧ (0 ≤ ln ∧ ln ≤ 18014398509481984) ∧ (pk.length = 0 → ln = 0) ∧ (0 < pk.length → ec pk 0 0 = 0 ∧ endp pk (pk.length - 1) = ln) ∧
  (∀ j, j + 1 < pk.length → ec pk (j + 1) 0 = endp pk j) ∧ ∀ j, j < pk.length → 1 ≤ ec pk j 1 ∧ (0 ≤ ec pk j 2 ∧ ec pk j 2 ≤ 18014398509481984) ∧ (-1 ≤ ec pk j 3 ∧ ec pk j 3 ≤ 1)
def tpcA : List (List Int) → Int → Int → Int
  | [], _, _ => -1
  | r :: l, i, u => if u ≤ r.getD 0 0 + r.getD 1 0 then i else tpcA l (i + 1) u
def tfind (pk : List (List Int)) (u : Int) : Int := tpcA pk 0 u
def tplace (pk : List (List Int)) (sa u : Int) : Int :=
  if tfind pk u < 0 then sa else ec pk (tfind pk u).toNat 2 + ec pk (tfind pk u).toNat 3 * (u - ec pk (tfind pk u).toNat 0)
def bsh (bl d : Int) : Int := if d = -1 then -bl else 0
def sel3 (k a b c : Int) : Int := if k = 0 then a else if k = 1 then b else c
def tsh (bl mv w d at_ u : Int) : Int := if mv ≠ 0 ∨ w = d then bsh bl d else if d = -1 then -(min (u - at_) bl) else min (u - at_) bl - bl
def tmot (st og sg : Int) (pt : List (List Int)) (bl pos : Int) (pk : List (List Int)) (d u : Int) (c : Nat) : Int :=
  mot st og sg pt pos + (if tfind pk u < 0 then bsh bl d else tsh bl (ec pk (tfind pk u).toNat 3) (ec pk (tfind pk u).toNat (4 + c)) (ec pk (tfind pk u).toNat (7 + c)) (ec pk (tfind pk u).toNat 0) u)
def okMA (st og sg : Int) (pit : List (List Int)) (bl : Int) : Prop := (0 < st ∧ st ≤ 16777216) ∧ okC og sg pit ∧ (0 ≤ bl ∧ bl ≤ 4096)
end U
namespace Go.Proofs.YtneingpnkdeooaaGreat
open Go Go.HL U
def SClamp (hargs : List HV) (pars : List (List HC)) : SR :=
  match hargs, pars with
  | [.ce (.int .i64 v), .ce (.int .i64 n)], [] => .det (0 ≤ n) ⟨.ce (.int .i64 (clamp n v)), false, [], []⟩
  | _, _ => .fail
noncomputable def CClamp : Ctx := ⟨Tryz.prog, gam [], Tryz.f42.ntmps, [], []⟩
theorem vcClamp (v n : Int) (Q : Res → Prop) : (nfun true CClamp Tryz.f42 (bodyOf Tryz.f42) [.ce (.int .i64 v), .ce (.int .i64 n)] [] Q) =
    (∀ (x1 : Int), x1 = min v n → ∀ (x2 : Int), x2 = max (0 : Int) x1 → Q ⟨.ce (.int .i64 x2), false, [], []⟩) := by kernel_rfl
def SAt (hargs : List HV) (pars : List (List HC)) : SR :=
  match hargs, pars with
  | [.agg [.int .i64 s0, .int .i64 s1, .int .i64 s2, .sl false [4, 4, 4, 4, 4, 4, 4] sg, .sl false [4, 4, 4] mk], .ce (.int .i64 p)], [] => .det (okLen sg ∧ okPts s0 s1 s2 sg ∧ p ≤ 4611686018427387904) ⟨.agg [.int .i64 (ptAt s0 sg 0 p), .int .i64 (ptAt s1 sg 1 p), .int .i64 (ptAt s2 sg 2 p)], false, [], []⟩
  | _, _ => .fail
def tabAt : List (FuncId × HL.Spec) := [(49, SPFind), (50, SMulDiv)]
noncomputable def CAt : Ctx := ⟨Tryz.prog, gam tabAt, Tryz.f23.ntmps, [(4000009, unrT [1000002, 1000004, 1000007, 1000008], fun _ => .fail)], []⟩
theorem vcAt (s0 s1 s2 p : Int) (sg mk : List (List Int)) (Q : Res → Prop) : (nfun true CAt Tryz.f23 (bodyOf Tryz.f23) [.agg [.int .i64 s0, .int .i64 s1, .int .i64 s2, .sl false [4, 4, 4, 4, 4, 4, 4] sg, .sl false [4, 4, 4] mk], .ce (.int .i64 p)] [] Q) =
    ((okLen sg ∧ p ≤ 4611686018427387904) ∧ (∃ (x : Int × Int), x = pfind sg p) ∧ ∀ (x : Int × Int), x = pfind sg p → (decide (x.1 < 0) = true → Q ⟨.agg [.int .i64 s0, .int .i64 s1, .int .i64 s2], false, [], []⟩) ∧ (decide (x.1 < 0) = false → (decide (x.1 > 0) = true → (-9223372036854775808 ≤ x.1 - 1 ∧ x.1 - 1 ≤ 9223372036854775807) ∧ ∀ (x2 : Int), x2 = x.1 - 1 → (0 ≤ x2 ∧ x2 < (List.length sg : Int)) ∧ (0 ≤ x.1 ∧ x.1 < (List.length sg : Int)) ∧ (-9223372036854775808 ≤ el sg x.1.toNat - el sg x2.toNat ∧ el sg x.1.toNat - el sg x2.toNat ≤ 9223372036854775807) ∧ ∀ (x3 : Int), x3 = el sg x.1.toNat - el sg x2.toNat → ((-9223372036854775808 ≤ x3 ∧ x3 ≤ 9223372036854775807) ∧ (-9223372036854775808 ≤ x.2 ∧ x.2 ≤ 9223372036854775807) ∧ (0 < ec sg x.1.toNat 3 ∧ ec sg x.1.toNat 3 ≤ 9223372036854775807) ∧ ((-4611686018427387904 : Int) ≤ x3 * x.2 ∧ x3 * x.2 ≤ 4611686018427387904) ∧ (0 : Int) ≤ (2 : Int) ∧
    (2 : Int) ≤ (2 : Int)) ∧ ∀ (x4 : Int), x4 = mdv (x3 * x.2) (ec sg x.1.toNat 3) (2 : Int) → ∀ (x5 : Bool), x5 = true → (-9223372036854775808 ≤ el sg x2.toNat + x4 ∧ el sg x2.toNat + x4 ≤ 9223372036854775807) ∧ ∀ (x6 : Int), x6 = el sg x2.toNat + x4 → (-9223372036854775808 ≤ ec sg x.1.toNat 1 - ec sg x2.toNat 1 ∧ ec sg x.1.toNat 1 - ec sg x2.toNat 1 ≤ 9223372036854775807) ∧ ∀ (x7 : Int), x7 = ec sg x.1.toNat 1 - ec sg x2.toNat 1 → ((-9223372036854775808 ≤ x7 ∧ x7 ≤ 9223372036854775807) ∧ (-9223372036854775808 ≤ x.2 ∧ x.2 ≤ 9223372036854775807) ∧ (0 < ec sg x.1.toNat 3 ∧ ec sg x.1.toNat 3 ≤ 9223372036854775807) ∧ ((-4611686018427387904 : Int) ≤ x7 * x.2 ∧ x7 * x.2 ≤ 4611686018427387904) ∧ (0 : Int) ≤ (2 : Int) ∧ (2 : Int) ≤ (2 : Int)) ∧ ∀ (x8 : Int), x8 = mdv (x7 * x.2) (ec sg x.1.toNat 3) (2 : Int) → ∀ (x9 : Bool), x9 = true → (-9223372036854775808 ≤ ec sg x2.toNat 1 + x8 ∧ ec sg x2.toNat 1 + x8 ≤ 9223372036854775807) ∧
    ∀ (x10 : Int), x10 = ec sg x2.toNat 1 + x8 → (-9223372036854775808 ≤ ec sg x.1.toNat 2 - ec sg x2.toNat 2 ∧ ec sg x.1.toNat 2 - ec sg x2.toNat 2 ≤ 9223372036854775807) ∧ ∀ (x11 : Int), x11 = ec sg x.1.toNat 2 - ec sg x2.toNat 2 → ((-9223372036854775808 ≤ x11 ∧ x11 ≤ 9223372036854775807) ∧ (-9223372036854775808 ≤ x.2 ∧ x.2 ≤ 9223372036854775807) ∧ (0 < ec sg x.1.toNat 3 ∧ ec sg x.1.toNat 3 ≤ 9223372036854775807) ∧ ((-4611686018427387904 : Int) ≤ x11 * x.2 ∧ x11 * x.2 ≤ 4611686018427387904) ∧ (0 : Int) ≤ (2 : Int) ∧ (2 : Int) ≤ (2 : Int)) ∧ ∀ (x12 : Int), x12 = mdv (x11 * x.2) (ec sg x.1.toNat 3) (2 : Int) → ∀ (x13 : Bool), x13 = true → (-9223372036854775808 ≤ ec sg x2.toNat 2 + x12 ∧ ec sg x2.toNat 2 + x12 ≤ 9223372036854775807) ∧ ∀ (x14 : Int), x14 = ec sg x2.toNat 2 + x12 → Q ⟨.agg [.int .i64 x6, .int .i64 x10, .int .i64 x14], false, [], []⟩) ∧ (decide (x.1 > 0) = false → (0 ≤ x.1 ∧ x.1 < (List.length sg : Int)) ∧
    (-9223372036854775808 ≤ el sg x.1.toNat - s0 ∧ el sg x.1.toNat - s0 ≤ 9223372036854775807) ∧ ∀ (x15 : Int), x15 = el sg x.1.toNat - s0 → ((-9223372036854775808 ≤ x15 ∧ x15 ≤ 9223372036854775807) ∧ (-9223372036854775808 ≤ x.2 ∧ x.2 ≤ 9223372036854775807) ∧ (0 < ec sg x.1.toNat 3 ∧ ec sg x.1.toNat 3 ≤ 9223372036854775807) ∧ ((-4611686018427387904 : Int) ≤ x15 * x.2 ∧ x15 * x.2 ≤ 4611686018427387904) ∧ (0 : Int) ≤ (2 : Int) ∧ (2 : Int) ≤ (2 : Int)) ∧ ∀ (x16 : Int), x16 = mdv (x15 * x.2) (ec sg x.1.toNat 3) (2 : Int) → ∀ (x17 : Bool), x17 = true → (-9223372036854775808 ≤ s0 + x16 ∧ s0 + x16 ≤ 9223372036854775807) ∧ ∀ (x18 : Int), x18 = s0 + x16 → (-9223372036854775808 ≤ ec sg x.1.toNat 1 - s1 ∧ ec sg x.1.toNat 1 - s1 ≤ 9223372036854775807) ∧ ∀ (x19 : Int), x19 = ec sg x.1.toNat 1 - s1 → ((-9223372036854775808 ≤ x19 ∧ x19 ≤ 9223372036854775807) ∧ (-9223372036854775808 ≤ x.2 ∧ x.2 ≤ 9223372036854775807) ∧
    (0 < ec sg x.1.toNat 3 ∧ ec sg x.1.toNat 3 ≤ 9223372036854775807) ∧ ((-4611686018427387904 : Int) ≤ x19 * x.2 ∧ x19 * x.2 ≤ 4611686018427387904) ∧ (0 : Int) ≤ (2 : Int) ∧ (2 : Int) ≤ (2 : Int)) ∧ ∀ (x20 : Int), x20 = mdv (x19 * x.2) (ec sg x.1.toNat 3) (2 : Int) → ∀ (x21 : Bool), x21 = true → (-9223372036854775808 ≤ s1 + x20 ∧ s1 + x20 ≤ 9223372036854775807) ∧ ∀ (x22 : Int), x22 = s1 + x20 → (-9223372036854775808 ≤ ec sg x.1.toNat 2 - s2 ∧ ec sg x.1.toNat 2 - s2 ≤ 9223372036854775807) ∧ ∀ (x23 : Int), x23 = ec sg x.1.toNat 2 - s2 → ((-9223372036854775808 ≤ x23 ∧ x23 ≤ 9223372036854775807) ∧ (-9223372036854775808 ≤ x.2 ∧ x.2 ≤ 9223372036854775807) ∧ (0 < ec sg x.1.toNat 3 ∧ ec sg x.1.toNat 3 ≤ 9223372036854775807) ∧ ((-4611686018427387904 : Int) ≤ x23 * x.2 ∧ x23 * x.2 ≤ 4611686018427387904) ∧ (0 : Int) ≤ (2 : Int) ∧ (2 : Int) ≤ (2 : Int)) ∧ ∀ (x24 : Int), x24 = mdv (x23 * x.2) (ec sg x.1.toNat 3) (2 : Int) →
    ∀ (x25 : Bool), x25 = true → (-9223372036854775808 ≤ s2 + x24 ∧ s2 + x24 ≤ 9223372036854775807) ∧ ∀ (x26 : Int), x26 = s2 + x24 → Q ⟨.agg [.int .i64 x18, .int .i64 x22, .int .i64 x26], false, [], []⟩))) := by kernel_rfl
def STFind (hargs : List HV) (pars : List (List HC)) : SR :=
  match hargs, pars with
  | [.agg [.sl false [4, 4, 4, 4, 4, 4, 4, 4, 4, 4] pk, .int .i64 ln, .int .i64 sa, .int .i64 d0, .int .i64 d1, .int .i64 d2], .ce (.int .i64 u)], [] => .det (okTrk pk ln ∧ 0 ≤ u ∧ u ≤ ln) ⟨.ce (.int .i64 (tfind pk u)), false, [], []⟩
  | _, _ => .fail
def anTF : LAnn := ⟨[1, 2, 4, 5, 6], [6], [1000002], false⟩
def LTF (v : LV) : LR :=
  match v with
  | ([.ce (.int .i64 u), .ce (.ptr 1000002 0), .ce (.int .i64 z), .ce (.int .i64 lo), .ce (.int .i64 hi)], [[.sl false [4, 4, 4, 4, 4, 4, 4, 4, 4, 4] pk, .int .i64 ln, .int .i64 sa, .int .i64 d0, .int .i64 d1, .int .i64 d2]]) =>
    .det (lo = 0 ∧ hi = (pk.length : Int) - 1 ∧ okTrk pk ln ∧ 0 ≤ u ∧ u ≤ ln) (.exit 0) ([.ce (.int .i64 (tfind pk u))], [[.sl false [4, 4, 4, 4, 4, 4, 4, 4, 4, 4] pk, .int .i64 ln, .int .i64 sa, .int .i64 d0, .int .i64 d1, .int .i64 d2]])
  | _ => .fail
noncomputable def CTF : Ctx := ⟨Tryz.prog, gam [], Tryz.f43.ntmps, [(2, anTF, LTF)], []⟩
theorem vbTF (u z lo hi ln sa d0 d1 d2 : Int) (pk : List (List Int)) (K : HEx → LV → Prop) : (nbodyT true CTF anTF (nthLoop Tryz.f43 0) (([.ce (.int .i64 u), .ce (.ptr 1000002 0), .ce (.int .i64 z), .ce (.int .i64 lo), .ce (.int .i64 hi)], [[.sl false [4, 4, 4, 4, 4, 4, 4, 4, 4, 4] pk, .int .i64 ln, .int .i64 sa, .int .i64 d0, .int .i64 d1, .int .i64 d2]])) K) =
    ((decide (lo < hi) = true → (-9223372036854775808 ≤ lo + hi ∧ lo + hi ≤ 9223372036854775807) ∧ ∀ (x1 : Int), x1 = lo + hi → (2 : Int) ≠ (0 : Int) ∧ (-9223372036854775808 ≤ Int.tdiv x1 (2 : Int) ∧ Int.tdiv x1 (2 : Int) ≤ 9223372036854775807) ∧ ∀ (x2 : Int), x2 = Int.tdiv x1 (2 : Int) → (0 ≤ x2 ∧ x2 < (List.length pk : Int)) ∧ (-9223372036854775808 ≤ el pk x2.toNat + ec pk x2.toNat 1 ∧ el pk x2.toNat + ec pk x2.toNat 1 ≤ 9223372036854775807) ∧ ∀ (x3 : Int), x3 = el pk x2.toNat + ec pk x2.toNat 1 → (decide (u ≤ x3) = true → K .normal ([.ce (.int .i64 u), .ce (.ptr 1000002 0), .ce (.int .i64 z), .ce (.int .i64 lo), .ce (.int .i64 x2)], [[.sl false [4, 4, 4, 4, 4, 4, 4, 4, 4, 4] pk, .int .i64 ln, .int .i64 sa, .int .i64 d0, .int .i64 d1, .int .i64 d2]])) ∧ (decide (u ≤ x3) = false → (-9223372036854775808 ≤ x2 + 1 ∧ x2 + 1 ≤ 9223372036854775807) ∧ ∀ (x4 : Int), x4 = x2 + 1 → K .normal ([.ce (.int .i64 u), .ce (.ptr 1000002 0), .ce (.int .i64 z), .ce (.int .i64 x4), .ce (.int .i64 hi)], [[.sl false [4, 4, 4, 4, 4, 4, 4, 4, 4, 4] pk, .int .i64 ln, .int .i64 sa, .int .i64 d0, .int .i64 d1, .int .i64 d2]]))) ∧
    (decide (lo < hi) = false → K (.exit 0) ([.ce (.int .i64 hi)], [[.sl false [4, 4, 4, 4, 4, 4, 4, 4, 4, 4] pk, .int .i64 ln, .int .i64 sa, .int .i64 d0, .int .i64 d1, .int .i64 d2]]))) := by kernel_rfl
theorem vcTF (u ln sa d0 d1 d2 : Int) (pk : List (List Int)) (Q : Res → Prop) : (nfun true CTF Tryz.f43 (bodyOf Tryz.f43) [.agg [.sl false [4, 4, 4, 4, 4, 4, 4, 4, 4, 4] pk, .int .i64 ln, .int .i64 sa, .int .i64 d0, .int .i64 d1, .int .i64 d2], .ce (.int .i64 u)] [] Q) =
    ((-9223372036854775808 ≤ (List.length pk : Int) - (1 : Int) ∧ (List.length pk : Int) - (1 : Int) ≤ 9223372036854775807) ∧ ∀ (x1 : Int), x1 = (List.length pk : Int) - (1 : Int) → ((0 : Int) = (0 : Int) ∧ x1 = (List.length pk : Int) - (1 : Int) ∧ okTrk pk ln ∧ 0 ≤ u ∧ u ≤ ln) ∧ Q ⟨.ce (.int .i64 (tfind pk u)), false, [], []⟩) := by kernel_rfl
def SPlace (hargs : List HV) (pars : List (List HC)) : SR :=
  match hargs, pars with
  | [.agg [.sl false [4, 4, 4, 4, 4, 4, 4, 4, 4, 4] pk, .int .i64 ln, .int .i64 sa, .int .i64 d0, .int .i64 d1, .int .i64 d2], .ce (.int .i64 u)], [] => .det (okTrk pk ln) ⟨.ce (.int .i64 (tplace pk sa (clamp ln u))), false, [], []⟩
  | _, _ => .fail
def tabTF : List (FuncId × HL.Spec) := [(42, SClamp), (43, STFind)]
noncomputable def CPlace : Ctx := ⟨Tryz.prog, gam tabTF, Tryz.f21.ntmps, [], []⟩
theorem vcPlace (u ln sa d0 d1 d2 : Int) (pk : List (List Int)) (Q : Res → Prop) : (nfun true CPlace Tryz.f21 (bodyOf Tryz.f21) [.agg [.sl false [4, 4, 4, 4, 4, 4, 4, 4, 4, 4] pk, .int .i64 ln, .int .i64 sa, .int .i64 d0, .int .i64 d1, .int .i64 d2], .ce (.int .i64 u)] [] Q) =
    (0 ≤ ln ∧ ∀ (x1 : Int), x1 = clamp ln u → (okTrk pk ln ∧ 0 ≤ x1 ∧ x1 ≤ ln) ∧ ∀ (x2 : Int), x2 = tfind pk x1 → (decide (x2 < 0) = true → Q ⟨.ce (.int .i64 sa), false, [], []⟩) ∧ (decide (x2 < 0) = false → (0 ≤ x2 ∧ x2 < (List.length pk : Int)) ∧ ∀ (x3 : Int), x3 = ec pk x2.toNat 2 → (0 ≤ x2 ∧ x2 < (List.length pk : Int)) ∧ ∀ (x4 : Int), x4 = ec pk x2.toNat 3 → (0 ≤ x2 ∧ x2 < (List.length pk : Int)) ∧ ∀ (x5 : Int), x5 = el pk x2.toNat → (-9223372036854775808 ≤ x1 - x5 ∧ x1 - x5 ≤ 9223372036854775807) ∧ ∀ (x6 : Int), x6 = x1 - x5 → (-9223372036854775808 ≤ x4 * x6 ∧ x4 * x6 ≤ 9223372036854775807) ∧ ∀ (x7 : Int), x7 = x4 * x6 → (-9223372036854775808 ≤ x3 + x7 ∧ x3 + x7 ≤ 9223372036854775807) ∧ ∀ (x8 : Int), x8 = x3 + x7 → Q ⟨.ce (.int .i64 x8), false, [], []⟩)) := by kernel_rfl
def SBsh (hargs : List HV) (pars : List (List HC)) : SR :=
  match hargs, pars with
  | [.agg [.int .i64 sta, .int .i64 spa, .int .i64 aca, .int .i64 jea, .int .i64 loa, .int .i64 hia, .int .i64 bla, .int .i64 oga, .int .i64 sga, .sl false [4] pta], .ce (.int .i64 d)], [] => .det (0 ≤ bla ∧ bla ≤ 4096) ⟨.ce (.int .i64 (bsh bla d)), false, [], []⟩
  | _, _ => .fail
noncomputable def CBsh : Ctx := ⟨Tryz.prog, gam [], Tryz.f44.ntmps, [], []⟩
theorem vcBsh (sta spa aca jea loa hia bla oga sga : Int) (pta : List (List Int)) (d : Int) (Q : Res → Prop) : (nfun true CBsh Tryz.f44 (bodyOf Tryz.f44) [.agg [.int .i64 sta, .int .i64 spa, .int .i64 aca, .int .i64 jea, .int .i64 loa, .int .i64 hia, .int .i64 bla, .int .i64 oga, .int .i64 sga, .sl false [4] pta], .ce (.int .i64 d)] [] Q) =
    (((d == (-1 : Int)) = true → (-9223372036854775808 ≤ (0 : Int) - bla ∧ (0 : Int) - bla ≤ 9223372036854775807) ∧ ∀ (x1 : Int), x1 = 0 - bla → Q ⟨.ce (.int .i64 x1), false, [], []⟩) ∧ ((d == (-1 : Int)) = false → Q ⟨.ce (.int .i64 0), false, [], []⟩)) := by kernel_rfl
def STsh (hargs : List HV) (pars : List (List HC)) : SR :=
  match hargs, pars with
  | [.agg [.int .i64 sta, .int .i64 spa, .int .i64 aca, .int .i64 jea, .int .i64 loa, .int .i64 hia, .int .i64 bla, .int .i64 oga, .int .i64 sga, .sl false [4] pta], .agg [.int .i64 q0, .int .i64 q1, .int .i64 q2, .int .i64 q3, .int .i64 q4, .int .i64 q5, .int .i64 q6, .int .i64 q7, .int .i64 q8, .int .i64 q9], .ce (.int .i64 k), .ce (.int .i64 u)], [] =>
    .det ((0 ≤ k ∧ k ≤ 2) ∧ (0 ≤ bla ∧ bla ≤ 4096) ∧ (-18014398509481984 ≤ u ∧ u ≤ 18014398509481984) ∧ (-18014398509481984 ≤ q0 ∧ q0 ≤ 18014398509481984)) ⟨.ce (.int .i64 (tsh bla q3 (sel3 k q4 q5 q6) (sel3 k q7 q8 q9) q0 u)), false, [], []⟩
  | _, _ => .fail
def tabTsh : List (FuncId × HL.Spec) := [(44, SBsh)]
noncomputable def CTsh : Ctx := ⟨Tryz.prog, gam tabTsh, Tryz.f45.ntmps, [], [spl 1 2 6 0]⟩
theorem vcTsh (sta spa aca jea loa hia bla oga sga : Int) (pta : List (List Int)) (q0 q1 q2 q3 q4 q5 q6 q7 q8 q9 k u : Int) (Q : Res → Prop) : (nfun true CTsh Tryz.f45 (bodyOf Tryz.f45) [.agg [.int .i64 sta, .int .i64 spa, .int .i64 aca, .int .i64 jea, .int .i64 loa, .int .i64 hia, .int .i64 bla, .int .i64 oga, .int .i64 sga, .sl false [4] pta], .agg [.int .i64 q0, .int .i64 q1, .int .i64 q2, .int .i64 q3, .int .i64 q4, .int .i64 q5, .int .i64 q6, .int .i64 q7, .int .i64 q8, .int .i64 q9], .ce (.int .i64 k), .ce (.int .i64 u)] [] Q) =
    ((k = 0 → ((q3 != 0) = true → (0 ≤ bla ∧ bla ≤ 4096) ∧ ∀ (x1 : Int), x1 = bsh bla q7 → Q ⟨.ce (.int .i64 x1), false, [], []⟩) ∧ ((q3 != 0) = false → ((q4 == q7) = true → (0 ≤ bla ∧ bla ≤ 4096) ∧ ∀ (x2 : Int), x2 = bsh bla q7 → Q ⟨.ce (.int .i64 x2), false, [], []⟩) ∧ ((q4 == q7) = false → (-9223372036854775808 ≤ u - q0 ∧ u - q0 ≤ 9223372036854775807) ∧ ∀ (x3 : Int), x3 = u - q0 → ∀ (x4 : Int), x4 = min x3 bla → ((q7 == (-1 : Int)) = true → (-9223372036854775808 ≤ (0 : Int) - x4 ∧ (0 : Int) - x4 ≤ 9223372036854775807) ∧ ∀ (x5 : Int), x5 = 0 - x4 → Q ⟨.ce (.int .i64 x5), false, [], []⟩) ∧ ((q7 == (-1 : Int)) = false → (-9223372036854775808 ≤ x4 - bla ∧ x4 - bla ≤ 9223372036854775807) ∧ ∀ (x6 : Int), x6 = x4 - bla → Q ⟨.ce (.int .i64 x6), false, [], []⟩)))) ∧ (k ≠ 0 → (k = 1 → ((q3 != 0) = true → (0 ≤ bla ∧ bla ≤ 4096) ∧ ∀ (x7 : Int), x7 = bsh bla q8 → Q ⟨.ce (.int .i64 x7), false, [], []⟩) ∧
    ((q3 != 0) = false → ((q5 == q8) = true → (0 ≤ bla ∧ bla ≤ 4096) ∧ ∀ (x8 : Int), x8 = bsh bla q8 → Q ⟨.ce (.int .i64 x8), false, [], []⟩) ∧ ((q5 == q8) = false → (-9223372036854775808 ≤ u - q0 ∧ u - q0 ≤ 9223372036854775807) ∧ ∀ (x9 : Int), x9 = u - q0 → ∀ (x10 : Int), x10 = min x9 bla → ((q8 == (-1 : Int)) = true → (-9223372036854775808 ≤ (0 : Int) - x10 ∧ (0 : Int) - x10 ≤ 9223372036854775807) ∧ ∀ (x11 : Int), x11 = 0 - x10 → Q ⟨.ce (.int .i64 x11), false, [], []⟩) ∧ ((q8 == (-1 : Int)) = false → (-9223372036854775808 ≤ x10 - bla ∧ x10 - bla ≤ 9223372036854775807) ∧ ∀ (x12 : Int), x12 = x10 - bla → Q ⟨.ce (.int .i64 x12), false, [], []⟩)))) ∧ (k ≠ 1 → (k = 2 → ((q3 != 0) = true → (0 ≤ bla ∧ bla ≤ 4096) ∧ ∀ (x13 : Int), x13 = bsh bla q9 → Q ⟨.ce (.int .i64 x13), false, [], []⟩) ∧ ((q3 != 0) = false → ((q6 == q9) = true → (0 ≤ bla ∧ bla ≤ 4096) ∧ ∀ (x14 : Int), x14 = bsh bla q9 → Q ⟨.ce (.int .i64 x14), false, [], []⟩) ∧
    ((q6 == q9) = false → (-9223372036854775808 ≤ u - q0 ∧ u - q0 ≤ 9223372036854775807) ∧ ∀ (x15 : Int), x15 = u - q0 → ∀ (x16 : Int), x16 = min x15 bla → ((q9 == (-1 : Int)) = true → (-9223372036854775808 ≤ (0 : Int) - x16 ∧ (0 : Int) - x16 ≤ 9223372036854775807) ∧ ∀ (x17 : Int), x17 = 0 - x16 → Q ⟨.ce (.int .i64 x17), false, [], []⟩) ∧ ((q9 == (-1 : Int)) = false → (-9223372036854775808 ≤ x16 - bla ∧ x16 - bla ≤ 9223372036854775807) ∧ ∀ (x18 : Int), x18 = x16 - bla → Q ⟨.ce (.int .i64 x18), false, [], []⟩)))) ∧ (k ≠ 2 → False)))) := by kernel_rfl
def SMotors (hargs : List HV) (pars : List (List HC)) : SR :=
  match hargs, pars with
  | [.agg [.int .i64 s0, .int .i64 s1, .int .i64 s2, .sl false [4, 4, 4, 4, 4, 4, 4] sg, .sl false [4, 4, 4] mk], .agg ax, .agg [.sl false [4, 4, 4, 4, 4, 4, 4, 4, 4, 4] pk, .int .i64 ln, .int .i64 sa, .int .i64 d0, .int .i64 d1, .int .i64 d2], .ce (.int .i64 u)], [] =>
    match ax with
    | [.int .i64 sta, .int .i64 spa, .int .i64 aca, .int .i64 jea, .int .i64 loa, .int .i64 hia, .int .i64 bla, .int .i64 oga, .int .i64 sga, .sl false [4] pta, .int .i64 stb, .int .i64 spb, .int .i64 acb, .int .i64 jeb, .int .i64 lob, .int .i64 hib, .int .i64 blb, .int .i64 ogb, .int .i64 sgb, .sl false [4] ptb, .int .i64 stc, .int .i64 spc, .int .i64 acc, .int .i64 jec, .int .i64 loc, .int .i64 hic, .int .i64 blc, .int .i64 ogc, .int .i64 sgc, .sl false [4] ptc] =>
      .det (okLen sg ∧ okPts s0 s1 s2 sg ∧ okTrk pk ln ∧ okMA sta oga sga pta bla ∧ okMA stb ogb sgb ptb blb ∧ okMA stc ogc sgc ptc blc ∧ (0 ≤ sa ∧ sa ≤ 18014398509481984))
        ⟨.agg [.int .i64 (tmot sta oga sga pta bla (ptAt s0 sg 0 (tplace pk sa (clamp ln u))) pk d0 (clamp ln u) 0), .int .i64 (tmot stb ogb sgb ptb blb (ptAt s1 sg 1 (tplace pk sa (clamp ln u))) pk d1 (clamp ln u) 1), .int .i64 (tmot stc ogc sgc ptc blc (ptAt s2 sg 2 (tplace pk sa (clamp ln u))) pk d2 (clamp ln u) 2)], false, [], []⟩
    | _ => .fail
  | _, _ => .fail
def tabMotors : List (FuncId × HL.Spec) := [(42, SClamp), (21, SPlace), (23, SAt), (43, STFind), (40, SMotor), (44, SBsh), (45, STsh)]
noncomputable def CMotors : Ctx := ⟨Tryz.prog, gam tabMotors, Tryz.f19.ntmps, [(4000006, unrT [1000004, 1000005, 1000006, 1000008, 1000009, 1000011], fun _ => .fail)], []⟩
theorem vcMotors (s0 s1 s2 u ln sa d0 d1 d2 : Int) (sg mk pk : List (List Int)) (sta spa aca jea loa hia bla oga sga stb spb acb jeb lob hib blb ogb sgb stc spc acc jec loc hic blc ogc sgc : Int) (pta ptb ptc : List (List Int)) (Q : Res → Prop) : (nfun true CMotors Tryz.f19 (bodyOf Tryz.f19) [.agg [.int .i64 s0, .int .i64 s1, .int .i64 s2, .sl false [4, 4, 4, 4, 4, 4, 4] sg, .sl false [4, 4, 4] mk], .agg [.int .i64 sta, .int .i64 spa, .int .i64 aca, .int .i64 jea, .int .i64 loa, .int .i64 hia, .int .i64 bla, .int .i64 oga, .int .i64 sga, .sl false [4] pta, .int .i64 stb, .int .i64 spb, .int .i64 acb, .int .i64 jeb, .int .i64 lob, .int .i64 hib, .int .i64 blb, .int .i64 ogb, .int .i64 sgb, .sl false [4] ptb, .int .i64 stc, .int .i64 spc, .int .i64 acc, .int .i64 jec, .int .i64 loc, .int .i64 hic, .int .i64 blc, .int .i64 ogc, .int .i64 sgc, .sl false [4] ptc], .agg [.sl false [4, 4, 4, 4, 4, 4, 4, 4, 4, 4] pk, .int .i64 ln, .int .i64 sa, .int .i64 d0, .int .i64 d1, .int .i64 d2], .ce (.int .i64 u)] [] Q) =
    (0 ≤ ln ∧ ∀ (x1 : Int), x1 = clamp ln u → okTrk pk ln ∧ ∀ (x2 : Int), x2 = tplace pk sa (clamp ln x1) → (okLen sg ∧ okPts s0 s1 s2 sg ∧ x2 ≤ 4611686018427387904) ∧ ∀ (x3 : Int), x3 = ptAt s0 sg (0 : Nat) x2 → ∀ (x4 : Int), x4 = ptAt s1 sg (1 : Nat) x2 → ∀ (x5 : Int), x5 = ptAt s2 sg (2 : Nat) x2 → (okTrk pk ln ∧ 0 ≤ x1 ∧ x1 ≤ ln) ∧ ∀ (x6 : Int), x6 = tfind pk x1 → ((0 < sta ∧ sta ≤ 16777216) ∧ okC oga sga pta ∧ (-1073741824 : Int) ≤ x3 ∧ x3 ≤ 1073741824) ∧ ∀ (x7 : Int), x7 = mot sta oga sga pta x3 → (decide (x6 < 0) = true → (0 ≤ bla ∧ bla ≤ 4096) ∧ ∀ (x8 : Int), x8 = bsh bla d0 → (-9223372036854775808 ≤ x7 + x8 ∧ x7 + x8 ≤ 9223372036854775807) ∧ ∀ (x9 : Int), x9 = x7 + x8 → ((0 < stb ∧ stb ≤ 16777216) ∧ okC ogb sgb ptb ∧ (-1073741824 : Int) ≤ x4 ∧ x4 ≤ 1073741824) ∧ ∀ (x10 : Int), x10 = mot stb ogb sgb ptb x4 → (decide (x6 < 0) = true → (0 ≤ blb ∧ blb ≤ 4096) ∧ ∀ (x11 : Int), x11 = bsh blb d1 →
    (-9223372036854775808 ≤ x10 + x11 ∧ x10 + x11 ≤ 9223372036854775807) ∧ ∀ (x12 : Int), x12 = x10 + x11 → ((0 < stc ∧ stc ≤ 16777216) ∧ okC ogc sgc ptc ∧ (-1073741824 : Int) ≤ x5 ∧ x5 ≤ 1073741824) ∧ ∀ (x13 : Int), x13 = mot stc ogc sgc ptc x5 → (decide (x6 < 0) = true → (0 ≤ blc ∧ blc ≤ 4096) ∧ ∀ (x14 : Int), x14 = bsh blc d2 → (-9223372036854775808 ≤ x13 + x14 ∧ x13 + x14 ≤ 9223372036854775807) ∧ ∀ (x15 : Int), x15 = x13 + x14 → Q ⟨.agg [.int .i64 x9, .int .i64 x12, .int .i64 x15], false, [], []⟩) ∧ (decide (x6 < 0) = false → (0 ≤ x6 ∧ x6 < (List.length pk : Int)) ∧ (((0 : Int) ≤ (2 : Int) ∧ (2 : Int) ≤ (2 : Int)) ∧ (0 ≤ blc ∧ blc ≤ 4096) ∧ ((-18014398509481984 : Int) ≤ x1 ∧ x1 ≤ 18014398509481984) ∧ (-18014398509481984 : Int) ≤ el pk x6.toNat ∧ el pk x6.toNat ≤ 18014398509481984) ∧ ∀ (x16 : Int), x16 = tsh blc (ec pk x6.toNat 3) (sel3 (2 : Int) (ec pk x6.toNat 4) (ec pk x6.toNat 5) (ec pk x6.toNat 6)) (sel3 (2 : Int) (ec pk x6.toNat 7) (ec pk x6.toNat 8) (ec pk x6.toNat 9)) (el pk x6.toNat) x1 →
    (-9223372036854775808 ≤ x13 + x16 ∧ x13 + x16 ≤ 9223372036854775807) ∧ ∀ (x17 : Int), x17 = x13 + x16 → Q ⟨.agg [.int .i64 x9, .int .i64 x12, .int .i64 x17], false, [], []⟩)) ∧ (decide (x6 < 0) = false → (0 ≤ x6 ∧ x6 < (List.length pk : Int)) ∧ (((0 : Int) ≤ (1 : Int) ∧ (1 : Int) ≤ (2 : Int)) ∧ (0 ≤ blb ∧ blb ≤ 4096) ∧ ((-18014398509481984 : Int) ≤ x1 ∧ x1 ≤ 18014398509481984) ∧ (-18014398509481984 : Int) ≤ el pk x6.toNat ∧ el pk x6.toNat ≤ 18014398509481984) ∧ ∀ (x18 : Int), x18 = tsh blb (ec pk x6.toNat 3) (sel3 (1 : Int) (ec pk x6.toNat 4) (ec pk x6.toNat 5) (ec pk x6.toNat 6)) (sel3 (1 : Int) (ec pk x6.toNat 7) (ec pk x6.toNat 8) (ec pk x6.toNat 9)) (el pk x6.toNat) x1 → (-9223372036854775808 ≤ x10 + x18 ∧ x10 + x18 ≤ 9223372036854775807) ∧ ∀ (x19 : Int), x19 = x10 + x18 → ((0 < stc ∧ stc ≤ 16777216) ∧ okC ogc sgc ptc ∧ (-1073741824 : Int) ≤ x5 ∧ x5 ≤ 1073741824) ∧ ∀ (x20 : Int), x20 = mot stc ogc sgc ptc x5 →
    (decide (x6 < 0) = true → (0 ≤ blc ∧ blc ≤ 4096) ∧ ∀ (x21 : Int), x21 = bsh blc d2 → (-9223372036854775808 ≤ x20 + x21 ∧ x20 + x21 ≤ 9223372036854775807) ∧ ∀ (x22 : Int), x22 = x20 + x21 → Q ⟨.agg [.int .i64 x9, .int .i64 x19, .int .i64 x22], false, [], []⟩) ∧ (decide (x6 < 0) = false → (0 ≤ x6 ∧ x6 < (List.length pk : Int)) ∧ (((0 : Int) ≤ (2 : Int) ∧ (2 : Int) ≤ (2 : Int)) ∧ (0 ≤ blc ∧ blc ≤ 4096) ∧ ((-18014398509481984 : Int) ≤ x1 ∧ x1 ≤ 18014398509481984) ∧ (-18014398509481984 : Int) ≤ el pk x6.toNat ∧ el pk x6.toNat ≤ 18014398509481984) ∧ ∀ (x23 : Int), x23 = tsh blc (ec pk x6.toNat 3) (sel3 (2 : Int) (ec pk x6.toNat 4) (ec pk x6.toNat 5) (ec pk x6.toNat 6)) (sel3 (2 : Int) (ec pk x6.toNat 7) (ec pk x6.toNat 8) (ec pk x6.toNat 9)) (el pk x6.toNat) x1 → (-9223372036854775808 ≤ x20 + x23 ∧ x20 + x23 ≤ 9223372036854775807) ∧ ∀ (x24 : Int), x24 = x20 + x23 → Q ⟨.agg [.int .i64 x9, .int .i64 x19, .int .i64 x24], false, [], []⟩))) ∧
    (decide (x6 < 0) = false → (0 ≤ x6 ∧ x6 < (List.length pk : Int)) ∧ (((0 : Int) ≤ (0 : Int) ∧ (0 : Int) ≤ (2 : Int)) ∧ (0 ≤ bla ∧ bla ≤ 4096) ∧ ((-18014398509481984 : Int) ≤ x1 ∧ x1 ≤ 18014398509481984) ∧ (-18014398509481984 : Int) ≤ el pk x6.toNat ∧ el pk x6.toNat ≤ 18014398509481984) ∧ ∀ (x25 : Int), x25 = tsh bla (ec pk x6.toNat 3) (sel3 (0 : Int) (ec pk x6.toNat 4) (ec pk x6.toNat 5) (ec pk x6.toNat 6)) (sel3 (0 : Int) (ec pk x6.toNat 7) (ec pk x6.toNat 8) (ec pk x6.toNat 9)) (el pk x6.toNat) x1 → (-9223372036854775808 ≤ x7 + x25 ∧ x7 + x25 ≤ 9223372036854775807) ∧ ∀ (x26 : Int), x26 = x7 + x25 → ((0 < stb ∧ stb ≤ 16777216) ∧ okC ogb sgb ptb ∧ (-1073741824 : Int) ≤ x4 ∧ x4 ≤ 1073741824) ∧ ∀ (x27 : Int), x27 = mot stb ogb sgb ptb x4 → (decide (x6 < 0) = true → (0 ≤ blb ∧ blb ≤ 4096) ∧ ∀ (x28 : Int), x28 = bsh blb d1 → (-9223372036854775808 ≤ x27 + x28 ∧ x27 + x28 ≤ 9223372036854775807) ∧
    ∀ (x29 : Int), x29 = x27 + x28 → ((0 < stc ∧ stc ≤ 16777216) ∧ okC ogc sgc ptc ∧ (-1073741824 : Int) ≤ x5 ∧ x5 ≤ 1073741824) ∧ ∀ (x30 : Int), x30 = mot stc ogc sgc ptc x5 → (decide (x6 < 0) = true → (0 ≤ blc ∧ blc ≤ 4096) ∧ ∀ (x31 : Int), x31 = bsh blc d2 → (-9223372036854775808 ≤ x30 + x31 ∧ x30 + x31 ≤ 9223372036854775807) ∧ ∀ (x32 : Int), x32 = x30 + x31 → Q ⟨.agg [.int .i64 x26, .int .i64 x29, .int .i64 x32], false, [], []⟩) ∧ (decide (x6 < 0) = false → (0 ≤ x6 ∧ x6 < (List.length pk : Int)) ∧ (((0 : Int) ≤ (2 : Int) ∧ (2 : Int) ≤ (2 : Int)) ∧ (0 ≤ blc ∧ blc ≤ 4096) ∧ ((-18014398509481984 : Int) ≤ x1 ∧ x1 ≤ 18014398509481984) ∧ (-18014398509481984 : Int) ≤ el pk x6.toNat ∧ el pk x6.toNat ≤ 18014398509481984) ∧ ∀ (x33 : Int), x33 = tsh blc (ec pk x6.toNat 3) (sel3 (2 : Int) (ec pk x6.toNat 4) (ec pk x6.toNat 5) (ec pk x6.toNat 6)) (sel3 (2 : Int) (ec pk x6.toNat 7) (ec pk x6.toNat 8) (ec pk x6.toNat 9)) (el pk x6.toNat) x1 →
    (-9223372036854775808 ≤ x30 + x33 ∧ x30 + x33 ≤ 9223372036854775807) ∧ ∀ (x34 : Int), x34 = x30 + x33 → Q ⟨.agg [.int .i64 x26, .int .i64 x29, .int .i64 x34], false, [], []⟩)) ∧ (decide (x6 < 0) = false → (0 ≤ x6 ∧ x6 < (List.length pk : Int)) ∧ (((0 : Int) ≤ (1 : Int) ∧ (1 : Int) ≤ (2 : Int)) ∧ (0 ≤ blb ∧ blb ≤ 4096) ∧ ((-18014398509481984 : Int) ≤ x1 ∧ x1 ≤ 18014398509481984) ∧ (-18014398509481984 : Int) ≤ el pk x6.toNat ∧ el pk x6.toNat ≤ 18014398509481984) ∧ ∀ (x35 : Int), x35 = tsh blb (ec pk x6.toNat 3) (sel3 (1 : Int) (ec pk x6.toNat 4) (ec pk x6.toNat 5) (ec pk x6.toNat 6)) (sel3 (1 : Int) (ec pk x6.toNat 7) (ec pk x6.toNat 8) (ec pk x6.toNat 9)) (el pk x6.toNat) x1 → (-9223372036854775808 ≤ x27 + x35 ∧ x27 + x35 ≤ 9223372036854775807) ∧ ∀ (x36 : Int), x36 = x27 + x35 → ((0 < stc ∧ stc ≤ 16777216) ∧ okC ogc sgc ptc ∧ (-1073741824 : Int) ≤ x5 ∧ x5 ≤ 1073741824) ∧ ∀ (x37 : Int), x37 = mot stc ogc sgc ptc x5 →
    (decide (x6 < 0) = true → (0 ≤ blc ∧ blc ≤ 4096) ∧ ∀ (x38 : Int), x38 = bsh blc d2 → (-9223372036854775808 ≤ x37 + x38 ∧ x37 + x38 ≤ 9223372036854775807) ∧ ∀ (x39 : Int), x39 = x37 + x38 → Q ⟨.agg [.int .i64 x26, .int .i64 x36, .int .i64 x39], false, [], []⟩) ∧ (decide (x6 < 0) = false → (0 ≤ x6 ∧ x6 < (List.length pk : Int)) ∧ (((0 : Int) ≤ (2 : Int) ∧ (2 : Int) ≤ (2 : Int)) ∧ (0 ≤ blc ∧ blc ≤ 4096) ∧ ((-18014398509481984 : Int) ≤ x1 ∧ x1 ≤ 18014398509481984) ∧ (-18014398509481984 : Int) ≤ el pk x6.toNat ∧ el pk x6.toNat ≤ 18014398509481984) ∧ ∀ (x40 : Int), x40 = tsh blc (ec pk x6.toNat 3) (sel3 (2 : Int) (ec pk x6.toNat 4) (ec pk x6.toNat 5) (ec pk x6.toNat 6)) (sel3 (2 : Int) (ec pk x6.toNat 7) (ec pk x6.toNat 8) (ec pk x6.toNat 9)) (el pk x6.toNat) x1 → (-9223372036854775808 ≤ x37 + x40 ∧ x37 + x40 ≤ 9223372036854775807) ∧ ∀ (x41 : Int), x41 = x37 + x40 → Q ⟨.agg [.int .i64 x26, .int .i64 x36, .int .i64 x41], false, [], []⟩)))) := by kernel_rfl
end Go.Proofs.YtneingpnkdeooaaGreat
namespace U
theorem lfA_spec : ∀ (l : List (List Int)) (i s : Int), 0 ≤ s → (lfA l i s).1 = -1 ∨ ∃ j : Nat, j < l.length ∧ (lfA l i s).1 = i + j ∧ 0 ≤ (lfA l i s).2 ∧ (lfA l i s).2 < ec l j 3
  | [], i, s, _ => .inl rfl
  | r :: l, i, s, hs => by
    unfold lfA
    by_cases h : s < r.getD 3 0
    · rw [if_pos h]
      exact .inr ⟨0, by simp, by simp, hs, h⟩
    · rw [if_neg h]
      rcases lfA_spec l (i + 1) (s - r.getD 3 0) (by omega) with h1 | ⟨j, h1, h2, h3, h4⟩
      · exact .inl h1
      · exact .inr ⟨j + 1, by simp; exact h1, by rw [h2]; omega, h3, h4⟩
theorem pfind_spec {sg : List (List Int)} (h : okLen sg) (p : Int) : (sg.length = 0 ∧ pfind sg p = (-1, 0)) ∨ ∃ j : Nat, j < sg.length ∧ (pfind sg p).1 = j ∧ 0 ≤ (pfind sg p).2 ∧ (pfind sg p).2 ≤ ec sg j 3 := by
  unfold pfind
  by_cases h0 : sg.length = 0
  · rw [if_pos h0]; exact .inl ⟨h0, rfl⟩
  · rw [if_neg h0]
    right
    by_cases h1 : 0 ≤ (lfA sg 0 (max p 0)).1
    · rw [if_pos h1]
      rcases lfA_spec sg 0 (max p 0) (by omega) with h2 | ⟨j, h2, h3, h4, h5⟩
      · omega
      · exact ⟨j, h2, by omega, h4, by omega⟩
    · rw [if_neg h1]
      have := h.2 (sg.length - 1) (by omega)
      exact ⟨sg.length - 1, by omega, by dsimp only; omega, by dsimp only; omega, Int.le_refl _⟩
theorem rnd_hull {a d L : Int} (hd : 0 ≤ d ∧ d ≤ L) (hL : 0 < L) : (0 ≤ a → 0 ≤ rnd (a * d) L ∧ rnd (a * d) L ≤ a) ∧ (a ≤ 0 → a ≤ rnd (a * d) L ∧ rnd (a * d) L ≤ 0) := by
  unfold rnd
  refine ⟨fun ha => ?_, fun ha => ?_⟩
  · have h1 := Int.mul_nonneg ha hd.1
    have h2 : a * d ≤ a * L := Int.mul_le_mul_of_nonneg_left hd.2 ha
    refine ⟨Int.ediv_nonneg (by omega) (by omega), Int.lt_add_one_iff.1 (Int.ediv_lt_of_lt_mul (by omega) ?_)⟩
    have : (a + 1) * (2 * L) = 2 * (a * L) + 2 * L := by grind
    omega
  · have h1 : a * d ≤ 0 := Int.mul_nonpos_of_nonpos_of_nonneg ha hd.1
    have h2 : a * L ≤ a * d := Int.mul_le_mul_of_nonpos_left ha hd.2
    refine ⟨Int.le_ediv_of_mul_le (by omega) ?_, Int.lt_add_one_iff.1 (Int.ediv_lt_of_lt_mul (by omega) (by omega))⟩
    have : a * (2 * L) = 2 * (a * L) := by grind
    omega
theorem mul_bd3 {a d : Int} (ha : -1073741824 ≤ a ∧ a ≤ 1073741824) (hd : 0 ≤ d ∧ d ≤ 4294967296) : -4611686018427387904 ≤ a * d ∧ a * d ≤ 4611686018427387904 := by
  have := mul_bd2 (a := a) (b := d) (A := 1073741824) (B := 4294967296) ha hd
  omega
theorem coord_bd {s : Int} {sg : List (List Int)} {c : Nat} {j : Nat} {d : Int} (hl : okLen sg) (h0 : -536870912 ≤ s ∧ s ≤ 536870912) (h : ∀ j, j < sg.length → -536870912 ≤ ec sg j c ∧ ec sg j c ≤ 536870912) (hj : j < sg.length) (hd : 0 ≤ d ∧ d ≤ ec sg j 3) :
    (-1073741824 ≤ ec sg j c - bgn s sg c j ∧ ec sg j c - bgn s sg c j ≤ 1073741824) ∧ (-4611686018427387904 ≤ (ec sg j c - bgn s sg c j) * d ∧ (ec sg j c - bgn s sg c j) * d ≤ 4611686018427387904) ∧
    (-536870912 ≤ bgn s sg c j + rnd ((ec sg j c - bgn s sg c j) * d) (ec sg j 3) ∧ bgn s sg c j + rnd ((ec sg j c - bgn s sg c j) * d) (ec sg j 3) ≤ 536870912) := by
  have b := bgn_bd (i := (j : Int)) h0 h (by omega)
  have e := h j hj
  have len := hl.2 j hj
  have m := mul_bd3 (a := ec sg j c - bgn s sg c j) (d := d) (by omega) (by omega)
  have hu := rnd_hull (a := ec sg j c - bgn s sg c j) hd (by omega)
  refine ⟨by omega, m, ?_⟩
  by_cases hs : 0 ≤ ec sg j c - bgn s sg c j
  · have := hu.1 hs; omega
  · have := hu.2 (by omega); omega
theorem ptAt_bd {s : Int} {sg : List (List Int)} {c : Nat} (hl : okLen sg) (h0 : -536870912 ≤ s ∧ s ≤ 536870912) (h : ∀ j, j < sg.length → -536870912 ≤ ec sg j c ∧ ec sg j c ≤ 536870912) (p : Int) : -536870912 ≤ ptAt s sg c p ∧ ptAt s sg c p ≤ 536870912 := by
  unfold ptAt
  rcases pfind_spec hl p with ⟨h1, h2⟩ | ⟨j, h1, h2, h3, h4⟩
  · rw [h2]; exact h0
  · rw [if_neg (by omega), h2]
    exact (coord_bd hl h0 h h1 ⟨h3, h4⟩).2.2
theorem clamp_bd {n v : Int} (h : 0 ≤ n) : 0 ≤ clamp n v ∧ clamp n v ≤ n := by unfold clamp; omega
theorem clamp_idem {n v : Int} (h : 0 ≤ n) : clamp n (clamp n v) = clamp n v := by unfold clamp; omega
theorem clamp_in {n v : Int} (h : 0 ≤ v ∧ v ≤ n) : clamp n v = v := by unfold clamp; omega
theorem tpcA_of (u : Int) : ∀ (l : List (List Int)) (i : Int) (j : Nat), j < l.length → u ≤ endp l j → (∀ k, k < j → endp l k < u) → tpcA l i u = i + j
  | [], i, j, h, _, _ => absurd h (Nat.not_lt_zero _)
  | r :: l, i, 0, _, h, _ => by
    unfold tpcA
    have h : u ≤ r.getD 0 0 + r.getD 1 0 := h
    rw [if_pos h]; simp
  | r :: l, i, j + 1, hj, h, hk => by
    unfold tpcA
    have h0 := hk 0 (by omega)
    have h0 : r.getD 0 0 + r.getD 1 0 < u := h0
    rw [if_neg (by omega), tpcA_of u l (i + 1) j (by simpa using hj) h (fun k hk' => hk (k + 1) (by omega))]
    omega
theorem tpcA_spec (u : Int) : ∀ (l : List (List Int)) (i : Int), (tpcA l i u = -1 ∧ ∀ j, j < l.length → endp l j < u) ∨ ∃ j : Nat, j < l.length ∧ tpcA l i u = i + j ∧ u ≤ endp l j ∧ ∀ k, k < j → endp l k < u
  | [], i => .inl ⟨rfl, fun j hj => absurd hj (Nat.not_lt_zero _)⟩
  | r :: l, i => by
    unfold tpcA
    by_cases h : u ≤ r.getD 0 0 + r.getD 1 0
    · rw [if_pos h]
      exact .inr ⟨0, by simp, by simp, h, fun k hk => absurd hk (Nat.not_lt_zero _)⟩
    · rw [if_neg h]
      have h0 : endp (r :: l) 0 < u := by show r.getD 0 0 + r.getD 1 0 < u; omega
      rcases tpcA_spec u l (i + 1) with ⟨h1, h2⟩ | ⟨j, h1, h2, h3, h4⟩
      · refine .inl ⟨h1, fun j hj => ?_⟩
        cases j with
        | zero => exact h0
        | succ j => exact h2 j (by simpa using hj)
      · refine .inr ⟨j + 1, by simp; exact h1, by rw [h2]; omega, h3, fun k hk => ?_⟩
        cases k with
        | zero => exact h0
        | succ k => exact h4 k (by omega)
theorem tfind_of {pk : List (List Int)} {u : Int} {j : Nat} (h : j < pk.length) (h1 : u ≤ endp pk j) (h2 : ∀ k, k < j → endp pk k < u) : tfind pk u = j := by
  unfold tfind; rw [tpcA_of u pk 0 j h h1 h2]; omega
theorem endp_step {pk : List (List Int)} {ln : Int} (h : okTrk pk ln) {j : Nat} (hj : j + 1 < pk.length) : endp pk j < endp pk (j + 1) := by
  obtain ⟨_, _, _, _, h5, h6⟩ := h
  have a := h5 j hj
  have b := (h6 (j + 1) hj).1
  unfold endp at *
  omega
theorem endp_mono {pk : List (List Int)} {ln : Int} (h : okTrk pk ln) {i : Nat} : ∀ k : Nat, i + k < pk.length → endp pk i ≤ endp pk (i + k)
  | 0, _ => Int.le_refl _
  | k + 1, hk => by
    have h1 := endp_mono h (i := i) k (by omega)
    have h2 := endp_step h (j := i + k) (by omega)
    have : i + (k + 1) = i + k + 1 := rfl
    rw [this]; omega
theorem endp_le {pk : List (List Int)} {ln : Int} (h : okTrk pk ln) {i j : Nat} (hij : i ≤ j) (hj : j < pk.length) : endp pk i ≤ endp pk j := by
  have := endp_mono h (i := i) (j - i) (by omega)
  rw [show i + (j - i) = j by omega] at this
  exact this
theorem at_bd {pk : List (List Int)} {ln : Int} (h : okTrk pk ln) {j : Nat} (hj : j < pk.length) : 0 ≤ ec pk j 0 ∧ ec pk j 0 < endp pk j ∧ endp pk j ≤ ln := by
  have hu := (h.2.2.2.2.2 j hj).1
  have h4 := h.2.2.2.1 (by omega)
  have hl := endp_le h (i := j) (j := pk.length - 1) (by omega) (by omega)
  have e : endp pk j = ec pk j 0 + ec pk j 1 := rfl
  refine ⟨?_, by omega, by omega⟩
  cases j with
  | zero => omega
  | succ i =>
    have h5 := h.2.2.2.2.1 i hj
    have h0 := endp_le h (i := 0) (j := i) (by omega) (by omega)
    have hu0 := (h.2.2.2.2.2 0 (by omega)).1
    have e0 : endp pk 0 = ec pk 0 0 + ec pk 0 1 := rfl
    omega
theorem tfind_spec {pk : List (List Int)} {ln u : Int} (h : okTrk pk ln) (hu : u ≤ ln) : (pk.length = 0 ∧ tfind pk u = -1) ∨ ∃ j : Nat, j < pk.length ∧ tfind pk u = j ∧ u ≤ endp pk j ∧ ∀ k, k < j → endp pk k < u := by
  unfold tfind
  rcases tpcA_spec u pk 0 with ⟨h1, h2⟩ | ⟨j, h1, h2, h3, h4⟩
  · left
    refine ⟨?_, h1⟩
    by_cases h0 : pk.length = 0
    · exact h0
    · have a := h2 (pk.length - 1) (by omega)
      have b := h.2.2.2.1 (by omega)
      omega
  · exact .inr ⟨j, h1, by omega, h3, h4⟩
theorem mul3 {m x B : Int} (hm : -1 ≤ m ∧ m ≤ 1) (hx : -B ≤ x ∧ x ≤ B) : -B ≤ m * x ∧ m * x ≤ B := by
  have : m = -1 ∨ m = 0 ∨ m = 1 := by omega
  rcases this with rfl | rfl | rfl <;> omega
theorem tplace_bd {pk : List (List Int)} {ln sa u : Int} (h : okTrk pk ln) (hsa : 0 ≤ sa ∧ sa ≤ 18014398509481984) (hu : 0 ≤ u ∧ u ≤ ln) : -36028797018963968 ≤ tplace pk sa u ∧ tplace pk sa u ≤ 36028797018963968 := by
  unfold tplace
  rcases tfind_spec h hu.2 with ⟨h1, h2⟩ | ⟨j, h1, h2, h3, h4⟩
  · rw [h2, if_pos (by decide)]; omega
  · rw [if_neg (by omega), h2]
    have hj : ((j : Int)).toNat = j := rfl
    rw [hj]
    have a := at_bd h h1
    have b := h.2.2.2.2.2 j h1
    have hl := h.2.1
    have c := mul3 (x := u - ec pk j 0) (B := 18014398509481984) b.2.2 (by omega)
    omega
end U
namespace Go.Proofs.YtneingpnkdeooaaGreat
open Go Go.HL U
attribute [local irreducible] hfun bodyT fragT
set_option maxHeartbeats 400000 in
set_option maxRecDepth 100000 in
theorem sClamp : Sound Tryz.prog 42 SClamp := by
  refine sound_of (C := CClamp) [] Tryz.func42 (by kernel_rfl) (by decide +kernel) (by kernel_rfl) rfl trivial (loops0 (by kernel_rfl)) ?_
  intro hargs pars R h
  unfold SClamp at h
  split at h
  case h_2 => exfalso; exact h
  rename_i v n
  refine byVC (vcClamp v n R) ?_
  rintro _ rfl x2 e2
  have := h.1
  have e : clamp n v = x2 := by unfold clamp; omega
  rw [← e]; exact h.2
theorem loopTF : ∀ v Q, (LTF v).wp Q → hloop CTF anTF (nthLoop Tryz.f43 0) v Q := by
  intro v Q h
  unfold LTF at h
  split at h
  case h_2 => exact h.elim
  rename_i u z lo hi pk ln sa d0 d1 d2
  obtain ⟨⟨hlo, hhi, ht, hu0, hu1⟩, hq⟩ := h
  subst hlo hhi
  refine hloop_rec (σ := Int × Int) (fun s => ([.ce (.int .i64 u), .ce (.ptr 1000002 0), .ce (.int .i64 z), .ce (.int .i64 s.1), .ce (.int .i64 s.2)], [[.sl false [4, 4, 4, 4, 4, 4, 4, 4, 4, 4] pk, .int .i64 ln, .int .i64 sa, .int .i64 d0, .int .i64 d1, .int .i64 d2]]))
    (fun s => (s.2 - s.1).toNat) (fun s => (pk.length = 0 ∧ s = (0, -1)) ∨ ((0 ≤ s.1 ∧ s.1 ≤ s.2 ∧ s.2 < pk.length) ∧ u ≤ endp pk s.2.toNat ∧ ∀ k : Nat, (k : Int) < s.1 → endp pk k < u)) ?_ (0, (pk.length : Int) - 1) ?_
  · rintro ⟨lo, hi⟩ hI K hn hx _
    dsimp only at hI hn ⊢
    have hl1 := ht.1
    refine byVB (vbTF u z lo hi ln sa d0 d1 d2 pk K) ⟨fun g => ?_, fun g => ?_⟩
    · have g := of_decide_eq_true g
      rcases hI with ⟨h1, h2⟩ | ⟨⟨h1, h2, h3⟩, h4, h5⟩
      · cases h2; omega
      refine ⟨by omega, fun x1 e1 => ⟨by decide, ?_⟩⟩
      have hd : x1.tdiv 2 = x1 / 2 := Int.tdiv_eq_ediv_of_nonneg (by omega)
      rw [hd]
      refine ⟨by omega, fun x2 e2 => ⟨by omega, ?_⟩⟩
      have hb := at_bd ht (j := x2.toNat) (by omega)
      have hln := ht.2.1
      have ee : el pk x2.toNat + ec pk x2.toNat 1 = endp pk x2.toNat := rfl
      rw [ee]
      refine ⟨by omega, fun x3 e3 => ⟨fun g2 => ?_, fun g2 => ⟨by omega, fun x4 e4 => ?_⟩⟩⟩
      · have g2 := of_decide_eq_true g2
        exact hn (lo, x2) (.inr ⟨⟨h1, by dsimp only; omega, by dsimp only; omega⟩, by dsimp only; omega, h5⟩) (by dsimp only; omega)
      · have g2 := of_decide_eq_false g2
        refine hn (x4, hi) (.inr ⟨⟨by dsimp only; omega, by dsimp only; omega, h3⟩, h4, fun k hk => ?_⟩) (by dsimp only; omega)
        have := endp_le ht (i := k) (j := x2.toNat) (by dsimp only at hk; omega) (by omega)
        omega
    · have g := of_decide_eq_false g
      have e : tfind pk u = hi := by
        rcases hI with ⟨h1, h2⟩ | ⟨⟨h1, h2, h3⟩, h4, h5⟩
        · cases h2
          have : pk = [] := List.eq_nil_of_length_eq_zero h1
          subst this; rfl
        · have := tfind_of (pk := pk) (u := u) (j := hi.toNat) (by omega) h4 (fun k hk => h5 k (by omega))
          omega
      rw [e] at hq
      exact hx 0 _ hq
  · by_cases h0 : pk.length = 0
    · exact .inl ⟨h0, by rw [h0]; rfl⟩
    · have h4 := ht.2.2.2.1 (by omega)
      refine .inr ⟨⟨Int.le_refl _, by dsimp only; omega, by dsimp only; omega⟩, ?_, fun k hk => by dsimp only at hk; omega⟩
      dsimp only
      rw [show ((pk.length : Int) - 1).toNat = pk.length - 1 by omega]
      omega
set_option maxHeartbeats 400000 in
set_option maxRecDepth 100000 in
theorem sTFind : Sound Tryz.prog 43 STFind := by
  refine sound_of (C := CTF) [] Tryz.func43 (by kernel_rfl) (by decide +kernel) (by kernel_rfl) rfl trivial (loops1 (by kernel_rfl) (loopOK_of (an := anTF) (S := LTF) (by kernel_rfl) loopTF)) ?_
  intro hargs pars R h
  unfold STFind at h
  split at h
  case h_2 => exfalso; exact h
  rename_i pk ln sa d0 d1 d2 u
  obtain ⟨⟨h1, h2, h3⟩, hq⟩ := h
  have := h1.1
  exact byVC (vcTF u ln sa d0 d1 d2 pk R) ⟨by omega, fun x1 e1 => ⟨⟨rfl, e1, h1, h2, h3⟩, hq⟩⟩
set_option maxHeartbeats 400000 in
set_option maxRecDepth 100000 in
theorem sPlace : Sound Tryz.prog 21 SPlace := by
  refine sound_of (C := CPlace) tabTF Tryz.func21 (by kernel_rfl) (by decide +kernel) (by kernel_rfl) rfl ⟨sClamp, sTFind, trivial⟩ (loops0 (by kernel_rfl)) ?_
  intro hargs pars R h
  unfold SPlace at h
  split at h
  case h_2 => exfalso; exact h
  rename_i pk ln sa d0 d1 d2 u
  obtain ⟨ht, hq⟩ := h
  have hl := ht.2.1
  have hc := clamp_bd (v := u) hl.1
  unfold tplace at hq
  refine byVC (vcPlace u ln sa d0 d1 d2 pk R) ⟨hl.1, fun x1 e1 => ?_⟩
  rw [← e1] at hq hc
  refine ⟨⟨ht, hc⟩, fun x2 e2 => ?_⟩
  rw [← e2] at hq
  refine ⟨fun g => ?_, fun g => ?_⟩
  · rw [if_pos (of_decide_eq_true g)] at hq; exact hq
  · have g := of_decide_eq_false g
    rw [if_neg g] at hq
    rcases tfind_spec ht hc.2 with ⟨h1, h2⟩ | ⟨j, h1, h2, h3, h4⟩
    · omega
    have hj : x2.toNat = j := by omega
    have a := at_bd ht h1
    have b := ht.2.2.2.2.2 j h1
    rw [hj] at hq ⊢
    refine ⟨by omega, fun x3 e3 => ⟨by omega, fun x4 e4 => ⟨by omega, fun x5 e5 => ?_⟩⟩⟩
    have e5 : x5 = ec pk j 0 := e5
    have c := mul3 (m := x4) (x := x1 - x5) (B := 18014398509481984) (by omega) (by omega)
    refine ⟨by omega, fun x6 e6 => ?_⟩
    rw [← e6] at c
    refine ⟨by omega, fun x7 e7 => ⟨by omega, fun x8 e8 => ?_⟩⟩
    rw [e8, e7, e6, e5, e4, e3]
    exact hq
set_option maxHeartbeats 400000 in
set_option maxRecDepth 100000 in
theorem sBsh : Sound Tryz.prog 44 SBsh := by
  refine sound_of (C := CBsh) [] Tryz.func44 (by kernel_rfl) (by decide +kernel) (by kernel_rfl) rfl trivial (loops0 (by kernel_rfl)) ?_
  intro hargs pars R h
  unfold SBsh at h
  split at h
  case h_2 => exfalso; exact h
  rename_i sta spa aca jea loa hia bla oga sga pta d
  obtain ⟨h1, hq⟩ := h
  unfold bsh at hq
  refine byVC (vcBsh sta spa aca jea loa hia bla oga sga pta d R) ⟨fun g => ⟨by omega, fun x1 e1 => ?_⟩, fun g => ?_⟩
  · rw [if_pos (by simpa using g)] at hq
    rw [show x1 = -bla by omega]; exact hq
  · rw [if_neg (by simpa using g)] at hq; exact hq
theorem mdv2 (n c : Int) : mdv n c 2 = rnd n c := by unfold mdv rnd; simp
set_option maxHeartbeats 400000 in
set_option maxRecDepth 100000 in
theorem sAt : Sound Tryz.prog 23 SAt := by
  refine sound_of (C := CAt) tabAt Tryz.func23 (by kernel_rfl) (by decide +kernel) (by kernel_rfl) rfl ⟨sPFind, sMulDiv, trivial⟩ (loopsAll (by kernel_rfl)) ?_
  intro hargs pars R h
  unfold SAt at h
  split at h
  case h_2 => exfalso; exact h
  rename_i s0 s1 s2 sg mk p
  obtain ⟨⟨hl, ⟨k0, k1, k2, kk⟩, hp⟩, hq⟩ := h
  unfold ptAt at hq
  refine byVC (vcAt s0 s1 s2 p sg mk R) ⟨⟨hl, hp⟩, ⟨_, rfl⟩, fun x ex => ?_⟩
  have sp := pfind_spec hl p
  rw [← ex] at sp hq
  rcases sp with ⟨h1, h2⟩ | ⟨j, h1, h2, h3, h4⟩
  · rw [h2] at hq ⊢
    exact ⟨fun _ => hq, fun g => absurd g (by decide)⟩
  rw [if_neg (by omega), if_neg (by omega), if_neg (by omega), h2] at hq
  have hj : ((j : Int)).toNat = j := rfl
  rw [hj] at hq
  have hlen := hl.2 j h1
  have hl1 := hl.1
  have c0 := coord_bd hl k0 (fun j hj => (kk j hj).1) h1 ⟨h3, h4⟩
  have c1 := coord_bd hl k1 (fun j hj => (kk j hj).2.1) h1 ⟨h3, h4⟩
  have c2 := coord_bd hl k2 (fun j hj => (kk j hj).2.2) h1 ⟨h3, h4⟩
  have hx1 : x.1.toNat = j := by omega
  rw [hx1]
  refine ⟨fun g => ?_, fun g => ⟨fun g2 => ?_, fun g2 => ?_⟩⟩
  · have g := of_decide_eq_true g; omega
  · have g2 := of_decide_eq_true g2
    refine ⟨by omega, fun x2 e2 => ⟨by omega, by omega, ?_⟩⟩
    have hx2 : x2.toNat = j - 1 := by omega
    rw [hx2]
    have b : ∀ s c, bgn s sg c (j : Int) = ec sg (j - 1) c := fun s c => by
      unfold bgn; rw [if_neg (by omega), show ((j : Int) - 1).toNat = j - 1 by omega]
    rw [b, b, b] at hq
    rw [b] at c0 c1 c2
    have c0 : (-1073741824 ≤ el sg j - el sg (j - 1) ∧ el sg j - el sg (j - 1) ≤ 1073741824) ∧ (-4611686018427387904 ≤ (el sg j - el sg (j - 1)) * x.2 ∧ (el sg j - el sg (j - 1)) * x.2 ≤ 4611686018427387904) ∧
        (-536870912 ≤ el sg (j - 1) + rnd ((el sg j - el sg (j - 1)) * x.2) (ec sg j 3) ∧ el sg (j - 1) + rnd ((el sg j - el sg (j - 1)) * x.2) (ec sg j 3) ≤ 536870912) := c0
    refine ⟨by omega, ?_⟩
    rintro _ rfl
    refine ⟨⟨by omega, by omega, by omega, c0.2.1, by decide, by decide⟩, ?_⟩
    rw [mdv2]
    rintro _ rfl _ _
    refine ⟨by omega, ?_⟩
    rintro _ rfl
    refine ⟨by omega, ?_⟩
    rintro _ rfl
    refine ⟨⟨by omega, by omega, by omega, c1.2.1, by decide, by decide⟩, ?_⟩
    rw [mdv2]
    rintro _ rfl _ _
    refine ⟨by omega, ?_⟩
    rintro _ rfl
    refine ⟨by omega, ?_⟩
    rintro _ rfl
    refine ⟨⟨by omega, by omega, by omega, c2.2.1, by decide, by decide⟩, ?_⟩
    rw [mdv2]
    rintro _ rfl _ _
    refine ⟨by omega, ?_⟩
    rintro _ rfl
    exact hq
  · have g2 := of_decide_eq_false g2
    refine ⟨by omega, ?_⟩
    have b : ∀ s c, bgn s sg c (j : Int) = s := fun s c => by
      unfold bgn; rw [if_pos (by omega)]
    rw [b, b, b] at hq
    rw [b] at c0 c1 c2
    have c0 : (-1073741824 ≤ el sg j - s0 ∧ el sg j - s0 ≤ 1073741824) ∧ (-4611686018427387904 ≤ (el sg j - s0) * x.2 ∧ (el sg j - s0) * x.2 ≤ 4611686018427387904) ∧
        (-536870912 ≤ s0 + rnd ((el sg j - s0) * x.2) (ec sg j 3) ∧ s0 + rnd ((el sg j - s0) * x.2) (ec sg j 3) ≤ 536870912) := c0
    refine ⟨by omega, ?_⟩
    rintro _ rfl
    refine ⟨⟨by omega, by omega, by omega, c0.2.1, by decide, by decide⟩, ?_⟩
    rw [mdv2]
    rintro _ rfl _ _
    refine ⟨by omega, ?_⟩
    rintro _ rfl
    refine ⟨by omega, ?_⟩
    rintro _ rfl
    refine ⟨⟨by omega, by omega, by omega, c1.2.1, by decide, by decide⟩, ?_⟩
    rw [mdv2]
    rintro _ rfl _ _
    refine ⟨by omega, ?_⟩
    rintro _ rfl
    refine ⟨by omega, ?_⟩
    rintro _ rfl
    refine ⟨⟨by omega, by omega, by omega, c2.2.1, by decide, by decide⟩, ?_⟩
    rw [mdv2]
    rintro _ rfl _ _
    refine ⟨by omega, ?_⟩
    rintro _ rfl
    exact hq
theorem tsh_fin {bl mv w d at_ u : Int} {R : Res → Prop} (hb : 0 ≤ bl ∧ bl ≤ 4096) (hu : -18014398509481984 ≤ u ∧ u ≤ 18014398509481984) (ha : -18014398509481984 ≤ at_ ∧ at_ ≤ 18014398509481984) (hq : R ⟨.ce (.int .i64 (tsh bl mv w d at_ u)), false, [], []⟩) :
    ((mv != 0) = true → (0 ≤ bl ∧ bl ≤ 4096) ∧ ∀ x1 : Int, x1 = bsh bl d → R ⟨.ce (.int .i64 x1), false, [], []⟩) ∧
    ((mv != 0) = false → ((w == d) = true → (0 ≤ bl ∧ bl ≤ 4096) ∧ ∀ x2 : Int, x2 = bsh bl d → R ⟨.ce (.int .i64 x2), false, [], []⟩) ∧
      ((w == d) = false → (-9223372036854775808 ≤ u - at_ ∧ u - at_ ≤ 9223372036854775807) ∧ ∀ x3 : Int, x3 = u - at_ → ∀ x4 : Int, x4 = min x3 bl →
        ((d == -1) = true → (-9223372036854775808 ≤ 0 - x4 ∧ 0 - x4 ≤ 9223372036854775807) ∧ ∀ x5 : Int, x5 = 0 - x4 → R ⟨.ce (.int .i64 x5), false, [], []⟩) ∧
        ((d == -1) = false → (-9223372036854775808 ≤ x4 - bl ∧ x4 - bl ≤ 9223372036854775807) ∧ ∀ x6 : Int, x6 = x4 - bl → R ⟨.ce (.int .i64 x6), false, [], []⟩))) := by
  unfold tsh at hq
  refine ⟨fun g => ⟨hb, fun x e => ?_⟩, fun g => ⟨fun g2 => ⟨hb, fun x e => ?_⟩, fun g2 => ⟨by omega, fun x3 e3 x4 e4 => ⟨fun g3 => ⟨by omega, fun x e => ?_⟩, fun g3 => ⟨by omega, fun x e => ?_⟩⟩⟩⟩⟩
  · have g : mv ≠ 0 := by simpa using g
    rw [if_pos (.inl g)] at hq; rw [e]; exact hq
  · have g2 : w = d := by simpa using g2
    rw [if_pos (.inr g2)] at hq; rw [e]; exact hq
  · have g : mv = 0 := by simpa using g
    have g2 : w ≠ d := by simpa using g2
    have g3 : d = -1 := by simpa using g3
    rw [if_neg (by intro hh; rcases hh with h | h; exact h g; exact g2 h), if_pos g3] at hq
    rw [show x = -(min (u - at_) bl) by omega]; exact hq
  · have g : mv = 0 := by simpa using g
    have g2 : w ≠ d := by simpa using g2
    have g3 : d ≠ -1 := by simpa using g3
    rw [if_neg (by intro hh; rcases hh with h | h; exact h g; exact g2 h), if_neg g3] at hq
    rw [show x = min (u - at_) bl - bl by omega]; exact hq
set_option maxHeartbeats 400000 in
set_option maxRecDepth 100000 in
theorem sTsh : Sound Tryz.prog 45 STsh := by
  refine sound_of (C := CTsh) tabTsh Tryz.func45 (by kernel_rfl) (by decide +kernel) (by kernel_rfl) rfl ⟨sBsh, trivial⟩ (loops0 (by kernel_rfl)) ?_
  intro hargs pars R h
  unfold STsh at h
  split at h
  case h_2 => exfalso; exact h
  rename_i sta spa aca jea loa hia bla oga sga pta q0 q1 q2 q3 q4 q5 q6 q7 q8 q9 k u
  obtain ⟨⟨hk, hb, hu, ha⟩, hq⟩ := h
  refine byVC (vcTsh sta spa aca jea loa hia bla oga sga pta q0 q1 q2 q3 q4 q5 q6 q7 q8 q9 k u R) ⟨fun e => ?_, fun e => ⟨fun e2 => ?_, fun e2 => ⟨fun e3 => ?_, fun e3 => by omega⟩⟩⟩
  · subst e; exact tsh_fin hb hu ha hq
  · subst e2; exact tsh_fin hb hu ha hq
  · subst e3; exact tsh_fin hb hu ha hq
theorem bsh_bd {bl d : Int} (h : 0 ≤ bl ∧ bl ≤ 4096) : -4096 ≤ bsh bl d ∧ bsh bl d ≤ 0 := by unfold bsh; split <;> omega
theorem tsh_bd {bl mv w d at_ u : Int} (h : 0 ≤ bl ∧ bl ≤ 4096) (hu : at_ ≤ u) : -4096 ≤ tsh bl mv w d at_ u ∧ tsh bl mv w d at_ u ≤ 0 := by
  have := bsh_bd (d := d) h
  unfold tsh
  split
  · exact this
  · split <;> omega
theorem motr_bd {st og sg p : Int} {pit : List (List Int)} (h : 0 < st) (hc : okC og sg pit) (hp : -1073741824 ≤ p ∧ p ≤ 1073741824) : -2199023255552 ≤ mot st og sg pit p ∧ mot st og sg pit p ≤ 2199023255554 := by
  have hb := corr_bd hc p
  rw [← stp_eq]
  exact stp_bd h (by omega)
set_option maxHeartbeats 400000 in
set_option maxRecDepth 100000 in
theorem sMotors : Sound Tryz.prog 19 SMotors := by
  refine sound_of (C := CMotors) tabMotors Tryz.func19 (by kernel_rfl) (by decide +kernel) (by kernel_rfl) rfl ⟨sClamp, sPlace, sAt, sTFind, sMotor, sBsh, sTsh, trivial⟩ (loopsAll (by kernel_rfl)) ?_
  intro hargs pars R h
  unfold SMotors at h
  split at h
  case h_2 => exfalso; exact h
  rename_i s0 s1 s2 sg mk ax pk ln sa d0 d1 d2 u
  split at h
  case h_2 => exact h.elim
  rename_i sta spa aca jea loa hia bla oga sga pta stb spb acb jeb lob hib blb ogb sgb ptb stc spc acc jec loc hic blc ogc sgc ptc
  obtain ⟨⟨hl, ⟨k0, k1, k2, kk⟩, ht, ma, mb, mc, hsa⟩, hq⟩ := h
  have hln := ht.2.1
  have hc := clamp_bd (v := u) hln.1
  unfold tmot at hq
  refine byVC (vcMotors s0 s1 s2 u ln sa d0 d1 d2 sg mk pk sta spa aca jea loa hia bla oga sga stb spb acb jeb lob hib blb ogb sgb stc spc acc jec loc hic blc ogc sgc pta ptb ptc R) ⟨hln.1, fun x1 e1 => ⟨ht, fun x2 e2 => ?_⟩⟩
  have hci := clamp_idem (v := u) hln.1
  rw [← e1] at hq hc hci
  rw [hci] at e2
  have hx2 := tplace_bd ht hsa hc
  rw [← e2] at hq hx2
  refine ⟨⟨hl, ⟨k0, k1, k2, kk⟩, by omega⟩, fun x3 e3 x4 e4 x5 e5 => ?_⟩
  have p0 := ptAt_bd hl k0 (fun j hj => (kk j hj).1) x2
  have p1 := ptAt_bd hl k1 (fun j hj => (kk j hj).2.1) x2
  have p2 := ptAt_bd hl k2 (fun j hj => (kk j hj).2.2) x2
  rw [← e3] at hq p0
  rw [← e4] at hq p1
  rw [← e5] at hq p2
  refine ⟨⟨ht, hc⟩, fun x6 e6 => ?_⟩
  rw [← e6] at hq
  have q0 := motr_bd ma.1.1 ma.2.1 (p := x3) (by omega)
  have q1 := motr_bd mb.1.1 mb.2.1 (p := x4) (by omega)
  have q2 := motr_bd mc.1.1 mc.2.1 (p := x5) (by omega)
  refine ⟨⟨ma.1, ma.2.1, by omega⟩, fun x7 e7 => ?_⟩
  rw [← e7] at hq q0
  rcases tfind_spec ht hc.2 with ⟨h1, h2⟩ | ⟨j, h1, h2, h3, h4⟩
  · have hx6 : x6 < 0 := by omega
    rw [if_pos hx6, if_pos hx6, if_pos hx6] at hq
    have w0 := bsh_bd (d := d0) ma.2.2
    have w1 := bsh_bd (d := d1) mb.2.2
    have w2 := bsh_bd (d := d2) mc.2.2
    have no : ∀ {P : Prop}, decide (x6 < 0) = false → P := fun g => absurd hx6 (of_decide_eq_false g)
    refine ⟨fun _ => ⟨ma.2.2, fun x8 e8 => ⟨by omega, fun x9 e9 => ⟨⟨mb.1, mb.2.1, by omega⟩, fun x10 e10 => ⟨fun _ => ⟨mb.2.2, fun x11 e11 => ⟨by omega, fun x12 e12 => ⟨⟨mc.1, mc.2.1, by omega⟩, fun x13 e13 => ⟨fun _ => ⟨mc.2.2, fun x14 e14 => ⟨by omega, fun x15 e15 => ?_⟩⟩, no⟩⟩⟩⟩, no⟩⟩⟩⟩, no⟩
    rw [← e8, ← e10, ← e11, ← e13, ← e14, ← e9, ← e12, ← e15] at hq
    exact hq
  · have hx6 : ¬ x6 < 0 := by omega
    rw [if_neg hx6, if_neg hx6, if_neg hx6] at hq
    have hj : x6.toNat = j := by omega
    rw [hj] at hq ⊢
    have a := at_bd ht h1
    have hat : ec pk j 0 ≤ x1 := by
      cases j with
      | zero => have := (ht.2.2.2.1 (by omega)).1; omega
      | succ i =>
        have := h4 i (by omega)
        have := ht.2.2.2.2.1 i h1
        omega
    have a0 : -18014398509481984 ≤ el pk j ∧ el pk j ≤ 18014398509481984 := by
      have : el pk j = ec pk j 0 := rfl
      omega
    have yes : ∀ {P : Prop}, decide (x6 < 0) = true → P := fun g => absurd (of_decide_eq_true g) hx6
    have w0 := tsh_bd (mv := ec pk j 3) (w := ec pk j 4) (d := ec pk j 7) ma.2.2 hat
    have w1 := tsh_bd (mv := ec pk j 3) (w := ec pk j 5) (d := ec pk j 8) mb.2.2 hat
    have w2 := tsh_bd (mv := ec pk j 3) (w := ec pk j 6) (d := ec pk j 9) mc.2.2 hat
    have hin : 0 ≤ x6 ∧ x6 < (pk.length : Int) := by omega
    have hx1 : -18014398509481984 ≤ x1 ∧ x1 ≤ 18014398509481984 := by omega
    refine ⟨yes, fun _ => ⟨hin, ⟨by decide, ma.2.2, hx1, a0⟩, fun y0 f0 => ?_⟩⟩
    have f0 : y0 = tsh bla (ec pk j 3) (ec pk j 4) (ec pk j 7) (ec pk j 0) x1 := f0
    rw [← f0] at w0
    refine ⟨by omega, fun z0 g0 => ⟨⟨mb.1, mb.2.1, by omega⟩, fun x10 e10 => ⟨yes, fun _ => ⟨hin, ⟨by decide, mb.2.2, hx1, a0⟩, fun y1 f1 => ?_⟩⟩⟩⟩
    have f1 : y1 = tsh blb (ec pk j 3) (ec pk j 5) (ec pk j 8) (ec pk j 0) x1 := f1
    rw [← f1] at w1
    refine ⟨by omega, fun z1 g1 => ⟨⟨mc.1, mc.2.1, by omega⟩, fun x20 e20 => ⟨yes, fun _ => ⟨hin, ⟨by decide, mc.2.2, hx1, a0⟩, fun y2 f2 => ?_⟩⟩⟩⟩
    have f2 : y2 = tsh blc (ec pk j 3) (ec pk j 6) (ec pk j 9) (ec pk j 0) x1 := f2
    rw [← f2] at w2
    refine ⟨by omega, fun z2 g2 => ?_⟩
    rw [g0, g1, g2, f0, f1, f2, e10, e20]
    exact hq
end Go.Proofs.YtneingpnkdeooaaGreat
namespace U
open Go
def pl1 (u k n w : Int) : List (List Int) := if n ≠ w then [[u, k, n - w]] else []
def plAt (M0 M1 M2 : Int → Int) (u : Int) : List (List Int) := pl1 u 0 (M0 u) (M0 (u - 1)) ++ pl1 u 1 (M1 u) (M1 (u - 1)) ++ pl1 u 2 (M2 u) (M2 (u - 1))
def plN (M0 M1 M2 : Int → Int) (a : Int) : Nat → List (List Int)
  | 0 => []
  | n + 1 => plN M0 M1 M2 a n ++ plAt M0 M1 M2 (a + (n : Int) + 1)
def mtr (st og sg : Int) (pt : List (List Int)) (bl s : Int) (sgs : List (List Int)) (c : Nat) (pk : List (List Int)) (sa d : Int) (u : Int) : Int := tmot st og sg pt bl (ptAt s sgs c (tplace pk sa u)) pk d u c
end U
namespace Go.Proofs.YtneingpnkdeooaaGreat
open Go Go.HL U
def SBetween (hargs : List HV) (pars : List (List HC)) : SR :=
  match hargs, pars with
  | [.agg [.int .i64 s0, .int .i64 s1, .int .i64 s2, .sl false [4, 4, 4, 4, 4, 4, 4] sg, .sl false [4, 4, 4] mk], .agg ax, .agg [.sl false [4, 4, 4, 4, 4, 4, 4, 4, 4, 4] pk, .int .i64 ln, .int .i64 sa, .int .i64 d0, .int .i64 d1, .int .i64 d2], .ce (.int .i64 f), .ce (.int .i64 t)], [] =>
    match ax with
    | [.int .i64 sta, .int .i64 spa, .int .i64 aca, .int .i64 jea, .int .i64 loa, .int .i64 hia, .int .i64 bla, .int .i64 oga, .int .i64 sga, .sl false [4] pta, .int .i64 stb, .int .i64 spb, .int .i64 acb, .int .i64 jeb, .int .i64 lob, .int .i64 hib, .int .i64 blb, .int .i64 ogb, .int .i64 sgb, .sl false [4] ptb, .int .i64 stc, .int .i64 spc, .int .i64 acc, .int .i64 jec, .int .i64 loc, .int .i64 hic, .int .i64 blc, .int .i64 ogc, .int .i64 sgc, .sl false [4] ptc] =>
      .all ((okLen sg ∧ okPts s0 s1 s2 sg ∧ okTrk pk ln ∧ okMA sta oga sga pta bla ∧ okMA stb ogb sgb ptb blb ∧ okMA stc ogc sgc ptc blc ∧ (0 ≤ sa ∧ sa ≤ 18014398509481984)) ∧ ln ≤ 1099511627776) (List (List Int))
        (fun x => x = plN (mtr sta oga sga pta bla s0 sg 0 pk sa d0) (mtr stb ogb sgb ptb blb s1 sg 1 pk sa d1) (mtr stc ogc sgc ptc blc s2 sg 2 pk sa d2) (clamp ln f) (clamp ln t - clamp ln f).toNat)
        (fun x => ⟨.ce (.sl false [4, 4, 4] x), true, [], []⟩)
    | _ => .fail
  | _, _ => .fail
def tabBtw : List (FuncId × HL.Spec) := [(19, SMotors)]
def anBtw : LAnn := ⟨[4, 5, 6, 7, 11, 100011, 12, 13], [11, 100011], [1000005, 1000006, 1000007, 1000012], false⟩
def LBtw (v : LV) : LR :=
  match v with
  | ([.ce (.int .i64 t), .ce (.ptr 1000005 0), .ce (.ptr 1000006 0), .ce (.ptr 1000007 0), .ce (.sl false [4, 4, 4] l), .ce (.lit true), .ce (.ptr 1000012 0), .ce (.int .i64 u)], [[.int .i64 s0, .int .i64 s1, .int .i64 s2, .sl false [4, 4, 4, 4, 4, 4, 4] sg, .sl false [4, 4, 4] mk], ax, tr, [.int .i64 w0, .int .i64 w1, .int .i64 w2]]) =>
    match ax with
    | [.int .i64 sta, .int .i64 spa, .int .i64 aca, .int .i64 jea, .int .i64 loa, .int .i64 hia, .int .i64 bla, .int .i64 oga, .int .i64 sga, .sl false [4] pta, .int .i64 stb, .int .i64 spb, .int .i64 acb, .int .i64 jeb, .int .i64 lob, .int .i64 hib, .int .i64 blb, .int .i64 ogb, .int .i64 sgb, .sl false [4] ptb, .int .i64 stc, .int .i64 spc, .int .i64 acc, .int .i64 jec, .int .i64 loc, .int .i64 hic, .int .i64 blc, .int .i64 ogc, .int .i64 sgc, .sl false [4] ptc] => match tr with
      | [.sl false [4, 4, 4, 4, 4, 4, 4, 4, 4, 4] pk, .int .i64 ln, .int .i64 sa, .int .i64 d0, .int .i64 d1, .int .i64 d2] =>
        .all ((okLen sg ∧ okPts s0 s1 s2 sg ∧ okTrk pk ln ∧ okMA sta oga sga pta bla ∧ okMA stb ogb sgb ptb blb ∧ okMA stc ogc sgc ptc blc ∧ (0 ≤ sa ∧ sa ≤ 18014398509481984)) ∧ ln ≤ 1099511627776 ∧ (0 ≤ u ∧ u ≤ ln) ∧ (0 ≤ t ∧ t ≤ ln) ∧ l.length = 0 ∧
            w0 = mtr sta oga sga pta bla s0 sg 0 pk sa d0 u ∧ w1 = mtr stb ogb sgb ptb blb s1 sg 1 pk sa d1 u ∧ w2 = mtr stc ogc sgc ptc blc s2 sg 2 pk sa d2 u)
          (List (List Int) × Int × Int × Int) (fun x => x.1 = plN (mtr sta oga sga pta bla s0 sg 0 pk sa d0) (mtr stb ogb sgb ptb blb s1 sg 1 pk sa d1) (mtr stc ogc sgc ptc blc s2 sg 2 pk sa d2) u (t - u).toNat) (fun _ => .exit 0)
          (fun x => ([.ce (.sl false [4, 4, 4] x.1), .ce (.lit true)], [[.int .i64 s0, .int .i64 s1, .int .i64 s2, .sl false [4, 4, 4, 4, 4, 4, 4] sg, .sl false [4, 4, 4] mk], [.int .i64 sta, .int .i64 spa, .int .i64 aca, .int .i64 jea, .int .i64 loa, .int .i64 hia, .int .i64 bla, .int .i64 oga, .int .i64 sga, .sl false [4] pta, .int .i64 stb, .int .i64 spb, .int .i64 acb, .int .i64 jeb, .int .i64 lob, .int .i64 hib, .int .i64 blb, .int .i64 ogb, .int .i64 sgb, .sl false [4] ptb, .int .i64 stc, .int .i64 spc, .int .i64 acc, .int .i64 jec, .int .i64 loc, .int .i64 hic, .int .i64 blc, .int .i64 ogc, .int .i64 sgc, .sl false [4] ptc], [.sl false [4, 4, 4, 4, 4, 4, 4, 4, 4, 4] pk, .int .i64 ln, .int .i64 sa, .int .i64 d0, .int .i64 d1, .int .i64 d2], [.int .i64 x.2.1, .int .i64 x.2.2.1, .int .i64 x.2.2.2]]))
      | _ => .fail
    | _ => .fail
  | _ => .fail
noncomputable def CBtw : Ctx := ⟨Tryz.prog, gam tabBtw, Tryz.f13.ntmps, [(5, anBtw, LBtw), (4000009, unrT [1000005, 1000006, 1000007, 1000012, 1000014], fun _ => .fail)], []⟩
theorem vbBtw (s0 s1 s2 t u ln sa d0 d1 d2 w0 w1 w2 : Int) (sg mk pk l : List (List Int)) (sta spa aca jea loa hia bla oga sga stb spb acb jeb lob hib blb ogb sgb stc spc acc jec loc hic blc ogc sgc : Int) (pta ptb ptc : List (List Int)) (K : HEx → LV → Prop) : (nbodyT true CBtw anBtw (nthLoop Tryz.f13 0) (([.ce (.int .i64 t), .ce (.ptr 1000005 0), .ce (.ptr 1000006 0), .ce (.ptr 1000007 0), .ce (.sl false [4, 4, 4] l), .ce (.lit true), .ce (.ptr 1000012 0), .ce (.int .i64 u)], [[.int .i64 s0, .int .i64 s1, .int .i64 s2, .sl false [4, 4, 4, 4, 4, 4, 4] sg, .sl false [4, 4, 4] mk], [.int .i64 sta, .int .i64 spa, .int .i64 aca, .int .i64 jea, .int .i64 loa, .int .i64 hia, .int .i64 bla, .int .i64 oga, .int .i64 sga, .sl false [4] pta, .int .i64 stb, .int .i64 spb, .int .i64 acb, .int .i64 jeb, .int .i64 lob, .int .i64 hib, .int .i64 blb, .int .i64 ogb, .int .i64 sgb, .sl false [4] ptb, .int .i64 stc, .int .i64 spc, .int .i64 acc, .int .i64 jec, .int .i64 loc, .int .i64 hic, .int .i64 blc, .int .i64 ogc, .int .i64 sgc, .sl false [4] ptc], [.sl false [4, 4, 4, 4, 4, 4, 4, 4, 4, 4] pk, .int .i64 ln, .int .i64 sa, .int .i64 d0, .int .i64 d1, .int .i64 d2], [.int .i64 w0, .int .i64 w1, .int .i64 w2]])) K) =
    ((decide (u < t) = true → (-9223372036854775808 ≤ u + 1 ∧ u + 1 ≤ 9223372036854775807) ∧ ∀ (x1 : Int), x1 = u + 1 → (okLen sg ∧ okPts s0 s1 s2 sg ∧ okTrk pk ln ∧ okMA sta oga sga pta bla ∧ okMA stb ogb sgb ptb blb ∧ okMA stc ogc sgc ptc blc ∧ 0 ≤ sa ∧ sa ≤ 18014398509481984) ∧ ∀ (x2 : Int), x2 = tmot sta oga sga pta bla (ptAt s0 sg (0 : Nat) (tplace pk sa (clamp ln x1))) pk d0 (clamp ln x1) (0 : Nat) → ∀ (x3 : Int), x3 = tmot stb ogb sgb ptb blb (ptAt s1 sg (1 : Nat) (tplace pk sa (clamp ln x1))) pk d1 (clamp ln x1) (1 : Nat) → ∀ (x4 : Int), x4 = tmot stc ogc sgc ptc blc (ptAt s2 sg (2 : Nat) (tplace pk sa (clamp ln x1))) pk d2 (clamp ln x1) (2 : Nat) → ((x2 != w0) = true → (-9223372036854775808 ≤ x2 - w0 ∧ x2 - w0 ≤ 9223372036854775807) ∧ ∀ (x5 : Int), x5 = x2 - w0 → ((List.length l + (1 : Nat)) * (24 : Nat) ≤ (140737488355328 : Nat) ∧ List.length l + (1 : Nat) ≤ maxLen) ∧ ((x3 != w1) = true →
    (-9223372036854775808 ≤ x3 - w1 ∧ x3 - w1 ≤ 9223372036854775807) ∧ ∀ (x6 : Int), x6 = x3 - w1 → ((List.length (l ++ [[x1, (0 : Int), x5]]) + (1 : Nat)) * (24 : Nat) ≤ (140737488355328 : Nat) ∧ List.length (l ++ [[x1, (0 : Int), x5]]) + (1 : Nat) ≤ maxLen) ∧ ((x4 != w2) = true → (-9223372036854775808 ≤ x4 - w2 ∧ x4 - w2 ≤ 9223372036854775807) ∧ ∀ (x7 : Int), x7 = x4 - w2 → ((List.length (l ++ [[x1, (0 : Int), x5]] ++ [[x1, (1 : Int), x6]]) + (1 : Nat)) * (24 : Nat) ≤ (140737488355328 : Nat) ∧ List.length (l ++ [[x1, (0 : Int), x5]] ++ [[x1, (1 : Int), x6]]) + (1 : Nat) ≤ maxLen) ∧ K .normal ([.ce (.int .i64 t), .ce (.ptr 1000005 0), .ce (.ptr 1000006 0), .ce (.ptr 1000007 0), .ce (.sl false [4, 4, 4] (l ++ [[x1, (0 : Int), x5]] ++ [[x1, (1 : Int), x6]] ++ [[x1, (2 : Int), x7]])), .ce (.lit true), .ce (.ptr 1000012 0), .ce (.int .i64 x1)], [[.int .i64 s0, .int .i64 s1, .int .i64 s2, .sl false [4, 4, 4, 4, 4, 4, 4] sg, .sl false [4, 4, 4] mk], [.int .i64 sta, .int .i64 spa, .int .i64 aca, .int .i64 jea, .int .i64 loa, .int .i64 hia, .int .i64 bla, .int .i64 oga, .int .i64 sga, .sl false [4] pta, .int .i64 stb, .int .i64 spb, .int .i64 acb, .int .i64 jeb, .int .i64 lob, .int .i64 hib, .int .i64 blb, .int .i64 ogb, .int .i64 sgb, .sl false [4] ptb, .int .i64 stc, .int .i64 spc, .int .i64 acc, .int .i64 jec, .int .i64 loc, .int .i64 hic, .int .i64 blc, .int .i64 ogc, .int .i64 sgc, .sl false [4] ptc], [.sl false [4, 4, 4, 4, 4, 4, 4, 4, 4, 4] pk, .int .i64 ln, .int .i64 sa, .int .i64 d0, .int .i64 d1, .int .i64 d2], [.int .i64 x2, .int .i64 x3, .int .i64 x4]])) ∧
    ((x4 != w2) = false → K .normal ([.ce (.int .i64 t), .ce (.ptr 1000005 0), .ce (.ptr 1000006 0), .ce (.ptr 1000007 0), .ce (.sl false [4, 4, 4] (l ++ [[x1, (0 : Int), x5]] ++ [[x1, (1 : Int), x6]])), .ce (.lit true), .ce (.ptr 1000012 0), .ce (.int .i64 x1)], [[.int .i64 s0, .int .i64 s1, .int .i64 s2, .sl false [4, 4, 4, 4, 4, 4, 4] sg, .sl false [4, 4, 4] mk], [.int .i64 sta, .int .i64 spa, .int .i64 aca, .int .i64 jea, .int .i64 loa, .int .i64 hia, .int .i64 bla, .int .i64 oga, .int .i64 sga, .sl false [4] pta, .int .i64 stb, .int .i64 spb, .int .i64 acb, .int .i64 jeb, .int .i64 lob, .int .i64 hib, .int .i64 blb, .int .i64 ogb, .int .i64 sgb, .sl false [4] ptb, .int .i64 stc, .int .i64 spc, .int .i64 acc, .int .i64 jec, .int .i64 loc, .int .i64 hic, .int .i64 blc, .int .i64 ogc, .int .i64 sgc, .sl false [4] ptc], [.sl false [4, 4, 4, 4, 4, 4, 4, 4, 4, 4] pk, .int .i64 ln, .int .i64 sa, .int .i64 d0, .int .i64 d1, .int .i64 d2], [.int .i64 x2, .int .i64 x3, .int .i64 x4]]))) ∧
    ((x3 != w1) = false → ((x4 != w2) = true → (-9223372036854775808 ≤ x4 - w2 ∧ x4 - w2 ≤ 9223372036854775807) ∧ ∀ (x8 : Int), x8 = x4 - w2 → ((List.length (l ++ [[x1, (0 : Int), x5]]) + (1 : Nat)) * (24 : Nat) ≤ (140737488355328 : Nat) ∧ List.length (l ++ [[x1, (0 : Int), x5]]) + (1 : Nat) ≤ maxLen) ∧ K .normal ([.ce (.int .i64 t), .ce (.ptr 1000005 0), .ce (.ptr 1000006 0), .ce (.ptr 1000007 0), .ce (.sl false [4, 4, 4] (l ++ [[x1, (0 : Int), x5]] ++ [[x1, (2 : Int), x8]])), .ce (.lit true), .ce (.ptr 1000012 0), .ce (.int .i64 x1)], [[.int .i64 s0, .int .i64 s1, .int .i64 s2, .sl false [4, 4, 4, 4, 4, 4, 4] sg, .sl false [4, 4, 4] mk], [.int .i64 sta, .int .i64 spa, .int .i64 aca, .int .i64 jea, .int .i64 loa, .int .i64 hia, .int .i64 bla, .int .i64 oga, .int .i64 sga, .sl false [4] pta, .int .i64 stb, .int .i64 spb, .int .i64 acb, .int .i64 jeb, .int .i64 lob, .int .i64 hib, .int .i64 blb, .int .i64 ogb, .int .i64 sgb, .sl false [4] ptb, .int .i64 stc, .int .i64 spc, .int .i64 acc, .int .i64 jec, .int .i64 loc, .int .i64 hic, .int .i64 blc, .int .i64 ogc, .int .i64 sgc, .sl false [4] ptc], [.sl false [4, 4, 4, 4, 4, 4, 4, 4, 4, 4] pk, .int .i64 ln, .int .i64 sa, .int .i64 d0, .int .i64 d1, .int .i64 d2], [.int .i64 x2, .int .i64 x3, .int .i64 x4]])) ∧
    ((x4 != w2) = false → K .normal ([.ce (.int .i64 t), .ce (.ptr 1000005 0), .ce (.ptr 1000006 0), .ce (.ptr 1000007 0), .ce (.sl false [4, 4, 4] (l ++ [[x1, (0 : Int), x5]])), .ce (.lit true), .ce (.ptr 1000012 0), .ce (.int .i64 x1)], [[.int .i64 s0, .int .i64 s1, .int .i64 s2, .sl false [4, 4, 4, 4, 4, 4, 4] sg, .sl false [4, 4, 4] mk], [.int .i64 sta, .int .i64 spa, .int .i64 aca, .int .i64 jea, .int .i64 loa, .int .i64 hia, .int .i64 bla, .int .i64 oga, .int .i64 sga, .sl false [4] pta, .int .i64 stb, .int .i64 spb, .int .i64 acb, .int .i64 jeb, .int .i64 lob, .int .i64 hib, .int .i64 blb, .int .i64 ogb, .int .i64 sgb, .sl false [4] ptb, .int .i64 stc, .int .i64 spc, .int .i64 acc, .int .i64 jec, .int .i64 loc, .int .i64 hic, .int .i64 blc, .int .i64 ogc, .int .i64 sgc, .sl false [4] ptc], [.sl false [4, 4, 4, 4, 4, 4, 4, 4, 4, 4] pk, .int .i64 ln, .int .i64 sa, .int .i64 d0, .int .i64 d1, .int .i64 d2], [.int .i64 x2, .int .i64 x3, .int .i64 x4]])))) ∧
    ((x2 != w0) = false → ((x3 != w1) = true → (-9223372036854775808 ≤ x3 - w1 ∧ x3 - w1 ≤ 9223372036854775807) ∧ ∀ (x9 : Int), x9 = x3 - w1 → ((List.length l + (1 : Nat)) * (24 : Nat) ≤ (140737488355328 : Nat) ∧ List.length l + (1 : Nat) ≤ maxLen) ∧ ((x4 != w2) = true → (-9223372036854775808 ≤ x4 - w2 ∧ x4 - w2 ≤ 9223372036854775807) ∧ ∀ (x10 : Int), x10 = x4 - w2 → ((List.length (l ++ [[x1, (1 : Int), x9]]) + (1 : Nat)) * (24 : Nat) ≤ (140737488355328 : Nat) ∧ List.length (l ++ [[x1, (1 : Int), x9]]) + (1 : Nat) ≤ maxLen) ∧ K .normal ([.ce (.int .i64 t), .ce (.ptr 1000005 0), .ce (.ptr 1000006 0), .ce (.ptr 1000007 0), .ce (.sl false [4, 4, 4] (l ++ [[x1, (1 : Int), x9]] ++ [[x1, (2 : Int), x10]])), .ce (.lit true), .ce (.ptr 1000012 0), .ce (.int .i64 x1)], [[.int .i64 s0, .int .i64 s1, .int .i64 s2, .sl false [4, 4, 4, 4, 4, 4, 4] sg, .sl false [4, 4, 4] mk], [.int .i64 sta, .int .i64 spa, .int .i64 aca, .int .i64 jea, .int .i64 loa, .int .i64 hia, .int .i64 bla, .int .i64 oga, .int .i64 sga, .sl false [4] pta, .int .i64 stb, .int .i64 spb, .int .i64 acb, .int .i64 jeb, .int .i64 lob, .int .i64 hib, .int .i64 blb, .int .i64 ogb, .int .i64 sgb, .sl false [4] ptb, .int .i64 stc, .int .i64 spc, .int .i64 acc, .int .i64 jec, .int .i64 loc, .int .i64 hic, .int .i64 blc, .int .i64 ogc, .int .i64 sgc, .sl false [4] ptc], [.sl false [4, 4, 4, 4, 4, 4, 4, 4, 4, 4] pk, .int .i64 ln, .int .i64 sa, .int .i64 d0, .int .i64 d1, .int .i64 d2], [.int .i64 x2, .int .i64 x3, .int .i64 x4]])) ∧
    ((x4 != w2) = false → K .normal ([.ce (.int .i64 t), .ce (.ptr 1000005 0), .ce (.ptr 1000006 0), .ce (.ptr 1000007 0), .ce (.sl false [4, 4, 4] (l ++ [[x1, (1 : Int), x9]])), .ce (.lit true), .ce (.ptr 1000012 0), .ce (.int .i64 x1)], [[.int .i64 s0, .int .i64 s1, .int .i64 s2, .sl false [4, 4, 4, 4, 4, 4, 4] sg, .sl false [4, 4, 4] mk], [.int .i64 sta, .int .i64 spa, .int .i64 aca, .int .i64 jea, .int .i64 loa, .int .i64 hia, .int .i64 bla, .int .i64 oga, .int .i64 sga, .sl false [4] pta, .int .i64 stb, .int .i64 spb, .int .i64 acb, .int .i64 jeb, .int .i64 lob, .int .i64 hib, .int .i64 blb, .int .i64 ogb, .int .i64 sgb, .sl false [4] ptb, .int .i64 stc, .int .i64 spc, .int .i64 acc, .int .i64 jec, .int .i64 loc, .int .i64 hic, .int .i64 blc, .int .i64 ogc, .int .i64 sgc, .sl false [4] ptc], [.sl false [4, 4, 4, 4, 4, 4, 4, 4, 4, 4] pk, .int .i64 ln, .int .i64 sa, .int .i64 d0, .int .i64 d1, .int .i64 d2], [.int .i64 x2, .int .i64 x3, .int .i64 x4]]))) ∧
    ((x3 != w1) = false → ((x4 != w2) = true → (-9223372036854775808 ≤ x4 - w2 ∧ x4 - w2 ≤ 9223372036854775807) ∧ ∀ (x11 : Int), x11 = x4 - w2 → ((List.length l + (1 : Nat)) * (24 : Nat) ≤ (140737488355328 : Nat) ∧ List.length l + (1 : Nat) ≤ maxLen) ∧ K .normal ([.ce (.int .i64 t), .ce (.ptr 1000005 0), .ce (.ptr 1000006 0), .ce (.ptr 1000007 0), .ce (.sl false [4, 4, 4] (l ++ [[x1, (2 : Int), x11]])), .ce (.lit true), .ce (.ptr 1000012 0), .ce (.int .i64 x1)], [[.int .i64 s0, .int .i64 s1, .int .i64 s2, .sl false [4, 4, 4, 4, 4, 4, 4] sg, .sl false [4, 4, 4] mk], [.int .i64 sta, .int .i64 spa, .int .i64 aca, .int .i64 jea, .int .i64 loa, .int .i64 hia, .int .i64 bla, .int .i64 oga, .int .i64 sga, .sl false [4] pta, .int .i64 stb, .int .i64 spb, .int .i64 acb, .int .i64 jeb, .int .i64 lob, .int .i64 hib, .int .i64 blb, .int .i64 ogb, .int .i64 sgb, .sl false [4] ptb, .int .i64 stc, .int .i64 spc, .int .i64 acc, .int .i64 jec, .int .i64 loc, .int .i64 hic, .int .i64 blc, .int .i64 ogc, .int .i64 sgc, .sl false [4] ptc], [.sl false [4, 4, 4, 4, 4, 4, 4, 4, 4, 4] pk, .int .i64 ln, .int .i64 sa, .int .i64 d0, .int .i64 d1, .int .i64 d2], [.int .i64 x2, .int .i64 x3, .int .i64 x4]])) ∧
    ((x4 != w2) = false → K .normal ([.ce (.int .i64 t), .ce (.ptr 1000005 0), .ce (.ptr 1000006 0), .ce (.ptr 1000007 0), .ce (.sl false [4, 4, 4] l), .ce (.lit true), .ce (.ptr 1000012 0), .ce (.int .i64 x1)], [[.int .i64 s0, .int .i64 s1, .int .i64 s2, .sl false [4, 4, 4, 4, 4, 4, 4] sg, .sl false [4, 4, 4] mk], [.int .i64 sta, .int .i64 spa, .int .i64 aca, .int .i64 jea, .int .i64 loa, .int .i64 hia, .int .i64 bla, .int .i64 oga, .int .i64 sga, .sl false [4] pta, .int .i64 stb, .int .i64 spb, .int .i64 acb, .int .i64 jeb, .int .i64 lob, .int .i64 hib, .int .i64 blb, .int .i64 ogb, .int .i64 sgb, .sl false [4] ptb, .int .i64 stc, .int .i64 spc, .int .i64 acc, .int .i64 jec, .int .i64 loc, .int .i64 hic, .int .i64 blc, .int .i64 ogc, .int .i64 sgc, .sl false [4] ptc], [.sl false [4, 4, 4, 4, 4, 4, 4, 4, 4, 4] pk, .int .i64 ln, .int .i64 sa, .int .i64 d0, .int .i64 d1, .int .i64 d2], [.int .i64 x2, .int .i64 x3, .int .i64 x4]]))))) ∧
    (decide (u < t) = false → K (.exit 0) ([.ce (.sl false [4, 4, 4] l), .ce (.lit true)], [[.int .i64 s0, .int .i64 s1, .int .i64 s2, .sl false [4, 4, 4, 4, 4, 4, 4] sg, .sl false [4, 4, 4] mk], [.int .i64 sta, .int .i64 spa, .int .i64 aca, .int .i64 jea, .int .i64 loa, .int .i64 hia, .int .i64 bla, .int .i64 oga, .int .i64 sga, .sl false [4] pta, .int .i64 stb, .int .i64 spb, .int .i64 acb, .int .i64 jeb, .int .i64 lob, .int .i64 hib, .int .i64 blb, .int .i64 ogb, .int .i64 sgb, .sl false [4] ptb, .int .i64 stc, .int .i64 spc, .int .i64 acc, .int .i64 jec, .int .i64 loc, .int .i64 hic, .int .i64 blc, .int .i64 ogc, .int .i64 sgc, .sl false [4] ptc], [.sl false [4, 4, 4, 4, 4, 4, 4, 4, 4, 4] pk, .int .i64 ln, .int .i64 sa, .int .i64 d0, .int .i64 d1, .int .i64 d2], [.int .i64 w0, .int .i64 w1, .int .i64 w2]]))) := by kernel_rfl
theorem vcBtw (s0 s1 s2 f t ln sa d0 d1 d2 : Int) (sg mk pk : List (List Int)) (sta spa aca jea loa hia bla oga sga stb spb acb jeb lob hib blb ogb sgb stc spc acc jec loc hic blc ogc sgc : Int) (pta ptb ptc : List (List Int)) (Q : Res → Prop) : (nfun true CBtw Tryz.f13 (bodyOf Tryz.f13) [.agg [.int .i64 s0, .int .i64 s1, .int .i64 s2, .sl false [4, 4, 4, 4, 4, 4, 4] sg, .sl false [4, 4, 4] mk], .agg [.int .i64 sta, .int .i64 spa, .int .i64 aca, .int .i64 jea, .int .i64 loa, .int .i64 hia, .int .i64 bla, .int .i64 oga, .int .i64 sga, .sl false [4] pta, .int .i64 stb, .int .i64 spb, .int .i64 acb, .int .i64 jeb, .int .i64 lob, .int .i64 hib, .int .i64 blb, .int .i64 ogb, .int .i64 sgb, .sl false [4] ptb, .int .i64 stc, .int .i64 spc, .int .i64 acc, .int .i64 jec, .int .i64 loc, .int .i64 hic, .int .i64 blc, .int .i64 ogc, .int .i64 sgc, .sl false [4] ptc], .agg [.sl false [4, 4, 4, 4, 4, 4, 4, 4, 4, 4] pk, .int .i64 ln, .int .i64 sa, .int .i64 d0, .int .i64 d1, .int .i64 d2], .ce (.int .i64 f), .ce (.int .i64 t)] [] Q) =
    (∀ (x1 : Int), x1 = min f ln → ∀ (x2 : Int), x2 = max (0 : Int) x1 → ∀ (x3 : Int), x3 = min t ln → ∀ (x4 : Int), x4 = max (0 : Int) x3 → (okLen sg ∧ okPts s0 s1 s2 sg ∧ okTrk pk ln ∧ okMA sta oga sga pta bla ∧ okMA stb ogb sgb ptb blb ∧ okMA stc ogc sgc ptc blc ∧ 0 ≤ sa ∧ sa ≤ 18014398509481984) ∧ ∀ (x5 : Int), x5 = tmot sta oga sga pta bla (ptAt s0 sg (0 : Nat) (tplace pk sa (clamp ln x2))) pk d0 (clamp ln x2) (0 : Nat) → ∀ (x6 : Int), x6 = tmot stb ogb sgb ptb blb (ptAt s1 sg (1 : Nat) (tplace pk sa (clamp ln x2))) pk d1 (clamp ln x2) (1 : Nat) → ∀ (x7 : Int), x7 = tmot stc ogc sgc ptc blc (ptAt s2 sg (2 : Nat) (tplace pk sa (clamp ln x2))) pk d2 (clamp ln x2) (2 : Nat) → ((okLen sg ∧ okPts s0 s1 s2 sg ∧ okTrk pk ln ∧ okMA sta oga sga pta bla ∧ okMA stb ogb sgb ptb blb ∧ okMA stc ogc sgc ptc blc ∧ 0 ≤ sa ∧ sa ≤ 18014398509481984) ∧ ln ≤ 1099511627776 ∧ (0 ≤ x2 ∧ x2 ≤ ln) ∧ (0 ≤ x4 ∧ x4 ≤ ln) ∧
    (0 : Nat) = (0 : Nat) ∧ x5 = mtr sta oga sga pta bla s0 sg (0 : Nat) pk sa d0 x2 ∧ x6 = mtr stb ogb sgb ptb blb s1 sg (1 : Nat) pk sa d1 x2 ∧ x7 = mtr stc ogc sgc ptc blc s2 sg (2 : Nat) pk sa d2 x2) ∧ ∀ (x : List (List Int) × Int × Int × Int), x.1 = plN (mtr sta oga sga pta bla s0 sg (0 : Nat) pk sa d0) (mtr stb ogb sgb ptb blb s1 sg (1 : Nat) pk sa d1) (mtr stc ogc sgc ptc blc s2 sg (2 : Nat) pk sa d2) x2 (Int.toNat (x4 - x2)) → Q ⟨.ce (.sl false [4, 4, 4] x.1), true, [], []⟩) := by kernel_rfl
end Go.Proofs.YtneingpnkdeooaaGreat
namespace U
def okT (pk : List (List Int)) (ln : Int) : Prop :=
  (pk.length = 0 → ln = 0) ∧ (0 < pk.length → ec pk 0 0 = 0 ∧ endp pk (pk.length - 1) = ln) ∧
  (∀ j, j + 1 < pk.length → ec pk (j + 1) 0 = endp pk j) ∧ ∀ j, j < pk.length → 1 ≤ ec pk j 1 ∧ (0 ≤ ec pk j 2 ∧ ec pk j 2 ≤ 18014398509481984) ∧ (-1 ≤ ec pk j 3 ∧ ec pk j 3 ≤ 1)
theorem tadd_okT {pk : List (List Int)} {ln q0 q1 q2 q3 q4 q5 q6 q7 q8 q9 : Int} (h : okT pk ln) (h1 : 1 ≤ q1) (h2 : 0 ≤ q2 ∧ q2 ≤ 18014398509481984) (h3 : -1 ≤ q3 ∧ q3 ≤ 1) : okT (tadd pk ln [q0, q1, q2, q3, q4, q5, q6, q7, q8, q9]).1 (tadd pk ln [q0, q1, q2, q3, q4, q5, q6, q7, q8, q9]).2 := by
  obtain ⟨a1, a2, a3, a4⟩ := h
  by_cases hc : 0 < pk.length ∧ q3 ≠ 0 ∧ ec pk (pk.length - 1) 3 = q3 ∧ ec pk (pk.length - 1) 7 = q7 ∧ ec pk (pk.length - 1) 8 = q8 ∧ ec pk (pk.length - 1) 9 = q9
  · rw [tadd_more hc]
    have hp := hc.1
    have es : ∀ j c, ec (pk.set (pk.length - 1) (more (pk.getD (pk.length - 1) []) q1)) j c = if pk.length - 1 = j then (more (pk.getD (pk.length - 1) []) q1).getD c 0 else ec pk j c := fun j c => ec_set _ _ _ _ _ (by omega)
    have m0 : (more (pk.getD (pk.length - 1) []) q1).getD 0 0 = ec pk (pk.length - 1) 0 := rfl
    have m1 : (more (pk.getD (pk.length - 1) []) q1).getD 1 0 = ec pk (pk.length - 1) 1 + q1 := rfl
    have m2 : (more (pk.getD (pk.length - 1) []) q1).getD 2 0 = ec pk (pk.length - 1) 2 := rfl
    have m3 : (more (pk.getD (pk.length - 1) []) q1).getD 3 0 = ec pk (pk.length - 1) 3 := rfl
    have b2 := a2 hp
    refine ⟨fun h => ?_, fun _ => ⟨?_, ?_⟩, fun j hj => ?_, fun j hj => ?_⟩
    · dsimp only at h; rw [List.length_set] at h; omega
    · dsimp only; rw [es]
      split
      · rename_i e; rw [m0, e]; exact b2.1
      · exact b2.1
    · dsimp only; rw [List.length_set]
      unfold endp at b2 ⊢
      rw [es, es, if_pos rfl, if_pos rfl, m0, m1]
      omega
    · dsimp only at hj ⊢; rw [List.length_set] at hj
      unfold endp
      rw [es, es, es, if_neg (show ¬ pk.length - 1 = j by omega), if_neg (show ¬ pk.length - 1 = j by omega)]
      have := a3 j hj
      unfold endp at this
      split
      · rename_i e; rw [m0, e]; exact this
      · exact this
    · dsimp only at hj ⊢; rw [List.length_set] at hj
      rw [es, es, es]
      have := a4 j hj
      split
      · rename_i e; subst e; rw [m1, m2, m3]; omega
      · exact this
  · rw [tadd_app hc]
    have es : ∀ j c, ec (pk ++ [[ln, q1, q2, q3, q4, q5, q6, q7, q8, q9]]) j c = if j < pk.length then ec pk j c else ec [[ln, q1, q2, q3, q4, q5, q6, q7, q8, q9]] (j - pk.length) c := fun j c => ec_app _ _ _ _
    refine ⟨fun h => ?_, fun _ => ⟨?_, ?_⟩, fun j hj => ?_, fun j hj => ?_⟩
    · simp at h
    · dsimp only; rw [es]
      split
      · rename_i e; exact (a2 e).1
      · rename_i e
        have e0 : pk.length = 0 := by omega
        rw [e0]; show ln = 0
        exact a1 e0
    · dsimp only; rw [List.length_append]
      have e0 : pk.length + ([[ln, q1, q2, q3, q4, q5, q6, q7, q8, q9]] : List (List Int)).length - 1 = pk.length := by simp
      rw [e0]
      unfold endp
      rw [es, es, if_neg (by omega), if_neg (by omega), Nat.sub_self]
      show ln + q1 = ln + q1
      rfl
    · dsimp only at hj ⊢; rw [List.length_append] at hj
      have hj : j + 1 < pk.length + 1 := hj
      unfold endp
      rw [es, es, es, if_pos (show j < pk.length by omega), if_pos (show j < pk.length by omega)]
      split
      · rename_i e; have := a3 j e; unfold endp at this; exact this
      · rename_i e
        have hjl : j = pk.length - 1 := by omega
        have b2 := (a2 (by omega)).2
        unfold endp at b2
        rw [show j + 1 - pk.length = 0 by omega, hjl, b2]
        rfl
    · dsimp only at hj ⊢; rw [List.length_append] at hj
      have hj : j < pk.length + 1 := hj
      rw [es, es, es]
      split
      · rename_i e; exact a4 j e
      · rw [show j - pk.length = 0 by omega]
        exact ⟨h1, h2, h3⟩
theorem okT_seg {s0 s1 s2 : Int} {sg : List (List Int)} {b0 b1 b2 f t m : Int} {x : LegS} {i : Int} (hf : 0 ≤ f ∧ f ≤ 18014398509481984) (ht : 0 ≤ t ∧ t ≤ 18014398509481984) (hm : m = 1 ∨ m = -1) (h : okT x.pk x.ln) :
    okT (legSeg s0 s1 s2 sg b0 b1 b2 f t m x i).pk (legSeg s0 s1 s2 sg b0 b1 b2 f t m x i).ln := by
  unfold legSeg
  have hlow : 0 ≤ legLow x.bg (legE sg m x.bg i) f t := by unfold legLow; omega
  have hhigh : legHigh x.bg (legE sg m x.bg i) f t ≤ 18014398509481984 := by unfold legHigh; omega
  generalize legLow x.bg (legE sg m x.bg i) f t = low at *
  generalize legHigh x.bg (legE sg m x.bg i) f t = high at *
  unfold legPut
  split
  · rename_i hlh
    dsimp only
    have hs : 0 ≤ legS m low high ∧ legS m low high ≤ 18014398509481984 := by unfold legS; split <;> omega
    refine tadd_okT ?_ (by omega) hs (by omega)
    unfold legTk
    split
    · exact tadd_okT h (by omega) hs (by omega)
    · exact h
  · exact h
theorem okT_all {s0 s1 s2 : Int} {sg : List (List Int)} {b0 b1 b2 f t m : Int} {x : LegS} (hf : 0 ≤ f ∧ f ≤ 18014398509481984) (ht : 0 ≤ t ∧ t ≤ 18014398509481984) (hm : m = 1 ∨ m = -1) (h : okT x.pk x.ln) :
    ∀ k, okT (legK s0 s1 s2 sg b0 b1 b2 f t m x k).pk (legK s0 s1 s2 sg b0 b1 b2 f t m x k).ln
  | 0 => h
  | k + 1 => okT_seg hf ht hm (okT_all hf ht hm h k)
theorem leg_ok {s0 s1 s2 : Int} {sg : List (List Int)} {b0 b1 b2 d0 d1 d2 f t : Int} (hl : okLen sg) (hb : okB3 b0 b1 b2) (hf : 0 ≤ f ∧ f ≤ plen sg) (ht : 0 ≤ t ∧ t ≤ plen sg) :
    okTrk (leg s0 s1 s2 sg b0 b1 b2 d0 d1 d2 f t).pk (leg s0 s1 s2 sg b0 b1 b2 d0 d1 d2 f t).ln := by
  have hp := plen_le hl
  have hl1 := hl.1
  unfold leg
  have hm : legM f t = 1 ∨ legM f t = -1 := by unfold legM; split <;> omega
  have hbg : (legM f t = 1 → (if legM f t < 0 then plen sg else 0) = plen (sg.take 0)) ∧ (legM f t = -1 → (if legM f t < 0 then plen sg else 0) = plen (sg.take (sg.length - 0))) := by
    refine ⟨fun e => ?_, fun e => ?_⟩
    · rw [e]; rfl
    · rw [e, if_pos (by decide)]; simp
  generalize legM f t = m at *
  generalize (if m < 0 then plen sg else 0) = bg at *
  have J := legJ_all (s0 := s0) (s1 := s1) (s2 := s2) (f := f) (t := t) (x := ⟨[], 0, d0, d1, d2, bg⟩) hl hb hm ⟨⟨Int.le_refl _, by dsimp only; omega⟩, by simp, fun j hj => by simp at hj, hbg.1, hbg.2⟩ sg.length (Nat.le_refl _)
  have T := okT_all (s0 := s0) (s1 := s1) (s2 := s2) (sg := sg) (b0 := b0) (b1 := b1) (b2 := b2) (f := f) (t := t) (m := m) (x := ⟨[], 0, d0, d1, d2, bg⟩) (by omega) (by omega) hm ⟨fun _ => rfl, fun h => by simp at h, fun j hj => by simp at hj, fun j hj => by simp at hj⟩ sg.length
  exact ⟨by have := J.2.1; omega, by have := J.1; omega, T.1, T.2.1, T.2.2.1, T.2.2.2⟩
theorem at_le {pk : List (List Int)} {ln u : Int} (h : okTrk pk ln) (hu : 0 ≤ u) {j : Nat} (hj : j < pk.length) (hk : ∀ k, k < j → endp pk k < u) : ec pk j 0 ≤ u := by
  cases j with
  | zero => have := (h.2.2.2.1 (by omega)).1; omega
  | succ i =>
    have := hk i (by omega)
    have := h.2.2.2.2.1 i hj
    omega
theorem pl1_t {u k n w : Int} (h : (n != w) = true) : pl1 u k n w = [[u, k, n - w]] := by unfold pl1; rw [if_pos (by simpa using h)]
theorem pl1_f {u k n w : Int} (h : (n != w) = false) : pl1 u k n w = [] := by unfold pl1; rw [if_neg (by simpa using h)]
theorem pl1_len (u k n w : Int) : (pl1 u k n w).length ≤ 1 := by unfold pl1; split <;> simp
theorem plN_len (M0 M1 M2 : Int → Int) (a : Int) : ∀ n, (plN M0 M1 M2 a n).length ≤ 3 * n
  | 0 => by simp [plN]
  | n + 1 => by
    have h := plN_len M0 M1 M2 a n
    unfold plN plAt
    rw [List.length_append, List.length_append, List.length_append]
    have h0 := pl1_len (a + (n : Int) + 1) 0 (M0 (a + (n : Int) + 1)) (M0 (a + (n : Int) + 1 - 1))
    have h1 := pl1_len (a + (n : Int) + 1) 1 (M1 (a + (n : Int) + 1)) (M1 (a + (n : Int) + 1 - 1))
    have h2 := pl1_len (a + (n : Int) + 1) 2 (M2 (a + (n : Int) + 1)) (M2 (a + (n : Int) + 1 - 1))
    omega
end U
namespace Go.Proofs.YtneingpnkdeooaaGreat
open Go Go.HL U
attribute [local irreducible] hfun bodyT fragT
theorem mtr_bd {st og sg : Int} {pt : List (List Int)} {bl s : Int} {sgs : List (List Int)} {c : Nat} {pk : List (List Int)} {ln sa d u : Int} (hl : okLen sgs) (h0 : -536870912 ≤ s ∧ s ≤ 536870912)
    (hp : ∀ j, j < sgs.length → -536870912 ≤ ec sgs j c ∧ ec sgs j c ≤ 536870912) (ht : okTrk pk ln) (hm : okMA st og sg pt bl) (hu : 0 ≤ u ∧ u ≤ ln) :
    -4398046511104 ≤ mtr st og sg pt bl s sgs c pk sa d u ∧ mtr st og sg pt bl s sgs c pk sa d u ≤ 4398046511104 := by
  have p := ptAt_bd hl h0 hp (tplace pk sa u)
  have q := motr_bd hm.1.1 hm.2.1 (p := ptAt s sgs c (tplace pk sa u)) (by omega)
  unfold mtr tmot
  split
  · have := bsh_bd (d := d) hm.2.2
    omega
  · rcases tfind_spec ht hu.2 with ⟨h1, h2⟩ | ⟨j, h1, h2, h3, h4⟩
    · omega
    · have hj : (tfind pk u).toNat = j := by omega
      rw [hj]
      have := tsh_bd (mv := ec pk j 3) (w := ec pk j (4 + c)) (d := ec pk j (7 + c)) hm.2.2 (at_le ht hu.1 h1 h4)
      omega
set_option maxHeartbeats 2000000 in
theorem loopBtw : ∀ v Q, (LBtw v).wp Q → hloop CBtw anBtw (nthLoop Tryz.f13 0) v Q := by
  intro v Q h
  unfold LBtw at h
  split at h
  case h_2 => exact h.elim
  rename_i t l u0 s0 s1 s2 sg mk ax tr w0 w1 w2
  split at h
  case h_2 => exact h.elim
  rename_i sta spa aca jea loa hia bla oga sga pta stb spb acb jeb lob hib blb ogb sgb ptb stc spc acc jec loc hic blc ogc sgc ptc
  split at h
  case h_2 => exact h.elim
  rename_i pk ln sa d0 d1 d2
  obtain ⟨⟨hA, hln, hu0, ht0, hl0, e0, e1, e2⟩, hq⟩ := h
  obtain rfl : l = [] := List.eq_nil_of_length_eq_zero hl0
  have hA' := hA
  obtain ⟨hl, ⟨k0, k1, k2, kk⟩, htr, ma, mb, mc, hsa⟩ := hA'
  subst e0 e1 e2
  have bd0 : ∀ u, 0 ≤ u ∧ u ≤ ln → _ := fun u hu => mtr_bd (sa := sa) (d := d0) hl k0 (fun j hj => (kk j hj).1) htr ma hu
  have bd1 : ∀ u, 0 ≤ u ∧ u ≤ ln → _ := fun u hu => mtr_bd (sa := sa) (d := d1) hl k1 (fun j hj => (kk j hj).2.1) htr mb hu
  have bd2 : ∀ u, 0 ≤ u ∧ u ≤ ln → _ := fun u hu => mtr_bd (sa := sa) (d := d2) hl k2 (fun j hj => (kk j hj).2.2) htr mc hu
  have M0e : ∀ u, 0 ≤ u ∧ u ≤ ln → tmot sta oga sga pta bla (ptAt s0 sg 0 (tplace pk sa (clamp ln u))) pk d0 (clamp ln u) 0 = mtr sta oga sga pta bla s0 sg 0 pk sa d0 u := fun u hu => by rw [clamp_in hu]; rfl
  have M1e : ∀ u, 0 ≤ u ∧ u ≤ ln → tmot stb ogb sgb ptb blb (ptAt s1 sg 1 (tplace pk sa (clamp ln u))) pk d1 (clamp ln u) 1 = mtr stb ogb sgb ptb blb s1 sg 1 pk sa d1 u := fun u hu => by rw [clamp_in hu]; rfl
  have M2e : ∀ u, 0 ≤ u ∧ u ≤ ln → tmot stc ogc sgc ptc blc (ptAt s2 sg 2 (tplace pk sa (clamp ln u))) pk d2 (clamp ln u) 2 = mtr stc ogc sgc ptc blc s2 sg 2 pk sa d2 u := fun u hu => by rw [clamp_in hu]; rfl
  generalize mtr sta oga sga pta bla s0 sg 0 pk sa d0 = M0 at *
  generalize mtr stb ogb sgb ptb blb s1 sg 1 pk sa d1 = M1 at *
  generalize mtr stc ogc sgc ptc blc s2 sg 2 pk sa d2 = M2 at *
  refine hloop_rec (σ := Nat)
    (fun n => ([.ce (.int .i64 t), .ce (.ptr 1000005 0), .ce (.ptr 1000006 0), .ce (.ptr 1000007 0), .ce (.sl false [4, 4, 4] (plN M0 M1 M2 u0 n)), .ce (.lit true), .ce (.ptr 1000012 0), .ce (.int .i64 (u0 + (n : Int)))],
      [[.int .i64 s0, .int .i64 s1, .int .i64 s2, .sl false [4, 4, 4, 4, 4, 4, 4] sg, .sl false [4, 4, 4] mk], [.int .i64 sta, .int .i64 spa, .int .i64 aca, .int .i64 jea, .int .i64 loa, .int .i64 hia, .int .i64 bla, .int .i64 oga, .int .i64 sga, .sl false [4] pta, .int .i64 stb, .int .i64 spb, .int .i64 acb, .int .i64 jeb, .int .i64 lob, .int .i64 hib, .int .i64 blb, .int .i64 ogb, .int .i64 sgb, .sl false [4] ptb, .int .i64 stc, .int .i64 spc, .int .i64 acc, .int .i64 jec, .int .i64 loc, .int .i64 hic, .int .i64 blc, .int .i64 ogc, .int .i64 sgc, .sl false [4] ptc], [.sl false [4, 4, 4, 4, 4, 4, 4, 4, 4, 4] pk, .int .i64 ln, .int .i64 sa, .int .i64 d0, .int .i64 d1, .int .i64 d2], [.int .i64 (M0 (u0 + (n : Int))), .int .i64 (M1 (u0 + (n : Int))), .int .i64 (M2 (u0 + (n : Int)))]]))
    (fun n => (t - u0).toNat - n) (fun n => n ≤ (t - u0).toNat) ?_ 0 (Nat.zero_le _) |> fun x => (by simpa [plN] using x)
  intro n hn K hK hx _
  have hlen := plN_len M0 M1 M2 u0 n
  refine byVB (vbBtw s0 s1 s2 t (u0 + (n : Int)) ln sa d0 d1 d2 (M0 (u0 + (n : Int))) (M1 (u0 + (n : Int))) (M2 (u0 + (n : Int))) sg mk pk (plN M0 M1 M2 u0 n) sta spa aca jea loa hia bla oga sga stb spb acb jeb lob hib blb ogb sgb stc spc acc jec loc hic blc ogc sgc pta ptb ptc K) ⟨fun g => ?_, fun g => ?_⟩
  · have g := of_decide_eq_true g
    have hu : 0 ≤ u0 + (n : Int) ∧ u0 + (n : Int) ≤ ln := by omega
    have hu1 : 0 ≤ u0 + (n : Int) + 1 ∧ u0 + (n : Int) + 1 ≤ ln := by omega
    have a0 := bd0 _ hu
    have a1 := bd1 _ hu
    have a2 := bd2 _ hu
    have c0 := bd0 _ hu1
    have c1 := bd1 _ hu1
    have c2 := bd2 _ hu1
    have fin := hK (n + 1) (by omega) (by omega)
    unfold plN plAt at fin
    rw [show u0 + ((n + 1 : Nat) : Int) = u0 + (n : Int) + 1 by omega, show u0 + (n : Int) + 1 - 1 = u0 + (n : Int) by omega, ← List.append_assoc, ← List.append_assoc] at fin
    refine ⟨by omega, fun x1 e1 => ⟨hA, fun x2 e2 x3 e3 x4 e4 => ?_⟩⟩
    subst e1
    rw [M0e _ hu1] at e2
    rw [M1e _ hu1] at e3
    rw [M2e _ hu1] at e4
    rw [← e2] at fin c0
    rw [← e3] at fin c1
    rw [← e4] at fin c2
    clear hK hx hq bd0 bd1 bd2 M0e M1e M2e hA
    generalize M0 (u0 + (n : Int)) = w0 at *
    generalize M1 (u0 + (n : Int)) = w1 at *
    generalize M2 (u0 + (n : Int)) = w2 at *
    generalize plN M0 M1 M2 u0 n = l at *
    refine ⟨fun g0 => ⟨by omega, ?_⟩, fun g0 => ?_⟩
    · rintro _ rfl
      rw [pl1_t g0] at fin
      refine ⟨⟨by first | omega | (simp only [List.length_append, List.length_cons, List.length_nil]; omega), by unfold maxLen; first | omega | (simp only [List.length_append, List.length_cons, List.length_nil]; omega)⟩, fun g1 => ⟨by omega, ?_⟩, fun g1 => ⟨fun g2 => ⟨by omega, ?_⟩, fun g2 => ?_⟩⟩
      · rintro _ rfl
        rw [pl1_t g1] at fin
        refine ⟨⟨by first | omega | (simp only [List.length_append, List.length_cons, List.length_nil]; omega), by unfold maxLen; first | omega | (simp only [List.length_append, List.length_cons, List.length_nil]; omega)⟩, fun g2 => ⟨by omega, ?_⟩, fun g2 => ?_⟩
        · rintro _ rfl
          rw [pl1_t g2] at fin
          exact ⟨⟨by first | omega | (simp only [List.length_append, List.length_cons, List.length_nil]; omega), by unfold maxLen; first | omega | (simp only [List.length_append, List.length_cons, List.length_nil]; omega)⟩, fin⟩
        · rw [pl1_f g2, List.append_nil] at fin
          exact fin
      · rintro _ rfl
        rw [pl1_f g1, List.append_nil, pl1_t g2] at fin
        exact ⟨⟨by first | omega | (simp only [List.length_append, List.length_cons, List.length_nil]; omega), by unfold maxLen; first | omega | (simp only [List.length_append, List.length_cons, List.length_nil]; omega)⟩, fin⟩
      · rw [pl1_f g1, List.append_nil, pl1_f g2, List.append_nil] at fin
        exact fin
    · rw [pl1_f g0, List.append_nil] at fin
      refine ⟨fun g1 => ⟨by omega, ?_⟩, fun g1 => ⟨fun g2 => ⟨by omega, ?_⟩, fun g2 => ?_⟩⟩
      · rintro _ rfl
        rw [pl1_t g1] at fin
        refine ⟨⟨by first | omega | (simp only [List.length_append, List.length_cons, List.length_nil]; omega), by unfold maxLen; first | omega | (simp only [List.length_append, List.length_cons, List.length_nil]; omega)⟩, fun g2 => ⟨by omega, ?_⟩, fun g2 => ?_⟩
        · rintro _ rfl
          rw [pl1_t g2] at fin
          exact ⟨⟨by first | omega | (simp only [List.length_append, List.length_cons, List.length_nil]; omega), by unfold maxLen; first | omega | (simp only [List.length_append, List.length_cons, List.length_nil]; omega)⟩, fin⟩
        · rw [pl1_f g2, List.append_nil] at fin
          exact fin
      · rintro _ rfl
        rw [pl1_f g1, List.append_nil, pl1_t g2] at fin
        exact ⟨⟨by first | omega | (simp only [List.length_append, List.length_cons, List.length_nil]; omega), by unfold maxLen; first | omega | (simp only [List.length_append, List.length_cons, List.length_nil]; omega)⟩, fin⟩
      · rw [pl1_f g1, List.append_nil, pl1_f g2, List.append_nil] at fin
        exact fin
  · have g := of_decide_eq_false g
    have := hx 0 _ (hq (plN M0 M1 M2 u0 n, M0 (u0 + (n : Int)), M1 (u0 + (n : Int)), M2 (u0 + (n : Int))) (by rw [show n = (t - u0).toNat by omega]))
    exact this
set_option maxHeartbeats 400000 in
set_option maxRecDepth 100000 in
theorem sBtw : Sound Tryz.prog 13 SBetween := by
  refine sound_of (C := CBtw) tabBtw Tryz.func13 (by kernel_rfl) (by decide +kernel) (by kernel_rfl) rfl ⟨sMotors, trivial⟩ (loopsK [nthLoop Tryz.f13 0] [] (by kernel_rfl) (by kernel_rfl) ⟨loopOK_of (an := anBtw) (S := LBtw) (by kernel_rfl) loopBtw, trivial⟩ trivial) ?_
  intro hargs pars R h
  unfold SBetween at h
  split at h
  case h_2 => exfalso; exact h
  rename_i s0 s1 s2 sg mk ax pk ln sa d0 d1 d2 f t
  split at h
  case h_2 => exact h.elim
  rename_i sta spa aca jea loa hia bla oga sga pta stb spb acb jeb lob hib blb ogb sgb ptb stc spc acc jec loc hic blc ogc sgc ptc
  obtain ⟨⟨hA, hln⟩, _, hq⟩ := h
  have h0 := hA.2.2.1.2.1.1
  refine byVC (vcBtw s0 s1 s2 f t ln sa d0 d1 d2 sg mk pk sta spa aca jea loa hia bla oga sga stb spb acb jeb lob hib blb ogb sgb stc spc acc jec loc hic blc ogc sgc pta ptb ptc R) ?_
  rintro _ rfl x2 e2 _ rfl x4 e4
  have c2 : clamp ln f = x2 := by unfold clamp; omega
  have c4 : clamp ln t = x4 := by unfold clamp; omega
  rw [c2, c4] at hq
  have hu : 0 ≤ x2 ∧ x2 ≤ ln := by omega
  have ci := clamp_in hu
  refine ⟨hA, fun x5 e5 x6 e6 x7 e7 => ⟨⟨hA, hln, hu, by omega, rfl, ?_, ?_, ?_⟩, fun x hx => hq _ hx⟩⟩
  · rw [e5, ci]; rfl
  · rw [e6, ci]; rfl
  · rw [e7, ci]; rfl
end Go.Proofs.YtneingpnkdeooaaGreat
namespace Go.Proofs.YtneingpnkdeooaaGreat
open Go Go.HL U
def STrue0 (hargs : List HV) (pars : List (List HC)) : SR :=
  match hargs, pars with
  | [], [] => .all True Bool (fun x => x = true) (fun x => ⟨.ce (.bool x), false, [], []⟩)
  | _, _ => .fail
def okR : Res := ⟨.ce (.bool true), false, [], []⟩
end Go.Proofs.YtneingpnkdeooaaGreat

namespace U
open Go
structure RunS where
  s0 : Int
  s1 : Int
  s2 : Int
  sg : List (List Int)
  mks : List (List Int)
  a : AxV
  b : AxV
  c : AxV
  d0 : Int
  d1 : Int
  d2 : Int
  f : Int
  t : Int
  pk : List (List Int)
  ln : Int
def RunS.L (x : RunS) : LegS := leg x.s0 x.s1 x.s2 x.sg x.a.bl x.b.bl x.c.bl x.d0 x.d1 x.d2 x.f x.t
def okRun (x : RunS) : Prop :=
  okPath x.s0 x.s1 x.s2 x.sg x.mks ∧ okAx x.a ∧ okAx x.b ∧ okAx x.c ∧ (pm x.d0 ∧ pm x.d1 ∧ pm x.d2) ∧ (0 ≤ x.f ∧ x.f ≤ plen x.sg) ∧ (0 ≤ x.t ∧ x.t ≤ plen x.sg) ∧ x.pk = x.L.pk ∧ x.ln = x.L.ln
open Go.HL in
def runC (x : RunS) : List HC := [.int .i64 x.s0, .int .i64 x.s1, .int .i64 x.s2, .sl false [4, 4, 4, 4, 4, 4, 4] x.sg, .sl false [4, 4, 4] x.mks, .int .i64 x.a.st, .int .i64 x.a.sp, .int .i64 x.a.ac, .int .i64 x.a.je, .int .i64 (-16777216), .int .i64 16777216, .int .i64 x.a.bl, .int .i64 x.a.og, .int .i64 x.a.sg, .sl false [4] x.a.pit, .int .i64 x.b.st, .int .i64 x.b.sp, .int .i64 x.b.ac, .int .i64 x.b.je, .int .i64 (-16777216), .int .i64 16777216, .int .i64 x.b.bl, .int .i64 x.b.og, .int .i64 x.b.sg, .sl false [4] x.b.pit, .int .i64 x.c.st, .int .i64 x.c.sp, .int .i64 x.c.ac, .int .i64 x.c.je, .int .i64 (-16777216), .int .i64 16777216, .int .i64 x.c.bl, .int .i64 x.c.og, .int .i64 x.c.sg, .sl false [4] x.c.pit, .sl false [4, 4, 4, 4, 4, 4, 4, 4, 4, 4] x.pk, .int .i64 x.ln, .int .i64 x.f, .int .i64 x.d0, .int .i64 x.d1, .int .i64 x.d2]
end U
namespace U
open Go
theorem okAx_MA {a : AxV} (h : okAx a) : okMA a.st a.og a.sg a.pit a.bl := by
  obtain ⟨h1, h2, h3, h4, h5, h6, h7, h8, h9, h10⟩ := h
  exact ⟨by omega, ⟨fun h => by have := h9 h; omega, by omega, by omega, by omega, h10.1⟩, by omega⟩
theorem tadd_ln (pk : List (List Int)) (ln : Int) (q : List Int) : (tadd pk ln q).2 = ln + q.getD 1 0 := by unfold tadd; split <;> rfl
theorem legStep_ln {s0 s1 s2 : Int} {sg : List (List Int)} {b0 b1 b2 f t m : Int} {x : LegS} {k : Nat} (hb : okB3 b0 b1 b2) (hm : m = 1 ∨ m = -1) (hk : k < sg.length) (hs : okSegs s0 s1 s2 sg) :
    (legStep s0 s1 s2 sg b0 b1 b2 f t m x k).ln ≤ x.ln + 135168 := by
  have hi := legI_bd (m := m) hk
  have hl := (hs (legI sg.length m k).toNat (by omega)).2.1
  unfold legStep legSeg legPut
  generalize legI sg.length m k = i at *
  generalize fc1 (bgn s0 sg 0 i) (ec sg i.toNat 0) m x.a0 = n0
  generalize fc1 (bgn s1 sg 1 i) (ec sg i.toNat 1) m x.a1 = n1
  generalize fc1 (bgn s2 sg 2 i) (ec sg i.toNat 2) m x.a2 = n2
  have hu := slk_bd hb x.a0 x.a1 x.a2 n0 n1 n2
  have hE : legE sg m x.bg i = x.bg + m * ec sg i.toNat 3 := rfl
  split
  · dsimp only
    rw [tadd_ln]
    have h2 : (legTk x.pk x.ln (slk b0 b1 b2 x.a0 x.a1 x.a2 n0 n1 n2) (legS m (legLow x.bg (legE sg m x.bg i) f t) (legHigh x.bg (legE sg m x.bg i) f t)) x.a0 x.a1 x.a2 n0 n1 n2).2 ≤ x.ln + 4096 := by
      unfold legTk
      split
      · rw [tadd_ln]
        show x.ln + slk b0 b1 b2 x.a0 x.a1 x.a2 n0 n1 n2 ≤ x.ln + 4096
        omega
      · show x.ln ≤ x.ln + 4096
        omega
    have h3 : legHigh x.bg (legE sg m x.bg i) f t - legLow x.bg (legE sg m x.bg i) f t ≤ 131072 := by
      unfold legHigh legLow
      rw [hE]
      rcases hm with rfl | rfl
      · omega
      · omega
    show _ + (legHigh x.bg (legE sg m x.bg i) f t - legLow x.bg (legE sg m x.bg i) f t) ≤ x.ln + 135168
    omega
  · show x.ln ≤ x.ln + 135168
    omega
theorem legK_ln {s0 s1 s2 : Int} {sg : List (List Int)} {b0 b1 b2 f t m : Int} {x : LegS} (hb : okB3 b0 b1 b2) (hm : m = 1 ∨ m = -1) (hs : okSegs s0 s1 s2 sg) : ∀ k, k ≤ sg.length →
    (legK s0 s1 s2 sg b0 b1 b2 f t m x k).ln ≤ x.ln + 135168 * (k : Int)
  | 0, _ => by show x.ln ≤ x.ln + 135168 * ((0 : Nat) : Int); omega
  | k + 1, h => by
    have h1 := legK_ln (x := x) hb hm hs (f := f) (t := t) k (by omega)
    have h2 := legStep_ln (x := legK s0 s1 s2 sg b0 b1 b2 f t m x k) (f := f) (t := t) hb hm (show k < sg.length by omega) hs
    show (legStep s0 s1 s2 sg b0 b1 b2 f t m (legK s0 s1 s2 sg b0 b1 b2 f t m x k) k).ln ≤ _
    omega
theorem legM_pm (f t : Int) : legM f t = 1 ∨ legM f t = -1 := by unfold legM; split <;> omega
theorem leg_ln {s0 s1 s2 : Int} {sg : List (List Int)} {b0 b1 b2 d0 d1 d2 f t : Int} (hb : okB3 b0 b1 b2) (hs : okSegs s0 s1 s2 sg) (hl : sg.length ≤ 355000) : (leg s0 s1 s2 sg b0 b1 b2 d0 d1 d2 f t).ln ≤ 1099511627776 := by
  unfold leg
  have := legK_ln (x := ⟨[], 0, d0, d1, d2, if legM f t < 0 then plen sg else 0⟩) (f := f) (t := t) hb (legM_pm f t) hs sg.length (Nat.le_refl _)
  dsimp only at this
  omega
def trkPre (x : RunS) : Prop :=
  okLen x.sg ∧ okPts x.s0 x.s1 x.s2 x.sg ∧ okTrk x.pk x.ln ∧ okMA x.a.st x.a.og x.a.sg x.a.pit x.a.bl ∧ okMA x.b.st x.b.og x.b.sg x.b.pit x.b.bl ∧ okMA x.c.st x.c.og x.c.sg x.c.pit x.c.bl ∧ (0 ≤ x.f ∧ x.f ≤ 18014398509481984)
theorem okRun_b3 {x : RunS} (h : okRun x) : okB3 x.a.bl x.b.bl x.c.bl := by
  obtain ⟨_, ha, hb, hc, _⟩ := h
  have := ha.2.2.2.2.1
  have := hb.2.2.2.2.1
  have := hc.2.2.2.2.1
  unfold okB3; omega
theorem okRun_pre {x : RunS} (h : okRun x) : trkPre x := by
  have hb := okRun_b3 h
  obtain ⟨hp, ha, hb', hc, hd, hf, ht, h1, h2⟩ := h
  have hl := okPath_len hp
  have hk := leg_ok (s0 := x.s0) (s1 := x.s1) (s2 := x.s2) (d0 := x.d0) (d1 := x.d1) (d2 := x.d2) hl hb hf ht
  have := plen_le hl
  refine ⟨hl, okPath_pts hp, ?_, okAx_MA ha, okAx_MA hb', okAx_MA hc, by omega⟩
  rw [h1, h2]; exact hk
theorem okRun_ln {x : RunS} (h : okRun x) : x.ln ≤ 1099511627776 := by
  rw [h.2.2.2.2.2.2.2.2]
  exact leg_ln (okRun_b3 h) h.1.2.1 h.1.2.2.1
theorem okPath_ex : ∃ x : BSt, okPath x.s0 x.s1 x.s2 x.sg x.mks := ⟨⟨0, 0, 0, 0, 0, 0, 0, [], [], -1, false⟩, by unfold b3; decide, okSegs_nil _ _ _, by decide, by decide⟩
end U

namespace U
open Go
def RunS.M0 (x : RunS) : Int → Int := mtr x.a.st x.a.og x.a.sg x.a.pit x.a.bl x.s0 x.sg 0 x.pk x.f x.d0
def RunS.M1 (x : RunS) : Int → Int := mtr x.b.st x.b.og x.b.sg x.b.pit x.b.bl x.s1 x.sg 1 x.pk x.f x.d1
def RunS.M2 (x : RunS) : Int → Int := mtr x.c.st x.c.og x.c.sg x.c.pit x.c.bl x.s2 x.sg 2 x.pk x.f x.d2
end U
namespace Go.Proofs.YtneingpnkdeooaaGreat
open Go Go.HL U
theorem emod_bd {a n : Int} (h : 0 < n) : 0 ≤ a % n ∧ a % n < n := ⟨Int.emod_nonneg _ (by omega), Int.emod_lt_of_pos _ h⟩
theorem M0_bd {x : RunS} (h : okRun x) (u : Int) (hu : 0 ≤ u ∧ u ≤ x.ln) : -4398046511104 ≤ x.M0 u ∧ x.M0 u ≤ 4398046511104 := by
  have p := okRun_pre h
  exact mtr_bd p.1 p.2.1.1 (fun j hj => (p.2.1.2.2.2 j hj).1) p.2.2.1 p.2.2.2.1 hu
theorem M1_bd {x : RunS} (h : okRun x) (u : Int) (hu : 0 ≤ u ∧ u ≤ x.ln) : -4398046511104 ≤ x.M1 u ∧ x.M1 u ≤ 4398046511104 := by
  have p := okRun_pre h
  exact mtr_bd p.1 p.2.1.2.1 (fun j hj => (p.2.1.2.2.2 j hj).2.1) p.2.2.1 p.2.2.2.2.1 hu
theorem M2_bd {x : RunS} (h : okRun x) (u : Int) (hu : 0 ≤ u ∧ u ≤ x.ln) : -4398046511104 ≤ x.M2 u ∧ x.M2 u ≤ 4398046511104 := by
  have p := okRun_pre h
  exact mtr_bd p.1 p.2.1.2.2.1 (fun j hj => (p.2.1.2.2.2 j hj).2.2) p.2.2.1 p.2.2.2.2.2.1 hu
theorem okRun_ln0 {x : RunS} (h : okRun x) : 0 ≤ x.ln := (okRun_pre h).2.2.1.2.1.1
attribute [local irreducible] hfun bodyT fragT
end Go.Proofs.YtneingpnkdeooaaGreat
namespace U
open Go
def tshf (pk : List (List Int)) (d bl u : Int) (c : Nat) : Int :=
  if tfind pk u < 0 then bsh bl d else tsh bl (ec pk (tfind pk u).toNat 3) (ec pk (tfind pk u).toNat (4 + c)) (ec pk (tfind pk u).toNat (7 + c)) (ec pk (tfind pk u).toNat 0) u
theorem mtr_shf (st og sg : Int) (pt : List (List Int)) (bl s : Int) (sgs : List (List Int)) (c : Nat) (pk : List (List Int)) (sa d u : Int) :
    mtr st og sg pt bl s sgs c pk sa d u = mot st og sg pt (ptAt s sgs c (tplace pk sa u)) + tshf pk d bl u c := rfl
def unitOK (s : Int) (sgs : List (List Int)) (c : Nat) (bl d f m : Int) (pk : List (List Int)) (u : Int) : Prop :=
  (tplace pk f u = tplace pk f (u - 1) ∧ (-1 ≤ tshf pk d bl u c - tshf pk d bl (u - 1) c ∧ tshf pk d bl u c - tshf pk d bl (u - 1) c ≤ 1) ∧ (-bl ≤ tshf pk d bl u c ∧ tshf pk d bl u c ≤ 0)) ∨
  (tplace pk f u = tplace pk f (u - 1) + m ∧ (0 ≤ tplace pk f u ∧ tplace pk f u ≤ plen sgs) ∧ (0 ≤ tplace pk f (u - 1) ∧ tplace pk f (u - 1) ≤ plen sgs) ∧
    ∃ e, pm e ∧ tshf pk d bl u c = bsh bl e ∧ tshf pk d bl (u - 1) c = bsh bl e ∧ 0 ≤ e * (ptAt s sgs c (tplace pk f u) - ptAt s sgs c (tplace pk f (u - 1))))
def legOK (s0 s1 s2 : Int) (sgs : List (List Int)) (b0 b1 b2 d0 d1 d2 f m : Int) (pk : List (List Int)) (ln p a0 a1 a2 : Int) : Prop :=
  okT pk ln ∧ 0 ≤ ln ∧ tplace pk f ln = p ∧ tplace pk f 0 = f ∧ (pm a0 ∧ pm a1 ∧ pm a2) ∧
  (tshf pk d0 b0 ln 0 = bsh b0 a0 ∧ tshf pk d1 b1 ln 1 = bsh b1 a1 ∧ tshf pk d2 b2 ln 2 = bsh b2 a2) ∧
  (tshf pk d0 b0 0 0 = bsh b0 d0 ∧ tshf pk d1 b1 0 1 = bsh b1 d1 ∧ tshf pk d2 b2 0 2 = bsh b2 d2) ∧
  ∀ u, 1 ≤ u ∧ u ≤ ln → unitOK s0 sgs 0 b0 d0 f m pk u ∧ unitOK s1 sgs 1 b1 d1 f m pk u ∧ unitOK s2 sgs 2 b2 d2 f m pk u
end U
namespace Go.Proofs.YtneingpnkdeooaaGreat
open Go Go.HL U
theorem okT_end {pk : List (List Int)} {ln : Int} (h : okT pk ln) (hl : 0 ≤ ln) : (∀ j, j < pk.length → 0 ≤ ec pk j 0 ∧ endp pk j ≤ ln) ∧ ∀ i j, i ≤ j → j < pk.length → endp pk i ≤ endp pk j := by
  obtain ⟨_, h2, h3, h4⟩ := h
  have mono : ∀ i n, i + n < pk.length → endp pk i ≤ endp pk (i + n) := by
    intro i n
    induction n with
    | zero => intro _; exact Int.le_refl _
    | succ n ih =>
      intro hj
      have := ih (by omega)
      have e := h3 (i + n) (by omega)
      have u := (h4 (i + n + 1) (by omega)).1
      show endp pk i ≤ endp pk (i + n + 1)
      unfold endp at this e ⊢
      omega
  have mono2 : ∀ i j, i ≤ j → j < pk.length → endp pk i ≤ endp pk j := fun i j hij hj => by
    have := mono i (j - i) (by omega)
    rw [show i + (j - i) = j by omega] at this
    exact this
  refine ⟨fun j hj => ⟨?_, ?_⟩, mono2⟩
  · cases j with
    | zero => rw [(h2 (by omega)).1]; exact Int.le_refl _
    | succ i =>
      rw [h3 i hj]
      have := mono2 0 i (Nat.zero_le _) (by omega)
      have e0 := (h2 (by omega)).1
      have u0 := (h4 0 (by omega)).1
      unfold endp at this ⊢
      omega
  · have := mono2 j (pk.length - 1) (by omega) (by omega)
    rw [(h2 (by omega)).2] at this
    exact this
theorem okT_find {pk : List (List Int)} {ln u : Int} (h : okT pk ln) (hl : 0 ≤ ln) (hp : 0 < pk.length) (hu : 0 ≤ u ∧ u ≤ ln) :
    ∃ j, j < pk.length ∧ tfind pk u = (j : Int) ∧ u ≤ endp pk j ∧ (∀ k, k < j → endp pk k < u) ∧ ec pk j 0 ≤ u := by
  rcases tpcA_spec u pk 0 with ⟨_, hh⟩ | ⟨j, h1, h2, h3, h4⟩
  · have := hh (pk.length - 1) (by omega)
    have := (h.2.1 hp).2
    omega
  · refine ⟨j, h1, by unfold tfind; omega, h3, h4, ?_⟩
    cases j with
    | zero => rw [(h.2.1 hp).1]; exact hu.1
    | succ i => have := h4 i (by omega); rw [h.2.2.1 i h1]; omega
theorem find_app {pk : List (List Int)} {ln u : Int} {r : List Int} (h : okT pk ln) (hl : 0 ≤ ln) (hp : 0 < pk.length) (hu : 0 ≤ u ∧ u ≤ ln) : tfind (pk ++ [r]) u = tfind pk u ∧ ∀ c, ec (pk ++ [r]) (tfind pk u).toNat c = ec pk (tfind pk u).toNat c := by
  obtain ⟨j, h1, h2, h3, h4, _⟩ := okT_find h hl hp hu
  have e : ∀ k c, k < pk.length → ec (pk ++ [r]) k c = ec pk k c := fun k c hk => by rw [ec_app, if_pos hk]
  have ee : ∀ k, k < pk.length → endp (pk ++ [r]) k = endp pk k := fun k hk => by unfold endp; rw [e k 0 hk, e k 1 hk]
  refine ⟨?_, fun c => by rw [h2]; exact e j c h1⟩
  rw [h2]
  exact tfind_of (by rw [List.length_append]; omega) (by rw [ee j h1]; exact h3) (fun k hk => by rw [ee k (by omega)]; exact h4 k hk)
theorem find_new {pk : List (List Int)} {ln u U : Int} {r : List Int} (h : okT pk ln) (hl : 0 ≤ ln) (hr : r.getD 0 0 = ln) (hr1 : r.getD 1 0 = U) (hu : ln < u ∧ u ≤ ln + U) : tfind (pk ++ [r]) u = (pk.length : Int) ∧ ∀ c, ec (pk ++ [r]) pk.length c = r.getD c 0 := by
  have e : ∀ k c, k < pk.length → ec (pk ++ [r]) k c = ec pk k c := fun k c hk => by rw [ec_app, if_pos hk]
  have el : ∀ c, ec (pk ++ [r]) pk.length c = r.getD c 0 := fun c => by rw [ec_app, if_neg (by omega), Nat.sub_self]; rfl
  have ee : ∀ k, k < pk.length → endp (pk ++ [r]) k = endp pk k := fun k hk => by unfold endp; rw [e k 0 hk, e k 1 hk]
  refine ⟨tfind_of (by simp) (by unfold endp; rw [el, el, hr, hr1]; omega) (fun k hk => ?_), el⟩
  rw [ee k hk]
  have := ((okT_end h hl).1 k hk).2
  omega
theorem find_new0 {U : Int} {r : List Int} (hr : r.getD 0 0 = 0) (hr1 : r.getD 1 0 = U) (hU : 0 ≤ U) : tfind ([] ++ [r]) 0 = 0 ∧ ∀ c, ec ([] ++ [r]) 0 c = r.getD c 0 := by
  refine ⟨?_, fun c => rfl⟩
  have := tfind_of (pk := [r]) (u := 0) (j := 0) (by simp) (by show 0 ≤ r.getD 0 0 + r.getD 1 0; omega) (fun k hk => by omega)
  exact this
theorem find_set {pk : List (List Int)} {ln u U : Int} (h : okT pk ln) (hl : 0 ≤ ln) (hp : 0 < pk.length) (hU : 0 ≤ U) (hu : 0 ≤ u ∧ u ≤ ln) :
    tfind (pk.set (pk.length - 1) (more (pk.getD (pk.length - 1) []) U)) u = tfind pk u ∧ ∀ c, c ≠ 1 → c < 10 → ec (pk.set (pk.length - 1) (more (pk.getD (pk.length - 1) []) U)) (tfind pk u).toNat c = ec pk (tfind pk u).toNat c := by
  obtain ⟨j, h1, h2, h3, h4, _⟩ := okT_find h hl hp hu
  have es : ∀ j c, ec (pk.set (pk.length - 1) (more (pk.getD (pk.length - 1) []) U)) j c = if pk.length - 1 = j then (more (pk.getD (pk.length - 1) []) U).getD c 0 else ec pk j c := fun j c => ec_set _ _ _ _ _ (by omega)
  have m : ∀ c, c ≠ 1 → c < 10 → (more (pk.getD (pk.length - 1) []) U).getD c 0 = ec pk (pk.length - 1) c := fun c hc hc2 => by
    have hc : c = 0 ∨ c = 2 ∨ c = 3 ∨ c = 4 ∨ c = 5 ∨ c = 6 ∨ c = 7 ∨ c = 8 ∨ c = 9 := by omega
    rcases hc with rfl | rfl | rfl | rfl | rfl | rfl | rfl | rfl | rfl <;> rfl
  have m1 : (more (pk.getD (pk.length - 1) []) U).getD 1 0 = ec pk (pk.length - 1) 1 + U := rfl
  have eq : ∀ k c, c ≠ 1 → c < 10 → ec (pk.set (pk.length - 1) (more (pk.getD (pk.length - 1) []) U)) k c = ec pk k c := fun k c hc hc2 => by
    rw [es]
    split
    · rename_i e; rw [m c hc hc2, e]
    · rfl
  have ee : ∀ k, k ≠ pk.length - 1 → endp (pk.set (pk.length - 1) (more (pk.getD (pk.length - 1) []) U)) k = endp pk k := fun k hk => by
    unfold endp; rw [es, es, if_neg (fun e => hk e.symm), if_neg (fun e => hk e.symm)]
  have el : endp (pk.set (pk.length - 1) (more (pk.getD (pk.length - 1) []) U)) (pk.length - 1) = endp pk (pk.length - 1) + U := by
    unfold endp; rw [es, es, if_pos rfl, if_pos rfl, m 0 (by decide) (by decide), m1]; omega
  refine ⟨?_, fun c hc hc2 => by rw [h2]; exact eq j c hc hc2⟩
  rw [h2]
  refine tfind_of (by rw [List.length_set]; exact h1) ?_ (fun k hk => by rw [ee k (by omega)]; exact h4 k hk)
  by_cases hj : j = pk.length - 1
  · subst hj; rw [el]; omega
  · rw [ee j hj]; exact h3
theorem find_setn {pk : List (List Int)} {ln u U : Int} (h : okT pk ln) (hl : 0 ≤ ln) (hp : 0 < pk.length) (hu : ln < u ∧ u ≤ ln + U) :
    tfind (pk.set (pk.length - 1) (more (pk.getD (pk.length - 1) []) U)) u = ((pk.length - 1 : Nat) : Int) ∧ ∀ c, c ≠ 1 → c < 10 → ec (pk.set (pk.length - 1) (more (pk.getD (pk.length - 1) []) U)) (pk.length - 1) c = ec pk (pk.length - 1) c := by
  have es : ∀ j c, ec (pk.set (pk.length - 1) (more (pk.getD (pk.length - 1) []) U)) j c = if pk.length - 1 = j then (more (pk.getD (pk.length - 1) []) U).getD c 0 else ec pk j c := fun j c => ec_set _ _ _ _ _ (by omega)
  have m : ∀ c, c ≠ 1 → c < 10 → (more (pk.getD (pk.length - 1) []) U).getD c 0 = ec pk (pk.length - 1) c := fun c hc hc2 => by
    have hc : c = 0 ∨ c = 2 ∨ c = 3 ∨ c = 4 ∨ c = 5 ∨ c = 6 ∨ c = 7 ∨ c = 8 ∨ c = 9 := by omega
    rcases hc with rfl | rfl | rfl | rfl | rfl | rfl | rfl | rfl | rfl <;> rfl
  have m1 : (more (pk.getD (pk.length - 1) []) U).getD 1 0 = ec pk (pk.length - 1) 1 + U := rfl
  refine ⟨tfind_of (by rw [List.length_set]; omega) ?_ (fun k hk => ?_), fun c hc hc2 => by rw [es, if_pos rfl, m c hc hc2]⟩
  · have := (h.2.1 hp).2
    unfold endp at this ⊢
    rw [es, es, if_pos rfl, if_pos rfl, m 0 (by decide) (by decide), m1]
    omega
  · unfold endp
    rw [es, es, if_neg (by omega), if_neg (by omega)]
    have := ((okT_end h hl).1 k (by omega)).2
    unfold endp at this
    omega
theorem find_last {pk : List (List Int)} {ln : Int} (h : okT pk ln) (hl : 0 ≤ ln) (hp : 0 < pk.length) : tfind pk ln = ((pk.length - 1 : Nat) : Int) := by
  have he := (h.2.1 hp).2
  refine tfind_of (by omega) (by omega) (fun k hk => ?_)
  have e := h.2.2.1 (pk.length - 2) (by omega)
  rw [show pk.length - 2 + 1 = pk.length - 1 by omega] at e
  have := (okT_end h hl).2 k (pk.length - 2) (by omega) (by omega)
  have u := (h.2.2.2 (pk.length - 1) (by omega)).1
  unfold endp at he e this ⊢
  omega
theorem place_eq {pk pk' : List (List Int)} {u sa : Int} (h : tfind pk' u = tfind pk u) (e : ∀ c, c ≠ 1 → c < 10 → ec pk' (tfind pk u).toNat c = ec pk (tfind pk u).toNat c) : tplace pk' sa u = tplace pk sa u := by
  unfold tplace; rw [h, e 2 (by decide) (by decide), e 3 (by decide) (by decide), e 0 (by decide) (by decide)]
theorem shf_eq {pk pk' : List (List Int)} {u d bl : Int} {c : Nat} (hc : c < 3) (h : tfind pk' u = tfind pk u) (e : ∀ c, c ≠ 1 → c < 10 → ec pk' (tfind pk u).toNat c = ec pk (tfind pk u).toNat c) : tshf pk' d bl u c = tshf pk d bl u c := by
  unfold tshf; rw [h, e 3 (by decide) (by decide), e (4 + c) (by omega) (by omega), e (7 + c) (by omega) (by omega), e 0 (by decide) (by decide)]
theorem place_at {pk : List (List Int)} {u sa : Int} {j : Nat} (h : tfind pk u = (j : Int)) : tplace pk sa u = ec pk j 2 + ec pk j 3 * (u - ec pk j 0) := by
  unfold tplace; rw [h, if_neg (by omega)]; rfl
theorem shf_at {pk : List (List Int)} {u d bl : Int} {j c : Nat} (h : tfind pk u = (j : Int)) : tshf pk d bl u c = tsh bl (ec pk j 3) (ec pk j (4 + c)) (ec pk j (7 + c)) (ec pk j 0) u := by
  unfold tshf; rw [h, if_neg (by omega)]; rfl
theorem unit_eq {s : Int} {sgs : List (List Int)} {c : Nat} {bl d f m : Int} {pk pk' : List (List Int)} {u : Int} (h1 : tplace pk' f u = tplace pk f u) (h2 : tplace pk' f (u - 1) = tplace pk f (u - 1))
    (h3 : tshf pk' d bl u c = tshf pk d bl u c) (h4 : tshf pk' d bl (u - 1) c = tshf pk d bl (u - 1) c) (h : unitOK s sgs c bl d f m pk u) : unitOK s sgs c bl d f m pk' u := by
  unfold unitOK at h ⊢
  rw [h1, h2, h3, h4]; exact h
theorem tsh_move {bl mv w n a u : Int} (h : mv ≠ 0) : tsh bl mv w n a u = bsh bl n := by unfold tsh; rw [if_pos (.inl h)]
theorem tsh_zero {bl a n at_ : Int} (ha : pm a) (hn : pm n) (hb : 0 ≤ bl) : tsh bl 0 a n at_ at_ = bsh bl a := by
  unfold tsh
  by_cases e : a = n
  · rw [if_pos (.inr e), e]
  · rw [if_neg (by simp [e])]
    unfold pm at ha hn
    unfold bsh
    by_cases e2 : n = -1
    · rw [if_pos e2, if_neg (by omega)]; omega
    · rw [if_neg e2, if_pos (by omega)]; omega
theorem tsh_step1 {bl a n at_ v : Int} (hb : 0 ≤ bl) (hv : 1 ≤ v) : (-1 ≤ tsh bl 0 a n at_ (at_ + v) - tsh bl 0 a n at_ (at_ + (v - 1)) ∧ tsh bl 0 a n at_ (at_ + v) - tsh bl 0 a n at_ (at_ + (v - 1)) ≤ 1) ∧ (-bl ≤ tsh bl 0 a n at_ (at_ + v) ∧ tsh bl 0 a n at_ (at_ + v) ≤ 0) := by
  have hb' : -bl ≤ bsh bl n ∧ bsh bl n ≤ 0 := by unfold bsh; split <;> omega
  unfold tsh
  by_cases e : a = n
  · rw [if_pos (Or.inr e : (0 : Int) ≠ 0 ∨ a = n), if_pos (Or.inr e : (0 : Int) ≠ 0 ∨ a = n)]
    omega
  · have e' : ¬ ((0 : Int) ≠ 0 ∨ a = n) := by simp [e]
    rw [if_neg e', if_neg e']
    by_cases e2 : n = -1
    · rw [if_pos e2, if_pos e2]; omega
    · rw [if_neg e2, if_neg e2]; omega
theorem tsh_end {bl a n at_ U : Int} (hn : pm n) (hU : a ≠ n → bl ≤ U) : tsh bl 0 a n at_ (at_ + U) = bsh bl n := by
  unfold tsh
  by_cases e : a = n
  · rw [if_pos (.inr e)]
  · have := hU e
    rw [if_neg (by simp [e])]
    unfold pm at hn
    unfold bsh
    by_cases e2 : n = -1
    · rw [if_pos e2, if_pos e2]; omega
    · rw [if_neg e2, if_neg e2]; omega
def stepD (s : Int) (sgs : List (List Int)) (c : Nat) (bl m p mv : Int) (g : Int → Int) (v : Int) : Prop :=
  (mv = 0 ∧ (-1 ≤ g v - g (v - 1) ∧ g v - g (v - 1) ≤ 1) ∧ (-bl ≤ g v ∧ g v ≤ 0)) ∨
  (mv = m ∧ (0 ≤ p + mv * v ∧ p + mv * v ≤ plen sgs) ∧ (0 ≤ p + mv * (v - 1) ∧ p + mv * (v - 1) ≤ plen sgs) ∧ ∃ e, pm e ∧ g v = bsh bl e ∧ g (v - 1) = bsh bl e ∧ 0 ≤ e * (ptAt s sgs c (p + mv * v) - ptAt s sgs c (p + mv * (v - 1))))
theorem unit_ext {s : Int} {sgs : List (List Int)} {c : Nat} {bl d f m ln U p mv : Int} {pk pk' : List (List Int)} {g : Int → Int}
    (oldP : ∀ u, 0 ≤ u ∧ u ≤ ln → tplace pk' f u = tplace pk f u) (oldS : ∀ u, 0 ≤ u ∧ u ≤ ln → tshf pk' d bl u c = tshf pk d bl u c)
    (newP : ∀ v, 0 ≤ v ∧ v ≤ U → tplace pk' f (ln + v) = p + mv * v) (newS : ∀ v, 0 ≤ v ∧ v ≤ U → tshf pk' d bl (ln + v) c = g v)
    (hs : ∀ v, 1 ≤ v ∧ v ≤ U → stepD s sgs c bl m p mv g v) (h : ∀ u, 1 ≤ u ∧ u ≤ ln → unitOK s sgs c bl d f m pk u) : ∀ u, 1 ≤ u ∧ u ≤ ln + U → unitOK s sgs c bl d f m pk' u := by
  intro u hu
  by_cases h1 : u ≤ ln
  · exact unit_eq (oldP u (by omega)) (oldP (u - 1) (by omega)) (oldS u (by omega)) (oldS (u - 1) (by omega)) (h u (by omega))
  · have a := newP (u - ln) (by omega)
    have b := newP (u - ln - 1) (by omega)
    have a2 := newS (u - ln) (by omega)
    have b2 := newS (u - ln - 1) (by omega)
    rw [show ln + (u - ln) = u by omega] at a a2
    rw [show ln + (u - ln - 1) = u - 1 by omega] at b b2
    have e := hs (u - ln) (by omega)
    unfold unitOK
    rw [a, b, a2, b2]
    rcases e with ⟨e0, e1, e2⟩ | ⟨e0, e1, e2, e3⟩
    · left
      refine ⟨by rw [e0]; simp, e1, e2⟩
    · right
      refine ⟨?_, e1, e2, e3⟩
      rw [← e0, Int.mul_sub mv (u - ln) 1]
      omega
theorem legOK_ext {s0 s1 s2 : Int} {sgs : List (List Int)} {b0 b1 b2 d0 d1 d2 f m ln U p mv a0 a1 a2 n0 n1 n2 : Int} {pk pk' : List (List Int)} {g0 g1 g2 : Int → Int}
    (h : legOK s0 s1 s2 sgs b0 b1 b2 d0 d1 d2 f m pk ln p a0 a1 a2) (hT : okT pk' (ln + U)) (hU : 1 ≤ U) (hn : pm n0 ∧ pm n1 ∧ pm n2)
    (oldP : ∀ u, 0 ≤ u ∧ u ≤ ln → tplace pk' f u = tplace pk f u)
    (oldS : ∀ u, 0 ≤ u ∧ u ≤ ln → tshf pk' d0 b0 u 0 = tshf pk d0 b0 u 0 ∧ tshf pk' d1 b1 u 1 = tshf pk d1 b1 u 1 ∧ tshf pk' d2 b2 u 2 = tshf pk d2 b2 u 2)
    (newP : ∀ v, 0 ≤ v ∧ v ≤ U → tplace pk' f (ln + v) = p + mv * v)
    (newS : ∀ v, 0 ≤ v ∧ v ≤ U → tshf pk' d0 b0 (ln + v) 0 = g0 v ∧ tshf pk' d1 b1 (ln + v) 1 = g1 v ∧ tshf pk' d2 b2 (ln + v) 2 = g2 v)
    (hs : ∀ v, 1 ≤ v ∧ v ≤ U → stepD s0 sgs 0 b0 m p mv g0 v ∧ stepD s1 sgs 1 b1 m p mv g1 v ∧ stepD s2 sgs 2 b2 m p mv g2 v)
    (he : g0 U = bsh b0 n0 ∧ g1 U = bsh b1 n1 ∧ g2 U = bsh b2 n2) :
    legOK s0 s1 s2 sgs b0 b1 b2 d0 d1 d2 f m pk' (ln + U) (p + mv * U) n0 n1 n2 := by
  obtain ⟨h1, h2, h3, h4, h5, h6, h7, h8⟩ := h
  have nU := newS U (by omega)
  have o0 := oldS 0 (by omega)
  refine ⟨hT, by omega, newP U (by omega), by rw [oldP 0 (by omega)]; exact h4, hn, ⟨by rw [nU.1]; exact he.1, by rw [nU.2.1]; exact he.2.1, by rw [nU.2.2]; exact he.2.2⟩, ⟨by rw [o0.1]; exact h7.1, by rw [o0.2.1]; exact h7.2.1, by rw [o0.2.2]; exact h7.2.2⟩, fun u hu => ⟨?_, ?_, ?_⟩⟩
  · exact unit_ext oldP (fun u hu => (oldS u hu).1) newP (fun v hv => (newS v hv).1) (fun v hv => (hs v hv).1) (fun u hu => (h8 u hu).1) u hu
  · exact unit_ext oldP (fun u hu => (oldS u hu).2.1) newP (fun v hv => (newS v hv).2.1) (fun v hv => (hs v hv).2.1) (fun u hu => (h8 u hu).2.1) u hu
  · exact unit_ext oldP (fun u hu => (oldS u hu).2.2) newP (fun v hv => (newS v hv).2.2) (fun v hv => (hs v hv).2.2) (fun u hu => (h8 u hu).2.2) u hu
theorem app_ok {s0 s1 s2 : Int} {sgs : List (List Int)} {b0 b1 b2 d0 d1 d2 f m ln U p mv a0 a1 a2 w0 w1 w2 n0 n1 n2 : Int} {pk : List (List Int)}
    (h : legOK s0 s1 s2 sgs b0 b1 b2 d0 d1 d2 f m pk ln p a0 a1 a2) (hT : okT (pk ++ [[ln, U, p, mv, w0, w1, w2, n0, n1, n2]]) (ln + U)) (hU : 1 ≤ U) (hn : pm n0 ∧ pm n1 ∧ pm n2)
    (hz : tsh b0 mv w0 n0 ln ln = bsh b0 a0 ∧ tsh b1 mv w1 n1 ln ln = bsh b1 a1 ∧ tsh b2 mv w2 n2 ln ln = bsh b2 a2)
    (hs : ∀ v, 1 ≤ v ∧ v ≤ U → stepD s0 sgs 0 b0 m p mv (fun v => tsh b0 mv w0 n0 ln (ln + v)) v ∧ stepD s1 sgs 1 b1 m p mv (fun v => tsh b1 mv w1 n1 ln (ln + v)) v ∧ stepD s2 sgs 2 b2 m p mv (fun v => tsh b2 mv w2 n2 ln (ln + v)) v)
    (he : tsh b0 mv w0 n0 ln (ln + U) = bsh b0 n0 ∧ tsh b1 mv w1 n1 ln (ln + U) = bsh b1 n1 ∧ tsh b2 mv w2 n2 ln (ln + U) = bsh b2 n2) :
    legOK s0 s1 s2 sgs b0 b1 b2 d0 d1 d2 f m (pk ++ [[ln, U, p, mv, w0, w1, w2, n0, n1, n2]]) (ln + U) (p + mv * U) n0 n1 n2 := by
  have h' := h
  obtain ⟨h1, h2, h3, h4, h5, h6, h7, h8⟩ := h
  by_cases hp : 0 < pk.length
  · refine legOK_ext (mv := mv) h' hT hU hn (fun u hu => ?_) (fun u hu => ?_) (fun v hv => ?_) (fun v hv => ?_) hs he
    · obtain ⟨f1, f2⟩ := find_app (r := [ln, U, p, mv, w0, w1, w2, n0, n1, n2]) h1 h2 hp hu
      exact place_eq f1 fun c _ _ => f2 c
    · obtain ⟨f1, f2⟩ := find_app (r := [ln, U, p, mv, w0, w1, w2, n0, n1, n2]) h1 h2 hp hu
      exact ⟨shf_eq (by decide) f1 fun c _ _ => f2 c, shf_eq (by decide) f1 fun c _ _ => f2 c, shf_eq (by decide) f1 fun c _ _ => f2 c⟩
    · by_cases hv0 : v = 0
      · subst hv0
        obtain ⟨f1, f2⟩ := find_app (u := ln) (r := [ln, U, p, mv, w0, w1, w2, n0, n1, n2]) h1 h2 hp ⟨h2, Int.le_refl _⟩
        rw [Int.add_zero, place_eq f1 fun c _ _ => f2 c, h3]; simp
      · obtain ⟨f1, f2⟩ := find_new (u := ln + v) (U := U) (r := [ln, U, p, mv, w0, w1, w2, n0, n1, n2]) h1 h2 rfl rfl (by omega)
        rw [place_at f1, f2, f2, f2]
        show p + mv * (ln + v - ln) = p + mv * v
        rw [show ln + v - ln = v by omega]
    · by_cases hv0 : v = 0
      · subst hv0
        obtain ⟨f1, f2⟩ := find_app (u := ln) (r := [ln, U, p, mv, w0, w1, w2, n0, n1, n2]) h1 h2 hp ⟨h2, Int.le_refl _⟩
        rw [Int.add_zero, shf_eq (by decide) f1 fun c _ _ => f2 c, shf_eq (by decide) f1 fun c _ _ => f2 c, shf_eq (by decide) f1 fun c _ _ => f2 c, h6.1, h6.2.1, h6.2.2, hz.1, hz.2.1, hz.2.2]
        exact ⟨rfl, rfl, rfl⟩
      · obtain ⟨f1, f2⟩ := find_new (u := ln + v) (U := U) (r := [ln, U, p, mv, w0, w1, w2, n0, n1, n2]) h1 h2 rfl rfl (by omega)
        rw [shf_at f1, shf_at f1, shf_at f1]
        simp only [f2]
        exact ⟨rfl, rfl, rfl⟩
  · have e0 : pk = [] := List.eq_nil_of_length_eq_zero (by omega)
    have l0 : ln = 0 := h1.1 (by omega)
    subst e0 l0
    have pf : p = f := h3.symm
    obtain ⟨f1, f2⟩ := find_new0 (U := U) (r := [0, U, p, mv, w0, w1, w2, n0, n1, n2]) rfl rfl (by omega)
    have u0 : ∀ u : Int, 0 ≤ u ∧ u ≤ 0 → u = 0 := fun u hu => by omega
    have P0 : tplace ([] ++ [[0, U, p, mv, w0, w1, w2, n0, n1, n2]]) f 0 = p := by
      rw [place_at (j := 0) f1, f2, f2, f2]
      show p + mv * (0 - 0) = p
      simp
    refine legOK_ext (mv := mv) h' hT hU hn (fun u hu => ?_) (fun u hu => ?_) (fun v hv => ?_) (fun v hv => ?_) hs he
    · rw [u0 u hu, P0]; exact h3.symm
    · rw [u0 u hu, shf_at (j := 0) f1, shf_at (j := 0) f1, shf_at (j := 0) f1, h6.1, h6.2.1, h6.2.2]
      simp only [f2]
      exact hz
    · by_cases hv0 : v = 0
      · subst hv0; rw [Int.add_zero, P0]; simp
      · obtain ⟨f1, f2⟩ := find_new (pk := []) (u := 0 + v) (U := U) (r := [0, U, p, mv, w0, w1, w2, n0, n1, n2]) h1 h2 rfl rfl (by omega)
        rw [place_at f1, f2, f2, f2]
        show p + mv * (0 + v - 0) = p + mv * v
        rw [show 0 + v - 0 = v by omega]
    · by_cases hv0 : v = 0
      · subst hv0
        rw [Int.add_zero, shf_at (j := 0) f1, shf_at (j := 0) f1, shf_at (j := 0) f1]
        simp only [f2]
        exact ⟨rfl, rfl, rfl⟩
      · obtain ⟨f1, f2⟩ := find_new (pk := []) (u := 0 + v) (U := U) (r := [0, U, p, mv, w0, w1, w2, n0, n1, n2]) h1 h2 rfl rfl (by omega)
        rw [shf_at f1, shf_at f1, shf_at f1]
        simp only [f2]
        exact ⟨rfl, rfl, rfl⟩
theorem set_ok {s0 s1 s2 : Int} {sgs : List (List Int)} {b0 b1 b2 d0 d1 d2 f m ln U p mv a0 a1 a2 n0 n1 n2 : Int} {pk : List (List Int)}
    (h : legOK s0 s1 s2 sgs b0 b1 b2 d0 d1 d2 f m pk ln p a0 a1 a2) (hp : 0 < pk.length) (hT : okT (pk.set (pk.length - 1) (more (pk.getD (pk.length - 1) []) U)) (ln + U)) (hU : 1 ≤ U) (hn : pm n0 ∧ pm n1 ∧ pm n2)
    (hm : mv ≠ 0) (r3 : ec pk (pk.length - 1) 3 = mv) (r7 : ec pk (pk.length - 1) 7 = n0) (r8 : ec pk (pk.length - 1) 8 = n1) (r9 : ec pk (pk.length - 1) 9 = n2)
    (hs : ∀ v, 1 ≤ v ∧ v ≤ U → stepD s0 sgs 0 b0 m p mv (fun _ => bsh b0 n0) v ∧ stepD s1 sgs 1 b1 m p mv (fun _ => bsh b1 n1) v ∧ stepD s2 sgs 2 b2 m p mv (fun _ => bsh b2 n2) v) :
    legOK s0 s1 s2 sgs b0 b1 b2 d0 d1 d2 f m (pk.set (pk.length - 1) (more (pk.getD (pk.length - 1) []) U)) (ln + U) (p + mv * U) n0 n1 n2 := by
  have h' := h
  obtain ⟨h1, h2, h3, h4, h5, h6, h7, h8⟩ := h
  have fl := find_last h1 h2 hp
  have h3' := h3
  rw [place_at fl, r3] at h3'
  have S0 : ∀ (d bl : Int) (c : Nat) (n : Int), ec pk (pk.length - 1) (7 + c) = n → tshf pk d bl ln c = bsh bl n := fun d bl c n e => by rw [shf_at fl, tsh_move (by rw [r3]; exact hm), e]
  refine legOK_ext (mv := mv) h' hT hU hn (fun u hu => ?_) (fun u hu => ?_) (fun v hv => ?_) (fun v hv => ?_) hs ⟨rfl, rfl, rfl⟩
  · obtain ⟨f1, f2⟩ := find_set (U := U) h1 h2 hp (by omega) hu
    exact place_eq f1 f2
  · obtain ⟨f1, f2⟩ := find_set (U := U) h1 h2 hp (by omega) hu
    exact ⟨shf_eq (by decide) f1 f2, shf_eq (by decide) f1 f2, shf_eq (by decide) f1 f2⟩
  · by_cases hv0 : v = 0
    · subst hv0
      obtain ⟨f1, f2⟩ := find_set (u := ln) (U := U) h1 h2 hp (by omega) ⟨h2, Int.le_refl _⟩
      rw [Int.add_zero, place_eq f1 f2, h3]; simp
    · obtain ⟨f1, f2⟩ := find_setn (u := ln + v) (U := U) h1 h2 hp (by omega)
      rw [place_at f1, f2 2 (by decide) (by decide), f2 3 (by decide) (by decide), f2 0 (by decide) (by decide), r3, ← h3', show ln + v - ec pk (pk.length - 1) 0 = (ln - ec pk (pk.length - 1) 0) + v by omega, Int.mul_add]
      omega
  · by_cases hv0 : v = 0
    · subst hv0
      obtain ⟨f1, f2⟩ := find_set (u := ln) (U := U) h1 h2 hp (by omega) ⟨h2, Int.le_refl _⟩
      rw [Int.add_zero, shf_eq (by decide) f1 f2, shf_eq (by decide) f1 f2, shf_eq (by decide) f1 f2]
      exact ⟨S0 _ _ _ _ r7, S0 _ _ _ _ r8, S0 _ _ _ _ r9⟩
    · obtain ⟨f1, f2⟩ := find_setn (u := ln + v) (U := U) h1 h2 hp (by omega)
      have q : ∀ (d bl : Int) (c : Nat), c < 3 → ∀ n, ec pk (pk.length - 1) (7 + c) = n → tshf (pk.set (pk.length - 1) (more (pk.getD (pk.length - 1) []) U)) d bl (ln + v) c = bsh bl n := fun d bl c hc n e => by
        rw [shf_at f1, f2 3 (by decide) (by decide), r3, tsh_move hm, f2 (7 + c) (by omega) (by omega), e]
      exact ⟨q _ _ 0 (by decide) _ r7, q _ _ 1 (by decide) _ r8, q _ _ 2 (by decide) _ r9⟩
end Go.Proofs.YtneingpnkdeooaaGreat
namespace Go.Proofs.YtneingpnkdeooaaGreat
open Go Go.HL U
theorem ediv_near {x e B : Int} (hB : 0 < B) (he : 0 ≤ e ∧ e ≤ B) : x / B ≤ (x + e) / B ∧ (x + e) / B ≤ x / B + 1 := by
  refine ⟨Int.ediv_le_ediv hB (by omega), ?_⟩
  have h1 : (x + e) / B ≤ (x + 1 * B) / B := Int.ediv_le_ediv hB (by omega)
  rw [Int.add_mul_ediv_right x 1 (by omega)] at h1
  exact h1
theorem rnd_step {D L d : Int} (hL : 0 < L) (hD : -L ≤ D ∧ D ≤ L) : (0 ≤ D → 0 ≤ rnd (D * (d + 1)) L - rnd (D * d) L ∧ rnd (D * (d + 1)) L - rnd (D * d) L ≤ 1) ∧ (D ≤ 0 → -1 ≤ rnd (D * (d + 1)) L - rnd (D * d) L ∧ rnd (D * (d + 1)) L - rnd (D * d) L ≤ 0) := by
  unfold rnd
  rw [Int.mul_add D d 1, Int.mul_one]
  generalize D * d = y
  refine ⟨fun h => ?_, fun h => ?_⟩
  · have := ediv_near (x := 2 * y + L) (e := 2 * D) (B := 2 * L) (by omega) (by omega)
    rw [show 2 * (y + D) + L = 2 * y + L + 2 * D by omega]
    omega
  · have := ediv_near (x := 2 * (y + D) + L) (e := -(2 * D)) (B := 2 * L) (by omega) (by omega)
    rw [show 2 * (y + D) + L + -(2 * D) = 2 * y + L by omega] at this
    omega
theorem rnd_zero {L : Int} (hL : 0 < L) : rnd 0 L = 0 := by
  unfold rnd
  exact Int.ediv_eq_zero_of_lt (by omega) (by omega)
theorem rnd_full {D L : Int} (hL : 0 < L) : rnd (D * L) L = D := by
  unfold rnd
  rw [show 2 * (D * L) + L = L + D * (2 * L) by grind, Int.add_mul_ediv_right _ _ (by omega), Int.ediv_eq_zero_of_lt (by omega) (by omega)]
  omega
theorem plen_take_succ : ∀ (l : List (List Int)) (j : Nat), j < l.length → plen (l.take (j + 1)) = plen (l.take j) + ec l j 3
  | [], j, h => by simp at h
  | r :: l, 0, _ => by
    show r.getD 3 0 + 0 = 0 + r.getD 3 0
    omega
  | r :: l, j + 1, h => by
    have := plen_take_succ l j (by simpa using h)
    show r.getD 3 0 + plen (l.take (j + 1)) = r.getD 3 0 + plen (l.take j) + ec l j 3
    omega
theorem lfA_at : ∀ (l : List (List Int)) (i : Int) (j : Nat) (d : Int), (∀ k, k < l.length → 1 ≤ ec l k 3) → j < l.length → 0 ≤ d → d < ec l j 3 → lfA l i (plen (l.take j) + d) = (i + j, d)
  | [], _, j, _, _, h, _, _ => by simp at h
  | r :: l, i, 0, d, _, _, h0, h1 => by
    unfold lfA
    have e : plen (List.take 0 (r :: l)) + d = d := by show 0 + d = d; omega
    have h1 : d < r.getD 3 0 := h1
    rw [e, if_pos h1]; simp
  | r :: l, i, j + 1, d, hp, h, h0, h1 => by
    unfold lfA
    have hp' : ∀ k, k < l.length → 1 ≤ ec l k 3 := fun k hk => hp (k + 1) (by simpa using hk)
    have hn : 0 ≤ plen (l.take j) := by
      have : ∀ n, n ≤ l.length → 0 ≤ plen (l.take n) := by
        intro n
        induction n with
        | zero => intro _; exact Int.le_refl _
        | succ n ih => intro hn; rw [plen_take_succ l n (by omega)]; have := ih (by omega); have := hp' n (by omega); omega
      exact this j (by simp at h; omega)
    have e : plen (List.take (j + 1) (r :: l)) + d = r.getD 3 0 + (plen (l.take j) + d) := by show r.getD 3 0 + plen (l.take j) + d = _; omega
    rw [e, if_neg (by omega), show r.getD 3 0 + (plen (l.take j) + d) - r.getD 3 0 = plen (l.take j) + d by omega, lfA_at l (i + 1) j d hp' (by simpa using h) h0 h1]
    refine Prod.ext ?_ rfl
    show i + 1 + (j : Int) = i + ((j + 1 : Nat) : Int)
    omega
theorem lfA_end : ∀ (l : List (List Int)) (i e : Int), (∀ k, k < l.length → 1 ≤ ec l k 3) → 0 ≤ e → (lfA l i (plen l + e)).1 = -1
  | [], i, e, _, _ => rfl
  | r :: l, i, e, hp, he => by
    have hp' : ∀ k, k < l.length → 1 ≤ ec l k 3 := fun k hk => hp (k + 1) (by simpa using hk)
    have hn : 0 ≤ plen l := by
      have : ∀ m : List (List Int), (∀ k, k < m.length → 1 ≤ ec m k 3) → 0 ≤ plen m := by
        intro m
        induction m with
        | nil => intro _; exact Int.le_refl _
        | cons a m ih =>
          intro h
          have := ih fun k hk => h (k + 1) (by simpa using hk)
          have h0 := h 0 (by simp)
          have h0 : 1 ≤ a.getD 3 0 := h0
          show 0 ≤ a.getD 3 0 + plen m
          omega
      exact this l hp'
    unfold lfA
    have e1 : plen (r :: l) + e = r.getD 3 0 + (plen l + e) := by show r.getD 3 0 + plen l + e = _; omega
    rw [e1, if_neg (by omega), show r.getD 3 0 + (plen l + e) - r.getD 3 0 = plen l + e by omega]
    exact lfA_end l (i + 1) e hp' he
theorem plen_nonneg {sg : List (List Int)} (h : okLen sg) {j : Nat} (hj : j ≤ sg.length) : 0 ≤ plen (sg.take j) := by
  induction j with
  | zero => exact Int.le_refl _
  | succ n ih => rw [plen_take_succ sg n (by omega)]; have := ih (by omega); have := h.2 n (by omega); omega
theorem plen_take_le {sg : List (List Int)} (h : okLen sg) {j : Nat} (hj : j ≤ sg.length) : plen (sg.take j) ≤ plen sg := by
  have : ∀ n, j + n ≤ sg.length → plen (sg.take j) ≤ plen (sg.take (j + n)) := by
    intro n
    induction n with
    | zero => intro _; exact Int.le_refl _
    | succ n ih =>
      intro hn
      have := ih (by omega)
      have a := plen_take_succ sg (j + n) (by omega)
      have := h.2 (j + n) (by omega)
      rw [show j + (n + 1) = j + n + 1 by omega, a]
      omega
  have := this (sg.length - j) (by omega)
  rw [show j + (sg.length - j) = sg.length by omega, List.take_length] at this
  exact this
theorem ptAt_seg {s : Int} {sg : List (List Int)} {c j : Nat} {d : Int} (h : okLen sg) (hj : j < sg.length) (hd : 0 ≤ d ∧ d ≤ ec sg j 3) :
    ptAt s sg c (plen (sg.take j) + d) = bgn s sg c j + rnd ((ec sg j c - bgn s sg c j) * d) (ec sg j 3) := by
  have hp : ∀ k, k < sg.length → 1 ≤ ec sg k 3 := fun k hk => (h.2 k hk).1
  have hn := plen_nonneg h (show j ≤ sg.length by omega)
  have core : ∀ (j : Nat) (d : Int), j < sg.length → 0 ≤ d → d < ec sg j 3 → ptAt s sg c (plen (sg.take j) + d) = bgn s sg c j + rnd ((ec sg j c - bgn s sg c j) * d) (ec sg j 3) := by
    intro j d hj h0 h1
    have hn := plen_nonneg h (show j ≤ sg.length by omega)
    have e : pfind sg (plen (sg.take j) + d) = ((j : Int), d) := by
      unfold pfind
      rw [if_neg (by omega), show max (plen (sg.take j) + d) 0 = plen (sg.take j) + d by omega, lfA_at sg 0 j d hp hj h0 h1]
      have : (0 : Int) + (j : Int) = j := by omega
      rw [this, if_pos (show (0 : Int) ≤ ((j : Int), d).1 by show (0 : Int) ≤ (j : Int); omega)]
    unfold ptAt
    rw [e, if_neg (by show ¬ (j : Int) < 0; omega)]
    rfl
  by_cases hlt : d < ec sg j 3
  · exact core j d hj hd.1 hlt
  · have hdL : d = ec sg j 3 := by omega
    have L0 := hp j hj
    rw [hdL, rnd_full (by omega)]
    by_cases hl : j + 1 < sg.length
    · rw [← plen_take_succ sg j hj, show plen (sg.take (j + 1)) = plen (sg.take (j + 1)) + 0 by omega, core (j + 1) 0 hl (Int.le_refl _) (by have := hp (j + 1) hl; omega), Int.mul_zero, rnd_zero (by have := hp (j + 1) hl; omega)]
      have : bgn s sg c ((j + 1 : Nat) : Int) = ec sg j c := by
        unfold bgn
        rw [if_neg (by omega), show (((j + 1 : Nat) : Int) - 1).toNat = j by omega]
      rw [this]; omega
    · have e : pfind sg (plen (sg.take j) + ec sg j 3) = ((j : Int), ec sg j 3) := by
        have e2 : plen (sg.take j) + ec sg j 3 = plen sg + 0 := by
          rw [← plen_take_succ sg j hj, List.take_of_length_le (by omega)]; omega
        have n1 := lfA_end sg 0 0 hp (Int.le_refl _)
        unfold pfind
        rw [if_neg (by omega), show max (plen (sg.take j) + ec sg j 3) 0 = plen (sg.take j) + ec sg j 3 by omega, e2, n1, if_neg (by omega)]
        refine Prod.ext ?_ ?_
        · show (sg.length : Int) - 1 = (j : Int); omega
        · show ec sg (sg.length - 1) 3 = ec sg j 3; rw [show sg.length - 1 = j by omega]
      unfold ptAt
      rw [e, if_neg (by show ¬ (j : Int) < 0; omega)]
      show bgn s sg c (j : Int) + rnd ((ec sg j c - bgn s sg c (j : Int)) * ec sg j 3) (ec sg j 3) = _
      rw [rnd_full (by omega)]
theorem ptAt_dir {s : Int} {sg : List (List Int)} {c j : Nat} {d : Int} (h : okLen sg) (hj : j < sg.length) (hd : 0 ≤ d ∧ d < ec sg j 3) (hD : -(ec sg j 3) ≤ ec sg j c - bgn s sg c j ∧ ec sg j c - bgn s sg c j ≤ ec sg j 3) :
    (0 ≤ ec sg j c - bgn s sg c j → 0 ≤ ptAt s sg c (plen (sg.take j) + (d + 1)) - ptAt s sg c (plen (sg.take j) + d) ∧ ptAt s sg c (plen (sg.take j) + (d + 1)) - ptAt s sg c (plen (sg.take j) + d) ≤ 1) ∧
    (ec sg j c - bgn s sg c j ≤ 0 → -1 ≤ ptAt s sg c (plen (sg.take j) + (d + 1)) - ptAt s sg c (plen (sg.take j) + d) ∧ ptAt s sg c (plen (sg.take j) + (d + 1)) - ptAt s sg c (plen (sg.take j) + d) ≤ 0) := by
  rw [ptAt_seg h hj (by omega), ptAt_seg h hj (by omega)]
  have := rnd_step (D := ec sg j c - bgn s sg c j) (L := ec sg j 3) (d := d) (by have := (h.2 j hj).1; omega) hD
  refine ⟨fun h => ?_, fun h => ?_⟩
  · have := this.1 h; omega
  · have := this.2 h; omega
theorem pos_split {sg : List (List Int)} (h : okLen sg) {p : Int} (hp : 0 ≤ p) : ∀ n, n ≤ sg.length → p < plen (sg.take n) → ∃ j d, j < n ∧ p = plen (sg.take j) + d ∧ 0 ≤ d ∧ d < ec sg j 3
  | 0, _, hlt => by
    have : plen (sg.take 0) = 0 := rfl
    omega
  | n + 1, hn, hlt => by
    rw [plen_take_succ sg n (by omega)] at hlt
    by_cases h1 : p < plen (sg.take n)
    · obtain ⟨j, d, a, b⟩ := pos_split h hp n (by omega) h1
      exact ⟨j, d, by omega, b⟩
    · exact ⟨n, p - plen (sg.take n), by omega, by omega, by omega, by omega⟩
theorem okSegs_D {s0 s1 s2 : Int} {sg : List (List Int)} (h : okSegs s0 s1 s2 sg) {j : Nat} (hj : j < sg.length) :
    (-(ec sg j 3) ≤ ec sg j 0 - bgn s0 sg 0 j ∧ ec sg j 0 - bgn s0 sg 0 j ≤ ec sg j 3) ∧ (-(ec sg j 3) ≤ ec sg j 1 - bgn s1 sg 1 j ∧ ec sg j 1 - bgn s1 sg 1 j ≤ ec sg j 3) ∧ (-(ec sg j 3) ≤ ec sg j 2 - bgn s2 sg 2 j ∧ ec sg j 2 - bgn s2 sg 2 j ≤ ec sg j 3) := (h j hj).2.2
theorem ptAt_lip {s : Int} {sg : List (List Int)} {c : Nat} (h : okLen sg) (hD : ∀ j, j < sg.length → -(ec sg j 3) ≤ ec sg j c - bgn s sg c j ∧ ec sg j c - bgn s sg c j ≤ ec sg j 3) {p : Int} (hp : 0 ≤ p ∧ p < plen sg) :
    -1 ≤ ptAt s sg c (p + 1) - ptAt s sg c p ∧ ptAt s sg c (p + 1) - ptAt s sg c p ≤ 1 := by
  obtain ⟨j, d, h1, h2, h3⟩ := pos_split h hp.1 sg.length (Nat.le_refl _) (by rw [List.take_length]; exact hp.2)
  have := ptAt_dir (c := c) (s := s) h h1 h3 (hD j h1)
  rw [show p + 1 = plen (sg.take j) + (d + 1) by omega, h2]
  by_cases h0 : 0 ≤ ec sg j c - bgn s sg c j
  · have := this.1 h0; omega
  · have := this.2 (by omega); omega
theorem fc1_pm {a b m d : Int} (hd : pm d) : pm (fc1 a b m d) := by
  unfold fc1 pm at *
  split
  · exact .inl rfl
  · split
    · exact .inr rfl
    · exact hd
theorem sl1_ge (a b m n : Int) : n ≤ sl1 a b m n ∧ (a ≠ b → m ≤ sl1 a b m n) := by unfold sl1; split <;> omega
theorem slk_ge (b0 b1 b2 w0 w1 w2 d0 d1 d2 : Int) : (w0 ≠ d0 → b0 ≤ slk b0 b1 b2 w0 w1 w2 d0 d1 d2) ∧ (w1 ≠ d1 → b1 ≤ slk b0 b1 b2 w0 w1 w2 d0 d1 d2) ∧ (w2 ≠ d2 → b2 ≤ slk b0 b1 b2 w0 w1 w2 d0 d1 d2) := by
  unfold slk
  have h0 := sl1_ge w0 d0 b0 0
  have h1 := sl1_ge w1 d1 b1 (sl1 w0 d0 b0 0)
  have h2 := sl1_ge w2 d2 b2 (sl1 w1 d1 b1 (sl1 w0 d0 b0 0))
  exact ⟨fun h => by have := h0.2 h; omega, fun h => by have := h1.2 h; omega, h2.2⟩
theorem bsh_any {b a n : Int} (h : a = n ∨ b = 0) : bsh b n = bsh b a := by
  rcases h with rfl | rfl
  · rfl
  · unfold bsh; split <;> split <;> rfl
theorem moveStep {s0 s1 s2 : Int} {sgs : List (List Int)} {b0 b1 b2 d0 d1 d2 f m ln U p a0 a1 a2 n0 n1 n2 : Int} {pk : List (List Int)}
    (h : legOK s0 s1 s2 sgs b0 b1 b2 d0 d1 d2 f m pk ln p a0 a1 a2) (ha : (a0 = n0 ∨ b0 = 0) ∧ (a1 = n1 ∨ b1 = 0) ∧ (a2 = n2 ∨ b2 = 0)) (hn : pm n0 ∧ pm n1 ∧ pm n2) (hm : pm m) (hU : 1 ≤ U) (hp : 0 ≤ p ∧ p ≤ 18014398509481984)
    (hs : ∀ v, 1 ≤ v ∧ v ≤ U → (0 ≤ p + m * v ∧ p + m * v ≤ plen sgs) ∧ (0 ≤ p + m * (v - 1) ∧ p + m * (v - 1) ≤ plen sgs) ∧
      0 ≤ n0 * (ptAt s0 sgs 0 (p + m * v) - ptAt s0 sgs 0 (p + m * (v - 1))) ∧ 0 ≤ n1 * (ptAt s1 sgs 1 (p + m * v) - ptAt s1 sgs 1 (p + m * (v - 1))) ∧ 0 ≤ n2 * (ptAt s2 sgs 2 (p + m * v) - ptAt s2 sgs 2 (p + m * (v - 1)))) :
    legOK s0 s1 s2 sgs b0 b1 b2 d0 d1 d2 f m (tadd pk ln [0, U, p, m, n0, n1, n2, n0, n1, n2]).1 (tadd pk ln [0, U, p, m, n0, n1, n2, n0, n1, n2]).2 (p + m * U) n0 n1 n2 := by
  have m0 : m ≠ 0 := by unfold pm at hm; omega
  have m1 : -1 ≤ m ∧ m ≤ 1 := by unfold pm at hm; omega
  have hT := tadd_okT (q0 := 0) (q4 := n0) (q5 := n1) (q6 := n2) (q7 := n0) (q8 := n1) (q9 := n2) h.1 hU hp m1
  by_cases hc : 0 < pk.length ∧ m ≠ 0 ∧ ec pk (pk.length - 1) 3 = m ∧ ec pk (pk.length - 1) 7 = n0 ∧ ec pk (pk.length - 1) 8 = n1 ∧ ec pk (pk.length - 1) 9 = n2
  · rw [tadd_more hc] at hT ⊢
    exact set_ok h hc.1 hT hU hn m0 hc.2.2.1 hc.2.2.2.1 hc.2.2.2.2.1 hc.2.2.2.2.2 fun v hv => by
      obtain ⟨q1, q2, q3, q4, q5⟩ := hs v hv
      exact ⟨.inr ⟨rfl, q1, q2, n0, hn.1, rfl, rfl, q3⟩, .inr ⟨rfl, q1, q2, n1, hn.2.1, rfl, rfl, q4⟩, .inr ⟨rfl, q1, q2, n2, hn.2.2, rfl, rfl, q5⟩⟩
  · rw [tadd_app hc] at hT ⊢
    exact app_ok h hT hU hn ⟨by rw [tsh_move m0]; exact bsh_any ha.1, by rw [tsh_move m0]; exact bsh_any ha.2.1, by rw [tsh_move m0]; exact bsh_any ha.2.2⟩ (fun v hv => by
      obtain ⟨q1, q2, q3, q4, q5⟩ := hs v hv
      exact ⟨.inr ⟨rfl, q1, q2, n0, hn.1, tsh_move m0, tsh_move m0, q3⟩, .inr ⟨rfl, q1, q2, n1, hn.2.1, tsh_move m0, tsh_move m0, q4⟩, .inr ⟨rfl, q1, q2, n2, hn.2.2, tsh_move m0, tsh_move m0, q5⟩⟩) ⟨tsh_move m0, tsh_move m0, tsh_move m0⟩
theorem takeStep {s0 s1 s2 : Int} {sgs : List (List Int)} {b0 b1 b2 d0 d1 d2 f m ln U p a0 a1 a2 n0 n1 n2 : Int} {pk : List (List Int)}
    (h : legOK s0 s1 s2 sgs b0 b1 b2 d0 d1 d2 f m pk ln p a0 a1 a2) (hb : okB3 b0 b1 b2) (hn : pm n0 ∧ pm n1 ∧ pm n2) (hU : 1 ≤ U) (hp : 0 ≤ p ∧ p ≤ 18014398509481984) (hg : (a0 ≠ n0 → b0 ≤ U) ∧ (a1 ≠ n1 → b1 ≤ U) ∧ (a2 ≠ n2 → b2 ≤ U)) :
    legOK s0 s1 s2 sgs b0 b1 b2 d0 d1 d2 f m (tadd pk ln [0, U, p, 0, a0, a1, a2, n0, n1, n2]).1 (tadd pk ln [0, U, p, 0, a0, a1, a2, n0, n1, n2]).2 p n0 n1 n2 := by
  have ha := h.2.2.2.2.1
  have hT := tadd_okT (q0 := 0) (q4 := a0) (q5 := a1) (q6 := a2) (q7 := n0) (q8 := n1) (q9 := n2) h.1 hU hp (show (-1 : Int) ≤ 0 ∧ (0 : Int) ≤ 1 by decide)
  have hc : ¬ (0 < pk.length ∧ (0 : Int) ≠ 0 ∧ ec pk (pk.length - 1) 3 = 0 ∧ ec pk (pk.length - 1) 7 = n0 ∧ ec pk (pk.length - 1) 8 = n1 ∧ ec pk (pk.length - 1) 9 = n2) := fun hh => hh.2.1 rfl
  rw [tadd_app hc] at hT ⊢
  have := app_ok h hT hU hn ⟨tsh_zero ha.1 hn.1 hb.1.1, tsh_zero ha.2.1 hn.2.1 hb.2.1.1, tsh_zero ha.2.2 hn.2.2 hb.2.2.1⟩ (fun v hv => ⟨.inl ⟨rfl, tsh_step1 hb.1.1 hv.1⟩, .inl ⟨rfl, tsh_step1 hb.2.1.1 hv.1⟩, .inl ⟨rfl, tsh_step1 hb.2.2.1 hv.1⟩⟩)
    ⟨tsh_end hn.1 hg.1, tsh_end hn.2.1 hg.2.1, tsh_end hn.2.2 hg.2.2⟩
  rw [Int.zero_mul, Int.add_zero] at this
  exact this
theorem fc1_dir1 {a b d x : Int} (h : (0 ≤ b - a → 0 ≤ x) ∧ (b - a ≤ 0 → x ≤ 0)) : 0 ≤ fc1 a b 1 d * x := by
  unfold fc1
  rw [Int.mul_one]
  by_cases h1 : b - a > 0
  · rw [if_pos h1]; have := h.1 (by omega); omega
  · rw [if_neg h1]
    by_cases h2 : b - a < 0
    · rw [if_pos h2]; have := h.2 (by omega); omega
    · rw [if_neg h2]
      have h3 := h.1 (by omega)
      have h4 := h.2 (by omega)
      have : x = 0 := by omega
      rw [this, Int.mul_zero]; exact Int.le_refl _
theorem fc1_dir2 {a b d x : Int} (h : (0 ≤ b - a → 0 ≤ x) ∧ (b - a ≤ 0 → x ≤ 0)) : 0 ≤ fc1 a b (-1) d * (-x) := by
  unfold fc1
  rw [show (b - a) * -1 = -(b - a) by omega]
  by_cases h1 : -(b - a) > 0
  · rw [if_pos h1]; have := h.2 (by omega); omega
  · rw [if_neg h1]
    by_cases h2 : -(b - a) < 0
    · rw [if_pos h2]; have := h.1 (by omega); omega
    · rw [if_neg h2]
      have h3 := h.1 (by omega)
      have h4 := h.2 (by omega)
      have : x = 0 := by omega
      rw [this, Int.neg_zero, Int.mul_zero]; exact Int.le_refl _
def ppos (m f t bg : Int) : Int := if m < 0 then min f (max bg t) else max f (min bg t)
theorem legPut_ok {s0 s1 s2 : Int} {sgs : List (List Int)} {b0 b1 b2 d0 d1 d2 f m low high e n0 n1 n2 p : Int} {x : LegS}
    (h : legOK s0 s1 s2 sgs b0 b1 b2 d0 d1 d2 f m x.pk x.ln p x.a0 x.a1 x.a2) (hb : okB3 b0 b1 b2) (hm : pm m) (hn : pm n0 ∧ pm n1 ∧ pm n2) (hp : low < high → p = legS m low high) (hr : low < high → 0 ≤ p ∧ p ≤ 18014398509481984)
    (hs : low < high → ∀ v, 1 ≤ v ∧ v ≤ high - low → (0 ≤ p + m * v ∧ p + m * v ≤ plen sgs) ∧ (0 ≤ p + m * (v - 1) ∧ p + m * (v - 1) ≤ plen sgs) ∧
      0 ≤ n0 * (ptAt s0 sgs 0 (p + m * v) - ptAt s0 sgs 0 (p + m * (v - 1))) ∧ 0 ≤ n1 * (ptAt s1 sgs 1 (p + m * v) - ptAt s1 sgs 1 (p + m * (v - 1))) ∧ 0 ≤ n2 * (ptAt s2 sgs 2 (p + m * v) - ptAt s2 sgs 2 (p + m * (v - 1)))) :
    legOK s0 s1 s2 sgs b0 b1 b2 d0 d1 d2 f m (legPut b0 b1 b2 m low high e n0 n1 n2 x).pk (legPut b0 b1 b2 m low high e n0 n1 n2 x).ln (if low < high then p + m * (high - low) else p)
      (legPut b0 b1 b2 m low high e n0 n1 n2 x).a0 (legPut b0 b1 b2 m low high e n0 n1 n2 x).a1 (legPut b0 b1 b2 m low high e n0 n1 n2 x).a2 := by
  unfold legPut
  by_cases hlh : low < high
  · rw [if_pos hlh, if_pos hlh]
    dsimp only
    rw [← hp hlh]
    have hg := slk_ge b0 b1 b2 x.a0 x.a1 x.a2 n0 n1 n2
    have hsb := slk_bd hb x.a0 x.a1 x.a2 n0 n1 n2
    unfold legTk
    by_cases hu : slk b0 b1 b2 x.a0 x.a1 x.a2 n0 n1 n2 > 0
    · rw [if_pos hu]
      have t := takeStep h hb hn (by omega) (hr hlh) hg
      exact moveStep t ⟨.inl rfl, .inl rfl, .inl rfl⟩ hn hm (by omega) (hr hlh) (hs hlh)
    · rw [if_neg hu]
      have z : ∀ {a n b : Int}, 0 ≤ b → (a ≠ n → b ≤ slk b0 b1 b2 x.a0 x.a1 x.a2 n0 n1 n2) → a = n ∨ b = 0 := fun {a n b} hb0 hh => by
        by_cases e : a = n
        · exact .inl e
        · have := hh e; right; omega
      exact moveStep h ⟨z hb.1.1 hg.1, z hb.2.1.1 hg.2.1, z hb.2.2.1 hg.2.2⟩ hn hm (by omega) (hr hlh) (hs hlh)
  · rw [if_neg hlh, if_neg hlh]
    exact h
theorem legStep_ok {s0 s1 s2 : Int} {sg : List (List Int)} {b0 b1 b2 d0 d1 d2 f t m : Int} {x : LegS} {k : Nat} (hl : okLen sg) (hsg : okSegs s0 s1 s2 sg) (hb : okB3 b0 b1 b2) (hm : m = 1 ∧ f ≤ t ∨ m = -1 ∧ t < f) (hk : k < sg.length)
    (hf : 0 ≤ f ∧ f ≤ plen sg) (ht : 0 ≤ t ∧ t ≤ plen sg) (h1 : m = 1 → x.bg = plen (sg.take k)) (h2 : m = -1 → x.bg = plen (sg.take (sg.length - k)))
    (h : legOK s0 s1 s2 sg b0 b1 b2 d0 d1 d2 f m x.pk x.ln (ppos m f t x.bg) x.a0 x.a1 x.a2) :
    legOK s0 s1 s2 sg b0 b1 b2 d0 d1 d2 f m (legStep s0 s1 s2 sg b0 b1 b2 f t m x k).pk (legStep s0 s1 s2 sg b0 b1 b2 f t m x k).ln (ppos m f t (legStep s0 s1 s2 sg b0 b1 b2 f t m x k).bg)
      (legStep s0 s1 s2 sg b0 b1 b2 f t m x k).a0 (legStep s0 s1 s2 sg b0 b1 b2 f t m x k).a1 (legStep s0 s1 s2 sg b0 b1 b2 f t m x k).a2 := by
  have hpl := plen_le hl
  have ha := h.2.2.2.2.1
  have key : ∃ j : Nat, j < sg.length ∧ legI sg.length m k = (j : Int) ∧ legLow x.bg (legE sg m x.bg (legI sg.length m k)) f t = max (plen (sg.take j)) (min f t) ∧ legHigh x.bg (legE sg m x.bg (legI sg.length m k)) f t = min (plen (sg.take j) + ec sg j 3) (max f t) ∧
      (m = 1 → x.bg = plen (sg.take j) ∧ legE sg m x.bg (legI sg.length m k) = plen (sg.take j) + ec sg j 3) ∧ (m = -1 → x.bg = plen (sg.take j) + ec sg j 3 ∧ legE sg m x.bg (legI sg.length m k) = plen (sg.take j)) := by
    rcases hm with ⟨rfl, hft⟩ | ⟨rfl, hft⟩
    · have e1 := h1 rfl
      have hi : legI sg.length 1 k = (k : Int) := by unfold legI; rw [if_neg (by decide)]
      have hL := (hl.2 k hk).1
      have hE : legE sg 1 x.bg (legI sg.length 1 k) = plen (sg.take k) + ec sg k 3 := by
        unfold legE; rw [hi, e1]
        show plen (sg.take k) + 1 * ec sg k 3 = _
        omega
      refine ⟨k, hk, hi, ?_, ?_, fun _ => ⟨e1, hE⟩, fun e => by omega⟩
      · unfold legLow; rw [hE, e1]; omega
      · unfold legHigh; rw [hE, e1]; omega
    · have e2 := h2 rfl
      have hi : legI sg.length (-1) k = ((sg.length - 1 - k : Nat) : Int) := by unfold legI; rw [if_pos (by decide)]; omega
      have hj : sg.length - 1 - k < sg.length := by omega
      have hL := (hl.2 _ hj).1
      have tk := plen_take_succ sg _ hj
      rw [show sg.length - 1 - k + 1 = sg.length - k by omega] at tk
      have hE : legE sg (-1) x.bg (legI sg.length (-1) k) = plen (sg.take (sg.length - 1 - k)) := by
        unfold legE; rw [hi, e2, tk]
        show plen (sg.take (sg.length - 1 - k)) + ec sg (sg.length - 1 - k) 3 + -1 * ec sg (sg.length - 1 - k) 3 = _
        omega
      refine ⟨sg.length - 1 - k, hj, hi, ?_, ?_, fun e => by omega, fun _ => ⟨by rw [e2, tk], hE⟩⟩
      · unfold legLow; rw [hE, e2, tk]; omega
      · unfold legHigh; rw [hE, e2, tk]; omega
  obtain ⟨j, hj, hi, hlow, hhigh, k1, k2⟩ := key
  have hB := plen_nonneg hl (show j ≤ sg.length by omega)
  have hB2 := plen_take_le hl (show j + 1 ≤ sg.length by omega)
  rw [plen_take_succ sg j hj] at hB2
  have hL := (hl.2 j hj).1
  have D := okSegs_D hsg hj
  unfold legStep legSeg
  rw [hi] at hlow hhigh k1 k2 ⊢
  have hjt : ((j : Int)).toNat = j := rfl
  rw [hjt]
  generalize hlo : legLow x.bg (legE sg m x.bg (j : Int)) f t = low at *
  generalize hhi : legHigh x.bg (legE sg m x.bg (j : Int)) f t = high at *
  generalize he : legE sg m x.bg (j : Int) = e at *
  have main := legPut_ok (low := low) (high := high) (e := e) (n0 := fc1 (bgn s0 sg 0 (j : Int)) (ec sg j 0) m x.a0) (n1 := fc1 (bgn s1 sg 1 (j : Int)) (ec sg j 1) m x.a1) (n2 := fc1 (bgn s2 sg 2 (j : Int)) (ec sg j 2) m x.a2) h hb (by unfold pm; omega)
    ⟨fc1_pm ha.1, fc1_pm ha.2.1, fc1_pm ha.2.2⟩ (fun hlh => by
      unfold ppos legS
      rcases hm with ⟨rfl, hft⟩ | ⟨rfl, hft⟩
      · have := (k1 rfl).1
        rw [if_neg (by decide), if_neg (by decide)]; omega
      · have := (k2 rfl).1
        rw [if_pos (by decide), if_pos (by decide)]; omega) (fun hlh => by
      unfold ppos
      split <;> omega) (fun hlh v hv => by
      rcases hm with ⟨rfl, hft⟩ | ⟨rfl, hft⟩
      · have e1 := (k1 rfl).1
        have ep : ppos 1 f t x.bg = low := by unfold ppos; rw [if_neg (by decide)]; omega
        rw [ep]
        have q1 : low + 1 * v = plen (sg.take j) + (low + v - 1 - plen (sg.take j) + 1) := by omega
        have q2 : low + 1 * (v - 1) = plen (sg.take j) + (low + v - 1 - plen (sg.take j)) := by omega
        have hd : 0 ≤ low + v - 1 - plen (sg.take j) ∧ low + v - 1 - plen (sg.take j) < ec sg j 3 := by omega
        rw [q1, q2]
        have r0 := ptAt_dir (c := 0) (s := s0) hl hj hd D.1
        have r1 := ptAt_dir (c := 1) (s := s1) hl hj hd D.2.1
        have r2 := ptAt_dir (c := 2) (s := s2) hl hj hd D.2.2
        exact ⟨by omega, by omega, fc1_dir1 ⟨fun g => (r0.1 g).1, fun g => (r0.2 g).2⟩, fc1_dir1 ⟨fun g => (r1.1 g).1, fun g => (r1.2 g).2⟩, fc1_dir1 ⟨fun g => (r2.1 g).1, fun g => (r2.2 g).2⟩⟩
      · have e1 := (k2 rfl).1
        have ep : ppos (-1) f t x.bg = high := by unfold ppos; rw [if_pos (by decide)]; omega
        rw [ep]
        have q1 : high + -1 * v = plen (sg.take j) + (high - v - plen (sg.take j)) := by omega
        have q2 : high + -1 * (v - 1) = plen (sg.take j) + (high - v - plen (sg.take j) + 1) := by omega
        have hd : 0 ≤ high - v - plen (sg.take j) ∧ high - v - plen (sg.take j) < ec sg j 3 := by omega
        rw [q1, q2]
        have r0 := ptAt_dir (c := 0) (s := s0) hl hj hd D.1
        have r1 := ptAt_dir (c := 1) (s := s1) hl hj hd D.2.1
        have r2 := ptAt_dir (c := 2) (s := s2) hl hj hd D.2.2
        have ng : ∀ {n a b : Int}, 0 ≤ n * (-(a - b)) → 0 ≤ n * (b - a) := fun {n a b} g => by rw [show b - a = -(a - b) by omega]; exact g
        exact ⟨by omega, by omega, ng (fc1_dir2 ⟨fun g => (r0.1 g).1, fun g => (r0.2 g).2⟩), ng (fc1_dir2 ⟨fun g => (r1.1 g).1, fun g => (r1.2 g).2⟩), ng (fc1_dir2 ⟨fun g => (r2.1 g).1, fun g => (r2.2 g).2⟩)⟩)
  have ebg : (legPut b0 b1 b2 m low high e (fc1 (bgn s0 sg 0 (j : Int)) (ec sg j 0) m x.a0) (fc1 (bgn s1 sg 1 (j : Int)) (ec sg j 1) m x.a1) (fc1 (bgn s2 sg 2 (j : Int)) (ec sg j 2) m x.a2) x).bg = e := by unfold legPut; split <;> rfl
  rw [ebg]
  have epos : ppos m f t e = if low < high then ppos m f t x.bg + m * (high - low) else ppos m f t x.bg := by
    rcases hm with ⟨rfl, hft⟩ | ⟨rfl, hft⟩
    · have := k1 rfl
      have g : ∀ b, ppos 1 f t b = max f (min b t) := fun b => by unfold ppos; rw [if_neg (by decide)]
      rw [g, g]
      split <;> omega
    · have := k2 rfl
      have g : ∀ b, ppos (-1) f t b = min f (max b t) := fun b => by unfold ppos; rw [if_pos (by decide)]
      rw [g, g]
      split <;> omega
  rw [epos]
  exact main
theorem legK_ok {s0 s1 s2 : Int} {sg : List (List Int)} {b0 b1 b2 d0 d1 d2 f t m : Int} {x : LegS} (hl : okLen sg) (hsg : okSegs s0 s1 s2 sg) (hb : okB3 b0 b1 b2) (hm : m = 1 ∧ f ≤ t ∨ m = -1 ∧ t < f)
    (hf : 0 ≤ f ∧ f ≤ plen sg) (ht : 0 ≤ t ∧ t ≤ plen sg) (hJ : legJ sg m 0 x) (h : legOK s0 s1 s2 sg b0 b1 b2 d0 d1 d2 f m x.pk x.ln (ppos m f t x.bg) x.a0 x.a1 x.a2) : ∀ k, k ≤ sg.length →
    legOK s0 s1 s2 sg b0 b1 b2 d0 d1 d2 f m (legK s0 s1 s2 sg b0 b1 b2 f t m x k).pk (legK s0 s1 s2 sg b0 b1 b2 f t m x k).ln (ppos m f t (legK s0 s1 s2 sg b0 b1 b2 f t m x k).bg)
      (legK s0 s1 s2 sg b0 b1 b2 f t m x k).a0 (legK s0 s1 s2 sg b0 b1 b2 f t m x k).a1 (legK s0 s1 s2 sg b0 b1 b2 f t m x k).a2
  | 0, _ => h
  | k + 1, hk => by
    have ih := legK_ok hl hsg hb hm hf ht hJ h k (by omega)
    have J := legJ_all (s0 := s0) (s1 := s1) (s2 := s2) (f := f) (t := t) hl hb (by omega) hJ k (by omega)
    exact legStep_ok hl hsg hb hm (by omega) hf ht J.2.2.2.1 J.2.2.2.2 ih
theorem leg_all {s0 s1 s2 : Int} {sg : List (List Int)} {b0 b1 b2 d0 d1 d2 f t : Int} (hl : okLen sg) (hsg : okSegs s0 s1 s2 sg) (hb : okB3 b0 b1 b2) (hd : pm d0 ∧ pm d1 ∧ pm d2) (hf : 0 ≤ f ∧ f ≤ plen sg) (ht : 0 ≤ t ∧ t ≤ plen sg) :
    legOK s0 s1 s2 sg b0 b1 b2 d0 d1 d2 f (legM f t) (leg s0 s1 s2 sg b0 b1 b2 d0 d1 d2 f t).pk (leg s0 s1 s2 sg b0 b1 b2 d0 d1 d2 f t).ln t
      (leg s0 s1 s2 sg b0 b1 b2 d0 d1 d2 f t).a0 (leg s0 s1 s2 sg b0 b1 b2 d0 d1 d2 f t).a1 (leg s0 s1 s2 sg b0 b1 b2 d0 d1 d2 f t).a2 := by
  have hm : legM f t = 1 ∧ f ≤ t ∨ legM f t = -1 ∧ t < f := by unfold legM; split <;> omega
  have hJ : legJ sg (legM f t) 0 ⟨[], 0, d0, d1, d2, if legM f t < 0 then plen sg else 0⟩ := by
    refine ⟨⟨Int.le_refl _, by dsimp only; omega⟩, by simp, fun j hj => by simp at hj, fun e => ?_, fun e => ?_⟩
    · rw [e]; rfl
    · rw [e]
      show plen sg = plen (sg.take (sg.length - 0))
      simp
  have h0 : legOK s0 s1 s2 sg b0 b1 b2 d0 d1 d2 f (legM f t) [] 0 f d0 d1 d2 :=
    ⟨⟨fun _ => rfl, fun h => by simp at h, fun j hj => by simp at hj, fun j hj => by simp at hj⟩, Int.le_refl _, rfl, rfl, hd, ⟨rfl, rfl, rfl⟩, ⟨rfl, rfl, rfl⟩, fun u hu => by omega⟩
  have e0 : ppos (legM f t) f t (if legM f t < 0 then plen sg else 0) = f := by
    unfold ppos
    rcases hm with ⟨e, h⟩ | ⟨e, h⟩
    · rw [e, if_neg (by decide), if_neg (by decide)]; omega
    · rw [e, if_pos (by decide), if_pos (by decide)]; omega
  have main := legK_ok (d0 := d0) (d1 := d1) (d2 := d2) (x := ⟨[], 0, d0, d1, d2, if legM f t < 0 then plen sg else 0⟩) hl hsg hb hm hf ht hJ (by dsimp only; rw [e0]; exact h0) sg.length (Nat.le_refl _)
  have J := legJ_all (s0 := s0) (s1 := s1) (s2 := s2) (f := f) (t := t) hl hb (by omega) hJ sg.length (Nat.le_refl _)
  have e1 : ppos (legM f t) f t (leg s0 s1 s2 sg b0 b1 b2 d0 d1 d2 f t).bg = t := by
    unfold leg ppos
    rcases hm with ⟨e, h⟩ | ⟨e, h⟩
    · have := J.2.2.2.1 e
      rw [List.take_length] at this
      rw [if_neg (by omega)]
      rw [this]; omega
    · have := J.2.2.2.2 e
      rw [Nat.sub_self] at this
      rw [if_pos (by omega)]
      rw [this]
      have z : plen (sg.take 0) = 0 := rfl
      omega
  unfold leg at e1 ⊢
  rw [e1] at main
  exact main
end Go.Proofs.YtneingpnkdeooaaGreat

namespace U
open Go
def nomi (st og sg : Int) (pt : List (List Int)) (s : Int) (sgs : List (List Int)) (c : Nat) (p : Int) : Int := mot st og sg pt (ptAt s sgs c p)
end U
namespace Go.Proofs.YtneingpnkdeooaaGreat
open Go Go.HL U
attribute [local irreducible] hfun bodyT fragT
theorem lfA_cons (r : List Int) (l : List (List Int)) (i s : Int) : lfA (r :: l) i s = if s < r.getD 3 0 then (i, s) else lfA l (i + 1) (s - r.getD 3 0) := rfl
theorem ptAt_b3 {s0 s1 s2 : Int} {sg mk : List (List Int)} (h : okPath s0 s1 s2 sg mk) (p : Int) : (-536870912 ≤ ptAt s0 sg 0 p ∧ ptAt s0 sg 0 p ≤ 536870912) ∧ (-536870912 ≤ ptAt s1 sg 1 p ∧ ptAt s1 sg 1 p ≤ 536870912) ∧ (-536870912 ≤ ptAt s2 sg 2 p ∧ ptAt s2 sg 2 p ≤ 536870912) := by
  have hl := okPath_len h
  obtain ⟨k0, k1, k2, kk⟩ := okPath_pts h
  exact ⟨ptAt_bd hl k0 (fun j hj => (kk j hj).1) p, ptAt_bd hl k1 (fun j hj => (kk j hj).2.1) p, ptAt_bd hl k2 (fun j hj => (kk j hj).2.2) p⟩
end Go.Proofs.YtneingpnkdeooaaGreat
namespace U
open Go
structure PS where
  m0 : Int
  m1 : Int
  m2 : Int
  t0 : Int
  t1 : Int
  t2 : Int
def tbl (bl t m : Int) : Int := min (max t m) (m + bl)
def pstep (b0 b1 b2 : Int) (s : PS) (r : List Int) : PS :=
  if r.getD 2 0 = 1 ∨ r.getD 2 0 = -1 then
    if r.getD 1 0 = 0 then { s with m0 := s.m0 + r.getD 2 0, t0 := tbl b0 s.t0 (s.m0 + r.getD 2 0) }
    else if r.getD 1 0 = 1 then { s with m1 := s.m1 + r.getD 2 0, t1 := tbl b1 s.t1 (s.m1 + r.getD 2 0) }
    else if r.getD 1 0 = 2 then { s with m2 := s.m2 + r.getD 2 0, t2 := tbl b2 s.t2 (s.m2 + r.getD 2 0) }
    else s
  else s
def pall (b0 b1 b2 : Int) (s : PS) (l : List (List Int)) : PS := l.foldl (pstep b0 b1 b2) s
def smallPS (B : Int) (s : PS) : Prop := (-B ≤ s.m0 ∧ s.m0 ≤ B) ∧ (-B ≤ s.m1 ∧ s.m1 ≤ B) ∧ (-B ≤ s.m2 ∧ s.m2 ≤ B) ∧ (-B - 4096 ≤ s.t0 ∧ s.t0 ≤ B + 4096) ∧ (-B - 4096 ≤ s.t1 ∧ s.t1 ≤ B + 4096) ∧ (-B - 4096 ≤ s.t2 ∧ s.t2 ≤ B + 4096)
def okBl (b : Int) : Prop := 0 ≤ b ∧ b ≤ 4096
end U
namespace Go.Proofs.YtneingpnkdeooaaGreat
open Go Go.HL U
def STable (hargs : List HV) (pars : List (List HC)) : SR :=
  match hargs, pars with
  | [.agg [.int .i64 sta, .int .i64 spa, .int .i64 aca, .int .i64 jea, .int .i64 loa, .int .i64 hia, .int .i64 bla, .int .i64 oga, .int .i64 sga, .sl false [4] pta], .ce (.int .i64 t), .ce (.int .i64 m)], [] => .det (okBl bla ∧ (-4611686018427387904 ≤ t ∧ t ≤ 4611686018427387904) ∧ (-4611686018427387904 ≤ m ∧ m ≤ 4611686018427387904)) ⟨.ce (.int .i64 (tbl bla t m)), false, [], []⟩
  | _, _ => .fail
noncomputable def CTable : Ctx := ⟨Tryz.prog, gam [], Tryz.f41.ntmps, [], []⟩
theorem vcTable (sta spa aca jea loa hia bla oga sga t m : Int) (pta : List (List Int)) (Q : Res → Prop) : (nfun true CTable Tryz.f41 (bodyOf Tryz.f41) [.agg [.int .i64 sta, .int .i64 spa, .int .i64 aca, .int .i64 jea, .int .i64 loa, .int .i64 hia, .int .i64 bla, .int .i64 oga, .int .i64 sga, .sl false [4] pta], .ce (.int .i64 t), .ce (.int .i64 m)] [] Q) =
    (∀ (x1 : Int), x1 = max t m → (-9223372036854775808 ≤ m + bla ∧ m + bla ≤ 9223372036854775807) ∧ ∀ (x2 : Int), x2 = m + bla → ∀ (x3 : Int), x3 = min x1 x2 → Q ⟨.ce (.int .i64 x3), false, [], []⟩) := by kernel_rfl
def okMp (st og sg : Int) (pit : List (List Int)) (p : Int) : Prop := (0 < st ∧ st ≤ 16777216) ∧ okC og sg pit ∧ -1073741824 ≤ p ∧ p ≤ 1073741824
def SPStart (hargs : List HV) (pars : List (List HC)) : SR :=
  match hargs, pars with
  | [.agg [.int .i64 sta, .int .i64 spa, .int .i64 aca, .int .i64 jea, .int .i64 loa, .int .i64 hia, .int .i64 bla, .int .i64 oga, .int .i64 sga, .sl false [4] pta, .int .i64 stb, .int .i64 spb, .int .i64 acb, .int .i64 jeb, .int .i64 lob, .int .i64 hib, .int .i64 blb, .int .i64 ogb, .int .i64 sgb, .sl false [4] ptb, .int .i64 stc, .int .i64 spc, .int .i64 acc, .int .i64 jec, .int .i64 loc, .int .i64 hic, .int .i64 blc, .int .i64 ogc, .int .i64 sgc, .sl false [4] ptc], .agg [.int .i64 p0, .int .i64 p1, .int .i64 p2]], [] =>
    .det (okMp sta oga sga pta p0 ∧ okMp stb ogb sgb ptb p1 ∧ okMp stc ogc sgc ptc p2)
      ⟨.agg [.int .i64 (mot sta oga sga pta p0), .int .i64 (mot stb ogb sgb ptb p1), .int .i64 (mot stc ogc sgc ptc p2), .int .i64 (mot sta oga sga pta p0), .int .i64 (mot stb ogb sgb ptb p1), .int .i64 (mot stc ogc sgc ptc p2)], false, [], []⟩
  | _, _ => .fail
def tabPStart : List (FuncId × HL.Spec) := [(40, SMotor)]
noncomputable def CPStart : Ctx := ⟨Tryz.prog, gam tabPStart, Tryz.f17.ntmps, [(4000003, unrT [1000002, 1000003, 1000004, 1000005], fun _ => .fail)], []⟩
theorem vcPStart (sta spa aca jea loa hia bla oga sga stb spb acb jeb lob hib blb ogb sgb stc spc acc jec loc hic blc ogc sgc : Int) (pta ptb ptc : List (List Int)) (p0 p1 p2 : Int) (Q : Res → Prop) : (nfun true CPStart Tryz.f17 (bodyOf Tryz.f17) [.agg [.int .i64 sta, .int .i64 spa, .int .i64 aca, .int .i64 jea, .int .i64 loa, .int .i64 hia, .int .i64 bla, .int .i64 oga, .int .i64 sga, .sl false [4] pta, .int .i64 stb, .int .i64 spb, .int .i64 acb, .int .i64 jeb, .int .i64 lob, .int .i64 hib, .int .i64 blb, .int .i64 ogb, .int .i64 sgb, .sl false [4] ptb, .int .i64 stc, .int .i64 spc, .int .i64 acc, .int .i64 jec, .int .i64 loc, .int .i64 hic, .int .i64 blc, .int .i64 ogc, .int .i64 sgc, .sl false [4] ptc], .agg [.int .i64 p0, .int .i64 p1, .int .i64 p2]] [] Q) =
    (((0 < sta ∧ sta ≤ 16777216) ∧ okC oga sga pta ∧ (-1073741824 : Int) ≤ p0 ∧ p0 ≤ 1073741824) ∧ ∀ (x1 : Int), x1 = mot sta oga sga pta p0 → ((0 < stb ∧ stb ≤ 16777216) ∧ okC ogb sgb ptb ∧ (-1073741824 : Int) ≤ p1 ∧ p1 ≤ 1073741824) ∧ ∀ (x2 : Int), x2 = mot stb ogb sgb ptb p1 → ((0 < stc ∧ stc ≤ 16777216) ∧ okC ogc sgc ptc ∧ (-1073741824 : Int) ≤ p2 ∧ p2 ≤ 1073741824) ∧ ∀ (x3 : Int), x3 = mot stc ogc sgc ptc p2 → Q ⟨.agg [.int .i64 x1, .int .i64 x2, .int .i64 x3, .int .i64 x1, .int .i64 x2, .int .i64 x3], false, [], []⟩) := by kernel_rfl
def SPStep (hargs : List HV) (pars : List (List HC)) : SR :=
  match hargs, pars with
  | [.agg [.int .i64 sta, .int .i64 spa, .int .i64 aca, .int .i64 jea, .int .i64 loa, .int .i64 hia, .int .i64 bla, .int .i64 oga, .int .i64 sga, .sl false [4] pta, .int .i64 stb, .int .i64 spb, .int .i64 acb, .int .i64 jeb, .int .i64 lob, .int .i64 hib, .int .i64 blb, .int .i64 ogb, .int .i64 sgb, .sl false [4] ptb, .int .i64 stc, .int .i64 spc, .int .i64 acc, .int .i64 jec, .int .i64 loc, .int .i64 hic, .int .i64 blc, .int .i64 ogc, .int .i64 sgc, .sl false [4] ptc], .agg [.int .i64 m0, .int .i64 m1, .int .i64 m2, .int .i64 t0, .int .i64 t1, .int .i64 t2], .ce (.sl false [4, 4, 4] l)], [] =>
    .all ((okBl bla ∧ okBl blb ∧ okBl blc) ∧ smallPS 1152921504606846976 ⟨m0, m1, m2, t0, t1, t2⟩ ∧ l.length ≤ 1152921504606846976) PS (fun x => x = pall bla blb blc ⟨m0, m1, m2, t0, t1, t2⟩ l) (fun x => ⟨.agg [.int .i64 x.m0, .int .i64 x.m1, .int .i64 x.m2, .int .i64 x.t0, .int .i64 x.t1, .int .i64 x.t2], false, [], []⟩)
  | _, _ => .fail
def anStep : LAnn := ⟨[3, 4, 6, 9, 10, 11], [3, 4, 6], [1000003, 1000004, 1000006], false⟩
def LPStep (v : LV) : LR :=
  match v with
  | ([.ce (.ptr 1000003 0), .ce (.ptr 1000004 0), .ce (.ptr 1000006 0), .ce (.sl false [4, 4, 4] l), .ce (.int .i64 n), .ce (.int .i64 i)], [bx, bp, bz]) =>
    match bx with
    | [.int .i64 sta, .int .i64 spa, .int .i64 aca, .int .i64 jea, .int .i64 loa, .int .i64 hia, .int .i64 bla, .int .i64 oga, .int .i64 sga, .sl false [4] pta, .int .i64 stb, .int .i64 spb, .int .i64 acb, .int .i64 jeb, .int .i64 lob, .int .i64 hib, .int .i64 blb, .int .i64 ogb, .int .i64 sgb, .sl false [4] ptb, .int .i64 stc, .int .i64 spc, .int .i64 acc, .int .i64 jec, .int .i64 loc, .int .i64 hic, .int .i64 blc, .int .i64 ogc, .int .i64 sgc, .sl false [4] ptc] =>
      match bp, bz with
      | [.int .i64 m0, .int .i64 m1, .int .i64 m2, .int .i64 t0, .int .i64 t1, .int .i64 t2], [.int .i64 y0, .int .i64 y1, .int .i64 y2, .int .i64 y3, .int .i64 y4, .int .i64 y5] =>
        .all (n = l.length ∧ i = 0 ∧ (okBl bla ∧ okBl blb ∧ okBl blc) ∧ smallPS 1152921504606846976 ⟨m0, m1, m2, t0, t1, t2⟩ ∧ l.length ≤ 1152921504606846976) PS (fun x => x = pall bla blb blc ⟨m0, m1, m2, t0, t1, t2⟩ l) (fun _ => .exit 0)
          (fun x => ([.ce (.ptr 1000003 0), .ce (.ptr 1000004 0), .ce (.ptr 1000006 0)], [[.int .i64 sta, .int .i64 spa, .int .i64 aca, .int .i64 jea, .int .i64 loa, .int .i64 hia, .int .i64 bla, .int .i64 oga, .int .i64 sga, .sl false [4] pta, .int .i64 stb, .int .i64 spb, .int .i64 acb, .int .i64 jeb, .int .i64 lob, .int .i64 hib, .int .i64 blb, .int .i64 ogb, .int .i64 sgb, .sl false [4] ptb, .int .i64 stc, .int .i64 spc, .int .i64 acc, .int .i64 jec, .int .i64 loc, .int .i64 hic, .int .i64 blc, .int .i64 ogc, .int .i64 sgc, .sl false [4] ptc], [.int .i64 x.m0, .int .i64 x.m1, .int .i64 x.m2, .int .i64 x.t0, .int .i64 x.t1, .int .i64 x.t2], [.int .i64 y0, .int .i64 y1, .int .i64 y2, .int .i64 y3, .int .i64 y4, .int .i64 y5]]))
      | _, _ => .fail
    | _ => .fail
  | _ => .fail
def tabPStep : List (FuncId × HL.Spec) := [(41, STable)]
noncomputable def CPStep : Ctx := ⟨Tryz.prog, gam tabPStep, Tryz.f18.ntmps, [(2, anStep, LPStep)], [spl 5 1000008 1 6]⟩
theorem vbPStep (sta spa aca jea loa hia bla oga sga stb spb acb jeb lob hib blb ogb sgb stc spc acc jec loc hic blc ogc sgc : Int) (pta ptb ptc : List (List Int)) (m0 m1 m2 t0 t1 t2 : Int) (n i y0 y1 y2 y3 y4 y5 : Int) (l : List (List Int)) (K : HEx → LV → Prop) : (nbodyT true CPStep anStep (nthLoop Tryz.f18 0) (([.ce (.ptr 1000003 0), .ce (.ptr 1000004 0), .ce (.ptr 1000006 0), .ce (.sl false [4, 4, 4] l), .ce (.int .i64 n), .ce (.int .i64 i)], [[.int .i64 sta, .int .i64 spa, .int .i64 aca, .int .i64 jea, .int .i64 loa, .int .i64 hia, .int .i64 bla, .int .i64 oga, .int .i64 sga, .sl false [4] pta, .int .i64 stb, .int .i64 spb, .int .i64 acb, .int .i64 jeb, .int .i64 lob, .int .i64 hib, .int .i64 blb, .int .i64 ogb, .int .i64 sgb, .sl false [4] ptb, .int .i64 stc, .int .i64 spc, .int .i64 acc, .int .i64 jec, .int .i64 loc, .int .i64 hic, .int .i64 blc, .int .i64 ogc, .int .i64 sgc, .sl false [4] ptc], [.int .i64 m0, .int .i64 m1, .int .i64 m2, .int .i64 t0, .int .i64 t1, .int .i64 t2], [.int .i64 y0, .int .i64 y1, .int .i64 y2, .int .i64 y3, .int .i64 y4, .int .i64 y5]])) K) =
    ((decide (i < n) = true → (0 ≤ i ∧ i < (List.length l : Int)) ∧ (decide (ec l i.toNat 1 < (0 : Int)) = true → (-9223372036854775808 ≤ i + 1 ∧ i + 1 ≤ 9223372036854775807) ∧ ∀ (x1 : Int), x1 = i + 1 → K .normal ([.ce (.ptr 1000003 0), .ce (.ptr 1000004 0), .ce (.ptr 1000006 0), .ce (.sl false [4, 4, 4] l), .ce (.int .i64 n), .ce (.int .i64 x1)], [[.int .i64 sta, .int .i64 spa, .int .i64 aca, .int .i64 jea, .int .i64 loa, .int .i64 hia, .int .i64 bla, .int .i64 oga, .int .i64 sga, .sl false [4] pta, .int .i64 stb, .int .i64 spb, .int .i64 acb, .int .i64 jeb, .int .i64 lob, .int .i64 hib, .int .i64 blb, .int .i64 ogb, .int .i64 sgb, .sl false [4] ptb, .int .i64 stc, .int .i64 spc, .int .i64 acc, .int .i64 jec, .int .i64 loc, .int .i64 hic, .int .i64 blc, .int .i64 ogc, .int .i64 sgc, .sl false [4] ptc], [.int .i64 m0, .int .i64 m1, .int .i64 m2, .int .i64 t0, .int .i64 t1, .int .i64 t2], [.int .i64 y0, .int .i64 y1, .int .i64 y2, .int .i64 y3, .int .i64 y4, .int .i64 y5]])) ∧
    (decide (ec l i.toNat 1 < (0 : Int)) = false → (decide (ec l i.toNat 1 > (2 : Int)) = true → (-9223372036854775808 ≤ i + 1 ∧ i + 1 ≤ 9223372036854775807) ∧ ∀ (x2 : Int), x2 = i + 1 → K .normal ([.ce (.ptr 1000003 0), .ce (.ptr 1000004 0), .ce (.ptr 1000006 0), .ce (.sl false [4, 4, 4] l), .ce (.int .i64 n), .ce (.int .i64 x2)], [[.int .i64 sta, .int .i64 spa, .int .i64 aca, .int .i64 jea, .int .i64 loa, .int .i64 hia, .int .i64 bla, .int .i64 oga, .int .i64 sga, .sl false [4] pta, .int .i64 stb, .int .i64 spb, .int .i64 acb, .int .i64 jeb, .int .i64 lob, .int .i64 hib, .int .i64 blb, .int .i64 ogb, .int .i64 sgb, .sl false [4] ptb, .int .i64 stc, .int .i64 spc, .int .i64 acc, .int .i64 jec, .int .i64 loc, .int .i64 hic, .int .i64 blc, .int .i64 ogc, .int .i64 sgc, .sl false [4] ptc], [.int .i64 m0, .int .i64 m1, .int .i64 m2, .int .i64 t0, .int .i64 t1, .int .i64 t2], [.int .i64 y0, .int .i64 y1, .int .i64 y2, .int .i64 y3, .int .i64 y4, .int .i64 y5]])) ∧
    (decide (ec l i.toNat 1 > (2 : Int)) = false → ((ec l i.toNat 2 != (1 : Int)) = true → ((ec l i.toNat 2 != (-1 : Int)) = true → (-9223372036854775808 ≤ i + 1 ∧ i + 1 ≤ 9223372036854775807) ∧ ∀ (x3 : Int), x3 = i + 1 → K .normal ([.ce (.ptr 1000003 0), .ce (.ptr 1000004 0), .ce (.ptr 1000006 0), .ce (.sl false [4, 4, 4] l), .ce (.int .i64 n), .ce (.int .i64 x3)], [[.int .i64 sta, .int .i64 spa, .int .i64 aca, .int .i64 jea, .int .i64 loa, .int .i64 hia, .int .i64 bla, .int .i64 oga, .int .i64 sga, .sl false [4] pta, .int .i64 stb, .int .i64 spb, .int .i64 acb, .int .i64 jeb, .int .i64 lob, .int .i64 hib, .int .i64 blb, .int .i64 ogb, .int .i64 sgb, .sl false [4] ptb, .int .i64 stc, .int .i64 spc, .int .i64 acc, .int .i64 jec, .int .i64 loc, .int .i64 hic, .int .i64 blc, .int .i64 ogc, .int .i64 sgc, .sl false [4] ptc], [.int .i64 m0, .int .i64 m1, .int .i64 m2, .int .i64 t0, .int .i64 t1, .int .i64 t2], [.int .i64 y0, .int .i64 y1, .int .i64 y2, .int .i64 y3, .int .i64 y4, .int .i64 y5]])) ∧
    ((ec l i.toNat 2 != (-1 : Int)) = false → (ec l i.toNat 1 = (0 : Int) → (-9223372036854775808 ≤ m0 + ec l i.toNat 2 ∧ m0 + ec l i.toNat 2 ≤ 9223372036854775807) ∧ ∀ (x4 : Int), x4 = m0 + ec l i.toNat 2 → (okBl bla ∧ ((-4611686018427387904 : Int) ≤ t0 ∧ t0 ≤ 4611686018427387904) ∧ (-4611686018427387904 : Int) ≤ x4 ∧ x4 ≤ 4611686018427387904) ∧ ∀ (x5 : Int), x5 = tbl bla t0 x4 → (-9223372036854775808 ≤ i + 1 ∧ i + 1 ≤ 9223372036854775807) ∧ ∀ (x6 : Int), x6 = i + 1 → K .normal ([.ce (.ptr 1000003 0), .ce (.ptr 1000004 0), .ce (.ptr 1000006 0), .ce (.sl false [4, 4, 4] l), .ce (.int .i64 n), .ce (.int .i64 x6)], [[.int .i64 sta, .int .i64 spa, .int .i64 aca, .int .i64 jea, .int .i64 loa, .int .i64 hia, .int .i64 bla, .int .i64 oga, .int .i64 sga, .sl false [4] pta, .int .i64 stb, .int .i64 spb, .int .i64 acb, .int .i64 jeb, .int .i64 lob, .int .i64 hib, .int .i64 blb, .int .i64 ogb, .int .i64 sgb, .sl false [4] ptb, .int .i64 stc, .int .i64 spc, .int .i64 acc, .int .i64 jec, .int .i64 loc, .int .i64 hic, .int .i64 blc, .int .i64 ogc, .int .i64 sgc, .sl false [4] ptc], [.int .i64 x4, .int .i64 m1, .int .i64 m2, .int .i64 x5, .int .i64 t1, .int .i64 t2], [.int .i64 y0, .int .i64 y1, .int .i64 y2, .int .i64 y3, .int .i64 y4, .int .i64 y5]])) ∧
    (ec l i.toNat 1 ≠ (0 : Int) → (ec l i.toNat 1 = (1 : Int) → (-9223372036854775808 ≤ m1 + ec l i.toNat 2 ∧ m1 + ec l i.toNat 2 ≤ 9223372036854775807) ∧ ∀ (x7 : Int), x7 = m1 + ec l i.toNat 2 → (okBl blb ∧ ((-4611686018427387904 : Int) ≤ t1 ∧ t1 ≤ 4611686018427387904) ∧ (-4611686018427387904 : Int) ≤ x7 ∧ x7 ≤ 4611686018427387904) ∧ ∀ (x8 : Int), x8 = tbl blb t1 x7 → (-9223372036854775808 ≤ i + 1 ∧ i + 1 ≤ 9223372036854775807) ∧ ∀ (x9 : Int), x9 = i + 1 → K .normal ([.ce (.ptr 1000003 0), .ce (.ptr 1000004 0), .ce (.ptr 1000006 0), .ce (.sl false [4, 4, 4] l), .ce (.int .i64 n), .ce (.int .i64 x9)], [[.int .i64 sta, .int .i64 spa, .int .i64 aca, .int .i64 jea, .int .i64 loa, .int .i64 hia, .int .i64 bla, .int .i64 oga, .int .i64 sga, .sl false [4] pta, .int .i64 stb, .int .i64 spb, .int .i64 acb, .int .i64 jeb, .int .i64 lob, .int .i64 hib, .int .i64 blb, .int .i64 ogb, .int .i64 sgb, .sl false [4] ptb, .int .i64 stc, .int .i64 spc, .int .i64 acc, .int .i64 jec, .int .i64 loc, .int .i64 hic, .int .i64 blc, .int .i64 ogc, .int .i64 sgc, .sl false [4] ptc], [.int .i64 m0, .int .i64 x7, .int .i64 m2, .int .i64 t0, .int .i64 x8, .int .i64 t2], [.int .i64 y0, .int .i64 y1, .int .i64 y2, .int .i64 y3, .int .i64 y4, .int .i64 y5]])) ∧
    (ec l i.toNat 1 ≠ (1 : Int) → (ec l i.toNat 1 = (2 : Int) → (-9223372036854775808 ≤ m2 + ec l i.toNat 2 ∧ m2 + ec l i.toNat 2 ≤ 9223372036854775807) ∧ ∀ (x10 : Int), x10 = m2 + ec l i.toNat 2 → (okBl blc ∧ ((-4611686018427387904 : Int) ≤ t2 ∧ t2 ≤ 4611686018427387904) ∧ (-4611686018427387904 : Int) ≤ x10 ∧ x10 ≤ 4611686018427387904) ∧ ∀ (x11 : Int), x11 = tbl blc t2 x10 → (-9223372036854775808 ≤ i + 1 ∧ i + 1 ≤ 9223372036854775807) ∧ ∀ (x12 : Int), x12 = i + 1 → K .normal ([.ce (.ptr 1000003 0), .ce (.ptr 1000004 0), .ce (.ptr 1000006 0), .ce (.sl false [4, 4, 4] l), .ce (.int .i64 n), .ce (.int .i64 x12)], [[.int .i64 sta, .int .i64 spa, .int .i64 aca, .int .i64 jea, .int .i64 loa, .int .i64 hia, .int .i64 bla, .int .i64 oga, .int .i64 sga, .sl false [4] pta, .int .i64 stb, .int .i64 spb, .int .i64 acb, .int .i64 jeb, .int .i64 lob, .int .i64 hib, .int .i64 blb, .int .i64 ogb, .int .i64 sgb, .sl false [4] ptb, .int .i64 stc, .int .i64 spc, .int .i64 acc, .int .i64 jec, .int .i64 loc, .int .i64 hic, .int .i64 blc, .int .i64 ogc, .int .i64 sgc, .sl false [4] ptc], [.int .i64 m0, .int .i64 m1, .int .i64 x10, .int .i64 t0, .int .i64 t1, .int .i64 x11], [.int .i64 y0, .int .i64 y1, .int .i64 y2, .int .i64 y3, .int .i64 y4, .int .i64 y5]])) ∧
    (ec l i.toNat 1 ≠ (2 : Int) → False))))) ∧ ((ec l i.toNat 2 != (1 : Int)) = false → (ec l i.toNat 1 = (0 : Int) → (-9223372036854775808 ≤ m0 + ec l i.toNat 2 ∧ m0 + ec l i.toNat 2 ≤ 9223372036854775807) ∧ ∀ (x13 : Int), x13 = m0 + ec l i.toNat 2 → (okBl bla ∧ ((-4611686018427387904 : Int) ≤ t0 ∧ t0 ≤ 4611686018427387904) ∧ (-4611686018427387904 : Int) ≤ x13 ∧ x13 ≤ 4611686018427387904) ∧ ∀ (x14 : Int), x14 = tbl bla t0 x13 → (-9223372036854775808 ≤ i + 1 ∧ i + 1 ≤ 9223372036854775807) ∧ ∀ (x15 : Int), x15 = i + 1 → K .normal ([.ce (.ptr 1000003 0), .ce (.ptr 1000004 0), .ce (.ptr 1000006 0), .ce (.sl false [4, 4, 4] l), .ce (.int .i64 n), .ce (.int .i64 x15)], [[.int .i64 sta, .int .i64 spa, .int .i64 aca, .int .i64 jea, .int .i64 loa, .int .i64 hia, .int .i64 bla, .int .i64 oga, .int .i64 sga, .sl false [4] pta, .int .i64 stb, .int .i64 spb, .int .i64 acb, .int .i64 jeb, .int .i64 lob, .int .i64 hib, .int .i64 blb, .int .i64 ogb, .int .i64 sgb, .sl false [4] ptb, .int .i64 stc, .int .i64 spc, .int .i64 acc, .int .i64 jec, .int .i64 loc, .int .i64 hic, .int .i64 blc, .int .i64 ogc, .int .i64 sgc, .sl false [4] ptc], [.int .i64 x13, .int .i64 m1, .int .i64 m2, .int .i64 x14, .int .i64 t1, .int .i64 t2], [.int .i64 y0, .int .i64 y1, .int .i64 y2, .int .i64 y3, .int .i64 y4, .int .i64 y5]])) ∧
    (ec l i.toNat 1 ≠ (0 : Int) → (ec l i.toNat 1 = (1 : Int) → (-9223372036854775808 ≤ m1 + ec l i.toNat 2 ∧ m1 + ec l i.toNat 2 ≤ 9223372036854775807) ∧ ∀ (x16 : Int), x16 = m1 + ec l i.toNat 2 → (okBl blb ∧ ((-4611686018427387904 : Int) ≤ t1 ∧ t1 ≤ 4611686018427387904) ∧ (-4611686018427387904 : Int) ≤ x16 ∧ x16 ≤ 4611686018427387904) ∧ ∀ (x17 : Int), x17 = tbl blb t1 x16 → (-9223372036854775808 ≤ i + 1 ∧ i + 1 ≤ 9223372036854775807) ∧ ∀ (x18 : Int), x18 = i + 1 → K .normal ([.ce (.ptr 1000003 0), .ce (.ptr 1000004 0), .ce (.ptr 1000006 0), .ce (.sl false [4, 4, 4] l), .ce (.int .i64 n), .ce (.int .i64 x18)], [[.int .i64 sta, .int .i64 spa, .int .i64 aca, .int .i64 jea, .int .i64 loa, .int .i64 hia, .int .i64 bla, .int .i64 oga, .int .i64 sga, .sl false [4] pta, .int .i64 stb, .int .i64 spb, .int .i64 acb, .int .i64 jeb, .int .i64 lob, .int .i64 hib, .int .i64 blb, .int .i64 ogb, .int .i64 sgb, .sl false [4] ptb, .int .i64 stc, .int .i64 spc, .int .i64 acc, .int .i64 jec, .int .i64 loc, .int .i64 hic, .int .i64 blc, .int .i64 ogc, .int .i64 sgc, .sl false [4] ptc], [.int .i64 m0, .int .i64 x16, .int .i64 m2, .int .i64 t0, .int .i64 x17, .int .i64 t2], [.int .i64 y0, .int .i64 y1, .int .i64 y2, .int .i64 y3, .int .i64 y4, .int .i64 y5]])) ∧
    (ec l i.toNat 1 ≠ (1 : Int) → (ec l i.toNat 1 = (2 : Int) → (-9223372036854775808 ≤ m2 + ec l i.toNat 2 ∧ m2 + ec l i.toNat 2 ≤ 9223372036854775807) ∧ ∀ (x19 : Int), x19 = m2 + ec l i.toNat 2 → (okBl blc ∧ ((-4611686018427387904 : Int) ≤ t2 ∧ t2 ≤ 4611686018427387904) ∧ (-4611686018427387904 : Int) ≤ x19 ∧ x19 ≤ 4611686018427387904) ∧ ∀ (x20 : Int), x20 = tbl blc t2 x19 → (-9223372036854775808 ≤ i + 1 ∧ i + 1 ≤ 9223372036854775807) ∧ ∀ (x21 : Int), x21 = i + 1 → K .normal ([.ce (.ptr 1000003 0), .ce (.ptr 1000004 0), .ce (.ptr 1000006 0), .ce (.sl false [4, 4, 4] l), .ce (.int .i64 n), .ce (.int .i64 x21)], [[.int .i64 sta, .int .i64 spa, .int .i64 aca, .int .i64 jea, .int .i64 loa, .int .i64 hia, .int .i64 bla, .int .i64 oga, .int .i64 sga, .sl false [4] pta, .int .i64 stb, .int .i64 spb, .int .i64 acb, .int .i64 jeb, .int .i64 lob, .int .i64 hib, .int .i64 blb, .int .i64 ogb, .int .i64 sgb, .sl false [4] ptb, .int .i64 stc, .int .i64 spc, .int .i64 acc, .int .i64 jec, .int .i64 loc, .int .i64 hic, .int .i64 blc, .int .i64 ogc, .int .i64 sgc, .sl false [4] ptc], [.int .i64 m0, .int .i64 m1, .int .i64 x19, .int .i64 t0, .int .i64 t1, .int .i64 x20], [.int .i64 y0, .int .i64 y1, .int .i64 y2, .int .i64 y3, .int .i64 y4, .int .i64 y5]])) ∧
    (ec l i.toNat 1 ≠ (2 : Int) → False))))))) ∧ (decide (i < n) = false → K (.exit 0) ([.ce (.ptr 1000003 0), .ce (.ptr 1000004 0), .ce (.ptr 1000006 0)], [[.int .i64 sta, .int .i64 spa, .int .i64 aca, .int .i64 jea, .int .i64 loa, .int .i64 hia, .int .i64 bla, .int .i64 oga, .int .i64 sga, .sl false [4] pta, .int .i64 stb, .int .i64 spb, .int .i64 acb, .int .i64 jeb, .int .i64 lob, .int .i64 hib, .int .i64 blb, .int .i64 ogb, .int .i64 sgb, .sl false [4] ptb, .int .i64 stc, .int .i64 spc, .int .i64 acc, .int .i64 jec, .int .i64 loc, .int .i64 hic, .int .i64 blc, .int .i64 ogc, .int .i64 sgc, .sl false [4] ptc], [.int .i64 m0, .int .i64 m1, .int .i64 m2, .int .i64 t0, .int .i64 t1, .int .i64 t2], [.int .i64 y0, .int .i64 y1, .int .i64 y2, .int .i64 y3, .int .i64 y4, .int .i64 y5]]))) := by kernel_rfl
theorem vcPStep (sta spa aca jea loa hia bla oga sga stb spb acb jeb lob hib blb ogb sgb stc spc acc jec loc hic blc ogc sgc : Int) (pta ptb ptc : List (List Int)) (m0 m1 m2 t0 t1 t2 : Int) (l : List (List Int)) (Q : Res → Prop) : (nfun true CPStep Tryz.f18 (bodyOf Tryz.f18) [.agg [.int .i64 sta, .int .i64 spa, .int .i64 aca, .int .i64 jea, .int .i64 loa, .int .i64 hia, .int .i64 bla, .int .i64 oga, .int .i64 sga, .sl false [4] pta, .int .i64 stb, .int .i64 spb, .int .i64 acb, .int .i64 jeb, .int .i64 lob, .int .i64 hib, .int .i64 blb, .int .i64 ogb, .int .i64 sgb, .sl false [4] ptb, .int .i64 stc, .int .i64 spc, .int .i64 acc, .int .i64 jec, .int .i64 loc, .int .i64 hic, .int .i64 blc, .int .i64 ogc, .int .i64 sgc, .sl false [4] ptc], .agg [.int .i64 m0, .int .i64 m1, .int .i64 m2, .int .i64 t0, .int .i64 t1, .int .i64 t2], .ce (.sl false [4, 4, 4] l)] [] Q) =
    (((List.length l : Int) = (List.length l : Int) ∧ (0 : Int) = (0 : Int) ∧ (okBl bla ∧ okBl blb ∧ okBl blc) ∧ smallPS (1152921504606846976 : Int) { m0 := m0, m1 := m1, m2 := m2, t0 := t0, t1 := t1, t2 := t2 } ∧ List.length l ≤ (1152921504606846976 : Nat)) ∧ ∀ (x : PS), x = pall bla blb blc { m0 := m0, m1 := m1, m2 := m2, t0 := t0, t1 := t1, t2 := t2 } l → Q ⟨.agg [.int .i64 x.m0, .int .i64 x.m1, .int .i64 x.m2, .int .i64 x.t0, .int .i64 x.t1, .int .i64 x.t2], false, [], []⟩) := by kernel_rfl
end Go.Proofs.YtneingpnkdeooaaGreat
namespace U
theorem tbl_bd {bl t m B : Int} (hb : okBl bl) (ht : -B - 4096 ≤ t ∧ t ≤ B + 4096) (hm : -B ≤ m ∧ m ≤ B) : -B - 4096 ≤ tbl bl t m ∧ tbl bl t m ≤ B + 4096 := by
  unfold tbl okBl at *
  omega
theorem small_up {B : Int} {s : PS} (h : smallPS B s) : smallPS (B + 1) s := by unfold smallPS at *; omega
theorem pstep_small {B b0 b1 b2 : Int} {s : PS} {r : List Int} (h0 : okBl b0) (h1 : okBl b1) (h2 : okBl b2) (h : smallPS B s) : smallPS (B + 1) (pstep b0 b1 b2 s r) := by
  have hh := small_up h
  have hs := hh
  unfold pstep
  unfold smallPS at h hs
  obtain ⟨g0, g1, g2, _⟩ := h
  obtain ⟨a0, a1, a2, c0, c1, c2⟩ := hs
  generalize r.getD 2 0 = d
  generalize r.getD 1 0 = a
  by_cases hd : d = 1 ∨ d = -1
  · rw [if_pos hd]
    have m0 : -(B + 1) ≤ s.m0 + d ∧ s.m0 + d ≤ B + 1 := by omega
    have m1 : -(B + 1) ≤ s.m1 + d ∧ s.m1 + d ≤ B + 1 := by omega
    have m2 : -(B + 1) ≤ s.m2 + d ∧ s.m2 + d ≤ B + 1 := by omega
    by_cases e0 : a = 0
    · rw [if_pos e0]; exact ⟨m0, a1, a2, tbl_bd h0 c0 m0, c1, c2⟩
    rw [if_neg e0]
    by_cases e1 : a = 1
    · rw [if_pos e1]; exact ⟨a0, m1, a2, c0, tbl_bd h1 c1 m1, c2⟩
    rw [if_neg e1]
    by_cases e2 : a = 2
    · rw [if_pos e2]; exact ⟨a0, a1, m2, c0, c1, tbl_bd h2 c2 m2⟩
    rw [if_neg e2]; exact hh
  · rw [if_neg hd]; exact hh
theorem take_next2 {α : Type} (l : List α) {k : Nat} (hk : k < l.length) (d : α) : l.take (k + 1) = l.take k ++ [l.getD k d] := by
  rw [List.take_add_one, List.getElem?_eq_getElem hk]
  simp [List.getD_eq_getElem?_getD, hk]
theorem pall_next (b0 b1 b2 : Int) (s : PS) (l : List (List Int)) {k : Nat} (hk : k < l.length) : pall b0 b1 b2 s (l.take (k + 1)) = pstep b0 b1 b2 (pall b0 b1 b2 s (l.take k)) (l.getD k []) := by
  unfold pall
  rw [take_next2 l hk [], List.foldl_append]
  rfl
theorem pall_small {B b0 b1 b2 : Int} {s : PS} (h0 : okBl b0) (h1 : okBl b1) (h2 : okBl b2) (h : smallPS B s) : ∀ l : List (List Int), smallPS (B + (l.length : Int)) (pall b0 b1 b2 s l) := by
  intro l
  induction l generalizing s B with
  | nil =>
    have e : B + (([] : List (List Int)).length : Int) = B := by simp
    rw [e]; exact h
  | cons r l ih =>
    have := ih (pstep_small (r := r) h0 h1 h2 h)
    have e : B + ((r :: l).length : Int) = B + 1 + (l.length : Int) := by simp; omega
    rw [e]
    exact this
end U
namespace Go.Proofs.YtneingpnkdeooaaGreat
open Go Go.HL U
attribute [local irreducible] hfun bodyT fragT
set_option maxHeartbeats 400000 in
set_option maxRecDepth 100000 in
theorem sTable : Sound Tryz.prog 41 STable := by
  refine sound_of (C := CTable) [] Tryz.func41 (by kernel_rfl) (by decide +kernel) (by kernel_rfl) rfl trivial (loops0 (by kernel_rfl)) ?_
  intro hargs pars R h
  unfold STable at h
  split at h
  case h_2 => exfalso; exact h
  rename_i sta spa aca jea loa hia bla oga sga pta t m
  refine byVC (vcTable sta spa aca jea loa hia bla oga sga t m pta R) ?_
  obtain ⟨⟨h1, h2, h3⟩, hq⟩ := h
  unfold okBl at h1
  intro x1 e1
  refine ⟨by omega, fun x2 e2 x3 e3 => ?_⟩
  rw [e3, e2, e1]; exact hq
set_option maxHeartbeats 400000 in
set_option maxRecDepth 100000 in
theorem sPStart : Sound Tryz.prog 17 SPStart := by
  refine sound_of (C := CPStart) tabPStart Tryz.func17 (by kernel_rfl) (by decide +kernel) (by kernel_rfl) rfl ⟨sMotor, trivial⟩ (loopsAll (by kernel_rfl)) ?_
  intro hargs pars R h
  unfold SPStart at h
  split at h
  case h_2 => exfalso; exact h
  rename_i sta spa aca jea loa hia bla oga sga pta stb spb acb jeb lob hib blb ogb sgb ptb stc spc acc jec loc hic blc ogc sgc ptc p0 p1 p2
  refine byVC (vcPStart sta spa aca jea loa hia bla oga sga stb spb acb jeb lob hib blb ogb sgb stc spc acc jec loc hic blc ogc sgc pta ptb ptc p0 p1 p2 R) ?_
  obtain ⟨⟨h0, h1, h2⟩, hq⟩ := h
  refine ⟨h0, fun x1 e1 => ⟨h1, fun x2 e2 => ⟨h2, fun x3 e3 => ?_⟩⟩⟩
  rw [e1, e2, e3]; exact hq
set_option maxHeartbeats 1600000 in
theorem loopStep : ∀ v Q, (LPStep v).wp Q → hloop CPStep anStep (nthLoop Tryz.f18 0) v Q := by
  intro v Q h
  unfold LPStep at h
  split at h
  case h_2 => exact h.elim
  rename_i l n i bx bp bz
  split at h
  case h_2 => exact h.elim
  rename_i sta spa aca jea loa hia bla oga sga pta stb spb acb jeb lob hib blb ogb sgb ptb stc spc acc jec loc hic blc ogc sgc ptc
  split at h
  case h_2 => exact h.elim
  rename_i m0 m1 m2 t0 t1 t2 y0 y1 y2 y3 y4 y5
  obtain ⟨⟨hn, hi, ⟨b0, b1, b2⟩, hs, hl⟩, hq⟩ := h
  subst hn hi
  refine hloop_rec (σ := PS × Nat)
    (fun s => ([.ce (.ptr 1000003 0), .ce (.ptr 1000004 0), .ce (.ptr 1000006 0), .ce (.sl false [4, 4, 4] l), .ce (.int .i64 (l.length : Int)), .ce (.int .i64 (s.2 : Int))], [[.int .i64 sta, .int .i64 spa, .int .i64 aca, .int .i64 jea, .int .i64 loa, .int .i64 hia, .int .i64 bla, .int .i64 oga, .int .i64 sga, .sl false [4] pta, .int .i64 stb, .int .i64 spb, .int .i64 acb, .int .i64 jeb, .int .i64 lob, .int .i64 hib, .int .i64 blb, .int .i64 ogb, .int .i64 sgb, .sl false [4] ptb, .int .i64 stc, .int .i64 spc, .int .i64 acc, .int .i64 jec, .int .i64 loc, .int .i64 hic, .int .i64 blc, .int .i64 ogc, .int .i64 sgc, .sl false [4] ptc], [.int .i64 s.1.m0, .int .i64 s.1.m1, .int .i64 s.1.m2, .int .i64 s.1.t0, .int .i64 s.1.t1, .int .i64 s.1.t2], [.int .i64 y0, .int .i64 y1, .int .i64 y2, .int .i64 y3, .int .i64 y4, .int .i64 y5]]))
    (fun s => l.length - s.2)
    (fun s => s.2 ≤ l.length ∧ s.1 = pall bla blb blc ⟨m0, m1, m2, t0, t1, t2⟩ (l.take s.2))
    ?_ (⟨m0, m1, m2, t0, t1, t2⟩, 0) ⟨Nat.zero_le _, rfl⟩
  rintro ⟨⟨m0', m1', m2', t0', t1', t2'⟩, k⟩ ⟨hk, he⟩ K hn hx _
  dsimp only at hk he hn ⊢
  have hsm := pall_small b0 b1 b2 hs (l.take k)
  rw [← he] at hsm
  have hlt : ((l.take k).length : Int) ≤ 1152921504606846976 := by rw [List.length_take]; omega
  unfold smallPS at hsm
  dsimp only at hsm
  refine byVB (vbPStep sta spa aca jea loa hia bla oga sga stb spb acb jeb lob hib blb ogb sgb stc spc acc jec loc hic blc ogc sgc pta ptb ptc m0' m1' m2' t0' t1' t2' l.length k y0 y1 y2 y3 y4 y5 l K) ⟨fun g => ?_, fun g => ?_⟩
  · have g := of_decide_eq_true g
    have hkl : k < l.length := by omega
    have fin : ∀ s' : PS, s' = pstep bla blb blc ⟨m0', m1', m2', t0', t1', t2'⟩ (l.getD k []) → ∀ x : Int, x = (k : Int) + 1 →
        K .normal ([.ce (.ptr 1000003 0), .ce (.ptr 1000004 0), .ce (.ptr 1000006 0), .ce (.sl false [4, 4, 4] l), .ce (.int .i64 (l.length : Int)), .ce (.int .i64 x)], [[.int .i64 sta, .int .i64 spa, .int .i64 aca, .int .i64 jea, .int .i64 loa, .int .i64 hia, .int .i64 bla, .int .i64 oga, .int .i64 sga, .sl false [4] pta, .int .i64 stb, .int .i64 spb, .int .i64 acb, .int .i64 jeb, .int .i64 lob, .int .i64 hib, .int .i64 blb, .int .i64 ogb, .int .i64 sgb, .sl false [4] ptb, .int .i64 stc, .int .i64 spc, .int .i64 acc, .int .i64 jec, .int .i64 loc, .int .i64 hic, .int .i64 blc, .int .i64 ogc, .int .i64 sgc, .sl false [4] ptc], [.int .i64 s'.m0, .int .i64 s'.m1, .int .i64 s'.m2, .int .i64 s'.t0, .int .i64 s'.t1, .int .i64 s'.t2], [.int .i64 y0, .int .i64 y1, .int .i64 y2, .int .i64 y3, .int .i64 y4, .int .i64 y5]]) := by
      intro s' e x ex
      have := hn (s', k + 1) ⟨hkl, by dsimp only; rw [pall_next _ _ _ _ _ hkl, ← he]; exact e⟩ (by dsimp only; omega)
      rw [ex]
      exact this
    have ea : ec l (Int.toNat (k : Int)) 1 = (l.getD k []).getD 1 0 := rfl
    have ed : ec l (Int.toNat (k : Int)) 2 = (l.getD k []).getD 2 0 := rfl
    rw [ea, ed]
    unfold pstep at fin
    generalize l.getD k [] = r at *
    generalize r.getD 1 0 = a at *
    generalize r.getD 2 0 = d at *
    have up : ∀ x : Int, x = (k : Int) + 1 → -9223372036854775808 ≤ (k : Int) + 1 ∧ (k : Int) + 1 ≤ 9223372036854775807 := fun _ _ => by omega
    refine ⟨by omega, fun h1 => ⟨by omega, fun x ex => fin ⟨m0', m1', m2', t0', t1', t2'⟩ ?_ x ex⟩, fun h1 => ⟨fun h2 => ⟨by omega, fun x ex => fin ⟨m0', m1', m2', t0', t1', t2'⟩ ?_ x ex⟩, fun h2 => ⟨fun h3 => ⟨fun h4 => ⟨by omega, fun x ex => fin ⟨m0', m1', m2', t0', t1', t2'⟩ ?_ x ex⟩, fun h4 => ?_⟩, fun h3 => ?_⟩⟩⟩
    · have h1 := of_decide_eq_true h1
      split
      · rw [if_neg (by omega), if_neg (by omega), if_neg (by omega)]
      · rfl
    · have h2 := of_decide_eq_true h2
      split
      · rw [if_neg (by omega), if_neg (by omega), if_neg (by omega)]
      · rfl
    · have h3 : d ≠ 1 := by simpa using h3
      have h4 : d ≠ -1 := by simpa using h4
      rw [if_neg (by omega)]
    all_goals
      have h1 := of_decide_eq_false h1
      have h2 := of_decide_eq_false h2
      have hd : d = 1 ∨ d = -1 := by first | exact .inl (by simpa using h3) | exact .inr (by simpa using h4)
      rw [if_pos hd] at fin
      refine ⟨fun a0 => ⟨by omega, fun x ex => ⟨⟨b0, by omega, by omega⟩, fun y ey => ⟨by omega, fun z ez => ?_⟩⟩⟩,
        fun a0 => ⟨fun a1 => ⟨by omega, fun x ex => ⟨⟨b1, by omega, by omega⟩, fun y ey => ⟨by omega, fun z ez => ?_⟩⟩⟩,
          fun a1 => ⟨fun a2 => ⟨by omega, fun x ex => ⟨⟨b2, by omega, by omega⟩, fun y ey => ⟨by omega, fun z ez => ?_⟩⟩⟩, fun a2 => by omega⟩⟩⟩
      · exact fin ⟨x, m1', m2', y, t1', t2'⟩ (by rw [if_pos a0, ey, ex]) z ez
      · exact fin ⟨m0', x, m2', t0', y, t2'⟩ (by rw [if_neg a0, if_pos a1, ey, ex]) z ez
      · exact fin ⟨m0', m1', x, t0', t1', y⟩ (by rw [if_neg a0, if_neg a1, if_pos a2, ey, ex]) z ez
  · have g := of_decide_eq_false g
    have hkl : k = l.length := by omega
    have := hx 0 _ (hq ⟨m0', m1', m2', t0', t1', t2'⟩ (by rw [he, hkl, List.take_length]))
    exact this
set_option maxHeartbeats 400000 in
set_option maxRecDepth 100000 in
theorem sPStep : Sound Tryz.prog 18 SPStep := by
  refine sound_of (C := CPStep) tabPStep Tryz.func18 (by kernel_rfl) (by decide +kernel) (by kernel_rfl) rfl ⟨sTable, trivial⟩ (loops1 (by kernel_rfl) (loopOK_of (an := anStep) (S := LPStep) (by kernel_rfl) loopStep)) ?_
  intro hargs pars R h
  unfold SPStep at h
  split at h
  case h_2 => exfalso; exact h
  rename_i sta spa aca jea loa hia bla oga sga pta stb spb acb jeb lob hib blb ogb sgb ptb stc spc acc jec loc hic blc ogc sgc ptc m0 m1 m2 t0 t1 t2 l
  obtain ⟨⟨h1, h2, h3⟩, _, hq⟩ := h
  exact byVC (vcPStep sta spa aca jea loa hia bla oga sga stb spb acb jeb lob hib blb ogb sgb stc spc acc jec loc hic blc ogc sgc pta ptb ptc m0 m1 m2 t0 t1 t2 l R) ⟨⟨rfl, rfl, h1, h2, h3⟩, hq⟩
end Go.Proofs.YtneingpnkdeooaaGreat
namespace Go.Proofs.YtneingpnkdeooaaGreat
open Go Go.HL U
theorem mot_step {st og sg p : Int} {pit : List (List Int)} (h : okSl sg pit) (hst : 4 ≤ st) : 0 ≤ mot st og sg pit (p + 1) - mot st og sg pit p ∧ mot st og sg pit (p + 1) - mot st og sg pit p ≤ 1 := by
  have hc := corr_step (og := og) h p
  unfold mot
  have := ediv_near (x := 2 * (p + corr og sg pit p) + st) (e := 2 * (1 + (corr og sg pit (p + 1) - corr og sg pit p))) (B := 2 * st) (by omega) (by omega)
  rw [show 2 * (p + 1 + corr og sg pit (p + 1)) + st = 2 * (p + corr og sg pit p) + st + 2 * (1 + (corr og sg pit (p + 1) - corr og sg pit p)) by omega]
  omega
theorem okAx_sl {a : AxV} (h : okAx a) : okSl a.sg a.pit := ⟨h.2.2.2.2.2.2.2.2.1, h.2.2.2.2.2.2.2.2.2.2⟩
theorem unit_motor {a : AxV} {s : Int} {sgs : List (List Int)} {c : Nat} {d f m u : Int} {pk : List (List Int)} (ha : okAx a) (hm : pm m) (hl : okLen sgs) (hD : ∀ j, j < sgs.length → -(ec sgs j 3) ≤ ec sgs j c - bgn s sgs c j ∧ ec sgs j c - bgn s sgs c j ≤ ec sgs j 3)
    (h : unitOK s sgs c a.bl d f m pk u) : -1 ≤ mtr a.st a.og a.sg a.pit a.bl s sgs c pk f d u - mtr a.st a.og a.sg a.pit a.bl s sgs c pk f d (u - 1) ∧ mtr a.st a.og a.sg a.pit a.bl s sgs c pk f d u - mtr a.st a.og a.sg a.pit a.bl s sgs c pk f d (u - 1) ≤ 1 := by
  rw [mtr_shf, mtr_shf]
  have st4 := ha.1.1
  rcases h with ⟨e, h1, h2⟩ | ⟨e, r1, r2, n, hn, e1, e2, _⟩
  · rw [e]; omega
  · rw [e1, e2]
    have near : ∀ q : Int, 0 ≤ q ∧ q < plen sgs → -1 ≤ mot a.st a.og a.sg a.pit (ptAt s sgs c (q + 1)) - mot a.st a.og a.sg a.pit (ptAt s sgs c q) ∧ mot a.st a.og a.sg a.pit (ptAt s sgs c (q + 1)) - mot a.st a.og a.sg a.pit (ptAt s sgs c q) ≤ 1 := fun q hq => by
      have l := ptAt_lip (s := s) (c := c) hl hD hq
      have hd : ptAt s sgs c (q + 1) = ptAt s sgs c q ∨ ptAt s sgs c (q + 1) = ptAt s sgs c q + 1 ∨ ptAt s sgs c q = ptAt s sgs c (q + 1) + 1 := by omega
      rcases hd with e | e | e
      · rw [e]; omega
      · rw [e]; have := mot_step (og := a.og) (p := ptAt s sgs c q) (okAx_sl ha) st4; omega
      · rw [e]; have := mot_step (og := a.og) (p := ptAt s sgs c (q + 1)) (okAx_sl ha) st4; omega
    rcases hm with rfl | rfl
    · rw [e] at r1 ⊢
      have := near (tplace pk f (u - 1)) (by omega)
      omega
    · have e' : tplace pk f (u - 1) = tplace pk f u + 1 := by omega
      rw [e'] at r2 ⊢
      have := near (tplace pk f u) (by omega)
      omega
theorem okRun_leg {x : RunS} (h : okRun x) : ∃ a0 a1 a2, legOK x.s0 x.s1 x.s2 x.sg x.a.bl x.b.bl x.c.bl x.d0 x.d1 x.d2 x.f (legM x.f x.t) x.pk x.ln x.t a0 a1 a2 := by
  have hb := okRun_b3 h
  obtain ⟨hp, ha, hb', hc, hd, hf, ht, h1, h2⟩ := h
  rw [h1, h2]
  exact ⟨_, _, _, leg_all (okPath_len hp) hp.2.1 hb hd hf ht⟩
theorem M_steps {x : RunS} (h : okRun x) : (∀ u, 1 ≤ u ∧ u ≤ x.ln → -1 ≤ x.M0 u - x.M0 (u - 1) ∧ x.M0 u - x.M0 (u - 1) ≤ 1) ∧ (∀ u, 1 ≤ u ∧ u ≤ x.ln → -1 ≤ x.M1 u - x.M1 (u - 1) ∧ x.M1 u - x.M1 (u - 1) ≤ 1) ∧ (∀ u, 1 ≤ u ∧ u ≤ x.ln → -1 ≤ x.M2 u - x.M2 (u - 1) ∧ x.M2 u - x.M2 (u - 1) ≤ 1) := by
  obtain ⟨a0, a1, a2, L⟩ := okRun_leg h
  have hL := L.2.2.2.2.2.2.2
  have hl := okPath_len h.1
  have hm : pm (legM x.f x.t) := legM_pm _ _
  have D := fun j hj => okSegs_D h.1.2.1 (j := j) hj
  exact ⟨fun u hu => unit_motor h.2.1 hm hl (fun j hj => (D j hj).1) (hL u hu).1, fun u hu => unit_motor h.2.2.1 hm hl (fun j hj => (D j hj).2.1) (hL u hu).2.1, fun u hu => unit_motor h.2.2.2.1 hm hl (fun j hj => (D j hj).2.2) (hL u hu).2.2⟩
end Go.Proofs.YtneingpnkdeooaaGreat
namespace U
open Go
def RunS.N0 (x : RunS) (u : Int) : Int := nomi x.a.st x.a.og x.a.sg x.a.pit x.s0 x.sg 0 (tplace x.pk x.f u)
def RunS.N1 (x : RunS) (u : Int) : Int := nomi x.b.st x.b.og x.b.sg x.b.pit x.s1 x.sg 1 (tplace x.pk x.f u)
def RunS.N2 (x : RunS) (u : Int) : Int := nomi x.c.st x.c.og x.c.sg x.c.pit x.s2 x.sg 2 (tplace x.pk x.f u)
def RunS.at (x : RunS) (u : Int) : PS := ⟨x.M0 u, x.M1 u, x.M2 u, x.N0 u, x.N1 u, x.N2 u⟩
def okTr (x : RunS) : Prop := okRun x ∧ x.f = 0 ∧ x.t = plen x.sg ∧ x.d0 = 1 ∧ x.d1 = 1 ∧ x.d2 = 1
end U
namespace Go.Proofs.YtneingpnkdeooaaGreat
open Go Go.HL U
def SDirs0 (hargs : List HV) (pars : List (List HC)) : SR :=
  match hargs, pars with
  | [.ce (.int .i64 n)], [] => .det (n = 0) ⟨.agg [.int .i64 1, .int .i64 1, .int .i64 1], false, [], []⟩
  | _, _ => .fail
def STrack (hargs : List HV) (pars : List (List HC)) : SR :=
  match hargs, pars with
  | [.ce (.sl false [4] l), .ce (.sl false [4] ax), .ce (.int .i64 m), .ce (.int .i64 ds)], [] => .all ((0 ≤ m ∧ m ≤ 5) ∧ ds = 0 ∧ l.length ≤ 9223372036854775807 ∧ ax.length ≤ 9223372036854775807) RunS okTr (fun x => ⟨.agg [.int .i64 x.s0, .int .i64 x.s1, .int .i64 x.s2, .sl false [4, 4, 4, 4, 4, 4, 4] x.sg, .sl false [4, 4, 4] x.mks, .int .i64 x.a.st, .int .i64 x.a.sp, .int .i64 x.a.ac, .int .i64 x.a.je, .int .i64 (-16777216), .int .i64 16777216, .int .i64 x.a.bl, .int .i64 x.a.og, .int .i64 x.a.sg, .sl false [4] x.a.pit, .int .i64 x.b.st, .int .i64 x.b.sp, .int .i64 x.b.ac, .int .i64 x.b.je, .int .i64 (-16777216), .int .i64 16777216, .int .i64 x.b.bl, .int .i64 x.b.og, .int .i64 x.b.sg, .sl false [4] x.b.pit, .int .i64 x.c.st, .int .i64 x.c.sp, .int .i64 x.c.ac, .int .i64 x.c.je, .int .i64 (-16777216), .int .i64 16777216, .int .i64 x.c.bl, .int .i64 x.c.og, .int .i64 x.c.sg, .sl false [4] x.c.pit, .sl false [4, 4, 4, 4, 4, 4, 4, 4, 4, 4] x.pk, .int .i64 x.ln, .int .i64 x.f, .int .i64 x.d0, .int .i64 x.d1, .int .i64 x.d2], false, [], []⟩)
  | _, _ => .fail
def tabTrack : List (FuncId × HL.Spec) := [(36, SPath), (37, SAxes), (28, SPLen), (38, SDirs0), (34, SLeg)]
noncomputable def CTrack : Ctx := ⟨Tryz.prog, gam tabTrack, Tryz.f16.ntmps, [], []⟩
theorem vcTrack (l ax : List (List Int)) (m ds : Int) (Q : Res → Prop) : (nfun true CTrack Tryz.f16 (bodyOf Tryz.f16) [.ce (.sl false [4] l), .ce (.sl false [4] ax), .ce (.int .i64 m), .ce (.int .i64 ds)] [] Q) =
    ((0 ≤ m ∧ m ≤ 5 ∧ List.length l ≤ (9223372036854775807 : Nat)) ∧ (∃ (x : BSt), okPath x.s0 x.s1 x.s2 x.sg x.mks) ∧ ∀ (x : BSt), okPath x.s0 x.s1 x.s2 x.sg x.mks → List.length ax ≤ (9223372036854775807 : Nat) ∧ (∃ (x : AxV × AxV × AxV), okAx x.1 ∧ okAx x.snd.1 ∧ okAx x.snd.2) ∧ ∀ (x_1 : AxV × AxV × AxV), okAx x_1.1 ∧ okAx x_1.snd.1 ∧ okAx x_1.snd.2 → ds = 0 ∧ ∀ (x3 : Int), x3 = 1 → ∀ (x4 : Int), x4 = 1 → ∀ (x5 : Int), x5 = 1 → okLen x.sg ∧ ∀ (x6 : Int), x6 = plen x.sg → (okLen x.sg ∧ okPts x.s0 x.s1 x.s2 x.sg ∧ okB3 x_1.1.bl x_1.snd.1.bl x_1.snd.2.bl) ∧ (∃ (x_2 : LegS), x_2 = leg x.s0 x.s1 x.s2 x.sg x_1.1.bl x_1.snd.1.bl x_1.snd.2.bl x3 x4 x5 (clamp (plen x.sg) (0 : Int)) (clamp (plen x.sg) x6)) ∧ ∀ (x_2 : LegS), x_2 = leg x.s0 x.s1 x.s2 x.sg x_1.1.bl x_1.snd.1.bl x_1.snd.2.bl x3 x4 x5 (clamp (plen x.sg) (0 : Int)) (clamp (plen x.sg) x6) → Q ⟨.agg [.int .i64 x.s0, .int .i64 x.s1, .int .i64 x.s2, .sl false [4, 4, 4, 4, 4, 4, 4] x.sg, .sl false [4, 4, 4] x.mks, .int .i64 x_1.1.st, .int .i64 x_1.1.sp, .int .i64 x_1.1.ac, .int .i64 x_1.1.je, .int .i64 (-16777216), .int .i64 16777216, .int .i64 x_1.1.bl, .int .i64 x_1.1.og, .int .i64 x_1.1.sg, .sl false [4] x_1.1.pit, .int .i64 x_1.snd.1.st, .int .i64 x_1.snd.1.sp, .int .i64 x_1.snd.1.ac, .int .i64 x_1.snd.1.je, .int .i64 (-16777216), .int .i64 16777216, .int .i64 x_1.snd.1.bl, .int .i64 x_1.snd.1.og, .int .i64 x_1.snd.1.sg, .sl false [4] x_1.snd.1.pit, .int .i64 x_1.snd.2.st, .int .i64 x_1.snd.2.sp, .int .i64 x_1.snd.2.ac, .int .i64 x_1.snd.2.je, .int .i64 (-16777216), .int .i64 16777216, .int .i64 x_1.snd.2.bl, .int .i64 x_1.snd.2.og, .int .i64 x_1.snd.2.sg, .sl false [4] x_1.snd.2.pit, .sl false [4, 4, 4, 4, 4, 4, 4, 4, 4, 4] x_2.pk, .int .i64 x_2.ln, .int .i64 (clamp (plen x.sg) (0 : Int)), .int .i64 x3, .int .i64 x4, .int .i64 x5], false, [], []⟩) := by kernel_rfl
theorem vcDirs0 (n : Int) (Q : Res → Prop) : (nfun true CDirs Tryz.f38 (bodyOf Tryz.f38) [.ce (.int .i64 n)] [] Q) =
    (((0 : Int) < (8 : Int) ∧ (8 : Int) ≤ (4611686018427387904 : Int)) ∧ ∀ (x1 : Int), x1 = n % (8 : Int) → (2 : Int) ≠ (0 : Int) ∧ ∀ (x2 : Int), x2 = Int.tmod x1 (2 : Int) → (-9223372036854775808 ≤ x2 * 2 ∧ x2 * 2 ≤ 9223372036854775807) ∧ ∀ (x3 : Int), x3 = x2 * 2 → (-9223372036854775808 ≤ (1 : Int) - x3 ∧ (1 : Int) - x3 ≤ 9223372036854775807) ∧ ∀ (x4 : Int), x4 = 1 - x3 → (2 : Int) ≠ (0 : Int) ∧ (-9223372036854775808 ≤ Int.tdiv x1 (2 : Int) ∧ Int.tdiv x1 (2 : Int) ≤ 9223372036854775807) ∧ ∀ (x5 : Int), x5 = Int.tdiv x1 (2 : Int) → (2 : Int) ≠ (0 : Int) ∧ ∀ (x6 : Int), x6 = Int.tmod x5 (2 : Int) → (-9223372036854775808 ≤ x6 * 2 ∧ x6 * 2 ≤ 9223372036854775807) ∧ ∀ (x7 : Int), x7 = x6 * 2 → (-9223372036854775808 ≤ (1 : Int) - x7 ∧ (1 : Int) - x7 ≤ 9223372036854775807) ∧ ∀ (x8 : Int), x8 = 1 - x7 → (4 : Int) ≠ (0 : Int) ∧ (-9223372036854775808 ≤ Int.tdiv x1 (4 : Int) ∧ Int.tdiv x1 (4 : Int) ≤ 9223372036854775807) ∧
    ∀ (x9 : Int), x9 = Int.tdiv x1 (4 : Int) → (-9223372036854775808 ≤ x9 * 2 ∧ x9 * 2 ≤ 9223372036854775807) ∧ ∀ (x10 : Int), x10 = x9 * 2 → (-9223372036854775808 ≤ (1 : Int) - x10 ∧ (1 : Int) - x10 ≤ 9223372036854775807) ∧ ∀ (x11 : Int), x11 = 1 - x10 → Q ⟨.agg [.int .i64 x4, .int .i64 x8, .int .i64 x11], false, [], []⟩) := by kernel_rfl
def tabAw40 : List (FuncId × HL.Spec) := [(18, SPStep)]
noncomputable def CAw40 : Ctx := ⟨Tryz.prog, gam tabAw40, Tryz.f15.ntmps, [], []⟩
theorem vcAw40 (Q : Res → Prop) : (nfun true CAw40 Tryz.f15 (bodyOf Tryz.f15) [] [] Q) =
    (((okBl (3 : Int) ∧ okBl (3 : Int) ∧ okBl (3 : Int)) ∧ smallPS (1152921504606846976 : Int) { m0 := (0 : Int), m1 := (0 : Int), m2 := (0 : Int), t0 := (0 : Int), t1 := (0 : Int), t2 := (0 : Int) } ∧ (3 : Nat) ≤ (1152921504606846976 : Nat)) ∧ (∃ (x : PS), x = pall (3 : Int) (3 : Int) (3 : Int) { m0 := (0 : Int), m1 := (0 : Int), m2 := (0 : Int), t0 := (0 : Int), t1 := (0 : Int), t2 := (0 : Int) } [[(0 : Int), (0 : Int), (-1 : Int)], [(0 : Int), (0 : Int), (-1 : Int)], [(0 : Int), (0 : Int), (-1 : Int)]]) ∧ ∀ (x : PS), x = pall (3 : Int) (3 : Int) (3 : Int) { m0 := (0 : Int), m1 := (0 : Int), m2 := (0 : Int), t0 := (0 : Int), t1 := (0 : Int), t2 := (0 : Int) } [[(0 : Int), (0 : Int), (-1 : Int)], [(0 : Int), (0 : Int), (-1 : Int)], [(0 : Int), (0 : Int), (-1 : Int)]] → ((x.m0 == (-3 : Int) && (x.m1 == 0 && (x.m2 == 0 && true))) = true → Q ⟨.ce (.bool (x.t0 == 0 && (x.t1 == 0 && (x.t2 == 0 && true)))), false, [], []⟩) ∧
    ((x.m0 == (-3 : Int) && (x.m1 == 0 && (x.m2 == 0 && true))) = false → Q ⟨.ce (.bool false), false, [], []⟩)) := by kernel_rfl
def SFol (hargs : List HV) (pars : List (List HC)) : SR :=
  match hargs, pars with
  | [.ce (.sl false [4] l), .ce (.sl false [4] ax), .ce (.sl false [4] q)], [] => .det (l.length ≤ 9223372036854775807 ∧ ax.length ≤ 9223372036854775807) okR
  | _, _ => .fail
def LFol (v : LV) : LR :=
  match v with
  | ([.ce (.bool z), .ce (.ptr 1000007 0), .ce (.ptr 1000008 0), .ce (.int .i64 p), .ce (.sl false [4] q), .ce (.int .i64 n), .ce (.int .i64 i)], [rb, [.int .i64 m0, .int .i64 m1, .int .i64 m2, .int .i64 t0, .int .i64 t1, .int .i64 t2]]) =>
    .all (n = (q.length : Int) ∧ i = 0 ∧ p = 0 ∧ q.length ≤ 20 ∧ ∃ x, okTr x ∧ rb = runC x ∧ (⟨m0, m1, m2, t0, t1, t2⟩ : PS) = x.at 0) PS (fun _ => True) (fun _ => .exit 0)
        (fun x => ([.ce (.bool z)], [rb, [.int .i64 x.m0, .int .i64 x.m1, .int .i64 x.m2, .int .i64 x.t0, .int .i64 x.t1, .int .i64 x.t2]]))
  | _ => .fail
end Go.Proofs.YtneingpnkdeooaaGreat
namespace Go.Proofs.YtneingpnkdeooaaGreat
open Go Go.HL U
attribute [local irreducible] hfun bodyT fragT
set_option maxHeartbeats 400000 in
set_option maxRecDepth 100000 in
theorem sDirs0 : Sound Tryz.prog 38 SDirs0 := by
  refine sound_of (C := CDirs) tabDirs Tryz.func38 (by kernel_rfl) (by decide +kernel) (by kernel_rfl) rfl ⟨sMod, trivial⟩ (loops0 (by kernel_rfl)) ?_
  intro hargs pars R h
  unfold SDirs0 at h
  split at h
  case h_2 => exfalso; exact h
  rename_i n
  obtain ⟨rfl, hq⟩ := h
  refine byVC (vcDirs0 0 R) ⟨by decide, ?_⟩
  rintro _ rfl
  refine ⟨by decide, ?_⟩
  rintro _ rfl
  refine ⟨by decide, ?_⟩
  rintro _ rfl
  refine ⟨by decide, ?_⟩
  rintro _ rfl
  refine ⟨by decide, by decide, ?_⟩
  rintro _ rfl
  refine ⟨by decide, ?_⟩
  rintro _ rfl
  refine ⟨by decide, ?_⟩
  rintro _ rfl
  refine ⟨by decide, ?_⟩
  rintro _ rfl
  refine ⟨by decide, by decide, ?_⟩
  rintro _ rfl
  refine ⟨by decide, ?_⟩
  rintro _ rfl
  refine ⟨by decide, ?_⟩
  rintro _ rfl
  exact hq
set_option maxHeartbeats 400000 in
set_option maxRecDepth 100000 in
theorem sTrack : Sound Tryz.prog 16 STrack := by
  refine sound_of (C := CTrack) tabTrack Tryz.func16 (by kernel_rfl) (by decide +kernel) (by kernel_rfl) rfl ⟨sPath, sAxes, sPLen, sDirs0, sLeg, trivial⟩ (loops0 (by kernel_rfl)) ?_
  intro hargs pars R h
  unfold STrack at h
  split at h
  case h_2 => exfalso; exact h
  rename_i l ax m ds
  obtain ⟨⟨hm, hds, hl, ha⟩, _, hR⟩ := h
  refine byVC (vcTrack l ax m ds R) ⟨⟨hm.1, hm.2, hl⟩, okPath_ex, fun x hx => ⟨ha, ?_, fun y hy => ?_⟩⟩
  · obtain ⟨a, h⟩ := okAx_ex
    exact ⟨(a, a, a), h, h, h⟩
  · have hL := okPath_len hx
    have hp := plen_le hL
    refine ⟨hds, fun x3 e3 x4 e4 x5 e5 => ⟨hL, fun x6 e6 => ⟨⟨hL, okPath_pts hx, ?_⟩, ⟨_, rfl⟩, fun w hw => ?_⟩⟩⟩
    · have := hy.1.2.2.2.2.1
      have := hy.2.1.2.2.2.2.1
      have := hy.2.2.2.2.2.2.1
      unfold okB3; omega
    · have c1 : clamp (plen x.sg) 0 = 0 := clamp_in (by omega)
      have c2 : clamp (plen x.sg) x6 = plen x.sg := by rw [e6]; exact clamp_in (by omega)
      exact hR ⟨x.s0, x.s1, x.s2, x.sg, x.mks, y.1, y.2.1, y.2.2, x3, x4, x5, clamp (plen x.sg) 0, clamp (plen x.sg) x6, w.pk, w.ln⟩
        ⟨⟨hx, hy.1, hy.2.1, hy.2.2, ⟨.inl e3, .inl e4, .inl e5⟩, clamp_bd hp.1, clamp_bd hp.1, by rw [hw]; rfl, by rw [hw]; rfl⟩, c1, c2, e3, e4, e5⟩
set_option maxHeartbeats 400000 in
set_option maxRecDepth 100000 in
theorem sAw40 : Sound Tryz.prog 15 STrue0 := by
  refine sound_of (C := CAw40) tabAw40 Tryz.func15 (by kernel_rfl) (by decide +kernel) (by kernel_rfl) rfl ⟨sPStep, trivial⟩ (loops0 (by kernel_rfl)) ?_
  intro hargs pars R h
  unfold STrue0 at h
  split at h
  case h_2 => exfalso; exact h
  obtain ⟨_, _, hq⟩ := h
  have hp : pall 3 3 3 ⟨0, 0, 0, 0, 0, 0⟩ [[0, 0, -1], [0, 0, -1], [0, 0, -1]] = ⟨-3, 0, 0, 0, 0, 0⟩ := by kernel_rfl
  refine byVC (vcAw40 R) ⟨⟨by unfold okBl; decide, by unfold smallPS; decide, by decide⟩, ⟨_, rfl⟩, fun x e => ?_⟩
  rw [hp] at e
  subst e
  exact ⟨fun _ => hq _ rfl, fun e => by cases e⟩
theorem mot_near {st og sg p q : Int} {pit : List (List Int)} (h : okSl sg pit) (hst : 4 ≤ st) (hpq : 0 ≤ q - p ∧ q - p ≤ 1) : mot st og sg pit p ≤ mot st og sg pit q := by
  have hd : q = p ∨ q = p + 1 := by omega
  rcases hd with rfl | rfl
  · exact Int.le_refl _
  · have := mot_step (og := og) (p := p) h hst; omega
theorem unit_follow {a : AxV} {s : Int} {sgs : List (List Int)} {c : Nat} {d f m u : Int} {pk : List (List Int)} (ha : okAx a) (hm : pm m) (hl : okLen sgs) (hD : ∀ j, j < sgs.length → -(ec sgs j 3) ≤ ec sgs j c - bgn s sgs c j ∧ ec sgs j c - bgn s sgs c j ≤ ec sgs j 3)
    (h : unitOK s sgs c a.bl d f m pk u) :
    tbl a.bl (nomi a.st a.og a.sg a.pit s sgs c (tplace pk f (u - 1))) (mtr a.st a.og a.sg a.pit a.bl s sgs c pk f d u) = nomi a.st a.og a.sg a.pit s sgs c (tplace pk f u) ∧
    (mtr a.st a.og a.sg a.pit a.bl s sgs c pk f d u = mtr a.st a.og a.sg a.pit a.bl s sgs c pk f d (u - 1) → nomi a.st a.og a.sg a.pit s sgs c (tplace pk f u) = nomi a.st a.og a.sg a.pit s sgs c (tplace pk f (u - 1))) := by
  rw [mtr_shf, mtr_shf]
  unfold nomi tbl
  have st4 := ha.1.1
  have bl0 := ha.2.2.2.2.1
  rcases h with ⟨e, h1, h2⟩ | ⟨e, r1, r2, n, hn, e1, e2, hdir⟩
  · rw [e]; exact ⟨by omega, fun _ => rfl⟩
  · rw [e1, e2]
    have lip : -1 ≤ ptAt s sgs c (tplace pk f u) - ptAt s sgs c (tplace pk f (u - 1)) ∧ ptAt s sgs c (tplace pk f u) - ptAt s sgs c (tplace pk f (u - 1)) ≤ 1 := by
      rcases hm with rfl | rfl
      · rw [e] at r1 ⊢
        exact ptAt_lip hl hD (by omega)
      · have e' : tplace pk f (u - 1) = tplace pk f u + 1 := by omega
        rw [e'] at r2 ⊢
        have := ptAt_lip (s := s) hl hD (p := tplace pk f u) (by omega)
        omega
    refine ⟨?_, fun g => by omega⟩
    unfold bsh
    rcases hn with rfl | rfl
    · have := mot_near (og := a.og) (okAx_sl ha) st4 (p := ptAt s sgs c (tplace pk f (u - 1))) (q := ptAt s sgs c (tplace pk f u)) (by omega)
      rw [if_neg (by decide)]; omega
    · have := mot_near (og := a.og) (okAx_sl ha) st4 (q := ptAt s sgs c (tplace pk f (u - 1))) (p := ptAt s sgs c (tplace pk f u)) (by omega)
      rw [if_pos rfl]; omega
theorem pall_app (b0 b1 b2 : Int) (s : PS) (A B : List (List Int)) : pall b0 b1 b2 s (A ++ B) = pall b0 b1 b2 (pall b0 b1 b2 s A) B := by unfold pall; exact List.foldl_append
theorem pall_pl0 {b0 b1 b2 u n w t' : Int} {s : PS} (hw : s.m0 = w) (hd : -1 ≤ n - w ∧ n - w ≤ 1) (ht : tbl b0 s.t0 n = t') (he : n = w → t' = s.t0) : pall b0 b1 b2 s (pl1 u 0 n w) = { s with m0 := n, t0 := t' } := by
  unfold pl1
  by_cases e : n ≠ w
  · rw [if_pos e]
    show pstep b0 b1 b2 s [u, 0, n - w] = _
    unfold pstep
    have g2 : ([u, 0, n - w] : List Int).getD 2 0 = n - w := rfl
    have g1 : ([u, 0, n - w] : List Int).getD 1 0 = 0 := rfl
    rw [g2, g1, if_pos (by omega), if_pos rfl, hw, show w + (n - w) = n by omega, ht]
  · rw [if_neg e]
    have e : n = w := by omega
    show s = _
    rw [he e, e, ← hw]
theorem pall_pl1 {b0 b1 b2 u n w t' : Int} {s : PS} (hw : s.m1 = w) (hd : -1 ≤ n - w ∧ n - w ≤ 1) (ht : tbl b1 s.t1 n = t') (he : n = w → t' = s.t1) : pall b0 b1 b2 s (pl1 u 1 n w) = { s with m1 := n, t1 := t' } := by
  unfold pl1
  by_cases e : n ≠ w
  · rw [if_pos e]
    show pstep b0 b1 b2 s [u, 1, n - w] = _
    unfold pstep
    have g2 : ([u, 1, n - w] : List Int).getD 2 0 = n - w := rfl
    have g1 : ([u, 1, n - w] : List Int).getD 1 0 = 1 := rfl
    rw [g2, g1, if_pos (by omega), if_neg (by decide), if_pos rfl, hw, show w + (n - w) = n by omega, ht]
  · rw [if_neg e]
    have e : n = w := by omega
    show s = _
    rw [he e, e, ← hw]
theorem pall_pl2 {b0 b1 b2 u n w t' : Int} {s : PS} (hw : s.m2 = w) (hd : -1 ≤ n - w ∧ n - w ≤ 1) (ht : tbl b2 s.t2 n = t') (he : n = w → t' = s.t2) : pall b0 b1 b2 s (pl1 u 2 n w) = { s with m2 := n, t2 := t' } := by
  unfold pl1
  by_cases e : n ≠ w
  · rw [if_pos e]
    show pstep b0 b1 b2 s [u, 2, n - w] = _
    unfold pstep
    have g2 : ([u, 2, n - w] : List Int).getD 2 0 = n - w := rfl
    have g1 : ([u, 2, n - w] : List Int).getD 1 0 = 2 := rfl
    rw [g2, g1, if_pos (by omega), if_neg (by decide), if_neg (by decide), if_pos rfl, hw, show w + (n - w) = n by omega, ht]
  · rw [if_neg e]
    have e : n = w := by omega
    show s = _
    rw [he e, e, ← hw]
theorem pall_unit {x : RunS} (h : okRun x) {u : Int} (hu : 1 ≤ u ∧ u ≤ x.ln) : pall x.a.bl x.b.bl x.c.bl (x.at (u - 1)) (plAt x.M0 x.M1 x.M2 u) = x.at u := by
  obtain ⟨a0, a1, a2, L⟩ := okRun_leg h
  obtain ⟨U0, U1, U2⟩ := L.2.2.2.2.2.2.2 u hu
  have hl := okPath_len h.1
  have hm : pm (legM x.f x.t) := legM_pm _ _
  have D := fun j hj => okSegs_D h.1.2.1 (j := j) hj
  have s := M_steps h
  have f0 := unit_follow h.2.1 hm hl (fun j hj => (D j hj).1) U0
  have f1 := unit_follow h.2.2.1 hm hl (fun j hj => (D j hj).2.1) U1
  have f2 := unit_follow h.2.2.2.1 hm hl (fun j hj => (D j hj).2.2) U2
  unfold plAt
  have e0 := pall_pl0 (b0 := x.a.bl) (b1 := x.b.bl) (b2 := x.c.bl) (u := u) (n := x.M0 u) (w := x.M0 (u - 1)) (t' := x.N0 u) (s := x.at (u - 1)) rfl (s.1 u hu) f0.1 f0.2
  have e1 := pall_pl1 (b0 := x.a.bl) (b1 := x.b.bl) (b2 := x.c.bl) (u := u) (n := x.M1 u) (w := x.M1 (u - 1)) (t' := x.N1 u) (s := { x.at (u - 1) with m0 := x.M0 u, t0 := x.N0 u }) rfl (s.2.1 u hu) f1.1 f1.2
  have e2 := pall_pl2 (b0 := x.a.bl) (b1 := x.b.bl) (b2 := x.c.bl) (u := u) (n := x.M2 u) (w := x.M2 (u - 1)) (t' := x.N2 u) (s := { x.at (u - 1) with m0 := x.M0 u, t0 := x.N0 u, m1 := x.M1 u, t1 := x.N1 u }) rfl (s.2.2 u hu) f2.1 f2.2
  rw [pall_app, pall_app, e0, e1, e2]
  rfl
theorem pall_plN {x : RunS} (h : okRun x) {a : Int} (ha : 0 ≤ a) : ∀ n : Nat, a + n ≤ x.ln → pall x.a.bl x.b.bl x.c.bl (x.at a) (plN x.M0 x.M1 x.M2 a n) = x.at (a + n)
  | 0, _ => by
    show x.at a = x.at (a + ((0 : Nat) : Int))
    rw [show a + ((0 : Nat) : Int) = a by omega]
  | n + 1, hn => by
    unfold plN
    rw [pall_app, pall_plN h ha n (by omega)]
    have := pall_unit h (u := a + (n : Int) + 1) (by omega)
    rw [show a + (n : Int) + 1 - 1 = a + n by omega] at this
    rw [this, show a + ((n + 1 : Nat) : Int) = a + (n : Int) + 1 by omega]
theorem ptAt_zero {s : Int} {sg : List (List Int)} {c : Nat} (h : okLen sg) : ptAt s sg c 0 = s := by
  by_cases h0 : sg.length = 0
  · have e : pfind sg 0 = (-1, 0) := by unfold pfind; rw [if_pos h0]
    unfold ptAt
    rw [e, if_pos (by decide)]
  · have L := (h.2 0 (by omega)).1
    have := ptAt_seg (s := s) (c := c) (d := 0) h (show 0 < sg.length by omega) (by omega)
    have z : plen (sg.take 0) + 0 = 0 := rfl
    rw [z, Int.mul_zero, rnd_zero (by omega)] at this
    rw [this]
    have : bgn s sg c ((0 : Nat) : Int) = s := by unfold bgn; rw [if_pos (by omega)]
    rw [this]; omega
theorem okTr_start {x : RunS} (h : okTr x) : x.at 0 = ⟨mot x.a.st x.a.og x.a.sg x.a.pit x.s0, mot x.b.st x.b.og x.b.sg x.b.pit x.s1, mot x.c.st x.c.og x.c.sg x.c.pit x.s2, mot x.a.st x.a.og x.a.sg x.a.pit x.s0, mot x.b.st x.b.og x.b.sg x.b.pit x.s1, mot x.c.st x.c.og x.c.sg x.c.pit x.s2⟩ := by
  obtain ⟨hr, hf, ht, h0, h1, h2⟩ := h
  obtain ⟨a0, a1, a2, L⟩ := okRun_leg hr
  have hl := okPath_len hr.1
  have hp := L.2.2.2.1
  rw [hf] at hp L
  obtain ⟨b0, b1, b2⟩ := L.2.2.2.2.2.2.1
  rw [h0] at b0
  rw [h1] at b1
  rw [h2] at b2
  have z : ∀ b : Int, bsh b 1 = 0 := fun b => by unfold bsh; rw [if_neg (by decide)]
  rw [z] at b0 b1 b2
  unfold RunS.at RunS.M0 RunS.M1 RunS.M2 RunS.N0 RunS.N1 RunS.N2
  rw [mtr_shf, mtr_shf, mtr_shf, hf, h0, h1, h2, b0, b1, b2, hp, ptAt_zero hl, ptAt_zero hl, ptAt_zero hl]
  unfold nomi
  rw [ptAt_zero hl, ptAt_zero hl, ptAt_zero hl]
  simp
theorem N_bd {x : RunS} (h : okRun x) (u : Int) : (-2199023255552 ≤ x.N0 u ∧ x.N0 u ≤ 2199023255554) ∧ (-2199023255552 ≤ x.N1 u ∧ x.N1 u ≤ 2199023255554) ∧ (-2199023255552 ≤ x.N2 u ∧ x.N2 u ≤ 2199023255554) := by
  have p := okRun_pre h
  have b := ptAt_b3 h.1 (tplace x.pk x.f u)
  exact ⟨motr_bd p.2.2.2.1.1.1 p.2.2.2.1.2.1 (by omega), motr_bd p.2.2.2.2.1.1.1 p.2.2.2.2.1.2.1 (by omega), motr_bd p.2.2.2.2.2.1.1.1 p.2.2.2.2.2.1.2.1 (by omega)⟩
theorem at_small {x : RunS} (h : okRun x) {u : Int} (hu : 0 ≤ u ∧ u ≤ x.ln) : smallPS 1152921504606846976 (x.at u) := by
  have a := M0_bd h u hu
  have b := M1_bd h u hu
  have c := M2_bd h u hu
  have n := N_bd h u
  unfold smallPS RunS.at
  dsimp only
  omega
theorem okTr_ex : ∃ x, okTr x := by
  obtain ⟨a, ha⟩ := okAx_ex
  have hp : okPath 0 0 0 [] [] := ⟨by unfold b3; decide, okSegs_nil _ _ _, by decide, by decide⟩
  have h0 : (0 : Int) ≤ 0 ∧ 0 ≤ plen [] := by decide
  exact ⟨⟨0, 0, 0, [], [], a, a, a, 1, 1, 1, 0, 0, _, _⟩, ⟨hp, ha, ha, ha, ⟨.inl rfl, .inl rfl, .inl rfl⟩, h0, h0, rfl, rfl⟩, rfl, rfl, rfl, rfl, rfl⟩
end Go.Proofs.YtneingpnkdeooaaGreat
namespace U
open Go
theorem inv_ex0 (f : Int → Int) (goal a : Int) : ∀ n : Nat, f a < goal → goal ≤ f (a + n) → ∃ p, a < p ∧ p ≤ a + n ∧ goal ≤ f p ∧ f (p - 1) < goal
  | 0, h1, h2 => by simp at h2; omega
  | n + 1, h1, h2 => by
    by_cases h : goal ≤ f (a + n)
    · obtain ⟨p, q1, q2, q3, q4⟩ := inv_ex0 f goal a n h1 h
      exact ⟨p, q1, by omega, q3, q4⟩
    · refine ⟨a + (n + 1 : Nat), by omega, by omega, h2, ?_⟩
      rw [show a + ((n + 1 : Nat) : Int) - 1 = a + n by omega]; omega
theorem inv_ex {st og sg m : Int} {pit : List (List Int)} (h : okC og sg pit) : ∃ p, isInv st og sg pit m p := by
  have a := corr_bd h (m * st - 4097)
  have b := corr_bd h (m * st - 4097 + (8193 : Nat))
  obtain ⟨p, q1, q2, q3, q4⟩ := inv_ex0 (fun p => p + corr og sg pit p) (m * st) (m * st - 4097) 8193 (by omega) (by omega)
  exact ⟨p, q3, q4, by omega, by omega⟩
end U
namespace Go.Proofs.YtneingpnkdeooaaGreat
open Go Go.HL U
def an18 : LAnn := ⟨[2, 5, 6, 7], [7], [1000002], false⟩
def L18 (v : LV) : LR :=
  match v with
  | ([.ce (.ptr 1000002 0), .ce (.int .i64 goal), .ce (.int .i64 low), .ce (.int .i64 high)], [[.int .i64 st, .int .i64 x1, .int .i64 x2, .int .i64 x3, .int .i64 x4, .int .i64 x5, .int .i64 x6, .int .i64 og, .int .i64 sg, .sl false [4] pit]]) =>
    .all (okC og sg pit ∧ (-536870912 ≤ goal ∧ goal ≤ 536870912) ∧ low = goal - 4097 ∧ high = goal + 4096) Int (fun p => goal ≤ p + corr og sg pit p ∧ p - 1 + corr og sg pit (p - 1) < goal ∧ goal - 4097 < p ∧ p ≤ goal + 4096) (fun _ => .exit 0)
      (fun p => ([.ce (.int .i64 p)], [[.int .i64 st, .int .i64 x1, .int .i64 x2, .int .i64 x3, .int .i64 x4, .int .i64 x5, .int .i64 x6, .int .i64 og, .int .i64 sg, .sl false [4] pit]]))
  | _ => .fail
def SInverse (hargs : List HV) (pars : List (List HC)) : SR :=
  match hargs, pars with
  | [.agg [.int .i64 st, .int .i64 _, .int .i64 _, .int .i64 _, .int .i64 _, .int .i64 _, .int .i64 _, .int .i64 og, .int .i64 sg, .sl false [4] pit], .ce (.int .i64 m)], [] => .all (okC og sg pit ∧ -268435456 ≤ m * st ∧ m * st ≤ 268435456) Int (isInv st og sg pit m) (fun p => ⟨.ce (.int .i64 p), false, [], []⟩)
  | _, _ => .fail
def tabInv : List (FuncId × HL.Spec) := [(71, SCorrect)]
noncomputable def CInv : Ctx := ⟨Tryz.prog, gam tabInv, Tryz.f48.ntmps, [(3, an18, L18)], []⟩
theorem vcInv (st sp ac je lo hi bl og sg m : Int) (pit : List (List Int)) (Q : Res → Prop) : (nfun true CInv Tryz.f48 (bodyOf Tryz.f48) [.agg (axI st sp ac je lo hi bl og sg pit), .ce (.int .i64 m)] [] Q) =
    ((-9223372036854775808 ≤ m * st ∧ m * st ≤ 9223372036854775807) ∧ ∀ (x1 : Int), x1 = m * st → (-9223372036854775808 ≤ x1 - 4096 ∧ x1 - 4096 ≤ 9223372036854775807) ∧ ∀ (x2 : Int), x2 = x1 - 4096 → (-9223372036854775808 ≤ x2 - 1 ∧ x2 - 1 ≤ 9223372036854775807) ∧ ∀ (x3 : Int), x3 = x2 - 1 → (-9223372036854775808 ≤ x1 + 4096 ∧ x1 + 4096 ≤ 9223372036854775807) ∧ ∀ (x4 : Int), x4 = x1 + 4096 → (okC og sg pit ∧ ((-536870912 : Int) ≤ x1 ∧ x1 ≤ 536870912) ∧ x3 = x1 - 4097 ∧ x4 = x1 + 4096) ∧ ∀ (x : Int), x1 ≤ x + corr og sg pit x ∧ x - 1 + corr og sg pit (x - 1) < x1 ∧ x1 - 4097 < x ∧ x ≤ x1 + 4096 → Q ⟨.ce (.int .i64 x), false, [], []⟩) := by kernel_rfl
theorem vbInv (goal low high st sp ac je lo hi bl og sg : Int) (pit : List (List Int)) (K : HEx → LV → Prop) : (nbodyT true CInv an18 (nthLoop Tryz.f48 0) (([.ce (.ptr 1000002 0), .ce (.int .i64 goal), .ce (.int .i64 low), .ce (.int .i64 high)], [(axI st sp ac je lo hi bl og sg pit)])) K) =
    ((-9223372036854775808 ≤ high - low ∧ high - low ≤ 9223372036854775807) ∧ ∀ (x1 : Int), x1 = high - low → (decide (x1 > 1) = true → (-9223372036854775808 ≤ high - low ∧ high - low ≤ 9223372036854775807) ∧ ∀ (x2 : Int), x2 = high - low → (2 : Int) ≠ (0 : Int) ∧ (-9223372036854775808 ≤ Int.tdiv x2 (2 : Int) ∧ Int.tdiv x2 (2 : Int) ≤ 9223372036854775807) ∧ ∀ (x3 : Int), x3 = Int.tdiv x2 (2 : Int) → (-9223372036854775808 ≤ low + x3 ∧ low + x3 ≤ 9223372036854775807) ∧ ∀ (x4 : Int), x4 = low + x3 → (okC og sg pit ∧ (-1073741824 : Int) ≤ x4 ∧ x4 ≤ 1073741824) ∧ ∀ (x5 : Int), x5 = corr og sg pit x4 → (-9223372036854775808 ≤ x4 + x5 ∧ x4 + x5 ≤ 9223372036854775807) ∧ ∀ (x6 : Int), x6 = x4 + x5 → (decide (x6 ≥ goal) = true → K .normal ([.ce (.ptr 1000002 0), .ce (.int .i64 goal), .ce (.int .i64 low), .ce (.int .i64 x4)], [[.int .i64 st, .int .i64 sp, .int .i64 ac, .int .i64 je, .int .i64 lo, .int .i64 hi, .int .i64 bl, .int .i64 og, .int .i64 sg, .sl false [4] pit]])) ∧
    (decide (x6 ≥ goal) = false → K .normal ([.ce (.ptr 1000002 0), .ce (.int .i64 goal), .ce (.int .i64 x4), .ce (.int .i64 high)], [[.int .i64 st, .int .i64 sp, .int .i64 ac, .int .i64 je, .int .i64 lo, .int .i64 hi, .int .i64 bl, .int .i64 og, .int .i64 sg, .sl false [4] pit]]))) ∧ (decide (x1 > 1) = false → K (.exit 0) ([.ce (.int .i64 high)], [[.int .i64 st, .int .i64 sp, .int .i64 ac, .int .i64 je, .int .i64 lo, .int .i64 hi, .int .i64 bl, .int .i64 og, .int .i64 sg, .sl false [4] pit]]))) := by kernel_rfl
def SPos (hargs : List HV) (pars : List (List HC)) : SR :=
  match hargs, pars with
  | [.agg [.int .i64 sta, .int .i64 spa, .int .i64 aca, .int .i64 jea, .int .i64 loa, .int .i64 hia, .int .i64 bla, .int .i64 oga, .int .i64 sga, .sl false [4] pta, .int .i64 stb, .int .i64 spb, .int .i64 acb, .int .i64 jeb, .int .i64 lob, .int .i64 hib, .int .i64 blb, .int .i64 ogb, .int .i64 sgb, .sl false [4] ptb, .int .i64 stc, .int .i64 spc, .int .i64 acc, .int .i64 jec, .int .i64 loc, .int .i64 hic, .int .i64 blc, .int .i64 ogc, .int .i64 sgc, .sl false [4] ptc], .agg [.int .i64 m0, .int .i64 m1, .int .i64 m2, .int .i64 t0, .int .i64 t1, .int .i64 t2]], [] =>
    .all ((okC oga sga pta ∧ -268435456 ≤ t0 * sta ∧ t0 * sta ≤ 268435456) ∧ (okC ogb sgb ptb ∧ -268435456 ≤ t1 * stb ∧ t1 * stb ≤ 268435456) ∧ (okC ogc sgc ptc ∧ -268435456 ≤ t2 * stc ∧ t2 * stc ≤ 268435456)) (Int × Int × Int)
      (fun p => isInv sta oga sga pta t0 p.1 ∧ isInv stb ogb sgb ptb t1 p.2.1 ∧ isInv stc ogc sgc ptc t2 p.2.2) (fun p => ⟨.agg [.int .i64 p.1, .int .i64 p.2.1, .int .i64 p.2.2], false, [], []⟩)
  | _, _ => .fail
def tabPos : List (FuncId × HL.Spec) := [(48, SInverse)]
noncomputable def CPos : Ctx := ⟨Tryz.prog, gam tabPos, Tryz.f22.ntmps, [(4000003, unrT [1000002, 1000003, 1000004, 1000005], fun _ => .fail)], []⟩
theorem vcPos (sta spa aca jea loa hia bla oga sga stb spb acb jeb lob hib blb ogb sgb stc spc acc jec loc hic blc ogc sgc : Int) (pta ptb ptc : List (List Int)) (m0 m1 m2 t0 t1 t2 : Int) (Q : Res → Prop) : (nfun true CPos Tryz.f22 (bodyOf Tryz.f22) [.agg [.int .i64 sta, .int .i64 spa, .int .i64 aca, .int .i64 jea, .int .i64 loa, .int .i64 hia, .int .i64 bla, .int .i64 oga, .int .i64 sga, .sl false [4] pta, .int .i64 stb, .int .i64 spb, .int .i64 acb, .int .i64 jeb, .int .i64 lob, .int .i64 hib, .int .i64 blb, .int .i64 ogb, .int .i64 sgb, .sl false [4] ptb, .int .i64 stc, .int .i64 spc, .int .i64 acc, .int .i64 jec, .int .i64 loc, .int .i64 hic, .int .i64 blc, .int .i64 ogc, .int .i64 sgc, .sl false [4] ptc], .agg [.int .i64 m0, .int .i64 m1, .int .i64 m2, .int .i64 t0, .int .i64 t1, .int .i64 t2]] [] Q) =
    ((okC oga sga pta ∧ (-268435456 : Int) ≤ t0 * sta ∧ t0 * sta ≤ 268435456) ∧ (∃ (x : Int), isInv sta oga sga pta t0 x) ∧ ∀ (x : Int), isInv sta oga sga pta t0 x → (okC ogb sgb ptb ∧ (-268435456 : Int) ≤ t1 * stb ∧ t1 * stb ≤ 268435456) ∧ (∃ (x : Int), isInv stb ogb sgb ptb t1 x) ∧ ∀ (x_1 : Int), isInv stb ogb sgb ptb t1 x_1 → (okC ogc sgc ptc ∧ (-268435456 : Int) ≤ t2 * stc ∧ t2 * stc ≤ 268435456) ∧ (∃ (x : Int), isInv stc ogc sgc ptc t2 x) ∧ ∀ (x_2 : Int), isInv stc ogc sgc ptc t2 x_2 → Q ⟨.agg [.int .i64 x, .int .i64 x_1, .int .i64 x_2], false, [], []⟩) := by kernel_rfl
def tabNea : List (FuncId × HL.Spec) := [(15, STrue0), (16, STrack), (17, SPStart), (11, SMod), (13, SBetween), (18, SPStep), (22, SPos), (21, SPlace), (23, SAt)]
def anNea : LAnn := ⟨[6, 7, 8, 9, 35, 36, 37], [6], [1000007, 1000008], false⟩
noncomputable def CNea : Ctx := ⟨Tryz.prog, gam tabNea, Tryz.f5.ntmps, [(9, anNea, LFol), (4000016, unrT [1000007, 1000008, 1000013, 1000014], fun _ => .fail)], []⟩
theorem vbNea (p n i m0 m1 m2 t0 t1 t2 : Int) (z : Bool) (q : List (List Int)) (x : RunS) (K : HEx → LV → Prop) : (nbodyT true CNea anNea (nthLoop Tryz.f5 0) (([.ce (.bool z), .ce (.ptr 1000007 0), .ce (.ptr 1000008 0), .ce (.int .i64 p), .ce (.sl false [4] q), .ce (.int .i64 n), .ce (.int .i64 i)], [[.int .i64 x.s0, .int .i64 x.s1, .int .i64 x.s2, .sl false [4, 4, 4, 4, 4, 4, 4] x.sg, .sl false [4, 4, 4] x.mks, .int .i64 x.a.st, .int .i64 x.a.sp, .int .i64 x.a.ac, .int .i64 x.a.je, .int .i64 (-16777216), .int .i64 16777216, .int .i64 x.a.bl, .int .i64 x.a.og, .int .i64 x.a.sg, .sl false [4] x.a.pit, .int .i64 x.b.st, .int .i64 x.b.sp, .int .i64 x.b.ac, .int .i64 x.b.je, .int .i64 (-16777216), .int .i64 16777216, .int .i64 x.b.bl, .int .i64 x.b.og, .int .i64 x.b.sg, .sl false [4] x.b.pit, .int .i64 x.c.st, .int .i64 x.c.sp, .int .i64 x.c.ac, .int .i64 x.c.je, .int .i64 (-16777216), .int .i64 16777216, .int .i64 x.c.bl, .int .i64 x.c.og, .int .i64 x.c.sg, .sl false [4] x.c.pit, .sl false [4, 4, 4, 4, 4, 4, 4, 4, 4, 4] x.pk, .int .i64 x.ln, .int .i64 x.f, .int .i64 x.d0, .int .i64 x.d1, .int .i64 x.d2], [.int .i64 m0, .int .i64 m1, .int .i64 m2, .int .i64 t0, .int .i64 t1, .int .i64 t2]])) K) =
    ((decide (i < n) = true → (0 ≤ i ∧ i < (List.length q : Int)) ∧ ∀ (x1 : Int), x1 = el q i.toNat → (-9223372036854775808 ≤ x.ln - p ∧ x.ln - p ≤ 9223372036854775807) ∧ ∀ (x2 : Int), x2 = x.ln - p → (-9223372036854775808 ≤ x2 + 1 ∧ x2 + 1 ≤ 9223372036854775807) ∧ ∀ (x3 : Int), x3 = x2 + 1 → (0 < x3 ∧ x3 ≤ 4611686018427387904) ∧ ∀ (x4 : Int), x4 = x1 % x3 → (-9223372036854775808 ≤ p + x4 ∧ p + x4 ≤ 9223372036854775807) ∧ ∀ (x5 : Int), x5 = p + x4 → ((okLen x.sg ∧ okPts x.s0 x.s1 x.s2 x.sg ∧ okTrk x.pk x.ln ∧ okMA x.a.st x.a.og x.a.sg x.a.pit x.a.bl ∧ okMA x.b.st x.b.og x.b.sg x.b.pit x.b.bl ∧ okMA x.c.st x.c.og x.c.sg x.c.pit x.c.bl ∧ 0 ≤ x.f ∧ x.f ≤ 18014398509481984) ∧ x.ln ≤ 1099511627776) ∧ (∃ (x_1 : List (List Int)), x_1 = plN (mtr x.a.st x.a.og x.a.sg x.a.pit x.a.bl x.s0 x.sg (0 : Nat) x.pk x.f x.d0) (mtr x.b.st x.b.og x.b.sg x.b.pit x.b.bl x.s1 x.sg (1 : Nat) x.pk x.f x.d1) (mtr x.c.st x.c.og x.c.sg x.c.pit x.c.bl x.s2 x.sg (2 : Nat) x.pk x.f x.d2) (clamp x.ln p) (Int.toNat (clamp x.ln x5 - clamp x.ln p))) ∧
    ∀ (x_1 : List (List Int)), x_1 = plN (mtr x.a.st x.a.og x.a.sg x.a.pit x.a.bl x.s0 x.sg (0 : Nat) x.pk x.f x.d0) (mtr x.b.st x.b.og x.b.sg x.b.pit x.b.bl x.s1 x.sg (1 : Nat) x.pk x.f x.d1) (mtr x.c.st x.c.og x.c.sg x.c.pit x.c.bl x.s2 x.sg (2 : Nat) x.pk x.f x.d2) (clamp x.ln p) (Int.toNat (clamp x.ln x5 - clamp x.ln p)) → ((okBl x.a.bl ∧ okBl x.b.bl ∧ okBl x.c.bl) ∧ smallPS (1152921504606846976 : Int) { m0 := m0, m1 := m1, m2 := m2, t0 := t0, t1 := t1, t2 := t2 } ∧ List.length x_1 ≤ (1152921504606846976 : Nat)) ∧ (∃ (x_2 : PS), x_2 = pall x.a.bl x.b.bl x.c.bl { m0 := m0, m1 := m1, m2 := m2, t0 := t0, t1 := t1, t2 := t2 } x_1) ∧ ∀ (x_2 : PS), x_2 = pall x.a.bl x.b.bl x.c.bl { m0 := m0, m1 := m1, m2 := m2, t0 := t0, t1 := t1, t2 := t2 } x_1 → ((okC x.a.og x.a.sg x.a.pit ∧ (-268435456 : Int) ≤ x_2.t0 * x.a.st ∧ x_2.t0 * x.a.st ≤ 268435456) ∧ (okC x.b.og x.b.sg x.b.pit ∧ (-268435456 : Int) ≤ x_2.t1 * x.b.st ∧
    x_2.t1 * x.b.st ≤ 268435456) ∧ okC x.c.og x.c.sg x.c.pit ∧ (-268435456 : Int) ≤ x_2.t2 * x.c.st ∧ x_2.t2 * x.c.st ≤ 268435456) ∧ (∃ (x_3 : Int × Int × Int), isInv x.a.st x.a.og x.a.sg x.a.pit x_2.t0 x_3.1 ∧ isInv x.b.st x.b.og x.b.sg x.b.pit x_2.t1 x_3.snd.1 ∧ isInv x.c.st x.c.og x.c.sg x.c.pit x_2.t2 x_3.snd.2) ∧ ∀ (x_3 : Int × Int × Int), isInv x.a.st x.a.og x.a.sg x.a.pit x_2.t0 x_3.1 ∧ isInv x.b.st x.b.og x.b.sg x.b.pit x_2.t1 x_3.snd.1 ∧ isInv x.c.st x.c.og x.c.sg x.c.pit x_2.t2 x_3.snd.2 → okTrk x.pk x.ln ∧ ∀ (x9 : Int), x9 = tplace x.pk x.f (clamp x.ln x5) → (okLen x.sg ∧ okPts x.s0 x.s1 x.s2 x.sg ∧ x9 ≤ 4611686018427387904) ∧ ∀ (x10 : Int), x10 = ptAt x.s0 x.sg (0 : Nat) x9 → ∀ (x11 : Int), x11 = ptAt x.s1 x.sg (1 : Nat) x9 → ∀ (x12 : Int), x12 = ptAt x.s2 x.sg (2 : Nat) x9 → (-9223372036854775808 ≤ x_3.1 - x10 ∧ x_3.1 - x10 ≤ 9223372036854775807) ∧ ∀ (x13 : Int), x13 = x_3.1 - x10 →
    (decide (x13 > x.a.st) = true → K .ret ([.ce (.bool false)], [[.int .i64 x.s0, .int .i64 x.s1, .int .i64 x.s2, .sl false [4, 4, 4, 4, 4, 4, 4] x.sg, .sl false [4, 4, 4] x.mks, .int .i64 x.a.st, .int .i64 x.a.sp, .int .i64 x.a.ac, .int .i64 x.a.je, .int .i64 (-16777216), .int .i64 16777216, .int .i64 x.a.bl, .int .i64 x.a.og, .int .i64 x.a.sg, .sl false [4] x.a.pit, .int .i64 x.b.st, .int .i64 x.b.sp, .int .i64 x.b.ac, .int .i64 x.b.je, .int .i64 (-16777216), .int .i64 16777216, .int .i64 x.b.bl, .int .i64 x.b.og, .int .i64 x.b.sg, .sl false [4] x.b.pit, .int .i64 x.c.st, .int .i64 x.c.sp, .int .i64 x.c.ac, .int .i64 x.c.je, .int .i64 (-16777216), .int .i64 16777216, .int .i64 x.c.bl, .int .i64 x.c.og, .int .i64 x.c.sg, .sl false [4] x.c.pit, .sl false [4, 4, 4, 4, 4, 4, 4, 4, 4, 4] x.pk, .int .i64 x.ln, .int .i64 x.f, .int .i64 x.d0, .int .i64 x.d1, .int .i64 x.d2], [.int .i64 x_2.m0, .int .i64 x_2.m1, .int .i64 x_2.m2, .int .i64 x_2.t0, .int .i64 x_2.t1, .int .i64 x_2.t2]])) ∧
    (decide (x13 > x.a.st) = false → (-9223372036854775808 ≤ (0 : Int) - x13 ∧ (0 : Int) - x13 ≤ 9223372036854775807) ∧ ∀ (x14 : Int), x14 = 0 - x13 → (decide (x14 > x.a.st) = true → K .ret ([.ce (.bool false)], [[.int .i64 x.s0, .int .i64 x.s1, .int .i64 x.s2, .sl false [4, 4, 4, 4, 4, 4, 4] x.sg, .sl false [4, 4, 4] x.mks, .int .i64 x.a.st, .int .i64 x.a.sp, .int .i64 x.a.ac, .int .i64 x.a.je, .int .i64 (-16777216), .int .i64 16777216, .int .i64 x.a.bl, .int .i64 x.a.og, .int .i64 x.a.sg, .sl false [4] x.a.pit, .int .i64 x.b.st, .int .i64 x.b.sp, .int .i64 x.b.ac, .int .i64 x.b.je, .int .i64 (-16777216), .int .i64 16777216, .int .i64 x.b.bl, .int .i64 x.b.og, .int .i64 x.b.sg, .sl false [4] x.b.pit, .int .i64 x.c.st, .int .i64 x.c.sp, .int .i64 x.c.ac, .int .i64 x.c.je, .int .i64 (-16777216), .int .i64 16777216, .int .i64 x.c.bl, .int .i64 x.c.og, .int .i64 x.c.sg, .sl false [4] x.c.pit, .sl false [4, 4, 4, 4, 4, 4, 4, 4, 4, 4] x.pk, .int .i64 x.ln, .int .i64 x.f, .int .i64 x.d0, .int .i64 x.d1, .int .i64 x.d2], [.int .i64 x_2.m0, .int .i64 x_2.m1, .int .i64 x_2.m2, .int .i64 x_2.t0, .int .i64 x_2.t1, .int .i64 x_2.t2]])) ∧
    (decide (x14 > x.a.st) = false → (-9223372036854775808 ≤ x_3.snd.1 - x11 ∧ x_3.snd.1 - x11 ≤ 9223372036854775807) ∧ ∀ (x15 : Int), x15 = x_3.snd.1 - x11 → (decide (x15 > x.b.st) = true → K .ret ([.ce (.bool false)], [[.int .i64 x.s0, .int .i64 x.s1, .int .i64 x.s2, .sl false [4, 4, 4, 4, 4, 4, 4] x.sg, .sl false [4, 4, 4] x.mks, .int .i64 x.a.st, .int .i64 x.a.sp, .int .i64 x.a.ac, .int .i64 x.a.je, .int .i64 (-16777216), .int .i64 16777216, .int .i64 x.a.bl, .int .i64 x.a.og, .int .i64 x.a.sg, .sl false [4] x.a.pit, .int .i64 x.b.st, .int .i64 x.b.sp, .int .i64 x.b.ac, .int .i64 x.b.je, .int .i64 (-16777216), .int .i64 16777216, .int .i64 x.b.bl, .int .i64 x.b.og, .int .i64 x.b.sg, .sl false [4] x.b.pit, .int .i64 x.c.st, .int .i64 x.c.sp, .int .i64 x.c.ac, .int .i64 x.c.je, .int .i64 (-16777216), .int .i64 16777216, .int .i64 x.c.bl, .int .i64 x.c.og, .int .i64 x.c.sg, .sl false [4] x.c.pit, .sl false [4, 4, 4, 4, 4, 4, 4, 4, 4, 4] x.pk, .int .i64 x.ln, .int .i64 x.f, .int .i64 x.d0, .int .i64 x.d1, .int .i64 x.d2], [.int .i64 x_2.m0, .int .i64 x_2.m1, .int .i64 x_2.m2, .int .i64 x_2.t0, .int .i64 x_2.t1, .int .i64 x_2.t2]])) ∧
    (decide (x15 > x.b.st) = false → (-9223372036854775808 ≤ (0 : Int) - x15 ∧ (0 : Int) - x15 ≤ 9223372036854775807) ∧ ∀ (x16 : Int), x16 = 0 - x15 → (decide (x16 > x.b.st) = true → K .ret ([.ce (.bool false)], [[.int .i64 x.s0, .int .i64 x.s1, .int .i64 x.s2, .sl false [4, 4, 4, 4, 4, 4, 4] x.sg, .sl false [4, 4, 4] x.mks, .int .i64 x.a.st, .int .i64 x.a.sp, .int .i64 x.a.ac, .int .i64 x.a.je, .int .i64 (-16777216), .int .i64 16777216, .int .i64 x.a.bl, .int .i64 x.a.og, .int .i64 x.a.sg, .sl false [4] x.a.pit, .int .i64 x.b.st, .int .i64 x.b.sp, .int .i64 x.b.ac, .int .i64 x.b.je, .int .i64 (-16777216), .int .i64 16777216, .int .i64 x.b.bl, .int .i64 x.b.og, .int .i64 x.b.sg, .sl false [4] x.b.pit, .int .i64 x.c.st, .int .i64 x.c.sp, .int .i64 x.c.ac, .int .i64 x.c.je, .int .i64 (-16777216), .int .i64 16777216, .int .i64 x.c.bl, .int .i64 x.c.og, .int .i64 x.c.sg, .sl false [4] x.c.pit, .sl false [4, 4, 4, 4, 4, 4, 4, 4, 4, 4] x.pk, .int .i64 x.ln, .int .i64 x.f, .int .i64 x.d0, .int .i64 x.d1, .int .i64 x.d2], [.int .i64 x_2.m0, .int .i64 x_2.m1, .int .i64 x_2.m2, .int .i64 x_2.t0, .int .i64 x_2.t1, .int .i64 x_2.t2]])) ∧
    (decide (x16 > x.b.st) = false → (-9223372036854775808 ≤ x_3.snd.2 - x12 ∧ x_3.snd.2 - x12 ≤ 9223372036854775807) ∧ ∀ (x17 : Int), x17 = x_3.snd.2 - x12 → (decide (x17 > x.c.st) = true → K .ret ([.ce (.bool false)], [[.int .i64 x.s0, .int .i64 x.s1, .int .i64 x.s2, .sl false [4, 4, 4, 4, 4, 4, 4] x.sg, .sl false [4, 4, 4] x.mks, .int .i64 x.a.st, .int .i64 x.a.sp, .int .i64 x.a.ac, .int .i64 x.a.je, .int .i64 (-16777216), .int .i64 16777216, .int .i64 x.a.bl, .int .i64 x.a.og, .int .i64 x.a.sg, .sl false [4] x.a.pit, .int .i64 x.b.st, .int .i64 x.b.sp, .int .i64 x.b.ac, .int .i64 x.b.je, .int .i64 (-16777216), .int .i64 16777216, .int .i64 x.b.bl, .int .i64 x.b.og, .int .i64 x.b.sg, .sl false [4] x.b.pit, .int .i64 x.c.st, .int .i64 x.c.sp, .int .i64 x.c.ac, .int .i64 x.c.je, .int .i64 (-16777216), .int .i64 16777216, .int .i64 x.c.bl, .int .i64 x.c.og, .int .i64 x.c.sg, .sl false [4] x.c.pit, .sl false [4, 4, 4, 4, 4, 4, 4, 4, 4, 4] x.pk, .int .i64 x.ln, .int .i64 x.f, .int .i64 x.d0, .int .i64 x.d1, .int .i64 x.d2], [.int .i64 x_2.m0, .int .i64 x_2.m1, .int .i64 x_2.m2, .int .i64 x_2.t0, .int .i64 x_2.t1, .int .i64 x_2.t2]])) ∧
    (decide (x17 > x.c.st) = false → (-9223372036854775808 ≤ (0 : Int) - x17 ∧ (0 : Int) - x17 ≤ 9223372036854775807) ∧ ∀ (x18 : Int), x18 = 0 - x17 → (decide (x18 > x.c.st) = true → K .ret ([.ce (.bool false)], [[.int .i64 x.s0, .int .i64 x.s1, .int .i64 x.s2, .sl false [4, 4, 4, 4, 4, 4, 4] x.sg, .sl false [4, 4, 4] x.mks, .int .i64 x.a.st, .int .i64 x.a.sp, .int .i64 x.a.ac, .int .i64 x.a.je, .int .i64 (-16777216), .int .i64 16777216, .int .i64 x.a.bl, .int .i64 x.a.og, .int .i64 x.a.sg, .sl false [4] x.a.pit, .int .i64 x.b.st, .int .i64 x.b.sp, .int .i64 x.b.ac, .int .i64 x.b.je, .int .i64 (-16777216), .int .i64 16777216, .int .i64 x.b.bl, .int .i64 x.b.og, .int .i64 x.b.sg, .sl false [4] x.b.pit, .int .i64 x.c.st, .int .i64 x.c.sp, .int .i64 x.c.ac, .int .i64 x.c.je, .int .i64 (-16777216), .int .i64 16777216, .int .i64 x.c.bl, .int .i64 x.c.og, .int .i64 x.c.sg, .sl false [4] x.c.pit, .sl false [4, 4, 4, 4, 4, 4, 4, 4, 4, 4] x.pk, .int .i64 x.ln, .int .i64 x.f, .int .i64 x.d0, .int .i64 x.d1, .int .i64 x.d2], [.int .i64 x_2.m0, .int .i64 x_2.m1, .int .i64 x_2.m2, .int .i64 x_2.t0, .int .i64 x_2.t1, .int .i64 x_2.t2]])) ∧
    (decide (x18 > x.c.st) = false → (-9223372036854775808 ≤ i + 1 ∧ i + 1 ≤ 9223372036854775807) ∧ ∀ (x19 : Int), x19 = i + 1 → K .normal ([.ce (.bool z), .ce (.ptr 1000007 0), .ce (.ptr 1000008 0), .ce (.int .i64 x5), .ce (.sl false [4] q), .ce (.int .i64 n), .ce (.int .i64 x19)], [[.int .i64 x.s0, .int .i64 x.s1, .int .i64 x.s2, .sl false [4, 4, 4, 4, 4, 4, 4] x.sg, .sl false [4, 4, 4] x.mks, .int .i64 x.a.st, .int .i64 x.a.sp, .int .i64 x.a.ac, .int .i64 x.a.je, .int .i64 (-16777216), .int .i64 16777216, .int .i64 x.a.bl, .int .i64 x.a.og, .int .i64 x.a.sg, .sl false [4] x.a.pit, .int .i64 x.b.st, .int .i64 x.b.sp, .int .i64 x.b.ac, .int .i64 x.b.je, .int .i64 (-16777216), .int .i64 16777216, .int .i64 x.b.bl, .int .i64 x.b.og, .int .i64 x.b.sg, .sl false [4] x.b.pit, .int .i64 x.c.st, .int .i64 x.c.sp, .int .i64 x.c.ac, .int .i64 x.c.je, .int .i64 (-16777216), .int .i64 16777216, .int .i64 x.c.bl, .int .i64 x.c.og, .int .i64 x.c.sg, .sl false [4] x.c.pit, .sl false [4, 4, 4, 4, 4, 4, 4, 4, 4, 4] x.pk, .int .i64 x.ln, .int .i64 x.f, .int .i64 x.d0, .int .i64 x.d1, .int .i64 x.d2], [.int .i64 x_2.m0, .int .i64 x_2.m1, .int .i64 x_2.m2, .int .i64 x_2.t0, .int .i64 x_2.t1, .int .i64 x_2.t2]])))))))) ∧
    (decide (i < n) = false → K (.exit 0) ([.ce (.bool z)], [[.int .i64 x.s0, .int .i64 x.s1, .int .i64 x.s2, .sl false [4, 4, 4, 4, 4, 4, 4] x.sg, .sl false [4, 4, 4] x.mks, .int .i64 x.a.st, .int .i64 x.a.sp, .int .i64 x.a.ac, .int .i64 x.a.je, .int .i64 (-16777216), .int .i64 16777216, .int .i64 x.a.bl, .int .i64 x.a.og, .int .i64 x.a.sg, .sl false [4] x.a.pit, .int .i64 x.b.st, .int .i64 x.b.sp, .int .i64 x.b.ac, .int .i64 x.b.je, .int .i64 (-16777216), .int .i64 16777216, .int .i64 x.b.bl, .int .i64 x.b.og, .int .i64 x.b.sg, .sl false [4] x.b.pit, .int .i64 x.c.st, .int .i64 x.c.sp, .int .i64 x.c.ac, .int .i64 x.c.je, .int .i64 (-16777216), .int .i64 16777216, .int .i64 x.c.bl, .int .i64 x.c.og, .int .i64 x.c.sg, .sl false [4] x.c.pit, .sl false [4, 4, 4, 4, 4, 4, 4, 4, 4, 4] x.pk, .int .i64 x.ln, .int .i64 x.f, .int .i64 x.d0, .int .i64 x.d1, .int .i64 x.d2], [.int .i64 m0, .int .i64 m1, .int .i64 m2, .int .i64 t0, .int .i64 t1, .int .i64 t2]]))) := by kernel_rfl
theorem vcNea (l ax q : List (List Int)) (Q : Res → Prop) : (nfun true CNea Tryz.f5 (bodyOf Tryz.f5) [.ce (.sl false [4] l), .ce (.sl false [4] ax), .ce (.sl false [4] q)] [] Q) =
    (True ∧ (∃ (x : Bool), x = true) ∧ ∀ (x : Bool), x = true → ((!x) = true → Q ⟨.ce (.bool false), false, [], []⟩) ∧ ((!x) = false → (decide ((List.length q : Int) > (12 : Int)) = true → Q ⟨.ce (.bool true), false, [], []⟩) ∧ (decide ((List.length q : Int) > (12 : Int)) = false → (((0 : Int) ≤ (4 : Int) ∧ (4 : Int) ≤ (5 : Int)) ∧ (0 : Int) = (0 : Int) ∧ List.length l ≤ (9223372036854775807 : Nat) ∧ List.length ax ≤ (9223372036854775807 : Nat)) ∧ (∃ (x : RunS), okTr x) ∧ ∀ (x : RunS), okTr x → (((0 < x.a.st ∧ x.a.st ≤ 16777216) ∧ okC x.a.og x.a.sg x.a.pit ∧ (-1073741824 : Int) ≤ x.s0 ∧ x.s0 ≤ 1073741824) ∧ ((0 < x.b.st ∧ x.b.st ≤ 16777216) ∧ okC x.b.og x.b.sg x.b.pit ∧ (-1073741824 : Int) ≤ x.s1 ∧ x.s1 ≤ 1073741824) ∧ (0 < x.c.st ∧ x.c.st ≤ 16777216) ∧ okC x.c.og x.c.sg x.c.pit ∧ (-1073741824 : Int) ≤ x.s2 ∧ x.s2 ≤ 1073741824) ∧ ∀ (x3 : Int), x3 = mot x.a.st x.a.og x.a.sg x.a.pit x.s0 → ∀ (x4 : Int), x4 = mot x.b.st x.b.og x.b.sg x.b.pit x.s1 →
    ∀ (x5 : Int), x5 = mot x.c.st x.c.og x.c.sg x.c.pit x.s2 → ∀ (x6 : Int), x6 = mot x.a.st x.a.og x.a.sg x.a.pit x.s0 → ∀ (x7 : Int), x7 = mot x.b.st x.b.og x.b.sg x.b.pit x.s1 → ∀ (x8 : Int), x8 = mot x.c.st x.c.og x.c.sg x.c.pit x.s2 → (((0 : Nat) + List.length q) * (8 : Nat) ≤ (140737488355328 : Nat) ∧ (0 : Nat) + List.length q ≤ maxLen) ∧ ((List.length ([] ++ q) + (1 : Nat)) * (8 : Nat) ≤ (140737488355328 : Nat) ∧ List.length ([] ++ q) + (1 : Nat) ≤ maxLen) ∧ ((((List.length ([] ++ q ++ [[(-1 : Int)]])) : Nat) : Int) = (((List.length ([] ++ q ++ [[(-1 : Int)]])) : Nat) : Int) ∧ (0 : Int) = (0 : Int) ∧ (0 : Int) = (0 : Int) ∧ List.length ([] ++ q ++ [[(-1 : Int)]]) ≤ (20 : Nat) ∧ ∃ (x_1 : RunS), okTr x_1 ∧ [.int .i64 x.s0, .int .i64 x.s1, .int .i64 x.s2, .sl false [4, 4, 4, 4, 4, 4, 4] x.sg, .sl false [4, 4, 4] x.mks, .int .i64 x.a.st, .int .i64 x.a.sp, .int .i64 x.a.ac, .int .i64 x.a.je, .int .i64 (-16777216), .int .i64 16777216, .int .i64 x.a.bl, .int .i64 x.a.og, .int .i64 x.a.sg, .sl false [4] x.a.pit, .int .i64 x.b.st, .int .i64 x.b.sp, .int .i64 x.b.ac, .int .i64 x.b.je, .int .i64 (-16777216), .int .i64 16777216, .int .i64 x.b.bl, .int .i64 x.b.og, .int .i64 x.b.sg, .sl false [4] x.b.pit, .int .i64 x.c.st, .int .i64 x.c.sp, .int .i64 x.c.ac, .int .i64 x.c.je, .int .i64 (-16777216), .int .i64 16777216, .int .i64 x.c.bl, .int .i64 x.c.og, .int .i64 x.c.sg, .sl false [4] x.c.pit, .sl false [4, 4, 4, 4, 4, 4, 4, 4, 4, 4] x.pk, .int .i64 x.ln, .int .i64 x.f, .int .i64 x.d0, .int .i64 x.d1, .int .i64 x.d2] = runC x_1 ∧
    { m0 := x3, m1 := x4, m2 := x5, t0 := x6, t1 := x7, t2 := x8 } = RunS.at x_1 (0 : Int)) ∧ ∀ (x : PS), True → Q ⟨.ce (.bool true), false, [], []⟩))) := by kernel_rfl
end Go.Proofs.YtneingpnkdeooaaGreat
namespace Go.Proofs.YtneingpnkdeooaaGreat
open Go Go.HL U
attribute [local irreducible] hfun bodyT fragT
theorem loopInv : ∀ v Q, (L18 v).wp Q → hloop CInv an18 (nthLoop Tryz.f48 0) v Q := by
  intro v Q h
  unfold L18 at h
  split at h
  case h_2 => exact h.elim
  rename_i goal low high st x1 x2 x3 x4 x5 x6 og sg pit
  obtain ⟨⟨hc, ⟨hg1, hg2⟩, hlow, hhigh⟩, hq⟩ := h
  have b1 := corr_bd hc low
  have b2 := corr_bd hc high
  refine hloop_rec (σ := Int × Int)
    (fun s => ([.ce (.ptr 1000002 0), .ce (.int .i64 goal), .ce (.int .i64 s.1), .ce (.int .i64 s.2)], [axI st x1 x2 x3 x4 x5 x6 og sg pit]))
    (fun s => (s.2 - s.1).toNat)
    (fun s => (s.1 < s.2 ∧ goal - 4097 ≤ s.1 ∧ s.2 ≤ goal + 4096) ∧ s.1 + corr og sg pit s.1 < goal ∧ goal ≤ s.2 + corr og sg pit s.2)
    ?_ (low, high) ⟨by dsimp only; omega, by dsimp only; omega, by dsimp only; omega⟩
  rintro ⟨low, high⟩ ⟨i1, i2, i3⟩ K hn he hr
  dsimp only at i1 i2 i3 hn ⊢
  refine byVB (vbInv goal low high st x1 x2 x3 x4 x5 x6 og sg pit K) ?_
  refine ⟨by omega, fun y1 e1 => ⟨fun k => ?_, fun k => ?_⟩⟩
  · have k := of_decide_eq_true k
    refine ⟨by omega, fun y2 e2 => ?_⟩
    have ht : y2.tdiv 2 = y2 / 2 := tdiv_pos (by omega)
    rw [ht]
    refine ⟨by omega, by omega, fun y3 e3 => ⟨by omega, fun y4 e4 => ⟨⟨hc, by omega, by omega⟩, fun y5 e5 => ?_⟩⟩⟩
    have bd := corr_bd hc y4
    rw [← e5] at bd
    refine ⟨by omega, fun y6 e6 => ⟨fun k2 => ?_, fun k2 => ?_⟩⟩
    · have k2 := of_decide_eq_true k2
      exact hn (low, y4) ⟨by dsimp only; omega, i2, by dsimp only; omega⟩ (by dsimp only; omega)
    · have k2 := of_decide_eq_false k2
      exact hn (y4, high) ⟨by dsimp only; omega, by dsimp only; omega, i3⟩ (by dsimp only; omega)
  · have k := of_decide_eq_false k
    refine he _ _ (hq high ⟨i3, ?_, by omega, by omega⟩)
    rw [show high - 1 = low by omega]; exact i2
set_option maxHeartbeats 400000 in
set_option maxRecDepth 100000 in
theorem sInverse : Sound Tryz.prog 48 SInverse := by
  refine sound_of (C := CInv) tabInv Tryz.func48 (by kernel_rfl) (by decide +kernel) (by kernel_rfl) rfl ⟨sCorrect, trivial⟩ (loops1 (by kernel_rfl) (loopOK_of (an := an18) (S := L18) (by kernel_rfl) loopInv)) ?_
  intro hargs pars R h
  unfold SInverse at h
  split at h
  case h_2 => exfalso; exact h
  rename_i st x1 x2 x3 x4 x5 x6 og sg pit m
  obtain ⟨⟨hc, h1, h2⟩, hx, hq⟩ := h
  refine byVC (vcInv st x1 x2 x3 x4 x5 x6 og sg m pit R) ⟨by omega, fun y1 e1 => ⟨by omega, fun y2 e2 => ⟨by omega, fun y3 e3 => ⟨by omega, fun y4 e4 => ⟨⟨hc, by omega, by omega, by omega⟩, fun y h => ?_⟩⟩⟩⟩⟩
  rw [e1] at h
  exact hq y h
set_option maxHeartbeats 400000 in
set_option maxRecDepth 100000 in
theorem sPos : Sound Tryz.prog 22 SPos := by
  refine sound_of (C := CPos) tabPos Tryz.func22 (by kernel_rfl) (by decide +kernel) (by kernel_rfl) rfl ⟨sInverse, trivial⟩ (loopsAll (by kernel_rfl)) ?_
  intro hargs pars R h
  unfold SPos at h
  split at h
  case h_2 => exfalso; exact h
  rename_i sta spa aca jea loa hia bla oga sga pta stb spb acb jeb lob hib blb ogb sgb ptb stc spc acc jec loc hic blc ogc sgc ptc m0 m1 m2 t0 t1 t2
  obtain ⟨⟨h0, h1, h2⟩, _, hq⟩ := h
  exact byVC (vcPos sta spa aca jea loa hia bla oga sga stb spb acb jeb lob hib blb ogb sgb stc spc acc jec loc hic blc ogc sgc pta ptb ptc m0 m1 m2 t0 t1 t2 R) ⟨h0, inv_ex h0.1, fun x hx => ⟨h1, inv_ex h1.1, fun y hy => ⟨h2, inv_ex h2.1, fun z hz => hq (x, y, z) ⟨hx, hy, hz⟩⟩⟩⟩
theorem g_lip {og sg : Int} {pit : List (List Int)} (h : okSl sg pit) {p q : Int} (hpq : p ≤ q) : 4 * (corr og sg pit p - corr og sg pit q) < q - p + 4 := by
  obtain ⟨n, hn⟩ := Int.eq_ofNat_of_zero_le (show 0 ≤ q - p by omega)
  have := (corr_lip (og := og) h p n).2
  rw [show p + (n : Int) = q by omega] at this
  omega
theorem inv_near {st og sg p q : Int} {pit : List (List Int)} (hs : okSl sg pit) (hst : 4 ≤ st) (h : isInv st og sg pit (mot st og sg pit p) q) : -st ≤ q - p ∧ q - p ≤ st := by
  obtain ⟨i1, i2, _⟩ := h
  have m := motor_of (og := og) (sg := sg) (pit := pit) (p := p) (show 0 < st by omega)
  generalize mot st og sg pit p * st = ms at *
  constructor
  · rcases Int.lt_or_le (q - p) (-st) with hlt | hle
    · have l := g_lip (og := og) hs (p := q) (q := p) (by omega)
      omega
    · omega
  · rcases Int.lt_or_le st (q - p) with hlt | hle
    · have l := g_lip (og := og) hs (p := p) (q := q - 1) (by omega)
      omega
    · omega
theorem step_bd {st og sg p : Int} {pit : List (List Int)} (hst : 4 ≤ st ∧ st ≤ 64) (hc : okC og sg pit) (hp : -32768 ≤ p ∧ p ≤ 32768) : -268435456 ≤ mot st og sg pit p * st ∧ mot st og sg pit p * st ≤ 268435456 := by
  have m := motor_of (og := og) (sg := sg) (pit := pit) (p := p) (show 0 < st by omega)
  have c := corr_bd hc p
  omega
theorem coord_in {s : Int} {sg : List (List Int)} {c : Nat} {B : Int} (hl : okLen sg) (h0 : -B ≤ s ∧ s ≤ B) (h : ∀ j, j < sg.length → -B ≤ ec sg j c ∧ ec sg j c ≤ B) (p : Int) : -B ≤ ptAt s sg c p ∧ ptAt s sg c p ≤ B := by
  unfold ptAt
  rcases pfind_spec hl p with ⟨h1, h2⟩ | ⟨j, h1, h2, h3, h4⟩
  · rw [h2]; exact h0
  · rw [if_neg (by omega), h2]
    have hb : -B ≤ bgn s sg c (j : Int) ∧ bgn s sg c (j : Int) ≤ B := by
      unfold bgn
      split
      · exact h0
      · exact h _ (by omega)
    have hj := h j h1
    have ht : ((j : Int)).toNat = j := rfl
    rw [ht]
    have hu := rnd_hull (a := ec sg j c - bgn s sg c (j : Int)) (d := (pfind sg p).2) (L := ec sg j 3) ⟨h3, h4⟩ (by have := (hl.2 j h1).1; omega)
    by_cases hs : 0 ≤ ec sg j c - bgn s sg c (j : Int)
    · have := hu.1 hs; omega
    · have := hu.2 (by omega); omega
theorem pt_b3 {x : RunS} (h : okRun x) (p : Int) : (-32768 ≤ ptAt x.s0 x.sg 0 p ∧ ptAt x.s0 x.sg 0 p ≤ 32768) ∧ (-32768 ≤ ptAt x.s1 x.sg 1 p ∧ ptAt x.s1 x.sg 1 p ≤ 32768) ∧ (-32768 ≤ ptAt x.s2 x.sg 2 p ∧ ptAt x.s2 x.sg 2 p ≤ 32768) := by
  have hl := okPath_len h.1
  obtain ⟨hs, hg, _, _⟩ := h.1
  exact ⟨coord_in hl hs.1 (fun j hj => (hg j hj).1.1) p, coord_in hl hs.2.1 (fun j hj => (hg j hj).1.2.1) p, coord_in hl hs.2.2 (fun j hj => (hg j hj).1.2.2) p⟩
set_option maxHeartbeats 1000000 in
theorem loopNea : ∀ v Q, (LFol v).wp Q → hloop CNea anNea (nthLoop Tryz.f5 0) v Q := by
  intro v Q h
  unfold LFol at h
  split at h
  case h_2 => exact h.elim
  rename_i z p q n i rb m0 m1 m2 t0 t1 t2
  obtain ⟨⟨h1, h2, h3, h4, x, hx, h6, h7⟩, hq⟩ := h
  subst h1 h2 h3
  have hr := hx.1
  have hln := okRun_ln hr
  have h0 := okRun_ln0 hr
  have hp := okRun_pre hr
  have hb := okRun_b3 hr
  subst h6
  have e7 : m0 = (x.at 0).m0 ∧ m1 = (x.at 0).m1 ∧ m2 = (x.at 0).m2 ∧ t0 = (x.at 0).t0 ∧ t1 = (x.at 0).t1 ∧ t2 = (x.at 0).t2 := by rw [← h7]; exact ⟨rfl, rfl, rfl, rfl, rfl, rfl⟩
  obtain ⟨rfl, rfl, rfl, rfl, rfl, rfl⟩ := e7
  refine hloop_rec (σ := Int × Nat) (fun y => ([.ce (.bool z), .ce (.ptr 1000007 0), .ce (.ptr 1000008 0), .ce (.int .i64 y.1), .ce (.sl false [4] q), .ce (.int .i64 (q.length : Int)), .ce (.int .i64 (y.2 : Int))], [runC x, [.int .i64 (x.at y.1).m0, .int .i64 (x.at y.1).m1, .int .i64 (x.at y.1).m2, .int .i64 (x.at y.1).t0, .int .i64 (x.at y.1).t1, .int .i64 (x.at y.1).t2]]))
    (fun y => q.length - y.2) (fun y => y.2 ≤ q.length ∧ (0 ≤ y.1 ∧ y.1 ≤ x.ln)) ?_ (0, 0) ⟨Nat.zero_le _, Int.le_refl _, h0⟩
  rintro ⟨p, k⟩ ⟨hk, hpp⟩ K hn hxx _
  dsimp only at hk hpp hn ⊢
  refine byVB (vbNea p q.length k (x.at p).m0 (x.at p).m1 (x.at p).m2 (x.at p).t0 (x.at p).t1 (x.at p).t2 z q x K) ⟨fun g => ?_, fun g => hxx _ _ (hq (x.at p) trivial)⟩
  have g := of_decide_eq_true g
  refine ⟨by omega, fun x1 e1 => ⟨by omega, fun x2 e2 => ⟨by omega, fun x3 e3 => ⟨by omega, fun x4 e4 => ?_⟩⟩⟩⟩
  have b4 := emod_bd (a := x1) (n := x3) (by omega)
  refine ⟨by omega, fun x5 e5 => ⟨⟨hp, hln⟩, ⟨_, rfl⟩, fun y ey => ?_⟩⟩
  rw [clamp_in hpp, clamp_in (by omega : 0 ≤ x5 ∧ x5 ≤ x.ln)] at ey
  have ey : y = plN x.M0 x.M1 x.M2 p (x5 - p).toNat := ey
  have ly := plN_len x.M0 x.M1 x.M2 p (x5 - p).toNat
  rw [← ey] at ly
  have main := pall_plN hr hpp.1 (x5 - p).toNat (by omega)
  rw [← ey, show p + (((x5 - p).toNat : Nat) : Int) = x5 by omega] at main
  refine ⟨⟨⟨hb.1, hb.2.1, hb.2.2⟩, at_small hr hpp, by omega⟩, ⟨_, rfl⟩, fun s es => ?_⟩
  have es : s = x.at x5 := es.trans main
  subst es
  have pb := pt_b3 hr (tplace x.pk x.f x5)
  have c0 := step_bd (p := ptAt x.s0 x.sg 0 (tplace x.pk x.f x5)) ⟨hr.2.1.1.1, hr.2.1.1.2⟩ hp.2.2.2.1.2.1 pb.1
  have c1 := step_bd (p := ptAt x.s1 x.sg 1 (tplace x.pk x.f x5)) ⟨hr.2.2.1.1.1, hr.2.2.1.1.2⟩ hp.2.2.2.2.1.2.1 pb.2.1
  have c2 := step_bd (p := ptAt x.s2 x.sg 2 (tplace x.pk x.f x5)) ⟨hr.2.2.2.1.1.1, hr.2.2.2.1.1.2⟩ hp.2.2.2.2.2.1.2.1 pb.2.2
  refine ⟨⟨⟨hp.2.2.2.1.2.1, c0.1, c0.2⟩, ⟨hp.2.2.2.2.1.2.1, c1.1, c1.2⟩, ⟨hp.2.2.2.2.2.1.2.1, c2.1, c2.2⟩⟩, ?_, fun r hr3 => ?_⟩
  · obtain ⟨a, ha⟩ := inv_ex (st := x.a.st) (m := (x.at x5).t0) hp.2.2.2.1.2.1
    obtain ⟨b, hb⟩ := inv_ex (st := x.b.st) (m := (x.at x5).t1) hp.2.2.2.2.1.2.1
    obtain ⟨c, hc⟩ := inv_ex (st := x.c.st) (m := (x.at x5).t2) hp.2.2.2.2.2.1.2.1
    exact ⟨(a, b, c), ha, hb, hc⟩
  have n0 := inv_near (okAx_sl hr.2.1) hr.2.1.1.1 hr3.1
  have n1 := inv_near (okAx_sl hr.2.2.1) hr.2.2.1.1.1 hr3.2.1
  have n2 := inv_near (okAx_sl hr.2.2.2.1) hr.2.2.2.1.1.1 hr3.2.2
  refine ⟨hp.2.2.1, fun x9 e9 => ?_⟩
  rw [clamp_in (by omega : 0 ≤ x5 ∧ x5 ≤ x.ln)] at e9
  have tb := tplace_bd hp.2.2.1 hp.2.2.2.2.2.2 (u := x5) (by omega)
  rw [← e9] at tb n0 n1 n2 pb
  have s0 := hr.2.1.1
  have s1 := hr.2.2.1.1
  have s2 := hr.2.2.2.1.1
  have nt : ∀ {p : Prop} [Decidable p] {R : Prop}, ¬ p → decide p = true → R := fun h g => absurd (of_decide_eq_true g) h
  refine ⟨⟨hp.1, hp.2.1, by omega⟩, fun x10 e10 x11 e11 x12 e12 => ?_⟩
  rw [← e10] at n0 pb
  rw [← e11] at n1 pb
  rw [← e12] at n2 pb
  refine ⟨by omega, fun x13 e13 => ⟨nt (by omega), fun _ => ⟨by omega, fun x14 e14 => ⟨nt (by omega), fun _ => ⟨by omega, fun x15 e15 => ⟨nt (by omega), fun _ => ⟨by omega, fun x16 e16 => ⟨nt (by omega), fun _ => ⟨by omega, fun x17 e17 => ⟨nt (by omega), fun _ => ⟨by omega, fun x18 e18 => ⟨nt (by omega), fun _ => ⟨by omega, fun x19 e19 => ?_⟩⟩⟩⟩⟩⟩⟩⟩⟩⟩⟩⟩⟩
  rw [e19, show (k : Int) + 1 = ((k + 1 : Nat) : Int) by omega]
  exact hn (x5, k + 1) ⟨by omega, by dsimp only; omega, by dsimp only; omega⟩ (by dsimp only; omega)
set_option maxHeartbeats 400000 in
set_option maxRecDepth 100000 in
theorem sNea : Sound Tryz.prog 5 SFol := by
  refine sound_of (C := CNea) tabNea Tryz.func5 (by kernel_rfl) (by decide +kernel) (by kernel_rfl) rfl ⟨sAw40, sTrack, sPStart, sMod, sBtw, sPStep, sPos, sPlace, sAt, trivial⟩ (loopsK [nthLoop Tryz.f5 0] [] (by kernel_rfl) (by kernel_rfl) ⟨loopOK_of (an := anNea) (S := LFol) (by kernel_rfl) loopNea, trivial⟩ trivial) ?_
  intro hargs pars R h
  unfold SFol at h
  split at h
  case h_2 => exfalso; exact h
  rename_i l ax q
  obtain ⟨⟨hl, hax⟩, hq⟩ := h
  refine byVC (vcNea l ax q R) ⟨trivial, ⟨true, rfl⟩, fun w ew => ⟨fun g => (by rw [ew] at g; cases g), fun _ => ⟨fun _ => hq, fun g => ⟨⟨by decide, rfl, hl, hax⟩, okTr_ex, fun x hx => ?_⟩⟩⟩⟩
  have g := of_decide_eq_false g
  have hp := okRun_pre hx.1
  have s := hp.2.1
  refine ⟨⟨⟨hp.2.2.2.1.1, hp.2.2.2.1.2.1, ?_⟩, ⟨hp.2.2.2.2.1.1, hp.2.2.2.2.1.2.1, ?_⟩, ⟨hp.2.2.2.2.2.1.1, hp.2.2.2.2.2.1.2.1, ?_⟩⟩, fun x3 e3 x4 e4 x5 e5 x6 e6 x7 e7 x8 e8 => ?_⟩
  · have := s.1; omega
  · have := s.2.1; omega
  · have := s.2.2.1; omega
  · have l1 : ([] ++ q : List (List Int)).length = q.length := by simp
    have l2 : ([] ++ q ++ [[-1]] : List (List Int)).length = q.length + 1 := by simp
    refine ⟨⟨by omega, by unfold maxLen; omega⟩, ⟨by omega, by unfold maxLen; omega⟩, ⟨rfl, rfl, rfl, by omega, x, hx, rfl, ?_⟩, fun _ _ => hq⟩
    rw [okTr_start hx, e3, e4, e5, e6, e7, e8]
end Go.Proofs.YtneingpnkdeooaaGreat
