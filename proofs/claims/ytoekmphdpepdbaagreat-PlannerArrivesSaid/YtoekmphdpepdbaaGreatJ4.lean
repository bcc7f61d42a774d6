/-
  Part 4.
  Conditions: none.
-/
import Derived.Test.YtoekmphdpepdbaaGreatJ3
set_option maxRecDepth 100000
set_option maxHeartbeats 400000
set_option linter.unusedVariables false
set_option linter.unusedSimpArgs false
open Go
namespace U
open Go
def spk (u w r h : Int) : Prop := (-12288 <= u /\ u <= 12288) /\ (-12288 <= w /\ w <= 12288) /\ (0 <= r /\ r <= 12288) /\ (-4096 <= h /\ h <= 4096)
def spks (l : LL) : Prop := ∀ j, j < l.length -> spk (ec l j 0) (ec l j 1) (ec l j 2) (ec l j 3)
end U
namespace Go.Proofs.YtoekmphdpepdbaaGreat
open Go Go.HL U
def SFlat (hA : List HV) (pA : List (List HC)) : SR :=
 match hA, pA with
 | [.ce (.int .i64 r), .ce (.int .i64 s)], [] => .all (0 <= r /\ r <= 1073741824) Bool (fun _ => True) (fun x => ⟨.ce (.bool x), false, [], []⟩)
 | _, _ => .fail
noncomputable def CFlat : Ctx := ⟨Tryz.prog, gam [], Tryz.f156.ntmps, [], []⟩
theorem vcFlat (r s : Int) (Q : Res -> Prop) : (nfun true CFlat Tryz.f156 (bodyOf Tryz.f156) [.ce (I6 r), .ce (I6 s)] [] Q) =
 (R6 (8 * r) /\ ∀ x1, x1 = 8 * r -> R6 (x1 * 4) /\ ∀ x2, x2 = x1 * 4 -> R6 (x2 - 64) /\ ∀ x3, x3 = x2 - 64 -> Q ⟨.ce (.bool (decide (s <= x3))), false, [], []⟩) := by kernel_rfl
def SHalf (hA : List HV) (pA : List (List HC)) : SR :=
 match hA, pA with
 | [.ce (.int .i64 a), .ce (.int .i64 b)], [] => .det ((-1073741824 <= a /\ a <= 1073741824) /\ (-1073741824 <= b /\ b <= 1073741824)) ⟨.ce (I6 ((a + b + 1) / 2)), false, [], []⟩
 | _, _ => .fail
noncomputable def CHalf : Ctx := ⟨Tryz.prog, gam [], Tryz.f157.ntmps, [], []⟩
theorem vcHalf (a b : Int) (Q : Res -> Prop) : (nfun true CHalf Tryz.f157 (bodyOf Tryz.f157) [.ce (I6 a), .ce (I6 b)] [] Q) =
 (R6 (a + b) /\ ∀ x1, x1 = a + b -> R6 (x1 + 1) /\ ∀ x2, x2 = x1 + 1 -> (0 : Int) <= 1 /\ ∀ x3, x3 = x2 / 2 -> Q ⟨.ce (I6 x3), false, [], []⟩) := by kernel_rfl
def SDot (hA : List HV) (pA : List (List HC)) : SR :=
 match hA, pA with
 | [.agg [.int .i64 u, .int .i64 w, .int .i64 r, .int .i64 h], .agg [.int .i64 v, .int .i64 x, .int .i64 s, .int .i64 g]], [] =>
  .all ((-65536 <= u /\ u <= 65536) /\ (-65536 <= w /\ w <= 65536) /\ (-65536 <= v /\ v <= 65536) /\ (-65536 <= x /\ x <= 65536)) Int (fun y => y = u * v + w * x /\ -8589934592 <= y /\ y <= 8589934592) (fun y => ⟨.ce (I6 y), false, [], []⟩)
 | _, _ => .fail
noncomputable def CDot : Ctx := ⟨Tryz.prog, gam [], Tryz.f132.ntmps, [], []⟩
theorem vcDot (u w r h v x s g : Int) (Q : Res -> Prop) : (nfun true CDot Tryz.f132 (bodyOf Tryz.f132) [.agg [I6 u, I6 w, I6 r, I6 h], .agg [I6 v, I6 x, I6 s, I6 g]] [] Q) =
 (R6 (u * v) /\ ∀ x1, x1 = u * v -> R6 (w * x) /\ ∀ x2, x2 = w * x -> R6 (x1 + x2) /\ ∀ x3, x3 = x1 + x2 -> Q ⟨.ce (I6 x3), false, [], []⟩) := by kernel_rfl
def SCross (hA : List HV) (pA : List (List HC)) : SR :=
 match hA, pA with
 | [.agg [.int .i64 u, .int .i64 w, .int .i64 r, .int .i64 h], .agg [.int .i64 v, .int .i64 x, .int .i64 s, .int .i64 g]], [] =>
  .all ((-65536 <= u /\ u <= 65536) /\ (-65536 <= w /\ w <= 65536) /\ (-65536 <= v /\ v <= 65536) /\ (-65536 <= x /\ x <= 65536)) Int (fun y => y = u * x - w * v /\ -8589934592 <= y /\ y <= 8589934592) (fun y => ⟨.ce (I6 y), false, [], []⟩)
 | _, _ => .fail
noncomputable def CCross : Ctx := ⟨Tryz.prog, gam [], Tryz.f134.ntmps, [], []⟩
theorem vcCross (u w r h v x s g : Int) (Q : Res -> Prop) : (nfun true CCross Tryz.f134 (bodyOf Tryz.f134) [.agg [I6 u, I6 w, I6 r, I6 h], .agg [I6 v, I6 x, I6 s, I6 g]] [] Q) =
 (R6 (u * x) /\ ∀ x1, x1 = u * x -> R6 (w * v) /\ ∀ x2, x2 = w * v -> R6 (x1 - x2) /\ ∀ x3, x3 = x1 - x2 -> Q ⟨.ce (I6 x3), false, [], []⟩) := by kernel_rfl
def SMiddle (hA : List HV) (pA : List (List HC)) : SR :=
 match hA, pA with
 | [.agg [.int .i64 u, .int .i64 w, .int .i64 r, .int .i64 h], .agg [.int .i64 v, .int .i64 x, .int .i64 s, .int .i64 g], .ce (.int .i64 d), .ce (.bool f)], [] =>
  .all (spk u w r h /\ spk v x s g /\ (-1 <= d /\ d <= 1)) (Int × Int × Int × Int × Bool) (fun y => spk y.1 y.2.1 y.2.2.1 y.2.2.2.1) (fun y => ⟨.tup [.agg [I6 y.1, I6 y.2.1, I6 y.2.2.1, I6 y.2.2.2.1], .ce (.bool y.2.2.2.2)], false, [], []⟩)
 | _, _ => .fail
def tabMiddle : List (FuncId × HL.Spec) := [(132, SDot), (134, SCross), (157, SHalf), (150, SNear)]
def anMc : LAnn := ⟨[2, 4, 5, 8, 9, 10, 11, 35], [4, 5, 8, 9, 10, 11], [1000004, 1000005, 1000008], false⟩
def LMc (v : LV) : LR :=
 match v with
 | ([.ce (.int .i64 d), .ce (.ptr 1000004 0), .ce (.ptr 1000005 0), .ce (.ptr 1000008 0), .ce (.bool z), .ce (.int .i64 _), .ce (.int .i64 _), .ce (.bool _)], [[.int .i64 u, .int .i64 w, .int .i64 r, .int .i64 h], [.int .i64 v, .int .i64 x, .int .i64 s, .int .i64 g], [.int .i64 z0, .int .i64 z1, .int .i64 z2, .int .i64 z3]]) =>
  .all (spk u w r h /\ spk v x s g /\ (-1 <= d /\ d <= 1)) (Int × Int) (fun y => (-24576 <= y.1 /\ y.1 <= 24576) /\ (-24576 <= y.2 /\ y.2 <= 24576)) (fun _ => .normal) (fun y => ([.ce (.ptr 1000004 0), .ce (.ptr 1000005 0), .ce (.ptr 1000008 0), .ce (.bool z), .ce (I6 y.1), .ce (I6 y.2)], [[I6 u, I6 w, I6 r, I6 h], [I6 v, I6 x, I6 s, I6 g], [I6 z0, I6 z1, I6 z2, I6 z3]]))
 | _ => .fail
def anMe : LAnn := ⟨[4, 5, 8, 9, 10, 11], [4, 5, 8, 9, 10, 11, 88], [1000004, 1000005, 1000008], false⟩
def LMe (v : LV) : LR :=
 match v with
 | ([.ce (.ptr 1000004 0), .ce (.ptr 1000005 0), .ce (.ptr 1000008 0), .ce (.bool z), .ce (.int .i64 p), .ce (.int .i64 q)], [[.int .i64 u, .int .i64 w, .int .i64 r, .int .i64 h], [.int .i64 v, .int .i64 x, .int .i64 s, .int .i64 g], [.int .i64 z0, .int .i64 z1, .int .i64 z2, .int .i64 z3]]) =>
  .all True Bool (fun b => b = false -> p ≠ 0 ∨ q ≠ 0) (fun _ => .normal) (fun b => ([.ce (.ptr 1000004 0), .ce (.ptr 1000005 0), .ce (.ptr 1000008 0), .ce (.bool z), .ce (I6 p), .ce (I6 q), .ce (.bool b)], [[I6 u, I6 w, I6 r, I6 h], [I6 v, I6 x, I6 s, I6 g], [I6 z0, I6 z1, I6 z2, I6 z3]]))
 | _ => .fail
noncomputable def CMiddle : Ctx := ⟨Tryz.prog, gam tabMiddle, Tryz.f148.ntmps, [(2000006, anMc, LMc), (3000011, anMe, LMe)], []⟩
theorem vgMc (u w r h v x s g z0 z1 z2 z3 d p q : Int) (z f : Bool) (K : HEx -> LV -> Prop) : (nfragT true CMiddle anMc (nthFrag CMiddle Tryz.f148 0) (([.ce (I6 d), .ce (.ptr 1000004 0), .ce (.ptr 1000005 0), .ce (.ptr 1000008 0), .ce (.bool z), .ce (I6 p), .ce (I6 q), .ce (.bool f)], [[I6 u, I6 w, I6 r, I6 h], [I6 v, I6 x, I6 s, I6 g], [I6 z0, I6 z1, I6 z2, I6 z3]])) K) =
 (Bb (f) (R6 (0 - u) /\ ∀ x1, x1 = 0 - u -> R6 (0 - w) /\ ∀ x2, x2 = 0 - w -> K .normal ([.ce (.ptr 1000004 0), .ce (.ptr 1000005 0), .ce (.ptr 1000008 0), .ce (.bool z), .ce (I6 x1), .ce (I6 x2)], [[I6 u, I6 w, I6 r, I6 h], [I6 v, I6 x, I6 s, I6 g], [I6 z0, I6 z1, I6 z2, I6 z3]])) (((-65536 <= u /\ u <= 65536) /\ (-65536 <= w /\ w <= 65536) /\ (-65536 <= v /\ v <= 65536) /\ -65536 <= x /\ x <= 65536) /\ (∃ (x_1 : Int), x_1 = u * v + w * x /\ -8589934592 <= x_1 /\ x_1 <= 8589934592) /\ ∀ x_1, x_1 = u * v + w * x /\ -8589934592 <= x_1 /\ x_1 <= 8589934592 -> Br (x_1 > 0) (((-65536 <= u /\
 u <= 65536) /\ (-65536 <= w /\ w <= 65536) /\ (-65536 <= v /\ v <= 65536) /\ -65536 <= x /\ x <= 65536) /\ (∃ (x_2 : Int), x_2 = u * x - w * v /\ -8589934592 <= x_2 /\ x_2 <= 8589934592) /\ ∀ x_2, x_2 = u * x - w * v /\ -8589934592 <= x_2 /\ x_2 <= 8589934592 -> R6 (x_2 * d) /\ ∀ x5, x5 = x_2 * d -> Br (x5 > 0) (R6 (u + v) /\ ∀ x6, x6 = u + v -> R6 (w + x) /\ ∀ x7, x7 = w + x -> K .normal ([.ce (.ptr 1000004 0), .ce (.ptr 1000005 0), .ce (.ptr 1000008 0), .ce (.bool z), .ce (I6 x6), .ce (I6 x7)], [[I6 u, I6 w, I6 r, I6 h], [I6 v, I6 x, I6 s, I6 g], [I6 z0, I6 z1, I6 z2, I6 z3]])) (((-65536 <= u /\ u <= 65536) /\ (-65536 <= w /\ w <= 65536) /\ (-65536 <= v /\ v <= 65536) /\ -65536 <= x /\ x <= 65536) /\ (∃ (x_3 : Int), x_3 = u * v + w * x /\ -8589934592 <= x_3 /\ x_3 <= 8589934592) /\ ∀ x_3, x_3 = u * v + w * x /\ -8589934592 <= x_3 /\ x_3 <= 8589934592 -> Br (x_3 > 0) (R6 (u + v) /\ ∀ x9, x9 = u + v -> R6 (0 - x9) /\ ∀ x10, x10 = 0 - x9 -> R6 (w + x) /\ ∀ x11, x11 = w + x -> R6 (0 - x11) /\ ∀ x12, x12 = 0 - x11 -> K .normal ([.ce (.ptr 1000004 0), .ce (.ptr 1000005 0), .ce (.ptr 1000008 0), .ce (.bool z), .ce (I6 x10), .ce (I6 x12)], [[I6 u, I6 w, I6 r, I6 h], [I6 v, I6 x, I6 s, I6 g], [I6 z0, I6 z1, I6 z2, I6 z3]])) (R6 (x - w) /\ ∀ x13, x13 = x - w -> R6 (d * x13) /\ ∀ x14, x14 = d * x13 -> R6 (u - v) /\ ∀ x15, x15 = u - v -> R6 (d * x15) /\ ∀ x16, x16 = d * x15 -> K .normal ([.ce (.ptr 1000004 0), .ce (.ptr 1000005 0), .ce (.ptr 1000008 0), .ce (.bool z), .ce (I6 x14), .ce (I6 x16)], [[I6 u, I6 w, I6 r, I6 h], [I6 v, I6 x, I6 s, I6 g], [I6 z0, I6 z1, I6 z2, I6 z3]])))) (((-65536 <= u /\ u <= 65536) /\ (-65536 <= w /\ w <= 65536) /\ (-65536 <= v /\ v <= 65536) /\ -65536 <= x /\ x <= 65536) /\ (∃ (x_2 : Int), x_2 = u * v + w * x /\
 -8589934592 <= x_2 /\ x_2 <= 8589934592) /\ ∀ x_2, x_2 = u * v + w * x /\ -8589934592 <= x_2 /\ x_2 <= 8589934592 -> Br (x_2 > 0) (R6 (u + v) /\ ∀ x18, x18 = u + v -> R6 (0 - x18) /\ ∀ x19, x19 = 0 - x18 -> R6 (w + x) /\ ∀ x20, x20 = w + x -> R6 (0 - x20) /\ ∀ x21, x21 = 0 - x20 -> K .normal ([.ce (.ptr 1000004 0), .ce (.ptr 1000005 0), .ce (.ptr 1000008 0), .ce (.bool z), .ce (I6 x19), .ce (I6 x21)], [[I6 u, I6 w, I6 r, I6 h], [I6 v, I6 x, I6 s, I6 g], [I6 z0, I6 z1, I6 z2, I6 z3]])) (R6 (x - w) /\ ∀ x22, x22 = x - w -> R6 (d * x22) /\ ∀ x23, x23 = d * x22 -> R6 (u - v) /\ ∀ x24, x24 = u - v -> R6 (d * x24) /\ ∀ x25, x25 = d * x24 -> K .normal ([.ce (.ptr 1000004 0), .ce (.ptr 1000005 0), .ce (.ptr 1000008 0), .ce (.bool z), .ce (I6 x23), .ce (I6 x25)], [[I6 u, I6 w, I6 r, I6 h], [I6 v, I6 x, I6 s, I6 g], [I6 z0, I6 z1, I6 z2, I6 z3]]))))) := by kernel_rfl
theorem vgMe (u w r h v x s g z0 z1 z2 z3 p q : Int) (z : Bool) (K : HEx -> LV -> Prop) : (nfragT true CMiddle anMe (nthFrag CMiddle Tryz.f148 1) (([.ce (.ptr 1000004 0), .ce (.ptr 1000005 0), .ce (.ptr 1000008 0), .ce (.bool z), .ce (I6 p), .ce (I6 q)], [[I6 u, I6 w, I6 r, I6 h], [I6 v, I6 x, I6 s, I6 g], [I6 z0, I6 z1, I6 z2, I6 z3]])) K) =
 (Bb (p == 0) (K .normal ([.ce (.ptr 1000004 0), .ce (.ptr 1000005 0), .ce (.ptr 1000008 0), .ce (.bool z), .ce (I6 p), .ce (I6 q), .ce (.bool (q == 0))], [[I6 u, I6 w, I6 r, I6 h], [I6 v, I6 x, I6 s, I6 g], [I6 z0, I6 z1, I6 z2, I6 z3]])) (K .normal ([.ce (.ptr 1000004 0), .ce (.ptr 1000005 0), .ce (.ptr 1000008 0), .ce (.bool z), .ce (I6 p), .ce (I6 q), .ce (.bool false)], [[I6 u, I6 w, I6 r, I6 h], [I6 v, I6 x, I6 s, I6 g], [I6 z0, I6 z1, I6 z2, I6 z3]]))) := by kernel_rfl
theorem vcMiddle (u w r h v x s g d : Int) (f : Bool) (Q : Res -> Prop) : (nfun true CMiddle Tryz.f148 (bodyOf Tryz.f148) [.agg [I6 u, I6 w, I6 r, I6 h], .agg [I6 v, I6 x, I6 s, I6 g], .ce (I6 d), .ce (.bool f)] [] Q) =
 (Bb (d != 1) (Bb (d != (-1 : Int)) (Q ⟨.tup [.agg [I6 0, I6 0, I6 0, I6 0], .ce (.bool false)], false, [], []⟩) ((spk u w r h /\ spk v x s g /\ -1 <= d /\ d <= 1) /\ ∀ (x : Int × Int), ((-24576 : Int) <= x.1 /\ x.1 <= 24576) /\ (-24576 : Int) <= x.2 /\ x.2 <= 24576 -> True /\ ∀ (x_1 : Bool), (x_1 = false -> x.1 ≠ 0 ∨ x.2 ≠ 0) -> Bb (x_1) (Q ⟨.tup [.agg [I6 0, I6 0, I6 0, I6 0], .ce (.bool false)], false, [], []⟩) (((-1073741824 <= r /\ r <= 1073741824) /\ -1073741824 <= s /\ s <= 1073741824) /\ ∀ x3, x3 = (r + s + 1) / 2 -> R6 (x.1 * x.1) /\ ∀ x4, x4 = x.1 * x.1 -> R6 (x.2 * x.2) /\ ∀ x5, x5 = x.2 * x.2 -> R6 (x4 + x5) /\
 ∀ x6, x6 = x4 + x5 -> (((-65536 : Int) <= x.1 /\ x.1 <= 65536) /\ (0 <= x3 /\ x3 <= 65536) /\ x.1 * x.1 <= x6 /\ 1 <= x6 /\ x6 <= 1099511627776) /\ (∃ (x : Int), -x3 <= x /\ x <= x3) /\ ∀ (x_2 : Int), -x3 <= x_2 /\ x_2 <= x3 -> (((-65536 : Int) <= x.2 /\ x.2 <= 65536) /\ (0 <= x3 /\ x3 <= 65536) /\ x.2 * x.2 <= x6 /\ 1 <= x6 /\ x6 <= 1099511627776) /\ (∃ (x : Int), -x3 <= x /\ x <= x3) /\ ∀ (x : Int), -x3 <= x /\ x <= x3 -> ((-1073741824 <= h /\ h <= 1073741824) /\ -1073741824 <= g /\ g <= 1073741824) /\ ∀ x9, x9 = (h + g + 1) / 2 -> Q ⟨.tup [.agg [I6 x_2, I6 x, I6 x3, I6 x9], .ce (.bool true)], false, [], []⟩))) ((spk u w r h /\ spk v x s g /\ -1 <= d /\ d <= 1) /\ ∀ (x : Int × Int), ((-24576 : Int) <= x.1 /\ x.1 <= 24576) /\ (-24576 : Int) <= x.2 /\ x.2 <= 24576 -> True /\ ∀ (x_1 : Bool), (x_1 = false -> x.1 ≠ 0 ∨ x.2 ≠ 0) -> Bb (x_1) (Q ⟨.tup [.agg [I6 0, I6 0, I6 0, I6 0], .ce (.bool false)], false, [], []⟩) (((-1073741824 <= r /\ r <= 1073741824) /\ -1073741824 <= s /\ s <= 1073741824) /\ ∀ x12, x12 = (r + s + 1) / 2 -> R6 (x.1 * x.1) /\ ∀ x13, x13 = x.1 * x.1 -> R6 (x.2 * x.2) /\ ∀ x14, x14 = x.2 * x.2 -> R6 (x13 + x14) /\ ∀ x15, x15 = x13 + x14 -> (((-65536 : Int) <= x.1 /\ x.1 <= 65536) /\ (0 <= x12 /\ x12 <= 65536) /\ x.1 * x.1 <= x15 /\ 1 <= x15 /\ x15 <= 1099511627776) /\ (∃ (x : Int), -x12 <= x /\ x <= x12) /\ ∀ (x_2 : Int), -x12 <= x_2 /\ x_2 <= x12 -> (((-65536 : Int) <= x.2 /\ x.2 <= 65536) /\ (0 <= x12 /\ x12 <= 65536) /\ x.2 * x.2 <= x15 /\ 1 <= x15 /\ x15 <= 1099511627776) /\ (∃ (x : Int), -x12 <= x /\ x <= x12) /\ ∀ (x : Int), -x12 <= x /\ x <= x12 -> ((-1073741824 <= h /\ h <= 1073741824) /\ -1073741824 <= g /\
 g <= 1073741824) /\ ∀ x18, x18 = (h + g + 1) / 2 -> Q ⟨.tup [.agg [I6 x_2, I6 x, I6 x12, I6 x18], .ce (.bool true)], false, [], []⟩))) := by kernel_rfl
def SSettled (hA : List HV) (pA : List (List HC)) : SR :=
 match hA, pA with
 | [.agg [.int .i64 u, .int .i64 w, .int .i64 r, .int .i64 h], .agg [.int .i64 v, .int .i64 x, .int .i64 s, .int .i64 g], .ce (.int .i64 d), .ce (.bool f)], [] =>
  .all (spk u w r h /\ spk v x s g /\ (-1 <= d /\ d <= 1)) Bool (fun _ => True) (fun y => ⟨.ce (.bool y), false, [], []⟩)
 | _, _ => .fail
def tabSettled : List (FuncId × HL.Spec) := [(134, SCross), (156, SFlat)]
noncomputable def CSettled : Ctx := ⟨Tryz.prog, gam tabSettled, Tryz.f147.ntmps, [], []⟩
theorem vcSettled (u w r h v x s g d : Int) (f : Bool) (Q : Res -> Prop) : (nfun true CSettled Tryz.f147 (bodyOf Tryz.f147) [.agg [I6 u, I6 w, I6 r, I6 h], .agg [I6 v, I6 x, I6 s, I6 g], .ce (I6 d), .ce (.bool f)] [] Q) =
 (Bb (!f) (((-65536 <= u /\ u <= 65536) /\ (-65536 <= w /\ w <= 65536) /\ (-65536 <= v /\ v <= 65536) /\ -65536 <= x /\ x <= 65536) /\ (∃ (x_1 : Int), x_1 = u * x - w * v /\ -8589934592 <= x_1 /\ x_1 <= 8589934592) /\ ∀ x_1, x_1 = u * x - w * v /\ -8589934592 <= x_1 /\ x_1 <= 8589934592 -> R6 (x_1 * d) /\ ∀ x2, x2 = x_1 * d -> Br (x2 > 0) (∀ x3, x3 = min r s -> R6 (u - v) /\ ∀ x4, x4 = u - v -> R6 (u - v) /\ ∀ x5, x5 = u - v -> R6 (x4 * x5) /\ ∀ x6, x6 = x4 * x5 -> R6 (w - x) /\ ∀ x7, x7 = w - x -> R6 (w - x) /\
 ∀ x8, x8 = w - x -> R6 (x7 * x8) /\ ∀ x9, x9 = x7 * x8 -> R6 (x6 + x9) /\ ∀ x10, x10 = x6 + x9 -> (0 <= x3 /\ x3 <= 1073741824) /\ (∃ (x : Bool), True) /\ ∀ (x : Bool), True -> Q ⟨.ce (.bool x), false, [], []⟩) (Q ⟨.ce (.bool false), false, [], []⟩)) (Q ⟨.ce (.bool false), false, [], []⟩)) := by kernel_rfl
def SPcs (n : Int) (hA : List HV) (pA : List (List HC)) : SR :=
 match hA, pA with
 | [.agg [.int .i64 u, .int .i64 w, .int .i64 r, .int .i64 h], .agg [.int .i64 v, .int .i64 x, .int .i64 s, .int .i64 g], .ce (.int .i64 d), .ce (.bool f), .ce (.int .i64 k)], [] =>
  .all ((0 <= n /\ n <= 16) /\ (0 <= k /\ k <= 16 /\ 16 <= k + n) /\ spk u w r h /\ spk v x s g /\ (-1 <= d /\ d <= 1)) (LL) (fun y => (1 <= y.length /\ y.length <= 2 ^ n.toNat) /\ spks y) (fun y => ⟨.ce (.sl false [4, 4, 4, 4] y), true, [], []⟩)
 | _, _ => .fail
def tabPcs (n : Int) : List (FuncId × HL.Spec) := [(147, SSettled), (148, SMiddle), (136, SPcs (n - 1))]
noncomputable def CPcs (n : Int) : Ctx := ⟨Tryz.prog, gam (tabPcs n), Tryz.f136.ntmps, [], []⟩
theorem vcPcs (n u w r h v x s g d k : Int) (f : Bool) (Q : Res -> Prop) : (nfun true (CPcs n) Tryz.f136 (bodyOf Tryz.f136 ) [.agg [I6 u, I6 w, I6 r, I6 h], .agg [I6 v, I6 x, I6 s, I6 g], .ce (I6 d), .ce (.bool f), .ce (I6 k)] [] Q) =
 (Br (k >= 16) (Q ⟨.ce (.sl false [4, 4, 4, 4] [[v, x, s, g]]), true, [], []⟩) ((spk u w r h /\ spk v x s g /\ -1 <= d /\ d <= 1) /\ (∃ (x : Bool), True) /\ ∀ (x_1 : Bool), True -> Bb (x_1) (Q ⟨.ce (.sl false [4, 4, 4, 4] [[v, x, s, g]]), true, [], []⟩) ((spk u w r h /\ spk v x s g /\ -1 <= d /\ d <= 1) /\ (∃ (x : Int × Int × Int × Int × Bool), spk x.1 x.snd.1 x.snd.snd.1 x.snd.snd.snd.1) /\ ∀ (x_2 : Int × Int × Int × Int × Bool), spk x_2.1 x_2.snd.1 x_2.snd.snd.1 x_2.snd.snd.snd.1 -> R6 (k + 1) /\ ∀ x3, x3 = k + 1 -> ((0 <= n - 1 /\ n - 1 <= 16) /\ (0 <= x3 /\ x3 <= 16 /\ 16 <= x3 + (n - 1)) /\ spk u w r h /\ spk x_2.1 x_2.snd.1 x_2.snd.snd.1 x_2.snd.snd.snd.1 /\ -1 <= d /\ d <= 1) /\ (∃ (x : LL), ((1 : Nat) <= x.length /\ x.length <= 2 ^ Int.toNat (n - 1)) /\
 spks x) /\ ∀ (x_3 : LL), ((1 : Nat) <= x_3.length /\ x_3.length <= 2 ^ Int.toNat (n - 1)) /\ spks x_3 -> R6 (k + 1) /\ ∀ x5, x5 = k + 1 -> ((0 <= n - 1 /\ n - 1 <= 16) /\ (0 <= x5 /\ x5 <= 16 /\ 16 <= x5 + (n - 1)) /\ spk x_2.1 x_2.snd.1 x_2.snd.snd.1 x_2.snd.snd.snd.1 /\ spk v x s g /\ -1 <= d /\ d <= 1) /\ (∃ (x : LL), ((1 : Nat) <= x.length /\ x.length <= 2 ^ Int.toNat (n - 1)) /\ spks x) /\ ∀ (x : LL), ((1 : Nat) <= x.length /\ x.length <= 2 ^ Int.toNat (n - 1)) /\ spks x -> ((x_3.length + x.length) * 32 <= 140737488355328 /\ x_3.length + x.length <= maxLen) /\ Q ⟨.ce (.sl false [4, 4, 4, 4] (x_3 ++ x)), true, [], []⟩))) := by kernel_rfl
def SSpoke (hA : List HV) (pA : List (List HC)) : SR :=
 match hA, pA with
 | [.agg [.int .i64 u, .int .i64 w, .int .i64 r, .int .i64 h]], [] =>
  .all ((-512 <= u /\ u <= 512) /\ (-512 <= w /\ w <= 512) /\ (-256 <= h /\ h <= 256)) (Int × Int × Int × Int) (fun y => spk y.1 y.2.1 y.2.2.1 y.2.2.2) (fun y => ⟨.agg [I6 y.1, I6 y.2.1, I6 y.2.2.1, I6 y.2.2.2], false, [], []⟩)
 | _, _ => .fail
def tabSpoke : List (FuncId × HL.Spec) := [(132, SDot), (106, SRoot)]
noncomputable def CSpoke : Ctx := ⟨Tryz.prog, gam tabSpoke, Tryz.f146.ntmps, [], []⟩
theorem vcSpoke (u w r h : Int) (Q : Res -> Prop) : (nfun true CSpoke Tryz.f146 (bodyOf Tryz.f146) [.agg [I6 u, I6 w, I6 r, I6 h]] [] Q) =
 (R6 (u * 16) /\ ∀ x1, x1 = u * 16 -> R6 (w * 16) /\ ∀ x2, x2 = w * 16 -> R6 (h * 16) /\ ∀ x3, x3 = h * 16 -> ((-65536 <= x1 /\ x1 <= 65536) /\ (-65536 <= x2 /\ x2 <= 65536) /\ (-65536 <= x1 /\ x1 <= 65536) /\ -65536 <= x2 /\ x2 <= 65536) /\ (∃ (x : Int), x = x1 * x1 + x2 * x2 /\ -8589934592 <= x /\ x <= 8589934592) /\ ∀ x, x = x1 * x1 + x2 * x2 /\ -8589934592 <= x /\ x <= 8589934592 -> (0 <= x /\ x <= 1152921504606846976) /\ (∃ (x_1 : Int), 0 <= x_1 /\ x_1 * x_1 <= x /\ x < (x_1 + 1) * (x_1 + 1)) /\ ∀ (x_1 : Int), 0 <= x_1 /\ x_1 * x_1 <= x /\ x < (x_1 + 1) * (x_1 + 1) -> R6 (x_1 + 1) /\ ∀ x6, x6 = x_1 + 1 -> R6 (x_1 * x6) /\
 ∀ x7, x7 = x_1 * x6 -> Br (x7 < x) (R6 (x_1 + 1) /\ ∀ x8, x8 = x_1 + 1 -> Q ⟨.agg [I6 x1, I6 x2, I6 x8, I6 x3], false, [], []⟩) (Q ⟨.agg [I6 x1, I6 x2, I6 x_1, I6 x3], false, [], []⟩)) := by kernel_rfl
def SEnd1 (hA : List HV) (pA : List (List HC)) : SR :=
 match hA, pA with
 | [.agg [.int .i64 k0, .int .i64 bk, .int .i64 f0, .int .i64 f1, .int .i64 f2, .int .i64 t0, .int .i64 t1, .int .i64 t2, .int .i64 pl, .int .i64 c0, .int .i64 c1, .int .i64 c2, .int .i64 dr, .bool fu, .int .i64 fd, .bool pr, .int .i64 sd, .int .i64 ra, .int .i64 bl, .int .i64 nn, .int .i64 sp, .bool on]], [] =>
  .all (b3 256 f0 f1 f2 /\ b3 256 t0 t1 t2 /\ b3 256 c0 c1 c2) (Int × Int × Int × Int × Int × Int) (fun y => b3 512 y.1 y.2.1 y.2.2.2.1 /\ b3 512 y.2.2.2.2.1 y.2.2.2.2.1 y.2.2.2.2.1 /\ b3 256 y.2.2.1 y.2.2.2.2.2 0)
   (fun y => ⟨.tup [.agg [I6 y.1, I6 y.2.1, I6 0, I6 y.2.2.1], .agg [I6 y.2.2.2.1, I6 y.2.2.2.2.1, I6 0, I6 y.2.2.2.2.2]], false, [], []⟩)
 | _, _ => .fail
def tabEnd1 : List (FuncId × HL.Spec) := [(115, SPlane)]
noncomputable def CEnd1 : Ctx := ⟨Tryz.prog, gam tabEnd1, Tryz.f131.ntmps, [], []⟩
theorem vcEnd1 (k0 bk f0 f1 f2 t0 t1 t2 pl c0 c1 c2 dr fd sd ra bl nn sp : Int) (fu pr on : Bool) (Q : Res -> Prop) : (nfun true CEnd1 Tryz.f131 (bodyOf Tryz.f131) [.agg [I6 k0, I6 bk, I6 f0, I6 f1, I6 f2, I6 t0, I6 t1, I6 t2, I6 pl, I6 c0, I6 c1, I6 c2, I6 dr, .bool fu, I6 fd, .bool pr, I6 sd, I6 ra, I6 bl, I6 nn, I6 sp, .bool on]] [] Q) =
 (True /\ (∃ (x : Int × Int × Int), ∀ (B : Int), 0 <= B -> b3 B c0 c1 c2 -> b3 B x.1 x.snd.1 x.snd.2) /\ ∀ (x : Int × Int × Int), (∀ (B : Int), 0 <= B -> b3 B c0 c1 c2 -> b3 B x.1 x.snd.1 x.snd.2) -> True /\ (∃ (x : Int × Int × Int), ∀ (B : Int), 0 <= B -> b3 B f0 f1 f2 -> b3 B x.1 x.snd.1 x.snd.2) /\ ∀ (x_1 : Int × Int × Int), (∀ (B : Int), 0 <= B -> b3 B f0 f1 f2 -> b3 B x_1.1 x_1.snd.1 x_1.snd.2) -> True /\ (∃ (x : Int × Int × Int), ∀ (B : Int), 0 <= B -> b3 B t0 t1 t2 -> b3 B x.1 x.snd.1 x.snd.2) /\ ∀ (x_2 : Int × Int × Int), (∀ (B : Int), 0 <= B -> b3 B t0 t1 t2 -> b3 B x_2.1 x_2.snd.1 x_2.snd.2) -> R6 (x_1.1 - x.1) /\ ∀ x10, x10 = x_1.1 - x.1 -> R6 (x_1.snd.1 - x.snd.1) /\ ∀ x11, x11 = x_1.snd.1 - x.snd.1 -> R6 (x_2.1 - x.1) /\
 ∀ x12, x12 = x_2.1 - x.1 -> R6 (x_2.snd.1 - x.snd.1) /\ ∀ x13, x13 = x_2.snd.1 - x.snd.1 -> Q ⟨.tup [.agg [I6 x10, I6 x11, I6 0, I6 x_1.snd.2], .agg [I6 x12, I6 x13, I6 0, I6 x_2.snd.2]], false, [], []⟩) := by kernel_rfl
def SEnds (hA : List HV) (pA : List (List HC)) : SR :=
 match hA, pA with
 | [.agg [.int .i64 k0, .int .i64 bk, .int .i64 f0, .int .i64 f1, .int .i64 f2, .int .i64 t0, .int .i64 t1, .int .i64 t2, .int .i64 pl, .int .i64 c0, .int .i64 c1, .int .i64 c2, .int .i64 dr, .bool fu, .int .i64 fd, .bool pr, .int .i64 sd, .int .i64 ra, .int .i64 bl, .int .i64 nn, .int .i64 sp, .bool on]], [] =>
  .all (b3 256 f0 f1 f2 /\ b3 256 t0 t1 t2 /\ b3 256 c0 c1 c2) ((Int × Int × Int × Int) × Int × Int × Int × Int) (fun y => spk y.1.1 y.1.2.1 y.1.2.2.1 y.1.2.2.2 /\ spk y.2.1 y.2.2.1 y.2.2.2.1 y.2.2.2.2)
   (fun y => ⟨.tup [.agg [I6 y.1.1, I6 y.1.2.1, I6 y.1.2.2.1, I6 y.1.2.2.2], .agg [I6 y.2.1, I6 y.2.2.1, I6 y.2.2.2.1, I6 y.2.2.2.2]], false, [], []⟩)
 | _, _ => .fail
def tabEnds : List (FuncId × HL.Spec) := [(131, SEnd1), (146, SSpoke)]
noncomputable def CEnds : Ctx := ⟨Tryz.prog, gam tabEnds, Tryz.f135.ntmps, [], []⟩
theorem vcEnds (k0 bk f0 f1 f2 t0 t1 t2 pl c0 c1 c2 dr fd sd ra bl nn sp : Int) (fu pr on : Bool) (Q : Res -> Prop) : (nfun true CEnds Tryz.f135 (bodyOf Tryz.f135) [.agg [I6 k0, I6 bk, I6 f0, I6 f1, I6 f2, I6 t0, I6 t1, I6 t2, I6 pl, I6 c0, I6 c1, I6 c2, I6 dr, .bool fu, I6 fd, .bool pr, I6 sd, I6 ra, I6 bl, I6 nn, I6 sp, .bool on]] [] Q) =
 ((b3 256 f0 f1 f2 /\ b3 256 t0 t1 t2 /\ b3 256 c0 c1 c2) /\ (∃ (x : Int × Int × Int × Int × Int × Int), b3 512 x.1 x.snd.1 x.snd.snd.snd.1 /\ b3 512 x.snd.snd.snd.snd.1 x.snd.snd.snd.snd.1 x.snd.snd.snd.snd.1 /\ b3 256 x.snd.snd.1 x.snd.snd.snd.snd.2 (0 : Int)) /\ ∀ (x : Int × Int × Int × Int × Int × Int), b3 512 x.1 x.snd.1 x.snd.snd.snd.1 /\ b3 512 x.snd.snd.snd.snd.1 x.snd.snd.snd.snd.1 x.snd.snd.snd.snd.1 /\ b3 256 x.snd.snd.1 x.snd.snd.snd.snd.2 (0 : Int) -> (((-512 : Int) <= x.1 /\ x.1 <= 512) /\ ((-512 : Int) <= x.snd.1 /\ x.snd.1 <= 512) /\ (-256 : Int) <= x.snd.snd.1 /\ x.snd.snd.1 <= 256) /\ (∃ (x : Int × Int × Int × Int), spk x.1 x.snd.1 x.snd.snd.1 x.snd.snd.2) /\ ∀ (x_1 : Int × Int × Int × Int), spk x_1.1 x_1.snd.1 x_1.snd.snd.1 x_1.snd.snd.2 -> (((-512 : Int) <= x.snd.snd.snd.1 /\ x.snd.snd.snd.1 <= 512) /\ ((-512 : Int) <= x.snd.snd.snd.snd.1 /\
 x.snd.snd.snd.snd.1 <= 512) /\ (-256 : Int) <= x.snd.snd.snd.snd.2 /\ x.snd.snd.snd.snd.2 <= 256) /\ (∃ (x : Int × Int × Int × Int), spk x.1 x.snd.1 x.snd.snd.1 x.snd.snd.2) /\ ∀ (x : Int × Int × Int × Int), spk x.1 x.snd.1 x.snd.snd.1 x.snd.snd.2 -> Q ⟨.tup [.agg [I6 x_1.1, I6 x_1.snd.1, I6 x_1.snd.snd.1, I6 x_1.snd.snd.2], .agg [I6 x.1, I6 x.snd.1, I6 x.snd.snd.1, I6 x.snd.snd.2]], false, [], []⟩) := by kernel_rfl
end Go.Proofs.YtoekmphdpepdbaaGreat
namespace U
theorem midT {p q r s h g : Int} (hp : -24576 <= p /\ p <= 24576) (hq : -24576 <= q /\ q <= 24576) (hr : 0 <= r /\ r <= 12288) (hs : 0 <= s /\ s <= 12288) (hh : -4096 <= h /\ h <= 4096) (hg : -4096 <= g /\ g <= 4096)
 (nz : p ≠ 0 ∨ q ≠ 0) (G : Int -> Int -> Int -> Int -> Prop) (fin : ∀ a b c e, spk a b c e -> G a b c e) :
 (((-1073741824 : Int) <= r /\ r <= (1073741824 : Int)) /\ (-1073741824 : Int) <= s /\ s <= (1073741824 : Int)) /\ ∀ (x3 : Int), x3 = (r + s + (1 : Int)) / (2 : Int) -> ((-9223372036854775808 : Int) <= p * p /\ p * p <= (9223372036854775807 : Int)) /\
 ∀ (x4 : Int), x4 = p * p -> ((-9223372036854775808 : Int) <= q * q /\ q * q <= (9223372036854775807 : Int)) /\ ∀ (x5 : Int), x5 = q * q -> ((-9223372036854775808 : Int) <= x4 + x5 /\ x4 + x5 <= (9223372036854775807 : Int)) /\ ∀ (x6 : Int), x6 = x4 + x5 ->
 (((-65536 : Int) <= p /\ p <= (65536 : Int)) /\ ((0 : Int) <= x3 /\ x3 <= (65536 : Int)) /\ p * p <= x6 /\ (1 : Int) <= x6 /\ x6 <= (1099511627776 : Int)) /\ (∃ (x : Int), -x3 <= x /\ x <= x3) /\ ∀ (x : Int), -x3 <= x /\ x <= x3 ->
 (((-65536 : Int) <= q /\ q <= (65536 : Int)) /\ ((0 : Int) <= x3 /\ x3 <= (65536 : Int)) /\ q * q <= x6 /\ (1 : Int) <= x6 /\ x6 <= (1099511627776 : Int)) /\ (∃ (x : Int), -x3 <= x /\ x <= x3) /\ ∀ (x_1 : Int), -x3 <= x_1 /\ x_1 <= x3 ->
 (((-1073741824 : Int) <= h /\ h <= (1073741824 : Int)) /\ (-1073741824 : Int) <= g /\ g <= (1073741824 : Int)) /\ ∀ (x9 : Int), x9 = (h + g + (1 : Int)) / (2 : Int) -> G x x_1 x3 x9 := by
 have np := sq_nonneg p
 have nq := sq_nonneg q
 have mp := sq_bd hp.1 hp.2
 have mq := sq_bd hq.1 hq.2
 have pos : 1 <= p * p + q * q := by
  rcases nz with h0 | h0
  . have : p * p ≠ 0 := fun e => by rcases Int.mul_eq_zero.mp e with e | e <;> exact h0 e
    omega
  . have : q * q ≠ 0 := fun e => by rcases Int.mul_eq_zero.mp e with e | e <;> exact h0 e
    omega
 refine ⟨by omega, fun x3 e3 => ⟨by omega, ?_⟩⟩
 rintro _ rfl
 refine ⟨by omega, ?_⟩
 rintro _ rfl
 refine ⟨by omega, ?_⟩
 rintro _ rfl
 have ex : ∃ x : Int, -x3 <= x /\ x <= x3 := ⟨0, by omega⟩
 exact ⟨⟨by omega, by omega, by omega, by omega, by omega⟩, ex, fun x hx => ⟨⟨by omega, by omega, by omega, by omega, by omega⟩, ex, fun y hy => ⟨by omega, fun x9 e9 => fin _ _ _ _ (by unfold spk; omega)⟩⟩⟩
theorem spk_ex : ∃ y : Int × Int × Int × Int × Bool, spk y.1 y.2.1 y.2.2.1 y.2.2.2.1 := ⟨(0, 0, 0, 0, false), by unfold spk; decide⟩
theorem spk_ex4 : ∃ y : Int × Int × Int × Int, spk y.1 y.2.1 y.2.2.1 y.2.2.2 := ⟨(0, 0, 0, 0), by unfold spk; decide⟩
theorem prod_bd {a b : Int} (ha : -65536 <= a /\ a <= 65536) (hb : -65536 <= b /\ b <= 65536) : -4294967296 <= a * b /\ a * b <= 4294967296 := by
 rcases Int.lt_or_le a 0 with h | h
 . have := mul_abs (a := -a) (u := b) (M := 65536) (by omega) (by omega) (by omega)
   rw [Int.neg_mul] at this
   omega
 . have := mul_abs (a := a) (u := b) (M := 65536) h (by omega) (by omega)
   omega
theorem spks_app {a b : LL} (ha : spks a) (hb : spks b) : spks (a ++ b) := by
 intro j hj
 unfold ec
 by_cases h : j < a.length
 . have e : (a ++ b).getD j [] = a.getD j [] := by rw [List.getD_eq_getElem?_getD, List.getElem?_append_left h, <- List.getD_eq_getElem?_getD]
   rw [e]; exact ha j h
 . have e : (a ++ b).getD j [] = b.getD (j - a.length) [] := by rw [List.getD_eq_getElem?_getD, List.getElem?_append_right (by omega), <- List.getD_eq_getElem?_getD]
   rw [e]; exact hb _ (by rw [List.length_append] at hj; omega)
theorem spks_one {u w r h : Int} (hs : spk u w r h) : spks [[u, w, r, h]] := by
 intro j hj
 have : j = 0 := by simpa using hj
 subst this
 exact hs
end U
namespace Go.Proofs.YtoekmphdpepdbaaGreat
open Go Go.HL U
attribute [local irreducible] hfun bodyT fragT
theorem sFlat : Sound Tryz.prog 156 SFlat := by
 refine sound_of (C := CFlat) [] Tryz.func156 (by kernel_rfl) (by decide +kernel) (by kernel_rfl) rfl trivial (loops0 (by kernel_rfl)) ?_
 intro hA pA R h
 unfold SFlat at h
 split at h
 case h_2 => exfalso; exact h
 rename_i r s
 obtain ⟨hr, _, hR⟩ := h
 refine byVC (vcFlat r s R) ?_
 repeat' first | apply And.intro | (intro x) | omega | exact hR _ trivial
theorem sHalf : Sound Tryz.prog 157 SHalf := by
 refine sound_of (C := CHalf) [] Tryz.func157 (by kernel_rfl) (by decide +kernel) (by kernel_rfl) rfl trivial (loops0 (by kernel_rfl)) ?_
 intro hA pA R h
 unfold SHalf at h
 split at h
 case h_2 => exfalso; exact h
 rename_i a b
 obtain ⟨hb, hq⟩ := h
 refine byVC (vcHalf a b R) ⟨by omega, ?_⟩
 rintro _ rfl
 refine ⟨by omega, ?_⟩
 rintro _ rfl
 refine ⟨by decide, ?_⟩
 rintro _ rfl
 exact hq
theorem sDot : Sound Tryz.prog 132 SDot := by
 refine sound_of (C := CDot) [] Tryz.func132 (by kernel_rfl) (by decide +kernel) (by kernel_rfl) rfl trivial (loops0 (by kernel_rfl)) ?_
 intro hA pA R h
 unfold SDot at h
 split at h
 case h_2 => exfalso; exact h
 rename_i u w r h v x s g
 obtain ⟨⟨h1, h2, h3, h4⟩, _, hR⟩ := h
 have p1 := prod_bd h1 h3
 have p2 := prod_bd h2 h4
 refine byVC (vcDot u w r h v x s g R) ⟨by omega, ?_⟩
 rintro _ rfl
 refine ⟨by omega, ?_⟩
 rintro _ rfl
 refine ⟨by omega, ?_⟩
 rintro _ rfl
 exact hR _ ⟨rfl, by omega, by omega⟩
theorem sCross : Sound Tryz.prog 134 SCross := by
 refine sound_of (C := CCross) [] Tryz.func134 (by kernel_rfl) (by decide +kernel) (by kernel_rfl) rfl trivial (loops0 (by kernel_rfl)) ?_
 intro hA pA R h
 unfold SCross at h
 split at h
 case h_2 => exfalso; exact h
 rename_i u w r h v x s g
 obtain ⟨⟨h1, h2, h3, h4⟩, _, hR⟩ := h
 have p1 := prod_bd h1 h4
 have p2 := prod_bd h2 h3
 refine byVC (vcCross u w r h v x s g R) ⟨by omega, ?_⟩
 rintro _ rfl
 refine ⟨by omega, ?_⟩
 rintro _ rfl
 refine ⟨by omega, ?_⟩
 rintro _ rfl
 exact hR _ ⟨rfl, by omega, by omega⟩
set_option maxHeartbeats 1000000 in
theorem fragMc : ∀ v Q, (LMc v).wp Q -> fragT CMiddle anMc (nthFrag CMiddle Tryz.f148 0) v Q := by
 intro v Q hh
 unfold LMc at hh
 split at hh
 case h_2 => exact hh.elim
 rename_i d z p q f u w r h v x s g z0 z1 z2 z3
 obtain ⟨⟨ha, hb, hd⟩, hq⟩ := hh
 obtain ⟨a1, a2, a3, a4⟩ := ha
 obtain ⟨b1, b2, b3, b4⟩ := hb
 have p1 := prod_bd (a := u) (b := v) (by omega) (by omega)
 have p2 := prod_bd (a := w) (b := x) (by omega) (by omega)
 have p3 := prod_bd (a := u) (b := x) (by omega) (by omega)
 have p4 := prod_bd (a := w) (b := v) (by omega) (by omega)
 have b4' : (-65536 <= u /\ u <= 65536) /\ (-65536 <= w /\ w <= 65536) /\ (-65536 <= v /\ v <= 65536) /\ (-65536 <= x /\ x <= 65536) := by omega
 have d3 : d = -1 ∨ d = 0 ∨ d = 1 := by omega
 have dm : ∀ e : Int, (-8589934592 <= e /\ e <= 8589934592) -> -8589934592 <= e * d /\ e * d <= 8589934592 := fun e he => by rcases d3 with rfl | rfl | rfl <;> omega
 have dm2 : ∀ e : Int, (-24576 <= e /\ e <= 24576) -> -24576 <= d * e /\ d * e <= 24576 := fun e he => by rcases d3 with rfl | rfl | rfl <;> omega
 have dotE : ∃ y : Int, y = u * v + w * x /\ -8589934592 <= y /\ y <= 8589934592 := ⟨_, rfl, by omega, by omega⟩
 have crE : ∃ y : Int, y = u * x - w * v /\ -8589934592 <= y /\ y <= 8589934592 := ⟨_, rfl, by omega, by omega⟩
 have tail : ∀ p q : Int, (-24576 <= p /\ p <= 24576) -> (-24576 <= q /\ q <= 24576) -> _ := fun p q hp hq' => hq (p, q) ⟨hp, hq'⟩
 refine byVG (vgMc u w r h v x s g z0 z1 z2 z3 d p q z f Q) ?_
 refine ⟨fun _ => ⟨by omega, fun x1 e1 => ⟨by omega, fun x2 e2 => tail x1 x2 (by omega) (by omega)⟩⟩, fun _ => ⟨b4', dotE, fun y hy => ⟨fun _ => ⟨b4', crE, fun c hc => ⟨by have := dm c hc.2; omega, fun x19 e19 => ⟨fun _ => ⟨by omega, fun x20 e20 => ⟨by omega, fun x21 e21 => tail x20 x21 (by omega) (by omega)⟩⟩, fun _ => ?_⟩⟩⟩, fun _ => ?_⟩⟩⟩
 all_goals
  refine ⟨b4', dotE, fun y2 hy2 => ⟨fun _ => ⟨by omega, fun x37 e37 => ⟨by omega, fun x38 e38 => ⟨by omega, fun x39 e39 => ⟨by omega, fun x40 e40 => tail x38 x40 (by omega) (by omega)⟩⟩⟩⟩, fun _ => ⟨by omega, fun y3 e3 => ?_⟩⟩⟩
  have m3 := dm2 y3 (by omega)
  refine ⟨by omega, fun y4 e4 => ⟨by omega, fun y5 e5 => ?_⟩⟩
  have m5 := dm2 y5 (by omega)
  exact ⟨by omega, fun y6 e6 => tail y4 y6 (by omega) (by omega)⟩
theorem fragMe : ∀ v Q, (LMe v).wp Q -> fragT CMiddle anMe (nthFrag CMiddle Tryz.f148 1) v Q := by
 intro v Q hh
 unfold LMe at hh
 split at hh
 case h_2 => exact hh.elim
 rename_i z p q u w r h v x s g z0 z1 z2 z3
 obtain ⟨_, hq⟩ := hh
 refine byVG (vgMe u w r h v x s g z0 z1 z2 z3 p q z Q) ⟨fun _ => hq _ fun e => .inr (by simpa using e), fun e => hq false fun _ => .inl (by simpa using e)⟩
theorem sMiddle : Sound Tryz.prog 148 SMiddle := by
 refine sound_of (C := CMiddle) tabMiddle Tryz.func148 (by kernel_rfl) (by decide +kernel) (by kernel_rfl) rfl ⟨sDot, sCross, sHalf, sNear, trivial⟩ (loopsG [] [nthFrag CMiddle Tryz.f148 0, nthFrag CMiddle Tryz.f148 1] (by kernel_rfl) (by kernel_rfl) trivial ⟨fragOK_of (an := anMc) (S := LMc) (by kernel_rfl) fragMc, fragOK_of (an := anMe) (S := LMe) (by kernel_rfl) fragMe, trivial⟩) ?_
 intro hA pA R h
 unfold SMiddle at h
 split at h
 case h_2 => exfalso; exact h
 rename_i u w r h v x s g d f
 obtain ⟨⟨ha, hb, hd⟩, _, hR⟩ := h
 have z : R ⟨.tup [.agg [I6 0, I6 0, I6 0, I6 0], .ce (.bool false)], false, [], []⟩ := hR (0, 0, 0, 0, false) (by show spk 0 0 0 0; unfold spk; decide)
 have fin : ∀ a b c e, spk a b c e -> R ⟨.tup [.agg [I6 a, I6 b, I6 c, I6 e], .ce (.bool true)], false, [], []⟩ := fun a b c e hs => hR (a, b, c, e, true) hs
 refine byVC (vcMiddle u w r h v x s g d f R) ⟨fun _ => ⟨fun _ => z, fun _ => ?_⟩, fun _ => ?_⟩
 all_goals
  refine ⟨⟨ha, hb, hd⟩, fun y hy => ⟨trivial, fun b hbb => ⟨fun _ => z, fun e => ?_⟩⟩⟩
  exact midT hy.1 hy.2 ha.2.2.1 hb.2.2.1 ha.2.2.2 hb.2.2.2 (hbb e) _ fin
theorem sSettled : Sound Tryz.prog 147 SSettled := by
 refine sound_of (C := CSettled) tabSettled Tryz.func147 (by kernel_rfl) (by decide +kernel) (by kernel_rfl) rfl ⟨sCross, sFlat, trivial⟩ (loops0 (by kernel_rfl)) ?_
 intro hA pA R h
 unfold SSettled at h
 split at h
 case h_2 => exfalso; exact h
 rename_i u w r h v x s g d f
 obtain ⟨⟨ha, hb, hd⟩, _, hR⟩ := h
 obtain ⟨a1, a2, a3, a4⟩ := ha
 obtain ⟨b1, b2, b3, b4⟩ := hb
 have p3 := prod_bd (a := u) (b := x) (by omega) (by omega)
 have p4 := prod_bd (a := w) (b := v) (by omega) (by omega)
 have d3 : d = -1 ∨ d = 0 ∨ d = 1 := by omega
 have dm : ∀ e : Int, (-8589934592 <= e /\ e <= 8589934592) -> -8589934592 <= e * d /\ e * d <= 8589934592 := fun e he => by rcases d3 with rfl | rfl | rfl <;> omega
 have q1 := prod_bd (a := u - v) (b := u - v) (by omega) (by omega)
 have q2 := prod_bd (a := w - x) (b := w - x) (by omega) (by omega)
 refine byVC (vcSettled u w r h v x s g d f R) ⟨fun _ => ⟨by omega, ⟨_, rfl, by omega, by omega⟩, fun c hc => ⟨by have := dm c hc.2; omega, fun x2 e2 => ⟨fun _ => ?_, fun _ => hR _ trivial⟩⟩⟩, fun _ => hR _ trivial⟩
 intro x3 e3
 refine ⟨by omega, ?_⟩
 rintro _ rfl
 refine ⟨by omega, ?_⟩
 rintro _ rfl
 refine ⟨by omega, fun x6 e6 => ⟨by omega, ?_⟩⟩
 rintro _ rfl
 refine ⟨by omega, ?_⟩
 rintro _ rfl
 exact ⟨by omega, fun x9 e9 => ⟨by omega, fun x10 e10 => ⟨by omega, ⟨true, trivial⟩, fun y _ => hR y trivial⟩⟩⟩
noncomputable def CPcs0 : Ctx := ⟨Tryz.prog, gam [], Tryz.f136.ntmps, [], []⟩
theorem sPcs_neg {n : Int} (hn : n < 0) : Sound Tryz.prog 136 (SPcs n) := by
 refine sound_of (C := CPcs0) [] Tryz.func136 (by kernel_rfl) (by decide +kernel) (by kernel_rfl) rfl trivial (loops0 (by kernel_rfl)) ?_
 intro hA pA R h
 unfold SPcs at h
 split at h
 . exact absurd h.1.1.1 (by omega)
 . exact h.elim
theorem two_pow_step {n : Int} (h1 : 1 <= n) (h2 : n <= 16) {a b : Nat} (ha : a <= 2 ^ (n - 1).toNat) (hb : b <= 2 ^ (n - 1).toNat) : a + b <= 2 ^ n.toNat /\ a + b <= 65536 := by
 have e : n.toNat = (n - 1).toNat + 1 := by omega
 have h3 : 2 ^ n.toNat <= 2 ^ 16 := Nat.pow_le_pow_right (by decide) (by omega)
 have h4 : 2 ^ n.toNat = 2 ^ (n - 1).toNat * 2 := by rw [e, Nat.pow_succ]
 omega
theorem sPcs_step (n : Int) (ih : Sound Tryz.prog 136 (SPcs (n - 1))) : Sound Tryz.prog 136 (SPcs n) := by
 refine sound_of (C := CPcs n) (tabPcs n) Tryz.func136 (by kernel_rfl) (by decide +kernel) (by kernel_rfl) rfl ⟨sSettled, sMiddle, ih, trivial⟩ (loops0 (by kernel_rfl)) ?_
 intro hA pA R h
 unfold SPcs at h
 split at h
 case h_2 => exact h.elim
 rename_i u w r h' v x s g d f k
 obtain ⟨⟨hn, hk, ha, hb, hd⟩, _, hR⟩ := h
 have one : R ⟨.ce (.sl false [4, 4, 4, 4] [[v, x, s, g]]), true, [], []⟩ := hR [[v, x, s, g]] ⟨⟨Nat.le_refl 1, Nat.one_le_two_pow⟩, spks_one hb⟩
 have ex : ∀ m : Nat, ∃ y : LL, (1 <= y.length /\ y.length <= 2 ^ m) /\ spks y := fun m => ⟨[[v, x, s, g]], ⟨Nat.le_refl 1, Nat.one_le_two_pow⟩, spks_one hb⟩
 refine byVC (vcPcs n u w r h' v x s g d k f R) ⟨fun _ => one, fun g1 => ⟨⟨ha, hb, hd⟩, ⟨true, trivial⟩, fun y _ => ⟨fun _ => one, fun _ => ⟨⟨ha, hb, hd⟩, spk_ex, fun m hm => ?_⟩⟩⟩⟩
 have g1 := odf g1
 refine ⟨by omega, fun x3 e3 => ⟨⟨⟨by omega, by omega⟩, ⟨by omega, by omega, by omega⟩, ha, hm, hd⟩, ex _, fun l1 hl1 => ⟨by omega, fun x5 e5 => ⟨⟨⟨by omega, by omega⟩, ⟨by omega, by omega, by omega⟩, hm, hb, hd⟩, ex _, fun l2 hl2 => ?_⟩⟩⟩⟩
 have ll := two_pow_step (by omega) hn.2 hl1.1.2 hl2.1.2
 refine ⟨⟨by omega, by unfold maxLen; omega⟩, hR (l1 ++ l2) ⟨⟨?_, ?_⟩, spks_app hl1.2 hl2.2⟩⟩
 . rw [List.length_append]; have := hl1.1.1; omega
 . rw [List.length_append]; exact ll.1
theorem sPcsN : ∀ k : Nat, Sound Tryz.prog 136 (SPcs ((k : Int) - 1))
 | 0 => sPcs_neg (by decide)
 | k + 1 => sPcs_step _ (by have := sPcsN k; rw [show ((k + 1 : Nat) : Int) - 1 - 1 = (k : Int) - 1 by omega]; exact this)
theorem sPcs16 : Sound Tryz.prog 136 (SPcs 16) := sPcsN 17
theorem sSpoke : Sound Tryz.prog 146 SSpoke := by
 refine sound_of (C := CSpoke) tabSpoke Tryz.func146 (by kernel_rfl) (by decide +kernel) (by kernel_rfl) rfl ⟨sDot, sRoot, trivial⟩ (loops0 (by kernel_rfl)) ?_
 intro hA pA R h
 unfold SSpoke at h
 split at h
 case h_2 => exfalso; exact h
 rename_i u w r h
 rename _ /\ _ => H
 obtain ⟨⟨hu, hw, hh⟩, _, hR⟩ := H
 refine byVC (vcSpoke u w r h R) ⟨by omega, fun x1 e1 => ⟨by omega, fun x2 e2 => ⟨by omega, fun x3 e3 => ?_⟩⟩⟩
 have s1 := sq_bd (a := x1) (D := 8192) (by omega) (by omega)
 have s2 := sq_bd (a := x2) (D := 8192) (by omega) (by omega)
 have n1 := sq_nonneg x1
 have n2 := sq_nonneg x2
 refine ⟨by omega, ⟨_, rfl, by omega, by omega⟩, fun n hn => ⟨by omega, isqrt_exI (by omega), fun y hy => ?_⟩⟩
 obtain ⟨y1, y2, y3⟩ := hy
 have yb : y <= 12000 := sq_le y1 (by decide) (by omega)
 have yy := mulbd y1 yb (show 0 <= y + 1 by omega) (show y + 1 <= 12001 by omega)
 refine ⟨by omega, ?_⟩
 rintro _ rfl
 refine ⟨by omega, fun x7 e7 => ⟨fun _ => ⟨by omega, fun x8 e8 => hR (x1, x2, x8, x3) ?_⟩, fun _ => hR (x1, x2, y, x3) ?_⟩⟩
 . show spk x1 x2 x8 x3; unfold spk; omega
 . show spk x1 x2 y x3; unfold spk; omega
theorem sEnd1 : Sound Tryz.prog 131 SEnd1 := by
 refine sound_of (C := CEnd1) tabEnd1 Tryz.func131 (by kernel_rfl) (by decide +kernel) (by kernel_rfl) rfl ⟨sPlane, trivial⟩ (loops0 (by kernel_rfl)) ?_
 intro hA pA R h
 unfold SEnd1 at h
 split at h
 case h_2 => exfalso; exact h
 rename_i k0 bk f0 f1 f2 t0 t1 t2 pl c0 c1 c2 dr fu fd pr sd ra bl nn sp on
 obtain ⟨⟨hf, ht, hc⟩, _, hR⟩ := h
 have ex : ∀ a b c : Int, ∃ x : Int × Int × Int, ∀ B : Int, 0 <= B -> b3 B a b c -> b3 B x.1 x.2.1 x.2.2 := fun a b c => ⟨(a, b, c), fun B _ h => h⟩
 refine byVC (vcEnd1 k0 bk f0 f1 f2 t0 t1 t2 pl c0 c1 c2 dr fd sd ra bl nn sp fu pr on R) ⟨trivial, ex _ _ _, fun x hx => ⟨trivial, ex _ _ _, fun y hy => ⟨trivial, ex _ _ _, fun z hz => ?_⟩⟩⟩
 have hx := hx 256 (by decide) hc
 have hy := hy 256 (by decide) hf
 have hz := hz 256 (by decide) ht
 unfold b3 at hx hy hz
 refine ⟨by omega, fun x10 e10 => ⟨by omega, fun x11 e11 => ⟨by omega, fun x12 e12 => ⟨by omega, fun x13 e13 => hR (x10, x11, y.2.2, x12, x13, z.2.2) ?_⟩⟩⟩⟩
 dsimp only
 unfold b3
 omega
theorem sEnds : Sound Tryz.prog 135 SEnds := by
 refine sound_of (C := CEnds) tabEnds Tryz.func135 (by kernel_rfl) (by decide +kernel) (by kernel_rfl) rfl ⟨sEnd1, sSpoke, trivial⟩ (loops0 (by kernel_rfl)) ?_
 intro hA pA R h
 unfold SEnds at h
 split at h
 case h_2 => exfalso; exact h
 rename_i k0 bk f0 f1 f2 t0 t1 t2 pl c0 c1 c2 dr fu fd pr sd ra bl nn sp on
 obtain ⟨⟨hf, ht, hc⟩, _, hR⟩ := h
 refine byVC (vcEnds k0 bk f0 f1 f2 t0 t1 t2 pl c0 c1 c2 dr fd sd ra bl nn sp fu pr on R) ⟨⟨hf, ht, hc⟩, ⟨(0, 0, 0, 0, 0, 0), by unfold b3; decide⟩, fun x hx => ?_⟩
 unfold b3 at hx
 exact ⟨by omega, spk_ex4, fun y hy => ⟨by omega, spk_ex4, fun z hz => hR (y, z) ⟨hy, hz⟩⟩⟩
end Go.Proofs.YtoekmphdpepdbaaGreat
namespace U
open Go
def lim (n : Nat) : LL := if n = 0 then [] else [((n % 65536 : Nat) : Int)] :: lim (n / 65536)
termination_by n
decreasing_by omega
def dv : LL -> Nat
 | [] => 0
 | r :: l => (r.getD 0 0).toNat + 65536 * dv l
def dg (l : LL) : Prop := ∀ r ∈ l, ∃ d : Int, r = [d] /\ 0 <= d /\ d < 65536
def cmp3 (x y : Nat) : Int := if x < y then -1 else if x = y then 0 else 1
end U
namespace Go.Proofs.YtoekmphdpepdbaaGreat
open Go Go.HL U
def SLimbs (hA : List HV) (pA : List (List HC)) : SR :=
 match hA, pA with
 | [.ce (.int .u64 n)], [] => .det (0 <= n /\ n < 18446744073709551616) ⟨.ce (.sl false [8] (lim n.toNat)), true, [], []⟩
 | _, _ => .fail
def anLimbs : LAnn := ⟨[0, 3, 100003], [3, 100003], [], false⟩
def LLimbs (v : LV) : LR :=
 match v with
 | ([.ce (.int .u64 n), .ce (.sl false [8] acc), .ce (.lit true)], []) =>
  .det (acc.length = 0 /\ 0 <= n /\ n < 18446744073709551616) (.exit 0) ([.ce (.sl false [8] (lim n.toNat)), .ce (.lit true)], [])
 | _ => .fail
noncomputable def CLimbs : Ctx := ⟨Tryz.prog, gam [], Tryz.f154.ntmps, [(2, anLimbs, LLimbs)], []⟩
theorem vcLimbs (n : Int) (Q : Res -> Prop) : (nfun true CLimbs Tryz.f154 (bodyOf Tryz.f154) [.ce (.int .u64 n)] [] Q) =
 (((0 : Nat) = 0 /\ 0 <= n /\ n < 18446744073709551616) /\ Q ⟨.ce (.sl false [8] (lim n.toNat)), true, [], []⟩) := by kernel_rfl
theorem vbLimbs (n : Int) (acc : LL) (K : HEx -> LV -> Prop) : (nbodyT true CLimbs anLimbs (nthLoop Tryz.f154 0) (([.ce (.int .u64 n), .ce (.sl false [8] acc), .ce (.lit true)], [])) K) =
 (Br (n > 0) ((0 <= n /\ n <= 18446744073709551615 /\ (65535 : Int) <= 18446744073709551615) /\ ∀ x1, x1 = n % 65536 -> ((acc.length + 1) * 8 <= 140737488355328 /\ acc.length + 1 <= maxLen) /\ (0 : Int) <= 16 /\ ∀ x2, x2 = n / 65536 -> K .normal ([.ce (.int .u64 x2), .ce (.sl false [8] (acc ++ [[x1]])), .ce (.lit true)], [])) (K (.exit 0) ([.ce (.sl false [8] acc), .ce (.lit true)], []))) := by kernel_rfl
def SCut (hA : List HV) (pA : List (List HC)) : SR :=
 match hA, pA with
 | [.ce (.sl false [8] l)], [] => .det (dg l /\ l.length <= 1000) ⟨.ce (.sl false [8] (lim (dv l))), false, [], []⟩
 | _, _ => .fail
def anCut : LAnn := ⟨[0], [0], [], false⟩
def LCut (v : LV) : LR :=
 match v with
 | ([.ce (.sl false [8] l)], []) => .det (dg l /\ l.length <= 1000) (.exit 0) ([.ce (.sl false [8] (lim (dv l)))], [])
 | _ => .fail
noncomputable def CCut : Ctx := ⟨Tryz.prog, gam [], Tryz.f161.ntmps, [(1, anCut, LCut)], []⟩
theorem vcCut (l : LL) (Q : Res -> Prop) : (nfun true CCut Tryz.f161 (bodyOf Tryz.f161) [.ce (.sl false [8] l)] [] Q) =
 ((dg l /\ l.length <= 1000) /\ Q ⟨.ce (.sl false [8] (lim (dv l))), false, [], []⟩) := by kernel_rfl
theorem vbCut (l : LL) (K : HEx -> LV -> Prop) : (nbodyT true CCut anCut (nthLoop Tryz.f161 0) (([.ce (.sl false [8] l)], [])) K) =
 (Br ((l.length : Int) > 0) (R6 ((l.length : Int) - 1) /\ ∀ x1, x1 = (l.length : Int) - 1 -> (0 <= x1 /\ x1 < (l.length : Int)) /\ ∀ x2, x2 = el l x1.toNat -> Bb (x2 == 0) (R6 ((l.length : Int) - 1) /\ ∀ x3, x3 = (l.length : Int) - 1 -> (0 <= x3 /\ x3 <= (l.length : Int)) /\ K .normal ([.ce (.sl false [8] (List.take x3.toNat l))], [])) (K (.exit 0) ([.ce (.sl false [8] l)], []))) (K (.exit 0) ([.ce (.sl false [8] l)], []))) := by kernel_rfl
def SMag (hA : List HV) (pA : List (List HC)) : SR :=
 match hA, pA with
 | [.ce (.int .i64 x)], [] => .det (-9223372036854775808 <= x /\ x <= 9223372036854775807) ⟨.ce (.int .u64 (x.natAbs : Int)), false, [], []⟩
 | _, _ => .fail
noncomputable def CMag : Ctx := ⟨Tryz.prog, gam [], Tryz.f155.ntmps, [], []⟩
theorem vcMag (x : Int) (Q : Res -> Prop) : (nfun true CMag Tryz.f155 (bodyOf Tryz.f155) [.ce (I6 x)] [] Q) =
 (Br (x < 0) (R6 (x + 1) /\ ∀ x1, x1 = x + 1 -> R6 (0 - x1) /\ ∀ x2, x2 = 0 - x1 -> ∀ x3, x3 = x2 % 18446744073709551616 -> ∀ x4, x4 = (x3 + 1) % 18446744073709551616 -> Q ⟨.ce (.int .u64 x4), false, [], []⟩) (∀ x5, x5 = x % 18446744073709551616 -> Q ⟨.ce (.int .u64 x5), false, [], []⟩)) := by kernel_rfl
def SSgn (hA : List HV) (pA : List (List HC)) : SR :=
 match hA, pA with
 | [.ce (.int .i64 x), .ce (.int .i64 y)], [] => .det True ⟨.ce (I6 (x.sign * y.sign)), false, [], []⟩
 | _, _ => .fail
noncomputable def CSgn : Ctx := ⟨Tryz.prog, gam [], Tryz.f143.ntmps, [], []⟩
theorem vcSgn (x y : Int) (Q : Res -> Prop) : (nfun true CSgn Tryz.f143 (bodyOf Tryz.f143) [.ce (I6 x), .ce (I6 y)] [] Q) =
 (Bb (x == 0) (Q ⟨.ce (I6 0), false, [], []⟩) (Bb (y == 0) (Q ⟨.ce (I6 0), false, [], []⟩) (Bb (decide (x < 0) == decide (y < 0)) (Q ⟨.ce (I6 1), false, [], []⟩) (Q ⟨.ce (I6 (-1)), false, [], []⟩)))) := by kernel_rfl
def SCmp (hA : List HV) (pA : List (List HC)) : SR :=
 match hA, pA with
 | [.ce (.sl false [8] a), .ce (.sl false [8] b)], [] => .det (a = lim (dv a) /\ b = lim (dv b) /\ a.length <= 1000 /\ b.length <= 1000) ⟨.ce (I6 (cmp3 (dv a) (dv b))), false, [], []⟩
 | _, _ => .fail
def anCmp : LAnn := ⟨[0, 1, 4, 5], [4], [], false⟩
def LCmp (v : LV) : LR :=
 match v with
 | ([.ce (.sl false [8] a), .ce (.sl false [8] b), .ce (.int .i64 r), .ce (.int .i64 k)], []) =>
  .alts (dg a /\ dg b /\ a.length = b.length /\ k = (a.length : Int) - 1 /\ a.length <= 1000)
   [(dv a = dv b, .exit 0, ([.ce (I6 r)], [])), (dv a ≠ dv b, .ret, ([.ce (I6 (cmp3 (dv a) (dv b)))], []))]
 | _ => .fail
noncomputable def CCmp : Ctx := ⟨Tryz.prog, gam [], Tryz.f144.ntmps, [(6, anCmp, LCmp)], []⟩
theorem vcCmp (a b : LL) (Q : Res -> Prop) : (nfun true CCmp Tryz.f144 (bodyOf Tryz.f144) [.ce (.sl false [8] a), .ce (.sl false [8] b)] [] Q) =
 (Bb ((a.length : Int) != (b.length : Int)) (Br ((a.length : Int) < (b.length : Int)) (Q ⟨.ce (I6 (-1)), false, [], []⟩) (Q ⟨.ce (I6 1), false, [], []⟩)) (R6 ((a.length : Int) - 1) /\ ∀ x1, x1 = (a.length : Int) - 1 -> (dg a /\ dg b /\ a.length = b.length /\ x1 = (a.length : Int) - 1 /\ a.length <= 1000) /\ (dv a = dv b -> Q ⟨.ce (I6 0), false, [], []⟩) /\ (dv a ≠ dv b -> Q ⟨.ce (I6 (cmp3 (dv a) (dv b))), false, [], []⟩))) := by kernel_rfl
theorem vbCmp (a b : LL) (r k : Int) (K : HEx -> LV -> Prop) : (nbodyT true CCmp anCmp (nthLoop Tryz.f144 0) (([.ce (.sl false [8] a), .ce (.sl false [8] b), .ce (I6 r), .ce (I6 k)], [])) K) =
 (Br (k >= 0) ((0 <= k /\ k < (a.length : Int)) /\ ∀ x1, x1 = el a k.toNat -> (0 <= k /\ k < (b.length : Int)) /\ ∀ x2, x2 = el b k.toNat -> Br (x1 < x2) (K .ret ([.ce (I6 (-1))], [])) ((0 <= k /\ k < (a.length : Int)) /\ ∀ x3, x3 = el a k.toNat -> (0 <= k /\ k < (b.length : Int)) /\ ∀ x4, x4 = el b k.toNat -> Br (x3 > x4) (K .ret ([.ce (I6 1)], [])) (R6 (k - 1) /\ ∀ x5, x5 = k - 1 -> K .normal ([.ce (.sl false [8] a), .ce (.sl false [8] b), .ce (I6 r), .ce (I6 x5)], [])))) (K (.exit 0) ([.ce (I6 r)], []))) := by kernel_rfl
end Go.Proofs.YtoekmphdpepdbaaGreat
namespace U
open Go
theorem lim_zero : lim 0 = [] := by unfold lim; rfl
theorem lim_pos {n : Nat} (h : n ≠ 0) : lim n = [((n % 65536 : Nat) : Int)] :: lim (n / 65536) := by rw [lim]; rw [if_neg h]
theorem dv_lim (n : Nat) : dv (lim n) = n := by
 induction n using Nat.strongRecOn with
 | ind n ih =>
  by_cases h : n = 0
  . subst h; rw [lim_zero]; rfl
  . rw [lim_pos h]
    show (((n % 65536 : Nat) : Int)).toNat + 65536 * dv (lim (n / 65536)) = n
    rw [ih _ (by omega)]
    omega
theorem dg_lim (n : Nat) : dg (lim n) := by
 induction n using Nat.strongRecOn with
 | ind n ih =>
  by_cases h : n = 0
  . subst h; rw [lim_zero]; intro r hr; cases hr
  . rw [lim_pos h]
    intro r hr
    rcases List.mem_cons.1 hr with rfl | hr
    . exact ⟨_, rfl, by omega, by omega⟩
    . exact ih _ (by omega) r hr
theorem lim_len : ∀ (k n : Nat), n < 65536 ^ k -> (lim n).length <= k
 | 0, n, h => by
  have : n = 0 := by simpa using h
  subst this; rw [lim_zero]; exact Nat.le_refl _
 | k + 1, n, h => by
  by_cases h0 : n = 0
  . subst h0; rw [lim_zero]; exact Nat.zero_le _
  . rw [lim_pos h0]
    have : n / 65536 < 65536 ^ k := by
     rw [Nat.pow_succ] at h
     exact Nat.div_lt_of_lt_mul (by rw [Nat.mul_comm]; exact h)
    have := lim_len k _ this
    simpa using this
theorem lim_low (n : Nat) (h : n ≠ 0) : 65536 ^ ((lim n).length - 1) <= n := by
 induction n using Nat.strongRecOn with
 | ind n ih =>
  rw [lim_pos h]
  by_cases h0 : n / 65536 = 0
  . rw [h0, lim_zero]; simp; omega
  . have := ih _ (by omega) h0
    rw [List.length_cons, Nat.add_sub_cancel]
    have hl : (lim (n / 65536)).length = ((lim (n / 65536)).length - 1) + 1 := by
     rw [lim_pos h0]; simp
    rw [hl, Nat.pow_succ]
    omega
theorem dv_append (a b : LL) : dv (a ++ b) = dv a + 65536 ^ a.length * dv b := by
 induction a with
 | nil => simp [dv]
 | cons r a ih =>
  show (r.getD 0 0).toNat + 65536 * dv (a ++ b) = (r.getD 0 0).toNat + 65536 * dv a + 65536 ^ (a.length + 1) * dv b
  rw [ih, Nat.pow_succ]
  grind
theorem dg_cons {r : List Int} {l : LL} (h : dg (r :: l)) : (∃ d : Int, r = [d] /\ 0 <= d /\ d < 65536) /\ dg l := ⟨h r (by simp), fun x hx => h x (List.mem_cons_of_mem _ hx)⟩
theorem dg_take {l : LL} (h : dg l) (k : Nat) : dg (l.take k) := fun r hr => h r (List.mem_of_mem_take hr)
theorem dv_lt {l : LL} (h : dg l) : dv l < 65536 ^ l.length := by
 induction l with
 | nil => simp [dv]
 | cons r l ih =>
  obtain ⟨⟨d, rfl, h0, h1⟩, hl⟩ := dg_cons h
  have := ih hl
  show (([d] : List Int).getD 0 0).toNat + 65536 * dv l < 65536 ^ (l.length + 1)
  have e : (([d] : List Int).getD 0 0) = d := rfl
  rw [e, Nat.pow_succ]
  omega
theorem el_dg {l : LL} (h : dg l) {j : Nat} (hj : j < l.length) : 0 <= el l j /\ el l j < 65536 /\ l.getD j [] = [el l j] := by
 obtain ⟨d, hd, h0, h1⟩ := h (l[j]) (List.getElem_mem hj)
 have e : l.getD j [] = [d] := by simp [List.getD_eq_getElem?_getD, hj, hd]
 have e2 : el l j = d := by unfold el; rw [e]; rfl
 rw [e2]
 exact ⟨h0, h1, e⟩
theorem dv_drop {l : LL} {j : Nat} (hj : j < l.length) : dv (l.drop j) = (el l j).toNat + 65536 * dv (l.drop (j + 1)) := by
 rw [List.drop_eq_getElem_cons hj]
 have : el l j = (l[j]).getD 0 0 := by unfold el; simp [List.getD_eq_getElem?_getD, hj]
 rw [this]; rfl
theorem dv_split (l : LL) {j : Nat} (hj : j <= l.length) : dv l = dv (l.take j) + 65536 ^ j * dv (l.drop j) := by
 have h := dv_append (l.take j) (l.drop j)
 rw [List.take_append_drop] at h
 rw [h, List.length_take, Nat.min_eq_left hj]
theorem dv_take_succ {l : LL} {j : Nat} (hj : j < l.length) : dv (l.take (j + 1)) = dv (l.take j) + 65536 ^ j * (el l j).toNat := by
 have h1 := dv_split l (Nat.le_of_lt hj)
 have h2 := dv_split l (show j + 1 <= l.length from hj)
 rw [dv_drop hj] at h1
 rw [Nat.pow_succ] at h2
 have : 65536 ^ j * ((el l j).toNat + 65536 * dv (l.drop (j + 1))) = 65536 ^ j * (el l j).toNat + 65536 ^ j * 65536 * dv (l.drop (j + 1)) := by grind
 omega
theorem lim_of {l : LL} (h : dg l) : (l = [] ∨ el l (l.length - 1) ≠ 0) -> lim (dv l) = l := by
 induction l with
 | nil => intro _; exact lim_zero
 | cons r l ih =>
  intro h0
  obtain ⟨⟨d, rfl, h1, h2⟩, hl⟩ := dg_cons h
  have h0' : el ([d] :: l) l.length ≠ 0 := by
   rcases h0 with h0 | h0
   . cases h0
   . simpa using h0
  have hv : dv ([d] :: l) = d.toNat + 65536 * dv l := rfl
  by_cases hn : l = []
  . subst hn
    have hd : d ≠ 0 := h0'
    rw [hv]
    show lim (d.toNat + 65536 * 0) = _
    rw [lim_pos (by omega)]
    have e1 : (d.toNat + 65536 * 0) / 65536 = 0 := by omega
    have e2 : (((d.toNat + 65536 * 0) % 65536 : Nat) : Int) = d := by omega
    rw [e1, e2, lim_zero]
  . have hlp : 0 < l.length := List.length_pos_iff.2 hn
    have hlast : el l (l.length - 1) ≠ 0 := by
     have : el ([d] :: l) l.length = el l (l.length - 1) := by
      unfold el
      rw [show l.length = (l.length - 1) + 1 by omega]
      rfl
     rwa [this] at h0'
    have ih' := ih hl (.inr hlast)
    have hpos : dv l ≠ 0 := fun e => by rw [e, lim_zero] at ih'; exact hn ih'.symm
    rw [hv, lim_pos (by omega)]
    have e1 : (d.toNat + 65536 * dv l) / 65536 = dv l := by omega
    have e2 : (((d.toNat + 65536 * dv l) % 65536 : Nat) : Int) = d := by omega
    rw [e1, e2, ih']
theorem dv_cut {l : LL} (hp : 0 < l.length) (h : el l (l.length - 1) = 0) : dv (l.take (l.length - 1)) = dv l := by
 have h1 := dv_take_succ (l := l) (j := l.length - 1) (by omega)
 rw [show l.length - 1 + 1 = l.length by omega, List.take_length, h] at h1
 rw [h1]
 simp
theorem dv_low {a b : LL} (ha : dg a) (hb : dg b) (hl : a.length = b.length) {j : Nat} (hj : j < a.length) (hd : dv (a.drop (j + 1)) = dv (b.drop (j + 1))) (hlt : el a j < el b j) : dv a < dv b := by
 have h1 := dv_split a (Nat.le_of_lt hj)
 have h2 := dv_split b (show j <= b.length by omega)
 rw [dv_drop hj] at h1
 rw [dv_drop (show j < b.length by omega)] at h2
 have h3 := dv_lt (dg_take ha j)
 rw [List.length_take, Nat.min_eq_left (Nat.le_of_lt hj)] at h3
 have h4 := el_dg ha hj
 have h5 := el_dg hb (show j < b.length by omega)
 rw [<- hd] at h2
 generalize dv (a.drop (j + 1)) = D at *
 have h6 : (el a j).toNat + 1 <= (el b j).toNat := by omega
 have h7 : 65536 ^ j * ((el a j).toNat + 65536 * D) + 65536 ^ j <= 65536 ^ j * ((el b j).toNat + 65536 * D) := by
  have : 65536 ^ j * ((el a j).toNat + 1 + 65536 * D) <= 65536 ^ j * ((el b j).toNat + 65536 * D) := Nat.mul_le_mul_left _ (by omega)
  have e : 65536 ^ j * ((el a j).toNat + 1 + 65536 * D) = 65536 ^ j * ((el a j).toNat + 65536 * D) + 65536 ^ j := by grind
  omega
 omega
theorem cmp_len {x y : Nat} (h : (lim x).length < (lim y).length) : x < y := by
 have hy : y ≠ 0 := fun e => by subst e; rw [lim_zero] at h; exact absurd h (Nat.not_lt_zero _)
 have h1 := lim_low y hy
 have h2 := dv_lt (dg_lim x)
 rw [dv_lim] at h2
 have h3 : 65536 ^ (lim x).length <= 65536 ^ ((lim y).length - 1) := Nat.pow_le_pow_right (by omega) (by omega)
 omega
end U
namespace Go.Proofs.YtoekmphdpepdbaaGreat
open Go Go.HL U
theorem loopLimbs : ∀ v Q, (LLimbs v).wp Q -> hloop CLimbs anLimbs (nthLoop Tryz.f154 0) v Q := by
 intro v Q h
 unfold LLimbs at h
 split at h
 case h_2 => exact h.elim
 rename_i n acc
 obtain ⟨⟨h1, h2, h3⟩, hq⟩ := h
 obtain rfl : acc = [] := List.eq_nil_of_length_eq_zero h1
 refine hloop_rec (σ := Nat × LL) (fun s => ([.ce (.int .u64 (s.1 : Int)), .ce (.sl false [8] s.2), .ce (.lit true)], [])) (fun s => s.1)
  (fun s => s.2 ++ lim s.1 = lim n.toNat /\ s.1 < 18446744073709551616) ?_ (n.toNat, []) ⟨by simp, by omega⟩ |> (fun x => by rwa [show ((n.toNat : Nat) : Int) = n by omega] at x)
 rintro ⟨m, l⟩ ⟨hs, hm⟩ K hn he _
 dsimp only at hs hm hn
 refine byVB (vbLimbs m l K) ⟨fun hlt => ?_, fun hge => ?_⟩
 . have hlt := odt hlt
   have hlen : l.length + (lim m).length <= 4 := by
    rw [<- List.length_append, hs]; exact lim_len 4 _ (by omega)
   refine ⟨by omega, fun x1 e1 => ⟨⟨by omega, by unfold maxLen; omega⟩, by omega, fun x2 e2 => ?_⟩⟩
   have := hn (m / 65536, l ++ [[x1]]) ⟨by
    have e : x1 = ((m % 65536 : Nat) : Int) := by omega
    rw [e, List.append_assoc]
    rw [lim_pos (by omega)] at hs
    exact hs, by dsimp only; omega⟩ (by dsimp only; omega)
   dsimp only at this
   rw [show x2 = ((m / 65536 : Nat) : Int) by omega]
   exact this
 . have hge := odf hge
   obtain rfl : m = 0 := by omega
   rw [lim_zero, List.append_nil] at hs
   subst hs
   exact he _ _ hq
theorem sLimbs : Sound Tryz.prog 154 SLimbs := by
 refine sound_of (C := CLimbs) [] Tryz.func154 (by kernel_rfl) (by decide +kernel) (by kernel_rfl) rfl trivial (loops1 (by kernel_rfl) (loopOK_of (an := anLimbs) (S := LLimbs) (by kernel_rfl) loopLimbs)) ?_
 intro hA pA R h
 unfold SLimbs at h
 split at h
 case h_2 => exfalso; exact h
 rename_i n
 have h2 := h.2
 have h1 := h.1
 refine byVC (vcLimbs n R) ?_
 refine ⟨?_, h2⟩
 exact ⟨rfl, h1⟩
theorem loopCut : ∀ v Q, (LCut v).wp Q -> hloop CCut anCut (nthLoop Tryz.f161 0) v Q := by
 intro v Q h
 unfold LCut at h
 split at h
 case h_2 => exact h.elim
 rename_i l
 obtain ⟨⟨h1, h2⟩, hq⟩ := h
 refine hloop_rec (σ := LL) (fun s => ([.ce (.sl false [8] s)], [])) (fun s => s.length)
  (fun s => dg s /\ s.length <= 1000 /\ dv s = dv l) ?_ l ⟨h1, h2, rfl⟩
 rintro s ⟨hs1, hs2, hs3⟩ K hn he _
 have done : (s = [] ∨ el s (s.length - 1) ≠ 0) -> K (.exit 0) ([.ce (.sl false [8] s)], []) := fun hh => he _ _ (by
  have := lim_of hs1 hh
  rw [hs3] at this
  rw [this] at hq
  exact hq)
 refine byVB (vbCut s K) ?_
 refine ⟨fun hlt => ?_, fun hge => ?_⟩
 . have hlt := odt hlt
   refine ⟨by omega, fun x1 e1 => ⟨by omega, fun x2 e2 => ⟨fun hz => ?_, fun hz => ?_⟩⟩⟩
   . refine ⟨by omega, fun x3 e3 => ⟨by omega, ?_⟩⟩
     have e4 : x3.toNat = s.length - 1 := by omega
     have e5 : x1.toNat = s.length - 1 := by omega
     have hx2 : x2 = 0 := by simpa using hz
     have := hn (s.take (s.length - 1)) ⟨dg_take hs1 _, by rw [List.length_take]; omega, by
      rw [dv_cut (by omega) (by rw [e5] at e2; unfold el; unfold el at e2; omega), hs3]⟩ (by rw [List.length_take]; omega)
     rw [e4]
     exact this
   . have hx2 : x2 ≠ 0 := by simpa using hz
     have e5 : x1.toNat = s.length - 1 := by omega
     rw [e5] at e2
     exact done (.inr (by unfold el; unfold el at e2; omega))
 . have hge := odf hge
   exact done (.inl (List.eq_nil_of_length_eq_zero (by omega)))
theorem sCut : Sound Tryz.prog 161 SCut := by
 refine sound_of (C := CCut) [] Tryz.func161 (by kernel_rfl) (by decide +kernel) (by kernel_rfl) rfl trivial (loops1 (by kernel_rfl) (loopOK_of (an := anCut) (S := LCut) (by kernel_rfl) loopCut)) ?_
 intro hA pA R h
 unfold SCut at h
 split at h
 case h_2 => exfalso; exact h
 rename_i l
 have h2 := h.2
 have h1 := h.1
 refine byVC (vcCut l R) ?_
 exact ⟨h1, h2⟩
theorem sMag : Sound Tryz.prog 155 SMag := by
 refine sound_of (C := CMag) [] Tryz.func155 (by kernel_rfl) (by decide +kernel) (by kernel_rfl) rfl trivial (loops0 (by kernel_rfl)) ?_
 intro hA pA R h
 unfold SMag at h
 split at h
 case h_2 => exfalso; exact h
 rename_i x
 obtain ⟨⟨h1, h2⟩, hq⟩ := h
 refine byVC (vcMag x R) ⟨fun e => ?_, fun e => ?_⟩
 . have := odt e
   refine ⟨by omega, fun x1 e1 => ⟨by omega, fun x2 e2 x3 e3 x4 e4 => ?_⟩⟩
   rw [show x4 = (x.natAbs : Int) by omega]
   exact hq
 . have := odf e
   intro x5 e5
   rw [show x5 = (x.natAbs : Int) by omega]
   exact hq
theorem sSgn : Sound Tryz.prog 143 SSgn := by
 refine sound_of (C := CSgn) [] Tryz.func143 (by kernel_rfl) (by decide +kernel) (by kernel_rfl) rfl trivial (loops0 (by kernel_rfl)) ?_
 intro hA pA R h
 unfold SSgn at h
 split at h
 case h_2 => exfalso; exact h
 rename_i x y
 have hq := h.2
 refine byVC (vcSgn x y R) ⟨fun e => ?_, fun e => ⟨fun e2 => ?_, fun e2 => ⟨fun e3 => ?_, fun e3 => ?_⟩⟩⟩
 . have : x = 0 := by simpa using e
   subst this; simpa using hq
 . have : y = 0 := by simpa using e2
   subst this; simpa using hq
 . have h0 : x ≠ 0 := by simpa using e
   have h1 : y ≠ 0 := by simpa using e2
   have : x.sign * y.sign = 1 := by
    rcases Int.lt_or_gt_of_ne h0 with hx | hx <;> rcases Int.lt_or_gt_of_ne h1 with hy | hy
    . rw [Int.sign_eq_neg_one_of_neg hx, Int.sign_eq_neg_one_of_neg hy]; rfl
    . simp [hx, Int.not_lt.2 (Int.le_of_lt hy)] at e3
    . simp [hy, Int.not_lt.2 (Int.le_of_lt hx)] at e3
    . rw [Int.sign_eq_one_of_pos hx, Int.sign_eq_one_of_pos hy]; rfl
   rw [this] at hq; exact hq
 . have h0 : x ≠ 0 := by simpa using e
   have h1 : y ≠ 0 := by simpa using e2
   have : x.sign * y.sign = -1 := by
    rcases Int.lt_or_gt_of_ne h0 with hx | hx <;> rcases Int.lt_or_gt_of_ne h1 with hy | hy
    . simp [hx, hy] at e3
    . rw [Int.sign_eq_neg_one_of_neg hx, Int.sign_eq_one_of_pos hy]; rfl
    . rw [Int.sign_eq_one_of_pos hx, Int.sign_eq_neg_one_of_neg hy]; rfl
    . simp [Int.not_lt.2 (Int.le_of_lt hx), Int.not_lt.2 (Int.le_of_lt hy)] at e3
   rw [this] at hq; exact hq
theorem loopCmp : ∀ v Q, (LCmp v).wp Q -> hloop CCmp anCmp (nthLoop Tryz.f144 0) v Q := by
 intro v Q h
 unfold LCmp at h
 split at h
 case h_2 => exact h.elim
 rename_i a b r k
 obtain ⟨⟨h1, h2, h3, h4, h5⟩, hq1, hq2⟩ := h
 subst h4
 refine hloop_rec (σ := Nat) (fun j => ([.ce (.sl false [8] a), .ce (.sl false [8] b), .ce (I6 r), .ce (I6 ((j : Int) - 1))], [])) (fun j => j)
  (fun j => j <= a.length /\ dv (a.drop j) = dv (b.drop j)) ?_ a.length ⟨Nat.le_refl _, by rw [List.drop_length, h3, List.drop_length]⟩
 rintro j ⟨hj, hd⟩ K hn he hr
 refine byVB (vbCmp a b r _ K) ⟨fun hlt => ?_, fun hge => ?_⟩
 . have hlt := odt hlt
   have ej : ((j : Int) - 1).toNat = j - 1 := by omega
   have hjj : j - 1 + 1 = j := by omega
   refine ⟨by omega, fun x1 e1 => ⟨by omega, fun x2 e2 => ?_⟩⟩
   rw [ej] at e1 e2
   have e1 : x1 = el a (j - 1) := e1
   have e2 : x2 = el b (j - 1) := e2
   refine ⟨fun hx => ?_, fun hx => ⟨by omega, fun x3 e3 => ⟨by omega, fun x4 e4 => ?_⟩⟩⟩
   . have hx := odt hx
     have := dv_low h1 h2 h3 (j := j - 1) (by omega) (by rw [hjj]; exact hd) (by omega)
     refine hr _ ?_
     have := hq2 (by omega)
     unfold cmp3 at this
     rw [if_pos (by omega)] at this
     exact this
   . have hx := odf hx
     rw [ej] at e3 e4
     have e3 : x3 = el a (j - 1) := e3
     have e4 : x4 = el b (j - 1) := e4
     refine ⟨fun hy => ?_, fun hy => ⟨by omega, fun x5 e5 => ?_⟩⟩
     . have hy := odt hy
       have := dv_low h2 h1 h3.symm (j := j - 1) (by omega) (by rw [hjj]; exact hd.symm) (by omega)
       refine hr _ ?_
       have := hq2 (by omega)
       unfold cmp3 at this
       rw [if_neg (by omega), if_neg (by omega)] at this
       exact this
     . have hy := odf hy
       have := hn (j - 1) ⟨by omega, by
        rw [dv_drop (show j - 1 < a.length by omega), dv_drop (show j - 1 < b.length by omega), hjj, hd]
        have : el a (j - 1) = el b (j - 1) := by omega
        rw [this]⟩ (by omega)
       rw [show x5 = ((j - 1 : Nat) : Int) - 1 by omega]
       exact this
 . have hge := odf hge
   obtain rfl : j = 0 := by omega
   exact he _ _ (hq1 (by simpa using hd))
theorem sCmp : Sound Tryz.prog 144 SCmp := by
 refine sound_of (C := CCmp) [] Tryz.func144 (by kernel_rfl) (by decide +kernel) (by kernel_rfl) rfl trivial (loops1 (by kernel_rfl) (loopOK_of (an := anCmp) (S := LCmp) (by kernel_rfl) loopCmp)) ?_
 intro hA pA R h
 unfold SCmp at h
 split at h
 case h_2 => exfalso; exact h
 rename_i a b
 have hq := h.2
 have h := h.1
 have ha := h.1
 have hb := h.2.1
 have hal := h.2.2.1
 have hbl := h.2.2.2
 have hla : a.length = (lim (dv a)).length := congrArg List.length ha
 have hlb : b.length = (lim (dv b)).length := congrArg List.length hb
 refine byVC (vcCmp a b R) ⟨fun hne => ⟨fun hlt => ?_, fun hlt => ?_⟩, fun heq => ⟨by omega, fun x1 e1 => ⟨⟨by rw [ha]; exact dg_lim _, by rw [hb]; exact dg_lim _, by simp at heq; omega, e1, hal⟩, fun e => ?_, fun e => hq⟩⟩⟩
 . have hlt := odt hlt
   have := cmp_len (x := dv a) (y := dv b) (by omega)
   unfold cmp3 at hq
   rw [if_pos this] at hq
   exact hq
 . have hlt := odf hlt
   have hne : a.length ≠ b.length := by simp at hne; omega
   have := cmp_len (x := dv b) (y := dv a) (by omega)
   unfold cmp3 at hq
   rw [if_neg (by omega), if_neg (by omega)] at hq
   exact hq
 . unfold cmp3 at hq
   rw [if_neg (by omega), if_pos e] at hq
   exact hq
def SMulL (hargs : List HV) (pars : List (List HC)) : SR :=
 match hargs, pars with
 | [.ce (.sl false [8] a), .ce (.sl false [8] b)], [] => .det (dg a /\ dg b /\ a.length <= 100 /\ b.length <= 100) ⟨.ce (.sl false [8] (lim (dv a * dv b))), false, [], []⟩
 | _, _ => .fail
def anMulO : LAnn := ⟨[0, 1, 5, 6], [0, 1, 5], [1000015], false⟩
def anMulI : LAnn := ⟨[0, 1, 5, 6, 7, 8], [0, 1, 5, 6, 7], [1000015], false⟩
def zer (o : LL) (n : Nat) : Prop := ∀ j, n <= j -> j < o.length -> el o j = 0
def mulOK (a b o : LL) : Prop := dg a /\ dg b /\ dg o /\ a.length <= 100 /\ b.length <= 100 /\ o.length = a.length + b.length
def LMulO (v : LV) : LR :=
 match v with
 | ([.ce (.sl false [8] a), .ce (.sl false [8] b), .ce (.msl 1000015 n m), .ce (.int .i64 i)], [[.arr [8] o m2]]) =>
  .all (m2 = m /\ i = 0 /\ n = o.length /\ mulOK a b o /\ zer o 0) (LL) (fun o' => o'.length = o.length /\ dg o' /\ dv o' = dv a * dv b) (fun _ => .exit 0)
   (fun o' => ([.ce (.sl false [8] a), .ce (.sl false [8] b), .ce (.msl 1000015 n m)], [[.arr [8] o' m2]]))
 | _ => .fail
def LMulI (v : LV) : LR :=
 match v with
 | ([.ce (.sl false [8] a), .ce (.sl false [8] b), .ce (.msl 1000015 n m), .ce (.int .i64 i), .ce (.int .u64 c), .ce (.int .i64 k)], [[.arr [8] o m2]]) =>
  .all (m2 = m /\ k = 0 /\ c = 0 /\ 0 <= i /\ i < (a.length : Int) /\ n = o.length /\ mulOK a b o /\ zer o (i.toNat + b.length)) (LL × Int)
   (fun x => x.1.length = o.length /\ dg x.1 /\ 0 <= x.2 /\ x.2 < 65536 /\ zer x.1 (i.toNat + b.length) /\ dv x.1 + x.2.toNat * 65536 ^ (i.toNat + b.length) = dv o + (el a i.toNat).toNat * 65536 ^ i.toNat * dv b) (fun _ => .exit 2)
   (fun x => ([.ce (.sl false [8] a), .ce (.sl false [8] b), .ce (.msl 1000015 n m), .ce (I6 i), .ce (.int .u64 x.2)], [[.arr [8] x.1 m2]]))
 | _ => .fail
def tabMulL : List (FuncId × HL.Spec) := [(161, SCut)]
noncomputable def CMulL : Ctx := ⟨Tryz.prog, gam tabMulL, Tryz.f153.ntmps, [(3, anMulO, LMulO), (7, anMulI, LMulI)], [70]⟩
theorem vcMulL (a b : LL) (Q : Res -> Prop) : (nfun true CMulL Tryz.f153 (bodyOf Tryz.f153) [.ce (.sl false [8] a), .ce (.sl false [8] b)] [] Q) =
 (R6 ((a.length : Int) + (b.length : Int)) /\ ∀ x1, x1 = (a.length : Int) + (b.length : Int) -> (0 <= x1 /\ x1 = x1 /\ x1 <= 140737488355328 /\ x1 * 8 <= 140737488355328) /\ (x1.toNat = x1.toNat /\ (0 : Int) = 0 /\ x1.toNat = List.length (List.replicate x1.toNat [(0 : Int)]) /\ (dg a /\ dg b /\ dg (List.replicate x1.toNat [(0 : Int)]) /\ a.length <= 100 /\ b.length <= 100 /\ List.length (List.replicate x1.toNat [(0 : Int)]) = a.length + b.length) /\ ∀ (j : Nat), (0 : Nat) <= j -> j < List.length (List.replicate x1.toNat [(0 : Int)]) -> el (List.replicate x1.toNat [(0 : Int)]) j = 0) /\ ∀ (x : LL), x.length = List.length (List.replicate x1.toNat [(0 : Int)]) /\ dg x /\ dv x = dv a * dv b -> x1.toNat = x.length /\ (dg x /\ x.length <= 1000) /\
 ∀ (x4 : LL), x4 = lim (dv x) -> Q ⟨.ce (.sl false [8] x4), false, [], []⟩) := by kernel_rfl
theorem vbMulO (a b o : LL) (n m : Nat) (i : Int) (K : HEx -> LV -> Prop) : (nbodyT true CMulL anMulO (nthLoop Tryz.f153 0) (([.ce (.sl false [8] a), .ce (.sl false [8] b), .ce (.msl 1000015 n m), .ce (I6 i)], [[.arr [8] o m]])) K) =
 (Br (i < (a.length : Int)) ((m = m /\ (0 : Int) = 0 /\ (0 : Int) = 0 /\ 0 <= i /\ i < (a.length : Int) /\ n = o.length /\ (dg a /\ dg b /\ dg o /\ a.length <= 100 /\ b.length <= 100 /\ o.length = a.length + b.length) /\ ∀ (j : Nat), i.toNat + b.length <= j -> j < o.length -> el o j = 0) /\ ∀ (x : LL × Int), List.length x.1 = o.length /\ dg x.1 /\ 0 <= x.2 /\ x.2 < 65536 /\ (∀ (j : Nat), i.toNat + b.length <= j -> j < List.length x.1 -> el x.1 j = 0) /\ dv x.1 + x.2.toNat * 65536 ^ (i.toNat + b.length) = dv o + Int.toNat (el a i.toNat) * 65536 ^ i.toNat * dv b -> R6 (i + (b.length : Int)) /\ ∀ x4, x4 = i + (b.length : Int) -> R6 (i + (b.length : Int)) /\
 ∀ x5, x5 = i + (b.length : Int) -> (0 <= x5 /\ x5 < ((n : Nat) : Int)) /\ x5.toNat < List.length x.1 /\ ∀ x6, x6 = el x.1 x5.toNat -> ∀ x7, x7 = (x6 + x.2) % 18446744073709551616 -> (0 <= x4 /\ x4 < ((n : Nat) : Int)) /\ x4.toNat < List.length x.1 /\ R6 (i + 1) /\ ∀ x8, x8 = i + 1 -> K .normal ([.ce (.sl false [8] a), .ce (.sl false [8] b), .ce (.msl (1000015 : Nat) n m), .ce (I6 x8)], [[.arr [8] (List.set x.1 x4.toNat [bif true && true then x7 else el x.1 x4.toNat]) m]])) (K (.exit 0) ([.ce (.sl false [8] a), .ce (.sl false [8] b), .ce (.msl (1000015 : Nat) n m)], [[.arr [8] o m]]))) := by kernel_rfl
theorem vbMulI (a b o : LL) (n m : Nat) (i c k : Int) (K : HEx -> LV -> Prop) : (nbodyT true CMulL anMulI (nthLoop Tryz.f153 1) (([.ce (.sl false [8] a), .ce (.sl false [8] b), .ce (.msl 1000015 n m), .ce (I6 i), .ce (.int .u64 c), .ce (I6 k)], [[.arr [8] o m]])) K) =
 (Br (k < (b.length : Int)) (R6 (i + k) /\ ∀ x1, x1 = i + k -> (0 <= x1 /\ x1 < ((n : Nat) : Int)) /\ x1.toNat < o.length /\ ∀ x2, x2 = el o x1.toNat -> (0 <= i /\ i < (a.length : Int)) /\ ∀ x3, x3 = el a i.toNat -> (0 <= k /\ k < (b.length : Int)) /\ ∀ x4, x4 = el b k.toNat -> ∀ x5, x5 = x3 * x4 % 18446744073709551616 -> ∀ x6, x6 = (x2 + x5) % 18446744073709551616 -> ∀ x7, x7 = (x6 + c) % 18446744073709551616 -> R6 (i + k) /\ ∀ x8, x8 = i + k -> (0 <= x7 /\ x7 <= 18446744073709551615 /\ (65535 : Int) <= 18446744073709551615) /\ ∀ x9, x9 = x7 % 65536 -> (0 <= x8 /\ x8 < ((n : Nat) : Int)) /\ x8.toNat < o.length /\ (0 : Int) <= 16 /\ ∀ x10, x10 = x7 / 65536 ->
 R6 (k + 1) /\ ∀ x11, x11 = k + 1 -> K .normal ([.ce (.sl false [8] a), .ce (.sl false [8] b), .ce (.msl (1000015 : Nat) n m), .ce (I6 i), .ce (.int .u64 x10), .ce (I6 x11)], [[.arr [8] (List.set o x8.toNat [bif true && true then x9 else el o x8.toNat]) m]])) (K (.exit 2) ([.ce (.sl false [8] a), .ce (.sl false [8] b), .ce (.msl (1000015 : Nat) n m), .ce (I6 i), .ce (.int .u64 c)], [[.arr [8] o m]]))) := by kernel_rfl
def SProd (hargs : List HV) (pars : List (List HC)) : SR :=
 match hargs, pars with
 | [.ce (.int .i64 a), .ce (.int .i64 b)], [] => .det ((-9223372036854775808 <= a /\ a <= 9223372036854775807) /\ (-9223372036854775808 <= b /\ b <= 9223372036854775807)) ⟨.ce (.sl false [8] (lim (a.natAbs * b.natAbs))), false, [], []⟩
 | _, _ => .fail
def tabProd : List (FuncId × HL.Spec) := [(155, SMag), (154, SLimbs), (153, SMulL)]
noncomputable def CProd : Ctx := ⟨Tryz.prog, gam tabProd, Tryz.f145.ntmps, [], []⟩
theorem vcProd (a b : Int) (Q : Res -> Prop) : (nfun true CProd Tryz.f145 (bodyOf Tryz.f145) [.ce (I6 a), .ce (I6 b)] [] Q) =
 (R6 a /\ ∀ x1, x1 = (((Int.natAbs a) : Nat) : Int) -> (0 <= x1 /\ x1 < 18446744073709551616) /\ ∀ (x2 : LL), x2 = lim x1.toNat -> R6 b /\ ∀ x3, x3 = (((Int.natAbs b) : Nat) : Int) -> (0 <= x3 /\ x3 < 18446744073709551616) /\ ∀ (x4 : LL), x4 = lim x3.toNat -> (dg x2 /\ dg x4 /\ x2.length <= 100 /\ x4.length <= 100) /\ ∀ (x5 : LL), x5 = lim (dv x2 * dv x4) -> Q ⟨.ce (.sl false [8] x5), false, [], []⟩) := by kernel_rfl
def SCmpP (hargs : List HV) (pars : List (List HC)) : SR :=
 match hargs, pars with
 | [.ce (.int .i64 a), .ce (.int .i64 b), .ce (.int .i64 c), .ce (.int .i64 d)], [] =>
  .all ((-9223372036854775808 <= a /\ a <= 9223372036854775807) /\ (-9223372036854775808 <= b /\ b <= 9223372036854775807) /\ (-9223372036854775808 <= c /\ c <= 9223372036854775807) /\ (-9223372036854775808 <= d /\ d <= 9223372036854775807)) Int (fun _ => True) (fun x => ⟨.ce (I6 x), false, [], []⟩)
 | _, _ => .fail
def tabCmpP : List (FuncId × HL.Spec) := [(143, SSgn), (145, SProd), (144, SCmp)]
noncomputable def CCmpP : Ctx := ⟨Tryz.prog, gam tabCmpP, Tryz.f133.ntmps, [], []⟩
theorem vcCmpP (a b c d : Int) (Q : Res -> Prop) : (nfun true CCmpP Tryz.f133 (bodyOf Tryz.f133) [.ce (I6 a), .ce (I6 b), .ce (I6 c), .ce (I6 d)] [] Q) =
 (True /\ ∀ x1, x1 = Int.sign a * Int.sign b -> True /\ ∀ x2, x2 = Int.sign c * Int.sign d -> Br (x1 < x2) (Q ⟨.ce (I6 (-1)), false, [], []⟩) (Br (x1 > x2) (Q ⟨.ce (I6 1), false, [], []⟩) ((R6 a /\ -9223372036854775808 <= b /\ b <= 9223372036854775807) /\ ∀ (x3 : LL), x3 = lim (Int.natAbs a * Int.natAbs b) -> (R6 c /\ -9223372036854775808 <= d /\ d <= 9223372036854775807) /\ ∀ (x4 : LL), x4 = lim (Int.natAbs c * Int.natAbs d) -> (x3 = lim (dv x3) /\ x4 = lim (dv x4) /\ x3.length <= 1000 /\ x4.length <= 1000) /\ ∀ x5, x5 = cmp3 (dv x3) (dv x4) -> R6 (x1 * x5) /\ ∀ x6, x6 = x1 * x5 -> Q ⟨.ce (I6 x6), false, [], []⟩))) := by kernel_rfl
end Go.Proofs.YtoekmphdpepdbaaGreat
namespace U
open Go
theorem dv_set : ∀ (o : LL) (p : Nat) (v : Int), p < o.length -> dv (o.set p [v]) + (el o p).toNat * 65536 ^ p = dv o + v.toNat * 65536 ^ p
 | r :: o, 0, v, _ => by
  show v.toNat + 65536 * dv o + (r.getD 0 0).toNat * 65536 ^ 0 = (r.getD 0 0).toNat + 65536 * dv o + v.toNat * 65536 ^ 0
  omega
 | r :: o, p + 1, v, h => by
  have ih := dv_set o p v (by simpa using h)
  have e : el (r :: o) (p + 1) = el o p := rfl
  show (r.getD 0 0).toNat + 65536 * dv (o.set p [v]) + (el (r :: o) (p + 1)).toNat * 65536 ^ (p + 1) = (r.getD 0 0).toNat + 65536 * dv o + v.toNat * 65536 ^ (p + 1)
  rw [e, Nat.pow_succ]
  have h1 : (el o p).toNat * (65536 ^ p * 65536) = 65536 * ((el o p).toNat * 65536 ^ p) := by grind
  have h2 : v.toNat * (65536 ^ p * 65536) = 65536 * (v.toNat * 65536 ^ p) := by grind
  omega
theorem el_set (o : LL) (p : Nat) (v : Int) (j : Nat) (hp : p < o.length) : el (o.set p [v]) j = if j = p then v else el o j := by
 unfold el
 simp only [List.getD_eq_getElem?_getD, List.getElem?_set]
 by_cases h : p = j
 . subst h; simp [hp]
 . rw [if_neg h, if_neg (fun e => h e.symm)]
theorem dg_set {o : LL} (h : dg o) {p : Nat} {v : Int} (h0 : 0 <= v) (h1 : v < 65536) : dg (o.set p [v]) := fun r hr => by
 rcases List.mem_or_eq_of_mem_set hr with hr | rfl
 . exact h r hr
 . exact ⟨v, rfl, h0, h1⟩
theorem dg_repl (n : Nat) : dg (List.replicate n [0]) := fun r hr => by
 rw [List.mem_replicate] at hr
 exact ⟨0, hr.2, by omega, by omega⟩
theorem el_repl (n j : Nat) : el (List.replicate n [0]) j = 0 := by
 unfold el
 simp only [List.getD_eq_getElem?_getD, List.getElem?_replicate]
 split <;> rfl
theorem dv_repl : ∀ n : Nat, dv (List.replicate n [0]) = 0
 | 0 => rfl
 | n + 1 => by
  rw [List.replicate_succ]
  show (([0] : List Int).getD 0 0).toNat + 65536 * dv (List.replicate n [0]) = 0
  rw [dv_repl n]; rfl
theorem mul_step {do1 do2 do3 A B k1 bk P x2 x9 x10 t c : Nat} (h : do1 + c * P = do2 + A * k1) (ht : t = x2 + B * bk + c) (hd : 65536 * x10 + x9 = t) (hs : do3 + x2 * P = do1 + x9 * P) (hA : A * (bk * 1) = A * bk) (hP : B * bk * P = A * (k1 * 0) + B * bk * P) :
 do3 + x10 * (P * 65536) = do2 + A * k1 + B * bk * P := by
 have e1 : x10 * (P * 65536) + x9 * P = t * P := by rw [<- hd]; grind
 have e2 : t * P = x2 * P + B * bk * P + c * P := by rw [ht]; grind
 omega
end U
namespace Go.Proofs.YtoekmphdpepdbaaGreat
open Go Go.HL U
theorem loopMulI : ∀ v Q, (LMulI v).wp Q -> hloop CMulL anMulI (nthLoop Tryz.f153 1) v Q := by
 intro v Q h
 unfold LMulI at h
 split at h
 case h_2 => exact h.elim
 rename_i a b n m i c k o m2
 obtain ⟨⟨h0, h1, h2, h3, h4, h5, ⟨h6, h7, h8, h9, h10, h11⟩, h12⟩, hq⟩ := h
 subst h0 h1 h2 h5
 obtain ⟨I, rfl⟩ := Int.eq_ofNat_of_zero_le h3
 have hI : I < a.length := by omega
 simp only [Int.toNat_natCast] at hq h12
 refine hloop_rec (σ := LL × Int × Nat) (fun s => ([.ce (.sl false [8] a), .ce (.sl false [8] b), .ce (.msl 1000015 o.length m2), .ce (I6 (I : Int)), .ce (.int .u64 s.2.1), .ce (I6 (s.2.2 : Int))], [[.arr [8] s.1 m2]]))
  (fun s => b.length - s.2.2)
  (fun s => s.1.length = o.length /\ dg s.1 /\ (0 <= s.2.1 /\ s.2.1 < 65536) /\ zer s.1 (I + b.length) /\ s.2.2 <= b.length /\ dv s.1 + s.2.1.toNat * 65536 ^ (I + s.2.2) = dv o + (el a I).toNat * 65536 ^ I * dv (b.take s.2.2)) ?_ (o, 0, 0) ⟨rfl, h8, ⟨by dsimp only; omega, by dsimp only; omega⟩, h12, Nat.zero_le _, by simp [dv]⟩
 rintro ⟨p, c, k⟩ ⟨g1, g2, ⟨g3, g3'⟩, g4, g5, g6⟩ K hn he _
 dsimp only at g1 g2 g3 g3' g4 g5 g6 hn
 refine byVB (vbMulI a b p o.length m2 I c k K) ⟨fun hlt => ?_, fun hge => ?_⟩
 . have hlt := odt hlt
   have hkb : k < b.length := by omega
   have ha := el_dg h6 hI
   have hb := el_dg h7 hkb
   have ho := el_dg g2 (show I + k < p.length by omega)
   refine ⟨by omega, fun x1 e1 => ⟨by omega, by omega, fun x2 e2 => ⟨by omega, fun x3 e3 => ⟨by omega, fun x4 e4 x5 e5 x6 e6 x7 e7 => ?_⟩⟩⟩⟩
   have t1 : x1.toNat = I + k := by omega
   rw [t1] at e2
   have e2 : x2 = el p (I + k) := e2
   have e3 : x3 = el a I := e3
   have e4 : x4 = el b k := by rw [e4]; rfl
   have hm : 0 <= x3 * x4 /\ x3 * x4 <= 65535 * 65535 := ⟨Int.mul_nonneg (by omega) (by omega), Int.le_trans (Int.mul_le_mul_of_nonneg_right (show x3 <= 65535 by omega) (by omega)) (Int.mul_le_mul_of_nonneg_left (show x4 <= 65535 by omega) (by omega))⟩
   have e7' : x7 = x2 + x3 * x4 + c := by omega
   refine ⟨by omega, fun x8 e8 => ⟨by omega, fun x9 e9 => ⟨by omega, by omega, by omega, fun x10 e10 => ⟨by omega, fun x11 e11 => ?_⟩⟩⟩⟩
   have t8 : x8.toNat = I + k := by omega
   rw [t8, show x11 = ((k + 1 : Nat) : Int) by omega]
   refine hn (p.set (I + k) [x9], x10, k + 1) ⟨by rw [List.length_set]; exact g1, dg_set g2 (by omega) (by omega), ⟨by dsimp only; omega, by dsimp only; omega⟩, fun j hj hjl => ?_, by dsimp only; omega, ?_⟩ (by dsimp only; omega)
   . rw [List.length_set] at hjl
     rw [el_set _ _ _ _ (by omega), if_neg (by omega)]
     exact g4 j hj hjl
   . dsimp only
     have hs := dv_set p (I + k) x9 (by omega)
     rw [dv_take_succ hkb]
     have hpow : (65536 : Nat) ^ (I + (k + 1)) = 65536 ^ (I + k) * 65536 := by rw [<- Nat.add_assoc, Nat.pow_succ]
     have hst := mul_step (do1 := dv p) (do2 := dv o) (do3 := dv (p.set (I + k) [x9])) (A := (el a I).toNat * 65536 ^ I) (B := (el a I).toNat) (k1 := dv (b.take k)) (bk := (el b k).toNat) (P := 65536 ^ (I + k)) (x2 := (el p (I + k)).toNat) (x9 := x9.toNat) (x10 := x10.toNat) (t := x7.toNat) (c := c.toNat)
      g6 (by
       have : x7 = ((el p (I + k)).toNat + (el a I).toNat * (el b k).toNat + c.toNat : Nat) := by
        rw [e7', e2, e3, e4]
        have q1 : ((el p (I + k)).toNat : Int) = el p (I + k) := by omega
        have q2 : ((el a I).toNat : Int) = el a I := by omega
        have q3 : ((el b k).toNat : Int) = el b k := by omega
        have q4 : (c.toNat : Int) = c := by omega
        rw [Int.natCast_add, Int.natCast_add, Int.natCast_mul, q1, q2, q3, q4]
       omega) (by omega) hs (by simp) (by simp)
     rw [hpow, hst]
     have : (65536 : Nat) ^ (I + k) = 65536 ^ I * 65536 ^ k := Nat.pow_add _ _ _
     rw [this]
     grind
 . have hge := odf hge
   have hk : k = b.length := by omega
   subst hk
   rw [List.take_length] at g6
   exact he _ _ (hq (p, c) ⟨g1, g2, g3, g3', g4, g6⟩)
theorem loopMulO : ∀ v Q, (LMulO v).wp Q -> hloop CMulL anMulO (nthLoop Tryz.f153 0) v Q := by
 intro v Q h
 unfold LMulO at h
 split at h
 case h_2 => exact h.elim
 rename_i a b n m i o m2
 obtain ⟨⟨h0, h1, h2, ⟨h6, h7, h8, h9, h10, h11⟩, h12⟩, hq⟩ := h
 subst h0 h1 h2
 have hz : dv o = 0 := by
  have : o = List.replicate o.length [0] := by
   apply List.ext_getElem?
   intro j
   by_cases hj : j < o.length
   . have e := (el_dg h8 hj).2.2
     rw [h12 j (Nat.zero_le _) hj] at e
     simp [hj, List.getD_eq_getElem?_getD] at e ⊢
     exact e
   . rw [List.getElem?_eq_none (by omega), List.getElem?_eq_none (by simp; omega)]
  rw [this, dv_repl]
 refine hloop_rec (σ := LL × Nat) (fun s => ([.ce (.sl false [8] a), .ce (.sl false [8] b), .ce (.msl 1000015 o.length m2), .ce (I6 (s.2 : Int))], [[.arr [8] s.1 m2]]))
  (fun s => a.length - s.2)
  (fun s => s.1.length = o.length /\ dg s.1 /\ s.2 <= a.length /\ zer s.1 (s.2 + b.length) /\ dv s.1 = dv (a.take s.2) * dv b) ?_ (o, 0) ⟨rfl, h8, Nat.zero_le _, fun j _ hj => h12 j (Nat.zero_le _) hj, by simp [dv, hz]⟩
 rintro ⟨p, i⟩ ⟨g1, g2, g3, g4, g5⟩ K hn he _
 dsimp only at g1 g2 g3 g4 g5 hn
 refine byVB (vbMulO a b p o.length m2 i K) ⟨fun hlt => ?_, fun hge => ?_⟩
 . have hlt := odt hlt
   have hia : i < a.length := by omega
   refine ⟨⟨rfl, rfl, rfl, by omega, by omega, g1.symm, ⟨h6, h7, g2, h9, h10, by omega⟩, fun j hj hjl => g4 j (by simpa using hj) hjl⟩, fun x hx => ?_⟩
   obtain ⟨q1, q2, q3, q4, q5, q6⟩ := hx
   simp only [Int.toNat_natCast] at q5 q6
   refine ⟨by omega, fun x4 e4 => ⟨by omega, fun x5 e5 => ⟨by omega, by omega, fun x6 e6 x7 e7 => ⟨by omega, by omega, by omega, fun x8 e8 => ?_⟩⟩⟩⟩
   have t4 : x4.toNat = i + b.length := by omega
   have t5 : x5.toNat = i + b.length := by omega
   rw [t5] at e6
   have e6 : x6 = el x.1 (i + b.length) := e6
   have z6 := q5 (i + b.length) (Nat.le_refl _) (by omega)
   have e7 : x7 = x.2 := by omega
   rw [t4, show x8 = ((i + 1 : Nat) : Int) by omega, e7]
   refine hn (x.1.set (i + b.length) [x.2], i + 1) ⟨by rw [List.length_set]; omega, dg_set q2 q3 q4, by dsimp only; omega, fun j hj hjl => ?_, ?_⟩ (by dsimp only; omega)
   . rw [List.length_set] at hjl
     dsimp only at hj
     rw [el_set _ _ _ _ (by omega), if_neg (by omega)]
     exact q5 j (by omega) hjl
   . dsimp only
     have hs := dv_set x.1 (i + b.length) x.2 (by omega)
     rw [z6] at hs
     rw [dv_take_succ hia]
     have e0 : (0 : Int).toNat * 65536 ^ (i + b.length) = 0 := by simp
     rw [e0, Nat.add_zero, q6, g5] at hs
     rw [hs]
     grind
 . have hge := odf hge
   have hk : i = a.length := by omega
   subst hk
   rw [List.take_length] at g5
   exact he _ _ (hq p ⟨g1, g2, g5⟩)
theorem sMulL : Sound Tryz.prog 153 SMulL := by
 refine sound_of (C := CMulL) tabMulL Tryz.func153 (by kernel_rfl) (by decide +kernel) (by kernel_rfl) rfl ⟨sCut, trivial⟩ (loops2 (by kernel_rfl) (loopOK_of (an := anMulO) (S := LMulO) (by kernel_rfl) loopMulO) (loopOK_of (an := anMulI) (S := LMulI) (by kernel_rfl) loopMulI)) ?_
 intro hargs pars R h
 unfold SMulL at h
 split at h
 case h_2 => exfalso; exact h
 rename_i a b
 have hq := h.2
 have h := h.1
 have h1 := h.1
 have h2 := h.2.1
 have h3 := h.2.2.1
 have h4 := h.2.2.2
 refine byVC (vcMulL a b R) ⟨by omega, fun x1 e1 => ⟨by omega, ?_⟩⟩
 have t1 : x1.toNat = a.length + b.length := by omega
 refine ⟨⟨rfl, rfl, by rw [List.length_replicate], ⟨h1, h2, dg_repl _, h3, h4, by rw [List.length_replicate]; exact t1⟩, fun j _ _ => el_repl _ _⟩, fun x hx => ?_⟩
 obtain ⟨q1, q2, q3⟩ := hx
 rw [List.length_replicate] at q1
 exact ⟨q1.symm, ⟨q2, by omega⟩, fun x4 e4 => by rw [e4, q3]; exact hq⟩
end Go.Proofs.YtoekmphdpepdbaaGreat
namespace U
open Go Go.HL
theorem natAbs_lim {a : Int} (h : -9223372036854775808 <= a /\ a <= 9223372036854775807) : a.natAbs < 65536 ^ 4 := by omega
theorem prod_lim {a b : Int} (ha : -9223372036854775808 <= a /\ a <= 9223372036854775807) (hb : -9223372036854775808 <= b /\ b <= 9223372036854775807) : a.natAbs * b.natAbs < 65536 ^ 8 := by
 have h1 := natAbs_lim ha
 have h2 := natAbs_lim hb
 have : a.natAbs * b.natAbs < 65536 ^ 4 * 65536 ^ 4 := Nat.mul_lt_mul'' h1 h2
 exact this
theorem cmp3_bd (x y : Nat) : -1 <= cmp3 x y /\ cmp3 x y <= 1 := by
 unfold cmp3
 split
 . omega
 . split <;> omega
theorem sgn_bd (x : Int) : x.sign = -1 ∨ x.sign = 0 ∨ x.sign = 1 := by
 rcases Int.lt_trichotomy x 0 with h | h | h
 . exact .inl (Int.sign_eq_neg_one_of_neg h)
 . subst h; exact .inr (.inl rfl)
 . exact .inr (.inr (Int.sign_eq_one_of_pos h))
theorem sgn2_bd (x y : Int) : x.sign * y.sign = -1 ∨ x.sign * y.sign = 0 ∨ x.sign * y.sign = 1 := by
 rcases sgn_bd x with h | h | h <;> rcases sgn_bd y with g | g | g <;> rw [h, g] <;> decide
end U
namespace Go.Proofs.YtoekmphdpepdbaaGreat
open Go Go.HL U
theorem sProd : Sound Tryz.prog 145 SProd := by
 refine sound_of (C := CProd) tabProd Tryz.func145 (by kernel_rfl) (by decide +kernel) (by kernel_rfl) rfl ⟨sMag, sLimbs, sMulL, trivial⟩ (loops0 (by kernel_rfl)) ?_
 intro hargs pars R h
 unfold SProd at h
 split at h
 case h_2 => exfalso; exact h
 rename_i a b
 have hq := h.2
 have h := h.1
 have l1 := lim_len 4 a.natAbs (natAbs_lim h.1)
 have l2 := lim_len 4 b.natAbs (natAbs_lim h.2)
 refine byVC (vcProd a b R) ⟨h.1, fun x1 e1 => ⟨by omega, fun x2 e2 => ⟨h.2, fun x3 e3 => ⟨by omega, fun x4 e4 => ?_⟩⟩⟩⟩
 have t1 : x1.toNat = a.natAbs := by omega
 have t3 : x3.toNat = b.natAbs := by omega
 rw [t1] at e2
 rw [t3] at e4
 subst e2 e4
 refine ⟨⟨dg_lim _, dg_lim _, by omega, by omega⟩, fun x5 e5 => ?_⟩
 rw [dv_lim, dv_lim] at e5
 subst e5
 exact hq
theorem sCmpP : Sound Tryz.prog 133 SCmpP := by
 refine sound_of (C := CCmpP) tabCmpP Tryz.func133 (by kernel_rfl) (by decide +kernel) (by kernel_rfl) rfl ⟨sSgn, sProd, sCmp, trivial⟩ (loops0 (by kernel_rfl)) ?_
 intro hargs pars R h
 unfold SCmpP at h
 split at h
 case h_2 => exfalso; exact h
 rename_i a b c d
 obtain ⟨⟨ha, hb, hc, hd⟩, _, hR⟩ := h
 refine byVC (vcCmpP a b c d R) ⟨trivial, fun x1 e1 => ⟨trivial, fun x2 e2 => ⟨fun _ => hR _ trivial, fun _ => ⟨fun _ => hR _ trivial, fun _ => ⟨⟨ha, hb⟩, fun x3 e3 => ⟨⟨hc, hd⟩, fun x4 e4 => ?_⟩⟩⟩⟩⟩⟩
 have l3 := lim_len 8 _ (prod_lim ha hb)
 have l4 := lim_len 8 _ (prod_lim hc hd)
 subst e3 e4
 refine ⟨⟨by rw [dv_lim], by rw [dv_lim], by omega, by omega⟩, fun x5 e5 => ?_⟩
 have b5 := cmp3_bd (dv (lim (a.natAbs * b.natAbs))) (dv (lim (c.natAbs * d.natAbs)))
 rw [<- e5] at b5
 have s := sgn2_bd a b
 rw [<- e1] at s
 have bb : -1 <= x1 * x5 /\ x1 * x5 <= 1 := by rcases s with h | h | h <;> rw [h] <;> omega
 exact ⟨by omega, fun x6 _ => hR x6 trivial⟩
end Go.Proofs.YtoekmphdpepdbaaGreat
namespace U
open Go
def nice (k0 f0 f1 f2 t0 t1 t2 c0 c1 c2 dr fd bl : Int) : Prop :=
 (1 <= k0 /\ k0 <= 3) /\ b3 256 f0 f1 f2 /\ b3 256 t0 t1 t2 /\ b3 256 c0 c1 c2 /\ (-1 <= dr /\ dr <= 1) /\ (0 <= fd /\ fd <= 60000000) /\ (0 <= bl /\ bl <= 1000)
end U
namespace Go.Proofs.YtoekmphdpepdbaaGreat
open Go Go.HL U
def SMotion (hA : List HV) (pA : List (List HC)) : SR :=
 match hA, pA with
 | [.ce (.int .i64 k)], [] => .det (1 <= k /\ k <= 6) ⟨.ce (.bool true), false, [], []⟩
 | _, _ => .fail
noncomputable def CMotion : Ctx := ⟨Tryz.prog, gam [], Tryz.f66.ntmps, [], []⟩
theorem vcMotion (k : Int) (Q : Res -> Prop) : (nfun true CMotion Tryz.f66 (bodyOf Tryz.f66) [.ce (I6 k)] [] Q) =
 (Br (k >= 1) (Q ⟨.ce (.bool (decide (k <= 6))), false, [], []⟩) (Q ⟨.ce (.bool false), false, [], []⟩)) := by kernel_rfl
def SValid (hA : List HV) (pA : List (List HC)) : SR :=
 match hA, pA with
 | [.agg [.int .i64 k0, .int .i64 bk, .int .i64 f0, .int .i64 f1, .int .i64 f2, .int .i64 t0, .int .i64 t1, .int .i64 t2, .int .i64 pl, .int .i64 c0, .int .i64 c1, .int .i64 c2, .int .i64 dr, .bool fu, .int .i64 fd, .bool pr, .int .i64 sd, .int .i64 ra, .int .i64 bl, .int .i64 nn, .int .i64 sp, .bool on]], [] => .all (nice k0 f0 f1 f2 t0 t1 t2 c0 c1 c2 dr fd bl) Bool (fun x => k0 ≠ 3 -> x = true) (fun x => ⟨.ce (.bool x), false, [], []⟩)
 | _, _ => .fail
def tabValid : List (FuncId × HL.Spec) := [(66, SMotion), (130, SWithin), (131, SEnd1), (132, SDot), (133, SCmpP), (134, SCross)]
def anV5 : LAnn := ⟨[1, 2], [1, 2, 55], [1000001], false⟩
def LV5 (v : LV) : LR :=
 match v with
 | ([.ce (.ptr 1000001 0), .ce (.bool z)], [[.int .i64 k0, .int .i64 bk, .int .i64 f0, .int .i64 f1, .int .i64 f2, .int .i64 t0, .int .i64 t1, .int .i64 t2, .int .i64 pl, .int .i64 c0, .int .i64 c1, .int .i64 c2, .int .i64 dr, .bool fu, .int .i64 fd, .bool pr, .int .i64 sd, .int .i64 ra, .int .i64 bl, .int .i64 nn, .int .i64 sp, .bool on]]) => .all (b3 1048576 c0 c1 c2) Bool (fun _ => True) (fun _ => .normal) (fun b => ([.ce (.ptr 1000001 0), .ce (.bool z), .ce (.bool b)], [[I6 k0, I6 bk, I6 f0, I6 f1, I6 f2, I6 t0, I6 t1, I6 t2, I6 pl, I6 c0, I6 c1, I6 c2, I6 dr, .bool fu, I6 fd, .bool pr, I6 sd, I6 ra, I6 bl, I6 nn, I6 sp, .bool on]]))
 | _ => .fail
noncomputable def CValid : Ctx := ⟨Tryz.prog, gam tabValid, Tryz.f118.ntmps, [(3000005, anV5, LV5)], []⟩
theorem vgV5 (k0 bk f0 f1 f2 t0 t1 t2 pl c0 c1 c2 dr fd sd ra bl nn sp : Int) (fu pr on : Bool) (z : Bool) (K : HEx -> LV -> Prop) : (nfragT true CValid anV5 (nthFrag CValid Tryz.f118 0) (([.ce (.ptr 1000001 0), .ce (.bool z)], [[I6 k0, I6 bk, I6 f0, I6 f1, I6 f2, I6 t0, I6 t1, I6 t2, I6 pl, I6 c0, I6 c1, I6 c2, I6 dr, .bool fu, I6 fd, .bool pr, I6 sd, I6 ra, I6 bl, I6 nn, I6 sp, .bool on]])) K) =
 (Bb (pl != 17) (Bb (pl != 18) (Bb (pl != 19) (K .normal ([.ce (.ptr 1000001 0), .ce (.bool z), .ce (.bool true)], [[I6 k0, I6 bk, I6 f0, I6 f1, I6 f2, I6 t0, I6 t1, I6 t2, I6 pl, I6 c0, I6 c1, I6 c2, I6 dr, .bool fu, I6 fd, .bool pr, I6 sd, I6 ra, I6 bl, I6 nn, I6 sp, .bool on]])) (Bb (dr != 1) (Bb (dr != (-1 : Int)) (K .normal ([.ce (.ptr 1000001 0), .ce (.bool z), .ce (.bool true)], [[I6 k0, I6 bk, I6 f0, I6 f1, I6 f2, I6 t0, I6 t1, I6 t2, I6 pl, I6 c0, I6 c1, I6 c2, I6 dr, .bool fu, I6 fd, .bool pr, I6 sd, I6 ra, I6 bl, I6 nn, I6 sp, .bool on]])) (b3 1048576 c0 c1 c2 /\ ∀ (x1 : Bool), x1 = true -> K .normal ([.ce (.ptr 1000001 0), .ce (.bool z), .ce (.bool !x1)], [[I6 k0, I6 bk, I6 f0, I6 f1, I6 f2, I6 t0, I6 t1, I6 t2, I6 pl, I6 c0, I6 c1, I6 c2, I6 dr, .bool fu, I6 fd, .bool pr, I6 sd, I6 ra, I6 bl, I6 nn, I6 sp, .bool on]]))) (b3 1048576 c0 c1 c2 /\ ∀ (x2 : Bool), x2 = true -> K .normal ([.ce (.ptr 1000001 0), .ce (.bool z), .ce (.bool !x2)], [[I6 k0, I6 bk, I6 f0, I6 f1, I6 f2, I6 t0, I6 t1, I6 t2, I6 pl, I6 c0, I6 c1, I6 c2, I6 dr, .bool fu, I6 fd, .bool pr, I6 sd, I6 ra, I6 bl, I6 nn, I6 sp, .bool on]])))) (Bb (dr != 1) (Bb (dr != (-1 : Int)) (K .normal ([.ce (.ptr 1000001 0), .ce (.bool z), .ce (.bool true)], [[I6 k0, I6 bk, I6 f0, I6 f1, I6 f2, I6 t0, I6 t1, I6 t2, I6 pl, I6 c0, I6 c1, I6 c2, I6 dr, .bool fu, I6 fd, .bool pr, I6 sd, I6 ra, I6 bl, I6 nn, I6 sp, .bool on]])) (b3 1048576 c0 c1 c2 /\ ∀ (x3 : Bool), x3 = true -> K .normal ([.ce (.ptr 1000001 0), .ce (.bool z), .ce (.bool !x3)], [[I6 k0, I6 bk, I6 f0, I6 f1, I6 f2, I6 t0, I6 t1, I6 t2, I6 pl, I6 c0, I6 c1, I6 c2, I6 dr, .bool fu, I6 fd, .bool pr, I6 sd, I6 ra, I6 bl, I6 nn, I6 sp, .bool on]]))) (b3 1048576 c0 c1 c2 /\
 ∀ (x4 : Bool), x4 = true -> K .normal ([.ce (.ptr 1000001 0), .ce (.bool z), .ce (.bool !x4)], [[I6 k0, I6 bk, I6 f0, I6 f1, I6 f2, I6 t0, I6 t1, I6 t2, I6 pl, I6 c0, I6 c1, I6 c2, I6 dr, .bool fu, I6 fd, .bool pr, I6 sd, I6 ra, I6 bl, I6 nn, I6 sp, .bool on]])))) (Bb (dr != 1) (Bb (dr != (-1 : Int)) (K .normal ([.ce (.ptr 1000001 0), .ce (.bool z), .ce (.bool true)], [[I6 k0, I6 bk, I6 f0, I6 f1, I6 f2, I6 t0, I6 t1, I6 t2, I6 pl, I6 c0, I6 c1, I6 c2, I6 dr, .bool fu, I6 fd, .bool pr, I6 sd, I6 ra, I6 bl, I6 nn, I6 sp, .bool on]])) (b3 1048576 c0 c1 c2 /\ ∀ (x5 : Bool), x5 = true ->
 K .normal ([.ce (.ptr 1000001 0), .ce (.bool z), .ce (.bool !x5)], [[I6 k0, I6 bk, I6 f0, I6 f1, I6 f2, I6 t0, I6 t1, I6 t2, I6 pl, I6 c0, I6 c1, I6 c2, I6 dr, .bool fu, I6 fd, .bool pr, I6 sd, I6 ra, I6 bl, I6 nn, I6 sp, .bool on]]))) (b3 1048576 c0 c1 c2 /\ ∀ (x6 : Bool), x6 = true -> K .normal ([.ce (.ptr 1000001 0), .ce (.bool z), .ce (.bool !x6)], [[I6 k0, I6 bk, I6 f0, I6 f1, I6 f2, I6 t0, I6 t1, I6 t2, I6 pl, I6 c0, I6 c1, I6 c2, I6 dr, .bool fu, I6 fd, .bool pr, I6 sd, I6 ra, I6 bl, I6 nn, I6 sp, .bool on]])))) := by kernel_rfl
theorem vcValid (k0 bk f0 f1 f2 t0 t1 t2 pl c0 c1 c2 dr fd sd ra bl nn sp : Int) (fu pr on : Bool) (Q : Res -> Prop) : (nfun true CValid Tryz.f118 (bodyOf Tryz.f118) [.agg [I6 k0, I6 bk, I6 f0, I6 f1, I6 f2, I6 t0, I6 t1, I6 t2, I6 pl, I6 c0, I6 c1, I6 c2, I6 dr, .bool fu, I6 fd, .bool pr, I6 sd, I6 ra, I6 bl, I6 nn, I6 sp, .bool on]] [] Q) =
 ((1 <= k0 /\ k0 <= 6) /\ ∀ (x1 : Bool), x1 = true -> Bb (!x1) (Q ⟨.ce (.bool false), false, [], []⟩) (b3 1048576 f0 f1 f2 /\ ∀ (x2 : Bool), x2 = true -> Bb (!x2) (Q ⟨.ce (.bool false), false, [], []⟩) (b3 1048576 t0 t1 t2 /\ ∀ (x3 : Bool), x3 = true -> Bb (!x3) (Q ⟨.ce (.bool false), false, [], []⟩) (Bb (k0 != 3) (Q ⟨.ce (.bool true), false, [], []⟩) (b3 1048576 c0 c1 c2 /\ ∀ (x : Bool), True -> Bb (x) (Q ⟨.ce (.bool false), false, [], []⟩) ((b3 256 f0 f1 f2 /\ b3 256 t0 t1 t2 /\ b3 256 c0 c1 c2) /\ (∃ (x : Int × Int × Int × Int × Int × Int), b3 512 x.1 x.snd.1 x.snd.snd.snd.1 /\ b3 512 x.snd.snd.snd.snd.1 x.snd.snd.snd.snd.1 x.snd.snd.snd.snd.1 /\ b3 256 x.snd.snd.1 x.snd.snd.snd.snd.2 (0 : Int)) /\ ∀ (x : Int × Int × Int × Int × Int × Int), b3 512 x.1 x.snd.1 x.snd.snd.snd.1 /\
 b3 512 x.snd.snd.snd.snd.1 x.snd.snd.snd.snd.1 x.snd.snd.snd.snd.1 /\ b3 256 x.snd.snd.1 x.snd.snd.snd.snd.2 (0 : Int) -> (((-65536 : Int) <= x.1 /\ x.1 <= 65536) /\ ((-65536 : Int) <= x.snd.1 /\ x.snd.1 <= 65536) /\ ((-65536 : Int) <= x.1 /\ x.1 <= 65536) /\ (-65536 : Int) <= x.snd.1 /\ x.snd.1 <= 65536) /\ (∃ (x_1 : Int), x_1 = x.1 * x.1 + x.snd.1 * x.snd.1 /\ -8589934592 <= x_1 /\ x_1 <= 8589934592) /\ ∀ x_1, x_1 = x.1 * x.1 + x.snd.1 * x.snd.1 /\ -8589934592 <= x_1 /\ x_1 <= 8589934592 -> (((-65536 : Int) <= x.snd.snd.snd.1 /\ x.snd.snd.snd.1 <= 65536) /\ ((-65536 : Int) <= x.snd.snd.snd.snd.1 /\ x.snd.snd.snd.snd.1 <= 65536) /\ ((-65536 : Int) <= x.snd.snd.snd.1 /\ x.snd.snd.snd.1 <= 65536) /\ (-65536 : Int) <= x.snd.snd.snd.snd.1 /\ x.snd.snd.snd.snd.1 <= 65536) /\ (∃ (x_2 : Int), x_2 = x.snd.snd.snd.1 * x.snd.snd.snd.1 + x.snd.snd.snd.snd.1 * x.snd.snd.snd.snd.1 /\ -8589934592 <= x_2 /\
 x_2 <= 8589934592) /\ ∀ x_2, x_2 = x.snd.snd.snd.1 * x.snd.snd.snd.1 + x.snd.snd.snd.snd.1 * x.snd.snd.snd.snd.1 /\ -8589934592 <= x_2 /\ x_2 <= 8589934592 -> Br (x_1 < 64) (Q ⟨.ce (.bool false), false, [], []⟩) (Br (x_2 < 64) (Q ⟨.ce (.bool false), false, [], []⟩) (R6 (x_1 + x_2) /\ ∀ x8, x8 = x_1 + x_2 -> R6 (x8 - 16) /\ ∀ x9, x9 = x8 - 16 -> Br (x9 > 0) (R6 (4 * x_1) /\ ∀ x10, x10 = 4 * x_1 -> (R6 x9 /\ R6 x9 /\ R6 x10 /\ -9223372036854775808 <= x_2 /\ x_2 <= 9223372036854775807) /\
 (∃ (x : Int), True) /\ ∀ (x_3 : Int), True -> Br (x_3 > 0) (Q ⟨.ce (.bool false), false, [], []⟩) (Bb (fu) (Bb (x.1 == x.snd.snd.snd.1) (Q ⟨.ce (.bool (x.snd.1 == x.snd.snd.snd.snd.1)), false, [], []⟩) (Q ⟨.ce (.bool false), false, [], []⟩)) ((((-65536 : Int) <= x.1 /\ x.1 <= 65536) /\ ((-65536 : Int) <= x.snd.1 /\ x.snd.1 <= 65536) /\ ((-65536 : Int) <= x.snd.snd.snd.1 /\ x.snd.snd.snd.1 <= 65536) /\ (-65536 : Int) <= x.snd.snd.snd.snd.1 /\ x.snd.snd.snd.snd.1 <= 65536) /\ (∃ (x_4 : Int), x_4 = x.1 * x.snd.snd.snd.snd.1 - x.snd.1 * x.snd.snd.snd.1 /\ -8589934592 <= x_4 /\ x_4 <= 8589934592) /\ ∀ x_4, x_4 = x.1 * x.snd.snd.snd.snd.1 - x.snd.1 * x.snd.snd.snd.1 /\ -8589934592 <= x_4 /\ x_4 <= 8589934592 -> Bb (x_4 != 0) (Q ⟨.ce (.bool true), false, [], []⟩) ((((-65536 : Int) <= x.1 /\
 x.1 <= 65536) /\ ((-65536 : Int) <= x.snd.1 /\ x.snd.1 <= 65536) /\ ((-65536 : Int) <= x.snd.snd.snd.1 /\ x.snd.snd.snd.1 <= 65536) /\ (-65536 : Int) <= x.snd.snd.snd.snd.1 /\ x.snd.snd.snd.snd.1 <= 65536) /\ (∃ (x_5 : Int), x_5 = x.1 * x.snd.snd.snd.1 + x.snd.1 * x.snd.snd.snd.snd.1 /\ -8589934592 <= x_5 /\ x_5 <= 8589934592) /\ ∀ x_5, x_5 = x.1 * x.snd.snd.snd.1 + x.snd.1 * x.snd.snd.snd.snd.1 /\ -8589934592 <= x_5 /\ x_5 <= 8589934592 -> Q ⟨.ce (.bool (decide (x_5 < 0))), false, [], []⟩)))) (Bb (fu) (Bb (x.1 == x.snd.snd.snd.1) (Q ⟨.ce (.bool (x.snd.1 == x.snd.snd.snd.snd.1)), false, [], []⟩) (Q ⟨.ce (.bool false), false, [], []⟩)) ((((-65536 : Int) <= x.1 /\ x.1 <= 65536) /\ ((-65536 : Int) <= x.snd.1 /\ x.snd.1 <= 65536) /\ ((-65536 : Int) <= x.snd.snd.snd.1 /\ x.snd.snd.snd.1 <= 65536) /\ (-65536 : Int) <= x.snd.snd.snd.snd.1 /\
 x.snd.snd.snd.snd.1 <= 65536) /\ (∃ (x_3 : Int), x_3 = x.1 * x.snd.snd.snd.snd.1 - x.snd.1 * x.snd.snd.snd.1 /\ -8589934592 <= x_3 /\ x_3 <= 8589934592) /\ ∀ x_3, x_3 = x.1 * x.snd.snd.snd.snd.1 - x.snd.1 * x.snd.snd.snd.1 /\ -8589934592 <= x_3 /\ x_3 <= 8589934592 -> Bb (x_3 != 0) (Q ⟨.ce (.bool true), false, [], []⟩) ((((-65536 : Int) <= x.1 /\ x.1 <= 65536) /\ ((-65536 : Int) <= x.snd.1 /\ x.snd.1 <= 65536) /\ ((-65536 : Int) <= x.snd.snd.snd.1 /\ x.snd.snd.snd.1 <= 65536) /\ (-65536 : Int) <= x.snd.snd.snd.snd.1 /\ x.snd.snd.snd.snd.1 <= 65536) /\ (∃ (x_4 : Int), x_4 = x.1 * x.snd.snd.snd.1 + x.snd.1 * x.snd.snd.snd.snd.1 /\ -8589934592 <= x_4 /\ x_4 <= 8589934592) /\ ∀ x_4, x_4 = x.1 * x.snd.snd.snd.1 + x.snd.1 * x.snd.snd.snd.snd.1 /\ -8589934592 <= x_4 /\ x_4 <= 8589934592 -> Q ⟨.ce (.bool (decide (x_4 < 0))), false, [], []⟩))))))))))) := by kernel_rfl
def SSpokes (hA : List HV) (pA : List (List HC)) : SR :=
 match hA, pA with
 | [.agg [.int .i64 k0, .int .i64 bk, .int .i64 f0, .int .i64 f1, .int .i64 f2, .int .i64 t0, .int .i64 t1, .int .i64 t2, .int .i64 pl, .int .i64 c0, .int .i64 c1, .int .i64 c2, .int .i64 dr, .bool fu, .int .i64 fd, .bool pr, .int .i64 sd, .int .i64 ra, .int .i64 bl, .int .i64 nn, .int .i64 sp, .bool on]], [] => .all (nice k0 f0 f1 f2 t0 t1 t2 c0 c1 c2 dr fd bl) (LL × Bool) (fun x => (k0 ≠ 3 -> x.2 = false) /\ spks x.1 /\ x.1.length <= 70000)
  (fun x => ⟨.tup [.ce (.sl false [4, 4, 4, 4] x.1), .ce (.bool x.2)], false, [], []⟩)
 | _, _ => .fail
def tabSpokes : List (FuncId × HL.Spec) := [(118, SValid), (135, SEnds), (136, SPcs 16)]
noncomputable def CSpokes : Ctx := ⟨Tryz.prog, gam tabSpokes, Tryz.f119.ntmps, [], []⟩
theorem vcSpokes (k0 bk f0 f1 f2 t0 t1 t2 pl c0 c1 c2 dr fd sd ra bl nn sp : Int) (fu pr on : Bool) (Q : Res -> Prop) : (nfun true CSpokes Tryz.f119 (bodyOf Tryz.f119) [.agg [I6 k0, I6 bk, I6 f0, I6 f1, I6 f2, I6 t0, I6 t1, I6 t2, I6 pl, I6 c0, I6 c1, I6 c2, I6 dr, .bool fu, I6 fd, .bool pr, I6 sd, I6 ra, I6 bl, I6 nn, I6 sp, .bool on]] [] Q) =
 (Bb (k0 != 3) (Q ⟨.tup [.ce (.sl false [4, 4, 4, 4] []), .ce (.bool false)], false, [], []⟩) (nice k0 f0 f1 f2 t0 t1 t2 c0 c1 c2 dr fd bl /\ (∃ (x : Bool), k0 ≠ 3 -> x = true) /\ ∀ (x : Bool), (k0 ≠ 3 -> x = true) -> Bb (!x) (Q ⟨.tup [.ce (.sl false [4, 4, 4, 4] []), .ce (.bool false)], false, [], []⟩) ((b3 256 f0 f1 f2 /\ b3 256 t0 t1 t2 /\ b3 256 c0 c1 c2) /\ (∃ (x : (Int × Int × Int × Int) × Int × Int × Int × Int), spk x.fst.1 x.fst.snd.1 x.fst.snd.snd.1 x.fst.snd.snd.2 /\ spk x.snd.1 x.snd.snd.1 x.snd.snd.snd.1 x.snd.snd.snd.2) /\ ∀ (x : (Int × Int × Int × Int) × Int × Int × Int × Int), spk x.fst.1 x.fst.snd.1 x.fst.snd.snd.1 x.fst.snd.snd.2 /\ spk x.snd.1 x.snd.snd.1 x.snd.snd.snd.1 x.snd.snd.snd.2 -> (((0 : Int) <= 16 /\ (16 : Int) <= 16) /\ ((0 : Int) <= 0 /\ (0 : Int) <= 16 /\ (16 : Int) <= 16) /\
 spk x.fst.1 x.fst.snd.1 x.fst.snd.snd.1 x.fst.snd.snd.2 /\ spk x.snd.1 x.snd.snd.1 x.snd.snd.snd.1 x.snd.snd.snd.2 /\ -1 <= dr /\ dr <= 1) /\ (∃ (x : LL), ((1 : Nat) <= x.length /\ x.length <= 65536) /\ spks x) /\ ∀ (x_1 : LL), ((1 : Nat) <= x_1.length /\ x_1.length <= 65536) /\ spks x_1 -> (((1 : Nat) + x_1.length) * 32 <= 140737488355328 /\ (1 : Nat) + x_1.length <= maxLen) /\ Q ⟨.tup [.ce (.sl false [4, 4, 4, 4] ([[x.fst.1, x.fst.snd.1, x.fst.snd.snd.1, x.fst.snd.snd.2]] ++ x_1)), .ce (.bool true)], false, [], []⟩))) := by kernel_rfl
def SChords (hA : List HV) (pA : List (List HC)) : SR :=
 match hA, pA with
 | [.agg [.int .i64 k0, .int .i64 bk, .int .i64 f0, .int .i64 f1, .int .i64 f2, .int .i64 t0, .int .i64 t1, .int .i64 t2, .int .i64 pl, .int .i64 c0, .int .i64 c1, .int .i64 c2, .int .i64 dr, .bool fu, .int .i64 fd, .bool pr, .int .i64 sd, .int .i64 ra, .int .i64 bl, .int .i64 nn, .int .i64 sp, .bool on]], [] => .all (nice k0 f0 f1 f2 t0 t1 t2 c0 c1 c2 dr fd bl) (LL × Bool) (fun x => (k0 ≠ 3 -> x.1.length = 2) /\ ptsOK 32768 x.1 /\ x.1.length <= 70000)
  (fun x => ⟨.tup [.ce (.sl false [4, 4, 4] x.1), .ce (.bool x.2)], false, [], []⟩)
 | _, _ => .fail
def tabChords : List (FuncId × HL.Spec) := [(118, SValid), (119, SSpokes), (68, SFine), (115, SPlane), (117, SSpace)]
def anChords : LAnn := ⟨[1, 6, 7, 9, 100009, 39, 40, 41], [9, 100009], [1000001], false⟩
def LChords (v : LV) : LR :=
 match v with
 | ([.ce (.ptr 1000001 0), .ce (.int .i64 cu), .ce (.int .i64 cw), .ce (.sl false [4, 4, 4] l), .ce (.lit true), .ce (.sl false [4, 4, 4, 4] s), .ce (.int .i64 n), .ce (.int .i64 i)], [b]) =>
  match b with
  | [.int .i64 k0, .int .i64 bk, .int .i64 f0, .int .i64 f1, .int .i64 f2, .int .i64 t0, .int .i64 t1, .int .i64 t2, .int .i64 pl, .int .i64 c0, .int .i64 c1, .int .i64 c2, .int .i64 dr, .bool fu, .int .i64 fd, .bool pr, .int .i64 sd, .int .i64 ra, .int .i64 bl, .int .i64 nn, .int .i64 sp, .bool on] => .all (n = s.length /\ i = 0 /\ l.length = 0 /\ spks s /\ s.length <= 70000 /\ (-4096 <= cu /\ cu <= 4096) /\ (-4096 <= cw /\ cw <= 4096)) (LL) (fun y => ptsOK 32768 y /\ y.length = s.length) (fun _ => .exit 0)
   (fun y => ([.ce (.sl false [4, 4, 4] y), .ce (.lit true)], [[I6 k0, I6 bk, I6 f0, I6 f1, I6 f2, I6 t0, I6 t1, I6 t2, I6 pl, I6 c0, I6 c1, I6 c2, I6 dr, .bool fu, I6 fd, .bool pr, I6 sd, I6 ra, I6 bl, I6 nn, I6 sp, .bool on]]))
  | _ => .fail
 | _ => .fail
noncomputable def CChords : Ctx := ⟨Tryz.prog, gam tabChords, Tryz.f101.ntmps, [(9, anChords, LChords)], []⟩
theorem vbChords (k0 bk f0 f1 f2 t0 t1 t2 pl c0 c1 c2 dr fd sd ra bl nn sp : Int) (fu pr on : Bool) (cu cw n i : Int) (l s : LL) (K : HEx -> LV -> Prop) : (nbodyT true CChords anChords (nthLoop Tryz.f101 0) (([.ce (.ptr 1000001 0), .ce (I6 cu), .ce (I6 cw), .ce (.sl false [4, 4, 4] l), .ce (.lit true), .ce (.sl false [4, 4, 4, 4] s), .ce (I6 n), .ce (I6 i)], [[I6 k0, I6 bk, I6 f0, I6 f1, I6 f2, I6 t0, I6 t1, I6 t2, I6 pl, I6 c0, I6 c1, I6 c2, I6 dr, .bool fu, I6 fd, .bool pr, I6 sd, I6 ra, I6 bl, I6 nn, I6 sp, .bool on]])) K) =
 (Br (i < n) ((0 <= i /\ i < (s.length : Int)) /\ R6 (cu + el s i.toNat) /\ ∀ x1, x1 = cu + el s i.toNat -> R6 (cw + ec s i.toNat 1) /\ ∀ x2, x2 = cw + ec s i.toNat 1 -> True /\ (∃ (x : Int × Int × Int), ∀ (B : Int), 0 <= B -> b3 B x1 x2 (ec s i.toNat 3) -> b3 B x.1 x.snd.1 x.snd.2) /\ ∀ (x : Int × Int × Int), (∀ (B : Int), 0 <= B -> b3 B x1 x2 (ec s i.toNat 3) -> b3 B x.1 x.snd.1 x.snd.2) -> ((l.length + 1) * 24 <= 140737488355328 /\ l.length + 1 <= maxLen) /\ R6 (i + 1) /\ ∀ x6, x6 = i + 1 -> K .normal ([.ce (.ptr 1000001 0), .ce (I6 cu), .ce (I6 cw), .ce (.sl false [4, 4, 4] (l ++ [[x.1, x.snd.1, x.snd.2]])), .ce (.lit true), .ce (.sl false [4, 4, 4, 4] s), .ce (I6 n), .ce (I6 x6)], [[I6 k0, I6 bk, I6 f0, I6 f1, I6 f2, I6 t0, I6 t1, I6 t2, I6 pl, I6 c0, I6 c1, I6 c2, I6 dr, .bool fu, I6 fd, .bool pr, I6 sd, I6 ra, I6 bl, I6 nn, I6 sp, .bool on]])) (K (.exit 0) ([.ce (.sl false [4, 4, 4] l), .ce (.lit true)], [[I6 k0, I6 bk, I6 f0, I6 f1, I6 f2, I6 t0, I6 t1, I6 t2, I6 pl, I6 c0, I6 c1, I6 c2, I6 dr, .bool fu, I6 fd, .bool pr, I6 sd, I6 ra, I6 bl, I6 nn, I6 sp, .bool on]]))) := by kernel_rfl
theorem vcChords (k0 bk f0 f1 f2 t0 t1 t2 pl c0 c1 c2 dr fd sd ra bl nn sp : Int) (fu pr on : Bool) (Q : Res -> Prop) : (nfun true CChords Tryz.f101 (bodyOf Tryz.f101) [.agg [I6 k0, I6 bk, I6 f0, I6 f1, I6 f2, I6 t0, I6 t1, I6 t2, I6 pl, I6 c0, I6 c1, I6 c2, I6 dr, .bool fu, I6 fd, .bool pr, I6 sd, I6 ra, I6 bl, I6 nn, I6 sp, .bool on]] [] Q) =
 (nice k0 f0 f1 f2 t0 t1 t2 c0 c1 c2 dr fd bl /\ (∃ (x : Bool), k0 ≠ 3 -> x = true) /\ ∀ (x : Bool), (k0 ≠ 3 -> x = true) -> Bb (!x) (Q ⟨.tup [.ce (.sl false [4, 4, 4] []), .ce (.bool false)], false, [], []⟩) (nice k0 f0 f1 f2 t0 t1 t2 c0 c1 c2 dr fd bl /\ (∃ (x : LL × Bool), (k0 ≠ 3 -> x.2 = false) /\ spks x.1 /\ List.length x.1 <= 70000) /\ ∀ (x : LL × Bool), (k0 ≠ 3 -> x.2 = false) /\ spks x.1 /\ List.length x.1 <= 70000 -> Bb (!x.2) (b3 1073741824 f0 f1 f2 /\ ∀ x3, x3 = f0 * 16 -> ∀ x4, x4 = f1 * 16 -> ∀ x5, x5 = f2 * 16 -> b3 1073741824 t0 t1 t2 /\ ∀ x6, x6 = t0 * 16 -> ∀ x7, x7 = t1 * 16 -> ∀ x8, x8 = t2 * 16 -> Q ⟨.tup [.ce (.sl false [4, 4, 4] [[x3, x4, x5], [x6, x7, x8]]), .ce (.bool true)], false, [], []⟩) (b3 1073741824 c0 c1 c2 /\ ∀ x9, x9 = c0 * 16 ->
 ∀ x10, x10 = c1 * 16 -> ∀ x11, x11 = c2 * 16 -> True /\ (∃ (x : Int × Int × Int), ∀ (B : Int), 0 <= B -> b3 B x9 x10 x11 -> b3 B x.1 x.snd.1 x.snd.2) /\ ∀ (x_1 : Int × Int × Int), (∀ (B : Int), 0 <= B -> b3 B x9 x10 x11 -> b3 B x_1.1 x_1.snd.1 x_1.snd.2) -> ((List.length x.1 : Int) = (List.length x.1 : Int) /\ (0 : Int) = 0 /\ (0 : Nat) = 0 /\ spks x.1 /\ List.length x.1 <= 70000 /\ ((-4096 : Int) <= x_1.1 /\ x_1.1 <= 4096) /\ (-4096 : Int) <= x_1.snd.1 /\ x_1.snd.1 <= 4096) /\ ∀ (x_2 : LL), ptsOK (32768 : Int) x_2 /\ x_2.length = List.length x.1 -> Q ⟨.tup [.ce (.sl false [4, 4, 4] x_2), .ce (.bool true)], false, [], []⟩))) := by kernel_rfl
end Go.Proofs.YtoekmphdpepdbaaGreat
namespace U
theorem dotE {a b c d : Int} (ha : -65536 <= a /\ a <= 65536) (hb : -65536 <= b /\ b <= 65536) (hc : -65536 <= c /\ c <= 65536) (hd : -65536 <= d /\ d <= 65536) : ∃ y : Int, y = a * b + c * d /\ -8589934592 <= y /\ y <= 8589934592 := by
 have := prod_bd ha hb
 have := prod_bd hc hd
 exact ⟨_, rfl, by omega, by omega⟩
theorem crossE {a b c d : Int} (ha : -65536 <= a /\ a <= 65536) (hb : -65536 <= b /\ b <= 65536) (hc : -65536 <= c /\ c <= 65536) (hd : -65536 <= d /\ d <= 65536) : ∃ y : Int, y = a * b - c * d /\ -8589934592 <= y /\ y <= 8589934592 := by
 have := prod_bd ha hb
 have := prod_bd hc hd
 exact ⟨_, rfl, by omega, by omega⟩
theorem spks_nil : spks [] := fun j hj => absurd hj (Nat.not_lt_zero _)
theorem spk_ex8 : ∃ x : (Int × Int × Int × Int) × Int × Int × Int × Int, spk x.1.1 x.1.2.1 x.1.2.2.1 x.1.2.2.2 /\ spk x.2.1 x.2.2.1 x.2.2.2.1 x.2.2.2.2 := ⟨((0, 0, 0, 0), 0, 0, 0, 0), by unfold spk; decide⟩
theorem end_ex : ∃ y : Int × Int × Int × Int × Int × Int, b3 512 y.1 y.2.1 y.2.2.2.1 /\ b3 512 y.2.2.2.2.1 y.2.2.2.2.1 y.2.2.2.2.1 /\ b3 256 y.2.2.1 y.2.2.2.2.2 0 := ⟨(0, 0, 0, 0, 0, 0), by unfold b3; decide⟩
end U
namespace Go.Proofs.YtoekmphdpepdbaaGreat
open Go Go.HL U
attribute [local irreducible] hfun bodyT fragT
theorem sMotion : Sound Tryz.prog 66 SMotion := by
 refine sound_of (C := CMotion) [] Tryz.func66 (by kernel_rfl) (by decide +kernel) (by kernel_rfl) rfl trivial (loops0 (by kernel_rfl)) ?_
 intro hA pA R h
 unfold SMotion at h
 split at h
 case h_2 => exfalso; exact h
 rename_i k
 obtain ⟨hk, hq⟩ := h
 refine byVC (vcMotion k R) ⟨fun _ => ?_, fun g => absurd (odf g) (by omega)⟩
 rw [decide_eq_true hk.2]
 exact hq
theorem fragV5 : ∀ v Q, (LV5 v).wp Q -> fragT CValid anV5 (nthFrag CValid Tryz.f118 0) v Q := by
 intro v Q h
 unfold LV5 at h
 split at h
 case h_2 => exact h.elim
 rename_i z k0 bk f0 f1 f2 t0 t1 t2 pl c0 c1 c2 dr fu fd pr sd ra bl nn sp on
 obtain ⟨hc, hq⟩ := h
 refine byVG (vgV5 k0 bk f0 f1 f2 t0 t1 t2 pl c0 c1 c2 dr fd sd ra bl nn sp fu pr on z Q) ?_
 repeat' first
  | exact hq _ trivial
  | exact hc
  | (refine And.intro ?_ ?_)
  | intro _
set_option maxHeartbeats 2000000 in
theorem sValid : Sound Tryz.prog 118 SValid := by
 refine sound_of (C := CValid) tabValid Tryz.func118 (by kernel_rfl) (by decide +kernel) (by kernel_rfl) rfl ⟨sMotion, sWithin, sEnd1, sDot, sCmpP, sCross, trivial⟩ (loopsG [] [nthFrag CValid Tryz.f118 0] (by kernel_rfl) (by kernel_rfl) trivial ⟨fragOK_of (an := anV5) (S := LV5) (by kernel_rfl) fragV5, trivial⟩) ?_
 intro hA pA R h
 unfold SValid at h
 split at h
 case h_2 => exfalso; exact h
 rename_i k0 bk f0 f1 f2 t0 t1 t2 pl c0 c1 c2 dr fu fd pr sd ra bl nn sp on
 obtain ⟨hn, _, hR⟩ := h
 obtain ⟨hk, hf, ht, hc, hd, _, _⟩ := hn
 have w : ∀ {a b c : Int}, b3 256 a b c -> b3 1048576 a b c := b3_mono (by decide)
 refine byVC (vcValid k0 bk f0 f1 f2 t0 t1 t2 pl c0 c1 c2 dr fd sd ra bl nn sp fu pr on R) ?_
 by_cases k3 : k0 = 3
 . have any : ∀ b, R ⟨.ce (.bool b), false, [], []⟩ := fun b => hR b fun e => absurd k3 e
   refine ⟨by omega, fun _ _ => ⟨fun _ => any _, fun _ => ⟨w hf, fun _ _ => ⟨fun _ => any _, fun _ => ⟨w ht, fun _ _ => ⟨fun _ => any _, fun _ => ⟨fun _ => any _, fun _ => ?_⟩⟩⟩⟩⟩⟩⟩
   have T : ∀ x : Int × Int × Int × Int × Int × Int, b3 512 x.1 x.2.1 x.2.2.2.1 /\ b3 512 x.2.2.2.2.1 x.2.2.2.2.1 x.2.2.2.2.1 /\ b3 256 x.2.2.1 x.2.2.2.2.2 0 ->
    (-65536 <= x.1 /\ x.1 <= 65536) /\ (-65536 <= x.2.1 /\ x.2.1 <= 65536) /\ (-65536 <= x.2.2.2.1 /\ x.2.2.2.1 <= 65536) /\ (-65536 <= x.2.2.2.2.1 /\ x.2.2.2.2.1 <= 65536) := fun x hx => by
    unfold b3 at hx; omega
   repeat' first
    | exact any _
    | exact end_ex
    | exact w hc
    | exact ⟨hf, ht, hc⟩
    | exact ⟨(0 : Int), trivial⟩
    | exact dotE (by assumption) (by assumption) (by assumption) (by assumption)
    | exact crossE (by assumption) (by assumption) (by assumption) (by assumption)
    | assumption
    | (refine And.intro ?_ ?_)
    | (intro (x : Int × Int × Int × Int × Int × Int) hx; obtain ⟨q1, q2, q3, q4⟩ := T x hx)
    | (intro hx)
    | omega
 . have hv : R ⟨.ce (.bool true), false, [], []⟩ := hR true fun _ => rfl
   refine ⟨by omega, ?_⟩
   rintro _ rfl
   refine ⟨fun e => (by cases e), fun _ => ⟨w hf, ?_⟩⟩
   rintro _ rfl
   refine ⟨fun e => (by cases e), fun _ => ⟨w ht, ?_⟩⟩
   rintro _ rfl
   refine ⟨fun e => (by cases e), fun _ => ⟨fun _ => hv, fun e => ?_⟩⟩
   exact absurd (by simpa using e) k3
theorem sSpokes : Sound Tryz.prog 119 SSpokes := by
 refine sound_of (C := CSpokes) tabSpokes Tryz.func119 (by kernel_rfl) (by decide +kernel) (by kernel_rfl) rfl ⟨sValid, sEnds, sPcs16, trivial⟩ (loops0 (by kernel_rfl)) ?_
 intro hA pA R h
 unfold SSpokes at h
 split at h
 case h_2 => exfalso; exact h
 rename_i k0 bk f0 f1 f2 t0 t1 t2 pl c0 c1 c2 dr fu fd pr sd ra bl nn sp on
 obtain ⟨hn, _, hR⟩ := h
 have z : R ⟨.tup [.ce (.sl false [4, 4, 4, 4] []), .ce (.bool false)], false, [], []⟩ := hR ([], false) ⟨fun _ => rfl, spks_nil, Nat.zero_le _⟩
 refine byVC (vcSpokes k0 bk f0 f1 f2 t0 t1 t2 pl c0 c1 c2 dr fd sd ra bl nn sp fu pr on R) ⟨fun _ => z, fun g => ⟨hn, ⟨true, fun _ => rfl⟩, fun x _ => ⟨fun _ => z, fun _ => ⟨⟨hn.2.1, hn.2.2.1, hn.2.2.2.1⟩, spk_ex8, fun y hy => ⟨⟨by decide, by decide, hy.1, hy.2, hn.2.2.2.2.1⟩, ⟨[[0, 0, 0, 0]], by decide, spks_one (by unfold spk; decide)⟩, fun l hl => ⟨⟨by omega, by unfold maxLen; omega⟩, ?_⟩⟩⟩⟩⟩⟩
 have k3 : k0 = 3 := by simpa using g
 exact hR ([[y.1.1, y.1.2.1, y.1.2.2.1, y.1.2.2.2]] ++ l, true) ⟨fun e => absurd k3 e, spks_app (spks_one hy.1) hl.2, by show (_ ++ l).length <= 70000; rw [List.length_append]; show 1 + l.length <= 70000; omega⟩
theorem loopChords : ∀ v Q, (LChords v).wp Q -> hloop CChords anChords (nthLoop Tryz.f101 0) v Q := by
 intro v Q h
 unfold LChords at h
 split at h
 case h_2 => exact h.elim
 split at h
 case h_2 => exact h.elim
 rename_i cu cw l s n i _ k0 bk f0 f1 f2 t0 t1 t2 pl c0 c1 c2 dr fu fd pr sd ra bl nn sp on
 obtain ⟨⟨rfl, rfl, hl, hs, hsl, hcu, hcw⟩, hq⟩ := h
 refine hloop_rec (σ := LL × Nat) (fun z => ([.ce (.ptr 1000001 0), .ce (I6 cu), .ce (I6 cw), .ce (.sl false [4, 4, 4] z.1), .ce (.lit true), .ce (.sl false [4, 4, 4, 4] s), .ce (I6 s.length), .ce (I6 (z.2 : Int))], [[I6 k0, I6 bk, I6 f0, I6 f1, I6 f2, I6 t0, I6 t1, I6 t2, I6 pl, I6 c0, I6 c1, I6 c2, I6 dr, .bool fu, I6 fd, .bool pr, I6 sd, I6 ra, I6 bl, I6 nn, I6 sp, .bool on]]))
  (fun z => s.length - z.2) (fun z => z.2 <= s.length /\ z.1.length = z.2 /\ ptsOK 32768 z.1) ?_ (l, 0) ⟨Nat.zero_le _, hl, fun j hj => absurd (show j < l.length from hj) (by omega)⟩
 rintro ⟨l, k⟩ ⟨hk, hlk, hl⟩ K hn hx _
 dsimp only at hk hlk hl hn ⊢
 refine byVB (vbChords k0 bk f0 f1 f2 t0 t1 t2 pl c0 c1 c2 dr fd sd ra bl nn sp fu pr on cu cw s.length k l s K) ⟨fun g => ?_, fun g => ?_⟩
 . have g := odt g
   have hks : k < s.length := by omega
   have sk := hs k hks
   have sk0 : -12288 <= el s k /\ el s k <= 12288 := sk.1
   obtain ⟨_, sk1, _, sk3⟩ := sk
   have ht : Int.toNat (k : Int) = k := rfl
   rw [ht]
   refine ⟨by omega, by omega, fun x1 e1 => ⟨by omega, fun x2 e2 => ⟨trivial, ⟨(x1, x2, ec s k 3), fun B _ hB => hB⟩, fun y hy => ?_⟩⟩⟩
   have yb := hy 32768 (by decide) (by unfold b3; omega)
   refine ⟨⟨show (l.length + 1) * 24 <= 140737488355328 by omega, by unfold maxLen; omega⟩, by omega, fun x6 e6 => ?_⟩
   rw [show x6 = ((k + 1 : Nat) : Int) by omega]
   exact hn (l ++ [[y.1, y.2.1, y.2.2]], k + 1) ⟨hks, by simp; omega, ptsOK_app hl yb⟩ (by dsimp only; omega)
 . have g := odf g
   exact hx _ _ (hq l ⟨hl, by omega⟩)
theorem sChords : Sound Tryz.prog 101 SChords := by
 refine sound_of (C := CChords) tabChords Tryz.func101 (by kernel_rfl) (by decide +kernel) (by kernel_rfl) rfl ⟨sValid, sSpokes, sFine, sPlane, sSpace, trivial⟩ (loops1 (by kernel_rfl) (loopOK_of (an := anChords) (S := LChords) (by kernel_rfl) loopChords)) ?_
 intro hA pA R h
 unfold SChords at h
 split at h
 case h_2 => exfalso; exact h
 rename_i k0 bk f0 f1 f2 t0 t1 t2 pl c0 c1 c2 dr fu fd pr sd ra bl nn sp on
 obtain ⟨hn, _, hR⟩ := h
 obtain ⟨hk, hf, ht, hc, _⟩ := id hn
 have w : ∀ {a b c : Int}, b3 256 a b c -> b3 1073741824 a b c := b3_mono (by decide)
 refine byVC (vcChords k0 bk f0 f1 f2 t0 t1 t2 pl c0 c1 c2 dr fd sd ra bl nn sp fu pr on R) ⟨hn, ⟨true, fun _ => rfl⟩, fun x hx => ⟨fun g => ?_, fun _ => ⟨hn, ⟨([], false), fun _ => rfl, spks_nil, Nat.zero_le _⟩, fun y hy => ⟨fun _ => ⟨w hf, fun x3 e3 x4 e4 x5 e5 => ⟨w ht, fun x6 e6 x7 e7 x8 e8 => ?_⟩⟩, fun g2 => ⟨w hc, fun x9 e9 x10 e10 x11 e11 => ⟨trivial, ⟨(x9, x10, x11), fun B _ hB => hB⟩, fun z hz => ?_⟩⟩⟩⟩⟩⟩
 . have xf : x = false := by simpa using g
   refine hR ([], false) ⟨fun e => ?_, ptsOK_nil, Nat.zero_le _⟩
   rw [hx e] at xf
   cases xf
 . unfold b3 at hf ht
   exact hR ([[x3, x4, x5], [x6, x7, x8]], true) ⟨fun _ => rfl, ptsOK_app (l := [[x3, x4, x5]]) (ptsOK_app ptsOK_nil (by unfold b3; omega)) (by unfold b3; omega), show (2 : Nat) <= 70000 by decide⟩
 . have zb := hz 4096 (by decide) (by unfold b3 at hc ⊢; omega)
   refine ⟨⟨rfl, rfl, rfl, hy.2.1, hy.2.2, zb.1, zb.2.1⟩, fun l hl => hR (l, true) ⟨fun e => ?_, hl.1, ?_⟩⟩
   . have : y.2 = true := by simpa using g2
     rw [hy.1 e] at this
     cases this
   . show l.length <= 70000
     rw [hl.2]; exact hy.2.2
end Go.Proofs.YtoekmphdpepdbaaGreat
namespace U
open Go
structure It where
 k0 : Int
 bk : Int
 f0 : Int
 f1 : Int
 f2 : Int
 t0 : Int
 t1 : Int
 t2 : Int
 pl : Int
 c0 : Int
 c1 : Int
 c2 : Int
 dr : Int
 fu : Bool
 fd : Int
 pr : Bool
 sd : Int
 ra : Int
 bl : Int
 nn : Int
 sp : Int
 on : Bool
def niceB (C : Int) (x : It) : Prop :=
 (1 <= x.k0 /\ x.k0 <= 3) /\ b3 C x.f0 x.f1 x.f2 /\ b3 C x.t0 x.t1 x.t2 /\ b3 C x.c0 x.c1 x.c2 /\ (-1 <= x.dr /\ x.dr <= 1) /\ (0 <= x.fd /\ x.fd <= 60000000) /\ (0 <= x.bl /\ x.bl <= 1000)
def grown (k a0 a1 a2 : Int) (x : It) : Prop := x.k0 = k /\ ∀ B, 0 <= B -> b3 B a0 a1 a2 -> niceB (B + 40) x
def niceAt (y : LL) (j : Nat) : Prop :=
 nice (ec y j 0) (ec y j 2) (ec y j 3) (ec y j 4) (ec y j 5) (ec y j 6) (ec y j 7) (ec y j 9) (ec y j 10) (ec y j 11) (ec y j 12) (ec y j 14) (ec y j 18)
def niceL (y : LL) : Prop := ∀ j, j < y.length -> niceAt y j
end U
namespace Go.Proofs.YtoekmphdpepdbaaGreat
open Go Go.HL U
def SArc (hA : List HV) (pA : List (List HC)) : SR :=
 match hA, pA with
 | [.ce (.ptr 0 0), .agg [.int .i64 a0, .int .i64 a1, .int .i64 a2], .ce (.int .i64 n)], [[.sl false [4] l, .int .i64 p]] =>
  .all (inSrc l p /\ b3 65536 a0 a1 a2 /\ n = 8) (It × Int) (fun x => inSrc l x.2 /\ grown 3 a0 a1 a2 x.1) (fun x => ⟨.agg [I6 x.1.k0, I6 x.1.bk, I6 x.1.f0, I6 x.1.f1, I6 x.1.f2, I6 x.1.t0, I6 x.1.t1, I6 x.1.t2, I6 x.1.pl, I6 x.1.c0, I6 x.1.c1, I6 x.1.c2, I6 x.1.dr, .bool x.1.fu, I6 x.1.fd, .bool x.1.pr, I6 x.1.sd, I6 x.1.ra, I6 x.1.bl, I6 x.1.nn, I6 x.1.sp, .bool x.1.on], false, [[.sl false [4] l, I6 x.2]], []⟩)
 | _, _ => .fail
def tabArc : List (FuncId × HL.Spec) := [(22, SNext), (115, SPlane), (116, STurned), (117, SSpace)]
noncomputable def CArc : Ctx := ⟨Tryz.prog, gam tabArc, Tryz.f98.ntmps, [], []⟩
theorem vcArc (a0 a1 a2 n p : Int) (l : LL) (Q : Res -> Prop) : (nfun true CArc Tryz.f98 (bodyOf Tryz.f98) [.ce (.ptr 0 0), .agg [I6 a0, I6 a1, I6 a2], .ce (I6 n)] [[.sl false [4] l, I6 p]] Q) =
 (((0 : Int) < 3 /\ (3 : Int) <= 4611686018427387904 /\ inSrc l p) /\ (∃ (x : Int × Int), drew l p (3 : Int) x) /\ ∀ (x : Int × Int), drew l p (3 : Int) x -> (0 <= x.1 /\ x.1 < 3) /\ ∀ x2, x2 = el [[(17 : Int)], [(18 : Int)], [(19 : Int)]] x.1.toNat -> ((0 : Int) < 2 /\ (2 : Int) <= 4611686018427387904 /\ inSrc l x.2) /\ (∃ (x_1 : Int × Int), drew l x.2 (2 : Int) x_1) /\ ∀ (x_1 : Int × Int), drew l x.2 (2 : Int) x_1 -> R6 (x_1.1 * 2) /\ ∀ x4, x4 = x_1.1 * 2 -> (-9223372036854775808 <= 1 - x4 /\ (1 : Int) - x4 <= 9223372036854775807) /\ ∀ x5, x5 = 1 - x4 -> (0 < n /\ n <= 4611686018427387904 /\ inSrc l x_1.2) /\ (∃ (x : Int × Int), drew l x_1.2 n x) /\ ∀ (x : Int × Int), drew l x_1.2 n x -> (-9223372036854775808 <= 8 + x.1 /\ (8 : Int) + x.1 <= 9223372036854775807) /\ ∀ x7, x7 = 8 + x.1 -> ((0 : Int) < 4 /\
 (4 : Int) <= 4611686018427387904 /\ inSrc l x.2) /\ (∃ (x_2 : Int × Int), drew l x.2 (4 : Int) x_2) /\ ∀ (x_2 : Int × Int), drew l x.2 (4 : Int) x_2 -> ((0 : Int) < 4 /\ (4 : Int) <= 4611686018427387904 /\ inSrc l x_2.2) /\ (∃ (x : Int × Int), drew l x_2.2 (4 : Int) x) /\ ∀ (x : Int × Int), drew l x_2.2 (4 : Int) x -> True /\ (∃ (x : Int × Int × Int), ∀ (B : Int), 0 <= B -> b3 B a0 a1 a2 -> b3 B x.1 x.snd.1 x.snd.2) /\ ∀ (x_3 : Int × Int × Int), (∀ (B : Int), 0 <= B -> b3 B a0 a1 a2 -> b3 B x_3.1 x_3.snd.1 x_3.snd.2) -> ((0 <= x7 /\ x7 <= 1073741824) /\ 0 <= x_2.1) /\ (∃ (x : Int × Int), (-x7 <= x.1 /\ x.1 <= x7) /\ -x7 <= x.2 /\ x.2 <= x7) /\ ∀ (x_4 : Int × Int), (-x7 <= x_4.1 /\ x_4.1 <= x7) /\ -x7 <= x_4.2 /\ x_4.2 <= x7 -> R6 (x_2.1 + x.1) /\ ∀ x14, x14 = x_2.1 + x.1 -> ((0 <= x7 /\ x7 <= 1073741824) /\ 0 <= x14) /\ (∃ (x : Int × Int), (-x7 <= x.1 /\
 x.1 <= x7) /\ -x7 <= x.2 /\ x.2 <= x7) /\ ∀ (x_5 : Int × Int), (-x7 <= x_5.1 /\ x_5.1 <= x7) /\ -x7 <= x_5.2 /\ x_5.2 <= x7 -> R6 (x_3.1 - x_4.1) /\ ∀ x16, x16 = x_3.1 - x_4.1 -> R6 (x_3.snd.1 - x_4.2) /\ ∀ x17, x17 = x_3.snd.1 - x_4.2 -> True /\ (∃ (x : Int × Int × Int), ∀ (B : Int), 0 <= B -> b3 B x16 x17 x_3.snd.2 -> b3 B x.1 x.snd.1 x.snd.2) /\ ∀ (x_6 : Int × Int × Int), (∀ (B : Int), 0 <= B -> b3 B x16 x17 x_3.snd.2 -> b3 B x_6.1 x_6.snd.1 x_6.snd.2) -> Br (x.1 > 0) (((0 : Int) < 3 /\ (3 : Int) <= 4611686018427387904 /\ inSrc l x.2) /\ (∃ (x_7 : Int × Int), drew l x.2 (3 : Int) x_7) /\ ∀ (x_7 : Int × Int), drew l x.2 (3 : Int) x_7 -> Bb (x_7.1 == 0) (x7 ≠ 0 /\ R6 (Int.tdiv x_5.1 x7) /\ ∀ x22, x22 = Int.tdiv x_5.1 x7 ->
 ((0 : Int) < 5 /\ (5 : Int) <= 4611686018427387904 /\ inSrc l x_7.2) /\ (∃ (x : Int × Int), drew l x_7.2 (5 : Int) x) /\ ∀ (x_8 : Int × Int), drew l x_7.2 (5 : Int) x_8 -> R6 (x22 * x_8.1) /\ ∀ x24, x24 = x22 * x_8.1 -> R6 (x_5.1 + x24) /\ ∀ x25, x25 = x_5.1 + x24 -> x7 ≠ 0 /\ R6 (Int.tdiv x_5.2 x7) /\ ∀ x26, x26 = Int.tdiv x_5.2 x7 -> ((0 : Int) < 5 /\ (5 : Int) <= 4611686018427387904 /\ inSrc l x_8.2) /\ (∃ (x : Int × Int), drew l x_8.2 (5 : Int) x) /\ ∀ (x_9 : Int × Int), drew l x_8.2 (5 : Int) x_9 -> R6 (x26 * x_9.1) /\ ∀ x28, x28 = x26 * x_9.1 -> R6 (x_5.2 + x28) /\
 ∀ x29, x29 = x_5.2 + x28 -> R6 (x_3.1 - x_4.1) /\ ∀ x30, x30 = x_3.1 - x_4.1 -> R6 (x30 + x25) /\ ∀ x31, x31 = x30 + x25 -> R6 (x_3.snd.1 - x_4.2) /\ ∀ x32, x32 = x_3.snd.1 - x_4.2 -> R6 (x32 + x29) /\ ∀ x33, x33 = x32 + x29 -> ((0 : Int) < 4 /\ (4 : Int) <= 4611686018427387904 /\ inSrc l x_9.2) /\ (∃ (x : Int × Int), drew l x_9.2 (4 : Int) x) /\ ∀ (x_10 : Int × Int), drew l x_9.2 (4 : Int) x_10 -> (0 <= x_10.1 /\ x_10.1 < 4) /\ ∀ x35, x35 = el [[(0 : Int)], [(0 : Int)], [(7 : Int)], [(-12 : Int)]] x_10.1.toNat -> R6 (x_3.snd.2 + x35) /\ ∀ x36, x36 = x_3.snd.2 + x35 ->
 True /\ (∃ (x : Int × Int × Int), ∀ (B : Int), 0 <= B -> b3 B x31 x33 x36 -> b3 B x.1 x.snd.1 x.snd.2) /\ ∀ (x_11 : Int × Int × Int), (∀ (B : Int), 0 <= B -> b3 B x31 x33 x36 -> b3 B x_11.1 x_11.snd.1 x_11.snd.2) -> Q { val := .agg [I6 3, I6 0, I6 a0, I6 a1, I6 a2, I6 x_11.1, I6 x_11.snd.1, I6 x_11.snd.2, I6 x2, I6 x_6.1, I6 x_6.snd.1, I6 x_6.snd.2, I6 x5, .bool (x.1 == 0), I6 0, .bool false, I6 0, I6 0, I6 0, I6 0, I6 0, .bool false], own := false, pars := [[.sl false [4] l, I6 x_10.2]], news := [] }) (R6 (x_3.1 - x_4.1) /\ ∀ x40, x40 = x_3.1 - x_4.1 -> R6 (x40 + x_5.1) /\ ∀ x41, x41 = x40 + x_5.1 -> (-9223372036854775808 <= x_3.snd.1 - x_4.2 /\
 x_3.snd.1 - x_4.2 <= 9223372036854775807) /\ ∀ x42, x42 = x_3.snd.1 - x_4.2 -> R6 (x42 + x_5.2) /\ ∀ x43, x43 = x42 + x_5.2 -> ((0 : Int) < 4 /\ (4 : Int) <= 4611686018427387904 /\ inSrc l x_7.2) /\ (∃ (x : Int × Int), drew l x_7.2 (4 : Int) x) /\ ∀ (x_8 : Int × Int), drew l x_7.2 (4 : Int) x_8 -> (0 <= x_8.1 /\ x_8.1 < 4) /\ ∀ x45, x45 = el [[(0 : Int)], [(0 : Int)], [(7 : Int)], [(-12 : Int)]] x_8.1.toNat -> R6 (x_3.snd.2 + x45) /\ ∀ x46, x46 = x_3.snd.2 + x45 -> True /\ (∃ (x : Int × Int × Int), ∀ (B : Int), 0 <= B -> b3 B x41 x43 x46 -> b3 B x.1 x.snd.1 x.snd.2) /\ ∀ (x_9 : Int × Int × Int), (∀ (B : Int), 0 <= B -> b3 B x41 x43 x46 -> b3 B x_9.1 x_9.snd.1 x_9.snd.2) -> Q { val := .agg [I6 3, I6 0, I6 a0, I6 a1, I6 a2, I6 x_9.1, I6 x_9.snd.1, I6 x_9.snd.2, I6 x2, I6 x_6.1, I6 x_6.snd.1, I6 x_6.snd.2, I6 x5, .bool (x.1 == 0), I6 0, .bool false, I6 0, I6 0, I6 0, I6 0, I6 0, .bool false], own := false, pars := [[.sl false [4] l, I6 x_8.2]], news := [] })) (R6 (x_3.1 - x_4.1) /\ ∀ x50, x50 = x_3.1 - x_4.1 -> R6 (x50 + x_5.1) /\ ∀ x51, x51 = x50 + x_5.1 -> R6 (x_3.snd.1 - x_4.2) /\ ∀ x52, x52 = x_3.snd.1 - x_4.2 -> R6 (x52 + x_5.2) /\ ∀ x53, x53 = x52 + x_5.2 -> ((0 : Int) < 4 /\ (4 : Int) <= 4611686018427387904 /\ inSrc l x.2) /\ (∃ (x_7 : Int × Int), drew l x.2 (4 : Int) x_7) /\ ∀ (x_7 : Int × Int), drew l x.2 (4 : Int) x_7 -> (0 <= x_7.1 /\ x_7.1 < 4) /\ ∀ x55, x55 = el [[(0 : Int)], [(0 : Int)], [(7 : Int)], [(-12 : Int)]] x_7.1.toNat -> R6 (x_3.snd.2 + x55) /\ ∀ x56, x56 = x_3.snd.2 + x55 ->
 True /\ (∃ (x : Int × Int × Int), ∀ (B : Int), 0 <= B -> b3 B x51 x53 x56 -> b3 B x.1 x.snd.1 x.snd.2) /\ ∀ (x_8 : Int × Int × Int), (∀ (B : Int), 0 <= B -> b3 B x51 x53 x56 -> b3 B x_8.1 x_8.snd.1 x_8.snd.2) -> Q { val := .agg [I6 3, I6 0, I6 a0, I6 a1, I6 a2, I6 x_8.1, I6 x_8.snd.1, I6 x_8.snd.2, I6 x2, I6 x_6.1, I6 x_6.snd.1, I6 x_6.snd.2, I6 x5, .bool (x.1 == 0), I6 0, .bool false, I6 0, I6 0, I6 0, I6 0, I6 0, .bool false], own := false, pars := [[.sl false [4] l, I6 x_7.2]], news := [] })) := by kernel_rfl
def SMot (hA : List HV) (pA : List (List HC)) : SR :=
 match hA, pA with
 | [.ce (.ptr 0 0), .agg [.int .i64 a0, .int .i64 a1, .int .i64 a2], .ce (.int .i64 k)], [[.sl false [4] l, .int .i64 p]] =>
  .all (inSrc l p /\ b3 65536 a0 a1 a2 /\ 1 <= k /\ k <= 3) (It × Int) (fun x => inSrc l x.2 /\ grown k a0 a1 a2 x.1) (fun x => ⟨.agg [I6 x.1.k0, I6 x.1.bk, I6 x.1.f0, I6 x.1.f1, I6 x.1.f2, I6 x.1.t0, I6 x.1.t1, I6 x.1.t2, I6 x.1.pl, I6 x.1.c0, I6 x.1.c1, I6 x.1.c2, I6 x.1.dr, .bool x.1.fu, I6 x.1.fd, .bool x.1.pr, I6 x.1.sd, I6 x.1.ra, I6 x.1.bl, I6 x.1.nn, I6 x.1.sp, .bool x.1.on], false, [[.sl false [4] l, I6 x.2]], []⟩)
 | _, _ => .fail
def tabMot : List (FuncId × HL.Spec) := [(22, SNext), (98, SArc)]
noncomputable def CMot : Ctx := ⟨Tryz.prog, gam tabMot, Tryz.f64.ntmps, [], []⟩
theorem vcMot (a0 a1 a2 k p : Int) (l : LL) (Q : Res -> Prop) : (nfun true CMot Tryz.f64 (bodyOf Tryz.f64) [.ce (.ptr 0 0), .agg [I6 a0, I6 a1, I6 a2], .ce (I6 k)] [[.sl false [4] l, I6 p]] Q) =
 (Bb (k == 3) ((inSrc l p /\ b3 65536 a0 a1 a2 /\ (8 : Int) = 8) /\ (∃ (x : It × Int), inSrc l x.2 /\ grown (3 : Int) a0 a1 a2 x.1) /\ ∀ (x : It × Int), inSrc l x.2 /\ grown (3 : Int) a0 a1 a2 x.1 -> Bb (k == 1) (Q { val := .agg [I6 x.1.k0, I6 x.1.bk, I6 x.1.f0, I6 x.1.f1, I6 x.1.f2, I6 x.1.t0, I6 x.1.t1, I6 x.1.t2, I6 x.1.pl, I6 x.1.c0, I6 x.1.c1, I6 x.1.c2, I6 x.1.dr, .bool x.1.fu, I6 x.1.fd, .bool x.1.pr, I6 x.1.sd, I6 x.1.ra, I6 x.1.bl, I6 x.1.nn, I6 x.1.sp, .bool x.1.on], own := false, pars := [[.sl false [4] l, I6 x.2]], news := [] }) (((0 : Int) < 5 /\ (5 : Int) <= 4611686018427387904 /\ inSrc l x.2) /\ (∃ (x_1 : Int × Int), drew l x.2 (5 : Int) x_1) /\ ∀ (x_1 : Int × Int), drew l x.2 (5 : Int) x_1 ->
 (0 <= x_1.1 /\ x_1.1 < 5) /\ ∀ x3, x3 = el [[(300000 : Int)], [(1 : Int)], [(60000 : Int)], [(2000000 : Int)], [(60000000 : Int)]] x_1.1.toNat -> ((0 : Int) < 5 /\ (5 : Int) <= 4611686018427387904 /\ inSrc l x_1.2) /\ (∃ (x : Int × Int), drew l x_1.2 (5 : Int) x) /\ ∀ (x_2 : Int × Int), drew l x_1.2 (5 : Int) x_2 -> (0 <= x_2.1 /\ x_2.1 < 5) /\ ∀ x5, x5 = el [[(0 : Int)], [(1 : Int)], [(2 : Int)], [(4 : Int)], [(9 : Int)]] x_2.1.toNat -> Bb (k == 5) (((0 : Int) < 60 /\ (60 : Int) <= 4611686018427387904 /\ inSrc l x_2.2) /\ (∃ (x : Int × Int), drew l x_2.2 (60 : Int) x) /\ ∀ (x_3 : Int × Int), drew l x_2.2 (60 : Int) x_3 -> (-9223372036854775808 <= 1 + x_3.1 /\ (1 : Int) + x_3.1 <= 9223372036854775807) /\ ∀ x7, x7 = 1 + x_3.1 -> Bb (k == 6) (((0 : Int) < 2 /\ (2 : Int) <= 4611686018427387904 /\ inSrc l x_3.2) /\ (∃ (x : Int × Int), drew l x_3.2 (2 : Int) x) /\
 ∀ (x_4 : Int × Int), drew l x_3.2 (2 : Int) x_4 -> (-9223372036854775808 <= 3 + x_4.1 /\ (3 : Int) + x_4.1 <= 9223372036854775807) /\ ∀ x9, x9 = 3 + x_4.1 -> Q { val := .agg [I6 x.1.k0, I6 x.1.bk, I6 x.1.f0, I6 x.1.f1, I6 x.1.f2, I6 x.1.t0, I6 x.1.t1, I6 x.1.t2, I6 x.1.pl, I6 x.1.c0, I6 x.1.c1, I6 x.1.c2, I6 x.1.dr, .bool x.1.fu, I6 x7, .bool true, I6 x.1.sd, I6 x.1.ra, I6 0, I6 x9, I6 x.1.sp, .bool x.1.on], own := false, pars := [[.sl false [4] l, I6 x_4.2]], news := [] }) (Q { val := .agg [I6 x.1.k0, I6 x.1.bk, I6 x.1.f0, I6 x.1.f1, I6 x.1.f2, I6 x.1.t0, I6 x.1.t1, I6 x.1.t2, I6 x.1.pl, I6 x.1.c0, I6 x.1.c1, I6 x.1.c2, I6 x.1.dr, .bool x.1.fu, I6 x7, .bool true, I6 x.1.sd, I6 x.1.ra, I6 0, I6 0, I6 x.1.sp, .bool x.1.on], own := false, pars := [[.sl false [4] l, I6 x_3.2]], news := [] })) (Bb (k == 6) (((0 : Int) < 60 /\ (60 : Int) <= 4611686018427387904 /\ inSrc l x_2.2) /\ (∃ (x : Int × Int), drew l x_2.2 (60 : Int) x) /\ ∀ (x_3 : Int × Int), drew l x_2.2 (60 : Int) x_3 -> (-9223372036854775808 <= 1 + x_3.1 /\ (1 : Int) + x_3.1 <= 9223372036854775807) /\ ∀ x11, x11 = 1 + x_3.1 -> Bb (k == 6) (((0 : Int) < 2 /\ (2 : Int) <= 4611686018427387904 /\ inSrc l x_3.2) /\ (∃ (x : Int × Int), drew l x_3.2 (2 : Int) x) /\ ∀ (x_4 : Int × Int), drew l x_3.2 (2 : Int) x_4 -> (-9223372036854775808 <= 3 + x_4.1 /\ (3 : Int) + x_4.1 <= 9223372036854775807) /\ ∀ x13, x13 = 3 + x_4.1 -> Q { val := .agg [I6 x.1.k0, I6 x.1.bk, I6 x.1.f0, I6 x.1.f1, I6 x.1.f2, I6 x.1.t0, I6 x.1.t1, I6 x.1.t2, I6 x.1.pl, I6 x.1.c0, I6 x.1.c1, I6 x.1.c2, I6 x.1.dr, .bool x.1.fu, I6 x11, .bool true, I6 x.1.sd, I6 x.1.ra, I6 0, I6 x13, I6 x.1.sp, .bool x.1.on], own := false, pars := [[.sl false [4] l, I6 x_4.2]], news := [] }) (Q { val := .agg [I6 x.1.k0, I6 x.1.bk, I6 x.1.f0, I6 x.1.f1, I6 x.1.f2, I6 x.1.t0, I6 x.1.t1, I6 x.1.t2, I6 x.1.pl, I6 x.1.c0, I6 x.1.c1, I6 x.1.c2, I6 x.1.dr, .bool x.1.fu, I6 x11, .bool true, I6 x.1.sd, I6 x.1.ra, I6 0, I6 0, I6 x.1.sp, .bool x.1.on], own := false, pars := [[.sl false [4] l, I6 x_3.2]], news := [] })) (Bb (k == 4) (Q { val := .agg [I6 x.1.k0, I6 x.1.bk, I6 x.1.f0, I6 x.1.f1, I6 x.1.f2, I6 x.1.t0, I6 x.1.t1, I6 x.1.t2, I6 x.1.pl, I6 x.1.c0, I6 x.1.c1, I6 x.1.c2, I6 x.1.dr, .bool x.1.fu, I6 x3, .bool x.1.pr, I6 x.1.sd, I6 x.1.ra, I6 0, I6 x.1.nn, I6 x.1.sp, .bool x.1.on], own := false, pars := [[.sl false [4] l, I6 x_2.2]], news := [] }) (Q { val := .agg [I6 x.1.k0, I6 x.1.bk, I6 x.1.f0, I6 x.1.f1, I6 x.1.f2, I6 x.1.t0, I6 x.1.t1, I6 x.1.t2, I6 x.1.pl, I6 x.1.c0, I6 x.1.c1, I6 x.1.c2, I6 x.1.dr, .bool x.1.fu, I6 x3, .bool x.1.pr, I6 x.1.sd, I6 x.1.ra, I6 x5, I6 x.1.nn, I6 x.1.sp, .bool x.1.on], own := false, pars := [[.sl false [4] l, I6 x_2.2]], news := [] }))))) (((0 : Int) < 25 /\ (25 : Int) <= 4611686018427387904 /\ inSrc l p) /\ (∃ (x : Int × Int), drew l p (25 : Int) x) /\ ∀ (x : Int × Int), drew l p (25 : Int) x -> R6 (a0 + x.1) /\ ∀ x15, x15 = a0 + x.1 -> R6 (x15 - 12) /\ ∀ x16, x16 = x15 - 12 -> ((0 : Int) < 25 /\
 (25 : Int) <= 4611686018427387904 /\ inSrc l x.2) /\ (∃ (x_1 : Int × Int), drew l x.2 (25 : Int) x_1) /\ ∀ (x_1 : Int × Int), drew l x.2 (25 : Int) x_1 -> R6 (a1 + x_1.1) /\ ∀ x18, x18 = a1 + x_1.1 -> R6 (x18 - 12) /\ ∀ x19, x19 = x18 - 12 -> ((0 : Int) < 3 /\ (3 : Int) <= 4611686018427387904 /\ inSrc l x_1.2) /\ (∃ (x : Int × Int), drew l x_1.2 (3 : Int) x) /\ ∀ (x : Int × Int), drew l x_1.2 (3 : Int) x -> ((0 : Int) < 9 /\ (9 : Int) <= 4611686018427387904 /\ inSrc l x.2) /\ (∃ (x_2 : Int × Int), drew l x.2 (9 : Int) x_2) /\ ∀ (x_2 : Int × Int), drew l x.2 (9 : Int) x_2 -> R6 (x.1 * x_2.1) /\ ∀ x22, x22 = x.1 * x_2.1 -> R6 (a2 + x22) /\
 ∀ x23, x23 = a2 + x22 -> ((0 : Int) < 2 /\ (2 : Int) <= 4611686018427387904 /\ inSrc l x_2.2) /\ (∃ (x : Int × Int), drew l x_2.2 (2 : Int) x) /\ ∀ (x : Int × Int), drew l x_2.2 (2 : Int) x -> R6 (8 * x.1) /\ ∀ x25, x25 = 8 * x.1 -> R6 (x23 - x25) /\ ∀ x26, x26 = x23 - x25 -> Bb (k == 1) (Q { val := .agg [I6 k, I6 0, I6 a0, I6 a1, I6 a2, I6 x16, I6 x19, I6 x26, I6 0, I6 0, I6 0, I6 0, I6 0, .bool false, I6 0, .bool false, I6 0, I6 0, I6 0, I6 0, I6 0, .bool false], own := false, pars := [[.sl false [4] l, I6 x.2]], news := [] }) (((0 : Int) < 5 /\ (5 : Int) <= 4611686018427387904 /\
 inSrc l x.2) /\ (∃ (x_3 : Int × Int), drew l x.2 (5 : Int) x_3) /\ ∀ (x_3 : Int × Int), drew l x.2 (5 : Int) x_3 -> (0 <= x_3.1 /\ x_3.1 < 5) /\ ∀ x28, x28 = el [[(300000 : Int)], [(1 : Int)], [(60000 : Int)], [(2000000 : Int)], [(60000000 : Int)]] x_3.1.toNat -> ((0 : Int) < 5 /\ (5 : Int) <= 4611686018427387904 /\ inSrc l x_3.2) /\ (∃ (x : Int × Int), drew l x_3.2 (5 : Int) x) /\ ∀ (x : Int × Int), drew l x_3.2 (5 : Int) x -> (0 <= x.1 /\ x.1 < 5) /\ ∀ x30, x30 = el [[(0 : Int)], [(1 : Int)], [(2 : Int)], [(4 : Int)], [(9 : Int)]] x.1.toNat -> Bb (k == 5) (((0 : Int) < 60 /\ (60 : Int) <= 4611686018427387904 /\ inSrc l x.2) /\ (∃ (x_4 : Int × Int), drew l x.2 (60 : Int) x_4) /\ ∀ (x_4 : Int × Int), drew l x.2 (60 : Int) x_4 -> (-9223372036854775808 <= 1 + x_4.1 /\ (1 : Int) + x_4.1 <= 9223372036854775807) /\ ∀ x32, x32 = 1 + x_4.1 -> Bb (k == 6) (((0 : Int) < 2 /\ (2 : Int) <= 4611686018427387904 /\ inSrc l x_4.2) /\ (∃ (x : Int × Int), drew l x_4.2 (2 : Int) x) /\ ∀ (x : Int × Int), drew l x_4.2 (2 : Int) x -> (-9223372036854775808 <= 3 + x.1 /\ (3 : Int) + x.1 <= 9223372036854775807) /\ ∀ x34, x34 = 3 + x.1 -> Q { val := .agg [I6 k, I6 0, I6 a0, I6 a1, I6 a2, I6 x16, I6 x19, I6 x26, I6 0, I6 0, I6 0, I6 0, I6 0, .bool false, I6 x32, .bool true, I6 0, I6 0, I6 0, I6 x34, I6 0, .bool false], own := false, pars := [[.sl false [4] l, I6 x.2]], news := [] }) (Q { val := .agg [I6 k, I6 0, I6 a0, I6 a1, I6 a2, I6 x16, I6 x19, I6 x26, I6 0, I6 0, I6 0, I6 0, I6 0, .bool false, I6 x32, .bool true, I6 0, I6 0, I6 0, I6 0, I6 0, .bool false], own := false, pars := [[.sl false [4] l, I6 x_4.2]], news := [] })) (Bb (k == 6) (((0 : Int) < 60 /\ (60 : Int) <= 4611686018427387904 /\ inSrc l x.2) /\ (∃ (x_4 : Int × Int), drew l x.2 (60 : Int) x_4) /\ ∀ (x_4 : Int × Int), drew l x.2 (60 : Int) x_4 -> (-9223372036854775808 <= 1 + x_4.1 /\ (1 : Int) + x_4.1 <= 9223372036854775807) /\ ∀ x36, x36 = 1 + x_4.1 -> Bb (k == 6) (((0 : Int) < 2 /\ (2 : Int) <= 4611686018427387904 /\ inSrc l x_4.2) /\ (∃ (x : Int × Int), drew l x_4.2 (2 : Int) x) /\ ∀ (x : Int × Int), drew l x_4.2 (2 : Int) x -> (-9223372036854775808 <= 3 + x.1 /\ (3 : Int) + x.1 <= 9223372036854775807) /\ ∀ x38, x38 = 3 + x.1 -> Q { val := .agg [I6 k, I6 0, I6 a0, I6 a1, I6 a2, I6 x16, I6 x19, I6 x26, I6 0, I6 0, I6 0, I6 0, I6 0, .bool false, I6 x36, .bool true, I6 0, I6 0, I6 0, I6 x38, I6 0, .bool false], own := false, pars := [[.sl false [4] l, I6 x.2]], news := [] }) (Q { val := .agg [I6 k, I6 0, I6 a0, I6 a1, I6 a2, I6 x16, I6 x19, I6 x26, I6 0, I6 0, I6 0, I6 0, I6 0, .bool false, I6 x36, .bool true, I6 0, I6 0, I6 0, I6 0, I6 0, .bool false], own := false, pars := [[.sl false [4] l, I6 x_4.2]], news := [] })) (Bb (k == 4) (Q { val := .agg [I6 k, I6 0, I6 a0, I6 a1, I6 a2, I6 x16, I6 x19, I6 x26, I6 0, I6 0, I6 0, I6 0, I6 0, .bool false, I6 x28, .bool false, I6 0, I6 0, I6 0, I6 0, I6 0, .bool false], own := false, pars := [[.sl false [4] l, I6 x.2]], news := [] }) (Q { val := .agg [I6 k, I6 0, I6 a0, I6 a1, I6 a2, I6 x16, I6 x19, I6 x26, I6 0, I6 0, I6 0, I6 0, I6 0, .bool false, I6 x28, .bool false, I6 0, I6 0, I6 x30, I6 0, I6 0, .bool false], own := false, pars := [[.sl false [4] l, I6 x.2]], news := [] })))))) := by kernel_rfl
end Go.Proofs.YtoekmphdpepdbaaGreat
namespace U
theorem tdiv_one {c r : Int} (hr : 0 < r) (h1 : -r <= c) (h2 : c <= r) : -1 <= c.tdiv r /\ c.tdiv r <= 1 := by
 rw [tdiv_ite hr]
 split
 . have := Int.ediv_le_of_le_mul hr (show c <= 1 * r by omega)
   have := Int.ediv_nonneg (show 0 <= c by omega) (Int.le_of_lt hr)
   omega
 . have := Int.ediv_le_of_le_mul hr (show -c <= 1 * r by omega)
   have := Int.ediv_nonneg (show 0 <= -c by omega) (Int.le_of_lt hr)
   omega
theorem small_mul {q v m : Int} (hq : -1 <= q /\ q <= 1) (h0 : 0 <= v) (h1 : v < m) : -m < q * v /\ q * v < m := by
 have : q = -1 ∨ q = 0 ∨ q = 1 := by omega
 rcases this with rfl | rfl | rfl <;> omega
theorem rel_ex (a b c : Int) : ∃ x : Int × Int × Int, ∀ B : Int, 0 <= B -> b3 B a b c -> b3 B x.1 x.2.1 x.2.2 := ⟨(a, b, c), fun _ _ h => h⟩
theorem turn_ex {r : Int} (h : 0 <= r) : ∃ x : Int × Int, (-r <= x.1 /\ x.1 <= r) /\ -r <= x.2 /\ x.2 <= r := ⟨(0, 0), by dsimp only; omega⟩
theorem pick4 {y x : Int} (h0 : 0 <= y) (h1 : y < 4) (e : x = el [[0], [0], [7], [-12]] (Int.toNat y)) : -12 <= x /\ x <= 7 := by
 have : y = 0 ∨ y = 1 ∨ y = 2 ∨ y = 3 := by omega
 rcases this with rfl | rfl | rfl | rfl
 . have e : x = 0 := e
   omega
 . have e : x = 0 := e
   omega
 . have e : x = 7 := e
   omega
 . have e : x = -12 := e
   omega
theorem pickF {y x : Int} (h0 : 0 <= y) (h1 : y < 5) (e : x = el [[300000], [1], [60000], [2000000], [60000000]] (Int.toNat y)) : 0 <= x /\ x <= 60000000 := by
 have : y = 0 ∨ y = 1 ∨ y = 2 ∨ y = 3 ∨ y = 4 := by omega
 rcases this with rfl | rfl | rfl | rfl | rfl
 . have e : x = 300000 := e
   omega
 . have e : x = 1 := e
   omega
 . have e : x = 60000 := e
   omega
 . have e : x = 2000000 := e
   omega
 . have e : x = 60000000 := e
   omega
theorem pickB {y x : Int} (h0 : 0 <= y) (h1 : y < 5) (e : x = el [[0], [1], [2], [4], [9]] (Int.toNat y)) : 0 <= x /\ x <= 1000 := by
 have : y = 0 ∨ y = 1 ∨ y = 2 ∨ y = 3 ∨ y = 4 := by omega
 rcases this with rfl | rfl | rfl | rfl | rfl
 . have e : x = 0 := e
   omega
 . have e : x = 1 := e
   omega
 . have e : x = 2 := e
   omega
 . have e : x = 4 := e
   omega
 . have e : x = 9 := e
   omega
theorem arcTail {l : LL} {u w h a b c d q : Int} (hu : -65536 <= u /\ u <= 65536) (hw : -65536 <= w /\ w <= 65536) (hh : -65536 <= h /\ h <= 65536) (ha : -15 <= a /\ a <= 15) (hb : -15 <= b /\ b <= 15) (hc : -19 <= c /\ c <= 19) (hd : -19 <= d /\ d <= 19)
 (hq : inSrc l q) (G : Int × Int × Int -> Int × Int -> Prop) (fin : ∀ e y, inSrc l y.2 -> (∀ B, 0 <= B -> b3 B u w h -> b3 (B + 34) e.1 e.2.1 e.2.2) -> G e y) :
 ((-9223372036854775808 : Int) <= u - a /\ u - a <= (9223372036854775807 : Int)) /\ ∀ (x30 : Int), x30 = u - a -> ((-9223372036854775808 : Int) <= x30 + c /\ x30 + c <= (9223372036854775807 : Int)) /\ ∀ (x31 : Int), x31 = x30 + c -> ((-9223372036854775808 : Int) <= w - b /\ w - b <= (9223372036854775807 : Int)) /\
 ∀ (x32 : Int), x32 = w - b -> ((-9223372036854775808 : Int) <= x32 + d /\ x32 + d <= (9223372036854775807 : Int)) /\ ∀ (x33 : Int), x33 = x32 + d -> ((0 : Int) < 4 /\ (4 : Int) <= 4611686018427387904 /\ inSrc l q) /\ (∃ (x : Int × Int), drew l q 4 x) /\
 ∀ (x_10 : Int × Int), drew l q 4 x_10 -> ((0 : Int) <= x_10.1 /\ x_10.1 < ((4 : Nat) : Int)) /\ ∀ (x35 : Int), x35 = el [[0], [0], [7], [-12]] (Int.toNat x_10.1) -> ((-9223372036854775808 : Int) <= h + x35 /\ h + x35 <= (9223372036854775807 : Int)) /\ ∀ (x36 : Int), x36 = h + x35 ->
 True /\ (∃ (x : Int × Int × Int), ∀ (B : Int), 0 <= B -> b3 B x31 x33 x36 -> b3 B x.1 x.2.1 x.2.2) /\ ∀ (x_11 : Int × Int × Int), (∀ (B : Int), 0 <= B -> b3 B x31 x33 x36 -> b3 B x_11.1 x_11.2.1 x_11.2.2) -> G x_11 x_10 := by
 refine ⟨by omega, fun x30 e30 => ⟨by omega, fun x31 e31 => ⟨by omega, fun x32 e32 => ⟨by omega, fun x33 e33 => ⟨⟨by decide, by decide, hq⟩, drew_ex _ _ (by decide), fun y hy => ?_⟩⟩⟩⟩⟩
 have y0 := hy.1
 have y1 := hy.2.1
 refine ⟨⟨y0, by omega⟩, fun x35 e35 => ?_⟩
 have p := pick4 y0 y1 e35
 exact ⟨by omega, fun x36 e36 => ⟨trivial, rel_ex _ _ _, fun e he => fin e y (drew_src hq hy) fun B h0 hB => he (B + 34) (by omega) (by unfold b3 at hB ⊢; omega)⟩⟩
theorem niceB_mono {B C : Int} (h : B <= C) {x : It} (hx : niceB B x) : niceB C x :=
 ⟨hx.1, b3_mono h hx.2.1, b3_mono h hx.2.2.1, b3_mono h hx.2.2.2.1, hx.2.2.2.2⟩
theorem grown_ex {k a0 a1 a2 : Int} (hk : 1 <= k /\ k <= 3) {l : LL} {p : Int} (hp : inSrc l p) : ∃ x : It × Int, inSrc l x.2 /\ grown k a0 a1 a2 x.1 :=
 ⟨(⟨k, 0, 0, 0, 0, 0, 0, 0, 0, 0, 0, 0, 0, false, 0, false, 0, 0, 0, 0, 0, false⟩, p), hp, rfl, fun B h0 _ => by
  have z : b3 (B + 40) 0 0 0 := b3_zero (by omega)
  exact ⟨hk, z, z, z, by dsimp only; omega, by dsimp only; omega, by dsimp only; omega⟩⟩
end U
namespace Go.Proofs.YtoekmphdpepdbaaGreat
open Go Go.HL U
attribute [local irreducible] hfun bodyT fragT
set_option maxHeartbeats 1000000 in
theorem sArc : Sound Tryz.prog 98 SArc := by
 refine sound_of (C := CArc) tabArc Tryz.func98 (by kernel_rfl) (by decide +kernel) (by kernel_rfl) rfl ⟨sNext, sPlane, sTurned, sSpace, trivial⟩ (loops0 (by kernel_rfl)) ?_
 intro hA pA R h
 unfold SArc at h
 split at h
 case h_2 => exfalso; exact h
 rename_i a0 a1 a2 n l p
 obtain ⟨⟨hp, ha, rfl⟩, _, hR⟩ := h
 refine byVC (vcArc a0 a1 a2 8 p l R) ⟨⟨by decide, by decide, hp⟩, drew_ex _ _ (by decide), fun y1 h1 => ⟨⟨h1.1, by have := h1.2.1; omega⟩, fun x2 e2 => ⟨⟨by decide, by decide, drew_src hp h1⟩, drew_ex _ _ (by decide), fun y2 h2 => ?_⟩⟩⟩
 have s1 := drew_src hp h1
 have s2 := drew_src s1 h2
 have b2 := h2.1
 have b2' := h2.2.1
 refine ⟨by omega, fun x4 e4 => ⟨by omega, fun x5 e5 => ⟨⟨by decide, by decide, s2⟩, drew_ex _ _ (by decide), fun y3 h3 => ?_⟩⟩⟩
 have s3 := drew_src s2 h3
 have b3' := h3.1
 have b3'' := h3.2.1
 refine ⟨by omega, fun x7 e7 => ⟨⟨by decide, by decide, s3⟩, drew_ex _ _ (by decide), fun y4 h4 => ?_⟩⟩
 have s4 := drew_src s3 h4
 have b4 := h4.1
 have b4' := h4.2.1
 refine ⟨⟨by decide, by decide, s4⟩, drew_ex _ _ (by decide), fun y5 h5 => ⟨trivial, rel_ex _ _ _, fun z hz => ⟨⟨by omega, b4⟩, turn_ex (by omega), fun ab hab => ?_⟩⟩⟩
 have s5 := drew_src s4 h5
 have b5 := h5.1
 have b5' := h5.2.1
 refine ⟨by omega, fun x14 e14 => ⟨⟨by omega, by omega⟩, turn_ex (by omega), fun cd hcd => ?_⟩⟩
 have zb := hz 65536 (by decide) ha
 obtain ⟨z0, z1, z2⟩ := zb
 refine ⟨by omega, fun x16 e16 => ⟨by omega, fun x17 e17 => ⟨trivial, rel_ex _ _ _, fun ce hce => ?_⟩⟩⟩
 have fin : ∀ (f : Bool) (e : Int × Int × Int) (y : Int × Int), inSrc l y.2 -> (∀ B, 0 <= B -> b3 B z.1 z.2.1 z.2.2 -> b3 (B + 34) e.1 e.2.1 e.2.2) ->
  R ⟨.agg [I6 3, I6 0, I6 a0, I6 a1, I6 a2, I6 e.1, I6 e.2.1, I6 e.2.2, I6 x2, I6 ce.1, I6 ce.2.1, I6 ce.2.2, I6 x5, .bool f, I6 0, .bool false, I6 0, I6 0, I6 0, I6 0, I6 0, .bool false], false, [[.sl false [4] l, I6 y.2]], []⟩ := by
  intro f e y hy he
  refine hR (⟨3, 0, a0, a1, a2, e.1, e.2.1, e.2.2, x2, ce.1, ce.2.1, ce.2.2, x5, f, 0, false, 0, 0, 0, 0, 0, false⟩, y.2) ⟨hy, rfl, fun B h0 hB => ?_⟩
  have zB := hz B h0 hB
  have eB := he B h0 zB
  have cB := hce (B + 15) (by omega) (by unfold b3 at zB ⊢; omega)
  exact ⟨by dsimp only; omega, b3_mono (by omega) hB, b3_mono (by omega) eB, b3_mono (by omega) cB, by dsimp only; omega, by dsimp only; omega, by dsimp only; omega⟩
 refine ⟨fun _ => ⟨⟨by decide, by decide, s5⟩, drew_ex _ _ (by decide), fun y6 h6 => ?_⟩, fun _ => ?_⟩
 . have s6 := drew_src s5 h6
   refine ⟨fun _ => ?_, fun _ => ?_⟩
   . have q1 := tdiv_one (c := cd.1) (r := x7) (by omega) (by omega) (by omega)
     have q2 := tdiv_one (c := cd.2) (r := x7) (by omega) (by omega) (by omega)
     refine ⟨by omega, by omega, fun x22 e22 => ⟨⟨by decide, by decide, s6⟩, drew_ex _ _ (by decide), fun y7 h7 => ?_⟩⟩
     have m1 := small_mul (q := x22) (v := y7.1) (m := 5) (by omega) h7.1 h7.2.1
     have s7 := drew_src s6 h7
     refine ⟨by omega, fun x24 e24 => ⟨by omega, fun x25 e25 => ⟨by omega, by omega, fun x26 e26 => ⟨⟨by decide, by decide, s7⟩, drew_ex _ _ (by decide), fun y8 h8 => ?_⟩⟩⟩⟩
     have m2 := small_mul (q := x26) (v := y8.1) (m := 5) (by omega) h8.1 h8.2.1
     have s8 := drew_src s7 h8
     refine ⟨by omega, fun x28 e28 => ⟨by omega, fun x29 e29 => ?_⟩⟩
     exact arcTail z0 z1 z2 (by omega) (by omega) (by omega) (by omega) s8 _ (fin _)
   . exact arcTail z0 z1 z2 (by omega) (by omega) (by omega) (by omega) s6 _ (fin _)
 . exact arcTail z0 z1 z2 (by omega) (by omega) (by omega) (by omega) s5 _ (fin _)
set_option maxHeartbeats 1000000 in
theorem sMot : Sound Tryz.prog 64 SMot := by
 refine sound_of (C := CMot) tabMot Tryz.func64 (by kernel_rfl) (by decide +kernel) (by kernel_rfl) rfl ⟨sNext, sArc, trivial⟩ (loops0 (by kernel_rfl)) ?_
 intro hA pA R h
 unfold SMot at h
 split at h
 case h_2 => exfalso; exact h
 rename_i a0 a1 a2 k l p
 obtain ⟨⟨hp, ha, hk0, hk1⟩, _, hR⟩ := h
 have no : ∀ c : Int, k ≠ c -> (k == c) = true -> False := fun c hc e => hc (by simpa using e)
 have hab := ha
 unfold b3 at hab
 refine byVC (vcMot a0 a1 a2 k p l R) ⟨fun g => ⟨⟨hp, ha, rfl⟩, grown_ex (by decide) hp, fun x hx => ?_⟩, fun g => ?_⟩
 . have k3 : k = 3 := by simpa using g
   obtain ⟨s0, hx0, hx1⟩ := hx
   refine ⟨fun g1 => (no 1 (by omega) g1).elim, fun _ => ⟨⟨by decide, by decide, s0⟩, drew_ex _ _ (by decide), fun y1 h1 => ⟨⟨h1.1, by have := h1.2.1; omega⟩, fun x3 e3 => ⟨⟨by decide, by decide, drew_src s0 h1⟩, drew_ex _ _ (by decide), fun y2 h2 => ⟨⟨h2.1, by have := h2.2.1; omega⟩, fun x5 e5 => ⟨fun g5 => (no 5 (by omega) g5).elim, fun _ => ⟨fun g6 => (no 6 (by omega) g6).elim, fun _ => ⟨fun g4 => (no 4 (by omega) g4).elim, fun _ => ?_⟩⟩⟩⟩⟩⟩⟩⟩
   have pf := pickF h1.1 h1.2.1 e3
   have pb := pickB h2.1 h2.2.1 e5
   refine hR ({ x.1 with fd := x3, bl := x5 }, y2.2) ⟨drew_src (drew_src s0 h1) h2, by rw [k3]; exact hx0, fun B h0 hB => ?_⟩
   obtain ⟨n1, n2, n3, n4, n5, _, _⟩ := hx1 B h0 hB
   exact ⟨n1, n2, n3, n4, n5, pf, pb⟩
 . have s0 := hp
   refine ⟨⟨by decide, by decide, s0⟩, drew_ex _ _ (by decide), fun y1 h1 => ?_⟩
   have s1 := drew_src s0 h1
   have b1 := h1.1
   have b1' := h1.2.1
   refine ⟨by omega, fun x15 e15 => ⟨by omega, fun x16 e16 => ⟨⟨by decide, by decide, s1⟩, drew_ex _ _ (by decide), fun y2 h2 => ?_⟩⟩⟩
   have s2 := drew_src s1 h2
   have b2 := h2.1
   have b2' := h2.2.1
   refine ⟨by omega, fun x18 e18 => ⟨by omega, fun x19 e19 => ⟨⟨by decide, by decide, s2⟩, drew_ex _ _ (by decide), fun y3 h3 => ⟨⟨by decide, by decide, drew_src s2 h3⟩, drew_ex _ _ (by decide), fun y4 h4 => ?_⟩⟩⟩⟩
   have s4 := drew_src (drew_src s2 h3) h4
   have m4 := mulbd h3.1 (show y3.1 <= 2 by have := h3.2.1; omega) h4.1 (show y4.1 <= 8 by have := h4.2.1; omega)
   refine ⟨by omega, fun x22 e22 => ⟨by omega, fun x23 e23 => ⟨⟨by decide, by decide, s4⟩, drew_ex _ _ (by decide), fun y5 h5 => ?_⟩⟩⟩
   have s5 := drew_src s4 h5
   have b5 := h5.1
   have b5' := h5.2.1
   refine ⟨by omega, fun x25 e25 => ⟨by omega, fun x26 e26 => ?_⟩⟩
   have fin : ∀ f b q : Int, inSrc l q -> (0 <= f /\ f <= 60000000) -> (0 <= b /\ b <= 1000) ->
    R ⟨.agg [I6 k, I6 0, I6 a0, I6 a1, I6 a2, I6 x16, I6 x19, I6 x26, I6 0, I6 0, I6 0, I6 0, I6 0, .bool false, I6 f, .bool false, I6 0, I6 0, I6 b, I6 0, I6 0, .bool false], false, [[.sl false [4] l, I6 q]], []⟩ := by
    intro f b q hq hf hb
    refine hR (⟨k, 0, a0, a1, a2, x16, x19, x26, 0, 0, 0, 0, 0, false, f, false, 0, 0, b, 0, 0, false⟩, q) ⟨hq, rfl, fun B h0 hB => ?_⟩
    exact ⟨⟨hk0, hk1⟩, b3_mono (by omega) hB, by unfold b3 at hB ⊢; dsimp only; omega, b3_zero (by omega), by dsimp only; omega, hf, hb⟩
   refine ⟨fun _ => fin 0 0 _ s5 (by decide) (by decide), fun _ => ⟨⟨by decide, by decide, s5⟩, drew_ex _ _ (by decide), fun y6 h6 => ⟨⟨h6.1, by have := h6.2.1; omega⟩, fun x28 e28 => ⟨⟨by decide, by decide, drew_src s5 h6⟩, drew_ex _ _ (by decide), fun y7 h7 => ⟨⟨h7.1, by have := h7.2.1; omega⟩, fun x30 e30 => ⟨fun g5 => (no 5 (by omega) g5).elim, fun _ => ⟨fun g6 => (no 6 (by omega) g6).elim, fun _ => ⟨fun g4 => (no 4 (by omega) g4).elim, fun _ => ?_⟩⟩⟩⟩⟩⟩⟩⟩
   exact fin x28 x30 _ (drew_src (drew_src s5 h6) h7) (pickF h6.1 h6.2.1 e28) (pickB h7.1 h7.2.1 e30)
end Go.Proofs.YtoekmphdpepdbaaGreat
namespace U
theorem ec_app_lt {y : LL} {r : List Int} {j c : Nat} (h : j < y.length) : ec (y ++ [r]) j c = ec y j c := by
 unfold ec
 have e : (y ++ [r]).getD j [] = y.getD j [] := by rw [List.getD_eq_getElem?_getD, List.getElem?_append_left h, <- List.getD_eq_getElem?_getD]
 rw [e]
theorem ec_app_eq {y : LL} {r : List Int} {c : Nat} : ec (y ++ [r]) y.length c = r.getD c 0 := by
 unfold ec
 have : (y ++ [r]).getD y.length [] = r := by simp [List.getD_eq_getElem?_getD]
 rw [this]
theorem niceL_app {y : LL} (hy : niceL y) {x : It} (hx : niceB 256 x) {b1 b2 b3 : Int} :
 niceL (y ++ [[x.k0, x.bk, x.f0, x.f1, x.f2, x.t0, x.t1, x.t2, x.pl, x.c0, x.c1, x.c2, x.dr, b1, x.fd, b2, x.sd, x.ra, x.bl, x.nn, x.sp, b3]]) := by
 intro j hj
 by_cases h : j < y.length
 . have := hy j h
   unfold niceAt at this ⊢
   simp only [ec_app_lt h]
   exact this
 . have : j = y.length := by simp at hj; omega
   subst this
   unfold niceAt
   simp only [ec_app_eq]
   exact hx
end U
namespace Go.Proofs.YtoekmphdpepdbaaGreat
open Go Go.HL U
def SSmooth (hargs : List HV) (pars : List (List HC)) : SR :=
 match hargs, pars with
 | [.agg [.int .i64 k0, .int .i64 bk, .int .i64 f0, .int .i64 f1, .int .i64 f2, .int .i64 t0, .int .i64 t1, .int .i64 t2, .int .i64 pl, .int .i64 c0, .int .i64 c1, .int .i64 c2, .int .i64 dr, .bool fu, .int .i64 fd, .bool pr, .int .i64 sd, .int .i64 ra, .int .i64 bl, .int .i64 nn, .int .i64 sp, .bool on]], [] => .all True Bool (fun x => x = true -> k0 = 2) (fun x => ⟨.ce (.bool x), false, [], []⟩)
 | _, _ => .fail
noncomputable def CSmooth : Ctx := ⟨Tryz.prog, gam [], Tryz.f102.ntmps, [], []⟩
theorem vcSmooth (k0 bk f0 f1 f2 t0 t1 t2 pl c0 c1 c2 dr fd sd ra bl nn sp : Int) (fu pr on : Bool) (Q : Res -> Prop) : (nfun true CSmooth Tryz.f102 (bodyOf Tryz.f102) [.agg [I6 k0, I6 bk, I6 f0, I6 f1, I6 f2, I6 t0, I6 t1, I6 t2, I6 pl, I6 c0, I6 c1, I6 c2, I6 dr, .bool fu, I6 fd, .bool pr, I6 sd, I6 ra, I6 bl, I6 nn, I6 sp, .bool on]] [] Q) =
 (Bb (k0 == 2) (Q ⟨.ce (.bool !(f0 == t0 && (f1 == t1 && (f2 == t2 && true)))), false, [], []⟩) (Q ⟨.ce (.bool false), false, [], []⟩)) := by kernel_rfl
def SCenter (hargs : List HV) (pars : List (List HC)) : SR :=
 match hargs, pars with
 | [.agg [.int .i64 k0, .int .i64 bk, .int .i64 f0, .int .i64 f1, .int .i64 f2, .int .i64 t0, .int .i64 t1, .int .i64 t2, .int .i64 pl, .int .i64 c0, .int .i64 c1, .int .i64 c2, .int .i64 dr, .bool fu, .int .i64 fd, .bool pr, .int .i64 sd, .int .i64 ra, .int .i64 bl, .int .i64 nn, .int .i64 sp, .bool on]], [] => .det (b3 256 f0 f1 f2 /\ b3 256 t0 t1 t2) ⟨.agg [I6 ((f0 + t0) * 8), I6 ((f1 + t1) * 8), I6 ((f2 + t2) * 8)], false, [], []⟩
 | _, _ => .fail
noncomputable def CCenter : Ctx := ⟨Tryz.prog, gam [], Tryz.f104.ntmps, [], []⟩
theorem vcCenter (k0 bk f0 f1 f2 t0 t1 t2 pl c0 c1 c2 dr fd sd ra bl nn sp : Int) (fu pr on : Bool) (Q : Res -> Prop) : (nfun true CCenter Tryz.f104 (bodyOf Tryz.f104) [.agg [I6 k0, I6 bk, I6 f0, I6 f1, I6 f2, I6 t0, I6 t1, I6 t2, I6 pl, I6 c0, I6 c1, I6 c2, I6 dr, .bool fu, I6 fd, .bool pr, I6 sd, I6 ra, I6 bl, I6 nn, I6 sp, .bool on]] [] Q) =
 (R6 (f0 + t0) /\ ∀ x1, x1 = f0 + t0 -> R6 (x1 * 8) /\ ∀ x2, x2 = x1 * 8 -> R6 (f1 + t1) /\ ∀ x3, x3 = f1 + t1 -> R6 (x3 * 8) /\ ∀ x4, x4 = x3 * 8 -> R6 (f2 + t2) /\ ∀ x5, x5 = f2 + t2 -> R6 (x5 * 8) /\ ∀ x6, x6 = x5 * 8 -> Q ⟨.agg [I6 x2, I6 x4, I6 x6], false, [], []⟩) := by kernel_rfl
def SRate (hargs : List HV) (pars : List (List HC)) : SR :=
 match hargs, pars with
 | [.agg [.int .i64 k0, .int .i64 bk, .int .i64 f0, .int .i64 f1, .int .i64 f2, .int .i64 t0, .int .i64 t1, .int .i64 t2, .int .i64 pl, .int .i64 c0, .int .i64 c1, .int .i64 c2, .int .i64 dr, .bool fu, .int .i64 fd, .bool pr, .int .i64 sd, .int .i64 ra, .int .i64 bl, .int .i64 nn, .int .i64 sp, .bool on], .ce (.int .i64 s)], [] => .all ((0 <= fd /\ fd <= 60000000) /\ s = 0) Int (fun x => 0 <= x /\ x <= 16777216) (fun x => ⟨.ce (I6 x), false, [], []⟩)
 | _, _ => .fail
def tabRate : List (FuncId × HL.Spec) := [(100, SRnd)]
noncomputable def CRate : Ctx := ⟨Tryz.prog, gam tabRate, Tryz.f69.ntmps, [], []⟩
theorem vcRate (s : Int) (k0 bk f0 f1 f2 t0 t1 t2 pl c0 c1 c2 dr fd sd ra bl nn sp : Int) (fu pr on : Bool) (Q : Res -> Prop) : (nfun true CRate Tryz.f69 (bodyOf Tryz.f69) [.agg [I6 k0, I6 bk, I6 f0, I6 f1, I6 f2, I6 t0, I6 t1, I6 t2, I6 pl, I6 c0, I6 c1, I6 c2, I6 dr, .bool fu, I6 fd, .bool pr, I6 sd, I6 ra, I6 bl, I6 nn, I6 sp, .bool on], .ce (I6 s)] [] Q) =
 (Bb (k0 == 1) (Q ⟨.ce (I6 0), false, [], []⟩) (Bb (pr) (∀ x1, x1 = max s 1 -> R6 (fd * x1) /\ ∀ x2, x2 = fd * x1 -> ∀ x3, x3 = min x2 60000000 -> R6 (x3 * 16) /\ ∀ x4, x4 = x3 * 16 -> R6 (x4 * 256) /\ ∀ x5, x5 = x4 * 256 -> (-2305843009213693952 <= x5 /\ x5 <= 2305843009213693952 /\ (0 : Int) < 60000 /\ (60000 : Int) <= 2305843009213693952) /\ ∀ x6, x6 = rnd x5 (60000 : Int) -> ∀ x7, x7 = max x6 1 -> Q ⟨.ce (I6 x7), false, [], []⟩) (∀ x8, x8 = min fd 60000000 -> R6 (x8 * 16) /\ ∀ x9, x9 = x8 * 16 -> (-9223372036854775808 <= x9 * 256 /\
 x9 * 256 <= 9223372036854775807) /\ ∀ x10, x10 = x9 * 256 -> (-2305843009213693952 <= x10 /\ x10 <= 2305843009213693952 /\ (0 : Int) < 60000 /\ (60000 : Int) <= 2305843009213693952) /\ ∀ x11, x11 = rnd x10 (60000 : Int) -> ∀ x12, x12 = max x11 1 -> Q ⟨.ce (I6 x12), false, [], []⟩))) := by kernel_rfl
def SSync (hargs : List HV) (pars : List (List HC)) : SR :=
 match hargs, pars with
 | [.agg [.int .i64 k0, .int .i64 bk, .int .i64 f0, .int .i64 f1, .int .i64 f2, .int .i64 t0, .int .i64 t1, .int .i64 t2, .int .i64 pl, .int .i64 c0, .int .i64 c1, .int .i64 c2, .int .i64 dr, .bool fu, .int .i64 fd, .bool pr, .int .i64 sd, .int .i64 ra, .int .i64 bl, .int .i64 nn, .int .i64 sp, .bool on]], [] => .det (1 <= k0 /\ k0 <= 3) ⟨.ce (.bool false), false, [], []⟩
 | _, _ => .fail
noncomputable def CSync : Ctx := ⟨Tryz.prog, gam [], Tryz.f70.ntmps, [], []⟩
theorem vcSync (k0 bk f0 f1 f2 t0 t1 t2 pl c0 c1 c2 dr fd sd ra bl nn sp : Int) (fu pr on : Bool) (Q : Res -> Prop) : (nfun true CSync Tryz.f70 (bodyOf Tryz.f70) [.agg [I6 k0, I6 bk, I6 f0, I6 f1, I6 f2, I6 t0, I6 t1, I6 t2, I6 pl, I6 c0, I6 c1, I6 c2, I6 dr, .bool fu, I6 fd, .bool pr, I6 sd, I6 ra, I6 bl, I6 nn, I6 sp, .bool on]] [] Q) =
 (Bb (k0 == 5) (Q ⟨.ce (.bool true), false, [], []⟩) (Q ⟨.ce (.bool (k0 == 6)), false, [], []⟩)) := by kernel_rfl
def SSoft (hargs : List HV) (pars : List (List HC)) : SR :=
 match hargs, pars with
 | [.ce (.sl false ks l), .ce (.int .i64 i)], [] => bif ksEq ks [4, 4, 4, 4, 4, 4, 4, 4, 4, 4, 4, 4, 4, 0, 4, 0, 4, 4, 4, 4, 4, 0] then .all ((0 <= i /\ i < (l.length : Int)) /\ niceL l /\ l.length <= 5) Int (fun x => -1 <= x /\ x < (l.length : Int)) (fun x => ⟨.ce (I6 x), false, [], []⟩) else .fail
 | _, _ => .fail
def tabSoft : List (FuncId × HL.Spec) := [(102, SSmooth)]
def anSoft : LAnn := ⟨[0, 4, 5], [4], [], false⟩
def LSoft (v : LV) : LR :=
 match v with
 | ([.ce (.sl false ks l), .ce (.int .i64 z), .ce (.int .i64 k)], []) => bif ksEq ks [4, 4, 4, 4, 4, 4, 4, 4, 4, 4, 4, 4, 4, 0, 4, 0, 4, 4, 4, 4, 4, 0] then
  .alts (0 <= k /\ niceL l /\ l.length <= 5) [(True, .exit 0, ([.ce (I6 z)], [])), (True, .ret, ([.ce (I6 (-1))], [])), (k < (l.length : Int), .ret, ([.ce (I6 k)], []))] else .fail
 | _ => .fail
noncomputable def CSoft : Ctx := ⟨Tryz.prog, gam tabSoft, Tryz.f73.ntmps, [(4, anSoft, LSoft)], []⟩
theorem vbSoft (z k : Int) (l : LL) (K : HEx -> LV -> Prop) : (nbodyT true CSoft anSoft (nthLoop Tryz.f73 0) (([.ce (.sl false [4, 4, 4, 4, 4, 4, 4, 4, 4, 4, 4, 4, 4, 0, 4, 0, 4, 4, 4, 4, 4, 0] l), .ce (I6 z), .ce (I6 k)], [])) K) =
 (Br (k < (l.length : Int)) ((0 <= k /\ k < (l.length : Int)) /\ ∀ x1, x1 = el l k.toNat -> Bb (x1 == 10) (R6 (k + 1) /\ ∀ x2, x2 = k + 1 -> K .normal ([.ce (.sl false [4, 4, 4, 4, 4, 4, 4, 4, 4, 4, 4, 4, 4, 0, 4, 0, 4, 4, 4, 4, 4, 0] l), .ce (I6 z), .ce (I6 x2)], [])) ((0 <= k /\ k < (l.length : Int)) /\ True /\ (∃ (x : Bool), x = true -> el l k.toNat = 2) /\ ∀ (x : Bool), (x = true -> el l k.toNat = 2) -> Bb (x) (K .ret ([.ce (I6 k)], [])) (K .ret ([.ce (I6 (-1))], [])))) (K (.exit 0) ([.ce (I6 z)], []))) := by kernel_rfl
theorem vcSoft (i : Int) (l : LL) (Q : Res -> Prop) : (nfun true CSoft Tryz.f73 (bodyOf Tryz.f73) [.ce (.sl false [4, 4, 4, 4, 4, 4, 4, 4, 4, 4, 4, 4, 4, 0, 4, 0, 4, 4, 4, 4, 4, 0] l), .ce (I6 i)] [] Q) =
 ((0 <= i /\ i < (l.length : Int)) /\ True /\ (∃ (x : Bool), x = true -> el l i.toNat = 2) /\ ∀ (x : Bool), (x = true -> el l i.toNat = 2) -> Bb (!x) (Q ⟨.ce (I6 (-1)), false, [], []⟩) ((0 <= i /\ i < (l.length : Int)) /\ ∀ x2, x2 = ec l i.toNat 18 -> Bb (x2 == 0) (Q ⟨.ce (I6 (-1)), false, [], []⟩) (R6 (i + 1) /\ ∀ x3, x3 = i + 1 -> (0 <= x3 /\ niceL l /\ l.length <= 5) /\ (True -> Q ⟨.ce (I6 (-1)), false, [], []⟩) /\ (True -> Q ⟨.ce (I6 (-1)), false, [], []⟩) /\ (x3 < (l.length : Int) -> Q ⟨.ce (I6 x3), false, [], []⟩)))) := by kernel_rfl
def SKind (hargs : List HV) (pars : List (List HC)) : SR :=
 match hargs, pars with
 | [.ce (.sl false ks l), .ce (.int .i64 i)], [] => bif ksEq ks [4, 4, 4, 4, 4, 4, 4, 4, 4, 4, 4, 4, 4, 0, 4, 0, 4, 4, 4, 4, 4, 0] then .all ((0 <= i /\ i < (l.length : Int)) /\ niceL l /\ l.length <= 5) Int (fun _ => True) (fun x => ⟨.ce (I6 x), false, [], []⟩) else .fail
 | _, _ => .fail
def tabKind : List (FuncId × HL.Spec) := [(70, SSync), (66, SMotion)]
def LKind (v : LV) : LR :=
 match v with
 | ([.ce (.sl false ks l), .ce (.int .i64 z), .ce (.int .i64 k)], []) => bif ksEq ks [4, 4, 4, 4, 4, 4, 4, 4, 4, 4, 4, 4, 4, 0, 4, 0, 4, 4, 4, 4, 4, 0] then
  .det (0 <= k /\ niceL l /\ l.length <= 5) (.exit 0) ([.ce (I6 z)], []) else .fail
 | _ => .fail
noncomputable def CKind : Ctx := ⟨Tryz.prog, gam tabKind, Tryz.f74.ntmps, [(6, anSoft, LKind)], []⟩
theorem vbKind (z k : Int) (l : LL) (K : HEx -> LV -> Prop) : (nbodyT true CKind anSoft (nthLoop Tryz.f74 0) (([.ce (.sl false [4, 4, 4, 4, 4, 4, 4, 4, 4, 4, 4, 4, 4, 0, 4, 0, 4, 4, 4, 4, 4, 0] l), .ce (I6 z), .ce (I6 k)], [])) K) =
 (Br (k < (l.length : Int)) ((0 <= k /\ k < (l.length : Int)) /\ ∀ x1, x1 = el l k.toNat -> (1 <= x1 /\ x1 <= 6) /\ ∀ (x2 : Bool), x2 = true -> Bb (x2) ((0 <= k /\ k < (l.length : Int)) /\ (1 <= el l k.toNat /\ el l k.toNat <= 3) /\ ∀ (x3 : Bool), x3 = false -> Bb (x3) (K .ret ([.ce (I6 1)], [])) (K (.exit 0) ([.ce (I6 z)], []))) (R6 (k + 1) /\ ∀ x4, x4 = k + 1 -> K .normal ([.ce (.sl false [4, 4, 4, 4, 4, 4, 4, 4, 4, 4, 4, 4, 4, 0, 4, 0, 4, 4, 4, 4, 4, 0] l), .ce (I6 z), .ce (I6 x4)], []))) (K (.exit 0) ([.ce (I6 z)], []))) := by kernel_rfl
theorem vcKind (i : Int) (l : LL) (Q : Res -> Prop) : (nfun true CKind Tryz.f74 (bodyOf Tryz.f74) [.ce (.sl false [4, 4, 4, 4, 4, 4, 4, 4, 4, 4, 4, 4, 4, 0, 4, 0, 4, 4, 4, 4, 4, 0] l), .ce (I6 i)] [] Q) =
 ((0 <= i /\ i < (l.length : Int)) /\ ∀ x1, x1 = el l i.toNat -> Bb (x1 == 4) (Q ⟨.ce (I6 6), false, [], []⟩) ((0 <= i /\ i < (l.length : Int)) /\ ∀ x2, x2 = ec l i.toNat 18 -> Bb (x2 == 0) (Q ⟨.ce (I6 1), false, [], []⟩) ((0 <= i /\ i < (l.length : Int)) /\ (1 <= el l i.toNat /\ el l i.toNat <= 3) /\ ∀ (x3 : Bool), x3 = false -> Bb (x3) (Q ⟨.ce (I6 1), false, [], []⟩) (R6 (i + 1) /\ ∀ x4, x4 = i + 1 -> (0 <= x4 /\ niceL l /\ l.length <= 5) /\ Q ⟨.ce (I6 2), false, [], []⟩)))) := by kernel_rfl
def SJoined (hargs : List HV) (pars : List (List HC)) : SR :=
 match hargs, pars with
 | [.ce (.sl false ks l), .ce (.int .i64 i), .ce (.int .i64 k)], [] => bif ksEq ks [4, 4, 4, 4, 4, 4, 4, 4, 4, 4, 4, 4, 4, 0, 4, 0, 4, 4, 4, 4, 4, 0] then .all ((0 <= i /\ i < (l.length : Int)) /\ (0 <= k /\ k < (l.length : Int)) /\ niceL l) (LL) (fun x => (1 <= x.length /\ x.length <= 128) /\ ptsOK 32768 x) (fun x => ⟨.ce (.sl false [4, 4, 4] x), true, [], []⟩) else .fail
 | _, _ => .fail
def tabJoined : List (FuncId × HL.Spec) := [(104, SCenter), (68, SFine), (120, SCorner)]
noncomputable def CJoined : Ctx := ⟨Tryz.prog, gam tabJoined, Tryz.f103.ntmps, [], []⟩
theorem vcJoined (i k : Int) (l : LL) (Q : Res -> Prop) : (nfun true CJoined Tryz.f103 (bodyOf Tryz.f103) [.ce (.sl false [4, 4, 4, 4, 4, 4, 4, 4, 4, 4, 4, 4, 4, 0, 4, 0, 4, 4, 4, 4, 4, 0] l), .ce (I6 i), .ce (I6 k)] [] Q) =
 ((0 <= i /\ i < (l.length : Int)) /\ (b3 256 (ec l i.toNat 2) (ec l i.toNat 3) (ec l i.toNat 4) /\ b3 256 (ec l i.toNat 5) (ec l i.toNat 6) (ec l i.toNat 7)) /\ ∀ x1, x1 = (ec l i.toNat 2 + ec l i.toNat 5) * 8 -> ∀ x2, x2 = (ec l i.toNat 3 + ec l i.toNat 6) * 8 -> ∀ x3, x3 = (ec l i.toNat 4 + ec l i.toNat 7) * 8 -> (0 <= i /\ i < (l.length : Int)) /\ b3 1073741824 (ec l i.toNat 5) (ec l i.toNat 6) (ec l i.toNat 7) /\ ∀ x4, x4 = ec l i.toNat 5 * 16 -> ∀ x5, x5 = ec l i.toNat 6 * 16 -> ∀ x6, x6 = ec l i.toNat 7 * 16 -> (0 <= k /\ k < (l.length : Int)) /\ (b3 256 (ec l k.toNat 2) (ec l k.toNat 3) (ec l k.toNat 4) /\ b3 256 (ec l k.toNat 5) (ec l k.toNat 6) (ec l k.toNat 7)) /\ ∀ x7, x7 = (ec l k.toNat 2 + ec l k.toNat 5) * 8 -> ∀ x8, x8 = (ec l k.toNat 3 + ec l k.toNat 6) * 8 ->
 ∀ x9, x9 = (ec l k.toNat 4 + ec l k.toNat 7) * 8 -> (0 <= i /\ i < (l.length : Int)) /\ ∀ x10, x10 = ec l i.toNat 18 -> R6 (x10 * 16) /\ ∀ x11, x11 = x10 * 16 -> ((b3 4096 x1 x2 x3 /\ b3 4096 x4 x5 x6 /\ b3 4096 x7 x8 x9) /\ 0 <= x11 /\ x11 <= 65536) /\ (∃ (x : LL), ((1 : Nat) <= x.length /\ x.length <= 128) /\ ptsOK (32768 : Int) x) /\ ∀ (x : LL), ((1 : Nat) <= x.length /\ x.length <= 128) /\ ptsOK (32768 : Int) x -> Q ⟨.ce (.sl false [4, 4, 4] x), true, [], []⟩) := by kernel_rfl
def SPoints (hargs : List HV) (pars : List (List HC)) : SR :=
 match hargs, pars with
 | [.ce (.sl false ks l), .ce (.int .i64 i), .ce (.int .i64 f)], [] => bif ksEq ks [4, 4, 4, 4, 4, 4, 4, 4, 4, 4, 4, 4, 4, 0, 4, 0, 4, 4, 4, 4, 4, 0] then .all ((0 <= i /\ i < (l.length : Int)) /\ (-1 <= f /\ f < (l.length : Int)) /\ niceL l /\ l.length <= 5) (LL × Bool) (fun x => x.1.length <= 71000 /\ ptsOK 32768 x.1) (fun x => ⟨.ce (.sl false [4, 4, 4] x.1), x.2, [], []⟩) else .fail
 | _, _ => .fail
def tabPoints : List (FuncId × HL.Spec) := [(101, SChords), (102, SSmooth), (103, SJoined), (73, SSoft), (104, SCenter)]
noncomputable def CPoints : Ctx := ⟨Tryz.prog, gam tabPoints, Tryz.f71.ntmps, [], []⟩
theorem vcPoints (i f : Int) (l : LL) (Q : Res -> Prop) : (nfun true CPoints Tryz.f71 (bodyOf Tryz.f71) [.ce (.sl false [4, 4, 4, 4, 4, 4, 4, 4, 4, 4, 4, 4, 4, 0, 4, 0, 4, 4, 4, 4, 4, 0] l), .ce (I6 i), .ce (I6 f)] [] Q) =
 ((0 <= i /\ i < (l.length : Int)) /\ nice (el l i.toNat) (ec l i.toNat 2) (ec l i.toNat 3) (ec l i.toNat 4) (ec l i.toNat 5) (ec l i.toNat 6) (ec l i.toNat 7) (ec l i.toNat 9) (ec l i.toNat 10) (ec l i.toNat 11) (ec l i.toNat 12) (ec l i.toNat 14) (ec l i.toNat 18) /\ (∃ (x : LL × Bool), (el l i.toNat ≠ 3 -> List.length x.1 = 2) /\ ptsOK (32768 : Int) x.1 /\ List.length x.1 <= 70000) /\ ∀ (x : LL × Bool), (el l i.toNat ≠ 3 -> List.length x.1 = 2) /\ ptsOK (32768 : Int) x.1 /\ List.length x.1 <= 70000 -> (0 <= i /\ i < (l.length : Int)) /\ True /\ (∃ (x : Bool), x = true -> el l i.toNat = 2) /\ ∀ (x_1 : Bool), (x_1 = true -> el l i.toNat = 2) -> Bb (!x_1) (Q ⟨.ce (.sl false [4, 4, 4] x.1), false, [], []⟩) (((0 : Int) <= 1 /\ (1 : Int) <= (List.length x.1 : Int)) /\ ((0 : Int) <= 1 /\ (1 : Int) <= (List.length x.1 : Int)) /\
 Br (f >= 0) (((0 <= f /\ f < (l.length : Int)) /\ (0 <= i /\ i < (l.length : Int)) /\ niceL l) /\ (∃ (x : LL), ((1 : Nat) <= x.length /\ x.length <= 128) /\ ptsOK (32768 : Int) x) /\ ∀ (x_2 : LL), ((1 : Nat) <= x_2.length /\ x_2.length <= 128) /\ ptsOK (32768 : Int) x_2 -> (2 : Int) ≠ (0 : Int) /\ R6 (Int.tdiv (x_2.length : Int) (2 : Int)) /\ ∀ x4, x4 = Int.tdiv (x_2.length : Int) (2 : Int) -> (0 <= x4 /\ x4 <= (x_2.length : Int)) /\ ((0 <= i /\ i < (l.length : Int)) /\ niceL l /\ l.length <= 5) /\ (∃ (x : Int), -1 <= x /\ x < (l.length : Int)) /\ ∀ (x_3 : Int), -1 <= x_3 /\ x_3 < (l.length : Int) -> Br (x_3 >= 0) (((0 <= i /\ i < (l.length : Int)) /\ (0 <= x_3 /\ x_3 < (l.length : Int)) /\
 niceL l) /\ (∃ (x : LL), ((1 : Nat) <= x.length /\ x.length <= 128) /\ ptsOK (32768 : Int) x) /\ ∀ (x : LL), ((1 : Nat) <= x.length /\ x.length <= 128) /\ ptsOK (32768 : Int) x -> (2 : Int) ≠ (0 : Int) /\ R6 (Int.tdiv (x.length : Int) (2 : Int)) /\ ∀ x7, x7 = Int.tdiv (x.length : Int) (2 : Int) -> R6 (x7 + 1) /\ ∀ x8, x8 = x7 + 1 -> (0 <= x8 /\ x8 <= (x.length : Int)) /\ (((0 : Nat) + List.length (List.drop x4.toNat x_2)) * 24 <= 140737488355328 /\ (0 : Nat) + List.length (List.drop x4.toNat x_2) <= maxLen) /\ (0 <= i /\ i < (l.length : Int)) /\ (b3 256 (ec l i.toNat 2) (ec l i.toNat 3) (ec l i.toNat 4) /\ b3 256 (ec l i.toNat 5) (ec l i.toNat 6) (ec l i.toNat 7)) /\
 ∀ x9, x9 = (ec l i.toNat 2 + ec l i.toNat 5) * 8 -> ∀ x10, x10 = (ec l i.toNat (nat_lit 3) + ec l i.toNat (nat_lit 6)) * 8 -> ∀ x11, x11 = (ec l i.toNat (nat_lit 4) + ec l i.toNat (nat_lit 7)) * 8 -> ((List.length ([] ++ List.drop x4.toNat x_2) + 1) * nat_lit 24 <= 140737488355328 /\ List.length ([] ++ List.drop x4.toNat x_2) + 1 <= maxLen) /\ ((List.length ([] ++ List.drop x4.toNat x_2 ++ [[x9, x10, x11]]) + List.length (List.take x8.toNat x)) * nat_lit 24 <= 140737488355328 /\ List.length ([] ++ List.drop x4.toNat x_2 ++ [[x9, x10, x11]]) + List.length (List.take x8.toNat x) <= maxLen) /\ Q ⟨.ce (.sl false [nat_lit 4, nat_lit 4, nat_lit 4] ([] ++ List.drop x4.toNat x_2 ++ [[x9, x10, x11]] ++ List.take x8.toNat x)), true, [], []⟩) ((((0 : Nat) + List.length (List.drop x4.toNat x_2)) * 24 <= 140737488355328 /\
 (0 : Nat) + List.length (List.drop x4.toNat x_2) <= maxLen) /\ (0 <= i /\ i < (l.length : Int)) /\ (b3 256 (ec l i.toNat 2) (ec l i.toNat 3) (ec l i.toNat 4) /\ b3 256 (ec l i.toNat 5) (ec l i.toNat 6) (ec l i.toNat 7)) /\ ∀ x12, x12 = (ec l i.toNat 2 + ec l i.toNat 5) * 8 -> ∀ x13, x13 = (ec l i.toNat 3 + ec l i.toNat 6) * 8 -> ∀ x14, x14 = (ec l i.toNat 4 + ec l i.toNat 7) * 8 -> ((List.length ([] ++ List.drop x4.toNat x_2) + 1) * 24 <= 140737488355328 /\ List.length ([] ++ List.drop x4.toNat x_2) + 1 <= maxLen) /\ ((List.length ([] ++ List.drop x4.toNat x_2 ++ [[x12, x13, x14]]) + List.length (List.drop (1 : Nat) x.1)) * 24 <= 140737488355328 /\ List.length ([] ++ List.drop x4.toNat x_2 ++ [[x12, x13, x14]]) + List.length (List.drop (1 : Nat) x.1) <= maxLen) /\ Q ⟨.ce (.sl false [4, 4, 4] ([] ++ List.drop x4.toNat x_2 ++ [[x12, x13, x14]] ++ List.drop (1 : Nat) x.1)), true, [], []⟩)) (((0 <= i /\ i < (l.length : Int)) /\ niceL l /\ l.length <= 5) /\ (∃ (x : Int), -1 <= x /\ x < (l.length : Int)) /\ ∀ (x_2 : Int), -1 <= x_2 /\ x_2 < (l.length : Int) -> Br (x_2 >= 0) (((0 <= i /\ i < (l.length : Int)) /\ (0 <= x_2 /\ x_2 < (l.length : Int)) /\ niceL l) /\ (∃ (x : LL), ((1 : Nat) <= x.length /\ x.length <= 128) /\ ptsOK (32768 : Int) x) /\ ∀ (x_3 : LL), ((1 : Nat) <= x_3.length /\ x_3.length <= 128) /\ ptsOK (32768 : Int) x_3 -> (2 : Int) ≠ (0 : Int) /\ R6 (Int.tdiv (x_3.length : Int) (2 : Int)) /\ ∀ x17, x17 = Int.tdiv (x_3.length : Int) (2 : Int) -> R6 (x17 + 1) /\ ∀ x18, x18 = x17 + 1 -> (0 <= x18 /\
 x18 <= (x_3.length : Int)) /\ (((0 : Nat) + List.length (List.take (1 : Nat) x.1)) * 24 <= 140737488355328 /\ (0 : Nat) + List.length (List.take (1 : Nat) x.1) <= maxLen) /\ (0 <= i /\ i < (l.length : Int)) /\ (b3 256 (ec l i.toNat 2) (ec l i.toNat 3) (ec l i.toNat 4) /\ b3 256 (ec l i.toNat 5) (ec l i.toNat 6) (ec l i.toNat 7)) /\ ∀ x19, x19 = (ec l i.toNat 2 + ec l i.toNat 5) * 8 -> ∀ x20, x20 = (ec l i.toNat 3 + ec l i.toNat 6) * 8 -> ∀ x21, x21 = (ec l i.toNat 4 + ec l i.toNat 7) * 8 -> ((List.length ([] ++ List.take (1 : Nat) x.1) + 1) * 24 <= 140737488355328 /\ List.length ([] ++ List.take (1 : Nat) x.1) + 1 <= maxLen) /\ ((List.length ([] ++ List.take (1 : Nat) x.1 ++ [[x19, x20, x21]]) + List.length (List.take x18.toNat x_3)) * 24 <= 140737488355328 /\ List.length ([] ++ List.take (1 : Nat) x.1 ++ [[x19, x20, x21]]) + List.length (List.take x18.toNat x_3) <= maxLen) /\
 Q ⟨.ce (.sl false [4, 4, 4] ([] ++ List.take (1 : Nat) x.1 ++ [[x19, x20, x21]] ++ List.take x18.toNat x_3)), true, [], []⟩) ((((0 : Nat) + List.length (List.take (1 : Nat) x.1)) * 24 <= 140737488355328 /\ (0 : Nat) + List.length (List.take (1 : Nat) x.1) <= maxLen) /\ (0 <= i /\ i < (l.length : Int)) /\ (b3 256 (ec l i.toNat 2) (ec l i.toNat 3) (ec l i.toNat 4) /\ b3 256 (ec l i.toNat 5) (ec l i.toNat 6) (ec l i.toNat 7)) /\ ∀ x22, x22 = (ec l i.toNat 2 + ec l i.toNat 5) * 8 -> ∀ x23, x23 = (ec l i.toNat 3 + ec l i.toNat 6) * 8 -> ∀ x24, x24 = (ec l i.toNat 4 + ec l i.toNat 7) * 8 -> ((List.length ([] ++ List.take (1 : Nat) x.1) + 1) * 24 <= 140737488355328 /\ List.length ([] ++ List.take (1 : Nat) x.1) + 1 <= maxLen) /\ ((List.length ([] ++ List.take (1 : Nat) x.1 ++ [[x22, x23, x24]]) + List.length (List.drop (1 : Nat) x.1)) * 24 <= 140737488355328 /\
 List.length ([] ++ List.take (1 : Nat) x.1 ++ [[x22, x23, x24]]) + List.length (List.drop (1 : Nat) x.1) <= maxLen) /\ Q ⟨.ce (.sl false [4, 4, 4] ([] ++ List.take (1 : Nat) x.1 ++ [[x22, x23, x24]] ++ List.drop (1 : Nat) x.1)), true, [], []⟩)))) := by kernel_rfl
def SWrong (hargs : List HV) (pars : List (List HC)) : SR :=
 match hargs, pars with
 | [.agg [.int .i64 k0, .int .i64 bk, .int .i64 f0, .int .i64 f1, .int .i64 f2, .int .i64 t0, .int .i64 t1, .int .i64 t2, .int .i64 pl, .int .i64 c0, .int .i64 c1, .int .i64 c2, .int .i64 dr, .bool fu, .int .i64 fd, .bool pr, .int .i64 sd, .int .i64 ra, .int .i64 bl, .int .i64 nn, .int .i64 sp, .bool on]], [] => .all (nice k0 f0 f1 f2 t0 t1 t2 c0 c1 c2 dr fd bl) Bool (fun _ => True) (fun x => ⟨.ce (.bool x), false, [], []⟩)
 | _, _ => .fail
def tabWrong : List (FuncId × HL.Spec) := [(66, SMotion), (118, SValid)]
noncomputable def CWrong : Ctx := ⟨Tryz.prog, gam tabWrong, Tryz.f99.ntmps, [], []⟩
theorem vcWrong (k0 bk f0 f1 f2 t0 t1 t2 pl c0 c1 c2 dr fd sd ra bl nn sp : Int) (fu pr on : Bool) (Q : Res -> Prop) : (nfun true CWrong Tryz.f99 (bodyOf Tryz.f99) [.agg [I6 k0, I6 bk, I6 f0, I6 f1, I6 f2, I6 t0, I6 t1, I6 t2, I6 pl, I6 c0, I6 c1, I6 c2, I6 dr, .bool fu, I6 fd, .bool pr, I6 sd, I6 ra, I6 bl, I6 nn, I6 sp, .bool on]] [] Q) =
 (Br (k0 < 1) (Q ⟨.ce (.bool true), false, [], []⟩) (Br (k0 > 14) (Q ⟨.ce (.bool true), false, [], []⟩) ((1 <= k0 /\ k0 <= 6) /\ ∀ (x1 : Bool), x1 = true -> Bb (x1) (nice k0 f0 f1 f2 t0 t1 t2 c0 c1 c2 dr fd bl /\ (∃ (x : Bool), k0 ≠ 3 -> x = true) /\ ∀ (x : Bool), (k0 ≠ 3 -> x = true) -> Bb (!x) (Q ⟨.ce (.bool true), false, [], []⟩) (Bb (k0 != 1) (Br (fd < 1) (Q ⟨.ce (.bool true), false, [], []⟩) (Br (fd > 60000000) (Q ⟨.ce (.bool true), false, [], []⟩) (Br (bl < 0) (Q ⟨.ce (.bool true), false, [], []⟩) (Q ⟨.ce (.bool (decide (bl > 1000))), false, [], []⟩)))) (Br (bl < 0) (Q ⟨.ce (.bool true), false, [], []⟩) (Q ⟨.ce (.bool (decide (bl > 1000))), false, [], []⟩)))) (Bb (k0 == 8) (Br (nn < 3) (Q ⟨.ce (.bool true), false, [], []⟩) (Br (nn > 5) (Q ⟨.ce (.bool true), false, [], []⟩) (Br (sp < 0) (Q ⟨.ce (.bool true), false, [], []⟩) (Q ⟨.ce (.bool (decide (sp > 30000))), false, [], []⟩)))) (Q ⟨.ce (.bool false), false, [], []⟩))))) := by kernel_rfl
def SCheck (hargs : List HV) (pars : List (List HC)) : SR :=
 match hargs, pars with
 | [.ce (.sl false ks l)], [] => bif ksEq ks [4, 4, 4, 4, 4, 4, 4, 4, 4, 4, 4, 4, 4, 0, 4, 0, 4, 4, 4, 4, 4, 0] then .all (niceL l /\ l.length <= 5) Int (fun _ => True) (fun x => ⟨.ce (I6 x), false, [], []⟩) else .fail
 | _, _ => .fail
def tabCheck : List (FuncId × HL.Spec) := [(99, SWrong), (66, SMotion)]
def anCheck : LAnn := ⟨[0, 2, 3, 9, 10, 11], [2], [], false⟩
def LCheck (v : LV) : LR :=
 match v with
 | ([.ce (.sl false ks l), .ce (.int .i64 r), .ce (.int .i64 last), .ce (.sl false ks2 l2), .ce (.int .i64 n), .ce (.int .i64 i)], []) => bif ksEq ks [4, 4, 4, 4, 4, 4, 4, 4, 4, 4, 4, 4, 4, 0, 4, 0, 4, 4, 4, 4, 4, 0] && ksEq ks2 [4, 4, 4, 4, 4, 4, 4, 4, 4, 4, 4, 4, 4, 0, 4, 0, 4, 4, 4, 4, 4, 0] then
  .alts (l2 = l /\ n = (l.length : Int) /\ i = 0 /\ last = -1 /\ niceL l /\ l.length <= 5) [(True, .exit 0, ([.ce (I6 r)], [])), (True, .ret, ([.ce (I6 1)], [])), (True, .ret, ([.ce (I6 13)], []))] else .fail
 | _ => .fail
noncomputable def CCheck : Ctx := ⟨Tryz.prog, gam tabCheck, Tryz.f65.ntmps, [(5, anCheck, LCheck)], []⟩
theorem vbCheck (r last n i : Int) (l : LL) (K : HEx -> LV -> Prop) : (nbodyT true CCheck anCheck (nthLoop Tryz.f65 0) (([.ce (.sl false [4, 4, 4, 4, 4, 4, 4, 4, 4, 4, 4, 4, 4, 0, 4, 0, 4, 4, 4, 4, 4, 0] l), .ce (I6 r), .ce (I6 last), .ce (.sl false [4, 4, 4, 4, 4, 4, 4, 4, 4, 4, 4, 4, 4, 0, 4, 0, 4, 4, 4, 4, 4, 0] l), .ce (I6 n), .ce (I6 i)], [])) K) =
 (Br (i < n) ((0 <= i /\ i < (l.length : Int)) /\ nice (el l i.toNat) (ec l i.toNat 2) (ec l i.toNat 3) (ec l i.toNat 4) (ec l i.toNat 5) (ec l i.toNat 6) (ec l i.toNat 7) (ec l i.toNat 9) (ec l i.toNat 10) (ec l i.toNat 11) (ec l i.toNat 12) (ec l i.toNat 14) (ec l i.toNat 18) /\ (∃ (x : Bool), True) /\ ∀ (x : Bool), True -> Bb (x) (K .ret ([.ce (I6 1)], [])) ((1 <= el l i.toNat /\ el l i.toNat <= 6) /\ ∀ (x2 : Bool), x2 = true -> Bb (!x2) (R6 (i + 1) /\ ∀ x3, x3 = i + 1 -> K .normal ([.ce (.sl false [4, 4, 4, 4, 4, 4, 4, 4, 4, 4, 4, 4, 4, 0, 4, 0, 4, 4, 4, 4, 4, 0] l), .ce (I6 r), .ce (I6 last), .ce (.sl false [4, 4, 4, 4, 4, 4, 4, 4, 4, 4, 4, 4, 4, 0, 4, 0, 4, 4, 4, 4, 4, 0] l), .ce (I6 n), .ce (I6 x3)], [])) (Br (last >= 0) ((0 <= last /\ last < (l.length : Int)) /\
 Bb (!(ec l last.toNat 5 == ec l i.toNat 2 && (ec l last.toNat 6 == ec l i.toNat 3 && (ec l last.toNat 7 == ec l i.toNat 4 && true)))) (K .ret ([.ce (I6 13)], [])) (R6 (i + 1) /\ ∀ x4, x4 = i + 1 -> K .normal ([.ce (.sl false [4, 4, 4, 4, 4, 4, 4, 4, 4, 4, 4, 4, 4, 0, 4, 0, 4, 4, 4, 4, 4, 0] l), .ce (I6 r), .ce (I6 i), .ce (.sl false [4, 4, 4, 4, 4, 4, 4, 4, 4, 4, 4, 4, 4, 0, 4, 0, 4, 4, 4, 4, 4, 0] l), .ce (I6 n), .ce (I6 x4)], []))) (R6 (i + 1) /\ ∀ x5, x5 = i + 1 -> K .normal ([.ce (.sl false [4, 4, 4, 4, 4, 4, 4, 4, 4, 4, 4, 4, 4, 0, 4, 0, 4, 4, 4, 4, 4, 0] l), .ce (I6 r), .ce (I6 i), .ce (.sl false [4, 4, 4, 4, 4, 4, 4, 4, 4, 4, 4, 4, 4, 0, 4, 0, 4, 4, 4, 4, 4, 0] l), .ce (I6 n), .ce (I6 x5)], []))))) (K (.exit 0) ([.ce (I6 r)], []))) := by kernel_rfl
theorem vcCheck (l : LL) (Q : Res -> Prop) : (nfun true CCheck Tryz.f65 (bodyOf Tryz.f65) [.ce (.sl false [4, 4, 4, 4, 4, 4, 4, 4, 4, 4, 4, 4, 4, 0, 4, 0, 4, 4, 4, 4, 4, 0] l)] [] Q) =
 (Br ((l.length : Int) > 20000) (Q ⟨.ce (I6 10), false, [], []⟩) ((l = l /\ (l.length : Int) = (l.length : Int) /\ (0 : Int) = 0 /\ (-1 : Int) = (-1 : Int) /\ niceL l /\ l.length <= 5) /\ (True -> Q ⟨.ce (I6 0), false, [], []⟩) /\ (True -> Q ⟨.ce (I6 1), false, [], []⟩) /\ (True -> Q ⟨.ce (I6 13), false, [], []⟩))) := by kernel_rfl
end Go.Proofs.YtoekmphdpepdbaaGreat
namespace U
open Go
theorem ptsOK_append {B : Int} {a b : LL} (ha : ptsOK B a) (hb : ptsOK B b) : ptsOK B (a ++ b) := by
 intro j hj
 unfold ec
 by_cases h : j < a.length
 . have e : (a ++ b).getD j [] = a.getD j [] := by rw [List.getD_eq_getElem?_getD, List.getElem?_append_left h, <- List.getD_eq_getElem?_getD]
   rw [e]; exact ha j h
 . have e : (a ++ b).getD j [] = b.getD (j - a.length) [] := by rw [List.getD_eq_getElem?_getD, List.getElem?_append_right (by omega), <- List.getD_eq_getElem?_getD]
   rw [e]; exact hb _ (by rw [List.length_append] at hj; omega)
theorem ptsOK_take {B : Int} {a : LL} (n : Nat) (ha : ptsOK B a) : ptsOK B (a.take n) := by
 intro j hj
 rw [List.length_take] at hj
 unfold ec
 have e : (a.take n).getD j [] = a.getD j [] := by rw [List.getD_eq_getElem?_getD, List.getElem?_take_of_lt (by omega), <- List.getD_eq_getElem?_getD]
 rw [e]; exact ha j (by omega)
theorem ptsOK_drop {B : Int} {a : LL} (n : Nat) (ha : ptsOK B a) : ptsOK B (a.drop n) := by
 intro j hj
 rw [List.length_drop] at hj
 unfold ec
 have e : (a.drop n).getD j [] = a.getD (n + j) [] := by rw [List.getD_eq_getElem?_getD, List.getElem?_drop, <- List.getD_eq_getElem?_getD]
 rw [e]; exact ha (n + j) (by omega)
theorem ptTail {l A B : LL} {i : Int} (hi : 0 <= i /\ i < (l.length : Int)) (hn : niceL l) (hA : ptsOK 32768 A) (hB : ptsOK 32768 B) (lA : A.length <= 70000) (lB : B.length <= 128) (G : LL -> Prop)
 (fin : ∀ y, y.length <= 71000 -> ptsOK 32768 y -> G y) :
 ((0 + A.length) * 24 <= 140737488355328 /\ 0 + A.length <= maxLen) /\ ((0 : Int) <= i /\ i < ((l.length : Nat) : Int)) /\ (b3 256 (ec l (Int.toNat i) 2) (ec l (Int.toNat i) 3) (ec l (Int.toNat i) 4) /\ b3 256 (ec l (Int.toNat i) 5) (ec l (Int.toNat i) 6) (ec l (Int.toNat i) 7)) /\
 ∀ (x12 : Int), x12 = (ec l (Int.toNat i) 2 + ec l (Int.toNat i) 5) * 8 -> ∀ (x13 : Int), x13 = (ec l (Int.toNat i) 3 + ec l (Int.toNat i) 6) * 8 -> ∀ (x14 : Int), x14 = (ec l (Int.toNat i) 4 + ec l (Int.toNat i) 7) * 8 ->
 ((([] ++ A).length + 1) * 24 <= 140737488355328 /\ ([] ++ A).length + 1 <= maxLen) /\ ((([] ++ A ++ [[x12, x13, x14]]).length + B.length) * 24 <= 140737488355328 /\ ([] ++ A ++ [[x12, x13, x14]]).length + B.length <= maxLen) /\ G ([] ++ A ++ [[x12, x13, x14]] ++ B) := by
 obtain ⟨_, hf, ht, _⟩ := hn i.toNat (by omega)
 have e1 : ([] ++ A).length = A.length := by simp
 refine ⟨⟨by omega, by unfold maxLen; omega⟩, hi, ⟨hf, ht⟩, fun x12 e12 x13 e13 x14 e14 => ?_⟩
 have e2 : ([] ++ A ++ [[x12, x13, x14]]).length = A.length + 1 := by simp
 rw [e1, e2]
 refine ⟨⟨by omega, by unfold maxLen; omega⟩, ⟨by omega, by unfold maxLen; omega⟩, fin _ ?_ ?_⟩
 . rw [List.length_append, e2]; omega
 . exact ptsOK_append (ptsOK_app (by rw [List.nil_append]; exact hA) (by unfold b3 at hf ht ⊢; omega)) hB
end U
namespace Go.Proofs.YtoekmphdpepdbaaGreat
open Go Go.HL U
attribute [local irreducible] hfun bodyT fragT
theorem sSmooth : Sound Tryz.prog 102 SSmooth := by
 refine sound_of (C := CSmooth) [] Tryz.func102 (by kernel_rfl) (by decide +kernel) (by kernel_rfl) rfl trivial (loops0 (by kernel_rfl)) ?_
 intro hargs pars R h
 unfold SSmooth at h
 split at h
 case h_2 => exfalso; exact h
 rename_i k0 bk f0 f1 f2 t0 t1 t2 pl c0 c1 c2 dr fu fd pr sd ra bl nn sp on
 obtain ⟨_, _, hR⟩ := h
 refine byVC (vcSmooth k0 bk f0 f1 f2 t0 t1 t2 pl c0 c1 c2 dr fd sd ra bl nn sp fu pr on R) ⟨fun g => hR _ fun _ => by simpa using g, fun _ => hR false fun e => (by cases e)⟩
theorem sCenter : Sound Tryz.prog 104 SCenter := by
 refine sound_of (C := CCenter) [] Tryz.func104 (by kernel_rfl) (by decide +kernel) (by kernel_rfl) rfl trivial (loops0 (by kernel_rfl)) ?_
 intro hargs pars R h
 unfold SCenter at h
 split at h
 case h_2 => exfalso; exact h
 rename_i k0 bk f0 f1 f2 t0 t1 t2 pl c0 c1 c2 dr fu fd pr sd ra bl nn sp on
 obtain ⟨⟨hf, ht⟩, hq⟩ := h
 unfold b3 at hf ht
 refine byVC (vcCenter k0 bk f0 f1 f2 t0 t1 t2 pl c0 c1 c2 dr fd sd ra bl nn sp fu pr on R) ⟨by omega, ?_⟩
 rintro _ rfl
 refine ⟨by omega, ?_⟩
 rintro _ rfl
 refine ⟨by omega, ?_⟩
 rintro _ rfl
 refine ⟨by omega, ?_⟩
 rintro _ rfl
 refine ⟨by omega, ?_⟩
 rintro _ rfl
 refine ⟨by omega, ?_⟩
 rintro _ rfl
 exact hq
theorem sRate : Sound Tryz.prog 69 SRate := by
 refine sound_of (C := CRate) tabRate Tryz.func69 (by kernel_rfl) (by decide +kernel) (by kernel_rfl) rfl ⟨sRnd, trivial⟩ (loops0 (by kernel_rfl)) ?_
 intro hargs pars R h
 unfold SRate at h
 split at h
 case h_2 => exfalso; exact h
 rename_i k0 bk f0 f1 f2 t0 t1 t2 pl c0 c1 c2 dr fu fd pr sd ra bl nn sp on s
 obtain ⟨⟨hfd, rfl⟩, _, hR⟩ := h
 have rb : ∀ x y : Int, (0 <= x /\ x <= 245760000000) -> y = rnd x 60000 -> 0 <= y /\ y <= 4096001 := fun x y hx e => by
  unfold rnd at e; omega
 refine byVC (vcRate 0 k0 bk f0 f1 f2 t0 t1 t2 pl c0 c1 c2 dr fd sd ra bl nn sp fu pr on R) ⟨fun _ => hR 0 (by decide), fun _ => ⟨fun _ x1 e1 => ?_, fun _ x8 e8 => ?_⟩⟩
 . have : x1 = 1 := by omega
   subst this
   refine ⟨by omega, fun x2 e2 x3 e3 => ⟨by omega, fun x4 e4 => ⟨by omega, fun x5 e5 => ⟨by omega, fun x6 e6 x7 e7 => hR x7 ?_⟩⟩⟩⟩
   have := rb x5 x6 (by omega) e6
   omega
 . refine ⟨by omega, fun x4 e4 => ⟨by omega, fun x5 e5 => ⟨by omega, fun x6 e6 x7 e7 => hR x7 ?_⟩⟩⟩
   have := rb x5 x6 (by omega) e6
   omega
theorem sSync : Sound Tryz.prog 70 SSync := by
 refine sound_of (C := CSync) [] Tryz.func70 (by kernel_rfl) (by decide +kernel) (by kernel_rfl) rfl trivial (loops0 (by kernel_rfl)) ?_
 intro hargs pars R h
 unfold SSync at h
 split at h
 case h_2 => exfalso; exact h
 rename_i k0 bk f0 f1 f2 t0 t1 t2 pl c0 c1 c2 dr fu fd pr sd ra bl nn sp on
 obtain ⟨hk, hq⟩ := h
 refine byVC (vcSync k0 bk f0 f1 f2 t0 t1 t2 pl c0 c1 c2 dr fd sd ra bl nn sp fu pr on R) ⟨fun g => ?_, fun _ => ?_⟩
 . have : k0 = 5 := by simpa using g
   omega
 . have : (k0 == 6) = false := by simp; omega
   rw [this]
   exact hq
theorem loopSoft : ∀ v Q, (LSoft v).wp Q -> hloop CSoft anSoft (nthLoop Tryz.f73 0) v Q := by
 intro v Q h
 unfold LSoft at h
 split at h
 case h_2 => exact h.elim
 rename_i ks l z k
 cases hks : ksEq ks [4, 4, 4, 4, 4, 4, 4, 4, 4, 4, 4, 4, 4, 0, 4, 0, 4, 4, 4, 4, 4, 0]
 . rw [hks] at h; exact h.elim
 rw [hks] at h
 obtain rfl := ksEq_eq hks
 obtain ⟨⟨hk, hn, hl⟩, q0, q1, q2⟩ := h
 refine hloop_rec (σ := Unit) (fun _ => ([.ce (.sl false [4, 4, 4, 4, 4, 4, 4, 4, 4, 4, 4, 4, 4, 0, 4, 0, 4, 4, 4, 4, 4, 0] l), .ce (I6 z), .ce (I6 k)], [])) (fun _ => 0) (fun _ => True) ?_ () trivial
 intro _ _ K _ hx hr
 refine byVB (vbSoft z k l K) ⟨fun g => ?_, fun _ => hx _ _ (q0 trivial)⟩
 have g := odt g
 have nk := (hn k.toNat (by omega)).1
 have nk : 1 <= el l k.toNat /\ el l k.toNat <= 3 := nk
 refine ⟨⟨hk, g⟩, fun x1 e1 => ⟨fun g10 => ?_, fun _ => ⟨⟨hk, g⟩, trivial, ⟨false, fun e => (by cases e)⟩, fun x _ => ⟨fun _ => ?_, fun _ => ?_⟩⟩⟩⟩
 . have : x1 = 10 := by simpa using g10
   omega
 . exact hr _ (q2 g)
 . exact hr _ (q1 trivial)
theorem sSoft : Sound Tryz.prog 73 SSoft := by
 refine sound_of (C := CSoft) tabSoft Tryz.func73 (by kernel_rfl) (by decide +kernel) (by kernel_rfl) rfl ⟨sSmooth, trivial⟩ (loops1 (by kernel_rfl) (loopOK_of (an := anSoft) (S := LSoft) (by kernel_rfl) loopSoft)) ?_
 intro hargs pars R h
 unfold SSoft at h
 split at h
 case h_2 => exfalso; exact h
 rename_i ks l i
 cases hks : ksEq ks [4, 4, 4, 4, 4, 4, 4, 4, 4, 4, 4, 4, 4, 0, 4, 0, 4, 4, 4, 4, 4, 0]
 . rw [hks] at h; exact h.elim
 rw [hks] at h
 obtain rfl := ksEq_eq hks
 obtain ⟨⟨hi, hn, hl⟩, _, hR⟩ := h
 have m1 : R ⟨.ce (I6 (-1)), false, [], []⟩ := hR (-1) (by omega)
 refine byVC (vcSoft i l R) ⟨hi, trivial, ⟨false, fun e => (by cases e)⟩, fun x _ => ⟨fun _ => m1, fun _ => ⟨hi, fun x2 _ => ⟨fun _ => m1, fun _ => ⟨by omega, fun x3 e3 => ⟨⟨by omega, hn, hl⟩, fun _ => m1, fun _ => m1, fun g => hR x3 (by omega)⟩⟩⟩⟩⟩⟩
theorem loopKind : ∀ v Q, (LKind v).wp Q -> hloop CKind anSoft (nthLoop Tryz.f74 0) v Q := by
 intro v Q h
 unfold LKind at h
 split at h
 case h_2 => exact h.elim
 rename_i ks l z k
 cases hks : ksEq ks [4, 4, 4, 4, 4, 4, 4, 4, 4, 4, 4, 4, 4, 0, 4, 0, 4, 4, 4, 4, 4, 0]
 . rw [hks] at h; exact h.elim
 rw [hks] at h
 obtain rfl := ksEq_eq hks
 obtain ⟨⟨hk, hn, hl⟩, hq⟩ := h
 refine hloop_rec (σ := Unit) (fun _ => ([.ce (.sl false [4, 4, 4, 4, 4, 4, 4, 4, 4, 4, 4, 4, 4, 0, 4, 0, 4, 4, 4, 4, 4, 0] l), .ce (I6 z), .ce (I6 k)], [])) (fun _ => 0) (fun _ => True) ?_ () trivial
 intro _ _ K _ hx hr
 refine byVB (vbKind z k l K) ⟨fun g => ?_, fun _ => hx _ _ hq⟩
 have g := odt g
 have nk := (hn k.toNat (by omega)).1
 have nk : 1 <= el l k.toNat /\ el l k.toNat <= 3 := nk
 refine ⟨⟨hk, g⟩, fun x1 e1 => ⟨by omega, ?_⟩⟩
 rintro _ rfl
 refine ⟨fun _ => ⟨⟨hk, g⟩, nk, ?_⟩, fun e => by cases e⟩
 rintro _ rfl
 exact ⟨fun e => (by cases e), fun _ => hx _ _ hq⟩
theorem sKind : Sound Tryz.prog 74 SKind := by
 refine sound_of (C := CKind) tabKind Tryz.func74 (by kernel_rfl) (by decide +kernel) (by kernel_rfl) rfl ⟨sSync, sMotion, trivial⟩ (loops1 (by kernel_rfl) (loopOK_of (an := anSoft) (S := LKind) (by kernel_rfl) loopKind)) ?_
 intro hargs pars R h
 unfold SKind at h
 split at h
 case h_2 => exfalso; exact h
 rename_i ks l i
 cases hks : ksEq ks [4, 4, 4, 4, 4, 4, 4, 4, 4, 4, 4, 4, 4, 0, 4, 0, 4, 4, 4, 4, 4, 0]
 . rw [hks] at h; exact h.elim
 rw [hks] at h
 obtain rfl := ksEq_eq hks
 obtain ⟨⟨hi, hn, hl⟩, _, hR⟩ := h
 have nk := (hn i.toNat (by omega)).1
 have nk : 1 <= el l i.toNat /\ el l i.toNat <= 3 := nk
 refine byVC (vcKind i l R) ⟨hi, fun x1 _ => ⟨fun _ => hR 6 trivial, fun _ => ⟨hi, fun x2 _ => ⟨fun _ => hR 1 trivial, fun _ => ⟨hi, nk, fun x3 _ => ⟨fun _ => hR 1 trivial, fun _ => ⟨by omega, fun x4 e4 => ⟨⟨by omega, hn, hl⟩, hR 2 trivial⟩⟩⟩⟩⟩⟩⟩⟩
theorem sJoined : Sound Tryz.prog 103 SJoined := by
 refine sound_of (C := CJoined) tabJoined Tryz.func103 (by kernel_rfl) (by decide +kernel) (by kernel_rfl) rfl ⟨sCenter, sFine, sCorner, trivial⟩ (loops0 (by kernel_rfl)) ?_
 intro hargs pars R h
 unfold SJoined at h
 split at h
 case h_2 => exfalso; exact h
 rename_i ks l i k
 cases hks : ksEq ks [4, 4, 4, 4, 4, 4, 4, 4, 4, 4, 4, 4, 4, 0, 4, 0, 4, 4, 4, 4, 4, 0]
 . rw [hks] at h; exact h.elim
 rw [hks] at h
 obtain rfl := ksEq_eq hks
 obtain ⟨⟨hi, hk, hn⟩, _, hR⟩ := h
 obtain ⟨_, hf, ht, _, _, _, hb⟩ := hn i.toNat (by omega)
 obtain ⟨_, hf2, ht2, _⟩ := hn k.toNat (by omega)
 refine byVC (vcJoined i k l R) ⟨hi, ⟨hf, ht⟩, fun x1 e1 x2 e2 x3 e3 => ⟨hi, b3_mono (by decide) ht, fun x4 e4 x5 e5 x6 e6 => ⟨hk, ⟨hf2, ht2⟩, fun x7 e7 x8 e8 x9 e9 => ⟨hi, fun x10 e10 => ⟨by omega, fun x11 e11 => ⟨⟨⟨?_, ?_, ?_⟩, by omega, by omega⟩, ⟨[[0, 0, 0]], ⟨Nat.le_refl 1, show (1 : Nat) <= 128 by decide⟩, ptsOK_app ptsOK_nil (b3_zero (by decide))⟩, fun x hx => hR x hx⟩⟩⟩⟩⟩⟩
 all_goals (unfold b3 at *; omega)
theorem sPoints : Sound Tryz.prog 71 SPoints := by
 refine sound_of (C := CPoints) tabPoints Tryz.func71 (by kernel_rfl) (by decide +kernel) (by kernel_rfl) rfl ⟨sChords, sSmooth, sJoined, sSoft, sCenter, trivial⟩ (loops0 (by kernel_rfl)) ?_
 intro hargs pars R h
 unfold SPoints at h
 split at h
 case h_2 => exfalso; exact h
 rename_i ks l i f
 cases hks : ksEq ks [4, 4, 4, 4, 4, 4, 4, 4, 4, 4, 4, 4, 4, 0, 4, 0, 4, 4, 4, 4, 4, 0]
 . rw [hks] at h; exact h.elim
 rw [hks] at h
 obtain rfl := ksEq_eq hks
 obtain ⟨⟨hi, hf, hn, hl⟩, _, hR⟩ := h
 have z0 : ptsOK 32768 [[0, 0, 0]] := ptsOK_app ptsOK_nil (b3_zero (by decide))
 have ex : ∃ x : LL, (1 <= x.length /\ x.length <= 128) /\ ptsOK 32768 x := ⟨[[0, 0, 0]], ⟨Nat.le_refl 1, show (1 : Nat) <= 128 by decide⟩, z0⟩
 have exs : ∃ x : Int, -1 <= x /\ x < (l.length : Int) := ⟨-1, by omega⟩
 refine byVC (vcPoints i f l R) ⟨hi, hn i.toNat (by omega), ⟨([[0, 0, 0], [0, 0, 0]], false), fun _ => rfl, ptsOK_append z0 z0, show (2 : Nat) <= 70000 by decide⟩, fun x hx => ⟨hi, trivial, ⟨false, fun e => (by cases e)⟩, fun s hs => ⟨fun _ => hR (x.1, false) ⟨by show x.1.length <= 71000; have := hx.2.2; omega, hx.2.1⟩, fun g => ?_⟩⟩⟩
 have sT : s = true := by simpa using g
 have k2 := hs sT
 have l2 := hx.1 (by omega)
 have fin : ∀ y : LL, y.length <= 71000 -> ptsOK 32768 y -> R ⟨.ce (.sl false [4, 4, 4] y), true, [], []⟩ := fun y h1 h2 => hR (y, true) ⟨h1, h2⟩
 have tl : ∀ (y : LL) (n : Nat), (y.take n).length <= y.length := fun y n => by rw [List.length_take]; omega
 have dl : ∀ (y : LL) (n : Nat), (y.drop n).length <= y.length := fun y n => by rw [List.length_drop]; omega
 refine ⟨by omega, by omega, fun gf => ?_, fun _ => ?_⟩
 . have gf := odt gf
   refine ⟨⟨by omega, hi, hn⟩, ex, fun c hc => ?_⟩
   rw [tdiv_pos (Int.natCast_nonneg _)]
   refine ⟨by decide, by omega, fun x4 e4 => ⟨by omega, ⟨hi, hn, hl⟩, exs, fun k hk => ⟨fun gk => ?_, fun _ => ?_⟩⟩⟩
   . have gk := odt gk
     refine ⟨⟨hi, by omega, hn⟩, ex, fun c2 hc2 => ?_⟩
     rw [tdiv_pos (Int.natCast_nonneg _)]
     refine ⟨by decide, by omega, fun x7 e7 => ⟨by omega, fun x8 e8 => ⟨by omega, ?_⟩⟩⟩
     exact ptTail hi hn (ptsOK_drop _ hc.2) (ptsOK_take _ hc2.2) (by have := dl c x4.toNat; omega) (by have := tl c2 x8.toNat; omega) _ fin
   . exact ptTail hi hn (ptsOK_drop _ hc.2) (ptsOK_drop _ hx.2.1) (by have := dl c x4.toNat; omega) (by have := dl x.1 1; omega) _ fin
 . refine ⟨⟨hi, hn, hl⟩, exs, fun k hk => ⟨fun gk => ?_, fun _ => ?_⟩⟩
   . have gk := odt gk
     refine ⟨⟨hi, by omega, hn⟩, ex, fun c2 hc2 => ?_⟩
     rw [tdiv_pos (Int.natCast_nonneg _)]
     refine ⟨by decide, by omega, fun x7 e7 => ⟨by omega, fun x8 e8 => ⟨by omega, ?_⟩⟩⟩
     exact ptTail hi hn (ptsOK_take _ hx.2.1) (ptsOK_take _ hc2.2) (by have := tl x.1 1; omega) (by have := tl c2 x8.toNat; omega) _ fin
   . exact ptTail hi hn (ptsOK_take _ hx.2.1) (ptsOK_drop _ hx.2.1) (by have := tl x.1 1; omega) (by have := dl x.1 1; omega) _ fin
theorem sWrong : Sound Tryz.prog 99 SWrong := by
 refine sound_of (C := CWrong) tabWrong Tryz.func99 (by kernel_rfl) (by decide +kernel) (by kernel_rfl) rfl ⟨sMotion, sValid, trivial⟩ (loops0 (by kernel_rfl)) ?_
 intro hargs pars R h
 unfold SWrong at h
 split at h
 case h_2 => exfalso; exact h
 rename_i k0 bk f0 f1 f2 t0 t1 t2 pl c0 c1 c2 dr fu fd pr sd ra bl nn sp on
 obtain ⟨hn, _, hR⟩ := h
 have any : ∀ b, R ⟨.ce (.bool b), false, [], []⟩ := fun b => hR b trivial
 have hk := hn.1
 refine byVC (vcWrong k0 bk f0 f1 f2 t0 t1 t2 pl c0 c1 c2 dr fd sd ra bl nn sp fu pr on R) ?_
 repeat' first
  | exact any _
  | exact hn
  | exact ⟨true, fun _ => rfl⟩
  | (refine And.intro ?_ ?_)
  | (intro hx)
  | omega
theorem loopCheck : ∀ v Q, (LCheck v).wp Q -> hloop CCheck anCheck (nthLoop Tryz.f65 0) v Q := by
 intro v Q h
 unfold LCheck at h
 split at h
 case h_2 => exact h.elim
 rename_i ks l r last ks2 l2 n i
 cases hks : ksEq ks [4, 4, 4, 4, 4, 4, 4, 4, 4, 4, 4, 4, 4, 0, 4, 0, 4, 4, 4, 4, 4, 0]
 . rw [hks] at h; exact h.elim
 cases hks2 : ksEq ks2 [4, 4, 4, 4, 4, 4, 4, 4, 4, 4, 4, 4, 4, 0, 4, 0, 4, 4, 4, 4, 4, 0]
 . rw [hks, hks2] at h; exact h.elim
 rw [hks, hks2] at h
 obtain rfl := ksEq_eq hks
 obtain rfl := ksEq_eq hks2
 obtain ⟨⟨h1, h2, h3, h4, hn, hl⟩, q0, q1, q2⟩ := h
 subst h1 h2 h3 h4
 refine hloop_rec (σ := Int × Nat) (fun s => ([.ce (.sl false [4, 4, 4, 4, 4, 4, 4, 4, 4, 4, 4, 4, 4, 0, 4, 0, 4, 4, 4, 4, 4, 0] l2), .ce (I6 r), .ce (I6 s.1), .ce (.sl false [4, 4, 4, 4, 4, 4, 4, 4, 4, 4, 4, 4, 4, 0, 4, 0, 4, 4, 4, 4, 4, 0] l2), .ce (I6 (l2.length : Int)), .ce (I6 (s.2 : Int))], []))
  (fun s => l2.length - s.2) (fun s => (-1 <= s.1 /\ s.1 < (l2.length : Int)) /\ s.2 <= l2.length) ?_ (-1, 0) ⟨by dsimp only; omega, Nat.zero_le _⟩
 rintro ⟨last, i⟩ ⟨hl1, hi⟩ K hnx hx hr
 dsimp only at hl1 hi hnx ⊢
 refine byVB (vbCheck r last l2.length i l2 K) ⟨fun g => ?_, fun _ => hx _ _ (q0 trivial)⟩
 have g := odt g
 have ht : Int.toNat (i : Int) = i := rfl
 rw [ht]
 have nk := (hn i (by omega)).1
 have nk : 1 <= el l2 i /\ el l2 i <= 3 := nk
 have nx : ∀ t : Int, (-1 <= t /\ t < (l2.length : Int)) -> ∀ y : Int, y = (i : Int) + 1 -> K .normal ([.ce (.sl false [4, 4, 4, 4, 4, 4, 4, 4, 4, 4, 4, 4, 4, 0, 4, 0, 4, 4, 4, 4, 4, 0] l2), .ce (I6 r), .ce (I6 t), .ce (.sl false [4, 4, 4, 4, 4, 4, 4, 4, 4, 4, 4, 4, 4, 0, 4, 0, 4, 4, 4, 4, 4, 0] l2), .ce (I6 (l2.length : Int)), .ce (I6 y)], []) := fun t h1 y e => by
  rw [show y = ((i + 1 : Nat) : Int) by omega]
  exact hnx (t, i + 1) ⟨h1, by dsimp only; omega⟩ (by dsimp only; omega)
 refine ⟨by omega, hn i (by omega), ⟨true, trivial⟩, fun x _ => ⟨fun _ => hr _ (q1 trivial), fun _ => ⟨by omega, fun x2 _ => ⟨fun _ => ⟨by omega, fun y e => nx last hl1 y e⟩, fun _ => ⟨fun gl => ⟨?_, fun _ => hr _ (q2 trivial), fun _ => ⟨by omega, fun y e => nx i (by omega) y e⟩⟩, fun _ => ⟨by omega, fun y e => nx i (by omega) y e⟩⟩⟩⟩⟩⟩
 have gl := odt gl
 omega
theorem sCheck : Sound Tryz.prog 65 SCheck := by
 refine sound_of (C := CCheck) tabCheck Tryz.func65 (by kernel_rfl) (by decide +kernel) (by kernel_rfl) rfl ⟨sWrong, sMotion, trivial⟩ (loops1 (by kernel_rfl) (loopOK_of (an := anCheck) (S := LCheck) (by kernel_rfl) loopCheck)) ?_
 intro hargs pars R h
 unfold SCheck at h
 split at h
 case h_2 => exfalso; exact h
 rename_i ks l
 cases hks : ksEq ks [4, 4, 4, 4, 4, 4, 4, 4, 4, 4, 4, 4, 4, 0, 4, 0, 4, 4, 4, 4, 4, 0]
 . rw [hks] at h; exact h.elim
 rw [hks] at h
 obtain rfl := ksEq_eq hks
 obtain ⟨⟨hn, hl⟩, _, hR⟩ := h
 exact byVC (vcCheck l R) ⟨fun _ => hR 10 trivial, fun _ => ⟨⟨rfl, rfl, rfl, rfl, hn, hl⟩, fun _ => hR 0 trivial, fun _ => hR 1 trivial, fun _ => hR 13 trivial⟩⟩
end Go.Proofs.YtoekmphdpepdbaaGreat
namespace U
open Go
def okSegs (s0 s1 s2 : Int) (sg : LL) : Prop :=
 ∀ j, j < sg.length -> b3 32768 (ec sg j 0) (ec sg j 1) (ec sg j 2) /\ (1 <= ec sg j 3 /\ ec sg j 3 <= 131072) /\
  b3 (ec sg j 3) (ec sg j 0 - bgn s0 sg 0 j) (ec sg j 1 - bgn s1 sg 1 j) (ec sg j 2 - bgn s2 sg 2 j)
def lastAt (s0 s1 s2 : Int) (sg : LL) (a0 a1 a2 : Int) : Prop :=
 a0 = bgn s0 sg 0 sg.length /\ a1 = bgn s1 sg 1 sg.length /\ a2 = bgn s2 sg 2 sg.length
structure BSt where
 a0 : Int
 a1 : Int
 a2 : Int
 n : Int
 s0 : Int
 s1 : Int
 s2 : Int
 sg : LL
 mks : LL
 fr : Int
 bg : Bool
def okB (m : Nat) (x : BSt) : Prop :=
 b3 32768 x.a0 x.a1 x.a2 /\ b3 32768 x.s0 x.s1 x.s2 /\ okSegs x.s0 x.s1 x.s2 x.sg /\ lastAt x.s0 x.s1 x.s2 x.sg x.a0 x.a1 x.a2 /\ x.n = plen x.sg /\ x.sg.length <= m /\ x.mks.length <= 10
def okPath (s0 s1 s2 : Int) (sg mk : LL) : Prop := b3 32768 s0 s1 s2 /\ okSegs s0 s1 s2 sg /\ sg.length <= 355000 /\ mk.length <= 10
end U
namespace Go.Proofs.YtoekmphdpepdbaaGreat
open Go Go.HL U
def SOther (hA : List HV) (pA : List (List HC)) : SR :=
 match hA, pA with
 | [.agg [.int .i64 k0, .int .i64 bk, .int .i64 f0, .int .i64 f1, .int .i64 f2, .int .i64 t0, .int .i64 t1, .int .i64 t2, .int .i64 pl, .int .i64 c0, .int .i64 c1, .int .i64 c2, .int .i64 dr, .bool fu, .int .i64 fd, .bool pr, .int .i64 sd, .int .i64 ra, .int .i64 bl, .int .i64 nn, .int .i64 sp, .bool on]], [] => .all True Int (fun _ => True) (fun x => ⟨.ce (I6 x), false, [], []⟩)
 | _, _ => .fail
noncomputable def COther : Ctx := ⟨Tryz.prog, gam [], Tryz.f67.ntmps, [], []⟩
theorem vcOther (k0 bk f0 f1 f2 t0 t1 t2 pl c0 c1 c2 dr fd sd ra bl nn sp : Int) (fu pr on : Bool) (Q : Res -> Prop) : (nfun true COther Tryz.f67 (bodyOf Tryz.f67) [.agg [I6 k0, I6 bk, I6 f0, I6 f1, I6 f2, I6 t0, I6 t1, I6 t2, I6 pl, I6 c0, I6 c1, I6 c2, I6 dr, .bool fu, I6 fd, .bool pr, I6 sd, I6 ra, I6 bl, I6 nn, I6 sp, .bool on]] [] Q) =
 (Bb (k0 == 10) (Q ⟨.ce (I6 5), false, [], []⟩) (Bb (k0 == 13) (Q ⟨.ce (I6 4), false, [], []⟩) (Q ⟨.ce (I6 3), false, [], []⟩))) := by kernel_rfl
def tabBuild : List (FuncId × HL.Spec) := [(65, SCheck), (66, SMotion), (67, SOther), (68, SFine), (69, SRate), (70, SSync), (71, SPoints), (72, SLength), (73, SSoft), (74, SKind)]
def anB0 : LAnn := ⟨[0, 2, 3, 5, 6, 7, 8, 9, 10, 23, 24, 25], [2, 3, 5], [1000002, 1000005, 1000006], false⟩
def anB1 : LAnn := ⟨[0, 2, 3, 5, 6, 7, 8, 10, 11, 12, 13, 23, 24, 25, 83, 84, 85], [0, 2, 3, 5, 6, 7, 8, 10, 11, 12, 23, 24, 25], [1000002, 1000005, 1000006, 1000012, 1000013], false⟩
def LB0 (v : LV) : LR :=
 match v with
 | ([.ce (.sl false ks l), .ce (.ptr 1000002 0), .ce (.int .i64 r), .ce (.ptr 1000005 0), .ce (.ptr 1000006 0), .ce (.int .i64 n), .ce (.int .i64 s), .ce (.int .i64 fr), .ce (.bool bg), .ce (.sl false ks2 l2), .ce (.int .i64 m), .ce (.int .i64 i)], [rb, pb, ab]) =>
  bif ksEq ks [4, 4, 4, 4, 4, 4, 4, 4, 4, 4, 4, 4, 4, 0, 4, 0, 4, 4, 4, 4, 4, 0] && ksEq ks2 [4, 4, 4, 4, 4, 4, 4, 4, 4, 4, 4, 4, 4, 0, 4, 0, 4, 4, 4, 4, 4, 0] then
  match rb with
  | [.int .i64 z0, .int .i64 z1, .int .i64 z2, .sl true [4, 4, 4, 4, 4, 4, 4] zs, .sl true [4, 4, 4] zm] =>
   match pb with
   | [.int .i64 s0, .int .i64 s1, .int .i64 s2, .sl true [4, 4, 4, 4, 4, 4, 4] sg, .sl true [4, 4, 4] mk] =>
    match ab with
    | [.int .i64 a0, .int .i64 a1, .int .i64 a2] =>
     .all (l2 = l /\ m = (l.length : Int) /\ niceL l /\ l.length <= 5 /\ i = 0 /\ s = 0 /\ fr = -1 /\ bg = false /\ mk.length = 0 /\ okB 0 ⟨a0, a1, a2, n, s0, s1, s2, sg, mk, -1, false⟩) BSt (okB 355000) (fun _ => .exit 0)
      (fun x => ([.ce (.ptr 1000002 0), .ce (I6 r), .ce (.ptr 1000005 0)], [[I6 z0, I6 z1, I6 z2, .sl true [4, 4, 4, 4, 4, 4, 4] zs, .sl true [4, 4, 4] zm], [I6 x.s0, I6 x.s1, I6 x.s2, .sl true [4, 4, 4, 4, 4, 4, 4] x.sg, .sl true [4, 4, 4] x.mks], [I6 x.a0, I6 x.a1, I6 x.a2]]))
    | _ => .fail
   | _ => .fail
  | _ => .fail
  else .fail
 | _ => .fail
def LB1 (v : LV) : LR :=
 match v with
 | ([.ce (.sl false ks l), .ce (.ptr 1000002 0), .ce (.int .i64 r), .ce (.ptr 1000005 0), .ce (.ptr 1000006 0), .ce (.int .i64 n), .ce (.int .i64 s), .ce (.bool bg), .ce (.int .i64 ix), .ce (.ptr 1000012 0), .ce (.ptr 1000013 0), .ce (.sl false ks2 l2), .ce (.int .i64 m), .ce (.int .i64 i), .ce (.sl false [4, 4, 4] q), .ce (.int .i64 qn), .ce (.int .i64 j)], [rb, pb, ab, ib, gb]) =>
  bif ksEq ks [4, 4, 4, 4, 4, 4, 4, 4, 4, 4, 4, 4, 4, 0, 4, 0, 4, 4, 4, 4, 4, 0] && ksEq ks2 [4, 4, 4, 4, 4, 4, 4, 4, 4, 4, 4, 4, 4, 0, 4, 0, 4, 4, 4, 4, 4, 0] then
  match rb with
  | [.int .i64 z0, .int .i64 z1, .int .i64 z2, .sl true [4, 4, 4, 4, 4, 4, 4] zs, .sl true [4, 4, 4] zm] =>
   match pb with
   | [.int .i64 s0, .int .i64 s1, .int .i64 s2, .sl true [4, 4, 4, 4, 4, 4, 4] sg, .sl true [4, 4, 4] mk] =>
    match ab with
    | [.int .i64 a0, .int .i64 a1, .int .i64 a2] =>
     match gb with
     | [.int .i64 g0, .int .i64 g1, .int .i64 g2, .int .i64 g3, .int .i64 g4, .int .i64 g5, .int .i64 g6] =>
      match ib with
      | [.int .i64 k0, .int .i64 bk, .int .i64 f0, .int .i64 f1, .int .i64 f2, .int .i64 t0, .int .i64 t1, .int .i64 t2, .int .i64 pl, .int .i64 c0, .int .i64 c1, .int .i64 c2, .int .i64 dr, .bool fu, .int .i64 fd, .bool pr, .int .i64 sd, .int .i64 ra, .int .i64 bl, .int .i64 nn, .int .i64 sp, .bool on] =>
       .all (qn = (q.length : Int) /\ j = 0 /\ q.length <= 71000 /\ ptsOK 32768 q /\ okB 284000 ⟨a0, a1, a2, n, s0, s1, s2, sg, mk, -1, false⟩) (BSt × Int × Int × Int × Int) (fun x => okB (sg.length + 71000) x.1 /\ x.1.s0 = s0 /\ x.1.s1 = s1 /\ x.1.s2 = s2 /\ x.1.mks = mk) (fun _ => .exit 2)
        (fun x => ([.ce (.sl false [4, 4, 4, 4, 4, 4, 4, 4, 4, 4, 4, 4, 4, 0, 4, 0, 4, 4, 4, 4, 4, 0] l), .ce (.ptr 1000002 0), .ce (I6 r), .ce (.ptr 1000005 0), .ce (.ptr 1000006 0), .ce (I6 x.1.n), .ce (I6 s), .ce (.bool bg), .ce (I6 ix), .ce (.ptr 1000012 0), .ce (.sl false [4, 4, 4, 4, 4, 4, 4, 4, 4, 4, 4, 4, 4, 0, 4, 0, 4, 4, 4, 4, 4, 0] l2), .ce (I6 m), .ce (I6 i)], [[I6 z0, I6 z1, I6 z2, .sl true [4, 4, 4, 4, 4, 4, 4] zs, .sl true [4, 4, 4] zm], [I6 x.1.s0, I6 x.1.s1, I6 x.1.s2, .sl true [4, 4, 4, 4, 4, 4, 4] x.1.sg, .sl true [4, 4, 4] x.1.mks], [I6 x.1.a0, I6 x.1.a1, I6 x.1.a2], [I6 k0, I6 bk, I6 f0, I6 f1, I6 f2, I6 t0, I6 t1, I6 t2, I6 pl, I6 c0, I6 c1, I6 c2, I6 dr, .bool fu, I6 fd, .bool pr, I6 sd, I6 ra, I6 bl, I6 nn, I6 sp, .bool on], [I6 x.2.1, I6 x.2.2.1, I6 x.2.2.2.1, I6 x.2.2.2.2, I6 g4, I6 g5, I6 g6]]))
      | _ => .fail
     | _ => .fail
    | _ => .fail
   | _ => .fail
  | _ => .fail
  else .fail
 | _ => .fail
def anK8 : LAnn := ⟨[0, 2, 3, 5, 6, 7, 8, 9, 10, 11, 12, 23, 24, 25], [0, 2, 3, 5, 6, 7, 8, 9, 10, 11, 12, 23, 24, 25, 42], [1000002, 1000005, 1000006, 1000012], fun s => Nat.beq s 42⟩
def LK8 (v : LV) : LR :=
 match v with
 | ([.ce (.sl false ks l), .ce (.ptr 1000002 0), .ce (.int .i64 r), .ce (.ptr 1000005 0), .ce (.ptr 1000006 0), .ce (.int .i64 n), .ce (.int .i64 s), .ce (.int .i64 fr), .ce (.bool bg), .ce (.int .i64 ix), .ce (.ptr 1000012 0), .ce (.sl false ks2 l2), .ce (.int .i64 m), .ce (.int .i64 i)], [rb, pb, ab, ib]) =>
  bif ksEq ks [4, 4, 4, 4, 4, 4, 4, 4, 4, 4, 4, 4, 4, 0, 4, 0, 4, 4, 4, 4, 4, 0] && ksEq ks2 [4, 4, 4, 4, 4, 4, 4, 4, 4, 4, 4, 4, 4, 0, 4, 0, 4, 4, 4, 4, 4, 0] then
  match rb with
  | [.int .i64 z0, .int .i64 z1, .int .i64 z2, .sl true [4, 4, 4, 4, 4, 4, 4] zs, .sl true [4, 4, 4] zm] =>
   match pb with
   | [.int .i64 s0, .int .i64 s1, .int .i64 s2, .sl true [4, 4, 4, 4, 4, 4, 4] sg, .sl true [4, 4, 4] mk] =>
    match ab with
    | [.int .i64 a0, .int .i64 a1, .int .i64 a2] =>
     match ib with
     | [.int .i64 k0, .int .i64 bk, .int .i64 f0, .int .i64 f1, .int .i64 f2, .int .i64 t0, .int .i64 t1, .int .i64 t2, .int .i64 pl, .int .i64 c0, .int .i64 c1, .int .i64 c2, .int .i64 dr, .bool fu, .int .i64 fd, .bool pr, .int .i64 sd, .int .i64 ra, .int .i64 bl, .int .i64 nn, .int .i64 sp, .bool on] => .det (k0 ≠ 8) .normal ([.ce (.sl false [4, 4, 4, 4, 4, 4, 4, 4, 4, 4, 4, 4, 4, 0, 4, 0, 4, 4, 4, 4, 4, 0] l), .ce (.ptr 1000002 0), .ce (I6 r), .ce (.ptr 1000005 0), .ce (.ptr 1000006 0), .ce (I6 n), .ce (I6 s), .ce (I6 fr), .ce (.bool bg), .ce (I6 ix), .ce (.ptr 1000012 0), .ce (.sl false [4, 4, 4, 4, 4, 4, 4, 4, 4, 4, 4, 4, 4, 0, 4, 0, 4, 4, 4, 4, 4, 0] l2), .ce (I6 m), .ce (I6 i), .ce (.lit false)], [[I6 z0, I6 z1, I6 z2, .sl true [4, 4, 4, 4, 4, 4, 4] zs, .sl true [4, 4, 4] zm], [I6 s0, I6 s1, I6 s2, .sl true [4, 4, 4, 4, 4, 4, 4] sg, .sl true [4, 4, 4] mk], [I6 a0, I6 a1, I6 a2], [I6 k0, I6 bk, I6 f0, I6 f1, I6 f2, I6 t0, I6 t1, I6 t2, I6 pl, I6 c0, I6 c1, I6 c2, I6 dr, .bool fu, I6 fd, .bool pr, I6 sd, I6 ra, I6 bl, I6 nn, I6 sp, .bool on]])
     | _ => .fail
    | _ => .fail
   | _ => .fail
  | _ => .fail
  else .fail
 | _ => .fail
noncomputable def CBuild : Ctx := ⟨Tryz.prog, gam tabBuild, Tryz.f36.ntmps, [(7, anB0, LB0), (19, anB1, LB1), (3000009, anK8, LK8)], []⟩
theorem vgK8 (r n s fr m i z0 z1 z2 s0 s1 s2 a0 a1 a2 ix : Int) (bg : Bool) (k0 bk f0 f1 f2 t0 t1 t2 pl c0 c1 c2 dr fd sd ra bl nn sp : Int) (fu pr on : Bool) (l l2 zs zm sg mk : LL) (K : HEx -> LV -> Prop) : (nfragT true CBuild anK8 (nthFrag CBuild Tryz.f36 0) (([.ce (.sl false [4, 4, 4, 4, 4, 4, 4, 4, 4, 4, 4, 4, 4, 0, 4, 0, 4, 4, 4, 4, 4, 0] l), .ce (.ptr 1000002 0), .ce (I6 r), .ce (.ptr 1000005 0), .ce (.ptr 1000006 0), .ce (I6 n), .ce (I6 s), .ce (I6 fr), .ce (.bool bg), .ce (I6 ix), .ce (.ptr 1000012 0), .ce (.sl false [4, 4, 4, 4, 4, 4, 4, 4, 4, 4, 4, 4, 4, 0, 4, 0, 4, 4, 4, 4, 4, 0] l2), .ce (I6 m), .ce (I6 i)], [[I6 z0, I6 z1, I6 z2, .sl true [4, 4, 4, 4, 4, 4, 4] zs, .sl true [4, 4, 4] zm], [I6 s0, I6 s1, I6 s2, .sl true [4, 4, 4, 4, 4, 4, 4] sg, .sl true [4, 4, 4] mk], [I6 a0, I6 a1, I6 a2], [I6 k0, I6 bk, I6 f0, I6 f1, I6 f2, I6 t0, I6 t1, I6 t2, I6 pl, I6 c0, I6 c1, I6 c2, I6 dr, .bool fu, I6 fd, .bool pr, I6 sd, I6 ra, I6 bl, I6 nn, I6 sp, .bool on]])) K) =
 (Bb (k0 == 8) (Bb (nn == 3) (K .normal ([.ce (.sl false [4, 4, 4, 4, 4, 4, 4, 4, 4, 4, 4, 4, 4, 0, 4, 0, 4, 4, 4, 4, 4, 0] l), .ce (.ptr 1000002 0), .ce (I6 r), .ce (.ptr 1000005 0), .ce (.ptr 1000006 0), .ce (I6 n), .ce (I6 s), .ce (I6 fr), .ce (.bool bg), .ce (I6 ix), .ce (.ptr 1000012 0), .ce (.sl false [4, 4, 4, 4, 4, 4, 4, 4, 4, 4, 4, 4, 4, 0, 4, 0, 4, 4, 4, 4, 4, 0] l2), .ce (I6 m), .ce (I6 i), .ce (.lit true)], [[I6 z0, I6 z1, I6 z2, .sl true [4, 4, 4, 4, 4, 4, 4] zs, .sl true [4, 4, 4] zm], [I6 s0, I6 s1, I6 s2, .sl true [4, 4, 4, 4, 4, 4, 4] sg, .sl true [4, 4, 4] mk], [I6 a0, I6 a1, I6 a2], [I6 k0, I6 bk, I6 f0, I6 f1, I6 f2, I6 t0, I6 t1, I6 t2, I6 pl, I6 c0, I6 c1, I6 c2, I6 dr, .bool fu, I6 fd, .bool pr, I6 sd, I6 ra, I6 bl, I6 nn, I6 sp, .bool on]])) (K .normal ([.ce (.sl false [4, 4, 4, 4, 4, 4, 4, 4, 4, 4, 4, 4, 4, 0, 4, 0, 4, 4, 4, 4, 4, 0] l), .ce (.ptr 1000002 0), .ce (I6 r), .ce (.ptr 1000005 0), .ce (.ptr 1000006 0), .ce (I6 n), .ce (I6 s), .ce (I6 fr), .ce (.bool bg), .ce (I6 ix), .ce (.ptr 1000012 0), .ce (.sl false [4, 4, 4, 4, 4, 4, 4, 4, 4, 4, 4, 4, 4, 0, 4, 0, 4, 4, 4, 4, 4, 0] l2), .ce (I6 m), .ce (I6 i), .ce (.bool (nn == 4))], [[I6 z0, I6 z1, I6 z2, .sl true [4, 4, 4, 4, 4, 4, 4] zs, .sl true [4, 4, 4] zm], [I6 s0, I6 s1, I6 s2, .sl true [4, 4, 4, 4, 4, 4, 4] sg, .sl true [4, 4, 4] mk], [I6 a0, I6 a1, I6 a2], [I6 k0, I6 bk, I6 f0, I6 f1, I6 f2, I6 t0, I6 t1, I6 t2, I6 pl, I6 c0, I6 c1, I6 c2, I6 dr, .bool fu, I6 fd, .bool pr, I6 sd, I6 ra, I6 bl, I6 nn, I6 sp, .bool on]]))) (K .normal ([.ce (.sl false [4, 4, 4, 4, 4, 4, 4, 4, 4, 4, 4, 4, 4, 0, 4, 0, 4, 4, 4, 4, 4, 0] l), .ce (.ptr 1000002 0), .ce (I6 r), .ce (.ptr 1000005 0), .ce (.ptr 1000006 0), .ce (I6 n), .ce (I6 s), .ce (I6 fr), .ce (.bool bg), .ce (I6 ix), .ce (.ptr 1000012 0), .ce (.sl false [4, 4, 4, 4, 4, 4, 4, 4, 4, 4, 4, 4, 4, 0, 4, 0, 4, 4, 4, 4, 4, 0] l2), .ce (I6 m), .ce (I6 i), .ce (.lit false)], [[I6 z0, I6 z1, I6 z2, .sl true [4, 4, 4, 4, 4, 4, 4] zs, .sl true [4, 4, 4] zm], [I6 s0, I6 s1, I6 s2, .sl true [4, 4, 4, 4, 4, 4, 4] sg, .sl true [4, 4, 4] mk], [I6 a0, I6 a1, I6 a2], [I6 k0, I6 bk, I6 f0, I6 f1, I6 f2, I6 t0, I6 t1, I6 t2, I6 pl, I6 c0, I6 c1, I6 c2, I6 dr, .bool fu, I6 fd, .bool pr, I6 sd, I6 ra, I6 bl, I6 nn, I6 sp, .bool on]]))) := by kernel_rfl
theorem vbB1 (r n s ix m i qn j z0 z1 z2 s0 s1 s2 a0 a1 a2 g0 g1 g2 g3 g4 g5 g6 : Int) (k0 bk f0 f1 f2 t0 t1 t2 pl c0 c1 c2 dr fd sd ra bl nn sp : Int) (fu pr on : Bool) (bg : Bool) (l l2 q zs zm sg mk : LL) (K : HEx -> LV -> Prop) : (nbodyT true CBuild anB1 (nthLoop Tryz.f36 1) (([.ce (.sl false [4, 4, 4, 4, 4, 4, 4, 4, 4, 4, 4, 4, 4, 0, 4, 0, 4, 4, 4, 4, 4, 0] l), .ce (.ptr 1000002 0), .ce (I6 r), .ce (.ptr 1000005 0), .ce (.ptr 1000006 0), .ce (I6 n), .ce (I6 s), .ce (.bool bg), .ce (I6 ix), .ce (.ptr 1000012 0), .ce (.ptr 1000013 0), .ce (.sl false [4, 4, 4, 4, 4, 4, 4, 4, 4, 4, 4, 4, 4, 0, 4, 0, 4, 4, 4, 4, 4, 0] l2), .ce (I6 m), .ce (I6 i), .ce (.sl false [4, 4, 4] q), .ce (I6 qn), .ce (I6 j)], [[I6 z0, I6 z1, I6 z2, .sl true [4, 4, 4, 4, 4, 4, 4] zs, .sl true [4, 4, 4] zm], [I6 s0, I6 s1, I6 s2, .sl true [4, 4, 4, 4, 4, 4, 4] sg, .sl true [4, 4, 4] mk], [I6 a0, I6 a1, I6 a2], [I6 k0, I6 bk, I6 f0, I6 f1, I6 f2, I6 t0, I6 t1, I6 t2, I6 pl, I6 c0, I6 c1, I6 c2, I6 dr, .bool fu, I6 fd, .bool pr, I6 sd, I6 ra, I6 bl, I6 nn, I6 sp, .bool on], [I6 g0, I6 g1, I6 g2, I6 g3, I6 g4, I6 g5, I6 g6]])) K) =
 (Br (j < qn) ((0 <= j /\ j < (q.length : Int)) /\ Bb (el q j.toNat == a0 && (ec q j.toNat 1 == a1 && (ec q j.toNat 2 == a2 && true))) (R6 (j + 1) /\ ∀ x1, x1 = j + 1 -> K .normal ([.ce (.sl false [4, 4, 4, 4, 4, 4, 4, 4, 4, 4, 4, 4, 4, 0, 4, 0, 4, 4, 4, 4, 4, 0] l), .ce (.ptr 1000002 0), .ce (I6 r), .ce (.ptr 1000005 0), .ce (.ptr 1000006 0), .ce (I6 n), .ce (I6 s), .ce (.bool bg), .ce (I6 ix), .ce (.ptr 1000012 0), .ce (.ptr 1000013 0), .ce (.sl false [4, 4, 4, 4, 4, 4, 4, 4, 4, 4, 4, 4, 4, 0, 4, 0, 4, 4, 4, 4, 4, 0] l2), .ce (I6 m), .ce (I6 i), .ce (.sl false [4, 4, 4] q), .ce (I6 qn), .ce (I6 x1)], [[I6 z0, I6 z1, I6 z2, .sl true [4, 4, 4, 4, 4, 4, 4] zs, .sl true [4, 4, 4] zm], [I6 s0, I6 s1, I6 s2, .sl true [4, 4, 4, 4, 4, 4, 4] sg, .sl true [4, 4, 4] mk], [I6 a0, I6 a1, I6 a2], [I6 k0, I6 bk, I6 f0, I6 f1, I6 f2, I6 t0, I6 t1, I6 t2, I6 pl, I6 c0, I6 c1, I6 c2, I6 dr, .bool fu, I6 fd, .bool pr, I6 sd, I6 ra, I6 bl, I6 nn, I6 sp, .bool on], [I6 g0, I6 g1, I6 g2, I6 g3, I6 g4, I6 g5, I6 g6]])) ((b3 268435456 a0 a1 a2 /\ b3 268435456 (el q j.toNat) (ec q j.toNat 1) (ec q j.toNat 2)) /\ (∃ (x : Int), isLen a0 a1 a2 (el q j.toNat) (ec q j.toNat 1) (ec q j.toNat 2) x) /\ ∀ (x : Int), isLen a0 a1 a2 (el q j.toNat) (ec q j.toNat 1) (ec q j.toNat 2) x -> ((sg.length + 1) * 56 <= 140737488355328 /\ sg.length + 1 <= maxLen) /\ R6 (n + x) /\ ∀ x3, x3 = n + x -> Br ((((List.length (sg ++ [[el q j.toNat, ec q j.toNat 1, ec q j.toNat 2, x, g4, g5, g6]])) : Nat) : Int) > 1048576) (K .ret ([.ce (.sl false [4, 4, 4, 4, 4, 4, 4, 4, 4, 4, 4, 4, 4, 0, 4, 0, 4, 4, 4, 4, 4, 0] l), .ce (.ptr 1000002 0), .ce (I6 10), .ce (.ptr 1000005 0), .ce (.ptr 1000006 0), .ce (I6 x3), .ce (I6 s), .ce (.bool bg), .ce (I6 ix), .ce (.ptr 1000012 0), .ce (.sl false [4, 4, 4, 4, 4, 4, 4, 4, 4, 4, 4, 4, 4, 0, 4, 0, 4, 4, 4, 4, 4, 0] l2), .ce (I6 m), .ce (I6 i)], [[I6 0, I6 0, I6 0, .sl true [4, 4, 4, 4, 4, 4, 4] [], .sl true [4, 4, 4] []], [I6 s0, I6 s1, I6 s2, .sl true [4, 4, 4, 4, 4, 4, 4] (sg ++ [[el q j.toNat, ec q j.toNat 1, ec q j.toNat 2, x, g4, g5, g6]]), .sl true [4, 4, 4] mk], [I6 (el q j.toNat), I6 (ec q j.toNat 1), I6 (ec q j.toNat 2)], [I6 k0, I6 bk, I6 f0, I6 f1, I6 f2, I6 t0, I6 t1, I6 t2, I6 pl, I6 c0, I6 c1, I6 c2, I6 dr, .bool fu, I6 fd, .bool pr, I6 sd, I6 ra, I6 bl, I6 nn, I6 sp, .bool on], [I6 (el q j.toNat), I6 (ec q j.toNat 1), I6 (ec q j.toNat 2), I6 x, I6 g4, I6 g5, I6 g6]])) (R6 (j + 1) /\ ∀ x4, x4 = j + 1 -> K .normal ([.ce (.sl false [4, 4, 4, 4, 4, 4, 4, 4, 4, 4, 4, 4, 4, 0, 4, 0, 4, 4, 4, 4, 4, 0] l), .ce (.ptr 1000002 0), .ce (I6 r), .ce (.ptr 1000005 0), .ce (.ptr 1000006 0), .ce (I6 x3), .ce (I6 s), .ce (.bool bg), .ce (I6 ix), .ce (.ptr 1000012 0), .ce (.ptr 1000013 0), .ce (.sl false [4, 4, 4, 4, 4, 4, 4, 4, 4, 4, 4, 4, 4, 0, 4, 0, 4, 4, 4, 4, 4, 0] l2), .ce (I6 m), .ce (I6 i), .ce (.sl false [4, 4, 4] q), .ce (I6 qn), .ce (I6 x4)], [[I6 z0, I6 z1, I6 z2, .sl true [4, 4, 4, 4, 4, 4, 4] zs, .sl true [4, 4, 4] zm], [I6 s0, I6 s1, I6 s2, .sl true [4, 4, 4, 4, 4, 4, 4] (sg ++ [[el q j.toNat, ec q j.toNat 1, ec q j.toNat 2, x, g4, g5, g6]]), .sl true [4, 4, 4] mk], [I6 (el q j.toNat), I6 (ec q j.toNat 1), I6 (ec q j.toNat 2)], [I6 k0, I6 bk, I6 f0, I6 f1, I6 f2, I6 t0, I6 t1, I6 t2, I6 pl, I6 c0, I6 c1, I6 c2, I6 dr, .bool fu, I6 fd, .bool pr, I6 sd, I6 ra, I6 bl, I6 nn, I6 sp, .bool on], [I6 (el q j.toNat), I6 (ec q j.toNat 1), I6 (ec q j.toNat 2), I6 x, I6 g4, I6 g5, I6 g6]])))) (K (.exit 2) ([.ce (.sl false [4, 4, 4, 4, 4, 4, 4, 4, 4, 4, 4, 4, 4, 0, 4, 0, 4, 4, 4, 4, 4, 0] l), .ce (.ptr 1000002 0), .ce (I6 r), .ce (.ptr 1000005 0), .ce (.ptr 1000006 0), .ce (I6 n), .ce (I6 s), .ce (.bool bg), .ce (I6 ix), .ce (.ptr 1000012 0), .ce (.sl false [4, 4, 4, 4, 4, 4, 4, 4, 4, 4, 4, 4, 4, 0, 4, 0, 4, 4, 4, 4, 4, 0] l2), .ce (I6 m), .ce (I6 i)], [[I6 z0, I6 z1, I6 z2, .sl true [4, 4, 4, 4, 4, 4, 4] zs, .sl true [4, 4, 4] zm], [I6 s0, I6 s1, I6 s2, .sl true [4, 4, 4, 4, 4, 4, 4] sg, .sl true [4, 4, 4] mk], [I6 a0, I6 a1, I6 a2], [I6 k0, I6 bk, I6 f0, I6 f1, I6 f2, I6 t0, I6 t1, I6 t2, I6 pl, I6 c0, I6 c1, I6 c2, I6 dr, .bool fu, I6 fd, .bool pr, I6 sd, I6 ra, I6 bl, I6 nn, I6 sp, .bool on], [I6 g0, I6 g1, I6 g2, I6 g3, I6 g4, I6 g5, I6 g6]]))) := by kernel_rfl
theorem vbB0 (r n s fr m i z0 z1 z2 s0 s1 s2 a0 a1 a2 : Int) (bg : Bool) (l zs zm sg mk : LL) (K : HEx -> LV -> Prop) : (nbodyT true CBuild anB0 (nthLoop Tryz.f36 0) (([.ce (.sl false [4, 4, 4, 4, 4, 4, 4, 4, 4, 4, 4, 4, 4, 0, 4, 0, 4, 4, 4, 4, 4, 0] l), .ce (.ptr 1000002 0), .ce (I6 r), .ce (.ptr 1000005 0), .ce (.ptr 1000006 0), .ce (I6 n), .ce (I6 s), .ce (I6 fr), .ce (.bool bg), .ce (.sl false [4, 4, 4, 4, 4, 4, 4, 4, 4, 4, 4, 4, 4, 0, 4, 0, 4, 4, 4, 4, 4, 0] l), .ce (I6 m), .ce (I6 i)], [[I6 z0, I6 z1, I6 z2, .sl true [4, 4, 4, 4, 4, 4, 4] zs, .sl true [4, 4, 4] zm], [I6 s0, I6 s1, I6 s2, .sl true [4, 4, 4, 4, 4, 4, 4] sg, .sl true [4, 4, 4] mk], [I6 a0, I6 a1, I6 a2]])) K) =
 (Br (i < m) ((0 <= i /\ i < (l.length : Int)) /\ el l i.toNat ≠ 8 /\ (1 <= el l i.toNat /\ el l i.toNat <= 6) /\ ∀ (x1 : Bool), x1 = true -> Bb (!x1) (True /\ (∃ (x : Int), True) /\ ∀ (x : Int), True -> ((mk.length + 1) * 24 <= 140737488355328 /\ mk.length + 1 <= maxLen) /\ R6 (i + 1) /\ ∀ x3, x3 = i + 1 -> K .normal ([.ce (.sl false [4, 4, 4, 4, 4, 4, 4, 4, 4, 4, 4, 4, 4, 0, 4, 0, 4, 4, 4, 4, 4, 0] l), .ce (.ptr 1000002 0), .ce (I6 r), .ce (.ptr 1000005 0), .ce (.ptr 1000006 0), .ce (I6 n), .ce (I6 s), .ce (I6 fr), .ce (.bool bg), .ce (.sl false [4, 4, 4, 4, 4, 4, 4, 4, 4, 4, 4, 4, 4, 0, 4, 0, 4, 4, 4, 4, 4, 0] l), .ce (I6 m), .ce (I6 x3)], [[I6 z0, I6 z1, I6 z2, .sl true [4, 4, 4, 4, 4, 4, 4] zs, .sl true [4, 4, 4] zm], [I6 s0, I6 s1, I6 s2, .sl true [4, 4, 4, 4, 4, 4, 4] sg, .sl true [4, 4, 4] (mk ++ [[n, x, i]])], [I6 a0, I6 a1, I6 a2]])) (Bb (!bg) (b3 1073741824 (ec l i.toNat 2) (ec l i.toNat 3) (ec l i.toNat 4) /\ ∀ x4, x4 = ec l i.toNat 2 * 16 -> ∀ x5, x5 = ec l i.toNat 3 * 16 -> ∀ x6, x6 = ec l i.toNat 4 * 16 -> b3 1073741824 (ec l i.toNat 2) (ec l i.toNat 3) (ec l i.toNat 4) /\ ∀ x7, x7 = ec l i.toNat 2 * 16 -> ∀ x8, x8 = ec l i.toNat 3 * 16 -> ∀ x9, x9 = ec l i.toNat 4 * 16 -> ((0 <= ec l i.toNat 14 /\ ec l i.toNat 14 <= 60000000) /\ s = 0) /\ (∃ (x : Int), 0 <= x /\ x <= 16777216) /\ ∀ (x : Int), 0 <= x /\ x <= 16777216 -> (1 <= el l i.toNat /\ el l i.toNat <= 3) /\ ∀ (x11 : Bool), x11 = false -> Bb (x11) (R6 (ec l i.toNat 14 * 16) /\ ∀ x12, x12 = ec l i.toNat 14 * 16 -> ∀ x13, x13 = min x12 16777216 ->
 ((0 <= i /\ i < (l.length : Int)) /\ (-1 <= fr /\ fr < (l.length : Int)) /\ niceL l /\ l.length <= 5) /\ (∃ (x : LL × Bool), List.length x.1 <= 71000 /\ ptsOK (32768 : Int) x.1) /\ ∀ (x : LL × Bool), List.length x.1 <= 71000 /\ ptsOK (32768 : Int) x.1 -> ((List.length x.1 : Int) = (List.length x.1 : Int) /\ (0 : Int) = 0 /\ List.length x.1 <= 71000 /\ ptsOK (32768 : Int) x.1 /\ okB (284000 : Nat) { a0 := x7, a1 := x8, a2 := x9, n := n, s0 := x4, s1 := x5, s2 := x6, sg := sg, mks := mk, fr := (-1 : Int), bg := false }) /\ ∀ (x : BSt × Int × Int × Int × Int), okB (sg.length + 71000) x.1 /\ x.1.s0 = x4 /\ x.1.s1 = x5 /\ x.1.s2 = x6 /\ x.1.mks = mk -> ((0 <= i /\ i < (l.length : Int)) /\ niceL l /\ l.length <= 5) /\ (∃ (x : Int), -1 <= x /\ x < (l.length : Int)) /\ ∀ (x_1 : Int), -1 <= x_1 /\
 x_1 < (l.length : Int) -> Br (x_1 >= 0) (((0 <= i /\ i < (l.length : Int)) /\ niceL l /\ l.length <= 5) /\ (∃ (x : Int), True) /\ ∀ (x_2 : Int), True -> ((List.length x.1.mks + 1) * nat_lit 24 <= 140737488355328 /\ List.length x.1.mks + 1 <= maxLen) /\ R6 (i + 1) /\ ∀ x18, x18 = i + 1 -> K .normal ([.ce (.sl false [4, 4, 4, 4, 4, 4, 4, 4, 4, 4, 4, 4, 4, 0, 4, 0, 4, 4, 4, 4, 4, 0] l), .ce (.ptr 1000002 0), .ce (I6 r), .ce (.ptr 1000005 0), .ce (.ptr 1000006 0), .ce (I6 x.1.n), .ce (I6 s), .ce (I6 i), .ce (.bool true), .ce (.sl false [4, 4, 4, 4, 4, 4, 4, 4, 4, 4, 4, 4, 4, 0, 4, 0, 4, 4, 4, 4, 4, 0] l), .ce (I6 m), .ce (I6 x18)], [[I6 z0, I6 z1, I6 z2, .sl true [4, 4, 4, 4, 4, 4, 4] zs, .sl true [4, 4, 4] zm], [I6 x.1.s0, I6 x.1.s1, I6 x.1.s2, .sl true [4, 4, 4, 4, 4, 4, 4] x.1.sg, .sl true [4, 4, 4] (x.1.mks ++ [[x.1.n, x_2, i]])], [I6 x.1.a0, I6 x.1.a1, I6 x.1.a2]])) (((0 <= i /\ i < (l.length : Int)) /\ niceL l /\ l.length <= 5) /\ (∃ (x : Int), True) /\ ∀ (x_2 : Int), True -> ((List.length x.1.mks + 1) * nat_lit 24 <= 140737488355328 /\ List.length x.1.mks + 1 <= maxLen) /\ R6 (i + 1) /\ ∀ x20, x20 = i + 1 -> K .normal ([.ce (.sl false [4, 4, 4, 4, 4, 4, 4, 4, 4, 4, 4, 4, 4, 0, 4, 0, 4, 4, 4, 4, 4, 0] l), .ce (.ptr 1000002 0), .ce (I6 r), .ce (.ptr 1000005 0), .ce (.ptr 1000006 0), .ce (I6 x.1.n), .ce (I6 s), .ce (I6 (-1)), .ce (.bool true), .ce (.sl false [4, 4, 4, 4, 4, 4, 4, 4, 4, 4, 4, 4, 4, 0, 4, 0, 4, 4, 4, 4, 4, 0] l), .ce (I6 m), .ce (I6 x20)], [[I6 z0, I6 z1, I6 z2, .sl true [4, 4, 4, 4, 4, 4, 4] zs, .sl true [4, 4, 4] zm], [I6 x.1.s0, I6 x.1.s1, I6 x.1.s2, .sl true [4, 4, 4, 4, 4, 4, 4] x.1.sg, .sl true [4, 4, 4] (x.1.mks ++ [[x.1.n, x_2, i]])], [I6 x.1.a0, I6 x.1.a1, I6 x.1.a2]]))) (((0 <= i /\ i < (l.length : Int)) /\ (-1 <= fr /\ fr < (l.length : Int)) /\ niceL l /\ l.length <= 5) /\ (∃ (x : LL × Bool), List.length x.1 <= 71000 /\ ptsOK (32768 : Int) x.1) /\ ∀ (x : LL × Bool), List.length x.1 <= 71000 /\ ptsOK (32768 : Int) x.1 -> ((List.length x.1 : Int) = (List.length x.1 : Int) /\ (0 : Int) = 0 /\ List.length x.1 <= 71000 /\ ptsOK (32768 : Int) x.1 /\ okB (284000 : Nat) { a0 := x7, a1 := x8, a2 := x9, n := n, s0 := x4, s1 := x5, s2 := x6, sg := sg, mks := mk, fr := (-1 : Int), bg := false }) /\ ∀ (x : BSt × Int × Int × Int × Int), okB (sg.length + 71000) x.1 /\ x.1.s0 = x4 /\ x.1.s1 = x5 /\ x.1.s2 = x6 /\ x.1.mks = mk -> ((0 <= i /\ i < (l.length : Int)) /\ niceL l /\ l.length <= 5) /\ (∃ (x : Int), -1 <= x /\ x < (l.length : Int)) /\ ∀ (x_1 : Int), -1 <= x_1 /\
 x_1 < (l.length : Int) -> Br (x_1 >= 0) (((0 <= i /\ i < (l.length : Int)) /\ niceL l /\ l.length <= 5) /\ (∃ (x : Int), True) /\ ∀ (x_2 : Int), True -> ((List.length x.1.mks + 1) * nat_lit 24 <= 140737488355328 /\ List.length x.1.mks + 1 <= maxLen) /\ R6 (i + 1) /\ ∀ x25, x25 = i + 1 -> K .normal ([.ce (.sl false [4, 4, 4, 4, 4, 4, 4, 4, 4, 4, 4, 4, 4, 0, 4, 0, 4, 4, 4, 4, 4, 0] l), .ce (.ptr 1000002 0), .ce (I6 r), .ce (.ptr 1000005 0), .ce (.ptr 1000006 0), .ce (I6 x.1.n), .ce (I6 s), .ce (I6 i), .ce (.bool true), .ce (.sl false [4, 4, 4, 4, 4, 4, 4, 4, 4, 4, 4, 4, 4, 0, 4, 0, 4, 4, 4, 4, 4, 0] l), .ce (I6 m), .ce (I6 x25)], [[I6 z0, I6 z1, I6 z2, .sl true [4, 4, 4, 4, 4, 4, 4] zs, .sl true [4, 4, 4] zm], [I6 x.1.s0, I6 x.1.s1, I6 x.1.s2, .sl true [4, 4, 4, 4, 4, 4, 4] x.1.sg, .sl true [4, 4, 4] (x.1.mks ++ [[x.1.n, x_2, i]])], [I6 x.1.a0, I6 x.1.a1, I6 x.1.a2]])) (((0 <= i /\ i < (l.length : Int)) /\ niceL l /\ l.length <= 5) /\ (∃ (x : Int), True) /\ ∀ (x_2 : Int), True -> ((List.length x.1.mks + 1) * nat_lit 24 <= 140737488355328 /\ List.length x.1.mks + 1 <= maxLen) /\ R6 (i + 1) /\ ∀ x27, x27 = i + 1 -> K .normal ([.ce (.sl false [4, 4, 4, 4, 4, 4, 4, 4, 4, 4, 4, 4, 4, 0, 4, 0, 4, 4, 4, 4, 4, 0] l), .ce (.ptr 1000002 0), .ce (I6 r), .ce (.ptr 1000005 0), .ce (.ptr 1000006 0), .ce (I6 x.1.n), .ce (I6 s), .ce (I6 (-1)), .ce (.bool true), .ce (.sl false [4, 4, 4, 4, 4, 4, 4, 4, 4, 4, 4, 4, 4, 0, 4, 0, 4, 4, 4, 4, 4, 0] l), .ce (I6 m), .ce (I6 x27)], [[I6 z0, I6 z1, I6 z2, .sl true [4, 4, 4, 4, 4, 4, 4] zs, .sl true [4, 4, 4] zm], [I6 x.1.s0, I6 x.1.s1, I6 x.1.s2, .sl true [4, 4, 4, 4, 4, 4, 4] x.1.sg, .sl true [4, 4, 4] (x.1.mks ++ [[x.1.n, x_2, i]])], [I6 x.1.a0, I6 x.1.a1, I6 x.1.a2]])))) (((0 <= ec l i.toNat 14 /\ ec l i.toNat 14 <= 60000000) /\ s = 0) /\ (∃ (x : Int), 0 <= x /\ x <= 16777216) /\ ∀ (x : Int), 0 <= x /\ x <= 16777216 -> (1 <= el l i.toNat /\ el l i.toNat <= 3) /\ ∀ (x29 : Bool), x29 = false -> Bb (x29) (R6 (ec l i.toNat 14 * 16) /\ ∀ x30, x30 = ec l i.toNat 14 * 16 -> ∀ x31, x31 = min x30 16777216 -> ((0 <= i /\ i < (l.length : Int)) /\ (-1 <= fr /\ fr < (l.length : Int)) /\ niceL l /\ l.length <= 5) /\ (∃ (x : LL × Bool), List.length x.1 <= 71000 /\ ptsOK (32768 : Int) x.1) /\ ∀ (x : LL × Bool), List.length x.1 <= 71000 /\ ptsOK (32768 : Int) x.1 -> ((List.length x.1 : Int) = (List.length x.1 : Int) /\ (0 : Int) = 0 /\ List.length x.1 <= 71000 /\ ptsOK (32768 : Int) x.1 /\
 okB (284000 : Nat) { a0 := a0, a1 := a1, a2 := a2, n := n, s0 := s0, s1 := s1, s2 := s2, sg := sg, mks := mk, fr := (-1 : Int), bg := false }) /\ ∀ (x : BSt × Int × Int × Int × Int), okB (sg.length + 71000) x.1 /\ x.1.s0 = s0 /\ x.1.s1 = s1 /\ x.1.s2 = s2 /\ x.1.mks = mk -> ((0 <= i /\ i < (l.length : Int)) /\ niceL l /\ l.length <= 5) /\ (∃ (x : Int), -1 <= x /\ x < (l.length : Int)) /\ ∀ (x_1 : Int), -1 <= x_1 /\ x_1 < (l.length : Int) -> Br (x_1 >= 0) (((0 <= i /\ i < (l.length : Int)) /\ niceL l /\ l.length <= 5) /\ (∃ (x : Int), True) /\ ∀ (x_2 : Int), True -> ((List.length x.1.mks + 1) * 24 <= 140737488355328 /\ List.length x.1.mks + 1 <= maxLen) /\ R6 (i + 1) /\ ∀ x36, x36 = i + 1 -> K .normal ([.ce (.sl false [4, 4, 4, 4, 4, 4, 4, 4, 4, 4, 4, 4, 4, 0, 4, 0, 4, 4, 4, 4, 4, 0] l), .ce (.ptr 1000002 0), .ce (I6 r), .ce (.ptr 1000005 0), .ce (.ptr 1000006 0), .ce (I6 x.1.n), .ce (I6 s), .ce (I6 i), .ce (.bool bg), .ce (.sl false [4, 4, 4, 4, 4, 4, 4, 4, 4, 4, 4, 4, 4, 0, 4, 0, 4, 4, 4, 4, 4, 0] l), .ce (I6 m), .ce (I6 x36)], [[I6 z0, I6 z1, I6 z2, .sl true [4, 4, 4, 4, 4, 4, 4] zs, .sl true [4, 4, 4] zm], [I6 x.1.s0, I6 x.1.s1, I6 x.1.s2, .sl true [4, 4, 4, 4, 4, 4, 4] x.1.sg, .sl true [4, 4, 4] (x.1.mks ++ [[x.1.n, x_2, i]])], [I6 x.1.a0, I6 x.1.a1, I6 x.1.a2]])) (((0 <= i /\ i < (l.length : Int)) /\ niceL l /\ l.length <= 5) /\ (∃ (x : Int), True) /\ ∀ (x_2 : Int), True -> ((List.length x.1.mks + 1) * 24 <= 140737488355328 /\ List.length x.1.mks + 1 <= maxLen) /\ R6 (i + 1) /\ ∀ x38, x38 = i + 1 -> K .normal ([.ce (.sl false [4, 4, 4, 4, 4, 4, 4, 4, 4, 4, 4, 4, 4, 0, 4, 0, 4, 4, 4, 4, 4, 0] l), .ce (.ptr 1000002 0), .ce (I6 r), .ce (.ptr 1000005 0), .ce (.ptr 1000006 0), .ce (I6 x.1.n), .ce (I6 s), .ce (I6 (-1)), .ce (.bool bg), .ce (.sl false [4, 4, 4, 4, 4, 4, 4, 4, 4, 4, 4, 4, 4, 0, 4, 0, 4, 4, 4, 4, 4, 0] l), .ce (I6 m), .ce (I6 x38)], [[I6 z0, I6 z1, I6 z2, .sl true [4, 4, 4, 4, 4, 4, 4] zs, .sl true [4, 4, 4] zm], [I6 x.1.s0, I6 x.1.s1, I6 x.1.s2, .sl true [4, 4, 4, 4, 4, 4, 4] x.1.sg, .sl true [4, 4, 4] (x.1.mks ++ [[x.1.n, x_2, i]])], [I6 x.1.a0, I6 x.1.a1, I6 x.1.a2]]))) (((0 <= i /\ i < (l.length : Int)) /\ (-1 <= fr /\ fr < (l.length : Int)) /\ niceL l /\ l.length <= 5) /\ (∃ (x : LL × Bool), List.length x.1 <= 71000 /\ ptsOK (32768 : Int) x.1) /\ ∀ (x : LL × Bool), List.length x.1 <= 71000 /\ ptsOK (32768 : Int) x.1 -> ((List.length x.1 : Int) = (List.length x.1 : Int) /\ (0 : Int) = 0 /\ List.length x.1 <= 71000 /\ ptsOK (32768 : Int) x.1 /\ okB (284000 : Nat) { a0 := a0, a1 := a1, a2 := a2, n := n, s0 := s0, s1 := s1, s2 := s2, sg := sg, mks := mk, fr := (-1 : Int), bg := false }) /\ ∀ (x : BSt × Int × Int × Int × Int), okB (sg.length + 71000) x.1 /\ x.1.s0 = s0 /\ x.1.s1 = s1 /\ x.1.s2 = s2 /\ x.1.mks = mk -> ((0 <= i /\ i < (l.length : Int)) /\ niceL l /\ l.length <= 5) /\ (∃ (x : Int), -1 <= x /\ x < (l.length : Int)) /\ ∀ (x_1 : Int), -1 <= x_1 /\
 x_1 < (l.length : Int) -> Br (x_1 >= 0) (((0 <= i /\ i < (l.length : Int)) /\ niceL l /\ l.length <= 5) /\ (∃ (x : Int), True) /\ ∀ (x_2 : Int), True -> ((List.length x.1.mks + 1) * 24 <= 140737488355328 /\ List.length x.1.mks + 1 <= maxLen) /\ R6 (i + 1) /\ ∀ x43, x43 = i + 1 -> K .normal ([.ce (.sl false [4, 4, 4, 4, 4, 4, 4, 4, 4, 4, 4, 4, 4, 0, 4, 0, 4, 4, 4, 4, 4, 0] l), .ce (.ptr 1000002 0), .ce (I6 r), .ce (.ptr 1000005 0), .ce (.ptr 1000006 0), .ce (I6 x.1.n), .ce (I6 s), .ce (I6 i), .ce (.bool bg), .ce (.sl false [4, 4, 4, 4, 4, 4, 4, 4, 4, 4, 4, 4, 4, 0, 4, 0, 4, 4, 4, 4, 4, 0] l), .ce (I6 m), .ce (I6 x43)], [[I6 z0, I6 z1, I6 z2, .sl true [4, 4, 4, 4, 4, 4, 4] zs, .sl true [4, 4, 4] zm], [I6 x.1.s0, I6 x.1.s1, I6 x.1.s2, .sl true [4, 4, 4, 4, 4, 4, 4] x.1.sg, .sl true [4, 4, 4] (x.1.mks ++ [[x.1.n, x_2, i]])], [I6 x.1.a0, I6 x.1.a1, I6 x.1.a2]])) (((0 <= i /\ i < (l.length : Int)) /\ niceL l /\ l.length <= 5) /\ (∃ (x : Int), True) /\ ∀ (x_2 : Int), True -> ((List.length x.1.mks + 1) * 24 <= 140737488355328 /\ List.length x.1.mks + 1 <= maxLen) /\ R6 (i + 1) /\ ∀ x45, x45 = i + 1 -> K .normal ([.ce (.sl false [4, 4, 4, 4, 4, 4, 4, 4, 4, 4, 4, 4, 4, 0, 4, 0, 4, 4, 4, 4, 4, 0] l), .ce (.ptr 1000002 0), .ce (I6 r), .ce (.ptr 1000005 0), .ce (.ptr 1000006 0), .ce (I6 x.1.n), .ce (I6 s), .ce (I6 (-1)), .ce (.bool bg), .ce (.sl false [4, 4, 4, 4, 4, 4, 4, 4, 4, 4, 4, 4, 4, 0, 4, 0, 4, 4, 4, 4, 4, 0] l), .ce (I6 m), .ce (I6 x45)], [[I6 z0, I6 z1, I6 z2, .sl true [4, 4, 4, 4, 4, 4, 4] zs, .sl true [4, 4, 4] zm], [I6 x.1.s0, I6 x.1.s1, I6 x.1.s2, .sl true [4, 4, 4, 4, 4, 4, 4] x.1.sg, .sl true [4, 4, 4] (x.1.mks ++ [[x.1.n, x_2, i]])], [I6 x.1.a0, I6 x.1.a1, I6 x.1.a2]])))))) (K (.exit 0) ([.ce (.ptr 1000002 0), .ce (I6 r), .ce (.ptr 1000005 0)], [[I6 z0, I6 z1, I6 z2, .sl true [4, 4, 4, 4, 4, 4, 4] zs, .sl true [4, 4, 4] zm], [I6 s0, I6 s1, I6 s2, .sl true [4, 4, 4, 4, 4, 4, 4] sg, .sl true [4, 4, 4] mk], [I6 a0, I6 a1, I6 a2]]))) := by kernel_rfl
theorem vcBuild (l : LL) (Q : Res -> Prop) : (nfun true CBuild Tryz.f36 (bodyOf Tryz.f36) [.ce (.sl false [4, 4, 4, 4, 4, 4, 4, 4, 4, 4, 4, 4, 4, 0, 4, 0, 4, 4, 4, 4, 4, 0] l)] [] Q) =
 ((niceL l /\ l.length <= 5) /\ (∃ (x : Int), True) /\ ∀ (x : Int), True -> Bb (x != 0) (Q ⟨.tup [.agg [I6 0, I6 0, I6 0, .sl false [4, 4, 4, 4, 4, 4, 4] [], .sl false [4, 4, 4] []], .ce (I6 x)], false, [], []⟩) ((l = l /\ (l.length : Int) = (l.length : Int) /\ niceL l /\ l.length <= 5 /\ (0 : Int) = 0 /\ (0 : Int) = 0 /\ (-1 : Int) = (-1 : Int) /\ false = false /\ (0 : Nat) = 0 /\ okB (0 : Nat) { a0 := (0 : Int), a1 := (0 : Int), a2 := (0 : Int), n := (0 : Int), s0 := (0 : Int), s1 := (0 : Int), s2 := (0 : Int), sg := [], mks := [], fr := (-1 : Int), bg := false }) /\ ∀ (x : BSt), okB (355000 : Nat) x -> Q ⟨.tup [.agg [I6 x.s0, I6 x.s1, I6 x.s2, .sl false [4, 4, 4, 4, 4, 4, 4] x.sg, .sl false [4, 4, 4] x.mks], .ce (I6 0)], false, [], []⟩)) := by kernel_rfl
end Go.Proofs.YtoekmphdpepdbaaGreat
namespace U
theorem bgn_app {s : Int} {sg : LL} {r : List Int} {c : Nat} {j : Nat} (h : j <= sg.length) : bgn s (sg ++ [r]) c j = bgn s sg c j := by
 unfold bgn
 by_cases h0 : (j : Int) <= 0
 . rw [if_pos h0, if_pos h0]
 . rw [if_neg h0, if_neg h0]
   have : ((j : Int) - 1).toNat < sg.length := by omega
   unfold ec
   have e : (sg ++ [r]).getD ((j : Int) - 1).toNat [] = sg.getD ((j : Int) - 1).toNat [] := by rw [List.getD_eq_getElem?_getD, List.getElem?_append_left this, <- List.getD_eq_getElem?_getD]
   rw [e]
theorem bgn_last {s : Int} {sg : LL} {r : List Int} {c : Nat} : bgn s (sg ++ [r]) c ((sg ++ [r]).length : Nat) = r.getD c 0 := by
 unfold bgn
 have hl : (sg ++ [r]).length = sg.length + 1 := by simp
 rw [hl, if_neg (by omega)]
 have e : (((sg.length + 1 : Nat) : Int) - 1).toNat = sg.length := by omega
 rw [e]
 exact ec_app_eq
theorem okB_mono {m k : Nat} {x : BSt} (h : m <= k) (hx : okB m x) : okB k x := ⟨hx.1, hx.2.1, hx.2.2.1, hx.2.2.2.1, hx.2.2.2.2.1, Nat.le_trans hx.2.2.2.2.2.1 h, hx.2.2.2.2.2.2⟩
theorem okLen_of {s0 s1 s2 : Int} {sg : LL} (h : okSegs s0 s1 s2 sg) (hl : sg.length <= 355000) : okLen sg := ⟨by omega, fun j hj => by have := (h j hj).2.1; omega⟩
theorem okB_n {m : Nat} {x : BSt} (h : okB m x) (hl : x.sg.length <= 355000) : 0 <= x.n /\ x.n <= 4503599627370496 := by
 rw [h.2.2.2.2.1]
 exact plen_le (okLen_of h.2.2.1 hl)
theorem okB_step {m : Nat} {a0 a1 a2 n s0 s1 s2 fr p0 p1 p2 x g4 g5 g6 : Int} {sg mk : LL} {bg : Bool} (h : okB m ⟨a0, a1, a2, n, s0, s1, s2, sg, mk, fr, bg⟩) (hp : b3 32768 p0 p1 p2)
 (hne : ¬ (p0 = a0 /\ p1 = a1 /\ p2 = a2)) (hx : isLen a0 a1 a2 p0 p1 p2 x) : okB (m + 1) ⟨p0, p1, p2, n + x, s0, s1, s2, sg ++ [[p0, p1, p2, x, g4, g5, g6]], mk, fr, bg⟩ := by
 obtain ⟨ha, hs, hg, ⟨l0, l1, l2⟩, hn, hm, hk⟩ := h
 dsimp only at ha hs hg l0 l1 l2 hn hm hk
 obtain ⟨x0, x1, x2, xD⟩ := hx
 have xb := xD 65536 (by decide) (by unfold b3 at ha hp ⊢; omega)
 refine ⟨hp, hs, ?_, ⟨by dsimp only; rw [bgn_last]; rfl, by dsimp only; rw [bgn_last]; rfl, by dsimp only; rw [bgn_last]; rfl⟩, ?_, by dsimp only; simp; omega, hk⟩
 . intro j hj
   dsimp only at hj ⊢
   by_cases h : j < sg.length
   . have := hg j h
     simp only [ec_app_lt h]
     rw [bgn_app (by omega), bgn_app (by omega), bgn_app (by omega)]
     exact this
   . have : j = sg.length := by simp at hj; omega
     subst this
     simp only [ec_app_eq]
     rw [bgn_app (Nat.le_refl _), bgn_app (Nat.le_refl _), bgn_app (Nat.le_refl _), <- l0, <- l1, <- l2]
     refine ⟨hp, ?_, ?_⟩
     . show 1 <= x /\ x <= 131072
       omega
     . show b3 x (p0 - a0) (p1 - a1) (p2 - a2)
       unfold b3
       omega
 . dsimp only
   rw [plen_append, hn]
   show plen sg + x = plen sg + (x + 0)
   omega
end U
namespace Go.Proofs.YtoekmphdpepdbaaGreat
section
open Go Go.HL U
attribute [local irreducible] hfun bodyT fragT
set_option maxHeartbeats 2000000 in
theorem loopB1 : ∀ v Q, (LB1 v).wp Q -> hloop CBuild anB1 (nthLoop Tryz.f36 1) v Q := by
 intro v Q h
 unfold LB1 at h
 split at h
 case h_2 => exact h.elim
 rename_i ks l r n s bg ix ks2 l2 m i q qn j rb pb ab ib gb
 cases hks : ksEq ks [4, 4, 4, 4, 4, 4, 4, 4, 4, 4, 4, 4, 4, 0, 4, 0, 4, 4, 4, 4, 4, 0]
 . rw [hks] at h; exact h.elim
 cases hks2 : ksEq ks2 [4, 4, 4, 4, 4, 4, 4, 4, 4, 4, 4, 4, 4, 0, 4, 0, 4, 4, 4, 4, 4, 0]
 . rw [hks, hks2] at h; exact h.elim
 rw [hks, hks2] at h
 obtain rfl := ksEq_eq hks
 obtain rfl := ksEq_eq hks2
 split at h
 case h_2 => exact h.elim
 split at h
 case h_2 => exact h.elim
 split at h
 case h_2 => exact h.elim
 split at h
 case h_2 => exact h.elim
 split at h
 case h_2 => exact h.elim
 rename_i z0 z1 z2 zs zm _ s0 s1 s2 sg mk _ a0 a1 a2 _ g0 g1 g2 g3 g4 g5 g6 _ k0 bk f0 f1 f2 t0 t1 t2 pl c0 c1 c2 dr fu fd pr sd ra bl nn sp on
 obtain ⟨⟨h1, h2, h3, h4, h5⟩, hq⟩ := h
 subst h1 h2
 refine hloop_rec (σ := (BSt × Int × Int × Int × Int) × Nat) (fun x => ([.ce (.sl false [4, 4, 4, 4, 4, 4, 4, 4, 4, 4, 4, 4, 4, 0, 4, 0, 4, 4, 4, 4, 4, 0] l), .ce (.ptr 1000002 0), .ce (I6 r), .ce (.ptr 1000005 0), .ce (.ptr 1000006 0), .ce (I6 x.1.1.n), .ce (I6 s), .ce (.bool bg), .ce (I6 ix), .ce (.ptr 1000012 0), .ce (.ptr 1000013 0), .ce (.sl false [4, 4, 4, 4, 4, 4, 4, 4, 4, 4, 4, 4, 4, 0, 4, 0, 4, 4, 4, 4, 4, 0] l2), .ce (I6 m), .ce (I6 i), .ce (.sl false [4, 4, 4] q), .ce (I6 (q.length : Int)), .ce (I6 (x.2 : Int))], [[I6 z0, I6 z1, I6 z2, .sl true [4, 4, 4, 4, 4, 4, 4] zs, .sl true [4, 4, 4] zm], [I6 x.1.1.s0, I6 x.1.1.s1, I6 x.1.1.s2, .sl true [4, 4, 4, 4, 4, 4, 4] x.1.1.sg, .sl true [4, 4, 4] x.1.1.mks], [I6 x.1.1.a0, I6 x.1.1.a1, I6 x.1.1.a2], [I6 k0, I6 bk, I6 f0, I6 f1, I6 f2, I6 t0, I6 t1, I6 t2, I6 pl, I6 c0, I6 c1, I6 c2, I6 dr, .bool fu, I6 fd, .bool pr, I6 sd, I6 ra, I6 bl, I6 nn, I6 sp, .bool on], [I6 x.1.2.1, I6 x.1.2.2.1, I6 x.1.2.2.2.1, I6 x.1.2.2.2.2, I6 g4, I6 g5, I6 g6]]))
  (fun x => q.length - x.2) (fun x => x.2 <= q.length /\ okB (sg.length + x.2) x.1.1 /\ x.1.1.s0 = s0 /\ x.1.1.s1 = s1 /\ x.1.1.s2 = s2 /\ x.1.1.mks = mk) ?_ ((⟨a0, a1, a2, n, s0, s1, s2, sg, mk, -1, false⟩, g0, g1, g2, g3), 0) ?_
 . rintro ⟨⟨⟨a0, a1, a2, n, u0, u1, u2, sg', mk', fr, bg'⟩, g0, g1, g2, g3⟩, j⟩ ⟨hj, hok, e0, e1, e2, e3⟩ K hn hx _
   dsimp only at hj hok e0 e1 e2 e3 hn ⊢
   subst e0 e1 e2 e3
   have hl := hok.2.2.2.2.2.1
   have hlen : sg'.length <= 355000 := by have := h5.2.2.2.2.2.1; dsimp only at this hl; omega
   refine byVB (vbB1 r n s ix m i q.length j z0 z1 z2 u0 u1 u2 a0 a1 a2 g0 g1 g2 g3 g4 g5 g6 k0 bk f0 f1 f2 t0 t1 t2 pl c0 c1 c2 dr fd sd ra bl nn sp fu pr on bg l l2 q zs zm sg' mk' K) ⟨fun g => ?_, fun g => ?_⟩
   . have g := odt g
     have hjq : j < q.length := by omega
     have ht : Int.toNat (j : Int) = j := rfl
     rw [ht]
     have pj := h4 j hjq
     have pj : b3 32768 (el q j) (ec q j 1) (ec q j 2) := pj
     have step : ∀ y : Int, y = (j : Int) + 1 -> y = ((j + 1 : Nat) : Int) := fun y e => by omega
     refine ⟨by omega, fun _ => ⟨by omega, fun x1 e1 => ?_⟩, fun gne => ⟨⟨b3_mono (by decide) hok.1, b3_mono (by decide) pj⟩, isLen_ex _ _ _ _ _ _, fun x hx2 => ⟨⟨show (sg'.length + 1) * 56 <= 140737488355328 by omega, by unfold maxLen; omega⟩, ?_⟩⟩⟩
     . rw [step x1 e1]
       exact hn ((⟨a0, a1, a2, n, u0, u1, u2, sg', mk', fr, bg'⟩, g0, g1, g2, g3), j + 1) ⟨hjq, okB_mono (by omega) hok, rfl, rfl, rfl, rfl⟩ (by dsimp only; omega)
     . have ne : ¬ (el q j = a0 /\ ec q j 1 = a1 /\ ec q j 2 = a2) := fun hh => by
        rw [hh.1, hh.2.1, hh.2.2] at gne
        simp at gne
       have nb : 0 <= n /\ n <= 4503599627370496 := okB_n hok (by show sg'.length <= 355000; exact hlen)
       have xb := hx2.2.2.2 65536 (by decide) (by have hb : b3 32768 a0 a1 a2 := hok.1; unfold b3 at hb pj ⊢; omega)
       have x0 : -x <= x := by have := hx2.1; omega
       refine ⟨by omega, fun x3 e3 => ⟨fun gg => ?_, fun _ => ⟨by omega, fun x4 e4 => ?_⟩⟩⟩
       . have gg := odt gg
         simp at gg
         omega
       . rw [step x4 e4, e3]
         exact hn ((⟨el q j, ec q j 1, ec q j 2, n + x, u0, u1, u2, sg' ++ [[el q j, ec q j 1, ec q j 2, x, g4, g5, g6]], mk', fr, bg'⟩, el q j, ec q j 1, ec q j 2, x), j + 1) ⟨hjq, okB_step hok pj ne hx2, rfl, rfl, rfl, rfl⟩ (by dsimp only; omega)
   . have g := odf g
     exact hx _ _ (hq (⟨a0, a1, a2, n, u0, u1, u2, sg', mk', fr, bg'⟩, g0, g1, g2, g3) ⟨okB_mono (by omega) hok, rfl, rfl, rfl, rfl⟩)
 . exact ⟨Nat.zero_le _, ⟨h5.1, h5.2.1, h5.2.2.1, h5.2.2.2.1, h5.2.2.2.2.1, Nat.le_refl _, h5.2.2.2.2.2.2⟩, rfl, rfl, rfl, rfl⟩
end
open Go Go.HL U
def SBuild (hA : List HV) (pA : List (List HC)) : SR :=
 match hA, pA with
 | [.ce (.sl false ks l)], [] => bif ksEq ks [4, 4, 4, 4, 4, 4, 4, 4, 4, 4, 4, 4, 4, 0, 4, 0, 4, 4, 4, 4, 4, 0] then .all (niceL l /\ l.length <= 5) (BSt × Int) (fun x => okB 355000 x.1) (fun x => ⟨.tup [.agg [I6 x.1.s0, I6 x.1.s1, I6 x.1.s2, .sl false [4, 4, 4, 4, 4, 4, 4] x.1.sg, .sl false [4, 4, 4] x.1.mks], .ce (I6 x.2)], false, [], []⟩) else .fail
 | _, _ => .fail
end Go.Proofs.YtoekmphdpepdbaaGreat
namespace U
open Go
theorem bTail {l : LL} {i fr a0 a1 a2 n s0 s1 s2 : Int} {sg mk : LL} {j : Nat} {G1 G2 : (BSt × Int × Int × Int × Int) -> Int -> Int -> Prop}
 (hi : i = j) (hj : j < l.length) (hfr : -1 <= fr /\ fr < (l.length : Int)) (hn : niceL l) (hl : l.length <= 5) (hok : okB (71000 * j) ⟨a0, a1, a2, n, s0, s1, s2, sg, mk, -1, false⟩) (hmk : mk.length <= j)
 (fin1 : ∀ x : (BSt × Int × Int × Int × Int), okB (71000 * (j + 1)) x.1 -> x.1.mks.length <= j -> ∀ q y : Int, y = ((j + 1 : Nat) : Int) -> G1 x q y)
 (fin2 : ∀ x : (BSt × Int × Int × Int × Int), okB (71000 * (j + 1)) x.1 -> x.1.mks.length <= j -> ∀ q y : Int, y = ((j + 1 : Nat) : Int) -> G2 x q y) :
 ((0 <= i /\ i < ((l.length : Nat) : Int)) /\ (-1 <= fr /\ fr < ((l.length : Nat) : Int)) /\ niceL l /\ l.length <= 5) /\ (∃ (x : LL × Bool), List.length x.1 <= 71000 /\ ptsOK 32768 x.1) /\
 ∀ (x : LL × Bool), List.length x.1 <= 71000 /\ ptsOK 32768 x.1 ->
 ((((List.length x.1) : Nat) : Int) = (((List.length x.1) : Nat) : Int) /\ (0 : Int) = 0 /\ List.length x.1 <= 71000 /\ ptsOK 32768 x.1 /\ okB 284000 { a0 := a0, a1 := a1, a2 := a2, n := n, s0 := s0, s1 := s1, s2 := s2, sg := sg, mks := mk, fr := -1, bg := false }) /\
 ∀ (x : BSt × Int × Int × Int × Int), okB (List.length sg + 71000) x.1 /\ x.1.s0 = s0 /\ x.1.s1 = s1 /\ x.1.s2 = s2 /\ x.1.mks = mk ->
 ((0 <= i /\ i < ((l.length : Nat) : Int)) /\ niceL l /\ l.length <= 5) /\ (∃ (x : Int), -1 <= x /\ x < ((l.length : Nat) : Int)) /\
 ∀ (x_1 : Int), -1 <= x_1 /\ x_1 < ((l.length : Nat) : Int) -> (decide (x_1 >= 0) = true ->
 ((0 <= i /\ i < ((l.length : Nat) : Int)) /\ niceL l /\ l.length <= 5) /\ (∃ (x : Int), True) /\
 ∀ (x_2 : Int), True ->
 ((List.length x.1.mks + 1) * 24 <= 140737488355328 /\ List.length x.1.mks + 1 <= maxLen) /\ (-9223372036854775808 <= i + 1 /\ i + 1 <= 9223372036854775807) /\
 ∀ (y : Int), y = i + 1 -> G1 x x_2 y) /\ (decide (x_1 >= 0) = false ->
 ((0 <= i /\ i < ((l.length : Nat) : Int)) /\ niceL l /\ l.length <= 5) /\ (∃ (x : Int), True) /\
 ∀ (x_2 : Int), True ->
 ((List.length x.1.mks + 1) * 24 <= 140737488355328 /\ List.length x.1.mks + 1 <= maxLen) /\ (-9223372036854775808 <= i + 1 /\ i + 1 <= 9223372036854775807) /\
 ∀ (y : Int), y = i + 1 -> G2 x x_2 y) := by
 have hsg : sg.length <= 71000 * j := hok.2.2.2.2.2.1
 have hi2 : 0 <= i /\ i < ((l.length : Nat) : Int) := by omega
 refine ⟨⟨hi2, hfr, hn, hl⟩, ⟨([], false), by simp, fun j hj => by simp at hj⟩, fun x hx => ⟨⟨rfl, rfl, hx.1, hx.2, okB_mono (by omega) hok⟩, fun x ⟨ho, _, _, _, em⟩ => ⟨⟨hi2, hn, hl⟩, ⟨0, by omega⟩, fun x1 _ => ?_⟩⟩⟩
 have ho' : okB (71000 * (j + 1)) x.1 := okB_mono (by omega) ho
 have hm' : x.1.mks.length <= j := by rw [em]; exact hmk
 exact ⟨fun _ => ⟨⟨hi2, hn, hl⟩, ⟨0, trivial⟩, fun q _ => ⟨⟨by omega, by unfold maxLen; omega⟩, by omega, fun y e => fin1 x ho' hm' q y (by omega)⟩⟩,
  fun _ => ⟨⟨hi2, hn, hl⟩, ⟨0, trivial⟩, fun q _ => ⟨⟨by omega, by unfold maxLen; omega⟩, by omega, fun y e => fin2 x ho' hm' q y (by omega)⟩⟩⟩
theorem okB_mks {m : Nat} {x : BSt} {mk : LL} {fr : Int} {bg : Bool} (h : okB m x) (hm : mk.length <= 10) : okB m ⟨x.a0, x.a1, x.a2, x.n, x.s0, x.s1, x.s2, x.sg, mk, fr, bg⟩ := ⟨h.1, h.2.1, h.2.2.1, h.2.2.2.1, h.2.2.2.2.1, h.2.2.2.2.2.1, hm⟩
theorem okSegs_nil (s0 s1 s2 : Int) : okSegs s0 s1 s2 [] := fun j hj => by simp at hj
theorem okB_zero (fr : Int) (bg : Bool) : okB 0 ⟨0, 0, 0, 0, 0, 0, 0, [], [], fr, bg⟩ := ⟨(by unfold b3; decide : b3 32768 0 0 0), (by unfold b3; decide : b3 32768 0 0 0), okSegs_nil _ _ _, ⟨rfl, rfl, rfl⟩, rfl, Nat.le_refl 0, (by decide : 0 <= 10)⟩
theorem okPath_len {s0 s1 s2 : Int} {sg mk : LL} (h : okPath s0 s1 s2 sg mk) : okLen sg := okLen_of h.2.1 h.2.2.1
theorem okPath_pts {s0 s1 s2 : Int} {sg mk : LL} (h : okPath s0 s1 s2 sg mk) : okPts s0 s1 s2 sg := by
 obtain ⟨hs, hg, _, _⟩ := h
 unfold b3 at hs
 refine ⟨by omega, by omega, by omega, fun j hj => ?_⟩
 have := (hg j hj).1
 unfold b3 at this
 omega
end U
namespace Go.Proofs.YtoekmphdpepdbaaGreat
open Go Go.HL U
attribute [local irreducible] hfun bodyT fragT
theorem sOther : Sound Tryz.prog 67 SOther := by
 refine sound_of (C := COther) [] Tryz.func67 (by kernel_rfl) (by decide +kernel) (by kernel_rfl) rfl trivial (loops0 (by kernel_rfl)) ?_
 intro hA pA R h
 unfold SOther at h
 split at h
 case h_2 => exfalso; exact h
 rename_i k0 bk f0 f1 f2 t0 t1 t2 pl c0 c1 c2 dr fu fd pr sd ra bl nn sp on
 obtain ⟨_, _, hR⟩ := h
 exact byVC (vcOther k0 bk f0 f1 f2 t0 t1 t2 pl c0 c1 c2 dr fd sd ra bl nn sp fu pr on R) ⟨fun _ => hR _ trivial, fun _ => ⟨fun _ => hR _ trivial, fun _ => hR _ trivial⟩⟩
theorem fragK8 : ∀ v Q, (LK8 v).wp Q -> fragT CBuild anK8 (nthFrag CBuild Tryz.f36 0) v Q := by
 intro v Q h
 unfold LK8 at h
 split at h
 case h_2 => exact h.elim
 rename_i ks l r n s fr bg ix ks2 l2 m i rb pb ab ib
 cases hks : ksEq ks [4, 4, 4, 4, 4, 4, 4, 4, 4, 4, 4, 4, 4, 0, 4, 0, 4, 4, 4, 4, 4, 0]
 . rw [hks] at h; exact h.elim
 cases hks2 : ksEq ks2 [4, 4, 4, 4, 4, 4, 4, 4, 4, 4, 4, 4, 4, 0, 4, 0, 4, 4, 4, 4, 4, 0]
 . rw [hks, hks2] at h; exact h.elim
 rw [hks, hks2] at h
 obtain rfl := ksEq_eq hks
 obtain rfl := ksEq_eq hks2
 split at h
 case h_2 => exact h.elim
 split at h
 case h_2 => exact h.elim
 split at h
 case h_2 => exact h.elim
 split at h
 case h_2 => exact h.elim
 rename_i z0 z1 z2 zs zm _ s0 s1 s2 sg mk _ a0 a1 a2 _ k0 bk f0 f1 f2 t0 t1 t2 pl c0 c1 c2 dr fu fd pr sd ra bl nn sp on
 obtain ⟨hk, hq⟩ := h
 refine byVG (vgK8 r n s fr m i z0 z1 z2 s0 s1 s2 a0 a1 a2 ix bg k0 bk f0 f1 f2 t0 t1 t2 pl c0 c1 c2 dr fd sd ra bl nn sp fu pr on l l2 zs zm sg mk Q) ⟨fun g => (hk (by simpa using g)).elim, fun _ => hq⟩
set_option maxHeartbeats 2000000 in
theorem loopB0 : ∀ v Q, (LB0 v).wp Q -> hloop CBuild anB0 (nthLoop Tryz.f36 0) v Q := by
 intro v Q h
 unfold LB0 at h
 split at h
 case h_2 => exact h.elim
 rename_i ks l r n s fr bg ks2 l2 m i rb pb ab
 cases hks : ksEq ks [4, 4, 4, 4, 4, 4, 4, 4, 4, 4, 4, 4, 4, 0, 4, 0, 4, 4, 4, 4, 4, 0]
 . rw [hks] at h; exact h.elim
 cases hks2 : ksEq ks2 [4, 4, 4, 4, 4, 4, 4, 4, 4, 4, 4, 4, 4, 0, 4, 0, 4, 4, 4, 4, 4, 0]
 . rw [hks, hks2] at h; exact h.elim
 rw [hks, hks2] at h
 obtain rfl := ksEq_eq hks
 obtain rfl := ksEq_eq hks2
 split at h
 case h_2 => exact h.elim
 split at h
 case h_2 => exact h.elim
 split at h
 case h_2 => exact h.elim
 rename_i z0 z1 z2 zs zm _ s0 s1 s2 sg mk _ a0 a1 a2
 obtain ⟨⟨h1, h2, hn, hl, h3, h4, h5, h6, h7, hok⟩, hq⟩ := h
 obtain rfl := List.eq_nil_of_length_eq_zero h7
 subst h1 h2 h3 h4 h5 h6
 refine hloop_rec (σ := BSt × Nat) (fun x => ([.ce (.sl false [4, 4, 4, 4, 4, 4, 4, 4, 4, 4, 4, 4, 4, 0, 4, 0, 4, 4, 4, 4, 4, 0] l2), .ce (.ptr 1000002 0), .ce (I6 r), .ce (.ptr 1000005 0), .ce (.ptr 1000006 0), .ce (I6 x.1.n), .ce (I6 0), .ce (I6 x.1.fr), .ce (.bool x.1.bg), .ce (.sl false [4, 4, 4, 4, 4, 4, 4, 4, 4, 4, 4, 4, 4, 0, 4, 0, 4, 4, 4, 4, 4, 0] l2), .ce (I6 (l2.length : Int)), .ce (I6 (x.2 : Int))], [[I6 z0, I6 z1, I6 z2, .sl true [4, 4, 4, 4, 4, 4, 4] zs, .sl true [4, 4, 4] zm], [I6 x.1.s0, I6 x.1.s1, I6 x.1.s2, .sl true [4, 4, 4, 4, 4, 4, 4] x.1.sg, .sl true [4, 4, 4] x.1.mks], [I6 x.1.a0, I6 x.1.a1, I6 x.1.a2]]))
  (fun x => l2.length - x.2) (fun x => x.2 <= l2.length /\ okB (71000 * x.2) x.1 /\ (-1 <= x.1.fr /\ x.1.fr < (l2.length : Int)) /\ x.1.mks.length <= x.2 /\ (x.1.bg = false -> x.1.sg = [])) ?_ (⟨a0, a1, a2, n, s0, s1, s2, sg, [], -1, false⟩, 0) ?_
 . rintro ⟨⟨a0, a1, a2, n, s0, s1, s2, sg, mk, fr, bg⟩, j⟩ ⟨hj, hok, hfr, hmk, hbg⟩ K hnx hx _
   dsimp only at hj hok hfr hmk hbg hnx ⊢
   refine byVB (vbB0 r n 0 fr l2.length j z0 z1 z2 s0 s1 s2 a0 a1 a2 bg l2 zs zm sg mk K) ⟨fun g => ?_, fun g => ?_⟩
   . have g := odt g
     have hjl : j < l2.length := by omega
     have ht : Int.toNat (j : Int) = j := rfl
     rw [ht]
     obtain ⟨nk, nf, nt, _, _, nfd, _⟩ := hn j hjl
     have nk : 1 <= el l2 j /\ el l2 j <= 3 := nk
     refine ⟨by omega, by omega, by omega, fun x1 e1 => ⟨fun e => (by rw [e1] at e; cases e), fun _ => ⟨fun gb => ?_, fun gb => ?_⟩⟩⟩
     . have nf' : b3 1073741824 (ec l2 j 2) (ec l2 j 3) (ec l2 j 4) := b3_mono (by decide) nf
       refine ⟨nf', fun x4 e4 x5 e5 x6 e6 => ⟨nf', fun x7 e7 x8 e8 x9 e9 => ⟨⟨nfd, rfl⟩, ⟨0, by decide⟩, fun y hy => ⟨nk, fun x11 e11 => ⟨fun e => (by rw [e11] at e; cases e), fun _ => ?_⟩⟩⟩⟩⟩
       have hsg := hbg (by simpa using gb)
       subst hsg
       have ex : n = 0 := hok.2.2.2.2.1
       have b1 : b3 32768 x4 x5 x6 := by unfold b3 at nf ⊢; omega
       have b2 : x7 = x4 /\ x8 = x5 /\ x9 = x6 := by omega
       obtain ⟨rfl, rfl, rfl⟩ := b2
       have ho : okB (71000 * j) ⟨x7, x8, x9, n, x7, x8, x9, [], mk, -1, false⟩ := ⟨b1, b1, okSegs_nil _ _ _, ⟨rfl, rfl, rfl⟩, ex, Nat.zero_le _, by dsimp only; omega⟩
       exact bTail (fr := fr) (l := l2) rfl hjl hfr hn hl ho hmk
        (fun x ho' hm' q y e => by rw [e]; exact hnx (⟨x.1.a0, x.1.a1, x.1.a2, x.1.n, x.1.s0, x.1.s1, x.1.s2, x.1.sg, x.1.mks ++ [[x.1.n, q, (j : Int)]], (j : Int), true⟩, j + 1) ⟨hjl, okB_mks ho' (by simp; omega), ⟨by dsimp only; omega, by dsimp only; omega⟩, by simp; exact hm', fun e => by cases e⟩ (by dsimp only; omega))
        (fun x ho' hm' q y e => by rw [e]; exact hnx (⟨x.1.a0, x.1.a1, x.1.a2, x.1.n, x.1.s0, x.1.s1, x.1.s2, x.1.sg, x.1.mks ++ [[x.1.n, q, (j : Int)]], -1, true⟩, j + 1) ⟨hjl, okB_mks ho' (by simp; omega), ⟨by dsimp only; omega, by dsimp only; omega⟩, by simp; exact hm', fun e => by cases e⟩ (by dsimp only; omega))
     . have hb : bg = true := by simpa using gb
       subst hb
       refine ⟨⟨nfd, rfl⟩, ⟨0, by decide⟩, fun y hy => ⟨nk, fun x11 e11 => ⟨fun e => (by rw [e11] at e; cases e), fun _ => ?_⟩⟩⟩
       exact bTail (fr := fr) (l := l2) rfl hjl hfr hn hl hok hmk
        (fun x ho' hm' q y e => by rw [e]; exact hnx (⟨x.1.a0, x.1.a1, x.1.a2, x.1.n, x.1.s0, x.1.s1, x.1.s2, x.1.sg, x.1.mks ++ [[x.1.n, q, (j : Int)]], (j : Int), true⟩, j + 1) ⟨hjl, okB_mks ho' (by simp; omega), ⟨by dsimp only; omega, by dsimp only; omega⟩, by simp; exact hm', fun e => by cases e⟩ (by dsimp only; omega))
        (fun x ho' hm' q y e => by rw [e]; exact hnx (⟨x.1.a0, x.1.a1, x.1.a2, x.1.n, x.1.s0, x.1.s1, x.1.s2, x.1.sg, x.1.mks ++ [[x.1.n, q, (j : Int)]], -1, true⟩, j + 1) ⟨hjl, okB_mks ho' (by simp; omega), ⟨by dsimp only; omega, by dsimp only; omega⟩, by simp; exact hm', fun e => by cases e⟩ (by dsimp only; omega))
   . have g := odf g
     exact hx _ _ (hq ⟨a0, a1, a2, n, s0, s1, s2, sg, mk, fr, bg⟩ (okB_mono (by omega) hok))
 . exact ⟨Nat.zero_le _, hok, ⟨by dsimp only; omega, by dsimp only; omega⟩, Nat.zero_le _, fun _ => by have := hok.2.2.2.2.2.1; exact List.eq_nil_of_length_eq_zero (by dsimp only at this ⊢; omega)⟩
theorem sBuild : Sound Tryz.prog 36 SBuild := by
 refine sound_of (C := CBuild) tabBuild Tryz.func36 (by kernel_rfl) (by decide +kernel) (by kernel_rfl) rfl ⟨sCheck, sMotion, sOther, sFine, sRate, sSync, sPoints, sLength, sSoft, sKind, trivial⟩ (loopsG [nthLoop Tryz.f36 0, nthLoop Tryz.f36 1] [nthFrag CBuild Tryz.f36 0] (by kernel_rfl) (by kernel_rfl) ⟨loopOK_of (an := anB0) (S := LB0) (by kernel_rfl) loopB0, loopOK_of (an := anB1) (S := LB1) (by kernel_rfl) loopB1, trivial⟩ ⟨fragOK_of (an := anK8) (S := LK8) (by kernel_rfl) fragK8, trivial⟩) ?_
 intro hA pA R h
 unfold SBuild at h
 split at h
 case h_2 => exfalso; exact h
 rename_i ks l
 cases hks : ksEq ks [4, 4, 4, 4, 4, 4, 4, 4, 4, 4, 4, 4, 4, 0, 4, 0, 4, 4, 4, 4, 4, 0]
 . rw [hks] at h; exact h.elim
 rw [hks] at h
 obtain rfl := ksEq_eq hks
 obtain ⟨⟨hn, hl⟩, _, hR⟩ := h
 exact byVC (vcBuild l R) ⟨⟨hn, hl⟩, ⟨0, trivial⟩, fun x _ => ⟨fun _ => hR (⟨0, 0, 0, 0, 0, 0, 0, [], [], -1, false⟩, x) (okB_mono (by decide) (okB_zero _ _)),
  fun _ => ⟨⟨rfl, rfl, hn, hl, rfl, rfl, rfl, rfl, rfl, okB_zero _ _⟩, fun x hx => hR (x, 0) hx⟩⟩⟩
end Go.Proofs.YtoekmphdpepdbaaGreat
namespace U
open Go
def fc1 (a b m d : Int) : Int := if (b - a) * m > 0 then 1 else if (b - a) * m < 0 then -1 else d
def sl1 (a b m n : Int) : Int := if a ≠ b then max n m else n
def slk (b0 b1 b2 w0 w1 w2 d0 d1 d2 : Int) : Int := sl1 w2 d2 b2 (sl1 w1 d1 b1 (sl1 w0 d0 b0 0))
def more (r : List Int) (u : Int) : List Int := [r.getD 0 0, r.getD 1 0 + u, r.getD 2 0, r.getD 3 0, r.getD 4 0, r.getD 5 0, r.getD 6 0, r.getD 7 0, r.getD 8 0, r.getD 9 0]
def tadd (pk : LL) (ln : Int) (q : List Int) : LL × Int :=
 if 0 < pk.length /\ q.getD 3 0 ≠ 0 /\ ec pk (pk.length - 1) 3 = q.getD 3 0 /\ ec pk (pk.length - 1) 7 = q.getD 7 0 /\ ec pk (pk.length - 1) 8 = q.getD 8 0 /\ ec pk (pk.length - 1) 9 = q.getD 9 0 then
  (pk.set (pk.length - 1) (more (pk.getD (pk.length - 1) []) (q.getD 1 0)), ln + q.getD 1 0)
 else (pk ++ [[ln, q.getD 1 0, q.getD 2 0, q.getD 3 0, q.getD 4 0, q.getD 5 0, q.getD 6 0, q.getD 7 0, q.getD 8 0, q.getD 9 0]], ln + q.getD 1 0)
end U
namespace Go.Proofs.YtoekmphdpepdbaaGreat
open Go Go.HL U
def unrT (b : List Nat) : LAnn := ⟨[], [4], b, true⟩
def SFacing (hA : List HV) (pA : List (List HC)) : SR :=
 match hA, pA with
 | [.agg [.int .i64 s0, .int .i64 s1, .int .i64 s2, .sl false [4, 4, 4, 4, 4, 4, 4] sg, .sl false [4, 4, 4] mk], .agg [.int .i64 d0, .int .i64 d1, .int .i64 d2], .ce (.int .i64 i), .ce (.int .i64 m)], [] =>
  .det ((0 <= i /\ i < sg.length) /\ (m = 1 ∨ m = -1) /\ okPts s0 s1 s2 sg /\ sg.length <= 1073741824)
   ⟨.agg [I6 (fc1 (bgn s0 sg 0 i) (ec sg i.toNat 0) m d0), I6 (fc1 (bgn s1 sg 1 i) (ec sg i.toNat 1) m d1), I6 (fc1 (bgn s2 sg 2 i) (ec sg i.toNat 2) m d2)], false, [], []⟩
 | _, _ => .fail
def tabFacing : List (FuncId × HL.Spec) := [(107, SBegin)]
noncomputable def CFacing : Ctx := ⟨Tryz.prog, gam tabFacing, Tryz.f76.ntmps, [(4000003, unrT [1000004, 1000005, 1000008, 1000009, 1000010], fun _ => .fail)], []⟩
theorem vcFacing (s0 s1 s2 d0 d1 d2 i m : Int) (sg mk : LL) (Q : Res -> Prop) : (nfun true CFacing Tryz.f76 (bodyOf Tryz.f76) [.agg [I6 s0, I6 s1, I6 s2, .sl false [4, 4, 4, 4, 4, 4, 4] sg, .sl false [4, 4, 4] mk], .agg [I6 d0, I6 d1, I6 d2], .ce (I6 i), .ce (I6 m)] [] Q) =
 ((i <= (sg.length : Int) /\ sg.length <= 1073741824) /\ ∀ x1, x1 = bgn s0 sg (0 : Nat) i -> ∀ x2, x2 = bgn s1 sg (1 : Nat) i -> ∀ x3, x3 = bgn s2 sg (2 : Nat) i -> (0 <= i /\ i < (sg.length : Int)) /\ R6 (el sg i.toNat - x1) /\ ∀ x4, x4 = el sg i.toNat - x1 -> R6 (x4 * m) /\ ∀ x5, x5 = x4 * m -> Br (x5 > 0) (R6 (ec sg i.toNat 1 - x2) /\ ∀ x6, x6 = ec sg i.toNat 1 - x2 -> R6 (x6 * m) /\ ∀ x7, x7 = x6 * m -> Br (x7 > 0) (R6 (ec sg i.toNat 2 - x3) /\ ∀ x8, x8 = ec sg i.toNat 2 - x3 -> (-9223372036854775808 <= x8 * m /\
 x8 * m <= 9223372036854775807) /\ ∀ x9, x9 = x8 * m -> Br (x9 > 0) (Q ⟨.agg [I6 1, I6 1, I6 1], false, [], []⟩) (Br (x9 < 0) (Q ⟨.agg [I6 1, I6 1, I6 (-1)], false, [], []⟩) (Q ⟨.agg [I6 1, I6 1, I6 d2], false, [], []⟩))) (Br (x7 < 0) (R6 (ec sg i.toNat 2 - x3) /\ ∀ x10, x10 = ec sg i.toNat 2 - x3 -> R6 (x10 * m) /\ ∀ x11, x11 = x10 * m -> Br (x11 > 0) (Q ⟨.agg [I6 1, I6 (-1), I6 1], false, [], []⟩) (Br (x11 < 0) (Q ⟨.agg [I6 1, I6 (-1), I6 (-1)], false, [], []⟩) (Q ⟨.agg [I6 1, I6 (-1), I6 d2], false, [], []⟩))) (R6 (ec sg i.toNat 2 - x3) /\ ∀ x12, x12 = ec sg i.toNat 2 - x3 -> R6 (x12 * m) /\ ∀ x13, x13 = x12 * m -> Br (x13 > 0) (Q ⟨.agg [I6 1, I6 d1, I6 1], false, [], []⟩) (Br (x13 < 0) (Q ⟨.agg [I6 1, I6 d1, I6 (-1)], false, [], []⟩) (Q ⟨.agg [I6 1, I6 d1, I6 d2], false, [], []⟩))))) (Br (x5 < 0) (R6 (ec sg i.toNat 1 - x2) /\ ∀ x14, x14 = ec sg i.toNat 1 - x2 -> R6 (x14 * m) /\
 ∀ x15, x15 = x14 * m -> Br (x15 > 0) (R6 (ec sg i.toNat 2 - x3) /\ ∀ x16, x16 = ec sg i.toNat 2 - x3 -> R6 (x16 * m) /\ ∀ x17, x17 = x16 * m -> Br (x17 > 0) (Q ⟨.agg [I6 (-1), I6 1, I6 1], false, [], []⟩) (Br (x17 < 0) (Q ⟨.agg [I6 (-1), I6 1, I6 (-1)], false, [], []⟩) (Q ⟨.agg [I6 (-1), I6 1, I6 d2], false, [], []⟩))) (Br (x15 < 0) (R6 (ec sg i.toNat 2 - x3) /\ ∀ x18, x18 = ec sg i.toNat 2 - x3 -> R6 (x18 * m) /\ ∀ x19, x19 = x18 * m ->
 Br (x19 > 0) (Q ⟨.agg [I6 (-1), I6 (-1), I6 1], false, [], []⟩) (Br (x19 < 0) (Q ⟨.agg [I6 (-1), I6 (-1), I6 (-1)], false, [], []⟩) (Q ⟨.agg [I6 (-1), I6 (-1), I6 d2], false, [], []⟩))) (R6 (ec sg i.toNat 2 - x3) /\ ∀ x20, x20 = ec sg i.toNat 2 - x3 -> R6 (x20 * m) /\ ∀ x21, x21 = x20 * m -> Br (x21 > 0) (Q ⟨.agg [I6 (-1), I6 d1, I6 1], false, [], []⟩) (Br (x21 < 0) (Q ⟨.agg [I6 (-1), I6 d1, I6 (-1)], false, [], []⟩) (Q ⟨.agg [I6 (-1), I6 d1, I6 d2], false, [], []⟩))))) (R6 (ec sg i.toNat 1 - x2) /\ ∀ x22, x22 = ec sg i.toNat 1 - x2 -> R6 (x22 * m) /\ ∀ x23, x23 = x22 * m -> Br (x23 > 0) (R6 (ec sg i.toNat 2 - x3) /\ ∀ x24, x24 = ec sg i.toNat 2 - x3 -> R6 (x24 * m) /\ ∀ x25, x25 = x24 * m -> Br (x25 > 0) (Q ⟨.agg [I6 d0, I6 1, I6 1], false, [], []⟩) (Br (x25 < 0) (Q ⟨.agg [I6 d0, I6 1, I6 (-1)], false, [], []⟩) (Q ⟨.agg [I6 d0, I6 1, I6 d2], false, [], []⟩))) (Br (x23 < 0) ((-9223372036854775808 <= ec sg i.toNat 2 - x3 /\
 ec sg i.toNat 2 - x3 <= 9223372036854775807) /\ ∀ x26, x26 = ec sg i.toNat 2 - x3 -> R6 (x26 * m) /\ ∀ x27, x27 = x26 * m -> Br (x27 > 0) (Q ⟨.agg [I6 d0, I6 (-1), I6 1], false, [], []⟩) (Br (x27 < 0) (Q ⟨.agg [I6 d0, I6 (-1), I6 (-1)], false, [], []⟩) (Q ⟨.agg [I6 d0, I6 (-1), I6 d2], false, [], []⟩))) (R6 (ec sg i.toNat 2 - x3) /\ ∀ x28, x28 = ec sg i.toNat 2 - x3 -> R6 (x28 * m) /\ ∀ x29, x29 = x28 * m -> Br (x29 > 0) (Q ⟨.agg [I6 d0, I6 d1, I6 1], false, [], []⟩) (Br (x29 < 0) (Q ⟨.agg [I6 d0, I6 d1, I6 (-1)], false, [], []⟩) (Q ⟨.agg [I6 d0, I6 d1, I6 d2], false, [], []⟩))))))) := by kernel_rfl
def SSlack (hA : List HV) (pA : List (List HC)) : SR :=
 match hA, pA with
 | [.agg [.int .i64 sta, .int .i64 spa, .int .i64 aca, .int .i64 jea, .int .i64 loa, .int .i64 hia, .int .i64 bla, .int .i64 oga, .int .i64 sga, .sl false [4] pta, .int .i64 stb, .int .i64 spb, .int .i64 acb, .int .i64 jeb, .int .i64 lob, .int .i64 hib, .int .i64 blb, .int .i64 ogb, .int .i64 sgb, .sl false [4] ptb, .int .i64 stc, .int .i64 spc, .int .i64 acc, .int .i64 jec, .int .i64 loc, .int .i64 hic, .int .i64 blc, .int .i64 ogc, .int .i64 sgc, .sl false [4] ptc], .agg [.int .i64 w0, .int .i64 w1, .int .i64 w2], .agg [.int .i64 d0, .int .i64 d1, .int .i64 d2]], [] =>
  .det True ⟨.ce (I6 (slk bla blb blc w0 w1 w2 d0 d1 d2)), false, [], []⟩
 | _, _ => .fail
noncomputable def CSlack : Ctx := ⟨Tryz.prog, gam [], Tryz.f77.ntmps, [(4000003, unrT [1000003, 1000004, 1000005], fun _ => .fail)], []⟩
theorem vcSlack (sta spa aca jea loa hia bla oga sga stb spb acb jeb lob hib blb ogb sgb stc spc acc jec loc hic blc ogc sgc : Int) (pta ptb ptc : LL) (w0 w1 w2 d0 d1 d2 : Int) (Q : Res -> Prop) : (nfun true CSlack Tryz.f77 (bodyOf Tryz.f77) [.agg [I6 sta, I6 spa, I6 aca, I6 jea, I6 loa, I6 hia, I6 bla, I6 oga, I6 sga, .sl false [4] pta, I6 stb, I6 spb, I6 acb, I6 jeb, I6 lob, I6 hib, I6 blb, I6 ogb, I6 sgb, .sl false [4] ptb, I6 stc, I6 spc, I6 acc, I6 jec, I6 loc, I6 hic, I6 blc, I6 ogc, I6 sgc, .sl false [4] ptc], .agg [I6 w0, I6 w1, I6 w2], .agg [I6 d0, I6 d1, I6 d2]] [] Q) =
 (Bb (w0 != d0) (∀ x1, x1 = max (0 : Int) bla -> Bb (w1 != d1) (∀ x2, x2 = max x1 blb -> Bb (w2 != d2) (∀ x3, x3 = max x2 blc -> Q ⟨.ce (I6 x3), false, [], []⟩) (Q ⟨.ce (I6 x2), false, [], []⟩)) (Bb (w2 != d2) (∀ x4, x4 = max x1 blc -> Q ⟨.ce (I6 x4), false, [], []⟩) (Q ⟨.ce (I6 x1), false, [], []⟩))) (Bb (w1 != d1) (∀ x5, x5 = max (0 : Int) blb -> Bb (w2 != d2) (∀ x6, x6 = max x5 blc -> Q ⟨.ce (I6 x6), false, [], []⟩) (Q ⟨.ce (I6 x5), false, [], []⟩)) (Bb (w2 != d2) (∀ x7, x7 = max (0 : Int) blc -> Q ⟨.ce (I6 x7), false, [], []⟩) (Q ⟨.ce (I6 0), false, [], []⟩)))) := by kernel_rfl
def SAdd (hA : List HV) (pA : List (List HC)) : SR :=
 match hA, pA with
 | [.ce (.ptr 0 0), .agg [.int .i64 q0, .int .i64 q1, .int .i64 q2, .int .i64 q3, .int .i64 q4, .int .i64 q5, .int .i64 q6, .int .i64 q7, .int .i64 q8, .int .i64 q9]], [[.mu [4, 4, 4, 4, 4, 4, 4, 4, 4, 4] pk, .int .i64 ln, .int .i64 sa, .int .i64 d0, .int .i64 d1, .int .i64 d2]] =>
  .all ((-2305843009213693952 <= q1 /\ q1 <= 2305843009213693952) /\ (-2305843009213693952 <= ln /\ ln <= 2305843009213693952) /\ pk.length <= 1000000000000 /\ ∀ j, j < pk.length -> -2305843009213693952 <= ec pk j 1 /\ ec pk j 1 <= 2305843009213693952)
   (LL × Int) (fun x => x = tadd pk ln [q0, q1, q2, q3, q4, q5, q6, q7, q8, q9])
   (fun x => ⟨.tup [], false, [[.mu [4, 4, 4, 4, 4, 4, 4, 4, 4, 4] x.1, I6 x.2, I6 sa, I6 d0, I6 d1, I6 d2]], []⟩)
 | _, _ => .fail
noncomputable def CAdd : Ctx := ⟨Tryz.prog, gam [], Tryz.f78.ntmps, [], [71, spl 1 0 0 8, spl 6 0 0 7]⟩
theorem vcAdd (q0 q1 q2 q3 q4 q5 q6 q7 q8 q9 ln sa d0 d1 d2 : Int) (pk : LL) (Q : Res -> Prop) : (nfun true CAdd Tryz.f78 (bodyOf Tryz.f78) [.ce (.ptr 0 0), .agg [I6 q0, I6 q1, I6 q2, I6 q3, I6 q4, I6 q5, I6 q6, I6 q7, I6 q8, I6 q9]] [[.mu [4, 4, 4, 4, 4, 4, 4, 4, 4, 4] pk, I6 ln, I6 sa, I6 d0, I6 d1, I6 d2]] Q) =
 ((pk.length = 0 -> ((1 : Nat) <= 1 /\ (1 : Nat) * 80 <= 140737488355328 /\ (1 : Nat) <= maxLen) /\ (∃ (x : Nat), (1 : Nat) <= x /\ x <= maxLen) /\ ∀ (x : Nat), (1 : Nat) <= x /\ x <= maxLen -> ((1 : Nat) = 1 /\ x = x /\ (0 : Nat) < 1) /\ R6 (ln + q1) /\ ∀ x2, x2 = ln + q1 -> Q { val := .tup [], own := false, pars := [[.mu [4, 4, 4, 4, 4, 4, 4, 4, 4, 4] [[ln, q1, q2, q3, q4, q5, q6, q7, q8, q9]], I6 x2, I6 sa, I6 d0, I6 d1, I6 d2]], news := [] }) /\ ((0 : Nat) < pk.length -> ∀ (cap : Nat), pk.length <= cap /\ cap <= maxLen -> Br ((pk.length : Int) > 0) (Bb (q3 != 0) (R6 ((pk.length : Int) - 1) /\ ∀ x4, x4 = (pk.length : Int) - 1 ->
 (0 <= x4 /\ x4 < (pk.length : Int)) /\ x4.toNat < pk.length /\ ∀ x5, x5 = ec pk x4.toNat 3 -> Bb (x5 == q3) (R6 ((pk.length : Int) - 1) /\ ∀ x6, x6 = (pk.length : Int) - 1 -> (0 <= x6 /\ x6 < (pk.length : Int)) /\ x6.toNat < pk.length /\ Bb (ec pk x6.toNat 7 == q7 && (ec pk x6.toNat 8 == q8 && (ec pk x6.toNat 9 == q9 && true))) (R6 ((pk.length : Int) - 1) /\ ∀ x7, x7 = (pk.length : Int) - 1 -> (0 <= x7 /\ x7 < (pk.length : Int)) /\ x7.toNat < pk.length /\ ∀ x8, x8 = ec pk x7.toNat 1 -> R6 (x8 + q1) /\ ∀ x9, x9 = x8 + q1 -> (0 <= x7 /\ x7 < (pk.length : Int)) /\ x7.toNat < pk.length /\
 (pk.length = List.length (List.set pk x7.toNat [bif false && true then x9 else el pk x7.toNat, bif true && true then x9 else ec pk x7.toNat 1, bif true && false then (0 : Int) else ec pk x7.toNat 2, bif true && false then (0 : Int) else ec pk x7.toNat 3, bif true && false then (0 : Int) else ec pk x7.toNat 4, bif true && false then (0 : Int) else ec pk x7.toNat 5, bif true && false then (0 : Int) else ec pk x7.toNat 6, bif true && false then (0 : Int) else ec pk x7.toNat 7, bif true && false then (0 : Int) else ec pk x7.toNat 8, bif true && false then (0 : Int) else ec pk x7.toNat 9]) /\ cap = cap /\ (0 : Nat) < List.length (List.set pk x7.toNat [bif false && true then x9 else el pk x7.toNat, bif true && true then x9 else ec pk x7.toNat 1, bif true && false then (0 : Int) else ec pk x7.toNat 2, bif true && false then (0 : Int) else ec pk x7.toNat 3, bif true && false then (0 : Int) else ec pk x7.toNat 4, bif true && false then (0 : Int) else ec pk x7.toNat 5, bif true && false then (0 : Int) else ec pk x7.toNat 6, bif true && false then (0 : Int) else ec pk x7.toNat 7, bif true && false then (0 : Int) else ec pk x7.toNat 8, bif true && false then (0 : Int) else ec pk x7.toNat 9])) /\
 R6 (ln + q1) /\ ∀ x10, x10 = ln + q1 -> Q { val := .tup [], own := false, pars := [[.mu [4, 4, 4, 4, 4, 4, 4, 4, 4, 4] (List.set pk x7.toNat [bif false && true then x9 else el pk x7.toNat, bif true && true then x9 else ec pk x7.toNat 1, bif true && false then (0 : Int) else ec pk x7.toNat 2, bif true && false then (0 : Int) else ec pk x7.toNat 3, bif true && false then (0 : Int) else ec pk x7.toNat 4, bif true && false then (0 : Int) else ec pk x7.toNat 5, bif true && false then (0 : Int) else ec pk x7.toNat 6, bif true && false then (0 : Int) else ec pk x7.toNat 7, bif true && false then (0 : Int) else ec pk x7.toNat 8, bif true && false then (0 : Int) else ec pk x7.toNat 9]), I6 x10, I6 sa, I6 d0, I6 d1, I6 d2]], news := [] }) ((pk.length = pk.length /\ cap = cap /\ (pk.length + 1) * 80 <= 140737488355328 /\ pk.length + 1 <= maxLen) /\ (∃ (x : Nat), pk.length + 1 <= x /\ x <= maxLen) /\ ∀ (x : Nat), pk.length + 1 <= x /\ x <= maxLen -> (pk.length + 1 = List.length (pk ++ [[ln, q1, q2, q3, q4, q5, q6, q7, q8, q9]]) /\ x = x /\ (0 : Nat) < List.length (pk ++ [[ln, q1, q2, q3, q4, q5, q6, q7, q8, q9]])) /\ R6 (ln + q1) /\ ∀ x12, x12 = ln + q1 -> Q { val := .tup [], own := false, pars := [[.mu [4, 4, 4, 4, 4, 4, 4, 4, 4, 4] (pk ++ [[ln, q1, q2, q3, q4, q5, q6, q7, q8, q9]]), I6 x12, I6 sa, I6 d0, I6 d1, I6 d2]], news := [] })) ((pk.length = pk.length /\ cap = cap /\ (pk.length + 1) * 80 <= 140737488355328 /\
 pk.length + 1 <= maxLen) /\ (∃ (x : Nat), pk.length + 1 <= x /\ x <= maxLen) /\ ∀ (x : Nat), pk.length + 1 <= x /\ x <= maxLen -> (pk.length + 1 = List.length (pk ++ [[ln, q1, q2, q3, q4, q5, q6, q7, q8, q9]]) /\ x = x /\ (0 : Nat) < List.length (pk ++ [[ln, q1, q2, q3, q4, q5, q6, q7, q8, q9]])) /\ R6 (ln + q1) /\ ∀ x14, x14 = ln + q1 -> Q { val := .tup [], own := false, pars := [[.mu [4, 4, 4, 4, 4, 4, 4, 4, 4, 4] (pk ++ [[ln, q1, q2, q3, q4, q5, q6, q7, q8, q9]]), I6 x14, I6 sa, I6 d0, I6 d1, I6 d2]], news := [] })) ((pk.length = pk.length /\ cap = cap /\ (pk.length + 1) * 80 <= 140737488355328 /\ pk.length + 1 <= maxLen) /\ (∃ (x : Nat), pk.length + 1 <= x /\ x <= maxLen) /\ ∀ (x : Nat), pk.length + 1 <= x /\
 x <= maxLen -> (pk.length + 1 = List.length (pk ++ [[ln, q1, q2, q3, q4, q5, q6, q7, q8, q9]]) /\ x = x /\ (0 : Nat) < List.length (pk ++ [[ln, q1, q2, q3, q4, q5, q6, q7, q8, q9]])) /\ R6 (ln + q1) /\ ∀ x16, x16 = ln + q1 -> Q { val := .tup [], own := false, pars := [[.mu [4, 4, 4, 4, 4, 4, 4, 4, 4, 4] (pk ++ [[ln, q1, q2, q3, q4, q5, q6, q7, q8, q9]]), I6 x16, I6 sa, I6 d0, I6 d1, I6 d2]], news := [] })) ((pk.length = pk.length /\ cap = cap /\ (pk.length + 1) * 80 <= 140737488355328 /\ pk.length + 1 <= maxLen) /\ (∃ (x : Nat), pk.length + 1 <= x /\ x <= maxLen) /\ ∀ (x : Nat), pk.length + 1 <= x /\ x <= maxLen -> (pk.length + 1 = List.length (pk ++ [[ln, q1, q2, q3, q4, q5, q6, q7, q8, q9]]) /\
 x = x /\ (0 : Nat) < List.length (pk ++ [[ln, q1, q2, q3, q4, q5, q6, q7, q8, q9]])) /\ R6 (ln + q1) /\ ∀ x18, x18 = ln + q1 -> Q { val := .tup [], own := false, pars := [[.mu [4, 4, 4, 4, 4, 4, 4, 4, 4, 4] (pk ++ [[ln, q1, q2, q3, q4, q5, q6, q7, q8, q9]]), I6 x18, I6 sa, I6 d0, I6 d1, I6 d2]], news := [] }))) := by kernel_rfl
end Go.Proofs.YtoekmphdpepdbaaGreat
namespace U
theorem bgn_bd {s i : Int} {sg : LL} {c : Nat} (h0 : -536870912 <= s /\ s <= 536870912) (h : ∀ j, j < sg.length -> -536870912 <= ec sg j c /\ ec sg j c <= 536870912) (hi : i <= sg.length) : -536870912 <= bgn s sg c i /\ bgn s sg c i <= 536870912 := by
 unfold bgn
 by_cases hh : i <= 0
 . rw [if_pos hh]; exact h0
 . rw [if_neg hh]; exact h _ (by omega)
theorem sl1_t {a b m n : Int} (h : (a != b) = true) : max n m = sl1 a b m n := by unfold sl1; rw [if_pos (by simpa using h)]
theorem sl1_f {a b m n : Int} (h : (a != b) = false) : n = sl1 a b m n := by unfold sl1; rw [if_neg (by simpa using h)]
theorem tadd_app {pk : LL} {ln q0 q1 q2 q3 q4 q5 q6 q7 q8 q9 : Int} (h : ¬ (0 < pk.length /\ q3 ≠ 0 /\ ec pk (pk.length - 1) 3 = q3 /\ ec pk (pk.length - 1) 7 = q7 /\ ec pk (pk.length - 1) 8 = q8 /\ ec pk (pk.length - 1) 9 = q9)) :
 tadd pk ln [q0, q1, q2, q3, q4, q5, q6, q7, q8, q9] = (pk ++ [[ln, q1, q2, q3, q4, q5, q6, q7, q8, q9]], ln + q1) := if_neg h
theorem tadd_more {pk : LL} {ln q0 q1 q2 q3 q4 q5 q6 q7 q8 q9 : Int} (h : 0 < pk.length /\ q3 ≠ 0 /\ ec pk (pk.length - 1) 3 = q3 /\ ec pk (pk.length - 1) 7 = q7 /\ ec pk (pk.length - 1) 8 = q8 /\ ec pk (pk.length - 1) 9 = q9) :
 tadd pk ln [q0, q1, q2, q3, q4, q5, q6, q7, q8, q9] = (pk.set (pk.length - 1) (more (pk.getD (pk.length - 1) []) q1), ln + q1) := if_pos h
end U
namespace Go.Proofs.YtoekmphdpepdbaaGreat
open Go Go.HL U
attribute [local irreducible] hfun bodyT fragT
theorem sFacing : Sound Tryz.prog 76 SFacing := by
 refine sound_of (C := CFacing) tabFacing Tryz.func76 (by kernel_rfl) (by decide +kernel) (by kernel_rfl) rfl ⟨sBegin, trivial⟩ (loopsAll (by kernel_rfl)) ?_
 intro hA pA R h
 unfold SFacing at h
 split at h
 case h_2 => exfalso; exact h
 rename_i s0 s1 s2 sg mk d0 d1 d2 i m
 obtain ⟨⟨⟨hi0, hi1⟩, hm, ⟨k0, k1, k2, kk⟩, hlen⟩, hq⟩ := h
 have hq : ∀ e0 e1 e2, e0 = fc1 (bgn s0 sg 0 i) (ec sg i.toNat 0) m d0 -> e1 = fc1 (bgn s1 sg 1 i) (ec sg i.toNat 1) m d1 -> e2 = fc1 (bgn s2 sg 2 i) (ec sg i.toNat 2) m d2 ->
  R ⟨.agg [I6 e0, I6 e1, I6 e2], false, [], []⟩ := fun e0 e1 e2 h0 h1 h2 => by rw [h0, h1, h2]; exact hq
 have b0 := bgn_bd (i := i) k0 (fun j hj => (kk j hj).1) (by omega)
 have b1 := bgn_bd (i := i) k1 (fun j hj => (kk j hj).2.1) (by omega)
 have b2 := bgn_bd (i := i) k2 (fun j hj => (kk j hj).2.2) (by omega)
 obtain ⟨c0, c1, c2⟩ := kk i.toNat (by omega)
 have c0 : -536870912 <= el sg i.toNat /\ el sg i.toNat <= 536870912 := c0
 refine byVC (vcFacing s0 s1 s2 d0 d1 d2 i m sg mk R) ?_
 clear kk k0 k1 k2
 refine ⟨⟨by omega, hlen⟩, ?_⟩
 rintro _ rfl _ rfl _ rfl
 have hq : ∀ e0 e1 e2, e0 = fc1 (bgn s0 sg 0 i) (el sg i.toNat) m d0 -> e1 = fc1 (bgn s1 sg 1 i) (ec sg i.toNat 1) m d1 -> e2 = fc1 (bgn s2 sg 2 i) (ec sg i.toNat 2) m d2 ->
  R ⟨.agg [I6 e0, I6 e1, I6 e2], false, [], []⟩ := hq
 generalize bgn s0 sg 0 i = A0 at *
 generalize bgn s1 sg 1 i = A1 at *
 generalize bgn s2 sg 2 i = A2 at *
 generalize el sg i.toNat = B0 at *
 generalize ec sg i.toNat 1 = B1 at *
 generalize ec sg i.toNat 2 = B2 at *
 have n0 : -1073741824 <= (B0 - A0) * m /\ (B0 - A0) * m <= 1073741824 := by rcases hm with rfl | rfl <;> omega
 have n1 : -1073741824 <= (B1 - A1) * m /\ (B1 - A1) * m <= 1073741824 := by rcases hm with rfl | rfl <;> omega
 have n2 : -1073741824 <= (B2 - A2) * m /\ (B2 - A2) * m <= 1073741824 := by rcases hm with rfl | rfl <;> omega
 refine ⟨⟨hi0, hi1⟩, by omega, ?_⟩
 rintro _ rfl
 refine ⟨by omega, ?_⟩
 rintro _ rfl
 unfold fc1 at hq
 generalize (B0 - A0) * m = V0 at *
 have t1 : ∀ e0, e0 = (if V0 > 0 then 1 else if V0 < 0 then -1 else d0) -> ((-9223372036854775808 <= B1 - A1 /\ B1 - A1 <= 9223372036854775807) /\ ∀ x : Int, x = B1 - A1 -> (-9223372036854775808 <= x * m /\ x * m <= 9223372036854775807) /\ ∀ y : Int, y = x * m -> (decide (y > 0) = true -> ((-9223372036854775808 <= B2 - A2 /\ B2 - A2 <= 9223372036854775807) /\ ∀ x : Int, x = B2 - A2 -> (-9223372036854775808 <= x * m /\ x * m <= 9223372036854775807) /\ ∀ y : Int, y = x * m -> (decide (y > 0) = true -> R ⟨.agg [I6 e0, I6 1, I6 1], false, [], []⟩) /\ (decide (y > 0) = false -> (decide (y < 0) = true -> R ⟨.agg [I6 e0, I6 1, I6 (-1)], false, [], []⟩) /\ (decide (y < 0) = false -> R ⟨.agg [I6 e0, I6 1, I6 d2], false, [], []⟩)))) /\ (decide (y > 0) = false -> (decide (y < 0) = true -> ((-9223372036854775808 <= B2 - A2 /\ B2 - A2 <= 9223372036854775807) /\ ∀ x : Int, x = B2 - A2 -> (-9223372036854775808 <= x * m /\ x * m <= 9223372036854775807) /\ ∀ y : Int, y = x * m -> (decide (y > 0) = true -> R ⟨.agg [I6 e0, I6 (-1), I6 1], false, [], []⟩) /\ (decide (y > 0) = false -> (decide (y < 0) = true -> R ⟨.agg [I6 e0, I6 (-1), I6 (-1)], false, [], []⟩) /\ (decide (y < 0) = false -> R ⟨.agg [I6 e0, I6 (-1), I6 d2], false, [], []⟩)))) /\ (decide (y < 0) = false -> ((-9223372036854775808 <= B2 - A2 /\ B2 - A2 <= 9223372036854775807) /\ ∀ x : Int, x = B2 - A2 -> (-9223372036854775808 <= x * m /\ x * m <= 9223372036854775807) /\ ∀ y : Int, y = x * m -> (decide (y > 0) = true -> R ⟨.agg [I6 e0, I6 d1, I6 1], false, [], []⟩) /\ (decide (y > 0) = false -> (decide (y < 0) = true -> R ⟨.agg [I6 e0, I6 d1, I6 (-1)], false, [], []⟩) /\ (decide (y < 0) = false -> R ⟨.agg [I6 e0, I6 d1, I6 d2], false, [], []⟩)))))) := by
  intro e0 h0
  refine ⟨by omega, ?_⟩
  rintro _ rfl
  refine ⟨by omega, ?_⟩
  rintro _ rfl
  generalize (B1 - A1) * m = V1 at *
  have t2 : ∀ e1, e1 = (if V1 > 0 then 1 else if V1 < 0 then -1 else d1) -> ((-9223372036854775808 <= B2 - A2 /\ B2 - A2 <= 9223372036854775807) /\ ∀ x : Int, x = B2 - A2 -> (-9223372036854775808 <= x * m /\ x * m <= 9223372036854775807) /\ ∀ y : Int, y = x * m -> (decide (y > 0) = true -> R ⟨.agg [I6 e0, I6 e1, I6 1], false, [], []⟩) /\ (decide (y > 0) = false -> (decide (y < 0) = true -> R ⟨.agg [I6 e0, I6 e1, I6 (-1)], false, [], []⟩) /\ (decide (y < 0) = false -> R ⟨.agg [I6 e0, I6 e1, I6 d2], false, [], []⟩))) := by
   intro e1 h1
   refine ⟨by omega, ?_⟩
   rintro _ rfl
   refine ⟨by omega, ?_⟩
   rintro _ rfl
   generalize (B2 - A2) * m = V2 at *
   refine ⟨fun g => hq _ _ _ h0 h1 ?_, fun g => ⟨fun g2 => hq _ _ _ h0 h1 ?_, fun g2 => hq _ _ _ h0 h1 ?_⟩⟩
   . rw [if_pos (odt g)]
   . rw [if_neg (odf g), if_pos (odt g2)]
   . rw [if_neg (odf g), if_neg (odf g2)]
  refine ⟨fun g => t2 _ ?_, fun g => ⟨fun g2 => t2 _ ?_, fun g2 => t2 _ ?_⟩⟩
  . rw [if_pos (odt g)]
  . rw [if_neg (odf g), if_pos (odt g2)]
  . rw [if_neg (odf g), if_neg (odf g2)]
 refine ⟨fun g => t1 _ ?_, fun g => ⟨fun g2 => t1 _ ?_, fun g2 => t1 _ ?_⟩⟩
 . rw [if_pos (odt g)]
 . rw [if_neg (odf g), if_pos (odt g2)]
 . rw [if_neg (odf g), if_neg (odf g2)]
theorem sSlack : Sound Tryz.prog 77 SSlack := by
 refine sound_of (C := CSlack) [] Tryz.func77 (by kernel_rfl) (by decide +kernel) (by kernel_rfl) rfl trivial (loopsAll (by kernel_rfl)) ?_
 intro hA pA R h
 unfold SSlack at h
 split at h
 case h_2 => exfalso; exact h
 rename_i sta spa aca jea loa hia bla oga sga pta stb spb acb jeb lob hib blb ogb sgb ptb stc spc acc jec loc hic blc ogc sgc ptc w0 w1 w2 d0 d1 d2
 obtain ⟨_, hq⟩ := h
 have hq : ∀ e0 e1 e2, e0 = sl1 w0 d0 bla 0 -> e1 = sl1 w1 d1 blb e0 -> e2 = sl1 w2 d2 blc e1 -> R ⟨.ce (I6 e2), false, [], []⟩ := fun e0 e1 e2 h0 h1 h2 => by rw [h2, h1, h0]; exact hq
 refine byVC (vcSlack sta spa aca jea loa hia bla oga sga stb spb acb jeb lob hib blb ogb sgb stc spc acc jec loc hic blc ogc sgc pta ptb ptc w0 w1 w2 d0 d1 d2 R) ?_
 repeat' first | apply And.intro | (rintro _ rfl) | intro _
 all_goals first
  | exact hq _ _ _ (by first | exact sl1_t (by assumption) | exact sl1_f (by assumption)) (by first | exact sl1_t (by assumption) | exact sl1_f (by assumption)) (by first | exact sl1_t (by assumption) | exact sl1_f (by assumption))
  | omega
theorem sAdd : Sound Tryz.prog 78 SAdd := by
 refine sound_of (C := CAdd) [] Tryz.func78 (by kernel_rfl) (by decide +kernel) (by kernel_rfl) rfl trivial (loops0 (by kernel_rfl)) ?_
 intro hA pA R h
 unfold SAdd at h
 split at h
 case h_2 => exfalso; exact h
 rename_i q0 q1 q2 q3 q4 q5 q6 q7 q8 q9 pk ln sa d0 d1 d2
 obtain ⟨⟨hq1, hln, hlen, hpk⟩, _, hq⟩ := h
 have app : ¬ (0 < pk.length /\ q3 ≠ 0 /\ ec pk (pk.length - 1) 3 = q3 /\ ec pk (pk.length - 1) 7 = q7 /\ ec pk (pk.length - 1) 8 = q8 /\ ec pk (pk.length - 1) 9 = q9) -> ∀ x : Int, x = ln + q1 ->
  R ⟨.tup [], false, [[.mu [4, 4, 4, 4, 4, 4, 4, 4, 4, 4] (pk ++ [[ln, q1, q2, q3, q4, q5, q6, q7, q8, q9]]), I6 x, I6 sa, I6 d0, I6 d1, I6 d2]], []⟩ := by
  intro hh x e
  have := hq _ rfl
  rw [tadd_app hh] at this
  rw [e]
  exact this
 have grow : ∀ cap : Nat, pk.length <= cap -> (pk.length = pk.length /\ cap = cap /\ (pk.length + 1) * 80 <= 140737488355328 /\ pk.length + 1 <= maxLen) /\ (∃ x : Nat, pk.length + 1 <= x /\ x <= maxLen) := fun cap _ =>
  ⟨⟨rfl, rfl, by omega, by unfold maxLen; omega⟩, ⟨pk.length + 1, Nat.le_refl _, by unfold maxLen; omega⟩⟩
 have room : ∀ x : Nat, (pk.length + 1 = (pk ++ [[ln, q1, q2, q3, q4, q5, q6, q7, q8, q9]]).length /\ x = x /\ 0 < (pk ++ [[ln, q1, q2, q3, q4, q5, q6, q7, q8, q9]]).length) := fun x => by simp
 refine byVC (vcAdd q0 q1 q2 q3 q4 q5 q6 q7 q8 q9 ln sa d0 d1 d2 pk R) ⟨fun h0 => ?_, fun h0 cap hcap => ⟨fun g1 => ⟨fun g2 => ⟨by omega, fun x4 e4 => ⟨by omega, by omega, fun x5 e5 => ⟨fun g3 => ⟨by omega, fun x6 e6 => ⟨by omega, by omega, fun g4 => ?_, fun g4 => ?_⟩⟩, fun g3 => ?_⟩⟩⟩, fun g2 => ?_⟩, fun g1 => ?_⟩⟩
 . obtain rfl : pk = [] := List.eq_nil_of_length_eq_zero h0
   refine ⟨⟨by decide, by decide, by unfold maxLen; decide⟩, ⟨1, by decide, by unfold maxLen; decide⟩, fun x hx => ⟨⟨rfl, rfl, by decide⟩, by omega, fun x2 e2 => ?_⟩⟩
   exact app (fun hh => absurd hh.1 (by decide)) x2 e2
 . have g2 : q3 ≠ 0 := by simpa using g2
   have g3 : x5 = q3 := by simpa using g3
   have ht : x4.toNat = pk.length - 1 := by omega
   have ht6 : x6.toNat = pk.length - 1 := by omega
   rw [ht] at e5
   rw [ht6] at g4
   have g4 : ec pk (pk.length - 1) 7 = q7 /\ ec pk (pk.length - 1) 8 = q8 /\ ec pk (pk.length - 1) 9 = q9 := by simpa using g4
   have hb := hpk (pk.length - 1) (by omega)
   refine ⟨by omega, fun x7 e7 => ?_⟩
   have ht7 : x7.toNat = pk.length - 1 := by omega
   rw [ht7]
   refine ⟨by omega, by omega, fun x8 e8 => ⟨by omega, fun x9 e9 => ⟨by omega, by omega, ⟨by rw [List.length_set], rfl, by rw [List.length_set]; exact h0⟩, by omega, fun x10 e10 => ?_⟩⟩⟩
   have := hq _ rfl
   rw [tadd_more ⟨h0, g2, by rw [<- e5]; exact g3, g4⟩] at this
   rw [e10, e9, e8]
   exact this
 . have no : ¬ (ec pk (pk.length - 1) 7 = q7 /\ ec pk (pk.length - 1) 8 = q8 /\ ec pk (pk.length - 1) 9 = q9) := fun hh => by
    have ht6 : x6.toNat = pk.length - 1 := by omega
    rw [ht6, hh.1, hh.2.1, hh.2.2] at g4
    simp at g4
   exact ⟨(grow cap hcap.1).1, (grow cap hcap.1).2, fun x hx => ⟨room x, by omega, fun x12 e12 => app (fun hh => no hh.2.2.2) x12 e12⟩⟩
 . have no : ¬ ec pk (pk.length - 1) 3 = q3 := fun hh => by
    have ht : x4.toNat = pk.length - 1 := by omega
    rw [ht, hh] at e5
    rw [e5] at g3
    simp at g3
   exact ⟨(grow cap hcap.1).1, (grow cap hcap.1).2, fun x hx => ⟨room x, by omega, fun x12 e12 => app (fun hh => no hh.2.2.1) x12 e12⟩⟩
 . have no : ¬ q3 ≠ 0 := by simpa using g2
   exact ⟨(grow cap hcap.1).1, (grow cap hcap.1).2, fun x hx => ⟨room x, by omega, fun x12 e12 => app (fun hh => no hh.2.1) x12 e12⟩⟩
 . have g1 := odf g1
   omega
end Go.Proofs.YtoekmphdpepdbaaGreat
