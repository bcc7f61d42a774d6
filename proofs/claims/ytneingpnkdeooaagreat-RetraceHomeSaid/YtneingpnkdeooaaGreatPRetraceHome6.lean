/-
  Part 6 of the texts that the law needs, merged.
  Conditions: none.
-/
import Derived.Test.YtneingpnkdeooaaGreatPRetraceHome5
set_option maxRecDepth 100000
set_option maxHeartbeats 400000
set_option linter.unusedVariables false
set_option linter.unusedSimpArgs false
namespace Go.Proofs.YtneingpnkdeooaaGreat
open Go Go.HL U
def SSmooth (hargs : List HV) (pars : List (List HC)) : SR :=
 match hargs, pars with
 | [.agg [.int .i64 k0, .int .i64 bk, .int .i64 f0, .int .i64 f1, .int .i64 f2, .int .i64 t0, .int .i64 t1, .int .i64 t2, .int .i64 pl, .int .i64 c0, .int .i64 c1, .int .i64 c2, .int .i64 dr, .bool fu, .int .i64 fd, .bool pr, .int .i64 sd, .int .i64 ra, .int .i64 bl, .int .i64 nn, .int .i64 sp, .bool on]], [] => .all True Bool (fun x => x = true -> k0 = 2) (fun x => ⟨.ce (.bool x), false, [], []⟩)
 | _, _ => .fail
noncomputable def CSmooth : Ctx := ⟨Tryz.prog, gam [], Tryz.f101.ntmps, [], []⟩
theorem vcSmooth (k0 bk f0 f1 f2 t0 t1 t2 pl c0 c1 c2 dr fd sd ra bl nn sp : Int) (fu pr on : Bool) (Q : Res -> Prop) : (nfun true CSmooth Tryz.f101 (bodyOf Tryz.f101) [.agg [.int .i64 k0, .int .i64 bk, .int .i64 f0, .int .i64 f1, .int .i64 f2, .int .i64 t0, .int .i64 t1, .int .i64 t2, .int .i64 pl, .int .i64 c0, .int .i64 c1, .int .i64 c2, .int .i64 dr, .bool fu, .int .i64 fd, .bool pr, .int .i64 sd, .int .i64 ra, .int .i64 bl, .int .i64 nn, .int .i64 sp, .bool on]] [] Q) =
 (((k0 == 2) = true -> Q ⟨.ce (.bool !(f0 == t0 && (f1 == t1 && (f2 == t2 && true)))), false, [], []⟩) /\ ((k0 == 2) = false -> Q ⟨.ce (.bool false), false, [], []⟩)) := by kernel_rfl
def SCenter (hargs : List HV) (pars : List (List HC)) : SR :=
 match hargs, pars with
 | [.agg [.int .i64 k0, .int .i64 bk, .int .i64 f0, .int .i64 f1, .int .i64 f2, .int .i64 t0, .int .i64 t1, .int .i64 t2, .int .i64 pl, .int .i64 c0, .int .i64 c1, .int .i64 c2, .int .i64 dr, .bool fu, .int .i64 fd, .bool pr, .int .i64 sd, .int .i64 ra, .int .i64 bl, .int .i64 nn, .int .i64 sp, .bool on]], [] => .det (b3 256 f0 f1 f2 /\ b3 256 t0 t1 t2) ⟨.agg [.int .i64 ((f0 + t0) * 8), .int .i64 ((f1 + t1) * 8), .int .i64 ((f2 + t2) * 8)], false, [], []⟩
 | _, _ => .fail
noncomputable def CCenter : Ctx := ⟨Tryz.prog, gam [], Tryz.f103.ntmps, [], []⟩
theorem vcCenter (k0 bk f0 f1 f2 t0 t1 t2 pl c0 c1 c2 dr fd sd ra bl nn sp : Int) (fu pr on : Bool) (Q : Res -> Prop) : (nfun true CCenter Tryz.f103 (bodyOf Tryz.f103) [.agg [.int .i64 k0, .int .i64 bk, .int .i64 f0, .int .i64 f1, .int .i64 f2, .int .i64 t0, .int .i64 t1, .int .i64 t2, .int .i64 pl, .int .i64 c0, .int .i64 c1, .int .i64 c2, .int .i64 dr, .bool fu, .int .i64 fd, .bool pr, .int .i64 sd, .int .i64 ra, .int .i64 bl, .int .i64 nn, .int .i64 sp, .bool on]] [] Q) =
 ((-9223372036854775808 <= f0 + t0 /\ f0 + t0 <= 9223372036854775807) /\ ∀ (x1 : Int), x1 = f0 + t0 -> (-9223372036854775808 <= x1 * 8 /\ x1 * 8 <= 9223372036854775807) /\ ∀ (x2 : Int), x2 = x1 * 8 -> (-9223372036854775808 <= f1 + t1 /\ f1 + t1 <= 9223372036854775807) /\ ∀ (x3 : Int), x3 = f1 + t1 -> (-9223372036854775808 <= x3 * 8 /\ x3 * 8 <= 9223372036854775807) /\ ∀ (x4 : Int), x4 = x3 * 8 -> (-9223372036854775808 <= f2 + t2 /\ f2 + t2 <= 9223372036854775807) /\ ∀ (x5 : Int), x5 = f2 + t2 -> (-9223372036854775808 <= x5 * 8 /\ x5 * 8 <= 9223372036854775807) /\ ∀ (x6 : Int), x6 = x5 * 8 -> Q ⟨.agg [.int .i64 x2, .int .i64 x4, .int .i64 x6], false, [], []⟩) := by kernel_rfl
def SRate (hargs : List HV) (pars : List (List HC)) : SR :=
 match hargs, pars with
 | [.agg [.int .i64 k0, .int .i64 bk, .int .i64 f0, .int .i64 f1, .int .i64 f2, .int .i64 t0, .int .i64 t1, .int .i64 t2, .int .i64 pl, .int .i64 c0, .int .i64 c1, .int .i64 c2, .int .i64 dr, .bool fu, .int .i64 fd, .bool pr, .int .i64 sd, .int .i64 ra, .int .i64 bl, .int .i64 nn, .int .i64 sp, .bool on], .ce (.int .i64 s)], [] => .all ((0 <= fd /\ fd <= 60000000) /\ s = 0) Int (fun x => 0 <= x /\ x <= 16777216) (fun x => ⟨.ce (.int .i64 x), false, [], []⟩)
 | _, _ => .fail
def tabRate : List (FuncId × HL.Spec) := [(74, SRnd)]
noncomputable def CRate : Ctx := ⟨Tryz.prog, gam tabRate, Tryz.f88.ntmps, [], []⟩
theorem vcRate (s : Int) (k0 bk f0 f1 f2 t0 t1 t2 pl c0 c1 c2 dr fd sd ra bl nn sp : Int) (fu pr on : Bool) (Q : Res -> Prop) : (nfun true CRate Tryz.f88 (bodyOf Tryz.f88) [.agg [.int .i64 k0, .int .i64 bk, .int .i64 f0, .int .i64 f1, .int .i64 f2, .int .i64 t0, .int .i64 t1, .int .i64 t2, .int .i64 pl, .int .i64 c0, .int .i64 c1, .int .i64 c2, .int .i64 dr, .bool fu, .int .i64 fd, .bool pr, .int .i64 sd, .int .i64 ra, .int .i64 bl, .int .i64 nn, .int .i64 sp, .bool on], .ce (.int .i64 s)] [] Q) =
 (((k0 == 1) = true -> Q ⟨.ce (.int .i64 0), false, [], []⟩) /\ ((k0 == 1) = false -> (pr = true -> ∀ (x1 : Int), x1 = max s 1 -> (-9223372036854775808 <= fd * x1 /\ fd * x1 <= 9223372036854775807) /\ ∀ (x2 : Int), x2 = fd * x1 -> ∀ (x3 : Int), x3 = min x2 60000000 -> (-9223372036854775808 <= x3 * 16 /\ x3 * 16 <= 9223372036854775807) /\ ∀ (x4 : Int), x4 = x3 * 16 -> (-9223372036854775808 <= x4 * 256 /\ x4 * 256 <= 9223372036854775807) /\ ∀ (x5 : Int), x5 = x4 * 256 -> (-2305843009213693952 <= x5 /\ x5 <= 2305843009213693952 /\ (0 : Int) < 60000 /\ (60000 : Int) <= 2305843009213693952) /\ ∀ (x6 : Int), x6 = rnd x5 (60000 : Int) -> ∀ (x7 : Int), x7 = max x6 1 -> Q ⟨.ce (.int .i64 x7), false, [], []⟩) /\ (pr = false -> ∀ (x8 : Int), x8 = min fd 60000000 -> (-9223372036854775808 <= x8 * 16 /\ x8 * 16 <= 9223372036854775807) /\ ∀ (x9 : Int), x9 = x8 * 16 -> (-9223372036854775808 <= x9 * 256 /\
 x9 * 256 <= 9223372036854775807) /\ ∀ (x10 : Int), x10 = x9 * 256 -> (-2305843009213693952 <= x10 /\ x10 <= 2305843009213693952 /\ (0 : Int) < 60000 /\ (60000 : Int) <= 2305843009213693952) /\ ∀ (x11 : Int), x11 = rnd x10 (60000 : Int) -> ∀ (x12 : Int), x12 = max x11 1 -> Q ⟨.ce (.int .i64 x12), false, [], []⟩))) := by kernel_rfl
def SSync (hargs : List HV) (pars : List (List HC)) : SR :=
 match hargs, pars with
 | [.agg [.int .i64 k0, .int .i64 bk, .int .i64 f0, .int .i64 f1, .int .i64 f2, .int .i64 t0, .int .i64 t1, .int .i64 t2, .int .i64 pl, .int .i64 c0, .int .i64 c1, .int .i64 c2, .int .i64 dr, .bool fu, .int .i64 fd, .bool pr, .int .i64 sd, .int .i64 ra, .int .i64 bl, .int .i64 nn, .int .i64 sp, .bool on]], [] => .det (1 <= k0 /\ k0 <= 3) ⟨.ce (.bool false), false, [], []⟩
 | _, _ => .fail
noncomputable def CSync : Ctx := ⟨Tryz.prog, gam [], Tryz.f89.ntmps, [], []⟩
theorem vcSync (k0 bk f0 f1 f2 t0 t1 t2 pl c0 c1 c2 dr fd sd ra bl nn sp : Int) (fu pr on : Bool) (Q : Res -> Prop) : (nfun true CSync Tryz.f89 (bodyOf Tryz.f89) [.agg [.int .i64 k0, .int .i64 bk, .int .i64 f0, .int .i64 f1, .int .i64 f2, .int .i64 t0, .int .i64 t1, .int .i64 t2, .int .i64 pl, .int .i64 c0, .int .i64 c1, .int .i64 c2, .int .i64 dr, .bool fu, .int .i64 fd, .bool pr, .int .i64 sd, .int .i64 ra, .int .i64 bl, .int .i64 nn, .int .i64 sp, .bool on]] [] Q) =
 (((k0 == 5) = true -> Q ⟨.ce (.bool true), false, [], []⟩) /\ ((k0 == 5) = false -> Q ⟨.ce (.bool (k0 == 6)), false, [], []⟩)) := by kernel_rfl
def SSoft (hargs : List HV) (pars : List (List HC)) : SR :=
 match hargs, pars with
 | [.ce (.sl false ks l), .ce (.int .i64 i)], [] => bif ksEq ks [4, 4, 4, 4, 4, 4, 4, 4, 4, 4, 4, 4, 4, 0, 4, 0, 4, 4, 4, 4, 4, 0] then .all ((0 <= i /\ i < (l.length : Int)) /\ niceL l /\ l.length <= 5) Int (fun x => -1 <= x /\ x < (l.length : Int)) (fun x => ⟨.ce (.int .i64 x), false, [], []⟩) else .fail
 | _, _ => .fail
def tabSoft : List (FuncId × HL.Spec) := [(101, SSmooth)]
def anSoft : LAnn := ⟨[0, 4, 5], [4], [], false⟩
def LSoft (v : LV) : LR :=
 match v with
 | ([.ce (.sl false ks l), .ce (.int .i64 z), .ce (.int .i64 k)], []) => bif ksEq ks [4, 4, 4, 4, 4, 4, 4, 4, 4, 4, 4, 4, 4, 0, 4, 0, 4, 4, 4, 4, 4, 0] then
  .alts (0 <= k /\ niceL l /\ l.length <= 5) [(True, .exit 0, ([.ce (.int .i64 z)], [])), (True, .ret, ([.ce (.int .i64 (-1))], [])), (k < (l.length : Int), .ret, ([.ce (.int .i64 k)], []))] else .fail
 | _ => .fail
noncomputable def CSoft : Ctx := ⟨Tryz.prog, gam tabSoft, Tryz.f92.ntmps, [(4, anSoft, LSoft)], []⟩
theorem vbSoft (z k : Int) (l : List (List Int)) (K : HEx -> LV -> Prop) : (nbodyT true CSoft anSoft (nthLoop Tryz.f92 0) (([.ce (.sl false [4, 4, 4, 4, 4, 4, 4, 4, 4, 4, 4, 4, 4, 0, 4, 0, 4, 4, 4, 4, 4, 0] l), .ce (.int .i64 z), .ce (.int .i64 k)], [])) K) =
 ((decide (k < (l.length : Int)) = true -> (0 <= k /\ k < (l.length : Int)) /\ ∀ (x1 : Int), x1 = el l k.toNat -> ((x1 == 10) = true -> (-9223372036854775808 <= k + 1 /\ k + 1 <= 9223372036854775807) /\ ∀ (x2 : Int), x2 = k + 1 -> K .normal ([.ce (.sl false [4, 4, 4, 4, 4, 4, 4, 4, 4, 4, 4, 4, 4, 0, 4, 0, 4, 4, 4, 4, 4, 0] l), .ce (.int .i64 z), .ce (.int .i64 x2)], [])) /\ ((x1 == 10) = false -> (0 <= k /\ k < (l.length : Int)) /\ True /\ (∃ (x : Bool), x = true -> el l k.toNat = 2) /\ ∀ (x : Bool), (x = true -> el l k.toNat = 2) -> (x = true -> K .ret ([.ce (.int .i64 k)], [])) /\ (x = false -> K .ret ([.ce (.int .i64 (-1))], [])))) /\ (decide (k < (l.length : Int)) = false -> K (.exit 0) ([.ce (.int .i64 z)], []))) := by kernel_rfl
theorem vcSoft (i : Int) (l : List (List Int)) (Q : Res -> Prop) : (nfun true CSoft Tryz.f92 (bodyOf Tryz.f92) [.ce (.sl false [4, 4, 4, 4, 4, 4, 4, 4, 4, 4, 4, 4, 4, 0, 4, 0, 4, 4, 4, 4, 4, 0] l), .ce (.int .i64 i)] [] Q) =
 ((0 <= i /\ i < (l.length : Int)) /\ True /\ (∃ (x : Bool), x = true -> el l i.toNat = 2) /\ ∀ (x : Bool), (x = true -> el l i.toNat = 2) -> ((!x) = true -> Q ⟨.ce (.int .i64 (-1)), false, [], []⟩) /\ ((!x) = false -> (0 <= i /\ i < (l.length : Int)) /\ ∀ (x2 : Int), x2 = ec l i.toNat 18 -> ((x2 == 0) = true -> Q ⟨.ce (.int .i64 (-1)), false, [], []⟩) /\ ((x2 == 0) = false -> (-9223372036854775808 <= i + 1 /\ i + 1 <= 9223372036854775807) /\ ∀ (x3 : Int), x3 = i + 1 -> (0 <= x3 /\ niceL l /\ l.length <= 5) /\ (True -> Q ⟨.ce (.int .i64 (-1)), false, [], []⟩) /\ (True -> Q ⟨.ce (.int .i64 (-1)), false, [], []⟩) /\ (x3 < (l.length : Int) -> Q ⟨.ce (.int .i64 x3), false, [], []⟩)))) := by kernel_rfl
def SKind (hargs : List HV) (pars : List (List HC)) : SR :=
 match hargs, pars with
 | [.ce (.sl false ks l), .ce (.int .i64 i)], [] => bif ksEq ks [4, 4, 4, 4, 4, 4, 4, 4, 4, 4, 4, 4, 4, 0, 4, 0, 4, 4, 4, 4, 4, 0] then .all ((0 <= i /\ i < (l.length : Int)) /\ niceL l /\ l.length <= 5) Int (fun _ => True) (fun x => ⟨.ce (.int .i64 x), false, [], []⟩) else .fail
 | _, _ => .fail
def tabKind : List (FuncId × HL.Spec) := [(89, SSync), (85, SMotion)]
def LKind (v : LV) : LR :=
 match v with
 | ([.ce (.sl false ks l), .ce (.int .i64 z), .ce (.int .i64 k)], []) => bif ksEq ks [4, 4, 4, 4, 4, 4, 4, 4, 4, 4, 4, 4, 4, 0, 4, 0, 4, 4, 4, 4, 4, 0] then
  .det (0 <= k /\ niceL l /\ l.length <= 5) (.exit 0) ([.ce (.int .i64 z)], []) else .fail
 | _ => .fail
noncomputable def CKind : Ctx := ⟨Tryz.prog, gam tabKind, Tryz.f93.ntmps, [(6, anSoft, LKind)], []⟩
theorem vbKind (z k : Int) (l : List (List Int)) (K : HEx -> LV -> Prop) : (nbodyT true CKind anSoft (nthLoop Tryz.f93 0) (([.ce (.sl false [4, 4, 4, 4, 4, 4, 4, 4, 4, 4, 4, 4, 4, 0, 4, 0, 4, 4, 4, 4, 4, 0] l), .ce (.int .i64 z), .ce (.int .i64 k)], [])) K) =
 ((decide (k < (l.length : Int)) = true -> (0 <= k /\ k < (l.length : Int)) /\ ∀ (x1 : Int), x1 = el l k.toNat -> (1 <= x1 /\ x1 <= 6) /\ ∀ (x2 : Bool), x2 = true -> (x2 = true -> (0 <= k /\ k < (l.length : Int)) /\ (1 <= el l k.toNat /\ el l k.toNat <= 3) /\ ∀ (x3 : Bool), x3 = false -> (x3 = true -> K .ret ([.ce (.int .i64 1)], [])) /\ (x3 = false -> K (.exit 0) ([.ce (.int .i64 z)], []))) /\ (x2 = false -> (-9223372036854775808 <= k + 1 /\ k + 1 <= 9223372036854775807) /\ ∀ (x4 : Int), x4 = k + 1 -> K .normal ([.ce (.sl false [4, 4, 4, 4, 4, 4, 4, 4, 4, 4, 4, 4, 4, 0, 4, 0, 4, 4, 4, 4, 4, 0] l), .ce (.int .i64 z), .ce (.int .i64 x4)], []))) /\ (decide (k < (l.length : Int)) = false -> K (.exit 0) ([.ce (.int .i64 z)], []))) := by kernel_rfl
theorem vcKind (i : Int) (l : List (List Int)) (Q : Res -> Prop) : (nfun true CKind Tryz.f93 (bodyOf Tryz.f93) [.ce (.sl false [4, 4, 4, 4, 4, 4, 4, 4, 4, 4, 4, 4, 4, 0, 4, 0, 4, 4, 4, 4, 4, 0] l), .ce (.int .i64 i)] [] Q) =
 ((0 <= i /\ i < (l.length : Int)) /\ ∀ (x1 : Int), x1 = el l i.toNat -> ((x1 == 4) = true -> Q ⟨.ce (.int .i64 6), false, [], []⟩) /\ ((x1 == 4) = false -> (0 <= i /\ i < (l.length : Int)) /\ ∀ (x2 : Int), x2 = ec l i.toNat 18 -> ((x2 == 0) = true -> Q ⟨.ce (.int .i64 1), false, [], []⟩) /\ ((x2 == 0) = false -> (0 <= i /\ i < (l.length : Int)) /\ (1 <= el l i.toNat /\ el l i.toNat <= 3) /\ ∀ (x3 : Bool), x3 = false -> (x3 = true -> Q ⟨.ce (.int .i64 1), false, [], []⟩) /\ (x3 = false -> (-9223372036854775808 <= i + 1 /\ i + 1 <= 9223372036854775807) /\ ∀ (x4 : Int), x4 = i + 1 -> (0 <= x4 /\ niceL l /\ l.length <= 5) /\ Q ⟨.ce (.int .i64 2), false, [], []⟩)))) := by kernel_rfl
def SJoined (hargs : List HV) (pars : List (List HC)) : SR :=
 match hargs, pars with
 | [.ce (.sl false ks l), .ce (.int .i64 i), .ce (.int .i64 k)], [] => bif ksEq ks [4, 4, 4, 4, 4, 4, 4, 4, 4, 4, 4, 4, 4, 0, 4, 0, 4, 4, 4, 4, 4, 0] then .all ((0 <= i /\ i < (l.length : Int)) /\ (0 <= k /\ k < (l.length : Int)) /\ niceL l) (List (List Int)) (fun x => (1 <= x.length /\ x.length <= 128) /\ ptsOK 32768 x) (fun x => ⟨.ce (.sl false [4, 4, 4] x), true, [], []⟩) else .fail
 | _, _ => .fail
def tabJoined : List (FuncId × HL.Spec) := [(103, SCenter), (87, SFine), (112, SCorner)]
noncomputable def CJoined : Ctx := ⟨Tryz.prog, gam tabJoined, Tryz.f102.ntmps, [], []⟩
theorem vcJoined (i k : Int) (l : List (List Int)) (Q : Res -> Prop) : (nfun true CJoined Tryz.f102 (bodyOf Tryz.f102) [.ce (.sl false [4, 4, 4, 4, 4, 4, 4, 4, 4, 4, 4, 4, 4, 0, 4, 0, 4, 4, 4, 4, 4, 0] l), .ce (.int .i64 i), .ce (.int .i64 k)] [] Q) =
 ((0 <= i /\ i < (l.length : Int)) /\ (b3 256 (ec l i.toNat 2) (ec l i.toNat 3) (ec l i.toNat 4) /\ b3 256 (ec l i.toNat 5) (ec l i.toNat 6) (ec l i.toNat 7)) /\ ∀ (x1 : Int), x1 = (ec l i.toNat 2 + ec l i.toNat 5) * 8 -> ∀ (x2 : Int), x2 = (ec l i.toNat 3 + ec l i.toNat 6) * 8 -> ∀ (x3 : Int), x3 = (ec l i.toNat 4 + ec l i.toNat 7) * 8 -> (0 <= i /\ i < (l.length : Int)) /\ b3 1073741824 (ec l i.toNat 5) (ec l i.toNat 6) (ec l i.toNat 7) /\ ∀ (x4 : Int), x4 = ec l i.toNat 5 * 16 -> ∀ (x5 : Int), x5 = ec l i.toNat 6 * 16 -> ∀ (x6 : Int), x6 = ec l i.toNat 7 * 16 -> (0 <= k /\ k < (l.length : Int)) /\ (b3 256 (ec l k.toNat 2) (ec l k.toNat 3) (ec l k.toNat 4) /\ b3 256 (ec l k.toNat 5) (ec l k.toNat 6) (ec l k.toNat 7)) /\ ∀ (x7 : Int), x7 = (ec l k.toNat 2 + ec l k.toNat 5) * 8 -> ∀ (x8 : Int), x8 = (ec l k.toNat 3 + ec l k.toNat 6) * 8 ->
 ∀ (x9 : Int), x9 = (ec l k.toNat 4 + ec l k.toNat 7) * 8 -> (0 <= i /\ i < (l.length : Int)) /\ ∀ (x10 : Int), x10 = ec l i.toNat 18 -> (-9223372036854775808 <= x10 * 16 /\ x10 * 16 <= 9223372036854775807) /\ ∀ (x11 : Int), x11 = x10 * 16 -> ((b3 4096 x1 x2 x3 /\ b3 4096 x4 x5 x6 /\ b3 4096 x7 x8 x9) /\ 0 <= x11 /\ x11 <= 65536) /\ (∃ (x : List (List Int)), ((1 : Nat) <= x.length /\ x.length <= 128) /\ ptsOK (32768 : Int) x) /\ ∀ (x : List (List Int)), ((1 : Nat) <= x.length /\ x.length <= 128) /\ ptsOK (32768 : Int) x -> Q ⟨.ce (.sl false [4, 4, 4] x), true, [], []⟩) := by kernel_rfl
def SPoints (hargs : List HV) (pars : List (List HC)) : SR :=
 match hargs, pars with
 | [.ce (.sl false ks l), .ce (.int .i64 i), .ce (.int .i64 f)], [] => bif ksEq ks [4, 4, 4, 4, 4, 4, 4, 4, 4, 4, 4, 4, 4, 0, 4, 0, 4, 4, 4, 4, 4, 0] then .all ((0 <= i /\ i < (l.length : Int)) /\ (-1 <= f /\ f < (l.length : Int)) /\ niceL l /\ l.length <= 5) (List (List Int) × Bool) (fun x => x.1.length <= 71000 /\ ptsOK 32768 x.1) (fun x => ⟨.ce (.sl false [4, 4, 4] x.1), x.2, [], []⟩) else .fail
 | _, _ => .fail
def tabPoints : List (FuncId × HL.Spec) := [(100, SChords), (101, SSmooth), (102, SJoined), (92, SSoft), (103, SCenter)]
noncomputable def CPoints : Ctx := ⟨Tryz.prog, gam tabPoints, Tryz.f90.ntmps, [], []⟩
theorem vcPoints (i f : Int) (l : List (List Int)) (Q : Res -> Prop) : (nfun true CPoints Tryz.f90 (bodyOf Tryz.f90) [.ce (.sl false [4, 4, 4, 4, 4, 4, 4, 4, 4, 4, 4, 4, 4, 0, 4, 0, 4, 4, 4, 4, 4, 0] l), .ce (.int .i64 i), .ce (.int .i64 f)] [] Q) =
 ((0 <= i /\ i < (l.length : Int)) /\ nice (el l i.toNat) (ec l i.toNat 2) (ec l i.toNat 3) (ec l i.toNat 4) (ec l i.toNat 5) (ec l i.toNat 6) (ec l i.toNat 7) (ec l i.toNat 9) (ec l i.toNat 10) (ec l i.toNat 11) (ec l i.toNat 12) (ec l i.toNat 14) (ec l i.toNat 18) /\ (∃ (x : List (List Int) × Bool), (el l i.toNat ≠ 3 -> List.length x.1 = 2) /\ ptsOK (32768 : Int) x.1 /\ List.length x.1 <= 70000) /\ ∀ (x : List (List Int) × Bool), (el l i.toNat ≠ 3 -> List.length x.1 = 2) /\ ptsOK (32768 : Int) x.1 /\ List.length x.1 <= 70000 -> (0 <= i /\ i < (l.length : Int)) /\ True /\ (∃ (x : Bool), x = true -> el l i.toNat = 2) /\ ∀ (x_1 : Bool), (x_1 = true -> el l i.toNat = 2) -> ((!x_1) = true -> Q ⟨.ce (.sl false [4, 4, 4] x.1), false, [], []⟩) /\ ((!x_1) = false -> ((0 : Int) <= 1 /\ (1 : Int) <= (List.length x.1 : Int)) /\ ((0 : Int) <= 1 /\ (1 : Int) <= (List.length x.1 : Int)) /\
 (decide (f >= 0) = true -> ((0 <= f /\ f < (l.length : Int)) /\ (0 <= i /\ i < (l.length : Int)) /\ niceL l) /\ (∃ (x : List (List Int)), ((1 : Nat) <= x.length /\ x.length <= 128) /\ ptsOK (32768 : Int) x) /\ ∀ (x_2 : List (List Int)), ((1 : Nat) <= x_2.length /\ x_2.length <= 128) /\ ptsOK (32768 : Int) x_2 -> (2 : Int) ≠ (0 : Int) /\ (-9223372036854775808 <= Int.tdiv (x_2.length : Int) (2 : Int) /\ Int.tdiv (x_2.length : Int) (2 : Int) <= 9223372036854775807) /\ ∀ (x4 : Int), x4 = Int.tdiv (x_2.length : Int) (2 : Int) -> (0 <= x4 /\ x4 <= (x_2.length : Int)) /\ ((0 <= i /\ i < (l.length : Int)) /\ niceL l /\ l.length <= 5) /\ (∃ (x : Int), -1 <= x /\ x < (l.length : Int)) /\ ∀ (x_3 : Int), -1 <= x_3 /\ x_3 < (l.length : Int) -> (decide (x_3 >= 0) = true -> ((0 <= i /\ i < (l.length : Int)) /\ (0 <= x_3 /\ x_3 < (l.length : Int)) /\
 niceL l) /\ (∃ (x : List (List Int)), ((1 : Nat) <= x.length /\ x.length <= 128) /\ ptsOK (32768 : Int) x) /\ ∀ (x : List (List Int)), ((1 : Nat) <= x.length /\ x.length <= 128) /\ ptsOK (32768 : Int) x -> (2 : Int) ≠ (0 : Int) /\ (-9223372036854775808 <= Int.tdiv (x.length : Int) (2 : Int) /\ Int.tdiv (x.length : Int) (2 : Int) <= 9223372036854775807) /\ ∀ (x7 : Int), x7 = Int.tdiv (x.length : Int) (2 : Int) -> (-9223372036854775808 <= x7 + 1 /\ x7 + 1 <= 9223372036854775807) /\ ∀ (x8 : Int), x8 = x7 + 1 -> (0 <= x8 /\ x8 <= (x.length : Int)) /\ (((0 : Nat) + List.length (List.drop x4.toNat x_2)) * 24 <= 140737488355328 /\ (0 : Nat) + List.length (List.drop x4.toNat x_2) <= maxLen) /\ (0 <= i /\ i < (l.length : Int)) /\ (b3 256 (ec l i.toNat 2) (ec l i.toNat 3) (ec l i.toNat 4) /\ b3 256 (ec l i.toNat 5) (ec l i.toNat 6) (ec l i.toNat 7)) /\
 ∀ (x9 : Int), x9 = (ec l i.toNat 2 + ec l i.toNat 5) * 8 -> ∀ (x10 : Int), x10 = (ec l i.toNat (nat_lit 3) + ec l i.toNat (nat_lit 6)) * 8 -> ∀ (x11 : Int), x11 = (ec l i.toNat (nat_lit 4) + ec l i.toNat (nat_lit 7)) * 8 -> ((List.length ([] ++ List.drop x4.toNat x_2) + 1) * nat_lit 24 <= 140737488355328 /\ List.length ([] ++ List.drop x4.toNat x_2) + 1 <= maxLen) /\ ((List.length ([] ++ List.drop x4.toNat x_2 ++ [[x9, x10, x11]]) + List.length (List.take x8.toNat x)) * nat_lit 24 <= 140737488355328 /\ List.length ([] ++ List.drop x4.toNat x_2 ++ [[x9, x10, x11]]) + List.length (List.take x8.toNat x) <= maxLen) /\ Q ⟨.ce (.sl false [nat_lit 4, nat_lit 4, nat_lit 4] ([] ++ List.drop x4.toNat x_2 ++ [[x9, x10, x11]] ++ List.take x8.toNat x)), true, [], []⟩) /\ (decide (x_3 >= 0) = false -> (((0 : Nat) + List.length (List.drop x4.toNat x_2)) * 24 <= 140737488355328 /\
 (0 : Nat) + List.length (List.drop x4.toNat x_2) <= maxLen) /\ (0 <= i /\ i < (l.length : Int)) /\ (b3 256 (ec l i.toNat 2) (ec l i.toNat 3) (ec l i.toNat 4) /\ b3 256 (ec l i.toNat 5) (ec l i.toNat 6) (ec l i.toNat 7)) /\ ∀ (x12 : Int), x12 = (ec l i.toNat 2 + ec l i.toNat 5) * 8 -> ∀ (x13 : Int), x13 = (ec l i.toNat 3 + ec l i.toNat 6) * 8 -> ∀ (x14 : Int), x14 = (ec l i.toNat 4 + ec l i.toNat 7) * 8 -> ((List.length ([] ++ List.drop x4.toNat x_2) + 1) * 24 <= 140737488355328 /\ List.length ([] ++ List.drop x4.toNat x_2) + 1 <= maxLen) /\ ((List.length ([] ++ List.drop x4.toNat x_2 ++ [[x12, x13, x14]]) + List.length (List.drop (1 : Nat) x.1)) * 24 <= 140737488355328 /\ List.length ([] ++ List.drop x4.toNat x_2 ++ [[x12, x13, x14]]) + List.length (List.drop (1 : Nat) x.1) <= maxLen) /\ Q ⟨.ce (.sl false [4, 4, 4] ([] ++ List.drop x4.toNat x_2 ++ [[x12, x13, x14]] ++ List.drop (1 : Nat) x.1)), true, [], []⟩)) /\
 (decide (f >= 0) = false -> ((0 <= i /\ i < (l.length : Int)) /\ niceL l /\ l.length <= 5) /\ (∃ (x : Int), -1 <= x /\ x < (l.length : Int)) /\ ∀ (x_2 : Int), -1 <= x_2 /\ x_2 < (l.length : Int) -> (decide (x_2 >= 0) = true -> ((0 <= i /\ i < (l.length : Int)) /\ (0 <= x_2 /\ x_2 < (l.length : Int)) /\ niceL l) /\ (∃ (x : List (List Int)), ((1 : Nat) <= x.length /\ x.length <= 128) /\ ptsOK (32768 : Int) x) /\ ∀ (x_3 : List (List Int)), ((1 : Nat) <= x_3.length /\ x_3.length <= 128) /\ ptsOK (32768 : Int) x_3 -> (2 : Int) ≠ (0 : Int) /\ (-9223372036854775808 <= Int.tdiv (x_3.length : Int) (2 : Int) /\ Int.tdiv (x_3.length : Int) (2 : Int) <= 9223372036854775807) /\ ∀ (x17 : Int), x17 = Int.tdiv (x_3.length : Int) (2 : Int) -> (-9223372036854775808 <= x17 + 1 /\ x17 + 1 <= 9223372036854775807) /\ ∀ (x18 : Int), x18 = x17 + 1 -> (0 <= x18 /\
 x18 <= (x_3.length : Int)) /\ (((0 : Nat) + List.length (List.take (1 : Nat) x.1)) * 24 <= 140737488355328 /\ (0 : Nat) + List.length (List.take (1 : Nat) x.1) <= maxLen) /\ (0 <= i /\ i < (l.length : Int)) /\ (b3 256 (ec l i.toNat 2) (ec l i.toNat 3) (ec l i.toNat 4) /\ b3 256 (ec l i.toNat 5) (ec l i.toNat 6) (ec l i.toNat 7)) /\ ∀ (x19 : Int), x19 = (ec l i.toNat 2 + ec l i.toNat 5) * 8 -> ∀ (x20 : Int), x20 = (ec l i.toNat 3 + ec l i.toNat 6) * 8 -> ∀ (x21 : Int), x21 = (ec l i.toNat 4 + ec l i.toNat 7) * 8 -> ((List.length ([] ++ List.take (1 : Nat) x.1) + 1) * 24 <= 140737488355328 /\ List.length ([] ++ List.take (1 : Nat) x.1) + 1 <= maxLen) /\ ((List.length ([] ++ List.take (1 : Nat) x.1 ++ [[x19, x20, x21]]) + List.length (List.take x18.toNat x_3)) * 24 <= 140737488355328 /\ List.length ([] ++ List.take (1 : Nat) x.1 ++ [[x19, x20, x21]]) + List.length (List.take x18.toNat x_3) <= maxLen) /\
 Q ⟨.ce (.sl false [4, 4, 4] ([] ++ List.take (1 : Nat) x.1 ++ [[x19, x20, x21]] ++ List.take x18.toNat x_3)), true, [], []⟩) /\ (decide (x_2 >= 0) = false -> (((0 : Nat) + List.length (List.take (1 : Nat) x.1)) * 24 <= 140737488355328 /\ (0 : Nat) + List.length (List.take (1 : Nat) x.1) <= maxLen) /\ (0 <= i /\ i < (l.length : Int)) /\ (b3 256 (ec l i.toNat 2) (ec l i.toNat 3) (ec l i.toNat 4) /\ b3 256 (ec l i.toNat 5) (ec l i.toNat 6) (ec l i.toNat 7)) /\ ∀ (x22 : Int), x22 = (ec l i.toNat 2 + ec l i.toNat 5) * 8 -> ∀ (x23 : Int), x23 = (ec l i.toNat 3 + ec l i.toNat 6) * 8 -> ∀ (x24 : Int), x24 = (ec l i.toNat 4 + ec l i.toNat 7) * 8 -> ((List.length ([] ++ List.take (1 : Nat) x.1) + 1) * 24 <= 140737488355328 /\ List.length ([] ++ List.take (1 : Nat) x.1) + 1 <= maxLen) /\ ((List.length ([] ++ List.take (1 : Nat) x.1 ++ [[x22, x23, x24]]) + List.length (List.drop (1 : Nat) x.1)) * 24 <= 140737488355328 /\
 List.length ([] ++ List.take (1 : Nat) x.1 ++ [[x22, x23, x24]]) + List.length (List.drop (1 : Nat) x.1) <= maxLen) /\ Q ⟨.ce (.sl false [4, 4, 4] ([] ++ List.take (1 : Nat) x.1 ++ [[x22, x23, x24]] ++ List.drop (1 : Nat) x.1)), true, [], []⟩)))) := by kernel_rfl
def SWrong (hargs : List HV) (pars : List (List HC)) : SR :=
 match hargs, pars with
 | [.agg [.int .i64 k0, .int .i64 bk, .int .i64 f0, .int .i64 f1, .int .i64 f2, .int .i64 t0, .int .i64 t1, .int .i64 t2, .int .i64 pl, .int .i64 c0, .int .i64 c1, .int .i64 c2, .int .i64 dr, .bool fu, .int .i64 fd, .bool pr, .int .i64 sd, .int .i64 ra, .int .i64 bl, .int .i64 nn, .int .i64 sp, .bool on]], [] => .all (nice k0 f0 f1 f2 t0 t1 t2 c0 c1 c2 dr fd bl) Bool (fun _ => True) (fun x => ⟨.ce (.bool x), false, [], []⟩)
 | _, _ => .fail
def tabWrong : List (FuncId × HL.Spec) := [(85, SMotion), (108, SValid)]
noncomputable def CWrong : Ctx := ⟨Tryz.prog, gam tabWrong, Tryz.f99.ntmps, [], []⟩
theorem vcWrong (k0 bk f0 f1 f2 t0 t1 t2 pl c0 c1 c2 dr fd sd ra bl nn sp : Int) (fu pr on : Bool) (Q : Res -> Prop) : (nfun true CWrong Tryz.f99 (bodyOf Tryz.f99) [.agg [.int .i64 k0, .int .i64 bk, .int .i64 f0, .int .i64 f1, .int .i64 f2, .int .i64 t0, .int .i64 t1, .int .i64 t2, .int .i64 pl, .int .i64 c0, .int .i64 c1, .int .i64 c2, .int .i64 dr, .bool fu, .int .i64 fd, .bool pr, .int .i64 sd, .int .i64 ra, .int .i64 bl, .int .i64 nn, .int .i64 sp, .bool on]] [] Q) =
 ((decide (k0 < 1) = true -> Q ⟨.ce (.bool true), false, [], []⟩) /\ (decide (k0 < 1) = false -> (decide (k0 > 14) = true -> Q ⟨.ce (.bool true), false, [], []⟩) /\ (decide (k0 > 14) = false -> (1 <= k0 /\ k0 <= 6) /\ ∀ (x1 : Bool), x1 = true -> (x1 = true -> nice k0 f0 f1 f2 t0 t1 t2 c0 c1 c2 dr fd bl /\ (∃ (x : Bool), k0 ≠ 3 -> x = true) /\ ∀ (x : Bool), (k0 ≠ 3 -> x = true) -> ((!x) = true -> Q ⟨.ce (.bool true), false, [], []⟩) /\ ((!x) = false -> ((k0 != 1) = true -> (decide (fd < 1) = true -> Q ⟨.ce (.bool true), false, [], []⟩) /\ (decide (fd < 1) = false -> (decide (fd > 60000000) = true -> Q ⟨.ce (.bool true), false, [], []⟩) /\ (decide (fd > 60000000) = false -> (decide (bl < 0) = true -> Q ⟨.ce (.bool true), false, [], []⟩) /\ (decide (bl < 0) = false -> Q ⟨.ce (.bool (decide (bl > 1000))), false, [], []⟩)))) /\ ((k0 != 1) = false -> (decide (bl < 0) = true -> Q ⟨.ce (.bool true), false, [], []⟩) /\ (decide (bl < 0) = false ->
 Q ⟨.ce (.bool (decide (bl > 1000))), false, [], []⟩)))) /\ (x1 = false -> ((k0 == 8) = true -> (decide (nn < 3) = true -> Q ⟨.ce (.bool true), false, [], []⟩) /\ (decide (nn < 3) = false -> (decide (nn > 5) = true -> Q ⟨.ce (.bool true), false, [], []⟩) /\ (decide (nn > 5) = false -> (decide (sp < 0) = true -> Q ⟨.ce (.bool true), false, [], []⟩) /\ (decide (sp < 0) = false -> Q ⟨.ce (.bool (decide (sp > 30000))), false, [], []⟩)))) /\ ((k0 == 8) = false -> Q ⟨.ce (.bool false), false, [], []⟩))))) := by kernel_rfl
def SCheck (hargs : List HV) (pars : List (List HC)) : SR :=
 match hargs, pars with
 | [.ce (.sl false ks l)], [] => bif ksEq ks [4, 4, 4, 4, 4, 4, 4, 4, 4, 4, 4, 4, 4, 0, 4, 0, 4, 4, 4, 4, 4, 0] then .all (niceL l /\ l.length <= 5) Int (fun _ => True) (fun x => ⟨.ce (.int .i64 x), false, [], []⟩) else .fail
 | _, _ => .fail
def tabCheck : List (FuncId × HL.Spec) := [(99, SWrong), (85, SMotion)]
def anCheck : LAnn := ⟨[0, 2, 3, 9, 10, 11], [2], [], false⟩
def LCheck (v : LV) : LR :=
 match v with
 | ([.ce (.sl false ks l), .ce (.int .i64 r), .ce (.int .i64 last), .ce (.sl false ks2 l2), .ce (.int .i64 n), .ce (.int .i64 i)], []) => bif ksEq ks [4, 4, 4, 4, 4, 4, 4, 4, 4, 4, 4, 4, 4, 0, 4, 0, 4, 4, 4, 4, 4, 0] && ksEq ks2 [4, 4, 4, 4, 4, 4, 4, 4, 4, 4, 4, 4, 4, 0, 4, 0, 4, 4, 4, 4, 4, 0] then
  .alts (l2 = l /\ n = (l.length : Int) /\ i = 0 /\ last = -1 /\ niceL l /\ l.length <= 5) [(True, .exit 0, ([.ce (.int .i64 r)], [])), (True, .ret, ([.ce (.int .i64 1)], [])), (True, .ret, ([.ce (.int .i64 13)], []))] else .fail
 | _ => .fail
noncomputable def CCheck : Ctx := ⟨Tryz.prog, gam tabCheck, Tryz.f84.ntmps, [(5, anCheck, LCheck)], []⟩
theorem vbCheck (r last n i : Int) (l : List (List Int)) (K : HEx -> LV -> Prop) : (nbodyT true CCheck anCheck (nthLoop Tryz.f84 0) (([.ce (.sl false [4, 4, 4, 4, 4, 4, 4, 4, 4, 4, 4, 4, 4, 0, 4, 0, 4, 4, 4, 4, 4, 0] l), .ce (.int .i64 r), .ce (.int .i64 last), .ce (.sl false [4, 4, 4, 4, 4, 4, 4, 4, 4, 4, 4, 4, 4, 0, 4, 0, 4, 4, 4, 4, 4, 0] l), .ce (.int .i64 n), .ce (.int .i64 i)], [])) K) =
 ((decide (i < n) = true -> (0 <= i /\ i < (l.length : Int)) /\ nice (el l i.toNat) (ec l i.toNat 2) (ec l i.toNat 3) (ec l i.toNat 4) (ec l i.toNat 5) (ec l i.toNat 6) (ec l i.toNat 7) (ec l i.toNat 9) (ec l i.toNat 10) (ec l i.toNat 11) (ec l i.toNat 12) (ec l i.toNat 14) (ec l i.toNat 18) /\ (∃ (x : Bool), True) /\ ∀ (x : Bool), True -> (x = true -> K .ret ([.ce (.int .i64 1)], [])) /\ (x = false -> (1 <= el l i.toNat /\ el l i.toNat <= 6) /\ ∀ (x2 : Bool), x2 = true -> ((!x2) = true -> (-9223372036854775808 <= i + 1 /\ i + 1 <= 9223372036854775807) /\ ∀ (x3 : Int), x3 = i + 1 -> K .normal ([.ce (.sl false [4, 4, 4, 4, 4, 4, 4, 4, 4, 4, 4, 4, 4, 0, 4, 0, 4, 4, 4, 4, 4, 0] l), .ce (.int .i64 r), .ce (.int .i64 last), .ce (.sl false [4, 4, 4, 4, 4, 4, 4, 4, 4, 4, 4, 4, 4, 0, 4, 0, 4, 4, 4, 4, 4, 0] l), .ce (.int .i64 n), .ce (.int .i64 x3)], [])) /\ ((!x2) = false -> (decide (last >= 0) = true -> (0 <= last /\ last < (l.length : Int)) /\
 ((!(ec l last.toNat 5 == ec l i.toNat 2 && (ec l last.toNat 6 == ec l i.toNat 3 && (ec l last.toNat 7 == ec l i.toNat 4 && true)))) = true -> K .ret ([.ce (.int .i64 13)], [])) /\ ((!(ec l last.toNat 5 == ec l i.toNat 2 && (ec l last.toNat 6 == ec l i.toNat 3 && (ec l last.toNat 7 == ec l i.toNat 4 && true)))) = false -> (-9223372036854775808 <= i + 1 /\ i + 1 <= 9223372036854775807) /\ ∀ (x4 : Int), x4 = i + 1 -> K .normal ([.ce (.sl false [4, 4, 4, 4, 4, 4, 4, 4, 4, 4, 4, 4, 4, 0, 4, 0, 4, 4, 4, 4, 4, 0] l), .ce (.int .i64 r), .ce (.int .i64 i), .ce (.sl false [4, 4, 4, 4, 4, 4, 4, 4, 4, 4, 4, 4, 4, 0, 4, 0, 4, 4, 4, 4, 4, 0] l), .ce (.int .i64 n), .ce (.int .i64 x4)], []))) /\ (decide (last >= 0) = false -> (-9223372036854775808 <= i + 1 /\ i + 1 <= 9223372036854775807) /\ ∀ (x5 : Int), x5 = i + 1 -> K .normal ([.ce (.sl false [4, 4, 4, 4, 4, 4, 4, 4, 4, 4, 4, 4, 4, 0, 4, 0, 4, 4, 4, 4, 4, 0] l), .ce (.int .i64 r), .ce (.int .i64 i), .ce (.sl false [4, 4, 4, 4, 4, 4, 4, 4, 4, 4, 4, 4, 4, 0, 4, 0, 4, 4, 4, 4, 4, 0] l), .ce (.int .i64 n), .ce (.int .i64 x5)], []))))) /\
 (decide (i < n) = false -> K (.exit 0) ([.ce (.int .i64 r)], []))) := by kernel_rfl
theorem vcCheck (l : List (List Int)) (Q : Res -> Prop) : (nfun true CCheck Tryz.f84 (bodyOf Tryz.f84) [.ce (.sl false [4, 4, 4, 4, 4, 4, 4, 4, 4, 4, 4, 4, 4, 0, 4, 0, 4, 4, 4, 4, 4, 0] l)] [] Q) =
 ((decide ((l.length : Int) > 20000) = true -> Q ⟨.ce (.int .i64 10), false, [], []⟩) /\ (decide ((l.length : Int) > 20000) = false -> (l = l /\ (l.length : Int) = (l.length : Int) /\ (0 : Int) = 0 /\ (-1 : Int) = (-1 : Int) /\ niceL l /\ l.length <= 5) /\ (True -> Q ⟨.ce (.int .i64 0), false, [], []⟩) /\ (True -> Q ⟨.ce (.int .i64 1), false, [], []⟩) /\ (True -> Q ⟨.ce (.int .i64 13), false, [], []⟩))) := by kernel_rfl
end Go.Proofs.YtneingpnkdeooaaGreat
namespace U
open Go
theorem ptsOK_append {B : Int} {a b : List (List Int)} (ha : ptsOK B a) (hb : ptsOK B b) : ptsOK B (a ++ b) := by
 intro j hj
 unfold ec
 by_cases h : j < a.length
 . have e : (a ++ b).getD j [] = a.getD j [] := by rw [List.getD_eq_getElem?_getD, List.getElem?_append_left h, <- List.getD_eq_getElem?_getD]
   rw [e]; exact ha j h
 . have e : (a ++ b).getD j [] = b.getD (j - a.length) [] := by rw [List.getD_eq_getElem?_getD, List.getElem?_append_right (by omega), <- List.getD_eq_getElem?_getD]
   rw [e]; exact hb _ (by rw [List.length_append] at hj; omega)
theorem ptsOK_take {B : Int} {a : List (List Int)} (n : Nat) (ha : ptsOK B a) : ptsOK B (a.take n) := by
 intro j hj
 rw [List.length_take] at hj
 unfold ec
 have e : (a.take n).getD j [] = a.getD j [] := by rw [List.getD_eq_getElem?_getD, List.getElem?_take_of_lt (by omega), <- List.getD_eq_getElem?_getD]
 rw [e]; exact ha j (by omega)
theorem ptsOK_drop {B : Int} {a : List (List Int)} (n : Nat) (ha : ptsOK B a) : ptsOK B (a.drop n) := by
 intro j hj
 rw [List.length_drop] at hj
 unfold ec
 have e : (a.drop n).getD j [] = a.getD (n + j) [] := by rw [List.getD_eq_getElem?_getD, List.getElem?_drop, <- List.getD_eq_getElem?_getD]
 rw [e]; exact ha (n + j) (by omega)
theorem ptTail {l A B : List (List Int)} {i : Int} (hi : 0 <= i /\ i < (l.length : Int)) (hn : niceL l) (hA : ptsOK 32768 A) (hB : ptsOK 32768 B) (lA : A.length <= 70000) (lB : B.length <= 128) (G : List (List Int) -> Prop)
 (fin : ∀ y, y.length <= 71000 -> ptsOK 32768 y -> G y) :
 ((0 + A.length) * 24 <= 140737488355328 /\ 0 + A.length <= maxLen) /\ ((0 : Int) <= i /\ i < ((l.length : Nat) : Int)) /\ (b3 256 (ec l (Int.toNat i) 2) (ec l (Int.toNat i) 3) (ec l (Int.toNat i) 4) /\ b3 256 (ec l (Int.toNat i) 5) (ec l (Int.toNat i) 6) (ec l (Int.toNat i) 7)) /\
 ∀ (x12 : Int), x12 = (ec l (Int.toNat i) 2 + ec l (Int.toNat i) 5) * 8 -> ∀ (x13 : Int), x13 = (ec l (Int.toNat i) 3 + ec l (Int.toNat i) 6) * 8 -> ∀ (x14 : Int), x14 = (ec l (Int.toNat i) 4 + ec l (Int.toNat i) 7) * 8 ->
 ((([] ++ A).length + 1) * 24 <= 140737488355328 /\ ([] ++ A).length + 1 <= maxLen) /\ ((([] ++ A ++ [[x12, x13, x14]]).length + B.length) * 24 <= 140737488355328 /\ ([] ++ A ++ [[x12, x13, x14]]).length + B.length <= maxLen) /\ G ([] ++ A ++ [[x12, x13, x14]] ++ B) := by
 obtain ⟨_, hf, ht, _⟩ := hn i.toNat (by omega)
 have e1 : ([] ++ A).length = A.length := by simp
 refine ⟨⟨by omega, by unfold maxLen; omega⟩, hi, ⟨hf, ht⟩, fun x12 e12 x13 e13 x14 e14 => ?_⟩
 have e2 : ([] ++ A ++ [[x12, x13, x14]]).length = A.length + 1 := by simp
 rw [e1, e2]
 refine ⟨⟨by omega, by unfold maxLen; omega⟩, ⟨by omega, by unfold maxLen; omega⟩, fin _ ?_ ?_⟩
 . rw [List.length_append, e2]; omega
 . exact ptsOK_append (ptsOK_app (by rw [List.nil_append]; exact hA) (by unfold b3 at hf ht ⊢; omega)) hB
end U
namespace Go.Proofs.YtneingpnkdeooaaGreat
open Go Go.HL U
attribute [local irreducible] hfun bodyT fragT
theorem sSmooth : Sound Tryz.prog 101 SSmooth := by
 refine sound_of (C := CSmooth) [] Tryz.func101 (by kernel_rfl) (by decide +kernel) (by kernel_rfl) rfl trivial (loops0 (by kernel_rfl)) ?_
 intro hargs pars R h
 unfold SSmooth at h
 split at h
 case h_2 => exfalso; exact h
 rename_i k0 bk f0 f1 f2 t0 t1 t2 pl c0 c1 c2 dr fu fd pr sd ra bl nn sp on
 obtain ⟨_, _, hR⟩ := h
 refine byVC (vcSmooth k0 bk f0 f1 f2 t0 t1 t2 pl c0 c1 c2 dr fd sd ra bl nn sp fu pr on R) ⟨fun g => hR _ fun _ => by simpa using g, fun _ => hR false fun e => (by cases e)⟩
theorem sCenter : Sound Tryz.prog 103 SCenter := by
 refine sound_of (C := CCenter) [] Tryz.func103 (by kernel_rfl) (by decide +kernel) (by kernel_rfl) rfl trivial (loops0 (by kernel_rfl)) ?_
 intro hargs pars R h
 unfold SCenter at h
 split at h
 case h_2 => exfalso; exact h
 rename_i k0 bk f0 f1 f2 t0 t1 t2 pl c0 c1 c2 dr fu fd pr sd ra bl nn sp on
 obtain ⟨⟨hf, ht⟩, hq⟩ := h
 unfold b3 at hf ht
 refine byVC (vcCenter k0 bk f0 f1 f2 t0 t1 t2 pl c0 c1 c2 dr fd sd ra bl nn sp fu pr on R) ⟨by omega, ?_⟩
 rintro _ rfl
 refine ⟨by omega, ?_⟩
 rintro _ rfl
 refine ⟨by omega, ?_⟩
 rintro _ rfl
 refine ⟨by omega, ?_⟩
 rintro _ rfl
 refine ⟨by omega, ?_⟩
 rintro _ rfl
 refine ⟨by omega, ?_⟩
 rintro _ rfl
 exact hq
theorem sRate : Sound Tryz.prog 88 SRate := by
 refine sound_of (C := CRate) tabRate Tryz.func88 (by kernel_rfl) (by decide +kernel) (by kernel_rfl) rfl ⟨sRnd, trivial⟩ (loops0 (by kernel_rfl)) ?_
 intro hargs pars R h
 unfold SRate at h
 split at h
 case h_2 => exfalso; exact h
 rename_i k0 bk f0 f1 f2 t0 t1 t2 pl c0 c1 c2 dr fu fd pr sd ra bl nn sp on s
 obtain ⟨⟨hfd, rfl⟩, _, hR⟩ := h
 have rb : ∀ x y : Int, (0 <= x /\ x <= 245760000000) -> y = rnd x 60000 -> 0 <= y /\ y <= 4096001 := fun x y hx e => by
  unfold rnd at e; omega
 refine byVC (vcRate 0 k0 bk f0 f1 f2 t0 t1 t2 pl c0 c1 c2 dr fd sd ra bl nn sp fu pr on R) ⟨fun _ => hR 0 (by decide), fun _ => ⟨fun _ x1 e1 => ?_, fun _ x8 e8 => ?_⟩⟩
 . have : x1 = 1 := by omega
   subst this
   refine ⟨by omega, fun x2 e2 x3 e3 => ⟨by omega, fun x4 e4 => ⟨by omega, fun x5 e5 => ⟨by omega, fun x6 e6 x7 e7 => hR x7 ?_⟩⟩⟩⟩
   have := rb x5 x6 (by omega) e6
   omega
 . refine ⟨by omega, fun x4 e4 => ⟨by omega, fun x5 e5 => ⟨by omega, fun x6 e6 x7 e7 => hR x7 ?_⟩⟩⟩
   have := rb x5 x6 (by omega) e6
   omega
theorem sSync : Sound Tryz.prog 89 SSync := by
 refine sound_of (C := CSync) [] Tryz.func89 (by kernel_rfl) (by decide +kernel) (by kernel_rfl) rfl trivial (loops0 (by kernel_rfl)) ?_
 intro hargs pars R h
 unfold SSync at h
 split at h
 case h_2 => exfalso; exact h
 rename_i k0 bk f0 f1 f2 t0 t1 t2 pl c0 c1 c2 dr fu fd pr sd ra bl nn sp on
 obtain ⟨hk, hq⟩ := h
 refine byVC (vcSync k0 bk f0 f1 f2 t0 t1 t2 pl c0 c1 c2 dr fd sd ra bl nn sp fu pr on R) ⟨fun g => ?_, fun _ => ?_⟩
 . have : k0 = 5 := by simpa using g
   omega
 . have : (k0 == 6) = false := by simp; omega
   rw [this]
   exact hq
theorem loopSoft : ∀ v Q, (LSoft v).wp Q -> hloop CSoft anSoft (nthLoop Tryz.f92 0) v Q := by
 intro v Q h
 unfold LSoft at h
 split at h
 case h_2 => exact h.elim
 rename_i ks l z k
 cases hks : ksEq ks [4, 4, 4, 4, 4, 4, 4, 4, 4, 4, 4, 4, 4, 0, 4, 0, 4, 4, 4, 4, 4, 0]
 . rw [hks] at h; exact h.elim
 rw [hks] at h
 obtain rfl := ksEq_eq hks
 obtain ⟨⟨hk, hn, hl⟩, q0, q1, q2⟩ := h
 refine hloop_rec (σ := Unit) (fun _ => ([.ce (.sl false [4, 4, 4, 4, 4, 4, 4, 4, 4, 4, 4, 4, 4, 0, 4, 0, 4, 4, 4, 4, 4, 0] l), .ce (.int .i64 z), .ce (.int .i64 k)], [])) (fun _ => 0) (fun _ => True) ?_ () trivial
 intro _ _ K _ hx hr
 refine byVB (vbSoft z k l K) ⟨fun g => ?_, fun _ => hx _ _ (q0 trivial)⟩
 have g := of_decide_eq_true g
 have nk := (hn k.toNat (by omega)).1
 have nk : 1 <= el l k.toNat /\ el l k.toNat <= 3 := nk
 refine ⟨⟨hk, g⟩, fun x1 e1 => ⟨fun g10 => ?_, fun _ => ⟨⟨hk, g⟩, trivial, ⟨false, fun e => (by cases e)⟩, fun x _ => ⟨fun _ => ?_, fun _ => ?_⟩⟩⟩⟩
 . have : x1 = 10 := by simpa using g10
   omega
 . exact hr _ (q2 g)
 . exact hr _ (q1 trivial)
theorem sSoft : Sound Tryz.prog 92 SSoft := by
 refine sound_of (C := CSoft) tabSoft Tryz.func92 (by kernel_rfl) (by decide +kernel) (by kernel_rfl) rfl ⟨sSmooth, trivial⟩ (loops1 (by kernel_rfl) (loopOK_of (an := anSoft) (S := LSoft) (by kernel_rfl) loopSoft)) ?_
 intro hargs pars R h
 unfold SSoft at h
 split at h
 case h_2 => exfalso; exact h
 rename_i ks l i
 cases hks : ksEq ks [4, 4, 4, 4, 4, 4, 4, 4, 4, 4, 4, 4, 4, 0, 4, 0, 4, 4, 4, 4, 4, 0]
 . rw [hks] at h; exact h.elim
 rw [hks] at h
 obtain rfl := ksEq_eq hks
 obtain ⟨⟨hi, hn, hl⟩, _, hR⟩ := h
 have m1 : R ⟨.ce (.int .i64 (-1)), false, [], []⟩ := hR (-1) (by omega)
 refine byVC (vcSoft i l R) ⟨hi, trivial, ⟨false, fun e => (by cases e)⟩, fun x _ => ⟨fun _ => m1, fun _ => ⟨hi, fun x2 _ => ⟨fun _ => m1, fun _ => ⟨by omega, fun x3 e3 => ⟨⟨by omega, hn, hl⟩, fun _ => m1, fun _ => m1, fun g => hR x3 (by omega)⟩⟩⟩⟩⟩⟩
theorem loopKind : ∀ v Q, (LKind v).wp Q -> hloop CKind anSoft (nthLoop Tryz.f93 0) v Q := by
 intro v Q h
 unfold LKind at h
 split at h
 case h_2 => exact h.elim
 rename_i ks l z k
 cases hks : ksEq ks [4, 4, 4, 4, 4, 4, 4, 4, 4, 4, 4, 4, 4, 0, 4, 0, 4, 4, 4, 4, 4, 0]
 . rw [hks] at h; exact h.elim
 rw [hks] at h
 obtain rfl := ksEq_eq hks
 obtain ⟨⟨hk, hn, hl⟩, hq⟩ := h
 refine hloop_rec (σ := Unit) (fun _ => ([.ce (.sl false [4, 4, 4, 4, 4, 4, 4, 4, 4, 4, 4, 4, 4, 0, 4, 0, 4, 4, 4, 4, 4, 0] l), .ce (.int .i64 z), .ce (.int .i64 k)], [])) (fun _ => 0) (fun _ => True) ?_ () trivial
 intro _ _ K _ hx hr
 refine byVB (vbKind z k l K) ⟨fun g => ?_, fun _ => hx _ _ hq⟩
 have g := of_decide_eq_true g
 have nk := (hn k.toNat (by omega)).1
 have nk : 1 <= el l k.toNat /\ el l k.toNat <= 3 := nk
 refine ⟨⟨hk, g⟩, fun x1 e1 => ⟨by omega, ?_⟩⟩
 rintro _ rfl
 refine ⟨fun _ => ⟨⟨hk, g⟩, nk, ?_⟩, fun e => by cases e⟩
 rintro _ rfl
 exact ⟨fun e => (by cases e), fun _ => hx _ _ hq⟩
theorem sKind : Sound Tryz.prog 93 SKind := by
 refine sound_of (C := CKind) tabKind Tryz.func93 (by kernel_rfl) (by decide +kernel) (by kernel_rfl) rfl ⟨sSync, sMotion, trivial⟩ (loops1 (by kernel_rfl) (loopOK_of (an := anSoft) (S := LKind) (by kernel_rfl) loopKind)) ?_
 intro hargs pars R h
 unfold SKind at h
 split at h
 case h_2 => exfalso; exact h
 rename_i ks l i
 cases hks : ksEq ks [4, 4, 4, 4, 4, 4, 4, 4, 4, 4, 4, 4, 4, 0, 4, 0, 4, 4, 4, 4, 4, 0]
 . rw [hks] at h; exact h.elim
 rw [hks] at h
 obtain rfl := ksEq_eq hks
 obtain ⟨⟨hi, hn, hl⟩, _, hR⟩ := h
 have nk := (hn i.toNat (by omega)).1
 have nk : 1 <= el l i.toNat /\ el l i.toNat <= 3 := nk
 refine byVC (vcKind i l R) ⟨hi, fun x1 _ => ⟨fun _ => hR 6 trivial, fun _ => ⟨hi, fun x2 _ => ⟨fun _ => hR 1 trivial, fun _ => ⟨hi, nk, fun x3 _ => ⟨fun _ => hR 1 trivial, fun _ => ⟨by omega, fun x4 e4 => ⟨⟨by omega, hn, hl⟩, hR 2 trivial⟩⟩⟩⟩⟩⟩⟩⟩
theorem sJoined : Sound Tryz.prog 102 SJoined := by
 refine sound_of (C := CJoined) tabJoined Tryz.func102 (by kernel_rfl) (by decide +kernel) (by kernel_rfl) rfl ⟨sCenter, sFine, sCorner, trivial⟩ (loops0 (by kernel_rfl)) ?_
 intro hargs pars R h
 unfold SJoined at h
 split at h
 case h_2 => exfalso; exact h
 rename_i ks l i k
 cases hks : ksEq ks [4, 4, 4, 4, 4, 4, 4, 4, 4, 4, 4, 4, 4, 0, 4, 0, 4, 4, 4, 4, 4, 0]
 . rw [hks] at h; exact h.elim
 rw [hks] at h
 obtain rfl := ksEq_eq hks
 obtain ⟨⟨hi, hk, hn⟩, _, hR⟩ := h
 obtain ⟨_, hf, ht, _, _, _, hb⟩ := hn i.toNat (by omega)
 obtain ⟨_, hf2, ht2, _⟩ := hn k.toNat (by omega)
 refine byVC (vcJoined i k l R) ⟨hi, ⟨hf, ht⟩, fun x1 e1 x2 e2 x3 e3 => ⟨hi, b3_mono (by decide) ht, fun x4 e4 x5 e5 x6 e6 => ⟨hk, ⟨hf2, ht2⟩, fun x7 e7 x8 e8 x9 e9 => ⟨hi, fun x10 e10 => ⟨by omega, fun x11 e11 => ⟨⟨⟨?_, ?_, ?_⟩, by omega, by omega⟩, ⟨[[0, 0, 0]], ⟨Nat.le_refl 1, show (1 : Nat) <= 128 by decide⟩, ptsOK_app ptsOK_nil (b3_zero (by decide))⟩, fun x hx => hR x hx⟩⟩⟩⟩⟩⟩
 all_goals (unfold b3 at *; omega)
theorem sPoints : Sound Tryz.prog 90 SPoints := by
 refine sound_of (C := CPoints) tabPoints Tryz.func90 (by kernel_rfl) (by decide +kernel) (by kernel_rfl) rfl ⟨sChords, sSmooth, sJoined, sSoft, sCenter, trivial⟩ (loops0 (by kernel_rfl)) ?_
 intro hargs pars R h
 unfold SPoints at h
 split at h
 case h_2 => exfalso; exact h
 rename_i ks l i f
 cases hks : ksEq ks [4, 4, 4, 4, 4, 4, 4, 4, 4, 4, 4, 4, 4, 0, 4, 0, 4, 4, 4, 4, 4, 0]
 . rw [hks] at h; exact h.elim
 rw [hks] at h
 obtain rfl := ksEq_eq hks
 obtain ⟨⟨hi, hf, hn, hl⟩, _, hR⟩ := h
 have z0 : ptsOK 32768 [[0, 0, 0]] := ptsOK_app ptsOK_nil (b3_zero (by decide))
 have ex : ∃ x : List (List Int), (1 <= x.length /\ x.length <= 128) /\ ptsOK 32768 x := ⟨[[0, 0, 0]], ⟨Nat.le_refl 1, show (1 : Nat) <= 128 by decide⟩, z0⟩
 have exs : ∃ x : Int, -1 <= x /\ x < (l.length : Int) := ⟨-1, by omega⟩
 refine byVC (vcPoints i f l R) ⟨hi, hn i.toNat (by omega), ⟨([[0, 0, 0], [0, 0, 0]], false), fun _ => rfl, ptsOK_append z0 z0, show (2 : Nat) <= 70000 by decide⟩, fun x hx => ⟨hi, trivial, ⟨false, fun e => (by cases e)⟩, fun s hs => ⟨fun _ => hR (x.1, false) ⟨by show x.1.length <= 71000; have := hx.2.2; omega, hx.2.1⟩, fun g => ?_⟩⟩⟩
 have sT : s = true := by simpa using g
 have k2 := hs sT
 have l2 := hx.1 (by omega)
 have fin : ∀ y : List (List Int), y.length <= 71000 -> ptsOK 32768 y -> R ⟨.ce (.sl false [4, 4, 4] y), true, [], []⟩ := fun y h1 h2 => hR (y, true) ⟨h1, h2⟩
 have tl : ∀ (y : List (List Int)) (n : Nat), (y.take n).length <= y.length := fun y n => by rw [List.length_take]; omega
 have dl : ∀ (y : List (List Int)) (n : Nat), (y.drop n).length <= y.length := fun y n => by rw [List.length_drop]; omega
 refine ⟨by omega, by omega, fun gf => ?_, fun _ => ?_⟩
 . have gf := of_decide_eq_true gf
   refine ⟨⟨by omega, hi, hn⟩, ex, fun c hc => ?_⟩
   rw [tdiv_pos (Int.natCast_nonneg _)]
   refine ⟨by decide, by omega, fun x4 e4 => ⟨by omega, ⟨hi, hn, hl⟩, exs, fun k hk => ⟨fun gk => ?_, fun _ => ?_⟩⟩⟩
   . have gk := of_decide_eq_true gk
     refine ⟨⟨hi, by omega, hn⟩, ex, fun c2 hc2 => ?_⟩
     rw [tdiv_pos (Int.natCast_nonneg _)]
     refine ⟨by decide, by omega, fun x7 e7 => ⟨by omega, fun x8 e8 => ⟨by omega, ?_⟩⟩⟩
     exact ptTail hi hn (ptsOK_drop _ hc.2) (ptsOK_take _ hc2.2) (by have := dl c x4.toNat; omega) (by have := tl c2 x8.toNat; omega) _ fin
   . exact ptTail hi hn (ptsOK_drop _ hc.2) (ptsOK_drop _ hx.2.1) (by have := dl c x4.toNat; omega) (by have := dl x.1 1; omega) _ fin
 . refine ⟨⟨hi, hn, hl⟩, exs, fun k hk => ⟨fun gk => ?_, fun _ => ?_⟩⟩
   . have gk := of_decide_eq_true gk
     refine ⟨⟨hi, by omega, hn⟩, ex, fun c2 hc2 => ?_⟩
     rw [tdiv_pos (Int.natCast_nonneg _)]
     refine ⟨by decide, by omega, fun x7 e7 => ⟨by omega, fun x8 e8 => ⟨by omega, ?_⟩⟩⟩
     exact ptTail hi hn (ptsOK_take _ hx.2.1) (ptsOK_take _ hc2.2) (by have := tl x.1 1; omega) (by have := tl c2 x8.toNat; omega) _ fin
   . exact ptTail hi hn (ptsOK_take _ hx.2.1) (ptsOK_drop _ hx.2.1) (by have := tl x.1 1; omega) (by have := dl x.1 1; omega) _ fin
theorem sWrong : Sound Tryz.prog 99 SWrong := by
 refine sound_of (C := CWrong) tabWrong Tryz.func99 (by kernel_rfl) (by decide +kernel) (by kernel_rfl) rfl ⟨sMotion, sValid, trivial⟩ (loops0 (by kernel_rfl)) ?_
 intro hargs pars R h
 unfold SWrong at h
 split at h
 case h_2 => exfalso; exact h
 rename_i k0 bk f0 f1 f2 t0 t1 t2 pl c0 c1 c2 dr fu fd pr sd ra bl nn sp on
 obtain ⟨hn, _, hR⟩ := h
 have any : ∀ b, R ⟨.ce (.bool b), false, [], []⟩ := fun b => hR b trivial
 have hk := hn.1
 refine byVC (vcWrong k0 bk f0 f1 f2 t0 t1 t2 pl c0 c1 c2 dr fd sd ra bl nn sp fu pr on R) ?_
 repeat' first
  | exact any _
  | exact hn
  | exact ⟨true, fun _ => rfl⟩
  | (refine And.intro ?_ ?_)
  | (intro hx)
  | omega
theorem loopCheck : ∀ v Q, (LCheck v).wp Q -> hloop CCheck anCheck (nthLoop Tryz.f84 0) v Q := by
 intro v Q h
 unfold LCheck at h
 split at h
 case h_2 => exact h.elim
 rename_i ks l r last ks2 l2 n i
 cases hks : ksEq ks [4, 4, 4, 4, 4, 4, 4, 4, 4, 4, 4, 4, 4, 0, 4, 0, 4, 4, 4, 4, 4, 0]
 . rw [hks] at h; exact h.elim
 cases hks2 : ksEq ks2 [4, 4, 4, 4, 4, 4, 4, 4, 4, 4, 4, 4, 4, 0, 4, 0, 4, 4, 4, 4, 4, 0]
 . rw [hks, hks2] at h; exact h.elim
 rw [hks, hks2] at h
 obtain rfl := ksEq_eq hks
 obtain rfl := ksEq_eq hks2
 obtain ⟨⟨h1, h2, h3, h4, hn, hl⟩, q0, q1, q2⟩ := h
 subst h1 h2 h3 h4
 refine hloop_rec (σ := Int × Nat) (fun s => ([.ce (.sl false [4, 4, 4, 4, 4, 4, 4, 4, 4, 4, 4, 4, 4, 0, 4, 0, 4, 4, 4, 4, 4, 0] l2), .ce (.int .i64 r), .ce (.int .i64 s.1), .ce (.sl false [4, 4, 4, 4, 4, 4, 4, 4, 4, 4, 4, 4, 4, 0, 4, 0, 4, 4, 4, 4, 4, 0] l2), .ce (.int .i64 (l2.length : Int)), .ce (.int .i64 (s.2 : Int))], []))
  (fun s => l2.length - s.2) (fun s => (-1 <= s.1 /\ s.1 < (l2.length : Int)) /\ s.2 <= l2.length) ?_ (-1, 0) ⟨by dsimp only; omega, Nat.zero_le _⟩
 rintro ⟨last, i⟩ ⟨hl1, hi⟩ K hnx hx hr
 dsimp only at hl1 hi hnx ⊢
 refine byVB (vbCheck r last l2.length i l2 K) ⟨fun g => ?_, fun _ => hx _ _ (q0 trivial)⟩
 have g := of_decide_eq_true g
 have ht : Int.toNat (i : Int) = i := rfl
 rw [ht]
 have nk := (hn i (by omega)).1
 have nk : 1 <= el l2 i /\ el l2 i <= 3 := nk
 have nx : ∀ t : Int, (-1 <= t /\ t < (l2.length : Int)) -> ∀ y : Int, y = (i : Int) + 1 -> K .normal ([.ce (.sl false [4, 4, 4, 4, 4, 4, 4, 4, 4, 4, 4, 4, 4, 0, 4, 0, 4, 4, 4, 4, 4, 0] l2), .ce (.int .i64 r), .ce (.int .i64 t), .ce (.sl false [4, 4, 4, 4, 4, 4, 4, 4, 4, 4, 4, 4, 4, 0, 4, 0, 4, 4, 4, 4, 4, 0] l2), .ce (.int .i64 (l2.length : Int)), .ce (.int .i64 y)], []) := fun t h1 y e => by
  rw [show y = ((i + 1 : Nat) : Int) by omega]
  exact hnx (t, i + 1) ⟨h1, by dsimp only; omega⟩ (by dsimp only; omega)
 refine ⟨by omega, hn i (by omega), ⟨true, trivial⟩, fun x _ => ⟨fun _ => hr _ (q1 trivial), fun _ => ⟨by omega, fun x2 _ => ⟨fun _ => ⟨by omega, fun y e => nx last hl1 y e⟩, fun _ => ⟨fun gl => ⟨?_, fun _ => hr _ (q2 trivial), fun _ => ⟨by omega, fun y e => nx i (by omega) y e⟩⟩, fun _ => ⟨by omega, fun y e => nx i (by omega) y e⟩⟩⟩⟩⟩⟩
 have gl := of_decide_eq_true gl
 omega
theorem sCheck : Sound Tryz.prog 84 SCheck := by
 refine sound_of (C := CCheck) tabCheck Tryz.func84 (by kernel_rfl) (by decide +kernel) (by kernel_rfl) rfl ⟨sWrong, sMotion, trivial⟩ (loops1 (by kernel_rfl) (loopOK_of (an := anCheck) (S := LCheck) (by kernel_rfl) loopCheck)) ?_
 intro hargs pars R h
 unfold SCheck at h
 split at h
 case h_2 => exfalso; exact h
 rename_i ks l
 cases hks : ksEq ks [4, 4, 4, 4, 4, 4, 4, 4, 4, 4, 4, 4, 4, 0, 4, 0, 4, 4, 4, 4, 4, 0]
 . rw [hks] at h; exact h.elim
 rw [hks] at h
 obtain rfl := ksEq_eq hks
 obtain ⟨⟨hn, hl⟩, _, hR⟩ := h
 exact byVC (vcCheck l R) ⟨fun _ => hR 10 trivial, fun _ => ⟨⟨rfl, rfl, rfl, rfl, hn, hl⟩, fun _ => hR 0 trivial, fun _ => hR 1 trivial, fun _ => hR 13 trivial⟩⟩
end Go.Proofs.YtneingpnkdeooaaGreat
namespace U
open Go
def okSegs (s0 s1 s2 : Int) (sg : List (List Int)) : Prop :=
 ∀ j, j < sg.length -> b3 32768 (ec sg j 0) (ec sg j 1) (ec sg j 2) /\ (1 <= ec sg j 3 /\ ec sg j 3 <= 131072) /\
  b3 (ec sg j 3) (ec sg j 0 - bgn s0 sg 0 j) (ec sg j 1 - bgn s1 sg 1 j) (ec sg j 2 - bgn s2 sg 2 j)
def lastAt (s0 s1 s2 : Int) (sg : List (List Int)) (a0 a1 a2 : Int) : Prop :=
 a0 = bgn s0 sg 0 sg.length /\ a1 = bgn s1 sg 1 sg.length /\ a2 = bgn s2 sg 2 sg.length
structure BSt where
 a0 : Int
 a1 : Int
 a2 : Int
 n : Int
 s0 : Int
 s1 : Int
 s2 : Int
 sg : List (List Int)
 mks : List (List Int)
 fr : Int
 bg : Bool
def okB (m : Nat) (x : BSt) : Prop :=
 b3 32768 x.a0 x.a1 x.a2 /\ b3 32768 x.s0 x.s1 x.s2 /\ okSegs x.s0 x.s1 x.s2 x.sg /\ lastAt x.s0 x.s1 x.s2 x.sg x.a0 x.a1 x.a2 /\ x.n = plen x.sg /\ x.sg.length <= m /\ x.mks.length <= 10
def okPath (s0 s1 s2 : Int) (sg mk : List (List Int)) : Prop := b3 32768 s0 s1 s2 /\ okSegs s0 s1 s2 sg /\ sg.length <= 355000 /\ mk.length <= 10
end U
namespace Go.Proofs.YtneingpnkdeooaaGreat
open Go Go.HL U
def SOther (hA : List HV) (pA : List (List HC)) : SR :=
 match hA, pA with
 | [.agg [.int .i64 k0, .int .i64 bk, .int .i64 f0, .int .i64 f1, .int .i64 f2, .int .i64 t0, .int .i64 t1, .int .i64 t2, .int .i64 pl, .int .i64 c0, .int .i64 c1, .int .i64 c2, .int .i64 dr, .bool fu, .int .i64 fd, .bool pr, .int .i64 sd, .int .i64 ra, .int .i64 bl, .int .i64 nn, .int .i64 sp, .bool on]], [] => .all True Int (fun _ => True) (fun x => ⟨.ce (.int .i64 x), false, [], []⟩)
 | _, _ => .fail
noncomputable def COther : Ctx := ⟨Tryz.prog, gam [], Tryz.f86.ntmps, [], []⟩
theorem vcOther (k0 bk f0 f1 f2 t0 t1 t2 pl c0 c1 c2 dr fd sd ra bl nn sp : Int) (fu pr on : Bool) (Q : Res -> Prop) : (nfun true COther Tryz.f86 (bodyOf Tryz.f86) [.agg [.int .i64 k0, .int .i64 bk, .int .i64 f0, .int .i64 f1, .int .i64 f2, .int .i64 t0, .int .i64 t1, .int .i64 t2, .int .i64 pl, .int .i64 c0, .int .i64 c1, .int .i64 c2, .int .i64 dr, .bool fu, .int .i64 fd, .bool pr, .int .i64 sd, .int .i64 ra, .int .i64 bl, .int .i64 nn, .int .i64 sp, .bool on]] [] Q) =
 (((k0 == 10) = true -> Q ⟨.ce (.int .i64 5), false, [], []⟩) /\ ((k0 == 10) = false -> ((k0 == 13) = true -> Q ⟨.ce (.int .i64 4), false, [], []⟩) /\ ((k0 == 13) = false -> Q ⟨.ce (.int .i64 3), false, [], []⟩))) := by kernel_rfl
def tabBuild : List (FuncId × HL.Spec) := [(84, SCheck), (85, SMotion), (86, SOther), (87, SFine), (88, SRate), (89, SSync), (90, SPoints), (91, SLength), (92, SSoft), (93, SKind)]
def anB0 : LAnn := ⟨[0, 2, 3, 5, 6, 7, 8, 9, 10, 23, 24, 25], [2, 3, 5], [1000002, 1000005, 1000006], false⟩
def anB1 : LAnn := ⟨[0, 2, 3, 5, 6, 7, 8, 10, 11, 12, 13, 23, 24, 25, 83, 84, 85], [0, 2, 3, 5, 6, 7, 8, 10, 11, 12, 23, 24, 25], [1000002, 1000005, 1000006, 1000012, 1000013], false⟩
def LB0 (v : LV) : LR :=
 match v with
 | ([.ce (.sl false ks l), .ce (.ptr 1000002 0), .ce (.int .i64 r), .ce (.ptr 1000005 0), .ce (.ptr 1000006 0), .ce (.int .i64 n), .ce (.int .i64 s), .ce (.int .i64 fr), .ce (.bool bg), .ce (.sl false ks2 l2), .ce (.int .i64 m), .ce (.int .i64 i)], [rb, pb, ab]) =>
  bif ksEq ks [4, 4, 4, 4, 4, 4, 4, 4, 4, 4, 4, 4, 4, 0, 4, 0, 4, 4, 4, 4, 4, 0] && ksEq ks2 [4, 4, 4, 4, 4, 4, 4, 4, 4, 4, 4, 4, 4, 0, 4, 0, 4, 4, 4, 4, 4, 0] then
  match rb with
  | [.int .i64 z0, .int .i64 z1, .int .i64 z2, .sl true [4, 4, 4, 4, 4, 4, 4] zs, .sl true [4, 4, 4] zm] =>
   match pb with
   | [.int .i64 s0, .int .i64 s1, .int .i64 s2, .sl true [4, 4, 4, 4, 4, 4, 4] sg, .sl true [4, 4, 4] mk] =>
    match ab with
    | [.int .i64 a0, .int .i64 a1, .int .i64 a2] =>
     .all (l2 = l /\ m = (l.length : Int) /\ niceL l /\ l.length <= 5 /\ i = 0 /\ s = 0 /\ fr = -1 /\ bg = false /\ mk.length = 0 /\ okB 0 ⟨a0, a1, a2, n, s0, s1, s2, sg, mk, -1, false⟩) BSt (okB 355000) (fun _ => .exit 0)
      (fun x => ([.ce (.ptr 1000002 0), .ce (.int .i64 r), .ce (.ptr 1000005 0)], [[.int .i64 z0, .int .i64 z1, .int .i64 z2, .sl true [4, 4, 4, 4, 4, 4, 4] zs, .sl true [4, 4, 4] zm], [.int .i64 x.s0, .int .i64 x.s1, .int .i64 x.s2, .sl true [4, 4, 4, 4, 4, 4, 4] x.sg, .sl true [4, 4, 4] x.mks], [.int .i64 x.a0, .int .i64 x.a1, .int .i64 x.a2]]))
    | _ => .fail
   | _ => .fail
  | _ => .fail
  else .fail
 | _ => .fail
def LB1 (v : LV) : LR :=
 match v with
 | ([.ce (.sl false ks l), .ce (.ptr 1000002 0), .ce (.int .i64 r), .ce (.ptr 1000005 0), .ce (.ptr 1000006 0), .ce (.int .i64 n), .ce (.int .i64 s), .ce (.bool bg), .ce (.int .i64 ix), .ce (.ptr 1000012 0), .ce (.ptr 1000013 0), .ce (.sl false ks2 l2), .ce (.int .i64 m), .ce (.int .i64 i), .ce (.sl false [4, 4, 4] q), .ce (.int .i64 qn), .ce (.int .i64 j)], [rb, pb, ab, ib, gb]) =>
  bif ksEq ks [4, 4, 4, 4, 4, 4, 4, 4, 4, 4, 4, 4, 4, 0, 4, 0, 4, 4, 4, 4, 4, 0] && ksEq ks2 [4, 4, 4, 4, 4, 4, 4, 4, 4, 4, 4, 4, 4, 0, 4, 0, 4, 4, 4, 4, 4, 0] then
  match rb with
  | [.int .i64 z0, .int .i64 z1, .int .i64 z2, .sl true [4, 4, 4, 4, 4, 4, 4] zs, .sl true [4, 4, 4] zm] =>
   match pb with
   | [.int .i64 s0, .int .i64 s1, .int .i64 s2, .sl true [4, 4, 4, 4, 4, 4, 4] sg, .sl true [4, 4, 4] mk] =>
    match ab with
    | [.int .i64 a0, .int .i64 a1, .int .i64 a2] =>
     match gb with
     | [.int .i64 g0, .int .i64 g1, .int .i64 g2, .int .i64 g3, .int .i64 g4, .int .i64 g5, .int .i64 g6] =>
      match ib with
      | [.int .i64 k0, .int .i64 bk, .int .i64 f0, .int .i64 f1, .int .i64 f2, .int .i64 t0, .int .i64 t1, .int .i64 t2, .int .i64 pl, .int .i64 c0, .int .i64 c1, .int .i64 c2, .int .i64 dr, .bool fu, .int .i64 fd, .bool pr, .int .i64 sd, .int .i64 ra, .int .i64 bl, .int .i64 nn, .int .i64 sp, .bool on] =>
       .all (qn = (q.length : Int) /\ j = 0 /\ q.length <= 71000 /\ ptsOK 32768 q /\ okB 284000 ⟨a0, a1, a2, n, s0, s1, s2, sg, mk, -1, false⟩) (BSt × Int × Int × Int × Int) (fun x => okB (sg.length + 71000) x.1 /\ x.1.s0 = s0 /\ x.1.s1 = s1 /\ x.1.s2 = s2 /\ x.1.mks = mk) (fun _ => .exit 2)
        (fun x => ([.ce (.sl false [4, 4, 4, 4, 4, 4, 4, 4, 4, 4, 4, 4, 4, 0, 4, 0, 4, 4, 4, 4, 4, 0] l), .ce (.ptr 1000002 0), .ce (.int .i64 r), .ce (.ptr 1000005 0), .ce (.ptr 1000006 0), .ce (.int .i64 x.1.n), .ce (.int .i64 s), .ce (.bool bg), .ce (.int .i64 ix), .ce (.ptr 1000012 0), .ce (.sl false [4, 4, 4, 4, 4, 4, 4, 4, 4, 4, 4, 4, 4, 0, 4, 0, 4, 4, 4, 4, 4, 0] l2), .ce (.int .i64 m), .ce (.int .i64 i)], [[.int .i64 z0, .int .i64 z1, .int .i64 z2, .sl true [4, 4, 4, 4, 4, 4, 4] zs, .sl true [4, 4, 4] zm], [.int .i64 x.1.s0, .int .i64 x.1.s1, .int .i64 x.1.s2, .sl true [4, 4, 4, 4, 4, 4, 4] x.1.sg, .sl true [4, 4, 4] x.1.mks], [.int .i64 x.1.a0, .int .i64 x.1.a1, .int .i64 x.1.a2], [.int .i64 k0, .int .i64 bk, .int .i64 f0, .int .i64 f1, .int .i64 f2, .int .i64 t0, .int .i64 t1, .int .i64 t2, .int .i64 pl, .int .i64 c0, .int .i64 c1, .int .i64 c2, .int .i64 dr, .bool fu, .int .i64 fd, .bool pr, .int .i64 sd, .int .i64 ra, .int .i64 bl, .int .i64 nn, .int .i64 sp, .bool on], [.int .i64 x.2.1, .int .i64 x.2.2.1, .int .i64 x.2.2.2.1, .int .i64 x.2.2.2.2, .int .i64 g4, .int .i64 g5, .int .i64 g6]]))
      | _ => .fail
     | _ => .fail
    | _ => .fail
   | _ => .fail
  | _ => .fail
  else .fail
 | _ => .fail
def anK8 : LAnn := ⟨[0, 2, 3, 5, 6, 7, 8, 9, 10, 11, 12, 23, 24, 25], [0, 2, 3, 5, 6, 7, 8, 9, 10, 11, 12, 23, 24, 25, 42], [1000002, 1000005, 1000006, 1000012], fun s => Nat.beq s 42⟩
def LK8 (v : LV) : LR :=
 match v with
 | ([.ce (.sl false ks l), .ce (.ptr 1000002 0), .ce (.int .i64 r), .ce (.ptr 1000005 0), .ce (.ptr 1000006 0), .ce (.int .i64 n), .ce (.int .i64 s), .ce (.int .i64 fr), .ce (.bool bg), .ce (.int .i64 ix), .ce (.ptr 1000012 0), .ce (.sl false ks2 l2), .ce (.int .i64 m), .ce (.int .i64 i)], [rb, pb, ab, ib]) =>
  bif ksEq ks [4, 4, 4, 4, 4, 4, 4, 4, 4, 4, 4, 4, 4, 0, 4, 0, 4, 4, 4, 4, 4, 0] && ksEq ks2 [4, 4, 4, 4, 4, 4, 4, 4, 4, 4, 4, 4, 4, 0, 4, 0, 4, 4, 4, 4, 4, 0] then
  match rb with
  | [.int .i64 z0, .int .i64 z1, .int .i64 z2, .sl true [4, 4, 4, 4, 4, 4, 4] zs, .sl true [4, 4, 4] zm] =>
   match pb with
   | [.int .i64 s0, .int .i64 s1, .int .i64 s2, .sl true [4, 4, 4, 4, 4, 4, 4] sg, .sl true [4, 4, 4] mk] =>
    match ab with
    | [.int .i64 a0, .int .i64 a1, .int .i64 a2] =>
     match ib with
     | [.int .i64 k0, .int .i64 bk, .int .i64 f0, .int .i64 f1, .int .i64 f2, .int .i64 t0, .int .i64 t1, .int .i64 t2, .int .i64 pl, .int .i64 c0, .int .i64 c1, .int .i64 c2, .int .i64 dr, .bool fu, .int .i64 fd, .bool pr, .int .i64 sd, .int .i64 ra, .int .i64 bl, .int .i64 nn, .int .i64 sp, .bool on] => .det (k0 ≠ 8) .normal ([.ce (.sl false [4, 4, 4, 4, 4, 4, 4, 4, 4, 4, 4, 4, 4, 0, 4, 0, 4, 4, 4, 4, 4, 0] l), .ce (.ptr 1000002 0), .ce (.int .i64 r), .ce (.ptr 1000005 0), .ce (.ptr 1000006 0), .ce (.int .i64 n), .ce (.int .i64 s), .ce (.int .i64 fr), .ce (.bool bg), .ce (.int .i64 ix), .ce (.ptr 1000012 0), .ce (.sl false [4, 4, 4, 4, 4, 4, 4, 4, 4, 4, 4, 4, 4, 0, 4, 0, 4, 4, 4, 4, 4, 0] l2), .ce (.int .i64 m), .ce (.int .i64 i), .ce (.lit false)], [[.int .i64 z0, .int .i64 z1, .int .i64 z2, .sl true [4, 4, 4, 4, 4, 4, 4] zs, .sl true [4, 4, 4] zm], [.int .i64 s0, .int .i64 s1, .int .i64 s2, .sl true [4, 4, 4, 4, 4, 4, 4] sg, .sl true [4, 4, 4] mk], [.int .i64 a0, .int .i64 a1, .int .i64 a2], [.int .i64 k0, .int .i64 bk, .int .i64 f0, .int .i64 f1, .int .i64 f2, .int .i64 t0, .int .i64 t1, .int .i64 t2, .int .i64 pl, .int .i64 c0, .int .i64 c1, .int .i64 c2, .int .i64 dr, .bool fu, .int .i64 fd, .bool pr, .int .i64 sd, .int .i64 ra, .int .i64 bl, .int .i64 nn, .int .i64 sp, .bool on]])
     | _ => .fail
    | _ => .fail
   | _ => .fail
  | _ => .fail
  else .fail
 | _ => .fail
noncomputable def CBuild : Ctx := ⟨Tryz.prog, gam tabBuild, Tryz.f62.ntmps, [(7, anB0, LB0), (19, anB1, LB1), (3000009, anK8, LK8)], []⟩
theorem vgK8 (r n s fr m i z0 z1 z2 s0 s1 s2 a0 a1 a2 ix : Int) (bg : Bool) (k0 bk f0 f1 f2 t0 t1 t2 pl c0 c1 c2 dr fd sd ra bl nn sp : Int) (fu pr on : Bool) (l l2 zs zm sg mk : List (List Int)) (K : HEx -> LV -> Prop) : (nfragT true CBuild anK8 (nthFrag CBuild Tryz.f62 0) (([.ce (.sl false [4, 4, 4, 4, 4, 4, 4, 4, 4, 4, 4, 4, 4, 0, 4, 0, 4, 4, 4, 4, 4, 0] l), .ce (.ptr 1000002 0), .ce (.int .i64 r), .ce (.ptr 1000005 0), .ce (.ptr 1000006 0), .ce (.int .i64 n), .ce (.int .i64 s), .ce (.int .i64 fr), .ce (.bool bg), .ce (.int .i64 ix), .ce (.ptr 1000012 0), .ce (.sl false [4, 4, 4, 4, 4, 4, 4, 4, 4, 4, 4, 4, 4, 0, 4, 0, 4, 4, 4, 4, 4, 0] l2), .ce (.int .i64 m), .ce (.int .i64 i)], [[.int .i64 z0, .int .i64 z1, .int .i64 z2, .sl true [4, 4, 4, 4, 4, 4, 4] zs, .sl true [4, 4, 4] zm], [.int .i64 s0, .int .i64 s1, .int .i64 s2, .sl true [4, 4, 4, 4, 4, 4, 4] sg, .sl true [4, 4, 4] mk], [.int .i64 a0, .int .i64 a1, .int .i64 a2], [.int .i64 k0, .int .i64 bk, .int .i64 f0, .int .i64 f1, .int .i64 f2, .int .i64 t0, .int .i64 t1, .int .i64 t2, .int .i64 pl, .int .i64 c0, .int .i64 c1, .int .i64 c2, .int .i64 dr, .bool fu, .int .i64 fd, .bool pr, .int .i64 sd, .int .i64 ra, .int .i64 bl, .int .i64 nn, .int .i64 sp, .bool on]])) K) =
 (((k0 == 8) = true -> ((nn == 3) = true -> K .normal ([.ce (.sl false [4, 4, 4, 4, 4, 4, 4, 4, 4, 4, 4, 4, 4, 0, 4, 0, 4, 4, 4, 4, 4, 0] l), .ce (.ptr 1000002 0), .ce (.int .i64 r), .ce (.ptr 1000005 0), .ce (.ptr 1000006 0), .ce (.int .i64 n), .ce (.int .i64 s), .ce (.int .i64 fr), .ce (.bool bg), .ce (.int .i64 ix), .ce (.ptr 1000012 0), .ce (.sl false [4, 4, 4, 4, 4, 4, 4, 4, 4, 4, 4, 4, 4, 0, 4, 0, 4, 4, 4, 4, 4, 0] l2), .ce (.int .i64 m), .ce (.int .i64 i), .ce (.lit true)], [[.int .i64 z0, .int .i64 z1, .int .i64 z2, .sl true [4, 4, 4, 4, 4, 4, 4] zs, .sl true [4, 4, 4] zm], [.int .i64 s0, .int .i64 s1, .int .i64 s2, .sl true [4, 4, 4, 4, 4, 4, 4] sg, .sl true [4, 4, 4] mk], [.int .i64 a0, .int .i64 a1, .int .i64 a2], [.int .i64 k0, .int .i64 bk, .int .i64 f0, .int .i64 f1, .int .i64 f2, .int .i64 t0, .int .i64 t1, .int .i64 t2, .int .i64 pl, .int .i64 c0, .int .i64 c1, .int .i64 c2, .int .i64 dr, .bool fu, .int .i64 fd, .bool pr, .int .i64 sd, .int .i64 ra, .int .i64 bl, .int .i64 nn, .int .i64 sp, .bool on]])) /\
 ((nn == 3) = false -> K .normal ([.ce (.sl false [4, 4, 4, 4, 4, 4, 4, 4, 4, 4, 4, 4, 4, 0, 4, 0, 4, 4, 4, 4, 4, 0] l), .ce (.ptr 1000002 0), .ce (.int .i64 r), .ce (.ptr 1000005 0), .ce (.ptr 1000006 0), .ce (.int .i64 n), .ce (.int .i64 s), .ce (.int .i64 fr), .ce (.bool bg), .ce (.int .i64 ix), .ce (.ptr 1000012 0), .ce (.sl false [4, 4, 4, 4, 4, 4, 4, 4, 4, 4, 4, 4, 4, 0, 4, 0, 4, 4, 4, 4, 4, 0] l2), .ce (.int .i64 m), .ce (.int .i64 i), .ce (.bool (nn == 4))], [[.int .i64 z0, .int .i64 z1, .int .i64 z2, .sl true [4, 4, 4, 4, 4, 4, 4] zs, .sl true [4, 4, 4] zm], [.int .i64 s0, .int .i64 s1, .int .i64 s2, .sl true [4, 4, 4, 4, 4, 4, 4] sg, .sl true [4, 4, 4] mk], [.int .i64 a0, .int .i64 a1, .int .i64 a2], [.int .i64 k0, .int .i64 bk, .int .i64 f0, .int .i64 f1, .int .i64 f2, .int .i64 t0, .int .i64 t1, .int .i64 t2, .int .i64 pl, .int .i64 c0, .int .i64 c1, .int .i64 c2, .int .i64 dr, .bool fu, .int .i64 fd, .bool pr, .int .i64 sd, .int .i64 ra, .int .i64 bl, .int .i64 nn, .int .i64 sp, .bool on]]))) /\
 ((k0 == 8) = false -> K .normal ([.ce (.sl false [4, 4, 4, 4, 4, 4, 4, 4, 4, 4, 4, 4, 4, 0, 4, 0, 4, 4, 4, 4, 4, 0] l), .ce (.ptr 1000002 0), .ce (.int .i64 r), .ce (.ptr 1000005 0), .ce (.ptr 1000006 0), .ce (.int .i64 n), .ce (.int .i64 s), .ce (.int .i64 fr), .ce (.bool bg), .ce (.int .i64 ix), .ce (.ptr 1000012 0), .ce (.sl false [4, 4, 4, 4, 4, 4, 4, 4, 4, 4, 4, 4, 4, 0, 4, 0, 4, 4, 4, 4, 4, 0] l2), .ce (.int .i64 m), .ce (.int .i64 i), .ce (.lit false)], [[.int .i64 z0, .int .i64 z1, .int .i64 z2, .sl true [4, 4, 4, 4, 4, 4, 4] zs, .sl true [4, 4, 4] zm], [.int .i64 s0, .int .i64 s1, .int .i64 s2, .sl true [4, 4, 4, 4, 4, 4, 4] sg, .sl true [4, 4, 4] mk], [.int .i64 a0, .int .i64 a1, .int .i64 a2], [.int .i64 k0, .int .i64 bk, .int .i64 f0, .int .i64 f1, .int .i64 f2, .int .i64 t0, .int .i64 t1, .int .i64 t2, .int .i64 pl, .int .i64 c0, .int .i64 c1, .int .i64 c2, .int .i64 dr, .bool fu, .int .i64 fd, .bool pr, .int .i64 sd, .int .i64 ra, .int .i64 bl, .int .i64 nn, .int .i64 sp, .bool on]]))) := by kernel_rfl
theorem vbB1 (r n s ix m i qn j z0 z1 z2 s0 s1 s2 a0 a1 a2 g0 g1 g2 g3 g4 g5 g6 : Int) (k0 bk f0 f1 f2 t0 t1 t2 pl c0 c1 c2 dr fd sd ra bl nn sp : Int) (fu pr on : Bool) (bg : Bool) (l l2 q zs zm sg mk : List (List Int)) (K : HEx -> LV -> Prop) : (nbodyT true CBuild anB1 (nthLoop Tryz.f62 1) (([.ce (.sl false [4, 4, 4, 4, 4, 4, 4, 4, 4, 4, 4, 4, 4, 0, 4, 0, 4, 4, 4, 4, 4, 0] l), .ce (.ptr 1000002 0), .ce (.int .i64 r), .ce (.ptr 1000005 0), .ce (.ptr 1000006 0), .ce (.int .i64 n), .ce (.int .i64 s), .ce (.bool bg), .ce (.int .i64 ix), .ce (.ptr 1000012 0), .ce (.ptr 1000013 0), .ce (.sl false [4, 4, 4, 4, 4, 4, 4, 4, 4, 4, 4, 4, 4, 0, 4, 0, 4, 4, 4, 4, 4, 0] l2), .ce (.int .i64 m), .ce (.int .i64 i), .ce (.sl false [4, 4, 4] q), .ce (.int .i64 qn), .ce (.int .i64 j)], [[.int .i64 z0, .int .i64 z1, .int .i64 z2, .sl true [4, 4, 4, 4, 4, 4, 4] zs, .sl true [4, 4, 4] zm], [.int .i64 s0, .int .i64 s1, .int .i64 s2, .sl true [4, 4, 4, 4, 4, 4, 4] sg, .sl true [4, 4, 4] mk], [.int .i64 a0, .int .i64 a1, .int .i64 a2], [.int .i64 k0, .int .i64 bk, .int .i64 f0, .int .i64 f1, .int .i64 f2, .int .i64 t0, .int .i64 t1, .int .i64 t2, .int .i64 pl, .int .i64 c0, .int .i64 c1, .int .i64 c2, .int .i64 dr, .bool fu, .int .i64 fd, .bool pr, .int .i64 sd, .int .i64 ra, .int .i64 bl, .int .i64 nn, .int .i64 sp, .bool on], [.int .i64 g0, .int .i64 g1, .int .i64 g2, .int .i64 g3, .int .i64 g4, .int .i64 g5, .int .i64 g6]])) K) =
 ((decide (j < qn) = true -> (0 <= j /\ j < (q.length : Int)) /\ ((el q j.toNat == a0 && (ec q j.toNat 1 == a1 && (ec q j.toNat 2 == a2 && true))) = true -> (-9223372036854775808 <= j + 1 /\ j + 1 <= 9223372036854775807) /\ ∀ (x1 : Int), x1 = j + 1 -> K .normal ([.ce (.sl false [4, 4, 4, 4, 4, 4, 4, 4, 4, 4, 4, 4, 4, 0, 4, 0, 4, 4, 4, 4, 4, 0] l), .ce (.ptr 1000002 0), .ce (.int .i64 r), .ce (.ptr 1000005 0), .ce (.ptr 1000006 0), .ce (.int .i64 n), .ce (.int .i64 s), .ce (.bool bg), .ce (.int .i64 ix), .ce (.ptr 1000012 0), .ce (.ptr 1000013 0), .ce (.sl false [4, 4, 4, 4, 4, 4, 4, 4, 4, 4, 4, 4, 4, 0, 4, 0, 4, 4, 4, 4, 4, 0] l2), .ce (.int .i64 m), .ce (.int .i64 i), .ce (.sl false [4, 4, 4] q), .ce (.int .i64 qn), .ce (.int .i64 x1)], [[.int .i64 z0, .int .i64 z1, .int .i64 z2, .sl true [4, 4, 4, 4, 4, 4, 4] zs, .sl true [4, 4, 4] zm], [.int .i64 s0, .int .i64 s1, .int .i64 s2, .sl true [4, 4, 4, 4, 4, 4, 4] sg, .sl true [4, 4, 4] mk], [.int .i64 a0, .int .i64 a1, .int .i64 a2], [.int .i64 k0, .int .i64 bk, .int .i64 f0, .int .i64 f1, .int .i64 f2, .int .i64 t0, .int .i64 t1, .int .i64 t2, .int .i64 pl, .int .i64 c0, .int .i64 c1, .int .i64 c2, .int .i64 dr, .bool fu, .int .i64 fd, .bool pr, .int .i64 sd, .int .i64 ra, .int .i64 bl, .int .i64 nn, .int .i64 sp, .bool on], [.int .i64 g0, .int .i64 g1, .int .i64 g2, .int .i64 g3, .int .i64 g4, .int .i64 g5, .int .i64 g6]])) /\
 ((el q j.toNat == a0 && (ec q j.toNat 1 == a1 && (ec q j.toNat 2 == a2 && true))) = false -> (b3 268435456 a0 a1 a2 /\ b3 268435456 (el q j.toNat) (ec q j.toNat 1) (ec q j.toNat 2)) /\ (∃ (x : Int), isLen a0 a1 a2 (el q j.toNat) (ec q j.toNat 1) (ec q j.toNat 2) x) /\ ∀ (x : Int), isLen a0 a1 a2 (el q j.toNat) (ec q j.toNat 1) (ec q j.toNat 2) x -> ((sg.length + 1) * 56 <= 140737488355328 /\ sg.length + 1 <= maxLen) /\ (-9223372036854775808 <= n + x /\ n + x <= 9223372036854775807) /\ ∀ (x3 : Int), x3 = n + x -> (decide ((((List.length (sg ++ [[el q j.toNat, ec q j.toNat 1, ec q j.toNat 2, x, g4, g5, g6]])) : Nat) : Int) > 1048576) = true -> K .ret ([.ce (.sl false [4, 4, 4, 4, 4, 4, 4, 4, 4, 4, 4, 4, 4, 0, 4, 0, 4, 4, 4, 4, 4, 0] l), .ce (.ptr 1000002 0), .ce (.int .i64 10), .ce (.ptr 1000005 0), .ce (.ptr 1000006 0), .ce (.int .i64 x3), .ce (.int .i64 s), .ce (.bool bg), .ce (.int .i64 ix), .ce (.ptr 1000012 0), .ce (.sl false [4, 4, 4, 4, 4, 4, 4, 4, 4, 4, 4, 4, 4, 0, 4, 0, 4, 4, 4, 4, 4, 0] l2), .ce (.int .i64 m), .ce (.int .i64 i)], [[.int .i64 0, .int .i64 0, .int .i64 0, .sl true [4, 4, 4, 4, 4, 4, 4] [], .sl true [4, 4, 4] []], [.int .i64 s0, .int .i64 s1, .int .i64 s2, .sl true [4, 4, 4, 4, 4, 4, 4] (sg ++ [[el q j.toNat, ec q j.toNat 1, ec q j.toNat 2, x, g4, g5, g6]]), .sl true [4, 4, 4] mk], [.int .i64 (el q j.toNat), .int .i64 (ec q j.toNat 1), .int .i64 (ec q j.toNat 2)], [.int .i64 k0, .int .i64 bk, .int .i64 f0, .int .i64 f1, .int .i64 f2, .int .i64 t0, .int .i64 t1, .int .i64 t2, .int .i64 pl, .int .i64 c0, .int .i64 c1, .int .i64 c2, .int .i64 dr, .bool fu, .int .i64 fd, .bool pr, .int .i64 sd, .int .i64 ra, .int .i64 bl, .int .i64 nn, .int .i64 sp, .bool on], [.int .i64 (el q j.toNat), .int .i64 (ec q j.toNat 1), .int .i64 (ec q j.toNat 2), .int .i64 x, .int .i64 g4, .int .i64 g5, .int .i64 g6]])) /\
 (decide ((((List.length (sg ++ [[el q j.toNat, ec q j.toNat 1, ec q j.toNat 2, x, g4, g5, g6]])) : Nat) : Int) > 1048576) = false -> (-9223372036854775808 <= j + 1 /\ j + 1 <= 9223372036854775807) /\ ∀ (x4 : Int), x4 = j + 1 -> K .normal ([.ce (.sl false [4, 4, 4, 4, 4, 4, 4, 4, 4, 4, 4, 4, 4, 0, 4, 0, 4, 4, 4, 4, 4, 0] l), .ce (.ptr 1000002 0), .ce (.int .i64 r), .ce (.ptr 1000005 0), .ce (.ptr 1000006 0), .ce (.int .i64 x3), .ce (.int .i64 s), .ce (.bool bg), .ce (.int .i64 ix), .ce (.ptr 1000012 0), .ce (.ptr 1000013 0), .ce (.sl false [4, 4, 4, 4, 4, 4, 4, 4, 4, 4, 4, 4, 4, 0, 4, 0, 4, 4, 4, 4, 4, 0] l2), .ce (.int .i64 m), .ce (.int .i64 i), .ce (.sl false [4, 4, 4] q), .ce (.int .i64 qn), .ce (.int .i64 x4)], [[.int .i64 z0, .int .i64 z1, .int .i64 z2, .sl true [4, 4, 4, 4, 4, 4, 4] zs, .sl true [4, 4, 4] zm], [.int .i64 s0, .int .i64 s1, .int .i64 s2, .sl true [4, 4, 4, 4, 4, 4, 4] (sg ++ [[el q j.toNat, ec q j.toNat 1, ec q j.toNat 2, x, g4, g5, g6]]), .sl true [4, 4, 4] mk], [.int .i64 (el q j.toNat), .int .i64 (ec q j.toNat 1), .int .i64 (ec q j.toNat 2)], [.int .i64 k0, .int .i64 bk, .int .i64 f0, .int .i64 f1, .int .i64 f2, .int .i64 t0, .int .i64 t1, .int .i64 t2, .int .i64 pl, .int .i64 c0, .int .i64 c1, .int .i64 c2, .int .i64 dr, .bool fu, .int .i64 fd, .bool pr, .int .i64 sd, .int .i64 ra, .int .i64 bl, .int .i64 nn, .int .i64 sp, .bool on], [.int .i64 (el q j.toNat), .int .i64 (ec q j.toNat 1), .int .i64 (ec q j.toNat 2), .int .i64 x, .int .i64 g4, .int .i64 g5, .int .i64 g6]])))) /\
 (decide (j < qn) = false -> K (.exit 2) ([.ce (.sl false [4, 4, 4, 4, 4, 4, 4, 4, 4, 4, 4, 4, 4, 0, 4, 0, 4, 4, 4, 4, 4, 0] l), .ce (.ptr 1000002 0), .ce (.int .i64 r), .ce (.ptr 1000005 0), .ce (.ptr 1000006 0), .ce (.int .i64 n), .ce (.int .i64 s), .ce (.bool bg), .ce (.int .i64 ix), .ce (.ptr 1000012 0), .ce (.sl false [4, 4, 4, 4, 4, 4, 4, 4, 4, 4, 4, 4, 4, 0, 4, 0, 4, 4, 4, 4, 4, 0] l2), .ce (.int .i64 m), .ce (.int .i64 i)], [[.int .i64 z0, .int .i64 z1, .int .i64 z2, .sl true [4, 4, 4, 4, 4, 4, 4] zs, .sl true [4, 4, 4] zm], [.int .i64 s0, .int .i64 s1, .int .i64 s2, .sl true [4, 4, 4, 4, 4, 4, 4] sg, .sl true [4, 4, 4] mk], [.int .i64 a0, .int .i64 a1, .int .i64 a2], [.int .i64 k0, .int .i64 bk, .int .i64 f0, .int .i64 f1, .int .i64 f2, .int .i64 t0, .int .i64 t1, .int .i64 t2, .int .i64 pl, .int .i64 c0, .int .i64 c1, .int .i64 c2, .int .i64 dr, .bool fu, .int .i64 fd, .bool pr, .int .i64 sd, .int .i64 ra, .int .i64 bl, .int .i64 nn, .int .i64 sp, .bool on], [.int .i64 g0, .int .i64 g1, .int .i64 g2, .int .i64 g3, .int .i64 g4, .int .i64 g5, .int .i64 g6]]))) := by kernel_rfl
theorem vbB0 (r n s fr m i z0 z1 z2 s0 s1 s2 a0 a1 a2 : Int) (bg : Bool) (l zs zm sg mk : List (List Int)) (K : HEx -> LV -> Prop) : (nbodyT true CBuild anB0 (nthLoop Tryz.f62 0) (([.ce (.sl false [4, 4, 4, 4, 4, 4, 4, 4, 4, 4, 4, 4, 4, 0, 4, 0, 4, 4, 4, 4, 4, 0] l), .ce (.ptr 1000002 0), .ce (.int .i64 r), .ce (.ptr 1000005 0), .ce (.ptr 1000006 0), .ce (.int .i64 n), .ce (.int .i64 s), .ce (.int .i64 fr), .ce (.bool bg), .ce (.sl false [4, 4, 4, 4, 4, 4, 4, 4, 4, 4, 4, 4, 4, 0, 4, 0, 4, 4, 4, 4, 4, 0] l), .ce (.int .i64 m), .ce (.int .i64 i)], [[.int .i64 z0, .int .i64 z1, .int .i64 z2, .sl true [4, 4, 4, 4, 4, 4, 4] zs, .sl true [4, 4, 4] zm], [.int .i64 s0, .int .i64 s1, .int .i64 s2, .sl true [4, 4, 4, 4, 4, 4, 4] sg, .sl true [4, 4, 4] mk], [.int .i64 a0, .int .i64 a1, .int .i64 a2]])) K) =
 ((decide (i < m) = true -> (0 <= i /\ i < (l.length : Int)) /\ el l i.toNat ≠ 8 /\ (1 <= el l i.toNat /\ el l i.toNat <= 6) /\ ∀ (x1 : Bool), x1 = true -> ((!x1) = true -> True /\ (∃ (x : Int), True) /\ ∀ (x : Int), True -> ((mk.length + 1) * 24 <= 140737488355328 /\ mk.length + 1 <= maxLen) /\ (-9223372036854775808 <= i + 1 /\ i + 1 <= 9223372036854775807) /\ ∀ (x3 : Int), x3 = i + 1 -> K .normal ([.ce (.sl false [4, 4, 4, 4, 4, 4, 4, 4, 4, 4, 4, 4, 4, 0, 4, 0, 4, 4, 4, 4, 4, 0] l), .ce (.ptr 1000002 0), .ce (.int .i64 r), .ce (.ptr 1000005 0), .ce (.ptr 1000006 0), .ce (.int .i64 n), .ce (.int .i64 s), .ce (.int .i64 fr), .ce (.bool bg), .ce (.sl false [4, 4, 4, 4, 4, 4, 4, 4, 4, 4, 4, 4, 4, 0, 4, 0, 4, 4, 4, 4, 4, 0] l), .ce (.int .i64 m), .ce (.int .i64 x3)], [[.int .i64 z0, .int .i64 z1, .int .i64 z2, .sl true [4, 4, 4, 4, 4, 4, 4] zs, .sl true [4, 4, 4] zm], [.int .i64 s0, .int .i64 s1, .int .i64 s2, .sl true [4, 4, 4, 4, 4, 4, 4] sg, .sl true [4, 4, 4] (mk ++ [[n, x, i]])], [.int .i64 a0, .int .i64 a1, .int .i64 a2]])) /\
 ((!x1) = false -> ((!bg) = true -> b3 1073741824 (ec l i.toNat 2) (ec l i.toNat 3) (ec l i.toNat 4) /\ ∀ (x4 : Int), x4 = ec l i.toNat 2 * 16 -> ∀ (x5 : Int), x5 = ec l i.toNat 3 * 16 -> ∀ (x6 : Int), x6 = ec l i.toNat 4 * 16 -> b3 1073741824 (ec l i.toNat 2) (ec l i.toNat 3) (ec l i.toNat 4) /\ ∀ (x7 : Int), x7 = ec l i.toNat 2 * 16 -> ∀ (x8 : Int), x8 = ec l i.toNat 3 * 16 -> ∀ (x9 : Int), x9 = ec l i.toNat 4 * 16 -> ((0 <= ec l i.toNat 14 /\ ec l i.toNat 14 <= 60000000) /\ s = 0) /\ (∃ (x : Int), 0 <= x /\ x <= 16777216) /\ ∀ (x : Int), 0 <= x /\ x <= 16777216 -> (1 <= el l i.toNat /\ el l i.toNat <= 3) /\ ∀ (x11 : Bool), x11 = false -> (x11 = true -> (-9223372036854775808 <= ec l i.toNat 14 * 16 /\ ec l i.toNat 14 * 16 <= 9223372036854775807) /\ ∀ (x12 : Int), x12 = ec l i.toNat 14 * 16 -> ∀ (x13 : Int), x13 = min x12 16777216 ->
 ((0 <= i /\ i < (l.length : Int)) /\ (-1 <= fr /\ fr < (l.length : Int)) /\ niceL l /\ l.length <= 5) /\ (∃ (x : List (List Int) × Bool), List.length x.1 <= 71000 /\ ptsOK (32768 : Int) x.1) /\ ∀ (x : List (List Int) × Bool), List.length x.1 <= 71000 /\ ptsOK (32768 : Int) x.1 -> ((List.length x.1 : Int) = (List.length x.1 : Int) /\ (0 : Int) = 0 /\ List.length x.1 <= 71000 /\ ptsOK (32768 : Int) x.1 /\ okB (284000 : Nat) { a0 := x7, a1 := x8, a2 := x9, n := n, s0 := x4, s1 := x5, s2 := x6, sg := sg, mks := mk, fr := (-1 : Int), bg := false }) /\ ∀ (x : BSt × Int × Int × Int × Int), okB (sg.length + 71000) x.1 /\ x.1.s0 = x4 /\ x.1.s1 = x5 /\ x.1.s2 = x6 /\ x.1.mks = mk -> ((0 <= i /\ i < (l.length : Int)) /\ niceL l /\ l.length <= 5) /\ (∃ (x : Int), -1 <= x /\ x < (l.length : Int)) /\ ∀ (x_1 : Int), -1 <= x_1 /\
 x_1 < (l.length : Int) -> (decide (x_1 >= 0) = true -> ((0 <= i /\ i < (l.length : Int)) /\ niceL l /\ l.length <= 5) /\ (∃ (x : Int), True) /\ ∀ (x_2 : Int), True -> ((List.length x.1.mks + 1) * nat_lit 24 <= 140737488355328 /\ List.length x.1.mks + 1 <= maxLen) /\ (-9223372036854775808 <= i + 1 /\ i + 1 <= 9223372036854775807) /\ ∀ (x18 : Int), x18 = i + 1 -> K .normal ([.ce (.sl false [4, 4, 4, 4, 4, 4, 4, 4, 4, 4, 4, 4, 4, 0, 4, 0, 4, 4, 4, 4, 4, 0] l), .ce (.ptr 1000002 0), .ce (.int .i64 r), .ce (.ptr 1000005 0), .ce (.ptr 1000006 0), .ce (.int .i64 x.1.n), .ce (.int .i64 s), .ce (.int .i64 i), .ce (.bool true), .ce (.sl false [4, 4, 4, 4, 4, 4, 4, 4, 4, 4, 4, 4, 4, 0, 4, 0, 4, 4, 4, 4, 4, 0] l), .ce (.int .i64 m), .ce (.int .i64 x18)], [[.int .i64 z0, .int .i64 z1, .int .i64 z2, .sl true [4, 4, 4, 4, 4, 4, 4] zs, .sl true [4, 4, 4] zm], [.int .i64 x.1.s0, .int .i64 x.1.s1, .int .i64 x.1.s2, .sl true [4, 4, 4, 4, 4, 4, 4] x.1.sg, .sl true [4, 4, 4] (x.1.mks ++ [[x.1.n, x_2, i]])], [.int .i64 x.1.a0, .int .i64 x.1.a1, .int .i64 x.1.a2]])) /\
 (decide (x_1 >= 0) = false -> ((0 <= i /\ i < (l.length : Int)) /\ niceL l /\ l.length <= 5) /\ (∃ (x : Int), True) /\ ∀ (x_2 : Int), True -> ((List.length x.1.mks + 1) * nat_lit 24 <= 140737488355328 /\ List.length x.1.mks + 1 <= maxLen) /\ (-9223372036854775808 <= i + 1 /\ i + 1 <= 9223372036854775807) /\ ∀ (x20 : Int), x20 = i + 1 -> K .normal ([.ce (.sl false [4, 4, 4, 4, 4, 4, 4, 4, 4, 4, 4, 4, 4, 0, 4, 0, 4, 4, 4, 4, 4, 0] l), .ce (.ptr 1000002 0), .ce (.int .i64 r), .ce (.ptr 1000005 0), .ce (.ptr 1000006 0), .ce (.int .i64 x.1.n), .ce (.int .i64 s), .ce (.int .i64 (-1)), .ce (.bool true), .ce (.sl false [4, 4, 4, 4, 4, 4, 4, 4, 4, 4, 4, 4, 4, 0, 4, 0, 4, 4, 4, 4, 4, 0] l), .ce (.int .i64 m), .ce (.int .i64 x20)], [[.int .i64 z0, .int .i64 z1, .int .i64 z2, .sl true [4, 4, 4, 4, 4, 4, 4] zs, .sl true [4, 4, 4] zm], [.int .i64 x.1.s0, .int .i64 x.1.s1, .int .i64 x.1.s2, .sl true [4, 4, 4, 4, 4, 4, 4] x.1.sg, .sl true [4, 4, 4] (x.1.mks ++ [[x.1.n, x_2, i]])], [.int .i64 x.1.a0, .int .i64 x.1.a1, .int .i64 x.1.a2]]))) /\
 (x11 = false -> ((0 <= i /\ i < (l.length : Int)) /\ (-1 <= fr /\ fr < (l.length : Int)) /\ niceL l /\ l.length <= 5) /\ (∃ (x : List (List Int) × Bool), List.length x.1 <= 71000 /\ ptsOK (32768 : Int) x.1) /\ ∀ (x : List (List Int) × Bool), List.length x.1 <= 71000 /\ ptsOK (32768 : Int) x.1 -> ((List.length x.1 : Int) = (List.length x.1 : Int) /\ (0 : Int) = 0 /\ List.length x.1 <= 71000 /\ ptsOK (32768 : Int) x.1 /\ okB (284000 : Nat) { a0 := x7, a1 := x8, a2 := x9, n := n, s0 := x4, s1 := x5, s2 := x6, sg := sg, mks := mk, fr := (-1 : Int), bg := false }) /\ ∀ (x : BSt × Int × Int × Int × Int), okB (sg.length + 71000) x.1 /\ x.1.s0 = x4 /\ x.1.s1 = x5 /\ x.1.s2 = x6 /\ x.1.mks = mk -> ((0 <= i /\ i < (l.length : Int)) /\ niceL l /\ l.length <= 5) /\ (∃ (x : Int), -1 <= x /\ x < (l.length : Int)) /\ ∀ (x_1 : Int), -1 <= x_1 /\
 x_1 < (l.length : Int) -> (decide (x_1 >= 0) = true -> ((0 <= i /\ i < (l.length : Int)) /\ niceL l /\ l.length <= 5) /\ (∃ (x : Int), True) /\ ∀ (x_2 : Int), True -> ((List.length x.1.mks + 1) * nat_lit 24 <= 140737488355328 /\ List.length x.1.mks + 1 <= maxLen) /\ (-9223372036854775808 <= i + 1 /\ i + 1 <= 9223372036854775807) /\ ∀ (x25 : Int), x25 = i + 1 -> K .normal ([.ce (.sl false [4, 4, 4, 4, 4, 4, 4, 4, 4, 4, 4, 4, 4, 0, 4, 0, 4, 4, 4, 4, 4, 0] l), .ce (.ptr 1000002 0), .ce (.int .i64 r), .ce (.ptr 1000005 0), .ce (.ptr 1000006 0), .ce (.int .i64 x.1.n), .ce (.int .i64 s), .ce (.int .i64 i), .ce (.bool true), .ce (.sl false [4, 4, 4, 4, 4, 4, 4, 4, 4, 4, 4, 4, 4, 0, 4, 0, 4, 4, 4, 4, 4, 0] l), .ce (.int .i64 m), .ce (.int .i64 x25)], [[.int .i64 z0, .int .i64 z1, .int .i64 z2, .sl true [4, 4, 4, 4, 4, 4, 4] zs, .sl true [4, 4, 4] zm], [.int .i64 x.1.s0, .int .i64 x.1.s1, .int .i64 x.1.s2, .sl true [4, 4, 4, 4, 4, 4, 4] x.1.sg, .sl true [4, 4, 4] (x.1.mks ++ [[x.1.n, x_2, i]])], [.int .i64 x.1.a0, .int .i64 x.1.a1, .int .i64 x.1.a2]])) /\
 (decide (x_1 >= 0) = false -> ((0 <= i /\ i < (l.length : Int)) /\ niceL l /\ l.length <= 5) /\ (∃ (x : Int), True) /\ ∀ (x_2 : Int), True -> ((List.length x.1.mks + 1) * nat_lit 24 <= 140737488355328 /\ List.length x.1.mks + 1 <= maxLen) /\ (-9223372036854775808 <= i + 1 /\ i + 1 <= 9223372036854775807) /\ ∀ (x27 : Int), x27 = i + 1 -> K .normal ([.ce (.sl false [4, 4, 4, 4, 4, 4, 4, 4, 4, 4, 4, 4, 4, 0, 4, 0, 4, 4, 4, 4, 4, 0] l), .ce (.ptr 1000002 0), .ce (.int .i64 r), .ce (.ptr 1000005 0), .ce (.ptr 1000006 0), .ce (.int .i64 x.1.n), .ce (.int .i64 s), .ce (.int .i64 (-1)), .ce (.bool true), .ce (.sl false [4, 4, 4, 4, 4, 4, 4, 4, 4, 4, 4, 4, 4, 0, 4, 0, 4, 4, 4, 4, 4, 0] l), .ce (.int .i64 m), .ce (.int .i64 x27)], [[.int .i64 z0, .int .i64 z1, .int .i64 z2, .sl true [4, 4, 4, 4, 4, 4, 4] zs, .sl true [4, 4, 4] zm], [.int .i64 x.1.s0, .int .i64 x.1.s1, .int .i64 x.1.s2, .sl true [4, 4, 4, 4, 4, 4, 4] x.1.sg, .sl true [4, 4, 4] (x.1.mks ++ [[x.1.n, x_2, i]])], [.int .i64 x.1.a0, .int .i64 x.1.a1, .int .i64 x.1.a2]])))) /\
 ((!bg) = false -> ((0 <= ec l i.toNat 14 /\ ec l i.toNat 14 <= 60000000) /\ s = 0) /\ (∃ (x : Int), 0 <= x /\ x <= 16777216) /\ ∀ (x : Int), 0 <= x /\ x <= 16777216 -> (1 <= el l i.toNat /\ el l i.toNat <= 3) /\ ∀ (x29 : Bool), x29 = false -> (x29 = true -> (-9223372036854775808 <= ec l i.toNat 14 * 16 /\ ec l i.toNat 14 * 16 <= 9223372036854775807) /\ ∀ (x30 : Int), x30 = ec l i.toNat 14 * 16 -> ∀ (x31 : Int), x31 = min x30 16777216 -> ((0 <= i /\ i < (l.length : Int)) /\ (-1 <= fr /\ fr < (l.length : Int)) /\ niceL l /\ l.length <= 5) /\ (∃ (x : List (List Int) × Bool), List.length x.1 <= 71000 /\ ptsOK (32768 : Int) x.1) /\ ∀ (x : List (List Int) × Bool), List.length x.1 <= 71000 /\ ptsOK (32768 : Int) x.1 -> ((List.length x.1 : Int) = (List.length x.1 : Int) /\ (0 : Int) = 0 /\ List.length x.1 <= 71000 /\ ptsOK (32768 : Int) x.1 /\
 okB (284000 : Nat) { a0 := a0, a1 := a1, a2 := a2, n := n, s0 := s0, s1 := s1, s2 := s2, sg := sg, mks := mk, fr := (-1 : Int), bg := false }) /\ ∀ (x : BSt × Int × Int × Int × Int), okB (sg.length + 71000) x.1 /\ x.1.s0 = s0 /\ x.1.s1 = s1 /\ x.1.s2 = s2 /\ x.1.mks = mk -> ((0 <= i /\ i < (l.length : Int)) /\ niceL l /\ l.length <= 5) /\ (∃ (x : Int), -1 <= x /\ x < (l.length : Int)) /\ ∀ (x_1 : Int), -1 <= x_1 /\ x_1 < (l.length : Int) -> (decide (x_1 >= 0) = true -> ((0 <= i /\ i < (l.length : Int)) /\ niceL l /\ l.length <= 5) /\ (∃ (x : Int), True) /\ ∀ (x_2 : Int), True -> ((List.length x.1.mks + 1) * 24 <= 140737488355328 /\ List.length x.1.mks + 1 <= maxLen) /\ (-9223372036854775808 <= i + 1 /\ i + 1 <= 9223372036854775807) /\ ∀ (x36 : Int), x36 = i + 1 -> K .normal ([.ce (.sl false [4, 4, 4, 4, 4, 4, 4, 4, 4, 4, 4, 4, 4, 0, 4, 0, 4, 4, 4, 4, 4, 0] l), .ce (.ptr 1000002 0), .ce (.int .i64 r), .ce (.ptr 1000005 0), .ce (.ptr 1000006 0), .ce (.int .i64 x.1.n), .ce (.int .i64 s), .ce (.int .i64 i), .ce (.bool bg), .ce (.sl false [4, 4, 4, 4, 4, 4, 4, 4, 4, 4, 4, 4, 4, 0, 4, 0, 4, 4, 4, 4, 4, 0] l), .ce (.int .i64 m), .ce (.int .i64 x36)], [[.int .i64 z0, .int .i64 z1, .int .i64 z2, .sl true [4, 4, 4, 4, 4, 4, 4] zs, .sl true [4, 4, 4] zm], [.int .i64 x.1.s0, .int .i64 x.1.s1, .int .i64 x.1.s2, .sl true [4, 4, 4, 4, 4, 4, 4] x.1.sg, .sl true [4, 4, 4] (x.1.mks ++ [[x.1.n, x_2, i]])], [.int .i64 x.1.a0, .int .i64 x.1.a1, .int .i64 x.1.a2]])) /\
 (decide (x_1 >= 0) = false -> ((0 <= i /\ i < (l.length : Int)) /\ niceL l /\ l.length <= 5) /\ (∃ (x : Int), True) /\ ∀ (x_2 : Int), True -> ((List.length x.1.mks + 1) * 24 <= 140737488355328 /\ List.length x.1.mks + 1 <= maxLen) /\ (-9223372036854775808 <= i + 1 /\ i + 1 <= 9223372036854775807) /\ ∀ (x38 : Int), x38 = i + 1 -> K .normal ([.ce (.sl false [4, 4, 4, 4, 4, 4, 4, 4, 4, 4, 4, 4, 4, 0, 4, 0, 4, 4, 4, 4, 4, 0] l), .ce (.ptr 1000002 0), .ce (.int .i64 r), .ce (.ptr 1000005 0), .ce (.ptr 1000006 0), .ce (.int .i64 x.1.n), .ce (.int .i64 s), .ce (.int .i64 (-1)), .ce (.bool bg), .ce (.sl false [4, 4, 4, 4, 4, 4, 4, 4, 4, 4, 4, 4, 4, 0, 4, 0, 4, 4, 4, 4, 4, 0] l), .ce (.int .i64 m), .ce (.int .i64 x38)], [[.int .i64 z0, .int .i64 z1, .int .i64 z2, .sl true [4, 4, 4, 4, 4, 4, 4] zs, .sl true [4, 4, 4] zm], [.int .i64 x.1.s0, .int .i64 x.1.s1, .int .i64 x.1.s2, .sl true [4, 4, 4, 4, 4, 4, 4] x.1.sg, .sl true [4, 4, 4] (x.1.mks ++ [[x.1.n, x_2, i]])], [.int .i64 x.1.a0, .int .i64 x.1.a1, .int .i64 x.1.a2]]))) /\
 (x29 = false -> ((0 <= i /\ i < (l.length : Int)) /\ (-1 <= fr /\ fr < (l.length : Int)) /\ niceL l /\ l.length <= 5) /\ (∃ (x : List (List Int) × Bool), List.length x.1 <= 71000 /\ ptsOK (32768 : Int) x.1) /\ ∀ (x : List (List Int) × Bool), List.length x.1 <= 71000 /\ ptsOK (32768 : Int) x.1 -> ((List.length x.1 : Int) = (List.length x.1 : Int) /\ (0 : Int) = 0 /\ List.length x.1 <= 71000 /\ ptsOK (32768 : Int) x.1 /\ okB (284000 : Nat) { a0 := a0, a1 := a1, a2 := a2, n := n, s0 := s0, s1 := s1, s2 := s2, sg := sg, mks := mk, fr := (-1 : Int), bg := false }) /\ ∀ (x : BSt × Int × Int × Int × Int), okB (sg.length + 71000) x.1 /\ x.1.s0 = s0 /\ x.1.s1 = s1 /\ x.1.s2 = s2 /\ x.1.mks = mk -> ((0 <= i /\ i < (l.length : Int)) /\ niceL l /\ l.length <= 5) /\ (∃ (x : Int), -1 <= x /\ x < (l.length : Int)) /\ ∀ (x_1 : Int), -1 <= x_1 /\
 x_1 < (l.length : Int) -> (decide (x_1 >= 0) = true -> ((0 <= i /\ i < (l.length : Int)) /\ niceL l /\ l.length <= 5) /\ (∃ (x : Int), True) /\ ∀ (x_2 : Int), True -> ((List.length x.1.mks + 1) * 24 <= 140737488355328 /\ List.length x.1.mks + 1 <= maxLen) /\ (-9223372036854775808 <= i + 1 /\ i + 1 <= 9223372036854775807) /\ ∀ (x43 : Int), x43 = i + 1 -> K .normal ([.ce (.sl false [4, 4, 4, 4, 4, 4, 4, 4, 4, 4, 4, 4, 4, 0, 4, 0, 4, 4, 4, 4, 4, 0] l), .ce (.ptr 1000002 0), .ce (.int .i64 r), .ce (.ptr 1000005 0), .ce (.ptr 1000006 0), .ce (.int .i64 x.1.n), .ce (.int .i64 s), .ce (.int .i64 i), .ce (.bool bg), .ce (.sl false [4, 4, 4, 4, 4, 4, 4, 4, 4, 4, 4, 4, 4, 0, 4, 0, 4, 4, 4, 4, 4, 0] l), .ce (.int .i64 m), .ce (.int .i64 x43)], [[.int .i64 z0, .int .i64 z1, .int .i64 z2, .sl true [4, 4, 4, 4, 4, 4, 4] zs, .sl true [4, 4, 4] zm], [.int .i64 x.1.s0, .int .i64 x.1.s1, .int .i64 x.1.s2, .sl true [4, 4, 4, 4, 4, 4, 4] x.1.sg, .sl true [4, 4, 4] (x.1.mks ++ [[x.1.n, x_2, i]])], [.int .i64 x.1.a0, .int .i64 x.1.a1, .int .i64 x.1.a2]])) /\
 (decide (x_1 >= 0) = false -> ((0 <= i /\ i < (l.length : Int)) /\ niceL l /\ l.length <= 5) /\ (∃ (x : Int), True) /\ ∀ (x_2 : Int), True -> ((List.length x.1.mks + 1) * 24 <= 140737488355328 /\ List.length x.1.mks + 1 <= maxLen) /\ (-9223372036854775808 <= i + 1 /\ i + 1 <= 9223372036854775807) /\ ∀ (x45 : Int), x45 = i + 1 -> K .normal ([.ce (.sl false [4, 4, 4, 4, 4, 4, 4, 4, 4, 4, 4, 4, 4, 0, 4, 0, 4, 4, 4, 4, 4, 0] l), .ce (.ptr 1000002 0), .ce (.int .i64 r), .ce (.ptr 1000005 0), .ce (.ptr 1000006 0), .ce (.int .i64 x.1.n), .ce (.int .i64 s), .ce (.int .i64 (-1)), .ce (.bool bg), .ce (.sl false [4, 4, 4, 4, 4, 4, 4, 4, 4, 4, 4, 4, 4, 0, 4, 0, 4, 4, 4, 4, 4, 0] l), .ce (.int .i64 m), .ce (.int .i64 x45)], [[.int .i64 z0, .int .i64 z1, .int .i64 z2, .sl true [4, 4, 4, 4, 4, 4, 4] zs, .sl true [4, 4, 4] zm], [.int .i64 x.1.s0, .int .i64 x.1.s1, .int .i64 x.1.s2, .sl true [4, 4, 4, 4, 4, 4, 4] x.1.sg, .sl true [4, 4, 4] (x.1.mks ++ [[x.1.n, x_2, i]])], [.int .i64 x.1.a0, .int .i64 x.1.a1, .int .i64 x.1.a2]])))))) /\
 (decide (i < m) = false -> K (.exit 0) ([.ce (.ptr 1000002 0), .ce (.int .i64 r), .ce (.ptr 1000005 0)], [[.int .i64 z0, .int .i64 z1, .int .i64 z2, .sl true [4, 4, 4, 4, 4, 4, 4] zs, .sl true [4, 4, 4] zm], [.int .i64 s0, .int .i64 s1, .int .i64 s2, .sl true [4, 4, 4, 4, 4, 4, 4] sg, .sl true [4, 4, 4] mk], [.int .i64 a0, .int .i64 a1, .int .i64 a2]]))) := by kernel_rfl
theorem vcBuild (l : List (List Int)) (Q : Res -> Prop) : (nfun true CBuild Tryz.f62 (bodyOf Tryz.f62) [.ce (.sl false [4, 4, 4, 4, 4, 4, 4, 4, 4, 4, 4, 4, 4, 0, 4, 0, 4, 4, 4, 4, 4, 0] l)] [] Q) =
 ((niceL l /\ l.length <= 5) /\ (∃ (x : Int), True) /\ ∀ (x : Int), True -> ((x != 0) = true -> Q ⟨.tup [.agg [.int .i64 0, .int .i64 0, .int .i64 0, .sl false [4, 4, 4, 4, 4, 4, 4] [], .sl false [4, 4, 4] []], .ce (.int .i64 x)], false, [], []⟩) /\ ((x != 0) = false -> (l = l /\ (l.length : Int) = (l.length : Int) /\ niceL l /\ l.length <= 5 /\ (0 : Int) = 0 /\ (0 : Int) = 0 /\ (-1 : Int) = (-1 : Int) /\ false = false /\ (0 : Nat) = 0 /\ okB (0 : Nat) { a0 := (0 : Int), a1 := (0 : Int), a2 := (0 : Int), n := (0 : Int), s0 := (0 : Int), s1 := (0 : Int), s2 := (0 : Int), sg := [], mks := [], fr := (-1 : Int), bg := false }) /\ ∀ (x : BSt), okB (355000 : Nat) x -> Q ⟨.tup [.agg [.int .i64 x.s0, .int .i64 x.s1, .int .i64 x.s2, .sl false [4, 4, 4, 4, 4, 4, 4] x.sg, .sl false [4, 4, 4] x.mks], .ce (.int .i64 0)], false, [], []⟩)) := by kernel_rfl
end Go.Proofs.YtneingpnkdeooaaGreat
namespace U
theorem bgn_app {s : Int} {sg : List (List Int)} {r : List Int} {c : Nat} {j : Nat} (h : j <= sg.length) : bgn s (sg ++ [r]) c j = bgn s sg c j := by
 unfold bgn
 by_cases h0 : (j : Int) <= 0
 . rw [if_pos h0, if_pos h0]
 . rw [if_neg h0, if_neg h0]
   have : ((j : Int) - 1).toNat < sg.length := by omega
   unfold ec
   have e : (sg ++ [r]).getD ((j : Int) - 1).toNat [] = sg.getD ((j : Int) - 1).toNat [] := by rw [List.getD_eq_getElem?_getD, List.getElem?_append_left this, <- List.getD_eq_getElem?_getD]
   rw [e]
theorem bgn_last {s : Int} {sg : List (List Int)} {r : List Int} {c : Nat} : bgn s (sg ++ [r]) c ((sg ++ [r]).length : Nat) = r.getD c 0 := by
 unfold bgn
 have hl : (sg ++ [r]).length = sg.length + 1 := by simp
 rw [hl, if_neg (by omega)]
 have e : (((sg.length + 1 : Nat) : Int) - 1).toNat = sg.length := by omega
 rw [e]
 exact ec_app_eq
theorem okB_mono {m k : Nat} {x : BSt} (h : m <= k) (hx : okB m x) : okB k x := ⟨hx.1, hx.2.1, hx.2.2.1, hx.2.2.2.1, hx.2.2.2.2.1, Nat.le_trans hx.2.2.2.2.2.1 h, hx.2.2.2.2.2.2⟩
theorem okLen_of {s0 s1 s2 : Int} {sg : List (List Int)} (h : okSegs s0 s1 s2 sg) (hl : sg.length <= 355000) : okLen sg := ⟨by omega, fun j hj => by have := (h j hj).2.1; omega⟩
theorem okB_n {m : Nat} {x : BSt} (h : okB m x) (hl : x.sg.length <= 355000) : 0 <= x.n /\ x.n <= 4503599627370496 := by
 rw [h.2.2.2.2.1]
 exact plen_le (okLen_of h.2.2.1 hl)
theorem okB_step {m : Nat} {a0 a1 a2 n s0 s1 s2 fr p0 p1 p2 x g4 g5 g6 : Int} {sg mk : List (List Int)} {bg : Bool} (h : okB m ⟨a0, a1, a2, n, s0, s1, s2, sg, mk, fr, bg⟩) (hp : b3 32768 p0 p1 p2)
 (hne : ¬ (p0 = a0 /\ p1 = a1 /\ p2 = a2)) (hx : isLen a0 a1 a2 p0 p1 p2 x) : okB (m + 1) ⟨p0, p1, p2, n + x, s0, s1, s2, sg ++ [[p0, p1, p2, x, g4, g5, g6]], mk, fr, bg⟩ := by
 obtain ⟨ha, hs, hg, ⟨l0, l1, l2⟩, hn, hm, hk⟩ := h
 dsimp only at ha hs hg l0 l1 l2 hn hm hk
 obtain ⟨x0, x1, x2, xD⟩ := hx
 have xb := xD 65536 (by decide) (by unfold b3 at ha hp ⊢; omega)
 refine ⟨hp, hs, ?_, ⟨by dsimp only; rw [bgn_last]; rfl, by dsimp only; rw [bgn_last]; rfl, by dsimp only; rw [bgn_last]; rfl⟩, ?_, by dsimp only; simp; omega, hk⟩
 . intro j hj
   dsimp only at hj ⊢
   by_cases h : j < sg.length
   . have := hg j h
     simp only [ec_app_lt h]
     rw [bgn_app (by omega), bgn_app (by omega), bgn_app (by omega)]
     exact this
   . have : j = sg.length := by simp at hj; omega
     subst this
     simp only [ec_app_eq]
     rw [bgn_app (Nat.le_refl _), bgn_app (Nat.le_refl _), bgn_app (Nat.le_refl _), <- l0, <- l1, <- l2]
     refine ⟨hp, ?_, ?_⟩
     . show 1 <= x /\ x <= 131072
       omega
     . show b3 x (p0 - a0) (p1 - a1) (p2 - a2)
       unfold b3
       omega
 . dsimp only
   rw [plen_append, hn]
   show plen sg + x = plen sg + (x + 0)
   omega
end U
namespace Go.Proofs.YtneingpnkdeooaaGreat
section
open Go Go.HL U
attribute [local irreducible] hfun bodyT fragT
set_option maxHeartbeats 2000000 in
theorem loopB1 : ∀ v Q, (LB1 v).wp Q -> hloop CBuild anB1 (nthLoop Tryz.f62 1) v Q := by
 intro v Q h
 unfold LB1 at h
 split at h
 case h_2 => exact h.elim
 rename_i ks l r n s bg ix ks2 l2 m i q qn j rb pb ab ib gb
 cases hks : ksEq ks [4, 4, 4, 4, 4, 4, 4, 4, 4, 4, 4, 4, 4, 0, 4, 0, 4, 4, 4, 4, 4, 0]
 . rw [hks] at h; exact h.elim
 cases hks2 : ksEq ks2 [4, 4, 4, 4, 4, 4, 4, 4, 4, 4, 4, 4, 4, 0, 4, 0, 4, 4, 4, 4, 4, 0]
 . rw [hks, hks2] at h; exact h.elim
 rw [hks, hks2] at h
 obtain rfl := ksEq_eq hks
 obtain rfl := ksEq_eq hks2
 split at h
 case h_2 => exact h.elim
 split at h
 case h_2 => exact h.elim
 split at h
 case h_2 => exact h.elim
 split at h
 case h_2 => exact h.elim
 split at h
 case h_2 => exact h.elim
 rename_i z0 z1 z2 zs zm _ s0 s1 s2 sg mk _ a0 a1 a2 _ g0 g1 g2 g3 g4 g5 g6 _ k0 bk f0 f1 f2 t0 t1 t2 pl c0 c1 c2 dr fu fd pr sd ra bl nn sp on
 obtain ⟨⟨h1, h2, h3, h4, h5⟩, hq⟩ := h
 subst h1 h2
 refine hloop_rec (σ := (BSt × Int × Int × Int × Int) × Nat) (fun x => ([.ce (.sl false [4, 4, 4, 4, 4, 4, 4, 4, 4, 4, 4, 4, 4, 0, 4, 0, 4, 4, 4, 4, 4, 0] l), .ce (.ptr 1000002 0), .ce (.int .i64 r), .ce (.ptr 1000005 0), .ce (.ptr 1000006 0), .ce (.int .i64 x.1.1.n), .ce (.int .i64 s), .ce (.bool bg), .ce (.int .i64 ix), .ce (.ptr 1000012 0), .ce (.ptr 1000013 0), .ce (.sl false [4, 4, 4, 4, 4, 4, 4, 4, 4, 4, 4, 4, 4, 0, 4, 0, 4, 4, 4, 4, 4, 0] l2), .ce (.int .i64 m), .ce (.int .i64 i), .ce (.sl false [4, 4, 4] q), .ce (.int .i64 (q.length : Int)), .ce (.int .i64 (x.2 : Int))], [[.int .i64 z0, .int .i64 z1, .int .i64 z2, .sl true [4, 4, 4, 4, 4, 4, 4] zs, .sl true [4, 4, 4] zm], [.int .i64 x.1.1.s0, .int .i64 x.1.1.s1, .int .i64 x.1.1.s2, .sl true [4, 4, 4, 4, 4, 4, 4] x.1.1.sg, .sl true [4, 4, 4] x.1.1.mks], [.int .i64 x.1.1.a0, .int .i64 x.1.1.a1, .int .i64 x.1.1.a2], [.int .i64 k0, .int .i64 bk, .int .i64 f0, .int .i64 f1, .int .i64 f2, .int .i64 t0, .int .i64 t1, .int .i64 t2, .int .i64 pl, .int .i64 c0, .int .i64 c1, .int .i64 c2, .int .i64 dr, .bool fu, .int .i64 fd, .bool pr, .int .i64 sd, .int .i64 ra, .int .i64 bl, .int .i64 nn, .int .i64 sp, .bool on], [.int .i64 x.1.2.1, .int .i64 x.1.2.2.1, .int .i64 x.1.2.2.2.1, .int .i64 x.1.2.2.2.2, .int .i64 g4, .int .i64 g5, .int .i64 g6]]))
  (fun x => q.length - x.2) (fun x => x.2 <= q.length /\ okB (sg.length + x.2) x.1.1 /\ x.1.1.s0 = s0 /\ x.1.1.s1 = s1 /\ x.1.1.s2 = s2 /\ x.1.1.mks = mk) ?_ ((⟨a0, a1, a2, n, s0, s1, s2, sg, mk, -1, false⟩, g0, g1, g2, g3), 0) ?_
 . rintro ⟨⟨⟨a0, a1, a2, n, u0, u1, u2, sg', mk', fr, bg'⟩, g0, g1, g2, g3⟩, j⟩ ⟨hj, hok, e0, e1, e2, e3⟩ K hn hx _
   dsimp only at hj hok e0 e1 e2 e3 hn ⊢
   subst e0 e1 e2 e3
   have hl := hok.2.2.2.2.2.1
   have hlen : sg'.length <= 355000 := by have := h5.2.2.2.2.2.1; dsimp only at this hl; omega
   refine byVB (vbB1 r n s ix m i q.length j z0 z1 z2 u0 u1 u2 a0 a1 a2 g0 g1 g2 g3 g4 g5 g6 k0 bk f0 f1 f2 t0 t1 t2 pl c0 c1 c2 dr fd sd ra bl nn sp fu pr on bg l l2 q zs zm sg' mk' K) ⟨fun g => ?_, fun g => ?_⟩
   . have g := of_decide_eq_true g
     have hjq : j < q.length := by omega
     have ht : Int.toNat (j : Int) = j := rfl
     rw [ht]
     have pj := h4 j hjq
     have pj : b3 32768 (el q j) (ec q j 1) (ec q j 2) := pj
     have step : ∀ y : Int, y = (j : Int) + 1 -> y = ((j + 1 : Nat) : Int) := fun y e => by omega
     refine ⟨by omega, fun _ => ⟨by omega, fun x1 e1 => ?_⟩, fun gne => ⟨⟨b3_mono (by decide) hok.1, b3_mono (by decide) pj⟩, isLen_ex _ _ _ _ _ _, fun x hx2 => ⟨⟨show (sg'.length + 1) * 56 <= 140737488355328 by omega, by unfold maxLen; omega⟩, ?_⟩⟩⟩
     . rw [step x1 e1]
       exact hn ((⟨a0, a1, a2, n, u0, u1, u2, sg', mk', fr, bg'⟩, g0, g1, g2, g3), j + 1) ⟨hjq, okB_mono (by omega) hok, rfl, rfl, rfl, rfl⟩ (by dsimp only; omega)
     . have ne : ¬ (el q j = a0 /\ ec q j 1 = a1 /\ ec q j 2 = a2) := fun hh => by
        rw [hh.1, hh.2.1, hh.2.2] at gne
        simp at gne
       have nb : 0 <= n /\ n <= 4503599627370496 := okB_n hok (by show sg'.length <= 355000; exact hlen)
       have xb := hx2.2.2.2 65536 (by decide) (by have hb : b3 32768 a0 a1 a2 := hok.1; unfold b3 at hb pj ⊢; omega)
       have x0 : -x <= x := by have := hx2.1; omega
       refine ⟨by omega, fun x3 e3 => ⟨fun gg => ?_, fun _ => ⟨by omega, fun x4 e4 => ?_⟩⟩⟩
       . have gg := of_decide_eq_true gg
         simp at gg
         omega
       . rw [step x4 e4, e3]
         exact hn ((⟨el q j, ec q j 1, ec q j 2, n + x, u0, u1, u2, sg' ++ [[el q j, ec q j 1, ec q j 2, x, g4, g5, g6]], mk', fr, bg'⟩, el q j, ec q j 1, ec q j 2, x), j + 1) ⟨hjq, okB_step hok pj ne hx2, rfl, rfl, rfl, rfl⟩ (by dsimp only; omega)
   . have g := of_decide_eq_false g
     exact hx _ _ (hq (⟨a0, a1, a2, n, u0, u1, u2, sg', mk', fr, bg'⟩, g0, g1, g2, g3) ⟨okB_mono (by omega) hok, rfl, rfl, rfl, rfl⟩)
 . exact ⟨Nat.zero_le _, ⟨h5.1, h5.2.1, h5.2.2.1, h5.2.2.2.1, h5.2.2.2.2.1, Nat.le_refl _, h5.2.2.2.2.2.2⟩, rfl, rfl, rfl, rfl⟩
end
open Go Go.HL U
def SBuild (hA : List HV) (pA : List (List HC)) : SR :=
 match hA, pA with
 | [.ce (.sl false ks l)], [] => bif ksEq ks [4, 4, 4, 4, 4, 4, 4, 4, 4, 4, 4, 4, 4, 0, 4, 0, 4, 4, 4, 4, 4, 0] then .all (niceL l /\ l.length <= 5) (BSt × Int) (fun x => okB 355000 x.1) (fun x => ⟨.tup [.agg [.int .i64 x.1.s0, .int .i64 x.1.s1, .int .i64 x.1.s2, .sl false [4, 4, 4, 4, 4, 4, 4] x.1.sg, .sl false [4, 4, 4] x.1.mks], .ce (.int .i64 x.2)], false, [], []⟩) else .fail
 | _, _ => .fail
def SPath (hA : List HV) (pA : List (List HC)) : SR :=
 match hA, pA with
 | [.ce (.sl false [4] l), .ce (.int .i64 m)], [] => .all (0 <= m /\ m <= 5 /\ l.length <= 9223372036854775807) BSt (fun x => okPath x.s0 x.s1 x.s2 x.sg x.mks) (fun x => ⟨.agg [.int .i64 x.s0, .int .i64 x.s1, .int .i64 x.s2, .sl false [4, 4, 4, 4, 4, 4, 4] x.sg, .sl false [4, 4, 4] x.mks], false, [], []⟩)
 | _, _ => .fail
def tabPath : List (FuncId × HL.Spec) := [(63, SMots), (62, SBuild)]
noncomputable def CPath : Ctx := ⟨Tryz.prog, gam tabPath, Tryz.f36.ntmps, [], []⟩
theorem vcPath (l : List (List Int)) (m : Int) (Q : Res -> Prop) : (nfun true CPath Tryz.f36 (bodyOf Tryz.f36) [.ce (.sl false [4] l), .ce (.int .i64 m)] [] Q) =
 ((0 <= m /\ m <= 5 /\ l.length <= 9223372036854775807) /\ (∃ (x : List (List Int)), niceL x /\ x.length <= 5) /\ ∀ (x : List (List Int)), niceL x /\ x.length <= 5 -> (niceL x /\ x.length <= 5) /\ (∃ (x : BSt × Int), okB (355000 : Nat) x.1) /\ ∀ (x : BSt × Int), okB (355000 : Nat) x.1 -> Q ⟨.agg [.int .i64 x.1.s0, .int .i64 x.1.s1, .int .i64 x.1.s2, .sl false [4, 4, 4, 4, 4, 4, 4] x.1.sg, .sl false [4, 4, 4] x.1.mks], false, [], []⟩) := by kernel_rfl
end Go.Proofs.YtneingpnkdeooaaGreat
namespace U
open Go
theorem bTail {l : List (List Int)} {i fr a0 a1 a2 n s0 s1 s2 : Int} {sg mk : List (List Int)} {j : Nat} {G1 G2 : (BSt × Int × Int × Int × Int) -> Int -> Int -> Prop}
 (hi : i = j) (hj : j < l.length) (hfr : -1 <= fr /\ fr < (l.length : Int)) (hn : niceL l) (hl : l.length <= 5) (hok : okB (71000 * j) ⟨a0, a1, a2, n, s0, s1, s2, sg, mk, -1, false⟩) (hmk : mk.length <= j)
 (fin1 : ∀ x : (BSt × Int × Int × Int × Int), okB (71000 * (j + 1)) x.1 -> x.1.mks.length <= j -> ∀ q y : Int, y = ((j + 1 : Nat) : Int) -> G1 x q y)
 (fin2 : ∀ x : (BSt × Int × Int × Int × Int), okB (71000 * (j + 1)) x.1 -> x.1.mks.length <= j -> ∀ q y : Int, y = ((j + 1 : Nat) : Int) -> G2 x q y) :
 ((0 <= i /\ i < ((l.length : Nat) : Int)) /\ (-1 <= fr /\ fr < ((l.length : Nat) : Int)) /\ niceL l /\ l.length <= 5) /\ (∃ (x : List (List Int) × Bool), List.length x.1 <= 71000 /\ ptsOK 32768 x.1) /\
 ∀ (x : List (List Int) × Bool), List.length x.1 <= 71000 /\ ptsOK 32768 x.1 ->
 ((((List.length x.1) : Nat) : Int) = (((List.length x.1) : Nat) : Int) /\ (0 : Int) = 0 /\ List.length x.1 <= 71000 /\ ptsOK 32768 x.1 /\ okB 284000 { a0 := a0, a1 := a1, a2 := a2, n := n, s0 := s0, s1 := s1, s2 := s2, sg := sg, mks := mk, fr := -1, bg := false }) /\
 ∀ (x : BSt × Int × Int × Int × Int), okB (List.length sg + 71000) x.1 /\ x.1.s0 = s0 /\ x.1.s1 = s1 /\ x.1.s2 = s2 /\ x.1.mks = mk ->
 ((0 <= i /\ i < ((l.length : Nat) : Int)) /\ niceL l /\ l.length <= 5) /\ (∃ (x : Int), -1 <= x /\ x < ((l.length : Nat) : Int)) /\
 ∀ (x_1 : Int), -1 <= x_1 /\ x_1 < ((l.length : Nat) : Int) -> (decide (x_1 >= 0) = true ->
 ((0 <= i /\ i < ((l.length : Nat) : Int)) /\ niceL l /\ l.length <= 5) /\ (∃ (x : Int), True) /\
 ∀ (x_2 : Int), True ->
 ((List.length x.1.mks + 1) * 24 <= 140737488355328 /\ List.length x.1.mks + 1 <= maxLen) /\ (-9223372036854775808 <= i + 1 /\ i + 1 <= 9223372036854775807) /\
 ∀ (y : Int), y = i + 1 -> G1 x x_2 y) /\ (decide (x_1 >= 0) = false ->
 ((0 <= i /\ i < ((l.length : Nat) : Int)) /\ niceL l /\ l.length <= 5) /\ (∃ (x : Int), True) /\
 ∀ (x_2 : Int), True ->
 ((List.length x.1.mks + 1) * 24 <= 140737488355328 /\ List.length x.1.mks + 1 <= maxLen) /\ (-9223372036854775808 <= i + 1 /\ i + 1 <= 9223372036854775807) /\
 ∀ (y : Int), y = i + 1 -> G2 x x_2 y) := by
 have hsg : sg.length <= 71000 * j := hok.2.2.2.2.2.1
 have hi2 : 0 <= i /\ i < ((l.length : Nat) : Int) := by omega
 refine ⟨⟨hi2, hfr, hn, hl⟩, ⟨([], false), by simp, fun j hj => by simp at hj⟩, fun x hx => ⟨⟨rfl, rfl, hx.1, hx.2, okB_mono (by omega) hok⟩, fun x ⟨ho, _, _, _, em⟩ => ⟨⟨hi2, hn, hl⟩, ⟨0, by omega⟩, fun x1 _ => ?_⟩⟩⟩
 have ho' : okB (71000 * (j + 1)) x.1 := okB_mono (by omega) ho
 have hm' : x.1.mks.length <= j := by rw [em]; exact hmk
 exact ⟨fun _ => ⟨⟨hi2, hn, hl⟩, ⟨0, trivial⟩, fun q _ => ⟨⟨by omega, by unfold maxLen; omega⟩, by omega, fun y e => fin1 x ho' hm' q y (by omega)⟩⟩,
  fun _ => ⟨⟨hi2, hn, hl⟩, ⟨0, trivial⟩, fun q _ => ⟨⟨by omega, by unfold maxLen; omega⟩, by omega, fun y e => fin2 x ho' hm' q y (by omega)⟩⟩⟩
theorem okB_mks {m : Nat} {x : BSt} {mk : List (List Int)} {fr : Int} {bg : Bool} (h : okB m x) (hm : mk.length <= 10) : okB m ⟨x.a0, x.a1, x.a2, x.n, x.s0, x.s1, x.s2, x.sg, mk, fr, bg⟩ := ⟨h.1, h.2.1, h.2.2.1, h.2.2.2.1, h.2.2.2.2.1, h.2.2.2.2.2.1, hm⟩
theorem okSegs_nil (s0 s1 s2 : Int) : okSegs s0 s1 s2 [] := fun j hj => by simp at hj
theorem okB_zero (fr : Int) (bg : Bool) : okB 0 ⟨0, 0, 0, 0, 0, 0, 0, [], [], fr, bg⟩ := ⟨(by unfold b3; decide : b3 32768 0 0 0), (by unfold b3; decide : b3 32768 0 0 0), okSegs_nil _ _ _, ⟨rfl, rfl, rfl⟩, rfl, Nat.le_refl 0, (by decide : 0 <= 10)⟩
theorem okPath_len {s0 s1 s2 : Int} {sg mk : List (List Int)} (h : okPath s0 s1 s2 sg mk) : okLen sg := okLen_of h.2.1 h.2.2.1
theorem okPath_pts {s0 s1 s2 : Int} {sg mk : List (List Int)} (h : okPath s0 s1 s2 sg mk) : okPts s0 s1 s2 sg := by
 obtain ⟨hs, hg, _, _⟩ := h
 unfold b3 at hs
 refine ⟨by omega, by omega, by omega, fun j hj => ?_⟩
 have := (hg j hj).1
 unfold b3 at this
 omega
end U
namespace Go.Proofs.YtneingpnkdeooaaGreat
open Go Go.HL U
attribute [local irreducible] hfun bodyT fragT
theorem sOther : Sound Tryz.prog 86 SOther := by
 refine sound_of (C := COther) [] Tryz.func86 (by kernel_rfl) (by decide +kernel) (by kernel_rfl) rfl trivial (loops0 (by kernel_rfl)) ?_
 intro hA pA R h
 unfold SOther at h
 split at h
 case h_2 => exfalso; exact h
 rename_i k0 bk f0 f1 f2 t0 t1 t2 pl c0 c1 c2 dr fu fd pr sd ra bl nn sp on
 obtain ⟨_, _, hR⟩ := h
 exact byVC (vcOther k0 bk f0 f1 f2 t0 t1 t2 pl c0 c1 c2 dr fd sd ra bl nn sp fu pr on R) ⟨fun _ => hR _ trivial, fun _ => ⟨fun _ => hR _ trivial, fun _ => hR _ trivial⟩⟩
theorem fragK8 : ∀ v Q, (LK8 v).wp Q -> fragT CBuild anK8 (nthFrag CBuild Tryz.f62 0) v Q := by
 intro v Q h
 unfold LK8 at h
 split at h
 case h_2 => exact h.elim
 rename_i ks l r n s fr bg ix ks2 l2 m i rb pb ab ib
 cases hks : ksEq ks [4, 4, 4, 4, 4, 4, 4, 4, 4, 4, 4, 4, 4, 0, 4, 0, 4, 4, 4, 4, 4, 0]
 . rw [hks] at h; exact h.elim
 cases hks2 : ksEq ks2 [4, 4, 4, 4, 4, 4, 4, 4, 4, 4, 4, 4, 4, 0, 4, 0, 4, 4, 4, 4, 4, 0]
 . rw [hks, hks2] at h; exact h.elim
 rw [hks, hks2] at h
 obtain rfl := ksEq_eq hks
 obtain rfl := ksEq_eq hks2
 split at h
 case h_2 => exact h.elim
 split at h
 case h_2 => exact h.elim
 split at h
 case h_2 => exact h.elim
 split at h
 case h_2 => exact h.elim
 rename_i z0 z1 z2 zs zm _ s0 s1 s2 sg mk _ a0 a1 a2 _ k0 bk f0 f1 f2 t0 t1 t2 pl c0 c1 c2 dr fu fd pr sd ra bl nn sp on
 obtain ⟨hk, hq⟩ := h
 refine byVG (vgK8 r n s fr m i z0 z1 z2 s0 s1 s2 a0 a1 a2 ix bg k0 bk f0 f1 f2 t0 t1 t2 pl c0 c1 c2 dr fd sd ra bl nn sp fu pr on l l2 zs zm sg mk Q) ⟨fun g => (hk (by simpa using g)).elim, fun _ => hq⟩
set_option maxHeartbeats 2000000 in
theorem loopB0 : ∀ v Q, (LB0 v).wp Q -> hloop CBuild anB0 (nthLoop Tryz.f62 0) v Q := by
 intro v Q h
 unfold LB0 at h
 split at h
 case h_2 => exact h.elim
 rename_i ks l r n s fr bg ks2 l2 m i rb pb ab
 cases hks : ksEq ks [4, 4, 4, 4, 4, 4, 4, 4, 4, 4, 4, 4, 4, 0, 4, 0, 4, 4, 4, 4, 4, 0]
 . rw [hks] at h; exact h.elim
 cases hks2 : ksEq ks2 [4, 4, 4, 4, 4, 4, 4, 4, 4, 4, 4, 4, 4, 0, 4, 0, 4, 4, 4, 4, 4, 0]
 . rw [hks, hks2] at h; exact h.elim
 rw [hks, hks2] at h
 obtain rfl := ksEq_eq hks
 obtain rfl := ksEq_eq hks2
 split at h
 case h_2 => exact h.elim
 split at h
 case h_2 => exact h.elim
 split at h
 case h_2 => exact h.elim
 rename_i z0 z1 z2 zs zm _ s0 s1 s2 sg mk _ a0 a1 a2
 obtain ⟨⟨h1, h2, hn, hl, h3, h4, h5, h6, h7, hok⟩, hq⟩ := h
 obtain rfl := List.eq_nil_of_length_eq_zero h7
 subst h1 h2 h3 h4 h5 h6
 refine hloop_rec (σ := BSt × Nat) (fun x => ([.ce (.sl false [4, 4, 4, 4, 4, 4, 4, 4, 4, 4, 4, 4, 4, 0, 4, 0, 4, 4, 4, 4, 4, 0] l2), .ce (.ptr 1000002 0), .ce (.int .i64 r), .ce (.ptr 1000005 0), .ce (.ptr 1000006 0), .ce (.int .i64 x.1.n), .ce (.int .i64 0), .ce (.int .i64 x.1.fr), .ce (.bool x.1.bg), .ce (.sl false [4, 4, 4, 4, 4, 4, 4, 4, 4, 4, 4, 4, 4, 0, 4, 0, 4, 4, 4, 4, 4, 0] l2), .ce (.int .i64 (l2.length : Int)), .ce (.int .i64 (x.2 : Int))], [[.int .i64 z0, .int .i64 z1, .int .i64 z2, .sl true [4, 4, 4, 4, 4, 4, 4] zs, .sl true [4, 4, 4] zm], [.int .i64 x.1.s0, .int .i64 x.1.s1, .int .i64 x.1.s2, .sl true [4, 4, 4, 4, 4, 4, 4] x.1.sg, .sl true [4, 4, 4] x.1.mks], [.int .i64 x.1.a0, .int .i64 x.1.a1, .int .i64 x.1.a2]]))
  (fun x => l2.length - x.2) (fun x => x.2 <= l2.length /\ okB (71000 * x.2) x.1 /\ (-1 <= x.1.fr /\ x.1.fr < (l2.length : Int)) /\ x.1.mks.length <= x.2 /\ (x.1.bg = false -> x.1.sg = [])) ?_ (⟨a0, a1, a2, n, s0, s1, s2, sg, [], -1, false⟩, 0) ?_
 . rintro ⟨⟨a0, a1, a2, n, s0, s1, s2, sg, mk, fr, bg⟩, j⟩ ⟨hj, hok, hfr, hmk, hbg⟩ K hnx hx _
   dsimp only at hj hok hfr hmk hbg hnx ⊢
   refine byVB (vbB0 r n 0 fr l2.length j z0 z1 z2 s0 s1 s2 a0 a1 a2 bg l2 zs zm sg mk K) ⟨fun g => ?_, fun g => ?_⟩
   . have g := of_decide_eq_true g
     have hjl : j < l2.length := by omega
     have ht : Int.toNat (j : Int) = j := rfl
     rw [ht]
     obtain ⟨nk, nf, nt, _, _, nfd, _⟩ := hn j hjl
     have nk : 1 <= el l2 j /\ el l2 j <= 3 := nk
     refine ⟨by omega, by omega, by omega, fun x1 e1 => ⟨fun e => (by rw [e1] at e; cases e), fun _ => ⟨fun gb => ?_, fun gb => ?_⟩⟩⟩
     . have nf' : b3 1073741824 (ec l2 j 2) (ec l2 j 3) (ec l2 j 4) := b3_mono (by decide) nf
       refine ⟨nf', fun x4 e4 x5 e5 x6 e6 => ⟨nf', fun x7 e7 x8 e8 x9 e9 => ⟨⟨nfd, rfl⟩, ⟨0, by decide⟩, fun y hy => ⟨nk, fun x11 e11 => ⟨fun e => (by rw [e11] at e; cases e), fun _ => ?_⟩⟩⟩⟩⟩
       have hsg := hbg (by simpa using gb)
       subst hsg
       have ex : n = 0 := hok.2.2.2.2.1
       have b1 : b3 32768 x4 x5 x6 := by unfold b3 at nf ⊢; omega
       have b2 : x7 = x4 /\ x8 = x5 /\ x9 = x6 := by omega
       obtain ⟨rfl, rfl, rfl⟩ := b2
       have ho : okB (71000 * j) ⟨x7, x8, x9, n, x7, x8, x9, [], mk, -1, false⟩ := ⟨b1, b1, okSegs_nil _ _ _, ⟨rfl, rfl, rfl⟩, ex, Nat.zero_le _, by dsimp only; omega⟩
       exact bTail (fr := fr) (l := l2) rfl hjl hfr hn hl ho hmk
        (fun x ho' hm' q y e => by rw [e]; exact hnx (⟨x.1.a0, x.1.a1, x.1.a2, x.1.n, x.1.s0, x.1.s1, x.1.s2, x.1.sg, x.1.mks ++ [[x.1.n, q, (j : Int)]], (j : Int), true⟩, j + 1) ⟨hjl, okB_mks ho' (by simp; omega), ⟨by dsimp only; omega, by dsimp only; omega⟩, by simp; exact hm', fun e => by cases e⟩ (by dsimp only; omega))
        (fun x ho' hm' q y e => by rw [e]; exact hnx (⟨x.1.a0, x.1.a1, x.1.a2, x.1.n, x.1.s0, x.1.s1, x.1.s2, x.1.sg, x.1.mks ++ [[x.1.n, q, (j : Int)]], -1, true⟩, j + 1) ⟨hjl, okB_mks ho' (by simp; omega), ⟨by dsimp only; omega, by dsimp only; omega⟩, by simp; exact hm', fun e => by cases e⟩ (by dsimp only; omega))
     . have hb : bg = true := by simpa using gb
       subst hb
       refine ⟨⟨nfd, rfl⟩, ⟨0, by decide⟩, fun y hy => ⟨nk, fun x11 e11 => ⟨fun e => (by rw [e11] at e; cases e), fun _ => ?_⟩⟩⟩
       exact bTail (fr := fr) (l := l2) rfl hjl hfr hn hl hok hmk
        (fun x ho' hm' q y e => by rw [e]; exact hnx (⟨x.1.a0, x.1.a1, x.1.a2, x.1.n, x.1.s0, x.1.s1, x.1.s2, x.1.sg, x.1.mks ++ [[x.1.n, q, (j : Int)]], (j : Int), true⟩, j + 1) ⟨hjl, okB_mks ho' (by simp; omega), ⟨by dsimp only; omega, by dsimp only; omega⟩, by simp; exact hm', fun e => by cases e⟩ (by dsimp only; omega))
        (fun x ho' hm' q y e => by rw [e]; exact hnx (⟨x.1.a0, x.1.a1, x.1.a2, x.1.n, x.1.s0, x.1.s1, x.1.s2, x.1.sg, x.1.mks ++ [[x.1.n, q, (j : Int)]], -1, true⟩, j + 1) ⟨hjl, okB_mks ho' (by simp; omega), ⟨by dsimp only; omega, by dsimp only; omega⟩, by simp; exact hm', fun e => by cases e⟩ (by dsimp only; omega))
   . have g := of_decide_eq_false g
     exact hx _ _ (hq ⟨a0, a1, a2, n, s0, s1, s2, sg, mk, fr, bg⟩ (okB_mono (by omega) hok))
 . exact ⟨Nat.zero_le _, hok, ⟨by dsimp only; omega, by dsimp only; omega⟩, Nat.zero_le _, fun _ => by have := hok.2.2.2.2.2.1; exact List.eq_nil_of_length_eq_zero (by dsimp only at this ⊢; omega)⟩
theorem sBuild : Sound Tryz.prog 62 SBuild := by
 refine sound_of (C := CBuild) tabBuild Tryz.func62 (by kernel_rfl) (by decide +kernel) (by kernel_rfl) rfl ⟨sCheck, sMotion, sOther, sFine, sRate, sSync, sPoints, sLength, sSoft, sKind, trivial⟩ (loopsG [nthLoop Tryz.f62 0, nthLoop Tryz.f62 1] [nthFrag CBuild Tryz.f62 0] (by kernel_rfl) (by kernel_rfl) ⟨loopOK_of (an := anB0) (S := LB0) (by kernel_rfl) loopB0, loopOK_of (an := anB1) (S := LB1) (by kernel_rfl) loopB1, trivial⟩ ⟨fragOK_of (an := anK8) (S := LK8) (by kernel_rfl) fragK8, trivial⟩) ?_
 intro hA pA R h
 unfold SBuild at h
 split at h
 case h_2 => exfalso; exact h
 rename_i ks l
 cases hks : ksEq ks [4, 4, 4, 4, 4, 4, 4, 4, 4, 4, 4, 4, 4, 0, 4, 0, 4, 4, 4, 4, 4, 0]
 . rw [hks] at h; exact h.elim
 rw [hks] at h
 obtain rfl := ksEq_eq hks
 obtain ⟨⟨hn, hl⟩, _, hR⟩ := h
 exact byVC (vcBuild l R) ⟨⟨hn, hl⟩, ⟨0, trivial⟩, fun x _ => ⟨fun _ => hR (⟨0, 0, 0, 0, 0, 0, 0, [], [], -1, false⟩, x) (okB_mono (by decide) (okB_zero _ _)),
  fun _ => ⟨⟨rfl, rfl, hn, hl, rfl, rfl, rfl, rfl, rfl, okB_zero _ _⟩, fun x hx => hR (x, 0) hx⟩⟩⟩
theorem sPath : Sound Tryz.prog 36 SPath := by
 refine sound_of (C := CPath) tabPath Tryz.func36 (by kernel_rfl) (by decide +kernel) (by kernel_rfl) rfl ⟨sMots, sBuild, trivial⟩ (loops0 (by kernel_rfl)) ?_
 intro hA pA R h
 unfold SPath at h
 split at h
 case h_2 => exfalso; exact h
 rename_i l m
 obtain ⟨⟨h1, h2, h3⟩, _, hR⟩ := h
 exact byVC (vcPath l m R) ⟨⟨h1, h2, h3⟩, ⟨[], fun j hj => by simp at hj, by decide⟩, fun x hx => ⟨hx, ⟨(⟨0, 0, 0, 0, 0, 0, 0, [], [], -1, false⟩, 0), okB_mono (by decide) (okB_zero _ _)⟩,
  fun y hy => hR y.1 ⟨hy.2.1, hy.2.2.1, hy.2.2.2.2.2.1, hy.2.2.2.2.2.2⟩⟩⟩
end Go.Proofs.YtneingpnkdeooaaGreat
namespace U
open Go
def mtr (st og sg : Int) (pt : List (List Int)) (bl s : Int) (sgs : List (List Int)) (c : Nat) (pk : List (List Int)) (sa d : Int) (u : Int) : Int := tmot st og sg pt bl (ptAt s sgs c (tplace pk sa u)) pk d u c
def okT (pk : List (List Int)) (ln : Int) : Prop :=
 (pk.length = 0 -> ln = 0) /\ (0 < pk.length -> ec pk 0 0 = 0 /\ endp pk (pk.length - 1) = ln) /\
 (∀ j, j + 1 < pk.length -> ec pk (j + 1) 0 = endp pk j) /\ ∀ j, j < pk.length -> 1 <= ec pk j 1 /\ (0 <= ec pk j 2 /\ ec pk j 2 <= 18014398509481984) /\ (-1 <= ec pk j 3 /\ ec pk j 3 <= 1)
theorem tadd_okT {pk : List (List Int)} {ln q0 q1 q2 q3 q4 q5 q6 q7 q8 q9 : Int} (h : okT pk ln) (h1 : 1 <= q1) (h2 : 0 <= q2 /\ q2 <= 18014398509481984) (h3 : -1 <= q3 /\ q3 <= 1) : okT (tadd pk ln [q0, q1, q2, q3, q4, q5, q6, q7, q8, q9]).1 (tadd pk ln [q0, q1, q2, q3, q4, q5, q6, q7, q8, q9]).2 := by
 obtain ⟨a1, a2, a3, a4⟩ := h
 by_cases hc : 0 < pk.length /\ q3 ≠ 0 /\ ec pk (pk.length - 1) 3 = q3 /\ ec pk (pk.length - 1) 7 = q7 /\ ec pk (pk.length - 1) 8 = q8 /\ ec pk (pk.length - 1) 9 = q9
 . rw [tadd_more hc]
   have hp := hc.1
   have es : ∀ j c, ec (pk.set (pk.length - 1) (more (pk.getD (pk.length - 1) []) q1)) j c = if pk.length - 1 = j then (more (pk.getD (pk.length - 1) []) q1).getD c 0 else ec pk j c := fun j c => ec_set _ _ _ _ _ (by omega)
   have m0 : (more (pk.getD (pk.length - 1) []) q1).getD 0 0 = ec pk (pk.length - 1) 0 := rfl
   have m1 : (more (pk.getD (pk.length - 1) []) q1).getD 1 0 = ec pk (pk.length - 1) 1 + q1 := rfl
   have m2 : (more (pk.getD (pk.length - 1) []) q1).getD 2 0 = ec pk (pk.length - 1) 2 := rfl
   have m3 : (more (pk.getD (pk.length - 1) []) q1).getD 3 0 = ec pk (pk.length - 1) 3 := rfl
   have b2 := a2 hp
   refine ⟨fun h => ?_, fun _ => ⟨?_, ?_⟩, fun j hj => ?_, fun j hj => ?_⟩
   . dsimp only at h; rw [List.length_set] at h; omega
   . dsimp only; rw [es]
     split
     . rename_i e; rw [m0, e]; exact b2.1
     . exact b2.1
   . dsimp only; rw [List.length_set]
     unfold endp at b2 ⊢
     rw [es, es, if_pos rfl, if_pos rfl, m0, m1]
     omega
   . dsimp only at hj ⊢; rw [List.length_set] at hj
     unfold endp
     rw [es, es, es, if_neg (show ¬ pk.length - 1 = j by omega), if_neg (show ¬ pk.length - 1 = j by omega)]
     have := a3 j hj
     unfold endp at this
     split
     . rename_i e; rw [m0, e]; exact this
     . exact this
   . dsimp only at hj ⊢; rw [List.length_set] at hj
     rw [es, es, es]
     have := a4 j hj
     split
     . rename_i e; subst e; rw [m1, m2, m3]; omega
     . exact this
 . rw [tadd_app hc]
   have es : ∀ j c, ec (pk ++ [[ln, q1, q2, q3, q4, q5, q6, q7, q8, q9]]) j c = if j < pk.length then ec pk j c else ec [[ln, q1, q2, q3, q4, q5, q6, q7, q8, q9]] (j - pk.length) c := fun j c => ec_app _ _ _ _
   refine ⟨fun h => ?_, fun _ => ⟨?_, ?_⟩, fun j hj => ?_, fun j hj => ?_⟩
   . simp at h
   . dsimp only; rw [es]
     split
     . rename_i e; exact (a2 e).1
     . rename_i e
       have e0 : pk.length = 0 := by omega
       rw [e0]; show ln = 0
       exact a1 e0
   . dsimp only; rw [List.length_append]
     have e0 : pk.length + ([[ln, q1, q2, q3, q4, q5, q6, q7, q8, q9]] : List (List Int)).length - 1 = pk.length := by simp
     rw [e0]
     unfold endp
     rw [es, es, if_neg (by omega), if_neg (by omega), Nat.sub_self]
     show ln + q1 = ln + q1
     rfl
   . dsimp only at hj ⊢; rw [List.length_append] at hj
     have hj : j + 1 < pk.length + 1 := hj
     unfold endp
     rw [es, es, es, if_pos (show j < pk.length by omega), if_pos (show j < pk.length by omega)]
     split
     . rename_i e; have := a3 j e; unfold endp at this; exact this
     . rename_i e
       have hjl : j = pk.length - 1 := by omega
       have b2 := (a2 (by omega)).2
       unfold endp at b2
       rw [show j + 1 - pk.length = 0 by omega, hjl, b2]
       rfl
   . dsimp only at hj ⊢; rw [List.length_append] at hj
     have hj : j < pk.length + 1 := hj
     rw [es, es, es]
     split
     . rename_i e; exact a4 j e
     . rw [show j - pk.length = 0 by omega]
       exact ⟨h1, h2, h3⟩
theorem okT_seg {s0 s1 s2 : Int} {sg : List (List Int)} {b0 b1 b2 f t m : Int} {x : LegS} {i : Int} (hf : 0 <= f /\ f <= 18014398509481984) (ht : 0 <= t /\ t <= 18014398509481984) (hm : m = 1 ∨ m = -1) (h : okT x.pk x.ln) :
 okT (legSeg s0 s1 s2 sg b0 b1 b2 f t m x i).pk (legSeg s0 s1 s2 sg b0 b1 b2 f t m x i).ln := by
 unfold legSeg
 have hlow : 0 <= legLow x.bg (legE sg m x.bg i) f t := by unfold legLow; omega
 have hhigh : legHigh x.bg (legE sg m x.bg i) f t <= 18014398509481984 := by unfold legHigh; omega
 generalize legLow x.bg (legE sg m x.bg i) f t = low at *
 generalize legHigh x.bg (legE sg m x.bg i) f t = high at *
 unfold legPut
 split
 . rename_i hlh
   dsimp only
   have hs : 0 <= legS m low high /\ legS m low high <= 18014398509481984 := by unfold legS; split <;> omega
   refine tadd_okT ?_ (by omega) hs (by omega)
   unfold legTk
   split
   . exact tadd_okT h (by omega) hs (by omega)
   . exact h
 . exact h
theorem okT_all {s0 s1 s2 : Int} {sg : List (List Int)} {b0 b1 b2 f t m : Int} {x : LegS} (hf : 0 <= f /\ f <= 18014398509481984) (ht : 0 <= t /\ t <= 18014398509481984) (hm : m = 1 ∨ m = -1) (h : okT x.pk x.ln) :
 ∀ k, okT (legK s0 s1 s2 sg b0 b1 b2 f t m x k).pk (legK s0 s1 s2 sg b0 b1 b2 f t m x k).ln
 | 0 => h
 | k + 1 => okT_seg hf ht hm (okT_all hf ht hm h k)
theorem leg_ok {s0 s1 s2 : Int} {sg : List (List Int)} {b0 b1 b2 d0 d1 d2 f t : Int} (hl : okLen sg) (hb : okB3 b0 b1 b2) (hf : 0 <= f /\ f <= plen sg) (ht : 0 <= t /\ t <= plen sg) :
 okTrk (leg s0 s1 s2 sg b0 b1 b2 d0 d1 d2 f t).pk (leg s0 s1 s2 sg b0 b1 b2 d0 d1 d2 f t).ln := by
 have hp := plen_le hl
 have hl1 := hl.1
 unfold leg
 have hm : legM f t = 1 ∨ legM f t = -1 := by unfold legM; split <;> omega
 have hbg : (legM f t = 1 -> (if legM f t < 0 then plen sg else 0) = plen (sg.take 0)) /\ (legM f t = -1 -> (if legM f t < 0 then plen sg else 0) = plen (sg.take (sg.length - 0))) := by
  refine ⟨fun e => ?_, fun e => ?_⟩
  . rw [e]; rfl
  . rw [e, if_pos (by decide)]; simp
 generalize legM f t = m at *
 generalize (if m < 0 then plen sg else 0) = bg at *
 have J := legJ_all (s0 := s0) (s1 := s1) (s2 := s2) (f := f) (t := t) (x := ⟨[], 0, d0, d1, d2, bg⟩) hl hb hm ⟨⟨Int.le_refl _, by dsimp only; omega⟩, by simp, fun j hj => by simp at hj, hbg.1, hbg.2⟩ sg.length (Nat.le_refl _)
 have T := okT_all (s0 := s0) (s1 := s1) (s2 := s2) (sg := sg) (b0 := b0) (b1 := b1) (b2 := b2) (f := f) (t := t) (m := m) (x := ⟨[], 0, d0, d1, d2, bg⟩) (by omega) (by omega) hm ⟨fun _ => rfl, fun h => by simp at h, fun j hj => by simp at hj, fun j hj => by simp at hj⟩ sg.length
 exact ⟨by have := J.2.1; omega, by have := J.1; omega, T.1, T.2.1, T.2.2.1, T.2.2.2⟩
theorem at_le {pk : List (List Int)} {ln u : Int} (h : okTrk pk ln) (hu : 0 <= u) {j : Nat} (hj : j < pk.length) (hk : ∀ k, k < j -> endp pk k < u) : ec pk j 0 <= u := by
 cases j with
 | zero => have := (h.2.2.2.1 (by omega)).1; omega
 | succ i =>
  have := hk i (by omega)
  have := h.2.2.2.2.1 i hj
  omega
end U
namespace Go.Proofs.YtneingpnkdeooaaGreat
section
open Go Go.HL U
attribute [local irreducible] hfun bodyT fragT
theorem mtr_bd {st og sg : Int} {pt : List (List Int)} {bl s : Int} {sgs : List (List Int)} {c : Nat} {pk : List (List Int)} {ln sa d u : Int} (hl : okLen sgs) (h0 : -536870912 <= s /\ s <= 536870912)
 (hp : ∀ j, j < sgs.length -> -536870912 <= ec sgs j c /\ ec sgs j c <= 536870912) (ht : okTrk pk ln) (hm : okMA st og sg pt bl) (hu : 0 <= u /\ u <= ln) :
 -4398046511104 <= mtr st og sg pt bl s sgs c pk sa d u /\ mtr st og sg pt bl s sgs c pk sa d u <= 4398046511104 := by
 have p := ptAt_bd hl h0 hp (tplace pk sa u)
 have q := motr_bd hm.1.1 hm.2.1 (p := ptAt s sgs c (tplace pk sa u)) (by omega)
 unfold mtr tmot
 split
 . have := bsh_bd (d := d) hm.2.2
   omega
 . rcases tfind_spec ht hu.2 with ⟨h1, h2⟩ | ⟨j, h1, h2, h3, h4⟩
   . omega
   . have hj : (tfind pk u).toNat = j := by omega
     rw [hj]
     have := tsh_bd (mv := ec pk j 3) (w := ec pk j (4 + c)) (d := ec pk j (7 + c)) hm.2.2 (at_le ht hu.1 h1 h4)
     omega
end
open Go Go.HL U
def okR : Res := ⟨.ce (.bool true), false, [], []⟩
end Go.Proofs.YtneingpnkdeooaaGreat
namespace U
open Go
structure RunS where
 s0 : Int
 s1 : Int
 s2 : Int
 sg : List (List Int)
 mks : List (List Int)
 a : AxV
 b : AxV
 c : AxV
 d0 : Int
 d1 : Int
 d2 : Int
 f : Int
 t : Int
 pk : List (List Int)
 ln : Int
def RunS.L (x : RunS) : LegS := leg x.s0 x.s1 x.s2 x.sg x.a.bl x.b.bl x.c.bl x.d0 x.d1 x.d2 x.f x.t
def okRun (x : RunS) : Prop :=
 okPath x.s0 x.s1 x.s2 x.sg x.mks /\ okAx x.a /\ okAx x.b /\ okAx x.c /\ (pm x.d0 /\ pm x.d1 /\ pm x.d2) /\ (0 <= x.f /\ x.f <= plen x.sg) /\ (0 <= x.t /\ x.t <= plen x.sg) /\ x.pk = x.L.pk /\ x.ln = x.L.ln
open Go.HL in
def runC (x : RunS) : List HC := [.int .i64 x.s0, .int .i64 x.s1, .int .i64 x.s2, .sl false [4, 4, 4, 4, 4, 4, 4] x.sg, .sl false [4, 4, 4] x.mks, .int .i64 x.a.st, .int .i64 x.a.sp, .int .i64 x.a.ac, .int .i64 x.a.je, .int .i64 (-16777216), .int .i64 16777216, .int .i64 x.a.bl, .int .i64 x.a.og, .int .i64 x.a.sg, .sl false [4] x.a.pit, .int .i64 x.b.st, .int .i64 x.b.sp, .int .i64 x.b.ac, .int .i64 x.b.je, .int .i64 (-16777216), .int .i64 16777216, .int .i64 x.b.bl, .int .i64 x.b.og, .int .i64 x.b.sg, .sl false [4] x.b.pit, .int .i64 x.c.st, .int .i64 x.c.sp, .int .i64 x.c.ac, .int .i64 x.c.je, .int .i64 (-16777216), .int .i64 16777216, .int .i64 x.c.bl, .int .i64 x.c.og, .int .i64 x.c.sg, .sl false [4] x.c.pit, .sl false [4, 4, 4, 4, 4, 4, 4, 4, 4, 4] x.pk, .int .i64 x.ln, .int .i64 x.f, .int .i64 x.d0, .int .i64 x.d1, .int .i64 x.d2]
theorem okAx_MA {a : AxV} (h : okAx a) : okMA a.st a.og a.sg a.pit a.bl := by
 obtain ⟨h1, h2, h3, h4, h5, h6, h7, h8, h9, h10⟩ := h
 exact ⟨by omega, ⟨fun h => by have := h9 h; omega, by omega, by omega, by omega, h10.1⟩, by omega⟩
theorem tadd_ln (pk : List (List Int)) (ln : Int) (q : List Int) : (tadd pk ln q).2 = ln + q.getD 1 0 := by unfold tadd; split <;> rfl
theorem legStep_ln {s0 s1 s2 : Int} {sg : List (List Int)} {b0 b1 b2 f t m : Int} {x : LegS} {k : Nat} (hb : okB3 b0 b1 b2) (hm : m = 1 ∨ m = -1) (hk : k < sg.length) (hs : okSegs s0 s1 s2 sg) :
 (legStep s0 s1 s2 sg b0 b1 b2 f t m x k).ln <= x.ln + 135168 := by
 have hi := legI_bd (m := m) hk
 have hl := (hs (legI sg.length m k).toNat (by omega)).2.1
 unfold legStep legSeg legPut
 generalize legI sg.length m k = i at *
 generalize fc1 (bgn s0 sg 0 i) (ec sg i.toNat 0) m x.a0 = n0
 generalize fc1 (bgn s1 sg 1 i) (ec sg i.toNat 1) m x.a1 = n1
 generalize fc1 (bgn s2 sg 2 i) (ec sg i.toNat 2) m x.a2 = n2
 have hu := slk_bd hb x.a0 x.a1 x.a2 n0 n1 n2
 have hE : legE sg m x.bg i = x.bg + m * ec sg i.toNat 3 := rfl
 split
 . dsimp only
   rw [tadd_ln]
   have h2 : (legTk x.pk x.ln (slk b0 b1 b2 x.a0 x.a1 x.a2 n0 n1 n2) (legS m (legLow x.bg (legE sg m x.bg i) f t) (legHigh x.bg (legE sg m x.bg i) f t)) x.a0 x.a1 x.a2 n0 n1 n2).2 <= x.ln + 4096 := by
    unfold legTk
    split
    . rw [tadd_ln]
      show x.ln + slk b0 b1 b2 x.a0 x.a1 x.a2 n0 n1 n2 <= x.ln + 4096
      omega
    . show x.ln <= x.ln + 4096
      omega
   have h3 : legHigh x.bg (legE sg m x.bg i) f t - legLow x.bg (legE sg m x.bg i) f t <= 131072 := by
    unfold legHigh legLow
    rw [hE]
    rcases hm with rfl | rfl
    . omega
    . omega
   show _ + (legHigh x.bg (legE sg m x.bg i) f t - legLow x.bg (legE sg m x.bg i) f t) <= x.ln + 135168
   omega
 . show x.ln <= x.ln + 135168
   omega
theorem legK_ln {s0 s1 s2 : Int} {sg : List (List Int)} {b0 b1 b2 f t m : Int} {x : LegS} (hb : okB3 b0 b1 b2) (hm : m = 1 ∨ m = -1) (hs : okSegs s0 s1 s2 sg) : ∀ k, k <= sg.length ->
 (legK s0 s1 s2 sg b0 b1 b2 f t m x k).ln <= x.ln + 135168 * (k : Int)
 | 0, _ => by show x.ln <= x.ln + 135168 * ((0 : Nat) : Int); omega
 | k + 1, h => by
  have h1 := legK_ln (x := x) hb hm hs (f := f) (t := t) k (by omega)
  have h2 := legStep_ln (x := legK s0 s1 s2 sg b0 b1 b2 f t m x k) (f := f) (t := t) hb hm (show k < sg.length by omega) hs
  show (legStep s0 s1 s2 sg b0 b1 b2 f t m (legK s0 s1 s2 sg b0 b1 b2 f t m x k) k).ln <= _
  omega
theorem legM_pm (f t : Int) : legM f t = 1 ∨ legM f t = -1 := by unfold legM; split <;> omega
theorem leg_ln {s0 s1 s2 : Int} {sg : List (List Int)} {b0 b1 b2 d0 d1 d2 f t : Int} (hb : okB3 b0 b1 b2) (hs : okSegs s0 s1 s2 sg) (hl : sg.length <= 355000) : (leg s0 s1 s2 sg b0 b1 b2 d0 d1 d2 f t).ln <= 1099511627776 := by
 unfold leg
 have := legK_ln (x := ⟨[], 0, d0, d1, d2, if legM f t < 0 then plen sg else 0⟩) (f := f) (t := t) hb (legM_pm f t) hs sg.length (Nat.le_refl _)
 dsimp only at this
 omega
def trkPre (x : RunS) : Prop :=
 okLen x.sg /\ okPts x.s0 x.s1 x.s2 x.sg /\ okTrk x.pk x.ln /\ okMA x.a.st x.a.og x.a.sg x.a.pit x.a.bl /\ okMA x.b.st x.b.og x.b.sg x.b.pit x.b.bl /\ okMA x.c.st x.c.og x.c.sg x.c.pit x.c.bl /\ (0 <= x.f /\ x.f <= 18014398509481984)
theorem okRun_b3 {x : RunS} (h : okRun x) : okB3 x.a.bl x.b.bl x.c.bl := by
 obtain ⟨_, ha, hb, hc, _⟩ := h
 have := ha.2.2.2.2.1
 have := hb.2.2.2.2.1
 have := hc.2.2.2.2.1
 unfold okB3; omega
theorem okRun_pre {x : RunS} (h : okRun x) : trkPre x := by
 have hb := okRun_b3 h
 obtain ⟨hp, ha, hb', hc, hd, hf, ht, h1, h2⟩ := h
 have hl := okPath_len hp
 have hk := leg_ok (s0 := x.s0) (s1 := x.s1) (s2 := x.s2) (d0 := x.d0) (d1 := x.d1) (d2 := x.d2) hl hb hf ht
 have := plen_le hl
 refine ⟨hl, okPath_pts hp, ?_, okAx_MA ha, okAx_MA hb', okAx_MA hc, by omega⟩
 rw [h1, h2]; exact hk
theorem okRun_ln {x : RunS} (h : okRun x) : x.ln <= 1099511627776 := by
 rw [h.2.2.2.2.2.2.2.2]
 exact leg_ln (okRun_b3 h) h.1.2.1 h.1.2.2.1
theorem okPath_ex : ∃ x : BSt, okPath x.s0 x.s1 x.s2 x.sg x.mks := ⟨⟨0, 0, 0, 0, 0, 0, 0, [], [], -1, false⟩, by unfold b3; decide, okSegs_nil _ _ _, by decide, by decide⟩
def RunS.M0 (x : RunS) : Int -> Int := mtr x.a.st x.a.og x.a.sg x.a.pit x.a.bl x.s0 x.sg 0 x.pk x.f x.d0
def RunS.M1 (x : RunS) : Int -> Int := mtr x.b.st x.b.og x.b.sg x.b.pit x.b.bl x.s1 x.sg 1 x.pk x.f x.d1
def RunS.M2 (x : RunS) : Int -> Int := mtr x.c.st x.c.og x.c.sg x.c.pit x.c.bl x.s2 x.sg 2 x.pk x.f x.d2
end U
namespace Go.Proofs.YtneingpnkdeooaaGreat
open Go Go.HL U
theorem emod_bd {a n : Int} (h : 0 < n) : 0 <= a % n /\ a % n < n := ⟨Int.emod_nonneg _ (by omega), Int.emod_lt_of_pos _ h⟩
theorem M0_bd {x : RunS} (h : okRun x) (u : Int) (hu : 0 <= u /\ u <= x.ln) : -4398046511104 <= x.M0 u /\ x.M0 u <= 4398046511104 := by
 have p := okRun_pre h
 exact mtr_bd p.1 p.2.1.1 (fun j hj => (p.2.1.2.2.2 j hj).1) p.2.2.1 p.2.2.2.1 hu
theorem M1_bd {x : RunS} (h : okRun x) (u : Int) (hu : 0 <= u /\ u <= x.ln) : -4398046511104 <= x.M1 u /\ x.M1 u <= 4398046511104 := by
 have p := okRun_pre h
 exact mtr_bd p.1 p.2.1.2.1 (fun j hj => (p.2.1.2.2.2 j hj).2.1) p.2.2.1 p.2.2.2.2.1 hu
theorem M2_bd {x : RunS} (h : okRun x) (u : Int) (hu : 0 <= u /\ u <= x.ln) : -4398046511104 <= x.M2 u /\ x.M2 u <= 4398046511104 := by
 have p := okRun_pre h
 exact mtr_bd p.1 p.2.1.2.2.1 (fun j hj => (p.2.1.2.2.2 j hj).2.2) p.2.2.1 p.2.2.2.2.2.1 hu
theorem okRun_ln0 {x : RunS} (h : okRun x) : 0 <= x.ln := (okRun_pre h).2.2.1.2.1.1
attribute [local irreducible] hfun bodyT fragT
end Go.Proofs.YtneingpnkdeooaaGreat
namespace U
open Go
def tshf (pk : List (List Int)) (d bl u : Int) (c : Nat) : Int :=
 if tfind pk u < 0 then bsh bl d else tsh bl (ec pk (tfind pk u).toNat 3) (ec pk (tfind pk u).toNat (4 + c)) (ec pk (tfind pk u).toNat (7 + c)) (ec pk (tfind pk u).toNat 0) u
theorem mtr_shf (st og sg : Int) (pt : List (List Int)) (bl s : Int) (sgs : List (List Int)) (c : Nat) (pk : List (List Int)) (sa d u : Int) :
 mtr st og sg pt bl s sgs c pk sa d u = mot st og sg pt (ptAt s sgs c (tplace pk sa u)) + tshf pk d bl u c := rfl
def unitOK (s : Int) (sgs : List (List Int)) (c : Nat) (bl d f m : Int) (pk : List (List Int)) (u : Int) : Prop :=
 (tplace pk f u = tplace pk f (u - 1) /\ (-1 <= tshf pk d bl u c - tshf pk d bl (u - 1) c /\ tshf pk d bl u c - tshf pk d bl (u - 1) c <= 1) /\ (-bl <= tshf pk d bl u c /\ tshf pk d bl u c <= 0)) ∨
 (tplace pk f u = tplace pk f (u - 1) + m /\ (0 <= tplace pk f u /\ tplace pk f u <= plen sgs) /\ (0 <= tplace pk f (u - 1) /\ tplace pk f (u - 1) <= plen sgs) /\
  ∃ e, pm e /\ tshf pk d bl u c = bsh bl e /\ tshf pk d bl (u - 1) c = bsh bl e /\ 0 <= e * (ptAt s sgs c (tplace pk f u) - ptAt s sgs c (tplace pk f (u - 1))))
def legOK (s0 s1 s2 : Int) (sgs : List (List Int)) (b0 b1 b2 d0 d1 d2 f m : Int) (pk : List (List Int)) (ln p a0 a1 a2 : Int) : Prop :=
 okT pk ln /\ 0 <= ln /\ tplace pk f ln = p /\ tplace pk f 0 = f /\ (pm a0 /\ pm a1 /\ pm a2) /\
 (tshf pk d0 b0 ln 0 = bsh b0 a0 /\ tshf pk d1 b1 ln 1 = bsh b1 a1 /\ tshf pk d2 b2 ln 2 = bsh b2 a2) /\
 (tshf pk d0 b0 0 0 = bsh b0 d0 /\ tshf pk d1 b1 0 1 = bsh b1 d1 /\ tshf pk d2 b2 0 2 = bsh b2 d2) /\
 ∀ u, 1 <= u /\ u <= ln -> unitOK s0 sgs 0 b0 d0 f m pk u /\ unitOK s1 sgs 1 b1 d1 f m pk u /\ unitOK s2 sgs 2 b2 d2 f m pk u
end U
namespace Go.Proofs.YtneingpnkdeooaaGreat
open Go Go.HL U
theorem okT_end {pk : List (List Int)} {ln : Int} (h : okT pk ln) (hl : 0 <= ln) : (∀ j, j < pk.length -> 0 <= ec pk j 0 /\ endp pk j <= ln) /\ ∀ i j, i <= j -> j < pk.length -> endp pk i <= endp pk j := by
 obtain ⟨_, h2, h3, h4⟩ := h
 have mono : ∀ i n, i + n < pk.length -> endp pk i <= endp pk (i + n) := by
  intro i n
  induction n with
  | zero => intro _; exact Int.le_refl _
  | succ n ih =>
   intro hj
   have := ih (by omega)
   have e := h3 (i + n) (by omega)
   have u := (h4 (i + n + 1) (by omega)).1
   show endp pk i <= endp pk (i + n + 1)
   unfold endp at this e ⊢
   omega
 have mono2 : ∀ i j, i <= j -> j < pk.length -> endp pk i <= endp pk j := fun i j hij hj => by
  have := mono i (j - i) (by omega)
  rw [show i + (j - i) = j by omega] at this
  exact this
 refine ⟨fun j hj => ⟨?_, ?_⟩, mono2⟩
 . cases j with
   | zero => rw [(h2 (by omega)).1]; exact Int.le_refl _
   | succ i =>
    rw [h3 i hj]
    have := mono2 0 i (Nat.zero_le _) (by omega)
    have e0 := (h2 (by omega)).1
    have u0 := (h4 0 (by omega)).1
    unfold endp at this ⊢
    omega
 . have := mono2 j (pk.length - 1) (by omega) (by omega)
   rw [(h2 (by omega)).2] at this
   exact this
theorem okT_find {pk : List (List Int)} {ln u : Int} (h : okT pk ln) (hl : 0 <= ln) (hp : 0 < pk.length) (hu : 0 <= u /\ u <= ln) :
 ∃ j, j < pk.length /\ tfind pk u = (j : Int) /\ u <= endp pk j /\ (∀ k, k < j -> endp pk k < u) /\ ec pk j 0 <= u := by
 rcases tpcA_spec u pk 0 with ⟨_, hh⟩ | ⟨j, h1, h2, h3, h4⟩
 . have := hh (pk.length - 1) (by omega)
   have := (h.2.1 hp).2
   omega
 . refine ⟨j, h1, by unfold tfind; omega, h3, h4, ?_⟩
   cases j with
   | zero => rw [(h.2.1 hp).1]; exact hu.1
   | succ i => have := h4 i (by omega); rw [h.2.2.1 i h1]; omega
theorem find_app {pk : List (List Int)} {ln u : Int} {r : List Int} (h : okT pk ln) (hl : 0 <= ln) (hp : 0 < pk.length) (hu : 0 <= u /\ u <= ln) : tfind (pk ++ [r]) u = tfind pk u /\ ∀ c, ec (pk ++ [r]) (tfind pk u).toNat c = ec pk (tfind pk u).toNat c := by
 obtain ⟨j, h1, h2, h3, h4, _⟩ := okT_find h hl hp hu
 have e : ∀ k c, k < pk.length -> ec (pk ++ [r]) k c = ec pk k c := fun k c hk => by rw [ec_app, if_pos hk]
 have ee : ∀ k, k < pk.length -> endp (pk ++ [r]) k = endp pk k := fun k hk => by unfold endp; rw [e k 0 hk, e k 1 hk]
 refine ⟨?_, fun c => by rw [h2]; exact e j c h1⟩
 rw [h2]
 exact tfind_of (by rw [List.length_append]; omega) (by rw [ee j h1]; exact h3) (fun k hk => by rw [ee k (by omega)]; exact h4 k hk)
theorem find_new {pk : List (List Int)} {ln u U : Int} {r : List Int} (h : okT pk ln) (hl : 0 <= ln) (hr : r.getD 0 0 = ln) (hr1 : r.getD 1 0 = U) (hu : ln < u /\ u <= ln + U) : tfind (pk ++ [r]) u = (pk.length : Int) /\ ∀ c, ec (pk ++ [r]) pk.length c = r.getD c 0 := by
 have e : ∀ k c, k < pk.length -> ec (pk ++ [r]) k c = ec pk k c := fun k c hk => by rw [ec_app, if_pos hk]
 have el : ∀ c, ec (pk ++ [r]) pk.length c = r.getD c 0 := fun c => by rw [ec_app, if_neg (by omega), Nat.sub_self]; rfl
 have ee : ∀ k, k < pk.length -> endp (pk ++ [r]) k = endp pk k := fun k hk => by unfold endp; rw [e k 0 hk, e k 1 hk]
 refine ⟨tfind_of (by simp) (by unfold endp; rw [el, el, hr, hr1]; omega) (fun k hk => ?_), el⟩
 rw [ee k hk]
 have := ((okT_end h hl).1 k hk).2
 omega
theorem find_new0 {U : Int} {r : List Int} (hr : r.getD 0 0 = 0) (hr1 : r.getD 1 0 = U) (hU : 0 <= U) : tfind ([] ++ [r]) 0 = 0 /\ ∀ c, ec ([] ++ [r]) 0 c = r.getD c 0 := by
 refine ⟨?_, fun c => rfl⟩
 have := tfind_of (pk := [r]) (u := 0) (j := 0) (by simp) (by show 0 <= r.getD 0 0 + r.getD 1 0; omega) (fun k hk => by omega)
 exact this
theorem find_set {pk : List (List Int)} {ln u U : Int} (h : okT pk ln) (hl : 0 <= ln) (hp : 0 < pk.length) (hU : 0 <= U) (hu : 0 <= u /\ u <= ln) :
 tfind (pk.set (pk.length - 1) (more (pk.getD (pk.length - 1) []) U)) u = tfind pk u /\ ∀ c, c ≠ 1 -> c < 10 -> ec (pk.set (pk.length - 1) (more (pk.getD (pk.length - 1) []) U)) (tfind pk u).toNat c = ec pk (tfind pk u).toNat c := by
 obtain ⟨j, h1, h2, h3, h4, _⟩ := okT_find h hl hp hu
 have es : ∀ j c, ec (pk.set (pk.length - 1) (more (pk.getD (pk.length - 1) []) U)) j c = if pk.length - 1 = j then (more (pk.getD (pk.length - 1) []) U).getD c 0 else ec pk j c := fun j c => ec_set _ _ _ _ _ (by omega)
 have m : ∀ c, c ≠ 1 -> c < 10 -> (more (pk.getD (pk.length - 1) []) U).getD c 0 = ec pk (pk.length - 1) c := fun c hc hc2 => by
  have hc : c = 0 ∨ c = 2 ∨ c = 3 ∨ c = 4 ∨ c = 5 ∨ c = 6 ∨ c = 7 ∨ c = 8 ∨ c = 9 := by omega
  rcases hc with rfl | rfl | rfl | rfl | rfl | rfl | rfl | rfl | rfl <;> rfl
 have m1 : (more (pk.getD (pk.length - 1) []) U).getD 1 0 = ec pk (pk.length - 1) 1 + U := rfl
 have eq : ∀ k c, c ≠ 1 -> c < 10 -> ec (pk.set (pk.length - 1) (more (pk.getD (pk.length - 1) []) U)) k c = ec pk k c := fun k c hc hc2 => by
  rw [es]
  split
  . rename_i e; rw [m c hc hc2, e]
  . rfl
 have ee : ∀ k, k ≠ pk.length - 1 -> endp (pk.set (pk.length - 1) (more (pk.getD (pk.length - 1) []) U)) k = endp pk k := fun k hk => by
  unfold endp; rw [es, es, if_neg (fun e => hk e.symm), if_neg (fun e => hk e.symm)]
 have el : endp (pk.set (pk.length - 1) (more (pk.getD (pk.length - 1) []) U)) (pk.length - 1) = endp pk (pk.length - 1) + U := by
  unfold endp; rw [es, es, if_pos rfl, if_pos rfl, m 0 (by decide) (by decide), m1]; omega
 refine ⟨?_, fun c hc hc2 => by rw [h2]; exact eq j c hc hc2⟩
 rw [h2]
 refine tfind_of (by rw [List.length_set]; exact h1) ?_ (fun k hk => by rw [ee k (by omega)]; exact h4 k hk)
 by_cases hj : j = pk.length - 1
 . subst hj; rw [el]; omega
 . rw [ee j hj]; exact h3
theorem find_setn {pk : List (List Int)} {ln u U : Int} (h : okT pk ln) (hl : 0 <= ln) (hp : 0 < pk.length) (hu : ln < u /\ u <= ln + U) :
 tfind (pk.set (pk.length - 1) (more (pk.getD (pk.length - 1) []) U)) u = ((pk.length - 1 : Nat) : Int) /\ ∀ c, c ≠ 1 -> c < 10 -> ec (pk.set (pk.length - 1) (more (pk.getD (pk.length - 1) []) U)) (pk.length - 1) c = ec pk (pk.length - 1) c := by
 have es : ∀ j c, ec (pk.set (pk.length - 1) (more (pk.getD (pk.length - 1) []) U)) j c = if pk.length - 1 = j then (more (pk.getD (pk.length - 1) []) U).getD c 0 else ec pk j c := fun j c => ec_set _ _ _ _ _ (by omega)
 have m : ∀ c, c ≠ 1 -> c < 10 -> (more (pk.getD (pk.length - 1) []) U).getD c 0 = ec pk (pk.length - 1) c := fun c hc hc2 => by
  have hc : c = 0 ∨ c = 2 ∨ c = 3 ∨ c = 4 ∨ c = 5 ∨ c = 6 ∨ c = 7 ∨ c = 8 ∨ c = 9 := by omega
  rcases hc with rfl | rfl | rfl | rfl | rfl | rfl | rfl | rfl | rfl <;> rfl
 have m1 : (more (pk.getD (pk.length - 1) []) U).getD 1 0 = ec pk (pk.length - 1) 1 + U := rfl
 refine ⟨tfind_of (by rw [List.length_set]; omega) ?_ (fun k hk => ?_), fun c hc hc2 => by rw [es, if_pos rfl, m c hc hc2]⟩
 . have := (h.2.1 hp).2
   unfold endp at this ⊢
   rw [es, es, if_pos rfl, if_pos rfl, m 0 (by decide) (by decide), m1]
   omega
 . unfold endp
   rw [es, es, if_neg (by omega), if_neg (by omega)]
   have := ((okT_end h hl).1 k (by omega)).2
   unfold endp at this
   omega
theorem find_last {pk : List (List Int)} {ln : Int} (h : okT pk ln) (hl : 0 <= ln) (hp : 0 < pk.length) : tfind pk ln = ((pk.length - 1 : Nat) : Int) := by
 have he := (h.2.1 hp).2
 refine tfind_of (by omega) (by omega) (fun k hk => ?_)
 have e := h.2.2.1 (pk.length - 2) (by omega)
 rw [show pk.length - 2 + 1 = pk.length - 1 by omega] at e
 have := (okT_end h hl).2 k (pk.length - 2) (by omega) (by omega)
 have u := (h.2.2.2 (pk.length - 1) (by omega)).1
 unfold endp at he e this ⊢
 omega
theorem place_eq {pk pk' : List (List Int)} {u sa : Int} (h : tfind pk' u = tfind pk u) (e : ∀ c, c ≠ 1 -> c < 10 -> ec pk' (tfind pk u).toNat c = ec pk (tfind pk u).toNat c) : tplace pk' sa u = tplace pk sa u := by
 unfold tplace; rw [h, e 2 (by decide) (by decide), e 3 (by decide) (by decide), e 0 (by decide) (by decide)]
theorem shf_eq {pk pk' : List (List Int)} {u d bl : Int} {c : Nat} (hc : c < 3) (h : tfind pk' u = tfind pk u) (e : ∀ c, c ≠ 1 -> c < 10 -> ec pk' (tfind pk u).toNat c = ec pk (tfind pk u).toNat c) : tshf pk' d bl u c = tshf pk d bl u c := by
 unfold tshf; rw [h, e 3 (by decide) (by decide), e (4 + c) (by omega) (by omega), e (7 + c) (by omega) (by omega), e 0 (by decide) (by decide)]
theorem place_at {pk : List (List Int)} {u sa : Int} {j : Nat} (h : tfind pk u = (j : Int)) : tplace pk sa u = ec pk j 2 + ec pk j 3 * (u - ec pk j 0) := by
 unfold tplace; rw [h, if_neg (by omega)]; rfl
theorem shf_at {pk : List (List Int)} {u d bl : Int} {j c : Nat} (h : tfind pk u = (j : Int)) : tshf pk d bl u c = tsh bl (ec pk j 3) (ec pk j (4 + c)) (ec pk j (7 + c)) (ec pk j 0) u := by
 unfold tshf; rw [h, if_neg (by omega)]; rfl
theorem unit_eq {s : Int} {sgs : List (List Int)} {c : Nat} {bl d f m : Int} {pk pk' : List (List Int)} {u : Int} (h1 : tplace pk' f u = tplace pk f u) (h2 : tplace pk' f (u - 1) = tplace pk f (u - 1))
 (h3 : tshf pk' d bl u c = tshf pk d bl u c) (h4 : tshf pk' d bl (u - 1) c = tshf pk d bl (u - 1) c) (h : unitOK s sgs c bl d f m pk u) : unitOK s sgs c bl d f m pk' u := by
 unfold unitOK at h ⊢
 rw [h1, h2, h3, h4]; exact h
theorem tsh_move {bl mv w n a u : Int} (h : mv ≠ 0) : tsh bl mv w n a u = bsh bl n := by unfold tsh; rw [if_pos (.inl h)]
theorem tsh_zero {bl a n at_ : Int} (ha : pm a) (hn : pm n) (hb : 0 <= bl) : tsh bl 0 a n at_ at_ = bsh bl a := by
 unfold tsh
 by_cases e : a = n
 . rw [if_pos (.inr e), e]
 . rw [if_neg (by simp [e])]
   unfold pm at ha hn
   unfold bsh
   by_cases e2 : n = -1
   . rw [if_pos e2, if_neg (by omega)]; omega
   . rw [if_neg e2, if_pos (by omega)]; omega
theorem tsh_step1 {bl a n at_ v : Int} (hb : 0 <= bl) (hv : 1 <= v) : (-1 <= tsh bl 0 a n at_ (at_ + v) - tsh bl 0 a n at_ (at_ + (v - 1)) /\ tsh bl 0 a n at_ (at_ + v) - tsh bl 0 a n at_ (at_ + (v - 1)) <= 1) /\ (-bl <= tsh bl 0 a n at_ (at_ + v) /\ tsh bl 0 a n at_ (at_ + v) <= 0) := by
 have hb' : -bl <= bsh bl n /\ bsh bl n <= 0 := by unfold bsh; split <;> omega
 unfold tsh
 by_cases e : a = n
 . rw [if_pos (Or.inr e : (0 : Int) ≠ 0 ∨ a = n), if_pos (Or.inr e : (0 : Int) ≠ 0 ∨ a = n)]
   omega
 . have e' : ¬ ((0 : Int) ≠ 0 ∨ a = n) := by simp [e]
   rw [if_neg e', if_neg e']
   by_cases e2 : n = -1
   . rw [if_pos e2, if_pos e2]; omega
   . rw [if_neg e2, if_neg e2]; omega
theorem tsh_end {bl a n at_ U : Int} (hn : pm n) (hU : a ≠ n -> bl <= U) : tsh bl 0 a n at_ (at_ + U) = bsh bl n := by
 unfold tsh
 by_cases e : a = n
 . rw [if_pos (.inr e)]
 . have := hU e
   rw [if_neg (by simp [e])]
   unfold pm at hn
   unfold bsh
   by_cases e2 : n = -1
   . rw [if_pos e2, if_pos e2]; omega
   . rw [if_neg e2, if_neg e2]; omega
def stepD (s : Int) (sgs : List (List Int)) (c : Nat) (bl m p mv : Int) (g : Int -> Int) (v : Int) : Prop :=
 (mv = 0 /\ (-1 <= g v - g (v - 1) /\ g v - g (v - 1) <= 1) /\ (-bl <= g v /\ g v <= 0)) ∨
 (mv = m /\ (0 <= p + mv * v /\ p + mv * v <= plen sgs) /\ (0 <= p + mv * (v - 1) /\ p + mv * (v - 1) <= plen sgs) /\ ∃ e, pm e /\ g v = bsh bl e /\ g (v - 1) = bsh bl e /\ 0 <= e * (ptAt s sgs c (p + mv * v) - ptAt s sgs c (p + mv * (v - 1))))
theorem unit_ext {s : Int} {sgs : List (List Int)} {c : Nat} {bl d f m ln U p mv : Int} {pk pk' : List (List Int)} {g : Int -> Int}
 (oldP : ∀ u, 0 <= u /\ u <= ln -> tplace pk' f u = tplace pk f u) (oldS : ∀ u, 0 <= u /\ u <= ln -> tshf pk' d bl u c = tshf pk d bl u c)
 (newP : ∀ v, 0 <= v /\ v <= U -> tplace pk' f (ln + v) = p + mv * v) (newS : ∀ v, 0 <= v /\ v <= U -> tshf pk' d bl (ln + v) c = g v)
 (hs : ∀ v, 1 <= v /\ v <= U -> stepD s sgs c bl m p mv g v) (h : ∀ u, 1 <= u /\ u <= ln -> unitOK s sgs c bl d f m pk u) : ∀ u, 1 <= u /\ u <= ln + U -> unitOK s sgs c bl d f m pk' u := by
 intro u hu
 by_cases h1 : u <= ln
 . exact unit_eq (oldP u (by omega)) (oldP (u - 1) (by omega)) (oldS u (by omega)) (oldS (u - 1) (by omega)) (h u (by omega))
 . have a := newP (u - ln) (by omega)
   have b := newP (u - ln - 1) (by omega)
   have a2 := newS (u - ln) (by omega)
   have b2 := newS (u - ln - 1) (by omega)
   rw [show ln + (u - ln) = u by omega] at a a2
   rw [show ln + (u - ln - 1) = u - 1 by omega] at b b2
   have e := hs (u - ln) (by omega)
   unfold unitOK
   rw [a, b, a2, b2]
   rcases e with ⟨e0, e1, e2⟩ | ⟨e0, e1, e2, e3⟩
   . left
     refine ⟨by rw [e0]; simp, e1, e2⟩
   . right
     refine ⟨?_, e1, e2, e3⟩
     rw [<- e0, Int.mul_sub mv (u - ln) 1]
     omega
theorem legOK_ext {s0 s1 s2 : Int} {sgs : List (List Int)} {b0 b1 b2 d0 d1 d2 f m ln U p mv a0 a1 a2 n0 n1 n2 : Int} {pk pk' : List (List Int)} {g0 g1 g2 : Int -> Int}
 (h : legOK s0 s1 s2 sgs b0 b1 b2 d0 d1 d2 f m pk ln p a0 a1 a2) (hT : okT pk' (ln + U)) (hU : 1 <= U) (hn : pm n0 /\ pm n1 /\ pm n2)
 (oldP : ∀ u, 0 <= u /\ u <= ln -> tplace pk' f u = tplace pk f u)
 (oldS : ∀ u, 0 <= u /\ u <= ln -> tshf pk' d0 b0 u 0 = tshf pk d0 b0 u 0 /\ tshf pk' d1 b1 u 1 = tshf pk d1 b1 u 1 /\ tshf pk' d2 b2 u 2 = tshf pk d2 b2 u 2)
 (newP : ∀ v, 0 <= v /\ v <= U -> tplace pk' f (ln + v) = p + mv * v)
 (newS : ∀ v, 0 <= v /\ v <= U -> tshf pk' d0 b0 (ln + v) 0 = g0 v /\ tshf pk' d1 b1 (ln + v) 1 = g1 v /\ tshf pk' d2 b2 (ln + v) 2 = g2 v)
 (hs : ∀ v, 1 <= v /\ v <= U -> stepD s0 sgs 0 b0 m p mv g0 v /\ stepD s1 sgs 1 b1 m p mv g1 v /\ stepD s2 sgs 2 b2 m p mv g2 v)
 (he : g0 U = bsh b0 n0 /\ g1 U = bsh b1 n1 /\ g2 U = bsh b2 n2) :
 legOK s0 s1 s2 sgs b0 b1 b2 d0 d1 d2 f m pk' (ln + U) (p + mv * U) n0 n1 n2 := by
 obtain ⟨h1, h2, h3, h4, h5, h6, h7, h8⟩ := h
 have nU := newS U (by omega)
 have o0 := oldS 0 (by omega)
 refine ⟨hT, by omega, newP U (by omega), by rw [oldP 0 (by omega)]; exact h4, hn, ⟨by rw [nU.1]; exact he.1, by rw [nU.2.1]; exact he.2.1, by rw [nU.2.2]; exact he.2.2⟩, ⟨by rw [o0.1]; exact h7.1, by rw [o0.2.1]; exact h7.2.1, by rw [o0.2.2]; exact h7.2.2⟩, fun u hu => ⟨?_, ?_, ?_⟩⟩
 . exact unit_ext oldP (fun u hu => (oldS u hu).1) newP (fun v hv => (newS v hv).1) (fun v hv => (hs v hv).1) (fun u hu => (h8 u hu).1) u hu
 . exact unit_ext oldP (fun u hu => (oldS u hu).2.1) newP (fun v hv => (newS v hv).2.1) (fun v hv => (hs v hv).2.1) (fun u hu => (h8 u hu).2.1) u hu
 . exact unit_ext oldP (fun u hu => (oldS u hu).2.2) newP (fun v hv => (newS v hv).2.2) (fun v hv => (hs v hv).2.2) (fun u hu => (h8 u hu).2.2) u hu
theorem app_ok {s0 s1 s2 : Int} {sgs : List (List Int)} {b0 b1 b2 d0 d1 d2 f m ln U p mv a0 a1 a2 w0 w1 w2 n0 n1 n2 : Int} {pk : List (List Int)}
 (h : legOK s0 s1 s2 sgs b0 b1 b2 d0 d1 d2 f m pk ln p a0 a1 a2) (hT : okT (pk ++ [[ln, U, p, mv, w0, w1, w2, n0, n1, n2]]) (ln + U)) (hU : 1 <= U) (hn : pm n0 /\ pm n1 /\ pm n2)
 (hz : tsh b0 mv w0 n0 ln ln = bsh b0 a0 /\ tsh b1 mv w1 n1 ln ln = bsh b1 a1 /\ tsh b2 mv w2 n2 ln ln = bsh b2 a2)
 (hs : ∀ v, 1 <= v /\ v <= U -> stepD s0 sgs 0 b0 m p mv (fun v => tsh b0 mv w0 n0 ln (ln + v)) v /\ stepD s1 sgs 1 b1 m p mv (fun v => tsh b1 mv w1 n1 ln (ln + v)) v /\ stepD s2 sgs 2 b2 m p mv (fun v => tsh b2 mv w2 n2 ln (ln + v)) v)
 (he : tsh b0 mv w0 n0 ln (ln + U) = bsh b0 n0 /\ tsh b1 mv w1 n1 ln (ln + U) = bsh b1 n1 /\ tsh b2 mv w2 n2 ln (ln + U) = bsh b2 n2) :
 legOK s0 s1 s2 sgs b0 b1 b2 d0 d1 d2 f m (pk ++ [[ln, U, p, mv, w0, w1, w2, n0, n1, n2]]) (ln + U) (p + mv * U) n0 n1 n2 := by
 have h' := h
 obtain ⟨h1, h2, h3, h4, h5, h6, h7, h8⟩ := h
 by_cases hp : 0 < pk.length
 . refine legOK_ext (mv := mv) h' hT hU hn (fun u hu => ?_) (fun u hu => ?_) (fun v hv => ?_) (fun v hv => ?_) hs he
   . obtain ⟨f1, f2⟩ := find_app (r := [ln, U, p, mv, w0, w1, w2, n0, n1, n2]) h1 h2 hp hu
     exact place_eq f1 fun c _ _ => f2 c
   . obtain ⟨f1, f2⟩ := find_app (r := [ln, U, p, mv, w0, w1, w2, n0, n1, n2]) h1 h2 hp hu
     exact ⟨shf_eq (by decide) f1 fun c _ _ => f2 c, shf_eq (by decide) f1 fun c _ _ => f2 c, shf_eq (by decide) f1 fun c _ _ => f2 c⟩
   . by_cases hv0 : v = 0
     . subst hv0
       obtain ⟨f1, f2⟩ := find_app (u := ln) (r := [ln, U, p, mv, w0, w1, w2, n0, n1, n2]) h1 h2 hp ⟨h2, Int.le_refl _⟩
       rw [Int.add_zero, place_eq f1 fun c _ _ => f2 c, h3]; simp
     . obtain ⟨f1, f2⟩ := find_new (u := ln + v) (U := U) (r := [ln, U, p, mv, w0, w1, w2, n0, n1, n2]) h1 h2 rfl rfl (by omega)
       rw [place_at f1, f2, f2, f2]
       show p + mv * (ln + v - ln) = p + mv * v
       rw [show ln + v - ln = v by omega]
   . by_cases hv0 : v = 0
     . subst hv0
       obtain ⟨f1, f2⟩ := find_app (u := ln) (r := [ln, U, p, mv, w0, w1, w2, n0, n1, n2]) h1 h2 hp ⟨h2, Int.le_refl _⟩
       rw [Int.add_zero, shf_eq (by decide) f1 fun c _ _ => f2 c, shf_eq (by decide) f1 fun c _ _ => f2 c, shf_eq (by decide) f1 fun c _ _ => f2 c, h6.1, h6.2.1, h6.2.2, hz.1, hz.2.1, hz.2.2]
       exact ⟨rfl, rfl, rfl⟩
     . obtain ⟨f1, f2⟩ := find_new (u := ln + v) (U := U) (r := [ln, U, p, mv, w0, w1, w2, n0, n1, n2]) h1 h2 rfl rfl (by omega)
       rw [shf_at f1, shf_at f1, shf_at f1]
       simp only [f2]
       exact ⟨rfl, rfl, rfl⟩
 . have e0 : pk = [] := List.eq_nil_of_length_eq_zero (by omega)
   have l0 : ln = 0 := h1.1 (by omega)
   subst e0 l0
   have pf : p = f := h3.symm
   obtain ⟨f1, f2⟩ := find_new0 (U := U) (r := [0, U, p, mv, w0, w1, w2, n0, n1, n2]) rfl rfl (by omega)
   have u0 : ∀ u : Int, 0 <= u /\ u <= 0 -> u = 0 := fun u hu => by omega
   have P0 : tplace ([] ++ [[0, U, p, mv, w0, w1, w2, n0, n1, n2]]) f 0 = p := by
    rw [place_at (j := 0) f1, f2, f2, f2]
    show p + mv * (0 - 0) = p
    simp
   refine legOK_ext (mv := mv) h' hT hU hn (fun u hu => ?_) (fun u hu => ?_) (fun v hv => ?_) (fun v hv => ?_) hs he
   . rw [u0 u hu, P0]; exact h3.symm
   . rw [u0 u hu, shf_at (j := 0) f1, shf_at (j := 0) f1, shf_at (j := 0) f1, h6.1, h6.2.1, h6.2.2]
     simp only [f2]
     exact hz
   . by_cases hv0 : v = 0
     . subst hv0; rw [Int.add_zero, P0]; simp
     . obtain ⟨f1, f2⟩ := find_new (pk := []) (u := 0 + v) (U := U) (r := [0, U, p, mv, w0, w1, w2, n0, n1, n2]) h1 h2 rfl rfl (by omega)
       rw [place_at f1, f2, f2, f2]
       show p + mv * (0 + v - 0) = p + mv * v
       rw [show 0 + v - 0 = v by omega]
   . by_cases hv0 : v = 0
     . subst hv0
       rw [Int.add_zero, shf_at (j := 0) f1, shf_at (j := 0) f1, shf_at (j := 0) f1]
       simp only [f2]
       exact ⟨rfl, rfl, rfl⟩
     . obtain ⟨f1, f2⟩ := find_new (pk := []) (u := 0 + v) (U := U) (r := [0, U, p, mv, w0, w1, w2, n0, n1, n2]) h1 h2 rfl rfl (by omega)
       rw [shf_at f1, shf_at f1, shf_at f1]
       simp only [f2]
       exact ⟨rfl, rfl, rfl⟩
theorem set_ok {s0 s1 s2 : Int} {sgs : List (List Int)} {b0 b1 b2 d0 d1 d2 f m ln U p mv a0 a1 a2 n0 n1 n2 : Int} {pk : List (List Int)}
 (h : legOK s0 s1 s2 sgs b0 b1 b2 d0 d1 d2 f m pk ln p a0 a1 a2) (hp : 0 < pk.length) (hT : okT (pk.set (pk.length - 1) (more (pk.getD (pk.length - 1) []) U)) (ln + U)) (hU : 1 <= U) (hn : pm n0 /\ pm n1 /\ pm n2)
 (hm : mv ≠ 0) (r3 : ec pk (pk.length - 1) 3 = mv) (r7 : ec pk (pk.length - 1) 7 = n0) (r8 : ec pk (pk.length - 1) 8 = n1) (r9 : ec pk (pk.length - 1) 9 = n2)
 (hs : ∀ v, 1 <= v /\ v <= U -> stepD s0 sgs 0 b0 m p mv (fun _ => bsh b0 n0) v /\ stepD s1 sgs 1 b1 m p mv (fun _ => bsh b1 n1) v /\ stepD s2 sgs 2 b2 m p mv (fun _ => bsh b2 n2) v) :
 legOK s0 s1 s2 sgs b0 b1 b2 d0 d1 d2 f m (pk.set (pk.length - 1) (more (pk.getD (pk.length - 1) []) U)) (ln + U) (p + mv * U) n0 n1 n2 := by
 have h' := h
 obtain ⟨h1, h2, h3, h4, h5, h6, h7, h8⟩ := h
 have fl := find_last h1 h2 hp
 have h3' := h3
 rw [place_at fl, r3] at h3'
 have S0 : ∀ (d bl : Int) (c : Nat) (n : Int), ec pk (pk.length - 1) (7 + c) = n -> tshf pk d bl ln c = bsh bl n := fun d bl c n e => by rw [shf_at fl, tsh_move (by rw [r3]; exact hm), e]
 refine legOK_ext (mv := mv) h' hT hU hn (fun u hu => ?_) (fun u hu => ?_) (fun v hv => ?_) (fun v hv => ?_) hs ⟨rfl, rfl, rfl⟩
 . obtain ⟨f1, f2⟩ := find_set (U := U) h1 h2 hp (by omega) hu
   exact place_eq f1 f2
 . obtain ⟨f1, f2⟩ := find_set (U := U) h1 h2 hp (by omega) hu
   exact ⟨shf_eq (by decide) f1 f2, shf_eq (by decide) f1 f2, shf_eq (by decide) f1 f2⟩
 . by_cases hv0 : v = 0
   . subst hv0
     obtain ⟨f1, f2⟩ := find_set (u := ln) (U := U) h1 h2 hp (by omega) ⟨h2, Int.le_refl _⟩
     rw [Int.add_zero, place_eq f1 f2, h3]; simp
   . obtain ⟨f1, f2⟩ := find_setn (u := ln + v) (U := U) h1 h2 hp (by omega)
     rw [place_at f1, f2 2 (by decide) (by decide), f2 3 (by decide) (by decide), f2 0 (by decide) (by decide), r3, <- h3', show ln + v - ec pk (pk.length - 1) 0 = (ln - ec pk (pk.length - 1) 0) + v by omega, Int.mul_add]
     omega
 . by_cases hv0 : v = 0
   . subst hv0
     obtain ⟨f1, f2⟩ := find_set (u := ln) (U := U) h1 h2 hp (by omega) ⟨h2, Int.le_refl _⟩
     rw [Int.add_zero, shf_eq (by decide) f1 f2, shf_eq (by decide) f1 f2, shf_eq (by decide) f1 f2]
     exact ⟨S0 _ _ _ _ r7, S0 _ _ _ _ r8, S0 _ _ _ _ r9⟩
   . obtain ⟨f1, f2⟩ := find_setn (u := ln + v) (U := U) h1 h2 hp (by omega)
     have q : ∀ (d bl : Int) (c : Nat), c < 3 -> ∀ n, ec pk (pk.length - 1) (7 + c) = n -> tshf (pk.set (pk.length - 1) (more (pk.getD (pk.length - 1) []) U)) d bl (ln + v) c = bsh bl n := fun d bl c hc n e => by
      rw [shf_at f1, f2 3 (by decide) (by decide), r3, tsh_move hm, f2 (7 + c) (by omega) (by omega), e]
     exact ⟨q _ _ 0 (by decide) _ r7, q _ _ 1 (by decide) _ r8, q _ _ 2 (by decide) _ r9⟩
theorem ediv_near {x e B : Int} (hB : 0 < B) (he : 0 <= e /\ e <= B) : x / B <= (x + e) / B /\ (x + e) / B <= x / B + 1 := by
 refine ⟨Int.ediv_le_ediv hB (by omega), ?_⟩
 have h1 : (x + e) / B <= (x + 1 * B) / B := Int.ediv_le_ediv hB (by omega)
 rw [Int.add_mul_ediv_right x 1 (by omega)] at h1
 exact h1
theorem rnd_step {D L d : Int} (hL : 0 < L) (hD : -L <= D /\ D <= L) : (0 <= D -> 0 <= rnd (D * (d + 1)) L - rnd (D * d) L /\ rnd (D * (d + 1)) L - rnd (D * d) L <= 1) /\ (D <= 0 -> -1 <= rnd (D * (d + 1)) L - rnd (D * d) L /\ rnd (D * (d + 1)) L - rnd (D * d) L <= 0) := by
 unfold rnd
 rw [Int.mul_add D d 1, Int.mul_one]
 generalize D * d = y
 refine ⟨fun h => ?_, fun h => ?_⟩
 . have := ediv_near (x := 2 * y + L) (e := 2 * D) (B := 2 * L) (by omega) (by omega)
   rw [show 2 * (y + D) + L = 2 * y + L + 2 * D by omega]
   omega
 . have := ediv_near (x := 2 * (y + D) + L) (e := -(2 * D)) (B := 2 * L) (by omega) (by omega)
   rw [show 2 * (y + D) + L + -(2 * D) = 2 * y + L by omega] at this
   omega
theorem rnd_zero {L : Int} (hL : 0 < L) : rnd 0 L = 0 := by
 unfold rnd
 exact Int.ediv_eq_zero_of_lt (by omega) (by omega)
theorem rnd_full {D L : Int} (hL : 0 < L) : rnd (D * L) L = D := by
 unfold rnd
 rw [show 2 * (D * L) + L = L + D * (2 * L) by grind, Int.add_mul_ediv_right _ _ (by omega), Int.ediv_eq_zero_of_lt (by omega) (by omega)]
 omega
theorem plen_take_succ : ∀ (l : List (List Int)) (j : Nat), j < l.length -> plen (l.take (j + 1)) = plen (l.take j) + ec l j 3
 | [], j, h => by simp at h
 | r :: l, 0, _ => by
  show r.getD 3 0 + 0 = 0 + r.getD 3 0
  omega
 | r :: l, j + 1, h => by
  have := plen_take_succ l j (by simpa using h)
  show r.getD 3 0 + plen (l.take (j + 1)) = r.getD 3 0 + plen (l.take j) + ec l j 3
  omega
theorem lfA_at : ∀ (l : List (List Int)) (i : Int) (j : Nat) (d : Int), (∀ k, k < l.length -> 1 <= ec l k 3) -> j < l.length -> 0 <= d -> d < ec l j 3 -> lfA l i (plen (l.take j) + d) = (i + j, d)
 | [], _, j, _, _, h, _, _ => by simp at h
 | r :: l, i, 0, d, _, _, h0, h1 => by
  unfold lfA
  have e : plen (List.take 0 (r :: l)) + d = d := by show 0 + d = d; omega
  have h1 : d < r.getD 3 0 := h1
  rw [e, if_pos h1]; simp
 | r :: l, i, j + 1, d, hp, h, h0, h1 => by
  unfold lfA
  have hp' : ∀ k, k < l.length -> 1 <= ec l k 3 := fun k hk => hp (k + 1) (by simpa using hk)
  have hn : 0 <= plen (l.take j) := by
   have : ∀ n, n <= l.length -> 0 <= plen (l.take n) := by
    intro n
    induction n with
    | zero => intro _; exact Int.le_refl _
    | succ n ih => intro hn; rw [plen_take_succ l n (by omega)]; have := ih (by omega); have := hp' n (by omega); omega
   exact this j (by simp at h; omega)
  have e : plen (List.take (j + 1) (r :: l)) + d = r.getD 3 0 + (plen (l.take j) + d) := by show r.getD 3 0 + plen (l.take j) + d = _; omega
  rw [e, if_neg (by omega), show r.getD 3 0 + (plen (l.take j) + d) - r.getD 3 0 = plen (l.take j) + d by omega, lfA_at l (i + 1) j d hp' (by simpa using h) h0 h1]
  refine Prod.ext ?_ rfl
  show i + 1 + (j : Int) = i + ((j + 1 : Nat) : Int)
  omega
theorem lfA_end : ∀ (l : List (List Int)) (i e : Int), (∀ k, k < l.length -> 1 <= ec l k 3) -> 0 <= e -> (lfA l i (plen l + e)).1 = -1
 | [], i, e, _, _ => rfl
 | r :: l, i, e, hp, he => by
  have hp' : ∀ k, k < l.length -> 1 <= ec l k 3 := fun k hk => hp (k + 1) (by simpa using hk)
  have hn : 0 <= plen l := by
   have : ∀ m : List (List Int), (∀ k, k < m.length -> 1 <= ec m k 3) -> 0 <= plen m := by
    intro m
    induction m with
    | nil => intro _; exact Int.le_refl _
    | cons a m ih =>
     intro h
     have := ih fun k hk => h (k + 1) (by simpa using hk)
     have h0 := h 0 (by simp)
     have h0 : 1 <= a.getD 3 0 := h0
     show 0 <= a.getD 3 0 + plen m
     omega
   exact this l hp'
  unfold lfA
  have e1 : plen (r :: l) + e = r.getD 3 0 + (plen l + e) := by show r.getD 3 0 + plen l + e = _; omega
  rw [e1, if_neg (by omega), show r.getD 3 0 + (plen l + e) - r.getD 3 0 = plen l + e by omega]
  exact lfA_end l (i + 1) e hp' he
theorem plen_nonneg {sg : List (List Int)} (h : okLen sg) {j : Nat} (hj : j <= sg.length) : 0 <= plen (sg.take j) := by
 induction j with
 | zero => exact Int.le_refl _
 | succ n ih => rw [plen_take_succ sg n (by omega)]; have := ih (by omega); have := h.2 n (by omega); omega
theorem plen_take_le {sg : List (List Int)} (h : okLen sg) {j : Nat} (hj : j <= sg.length) : plen (sg.take j) <= plen sg := by
 have : ∀ n, j + n <= sg.length -> plen (sg.take j) <= plen (sg.take (j + n)) := by
  intro n
  induction n with
  | zero => intro _; exact Int.le_refl _
  | succ n ih =>
   intro hn
   have := ih (by omega)
   have a := plen_take_succ sg (j + n) (by omega)
   have := h.2 (j + n) (by omega)
   rw [show j + (n + 1) = j + n + 1 by omega, a]
   omega
 have := this (sg.length - j) (by omega)
 rw [show j + (sg.length - j) = sg.length by omega, List.take_length] at this
 exact this
theorem ptAt_seg {s : Int} {sg : List (List Int)} {c j : Nat} {d : Int} (h : okLen sg) (hj : j < sg.length) (hd : 0 <= d /\ d <= ec sg j 3) :
 ptAt s sg c (plen (sg.take j) + d) = bgn s sg c j + rnd ((ec sg j c - bgn s sg c j) * d) (ec sg j 3) := by
 have hp : ∀ k, k < sg.length -> 1 <= ec sg k 3 := fun k hk => (h.2 k hk).1
 have hn := plen_nonneg h (show j <= sg.length by omega)
 have core : ∀ (j : Nat) (d : Int), j < sg.length -> 0 <= d -> d < ec sg j 3 -> ptAt s sg c (plen (sg.take j) + d) = bgn s sg c j + rnd ((ec sg j c - bgn s sg c j) * d) (ec sg j 3) := by
  intro j d hj h0 h1
  have hn := plen_nonneg h (show j <= sg.length by omega)
  have e : pfind sg (plen (sg.take j) + d) = ((j : Int), d) := by
   unfold pfind
   rw [if_neg (by omega), show max (plen (sg.take j) + d) 0 = plen (sg.take j) + d by omega, lfA_at sg 0 j d hp hj h0 h1]
   have : (0 : Int) + (j : Int) = j := by omega
   rw [this, if_pos (show (0 : Int) <= ((j : Int), d).1 by show (0 : Int) <= (j : Int); omega)]
  unfold ptAt
  rw [e, if_neg (by show ¬ (j : Int) < 0; omega)]
  rfl
 by_cases hlt : d < ec sg j 3
 . exact core j d hj hd.1 hlt
 . have hdL : d = ec sg j 3 := by omega
   have L0 := hp j hj
   rw [hdL, rnd_full (by omega)]
   by_cases hl : j + 1 < sg.length
   . rw [<- plen_take_succ sg j hj, show plen (sg.take (j + 1)) = plen (sg.take (j + 1)) + 0 by omega, core (j + 1) 0 hl (Int.le_refl _) (by have := hp (j + 1) hl; omega), Int.mul_zero, rnd_zero (by have := hp (j + 1) hl; omega)]
     have : bgn s sg c ((j + 1 : Nat) : Int) = ec sg j c := by
      unfold bgn
      rw [if_neg (by omega), show (((j + 1 : Nat) : Int) - 1).toNat = j by omega]
     rw [this]; omega
   . have e : pfind sg (plen (sg.take j) + ec sg j 3) = ((j : Int), ec sg j 3) := by
      have e2 : plen (sg.take j) + ec sg j 3 = plen sg + 0 := by
       rw [<- plen_take_succ sg j hj, List.take_of_length_le (by omega)]; omega
      have n1 := lfA_end sg 0 0 hp (Int.le_refl _)
      unfold pfind
      rw [if_neg (by omega), show max (plen (sg.take j) + ec sg j 3) 0 = plen (sg.take j) + ec sg j 3 by omega, e2, n1, if_neg (by omega)]
      refine Prod.ext ?_ ?_
      . show (sg.length : Int) - 1 = (j : Int); omega
      . show ec sg (sg.length - 1) 3 = ec sg j 3; rw [show sg.length - 1 = j by omega]
     unfold ptAt
     rw [e, if_neg (by show ¬ (j : Int) < 0; omega)]
     show bgn s sg c (j : Int) + rnd ((ec sg j c - bgn s sg c (j : Int)) * ec sg j 3) (ec sg j 3) = _
     rw [rnd_full (by omega)]
theorem ptAt_dir {s : Int} {sg : List (List Int)} {c j : Nat} {d : Int} (h : okLen sg) (hj : j < sg.length) (hd : 0 <= d /\ d < ec sg j 3) (hD : -(ec sg j 3) <= ec sg j c - bgn s sg c j /\ ec sg j c - bgn s sg c j <= ec sg j 3) :
 (0 <= ec sg j c - bgn s sg c j -> 0 <= ptAt s sg c (plen (sg.take j) + (d + 1)) - ptAt s sg c (plen (sg.take j) + d) /\ ptAt s sg c (plen (sg.take j) + (d + 1)) - ptAt s sg c (plen (sg.take j) + d) <= 1) /\
 (ec sg j c - bgn s sg c j <= 0 -> -1 <= ptAt s sg c (plen (sg.take j) + (d + 1)) - ptAt s sg c (plen (sg.take j) + d) /\ ptAt s sg c (plen (sg.take j) + (d + 1)) - ptAt s sg c (plen (sg.take j) + d) <= 0) := by
 rw [ptAt_seg h hj (by omega), ptAt_seg h hj (by omega)]
 have := rnd_step (D := ec sg j c - bgn s sg c j) (L := ec sg j 3) (d := d) (by have := (h.2 j hj).1; omega) hD
 refine ⟨fun h => ?_, fun h => ?_⟩
 . have := this.1 h; omega
 . have := this.2 h; omega
theorem okSegs_D {s0 s1 s2 : Int} {sg : List (List Int)} (h : okSegs s0 s1 s2 sg) {j : Nat} (hj : j < sg.length) :
 (-(ec sg j 3) <= ec sg j 0 - bgn s0 sg 0 j /\ ec sg j 0 - bgn s0 sg 0 j <= ec sg j 3) /\ (-(ec sg j 3) <= ec sg j 1 - bgn s1 sg 1 j /\ ec sg j 1 - bgn s1 sg 1 j <= ec sg j 3) /\ (-(ec sg j 3) <= ec sg j 2 - bgn s2 sg 2 j /\ ec sg j 2 - bgn s2 sg 2 j <= ec sg j 3) := (h j hj).2.2
theorem fc1_pm {a b m d : Int} (hd : pm d) : pm (fc1 a b m d) := by
 unfold fc1 pm at *
 split
 . exact .inl rfl
 . split
   . exact .inr rfl
   . exact hd
theorem sl1_ge (a b m n : Int) : n <= sl1 a b m n /\ (a ≠ b -> m <= sl1 a b m n) := by unfold sl1; split <;> omega
theorem slk_ge (b0 b1 b2 w0 w1 w2 d0 d1 d2 : Int) : (w0 ≠ d0 -> b0 <= slk b0 b1 b2 w0 w1 w2 d0 d1 d2) /\ (w1 ≠ d1 -> b1 <= slk b0 b1 b2 w0 w1 w2 d0 d1 d2) /\ (w2 ≠ d2 -> b2 <= slk b0 b1 b2 w0 w1 w2 d0 d1 d2) := by
 unfold slk
 have h0 := sl1_ge w0 d0 b0 0
 have h1 := sl1_ge w1 d1 b1 (sl1 w0 d0 b0 0)
 have h2 := sl1_ge w2 d2 b2 (sl1 w1 d1 b1 (sl1 w0 d0 b0 0))
 exact ⟨fun h => by have := h0.2 h; omega, fun h => by have := h1.2 h; omega, h2.2⟩
theorem bsh_any {b a n : Int} (h : a = n ∨ b = 0) : bsh b n = bsh b a := by
 rcases h with rfl | rfl
 . rfl
 . unfold bsh; split <;> split <;> rfl
theorem moveStep {s0 s1 s2 : Int} {sgs : List (List Int)} {b0 b1 b2 d0 d1 d2 f m ln U p a0 a1 a2 n0 n1 n2 : Int} {pk : List (List Int)}
 (h : legOK s0 s1 s2 sgs b0 b1 b2 d0 d1 d2 f m pk ln p a0 a1 a2) (ha : (a0 = n0 ∨ b0 = 0) /\ (a1 = n1 ∨ b1 = 0) /\ (a2 = n2 ∨ b2 = 0)) (hn : pm n0 /\ pm n1 /\ pm n2) (hm : pm m) (hU : 1 <= U) (hp : 0 <= p /\ p <= 18014398509481984)
 (hs : ∀ v, 1 <= v /\ v <= U -> (0 <= p + m * v /\ p + m * v <= plen sgs) /\ (0 <= p + m * (v - 1) /\ p + m * (v - 1) <= plen sgs) /\
  0 <= n0 * (ptAt s0 sgs 0 (p + m * v) - ptAt s0 sgs 0 (p + m * (v - 1))) /\ 0 <= n1 * (ptAt s1 sgs 1 (p + m * v) - ptAt s1 sgs 1 (p + m * (v - 1))) /\ 0 <= n2 * (ptAt s2 sgs 2 (p + m * v) - ptAt s2 sgs 2 (p + m * (v - 1)))) :
 legOK s0 s1 s2 sgs b0 b1 b2 d0 d1 d2 f m (tadd pk ln [0, U, p, m, n0, n1, n2, n0, n1, n2]).1 (tadd pk ln [0, U, p, m, n0, n1, n2, n0, n1, n2]).2 (p + m * U) n0 n1 n2 := by
 have m0 : m ≠ 0 := by unfold pm at hm; omega
 have m1 : -1 <= m /\ m <= 1 := by unfold pm at hm; omega
 have hT := tadd_okT (q0 := 0) (q4 := n0) (q5 := n1) (q6 := n2) (q7 := n0) (q8 := n1) (q9 := n2) h.1 hU hp m1
 by_cases hc : 0 < pk.length /\ m ≠ 0 /\ ec pk (pk.length - 1) 3 = m /\ ec pk (pk.length - 1) 7 = n0 /\ ec pk (pk.length - 1) 8 = n1 /\ ec pk (pk.length - 1) 9 = n2
 . rw [tadd_more hc] at hT ⊢
   exact set_ok h hc.1 hT hU hn m0 hc.2.2.1 hc.2.2.2.1 hc.2.2.2.2.1 hc.2.2.2.2.2 fun v hv => by
    obtain ⟨q1, q2, q3, q4, q5⟩ := hs v hv
    exact ⟨.inr ⟨rfl, q1, q2, n0, hn.1, rfl, rfl, q3⟩, .inr ⟨rfl, q1, q2, n1, hn.2.1, rfl, rfl, q4⟩, .inr ⟨rfl, q1, q2, n2, hn.2.2, rfl, rfl, q5⟩⟩
 . rw [tadd_app hc] at hT ⊢
   exact app_ok h hT hU hn ⟨by rw [tsh_move m0]; exact bsh_any ha.1, by rw [tsh_move m0]; exact bsh_any ha.2.1, by rw [tsh_move m0]; exact bsh_any ha.2.2⟩ (fun v hv => by
    obtain ⟨q1, q2, q3, q4, q5⟩ := hs v hv
    exact ⟨.inr ⟨rfl, q1, q2, n0, hn.1, tsh_move m0, tsh_move m0, q3⟩, .inr ⟨rfl, q1, q2, n1, hn.2.1, tsh_move m0, tsh_move m0, q4⟩, .inr ⟨rfl, q1, q2, n2, hn.2.2, tsh_move m0, tsh_move m0, q5⟩⟩) ⟨tsh_move m0, tsh_move m0, tsh_move m0⟩
theorem takeStep {s0 s1 s2 : Int} {sgs : List (List Int)} {b0 b1 b2 d0 d1 d2 f m ln U p a0 a1 a2 n0 n1 n2 : Int} {pk : List (List Int)}
 (h : legOK s0 s1 s2 sgs b0 b1 b2 d0 d1 d2 f m pk ln p a0 a1 a2) (hb : okB3 b0 b1 b2) (hn : pm n0 /\ pm n1 /\ pm n2) (hU : 1 <= U) (hp : 0 <= p /\ p <= 18014398509481984) (hg : (a0 ≠ n0 -> b0 <= U) /\ (a1 ≠ n1 -> b1 <= U) /\ (a2 ≠ n2 -> b2 <= U)) :
 legOK s0 s1 s2 sgs b0 b1 b2 d0 d1 d2 f m (tadd pk ln [0, U, p, 0, a0, a1, a2, n0, n1, n2]).1 (tadd pk ln [0, U, p, 0, a0, a1, a2, n0, n1, n2]).2 p n0 n1 n2 := by
 have ha := h.2.2.2.2.1
 have hT := tadd_okT (q0 := 0) (q4 := a0) (q5 := a1) (q6 := a2) (q7 := n0) (q8 := n1) (q9 := n2) h.1 hU hp (show (-1 : Int) <= 0 /\ (0 : Int) <= 1 by decide)
 have hc : ¬ (0 < pk.length /\ (0 : Int) ≠ 0 /\ ec pk (pk.length - 1) 3 = 0 /\ ec pk (pk.length - 1) 7 = n0 /\ ec pk (pk.length - 1) 8 = n1 /\ ec pk (pk.length - 1) 9 = n2) := fun hh => hh.2.1 rfl
 rw [tadd_app hc] at hT ⊢
 have := app_ok h hT hU hn ⟨tsh_zero ha.1 hn.1 hb.1.1, tsh_zero ha.2.1 hn.2.1 hb.2.1.1, tsh_zero ha.2.2 hn.2.2 hb.2.2.1⟩ (fun v hv => ⟨.inl ⟨rfl, tsh_step1 hb.1.1 hv.1⟩, .inl ⟨rfl, tsh_step1 hb.2.1.1 hv.1⟩, .inl ⟨rfl, tsh_step1 hb.2.2.1 hv.1⟩⟩)
  ⟨tsh_end hn.1 hg.1, tsh_end hn.2.1 hg.2.1, tsh_end hn.2.2 hg.2.2⟩
 rw [Int.zero_mul, Int.add_zero] at this
 exact this
theorem fc1_dir1 {a b d x : Int} (h : (0 <= b - a -> 0 <= x) /\ (b - a <= 0 -> x <= 0)) : 0 <= fc1 a b 1 d * x := by
 unfold fc1
 rw [Int.mul_one]
 by_cases h1 : b - a > 0
 . rw [if_pos h1]; have := h.1 (by omega); omega
 . rw [if_neg h1]
   by_cases h2 : b - a < 0
   . rw [if_pos h2]; have := h.2 (by omega); omega
   . rw [if_neg h2]
     have h3 := h.1 (by omega)
     have h4 := h.2 (by omega)
     have : x = 0 := by omega
     rw [this, Int.mul_zero]; exact Int.le_refl _
theorem fc1_dir2 {a b d x : Int} (h : (0 <= b - a -> 0 <= x) /\ (b - a <= 0 -> x <= 0)) : 0 <= fc1 a b (-1) d * (-x) := by
 unfold fc1
 rw [show (b - a) * -1 = -(b - a) by omega]
 by_cases h1 : -(b - a) > 0
 . rw [if_pos h1]; have := h.2 (by omega); omega
 . rw [if_neg h1]
   by_cases h2 : -(b - a) < 0
   . rw [if_pos h2]; have := h.1 (by omega); omega
   . rw [if_neg h2]
     have h3 := h.1 (by omega)
     have h4 := h.2 (by omega)
     have : x = 0 := by omega
     rw [this, Int.neg_zero, Int.mul_zero]; exact Int.le_refl _
def ppos (m f t bg : Int) : Int := if m < 0 then min f (max bg t) else max f (min bg t)
theorem legPut_ok {s0 s1 s2 : Int} {sgs : List (List Int)} {b0 b1 b2 d0 d1 d2 f m low high e n0 n1 n2 p : Int} {x : LegS}
 (h : legOK s0 s1 s2 sgs b0 b1 b2 d0 d1 d2 f m x.pk x.ln p x.a0 x.a1 x.a2) (hb : okB3 b0 b1 b2) (hm : pm m) (hn : pm n0 /\ pm n1 /\ pm n2) (hp : low < high -> p = legS m low high) (hr : low < high -> 0 <= p /\ p <= 18014398509481984)
 (hs : low < high -> ∀ v, 1 <= v /\ v <= high - low -> (0 <= p + m * v /\ p + m * v <= plen sgs) /\ (0 <= p + m * (v - 1) /\ p + m * (v - 1) <= plen sgs) /\
  0 <= n0 * (ptAt s0 sgs 0 (p + m * v) - ptAt s0 sgs 0 (p + m * (v - 1))) /\ 0 <= n1 * (ptAt s1 sgs 1 (p + m * v) - ptAt s1 sgs 1 (p + m * (v - 1))) /\ 0 <= n2 * (ptAt s2 sgs 2 (p + m * v) - ptAt s2 sgs 2 (p + m * (v - 1)))) :
 legOK s0 s1 s2 sgs b0 b1 b2 d0 d1 d2 f m (legPut b0 b1 b2 m low high e n0 n1 n2 x).pk (legPut b0 b1 b2 m low high e n0 n1 n2 x).ln (if low < high then p + m * (high - low) else p)
  (legPut b0 b1 b2 m low high e n0 n1 n2 x).a0 (legPut b0 b1 b2 m low high e n0 n1 n2 x).a1 (legPut b0 b1 b2 m low high e n0 n1 n2 x).a2 := by
 unfold legPut
 by_cases hlh : low < high
 . rw [if_pos hlh, if_pos hlh]
   dsimp only
   rw [<- hp hlh]
   have hg := slk_ge b0 b1 b2 x.a0 x.a1 x.a2 n0 n1 n2
   have hsb := slk_bd hb x.a0 x.a1 x.a2 n0 n1 n2
   unfold legTk
   by_cases hu : slk b0 b1 b2 x.a0 x.a1 x.a2 n0 n1 n2 > 0
   . rw [if_pos hu]
     have t := takeStep h hb hn (by omega) (hr hlh) hg
     exact moveStep t ⟨.inl rfl, .inl rfl, .inl rfl⟩ hn hm (by omega) (hr hlh) (hs hlh)
   . rw [if_neg hu]
     have z : ∀ {a n b : Int}, 0 <= b -> (a ≠ n -> b <= slk b0 b1 b2 x.a0 x.a1 x.a2 n0 n1 n2) -> a = n ∨ b = 0 := fun {a n b} hb0 hh => by
      by_cases e : a = n
      . exact .inl e
      . have := hh e; right; omega
     exact moveStep h ⟨z hb.1.1 hg.1, z hb.2.1.1 hg.2.1, z hb.2.2.1 hg.2.2⟩ hn hm (by omega) (hr hlh) (hs hlh)
 . rw [if_neg hlh, if_neg hlh]
   exact h
theorem legStep_ok {s0 s1 s2 : Int} {sg : List (List Int)} {b0 b1 b2 d0 d1 d2 f t m : Int} {x : LegS} {k : Nat} (hl : okLen sg) (hsg : okSegs s0 s1 s2 sg) (hb : okB3 b0 b1 b2) (hm : m = 1 /\ f <= t ∨ m = -1 /\ t < f) (hk : k < sg.length)
 (hf : 0 <= f /\ f <= plen sg) (ht : 0 <= t /\ t <= plen sg) (h1 : m = 1 -> x.bg = plen (sg.take k)) (h2 : m = -1 -> x.bg = plen (sg.take (sg.length - k)))
 (h : legOK s0 s1 s2 sg b0 b1 b2 d0 d1 d2 f m x.pk x.ln (ppos m f t x.bg) x.a0 x.a1 x.a2) :
 legOK s0 s1 s2 sg b0 b1 b2 d0 d1 d2 f m (legStep s0 s1 s2 sg b0 b1 b2 f t m x k).pk (legStep s0 s1 s2 sg b0 b1 b2 f t m x k).ln (ppos m f t (legStep s0 s1 s2 sg b0 b1 b2 f t m x k).bg)
  (legStep s0 s1 s2 sg b0 b1 b2 f t m x k).a0 (legStep s0 s1 s2 sg b0 b1 b2 f t m x k).a1 (legStep s0 s1 s2 sg b0 b1 b2 f t m x k).a2 := by
 have hpl := plen_le hl
 have ha := h.2.2.2.2.1
 have key : ∃ j : Nat, j < sg.length /\ legI sg.length m k = (j : Int) /\ legLow x.bg (legE sg m x.bg (legI sg.length m k)) f t = max (plen (sg.take j)) (min f t) /\ legHigh x.bg (legE sg m x.bg (legI sg.length m k)) f t = min (plen (sg.take j) + ec sg j 3) (max f t) /\
  (m = 1 -> x.bg = plen (sg.take j) /\ legE sg m x.bg (legI sg.length m k) = plen (sg.take j) + ec sg j 3) /\ (m = -1 -> x.bg = plen (sg.take j) + ec sg j 3 /\ legE sg m x.bg (legI sg.length m k) = plen (sg.take j)) := by
  rcases hm with ⟨rfl, hft⟩ | ⟨rfl, hft⟩
  . have e1 := h1 rfl
    have hi : legI sg.length 1 k = (k : Int) := by unfold legI; rw [if_neg (by decide)]
    have hL := (hl.2 k hk).1
    have hE : legE sg 1 x.bg (legI sg.length 1 k) = plen (sg.take k) + ec sg k 3 := by
     unfold legE; rw [hi, e1]
     show plen (sg.take k) + 1 * ec sg k 3 = _
     omega
    refine ⟨k, hk, hi, ?_, ?_, fun _ => ⟨e1, hE⟩, fun e => by omega⟩
    . unfold legLow; rw [hE, e1]; omega
    . unfold legHigh; rw [hE, e1]; omega
  . have e2 := h2 rfl
    have hi : legI sg.length (-1) k = ((sg.length - 1 - k : Nat) : Int) := by unfold legI; rw [if_pos (by decide)]; omega
    have hj : sg.length - 1 - k < sg.length := by omega
    have hL := (hl.2 _ hj).1
    have tk := plen_take_succ sg _ hj
    rw [show sg.length - 1 - k + 1 = sg.length - k by omega] at tk
    have hE : legE sg (-1) x.bg (legI sg.length (-1) k) = plen (sg.take (sg.length - 1 - k)) := by
     unfold legE; rw [hi, e2, tk]
     show plen (sg.take (sg.length - 1 - k)) + ec sg (sg.length - 1 - k) 3 + -1 * ec sg (sg.length - 1 - k) 3 = _
     omega
    refine ⟨sg.length - 1 - k, hj, hi, ?_, ?_, fun e => by omega, fun _ => ⟨by rw [e2, tk], hE⟩⟩
    . unfold legLow; rw [hE, e2, tk]; omega
    . unfold legHigh; rw [hE, e2, tk]; omega
 obtain ⟨j, hj, hi, hlow, hhigh, k1, k2⟩ := key
 have hB := plen_nonneg hl (show j <= sg.length by omega)
 have hB2 := plen_take_le hl (show j + 1 <= sg.length by omega)
 rw [plen_take_succ sg j hj] at hB2
 have hL := (hl.2 j hj).1
 have D := okSegs_D hsg hj
 unfold legStep legSeg
 rw [hi] at hlow hhigh k1 k2 ⊢
 have hjt : ((j : Int)).toNat = j := rfl
 rw [hjt]
 generalize hlo : legLow x.bg (legE sg m x.bg (j : Int)) f t = low at *
 generalize hhi : legHigh x.bg (legE sg m x.bg (j : Int)) f t = high at *
 generalize he : legE sg m x.bg (j : Int) = e at *
 have main := legPut_ok (low := low) (high := high) (e := e) (n0 := fc1 (bgn s0 sg 0 (j : Int)) (ec sg j 0) m x.a0) (n1 := fc1 (bgn s1 sg 1 (j : Int)) (ec sg j 1) m x.a1) (n2 := fc1 (bgn s2 sg 2 (j : Int)) (ec sg j 2) m x.a2) h hb (by unfold pm; omega)
  ⟨fc1_pm ha.1, fc1_pm ha.2.1, fc1_pm ha.2.2⟩ (fun hlh => by
   unfold ppos legS
   rcases hm with ⟨rfl, hft⟩ | ⟨rfl, hft⟩
   . have := (k1 rfl).1
     rw [if_neg (by decide), if_neg (by decide)]; omega
   . have := (k2 rfl).1
     rw [if_pos (by decide), if_pos (by decide)]; omega) (fun hlh => by
   unfold ppos
   split <;> omega) (fun hlh v hv => by
   rcases hm with ⟨rfl, hft⟩ | ⟨rfl, hft⟩
   . have e1 := (k1 rfl).1
     have ep : ppos 1 f t x.bg = low := by unfold ppos; rw [if_neg (by decide)]; omega
     rw [ep]
     have q1 : low + 1 * v = plen (sg.take j) + (low + v - 1 - plen (sg.take j) + 1) := by omega
     have q2 : low + 1 * (v - 1) = plen (sg.take j) + (low + v - 1 - plen (sg.take j)) := by omega
     have hd : 0 <= low + v - 1 - plen (sg.take j) /\ low + v - 1 - plen (sg.take j) < ec sg j 3 := by omega
     rw [q1, q2]
     have r0 := ptAt_dir (c := 0) (s := s0) hl hj hd D.1
     have r1 := ptAt_dir (c := 1) (s := s1) hl hj hd D.2.1
     have r2 := ptAt_dir (c := 2) (s := s2) hl hj hd D.2.2
     exact ⟨by omega, by omega, fc1_dir1 ⟨fun g => (r0.1 g).1, fun g => (r0.2 g).2⟩, fc1_dir1 ⟨fun g => (r1.1 g).1, fun g => (r1.2 g).2⟩, fc1_dir1 ⟨fun g => (r2.1 g).1, fun g => (r2.2 g).2⟩⟩
   . have e1 := (k2 rfl).1
     have ep : ppos (-1) f t x.bg = high := by unfold ppos; rw [if_pos (by decide)]; omega
     rw [ep]
     have q1 : high + -1 * v = plen (sg.take j) + (high - v - plen (sg.take j)) := by omega
     have q2 : high + -1 * (v - 1) = plen (sg.take j) + (high - v - plen (sg.take j) + 1) := by omega
     have hd : 0 <= high - v - plen (sg.take j) /\ high - v - plen (sg.take j) < ec sg j 3 := by omega
     rw [q1, q2]
     have r0 := ptAt_dir (c := 0) (s := s0) hl hj hd D.1
     have r1 := ptAt_dir (c := 1) (s := s1) hl hj hd D.2.1
     have r2 := ptAt_dir (c := 2) (s := s2) hl hj hd D.2.2
     have ng : ∀ {n a b : Int}, 0 <= n * (-(a - b)) -> 0 <= n * (b - a) := fun {n a b} g => by rw [show b - a = -(a - b) by omega]; exact g
     exact ⟨by omega, by omega, ng (fc1_dir2 ⟨fun g => (r0.1 g).1, fun g => (r0.2 g).2⟩), ng (fc1_dir2 ⟨fun g => (r1.1 g).1, fun g => (r1.2 g).2⟩), ng (fc1_dir2 ⟨fun g => (r2.1 g).1, fun g => (r2.2 g).2⟩)⟩)
 have ebg : (legPut b0 b1 b2 m low high e (fc1 (bgn s0 sg 0 (j : Int)) (ec sg j 0) m x.a0) (fc1 (bgn s1 sg 1 (j : Int)) (ec sg j 1) m x.a1) (fc1 (bgn s2 sg 2 (j : Int)) (ec sg j 2) m x.a2) x).bg = e := by unfold legPut; split <;> rfl
 rw [ebg]
 have epos : ppos m f t e = if low < high then ppos m f t x.bg + m * (high - low) else ppos m f t x.bg := by
  rcases hm with ⟨rfl, hft⟩ | ⟨rfl, hft⟩
  . have := k1 rfl
    have g : ∀ b, ppos 1 f t b = max f (min b t) := fun b => by unfold ppos; rw [if_neg (by decide)]
    rw [g, g]
    split <;> omega
  . have := k2 rfl
    have g : ∀ b, ppos (-1) f t b = min f (max b t) := fun b => by unfold ppos; rw [if_pos (by decide)]
    rw [g, g]
    split <;> omega
 rw [epos]
 exact main
theorem legK_ok {s0 s1 s2 : Int} {sg : List (List Int)} {b0 b1 b2 d0 d1 d2 f t m : Int} {x : LegS} (hl : okLen sg) (hsg : okSegs s0 s1 s2 sg) (hb : okB3 b0 b1 b2) (hm : m = 1 /\ f <= t ∨ m = -1 /\ t < f)
 (hf : 0 <= f /\ f <= plen sg) (ht : 0 <= t /\ t <= plen sg) (hJ : legJ sg m 0 x) (h : legOK s0 s1 s2 sg b0 b1 b2 d0 d1 d2 f m x.pk x.ln (ppos m f t x.bg) x.a0 x.a1 x.a2) : ∀ k, k <= sg.length ->
 legOK s0 s1 s2 sg b0 b1 b2 d0 d1 d2 f m (legK s0 s1 s2 sg b0 b1 b2 f t m x k).pk (legK s0 s1 s2 sg b0 b1 b2 f t m x k).ln (ppos m f t (legK s0 s1 s2 sg b0 b1 b2 f t m x k).bg)
  (legK s0 s1 s2 sg b0 b1 b2 f t m x k).a0 (legK s0 s1 s2 sg b0 b1 b2 f t m x k).a1 (legK s0 s1 s2 sg b0 b1 b2 f t m x k).a2
 | 0, _ => h
 | k + 1, hk => by
  have ih := legK_ok hl hsg hb hm hf ht hJ h k (by omega)
  have J := legJ_all (s0 := s0) (s1 := s1) (s2 := s2) (f := f) (t := t) hl hb (by omega) hJ k (by omega)
  exact legStep_ok hl hsg hb hm (by omega) hf ht J.2.2.2.1 J.2.2.2.2 ih
theorem leg_all {s0 s1 s2 : Int} {sg : List (List Int)} {b0 b1 b2 d0 d1 d2 f t : Int} (hl : okLen sg) (hsg : okSegs s0 s1 s2 sg) (hb : okB3 b0 b1 b2) (hd : pm d0 /\ pm d1 /\ pm d2) (hf : 0 <= f /\ f <= plen sg) (ht : 0 <= t /\ t <= plen sg) :
 legOK s0 s1 s2 sg b0 b1 b2 d0 d1 d2 f (legM f t) (leg s0 s1 s2 sg b0 b1 b2 d0 d1 d2 f t).pk (leg s0 s1 s2 sg b0 b1 b2 d0 d1 d2 f t).ln t
  (leg s0 s1 s2 sg b0 b1 b2 d0 d1 d2 f t).a0 (leg s0 s1 s2 sg b0 b1 b2 d0 d1 d2 f t).a1 (leg s0 s1 s2 sg b0 b1 b2 d0 d1 d2 f t).a2 := by
 have hm : legM f t = 1 /\ f <= t ∨ legM f t = -1 /\ t < f := by unfold legM; split <;> omega
 have hJ : legJ sg (legM f t) 0 ⟨[], 0, d0, d1, d2, if legM f t < 0 then plen sg else 0⟩ := by
  refine ⟨⟨Int.le_refl _, by dsimp only; omega⟩, by simp, fun j hj => by simp at hj, fun e => ?_, fun e => ?_⟩
  . rw [e]; rfl
  . rw [e]
    show plen sg = plen (sg.take (sg.length - 0))
    simp
 have h0 : legOK s0 s1 s2 sg b0 b1 b2 d0 d1 d2 f (legM f t) [] 0 f d0 d1 d2 :=
  ⟨⟨fun _ => rfl, fun h => by simp at h, fun j hj => by simp at hj, fun j hj => by simp at hj⟩, Int.le_refl _, rfl, rfl, hd, ⟨rfl, rfl, rfl⟩, ⟨rfl, rfl, rfl⟩, fun u hu => by omega⟩
 have e0 : ppos (legM f t) f t (if legM f t < 0 then plen sg else 0) = f := by
  unfold ppos
  rcases hm with ⟨e, h⟩ | ⟨e, h⟩
  . rw [e, if_neg (by decide), if_neg (by decide)]; omega
  . rw [e, if_pos (by decide), if_pos (by decide)]; omega
 have main := legK_ok (d0 := d0) (d1 := d1) (d2 := d2) (x := ⟨[], 0, d0, d1, d2, if legM f t < 0 then plen sg else 0⟩) hl hsg hb hm hf ht hJ (by dsimp only; rw [e0]; exact h0) sg.length (Nat.le_refl _)
 have J := legJ_all (s0 := s0) (s1 := s1) (s2 := s2) (f := f) (t := t) hl hb (by omega) hJ sg.length (Nat.le_refl _)
 have e1 : ppos (legM f t) f t (leg s0 s1 s2 sg b0 b1 b2 d0 d1 d2 f t).bg = t := by
  unfold leg ppos
  rcases hm with ⟨e, h⟩ | ⟨e, h⟩
  . have := J.2.2.2.1 e
    rw [List.take_length] at this
    rw [if_neg (by omega)]
    rw [this]; omega
  . have := J.2.2.2.2 e
    rw [Nat.sub_self] at this
    rw [if_pos (by omega)]
    rw [this]
    have z : plen (sg.take 0) = 0 := rfl
    omega
 unfold leg at e1 ⊢
 rw [e1] at main
 exact main
theorem okRun_leg {x : RunS} (h : okRun x) : ∃ a0 a1 a2, legOK x.s0 x.s1 x.s2 x.sg x.a.bl x.b.bl x.c.bl x.d0 x.d1 x.d2 x.f (legM x.f x.t) x.pk x.ln x.t a0 a1 a2 := by
 have hb := okRun_b3 h
 obtain ⟨hp, ha, hb', hc, hd, hf, ht, h1, h2⟩ := h
 rw [h1, h2]
 exact ⟨_, _, _, leg_all (okPath_len hp) hp.2.1 hb hd hf ht⟩
end Go.Proofs.YtneingpnkdeooaaGreat
namespace U
open Go
def okW (b0 b1 b2 : Int) (pk : List (List Int)) : Prop :=
 ∀ j, j < pk.length -> ((pm (ec pk j 4) /\ pm (ec pk j 5) /\ pm (ec pk j 6)) /\ (pm (ec pk j 7) /\ pm (ec pk j 8) /\ pm (ec pk j 9))) /\
  (ec pk j 3 = 0 -> (ec pk j 4 ≠ ec pk j 7 -> b0 <= ec pk j 1) /\ (ec pk j 5 ≠ ec pk j 8 -> b1 <= ec pk j 1) /\ (ec pk j 6 ≠ ec pk j 9 -> b2 <= ec pk j 1))
def RunS.next (x : RunS) (u to : Int) : RunS :=
  { x with
    d0 := tface x.pk x.d0 0 u, d1 := tface x.pk x.d1 1 u, d2 := tface x.pk x.d2 2 u, f := tplace x.pk x.f u, t := to,
    pk := (leg x.s0 x.s1 x.s2 x.sg x.a.bl x.b.bl x.c.bl (tface x.pk x.d0 0 u) (tface x.pk x.d1 1 u) (tface x.pk x.d2 2 u) (tplace x.pk x.f u) to).pk,
    ln := (leg x.s0 x.s1 x.s2 x.sg x.a.bl x.b.bl x.c.bl (tface x.pk x.d0 0 u) (tface x.pk x.d1 1 u) (tface x.pk x.d2 2 u) (tplace x.pk x.f u) to).ln }
end U
namespace Go.Proofs.YtneingpnkdeooaaGreat
open Go Go.HL U
theorem tadd_okW {b0 b1 b2 : Int} {pk : List (List Int)} {ln q0 q1 q2 q3 q4 q5 q6 q7 q8 q9 : Int} (h : okW b0 b1 b2 pk) (h1 : 0 <= q1) (ha : (pm q4 /\ pm q5 /\ pm q6) /\ (pm q7 /\ pm q8 /\ pm q9))
 (hg : q3 = 0 -> (q4 ≠ q7 -> b0 <= q1) /\ (q5 ≠ q8 -> b1 <= q1) /\ (q6 ≠ q9 -> b2 <= q1)) : okW b0 b1 b2 (tadd pk ln [q0, q1, q2, q3, q4, q5, q6, q7, q8, q9]).1 := by
 by_cases hc : 0 < pk.length /\ q3 ≠ 0 /\ ec pk (pk.length - 1) 3 = q3 /\ ec pk (pk.length - 1) 7 = q7 /\ ec pk (pk.length - 1) 8 = q8 /\ ec pk (pk.length - 1) 9 = q9
 . rw [tadd_more hc]
   have hp := hc.1
   have es : ∀ j c, ec (pk.set (pk.length - 1) (more (pk.getD (pk.length - 1) []) q1)) j c = if pk.length - 1 = j then (more (pk.getD (pk.length - 1) []) q1).getD c 0 else ec pk j c := fun j c => ec_set _ _ _ _ _ (by omega)
   have m : ∀ c, c ≠ 1 -> c < 10 -> (more (pk.getD (pk.length - 1) []) q1).getD c 0 = ec pk (pk.length - 1) c := fun c hc hc2 => by
    have hc : c = 0 ∨ c = 2 ∨ c = 3 ∨ c = 4 ∨ c = 5 ∨ c = 6 ∨ c = 7 ∨ c = 8 ∨ c = 9 := by omega
    rcases hc with rfl | rfl | rfl | rfl | rfl | rfl | rfl | rfl | rfl <;> rfl
   have eq : ∀ k c, c ≠ 1 -> c < 10 -> ec (pk.set (pk.length - 1) (more (pk.getD (pk.length - 1) []) q1)) k c = ec pk k c := fun k c hc hc2 => by
    rw [es]
    split
    . rename_i e; rw [m c hc hc2, e]
    . rfl
   intro j hj
   dsimp only at hj ⊢
   rw [List.length_set] at hj
   have hh := h j hj
   rw [eq j 3 (by decide) (by decide), eq j 4 (by decide) (by decide), eq j 5 (by decide) (by decide), eq j 6 (by decide) (by decide), eq j 7 (by decide) (by decide), eq j 8 (by decide) (by decide), eq j 9 (by decide) (by decide)]
   refine ⟨hh.1, fun e3 => ?_⟩
   have hne : ¬ pk.length - 1 = j := fun e => by
    have := hc.2.2.1
    rw [e] at this
    omega
   rw [es, if_neg hne]
   exact hh.2 e3
 . rw [tadd_app hc]
   intro j hj
   dsimp only at hj ⊢
   have es : ∀ j c, ec (pk ++ [[ln, q1, q2, q3, q4, q5, q6, q7, q8, q9]]) j c = if j < pk.length then ec pk j c else ec [[ln, q1, q2, q3, q4, q5, q6, q7, q8, q9]] (j - pk.length) c := fun j c => ec_app _ _ _ _
   rw [List.length_append] at hj
   have hj : j < pk.length + 1 := hj
   rw [es, es, es, es, es, es, es, es]
   by_cases e : j < pk.length
   . rw [if_pos e, if_pos e, if_pos e, if_pos e, if_pos e, if_pos e, if_pos e, if_pos e]
     exact h j e
   . rw [if_neg e, if_neg e, if_neg e, if_neg e, if_neg e, if_neg e, if_neg e, if_neg e, show j - pk.length = 0 by omega]
     exact ⟨ha, hg⟩
def okWL (b0 b1 b2 : Int) (x : LegS) : Prop := okW b0 b1 b2 x.pk /\ pm x.a0 /\ pm x.a1 /\ pm x.a2
theorem legStep_okW {s0 s1 s2 : Int} {sg : List (List Int)} {b0 b1 b2 f t m : Int} {x : LegS} {k : Nat} (hb : okB3 b0 b1 b2) (hm : pm m) (h : okWL b0 b1 b2 x) : okWL b0 b1 b2 (legStep s0 s1 s2 sg b0 b1 b2 f t m x k) := by
 obtain ⟨h, ha⟩ := h
 unfold legStep legSeg
 generalize legI sg.length m k = i at *
 have n0 : pm (fc1 (bgn s0 sg 0 i) (ec sg i.toNat 0) m x.a0) := fc1_pm ha.1
 have n1 : pm (fc1 (bgn s1 sg 1 i) (ec sg i.toNat 1) m x.a1) := fc1_pm ha.2.1
 have n2 : pm (fc1 (bgn s2 sg 2 i) (ec sg i.toNat 2) m x.a2) := fc1_pm ha.2.2
 generalize fc1 (bgn s0 sg 0 i) (ec sg i.toNat 0) m x.a0 = v0 at *
 generalize fc1 (bgn s1 sg 1 i) (ec sg i.toNat 1) m x.a1 = v1 at *
 generalize fc1 (bgn s2 sg 2 i) (ec sg i.toNat 2) m x.a2 = v2 at *
 generalize legLow x.bg (legE sg m x.bg i) f t = low
 generalize legHigh x.bg (legE sg m x.bg i) f t = high
 generalize legE sg m x.bg i = e
 unfold legPut
 by_cases hlh : low < high
 . rw [if_pos hlh]
   have m0 : m ≠ 0 := by unfold pm at hm; omega
   have hg := slk_ge b0 b1 b2 x.a0 x.a1 x.a2 v0 v1 v2
   have hsb := slk_bd hb x.a0 x.a1 x.a2 v0 v1 v2
   refine ⟨tadd_okW ?_ (by omega) ⟨⟨by assumption, by assumption, by assumption⟩, by assumption, by assumption, by assumption⟩ (fun g => (m0 g).elim), by assumption, by assumption, by assumption⟩
   unfold legTk
   split
   . exact tadd_okW h (by omega) ⟨ha, by assumption, by assumption, by assumption⟩ (fun _ => hg)
   . exact h
 . rw [if_neg hlh]; exact ⟨h, ha⟩
theorem legK_okW {s0 s1 s2 : Int} {sg : List (List Int)} {b0 b1 b2 f t m : Int} {x : LegS} (hb : okB3 b0 b1 b2) (hm : pm m) (h : okWL b0 b1 b2 x) : ∀ k, okWL b0 b1 b2 (legK s0 s1 s2 sg b0 b1 b2 f t m x k)
 | 0 => h
 | k + 1 => legStep_okW hb hm (legK_okW hb hm h k)
theorem leg_okW {s0 s1 s2 : Int} {sg : List (List Int)} {b0 b1 b2 d0 d1 d2 f t : Int} (hb : okB3 b0 b1 b2) (hd : pm d0 /\ pm d1 /\ pm d2) : okW b0 b1 b2 (leg s0 s1 s2 sg b0 b1 b2 d0 d1 d2 f t).pk := by
 unfold leg
 exact (legK_okW (x := ⟨[], 0, d0, d1, d2, if legM f t < 0 then plen sg else 0⟩) hb (legM_pm f t) ⟨fun j hj => absurd hj (Nat.not_lt_zero _), hd⟩ sg.length).1
theorem tsh_face {bl mv w n at_ L u : Int} (hw : pm w) (hn : pm n) (hb : 0 <= bl) (hg : mv = 0 -> w ≠ n -> bl <= L) (hu : at_ <= u) (hl : ¬ (mv = 0 /\ at_ < u /\ u < at_ + L)) (hu2 : u <= at_ + L) :
 tsh bl mv w n at_ u = bsh bl (if mv ≠ 0 ∨ u = at_ + L then n else w) := by
 by_cases h0 : mv = 0
 . subst h0
   by_cases e : u = at_ + L
   . rw [if_pos (.inr e), e]; exact tsh_end hn (hg rfl)
   . rw [if_neg (by simp [e])]
     have : u = at_ := by omega
     rw [this]; exact tsh_zero hw hn hb
 . rw [if_pos (.inl h0)]; exact tsh_move h0
theorem shf_face {pk : List (List Int)} {ln b0 b1 b2 d0 d1 d2 u : Int} (h : okTrk pk ln) (hW : okW b0 b1 b2 pk) (hb : okB3 b0 b1 b2) (hd : pm d0 /\ pm d1 /\ pm d2) (hu : 0 <= u /\ u <= ln) (hl : tloose pk u = false) :
 (tshf pk d0 b0 u 0 = bsh b0 (tface pk d0 0 u) /\ tshf pk d1 b1 u 1 = bsh b1 (tface pk d1 1 u) /\ tshf pk d2 b2 u 2 = bsh b2 (tface pk d2 2 u)) /\ (pm (tface pk d0 0 u) /\ pm (tface pk d1 1 u) /\ pm (tface pk d2 2 u)) := by
 rcases tfind_spec h hu.2 with ⟨_, e⟩ | ⟨j, j1, j2, j3, j4⟩
 . have z : tfind pk u < 0 := by omega
   unfold tshf tface
   rw [if_pos z, if_pos z, if_pos z, if_pos z, if_pos z, if_pos z]
   exact ⟨⟨rfl, rfl, rfl⟩, hd⟩
 . have a := at_le h hu.1 j1 j4
   have ee : endp pk j = ec pk j 0 + ec pk j 1 := rfl
   have w := hW j j1
   unfold tloose at hl
   rw [j2] at hl
   have ht : ((j : Int)).toNat = j := rfl
   rw [ht] at hl
   have nl : ¬ (ec pk j 3 = 0 /\ ec pk j 0 < u /\ u < ec pk j 0 + ec pk j 1) := fun g => by
    rw [decide_eq_true (show (0 : Int) <= (j : Int) by omega), decide_eq_true (show ec pk j 0 < u by omega), decide_eq_true (show u < endp pk j by omega), g.1] at hl
    simp at hl
   rw [shf_at j2, shf_at j2, shf_at j2, tface_of j2, tface_of j2, tface_of j2]
   have g0 := tsh_face (bl := b0) w.1.1.1 w.1.2.1 hb.1.1 (fun g => (w.2 g).1) a nl (by omega)
   have g1 := tsh_face (bl := b1) w.1.1.2.1 w.1.2.2.1 hb.2.1.1 (fun g => (w.2 g).2.1) a nl (by omega)
   have g2 := tsh_face (bl := b2) w.1.1.2.2 w.1.2.2.2 hb.2.2.1 (fun g => (w.2 g).2.2) a nl (by omega)
   refine ⟨⟨g0, g1, g2⟩, ?_⟩
   by_cases e : ec pk j 3 ≠ 0 ∨ u = ec pk j 0 + ec pk j 1
   . rw [if_pos e, if_pos e, if_pos e]; exact w.1.2
   . rw [if_neg e, if_neg e, if_neg e]; exact w.1.1
theorem loose_end {pk : List (List Int)} {ln : Int} (h : okTrk pk ln) : tloose pk ln = false := by
 rcases tfind_spec h (Int.le_refl ln) with ⟨_, e⟩ | ⟨j, j1, j2, j3, j4⟩
 . unfold tloose
   rw [decide_eq_false (show ¬ (0 : Int) <= tfind pk ln by omega)]; rfl
 . have := at_bd h j1
   unfold tloose
   rw [j2]
   have ht : ((j : Int)).toNat = j := rfl
   rw [ht, decide_eq_false (show ¬ ln < endp pk j by omega)]; simp
theorem place_bd {s0 s1 s2 : Int} {sgs : List (List Int)} {b0 b1 b2 d0 d1 d2 f m ln p a0 a1 a2 : Int} {pk : List (List Int)} (h : legOK s0 s1 s2 sgs b0 b1 b2 d0 d1 d2 f m pk ln p a0 a1 a2) (hf : 0 <= f /\ f <= plen sgs) :
 ∀ n : Nat, (n : Int) <= ln -> 0 <= tplace pk f n /\ tplace pk f n <= plen sgs
 | 0, _ => by
  have := h.2.2.2.1
  show 0 <= tplace pk f 0 /\ tplace pk f 0 <= plen sgs
  omega
 | n + 1, hn => by
  have ih := place_bd h hf n (by omega)
  have e : ((n + 1 : Nat) : Int) - 1 = n := by omega
  rcases (h.2.2.2.2.2.2.2 ((n + 1 : Nat) : Int) (by omega)).1 with ⟨g, _⟩ | ⟨_, g, _⟩
  . rw [e] at g; rw [g]; exact ih
  . exact g
theorem okRun_W {x : RunS} (h : okRun x) : okW x.a.bl x.b.bl x.c.bl x.pk := by
 have hd := h.2.2.2.2.1
 rw [h.2.2.2.2.2.2.2.1]
 exact leg_okW (okRun_b3 h) hd
theorem okRun_place {x : RunS} (h : okRun x) {u : Int} (hu : 0 <= u /\ u <= x.ln) : 0 <= tplace x.pk x.f u /\ tplace x.pk x.f u <= plen x.sg := by
 obtain ⟨a0, a1, a2, L⟩ := okRun_leg h
 have := place_bd L h.2.2.2.2.2.1 u.toNat (by omega)
 rw [show ((u.toNat : Nat) : Int) = u by omega] at this
 exact this
theorem okRun_face {x : RunS} (h : okRun x) {u : Int} (hu : 0 <= u /\ u <= x.ln) (hl : tloose x.pk u = false) :
 (tshf x.pk x.d0 x.a.bl u 0 = bsh x.a.bl (tface x.pk x.d0 0 u) /\ tshf x.pk x.d1 x.b.bl u 1 = bsh x.b.bl (tface x.pk x.d1 1 u) /\ tshf x.pk x.d2 x.c.bl u 2 = bsh x.c.bl (tface x.pk x.d2 2 u)) /\ (pm (tface x.pk x.d0 0 u) /\ pm (tface x.pk x.d1 1 u) /\ pm (tface x.pk x.d2 2 u)) :=
 shf_face (okRun_pre h).2.2.1 (okRun_W h) (okRun_b3 h) h.2.2.2.2.1 hu hl
theorem okRun_next {x : RunS} (h : okRun x) {u to : Int} (hu : 0 <= u /\ u <= x.ln) (hl : tloose x.pk u = false) (ht : 0 <= to /\ to <= plen x.sg) : okRun (x.next u to) := by
 have p := okRun_place h hu
 have f := (okRun_face h hu hl).2
 obtain ⟨h1, h2, h3, h4, _⟩ := h
 exact ⟨h1, h2, h3, h4, f, p, ht, rfl, rfl⟩
theorem next_end {x : RunS} (h : okRun x) {u to : Int} (hu : 0 <= u /\ u <= x.ln) (hl : tloose x.pk u = false) (ht : 0 <= to /\ to <= plen x.sg) : tplace (x.next u to).pk (x.next u to).f (x.next u to).ln = to := by
 obtain ⟨a0, a1, a2, L⟩ := okRun_leg (okRun_next h hu hl ht)
 exact L.2.2.1
end Go.Proofs.YtneingpnkdeooaaGreat
namespace U
theorem turn_next {x : RunS} (h : okRun x) {u to : Int} (hu : 0 <= u /\ u <= x.ln) (hl : tloose x.pk u = false) (ht : 0 <= to /\ to <= plen x.sg) :
 turnR x.s0 x.s1 x.s2 x.sg x.a.bl x.b.bl x.c.bl x.pk x.ln x.f x.d0 x.d1 x.d2 true u to = ⟨(x.next u to).pk, (x.next u to).ln, (x.next u to).f, (x.next u to).d0, (x.next u to).d1, (x.next u to).d2, true⟩ := by
 unfold turnR RunS.next
 rw [if_pos ⟨rfl, hl⟩, clamp_in (Go.Proofs.YtneingpnkdeooaaGreat.okRun_place h hu), clamp_in ht]
open Go
def nomi (st og sg : Int) (pt : List (List Int)) (s : Int) (sgs : List (List Int)) (c : Nat) (p : Int) : Int := mot st og sg pt (ptAt s sgs c p)
end U
namespace Go.Proofs.YtneingpnkdeooaaGreat
open Go Go.HL U
attribute [local irreducible] hfun bodyT fragT
theorem lfA_cons (r : List Int) (l : List (List Int)) (i s : Int) : lfA (r :: l) i s = if s < r.getD 3 0 then (i, s) else lfA l (i + 1) (s - r.getD 3 0) := rfl
end Go.Proofs.YtneingpnkdeooaaGreat
namespace U
open Go
structure PS where
 m0 : Int
 m1 : Int
 m2 : Int
 t0 : Int
 t1 : Int
 t2 : Int
def RunS.N0 (x : RunS) (u : Int) : Int := nomi x.a.st x.a.og x.a.sg x.a.pit x.s0 x.sg 0 (tplace x.pk x.f u)
def RunS.N1 (x : RunS) (u : Int) : Int := nomi x.b.st x.b.og x.b.sg x.b.pit x.s1 x.sg 1 (tplace x.pk x.f u)
def RunS.N2 (x : RunS) (u : Int) : Int := nomi x.c.st x.c.og x.c.sg x.c.pit x.s2 x.sg 2 (tplace x.pk x.f u)
def RunS.at (x : RunS) (u : Int) : PS := ⟨x.M0 u, x.M1 u, x.M2 u, x.N0 u, x.N1 u, x.N2 u⟩
def okTr (x : RunS) : Prop := okRun x /\ x.f = 0 /\ x.t = plen x.sg /\ x.d0 = 1 /\ x.d1 = 1 /\ x.d2 = 1
end U
namespace Go.Proofs.YtneingpnkdeooaaGreat
open Go Go.HL U
def SDirs0 (hA : List HV) (pA : List (List HC)) : SR :=
 match hA, pA with
 | [.ce (.int .i64 n)], [] => .det (n = 0) ⟨.agg [.int .i64 1, .int .i64 1, .int .i64 1], false, [], []⟩
 | _, _ => .fail
def STrack (hA : List HV) (pA : List (List HC)) : SR :=
 match hA, pA with
 | [.ce (.sl false [4] l), .ce (.sl false [4] ax), .ce (.int .i64 m), .ce (.int .i64 ds)], [] => .all ((0 <= m /\ m <= 5) /\ ds = 0 /\ l.length <= 9223372036854775807 /\ ax.length <= 9223372036854775807) RunS okTr (fun x => ⟨.agg [.int .i64 x.s0, .int .i64 x.s1, .int .i64 x.s2, .sl false [4, 4, 4, 4, 4, 4, 4] x.sg, .sl false [4, 4, 4] x.mks, .int .i64 x.a.st, .int .i64 x.a.sp, .int .i64 x.a.ac, .int .i64 x.a.je, .int .i64 (-16777216), .int .i64 16777216, .int .i64 x.a.bl, .int .i64 x.a.og, .int .i64 x.a.sg, .sl false [4] x.a.pit, .int .i64 x.b.st, .int .i64 x.b.sp, .int .i64 x.b.ac, .int .i64 x.b.je, .int .i64 (-16777216), .int .i64 16777216, .int .i64 x.b.bl, .int .i64 x.b.og, .int .i64 x.b.sg, .sl false [4] x.b.pit, .int .i64 x.c.st, .int .i64 x.c.sp, .int .i64 x.c.ac, .int .i64 x.c.je, .int .i64 (-16777216), .int .i64 16777216, .int .i64 x.c.bl, .int .i64 x.c.og, .int .i64 x.c.sg, .sl false [4] x.c.pit, .sl false [4, 4, 4, 4, 4, 4, 4, 4, 4, 4] x.pk, .int .i64 x.ln, .int .i64 x.f, .int .i64 x.d0, .int .i64 x.d1, .int .i64 x.d2], false, [], []⟩)
 | _, _ => .fail
def tabTrack : List (FuncId × HL.Spec) := [(36, SPath), (37, SAxes), (28, SPLen), (38, SDirs0), (34, SLeg)]
noncomputable def CTrack : Ctx := ⟨Tryz.prog, gam tabTrack, Tryz.f16.ntmps, [], []⟩
theorem vcTrack (l ax : List (List Int)) (m ds : Int) (Q : Res -> Prop) : (nfun true CTrack Tryz.f16 (bodyOf Tryz.f16) [.ce (.sl false [4] l), .ce (.sl false [4] ax), .ce (.int .i64 m), .ce (.int .i64 ds)] [] Q) =
 ((0 <= m /\ m <= 5 /\ l.length <= 9223372036854775807) /\ (∃ (x : BSt), okPath x.s0 x.s1 x.s2 x.sg x.mks) /\ ∀ (x : BSt), okPath x.s0 x.s1 x.s2 x.sg x.mks -> ax.length <= 9223372036854775807 /\ (∃ (x : AxV × AxV × AxV), okAx x.1 /\ okAx x.snd.1 /\ okAx x.snd.2) /\ ∀ (x_1 : AxV × AxV × AxV), okAx x_1.1 /\ okAx x_1.snd.1 /\ okAx x_1.snd.2 -> ds = 0 /\ ∀ (x3 : Int), x3 = 1 -> ∀ (x4 : Int), x4 = 1 -> ∀ (x5 : Int), x5 = 1 -> okLen x.sg /\ ∀ (x6 : Int), x6 = plen x.sg -> (okLen x.sg /\ okPts x.s0 x.s1 x.s2 x.sg /\ okB3 x_1.1.bl x_1.snd.1.bl x_1.snd.2.bl) /\ (∃ (x_2 : LegS), x_2 = leg x.s0 x.s1 x.s2 x.sg x_1.1.bl x_1.snd.1.bl x_1.snd.2.bl x3 x4 x5 (clamp (plen x.sg) (0 : Int)) (clamp (plen x.sg) x6)) /\ ∀ (x_2 : LegS), x_2 = leg x.s0 x.s1 x.s2 x.sg x_1.1.bl x_1.snd.1.bl x_1.snd.2.bl x3 x4 x5 (clamp (plen x.sg) (0 : Int)) (clamp (plen x.sg) x6) -> Q ⟨.agg [.int .i64 x.s0, .int .i64 x.s1, .int .i64 x.s2, .sl false [4, 4, 4, 4, 4, 4, 4] x.sg, .sl false [4, 4, 4] x.mks, .int .i64 x_1.1.st, .int .i64 x_1.1.sp, .int .i64 x_1.1.ac, .int .i64 x_1.1.je, .int .i64 (-16777216), .int .i64 16777216, .int .i64 x_1.1.bl, .int .i64 x_1.1.og, .int .i64 x_1.1.sg, .sl false [4] x_1.1.pit, .int .i64 x_1.snd.1.st, .int .i64 x_1.snd.1.sp, .int .i64 x_1.snd.1.ac, .int .i64 x_1.snd.1.je, .int .i64 (-16777216), .int .i64 16777216, .int .i64 x_1.snd.1.bl, .int .i64 x_1.snd.1.og, .int .i64 x_1.snd.1.sg, .sl false [4] x_1.snd.1.pit, .int .i64 x_1.snd.2.st, .int .i64 x_1.snd.2.sp, .int .i64 x_1.snd.2.ac, .int .i64 x_1.snd.2.je, .int .i64 (-16777216), .int .i64 16777216, .int .i64 x_1.snd.2.bl, .int .i64 x_1.snd.2.og, .int .i64 x_1.snd.2.sg, .sl false [4] x_1.snd.2.pit, .sl false [4, 4, 4, 4, 4, 4, 4, 4, 4, 4] x_2.pk, .int .i64 x_2.ln, .int .i64 (clamp (plen x.sg) (0 : Int)), .int .i64 x3, .int .i64 x4, .int .i64 x5], false, [], []⟩) := by kernel_rfl
theorem vcDirs0 (n : Int) (Q : Res -> Prop) : (nfun true CDirs Tryz.f38 (bodyOf Tryz.f38) [.ce (.int .i64 n)] [] Q) =
 (((0 : Int) < 8 /\ (8 : Int) <= 4611686018427387904) /\ ∀ (x1 : Int), x1 = n % 8 -> (2 : Int) ≠ (0 : Int) /\ ∀ (x2 : Int), x2 = Int.tmod x1 2 -> (-9223372036854775808 <= x2 * 2 /\ x2 * 2 <= 9223372036854775807) /\ ∀ (x3 : Int), x3 = x2 * 2 -> (-9223372036854775808 <= 1 - x3 /\ (1 : Int) - x3 <= 9223372036854775807) /\ ∀ (x4 : Int), x4 = 1 - x3 -> (2 : Int) ≠ (0 : Int) /\ (-9223372036854775808 <= Int.tdiv x1 2 /\ Int.tdiv x1 2 <= 9223372036854775807) /\ ∀ (x5 : Int), x5 = Int.tdiv x1 2 -> (2 : Int) ≠ (0 : Int) /\ ∀ (x6 : Int), x6 = Int.tmod x5 2 -> (-9223372036854775808 <= x6 * 2 /\ x6 * 2 <= 9223372036854775807) /\ ∀ (x7 : Int), x7 = x6 * 2 -> (-9223372036854775808 <= 1 - x7 /\ (1 : Int) - x7 <= 9223372036854775807) /\ ∀ (x8 : Int), x8 = 1 - x7 -> (4 : Int) ≠ (0 : Int) /\ (-9223372036854775808 <= Int.tdiv x1 4 /\ Int.tdiv x1 4 <= 9223372036854775807) /\
 ∀ (x9 : Int), x9 = Int.tdiv x1 4 -> (-9223372036854775808 <= x9 * 2 /\ x9 * 2 <= 9223372036854775807) /\ ∀ (x10 : Int), x10 = x9 * 2 -> (-9223372036854775808 <= 1 - x10 /\ (1 : Int) - x10 <= 9223372036854775807) /\ ∀ (x11 : Int), x11 = 1 - x10 -> Q ⟨.agg [.int .i64 x4, .int .i64 x8, .int .i64 x11], false, [], []⟩) := by kernel_rfl
section
attribute [local irreducible] hfun bodyT fragT
theorem sDirs0 : Sound Tryz.prog 38 SDirs0 := by
 refine sound_of (C := CDirs) tabDirs Tryz.func38 (by kernel_rfl) (by decide +kernel) (by kernel_rfl) rfl ⟨sMod, trivial⟩ (loops0 (by kernel_rfl)) ?_
 intro hA pA R h
 unfold SDirs0 at h
 split at h
 case h_2 => exfalso; exact h
 rename_i n
 obtain ⟨rfl, hq⟩ := h
 refine byVC (vcDirs0 0 R) ⟨by decide, ?_⟩
 rintro _ rfl
 refine ⟨by decide, ?_⟩
 rintro _ rfl
 refine ⟨by decide, ?_⟩
 rintro _ rfl
 refine ⟨by decide, ?_⟩
 rintro _ rfl
 refine ⟨by decide, by decide, ?_⟩
 rintro _ rfl
 refine ⟨by decide, ?_⟩
 rintro _ rfl
 refine ⟨by decide, ?_⟩
 rintro _ rfl
 refine ⟨by decide, ?_⟩
 rintro _ rfl
 refine ⟨by decide, by decide, ?_⟩
 rintro _ rfl
 refine ⟨by decide, ?_⟩
 rintro _ rfl
 refine ⟨by decide, ?_⟩
 rintro _ rfl
 exact hq
theorem sTrack : Sound Tryz.prog 16 STrack := by
 refine sound_of (C := CTrack) tabTrack Tryz.func16 (by kernel_rfl) (by decide +kernel) (by kernel_rfl) rfl ⟨sPath, sAxes, sPLen, sDirs0, sLeg, trivial⟩ (loops0 (by kernel_rfl)) ?_
 intro hA pA R h
 unfold STrack at h
 split at h
 case h_2 => exfalso; exact h
 rename_i l ax m ds
 obtain ⟨⟨hm, hds, hl, ha⟩, _, hR⟩ := h
 refine byVC (vcTrack l ax m ds R) ⟨⟨hm.1, hm.2, hl⟩, okPath_ex, fun x hx => ⟨ha, ?_, fun y hy => ?_⟩⟩
 . obtain ⟨a, h⟩ := okAx_ex
   exact ⟨(a, a, a), h, h, h⟩
 . have hL := okPath_len hx
   have hp := plen_le hL
   refine ⟨hds, fun x3 e3 x4 e4 x5 e5 => ⟨hL, fun x6 e6 => ⟨⟨hL, okPath_pts hx, ?_⟩, ⟨_, rfl⟩, fun w hw => ?_⟩⟩⟩
   . have := hy.1.2.2.2.2.1
     have := hy.2.1.2.2.2.2.1
     have := hy.2.2.2.2.2.2.1
     unfold okB3; omega
   . have c1 : clamp (plen x.sg) 0 = 0 := clamp_in (by omega)
     have c2 : clamp (plen x.sg) x6 = plen x.sg := by rw [e6]; exact clamp_in (by omega)
     exact hR ⟨x.s0, x.s1, x.s2, x.sg, x.mks, y.1, y.2.1, y.2.2, x3, x4, x5, clamp (plen x.sg) 0, clamp (plen x.sg) x6, w.pk, w.ln⟩
      ⟨⟨hx, hy.1, hy.2.1, hy.2.2, ⟨.inl e3, .inl e4, .inl e5⟩, clamp_bd hp.1, clamp_bd hp.1, by rw [hw]; rfl, by rw [hw]; rfl⟩, c1, c2, e3, e4, e5⟩
theorem okTr_ex : ∃ x, okTr x := by
 obtain ⟨a, ha⟩ := okAx_ex
 have hp : okPath 0 0 0 [] [] := ⟨by unfold b3; decide, okSegs_nil _ _ _, by decide, by decide⟩
 have h0 : (0 : Int) <= 0 /\ 0 <= plen [] := by decide
 exact ⟨⟨0, 0, 0, [], [], a, a, a, 1, 1, 1, 0, 0, _, _⟩, ⟨hp, ha, ha, ha, ⟨.inl rfl, .inl rfl, .inl rfl⟩, h0, h0, rfl, rfl⟩, rfl, rfl, rfl, rfl, rfl⟩
end
def SUnit (hA : List HV) (pA : List (List HC)) : SR :=
 match hA, pA with
 | [.ce (.int .i64 u)], [] => .det (0 <= u /\ u <= 9223372036854775807) ⟨.ce (.int .i64 (u / 256)), false, [], []⟩
 | _, _ => .fail
def tabUnit : List (FuncId × HL.Spec) := [(52, SFloor)]
noncomputable def CUnit : Ctx := ⟨Tryz.prog, gam tabUnit, Tryz.f31.ntmps, [], []⟩
theorem vcUnit (u : Int) (Q : Res -> Prop) : (nfun true CUnit Tryz.f31 (bodyOf Tryz.f31) [.ce (.int .i64 u)] [] Q) =
 (((-9223372036854775807 <= u /\ u <= 9223372036854775807) /\ (0 : Int) < 256) /\ ∀ (x1 : Int), x1 = u / 256 -> Q ⟨.ce (.int .i64 x1), false, [], []⟩) := by kernel_rfl
def SRHo (hA : List HV) (pA : List (List HC)) : SR :=
 match hA, pA with
 | [.ce (.sl false [4] l), .ce (.sl false [4] ax), .ce (.int .i64 u), .ce (.int .i64 s)], [] => .det (l.length <= 9223372036854775807 /\ ax.length <= 9223372036854775807) okR
 | _, _ => .fail
def tabRHo : List (FuncId × HL.Spec) := [(24, SAwake), (16, STrack), (11, SMod), (27, SStart2), (26, STrnG), (30, SFace), (29, SLoose), (21, SPlace), (19, SMotors), (31, SUnit)]
def hRHo : Nat -> Bool := fun s => Nat.beq s 116
def anRHo : LAnn := ⟨[9, 12, 17, 18, 19, 20, 116], [12], [1000009, 1000012, 1000017, 1000018, 1000019, 1000020], hRHo⟩
def shRH (w n a b bl : Int) : Prop := (-4398046511104 <= a /\ a <= 4398046511104) /\ (-4398046511104 <= b /\ b <= 4398046511104) /\ (0 <= bl /\ bl <= 4096) /\ (w = n -> b - a = 0) /\ (w < n -> b - a = bl) /\ (n < w -> b - a = -bl)
def LRHo (v : LV) : LR :=
 match v with
 | ([.ce (.ptr 1000009 0), .ce (.ptr 1000012 0), .ce (.ptr 1000017 0), .ce (.ptr 1000018 0), .ce (.ptr 1000019 0), .ce (.ptr 1000020 0), .ce (.num .i64 i)], [rb, [.int .i64 m0, .int .i64 m1, .int .i64 m2, .int .i64 m3, .int .i64 m4, .int .i64 m5], [.int .i64 w0, .int .i64 w1, .int .i64 w2], [.int .i64 n0, .int .i64 n1, .int .i64 n2], [.int .i64 a0, .int .i64 a1, .int .i64 a2], [.int .i64 b0, .int .i64 b1, .int .i64 b2]]) =>
  .det (i = 0 /\ ∃ x, rb = runC x /\ shRH w0 n0 a0 b0 x.a.bl /\ shRH w1 n1 a1 b1 x.b.bl /\ shRH w2 n2 a2 b2 x.c.bl) (.exit 0) ([.ce (.ptr 1000012 0)], [rb, [.int .i64 m0, .int .i64 m1, .int .i64 m2, .int .i64 m3, .int .i64 m4, .int .i64 m5], [.int .i64 w0, .int .i64 w1, .int .i64 w2], [.int .i64 n0, .int .i64 n1, .int .i64 n2], [.int .i64 a0, .int .i64 a1, .int .i64 a2], [.int .i64 b0, .int .i64 b1, .int .i64 b2]])
 | _ => .fail
noncomputable def CRHo : Ctx := ⟨Tryz.prog, gam tabRHo, Tryz.f7.ntmps, [(15, anRHo, LRHo)], []⟩
theorem vbRH0 (x : RunS) (m0 m1 m2 m3 m4 m5 w0 w1 w2 n0 n1 n2 a0 a1 a2 b0 b1 b2 : Int) (K : HEx -> LV -> Prop) : (nbodyT true CRHo anRHo (nthLoop Tryz.f7 0) (([.ce (.ptr 1000009 0), .ce (.ptr 1000012 0), .ce (.ptr 1000017 0), .ce (.ptr 1000018 0), .ce (.ptr 1000019 0), .ce (.ptr 1000020 0), .ce (.num .i64 0)], [[.int .i64 x.s0, .int .i64 x.s1, .int .i64 x.s2, .sl false [4, 4, 4, 4, 4, 4, 4] x.sg, .sl false [4, 4, 4] x.mks, .int .i64 x.a.st, .int .i64 x.a.sp, .int .i64 x.a.ac, .int .i64 x.a.je, .int .i64 (-16777216), .int .i64 16777216, .int .i64 x.a.bl, .int .i64 x.a.og, .int .i64 x.a.sg, .sl false [4] x.a.pit, .int .i64 x.b.st, .int .i64 x.b.sp, .int .i64 x.b.ac, .int .i64 x.b.je, .int .i64 (-16777216), .int .i64 16777216, .int .i64 x.b.bl, .int .i64 x.b.og, .int .i64 x.b.sg, .sl false [4] x.b.pit, .int .i64 x.c.st, .int .i64 x.c.sp, .int .i64 x.c.ac, .int .i64 x.c.je, .int .i64 (-16777216), .int .i64 16777216, .int .i64 x.c.bl, .int .i64 x.c.og, .int .i64 x.c.sg, .sl false [4] x.c.pit, .sl false [4, 4, 4, 4, 4, 4, 4, 4, 4, 4] x.pk, .int .i64 x.ln, .int .i64 x.f, .int .i64 x.d0, .int .i64 x.d1, .int .i64 x.d2], [.int .i64 m0, .int .i64 m1, .int .i64 m2, .int .i64 m3, .int .i64 m4, .int .i64 m5], [.int .i64 w0, .int .i64 w1, .int .i64 w2], [.int .i64 n0, .int .i64 n1, .int .i64 n2], [.int .i64 a0, .int .i64 a1, .int .i64 a2], [.int .i64 b0, .int .i64 b1, .int .i64 b2]])) K) =
 ((-9223372036854775808 <= b0 - a0 /\ b0 - a0 <= 9223372036854775807) /\ ∀ (x1 : Int), x1 = b0 - a0 -> ((w0 == n0) = true -> ((x1 != 0) = true -> K .ret ([.ce (.ptr 1000012 0)], [(runC x), [.int .i64 m0, .int .i64 m1, .int .i64 m2, .int .i64 m3, .int .i64 m4, .int .i64 m5], [.int .i64 w0, .int .i64 w1, .int .i64 w2], [.int .i64 n0, .int .i64 n1, .int .i64 n2], [.int .i64 a0, .int .i64 a1, .int .i64 a2], [.int .i64 b0, .int .i64 b1, .int .i64 b2]])) /\
 ((x1 != 0) = false -> (decide (w0 < n0) = true -> ((x1 != x.a.bl) = true -> K .ret ([.ce (.ptr 1000012 0)], [(runC x), [.int .i64 m0, .int .i64 m1, .int .i64 m2, .int .i64 m3, .int .i64 m4, .int .i64 m5], [.int .i64 w0, .int .i64 w1, .int .i64 w2], [.int .i64 n0, .int .i64 n1, .int .i64 n2], [.int .i64 a0, .int .i64 a1, .int .i64 a2], [.int .i64 b0, .int .i64 b1, .int .i64 b2]])) /\
 ((x1 != x.a.bl) = false -> (decide (w0 > n0) = true -> (-9223372036854775808 <= 0 - x.a.bl /\ 0 - x.a.bl <= 9223372036854775807) /\ ∀ (x2 : Int), x2 = 0 - x.a.bl -> ((x1 != x2) = true -> K .ret ([.ce (.ptr 1000012 0)], [(runC x), [.int .i64 m0, .int .i64 m1, .int .i64 m2, .int .i64 m3, .int .i64 m4, .int .i64 m5], [.int .i64 w0, .int .i64 w1, .int .i64 w2], [.int .i64 n0, .int .i64 n1, .int .i64 n2], [.int .i64 a0, .int .i64 a1, .int .i64 a2], [.int .i64 b0, .int .i64 b1, .int .i64 b2]])) /\
 ((x1 != x2) = false -> K .normal ([.ce (.ptr 1000009 0), .ce (.ptr 1000012 0), .ce (.ptr 1000017 0), .ce (.ptr 1000018 0), .ce (.ptr 1000019 0), .ce (.ptr 1000020 0), .ce (.num .i64 1)], [(runC x), [.int .i64 m0, .int .i64 m1, .int .i64 m2, .int .i64 m3, .int .i64 m4, .int .i64 m5], [.int .i64 w0, .int .i64 w1, .int .i64 w2], [.int .i64 n0, .int .i64 n1, .int .i64 n2], [.int .i64 a0, .int .i64 a1, .int .i64 a2], [.int .i64 b0, .int .i64 b1, .int .i64 b2]]))) /\
 (decide (w0 > n0) = false -> K .normal ([.ce (.ptr 1000009 0), .ce (.ptr 1000012 0), .ce (.ptr 1000017 0), .ce (.ptr 1000018 0), .ce (.ptr 1000019 0), .ce (.ptr 1000020 0), .ce (.num .i64 1)], [(runC x), [.int .i64 m0, .int .i64 m1, .int .i64 m2, .int .i64 m3, .int .i64 m4, .int .i64 m5], [.int .i64 w0, .int .i64 w1, .int .i64 w2], [.int .i64 n0, .int .i64 n1, .int .i64 n2], [.int .i64 a0, .int .i64 a1, .int .i64 a2], [.int .i64 b0, .int .i64 b1, .int .i64 b2]])))) /\
 (decide (w0 < n0) = false -> (decide (w0 > n0) = true -> (-9223372036854775808 <= 0 - x.a.bl /\ 0 - x.a.bl <= 9223372036854775807) /\ ∀ (x3 : Int), x3 = 0 - x.a.bl -> ((x1 != x3) = true -> K .ret ([.ce (.ptr 1000012 0)], [(runC x), [.int .i64 m0, .int .i64 m1, .int .i64 m2, .int .i64 m3, .int .i64 m4, .int .i64 m5], [.int .i64 w0, .int .i64 w1, .int .i64 w2], [.int .i64 n0, .int .i64 n1, .int .i64 n2], [.int .i64 a0, .int .i64 a1, .int .i64 a2], [.int .i64 b0, .int .i64 b1, .int .i64 b2]])) /\
 ((x1 != x3) = false -> K .normal ([.ce (.ptr 1000009 0), .ce (.ptr 1000012 0), .ce (.ptr 1000017 0), .ce (.ptr 1000018 0), .ce (.ptr 1000019 0), .ce (.ptr 1000020 0), .ce (.num .i64 1)], [(runC x), [.int .i64 m0, .int .i64 m1, .int .i64 m2, .int .i64 m3, .int .i64 m4, .int .i64 m5], [.int .i64 w0, .int .i64 w1, .int .i64 w2], [.int .i64 n0, .int .i64 n1, .int .i64 n2], [.int .i64 a0, .int .i64 a1, .int .i64 a2], [.int .i64 b0, .int .i64 b1, .int .i64 b2]]))) /\
 (decide (w0 > n0) = false -> K .normal ([.ce (.ptr 1000009 0), .ce (.ptr 1000012 0), .ce (.ptr 1000017 0), .ce (.ptr 1000018 0), .ce (.ptr 1000019 0), .ce (.ptr 1000020 0), .ce (.num .i64 1)], [(runC x), [.int .i64 m0, .int .i64 m1, .int .i64 m2, .int .i64 m3, .int .i64 m4, .int .i64 m5], [.int .i64 w0, .int .i64 w1, .int .i64 w2], [.int .i64 n0, .int .i64 n1, .int .i64 n2], [.int .i64 a0, .int .i64 a1, .int .i64 a2], [.int .i64 b0, .int .i64 b1, .int .i64 b2]]))))) /\
 ((w0 == n0) = false -> (decide (w0 < n0) = true -> ((x1 != x.a.bl) = true -> K .ret ([.ce (.ptr 1000012 0)], [(runC x), [.int .i64 m0, .int .i64 m1, .int .i64 m2, .int .i64 m3, .int .i64 m4, .int .i64 m5], [.int .i64 w0, .int .i64 w1, .int .i64 w2], [.int .i64 n0, .int .i64 n1, .int .i64 n2], [.int .i64 a0, .int .i64 a1, .int .i64 a2], [.int .i64 b0, .int .i64 b1, .int .i64 b2]])) /\
 ((x1 != x.a.bl) = false -> (decide (w0 > n0) = true -> (-9223372036854775808 <= 0 - x.a.bl /\ 0 - x.a.bl <= 9223372036854775807) /\ ∀ (x4 : Int), x4 = 0 - x.a.bl -> ((x1 != x4) = true -> K .ret ([.ce (.ptr 1000012 0)], [(runC x), [.int .i64 m0, .int .i64 m1, .int .i64 m2, .int .i64 m3, .int .i64 m4, .int .i64 m5], [.int .i64 w0, .int .i64 w1, .int .i64 w2], [.int .i64 n0, .int .i64 n1, .int .i64 n2], [.int .i64 a0, .int .i64 a1, .int .i64 a2], [.int .i64 b0, .int .i64 b1, .int .i64 b2]])) /\
 ((x1 != x4) = false -> K .normal ([.ce (.ptr 1000009 0), .ce (.ptr 1000012 0), .ce (.ptr 1000017 0), .ce (.ptr 1000018 0), .ce (.ptr 1000019 0), .ce (.ptr 1000020 0), .ce (.num .i64 1)], [(runC x), [.int .i64 m0, .int .i64 m1, .int .i64 m2, .int .i64 m3, .int .i64 m4, .int .i64 m5], [.int .i64 w0, .int .i64 w1, .int .i64 w2], [.int .i64 n0, .int .i64 n1, .int .i64 n2], [.int .i64 a0, .int .i64 a1, .int .i64 a2], [.int .i64 b0, .int .i64 b1, .int .i64 b2]]))) /\
 (decide (w0 > n0) = false -> K .normal ([.ce (.ptr 1000009 0), .ce (.ptr 1000012 0), .ce (.ptr 1000017 0), .ce (.ptr 1000018 0), .ce (.ptr 1000019 0), .ce (.ptr 1000020 0), .ce (.num .i64 1)], [(runC x), [.int .i64 m0, .int .i64 m1, .int .i64 m2, .int .i64 m3, .int .i64 m4, .int .i64 m5], [.int .i64 w0, .int .i64 w1, .int .i64 w2], [.int .i64 n0, .int .i64 n1, .int .i64 n2], [.int .i64 a0, .int .i64 a1, .int .i64 a2], [.int .i64 b0, .int .i64 b1, .int .i64 b2]])))) /\
 (decide (w0 < n0) = false -> (decide (w0 > n0) = true -> (-9223372036854775808 <= 0 - x.a.bl /\ 0 - x.a.bl <= 9223372036854775807) /\ ∀ (x5 : Int), x5 = 0 - x.a.bl -> ((x1 != x5) = true -> K .ret ([.ce (.ptr 1000012 0)], [(runC x), [.int .i64 m0, .int .i64 m1, .int .i64 m2, .int .i64 m3, .int .i64 m4, .int .i64 m5], [.int .i64 w0, .int .i64 w1, .int .i64 w2], [.int .i64 n0, .int .i64 n1, .int .i64 n2], [.int .i64 a0, .int .i64 a1, .int .i64 a2], [.int .i64 b0, .int .i64 b1, .int .i64 b2]])) /\
 ((x1 != x5) = false -> K .normal ([.ce (.ptr 1000009 0), .ce (.ptr 1000012 0), .ce (.ptr 1000017 0), .ce (.ptr 1000018 0), .ce (.ptr 1000019 0), .ce (.ptr 1000020 0), .ce (.num .i64 1)], [(runC x), [.int .i64 m0, .int .i64 m1, .int .i64 m2, .int .i64 m3, .int .i64 m4, .int .i64 m5], [.int .i64 w0, .int .i64 w1, .int .i64 w2], [.int .i64 n0, .int .i64 n1, .int .i64 n2], [.int .i64 a0, .int .i64 a1, .int .i64 a2], [.int .i64 b0, .int .i64 b1, .int .i64 b2]]))) /\
 (decide (w0 > n0) = false -> K .normal ([.ce (.ptr 1000009 0), .ce (.ptr 1000012 0), .ce (.ptr 1000017 0), .ce (.ptr 1000018 0), .ce (.ptr 1000019 0), .ce (.ptr 1000020 0), .ce (.num .i64 1)], [(runC x), [.int .i64 m0, .int .i64 m1, .int .i64 m2, .int .i64 m3, .int .i64 m4, .int .i64 m5], [.int .i64 w0, .int .i64 w1, .int .i64 w2], [.int .i64 n0, .int .i64 n1, .int .i64 n2], [.int .i64 a0, .int .i64 a1, .int .i64 a2], [.int .i64 b0, .int .i64 b1, .int .i64 b2]]))))) := by kernel_rfl
theorem vbRH1 (x : RunS) (m0 m1 m2 m3 m4 m5 w0 w1 w2 n0 n1 n2 a0 a1 a2 b0 b1 b2 : Int) (K : HEx -> LV -> Prop) : (nbodyT true CRHo anRHo (nthLoop Tryz.f7 0) (([.ce (.ptr 1000009 0), .ce (.ptr 1000012 0), .ce (.ptr 1000017 0), .ce (.ptr 1000018 0), .ce (.ptr 1000019 0), .ce (.ptr 1000020 0), .ce (.num .i64 1)], [[.int .i64 x.s0, .int .i64 x.s1, .int .i64 x.s2, .sl false [4, 4, 4, 4, 4, 4, 4] x.sg, .sl false [4, 4, 4] x.mks, .int .i64 x.a.st, .int .i64 x.a.sp, .int .i64 x.a.ac, .int .i64 x.a.je, .int .i64 (-16777216), .int .i64 16777216, .int .i64 x.a.bl, .int .i64 x.a.og, .int .i64 x.a.sg, .sl false [4] x.a.pit, .int .i64 x.b.st, .int .i64 x.b.sp, .int .i64 x.b.ac, .int .i64 x.b.je, .int .i64 (-16777216), .int .i64 16777216, .int .i64 x.b.bl, .int .i64 x.b.og, .int .i64 x.b.sg, .sl false [4] x.b.pit, .int .i64 x.c.st, .int .i64 x.c.sp, .int .i64 x.c.ac, .int .i64 x.c.je, .int .i64 (-16777216), .int .i64 16777216, .int .i64 x.c.bl, .int .i64 x.c.og, .int .i64 x.c.sg, .sl false [4] x.c.pit, .sl false [4, 4, 4, 4, 4, 4, 4, 4, 4, 4] x.pk, .int .i64 x.ln, .int .i64 x.f, .int .i64 x.d0, .int .i64 x.d1, .int .i64 x.d2], [.int .i64 m0, .int .i64 m1, .int .i64 m2, .int .i64 m3, .int .i64 m4, .int .i64 m5], [.int .i64 w0, .int .i64 w1, .int .i64 w2], [.int .i64 n0, .int .i64 n1, .int .i64 n2], [.int .i64 a0, .int .i64 a1, .int .i64 a2], [.int .i64 b0, .int .i64 b1, .int .i64 b2]])) K) =
 ((-9223372036854775808 <= b1 - a1 /\ b1 - a1 <= 9223372036854775807) /\ ∀ (x1 : Int), x1 = b1 - a1 -> ((w1 == n1) = true -> ((x1 != 0) = true -> K .ret ([.ce (.ptr 1000012 0)], [(runC x), [.int .i64 m0, .int .i64 m1, .int .i64 m2, .int .i64 m3, .int .i64 m4, .int .i64 m5], [.int .i64 w0, .int .i64 w1, .int .i64 w2], [.int .i64 n0, .int .i64 n1, .int .i64 n2], [.int .i64 a0, .int .i64 a1, .int .i64 a2], [.int .i64 b0, .int .i64 b1, .int .i64 b2]])) /\
 ((x1 != 0) = false -> (decide (w1 < n1) = true -> ((x1 != x.b.bl) = true -> K .ret ([.ce (.ptr 1000012 0)], [(runC x), [.int .i64 m0, .int .i64 m1, .int .i64 m2, .int .i64 m3, .int .i64 m4, .int .i64 m5], [.int .i64 w0, .int .i64 w1, .int .i64 w2], [.int .i64 n0, .int .i64 n1, .int .i64 n2], [.int .i64 a0, .int .i64 a1, .int .i64 a2], [.int .i64 b0, .int .i64 b1, .int .i64 b2]])) /\
 ((x1 != x.b.bl) = false -> (decide (w1 > n1) = true -> (-9223372036854775808 <= 0 - x.b.bl /\ 0 - x.b.bl <= 9223372036854775807) /\ ∀ (x2 : Int), x2 = 0 - x.b.bl -> ((x1 != x2) = true -> K .ret ([.ce (.ptr 1000012 0)], [(runC x), [.int .i64 m0, .int .i64 m1, .int .i64 m2, .int .i64 m3, .int .i64 m4, .int .i64 m5], [.int .i64 w0, .int .i64 w1, .int .i64 w2], [.int .i64 n0, .int .i64 n1, .int .i64 n2], [.int .i64 a0, .int .i64 a1, .int .i64 a2], [.int .i64 b0, .int .i64 b1, .int .i64 b2]])) /\
 ((x1 != x2) = false -> K .normal ([.ce (.ptr 1000009 0), .ce (.ptr 1000012 0), .ce (.ptr 1000017 0), .ce (.ptr 1000018 0), .ce (.ptr 1000019 0), .ce (.ptr 1000020 0), .ce (.num .i64 2)], [(runC x), [.int .i64 m0, .int .i64 m1, .int .i64 m2, .int .i64 m3, .int .i64 m4, .int .i64 m5], [.int .i64 w0, .int .i64 w1, .int .i64 w2], [.int .i64 n0, .int .i64 n1, .int .i64 n2], [.int .i64 a0, .int .i64 a1, .int .i64 a2], [.int .i64 b0, .int .i64 b1, .int .i64 b2]]))) /\
 (decide (w1 > n1) = false -> K .normal ([.ce (.ptr 1000009 0), .ce (.ptr 1000012 0), .ce (.ptr 1000017 0), .ce (.ptr 1000018 0), .ce (.ptr 1000019 0), .ce (.ptr 1000020 0), .ce (.num .i64 2)], [(runC x), [.int .i64 m0, .int .i64 m1, .int .i64 m2, .int .i64 m3, .int .i64 m4, .int .i64 m5], [.int .i64 w0, .int .i64 w1, .int .i64 w2], [.int .i64 n0, .int .i64 n1, .int .i64 n2], [.int .i64 a0, .int .i64 a1, .int .i64 a2], [.int .i64 b0, .int .i64 b1, .int .i64 b2]])))) /\
 (decide (w1 < n1) = false -> (decide (w1 > n1) = true -> (-9223372036854775808 <= 0 - x.b.bl /\ 0 - x.b.bl <= 9223372036854775807) /\ ∀ (x3 : Int), x3 = 0 - x.b.bl -> ((x1 != x3) = true -> K .ret ([.ce (.ptr 1000012 0)], [(runC x), [.int .i64 m0, .int .i64 m1, .int .i64 m2, .int .i64 m3, .int .i64 m4, .int .i64 m5], [.int .i64 w0, .int .i64 w1, .int .i64 w2], [.int .i64 n0, .int .i64 n1, .int .i64 n2], [.int .i64 a0, .int .i64 a1, .int .i64 a2], [.int .i64 b0, .int .i64 b1, .int .i64 b2]])) /\
 ((x1 != x3) = false -> K .normal ([.ce (.ptr 1000009 0), .ce (.ptr 1000012 0), .ce (.ptr 1000017 0), .ce (.ptr 1000018 0), .ce (.ptr 1000019 0), .ce (.ptr 1000020 0), .ce (.num .i64 2)], [(runC x), [.int .i64 m0, .int .i64 m1, .int .i64 m2, .int .i64 m3, .int .i64 m4, .int .i64 m5], [.int .i64 w0, .int .i64 w1, .int .i64 w2], [.int .i64 n0, .int .i64 n1, .int .i64 n2], [.int .i64 a0, .int .i64 a1, .int .i64 a2], [.int .i64 b0, .int .i64 b1, .int .i64 b2]]))) /\
 (decide (w1 > n1) = false -> K .normal ([.ce (.ptr 1000009 0), .ce (.ptr 1000012 0), .ce (.ptr 1000017 0), .ce (.ptr 1000018 0), .ce (.ptr 1000019 0), .ce (.ptr 1000020 0), .ce (.num .i64 2)], [(runC x), [.int .i64 m0, .int .i64 m1, .int .i64 m2, .int .i64 m3, .int .i64 m4, .int .i64 m5], [.int .i64 w0, .int .i64 w1, .int .i64 w2], [.int .i64 n0, .int .i64 n1, .int .i64 n2], [.int .i64 a0, .int .i64 a1, .int .i64 a2], [.int .i64 b0, .int .i64 b1, .int .i64 b2]]))))) /\
 ((w1 == n1) = false -> (decide (w1 < n1) = true -> ((x1 != x.b.bl) = true -> K .ret ([.ce (.ptr 1000012 0)], [(runC x), [.int .i64 m0, .int .i64 m1, .int .i64 m2, .int .i64 m3, .int .i64 m4, .int .i64 m5], [.int .i64 w0, .int .i64 w1, .int .i64 w2], [.int .i64 n0, .int .i64 n1, .int .i64 n2], [.int .i64 a0, .int .i64 a1, .int .i64 a2], [.int .i64 b0, .int .i64 b1, .int .i64 b2]])) /\
 ((x1 != x.b.bl) = false -> (decide (w1 > n1) = true -> (-9223372036854775808 <= 0 - x.b.bl /\ 0 - x.b.bl <= 9223372036854775807) /\ ∀ (x4 : Int), x4 = 0 - x.b.bl -> ((x1 != x4) = true -> K .ret ([.ce (.ptr 1000012 0)], [(runC x), [.int .i64 m0, .int .i64 m1, .int .i64 m2, .int .i64 m3, .int .i64 m4, .int .i64 m5], [.int .i64 w0, .int .i64 w1, .int .i64 w2], [.int .i64 n0, .int .i64 n1, .int .i64 n2], [.int .i64 a0, .int .i64 a1, .int .i64 a2], [.int .i64 b0, .int .i64 b1, .int .i64 b2]])) /\
 ((x1 != x4) = false -> K .normal ([.ce (.ptr 1000009 0), .ce (.ptr 1000012 0), .ce (.ptr 1000017 0), .ce (.ptr 1000018 0), .ce (.ptr 1000019 0), .ce (.ptr 1000020 0), .ce (.num .i64 2)], [(runC x), [.int .i64 m0, .int .i64 m1, .int .i64 m2, .int .i64 m3, .int .i64 m4, .int .i64 m5], [.int .i64 w0, .int .i64 w1, .int .i64 w2], [.int .i64 n0, .int .i64 n1, .int .i64 n2], [.int .i64 a0, .int .i64 a1, .int .i64 a2], [.int .i64 b0, .int .i64 b1, .int .i64 b2]]))) /\
 (decide (w1 > n1) = false -> K .normal ([.ce (.ptr 1000009 0), .ce (.ptr 1000012 0), .ce (.ptr 1000017 0), .ce (.ptr 1000018 0), .ce (.ptr 1000019 0), .ce (.ptr 1000020 0), .ce (.num .i64 2)], [(runC x), [.int .i64 m0, .int .i64 m1, .int .i64 m2, .int .i64 m3, .int .i64 m4, .int .i64 m5], [.int .i64 w0, .int .i64 w1, .int .i64 w2], [.int .i64 n0, .int .i64 n1, .int .i64 n2], [.int .i64 a0, .int .i64 a1, .int .i64 a2], [.int .i64 b0, .int .i64 b1, .int .i64 b2]])))) /\
 (decide (w1 < n1) = false -> (decide (w1 > n1) = true -> (-9223372036854775808 <= 0 - x.b.bl /\ 0 - x.b.bl <= 9223372036854775807) /\ ∀ (x5 : Int), x5 = 0 - x.b.bl -> ((x1 != x5) = true -> K .ret ([.ce (.ptr 1000012 0)], [(runC x), [.int .i64 m0, .int .i64 m1, .int .i64 m2, .int .i64 m3, .int .i64 m4, .int .i64 m5], [.int .i64 w0, .int .i64 w1, .int .i64 w2], [.int .i64 n0, .int .i64 n1, .int .i64 n2], [.int .i64 a0, .int .i64 a1, .int .i64 a2], [.int .i64 b0, .int .i64 b1, .int .i64 b2]])) /\
 ((x1 != x5) = false -> K .normal ([.ce (.ptr 1000009 0), .ce (.ptr 1000012 0), .ce (.ptr 1000017 0), .ce (.ptr 1000018 0), .ce (.ptr 1000019 0), .ce (.ptr 1000020 0), .ce (.num .i64 2)], [(runC x), [.int .i64 m0, .int .i64 m1, .int .i64 m2, .int .i64 m3, .int .i64 m4, .int .i64 m5], [.int .i64 w0, .int .i64 w1, .int .i64 w2], [.int .i64 n0, .int .i64 n1, .int .i64 n2], [.int .i64 a0, .int .i64 a1, .int .i64 a2], [.int .i64 b0, .int .i64 b1, .int .i64 b2]]))) /\
 (decide (w1 > n1) = false -> K .normal ([.ce (.ptr 1000009 0), .ce (.ptr 1000012 0), .ce (.ptr 1000017 0), .ce (.ptr 1000018 0), .ce (.ptr 1000019 0), .ce (.ptr 1000020 0), .ce (.num .i64 2)], [(runC x), [.int .i64 m0, .int .i64 m1, .int .i64 m2, .int .i64 m3, .int .i64 m4, .int .i64 m5], [.int .i64 w0, .int .i64 w1, .int .i64 w2], [.int .i64 n0, .int .i64 n1, .int .i64 n2], [.int .i64 a0, .int .i64 a1, .int .i64 a2], [.int .i64 b0, .int .i64 b1, .int .i64 b2]]))))) := by kernel_rfl
theorem vbRH2 (x : RunS) (m0 m1 m2 m3 m4 m5 w0 w1 w2 n0 n1 n2 a0 a1 a2 b0 b1 b2 : Int) (K : HEx -> LV -> Prop) : (nbodyT true CRHo anRHo (nthLoop Tryz.f7 0) (([.ce (.ptr 1000009 0), .ce (.ptr 1000012 0), .ce (.ptr 1000017 0), .ce (.ptr 1000018 0), .ce (.ptr 1000019 0), .ce (.ptr 1000020 0), .ce (.num .i64 2)], [[.int .i64 x.s0, .int .i64 x.s1, .int .i64 x.s2, .sl false [4, 4, 4, 4, 4, 4, 4] x.sg, .sl false [4, 4, 4] x.mks, .int .i64 x.a.st, .int .i64 x.a.sp, .int .i64 x.a.ac, .int .i64 x.a.je, .int .i64 (-16777216), .int .i64 16777216, .int .i64 x.a.bl, .int .i64 x.a.og, .int .i64 x.a.sg, .sl false [4] x.a.pit, .int .i64 x.b.st, .int .i64 x.b.sp, .int .i64 x.b.ac, .int .i64 x.b.je, .int .i64 (-16777216), .int .i64 16777216, .int .i64 x.b.bl, .int .i64 x.b.og, .int .i64 x.b.sg, .sl false [4] x.b.pit, .int .i64 x.c.st, .int .i64 x.c.sp, .int .i64 x.c.ac, .int .i64 x.c.je, .int .i64 (-16777216), .int .i64 16777216, .int .i64 x.c.bl, .int .i64 x.c.og, .int .i64 x.c.sg, .sl false [4] x.c.pit, .sl false [4, 4, 4, 4, 4, 4, 4, 4, 4, 4] x.pk, .int .i64 x.ln, .int .i64 x.f, .int .i64 x.d0, .int .i64 x.d1, .int .i64 x.d2], [.int .i64 m0, .int .i64 m1, .int .i64 m2, .int .i64 m3, .int .i64 m4, .int .i64 m5], [.int .i64 w0, .int .i64 w1, .int .i64 w2], [.int .i64 n0, .int .i64 n1, .int .i64 n2], [.int .i64 a0, .int .i64 a1, .int .i64 a2], [.int .i64 b0, .int .i64 b1, .int .i64 b2]])) K) =
 ((-9223372036854775808 <= b2 - a2 /\ b2 - a2 <= 9223372036854775807) /\ ∀ (x1 : Int), x1 = b2 - a2 -> ((w2 == n2) = true -> ((x1 != 0) = true -> K .ret ([.ce (.ptr 1000012 0)], [(runC x), [.int .i64 m0, .int .i64 m1, .int .i64 m2, .int .i64 m3, .int .i64 m4, .int .i64 m5], [.int .i64 w0, .int .i64 w1, .int .i64 w2], [.int .i64 n0, .int .i64 n1, .int .i64 n2], [.int .i64 a0, .int .i64 a1, .int .i64 a2], [.int .i64 b0, .int .i64 b1, .int .i64 b2]])) /\
 ((x1 != 0) = false -> (decide (w2 < n2) = true -> ((x1 != x.c.bl) = true -> K .ret ([.ce (.ptr 1000012 0)], [(runC x), [.int .i64 m0, .int .i64 m1, .int .i64 m2, .int .i64 m3, .int .i64 m4, .int .i64 m5], [.int .i64 w0, .int .i64 w1, .int .i64 w2], [.int .i64 n0, .int .i64 n1, .int .i64 n2], [.int .i64 a0, .int .i64 a1, .int .i64 a2], [.int .i64 b0, .int .i64 b1, .int .i64 b2]])) /\
 ((x1 != x.c.bl) = false -> (decide (w2 > n2) = true -> (-9223372036854775808 <= 0 - x.c.bl /\ 0 - x.c.bl <= 9223372036854775807) /\ ∀ (x2 : Int), x2 = 0 - x.c.bl -> ((x1 != x2) = true -> K .ret ([.ce (.ptr 1000012 0)], [(runC x), [.int .i64 m0, .int .i64 m1, .int .i64 m2, .int .i64 m3, .int .i64 m4, .int .i64 m5], [.int .i64 w0, .int .i64 w1, .int .i64 w2], [.int .i64 n0, .int .i64 n1, .int .i64 n2], [.int .i64 a0, .int .i64 a1, .int .i64 a2], [.int .i64 b0, .int .i64 b1, .int .i64 b2]])) /\
 ((x1 != x2) = false -> K .normal ([.ce (.ptr 1000009 0), .ce (.ptr 1000012 0), .ce (.ptr 1000017 0), .ce (.ptr 1000018 0), .ce (.ptr 1000019 0), .ce (.ptr 1000020 0), .ce (.num .i64 3)], [(runC x), [.int .i64 m0, .int .i64 m1, .int .i64 m2, .int .i64 m3, .int .i64 m4, .int .i64 m5], [.int .i64 w0, .int .i64 w1, .int .i64 w2], [.int .i64 n0, .int .i64 n1, .int .i64 n2], [.int .i64 a0, .int .i64 a1, .int .i64 a2], [.int .i64 b0, .int .i64 b1, .int .i64 b2]]))) /\
 (decide (w2 > n2) = false -> K .normal ([.ce (.ptr 1000009 0), .ce (.ptr 1000012 0), .ce (.ptr 1000017 0), .ce (.ptr 1000018 0), .ce (.ptr 1000019 0), .ce (.ptr 1000020 0), .ce (.num .i64 3)], [(runC x), [.int .i64 m0, .int .i64 m1, .int .i64 m2, .int .i64 m3, .int .i64 m4, .int .i64 m5], [.int .i64 w0, .int .i64 w1, .int .i64 w2], [.int .i64 n0, .int .i64 n1, .int .i64 n2], [.int .i64 a0, .int .i64 a1, .int .i64 a2], [.int .i64 b0, .int .i64 b1, .int .i64 b2]])))) /\
 (decide (w2 < n2) = false -> (decide (w2 > n2) = true -> (-9223372036854775808 <= 0 - x.c.bl /\ 0 - x.c.bl <= 9223372036854775807) /\ ∀ (x3 : Int), x3 = 0 - x.c.bl -> ((x1 != x3) = true -> K .ret ([.ce (.ptr 1000012 0)], [(runC x), [.int .i64 m0, .int .i64 m1, .int .i64 m2, .int .i64 m3, .int .i64 m4, .int .i64 m5], [.int .i64 w0, .int .i64 w1, .int .i64 w2], [.int .i64 n0, .int .i64 n1, .int .i64 n2], [.int .i64 a0, .int .i64 a1, .int .i64 a2], [.int .i64 b0, .int .i64 b1, .int .i64 b2]])) /\
 ((x1 != x3) = false -> K .normal ([.ce (.ptr 1000009 0), .ce (.ptr 1000012 0), .ce (.ptr 1000017 0), .ce (.ptr 1000018 0), .ce (.ptr 1000019 0), .ce (.ptr 1000020 0), .ce (.num .i64 3)], [(runC x), [.int .i64 m0, .int .i64 m1, .int .i64 m2, .int .i64 m3, .int .i64 m4, .int .i64 m5], [.int .i64 w0, .int .i64 w1, .int .i64 w2], [.int .i64 n0, .int .i64 n1, .int .i64 n2], [.int .i64 a0, .int .i64 a1, .int .i64 a2], [.int .i64 b0, .int .i64 b1, .int .i64 b2]]))) /\
 (decide (w2 > n2) = false -> K .normal ([.ce (.ptr 1000009 0), .ce (.ptr 1000012 0), .ce (.ptr 1000017 0), .ce (.ptr 1000018 0), .ce (.ptr 1000019 0), .ce (.ptr 1000020 0), .ce (.num .i64 3)], [(runC x), [.int .i64 m0, .int .i64 m1, .int .i64 m2, .int .i64 m3, .int .i64 m4, .int .i64 m5], [.int .i64 w0, .int .i64 w1, .int .i64 w2], [.int .i64 n0, .int .i64 n1, .int .i64 n2], [.int .i64 a0, .int .i64 a1, .int .i64 a2], [.int .i64 b0, .int .i64 b1, .int .i64 b2]]))))) /\
 ((w2 == n2) = false -> (decide (w2 < n2) = true -> ((x1 != x.c.bl) = true -> K .ret ([.ce (.ptr 1000012 0)], [(runC x), [.int .i64 m0, .int .i64 m1, .int .i64 m2, .int .i64 m3, .int .i64 m4, .int .i64 m5], [.int .i64 w0, .int .i64 w1, .int .i64 w2], [.int .i64 n0, .int .i64 n1, .int .i64 n2], [.int .i64 a0, .int .i64 a1, .int .i64 a2], [.int .i64 b0, .int .i64 b1, .int .i64 b2]])) /\
 ((x1 != x.c.bl) = false -> (decide (w2 > n2) = true -> (-9223372036854775808 <= 0 - x.c.bl /\ 0 - x.c.bl <= 9223372036854775807) /\ ∀ (x4 : Int), x4 = 0 - x.c.bl -> ((x1 != x4) = true -> K .ret ([.ce (.ptr 1000012 0)], [(runC x), [.int .i64 m0, .int .i64 m1, .int .i64 m2, .int .i64 m3, .int .i64 m4, .int .i64 m5], [.int .i64 w0, .int .i64 w1, .int .i64 w2], [.int .i64 n0, .int .i64 n1, .int .i64 n2], [.int .i64 a0, .int .i64 a1, .int .i64 a2], [.int .i64 b0, .int .i64 b1, .int .i64 b2]])) /\
 ((x1 != x4) = false -> K .normal ([.ce (.ptr 1000009 0), .ce (.ptr 1000012 0), .ce (.ptr 1000017 0), .ce (.ptr 1000018 0), .ce (.ptr 1000019 0), .ce (.ptr 1000020 0), .ce (.num .i64 3)], [(runC x), [.int .i64 m0, .int .i64 m1, .int .i64 m2, .int .i64 m3, .int .i64 m4, .int .i64 m5], [.int .i64 w0, .int .i64 w1, .int .i64 w2], [.int .i64 n0, .int .i64 n1, .int .i64 n2], [.int .i64 a0, .int .i64 a1, .int .i64 a2], [.int .i64 b0, .int .i64 b1, .int .i64 b2]]))) /\
 (decide (w2 > n2) = false -> K .normal ([.ce (.ptr 1000009 0), .ce (.ptr 1000012 0), .ce (.ptr 1000017 0), .ce (.ptr 1000018 0), .ce (.ptr 1000019 0), .ce (.ptr 1000020 0), .ce (.num .i64 3)], [(runC x), [.int .i64 m0, .int .i64 m1, .int .i64 m2, .int .i64 m3, .int .i64 m4, .int .i64 m5], [.int .i64 w0, .int .i64 w1, .int .i64 w2], [.int .i64 n0, .int .i64 n1, .int .i64 n2], [.int .i64 a0, .int .i64 a1, .int .i64 a2], [.int .i64 b0, .int .i64 b1, .int .i64 b2]])))) /\
 (decide (w2 < n2) = false -> (decide (w2 > n2) = true -> (-9223372036854775808 <= 0 - x.c.bl /\ 0 - x.c.bl <= 9223372036854775807) /\ ∀ (x5 : Int), x5 = 0 - x.c.bl -> ((x1 != x5) = true -> K .ret ([.ce (.ptr 1000012 0)], [(runC x), [.int .i64 m0, .int .i64 m1, .int .i64 m2, .int .i64 m3, .int .i64 m4, .int .i64 m5], [.int .i64 w0, .int .i64 w1, .int .i64 w2], [.int .i64 n0, .int .i64 n1, .int .i64 n2], [.int .i64 a0, .int .i64 a1, .int .i64 a2], [.int .i64 b0, .int .i64 b1, .int .i64 b2]])) /\
 ((x1 != x5) = false -> K .normal ([.ce (.ptr 1000009 0), .ce (.ptr 1000012 0), .ce (.ptr 1000017 0), .ce (.ptr 1000018 0), .ce (.ptr 1000019 0), .ce (.ptr 1000020 0), .ce (.num .i64 3)], [(runC x), [.int .i64 m0, .int .i64 m1, .int .i64 m2, .int .i64 m3, .int .i64 m4, .int .i64 m5], [.int .i64 w0, .int .i64 w1, .int .i64 w2], [.int .i64 n0, .int .i64 n1, .int .i64 n2], [.int .i64 a0, .int .i64 a1, .int .i64 a2], [.int .i64 b0, .int .i64 b1, .int .i64 b2]]))) /\
 (decide (w2 > n2) = false -> K .normal ([.ce (.ptr 1000009 0), .ce (.ptr 1000012 0), .ce (.ptr 1000017 0), .ce (.ptr 1000018 0), .ce (.ptr 1000019 0), .ce (.ptr 1000020 0), .ce (.num .i64 3)], [(runC x), [.int .i64 m0, .int .i64 m1, .int .i64 m2, .int .i64 m3, .int .i64 m4, .int .i64 m5], [.int .i64 w0, .int .i64 w1, .int .i64 w2], [.int .i64 n0, .int .i64 n1, .int .i64 n2], [.int .i64 a0, .int .i64 a1, .int .i64 a2], [.int .i64 b0, .int .i64 b1, .int .i64 b2]]))))) := by kernel_rfl
theorem vbRH3 (x : RunS) (m0 m1 m2 m3 m4 m5 w0 w1 w2 n0 n1 n2 a0 a1 a2 b0 b1 b2 : Int) (K : HEx -> LV -> Prop) : (nbodyT true CRHo anRHo (nthLoop Tryz.f7 0) (([.ce (.ptr 1000009 0), .ce (.ptr 1000012 0), .ce (.ptr 1000017 0), .ce (.ptr 1000018 0), .ce (.ptr 1000019 0), .ce (.ptr 1000020 0), .ce (.num .i64 3)], [[.int .i64 x.s0, .int .i64 x.s1, .int .i64 x.s2, .sl false [4, 4, 4, 4, 4, 4, 4] x.sg, .sl false [4, 4, 4] x.mks, .int .i64 x.a.st, .int .i64 x.a.sp, .int .i64 x.a.ac, .int .i64 x.a.je, .int .i64 (-16777216), .int .i64 16777216, .int .i64 x.a.bl, .int .i64 x.a.og, .int .i64 x.a.sg, .sl false [4] x.a.pit, .int .i64 x.b.st, .int .i64 x.b.sp, .int .i64 x.b.ac, .int .i64 x.b.je, .int .i64 (-16777216), .int .i64 16777216, .int .i64 x.b.bl, .int .i64 x.b.og, .int .i64 x.b.sg, .sl false [4] x.b.pit, .int .i64 x.c.st, .int .i64 x.c.sp, .int .i64 x.c.ac, .int .i64 x.c.je, .int .i64 (-16777216), .int .i64 16777216, .int .i64 x.c.bl, .int .i64 x.c.og, .int .i64 x.c.sg, .sl false [4] x.c.pit, .sl false [4, 4, 4, 4, 4, 4, 4, 4, 4, 4] x.pk, .int .i64 x.ln, .int .i64 x.f, .int .i64 x.d0, .int .i64 x.d1, .int .i64 x.d2], [.int .i64 m0, .int .i64 m1, .int .i64 m2, .int .i64 m3, .int .i64 m4, .int .i64 m5], [.int .i64 w0, .int .i64 w1, .int .i64 w2], [.int .i64 n0, .int .i64 n1, .int .i64 n2], [.int .i64 a0, .int .i64 a1, .int .i64 a2], [.int .i64 b0, .int .i64 b1, .int .i64 b2]])) K) =
 (K (.exit 0) ([.ce (.ptr 1000012 0)], [(runC x), [.int .i64 m0, .int .i64 m1, .int .i64 m2, .int .i64 m3, .int .i64 m4, .int .i64 m5], [.int .i64 w0, .int .i64 w1, .int .i64 w2], [.int .i64 n0, .int .i64 n1, .int .i64 n2], [.int .i64 a0, .int .i64 a1, .int .i64 a2], [.int .i64 b0, .int .i64 b1, .int .i64 b2]])) := by kernel_rfl
theorem vcRHo (l ax : List (List Int)) (u s : Int) (Q : Res -> Prop) : (nfun true CRHo Tryz.f7 (bodyOf Tryz.f7) [.ce (.sl false [4] l), .ce (.sl false [4] ax), .ce (.int .i64 u), .ce (.int .i64 s)] [] Q) =
 (True /\ ∀ (x1 : Bool), x1 = true -> ((!x1) = true -> Q ⟨.ce (.bool false), false, [], []⟩) /\ ((!x1) = false -> (((0 : Int) <= 5 /\ (5 : Int) <= 5) /\ (0 : Int) = 0 /\ l.length <= 9223372036854775807 /\ ax.length <= 9223372036854775807) /\ (∃ (x : RunS), okTr x) /\ ∀ (x : RunS), okTr x -> (-9223372036854775808 <= x.ln + 1 /\ x.ln + 1 <= 9223372036854775807) /\ ∀ (x3 : Int), x3 = x.ln + 1 -> (0 < x3 /\ x3 <= 4611686018427387904) /\ ∀ (x4 : Int), x4 = u % x3 -> okTrk x.pk x.ln /\ ∀ (x5 : Bool), x5 = tloose x.pk (clamp x.ln x4) -> (x5 = true -> Q ⟨.ce (.bool true), false, [], []⟩) /\ (x5 = false -> okTrk x.pk x.ln /\ ∀ (x6 : Int), x6 = tplace x.pk x.f (clamp x.ln x4) -> (-36028797018963968 <= x4 /\ x4 <= 36028797018963967) /\ ∀ (x7 : Int), x7 = x4 * 256 -> ∀ (x8 : Int), x8 = 0 -> ∀ (x9 : Int), x9 = 0 -> ∀ (x10 : Int), x10 = x4 * 256 -> ∀ (x11 : Int), x11 = x4 * 256 -> ∀ (x12 : Int), x12 = x4 * 256 ->
 (-9223372036854775808 <= x6 + 1 /\ x6 + 1 <= 9223372036854775807) /\ ∀ (x13 : Int), x13 = x6 + 1 -> (0 < x13 /\ x13 <= 4611686018427387904) /\ ∀ (x14 : Int), x14 = s % x13 -> ((0 <= x7 /\ x7 <= 9223372036854775807) /\ okLen x.sg /\ okPts x.s0 x.s1 x.s2 x.sg /\ okB3 x.a.bl x.b.bl x.c.bl /\ okTrk x.pk x.ln) /\ (∃ (x_1 : TurnS), x_1 = turnR x.s0 x.s1 x.s2 x.sg x.a.bl x.b.bl x.c.bl x.pk x.ln x.f x.d0 x.d1 x.d2 (stl x7 x8 x9 x10 x11) (clamp x.ln (x7 / 256)) x14) /\ ∀ (x_1 : TurnS), x_1 = turnR x.s0 x.s1 x.s2 x.sg x.a.bl x.b.bl x.c.bl x.pk x.ln x.f x.d0 x.d1 x.d2 (stl x7 x8 x9 x10 x11) (clamp x.ln (x7 / 256)) x14 -> ((-36028797018963968 : Int) <= x_1.ln /\ x_1.ln <= 36028797018963967) /\ ∀ (x16 : Int), x16 = x_1.ln * 256 -> ∀ (x17 : Int), x17 = 0 -> ∀ (x18 : Int), x18 = 0 -> ∀ (x19 : Int), x19 = x_1.ln * 256 -> ∀ (x20 : Int), x20 = x_1.ln * 256 -> ∀ (x21 : Int), x21 = x_1.ln * 256 -> ((0 <= x16 /\ x16 <= 9223372036854775807) /\
 okLen x.sg /\ okPts x.s0 x.s1 x.s2 x.sg /\ okB3 x.a.bl x.b.bl x.c.bl /\ okTrk x_1.pk x_1.ln) /\ (∃ (x_2 : TurnS), x_2 = turnR x.s0 x.s1 x.s2 x.sg x.a.bl x.b.bl x.c.bl x_1.pk x_1.ln x_1.sa x_1.d0 x_1.d1 x_1.d2 (stl x16 x17 x18 x19 x20) (clamp x_1.ln (x16 / 256)) x6) /\ ∀ (x_2 : TurnS), x_2 = turnR x.s0 x.s1 x.s2 x.sg x.a.bl x.b.bl x.c.bl x_1.pk x_1.ln x_1.sa x_1.d0 x_1.d1 x_1.d2 (stl x16 x17 x18 x19 x20) (clamp x_1.ln (x16 / 256)) x6 -> ((!x_1.ok) = true -> Q ⟨.ce (.bool false), false, [], []⟩) /\ ((!x_1.ok) = false -> ((!x_2.ok) = true -> Q ⟨.ce (.bool false), false, [], []⟩) /\ ((!x_2.ok) = false -> ((!((0 : Int) == 0 && ((0 : Int) == 0 && ((0 : Int) == 0 && ((0 : Int) == 0 && ((0 : Int) == 0 && ((0 : Int) == 0 && true))))))) = true -> Q ⟨.ce (.bool false), false, [], []⟩) /\ ((!((0 : Int) == 0 && ((0 : Int) == 0 && ((0 : Int) == 0 && ((0 : Int) == 0 && ((0 : Int) == 0 && ((0 : Int) == 0 && true))))))) = false ->
 okTrk x_2.pk x_2.ln /\ ∀ (x23 : Int), x23 = tplace x_2.pk x_2.sa (clamp x_2.ln x_2.ln) -> ((x23 != x6) = true -> Q ⟨.ce (.bool false), false, [], []⟩) /\ ((x23 != x6) = false -> okTrk x.pk x.ln /\ ∀ (x24 : Int), x24 = tface x.pk x.d0 (0 : Nat) (clamp x.ln x4) -> ∀ (x25 : Int), x25 = tface x.pk x.d1 (1 : Nat) (clamp x.ln x4) -> ∀ (x26 : Int), x26 = tface x.pk x.d2 (2 : Nat) (clamp x.ln x4) -> okTrk x_2.pk x_2.ln /\ ∀ (x27 : Int), x27 = tface x_2.pk x_2.d0 (0 : Nat) (clamp x_2.ln x_2.ln) -> ∀ (x28 : Int), x28 = tface x_2.pk x_2.d1 (1 : Nat) (clamp x_2.ln x_2.ln) -> ∀ (x29 : Int), x29 = tface x_2.pk x_2.d2 (2 : Nat) (clamp x_2.ln x_2.ln) -> (okLen x.sg /\ okPts x.s0 x.s1 x.s2 x.sg /\ okTrk x.pk x.ln /\ okMA x.a.st x.a.og x.a.sg x.a.pit x.a.bl /\ okMA x.b.st x.b.og x.b.sg x.b.pit x.b.bl /\ okMA x.c.st x.c.og x.c.sg x.c.pit x.c.bl /\ 0 <= x.f /\ x.f <= 18014398509481984) /\ ∀ (x30 : Int), x30 = tmot x.a.st x.a.og x.a.sg x.a.pit x.a.bl (ptAt x.s0 x.sg (0 : Nat) (tplace x.pk x.f (clamp x.ln x4))) x.pk x.d0 (clamp x.ln x4) (0 : Nat) ->
 ∀ (x31 : Int), x31 = tmot x.b.st x.b.og x.b.sg x.b.pit x.b.bl (ptAt x.s1 x.sg (1 : Nat) (tplace x.pk x.f (clamp x.ln x4))) x.pk x.d1 (clamp x.ln x4) (1 : Nat) -> ∀ (x32 : Int), x32 = tmot x.c.st x.c.og x.c.sg x.c.pit x.c.bl (ptAt x.s2 x.sg (2 : Nat) (tplace x.pk x.f (clamp x.ln x4))) x.pk x.d2 (clamp x.ln x4) (2 : Nat) -> (okLen x.sg /\ okPts x.s0 x.s1 x.s2 x.sg /\ okTrk x_2.pk x_2.ln /\ okMA x.a.st x.a.og x.a.sg x.a.pit x.a.bl /\ okMA x.b.st x.b.og x.b.sg x.b.pit x.b.bl /\ okMA x.c.st x.c.og x.c.sg x.c.pit x.c.bl /\ 0 <= x_2.sa /\ x_2.sa <= 18014398509481984) /\ ∀ (x33 : Int), x33 = tmot x.a.st x.a.og x.a.sg x.a.pit x.a.bl (ptAt x.s0 x.sg (0 : Nat) (tplace x_2.pk x_2.sa (clamp x_2.ln x_2.ln))) x_2.pk x_2.d0 (clamp x_2.ln x_2.ln) (0 : Nat) -> ∀ (x34 : Int), x34 = tmot x.b.st x.b.og x.b.sg x.b.pit x.b.bl (ptAt x.s1 x.sg (1 : Nat) (tplace x_2.pk x_2.sa (clamp x_2.ln x_2.ln))) x_2.pk x_2.d1 (clamp x_2.ln x_2.ln) (1 : Nat) ->
 ∀ (x35 : Int), x35 = tmot x.c.st x.c.og x.c.sg x.c.pit x.c.bl (ptAt x.s2 x.sg (2 : Nat) (tplace x_2.pk x_2.sa (clamp x_2.ln x_2.ln))) x_2.pk x_2.d2 (clamp x_2.ln x_2.ln) (2 : Nat) -> ((0 : Int) = 0 /\ ∃ (x_3 : RunS), (runC x) = runC x_3 /\
 ((-4398046511104 <= x30 /\ x30 <= 4398046511104) /\ (-4398046511104 <= x33 /\ x33 <= 4398046511104) /\ (0 <= x_3.a.bl /\ x_3.a.bl <= 4096) /\ (x24 = x27 -> x33 - x30 = 0) /\ (x24 < x27 -> x33 - x30 = x_3.a.bl) /\ (x27 < x24 -> x33 - x30 = -x_3.a.bl)) /\ ((-4398046511104 <= x31 /\ x31 <= 4398046511104) /\ (-4398046511104 <= x34 /\ x34 <= 4398046511104) /\ (0 <= x_3.b.bl /\ x_3.b.bl <= 4096) /\ (x25 = x28 -> x34 - x31 = 0) /\ (x25 < x28 -> x34 - x31 = x_3.b.bl) /\ (x28 < x25 -> x34 - x31 = -x_3.b.bl)) /\ (-4398046511104 <= x32 /\ x32 <= 4398046511104) /\ (-4398046511104 <= x35 /\ x35 <= 4398046511104) /\ (0 <= x_3.c.bl /\ x_3.c.bl <= 4096) /\ (x26 = x29 -> x35 - x32 = 0) /\ (x26 < x29 -> x35 - x32 = x_3.c.bl) /\ (x29 < x26 -> x35 - x32 = -x_3.c.bl)) /\ ((0 : Int) <= 0 /\ (0 : Int) <= 9223372036854775807) /\ ∀ (x36 : Int), x36 = 0 -> Q ⟨.ce (.bool (x36 == 0)), false, [], []⟩))))))) := by kernel_rfl
section
attribute [local irreducible] hfun bodyT fragT
theorem sUnit : Sound Tryz.prog 31 SUnit := by
 refine sound_of (C := CUnit) tabUnit Tryz.func31 (by kernel_rfl) (by decide +kernel) (by kernel_rfl) rfl ⟨sFloor, trivial⟩ (loops0 (by kernel_rfl)) ?_
 intro hA pA R h
 unfold SUnit at h
 split at h
 case h_2 => exfalso; exact h
 rename_i u
 obtain ⟨h1, hq⟩ := h
 refine byVC (vcUnit u R) ⟨by omega, fun x e => ?_⟩
 rw [e]; exact hq
theorem rh3 {w n a b bl x1 : Int} {KR KN : Prop} (h : shRH w n a b bl) (e1 : x1 = b - a) (hn : KN) :
 (decide (w > n) = true -> (-9223372036854775808 <= 0 - bl /\ 0 - bl <= 9223372036854775807) /\ ∀ x2 : Int, x2 = 0 - bl -> ((x1 != x2) = true -> KR) /\ ((x1 != x2) = false -> KN)) /\ (decide (w > n) = false -> KN) := by
 obtain ⟨h1, h2, h3, h4, h5, h6⟩ := h
 refine ⟨fun g => ⟨by omega, fun x2 e2 => ⟨fun g2 => ?_, fun _ => hn⟩⟩, fun _ => hn⟩
 have := h6 (of_decide_eq_true g)
 have : x1 = x2 := by omega
 rw [this] at g2; simp at g2
theorem rh2 {w n a b bl x1 : Int} {KR S : Prop} (h : shRH w n a b bl) (e1 : x1 = b - a) (hs : S) : (decide (w < n) = true -> ((x1 != bl) = true -> KR) /\ ((x1 != bl) = false -> S)) /\ (decide (w < n) = false -> S) := by
 obtain ⟨h1, h2, h3, h4, h5, h6⟩ := h
 refine ⟨fun g => ⟨fun g2 => ?_, fun _ => hs⟩, fun _ => hs⟩
 have := h5 (of_decide_eq_true g)
 have : x1 = bl := by omega
 rw [this] at g2; simp at g2
theorem rh1 {w n a b bl x1 : Int} {KR S : Prop} (h : shRH w n a b bl) (e1 : x1 = b - a) (hs : S) : ((w == n) = true -> ((x1 != 0) = true -> KR) /\ ((x1 != 0) = false -> S)) /\ ((w == n) = false -> S) := by
 obtain ⟨h1, h2, h3, h4, h5, h6⟩ := h
 refine ⟨fun g => ⟨fun g2 => ?_, fun _ => hs⟩, fun _ => hs⟩
 have := h4 (by simpa using g)
 have : x1 = 0 := by omega
 rw [this] at g2; simp at g2
theorem loopRHo : ∀ v Q, (LRHo v).wp Q -> hloop CRHo anRHo (nthLoop Tryz.f7 0) v Q := by
 intro v Q h
 unfold LRHo at h
 split at h
 case h_2 => exact h.elim
 rename_i i rb m0 m1 m2 m3 m4 m5 w0 w1 w2 n0 n1 n2 a0 a1 a2 b0 b1 b2
 obtain ⟨⟨h1, x, h2, k0, k1, k2⟩, hq⟩ := h
 subst h1 h2
 refine hloop_rec (σ := Nat) (fun k => ([.ce (.ptr 1000009 0), .ce (.ptr 1000012 0), .ce (.ptr 1000017 0), .ce (.ptr 1000018 0), .ce (.ptr 1000019 0), .ce (.ptr 1000020 0), .ce (.num .i64 (k : Int))], [runC x, [.int .i64 m0, .int .i64 m1, .int .i64 m2, .int .i64 m3, .int .i64 m4, .int .i64 m5], [.int .i64 w0, .int .i64 w1, .int .i64 w2], [.int .i64 n0, .int .i64 n1, .int .i64 n2], [.int .i64 a0, .int .i64 a1, .int .i64 a2], [.int .i64 b0, .int .i64 b1, .int .i64 b2]]))
  (fun k => 3 - k) (fun k => k <= 3) ?_ 0 (Nat.zero_le _)
 intro k hk K hn hx _
 have hk : k = 0 ∨ k = 1 ∨ k = 2 ∨ k = 3 := by omega
 rcases hk with rfl | rfl | rfl | rfl
 . have nx := hn 1 (by omega) (by omega)
   refine byVB (vbRH0 x m0 m1 m2 m3 m4 m5 w0 w1 w2 n0 n1 n2 a0 a1 a2 b0 b1 b2 K) ⟨by have := k0.1; have := k0.2.1; omega, fun x1 e1 => rh1 k0 e1 (rh2 k0 e1 (rh3 k0 e1 nx))⟩
 . have nx := hn 2 (by omega) (by omega)
   refine byVB (vbRH1 x m0 m1 m2 m3 m4 m5 w0 w1 w2 n0 n1 n2 a0 a1 a2 b0 b1 b2 K) ⟨by have := k1.1; have := k1.2.1; omega, fun x1 e1 => rh1 k1 e1 (rh2 k1 e1 (rh3 k1 e1 nx))⟩
 . have nx := hn 3 (by omega) (by omega)
   refine byVB (vbRH2 x m0 m1 m2 m3 m4 m5 w0 w1 w2 n0 n1 n2 a0 a1 a2 b0 b1 b2 K) ⟨by have := k2.1; have := k2.2.1; omega, fun x1 e1 => rh1 k2 e1 (rh2 k2 e1 (rh3 k2 e1 nx))⟩
 . exact byVB (vbRH3 x m0 m1 m2 m3 m4 m5 w0 w1 w2 n0 n1 n2 a0 a1 a2 b0 b1 b2 K) (hx _ _ hq)
theorem sh_of {m w n a b bl : Int} (ea : a = m + bsh bl w) (eb : b = m + bsh bl n) (hw : pm w) (hn : pm n) (ha : -4398046511104 <= a /\ a <= 4398046511104) (hb : -4398046511104 <= b /\ b <= 4398046511104) (hbl : 0 <= bl /\ bl <= 4096) : shRH w n a b bl := by
 refine ⟨ha, hb, hbl, fun e => ?_, fun e => ?_, fun e => ?_⟩
 . rw [ea, eb, e]; omega
 . unfold pm at hw hn
   have h1 : w = -1 := by omega
   have h2 : n = 1 := by omega
   rw [ea, eb, h1, h2]
   unfold bsh
   rw [if_neg (by decide), if_pos rfl]; omega
 . unfold pm at hw hn
   have h1 : w = 1 := by omega
   have h2 : n = -1 := by omega
   rw [ea, eb, h1, h2]
   unfold bsh
   rw [if_pos rfl, if_neg (by decide)]; omega
theorem nn_z {P : Prop} (g : (!((0 : Int) == 0 && ((0 : Int) == 0 && ((0 : Int) == 0 && ((0 : Int) == 0 && ((0 : Int) == 0 && ((0 : Int) == 0 && true))))))) = true) : P := by simp at g
theorem sRHo : Sound Tryz.prog 7 SRHo := by
 refine sound_of (C := CRHo) tabRHo Tryz.func7 (by kernel_rfl) (by decide +kernel) (by kernel_rfl) rfl ⟨sAwake, sTrack, sMod, sStartW, sTrnP, sFace, sLoose, sPlace, sMotors, sUnit, trivial⟩ (loops1 (by kernel_rfl) (loopOK_of (an := anRHo) (S := LRHo) (by kernel_rfl) loopRHo)) ?_
 intro hA pA R h
 unfold SRHo at h
 split at h
 case h_2 => exfalso; exact h
 rename_i l ax u s
 obtain ⟨⟨hl, hax⟩, hq⟩ := h
 refine byVC (vcRHo l ax u s R) ⟨trivial, fun w ew => ⟨fun g => (by rw [ew] at g; cases g), fun _ => ⟨⟨by decide, rfl, hl, hax⟩, okTr_ex, fun x htr => ?_⟩⟩⟩
 have hx := htr.1
 have hln := okRun_ln hx
 have h0 := okRun_ln0 hx
 have hp := okRun_pre hx
 have hb := okRun_b3 hx
 have hpl := plen_le hp.1
 refine ⟨by omega, fun x3 e3 => ⟨by omega, fun x4 e4 => ?_⟩⟩
 have b4 := emod_bd (a := u) (n := x3) (by omega)
 have hu : 0 <= x4 /\ x4 <= x.ln := by omega
 rw [clamp_in hu]
 refine ⟨hp.2.2.1, fun x5 e5 => ⟨fun _ => hq, fun g5 => ⟨hp.2.2.1, fun x6 e6 => ?_⟩⟩⟩
 have hlo : tloose x.pk x4 = false := e5.symm.trans g5
 have p6 := okRun_place hx hu
 rw [<- e6] at p6
 refine ⟨by omega, fun x7 e7 x8 e8 x9 e9 x10 e10 x11 e11 x12 e12 => ⟨by omega, fun x13 e13 => ⟨by omega, fun x14 e14 => ?_⟩⟩⟩
 have b14 := emod_bd (a := s) (n := x13) (by omega)
 have ht : 0 <= x14 /\ x14 <= plen x.sg := by omega
 refine ⟨⟨by omega, hp.1, hp.2.1, hb, hp.2.2.1⟩, ⟨_, rfl⟩, fun y ey => ?_⟩
 have est : stl x7 x8 x9 x10 x11 = true := by rw [e7, e8, e9, e10, e11]; exact stl_self _
 rw [est, show x7 / 256 = x4 by omega, clamp_in hu, turn_next hx hu hlo ht] at ey
 have hy := okRun_next hx hu hlo ht
 have py := okRun_pre hy
 have y0 := okRun_ln0 hy
 have yln := okRun_ln hy
 subst ey
 dsimp only
 have huy : 0 <= (x.next x4 x14).ln /\ (x.next x4 x14).ln <= (x.next x4 x14).ln := ⟨y0, Int.le_refl _⟩
 have hly := loose_end py.2.2.1
 have hsg : plen (x.next x4 x14).sg = plen x.sg := rfl
 have p6' : 0 <= x6 /\ x6 <= plen (x.next x4 x14).sg := p6
 refine ⟨by omega, fun x16 e16 x17 e17 x18 e18 x19 e19 x20 e20 x21 e21 => ⟨⟨by omega, hp.1, hp.2.1, hb, py.2.2.1⟩, ⟨_, rfl⟩, fun z ez => ?_⟩⟩
 have est2 : stl x16 x17 x18 x19 x20 = true := by rw [e16, e17, e18, e19, e20]; exact stl_self _
 have tn := turn_next hy huy hly p6'
 rw [est2, show x16 / 256 = (x.next x4 x14).ln by omega, clamp_in huy] at ez
 have ez := ez.trans tn
 have hz := okRun_next hy huy hly p6'
 have pz := okRun_pre hz
 have z0 := okRun_ln0 hz
 have hend := next_end hy huy hly p6'
 generalize hzz : (x.next x4 x14).next (x.next x4 x14).ln x6 = w at *
 have ka : w.a = x.a /\ w.b = x.b /\ w.c = x.c /\ w.s0 = x.s0 /\ w.s1 = x.s1 /\ w.s2 = x.s2 /\ w.sg = x.sg := by rw [<- hzz]; exact ⟨rfl, rfl, rfl, rfl, rfl, rfl, rfl⟩
 obtain ⟨ka, kb, kc, k0, k1, k2, ks⟩ := ka
 subst ez
 dsimp only
 have huz : 0 <= w.ln /\ w.ln <= w.ln := ⟨z0, Int.le_refl _⟩
 rw [clamp_in huz]
 have hlz := loose_end pz.2.2.1
 have fx := okRun_face hx hu hlo
 have fz := okRun_face hz huz hlz
 refine ⟨fun g => (by cases g), fun _ => ⟨fun g => (by cases g), fun _ => ⟨nn_z, fun _ => ⟨pz.2.2.1, fun x23 e23 => ⟨fun g => ?_, fun _ => ⟨hp.2.2.1, fun x24 e24 x25 e25 x26 e26 => ⟨pz.2.2.1, fun x27 e27 x28 e28 x29 e29 => ⟨hp, fun x30 e30 x31 e31 x32 e32 => ⟨?_, fun x33 e33 x34 e34 x35 e35 => ?_⟩⟩⟩⟩⟩⟩⟩⟩⟩
 . have : x23 = x6 := e23.trans hend
   rw [this] at g; simp at g
 . rw [<- ka, <- kb, <- kc, <- k0, <- k1, <- k2, <- ks]; exact pz
 . have e30 : x30 = x.M0 x4 := e30
   have e31 : x31 = x.M1 x4 := e31
   have e32 : x32 = x.M2 x4 := e32
   rw [<- ka, <- k0, <- ks] at e33
   rw [<- kb, <- k1, <- ks] at e34
   rw [<- kc, <- k2, <- ks] at e35
   have e33 : x33 = w.M0 w.ln := e33
   have e34 : x34 = w.M1 w.ln := e34
   have e35 : x35 = w.M2 w.ln := e35
   have c0 := M0_bd hx x4 hu
   have c1 := M1_bd hx x4 hu
   have c2 := M2_bd hx x4 hu
   have d0 := M0_bd hz w.ln huz
   have d1 := M1_bd hz w.ln huz
   have d2 := M2_bd hz w.ln huz
   rw [<- e30] at c0
   rw [<- e31] at c1
   rw [<- e32] at c2
   rw [<- e33] at d0
   rw [<- e34] at d1
   rw [<- e35] at d2
   unfold RunS.M0 at e30 e33
   unfold RunS.M1 at e31 e34
   unfold RunS.M2 at e32 e35
   rw [mtr_shf, fx.1.1, <- e6, <- e24] at e30
   rw [mtr_shf, fx.1.2.1, <- e6, <- e25] at e31
   rw [mtr_shf, fx.1.2.2, <- e6, <- e26] at e32
   rw [mtr_shf, fz.1.1, hend, <- e27, ka, k0, ks] at e33
   rw [mtr_shf, fz.1.2.1, hend, <- e28, kb, k1, ks] at e34
   rw [mtr_shf, fz.1.2.2, hend, <- e29, kc, k2, ks] at e35
   have q24 := fx.2.1
   have q25 := fx.2.2.1
   have q26 := fx.2.2.2
   have q27 := fz.2.1
   have q28 := fz.2.2.1
   have q29 := fz.2.2.2
   rw [<- e24] at q24
   rw [<- e25] at q25
   rw [<- e26] at q26
   rw [<- e27] at q27
   rw [<- e28] at q28
   rw [<- e29] at q29
   refine ⟨⟨rfl, x, rfl, sh_of e30 e33 q24 q27 (by omega) (by omega) hb.1, sh_of e31 e34 q25 q28 (by omega) (by omega) hb.2.1, sh_of e32 e35 q26 q29 (by omega) (by omega) hb.2.2⟩, by decide, ?_⟩
   rintro _ rfl
   exact hq
end
end Go.Proofs.YtneingpnkdeooaaGreat
