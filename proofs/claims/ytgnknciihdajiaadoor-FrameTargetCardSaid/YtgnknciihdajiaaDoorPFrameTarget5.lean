/-
  Part 5 of the texts that the law needs, merged: a value-level calculus of the code (HL), the contracts of the functions, and their proofs.
  Conditions: none.
-/
import Derived.Test.YtgnknciihdajiaaDoorPFrameTarget4
set_option maxRecDepth 100000
set_option maxHeartbeats 400000
set_option linter.unusedVariables false
set_option linter.unusedSimpArgs false
namespace U
open Go Go.HL
def fsP (p : Int) : Int := if p = 18 then 2 else if p = 19 then 1 else 0
def scP (p : Int) : Int := if p = 18 then 0 else if p = 19 then 2 else 1
def at3 (i a b c : Int) : Int := if i = 0 then a else if i = 1 then b else c
def at3b (i : Int) (a b c : Bool) : Bool := if i = 0 then a else if i = 1 then b else c
def wE (a i u : Int) (h : Bool) (n : Int) : Int := if h = true ∧ i ≠ a then lnE n u else 0
def wN (a i u : Int) (h : Bool) (n : Int) : Int := if h = true ∧ i ≠ a then lnN n u else n
def put3 (i j u w k n : Int) : Int := if k = j then w else if k = i then u else n
def mv (d : Int) (h : Bool) (p n : Int) : Int := if h then (if d = 91 then p + n else n) else p
def mI (r : List HC) (k : Nat) : Int := match r[k]? with
  | some (.int _ v) => v
  | _ => 0
structure TgS where
  x : Int
  y : Int
  z : Int
  any : Bool
  e : Int
def tg3 (d : Int) (b0 b1 b2 : Bool) (x y z n0 n1 n2 : Int) : TgS :=
  if wn (mv d b0 x n0) (mv d b1 y n1) (mv d b2 z n2) then ⟨mv d b0 x n0, mv d b1 y n1, mv d b2 z n2, b0 || (b1 || b2), 0⟩ else ⟨0, 0, 0, false, 3⟩
def tg2 (f s a d : Int) (b0 b1 b2 : Bool) (x y z n0 n1 n2 : Int) : TgS :=
  if (decide (0 ≤ a) && (at3b f b0 b1 b2 != at3b s b0 b1 b2)) = true then ⟨0, 0, 0, false, 9⟩
  else if (decide (0 ≤ a) && at3b f b0 b1 b2) = true then
    tg3 d b0 b1 b2 x y z (put3 f s (rtU (at3 f n0 n1 n2) 0 (at3 s n0 n1 n2)) (rtW (at3 f n0 n1 n2) 0 (at3 s n0 n1 n2)) 0 n0)
      (put3 f s (rtU (at3 f n0 n1 n2) 0 (at3 s n0 n1 n2)) (rtW (at3 f n0 n1 n2) 0 (at3 s n0 n1 n2)) 1 n1)
      (put3 f s (rtU (at3 f n0 n1 n2) 0 (at3 s n0 n1 n2)) (rtW (at3 f n0 n1 n2) 0 (at3 s n0 n1 n2)) 2 n2)
  else tg3 d b0 b1 b2 x y z n0 n1 n2
def tg1 (f s a d u : Int) (b0 b1 b2 : Bool) (x y z n0 n1 n2 : Int) : TgS :=
  if wE a 0 u b0 n0 ≠ 0 then ⟨0, 0, 0, false, wE a 0 u b0 n0⟩ else if wE a 1 u b1 n1 ≠ 0 then ⟨0, 0, 0, false, wE a 1 u b1 n1⟩
  else if wE a 2 u b2 n2 ≠ 0 then ⟨0, 0, 0, false, wE a 2 u b2 n2⟩ else tg2 f s a d b0 b1 b2 x y z (wN a 0 u b0 n0) (wN a 1 u b1 n1) (wN a 2 u b2 n2)
def anP (p po : Int) : Int := if po = 16 then scP p else -1
def tgF (p d u po : Int) (l : List (List Int)) (x y z : Int) : TgS :=
  if wn x y z then tg1 (fsP p) (scP p) (anP p po) d u (fndB 88 l) (fndB 89 l) (fndB 90 l) x y z (fndN 88 l) (fndN 89 l) (fndN 90 l) else ⟨0, 0, 0, false, 1⟩
end U
namespace Go.Proofs.YtgnknciihdajiaaDoor
open Go Go.HL U
def SFx (hargs : List HV) (pars : List (List HC)) : SR :=
  match hargs, pars with
  | [.ce (.int .i64 p)], [] => .det True ⟨.tup [.ce (.int .i64 (fsP p)), .ce (.int .i64 (scP p))], false, [], []⟩
  | _, _ => .fail
noncomputable def CFx : Ctx := ⟨Tryd.prog, gam [], Tryd.f46.ntmps, [], []⟩
theorem vcFx (p : Int) (Q : Res → Prop) : (nfun true CFx Tryd.f46 (bodyOf Tryd.f46) [.ce (.int .i64 p)] [] Q) =
    (((p == 18) = true → Q ⟨.tup [.ce (.int .i64 2), .ce (.int .i64 0)], false, [], []⟩) ∧ ((p == 18) = false → ((p == 19) = true → Q ⟨.tup [.ce (.int .i64 1), .ce (.int .i64 2)], false, [], []⟩) ∧ ((p == 19) = false → Q ⟨.tup [.ce (.int .i64 0), .ce (.int .i64 1)], false, [], []⟩))) := by kernel_rfl
def STgt (hargs : List HV) (pars : List (List HC)) : SR :=
  match hargs, pars with
  | [.agg cs, .ce (.sl false [4, 4] l), .agg [.int .i64 x, .int .i64 y, .int .i64 z]], [] => match cs with
    | [.int .i64 m0, .int .i64 m1, .int .i64 m2, .int .i64 m3, .int .i64 m4, .int .i64 m5, .int .i64 m6, .int .i64 m7, .int .i64 m8, .int .i64 m9, .int .i64 m10, .int .i64 m11, .int .i64 m12, .bool m13, .bool m14, .int .i64 m15, .int .i64 m16, .int .i64 m17, .int .i64 m18, .int .i64 m19, .int .i64 m20, .int .i64 m21] => .all (l.length ≤ 1000 ∧ 17 ≤ m1 ∧ m1 ≤ 19) TgS (fun r => r = tgF m1 m2 m3 m10 l x y z)
        (fun r => ⟨.tup [.agg [.int .i64 r.x, .int .i64 r.y, .int .i64 r.z], .ce (.bool r.any), .ce (.int .i64 r.e)], false, [], []⟩)
    | _ => .fail
  | _, _ => .fail
def hT1 : Nat → Bool := fun s => Nat.beq s 31
def anT1 : LAnn := ⟨[1, 3, 5, 6, 7, 8, 9, 10, 30, 31], [3, 5, 6, 7, 8, 9, 10], [1000003, 1000005, 1000006, 1000009], hT1⟩
def LT1 (v : LV) : LR :=
  match v with
  | ([.ce (.sl false [4, 4] l), .ce (.ptr 1000003 0), .ce (.ptr 1000005 0), .ce (.ptr 1000006 0), .ce (.bool t7), .ce (.int .i64 t8), .ce (.ptr 1000009 0), .ce (.bool a), .agg [.int .i64 e0, .int .i64 e1, .int .i64 e2], .ce (.num .i64 i)], [rm, [.int .i64 x, .int .i64 y, .int .i64 z], [.int .i64 r0, .int .i64 r1, .int .i64 r2], [.int .i64 n0, .bool h0, .int .i64 n1, .bool h1, .int .i64 n2, .bool h2]]) =>
    .det (i = 0 ∧ a = false ∧ (e0 = 88 ∧ e1 = 89 ∧ e2 = 90) ∧ l.length ≤ 1000 ∧ ∃ m, rm = cM m) (.exit 0)
      ([.ce (.ptr 1000003 0), .ce (.ptr 1000005 0), .ce (.ptr 1000006 0), .ce (.bool t7), .ce (.int .i64 t8), .ce (.ptr 1000009 0), .ce (.bool (fndB 88 l || (fndB 89 l || fndB 90 l)))], [rm, [.int .i64 x, .int .i64 y, .int .i64 z], [.int .i64 r0, .int .i64 r1, .int .i64 r2], [.int .i64 (fndN 88 l), .bool (fndB 88 l), .int .i64 (fndN 89 l), .bool (fndB 89 l), .int .i64 (fndN 90 l), .bool (fndB 90 l)]])
  | _ => .fail
def hT2 : Nat → Bool := fun s => Nat.beq s 70
def anT2 : LAnn := ⟨[3, 5, 6, 7, 8, 9, 10, 13, 14, 15, 70], [3, 5, 6, 7, 8, 9, 10, 13, 14, 15], [1000003, 1000005, 1000006, 1000009], hT2⟩
def LT2 (v : LV) : LR :=
  match v with
  | ([.ce (.ptr 1000003 0), .ce (.ptr 1000005 0), .ce (.ptr 1000006 0), .ce (.bool t7), .ce (.int .i64 t8), .ce (.ptr 1000009 0), .ce (.bool y0), .ce (.int .i64 f), .ce (.int .i64 s), .ce (.int .i64 a), .ce (.num .i64 i)], [rm, [.int .i64 x, .int .i64 y, .int .i64 z], [.int .i64 r0, .int .i64 r1, .int .i64 r2], [.int .i64 n0, .bool h0, .int .i64 n1, .bool h1, .int .i64 n2, .bool h2]]) =>
    .alts (i = 0 ∧ ∃ m, rm = cM m)
      [(wE a 0 (mI rm 3) h0 n0 ≠ 0, .ret, ([.ce (.ptr 1000003 0), .ce (.ptr 1000005 0), .ce (.ptr 1000006 0), .ce (.bool false), .ce (.int .i64 (wE a 0 (mI rm 3) h0 n0)), .ce (.ptr 1000009 0), .ce (.bool y0), .ce (.int .i64 f), .ce (.int .i64 s), .ce (.int .i64 a)], [rm, [.int .i64 x, .int .i64 y, .int .i64 z], [.int .i64 0, .int .i64 0, .int .i64 0], [.int .i64 n0, .bool h0, .int .i64 n1, .bool h1, .int .i64 n2, .bool h2]])),
       (wE a 0 (mI rm 3) h0 n0 = 0 ∧ wE a 1 (mI rm 3) h1 n1 ≠ 0, .ret, ([.ce (.ptr 1000003 0), .ce (.ptr 1000005 0), .ce (.ptr 1000006 0), .ce (.bool false), .ce (.int .i64 (wE a 1 (mI rm 3) h1 n1)), .ce (.ptr 1000009 0), .ce (.bool y0), .ce (.int .i64 f), .ce (.int .i64 s), .ce (.int .i64 a)], [rm, [.int .i64 x, .int .i64 y, .int .i64 z], [.int .i64 0, .int .i64 0, .int .i64 0], [.int .i64 (wN a 0 (mI rm 3) h0 n0), .bool h0, .int .i64 n1, .bool h1, .int .i64 n2, .bool h2]])),
       (wE a 0 (mI rm 3) h0 n0 = 0 ∧ wE a 1 (mI rm 3) h1 n1 = 0 ∧ wE a 2 (mI rm 3) h2 n2 ≠ 0, .ret, ([.ce (.ptr 1000003 0), .ce (.ptr 1000005 0), .ce (.ptr 1000006 0), .ce (.bool false), .ce (.int .i64 (wE a 2 (mI rm 3) h2 n2)), .ce (.ptr 1000009 0), .ce (.bool y0), .ce (.int .i64 f), .ce (.int .i64 s), .ce (.int .i64 a)], [rm, [.int .i64 x, .int .i64 y, .int .i64 z], [.int .i64 0, .int .i64 0, .int .i64 0], [.int .i64 (wN a 0 (mI rm 3) h0 n0), .bool h0, .int .i64 (wN a 1 (mI rm 3) h1 n1), .bool h1, .int .i64 n2, .bool h2]])),
       (wE a 0 (mI rm 3) h0 n0 = 0 ∧ wE a 1 (mI rm 3) h1 n1 = 0 ∧ wE a 2 (mI rm 3) h2 n2 = 0, .exit 2, ([.ce (.ptr 1000003 0), .ce (.ptr 1000005 0), .ce (.ptr 1000006 0), .ce (.bool t7), .ce (.int .i64 t8), .ce (.ptr 1000009 0), .ce (.bool y0), .ce (.int .i64 f), .ce (.int .i64 s), .ce (.int .i64 a)], [rm, [.int .i64 x, .int .i64 y, .int .i64 z], [.int .i64 r0, .int .i64 r1, .int .i64 r2], [.int .i64 (wN a 0 (mI rm 3) h0 n0), .bool h0, .int .i64 (wN a 1 (mI rm 3) h1 n1), .bool h1, .int .i64 (wN a 2 (mI rm 3) h2 n2), .bool h2]]))]
  | _ => .fail
def anT3 : LAnn := ⟨[3, 5, 6, 7, 8, 9, 10, 13, 14, 15], [3, 5, 6, 7, 8, 9, 10, 13, 14, 15, 114], [1000003, 1000005, 1000006, 1000009], false⟩
def LT3 (v : LV) : LR :=
  match v with
  | ([.ce (.ptr 1000003 0), .ce (.ptr 1000005 0), .ce (.ptr 1000006 0), .ce (.bool t7), .ce (.int .i64 t8), .ce (.ptr 1000009 0), .ce (.bool y0), .ce (.int .i64 f), .ce (.int .i64 s), .ce (.int .i64 a)], [rm, [.int .i64 x, .int .i64 y, .int .i64 z], [.int .i64 r0, .int .i64 r1, .int .i64 r2], [.int .i64 n0, .bool h0, .int .i64 n1, .bool h1, .int .i64 n2, .bool h2]]) =>
    .all ((0 ≤ f ∧ f ≤ 2 ∧ 0 ≤ s ∧ s ≤ 2) ∧ ∃ m, rm = cM m) Bool (fun b => b = (decide (0 ≤ a) && (at3b f h0 h1 h2 != at3b s h0 h1 h2))) (fun _ => .normal)
      (fun b => ([.ce (.ptr 1000003 0), .ce (.ptr 1000005 0), .ce (.ptr 1000006 0), .ce (.bool t7), .ce (.int .i64 t8), .ce (.ptr 1000009 0), .ce (.bool y0), .ce (.int .i64 f), .ce (.int .i64 s), .ce (.int .i64 a), .ce (.bool b)], [rm, [.int .i64 x, .int .i64 y, .int .i64 z], [.int .i64 r0, .int .i64 r1, .int .i64 r2], [.int .i64 n0, .bool h0, .int .i64 n1, .bool h1, .int .i64 n2, .bool h2]]))
  | _ => .fail
def anT4 : LAnn := ⟨[3, 6, 9, 10, 13, 14, 15, 19], [3, 6, 9, 10, 13, 14, 19, 130], [1000003, 1000006, 1000009, 1000019], false⟩
def LT4 (v : LV) : LR :=
  match v with
  | ([.ce (.ptr 1000003 0), .ce (.ptr 1000006 0), .ce (.ptr 1000009 0), .ce (.bool y0), .ce (.int .i64 f), .ce (.int .i64 s), .ce (.int .i64 a), .ce (.ptr 1000019 0)], [rm, [.int .i64 r0, .int .i64 r1, .int .i64 r2], [.int .i64 n0, .bool h0, .int .i64 n1, .bool h1, .int .i64 n2, .bool h2], [.int .i64 x, .int .i64 y, .int .i64 z]]) =>
    .all ((0 ≤ f ∧ f ≤ 2) ∧ ∃ m, rm = cM m) Bool (fun b => b = (decide (0 ≤ a) && at3b f h0 h1 h2)) (fun _ => .normal)
      (fun b => ([.ce (.ptr 1000003 0), .ce (.ptr 1000006 0), .ce (.ptr 1000009 0), .ce (.bool y0), .ce (.int .i64 f), .ce (.int .i64 s), .ce (.ptr 1000019 0), .ce (.bool b)], [rm, [.int .i64 r0, .int .i64 r1, .int .i64 r2], [.int .i64 n0, .bool h0, .int .i64 n1, .bool h1, .int .i64 n2, .bool h2], [.int .i64 x, .int .i64 y, .int .i64 z]]))
  | _ => .fail
def anT5 : LAnn := ⟨[3, 6, 9, 10, 13, 14, 19, 130], [3, 6, 9, 10, 19], [1000003, 1000006, 1000009, 1000019], false⟩
def LT5 (v : LV) : LR :=
  match v with
  | ([.ce (.ptr 1000003 0), .ce (.ptr 1000006 0), .ce (.ptr 1000009 0), .ce (.bool y0), .ce (.int .i64 f), .ce (.int .i64 s), .ce (.ptr 1000019 0), .ce (.bool c)], [rm, [.int .i64 r0, .int .i64 r1, .int .i64 r2], [.int .i64 n0, .bool h0, .int .i64 n1, .bool h1, .int .i64 n2, .bool h2], [.int .i64 x, .int .i64 y, .int .i64 z]]) =>
    .all ((0 ≤ f ∧ f ≤ 2 ∧ 0 ≤ s ∧ s ≤ 2) ∧ ∃ m, rm = cM m) (Int × Int × Int)
      (fun q => (c = false → q.1 = n0 ∧ q.2.1 = n1 ∧ q.2.2 = n2) ∧ (c = true →
        q.1 = put3 f s (rtU (at3 f n0 n1 n2) 0 (at3 s n0 n1 n2)) (rtW (at3 f n0 n1 n2) 0 (at3 s n0 n1 n2)) 0 n0 ∧
        q.2.1 = put3 f s (rtU (at3 f n0 n1 n2) 0 (at3 s n0 n1 n2)) (rtW (at3 f n0 n1 n2) 0 (at3 s n0 n1 n2)) 1 n1 ∧
        q.2.2 = put3 f s (rtU (at3 f n0 n1 n2) 0 (at3 s n0 n1 n2)) (rtW (at3 f n0 n1 n2) 0 (at3 s n0 n1 n2)) 2 n2)) (fun _ => .normal)
      (fun q => ([.ce (.ptr 1000003 0), .ce (.ptr 1000006 0), .ce (.ptr 1000009 0), .ce (.bool y0), .ce (.ptr 1000019 0)], [rm, [.int .i64 r0, .int .i64 r1, .int .i64 r2], [.int .i64 q.1, .bool h0, .int .i64 q.2.1, .bool h1, .int .i64 q.2.2, .bool h2], [.int .i64 x, .int .i64 y, .int .i64 z]]))
  | _ => .fail
def hT6 : Nat → Bool := fun s => Nat.beq s 153
def anT6 : LAnn := ⟨[3, 6, 10, 19, 152, 153], [6, 10, 19], [1000003, 1000006, 1000019], hT6⟩
def bmv (h : Bool) (n : Int) : Prop := h = true → -1099511627776 ≤ n ∧ n ≤ 1099511627776
def LT6 (v : LV) : LR :=
  match v with
  | ([.ce (.ptr 1000003 0), .ce (.ptr 1000006 0), .ce (.bool y0), .ce (.ptr 1000019 0), .agg [.int .i64 n0, .bool h0, .int .i64 n1, .bool h1, .int .i64 n2, .bool h2], .ce (.num .i64 i)], [rm, [.int .i64 r0, .int .i64 r1, .int .i64 r2], [.int .i64 x, .int .i64 y, .int .i64 z]]) =>
    .det (i = 0 ∧ (∃ m, rm = cM m) ∧ B3 1099511627776 x y z ∧ bmv h0 n0 ∧ bmv h1 n1 ∧ bmv h2 n2) (.exit 4)
      ([.ce (.ptr 1000006 0), .ce (.bool y0), .ce (.ptr 1000019 0)], [rm, [.int .i64 r0, .int .i64 r1, .int .i64 r2], [.int .i64 (mv (mI rm 2) h0 x n0), .int .i64 (mv (mI rm 2) h1 y n1), .int .i64 (mv (mI rm 2) h2 z n2)]])
  | _ => .fail
def tabTgt : List (FuncId × HL.Spec) := [(44, SWn), (45, SFind), (46, SFx), (47, SPl), (48, SLen), (49, SRot)]
noncomputable def CTgt : Ctx := ⟨Tryd.prog, gam tabTgt, Tryd.f17.ntmps, [(6, anT1, LT1), (16, anT2, LT2), (3000024, anT3, LT3), (3000027, anT4, LT4), (2000028, anT5, LT5), (31, anT6, LT6)], [spl 24 13 3 0, spl 24 14 3 0, spl 27 13 3 0, spl 28 13 3 0, spl 28 14 3 0]⟩
theorem vbT10 (l : List (List Int)) (m : M) (t7 a h0 h1 h2 : Bool) (t8 e0 e1 e2 x y z r0 r1 r2 n0 n1 n2 : Int) (K : HEx → LV → Prop) : (nbodyT true CTgt anT1 (nthLoop Tryd.f17 0) (([.ce (.sl false [4, 4] l), .ce (.ptr 1000003 0), .ce (.ptr 1000005 0), .ce (.ptr 1000006 0), .ce (.bool t7), .ce (.int .i64 t8), .ce (.ptr 1000009 0), .ce (.bool a), .agg [.int .i64 e0, .int .i64 e1, .int .i64 e2], .ce (.num .i64 0)], [[.int .i64 m.m0, .int .i64 m.m1, .int .i64 m.m2, .int .i64 m.m3, .int .i64 m.m4, .int .i64 m.m5, .int .i64 m.m6, .int .i64 m.m7, .int .i64 m.m8, .int .i64 m.m9, .int .i64 m.m10, .int .i64 m.m11, .int .i64 m.m12, .bool m.m13, .bool m.m14, .int .i64 m.m15, .int .i64 m.m16, .int .i64 m.m17, .int .i64 m.m18, .int .i64 m.m19, .int .i64 m.m20, .int .i64 m.m21], [.int .i64 x, .int .i64 y, .int .i64 z], [.int .i64 r0, .int .i64 r1, .int .i64 r2], [.int .i64 n0, .bool h0, .int .i64 n1, .bool h1, .int .i64 n2, .bool h2]])) K) =
    (List.length l ≤ (1000 : Nat) ∧ ∀ (x1 : Int), x1 = fndN e0 l → ∀ (x2 : Bool), x2 = fndB e0 l → (a = true → K .normal ([.ce (.sl false [4, 4] l), .ce (.ptr 1000003 0), .ce (.ptr 1000005 0), .ce (.ptr 1000006 0), .ce (.bool t7), .ce (.int .i64 t8), .ce (.ptr 1000009 0), .ce (.bool true), .agg [.int .i64 e0, .int .i64 e1, .int .i64 e2], .ce (.num .i64 (1 : Int))], [(cM m), [.int .i64 x, .int .i64 y, .int .i64 z], [.int .i64 r0, .int .i64 r1, .int .i64 r2], [.int .i64 x1, .bool x2, .int .i64 n1, .bool h1, .int .i64 n2, .bool h2]])) ∧ (a = false → K .normal ([.ce (.sl false [4, 4] l), .ce (.ptr 1000003 0), .ce (.ptr 1000005 0), .ce (.ptr 1000006 0), .ce (.bool t7), .ce (.int .i64 t8), .ce (.ptr 1000009 0), .ce (.bool x2), .agg [.int .i64 e0, .int .i64 e1, .int .i64 e2], .ce (.num .i64 (1 : Int))], [(cM m), [.int .i64 x, .int .i64 y, .int .i64 z], [.int .i64 r0, .int .i64 r1, .int .i64 r2], [.int .i64 x1, .bool x2, .int .i64 n1, .bool h1, .int .i64 n2, .bool h2]]))) := by kernel_rfl
theorem vbT11 (l : List (List Int)) (m : M) (t7 a h0 h1 h2 : Bool) (t8 e0 e1 e2 x y z r0 r1 r2 n0 n1 n2 : Int) (K : HEx → LV → Prop) : (nbodyT true CTgt anT1 (nthLoop Tryd.f17 0) (([.ce (.sl false [4, 4] l), .ce (.ptr 1000003 0), .ce (.ptr 1000005 0), .ce (.ptr 1000006 0), .ce (.bool t7), .ce (.int .i64 t8), .ce (.ptr 1000009 0), .ce (.bool a), .agg [.int .i64 e0, .int .i64 e1, .int .i64 e2], .ce (.num .i64 1)], [[.int .i64 m.m0, .int .i64 m.m1, .int .i64 m.m2, .int .i64 m.m3, .int .i64 m.m4, .int .i64 m.m5, .int .i64 m.m6, .int .i64 m.m7, .int .i64 m.m8, .int .i64 m.m9, .int .i64 m.m10, .int .i64 m.m11, .int .i64 m.m12, .bool m.m13, .bool m.m14, .int .i64 m.m15, .int .i64 m.m16, .int .i64 m.m17, .int .i64 m.m18, .int .i64 m.m19, .int .i64 m.m20, .int .i64 m.m21], [.int .i64 x, .int .i64 y, .int .i64 z], [.int .i64 r0, .int .i64 r1, .int .i64 r2], [.int .i64 n0, .bool h0, .int .i64 n1, .bool h1, .int .i64 n2, .bool h2]])) K) =
    (List.length l ≤ (1000 : Nat) ∧ ∀ (x1 : Int), x1 = fndN e1 l → ∀ (x2 : Bool), x2 = fndB e1 l → (a = true → K .normal ([.ce (.sl false [4, 4] l), .ce (.ptr 1000003 0), .ce (.ptr 1000005 0), .ce (.ptr 1000006 0), .ce (.bool t7), .ce (.int .i64 t8), .ce (.ptr 1000009 0), .ce (.bool true), .agg [.int .i64 e0, .int .i64 e1, .int .i64 e2], .ce (.num .i64 (2 : Int))], [(cM m), [.int .i64 x, .int .i64 y, .int .i64 z], [.int .i64 r0, .int .i64 r1, .int .i64 r2], [.int .i64 n0, .bool h0, .int .i64 x1, .bool x2, .int .i64 n2, .bool h2]])) ∧ (a = false → K .normal ([.ce (.sl false [4, 4] l), .ce (.ptr 1000003 0), .ce (.ptr 1000005 0), .ce (.ptr 1000006 0), .ce (.bool t7), .ce (.int .i64 t8), .ce (.ptr 1000009 0), .ce (.bool x2), .agg [.int .i64 e0, .int .i64 e1, .int .i64 e2], .ce (.num .i64 (2 : Int))], [(cM m), [.int .i64 x, .int .i64 y, .int .i64 z], [.int .i64 r0, .int .i64 r1, .int .i64 r2], [.int .i64 n0, .bool h0, .int .i64 x1, .bool x2, .int .i64 n2, .bool h2]]))) := by kernel_rfl
theorem vbT12 (l : List (List Int)) (m : M) (t7 a h0 h1 h2 : Bool) (t8 e0 e1 e2 x y z r0 r1 r2 n0 n1 n2 : Int) (K : HEx → LV → Prop) : (nbodyT true CTgt anT1 (nthLoop Tryd.f17 0) (([.ce (.sl false [4, 4] l), .ce (.ptr 1000003 0), .ce (.ptr 1000005 0), .ce (.ptr 1000006 0), .ce (.bool t7), .ce (.int .i64 t8), .ce (.ptr 1000009 0), .ce (.bool a), .agg [.int .i64 e0, .int .i64 e1, .int .i64 e2], .ce (.num .i64 2)], [[.int .i64 m.m0, .int .i64 m.m1, .int .i64 m.m2, .int .i64 m.m3, .int .i64 m.m4, .int .i64 m.m5, .int .i64 m.m6, .int .i64 m.m7, .int .i64 m.m8, .int .i64 m.m9, .int .i64 m.m10, .int .i64 m.m11, .int .i64 m.m12, .bool m.m13, .bool m.m14, .int .i64 m.m15, .int .i64 m.m16, .int .i64 m.m17, .int .i64 m.m18, .int .i64 m.m19, .int .i64 m.m20, .int .i64 m.m21], [.int .i64 x, .int .i64 y, .int .i64 z], [.int .i64 r0, .int .i64 r1, .int .i64 r2], [.int .i64 n0, .bool h0, .int .i64 n1, .bool h1, .int .i64 n2, .bool h2]])) K) =
    (List.length l ≤ (1000 : Nat) ∧ ∀ (x1 : Int), x1 = fndN e2 l → ∀ (x2 : Bool), x2 = fndB e2 l → (a = true → K .normal ([.ce (.sl false [4, 4] l), .ce (.ptr 1000003 0), .ce (.ptr 1000005 0), .ce (.ptr 1000006 0), .ce (.bool t7), .ce (.int .i64 t8), .ce (.ptr 1000009 0), .ce (.bool true), .agg [.int .i64 e0, .int .i64 e1, .int .i64 e2], .ce (.num .i64 (3 : Int))], [(cM m), [.int .i64 x, .int .i64 y, .int .i64 z], [.int .i64 r0, .int .i64 r1, .int .i64 r2], [.int .i64 n0, .bool h0, .int .i64 n1, .bool h1, .int .i64 x1, .bool x2]])) ∧ (a = false → K .normal ([.ce (.sl false [4, 4] l), .ce (.ptr 1000003 0), .ce (.ptr 1000005 0), .ce (.ptr 1000006 0), .ce (.bool t7), .ce (.int .i64 t8), .ce (.ptr 1000009 0), .ce (.bool x2), .agg [.int .i64 e0, .int .i64 e1, .int .i64 e2], .ce (.num .i64 (3 : Int))], [(cM m), [.int .i64 x, .int .i64 y, .int .i64 z], [.int .i64 r0, .int .i64 r1, .int .i64 r2], [.int .i64 n0, .bool h0, .int .i64 n1, .bool h1, .int .i64 x1, .bool x2]]))) := by kernel_rfl
theorem vbT13 (l : List (List Int)) (m : M) (t7 a h0 h1 h2 : Bool) (t8 e0 e1 e2 x y z r0 r1 r2 n0 n1 n2 : Int) (K : HEx → LV → Prop) : (nbodyT true CTgt anT1 (nthLoop Tryd.f17 0) (([.ce (.sl false [4, 4] l), .ce (.ptr 1000003 0), .ce (.ptr 1000005 0), .ce (.ptr 1000006 0), .ce (.bool t7), .ce (.int .i64 t8), .ce (.ptr 1000009 0), .ce (.bool a), .agg [.int .i64 e0, .int .i64 e1, .int .i64 e2], .ce (.num .i64 3)], [[.int .i64 m.m0, .int .i64 m.m1, .int .i64 m.m2, .int .i64 m.m3, .int .i64 m.m4, .int .i64 m.m5, .int .i64 m.m6, .int .i64 m.m7, .int .i64 m.m8, .int .i64 m.m9, .int .i64 m.m10, .int .i64 m.m11, .int .i64 m.m12, .bool m.m13, .bool m.m14, .int .i64 m.m15, .int .i64 m.m16, .int .i64 m.m17, .int .i64 m.m18, .int .i64 m.m19, .int .i64 m.m20, .int .i64 m.m21], [.int .i64 x, .int .i64 y, .int .i64 z], [.int .i64 r0, .int .i64 r1, .int .i64 r2], [.int .i64 n0, .bool h0, .int .i64 n1, .bool h1, .int .i64 n2, .bool h2]])) K) =
    (K (.exit 0) ([.ce (.ptr 1000003 0), .ce (.ptr 1000005 0), .ce (.ptr 1000006 0), .ce (.bool t7), .ce (.int .i64 t8), .ce (.ptr 1000009 0), .ce (.bool a)], [(cM m), [.int .i64 x, .int .i64 y, .int .i64 z], [.int .i64 r0, .int .i64 r1, .int .i64 r2], [.int .i64 n0, .bool h0, .int .i64 n1, .bool h1, .int .i64 n2, .bool h2]])) := by kernel_rfl
theorem vbT20 (m : M) (t7 y0 h0 h1 h2 : Bool) (t8 f s a x y z r0 r1 r2 n0 n1 n2 : Int) (K : HEx → LV → Prop) : (nbodyT true CTgt anT2 (nthLoop Tryd.f17 1) (([.ce (.ptr 1000003 0), .ce (.ptr 1000005 0), .ce (.ptr 1000006 0), .ce (.bool t7), .ce (.int .i64 t8), .ce (.ptr 1000009 0), .ce (.bool y0), .ce (.int .i64 f), .ce (.int .i64 s), .ce (.int .i64 a), .ce (.num .i64 0)], [[.int .i64 m.m0, .int .i64 m.m1, .int .i64 m.m2, .int .i64 m.m3, .int .i64 m.m4, .int .i64 m.m5, .int .i64 m.m6, .int .i64 m.m7, .int .i64 m.m8, .int .i64 m.m9, .int .i64 m.m10, .int .i64 m.m11, .int .i64 m.m12, .bool m.m13, .bool m.m14, .int .i64 m.m15, .int .i64 m.m16, .int .i64 m.m17, .int .i64 m.m18, .int .i64 m.m19, .int .i64 m.m20, .int .i64 m.m21], [.int .i64 x, .int .i64 y, .int .i64 z], [.int .i64 r0, .int .i64 r1, .int .i64 r2], [.int .i64 n0, .bool h0, .int .i64 n1, .bool h1, .int .i64 n2, .bool h2]])) K) =
    (((!h0) = true → K .normal ([.ce (.ptr 1000003 0), .ce (.ptr 1000005 0), .ce (.ptr 1000006 0), .ce (.bool t7), .ce (.int .i64 t8), .ce (.ptr 1000009 0), .ce (.bool y0), .ce (.int .i64 f), .ce (.int .i64 s), .ce (.int .i64 a), .ce (.num .i64 (1 : Int))], [(cM m), [.int .i64 x, .int .i64 y, .int .i64 z], [.int .i64 r0, .int .i64 r1, .int .i64 r2], [.int .i64 n0, .bool h0, .int .i64 n1, .bool h1, .int .i64 n2, .bool h2]])) ∧ ((!h0) = false → (((0 : Int) == a) = true → K .normal ([.ce (.ptr 1000003 0), .ce (.ptr 1000005 0), .ce (.ptr 1000006 0), .ce (.bool t7), .ce (.int .i64 t8), .ce (.ptr 1000009 0), .ce (.bool y0), .ce (.int .i64 f), .ce (.int .i64 s), .ce (.int .i64 a), .ce (.num .i64 (1 : Int))], [(cM m), [.int .i64 x, .int .i64 y, .int .i64 z], [.int .i64 r0, .int .i64 r1, .int .i64 r2], [.int .i64 n0, .bool h0, .int .i64 n1, .bool h1, .int .i64 n2, .bool h2]])) ∧
    (((0 : Int) == a) = false → True ∧ ∀ (x1 : Int), x1 = lnN n0 m.m3 → ∀ (x2 : Int), x2 = lnE n0 m.m3 → ((x2 != 0) = true → K .ret ([.ce (.ptr 1000003 0), .ce (.ptr 1000005 0), .ce (.ptr 1000006 0), .ce (.bool false), .ce (.int .i64 x2), .ce (.ptr 1000009 0), .ce (.bool y0), .ce (.int .i64 f), .ce (.int .i64 s), .ce (.int .i64 a)], [(cM m), [.int .i64 x, .int .i64 y, .int .i64 z], [.int .i64 0, .int .i64 0, .int .i64 0], [.int .i64 n0, .bool h0, .int .i64 n1, .bool h1, .int .i64 n2, .bool h2]])) ∧ ((x2 != 0) = false → K .normal ([.ce (.ptr 1000003 0), .ce (.ptr 1000005 0), .ce (.ptr 1000006 0), .ce (.bool t7), .ce (.int .i64 t8), .ce (.ptr 1000009 0), .ce (.bool y0), .ce (.int .i64 f), .ce (.int .i64 s), .ce (.int .i64 a), .ce (.num .i64 (1 : Int))], [(cM m), [.int .i64 x, .int .i64 y, .int .i64 z], [.int .i64 r0, .int .i64 r1, .int .i64 r2], [.int .i64 x1, .bool h0, .int .i64 n1, .bool h1, .int .i64 n2, .bool h2]]))))) := by kernel_rfl
theorem vbT21 (m : M) (t7 y0 h0 h1 h2 : Bool) (t8 f s a x y z r0 r1 r2 n0 n1 n2 : Int) (K : HEx → LV → Prop) : (nbodyT true CTgt anT2 (nthLoop Tryd.f17 1) (([.ce (.ptr 1000003 0), .ce (.ptr 1000005 0), .ce (.ptr 1000006 0), .ce (.bool t7), .ce (.int .i64 t8), .ce (.ptr 1000009 0), .ce (.bool y0), .ce (.int .i64 f), .ce (.int .i64 s), .ce (.int .i64 a), .ce (.num .i64 1)], [[.int .i64 m.m0, .int .i64 m.m1, .int .i64 m.m2, .int .i64 m.m3, .int .i64 m.m4, .int .i64 m.m5, .int .i64 m.m6, .int .i64 m.m7, .int .i64 m.m8, .int .i64 m.m9, .int .i64 m.m10, .int .i64 m.m11, .int .i64 m.m12, .bool m.m13, .bool m.m14, .int .i64 m.m15, .int .i64 m.m16, .int .i64 m.m17, .int .i64 m.m18, .int .i64 m.m19, .int .i64 m.m20, .int .i64 m.m21], [.int .i64 x, .int .i64 y, .int .i64 z], [.int .i64 r0, .int .i64 r1, .int .i64 r2], [.int .i64 n0, .bool h0, .int .i64 n1, .bool h1, .int .i64 n2, .bool h2]])) K) =
    (((!h1) = true → K .normal ([.ce (.ptr 1000003 0), .ce (.ptr 1000005 0), .ce (.ptr 1000006 0), .ce (.bool t7), .ce (.int .i64 t8), .ce (.ptr 1000009 0), .ce (.bool y0), .ce (.int .i64 f), .ce (.int .i64 s), .ce (.int .i64 a), .ce (.num .i64 (2 : Int))], [(cM m), [.int .i64 x, .int .i64 y, .int .i64 z], [.int .i64 r0, .int .i64 r1, .int .i64 r2], [.int .i64 n0, .bool h0, .int .i64 n1, .bool h1, .int .i64 n2, .bool h2]])) ∧ ((!h1) = false → (((1 : Int) == a) = true → K .normal ([.ce (.ptr 1000003 0), .ce (.ptr 1000005 0), .ce (.ptr 1000006 0), .ce (.bool t7), .ce (.int .i64 t8), .ce (.ptr 1000009 0), .ce (.bool y0), .ce (.int .i64 f), .ce (.int .i64 s), .ce (.int .i64 a), .ce (.num .i64 (2 : Int))], [(cM m), [.int .i64 x, .int .i64 y, .int .i64 z], [.int .i64 r0, .int .i64 r1, .int .i64 r2], [.int .i64 n0, .bool h0, .int .i64 n1, .bool h1, .int .i64 n2, .bool h2]])) ∧
    (((1 : Int) == a) = false → True ∧ ∀ (x1 : Int), x1 = lnN n1 m.m3 → ∀ (x2 : Int), x2 = lnE n1 m.m3 → ((x2 != 0) = true → K .ret ([.ce (.ptr 1000003 0), .ce (.ptr 1000005 0), .ce (.ptr 1000006 0), .ce (.bool false), .ce (.int .i64 x2), .ce (.ptr 1000009 0), .ce (.bool y0), .ce (.int .i64 f), .ce (.int .i64 s), .ce (.int .i64 a)], [(cM m), [.int .i64 x, .int .i64 y, .int .i64 z], [.int .i64 0, .int .i64 0, .int .i64 0], [.int .i64 n0, .bool h0, .int .i64 n1, .bool h1, .int .i64 n2, .bool h2]])) ∧ ((x2 != 0) = false → K .normal ([.ce (.ptr 1000003 0), .ce (.ptr 1000005 0), .ce (.ptr 1000006 0), .ce (.bool t7), .ce (.int .i64 t8), .ce (.ptr 1000009 0), .ce (.bool y0), .ce (.int .i64 f), .ce (.int .i64 s), .ce (.int .i64 a), .ce (.num .i64 (2 : Int))], [(cM m), [.int .i64 x, .int .i64 y, .int .i64 z], [.int .i64 r0, .int .i64 r1, .int .i64 r2], [.int .i64 n0, .bool h0, .int .i64 x1, .bool h1, .int .i64 n2, .bool h2]]))))) := by kernel_rfl
theorem vbT22 (m : M) (t7 y0 h0 h1 h2 : Bool) (t8 f s a x y z r0 r1 r2 n0 n1 n2 : Int) (K : HEx → LV → Prop) : (nbodyT true CTgt anT2 (nthLoop Tryd.f17 1) (([.ce (.ptr 1000003 0), .ce (.ptr 1000005 0), .ce (.ptr 1000006 0), .ce (.bool t7), .ce (.int .i64 t8), .ce (.ptr 1000009 0), .ce (.bool y0), .ce (.int .i64 f), .ce (.int .i64 s), .ce (.int .i64 a), .ce (.num .i64 2)], [[.int .i64 m.m0, .int .i64 m.m1, .int .i64 m.m2, .int .i64 m.m3, .int .i64 m.m4, .int .i64 m.m5, .int .i64 m.m6, .int .i64 m.m7, .int .i64 m.m8, .int .i64 m.m9, .int .i64 m.m10, .int .i64 m.m11, .int .i64 m.m12, .bool m.m13, .bool m.m14, .int .i64 m.m15, .int .i64 m.m16, .int .i64 m.m17, .int .i64 m.m18, .int .i64 m.m19, .int .i64 m.m20, .int .i64 m.m21], [.int .i64 x, .int .i64 y, .int .i64 z], [.int .i64 r0, .int .i64 r1, .int .i64 r2], [.int .i64 n0, .bool h0, .int .i64 n1, .bool h1, .int .i64 n2, .bool h2]])) K) =
    (((!h2) = true → K .normal ([.ce (.ptr 1000003 0), .ce (.ptr 1000005 0), .ce (.ptr 1000006 0), .ce (.bool t7), .ce (.int .i64 t8), .ce (.ptr 1000009 0), .ce (.bool y0), .ce (.int .i64 f), .ce (.int .i64 s), .ce (.int .i64 a), .ce (.num .i64 (3 : Int))], [(cM m), [.int .i64 x, .int .i64 y, .int .i64 z], [.int .i64 r0, .int .i64 r1, .int .i64 r2], [.int .i64 n0, .bool h0, .int .i64 n1, .bool h1, .int .i64 n2, .bool h2]])) ∧ ((!h2) = false → (((2 : Int) == a) = true → K .normal ([.ce (.ptr 1000003 0), .ce (.ptr 1000005 0), .ce (.ptr 1000006 0), .ce (.bool t7), .ce (.int .i64 t8), .ce (.ptr 1000009 0), .ce (.bool y0), .ce (.int .i64 f), .ce (.int .i64 s), .ce (.int .i64 a), .ce (.num .i64 (3 : Int))], [(cM m), [.int .i64 x, .int .i64 y, .int .i64 z], [.int .i64 r0, .int .i64 r1, .int .i64 r2], [.int .i64 n0, .bool h0, .int .i64 n1, .bool h1, .int .i64 n2, .bool h2]])) ∧
    (((2 : Int) == a) = false → True ∧ ∀ (x1 : Int), x1 = lnN n2 m.m3 → ∀ (x2 : Int), x2 = lnE n2 m.m3 → ((x2 != 0) = true → K .ret ([.ce (.ptr 1000003 0), .ce (.ptr 1000005 0), .ce (.ptr 1000006 0), .ce (.bool false), .ce (.int .i64 x2), .ce (.ptr 1000009 0), .ce (.bool y0), .ce (.int .i64 f), .ce (.int .i64 s), .ce (.int .i64 a)], [(cM m), [.int .i64 x, .int .i64 y, .int .i64 z], [.int .i64 0, .int .i64 0, .int .i64 0], [.int .i64 n0, .bool h0, .int .i64 n1, .bool h1, .int .i64 n2, .bool h2]])) ∧ ((x2 != 0) = false → K .normal ([.ce (.ptr 1000003 0), .ce (.ptr 1000005 0), .ce (.ptr 1000006 0), .ce (.bool t7), .ce (.int .i64 t8), .ce (.ptr 1000009 0), .ce (.bool y0), .ce (.int .i64 f), .ce (.int .i64 s), .ce (.int .i64 a), .ce (.num .i64 (3 : Int))], [(cM m), [.int .i64 x, .int .i64 y, .int .i64 z], [.int .i64 r0, .int .i64 r1, .int .i64 r2], [.int .i64 n0, .bool h0, .int .i64 n1, .bool h1, .int .i64 x1, .bool h2]]))))) := by kernel_rfl
theorem vbT23 (m : M) (t7 y0 h0 h1 h2 : Bool) (t8 f s a x y z r0 r1 r2 n0 n1 n2 : Int) (K : HEx → LV → Prop) : (nbodyT true CTgt anT2 (nthLoop Tryd.f17 1) (([.ce (.ptr 1000003 0), .ce (.ptr 1000005 0), .ce (.ptr 1000006 0), .ce (.bool t7), .ce (.int .i64 t8), .ce (.ptr 1000009 0), .ce (.bool y0), .ce (.int .i64 f), .ce (.int .i64 s), .ce (.int .i64 a), .ce (.num .i64 3)], [[.int .i64 m.m0, .int .i64 m.m1, .int .i64 m.m2, .int .i64 m.m3, .int .i64 m.m4, .int .i64 m.m5, .int .i64 m.m6, .int .i64 m.m7, .int .i64 m.m8, .int .i64 m.m9, .int .i64 m.m10, .int .i64 m.m11, .int .i64 m.m12, .bool m.m13, .bool m.m14, .int .i64 m.m15, .int .i64 m.m16, .int .i64 m.m17, .int .i64 m.m18, .int .i64 m.m19, .int .i64 m.m20, .int .i64 m.m21], [.int .i64 x, .int .i64 y, .int .i64 z], [.int .i64 r0, .int .i64 r1, .int .i64 r2], [.int .i64 n0, .bool h0, .int .i64 n1, .bool h1, .int .i64 n2, .bool h2]])) K) =
    (K (.exit 2) ([.ce (.ptr 1000003 0), .ce (.ptr 1000005 0), .ce (.ptr 1000006 0), .ce (.bool t7), .ce (.int .i64 t8), .ce (.ptr 1000009 0), .ce (.bool y0), .ce (.int .i64 f), .ce (.int .i64 s), .ce (.int .i64 a)], [(cM m), [.int .i64 x, .int .i64 y, .int .i64 z], [.int .i64 r0, .int .i64 r1, .int .i64 r2], [.int .i64 n0, .bool h0, .int .i64 n1, .bool h1, .int .i64 n2, .bool h2]])) := by kernel_rfl
theorem vbT60 (m : M) (y0 h0 h1 h2 : Bool) (x y z r0 r1 r2 n0 n1 n2 : Int) (K : HEx → LV → Prop) : (nbodyT true CTgt anT6 (nthLoop Tryd.f17 2) (([.ce (.ptr 1000003 0), .ce (.ptr 1000006 0), .ce (.bool y0), .ce (.ptr 1000019 0), .agg [.int .i64 n0, .bool h0, .int .i64 n1, .bool h1, .int .i64 n2, .bool h2], .ce (.num .i64 0)], [[.int .i64 m.m0, .int .i64 m.m1, .int .i64 m.m2, .int .i64 m.m3, .int .i64 m.m4, .int .i64 m.m5, .int .i64 m.m6, .int .i64 m.m7, .int .i64 m.m8, .int .i64 m.m9, .int .i64 m.m10, .int .i64 m.m11, .int .i64 m.m12, .bool m.m13, .bool m.m14, .int .i64 m.m15, .int .i64 m.m16, .int .i64 m.m17, .int .i64 m.m18, .int .i64 m.m19, .int .i64 m.m20, .int .i64 m.m21], [.int .i64 r0, .int .i64 r1, .int .i64 r2], [.int .i64 x, .int .i64 y, .int .i64 z]])) K) =
    ((h0 = true → ((m.m2 == 91) = true → (-9223372036854775808 ≤ x + n0 ∧ x + n0 ≤ 9223372036854775807) ∧ ∀ (x1 : Int), x1 = x + n0 → K .normal ([.ce (.ptr 1000003 0), .ce (.ptr 1000006 0), .ce (.bool y0), .ce (.ptr 1000019 0), .agg [.int .i64 n0, .bool h0, .int .i64 n1, .bool h1, .int .i64 n2, .bool h2], .ce (.num .i64 (1 : Int))], [(cM m), [.int .i64 r0, .int .i64 r1, .int .i64 r2], [.int .i64 x1, .int .i64 y, .int .i64 z]])) ∧ ((m.m2 == 91) = false → (h0 = true → K .normal ([.ce (.ptr 1000003 0), .ce (.ptr 1000006 0), .ce (.bool y0), .ce (.ptr 1000019 0), .agg [.int .i64 n0, .bool h0, .int .i64 n1, .bool h1, .int .i64 n2, .bool h2], .ce (.num .i64 (1 : Int))], [(cM m), [.int .i64 r0, .int .i64 r1, .int .i64 r2], [.int .i64 n0, .int .i64 y, .int .i64 z]])) ∧
    (h0 = false → K .normal ([.ce (.ptr 1000003 0), .ce (.ptr 1000006 0), .ce (.bool y0), .ce (.ptr 1000019 0), .agg [.int .i64 n0, .bool h0, .int .i64 n1, .bool h1, .int .i64 n2, .bool h2], .ce (.num .i64 (1 : Int))], [(cM m), [.int .i64 r0, .int .i64 r1, .int .i64 r2], [.int .i64 x, .int .i64 y, .int .i64 z]])))) ∧ (h0 = false → (h0 = true → K .normal ([.ce (.ptr 1000003 0), .ce (.ptr 1000006 0), .ce (.bool y0), .ce (.ptr 1000019 0), .agg [.int .i64 n0, .bool h0, .int .i64 n1, .bool h1, .int .i64 n2, .bool h2], .ce (.num .i64 (1 : Int))], [(cM m), [.int .i64 r0, .int .i64 r1, .int .i64 r2], [.int .i64 n0, .int .i64 y, .int .i64 z]])) ∧
    (h0 = false → K .normal ([.ce (.ptr 1000003 0), .ce (.ptr 1000006 0), .ce (.bool y0), .ce (.ptr 1000019 0), .agg [.int .i64 n0, .bool h0, .int .i64 n1, .bool h1, .int .i64 n2, .bool h2], .ce (.num .i64 (1 : Int))], [(cM m), [.int .i64 r0, .int .i64 r1, .int .i64 r2], [.int .i64 x, .int .i64 y, .int .i64 z]])))) := by kernel_rfl
theorem vbT61 (m : M) (y0 h0 h1 h2 : Bool) (x y z r0 r1 r2 n0 n1 n2 : Int) (K : HEx → LV → Prop) : (nbodyT true CTgt anT6 (nthLoop Tryd.f17 2) (([.ce (.ptr 1000003 0), .ce (.ptr 1000006 0), .ce (.bool y0), .ce (.ptr 1000019 0), .agg [.int .i64 n0, .bool h0, .int .i64 n1, .bool h1, .int .i64 n2, .bool h2], .ce (.num .i64 1)], [[.int .i64 m.m0, .int .i64 m.m1, .int .i64 m.m2, .int .i64 m.m3, .int .i64 m.m4, .int .i64 m.m5, .int .i64 m.m6, .int .i64 m.m7, .int .i64 m.m8, .int .i64 m.m9, .int .i64 m.m10, .int .i64 m.m11, .int .i64 m.m12, .bool m.m13, .bool m.m14, .int .i64 m.m15, .int .i64 m.m16, .int .i64 m.m17, .int .i64 m.m18, .int .i64 m.m19, .int .i64 m.m20, .int .i64 m.m21], [.int .i64 r0, .int .i64 r1, .int .i64 r2], [.int .i64 x, .int .i64 y, .int .i64 z]])) K) =
    ((h1 = true → ((m.m2 == 91) = true → (-9223372036854775808 ≤ y + n1 ∧ y + n1 ≤ 9223372036854775807) ∧ ∀ (x1 : Int), x1 = y + n1 → K .normal ([.ce (.ptr 1000003 0), .ce (.ptr 1000006 0), .ce (.bool y0), .ce (.ptr 1000019 0), .agg [.int .i64 n0, .bool h0, .int .i64 n1, .bool h1, .int .i64 n2, .bool h2], .ce (.num .i64 (2 : Int))], [(cM m), [.int .i64 r0, .int .i64 r1, .int .i64 r2], [.int .i64 x, .int .i64 x1, .int .i64 z]])) ∧ ((m.m2 == 91) = false → (h1 = true → K .normal ([.ce (.ptr 1000003 0), .ce (.ptr 1000006 0), .ce (.bool y0), .ce (.ptr 1000019 0), .agg [.int .i64 n0, .bool h0, .int .i64 n1, .bool h1, .int .i64 n2, .bool h2], .ce (.num .i64 (2 : Int))], [(cM m), [.int .i64 r0, .int .i64 r1, .int .i64 r2], [.int .i64 x, .int .i64 n1, .int .i64 z]])) ∧
    (h1 = false → K .normal ([.ce (.ptr 1000003 0), .ce (.ptr 1000006 0), .ce (.bool y0), .ce (.ptr 1000019 0), .agg [.int .i64 n0, .bool h0, .int .i64 n1, .bool h1, .int .i64 n2, .bool h2], .ce (.num .i64 (2 : Int))], [(cM m), [.int .i64 r0, .int .i64 r1, .int .i64 r2], [.int .i64 x, .int .i64 y, .int .i64 z]])))) ∧ (h1 = false → (h1 = true → K .normal ([.ce (.ptr 1000003 0), .ce (.ptr 1000006 0), .ce (.bool y0), .ce (.ptr 1000019 0), .agg [.int .i64 n0, .bool h0, .int .i64 n1, .bool h1, .int .i64 n2, .bool h2], .ce (.num .i64 (2 : Int))], [(cM m), [.int .i64 r0, .int .i64 r1, .int .i64 r2], [.int .i64 x, .int .i64 n1, .int .i64 z]])) ∧
    (h1 = false → K .normal ([.ce (.ptr 1000003 0), .ce (.ptr 1000006 0), .ce (.bool y0), .ce (.ptr 1000019 0), .agg [.int .i64 n0, .bool h0, .int .i64 n1, .bool h1, .int .i64 n2, .bool h2], .ce (.num .i64 (2 : Int))], [(cM m), [.int .i64 r0, .int .i64 r1, .int .i64 r2], [.int .i64 x, .int .i64 y, .int .i64 z]])))) := by kernel_rfl
theorem vbT62 (m : M) (y0 h0 h1 h2 : Bool) (x y z r0 r1 r2 n0 n1 n2 : Int) (K : HEx → LV → Prop) : (nbodyT true CTgt anT6 (nthLoop Tryd.f17 2) (([.ce (.ptr 1000003 0), .ce (.ptr 1000006 0), .ce (.bool y0), .ce (.ptr 1000019 0), .agg [.int .i64 n0, .bool h0, .int .i64 n1, .bool h1, .int .i64 n2, .bool h2], .ce (.num .i64 2)], [[.int .i64 m.m0, .int .i64 m.m1, .int .i64 m.m2, .int .i64 m.m3, .int .i64 m.m4, .int .i64 m.m5, .int .i64 m.m6, .int .i64 m.m7, .int .i64 m.m8, .int .i64 m.m9, .int .i64 m.m10, .int .i64 m.m11, .int .i64 m.m12, .bool m.m13, .bool m.m14, .int .i64 m.m15, .int .i64 m.m16, .int .i64 m.m17, .int .i64 m.m18, .int .i64 m.m19, .int .i64 m.m20, .int .i64 m.m21], [.int .i64 r0, .int .i64 r1, .int .i64 r2], [.int .i64 x, .int .i64 y, .int .i64 z]])) K) =
    ((h2 = true → ((m.m2 == 91) = true → (-9223372036854775808 ≤ z + n2 ∧ z + n2 ≤ 9223372036854775807) ∧ ∀ (x1 : Int), x1 = z + n2 → K .normal ([.ce (.ptr 1000003 0), .ce (.ptr 1000006 0), .ce (.bool y0), .ce (.ptr 1000019 0), .agg [.int .i64 n0, .bool h0, .int .i64 n1, .bool h1, .int .i64 n2, .bool h2], .ce (.num .i64 (3 : Int))], [(cM m), [.int .i64 r0, .int .i64 r1, .int .i64 r2], [.int .i64 x, .int .i64 y, .int .i64 x1]])) ∧ ((m.m2 == 91) = false → (h2 = true → K .normal ([.ce (.ptr 1000003 0), .ce (.ptr 1000006 0), .ce (.bool y0), .ce (.ptr 1000019 0), .agg [.int .i64 n0, .bool h0, .int .i64 n1, .bool h1, .int .i64 n2, .bool h2], .ce (.num .i64 (3 : Int))], [(cM m), [.int .i64 r0, .int .i64 r1, .int .i64 r2], [.int .i64 x, .int .i64 y, .int .i64 n2]])) ∧
    (h2 = false → K .normal ([.ce (.ptr 1000003 0), .ce (.ptr 1000006 0), .ce (.bool y0), .ce (.ptr 1000019 0), .agg [.int .i64 n0, .bool h0, .int .i64 n1, .bool h1, .int .i64 n2, .bool h2], .ce (.num .i64 (3 : Int))], [(cM m), [.int .i64 r0, .int .i64 r1, .int .i64 r2], [.int .i64 x, .int .i64 y, .int .i64 z]])))) ∧ (h2 = false → (h2 = true → K .normal ([.ce (.ptr 1000003 0), .ce (.ptr 1000006 0), .ce (.bool y0), .ce (.ptr 1000019 0), .agg [.int .i64 n0, .bool h0, .int .i64 n1, .bool h1, .int .i64 n2, .bool h2], .ce (.num .i64 (3 : Int))], [(cM m), [.int .i64 r0, .int .i64 r1, .int .i64 r2], [.int .i64 x, .int .i64 y, .int .i64 n2]])) ∧
    (h2 = false → K .normal ([.ce (.ptr 1000003 0), .ce (.ptr 1000006 0), .ce (.bool y0), .ce (.ptr 1000019 0), .agg [.int .i64 n0, .bool h0, .int .i64 n1, .bool h1, .int .i64 n2, .bool h2], .ce (.num .i64 (3 : Int))], [(cM m), [.int .i64 r0, .int .i64 r1, .int .i64 r2], [.int .i64 x, .int .i64 y, .int .i64 z]])))) := by kernel_rfl
theorem vbT63 (m : M) (y0 h0 h1 h2 : Bool) (x y z r0 r1 r2 n0 n1 n2 : Int) (K : HEx → LV → Prop) : (nbodyT true CTgt anT6 (nthLoop Tryd.f17 2) (([.ce (.ptr 1000003 0), .ce (.ptr 1000006 0), .ce (.bool y0), .ce (.ptr 1000019 0), .agg [.int .i64 n0, .bool h0, .int .i64 n1, .bool h1, .int .i64 n2, .bool h2], .ce (.num .i64 3)], [[.int .i64 m.m0, .int .i64 m.m1, .int .i64 m.m2, .int .i64 m.m3, .int .i64 m.m4, .int .i64 m.m5, .int .i64 m.m6, .int .i64 m.m7, .int .i64 m.m8, .int .i64 m.m9, .int .i64 m.m10, .int .i64 m.m11, .int .i64 m.m12, .bool m.m13, .bool m.m14, .int .i64 m.m15, .int .i64 m.m16, .int .i64 m.m17, .int .i64 m.m18, .int .i64 m.m19, .int .i64 m.m20, .int .i64 m.m21], [.int .i64 r0, .int .i64 r1, .int .i64 r2], [.int .i64 x, .int .i64 y, .int .i64 z]])) K) =
    (K (.exit 4) ([.ce (.ptr 1000006 0), .ce (.bool y0), .ce (.ptr 1000019 0)], [(cM m), [.int .i64 r0, .int .i64 r1, .int .i64 r2], [.int .i64 x, .int .i64 y, .int .i64 z]])) := by kernel_rfl
theorem vgT3 (m : M) (t7 y0 h0 h1 h2 : Bool) (t8 f s a x y z r0 r1 r2 n0 n1 n2 : Int) (K : HEx → LV → Prop) : (nfragT true CTgt anT3 (nthFrag CTgt Tryd.f17 0) (([.ce (.ptr 1000003 0), .ce (.ptr 1000005 0), .ce (.ptr 1000006 0), .ce (.bool t7), .ce (.int .i64 t8), .ce (.ptr 1000009 0), .ce (.bool y0), .ce (.int .i64 f), .ce (.int .i64 s), .ce (.int .i64 a)], [[.int .i64 m.m0, .int .i64 m.m1, .int .i64 m.m2, .int .i64 m.m3, .int .i64 m.m4, .int .i64 m.m5, .int .i64 m.m6, .int .i64 m.m7, .int .i64 m.m8, .int .i64 m.m9, .int .i64 m.m10, .int .i64 m.m11, .int .i64 m.m12, .bool m.m13, .bool m.m14, .int .i64 m.m15, .int .i64 m.m16, .int .i64 m.m17, .int .i64 m.m18, .int .i64 m.m19, .int .i64 m.m20, .int .i64 m.m21], [.int .i64 x, .int .i64 y, .int .i64 z], [.int .i64 r0, .int .i64 r1, .int .i64 r2], [.int .i64 n0, .bool h0, .int .i64 n1, .bool h1, .int .i64 n2, .bool h2]])) K) =
    ((f = 0 → (s = 0 → (decide (a ≥ 0) = true → K .normal ([.ce (.ptr 1000003 0), .ce (.ptr 1000005 0), .ce (.ptr 1000006 0), .ce (.bool t7), .ce (.int .i64 t8), .ce (.ptr 1000009 0), .ce (.bool y0), .ce (.int .i64 0), .ce (.int .i64 0), .ce (.int .i64 a), .ce (.bool !h0 == h0)], [(cM m), [.int .i64 x, .int .i64 y, .int .i64 z], [.int .i64 r0, .int .i64 r1, .int .i64 r2], [.int .i64 n0, .bool h0, .int .i64 n1, .bool h1, .int .i64 n2, .bool h2]])) ∧ (decide (a ≥ 0) = false → K .normal ([.ce (.ptr 1000003 0), .ce (.ptr 1000005 0), .ce (.ptr 1000006 0), .ce (.bool t7), .ce (.int .i64 t8), .ce (.ptr 1000009 0), .ce (.bool y0), .ce (.int .i64 0), .ce (.int .i64 0), .ce (.int .i64 a), .ce (.bool false)], [(cM m), [.int .i64 x, .int .i64 y, .int .i64 z], [.int .i64 r0, .int .i64 r1, .int .i64 r2], [.int .i64 n0, .bool h0, .int .i64 n1, .bool h1, .int .i64 n2, .bool h2]]))) ∧
    (s ≠ 0 → (s = 1 → (decide (a ≥ 0) = true → K .normal ([.ce (.ptr 1000003 0), .ce (.ptr 1000005 0), .ce (.ptr 1000006 0), .ce (.bool t7), .ce (.int .i64 t8), .ce (.ptr 1000009 0), .ce (.bool y0), .ce (.int .i64 0), .ce (.int .i64 1), .ce (.int .i64 a), .ce (.bool !h0 == h1)], [(cM m), [.int .i64 x, .int .i64 y, .int .i64 z], [.int .i64 r0, .int .i64 r1, .int .i64 r2], [.int .i64 n0, .bool h0, .int .i64 n1, .bool h1, .int .i64 n2, .bool h2]])) ∧ (decide (a ≥ 0) = false → K .normal ([.ce (.ptr 1000003 0), .ce (.ptr 1000005 0), .ce (.ptr 1000006 0), .ce (.bool t7), .ce (.int .i64 t8), .ce (.ptr 1000009 0), .ce (.bool y0), .ce (.int .i64 0), .ce (.int .i64 1), .ce (.int .i64 a), .ce (.bool false)], [(cM m), [.int .i64 x, .int .i64 y, .int .i64 z], [.int .i64 r0, .int .i64 r1, .int .i64 r2], [.int .i64 n0, .bool h0, .int .i64 n1, .bool h1, .int .i64 n2, .bool h2]]))) ∧
    (s ≠ 1 → (s = 2 → (decide (a ≥ 0) = true → K .normal ([.ce (.ptr 1000003 0), .ce (.ptr 1000005 0), .ce (.ptr 1000006 0), .ce (.bool t7), .ce (.int .i64 t8), .ce (.ptr 1000009 0), .ce (.bool y0), .ce (.int .i64 0), .ce (.int .i64 2), .ce (.int .i64 a), .ce (.bool !h0 == h2)], [(cM m), [.int .i64 x, .int .i64 y, .int .i64 z], [.int .i64 r0, .int .i64 r1, .int .i64 r2], [.int .i64 n0, .bool h0, .int .i64 n1, .bool h1, .int .i64 n2, .bool h2]])) ∧ (decide (a ≥ 0) = false → K .normal ([.ce (.ptr 1000003 0), .ce (.ptr 1000005 0), .ce (.ptr 1000006 0), .ce (.bool t7), .ce (.int .i64 t8), .ce (.ptr 1000009 0), .ce (.bool y0), .ce (.int .i64 0), .ce (.int .i64 2), .ce (.int .i64 a), .ce (.bool false)], [(cM m), [.int .i64 x, .int .i64 y, .int .i64 z], [.int .i64 r0, .int .i64 r1, .int .i64 r2], [.int .i64 n0, .bool h0, .int .i64 n1, .bool h1, .int .i64 n2, .bool h2]]))) ∧
    (s ≠ 2 → False)))) ∧ (f ≠ 0 → (f = 1 → (s = 0 → (decide (a ≥ 0) = true → K .normal ([.ce (.ptr 1000003 0), .ce (.ptr 1000005 0), .ce (.ptr 1000006 0), .ce (.bool t7), .ce (.int .i64 t8), .ce (.ptr 1000009 0), .ce (.bool y0), .ce (.int .i64 1), .ce (.int .i64 0), .ce (.int .i64 a), .ce (.bool !h1 == h0)], [(cM m), [.int .i64 x, .int .i64 y, .int .i64 z], [.int .i64 r0, .int .i64 r1, .int .i64 r2], [.int .i64 n0, .bool h0, .int .i64 n1, .bool h1, .int .i64 n2, .bool h2]])) ∧ (decide (a ≥ 0) = false → K .normal ([.ce (.ptr 1000003 0), .ce (.ptr 1000005 0), .ce (.ptr 1000006 0), .ce (.bool t7), .ce (.int .i64 t8), .ce (.ptr 1000009 0), .ce (.bool y0), .ce (.int .i64 1), .ce (.int .i64 0), .ce (.int .i64 a), .ce (.bool false)], [(cM m), [.int .i64 x, .int .i64 y, .int .i64 z], [.int .i64 r0, .int .i64 r1, .int .i64 r2], [.int .i64 n0, .bool h0, .int .i64 n1, .bool h1, .int .i64 n2, .bool h2]]))) ∧
    (s ≠ 0 → (s = 1 → (decide (a ≥ 0) = true → K .normal ([.ce (.ptr 1000003 0), .ce (.ptr 1000005 0), .ce (.ptr 1000006 0), .ce (.bool t7), .ce (.int .i64 t8), .ce (.ptr 1000009 0), .ce (.bool y0), .ce (.int .i64 1), .ce (.int .i64 1), .ce (.int .i64 a), .ce (.bool !h1 == h1)], [(cM m), [.int .i64 x, .int .i64 y, .int .i64 z], [.int .i64 r0, .int .i64 r1, .int .i64 r2], [.int .i64 n0, .bool h0, .int .i64 n1, .bool h1, .int .i64 n2, .bool h2]])) ∧ (decide (a ≥ 0) = false → K .normal ([.ce (.ptr 1000003 0), .ce (.ptr 1000005 0), .ce (.ptr 1000006 0), .ce (.bool t7), .ce (.int .i64 t8), .ce (.ptr 1000009 0), .ce (.bool y0), .ce (.int .i64 1), .ce (.int .i64 1), .ce (.int .i64 a), .ce (.bool false)], [(cM m), [.int .i64 x, .int .i64 y, .int .i64 z], [.int .i64 r0, .int .i64 r1, .int .i64 r2], [.int .i64 n0, .bool h0, .int .i64 n1, .bool h1, .int .i64 n2, .bool h2]]))) ∧
    (s ≠ 1 → (s = 2 → (decide (a ≥ 0) = true → K .normal ([.ce (.ptr 1000003 0), .ce (.ptr 1000005 0), .ce (.ptr 1000006 0), .ce (.bool t7), .ce (.int .i64 t8), .ce (.ptr 1000009 0), .ce (.bool y0), .ce (.int .i64 1), .ce (.int .i64 2), .ce (.int .i64 a), .ce (.bool !h1 == h2)], [(cM m), [.int .i64 x, .int .i64 y, .int .i64 z], [.int .i64 r0, .int .i64 r1, .int .i64 r2], [.int .i64 n0, .bool h0, .int .i64 n1, .bool h1, .int .i64 n2, .bool h2]])) ∧ (decide (a ≥ 0) = false → K .normal ([.ce (.ptr 1000003 0), .ce (.ptr 1000005 0), .ce (.ptr 1000006 0), .ce (.bool t7), .ce (.int .i64 t8), .ce (.ptr 1000009 0), .ce (.bool y0), .ce (.int .i64 1), .ce (.int .i64 2), .ce (.int .i64 a), .ce (.bool false)], [(cM m), [.int .i64 x, .int .i64 y, .int .i64 z], [.int .i64 r0, .int .i64 r1, .int .i64 r2], [.int .i64 n0, .bool h0, .int .i64 n1, .bool h1, .int .i64 n2, .bool h2]]))) ∧
    (s ≠ 2 → False)))) ∧ (f ≠ 1 → (f = 2 → (s = 0 → (decide (a ≥ 0) = true → K .normal ([.ce (.ptr 1000003 0), .ce (.ptr 1000005 0), .ce (.ptr 1000006 0), .ce (.bool t7), .ce (.int .i64 t8), .ce (.ptr 1000009 0), .ce (.bool y0), .ce (.int .i64 2), .ce (.int .i64 0), .ce (.int .i64 a), .ce (.bool !h2 == h0)], [(cM m), [.int .i64 x, .int .i64 y, .int .i64 z], [.int .i64 r0, .int .i64 r1, .int .i64 r2], [.int .i64 n0, .bool h0, .int .i64 n1, .bool h1, .int .i64 n2, .bool h2]])) ∧ (decide (a ≥ 0) = false → K .normal ([.ce (.ptr 1000003 0), .ce (.ptr 1000005 0), .ce (.ptr 1000006 0), .ce (.bool t7), .ce (.int .i64 t8), .ce (.ptr 1000009 0), .ce (.bool y0), .ce (.int .i64 2), .ce (.int .i64 0), .ce (.int .i64 a), .ce (.bool false)], [(cM m), [.int .i64 x, .int .i64 y, .int .i64 z], [.int .i64 r0, .int .i64 r1, .int .i64 r2], [.int .i64 n0, .bool h0, .int .i64 n1, .bool h1, .int .i64 n2, .bool h2]]))) ∧
    (s ≠ 0 → (s = 1 → (decide (a ≥ 0) = true → K .normal ([.ce (.ptr 1000003 0), .ce (.ptr 1000005 0), .ce (.ptr 1000006 0), .ce (.bool t7), .ce (.int .i64 t8), .ce (.ptr 1000009 0), .ce (.bool y0), .ce (.int .i64 2), .ce (.int .i64 1), .ce (.int .i64 a), .ce (.bool !h2 == h1)], [(cM m), [.int .i64 x, .int .i64 y, .int .i64 z], [.int .i64 r0, .int .i64 r1, .int .i64 r2], [.int .i64 n0, .bool h0, .int .i64 n1, .bool h1, .int .i64 n2, .bool h2]])) ∧ (decide (a ≥ 0) = false → K .normal ([.ce (.ptr 1000003 0), .ce (.ptr 1000005 0), .ce (.ptr 1000006 0), .ce (.bool t7), .ce (.int .i64 t8), .ce (.ptr 1000009 0), .ce (.bool y0), .ce (.int .i64 2), .ce (.int .i64 1), .ce (.int .i64 a), .ce (.bool false)], [(cM m), [.int .i64 x, .int .i64 y, .int .i64 z], [.int .i64 r0, .int .i64 r1, .int .i64 r2], [.int .i64 n0, .bool h0, .int .i64 n1, .bool h1, .int .i64 n2, .bool h2]]))) ∧
    (s ≠ 1 → (s = 2 → (decide (a ≥ 0) = true → K .normal ([.ce (.ptr 1000003 0), .ce (.ptr 1000005 0), .ce (.ptr 1000006 0), .ce (.bool t7), .ce (.int .i64 t8), .ce (.ptr 1000009 0), .ce (.bool y0), .ce (.int .i64 2), .ce (.int .i64 2), .ce (.int .i64 a), .ce (.bool !h2 == h2)], [(cM m), [.int .i64 x, .int .i64 y, .int .i64 z], [.int .i64 r0, .int .i64 r1, .int .i64 r2], [.int .i64 n0, .bool h0, .int .i64 n1, .bool h1, .int .i64 n2, .bool h2]])) ∧ (decide (a ≥ 0) = false → K .normal ([.ce (.ptr 1000003 0), .ce (.ptr 1000005 0), .ce (.ptr 1000006 0), .ce (.bool t7), .ce (.int .i64 t8), .ce (.ptr 1000009 0), .ce (.bool y0), .ce (.int .i64 2), .ce (.int .i64 2), .ce (.int .i64 a), .ce (.bool false)], [(cM m), [.int .i64 x, .int .i64 y, .int .i64 z], [.int .i64 r0, .int .i64 r1, .int .i64 r2], [.int .i64 n0, .bool h0, .int .i64 n1, .bool h1, .int .i64 n2, .bool h2]]))) ∧
    (s ≠ 2 → False)))) ∧ (f ≠ 2 → False)))) := by kernel_rfl
theorem vgT4 (m : M) (y0 h0 h1 h2 : Bool) (f s a x y z r0 r1 r2 n0 n1 n2 : Int) (K : HEx → LV → Prop) : (nfragT true CTgt anT4 (nthFrag CTgt Tryd.f17 1) (([.ce (.ptr 1000003 0), .ce (.ptr 1000006 0), .ce (.ptr 1000009 0), .ce (.bool y0), .ce (.int .i64 f), .ce (.int .i64 s), .ce (.int .i64 a), .ce (.ptr 1000019 0)], [[.int .i64 m.m0, .int .i64 m.m1, .int .i64 m.m2, .int .i64 m.m3, .int .i64 m.m4, .int .i64 m.m5, .int .i64 m.m6, .int .i64 m.m7, .int .i64 m.m8, .int .i64 m.m9, .int .i64 m.m10, .int .i64 m.m11, .int .i64 m.m12, .bool m.m13, .bool m.m14, .int .i64 m.m15, .int .i64 m.m16, .int .i64 m.m17, .int .i64 m.m18, .int .i64 m.m19, .int .i64 m.m20, .int .i64 m.m21], [.int .i64 r0, .int .i64 r1, .int .i64 r2], [.int .i64 n0, .bool h0, .int .i64 n1, .bool h1, .int .i64 n2, .bool h2], [.int .i64 x, .int .i64 y, .int .i64 z]])) K) =
    ((f = 0 → (decide (a ≥ 0) = true → K .normal ([.ce (.ptr 1000003 0), .ce (.ptr 1000006 0), .ce (.ptr 1000009 0), .ce (.bool y0), .ce (.int .i64 0), .ce (.int .i64 s), .ce (.ptr 1000019 0), .ce (.bool h0)], [(cM m), [.int .i64 r0, .int .i64 r1, .int .i64 r2], [.int .i64 n0, .bool h0, .int .i64 n1, .bool h1, .int .i64 n2, .bool h2], [.int .i64 x, .int .i64 y, .int .i64 z]])) ∧ (decide (a ≥ 0) = false → K .normal ([.ce (.ptr 1000003 0), .ce (.ptr 1000006 0), .ce (.ptr 1000009 0), .ce (.bool y0), .ce (.int .i64 0), .ce (.int .i64 s), .ce (.ptr 1000019 0), .ce (.bool false)], [(cM m), [.int .i64 r0, .int .i64 r1, .int .i64 r2], [.int .i64 n0, .bool h0, .int .i64 n1, .bool h1, .int .i64 n2, .bool h2], [.int .i64 x, .int .i64 y, .int .i64 z]]))) ∧
    (f ≠ 0 → (f = 1 → (decide (a ≥ 0) = true → K .normal ([.ce (.ptr 1000003 0), .ce (.ptr 1000006 0), .ce (.ptr 1000009 0), .ce (.bool y0), .ce (.int .i64 1), .ce (.int .i64 s), .ce (.ptr 1000019 0), .ce (.bool h1)], [(cM m), [.int .i64 r0, .int .i64 r1, .int .i64 r2], [.int .i64 n0, .bool h0, .int .i64 n1, .bool h1, .int .i64 n2, .bool h2], [.int .i64 x, .int .i64 y, .int .i64 z]])) ∧ (decide (a ≥ 0) = false → K .normal ([.ce (.ptr 1000003 0), .ce (.ptr 1000006 0), .ce (.ptr 1000009 0), .ce (.bool y0), .ce (.int .i64 1), .ce (.int .i64 s), .ce (.ptr 1000019 0), .ce (.bool false)], [(cM m), [.int .i64 r0, .int .i64 r1, .int .i64 r2], [.int .i64 n0, .bool h0, .int .i64 n1, .bool h1, .int .i64 n2, .bool h2], [.int .i64 x, .int .i64 y, .int .i64 z]]))) ∧
    (f ≠ 1 → (f = 2 → (decide (a ≥ 0) = true → K .normal ([.ce (.ptr 1000003 0), .ce (.ptr 1000006 0), .ce (.ptr 1000009 0), .ce (.bool y0), .ce (.int .i64 2), .ce (.int .i64 s), .ce (.ptr 1000019 0), .ce (.bool h2)], [(cM m), [.int .i64 r0, .int .i64 r1, .int .i64 r2], [.int .i64 n0, .bool h0, .int .i64 n1, .bool h1, .int .i64 n2, .bool h2], [.int .i64 x, .int .i64 y, .int .i64 z]])) ∧ (decide (a ≥ 0) = false → K .normal ([.ce (.ptr 1000003 0), .ce (.ptr 1000006 0), .ce (.ptr 1000009 0), .ce (.bool y0), .ce (.int .i64 2), .ce (.int .i64 s), .ce (.ptr 1000019 0), .ce (.bool false)], [(cM m), [.int .i64 r0, .int .i64 r1, .int .i64 r2], [.int .i64 n0, .bool h0, .int .i64 n1, .bool h1, .int .i64 n2, .bool h2], [.int .i64 x, .int .i64 y, .int .i64 z]]))) ∧
    (f ≠ 2 → False)))) := by kernel_rfl
theorem vgT5 (m : M) (y0 h0 h1 h2 c : Bool) (f s x y z r0 r1 r2 n0 n1 n2 : Int) (K : HEx → LV → Prop) : (nfragT true CTgt anT5 (nthFrag CTgt Tryd.f17 2) (([.ce (.ptr 1000003 0), .ce (.ptr 1000006 0), .ce (.ptr 1000009 0), .ce (.bool y0), .ce (.int .i64 f), .ce (.int .i64 s), .ce (.ptr 1000019 0), .ce (.bool c)], [[.int .i64 m.m0, .int .i64 m.m1, .int .i64 m.m2, .int .i64 m.m3, .int .i64 m.m4, .int .i64 m.m5, .int .i64 m.m6, .int .i64 m.m7, .int .i64 m.m8, .int .i64 m.m9, .int .i64 m.m10, .int .i64 m.m11, .int .i64 m.m12, .bool m.m13, .bool m.m14, .int .i64 m.m15, .int .i64 m.m16, .int .i64 m.m17, .int .i64 m.m18, .int .i64 m.m19, .int .i64 m.m20, .int .i64 m.m21], [.int .i64 r0, .int .i64 r1, .int .i64 r2], [.int .i64 n0, .bool h0, .int .i64 n1, .bool h1, .int .i64 n2, .bool h2], [.int .i64 x, .int .i64 y, .int .i64 z]])) K) =
    ((c = true → (f = 0 → (s = 0 → True ∧ ∀ (x1 : Int), x1 = rtU n0 (0 : Int) n0 → ∀ (x2 : Int), x2 = rtW n0 (0 : Int) n0 → ∀ (x3 : Bool), x3 = rtB n0 (0 : Int) → K .normal ([.ce (.ptr 1000003 0), .ce (.ptr 1000006 0), .ce (.ptr 1000009 0), .ce (.bool y0), .ce (.ptr 1000019 0)], [(cM m), [.int .i64 r0, .int .i64 r1, .int .i64 r2], [.int .i64 x2, .bool h0, .int .i64 n1, .bool h1, .int .i64 n2, .bool h2], [.int .i64 x, .int .i64 y, .int .i64 z]])) ∧ (s ≠ 0 → (s = 1 → True ∧ ∀ (x4 : Int), x4 = rtU n0 (0 : Int) n1 → ∀ (x5 : Int), x5 = rtW n0 (0 : Int) n1 →
    ∀ (x6 : Bool), x6 = rtB n0 (0 : Int) → K .normal ([.ce (.ptr 1000003 0), .ce (.ptr 1000006 0), .ce (.ptr 1000009 0), .ce (.bool y0), .ce (.ptr 1000019 0)], [(cM m), [.int .i64 r0, .int .i64 r1, .int .i64 r2], [.int .i64 x4, .bool h0, .int .i64 x5, .bool h1, .int .i64 n2, .bool h2], [.int .i64 x, .int .i64 y, .int .i64 z]])) ∧ (s ≠ 1 → (s = 2 → True ∧ ∀ (x7 : Int), x7 = rtU n0 (0 : Int) n2 → ∀ (x8 : Int), x8 = rtW n0 (0 : Int) n2 → ∀ (x9 : Bool), x9 = rtB n0 (0 : Int) → K .normal ([.ce (.ptr 1000003 0), .ce (.ptr 1000006 0), .ce (.ptr 1000009 0), .ce (.bool y0), .ce (.ptr 1000019 0)], [(cM m), [.int .i64 r0, .int .i64 r1, .int .i64 r2], [.int .i64 x7, .bool h0, .int .i64 n1, .bool h1, .int .i64 x8, .bool h2], [.int .i64 x, .int .i64 y, .int .i64 z]])) ∧
    (s ≠ 2 → False)))) ∧ (f ≠ 0 → (f = 1 → (s = 0 → True ∧ ∀ (x10 : Int), x10 = rtU n1 (0 : Int) n0 → ∀ (x11 : Int), x11 = rtW n1 (0 : Int) n0 → ∀ (x12 : Bool), x12 = rtB n1 (0 : Int) → K .normal ([.ce (.ptr 1000003 0), .ce (.ptr 1000006 0), .ce (.ptr 1000009 0), .ce (.bool y0), .ce (.ptr 1000019 0)], [(cM m), [.int .i64 r0, .int .i64 r1, .int .i64 r2], [.int .i64 x11, .bool h0, .int .i64 x10, .bool h1, .int .i64 n2, .bool h2], [.int .i64 x, .int .i64 y, .int .i64 z]])) ∧ (s ≠ 0 → (s = 1 → True ∧ ∀ (x13 : Int), x13 = rtU n1 (0 : Int) n1 → ∀ (x14 : Int), x14 = rtW n1 (0 : Int) n1 →
    ∀ (x15 : Bool), x15 = rtB n1 (0 : Int) → K .normal ([.ce (.ptr 1000003 0), .ce (.ptr 1000006 0), .ce (.ptr 1000009 0), .ce (.bool y0), .ce (.ptr 1000019 0)], [(cM m), [.int .i64 r0, .int .i64 r1, .int .i64 r2], [.int .i64 n0, .bool h0, .int .i64 x14, .bool h1, .int .i64 n2, .bool h2], [.int .i64 x, .int .i64 y, .int .i64 z]])) ∧ (s ≠ 1 → (s = 2 → True ∧ ∀ (x16 : Int), x16 = rtU n1 (0 : Int) n2 → ∀ (x17 : Int), x17 = rtW n1 (0 : Int) n2 → ∀ (x18 : Bool), x18 = rtB n1 (0 : Int) → K .normal ([.ce (.ptr 1000003 0), .ce (.ptr 1000006 0), .ce (.ptr 1000009 0), .ce (.bool y0), .ce (.ptr 1000019 0)], [(cM m), [.int .i64 r0, .int .i64 r1, .int .i64 r2], [.int .i64 n0, .bool h0, .int .i64 x16, .bool h1, .int .i64 x17, .bool h2], [.int .i64 x, .int .i64 y, .int .i64 z]])) ∧
    (s ≠ 2 → False)))) ∧ (f ≠ 1 → (f = 2 → (s = 0 → True ∧ ∀ (x19 : Int), x19 = rtU n2 (0 : Int) n0 → ∀ (x20 : Int), x20 = rtW n2 (0 : Int) n0 → ∀ (x21 : Bool), x21 = rtB n2 (0 : Int) → K .normal ([.ce (.ptr 1000003 0), .ce (.ptr 1000006 0), .ce (.ptr 1000009 0), .ce (.bool y0), .ce (.ptr 1000019 0)], [(cM m), [.int .i64 r0, .int .i64 r1, .int .i64 r2], [.int .i64 x20, .bool h0, .int .i64 n1, .bool h1, .int .i64 x19, .bool h2], [.int .i64 x, .int .i64 y, .int .i64 z]])) ∧ (s ≠ 0 → (s = 1 → True ∧ ∀ (x22 : Int), x22 = rtU n2 (0 : Int) n1 → ∀ (x23 : Int), x23 = rtW n2 (0 : Int) n1 →
    ∀ (x24 : Bool), x24 = rtB n2 (0 : Int) → K .normal ([.ce (.ptr 1000003 0), .ce (.ptr 1000006 0), .ce (.ptr 1000009 0), .ce (.bool y0), .ce (.ptr 1000019 0)], [(cM m), [.int .i64 r0, .int .i64 r1, .int .i64 r2], [.int .i64 n0, .bool h0, .int .i64 x23, .bool h1, .int .i64 x22, .bool h2], [.int .i64 x, .int .i64 y, .int .i64 z]])) ∧ (s ≠ 1 → (s = 2 → True ∧ ∀ (x25 : Int), x25 = rtU n2 (0 : Int) n2 → ∀ (x26 : Int), x26 = rtW n2 (0 : Int) n2 → ∀ (x27 : Bool), x27 = rtB n2 (0 : Int) → K .normal ([.ce (.ptr 1000003 0), .ce (.ptr 1000006 0), .ce (.ptr 1000009 0), .ce (.bool y0), .ce (.ptr 1000019 0)], [(cM m), [.int .i64 r0, .int .i64 r1, .int .i64 r2], [.int .i64 n0, .bool h0, .int .i64 n1, .bool h1, .int .i64 x26, .bool h2], [.int .i64 x, .int .i64 y, .int .i64 z]])) ∧
    (s ≠ 2 → False)))) ∧ (f ≠ 2 → False)))) ∧ (c = false → K .normal ([.ce (.ptr 1000003 0), .ce (.ptr 1000006 0), .ce (.ptr 1000009 0), .ce (.bool y0), .ce (.ptr 1000019 0)], [(cM m), [.int .i64 r0, .int .i64 r1, .int .i64 r2], [.int .i64 n0, .bool h0, .int .i64 n1, .bool h1, .int .i64 n2, .bool h2], [.int .i64 x, .int .i64 y, .int .i64 z]]))) := by kernel_rfl
theorem vcTgt (m : M) (l : List (List Int)) (x y z : Int) (Q : Res → Prop) : (nfun true CTgt Tryd.f17 (bodyOf Tryd.f17) [.agg [.int .i64 m.m0, .int .i64 m.m1, .int .i64 m.m2, .int .i64 m.m3, .int .i64 m.m4, .int .i64 m.m5, .int .i64 m.m6, .int .i64 m.m7, .int .i64 m.m8, .int .i64 m.m9, .int .i64 m.m10, .int .i64 m.m11, .int .i64 m.m12, .bool m.m13, .bool m.m14, .int .i64 m.m15, .int .i64 m.m16, .int .i64 m.m17, .int .i64 m.m18, .int .i64 m.m19, .int .i64 m.m20, .int .i64 m.m21], .ce (.sl false [4, 4] l), .agg [.int .i64 x, .int .i64 y, .int .i64 z]] [] Q) =
    (True ∧ ∀ (x1 : Bool), x1 = wn x y z → ((!x1) = true → Q ⟨.tup [.agg [.int .i64 0, .int .i64 0, .int .i64 0], .ce (.bool false), .ce (.int .i64 1)], false, [], []⟩) ∧ ((!x1) = false → ((0 : Int) = (0 : Int) ∧ false = false ∧ ((88 : Int) = (88 : Int) ∧ (89 : Int) = (89 : Int) ∧ (90 : Int) = (90 : Int)) ∧ List.length l ≤ (1000 : Nat) ∧ ∃ (m_1 : M), (cM m) = cM m_1) ∧ True ∧ ∀ (x2 : Int), x2 = fsP m.m1 → ∀ (x3 : Int), x3 = scP m.m1 → ((m.m10 == 16) = true → True ∧ ∀ (x4 : Bool), x4 = isPl m.m1 → (x4 = true → ((0 : Int) = (0 : Int) ∧ ∃ (m_1 : M), (cM m) = cM m_1) ∧
    (wE x3 (0 : Int) (mI (cM m) (3 : Nat)) (fndB (88 : Int) l) (fndN (88 : Int) l) ≠ (0 : Int) → Q ⟨.tup [.agg [.int .i64 0, .int .i64 0, .int .i64 0], .ce (.bool false), .ce (.int .i64 (wE x3 (0 : Int) (mI (cM m) (3 : Nat)) (fndB (88 : Int) l) (fndN (88 : Int) l)))], false, [], []⟩) ∧
    (wE x3 (0 : Int) (mI (cM m) (3 : Nat)) (fndB (88 : Int) l) (fndN (88 : Int) l) = (0 : Int) ∧ wE x3 (1 : Int) (mI (cM m) (3 : Nat)) (fndB (89 : Int) l) (fndN (89 : Int) l) ≠ (0 : Int) → Q ⟨.tup [.agg [.int .i64 0, .int .i64 0, .int .i64 0], .ce (.bool false), .ce (.int .i64 (wE x3 (1 : Int) (mI (cM m) (3 : Nat)) (fndB (89 : Int) l) (fndN (89 : Int) l)))], false, [], []⟩) ∧
    (wE x3 (0 : Int) (mI (cM m) (3 : Nat)) (fndB (88 : Int) l) (fndN (88 : Int) l) = (0 : Int) ∧ wE x3 (1 : Int) (mI (cM m) (3 : Nat)) (fndB (89 : Int) l) (fndN (89 : Int) l) = (0 : Int) ∧ wE x3 (2 : Int) (mI (cM m) (3 : Nat)) (fndB (90 : Int) l) (fndN (90 : Int) l) ≠ (0 : Int) →
    Q ⟨.tup [.agg [.int .i64 0, .int .i64 0, .int .i64 0], .ce (.bool false), .ce (.int .i64 (wE x3 (2 : Int) (mI (cM m) (3 : Nat)) (fndB (90 : Int) l) (fndN (90 : Int) l)))], false, [], []⟩) ∧ (wE x3 (0 : Int) (mI (cM m) (3 : Nat)) (fndB (88 : Int) l) (fndN (88 : Int) l) = (0 : Int) ∧
    wE x3 (1 : Int) (mI (cM m) (3 : Nat)) (fndB (89 : Int) l) (fndN (89 : Int) l) = (0 : Int) ∧ wE x3 (2 : Int) (mI (cM m) (3 : Nat)) (fndB (90 : Int) l) (fndN (90 : Int) l) = (0 : Int) → ((0 ≤ x2 ∧ x2 ≤ 2 ∧
    0 ≤ x3 ∧ x3 ≤ 2) ∧ ∃ (m_1 : M), (cM m) = cM m_1) ∧ ∀ (x_1 : Bool), x_1 = (decide (0 ≤ x3) && at3b x2 (fndB (88 : Int) l) (fndB (89 : Int) l) (fndB (90 : Int) l) != at3b x3 (fndB (88 : Int) l) (fndB (89 : Int) l) (fndB (90 : Int) l)) → (x_1 = true → Q ⟨.tup [.agg [.int .i64 0, .int .i64 0, .int .i64 0], .ce (.bool false), .ce (.int .i64 9)], false, [], []⟩) ∧ (x_1 = false → ((0 ≤ x2 ∧ x2 ≤ 2) ∧ ∃ (m_1 : M), (cM m) = cM m_1) ∧
    ∀ (x_2 : Bool), x_2 = (decide (0 ≤ x3) && at3b x2 (fndB (88 : Int) l) (fndB (89 : Int) l) (fndB (90 : Int) l)) → ((0 ≤ x2 ∧ x2 ≤ 2 ∧ 0 ≤ x3 ∧ x3 ≤ 2) ∧ ∃ (m_1 : M), (cM m) = cM m_1) ∧ ∀ (x_3 : Int × Int × Int), (x_2 = false → x_3.1 = wN x3 (0 : Int) (mI (cM m) (3 : Nat)) (fndB (88 : Int) l) (fndN (88 : Int) l) ∧
    x_3.snd.1 = wN x3 (1 : Int) (mI (cM m) (3 : Nat)) (fndB (89 : Int) l) (fndN (89 : Int) l) ∧ x_3.snd.2 = wN x3 (2 : Int) (mI (cM m) (3 : Nat)) (fndB (90 : Int) l) (fndN (90 : Int) l)) ∧ (x_2 = true → x_3.1 = put3 x2 x3 (rtU (at3 x2 (wN x3 (0 : Int) (mI (cM m) (3 : Nat)) (fndB (88 : Int) l) (fndN (88 : Int) l)) (wN x3 (1 : Int) (mI (cM m) (3 : Nat)) (fndB (89 : Int) l) (fndN (89 : Int) l)) (wN x3 (2 : Int) (mI (cM m) (3 : Nat)) (fndB (90 : Int) l) (fndN (90 : Int) l))) (0 : Int) (at3 x3 (wN x3 (0 : Int) (mI (cM m) (3 : Nat)) (fndB (88 : Int) l) (fndN (88 : Int) l)) (wN x3 (1 : Int) (mI (cM m) (3 : Nat)) (fndB (89 : Int) l) (fndN (89 : Int) l)) (wN x3 (2 : Int) (mI (cM m) (3 : Nat)) (fndB (90 : Int) l) (fndN (90 : Int) l)))) (rtW (at3 x2 (wN x3 (0 : Int) (mI (cM m) (3 : Nat)) (fndB (88 : Int) l) (fndN (88 : Int) l)) (wN x3 (1 : Int) (mI (cM m) (3 : Nat)) (fndB (89 : Int) l) (fndN (89 : Int) l)) (wN x3 (2 : Int) (mI (cM m) (3 : Nat)) (fndB (90 : Int) l) (fndN (90 : Int) l))) (0 : Int) (at3 x3 (wN x3 (0 : Int) (mI (cM m) (3 : Nat)) (fndB (88 : Int) l) (fndN (88 : Int) l)) (wN x3 (1 : Int) (mI (cM m) (3 : Nat)) (fndB (89 : Int) l) (fndN (89 : Int) l)) (wN x3 (2 : Int) (mI (cM m) (3 : Nat)) (fndB (90 : Int) l) (fndN (90 : Int) l)))) (0 : Int) (wN x3 (0 : Int) (mI (cM m) (3 : Nat)) (fndB (88 : Int) l) (fndN (88 : Int) l)) ∧
    x_3.snd.1 = put3 x2 x3 (rtU (at3 x2 (wN x3 (0 : Int) (mI (cM m) (3 : Nat)) (fndB (88 : Int) l) (fndN (88 : Int) l)) (wN x3 (1 : Int) (mI (cM m) (3 : Nat)) (fndB (89 : Int) l) (fndN (89 : Int) l)) (wN x3 (2 : Int) (mI (cM m) (3 : Nat)) (fndB (90 : Int) l) (fndN (90 : Int) l))) (0 : Int) (at3 x3 (wN x3 (0 : Int) (mI (cM m) (3 : Nat)) (fndB (88 : Int) l) (fndN (88 : Int) l)) (wN x3 (1 : Int) (mI (cM m) (3 : Nat)) (fndB (89 : Int) l) (fndN (89 : Int) l)) (wN x3 (2 : Int) (mI (cM m) (3 : Nat)) (fndB (90 : Int) l) (fndN (90 : Int) l)))) (rtW (at3 x2 (wN x3 (0 : Int) (mI (cM m) (3 : Nat)) (fndB (88 : Int) l) (fndN (88 : Int) l)) (wN x3 (1 : Int) (mI (cM m) (3 : Nat)) (fndB (89 : Int) l) (fndN (89 : Int) l)) (wN x3 (2 : Int) (mI (cM m) (3 : Nat)) (fndB (90 : Int) l) (fndN (90 : Int) l))) (0 : Int) (at3 x3 (wN x3 (0 : Int) (mI (cM m) (3 : Nat)) (fndB (88 : Int) l) (fndN (88 : Int) l)) (wN x3 (1 : Int) (mI (cM m) (3 : Nat)) (fndB (89 : Int) l) (fndN (89 : Int) l)) (wN x3 (2 : Int) (mI (cM m) (3 : Nat)) (fndB (90 : Int) l) (fndN (90 : Int) l)))) (1 : Int) (wN x3 (1 : Int) (mI (cM m) (3 : Nat)) (fndB (89 : Int) l) (fndN (89 : Int) l)) ∧
    x_3.snd.2 = put3 x2 x3 (rtU (at3 x2 (wN x3 (0 : Int) (mI (cM m) (3 : Nat)) (fndB (88 : Int) l) (fndN (88 : Int) l)) (wN x3 (1 : Int) (mI (cM m) (3 : Nat)) (fndB (89 : Int) l) (fndN (89 : Int) l)) (wN x3 (2 : Int) (mI (cM m) (3 : Nat)) (fndB (90 : Int) l) (fndN (90 : Int) l))) (0 : Int) (at3 x3 (wN x3 (0 : Int) (mI (cM m) (3 : Nat)) (fndB (88 : Int) l) (fndN (88 : Int) l)) (wN x3 (1 : Int) (mI (cM m) (3 : Nat)) (fndB (89 : Int) l) (fndN (89 : Int) l)) (wN x3 (2 : Int) (mI (cM m) (3 : Nat)) (fndB (90 : Int) l) (fndN (90 : Int) l)))) (rtW (at3 x2 (wN x3 (0 : Int) (mI (cM m) (3 : Nat)) (fndB (88 : Int) l) (fndN (88 : Int) l)) (wN x3 (1 : Int) (mI (cM m) (3 : Nat)) (fndB (89 : Int) l) (fndN (89 : Int) l)) (wN x3 (2 : Int) (mI (cM m) (3 : Nat)) (fndB (90 : Int) l) (fndN (90 : Int) l))) (0 : Int) (at3 x3 (wN x3 (0 : Int) (mI (cM m) (3 : Nat)) (fndB (88 : Int) l) (fndN (88 : Int) l)) (wN x3 (1 : Int) (mI (cM m) (3 : Nat)) (fndB (89 : Int) l) (fndN (89 : Int) l)) (wN x3 (2 : Int) (mI (cM m) (3 : Nat)) (fndB (90 : Int) l) (fndN (90 : Int) l)))) (2 : Int) (wN x3 (2 : Int) (mI (cM m) (3 : Nat)) (fndB (90 : Int) l) (fndN (90 : Int) l))) →
    ((0 : Int) = (0 : Int) ∧ (∃ (m_1 : M), (cM m) = cM m_1) ∧ B3 (1099511627776 : Int) x y z ∧ (fndB (88 : Int) l = true → (-1099511627776 : Int) ≤ x_3.1 ∧ x_3.1 ≤ 1099511627776) ∧ (fndB (89 : Int) l = true → (-1099511627776 : Int) ≤ x_3.snd.1 ∧ x_3.snd.1 ≤ 1099511627776) ∧ (fndB (90 : Int) l = true → (-1099511627776 : Int) ≤ x_3.snd.2 ∧ x_3.snd.2 ≤ 1099511627776)) ∧ True ∧ ∀ (x8 : Bool), x8 = wn (mv (mI (cM m) (2 : Nat)) (fndB (88 : Int) l) x x_3.1) (mv (mI (cM m) (2 : Nat)) (fndB (89 : Int) l) y x_3.snd.1) (mv (mI (cM m) (2 : Nat)) (fndB (90 : Int) l) z x_3.snd.2) →
    ((!x8) = true → Q ⟨.tup [.agg [.int .i64 0, .int .i64 0, .int .i64 0], .ce (.bool false), .ce (.int .i64 3)], false, [], []⟩) ∧ ((!x8) = false → Q ⟨.tup [.agg [.int .i64 (mv (mI (cM m) (2 : Nat)) (fndB (88 : Int) l) x x_3.1), .int .i64 (mv (mI (cM m) (2 : Nat)) (fndB (89 : Int) l) y x_3.snd.1), .int .i64 (mv (mI (cM m) (2 : Nat)) (fndB (90 : Int) l) z x_3.snd.2)], .ce (.bool (fndB (88 : Int) l || (fndB (89 : Int) l || fndB (90 : Int) l))), .ce (.int .i64 0)], false, [], []⟩)))) ∧
    (x4 = false → ((0 : Int) = (0 : Int) ∧ ∃ (m_1 : M), (cM m) = cM m_1) ∧ (wE (-1 : Int) (0 : Int) (mI (cM m) (3 : Nat)) (fndB (88 : Int) l) (fndN (88 : Int) l) ≠ (0 : Int) → Q ⟨.tup [.agg [.int .i64 0, .int .i64 0, .int .i64 0], .ce (.bool false), .ce (.int .i64 (wE (-1 : Int) (0 : Int) (mI (cM m) (3 : Nat)) (fndB (88 : Int) l) (fndN (88 : Int) l)))], false, [], []⟩) ∧
    (wE (-1 : Int) (0 : Int) (mI (cM m) (3 : Nat)) (fndB (88 : Int) l) (fndN (88 : Int) l) = (0 : Int) ∧ wE (-1 : Int) (1 : Int) (mI (cM m) (3 : Nat)) (fndB (89 : Int) l) (fndN (89 : Int) l) ≠ (0 : Int) → Q ⟨.tup [.agg [.int .i64 0, .int .i64 0, .int .i64 0], .ce (.bool false), .ce (.int .i64 (wE (-1 : Int) (1 : Int) (mI (cM m) (3 : Nat)) (fndB (89 : Int) l) (fndN (89 : Int) l)))], false, [], []⟩) ∧
    (wE (-1 : Int) (0 : Int) (mI (cM m) (3 : Nat)) (fndB (88 : Int) l) (fndN (88 : Int) l) = (0 : Int) ∧ wE (-1 : Int) (1 : Int) (mI (cM m) (3 : Nat)) (fndB (89 : Int) l) (fndN (89 : Int) l) = (0 : Int) ∧ wE (-1 : Int) (2 : Int) (mI (cM m) (3 : Nat)) (fndB (90 : Int) l) (fndN (90 : Int) l) ≠ (0 : Int) →
    Q ⟨.tup [.agg [.int .i64 0, .int .i64 0, .int .i64 0], .ce (.bool false), .ce (.int .i64 (wE (-1 : Int) (2 : Int) (mI (cM m) (3 : Nat)) (fndB (90 : Int) l) (fndN (90 : Int) l)))], false, [], []⟩) ∧ (wE (-1 : Int) (0 : Int) (mI (cM m) (3 : Nat)) (fndB (88 : Int) l) (fndN (88 : Int) l) = (0 : Int) ∧
    wE (-1 : Int) (1 : Int) (mI (cM m) (3 : Nat)) (fndB (89 : Int) l) (fndN (89 : Int) l) = (0 : Int) ∧ wE (-1 : Int) (2 : Int) (mI (cM m) (3 : Nat)) (fndB (90 : Int) l) (fndN (90 : Int) l) = (0 : Int) → ((0 ≤ x2 ∧
    x2 ≤ 2 ∧ 0 ≤ x3 ∧ x3 ≤ 2) ∧ ∃ (m_1 : M), (cM m) = cM m_1) ∧ ∀ (x_1 : Bool), x_1 = (decide ((0 : Int) ≤ (-1 : Int)) && at3b x2 (fndB (88 : Int) l) (fndB (89 : Int) l) (fndB (90 : Int) l) != at3b x3 (fndB (88 : Int) l) (fndB (89 : Int) l) (fndB (90 : Int) l)) → (x_1 = true → Q ⟨.tup [.agg [.int .i64 0, .int .i64 0, .int .i64 0], .ce (.bool false), .ce (.int .i64 9)], false, [], []⟩) ∧ (x_1 = false → ((0 ≤ x2 ∧ x2 ≤ 2) ∧ ∃ (m_1 : M), (cM m) = cM m_1) ∧
    ∀ (x_2 : Bool), x_2 = (decide ((0 : Int) ≤ (-1 : Int)) && at3b x2 (fndB (88 : Int) l) (fndB (89 : Int) l) (fndB (90 : Int) l)) → ((0 ≤ x2 ∧ x2 ≤ 2 ∧ 0 ≤ x3 ∧ x3 ≤ 2) ∧ ∃ (m_1 : M), (cM m) = cM m_1) ∧ ∀ (x_3 : Int × Int × Int), (x_2 = false → x_3.1 = wN (-1 : Int) (0 : Int) (mI (cM m) (3 : Nat)) (fndB (88 : Int) l) (fndN (88 : Int) l) ∧
    x_3.snd.1 = wN (-1 : Int) (1 : Int) (mI (cM m) (3 : Nat)) (fndB (89 : Int) l) (fndN (89 : Int) l) ∧ x_3.snd.2 = wN (-1 : Int) (2 : Int) (mI (cM m) (3 : Nat)) (fndB (90 : Int) l) (fndN (90 : Int) l)) ∧ (x_2 = true →
    x_3.1 = put3 x2 x3 (rtU (at3 x2 (wN (-1 : Int) (0 : Int) (mI (cM m) (3 : Nat)) (fndB (88 : Int) l) (fndN (88 : Int) l)) (wN (-1 : Int) (1 : Int) (mI (cM m) (3 : Nat)) (fndB (89 : Int) l) (fndN (89 : Int) l)) (wN (-1 : Int) (2 : Int) (mI (cM m) (3 : Nat)) (fndB (90 : Int) l) (fndN (90 : Int) l))) (0 : Int) (at3 x3 (wN (-1 : Int) (0 : Int) (mI (cM m) (3 : Nat)) (fndB (88 : Int) l) (fndN (88 : Int) l)) (wN (-1 : Int) (1 : Int) (mI (cM m) (3 : Nat)) (fndB (89 : Int) l) (fndN (89 : Int) l)) (wN (-1 : Int) (2 : Int) (mI (cM m) (3 : Nat)) (fndB (90 : Int) l) (fndN (90 : Int) l)))) (rtW (at3 x2 (wN (-1 : Int) (0 : Int) (mI (cM m) (3 : Nat)) (fndB (88 : Int) l) (fndN (88 : Int) l)) (wN (-1 : Int) (1 : Int) (mI (cM m) (3 : Nat)) (fndB (89 : Int) l) (fndN (89 : Int) l)) (wN (-1 : Int) (2 : Int) (mI (cM m) (3 : Nat)) (fndB (90 : Int) l) (fndN (90 : Int) l))) (0 : Int) (at3 x3 (wN (-1 : Int) (0 : Int) (mI (cM m) (3 : Nat)) (fndB (88 : Int) l) (fndN (88 : Int) l)) (wN (-1 : Int) (1 : Int) (mI (cM m) (3 : Nat)) (fndB (89 : Int) l) (fndN (89 : Int) l)) (wN (-1 : Int) (2 : Int) (mI (cM m) (3 : Nat)) (fndB (90 : Int) l) (fndN (90 : Int) l)))) (0 : Int) (wN (-1 : Int) (0 : Int) (mI (cM m) (3 : Nat)) (fndB (88 : Int) l) (fndN (88 : Int) l)) ∧
    x_3.snd.1 = put3 x2 x3 (rtU (at3 x2 (wN (-1 : Int) (0 : Int) (mI (cM m) (3 : Nat)) (fndB (88 : Int) l) (fndN (88 : Int) l)) (wN (-1 : Int) (1 : Int) (mI (cM m) (3 : Nat)) (fndB (89 : Int) l) (fndN (89 : Int) l)) (wN (-1 : Int) (2 : Int) (mI (cM m) (3 : Nat)) (fndB (90 : Int) l) (fndN (90 : Int) l))) (0 : Int) (at3 x3 (wN (-1 : Int) (0 : Int) (mI (cM m) (3 : Nat)) (fndB (88 : Int) l) (fndN (88 : Int) l)) (wN (-1 : Int) (1 : Int) (mI (cM m) (3 : Nat)) (fndB (89 : Int) l) (fndN (89 : Int) l)) (wN (-1 : Int) (2 : Int) (mI (cM m) (3 : Nat)) (fndB (90 : Int) l) (fndN (90 : Int) l)))) (rtW (at3 x2 (wN (-1 : Int) (0 : Int) (mI (cM m) (3 : Nat)) (fndB (88 : Int) l) (fndN (88 : Int) l)) (wN (-1 : Int) (1 : Int) (mI (cM m) (3 : Nat)) (fndB (89 : Int) l) (fndN (89 : Int) l)) (wN (-1 : Int) (2 : Int) (mI (cM m) (3 : Nat)) (fndB (90 : Int) l) (fndN (90 : Int) l))) (0 : Int) (at3 x3 (wN (-1 : Int) (0 : Int) (mI (cM m) (3 : Nat)) (fndB (88 : Int) l) (fndN (88 : Int) l)) (wN (-1 : Int) (1 : Int) (mI (cM m) (3 : Nat)) (fndB (89 : Int) l) (fndN (89 : Int) l)) (wN (-1 : Int) (2 : Int) (mI (cM m) (3 : Nat)) (fndB (90 : Int) l) (fndN (90 : Int) l)))) (1 : Int) (wN (-1 : Int) (1 : Int) (mI (cM m) (3 : Nat)) (fndB (89 : Int) l) (fndN (89 : Int) l)) ∧
    x_3.snd.2 = put3 x2 x3 (rtU (at3 x2 (wN (-1 : Int) (0 : Int) (mI (cM m) (3 : Nat)) (fndB (88 : Int) l) (fndN (88 : Int) l)) (wN (-1 : Int) (1 : Int) (mI (cM m) (3 : Nat)) (fndB (89 : Int) l) (fndN (89 : Int) l)) (wN (-1 : Int) (2 : Int) (mI (cM m) (3 : Nat)) (fndB (90 : Int) l) (fndN (90 : Int) l))) (0 : Int) (at3 x3 (wN (-1 : Int) (0 : Int) (mI (cM m) (3 : Nat)) (fndB (88 : Int) l) (fndN (88 : Int) l)) (wN (-1 : Int) (1 : Int) (mI (cM m) (3 : Nat)) (fndB (89 : Int) l) (fndN (89 : Int) l)) (wN (-1 : Int) (2 : Int) (mI (cM m) (3 : Nat)) (fndB (90 : Int) l) (fndN (90 : Int) l)))) (rtW (at3 x2 (wN (-1 : Int) (0 : Int) (mI (cM m) (3 : Nat)) (fndB (88 : Int) l) (fndN (88 : Int) l)) (wN (-1 : Int) (1 : Int) (mI (cM m) (3 : Nat)) (fndB (89 : Int) l) (fndN (89 : Int) l)) (wN (-1 : Int) (2 : Int) (mI (cM m) (3 : Nat)) (fndB (90 : Int) l) (fndN (90 : Int) l))) (0 : Int) (at3 x3 (wN (-1 : Int) (0 : Int) (mI (cM m) (3 : Nat)) (fndB (88 : Int) l) (fndN (88 : Int) l)) (wN (-1 : Int) (1 : Int) (mI (cM m) (3 : Nat)) (fndB (89 : Int) l) (fndN (89 : Int) l)) (wN (-1 : Int) (2 : Int) (mI (cM m) (3 : Nat)) (fndB (90 : Int) l) (fndN (90 : Int) l)))) (2 : Int) (wN (-1 : Int) (2 : Int) (mI (cM m) (3 : Nat)) (fndB (90 : Int) l) (fndN (90 : Int) l))) →
    ((0 : Int) = (0 : Int) ∧ (∃ (m_1 : M), (cM m) = cM m_1) ∧ B3 (1099511627776 : Int) x y z ∧ (fndB (88 : Int) l = true → (-1099511627776 : Int) ≤ x_3.1 ∧ x_3.1 ≤ 1099511627776) ∧ (fndB (89 : Int) l = true → (-1099511627776 : Int) ≤ x_3.snd.1 ∧ x_3.snd.1 ≤ 1099511627776) ∧ (fndB (90 : Int) l = true → (-1099511627776 : Int) ≤ x_3.snd.2 ∧ x_3.snd.2 ≤ 1099511627776)) ∧ True ∧ ∀ (x12 : Bool), x12 = wn (mv (mI (cM m) (2 : Nat)) (fndB (88 : Int) l) x x_3.1) (mv (mI (cM m) (2 : Nat)) (fndB (89 : Int) l) y x_3.snd.1) (mv (mI (cM m) (2 : Nat)) (fndB (90 : Int) l) z x_3.snd.2) →
    ((!x12) = true → Q ⟨.tup [.agg [.int .i64 0, .int .i64 0, .int .i64 0], .ce (.bool false), .ce (.int .i64 3)], false, [], []⟩) ∧ ((!x12) = false → Q ⟨.tup [.agg [.int .i64 (mv (mI (cM m) (2 : Nat)) (fndB (88 : Int) l) x x_3.1), .int .i64 (mv (mI (cM m) (2 : Nat)) (fndB (89 : Int) l) y x_3.snd.1), .int .i64 (mv (mI (cM m) (2 : Nat)) (fndB (90 : Int) l) z x_3.snd.2)], .ce (.bool (fndB (88 : Int) l || (fndB (89 : Int) l || fndB (90 : Int) l))), .ce (.int .i64 0)], false, [], []⟩))))) ∧
    ((m.m10 == 16) = false → ((0 : Int) = (0 : Int) ∧ ∃ (m_1 : M), (cM m) = cM m_1) ∧ (wE (-1 : Int) (0 : Int) (mI (cM m) (3 : Nat)) (fndB (88 : Int) l) (fndN (88 : Int) l) ≠ (0 : Int) → Q ⟨.tup [.agg [.int .i64 0, .int .i64 0, .int .i64 0], .ce (.bool false), .ce (.int .i64 (wE (-1 : Int) (0 : Int) (mI (cM m) (3 : Nat)) (fndB (88 : Int) l) (fndN (88 : Int) l)))], false, [], []⟩) ∧
    (wE (-1 : Int) (0 : Int) (mI (cM m) (3 : Nat)) (fndB (88 : Int) l) (fndN (88 : Int) l) = (0 : Int) ∧ wE (-1 : Int) (1 : Int) (mI (cM m) (3 : Nat)) (fndB (89 : Int) l) (fndN (89 : Int) l) ≠ (0 : Int) → Q ⟨.tup [.agg [.int .i64 0, .int .i64 0, .int .i64 0], .ce (.bool false), .ce (.int .i64 (wE (-1 : Int) (1 : Int) (mI (cM m) (3 : Nat)) (fndB (89 : Int) l) (fndN (89 : Int) l)))], false, [], []⟩) ∧
    (wE (-1 : Int) (0 : Int) (mI (cM m) (3 : Nat)) (fndB (88 : Int) l) (fndN (88 : Int) l) = (0 : Int) ∧ wE (-1 : Int) (1 : Int) (mI (cM m) (3 : Nat)) (fndB (89 : Int) l) (fndN (89 : Int) l) = (0 : Int) ∧ wE (-1 : Int) (2 : Int) (mI (cM m) (3 : Nat)) (fndB (90 : Int) l) (fndN (90 : Int) l) ≠ (0 : Int) →
    Q ⟨.tup [.agg [.int .i64 0, .int .i64 0, .int .i64 0], .ce (.bool false), .ce (.int .i64 (wE (-1 : Int) (2 : Int) (mI (cM m) (3 : Nat)) (fndB (90 : Int) l) (fndN (90 : Int) l)))], false, [], []⟩) ∧ (wE (-1 : Int) (0 : Int) (mI (cM m) (3 : Nat)) (fndB (88 : Int) l) (fndN (88 : Int) l) = (0 : Int) ∧
    wE (-1 : Int) (1 : Int) (mI (cM m) (3 : Nat)) (fndB (89 : Int) l) (fndN (89 : Int) l) = (0 : Int) ∧ wE (-1 : Int) (2 : Int) (mI (cM m) (3 : Nat)) (fndB (90 : Int) l) (fndN (90 : Int) l) = (0 : Int) → ((0 ≤ x2 ∧
    x2 ≤ 2 ∧ 0 ≤ x3 ∧ x3 ≤ 2) ∧ ∃ (m_1 : M), (cM m) = cM m_1) ∧ ∀ (x_1 : Bool), x_1 = (decide ((0 : Int) ≤ (-1 : Int)) && at3b x2 (fndB (88 : Int) l) (fndB (89 : Int) l) (fndB (90 : Int) l) != at3b x3 (fndB (88 : Int) l) (fndB (89 : Int) l) (fndB (90 : Int) l)) → (x_1 = true → Q ⟨.tup [.agg [.int .i64 0, .int .i64 0, .int .i64 0], .ce (.bool false), .ce (.int .i64 9)], false, [], []⟩) ∧ (x_1 = false → ((0 ≤ x2 ∧ x2 ≤ 2) ∧ ∃ (m_1 : M), (cM m) = cM m_1) ∧
    ∀ (x_2 : Bool), x_2 = (decide ((0 : Int) ≤ (-1 : Int)) && at3b x2 (fndB (88 : Int) l) (fndB (89 : Int) l) (fndB (90 : Int) l)) → ((0 ≤ x2 ∧ x2 ≤ 2 ∧ 0 ≤ x3 ∧ x3 ≤ 2) ∧ ∃ (m_1 : M), (cM m) = cM m_1) ∧ ∀ (x_3 : Int × Int × Int), (x_2 = false → x_3.1 = wN (-1 : Int) (0 : Int) (mI (cM m) (3 : Nat)) (fndB (88 : Int) l) (fndN (88 : Int) l) ∧
    x_3.snd.1 = wN (-1 : Int) (1 : Int) (mI (cM m) (3 : Nat)) (fndB (89 : Int) l) (fndN (89 : Int) l) ∧ x_3.snd.2 = wN (-1 : Int) (2 : Int) (mI (cM m) (3 : Nat)) (fndB (90 : Int) l) (fndN (90 : Int) l)) ∧ (x_2 = true →
    x_3.1 = put3 x2 x3 (rtU (at3 x2 (wN (-1 : Int) (0 : Int) (mI (cM m) (3 : Nat)) (fndB (88 : Int) l) (fndN (88 : Int) l)) (wN (-1 : Int) (1 : Int) (mI (cM m) (3 : Nat)) (fndB (89 : Int) l) (fndN (89 : Int) l)) (wN (-1 : Int) (2 : Int) (mI (cM m) (3 : Nat)) (fndB (90 : Int) l) (fndN (90 : Int) l))) (0 : Int) (at3 x3 (wN (-1 : Int) (0 : Int) (mI (cM m) (3 : Nat)) (fndB (88 : Int) l) (fndN (88 : Int) l)) (wN (-1 : Int) (1 : Int) (mI (cM m) (3 : Nat)) (fndB (89 : Int) l) (fndN (89 : Int) l)) (wN (-1 : Int) (2 : Int) (mI (cM m) (3 : Nat)) (fndB (90 : Int) l) (fndN (90 : Int) l)))) (rtW (at3 x2 (wN (-1 : Int) (0 : Int) (mI (cM m) (3 : Nat)) (fndB (88 : Int) l) (fndN (88 : Int) l)) (wN (-1 : Int) (1 : Int) (mI (cM m) (3 : Nat)) (fndB (89 : Int) l) (fndN (89 : Int) l)) (wN (-1 : Int) (2 : Int) (mI (cM m) (3 : Nat)) (fndB (90 : Int) l) (fndN (90 : Int) l))) (0 : Int) (at3 x3 (wN (-1 : Int) (0 : Int) (mI (cM m) (3 : Nat)) (fndB (88 : Int) l) (fndN (88 : Int) l)) (wN (-1 : Int) (1 : Int) (mI (cM m) (3 : Nat)) (fndB (89 : Int) l) (fndN (89 : Int) l)) (wN (-1 : Int) (2 : Int) (mI (cM m) (3 : Nat)) (fndB (90 : Int) l) (fndN (90 : Int) l)))) (0 : Int) (wN (-1 : Int) (0 : Int) (mI (cM m) (3 : Nat)) (fndB (88 : Int) l) (fndN (88 : Int) l)) ∧
    x_3.snd.1 = put3 x2 x3 (rtU (at3 x2 (wN (-1 : Int) (0 : Int) (mI (cM m) (3 : Nat)) (fndB (88 : Int) l) (fndN (88 : Int) l)) (wN (-1 : Int) (1 : Int) (mI (cM m) (3 : Nat)) (fndB (89 : Int) l) (fndN (89 : Int) l)) (wN (-1 : Int) (2 : Int) (mI (cM m) (3 : Nat)) (fndB (90 : Int) l) (fndN (90 : Int) l))) (0 : Int) (at3 x3 (wN (-1 : Int) (0 : Int) (mI (cM m) (3 : Nat)) (fndB (88 : Int) l) (fndN (88 : Int) l)) (wN (-1 : Int) (1 : Int) (mI (cM m) (3 : Nat)) (fndB (89 : Int) l) (fndN (89 : Int) l)) (wN (-1 : Int) (2 : Int) (mI (cM m) (3 : Nat)) (fndB (90 : Int) l) (fndN (90 : Int) l)))) (rtW (at3 x2 (wN (-1 : Int) (0 : Int) (mI (cM m) (3 : Nat)) (fndB (88 : Int) l) (fndN (88 : Int) l)) (wN (-1 : Int) (1 : Int) (mI (cM m) (3 : Nat)) (fndB (89 : Int) l) (fndN (89 : Int) l)) (wN (-1 : Int) (2 : Int) (mI (cM m) (3 : Nat)) (fndB (90 : Int) l) (fndN (90 : Int) l))) (0 : Int) (at3 x3 (wN (-1 : Int) (0 : Int) (mI (cM m) (3 : Nat)) (fndB (88 : Int) l) (fndN (88 : Int) l)) (wN (-1 : Int) (1 : Int) (mI (cM m) (3 : Nat)) (fndB (89 : Int) l) (fndN (89 : Int) l)) (wN (-1 : Int) (2 : Int) (mI (cM m) (3 : Nat)) (fndB (90 : Int) l) (fndN (90 : Int) l)))) (1 : Int) (wN (-1 : Int) (1 : Int) (mI (cM m) (3 : Nat)) (fndB (89 : Int) l) (fndN (89 : Int) l)) ∧
    x_3.snd.2 = put3 x2 x3 (rtU (at3 x2 (wN (-1 : Int) (0 : Int) (mI (cM m) (3 : Nat)) (fndB (88 : Int) l) (fndN (88 : Int) l)) (wN (-1 : Int) (1 : Int) (mI (cM m) (3 : Nat)) (fndB (89 : Int) l) (fndN (89 : Int) l)) (wN (-1 : Int) (2 : Int) (mI (cM m) (3 : Nat)) (fndB (90 : Int) l) (fndN (90 : Int) l))) (0 : Int) (at3 x3 (wN (-1 : Int) (0 : Int) (mI (cM m) (3 : Nat)) (fndB (88 : Int) l) (fndN (88 : Int) l)) (wN (-1 : Int) (1 : Int) (mI (cM m) (3 : Nat)) (fndB (89 : Int) l) (fndN (89 : Int) l)) (wN (-1 : Int) (2 : Int) (mI (cM m) (3 : Nat)) (fndB (90 : Int) l) (fndN (90 : Int) l)))) (rtW (at3 x2 (wN (-1 : Int) (0 : Int) (mI (cM m) (3 : Nat)) (fndB (88 : Int) l) (fndN (88 : Int) l)) (wN (-1 : Int) (1 : Int) (mI (cM m) (3 : Nat)) (fndB (89 : Int) l) (fndN (89 : Int) l)) (wN (-1 : Int) (2 : Int) (mI (cM m) (3 : Nat)) (fndB (90 : Int) l) (fndN (90 : Int) l))) (0 : Int) (at3 x3 (wN (-1 : Int) (0 : Int) (mI (cM m) (3 : Nat)) (fndB (88 : Int) l) (fndN (88 : Int) l)) (wN (-1 : Int) (1 : Int) (mI (cM m) (3 : Nat)) (fndB (89 : Int) l) (fndN (89 : Int) l)) (wN (-1 : Int) (2 : Int) (mI (cM m) (3 : Nat)) (fndB (90 : Int) l) (fndN (90 : Int) l)))) (2 : Int) (wN (-1 : Int) (2 : Int) (mI (cM m) (3 : Nat)) (fndB (90 : Int) l) (fndN (90 : Int) l))) →
    ((0 : Int) = (0 : Int) ∧ (∃ (m_1 : M), (cM m) = cM m_1) ∧ B3 (1099511627776 : Int) x y z ∧ (fndB (88 : Int) l = true → (-1099511627776 : Int) ≤ x_3.1 ∧ x_3.1 ≤ 1099511627776) ∧ (fndB (89 : Int) l = true → (-1099511627776 : Int) ≤ x_3.snd.1 ∧ x_3.snd.1 ≤ 1099511627776) ∧ (fndB (90 : Int) l = true → (-1099511627776 : Int) ≤ x_3.snd.2 ∧ x_3.snd.2 ≤ 1099511627776)) ∧ True ∧ ∀ (x16 : Bool), x16 = wn (mv (mI (cM m) (2 : Nat)) (fndB (88 : Int) l) x x_3.1) (mv (mI (cM m) (2 : Nat)) (fndB (89 : Int) l) y x_3.snd.1) (mv (mI (cM m) (2 : Nat)) (fndB (90 : Int) l) z x_3.snd.2) →
    ((!x16) = true → Q ⟨.tup [.agg [.int .i64 0, .int .i64 0, .int .i64 0], .ce (.bool false), .ce (.int .i64 3)], false, [], []⟩) ∧ ((!x16) = false → Q ⟨.tup [.agg [.int .i64 (mv (mI (cM m) (2 : Nat)) (fndB (88 : Int) l) x x_3.1), .int .i64 (mv (mI (cM m) (2 : Nat)) (fndB (89 : Int) l) y x_3.snd.1), .int .i64 (mv (mI (cM m) (2 : Nat)) (fndB (90 : Int) l) z x_3.snd.2)], .ce (.bool (fndB (88 : Int) l || (fndB (89 : Int) l || fndB (90 : Int) l))), .ce (.int .i64 0)], false, [], []⟩)))))) := by kernel_rfl
end Go.Proofs.YtgnknciihdajiaaDoor
namespace U
theorem lnN_bd (n u : Int) : -1048576 ≤ lnN n u ∧ lnN n u ≤ 1048576 := by
  unfold lnN
  by_cases h : lnE n u = 0
  · rw [if_pos h]
    unfold lnE at h
    cases hk : okU n u with
    | false => rw [hk] at h; simp at h
    | true =>
      rw [hk, if_pos rfl] at h
      by_cases h2 : lnV n u < -1048576 ∨ lnV n u > 1048576
      · rw [if_pos h2] at h; cases h
      · omega
  · rw [if_neg h]; decide
theorem wN_bd {a i u n : Int} {h : Bool} (hh : h = true) (hi : i ≠ a) : -1048576 ≤ wN a i u h n ∧ wN a i u h n ≤ 1048576 := by
  unfold wN; rw [if_pos ⟨hh, hi⟩]; exact lnN_bd n u
theorem wN_no {a i u n : Int} {h : Bool} (hh : ¬ (h = true ∧ i ≠ a)) : wN a i u h n = n := by unfold wN; rw [if_neg hh]
theorem wE_no {a i u n : Int} {h : Bool} (hh : ¬ (h = true ∧ i ≠ a)) : wE a i u h n = 0 := by unfold wE; rw [if_neg hh]
theorem put_bd {f s U W i n B : Int} (hU : -B ≤ U ∧ U ≤ B) (hW : -B ≤ W ∧ W ≤ B) (hn : i ≠ s → i ≠ f → -B ≤ n ∧ n ≤ B) : -B ≤ put3 f s U W i n ∧ put3 f s U W i n ≤ B := by
  unfold put3
  by_cases h1 : i = s
  · rw [if_pos h1]; exact hW
  · rw [if_neg h1]
    by_cases h2 : i = f
    · rw [if_pos h2]; exact hU
    · rw [if_neg h2]; exact hn h1 h2
theorem lstep {h : Bool} {a j u n : Int} {B C : Int → Prop} (hB : wE a j u h n ≠ 0 → B (wE a j u h n)) (hC : wE a j u h n = 0 → C (wN a j u h n)) :
    ((!h) = true → C n) ∧ ((!h) = false → ((j == a) = true → C n) ∧ ((j == a) = false → True ∧ ∀ x1, x1 = lnN n u → ∀ x2, x2 = lnE n u → ((x2 != 0) = true → B x2) ∧ ((x2 != 0) = false → C x1))) := by
  refine ⟨fun g => ?_, fun g => ⟨fun g2 => ?_, fun g2 => ⟨trivial, ?_⟩⟩⟩
  · have g := nt_f g
    have e : ¬ (h = true ∧ j ≠ a) := by rw [g]; exact fun k => by cases k.1
    have hC := hC (wE_no e)
    rw [wN_no e] at hC; exact hC
  · have e : ¬ (h = true ∧ j ≠ a) := fun k => k.2 (by simpa using g2)
    have hC := hC (wE_no e)
    rw [wN_no e] at hC; exact hC
  · have g := nf_t g
    have g2 : j ≠ a := by simpa using g2
    unfold wE at hB
    unfold wE wN at hC
    rw [if_pos ⟨g, g2⟩] at hB
    rw [if_pos ⟨g, g2⟩, if_pos ⟨g, g2⟩] at hC
    rintro _ rfl _ rfl
    exact ⟨fun k => hB (by simpa using k), fun k => hC (by simpa using k)⟩
theorem vstep {h : Bool} {d p n : Int} {C : Int → Prop} (hp : -1099511627776 ≤ p ∧ p ≤ 1099511627776) (hn : h = true → -1099511627776 ≤ n ∧ n ≤ 1099511627776) (hC : C (mv d h p n)) :
    (h = true → ((d == 91) = true → (-9223372036854775808 ≤ p + n ∧ p + n ≤ 9223372036854775807) ∧ ∀ x1, x1 = p + n → C x1) ∧ ((d == 91) = false → (h = true → C n) ∧ (h = false → C p))) ∧ (h = false → (h = true → C n) ∧ (h = false → C p)) := by
  unfold mv at hC
  refine ⟨fun g => ?_, fun g => ⟨fun g2 => (by rw [g] at g2; cases g2), fun _ => ?_⟩⟩
  · rw [if_pos g] at hC
    refine ⟨fun g2 => ⟨by have := hn g; omega, ?_⟩, fun g2 => ⟨fun _ => ?_, fun g3 => (by rw [g] at g3; cases g3)⟩⟩
    · rw [if_pos (by simpa using g2)] at hC
      rintro _ rfl; exact hC
    · rw [if_neg (by simpa using g2)] at hC; exact hC
  · rw [g] at hC; exact hC
theorem sp3 {f : Int} {A0 A1 A2 : Prop} (hf : 0 ≤ f ∧ f ≤ 2) (h0 : f = 0 → A0) (h1 : f = 1 → A1) (h2 : f = 2 → A2) :
    (f = 0 → A0) ∧ (f ≠ 0 → (f = 1 → A1) ∧ (f ≠ 1 → (f = 2 → A2) ∧ (f ≠ 2 → False))) := ⟨h0, fun _ => ⟨h1, fun _ => ⟨h2, fun _ => by omega⟩⟩⟩
theorem fs_bd (p : Int) : 0 ≤ fsP p ∧ fsP p ≤ 2 := by
  unfold fsP
  split
  · decide
  · split <;> decide
theorem sc_bd3 (p : Int) : 0 ≤ scP p ∧ scP p ≤ 2 := by
  unfold scP
  split
  · decide
  · split <;> decide
theorem fs_sc (p : Int) : fsP p ≠ scP p := by
  unfold fsP scP
  by_cases h : p = 18
  · rw [if_pos h, if_pos h]; decide
  · rw [if_neg h, if_neg h]
    by_cases h2 : p = 19
    · rw [if_pos h2, if_pos h2]; decide
    · rw [if_neg h2, if_neg h2]; decide
def nnk {α : Type} (k j : Nat) (v w : α) : α := if j < k then v else w
def anyK (k : Nat) (a b c : Bool) : Bool := if k = 0 then false else if k = 1 then a else if k = 2 then (a || b) else (a || (b || c))
end U
namespace Go.Proofs.YtgnknciihdajiaaDoor
open Go Go.HL U
attribute [local irreducible] hfun bodyT fragT
set_option maxHeartbeats 400000 in
set_option maxRecDepth 100000 in
theorem sFx : Sound Tryd.prog 46 SFx := by
  refine sound_of (C := CFx) [] Tryd.func46 (by kernel_rfl) (by decide +kernel) (by kernel_rfl) rfl trivial (loops0 (by kernel_rfl)) ?_
  intro hargs pars R h
  unfold SFx at h
  split at h
  case h_2 => exfalso; exact h
  rename_i p
  obtain ⟨_, hq⟩ := h
  unfold fsP scP at hq
  refine byVC (vcFx p R) ⟨fun g => ?_, fun g => ⟨fun g2 => ?_, fun g2 => ?_⟩⟩
  · rw [if_pos (eqp g), if_pos (eqp g)] at hq; exact hq
  · rw [if_neg (nep g), if_neg (nep g), if_pos (eqp g2), if_pos (eqp g2)] at hq; exact hq
  · rw [if_neg (nep g), if_neg (nep g), if_neg (nep g2), if_neg (nep g2)] at hq; exact hq
def encT1 (l : List (List Int)) (m : M) (t7 : Bool) (t8 x y z r0 r1 r2 : Int) (a : Bool) (n0 : Int) (h0 : Bool) (n1 : Int) (h1 : Bool) (n2 : Int) (h2 : Bool) (i : Int) : LV :=
  ([.ce (.sl false [4, 4] l), .ce (.ptr 1000003 0), .ce (.ptr 1000005 0), .ce (.ptr 1000006 0), .ce (.bool t7), .ce (.int .i64 t8), .ce (.ptr 1000009 0), .ce (.bool a), .agg [.int .i64 88, .int .i64 89, .int .i64 90], .ce (.num .i64 i)], [cM m, [.int .i64 x, .int .i64 y, .int .i64 z], [.int .i64 r0, .int .i64 r1, .int .i64 r2], [.int .i64 n0, .bool h0, .int .i64 n1, .bool h1, .int .i64 n2, .bool h2]])
theorem loopT1 : ∀ v Q, (LT1 v).wp Q → hloop CTgt anT1 (nthLoop Tryd.f17 0) v Q := by
  intro v Q h
  unfold LT1 at h
  split at h
  case h_2 => exact h.elim
  rename_i l t7 t8 a e0 e1 e2 i rm x y z r0 r1 r2 n0 h0 n1 h1 n2 h2
  obtain ⟨⟨k1, k2, ⟨k3, k4, k5⟩, hl, m, km⟩, hq⟩ := h
  subst k1 k2 k3 k4 k5 km
  refine hloop_rec (σ := Nat) (fun k => encT1 l m t7 t8 x y z r0 r1 r2 (anyK k (fndB 88 l) (fndB 89 l) (fndB 90 l)) (nnk k 0 (fndN 88 l) n0) (nnk k 0 (fndB 88 l) h0) (nnk k 1 (fndN 89 l) n1) (nnk k 1 (fndB 89 l) h1) (nnk k 2 (fndN 90 l) n2) (nnk k 2 (fndB 90 l) h2) (k : Int))
    (fun k => 3 - k) (fun k => k ≤ 3) ?_ 0 (Nat.zero_le _)
  intro k hk K hn hx _
  have hk : k = 0 ∨ k = 1 ∨ k = 2 ∨ k = 3 := by omega
  rcases hk with rfl | rfl | rfl | rfl
  · have nx : K .normal (encT1 l m t7 t8 x y z r0 r1 r2 (fndB 88 l) (fndN 88 l) (fndB 88 l) n1 h1 n2 h2 1) := hn 1 (by omega) (by omega)
    refine byVB (vbT10 l m t7 false h0 h1 h2 t8 88 89 90 x y z r0 r1 r2 n0 n1 n2 K) ⟨hl, ?_⟩
    rintro _ rfl _ rfl
    exact ⟨fun g => (by cases g), fun _ => nx⟩
  · have nx : K .normal (encT1 l m t7 t8 x y z r0 r1 r2 (fndB 88 l || fndB 89 l) (fndN 88 l) (fndB 88 l) (fndN 89 l) (fndB 89 l) n2 h2 2) := hn 2 (by omega) (by omega)
    refine byVB (vbT11 l m t7 (fndB 88 l) (fndB 88 l) h1 h2 t8 88 89 90 x y z r0 r1 r2 (fndN 88 l) n1 n2 K) ⟨hl, ?_⟩
    rintro _ rfl _ rfl
    refine ⟨fun g => ?_, fun g => ?_⟩
    · have e : (fndB 88 l || fndB 89 l) = true := by rw [g]; rfl
      rw [e] at nx; exact nx
    · have e : (fndB 88 l || fndB 89 l) = fndB 89 l := by rw [g]; rfl
      rw [e] at nx; exact nx
  · have nx : K .normal (encT1 l m t7 t8 x y z r0 r1 r2 (fndB 88 l || (fndB 89 l || fndB 90 l)) (fndN 88 l) (fndB 88 l) (fndN 89 l) (fndB 89 l) (fndN 90 l) (fndB 90 l) 3) := hn 3 (by omega) (by omega)
    refine byVB (vbT12 l m t7 (fndB 88 l || fndB 89 l) (fndB 88 l) (fndB 89 l) h2 t8 88 89 90 x y z r0 r1 r2 (fndN 88 l) (fndN 89 l) n2 K) ⟨hl, ?_⟩
    rintro _ rfl _ rfl
    rw [← Bool.or_assoc] at nx
    refine ⟨fun g => ?_, fun g => ?_⟩
    · have e : (fndB 88 l || fndB 89 l || fndB 90 l) = true := by rw [g]; rfl
      rw [e] at nx; exact nx
    · have e : (fndB 88 l || fndB 89 l || fndB 90 l) = fndB 90 l := by rw [g]; rfl
      rw [e] at nx; exact nx
  · exact byVB (vbT13 l m t7 _ _ _ _ t8 88 89 90 x y z r0 r1 r2 _ _ _ K) (hx _ _ hq)
def encT2 (m : M) (t7 : Bool) (t8 : Int) (y0 : Bool) (f s a x y z r0 r1 r2 n0 : Int) (h0 : Bool) (n1 : Int) (h1 : Bool) (n2 : Int) (h2 : Bool) (i : Int) : LV :=
  ([.ce (.ptr 1000003 0), .ce (.ptr 1000005 0), .ce (.ptr 1000006 0), .ce (.bool t7), .ce (.int .i64 t8), .ce (.ptr 1000009 0), .ce (.bool y0), .ce (.int .i64 f), .ce (.int .i64 s), .ce (.int .i64 a), .ce (.num .i64 i)], [cM m, [.int .i64 x, .int .i64 y, .int .i64 z], [.int .i64 r0, .int .i64 r1, .int .i64 r2], [.int .i64 n0, .bool h0, .int .i64 n1, .bool h1, .int .i64 n2, .bool h2]])
def retT2 (m : M) (e : Int) (y0 : Bool) (f s a x y z n0 : Int) (h0 : Bool) (n1 : Int) (h1 : Bool) (n2 : Int) (h2 : Bool) : LV :=
  ([.ce (.ptr 1000003 0), .ce (.ptr 1000005 0), .ce (.ptr 1000006 0), .ce (.bool false), .ce (.int .i64 e), .ce (.ptr 1000009 0), .ce (.bool y0), .ce (.int .i64 f), .ce (.int .i64 s), .ce (.int .i64 a)], [cM m, [.int .i64 x, .int .i64 y, .int .i64 z], [.int .i64 0, .int .i64 0, .int .i64 0], [.int .i64 n0, .bool h0, .int .i64 n1, .bool h1, .int .i64 n2, .bool h2]])
theorem loopT2 : ∀ v Q, (LT2 v).wp Q → hloop CTgt anT2 (nthLoop Tryd.f17 1) v Q := by
  intro v Q h
  unfold LT2 at h
  split at h
  case h_2 => exact h.elim
  rename_i t7 t8 y0 f s a i rm x y z r0 r1 r2 n0 h0 n1 h1 n2 h2
  obtain ⟨⟨k1, m, km⟩, hq⟩ := h
  subst k1 km
  refine hloop_rec (σ := Nat) (fun k => encT2 m t7 t8 y0 f s a x y z r0 r1 r2 (nnk k 0 (wN a 0 m.m3 h0 n0) n0) h0 (nnk k 1 (wN a 1 m.m3 h1 n1) n1) h1 (nnk k 2 (wN a 2 m.m3 h2 n2) n2) h2 (k : Int))
    (fun k => 3 - k) (fun k => k ≤ 3 ∧ (0 < k → wE a 0 m.m3 h0 n0 = 0) ∧ (1 < k → wE a 1 m.m3 h1 n1 = 0) ∧ (2 < k → wE a 2 m.m3 h2 n2 = 0)) ?_ 0 ⟨Nat.zero_le _, fun k => (by omega), fun k => (by omega), fun k => (by omega)⟩
  intro k hk K hn hx hr
  obtain ⟨hk, i0, i1, i2⟩ := hk
  have hk : k = 0 ∨ k = 1 ∨ k = 2 ∨ k = 3 := by omega
  rcases hk with rfl | rfl | rfl | rfl
  · exact byVB (vbT20 m t7 y0 h0 h1 h2 t8 f s a x y z r0 r1 r2 n0 n1 n2 K) (lstep (B := fun e => K .ret (retT2 m e y0 f s a x y z n0 h0 n1 h1 n2 h2)) (C := fun n => K .normal (encT2 m t7 t8 y0 f s a x y z r0 r1 r2 n h0 n1 h1 n2 h2 1))
      (fun g => hr _ (hq.1 g)) (fun g => hn 1 ⟨by omega, fun _ => g, fun k => (by omega), fun k => (by omega)⟩ (by omega)))
  · exact byVB (vbT21 m t7 y0 h0 h1 h2 t8 f s a x y z r0 r1 r2 (wN a 0 m.m3 h0 n0) n1 n2 K) (lstep (B := fun e => K .ret (retT2 m e y0 f s a x y z (wN a 0 m.m3 h0 n0) h0 n1 h1 n2 h2)) (C := fun n => K .normal (encT2 m t7 t8 y0 f s a x y z r0 r1 r2 (wN a 0 m.m3 h0 n0) h0 n h1 n2 h2 2))
      (fun g => hr _ (hq.2.1 ⟨i0 (by omega), g⟩)) (fun g => hn 2 ⟨by omega, fun _ => i0 (by omega), fun _ => g, fun k => (by omega)⟩ (by omega)))
  · exact byVB (vbT22 m t7 y0 h0 h1 h2 t8 f s a x y z r0 r1 r2 (wN a 0 m.m3 h0 n0) (wN a 1 m.m3 h1 n1) n2 K) (lstep (B := fun e => K .ret (retT2 m e y0 f s a x y z (wN a 0 m.m3 h0 n0) h0 (wN a 1 m.m3 h1 n1) h1 n2 h2)) (C := fun n => K .normal (encT2 m t7 t8 y0 f s a x y z r0 r1 r2 (wN a 0 m.m3 h0 n0) h0 (wN a 1 m.m3 h1 n1) h1 n h2 3))
      (fun g => hr _ (hq.2.2.1 ⟨i0 (by omega), i1 (by omega), g⟩)) (fun g => hn 3 ⟨by omega, fun _ => i0 (by omega), fun _ => i1 (by omega), fun _ => g⟩ (by omega)))
  · exact byVB (vbT23 m t7 y0 h0 h1 h2 t8 f s a x y z r0 r1 r2 _ _ _ K) (hx _ _ (hq.2.2.2 ⟨i0 (by omega), i1 (by omega), i2 (by omega)⟩))
def encT6 (m : M) (y0 : Bool) (n0 : Int) (h0 : Bool) (n1 : Int) (h1 : Bool) (n2 : Int) (h2 : Bool) (r0 r1 r2 x y z i : Int) : LV :=
  ([.ce (.ptr 1000003 0), .ce (.ptr 1000006 0), .ce (.bool y0), .ce (.ptr 1000019 0), .agg [.int .i64 n0, .bool h0, .int .i64 n1, .bool h1, .int .i64 n2, .bool h2], .ce (.num .i64 i)], [cM m, [.int .i64 r0, .int .i64 r1, .int .i64 r2], [.int .i64 x, .int .i64 y, .int .i64 z]])
theorem loopT6 : ∀ v Q, (LT6 v).wp Q → hloop CTgt anT6 (nthLoop Tryd.f17 2) v Q := by
  intro v Q h
  unfold LT6 at h
  split at h
  case h_2 => exact h.elim
  rename_i y0 n0 h0 n1 h1 n2 h2 i rm r0 r1 r2 x y z
  obtain ⟨⟨k1, ⟨m, km⟩, hb, b0, b1, b2⟩, hq⟩ := h
  subst k1 km
  obtain ⟨bx, bY, bz⟩ := hb
  refine hloop_rec (σ := Nat) (fun k => encT6 m y0 n0 h0 n1 h1 n2 h2 r0 r1 r2 (nnk k 0 (mv m.m2 h0 x n0) x) (nnk k 1 (mv m.m2 h1 y n1) y) (nnk k 2 (mv m.m2 h2 z n2) z) (k : Int))
    (fun k => 3 - k) (fun k => k ≤ 3) ?_ 0 (Nat.zero_le _)
  intro k hk K hn hx hr
  have hk : k = 0 ∨ k = 1 ∨ k = 2 ∨ k = 3 := by omega
  rcases hk with rfl | rfl | rfl | rfl
  · exact byVB (vbT60 m y0 h0 h1 h2 x y z r0 r1 r2 n0 n1 n2 K) (vstep (C := fun v => K .normal (encT6 m y0 n0 h0 n1 h1 n2 h2 r0 r1 r2 v y z 1)) bx b0 (hn 1 (by omega) (by omega)))
  · exact byVB (vbT61 m y0 h0 h1 h2 (mv m.m2 h0 x n0) y z r0 r1 r2 n0 n1 n2 K) (vstep (C := fun v => K .normal (encT6 m y0 n0 h0 n1 h1 n2 h2 r0 r1 r2 (mv m.m2 h0 x n0) v z 2)) bY b1 (hn 2 (by omega) (by omega)))
  · exact byVB (vbT62 m y0 h0 h1 h2 (mv m.m2 h0 x n0) (mv m.m2 h1 y n1) z r0 r1 r2 n0 n1 n2 K) (vstep (C := fun v => K .normal (encT6 m y0 n0 h0 n1 h1 n2 h2 r0 r1 r2 (mv m.m2 h0 x n0) (mv m.m2 h1 y n1) v 3)) bz b2 (hn 3 (by omega) (by omega)))
  · exact byVB (vbT63 m y0 h0 h1 h2 _ _ _ r0 r1 r2 n0 n1 n2 K) (hx _ _ hq)
theorem fragT3 : ∀ v Q, (LT3 v).wp Q → fragT CTgt anT3 (nthFrag CTgt Tryd.f17 0) v Q := by
  intro v Q h
  unfold LT3 at h
  split at h
  case h_2 => exact h.elim
  rename_i t7 t8 y0 f s a rm x y z r0 r1 r2 n0 h0 n1 h1 n2 h2
  obtain ⟨⟨⟨f1, f2, s1, s2⟩, m, km⟩, hq⟩ := h
  subst km
  refine byVG (vgT3 m t7 y0 h0 h1 h2 t8 f s a x y z r0 r1 r2 n0 n1 n2 Q) (sp3 ⟨f1, f2⟩ ?_ ?_ ?_)
  all_goals
    intro e
    subst e
    refine sp3 ⟨s1, s2⟩ ?_ ?_ ?_
    all_goals
      intro e
      subst e
      exact ⟨fun g => hq _ (by rw [show decide (0 ≤ a) = true from g]; rfl), fun g => hq _ (by rw [show decide (0 ≤ a) = false from g]; rfl)⟩
theorem fragT4 : ∀ v Q, (LT4 v).wp Q → fragT CTgt anT4 (nthFrag CTgt Tryd.f17 1) v Q := by
  intro v Q h
  unfold LT4 at h
  split at h
  case h_2 => exact h.elim
  rename_i y0 f s a rm r0 r1 r2 n0 h0 n1 h1 n2 h2 x y z
  obtain ⟨⟨⟨f1, f2⟩, m, km⟩, hq⟩ := h
  subst km
  refine byVG (vgT4 m y0 h0 h1 h2 f s a x y z r0 r1 r2 n0 n1 n2 Q) (sp3 ⟨f1, f2⟩ ?_ ?_ ?_)
  all_goals
    intro e
    subst e
    exact ⟨fun g => hq _ (by rw [show decide (0 ≤ a) = true from g]; rfl), fun g => hq _ (by rw [show decide (0 ≤ a) = false from g]; rfl)⟩
theorem fragT5 : ∀ v Q, (LT5 v).wp Q → fragT CTgt anT5 (nthFrag CTgt Tryd.f17 2) v Q := by
  intro v Q h
  unfold LT5 at h
  split at h
  case h_2 => exact h.elim
  rename_i y0 f s c rm r0 r1 r2 n0 h0 n1 h1 n2 h2 x y z
  obtain ⟨⟨⟨f1, f2, s1, s2⟩, m, km⟩, hq⟩ := h
  subst km
  refine byVG (vgT5 m y0 h0 h1 h2 c f s x y z r0 r1 r2 n0 n1 n2 Q) ⟨fun g => sp3 ⟨f1, f2⟩ ?_ ?_ ?_, fun g => hq (n0, n1, n2) ⟨fun _ => ⟨rfl, rfl, rfl⟩, fun g2 => (by rw [g] at g2; cases g2)⟩⟩
  all_goals
    intro e
    subst e
    refine sp3 ⟨s1, s2⟩ ?_ ?_ ?_
    all_goals
      intro e
      subst e
      refine ⟨trivial, fun u eu w ew b _ => hq (_, _, _) ⟨fun g2 => (by rw [g] at g2; cases g2), fun _ => ⟨?_, ?_, ?_⟩⟩⟩
      all_goals first
        | exact eu
        | exact ew
        | rfl
theorem tgTail (m : M) (l : List (List Int)) (x y z : Int) (R : Res → Prop) (f s a : Int) (hxyz : B3 1048576 x y z) (hf : 0 ≤ f ∧ f ≤ 2) (hs : 0 ≤ s ∧ s ≤ 2) (hfs : f ≠ s) (ha : 0 ≤ a → a = s)
    (hR : ∀ r, r = tg1 f s a m.m2 m.m3 (fndB 88 l) (fndB 89 l) (fndB 90 l) x y z (fndN 88 l) (fndN 89 l) (fndN 90 l) → R ⟨.tup [.agg [.int .i64 r.x, .int .i64 r.y, .int .i64 r.z], .ce (.bool r.any), .ce (.int .i64 r.e)], false, [], []⟩) :
    ((0 : Int) = (0 : Int) ∧ ∃ (m_1 : M), (cM m) = cM m_1) ∧ (wE a (0 : Int) (mI (cM m) (3 : Nat)) (fndB (88 : Int) l) (fndN (88 : Int) l) ≠ (0 : Int) → R ⟨.tup [.agg [.int .i64 0, .int .i64 0, .int .i64 0], .ce (.bool false), .ce (.int .i64 (wE a (0 : Int) (mI (cM m) (3 : Nat)) (fndB (88 : Int) l) (fndN (88 : Int) l)))], false, [], []⟩) ∧ (wE a (0 : Int) (mI (cM m) (3 : Nat)) (fndB (88 : Int) l) (fndN (88 : Int) l) = (0 : Int) ∧ wE a (1 : Int) (mI (cM m) (3 : Nat)) (fndB (89 : Int) l) (fndN (89 : Int) l) ≠ (0 : Int) → R ⟨.tup [.agg [.int .i64 0, .int .i64 0, .int .i64 0], .ce (.bool false), .ce (.int .i64 (wE a (1 : Int) (mI (cM m) (3 : Nat)) (fndB (89 : Int) l) (fndN (89 : Int) l)))], false, [], []⟩) ∧ (wE a (0 : Int) (mI (cM m) (3 : Nat)) (fndB (88 : Int) l) (fndN (88 : Int) l) = (0 : Int) ∧ wE a (1 : Int) (mI (cM m) (3 : Nat)) (fndB (89 : Int) l) (fndN (89 : Int) l) = (0 : Int) ∧ wE a (2 : Int) (mI (cM m) (3 : Nat)) (fndB (90 : Int) l) (fndN (90 : Int) l) ≠ (0 : Int) → R ⟨.tup [.agg [.int .i64 0, .int .i64 0, .int .i64 0], .ce (.bool false), .ce (.int .i64 (wE a (2 : Int) (mI (cM m) (3 : Nat)) (fndB (90 : Int) l) (fndN (90 : Int) l)))], false, [], []⟩) ∧ (wE a (0 : Int) (mI (cM m) (3 : Nat)) (fndB (88 : Int) l) (fndN (88 : Int) l) = (0 : Int) ∧ wE a (1 : Int) (mI (cM m) (3 : Nat)) (fndB (89 : Int) l) (fndN (89 : Int) l) = (0 : Int) ∧ wE a (2 : Int) (mI (cM m) (3 : Nat)) (fndB (90 : Int) l) (fndN (90 : Int) l) = (0 : Int) → ((0 ≤ f ∧ f ≤ 2 ∧ 0 ≤ s ∧ s ≤ 2) ∧ ∃ (m_1 : M), (cM m) = cM m_1) ∧ ∀ (x_1 : Bool), x_1 = (decide ((0 : Int) ≤ a) && at3b f (fndB (88 : Int) l) (fndB (89 : Int) l) (fndB (90 : Int) l) != at3b s (fndB (88 : Int) l) (fndB (89 : Int) l) (fndB (90 : Int) l)) → (x_1 = true → R ⟨.tup [.agg [.int .i64 0, .int .i64 0, .int .i64 0], .ce (.bool false), .ce (.int .i64 9)], false, [], []⟩) ∧ (x_1 = false → ((0 ≤ f ∧ f ≤ 2) ∧ ∃ (m_1 : M), (cM m) = cM m_1) ∧ ∀ (x_2 : Bool), x_2 = (decide ((0 : Int) ≤ a) && at3b f (fndB (88 : Int) l) (fndB (89 : Int) l) (fndB (90 : Int) l)) → ((0 ≤ f ∧ f ≤ 2 ∧ 0 ≤ s ∧ s ≤ 2) ∧ ∃ (m_1 : M), (cM m) = cM m_1) ∧ ∀ (x_3 : Int × Int × Int), (x_2 = false → x_3.1 = wN a (0 : Int) (mI (cM m) (3 : Nat)) (fndB (88 : Int) l) (fndN (88 : Int) l) ∧ x_3.snd.1 = wN a (1 : Int) (mI (cM m) (3 : Nat)) (fndB (89 : Int) l) (fndN (89 : Int) l) ∧ x_3.snd.2 = wN a (2 : Int) (mI (cM m) (3 : Nat)) (fndB (90 : Int) l) (fndN (90 : Int) l)) ∧ (x_2 = true → x_3.1 = put3 f s (rtU (at3 f (wN a (0 : Int) (mI (cM m) (3 : Nat)) (fndB (88 : Int) l) (fndN (88 : Int) l)) (wN a (1 : Int) (mI (cM m) (3 : Nat)) (fndB (89 : Int) l) (fndN (89 : Int) l)) (wN a (2 : Int) (mI (cM m) (3 : Nat)) (fndB (90 : Int) l) (fndN (90 : Int) l))) (0 : Int) (at3 s (wN a (0 : Int) (mI (cM m) (3 : Nat)) (fndB (88 : Int) l) (fndN (88 : Int) l)) (wN a (1 : Int) (mI (cM m) (3 : Nat)) (fndB (89 : Int) l) (fndN (89 : Int) l)) (wN a (2 : Int) (mI (cM m) (3 : Nat)) (fndB (90 : Int) l) (fndN (90 : Int) l)))) (rtW (at3 f (wN a (0 : Int) (mI (cM m) (3 : Nat)) (fndB (88 : Int) l) (fndN (88 : Int) l)) (wN a (1 : Int) (mI (cM m) (3 : Nat)) (fndB (89 : Int) l) (fndN (89 : Int) l)) (wN a (2 : Int) (mI (cM m) (3 : Nat)) (fndB (90 : Int) l) (fndN (90 : Int) l))) (0 : Int) (at3 s (wN a (0 : Int) (mI (cM m) (3 : Nat)) (fndB (88 : Int) l) (fndN (88 : Int) l)) (wN a (1 : Int) (mI (cM m) (3 : Nat)) (fndB (89 : Int) l) (fndN (89 : Int) l)) (wN a (2 : Int) (mI (cM m) (3 : Nat)) (fndB (90 : Int) l) (fndN (90 : Int) l)))) (0 : Int) (wN a (0 : Int) (mI (cM m) (3 : Nat)) (fndB (88 : Int) l) (fndN (88 : Int) l)) ∧ x_3.snd.1 = put3 f s (rtU (at3 f (wN a (0 : Int) (mI (cM m) (3 : Nat)) (fndB (88 : Int) l) (fndN (88 : Int) l)) (wN a (1 : Int) (mI (cM m) (3 : Nat)) (fndB (89 : Int) l) (fndN (89 : Int) l)) (wN a (2 : Int) (mI (cM m) (3 : Nat)) (fndB (90 : Int) l) (fndN (90 : Int) l))) (0 : Int) (at3 s (wN a (0 : Int) (mI (cM m) (3 : Nat)) (fndB (88 : Int) l) (fndN (88 : Int) l)) (wN a (1 : Int) (mI (cM m) (3 : Nat)) (fndB (89 : Int) l) (fndN (89 : Int) l)) (wN a (2 : Int) (mI (cM m) (3 : Nat)) (fndB (90 : Int) l) (fndN (90 : Int) l)))) (rtW (at3 f (wN a (0 : Int) (mI (cM m) (3 : Nat)) (fndB (88 : Int) l) (fndN (88 : Int) l)) (wN a (1 : Int) (mI (cM m) (3 : Nat)) (fndB (89 : Int) l) (fndN (89 : Int) l)) (wN a (2 : Int) (mI (cM m) (3 : Nat)) (fndB (90 : Int) l) (fndN (90 : Int) l))) (0 : Int) (at3 s (wN a (0 : Int) (mI (cM m) (3 : Nat)) (fndB (88 : Int) l) (fndN (88 : Int) l)) (wN a (1 : Int) (mI (cM m) (3 : Nat)) (fndB (89 : Int) l) (fndN (89 : Int) l)) (wN a (2 : Int) (mI (cM m) (3 : Nat)) (fndB (90 : Int) l) (fndN (90 : Int) l)))) (1 : Int) (wN a (1 : Int) (mI (cM m) (3 : Nat)) (fndB (89 : Int) l) (fndN (89 : Int) l)) ∧ x_3.snd.2 = put3 f s (rtU (at3 f (wN a (0 : Int) (mI (cM m) (3 : Nat)) (fndB (88 : Int) l) (fndN (88 : Int) l)) (wN a (1 : Int) (mI (cM m) (3 : Nat)) (fndB (89 : Int) l) (fndN (89 : Int) l)) (wN a (2 : Int) (mI (cM m) (3 : Nat)) (fndB (90 : Int) l) (fndN (90 : Int) l))) (0 : Int) (at3 s (wN a (0 : Int) (mI (cM m) (3 : Nat)) (fndB (88 : Int) l) (fndN (88 : Int) l)) (wN a (1 : Int) (mI (cM m) (3 : Nat)) (fndB (89 : Int) l) (fndN (89 : Int) l)) (wN a (2 : Int) (mI (cM m) (3 : Nat)) (fndB (90 : Int) l) (fndN (90 : Int) l)))) (rtW (at3 f (wN a (0 : Int) (mI (cM m) (3 : Nat)) (fndB (88 : Int) l) (fndN (88 : Int) l)) (wN a (1 : Int) (mI (cM m) (3 : Nat)) (fndB (89 : Int) l) (fndN (89 : Int) l)) (wN a (2 : Int) (mI (cM m) (3 : Nat)) (fndB (90 : Int) l) (fndN (90 : Int) l))) (0 : Int) (at3 s (wN a (0 : Int) (mI (cM m) (3 : Nat)) (fndB (88 : Int) l) (fndN (88 : Int) l)) (wN a (1 : Int) (mI (cM m) (3 : Nat)) (fndB (89 : Int) l) (fndN (89 : Int) l)) (wN a (2 : Int) (mI (cM m) (3 : Nat)) (fndB (90 : Int) l) (fndN (90 : Int) l)))) (2 : Int) (wN a (2 : Int) (mI (cM m) (3 : Nat)) (fndB (90 : Int) l) (fndN (90 : Int) l))) → ((0 : Int) = (0 : Int) ∧ (∃ (m_1 : M), (cM m) = cM m_1) ∧ B3 (1099511627776 : Int) x y z ∧ (fndB (88 : Int) l = true → (-1099511627776 : Int) ≤ x_3.1 ∧ x_3.1 ≤ 1099511627776) ∧ (fndB (89 : Int) l = true → (-1099511627776 : Int) ≤ x_3.snd.1 ∧ x_3.snd.1 ≤ 1099511627776) ∧ (fndB (90 : Int) l = true → (-1099511627776 : Int) ≤ x_3.snd.2 ∧ x_3.snd.2 ≤ 1099511627776)) ∧ True ∧ ∀ (x16 : Bool), x16 = wn (mv (mI (cM m) (2 : Nat)) (fndB (88 : Int) l) x x_3.1) (mv (mI (cM m) (2 : Nat)) (fndB (89 : Int) l) y x_3.snd.1) (mv (mI (cM m) (2 : Nat)) (fndB (90 : Int) l) z x_3.snd.2) → ((!x16) = true → R ⟨.tup [.agg [.int .i64 0, .int .i64 0, .int .i64 0], .ce (.bool false), .ce (.int .i64 3)], false, [], []⟩) ∧ ((!x16) = false → R ⟨.tup [.agg [.int .i64 (mv (mI (cM m) (2 : Nat)) (fndB (88 : Int) l) x x_3.1), .int .i64 (mv (mI (cM m) (2 : Nat)) (fndB (89 : Int) l) y x_3.snd.1), .int .i64 (mv (mI (cM m) (2 : Nat)) (fndB (90 : Int) l) z x_3.snd.2)], .ce (.bool (fndB (88 : Int) l || (fndB (89 : Int) l || fndB (90 : Int) l))), .ce (.int .i64 0)], false, [], []⟩))) := by
  have hR : ∀ r, r = tg1 f s a (mI (cM m) 2) (mI (cM m) 3) (fndB 88 l) (fndB 89 l) (fndB 90 l) x y z (fndN 88 l) (fndN 89 l) (fndN 90 l) → R ⟨.tup [.agg [.int .i64 r.x, .int .i64 r.y, .int .i64 r.z], .ce (.bool r.any), .ce (.int .i64 r.e)], false, [], []⟩ := hR
  generalize fndB 88 l = b0 at *
  generalize fndB 89 l = b1 at *
  generalize fndB 90 l = b2 at *
  generalize fndN 88 l = n0 at *
  generalize fndN 89 l = n1 at *
  generalize fndN 90 l = n2 at *
  generalize mI (cM m) 2 = dd at *
  generalize mI (cM m) 3 = u at *
  refine ⟨⟨rfl, m, rfl⟩, fun c => ?_, fun c => ?_, fun c => ?_, fun c => ?_⟩
  · exact hR ⟨0, 0, 0, false, wE a 0 u b0 n0⟩ (by unfold tg1; rw [if_pos c])
  · exact hR ⟨0, 0, 0, false, wE a 1 u b1 n1⟩ (by unfold tg1; rw [if_neg (fun k => k c.1), if_pos c.2])
  · exact hR ⟨0, 0, 0, false, wE a 2 u b2 n2⟩ (by unfold tg1; rw [if_neg (fun k => k c.1), if_neg (fun k => k c.2.1), if_pos c.2.2])
  unfold tg1 at hR
  rw [if_neg (fun k => k c.1), if_neg (fun k => k c.2.1), if_neg (fun k => k c.2.2)] at hR
  have q0 : b0 = true → (0 : Int) ≠ a → -1048576 ≤ wN a 0 u b0 n0 ∧ wN a 0 u b0 n0 ≤ 1048576 := fun k1 k2 => wN_bd k1 k2
  have q1 : b1 = true → (1 : Int) ≠ a → -1048576 ≤ wN a 1 u b1 n1 ∧ wN a 1 u b1 n1 ≤ 1048576 := fun k1 k2 => wN_bd k1 k2
  have q2 : b2 = true → (2 : Int) ≠ a → -1048576 ≤ wN a 2 u b2 n2 ∧ wN a 2 u b2 n2 ≤ 1048576 := fun k1 k2 => wN_bd k1 k2
  generalize wN a 0 u b0 n0 = w0 at *
  generalize wN a 1 u b1 n1 = w1 at *
  generalize wN a 2 u b2 n2 = w2 at *
  refine ⟨⟨⟨hf.1, hf.2, hs.1, hs.2⟩, m, rfl⟩, fun b eb => ⟨fun g => ?_, fun g => ?_⟩⟩
  · exact hR ⟨0, 0, 0, false, 9⟩ (by unfold tg2; rw [if_pos (eb.symm.trans g)])
  have g9 := eb.symm.trans g
  unfold tg2 at hR
  rw [if_neg (by rw [g9]; decide)] at hR
  refine ⟨⟨hf, m, rfl⟩, fun p ep => ⟨⟨⟨hf.1, hf.2, hs.1, hs.2⟩, m, rfl⟩, fun q hq => ?_⟩⟩
  rw [← ep] at hR
  have rb := rt_bd (at3 f w0 w1 w2) 0 (at3 s w0 w1 w2)
  have na : p = false → ∀ i : Int, i = a → 0 ≤ i → at3b i b0 b1 b2 = true → False := by
    intro hp i hi h0 hb
    have ha2 := ha (by omega)
    rw [ha2] at hi
    rw [hi] at hb
    have ge : decide (0 ≤ a) = true := decide_eq_true (by omega)
    rw [ge, Bool.true_and] at g9 ep
    rw [hp] at ep
    rw [← ep, hb] at g9
    cases g9
  have bd : bmv b0 q.1 ∧ bmv b1 q.2.1 ∧ bmv b2 q.2.2 := by
    cases hp : p with
    | false =>
      obtain ⟨k0, k1, k2⟩ := hq.1 hp
      rw [k0, k1, k2]
      refine ⟨fun k => ?_, fun k => ?_, fun k => ?_⟩
      · have := q0 k (fun j => na hp 0 j (by decide) k); omega
      · have := q1 k (fun j => na hp 1 j (by decide) k); omega
      · have := q2 k (fun j => na hp 2 j (by decide) k); omega
    | true =>
      obtain ⟨k0, k1, k2⟩ := hq.2 hp
      have aa : 0 ≤ a := by
        rw [hp] at ep
        have ep := ep.symm
        rw [Bool.and_eq_true] at ep
        exact of_decide_eq_true ep.1
      have aa := ha aa
      rw [k0, k1, k2]
      refine ⟨fun k => put_bd (B := 1099511627776) (by omega) (by omega) fun j1 _ => ?_, fun k => put_bd (B := 1099511627776) (by omega) (by omega) fun j1 _ => ?_, fun k => put_bd (B := 1099511627776) (by omega) (by omega) fun j1 _ => ?_⟩
      · have := q0 k (by rw [aa]; exact j1); omega
      · have := q1 k (by rw [aa]; exact j1); omega
      · have := q2 k (by rw [aa]; exact j1); omega
  refine ⟨⟨rfl, ⟨m, rfl⟩, B3_mono hxyz (by decide), bd.1, bd.2.1, bd.2.2⟩, trivial, fun x8 e8 => ?_⟩
  have et : (if p = true then
      tg3 dd b0 b1 b2 x y z (put3 f s (rtU (at3 f w0 w1 w2) 0 (at3 s w0 w1 w2)) (rtW (at3 f w0 w1 w2) 0 (at3 s w0 w1 w2)) 0 w0)
        (put3 f s (rtU (at3 f w0 w1 w2) 0 (at3 s w0 w1 w2)) (rtW (at3 f w0 w1 w2) 0 (at3 s w0 w1 w2)) 1 w1)
        (put3 f s (rtU (at3 f w0 w1 w2) 0 (at3 s w0 w1 w2)) (rtW (at3 f w0 w1 w2) 0 (at3 s w0 w1 w2)) 2 w2)
      else tg3 dd b0 b1 b2 x y z w0 w1 w2) = tg3 dd b0 b1 b2 x y z q.1 q.2.1 q.2.2 := by
    cases hp : p with
    | false =>
      obtain ⟨k0, k1, k2⟩ := hq.1 hp
      rw [k0, k1, k2]; rfl
    | true =>
      obtain ⟨k0, k1, k2⟩ := hq.2 hp
      rw [k0, k1, k2]; rfl
  rw [et] at hR
  unfold tg3 at hR
  refine ⟨fun g => ?_, fun g => ?_⟩
  · exact hR ⟨0, 0, 0, false, 3⟩ (by rw [if_neg (by rw [e8.symm.trans (nt_f g)]; decide)])
  · exact hR ⟨mv dd b0 x q.1, mv dd b1 y q.2.1, mv dd b2 z q.2.2, b0 || (b1 || b2), 0⟩ (by rw [if_pos (e8.symm.trans (nf_t g))])
set_option maxHeartbeats 400000 in
set_option maxRecDepth 100000 in
theorem sTgt : Sound Tryd.prog 17 STgt := by
  refine sound_of (C := CTgt) tabTgt Tryd.func17 (by kernel_rfl) (by decide +kernel) (by kernel_rfl) rfl ⟨sWn, sFind, sFx, sPl, sLen, sRot, trivial⟩ (loopsG [nthLoop Tryd.f17 0, nthLoop Tryd.f17 1, nthLoop Tryd.f17 2] [nthFrag CTgt Tryd.f17 0, nthFrag CTgt Tryd.f17 1, nthFrag CTgt Tryd.f17 2] (by kernel_rfl) (by kernel_rfl) ⟨loopOK_of (an := anT1) (S := LT1) (by kernel_rfl) loopT1, loopOK_of (an := anT2) (S := LT2) (by kernel_rfl) loopT2, loopOK_of (an := anT6) (S := LT6) (by kernel_rfl) loopT6, trivial⟩ ⟨fragOK_of (an := anT3) (S := LT3) (by kernel_rfl) fragT3, fragOK_of (an := anT4) (S := LT4) (by kernel_rfl) fragT4, fragOK_of (an := anT5) (S := LT5) (by kernel_rfl) fragT5, trivial⟩) ?_
  intro hargs pars R h
  unfold STgt at h
  split at h
  case h_2 => exfalso; exact h
  rename_i cs l x y z
  split at h
  case h_2 => exact h.elim
  rename_i m0 m1 m2 m3 m4 m5 m6 m7 m8 m9 m10 m11 m12 m13 m14 m15 m16 m17 m18 m19 m20 m21
  obtain ⟨⟨hl, hp⟩, _, hR⟩ := h
  refine byVC (vcTgt ⟨m0, m1, m2, m3, m4, m5, m6, m7, m8, m9, m10, m11, m12, m13, m14, m15, m16, m17, m18, m19, m20, m21⟩ l x y z R) ⟨trivial, fun x1 e1 => ⟨fun g => ?_, fun g => ?_⟩⟩
  · have w := e1.symm.trans (nt_f g)
    exact hR ⟨0, 0, 0, false, 1⟩ (by unfold tgF; rw [w]; rfl)
  have w := e1.symm.trans (nf_t g)
  have hxyz := wn_iff.1 w
  unfold tgF at hR
  rw [if_pos w] at hR
  refine ⟨⟨rfl, rfl, ⟨rfl, rfl, rfl⟩, hl, _, rfl⟩, trivial, fun x2 e2 x3 e3 => ⟨fun g16 => ⟨trivial, fun x4 e4 => ⟨fun g4 => ?_, fun g4 => ?_⟩⟩, fun g16 => ?_⟩⟩
  case refine_2.refine_2 =>
    exfalso
    have e4 := e4.symm.trans g4
    unfold isPl at e4
    have : m1 = 17 ∨ m1 = 18 ∨ m1 = 19 := by omega
    rcases this with r | r | r <;> rw [r] at e4 <;> cases e4
  case refine_2.refine_1 =>
    have ea : anP m1 m10 = x3 := by unfold anP; rw [if_pos (eqp g16)]; exact e3.symm
    rw [ea, ← e2, ← e3] at hR
    exact tgTail ⟨m0, m1, m2, m3, m4, m5, m6, m7, m8, m9, m10, m11, m12, m13, m14, m15, m16, m17, m18, m19, m20, m21⟩ l x y z R x2 x3 x3 hxyz (e2 ▸ fs_bd m1) (e3 ▸ sc_bd3 m1) (by rw [e2, e3]; exact fs_sc m1) (fun _ => rfl) hR
  case refine_2.refine_3 =>
    have ea : anP m1 m10 = -1 := by unfold anP; rw [if_neg (nep g16)]
    rw [ea, ← e2, ← e3] at hR
    exact tgTail ⟨m0, m1, m2, m3, m4, m5, m6, m7, m8, m9, m10, m11, m12, m13, m14, m15, m16, m17, m18, m19, m20, m21⟩ l x y z R x2 x3 (-1) hxyz (e2 ▸ fs_bd m1) (e3 ▸ sc_bd3 m1) (by rw [e2, e3]; exact fs_sc m1) (fun k => (by omega)) hR
end Go.Proofs.YtgnknciihdajiaaDoor
namespace U
open Go Go.HL
def hgP (p : Int) : Int := if p = 18 then 1 else if p = 19 then 0 else 2
def ptX (a n x : Int) : Int := if a = 88 then n else x
def ptY (a n y : Int) : Int := if a = 89 then n else y
def ptZ (a n z : Int) : Int := if a = 88 then z else if a = 89 then z else n
def aLt (po s : Int) : Int := if po = 16 then s - 88 else -1
def actR (h pol : Bool) (i g : Int) : Bool := h && !(pol && (88 + i != g))
def nvR (d : Int) (act : Bool) (p n : Int) : Int := if act then (if d = 91 then n + p else n) else n
def qvR (d : Int) (act : Bool) (p n q : Int) : Int := if act then (if d = 91 then n + p else n) else q
def adR (d p u : Int) : Int := if d = 91 then u + p else u
end U
namespace Go.Proofs.YtgnknciihdajiaaDoor
open Go Go.HL U
def SAxs (hargs : List HV) (pars : List (List HC)) : SR :=
  match hargs, pars with
  | [.ce (.int .i64 p)], [] => .det True ⟨.tup [.ce (.int .i64 (88 + fsP p)), .ce (.int .i64 (88 + scP p)), .ce (.int .i64 (88 + hgP p))], false, [], []⟩
  | _, _ => .fail
noncomputable def CAxs : Ctx := ⟨Tryd.prog, gam [], Tryd.f32.ntmps, [], []⟩
theorem vcAxs (p : Int) (Q : Res → Prop) : (nfun true CAxs Tryd.f32 (bodyOf Tryd.f32) [.ce (.int .i64 p)] [] Q) =
    (((p == 18) = true → Q ⟨.tup [.ce (.int .i64 90), .ce (.int .i64 88), .ce (.int .i64 89)], false, [], []⟩) ∧ ((p == 18) = false → ((p == 19) = true → Q ⟨.tup [.ce (.int .i64 89), .ce (.int .i64 90), .ce (.int .i64 88)], false, [], []⟩) ∧ ((p == 19) = false → Q ⟨.tup [.ce (.int .i64 88), .ce (.int .i64 89), .ce (.int .i64 90)], false, [], []⟩))) := by kernel_rfl
def SGet (hargs : List HV) (pars : List (List HC)) : SR :=
  match hargs, pars with
  | [.agg [.int .i64 x, .int .i64 y, .int .i64 z], .ce (.int .i64 a)], [] => .det True ⟨.ce (.int .i64 (at3 (a - 88) x y z)), false, [], []⟩
  | _, _ => .fail
noncomputable def CGet : Ctx := ⟨Tryd.prog, gam [], Tryd.f29.ntmps, [], []⟩
theorem vcGet (x y z a : Int) (Q : Res → Prop) : (nfun true CGet Tryd.f29 (bodyOf Tryd.f29) [.agg [.int .i64 x, .int .i64 y, .int .i64 z], .ce (.int .i64 a)] [] Q) =
    (((a == 88) = true → Q ⟨.ce (.int .i64 x), false, [], []⟩) ∧ ((a == 88) = false → ((a == 89) = true → Q ⟨.ce (.int .i64 y), false, [], []⟩) ∧ ((a == 89) = false → Q ⟨.ce (.int .i64 z), false, [], []⟩))) := by kernel_rfl
def SPut (hargs : List HV) (pars : List (List HC)) : SR :=
  match hargs, pars with
  | [.agg [.int .i64 x, .int .i64 y, .int .i64 z], .ce (.int .i64 a), .ce (.int .i64 n)], [] => .det True ⟨.agg [.int .i64 (ptX a n x), .int .i64 (ptY a n y), .int .i64 (ptZ a n z)], false, [], []⟩
  | _, _ => .fail
noncomputable def CPut : Ctx := ⟨Tryd.prog, gam [], Tryd.f30.ntmps, [], []⟩
theorem vcPut (x y z a n : Int) (Q : Res → Prop) : (nfun true CPut Tryd.f30 (bodyOf Tryd.f30) [.agg [.int .i64 x, .int .i64 y, .int .i64 z], .ce (.int .i64 a), .ce (.int .i64 n)] [] Q) =
    (((a == 88) = true → Q ⟨.agg [.int .i64 n, .int .i64 y, .int .i64 z], false, [], []⟩) ∧ ((a == 88) = false → ((a == 89) = true → Q ⟨.agg [.int .i64 x, .int .i64 n, .int .i64 z], false, [], []⟩) ∧ ((a == 89) = false → Q ⟨.agg [.int .i64 x, .int .i64 y, .int .i64 n], false, [], []⟩))) := by kernel_rfl
def hR0 : Nat → Bool := fun s => Nat.beq s 16
def anR0 : LAnn := ⟨[1, 3, 5, 6, 7, 8, 9, 10, 11, 12, 13, 14, 15, 16], [3, 5, 6, 7, 8, 9, 10, 11, 12, 13, 14, 15], [1000003, 1000005, 1000006, 1000012, 1000014, 1000015], hR0⟩
def LR0 (v : LV) : LR :=
  match v with
  | ([.ce (.sl false [4, 4] l), .ce (.ptr 1000003 0), .ce (.ptr 1000005 0), .ce (.ptr 1000006 0), .ce (.bool t7), .ce (.int .i64 t8), .ce (.int .i64 f), .ce (.int .i64 s), .ce (.int .i64 g), .ce (.ptr 1000012 0), .ce (.bool y0), .ce (.ptr 1000014 0), .ce (.ptr 1000015 0), .ce (.num .i64 i)], [rm, [.int .i64 x, .int .i64 y, .int .i64 z], [.int .i64 r0, .int .i64 r1, .int .i64 r2], [.int .i64 q0, .int .i64 q1, .int .i64 q2], [.int .i64 n0, .int .i64 n1, .int .i64 n2], [.bool h0, .bool h1, .bool h2]]) =>
    .alts (i = 0 ∧ (y0 = false ∧ n0 = 0 ∧ n1 = 0 ∧ n2 = 0 ∧ h0 = false ∧ h1 = false ∧ h2 = false) ∧ l.length ≤ 1000 ∧ ∃ m, rm = cM m)
      [(wE (aLt (mI rm 10) s) 0 (mI rm 3) (fndB 88 l) (fndN 88 l) ≠ 0, .ret, ([.ce (.ptr 1000003 0), .ce (.ptr 1000005 0), .ce (.ptr 1000006 0), .ce (.bool false), .ce (.int .i64 (wE (aLt (mI rm 10) s) 0 (mI rm 3) (fndB 88 l) (fndN 88 l))), .ce (.int .i64 f), .ce (.int .i64 s), .ce (.int .i64 g), .ce (.ptr 1000012 0), .ce (.bool (fndB 88 l)), .ce (.ptr 1000014 0), .ce (.ptr 1000015 0)], [rm, [.int .i64 x, .int .i64 y, .int .i64 z], [.int .i64 0, .int .i64 0, .int .i64 0], [.int .i64 q0, .int .i64 q1, .int .i64 q2], [.int .i64 0, .int .i64 0, .int .i64 0], [.bool (fndB 88 l), .bool false, .bool false]])),
       (wE (aLt (mI rm 10) s) 0 (mI rm 3) (fndB 88 l) (fndN 88 l) = 0 ∧ wE (aLt (mI rm 10) s) 1 (mI rm 3) (fndB 89 l) (fndN 89 l) ≠ 0, .ret, ([.ce (.ptr 1000003 0), .ce (.ptr 1000005 0), .ce (.ptr 1000006 0), .ce (.bool false), .ce (.int .i64 (wE (aLt (mI rm 10) s) 1 (mI rm 3) (fndB 89 l) (fndN 89 l))), .ce (.int .i64 f), .ce (.int .i64 s), .ce (.int .i64 g), .ce (.ptr 1000012 0), .ce (.bool (fndB 88 l || fndB 89 l)), .ce (.ptr 1000014 0), .ce (.ptr 1000015 0)], [rm, [.int .i64 x, .int .i64 y, .int .i64 z], [.int .i64 0, .int .i64 0, .int .i64 0], [.int .i64 q0, .int .i64 q1, .int .i64 q2], [.int .i64 (wN (aLt (mI rm 10) s) 0 (mI rm 3) (fndB 88 l) (fndN 88 l)), .int .i64 0, .int .i64 0], [.bool (fndB 88 l), .bool (fndB 89 l), .bool false]])),
       (wE (aLt (mI rm 10) s) 0 (mI rm 3) (fndB 88 l) (fndN 88 l) = 0 ∧ wE (aLt (mI rm 10) s) 1 (mI rm 3) (fndB 89 l) (fndN 89 l) = 0 ∧ wE (aLt (mI rm 10) s) 2 (mI rm 3) (fndB 90 l) (fndN 90 l) ≠ 0, .ret, ([.ce (.ptr 1000003 0), .ce (.ptr 1000005 0), .ce (.ptr 1000006 0), .ce (.bool false), .ce (.int .i64 (wE (aLt (mI rm 10) s) 2 (mI rm 3) (fndB 90 l) (fndN 90 l))), .ce (.int .i64 f), .ce (.int .i64 s), .ce (.int .i64 g), .ce (.ptr 1000012 0), .ce (.bool (fndB 88 l || (fndB 89 l || fndB 90 l))), .ce (.ptr 1000014 0), .ce (.ptr 1000015 0)], [rm, [.int .i64 x, .int .i64 y, .int .i64 z], [.int .i64 0, .int .i64 0, .int .i64 0], [.int .i64 q0, .int .i64 q1, .int .i64 q2], [.int .i64 (wN (aLt (mI rm 10) s) 0 (mI rm 3) (fndB 88 l) (fndN 88 l)), .int .i64 (wN (aLt (mI rm 10) s) 1 (mI rm 3) (fndB 89 l) (fndN 89 l)), .int .i64 0], [.bool (fndB 88 l), .bool (fndB 89 l), .bool (fndB 90 l)]])),
       (wE (aLt (mI rm 10) s) 0 (mI rm 3) (fndB 88 l) (fndN 88 l) = 0 ∧ wE (aLt (mI rm 10) s) 1 (mI rm 3) (fndB 89 l) (fndN 89 l) = 0 ∧ wE (aLt (mI rm 10) s) 2 (mI rm 3) (fndB 90 l) (fndN 90 l) = 0, .exit 0, ([.ce (.ptr 1000003 0), .ce (.ptr 1000005 0), .ce (.ptr 1000006 0), .ce (.bool t7), .ce (.int .i64 t8), .ce (.int .i64 f), .ce (.int .i64 s), .ce (.int .i64 g), .ce (.ptr 1000012 0), .ce (.bool (fndB 88 l || (fndB 89 l || fndB 90 l))), .ce (.ptr 1000014 0), .ce (.ptr 1000015 0)], [rm, [.int .i64 x, .int .i64 y, .int .i64 z], [.int .i64 r0, .int .i64 r1, .int .i64 r2], [.int .i64 q0, .int .i64 q1, .int .i64 q2], [.int .i64 (wN (aLt (mI rm 10) s) 0 (mI rm 3) (fndB 88 l) (fndN 88 l)), .int .i64 (wN (aLt (mI rm 10) s) 1 (mI rm 3) (fndB 89 l) (fndN 89 l)), .int .i64 (wN (aLt (mI rm 10) s) 2 (mI rm 3) (fndB 90 l) (fndN 90 l))], [.bool (fndB 88 l), .bool (fndB 89 l), .bool (fndB 90 l)]]))]
  | _ => .fail
def anR1 : LAnn := ⟨[3, 5, 6, 7, 8, 9, 10, 11, 12, 13, 14, 15], [3, 5, 6, 7, 8, 9, 10, 11, 12, 13, 14, 15, 99], [1000003, 1000005, 1000006, 1000012, 1000014, 1000015], false⟩
def LR1 (v : LV) : LR :=
  match v with
  | ([.ce (.ptr 1000003 0), .ce (.ptr 1000005 0), .ce (.ptr 1000006 0), .ce (.bool t7), .ce (.int .i64 t8), .ce (.int .i64 f), .ce (.int .i64 s), .ce (.int .i64 g), .ce (.ptr 1000012 0), .ce (.bool y0), .ce (.ptr 1000014 0), .ce (.ptr 1000015 0)], [rm, [.int .i64 x, .int .i64 y, .int .i64 z], [.int .i64 r0, .int .i64 r1, .int .i64 r2], [.int .i64 q0, .int .i64 q1, .int .i64 q2], [.int .i64 n0, .int .i64 n1, .int .i64 n2], [.bool h0, .bool h1, .bool h2]]) => .all ((88 ≤ f ∧ f ≤ 90 ∧ 88 ≤ s ∧ s ≤ 90) ∧ ∃ m, rm = cM m) Bool (fun b => b = (decide (mI rm 10 = 16) && (at3b (f - 88) h0 h1 h2 != at3b (s - 88) h0 h1 h2))) (fun _ => .normal) (fun b => ([.ce (.ptr 1000003 0), .ce (.ptr 1000005 0), .ce (.ptr 1000006 0), .ce (.bool t7), .ce (.int .i64 t8), .ce (.int .i64 f), .ce (.int .i64 s), .ce (.int .i64 g), .ce (.ptr 1000012 0), .ce (.bool y0), .ce (.ptr 1000014 0), .ce (.ptr 1000015 0), .ce (.bool b)], [rm, [.int .i64 x, .int .i64 y, .int .i64 z], [.int .i64 r0, .int .i64 r1, .int .i64 r2], [.int .i64 q0, .int .i64 q1, .int .i64 q2], [.int .i64 n0, .int .i64 n1, .int .i64 n2], [.bool h0, .bool h1, .bool h2]]))
  | _ => .fail
def anR2 : LAnn := ⟨[3, 5, 6, 7, 8, 9, 10, 11, 12, 13, 14, 15], [3, 5, 6, 9, 10, 11, 12, 13, 14, 15, 21], [1000003, 1000005, 1000006, 1000012, 1000014, 1000015], false⟩
def LR2 (v : LV) : LR :=
  match v with
  | ([.ce (.ptr 1000003 0), .ce (.ptr 1000005 0), .ce (.ptr 1000006 0), .ce (.bool t7), .ce (.int .i64 t8), .ce (.int .i64 f), .ce (.int .i64 s), .ce (.int .i64 g), .ce (.ptr 1000012 0), .ce (.bool y0), .ce (.ptr 1000014 0), .ce (.ptr 1000015 0)], [rm, [.int .i64 x, .int .i64 y, .int .i64 z], [.int .i64 r0, .int .i64 r1, .int .i64 r2], [.int .i64 q0, .int .i64 q1, .int .i64 q2], [.int .i64 n0, .int .i64 n1, .int .i64 n2], [.bool h0, .bool h1, .bool h2]]) => .all ((88 ≤ f ∧ f ≤ 90) ∧ ∃ m, rm = cM m) Bool (fun pol => pol = (decide (mI rm 10 = 16) && at3b (f - 88) h0 h1 h2)) (fun _ => .normal) (fun pol => ([.ce (.ptr 1000003 0), .ce (.ptr 1000005 0), .ce (.ptr 1000006 0), .ce (.int .i64 f), .ce (.int .i64 s), .ce (.int .i64 g), .ce (.ptr 1000012 0), .ce (.bool y0), .ce (.ptr 1000014 0), .ce (.ptr 1000015 0), .ce (.bool pol)], [rm, [.int .i64 x, .int .i64 y, .int .i64 z], [.int .i64 r0, .int .i64 r1, .int .i64 r2], [.int .i64 q0, .int .i64 q1, .int .i64 q2], [.int .i64 n0, .int .i64 n1, .int .i64 n2], [.bool h0, .bool h1, .bool h2]]))
  | _ => .fail
def hR3 : Nat → Bool := fun s => Nat.beq s 22
def anR3 : LAnn := ⟨[3, 5, 6, 9, 10, 11, 12, 13, 14, 15, 21, 22], [3, 5, 6, 9, 10, 12, 13, 14, 21], [1000003, 1000005, 1000006, 1000012, 1000014, 1000015], hR3⟩
def LR3 (v : LV) : LR :=
  match v with
  | ([.ce (.ptr 1000003 0), .ce (.ptr 1000005 0), .ce (.ptr 1000006 0), .ce (.int .i64 f), .ce (.int .i64 s), .ce (.int .i64 g), .ce (.ptr 1000012 0), .ce (.bool y0), .ce (.ptr 1000014 0), .ce (.ptr 1000015 0), .ce (.bool pol), .ce (.num .i64 i)], [rm, [.int .i64 x, .int .i64 y, .int .i64 z], [.int .i64 r0, .int .i64 r1, .int .i64 r2], [.int .i64 q0, .int .i64 q1, .int .i64 q2], [.int .i64 n0, .int .i64 n1, .int .i64 n2], [.bool h0, .bool h1, .bool h2]]) =>
    .all (i = 0 ∧ (∃ m, rm = cM m) ∧ B3 1099511627776 x y z ∧ (actR h0 pol 0 g = true → -1099511627776 ≤ n0 ∧ n0 ≤ 1099511627776) ∧ (actR h1 pol 1 g = true → -1099511627776 ≤ n1 ∧ n1 ≤ 1099511627776) ∧ (actR h2 pol 2 g = true → -1099511627776 ≤ n2 ∧ n2 ≤ 1099511627776)) ((Int × Int × Int) × (Int × Int × Int))
      (fun k => k.1.1 = (nvR (mI rm 2) (actR h0 pol 0 g) x n0) ∧ k.1.2.1 = (nvR (mI rm 2) (actR h1 pol 1 g) y n1) ∧ k.1.2.2 = (nvR (mI rm 2) (actR h2 pol 2 g) z n2) ∧ k.2.1 = (qvR (mI rm 2) (actR h0 pol 0 g) x n0 q0) ∧ k.2.2.1 = (qvR (mI rm 2) (actR h1 pol 1 g) y n1 q1) ∧ k.2.2.2 = (qvR (mI rm 2) (actR h2 pol 2 g) z n2 q2)) (fun _ => .exit 2) (fun k => ([.ce (.ptr 1000003 0), .ce (.ptr 1000005 0), .ce (.ptr 1000006 0), .ce (.int .i64 f), .ce (.int .i64 s), .ce (.ptr 1000012 0), .ce (.bool y0), .ce (.ptr 1000014 0), .ce (.bool pol)], [rm, [.int .i64 x, .int .i64 y, .int .i64 z], [.int .i64 r0, .int .i64 r1, .int .i64 r2], [.int .i64 k.2.1, .int .i64 k.2.2.1, .int .i64 k.2.2.2], [.int .i64 k.1.1, .int .i64 k.1.2.1, .int .i64 k.1.2.2], [.bool h0, .bool h1, .bool h2]]))
  | _ => .fail
def anR4 : LAnn := ⟨[3, 5, 6, 9, 10, 12, 13, 14, 147], [6, 12, 13], [1000003, 1000005, 1000006, 1000012, 1000014], false⟩
def LR4 (v : LV) : LR :=
  match v with
  | ([.ce (.ptr 1000003 0), .ce (.ptr 1000005 0), .ce (.ptr 1000006 0), .ce (.int .i64 f), .ce (.int .i64 s), .ce (.ptr 1000012 0), .ce (.bool y0), .ce (.ptr 1000014 0), .ce (.bool c)], [rm, [.int .i64 x, .int .i64 y, .int .i64 z], [.int .i64 r0, .int .i64 r1, .int .i64 r2], [.int .i64 q0, .int .i64 q1, .int .i64 q2], [.int .i64 n0, .int .i64 n1, .int .i64 n2]]) => .all ((88 ≤ f ∧ f ≤ 90 ∧ 88 ≤ s ∧ s ≤ 90) ∧ B3 1099511627776 x y z ∧ ∃ m, rm = cM m) (Int × Int × Int) (fun k => (c = false → k.1 = q0 ∧ k.2.1 = q1 ∧ k.2.2 = q2) ∧ (c = true →
      k.1 = ptX s (adR (mI rm 2) (at3 (s - 88) x y z) (rtW (at3 (f - 88) n0 n1 n2) 0 (at3 (s - 88) n0 n1 n2))) (ptX f (adR (mI rm 2) (at3 (f - 88) x y z) (rtU (at3 (f - 88) n0 n1 n2) 0 (at3 (s - 88) n0 n1 n2))) q0) ∧ k.2.1 = ptY s (adR (mI rm 2) (at3 (s - 88) x y z) (rtW (at3 (f - 88) n0 n1 n2) 0 (at3 (s - 88) n0 n1 n2))) (ptY f (adR (mI rm 2) (at3 (f - 88) x y z) (rtU (at3 (f - 88) n0 n1 n2) 0 (at3 (s - 88) n0 n1 n2))) q1) ∧ k.2.2 = ptZ s (adR (mI rm 2) (at3 (s - 88) x y z) (rtW (at3 (f - 88) n0 n1 n2) 0 (at3 (s - 88) n0 n1 n2))) (ptZ f (adR (mI rm 2) (at3 (f - 88) x y z) (rtU (at3 (f - 88) n0 n1 n2) 0 (at3 (s - 88) n0 n1 n2))) q2))) (fun _ => .normal)
      (fun k => ([.ce (.ptr 1000006 0), .ce (.ptr 1000012 0), .ce (.bool y0)], [rm, [.int .i64 x, .int .i64 y, .int .i64 z], [.int .i64 r0, .int .i64 r1, .int .i64 r2], [.int .i64 k.1, .int .i64 k.2.1, .int .i64 k.2.2], [.int .i64 n0, .int .i64 n1, .int .i64 n2]]))
  | _ => .fail
def tabTgR : List (FuncId × HL.Spec) := [(50, SWn), (32, SAxs), (51, SFind), (52, SLen), (29, SGet), (30, SPut), (53, SRot)]
noncomputable def CTgR : Ctx := ⟨Tryd.prog, gam tabTgR, Tryd.f18.ntmps, [(8, anR0, LR0), (3000019, anR1, LR1), (3000021, anR2, LR2), (23, anR3, LR3), (2000030, anR4, LR4)], [spl 19 9 7 0, spl 19 10 7 0, spl 21 9 7 0, spl 30 9 7 0, spl 30 10 7 0]⟩
theorem vbR00 (l : List (List Int)) (m : M) (t7 y0 h0 h1 h2 : Bool) (t8 f s g x y z r0 r1 r2 n0 n1 n2 q0 q1 q2 : Int) (K : HEx → LV → Prop) : (nbodyT true CTgR anR0 (nthLoop Tryd.f18 0) (([.ce (.sl false [4, 4] l), .ce (.ptr 1000003 0), .ce (.ptr 1000005 0), .ce (.ptr 1000006 0), .ce (.bool t7), .ce (.int .i64 t8), .ce (.int .i64 f), .ce (.int .i64 s), .ce (.int .i64 g), .ce (.ptr 1000012 0), .ce (.bool y0), .ce (.ptr 1000014 0), .ce (.ptr 1000015 0), .ce (.num .i64 0)], [[.int .i64 m.m0, .int .i64 m.m1, .int .i64 m.m2, .int .i64 m.m3, .int .i64 m.m4, .int .i64 m.m5, .int .i64 m.m6, .int .i64 m.m7, .int .i64 m.m8, .int .i64 m.m9, .int .i64 m.m10, .int .i64 m.m11, .int .i64 m.m12, .bool m.m13, .bool m.m14, .int .i64 m.m15, .int .i64 m.m16, .int .i64 m.m17, .int .i64 m.m18, .int .i64 m.m19, .int .i64 m.m20, .int .i64 m.m21], [.int .i64 x, .int .i64 y, .int .i64 z], [.int .i64 r0, .int .i64 r1, .int .i64 r2], [.int .i64 q0, .int .i64 q1, .int .i64 q2], [.int .i64 n0, .int .i64 n1, .int .i64 n2], [.bool h0, .bool h1, .bool h2]])) K) =
    (List.length l ≤ (1000 : Nat) ∧ ∀ (x1 : Int), x1 = fndN (88 : Int) l → ∀ (x2 : Bool), x2 = fndB (88 : Int) l → (y0 = true → ((!x2) = true → K .normal ([.ce (.sl false [4, 4] l), .ce (.ptr 1000003 0), .ce (.ptr 1000005 0), .ce (.ptr 1000006 0), .ce (.bool t7), .ce (.int .i64 t8), .ce (.int .i64 f), .ce (.int .i64 s), .ce (.int .i64 g), .ce (.ptr 1000012 0), .ce (.bool true), .ce (.ptr 1000014 0), .ce (.ptr 1000015 0), .ce (.num .i64 (1 : Int))], [(cM m), [.int .i64 x, .int .i64 y, .int .i64 z], [.int .i64 r0, .int .i64 r1, .int .i64 r2], [.int .i64 q0, .int .i64 q1, .int .i64 q2], [.int .i64 n0, .int .i64 n1, .int .i64 n2], [.bool x2, .bool h1, .bool h2]])) ∧
    ((!x2) = false → ((m.m10 == 16) = true → (((88 : Int) == s) = true → K .normal ([.ce (.sl false [4, 4] l), .ce (.ptr 1000003 0), .ce (.ptr 1000005 0), .ce (.ptr 1000006 0), .ce (.bool t7), .ce (.int .i64 t8), .ce (.int .i64 f), .ce (.int .i64 s), .ce (.int .i64 g), .ce (.ptr 1000012 0), .ce (.bool true), .ce (.ptr 1000014 0), .ce (.ptr 1000015 0), .ce (.num .i64 (1 : Int))], [(cM m), [.int .i64 x, .int .i64 y, .int .i64 z], [.int .i64 r0, .int .i64 r1, .int .i64 r2], [.int .i64 q0, .int .i64 q1, .int .i64 q2], [.int .i64 x1, .int .i64 n1, .int .i64 n2], [.bool x2, .bool h1, .bool h2]])) ∧
    (((88 : Int) == s) = false → True ∧ ∀ (x3 : Int), x3 = lnN x1 m.m3 → ∀ (x4 : Int), x4 = lnE x1 m.m3 → ((x4 != 0) = true → K .ret ([.ce (.ptr 1000003 0), .ce (.ptr 1000005 0), .ce (.ptr 1000006 0), .ce (.bool false), .ce (.int .i64 x4), .ce (.int .i64 f), .ce (.int .i64 s), .ce (.int .i64 g), .ce (.ptr 1000012 0), .ce (.bool true), .ce (.ptr 1000014 0), .ce (.ptr 1000015 0)], [(cM m), [.int .i64 x, .int .i64 y, .int .i64 z], [.int .i64 0, .int .i64 0, .int .i64 0], [.int .i64 q0, .int .i64 q1, .int .i64 q2], [.int .i64 n0, .int .i64 n1, .int .i64 n2], [.bool x2, .bool h1, .bool h2]])) ∧
    ((x4 != 0) = false → K .normal ([.ce (.sl false [4, 4] l), .ce (.ptr 1000003 0), .ce (.ptr 1000005 0), .ce (.ptr 1000006 0), .ce (.bool t7), .ce (.int .i64 t8), .ce (.int .i64 f), .ce (.int .i64 s), .ce (.int .i64 g), .ce (.ptr 1000012 0), .ce (.bool true), .ce (.ptr 1000014 0), .ce (.ptr 1000015 0), .ce (.num .i64 (1 : Int))], [(cM m), [.int .i64 x, .int .i64 y, .int .i64 z], [.int .i64 r0, .int .i64 r1, .int .i64 r2], [.int .i64 q0, .int .i64 q1, .int .i64 q2], [.int .i64 x3, .int .i64 n1, .int .i64 n2], [.bool x2, .bool h1, .bool h2]])))) ∧ ((m.m10 == 16) = false →
    True ∧ ∀ (x5 : Int), x5 = lnN x1 m.m3 → ∀ (x6 : Int), x6 = lnE x1 m.m3 → ((x6 != 0) = true → K .ret ([.ce (.ptr 1000003 0), .ce (.ptr 1000005 0), .ce (.ptr 1000006 0), .ce (.bool false), .ce (.int .i64 x6), .ce (.int .i64 f), .ce (.int .i64 s), .ce (.int .i64 g), .ce (.ptr 1000012 0), .ce (.bool true), .ce (.ptr 1000014 0), .ce (.ptr 1000015 0)], [(cM m), [.int .i64 x, .int .i64 y, .int .i64 z], [.int .i64 0, .int .i64 0, .int .i64 0], [.int .i64 q0, .int .i64 q1, .int .i64 q2], [.int .i64 n0, .int .i64 n1, .int .i64 n2], [.bool x2, .bool h1, .bool h2]])) ∧
    ((x6 != 0) = false → K .normal ([.ce (.sl false [4, 4] l), .ce (.ptr 1000003 0), .ce (.ptr 1000005 0), .ce (.ptr 1000006 0), .ce (.bool t7), .ce (.int .i64 t8), .ce (.int .i64 f), .ce (.int .i64 s), .ce (.int .i64 g), .ce (.ptr 1000012 0), .ce (.bool true), .ce (.ptr 1000014 0), .ce (.ptr 1000015 0), .ce (.num .i64 (1 : Int))], [(cM m), [.int .i64 x, .int .i64 y, .int .i64 z], [.int .i64 r0, .int .i64 r1, .int .i64 r2], [.int .i64 q0, .int .i64 q1, .int .i64 q2], [.int .i64 x5, .int .i64 n1, .int .i64 n2], [.bool x2, .bool h1, .bool h2]]))))) ∧ (y0 = false →
    ((!x2) = true → K .normal ([.ce (.sl false [4, 4] l), .ce (.ptr 1000003 0), .ce (.ptr 1000005 0), .ce (.ptr 1000006 0), .ce (.bool t7), .ce (.int .i64 t8), .ce (.int .i64 f), .ce (.int .i64 s), .ce (.int .i64 g), .ce (.ptr 1000012 0), .ce (.bool x2), .ce (.ptr 1000014 0), .ce (.ptr 1000015 0), .ce (.num .i64 (1 : Int))], [(cM m), [.int .i64 x, .int .i64 y, .int .i64 z], [.int .i64 r0, .int .i64 r1, .int .i64 r2], [.int .i64 q0, .int .i64 q1, .int .i64 q2], [.int .i64 n0, .int .i64 n1, .int .i64 n2], [.bool x2, .bool h1, .bool h2]])) ∧ ((!x2) = false →
    ((m.m10 == 16) = true → (((88 : Int) == s) = true → K .normal ([.ce (.sl false [4, 4] l), .ce (.ptr 1000003 0), .ce (.ptr 1000005 0), .ce (.ptr 1000006 0), .ce (.bool t7), .ce (.int .i64 t8), .ce (.int .i64 f), .ce (.int .i64 s), .ce (.int .i64 g), .ce (.ptr 1000012 0), .ce (.bool x2), .ce (.ptr 1000014 0), .ce (.ptr 1000015 0), .ce (.num .i64 (1 : Int))], [(cM m), [.int .i64 x, .int .i64 y, .int .i64 z], [.int .i64 r0, .int .i64 r1, .int .i64 r2], [.int .i64 q0, .int .i64 q1, .int .i64 q2], [.int .i64 x1, .int .i64 n1, .int .i64 n2], [.bool x2, .bool h1, .bool h2]])) ∧
    (((88 : Int) == s) = false → True ∧ ∀ (x7 : Int), x7 = lnN x1 m.m3 → ∀ (x8 : Int), x8 = lnE x1 m.m3 → ((x8 != 0) = true → K .ret ([.ce (.ptr 1000003 0), .ce (.ptr 1000005 0), .ce (.ptr 1000006 0), .ce (.bool false), .ce (.int .i64 x8), .ce (.int .i64 f), .ce (.int .i64 s), .ce (.int .i64 g), .ce (.ptr 1000012 0), .ce (.bool x2), .ce (.ptr 1000014 0), .ce (.ptr 1000015 0)], [(cM m), [.int .i64 x, .int .i64 y, .int .i64 z], [.int .i64 0, .int .i64 0, .int .i64 0], [.int .i64 q0, .int .i64 q1, .int .i64 q2], [.int .i64 n0, .int .i64 n1, .int .i64 n2], [.bool x2, .bool h1, .bool h2]])) ∧
    ((x8 != 0) = false → K .normal ([.ce (.sl false [4, 4] l), .ce (.ptr 1000003 0), .ce (.ptr 1000005 0), .ce (.ptr 1000006 0), .ce (.bool t7), .ce (.int .i64 t8), .ce (.int .i64 f), .ce (.int .i64 s), .ce (.int .i64 g), .ce (.ptr 1000012 0), .ce (.bool x2), .ce (.ptr 1000014 0), .ce (.ptr 1000015 0), .ce (.num .i64 (1 : Int))], [(cM m), [.int .i64 x, .int .i64 y, .int .i64 z], [.int .i64 r0, .int .i64 r1, .int .i64 r2], [.int .i64 q0, .int .i64 q1, .int .i64 q2], [.int .i64 x7, .int .i64 n1, .int .i64 n2], [.bool x2, .bool h1, .bool h2]])))) ∧ ((m.m10 == 16) = false →
    True ∧ ∀ (x9 : Int), x9 = lnN x1 m.m3 → ∀ (x10 : Int), x10 = lnE x1 m.m3 → ((x10 != 0) = true → K .ret ([.ce (.ptr 1000003 0), .ce (.ptr 1000005 0), .ce (.ptr 1000006 0), .ce (.bool false), .ce (.int .i64 x10), .ce (.int .i64 f), .ce (.int .i64 s), .ce (.int .i64 g), .ce (.ptr 1000012 0), .ce (.bool x2), .ce (.ptr 1000014 0), .ce (.ptr 1000015 0)], [(cM m), [.int .i64 x, .int .i64 y, .int .i64 z], [.int .i64 0, .int .i64 0, .int .i64 0], [.int .i64 q0, .int .i64 q1, .int .i64 q2], [.int .i64 n0, .int .i64 n1, .int .i64 n2], [.bool x2, .bool h1, .bool h2]])) ∧
    ((x10 != 0) = false → K .normal ([.ce (.sl false [4, 4] l), .ce (.ptr 1000003 0), .ce (.ptr 1000005 0), .ce (.ptr 1000006 0), .ce (.bool t7), .ce (.int .i64 t8), .ce (.int .i64 f), .ce (.int .i64 s), .ce (.int .i64 g), .ce (.ptr 1000012 0), .ce (.bool x2), .ce (.ptr 1000014 0), .ce (.ptr 1000015 0), .ce (.num .i64 (1 : Int))], [(cM m), [.int .i64 x, .int .i64 y, .int .i64 z], [.int .i64 r0, .int .i64 r1, .int .i64 r2], [.int .i64 q0, .int .i64 q1, .int .i64 q2], [.int .i64 x9, .int .i64 n1, .int .i64 n2], [.bool x2, .bool h1, .bool h2]])))))) := by kernel_rfl
theorem vbR01 (l : List (List Int)) (m : M) (t7 y0 h0 h1 h2 : Bool) (t8 f s g x y z r0 r1 r2 n0 n1 n2 q0 q1 q2 : Int) (K : HEx → LV → Prop) : (nbodyT true CTgR anR0 (nthLoop Tryd.f18 0) (([.ce (.sl false [4, 4] l), .ce (.ptr 1000003 0), .ce (.ptr 1000005 0), .ce (.ptr 1000006 0), .ce (.bool t7), .ce (.int .i64 t8), .ce (.int .i64 f), .ce (.int .i64 s), .ce (.int .i64 g), .ce (.ptr 1000012 0), .ce (.bool y0), .ce (.ptr 1000014 0), .ce (.ptr 1000015 0), .ce (.num .i64 1)], [[.int .i64 m.m0, .int .i64 m.m1, .int .i64 m.m2, .int .i64 m.m3, .int .i64 m.m4, .int .i64 m.m5, .int .i64 m.m6, .int .i64 m.m7, .int .i64 m.m8, .int .i64 m.m9, .int .i64 m.m10, .int .i64 m.m11, .int .i64 m.m12, .bool m.m13, .bool m.m14, .int .i64 m.m15, .int .i64 m.m16, .int .i64 m.m17, .int .i64 m.m18, .int .i64 m.m19, .int .i64 m.m20, .int .i64 m.m21], [.int .i64 x, .int .i64 y, .int .i64 z], [.int .i64 r0, .int .i64 r1, .int .i64 r2], [.int .i64 q0, .int .i64 q1, .int .i64 q2], [.int .i64 n0, .int .i64 n1, .int .i64 n2], [.bool h0, .bool h1, .bool h2]])) K) =
    (List.length l ≤ (1000 : Nat) ∧ ∀ (x1 : Int), x1 = fndN (89 : Int) l → ∀ (x2 : Bool), x2 = fndB (89 : Int) l → (y0 = true → ((!x2) = true → K .normal ([.ce (.sl false [4, 4] l), .ce (.ptr 1000003 0), .ce (.ptr 1000005 0), .ce (.ptr 1000006 0), .ce (.bool t7), .ce (.int .i64 t8), .ce (.int .i64 f), .ce (.int .i64 s), .ce (.int .i64 g), .ce (.ptr 1000012 0), .ce (.bool true), .ce (.ptr 1000014 0), .ce (.ptr 1000015 0), .ce (.num .i64 (2 : Int))], [(cM m), [.int .i64 x, .int .i64 y, .int .i64 z], [.int .i64 r0, .int .i64 r1, .int .i64 r2], [.int .i64 q0, .int .i64 q1, .int .i64 q2], [.int .i64 n0, .int .i64 n1, .int .i64 n2], [.bool h0, .bool x2, .bool h2]])) ∧
    ((!x2) = false → ((m.m10 == 16) = true → (((89 : Int) == s) = true → K .normal ([.ce (.sl false [4, 4] l), .ce (.ptr 1000003 0), .ce (.ptr 1000005 0), .ce (.ptr 1000006 0), .ce (.bool t7), .ce (.int .i64 t8), .ce (.int .i64 f), .ce (.int .i64 s), .ce (.int .i64 g), .ce (.ptr 1000012 0), .ce (.bool true), .ce (.ptr 1000014 0), .ce (.ptr 1000015 0), .ce (.num .i64 (2 : Int))], [(cM m), [.int .i64 x, .int .i64 y, .int .i64 z], [.int .i64 r0, .int .i64 r1, .int .i64 r2], [.int .i64 q0, .int .i64 q1, .int .i64 q2], [.int .i64 n0, .int .i64 x1, .int .i64 n2], [.bool h0, .bool x2, .bool h2]])) ∧
    (((89 : Int) == s) = false → True ∧ ∀ (x3 : Int), x3 = lnN x1 m.m3 → ∀ (x4 : Int), x4 = lnE x1 m.m3 → ((x4 != 0) = true → K .ret ([.ce (.ptr 1000003 0), .ce (.ptr 1000005 0), .ce (.ptr 1000006 0), .ce (.bool false), .ce (.int .i64 x4), .ce (.int .i64 f), .ce (.int .i64 s), .ce (.int .i64 g), .ce (.ptr 1000012 0), .ce (.bool true), .ce (.ptr 1000014 0), .ce (.ptr 1000015 0)], [(cM m), [.int .i64 x, .int .i64 y, .int .i64 z], [.int .i64 0, .int .i64 0, .int .i64 0], [.int .i64 q0, .int .i64 q1, .int .i64 q2], [.int .i64 n0, .int .i64 n1, .int .i64 n2], [.bool h0, .bool x2, .bool h2]])) ∧
    ((x4 != 0) = false → K .normal ([.ce (.sl false [4, 4] l), .ce (.ptr 1000003 0), .ce (.ptr 1000005 0), .ce (.ptr 1000006 0), .ce (.bool t7), .ce (.int .i64 t8), .ce (.int .i64 f), .ce (.int .i64 s), .ce (.int .i64 g), .ce (.ptr 1000012 0), .ce (.bool true), .ce (.ptr 1000014 0), .ce (.ptr 1000015 0), .ce (.num .i64 (2 : Int))], [(cM m), [.int .i64 x, .int .i64 y, .int .i64 z], [.int .i64 r0, .int .i64 r1, .int .i64 r2], [.int .i64 q0, .int .i64 q1, .int .i64 q2], [.int .i64 n0, .int .i64 x3, .int .i64 n2], [.bool h0, .bool x2, .bool h2]])))) ∧ ((m.m10 == 16) = false →
    True ∧ ∀ (x5 : Int), x5 = lnN x1 m.m3 → ∀ (x6 : Int), x6 = lnE x1 m.m3 → ((x6 != 0) = true → K .ret ([.ce (.ptr 1000003 0), .ce (.ptr 1000005 0), .ce (.ptr 1000006 0), .ce (.bool false), .ce (.int .i64 x6), .ce (.int .i64 f), .ce (.int .i64 s), .ce (.int .i64 g), .ce (.ptr 1000012 0), .ce (.bool true), .ce (.ptr 1000014 0), .ce (.ptr 1000015 0)], [(cM m), [.int .i64 x, .int .i64 y, .int .i64 z], [.int .i64 0, .int .i64 0, .int .i64 0], [.int .i64 q0, .int .i64 q1, .int .i64 q2], [.int .i64 n0, .int .i64 n1, .int .i64 n2], [.bool h0, .bool x2, .bool h2]])) ∧
    ((x6 != 0) = false → K .normal ([.ce (.sl false [4, 4] l), .ce (.ptr 1000003 0), .ce (.ptr 1000005 0), .ce (.ptr 1000006 0), .ce (.bool t7), .ce (.int .i64 t8), .ce (.int .i64 f), .ce (.int .i64 s), .ce (.int .i64 g), .ce (.ptr 1000012 0), .ce (.bool true), .ce (.ptr 1000014 0), .ce (.ptr 1000015 0), .ce (.num .i64 (2 : Int))], [(cM m), [.int .i64 x, .int .i64 y, .int .i64 z], [.int .i64 r0, .int .i64 r1, .int .i64 r2], [.int .i64 q0, .int .i64 q1, .int .i64 q2], [.int .i64 n0, .int .i64 x5, .int .i64 n2], [.bool h0, .bool x2, .bool h2]]))))) ∧ (y0 = false →
    ((!x2) = true → K .normal ([.ce (.sl false [4, 4] l), .ce (.ptr 1000003 0), .ce (.ptr 1000005 0), .ce (.ptr 1000006 0), .ce (.bool t7), .ce (.int .i64 t8), .ce (.int .i64 f), .ce (.int .i64 s), .ce (.int .i64 g), .ce (.ptr 1000012 0), .ce (.bool x2), .ce (.ptr 1000014 0), .ce (.ptr 1000015 0), .ce (.num .i64 (2 : Int))], [(cM m), [.int .i64 x, .int .i64 y, .int .i64 z], [.int .i64 r0, .int .i64 r1, .int .i64 r2], [.int .i64 q0, .int .i64 q1, .int .i64 q2], [.int .i64 n0, .int .i64 n1, .int .i64 n2], [.bool h0, .bool x2, .bool h2]])) ∧ ((!x2) = false →
    ((m.m10 == 16) = true → (((89 : Int) == s) = true → K .normal ([.ce (.sl false [4, 4] l), .ce (.ptr 1000003 0), .ce (.ptr 1000005 0), .ce (.ptr 1000006 0), .ce (.bool t7), .ce (.int .i64 t8), .ce (.int .i64 f), .ce (.int .i64 s), .ce (.int .i64 g), .ce (.ptr 1000012 0), .ce (.bool x2), .ce (.ptr 1000014 0), .ce (.ptr 1000015 0), .ce (.num .i64 (2 : Int))], [(cM m), [.int .i64 x, .int .i64 y, .int .i64 z], [.int .i64 r0, .int .i64 r1, .int .i64 r2], [.int .i64 q0, .int .i64 q1, .int .i64 q2], [.int .i64 n0, .int .i64 x1, .int .i64 n2], [.bool h0, .bool x2, .bool h2]])) ∧
    (((89 : Int) == s) = false → True ∧ ∀ (x7 : Int), x7 = lnN x1 m.m3 → ∀ (x8 : Int), x8 = lnE x1 m.m3 → ((x8 != 0) = true → K .ret ([.ce (.ptr 1000003 0), .ce (.ptr 1000005 0), .ce (.ptr 1000006 0), .ce (.bool false), .ce (.int .i64 x8), .ce (.int .i64 f), .ce (.int .i64 s), .ce (.int .i64 g), .ce (.ptr 1000012 0), .ce (.bool x2), .ce (.ptr 1000014 0), .ce (.ptr 1000015 0)], [(cM m), [.int .i64 x, .int .i64 y, .int .i64 z], [.int .i64 0, .int .i64 0, .int .i64 0], [.int .i64 q0, .int .i64 q1, .int .i64 q2], [.int .i64 n0, .int .i64 n1, .int .i64 n2], [.bool h0, .bool x2, .bool h2]])) ∧
    ((x8 != 0) = false → K .normal ([.ce (.sl false [4, 4] l), .ce (.ptr 1000003 0), .ce (.ptr 1000005 0), .ce (.ptr 1000006 0), .ce (.bool t7), .ce (.int .i64 t8), .ce (.int .i64 f), .ce (.int .i64 s), .ce (.int .i64 g), .ce (.ptr 1000012 0), .ce (.bool x2), .ce (.ptr 1000014 0), .ce (.ptr 1000015 0), .ce (.num .i64 (2 : Int))], [(cM m), [.int .i64 x, .int .i64 y, .int .i64 z], [.int .i64 r0, .int .i64 r1, .int .i64 r2], [.int .i64 q0, .int .i64 q1, .int .i64 q2], [.int .i64 n0, .int .i64 x7, .int .i64 n2], [.bool h0, .bool x2, .bool h2]])))) ∧ ((m.m10 == 16) = false →
    True ∧ ∀ (x9 : Int), x9 = lnN x1 m.m3 → ∀ (x10 : Int), x10 = lnE x1 m.m3 → ((x10 != 0) = true → K .ret ([.ce (.ptr 1000003 0), .ce (.ptr 1000005 0), .ce (.ptr 1000006 0), .ce (.bool false), .ce (.int .i64 x10), .ce (.int .i64 f), .ce (.int .i64 s), .ce (.int .i64 g), .ce (.ptr 1000012 0), .ce (.bool x2), .ce (.ptr 1000014 0), .ce (.ptr 1000015 0)], [(cM m), [.int .i64 x, .int .i64 y, .int .i64 z], [.int .i64 0, .int .i64 0, .int .i64 0], [.int .i64 q0, .int .i64 q1, .int .i64 q2], [.int .i64 n0, .int .i64 n1, .int .i64 n2], [.bool h0, .bool x2, .bool h2]])) ∧
    ((x10 != 0) = false → K .normal ([.ce (.sl false [4, 4] l), .ce (.ptr 1000003 0), .ce (.ptr 1000005 0), .ce (.ptr 1000006 0), .ce (.bool t7), .ce (.int .i64 t8), .ce (.int .i64 f), .ce (.int .i64 s), .ce (.int .i64 g), .ce (.ptr 1000012 0), .ce (.bool x2), .ce (.ptr 1000014 0), .ce (.ptr 1000015 0), .ce (.num .i64 (2 : Int))], [(cM m), [.int .i64 x, .int .i64 y, .int .i64 z], [.int .i64 r0, .int .i64 r1, .int .i64 r2], [.int .i64 q0, .int .i64 q1, .int .i64 q2], [.int .i64 n0, .int .i64 x9, .int .i64 n2], [.bool h0, .bool x2, .bool h2]])))))) := by kernel_rfl
theorem vbR02 (l : List (List Int)) (m : M) (t7 y0 h0 h1 h2 : Bool) (t8 f s g x y z r0 r1 r2 n0 n1 n2 q0 q1 q2 : Int) (K : HEx → LV → Prop) : (nbodyT true CTgR anR0 (nthLoop Tryd.f18 0) (([.ce (.sl false [4, 4] l), .ce (.ptr 1000003 0), .ce (.ptr 1000005 0), .ce (.ptr 1000006 0), .ce (.bool t7), .ce (.int .i64 t8), .ce (.int .i64 f), .ce (.int .i64 s), .ce (.int .i64 g), .ce (.ptr 1000012 0), .ce (.bool y0), .ce (.ptr 1000014 0), .ce (.ptr 1000015 0), .ce (.num .i64 2)], [[.int .i64 m.m0, .int .i64 m.m1, .int .i64 m.m2, .int .i64 m.m3, .int .i64 m.m4, .int .i64 m.m5, .int .i64 m.m6, .int .i64 m.m7, .int .i64 m.m8, .int .i64 m.m9, .int .i64 m.m10, .int .i64 m.m11, .int .i64 m.m12, .bool m.m13, .bool m.m14, .int .i64 m.m15, .int .i64 m.m16, .int .i64 m.m17, .int .i64 m.m18, .int .i64 m.m19, .int .i64 m.m20, .int .i64 m.m21], [.int .i64 x, .int .i64 y, .int .i64 z], [.int .i64 r0, .int .i64 r1, .int .i64 r2], [.int .i64 q0, .int .i64 q1, .int .i64 q2], [.int .i64 n0, .int .i64 n1, .int .i64 n2], [.bool h0, .bool h1, .bool h2]])) K) =
    (List.length l ≤ (1000 : Nat) ∧ ∀ (x1 : Int), x1 = fndN (90 : Int) l → ∀ (x2 : Bool), x2 = fndB (90 : Int) l → (y0 = true → ((!x2) = true → K .normal ([.ce (.sl false [4, 4] l), .ce (.ptr 1000003 0), .ce (.ptr 1000005 0), .ce (.ptr 1000006 0), .ce (.bool t7), .ce (.int .i64 t8), .ce (.int .i64 f), .ce (.int .i64 s), .ce (.int .i64 g), .ce (.ptr 1000012 0), .ce (.bool true), .ce (.ptr 1000014 0), .ce (.ptr 1000015 0), .ce (.num .i64 (3 : Int))], [(cM m), [.int .i64 x, .int .i64 y, .int .i64 z], [.int .i64 r0, .int .i64 r1, .int .i64 r2], [.int .i64 q0, .int .i64 q1, .int .i64 q2], [.int .i64 n0, .int .i64 n1, .int .i64 n2], [.bool h0, .bool h1, .bool x2]])) ∧
    ((!x2) = false → ((m.m10 == 16) = true → (((90 : Int) == s) = true → K .normal ([.ce (.sl false [4, 4] l), .ce (.ptr 1000003 0), .ce (.ptr 1000005 0), .ce (.ptr 1000006 0), .ce (.bool t7), .ce (.int .i64 t8), .ce (.int .i64 f), .ce (.int .i64 s), .ce (.int .i64 g), .ce (.ptr 1000012 0), .ce (.bool true), .ce (.ptr 1000014 0), .ce (.ptr 1000015 0), .ce (.num .i64 (3 : Int))], [(cM m), [.int .i64 x, .int .i64 y, .int .i64 z], [.int .i64 r0, .int .i64 r1, .int .i64 r2], [.int .i64 q0, .int .i64 q1, .int .i64 q2], [.int .i64 n0, .int .i64 n1, .int .i64 x1], [.bool h0, .bool h1, .bool x2]])) ∧
    (((90 : Int) == s) = false → True ∧ ∀ (x3 : Int), x3 = lnN x1 m.m3 → ∀ (x4 : Int), x4 = lnE x1 m.m3 → ((x4 != 0) = true → K .ret ([.ce (.ptr 1000003 0), .ce (.ptr 1000005 0), .ce (.ptr 1000006 0), .ce (.bool false), .ce (.int .i64 x4), .ce (.int .i64 f), .ce (.int .i64 s), .ce (.int .i64 g), .ce (.ptr 1000012 0), .ce (.bool true), .ce (.ptr 1000014 0), .ce (.ptr 1000015 0)], [(cM m), [.int .i64 x, .int .i64 y, .int .i64 z], [.int .i64 0, .int .i64 0, .int .i64 0], [.int .i64 q0, .int .i64 q1, .int .i64 q2], [.int .i64 n0, .int .i64 n1, .int .i64 n2], [.bool h0, .bool h1, .bool x2]])) ∧
    ((x4 != 0) = false → K .normal ([.ce (.sl false [4, 4] l), .ce (.ptr 1000003 0), .ce (.ptr 1000005 0), .ce (.ptr 1000006 0), .ce (.bool t7), .ce (.int .i64 t8), .ce (.int .i64 f), .ce (.int .i64 s), .ce (.int .i64 g), .ce (.ptr 1000012 0), .ce (.bool true), .ce (.ptr 1000014 0), .ce (.ptr 1000015 0), .ce (.num .i64 (3 : Int))], [(cM m), [.int .i64 x, .int .i64 y, .int .i64 z], [.int .i64 r0, .int .i64 r1, .int .i64 r2], [.int .i64 q0, .int .i64 q1, .int .i64 q2], [.int .i64 n0, .int .i64 n1, .int .i64 x3], [.bool h0, .bool h1, .bool x2]])))) ∧ ((m.m10 == 16) = false →
    True ∧ ∀ (x5 : Int), x5 = lnN x1 m.m3 → ∀ (x6 : Int), x6 = lnE x1 m.m3 → ((x6 != 0) = true → K .ret ([.ce (.ptr 1000003 0), .ce (.ptr 1000005 0), .ce (.ptr 1000006 0), .ce (.bool false), .ce (.int .i64 x6), .ce (.int .i64 f), .ce (.int .i64 s), .ce (.int .i64 g), .ce (.ptr 1000012 0), .ce (.bool true), .ce (.ptr 1000014 0), .ce (.ptr 1000015 0)], [(cM m), [.int .i64 x, .int .i64 y, .int .i64 z], [.int .i64 0, .int .i64 0, .int .i64 0], [.int .i64 q0, .int .i64 q1, .int .i64 q2], [.int .i64 n0, .int .i64 n1, .int .i64 n2], [.bool h0, .bool h1, .bool x2]])) ∧
    ((x6 != 0) = false → K .normal ([.ce (.sl false [4, 4] l), .ce (.ptr 1000003 0), .ce (.ptr 1000005 0), .ce (.ptr 1000006 0), .ce (.bool t7), .ce (.int .i64 t8), .ce (.int .i64 f), .ce (.int .i64 s), .ce (.int .i64 g), .ce (.ptr 1000012 0), .ce (.bool true), .ce (.ptr 1000014 0), .ce (.ptr 1000015 0), .ce (.num .i64 (3 : Int))], [(cM m), [.int .i64 x, .int .i64 y, .int .i64 z], [.int .i64 r0, .int .i64 r1, .int .i64 r2], [.int .i64 q0, .int .i64 q1, .int .i64 q2], [.int .i64 n0, .int .i64 n1, .int .i64 x5], [.bool h0, .bool h1, .bool x2]]))))) ∧ (y0 = false →
    ((!x2) = true → K .normal ([.ce (.sl false [4, 4] l), .ce (.ptr 1000003 0), .ce (.ptr 1000005 0), .ce (.ptr 1000006 0), .ce (.bool t7), .ce (.int .i64 t8), .ce (.int .i64 f), .ce (.int .i64 s), .ce (.int .i64 g), .ce (.ptr 1000012 0), .ce (.bool x2), .ce (.ptr 1000014 0), .ce (.ptr 1000015 0), .ce (.num .i64 (3 : Int))], [(cM m), [.int .i64 x, .int .i64 y, .int .i64 z], [.int .i64 r0, .int .i64 r1, .int .i64 r2], [.int .i64 q0, .int .i64 q1, .int .i64 q2], [.int .i64 n0, .int .i64 n1, .int .i64 n2], [.bool h0, .bool h1, .bool x2]])) ∧ ((!x2) = false →
    ((m.m10 == 16) = true → (((90 : Int) == s) = true → K .normal ([.ce (.sl false [4, 4] l), .ce (.ptr 1000003 0), .ce (.ptr 1000005 0), .ce (.ptr 1000006 0), .ce (.bool t7), .ce (.int .i64 t8), .ce (.int .i64 f), .ce (.int .i64 s), .ce (.int .i64 g), .ce (.ptr 1000012 0), .ce (.bool x2), .ce (.ptr 1000014 0), .ce (.ptr 1000015 0), .ce (.num .i64 (3 : Int))], [(cM m), [.int .i64 x, .int .i64 y, .int .i64 z], [.int .i64 r0, .int .i64 r1, .int .i64 r2], [.int .i64 q0, .int .i64 q1, .int .i64 q2], [.int .i64 n0, .int .i64 n1, .int .i64 x1], [.bool h0, .bool h1, .bool x2]])) ∧
    (((90 : Int) == s) = false → True ∧ ∀ (x7 : Int), x7 = lnN x1 m.m3 → ∀ (x8 : Int), x8 = lnE x1 m.m3 → ((x8 != 0) = true → K .ret ([.ce (.ptr 1000003 0), .ce (.ptr 1000005 0), .ce (.ptr 1000006 0), .ce (.bool false), .ce (.int .i64 x8), .ce (.int .i64 f), .ce (.int .i64 s), .ce (.int .i64 g), .ce (.ptr 1000012 0), .ce (.bool x2), .ce (.ptr 1000014 0), .ce (.ptr 1000015 0)], [(cM m), [.int .i64 x, .int .i64 y, .int .i64 z], [.int .i64 0, .int .i64 0, .int .i64 0], [.int .i64 q0, .int .i64 q1, .int .i64 q2], [.int .i64 n0, .int .i64 n1, .int .i64 n2], [.bool h0, .bool h1, .bool x2]])) ∧
    ((x8 != 0) = false → K .normal ([.ce (.sl false [4, 4] l), .ce (.ptr 1000003 0), .ce (.ptr 1000005 0), .ce (.ptr 1000006 0), .ce (.bool t7), .ce (.int .i64 t8), .ce (.int .i64 f), .ce (.int .i64 s), .ce (.int .i64 g), .ce (.ptr 1000012 0), .ce (.bool x2), .ce (.ptr 1000014 0), .ce (.ptr 1000015 0), .ce (.num .i64 (3 : Int))], [(cM m), [.int .i64 x, .int .i64 y, .int .i64 z], [.int .i64 r0, .int .i64 r1, .int .i64 r2], [.int .i64 q0, .int .i64 q1, .int .i64 q2], [.int .i64 n0, .int .i64 n1, .int .i64 x7], [.bool h0, .bool h1, .bool x2]])))) ∧ ((m.m10 == 16) = false →
    True ∧ ∀ (x9 : Int), x9 = lnN x1 m.m3 → ∀ (x10 : Int), x10 = lnE x1 m.m3 → ((x10 != 0) = true → K .ret ([.ce (.ptr 1000003 0), .ce (.ptr 1000005 0), .ce (.ptr 1000006 0), .ce (.bool false), .ce (.int .i64 x10), .ce (.int .i64 f), .ce (.int .i64 s), .ce (.int .i64 g), .ce (.ptr 1000012 0), .ce (.bool x2), .ce (.ptr 1000014 0), .ce (.ptr 1000015 0)], [(cM m), [.int .i64 x, .int .i64 y, .int .i64 z], [.int .i64 0, .int .i64 0, .int .i64 0], [.int .i64 q0, .int .i64 q1, .int .i64 q2], [.int .i64 n0, .int .i64 n1, .int .i64 n2], [.bool h0, .bool h1, .bool x2]])) ∧
    ((x10 != 0) = false → K .normal ([.ce (.sl false [4, 4] l), .ce (.ptr 1000003 0), .ce (.ptr 1000005 0), .ce (.ptr 1000006 0), .ce (.bool t7), .ce (.int .i64 t8), .ce (.int .i64 f), .ce (.int .i64 s), .ce (.int .i64 g), .ce (.ptr 1000012 0), .ce (.bool x2), .ce (.ptr 1000014 0), .ce (.ptr 1000015 0), .ce (.num .i64 (3 : Int))], [(cM m), [.int .i64 x, .int .i64 y, .int .i64 z], [.int .i64 r0, .int .i64 r1, .int .i64 r2], [.int .i64 q0, .int .i64 q1, .int .i64 q2], [.int .i64 n0, .int .i64 n1, .int .i64 x9], [.bool h0, .bool h1, .bool x2]])))))) := by kernel_rfl
theorem vbR03 (l : List (List Int)) (m : M) (t7 y0 h0 h1 h2 : Bool) (t8 f s g x y z r0 r1 r2 n0 n1 n2 q0 q1 q2 : Int) (K : HEx → LV → Prop) : (nbodyT true CTgR anR0 (nthLoop Tryd.f18 0) (([.ce (.sl false [4, 4] l), .ce (.ptr 1000003 0), .ce (.ptr 1000005 0), .ce (.ptr 1000006 0), .ce (.bool t7), .ce (.int .i64 t8), .ce (.int .i64 f), .ce (.int .i64 s), .ce (.int .i64 g), .ce (.ptr 1000012 0), .ce (.bool y0), .ce (.ptr 1000014 0), .ce (.ptr 1000015 0), .ce (.num .i64 3)], [[.int .i64 m.m0, .int .i64 m.m1, .int .i64 m.m2, .int .i64 m.m3, .int .i64 m.m4, .int .i64 m.m5, .int .i64 m.m6, .int .i64 m.m7, .int .i64 m.m8, .int .i64 m.m9, .int .i64 m.m10, .int .i64 m.m11, .int .i64 m.m12, .bool m.m13, .bool m.m14, .int .i64 m.m15, .int .i64 m.m16, .int .i64 m.m17, .int .i64 m.m18, .int .i64 m.m19, .int .i64 m.m20, .int .i64 m.m21], [.int .i64 x, .int .i64 y, .int .i64 z], [.int .i64 r0, .int .i64 r1, .int .i64 r2], [.int .i64 q0, .int .i64 q1, .int .i64 q2], [.int .i64 n0, .int .i64 n1, .int .i64 n2], [.bool h0, .bool h1, .bool h2]])) K) =
    (K (.exit 0) ([.ce (.ptr 1000003 0), .ce (.ptr 1000005 0), .ce (.ptr 1000006 0), .ce (.bool t7), .ce (.int .i64 t8), .ce (.int .i64 f), .ce (.int .i64 s), .ce (.int .i64 g), .ce (.ptr 1000012 0), .ce (.bool y0), .ce (.ptr 1000014 0), .ce (.ptr 1000015 0)], [(cM m), [.int .i64 x, .int .i64 y, .int .i64 z], [.int .i64 r0, .int .i64 r1, .int .i64 r2], [.int .i64 q0, .int .i64 q1, .int .i64 q2], [.int .i64 n0, .int .i64 n1, .int .i64 n2], [.bool h0, .bool h1, .bool h2]])) := by kernel_rfl
theorem vbR30 (m : M) (pol y0 h0 h1 h2 : Bool) (f s g x y z r0 r1 r2 n0 n1 n2 q0 q1 q2 : Int) (K : HEx → LV → Prop) : (nbodyT true CTgR anR3 (nthLoop Tryd.f18 1) (([.ce (.ptr 1000003 0), .ce (.ptr 1000005 0), .ce (.ptr 1000006 0), .ce (.int .i64 f), .ce (.int .i64 s), .ce (.int .i64 g), .ce (.ptr 1000012 0), .ce (.bool y0), .ce (.ptr 1000014 0), .ce (.ptr 1000015 0), .ce (.bool pol), .ce (.num .i64 0)], [[.int .i64 m.m0, .int .i64 m.m1, .int .i64 m.m2, .int .i64 m.m3, .int .i64 m.m4, .int .i64 m.m5, .int .i64 m.m6, .int .i64 m.m7, .int .i64 m.m8, .int .i64 m.m9, .int .i64 m.m10, .int .i64 m.m11, .int .i64 m.m12, .bool m.m13, .bool m.m14, .int .i64 m.m15, .int .i64 m.m16, .int .i64 m.m17, .int .i64 m.m18, .int .i64 m.m19, .int .i64 m.m20, .int .i64 m.m21], [.int .i64 x, .int .i64 y, .int .i64 z], [.int .i64 r0, .int .i64 r1, .int .i64 r2], [.int .i64 q0, .int .i64 q1, .int .i64 q2], [.int .i64 n0, .int .i64 n1, .int .i64 n2], [.bool h0, .bool h1, .bool h2]])) K) =
    (((!h0) = true → K .normal ([.ce (.ptr 1000003 0), .ce (.ptr 1000005 0), .ce (.ptr 1000006 0), .ce (.int .i64 f), .ce (.int .i64 s), .ce (.int .i64 g), .ce (.ptr 1000012 0), .ce (.bool y0), .ce (.ptr 1000014 0), .ce (.ptr 1000015 0), .ce (.bool pol), .ce (.num .i64 (1 : Int))], [(cM m), [.int .i64 x, .int .i64 y, .int .i64 z], [.int .i64 r0, .int .i64 r1, .int .i64 r2], [.int .i64 q0, .int .i64 q1, .int .i64 q2], [.int .i64 n0, .int .i64 n1, .int .i64 n2], [.bool h0, .bool h1, .bool h2]])) ∧ ((!h0) = false → (pol = true → (((88 : Int) != g) = true →
    K .normal ([.ce (.ptr 1000003 0), .ce (.ptr 1000005 0), .ce (.ptr 1000006 0), .ce (.int .i64 f), .ce (.int .i64 s), .ce (.int .i64 g), .ce (.ptr 1000012 0), .ce (.bool y0), .ce (.ptr 1000014 0), .ce (.ptr 1000015 0), .ce (.bool pol), .ce (.num .i64 (1 : Int))], [(cM m), [.int .i64 x, .int .i64 y, .int .i64 z], [.int .i64 r0, .int .i64 r1, .int .i64 r2], [.int .i64 q0, .int .i64 q1, .int .i64 q2], [.int .i64 n0, .int .i64 n1, .int .i64 n2], [.bool h0, .bool h1, .bool h2]])) ∧ (((88 : Int) != g) = false → ((m.m2 == 91) = true → True ∧ ∀ (x1 : Int), x1 = at3 (0 : Int) x y z →
    (-9223372036854775808 ≤ n0 + x1 ∧ n0 + x1 ≤ 9223372036854775807) ∧ ∀ (x2 : Int), x2 = n0 + x1 → True ∧ ∀ (x3 : Int), x3 = ptX (88 : Int) x2 q0 → ∀ (x4 : Int), x4 = ptY (88 : Int) x2 q1 → ∀ (x5 : Int), x5 = ptZ (88 : Int) x2 q2 → K .normal ([.ce (.ptr 1000003 0), .ce (.ptr 1000005 0), .ce (.ptr 1000006 0), .ce (.int .i64 f), .ce (.int .i64 s), .ce (.int .i64 g), .ce (.ptr 1000012 0), .ce (.bool y0), .ce (.ptr 1000014 0), .ce (.ptr 1000015 0), .ce (.bool pol), .ce (.num .i64 (1 : Int))], [(cM m), [.int .i64 x, .int .i64 y, .int .i64 z], [.int .i64 r0, .int .i64 r1, .int .i64 r2], [.int .i64 x3, .int .i64 x4, .int .i64 x5], [.int .i64 x2, .int .i64 n1, .int .i64 n2], [.bool h0, .bool h1, .bool h2]])) ∧
    ((m.m2 == 91) = false → True ∧ ∀ (x6 : Int), x6 = ptX (88 : Int) n0 q0 → ∀ (x7 : Int), x7 = ptY (88 : Int) n0 q1 → ∀ (x8 : Int), x8 = ptZ (88 : Int) n0 q2 → K .normal ([.ce (.ptr 1000003 0), .ce (.ptr 1000005 0), .ce (.ptr 1000006 0), .ce (.int .i64 f), .ce (.int .i64 s), .ce (.int .i64 g), .ce (.ptr 1000012 0), .ce (.bool y0), .ce (.ptr 1000014 0), .ce (.ptr 1000015 0), .ce (.bool pol), .ce (.num .i64 (1 : Int))], [(cM m), [.int .i64 x, .int .i64 y, .int .i64 z], [.int .i64 r0, .int .i64 r1, .int .i64 r2], [.int .i64 x6, .int .i64 x7, .int .i64 x8], [.int .i64 n0, .int .i64 n1, .int .i64 n2], [.bool h0, .bool h1, .bool h2]])))) ∧
    (pol = false → ((m.m2 == 91) = true → True ∧ ∀ (x9 : Int), x9 = at3 (0 : Int) x y z → (-9223372036854775808 ≤ n0 + x9 ∧ n0 + x9 ≤ 9223372036854775807) ∧ ∀ (x10 : Int), x10 = n0 + x9 → True ∧ ∀ (x11 : Int), x11 = ptX (88 : Int) x10 q0 → ∀ (x12 : Int), x12 = ptY (88 : Int) x10 q1 → ∀ (x13 : Int), x13 = ptZ (88 : Int) x10 q2 → K .normal ([.ce (.ptr 1000003 0), .ce (.ptr 1000005 0), .ce (.ptr 1000006 0), .ce (.int .i64 f), .ce (.int .i64 s), .ce (.int .i64 g), .ce (.ptr 1000012 0), .ce (.bool y0), .ce (.ptr 1000014 0), .ce (.ptr 1000015 0), .ce (.bool pol), .ce (.num .i64 (1 : Int))], [(cM m), [.int .i64 x, .int .i64 y, .int .i64 z], [.int .i64 r0, .int .i64 r1, .int .i64 r2], [.int .i64 x11, .int .i64 x12, .int .i64 x13], [.int .i64 x10, .int .i64 n1, .int .i64 n2], [.bool h0, .bool h1, .bool h2]])) ∧
    ((m.m2 == 91) = false → True ∧ ∀ (x14 : Int), x14 = ptX (88 : Int) n0 q0 → ∀ (x15 : Int), x15 = ptY (88 : Int) n0 q1 → ∀ (x16 : Int), x16 = ptZ (88 : Int) n0 q2 → K .normal ([.ce (.ptr 1000003 0), .ce (.ptr 1000005 0), .ce (.ptr 1000006 0), .ce (.int .i64 f), .ce (.int .i64 s), .ce (.int .i64 g), .ce (.ptr 1000012 0), .ce (.bool y0), .ce (.ptr 1000014 0), .ce (.ptr 1000015 0), .ce (.bool pol), .ce (.num .i64 (1 : Int))], [(cM m), [.int .i64 x, .int .i64 y, .int .i64 z], [.int .i64 r0, .int .i64 r1, .int .i64 r2], [.int .i64 x14, .int .i64 x15, .int .i64 x16], [.int .i64 n0, .int .i64 n1, .int .i64 n2], [.bool h0, .bool h1, .bool h2]]))))) := by kernel_rfl
theorem vbR31 (m : M) (pol y0 h0 h1 h2 : Bool) (f s g x y z r0 r1 r2 n0 n1 n2 q0 q1 q2 : Int) (K : HEx → LV → Prop) : (nbodyT true CTgR anR3 (nthLoop Tryd.f18 1) (([.ce (.ptr 1000003 0), .ce (.ptr 1000005 0), .ce (.ptr 1000006 0), .ce (.int .i64 f), .ce (.int .i64 s), .ce (.int .i64 g), .ce (.ptr 1000012 0), .ce (.bool y0), .ce (.ptr 1000014 0), .ce (.ptr 1000015 0), .ce (.bool pol), .ce (.num .i64 1)], [[.int .i64 m.m0, .int .i64 m.m1, .int .i64 m.m2, .int .i64 m.m3, .int .i64 m.m4, .int .i64 m.m5, .int .i64 m.m6, .int .i64 m.m7, .int .i64 m.m8, .int .i64 m.m9, .int .i64 m.m10, .int .i64 m.m11, .int .i64 m.m12, .bool m.m13, .bool m.m14, .int .i64 m.m15, .int .i64 m.m16, .int .i64 m.m17, .int .i64 m.m18, .int .i64 m.m19, .int .i64 m.m20, .int .i64 m.m21], [.int .i64 x, .int .i64 y, .int .i64 z], [.int .i64 r0, .int .i64 r1, .int .i64 r2], [.int .i64 q0, .int .i64 q1, .int .i64 q2], [.int .i64 n0, .int .i64 n1, .int .i64 n2], [.bool h0, .bool h1, .bool h2]])) K) =
    (((!h1) = true → K .normal ([.ce (.ptr 1000003 0), .ce (.ptr 1000005 0), .ce (.ptr 1000006 0), .ce (.int .i64 f), .ce (.int .i64 s), .ce (.int .i64 g), .ce (.ptr 1000012 0), .ce (.bool y0), .ce (.ptr 1000014 0), .ce (.ptr 1000015 0), .ce (.bool pol), .ce (.num .i64 (2 : Int))], [(cM m), [.int .i64 x, .int .i64 y, .int .i64 z], [.int .i64 r0, .int .i64 r1, .int .i64 r2], [.int .i64 q0, .int .i64 q1, .int .i64 q2], [.int .i64 n0, .int .i64 n1, .int .i64 n2], [.bool h0, .bool h1, .bool h2]])) ∧ ((!h1) = false → (pol = true → (((89 : Int) != g) = true →
    K .normal ([.ce (.ptr 1000003 0), .ce (.ptr 1000005 0), .ce (.ptr 1000006 0), .ce (.int .i64 f), .ce (.int .i64 s), .ce (.int .i64 g), .ce (.ptr 1000012 0), .ce (.bool y0), .ce (.ptr 1000014 0), .ce (.ptr 1000015 0), .ce (.bool pol), .ce (.num .i64 (2 : Int))], [(cM m), [.int .i64 x, .int .i64 y, .int .i64 z], [.int .i64 r0, .int .i64 r1, .int .i64 r2], [.int .i64 q0, .int .i64 q1, .int .i64 q2], [.int .i64 n0, .int .i64 n1, .int .i64 n2], [.bool h0, .bool h1, .bool h2]])) ∧ (((89 : Int) != g) = false → ((m.m2 == 91) = true → True ∧ ∀ (x1 : Int), x1 = at3 (1 : Int) x y z →
    (-9223372036854775808 ≤ n1 + x1 ∧ n1 + x1 ≤ 9223372036854775807) ∧ ∀ (x2 : Int), x2 = n1 + x1 → True ∧ ∀ (x3 : Int), x3 = ptX (89 : Int) x2 q0 → ∀ (x4 : Int), x4 = ptY (89 : Int) x2 q1 → ∀ (x5 : Int), x5 = ptZ (89 : Int) x2 q2 → K .normal ([.ce (.ptr 1000003 0), .ce (.ptr 1000005 0), .ce (.ptr 1000006 0), .ce (.int .i64 f), .ce (.int .i64 s), .ce (.int .i64 g), .ce (.ptr 1000012 0), .ce (.bool y0), .ce (.ptr 1000014 0), .ce (.ptr 1000015 0), .ce (.bool pol), .ce (.num .i64 (2 : Int))], [(cM m), [.int .i64 x, .int .i64 y, .int .i64 z], [.int .i64 r0, .int .i64 r1, .int .i64 r2], [.int .i64 x3, .int .i64 x4, .int .i64 x5], [.int .i64 n0, .int .i64 x2, .int .i64 n2], [.bool h0, .bool h1, .bool h2]])) ∧
    ((m.m2 == 91) = false → True ∧ ∀ (x6 : Int), x6 = ptX (89 : Int) n1 q0 → ∀ (x7 : Int), x7 = ptY (89 : Int) n1 q1 → ∀ (x8 : Int), x8 = ptZ (89 : Int) n1 q2 → K .normal ([.ce (.ptr 1000003 0), .ce (.ptr 1000005 0), .ce (.ptr 1000006 0), .ce (.int .i64 f), .ce (.int .i64 s), .ce (.int .i64 g), .ce (.ptr 1000012 0), .ce (.bool y0), .ce (.ptr 1000014 0), .ce (.ptr 1000015 0), .ce (.bool pol), .ce (.num .i64 (2 : Int))], [(cM m), [.int .i64 x, .int .i64 y, .int .i64 z], [.int .i64 r0, .int .i64 r1, .int .i64 r2], [.int .i64 x6, .int .i64 x7, .int .i64 x8], [.int .i64 n0, .int .i64 n1, .int .i64 n2], [.bool h0, .bool h1, .bool h2]])))) ∧
    (pol = false → ((m.m2 == 91) = true → True ∧ ∀ (x9 : Int), x9 = at3 (1 : Int) x y z → (-9223372036854775808 ≤ n1 + x9 ∧ n1 + x9 ≤ 9223372036854775807) ∧ ∀ (x10 : Int), x10 = n1 + x9 → True ∧ ∀ (x11 : Int), x11 = ptX (89 : Int) x10 q0 → ∀ (x12 : Int), x12 = ptY (89 : Int) x10 q1 → ∀ (x13 : Int), x13 = ptZ (89 : Int) x10 q2 → K .normal ([.ce (.ptr 1000003 0), .ce (.ptr 1000005 0), .ce (.ptr 1000006 0), .ce (.int .i64 f), .ce (.int .i64 s), .ce (.int .i64 g), .ce (.ptr 1000012 0), .ce (.bool y0), .ce (.ptr 1000014 0), .ce (.ptr 1000015 0), .ce (.bool pol), .ce (.num .i64 (2 : Int))], [(cM m), [.int .i64 x, .int .i64 y, .int .i64 z], [.int .i64 r0, .int .i64 r1, .int .i64 r2], [.int .i64 x11, .int .i64 x12, .int .i64 x13], [.int .i64 n0, .int .i64 x10, .int .i64 n2], [.bool h0, .bool h1, .bool h2]])) ∧
    ((m.m2 == 91) = false → True ∧ ∀ (x14 : Int), x14 = ptX (89 : Int) n1 q0 → ∀ (x15 : Int), x15 = ptY (89 : Int) n1 q1 → ∀ (x16 : Int), x16 = ptZ (89 : Int) n1 q2 → K .normal ([.ce (.ptr 1000003 0), .ce (.ptr 1000005 0), .ce (.ptr 1000006 0), .ce (.int .i64 f), .ce (.int .i64 s), .ce (.int .i64 g), .ce (.ptr 1000012 0), .ce (.bool y0), .ce (.ptr 1000014 0), .ce (.ptr 1000015 0), .ce (.bool pol), .ce (.num .i64 (2 : Int))], [(cM m), [.int .i64 x, .int .i64 y, .int .i64 z], [.int .i64 r0, .int .i64 r1, .int .i64 r2], [.int .i64 x14, .int .i64 x15, .int .i64 x16], [.int .i64 n0, .int .i64 n1, .int .i64 n2], [.bool h0, .bool h1, .bool h2]]))))) := by kernel_rfl
theorem vbR32 (m : M) (pol y0 h0 h1 h2 : Bool) (f s g x y z r0 r1 r2 n0 n1 n2 q0 q1 q2 : Int) (K : HEx → LV → Prop) : (nbodyT true CTgR anR3 (nthLoop Tryd.f18 1) (([.ce (.ptr 1000003 0), .ce (.ptr 1000005 0), .ce (.ptr 1000006 0), .ce (.int .i64 f), .ce (.int .i64 s), .ce (.int .i64 g), .ce (.ptr 1000012 0), .ce (.bool y0), .ce (.ptr 1000014 0), .ce (.ptr 1000015 0), .ce (.bool pol), .ce (.num .i64 2)], [[.int .i64 m.m0, .int .i64 m.m1, .int .i64 m.m2, .int .i64 m.m3, .int .i64 m.m4, .int .i64 m.m5, .int .i64 m.m6, .int .i64 m.m7, .int .i64 m.m8, .int .i64 m.m9, .int .i64 m.m10, .int .i64 m.m11, .int .i64 m.m12, .bool m.m13, .bool m.m14, .int .i64 m.m15, .int .i64 m.m16, .int .i64 m.m17, .int .i64 m.m18, .int .i64 m.m19, .int .i64 m.m20, .int .i64 m.m21], [.int .i64 x, .int .i64 y, .int .i64 z], [.int .i64 r0, .int .i64 r1, .int .i64 r2], [.int .i64 q0, .int .i64 q1, .int .i64 q2], [.int .i64 n0, .int .i64 n1, .int .i64 n2], [.bool h0, .bool h1, .bool h2]])) K) =
    (((!h2) = true → K .normal ([.ce (.ptr 1000003 0), .ce (.ptr 1000005 0), .ce (.ptr 1000006 0), .ce (.int .i64 f), .ce (.int .i64 s), .ce (.int .i64 g), .ce (.ptr 1000012 0), .ce (.bool y0), .ce (.ptr 1000014 0), .ce (.ptr 1000015 0), .ce (.bool pol), .ce (.num .i64 (3 : Int))], [(cM m), [.int .i64 x, .int .i64 y, .int .i64 z], [.int .i64 r0, .int .i64 r1, .int .i64 r2], [.int .i64 q0, .int .i64 q1, .int .i64 q2], [.int .i64 n0, .int .i64 n1, .int .i64 n2], [.bool h0, .bool h1, .bool h2]])) ∧ ((!h2) = false → (pol = true → (((90 : Int) != g) = true →
    K .normal ([.ce (.ptr 1000003 0), .ce (.ptr 1000005 0), .ce (.ptr 1000006 0), .ce (.int .i64 f), .ce (.int .i64 s), .ce (.int .i64 g), .ce (.ptr 1000012 0), .ce (.bool y0), .ce (.ptr 1000014 0), .ce (.ptr 1000015 0), .ce (.bool pol), .ce (.num .i64 (3 : Int))], [(cM m), [.int .i64 x, .int .i64 y, .int .i64 z], [.int .i64 r0, .int .i64 r1, .int .i64 r2], [.int .i64 q0, .int .i64 q1, .int .i64 q2], [.int .i64 n0, .int .i64 n1, .int .i64 n2], [.bool h0, .bool h1, .bool h2]])) ∧ (((90 : Int) != g) = false → ((m.m2 == 91) = true → True ∧ ∀ (x1 : Int), x1 = at3 (2 : Int) x y z →
    (-9223372036854775808 ≤ n2 + x1 ∧ n2 + x1 ≤ 9223372036854775807) ∧ ∀ (x2 : Int), x2 = n2 + x1 → True ∧ ∀ (x3 : Int), x3 = ptX (90 : Int) x2 q0 → ∀ (x4 : Int), x4 = ptY (90 : Int) x2 q1 → ∀ (x5 : Int), x5 = ptZ (90 : Int) x2 q2 → K .normal ([.ce (.ptr 1000003 0), .ce (.ptr 1000005 0), .ce (.ptr 1000006 0), .ce (.int .i64 f), .ce (.int .i64 s), .ce (.int .i64 g), .ce (.ptr 1000012 0), .ce (.bool y0), .ce (.ptr 1000014 0), .ce (.ptr 1000015 0), .ce (.bool pol), .ce (.num .i64 (3 : Int))], [(cM m), [.int .i64 x, .int .i64 y, .int .i64 z], [.int .i64 r0, .int .i64 r1, .int .i64 r2], [.int .i64 x3, .int .i64 x4, .int .i64 x5], [.int .i64 n0, .int .i64 n1, .int .i64 x2], [.bool h0, .bool h1, .bool h2]])) ∧
    ((m.m2 == 91) = false → True ∧ ∀ (x6 : Int), x6 = ptX (90 : Int) n2 q0 → ∀ (x7 : Int), x7 = ptY (90 : Int) n2 q1 → ∀ (x8 : Int), x8 = ptZ (90 : Int) n2 q2 → K .normal ([.ce (.ptr 1000003 0), .ce (.ptr 1000005 0), .ce (.ptr 1000006 0), .ce (.int .i64 f), .ce (.int .i64 s), .ce (.int .i64 g), .ce (.ptr 1000012 0), .ce (.bool y0), .ce (.ptr 1000014 0), .ce (.ptr 1000015 0), .ce (.bool pol), .ce (.num .i64 (3 : Int))], [(cM m), [.int .i64 x, .int .i64 y, .int .i64 z], [.int .i64 r0, .int .i64 r1, .int .i64 r2], [.int .i64 x6, .int .i64 x7, .int .i64 x8], [.int .i64 n0, .int .i64 n1, .int .i64 n2], [.bool h0, .bool h1, .bool h2]])))) ∧
    (pol = false → ((m.m2 == 91) = true → True ∧ ∀ (x9 : Int), x9 = at3 (2 : Int) x y z → (-9223372036854775808 ≤ n2 + x9 ∧ n2 + x9 ≤ 9223372036854775807) ∧ ∀ (x10 : Int), x10 = n2 + x9 → True ∧ ∀ (x11 : Int), x11 = ptX (90 : Int) x10 q0 → ∀ (x12 : Int), x12 = ptY (90 : Int) x10 q1 → ∀ (x13 : Int), x13 = ptZ (90 : Int) x10 q2 → K .normal ([.ce (.ptr 1000003 0), .ce (.ptr 1000005 0), .ce (.ptr 1000006 0), .ce (.int .i64 f), .ce (.int .i64 s), .ce (.int .i64 g), .ce (.ptr 1000012 0), .ce (.bool y0), .ce (.ptr 1000014 0), .ce (.ptr 1000015 0), .ce (.bool pol), .ce (.num .i64 (3 : Int))], [(cM m), [.int .i64 x, .int .i64 y, .int .i64 z], [.int .i64 r0, .int .i64 r1, .int .i64 r2], [.int .i64 x11, .int .i64 x12, .int .i64 x13], [.int .i64 n0, .int .i64 n1, .int .i64 x10], [.bool h0, .bool h1, .bool h2]])) ∧
    ((m.m2 == 91) = false → True ∧ ∀ (x14 : Int), x14 = ptX (90 : Int) n2 q0 → ∀ (x15 : Int), x15 = ptY (90 : Int) n2 q1 → ∀ (x16 : Int), x16 = ptZ (90 : Int) n2 q2 → K .normal ([.ce (.ptr 1000003 0), .ce (.ptr 1000005 0), .ce (.ptr 1000006 0), .ce (.int .i64 f), .ce (.int .i64 s), .ce (.int .i64 g), .ce (.ptr 1000012 0), .ce (.bool y0), .ce (.ptr 1000014 0), .ce (.ptr 1000015 0), .ce (.bool pol), .ce (.num .i64 (3 : Int))], [(cM m), [.int .i64 x, .int .i64 y, .int .i64 z], [.int .i64 r0, .int .i64 r1, .int .i64 r2], [.int .i64 x14, .int .i64 x15, .int .i64 x16], [.int .i64 n0, .int .i64 n1, .int .i64 n2], [.bool h0, .bool h1, .bool h2]]))))) := by kernel_rfl
theorem vbR33 (m : M) (pol y0 h0 h1 h2 : Bool) (f s g x y z r0 r1 r2 n0 n1 n2 q0 q1 q2 : Int) (K : HEx → LV → Prop) : (nbodyT true CTgR anR3 (nthLoop Tryd.f18 1) (([.ce (.ptr 1000003 0), .ce (.ptr 1000005 0), .ce (.ptr 1000006 0), .ce (.int .i64 f), .ce (.int .i64 s), .ce (.int .i64 g), .ce (.ptr 1000012 0), .ce (.bool y0), .ce (.ptr 1000014 0), .ce (.ptr 1000015 0), .ce (.bool pol), .ce (.num .i64 3)], [[.int .i64 m.m0, .int .i64 m.m1, .int .i64 m.m2, .int .i64 m.m3, .int .i64 m.m4, .int .i64 m.m5, .int .i64 m.m6, .int .i64 m.m7, .int .i64 m.m8, .int .i64 m.m9, .int .i64 m.m10, .int .i64 m.m11, .int .i64 m.m12, .bool m.m13, .bool m.m14, .int .i64 m.m15, .int .i64 m.m16, .int .i64 m.m17, .int .i64 m.m18, .int .i64 m.m19, .int .i64 m.m20, .int .i64 m.m21], [.int .i64 x, .int .i64 y, .int .i64 z], [.int .i64 r0, .int .i64 r1, .int .i64 r2], [.int .i64 q0, .int .i64 q1, .int .i64 q2], [.int .i64 n0, .int .i64 n1, .int .i64 n2], [.bool h0, .bool h1, .bool h2]])) K) =
    (K (.exit 2) ([.ce (.ptr 1000003 0), .ce (.ptr 1000005 0), .ce (.ptr 1000006 0), .ce (.int .i64 f), .ce (.int .i64 s), .ce (.ptr 1000012 0), .ce (.bool y0), .ce (.ptr 1000014 0), .ce (.bool pol)], [(cM m), [.int .i64 x, .int .i64 y, .int .i64 z], [.int .i64 r0, .int .i64 r1, .int .i64 r2], [.int .i64 q0, .int .i64 q1, .int .i64 q2], [.int .i64 n0, .int .i64 n1, .int .i64 n2], [.bool h0, .bool h1, .bool h2]])) := by kernel_rfl
theorem vgR1 (m : M) (t7 y0 h0 h1 h2 : Bool) (t8 f s g x y z r0 r1 r2 n0 n1 n2 q0 q1 q2 : Int) (K : HEx → LV → Prop) : (nfragT true CTgR anR1 (nthFrag CTgR Tryd.f18 0) (([.ce (.ptr 1000003 0), .ce (.ptr 1000005 0), .ce (.ptr 1000006 0), .ce (.bool t7), .ce (.int .i64 t8), .ce (.int .i64 f), .ce (.int .i64 s), .ce (.int .i64 g), .ce (.ptr 1000012 0), .ce (.bool y0), .ce (.ptr 1000014 0), .ce (.ptr 1000015 0)], [[.int .i64 m.m0, .int .i64 m.m1, .int .i64 m.m2, .int .i64 m.m3, .int .i64 m.m4, .int .i64 m.m5, .int .i64 m.m6, .int .i64 m.m7, .int .i64 m.m8, .int .i64 m.m9, .int .i64 m.m10, .int .i64 m.m11, .int .i64 m.m12, .bool m.m13, .bool m.m14, .int .i64 m.m15, .int .i64 m.m16, .int .i64 m.m17, .int .i64 m.m18, .int .i64 m.m19, .int .i64 m.m20, .int .i64 m.m21], [.int .i64 x, .int .i64 y, .int .i64 z], [.int .i64 r0, .int .i64 r1, .int .i64 r2], [.int .i64 q0, .int .i64 q1, .int .i64 q2], [.int .i64 n0, .int .i64 n1, .int .i64 n2], [.bool h0, .bool h1, .bool h2]])) K) =
    ((f = 88 → (s = 88 → ((m.m10 == 16) = true → K .normal ([.ce (.ptr 1000003 0), .ce (.ptr 1000005 0), .ce (.ptr 1000006 0), .ce (.bool t7), .ce (.int .i64 t8), .ce (.int .i64 88), .ce (.int .i64 88), .ce (.int .i64 g), .ce (.ptr 1000012 0), .ce (.bool y0), .ce (.ptr 1000014 0), .ce (.ptr 1000015 0), .ce (.bool !h0 == h0)], [(cM m), [.int .i64 x, .int .i64 y, .int .i64 z], [.int .i64 r0, .int .i64 r1, .int .i64 r2], [.int .i64 q0, .int .i64 q1, .int .i64 q2], [.int .i64 n0, .int .i64 n1, .int .i64 n2], [.bool h0, .bool h1, .bool h2]])) ∧ ((m.m10 == 16) = false →
    K .normal ([.ce (.ptr 1000003 0), .ce (.ptr 1000005 0), .ce (.ptr 1000006 0), .ce (.bool t7), .ce (.int .i64 t8), .ce (.int .i64 88), .ce (.int .i64 88), .ce (.int .i64 g), .ce (.ptr 1000012 0), .ce (.bool y0), .ce (.ptr 1000014 0), .ce (.ptr 1000015 0), .ce (.bool false)], [(cM m), [.int .i64 x, .int .i64 y, .int .i64 z], [.int .i64 r0, .int .i64 r1, .int .i64 r2], [.int .i64 q0, .int .i64 q1, .int .i64 q2], [.int .i64 n0, .int .i64 n1, .int .i64 n2], [.bool h0, .bool h1, .bool h2]]))) ∧ (s ≠ 88 → (s = 89 → ((m.m10 == 16) = true → K .normal ([.ce (.ptr 1000003 0), .ce (.ptr 1000005 0), .ce (.ptr 1000006 0), .ce (.bool t7), .ce (.int .i64 t8), .ce (.int .i64 88), .ce (.int .i64 89), .ce (.int .i64 g), .ce (.ptr 1000012 0), .ce (.bool y0), .ce (.ptr 1000014 0), .ce (.ptr 1000015 0), .ce (.bool !h0 == h1)], [(cM m), [.int .i64 x, .int .i64 y, .int .i64 z], [.int .i64 r0, .int .i64 r1, .int .i64 r2], [.int .i64 q0, .int .i64 q1, .int .i64 q2], [.int .i64 n0, .int .i64 n1, .int .i64 n2], [.bool h0, .bool h1, .bool h2]])) ∧
    ((m.m10 == 16) = false → K .normal ([.ce (.ptr 1000003 0), .ce (.ptr 1000005 0), .ce (.ptr 1000006 0), .ce (.bool t7), .ce (.int .i64 t8), .ce (.int .i64 88), .ce (.int .i64 89), .ce (.int .i64 g), .ce (.ptr 1000012 0), .ce (.bool y0), .ce (.ptr 1000014 0), .ce (.ptr 1000015 0), .ce (.bool false)], [(cM m), [.int .i64 x, .int .i64 y, .int .i64 z], [.int .i64 r0, .int .i64 r1, .int .i64 r2], [.int .i64 q0, .int .i64 q1, .int .i64 q2], [.int .i64 n0, .int .i64 n1, .int .i64 n2], [.bool h0, .bool h1, .bool h2]]))) ∧ (s ≠ 89 → (s = 90 → ((m.m10 == 16) = true →
    K .normal ([.ce (.ptr 1000003 0), .ce (.ptr 1000005 0), .ce (.ptr 1000006 0), .ce (.bool t7), .ce (.int .i64 t8), .ce (.int .i64 88), .ce (.int .i64 90), .ce (.int .i64 g), .ce (.ptr 1000012 0), .ce (.bool y0), .ce (.ptr 1000014 0), .ce (.ptr 1000015 0), .ce (.bool !h0 == h2)], [(cM m), [.int .i64 x, .int .i64 y, .int .i64 z], [.int .i64 r0, .int .i64 r1, .int .i64 r2], [.int .i64 q0, .int .i64 q1, .int .i64 q2], [.int .i64 n0, .int .i64 n1, .int .i64 n2], [.bool h0, .bool h1, .bool h2]])) ∧ ((m.m10 == 16) = false → K .normal ([.ce (.ptr 1000003 0), .ce (.ptr 1000005 0), .ce (.ptr 1000006 0), .ce (.bool t7), .ce (.int .i64 t8), .ce (.int .i64 88), .ce (.int .i64 90), .ce (.int .i64 g), .ce (.ptr 1000012 0), .ce (.bool y0), .ce (.ptr 1000014 0), .ce (.ptr 1000015 0), .ce (.bool false)], [(cM m), [.int .i64 x, .int .i64 y, .int .i64 z], [.int .i64 r0, .int .i64 r1, .int .i64 r2], [.int .i64 q0, .int .i64 q1, .int .i64 q2], [.int .i64 n0, .int .i64 n1, .int .i64 n2], [.bool h0, .bool h1, .bool h2]]))) ∧
    (s ≠ 90 → False)))) ∧ (f ≠ 88 → (f = 89 → (s = 88 → ((m.m10 == 16) = true → K .normal ([.ce (.ptr 1000003 0), .ce (.ptr 1000005 0), .ce (.ptr 1000006 0), .ce (.bool t7), .ce (.int .i64 t8), .ce (.int .i64 89), .ce (.int .i64 88), .ce (.int .i64 g), .ce (.ptr 1000012 0), .ce (.bool y0), .ce (.ptr 1000014 0), .ce (.ptr 1000015 0), .ce (.bool !h1 == h0)], [(cM m), [.int .i64 x, .int .i64 y, .int .i64 z], [.int .i64 r0, .int .i64 r1, .int .i64 r2], [.int .i64 q0, .int .i64 q1, .int .i64 q2], [.int .i64 n0, .int .i64 n1, .int .i64 n2], [.bool h0, .bool h1, .bool h2]])) ∧
    ((m.m10 == 16) = false → K .normal ([.ce (.ptr 1000003 0), .ce (.ptr 1000005 0), .ce (.ptr 1000006 0), .ce (.bool t7), .ce (.int .i64 t8), .ce (.int .i64 89), .ce (.int .i64 88), .ce (.int .i64 g), .ce (.ptr 1000012 0), .ce (.bool y0), .ce (.ptr 1000014 0), .ce (.ptr 1000015 0), .ce (.bool false)], [(cM m), [.int .i64 x, .int .i64 y, .int .i64 z], [.int .i64 r0, .int .i64 r1, .int .i64 r2], [.int .i64 q0, .int .i64 q1, .int .i64 q2], [.int .i64 n0, .int .i64 n1, .int .i64 n2], [.bool h0, .bool h1, .bool h2]]))) ∧ (s ≠ 88 → (s = 89 → ((m.m10 == 16) = true →
    K .normal ([.ce (.ptr 1000003 0), .ce (.ptr 1000005 0), .ce (.ptr 1000006 0), .ce (.bool t7), .ce (.int .i64 t8), .ce (.int .i64 89), .ce (.int .i64 89), .ce (.int .i64 g), .ce (.ptr 1000012 0), .ce (.bool y0), .ce (.ptr 1000014 0), .ce (.ptr 1000015 0), .ce (.bool !h1 == h1)], [(cM m), [.int .i64 x, .int .i64 y, .int .i64 z], [.int .i64 r0, .int .i64 r1, .int .i64 r2], [.int .i64 q0, .int .i64 q1, .int .i64 q2], [.int .i64 n0, .int .i64 n1, .int .i64 n2], [.bool h0, .bool h1, .bool h2]])) ∧ ((m.m10 == 16) = false → K .normal ([.ce (.ptr 1000003 0), .ce (.ptr 1000005 0), .ce (.ptr 1000006 0), .ce (.bool t7), .ce (.int .i64 t8), .ce (.int .i64 89), .ce (.int .i64 89), .ce (.int .i64 g), .ce (.ptr 1000012 0), .ce (.bool y0), .ce (.ptr 1000014 0), .ce (.ptr 1000015 0), .ce (.bool false)], [(cM m), [.int .i64 x, .int .i64 y, .int .i64 z], [.int .i64 r0, .int .i64 r1, .int .i64 r2], [.int .i64 q0, .int .i64 q1, .int .i64 q2], [.int .i64 n0, .int .i64 n1, .int .i64 n2], [.bool h0, .bool h1, .bool h2]]))) ∧
    (s ≠ 89 → (s = 90 → ((m.m10 == 16) = true → K .normal ([.ce (.ptr 1000003 0), .ce (.ptr 1000005 0), .ce (.ptr 1000006 0), .ce (.bool t7), .ce (.int .i64 t8), .ce (.int .i64 89), .ce (.int .i64 90), .ce (.int .i64 g), .ce (.ptr 1000012 0), .ce (.bool y0), .ce (.ptr 1000014 0), .ce (.ptr 1000015 0), .ce (.bool !h1 == h2)], [(cM m), [.int .i64 x, .int .i64 y, .int .i64 z], [.int .i64 r0, .int .i64 r1, .int .i64 r2], [.int .i64 q0, .int .i64 q1, .int .i64 q2], [.int .i64 n0, .int .i64 n1, .int .i64 n2], [.bool h0, .bool h1, .bool h2]])) ∧ ((m.m10 == 16) = false →
    K .normal ([.ce (.ptr 1000003 0), .ce (.ptr 1000005 0), .ce (.ptr 1000006 0), .ce (.bool t7), .ce (.int .i64 t8), .ce (.int .i64 89), .ce (.int .i64 90), .ce (.int .i64 g), .ce (.ptr 1000012 0), .ce (.bool y0), .ce (.ptr 1000014 0), .ce (.ptr 1000015 0), .ce (.bool false)], [(cM m), [.int .i64 x, .int .i64 y, .int .i64 z], [.int .i64 r0, .int .i64 r1, .int .i64 r2], [.int .i64 q0, .int .i64 q1, .int .i64 q2], [.int .i64 n0, .int .i64 n1, .int .i64 n2], [.bool h0, .bool h1, .bool h2]]))) ∧ (s ≠ 90 → False)))) ∧ (f ≠ 89 → (f = 90 → (s = 88 → ((m.m10 == 16) = true →
    K .normal ([.ce (.ptr 1000003 0), .ce (.ptr 1000005 0), .ce (.ptr 1000006 0), .ce (.bool t7), .ce (.int .i64 t8), .ce (.int .i64 90), .ce (.int .i64 88), .ce (.int .i64 g), .ce (.ptr 1000012 0), .ce (.bool y0), .ce (.ptr 1000014 0), .ce (.ptr 1000015 0), .ce (.bool !h2 == h0)], [(cM m), [.int .i64 x, .int .i64 y, .int .i64 z], [.int .i64 r0, .int .i64 r1, .int .i64 r2], [.int .i64 q0, .int .i64 q1, .int .i64 q2], [.int .i64 n0, .int .i64 n1, .int .i64 n2], [.bool h0, .bool h1, .bool h2]])) ∧ ((m.m10 == 16) = false → K .normal ([.ce (.ptr 1000003 0), .ce (.ptr 1000005 0), .ce (.ptr 1000006 0), .ce (.bool t7), .ce (.int .i64 t8), .ce (.int .i64 90), .ce (.int .i64 88), .ce (.int .i64 g), .ce (.ptr 1000012 0), .ce (.bool y0), .ce (.ptr 1000014 0), .ce (.ptr 1000015 0), .ce (.bool false)], [(cM m), [.int .i64 x, .int .i64 y, .int .i64 z], [.int .i64 r0, .int .i64 r1, .int .i64 r2], [.int .i64 q0, .int .i64 q1, .int .i64 q2], [.int .i64 n0, .int .i64 n1, .int .i64 n2], [.bool h0, .bool h1, .bool h2]]))) ∧
    (s ≠ 88 → (s = 89 → ((m.m10 == 16) = true → K .normal ([.ce (.ptr 1000003 0), .ce (.ptr 1000005 0), .ce (.ptr 1000006 0), .ce (.bool t7), .ce (.int .i64 t8), .ce (.int .i64 90), .ce (.int .i64 89), .ce (.int .i64 g), .ce (.ptr 1000012 0), .ce (.bool y0), .ce (.ptr 1000014 0), .ce (.ptr 1000015 0), .ce (.bool !h2 == h1)], [(cM m), [.int .i64 x, .int .i64 y, .int .i64 z], [.int .i64 r0, .int .i64 r1, .int .i64 r2], [.int .i64 q0, .int .i64 q1, .int .i64 q2], [.int .i64 n0, .int .i64 n1, .int .i64 n2], [.bool h0, .bool h1, .bool h2]])) ∧ ((m.m10 == 16) = false →
    K .normal ([.ce (.ptr 1000003 0), .ce (.ptr 1000005 0), .ce (.ptr 1000006 0), .ce (.bool t7), .ce (.int .i64 t8), .ce (.int .i64 90), .ce (.int .i64 89), .ce (.int .i64 g), .ce (.ptr 1000012 0), .ce (.bool y0), .ce (.ptr 1000014 0), .ce (.ptr 1000015 0), .ce (.bool false)], [(cM m), [.int .i64 x, .int .i64 y, .int .i64 z], [.int .i64 r0, .int .i64 r1, .int .i64 r2], [.int .i64 q0, .int .i64 q1, .int .i64 q2], [.int .i64 n0, .int .i64 n1, .int .i64 n2], [.bool h0, .bool h1, .bool h2]]))) ∧ (s ≠ 89 → (s = 90 → ((m.m10 == 16) = true → K .normal ([.ce (.ptr 1000003 0), .ce (.ptr 1000005 0), .ce (.ptr 1000006 0), .ce (.bool t7), .ce (.int .i64 t8), .ce (.int .i64 90), .ce (.int .i64 90), .ce (.int .i64 g), .ce (.ptr 1000012 0), .ce (.bool y0), .ce (.ptr 1000014 0), .ce (.ptr 1000015 0), .ce (.bool !h2 == h2)], [(cM m), [.int .i64 x, .int .i64 y, .int .i64 z], [.int .i64 r0, .int .i64 r1, .int .i64 r2], [.int .i64 q0, .int .i64 q1, .int .i64 q2], [.int .i64 n0, .int .i64 n1, .int .i64 n2], [.bool h0, .bool h1, .bool h2]])) ∧
    ((m.m10 == 16) = false → K .normal ([.ce (.ptr 1000003 0), .ce (.ptr 1000005 0), .ce (.ptr 1000006 0), .ce (.bool t7), .ce (.int .i64 t8), .ce (.int .i64 90), .ce (.int .i64 90), .ce (.int .i64 g), .ce (.ptr 1000012 0), .ce (.bool y0), .ce (.ptr 1000014 0), .ce (.ptr 1000015 0), .ce (.bool false)], [(cM m), [.int .i64 x, .int .i64 y, .int .i64 z], [.int .i64 r0, .int .i64 r1, .int .i64 r2], [.int .i64 q0, .int .i64 q1, .int .i64 q2], [.int .i64 n0, .int .i64 n1, .int .i64 n2], [.bool h0, .bool h1, .bool h2]]))) ∧ (s ≠ 90 → False)))) ∧ (f ≠ 90 → False)))) := by kernel_rfl
theorem vgR2 (m : M) (t7 y0 h0 h1 h2 : Bool) (t8 f s g x y z r0 r1 r2 n0 n1 n2 q0 q1 q2 : Int) (K : HEx → LV → Prop) : (nfragT true CTgR anR2 (nthFrag CTgR Tryd.f18 1) (([.ce (.ptr 1000003 0), .ce (.ptr 1000005 0), .ce (.ptr 1000006 0), .ce (.bool t7), .ce (.int .i64 t8), .ce (.int .i64 f), .ce (.int .i64 s), .ce (.int .i64 g), .ce (.ptr 1000012 0), .ce (.bool y0), .ce (.ptr 1000014 0), .ce (.ptr 1000015 0)], [[.int .i64 m.m0, .int .i64 m.m1, .int .i64 m.m2, .int .i64 m.m3, .int .i64 m.m4, .int .i64 m.m5, .int .i64 m.m6, .int .i64 m.m7, .int .i64 m.m8, .int .i64 m.m9, .int .i64 m.m10, .int .i64 m.m11, .int .i64 m.m12, .bool m.m13, .bool m.m14, .int .i64 m.m15, .int .i64 m.m16, .int .i64 m.m17, .int .i64 m.m18, .int .i64 m.m19, .int .i64 m.m20, .int .i64 m.m21], [.int .i64 x, .int .i64 y, .int .i64 z], [.int .i64 r0, .int .i64 r1, .int .i64 r2], [.int .i64 q0, .int .i64 q1, .int .i64 q2], [.int .i64 n0, .int .i64 n1, .int .i64 n2], [.bool h0, .bool h1, .bool h2]])) K) =
    ((f = 88 → ((m.m10 == 16) = true → K .normal ([.ce (.ptr 1000003 0), .ce (.ptr 1000005 0), .ce (.ptr 1000006 0), .ce (.int .i64 88), .ce (.int .i64 s), .ce (.int .i64 g), .ce (.ptr 1000012 0), .ce (.bool y0), .ce (.ptr 1000014 0), .ce (.ptr 1000015 0), .ce (.bool h0)], [(cM m), [.int .i64 x, .int .i64 y, .int .i64 z], [.int .i64 r0, .int .i64 r1, .int .i64 r2], [.int .i64 q0, .int .i64 q1, .int .i64 q2], [.int .i64 n0, .int .i64 n1, .int .i64 n2], [.bool h0, .bool h1, .bool h2]])) ∧ ((m.m10 == 16) = false → K .normal ([.ce (.ptr 1000003 0), .ce (.ptr 1000005 0), .ce (.ptr 1000006 0), .ce (.int .i64 88), .ce (.int .i64 s), .ce (.int .i64 g), .ce (.ptr 1000012 0), .ce (.bool y0), .ce (.ptr 1000014 0), .ce (.ptr 1000015 0), .ce (.bool false)], [(cM m), [.int .i64 x, .int .i64 y, .int .i64 z], [.int .i64 r0, .int .i64 r1, .int .i64 r2], [.int .i64 q0, .int .i64 q1, .int .i64 q2], [.int .i64 n0, .int .i64 n1, .int .i64 n2], [.bool h0, .bool h1, .bool h2]]))) ∧
    (f ≠ 88 → (f = 89 → ((m.m10 == 16) = true → K .normal ([.ce (.ptr 1000003 0), .ce (.ptr 1000005 0), .ce (.ptr 1000006 0), .ce (.int .i64 89), .ce (.int .i64 s), .ce (.int .i64 g), .ce (.ptr 1000012 0), .ce (.bool y0), .ce (.ptr 1000014 0), .ce (.ptr 1000015 0), .ce (.bool h1)], [(cM m), [.int .i64 x, .int .i64 y, .int .i64 z], [.int .i64 r0, .int .i64 r1, .int .i64 r2], [.int .i64 q0, .int .i64 q1, .int .i64 q2], [.int .i64 n0, .int .i64 n1, .int .i64 n2], [.bool h0, .bool h1, .bool h2]])) ∧ ((m.m10 == 16) = false → K .normal ([.ce (.ptr 1000003 0), .ce (.ptr 1000005 0), .ce (.ptr 1000006 0), .ce (.int .i64 89), .ce (.int .i64 s), .ce (.int .i64 g), .ce (.ptr 1000012 0), .ce (.bool y0), .ce (.ptr 1000014 0), .ce (.ptr 1000015 0), .ce (.bool false)], [(cM m), [.int .i64 x, .int .i64 y, .int .i64 z], [.int .i64 r0, .int .i64 r1, .int .i64 r2], [.int .i64 q0, .int .i64 q1, .int .i64 q2], [.int .i64 n0, .int .i64 n1, .int .i64 n2], [.bool h0, .bool h1, .bool h2]]))) ∧
    (f ≠ 89 → (f = 90 → ((m.m10 == 16) = true → K .normal ([.ce (.ptr 1000003 0), .ce (.ptr 1000005 0), .ce (.ptr 1000006 0), .ce (.int .i64 90), .ce (.int .i64 s), .ce (.int .i64 g), .ce (.ptr 1000012 0), .ce (.bool y0), .ce (.ptr 1000014 0), .ce (.ptr 1000015 0), .ce (.bool h2)], [(cM m), [.int .i64 x, .int .i64 y, .int .i64 z], [.int .i64 r0, .int .i64 r1, .int .i64 r2], [.int .i64 q0, .int .i64 q1, .int .i64 q2], [.int .i64 n0, .int .i64 n1, .int .i64 n2], [.bool h0, .bool h1, .bool h2]])) ∧ ((m.m10 == 16) = false → K .normal ([.ce (.ptr 1000003 0), .ce (.ptr 1000005 0), .ce (.ptr 1000006 0), .ce (.int .i64 90), .ce (.int .i64 s), .ce (.int .i64 g), .ce (.ptr 1000012 0), .ce (.bool y0), .ce (.ptr 1000014 0), .ce (.ptr 1000015 0), .ce (.bool false)], [(cM m), [.int .i64 x, .int .i64 y, .int .i64 z], [.int .i64 r0, .int .i64 r1, .int .i64 r2], [.int .i64 q0, .int .i64 q1, .int .i64 q2], [.int .i64 n0, .int .i64 n1, .int .i64 n2], [.bool h0, .bool h1, .bool h2]]))) ∧
    (f ≠ 90 → False)))) := by kernel_rfl
theorem vgR4 (m : M) (y0 c : Bool) (f s x y z r0 r1 r2 n0 n1 n2 q0 q1 q2 : Int) (K : HEx → LV → Prop) : (nfragT true CTgR anR4 (nthFrag CTgR Tryd.f18 2) (([.ce (.ptr 1000003 0), .ce (.ptr 1000005 0), .ce (.ptr 1000006 0), .ce (.int .i64 f), .ce (.int .i64 s), .ce (.ptr 1000012 0), .ce (.bool y0), .ce (.ptr 1000014 0), .ce (.bool c)], [[.int .i64 m.m0, .int .i64 m.m1, .int .i64 m.m2, .int .i64 m.m3, .int .i64 m.m4, .int .i64 m.m5, .int .i64 m.m6, .int .i64 m.m7, .int .i64 m.m8, .int .i64 m.m9, .int .i64 m.m10, .int .i64 m.m11, .int .i64 m.m12, .bool m.m13, .bool m.m14, .int .i64 m.m15, .int .i64 m.m16, .int .i64 m.m17, .int .i64 m.m18, .int .i64 m.m19, .int .i64 m.m20, .int .i64 m.m21], [.int .i64 x, .int .i64 y, .int .i64 z], [.int .i64 r0, .int .i64 r1, .int .i64 r2], [.int .i64 q0, .int .i64 q1, .int .i64 q2], [.int .i64 n0, .int .i64 n1, .int .i64 n2]])) K) =
    ((c = true → (f = 88 → (s = 88 → True ∧ ∀ (x1 : Int), x1 = rtU n0 (0 : Int) n0 → ∀ (x2 : Int), x2 = rtW n0 (0 : Int) n0 → ∀ (x3 : Bool), x3 = rtB n0 (0 : Int) → ((m.m2 == 91) = true → True ∧ ∀ (x4 : Int), x4 = at3 (0 : Int) x y z → (-9223372036854775808 ≤ x1 + x4 ∧ x1 + x4 ≤ 9223372036854775807) ∧ ∀ (x5 : Int), x5 = x1 + x4 → True ∧ ∀ (x6 : Int), x6 = at3 (0 : Int) x y z → (-9223372036854775808 ≤ x2 + x6 ∧ x2 + x6 ≤ 9223372036854775807) ∧ ∀ (x7 : Int), x7 = x2 + x6 → True ∧ ∀ (x8 : Int), x8 = ptX (88 : Int) x5 q0 → ∀ (x9 : Int), x9 = ptY (88 : Int) x5 q1 → ∀ (x10 : Int), x10 = ptZ (88 : Int) x5 q2 → True ∧ ∀ (x11 : Int), x11 = ptX (88 : Int) x7 x8 → ∀ (x12 : Int), x12 = ptY (88 : Int) x7 x9 → ∀ (x13 : Int), x13 = ptZ (88 : Int) x7 x10 → K .normal ([.ce (.ptr 1000006 0), .ce (.ptr 1000012 0), .ce (.bool y0)], [(cM m), [.int .i64 x, .int .i64 y, .int .i64 z], [.int .i64 r0, .int .i64 r1, .int .i64 r2], [.int .i64 x11, .int .i64 x12, .int .i64 x13], [.int .i64 n0, .int .i64 n1, .int .i64 n2]])) ∧
    ((m.m2 == 91) = false → True ∧ ∀ (x14 : Int), x14 = ptX (88 : Int) x1 q0 → ∀ (x15 : Int), x15 = ptY (88 : Int) x1 q1 → ∀ (x16 : Int), x16 = ptZ (88 : Int) x1 q2 → True ∧ ∀ (x17 : Int), x17 = ptX (88 : Int) x2 x14 → ∀ (x18 : Int), x18 = ptY (88 : Int) x2 x15 → ∀ (x19 : Int), x19 = ptZ (88 : Int) x2 x16 → K .normal ([.ce (.ptr 1000006 0), .ce (.ptr 1000012 0), .ce (.bool y0)], [(cM m), [.int .i64 x, .int .i64 y, .int .i64 z], [.int .i64 r0, .int .i64 r1, .int .i64 r2], [.int .i64 x17, .int .i64 x18, .int .i64 x19], [.int .i64 n0, .int .i64 n1, .int .i64 n2]]))) ∧
    (s ≠ 88 → (s = 89 → True ∧ ∀ (x20 : Int), x20 = rtU n0 (0 : Int) n1 → ∀ (x21 : Int), x21 = rtW n0 (0 : Int) n1 → ∀ (x22 : Bool), x22 = rtB n0 (0 : Int) → ((m.m2 == 91) = true → True ∧ ∀ (x23 : Int), x23 = at3 (0 : Int) x y z → (-9223372036854775808 ≤ x20 + x23 ∧ x20 + x23 ≤ 9223372036854775807) ∧ ∀ (x24 : Int), x24 = x20 + x23 → True ∧ ∀ (x25 : Int), x25 = at3 (1 : Int) x y z → (-9223372036854775808 ≤ x21 + x25 ∧ x21 + x25 ≤ 9223372036854775807) ∧ ∀ (x26 : Int), x26 = x21 + x25 → True ∧ ∀ (x27 : Int), x27 = ptX (88 : Int) x24 q0 → ∀ (x28 : Int), x28 = ptY (88 : Int) x24 q1 → ∀ (x29 : Int), x29 = ptZ (88 : Int) x24 q2 → True ∧ ∀ (x30 : Int), x30 = ptX (89 : Int) x26 x27 → ∀ (x31 : Int), x31 = ptY (89 : Int) x26 x28 → ∀ (x32 : Int), x32 = ptZ (89 : Int) x26 x29 → K .normal ([.ce (.ptr 1000006 0), .ce (.ptr 1000012 0), .ce (.bool y0)], [(cM m), [.int .i64 x, .int .i64 y, .int .i64 z], [.int .i64 r0, .int .i64 r1, .int .i64 r2], [.int .i64 x30, .int .i64 x31, .int .i64 x32], [.int .i64 n0, .int .i64 n1, .int .i64 n2]])) ∧
    ((m.m2 == 91) = false → True ∧ ∀ (x33 : Int), x33 = ptX (88 : Int) x20 q0 → ∀ (x34 : Int), x34 = ptY (88 : Int) x20 q1 → ∀ (x35 : Int), x35 = ptZ (88 : Int) x20 q2 → True ∧ ∀ (x36 : Int), x36 = ptX (89 : Int) x21 x33 → ∀ (x37 : Int), x37 = ptY (89 : Int) x21 x34 → ∀ (x38 : Int), x38 = ptZ (89 : Int) x21 x35 → K .normal ([.ce (.ptr 1000006 0), .ce (.ptr 1000012 0), .ce (.bool y0)], [(cM m), [.int .i64 x, .int .i64 y, .int .i64 z], [.int .i64 r0, .int .i64 r1, .int .i64 r2], [.int .i64 x36, .int .i64 x37, .int .i64 x38], [.int .i64 n0, .int .i64 n1, .int .i64 n2]]))) ∧
    (s ≠ 89 → (s = 90 → True ∧ ∀ (x39 : Int), x39 = rtU n0 (0 : Int) n2 → ∀ (x40 : Int), x40 = rtW n0 (0 : Int) n2 → ∀ (x41 : Bool), x41 = rtB n0 (0 : Int) → ((m.m2 == 91) = true → True ∧ ∀ (x42 : Int), x42 = at3 (0 : Int) x y z → (-9223372036854775808 ≤ x39 + x42 ∧ x39 + x42 ≤ 9223372036854775807) ∧ ∀ (x43 : Int), x43 = x39 + x42 → True ∧ ∀ (x44 : Int), x44 = at3 (2 : Int) x y z → (-9223372036854775808 ≤ x40 + x44 ∧ x40 + x44 ≤ 9223372036854775807) ∧ ∀ (x45 : Int), x45 = x40 + x44 → True ∧ ∀ (x46 : Int), x46 = ptX (88 : Int) x43 q0 → ∀ (x47 : Int), x47 = ptY (88 : Int) x43 q1 → ∀ (x48 : Int), x48 = ptZ (88 : Int) x43 q2 → True ∧ ∀ (x49 : Int), x49 = ptX (90 : Int) x45 x46 → ∀ (x50 : Int), x50 = ptY (90 : Int) x45 x47 → ∀ (x51 : Int), x51 = ptZ (90 : Int) x45 x48 → K .normal ([.ce (.ptr 1000006 0), .ce (.ptr 1000012 0), .ce (.bool y0)], [(cM m), [.int .i64 x, .int .i64 y, .int .i64 z], [.int .i64 r0, .int .i64 r1, .int .i64 r2], [.int .i64 x49, .int .i64 x50, .int .i64 x51], [.int .i64 n0, .int .i64 n1, .int .i64 n2]])) ∧
    ((m.m2 == 91) = false → True ∧ ∀ (x52 : Int), x52 = ptX (88 : Int) x39 q0 → ∀ (x53 : Int), x53 = ptY (88 : Int) x39 q1 → ∀ (x54 : Int), x54 = ptZ (88 : Int) x39 q2 → True ∧ ∀ (x55 : Int), x55 = ptX (90 : Int) x40 x52 → ∀ (x56 : Int), x56 = ptY (90 : Int) x40 x53 → ∀ (x57 : Int), x57 = ptZ (90 : Int) x40 x54 → K .normal ([.ce (.ptr 1000006 0), .ce (.ptr 1000012 0), .ce (.bool y0)], [(cM m), [.int .i64 x, .int .i64 y, .int .i64 z], [.int .i64 r0, .int .i64 r1, .int .i64 r2], [.int .i64 x55, .int .i64 x56, .int .i64 x57], [.int .i64 n0, .int .i64 n1, .int .i64 n2]]))) ∧
    (s ≠ 90 → False)))) ∧ (f ≠ 88 → (f = 89 → (s = 88 → True ∧ ∀ (x58 : Int), x58 = rtU n1 (0 : Int) n0 → ∀ (x59 : Int), x59 = rtW n1 (0 : Int) n0 → ∀ (x60 : Bool), x60 = rtB n1 (0 : Int) → ((m.m2 == 91) = true → True ∧ ∀ (x61 : Int), x61 = at3 (1 : Int) x y z → (-9223372036854775808 ≤ x58 + x61 ∧ x58 + x61 ≤ 9223372036854775807) ∧ ∀ (x62 : Int), x62 = x58 + x61 → True ∧ ∀ (x63 : Int), x63 = at3 (0 : Int) x y z → (-9223372036854775808 ≤ x59 + x63 ∧ x59 + x63 ≤ 9223372036854775807) ∧ ∀ (x64 : Int), x64 = x59 + x63 → True ∧ ∀ (x65 : Int), x65 = ptX (89 : Int) x62 q0 → ∀ (x66 : Int), x66 = ptY (89 : Int) x62 q1 → ∀ (x67 : Int), x67 = ptZ (89 : Int) x62 q2 → True ∧ ∀ (x68 : Int), x68 = ptX (88 : Int) x64 x65 → ∀ (x69 : Int), x69 = ptY (88 : Int) x64 x66 → ∀ (x70 : Int), x70 = ptZ (88 : Int) x64 x67 → K .normal ([.ce (.ptr 1000006 0), .ce (.ptr 1000012 0), .ce (.bool y0)], [(cM m), [.int .i64 x, .int .i64 y, .int .i64 z], [.int .i64 r0, .int .i64 r1, .int .i64 r2], [.int .i64 x68, .int .i64 x69, .int .i64 x70], [.int .i64 n0, .int .i64 n1, .int .i64 n2]])) ∧
    ((m.m2 == 91) = false → True ∧ ∀ (x71 : Int), x71 = ptX (89 : Int) x58 q0 → ∀ (x72 : Int), x72 = ptY (89 : Int) x58 q1 → ∀ (x73 : Int), x73 = ptZ (89 : Int) x58 q2 → True ∧ ∀ (x74 : Int), x74 = ptX (88 : Int) x59 x71 → ∀ (x75 : Int), x75 = ptY (88 : Int) x59 x72 → ∀ (x76 : Int), x76 = ptZ (88 : Int) x59 x73 → K .normal ([.ce (.ptr 1000006 0), .ce (.ptr 1000012 0), .ce (.bool y0)], [(cM m), [.int .i64 x, .int .i64 y, .int .i64 z], [.int .i64 r0, .int .i64 r1, .int .i64 r2], [.int .i64 x74, .int .i64 x75, .int .i64 x76], [.int .i64 n0, .int .i64 n1, .int .i64 n2]]))) ∧
    (s ≠ 88 → (s = 89 → True ∧ ∀ (x77 : Int), x77 = rtU n1 (0 : Int) n1 → ∀ (x78 : Int), x78 = rtW n1 (0 : Int) n1 → ∀ (x79 : Bool), x79 = rtB n1 (0 : Int) → ((m.m2 == 91) = true → True ∧ ∀ (x80 : Int), x80 = at3 (1 : Int) x y z → (-9223372036854775808 ≤ x77 + x80 ∧ x77 + x80 ≤ 9223372036854775807) ∧ ∀ (x81 : Int), x81 = x77 + x80 → True ∧ ∀ (x82 : Int), x82 = at3 (1 : Int) x y z → (-9223372036854775808 ≤ x78 + x82 ∧ x78 + x82 ≤ 9223372036854775807) ∧ ∀ (x83 : Int), x83 = x78 + x82 → True ∧ ∀ (x84 : Int), x84 = ptX (89 : Int) x81 q0 → ∀ (x85 : Int), x85 = ptY (89 : Int) x81 q1 → ∀ (x86 : Int), x86 = ptZ (89 : Int) x81 q2 → True ∧ ∀ (x87 : Int), x87 = ptX (89 : Int) x83 x84 → ∀ (x88 : Int), x88 = ptY (89 : Int) x83 x85 → ∀ (x89 : Int), x89 = ptZ (89 : Int) x83 x86 → K .normal ([.ce (.ptr 1000006 0), .ce (.ptr 1000012 0), .ce (.bool y0)], [(cM m), [.int .i64 x, .int .i64 y, .int .i64 z], [.int .i64 r0, .int .i64 r1, .int .i64 r2], [.int .i64 x87, .int .i64 x88, .int .i64 x89], [.int .i64 n0, .int .i64 n1, .int .i64 n2]])) ∧
    ((m.m2 == 91) = false → True ∧ ∀ (x90 : Int), x90 = ptX (89 : Int) x77 q0 → ∀ (x91 : Int), x91 = ptY (89 : Int) x77 q1 → ∀ (x92 : Int), x92 = ptZ (89 : Int) x77 q2 → True ∧ ∀ (x93 : Int), x93 = ptX (89 : Int) x78 x90 → ∀ (x94 : Int), x94 = ptY (89 : Int) x78 x91 → ∀ (x95 : Int), x95 = ptZ (89 : Int) x78 x92 → K .normal ([.ce (.ptr 1000006 0), .ce (.ptr 1000012 0), .ce (.bool y0)], [(cM m), [.int .i64 x, .int .i64 y, .int .i64 z], [.int .i64 r0, .int .i64 r1, .int .i64 r2], [.int .i64 x93, .int .i64 x94, .int .i64 x95], [.int .i64 n0, .int .i64 n1, .int .i64 n2]]))) ∧
    (s ≠ 89 → (s = 90 → True ∧ ∀ (x96 : Int), x96 = rtU n1 (0 : Int) n2 → ∀ (x97 : Int), x97 = rtW n1 (0 : Int) n2 → ∀ (x98 : Bool), x98 = rtB n1 (0 : Int) → ((m.m2 == 91) = true → True ∧ ∀ (x99 : Int), x99 = at3 (1 : Int) x y z → (-9223372036854775808 ≤ x96 + x99 ∧ x96 + x99 ≤ 9223372036854775807) ∧ ∀ (x100 : Int), x100 = x96 + x99 → True ∧ ∀ (x101 : Int), x101 = at3 (2 : Int) x y z → (-9223372036854775808 ≤ x97 + x101 ∧ x97 + x101 ≤ 9223372036854775807) ∧ ∀ (x102 : Int), x102 = x97 + x101 → True ∧ ∀ (x103 : Int), x103 = ptX (89 : Int) x100 q0 → ∀ (x104 : Int), x104 = ptY (89 : Int) x100 q1 → ∀ (x105 : Int), x105 = ptZ (89 : Int) x100 q2 → True ∧ ∀ (x106 : Int), x106 = ptX (90 : Int) x102 x103 → ∀ (x107 : Int), x107 = ptY (90 : Int) x102 x104 → ∀ (x108 : Int), x108 = ptZ (90 : Int) x102 x105 → K .normal ([.ce (.ptr 1000006 0), .ce (.ptr 1000012 0), .ce (.bool y0)], [(cM m), [.int .i64 x, .int .i64 y, .int .i64 z], [.int .i64 r0, .int .i64 r1, .int .i64 r2], [.int .i64 x106, .int .i64 x107, .int .i64 x108], [.int .i64 n0, .int .i64 n1, .int .i64 n2]])) ∧
    ((m.m2 == 91) = false → True ∧ ∀ (x109 : Int), x109 = ptX (89 : Int) x96 q0 → ∀ (x110 : Int), x110 = ptY (89 : Int) x96 q1 → ∀ (x111 : Int), x111 = ptZ (89 : Int) x96 q2 → True ∧ ∀ (x112 : Int), x112 = ptX (90 : Int) x97 x109 → ∀ (x113 : Int), x113 = ptY (90 : Int) x97 x110 → ∀ (x114 : Int), x114 = ptZ (90 : Int) x97 x111 → K .normal ([.ce (.ptr 1000006 0), .ce (.ptr 1000012 0), .ce (.bool y0)], [(cM m), [.int .i64 x, .int .i64 y, .int .i64 z], [.int .i64 r0, .int .i64 r1, .int .i64 r2], [.int .i64 x112, .int .i64 x113, .int .i64 x114], [.int .i64 n0, .int .i64 n1, .int .i64 n2]]))) ∧
    (s ≠ 90 → False)))) ∧ (f ≠ 89 → (f = 90 → (s = 88 → True ∧ ∀ (x115 : Int), x115 = rtU n2 (0 : Int) n0 → ∀ (x116 : Int), x116 = rtW n2 (0 : Int) n0 → ∀ (x117 : Bool), x117 = rtB n2 (0 : Int) → ((m.m2 == 91) = true → True ∧ ∀ (x118 : Int), x118 = at3 (2 : Int) x y z → (-9223372036854775808 ≤ x115 + x118 ∧ x115 + x118 ≤ 9223372036854775807) ∧ ∀ (x119 : Int), x119 = x115 + x118 → True ∧ ∀ (x120 : Int), x120 = at3 (0 : Int) x y z → (-9223372036854775808 ≤ x116 + x120 ∧ x116 + x120 ≤ 9223372036854775807) ∧ ∀ (x121 : Int), x121 = x116 + x120 → True ∧ ∀ (x122 : Int), x122 = ptX (90 : Int) x119 q0 → ∀ (x123 : Int), x123 = ptY (90 : Int) x119 q1 → ∀ (x124 : Int), x124 = ptZ (90 : Int) x119 q2 → True ∧ ∀ (x125 : Int), x125 = ptX (88 : Int) x121 x122 → ∀ (x126 : Int), x126 = ptY (88 : Int) x121 x123 → ∀ (x127 : Int), x127 = ptZ (88 : Int) x121 x124 → K .normal ([.ce (.ptr 1000006 0), .ce (.ptr 1000012 0), .ce (.bool y0)], [(cM m), [.int .i64 x, .int .i64 y, .int .i64 z], [.int .i64 r0, .int .i64 r1, .int .i64 r2], [.int .i64 x125, .int .i64 x126, .int .i64 x127], [.int .i64 n0, .int .i64 n1, .int .i64 n2]])) ∧
    ((m.m2 == 91) = false → True ∧ ∀ (x128 : Int), x128 = ptX (90 : Int) x115 q0 → ∀ (x129 : Int), x129 = ptY (90 : Int) x115 q1 → ∀ (x130 : Int), x130 = ptZ (90 : Int) x115 q2 → True ∧ ∀ (x131 : Int), x131 = ptX (88 : Int) x116 x128 → ∀ (x132 : Int), x132 = ptY (88 : Int) x116 x129 → ∀ (x133 : Int), x133 = ptZ (88 : Int) x116 x130 → K .normal ([.ce (.ptr 1000006 0), .ce (.ptr 1000012 0), .ce (.bool y0)], [(cM m), [.int .i64 x, .int .i64 y, .int .i64 z], [.int .i64 r0, .int .i64 r1, .int .i64 r2], [.int .i64 x131, .int .i64 x132, .int .i64 x133], [.int .i64 n0, .int .i64 n1, .int .i64 n2]]))) ∧
    (s ≠ 88 → (s = 89 → True ∧ ∀ (x134 : Int), x134 = rtU n2 (0 : Int) n1 → ∀ (x135 : Int), x135 = rtW n2 (0 : Int) n1 → ∀ (x136 : Bool), x136 = rtB n2 (0 : Int) → ((m.m2 == 91) = true → True ∧ ∀ (x137 : Int), x137 = at3 (2 : Int) x y z → (-9223372036854775808 ≤ x134 + x137 ∧ x134 + x137 ≤ 9223372036854775807) ∧ ∀ (x138 : Int), x138 = x134 + x137 → True ∧ ∀ (x139 : Int), x139 = at3 (1 : Int) x y z → (-9223372036854775808 ≤ x135 + x139 ∧ x135 + x139 ≤ 9223372036854775807) ∧ ∀ (x140 : Int), x140 = x135 + x139 → True ∧ ∀ (x141 : Int), x141 = ptX (90 : Int) x138 q0 → ∀ (x142 : Int), x142 = ptY (90 : Int) x138 q1 → ∀ (x143 : Int), x143 = ptZ (90 : Int) x138 q2 → True ∧ ∀ (x144 : Int), x144 = ptX (89 : Int) x140 x141 → ∀ (x145 : Int), x145 = ptY (89 : Int) x140 x142 → ∀ (x146 : Int), x146 = ptZ (89 : Int) x140 x143 → K .normal ([.ce (.ptr 1000006 0), .ce (.ptr 1000012 0), .ce (.bool y0)], [(cM m), [.int .i64 x, .int .i64 y, .int .i64 z], [.int .i64 r0, .int .i64 r1, .int .i64 r2], [.int .i64 x144, .int .i64 x145, .int .i64 x146], [.int .i64 n0, .int .i64 n1, .int .i64 n2]])) ∧
    ((m.m2 == 91) = false → True ∧ ∀ (x147 : Int), x147 = ptX (90 : Int) x134 q0 → ∀ (x148 : Int), x148 = ptY (90 : Int) x134 q1 → ∀ (x149 : Int), x149 = ptZ (90 : Int) x134 q2 → True ∧ ∀ (x150 : Int), x150 = ptX (89 : Int) x135 x147 → ∀ (x151 : Int), x151 = ptY (89 : Int) x135 x148 → ∀ (x152 : Int), x152 = ptZ (89 : Int) x135 x149 → K .normal ([.ce (.ptr 1000006 0), .ce (.ptr 1000012 0), .ce (.bool y0)], [(cM m), [.int .i64 x, .int .i64 y, .int .i64 z], [.int .i64 r0, .int .i64 r1, .int .i64 r2], [.int .i64 x150, .int .i64 x151, .int .i64 x152], [.int .i64 n0, .int .i64 n1, .int .i64 n2]]))) ∧
    (s ≠ 89 → (s = 90 → True ∧ ∀ (x153 : Int), x153 = rtU n2 (0 : Int) n2 → ∀ (x154 : Int), x154 = rtW n2 (0 : Int) n2 → ∀ (x155 : Bool), x155 = rtB n2 (0 : Int) → ((m.m2 == 91) = true → True ∧ ∀ (x156 : Int), x156 = at3 (2 : Int) x y z → (-9223372036854775808 ≤ x153 + x156 ∧ x153 + x156 ≤ 9223372036854775807) ∧ ∀ (x157 : Int), x157 = x153 + x156 → True ∧ ∀ (x158 : Int), x158 = at3 (2 : Int) x y z → (-9223372036854775808 ≤ x154 + x158 ∧ x154 + x158 ≤ 9223372036854775807) ∧ ∀ (x159 : Int), x159 = x154 + x158 → True ∧ ∀ (x160 : Int), x160 = ptX (90 : Int) x157 q0 → ∀ (x161 : Int), x161 = ptY (90 : Int) x157 q1 → ∀ (x162 : Int), x162 = ptZ (90 : Int) x157 q2 → True ∧ ∀ (x163 : Int), x163 = ptX (90 : Int) x159 x160 → ∀ (x164 : Int), x164 = ptY (90 : Int) x159 x161 → ∀ (x165 : Int), x165 = ptZ (90 : Int) x159 x162 → K .normal ([.ce (.ptr 1000006 0), .ce (.ptr 1000012 0), .ce (.bool y0)], [(cM m), [.int .i64 x, .int .i64 y, .int .i64 z], [.int .i64 r0, .int .i64 r1, .int .i64 r2], [.int .i64 x163, .int .i64 x164, .int .i64 x165], [.int .i64 n0, .int .i64 n1, .int .i64 n2]])) ∧
    ((m.m2 == 91) = false → True ∧ ∀ (x166 : Int), x166 = ptX (90 : Int) x153 q0 → ∀ (x167 : Int), x167 = ptY (90 : Int) x153 q1 → ∀ (x168 : Int), x168 = ptZ (90 : Int) x153 q2 → True ∧ ∀ (x169 : Int), x169 = ptX (90 : Int) x154 x166 → ∀ (x170 : Int), x170 = ptY (90 : Int) x154 x167 → ∀ (x171 : Int), x171 = ptZ (90 : Int) x154 x168 → K .normal ([.ce (.ptr 1000006 0), .ce (.ptr 1000012 0), .ce (.bool y0)], [(cM m), [.int .i64 x, .int .i64 y, .int .i64 z], [.int .i64 r0, .int .i64 r1, .int .i64 r2], [.int .i64 x169, .int .i64 x170, .int .i64 x171], [.int .i64 n0, .int .i64 n1, .int .i64 n2]]))) ∧
    (s ≠ 90 → False)))) ∧ (f ≠ 90 → False)))) ∧ (c = false → K .normal ([.ce (.ptr 1000006 0), .ce (.ptr 1000012 0), .ce (.bool y0)], [(cM m), [.int .i64 x, .int .i64 y, .int .i64 z], [.int .i64 r0, .int .i64 r1, .int .i64 r2], [.int .i64 q0, .int .i64 q1, .int .i64 q2], [.int .i64 n0, .int .i64 n1, .int .i64 n2]]))) := by kernel_rfl
theorem vcTgR (m : M) (l : List (List Int)) (x y z : Int) (Q : Res → Prop) : (nfun true CTgR Tryd.f18 (bodyOf Tryd.f18) [.agg [.int .i64 m.m0, .int .i64 m.m1, .int .i64 m.m2, .int .i64 m.m3, .int .i64 m.m4, .int .i64 m.m5, .int .i64 m.m6, .int .i64 m.m7, .int .i64 m.m8, .int .i64 m.m9, .int .i64 m.m10, .int .i64 m.m11, .int .i64 m.m12, .bool m.m13, .bool m.m14, .int .i64 m.m15, .int .i64 m.m16, .int .i64 m.m17, .int .i64 m.m18, .int .i64 m.m19, .int .i64 m.m20, .int .i64 m.m21], .ce (.sl false [4, 4] l), .agg [.int .i64 x, .int .i64 y, .int .i64 z]] [] Q) =
    (True ∧ ∀ (x1 : Bool), x1 = wn x y z → ((!x1) = true → Q ⟨.tup [.agg [.int .i64 0, .int .i64 0, .int .i64 0], .ce (.bool false), .ce (.int .i64 1)], false, [], []⟩) ∧ ((!x1) = false → True ∧ ∀ (x2 : Int), x2 = 88 + fsP m.m1 → ∀ (x3 : Int), x3 = 88 + scP m.m1 → ∀ (x4 : Int), x4 = 88 + hgP m.m1 → ((0 : Int) = (0 : Int) ∧ (false = false ∧ (0 : Int) = (0 : Int) ∧ (0 : Int) = (0 : Int) ∧ (0 : Int) = (0 : Int) ∧ false = false ∧ false = false ∧ false = false) ∧ List.length l ≤ (1000 : Nat) ∧ ∃ (m_1 : M), (cM m) = cM m_1) ∧ (wE (aLt (mI (cM m) (10 : Nat)) x3) (0 : Int) (mI (cM m) (3 : Nat)) (fndB (88 : Int) l) (fndN (88 : Int) l) ≠ (0 : Int) →
    Q ⟨.tup [.agg [.int .i64 0, .int .i64 0, .int .i64 0], .ce (.bool false), .ce (.int .i64 (wE (aLt (mI (cM m) (10 : Nat)) x3) (0 : Int) (mI (cM m) (3 : Nat)) (fndB (88 : Int) l) (fndN (88 : Int) l)))], false, [], []⟩) ∧
    (wE (aLt (mI (cM m) (10 : Nat)) x3) (0 : Int) (mI (cM m) (3 : Nat)) (fndB (88 : Int) l) (fndN (88 : Int) l) = (0 : Int) ∧ wE (aLt (mI (cM m) (10 : Nat)) x3) (1 : Int) (mI (cM m) (3 : Nat)) (fndB (89 : Int) l) (fndN (89 : Int) l) ≠ (0 : Int) →
    Q ⟨.tup [.agg [.int .i64 0, .int .i64 0, .int .i64 0], .ce (.bool false), .ce (.int .i64 (wE (aLt (mI (cM m) (10 : Nat)) x3) (1 : Int) (mI (cM m) (3 : Nat)) (fndB (89 : Int) l) (fndN (89 : Int) l)))], false, [], []⟩) ∧
    (wE (aLt (mI (cM m) (10 : Nat)) x3) (0 : Int) (mI (cM m) (3 : Nat)) (fndB (88 : Int) l) (fndN (88 : Int) l) = (0 : Int) ∧ wE (aLt (mI (cM m) (10 : Nat)) x3) (1 : Int) (mI (cM m) (3 : Nat)) (fndB (89 : Int) l) (fndN (89 : Int) l) = (0 : Int) ∧
    wE (aLt (mI (cM m) (10 : Nat)) x3) (2 : Int) (mI (cM m) (3 : Nat)) (fndB (90 : Int) l) (fndN (90 : Int) l) ≠ (0 : Int) → Q ⟨.tup [.agg [.int .i64 0, .int .i64 0, .int .i64 0], .ce (.bool false), .ce (.int .i64 (wE (aLt (mI (cM m) (10 : Nat)) x3) (2 : Int) (mI (cM m) (3 : Nat)) (fndB (90 : Int) l) (fndN (90 : Int) l)))], false, [], []⟩) ∧
    (wE (aLt (mI (cM m) (10 : Nat)) x3) (0 : Int) (mI (cM m) (3 : Nat)) (fndB (88 : Int) l) (fndN (88 : Int) l) = (0 : Int) ∧ wE (aLt (mI (cM m) (10 : Nat)) x3) (1 : Int) (mI (cM m) (3 : Nat)) (fndB (89 : Int) l) (fndN (89 : Int) l) = (0 : Int) ∧
    wE (aLt (mI (cM m) (10 : Nat)) x3) (2 : Int) (mI (cM m) (3 : Nat)) (fndB (90 : Int) l) (fndN (90 : Int) l) = (0 : Int) → ((88 ≤ x2 ∧ x2 ≤ 90 ∧ 88 ≤ x3 ∧ x3 ≤ 90) ∧ ∃ (m_1 : M), (cM m) = cM m_1) ∧
    ∀ (x_1 : Bool), x_1 = (decide (mI (cM m) (10 : Nat) = (16 : Int)) && at3b (x2 - 88) (fndB (88 : Int) l) (fndB (89 : Int) l) (fndB (90 : Int) l) != at3b (x3 - 88) (fndB (88 : Int) l) (fndB (89 : Int) l) (fndB (90 : Int) l)) → (x_1 = true → Q ⟨.tup [.agg [.int .i64 0, .int .i64 0, .int .i64 0], .ce (.bool false), .ce (.int .i64 9)], false, [], []⟩) ∧ (x_1 = false → ((88 ≤ x2 ∧ x2 ≤ 90) ∧ ∃ (m_1 : M), (cM m) = cM m_1) ∧
    ∀ (x_2 : Bool), x_2 = (decide (mI (cM m) (10 : Nat) = (16 : Int)) && at3b (x2 - 88) (fndB (88 : Int) l) (fndB (89 : Int) l) (fndB (90 : Int) l)) → ((0 : Int) = (0 : Int) ∧ (∃ (m_1 : M), (cM m) = cM m_1) ∧
    B3 (1099511627776 : Int) x y z ∧ (actR (fndB (88 : Int) l) x_2 (0 : Int) x4 = true → (-1099511627776 : Int) ≤ wN (aLt (mI (cM m) (10 : Nat)) x3) (0 : Int) (mI (cM m) (3 : Nat)) (fndB (88 : Int) l) (fndN (88 : Int) l) ∧
    wN (aLt (mI (cM m) (10 : Nat)) x3) (0 : Int) (mI (cM m) (3 : Nat)) (fndB (88 : Int) l) (fndN (88 : Int) l) ≤ (1099511627776 : Int)) ∧ (actR (fndB (89 : Int) l) x_2 (1 : Int) x4 = true → (-1099511627776 : Int) ≤ wN (aLt (mI (cM m) (10 : Nat)) x3) (1 : Int) (mI (cM m) (3 : Nat)) (fndB (89 : Int) l) (fndN (89 : Int) l) ∧
    wN (aLt (mI (cM m) (10 : Nat)) x3) (1 : Int) (mI (cM m) (3 : Nat)) (fndB (89 : Int) l) (fndN (89 : Int) l) ≤ (1099511627776 : Int)) ∧ (actR (fndB (90 : Int) l) x_2 (2 : Int) x4 = true → (-1099511627776 : Int) ≤ wN (aLt (mI (cM m) (10 : Nat)) x3) (2 : Int) (mI (cM m) (3 : Nat)) (fndB (90 : Int) l) (fndN (90 : Int) l) ∧
    wN (aLt (mI (cM m) (10 : Nat)) x3) (2 : Int) (mI (cM m) (3 : Nat)) (fndB (90 : Int) l) (fndN (90 : Int) l) ≤ (1099511627776 : Int))) ∧ ∀ (x_3 : (Int × Int × Int) × Int × Int × Int), x_3.fst.1 = nvR (mI (cM m) (2 : Nat)) (actR (fndB (88 : Int) l) x_2 (0 : Int) x4) x (wN (aLt (mI (cM m) (10 : Nat)) x3) (0 : Int) (mI (cM m) (3 : Nat)) (fndB (88 : Int) l) (fndN (88 : Int) l)) ∧
    x_3.fst.snd.1 = nvR (mI (cM m) (2 : Nat)) (actR (fndB (89 : Int) l) x_2 (1 : Int) x4) y (wN (aLt (mI (cM m) (10 : Nat)) x3) (1 : Int) (mI (cM m) (3 : Nat)) (fndB (89 : Int) l) (fndN (89 : Int) l)) ∧
    x_3.fst.snd.2 = nvR (mI (cM m) (2 : Nat)) (actR (fndB (90 : Int) l) x_2 (2 : Int) x4) z (wN (aLt (mI (cM m) (10 : Nat)) x3) (2 : Int) (mI (cM m) (3 : Nat)) (fndB (90 : Int) l) (fndN (90 : Int) l)) ∧
    x_3.snd.1 = qvR (mI (cM m) (2 : Nat)) (actR (fndB (88 : Int) l) x_2 (0 : Int) x4) x (wN (aLt (mI (cM m) (10 : Nat)) x3) (0 : Int) (mI (cM m) (3 : Nat)) (fndB (88 : Int) l) (fndN (88 : Int) l)) x ∧
    x_3.snd.snd.1 = qvR (mI (cM m) (2 : Nat)) (actR (fndB (89 : Int) l) x_2 (1 : Int) x4) y (wN (aLt (mI (cM m) (10 : Nat)) x3) (1 : Int) (mI (cM m) (3 : Nat)) (fndB (89 : Int) l) (fndN (89 : Int) l)) y ∧
    x_3.snd.snd.2 = qvR (mI (cM m) (2 : Nat)) (actR (fndB (90 : Int) l) x_2 (2 : Int) x4) z (wN (aLt (mI (cM m) (10 : Nat)) x3) (2 : Int) (mI (cM m) (3 : Nat)) (fndB (90 : Int) l) (fndN (90 : Int) l)) z →
    ((88 ≤ x2 ∧ x2 ≤ 90 ∧ 88 ≤ x3 ∧ x3 ≤ 90) ∧ B3 (1099511627776 : Int) x y z ∧ ∃ (m_1 : M), (cM m) = cM m_1) ∧ ∀ (x_4 : Int × Int × Int), (x_2 = false → x_4.1 = x_3.snd.1 ∧ x_4.snd.1 = x_3.snd.snd.1 ∧ x_4.snd.2 = x_3.snd.snd.2) ∧ (x_2 = true → x_4.1 = ptX x3 (adR (mI (cM m) (2 : Nat)) (at3 (x3 - 88) x y z) (rtW (at3 (x2 - 88) x_3.fst.1 x_3.fst.snd.1 x_3.fst.snd.2) (0 : Int) (at3 (x3 - 88) x_3.fst.1 x_3.fst.snd.1 x_3.fst.snd.2))) (ptX x2 (adR (mI (cM m) (2 : Nat)) (at3 (x2 - 88) x y z) (rtU (at3 (x2 - 88) x_3.fst.1 x_3.fst.snd.1 x_3.fst.snd.2) (0 : Int) (at3 (x3 - 88) x_3.fst.1 x_3.fst.snd.1 x_3.fst.snd.2))) x_3.snd.1) ∧
    x_4.snd.1 = ptY x3 (adR (mI (cM m) (2 : Nat)) (at3 (x3 - 88) x y z) (rtW (at3 (x2 - 88) x_3.fst.1 x_3.fst.snd.1 x_3.fst.snd.2) (0 : Int) (at3 (x3 - 88) x_3.fst.1 x_3.fst.snd.1 x_3.fst.snd.2))) (ptY x2 (adR (mI (cM m) (2 : Nat)) (at3 (x2 - 88) x y z) (rtU (at3 (x2 - 88) x_3.fst.1 x_3.fst.snd.1 x_3.fst.snd.2) (0 : Int) (at3 (x3 - 88) x_3.fst.1 x_3.fst.snd.1 x_3.fst.snd.2))) x_3.snd.snd.1) ∧
    x_4.snd.2 = ptZ x3 (adR (mI (cM m) (2 : Nat)) (at3 (x3 - 88) x y z) (rtW (at3 (x2 - 88) x_3.fst.1 x_3.fst.snd.1 x_3.fst.snd.2) (0 : Int) (at3 (x3 - 88) x_3.fst.1 x_3.fst.snd.1 x_3.fst.snd.2))) (ptZ x2 (adR (mI (cM m) (2 : Nat)) (at3 (x2 - 88) x y z) (rtU (at3 (x2 - 88) x_3.fst.1 x_3.fst.snd.1 x_3.fst.snd.2) (0 : Int) (at3 (x3 - 88) x_3.fst.1 x_3.fst.snd.1 x_3.fst.snd.2))) x_3.snd.snd.2)) →
    True ∧ ∀ (x9 : Bool), x9 = wn x_4.1 x_4.snd.1 x_4.snd.2 → ((!x9) = true → Q ⟨.tup [.agg [.int .i64 0, .int .i64 0, .int .i64 0], .ce (.bool false), .ce (.int .i64 3)], false, [], []⟩) ∧ ((!x9) = false → Q ⟨.tup [.agg [.int .i64 x_4.1, .int .i64 x_4.snd.1, .int .i64 x_4.snd.2], .ce (.bool (fndB (88 : Int) l || (fndB (89 : Int) l || fndB (90 : Int) l))), .ce (.int .i64 0)], false, [], []⟩))))) := by kernel_rfl
end Go.Proofs.YtgnknciihdajiaaDoor
namespace U
theorem fnd_no {c : Int} {l : List (List Int)} (h : fndB c l = false) : fndN c l = 0 := by
  unfold fndB at h; unfold fndN
  cases hf : fnd c l with
  | none => rfl
  | some v => rw [hf] at h; cases h
theorem at3_bd {i x y z B : Int} (h : B3 B x y z) : -B ≤ at3 i x y z ∧ at3 i x y z ≤ B := by
  obtain ⟨a, b, c⟩ := h
  unfold at3
  split
  · exact a
  · split
    · exact b
    · exact c
theorem sp3L {f : Int} {A0 A1 A2 : Prop} (hf : 88 ≤ f ∧ f ≤ 90) (h0 : f = 88 → A0) (h1 : f = 89 → A1) (h2 : f = 90 → A2) :
    (f = 88 → A0) ∧ (f ≠ 88 → (f = 89 → A1) ∧ (f ≠ 89 → (f = 90 → A2) ∧ (f ≠ 90 → False))) := ⟨h0, fun _ => ⟨h1, fun _ => ⟨h2, fun _ => by omega⟩⟩⟩
theorem anyst {y0 h : Bool} {I : Bool → Prop} (hI : I (y0 || h)) : (y0 = true → I true) ∧ (y0 = false → I h) :=
  ⟨fun g => by rw [g] at hI; exact hI, fun g => by rw [g] at hI; exact hI⟩
def inR (h : Bool) (po s j u f n : Int) (B C : Int → Prop) : Prop :=
  ((!h) = true → C n) ∧ ((!h) = false → ((po == 16) = true → ((j == s) = true → C f) ∧ ((j == s) = false → True ∧ ∀ x3, x3 = lnN f u → ∀ x4, x4 = lnE f u → ((x4 != 0) = true → B x4) ∧ ((x4 != 0) = false → C x3))) ∧
    ((po == 16) = false → True ∧ ∀ x5, x5 = lnN f u → ∀ x6, x6 = lnE f u → ((x6 != 0) = true → B x6) ∧ ((x6 != 0) = false → C x5)))
theorem rstep {h : Bool} {po s i j u f : Int} {B C : Int → Prop} (hj : j = 88 + i) (hi : 0 ≤ i) (hf : h = false → f = 0) (hB : wE (aLt po s) i u h f ≠ 0 → B (wE (aLt po s) i u h f)) (hC : wE (aLt po s) i u h f = 0 → C (wN (aLt po s) i u h f)) :
    inR h po s j u f 0 B C := by
  have no : (h = true ∧ i ≠ aLt po s) → ∀ x3, x3 = lnN f u → ∀ x4, x4 = lnE f u → ((x4 != 0) = true → B x4) ∧ ((x4 != 0) = false → C x3) := by
    intro k
    unfold wE at hB
    unfold wE wN at hC
    rw [if_pos k] at hB
    rw [if_pos k, if_pos k] at hC
    rintro _ rfl _ rfl
    exact ⟨fun k => hB (by simpa using k), fun k => hC (by simpa using k)⟩
  refine ⟨fun g => ?_, fun g => ⟨fun g16 => ⟨fun gs => ?_, fun gs => ⟨trivial, no ?_⟩⟩, fun g16 => ⟨trivial, no ?_⟩⟩⟩
  · have g := nt_f g
    have e : ¬ (h = true ∧ i ≠ aLt po s) := by rw [g]; exact fun k => by cases k.1
    have hC := hC (wE_no e)
    rw [wN_no e, hf g] at hC; exact hC
  · have gs : j = s := by simpa using gs
    have e : ¬ (h = true ∧ i ≠ aLt po s) := fun k => k.2 (by unfold aLt; rw [if_pos (eqp g16)]; omega)
    have hC := hC (wE_no e)
    rw [wN_no e] at hC; exact hC
  · have gs : j ≠ s := by simpa using gs
    exact ⟨nf_t g, by unfold aLt; rw [if_pos (eqp g16)]; omega⟩
  · exact ⟨nf_t g, by unfold aLt; rw [if_neg (nep g16)]; omega⟩
theorem qstep {h pol : Bool} {d i j g x y z n q0 q1 q2 : Int} {C : Int → Int → Int → Int → Prop} (hj : j = 88 + i) (hb : B3 1099511627776 x y z) (hn : actR h pol i g = true → -1099511627776 ≤ n ∧ n ≤ 1099511627776)
    (h1 : actR h pol i g = true → C (ptX j (if d = 91 then n + at3 i x y z else n) q0) (ptY j (if d = 91 then n + at3 i x y z else n) q1) (ptZ j (if d = 91 then n + at3 i x y z else n) q2) (if d = 91 then n + at3 i x y z else n))
    (h0 : actR h pol i g = false → C q0 q1 q2 n) :
    ((!h) = true → C q0 q1 q2 n) ∧ ((!h) = false → (pol = true → ((j != g) = true → C q0 q1 q2 n) ∧ ((j != g) = false →
      ((d == 91) = true → True ∧ ∀ x1, x1 = at3 i x y z → (-9223372036854775808 ≤ n + x1 ∧ n + x1 ≤ 9223372036854775807) ∧ ∀ x2, x2 = n + x1 → True ∧ ∀ x3, x3 = ptX j x2 q0 → ∀ x4, x4 = ptY j x2 q1 → ∀ x5, x5 = ptZ j x2 q2 → C x3 x4 x5 x2) ∧
      ((d == 91) = false → True ∧ ∀ x6, x6 = ptX j n q0 → ∀ x7, x7 = ptY j n q1 → ∀ x8, x8 = ptZ j n q2 → C x6 x7 x8 n))) ∧ (pol = false →
      ((d == 91) = true → True ∧ ∀ x1, x1 = at3 i x y z → (-9223372036854775808 ≤ n + x1 ∧ n + x1 ≤ 9223372036854775807) ∧ ∀ x2, x2 = n + x1 → True ∧ ∀ x3, x3 = ptX j x2 q0 → ∀ x4, x4 = ptY j x2 q1 → ∀ x5, x5 = ptZ j x2 q2 → C x3 x4 x5 x2) ∧
      ((d == 91) = false → True ∧ ∀ x6, x6 = ptX j n q0 → ∀ x7, x7 = ptY j n q1 → ∀ x8, x8 = ptZ j n q2 → C x6 x7 x8 n))) := by
  have ab := at3_bd (i := i) hb
  have key : actR h pol i g = true → (((d == 91) = true → True ∧ ∀ x1, x1 = at3 i x y z → (-9223372036854775808 ≤ n + x1 ∧ n + x1 ≤ 9223372036854775807) ∧ ∀ x2, x2 = n + x1 → True ∧ ∀ x3, x3 = ptX j x2 q0 → ∀ x4, x4 = ptY j x2 q1 → ∀ x5, x5 = ptZ j x2 q2 → C x3 x4 x5 x2) ∧
      ((d == 91) = false → True ∧ ∀ x6, x6 = ptX j n q0 → ∀ x7, x7 = ptY j n q1 → ∀ x8, x8 = ptZ j n q2 → C x6 x7 x8 n)) := by
    intro k
    have hn := hn k
    have h1 := h1 k
    refine ⟨fun g91 => ⟨trivial, fun x1 e1 => ⟨by omega, fun x2 e2 => ⟨trivial, ?_⟩⟩⟩, fun g91 => ⟨trivial, ?_⟩⟩
    · rw [if_pos (eqp g91), ← e1, ← e2] at h1
      rintro _ rfl _ rfl _ rfl
      exact h1
    · rw [if_neg (nep g91)] at h1
      rintro _ rfl _ rfl _ rfl
      exact h1
  refine ⟨fun gh => h0 ?_, fun gh => ⟨fun gp => ⟨fun gj => h0 ?_, fun gj => key ?_⟩, fun gp => key ?_⟩⟩
  · unfold actR; rw [nt_f gh]; rfl
  · unfold actR; rw [gp, ← hj, gj, Bool.true_and, Bool.not_true, Bool.and_false]
  · unfold actR; rw [nf_t gh, gp, ← hj, gj]; rfl
  · unfold actR; rw [nf_t gh, gp]; rfl
def tri (f s h : Int) : Prop := (f = 0 ∧ s = 1 ∧ h = 2) ∨ (f = 2 ∧ s = 0 ∧ h = 1) ∨ (f = 1 ∧ s = 2 ∧ h = 0)
theorem tri_P (p : Int) : tri (fsP p) (scP p) (hgP p) := by
  unfold tri fsP scP hgP
  by_cases h : p = 18
  · rw [if_pos h, if_pos h, if_pos h]; decide
  · rw [if_neg h, if_neg h, if_neg h]
    by_cases h2 : p = 19
    · rw [if_pos h2, if_pos h2, if_pos h2]; decide
    · rw [if_neg h2, if_neg h2, if_neg h2]; decide
theorem finP {d f s h x y z w0 w1 w2 u v : Int} {b0 b1 b2 : Bool} (ht : tri f s h) (hf : at3b f b0 b1 b2 = true) (hs : at3b s b0 b1 b2 = true) :
    ptX (88 + s) (adR d (at3 s x y z) v) (ptX (88 + f) (adR d (at3 f x y z) u) (qvR d (actR b0 true 0 (88 + h)) x w0 x)) = mv d b0 x (put3 f s u v 0 w0) ∧
    ptY (88 + s) (adR d (at3 s x y z) v) (ptY (88 + f) (adR d (at3 f x y z) u) (qvR d (actR b1 true 1 (88 + h)) y w1 y)) = mv d b1 y (put3 f s u v 1 w1) ∧
    ptZ (88 + s) (adR d (at3 s x y z) v) (ptZ (88 + f) (adR d (at3 f x y z) u) (qvR d (actR b2 true 2 (88 + h)) z w2 z)) = mv d b2 z (put3 f s u v 2 w2) := by
  have c1 : ∀ p n : Int, n + p = p + n := fun p n => Int.add_comm n p
  rcases ht with ⟨rfl, rfl, rfl⟩ | ⟨rfl, rfl, rfl⟩ | ⟨rfl, rfl, rfl⟩
  · have hf : b0 = true := hf
    have hs : b1 = true := hs
    subst hf hs
    refine ⟨?_, ?_, ?_⟩
    · show adR d x u = mv d true x u
      unfold adR mv; rw [if_pos rfl, c1]
    · show adR d y v = mv d true y v
      unfold adR mv; rw [if_pos rfl, c1]
    · show qvR d (b2 && true) z w2 z = mv d b2 z w2
      unfold qvR mv; rw [Bool.and_true, c1]
  · have hf : b2 = true := hf
    have hs : b0 = true := hs
    subst hf hs
    refine ⟨?_, ?_, ?_⟩
    · show adR d x v = mv d true x v
      unfold adR mv; rw [if_pos rfl, c1]
    · show qvR d (b1 && true) y w1 y = mv d b1 y w1
      unfold qvR mv; rw [Bool.and_true, c1]
    · show adR d z u = mv d true z u
      unfold adR mv; rw [if_pos rfl, c1]
  · have hf : b1 = true := hf
    have hs : b2 = true := hs
    subst hf hs
    refine ⟨?_, ?_, ?_⟩
    · show qvR d (b0 && true) x w0 x = mv d b0 x w0
      unfold qvR mv; rw [Bool.and_true, c1]
    · show adR d y u = mv d true y u
      unfold adR mv; rw [if_pos rfl, c1]
    · show adR d z v = mv d true z v
      unfold adR mv; rw [if_pos rfl, c1]
theorem finN (d : Int) (b : Bool) (p w : Int) (i g : Int) : qvR d (actR b false i g) p w p = mv d b p w := by
  unfold qvR actR mv
  rw [Bool.false_and, Bool.not_false, Bool.and_true, Int.add_comm w p]
theorem keepF {d f s h x y z w0 w1 w2 : Int} {b0 b1 b2 : Bool} (ht : tri f s h) :
    at3 f (nvR d (actR b0 true 0 (88 + h)) x w0) (nvR d (actR b1 true 1 (88 + h)) y w1) (nvR d (actR b2 true 2 (88 + h)) z w2) = at3 f w0 w1 w2 ∧
    at3 s (nvR d (actR b0 true 0 (88 + h)) x w0) (nvR d (actR b1 true 1 (88 + h)) y w1) (nvR d (actR b2 true 2 (88 + h)) z w2) = at3 s w0 w1 w2 := by
  have e : ∀ (b : Bool) (p w : Int), nvR d (b && false) p w = w := fun b p w => by unfold nvR; rw [Bool.and_false]; rfl
  rcases ht with ⟨rfl, rfl, rfl⟩ | ⟨rfl, rfl, rfl⟩ | ⟨rfl, rfl, rfl⟩
  · exact ⟨e b0 x w0, e b1 y w1⟩
  · exact ⟨e b2 z w2, e b0 x w0⟩
  · exact ⟨e b1 y w1, e b2 z w2⟩
end U
namespace Go.Proofs.YtgnknciihdajiaaDoor
open Go Go.HL U
attribute [local irreducible] hfun bodyT fragT
set_option maxHeartbeats 400000 in
set_option maxRecDepth 100000 in
theorem sAxs : Sound Tryd.prog 32 SAxs := by
  refine sound_of (C := CAxs) [] Tryd.func32 (by kernel_rfl) (by decide +kernel) (by kernel_rfl) rfl trivial (loops0 (by kernel_rfl)) ?_
  intro hargs pars R h
  unfold SAxs at h
  split at h
  case h_2 => exfalso; exact h
  rename_i p
  obtain ⟨_, hq⟩ := h
  unfold fsP scP hgP at hq
  refine byVC (vcAxs p R) ⟨fun g => ?_, fun g => ⟨fun g2 => ?_, fun g2 => ?_⟩⟩
  · rw [if_pos (eqp g), if_pos (eqp g), if_pos (eqp g)] at hq; exact hq
  · rw [if_neg (nep g), if_neg (nep g), if_neg (nep g), if_pos (eqp g2), if_pos (eqp g2), if_pos (eqp g2)] at hq; exact hq
  · rw [if_neg (nep g), if_neg (nep g), if_neg (nep g), if_neg (nep g2), if_neg (nep g2), if_neg (nep g2)] at hq; exact hq
set_option maxHeartbeats 400000 in
set_option maxRecDepth 100000 in
theorem sGet : Sound Tryd.prog 29 SGet := by
  refine sound_of (C := CGet) [] Tryd.func29 (by kernel_rfl) (by decide +kernel) (by kernel_rfl) rfl trivial (loops0 (by kernel_rfl)) ?_
  intro hargs pars R h
  unfold SGet at h
  split at h
  case h_2 => exfalso; exact h
  rename_i x y z a
  obtain ⟨_, hq⟩ := h
  unfold at3 at hq
  refine byVC (vcGet x y z a R) ⟨fun g => ?_, fun g => ⟨fun g2 => ?_, fun g2 => ?_⟩⟩
  · rw [if_pos (by have := eqp g; omega)] at hq; exact hq
  · rw [if_neg (by have := nep g; omega), if_pos (by have := eqp g2; omega)] at hq; exact hq
  · rw [if_neg (by have := nep g; omega), if_neg (by have := nep g2; omega)] at hq; exact hq
set_option maxHeartbeats 400000 in
set_option maxRecDepth 100000 in
theorem sPut : Sound Tryd.prog 30 SPut := by
  refine sound_of (C := CPut) [] Tryd.func30 (by kernel_rfl) (by decide +kernel) (by kernel_rfl) rfl trivial (loops0 (by kernel_rfl)) ?_
  intro hargs pars R h
  unfold SPut at h
  split at h
  case h_2 => exfalso; exact h
  rename_i x y z a n
  obtain ⟨_, hq⟩ := h
  unfold ptX ptY ptZ at hq
  refine byVC (vcPut x y z a n R) ⟨fun g => ?_, fun g => ⟨fun g2 => ?_, fun g2 => ?_⟩⟩
  · rw [eqp g] at hq; exact hq
  · rw [eqp g2] at hq; exact hq
  · rw [if_neg (nep g), if_neg (nep g), if_neg (nep g2), if_neg (nep g2)] at hq; exact hq
def encR0 (l : List (List Int)) (m : M) (t7 : Bool) (t8 f s g x y z r0 r1 r2 q0 q1 q2 : Int) (y0 : Bool) (n0 : Int) (h0 : Bool) (n1 : Int) (h1 : Bool) (n2 : Int) (h2 : Bool) (i : Int) : LV :=
  ([.ce (.sl false [4, 4] l), .ce (.ptr 1000003 0), .ce (.ptr 1000005 0), .ce (.ptr 1000006 0), .ce (.bool t7), .ce (.int .i64 t8), .ce (.int .i64 f), .ce (.int .i64 s), .ce (.int .i64 g), .ce (.ptr 1000012 0), .ce (.bool y0), .ce (.ptr 1000014 0), .ce (.ptr 1000015 0), .ce (.num .i64 i)], [cM m, [.int .i64 x, .int .i64 y, .int .i64 z], [.int .i64 r0, .int .i64 r1, .int .i64 r2], [.int .i64 q0, .int .i64 q1, .int .i64 q2], [.int .i64 n0, .int .i64 n1, .int .i64 n2], [.bool h0, .bool h1, .bool h2]])
def retR0 (m : M) (t8 f s g x y z q0 q1 q2 : Int) (y0 : Bool) (n0 : Int) (h0 : Bool) (n1 : Int) (h1 : Bool) (n2 : Int) (h2 : Bool) : LV :=
  ([.ce (.ptr 1000003 0), .ce (.ptr 1000005 0), .ce (.ptr 1000006 0), .ce (.bool false), .ce (.int .i64 t8), .ce (.int .i64 f), .ce (.int .i64 s), .ce (.int .i64 g), .ce (.ptr 1000012 0), .ce (.bool y0), .ce (.ptr 1000014 0), .ce (.ptr 1000015 0)], [cM m, [.int .i64 x, .int .i64 y, .int .i64 z], [.int .i64 0, .int .i64 0, .int .i64 0], [.int .i64 q0, .int .i64 q1, .int .i64 q2], [.int .i64 n0, .int .i64 n1, .int .i64 n2], [.bool h0, .bool h1, .bool h2]])
def encR3 (m : M) (pol y0 h0 h1 h2 : Bool) (f s g x y z r0 r1 r2 n0 n1 n2 q0 q1 q2 i : Int) : LV :=
  ([.ce (.ptr 1000003 0), .ce (.ptr 1000005 0), .ce (.ptr 1000006 0), .ce (.int .i64 f), .ce (.int .i64 s), .ce (.int .i64 g), .ce (.ptr 1000012 0), .ce (.bool y0), .ce (.ptr 1000014 0), .ce (.ptr 1000015 0), .ce (.bool pol), .ce (.num .i64 i)], [cM m, [.int .i64 x, .int .i64 y, .int .i64 z], [.int .i64 r0, .int .i64 r1, .int .i64 r2], [.int .i64 q0, .int .i64 q1, .int .i64 q2], [.int .i64 n0, .int .i64 n1, .int .i64 n2], [.bool h0, .bool h1, .bool h2]])
theorem loopR0 : ∀ v Q, (LR0 v).wp Q → hloop CTgR anR0 (nthLoop Tryd.f18 0) v Q := by
  intro v Q h
  unfold LR0 at h
  split at h
  case h_2 => exact h.elim
  rename_i l t7 t8 f s g y0 i rm x y z r0 r1 r2 q0 q1 q2 n0 n1 n2 h0 h1 h2
  obtain ⟨⟨k1, ⟨z0, z1, z2, z3, z4, z5, z6⟩, hl, m, km⟩, hq⟩ := h
  subst k1 km z0 z1 z2 z3 z4 z5 z6
  refine hloop_rec (σ := Nat) (fun k => encR0 l m t7 t8 f s g x y z r0 r1 r2 q0 q1 q2 (anyK k (fndB 88 l) (fndB 89 l) (fndB 90 l)) (nnk k 0 (wN (aLt m.m10 s) 0 m.m3 (fndB 88 l) (fndN 88 l)) 0) (nnk k 0 (fndB 88 l) false) (nnk k 1 (wN (aLt m.m10 s) 1 m.m3 (fndB 89 l) (fndN 89 l)) 0) (nnk k 1 (fndB 89 l) false) (nnk k 2 (wN (aLt m.m10 s) 2 m.m3 (fndB 90 l) (fndN 90 l)) 0) (nnk k 2 (fndB 90 l) false) (k : Int))
    (fun k => 3 - k) (fun k => k ≤ 3 ∧ (0 < k → wE (aLt m.m10 s) 0 m.m3 (fndB 88 l) (fndN 88 l) = 0) ∧ (1 < k → wE (aLt m.m10 s) 1 m.m3 (fndB 89 l) (fndN 89 l) = 0) ∧ (2 < k → wE (aLt m.m10 s) 2 m.m3 (fndB 90 l) (fndN 90 l) = 0)) ?_ 0 ⟨Nat.zero_le _, fun k => (by omega), fun k => (by omega), fun k => (by omega)⟩
  intro k hk K hn hx hr
  obtain ⟨hk, i0, i1, i2⟩ := hk
  have hk : k = 0 ∨ k = 1 ∨ k = 2 ∨ k = 3 := by omega
  rcases hk with rfl | rfl | rfl | rfl
  · refine byVB (vbR00 l m t7 false false false false t8 f s g x y z r0 r1 r2 0 0 0 q0 q1 q2 K) ⟨hl, ?_⟩
    rintro _ rfl _ rfl
    exact anyst (I := fun w => inR (fndB 88 l) m.m10 s 88 m.m3 (fndN 88 l) 0 (fun e => K .ret (retR0 m e f s g x y z q0 q1 q2 w 0 (fndB 88 l) 0 false 0 false)) (fun n => K .normal (encR0 l m t7 t8 f s g x y z r0 r1 r2 q0 q1 q2 w n (fndB 88 l) 0 false 0 false 1)))
      (rstep (i := 0) rfl (by decide) fnd_no (fun g => hr _ (hq.1 g)) (fun g => hn 1 ⟨by omega, fun _ => g, fun k => (by omega), fun k => (by omega)⟩ (by omega)))
  · refine byVB (vbR01 l m t7 (fndB 88 l) (fndB 88 l) false false t8 f s g x y z r0 r1 r2 (wN (aLt m.m10 s) 0 m.m3 (fndB 88 l) (fndN 88 l)) 0 0 q0 q1 q2 K) ⟨hl, ?_⟩
    rintro _ rfl _ rfl
    exact anyst (I := fun w => inR (fndB 89 l) m.m10 s 89 m.m3 (fndN 89 l) 0 (fun e => K .ret (retR0 m e f s g x y z q0 q1 q2 w (wN (aLt m.m10 s) 0 m.m3 (fndB 88 l) (fndN 88 l)) (fndB 88 l) 0 (fndB 89 l) 0 false)) (fun n => K .normal (encR0 l m t7 t8 f s g x y z r0 r1 r2 q0 q1 q2 w (wN (aLt m.m10 s) 0 m.m3 (fndB 88 l) (fndN 88 l)) (fndB 88 l) n (fndB 89 l) 0 false 2)))
      (rstep (i := 1) rfl (by decide) fnd_no (fun g => hr _ (hq.2.1 ⟨i0 (by omega), g⟩)) (fun g => hn 2 ⟨by omega, fun _ => i0 (by omega), fun _ => g, fun k => (by omega)⟩ (by omega)))
  · refine byVB (vbR02 l m t7 ((fndB 88 l) || (fndB 89 l)) (fndB 88 l) (fndB 89 l) false t8 f s g x y z r0 r1 r2 (wN (aLt m.m10 s) 0 m.m3 (fndB 88 l) (fndN 88 l)) (wN (aLt m.m10 s) 1 m.m3 (fndB 89 l) (fndN 89 l)) 0 q0 q1 q2 K) ⟨hl, ?_⟩
    rintro _ rfl _ rfl
    have eo : ((fndB 88 l) || (fndB 89 l) || (fndB 90 l)) = ((fndB 88 l) || ((fndB 89 l) || (fndB 90 l))) := Bool.or_assoc _ _ _
    exact anyst (I := fun w => inR (fndB 90 l) m.m10 s 90 m.m3 (fndN 90 l) 0 (fun e => K .ret (retR0 m e f s g x y z q0 q1 q2 w (wN (aLt m.m10 s) 0 m.m3 (fndB 88 l) (fndN 88 l)) (fndB 88 l) (wN (aLt m.m10 s) 1 m.m3 (fndB 89 l) (fndN 89 l)) (fndB 89 l) 0 (fndB 90 l))) (fun n => K .normal (encR0 l m t7 t8 f s g x y z r0 r1 r2 q0 q1 q2 w (wN (aLt m.m10 s) 0 m.m3 (fndB 88 l) (fndN 88 l)) (fndB 88 l) (wN (aLt m.m10 s) 1 m.m3 (fndB 89 l) (fndN 89 l)) (fndB 89 l) n (fndB 90 l) 3)))
      (rstep (i := 2) rfl (by decide) fnd_no (fun g => (by rw [eo]; exact hr _ (hq.2.2.1 ⟨i0 (by omega), i1 (by omega), g⟩))) (fun g => (by rw [eo]; exact hn 3 ⟨by omega, fun _ => i0 (by omega), fun _ => i1 (by omega), fun _ => g⟩ (by omega))))
  · exact byVB (vbR03 l m t7 _ _ _ _ t8 f s g x y z r0 r1 r2 _ _ _ q0 q1 q2 K) (hx _ _ (hq.2.2.2 ⟨i0 (by omega), i1 (by omega), i2 (by omega)⟩))
theorem loopR3 : ∀ v Q, (LR3 v).wp Q → hloop CTgR anR3 (nthLoop Tryd.f18 1) v Q := by
  intro v Q h
  unfold LR3 at h
  split at h
  case h_2 => exact h.elim
  rename_i f s g y0 pol i rm x y z r0 r1 r2 q0 q1 q2 n0 n1 n2 h0 h1 h2
  obtain ⟨⟨k1, ⟨m, km⟩, hb, b0, b1, b2⟩, hq⟩ := h
  subst k1 km
  have hq := hq (((nvR m.m2 (actR h0 pol 0 g) x n0), (nvR m.m2 (actR h1 pol 1 g) y n1), (nvR m.m2 (actR h2 pol 2 g) z n2)), ((qvR m.m2 (actR h0 pol 0 g) x n0 q0), (qvR m.m2 (actR h1 pol 1 g) y n1 q1), (qvR m.m2 (actR h2 pol 2 g) z n2 q2))) ⟨rfl, rfl, rfl, rfl, rfl, rfl⟩
  refine hloop_rec (σ := Nat) (fun k => encR3 m pol y0 h0 h1 h2 f s g x y z r0 r1 r2 (nnk k 0 (nvR m.m2 (actR h0 pol 0 g) x n0) n0) (nnk k 1 (nvR m.m2 (actR h1 pol 1 g) y n1) n1) (nnk k 2 (nvR m.m2 (actR h2 pol 2 g) z n2) n2) (nnk k 0 (qvR m.m2 (actR h0 pol 0 g) x n0 q0) q0) (nnk k 1 (qvR m.m2 (actR h1 pol 1 g) y n1 q1) q1) (nnk k 2 (qvR m.m2 (actR h2 pol 2 g) z n2 q2) q2) (k : Int))
    (fun k => 3 - k) (fun k => k ≤ 3) ?_ 0 (Nat.zero_le _)
  intro k hk K hn hx hr
  have hk : k = 0 ∨ k = 1 ∨ k = 2 ∨ k = 3 := by omega
  rcases hk with rfl | rfl | rfl | rfl
  · have nx : K .normal (encR3 m pol y0 h0 h1 h2 f s g x y z r0 r1 r2 (nvR m.m2 (actR h0 pol 0 g) x n0) n1 n2 (qvR m.m2 (actR h0 pol 0 g) x n0 q0) q1 q2 1) := hn 1 (by omega) (by omega)
    refine byVB (vbR30 m pol y0 h0 h1 h2 f s g x y z r0 r1 r2 n0 n1 n2 q0 q1 q2 K) (qstep (C := fun a b c n => K .normal (encR3 m pol y0 h0 h1 h2 f s g x y z r0 r1 r2 n n1 n2 a b c 1)) (i := 0) rfl hb b0 (fun k => ?_) (fun k => ?_))
    · unfold nvR qvR at nx
      rw [if_pos k, if_pos k] at nx; exact nx
    · unfold nvR qvR at nx
      rw [k] at nx; exact nx
  · have nx : K .normal (encR3 m pol y0 h0 h1 h2 f s g x y z r0 r1 r2 (nvR m.m2 (actR h0 pol 0 g) x n0) (nvR m.m2 (actR h1 pol 1 g) y n1) n2 (qvR m.m2 (actR h0 pol 0 g) x n0 q0) (qvR m.m2 (actR h1 pol 1 g) y n1 q1) q2 2) := hn 2 (by omega) (by omega)
    refine byVB (vbR31 m pol y0 h0 h1 h2 f s g x y z r0 r1 r2 (nvR m.m2 (actR h0 pol 0 g) x n0) n1 n2 (qvR m.m2 (actR h0 pol 0 g) x n0 q0) q1 q2 K) (qstep (C := fun a b c n => K .normal (encR3 m pol y0 h0 h1 h2 f s g x y z r0 r1 r2 (nvR m.m2 (actR h0 pol 0 g) x n0) n n2 a b c 2)) (i := 1) rfl hb b1 (fun k => ?_) (fun k => ?_))
    · have e1 : (nvR m.m2 (actR h1 pol 1 g) y n1) = if m.m2 = 91 then n1 + y else n1 := by unfold nvR; rw [if_pos k]
      have e2 : (qvR m.m2 (actR h1 pol 1 g) y n1 q1) = if m.m2 = 91 then n1 + y else n1 := by unfold qvR; rw [if_pos k]
      rw [e1, e2] at nx; exact nx
    · have e1 : (nvR m.m2 (actR h1 pol 1 g) y n1) = n1 := by unfold nvR; rw [k]; rfl
      have e2 : (qvR m.m2 (actR h1 pol 1 g) y n1 q1) = q1 := by unfold qvR; rw [k]; rfl
      rw [e1, e2] at nx; exact nx
  · have nx : K .normal (encR3 m pol y0 h0 h1 h2 f s g x y z r0 r1 r2 (nvR m.m2 (actR h0 pol 0 g) x n0) (nvR m.m2 (actR h1 pol 1 g) y n1) (nvR m.m2 (actR h2 pol 2 g) z n2) (qvR m.m2 (actR h0 pol 0 g) x n0 q0) (qvR m.m2 (actR h1 pol 1 g) y n1 q1) (qvR m.m2 (actR h2 pol 2 g) z n2 q2) 3) := hn 3 (by omega) (by omega)
    refine byVB (vbR32 m pol y0 h0 h1 h2 f s g x y z r0 r1 r2 (nvR m.m2 (actR h0 pol 0 g) x n0) (nvR m.m2 (actR h1 pol 1 g) y n1) n2 (qvR m.m2 (actR h0 pol 0 g) x n0 q0) (qvR m.m2 (actR h1 pol 1 g) y n1 q1) q2 K) (qstep (C := fun a b c n => K .normal (encR3 m pol y0 h0 h1 h2 f s g x y z r0 r1 r2 (nvR m.m2 (actR h0 pol 0 g) x n0) (nvR m.m2 (actR h1 pol 1 g) y n1) n a b c 3)) (i := 2) rfl hb b2 (fun k => ?_) (fun k => ?_))
    · have e1 : (nvR m.m2 (actR h2 pol 2 g) z n2) = if m.m2 = 91 then n2 + z else n2 := by unfold nvR; rw [if_pos k]
      have e2 : (qvR m.m2 (actR h2 pol 2 g) z n2 q2) = if m.m2 = 91 then n2 + z else n2 := by unfold qvR; rw [if_pos k]
      rw [e1, e2] at nx; exact nx
    · have e1 : (nvR m.m2 (actR h2 pol 2 g) z n2) = n2 := by unfold nvR; rw [k]; rfl
      have e2 : (qvR m.m2 (actR h2 pol 2 g) z n2 q2) = q2 := by unfold qvR; rw [k]; rfl
      rw [e1, e2] at nx; exact nx
  · exact byVB (vbR33 m pol y0 h0 h1 h2 f s g x y z r0 r1 r2 _ _ _ _ _ _ K) (hx _ _ hq)
theorem fragR1 : ∀ v Q, (LR1 v).wp Q → fragT CTgR anR1 (nthFrag CTgR Tryd.f18 0) v Q := by
  intro v Q h
  unfold LR1 at h
  split at h
  case h_2 => exact h.elim
  rename_i t7 t8 f s g y0 rm x y z r0 r1 r2 q0 q1 q2 n0 n1 n2 h0 h1 h2
  obtain ⟨⟨⟨f1, f2, s1, s2⟩, m, km⟩, hq⟩ := h
  subst km
  refine byVG (vgR1 m t7 y0 h0 h1 h2 t8 f s g x y z r0 r1 r2 n0 n1 n2 q0 q1 q2 Q) (sp3L ⟨f1, f2⟩ ?_ ?_ ?_)
  all_goals
    intro e
    subst e
    refine sp3L ⟨s1, s2⟩ ?_ ?_ ?_
    all_goals
      intro e
      subst e
      exact ⟨fun g => hq _ (by rw [show decide (mI (cM m) 10 = 16) = true from decide_eq_true (eqp g)]; rfl), fun g => hq _ (by rw [show decide (mI (cM m) 10 = 16) = false from decide_eq_false (nep g)]; rfl)⟩
theorem fragR2 : ∀ v Q, (LR2 v).wp Q → fragT CTgR anR2 (nthFrag CTgR Tryd.f18 1) v Q := by
  intro v Q h
  unfold LR2 at h
  split at h
  case h_2 => exact h.elim
  rename_i t7 t8 f s g y0 rm x y z r0 r1 r2 q0 q1 q2 n0 n1 n2 h0 h1 h2
  obtain ⟨⟨⟨f1, f2⟩, m, km⟩, hq⟩ := h
  subst km
  refine byVG (vgR2 m t7 y0 h0 h1 h2 t8 f s g x y z r0 r1 r2 n0 n1 n2 q0 q1 q2 Q) (sp3L ⟨f1, f2⟩ ?_ ?_ ?_)
  all_goals
    intro e
    subst e
    exact ⟨fun g => hq _ (by rw [show decide (mI (cM m) 10 = 16) = true from decide_eq_true (eqp g)]; rfl), fun g => hq _ (by rw [show decide (mI (cM m) 10 = 16) = false from decide_eq_false (nep g)]; rfl)⟩
theorem fragR4 : ∀ v Q, (LR4 v).wp Q → fragT CTgR anR4 (nthFrag CTgR Tryd.f18 2) v Q := by
  intro v Q h
  unfold LR4 at h
  split at h
  case h_2 => exact h.elim
  rename_i f s y0 c rm x y z r0 r1 r2 q0 q1 q2 n0 n1 n2
  obtain ⟨⟨⟨f1, f2, s1, s2⟩, hb, m, km⟩, hq⟩ := h
  subst km
  refine byVG (vgR4 m y0 c f s x y z r0 r1 r2 n0 n1 n2 q0 q1 q2 Q) ⟨fun g => sp3L ⟨f1, f2⟩ ?_ ?_ ?_, fun g => hq (q0, q1, q2) ⟨fun _ => ⟨rfl, rfl, rfl⟩, fun g2 => (by rw [g] at g2; cases g2)⟩⟩
  all_goals
    intro e
    subst e
    refine sp3L ⟨s1, s2⟩ ?_ ?_ ?_
    all_goals
      intro e
      subst e
      refine ⟨trivial, fun u eu w ew b _ => ?_⟩
      have bu : -33554432 ≤ u ∧ u ≤ 33554433 := by rw [eu]; exact (rt_bd _ _ _).1
      have bw : -33554432 ≤ w ∧ w ≤ 33554433 := by rw [ew]; exact (rt_bd _ _ _).2
      refine ⟨fun g91 => ⟨trivial, fun a ea => ?_⟩, fun g91 => ⟨trivial, fun c1 ec1 c2 ec2 c3 ec3 => ⟨trivial, fun d1 ed1 d2 ed2 d3 ed3 => hq (d1, d2, d3) ⟨fun g2 => (by rw [g] at g2; cases g2), fun _ => ?_⟩⟩⟩⟩
      · have ba : -1099511627776 ≤ a ∧ a ≤ 1099511627776 := by rw [ea]; exact at3_bd hb
        refine ⟨by omega, fun a1 ea1 => ⟨trivial, fun b1 eb1 => ?_⟩⟩
        have bb : -1099511627776 ≤ b1 ∧ b1 ≤ 1099511627776 := by rw [eb1]; exact at3_bd hb
        refine ⟨by omega, fun b2 eb2 => ⟨trivial, fun c1 ec1 c2 ec2 c3 ec3 => ⟨trivial, fun d1 ed1 d2 ed2 d3 ed3 => hq (d1, d2, d3) ⟨fun g2 => (by rw [g] at g2; cases g2), fun _ => ?_⟩⟩⟩⟩
        have ad : ∀ p u, adR (mI (cM m) 2) p u = u + p := fun p u => if_pos (eqp g91)
        rw [ad, ad]
        refine ⟨?_, ?_, ?_⟩
        · rw [ed1, ec1, eb2, ea1, eb1, ea, eu, ew]; rfl
        · rw [ed2, ec2, eb2, ea1, eb1, ea, eu, ew]; rfl
        · rw [ed3, ec3, eb2, ea1, eb1, ea, eu, ew]; rfl
      · have ad : ∀ p u, adR (mI (cM m) 2) p u = u := fun p u => if_neg (nep g91)
        rw [ad, ad]
        refine ⟨?_, ?_, ?_⟩
        · rw [ed1, ec1, eu, ew]; rfl
        · rw [ed2, ec2, eu, ew]; rfl
        · rw [ed3, ec3, eu, ew]; rfl
theorem tgRT (m : M) (l : List (List Int)) (x y z : Int) (R : Res → Prop) (f s h x2 x3 x4 : Int) (e2 : x2 = 88 + f) (e3 : x3 = 88 + s) (e4 : x4 = 88 + h) (ht : tri f s h) (hxyz : B3 1048576 x y z) (hl : l.length ≤ 1000)
    (hR : ∀ r, r = tg1 f s (aLt m.m10 x3) m.m2 m.m3 (fndB 88 l) (fndB 89 l) (fndB 90 l) x y z (fndN 88 l) (fndN 89 l) (fndN 90 l) → R ⟨.tup [.agg [.int .i64 r.x, .int .i64 r.y, .int .i64 r.z], .ce (.bool r.any), .ce (.int .i64 r.e)], false, [], []⟩) :
    ((0 : Int) = (0 : Int) ∧ (false = false ∧ (0 : Int) = (0 : Int) ∧ (0 : Int) = (0 : Int) ∧ (0 : Int) = (0 : Int) ∧ false = false ∧ false = false ∧ false = false) ∧ List.length l ≤ (1000 : Nat) ∧ ∃ (m_1 : M), (cM m) = cM m_1) ∧ (wE (aLt (mI (cM m) (10 : Nat)) x3) (0 : Int) (mI (cM m) (3 : Nat)) (fndB (88 : Int) l) (fndN (88 : Int) l) ≠ (0 : Int) → R ⟨.tup [.agg [.int .i64 0, .int .i64 0, .int .i64 0], .ce (.bool false), .ce (.int .i64 (wE (aLt (mI (cM m) (10 : Nat)) x3) (0 : Int) (mI (cM m) (3 : Nat)) (fndB (88 : Int) l) (fndN (88 : Int) l)))], false, [], []⟩) ∧ (wE (aLt (mI (cM m) (10 : Nat)) x3) (0 : Int) (mI (cM m) (3 : Nat)) (fndB (88 : Int) l) (fndN (88 : Int) l) = (0 : Int) ∧ wE (aLt (mI (cM m) (10 : Nat)) x3) (1 : Int) (mI (cM m) (3 : Nat)) (fndB (89 : Int) l) (fndN (89 : Int) l) ≠ (0 : Int) → R ⟨.tup [.agg [.int .i64 0, .int .i64 0, .int .i64 0], .ce (.bool false), .ce (.int .i64 (wE (aLt (mI (cM m) (10 : Nat)) x3) (1 : Int) (mI (cM m) (3 : Nat)) (fndB (89 : Int) l) (fndN (89 : Int) l)))], false, [], []⟩) ∧ (wE (aLt (mI (cM m) (10 : Nat)) x3) (0 : Int) (mI (cM m) (3 : Nat)) (fndB (88 : Int) l) (fndN (88 : Int) l) = (0 : Int) ∧ wE (aLt (mI (cM m) (10 : Nat)) x3) (1 : Int) (mI (cM m) (3 : Nat)) (fndB (89 : Int) l) (fndN (89 : Int) l) = (0 : Int) ∧ wE (aLt (mI (cM m) (10 : Nat)) x3) (2 : Int) (mI (cM m) (3 : Nat)) (fndB (90 : Int) l) (fndN (90 : Int) l) ≠ (0 : Int) → R ⟨.tup [.agg [.int .i64 0, .int .i64 0, .int .i64 0], .ce (.bool false), .ce (.int .i64 (wE (aLt (mI (cM m) (10 : Nat)) x3) (2 : Int) (mI (cM m) (3 : Nat)) (fndB (90 : Int) l) (fndN (90 : Int) l)))], false, [], []⟩) ∧ (wE (aLt (mI (cM m) (10 : Nat)) x3) (0 : Int) (mI (cM m) (3 : Nat)) (fndB (88 : Int) l) (fndN (88 : Int) l) = (0 : Int) ∧ wE (aLt (mI (cM m) (10 : Nat)) x3) (1 : Int) (mI (cM m) (3 : Nat)) (fndB (89 : Int) l) (fndN (89 : Int) l) = (0 : Int) ∧ wE (aLt (mI (cM m) (10 : Nat)) x3) (2 : Int) (mI (cM m) (3 : Nat)) (fndB (90 : Int) l) (fndN (90 : Int) l) = (0 : Int) → ((88 ≤ x2 ∧ x2 ≤ 90 ∧ 88 ≤ x3 ∧ x3 ≤ 90) ∧ ∃ (m_1 : M), (cM m) = cM m_1) ∧ ∀ (x_1 : Bool), x_1 = (decide (mI (cM m) (10 : Nat) = (16 : Int)) && at3b (x2 - 88) (fndB (88 : Int) l) (fndB (89 : Int) l) (fndB (90 : Int) l) != at3b (x3 - 88) (fndB (88 : Int) l) (fndB (89 : Int) l) (fndB (90 : Int) l)) → (x_1 = true → R ⟨.tup [.agg [.int .i64 0, .int .i64 0, .int .i64 0], .ce (.bool false), .ce (.int .i64 9)], false, [], []⟩) ∧ (x_1 = false → ((88 ≤ x2 ∧ x2 ≤ 90) ∧ ∃ (m_1 : M), (cM m) = cM m_1) ∧ ∀ (x_2 : Bool), x_2 = (decide (mI (cM m) (10 : Nat) = (16 : Int)) && at3b (x2 - 88) (fndB (88 : Int) l) (fndB (89 : Int) l) (fndB (90 : Int) l)) → ((0 : Int) = (0 : Int) ∧ (∃ (m_1 : M), (cM m) = cM m_1) ∧ B3 (1099511627776 : Int) x y z ∧ (actR (fndB (88 : Int) l) x_2 (0 : Int) x4 = true → (-1099511627776 : Int) ≤ wN (aLt (mI (cM m) (10 : Nat)) x3) (0 : Int) (mI (cM m) (3 : Nat)) (fndB (88 : Int) l) (fndN (88 : Int) l) ∧ wN (aLt (mI (cM m) (10 : Nat)) x3) (0 : Int) (mI (cM m) (3 : Nat)) (fndB (88 : Int) l) (fndN (88 : Int) l) ≤ (1099511627776 : Int)) ∧ (actR (fndB (89 : Int) l) x_2 (1 : Int) x4 = true → (-1099511627776 : Int) ≤ wN (aLt (mI (cM m) (10 : Nat)) x3) (1 : Int) (mI (cM m) (3 : Nat)) (fndB (89 : Int) l) (fndN (89 : Int) l) ∧ wN (aLt (mI (cM m) (10 : Nat)) x3) (1 : Int) (mI (cM m) (3 : Nat)) (fndB (89 : Int) l) (fndN (89 : Int) l) ≤ (1099511627776 : Int)) ∧ (actR (fndB (90 : Int) l) x_2 (2 : Int) x4 = true → (-1099511627776 : Int) ≤ wN (aLt (mI (cM m) (10 : Nat)) x3) (2 : Int) (mI (cM m) (3 : Nat)) (fndB (90 : Int) l) (fndN (90 : Int) l) ∧ wN (aLt (mI (cM m) (10 : Nat)) x3) (2 : Int) (mI (cM m) (3 : Nat)) (fndB (90 : Int) l) (fndN (90 : Int) l) ≤ (1099511627776 : Int))) ∧ ∀ (x_3 : (Int × Int × Int) × Int × Int × Int), x_3.fst.1 = nvR (mI (cM m) (2 : Nat)) (actR (fndB (88 : Int) l) x_2 (0 : Int) x4) x (wN (aLt (mI (cM m) (10 : Nat)) x3) (0 : Int) (mI (cM m) (3 : Nat)) (fndB (88 : Int) l) (fndN (88 : Int) l)) ∧ x_3.fst.snd.1 = nvR (mI (cM m) (2 : Nat)) (actR (fndB (89 : Int) l) x_2 (1 : Int) x4) y (wN (aLt (mI (cM m) (10 : Nat)) x3) (1 : Int) (mI (cM m) (3 : Nat)) (fndB (89 : Int) l) (fndN (89 : Int) l)) ∧ x_3.fst.snd.2 = nvR (mI (cM m) (2 : Nat)) (actR (fndB (90 : Int) l) x_2 (2 : Int) x4) z (wN (aLt (mI (cM m) (10 : Nat)) x3) (2 : Int) (mI (cM m) (3 : Nat)) (fndB (90 : Int) l) (fndN (90 : Int) l)) ∧ x_3.snd.1 = qvR (mI (cM m) (2 : Nat)) (actR (fndB (88 : Int) l) x_2 (0 : Int) x4) x (wN (aLt (mI (cM m) (10 : Nat)) x3) (0 : Int) (mI (cM m) (3 : Nat)) (fndB (88 : Int) l) (fndN (88 : Int) l)) x ∧ x_3.snd.snd.1 = qvR (mI (cM m) (2 : Nat)) (actR (fndB (89 : Int) l) x_2 (1 : Int) x4) y (wN (aLt (mI (cM m) (10 : Nat)) x3) (1 : Int) (mI (cM m) (3 : Nat)) (fndB (89 : Int) l) (fndN (89 : Int) l)) y ∧ x_3.snd.snd.2 = qvR (mI (cM m) (2 : Nat)) (actR (fndB (90 : Int) l) x_2 (2 : Int) x4) z (wN (aLt (mI (cM m) (10 : Nat)) x3) (2 : Int) (mI (cM m) (3 : Nat)) (fndB (90 : Int) l) (fndN (90 : Int) l)) z → ((88 ≤ x2 ∧ x2 ≤ 90 ∧ 88 ≤ x3 ∧ x3 ≤ 90) ∧ B3 (1099511627776 : Int) x y z ∧ ∃ (m_1 : M), (cM m) = cM m_1) ∧ ∀ (x_4 : Int × Int × Int), (x_2 = false → x_4.1 = x_3.snd.1 ∧ x_4.snd.1 = x_3.snd.snd.1 ∧ x_4.snd.2 = x_3.snd.snd.2) ∧ (x_2 = true → x_4.1 = ptX x3 (adR (mI (cM m) (2 : Nat)) (at3 (x3 - 88) x y z) (rtW (at3 (x2 - 88) x_3.fst.1 x_3.fst.snd.1 x_3.fst.snd.2) (0 : Int) (at3 (x3 - 88) x_3.fst.1 x_3.fst.snd.1 x_3.fst.snd.2))) (ptX x2 (adR (mI (cM m) (2 : Nat)) (at3 (x2 - 88) x y z) (rtU (at3 (x2 - 88) x_3.fst.1 x_3.fst.snd.1 x_3.fst.snd.2) (0 : Int) (at3 (x3 - 88) x_3.fst.1 x_3.fst.snd.1 x_3.fst.snd.2))) x_3.snd.1) ∧ x_4.snd.1 = ptY x3 (adR (mI (cM m) (2 : Nat)) (at3 (x3 - 88) x y z) (rtW (at3 (x2 - 88) x_3.fst.1 x_3.fst.snd.1 x_3.fst.snd.2) (0 : Int) (at3 (x3 - 88) x_3.fst.1 x_3.fst.snd.1 x_3.fst.snd.2))) (ptY x2 (adR (mI (cM m) (2 : Nat)) (at3 (x2 - 88) x y z) (rtU (at3 (x2 - 88) x_3.fst.1 x_3.fst.snd.1 x_3.fst.snd.2) (0 : Int) (at3 (x3 - 88) x_3.fst.1 x_3.fst.snd.1 x_3.fst.snd.2))) x_3.snd.snd.1) ∧ x_4.snd.2 = ptZ x3 (adR (mI (cM m) (2 : Nat)) (at3 (x3 - 88) x y z) (rtW (at3 (x2 - 88) x_3.fst.1 x_3.fst.snd.1 x_3.fst.snd.2) (0 : Int) (at3 (x3 - 88) x_3.fst.1 x_3.fst.snd.1 x_3.fst.snd.2))) (ptZ x2 (adR (mI (cM m) (2 : Nat)) (at3 (x2 - 88) x y z) (rtU (at3 (x2 - 88) x_3.fst.1 x_3.fst.snd.1 x_3.fst.snd.2) (0 : Int) (at3 (x3 - 88) x_3.fst.1 x_3.fst.snd.1 x_3.fst.snd.2))) x_3.snd.snd.2)) → True ∧ ∀ (x9 : Bool), x9 = wn x_4.1 x_4.snd.1 x_4.snd.2 → ((!x9) = true → R ⟨.tup [.agg [.int .i64 0, .int .i64 0, .int .i64 0], .ce (.bool false), .ce (.int .i64 3)], false, [], []⟩) ∧ ((!x9) = false → R ⟨.tup [.agg [.int .i64 x_4.1, .int .i64 x_4.snd.1, .int .i64 x_4.snd.2], .ce (.bool (fndB (88 : Int) l || (fndB (89 : Int) l || fndB (90 : Int) l))), .ce (.int .i64 0)], false, [], []⟩))) := by
  have hR : ∀ r, r = tg1 f s (aLt (mI (cM m) 10) x3) (mI (cM m) 2) (mI (cM m) 3) (fndB 88 l) (fndB 89 l) (fndB 90 l) x y z (fndN 88 l) (fndN 89 l) (fndN 90 l) → R ⟨.tup [.agg [.int .i64 r.x, .int .i64 r.y, .int .i64 r.z], .ce (.bool r.any), .ce (.int .i64 r.e)], false, [], []⟩ := hR
  have ft : (0 ≤ f ∧ f ≤ 2) ∧ (0 ≤ s ∧ s ≤ 2) ∧ s ≠ h := by unfold tri at ht; omega
  have ha : 0 ≤ aLt (mI (cM m) 10) x3 → aLt (mI (cM m) 10) x3 = s ∧ decide (mI (cM m) 10 = 16) = true := by
    intro k
    unfold aLt at *
    by_cases c : mI (cM m) 10 = 16
    · rw [if_pos c]; exact ⟨by omega, decide_eq_true c⟩
    · rw [if_neg c] at k; omega
  have hd : decide (0 ≤ aLt (mI (cM m) 10) x3) = decide (mI (cM m) 10 = 16) := by
    refine decide_eq_decide.2 ⟨fun k => of_decide_eq_true (ha k).2, fun k => ?_⟩
    unfold aLt; rw [if_pos k]; omega
  have x2f : x2 - 88 = f := by omega
  have x3f : x3 - 88 = s := by omega
  rw [x2f, x3f]
  generalize aLt (mI (cM m) 10) x3 = a at *
  generalize mI (cM m) 10 = po at *
  generalize mI (cM m) 2 = dd at *
  generalize mI (cM m) 3 = u at *
  generalize fndB 88 l = b0 at *
  generalize fndB 89 l = b1 at *
  generalize fndB 90 l = b2 at *
  generalize fndN 88 l = n0 at *
  generalize fndN 89 l = n1 at *
  generalize fndN 90 l = n2 at *
  refine ⟨⟨rfl, ⟨rfl, rfl, rfl, rfl, rfl, rfl, rfl⟩, hl, m, rfl⟩, fun c => ?_, fun c => ?_, fun c => ?_, fun c => ?_⟩
  · exact hR ⟨0, 0, 0, false, wE a 0 u b0 n0⟩ (by unfold tg1; rw [if_pos c])
  · exact hR ⟨0, 0, 0, false, wE a 1 u b1 n1⟩ (by unfold tg1; rw [if_neg (fun k => k c.1), if_pos c.2])
  · exact hR ⟨0, 0, 0, false, wE a 2 u b2 n2⟩ (by unfold tg1; rw [if_neg (fun k => k c.1), if_neg (fun k => k c.2.1), if_pos c.2.2])
  unfold tg1 at hR
  rw [if_neg (fun k => k c.1), if_neg (fun k => k c.2.1), if_neg (fun k => k c.2.2)] at hR
  have q0 : b0 = true → (0 : Int) ≠ a → -1048576 ≤ wN a 0 u b0 n0 ∧ wN a 0 u b0 n0 ≤ 1048576 := fun k1 k2 => wN_bd k1 k2
  have q1 : b1 = true → (1 : Int) ≠ a → -1048576 ≤ wN a 1 u b1 n1 ∧ wN a 1 u b1 n1 ≤ 1048576 := fun k1 k2 => wN_bd k1 k2
  have q2 : b2 = true → (2 : Int) ≠ a → -1048576 ≤ wN a 2 u b2 n2 ∧ wN a 2 u b2 n2 ≤ 1048576 := fun k1 k2 => wN_bd k1 k2
  generalize wN a 0 u b0 n0 = w0 at *
  generalize wN a 1 u b1 n1 = w1 at *
  generalize wN a 2 u b2 n2 = w2 at *
  refine ⟨⟨by omega, m, rfl⟩, fun b eb => ⟨fun g => ?_, fun g => ?_⟩⟩
  · exact hR ⟨0, 0, 0, false, 9⟩ (by unfold tg2; rw [hd, if_pos (eb.symm.trans g)])
  have g9 := eb.symm.trans g
  unfold tg2 at hR
  rw [hd, if_neg (by rw [g9]; decide)] at hR
  refine ⟨⟨by omega, m, rfl⟩, fun p ep => ?_⟩
  rw [← ep] at hR
  have na : ∀ (i : Int) (b : Bool), actR b p i x4 = true → b = at3b i b0 b1 b2 → 0 ≤ i → b = true ∧ i ≠ a := by
    intro i b k kb h0
    unfold actR at k
    rw [Bool.and_eq_true] at k
    refine ⟨k.1, fun ki => ?_⟩
    obtain ⟨aS, pd⟩ := ha (by omega)
    rw [aS] at ki
    rw [pd, Bool.true_and] at g9 ep
    rw [k.1, ki] at kb
    rw [← kb] at g9
    have pt : at3b f b0 b1 b2 = true := by
      cases hh : at3b f b0 b1 b2 with
      | true => rfl
      | false => rw [hh] at g9; cases g9
    rw [pt] at ep
    have k2 := k.2
    rw [ep, e4, ki] at k2
    have e : ((88 + s) != (88 + h)) = true := by
      rw [bne_iff_ne]; omega
    rw [e] at k2
    cases k2
  refine ⟨⟨rfl, ⟨m, rfl⟩, B3_mono hxyz (by decide), fun k => ?_, fun k => ?_, fun k => ?_⟩, fun k hk => ⟨⟨by omega, B3_mono hxyz (by decide), m, rfl⟩, fun q hq => ⟨trivial, fun x9 e9 => ?_⟩⟩⟩
  · have := na 0 b0 k rfl (by decide); have := q0 this.1 this.2; omega
  · have := na 1 b1 k rfl (by decide); have := q1 this.1 this.2; omega
  · have := na 2 b2 k rfl (by decide); have := q2 this.1 this.2; omega
  obtain ⟨k0, k1, k2, k3, k4, k5⟩ := hk
  have et : (if p = true then
      tg3 dd b0 b1 b2 x y z (put3 f s (rtU (at3 f w0 w1 w2) 0 (at3 s w0 w1 w2)) (rtW (at3 f w0 w1 w2) 0 (at3 s w0 w1 w2)) 0 w0)
        (put3 f s (rtU (at3 f w0 w1 w2) 0 (at3 s w0 w1 w2)) (rtW (at3 f w0 w1 w2) 0 (at3 s w0 w1 w2)) 1 w1)
        (put3 f s (rtU (at3 f w0 w1 w2) 0 (at3 s w0 w1 w2)) (rtW (at3 f w0 w1 w2) 0 (at3 s w0 w1 w2)) 2 w2)
      else tg3 dd b0 b1 b2 x y z w0 w1 w2) = (if wn q.1 q.2.1 q.2.2 then ⟨q.1, q.2.1, q.2.2, b0 || (b1 || b2), 0⟩ else ⟨0, 0, 0, false, 3⟩) := by
    cases hp : p with
    | false =>
      obtain ⟨j0, j1, j2⟩ := hq.1 hp
      rw [hp, finN] at k3 k4 k5
      rw [j0, j1, j2, k3, k4, k5]; rfl
    | true =>
      obtain ⟨j0, j1, j2⟩ := hq.2 hp
      rw [hp, e4] at k0 k1 k2 k3 k4 k5
      rw [hp] at ep
      have ep := ep.symm
      rw [Bool.and_eq_true] at ep
      rw [ep.1, ep.2, Bool.true_and] at g9
      have hs : at3b s b0 b1 b2 = true := by
        cases hh : at3b s b0 b1 b2 with
        | true => rfl
        | false => rw [hh] at g9; cases g9
      have kf := keepF (d := dd) (x := x) (y := y) (z := z) (w0 := w0) (w1 := w1) (w2 := w2) (b0 := b0) (b1 := b1) (b2 := b2) ht
      rw [k0, k1, k2, kf.1, kf.2] at j0 j1 j2
      rw [k3, e2, e3] at j0
      rw [k4, e2, e3] at j1
      rw [k5, e2, e3] at j2
      have fp := finP (d := dd) (x := x) (y := y) (z := z) (w0 := w0) (w1 := w1) (w2 := w2) (u := rtU (at3 f w0 w1 w2) 0 (at3 s w0 w1 w2)) (v := rtW (at3 f w0 w1 w2) 0 (at3 s w0 w1 w2)) ht ep.2 hs
      rw [fp.1] at j0
      rw [fp.2.1] at j1
      rw [fp.2.2] at j2
      rw [j0, j1, j2]; rfl
  rw [et] at hR
  refine ⟨fun g => ?_, fun g => ?_⟩
  · exact hR ⟨0, 0, 0, false, 3⟩ (by rw [if_neg (by rw [e9.symm.trans (nt_f g)]; decide)])
  · exact hR ⟨q.1, q.2.1, q.2.2, b0 || (b1 || b2), 0⟩ (by rw [if_pos (e9.symm.trans (nf_t g))])
set_option maxHeartbeats 400000 in
set_option maxRecDepth 100000 in
theorem sTgR : Sound Tryd.prog 18 STgt := by
  refine sound_of (C := CTgR) tabTgR Tryd.func18 (by kernel_rfl) (by decide +kernel) (by kernel_rfl) rfl ⟨sWn2, sAxs, sFind2, sLen2, sGet, sPut, sRot2, trivial⟩ (loopsG [nthLoop Tryd.f18 0, nthLoop Tryd.f18 1] [nthFrag CTgR Tryd.f18 0, nthFrag CTgR Tryd.f18 1, nthFrag CTgR Tryd.f18 2] (by kernel_rfl) (by kernel_rfl) ⟨loopOK_of (an := anR0) (S := LR0) (by kernel_rfl) loopR0, loopOK_of (an := anR3) (S := LR3) (by kernel_rfl) loopR3, trivial⟩ ⟨fragOK_of (an := anR1) (S := LR1) (by kernel_rfl) fragR1, fragOK_of (an := anR2) (S := LR2) (by kernel_rfl) fragR2, fragOK_of (an := anR4) (S := LR4) (by kernel_rfl) fragR4, trivial⟩) ?_
  intro hargs pars R h
  unfold STgt at h
  split at h
  case h_2 => exfalso; exact h
  rename_i cs l x y z
  split at h
  case h_2 => exact h.elim
  rename_i m0 m1 m2 m3 m4 m5 m6 m7 m8 m9 m10 m11 m12 m13 m14 m15 m16 m17 m18 m19 m20 m21
  obtain ⟨⟨hl, hp⟩, _, hR⟩ := h
  refine byVC (vcTgR ⟨m0, m1, m2, m3, m4, m5, m6, m7, m8, m9, m10, m11, m12, m13, m14, m15, m16, m17, m18, m19, m20, m21⟩ l x y z R) ⟨trivial, fun x1 e1 => ⟨fun g => ?_, fun g => ?_⟩⟩
  · have w := e1.symm.trans (nt_f g)
    exact hR ⟨0, 0, 0, false, 1⟩ (by unfold tgF; rw [w]; rfl)
  have w := e1.symm.trans (nf_t g)
  have hxyz := wn_iff.1 w
  unfold tgF at hR
  rw [if_pos w] at hR
  refine ⟨trivial, fun x2 e2 x3 e3 x4 e4 => ?_⟩
  have ea : anP m1 m10 = aLt m10 x3 := by
    have e3 : x3 = 88 + scP m1 := e3
    unfold anP aLt
    by_cases k : m10 = 16
    · rw [if_pos k, if_pos k]; omega
    · rw [if_neg k, if_neg k]
  rw [ea] at hR
  exact tgRT ⟨m0, m1, m2, m3, m4, m5, m6, m7, m8, m9, m10, m11, m12, m13, m14, m15, m16, m17, m18, m19, m20, m21⟩ l x y z R (fsP m1) (scP m1) (hgP m1) x2 x3 x4 e2 e3 e4 (tri_P m1) hxyz hl hR
end Go.Proofs.YtgnknciihdajiaaDoor
namespace Go.Proofs.YtgnknciihdajiaaDoor
open Go Go.HL U
def okB1 : Res := ⟨.ce (.bool true), false, [], []⟩
def SAwk (hargs : List HV) (pars : List (List HC)) : SR :=
  match hargs, pars with
  | [], [] => .det True ⟨.ce (.bool true), false, [], []⟩
  | _, _ => .fail
def tabAwk : List (FuncId × HL.Spec) := [(21, STo), (17, STgt)]
noncomputable def CAwk : Ctx := ⟨Tryd.prog, gam tabAwk, Tryd.f12.ntmps, [], []⟩
theorem vcAwk (u : Int) (Q : Res → Prop) : (nfun true CAwk Tryd.f12 (bodyOf Tryd.f12) [] [] Q) =
    ((okO (54 : Int) (0 : Int) (0 : Int) (0 : Int) (0 : Int) (0 : Int) (0 : Int) (0 : Int) (0 : Int) (0 : Int) (0 : Int) (0 : Int) (0 : Int) (0 : Int) (0 : Int) (0 : Int) (0 : Int) (0 : Int) (0 : Int) (10 : Int) (0 : Int) (0 : Int) (0 : Int) (0 : Int) (0 : Int) (0 : Int) ∧ okP false (0 : Int) (0 : Int) ∧ B3 (1073741824 : Int) (0 : Int) (0 : Int) (0 : Int)) ∧ (∃ (x : MapS), x = toF false (0 : Int) (0 : Int) (0 : Int) (0 : Int) (0 : Int) (10 : Int) (0 : Int) (0 : Int) (1 : Int) (2 : Int) (3 : Int)) ∧ ∀ (x : MapS), x = toF false (0 : Int) (0 : Int) (0 : Int) (0 : Int) (0 : Int) (10 : Int) (0 : Int) (0 : Int) (1 : Int) (2 : Int) (3 : Int) → ((2 : Nat) ≤ (1000 : Nat) ∧ (17 : Int) ≤ (17 : Int) ∧ (17 : Int) ≤ (19 : Int)) ∧ (∃ (x : TgS), x = tgF (17 : Int) (90 : Int) (21 : Int) (16 : Int) [[(88 : Int), (5000000 : Int)], [(89 : Int), (90000000 : Int)]] (0 : Int) (0 : Int) (0 : Int)) ∧ ∀ (x_1 : TgS), x_1 = tgF (17 : Int) (90 : Int) (21 : Int) (16 : Int) [[(88 : Int), (5000000 : Int)], [(89 : Int), (90000000 : Int)]] (0 : Int) (0 : Int) (0 : Int) →
    ((x.e == 0) = true → ((x.x == 11 && (x.y == 2 && (x.z == 3 && true))) = true → (x_1.any = true → ((x_1.e == 0) = true → Q ⟨.ce (.bool (x_1.x == 0 && (x_1.y == 5000 && (x_1.z == 0 && true)))), false, [], []⟩) ∧ ((x_1.e == 0) = false → Q ⟨.ce (.bool false), false, [], []⟩)) ∧ (x_1.any = false → Q ⟨.ce (.bool false), false, [], []⟩)) ∧ ((x.x == 11 && (x.y == 2 && (x.z == 3 && true))) = false → Q ⟨.ce (.bool false), false, [], []⟩)) ∧ ((x.e == 0) = false → Q ⟨.ce (.bool false), false, [], []⟩)) := by kernel_rfl
def SPoint (hargs : List HV) (pars : List (List HC)) : SR :=
  match hargs, pars with
  | [.agg [.int .i64 x, .int .i64 y, .int .i64 z]], [] => .det True ⟨.agg [.int .i64 (-1048576 + x % 2097153), .int .i64 (-1048576 + y % 2097153), .int .i64 (-1048576 + z % 2097153)], false, [], []⟩
  | _, _ => .fail
def tabPoint : List (FuncId × HL.Spec) := [(27, SBetween)]
noncomputable def CPoint : Ctx := ⟨Tryd.prog, gam tabPoint, Tryd.f16.ntmps, [], []⟩
theorem vcPoint (x y z : Int) (Q : Res → Prop) : (nfun true CPoint Tryd.f16 (bodyOf Tryd.f16) [.agg [.int .i64 x, .int .i64 y, .int .i64 z]] [] Q) =
    (((-4611686018427387904 : Int) ≤ (-1048576 : Int) ∧ (-1048576 : Int) ≤ (1048576 : Int) ∧ (1048576 : Int) ≤ (4611686018427387904 : Int) ∧ (2097152 : Int) < (4611686018427387904 : Int)) ∧ ∀ (x1 : Int), x1 = (-1048576 : Int) + x % (2097153 : Int) → ((-4611686018427387904 : Int) ≤ (-1048576 : Int) ∧ (-1048576 : Int) ≤ (1048576 : Int) ∧ (1048576 : Int) ≤ (4611686018427387904 : Int) ∧ (2097152 : Int) < (4611686018427387904 : Int)) ∧ ∀ (x2 : Int), x2 = (-1048576 : Int) + y % (2097153 : Int) → ((-4611686018427387904 : Int) ≤ (-1048576 : Int) ∧ (-1048576 : Int) ≤ (1048576 : Int) ∧ (1048576 : Int) ≤ (4611686018427387904 : Int) ∧ (2097152 : Int) < (4611686018427387904 : Int)) ∧ ∀ (x3 : Int), x3 = (-1048576 : Int) + z % (2097153 : Int) → Q ⟨.agg [.int .i64 x1, .int .i64 x2, .int .i64 x3], false, [], []⟩) := by kernel_rfl
def SFT (hargs : List HV) (pars : List (List HC)) : SR :=
  match hargs, pars with
  | [.ce (.sl false [4] l), .ce (.sl false [4] k), .ce (.sl false [4, 4] w), .agg [.int .i64 x, .int .i64 y, .int .i64 z]], [] => .det (l.length ≤ 9223372036854775807 ∧ k.length ≤ 9223372036854775807) okB1
  | _, _ => .fail
def tabFT : List (FuncId × HL.Spec) := [(11, SLight), (12, SAwk), (14, SNew), (13, SMakeM), (15, SValues), (16, SPoint), (17, STgt), (18, STgt)]
noncomputable def CFT : Ctx := ⟨Tryd.prog, gam tabFT, Tryd.f3.ntmps, [], []⟩
theorem vcFT (l k w : List (List Int)) (x y z : Int) (Q : Res → Prop) : (nfun true CFT Tryd.f3 (bodyOf Tryd.f3) [.ce (.sl false [4] l), .ce (.sl false [4] k), .ce (.sl false [4, 4] w), .agg [.int .i64 x, .int .i64 y, .int .i64 z]] [] Q) =
    (True ∧ ∀ (x1 : Bool), x1 = decide ((List.length l : Int) ≤ (120 : Int)) → ((!x1) = true → True ∧ ∀ (x2 : Bool), x2 = true → Q ⟨.ce (.bool x2), false, [], []⟩) ∧ ((!x1) = false → True ∧ ∀ (x3 : Bool), x3 = decide ((List.length k : Int) ≤ (120 : Int)) → ((!x3) = true → True ∧ ∀ (x4 : Bool), x4 = true → Q ⟨.ce (.bool x4), false, [], []⟩) ∧ ((!x3) = false → (decide ((List.length w : Int) > (30 : Int)) = true → True ∧ ∀ (x5 : Bool), x5 = true → Q ⟨.ce (.bool x5), false, [], []⟩) ∧ (decide ((List.length w : Int) > (30 : Int)) = false → True ∧ ∀ (x6 : List (List Int)), x6 = l → ∀ (x7 : Int), x7 = 0 → inSrc x6 x7 ∧ (∃ (x : M × Int), (17 ≤ x.1.m1 ∧ x.1.m1 ≤ 19) ∧ inSrc x6 x.2) ∧ ∀ (x_1 : M × Int), (17 ≤ x_1.1.m1 ∧ x_1.1.m1 ≤ 19) ∧ inSrc x6 x_1.2 → True ∧ ∀ (x9 : List (List Int)), x9 = k → ∀ (x10 : Int), x10 = 0 → inSrc x9 x10 ∧ (∃ (x : List (List Int) × Int), inSrc x9 x.2 ∧ List.length x.1 ≤ (40 : Nat)) ∧
    ∀ (x_2 : List (List Int) × Int), inSrc x9 x_2.2 ∧ List.length x_2.1 ≤ (40 : Nat) → True ∧ ∀ (x12 : Int), x12 = (-1048576 : Int) + x % (2097153 : Int) → ∀ (x13 : Int), x13 = (-1048576 : Int) + y % (2097153 : Int) → ∀ (x14 : Int), x14 = (-1048576 : Int) + z % (2097153 : Int) → (List.length x_2.1 ≤ (1000 : Nat) ∧ 17 ≤ x_1.1.m1 ∧ x_1.1.m1 ≤ 19) ∧ (∃ (x : TgS), x = tgF x_1.1.m1 x_1.1.m2 x_1.1.m3 x_1.1.m10 x_2.1 x12 x13 x14) ∧ ∀ (x_3 : TgS), x_3 = tgF x_1.1.m1 x_1.1.m2 x_1.1.m3 x_1.1.m10 x_2.1 x12 x13 x14 → (List.length x_2.1 ≤ (1000 : Nat) ∧ 17 ≤ x_1.1.m1 ∧ x_1.1.m1 ≤ 19) ∧ (∃ (x : TgS), x = tgF x_1.1.m1 x_1.1.m2 x_1.1.m3 x_1.1.m10 x_2.1 x12 x13 x14) ∧ ∀ (x_4 : TgS), x_4 = tgF x_1.1.m1 x_1.1.m2 x_1.1.m3 x_1.1.m10 x_2.1 x12 x13 x14 → (List.length w ≤ (1000 : Nat) ∧ 17 ≤ x_1.1.m1 ∧ x_1.1.m1 ≤ 19) ∧ (∃ (x : TgS), x = tgF x_1.1.m1 x_1.1.m2 x_1.1.m3 x_1.1.m10 w x12 x13 x14) ∧ ∀ (x_5 : TgS), x_5 = tgF x_1.1.m1 x_1.1.m2 x_1.1.m3 x_1.1.m10 w x12 x13 x14 →
    (List.length w ≤ (1000 : Nat) ∧ 17 ≤ x_1.1.m1 ∧ x_1.1.m1 ≤ 19) ∧ (∃ (x : TgS), x = tgF x_1.1.m1 x_1.1.m2 x_1.1.m3 x_1.1.m10 w x12 x13 x14) ∧ ∀ (x_6 : TgS), x_6 = tgF x_1.1.m1 x_1.1.m2 x_1.1.m3 x_1.1.m10 w x12 x13 x14 → (List.length x_2.1 ≤ (1000 : Nat) ∧ 17 ≤ x_1.1.m1 ∧ x_1.1.m1 ≤ 19) ∧ (∃ (x_7 : TgS), x_7 = tgF x_1.1.m1 x_1.1.m2 x_1.1.m3 x_1.1.m10 x_2.1 x y z) ∧ ∀ (x_7 : TgS), x_7 = tgF x_1.1.m1 x_1.1.m2 x_1.1.m3 x_1.1.m10 x_2.1 x y z → (List.length x_2.1 ≤ (1000 : Nat) ∧ 17 ≤ x_1.1.m1 ∧ x_1.1.m1 ≤ 19) ∧ (∃ (x_8 : TgS), x_8 = tgF x_1.1.m1 x_1.1.m2 x_1.1.m3 x_1.1.m10 x_2.1 x y z) ∧ ∀ (x_8 : TgS), x_8 = tgF x_1.1.m1 x_1.1.m2 x_1.1.m3 x_1.1.m10 x_2.1 x y z → True ∧ ∀ (x21 : Bool), x21 = true → (x21 = true → ((x_3.x == x_4.x && (x_3.y == x_4.y && (x_3.z == x_4.z && true))) = true → ((x_3.any == x_4.any) = true → ((x_3.e == x_4.e) = true → ((x_5.x == x_6.x && (x_5.y == x_6.y && (x_5.z == x_6.z && true))) = true →
    ((x_5.any == x_6.any) = true → ((x_5.e == x_6.e) = true → ((x_7.x == x_8.x && (x_7.y == x_8.y && (x_7.z == x_8.z && true))) = true → ((x_7.any == x_8.any) = true → Q ⟨.ce (.bool (x_7.e == x_8.e)), false, [], []⟩) ∧ ((x_7.any == x_8.any) = false → Q ⟨.ce (.bool false), false, [], []⟩)) ∧ ((x_7.x == x_8.x && (x_7.y == x_8.y && (x_7.z == x_8.z && true))) = false → Q ⟨.ce (.bool false), false, [], []⟩)) ∧ ((x_5.e == x_6.e) = false → Q ⟨.ce (.bool false), false, [], []⟩)) ∧ ((x_5.any == x_6.any) = false → Q ⟨.ce (.bool false), false, [], []⟩)) ∧ ((x_5.x == x_6.x && (x_5.y == x_6.y && (x_5.z == x_6.z && true))) = false → Q ⟨.ce (.bool false), false, [], []⟩)) ∧ ((x_3.e == x_4.e) = false → Q ⟨.ce (.bool false), false, [], []⟩)) ∧ ((x_3.any == x_4.any) = false → Q ⟨.ce (.bool false), false, [], []⟩)) ∧ ((x_3.x == x_4.x && (x_3.y == x_4.y && (x_3.z == x_4.z && true))) = false → Q ⟨.ce (.bool false), false, [], []⟩)) ∧
    (x21 = false → Q ⟨.ce (.bool false), false, [], []⟩))))) := by kernel_rfl
end Go.Proofs.YtgnknciihdajiaaDoor
namespace U
theorem tr {X : Bool} {A B : Prop} (hX : X = true) (hA : A) : (X = true → A) ∧ (X = false → B) := ⟨fun _ => hA, fun g => by rw [hX] at g; cases g⟩
theorem v3 (x y z : Int) : (x == x && (y == y && (z == z && true))) = true := by simp
end U
namespace Go.Proofs.YtgnknciihdajiaaDoor
open Go Go.HL U
attribute [local irreducible] hfun bodyT fragT
theorem awkT : tgF 17 90 21 16 [[88, 5000000], [89, 90000000]] 0 0 0 = ⟨0, 5000, 0, true, 0⟩ := by kernel_rfl
set_option maxHeartbeats 400000 in
set_option maxRecDepth 100000 in
theorem sAwk : Sound Tryd.prog 12 SAwk := by
  refine sound_of (C := CAwk) tabAwk Tryd.func12 (by kernel_rfl) (by decide +kernel) (by kernel_rfl) rfl ⟨sTo, sTgt, trivial⟩ (loops0 (by kernel_rfl)) ?_
  intro hargs pars R h
  unfold SAwk at h
  split at h
  case h_2 => exfalso; exact h
  obtain ⟨_, hq⟩ := h
  refine byVC (vcAwk 0 R) ⟨⟨by unfold okO B3; decide, by unfold okP; decide, by unfold B3; decide⟩, ⟨_, rfl⟩, fun a ha => ⟨⟨by decide, by decide, by decide⟩, ⟨_, rfl⟩, fun b hb => ?_⟩⟩
  have ha : a = ⟨11, 2, 3, 0⟩ := ha.trans (by kernel_rfl)
  have hb : b = ⟨0, 5000, 0, true, 0⟩ := hb.trans awkT
  subst ha hb
  exact tr rfl (tr rfl (tr rfl (tr rfl hq)))
set_option maxHeartbeats 400000 in
set_option maxRecDepth 100000 in
theorem sPoint : Sound Tryd.prog 16 SPoint := by
  refine sound_of (C := CPoint) tabPoint Tryd.func16 (by kernel_rfl) (by decide +kernel) (by kernel_rfl) rfl ⟨sBetween, trivial⟩ (loops0 (by kernel_rfl)) ?_
  intro hargs pars R h
  unfold SPoint at h
  split at h
  case h_2 => exfalso; exact h
  rename_i x y z
  obtain ⟨_, hq⟩ := h
  refine byVC (vcPoint x y z R) ⟨by decide, fun x1 e1 => ⟨by decide, fun x2 e2 => ⟨by decide, fun x3 e3 => ?_⟩⟩⟩
  rw [e1, e2, e3]; exact hq
set_option maxHeartbeats 400000 in
set_option maxRecDepth 100000 in
theorem sFT : Sound Tryd.prog 3 SFT := by
  refine sound_of (C := CFT) tabFT Tryd.func3 (by kernel_rfl) (by decide +kernel) (by kernel_rfl) rfl ⟨sLight, sAwk, sNew, sMakeM, sValues, sPoint, sTgt, sTgR, trivial⟩ (loops0 (by kernel_rfl)) ?_
  intro hargs pars R h
  unfold SFT at h
  split at h
  case h_2 => exfalso; exact h
  rename_i l k w x y z
  obtain ⟨⟨hl, hk⟩, hq⟩ := h
  refine byVC (vcFT l k w x y z R) ⟨trivial, fun x1 e1 => ⟨fun _ => ⟨trivial, fun b eb => by rw [eb]; exact hq⟩, fun _ => ⟨trivial, fun x3 e3 => ⟨fun _ => ⟨trivial, fun b eb => by rw [eb]; exact hq⟩, fun _ => ⟨fun _ => ⟨trivial, fun b eb => by rw [eb]; exact hq⟩, fun gw => ?_⟩⟩⟩⟩⟩
  have hw : w.length ≤ 1000 := by have := of_decide_eq_false gw; omega
  refine ⟨trivial, fun l1 el p1 ep => ?_⟩
  rw [el, ep]
  have h1 : inSrc l 0 := ⟨Int.le_refl _, hl⟩
  have h2 : inSrc k 0 := ⟨Int.le_refl _, hk⟩
  refine ⟨h1, ⟨(⟨0, 17, 0, 0, 0, 0, 0, 0, 0, 0, 0, 0, 0, false, false, 0, 0, 0, 0, 0, 0, 0⟩, 0), ⟨⟨by decide, by decide⟩, h1⟩⟩, fun m hm => ⟨trivial, fun l2 el2 p2 ep2 => ?_⟩⟩
  rw [el2, ep2]
  refine ⟨h2, ⟨([], 0), ⟨h2, Nat.zero_le _⟩⟩, fun v hv => ⟨trivial, fun x12 _ x13 _ x14 _ => ?_⟩⟩
  have hv : v.1.length ≤ 1000 := by omega
  refine ⟨⟨hv, hm.1⟩, ⟨_, rfl⟩, fun a3 e3 => ⟨⟨hv, hm.1⟩, ⟨_, rfl⟩, fun a4 e4 => ⟨⟨hw, hm.1⟩, ⟨_, rfl⟩, fun a5 e5 => ⟨⟨hw, hm.1⟩, ⟨_, rfl⟩, fun a6 e6 => ⟨⟨hv, hm.1⟩, ⟨_, rfl⟩, fun a7 e7 => ⟨⟨hv, hm.1⟩, ⟨_, rfl⟩, fun a8 e8 => ⟨trivial, fun b eb => ?_⟩⟩⟩⟩⟩⟩⟩
  have e4 : a4 = a3 := e4.trans e3.symm
  have e6 : a6 = a5 := e6.trans e5.symm
  have e8 : a8 = a7 := e8.trans e7.symm
  subst e4 e6 e8 eb
  have hq : R ⟨.ce (.bool (a8.e == a8.e)), false, [], []⟩ := by rw [beq_self_eq_true]; exact hq
  exact tr rfl (tr (v3 _ _ _) (tr (beq_self_eq_true _) (tr (beq_self_eq_true _) (tr (v3 _ _ _) (tr (beq_self_eq_true _) (tr (beq_self_eq_true _) (tr (v3 _ _ _) (tr (beq_self_eq_true _) hq))))))))
end Go.Proofs.YtgnknciihdajiaaDoor
