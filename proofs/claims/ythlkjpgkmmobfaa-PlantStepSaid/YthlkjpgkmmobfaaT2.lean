/-
  The law PlantStep: its helpers and itself.
  Conditions: none.
-/
import Derived.Test.YthlkjpgkmmobfaaT1
namespace Go.Proofs.Ythlkjpgkmmobfaa
open Go Go.HL U
def SNear (hargs : List HV) (pars : List (List HC)) : SR :=
  match hargs, pars with
  | [.agg [.int .i64 a, .int .i64 b, .int .i64 c]], [] => .all True Bool (fun x => x = true → (-1073741824 ≤ a ∧ a ≤ 1073741824) ∧ (-1073741824 ≤ b ∧ b ≤ 1073741824) ∧ (-1073741824 ≤ c ∧ c ≤ 1073741824)) (fun x => ⟨.ce (.bool x), false, [], []⟩)
  | _, _ => .fail
noncomputable def CNear : Ctx := ⟨Try.prog, gam [], Try.f5.ntmps, [(4000002, unrT [1000001], fun _ => .fail)], []⟩
theorem vcNear (a b c : Int) (Q : Res → Prop) : (nfun true CNear Try.f5 (bodyOf Try.f5) [.agg [.int .i64 a, .int .i64 b, .int .i64 c]] [] Q) =
    (((0 : Int) ≤ (0 : Int) ∧ (0 : Int) < (3 : Int)) ∧ (decide (a > (1073741824 : Int)) = true → Q { val := HV.ce (HC.bool false), own := false, pars := [], news := [] }) ∧ (decide (a > (1073741824 : Int)) = false → (decide (a < (-1073741824 : Int)) = true → Q { val := HV.ce (HC.bool false), own := false, pars := [], news := [] }) ∧ (decide (a < (-1073741824 : Int)) = false → ((0 : Int) ≤ (1 : Int) ∧ (1 : Int) < (3 : Int)) ∧ (decide (b > (1073741824 : Int)) = true → Q { val := HV.ce (HC.bool false), own := false, pars := [], news := [] }) ∧ (decide (b > (1073741824 : Int)) = false → (decide (b < (-1073741824 : Int)) = true → Q { val := HV.ce (HC.bool false), own := false, pars := [], news := [] }) ∧ (decide (b < (-1073741824 : Int)) = false → ((0 : Int) ≤ (2 : Int) ∧ (2 : Int) < (3 : Int)) ∧ (decide (c > (1073741824 : Int)) = true → Q { val := HV.ce (HC.bool false), own := false, pars := [], news := [] }) ∧
    (decide (c > (1073741824 : Int)) = false → (decide (c < (-1073741824 : Int)) = true → Q { val := HV.ce (HC.bool false), own := false, pars := [], news := [] }) ∧ (decide (c < (-1073741824 : Int)) = false → Q { val := HV.ce (HC.bool true), own := false, pars := [], news := [] }))))))) := by kernel_rfl
def STrue0 (hargs : List HV) (pars : List (List HC)) : SR :=
  match hargs, pars with
  | [], [] => .all True Bool (fun x => x = true) (fun x => ⟨.ce (.bool x), false, [], []⟩)
  | _, _ => .fail
def tabAwake : List (FuncId × HL.Spec) := [(10, SStep)]
noncomputable def CAwake : Ctx := ⟨Try.prog, gam tabAwake, Try.f4.ntmps, [], []⟩
theorem vcAwake (Q : Res → Prop) : (nfun true CAwake Try.f4 (bodyOf Try.f4) [] [] Q) =
    (((okB (3 : Int) ∧ okB (3 : Int) ∧ okB (3 : Int)) ∧ smallPS (1152921504606846976 : Int) { m0 := (0 : Int), m1 := (0 : Int), m2 := (0 : Int), t0 := (0 : Int), t1 := (0 : Int), t2 := (0 : Int) } ∧ (3 : Nat) ≤ (1152921504606846976 : Nat)) ∧ (∃ (x : PS), x = pall (3 : Int) (3 : Int) (3 : Int) { m0 := (0 : Int), m1 := (0 : Int), m2 := (0 : Int), t0 := (0 : Int), t1 := (0 : Int), t2 := (0 : Int) } [[(0 : Int), (0 : Int), (-1 : Int)], [(0 : Int), (0 : Int), (-1 : Int)], [(0 : Int), (0 : Int), (-1 : Int)]]) ∧ ∀ (x : PS), x = pall (3 : Int) (3 : Int) (3 : Int) { m0 := (0 : Int), m1 := (0 : Int), m2 := (0 : Int), t0 := (0 : Int), t1 := (0 : Int), t2 := (0 : Int) } [[(0 : Int), (0 : Int), (-1 : Int)], [(0 : Int), (0 : Int), (-1 : Int)], [(0 : Int), (0 : Int), (-1 : Int)]] → ((x.m0 == (-3 : Int) && (x.m1 == (0 : Int) && (x.m2 == (0 : Int) && true))) = true → Q { val := HV.ce (HC.bool (x.t0 == (0 : Int) && (x.t1 == (0 : Int) && (x.t2 == (0 : Int) && true)))), own := false, pars := [], news := [] }) ∧
    ((x.m0 == (-3 : Int) && (x.m1 == (0 : Int) && (x.m2 == (0 : Int) && true))) = false → Q { val := HV.ce (HC.bool false), own := false, pars := [], news := [] })) := by kernel_rfl
def tabLaw : List (FuncId × HL.Spec) := [(4, STrue0), (5, SNear), (6, SMod), (7, SAxes), (8, SStart), (9, SStart), (10, SStep), (11, SStep)]
def anLaw : LAnn := ⟨[3, 5, 6, 8, 10, 11, 48, 49], [3, 5, 6, 8, 10, 11], [1000005, 1000006, 1000010, 1000046], false⟩
def LLaw (v : LV) : LR :=
  match v with
  | ([.ce (.sl false [4, 4, 4] l), .ce (.ptr 1000005 0), .ce (.ptr 1000006 0), .ce (.bool z), .ce (.ptr 1000010 0), .ce (.msl 1000046 n c), .ce (.int .i64 m), .ce (.int .i64 i)], [[.int .i64 p0, .int .i64 p1, .int .i64 p2], b6, b10, [.arr [4, 4, 4] rows d]]) =>
    match b6 with
    | [.int .i64 m0, .int .i64 m1, .int .i64 m2, .int .i64 t0, .int .i64 t1, .int .i64 t2] => match b10 with
      | [.int .i64 sta, .int .i64 spa, .int .i64 aca, .int .i64 jea, .int .i64 loa, .int .i64 hia, .int .i64 bla, .int .i64 oga, .int .i64 sga, .sl false [4] pta, .int .i64 stb, .int .i64 spb, .int .i64 acb, .int .i64 jeb, .int .i64 lob, .int .i64 hib, .int .i64 blb, .int .i64 ogb, .int .i64 sgb, .sl false [4] ptb, .int .i64 stc, .int .i64 spc, .int .i64 acc, .int .i64 jec, .int .i64 loc, .int .i64 hic, .int .i64 blc, .int .i64 ogc, .int .i64 sgc, .sl false [4] ptc] =>
        .all (n = rows.length ∧ m = rows.length ∧ i = 0 ∧ c = d ∧ rows.length ≤ 4611686018427387904) (List (List Int)) (fun x => x.length = rows.length) (fun _ => .exit 2)
          (fun x => ([.ce (.sl false [4, 4, 4] l), .ce (.ptr 1000005 0), .ce (.ptr 1000006 0), .ce (.bool z), .ce (.ptr 1000010 0), .ce (.msl 1000046 n c)], [[.int .i64 p0, .int .i64 p1, .int .i64 p2], [.int .i64 m0, .int .i64 m1, .int .i64 m2, .int .i64 t0, .int .i64 t1, .int .i64 t2], [.int .i64 sta, .int .i64 spa, .int .i64 aca, .int .i64 jea, .int .i64 loa, .int .i64 hia, .int .i64 bla, .int .i64 oga, .int .i64 sga, .sl false [4] pta, .int .i64 stb, .int .i64 spb, .int .i64 acb, .int .i64 jeb, .int .i64 lob, .int .i64 hib, .int .i64 blb, .int .i64 ogb, .int .i64 sgb, .sl false [4] ptb, .int .i64 stc, .int .i64 spc, .int .i64 acc, .int .i64 jec, .int .i64 loc, .int .i64 hic, .int .i64 blc, .int .i64 ogc, .int .i64 sgc, .sl false [4] ptc], [.arr [4, 4, 4] x d]]))
      | _ => .fail
    | _ => .fail
  | _ => .fail
noncomputable def CLaw : Ctx := ⟨Try.prog, gam tabLaw, Try.f3.ntmps, [(4000006, unrT [1000005, 1000006], fun _ => .fail), (13, anLaw, LLaw)], [44, spl 18 11 0 0]⟩
theorem vbLaw (z : Bool) (l rows : List (List Int)) (m i p0 p1 p2 : Int) (n c d : Nat) (m0 m1 m2 t0 t1 t2 : Int) (sta spa aca jea loa hia bla oga sga stb spb acb jeb lob hib blb ogb sgb stc spc acc jec loc hic blc ogc sgc : Int) (pta ptb ptc : List (List Int)) (K : HEx → LV → Prop) : (nbodyT true CLaw anLaw (nthLoop Try.f3 1) (([.ce (.sl false [4, 4, 4] l), .ce (.ptr 1000005 0), .ce (.ptr 1000006 0), .ce (.bool z), .ce (.ptr 1000010 0), .ce (.msl 1000046 n c), .ce (.int .i64 m), .ce (.int .i64 i)], [[.int .i64 p0, .int .i64 p1, .int .i64 p2], [.int .i64 m0, .int .i64 m1, .int .i64 m2, .int .i64 t0, .int .i64 t1, .int .i64 t2], [.int .i64 sta, .int .i64 spa, .int .i64 aca, .int .i64 jea, .int .i64 loa, .int .i64 hia, .int .i64 bla, .int .i64 oga, .int .i64 sga, .sl false [4] pta, .int .i64 stb, .int .i64 spb, .int .i64 acb, .int .i64 jeb, .int .i64 lob, .int .i64 hib, .int .i64 blb, .int .i64 ogb, .int .i64 sgb, .sl false [4] ptb, .int .i64 stc, .int .i64 spc, .int .i64 acc, .int .i64 jec, .int .i64 loc, .int .i64 hic, .int .i64 blc, .int .i64 ogc, .int .i64 sgc, .sl false [4] ptc], [.arr [4, 4, 4] rows d]])) K) =
    ((decide (i < m) = true → ((0 : Int) ≤ i ∧ i < ((n : Nat) : Int)) ∧ Int.toNat i < List.length rows ∧ ∀ (x1 : Int), x1 = ec rows (Int.toNat i) ((1 : Nat)) → ((0 : Int) < (4 : Int) ∧ (4 : Int) ≤ (4611686018427387904 : Int)) ∧ ∀ (x2 : Int), x2 = x1 % (4 : Int) → ((0 : Int) ≤ i ∧ i < ((n : Nat) : Int)) ∧ Int.toNat i < List.length rows ∧ ∀ (x3 : Int), x3 = el rows (Int.toNat i) → ((0 : Int) < (2 : Int) ∧ (2 : Int) ≤ (4611686018427387904 : Int)) ∧ ∀ (x4 : Int), x4 = x3 % (2 : Int) → ((-9223372036854775808 : Int) ≤ x2 - x4 ∧ x2 - x4 ≤ (9223372036854775807 : Int)) ∧ ∀ (x5 : Int), x5 = x2 - x4 → ((0 : Int) ≤ i ∧ i < ((n : Nat) : Int)) ∧ Int.toNat i < List.length rows ∧ ∀ (x6 : Int), x6 = ec rows (Int.toNat i) ((2 : Nat)) → ((0 : Int) < (5 : Int) ∧ (5 : Int) ≤ (4611686018427387904 : Int)) ∧ ∀ (x7 : Int), x7 = x6 % (5 : Int) → ((-9223372036854775808 : Int) ≤ x7 - (2 : Int) ∧ x7 - (2 : Int) ≤ (9223372036854775807 : Int)) ∧
    ∀ (x8 : Int), x8 = x7 - (2 : Int) → ((0 : Int) ≤ i ∧ i < ((n : Nat) : Int)) ∧ Int.toNat i < List.length rows ∧ ((0 : Int) ≤ i ∧ i < ((n : Nat) : Int)) ∧ Int.toNat i < List.length (List.set rows (Int.toNat i) [bif false && true then x5 else el rows (Int.toNat i), bif true && true then x5 else ec rows (Int.toNat i) ((1 : Nat)), bif true && false then (0 : Int) else ec rows (Int.toNat i) ((2 : Nat))]) ∧ ((-9223372036854775808 : Int) ≤ i + (1 : Int) ∧ i + (1 : Int) ≤ (9223372036854775807 : Int)) ∧ ∀ (x9 : Int), x9 = i + (1 : Int) → K HEx.normal ([HV.ce (HC.sl false [(4 : Nat), (4 : Nat), (4 : Nat)] l), HV.ce (HC.ptr (1000005 : Nat) (0 : Nat)), HV.ce (HC.ptr (1000006 : Nat) (0 : Nat)), HV.ce (HC.bool z), HV.ce (HC.ptr (1000010 : Nat) (0 : Nat)), HV.ce (HC.msl (1000046 : Nat) n c), HV.ce (HC.int IntKind.i64 m), HV.ce (HC.int IntKind.i64 x9)], [[HC.int IntKind.i64 p0, HC.int IntKind.i64 p1, HC.int IntKind.i64 p2], [HC.int IntKind.i64 m0, HC.int IntKind.i64 m1, HC.int IntKind.i64 m2, HC.int IntKind.i64 t0, HC.int IntKind.i64 t1, HC.int IntKind.i64 t2], [HC.int IntKind.i64 sta, HC.int IntKind.i64 spa, HC.int IntKind.i64 aca, HC.int IntKind.i64 jea, HC.int IntKind.i64 loa, HC.int IntKind.i64 hia, HC.int IntKind.i64 bla, HC.int IntKind.i64 oga, HC.int IntKind.i64 sga, HC.sl false [(4 : Nat)] pta, HC.int IntKind.i64 stb, HC.int IntKind.i64 spb, HC.int IntKind.i64 acb, HC.int IntKind.i64 jeb, HC.int IntKind.i64 lob, HC.int IntKind.i64 hib, HC.int IntKind.i64 blb, HC.int IntKind.i64 ogb, HC.int IntKind.i64 sgb, HC.sl false [(4 : Nat)] ptb, HC.int IntKind.i64 stc, HC.int IntKind.i64 spc, HC.int IntKind.i64 acc, HC.int IntKind.i64 jec, HC.int IntKind.i64 loc, HC.int IntKind.i64 hic, HC.int IntKind.i64 blc, HC.int IntKind.i64 ogc, HC.int IntKind.i64 sgc, HC.sl false [(4 : Nat)] ptc], [HC.arr [(4 : Nat), (4 : Nat), (4 : Nat)] (List.set (List.set rows (Int.toNat i) [bif false && true then x5 else el rows (Int.toNat i), bif true && true then x5 else ec rows (Int.toNat i) ((1 : Nat)), bif true && false then (0 : Int) else ec rows (Int.toNat i) ((2 : Nat))]) (Int.toNat i) [bif false && true then x8 else el (List.set rows (Int.toNat i) [bif false && true then x5 else el rows (Int.toNat i), bif true && true then x5 else ec rows (Int.toNat i) ((1 : Nat)), bif true && false then (0 : Int) else ec rows (Int.toNat i) ((2 : Nat))]) (Int.toNat i), bif false && true then x8 else ec (List.set rows (Int.toNat i) [bif false && true then x5 else el rows (Int.toNat i), bif true && true then x5 else ec rows (Int.toNat i) ((1 : Nat)), bif true && false then (0 : Int) else ec rows (Int.toNat i) ((2 : Nat))]) (Int.toNat i) ((1 : Nat)), bif true && true then x8 else ec (List.set rows (Int.toNat i) [bif false && true then x5 else el rows (Int.toNat i), bif true && true then x5 else ec rows (Int.toNat i) ((1 : Nat)), bif true && false then (0 : Int) else ec rows (Int.toNat i) ((2 : Nat))]) (Int.toNat i) ((2 : Nat))]) d]])) ∧
    (decide (i < m) = false → K (HEx.exit (2 : Nat)) ([HV.ce (HC.sl false [(4 : Nat), (4 : Nat), (4 : Nat)] l), HV.ce (HC.ptr (1000005 : Nat) (0 : Nat)), HV.ce (HC.ptr (1000006 : Nat) (0 : Nat)), HV.ce (HC.bool z), HV.ce (HC.ptr (1000010 : Nat) (0 : Nat)), HV.ce (HC.msl (1000046 : Nat) n c)], [[HC.int IntKind.i64 p0, HC.int IntKind.i64 p1, HC.int IntKind.i64 p2], [HC.int IntKind.i64 m0, HC.int IntKind.i64 m1, HC.int IntKind.i64 m2, HC.int IntKind.i64 t0, HC.int IntKind.i64 t1, HC.int IntKind.i64 t2], [HC.int IntKind.i64 sta, HC.int IntKind.i64 spa, HC.int IntKind.i64 aca, HC.int IntKind.i64 jea, HC.int IntKind.i64 loa, HC.int IntKind.i64 hia, HC.int IntKind.i64 bla, HC.int IntKind.i64 oga, HC.int IntKind.i64 sga, HC.sl false [(4 : Nat)] pta, HC.int IntKind.i64 stb, HC.int IntKind.i64 spb, HC.int IntKind.i64 acb, HC.int IntKind.i64 jeb, HC.int IntKind.i64 lob, HC.int IntKind.i64 hib, HC.int IntKind.i64 blb, HC.int IntKind.i64 ogb, HC.int IntKind.i64 sgb, HC.sl false [(4 : Nat)] ptb, HC.int IntKind.i64 stc, HC.int IntKind.i64 spc, HC.int IntKind.i64 acc, HC.int IntKind.i64 jec, HC.int IntKind.i64 loc, HC.int IntKind.i64 hic, HC.int IntKind.i64 blc, HC.int IntKind.i64 ogc, HC.int IntKind.i64 sgc, HC.sl false [(4 : Nat)] ptc], [HC.arr [(4 : Nat), (4 : Nat), (4 : Nat)] rows d]]))) := by kernel_rfl
theorem vcLaw (x l : List (List Int)) (p0 p1 p2 : Int) (m0 m1 m2 t0 t1 t2 : Int) (Q : Res → Prop) : (nfun true CLaw Try.f3 (bodyOf Try.f3) [.ce (.sl false [4] x), .agg [.int .i64 p0, .int .i64 p1, .int .i64 p2], .agg [.int .i64 m0, .int .i64 m1, .int .i64 m2, .int .i64 t0, .int .i64 t1, .int .i64 t2], .ce (.sl false [4, 4, 4] l)] [] Q) =
    (True ∧ (∃ (x : Bool), x = true) ∧ ∀ (x_1 : Bool), x_1 = true → ((!x_1) = true → Q { val := HV.ce (HC.bool false), own := false, pars := [], news := [] }) ∧ ((!x_1) = false → (decide ((((List.length l) : Nat) : Int) > (100 : Int)) = true → Q { val := HV.ce (HC.bool true), own := false, pars := [], news := [] }) ∧ (decide ((((List.length l) : Nat) : Int) > (100 : Int)) = false → True ∧ (∃ (x : Bool), x = true → ((-1073741824 : Int) ≤ m0 ∧ m0 ≤ (1073741824 : Int)) ∧ ((-1073741824 : Int) ≤ m1 ∧ m1 ≤ (1073741824 : Int)) ∧ (-1073741824 : Int) ≤ m2 ∧ m2 ≤ (1073741824 : Int)) ∧ ∀ (x_2 : Bool), (x_2 = true → ((-1073741824 : Int) ≤ m0 ∧ m0 ≤ (1073741824 : Int)) ∧ ((-1073741824 : Int) ≤ m1 ∧ m1 ≤ (1073741824 : Int)) ∧ (-1073741824 : Int) ≤ m2 ∧ m2 ≤ (1073741824 : Int)) → ((!x_2) = true → Q { val := HV.ce (HC.bool true), own := false, pars := [], news := [] }) ∧ ((!x_2) = false → True ∧ (∃ (x : Bool), x = true →
    ((-1073741824 : Int) ≤ t0 ∧ t0 ≤ (1073741824 : Int)) ∧ ((-1073741824 : Int) ≤ t1 ∧ t1 ≤ (1073741824 : Int)) ∧ (-1073741824 : Int) ≤ t2 ∧ t2 ≤ (1073741824 : Int)) ∧ ∀ (x_3 : Bool), (x_3 = true → ((-1073741824 : Int) ≤ t0 ∧ t0 ≤ (1073741824 : Int)) ∧ ((-1073741824 : Int) ≤ t1 ∧ t1 ≤ (1073741824 : Int)) ∧ (-1073741824 : Int) ≤ t2 ∧ t2 ≤ (1073741824 : Int)) → ((!x_3) = true → Q { val := HV.ce (HC.bool true), own := false, pars := [], news := [] }) ∧ ((!x_3) = false → ((0 : Int) ≤ (0 : Int) ∧ (0 : Int) < (3 : Int)) ∧ ((0 : Int) < (33554433 : Int) ∧ (33554433 : Int) ≤ (4611686018427387904 : Int)) ∧ ∀ (x4 : Int), x4 = p0 % (33554433 : Int) → ((-9223372036854775808 : Int) ≤ x4 - (16777216 : Int) ∧ x4 - (16777216 : Int) ≤ (9223372036854775807 : Int)) ∧ ∀ (x5 : Int), x5 = x4 - (16777216 : Int) → ((0 : Int) ≤ (0 : Int) ∧ (0 : Int) < (3 : Int)) ∧ ((0 : Int) ≤ (1 : Int) ∧ (1 : Int) < (3 : Int)) ∧ ((0 : Int) < (33554433 : Int) ∧
    (33554433 : Int) ≤ (4611686018427387904 : Int)) ∧ ∀ (x6 : Int), x6 = p1 % (33554433 : Int) → ((-9223372036854775808 : Int) ≤ x6 - (16777216 : Int) ∧ x6 - (16777216 : Int) ≤ (9223372036854775807 : Int)) ∧ ∀ (x7 : Int), x7 = x6 - (16777216 : Int) → ((0 : Int) ≤ (1 : Int) ∧ (1 : Int) < (3 : Int)) ∧ ((0 : Int) ≤ (2 : Int) ∧ (2 : Int) < (3 : Int)) ∧ ((0 : Int) < (33554433 : Int) ∧ (33554433 : Int) ≤ (4611686018427387904 : Int)) ∧ ∀ (x8 : Int), x8 = p2 % (33554433 : Int) → ((-9223372036854775808 : Int) ≤ x8 - (16777216 : Int) ∧ x8 - (16777216 : Int) ≤ (9223372036854775807 : Int)) ∧ ∀ (x9 : Int), x9 = x8 - (16777216 : Int) → ((0 : Int) ≤ (2 : Int) ∧ (2 : Int) < (3 : Int)) ∧ List.length x ≤ (9223372036854775807 : Nat) ∧ (∃ (x : AxV × AxV × AxV), okAx x.1 ∧ okAx x.snd.1 ∧ okAx x.snd.2) ∧ ∀ (x : AxV × AxV × AxV), okAx x.1 ∧ okAx x.snd.1 ∧ okAx x.snd.2 → ((0 : Nat) = (0 : Nat) ∧ (0 : Nat) = (0 : Nat) ∧
    ((0 : Nat) + List.length l) * (24 : Nat) ≤ (140737488355328 : Nat) ∧ (0 : Nat) + List.length l ≤ maxLen) ∧ (∃ (x : Nat), (0 : Nat) + List.length l ≤ x ∧ x ≤ maxLen) ∧ ∀ (x_4 : Nat), (0 : Nat) + List.length l ≤ x_4 ∧ x_4 ≤ maxLen → ((0 : Nat) + List.length l = List.length ([] ++ l) ∧ (((nat_lit 0 + List.length l) : Nat) : Int) = (((List.length ([] ++ l)) : Nat) : Int) ∧ (0 : Int) = (0 : Int) ∧ x_4 = x_4 ∧ List.length ([] ++ l) ≤ (4611686018427387904 : Nat)) ∧ ∀ (x_5 : List (List Int)), List.length x_5 = List.length ([] ++ l) → ((((0 : Int) < x.1.st ∧ x.1.st ≤ (16777216 : Int)) ∧ okC x.1.og x.1.sg x.1.pit ∧ (-1073741824 : Int) ≤ x5 ∧ x5 ≤ (1073741824 : Int)) ∧ (((0 : Int) < x.snd.1.st ∧ x.snd.1.st ≤ (16777216 : Int)) ∧ okC x.snd.1.og x.snd.1.sg x.snd.1.pit ∧ (-1073741824 : Int) ≤ x7 ∧ x7 ≤ (1073741824 : Int)) ∧ ((0 : Int) < x.snd.2.st ∧ x.snd.2.st ≤ (16777216 : Int)) ∧ okC x.snd.2.og x.snd.2.sg x.snd.2.pit ∧
    (-1073741824 : Int) ≤ x9 ∧ x9 ≤ (1073741824 : Int)) ∧ ∀ (x13 : Int), x13 = mot x.1.st x.1.og x.1.sg x.1.pit x5 → ∀ (x14 : Int), x14 = mot x.snd.1.st x.snd.1.og x.snd.1.sg x.snd.1.pit x7 → ∀ (x15 : Int), x15 = mot x.snd.2.st x.snd.2.og x.snd.2.sg x.snd.2.pit x9 → ∀ (x16 : Int), x16 = mot x.1.st x.1.og x.1.sg x.1.pit x5 → ∀ (x17 : Int), x17 = mot x.snd.1.st x.snd.1.og x.snd.1.sg x.snd.1.pit x7 → ∀ (x18 : Int), x18 = mot x.snd.2.st x.snd.2.og x.snd.2.sg x.snd.2.pit x9 → nat_lit 0 + List.length l = List.length x_5 ∧ ((((0 : Int) < x.1.st ∧ x.1.st ≤ (16777216 : Int)) ∧ okC x.1.og x.1.sg x.1.pit ∧ (-1073741824 : Int) ≤ x5 ∧ x5 ≤ (1073741824 : Int)) ∧ (((0 : Int) < x.snd.1.st ∧ x.snd.1.st ≤ (16777216 : Int)) ∧ okC x.snd.1.og x.snd.1.sg x.snd.1.pit ∧ (-1073741824 : Int) ≤ x7 ∧ x7 ≤ (1073741824 : Int)) ∧ ((0 : Int) < x.snd.2.st ∧ x.snd.2.st ≤ (16777216 : Int)) ∧ okC x.snd.2.og x.snd.2.sg x.snd.2.pit ∧
    (-1073741824 : Int) ≤ x9 ∧ x9 ≤ (1073741824 : Int)) ∧ ∀ (x19 : Int), x19 = mot x.1.st x.1.og x.1.sg x.1.pit x5 → ∀ (x20 : Int), x20 = mot x.snd.1.st x.snd.1.og x.snd.1.sg x.snd.1.pit x7 → ∀ (x21 : Int), x21 = mot x.snd.2.st x.snd.2.og x.snd.2.sg x.snd.2.pit x9 → ∀ (x22 : Int), x22 = mot x.1.st x.1.og x.1.sg x.1.pit x5 → ∀ (x23 : Int), x23 = mot x.snd.1.st x.snd.1.og x.snd.1.sg x.snd.1.pit x7 → ∀ (x24 : Int), x24 = mot x.snd.2.st x.snd.2.og x.snd.2.sg x.snd.2.pit x9 → ((x13 == x19 && (x14 == x20 && (x15 == x21 && true)) && (x16 == x22 && (x17 == x23 && (x18 == x24 && true)) && true)) = true → ((okB x.1.bl ∧ okB x.snd.1.bl ∧ okB x.snd.2.bl) ∧ smallPS (1152921504606846976 : Int) { m0 := m0, m1 := m1, m2 := m2, t0 := t0, t1 := t1, t2 := t2 } ∧ List.length l ≤ (1152921504606846976 : Nat)) ∧ (∃ (x_6 : PS), x_6 = pall x.1.bl x.snd.1.bl x.snd.2.bl { m0 := m0, m1 := m1, m2 := m2, t0 := t0, t1 := t1, t2 := t2 } l) ∧
    ∀ (x_6 : PS), x_6 = pall x.1.bl x.snd.1.bl x.snd.2.bl { m0 := m0, m1 := m1, m2 := m2, t0 := t0, t1 := t1, t2 := t2 } l → ((okB x.1.bl ∧ okB x.snd.1.bl ∧ okB x.snd.2.bl) ∧ smallPS (1152921504606846976 : Int) { m0 := m0, m1 := m1, m2 := m2, t0 := t0, t1 := t1, t2 := t2 } ∧ List.length l ≤ (1152921504606846976 : Nat)) ∧ (∃ (x_7 : PS), x_7 = pall x.1.bl x.snd.1.bl x.snd.2.bl { m0 := m0, m1 := m1, m2 := m2, t0 := t0, t1 := t1, t2 := t2 } l) ∧ ∀ (x_7 : PS), x_7 = pall x.1.bl x.snd.1.bl x.snd.2.bl { m0 := m0, m1 := m1, m2 := m2, t0 := t0, t1 := t1, t2 := t2 } l → ((x_6.m0 == x_7.m0 && (x_6.m1 == x_7.m1 && (x_6.m2 == x_7.m2 && true)) && (x_6.t0 == x_7.t0 && (x_6.t1 == x_7.t1 && (x_6.t2 == x_7.t2 && true)) && true)) = true → ((okB x.1.bl ∧ okB x.snd.1.bl ∧ okB x.snd.2.bl) ∧ smallPS (1152921504606846976 : Int) { m0 := x13, m1 := x14, m2 := x15, t0 := x16, t1 := x17, t2 := x18 } ∧ List.length x_5 ≤ (1152921504606846976 : Nat)) ∧
    (∃ (x_8 : PS), x_8 = pall x.1.bl x.snd.1.bl x.snd.2.bl { m0 := x13, m1 := x14, m2 := x15, t0 := x16, t1 := x17, t2 := x18 } x_5) ∧ ∀ (x_8 : PS), x_8 = pall x.1.bl x.snd.1.bl x.snd.2.bl { m0 := x13, m1 := x14, m2 := x15, t0 := x16, t1 := x17, t2 := x18 } x_5 → ((okB x.1.bl ∧ okB x.snd.1.bl ∧ okB x.snd.2.bl) ∧ smallPS (1152921504606846976 : Int) { m0 := x13, m1 := x14, m2 := x15, t0 := x16, t1 := x17, t2 := x18 } ∧ List.length x_5 ≤ (1152921504606846976 : Nat)) ∧ (∃ (x_9 : PS), x_9 = pall x.1.bl x.snd.1.bl x.snd.2.bl { m0 := x13, m1 := x14, m2 := x15, t0 := x16, t1 := x17, t2 := x18 } x_5) ∧ ∀ (x_9 : PS), x_9 = pall x.1.bl x.snd.1.bl x.snd.2.bl { m0 := x13, m1 := x14, m2 := x15, t0 := x16, t1 := x17, t2 := x18 } x_5 → Q { val := HV.ce (HC.bool (x_8.m0 == x_9.m0 && (x_8.m1 == x_9.m1 && (x_8.m2 == x_9.m2 && true)) && (x_8.t0 == x_9.t0 && (x_8.t1 == x_9.t1 && (x_8.t2 == x_9.t2 && true)) && true))), own := false, pars := [], news := [] }) ∧
    ((x_6.m0 == x_7.m0 && (x_6.m1 == x_7.m1 && (x_6.m2 == x_7.m2 && true)) && (x_6.t0 == x_7.t0 && (x_6.t1 == x_7.t1 && (x_6.t2 == x_7.t2 && true)) && true)) = false → Q { val := HV.ce (HC.bool false), own := false, pars := [], news := [] })) ∧ ((x13 == x19 && (x14 == x20 && (x15 == x21 && true)) && (x16 == x22 && (x17 == x23 && (x18 == x24 && true)) && true)) = false → Q { val := HV.ce (HC.bool false), own := false, pars := [], news := [] })))))) := by kernel_rfl
end Go.Proofs.Ythlkjpgkmmobfaa
namespace U
theorem okC_of {a : AxV} (h : okAx a) : okC a.og a.sg a.pit := by
  obtain ⟨h1, h2, h3, h4, h5, h6, h7, h8, h9, h10⟩ := h
  refine ⟨fun hp => ?_, ?_, ?_, ?_, fun j hj => h10.1 j hj⟩
  · have := h9 hp; omega
  · omega
  · omega
  · omega
theorem okM_of {a : AxV} {p : Int} (h : okAx a) (hp : -16777216 ≤ p ∧ p ≤ 16777216) : (0 < a.st ∧ a.st ≤ 16777216) ∧ okC a.og a.sg a.pit ∧ -1073741824 ≤ p ∧ p ≤ 1073741824 := by
  have := okC_of h
  have := h.1
  refine ⟨by omega, by assumption, by omega⟩
theorem mot_bd {a : AxV} {p : Int} (h : okAx a) (hp : -16777216 ≤ p ∧ p ≤ 16777216) : -2199023255552 ≤ mot a.st a.og a.sg a.pit p ∧ mot a.st a.og a.sg a.pit p ≤ 2199023255554 := by
  have hb := corr_bd (okC_of h) p
  have h1 := h.1
  rw [← stp_eq]
  exact stp_bd (by omega) (by omega)
theorem okB_of {a : AxV} (h : okAx a) : okB a.bl := by
  have h1 := h.2.2.2.2.1
  unfold okB
  omega
end U
namespace Go.Proofs.Ythlkjpgkmmobfaa
open Go Go.HL U
attribute [local irreducible] hfun bodyT fragT
set_option maxHeartbeats 400000 in
set_option maxRecDepth 100000 in
theorem sNear : Sound Try.prog 5 SNear := by
  refine sound_of (C := CNear) [] Try.func5 (by kernel_rfl) (by decide +kernel) (by kernel_rfl) rfl trivial (loopsAll (by kernel_rfl)) ?_
  intro hargs pars R h
  unfold SNear at h
  split at h
  case h_2 => exfalso; exact h
  rename_i a b c
  obtain ⟨_, _, hq⟩ := h
  have no : R ⟨.ce (.bool false), false, [], []⟩ := hq false (fun e => by cases e)
  refine byVC (vcNear a b c R) ⟨by decide, fun _ => no, fun h1 => ⟨fun _ => no, fun h2 => ⟨by decide, fun _ => no, fun h3 => ⟨fun _ => no, fun h4 => ⟨by decide, fun _ => no, fun h5 => ⟨fun _ => no, fun h6 => hq true fun _ => ?_⟩⟩⟩⟩⟩⟩
  have h1 := of_decide_eq_false h1
  have h2 := of_decide_eq_false h2
  have h3 := of_decide_eq_false h3
  have h4 := of_decide_eq_false h4
  have h5 := of_decide_eq_false h5
  have h6 := of_decide_eq_false h6
  omega
set_option maxHeartbeats 400000 in
set_option maxRecDepth 100000 in
theorem sAwake : Sound Try.prog 4 STrue0 := by
  refine sound_of (C := CAwake) tabAwake Try.func4 (by kernel_rfl) (by decide +kernel) (by kernel_rfl) rfl ⟨sStep, trivial⟩ (loops0 (by kernel_rfl)) ?_
  intro hargs pars R h
  unfold STrue0 at h
  split at h
  case h_2 => exfalso; exact h
  obtain ⟨_, _, hq⟩ := h
  have hp : pall 3 3 3 ⟨0, 0, 0, 0, 0, 0⟩ [[0, 0, -1], [0, 0, -1], [0, 0, -1]] = ⟨-3, 0, 0, 0, 0, 0⟩ := by kernel_rfl
  refine byVC (vcAwake R) ⟨⟨by unfold okB; decide, by unfold smallPS; decide, by decide⟩, ⟨_, rfl⟩, fun x e => ?_⟩
  rw [hp] at e
  subst e
  exact ⟨fun _ => hq _ rfl, fun e => by cases e⟩
def okR : Res := ⟨.ce (.bool true), false, [], []⟩
def SLaw (hargs : List HV) (pars : List (List HC)) : SR :=
  match hargs, pars with
  | [.ce (.sl false [4] x), .agg [.int .i64 p0, .int .i64 p1, .int .i64 p2], .agg [.int .i64 m0, .int .i64 m1, .int .i64 m2, .int .i64 t0, .int .i64 t1, .int .i64 t2], .ce (.sl false [4, 4, 4] l)], [] => .det (x.length ≤ 9223372036854775807) okR
  | _, _ => .fail
theorem loopLaw : ∀ v Q, (LLaw v).wp Q → hloop CLaw anLaw (nthLoop Try.f3 1) v Q := by
  intro v Q h
  unfold LLaw at h
  split at h
  case h_2 => exact h.elim
  rename_i l z n c m i p0 p1 p2 b6 b10 rows d
  split at h
  case h_2 => exact h.elim
  rename_i m0 m1 m2 t0 t1 t2
  split at h
  case h_2 => exact h.elim
  rename_i sta spa aca jea loa hia bla oga sga pta stb spb acb jeb lob hib blb ogb sgb ptb stc spc acc jec loc hic blc ogc sgc ptc
  obtain ⟨⟨hn, hm, hi, hc, hl⟩, hq⟩ := h
  subst hn hm hi hc
  refine hloop_rec (σ := List (List Int) × Nat)
    (fun s => ([.ce (.sl false [4, 4, 4] l), .ce (.ptr 1000005 0), .ce (.ptr 1000006 0), .ce (.bool z), .ce (.ptr 1000010 0), .ce (.msl 1000046 rows.length c), .ce (.int .i64 (rows.length : Int)), .ce (.int .i64 (s.2 : Int))], [[.int .i64 p0, .int .i64 p1, .int .i64 p2], [.int .i64 m0, .int .i64 m1, .int .i64 m2, .int .i64 t0, .int .i64 t1, .int .i64 t2], [.int .i64 sta, .int .i64 spa, .int .i64 aca, .int .i64 jea, .int .i64 loa, .int .i64 hia, .int .i64 bla, .int .i64 oga, .int .i64 sga, .sl false [4] pta, .int .i64 stb, .int .i64 spb, .int .i64 acb, .int .i64 jeb, .int .i64 lob, .int .i64 hib, .int .i64 blb, .int .i64 ogb, .int .i64 sgb, .sl false [4] ptb, .int .i64 stc, .int .i64 spc, .int .i64 acc, .int .i64 jec, .int .i64 loc, .int .i64 hic, .int .i64 blc, .int .i64 ogc, .int .i64 sgc, .sl false [4] ptc], [.arr [4, 4, 4] s.1 c]]))
    (fun s => rows.length - s.2)
    (fun s => s.2 ≤ rows.length ∧ s.1.length = rows.length)
    ?_ (rows, 0) ⟨Nat.zero_le _, rfl⟩
  rintro ⟨rs, k⟩ ⟨hk, he⟩ K hn hx _
  dsimp only at hk he hn ⊢
  refine byVB (vbLaw z l rs rows.length k p0 p1 p2 rows.length c c m0 m1 m2 t0 t1 t2 sta spa aca jea loa hia bla oga sga stb spb acb jeb lob hib blb ogb sgb stc spc acc jec loc hic blc ogc sgc pta ptb ptc K) ⟨fun g => ?_, fun g => ?_⟩
  · have g := of_decide_eq_true g
    have hkl : k < rows.length := by omega
    have hin : (0 : Int) ≤ (k : Int) ∧ (k : Int) < (rows.length : Int) := by omega
    have ht : Int.toNat (k : Int) < rs.length := by rw [he]; exact hkl
    have e4 : ∀ x : Int, 0 ≤ x % 4 ∧ x % 4 < 4 := fun x => ⟨Int.emod_nonneg _ (by decide), Int.emod_lt_of_pos _ (by decide)⟩
    refine ⟨hin, ht, fun x1 _ => ⟨by decide, fun x2 q2 => ⟨hin, ht, fun x3 _ => ⟨by decide, fun x4 q4 => ⟨by omega, fun x5 _ => ⟨hin, ht, fun x6 _ => ⟨by decide, fun x7 q7 => ⟨by omega, fun x8 _ => ⟨hin, ht, hin, by rw [List.length_set]; exact ht, by omega, fun x9 e9 => ?_⟩⟩⟩⟩⟩⟩⟩⟩⟩
    subst e9
    refine hn (_, k + 1) ⟨hkl, ?_⟩ (by dsimp only; omega)
    dsimp only
    rw [List.length_set, List.length_set]
    exact he
  · exact hx 2 _ (hq rs he)
set_option maxHeartbeats 400000 in
set_option maxRecDepth 100000 in
theorem sLaw : Sound Try.prog 3 SLaw := by
  refine sound_of (C := CLaw) tabLaw Try.func3 (by kernel_rfl) (by decide +kernel) (by kernel_rfl) rfl ⟨sAwake, sNear, sMod, sAxes, sStart, sStart2, sStep, sStep2, trivial⟩ (loopsK [nthLoop Try.f3 1] [] (by kernel_rfl) (by kernel_rfl) ⟨loopOK_of (an := anLaw) (S := LLaw) (by kernel_rfl) loopLaw, trivial⟩ trivial) ?_
  intro hargs pars R h
  unfold SLaw at h
  split at h
  case h_2 => exfalso; exact h
  rename_i x p0 p1 p2 m0 m1 m2 t0 t1 t2 l
  obtain ⟨hx, hq⟩ := h
  have hq : R ⟨.ce (.bool true), false, [], []⟩ := hq
  refine byVC (vcLaw x l p0 p1 p2 m0 m1 m2 t0 t1 t2 R) ⟨trivial, ⟨true, rfl⟩, fun a ea => ⟨fun e => (by rw [ea] at e; cases e), fun _ => ⟨fun _ => hq, fun hl => ⟨trivial, ⟨false, fun e => by cases e⟩, fun b hb => ⟨fun _ => hq, fun eb => ⟨trivial, ⟨false, fun e => by cases e⟩, fun c hc => ⟨fun _ => hq, fun ec => ?_⟩⟩⟩⟩⟩⟩⟩
  have hl : ¬ ((l.length : Int) > 100) := of_decide_eq_false hl
  have hb := hb (by simpa using eb)
  have hc := hc (by simpa using ec)
  have em : ∀ v : Int, 0 ≤ v % 33554433 ∧ v % 33554433 < 33554433 := fun v => ⟨Int.emod_nonneg _ (by decide), Int.emod_lt_of_pos _ (by decide)⟩
  have em0 := em p0
  have em1 := em p1
  have em2 := em p2
  refine ⟨by decide, by decide, fun x4 e4 => ⟨by omega, fun x5 e5 => ⟨by decide, by decide, by decide, fun x6 e6 => ⟨by omega, fun x7 e7 => ⟨by decide, by decide, by decide, fun x8 e8 => ⟨by omega, fun x9 e9 => ⟨by decide, hx, ?_⟩⟩⟩⟩⟩⟩⟩
  obtain ⟨a0, ha0⟩ := okAx_ex
  refine ⟨⟨(a0, a0, a0), ha0, ha0, ha0⟩, fun ax ⟨k0, k1, k2⟩ => ⟨⟨rfl, rfl, by omega, by unfold maxLen; omega⟩, ⟨0 + l.length, Nat.le_refl _, by unfold maxLen; omega⟩, fun cap hcap => ⟨⟨by simp, by simp, rfl, rfl, by simp; omega⟩, fun us hus => ?_⟩⟩⟩
  have hul : us.length = l.length := by rw [hus]; rfl
  have b5 : -16777216 ≤ x5 ∧ x5 ≤ 16777216 := by omega
  have b7 : -16777216 ≤ x7 ∧ x7 ≤ 16777216 := by omega
  have b9 : -16777216 ≤ x9 ∧ x9 ≤ 16777216 := by omega
  have s0 := mot_bd k0 b5
  have s1 := mot_bd k1 b7
  have s2 := mot_bd k2 b9
  refine ⟨⟨okM_of k0 b5, okM_of k1 b7, okM_of k2 b9⟩, ?_⟩
  refine fun x13 e13 x14 e14 x15 e15 x16 e16 x17 e17 x18 e18 => ?_
  refine ⟨by rw [hul]; exact Nat.zero_add _, ⟨okM_of k0 b5, okM_of k1 b7, okM_of k2 b9⟩, ?_⟩
  refine fun x19 e19 x20 e20 x21 e21 x22 e22 x23 e23 x24 e24 => ?_
  have q0 : x19 = x13 := by rw [e19, e13]
  have q1 : x20 = x14 := by rw [e20, e14]
  have q2 : x21 = x15 := by rw [e21, e15]
  have q3 : x22 = x16 := by rw [e22, e16]
  have q4 : x23 = x17 := by rw [e23, e17]
  have q5 : x24 = x18 := by rw [e24, e18]
  rw [← e13] at s0
  rw [← e14] at s1
  rw [← e15] at s2
  have q6 : x16 = x13 := by rw [e16, e13]
  have q7 : x17 = x14 := by rw [e17, e14]
  have q8 : x18 = x15 := by rw [e18, e15]
  clear e13 e14 e15 e16 e17 e18 e19 e20 e21 e22 e23 e24
  subst q6 q7 q8
  have sm : smallPS 1152921504606846976 ⟨x16, x17, x18, x16, x17, x18⟩ := by unfold smallPS; dsimp only; omega
  have sr : smallPS 1152921504606846976 ⟨m0, m1, m2, t0, t1, t2⟩ := by unfold smallPS; dsimp only; omega
  have kb : okB ax.1.bl ∧ okB ax.2.1.bl ∧ okB ax.2.2.bl := ⟨okB_of k0, okB_of k1, okB_of k2⟩
  refine ⟨fun _ => ⟨⟨kb, sr, by omega⟩, ⟨_, rfl⟩, fun y6 e6 => ⟨⟨kb, sr, by omega⟩, ⟨_, rfl⟩, fun y7 e7 => ⟨fun _ => ⟨⟨kb, sm, by omega⟩, ⟨_, rfl⟩, fun y8 e8 => ⟨⟨kb, sm, by omega⟩, ⟨_, rfl⟩, fun y9 e9 => ?_⟩⟩, fun e => ?_⟩⟩⟩, fun e => ?_⟩
  · have : y9 = y8 := by rw [e9, e8]
    subst this
    simpa using hq
  · have : y7 = y6 := by rw [e7, e6]
    subst this
    simp at e
  · simp [q0, q1, q2, q3, q4, q5] at e
end Go.Proofs.Ythlkjpgkmmobfaa
