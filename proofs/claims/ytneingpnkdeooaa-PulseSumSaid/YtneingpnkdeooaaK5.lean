/-
  A way's pieces are in order; the pulses between two track positions, their sum, and when two lists of them are the same.
  Conditions: none.
-/
import Derived.Test.YtneingpnkdeooaaK4
set_option maxRecDepth 100000
namespace U
open Go
/-- the pulse of an axis -/
def pl1 (u k n w : Int) : List (List Int) := if n ≠ w then [[u, k, n - w]] else []
def plAt (M0 M1 M2 : Int → Int) (u : Int) : List (List Int) := pl1 u 0 (M0 u) (M0 (u - 1)) ++ pl1 u 1 (M1 u) (M1 (u - 1)) ++ pl1 u 2 (M2 u) (M2 (u - 1))
/-- the pulses of the n units behind a -/
def plN (M0 M1 M2 : Int → Int) (a : Int) : Nat → List (List Int)
  | 0 => []
  | n + 1 => plN M0 M1 M2 a n ++ plAt M0 M1 M2 (a + (n : Int) + 1)
/-- the motor of an axis at a track position, of a path, axes and a track -/
def mtr (st og sg : Int) (pt : List (List Int)) (bl s : Int) (sgs : List (List Int)) (c : Nat) (pk : List (List Int)) (sa d : Int) (u : Int) : Int := tmot st og sg pt bl (ptAt s sgs c (tplace pk sa u)) pk d u c
def sumAx (a : Int) : List (List Int) → Int
  | [] => 0
  | r :: l => (if r.getD 1 0 = a then r.getD 2 0 else 0) + sumAx a l
def okDir (l : List (List Int)) : Prop := l.length ≤ 1048576 ∧ ∀ j, j < l.length → -1099511627776 ≤ ec l j 2 ∧ ec l j 2 ≤ 1099511627776
def same3 (a b : List (List Int)) (k : Nat) : Prop := ∀ j, j < k → ec a j 0 = ec b j 0 ∧ ec a j 1 = ec b j 1 ∧ ec a j 2 = ec b j 2
end U
namespace Go.Proofs.Ytneingpnkdeooaa
open Go Go.HL U
def SBetween (hargs : List HV) (pars : List (List HC)) : SR :=
  match hargs, pars with
  | [.agg [.int .i64 s0, .int .i64 s1, .int .i64 s2, .sl false [4, 4, 4, 4, 4, 4, 4] sg, .sl false [4, 4, 4] mk], .agg ax, .agg [.sl false [4, 4, 4, 4, 4, 4, 4, 4, 4, 4] pk, .int .i64 ln, .int .i64 sa, .int .i64 d0, .int .i64 d1, .int .i64 d2], .ce (.int .i64 f), .ce (.int .i64 t)], [] =>
    match ax with
    | [.int .i64 sta, .int .i64 spa, .int .i64 aca, .int .i64 jea, .int .i64 loa, .int .i64 hia, .int .i64 bla, .int .i64 oga, .int .i64 sga, .sl false [4] pta, .int .i64 stb, .int .i64 spb, .int .i64 acb, .int .i64 jeb, .int .i64 lob, .int .i64 hib, .int .i64 blb, .int .i64 ogb, .int .i64 sgb, .sl false [4] ptb, .int .i64 stc, .int .i64 spc, .int .i64 acc, .int .i64 jec, .int .i64 loc, .int .i64 hic, .int .i64 blc, .int .i64 ogc, .int .i64 sgc, .sl false [4] ptc] =>
      .all ((okLen sg ∧ okPts s0 s1 s2 sg ∧ okTrk pk ln ∧ okMA sta oga sga pta bla ∧ okMA stb ogb sgb ptb blb ∧ okMA stc ogc sgc ptc blc ∧ (0 ≤ sa ∧ sa ≤ 18014398509481984)) ∧ ln ≤ 1099511627776) (List (List Int))
        (fun x => x = plN (mtr sta oga sga pta bla s0 sg 0 pk sa d0) (mtr stb ogb sgb ptb blb s1 sg 1 pk sa d1) (mtr stc ogc sgc ptc blc s2 sg 2 pk sa d2) (clamp ln f) (clamp ln t - clamp ln f).toNat)
        (fun x => ⟨.ce (.sl false [4, 4, 4] x), true, [], []⟩)
    | _ => .fail
  | _, _ => .fail
def tabBtw : List (FuncId × HL.Spec) := [(21, SMotors)]
def anBtw : LAnn := ⟨[4, 5, 6, 7, 11, 100011, 12, 13], [11, 100011], [1000005, 1000006, 1000007, 1000012], false⟩
def LBtw (v : LV) : LR :=
  match v with
  | ([.ce (.int .i64 t), .ce (.ptr 1000005 0), .ce (.ptr 1000006 0), .ce (.ptr 1000007 0), .ce (.sl false [4, 4, 4] l), .ce (.lit true), .ce (.ptr 1000012 0), .ce (.int .i64 u)], [[.int .i64 s0, .int .i64 s1, .int .i64 s2, .sl false [4, 4, 4, 4, 4, 4, 4] sg, .sl false [4, 4, 4] mk], ax, tr, [.int .i64 w0, .int .i64 w1, .int .i64 w2]]) =>
    match ax with
    | [.int .i64 sta, .int .i64 spa, .int .i64 aca, .int .i64 jea, .int .i64 loa, .int .i64 hia, .int .i64 bla, .int .i64 oga, .int .i64 sga, .sl false [4] pta, .int .i64 stb, .int .i64 spb, .int .i64 acb, .int .i64 jeb, .int .i64 lob, .int .i64 hib, .int .i64 blb, .int .i64 ogb, .int .i64 sgb, .sl false [4] ptb, .int .i64 stc, .int .i64 spc, .int .i64 acc, .int .i64 jec, .int .i64 loc, .int .i64 hic, .int .i64 blc, .int .i64 ogc, .int .i64 sgc, .sl false [4] ptc] => match tr with
      | [.sl false [4, 4, 4, 4, 4, 4, 4, 4, 4, 4] pk, .int .i64 ln, .int .i64 sa, .int .i64 d0, .int .i64 d1, .int .i64 d2] =>
        .all ((okLen sg ∧ okPts s0 s1 s2 sg ∧ okTrk pk ln ∧ okMA sta oga sga pta bla ∧ okMA stb ogb sgb ptb blb ∧ okMA stc ogc sgc ptc blc ∧ (0 ≤ sa ∧ sa ≤ 18014398509481984)) ∧ ln ≤ 1099511627776 ∧ (0 ≤ u ∧ u ≤ ln) ∧ (0 ≤ t ∧ t ≤ ln) ∧ l.length = 0 ∧
            w0 = mtr sta oga sga pta bla s0 sg 0 pk sa d0 u ∧ w1 = mtr stb ogb sgb ptb blb s1 sg 1 pk sa d1 u ∧ w2 = mtr stc ogc sgc ptc blc s2 sg 2 pk sa d2 u)
          (List (List Int) × Int × Int × Int) (fun x => x.1 = plN (mtr sta oga sga pta bla s0 sg 0 pk sa d0) (mtr stb ogb sgb ptb blb s1 sg 1 pk sa d1) (mtr stc ogc sgc ptc blc s2 sg 2 pk sa d2) u (t - u).toNat) (fun _ => .exit 0)
          (fun x => ([.ce (.sl false [4, 4, 4] x.1), .ce (.lit true)], [[.int .i64 s0, .int .i64 s1, .int .i64 s2, .sl false [4, 4, 4, 4, 4, 4, 4] sg, .sl false [4, 4, 4] mk], [.int .i64 sta, .int .i64 spa, .int .i64 aca, .int .i64 jea, .int .i64 loa, .int .i64 hia, .int .i64 bla, .int .i64 oga, .int .i64 sga, .sl false [4] pta, .int .i64 stb, .int .i64 spb, .int .i64 acb, .int .i64 jeb, .int .i64 lob, .int .i64 hib, .int .i64 blb, .int .i64 ogb, .int .i64 sgb, .sl false [4] ptb, .int .i64 stc, .int .i64 spc, .int .i64 acc, .int .i64 jec, .int .i64 loc, .int .i64 hic, .int .i64 blc, .int .i64 ogc, .int .i64 sgc, .sl false [4] ptc], [.sl false [4, 4, 4, 4, 4, 4, 4, 4, 4, 4] pk, .int .i64 ln, .int .i64 sa, .int .i64 d0, .int .i64 d1, .int .i64 d2], [.int .i64 x.2.1, .int .i64 x.2.2.1, .int .i64 x.2.2.2]]))
      | _ => .fail
    | _ => .fail
  | _ => .fail
noncomputable def CBtw : Ctx := ⟨Try.prog, gam tabBtw, Try.f22.ntmps, [(5, anBtw, LBtw), (4000009, unrT [1000005, 1000006, 1000007, 1000012, 1000014], fun _ => .fail)], []⟩
theorem vbBtw (s0 s1 s2 t u ln sa d0 d1 d2 w0 w1 w2 : Int) (sg mk pk l : List (List Int)) (sta spa aca jea loa hia bla oga sga stb spb acb jeb lob hib blb ogb sgb stc spc acc jec loc hic blc ogc sgc : Int) (pta ptb ptc : List (List Int)) (K : HEx → LV → Prop) : (nbodyT true CBtw anBtw (nthLoop Try.f22 0) (([.ce (.int .i64 t), .ce (.ptr 1000005 0), .ce (.ptr 1000006 0), .ce (.ptr 1000007 0), .ce (.sl false [4, 4, 4] l), .ce (.lit true), .ce (.ptr 1000012 0), .ce (.int .i64 u)], [[.int .i64 s0, .int .i64 s1, .int .i64 s2, .sl false [4, 4, 4, 4, 4, 4, 4] sg, .sl false [4, 4, 4] mk], [.int .i64 sta, .int .i64 spa, .int .i64 aca, .int .i64 jea, .int .i64 loa, .int .i64 hia, .int .i64 bla, .int .i64 oga, .int .i64 sga, .sl false [4] pta, .int .i64 stb, .int .i64 spb, .int .i64 acb, .int .i64 jeb, .int .i64 lob, .int .i64 hib, .int .i64 blb, .int .i64 ogb, .int .i64 sgb, .sl false [4] ptb, .int .i64 stc, .int .i64 spc, .int .i64 acc, .int .i64 jec, .int .i64 loc, .int .i64 hic, .int .i64 blc, .int .i64 ogc, .int .i64 sgc, .sl false [4] ptc], [.sl false [4, 4, 4, 4, 4, 4, 4, 4, 4, 4] pk, .int .i64 ln, .int .i64 sa, .int .i64 d0, .int .i64 d1, .int .i64 d2], [.int .i64 w0, .int .i64 w1, .int .i64 w2]])) K) =
    ((decide (u < t) = true → ((-9223372036854775808 : Int) ≤ u + (1 : Int) ∧ u + (1 : Int) ≤ (9223372036854775807 : Int)) ∧ ∀ (x1 : Int), x1 = u + (1 : Int) → (okLen sg ∧ okPts s0 s1 s2 sg ∧ okTrk pk ln ∧ okMA sta oga sga pta bla ∧ okMA stb ogb sgb ptb blb ∧ okMA stc ogc sgc ptc blc ∧ (0 : Int) ≤ sa ∧ sa ≤ (18014398509481984 : Int)) ∧ ∀ (x2 : Int), x2 = tmot sta oga sga pta bla (ptAt s0 sg (0 : Nat) (tplace pk sa (clamp ln x1))) pk d0 (clamp ln x1) (0 : Nat) → ∀ (x3 : Int), x3 = tmot stb ogb sgb ptb blb (ptAt s1 sg (1 : Nat) (tplace pk sa (clamp ln x1))) pk d1 (clamp ln x1) (1 : Nat) → ∀ (x4 : Int), x4 = tmot stc ogc sgc ptc blc (ptAt s2 sg (2 : Nat) (tplace pk sa (clamp ln x1))) pk d2 (clamp ln x1) (2 : Nat) → ((x2 != w0) = true → ((-9223372036854775808 : Int) ≤ x2 - w0 ∧ x2 - w0 ≤ (9223372036854775807 : Int)) ∧ ∀ (x5 : Int), x5 = x2 - w0 → ((List.length l + (1 : Nat)) * (24 : Nat) ≤ (140737488355328 : Nat) ∧
    List.length l + (1 : Nat) ≤ maxLen) ∧ ((x3 != w1) = true → ((-9223372036854775808 : Int) ≤ x3 - w1 ∧ x3 - w1 ≤ (9223372036854775807 : Int)) ∧ ∀ (x6 : Int), x6 = x3 - w1 → ((List.length (l ++ [[x1, (0 : Int), x5]]) + (1 : Nat)) * (24 : Nat) ≤ (140737488355328 : Nat) ∧ List.length (l ++ [[x1, (0 : Int), x5]]) + (1 : Nat) ≤ maxLen) ∧ ((x4 != w2) = true → ((-9223372036854775808 : Int) ≤ x4 - w2 ∧ x4 - w2 ≤ (9223372036854775807 : Int)) ∧ ∀ (x7 : Int), x7 = x4 - w2 → ((List.length (l ++ [[x1, (0 : Int), x5]] ++ [[x1, (1 : Int), x6]]) + (1 : Nat)) * (24 : Nat) ≤ (140737488355328 : Nat) ∧ List.length (l ++ [[x1, (0 : Int), x5]] ++ [[x1, (1 : Int), x6]]) + (1 : Nat) ≤ maxLen) ∧ K HEx.normal ([HV.ce (HC.int IntKind.i64 t), HV.ce (HC.ptr (1000005 : Nat) (0 : Nat)), HV.ce (HC.ptr (1000006 : Nat) (0 : Nat)), HV.ce (HC.ptr (1000007 : Nat) (0 : Nat)), HV.ce (HC.sl false [(4 : Nat), (4 : Nat), (4 : Nat)] (l ++ [[x1, (0 : Int), x5]] ++ [[x1, (1 : Int), x6]] ++ [[x1, (2 : Int), x7]])), HV.ce (HC.lit true), HV.ce (HC.ptr (1000012 : Nat) (0 : Nat)), HV.ce (HC.int IntKind.i64 x1)], [[HC.int IntKind.i64 s0, HC.int IntKind.i64 s1, HC.int IntKind.i64 s2, HC.sl false [(4 : Nat), (4 : Nat), (4 : Nat), (4 : Nat), (4 : Nat), (4 : Nat), (4 : Nat)] sg, HC.sl false [(4 : Nat), (4 : Nat), (4 : Nat)] mk], [HC.int IntKind.i64 sta, HC.int IntKind.i64 spa, HC.int IntKind.i64 aca, HC.int IntKind.i64 jea, HC.int IntKind.i64 loa, HC.int IntKind.i64 hia, HC.int IntKind.i64 bla, HC.int IntKind.i64 oga, HC.int IntKind.i64 sga, HC.sl false [(4 : Nat)] pta, HC.int IntKind.i64 stb, HC.int IntKind.i64 spb, HC.int IntKind.i64 acb, HC.int IntKind.i64 jeb, HC.int IntKind.i64 lob, HC.int IntKind.i64 hib, HC.int IntKind.i64 blb, HC.int IntKind.i64 ogb, HC.int IntKind.i64 sgb, HC.sl false [(4 : Nat)] ptb, HC.int IntKind.i64 stc, HC.int IntKind.i64 spc, HC.int IntKind.i64 acc, HC.int IntKind.i64 jec, HC.int IntKind.i64 loc, HC.int IntKind.i64 hic, HC.int IntKind.i64 blc, HC.int IntKind.i64 ogc, HC.int IntKind.i64 sgc, HC.sl false [(4 : Nat)] ptc], [HC.sl false [(4 : Nat), (4 : Nat), (4 : Nat), (4 : Nat), (4 : Nat), (4 : Nat), (4 : Nat), (4 : Nat), (4 : Nat), (4 : Nat)] pk, HC.int IntKind.i64 ln, HC.int IntKind.i64 sa, HC.int IntKind.i64 d0, HC.int IntKind.i64 d1, HC.int IntKind.i64 d2], [HC.int IntKind.i64 x2, HC.int IntKind.i64 x3, HC.int IntKind.i64 x4]])) ∧
    ((x4 != w2) = false → K HEx.normal ([HV.ce (HC.int IntKind.i64 t), HV.ce (HC.ptr (1000005 : Nat) (0 : Nat)), HV.ce (HC.ptr (1000006 : Nat) (0 : Nat)), HV.ce (HC.ptr (1000007 : Nat) (0 : Nat)), HV.ce (HC.sl false [(4 : Nat), (4 : Nat), (4 : Nat)] (l ++ [[x1, (0 : Int), x5]] ++ [[x1, (1 : Int), x6]])), HV.ce (HC.lit true), HV.ce (HC.ptr (1000012 : Nat) (0 : Nat)), HV.ce (HC.int IntKind.i64 x1)], [[HC.int IntKind.i64 s0, HC.int IntKind.i64 s1, HC.int IntKind.i64 s2, HC.sl false [(4 : Nat), (4 : Nat), (4 : Nat), (4 : Nat), (4 : Nat), (4 : Nat), (4 : Nat)] sg, HC.sl false [(4 : Nat), (4 : Nat), (4 : Nat)] mk], [HC.int IntKind.i64 sta, HC.int IntKind.i64 spa, HC.int IntKind.i64 aca, HC.int IntKind.i64 jea, HC.int IntKind.i64 loa, HC.int IntKind.i64 hia, HC.int IntKind.i64 bla, HC.int IntKind.i64 oga, HC.int IntKind.i64 sga, HC.sl false [(4 : Nat)] pta, HC.int IntKind.i64 stb, HC.int IntKind.i64 spb, HC.int IntKind.i64 acb, HC.int IntKind.i64 jeb, HC.int IntKind.i64 lob, HC.int IntKind.i64 hib, HC.int IntKind.i64 blb, HC.int IntKind.i64 ogb, HC.int IntKind.i64 sgb, HC.sl false [(4 : Nat)] ptb, HC.int IntKind.i64 stc, HC.int IntKind.i64 spc, HC.int IntKind.i64 acc, HC.int IntKind.i64 jec, HC.int IntKind.i64 loc, HC.int IntKind.i64 hic, HC.int IntKind.i64 blc, HC.int IntKind.i64 ogc, HC.int IntKind.i64 sgc, HC.sl false [(4 : Nat)] ptc], [HC.sl false [(4 : Nat), (4 : Nat), (4 : Nat), (4 : Nat), (4 : Nat), (4 : Nat), (4 : Nat), (4 : Nat), (4 : Nat), (4 : Nat)] pk, HC.int IntKind.i64 ln, HC.int IntKind.i64 sa, HC.int IntKind.i64 d0, HC.int IntKind.i64 d1, HC.int IntKind.i64 d2], [HC.int IntKind.i64 x2, HC.int IntKind.i64 x3, HC.int IntKind.i64 x4]]))) ∧
    ((x3 != w1) = false → ((x4 != w2) = true → ((-9223372036854775808 : Int) ≤ x4 - w2 ∧ x4 - w2 ≤ (9223372036854775807 : Int)) ∧ ∀ (x8 : Int), x8 = x4 - w2 → ((List.length (l ++ [[x1, (0 : Int), x5]]) + (1 : Nat)) * (24 : Nat) ≤ (140737488355328 : Nat) ∧ List.length (l ++ [[x1, (0 : Int), x5]]) + (1 : Nat) ≤ maxLen) ∧ K HEx.normal ([HV.ce (HC.int IntKind.i64 t), HV.ce (HC.ptr (1000005 : Nat) (0 : Nat)), HV.ce (HC.ptr (1000006 : Nat) (0 : Nat)), HV.ce (HC.ptr (1000007 : Nat) (0 : Nat)), HV.ce (HC.sl false [(4 : Nat), (4 : Nat), (4 : Nat)] (l ++ [[x1, (0 : Int), x5]] ++ [[x1, (2 : Int), x8]])), HV.ce (HC.lit true), HV.ce (HC.ptr (1000012 : Nat) (0 : Nat)), HV.ce (HC.int IntKind.i64 x1)], [[HC.int IntKind.i64 s0, HC.int IntKind.i64 s1, HC.int IntKind.i64 s2, HC.sl false [(4 : Nat), (4 : Nat), (4 : Nat), (4 : Nat), (4 : Nat), (4 : Nat), (4 : Nat)] sg, HC.sl false [(4 : Nat), (4 : Nat), (4 : Nat)] mk], [HC.int IntKind.i64 sta, HC.int IntKind.i64 spa, HC.int IntKind.i64 aca, HC.int IntKind.i64 jea, HC.int IntKind.i64 loa, HC.int IntKind.i64 hia, HC.int IntKind.i64 bla, HC.int IntKind.i64 oga, HC.int IntKind.i64 sga, HC.sl false [(4 : Nat)] pta, HC.int IntKind.i64 stb, HC.int IntKind.i64 spb, HC.int IntKind.i64 acb, HC.int IntKind.i64 jeb, HC.int IntKind.i64 lob, HC.int IntKind.i64 hib, HC.int IntKind.i64 blb, HC.int IntKind.i64 ogb, HC.int IntKind.i64 sgb, HC.sl false [(4 : Nat)] ptb, HC.int IntKind.i64 stc, HC.int IntKind.i64 spc, HC.int IntKind.i64 acc, HC.int IntKind.i64 jec, HC.int IntKind.i64 loc, HC.int IntKind.i64 hic, HC.int IntKind.i64 blc, HC.int IntKind.i64 ogc, HC.int IntKind.i64 sgc, HC.sl false [(4 : Nat)] ptc], [HC.sl false [(4 : Nat), (4 : Nat), (4 : Nat), (4 : Nat), (4 : Nat), (4 : Nat), (4 : Nat), (4 : Nat), (4 : Nat), (4 : Nat)] pk, HC.int IntKind.i64 ln, HC.int IntKind.i64 sa, HC.int IntKind.i64 d0, HC.int IntKind.i64 d1, HC.int IntKind.i64 d2], [HC.int IntKind.i64 x2, HC.int IntKind.i64 x3, HC.int IntKind.i64 x4]])) ∧
    ((x4 != w2) = false → K HEx.normal ([HV.ce (HC.int IntKind.i64 t), HV.ce (HC.ptr (1000005 : Nat) (0 : Nat)), HV.ce (HC.ptr (1000006 : Nat) (0 : Nat)), HV.ce (HC.ptr (1000007 : Nat) (0 : Nat)), HV.ce (HC.sl false [(4 : Nat), (4 : Nat), (4 : Nat)] (l ++ [[x1, (0 : Int), x5]])), HV.ce (HC.lit true), HV.ce (HC.ptr (1000012 : Nat) (0 : Nat)), HV.ce (HC.int IntKind.i64 x1)], [[HC.int IntKind.i64 s0, HC.int IntKind.i64 s1, HC.int IntKind.i64 s2, HC.sl false [(4 : Nat), (4 : Nat), (4 : Nat), (4 : Nat), (4 : Nat), (4 : Nat), (4 : Nat)] sg, HC.sl false [(4 : Nat), (4 : Nat), (4 : Nat)] mk], [HC.int IntKind.i64 sta, HC.int IntKind.i64 spa, HC.int IntKind.i64 aca, HC.int IntKind.i64 jea, HC.int IntKind.i64 loa, HC.int IntKind.i64 hia, HC.int IntKind.i64 bla, HC.int IntKind.i64 oga, HC.int IntKind.i64 sga, HC.sl false [(4 : Nat)] pta, HC.int IntKind.i64 stb, HC.int IntKind.i64 spb, HC.int IntKind.i64 acb, HC.int IntKind.i64 jeb, HC.int IntKind.i64 lob, HC.int IntKind.i64 hib, HC.int IntKind.i64 blb, HC.int IntKind.i64 ogb, HC.int IntKind.i64 sgb, HC.sl false [(4 : Nat)] ptb, HC.int IntKind.i64 stc, HC.int IntKind.i64 spc, HC.int IntKind.i64 acc, HC.int IntKind.i64 jec, HC.int IntKind.i64 loc, HC.int IntKind.i64 hic, HC.int IntKind.i64 blc, HC.int IntKind.i64 ogc, HC.int IntKind.i64 sgc, HC.sl false [(4 : Nat)] ptc], [HC.sl false [(4 : Nat), (4 : Nat), (4 : Nat), (4 : Nat), (4 : Nat), (4 : Nat), (4 : Nat), (4 : Nat), (4 : Nat), (4 : Nat)] pk, HC.int IntKind.i64 ln, HC.int IntKind.i64 sa, HC.int IntKind.i64 d0, HC.int IntKind.i64 d1, HC.int IntKind.i64 d2], [HC.int IntKind.i64 x2, HC.int IntKind.i64 x3, HC.int IntKind.i64 x4]])))) ∧
    ((x2 != w0) = false → ((x3 != w1) = true → ((-9223372036854775808 : Int) ≤ x3 - w1 ∧ x3 - w1 ≤ (9223372036854775807 : Int)) ∧ ∀ (x9 : Int), x9 = x3 - w1 → ((List.length l + (1 : Nat)) * (24 : Nat) ≤ (140737488355328 : Nat) ∧ List.length l + (1 : Nat) ≤ maxLen) ∧ ((x4 != w2) = true → ((-9223372036854775808 : Int) ≤ x4 - w2 ∧ x4 - w2 ≤ (9223372036854775807 : Int)) ∧ ∀ (x10 : Int), x10 = x4 - w2 → ((List.length (l ++ [[x1, (1 : Int), x9]]) + (1 : Nat)) * (24 : Nat) ≤ (140737488355328 : Nat) ∧ List.length (l ++ [[x1, (1 : Int), x9]]) + (1 : Nat) ≤ maxLen) ∧ K HEx.normal ([HV.ce (HC.int IntKind.i64 t), HV.ce (HC.ptr (1000005 : Nat) (0 : Nat)), HV.ce (HC.ptr (1000006 : Nat) (0 : Nat)), HV.ce (HC.ptr (1000007 : Nat) (0 : Nat)), HV.ce (HC.sl false [(4 : Nat), (4 : Nat), (4 : Nat)] (l ++ [[x1, (1 : Int), x9]] ++ [[x1, (2 : Int), x10]])), HV.ce (HC.lit true), HV.ce (HC.ptr (1000012 : Nat) (0 : Nat)), HV.ce (HC.int IntKind.i64 x1)], [[HC.int IntKind.i64 s0, HC.int IntKind.i64 s1, HC.int IntKind.i64 s2, HC.sl false [(4 : Nat), (4 : Nat), (4 : Nat), (4 : Nat), (4 : Nat), (4 : Nat), (4 : Nat)] sg, HC.sl false [(4 : Nat), (4 : Nat), (4 : Nat)] mk], [HC.int IntKind.i64 sta, HC.int IntKind.i64 spa, HC.int IntKind.i64 aca, HC.int IntKind.i64 jea, HC.int IntKind.i64 loa, HC.int IntKind.i64 hia, HC.int IntKind.i64 bla, HC.int IntKind.i64 oga, HC.int IntKind.i64 sga, HC.sl false [(4 : Nat)] pta, HC.int IntKind.i64 stb, HC.int IntKind.i64 spb, HC.int IntKind.i64 acb, HC.int IntKind.i64 jeb, HC.int IntKind.i64 lob, HC.int IntKind.i64 hib, HC.int IntKind.i64 blb, HC.int IntKind.i64 ogb, HC.int IntKind.i64 sgb, HC.sl false [(4 : Nat)] ptb, HC.int IntKind.i64 stc, HC.int IntKind.i64 spc, HC.int IntKind.i64 acc, HC.int IntKind.i64 jec, HC.int IntKind.i64 loc, HC.int IntKind.i64 hic, HC.int IntKind.i64 blc, HC.int IntKind.i64 ogc, HC.int IntKind.i64 sgc, HC.sl false [(4 : Nat)] ptc], [HC.sl false [(4 : Nat), (4 : Nat), (4 : Nat), (4 : Nat), (4 : Nat), (4 : Nat), (4 : Nat), (4 : Nat), (4 : Nat), (4 : Nat)] pk, HC.int IntKind.i64 ln, HC.int IntKind.i64 sa, HC.int IntKind.i64 d0, HC.int IntKind.i64 d1, HC.int IntKind.i64 d2], [HC.int IntKind.i64 x2, HC.int IntKind.i64 x3, HC.int IntKind.i64 x4]])) ∧
    ((x4 != w2) = false → K HEx.normal ([HV.ce (HC.int IntKind.i64 t), HV.ce (HC.ptr (1000005 : Nat) (0 : Nat)), HV.ce (HC.ptr (1000006 : Nat) (0 : Nat)), HV.ce (HC.ptr (1000007 : Nat) (0 : Nat)), HV.ce (HC.sl false [(4 : Nat), (4 : Nat), (4 : Nat)] (l ++ [[x1, (1 : Int), x9]])), HV.ce (HC.lit true), HV.ce (HC.ptr (1000012 : Nat) (0 : Nat)), HV.ce (HC.int IntKind.i64 x1)], [[HC.int IntKind.i64 s0, HC.int IntKind.i64 s1, HC.int IntKind.i64 s2, HC.sl false [(4 : Nat), (4 : Nat), (4 : Nat), (4 : Nat), (4 : Nat), (4 : Nat), (4 : Nat)] sg, HC.sl false [(4 : Nat), (4 : Nat), (4 : Nat)] mk], [HC.int IntKind.i64 sta, HC.int IntKind.i64 spa, HC.int IntKind.i64 aca, HC.int IntKind.i64 jea, HC.int IntKind.i64 loa, HC.int IntKind.i64 hia, HC.int IntKind.i64 bla, HC.int IntKind.i64 oga, HC.int IntKind.i64 sga, HC.sl false [(4 : Nat)] pta, HC.int IntKind.i64 stb, HC.int IntKind.i64 spb, HC.int IntKind.i64 acb, HC.int IntKind.i64 jeb, HC.int IntKind.i64 lob, HC.int IntKind.i64 hib, HC.int IntKind.i64 blb, HC.int IntKind.i64 ogb, HC.int IntKind.i64 sgb, HC.sl false [(4 : Nat)] ptb, HC.int IntKind.i64 stc, HC.int IntKind.i64 spc, HC.int IntKind.i64 acc, HC.int IntKind.i64 jec, HC.int IntKind.i64 loc, HC.int IntKind.i64 hic, HC.int IntKind.i64 blc, HC.int IntKind.i64 ogc, HC.int IntKind.i64 sgc, HC.sl false [(4 : Nat)] ptc], [HC.sl false [(4 : Nat), (4 : Nat), (4 : Nat), (4 : Nat), (4 : Nat), (4 : Nat), (4 : Nat), (4 : Nat), (4 : Nat), (4 : Nat)] pk, HC.int IntKind.i64 ln, HC.int IntKind.i64 sa, HC.int IntKind.i64 d0, HC.int IntKind.i64 d1, HC.int IntKind.i64 d2], [HC.int IntKind.i64 x2, HC.int IntKind.i64 x3, HC.int IntKind.i64 x4]]))) ∧
    ((x3 != w1) = false → ((x4 != w2) = true → ((-9223372036854775808 : Int) ≤ x4 - w2 ∧ x4 - w2 ≤ (9223372036854775807 : Int)) ∧ ∀ (x11 : Int), x11 = x4 - w2 → ((List.length l + (1 : Nat)) * (24 : Nat) ≤ (140737488355328 : Nat) ∧ List.length l + (1 : Nat) ≤ maxLen) ∧ K HEx.normal ([HV.ce (HC.int IntKind.i64 t), HV.ce (HC.ptr (1000005 : Nat) (0 : Nat)), HV.ce (HC.ptr (1000006 : Nat) (0 : Nat)), HV.ce (HC.ptr (1000007 : Nat) (0 : Nat)), HV.ce (HC.sl false [(4 : Nat), (4 : Nat), (4 : Nat)] (l ++ [[x1, (2 : Int), x11]])), HV.ce (HC.lit true), HV.ce (HC.ptr (1000012 : Nat) (0 : Nat)), HV.ce (HC.int IntKind.i64 x1)], [[HC.int IntKind.i64 s0, HC.int IntKind.i64 s1, HC.int IntKind.i64 s2, HC.sl false [(4 : Nat), (4 : Nat), (4 : Nat), (4 : Nat), (4 : Nat), (4 : Nat), (4 : Nat)] sg, HC.sl false [(4 : Nat), (4 : Nat), (4 : Nat)] mk], [HC.int IntKind.i64 sta, HC.int IntKind.i64 spa, HC.int IntKind.i64 aca, HC.int IntKind.i64 jea, HC.int IntKind.i64 loa, HC.int IntKind.i64 hia, HC.int IntKind.i64 bla, HC.int IntKind.i64 oga, HC.int IntKind.i64 sga, HC.sl false [(4 : Nat)] pta, HC.int IntKind.i64 stb, HC.int IntKind.i64 spb, HC.int IntKind.i64 acb, HC.int IntKind.i64 jeb, HC.int IntKind.i64 lob, HC.int IntKind.i64 hib, HC.int IntKind.i64 blb, HC.int IntKind.i64 ogb, HC.int IntKind.i64 sgb, HC.sl false [(4 : Nat)] ptb, HC.int IntKind.i64 stc, HC.int IntKind.i64 spc, HC.int IntKind.i64 acc, HC.int IntKind.i64 jec, HC.int IntKind.i64 loc, HC.int IntKind.i64 hic, HC.int IntKind.i64 blc, HC.int IntKind.i64 ogc, HC.int IntKind.i64 sgc, HC.sl false [(4 : Nat)] ptc], [HC.sl false [(4 : Nat), (4 : Nat), (4 : Nat), (4 : Nat), (4 : Nat), (4 : Nat), (4 : Nat), (4 : Nat), (4 : Nat), (4 : Nat)] pk, HC.int IntKind.i64 ln, HC.int IntKind.i64 sa, HC.int IntKind.i64 d0, HC.int IntKind.i64 d1, HC.int IntKind.i64 d2], [HC.int IntKind.i64 x2, HC.int IntKind.i64 x3, HC.int IntKind.i64 x4]])) ∧
    ((x4 != w2) = false → K HEx.normal ([HV.ce (HC.int IntKind.i64 t), HV.ce (HC.ptr (1000005 : Nat) (0 : Nat)), HV.ce (HC.ptr (1000006 : Nat) (0 : Nat)), HV.ce (HC.ptr (1000007 : Nat) (0 : Nat)), HV.ce (HC.sl false [(4 : Nat), (4 : Nat), (4 : Nat)] l), HV.ce (HC.lit true), HV.ce (HC.ptr (1000012 : Nat) (0 : Nat)), HV.ce (HC.int IntKind.i64 x1)], [[HC.int IntKind.i64 s0, HC.int IntKind.i64 s1, HC.int IntKind.i64 s2, HC.sl false [(4 : Nat), (4 : Nat), (4 : Nat), (4 : Nat), (4 : Nat), (4 : Nat), (4 : Nat)] sg, HC.sl false [(4 : Nat), (4 : Nat), (4 : Nat)] mk], [HC.int IntKind.i64 sta, HC.int IntKind.i64 spa, HC.int IntKind.i64 aca, HC.int IntKind.i64 jea, HC.int IntKind.i64 loa, HC.int IntKind.i64 hia, HC.int IntKind.i64 bla, HC.int IntKind.i64 oga, HC.int IntKind.i64 sga, HC.sl false [(4 : Nat)] pta, HC.int IntKind.i64 stb, HC.int IntKind.i64 spb, HC.int IntKind.i64 acb, HC.int IntKind.i64 jeb, HC.int IntKind.i64 lob, HC.int IntKind.i64 hib, HC.int IntKind.i64 blb, HC.int IntKind.i64 ogb, HC.int IntKind.i64 sgb, HC.sl false [(4 : Nat)] ptb, HC.int IntKind.i64 stc, HC.int IntKind.i64 spc, HC.int IntKind.i64 acc, HC.int IntKind.i64 jec, HC.int IntKind.i64 loc, HC.int IntKind.i64 hic, HC.int IntKind.i64 blc, HC.int IntKind.i64 ogc, HC.int IntKind.i64 sgc, HC.sl false [(4 : Nat)] ptc], [HC.sl false [(4 : Nat), (4 : Nat), (4 : Nat), (4 : Nat), (4 : Nat), (4 : Nat), (4 : Nat), (4 : Nat), (4 : Nat), (4 : Nat)] pk, HC.int IntKind.i64 ln, HC.int IntKind.i64 sa, HC.int IntKind.i64 d0, HC.int IntKind.i64 d1, HC.int IntKind.i64 d2], [HC.int IntKind.i64 x2, HC.int IntKind.i64 x3, HC.int IntKind.i64 x4]]))))) ∧
    (decide (u < t) = false → K (HEx.exit (0 : Nat)) ([HV.ce (HC.sl false [(4 : Nat), (4 : Nat), (4 : Nat)] l), HV.ce (HC.lit true)], [[HC.int IntKind.i64 s0, HC.int IntKind.i64 s1, HC.int IntKind.i64 s2, HC.sl false [(4 : Nat), (4 : Nat), (4 : Nat), (4 : Nat), (4 : Nat), (4 : Nat), (4 : Nat)] sg, HC.sl false [(4 : Nat), (4 : Nat), (4 : Nat)] mk], [HC.int IntKind.i64 sta, HC.int IntKind.i64 spa, HC.int IntKind.i64 aca, HC.int IntKind.i64 jea, HC.int IntKind.i64 loa, HC.int IntKind.i64 hia, HC.int IntKind.i64 bla, HC.int IntKind.i64 oga, HC.int IntKind.i64 sga, HC.sl false [(4 : Nat)] pta, HC.int IntKind.i64 stb, HC.int IntKind.i64 spb, HC.int IntKind.i64 acb, HC.int IntKind.i64 jeb, HC.int IntKind.i64 lob, HC.int IntKind.i64 hib, HC.int IntKind.i64 blb, HC.int IntKind.i64 ogb, HC.int IntKind.i64 sgb, HC.sl false [(4 : Nat)] ptb, HC.int IntKind.i64 stc, HC.int IntKind.i64 spc, HC.int IntKind.i64 acc, HC.int IntKind.i64 jec, HC.int IntKind.i64 loc, HC.int IntKind.i64 hic, HC.int IntKind.i64 blc, HC.int IntKind.i64 ogc, HC.int IntKind.i64 sgc, HC.sl false [(4 : Nat)] ptc], [HC.sl false [(4 : Nat), (4 : Nat), (4 : Nat), (4 : Nat), (4 : Nat), (4 : Nat), (4 : Nat), (4 : Nat), (4 : Nat), (4 : Nat)] pk, HC.int IntKind.i64 ln, HC.int IntKind.i64 sa, HC.int IntKind.i64 d0, HC.int IntKind.i64 d1, HC.int IntKind.i64 d2], [HC.int IntKind.i64 w0, HC.int IntKind.i64 w1, HC.int IntKind.i64 w2]]))) := by kernel_rfl
theorem vcBtw (s0 s1 s2 f t ln sa d0 d1 d2 : Int) (sg mk pk : List (List Int)) (sta spa aca jea loa hia bla oga sga stb spb acb jeb lob hib blb ogb sgb stc spc acc jec loc hic blc ogc sgc : Int) (pta ptb ptc : List (List Int)) (Q : Res → Prop) : (nfun true CBtw Try.f22 (bodyOf Try.f22) [.agg [.int .i64 s0, .int .i64 s1, .int .i64 s2, .sl false [4, 4, 4, 4, 4, 4, 4] sg, .sl false [4, 4, 4] mk], .agg [.int .i64 sta, .int .i64 spa, .int .i64 aca, .int .i64 jea, .int .i64 loa, .int .i64 hia, .int .i64 bla, .int .i64 oga, .int .i64 sga, .sl false [4] pta, .int .i64 stb, .int .i64 spb, .int .i64 acb, .int .i64 jeb, .int .i64 lob, .int .i64 hib, .int .i64 blb, .int .i64 ogb, .int .i64 sgb, .sl false [4] ptb, .int .i64 stc, .int .i64 spc, .int .i64 acc, .int .i64 jec, .int .i64 loc, .int .i64 hic, .int .i64 blc, .int .i64 ogc, .int .i64 sgc, .sl false [4] ptc], .agg [.sl false [4, 4, 4, 4, 4, 4, 4, 4, 4, 4] pk, .int .i64 ln, .int .i64 sa, .int .i64 d0, .int .i64 d1, .int .i64 d2], .ce (.int .i64 f), .ce (.int .i64 t)] [] Q) =
    (∀ (x1 : Int), x1 = min f ln → ∀ (x2 : Int), x2 = max (0 : Int) x1 → ∀ (x3 : Int), x3 = min t ln → ∀ (x4 : Int), x4 = max (0 : Int) x3 → (okLen sg ∧ okPts s0 s1 s2 sg ∧ okTrk pk ln ∧ okMA sta oga sga pta bla ∧ okMA stb ogb sgb ptb blb ∧ okMA stc ogc sgc ptc blc ∧ (0 : Int) ≤ sa ∧ sa ≤ (18014398509481984 : Int)) ∧ ∀ (x5 : Int), x5 = tmot sta oga sga pta bla (ptAt s0 sg (0 : Nat) (tplace pk sa (clamp ln x2))) pk d0 (clamp ln x2) (0 : Nat) → ∀ (x6 : Int), x6 = tmot stb ogb sgb ptb blb (ptAt s1 sg (1 : Nat) (tplace pk sa (clamp ln x2))) pk d1 (clamp ln x2) (1 : Nat) → ∀ (x7 : Int), x7 = tmot stc ogc sgc ptc blc (ptAt s2 sg (2 : Nat) (tplace pk sa (clamp ln x2))) pk d2 (clamp ln x2) (2 : Nat) → ((okLen sg ∧ okPts s0 s1 s2 sg ∧ okTrk pk ln ∧ okMA sta oga sga pta bla ∧ okMA stb ogb sgb ptb blb ∧ okMA stc ogc sgc ptc blc ∧ (0 : Int) ≤ sa ∧ sa ≤ (18014398509481984 : Int)) ∧ ln ≤ (1099511627776 : Int) ∧
    ((0 : Int) ≤ x2 ∧ x2 ≤ ln) ∧ ((0 : Int) ≤ x4 ∧ x4 ≤ ln) ∧ (0 : Nat) = (0 : Nat) ∧ x5 = mtr sta oga sga pta bla s0 sg (0 : Nat) pk sa d0 x2 ∧ x6 = mtr stb ogb sgb ptb blb s1 sg (1 : Nat) pk sa d1 x2 ∧ x7 = mtr stc ogc sgc ptc blc s2 sg (2 : Nat) pk sa d2 x2) ∧ ∀ (x : List (List Int) × Int × Int × Int), x.1 = plN (mtr sta oga sga pta bla s0 sg (0 : Nat) pk sa d0) (mtr stb ogb sgb ptb blb s1 sg (1 : Nat) pk sa d1) (mtr stc ogc sgc ptc blc s2 sg (2 : Nat) pk sa d2) x2 (Int.toNat (x4 - x2)) → Q { val := HV.ce (HC.sl false [(4 : Nat), (4 : Nat), (4 : Nat)] x.1), own := true, pars := [], news := [] }) := by kernel_rfl
def SSum (hargs : List HV) (pars : List (List HC)) : SR :=
  match hargs, pars with
  | [.ce (.sl false [4, 4, 4] l)], [] => .det (okDir l) ⟨.agg [.int .i64 (sumAx 0 l), .int .i64 (sumAx 1 l), .int .i64 (sumAx 2 l)], false, [], []⟩
  | _, _ => .fail
def anSum : LAnn := ⟨[2, 3, 6, 7, 8], [2, 3], [1000002, 1000003], false⟩
def LSum (v : LV) : LR :=
  match v with
  | ([.ce (.ptr 1000002 0), .ce (.ptr 1000003 0), .ce (.sl false [4, 4, 4] l), .ce (.int .i64 n), .ce (.int .i64 i)], [[.int .i64 z0, .int .i64 z1, .int .i64 z2], [.int .i64 x0, .int .i64 x1, .int .i64 x2]]) =>
    .det (n = l.length ∧ i = 0 ∧ x0 = 0 ∧ x1 = 0 ∧ x2 = 0 ∧ okDir l) (.exit 0) ([.ce (.ptr 1000002 0), .ce (.ptr 1000003 0)], [[.int .i64 z0, .int .i64 z1, .int .i64 z2], [.int .i64 (sumAx 0 l), .int .i64 (sumAx 1 l), .int .i64 (sumAx 2 l)]])
  | _ => .fail
noncomputable def CSum : Ctx := ⟨Try.prog, gam [], Try.f19.ntmps, [(3, anSum, LSum)], [spl 6 1000005 1 6]⟩
theorem vbSum (n i z0 z1 z2 x0 x1 x2 : Int) (l : List (List Int)) (K : HEx → LV → Prop) : (nbodyT true CSum anSum (nthLoop Try.f19 0) (([.ce (.ptr 1000002 0), .ce (.ptr 1000003 0), .ce (.sl false [4, 4, 4] l), .ce (.int .i64 n), .ce (.int .i64 i)], [[.int .i64 z0, .int .i64 z1, .int .i64 z2], [.int .i64 x0, .int .i64 x1, .int .i64 x2]])) K) =
    ((decide (i < n) = true → ((0 : Int) ≤ i ∧ i < (((List.length l) : Nat) : Int)) ∧ (decide (ec l (Int.toNat i) ((1 : Nat)) ≥ (0 : Int)) = true → (decide (ec l (Int.toNat i) ((1 : Nat)) < (3 : Int)) = true → (ec l (Int.toNat i) ((1 : Nat)) = (0 : Int) → ((-9223372036854775808 : Int) ≤ x0 + ec l (Int.toNat i) ((2 : Nat)) ∧ x0 + ec l (Int.toNat i) ((2 : Nat)) ≤ (9223372036854775807 : Int)) ∧ ∀ (x1_1 : Int), x1_1 = x0 + ec l (Int.toNat i) ((2 : Nat)) → ((-9223372036854775808 : Int) ≤ i + (1 : Int) ∧ i + (1 : Int) ≤ (9223372036854775807 : Int)) ∧ ∀ (x2_1 : Int), x2_1 = i + (1 : Int) → K HEx.normal ([HV.ce (HC.ptr (1000002 : Nat) (0 : Nat)), HV.ce (HC.ptr (1000003 : Nat) (0 : Nat)), HV.ce (HC.sl false [(4 : Nat), (4 : Nat), (4 : Nat)] l), HV.ce (HC.int IntKind.i64 n), HV.ce (HC.int IntKind.i64 x2_1)], [[HC.int IntKind.i64 z0, HC.int IntKind.i64 z1, HC.int IntKind.i64 z2], [HC.int IntKind.i64 x1_1, HC.int IntKind.i64 x1, HC.int IntKind.i64 x2]])) ∧
    (ec l (Int.toNat i) ((1 : Nat)) ≠ (0 : Int) → (ec l (Int.toNat i) ((1 : Nat)) = (1 : Int) → ((-9223372036854775808 : Int) ≤ x1 + ec l (Int.toNat i) ((2 : Nat)) ∧ x1 + ec l (Int.toNat i) ((2 : Nat)) ≤ (9223372036854775807 : Int)) ∧ ∀ (x3 : Int), x3 = x1 + ec l (Int.toNat i) ((2 : Nat)) → ((-9223372036854775808 : Int) ≤ i + (1 : Int) ∧ i + (1 : Int) ≤ (9223372036854775807 : Int)) ∧ ∀ (x4 : Int), x4 = i + (1 : Int) → K HEx.normal ([HV.ce (HC.ptr (1000002 : Nat) (0 : Nat)), HV.ce (HC.ptr (1000003 : Nat) (0 : Nat)), HV.ce (HC.sl false [(4 : Nat), (4 : Nat), (4 : Nat)] l), HV.ce (HC.int IntKind.i64 n), HV.ce (HC.int IntKind.i64 x4)], [[HC.int IntKind.i64 z0, HC.int IntKind.i64 z1, HC.int IntKind.i64 z2], [HC.int IntKind.i64 x0, HC.int IntKind.i64 x3, HC.int IntKind.i64 x2]])) ∧ (ec l (Int.toNat i) ((1 : Nat)) ≠ (1 : Int) → (ec l (Int.toNat i) ((1 : Nat)) = (2 : Int) → ((-9223372036854775808 : Int) ≤ x2 + ec l (Int.toNat i) ((2 : Nat)) ∧
    x2 + ec l (Int.toNat i) ((2 : Nat)) ≤ (9223372036854775807 : Int)) ∧ ∀ (x5 : Int), x5 = x2 + ec l (Int.toNat i) ((2 : Nat)) → ((-9223372036854775808 : Int) ≤ i + (1 : Int) ∧ i + (1 : Int) ≤ (9223372036854775807 : Int)) ∧ ∀ (x6 : Int), x6 = i + (1 : Int) → K HEx.normal ([HV.ce (HC.ptr (1000002 : Nat) (0 : Nat)), HV.ce (HC.ptr (1000003 : Nat) (0 : Nat)), HV.ce (HC.sl false [(4 : Nat), (4 : Nat), (4 : Nat)] l), HV.ce (HC.int IntKind.i64 n), HV.ce (HC.int IntKind.i64 x6)], [[HC.int IntKind.i64 z0, HC.int IntKind.i64 z1, HC.int IntKind.i64 z2], [HC.int IntKind.i64 x0, HC.int IntKind.i64 x1, HC.int IntKind.i64 x5]])) ∧ (ec l (Int.toNat i) ((1 : Nat)) ≠ (2 : Int) → False)))) ∧ (decide (ec l (Int.toNat i) ((1 : Nat)) < (3 : Int)) = false → ((-9223372036854775808 : Int) ≤ i + (1 : Int) ∧ i + (1 : Int) ≤ (9223372036854775807 : Int)) ∧ ∀ (x7 : Int), x7 = i + (1 : Int) → K HEx.normal ([HV.ce (HC.ptr (1000002 : Nat) (0 : Nat)), HV.ce (HC.ptr (1000003 : Nat) (0 : Nat)), HV.ce (HC.sl false [(4 : Nat), (4 : Nat), (4 : Nat)] l), HV.ce (HC.int IntKind.i64 n), HV.ce (HC.int IntKind.i64 x7)], [[HC.int IntKind.i64 z0, HC.int IntKind.i64 z1, HC.int IntKind.i64 z2], [HC.int IntKind.i64 x0, HC.int IntKind.i64 x1, HC.int IntKind.i64 x2]]))) ∧
    (decide (ec l (Int.toNat i) ((1 : Nat)) ≥ (0 : Int)) = false → ((-9223372036854775808 : Int) ≤ i + (1 : Int) ∧ i + (1 : Int) ≤ (9223372036854775807 : Int)) ∧ ∀ (x8 : Int), x8 = i + (1 : Int) → K HEx.normal ([HV.ce (HC.ptr (1000002 : Nat) (0 : Nat)), HV.ce (HC.ptr (1000003 : Nat) (0 : Nat)), HV.ce (HC.sl false [(4 : Nat), (4 : Nat), (4 : Nat)] l), HV.ce (HC.int IntKind.i64 n), HV.ce (HC.int IntKind.i64 x8)], [[HC.int IntKind.i64 z0, HC.int IntKind.i64 z1, HC.int IntKind.i64 z2], [HC.int IntKind.i64 x0, HC.int IntKind.i64 x1, HC.int IntKind.i64 x2]]))) ∧ (decide (i < n) = false → K (HEx.exit (0 : Nat)) ([HV.ce (HC.ptr (1000002 : Nat) (0 : Nat)), HV.ce (HC.ptr (1000003 : Nat) (0 : Nat))], [[HC.int IntKind.i64 z0, HC.int IntKind.i64 z1, HC.int IntKind.i64 z2], [HC.int IntKind.i64 x0, HC.int IntKind.i64 x1, HC.int IntKind.i64 x2]]))) := by kernel_rfl
theorem vcSum (l : List (List Int)) (Q : Res → Prop) : (nfun true CSum Try.f19 (bodyOf Try.f19) [.ce (.sl false [4, 4, 4] l)] [] Q) =
    (((((List.length l) : Nat) : Int) = (((List.length l) : Nat) : Int) ∧ (0 : Int) = (0 : Int) ∧ (0 : Int) = (0 : Int) ∧ (0 : Int) = (0 : Int) ∧ (0 : Int) = (0 : Int) ∧ okDir l) ∧ Q { val := HV.agg [HC.int IntKind.i64 (sumAx (0 : Int) l), HC.int IntKind.i64 (sumAx (1 : Int) l), HC.int IntKind.i64 (sumAx (2 : Int) l)], own := false, pars := [], news := [] }) := by kernel_rfl
end Go.Proofs.Ytneingpnkdeooaa
namespace U
/-- the pieces are one behind the other -/
def okT (pk : List (List Int)) (ln : Int) : Prop :=
  (pk.length = 0 → ln = 0) ∧ (0 < pk.length → ec pk 0 0 = 0 ∧ endp pk (pk.length - 1) = ln) ∧
  (∀ j, j + 1 < pk.length → ec pk (j + 1) 0 = endp pk j) ∧ ∀ j, j < pk.length → 1 ≤ ec pk j 1 ∧ (0 ≤ ec pk j 2 ∧ ec pk j 2 ≤ 18014398509481984) ∧ (-1 ≤ ec pk j 3 ∧ ec pk j 3 ≤ 1)
theorem tadd_okT {pk : List (List Int)} {ln q0 q1 q2 q3 q4 q5 q6 q7 q8 q9 : Int} (h : okT pk ln) (h1 : 1 ≤ q1) (h2 : 0 ≤ q2 ∧ q2 ≤ 18014398509481984) (h3 : -1 ≤ q3 ∧ q3 ≤ 1) : okT (tadd pk ln [q0, q1, q2, q3, q4, q5, q6, q7, q8, q9]).1 (tadd pk ln [q0, q1, q2, q3, q4, q5, q6, q7, q8, q9]).2 := by
  obtain ⟨a1, a2, a3, a4⟩ := h
  by_cases hc : 0 < pk.length ∧ q3 ≠ 0 ∧ ec pk (pk.length - 1) 3 = q3 ∧ ec pk (pk.length - 1) 7 = q7 ∧ ec pk (pk.length - 1) 8 = q8 ∧ ec pk (pk.length - 1) 9 = q9
  · rw [tadd_more hc]
    have hp := hc.1
    have es : ∀ j c, ec (pk.set (pk.length - 1) (more (pk.getD (pk.length - 1) []) q1)) j c = if pk.length - 1 = j then (more (pk.getD (pk.length - 1) []) q1).getD c 0 else ec pk j c := fun j c => ec_set _ _ _ _ _ (by omega)
    have m0 : (more (pk.getD (pk.length - 1) []) q1).getD 0 0 = ec pk (pk.length - 1) 0 := rfl
    have m1 : (more (pk.getD (pk.length - 1) []) q1).getD 1 0 = ec pk (pk.length - 1) 1 + q1 := rfl
    have m2 : (more (pk.getD (pk.length - 1) []) q1).getD 2 0 = ec pk (pk.length - 1) 2 := rfl
    have m3 : (more (pk.getD (pk.length - 1) []) q1).getD 3 0 = ec pk (pk.length - 1) 3 := rfl
    have b2 := a2 hp
    refine ⟨fun h => ?_, fun _ => ⟨?_, ?_⟩, fun j hj => ?_, fun j hj => ?_⟩
    · dsimp only at h; rw [List.length_set] at h; omega
    · dsimp only; rw [es]
      split
      · rename_i e; rw [m0, e]; exact b2.1
      · exact b2.1
    · dsimp only; rw [List.length_set]
      unfold endp at b2 ⊢
      rw [es, es, if_pos rfl, if_pos rfl, m0, m1]
      omega
    · dsimp only at hj ⊢; rw [List.length_set] at hj
      unfold endp
      rw [es, es, es, if_neg (show ¬ pk.length - 1 = j by omega), if_neg (show ¬ pk.length - 1 = j by omega)]
      have := a3 j hj
      unfold endp at this
      split
      · rename_i e; rw [m0, e]; exact this
      · exact this
    · dsimp only at hj ⊢; rw [List.length_set] at hj
      rw [es, es, es]
      have := a4 j hj
      split
      · rename_i e; subst e; rw [m1, m2, m3]; omega
      · exact this
  · rw [tadd_app hc]
    have es : ∀ j c, ec (pk ++ [[ln, q1, q2, q3, q4, q5, q6, q7, q8, q9]]) j c = if j < pk.length then ec pk j c else ec [[ln, q1, q2, q3, q4, q5, q6, q7, q8, q9]] (j - pk.length) c := fun j c => ec_app _ _ _ _
    refine ⟨fun h => ?_, fun _ => ⟨?_, ?_⟩, fun j hj => ?_, fun j hj => ?_⟩
    · simp at h
    · dsimp only; rw [es]
      split
      · rename_i e; exact (a2 e).1
      · rename_i e
        have e0 : pk.length = 0 := by omega
        rw [e0]; show ln = 0
        exact a1 e0
    · dsimp only; rw [List.length_append]
      have e0 : pk.length + ([[ln, q1, q2, q3, q4, q5, q6, q7, q8, q9]] : List (List Int)).length - 1 = pk.length := by simp
      rw [e0]
      unfold endp
      rw [es, es, if_neg (by omega), if_neg (by omega), Nat.sub_self]
      show ln + q1 = ln + q1
      rfl
    · dsimp only at hj ⊢; rw [List.length_append] at hj
      have hj : j + 1 < pk.length + 1 := hj
      unfold endp
      rw [es, es, es, if_pos (show j < pk.length by omega), if_pos (show j < pk.length by omega)]
      split
      · rename_i e; have := a3 j e; unfold endp at this; exact this
      · rename_i e
        have hjl : j = pk.length - 1 := by omega
        have b2 := (a2 (by omega)).2
        unfold endp at b2
        rw [show j + 1 - pk.length = 0 by omega, hjl, b2]
        rfl
    · dsimp only at hj ⊢; rw [List.length_append] at hj
      have hj : j < pk.length + 1 := hj
      rw [es, es, es]
      split
      · rename_i e; exact a4 j e
      · rw [show j - pk.length = 0 by omega]
        exact ⟨h1, h2, h3⟩
theorem okT_seg {s0 s1 s2 : Int} {sg : List (List Int)} {b0 b1 b2 f t m : Int} {x : LegS} {i : Int} (hf : 0 ≤ f ∧ f ≤ 18014398509481984) (ht : 0 ≤ t ∧ t ≤ 18014398509481984) (hm : m = 1 ∨ m = -1) (h : okT x.pk x.ln) :
    okT (legSeg s0 s1 s2 sg b0 b1 b2 f t m x i).pk (legSeg s0 s1 s2 sg b0 b1 b2 f t m x i).ln := by
  unfold legSeg
  have hlow : 0 ≤ legLow x.bg (legE sg m x.bg i) f t := by unfold legLow; omega
  have hhigh : legHigh x.bg (legE sg m x.bg i) f t ≤ 18014398509481984 := by unfold legHigh; omega
  generalize legLow x.bg (legE sg m x.bg i) f t = low at *
  generalize legHigh x.bg (legE sg m x.bg i) f t = high at *
  unfold legPut
  split
  · rename_i hlh
    dsimp only
    have hs : 0 ≤ legS m low high ∧ legS m low high ≤ 18014398509481984 := by unfold legS; split <;> omega
    refine tadd_okT ?_ (by omega) hs (by omega)
    unfold legTk
    split
    · exact tadd_okT h (by omega) hs (by omega)
    · exact h
  · exact h
theorem okT_all {s0 s1 s2 : Int} {sg : List (List Int)} {b0 b1 b2 f t m : Int} {x : LegS} (hf : 0 ≤ f ∧ f ≤ 18014398509481984) (ht : 0 ≤ t ∧ t ≤ 18014398509481984) (hm : m = 1 ∨ m = -1) (h : okT x.pk x.ln) :
    ∀ k, okT (legK s0 s1 s2 sg b0 b1 b2 f t m x k).pk (legK s0 s1 s2 sg b0 b1 b2 f t m x k).ln
  | 0 => h
  | k + 1 => okT_seg hf ht hm (okT_all hf ht hm h k)
theorem leg_ok {s0 s1 s2 : Int} {sg : List (List Int)} {b0 b1 b2 d0 d1 d2 f t : Int} (hl : okLen sg) (hb : okB3 b0 b1 b2) (hf : 0 ≤ f ∧ f ≤ plen sg) (ht : 0 ≤ t ∧ t ≤ plen sg) :
    okTrk (leg s0 s1 s2 sg b0 b1 b2 d0 d1 d2 f t).pk (leg s0 s1 s2 sg b0 b1 b2 d0 d1 d2 f t).ln := by
  have hp := plen_le hl
  have hl1 := hl.1
  unfold leg
  have hm : legM f t = 1 ∨ legM f t = -1 := by unfold legM; split <;> omega
  have hbg : (legM f t = 1 → (if legM f t < 0 then plen sg else 0) = plen (sg.take 0)) ∧ (legM f t = -1 → (if legM f t < 0 then plen sg else 0) = plen (sg.take (sg.length - 0))) := by
    refine ⟨fun e => ?_, fun e => ?_⟩
    · rw [e]; rfl
    · rw [e, if_pos (by decide)]; simp
  generalize legM f t = m at *
  generalize (if m < 0 then plen sg else 0) = bg at *
  have J := legJ_all (s0 := s0) (s1 := s1) (s2 := s2) (f := f) (t := t) (x := ⟨[], 0, d0, d1, d2, bg⟩) hl hb hm ⟨⟨Int.le_refl _, by dsimp only; omega⟩, by simp, fun j hj => by simp at hj, hbg.1, hbg.2⟩ sg.length (Nat.le_refl _)
  have T := okT_all (s0 := s0) (s1 := s1) (s2 := s2) (sg := sg) (b0 := b0) (b1 := b1) (b2 := b2) (f := f) (t := t) (m := m) (x := ⟨[], 0, d0, d1, d2, bg⟩) (by omega) (by omega) hm ⟨fun _ => rfl, fun h => by simp at h, fun j hj => by simp at hj, fun j hj => by simp at hj⟩ sg.length
  exact ⟨by have := J.2.1; omega, by have := J.1; omega, T.1, T.2.1, T.2.2.1, T.2.2.2⟩
theorem at_le {pk : List (List Int)} {ln u : Int} (h : okTrk pk ln) (hu : 0 ≤ u) {j : Nat} (hj : j < pk.length) (hk : ∀ k, k < j → endp pk k < u) : ec pk j 0 ≤ u := by
  cases j with
  | zero => have := (h.2.2.2.1 (by omega)).1; omega
  | succ i =>
    have := hk i (by omega)
    have := h.2.2.2.2.1 i hj
    omega
theorem pl1_t {u k n w : Int} (h : (n != w) = true) : pl1 u k n w = [[u, k, n - w]] := by unfold pl1; rw [if_pos (by simpa using h)]
theorem pl1_f {u k n w : Int} (h : (n != w) = false) : pl1 u k n w = [] := by unfold pl1; rw [if_neg (by simpa using h)]
theorem pl1_len (u k n w : Int) : (pl1 u k n w).length ≤ 1 := by unfold pl1; split <;> simp
theorem plN_len (M0 M1 M2 : Int → Int) (a : Int) : ∀ n, (plN M0 M1 M2 a n).length ≤ 3 * n
  | 0 => by simp [plN]
  | n + 1 => by
    have h := plN_len M0 M1 M2 a n
    unfold plN plAt
    rw [List.length_append, List.length_append, List.length_append]
    have h0 := pl1_len (a + (n : Int) + 1) 0 (M0 (a + (n : Int) + 1)) (M0 (a + (n : Int) + 1 - 1))
    have h1 := pl1_len (a + (n : Int) + 1) 1 (M1 (a + (n : Int) + 1)) (M1 (a + (n : Int) + 1 - 1))
    have h2 := pl1_len (a + (n : Int) + 1) 2 (M2 (a + (n : Int) + 1)) (M2 (a + (n : Int) + 1 - 1))
    omega
end U
namespace Go.Proofs.Ytneingpnkdeooaa
open Go Go.HL U
attribute [local irreducible] hfun bodyT fragT
theorem mtr_bd {st og sg : Int} {pt : List (List Int)} {bl s : Int} {sgs : List (List Int)} {c : Nat} {pk : List (List Int)} {ln sa d u : Int} (hl : okLen sgs) (h0 : -536870912 ≤ s ∧ s ≤ 536870912)
    (hp : ∀ j, j < sgs.length → -536870912 ≤ ec sgs j c ∧ ec sgs j c ≤ 536870912) (ht : okTrk pk ln) (hm : okMA st og sg pt bl) (hu : 0 ≤ u ∧ u ≤ ln) :
    -4398046511104 ≤ mtr st og sg pt bl s sgs c pk sa d u ∧ mtr st og sg pt bl s sgs c pk sa d u ≤ 4398046511104 := by
  have p := ptAt_bd hl h0 hp (tplace pk sa u)
  have q := motr_bd hm.1.1 hm.2.1 (p := ptAt s sgs c (tplace pk sa u)) (by omega)
  unfold mtr tmot
  split
  · have := bsh_bd (d := d) hm.2.2
    omega
  · rcases tfind_spec ht hu.2 with ⟨h1, h2⟩ | ⟨j, h1, h2, h3, h4⟩
    · omega
    · have hj : (tfind pk u).toNat = j := by omega
      rw [hj]
      have := tsh_bd (mv := ec pk j 3) (w := ec pk j (4 + c)) (d := ec pk j (7 + c)) hm.2.2 (at_le ht hu.1 h1 h4)
      omega
set_option maxHeartbeats 2000000 in
theorem loopBtw : ∀ v Q, (LBtw v).wp Q → hloop CBtw anBtw (nthLoop Try.f22 0) v Q := by
  intro v Q h
  unfold LBtw at h
  split at h
  case h_2 => exact h.elim
  rename_i t l u0 s0 s1 s2 sg mk ax tr w0 w1 w2
  split at h
  case h_2 => exact h.elim
  rename_i sta spa aca jea loa hia bla oga sga pta stb spb acb jeb lob hib blb ogb sgb ptb stc spc acc jec loc hic blc ogc sgc ptc
  split at h
  case h_2 => exact h.elim
  rename_i pk ln sa d0 d1 d2
  obtain ⟨⟨hA, hln, hu0, ht0, hl0, e0, e1, e2⟩, hq⟩ := h
  obtain rfl : l = [] := List.eq_nil_of_length_eq_zero hl0
  have hA' := hA
  obtain ⟨hl, ⟨k0, k1, k2, kk⟩, htr, ma, mb, mc, hsa⟩ := hA'
  subst e0 e1 e2
  have bd0 : ∀ u, 0 ≤ u ∧ u ≤ ln → _ := fun u hu => mtr_bd (sa := sa) (d := d0) hl k0 (fun j hj => (kk j hj).1) htr ma hu
  have bd1 : ∀ u, 0 ≤ u ∧ u ≤ ln → _ := fun u hu => mtr_bd (sa := sa) (d := d1) hl k1 (fun j hj => (kk j hj).2.1) htr mb hu
  have bd2 : ∀ u, 0 ≤ u ∧ u ≤ ln → _ := fun u hu => mtr_bd (sa := sa) (d := d2) hl k2 (fun j hj => (kk j hj).2.2) htr mc hu
  have M0e : ∀ u, 0 ≤ u ∧ u ≤ ln → tmot sta oga sga pta bla (ptAt s0 sg 0 (tplace pk sa (clamp ln u))) pk d0 (clamp ln u) 0 = mtr sta oga sga pta bla s0 sg 0 pk sa d0 u := fun u hu => by rw [clamp_in hu]; rfl
  have M1e : ∀ u, 0 ≤ u ∧ u ≤ ln → tmot stb ogb sgb ptb blb (ptAt s1 sg 1 (tplace pk sa (clamp ln u))) pk d1 (clamp ln u) 1 = mtr stb ogb sgb ptb blb s1 sg 1 pk sa d1 u := fun u hu => by rw [clamp_in hu]; rfl
  have M2e : ∀ u, 0 ≤ u ∧ u ≤ ln → tmot stc ogc sgc ptc blc (ptAt s2 sg 2 (tplace pk sa (clamp ln u))) pk d2 (clamp ln u) 2 = mtr stc ogc sgc ptc blc s2 sg 2 pk sa d2 u := fun u hu => by rw [clamp_in hu]; rfl
  generalize mtr sta oga sga pta bla s0 sg 0 pk sa d0 = M0 at *
  generalize mtr stb ogb sgb ptb blb s1 sg 1 pk sa d1 = M1 at *
  generalize mtr stc ogc sgc ptc blc s2 sg 2 pk sa d2 = M2 at *
  refine hloop_rec (σ := Nat)
    (fun n => ([.ce (.int .i64 t), .ce (.ptr 1000005 0), .ce (.ptr 1000006 0), .ce (.ptr 1000007 0), .ce (.sl false [4, 4, 4] (plN M0 M1 M2 u0 n)), .ce (.lit true), .ce (.ptr 1000012 0), .ce (.int .i64 (u0 + (n : Int)))],
      [[.int .i64 s0, .int .i64 s1, .int .i64 s2, .sl false [4, 4, 4, 4, 4, 4, 4] sg, .sl false [4, 4, 4] mk], [.int .i64 sta, .int .i64 spa, .int .i64 aca, .int .i64 jea, .int .i64 loa, .int .i64 hia, .int .i64 bla, .int .i64 oga, .int .i64 sga, .sl false [4] pta, .int .i64 stb, .int .i64 spb, .int .i64 acb, .int .i64 jeb, .int .i64 lob, .int .i64 hib, .int .i64 blb, .int .i64 ogb, .int .i64 sgb, .sl false [4] ptb, .int .i64 stc, .int .i64 spc, .int .i64 acc, .int .i64 jec, .int .i64 loc, .int .i64 hic, .int .i64 blc, .int .i64 ogc, .int .i64 sgc, .sl false [4] ptc], [.sl false [4, 4, 4, 4, 4, 4, 4, 4, 4, 4] pk, .int .i64 ln, .int .i64 sa, .int .i64 d0, .int .i64 d1, .int .i64 d2], [.int .i64 (M0 (u0 + (n : Int))), .int .i64 (M1 (u0 + (n : Int))), .int .i64 (M2 (u0 + (n : Int)))]]))
    (fun n => (t - u0).toNat - n) (fun n => n ≤ (t - u0).toNat) ?_ 0 (Nat.zero_le _) |> fun x => (by simpa [plN] using x)
  intro n hn K hK hx _
  have hlen := plN_len M0 M1 M2 u0 n
  refine byVB (vbBtw s0 s1 s2 t (u0 + (n : Int)) ln sa d0 d1 d2 (M0 (u0 + (n : Int))) (M1 (u0 + (n : Int))) (M2 (u0 + (n : Int))) sg mk pk (plN M0 M1 M2 u0 n) sta spa aca jea loa hia bla oga sga stb spb acb jeb lob hib blb ogb sgb stc spc acc jec loc hic blc ogc sgc pta ptb ptc K) ⟨fun g => ?_, fun g => ?_⟩
  · have g := of_decide_eq_true g
    have hu : 0 ≤ u0 + (n : Int) ∧ u0 + (n : Int) ≤ ln := by omega
    have hu1 : 0 ≤ u0 + (n : Int) + 1 ∧ u0 + (n : Int) + 1 ≤ ln := by omega
    have a0 := bd0 _ hu
    have a1 := bd1 _ hu
    have a2 := bd2 _ hu
    have c0 := bd0 _ hu1
    have c1 := bd1 _ hu1
    have c2 := bd2 _ hu1
    have fin := hK (n + 1) (by omega) (by omega)
    unfold plN plAt at fin
    rw [show u0 + ((n + 1 : Nat) : Int) = u0 + (n : Int) + 1 by omega, show u0 + (n : Int) + 1 - 1 = u0 + (n : Int) by omega, ← List.append_assoc, ← List.append_assoc] at fin
    refine ⟨by omega, fun x1 e1 => ⟨hA, fun x2 e2 x3 e3 x4 e4 => ?_⟩⟩
    subst e1
    rw [M0e _ hu1] at e2
    rw [M1e _ hu1] at e3
    rw [M2e _ hu1] at e4
    rw [← e2] at fin c0
    rw [← e3] at fin c1
    rw [← e4] at fin c2
    clear hK hx hq bd0 bd1 bd2 M0e M1e M2e hA
    generalize M0 (u0 + (n : Int)) = w0 at *
    generalize M1 (u0 + (n : Int)) = w1 at *
    generalize M2 (u0 + (n : Int)) = w2 at *
    generalize plN M0 M1 M2 u0 n = l at *
    refine ⟨fun g0 => ⟨by omega, ?_⟩, fun g0 => ?_⟩
    · rintro _ rfl
      rw [pl1_t g0] at fin
      refine ⟨⟨by first | omega | (simp only [List.length_append, List.length_cons, List.length_nil]; omega), by unfold maxLen; first | omega | (simp only [List.length_append, List.length_cons, List.length_nil]; omega)⟩, fun g1 => ⟨by omega, ?_⟩, fun g1 => ⟨fun g2 => ⟨by omega, ?_⟩, fun g2 => ?_⟩⟩
      · rintro _ rfl
        rw [pl1_t g1] at fin
        refine ⟨⟨by first | omega | (simp only [List.length_append, List.length_cons, List.length_nil]; omega), by unfold maxLen; first | omega | (simp only [List.length_append, List.length_cons, List.length_nil]; omega)⟩, fun g2 => ⟨by omega, ?_⟩, fun g2 => ?_⟩
        · rintro _ rfl
          rw [pl1_t g2] at fin
          exact ⟨⟨by first | omega | (simp only [List.length_append, List.length_cons, List.length_nil]; omega), by unfold maxLen; first | omega | (simp only [List.length_append, List.length_cons, List.length_nil]; omega)⟩, fin⟩
        · rw [pl1_f g2, List.append_nil] at fin
          exact fin
      · rintro _ rfl
        rw [pl1_f g1, List.append_nil, pl1_t g2] at fin
        exact ⟨⟨by first | omega | (simp only [List.length_append, List.length_cons, List.length_nil]; omega), by unfold maxLen; first | omega | (simp only [List.length_append, List.length_cons, List.length_nil]; omega)⟩, fin⟩
      · rw [pl1_f g1, List.append_nil, pl1_f g2, List.append_nil] at fin
        exact fin
    · rw [pl1_f g0, List.append_nil] at fin
      refine ⟨fun g1 => ⟨by omega, ?_⟩, fun g1 => ⟨fun g2 => ⟨by omega, ?_⟩, fun g2 => ?_⟩⟩
      · rintro _ rfl
        rw [pl1_t g1] at fin
        refine ⟨⟨by first | omega | (simp only [List.length_append, List.length_cons, List.length_nil]; omega), by unfold maxLen; first | omega | (simp only [List.length_append, List.length_cons, List.length_nil]; omega)⟩, fun g2 => ⟨by omega, ?_⟩, fun g2 => ?_⟩
        · rintro _ rfl
          rw [pl1_t g2] at fin
          exact ⟨⟨by first | omega | (simp only [List.length_append, List.length_cons, List.length_nil]; omega), by unfold maxLen; first | omega | (simp only [List.length_append, List.length_cons, List.length_nil]; omega)⟩, fin⟩
        · rw [pl1_f g2, List.append_nil] at fin
          exact fin
      · rintro _ rfl
        rw [pl1_f g1, List.append_nil, pl1_t g2] at fin
        exact ⟨⟨by first | omega | (simp only [List.length_append, List.length_cons, List.length_nil]; omega), by unfold maxLen; first | omega | (simp only [List.length_append, List.length_cons, List.length_nil]; omega)⟩, fin⟩
      · rw [pl1_f g1, List.append_nil, pl1_f g2, List.append_nil] at fin
        exact fin
  · have g := of_decide_eq_false g
    have := hx 0 _ (hq (plN M0 M1 M2 u0 n, M0 (u0 + (n : Int)), M1 (u0 + (n : Int)), M2 (u0 + (n : Int))) (by rw [show n = (t - u0).toNat by omega]))
    exact this
set_option maxHeartbeats 400000 in
set_option maxRecDepth 100000 in
theorem sBtw : Sound Try.prog 22 SBetween := by
  refine sound_of (C := CBtw) tabBtw Try.func22 (by kernel_rfl) (by decide +kernel) (by kernel_rfl) rfl ⟨sMotors, trivial⟩ (loopsK [nthLoop Try.f22 0] [] (by kernel_rfl) (by kernel_rfl) ⟨loopOK_of (an := anBtw) (S := LBtw) (by kernel_rfl) loopBtw, trivial⟩ trivial) ?_
  intro hargs pars R h
  unfold SBetween at h
  split at h
  case h_2 => exfalso; exact h
  rename_i s0 s1 s2 sg mk ax pk ln sa d0 d1 d2 f t
  split at h
  case h_2 => exact h.elim
  rename_i sta spa aca jea loa hia bla oga sga pta stb spb acb jeb lob hib blb ogb sgb ptb stc spc acc jec loc hic blc ogc sgc ptc
  obtain ⟨⟨hA, hln⟩, _, hq⟩ := h
  have h0 := hA.2.2.1.2.1.1
  refine byVC (vcBtw s0 s1 s2 f t ln sa d0 d1 d2 sg mk pk sta spa aca jea loa hia bla oga sga stb spb acb jeb lob hib blb ogb sgb stc spc acc jec loc hic blc ogc sgc pta ptb ptc R) ?_
  rintro _ rfl x2 e2 _ rfl x4 e4
  have c2 : clamp ln f = x2 := by unfold clamp; omega
  have c4 : clamp ln t = x4 := by unfold clamp; omega
  rw [c2, c4] at hq
  have hu : 0 ≤ x2 ∧ x2 ≤ ln := by omega
  have ci := clamp_in hu
  refine ⟨hA, fun x5 e5 x6 e6 x7 e7 => ⟨⟨hA, hln, hu, by omega, rfl, ?_, ?_, ?_⟩, fun x hx => hq _ hx⟩⟩
  · rw [e5, ci]; rfl
  · rw [e6, ci]; rfl
  · rw [e7, ci]; rfl
theorem sumAx_append (a : Int) (l m : List (List Int)) : sumAx a (l ++ m) = sumAx a l + sumAx a m := by
  induction l with
  | nil => simp [sumAx]
  | cons r l ih => simp only [List.cons_append, sumAx, ih]; omega
theorem sumAx_next (a : Int) (l : List (List Int)) {k : Nat} (hk : k < l.length) : sumAx a (l.take (k + 1)) = sumAx a (l.take k) + (if ec l k 1 = a then ec l k 2 else 0) := by
  rw [take_next l hk [], sumAx_append]
  simp [sumAx, ec]
theorem sumAx_bd {l : List (List Int)} (h : okDir l) (a : Int) : ∀ k, k ≤ l.length → -(1099511627776 * (k : Int)) ≤ sumAx a (l.take k) ∧ sumAx a (l.take k) ≤ 1099511627776 * (k : Int)
  | 0, _ => by simp [sumAx]
  | k + 1, hk => by
    have h1 := sumAx_bd h a k (by omega)
    have h2 := h.2 k (by omega)
    rw [sumAx_next a l (by omega)]
    split <;> omega
theorem loopSum : ∀ v Q, (LSum v).wp Q → hloop CSum anSum (nthLoop Try.f19 0) v Q := by
  intro v Q h
  unfold LSum at h
  split at h
  case h_2 => exact h.elim
  rename_i l n i z0 z1 z2 x0 x1 x2
  obtain ⟨⟨hn, hi, h0, h1, h2, hd⟩, hq⟩ := h
  subst hn hi h0 h1 h2
  refine hloop_rec (σ := Nat)
    (fun k => ([.ce (.ptr 1000002 0), .ce (.ptr 1000003 0), .ce (.sl false [4, 4, 4] l), .ce (.int .i64 (l.length : Int)), .ce (.int .i64 (k : Int))], [[.int .i64 z0, .int .i64 z1, .int .i64 z2], [.int .i64 (sumAx 0 (l.take k)), .int .i64 (sumAx 1 (l.take k)), .int .i64 (sumAx 2 (l.take k))]]))
    (fun k => l.length - k) (fun k => k ≤ l.length) ?_ 0 (Nat.zero_le _)
  intro k hk K hn hx _
  have b0 := sumAx_bd hd 0 k hk
  have b1 := sumAx_bd hd 1 k hk
  have b2 := sumAx_bd hd 2 k hk
  have hl := hd.1
  refine byVB (vbSum l.length k z0 z1 z2 (sumAx 0 (l.take k)) (sumAx 1 (l.take k)) (sumAx 2 (l.take k)) l K) ⟨fun g => ?_, fun g => ?_⟩
  · have g := of_decide_eq_true g
    have hkl : k < l.length := by omega
    have hdk := hd.2 k hkl
    have ht : Int.toNat (k : Int) = k := rfl
    rw [ht]
    have fin := hn (k + 1) hkl (by omega)
    rw [sumAx_next 0 l hkl, sumAx_next 1 l hkl, sumAx_next 2 l hkl, show ((k + 1 : Nat) : Int) = (k : Int) + 1 by omega] at fin
    clear hn hx hq
    generalize ec l k 1 = a at *
    generalize ec l k 2 = d at *
    refine ⟨by omega, fun g0 => ⟨fun g1 => ⟨fun e0 => ⟨by omega, ?_⟩, fun e0 => ⟨fun e1 => ⟨by omega, ?_⟩, fun e1 => ⟨fun e2 => ⟨by omega, ?_⟩, fun e2 => ?_⟩⟩⟩, fun g1 => ⟨by omega, fun x e => ?_⟩⟩, fun g0 => ⟨by omega, fun x e => ?_⟩⟩
    · rintro _ rfl
      refine ⟨by omega, ?_⟩
      rintro _ rfl
      rw [if_pos e0, if_neg (by omega), if_neg (by omega), Int.add_zero, Int.add_zero] at fin
      exact fin
    · rintro _ rfl
      refine ⟨by omega, ?_⟩
      rintro _ rfl
      rw [if_neg (by omega), if_pos e1, if_neg (by omega), Int.add_zero, Int.add_zero] at fin
      exact fin
    · rintro _ rfl
      refine ⟨by omega, ?_⟩
      rintro _ rfl
      rw [if_neg (by omega), if_neg (by omega), if_pos e2, Int.add_zero, Int.add_zero] at fin
      exact fin
    · have g0 := of_decide_eq_true g0
      have g1 := of_decide_eq_true g1
      omega
    · have g1 := of_decide_eq_false g1
      rw [if_neg (by omega), if_neg (by omega), if_neg (by omega), Int.add_zero, Int.add_zero, Int.add_zero] at fin
      rw [e]; exact fin
    · have g0 := of_decide_eq_false g0
      rw [if_neg (by omega), if_neg (by omega), if_neg (by omega), Int.add_zero, Int.add_zero, Int.add_zero] at fin
      rw [e]; exact fin
  · have g := of_decide_eq_false g
    have hkl : k = l.length := by omega
    have := hx 0 _ hq
    rw [hkl, List.take_length]
    exact this
set_option maxHeartbeats 400000 in
set_option maxRecDepth 100000 in
theorem sSum : Sound Try.prog 19 SSum := by
  refine sound_of (C := CSum) [] Try.func19 (by kernel_rfl) (by decide +kernel) (by kernel_rfl) rfl trivial (loops1 (by kernel_rfl) (loopOK_of (an := anSum) (S := LSum) (by kernel_rfl) loopSum)) ?_
  intro hargs pars R h
  unfold SSum at h
  split at h
  case h_2 => exfalso; exact h
  exact byVC (vcSum _ R) ⟨⟨rfl, rfl, rfl, rfl, rfl, h.1⟩, h.2⟩
end Go.Proofs.Ytneingpnkdeooaa
