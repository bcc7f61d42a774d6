/-
  Part 6.
  Conditions: none.
-/
import Derived.Test.YtoekmphdpepdbaaGreatG5
set_option maxRecDepth 100000
set_option maxHeartbeats 400000
set_option linter.unusedVariables false
set_option linter.unusedSimpArgs false
open Go
namespace U
open Go
def qmot (M0 M1 M2 : Int -> Int) (ln : Int) (w : LL) : LL :=
 w.map fun r => [M0 (clamp ln (r.getD 0 0 / 256)), M1 (clamp ln (r.getD 0 0 / 256)), M2 (clamp ln (r.getD 0 0 / 256))]
def qway (m : QM) (f : LL) : LL := [[m.b], [m.p], [m.l], [m.u]] ++ f ++ [[qend m.u f], [qend m.u f]]
def qsafe (A J : Int) (W : LL -> Bool) (Mo : LL -> LL) (m : QM) (lim : Int) : Bool :=
 qfok A J m.v m.a && (decide (qend m.u (qfu A J m.u m.v m.a) <= lim * 256) && W (Mo (qway m (qfu A J m.u m.v m.a))))
def qfl (T : Int -> Int) : Int -> LL -> Bool
 | _, [] => true
 | u, r :: l => decide (r.getD 0 0 - u <= T (r.getD 0 0)) && qfl T (r.getD 0 0) l
def qfit (A J : Int) (n : Nat) (T : Int -> Int) (m : QM) : Bool :=
 qfok A J m.v m.a && (decide (0 < n) && (decide (m.v <= T m.u) && qfl T m.u (qfu A J m.u m.v m.a)))
def win (L : LL) (i : Nat) : LL := (L.take i).drop (i - 4)
def okA3 (sta oga sga : Int) (pta : LL) (bla stb ogb sgb : Int) (ptb : LL) (blb stc ogc sgc : Int) (ptc : LL) (blc : Int) : Prop :=
 okMA sta oga sga pta bla /\ okMA stb ogb sgb ptb blb /\ okMA stc ogc sgc ptc blc
def okPT (s0 s1 s2 : Int) (sg pk : LL) (ln sa : Int) : Prop := okLen sg /\ okPts s0 s1 s2 sg /\ okTrk pk ln /\ (0 <= sa /\ sa <= 18014398509481984)
def okV (u : Int) : Prop := -4900000000000000000 <= u /\ u <= 4900000000000000000
def okL3 (spa aca jea spb acb jeb spc acc jec : Int) : Prop := okLi spa aca jea /\ okLi spb acb jeb /\ okLi spc acc jec
end U
namespace Go.Proofs.YtoekmphdpepdbaaGreat
open Go Go.HL U
def SSmo (hA : List HV) (pA : List (List HC)) : SR :=
 match hA, pA with
 | [.agg [.int .i64 s0, .int .i64 s1, .int .i64 s2, .sl false [4, 4, 4, 4, 4, 4, 4] sg, .sl false [4, 4, 4] mk], .agg ax, .agg [.sl false [4, 4, 4, 4, 4, 4, 4, 4, 4, 4] pk, .int .i64 ln, .int .i64 sa, .int .i64 d0, .int .i64 d1, .int .i64 d2], .ce (.sl false [4] w)], [] =>
  match ax with
  | [.int .i64 sta, .int .i64 spa, .int .i64 aca, .int .i64 jea, .int .i64 loa, .int .i64 hia, .int .i64 bla, .int .i64 oga, .int .i64 sga, .sl false [4] pta, .int .i64 stb, .int .i64 spb, .int .i64 acb, .int .i64 jeb, .int .i64 lob, .int .i64 hib, .int .i64 blb, .int .i64 ogb, .int .i64 sgb, .sl false [4] ptb, .int .i64 stc, .int .i64 spc, .int .i64 acc, .int .i64 jec, .int .i64 loc, .int .i64 hic, .int .i64 blc, .int .i64 ogc, .int .i64 sgc, .sl false [4] ptc] => .det (okPT s0 s1 s2 sg pk ln sa /\ okA3 sta oga sga pta bla stb ogb sgb ptb blb stc ogc sgc ptc blc /\ okL3 spa aca jea spb acb jeb spc acc jec /\ w.length <= 8000 /\ Sm 9000000000000000000 w)
   ⟨.ce (.bool (wth3 spa aca jea spb acb jeb spc acc jec (qmot (mtr sta oga sga pta bla s0 sg 0 pk sa d0) (mtr stb ogb sgb ptb blb s1 sg 1 pk sa d1) (mtr stc ogc sgc ptc blc s2 sg 2 pk sa d2) ln w))), false, [], []⟩
  | _ => .fail
 | _, _ => .fail
def anSmo : LAnn := ⟨[4, 5, 6, 8, 9, 100009, 12, 13, 14], [8], [1000004, 1000005, 1000006], false⟩
def LSmo (v : LV) : LR :=
 match v with
 | ([.ce (.ptr 1000004 0), .ce (.ptr 1000005 0), .ce (.ptr 1000006 0), .ce (.bool y), .ce (.sl false [4, 4, 4] z), .ce (.lit true), .ce (.sl false [4] w), .ce (.int .i64 len), .ce (.int .i64 k)], [[.int .i64 s0, .int .i64 s1, .int .i64 s2, .sl false [4, 4, 4, 4, 4, 4, 4] sg, .sl false [4, 4, 4] mk], ax, tr]) =>
  match ax with
  | [.int .i64 sta, .int .i64 spa, .int .i64 aca, .int .i64 jea, .int .i64 loa, .int .i64 hia, .int .i64 bla, .int .i64 oga, .int .i64 sga, .sl false [4] pta, .int .i64 stb, .int .i64 spb, .int .i64 acb, .int .i64 jeb, .int .i64 lob, .int .i64 hib, .int .i64 blb, .int .i64 ogb, .int .i64 sgb, .sl false [4] ptb, .int .i64 stc, .int .i64 spc, .int .i64 acc, .int .i64 jec, .int .i64 loc, .int .i64 hic, .int .i64 blc, .int .i64 ogc, .int .i64 sgc, .sl false [4] ptc] => match tr with
   | [.sl false [4, 4, 4, 4, 4, 4, 4, 4, 4, 4] pk, .int .i64 ln, .int .i64 sa, .int .i64 d0, .int .i64 d1, .int .i64 d2] =>
    .alts (z.length = 0 /\ len = w.length /\ k = 0 /\ okPT s0 s1 s2 sg pk ln sa /\ okA3 sta oga sga pta bla stb ogb sgb ptb blb stc ogc sgc ptc blc /\ okL3 spa aca jea spb acb jeb spc acc jec /\ w.length <= 8000 /\ Sm 9000000000000000000 w)
     [(wth3 spa aca jea spb acb jeb spc acc jec (qmot (mtr sta oga sga pta bla s0 sg 0 pk sa d0) (mtr stb ogb sgb ptb blb s1 sg 1 pk sa d1) (mtr stc ogc sgc ptc blc s2 sg 2 pk sa d2) ln w) = true, .exit 0, ([.ce (.bool y)], [[I6 s0, I6 s1, I6 s2, .sl false [4, 4, 4, 4, 4, 4, 4] sg, .sl false [4, 4, 4] mk], [I6 sta, I6 spa, I6 aca, I6 jea, I6 loa, I6 hia, I6 bla, I6 oga, I6 sga, .sl false [4] pta, I6 stb, I6 spb, I6 acb, I6 jeb, I6 lob, I6 hib, I6 blb, I6 ogb, I6 sgb, .sl false [4] ptb, I6 stc, I6 spc, I6 acc, I6 jec, I6 loc, I6 hic, I6 blc, I6 ogc, I6 sgc, .sl false [4] ptc], [.sl false [4, 4, 4, 4, 4, 4, 4, 4, 4, 4] pk, I6 ln, I6 sa, I6 d0, I6 d1, I6 d2]])),
      (wth3 spa aca jea spb acb jeb spc acc jec (qmot (mtr sta oga sga pta bla s0 sg 0 pk sa d0) (mtr stb ogb sgb ptb blb s1 sg 1 pk sa d1) (mtr stc ogc sgc ptc blc s2 sg 2 pk sa d2) ln w) = false, .ret, ([.ce (.bool false)], [[I6 s0, I6 s1, I6 s2, .sl false [4, 4, 4, 4, 4, 4, 4] sg, .sl false [4, 4, 4] mk], [I6 sta, I6 spa, I6 aca, I6 jea, I6 loa, I6 hia, I6 bla, I6 oga, I6 sga, .sl false [4] pta, I6 stb, I6 spb, I6 acb, I6 jeb, I6 lob, I6 hib, I6 blb, I6 ogb, I6 sgb, .sl false [4] ptb, I6 stc, I6 spc, I6 acc, I6 jec, I6 loc, I6 hic, I6 blc, I6 ogc, I6 sgc, .sl false [4] ptc], [.sl false [4, 4, 4, 4, 4, 4, 4, 4, 4, 4] pk, I6 ln, I6 sa, I6 d0, I6 d1, I6 d2]]))]
   | _ => .fail
  | _ => .fail
 | _ => .fail
def tabSmo : List (FuncId × HL.Spec) := [(79, SQUnit), (54, SMotors), (26, SAll)]
noncomputable def CSmo : Ctx := ⟨Tryz.prog, gam tabSmo, Tryz.f42.ntmps, [(3, anSmo, LSmo)], []⟩
theorem vbSmo (s0 s1 s2 len k ln sa d0 d1 d2 : Int) (y : Bool) (sg mk pk z w : LL) (sta spa aca jea loa hia bla oga sga stb spb acb jeb lob hib blb ogb sgb stc spc acc jec loc hic blc ogc sgc : Int) (pta ptb ptc : LL) (K : HEx -> LV -> Prop) : (nbodyT true CSmo anSmo (nthLoop Tryz.f42 0) (([.ce (.ptr 1000004 0), .ce (.ptr 1000005 0), .ce (.ptr 1000006 0), .ce (.bool y), .ce (.sl false [4, 4, 4] z), .ce (.lit true), .ce (.sl false [4] w), .ce (I6 len), .ce (I6 k)], [[I6 s0, I6 s1, I6 s2, .sl false [4, 4, 4, 4, 4, 4, 4] sg, .sl false [4, 4, 4] mk], [I6 sta, I6 spa, I6 aca, I6 jea, I6 loa, I6 hia, I6 bla, I6 oga, I6 sga, .sl false [4] pta, I6 stb, I6 spb, I6 acb, I6 jeb, I6 lob, I6 hib, I6 blb, I6 ogb, I6 sgb, .sl false [4] ptb, I6 stc, I6 spc, I6 acc, I6 jec, I6 loc, I6 hic, I6 blc, I6 ogc, I6 sgc, .sl false [4] ptc], [.sl false [4, 4, 4, 4, 4, 4, 4, 4, 4, 4] pk, I6 ln, I6 sa, I6 d0, I6 d1, I6 d2]])) K) =
 ((decide (k < len) = true -> (0 <= k /\ k < (w.length : Int)) /\ ∀ x1, x1 = el w k.toNat -> R6 x1 /\ ∀ x2, x2 = x1 / 256 -> (okLen sg /\ okPts s0 s1 s2 sg /\ okTrk pk ln /\ okMA sta oga sga pta bla /\ okMA stb ogb sgb ptb blb /\ okMA stc ogc sgc ptc blc /\ 0 <= sa /\ sa <= 18014398509481984) /\ ∀ x3, x3 = tmot sta oga sga pta bla (ptAt s0 sg (0 : Nat) (tplace pk sa (clamp ln x2))) pk d0 (clamp ln x2) (0 : Nat) -> ∀ x4, x4 = tmot stb ogb sgb ptb blb (ptAt s1 sg (1 : Nat) (tplace pk sa (clamp ln x2))) pk d1 (clamp ln x2) (1 : Nat) -> ∀ x5, x5 = tmot stc ogc sgc ptc blc (ptAt s2 sg (2 : Nat) (tplace pk sa (clamp ln x2))) pk d2 (clamp ln x2) (2 : Nat) -> ((z.length + 1) * 24 <= 140737488355328 /\ z.length + 1 <= maxLen) /\ (decide ((((List.length (z ++ [[x3, x4, x5]])) : Nat) : Int) > 4) = true ->
 ((0 : Int) <= 1 /\ (1 : Int) <= (((List.length (z ++ [[x3, x4, x5]])) : Nat) : Int)) /\ (List.length (List.drop (1 : Nat) (z ++ [[x3, x4, x5]])) <= 8192 /\ Sm3 (1125899906842624 : Int) (List.drop (1 : Nat) (z ++ [[x3, x4, x5]])) /\ okLi spa aca jea /\ okLi spb acb jeb /\ okLi spc acc jec) /\ ∀ (x6 : Bool), x6 = wth3 spa aca jea spb acb jeb spc acc jec (List.drop (1 : Nat) (z ++ [[x3, x4, x5]])) -> ((!x6) = true -> K .ret ([.ce (.bool false)], [[I6 s0, I6 s1, I6 s2, .sl false [4, 4, 4, 4, 4, 4, 4] sg, .sl false [4, 4, 4] mk], [I6 sta, I6 spa, I6 aca, I6 jea, I6 loa, I6 hia, I6 bla, I6 oga, I6 sga, .sl false [4] pta, I6 stb, I6 spb, I6 acb, I6 jeb, I6 lob, I6 hib, I6 blb, I6 ogb, I6 sgb, .sl false [4] ptb, I6 stc, I6 spc, I6 acc, I6 jec, I6 loc, I6 hic, I6 blc, I6 ogc, I6 sgc, .sl false [4] ptc], [.sl false [4, 4, 4, 4, 4, 4, 4, 4, 4, 4] pk, I6 ln, I6 sa, I6 d0, I6 d1, I6 d2]])) /\
 ((!x6) = false -> R6 (k + 1) /\ ∀ x7, x7 = k + 1 -> K .normal ([.ce (.ptr 1000004 0), .ce (.ptr 1000005 0), .ce (.ptr 1000006 0), .ce (.bool y), .ce (.sl false [4, 4, 4] (List.drop (1 : Nat) (z ++ [[x3, x4, x5]]))), .ce (.lit true), .ce (.sl false [4] w), .ce (I6 len), .ce (I6 x7)], [[I6 s0, I6 s1, I6 s2, .sl false [4, 4, 4, 4, 4, 4, 4] sg, .sl false [4, 4, 4] mk], [I6 sta, I6 spa, I6 aca, I6 jea, I6 loa, I6 hia, I6 bla, I6 oga, I6 sga, .sl false [4] pta, I6 stb, I6 spb, I6 acb, I6 jeb, I6 lob, I6 hib, I6 blb, I6 ogb, I6 sgb, .sl false [4] ptb, I6 stc, I6 spc, I6 acc, I6 jec, I6 loc, I6 hic, I6 blc, I6 ogc, I6 sgc, .sl false [4] ptc], [.sl false [4, 4, 4, 4, 4, 4, 4, 4, 4, 4] pk, I6 ln, I6 sa, I6 d0, I6 d1, I6 d2]]))) /\
 (decide ((((List.length (z ++ [[x3, x4, x5]])) : Nat) : Int) > 4) = false -> (List.length (z ++ [[x3, x4, x5]]) <= 8192 /\ Sm3 (1125899906842624 : Int) (z ++ [[x3, x4, x5]]) /\ okLi spa aca jea /\ okLi spb acb jeb /\ okLi spc acc jec) /\ ∀ (x8 : Bool), x8 = wth3 spa aca jea spb acb jeb spc acc jec (z ++ [[x3, x4, x5]]) -> ((!x8) = true -> K .ret ([.ce (.bool false)], [[I6 s0, I6 s1, I6 s2, .sl false [4, 4, 4, 4, 4, 4, 4] sg, .sl false [4, 4, 4] mk], [I6 sta, I6 spa, I6 aca, I6 jea, I6 loa, I6 hia, I6 bla, I6 oga, I6 sga, .sl false [4] pta, I6 stb, I6 spb, I6 acb, I6 jeb, I6 lob, I6 hib, I6 blb, I6 ogb, I6 sgb, .sl false [4] ptb, I6 stc, I6 spc, I6 acc, I6 jec, I6 loc, I6 hic, I6 blc, I6 ogc, I6 sgc, .sl false [4] ptc], [.sl false [4, 4, 4, 4, 4, 4, 4, 4, 4, 4] pk, I6 ln, I6 sa, I6 d0, I6 d1, I6 d2]])) /\
 ((!x8) = false -> R6 (k + 1) /\ ∀ x9, x9 = k + 1 -> K .normal ([.ce (.ptr 1000004 0), .ce (.ptr 1000005 0), .ce (.ptr 1000006 0), .ce (.bool y), .ce (.sl false [4, 4, 4] (z ++ [[x3, x4, x5]])), .ce (.lit true), .ce (.sl false [4] w), .ce (I6 len), .ce (I6 x9)], [[I6 s0, I6 s1, I6 s2, .sl false [4, 4, 4, 4, 4, 4, 4] sg, .sl false [4, 4, 4] mk], [I6 sta, I6 spa, I6 aca, I6 jea, I6 loa, I6 hia, I6 bla, I6 oga, I6 sga, .sl false [4] pta, I6 stb, I6 spb, I6 acb, I6 jeb, I6 lob, I6 hib, I6 blb, I6 ogb, I6 sgb, .sl false [4] ptb, I6 stc, I6 spc, I6 acc, I6 jec, I6 loc, I6 hic, I6 blc, I6 ogc, I6 sgc, .sl false [4] ptc], [.sl false [4, 4, 4, 4, 4, 4, 4, 4, 4, 4] pk, I6 ln, I6 sa, I6 d0, I6 d1, I6 d2]])))) /\
 (decide (k < len) = false -> K (.exit 0) ([.ce (.bool y)], [[I6 s0, I6 s1, I6 s2, .sl false [4, 4, 4, 4, 4, 4, 4] sg, .sl false [4, 4, 4] mk], [I6 sta, I6 spa, I6 aca, I6 jea, I6 loa, I6 hia, I6 bla, I6 oga, I6 sga, .sl false [4] pta, I6 stb, I6 spb, I6 acb, I6 jeb, I6 lob, I6 hib, I6 blb, I6 ogb, I6 sgb, .sl false [4] ptb, I6 stc, I6 spc, I6 acc, I6 jec, I6 loc, I6 hic, I6 blc, I6 ogc, I6 sgc, .sl false [4] ptc], [.sl false [4, 4, 4, 4, 4, 4, 4, 4, 4, 4] pk, I6 ln, I6 sa, I6 d0, I6 d1, I6 d2]]))) := by kernel_rfl
theorem vcSmo (s0 s1 s2 ln sa d0 d1 d2 : Int) (sg mk pk w : LL) (sta spa aca jea loa hia bla oga sga stb spb acb jeb lob hib blb ogb sgb stc spc acc jec loc hic blc ogc sgc : Int) (pta ptb ptc : LL) (Q : Res -> Prop) : (nfun true CSmo Tryz.f42 (bodyOf Tryz.f42) [.agg [I6 s0, I6 s1, I6 s2, .sl false [4, 4, 4, 4, 4, 4, 4] sg, .sl false [4, 4, 4] mk], .agg [I6 sta, I6 spa, I6 aca, I6 jea, I6 loa, I6 hia, I6 bla, I6 oga, I6 sga, .sl false [4] pta, I6 stb, I6 spb, I6 acb, I6 jeb, I6 lob, I6 hib, I6 blb, I6 ogb, I6 sgb, .sl false [4] ptb, I6 stc, I6 spc, I6 acc, I6 jec, I6 loc, I6 hic, I6 blc, I6 ogc, I6 sgc, .sl false [4] ptc], .agg [.sl false [4, 4, 4, 4, 4, 4, 4, 4, 4, 4] pk, I6 ln, I6 sa, I6 d0, I6 d1, I6 d2], .ce (.sl false [4] w)] [] Q) =
 (((0 : Nat) = 0 /\ (w.length : Int) = (w.length : Int) /\ (0 : Int) = 0 /\ okPT s0 s1 s2 sg pk ln sa /\ okA3 sta oga sga pta bla stb ogb sgb ptb blb stc ogc sgc ptc blc /\ okL3 spa aca jea spb acb jeb spc acc jec /\ w.length <= 8000 /\ Sm (9000000000000000000 : Int) w) /\ (wth3 spa aca jea spb acb jeb spc acc jec (qmot (mtr sta oga sga pta bla s0 sg (0 : Nat) pk sa d0) (mtr stb ogb sgb ptb blb s1 sg (1 : Nat) pk sa d1) (mtr stc ogc sgc ptc blc s2 sg (2 : Nat) pk sa d2) ln w) = true -> Q ⟨.ce (.bool true), false, [], []⟩) /\ (wth3 spa aca jea spb acb jeb spc acc jec (qmot (mtr sta oga sga pta bla s0 sg (0 : Nat) pk sa d0) (mtr stb ogb sgb ptb blb s1 sg (1 : Nat) pk sa d1) (mtr stc ogc sgc ptc blc s2 sg (2 : Nat) pk sa d2) ln w) = false -> Q ⟨.ce (.bool false), false, [], []⟩)) := by kernel_rfl
def SSafe (hA : List HV) (pA : List (List HC)) : SR :=
 match hA, pA with
 | [.agg [.int .i64 s0, .int .i64 s1, .int .i64 s2, .sl false [4, 4, 4, 4, 4, 4, 4] sg, .sl false [4, 4, 4] mk], .agg ax, .agg [.sl false [4, 4, 4, 4, 4, 4, 4, 4, 4, 4] pk, .int .i64 ln, .int .i64 sa, .int .i64 d0, .int .i64 d1, .int .i64 d2], .agg [.int .i64 A, .int .i64 J, .int .i64 R], .agg [.int .i64 mu, .int .i64 mv, .int .i64 ma, .int .i64 ml, .int .i64 mp, .int .i64 mb], .ce (.int .i64 lim)], [] =>
  match ax with
  | [.int .i64 sta, .int .i64 spa, .int .i64 aca, .int .i64 jea, .int .i64 loa, .int .i64 hia, .int .i64 bla, .int .i64 oga, .int .i64 sga, .sl false [4] pta, .int .i64 stb, .int .i64 spb, .int .i64 acb, .int .i64 jeb, .int .i64 lob, .int .i64 hib, .int .i64 blb, .int .i64 ogb, .int .i64 sgb, .sl false [4] ptb, .int .i64 stc, .int .i64 spc, .int .i64 acc, .int .i64 jec, .int .i64 loc, .int .i64 hic, .int .i64 blc, .int .i64 ogc, .int .i64 sgc, .sl false [4] ptc] => .det ((okPT s0 s1 s2 sg pk ln sa /\ okA3 sta oga sga pta bla stb ogb sgb ptb blb stc ogc sgc ptc blc /\ okL3 spa aca jea spb acb jeb spc acc jec) /\ okPl A J R /\ (okU mu /\ okU ml /\ okU mp /\ okU mb) /\ (0 <= lim /\ lim <= 18014398509481984))
   ⟨.ce (.bool (qsafe A J (wth3 spa aca jea spb acb jeb spc acc jec) (qmot (mtr sta oga sga pta bla s0 sg 0 pk sa d0) (mtr stb ogb sgb ptb blb s1 sg 1 pk sa d1) (mtr stc ogc sgc ptc blc s2 sg 2 pk sa d2) ln) ⟨mu, mv, ma, ml, mp, mb⟩ lim)), false, [], []⟩
  | _ => .fail
 | _, _ => .fail
def tabSafe : List (FuncId × HL.Spec) := [(32, SQFut), (42, SSmo)]
noncomputable def CSafe : Ctx := ⟨Tryz.prog, gam tabSafe, Tryz.f16.ntmps, [], []⟩
theorem vcSafe (s0 s1 s2 ln sa d0 d1 d2 A J R mu mv ma ml mp mb lim : Int) (sg mk pk : LL) (sta spa aca jea loa hia bla oga sga stb spb acb jeb lob hib blb ogb sgb stc spc acc jec loc hic blc ogc sgc : Int) (pta ptb ptc : LL) (Q : Res -> Prop) : (nfun true CSafe Tryz.f16 (bodyOf Tryz.f16) [.agg [I6 s0, I6 s1, I6 s2, .sl false [4, 4, 4, 4, 4, 4, 4] sg, .sl false [4, 4, 4] mk], .agg [I6 sta, I6 spa, I6 aca, I6 jea, I6 loa, I6 hia, I6 bla, I6 oga, I6 sga, .sl false [4] pta, I6 stb, I6 spb, I6 acb, I6 jeb, I6 lob, I6 hib, I6 blb, I6 ogb, I6 sgb, .sl false [4] ptb, I6 stc, I6 spc, I6 acc, I6 jec, I6 loc, I6 hic, I6 blc, I6 ogc, I6 sgc, .sl false [4] ptc], .agg [.sl false [4, 4, 4, 4, 4, 4, 4, 4, 4, 4] pk, I6 ln, I6 sa, I6 d0, I6 d1, I6 d2], .agg [I6 A, I6 J, I6 R], .agg [I6 mu, I6 mv, I6 ma, I6 ml, I6 mp, I6 mb], .ce (I6 lim)] [] Q) =
 ((okPl A J R /\ okU mu) /\ (∃ (x : LL × Bool), x = (qfu A J mu mv ma, qfok A J mv ma)) /\ ∀ (x : LL × Bool), x = (qfu A J mu mv ma, qfok A J mv ma) -> ((!x.2) = true -> Q ⟨.ce (.bool false), false, [], []⟩) /\ ((!x.2) = false -> (decide ((List.length x.1 : Int) > 0) = true -> R6 ((List.length x.1 : Int) - 1) /\ ∀ x2, x2 = (List.length x.1 : Int) - 1 -> (0 <= x2 /\ x2 < (List.length x.1 : Int)) /\ ∀ x3, x3 = el x.1 x2.toNat -> R6 (lim * 256) /\ ∀ x4, x4 = lim * 256 -> (decide (x3 > x4) = true -> Q ⟨.ce (.bool false), false, [], []⟩) /\ (decide (x3 > x4) = false -> (((4 : Nat) + List.length x.1) * 8 <= 140737488355328 /\ (4 : Nat) + List.length x.1 <= maxLen) /\ ((List.length ([[mb], [mp], [ml], [mu]] ++ x.1) + 2) * 8 <= 140737488355328 /\
 List.length ([[mb], [mp], [ml], [mu]] ++ x.1) + 2 <= maxLen) /\ (okPT s0 s1 s2 sg pk ln sa /\ okA3 sta oga sga pta bla stb ogb sgb ptb blb stc ogc sgc ptc blc /\ okL3 spa aca jea spb acb jeb spc acc jec /\ List.length ([[mb], [mp], [ml], [mu]] ++ x.1 ++ [[x3], [x3]]) <= 8000 /\ Sm (9000000000000000000 : Int) ([[mb], [mp], [ml], [mu]] ++ x.1 ++ [[x3], [x3]])) /\ ∀ (x5 : Bool), x5 = wth3 spa aca jea spb acb jeb spc acc jec (qmot (mtr sta oga sga pta bla s0 sg (0 : Nat) pk sa d0) (mtr stb ogb sgb ptb blb s1 sg (1 : Nat) pk sa d1) (mtr stc ogc sgc ptc blc s2 sg (2 : Nat) pk sa d2) ln ([[mb], [mp], [ml], [mu]] ++ x.1 ++ [[x3], [x3]])) -> Q ⟨.ce (.bool x5), false, [], []⟩)) /\ (decide ((List.length x.1 : Int) > 0) = false -> R6 (lim * 256) /\ ∀ x6, x6 = lim * 256 -> (decide (mu > x6) = true -> Q ⟨.ce (.bool false), false, [], []⟩) /\
 (decide (mu > x6) = false -> (((4 : Nat) + List.length x.1) * 8 <= 140737488355328 /\ (4 : Nat) + List.length x.1 <= maxLen) /\ ((List.length ([[mb], [mp], [ml], [mu]] ++ x.1) + 2) * 8 <= 140737488355328 /\ List.length ([[mb], [mp], [ml], [mu]] ++ x.1) + 2 <= maxLen) /\ (okPT s0 s1 s2 sg pk ln sa /\ okA3 sta oga sga pta bla stb ogb sgb ptb blb stc ogc sgc ptc blc /\ okL3 spa aca jea spb acb jeb spc acc jec /\ List.length ([[mb], [mp], [ml], [mu]] ++ x.1 ++ [[mu], [mu]]) <= 8000 /\ Sm (9000000000000000000 : Int) ([[mb], [mp], [ml], [mu]] ++ x.1 ++ [[mu], [mu]])) /\ ∀ (x7 : Bool), x7 = wth3 spa aca jea spb acb jeb spc acc jec (qmot (mtr sta oga sga pta bla s0 sg (0 : Nat) pk sa d0) (mtr stb ogb sgb ptb blb s1 sg (1 : Nat) pk sa d1) (mtr stc ogc sgc ptc blc s2 sg (2 : Nat) pk sa d2) ln ([[mb], [mp], [ml], [mu]] ++ x.1 ++ [[mu], [mu]])) -> Q ⟨.ce (.bool x7), false, [], []⟩)))) := by kernel_rfl
def SFit (hA : List HV) (pA : List (List HC)) : SR :=
 match hA, pA with
 | [.agg [.int .i64 s0, .int .i64 s1, .int .i64 s2, .sl false [4, 4, 4, 4, 4, 4, 4] sg, .sl false [4, 4, 4] mk], .agg [.sl false [4, 4, 4, 4, 4, 4, 4, 4, 4, 4] pk, .int .i64 ln, .int .i64 sa, .int .i64 d0, .int .i64 d1, .int .i64 d2], .agg [.int .i64 A, .int .i64 J, .int .i64 R], .agg [.int .i64 fo, .int .i64 ro, .bool ho, .bool so, .bool oo], .agg [.int .i64 mu, .int .i64 mv, .int .i64 ma, .int .i64 ml, .int .i64 mp, .int .i64 mb]], [] =>
  .det ((okLen sg /\ okTrk pk ln /\ (0 <= sa /\ sa <= 18014398509481984)) /\ okPl A J R /\ okV mu)
   ⟨.ce (.bool (qfit A J sg.length (qtg ho fo ro R sg pk sa ln) ⟨mu, mv, ma, ml, mp, mb⟩)), false, [], []⟩
 | _, _ => .fail
def anFit : LAnn := ⟨[5, 6, 7, 8, 10, 13, 44, 45, 46], [10], [1000005, 1000006, 1000007, 1000008], false⟩
def LFit (v : LV) : LR :=
 match v with
 | ([.ce (.ptr 1000005 0), .ce (.ptr 1000006 0), .ce (.ptr 1000007 0), .ce (.ptr 1000008 0), .ce (.bool y), .ce (.int .i64 u), .ce (.sl false [4] l), .ce (.int .i64 len), .ce (.int .i64 k)], [[.int .i64 s0, .int .i64 s1, .int .i64 s2, .sl false [4, 4, 4, 4, 4, 4, 4] sg, .sl false [4, 4, 4] mk], [.sl false [4, 4, 4, 4, 4, 4, 4, 4, 4, 4] pk, .int .i64 ln, .int .i64 sa, .int .i64 d0, .int .i64 d1, .int .i64 d2], [.int .i64 A, .int .i64 J, .int .i64 R], [.int .i64 fo, .int .i64 ro, .bool ho, .bool so, .bool oo]]) =>
  .alts (len = l.length /\ k = 0 /\ (okLen sg /\ okTrk pk ln /\ (0 <= sa /\ sa <= 18014398509481984)) /\ 0 < sg.length /\ ∃ s, l = qcum u s /\ okSpd s /\ okV u)
   [(qfl (qtg ho fo ro R sg pk sa ln) u l = true, .exit 0, ([.ce (.bool y)], [[I6 s0, I6 s1, I6 s2, .sl false [4, 4, 4, 4, 4, 4, 4] sg, .sl false [4, 4, 4] mk], [.sl false [4, 4, 4, 4, 4, 4, 4, 4, 4, 4] pk, I6 ln, I6 sa, I6 d0, I6 d1, I6 d2], [I6 A, I6 J, I6 R], [I6 fo, I6 ro, .bool ho, .bool so, .bool oo]])),
    (qfl (qtg ho fo ro R sg pk sa ln) u l = false, .ret, ([.ce (.bool false)], [[I6 s0, I6 s1, I6 s2, .sl false [4, 4, 4, 4, 4, 4, 4] sg, .sl false [4, 4, 4] mk], [.sl false [4, 4, 4, 4, 4, 4, 4, 4, 4, 4] pk, I6 ln, I6 sa, I6 d0, I6 d1, I6 d2], [I6 A, I6 J, I6 R], [I6 fo, I6 ro, .bool ho, .bool so, .bool oo]]))]
 | _ => .fail
def tabFit : List (FuncId × HL.Spec) := [(32, SQFut), (48, SQTg)]
noncomputable def CFit : Ctx := ⟨Tryz.prog, gam tabFit, Tryz.f18.ntmps, [(6, anFit, LFit)], []⟩
theorem vbFit (s0 s1 s2 ln sa d0 d1 d2 A J R fo ro u len k : Int) (ho so oo y : Bool) (sg mk pk l : LL) (K : HEx -> LV -> Prop) : (nbodyT true CFit anFit (nthLoop Tryz.f18 0) (([.ce (.ptr 1000005 0), .ce (.ptr 1000006 0), .ce (.ptr 1000007 0), .ce (.ptr 1000008 0), .ce (.bool y), .ce (I6 u), .ce (.sl false [4] l), .ce (I6 len), .ce (I6 k)], [[I6 s0, I6 s1, I6 s2, .sl false [4, 4, 4, 4, 4, 4, 4] sg, .sl false [4, 4, 4] mk], [.sl false [4, 4, 4, 4, 4, 4, 4, 4, 4, 4] pk, I6 ln, I6 sa, I6 d0, I6 d1, I6 d2], [I6 A, I6 J, I6 R], [I6 fo, I6 ro, .bool ho, .bool so, .bool oo]])) K) =
 ((decide (k < len) = true -> (0 <= k /\ k < (l.length : Int)) /\ ∀ x1, x1 = el l k.toNat -> R6 (x1 - u) /\ ∀ x2, x2 = x1 - u -> ((okLen sg /\ okTrk pk ln /\ 0 <= sa /\ sa <= 18014398509481984) /\ (0 : Nat) < sg.length /\ okU x1) /\ ∀ x3, x3 = qtg ho fo ro R sg pk sa ln x1 -> (decide (x2 > x3) = true -> K .ret ([.ce (.bool false)], [[I6 s0, I6 s1, I6 s2, .sl false [4, 4, 4, 4, 4, 4, 4] sg, .sl false [4, 4, 4] mk], [.sl false [4, 4, 4, 4, 4, 4, 4, 4, 4, 4] pk, I6 ln, I6 sa, I6 d0, I6 d1, I6 d2], [I6 A, I6 J, I6 R], [I6 fo, I6 ro, .bool ho, .bool so, .bool oo]])) /\ (decide (x2 > x3) = false -> R6 (k + 1) /\ ∀ x4, x4 = k + 1 -> K .normal ([.ce (.ptr 1000005 0), .ce (.ptr 1000006 0), .ce (.ptr 1000007 0), .ce (.ptr 1000008 0), .ce (.bool y), .ce (I6 x1), .ce (.sl false [4] l), .ce (I6 len), .ce (I6 x4)], [[I6 s0, I6 s1, I6 s2, .sl false [4, 4, 4, 4, 4, 4, 4] sg, .sl false [4, 4, 4] mk], [.sl false [4, 4, 4, 4, 4, 4, 4, 4, 4, 4] pk, I6 ln, I6 sa, I6 d0, I6 d1, I6 d2], [I6 A, I6 J, I6 R], [I6 fo, I6 ro, .bool ho, .bool so, .bool oo]]))) /\
 (decide (k < len) = false -> K (.exit 0) ([.ce (.bool y)], [[I6 s0, I6 s1, I6 s2, .sl false [4, 4, 4, 4, 4, 4, 4] sg, .sl false [4, 4, 4] mk], [.sl false [4, 4, 4, 4, 4, 4, 4, 4, 4, 4] pk, I6 ln, I6 sa, I6 d0, I6 d1, I6 d2], [I6 A, I6 J, I6 R], [I6 fo, I6 ro, .bool ho, .bool so, .bool oo]]))) := by kernel_rfl
theorem vcFit (s0 s1 s2 ln sa d0 d1 d2 A J R fo ro mu mv ma ml mp mb : Int) (ho so oo : Bool) (sg mk pk : LL) (Q : Res -> Prop) : (nfun true CFit Tryz.f18 (bodyOf Tryz.f18) [.agg [I6 s0, I6 s1, I6 s2, .sl false [4, 4, 4, 4, 4, 4, 4] sg, .sl false [4, 4, 4] mk], .agg [.sl false [4, 4, 4, 4, 4, 4, 4, 4, 4, 4] pk, I6 ln, I6 sa, I6 d0, I6 d1, I6 d2], .agg [I6 A, I6 J, I6 R], .agg [I6 fo, I6 ro, .bool ho, .bool so, .bool oo], .agg [I6 mu, I6 mv, I6 ma, I6 ml, I6 mp, I6 mb]] [] Q) =
 ((okPl A J R /\ okU mu) /\ (∃ (x : LL × Bool), x = (qfu A J mu mv ma, qfok A J mv ma)) /\ ∀ (x : LL × Bool), x = (qfu A J mu mv ma, qfok A J mv ma) -> ((!x.2) = true -> Q ⟨.ce (.bool false), false, [], []⟩) /\ ((!x.2) = false -> (((sg.length : Int) == 0) = true -> Q ⟨.ce (.bool false), false, [], []⟩) /\ (((sg.length : Int) == 0) = false -> ((okLen sg /\ okTrk pk ln /\ 0 <= sa /\ sa <= 18014398509481984) /\ (0 : Nat) < sg.length /\ okU mu) /\ ∀ x2, x2 = qtg ho fo ro R sg pk sa ln mu -> (decide (mv > x2) = true -> Q ⟨.ce (.bool false), false, [], []⟩) /\ (decide (mv > x2) = false -> ((List.length x.1 : Int) = (List.length x.1 : Int) /\ (0 : Int) = 0 /\ (okLen sg /\ okTrk pk ln /\ 0 <= sa /\ sa <= 18014398509481984) /\ (0 : Nat) < sg.length /\ ∃ (s : LL), x.1 = qcum mu s /\ okSpd s /\ okV mu) /\ (qfl (qtg ho fo ro R sg pk sa ln) mu x.1 = true ->
 Q ⟨.ce (.bool true), false, [], []⟩) /\ (qfl (qtg ho fo ro R sg pk sa ln) mu x.1 = false -> Q ⟨.ce (.bool false), false, [], []⟩))))) := by kernel_rfl
end Go.Proofs.YtoekmphdpepdbaaGreat
namespace U
def Lm (sp ac je : Int) (f : Nat -> Int) (n : Nat) : Prop :=
 (∀ j, j + 1 < n -> -sp <= f (j + 1) - f j /\ f (j + 1) - f j <= sp) /\ (∀ j, j + 2 < n -> -ac <= f (j + 2) - 2 * f (j + 1) + f j /\ f (j + 2) - 2 * f (j + 1) + f j <= ac) /\
 (∀ j, j + 3 < n -> -je <= f (j + 3) - 3 * f (j + 2) + 3 * f (j + 1) - f j /\ f (j + 3) - 3 * f (j + 2) + 3 * f (j + 1) - f j <= je)
theorem bdd_iff {l : LL} {m : Int} : bdd l m = true ↔ ∀ j, j < l.length -> -m <= el l j /\ el l j <= m := by
 unfold bdd bdN; rw [allN_iff]; simp only [decide_eq_true_iff]
theorem wth_iff {sp ac je : Int} {l : LL} : wth sp ac je l = true ↔ Lm sp ac je (el l) l.length := by
 have e2 : ∀ j, j + 2 < l.length -> el (dfl (dfl l)) j = el l (j + 2) - 2 * el l (j + 1) + el l j := fun j h => by
  rw [el_dfl (by rw [dfl_len]; omega), el_dfl (by omega), el_dfl (by omega), show j + 1 + 1 = j + 2 from rfl]; omega
 have e3 : ∀ j, j + 3 < l.length -> el (dfl (dfl (dfl l))) j = el l (j + 3) - 3 * el l (j + 2) + 3 * el l (j + 1) - el l j := fun j h => by
  rw [el_dfl (by rw [dfl_len, dfl_len]; omega), e2 (j + 1) (by omega), e2 j (by omega), show j + 1 + 2 = j + 3 from rfl, show j + 1 + 1 = j + 2 from rfl]; omega
 unfold wth
 rw [Bool.and_eq_true, Bool.and_eq_true, bdd_iff, bdd_iff, bdd_iff]
 simp only [dfl_len]
 refine ⟨fun ⟨a, b, c⟩ => ⟨fun j h => ?_, fun j h => ?_, fun j h => ?_⟩, fun ⟨a, b, c⟩ => ⟨fun j h => ?_, fun j h => ?_, fun j h => ?_⟩⟩
 . have := a j (by omega); rwa [el_dfl h] at this
 . have := b j (by omega); rwa [e2 j h] at this
 . have := c j (by omega); rwa [e3 j h] at this
 . rw [el_dfl (by omega)]; exact a j (by omega)
 . rw [e2 j (by omega)]; exact b j (by omega)
 . rw [e3 j (by omega)]; exact c j (by omega)
theorem Lm_congr {sp ac je : Int} {f g : Nat -> Int} {n : Nat} (h : ∀ j, j < n -> f j = g j) (hf : Lm sp ac je f n) : Lm sp ac je g n := by
 obtain ⟨a, b, c⟩ := hf
 refine ⟨fun j hj => ?_, fun j hj => ?_, fun j hj => ?_⟩
 . rw [<- h j (by omega), <- h (j + 1) (by omega)]; exact a j hj
 . rw [<- h j (by omega), <- h (j + 1) (by omega), <- h (j + 2) (by omega)]; exact b j hj
 . rw [<- h j (by omega), <- h (j + 1) (by omega), <- h (j + 2) (by omega), <- h (j + 3) (by omega)]; exact c j hj
theorem wth3_iff {s0 a0 j0 s1 a1 j1 s2 a2 j2 : Int} {l : LL} : wth3 s0 a0 j0 s1 a1 j1 s2 a2 j2 l = true ↔
 Lm s0 a0 j0 (fun j => ec l j 0) l.length /\ Lm s1 a1 j1 (fun j => ec l j 1) l.length /\ Lm s2 a2 j2 (fun j => ec l j 2) l.length := by
 have k : ∀ (s a j : Int) (c : Nat), Lm s a j (el (col l c)) (col l c).length ↔ Lm s a j (fun j => ec l j c) l.length := fun s a j c => by
  rw [col_len]
  exact ⟨Lm_congr fun j h => el_col h, Lm_congr fun j h => (el_col h).symm⟩
 unfold wth3
 rw [Bool.and_eq_true, Bool.and_eq_true, wth_iff, wth_iff, wth_iff, k, k, k]
theorem Lm_win {sp ac je : Int} {f : Nat -> Int} {n : Nat} : Lm sp ac je f (n + 1) ↔ Lm sp ac je f n /\ Lm sp ac je (fun j => f (n + 1 - 4 + j)) (n + 1 - (n + 1 - 4)) := by
 refine ⟨fun ⟨a, b, c⟩ => ⟨⟨fun j h => a j (by omega), fun j h => b j (by omega), fun j h => c j (by omega)⟩, fun j h => a (n + 1 - 4 + j) (by omega), fun j h => b (n + 1 - 4 + j) (by omega), fun j h => c (n + 1 - 4 + j) (by omega)⟩, fun ⟨⟨a, b, c⟩, a', b', c'⟩ => ⟨fun j h => ?_, fun j h => ?_, fun j h => ?_⟩⟩
 . by_cases hn : j + 1 < n
   . exact a j hn
   . have := a' (j - (n + 1 - 4)) (by omega)
     dsimp only at this
     rwa [show n + 1 - 4 + (j - (n + 1 - 4)) = j by omega, show n + 1 - 4 + (j - (n + 1 - 4) + 1) = j + 1 by omega] at this
 . by_cases hn : j + 2 < n
   . exact b j hn
   . have := b' (j - (n + 1 - 4)) (by omega)
     dsimp only at this
     rwa [show n + 1 - 4 + (j - (n + 1 - 4)) = j by omega, show n + 1 - 4 + (j - (n + 1 - 4) + 1) = j + 1 by omega, show n + 1 - 4 + (j - (n + 1 - 4) + 2) = j + 2 by omega] at this
 . by_cases hn : j + 3 < n
   . exact c j hn
   . have := c' (j - (n + 1 - 4)) (by omega)
     dsimp only at this
     rwa [show n + 1 - 4 + (j - (n + 1 - 4)) = j by omega, show n + 1 - 4 + (j - (n + 1 - 4) + 1) = j + 1 by omega, show n + 1 - 4 + (j - (n + 1 - 4) + 2) = j + 2 by omega, show n + 1 - 4 + (j - (n + 1 - 4) + 3) = j + 3 by omega] at this
theorem Lm_pre {sp ac je : Int} {f : Nat -> Int} {n m : Nat} (h : m <= n) : Lm sp ac je f n -> Lm sp ac je f m := fun ⟨a, b, c⟩ => ⟨fun j hj => a j (by omega), fun j hj => b j (by omega), fun j hj => c j (by omega)⟩
theorem win_len (L : LL) {i : Nat} (h : i <= L.length) : (win L i).length = i - (i - 4) := by unfold win; simp; omega
theorem ec_win {L : LL} {i j c : Nat} (h : i <= L.length) (hj : j < i - (i - 4)) : ec (win L i) j c = ec L (i - 4 + j) c := by
 have : (List.drop (i - 4) (List.take i L)).getD j [] = L.getD (i - 4 + j) [] := by
  rw [List.getD_eq_getElem?_getD, List.getElem?_drop, List.getElem?_take_of_lt (by omega), <- List.getD_eq_getElem?_getD]
 unfold win ec
 rw [this]
theorem win_next {L : LL} {i : Nat} (h : i < L.length) : win L i ++ [L.getD i []] = (L.take (i + 1)).drop (i - 4) := by
 unfold win
 rw [take_next L h [], List.drop_append_of_le_length (by simp; omega)]
theorem ec_take {L : LL} {n j c : Nat} (h : j < n) : ec (L.take n) j c = ec L j c := by
 have : (List.take n L).getD j [] = L.getD j [] := by rw [List.getD_eq_getElem?_getD, List.getElem?_take_of_lt h, <- List.getD_eq_getElem?_getD]
 unfold ec; rw [this]
theorem take_len {L : LL} {n : Nat} (h : n <= L.length) : (L.take n).length = n := by simp; omega
theorem wth3_take {s0 a0 j0 s1 a1 j1 s2 a2 j2 : Int} {L : LL} {n : Nat} (h : n <= L.length) : wth3 s0 a0 j0 s1 a1 j1 s2 a2 j2 (L.take n) = true ↔
 Lm s0 a0 j0 (fun j => ec L j 0) n /\ Lm s1 a1 j1 (fun j => ec L j 1) n /\ Lm s2 a2 j2 (fun j => ec L j 2) n := by
 rw [wth3_iff, take_len h]
 exact ⟨fun ⟨a, b, c⟩ => ⟨Lm_congr (fun j hj => ec_take hj) a, Lm_congr (fun j hj => ec_take hj) b, Lm_congr (fun j hj => ec_take hj) c⟩,
  fun ⟨a, b, c⟩ => ⟨Lm_congr (fun j hj => (ec_take hj).symm) a, Lm_congr (fun j hj => (ec_take hj).symm) b, Lm_congr (fun j hj => (ec_take hj).symm) c⟩⟩
theorem wth3_next {s0 a0 j0 s1 a1 j1 s2 a2 j2 : Int} {L : LL} {n : Nat} (h : n < L.length) :
 wth3 s0 a0 j0 s1 a1 j1 s2 a2 j2 (L.take (n + 1)) = true ↔ wth3 s0 a0 j0 s1 a1 j1 s2 a2 j2 (L.take n) = true /\ wth3 s0 a0 j0 s1 a1 j1 s2 a2 j2 (win L (n + 1)) = true := by
 rw [wth3_take (by omega), wth3_take (by omega), wth3_iff, win_len L (by omega), Lm_win, Lm_win, Lm_win]
 have k : ∀ (s a j : Int) (c : Nat), Lm s a j (fun j => ec (win L (n + 1)) j c) (n + 1 - (n + 1 - 4)) ↔ Lm s a j (fun j => ec L (n + 1 - 4 + j) c) (n + 1 - (n + 1 - 4)) := fun s a j c =>
  ⟨Lm_congr fun j hj => ec_win (by omega) hj, Lm_congr fun j hj => (ec_win (by omega) hj).symm⟩
 rw [k, k, k]
 exact ⟨fun ⟨⟨a, b⟩, ⟨c, d⟩, e, f⟩ => ⟨⟨a, c, e⟩, b, d, f⟩, fun ⟨⟨a, c, e⟩, b, d, f⟩ => ⟨⟨a, b⟩, ⟨c, d⟩, e, f⟩⟩
theorem wth3_le {s0 a0 j0 s1 a1 j1 s2 a2 j2 : Int} {L : LL} {n : Nat} (h : n <= L.length) (hf : wth3 s0 a0 j0 s1 a1 j1 s2 a2 j2 (L.take n) = false) : wth3 s0 a0 j0 s1 a1 j1 s2 a2 j2 L = false := by
 cases hw : wth3 s0 a0 j0 s1 a1 j1 s2 a2 j2 L
 . rfl
 . rw [<- List.take_length (l := L), wth3_take (Nat.le_refl _)] at hw
   have := (wth3_take h).2 ⟨Lm_pre h hw.1, Lm_pre h hw.2.1, Lm_pre h hw.2.2⟩
   rw [this] at hf; cases hf
theorem Sm3_win {B : Int} {L : LL} {i : Nat} (h : Sm3 B L) (hi : i <= L.length) : Sm3 B (win L i) := fun j hj => by
 rw [win_len L hi] at hj
 rw [ec_win hi hj, ec_win hi hj, ec_win hi hj]
 exact h _ (by omega)
theorem qmot_len (M0 M1 M2 : Int -> Int) (ln : Int) (w : LL) : (qmot M0 M1 M2 ln w).length = w.length := by simp [qmot]
theorem qmot_get {M0 M1 M2 : Int -> Int} {ln : Int} {w : LL} {i : Nat} (h : i < w.length) :
 (qmot M0 M1 M2 ln w).getD i [] = [M0 (clamp ln (el w i / 256)), M1 (clamp ln (el w i / 256)), M2 (clamp ln (el w i / 256))] := by
 unfold qmot el; simp [List.getD_eq_getElem?_getD, h]
theorem Sm3_qmot {B : Int} {M0 M1 M2 : Int -> Int} {ln : Int} {w : LL} (h0 : 0 <= ln) (h : ∀ u, 0 <= u /\ u <= ln -> (-B <= M0 u /\ M0 u <= B) /\ (-B <= M1 u /\ M1 u <= B) /\ (-B <= M2 u /\ M2 u <= B)) : Sm3 B (qmot M0 M1 M2 ln w) := fun j hj => by
 rw [qmot_len] at hj
 unfold ec
 rw [qmot_get hj]
 exact h _ (clamp_bd h0)
theorem qfl_app {T : Int -> Int} {u : Int} {l : LL} {i : Nat} (h : i < l.length) (last : Int) : qfl T last (l.drop i) = (decide (el l i - last <= T (el l i)) && qfl T (el l i) (l.drop (i + 1))) := by
 rw [drop_next l h []]; rfl
theorem qend_bd {u : Int} {s : LL} (h : okSpd s) : u <= qend u (qcum u s) /\ qend u (qcum u s) <= u + 68719476736 := by
 unfold qend
 have hl := h.1
 split
 . omega
 . rename_i hn
   rw [qcum_len] at hn ⊢
   rw [el_qcum (by omega)]
   have := qsm_bd h (s.length - 1 + 1) (by omega)
   omega
end U
namespace Go.Proofs.YtoekmphdpepdbaaGreat
open Go Go.HL U
attribute [local irreducible] hfun bodyT fragT
set_option maxHeartbeats 2000000 in
theorem loopSmo : ∀ v Q, (LSmo v).wp Q -> hloop CSmo anSmo (nthLoop Tryz.f42 0) v Q := by
 intro v Q h
 unfold LSmo at h
 split at h
 case h_2 => exact h.elim
 rename_i y z w len k s0 s1 s2 sg mk ax tr
 split at h
 case h_2 => exact h.elim
 rename_i sta spa aca jea loa hia bla oga sga pta stb spb acb jeb lob hib blb ogb sgb ptb stc spc acc jec loc hic blc ogc sgc ptc
 split at h
 case h_2 => exact h.elim
 rename_i pk ln sa d0 d1 d2
 obtain ⟨⟨h1, h2, h3, hp, ha, hli, hw, hs⟩, hq1, hq2⟩ := h
 subst h2 h3
 obtain rfl := List.eq_nil_of_length_eq_zero h1
 have hb : ∀ u, 0 <= u /\ u <= ln -> (-4398046511104 <= mtr sta oga sga pta bla s0 sg 0 pk sa d0 u /\ mtr sta oga sga pta bla s0 sg 0 pk sa d0 u <= 4398046511104) /\
  (-4398046511104 <= mtr stb ogb sgb ptb blb s1 sg 1 pk sa d1 u /\ mtr stb ogb sgb ptb blb s1 sg 1 pk sa d1 u <= 4398046511104) /\
  (-4398046511104 <= mtr stc ogc sgc ptc blc s2 sg 2 pk sa d2 u /\ mtr stc ogc sgc ptc blc s2 sg 2 pk sa d2 u <= 4398046511104) := fun u hu =>
  ⟨mtr_bd hp.1 hp.2.1.1 (fun j hj => (hp.2.1.2.2.2 j hj).1) hp.2.2.1 ha.1 hu, mtr_bd hp.1 hp.2.1.2.1 (fun j hj => (hp.2.1.2.2.2 j hj).2.1) hp.2.2.1 ha.2.1 hu, mtr_bd hp.1 hp.2.1.2.2.1 (fun j hj => (hp.2.1.2.2.2 j hj).2.2) hp.2.2.1 ha.2.2 hu⟩
 have hS : Sm3 1125899906842624 (qmot (mtr sta oga sga pta bla s0 sg 0 pk sa d0) (mtr stb ogb sgb ptb blb s1 sg 1 pk sa d1) (mtr stc ogc sgc ptc blc s2 sg 2 pk sa d2) ln w) :=
  Sm3_qmot hp.2.2.1.2.1.1 (fun u hu => by have := hb u hu; omega)
 have hg := fun i (hi : i < w.length) => qmot_get (M0 := mtr sta oga sga pta bla s0 sg 0 pk sa d0) (M1 := mtr stb ogb sgb ptb blb s1 sg 1 pk sa d1) (M2 := mtr stc ogc sgc ptc blc s2 sg 2 pk sa d2) (ln := ln) hi
 have hL := qmot_len (mtr sta oga sga pta bla s0 sg 0 pk sa d0) (mtr stb ogb sgb ptb blb s1 sg 1 pk sa d1) (mtr stc ogc sgc ptc blc s2 sg 2 pk sa d2) ln w
 generalize hLe : qmot (mtr sta oga sga pta bla s0 sg 0 pk sa d0) (mtr stb ogb sgb ptb blb s1 sg 1 pk sa d1) (mtr stc ogc sgc ptc blc s2 sg 2 pk sa d2) ln w = L at *
 refine hloop_rec (σ := Nat) (fun i => ([.ce (.ptr 1000004 0), .ce (.ptr 1000005 0), .ce (.ptr 1000006 0), .ce (.bool y), .ce (.sl false [4, 4, 4] (win L i)), .ce (.lit true), .ce (.sl false [4] w), .ce (I6 (w.length : Int)), .ce (I6 (i : Int))], [[I6 s0, I6 s1, I6 s2, .sl false [4, 4, 4, 4, 4, 4, 4] sg, .sl false [4, 4, 4] mk], [I6 sta, I6 spa, I6 aca, I6 jea, I6 loa, I6 hia, I6 bla, I6 oga, I6 sga, .sl false [4] pta, I6 stb, I6 spb, I6 acb, I6 jeb, I6 lob, I6 hib, I6 blb, I6 ogb, I6 sgb, .sl false [4] ptb, I6 stc, I6 spc, I6 acc, I6 jec, I6 loc, I6 hic, I6 blc, I6 ogc, I6 sgc, .sl false [4] ptc], [.sl false [4, 4, 4, 4, 4, 4, 4, 4, 4, 4] pk, I6 ln, I6 sa, I6 d0, I6 d1, I6 d2]]))
  (fun i => w.length - i) (fun i => i <= w.length /\ wth3 spa aca jea spb acb jeb spc acc jec (L.take i) = true) ?_ 0 ⟨Nat.zero_le _, by rw [wth3_take (Nat.zero_le _)]; exact ⟨⟨fun j hj => by omega, fun j hj => by omega, fun j hj => by omega⟩, ⟨fun j hj => by omega, fun j hj => by omega, fun j hj => by omega⟩, ⟨fun j hj => by omega, fun j hj => by omega, fun j hj => by omega⟩⟩⟩
 intro i ⟨hi, hI⟩ K hn hx hr
 refine byVB (vbSmo s0 s1 s2 w.length i ln sa d0 d1 d2 y sg mk pk (win L i) w sta spa aca jea loa hia bla oga sga stb spb acb jeb lob hib blb ogb sgb stc spc acc jec loc hic blc ogc sgc pta ptb ptc K) ⟨fun g => ?_, fun g => ?_⟩
 . have g := odt g
   have hil : i < w.length := by omega
   have hb1 := hs i hil
   refine ⟨by omega, fun x1 e1 => ?_⟩
   have e1 : x1 = el w i := e1
   refine ⟨by omega, fun x2 e2 => ⟨⟨hp.1, hp.2.1, hp.2.2.1, ha.1, ha.2.1, ha.2.2, hp.2.2.2⟩, fun x3 e3 x4 e4 x5 e5 => ?_⟩⟩
   have er : [x3, x4, x5] = L.getD i [] := by rw [hg i hil, e3, e4, e5, e2, e1]; rfl
   rw [er, win_next (by omega)]
   have wl := win_len L (i := i) (by omega)
   have dl : (List.drop (i - 4) (List.take (i + 1) L)).length = i + 1 - (i - 4) := by simp; omega
   have step : ∀ (k : Int), k = (i : Int) + 1 -> ∀ x6 : Bool, x6 = wth3 spa aca jea spb acb jeb spc acc jec (win L (i + 1)) -> (((!x6) = true -> K .ret ([.ce (.bool false)], [[I6 s0, I6 s1, I6 s2, .sl false [4, 4, 4, 4, 4, 4, 4] sg, .sl false [4, 4, 4] mk], [I6 sta, I6 spa, I6 aca, I6 jea, I6 loa, I6 hia, I6 bla, I6 oga, I6 sga, .sl false [4] pta, I6 stb, I6 spb, I6 acb, I6 jeb, I6 lob, I6 hib, I6 blb, I6 ogb, I6 sgb, .sl false [4] ptb, I6 stc, I6 spc, I6 acc, I6 jec, I6 loc, I6 hic, I6 blc, I6 ogc, I6 sgc, .sl false [4] ptc], [.sl false [4, 4, 4, 4, 4, 4, 4, 4, 4, 4] pk, I6 ln, I6 sa, I6 d0, I6 d1, I6 d2]])) /\ ((!x6) = false -> K .normal ([.ce (.ptr 1000004 0), .ce (.ptr 1000005 0), .ce (.ptr 1000006 0), .ce (.bool y), .ce (.sl false [4, 4, 4] (win L (i + 1))), .ce (.lit true), .ce (.sl false [4] w), .ce (I6 (w.length : Int)), .ce (I6 k)], [[I6 s0, I6 s1, I6 s2, .sl false [4, 4, 4, 4, 4, 4, 4] sg, .sl false [4, 4, 4] mk], [I6 sta, I6 spa, I6 aca, I6 jea, I6 loa, I6 hia, I6 bla, I6 oga, I6 sga, .sl false [4] pta, I6 stb, I6 spb, I6 acb, I6 jeb, I6 lob, I6 hib, I6 blb, I6 ogb, I6 sgb, .sl false [4] ptb, I6 stc, I6 spc, I6 acc, I6 jec, I6 loc, I6 hic, I6 blc, I6 ogc, I6 sgc, .sl false [4] ptc], [.sl false [4, 4, 4, 4, 4, 4, 4, 4, 4, 4] pk, I6 ln, I6 sa, I6 d0, I6 d1, I6 d2]]))) := by
    intro k ek x6 e6
    have nx := wth3_next (s0 := spa) (a0 := aca) (j0 := jea) (s1 := spb) (a1 := acb) (j1 := jeb) (s2 := spc) (a2 := acc) (j2 := jec) (L := L) (n := i) (by omega)
    refine ⟨fun g6 => hr _ (hq2 (wth3_le (n := i + 1) (by omega) ?_)), fun g6 => ?_⟩
    . cases hc : wth3 spa aca jea spb acb jeb spc acc jec (L.take (i + 1))
      . rfl
      . have := (nx.1 hc).2; rw [<- e6] at this; rw [this] at g6; cases g6
    . have := hn (i + 1) ⟨hil, nx.2 ⟨hI, by rw [<- e6]; cases x6 <;> simp at g6 ⊢⟩⟩ (by omega)
      rw [show ((i + 1 : Nat) : Int) = k by omega] at this
      exact this
   refine ⟨⟨by omega, by unfold maxLen; omega⟩, fun g4 => ?_, fun g4 => ?_⟩
   . have g4 := odt g4
     rw [dl] at g4
     have ew : List.drop 1 (List.drop (i - 4) (List.take (i + 1) L)) = win L (i + 1) := by unfold win; rw [List.drop_drop, show i - 4 + 1 = i + 1 - 4 by omega]
     rw [ew]
     refine ⟨by rw [dl]; omega, ⟨by rw [win_len L (by omega)]; omega, Sm3_win hS (by omega), hli⟩, fun x6 e6 => ?_⟩
     have := step ((i : Int) + 1) rfl x6 e6
     exact ⟨this.1, fun g6 => ⟨by omega, fun x7 e7 => by rw [e7]; exact this.2 g6⟩⟩
   . have g4 := odf g4
     rw [dl] at g4
     have ew : List.drop (i - 4) (List.take (i + 1) L) = win L (i + 1) := by unfold win; rw [show i - 4 = i + 1 - 4 by omega]
     rw [ew]
     refine ⟨⟨by rw [win_len L (by omega)]; omega, Sm3_win hS (by omega), hli⟩, fun x6 e6 => ?_⟩
     have := step ((i : Int) + 1) rfl x6 e6
     exact ⟨this.1, fun g6 => ⟨by omega, fun x7 e7 => by rw [e7]; exact this.2 g6⟩⟩
 . have g := odf g
   obtain rfl : i = w.length := by omega
   rw [<- hL, List.take_length] at hI
   exact hx _ _ (hq1 hI)
theorem sSmo : Sound Tryz.prog 42 SSmo := by
 refine sound_of (C := CSmo) tabSmo Tryz.func42 (by kernel_rfl) (by decide +kernel) (by kernel_rfl) rfl ⟨sQUnit, sMotors, sAll, trivial⟩ (loops1 (by kernel_rfl) (loopOK_of (an := anSmo) (S := LSmo) (by kernel_rfl) loopSmo)) ?_
 intro hA pA R h
 unfold SSmo at h
 split at h
 case h_2 => exfalso; exact h
 rename_i s0 s1 s2 sg mk ax pk ln sa d0 d1 d2 w
 split at h
 case h_2 => exact h.elim
 rename_i sta spa aca jea loa hia bla oga sga pta stb spb acb jeb lob hib blb ogb sgb ptb stc spc acc jec loc hic blc ogc sgc ptc
 obtain ⟨hp, hR⟩ := h
 exact byVC (vcSmo s0 s1 s2 ln sa d0 d1 d2 sg mk pk w sta spa aca jea loa hia bla oga sga stb spb acb jeb lob hib blb ogb sgb stc spc acc jec loc hic blc ogc sgc pta ptb ptc R) ⟨⟨rfl, rfl, rfl, hp⟩, fun e => by rw [e] at hR; exact hR, fun e => by rw [e] at hR; exact hR⟩
set_option maxHeartbeats 2000000 in
theorem sSafe : Sound Tryz.prog 16 SSafe := by
 refine sound_of (C := CSafe) tabSafe Tryz.func16 (by kernel_rfl) (by decide +kernel) (by kernel_rfl) rfl ⟨sQFut, sSmo, trivial⟩ (loops0 (by kernel_rfl)) ?_
 intro hA pA R h
 unfold SSafe at h
 split at h
 case h_2 => exfalso; exact h
 rename_i s0 s1 s2 sg mk ax pk ln sa d0 d1 d2 A J Rp mu mv ma ml mp mb lim
 split at h
 case h_2 => exact h.elim
 rename_i sta spa aca jea loa hia bla oga sga pta stb spb acb jeb lob hib blb ogb sgb ptb stc spc acc jec loc hic blc ogc sgc ptc
 obtain ⟨⟨⟨hp, ha, hli⟩, hpl, ⟨hu, hml, hmp, hmb⟩, hlim⟩, hR⟩ := h
 refine byVC (vcSafe s0 s1 s2 ln sa d0 d1 d2 A J Rp mu mv ma ml mp mb lim sg mk pk sta spa aca jea loa hia bla oga sga stb spb acb jeb lob hib blb ogb sgb stc spc acc jec loc hic blc ogc sgc pta ptb ptc R) ⟨⟨hpl, hu⟩, ⟨_, rfl⟩, fun x e => ?_⟩
 subst e
 have hs := qsp_spd (v := mv) (a := ma) hpl
 have hl : (qfu A J mu mv ma).length <= 4096 := by unfold qfu; rw [qcum_len]; exact hs.1
 have hel : ∀ j, j < (qfu A J mu mv ma).length -> -9000000000000000000 <= el (qfu A J mu mv ma) j /\ el (qfu A J mu mv ma) j <= 9000000000000000000 := fun j hj => by
  unfold qfu at hj ⊢
  rw [qcum_len] at hj
  rw [el_qcum hj]
  have := qsm_bd hs (j + 1) (by omega)
  have := hs.1
  unfold okU at hu
  omega
 have he := qend_bd (u := mu) hs
 rw [show qcum mu (qsp A J mv ma) = qfu A J mu mv ma from rfl] at he
 unfold qsafe at hR
 refine ⟨fun g => ?_, fun g => ?_⟩
 . have g : qfok A J mv ma = false := by simpa using g
   simp only [g, Bool.false_and] at hR; exact hR
 have g : qfok A J mv ma = true := by simpa using g
 simp only [g, Bool.true_and] at hR
 have tail : ∀ (x3 : Int), x3 = qend mu (qfu A J mu mv ma) -> (-9223372036854775808 <= lim * 256 /\ lim * 256 <= 9223372036854775807) /\ ∀ (x4 : Int), x4 = lim * 256 -> (decide (x3 > x4) = true -> R ⟨.ce (.bool false), false, [], []⟩) /\ (decide (x3 > x4) = false ->
  ((4 + (qfu A J mu mv ma).length) * 8 <= 140737488355328 /\ 4 + (qfu A J mu mv ma).length <= maxLen) /\ ((([[mb], [mp], [ml], [mu]] ++ qfu A J mu mv ma).length + 2) * 8 <= 140737488355328 /\ ([[mb], [mp], [ml], [mu]] ++ qfu A J mu mv ma).length + 2 <= maxLen) /\
  (okPT s0 s1 s2 sg pk ln sa /\ okA3 sta oga sga pta bla stb ogb sgb ptb blb stc ogc sgc ptc blc /\ okL3 spa aca jea spb acb jeb spc acc jec /\ ([[mb], [mp], [ml], [mu]] ++ qfu A J mu mv ma ++ [[x3], [x3]]).length <= 8000 /\ Sm 9000000000000000000 ([[mb], [mp], [ml], [mu]] ++ qfu A J mu mv ma ++ [[x3], [x3]])) /\
  ∀ (x5 : Bool), x5 = wth3 spa aca jea spb acb jeb spc acc jec (qmot (mtr sta oga sga pta bla s0 sg 0 pk sa d0) (mtr stb ogb sgb ptb blb s1 sg 1 pk sa d1) (mtr stc ogc sgc ptc blc s2 sg 2 pk sa d2) ln ([[mb], [mp], [ml], [mu]] ++ qfu A J mu mv ma ++ [[x3], [x3]])) -> R ⟨.ce (.bool x5), false, [], []⟩) := by
  intro x3 e3
  refine ⟨by omega, fun x4 e4 => ⟨fun g3 => ?_, fun g3 => ⟨⟨by omega, by unfold maxLen; omega⟩, ⟨by simp; omega, by simp; unfold maxLen; omega⟩, ⟨hp, ha, hli, by simp; omega, ?_⟩, fun x5 e5 => ?_⟩⟩⟩
  . have g3 := odt g3
    rw [decide_eq_false (by omega), Bool.false_and] at hR; exact hR
  . unfold okU at hu hml hmp hmb
    intro j hj
    rw [List.append_assoc, el_append]
    split
    . rename_i hj4
      have hj4 : j < 4 := hj4
      rcases (by omega : j = 0 ∨ j = 1 ∨ j = 2 ∨ j = 3) with rfl | rfl | rfl | rfl
      . show -9000000000000000000 <= mb /\ mb <= 9000000000000000000; omega
      . show -9000000000000000000 <= mp /\ mp <= 9000000000000000000; omega
      . show -9000000000000000000 <= ml /\ ml <= 9000000000000000000; omega
      . show -9000000000000000000 <= mu /\ mu <= 9000000000000000000; omega
    . rw [el_append]
      split
      . rename_i h2; exact hel _ h2
      . rename_i h1 h2
        simp at hj h1 h2
        rcases (by omega : j - 4 - (qfu A J mu mv ma).length = 0 ∨ j - 4 - (qfu A J mu mv ma).length = 1) with h5 | h5
        . rw [show List.length [[mb], [mp], [ml], [mu]] = 4 from rfl, h5]; show -9000000000000000000 <= x3 /\ x3 <= 9000000000000000000; omega
        . rw [show List.length [[mb], [mp], [ml], [mu]] = 4 from rfl, h5]; show -9000000000000000000 <= x3 /\ x3 <= 9000000000000000000; omega
  . have g3 := odf g3
    rw [decide_eq_true (by omega), Bool.true_and] at hR
    rw [e5, e3]; exact hR
 dsimp only
 refine ⟨fun g2 => ⟨by omega, fun x2 e2 => ⟨by have := odt g2; omega, fun x3 e3 => tail x3 ?_⟩⟩, fun g2 => tail mu ?_⟩
 . have g2 := odt g2
   unfold qend
   rw [if_neg (by omega), e3, show x2.toNat = (qfu A J mu mv ma).length - 1 by omega]
 . have g2 := odf g2
   unfold qend
   rw [if_pos (by omega)]
theorem loopFit : ∀ v Q, (LFit v).wp Q -> hloop CFit anFit (nthLoop Tryz.f18 0) v Q := by
 intro v Q h
 unfold LFit at h
 split at h
 case h_2 => exact h.elim
 rename_i y u l len k s0 s1 s2 sg mk pk ln sa d0 d1 d2 A J Rp fo ro ho so oo
 obtain ⟨⟨h1, h2, hp, h0, s, hl, hs, hu⟩, hq1, hq2⟩ := h
 subst h1 h2
 have hll : l.length = s.length := by rw [hl, qcum_len]
 have hsl := hs.1
 have ee : ∀ i, i < l.length -> el l i = u + qsm s i + el s i := fun i hi => by rw [hl, el_qcum (by omega), qsm]; omega
 have e0 : u = u + qsm s 0 := by simp [qsm]
 refine Eq.mp (by rw [<- e0]; rfl) (hloop_rec (C := CFit) (an := anFit) (c := nthLoop Tryz.f18 0) (Q := Q) (σ := Nat) (fun i => ([.ce (.ptr 1000005 0), .ce (.ptr 1000006 0), .ce (.ptr 1000007 0), .ce (.ptr 1000008 0), .ce (.bool y), .ce (I6 (u + qsm s i)), .ce (.sl false [4] l), .ce (I6 (l.length : Int)), .ce (I6 (i : Int))], [[I6 s0, I6 s1, I6 s2, .sl false [4, 4, 4, 4, 4, 4, 4] sg, .sl false [4, 4, 4] mk], [.sl false [4, 4, 4, 4, 4, 4, 4, 4, 4, 4] pk, I6 ln, I6 sa, I6 d0, I6 d1, I6 d2], [I6 A, I6 J, I6 Rp], [I6 fo, I6 ro, .bool ho, .bool so, .bool oo]]))
  (fun i => l.length - i) (fun i => i <= l.length /\ qfl (qtg ho fo ro Rp sg pk sa ln) u l = qfl (qtg ho fo ro Rp sg pk sa ln) (u + qsm s i) (l.drop i)) ?_ 0 ⟨Nat.zero_le _, by rw [<- e0]; rfl⟩)
 intro i ⟨hi, hI⟩ K hn hx hr
 refine byVB (vbFit s0 s1 s2 ln sa d0 d1 d2 A J Rp fo ro (u + qsm s i) l.length i ho so oo y sg mk pk l K) ⟨fun g => ?_, fun g => ?_⟩
 . have g := odt g
   have hil : i < l.length := by omega
   have b := qsm_bd hs i (by omega)
   have c := hs.2 i (by omega)
   have e := ee i hil
   rw [qfl_app (u := u) hil] at hI
   unfold okV at hu
   refine ⟨by omega, fun x1 e1 => ?_⟩
   have e1 : x1 = el l i := e1
   refine ⟨by omega, fun x2 e2 => ⟨⟨hp, h0, by unfold okU; omega⟩, fun x3 e3 => ⟨fun g2 => hr _ (hq2 ?_), fun g2 => ⟨by omega, fun x4 e4 => ?_⟩⟩⟩⟩
   . have g2 := odt g2
     rw [hI, <- e1, decide_eq_false (by omega), Bool.false_and]
   . have g2 := odf g2
     have e9 : el l i = u + qsm s (i + 1) := by rw [qsm]; omega
     have := hn (i + 1) ⟨hil, by rw [hI, <- e9, <- e1, decide_eq_true (by omega), Bool.true_and]⟩ (by omega)
     rw [<- e9, <- e1, show ((i + 1 : Nat) : Int) = x4 by omega] at this
     exact this
 . have g := odf g
   obtain rfl : i = l.length := by omega
   rw [List.drop_length] at hI
   exact hx _ _ (hq1 hI)
theorem sFit : Sound Tryz.prog 18 SFit := by
 refine sound_of (C := CFit) tabFit Tryz.func18 (by kernel_rfl) (by decide +kernel) (by kernel_rfl) rfl ⟨sQFut, sQTg, trivial⟩ (loops1 (by kernel_rfl) (loopOK_of (an := anFit) (S := LFit) (by kernel_rfl) loopFit)) ?_
 intro hA pA R h
 unfold SFit at h
 split at h
 case h_2 => exfalso; exact h
 rename_i s0 s1 s2 sg mk pk ln sa d0 d1 d2 A J Rp fo ro ho so oo mu mv ma ml mp mb
 obtain ⟨⟨hp, hpl, hu⟩, hR⟩ := h
 have hu' : okU mu := by unfold okV at hu; unfold okU; omega
 refine byVC (vcFit s0 s1 s2 ln sa d0 d1 d2 A J Rp fo ro mu mv ma ml mp mb ho so oo sg mk pk R) ⟨⟨hpl, hu'⟩, ⟨_, rfl⟩, fun x e => ?_⟩
 subst e
 unfold qfit at hR
 refine ⟨fun g => ?_, fun g => ?_⟩
 . have g : qfok A J mv ma = false := by simpa using g
   simp only [g, Bool.false_and] at hR; exact hR
 have g : qfok A J mv ma = true := by simpa using g
 simp only [g, Bool.true_and] at hR
 refine ⟨fun g2 => ?_, fun g2 => ?_⟩
 . have g2 : sg.length = 0 := by simpa using g2
   rw [decide_eq_false (by omega), Bool.false_and] at hR; exact hR
 have g2 : sg.length ≠ 0 := by simpa using g2
 rw [decide_eq_true (by omega), Bool.true_and] at hR
 refine ⟨⟨hp, by omega, hu'⟩, fun x2 e2 => ⟨fun g3 => ?_, fun g3 => ⟨⟨rfl, rfl, hp, by omega, qsp A J mv ma, rfl, qsp_spd hpl, hu⟩, fun g4 => ?_, fun g4 => ?_⟩⟩⟩
 . have g3 := odt g3
   rw [decide_eq_false (by omega), Bool.false_and] at hR; exact hR
 . have g3 := odf g3
   rw [decide_eq_true (by omega), Bool.true_and, g4] at hR; exact hR
 . have g3 := odf g3
   rw [decide_eq_true (by omega), Bool.true_and, g4] at hR; exact hR
end Go.Proofs.YtoekmphdpepdbaaGreat
namespace U
open Go
def qok (A J : Int) (W : LL -> Bool) (Mo : LL -> LL) (n : Nat) (T : Int -> Int) (m : QM) (lim k : Int) : Bool :=
 decide (0 <= m.v + (m.a + k)) && (qready A J (m.v + (m.a + k)) (m.a + k) && (qfit A J n T (qmove m (m.v + (m.a + k))) && qsafe A J W Mo (qmove m (m.v + (m.a + k))) lim))
def qpick (ok : Int -> Bool) : LL -> Option Int
 | [] => none
 | r :: l => if ok (r.getD 0 0) = true then some (r.getD 0 0) else qpick ok l
def qnext (A J : Int) (W : LL -> Bool) (Mo : LL -> LL) (n : Nat) (T : Int -> Int) (m : QM) (lim : Int) : QM :=
 match qpick (qok A J W Mo n T m lim) (chg J) with
 | some k => qmove m (m.v + (m.a + k))
 | none => qmove m (m.v + qbrk A J m.v m.a)
def okN (m : QM) : Prop := (-4800000000000000000 <= m.u /\ m.u <= 4800000000000000000) /\ (-549755813888 <= m.v /\ m.v <= 549755813888) /\ (-549755813888 <= m.a /\ m.a <= 549755813888) /\ okU m.l /\ okU m.p
def qpk (ok : Int -> Bool) (m : QM) (l : LL) (x : Bool × QM) : Prop :=
 (∃ k, qpick ok l = some k /\ x = (true, qmove m (m.v + (m.a + k)))) ∨ (qpick ok l = none /\ x.1 = false)
end U
namespace Go.Proofs.YtoekmphdpepdbaaGreat
open Go Go.HL U
def SPNext (hargs : List HV) (pars : List (List HC)) : SR :=
 match hargs, pars with
 | [.agg [.int .i64 s0, .int .i64 s1, .int .i64 s2, .sl false [4, 4, 4, 4, 4, 4, 4] sg, .sl false [4, 4, 4] mk], .agg ax, .agg [.sl false [4, 4, 4, 4, 4, 4, 4, 4, 4, 4] pk, .int .i64 ln, .int .i64 sa, .int .i64 d0, .int .i64 d1, .int .i64 d2], .agg [.int .i64 A, .int .i64 J, .int .i64 R], .agg [.int .i64 fo, .int .i64 ro, .bool ho, .bool so, .bool oo], .agg [.int .i64 mu, .int .i64 mv, .int .i64 ma, .int .i64 ml, .int .i64 mp, .int .i64 mb], .ce (.int .i64 lim)], [] =>
  match ax with
  | [.int .i64 sta, .int .i64 spa, .int .i64 aca, .int .i64 jea, .int .i64 loa, .int .i64 hia, .int .i64 bla, .int .i64 oga, .int .i64 sga, .sl false [4] pta, .int .i64 stb, .int .i64 spb, .int .i64 acb, .int .i64 jeb, .int .i64 lob, .int .i64 hib, .int .i64 blb, .int .i64 ogb, .int .i64 sgb, .sl false [4] ptb, .int .i64 stc, .int .i64 spc, .int .i64 acc, .int .i64 jec, .int .i64 loc, .int .i64 hic, .int .i64 blc, .int .i64 ogc, .int .i64 sgc, .sl false [4] ptc] => .all ((okPT s0 s1 s2 sg pk ln sa /\ okA3 sta oga sga pta bla stb ogb sgb ptb blb stc ogc sgc ptc blc /\ okL3 spa aca jea spb acb jeb spc acc jec) /\ okPl A J R /\ okN ⟨mu, mv, ma, ml, mp, mb⟩ /\ (0 <= lim /\ lim <= 18014398509481984)) QM
   (fun x => x = qnext A J (wth3 spa aca jea spb acb jeb spc acc jec) (qmot (mtr sta oga sga pta bla s0 sg 0 pk sa d0) (mtr stb ogb sgb ptb blb s1 sg 1 pk sa d1) (mtr stc ogc sgc ptc blc s2 sg 2 pk sa d2) ln) sg.length (qtg ho fo ro R sg pk sa ln) ⟨mu, mv, ma, ml, mp, mb⟩ lim)
   (fun x => ⟨.agg [I6 x.u, I6 x.v, I6 x.a, I6 x.l, I6 x.p, I6 x.b], false, [], []⟩)
  | _ => .fail
 | _, _ => .fail
def anNx : LAnn := ⟨[6, 7, 8, 9, 10, 11, 12, 14, 15, 16, 23, 24, 25], [10, 12, 14, 15, 16], [1000007, 1000008, 1000009, 1000010, 1000011, 1000012, 1000014, 1000015], false⟩
set_option maxHeartbeats 4000000 in
def LNx (v : LV) : LR :=
 match v with
 | ([.ce (.int .i64 lim), .ce (.ptr 1000007 0), .ce (.ptr 1000008 0), .ce (.ptr 1000009 0), .ce (.ptr 1000010 0), .ce (.ptr 1000011 0), .ce (.ptr 1000012 0), .ce (.ptr 1000014 0), .ce (.ptr 1000015 0), .ce (.bool y), .ce (.sl false [4] l), .ce (.int .i64 len), .ce (.int .i64 i)],
  [[.int .i64 s0, .int .i64 s1, .int .i64 s2, .sl false [4, 4, 4, 4, 4, 4, 4] sg, .sl false [4, 4, 4] mk], ax, tr, [.int .i64 A, .int .i64 J, .int .i64 R], [.int .i64 fo, .int .i64 ro, .bool ho, .bool so, .bool oo], [.int .i64 mu, .int .i64 mv, .int .i64 ma, .int .i64 ml, .int .i64 mp, .int .i64 mb], [.int .i64 z0, .int .i64 z1, .int .i64 z2, .int .i64 z3, .int .i64 z4, .int .i64 z5], [.int .i64 f0, .int .i64 f1, .int .i64 f2, .int .i64 f3, .int .i64 f4, .int .i64 f5]]) =>
  match ax with
  | [.int .i64 sta, .int .i64 spa, .int .i64 aca, .int .i64 jea, .int .i64 loa, .int .i64 hia, .int .i64 bla, .int .i64 oga, .int .i64 sga, .sl false [4] pta, .int .i64 stb, .int .i64 spb, .int .i64 acb, .int .i64 jeb, .int .i64 lob, .int .i64 hib, .int .i64 blb, .int .i64 ogb, .int .i64 sgb, .sl false [4] ptb, .int .i64 stc, .int .i64 spc, .int .i64 acc, .int .i64 jec, .int .i64 loc, .int .i64 hic, .int .i64 blc, .int .i64 ogc, .int .i64 sgc, .sl false [4] ptc] => match tr with
   | [.sl false [4, 4, 4, 4, 4, 4, 4, 4, 4, 4] pk, .int .i64 ln, .int .i64 sa, .int .i64 d0, .int .i64 d1, .int .i64 d2] => .all ((okPT s0 s1 s2 sg pk ln sa /\ okA3 sta oga sga pta bla stb ogb sgb ptb blb stc ogc sgc ptc blc /\ okL3 spa aca jea spb acb jeb spc acc jec) /\ okPl A J R /\ okN ⟨mu, mv, ma, ml, mp, mb⟩ /\ (0 <= lim /\ lim <= 18014398509481984) /\ y = false /\ len = l.length /\ i = 0 /\ l.length <= 200000 /\ Sm 65536 l) (Bool × QM)
    (qpk (qok A J (wth3 spa aca jea spb acb jeb spc acc jec) (qmot (mtr sta oga sga pta bla s0 sg 0 pk sa d0) (mtr stb ogb sgb ptb blb s1 sg 1 pk sa d1) (mtr stc ogc sgc ptc blc s2 sg 2 pk sa d2) ln) sg.length (qtg ho fo ro R sg pk sa ln) ⟨mu, mv, ma, ml, mp, mb⟩ lim) ⟨mu, mv, ma, ml, mp, mb⟩ l)
    (fun _ => .exit 0)
    (fun x => ([.ce (.ptr 1000010 0), .ce (.ptr 1000012 0), .ce (.ptr 1000014 0), .ce (.ptr 1000015 0), .ce (.bool x.1)], [[I6 s0, I6 s1, I6 s2, .sl false [4, 4, 4, 4, 4, 4, 4] sg, .sl false [4, 4, 4] mk], [I6 sta, I6 spa, I6 aca, I6 jea, I6 loa, I6 hia, I6 bla, I6 oga, I6 sga, .sl false [4] pta, I6 stb, I6 spb, I6 acb, I6 jeb, I6 lob, I6 hib, I6 blb, I6 ogb, I6 sgb, .sl false [4] ptb, I6 stc, I6 spc, I6 acc, I6 jec, I6 loc, I6 hic, I6 blc, I6 ogc, I6 sgc, .sl false [4] ptc], [.sl false [4, 4, 4, 4, 4, 4, 4, 4, 4, 4] pk, I6 ln, I6 sa, I6 d0, I6 d1, I6 d2], [I6 A, I6 J, I6 R], [I6 fo, I6 ro, .bool ho, .bool so, .bool oo], [I6 mu, I6 mv, I6 ma, I6 ml, I6 mp, I6 mb], [I6 z0, I6 z1, I6 z2, I6 z3, I6 z4, I6 z5], [I6 x.2.u, I6 x.2.v, I6 x.2.a, I6 x.2.l, I6 x.2.p, I6 x.2.b]]))
   | _ => .fail
  | _ => .fail
 | _ => .fail
def tabNx : List (FuncId × HL.Spec) := [(60, SChg), (61, SQReady), (62, SQMove), (18, SFit), (16, SSafe), (63, SQBrake)]
noncomputable def CNx : Ctx := ⟨Tryz.prog, gam tabNx, Tryz.f34.ntmps, [(4, anNx, LNx)], []⟩
theorem vbNx (s0 s1 s2 ln sa d0 d1 d2 A J R fo ro mu mv ma ml mp mb lim len i z0 z1 z2 z3 z4 z5 f0 f1 f2 f3 f4 f5 : Int) (ho so oo y : Bool) (sg mk pk l : LL) (sta spa aca jea loa hia bla oga sga stb spb acb jeb lob hib blb ogb sgb stc spc acc jec loc hic blc ogc sgc : Int) (pta ptb ptc : LL) (K : HEx -> LV -> Prop) : (nbodyT true CNx anNx (nthLoop Tryz.f34 0) (([.ce (I6 lim), .ce (.ptr 1000007 0), .ce (.ptr 1000008 0), .ce (.ptr 1000009 0), .ce (.ptr 1000010 0), .ce (.ptr 1000011 0), .ce (.ptr 1000012 0), .ce (.ptr 1000014 0), .ce (.ptr 1000015 0), .ce (.bool y), .ce (.sl false [4] l), .ce (I6 len), .ce (I6 i)], [[I6 s0, I6 s1, I6 s2, .sl false [4, 4, 4, 4, 4, 4, 4] sg, .sl false [4, 4, 4] mk], [I6 sta, I6 spa, I6 aca, I6 jea, I6 loa, I6 hia, I6 bla, I6 oga, I6 sga, .sl false [4] pta, I6 stb, I6 spb, I6 acb, I6 jeb, I6 lob, I6 hib, I6 blb, I6 ogb, I6 sgb, .sl false [4] ptb, I6 stc, I6 spc, I6 acc, I6 jec, I6 loc, I6 hic, I6 blc, I6 ogc, I6 sgc, .sl false [4] ptc], [.sl false [4, 4, 4, 4, 4, 4, 4, 4, 4, 4] pk, I6 ln, I6 sa, I6 d0, I6 d1, I6 d2], [I6 A, I6 J, I6 R], [I6 fo, I6 ro, .bool ho, .bool so, .bool oo], [I6 mu, I6 mv, I6 ma, I6 ml, I6 mp, I6 mb], [I6 z0, I6 z1, I6 z2, I6 z3, I6 z4, I6 z5], [I6 f0, I6 f1, I6 f2, I6 f3, I6 f4, I6 f5]])) K) =
 ((decide (i < len) = true -> (0 <= i /\ i < (l.length : Int)) /\ ∀ x1, x1 = el l i.toNat -> R6 (ma + x1) /\ ∀ x2, x2 = ma + x1 -> R6 (mv + x2) /\ ∀ x3, x3 = mv + x2 -> (decide (x3 < 0) = true -> R6 (i + 1) /\ ∀ x4, x4 = i + 1 -> K .normal ([.ce (I6 lim), .ce (.ptr 1000007 0), .ce (.ptr 1000008 0), .ce (.ptr 1000009 0), .ce (.ptr 1000010 0), .ce (.ptr 1000011 0), .ce (.ptr 1000012 0), .ce (.ptr 1000014 0), .ce (.ptr 1000015 0), .ce (.bool y), .ce (.sl false [4] l), .ce (I6 len), .ce (I6 x4)], [[I6 s0, I6 s1, I6 s2, .sl false [4, 4, 4, 4, 4, 4, 4] sg, .sl false [4, 4, 4] mk], [I6 sta, I6 spa, I6 aca, I6 jea, I6 loa, I6 hia, I6 bla, I6 oga, I6 sga, .sl false [4] pta, I6 stb, I6 spb, I6 acb, I6 jeb, I6 lob, I6 hib, I6 blb, I6 ogb, I6 sgb, .sl false [4] ptb, I6 stc, I6 spc, I6 acc, I6 jec, I6 loc, I6 hic, I6 blc, I6 ogc, I6 sgc, .sl false [4] ptc], [.sl false [4, 4, 4, 4, 4, 4, 4, 4, 4, 4] pk, I6 ln, I6 sa, I6 d0, I6 d1, I6 d2], [I6 A, I6 J, I6 R], [I6 fo, I6 ro, .bool ho, .bool so, .bool oo], [I6 mu, I6 mv, I6 ma, I6 ml, I6 mp, I6 mb], [I6 z0, I6 z1, I6 z2, I6 z3, I6 z4, I6 z5], [I6 f0, I6 f1, I6 f2, I6 f3, I6 f4, I6 f5]])) /\
 (decide (x3 < 0) = false -> R6 (mv + x2) /\ ∀ x5, x5 = mv + x2 -> okPl A J R /\ ∀ (x6 : Bool), x6 = qready A J x5 x2 -> ((!x6) = true -> R6 (i + 1) /\ ∀ x7, x7 = i + 1 -> K .normal ([.ce (I6 lim), .ce (.ptr 1000007 0), .ce (.ptr 1000008 0), .ce (.ptr 1000009 0), .ce (.ptr 1000010 0), .ce (.ptr 1000011 0), .ce (.ptr 1000012 0), .ce (.ptr 1000014 0), .ce (.ptr 1000015 0), .ce (.bool y), .ce (.sl false [4] l), .ce (I6 len), .ce (I6 x7)], [[I6 s0, I6 s1, I6 s2, .sl false [4, 4, 4, 4, 4, 4, 4] sg, .sl false [4, 4, 4] mk], [I6 sta, I6 spa, I6 aca, I6 jea, I6 loa, I6 hia, I6 bla, I6 oga, I6 sga, .sl false [4] pta, I6 stb, I6 spb, I6 acb, I6 jeb, I6 lob, I6 hib, I6 blb, I6 ogb, I6 sgb, .sl false [4] ptb, I6 stc, I6 spc, I6 acc, I6 jec, I6 loc, I6 hic, I6 blc, I6 ogc, I6 sgc, .sl false [4] ptc], [.sl false [4, 4, 4, 4, 4, 4, 4, 4, 4, 4] pk, I6 ln, I6 sa, I6 d0, I6 d1, I6 d2], [I6 A, I6 J, I6 R], [I6 fo, I6 ro, .bool ho, .bool so, .bool oo], [I6 mu, I6 mv, I6 ma, I6 ml, I6 mp, I6 mb], [I6 z0, I6 z1, I6 z2, I6 z3, I6 z4, I6 z5], [I6 f0, I6 f1, I6 f2, I6 f3, I6 f4, I6 f5]])) /\
 ((!x6) = false -> R6 (mv + x2) /\ ∀ x8, x8 = mv + x2 -> (okU mu /\ (-2199023255552 <= x8 /\ x8 <= 2199023255552) /\ -2199023255552 <= mv /\ mv <= 2199023255552) /\ (∃ (x : QM), x = qmove { u := mu, v := mv, a := ma, l := ml, p := mp, b := mb } x8) /\ ∀ (x : QM), x = qmove { u := mu, v := mv, a := ma, l := ml, p := mp, b := mb } x8 -> ((okLen sg /\ okTrk pk ln /\ 0 <= sa /\ sa <= 18014398509481984) /\ okPl A J R /\ okV x.u) /\ ∀ (x10 : Bool), x10 = qfit A J (sg.length) (qtg ho fo ro R sg pk sa ln) { u := x.u, v := x.v, a := x.a, l := x.l, p := x.p, b := x.b } -> (x10 = true -> ((okPT s0 s1 s2 sg pk ln sa /\ okA3 sta oga sga pta bla stb ogb sgb ptb blb stc ogc sgc ptc blc /\ okL3 spa aca jea spb acb jeb spc acc jec) /\ okPl A J R /\ (okU x.u /\ okU x.l /\ okU x.p /\ okU x.b) /\ 0 <= lim /\ lim <= 18014398509481984) /\ ∀ (x11 : Bool), x11 = qsafe A J (wth3 spa aca jea spb acb jeb spc acc jec) (qmot (mtr sta oga sga pta bla s0 sg (0 : Nat) pk sa d0) (mtr stb ogb sgb ptb blb s1 sg (1 : Nat) pk sa d1) (mtr stc ogc sgc ptc blc s2 sg (2 : Nat) pk sa d2) ln) { u := x.u, v := x.v, a := x.a, l := x.l, p := x.p, b := x.b } lim ->
 (x11 = true -> K (.exit 0) ([.ce (.ptr 1000010 0), .ce (.ptr 1000012 0), .ce (.ptr 1000014 0), .ce (.ptr 1000015 0), .ce (.bool true)], [[I6 s0, I6 s1, I6 s2, .sl false [4, 4, 4, 4, 4, 4, 4] sg, .sl false [4, 4, 4] mk], [I6 sta, I6 spa, I6 aca, I6 jea, I6 loa, I6 hia, I6 bla, I6 oga, I6 sga, .sl false [4] pta, I6 stb, I6 spb, I6 acb, I6 jeb, I6 lob, I6 hib, I6 blb, I6 ogb, I6 sgb, .sl false [4] ptb, I6 stc, I6 spc, I6 acc, I6 jec, I6 loc, I6 hic, I6 blc, I6 ogc, I6 sgc, .sl false [4] ptc], [.sl false [4, 4, 4, 4, 4, 4, 4, 4, 4, 4] pk, I6 ln, I6 sa, I6 d0, I6 d1, I6 d2], [I6 A, I6 J, I6 R], [I6 fo, I6 ro, .bool ho, .bool so, .bool oo], [I6 mu, I6 mv, I6 ma, I6 ml, I6 mp, I6 mb], [I6 z0, I6 z1, I6 z2, I6 z3, I6 z4, I6 z5], [I6 x.u, I6 x.v, I6 x.a, I6 x.l, I6 x.p, I6 x.b]])) /\
 (x11 = false -> R6 (i + 1) /\ ∀ x12, x12 = i + 1 -> K .normal ([.ce (I6 lim), .ce (.ptr 1000007 0), .ce (.ptr 1000008 0), .ce (.ptr 1000009 0), .ce (.ptr 1000010 0), .ce (.ptr 1000011 0), .ce (.ptr 1000012 0), .ce (.ptr 1000014 0), .ce (.ptr 1000015 0), .ce (.bool y), .ce (.sl false [4] l), .ce (I6 len), .ce (I6 x12)], [[I6 s0, I6 s1, I6 s2, .sl false [4, 4, 4, 4, 4, 4, 4] sg, .sl false [4, 4, 4] mk], [I6 sta, I6 spa, I6 aca, I6 jea, I6 loa, I6 hia, I6 bla, I6 oga, I6 sga, .sl false [4] pta, I6 stb, I6 spb, I6 acb, I6 jeb, I6 lob, I6 hib, I6 blb, I6 ogb, I6 sgb, .sl false [4] ptb, I6 stc, I6 spc, I6 acc, I6 jec, I6 loc, I6 hic, I6 blc, I6 ogc, I6 sgc, .sl false [4] ptc], [.sl false [4, 4, 4, 4, 4, 4, 4, 4, 4, 4] pk, I6 ln, I6 sa, I6 d0, I6 d1, I6 d2], [I6 A, I6 J, I6 R], [I6 fo, I6 ro, .bool ho, .bool so, .bool oo], [I6 mu, I6 mv, I6 ma, I6 ml, I6 mp, I6 mb], [I6 z0, I6 z1, I6 z2, I6 z3, I6 z4, I6 z5], [I6 x.u, I6 x.v, I6 x.a, I6 x.l, I6 x.p, I6 x.b]]))) /\
 (x10 = false -> R6 (i + 1) /\ ∀ x13, x13 = i + 1 -> K .normal ([.ce (I6 lim), .ce (.ptr 1000007 0), .ce (.ptr 1000008 0), .ce (.ptr 1000009 0), .ce (.ptr 1000010 0), .ce (.ptr 1000011 0), .ce (.ptr 1000012 0), .ce (.ptr 1000014 0), .ce (.ptr 1000015 0), .ce (.bool y), .ce (.sl false [4] l), .ce (I6 len), .ce (I6 x13)], [[I6 s0, I6 s1, I6 s2, .sl false [4, 4, 4, 4, 4, 4, 4] sg, .sl false [4, 4, 4] mk], [I6 sta, I6 spa, I6 aca, I6 jea, I6 loa, I6 hia, I6 bla, I6 oga, I6 sga, .sl false [4] pta, I6 stb, I6 spb, I6 acb, I6 jeb, I6 lob, I6 hib, I6 blb, I6 ogb, I6 sgb, .sl false [4] ptb, I6 stc, I6 spc, I6 acc, I6 jec, I6 loc, I6 hic, I6 blc, I6 ogc, I6 sgc, .sl false [4] ptc], [.sl false [4, 4, 4, 4, 4, 4, 4, 4, 4, 4] pk, I6 ln, I6 sa, I6 d0, I6 d1, I6 d2], [I6 A, I6 J, I6 R], [I6 fo, I6 ro, .bool ho, .bool so, .bool oo], [I6 mu, I6 mv, I6 ma, I6 ml, I6 mp, I6 mb], [I6 z0, I6 z1, I6 z2, I6 z3, I6 z4, I6 z5], [I6 x.u, I6 x.v, I6 x.a, I6 x.l, I6 x.p, I6 x.b]]))))) /\
 (decide (i < len) = false -> K (.exit 0) ([.ce (.ptr 1000010 0), .ce (.ptr 1000012 0), .ce (.ptr 1000014 0), .ce (.ptr 1000015 0), .ce (.bool y)], [[I6 s0, I6 s1, I6 s2, .sl false [4, 4, 4, 4, 4, 4, 4] sg, .sl false [4, 4, 4] mk], [I6 sta, I6 spa, I6 aca, I6 jea, I6 loa, I6 hia, I6 bla, I6 oga, I6 sga, .sl false [4] pta, I6 stb, I6 spb, I6 acb, I6 jeb, I6 lob, I6 hib, I6 blb, I6 ogb, I6 sgb, .sl false [4] ptb, I6 stc, I6 spc, I6 acc, I6 jec, I6 loc, I6 hic, I6 blc, I6 ogc, I6 sgc, .sl false [4] ptc], [.sl false [4, 4, 4, 4, 4, 4, 4, 4, 4, 4] pk, I6 ln, I6 sa, I6 d0, I6 d1, I6 d2], [I6 A, I6 J, I6 R], [I6 fo, I6 ro, .bool ho, .bool so, .bool oo], [I6 mu, I6 mv, I6 ma, I6 ml, I6 mp, I6 mb], [I6 z0, I6 z1, I6 z2, I6 z3, I6 z4, I6 z5], [I6 f0, I6 f1, I6 f2, I6 f3, I6 f4, I6 f5]]))) := by kernel_rfl
theorem vcNx (s0 s1 s2 ln sa d0 d1 d2 A J R fo ro mu mv ma ml mp mb lim : Int) (ho so oo : Bool) (sg mk pk : LL) (sta spa aca jea loa hia bla oga sga stb spb acb jeb lob hib blb ogb sgb stc spc acc jec loc hic blc ogc sgc : Int) (pta ptb ptc : LL) (Q : Res -> Prop) : (nfun true CNx Tryz.f34 (bodyOf Tryz.f34) [.agg [I6 s0, I6 s1, I6 s2, .sl false [4, 4, 4, 4, 4, 4, 4] sg, .sl false [4, 4, 4] mk], .agg [I6 sta, I6 spa, I6 aca, I6 jea, I6 loa, I6 hia, I6 bla, I6 oga, I6 sga, .sl false [4] pta, I6 stb, I6 spb, I6 acb, I6 jeb, I6 lob, I6 hib, I6 blb, I6 ogb, I6 sgb, .sl false [4] ptb, I6 stc, I6 spc, I6 acc, I6 jec, I6 loc, I6 hic, I6 blc, I6 ogc, I6 sgc, .sl false [4] ptc], .agg [.sl false [4, 4, 4, 4, 4, 4, 4, 4, 4, 4] pk, I6 ln, I6 sa, I6 d0, I6 d1, I6 d2], .agg [I6 A, I6 J, I6 R], .agg [I6 fo, I6 ro, .bool ho, .bool so, .bool oo], .agg [I6 mu, I6 mv, I6 ma, I6 ml, I6 mp, I6 mb], .ce (I6 lim)] [] Q) =
 ((0 <= J /\ J <= 65536) /\ (∃ (x : LL), x = chg J) /\ ∀ (x : LL), x = chg J -> ((okPT s0 s1 s2 sg pk ln sa /\ okA3 sta oga sga pta bla stb ogb sgb ptb blb stc ogc sgc ptc blc /\ okL3 spa aca jea spb acb jeb spc acc jec) /\ okPl A J R /\ okN { u := mu, v := mv, a := ma, l := ml, p := mp, b := mb } /\ (0 <= lim /\ lim <= 18014398509481984) /\ false = false /\ (x.length : Int) = (x.length : Int) /\ (0 : Int) = 0 /\ x.length <= 200000 /\ Sm (65536 : Int) x) /\ ∀ (x_1 : Bool × QM), qpk (qok A J (wth3 spa aca jea spb acb jeb spc acc jec) (qmot (mtr sta oga sga pta bla s0 sg (0 : Nat) pk sa d0) (mtr stb ogb sgb ptb blb s1 sg (1 : Nat) pk sa d1) (mtr stc ogc sgc ptc blc s2 sg (2 : Nat) pk sa d2) ln) (sg.length) (qtg ho fo ro R sg pk sa ln) { u := mu, v := mv, a := ma, l := ml, p := mp, b := mb } lim) { u := mu, v := mv, a := ma, l := ml, p := mp, b := mb } x x_1 ->
 (x_1.1 = true -> Q ⟨.agg [I6 x_1.2.u, I6 x_1.2.v, I6 x_1.2.a, I6 x_1.2.l, I6 x_1.2.p, I6 x_1.2.b], false, [], []⟩) /\ (x_1.1 = false -> (okPl A J R /\ (-1099511627776 <= mv /\ mv <= 1099511627776) /\ -1099511627776 <= ma /\ ma <= 1099511627776) /\ ∀ x3, x3 = qbrk A J mv ma -> R6 (mv + x3) /\ ∀ x4, x4 = mv + x3 -> (okU mu /\ (-2199023255552 <= x4 /\ x4 <= 2199023255552) /\ -2199023255552 <= mv /\ mv <= 2199023255552) /\ (∃ (x : QM), x = qmove { u := mu, v := mv, a := ma, l := ml, p := mp, b := mb } x4) /\ ∀ (x : QM), x = qmove { u := mu, v := mv, a := ma, l := ml, p := mp, b := mb } x4 -> Q ⟨.agg [I6 x.u, I6 x.v, I6 x.a, I6 x.l, I6 x.p, I6 x.b], false, [], []⟩)) := by kernel_rfl
end Go.Proofs.YtoekmphdpepdbaaGreat
namespace U
theorem qok_neg {A J : Int} {W : LL -> Bool} {Mo : LL -> LL} {n : Nat} {T : Int -> Int} {m : QM} {lim k : Int} (h : m.v + (m.a + k) < 0) : qok A J W Mo n T m lim k = false := by
 unfold qok; rw [decide_eq_false (by omega), Bool.false_and]
theorem qok_nr {A J : Int} {W : LL -> Bool} {Mo : LL -> LL} {n : Nat} {T : Int -> Int} {m : QM} {lim k : Int} (h : qready A J (m.v + (m.a + k)) (m.a + k) = false) : qok A J W Mo n T m lim k = false := by
 unfold qok; rw [h, Bool.false_and, Bool.and_false]
theorem qok_nf {A J : Int} {W : LL -> Bool} {Mo : LL -> LL} {n : Nat} {T : Int -> Int} {m : QM} {lim k : Int} (h : qfit A J n T (qmove m (m.v + (m.a + k))) = false) : qok A J W Mo n T m lim k = false := by
 unfold qok; rw [h, Bool.false_and, Bool.and_false, Bool.and_false]
theorem qok_ns {A J : Int} {W : LL -> Bool} {Mo : LL -> LL} {n : Nat} {T : Int -> Int} {m : QM} {lim k : Int} (h : qsafe A J W Mo (qmove m (m.v + (m.a + k))) lim = false) : qok A J W Mo n T m lim k = false := by
 unfold qok; rw [h, Bool.and_false, Bool.and_false, Bool.and_false]
theorem qok_yes {A J : Int} {W : LL -> Bool} {Mo : LL -> LL} {n : Nat} {T : Int -> Int} {m : QM} {lim k : Int} (h0 : 0 <= m.v + (m.a + k)) (h1 : qready A J (m.v + (m.a + k)) (m.a + k) = true)
 (h2 : qfit A J n T (qmove m (m.v + (m.a + k))) = true) (h3 : qsafe A J W Mo (qmove m (m.v + (m.a + k))) lim = true) : qok A J W Mo n T m lim k = true := by
 unfold qok; rw [h1, h2, h3, decide_eq_true h0]; rfl
theorem qpick_skip {ok : Int -> Bool} {l : LL} {i : Nat} (h : i < l.length) (hk : ok (el l i) = false) : qpick ok (l.drop i) = qpick ok (l.drop (i + 1)) := by
 rw [drop_next l h [], qpick, if_neg (by show ¬ ok (el l i) = true; rw [hk]; simp)]
theorem qpick_take {ok : Int -> Bool} {l : LL} {i : Nat} (h : i < l.length) (hk : ok (el l i) = true) : qpick ok (l.drop i) = some (el l i) := by
 rw [drop_next l h [], qpick]; exact if_pos hk
theorem chg_len {J : Int} (h : 0 <= J /\ J <= 65536) : (chg J).length <= 200000 := by
 unfold chg ngl; have := hlv_len J.toNat J; simp; omega
theorem el_ngl {l : LL} {j : Nat} (h : j < l.length) : el (ngl l) j = -(el l j) := by
 unfold ngl el; simp [List.getD_eq_getElem?_getD, h]
theorem chg_bd {J : Int} (h : 0 <= J /\ J <= 65536) : Sm 65536 (chg J) := by
 intro j hj
 have hb := hlv_bd J.toNat (k := J) h.2
 have hr : ∀ i, i < (hlv J.toNat J).length -> ∃ k, k < (hlv J.toNat J).length /\ el (hlv J.toNat J).reverse i = el (hlv J.toNat J) k := fun i hi =>
  ⟨(hlv J.toNat J).length - 1 - i, by omega, by
   have : (hlv J.toNat J).reverse.getD i [] = (hlv J.toNat J).getD ((hlv J.toNat J).length - 1 - i) [] := by rw [List.getD_eq_getElem?_getD, List.getElem?_reverse hi, <- List.getD_eq_getElem?_getD]
   unfold el; rw [this]⟩
 unfold chg at hj ⊢
 rw [List.append_assoc, el_append]
 split
 . rename_i h1; have := hb j h1; omega
 . rw [el_append]
   split
   . rename_i h1 h2
     rw [show j - (hlv J.toNat J).length = 0 by simp at h2; omega]
     show -65536 <= (0 : Int) /\ (0 : Int) <= 65536
     omega
   . rename_i h1 h2
     simp [ngl] at hj h1 h2
     obtain ⟨k, k1, k2⟩ := hr (j - (hlv J.toNat J).length - 1) (by omega)
     rw [show List.length [[(0 : Int)]] = 1 from rfl, el_ngl (by simp; omega), k2]
     have := hb k k1
     omega
end U
namespace Go.Proofs.YtoekmphdpepdbaaGreat
open Go Go.HL U
attribute [local irreducible] hfun bodyT fragT
set_option maxHeartbeats 4000000 in
theorem loopNx : ∀ v Q, (LNx v).wp Q -> hloop CNx anNx (nthLoop Tryz.f34 0) v Q := by
 intro v Q h
 unfold LNx at h
 split at h
 case h_2 => exact h.elim
 rename_i lim y l len i s0 s1 s2 sg mk ax tr A J Rp fo ro ho so oo mu mv ma ml mp mb z0 z1 z2 z3 z4 z5 f0 f1 f2 f3 f4 f5
 split at h
 case h_2 => exact h.elim
 rename_i sta spa aca jea loa hia bla oga sga pta stb spb acb jeb lob hib blb ogb sgb ptb stc spc acc jec loc hic blc ogc sgc ptc
 split at h
 case h_2 => exact h.elim
 rename_i pk ln sa d0 d1 d2
 obtain ⟨⟨⟨hp, ha, hli⟩, hpl, hm, hlim, h1, h2, h3, h4, h5⟩, hq⟩ := h
 subst h1 h2 h3
 have hm' := hm
 obtain ⟨hu, hv, haa, hml, hmp⟩ := hm
 dsimp only at hu hv haa hml hmp
 have hU : okU mu := by unfold okU; omega
 refine hloop_rec (σ := Nat × QM) (fun s => ([.ce (I6 lim), .ce (.ptr 1000007 0), .ce (.ptr 1000008 0), .ce (.ptr 1000009 0), .ce (.ptr 1000010 0), .ce (.ptr 1000011 0), .ce (.ptr 1000012 0), .ce (.ptr 1000014 0), .ce (.ptr 1000015 0), .ce (.bool false), .ce (.sl false [4] l), .ce (I6 (l.length : Int)), .ce (I6 (s.1 : Int))],
  [[I6 s0, I6 s1, I6 s2, .sl false [4, 4, 4, 4, 4, 4, 4] sg, .sl false [4, 4, 4] mk], [I6 sta, I6 spa, I6 aca, I6 jea, I6 loa, I6 hia, I6 bla, I6 oga, I6 sga, .sl false [4] pta, I6 stb, I6 spb, I6 acb, I6 jeb, I6 lob, I6 hib, I6 blb, I6 ogb, I6 sgb, .sl false [4] ptb, I6 stc, I6 spc, I6 acc, I6 jec, I6 loc, I6 hic, I6 blc, I6 ogc, I6 sgc, .sl false [4] ptc], [.sl false [4, 4, 4, 4, 4, 4, 4, 4, 4, 4] pk, I6 ln, I6 sa, I6 d0, I6 d1, I6 d2], [I6 A, I6 J, I6 Rp], [I6 fo, I6 ro, .bool ho, .bool so, .bool oo], [I6 mu, I6 mv, I6 ma, I6 ml, I6 mp, I6 mb], [I6 z0, I6 z1, I6 z2, I6 z3, I6 z4, I6 z5], [I6 s.2.u, I6 s.2.v, I6 s.2.a, I6 s.2.l, I6 s.2.p, I6 s.2.b]]))
  (fun s => l.length - s.1) (fun s => s.1 <= l.length /\ qpick (qok A J (wth3 spa aca jea spb acb jeb spc acc jec) (qmot (mtr sta oga sga pta bla s0 sg 0 pk sa d0) (mtr stb ogb sgb ptb blb s1 sg 1 pk sa d1) (mtr stc ogc sgc ptc blc s2 sg 2 pk sa d2) ln) sg.length (qtg ho fo ro Rp sg pk sa ln) ⟨mu, mv, ma, ml, mp, mb⟩ lim) l =
   qpick (qok A J (wth3 spa aca jea spb acb jeb spc acc jec) (qmot (mtr sta oga sga pta bla s0 sg 0 pk sa d0) (mtr stb ogb sgb ptb blb s1 sg 1 pk sa d1) (mtr stc ogc sgc ptc blc s2 sg 2 pk sa d2) ln) sg.length (qtg ho fo ro Rp sg pk sa ln) ⟨mu, mv, ma, ml, mp, mb⟩ lim) (l.drop s.1)) ?_ (0, ⟨f0, f1, f2, f3, f4, f5⟩) ⟨Nat.zero_le _, rfl⟩
 rintro ⟨i, f⟩ ⟨hi, hI⟩ K hn hx hr
 dsimp only at hi hI hn ⊢
 refine byVB (vbNx s0 s1 s2 ln sa d0 d1 d2 A J Rp fo ro mu mv ma ml mp mb lim l.length i z0 z1 z2 z3 z4 z5 f.u f.v f.a f.l f.p f.b ho so oo false sg mk pk l sta spa aca jea loa hia bla oga sga stb spb acb jeb lob hib blb ogb sgb stc spc acc jec loc hic blc ogc sgc pta ptb ptc K) ⟨fun g => ?_, fun g => ?_⟩
 . have g := odt g
   have hil : i < l.length := by omega
   have hb := h5 i hil
   have sk := fun (f : QM) (k : Int) (ek : k = (i : Int) + 1) hk => hn (i + 1, f) ⟨hil, hI.trans (qpick_skip hil hk)⟩ (by dsimp only; omega)
   refine ⟨by omega, fun x1 e1 => ?_⟩
   have e1 : x1 = el l i := e1
   rw [<- e1] at hb sk
   have tk := fun hk => hI.trans (qpick_take hil hk)
   rw [<- e1] at tk
   clear hn
   refine ⟨by omega, fun x2 e2 => ⟨by omega, fun x3 e3 => ⟨fun g3 => ⟨by omega, fun x4 e4 => ?_⟩, fun g3 => ⟨by omega, fun x5 e5 => ⟨hpl, fun x6 e6 => ⟨fun g6 => ⟨by omega, fun x7 e7 => ?_⟩, fun g6 => ⟨by omega, fun x8 e8 => ⟨⟨hU, by omega, by omega⟩, ⟨_, rfl⟩, fun x ex => ?_⟩⟩⟩⟩⟩⟩⟩⟩
   . have g3 := odt g3
     have := sk f x4 e4 (qok_neg (by show mv + (ma + x1) < 0; omega))
     rw [show ((i + 1 : Nat) : Int) = x4 by omega] at this
     exact this
   . have := sk f x7 e7 (qok_nr (by show qready A J (mv + (ma + x1)) (ma + x1) = false; rw [<- e2, <- e5, <- e6]; cases x6 <;> simp at g6 ⊢))
     rw [show ((i + 1 : Nat) : Int) = x7 by omega] at this
     exact this
   . have g3 := odf g3
     have ex' : qmove ⟨mu, mv, ma, ml, mp, mb⟩ (mv + (ma + x1)) = x := by rw [ex, e8, e2]
     have hvr : qready A J (mv + (ma + x1)) (ma + x1) = true := by rw [<- e2, <- e5, <- e6]; cases x6 <;> simp at g6 ⊢
     have xu : x.u = mu + x8 := by rw [ex]; rfl
     have xl : x.l = mu := by rw [ex]; rfl
     have xp : x.p = ml := by rw [ex]; rfl
     have xb : x.b = mp := by rw [ex]; rfl
     refine ⟨⟨⟨hp.1, hp.2.2.1, hp.2.2.2⟩, hpl, by unfold okV; omega⟩, fun x10 e10 => ⟨fun g10 => ⟨⟨⟨hp, ha, hli⟩, hpl, ⟨by unfold okU; omega, by rw [xl]; exact hU, by rw [xp]; exact hml, by rw [xb]; exact hmp⟩, hlim⟩, fun x11 e11 => ⟨fun g11 => ?_, fun g11 => ⟨by omega, fun x12 e12 => ?_⟩⟩⟩, fun g10 => ⟨by omega, fun x13 e13 => ?_⟩⟩⟩
     . have := hq (true, x) (.inl ⟨x1, tk (qok_yes (by show 0 <= mv + (ma + x1); omega) hvr (by show qfit A J sg.length _ (qmove ⟨mu, mv, ma, ml, mp, mb⟩ (mv + (ma + x1))) = true; rw [ex', <- g10, e10]) (by show qsafe A J _ _ (qmove ⟨mu, mv, ma, ml, mp, mb⟩ (mv + (ma + x1))) lim = true; rw [ex', <- g11, e11])), by rw [<- ex']⟩)
       exact hx 0 _ this
     . have := sk x x12 e12 (qok_ns (by show qsafe A J _ _ (qmove ⟨mu, mv, ma, ml, mp, mb⟩ (mv + (ma + x1))) lim = false; rw [ex', <- g11, e11]))
       rw [show ((i + 1 : Nat) : Int) = x12 by omega] at this
       exact this
     . have := sk x x13 e13 (qok_nf (by show qfit A J sg.length _ (qmove ⟨mu, mv, ma, ml, mp, mb⟩ (mv + (ma + x1))) = false; rw [ex', <- g10, e10]))
       rw [show ((i + 1 : Nat) : Int) = x13 by omega] at this
       exact this
 . have g := odf g
   obtain rfl : i = l.length := by omega
   rw [List.drop_length] at hI
   exact hx 0 _ (hq (false, f) (.inr ⟨hI, rfl⟩))
set_option maxHeartbeats 4000000 in
theorem sNx : Sound Tryz.prog 34 SPNext := by
 refine sound_of (C := CNx) tabNx Tryz.func34 (by kernel_rfl) (by decide +kernel) (by kernel_rfl) rfl ⟨sChg, sQReady, sQMove, sFit, sSafe, sQBrake, trivial⟩ (loops1 (by kernel_rfl) (loopOK_of (an := anNx) (S := LNx) (by kernel_rfl) loopNx)) ?_
 intro hargs pars R h
 unfold SPNext at h
 split at h
 case h_2 => exfalso; exact h
 rename_i s0 s1 s2 sg mk ax pk ln sa d0 d1 d2 A J Rp fo ro ho so oo mu mv ma ml mp mb lim
 split at h
 case h_2 => exact h.elim
 rename_i sta spa aca jea loa hia bla oga sga pta stb spb acb jeb lob hib blb ogb sgb ptb stc spc acc jec loc hic blc ogc sgc ptc
 obtain ⟨⟨hpp, hpl, hm, hlim⟩, _, hR⟩ := h
 have hm' := hm
 obtain ⟨hu, hv, haa, hml, hmp⟩ := hm
 dsimp only at hu hv haa hml hmp
 have hJ : 0 <= J /\ J <= 65536 := by have := hpl.2.1; omega
 refine byVC (vcNx s0 s1 s2 ln sa d0 d1 d2 A J Rp fo ro mu mv ma ml mp mb lim ho so oo sg mk pk sta spa aca jea loa hia bla oga sga stb spb acb jeb lob hib blb ogb sgb stc spc acc jec loc hic blc ogc sgc pta ptb ptc R) ⟨hJ, ⟨_, rfl⟩, fun x e => ?_⟩
 subst e
 refine ⟨⟨hpp, hpl, hm', hlim, rfl, rfl, rfl, chg_len hJ, chg_bd hJ⟩, fun x hx => ⟨fun g => ?_, fun g => ⟨⟨hpl, by omega, by omega⟩, fun x3 e3 => ?_⟩⟩⟩
 . rcases hx with ⟨k, hk, ex⟩ | ⟨_, ex⟩
   . exact hR x.2 (by unfold qnext; rw [hk, ex])
   . rw [ex] at g; cases g
 . rcases hx with ⟨k, hk, ex⟩ | ⟨hk, _⟩
   . rw [ex] at g; cases g
   . have b := Go.Proofs.YtoekmphdpepdbaaGreat.qb_le (J := J) (v := mv) (qhi A J ma - (-ma - J)).toNat (l := -ma - J) (h := qhi A J ma)
     have hA := hpl.1
     have e9 : x3 = -(qbs J mv (qhi A J ma - (-ma - J)).toNat (-ma - J) (qhi A J ma)) := e3
     have hq9 : qhi A J ma <= 65536 := by unfold qhi; omega
     refine ⟨by omega, fun x4 e4 => ⟨⟨by unfold okU; omega, by omega, by omega⟩, ⟨_, rfl⟩, fun x ex => hR x ?_⟩⟩
     unfold qnext
     rw [hk, ex, e4, e3]
end Go.Proofs.YtoekmphdpepdbaaGreat
namespace U
open Go
def lsh (l : LL) : Bool := match l with | _ :: _ :: _ :: _ :: _ => true | _ => false
structure ShS where
 r : RunS
 A : Int
 J : Int
 R : Int
def okShop (x : ShS) : Prop := okRun x.r /\ x.r.f = 0 /\ (1 <= x.A /\ x.A <= 900) /\ (2 <= x.J /\ x.J <= 201) /\ (1 <= x.R /\ x.R <= 16000)
open Go.HL in
def shopC (x : ShS) : List HC := [.int .i64 x.r.s0, .int .i64 x.r.s1, .int .i64 x.r.s2, .sl false [4, 4, 4, 4, 4, 4, 4] x.r.sg, .sl false [4, 4, 4] x.r.mks, .int .i64 x.r.a.st, .int .i64 x.r.a.sp, .int .i64 x.r.a.ac, .int .i64 x.r.a.je, .int .i64 (-16777216), .int .i64 16777216, .int .i64 x.r.a.bl, .int .i64 x.r.a.og, .int .i64 x.r.a.sg, .sl false [4] x.r.a.pit, .int .i64 x.r.b.st, .int .i64 x.r.b.sp, .int .i64 x.r.b.ac, .int .i64 x.r.b.je, .int .i64 (-16777216), .int .i64 16777216, .int .i64 x.r.b.bl, .int .i64 x.r.b.og, .int .i64 x.r.b.sg, .sl false [4] x.r.b.pit, .int .i64 x.r.c.st, .int .i64 x.r.c.sp, .int .i64 x.r.c.ac, .int .i64 x.r.c.je, .int .i64 (-16777216), .int .i64 16777216, .int .i64 x.r.c.bl, .int .i64 x.r.c.og, .int .i64 x.r.c.sg, .sl false [4] x.r.c.pit, .sl false [4, 4, 4, 4, 4, 4, 4, 4, 4, 4] x.r.pk, .int .i64 x.r.ln, .int .i64 x.r.f, .int .i64 x.r.d0, .int .i64 x.r.d1, .int .i64 x.r.d2, .int .i64 x.A, .int .i64 x.J, .int .i64 x.R, .int .i64 x.r.ln]
open Go.HL in
def zShop : List HC := [.int .i64 0, .int .i64 0, .int .i64 0, .sl true [4, 4, 4, 4, 4, 4, 4] [], .sl true [4, 4, 4] [], .int .i64 0, .int .i64 0, .int .i64 0, .int .i64 0, .int .i64 0, .int .i64 0, .int .i64 0, .int .i64 0, .int .i64 0, .sl true [4] [], .int .i64 0, .int .i64 0, .int .i64 0, .int .i64 0, .int .i64 0, .int .i64 0, .int .i64 0, .int .i64 0, .int .i64 0, .sl true [4] [], .int .i64 0, .int .i64 0, .int .i64 0, .int .i64 0, .int .i64 0, .int .i64 0, .int .i64 0, .int .i64 0, .int .i64 0, .sl true [4] [], .sl true [4, 4, 4, 4, 4, 4, 4, 4, 4, 4] [], .int .i64 0, .int .i64 0, .int .i64 0, .int .i64 0, .int .i64 0, .int .i64 0, .int .i64 0, .int .i64 0, .int .i64 0]
end U
namespace Go.Proofs.YtoekmphdpepdbaaGreat
open Go Go.HL U
def SMotz (hA : List HV) (pA : List (List HC)) : SR :=
 match hA, pA with
 | [.ce (.sl false [4] l), .ce (.int .i64 m)], [] =>
  bif lsh l then .all (1 <= m /\ m <= 5 /\ l.length <= 9223372036854775807) (LL × Nat) (fun y => niceL y.1 /\ (0 < y.1.length /\ y.1.length <= 5) /\ y.1.length <= y.2 /\ y.2 <= maxLen) (fun y => ⟨.ce (.msl 500 y.1.length y.2), false, [], [[.arr [4, 4, 4, 4, 4, 4, 4, 4, 4, 4, 4, 4, 4, 0, 4, 0, 4, 4, 4, 4, 4, 0] y.1 y.2]]⟩)
  else .det (1 <= m /\ m <= 5 /\ l.length <= 9223372036854775807) ⟨.ce (.sl false [4, 4, 4, 4, 4, 4, 4, 4, 4, 4, 4, 4, 4, 0, 4, 0, 4, 4, 4, 4, 4, 0] []), false, [], [[]]⟩
 | _, _ => .fail
def tabMotz : List (FuncId × HL.Spec) := [(14, SFrom), (22, SNext), (21, SLeft), (64, SMot)]
def anMotz : LAnn := ⟨[1, 5, 6, 100006, 7], [6, 100006], [1000010, 1000007], false⟩
def LMotz (v : LV) : LR :=
 match v with
 | ([.ce (.int .i64 m), .ce (.ptr 1000010 0), .zs ks y, .ce (.lit true), .ce (.ptr 1000007 0)], [[.sl false [4] l, .int .i64 p], [.int .i64 a0, .int .i64 a1, .int .i64 a2]]) =>
  bif ksEq ks [4, 4, 4, 4, 4, 4, 4, 4, 4, 4, 4, 4, 4, 0, 4, 0, 4, 4, 4, 4, 4, 0] then
  .all ((1 <= m /\ m <= 5) /\ inSrc l p /\ y.length = 0 /\ b3 4 a0 a1 a2) (LL × Int × Int × Int × Int) (fun z => niceL z.1 /\ z.1.length <= 5 /\ (p < l.length -> 0 < z.1.length) /\ (¬ p < l.length -> z.1.length = 0)) (fun _ => .exit 0)
   (fun z => ([.zs [4, 4, 4, 4, 4, 4, 4, 4, 4, 4, 4, 4, 4, 0, 4, 0, 4, 4, 4, 4, 4, 0] z.1, .ce (.lit true)], [[.sl false [4] l, I6 z.2.1], [I6 z.2.2.1, I6 z.2.2.2.1, I6 z.2.2.2.2]]))
  else .fail
 | _ => .fail
noncomputable def CMotz : Ctx := ⟨Tryz.prog, gam tabMotz, Tryz.f35.ntmps, [(4, anMotz, LMotz)], [6]⟩
theorem vbMotz (m p a0 a1 a2 : Int) (y l : LL) (K : HEx -> LV -> Prop) : (nbodyT true CMotz anMotz (nthLoop Tryz.f35 0) (([.ce (I6 m), .ce (.ptr 1000010 0), .zs [4, 4, 4, 4, 4, 4, 4, 4, 4, 4, 4, 4, 4, 0, 4, 0, 4, 4, 4, 4, 4, 0] y, .ce (.lit true), .ce (.ptr 1000007 0)], [[.sl false [4] l, I6 p], [I6 a0, I6 a1, I6 a2]])) K) =
 ((decide ((y.length : Int) < m) = true -> True /\ ∀ (x1 : Bool), x1 = decide (p < (l.length : Int)) -> ∀ (x2 : LL), x2 = l -> ∀ x3, x3 = p -> (x1 = true -> ((0 : Int) < 5 /\ (5 : Int) <= 4611686018427387904 /\ inSrc x2 x3) /\ (∃ (x : Int × Int), drew x2 x3 (5 : Int) x) /\ ∀ (x : Int × Int), drew x2 x3 (5 : Int) x -> (0 <= x.1 /\ x.1 < 5) /\ ∀ x5, x5 = el [[(2 : Int)], [(2 : Int)], [(2 : Int)], [(3 : Int)], [(1 : Int)]] x.1.toNat -> (inSrc x2 x.2 /\ b3 65536 a0 a1 a2 /\ 1 <= x5 /\ x5 <= 3) /\ (∃ (x : It × Int), inSrc x2 x.2 /\ grown x5 a0 a1 a2 x.1) /\ ∀ (x : It × Int), inSrc x2 x.2 /\ grown x5 a0 a1 a2 x.1 -> ((y.length + 1) * 176 <= 140737488355328 /\ y.length + 1 <= maxLen) /\ K .normal ([.ce (I6 m), .ce (.ptr 1000010 0), .zs [4, 4, 4, 4, 4, 4, 4, 4, 4, 4, 4, 4, 4, 0, 4, 0, 4, 4, 4, 4, 4, 0] (y ++ [[x.1.k0, x.1.bk, x.1.f0, x.1.f1, x.1.f2, x.1.t0, x.1.t1, x.1.t2, x.1.pl, x.1.c0, x.1.c1, x.1.c2, x.1.dr, bif x.1.fu then (1 : Int) else (0 : Int), x.1.fd, bif x.1.pr then (1 : Int) else (0 : Int), x.1.sd, x.1.ra, x.1.bl, x.1.nn, x.1.sp, bif x.1.on then (1 : Int) else (0 : Int)]]), .ce (.lit true), .ce (.ptr 1000007 0)], [[.sl false [4] x2, I6 x.2], [I6 x.1.t0, I6 x.1.t1, I6 x.1.t2]])) /\
 (x1 = false -> K (.exit 0) ([.zs [4, 4, 4, 4, 4, 4, 4, 4, 4, 4, 4, 4, 4, 0, 4, 0, 4, 4, 4, 4, 4, 0] y, .ce (.lit true)], [[.sl false [4] x2, I6 x3], [I6 a0, I6 a1, I6 a2]]))) /\ (decide ((y.length : Int) < m) = false -> K (.exit 0) ([.zs [4, 4, 4, 4, 4, 4, 4, 4, 4, 4, 4, 4, 4, 0, 4, 0, 4, 4, 4, 4, 4, 0] y, .ce (.lit true)], [[.sl false [4] l, I6 p], [I6 a0, I6 a1, I6 a2]]))) := by kernel_rfl
theorem vcMotz (l : LL) (m : Int) (Q : Res -> Prop) : (nfun true CMotz Tryz.f35 (bodyOf Tryz.f35) [.ce (.sl false [4] l), .ce (I6 m)] [] Q) =
 (True /\ ∀ (x1 : LL), x1 = l -> ∀ (x2 : Int), x2 = 0 -> ((0 : Int) < 9 /\ (9 : Int) <= 4611686018427387904 /\ inSrc x1 x2) /\ (∃ (x : Int × Int), drew x1 x2 (9 : Int) x) /\ ∀ (x : Int × Int), drew x1 x2 (9 : Int) x -> R6 (x.1 - 4) /\ ∀ x4, x4 = x.1 - 4 -> ((0 : Int) < 9 /\ (9 : Int) <= 4611686018427387904 /\ inSrc x1 x.2) /\ (∃ (x_1 : Int × Int), drew x1 x.2 (9 : Int) x_1) /\ ∀ (x_1 : Int × Int), drew x1 x.2 (9 : Int) x_1 -> R6 (x_1.1 - 4) /\ ∀ x6, x6 = x_1.1 - 4 -> ((0 : Int) < 9 /\ (9 : Int) <= 4611686018427387904 /\ inSrc x1 x_1.2) /\ (∃ (x : Int × Int), drew x1 x_1.2 (9 : Int) x) /\ ∀ (x : Int × Int), drew x1 x_1.2 (9 : Int) x -> R6 (x.1 - 4) /\ ∀ x8, x8 = x.1 - 4 -> ((1 <= m /\
 m <= 5) /\ inSrc x1 x.2 /\ (0 : Nat) = 0 /\ b3 4 x4 x6 x8) /\ ∀ (x_2 : LL × Int × Int × Int × Int), niceL x_2.1 /\ List.length x_2.1 <= 5 /\ (x.2 < (x1.length : Int) -> (0 : Nat) < List.length x_2.1) /\ (¬x.2 < (x1.length : Int) -> List.length x_2.1 = 0) -> (List.length x_2.1 = 0 -> Q { val := .ce (.sl false [4, 4, 4, 4, 4, 4, 4, 4, 4, 4, 4, 4, 4, 0, 4, 0, 4, 4, 4, 4, 4, 0] []), own := false, pars := [], news := [[]] }) /\ ((0 : Nat) < List.length x_2.1 -> ∀ (cap : Nat), List.length x_2.1 <= cap /\ cap <= maxLen -> Q { val := .ce (.msl (500 : Nat) (List.length x_2.1) cap), own := false, pars := [], news := [[.arr [4, 4, 4, 4, 4, 4, 4, 4, 4, 4, 4, 4, 4, 0, 4, 0, 4, 4, 4, 4, 4, 0] x_2.1 cap]] })) := by kernel_rfl
def SPan (hA : List HV) (pA : List (List HC)) : SR :=
 match hA, pA with
 | [.ce (.ptr 0 0)], [[.sl false [4] l, .int .i64 p]] => .all (inSrc l p) (Int × Int × Bool × Bool × Bool × Int) (fun x => inSrc l x.2.2.2.2.2) (fun x => ⟨.agg [I6 x.1, I6 x.2.1, .bool x.2.2.1, .bool x.2.2.2.1, .bool x.2.2.2.2.1], false, [[.sl false [4] l, I6 x.2.2.2.2.2]], []⟩)
 | _, _ => .fail
def tabNx1 : List (FuncId × HL.Spec) := [(22, SNext)]
noncomputable def CPan : Ctx := ⟨Tryz.prog, gam tabNx1, Tryz.f13.ntmps, [], []⟩
theorem vcPan (l : LL) (p : Int) (Q : Res -> Prop) : (nfun true CPan Tryz.f13 (bodyOf Tryz.f13) [.ce (.ptr 0 0)] [[.sl false [4] l, I6 p]] Q) =
 (((0 : Int) < 6 /\ (6 : Int) <= 4611686018427387904 /\ inSrc l p) /\ (∃ (x : Int × Int), drew l p (6 : Int) x) /\ ∀ (x : Int × Int), drew l p (6 : Int) x -> (0 <= x.1 /\ x.1 < 6) /\ ∀ x2, x2 = el [[(100 : Int)], [(0 : Int)], [(1 : Int)], [(50 : Int)], [(200 : Int)], [(137 : Int)]] x.1.toNat -> ((0 : Int) < 4 /\ (4 : Int) <= 4611686018427387904 /\ inSrc l x.2) /\ (∃ (x_1 : Int × Int), drew l x.2 (4 : Int) x_1) /\ ∀ (x_1 : Int × Int), drew l x.2 (4 : Int) x_1 -> (0 <= x_1.1 /\ x_1.1 < 4) /\ ∀ x4, x4 = el [[(100 : Int)], [(0 : Int)], [(5 : Int)], [(50 : Int)]] x_1.1.toNat -> ((0 : Int) < 5 /\ (5 : Int) <= 4611686018427387904 /\ inSrc l x_1.2) /\ (∃ (x : Int × Int), drew l x_1.2 (5 : Int) x) /\ ∀ (x : Int × Int), drew l x_1.2 (5 : Int) x -> ((0 : Int) < 4 /\ (4 : Int) <= 4611686018427387904 /\ inSrc l x.2) /\ (∃ (x_2 : Int × Int), drew l x.2 (4 : Int) x_2) /\
 ∀ (x_2 : Int × Int), drew l x.2 (4 : Int) x_2 -> ((0 : Int) < 3 /\ (3 : Int) <= 4611686018427387904 /\ inSrc l x_2.2) /\ (∃ (x : Int × Int), drew l x_2.2 (3 : Int) x) /\ ∀ (x_3 : Int × Int), drew l x_2.2 (3 : Int) x_3 -> Q { val := .agg [I6 x2, I6 x4, .bool (x.1 == 4), .bool (x_2.1 == 3), .bool (x_3.1 == 2)], own := false, pars := [[.sl false [4] l, I6 x_3.2]], news := [] }) := by kernel_rfl
def SPla (hA : List HV) (pA : List (List HC)) : SR :=
 match hA, pA with
 | [.ce (.sl false [4] l)], [] => .all (l.length <= 9223372036854775807) (Int × Int × Int) (fun x => (1 <= x.1 /\ x.1 <= 900) /\ (2 <= x.2.1 /\ x.2.1 <= 201) /\ (1 <= x.2.2 /\ x.2.2 <= 16000)) (fun x => ⟨.agg [I6 x.1, I6 x.2.1, I6 x.2.2], false, [], []⟩)
 | _, _ => .fail
def tabPla : List (FuncId × HL.Spec) := [(14, SFrom), (22, SNext)]
noncomputable def CPla : Ctx := ⟨Tryz.prog, gam tabPla, Tryz.f38.ntmps, [], []⟩
theorem vcPla (l : LL) (Q : Res -> Prop) : (nfun true CPla Tryz.f38 (bodyOf Tryz.f38) [.ce (.sl false [4] l)] [] Q) =
 (True /\ ∀ (x1 : LL), x1 = l -> ∀ (x2 : Int), x2 = 0 -> ((0 : Int) < 900 /\ (900 : Int) <= 4611686018427387904 /\ inSrc x1 x2) /\ (∃ (x : Int × Int), drew x1 x2 (900 : Int) x) /\ ∀ (x : Int × Int), drew x1 x2 (900 : Int) x -> (-9223372036854775808 <= 1 + x.1 /\ (1 : Int) + x.1 <= 9223372036854775807) /\ ∀ x4, x4 = 1 + x.1 -> ((0 : Int) < 200 /\ (200 : Int) <= 4611686018427387904 /\ inSrc x1 x.2) /\ (∃ (x_1 : Int × Int), drew x1 x.2 (200 : Int) x_1) /\ ∀ (x_1 : Int × Int), drew x1 x.2 (200 : Int) x_1 -> (-9223372036854775808 <= 2 + x_1.1 /\ (2 : Int) + x_1.1 <= 9223372036854775807) /\ ∀ x6, x6 = 2 + x_1.1 -> ((0 : Int) < 16000 /\ (16000 : Int) <= 4611686018427387904 /\ inSrc x1 x_1.2) /\ (∃ (x : Int × Int), drew x1 x_1.2 (16000 : Int) x) /\ ∀ (x : Int × Int), drew x1 x_1.2 (16000 : Int) x -> (-9223372036854775808 <= 1 + x.1 /\
 (1 : Int) + x.1 <= 9223372036854775807) /\ ∀ x8, x8 = 1 + x.1 -> Q ⟨.agg [I6 x4, I6 x6, I6 x8], false, [], []⟩) := by kernel_rfl
def SMade (hA : List HV) (pA : List (List HC)) : SR :=
 match hA, pA with
 | [.ce (.sl false [4] l), .ce (.sl false [4] ax), .ce (.sl false [4] pl), .ce (.int .i64 ds), .ce (.bool fa)], [] =>
  .all (l.length <= 9223372036854775807 /\ ax.length <= 9223372036854775807 /\ pl.length <= 9223372036854775807) ShS okShop (fun x => ⟨.agg [I6 x.r.s0, I6 x.r.s1, I6 x.r.s2, .sl false [4, 4, 4, 4, 4, 4, 4] x.r.sg, .sl false [4, 4, 4] x.r.mks, I6 x.r.a.st, I6 x.r.a.sp, I6 x.r.a.ac, I6 x.r.a.je, I6 (-16777216), I6 16777216, I6 x.r.a.bl, I6 x.r.a.og, I6 x.r.a.sg, .sl false [4] x.r.a.pit, I6 x.r.b.st, I6 x.r.b.sp, I6 x.r.b.ac, I6 x.r.b.je, I6 (-16777216), I6 16777216, I6 x.r.b.bl, I6 x.r.b.og, I6 x.r.b.sg, .sl false [4] x.r.b.pit, I6 x.r.c.st, I6 x.r.c.sp, I6 x.r.c.ac, I6 x.r.c.je, I6 (-16777216), I6 16777216, I6 x.r.c.bl, I6 x.r.c.og, I6 x.r.c.sg, .sl false [4] x.r.c.pit, .sl false [4, 4, 4, 4, 4, 4, 4, 4, 4, 4] x.r.pk, I6 x.r.ln, I6 x.r.f, I6 x.r.d0, I6 x.r.d1, I6 x.r.d2, I6 x.A, I6 x.J, I6 x.R, I6 x.r.ln], false, [], []⟩)
 | _, _ => .fail
def tabMade : List (FuncId × HL.Spec) := [(35, SMotz), (36, SBuild), (37, SAxes), (38, SPla), (41, SPLen), (40, SDirs), (39, SLeg)]
def anMade : LAnn := ⟨[1, 2, 3, 4, 10, 11, 17, 18], [1, 2, 3, 10, 11], [1000010, 1000015], false⟩
def LMade (v : LV) : LR :=
 match v with
 | ([.ce (.sl false [4] ax), .ce (.sl false [4] pl), .ce (.int .i64 ds), .ce (.bool fa), .ce (.ptr 1000010 0), it, .ce (.int .i64 len), .ce (.int .i64 i)], [rb, ib]) =>
  match it, ib with
  | .ce (.msl 1000015 n cap), [.arr ks rows d] =>
   bif ksEq ks [4, 4, 4, 4, 4, 4, 4, 4, 4, 4, 4, 4, 4, 0, 4, 0, 4, 4, 4, 4, 4, 0] then .all (n = rows.length /\ len = n /\ i = 0 /\ niceL rows /\ rows.length <= 5 /\ rb = zShop) (LL) (fun y => niceL y /\ y.length = rows.length) (fun _ => .exit 0)
    (fun y => ([.ce (.sl false [4] ax), .ce (.sl false [4] pl), .ce (I6 ds), .ce (.ptr 1000010 0), .ce (.msl 1000015 n cap)], [rb, [.arr [4, 4, 4, 4, 4, 4, 4, 4, 4, 4, 4, 4, 4, 0, 4, 0, 4, 4, 4, 4, 4, 0] y d]])) else .fail
  | .ce (.sl false ks rows), [] =>
   bif ksEq ks [4, 4, 4, 4, 4, 4, 4, 4, 4, 4, 4, 4, 4, 0, 4, 0, 4, 4, 4, 4, 4, 0] then .det (rows.length = 0 /\ len = 0 /\ i = 0 /\ rb = zShop) (.exit 0) ([.ce (.sl false [4] ax), .ce (.sl false [4] pl), .ce (I6 ds), .ce (.ptr 1000010 0), .ce (.sl false [4, 4, 4, 4, 4, 4, 4, 4, 4, 4, 4, 4, 4, 0, 4, 0, 4, 4, 4, 4, 4, 0] [])], [rb, []]) else .fail
  | _, _ => .fail
 | _ => .fail
noncomputable def CMade : Ctx := ⟨Tryz.prog, gam tabMade, Tryz.f12.ntmps, [(3, anMade, LMade)], [36]⟩
theorem vbMade (ax pl rows : LL) (ds len i : Int) (fa : Bool) (n cap d : Nat) (K : HEx -> LV -> Prop) : (nbodyT true CMade anMade (nthLoop Tryz.f12 0) (([.ce (.sl false [4] ax), .ce (.sl false [4] pl), .ce (I6 ds), .ce (.bool fa), .ce (.ptr 1000010 0), .ce (.msl 1000015 n cap), .ce (I6 len), .ce (I6 i)], [[I6 0, I6 0, I6 0, .sl true [4, 4, 4, 4, 4, 4, 4] [], .sl true [4, 4, 4] [], I6 0, I6 0, I6 0, I6 0, I6 0, I6 0, I6 0, I6 0, I6 0, .sl true [4] [], I6 0, I6 0, I6 0, I6 0, I6 0, I6 0, I6 0, I6 0, I6 0, .sl true [4] [], I6 0, I6 0, I6 0, I6 0, I6 0, I6 0, I6 0, I6 0, I6 0, .sl true [4] [], .sl true [4, 4, 4, 4, 4, 4, 4, 4, 4, 4] [], I6 0, I6 0, I6 0, I6 0, I6 0, I6 0, I6 0, I6 0, I6 0], [.arr [4, 4, 4, 4, 4, 4, 4, 4, 4, 4, 4, 4, 4, 0, 4, 0, 4, 4, 4, 4, 4, 0] rows d]])) K) =
 ((decide (i < len) = true -> (fa = true -> (0 <= i /\ i < ((n : Nat) : Int)) /\ i.toNat < rows.length /\ ∀ x1, x1 = el rows i.toNat -> ((x1 != 1) = true -> (0 <= i /\ i < ((n : Nat) : Int)) /\ i.toNat < rows.length /\ R6 (i + 1) /\ ∀ x2, x2 = i + 1 -> K .normal ([.ce (.sl false [4] ax), .ce (.sl false [4] pl), .ce (I6 ds), .ce (.bool fa), .ce (.ptr 1000010 0), .ce (.msl (1000015 : Nat) n cap), .ce (I6 len), .ce (I6 x2)], [zShop, [.arr [4, 4, 4, 4, 4, 4, 4, 4, 4, 4, 4, 4, 4, 0, 4, 0, 4, 4, 4, 4, 4, 0] (List.set rows i.toNat [bif false && true then (2000000 : Int) else el rows i.toNat, bif false && true then (2000000 : Int) else ec rows i.toNat 1, bif false && true then (2000000 : Int) else ec rows i.toNat 2, bif false && true then (2000000 : Int) else ec rows i.toNat 3, bif false && true then (2000000 : Int) else ec rows i.toNat 4, bif false && true then (2000000 : Int) else ec rows i.toNat 5, bif false && true then (2000000 : Int) else ec rows i.toNat 6, bif false && true then (2000000 : Int) else ec rows i.toNat 7, bif false && true then (2000000 : Int) else ec rows i.toNat 8, bif false && true then (2000000 : Int) else ec rows i.toNat 9, bif false && true then (2000000 : Int) else ec rows i.toNat 10, bif false && true then (2000000 : Int) else ec rows i.toNat 11, bif false && true then (2000000 : Int) else ec rows i.toNat 12, bif false && true then (2000000 : Int) else ec rows i.toNat 13, bif true && true then (2000000 : Int) else ec rows i.toNat 14, bif true && false then (0 : Int) else ec rows i.toNat 15, bif true && false then (0 : Int) else ec rows i.toNat 16, bif true && false then (0 : Int) else ec rows i.toNat 17, bif true && false then (0 : Int) else ec rows i.toNat 18, bif true && false then (0 : Int) else ec rows i.toNat 19, bif true && false then (0 : Int) else ec rows i.toNat 20, bif true && false then (0 : Int) else ec rows i.toNat 21]) d]])) /\
 ((x1 != 1) = false -> R6 (i + 1) /\ ∀ x3, x3 = i + 1 -> K .normal ([.ce (.sl false [4] ax), .ce (.sl false [4] pl), .ce (I6 ds), .ce (.bool fa), .ce (.ptr 1000010 0), .ce (.msl (1000015 : Nat) n cap), .ce (I6 len), .ce (I6 x3)], [zShop, [.arr [4, 4, 4, 4, 4, 4, 4, 4, 4, 4, 4, 4, 4, 0, 4, 0, 4, 4, 4, 4, 4, 0] rows d]]))) /\
 (fa = false -> R6 (i + 1) /\ ∀ x4, x4 = i + 1 -> K .normal ([.ce (.sl false [4] ax), .ce (.sl false [4] pl), .ce (I6 ds), .ce (.bool fa), .ce (.ptr 1000010 0), .ce (.msl (1000015 : Nat) n cap), .ce (I6 len), .ce (I6 x4)], [zShop, [.arr [4, 4, 4, 4, 4, 4, 4, 4, 4, 4, 4, 4, 4, 0, 4, 0, 4, 4, 4, 4, 4, 0] rows d]]))) /\
 (decide (i < len) = false -> K (.exit 0) ([.ce (.sl false [4] ax), .ce (.sl false [4] pl), .ce (I6 ds), .ce (.ptr 1000010 0), .ce (.msl (1000015 : Nat) n cap)], [zShop, [.arr [4, 4, 4, 4, 4, 4, 4, 4, 4, 4, 4, 4, 4, 0, 4, 0, 4, 4, 4, 4, 4, 0] rows d]]))) := by kernel_rfl
theorem vbMadeS (ax pl : LL) (ds : Int) (fa : Bool) (K : HEx -> LV -> Prop) : (nbodyT true CMade anMade (nthLoop Tryz.f12 0) (([.ce (.sl false [4] ax), .ce (.sl false [4] pl), .ce (I6 ds), .ce (.bool fa), .ce (.ptr 1000010 0), .ce (.sl false [4, 4, 4, 4, 4, 4, 4, 4, 4, 4, 4, 4, 4, 0, 4, 0, 4, 4, 4, 4, 4, 0] []), .ce (I6 0), .ce (I6 0)], [[I6 0, I6 0, I6 0, .sl true [4, 4, 4, 4, 4, 4, 4] [], .sl true [4, 4, 4] [], I6 0, I6 0, I6 0, I6 0, I6 0, I6 0, I6 0, I6 0, I6 0, .sl true [4] [], I6 0, I6 0, I6 0, I6 0, I6 0, I6 0, I6 0, I6 0, I6 0, .sl true [4] [], I6 0, I6 0, I6 0, I6 0, I6 0, I6 0, I6 0, I6 0, I6 0, .sl true [4] [], .sl true [4, 4, 4, 4, 4, 4, 4, 4, 4, 4] [], I6 0, I6 0, I6 0, I6 0, I6 0, I6 0, I6 0, I6 0, I6 0], []])) K) =
 ((decide ((0 : Int) < 0) = true -> (fa = true -> ((0 : Int) <= 0 /\ (0 : Int) < 0) /\ ∀ (x1 : Int), x1 = 0 -> ((x1 != 1) = true -> ((0 : Int) <= 0 /\ (0 : Int) < 0) /\ False) /\ ((x1 != 1) = false -> (-9223372036854775808 <= 1 /\ (1 : Int) <= 9223372036854775807) /\ ∀ (x2 : Int), x2 = 1 -> K .normal ([.ce (.sl false [4] ax), .ce (.sl false [4] pl), .ce (I6 ds), .ce (.bool fa), .ce (.ptr 1000010 0), .ce (.sl false [4, 4, 4, 4, 4, 4, 4, 4, 4, 4, 4, 4, 4, 0, 4, 0, 4, 4, 4, 4, 4, 0] []), .ce (I6 0), .ce (I6 x2)], [zShop, []]))) /\
 (fa = false -> (-9223372036854775808 <= 1 /\ (1 : Int) <= 9223372036854775807) /\ ∀ (x3 : Int), x3 = 1 -> K .normal ([.ce (.sl false [4] ax), .ce (.sl false [4] pl), .ce (I6 ds), .ce (.bool fa), .ce (.ptr 1000010 0), .ce (.sl false [4, 4, 4, 4, 4, 4, 4, 4, 4, 4, 4, 4, 4, 0, 4, 0, 4, 4, 4, 4, 4, 0] []), .ce (I6 0), .ce (I6 x3)], [zShop, []]))) /\
 (decide ((0 : Int) < 0) = false -> K (.exit 0) ([.ce (.sl false [4] ax), .ce (.sl false [4] pl), .ce (I6 ds), .ce (.ptr 1000010 0), .ce (.sl false [4, 4, 4, 4, 4, 4, 4, 4, 4, 4, 4, 4, 4, 0, 4, 0, 4, 4, 4, 4, 4, 0] [])], [zShop, []]))) := by kernel_rfl
theorem vcMade0 (ax pl : LL) (ds : Int) (fa : Bool) (Q : Res -> Prop) : (nfun true CMade Tryz.f12 (bodyOf Tryz.f12) [.ce (.sl false [4] []), .ce (.sl false [4] ax), .ce (.sl false [4] pl), .ce (I6 ds), .ce (.bool fa)] [] Q) =
 (((1 : Int) <= 4 /\ (4 : Int) <= 5 /\ (0 : Nat) <= 9223372036854775807) /\ ∀ (x1 : LL), x1 = [] -> (x1.length = 0 /\ (x1.length : Int) = 0 /\ (0 : Int) = 0 /\ zShop = zShop) /\ (niceL [] /\
 (0 : Nat) <= 5) /\ (∃ (x : BSt × Int), okB (355000 : Nat) x.1) /\ ∀ (x : BSt × Int), okB (355000 : Nat) x.1 -> ax.length <= 9223372036854775807 /\ (∃ (x : AxV × AxV × AxV), okAx x.1 /\ okAx x.snd.1 /\ okAx x.snd.2) /\ ∀ (x_1 : AxV × AxV × AxV), okAx x_1.1 /\ okAx x_1.snd.1 /\ okAx x_1.snd.2 -> pl.length <= 9223372036854775807 /\ (∃ (x : Int × Int × Int), (1 <= x.1 /\ x.1 <= 900) /\ (2 <= x.snd.1 /\ x.snd.1 <= 201) /\ 1 <= x.snd.2 /\ x.snd.2 <= 16000) /\ ∀ (x_2 : Int × Int × Int), (1 <= x_2.1 /\ x_2.1 <= 900) /\ (2 <= x_2.snd.1 /\ x_2.snd.1 <= 201) /\ 1 <= x_2.snd.2 /\ x_2.snd.2 <= 16000 -> True /\ (∃ (x : Int × Int × Int), pm x.1 /\ pm x.snd.1 /\ pm x.snd.2) /\ ∀ (x_3 : Int × Int × Int), pm x_3.1 /\ pm x_3.snd.1 /\ pm x_3.snd.2 -> okLen x.1.sg /\ ∀ x6, x6 = plen x.1.sg -> (okLen x.1.sg /\ okPts x.1.s0 x.1.s1 x.1.s2 x.1.sg /\ okB3 x_1.1.bl x_1.snd.1.bl x_1.snd.2.bl) /\ (∃ (x_4 : LegS), x_4 = leg x.1.s0 x.1.s1 x.1.s2 x.1.sg x_1.1.bl x_1.snd.1.bl x_1.snd.2.bl x_3.1 x_3.snd.1 x_3.snd.2 (clamp (plen x.1.sg) (0 : Int)) (clamp (plen x.1.sg) x6)) /\
 ∀ (x_4 : LegS), x_4 = leg x.1.s0 x.1.s1 x.1.s2 x.1.sg x_1.1.bl x_1.snd.1.bl x_1.snd.2.bl x_3.1 x_3.snd.1 x_3.snd.2 (clamp (plen x.1.sg) (0 : Int)) (clamp (plen x.1.sg) x6) -> Q ⟨.agg [I6 x.1.s0, I6 x.1.s1, I6 x.1.s2, .sl false [4, 4, 4, 4, 4, 4, 4] x.1.sg, .sl false [4, 4, 4] x.1.mks, I6 x_1.1.st, I6 x_1.1.sp, I6 x_1.1.ac, I6 x_1.1.je, I6 (-16777216), I6 16777216, I6 x_1.1.bl, I6 x_1.1.og, I6 x_1.1.sg, .sl false [4] x_1.1.pit, I6 x_1.snd.1.st, I6 x_1.snd.1.sp, I6 x_1.snd.1.ac, I6 x_1.snd.1.je, I6 (-16777216), I6 16777216, I6 x_1.snd.1.bl, I6 x_1.snd.1.og, I6 x_1.snd.1.sg, .sl false [4] x_1.snd.1.pit, I6 x_1.snd.2.st, I6 x_1.snd.2.sp, I6 x_1.snd.2.ac, I6 x_1.snd.2.je, I6 (-16777216), I6 16777216, I6 x_1.snd.2.bl, I6 x_1.snd.2.og, I6 x_1.snd.2.sg, .sl false [4] x_1.snd.2.pit, .sl false [4, 4, 4, 4, 4, 4, 4, 4, 4, 4] x_4.pk, I6 x_4.ln, I6 (clamp (plen x.1.sg) (0 : Int)), I6 x_3.1, I6 x_3.snd.1, I6 x_3.snd.2, I6 x_2.1, I6 x_2.snd.1, I6 x_2.snd.2, I6 x_4.ln], false, [], []⟩) := by kernel_rfl
theorem vcMade1 (e1 : List Int) (ax pl : LL) (ds : Int) (fa : Bool) (Q : Res -> Prop) : (nfun true CMade Tryz.f12 (bodyOf Tryz.f12) [.ce (.sl false [4] [e1]), .ce (.sl false [4] ax), .ce (.sl false [4] pl), .ce (I6 ds), .ce (.bool fa)] [] Q) =
 (((1 : Int) <= 4 /\ (4 : Int) <= 5 /\ (1 : Nat) <= 9223372036854775807) /\ ∀ (x1 : LL), x1 = [] -> (x1.length = 0 /\ (x1.length : Int) = 0 /\ (0 : Int) = 0 /\ zShop = zShop) /\ (niceL [] /\
 (0 : Nat) <= 5) /\ (∃ (x : BSt × Int), okB (355000 : Nat) x.1) /\ ∀ (x : BSt × Int), okB (355000 : Nat) x.1 -> ax.length <= 9223372036854775807 /\ (∃ (x : AxV × AxV × AxV), okAx x.1 /\ okAx x.snd.1 /\ okAx x.snd.2) /\ ∀ (x_1 : AxV × AxV × AxV), okAx x_1.1 /\ okAx x_1.snd.1 /\ okAx x_1.snd.2 -> pl.length <= 9223372036854775807 /\ (∃ (x : Int × Int × Int), (1 <= x.1 /\ x.1 <= 900) /\ (2 <= x.snd.1 /\ x.snd.1 <= 201) /\ 1 <= x.snd.2 /\ x.snd.2 <= 16000) /\ ∀ (x_2 : Int × Int × Int), (1 <= x_2.1 /\ x_2.1 <= 900) /\ (2 <= x_2.snd.1 /\ x_2.snd.1 <= 201) /\ 1 <= x_2.snd.2 /\ x_2.snd.2 <= 16000 -> True /\ (∃ (x : Int × Int × Int), pm x.1 /\ pm x.snd.1 /\ pm x.snd.2) /\ ∀ (x_3 : Int × Int × Int), pm x_3.1 /\ pm x_3.snd.1 /\ pm x_3.snd.2 -> okLen x.1.sg /\ ∀ x6, x6 = plen x.1.sg -> (okLen x.1.sg /\ okPts x.1.s0 x.1.s1 x.1.s2 x.1.sg /\ okB3 x_1.1.bl x_1.snd.1.bl x_1.snd.2.bl) /\ (∃ (x_4 : LegS), x_4 = leg x.1.s0 x.1.s1 x.1.s2 x.1.sg x_1.1.bl x_1.snd.1.bl x_1.snd.2.bl x_3.1 x_3.snd.1 x_3.snd.2 (clamp (plen x.1.sg) (0 : Int)) (clamp (plen x.1.sg) x6)) /\
 ∀ (x_4 : LegS), x_4 = leg x.1.s0 x.1.s1 x.1.s2 x.1.sg x_1.1.bl x_1.snd.1.bl x_1.snd.2.bl x_3.1 x_3.snd.1 x_3.snd.2 (clamp (plen x.1.sg) (0 : Int)) (clamp (plen x.1.sg) x6) -> Q ⟨.agg [I6 x.1.s0, I6 x.1.s1, I6 x.1.s2, .sl false [4, 4, 4, 4, 4, 4, 4] x.1.sg, .sl false [4, 4, 4] x.1.mks, I6 x_1.1.st, I6 x_1.1.sp, I6 x_1.1.ac, I6 x_1.1.je, I6 (-16777216), I6 16777216, I6 x_1.1.bl, I6 x_1.1.og, I6 x_1.1.sg, .sl false [4] x_1.1.pit, I6 x_1.snd.1.st, I6 x_1.snd.1.sp, I6 x_1.snd.1.ac, I6 x_1.snd.1.je, I6 (-16777216), I6 16777216, I6 x_1.snd.1.bl, I6 x_1.snd.1.og, I6 x_1.snd.1.sg, .sl false [4] x_1.snd.1.pit, I6 x_1.snd.2.st, I6 x_1.snd.2.sp, I6 x_1.snd.2.ac, I6 x_1.snd.2.je, I6 (-16777216), I6 16777216, I6 x_1.snd.2.bl, I6 x_1.snd.2.og, I6 x_1.snd.2.sg, .sl false [4] x_1.snd.2.pit, .sl false [4, 4, 4, 4, 4, 4, 4, 4, 4, 4] x_4.pk, I6 x_4.ln, I6 (clamp (plen x.1.sg) (0 : Int)), I6 x_3.1, I6 x_3.snd.1, I6 x_3.snd.2, I6 x_2.1, I6 x_2.snd.1, I6 x_2.snd.2, I6 x_4.ln], false, [], []⟩) := by kernel_rfl
theorem vcMade2 (e1 e2 : List Int) (ax pl : LL) (ds : Int) (fa : Bool) (Q : Res -> Prop) : (nfun true CMade Tryz.f12 (bodyOf Tryz.f12) [.ce (.sl false [4] [e1, e2]), .ce (.sl false [4] ax), .ce (.sl false [4] pl), .ce (I6 ds), .ce (.bool fa)] [] Q) =
 (((1 : Int) <= 4 /\ (4 : Int) <= 5 /\ (2 : Nat) <= 9223372036854775807) /\ ∀ (x1 : LL), x1 = [] -> (x1.length = 0 /\ (x1.length : Int) = 0 /\ (0 : Int) = 0 /\ zShop = zShop) /\ (niceL [] /\
 (0 : Nat) <= 5) /\ (∃ (x : BSt × Int), okB (355000 : Nat) x.1) /\ ∀ (x : BSt × Int), okB (355000 : Nat) x.1 -> ax.length <= 9223372036854775807 /\ (∃ (x : AxV × AxV × AxV), okAx x.1 /\ okAx x.snd.1 /\ okAx x.snd.2) /\ ∀ (x_1 : AxV × AxV × AxV), okAx x_1.1 /\ okAx x_1.snd.1 /\ okAx x_1.snd.2 -> pl.length <= 9223372036854775807 /\ (∃ (x : Int × Int × Int), (1 <= x.1 /\ x.1 <= 900) /\ (2 <= x.snd.1 /\ x.snd.1 <= 201) /\ 1 <= x.snd.2 /\ x.snd.2 <= 16000) /\ ∀ (x_2 : Int × Int × Int), (1 <= x_2.1 /\ x_2.1 <= 900) /\ (2 <= x_2.snd.1 /\ x_2.snd.1 <= 201) /\ 1 <= x_2.snd.2 /\ x_2.snd.2 <= 16000 -> True /\ (∃ (x : Int × Int × Int), pm x.1 /\ pm x.snd.1 /\ pm x.snd.2) /\ ∀ (x_3 : Int × Int × Int), pm x_3.1 /\ pm x_3.snd.1 /\ pm x_3.snd.2 -> okLen x.1.sg /\ ∀ x6, x6 = plen x.1.sg -> (okLen x.1.sg /\ okPts x.1.s0 x.1.s1 x.1.s2 x.1.sg /\ okB3 x_1.1.bl x_1.snd.1.bl x_1.snd.2.bl) /\ (∃ (x_4 : LegS), x_4 = leg x.1.s0 x.1.s1 x.1.s2 x.1.sg x_1.1.bl x_1.snd.1.bl x_1.snd.2.bl x_3.1 x_3.snd.1 x_3.snd.2 (clamp (plen x.1.sg) (0 : Int)) (clamp (plen x.1.sg) x6)) /\
 ∀ (x_4 : LegS), x_4 = leg x.1.s0 x.1.s1 x.1.s2 x.1.sg x_1.1.bl x_1.snd.1.bl x_1.snd.2.bl x_3.1 x_3.snd.1 x_3.snd.2 (clamp (plen x.1.sg) (0 : Int)) (clamp (plen x.1.sg) x6) -> Q ⟨.agg [I6 x.1.s0, I6 x.1.s1, I6 x.1.s2, .sl false [4, 4, 4, 4, 4, 4, 4] x.1.sg, .sl false [4, 4, 4] x.1.mks, I6 x_1.1.st, I6 x_1.1.sp, I6 x_1.1.ac, I6 x_1.1.je, I6 (-16777216), I6 16777216, I6 x_1.1.bl, I6 x_1.1.og, I6 x_1.1.sg, .sl false [4] x_1.1.pit, I6 x_1.snd.1.st, I6 x_1.snd.1.sp, I6 x_1.snd.1.ac, I6 x_1.snd.1.je, I6 (-16777216), I6 16777216, I6 x_1.snd.1.bl, I6 x_1.snd.1.og, I6 x_1.snd.1.sg, .sl false [4] x_1.snd.1.pit, I6 x_1.snd.2.st, I6 x_1.snd.2.sp, I6 x_1.snd.2.ac, I6 x_1.snd.2.je, I6 (-16777216), I6 16777216, I6 x_1.snd.2.bl, I6 x_1.snd.2.og, I6 x_1.snd.2.sg, .sl false [4] x_1.snd.2.pit, .sl false [4, 4, 4, 4, 4, 4, 4, 4, 4, 4] x_4.pk, I6 x_4.ln, I6 (clamp (plen x.1.sg) (0 : Int)), I6 x_3.1, I6 x_3.snd.1, I6 x_3.snd.2, I6 x_2.1, I6 x_2.snd.1, I6 x_2.snd.2, I6 x_4.ln], false, [], []⟩) := by kernel_rfl
theorem vcMade3 (e1 e2 e3 : List Int) (ax pl : LL) (ds : Int) (fa : Bool) (Q : Res -> Prop) : (nfun true CMade Tryz.f12 (bodyOf Tryz.f12) [.ce (.sl false [4] [e1, e2, e3]), .ce (.sl false [4] ax), .ce (.sl false [4] pl), .ce (I6 ds), .ce (.bool fa)] [] Q) =
 (((1 : Int) <= 4 /\ (4 : Int) <= 5 /\ (3 : Nat) <= 9223372036854775807) /\ ∀ (x1 : LL), x1 = [] -> (x1.length = 0 /\ (x1.length : Int) = 0 /\ (0 : Int) = 0 /\ zShop = zShop) /\ (niceL [] /\
 (0 : Nat) <= 5) /\ (∃ (x : BSt × Int), okB (355000 : Nat) x.1) /\ ∀ (x : BSt × Int), okB (355000 : Nat) x.1 -> ax.length <= 9223372036854775807 /\ (∃ (x : AxV × AxV × AxV), okAx x.1 /\ okAx x.snd.1 /\ okAx x.snd.2) /\ ∀ (x_1 : AxV × AxV × AxV), okAx x_1.1 /\ okAx x_1.snd.1 /\ okAx x_1.snd.2 -> pl.length <= 9223372036854775807 /\ (∃ (x : Int × Int × Int), (1 <= x.1 /\ x.1 <= 900) /\ (2 <= x.snd.1 /\ x.snd.1 <= 201) /\ 1 <= x.snd.2 /\ x.snd.2 <= 16000) /\ ∀ (x_2 : Int × Int × Int), (1 <= x_2.1 /\ x_2.1 <= 900) /\ (2 <= x_2.snd.1 /\ x_2.snd.1 <= 201) /\ 1 <= x_2.snd.2 /\ x_2.snd.2 <= 16000 -> True /\ (∃ (x : Int × Int × Int), pm x.1 /\ pm x.snd.1 /\ pm x.snd.2) /\ ∀ (x_3 : Int × Int × Int), pm x_3.1 /\ pm x_3.snd.1 /\ pm x_3.snd.2 -> okLen x.1.sg /\ ∀ x6, x6 = plen x.1.sg -> (okLen x.1.sg /\ okPts x.1.s0 x.1.s1 x.1.s2 x.1.sg /\ okB3 x_1.1.bl x_1.snd.1.bl x_1.snd.2.bl) /\ (∃ (x_4 : LegS), x_4 = leg x.1.s0 x.1.s1 x.1.s2 x.1.sg x_1.1.bl x_1.snd.1.bl x_1.snd.2.bl x_3.1 x_3.snd.1 x_3.snd.2 (clamp (plen x.1.sg) (0 : Int)) (clamp (plen x.1.sg) x6)) /\
 ∀ (x_4 : LegS), x_4 = leg x.1.s0 x.1.s1 x.1.s2 x.1.sg x_1.1.bl x_1.snd.1.bl x_1.snd.2.bl x_3.1 x_3.snd.1 x_3.snd.2 (clamp (plen x.1.sg) (0 : Int)) (clamp (plen x.1.sg) x6) -> Q ⟨.agg [I6 x.1.s0, I6 x.1.s1, I6 x.1.s2, .sl false [4, 4, 4, 4, 4, 4, 4] x.1.sg, .sl false [4, 4, 4] x.1.mks, I6 x_1.1.st, I6 x_1.1.sp, I6 x_1.1.ac, I6 x_1.1.je, I6 (-16777216), I6 16777216, I6 x_1.1.bl, I6 x_1.1.og, I6 x_1.1.sg, .sl false [4] x_1.1.pit, I6 x_1.snd.1.st, I6 x_1.snd.1.sp, I6 x_1.snd.1.ac, I6 x_1.snd.1.je, I6 (-16777216), I6 16777216, I6 x_1.snd.1.bl, I6 x_1.snd.1.og, I6 x_1.snd.1.sg, .sl false [4] x_1.snd.1.pit, I6 x_1.snd.2.st, I6 x_1.snd.2.sp, I6 x_1.snd.2.ac, I6 x_1.snd.2.je, I6 (-16777216), I6 16777216, I6 x_1.snd.2.bl, I6 x_1.snd.2.og, I6 x_1.snd.2.sg, .sl false [4] x_1.snd.2.pit, .sl false [4, 4, 4, 4, 4, 4, 4, 4, 4, 4] x_4.pk, I6 x_4.ln, I6 (clamp (plen x.1.sg) (0 : Int)), I6 x_3.1, I6 x_3.snd.1, I6 x_3.snd.2, I6 x_2.1, I6 x_2.snd.1, I6 x_2.snd.2, I6 x_4.ln], false, [], []⟩) := by kernel_rfl
theorem vcMade4 (e1 e2 e3 e4 : List Int) (l ax pl : LL) (ds : Int) (fa : Bool) (Q : Res -> Prop) : (nfun true CMade Tryz.f12 (bodyOf Tryz.f12) [.ce (.sl false [4] (e1 :: e2 :: e3 :: e4 :: l)), .ce (.sl false [4] ax), .ce (.sl false [4] pl), .ce (I6 ds), .ce (.bool fa)] [] Q) =
 (((1 : Int) <= 4 /\ (4 : Int) <= 5 /\ List.length (e1 :: e2 :: e3 :: e4 :: l) <= 9223372036854775807) /\ (∃ (x : LL × Nat), niceL x.1 /\ ((0 : Nat) < List.length x.1 /\ List.length x.1 <= 5) /\ List.length x.1 <= x.2 /\ x.2 <= maxLen) /\ ∀ (x : LL × Nat), niceL x.1 /\ ((0 : Nat) < List.length x.1 /\ List.length x.1 <= 5) /\ List.length x.1 <= x.2 /\ x.2 <= maxLen -> (List.length x.1 = List.length x.1 /\ (List.length x.1 : Int) = (List.length x.1 : Int) /\ (0 : Int) = 0 /\ niceL x.1 /\ List.length x.1 <= 5 /\ zShop = zShop) /\
 ∀ (x_1 : LL), niceL x_1 /\ x_1.length = List.length x.1 -> List.length x.1 = x_1.length /\ (niceL x_1 /\ x_1.length <= 5) /\ (∃ (x : BSt × Int), okB (355000 : Nat) x.1) /\ ∀ (x : BSt × Int), okB (355000 : Nat) x.1 -> ax.length <= 9223372036854775807 /\ (∃ (x : AxV × AxV × AxV), okAx x.1 /\ okAx x.snd.1 /\ okAx x.snd.2) /\ ∀ (x_2 : AxV × AxV × AxV), okAx x_2.1 /\ okAx x_2.snd.1 /\ okAx x_2.snd.2 -> pl.length <= 9223372036854775807 /\ (∃ (x : Int × Int × Int), (1 <= x.1 /\ x.1 <= 900) /\ (2 <= x.snd.1 /\ x.snd.1 <= 201) /\ 1 <= x.snd.2 /\ x.snd.2 <= 16000) /\ ∀ (x_3 : Int × Int × Int), (1 <= x_3.1 /\ x_3.1 <= 900) /\ (2 <= x_3.snd.1 /\ x_3.snd.1 <= 201) /\ 1 <= x_3.snd.2 /\ x_3.snd.2 <= 16000 -> True /\ (∃ (x : Int × Int × Int), pm x.1 /\ pm x.snd.1 /\ pm x.snd.2) /\ ∀ (x_4 : Int × Int × Int), pm x_4.1 /\ pm x_4.snd.1 /\ pm x_4.snd.2 -> okLen x.1.sg /\ ∀ x7, x7 = plen x.1.sg ->
 (okLen x.1.sg /\ okPts x.1.s0 x.1.s1 x.1.s2 x.1.sg /\ okB3 x_2.1.bl x_2.snd.1.bl x_2.snd.2.bl) /\ (∃ (x_5 : LegS), x_5 = leg x.1.s0 x.1.s1 x.1.s2 x.1.sg x_2.1.bl x_2.snd.1.bl x_2.snd.2.bl x_4.1 x_4.snd.1 x_4.snd.2 (clamp (plen x.1.sg) (0 : Int)) (clamp (plen x.1.sg) x7)) /\ ∀ (x_5 : LegS), x_5 = leg x.1.s0 x.1.s1 x.1.s2 x.1.sg x_2.1.bl x_2.snd.1.bl x_2.snd.2.bl x_4.1 x_4.snd.1 x_4.snd.2 (clamp (plen x.1.sg) (0 : Int)) (clamp (plen x.1.sg) x7) -> Q ⟨.agg [I6 x.1.s0, I6 x.1.s1, I6 x.1.s2, .sl false [4, 4, 4, 4, 4, 4, 4] x.1.sg, .sl false [4, 4, 4] x.1.mks, I6 x_2.1.st, I6 x_2.1.sp, I6 x_2.1.ac, I6 x_2.1.je, I6 (-16777216), I6 16777216, I6 x_2.1.bl, I6 x_2.1.og, I6 x_2.1.sg, .sl false [4] x_2.1.pit, I6 x_2.snd.1.st, I6 x_2.snd.1.sp, I6 x_2.snd.1.ac, I6 x_2.snd.1.je, I6 (-16777216), I6 16777216, I6 x_2.snd.1.bl, I6 x_2.snd.1.og, I6 x_2.snd.1.sg, .sl false [4] x_2.snd.1.pit, I6 x_2.snd.2.st, I6 x_2.snd.2.sp, I6 x_2.snd.2.ac, I6 x_2.snd.2.je, I6 (-16777216), I6 16777216, I6 x_2.snd.2.bl, I6 x_2.snd.2.og, I6 x_2.snd.2.sg, .sl false [4] x_2.snd.2.pit, .sl false [4, 4, 4, 4, 4, 4, 4, 4, 4, 4] x_5.pk, I6 x_5.ln, I6 (clamp (plen x.1.sg) (0 : Int)), I6 x_4.1, I6 x_4.snd.1, I6 x_4.snd.2, I6 x_3.1, I6 x_3.snd.1, I6 x_3.snd.2, I6 x_5.ln], false, [], []⟩) := by kernel_rfl
end Go.Proofs.YtoekmphdpepdbaaGreat
namespace U
theorem lsh_len {l : LL} : (lsh l = true -> 3 < l.length) /\ (lsh l = false -> l.length <= 3) := by
 match l with
 | [] => exact ⟨fun h => (by cases h), fun _ => by simp⟩
 | [_] => exact ⟨fun h => (by cases h), fun _ => by simp⟩
 | [_, _] => exact ⟨fun h => (by cases h), fun _ => by simp⟩
 | [_, _, _] => exact ⟨fun h => (by cases h), fun _ => by simp⟩
 | _ :: _ :: _ :: _ :: l => exact ⟨fun _ => by simp, fun h => (by cases h)⟩
theorem ec_set_eq {L : LL} {i c : Nat} {r : List Int} (h : i < L.length) : ec (L.set i r) i c = r.getD c 0 := by
 have : (L.set i r).getD i [] = r := by simp [List.getD_eq_getElem?_getD, h]
 unfold ec; rw [this]
theorem ec_set_ne {L : LL} {i j c : Nat} {r : List Int} (h : j ≠ i) : ec (L.set i r) j c = ec L j c := by
 have : (L.set i r).getD j [] = L.getD j [] := by simp [List.getD_eq_getElem?_getD, List.getElem?_set_ne (Ne.symm h)]
 unfold ec; rw [this]
theorem nice_ex : ∃ x : LL × Nat, niceL x.1 /\ (0 < x.1.length /\ x.1.length <= 5) /\ x.1.length <= x.2 /\ x.2 <= Go.maxLen := by
 refine ⟨([[1, 0, 0, 0, 0, 0, 0, 0, 0, 0, 0, 0, 0, 0, 0, 0, 0, 0, 0, 0, 0, 0]], 1), fun j hj => ?_, by decide, by decide, by unfold Go.maxLen; decide⟩
 obtain rfl : j = 0 := by simp at hj; exact hj
 unfold niceAt nice b3 ec
 decide
theorem okB_path {x : BSt} (h : okB 355000 x) : okPath x.s0 x.s1 x.s2 x.sg x.mks := ⟨h.2.1, h.2.2.1, h.2.2.2.2.2.1, h.2.2.2.2.2.2⟩
theorem made_tail {ax pl : LL} {G : BSt -> AxV × AxV × AxV -> Int × Int × Int -> Int × Int × Int -> LegS -> Prop} (ha : ax.length <= 9223372036854775807) (hp : pl.length <= 9223372036854775807)
 (fin : ∀ (x : BSt) (y : AxV × AxV × AxV) (p z : Int × Int × Int) (w : LegS), okShop ⟨⟨x.s0, x.s1, x.s2, x.sg, x.mks, y.1, y.2.1, y.2.2, z.1, z.2.1, z.2.2, clamp (plen x.sg) 0, clamp (plen x.sg) (plen x.sg), w.pk, w.ln⟩, p.1, p.2.1, p.2.2⟩ -> G x y p z w) :
 (∃ (x : BSt × Int), okB 355000 x.1) /\ ∀ (x : BSt × Int), okB 355000 x.1 -> ax.length <= 9223372036854775807 /\ (∃ (x : AxV × AxV × AxV), okAx x.1 /\ okAx x.snd.1 /\ okAx x.snd.2) /\
 ∀ (y : AxV × AxV × AxV), okAx y.1 /\ okAx y.snd.1 /\ okAx y.snd.2 -> pl.length <= 9223372036854775807 /\ (∃ (x : Int × Int × Int), (1 <= x.1 /\ x.1 <= 900) /\ (2 <= x.snd.1 /\ x.snd.1 <= 201) /\ 1 <= x.snd.2 /\ x.snd.2 <= 16000) /\
 ∀ (p : Int × Int × Int), (1 <= p.1 /\ p.1 <= 900) /\ (2 <= p.snd.1 /\ p.snd.1 <= 201) /\ 1 <= p.snd.2 /\ p.snd.2 <= 16000 -> True /\ (∃ (x : Int × Int × Int), pm x.1 /\ pm x.snd.1 /\ pm x.snd.2) /\
 ∀ (z : Int × Int × Int), pm z.1 /\ pm z.snd.1 /\ pm z.snd.2 -> okLen x.1.sg /\ ∀ (x7 : Int), x7 = plen x.1.sg -> (okLen x.1.sg /\ okPts x.1.s0 x.1.s1 x.1.s2 x.1.sg /\ okB3 y.1.bl y.snd.1.bl y.snd.2.bl) /\
 (∃ (w : LegS), w = leg x.1.s0 x.1.s1 x.1.s2 x.1.sg y.1.bl y.snd.1.bl y.snd.2.bl z.1 z.snd.1 z.snd.2 (clamp (plen x.1.sg) 0) (clamp (plen x.1.sg) x7)) /\
 ∀ (w : LegS), w = leg x.1.s0 x.1.s1 x.1.s2 x.1.sg y.1.bl y.snd.1.bl y.snd.2.bl z.1 z.snd.1 z.snd.2 (clamp (plen x.1.sg) 0) (clamp (plen x.1.sg) x7) -> G x.1 y p z w := by
 refine ⟨⟨(⟨0, 0, 0, 0, 0, 0, 0, [], [], -1, false⟩, 0), okB_mono (Nat.zero_le _) (okB_zero (-1) false)⟩, fun x hx => ⟨ha, ?_, fun y hy => ⟨hp, ⟨(1, 2, 1), by decide⟩, fun p hpp => ⟨trivial, ⟨(1, 1, 1), .inl rfl, .inl rfl, .inl rfl⟩, fun z hz => ?_⟩⟩⟩⟩
 . obtain ⟨a, h⟩ := Go.Proofs.YtoekmphdpepdbaaGreat.okAx_ex
   exact ⟨(a, a, a), h, h, h⟩
 . have hx := okB_path hx
   have hL := okPath_len hx
   have hpl := plen_le hL
   refine ⟨hL, fun x7 e7 => ⟨⟨hL, okPath_pts hx, ?_⟩, ⟨_, rfl⟩, fun w hw => fin x.1 y p z w ?_⟩⟩
   . have := hy.1.2.2.2.2.1
     have := hy.2.1.2.2.2.2.1
     have := hy.2.2.2.2.2.2.1
     unfold okB3; omega
   . have c1 := clamp_bd (v := 0) hpl.1
     have c2 := clamp_bd (v := plen x.1.sg) hpl.1
     subst e7
     exact ⟨⟨hx, hy.1, hy.2.1, hy.2.2, hz, c1, c2, by rw [hw]; rfl, by rw [hw]; rfl⟩, by show clamp (plen x.1.sg) 0 = 0; unfold clamp; omega, hpp.1, hpp.2.1, hpp.2.2⟩
end U
namespace Go.Proofs.YtoekmphdpepdbaaGreat
open Go Go.HL U
attribute [local irreducible] hfun bodyT fragT
theorem loopMotz : ∀ v Q, (LMotz v).wp Q -> hloop CMotz anMotz (nthLoop Tryz.f35 0) v Q := by
 intro v Q h
 unfold LMotz at h
 split at h
 case h_2 => exact h.elim
 rename_i m ks y l p a0 a1 a2
 cases hks : ksEq ks [4, 4, 4, 4, 4, 4, 4, 4, 4, 4, 4, 4, 4, 0, 4, 0, 4, 4, 4, 4, 4, 0]
 . rw [hks] at h; exact h.elim
 rw [hks] at h
 obtain rfl := ksEq_eq hks
 obtain ⟨⟨hm, hp, hy, ha⟩, hq⟩ := h
 refine hloop_rec (σ := LL × Int × Int × Int × Int) (fun s => ([.ce (I6 m), .ce (.ptr 1000010 0), .zs [4, 4, 4, 4, 4, 4, 4, 4, 4, 4, 4, 4, 4, 0, 4, 0, 4, 4, 4, 4, 4, 0] s.1, .ce (.lit true), .ce (.ptr 1000007 0)], [[.sl false [4] l, I6 s.2.1], [I6 s.2.2.1, I6 s.2.2.2.1, I6 s.2.2.2.2]]))
  (fun s => 5 - s.1.length) (fun s => inSrc l s.2.1 /\ s.1.length <= 5 /\ niceL s.1 /\ b3 (4 + 40 * (s.1.length : Int)) s.2.2.1 s.2.2.2.1 s.2.2.2.2 /\ (s.1.length = 0 -> s.2.1 = p) /\ (0 < s.1.length -> p < (l.length : Int))) ?_ (y, p, a0, a1, a2) ⟨hp, by dsimp only; omega, fun j hj => absurd (show j < y.length from hj) (by omega), b3_mono (by dsimp only; omega) ha, fun _ => rfl, fun h => by dsimp only at h; omega⟩
 rintro ⟨y, q, a0, a1, a2⟩ ⟨hp, hy5, hy, ha, h0, h1⟩ K hn hx _
 dsimp only at hp hy5 hy ha h0 h1 hn ⊢
 refine byVB (vbMotz m q a0 a1 a2 y l K) ⟨fun g => ⟨trivial, ?_⟩, fun g => hx _ _ (hq (y, q, a0, a1, a2) ⟨hy, hy5, ?_, ?_⟩)⟩
 . have g := odt g
   rintro x1 ex1 _ rfl _ rfl
   refine ⟨fun gl => ⟨⟨by decide, by decide, hp⟩, drew_ex _ _ (by decide), fun y1 h1' => ⟨⟨h1'.1, by have := h1'.2.1; omega⟩, fun x5 e5 => ?_⟩⟩, fun gl => hx _ _ (hq (y, _, a0, a1, a2) ⟨hy, hy5, ?_, ?_⟩)⟩
   . have hlt := odt (ex1.symm.trans gl)
     have k5 : 1 <= x5 /\ x5 <= 3 := by
      have : y1.1 = 0 ∨ y1.1 = 1 ∨ y1.1 = 2 ∨ y1.1 = 3 ∨ y1.1 = 4 := by have := h1'.1; have := h1'.2.1; omega
      rcases this with h | h | h | h | h <;> rw [h] at e5
      . have e : x5 = 2 := e5
        omega
      . have e : x5 = 2 := e5
        omega
      . have e : x5 = 2 := e5
        omega
      . have e : x5 = 3 := e5
        omega
      . have e : x5 = 1 := e5
        omega
     have s1 := drew_src hp h1'
     refine ⟨⟨s1, b3_mono (by omega) ha, k5⟩, grown_ex k5 s1, fun x hx2 => ⟨⟨show (y.length + 1) * 176 <= 140737488355328 by omega, by unfold maxLen; omega⟩, ?_⟩⟩
     have nb := hx2.2.2 _ (by omega) ha
     refine hn (_, x.2, x.1.t0, x.1.t1, x.1.t2) ⟨hx2.1, by simp; omega, niceL_app hy (niceB_mono (by omega) nb), b3_mono (by simp; omega) nb.2.2.1, fun e => by simp at e, fun _ => ?_⟩ (by simp; omega)
     by_cases e : y.length = 0
     . rw [<- h0 e]; exact hlt
     . exact h1 (by omega)
   . intro hlt
     have hnl := odf (ex1.symm.trans gl)
     by_cases e : y.length = 0
     . rw [h0 e] at hnl; omega
     . dsimp only; omega
   . intro hnl
     by_cases e : y.length = 0
     . exact e
     . have := h1 (by omega); omega
 . intro _
   have g := odf g
   dsimp only
   omega
 . intro hnl
   by_cases e : y.length = 0
   . exact e
   . have := h1 (by omega); omega
theorem sMotz : Sound Tryz.prog 35 SMotz := by
 refine sound_of (C := CMotz) tabMotz Tryz.func35 (by kernel_rfl) (by decide +kernel) (by kernel_rfl) rfl ⟨sFrom, sNext, sLeft, sMot, trivial⟩ (loops1 (by kernel_rfl) (loopOK_of (an := anMotz) (S := LMotz) (by kernel_rfl) loopMotz)) ?_
 intro hA pA R h
 unfold SMotz at h
 split at h
 case h_2 => exfalso; exact h
 rename_i l m
 have hx : (1 <= m /\ m <= 5 /\ l.length <= 9223372036854775807) /\ (l.length <= 3 -> R ⟨.ce (.sl false [4, 4, 4, 4, 4, 4, 4, 4, 4, 4, 4, 4, 4, 0, 4, 0, 4, 4, 4, 4, 4, 0] []), false, [], [[]]⟩) /\ (3 < l.length -> ∀ (y : LL) (c : Nat), niceL y -> 0 < y.length -> y.length <= 5 -> y.length <= c /\ c <= maxLen -> R ⟨.ce (.msl 500 y.length c), false, [], [[.arr [4, 4, 4, 4, 4, 4, 4, 4, 4, 4, 4, 4, 4, 0, 4, 0, 4, 4, 4, 4, 4, 0] y c]]⟩) := by
  cases hs : lsh l with
  | true =>
   rw [hs] at h
   obtain ⟨hm, _, hR⟩ := h
   exact ⟨hm, fun e => by have := lsh_len.1 hs; omega, fun _ y c h1 h2 h3 h4 => hR (y, c) ⟨h1, ⟨h2, h3⟩, h4⟩⟩
  | false =>
   rw [hs] at h
   exact ⟨h.1, fun _ => h.2, fun e => by have := lsh_len.2 hs; omega⟩
 obtain ⟨⟨hm0, hm1, hl⟩, hR0, hR1⟩ := hx
 refine byVC (vcMotz l m R) ⟨trivial, ?_⟩
 intro x1 e1 x2 e2
 rw [e1, e2]
 have s0 : inSrc l 0 := ⟨Int.le_refl _, hl⟩
 refine ⟨⟨by decide, by decide, s0⟩, drew_ex _ _ (by decide), fun y1 h1 => ?_⟩
 have s1 := drew_src s0 h1
 have b1 := h1.1
 have b1' := h1.2.1
 refine ⟨by omega, fun x4 e4 => ⟨⟨by decide, by decide, s1⟩, drew_ex _ _ (by decide), fun y2 h2 => ?_⟩⟩
 have s2 := drew_src s1 h2
 have b2 := h2.1
 have b2' := h2.2.1
 refine ⟨by omega, fun x6 e6 => ⟨⟨by decide, by decide, s2⟩, drew_ex _ _ (by decide), fun y3 h3 => ?_⟩⟩
 have s3 := drew_src s2 h3
 have b3' := h3.1
 have b3'' := h3.2.1
 have ep : y3.2 < (l.length : Int) ↔ 3 < l.length := by
  rw [h3.2.2, h2.2.2, h1.2.2]
  unfold adv
  (repeat' split) <;> omega
 refine ⟨by omega, fun x8 e8 => ⟨⟨⟨hm0, hm1⟩, s3, rfl, by unfold b3; omega⟩, fun z ⟨z1, z2, z3, z4⟩ => ⟨fun e => hR0 ?_, fun e c hc => hR1 ?_ z.1 c z1 e z2 hc⟩⟩⟩
 . apply Classical.byContradiction
   intro hc
   have := z3 (ep.2 (by omega))
   omega
 . apply Classical.byContradiction
   intro hc
   have := z4 (fun h => hc (ep.1 h))
   omega
theorem sPan : Sound Tryz.prog 13 SPan := by
 refine sound_of (C := CPan) tabNx1 Tryz.func13 (by kernel_rfl) (by decide +kernel) (by kernel_rfl) rfl ⟨sNext, trivial⟩ (loops0 (by kernel_rfl)) ?_
 intro hA pA R h
 unfold SPan at h
 split at h
 case h_2 => exfalso; exact h
 rename_i l p
 obtain ⟨hp, _, hR⟩ := h
 refine byVC (vcPan l p R) ⟨⟨by decide, by decide, hp⟩, drew_ex _ _ (by decide), fun y1 h1 => ⟨⟨h1.1, h1.2.1⟩, fun x2 _ => ?_⟩⟩
 have s1 := drew_src hp h1
 refine ⟨⟨by decide, by decide, s1⟩, drew_ex _ _ (by decide), fun y2 h2 => ⟨⟨h2.1, h2.2.1⟩, fun x4 _ => ?_⟩⟩
 have s2 := drew_src s1 h2
 refine ⟨⟨by decide, by decide, s2⟩, drew_ex _ _ (by decide), fun y3 h3 => ?_⟩
 have s3 := drew_src s2 h3
 refine ⟨⟨by decide, by decide, s3⟩, drew_ex _ _ (by decide), fun y4 h4 => ?_⟩
 have s4 := drew_src s3 h4
 refine ⟨⟨by decide, by decide, s4⟩, drew_ex _ _ (by decide), fun y5 h5 => ?_⟩
 exact hR (x2, x4, (y3.1 == 4), (y4.1 == 3), (y5.1 == 2), y5.2) (drew_src s4 h5)
theorem sPla : Sound Tryz.prog 38 SPla := by
 refine sound_of (C := CPla) tabPla Tryz.func38 (by kernel_rfl) (by decide +kernel) (by kernel_rfl) rfl ⟨sFrom, sNext, trivial⟩ (loops0 (by kernel_rfl)) ?_
 intro hA pA R h
 unfold SPla at h
 split at h
 case h_2 => exfalso; exact h
 rename_i l
 obtain ⟨hl, _, hR⟩ := h
 refine byVC (vcPla l R) ⟨trivial, ?_⟩
 intro x1 e1 x2 e2
 rw [e1, e2]
 have s0 : inSrc l 0 := ⟨Int.le_refl _, hl⟩
 refine ⟨⟨by decide, by decide, s0⟩, drew_ex _ _ (by decide), fun y1 h1 => ?_⟩
 have s1 := drew_src s0 h1
 have b1 := h1.1
 have b1' := h1.2.1
 refine ⟨by omega, fun x4 e4 => ⟨⟨by decide, by decide, s1⟩, drew_ex _ _ (by decide), fun y2 h2 => ?_⟩⟩
 have s2 := drew_src s1 h2
 have b2 := h2.1
 have b2' := h2.2.1
 refine ⟨by omega, fun x6 e6 => ⟨⟨by decide, by decide, s2⟩, drew_ex _ _ (by decide), fun y3 h3 => ?_⟩⟩
 have b3' := h3.1
 have b3'' := h3.2.1
 exact ⟨by omega, fun x8 e8 => hR (x4, x6, x8) ⟨by dsimp only; omega, by dsimp only; omega, by dsimp only; omega⟩⟩
theorem loopMade : ∀ v Q, (LMade v).wp Q -> hloop CMade anMade (nthLoop Tryz.f12 0) v Q := by
 intro v Q h
 unfold LMade at h
 split at h
 case h_2 => exact h.elim
 rename_i ax pl ds fa it len i rb ib
 split at h
 case h_3 => exact h.elim
 . rename_i n cap ks rows d
   cases hks : ksEq ks [4, 4, 4, 4, 4, 4, 4, 4, 4, 4, 4, 4, 4, 0, 4, 0, 4, 4, 4, 4, 4, 0]
   . rw [hks] at h; exact h.elim
   rw [hks] at h
   obtain rfl := ksEq_eq hks
   obtain ⟨⟨h1, h2, h3, h4, h5, h6⟩, hq⟩ := h
   subst h1 h2 h3 h6
   refine hloop_rec (σ := LL × Nat) (fun s => ([.ce (.sl false [4] ax), .ce (.sl false [4] pl), .ce (I6 ds), .ce (.bool fa), .ce (.ptr 1000010 0), .ce (.msl 1000015 rows.length cap), .ce (I6 (rows.length : Int)), .ce (I6 (s.2 : Int))], [zShop, [.arr [4, 4, 4, 4, 4, 4, 4, 4, 4, 4, 4, 4, 4, 0, 4, 0, 4, 4, 4, 4, 4, 0] s.1 d]]))
    (fun s => rows.length - s.2) (fun s => s.2 <= rows.length /\ niceL s.1 /\ s.1.length = rows.length) ?_ (rows, 0) ⟨Nat.zero_le _, h4, rfl⟩
   rintro ⟨y, i⟩ ⟨i1, i2, i3⟩ K hn hx _
   dsimp only at i1 i2 i3 hn ⊢
   refine byVB (vbMade ax pl y ds rows.length i fa rows.length cap d K) ⟨fun g => ?_, fun g => hx _ _ (hq y ⟨i2, i3⟩)⟩
   have g := odt g
   have keep : ∀ x : Int, x = (i : Int) + 1 -> K .normal ([.ce (.sl false [4] ax), .ce (.sl false [4] pl), .ce (I6 ds), .ce (.bool fa), .ce (.ptr 1000010 0), .ce (.msl 1000015 rows.length cap), .ce (I6 (rows.length : Int)), .ce (I6 x)], [zShop, [.arr [4, 4, 4, 4, 4, 4, 4, 4, 4, 4, 4, 4, 4, 0, 4, 0, 4, 4, 4, 4, 4, 0] y d]]) := fun x ex => by
    have := hn (y, i + 1) ⟨by dsimp only; omega, i2, i3⟩ (by dsimp only; omega)
    rw [show ((i + 1 : Nat) : Int) = x by omega] at this
    exact this
   refine ⟨fun _ => ⟨by omega, by show i < y.length; omega, fun x1 e1 => ⟨fun _ => ⟨by omega, by show i < y.length; omega, by omega, fun x2 e2 => ?_⟩, fun _ => ⟨by omega, fun x3 e3 => keep x3 e3⟩⟩⟩, fun _ => ⟨by omega, fun x3 e3 => keep x3 e3⟩⟩
   rw [show (i : Int).toNat = i from rfl]
   have key : ∀ r : List Int, r.getD 0 0 = ec y i 0 -> r.getD 2 0 = ec y i 2 -> r.getD 3 0 = ec y i 3 -> r.getD 4 0 = ec y i 4 -> r.getD 5 0 = ec y i 5 -> r.getD 6 0 = ec y i 6 -> r.getD 7 0 = ec y i 7 -> r.getD 9 0 = ec y i 9 -> r.getD 10 0 = ec y i 10 -> r.getD 11 0 = ec y i 11 -> r.getD 12 0 = ec y i 12 -> r.getD 18 0 = ec y i 18 -> r.getD 14 0 = 2000000 -> K .normal ([.ce (.sl false [4] ax), .ce (.sl false [4] pl), .ce (I6 ds), .ce (.bool fa), .ce (.ptr 1000010 0), .ce (.msl 1000015 rows.length cap), .ce (I6 (rows.length : Int)), .ce (I6 x2)], [zShop, [.arr [4, 4, 4, 4, 4, 4, 4, 4, 4, 4, 4, 4, 4, 0, 4, 0, 4, 4, 4, 4, 4, 0] (y.set i r) d]]) := by
    intro r h0 h2 h3 h4 h5 h6 h7 h9 h10 h11 h12 h18 h14
    have := hn (y.set i r, i + 1) ⟨by dsimp only; omega, ?_, by simp; exact i3⟩ (by dsimp only; omega)
    . rw [show ((i + 1 : Nat) : Int) = x2 by omega] at this
      exact this
    . intro j hj
      rw [List.length_set] at hj
      by_cases e : j = i
      . subst e
        obtain ⟨n1, n2, n3, n4, n5, n6, n7⟩ := i2 j hj
        unfold niceAt
        rw [ec_set_eq hj, ec_set_eq hj, ec_set_eq hj, ec_set_eq hj, ec_set_eq hj, ec_set_eq hj, ec_set_eq hj, ec_set_eq hj, ec_set_eq hj, ec_set_eq hj, ec_set_eq hj, ec_set_eq hj, ec_set_eq hj, h0, h2, h3, h4, h5, h6, h7, h9, h10, h11, h12, h18, h14]
        exact ⟨n1, n2, n3, n4, n5, (by decide : (0 : Int) <= 2000000 /\ (2000000 : Int) <= 60000000), n7⟩
      . have := i2 j hj
        unfold niceAt at this ⊢
        rw [ec_set_ne e, ec_set_ne e, ec_set_ne e, ec_set_ne e, ec_set_ne e, ec_set_ne e, ec_set_ne e, ec_set_ne e, ec_set_ne e, ec_set_ne e, ec_set_ne e, ec_set_ne e, ec_set_ne e]
        exact this
   exact key _ rfl rfl rfl rfl rfl rfl rfl rfl rfl rfl rfl rfl rfl
 . rename_i ks rows
   cases hks : ksEq ks [4, 4, 4, 4, 4, 4, 4, 4, 4, 4, 4, 4, 4, 0, 4, 0, 4, 4, 4, 4, 4, 0]
   . rw [hks] at h; exact h.elim
   rw [hks] at h
   obtain rfl := ksEq_eq hks
   obtain ⟨⟨h1, h2, h3, h6⟩, hq⟩ := h
   obtain rfl := List.eq_nil_of_length_eq_zero h1
   subst h2 h3 h6
   refine hloop_rec (σ := Unit) (fun _ => ([.ce (.sl false [4] ax), .ce (.sl false [4] pl), .ce (I6 ds), .ce (.bool fa), .ce (.ptr 1000010 0), .ce (.sl false [4, 4, 4, 4, 4, 4, 4, 4, 4, 4, 4, 4, 4, 0, 4, 0, 4, 4, 4, 4, 4, 0] []), .ce (I6 0), .ce (I6 0)], [zShop, []])) (fun _ => 0) (fun _ => True) ?_ () trivial
   intro _ _ K _ hx _
   exact byVB (vbMadeS ax pl ds fa K) ⟨fun g => (by cases g), fun _ => hx _ _ hq⟩
theorem sMade : Sound Tryz.prog 12 SMade := by
 refine sound_of (C := CMade) tabMade Tryz.func12 (by kernel_rfl) (by decide +kernel) (by kernel_rfl) rfl ⟨sMotz, sBuild, sAxes, sPla, sPLen, sDirs, sLeg, trivial⟩ (loops1 (by kernel_rfl) (loopOK_of (an := anMade) (S := LMade) (by kernel_rfl) loopMade)) ?_
 intro hA pA R h
 unfold SMade at h
 split at h
 case h_2 => exfalso; exact h
 rename_i l ax pl ds fa
 obtain ⟨⟨hl, ha, hp⟩, _, hR⟩ := h
 have nn : niceL [] := fun j hj => by simp at hj
 match l, hl with
 | [], _ => exact byVC (vcMade0 ax pl ds fa R) ⟨by decide, fun x1 e1 => ⟨⟨by rw [e1]; rfl, by rw [e1]; rfl, rfl, rfl⟩, ⟨nn, by decide⟩, made_tail ha hp fun x y p z w hw => hR _ hw⟩⟩
 | [e1], _ => exact byVC (vcMade1 e1 ax pl ds fa R) ⟨by decide, fun x1 e1 => ⟨⟨by rw [e1]; rfl, by rw [e1]; rfl, rfl, rfl⟩, ⟨nn, by decide⟩, made_tail ha hp fun x y p z w hw => hR _ hw⟩⟩
 | [e1, e2], _ => exact byVC (vcMade2 e1 e2 ax pl ds fa R) ⟨by decide, fun x1 e1 => ⟨⟨by rw [e1]; rfl, by rw [e1]; rfl, rfl, rfl⟩, ⟨nn, by decide⟩, made_tail ha hp fun x y p z w hw => hR _ hw⟩⟩
 | [e1, e2, e3], _ => exact byVC (vcMade3 e1 e2 e3 ax pl ds fa R) ⟨by decide, fun x1 e1 => ⟨⟨by rw [e1]; rfl, by rw [e1]; rfl, rfl, rfl⟩, ⟨nn, by decide⟩, made_tail ha hp fun x y p z w hw => hR _ hw⟩⟩
 | e1 :: e2 :: e3 :: e4 :: l, hl => exact byVC (vcMade4 e1 e2 e3 e4 l ax pl ds fa R) ⟨⟨by decide, by decide, hl⟩, nice_ex, fun x hx => ⟨⟨rfl, rfl, rfl, hx.1, hx.2.1.2, rfl⟩, fun y hy => ⟨hy.2.symm, ⟨hy.1, by rw [hy.2]; exact hx.2.1.2⟩, made_tail ha hp fun x y p z w hw => hR _ hw⟩⟩⟩
end Go.Proofs.YtoekmphdpepdbaaGreat
namespace U
open Go
def RunS.M0 (x : RunS) : Int -> Int := mtr x.a.st x.a.og x.a.sg x.a.pit x.a.bl x.s0 x.sg 0 x.pk x.f x.d0
def RunS.M1 (x : RunS) : Int -> Int := mtr x.b.st x.b.og x.b.sg x.b.pit x.b.bl x.s1 x.sg 1 x.pk x.f x.d1
def RunS.M2 (x : RunS) : Int -> Int := mtr x.c.st x.c.og x.c.sg x.c.pit x.c.bl x.s2 x.sg 2 x.pk x.f x.d2
theorem Lm_tail {sp ac je : Int} {f : Nat -> Int} {n : Nat} (h : Lm sp ac je f (n + 1)) : Lm sp ac je (fun j => f (j + 1)) n :=
 ⟨fun j hj => h.1 (j + 1) (by omega), fun j hj => h.2.1 (j + 1) (by omega), fun j hj => h.2.2 (j + 1) (by omega)⟩
theorem wth3_tail {s0 a0 j0 s1 a1 j1 s2 a2 j2 : Int} {r : List Int} {L : List (List Int)} (h : wth3 s0 a0 j0 s1 a1 j1 s2 a2 j2 (r :: L) = true) : wth3 s0 a0 j0 s1 a1 j1 s2 a2 j2 L = true := by
 rw [wth3_iff] at h ⊢
 exact ⟨Lm_tail h.1, Lm_tail h.2.1, Lm_tail h.2.2⟩
theorem Lm_same {sp ac je : Int} {f : Nat -> Int} {n : Nat} (h0 : 0 <= sp) (h1 : 0 <= ac) (h2 : 0 <= je) (h : Lm sp ac je f (n + 3)) (e1 : f (n + 3) = f (n + 2)) (e2 : f (n + 2) = f (n + 1)) (e3 : f (n + 1) = f n) : Lm sp ac je f (n + 4) := by
 obtain ⟨a, b, c⟩ := h
 refine ⟨fun j hj => ?_, fun j hj => ?_, fun j hj => ?_⟩
 . by_cases e : j = n + 2
   . subst e; rw [e1]; omega
   . exact a j (by omega)
 . by_cases e : j = n + 1
   . subst e; rw [show n + 1 + 2 = n + 3 from rfl, show n + 1 + 1 = n + 2 from rfl, e1, e2]; omega
   . exact b j (by omega)
 . by_cases e : j = n
   . subst e; rw [e1, e2, e3]; omega
   . exact c j (by omega)
theorem qsm_cons (r : List Int) (l : List (List Int)) : ∀ k, qsm (r :: l) (k + 1) = r.getD 0 0 + qsm l k
 | 0 => by show (0 : Int) + r.getD 0 0 = r.getD 0 0 + 0; omega
 | k + 1 => by
  have e := qsm_cons r l k
  show qsm (r :: l) (k + 1) + el (r :: l) (k + 1) = r.getD 0 0 + (qsm l k + el l k)
  rw [e, el_cons]; omega
theorem qcum_cons (u : Int) (r : List Int) (l : List (List Int)) : qcum u (r :: l) = [u + r.getD 0 0] :: qcum (u + r.getD 0 0) l := by
 have key : ∀ n, qcumN u (r :: l) (n + 1) = [u + r.getD 0 0] :: qcumN (u + r.getD 0 0) l n := by
  intro n
  induction n with
  | zero => unfold qcumN; simp [qsm, el]
  | succ n ih => rw [qcumN_succ, ih, qcumN_succ, qsm_cons, List.cons_append, Int.add_assoc]
 exact key l.length
theorem qend_cons (u x : Int) (f : List (List Int)) : qend u ([x] :: f) = qend x f := by
 unfold qend
 rw [if_neg (by simp)]
 cases f with
 | nil => rfl
 | cons r f => rw [if_neg (by simp)]; rfl
theorem qfok_iff {A J v a : Int} : qfok A J v a = true ↔ qready A J v a = true /\ qsok A J 4096 v a = true := by unfold qfok; rw [Bool.and_eq_true]
theorem qsp_of {A J v a : Int} (h : qfok A J v a = true) : qsp A J v a = qst A J 4096 v a := by unfold qsp; rw [if_pos h]
theorem stop_next {A J R : Int} (hp : okPl A J R) {m : QM} (h : qfok A J m.v m.a = true) :
 qfok A J (m.v + qbrk A J m.v m.a) (qbrk A J m.v m.a) = true /\
 ((0 < m.v /\ qfu A J m.u m.v m.a = [m.u + (m.v + qbrk A J m.v m.a)] :: qfu A J (m.u + (m.v + qbrk A J m.v m.a)) (m.v + qbrk A J m.v m.a) (qbrk A J m.v m.a)) ∨
  (m.v = 0 /\ qbrk A J m.v m.a = 0 /\ qfu A J m.u m.v m.a = [] /\ qfu A J m.u 0 0 = [])) := by
 have hA := hp.1.1
 have hJ : 1 <= J := by have := hp.2.1.1; omega
 obtain ⟨h1, h2⟩ := qfok_iff.1 h
 have hv := qready_v hJ h1
 have hr := qbrk_ready hA hJ h1
 by_cases h0 : 0 < m.v
 . obtain ⟨t1, t2⟩ := qst_tail h0 h2
   have k := qfok_iff.2 ⟨hr, t1⟩
   refine ⟨k, .inl ⟨h0, ?_⟩⟩
   unfold qfu
   rw [qsp_of h, qsp_of k, t2, qcum_cons]
   rfl
 . have e : m.v = 0 := by omega
   rw [e] at h1 hr ⊢
   have b := qbrk_rest hA hJ h1
   rw [b] at hr ⊢
   have n1 := qst_nil (A := A) (J := J) (v := 0 + 0) (a := 0) (n := 4096) (by omega)
   have n0 := qst_nil (A := A) (J := J) (v := 0) (a := m.a) (n := 4096) (by omega)
   have k := qfok_iff.2 ⟨hr, n1.2⟩
   refine ⟨k, .inr ⟨rfl, rfl, ?_, ?_⟩⟩
   . rw [e] at h
     unfold qfu; rw [qsp_of h, n0.1]; rfl
   . unfold qfu; rw [qsp_of (v := 0) (a := 0) k, (qst_nil (A := A) (J := J) (v := 0) (a := 0) (n := 4096) (by omega)).1]; rfl
theorem qmot_cons (M0 M1 M2 : Int -> Int) (ln x : Int) (w : List (List Int)) : qmot M0 M1 M2 ln ([x] :: w) = [M0 (clamp ln (x / 256)), M1 (clamp ln (x / 256)), M2 (clamp ln (x / 256))] :: qmot M0 M1 M2 ln w := rfl
theorem qmove_a (m : QM) (v : Int) : (qmove m (m.v + v)).a = v := by show m.v + v - m.v = v; omega
theorem safe_next {A J R : Int} (hp : okPl A J R) {s0 a0 j0 s1 a1 j1 s2 a2 j2 : Int} (hl : okL3 s0 a0 j0 s1 a1 j1 s2 a2 j2) {M0 M1 M2 : Int -> Int} {ln : Int} {m : QM} {lim : Int}
 (h : qsafe A J (wth3 s0 a0 j0 s1 a1 j1 s2 a2 j2) (qmot M0 M1 M2 ln) m lim = true) : qsafe A J (wth3 s0 a0 j0 s1 a1 j1 s2 a2 j2) (qmot M0 M1 M2 ln) (qmove m (m.v + qbrk A J m.v m.a)) lim = true := by
 unfold qsafe at h ⊢
 rw [Bool.and_eq_true, Bool.and_eq_true, decide_eq_true_iff] at h ⊢
 obtain ⟨h1, h2, h3⟩ := h
 obtain ⟨k1, k2⟩ := stop_next hp h1
 rw [qmove_a]
 refine ⟨k1, ?_⟩
 rcases k2 with ⟨k0, k2⟩ | ⟨k0, kb, k2, k3⟩
 . rw [k2, qend_cons] at h2
   rw [k2] at h3
   refine ⟨h2, ?_⟩
   unfold qway at h3 ⊢
   rw [qend_cons] at h3
   exact wth3_tail h3
 . rw [k2] at h2 h3
   rw [kb, k0]
   show qend (m.u + (0 + 0)) (qfu A J (m.u + (0 + 0)) (0 + 0) 0) <= lim * 256 /\ wth3 s0 a0 j0 s1 a1 j1 s2 a2 j2 (qmot M0 M1 M2 ln (qway (qmove m (0 + 0)) (qfu A J (m.u + (0 + 0)) (0 + 0) 0))) = true
   rw [show (0 : Int) + 0 = 0 from rfl, show m.u + 0 = m.u by omega, k3]
   refine ⟨h2, ?_⟩
   have e : qway (qmove m 0) [] = [[m.p], [m.l], [m.u], [m.u], [m.u], [m.u]] := by
    unfold qway qend qmove
    simp
   have e2 : qway m [] = [[m.b], [m.p], [m.l], [m.u], [m.u], [m.u]] := by unfold qway qend; simp
   rw [e2] at h3
   rw [e]
   have h4 := wth3_tail h3
   rw [wth3_iff] at h4 ⊢
   exact ⟨Lm_same (n := 2) hl.1.1.1 hl.1.2.1.1 hl.1.2.2.1 (Lm_congr (fun j hj => by
    rcases (by omega : j = 0 ∨ j = 1 ∨ j = 2 ∨ j = 3 ∨ j = 4) with rfl | rfl | rfl | rfl | rfl <;> rfl) h4.1) rfl rfl rfl,
    Lm_same (n := 2) hl.2.1.1.1 hl.2.1.2.1.1 hl.2.1.2.2.1 (Lm_congr (fun j hj => by
     rcases (by omega : j = 0 ∨ j = 1 ∨ j = 2 ∨ j = 3 ∨ j = 4) with rfl | rfl | rfl | rfl | rfl <;> rfl) h4.2.1) rfl rfl rfl,
    Lm_same (n := 2) hl.2.2.1.1 hl.2.2.2.1.1 hl.2.2.2.2.1 (Lm_congr (fun j hj => by
     rcases (by omega : j = 0 ∨ j = 1 ∨ j = 2 ∨ j = 3 ∨ j = 4) with rfl | rfl | rfl | rfl | rfl <;> rfl) h4.2.2) rfl rfl rfl⟩
theorem fit_next {A J R : Int} (hp : okPl A J R) {n : Nat} {T : Int -> Int} {m : QM} (h : qfit A J n T m = true) : qfit A J n T (qmove m (m.v + qbrk A J m.v m.a)) = true := by
 unfold qfit at h ⊢
 rw [Bool.and_eq_true, Bool.and_eq_true, Bool.and_eq_true, decide_eq_true_iff, decide_eq_true_iff] at h ⊢
 obtain ⟨h1, h2, h3, h4⟩ := h
 obtain ⟨k1, k2⟩ := stop_next hp h1
 rw [qmove_a]
 refine ⟨k1, h2, ?_⟩
 rcases k2 with ⟨k0, k2⟩ | ⟨k0, kb, k2, k3⟩
 . rw [k2] at h4
   unfold qfl at h4
   rw [Bool.and_eq_true, decide_eq_true_iff] at h4
   have h5 : m.u + (m.v + qbrk A J m.v m.a) - m.u <= T (m.u + (m.v + qbrk A J m.v m.a)) := h4.1
   refine ⟨?_, h4.2⟩
   show m.v + qbrk A J m.v m.a <= T (m.u + (m.v + qbrk A J m.v m.a))
   omega
 . rw [kb, k0]
   rw [k0] at h3
   show 0 + 0 <= T (m.u + (0 + 0)) /\ qfl T (m.u + (0 + 0)) (qfu A J (m.u + (0 + 0)) (0 + 0) 0) = true
   rw [show (0 : Int) + 0 = 0 from rfl, show m.u + 0 = m.u by omega, k3]
   exact ⟨h3, rfl⟩
theorem safe_mono {A J : Int} {W : List (List Int) -> Bool} {Mo : List (List Int) -> List (List Int)} {m : QM} {lim lim' : Int} (hl : lim <= lim') (h : qsafe A J W Mo m lim = true) : qsafe A J W Mo m lim' = true := by
 unfold qsafe at h ⊢
 rw [Bool.and_eq_true, Bool.and_eq_true, decide_eq_true_iff] at h ⊢
 exact ⟨h.1, by omega, h.2.2⟩
theorem qpick_some {ok : Int -> Bool} : ∀ {l : List (List Int)} {k : Int}, qpick ok l = some k -> ok k = true /\ ∃ j, j < l.length /\ el l j = k
 | [], k, h => by cases h
 | r :: l, k, h => by
  unfold qpick at h
  by_cases hk : ok (r.getD 0 0) = true
  . rw [if_pos hk] at h; cases h; exact ⟨hk, 0, by simp, rfl⟩
  . rw [if_neg hk] at h
    obtain ⟨h1, j, h2, h3⟩ := qpick_some h
    exact ⟨h1, j + 1, by simpa using h2, h3⟩
theorem next_cases (A J : Int) (W : List (List Int) -> Bool) (Mo : List (List Int) -> List (List Int)) (n : Nat) (T : Int -> Int) (m : QM) (lim : Int) :
 (∃ k, qpick (qok A J W Mo n T m lim) (chg J) = some k /\ qnext A J W Mo n T m lim = qmove m (m.v + (m.a + k)) /\ 0 <= m.v + (m.a + k) /\ qready A J (m.v + (m.a + k)) (m.a + k) = true /\
  qfit A J n T (qmove m (m.v + (m.a + k))) = true /\ qsafe A J W Mo (qmove m (m.v + (m.a + k))) lim = true) ∨
 (qpick (qok A J W Mo n T m lim) (chg J) = none /\ qnext A J W Mo n T m lim = qmove m (m.v + qbrk A J m.v m.a)) := by
 unfold qnext
 cases h : qpick (qok A J W Mo n T m lim) (chg J) with
 | none => exact .inr ⟨rfl, rfl⟩
 | some k =>
  have ok := (qpick_some h).1
  unfold qok at ok
  rw [Bool.and_eq_true, Bool.and_eq_true, Bool.and_eq_true, decide_eq_true_iff] at ok
  exact .inl ⟨k, rfl, rfl, ok⟩
def qinv (A J : Int) (W : List (List Int) -> Bool) (Mo : List (List Int) -> List (List Int)) (m : QM) (lim : Int) : Prop :=
 qsafe A J W Mo m lim = true /\ 0 <= m.b /\ m.b <= m.p /\ m.p <= m.l /\ m.l <= m.u
theorem inv_next {A J R : Int} (hp : okPl A J R) {s0 a0 j0 s1 a1 j1 s2 a2 j2 : Int} (hl : okL3 s0 a0 j0 s1 a1 j1 s2 a2 j2) {M0 M1 M2 : Int -> Int} {ln : Int} {n : Nat} {T : Int -> Int} {m : QM} {lim lim' : Int} (hm : lim <= lim')
 (h : qinv A J (wth3 s0 a0 j0 s1 a1 j1 s2 a2 j2) (qmot M0 M1 M2 ln) m lim) : qinv A J (wth3 s0 a0 j0 s1 a1 j1 s2 a2 j2) (qmot M0 M1 M2 ln) (qnext A J (wth3 s0 a0 j0 s1 a1 j1 s2 a2 j2) (qmot M0 M1 M2 ln) n T m lim') lim' := by
 obtain ⟨hs, h1, h2, h3, h4⟩ := h
 rcases next_cases A J (wth3 s0 a0 j0 s1 a1 j1 s2 a2 j2) (qmot M0 M1 M2 ln) n T m lim' with ⟨k, _, e, k1, _, _, k2⟩ | ⟨_, e⟩
 . rw [e]
   exact ⟨k2, by show 0 <= m.p; omega, h3, h4, by show m.u <= m.u + _; omega⟩
 . rw [e]
   have hs' := safe_mono hm hs
   have hf : qfok A J m.v m.a = true := by unfold qsafe at hs; rw [Bool.and_eq_true] at hs; exact hs.1
   have hv := qready_v (by have := hp.2.1.1; omega) (qfok_iff.1 (stop_next hp hf).1).1
   exact ⟨safe_next hp hl hs', by show 0 <= m.p; omega, h3, h4, by show m.u <= m.u + _; omega⟩
theorem inv_ok {A J : Int} {W : List (List Int) -> Bool} {Mo : List (List Int) -> List (List Int)} {m : QM} {lim : Int} (h : qinv A J W Mo m lim) : qfok A J m.v m.a = true := by
 have := h.1; unfold qsafe at this; rw [Bool.and_eq_true] at this; exact this.1
theorem inv_bd {A J R : Int} (hp : okPl A J R) {W : List (List Int) -> Bool} {Mo : List (List Int) -> List (List Int)} {m : QM} {lim : Int} (h : qinv A J W Mo m lim) :
 (0 <= m.u /\ m.u <= qend m.u (qfu A J m.u m.v m.a)) /\ qend m.u (qfu A J m.u m.v m.a) <= lim * 256 /\ (0 <= m.v /\ m.v <= 16777216) /\ (-A <= m.a /\ m.a <= A) := by
 have hf := inv_ok h
 have hr := qready_iff.1 (qfok_iff.1 hf).1
 have hv := qready_v (by have := hp.2.1.1; omega) (qfok_iff.1 hf).1
 have he := qend_bd (u := m.u) (qsp_spd (v := m.v) (a := m.a) hp)
 have hs := h.1
 unfold qsafe at hs
 rw [Bool.and_eq_true, Bool.and_eq_true, decide_eq_true_iff] at hs
 have := h.2
 exact ⟨⟨by omega, he.1⟩, hs.2.1, hv, ⟨hr.1, hr.2.1⟩⟩
theorem inv_okN {A J R : Int} (hp : okPl A J R) {W : List (List Int) -> Bool} {Mo : List (List Int) -> List (List Int)} {m : QM} {lim : Int} (hl : lim <= 18014398509481984) (h : qinv A J W Mo m lim) : okN m := by
 have b := inv_bd hp h
 have := h.2
 have hA := hp.1
 exact ⟨by omega, by omega, by omega, by unfold okU; omega, by unfold okU; omega⟩
theorem rest_start {A J R : Int} (hp : okPl A J R) (u : Int) : qfok A J 0 0 = true /\ qfu A J u 0 0 = [] := by
 have hA := hp.1
 have hJ := hp.2.1
 have n1 := qst_nil (A := A) (J := J) (v := 0) (a := 0) (n := 4096) (by omega)
 have r : qready A J 0 0 = true := qready_iff.2 ⟨by omega, by omega, fun _ => by omega, by rw [qloss_le (by omega) (by omega)]; omega, by rw [qloss_le (by omega) (by omega)]; omega⟩
 have k := qfok_iff.2 ⟨r, n1.2⟩
 exact ⟨k, by unfold qfu; rw [qsp_of k, n1.1]; rfl⟩
theorem Lm_const {sp ac je : Int} {f : Nat -> Int} {n : Nat} (h0 : 0 <= sp) (h1 : 0 <= ac) (h2 : 0 <= je) (c : Int) (h : ∀ j, j < n -> f j = c) : Lm sp ac je f n :=
 ⟨fun j hj => by rw [h j (by omega), h (j + 1) (by omega)]; omega, fun j hj => by rw [h j (by omega), h (j + 1) (by omega), h (j + 2) (by omega)]; omega,
  fun j hj => by rw [h j (by omega), h (j + 1) (by omega), h (j + 2) (by omega), h (j + 3) (by omega)]; omega⟩
theorem six {p : Nat -> Prop} (h0 : p 0) (h1 : p 1) (h2 : p 2) (h3 : p 3) (h4 : p 4) (h5 : p 5) : ∀ j, j < 6 -> p j := fun j hj => by
 rcases (by omega : j = 0 ∨ j = 1 ∨ j = 2 ∨ j = 3 ∨ j = 4 ∨ j = 5) with rfl | rfl | rfl | rfl | rfl | rfl <;> assumption
theorem inv_start {A J R : Int} (hp : okPl A J R) {s0 a0 j0 s1 a1 j1 s2 a2 j2 : Int} (hl : okL3 s0 a0 j0 s1 a1 j1 s2 a2 j2) {M0 M1 M2 : Int -> Int} {ln u lim : Int} (h0 : 0 <= u) (h1 : u <= lim) :
 qinv A J (wth3 s0 a0 j0 s1 a1 j1 s2 a2 j2) (qmot M0 M1 M2 ln) (qstart u) lim := by
 have r := rest_start hp (u * 256)
 refine ⟨?_, by show 0 <= u * 256; omega, Int.le_refl _, Int.le_refl _, Int.le_refl _⟩
 unfold qsafe
 rw [Bool.and_eq_true, Bool.and_eq_true, decide_eq_true_iff]
 show qfok A J 0 0 = true /\ qend (u * 256) (qfu A J (u * 256) 0 0) <= lim * 256 /\ wth3 s0 a0 j0 s1 a1 j1 s2 a2 j2 (qmot M0 M1 M2 ln (qway (qstart u) (qfu A J (u * 256) 0 0))) = true
 rw [r.2]
 refine ⟨r.1, by show u * 256 <= lim * 256; omega, ?_⟩
 rw [wth3_iff]
 exact ⟨Lm_const hl.1.1.1 hl.1.2.1.1 hl.1.2.2.1 (M0 (clamp ln (u * 256 / 256))) (six rfl rfl rfl rfl rfl rfl),
  Lm_const hl.2.1.1.1 hl.2.1.2.1.1 hl.2.1.2.2.1 (M1 (clamp ln (u * 256 / 256))) (six rfl rfl rfl rfl rfl rfl),
  Lm_const hl.2.2.1.1 hl.2.2.2.1.1 hl.2.2.2.2.1 (M2 (clamp ln (u * 256 / 256))) (six rfl rfl rfl rfl rfl rfl)⟩
def kin (m : QM) : Prop := m.v = m.u - m.l /\ m.a = m.v - (m.l - m.p)
theorem kin_move {m : QM} (h : kin m) (v : Int) : kin (qmove m v) := by unfold kin qmove at *; dsimp only at *; omega
theorem hlv_le : ∀ (n : Nat) {k : Int}, ∀ j, j < (hlv n k).length -> 1 <= el (hlv n k) j /\ el (hlv n k) j <= k := by
 intro n
 induction n with
 | zero => intro k j hj; simp [hlv] at hj
 | succ n ih =>
  intro k j hj
  unfold hlv at hj ⊢
  by_cases h0 : 0 < k
  . rw [if_pos h0] at hj ⊢
    cases j with
    | zero => exact ⟨h0, Int.le_refl _⟩
    | succ j => have := ih (k := k / 2) j (by simpa using hj); rw [el_cons]; omega
  . rw [if_neg h0] at hj; simp at hj
theorem chg_le {J : Int} (h : 0 <= J) : ∀ j, j < (chg J).length -> -J <= el (chg J) j /\ el (chg J) j <= J := by
 intro j hj
 have hb := hlv_le J.toNat (k := J)
 unfold chg at hj ⊢
 rw [List.append_assoc, el_append]
 split
 . rename_i h1; have := hb j h1; omega
 . rw [el_append]
   split
   . rename_i h1 h2
     rw [show j - (hlv J.toNat J).length = 0 by simp at h2; omega]
     show -J <= (0 : Int) /\ (0 : Int) <= J
     omega
   . rename_i h1 h2
     simp [ngl] at hj h1 h2
     have hi : j - (hlv J.toNat J).length - 1 < (hlv J.toNat J).length := by omega
     rw [show List.length [[(0 : Int)]] = 1 from rfl, el_ngl (by simp; omega)]
     have e : el (hlv J.toNat J).reverse (j - (hlv J.toNat J).length - 1) = el (hlv J.toNat J) ((hlv J.toNat J).length - 1 - (j - (hlv J.toNat J).length - 1)) := by
      have : (hlv J.toNat J).reverse.getD (j - (hlv J.toNat J).length - 1) [] = (hlv J.toNat J).getD ((hlv J.toNat J).length - 1 - (j - (hlv J.toNat J).length - 1)) [] := by rw [List.getD_eq_getElem?_getD, List.getElem?_reverse hi, <- List.getD_eq_getElem?_getD]
      unfold el; rw [this]
     rw [e]
     have := hb ((hlv J.toNat J).length - 1 - (j - (hlv J.toNat J).length - 1)) (by omega)
     omega
theorem hold_next {A J R : Int} (hp : okPl A J R) {W : List (List Int) -> Bool} {Mo : List (List Int) -> List (List Int)} {n : Nat} {T : Int -> Int} {m : QM} {lim : Int} (hT : ∀ u, T u = 0) (hf : qfok A J m.v m.a = true) :
 qnext A J W Mo n T m lim = qmove m (m.v + qbrk A J m.v m.a) := by
 have hA := hp.1.1
 have hJ : 1 <= J := by have := hp.2.1.1; omega
 have hr := (qfok_iff.1 hf).1
 rcases next_cases A J W Mo n T m lim with ⟨k, hk, e, k0, k1, k2, _⟩ | ⟨_, e⟩
 . obtain ⟨_, j, hj, hj2⟩ := qpick_some hk
   have hb := chg_le (J := J) (by omega) j hj
   rw [hj2] at hb
   unfold qfit at k2
   rw [Bool.and_eq_true, Bool.and_eq_true, Bool.and_eq_true, decide_eq_true_iff, decide_eq_true_iff] at k2
   have h3 : m.v + (m.a + k) <= T (qmove m (m.v + (m.a + k))).u := k2.2.2.1
   rw [hT] at h3
   have h0 : m.v + (m.a + k) = 0 := by omega
   rw [h0] at k1
   obtain ⟨r1, r2, r3, r4, r5⟩ := qready_iff.1 k1
   have hv := qready_v hJ hr
   have e2 : qbrk A J m.v m.a = -m.v := by
    by_cases hz : m.v = 0
    . rw [hz] at hr ⊢; exact qbrk_rest hA hJ hr
    . refine qbrk_stop hA hJ hr (by omega) (by omega) ?_ (by omega)
      apply Classical.byContradiction
      intro hc
      rw [qloss_rec hJ (by omega)] at r4
      have := qloss_nn hJ (-(m.a + k) - J)
      omega
   rw [e, h0, e2, show m.v + -m.v = 0 by omega]
 . exact e
def ShS.W (x : ShS) : LL -> Bool := wth3 x.r.a.sp x.r.a.ac x.r.a.je x.r.b.sp x.r.b.ac x.r.b.je x.r.c.sp x.r.c.ac x.r.c.je
def ShS.Mo (x : ShS) : LL -> LL := qmot x.r.M0 x.r.M1 x.r.M2 x.r.ln
def ShS.T (x : ShS) (ho : Bool) (fo ro : Int) : Int -> Int := qtg ho fo ro x.R x.r.sg x.r.pk x.r.f x.r.ln
def ShS.nx (x : ShS) (ho : Bool) (fo ro : Int) (m : QM) (lim : Int) : QM := qnext x.A x.J x.W x.Mo x.r.sg.length (x.T ho fo ro) m lim
def xsg : LL := [[8000, 0, 0, 8000, 0, 50000, 0]]
def xleg : LegS := leg 0 0 0 xsg 0 0 0 1 1 1 0 8000
def ShS.inv (x : ShS) (m : QM) (lim : Int) : Prop := qinv x.A x.J x.W x.Mo m lim
end U
namespace Go.Proofs.YtoekmphdpepdbaaGreat
open Go Go.HL U
def SNxS (hargs : List HV) (pars : List (List HC)) : SR :=
 match hargs, pars with
 | [.agg cs, .agg [.int .i64 fo, .int .i64 ro, .bool ho, .bool so, .bool oo], .agg [.int .i64 mu, .int .i64 mv, .int .i64 ma, .int .i64 ml, .int .i64 mp, .int .i64 mb], .ce (.int .i64 lim)], [] =>
  .all (∃ x, (okShop x /\ cs = shopC x) /\ (0 <= lim /\ lim <= x.r.ln) /\ ∃ l, l <= lim /\ x.inv ⟨mu, mv, ma, ml, mp, mb⟩ l) QM (fun y => ∀ x, cs = shopC x -> y = x.nx ho fo ro ⟨mu, mv, ma, ml, mp, mb⟩ lim)
   (fun y => ⟨.agg [I6 y.u, I6 y.v, I6 y.a, I6 y.l, I6 y.p, I6 y.b], false, [], []⟩)
 | _, _ => .fail
def tabNxS : List (FuncId × HL.Spec) := [(34, SPNext)]
noncomputable def CNxS : Ctx := ⟨Tryz.prog, gam tabNxS, Tryz.f23.ntmps, [], []⟩
theorem vcNxS (x : ShS) (fo ro mu mv ma ml mp mb lim : Int) (ho so oo : Bool) (Q : Res -> Prop) : (nfun true CNxS Tryz.f23 (bodyOf Tryz.f23) [.agg [I6 x.r.s0, I6 x.r.s1, I6 x.r.s2, .sl false [4, 4, 4, 4, 4, 4, 4] x.r.sg, .sl false [4, 4, 4] x.r.mks, I6 x.r.a.st, I6 x.r.a.sp, I6 x.r.a.ac, I6 x.r.a.je, I6 (-16777216), I6 16777216, I6 x.r.a.bl, I6 x.r.a.og, I6 x.r.a.sg, .sl false [4] x.r.a.pit, I6 x.r.b.st, I6 x.r.b.sp, I6 x.r.b.ac, I6 x.r.b.je, I6 (-16777216), I6 16777216, I6 x.r.b.bl, I6 x.r.b.og, I6 x.r.b.sg, .sl false [4] x.r.b.pit, I6 x.r.c.st, I6 x.r.c.sp, I6 x.r.c.ac, I6 x.r.c.je, I6 (-16777216), I6 16777216, I6 x.r.c.bl, I6 x.r.c.og, I6 x.r.c.sg, .sl false [4] x.r.c.pit, .sl false [4, 4, 4, 4, 4, 4, 4, 4, 4, 4] x.r.pk, I6 x.r.ln, I6 x.r.f, I6 x.r.d0, I6 x.r.d1, I6 x.r.d2, I6 x.A, I6 x.J, I6 x.R, I6 x.r.ln], .agg [I6 fo, I6 ro, .bool ho, .bool so, .bool oo], .agg [I6 mu, I6 mv, I6 ma, I6 ml, I6 mp, I6 mb], .ce (I6 lim)] [] Q) =
 (((okPT x.r.s0 x.r.s1 x.r.s2 x.r.sg x.r.pk x.r.ln x.r.f /\ okA3 x.r.a.st x.r.a.og x.r.a.sg x.r.a.pit x.r.a.bl x.r.b.st x.r.b.og x.r.b.sg x.r.b.pit x.r.b.bl x.r.c.st x.r.c.og x.r.c.sg x.r.c.pit x.r.c.bl /\ okL3 x.r.a.sp x.r.a.ac x.r.a.je x.r.b.sp x.r.b.ac x.r.b.je x.r.c.sp x.r.c.ac x.r.c.je) /\ okPl x.A x.J x.R /\ okN { u := mu, v := mv, a := ma, l := ml, p := mp, b := mb } /\ 0 <= lim /\ lim <= 18014398509481984) /\ (∃ (x_1 : QM), x_1 = qnext x.A x.J (wth3 x.r.a.sp x.r.a.ac x.r.a.je x.r.b.sp x.r.b.ac x.r.b.je x.r.c.sp x.r.c.ac x.r.c.je) (qmot (mtr x.r.a.st x.r.a.og x.r.a.sg x.r.a.pit x.r.a.bl x.r.s0 x.r.sg (0 : Nat) x.r.pk x.r.f x.r.d0) (mtr x.r.b.st x.r.b.og x.r.b.sg x.r.b.pit x.r.b.bl x.r.s1 x.r.sg (1 : Nat) x.r.pk x.r.f x.r.d1) (mtr x.r.c.st x.r.c.og x.r.c.sg x.r.c.pit x.r.c.bl x.r.s2 x.r.sg (2 : Nat) x.r.pk x.r.f x.r.d2) x.r.ln) (List.length x.r.sg) (qtg ho fo ro x.R x.r.sg x.r.pk x.r.f x.r.ln) { u := mu, v := mv, a := ma, l := ml, p := mp, b := mb } lim) /\
 ∀ (x_1 : QM), x_1 = qnext x.A x.J (wth3 x.r.a.sp x.r.a.ac x.r.a.je x.r.b.sp x.r.b.ac x.r.b.je x.r.c.sp x.r.c.ac x.r.c.je) (qmot (mtr x.r.a.st x.r.a.og x.r.a.sg x.r.a.pit x.r.a.bl x.r.s0 x.r.sg (0 : Nat) x.r.pk x.r.f x.r.d0) (mtr x.r.b.st x.r.b.og x.r.b.sg x.r.b.pit x.r.b.bl x.r.s1 x.r.sg (1 : Nat) x.r.pk x.r.f x.r.d1) (mtr x.r.c.st x.r.c.og x.r.c.sg x.r.c.pit x.r.c.bl x.r.s2 x.r.sg (2 : Nat) x.r.pk x.r.f x.r.d2) x.r.ln) (List.length x.r.sg) (qtg ho fo ro x.R x.r.sg x.r.pk x.r.f x.r.ln) { u := mu, v := mv, a := ma, l := ml, p := mp, b := mb } lim -> Q ⟨.agg [I6 x_1.u, I6 x_1.v, I6 x_1.a, I6 x_1.l, I6 x_1.p, I6 x_1.b], false, [], []⟩) := by kernel_rfl
def SUntR (hargs : List HV) (pars : List (List HC)) : SR :=
 match hargs, pars with
 | [.ce (.int .i64 u)], [] => .det (-9223372036854775808 <= u /\ u <= 9223372036854775807) ⟨.ce (I6 (u / 256)), false, [], []⟩
 | _, _ => .fail
def SFlr (hargs : List HV) (pars : List (List HC)) : SR :=
 match hargs, pars with
 | [.ce (.int .i64 a), .ce (.int .i64 b)], [] => .det ((-9223372036854775808 <= a /\ a <= 9223372036854775807) /\ b = 256) ⟨.ce (I6 (a / 256)), false, [], []⟩
 | _, _ => .fail
noncomputable def CFlr : Ctx := ⟨Tryz.prog, gam [], Tryz.f29.ntmps, [], []⟩
theorem vcFlr (a b : Int) (Q : Res -> Prop) : (nfun true CFlr Tryz.f29 (bodyOf Tryz.f29) [.ce (I6 a), .ce (I6 b)] [] Q) =
 (b ≠ 0 /\ R6 (Int.tdiv a b) /\ ∀ x1, x1 = Int.tdiv a b -> b ≠ 0 /\ ∀ x2, x2 = Int.tmod a b -> (decide (x2 < 0) = true -> R6 (x1 - 1) /\ ∀ x3, x3 = x1 - 1 -> Q ⟨.ce (I6 x3), false, [], []⟩) /\ (decide (x2 < 0) = false -> Q ⟨.ce (I6 x1), false, [], []⟩)) := by kernel_rfl
def tabUntR : List (FuncId × HL.Spec) := [(29, SFlr)]
noncomputable def CUntR : Ctx := ⟨Tryz.prog, gam tabUntR, Tryz.f46.ntmps, [], []⟩
theorem vcUntR (u : Int) (Q : Res -> Prop) : (nfun true CUntR Tryz.f46 (bodyOf Tryz.f46) [.ce (I6 u)] [] Q) =
 ((R6 u /\ (256 : Int) = 256) /\ ∀ x1, x1 = u / 256 -> Q ⟨.ce (I6 x1), false, [], []⟩) := by kernel_rfl
def SMoS (hargs : List HV) (pars : List (List HC)) : SR :=
 match hargs, pars with
 | [.agg cs, .agg [.int .i64 mu, .int .i64 mv, .int .i64 ma, .int .i64 ml, .int .i64 mp, .int .i64 mb]], [] =>
  .all ((∃ x, okShop x /\ cs = shopC x) /\ okU mu) (Int × Int × Int) (fun y => ∀ x, cs = shopC x -> y = (x.r.M0 (clamp x.r.ln (mu / 256)), x.r.M1 (clamp x.r.ln (mu / 256)), x.r.M2 (clamp x.r.ln (mu / 256)))) (fun y => ⟨.agg [I6 y.1, I6 y.2.1, I6 y.2.2], false, [], []⟩)
 | _, _ => .fail
def tabMoS : List (FuncId × HL.Spec) := [(46, SUntR), (54, SMotors)]
noncomputable def CMoS : Ctx := ⟨Tryz.prog, gam tabMoS, Tryz.f25.ntmps, [], []⟩
theorem vcMoS (x : ShS) (mu mv ma ml mp mb : Int) (Q : Res -> Prop) : (nfun true CMoS Tryz.f25 (bodyOf Tryz.f25) [.agg [I6 x.r.s0, I6 x.r.s1, I6 x.r.s2, .sl false [4, 4, 4, 4, 4, 4, 4] x.r.sg, .sl false [4, 4, 4] x.r.mks, I6 x.r.a.st, I6 x.r.a.sp, I6 x.r.a.ac, I6 x.r.a.je, I6 (-16777216), I6 16777216, I6 x.r.a.bl, I6 x.r.a.og, I6 x.r.a.sg, .sl false [4] x.r.a.pit, I6 x.r.b.st, I6 x.r.b.sp, I6 x.r.b.ac, I6 x.r.b.je, I6 (-16777216), I6 16777216, I6 x.r.b.bl, I6 x.r.b.og, I6 x.r.b.sg, .sl false [4] x.r.b.pit, I6 x.r.c.st, I6 x.r.c.sp, I6 x.r.c.ac, I6 x.r.c.je, I6 (-16777216), I6 16777216, I6 x.r.c.bl, I6 x.r.c.og, I6 x.r.c.sg, .sl false [4] x.r.c.pit, .sl false [4, 4, 4, 4, 4, 4, 4, 4, 4, 4] x.r.pk, I6 x.r.ln, I6 x.r.f, I6 x.r.d0, I6 x.r.d1, I6 x.r.d2, I6 x.A, I6 x.J, I6 x.R, I6 x.r.ln], .agg [I6 mu, I6 mv, I6 ma, I6 ml, I6 mp, I6 mb]] [] Q) =
 (R6 mu /\ ∀ x1, x1 = mu / 256 -> (okLen x.r.sg /\ okPts x.r.s0 x.r.s1 x.r.s2 x.r.sg /\ okTrk x.r.pk x.r.ln /\ okMA x.r.a.st x.r.a.og x.r.a.sg x.r.a.pit x.r.a.bl /\ okMA x.r.b.st x.r.b.og x.r.b.sg x.r.b.pit x.r.b.bl /\ okMA x.r.c.st x.r.c.og x.r.c.sg x.r.c.pit x.r.c.bl /\ 0 <= x.r.f /\ x.r.f <= 18014398509481984) /\ ∀ x2, x2 = tmot x.r.a.st x.r.a.og x.r.a.sg x.r.a.pit x.r.a.bl (ptAt x.r.s0 x.r.sg (0 : Nat) (tplace x.r.pk x.r.f (clamp x.r.ln x1))) x.r.pk x.r.d0 (clamp x.r.ln x1) (0 : Nat) -> ∀ x3, x3 = tmot x.r.b.st x.r.b.og x.r.b.sg x.r.b.pit x.r.b.bl (ptAt x.r.s1 x.r.sg (1 : Nat) (tplace x.r.pk x.r.f (clamp x.r.ln x1))) x.r.pk x.r.d1 (clamp x.r.ln x1) (1 : Nat) -> ∀ x4, x4 = tmot x.r.c.st x.r.c.og x.r.c.sg x.r.c.pit x.r.c.bl (ptAt x.r.s2 x.r.sg (2 : Nat) (tplace x.r.pk x.r.f (clamp x.r.ln x1))) x.r.pk x.r.d2 (clamp x.r.ln x1) (2 : Nat) ->
 Q ⟨.agg [I6 x2, I6 x3, I6 x4], false, [], []⟩) := by kernel_rfl
def SStr (hargs : List HV) (pars : List (List HC)) : SR :=
 match hargs, pars with
 | [], [] => .all True LegS (fun x => x = xleg) (fun x => ⟨.tup [.agg [I6 0, I6 0, I6 0, .sl false [4, 4, 4, 4, 4, 4, 4] xsg, .sl false [4, 4, 4] []], .agg [I6 8, I6 1000, I6 1000, I6 1000, I6 (-16777216), I6 16777216, I6 0, I6 0, I6 0, .sl false [4] [], I6 8, I6 1000, I6 1000, I6 1000, I6 (-16777216), I6 16777216, I6 0, I6 0, I6 0, .sl false [4] [], I6 8, I6 1000, I6 1000, I6 1000, I6 (-16777216), I6 16777216, I6 0, I6 0, I6 0, .sl false [4] []], .agg [.sl false [4, 4, 4, 4, 4, 4, 4, 4, 4, 4] x.pk, I6 x.ln, I6 0, I6 1, I6 1, I6 1]], false, [], []⟩)
 | _, _ => .fail
def tabStr : List (FuncId × HL.Spec) := [(39, SLeg)]
noncomputable def CStr : Ctx := ⟨Tryz.prog, gam tabStr, Tryz.f33.ntmps, [], []⟩
theorem vcStr (Q : Res -> Prop) : (nfun true CStr Tryz.f33 (bodyOf Tryz.f33) [] [] Q) =
 ((okLen [[(8000 : Int), (0 : Int), (0 : Int), (8000 : Int), (0 : Int), (50000 : Int), (0 : Int)]] /\ okPts (0 : Int) (0 : Int) (0 : Int) [[(8000 : Int), (0 : Int), (0 : Int), (8000 : Int), (0 : Int), (50000 : Int), (0 : Int)]] /\ okB3 (0 : Int) (0 : Int) (0 : Int)) /\ (∃ (x : LegS), x = leg (0 : Int) (0 : Int) (0 : Int) [[(8000 : Int), (0 : Int), (0 : Int), (8000 : Int), (0 : Int), (50000 : Int), (0 : Int)]] (0 : Int) (0 : Int) (0 : Int) (1 : Int) (1 : Int) (1 : Int) (0 : Int) (8000 : Int)) /\ ∀ (x : LegS), x = leg (0 : Int) (0 : Int) (0 : Int) [[(8000 : Int), (0 : Int), (0 : Int), (8000 : Int), (0 : Int), (50000 : Int), (0 : Int)]] (0 : Int) (0 : Int) (0 : Int) (1 : Int) (1 : Int) (1 : Int) (0 : Int) (8000 : Int) -> Q ⟨.tup [.agg [I6 0, I6 0, I6 0, .sl false [4, 4, 4, 4, 4, 4, 4] [[(8000 : Int), (0 : Int), (0 : Int), (8000 : Int), (0 : Int), (50000 : Int), (0 : Int)]], .sl false [4, 4, 4] []], .agg [I6 8, I6 1000, I6 1000, I6 1000, I6 (-16777216), I6 16777216, I6 0, I6 0, I6 0, .sl false [4] [], I6 8, I6 1000, I6 1000, I6 1000, I6 (-16777216), I6 16777216, I6 0, I6 0, I6 0, .sl false [4] [], I6 8, I6 1000, I6 1000, I6 1000, I6 (-16777216), I6 16777216, I6 0, I6 0, I6 0, .sl false [4] []], .agg [.sl false [4, 4, 4, 4, 4, 4, 4, 4, 4, 4] x.pk, I6 x.ln, I6 0, I6 1, I6 1, I6 1]], false, [], []⟩) := by kernel_rfl
def tabAw36 : List (FuncId × HL.Spec) := [(33, SStr), (20, SQStart), (34, SPNext)]
noncomputable def CAw36 : Ctx := ⟨Tryz.prog, gam tabAw36, Tryz.f11.ntmps, [], []⟩
theorem vcAw36 (Q : Res -> Prop) : (nfun true CAw36 Tryz.f11 (bodyOf Tryz.f11) [] [] Q) =
 (True /\ (∃ (x : LegS), x = xleg) /\ ∀ (x : LegS), x = xleg -> ((-18014398509481984 : Int) <= 0 /\ (0 : Int) <= 18014398509481984) /\ (∃ (x : QM), x = qstart (0 : Int)) /\ ∀ (x_1 : QM), x_1 = qstart (0 : Int) -> ((okPT (0 : Int) (0 : Int) (0 : Int) xsg x.pk x.ln (0 : Int) /\ okA3 (8 : Int) (0 : Int) (0 : Int) [] (0 : Int) (8 : Int) (0 : Int) (0 : Int) [] (0 : Int) (8 : Int) (0 : Int) (0 : Int) [] (0 : Int) /\ okL3 (1000 : Int) (1000 : Int) (1000 : Int) (1000 : Int) (1000 : Int) (1000 : Int) (1000 : Int) (1000 : Int) (1000 : Int)) /\ okPl (100 : Int) (8 : Int) (1 : Int) /\ okN { u := x_1.u, v := x_1.v, a := x_1.a, l := x_1.l, p := x_1.p, b := x_1.b } /\ (0 : Int) <= 8000 /\ (8000 : Int) <= 18014398509481984) /\ (∃ (x_2 : QM), x_2 = qnext (100 : Int) (8 : Int) (wth3 (1000 : Int) (1000 : Int) (1000 : Int) (1000 : Int) (1000 : Int) (1000 : Int) (1000 : Int) (1000 : Int) (1000 : Int)) (qmot (mtr (8 : Int) (0 : Int) (0 : Int) [] (0 : Int) (0 : Int) xsg (0 : Nat) x.pk (0 : Int) (1 : Int)) (mtr (8 : Int) (0 : Int) (0 : Int) [] (0 : Int) (0 : Int) xsg (1 : Nat) x.pk (0 : Int) (1 : Int)) (mtr (8 : Int) (0 : Int) (0 : Int) [] (0 : Int) (0 : Int) xsg (2 : Nat) x.pk (0 : Int) (1 : Int)) x.ln) (1 : Nat) (qtg false (100 : Int) (100 : Int) (1 : Int) xsg x.pk (0 : Int) x.ln) { u := x_1.u, v := x_1.v, a := x_1.a, l := x_1.l, p := x_1.p, b := x_1.b } (8000 : Int)) /\
 ∀ (x_2 : QM), x_2 = qnext (100 : Int) (8 : Int) (wth3 (1000 : Int) (1000 : Int) (1000 : Int) (1000 : Int) (1000 : Int) (1000 : Int) (1000 : Int) (1000 : Int) (1000 : Int)) (qmot (mtr (8 : Int) (0 : Int) (0 : Int) [] (0 : Int) (0 : Int) xsg (0 : Nat) x.pk (0 : Int) (1 : Int)) (mtr (8 : Int) (0 : Int) (0 : Int) [] (0 : Int) (0 : Int) xsg (1 : Nat) x.pk (0 : Int) (1 : Int)) (mtr (8 : Int) (0 : Int) (0 : Int) [] (0 : Int) (0 : Int) xsg (2 : Nat) x.pk (0 : Int) (1 : Int)) x.ln) (1 : Nat) (qtg false (100 : Int) (100 : Int) (1 : Int) xsg x.pk (0 : Int) x.ln) { u := x_1.u, v := x_1.v, a := x_1.a, l := x_1.l, p := x_1.p, b := x_1.b } (8000 : Int) -> Q ⟨.ce (.bool (x_2.u == 8 && (x_2.v == 8 && (x_2.a == 8 && (x_2.l == 0 && (x_2.p == 0 && (x_2.b == 0 && true))))))), false, [], []⟩) := by kernel_rfl
end Go.Proofs.YtoekmphdpepdbaaGreat
namespace U
theorem shop_pre {x : ShS} (h : okShop x) : (okPT x.r.s0 x.r.s1 x.r.s2 x.r.sg x.r.pk x.r.ln x.r.f /\ okA3 x.r.a.st x.r.a.og x.r.a.sg x.r.a.pit x.r.a.bl x.r.b.st x.r.b.og x.r.b.sg x.r.b.pit x.r.b.bl x.r.c.st x.r.c.og x.r.c.sg x.r.c.pit x.r.c.bl /\
 okL3 x.r.a.sp x.r.a.ac x.r.a.je x.r.b.sp x.r.b.ac x.r.b.je x.r.c.sp x.r.c.ac x.r.c.je) /\ okPl x.A x.J x.R /\ (0 <= x.r.ln /\ x.r.ln <= 1099511627776) := by
 obtain ⟨hr, hf, hA, hJ, hR⟩ := h
 have P := okRun_pre hr
 have li : ∀ a : AxV, okAx a -> okLi a.sp a.ac a.je := fun a h => by
  have h1 := h.2.1
  have h2 := h.2.2.1
  have h3 := h.2.2.2.1
  exact ⟨by omega, by omega, by omega⟩
 exact ⟨⟨⟨P.1, P.2.1, P.2.2.1, P.2.2.2.2.2.2⟩, ⟨P.2.2.2.1, P.2.2.2.2.1, P.2.2.2.2.2.1⟩, li _ hr.2.1, li _ hr.2.2.1, li _ hr.2.2.2.1⟩, ⟨by omega, by omega, by omega⟩, P.2.2.1.2.1.1, okRun_ln hr⟩
theorem shopC_inj {x y : ShS} (h : shopC x = shopC y) : x = { y with r := { y.r with t := x.r.t } } := by
 obtain ⟨⟨x0, x1, x2, x3, x4, ⟨a0, a1, a2, a3, a4, a5, a6, a7⟩, ⟨b0, b1, b2, b3, b4, b5, b6, b7⟩, ⟨c0, c1, c2, c3, c4, c5, c6, c7⟩, x5, x6, x7, x8, x9, x10, x11⟩, xA, xJ, xR⟩ := x
 obtain ⟨⟨y0, y1, y2, y3, y4, ⟨e0, e1, e2, e3, e4, e5, e6, e7⟩, ⟨f0, f1, f2, f3, f4, f5, f6, f7⟩, ⟨g0, g1, g2, g3, g4, g5, g6, g7⟩, y5, y6, y7, y8, y9, y10, y11⟩, yA, yJ, yR⟩ := y
 unfold shopC at h
 simp only [List.cons.injEq, Go.HL.HC.int.injEq, Go.HL.HC.sl.injEq, true_and, and_true] at h
 simp only [h]
theorem nx_eq {x y : ShS} (h : shopC x = shopC y) (ho : Bool) (fo ro : Int) (m : QM) (lim : Int) : x.nx ho fo ro m lim = y.nx ho fo ro m lim := by
 rw [shopC_inj h]; rfl
theorem mo_eq {x y : ShS} (h : shopC x = shopC y) (u : Int) : (x.r.M0 (clamp x.r.ln u), x.r.M1 (clamp x.r.ln u), x.r.M2 (clamp x.r.ln u)) = (y.r.M0 (clamp y.r.ln u), y.r.M1 (clamp y.r.ln u), y.r.M2 (clamp y.r.ln u)) := by
 rw [shopC_inj h]; rfl
theorem okShop_ex : ∃ x, okShop x := by
 obtain ⟨a, ha⟩ := Go.Proofs.YtoekmphdpepdbaaGreat.okAx_ex
 have hp : okPath 0 0 0 [] [] := ⟨by unfold b3; decide, okSegs_nil _ _ _, by decide, by decide⟩
 have h0 : (0 : Int) <= 0 /\ 0 <= plen [] := by decide
 exact ⟨⟨⟨0, 0, 0, [], [], a, a, a, 1, 1, 1, 0, 0, _, _⟩, 1, 2, 1⟩, ⟨hp, ha, ha, ha, ⟨.inl rfl, .inl rfl, .inl rfl⟩, h0, h0, rfl, rfl⟩, rfl, (by decide : (1 : Int) <= 1 /\ (1 : Int) <= 900), (by decide : (2 : Int) <= 2 /\ (2 : Int) <= 201), (by decide : (1 : Int) <= 1 /\ (1 : Int) <= 16000)⟩
theorem xnext : ((qnext 100 8 (wth3 1000 1000 1000 1000 1000 1000 1000 1000 1000) (qmot (mtr 8 0 0 [] 0 0 xsg 0 xleg.pk 0 1) (mtr 8 0 0 [] 0 0 xsg 1 xleg.pk 0 1) (mtr 8 0 0 [] 0 0 xsg 2 xleg.pk 0 1) xleg.ln) 1 (qtg false 100 100 1 xsg xleg.pk 0 xleg.ln) (qstart 0) 8000).u = 8 /\
 (qnext 100 8 (wth3 1000 1000 1000 1000 1000 1000 1000 1000 1000) (qmot (mtr 8 0 0 [] 0 0 xsg 0 xleg.pk 0 1) (mtr 8 0 0 [] 0 0 xsg 1 xleg.pk 0 1) (mtr 8 0 0 [] 0 0 xsg 2 xleg.pk 0 1) xleg.ln) 1 (qtg false 100 100 1 xsg xleg.pk 0 xleg.ln) (qstart 0) 8000).v = 8 /\
 (qnext 100 8 (wth3 1000 1000 1000 1000 1000 1000 1000 1000 1000) (qmot (mtr 8 0 0 [] 0 0 xsg 0 xleg.pk 0 1) (mtr 8 0 0 [] 0 0 xsg 1 xleg.pk 0 1) (mtr 8 0 0 [] 0 0 xsg 2 xleg.pk 0 1) xleg.ln) 1 (qtg false 100 100 1 xsg xleg.pk 0 xleg.ln) (qstart 0) 8000).a = 8) /\
 ((qnext 100 8 (wth3 1000 1000 1000 1000 1000 1000 1000 1000 1000) (qmot (mtr 8 0 0 [] 0 0 xsg 0 xleg.pk 0 1) (mtr 8 0 0 [] 0 0 xsg 1 xleg.pk 0 1) (mtr 8 0 0 [] 0 0 xsg 2 xleg.pk 0 1) xleg.ln) 1 (qtg false 100 100 1 xsg xleg.pk 0 xleg.ln) (qstart 0) 8000).l = 0 /\
 (qnext 100 8 (wth3 1000 1000 1000 1000 1000 1000 1000 1000 1000) (qmot (mtr 8 0 0 [] 0 0 xsg 0 xleg.pk 0 1) (mtr 8 0 0 [] 0 0 xsg 1 xleg.pk 0 1) (mtr 8 0 0 [] 0 0 xsg 2 xleg.pk 0 1) xleg.ln) 1 (qtg false 100 100 1 xsg xleg.pk 0 xleg.ln) (qstart 0) 8000).p = 0 /\
 (qnext 100 8 (wth3 1000 1000 1000 1000 1000 1000 1000 1000 1000) (qmot (mtr 8 0 0 [] 0 0 xsg 0 xleg.pk 0 1) (mtr 8 0 0 [] 0 0 xsg 1 xleg.pk 0 1) (mtr 8 0 0 [] 0 0 xsg 2 xleg.pk 0 1) xleg.ln) 1 (qtg false 100 100 1 xsg xleg.pk 0 xleg.ln) (qstart 0) 8000).b = 0) := by decide +kernel
end U
namespace Go.Proofs.YtoekmphdpepdbaaGreat
open Go Go.HL U
attribute [local irreducible] hfun bodyT fragT
theorem sNxS : Sound Tryz.prog 23 SNxS := by
 refine sound_of (C := CNxS) tabNxS Tryz.func23 (by kernel_rfl) (by decide +kernel) (by kernel_rfl) rfl ⟨sNx, trivial⟩ (loops0 (by kernel_rfl)) ?_
 intro hargs pars R h
 unfold SNxS at h
 split at h
 case h_2 => exfalso; exact h
 rename_i cs fo ro ho so oo mu mv ma ml mp mb lim
 obtain ⟨⟨x, ⟨hx, ec⟩, hlim, l, hl, hi⟩, _, hR⟩ := h
 subst ec
 have P := shop_pre hx
 refine byVC (vcNxS x fo ro mu mv ma ml mp mb lim ho so oo R) ⟨⟨P.1, P.2.1, inv_okN P.2.1 (by omega) hi, by omega, by omega⟩, ⟨_, rfl⟩, fun y ey => hR y (fun x' e' => ?_)⟩
 rw [<- nx_eq e', ey]; rfl
theorem sFlr : Sound Tryz.prog 29 SFlr := by
 refine sound_of (C := CFlr) [] Tryz.func29 (by kernel_rfl) (by decide +kernel) (by kernel_rfl) rfl trivial (loops0 (by kernel_rfl)) ?_
 intro hargs pars R h
 unfold SFlr at h
 split at h
 case h_2 => exfalso; exact h
 rename_i u b
 obtain ⟨⟨hu, rfl⟩, hR⟩ := h
 have h1 : u.tdiv 256 = if 0 <= u then u / 256 else -((-u) / 256) := tdiv_ite (by decide)
 have h2 : u.tmod 256 = if 0 <= u then u % 256 else -((-u) % 256) := tmod_ite (by decide)
 refine byVC (vcFlr u 256 R) ⟨by decide, ?_⟩
 rw [h1, h2]
 by_cases h0 : 0 <= u
 . rw [if_pos h0, if_pos h0]
   refine ⟨by omega, fun x1 e1 => ⟨by decide, fun x2 e2 => ⟨fun g => by have := odt g; omega, fun _ => ?_⟩⟩⟩
   rw [e1]; exact hR
 . rw [if_neg h0, if_neg h0]
   refine ⟨by omega, fun x1 e1 => ⟨by decide, fun x2 e2 => ⟨fun g => ⟨by omega, fun x3 e3 => ?_⟩, fun g => ?_⟩⟩⟩
   . have := odt g
     rw [show x3 = u / 256 by omega]; exact hR
   . have := odf g
     rw [show x1 = u / 256 by omega]; exact hR
theorem sUntR : Sound Tryz.prog 46 SUntR := by
 refine sound_of (C := CUntR) tabUntR Tryz.func46 (by kernel_rfl) (by decide +kernel) (by kernel_rfl) rfl ⟨sFlr, trivial⟩ (loops0 (by kernel_rfl)) ?_
 intro hargs pars R h
 unfold SUntR at h
 split at h
 case h_2 => exfalso; exact h
 rename_i u
 obtain ⟨hu, hR⟩ := h
 exact byVC (vcUntR u R) ⟨⟨hu, rfl⟩, fun x1 e1 => by rw [e1]; exact hR⟩
theorem sMoS : Sound Tryz.prog 25 SMoS := by
 refine sound_of (C := CMoS) tabMoS Tryz.func25 (by kernel_rfl) (by decide +kernel) (by kernel_rfl) rfl ⟨sUntR, sMotors, trivial⟩ (loops0 (by kernel_rfl)) ?_
 intro hargs pars R h
 unfold SMoS at h
 split at h
 case h_2 => exfalso; exact h
 rename_i cs mu mv ma ml mp mb
 obtain ⟨⟨⟨x, hx, ec⟩, hu⟩, _, hR⟩ := h
 subst ec
 have P := (shop_pre hx).1
 unfold okU at hu
 refine byVC (vcMoS x mu mv ma ml mp mb R) ⟨by omega, fun x1 e1 => ⟨⟨P.1.1, P.1.2.1, P.1.2.2.1, P.2.1.1, P.2.1.2.1, P.2.1.2.2, P.1.2.2.2⟩, fun x2 e2 x3 e3 x4 e4 => hR (x2, x3, x4) (fun x' e' => ?_)⟩⟩
 rw [<- mo_eq e', e2, e3, e4, e1]; rfl
theorem x_ok : okLen xsg /\ okPts 0 0 0 xsg /\ okB3 0 0 0 := by
 refine ⟨⟨by decide, fun j hj => ?_⟩, ⟨by decide, by decide, by decide, fun j hj => ?_⟩, by unfold okB3; decide⟩
 . obtain rfl : j = 0 := by simp [xsg] at hj; exact hj
   decide
 . obtain rfl : j = 0 := by simp [xsg] at hj; exact hj
   decide
theorem sStr : Sound Tryz.prog 33 SStr := by
 refine sound_of (C := CStr) tabStr Tryz.func33 (by kernel_rfl) (by decide +kernel) (by kernel_rfl) rfl ⟨sLeg, trivial⟩ (loops0 (by kernel_rfl)) ?_
 intro hargs pars R h
 unfold SStr at h
 split at h
 case h_2 => exfalso; exact h
 obtain ⟨_, _, hR⟩ := h
 exact byVC (vcStr R) ⟨x_ok, ⟨_, rfl⟩, fun x e => hR x e⟩
theorem sAw36 : Sound Tryz.prog 11 STrue0 := by
 refine sound_of (C := CAw36) tabAw36 Tryz.func11 (by kernel_rfl) (by decide +kernel) (by kernel_rfl) rfl ⟨sStr, sQStart, sNx, trivial⟩ (loops0 (by kernel_rfl)) ?_
 intro hargs pars R h
 unfold STrue0 at h
 split at h
 case h_2 => exfalso; exact h
 obtain ⟨_, _, hR⟩ := h
 have ht : okTrk xleg.pk xleg.ln := leg_ok (d0 := 1) (d1 := 1) (d2 := 1) x_ok.1 x_ok.2.2 (by decide) (by decide)
 have ma : okMA 8 0 0 [] 0 := ⟨by decide, ⟨fun h => by simp at h, by decide, by decide, by decide, fun j hj => by simp at hj⟩, by decide⟩
 refine byVC (vcAw36 R) ⟨trivial, ⟨_, rfl⟩, fun x ex => ⟨by decide, ⟨_, rfl⟩, fun y ey => ?_⟩⟩
 subst ex ey
 refine ⟨⟨⟨⟨x_ok.1, x_ok.2.1, ht, by decide⟩, ⟨ma, ma, ma⟩, ⟨by unfold okLi; decide, by unfold okLi; decide, by unfold okLi; decide⟩⟩, ⟨by decide, by decide, by decide⟩, ⟨by decide, by decide, by decide, by unfold okU; decide, by unfold okU; decide⟩, by decide, by decide⟩, ⟨_, rfl⟩, fun z ez => hR _ ?_⟩
 subst ez
 obtain ⟨⟨q1, q2, q3⟩, q4, q5, q6⟩ := xnext
 simp only [Bool.and_eq_true, beq_iff_eq]
 exact ⟨q1, q2, q3, q4, q5, q6, trivial⟩
end Go.Proofs.YtoekmphdpepdbaaGreat
namespace U
theorem xinv_next {x : ShS} (h : okShop x) {ho : Bool} {fo ro : Int} {m : QM} {l lim : Int} (hm : l <= lim) (hi : x.inv m l) : x.inv (x.nx ho fo ro m lim) lim :=
 inv_next (shop_pre h).2.1 (shop_pre h).1.2.2 hm hi
theorem xinv_bd {x : ShS} (h : okShop x) {m : QM} {lim : Int} (hi : x.inv m lim) :
 qfok x.A x.J m.v m.a = true /\ (0 <= m.u /\ m.u <= qend m.u (qfu x.A x.J m.u m.v m.a)) /\ qend m.u (qfu x.A x.J m.u m.v m.a) <= lim * 256 /\ (0 <= m.v /\ m.v <= 16777216) /\ (-x.A <= m.a /\ m.a <= x.A) :=
 ⟨inv_ok hi, inv_bd (shop_pre h).2.1 hi⟩
theorem xinv_V {x : ShS} (h : okShop x) {m : QM} {lim : Int} (hl : lim <= x.r.ln) (hi : x.inv m lim) : okU m.u /\ okU m.l /\ okU m.p /\ okU m.b := by
 have b := (xinv_bd h hi).2
 have := (shop_pre h).2.2
 have := hi.2
 unfold okU
 omega
theorem xinv_start {x : ShS} (h : okShop x) {u lim : Int} (h0 : 0 <= u) (h1 : u <= lim) : x.inv (qstart u) lim := inv_start (shop_pre h).2.1 (shop_pre h).1.2.2 h0 h1
theorem xinv_eq {x y : ShS} (h : shopC x = shopC y) {m : QM} {lim : Int} (hi : x.inv m lim) : y.inv m lim := by
 rw [shopC_inj h] at hi; exact hi
theorem xln_eq {x y : ShS} (h : shopC x = shopC y) : x.r.ln = y.r.ln := by
 rw [shopC_inj h]
end U
