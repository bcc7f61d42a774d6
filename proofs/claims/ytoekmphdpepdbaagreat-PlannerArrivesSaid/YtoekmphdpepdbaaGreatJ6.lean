/-
  Part 6.
  Conditions: none.
-/
import Derived.Test.YtoekmphdpepdbaaGreatJ5
set_option maxRecDepth 100000
set_option maxHeartbeats 400000
set_option linter.unusedVariables false
set_option linter.unusedSimpArgs false
open Go
namespace U
open Go
def qok (A J : Int) (W : LL -> Bool) (Mo : LL -> LL) (n : Nat) (T : Int -> Int) (m : QM) (lim k : Int) : Bool :=
 decide (0 <= m.v + (m.a + k)) && (qready A J (m.v + (m.a + k)) (m.a + k) && (qfit A J n T (qmove m (m.v + (m.a + k))) && qsafe A J W Mo (qmove m (m.v + (m.a + k))) lim))
def qpick (ok : Int -> Bool) : LL -> Option Int
 | [] => none
 | r :: l => if ok (r.getD 0 0) = true then some (r.getD 0 0) else qpick ok l
def qnext (A J : Int) (W : LL -> Bool) (Mo : LL -> LL) (n : Nat) (T : Int -> Int) (m : QM) (lim : Int) : QM :=
 match qpick (qok A J W Mo n T m lim) (chg J) with
 | some k => qmove m (m.v + (m.a + k))
 | none => qmove m (m.v + qbrk A J m.v m.a)
def okN (m : QM) : Prop := (-4800000000000000000 <= m.u /\ m.u <= 4800000000000000000) /\ (-549755813888 <= m.v /\ m.v <= 549755813888) /\ (-549755813888 <= m.a /\ m.a <= 549755813888) /\ okU m.l /\ okU m.p
def qpk (ok : Int -> Bool) (m : QM) (l : LL) (x : Bool × QM) : Prop :=
 (∃ k, qpick ok l = some k /\ x = (true, qmove m (m.v + (m.a + k)))) ∨ (qpick ok l = none /\ x.1 = false)
end U
namespace Go.Proofs.YtoekmphdpepdbaaGreat
open Go Go.HL U
def SPNext (hargs : List HV) (pars : List (List HC)) : SR :=
 match hargs, pars with
 | [.agg [.int .i64 s0, .int .i64 s1, .int .i64 s2, .sl false [4, 4, 4, 4, 4, 4, 4] sg, .sl false [4, 4, 4] mk], .agg ax, .agg [.sl false [4, 4, 4, 4, 4, 4, 4, 4, 4, 4] pk, .int .i64 ln, .int .i64 sa, .int .i64 d0, .int .i64 d1, .int .i64 d2], .agg [.int .i64 A, .int .i64 J, .int .i64 R], .agg [.int .i64 fo, .int .i64 ro, .bool ho, .bool so, .bool oo], .agg [.int .i64 mu, .int .i64 mv, .int .i64 ma, .int .i64 ml, .int .i64 mp, .int .i64 mb], .ce (.int .i64 lim)], [] =>
  match ax with
  | [.int .i64 sta, .int .i64 spa, .int .i64 aca, .int .i64 jea, .int .i64 loa, .int .i64 hia, .int .i64 bla, .int .i64 oga, .int .i64 sga, .sl false [4] pta, .int .i64 stb, .int .i64 spb, .int .i64 acb, .int .i64 jeb, .int .i64 lob, .int .i64 hib, .int .i64 blb, .int .i64 ogb, .int .i64 sgb, .sl false [4] ptb, .int .i64 stc, .int .i64 spc, .int .i64 acc, .int .i64 jec, .int .i64 loc, .int .i64 hic, .int .i64 blc, .int .i64 ogc, .int .i64 sgc, .sl false [4] ptc] => .all ((okPT s0 s1 s2 sg pk ln sa /\ okA3 sta oga sga pta bla stb ogb sgb ptb blb stc ogc sgc ptc blc /\ okL3 spa aca jea spb acb jeb spc acc jec) /\ okPl A J R /\ okN ⟨mu, mv, ma, ml, mp, mb⟩ /\ (0 <= lim /\ lim <= 18014398509481984)) QM
   (fun x => x = qnext A J (wth3 spa aca jea spb acb jeb spc acc jec) (qmot (mtr sta oga sga pta bla s0 sg 0 pk sa d0) (mtr stb ogb sgb ptb blb s1 sg 1 pk sa d1) (mtr stc ogc sgc ptc blc s2 sg 2 pk sa d2) ln) sg.length (qtg ho fo ro R sg pk sa ln) ⟨mu, mv, ma, ml, mp, mb⟩ lim)
   (fun x => ⟨.agg [I6 x.u, I6 x.v, I6 x.a, I6 x.l, I6 x.p, I6 x.b], false, [], []⟩)
  | _ => .fail
 | _, _ => .fail
def anNx : LAnn := ⟨[6, 7, 8, 9, 10, 11, 12, 14, 15, 16, 23, 24, 25], [10, 12, 14, 15, 16], [1000007, 1000008, 1000009, 1000010, 1000011, 1000012, 1000014, 1000015], false⟩
set_option maxHeartbeats 4000000 in
def LNx (v : LV) : LR :=
 match v with
 | ([.ce (.int .i64 lim), .ce (.ptr 1000007 0), .ce (.ptr 1000008 0), .ce (.ptr 1000009 0), .ce (.ptr 1000010 0), .ce (.ptr 1000011 0), .ce (.ptr 1000012 0), .ce (.ptr 1000014 0), .ce (.ptr 1000015 0), .ce (.bool y), .ce (.sl false [4] l), .ce (.int .i64 len), .ce (.int .i64 i)],
  [[.int .i64 s0, .int .i64 s1, .int .i64 s2, .sl false [4, 4, 4, 4, 4, 4, 4] sg, .sl false [4, 4, 4] mk], ax, tr, [.int .i64 A, .int .i64 J, .int .i64 R], [.int .i64 fo, .int .i64 ro, .bool ho, .bool so, .bool oo], [.int .i64 mu, .int .i64 mv, .int .i64 ma, .int .i64 ml, .int .i64 mp, .int .i64 mb], [.int .i64 z0, .int .i64 z1, .int .i64 z2, .int .i64 z3, .int .i64 z4, .int .i64 z5], [.int .i64 f0, .int .i64 f1, .int .i64 f2, .int .i64 f3, .int .i64 f4, .int .i64 f5]]) =>
  match ax with
  | [.int .i64 sta, .int .i64 spa, .int .i64 aca, .int .i64 jea, .int .i64 loa, .int .i64 hia, .int .i64 bla, .int .i64 oga, .int .i64 sga, .sl false [4] pta, .int .i64 stb, .int .i64 spb, .int .i64 acb, .int .i64 jeb, .int .i64 lob, .int .i64 hib, .int .i64 blb, .int .i64 ogb, .int .i64 sgb, .sl false [4] ptb, .int .i64 stc, .int .i64 spc, .int .i64 acc, .int .i64 jec, .int .i64 loc, .int .i64 hic, .int .i64 blc, .int .i64 ogc, .int .i64 sgc, .sl false [4] ptc] => match tr with
   | [.sl false [4, 4, 4, 4, 4, 4, 4, 4, 4, 4] pk, .int .i64 ln, .int .i64 sa, .int .i64 d0, .int .i64 d1, .int .i64 d2] => .all ((okPT s0 s1 s2 sg pk ln sa /\ okA3 sta oga sga pta bla stb ogb sgb ptb blb stc ogc sgc ptc blc /\ okL3 spa aca jea spb acb jeb spc acc jec) /\ okPl A J R /\ okN ⟨mu, mv, ma, ml, mp, mb⟩ /\ (0 <= lim /\ lim <= 18014398509481984) /\ y = false /\ len = l.length /\ i = 0 /\ l.length <= 200000 /\ Sm 65536 l) (Bool × QM)
    (qpk (qok A J (wth3 spa aca jea spb acb jeb spc acc jec) (qmot (mtr sta oga sga pta bla s0 sg 0 pk sa d0) (mtr stb ogb sgb ptb blb s1 sg 1 pk sa d1) (mtr stc ogc sgc ptc blc s2 sg 2 pk sa d2) ln) sg.length (qtg ho fo ro R sg pk sa ln) ⟨mu, mv, ma, ml, mp, mb⟩ lim) ⟨mu, mv, ma, ml, mp, mb⟩ l)
    (fun _ => .exit 0)
    (fun x => ([.ce (.ptr 1000010 0), .ce (.ptr 1000012 0), .ce (.ptr 1000014 0), .ce (.ptr 1000015 0), .ce (.bool x.1)], [[I6 s0, I6 s1, I6 s2, .sl false [4, 4, 4, 4, 4, 4, 4] sg, .sl false [4, 4, 4] mk], [I6 sta, I6 spa, I6 aca, I6 jea, I6 loa, I6 hia, I6 bla, I6 oga, I6 sga, .sl false [4] pta, I6 stb, I6 spb, I6 acb, I6 jeb, I6 lob, I6 hib, I6 blb, I6 ogb, I6 sgb, .sl false [4] ptb, I6 stc, I6 spc, I6 acc, I6 jec, I6 loc, I6 hic, I6 blc, I6 ogc, I6 sgc, .sl false [4] ptc], [.sl false [4, 4, 4, 4, 4, 4, 4, 4, 4, 4] pk, I6 ln, I6 sa, I6 d0, I6 d1, I6 d2], [I6 A, I6 J, I6 R], [I6 fo, I6 ro, .bool ho, .bool so, .bool oo], [I6 mu, I6 mv, I6 ma, I6 ml, I6 mp, I6 mb], [I6 z0, I6 z1, I6 z2, I6 z3, I6 z4, I6 z5], [I6 x.2.u, I6 x.2.v, I6 x.2.a, I6 x.2.l, I6 x.2.p, I6 x.2.b]]))
   | _ => .fail
  | _ => .fail
 | _ => .fail
def tabNx : List (FuncId × HL.Spec) := [(60, SChg), (61, SQReady), (62, SQMove), (18, SFit), (16, SSafe), (63, SQBrake)]
noncomputable def CNx : Ctx := ⟨Tryz.prog, gam tabNx, Tryz.f34.ntmps, [(4, anNx, LNx)], []⟩
theorem vbNx (s0 s1 s2 ln sa d0 d1 d2 A J R fo ro mu mv ma ml mp mb lim len i z0 z1 z2 z3 z4 z5 f0 f1 f2 f3 f4 f5 : Int) (ho so oo y : Bool) (sg mk pk l : LL) (sta spa aca jea loa hia bla oga sga stb spb acb jeb lob hib blb ogb sgb stc spc acc jec loc hic blc ogc sgc : Int) (pta ptb ptc : LL) (K : HEx -> LV -> Prop) : (nbodyT true CNx anNx (nthLoop Tryz.f34 0) (([.ce (I6 lim), .ce (.ptr 1000007 0), .ce (.ptr 1000008 0), .ce (.ptr 1000009 0), .ce (.ptr 1000010 0), .ce (.ptr 1000011 0), .ce (.ptr 1000012 0), .ce (.ptr 1000014 0), .ce (.ptr 1000015 0), .ce (.bool y), .ce (.sl false [4] l), .ce (I6 len), .ce (I6 i)], [[I6 s0, I6 s1, I6 s2, .sl false [4, 4, 4, 4, 4, 4, 4] sg, .sl false [4, 4, 4] mk], [I6 sta, I6 spa, I6 aca, I6 jea, I6 loa, I6 hia, I6 bla, I6 oga, I6 sga, .sl false [4] pta, I6 stb, I6 spb, I6 acb, I6 jeb, I6 lob, I6 hib, I6 blb, I6 ogb, I6 sgb, .sl false [4] ptb, I6 stc, I6 spc, I6 acc, I6 jec, I6 loc, I6 hic, I6 blc, I6 ogc, I6 sgc, .sl false [4] ptc], [.sl false [4, 4, 4, 4, 4, 4, 4, 4, 4, 4] pk, I6 ln, I6 sa, I6 d0, I6 d1, I6 d2], [I6 A, I6 J, I6 R], [I6 fo, I6 ro, .bool ho, .bool so, .bool oo], [I6 mu, I6 mv, I6 ma, I6 ml, I6 mp, I6 mb], [I6 z0, I6 z1, I6 z2, I6 z3, I6 z4, I6 z5], [I6 f0, I6 f1, I6 f2, I6 f3, I6 f4, I6 f5]])) K) =
 (Br (i < len) ((0 <= i /\ i < (l.length : Int)) /\ ∀ x1, x1 = el l i.toNat -> R6 (ma + x1) /\ ∀ x2, x2 = ma + x1 -> R6 (mv + x2) /\ ∀ x3, x3 = mv + x2 -> Br (x3 < 0) (R6 (i + 1) /\ ∀ x4, x4 = i + 1 -> K .normal ([.ce (I6 lim), .ce (.ptr 1000007 0), .ce (.ptr 1000008 0), .ce (.ptr 1000009 0), .ce (.ptr 1000010 0), .ce (.ptr 1000011 0), .ce (.ptr 1000012 0), .ce (.ptr 1000014 0), .ce (.ptr 1000015 0), .ce (.bool y), .ce (.sl false [4] l), .ce (I6 len), .ce (I6 x4)], [[I6 s0, I6 s1, I6 s2, .sl false [4, 4, 4, 4, 4, 4, 4] sg, .sl false [4, 4, 4] mk], [I6 sta, I6 spa, I6 aca, I6 jea, I6 loa, I6 hia, I6 bla, I6 oga, I6 sga, .sl false [4] pta, I6 stb, I6 spb, I6 acb, I6 jeb, I6 lob, I6 hib, I6 blb, I6 ogb, I6 sgb, .sl false [4] ptb, I6 stc, I6 spc, I6 acc, I6 jec, I6 loc, I6 hic, I6 blc, I6 ogc, I6 sgc, .sl false [4] ptc], [.sl false [4, 4, 4, 4, 4, 4, 4, 4, 4, 4] pk, I6 ln, I6 sa, I6 d0, I6 d1, I6 d2], [I6 A, I6 J, I6 R], [I6 fo, I6 ro, .bool ho, .bool so, .bool oo], [I6 mu, I6 mv, I6 ma, I6 ml, I6 mp, I6 mb], [I6 z0, I6 z1, I6 z2, I6 z3, I6 z4, I6 z5], [I6 f0, I6 f1, I6 f2, I6 f3, I6 f4, I6 f5]])) (R6 (mv + x2) /\ ∀ x5, x5 = mv + x2 -> okPl A J R /\ ∀ (x6 : Bool), x6 = qready A J x5 x2 -> Bb (!x6) (R6 (i + 1) /\ ∀ x7, x7 = i + 1 -> K .normal ([.ce (I6 lim), .ce (.ptr 1000007 0), .ce (.ptr 1000008 0), .ce (.ptr 1000009 0), .ce (.ptr 1000010 0), .ce (.ptr 1000011 0), .ce (.ptr 1000012 0), .ce (.ptr 1000014 0), .ce (.ptr 1000015 0), .ce (.bool y), .ce (.sl false [4] l), .ce (I6 len), .ce (I6 x7)], [[I6 s0, I6 s1, I6 s2, .sl false [4, 4, 4, 4, 4, 4, 4] sg, .sl false [4, 4, 4] mk], [I6 sta, I6 spa, I6 aca, I6 jea, I6 loa, I6 hia, I6 bla, I6 oga, I6 sga, .sl false [4] pta, I6 stb, I6 spb, I6 acb, I6 jeb, I6 lob, I6 hib, I6 blb, I6 ogb, I6 sgb, .sl false [4] ptb, I6 stc, I6 spc, I6 acc, I6 jec, I6 loc, I6 hic, I6 blc, I6 ogc, I6 sgc, .sl false [4] ptc], [.sl false [4, 4, 4, 4, 4, 4, 4, 4, 4, 4] pk, I6 ln, I6 sa, I6 d0, I6 d1, I6 d2], [I6 A, I6 J, I6 R], [I6 fo, I6 ro, .bool ho, .bool so, .bool oo], [I6 mu, I6 mv, I6 ma, I6 ml, I6 mp, I6 mb], [I6 z0, I6 z1, I6 z2, I6 z3, I6 z4, I6 z5], [I6 f0, I6 f1, I6 f2, I6 f3, I6 f4, I6 f5]])) (R6 (mv + x2) /\ ∀ x8, x8 = mv + x2 -> (okU mu /\ (-2199023255552 <= x8 /\ x8 <= 2199023255552) /\ -2199023255552 <= mv /\ mv <= 2199023255552) /\ (∃ (x : QM), x = qmove ⟨mu, mv, ma, ml, mp, mb⟩ x8) /\ ∀ (x : QM), x = qmove ⟨mu, mv, ma, ml, mp, mb⟩ x8 -> ((okLen sg /\ okTrk pk ln /\ 0 <= sa /\ sa <= 18014398509481984) /\ okPl A J R /\ okV x.u) /\ ∀ (x10 : Bool), x10 = qfit A J (sg.length) (qtg ho fo ro R sg pk sa ln) { u := x.u, v := x.v, a := x.a, l := x.l, p := x.p, b := x.b } -> Bb (x10) (((okPT s0 s1 s2 sg pk ln sa /\ okA3 sta oga sga pta bla stb ogb sgb ptb blb stc ogc sgc ptc blc /\ okL3 spa aca jea spb acb jeb spc acc jec) /\ okPl A J R /\ (okU x.u /\ okU x.l /\ okU x.p /\ okU x.b) /\ 0 <= lim /\ lim <= 18014398509481984) /\ ∀ (x11 : Bool), x11 = qsafe A J (wth3 spa aca jea spb acb jeb spc acc jec) (qmot (mtr sta oga sga pta bla s0 sg (0 : Nat) pk sa d0) (mtr stb ogb sgb ptb blb s1 sg (1 : Nat) pk sa d1) (mtr stc ogc sgc ptc blc s2 sg (2 : Nat) pk sa d2) ln) { u := x.u, v := x.v, a := x.a, l := x.l, p := x.p, b := x.b } lim ->
 Bb (x11) (K (.exit 0) ([.ce (.ptr 1000010 0), .ce (.ptr 1000012 0), .ce (.ptr 1000014 0), .ce (.ptr 1000015 0), .ce (.bool true)], [[I6 s0, I6 s1, I6 s2, .sl false [4, 4, 4, 4, 4, 4, 4] sg, .sl false [4, 4, 4] mk], [I6 sta, I6 spa, I6 aca, I6 jea, I6 loa, I6 hia, I6 bla, I6 oga, I6 sga, .sl false [4] pta, I6 stb, I6 spb, I6 acb, I6 jeb, I6 lob, I6 hib, I6 blb, I6 ogb, I6 sgb, .sl false [4] ptb, I6 stc, I6 spc, I6 acc, I6 jec, I6 loc, I6 hic, I6 blc, I6 ogc, I6 sgc, .sl false [4] ptc], [.sl false [4, 4, 4, 4, 4, 4, 4, 4, 4, 4] pk, I6 ln, I6 sa, I6 d0, I6 d1, I6 d2], [I6 A, I6 J, I6 R], [I6 fo, I6 ro, .bool ho, .bool so, .bool oo], [I6 mu, I6 mv, I6 ma, I6 ml, I6 mp, I6 mb], [I6 z0, I6 z1, I6 z2, I6 z3, I6 z4, I6 z5], [I6 x.u, I6 x.v, I6 x.a, I6 x.l, I6 x.p, I6 x.b]])) (R6 (i + 1) /\ ∀ x12, x12 = i + 1 -> K .normal ([.ce (I6 lim), .ce (.ptr 1000007 0), .ce (.ptr 1000008 0), .ce (.ptr 1000009 0), .ce (.ptr 1000010 0), .ce (.ptr 1000011 0), .ce (.ptr 1000012 0), .ce (.ptr 1000014 0), .ce (.ptr 1000015 0), .ce (.bool y), .ce (.sl false [4] l), .ce (I6 len), .ce (I6 x12)], [[I6 s0, I6 s1, I6 s2, .sl false [4, 4, 4, 4, 4, 4, 4] sg, .sl false [4, 4, 4] mk], [I6 sta, I6 spa, I6 aca, I6 jea, I6 loa, I6 hia, I6 bla, I6 oga, I6 sga, .sl false [4] pta, I6 stb, I6 spb, I6 acb, I6 jeb, I6 lob, I6 hib, I6 blb, I6 ogb, I6 sgb, .sl false [4] ptb, I6 stc, I6 spc, I6 acc, I6 jec, I6 loc, I6 hic, I6 blc, I6 ogc, I6 sgc, .sl false [4] ptc], [.sl false [4, 4, 4, 4, 4, 4, 4, 4, 4, 4] pk, I6 ln, I6 sa, I6 d0, I6 d1, I6 d2], [I6 A, I6 J, I6 R], [I6 fo, I6 ro, .bool ho, .bool so, .bool oo], [I6 mu, I6 mv, I6 ma, I6 ml, I6 mp, I6 mb], [I6 z0, I6 z1, I6 z2, I6 z3, I6 z4, I6 z5], [I6 x.u, I6 x.v, I6 x.a, I6 x.l, I6 x.p, I6 x.b]]))) (R6 (i + 1) /\ ∀ x13, x13 = i + 1 -> K .normal ([.ce (I6 lim), .ce (.ptr 1000007 0), .ce (.ptr 1000008 0), .ce (.ptr 1000009 0), .ce (.ptr 1000010 0), .ce (.ptr 1000011 0), .ce (.ptr 1000012 0), .ce (.ptr 1000014 0), .ce (.ptr 1000015 0), .ce (.bool y), .ce (.sl false [4] l), .ce (I6 len), .ce (I6 x13)], [[I6 s0, I6 s1, I6 s2, .sl false [4, 4, 4, 4, 4, 4, 4] sg, .sl false [4, 4, 4] mk], [I6 sta, I6 spa, I6 aca, I6 jea, I6 loa, I6 hia, I6 bla, I6 oga, I6 sga, .sl false [4] pta, I6 stb, I6 spb, I6 acb, I6 jeb, I6 lob, I6 hib, I6 blb, I6 ogb, I6 sgb, .sl false [4] ptb, I6 stc, I6 spc, I6 acc, I6 jec, I6 loc, I6 hic, I6 blc, I6 ogc, I6 sgc, .sl false [4] ptc], [.sl false [4, 4, 4, 4, 4, 4, 4, 4, 4, 4] pk, I6 ln, I6 sa, I6 d0, I6 d1, I6 d2], [I6 A, I6 J, I6 R], [I6 fo, I6 ro, .bool ho, .bool so, .bool oo], [I6 mu, I6 mv, I6 ma, I6 ml, I6 mp, I6 mb], [I6 z0, I6 z1, I6 z2, I6 z3, I6 z4, I6 z5], [I6 x.u, I6 x.v, I6 x.a, I6 x.l, I6 x.p, I6 x.b]]))))) (K (.exit 0) ([.ce (.ptr 1000010 0), .ce (.ptr 1000012 0), .ce (.ptr 1000014 0), .ce (.ptr 1000015 0), .ce (.bool y)], [[I6 s0, I6 s1, I6 s2, .sl false [4, 4, 4, 4, 4, 4, 4] sg, .sl false [4, 4, 4] mk], [I6 sta, I6 spa, I6 aca, I6 jea, I6 loa, I6 hia, I6 bla, I6 oga, I6 sga, .sl false [4] pta, I6 stb, I6 spb, I6 acb, I6 jeb, I6 lob, I6 hib, I6 blb, I6 ogb, I6 sgb, .sl false [4] ptb, I6 stc, I6 spc, I6 acc, I6 jec, I6 loc, I6 hic, I6 blc, I6 ogc, I6 sgc, .sl false [4] ptc], [.sl false [4, 4, 4, 4, 4, 4, 4, 4, 4, 4] pk, I6 ln, I6 sa, I6 d0, I6 d1, I6 d2], [I6 A, I6 J, I6 R], [I6 fo, I6 ro, .bool ho, .bool so, .bool oo], [I6 mu, I6 mv, I6 ma, I6 ml, I6 mp, I6 mb], [I6 z0, I6 z1, I6 z2, I6 z3, I6 z4, I6 z5], [I6 f0, I6 f1, I6 f2, I6 f3, I6 f4, I6 f5]]))) := by kernel_rfl
theorem vcNx (s0 s1 s2 ln sa d0 d1 d2 A J R fo ro mu mv ma ml mp mb lim : Int) (ho so oo : Bool) (sg mk pk : LL) (sta spa aca jea loa hia bla oga sga stb spb acb jeb lob hib blb ogb sgb stc spc acc jec loc hic blc ogc sgc : Int) (pta ptb ptc : LL) (Q : Res -> Prop) : (nfun true CNx Tryz.f34 (bodyOf Tryz.f34) [.agg [I6 s0, I6 s1, I6 s2, .sl false [4, 4, 4, 4, 4, 4, 4] sg, .sl false [4, 4, 4] mk], .agg [I6 sta, I6 spa, I6 aca, I6 jea, I6 loa, I6 hia, I6 bla, I6 oga, I6 sga, .sl false [4] pta, I6 stb, I6 spb, I6 acb, I6 jeb, I6 lob, I6 hib, I6 blb, I6 ogb, I6 sgb, .sl false [4] ptb, I6 stc, I6 spc, I6 acc, I6 jec, I6 loc, I6 hic, I6 blc, I6 ogc, I6 sgc, .sl false [4] ptc], .agg [.sl false [4, 4, 4, 4, 4, 4, 4, 4, 4, 4] pk, I6 ln, I6 sa, I6 d0, I6 d1, I6 d2], .agg [I6 A, I6 J, I6 R], .agg [I6 fo, I6 ro, .bool ho, .bool so, .bool oo], .agg [I6 mu, I6 mv, I6 ma, I6 ml, I6 mp, I6 mb], .ce (I6 lim)] [] Q) =
 ((0 <= J /\ J <= 65536) /\ (∃ (x : LL), x = chg J) /\ ∀ (x : LL), x = chg J -> ((okPT s0 s1 s2 sg pk ln sa /\ okA3 sta oga sga pta bla stb ogb sgb ptb blb stc ogc sgc ptc blc /\ okL3 spa aca jea spb acb jeb spc acc jec) /\ okPl A J R /\ okN ⟨mu, mv, ma, ml, mp, mb⟩ /\ (0 <= lim /\ lim <= 18014398509481984) /\ false = false /\ (x.length : Int) = (x.length : Int) /\ (0 : Int) = 0 /\ x.length <= 200000 /\ Sm (65536 : Int) x) /\ ∀ (x_1 : Bool × QM), qpk (qok A J (wth3 spa aca jea spb acb jeb spc acc jec) (qmot (mtr sta oga sga pta bla s0 sg (0 : Nat) pk sa d0) (mtr stb ogb sgb ptb blb s1 sg (1 : Nat) pk sa d1) (mtr stc ogc sgc ptc blc s2 sg (2 : Nat) pk sa d2) ln) (sg.length) (qtg ho fo ro R sg pk sa ln) ⟨mu, mv, ma, ml, mp, mb⟩ lim) ⟨mu, mv, ma, ml, mp, mb⟩ x x_1 ->
 Bb (x_1.1) (Q ⟨.agg [I6 x_1.2.u, I6 x_1.2.v, I6 x_1.2.a, I6 x_1.2.l, I6 x_1.2.p, I6 x_1.2.b], false, [], []⟩) ((okPl A J R /\ (-1099511627776 <= mv /\ mv <= 1099511627776) /\ -1099511627776 <= ma /\ ma <= 1099511627776) /\ ∀ x3, x3 = qbrk A J mv ma -> R6 (mv + x3) /\ ∀ x4, x4 = mv + x3 -> (okU mu /\ (-2199023255552 <= x4 /\ x4 <= 2199023255552) /\ -2199023255552 <= mv /\ mv <= 2199023255552) /\ (∃ (x : QM), x = qmove ⟨mu, mv, ma, ml, mp, mb⟩ x4) /\ ∀ (x : QM), x = qmove ⟨mu, mv, ma, ml, mp, mb⟩ x4 -> Q ⟨.agg [I6 x.u, I6 x.v, I6 x.a, I6 x.l, I6 x.p, I6 x.b], false, [], []⟩)) := by kernel_rfl
end Go.Proofs.YtoekmphdpepdbaaGreat
namespace U
theorem qok_neg {A J : Int} {W : LL -> Bool} {Mo : LL -> LL} {n : Nat} {T : Int -> Int} {m : QM} {lim k : Int} (h : m.v + (m.a + k) < 0) : qok A J W Mo n T m lim k = false := by
 unfold qok; rw [decide_eq_false (by omega), Bool.false_and]
theorem qok_nr {A J : Int} {W : LL -> Bool} {Mo : LL -> LL} {n : Nat} {T : Int -> Int} {m : QM} {lim k : Int} (h : qready A J (m.v + (m.a + k)) (m.a + k) = false) : qok A J W Mo n T m lim k = false := by
 unfold qok; rw [h, Bool.false_and, Bool.and_false]
theorem qok_nf {A J : Int} {W : LL -> Bool} {Mo : LL -> LL} {n : Nat} {T : Int -> Int} {m : QM} {lim k : Int} (h : qfit A J n T (qmove m (m.v + (m.a + k))) = false) : qok A J W Mo n T m lim k = false := by
 unfold qok; rw [h, Bool.false_and, Bool.and_false, Bool.and_false]
theorem qok_ns {A J : Int} {W : LL -> Bool} {Mo : LL -> LL} {n : Nat} {T : Int -> Int} {m : QM} {lim k : Int} (h : qsafe A J W Mo (qmove m (m.v + (m.a + k))) lim = false) : qok A J W Mo n T m lim k = false := by
 unfold qok; rw [h, Bool.and_false, Bool.and_false, Bool.and_false]
theorem qok_yes {A J : Int} {W : LL -> Bool} {Mo : LL -> LL} {n : Nat} {T : Int -> Int} {m : QM} {lim k : Int} (h0 : 0 <= m.v + (m.a + k)) (h1 : qready A J (m.v + (m.a + k)) (m.a + k) = true)
 (h2 : qfit A J n T (qmove m (m.v + (m.a + k))) = true) (h3 : qsafe A J W Mo (qmove m (m.v + (m.a + k))) lim = true) : qok A J W Mo n T m lim k = true := by
 unfold qok; rw [h1, h2, h3, decide_eq_true h0]; rfl
theorem qpick_skip {ok : Int -> Bool} {l : LL} {i : Nat} (h : i < l.length) (hk : ok (el l i) = false) : qpick ok (l.drop i) = qpick ok (l.drop (i + 1)) := by
 rw [drop_next l h [], qpick, if_neg (by show ¬ ok (el l i) = true; rw [hk]; simp)]
theorem qpick_take {ok : Int -> Bool} {l : LL} {i : Nat} (h : i < l.length) (hk : ok (el l i) = true) : qpick ok (l.drop i) = some (el l i) := by
 rw [drop_next l h [], qpick]; exact if_pos hk
theorem chg_len {J : Int} (h : 0 <= J /\ J <= 65536) : (chg J).length <= 200000 := by
 unfold chg ngl; have := hlv_len J.toNat J; simp; omega
theorem el_ngl {l : LL} {j : Nat} (h : j < l.length) : el (ngl l) j = -(el l j) := by
 unfold ngl el; simp [List.getD_eq_getElem?_getD, h]
theorem chg_bd {J : Int} (h : 0 <= J /\ J <= 65536) : Sm 65536 (chg J) := by
 intro j hj
 have hb := hlv_bd J.toNat (k := J) h.2
 have hr : ∀ i, i < (hlv J.toNat J).length -> ∃ k, k < (hlv J.toNat J).length /\ el (hlv J.toNat J).reverse i = el (hlv J.toNat J) k := fun i hi =>
  ⟨(hlv J.toNat J).length - 1 - i, by omega, by
   have : (hlv J.toNat J).reverse.getD i [] = (hlv J.toNat J).getD ((hlv J.toNat J).length - 1 - i) [] := by rw [List.getD_eq_getElem?_getD, List.getElem?_reverse hi, <- List.getD_eq_getElem?_getD]
   unfold el; rw [this]⟩
 unfold chg at hj ⊢
 rw [List.append_assoc, el_append]
 split
 . rename_i h1; have := hb j h1; omega
 . rw [el_append]
   split
   . rename_i h1 h2
     rw [show j - (hlv J.toNat J).length = 0 by simp at h2; omega]
     show -65536 <= (0 : Int) /\ (0 : Int) <= 65536
     omega
   . rename_i h1 h2
     simp [ngl] at hj h1 h2
     obtain ⟨k, k1, k2⟩ := hr (j - (hlv J.toNat J).length - 1) (by omega)
     rw [show List.length [[(0 : Int)]] = 1 from rfl, el_ngl (by simp; omega), k2]
     have := hb k k1
     omega
end U
namespace Go.Proofs.YtoekmphdpepdbaaGreat
open Go Go.HL U
attribute [local irreducible] hfun bodyT fragT
set_option maxHeartbeats 4000000 in
theorem loopNx : ∀ v Q, (LNx v).wp Q -> hloop CNx anNx (nthLoop Tryz.f34 0) v Q := by
 intro v Q h
 unfold LNx at h
 split at h
 case h_2 => exact h.elim
 rename_i lim y l len i s0 s1 s2 sg mk ax tr A J Rp fo ro ho so oo mu mv ma ml mp mb z0 z1 z2 z3 z4 z5 f0 f1 f2 f3 f4 f5
 split at h
 case h_2 => exact h.elim
 rename_i sta spa aca jea loa hia bla oga sga pta stb spb acb jeb lob hib blb ogb sgb ptb stc spc acc jec loc hic blc ogc sgc ptc
 split at h
 case h_2 => exact h.elim
 rename_i pk ln sa d0 d1 d2
 obtain ⟨⟨⟨hp, ha, hli⟩, hpl, hm, hlim, h1, h2, h3, h4, h5⟩, hq⟩ := h
 subst h1 h2 h3
 have hm' := hm
 obtain ⟨hu, hv, haa, hml, hmp⟩ := hm
 dsimp only at hu hv haa hml hmp
 have hU : okU mu := by unfold okU; omega
 refine hloop_rec (σ := Nat × QM) (fun s => ([.ce (I6 lim), .ce (.ptr 1000007 0), .ce (.ptr 1000008 0), .ce (.ptr 1000009 0), .ce (.ptr 1000010 0), .ce (.ptr 1000011 0), .ce (.ptr 1000012 0), .ce (.ptr 1000014 0), .ce (.ptr 1000015 0), .ce (.bool false), .ce (.sl false [4] l), .ce (I6 (l.length : Int)), .ce (I6 (s.1 : Int))],
  [[I6 s0, I6 s1, I6 s2, .sl false [4, 4, 4, 4, 4, 4, 4] sg, .sl false [4, 4, 4] mk], [I6 sta, I6 spa, I6 aca, I6 jea, I6 loa, I6 hia, I6 bla, I6 oga, I6 sga, .sl false [4] pta, I6 stb, I6 spb, I6 acb, I6 jeb, I6 lob, I6 hib, I6 blb, I6 ogb, I6 sgb, .sl false [4] ptb, I6 stc, I6 spc, I6 acc, I6 jec, I6 loc, I6 hic, I6 blc, I6 ogc, I6 sgc, .sl false [4] ptc], [.sl false [4, 4, 4, 4, 4, 4, 4, 4, 4, 4] pk, I6 ln, I6 sa, I6 d0, I6 d1, I6 d2], [I6 A, I6 J, I6 Rp], [I6 fo, I6 ro, .bool ho, .bool so, .bool oo], [I6 mu, I6 mv, I6 ma, I6 ml, I6 mp, I6 mb], [I6 z0, I6 z1, I6 z2, I6 z3, I6 z4, I6 z5], [I6 s.2.u, I6 s.2.v, I6 s.2.a, I6 s.2.l, I6 s.2.p, I6 s.2.b]]))
  (fun s => l.length - s.1) (fun s => s.1 <= l.length /\ qpick (qok A J (wth3 spa aca jea spb acb jeb spc acc jec) (qmot (mtr sta oga sga pta bla s0 sg 0 pk sa d0) (mtr stb ogb sgb ptb blb s1 sg 1 pk sa d1) (mtr stc ogc sgc ptc blc s2 sg 2 pk sa d2) ln) sg.length (qtg ho fo ro Rp sg pk sa ln) ⟨mu, mv, ma, ml, mp, mb⟩ lim) l =
   qpick (qok A J (wth3 spa aca jea spb acb jeb spc acc jec) (qmot (mtr sta oga sga pta bla s0 sg 0 pk sa d0) (mtr stb ogb sgb ptb blb s1 sg 1 pk sa d1) (mtr stc ogc sgc ptc blc s2 sg 2 pk sa d2) ln) sg.length (qtg ho fo ro Rp sg pk sa ln) ⟨mu, mv, ma, ml, mp, mb⟩ lim) (l.drop s.1)) ?_ (0, ⟨f0, f1, f2, f3, f4, f5⟩) ⟨Nat.zero_le _, rfl⟩
 rintro ⟨i, f⟩ ⟨hi, hI⟩ K hn hx hr
 dsimp only at hi hI hn ⊢
 refine byVB (vbNx s0 s1 s2 ln sa d0 d1 d2 A J Rp fo ro mu mv ma ml mp mb lim l.length i z0 z1 z2 z3 z4 z5 f.u f.v f.a f.l f.p f.b ho so oo false sg mk pk l sta spa aca jea loa hia bla oga sga stb spb acb jeb lob hib blb ogb sgb stc spc acc jec loc hic blc ogc sgc pta ptb ptc K) ⟨fun g => ?_, fun g => ?_⟩
 . have g := odt g
   have hil : i < l.length := by omega
   have hb := h5 i hil
   have sk := fun (f : QM) (k : Int) (ek : k = (i : Int) + 1) hk => hn (i + 1, f) ⟨hil, hI.trans (qpick_skip hil hk)⟩ (by dsimp only; omega)
   refine ⟨by omega, fun x1 e1 => ?_⟩
   have e1 : x1 = el l i := e1
   rw [<- e1] at hb sk
   have tk := fun hk => hI.trans (qpick_take hil hk)
   rw [<- e1] at tk
   clear hn
   refine ⟨by omega, fun x2 e2 => ⟨by omega, fun x3 e3 => ⟨fun g3 => ⟨by omega, fun x4 e4 => ?_⟩, fun g3 => ⟨by omega, fun x5 e5 => ⟨hpl, fun x6 e6 => ⟨fun g6 => ⟨by omega, fun x7 e7 => ?_⟩, fun g6 => ⟨by omega, fun x8 e8 => ⟨⟨hU, by omega, by omega⟩, ⟨_, rfl⟩, fun x ex => ?_⟩⟩⟩⟩⟩⟩⟩⟩
   . have g3 := odt g3
     have := sk f x4 e4 (qok_neg (by show mv + (ma + x1) < 0; omega))
     rw [show ((i + 1 : Nat) : Int) = x4 by omega] at this
     exact this
   . have := sk f x7 e7 (qok_nr (by show qready A J (mv + (ma + x1)) (ma + x1) = false; rw [<- e2, <- e5, <- e6]; cases x6 <;> simp at g6 ⊢))
     rw [show ((i + 1 : Nat) : Int) = x7 by omega] at this
     exact this
   . have g3 := odf g3
     have ex' : qmove ⟨mu, mv, ma, ml, mp, mb⟩ (mv + (ma + x1)) = x := by rw [ex, e8, e2]
     have hvr : qready A J (mv + (ma + x1)) (ma + x1) = true := by rw [<- e2, <- e5, <- e6]; cases x6 <;> simp at g6 ⊢
     have xu : x.u = mu + x8 := by rw [ex]; rfl
     have xl : x.l = mu := by rw [ex]; rfl
     have xp : x.p = ml := by rw [ex]; rfl
     have xb : x.b = mp := by rw [ex]; rfl
     refine ⟨⟨⟨hp.1, hp.2.2.1, hp.2.2.2⟩, hpl, by unfold okV; omega⟩, fun x10 e10 => ⟨fun g10 => ⟨⟨⟨hp, ha, hli⟩, hpl, ⟨by unfold okU; omega, by rw [xl]; exact hU, by rw [xp]; exact hml, by rw [xb]; exact hmp⟩, hlim⟩, fun x11 e11 => ⟨fun g11 => ?_, fun g11 => ⟨by omega, fun x12 e12 => ?_⟩⟩⟩, fun g10 => ⟨by omega, fun x13 e13 => ?_⟩⟩⟩
     . have := hq (true, x) (.inl ⟨x1, tk (qok_yes (by show 0 <= mv + (ma + x1); omega) hvr (by show qfit A J sg.length _ (qmove ⟨mu, mv, ma, ml, mp, mb⟩ (mv + (ma + x1))) = true; rw [ex', <- g10, e10]) (by show qsafe A J _ _ (qmove ⟨mu, mv, ma, ml, mp, mb⟩ (mv + (ma + x1))) lim = true; rw [ex', <- g11, e11])), by rw [<- ex']⟩)
       exact hx 0 _ this
     . have := sk x x12 e12 (qok_ns (by show qsafe A J _ _ (qmove ⟨mu, mv, ma, ml, mp, mb⟩ (mv + (ma + x1))) lim = false; rw [ex', <- g11, e11]))
       rw [show ((i + 1 : Nat) : Int) = x12 by omega] at this
       exact this
     . have := sk x x13 e13 (qok_nf (by show qfit A J sg.length _ (qmove ⟨mu, mv, ma, ml, mp, mb⟩ (mv + (ma + x1))) = false; rw [ex', <- g10, e10]))
       rw [show ((i + 1 : Nat) : Int) = x13 by omega] at this
       exact this
 . have g := odf g
   obtain rfl : i = l.length := by omega
   rw [List.drop_length] at hI
   exact hx 0 _ (hq (false, f) (.inr ⟨hI, rfl⟩))
set_option maxHeartbeats 4000000 in
theorem sNx : Sound Tryz.prog 34 SPNext := by
 refine sound_of (C := CNx) tabNx Tryz.func34 (by kernel_rfl) (by decide +kernel) (by kernel_rfl) rfl ⟨sChg, sQReady, sQMove, sFit, sSafe, sQBrake, trivial⟩ (loops1 (by kernel_rfl) (loopOK_of (an := anNx) (S := LNx) (by kernel_rfl) loopNx)) ?_
 intro hargs pars R h
 unfold SPNext at h
 split at h
 case h_2 => exfalso; exact h
 rename_i s0 s1 s2 sg mk ax pk ln sa d0 d1 d2 A J Rp fo ro ho so oo mu mv ma ml mp mb lim
 split at h
 case h_2 => exact h.elim
 rename_i sta spa aca jea loa hia bla oga sga pta stb spb acb jeb lob hib blb ogb sgb ptb stc spc acc jec loc hic blc ogc sgc ptc
 obtain ⟨⟨hpp, hpl, hm, hlim⟩, _, hR⟩ := h
 have hm' := hm
 obtain ⟨hu, hv, haa, hml, hmp⟩ := hm
 dsimp only at hu hv haa hml hmp
 have hJ : 0 <= J /\ J <= 65536 := by have := hpl.2.1; omega
 refine byVC (vcNx s0 s1 s2 ln sa d0 d1 d2 A J Rp fo ro mu mv ma ml mp mb lim ho so oo sg mk pk sta spa aca jea loa hia bla oga sga stb spb acb jeb lob hib blb ogb sgb stc spc acc jec loc hic blc ogc sgc pta ptb ptc R) ⟨hJ, ⟨_, rfl⟩, fun x e => ?_⟩
 subst e
 refine ⟨⟨hpp, hpl, hm', hlim, rfl, rfl, rfl, chg_len hJ, chg_bd hJ⟩, fun x hx => ⟨fun g => ?_, fun g => ⟨⟨hpl, by omega, by omega⟩, fun x3 e3 => ?_⟩⟩⟩
 . rcases hx with ⟨k, hk, ex⟩ | ⟨_, ex⟩
   . exact hR x.2 (by unfold qnext; rw [hk, ex])
   . rw [ex] at g; cases g
 . rcases hx with ⟨k, hk, ex⟩ | ⟨hk, _⟩
   . rw [ex] at g; cases g
   . have b := Go.Proofs.YtoekmphdpepdbaaGreat.qb_le (J := J) (v := mv) (qhi A J ma - (-ma - J)).toNat (l := -ma - J) (h := qhi A J ma)
     have hA := hpl.1
     have e9 : x3 = -(qbs J mv (qhi A J ma - (-ma - J)).toNat (-ma - J) (qhi A J ma)) := e3
     have hq9 : qhi A J ma <= 65536 := by unfold qhi; omega
     refine ⟨by omega, fun x4 e4 => ⟨⟨by unfold okU; omega, by omega, by omega⟩, ⟨_, rfl⟩, fun x ex => hR x ?_⟩⟩
     unfold qnext
     rw [hk, ex, e4, e3]
end Go.Proofs.YtoekmphdpepdbaaGreat
namespace U
open Go
def lsh (l : LL) : Bool := match l with | _ :: _ :: _ :: _ :: _ => true | _ => false
structure ShS where
 r : RunS
 A : Int
 J : Int
 R : Int
def okShop (x : ShS) : Prop := okRun x.r /\ x.r.f = 0 /\ (1 <= x.A /\ x.A <= 900) /\ (2 <= x.J /\ x.J <= 201) /\ (1 <= x.R /\ x.R <= 16000)
open Go.HL in
def shopC (x : ShS) : List HC := [.int .i64 x.r.s0, .int .i64 x.r.s1, .int .i64 x.r.s2, .sl false [4, 4, 4, 4, 4, 4, 4] x.r.sg, .sl false [4, 4, 4] x.r.mks, .int .i64 x.r.a.st, .int .i64 x.r.a.sp, .int .i64 x.r.a.ac, .int .i64 x.r.a.je, .int .i64 (-16777216), .int .i64 16777216, .int .i64 x.r.a.bl, .int .i64 x.r.a.og, .int .i64 x.r.a.sg, .sl false [4] x.r.a.pit, .int .i64 x.r.b.st, .int .i64 x.r.b.sp, .int .i64 x.r.b.ac, .int .i64 x.r.b.je, .int .i64 (-16777216), .int .i64 16777216, .int .i64 x.r.b.bl, .int .i64 x.r.b.og, .int .i64 x.r.b.sg, .sl false [4] x.r.b.pit, .int .i64 x.r.c.st, .int .i64 x.r.c.sp, .int .i64 x.r.c.ac, .int .i64 x.r.c.je, .int .i64 (-16777216), .int .i64 16777216, .int .i64 x.r.c.bl, .int .i64 x.r.c.og, .int .i64 x.r.c.sg, .sl false [4] x.r.c.pit, .sl false [4, 4, 4, 4, 4, 4, 4, 4, 4, 4] x.r.pk, .int .i64 x.r.ln, .int .i64 x.r.f, .int .i64 x.r.d0, .int .i64 x.r.d1, .int .i64 x.r.d2, .int .i64 x.A, .int .i64 x.J, .int .i64 x.R, .int .i64 x.r.ln]
open Go.HL in
def zShop : List HC := [.int .i64 0, .int .i64 0, .int .i64 0, .sl true [4, 4, 4, 4, 4, 4, 4] [], .sl true [4, 4, 4] [], .int .i64 0, .int .i64 0, .int .i64 0, .int .i64 0, .int .i64 0, .int .i64 0, .int .i64 0, .int .i64 0, .int .i64 0, .sl true [4] [], .int .i64 0, .int .i64 0, .int .i64 0, .int .i64 0, .int .i64 0, .int .i64 0, .int .i64 0, .int .i64 0, .int .i64 0, .sl true [4] [], .int .i64 0, .int .i64 0, .int .i64 0, .int .i64 0, .int .i64 0, .int .i64 0, .int .i64 0, .int .i64 0, .int .i64 0, .sl true [4] [], .sl true [4, 4, 4, 4, 4, 4, 4, 4, 4, 4] [], .int .i64 0, .int .i64 0, .int .i64 0, .int .i64 0, .int .i64 0, .int .i64 0, .int .i64 0, .int .i64 0, .int .i64 0]
end U
namespace Go.Proofs.YtoekmphdpepdbaaGreat
open Go Go.HL U
def SMotz (hA : List HV) (pA : List (List HC)) : SR :=
 match hA, pA with
 | [.ce (.sl false [4] l), .ce (.int .i64 m)], [] =>
  bif lsh l then .all (1 <= m /\ m <= 5 /\ l.length <= 9223372036854775807) (LL × Nat) (fun y => niceL y.1 /\ (0 < y.1.length /\ y.1.length <= 5) /\ y.1.length <= y.2 /\ y.2 <= maxLen) (fun y => ⟨.ce (.msl 500 y.1.length y.2), false, [], [[.arr [4, 4, 4, 4, 4, 4, 4, 4, 4, 4, 4, 4, 4, 0, 4, 0, 4, 4, 4, 4, 4, 0] y.1 y.2]]⟩)
  else .det (1 <= m /\ m <= 5 /\ l.length <= 9223372036854775807) ⟨.ce (.sl false [4, 4, 4, 4, 4, 4, 4, 4, 4, 4, 4, 4, 4, 0, 4, 0, 4, 4, 4, 4, 4, 0] []), false, [], [[]]⟩
 | _, _ => .fail
def tabMotz : List (FuncId × HL.Spec) := [(14, SFrom), (22, SNext), (21, SLeft), (64, SMot)]
def anMotz : LAnn := ⟨[1, 5, 6, 100006, 7], [6, 100006], [1000010, 1000007], false⟩
def LMotz (v : LV) : LR :=
 match v with
 | ([.ce (.int .i64 m), .ce (.ptr 1000010 0), .zs ks y, .ce (.lit true), .ce (.ptr 1000007 0)], [[.sl false [4] l, .int .i64 p], [.int .i64 a0, .int .i64 a1, .int .i64 a2]]) =>
  bif ksEq ks [4, 4, 4, 4, 4, 4, 4, 4, 4, 4, 4, 4, 4, 0, 4, 0, 4, 4, 4, 4, 4, 0] then
  .all ((1 <= m /\ m <= 5) /\ inSrc l p /\ y.length = 0 /\ b3 4 a0 a1 a2) (LL × Int × Int × Int × Int) (fun z => niceL z.1 /\ z.1.length <= 5 /\ (p < l.length -> 0 < z.1.length) /\ (¬ p < l.length -> z.1.length = 0)) (fun _ => .exit 0)
   (fun z => ([.zs [4, 4, 4, 4, 4, 4, 4, 4, 4, 4, 4, 4, 4, 0, 4, 0, 4, 4, 4, 4, 4, 0] z.1, .ce (.lit true)], [[.sl false [4] l, I6 z.2.1], [I6 z.2.2.1, I6 z.2.2.2.1, I6 z.2.2.2.2]]))
  else .fail
 | _ => .fail
noncomputable def CMotz : Ctx := ⟨Tryz.prog, gam tabMotz, Tryz.f35.ntmps, [(4, anMotz, LMotz)], [6]⟩
theorem vbMotz (m p a0 a1 a2 : Int) (y l : LL) (K : HEx -> LV -> Prop) : (nbodyT true CMotz anMotz (nthLoop Tryz.f35 0) (([.ce (I6 m), .ce (.ptr 1000010 0), .zs [4, 4, 4, 4, 4, 4, 4, 4, 4, 4, 4, 4, 4, 0, 4, 0, 4, 4, 4, 4, 4, 0] y, .ce (.lit true), .ce (.ptr 1000007 0)], [[.sl false [4] l, I6 p], [I6 a0, I6 a1, I6 a2]])) K) =
 (Br ((y.length : Int) < m) (True /\ ∀ (x1 : Bool), x1 = decide (p < (l.length : Int)) -> ∀ (x2 : LL), x2 = l -> ∀ x3, x3 = p -> Bb (x1) (((0 : Int) < 5 /\ (5 : Int) <= 4611686018427387904 /\ inSrc x2 x3) /\ (∃ (x : Int × Int), drew x2 x3 (5 : Int) x) /\ ∀ (x : Int × Int), drew x2 x3 (5 : Int) x -> (0 <= x.1 /\ x.1 < 5) /\ ∀ x5, x5 = el [[(2 : Int)], [(2 : Int)], [(2 : Int)], [(3 : Int)], [(1 : Int)]] x.1.toNat -> (inSrc x2 x.2 /\ b3 65536 a0 a1 a2 /\ 1 <= x5 /\ x5 <= 3) /\ (∃ (x : It × Int), inSrc x2 x.2 /\ grown x5 a0 a1 a2 x.1) /\ ∀ (x : It × Int), inSrc x2 x.2 /\ grown x5 a0 a1 a2 x.1 -> ((y.length + 1) * 176 <= 140737488355328 /\ y.length + 1 <= maxLen) /\ K .normal ([.ce (I6 m), .ce (.ptr 1000010 0), .zs [4, 4, 4, 4, 4, 4, 4, 4, 4, 4, 4, 4, 4, 0, 4, 0, 4, 4, 4, 4, 4, 0] (y ++ [[x.1.k0, x.1.bk, x.1.f0, x.1.f1, x.1.f2, x.1.t0, x.1.t1, x.1.t2, x.1.pl, x.1.c0, x.1.c1, x.1.c2, x.1.dr, bif x.1.fu then (1 : Int) else (0 : Int), x.1.fd, bif x.1.pr then (1 : Int) else (0 : Int), x.1.sd, x.1.ra, x.1.bl, x.1.nn, x.1.sp, bif x.1.on then (1 : Int) else (0 : Int)]]), .ce (.lit true), .ce (.ptr 1000007 0)], [[.sl false [4] x2, I6 x.2], [I6 x.1.t0, I6 x.1.t1, I6 x.1.t2]])) (K (.exit 0) ([.zs [4, 4, 4, 4, 4, 4, 4, 4, 4, 4, 4, 4, 4, 0, 4, 0, 4, 4, 4, 4, 4, 0] y, .ce (.lit true)], [[.sl false [4] x2, I6 x3], [I6 a0, I6 a1, I6 a2]]))) (K (.exit 0) ([.zs [4, 4, 4, 4, 4, 4, 4, 4, 4, 4, 4, 4, 4, 0, 4, 0, 4, 4, 4, 4, 4, 0] y, .ce (.lit true)], [[.sl false [4] l, I6 p], [I6 a0, I6 a1, I6 a2]]))) := by kernel_rfl
theorem vcMotz (l : LL) (m : Int) (Q : Res -> Prop) : (nfun true CMotz Tryz.f35 (bodyOf Tryz.f35) [.ce (.sl false [4] l), .ce (I6 m)] [] Q) =
 (True /\ ∀ (x1 : LL), x1 = l -> ∀ (x2 : Int), x2 = 0 -> ((0 : Int) < 9 /\ (9 : Int) <= 4611686018427387904 /\ inSrc x1 x2) /\ (∃ (x : Int × Int), drew x1 x2 (9 : Int) x) /\ ∀ (x : Int × Int), drew x1 x2 (9 : Int) x -> R6 (x.1 - 4) /\ ∀ x4, x4 = x.1 - 4 -> ((0 : Int) < 9 /\ (9 : Int) <= 4611686018427387904 /\ inSrc x1 x.2) /\ (∃ (x_1 : Int × Int), drew x1 x.2 (9 : Int) x_1) /\ ∀ (x_1 : Int × Int), drew x1 x.2 (9 : Int) x_1 -> R6 (x_1.1 - 4) /\ ∀ x6, x6 = x_1.1 - 4 -> ((0 : Int) < 9 /\ (9 : Int) <= 4611686018427387904 /\ inSrc x1 x_1.2) /\ (∃ (x : Int × Int), drew x1 x_1.2 (9 : Int) x) /\ ∀ (x : Int × Int), drew x1 x_1.2 (9 : Int) x -> R6 (x.1 - 4) /\ ∀ x8, x8 = x.1 - 4 -> ((1 <= m /\
 m <= 5) /\ inSrc x1 x.2 /\ (0 : Nat) = 0 /\ b3 4 x4 x6 x8) /\ ∀ (x_2 : LL × Int × Int × Int × Int), niceL x_2.1 /\ List.length x_2.1 <= 5 /\ (x.2 < (x1.length : Int) -> (0 : Nat) < List.length x_2.1) /\ (¬x.2 < (x1.length : Int) -> List.length x_2.1 = 0) -> (List.length x_2.1 = 0 -> Q { val := .ce (.sl false [4, 4, 4, 4, 4, 4, 4, 4, 4, 4, 4, 4, 4, 0, 4, 0, 4, 4, 4, 4, 4, 0] []), own := false, pars := [], news := [[]] }) /\ ((0 : Nat) < List.length x_2.1 -> ∀ (cap : Nat), List.length x_2.1 <= cap /\ cap <= maxLen -> Q { val := .ce (.msl (500 : Nat) (List.length x_2.1) cap), own := false, pars := [], news := [[.arr [4, 4, 4, 4, 4, 4, 4, 4, 4, 4, 4, 4, 4, 0, 4, 0, 4, 4, 4, 4, 4, 0] x_2.1 cap]] })) := by kernel_rfl
def SPla (hA : List HV) (pA : List (List HC)) : SR :=
 match hA, pA with
 | [.ce (.sl false [4] l)], [] => .all (l.length <= 9223372036854775807) (Int × Int × Int) (fun x => (1 <= x.1 /\ x.1 <= 900) /\ (2 <= x.2.1 /\ x.2.1 <= 201) /\ (1 <= x.2.2 /\ x.2.2 <= 16000)) (fun x => ⟨.agg [I6 x.1, I6 x.2.1, I6 x.2.2], false, [], []⟩)
 | _, _ => .fail
def tabPla : List (FuncId × HL.Spec) := [(14, SFrom), (22, SNext)]
noncomputable def CPla : Ctx := ⟨Tryz.prog, gam tabPla, Tryz.f38.ntmps, [], []⟩
theorem vcPla (l : LL) (Q : Res -> Prop) : (nfun true CPla Tryz.f38 (bodyOf Tryz.f38) [.ce (.sl false [4] l)] [] Q) =
 (True /\ ∀ (x1 : LL), x1 = l -> ∀ (x2 : Int), x2 = 0 -> ((0 : Int) < 900 /\ (900 : Int) <= 4611686018427387904 /\ inSrc x1 x2) /\ (∃ (x : Int × Int), drew x1 x2 (900 : Int) x) /\ ∀ (x : Int × Int), drew x1 x2 (900 : Int) x -> (-9223372036854775808 <= 1 + x.1 /\ (1 : Int) + x.1 <= 9223372036854775807) /\ ∀ x4, x4 = 1 + x.1 -> ((0 : Int) < 200 /\ (200 : Int) <= 4611686018427387904 /\ inSrc x1 x.2) /\ (∃ (x_1 : Int × Int), drew x1 x.2 (200 : Int) x_1) /\ ∀ (x_1 : Int × Int), drew x1 x.2 (200 : Int) x_1 -> (-9223372036854775808 <= 2 + x_1.1 /\ (2 : Int) + x_1.1 <= 9223372036854775807) /\ ∀ x6, x6 = 2 + x_1.1 -> ((0 : Int) < 16000 /\ (16000 : Int) <= 4611686018427387904 /\ inSrc x1 x_1.2) /\ (∃ (x : Int × Int), drew x1 x_1.2 (16000 : Int) x) /\ ∀ (x : Int × Int), drew x1 x_1.2 (16000 : Int) x -> (-9223372036854775808 <= 1 + x.1 /\
 (1 : Int) + x.1 <= 9223372036854775807) /\ ∀ x8, x8 = 1 + x.1 -> Q ⟨.agg [I6 x4, I6 x6, I6 x8], false, [], []⟩) := by kernel_rfl
def SMade (hA : List HV) (pA : List (List HC)) : SR :=
 match hA, pA with
 | [.ce (.sl false [4] l), .ce (.sl false [4] ax), .ce (.sl false [4] pl), .ce (.int .i64 ds), .ce (.bool fa)], [] =>
  .all (l.length <= 9223372036854775807 /\ ax.length <= 9223372036854775807 /\ pl.length <= 9223372036854775807) ShS okShop (fun x => ⟨.agg [I6 x.r.s0, I6 x.r.s1, I6 x.r.s2, .sl false [4, 4, 4, 4, 4, 4, 4] x.r.sg, .sl false [4, 4, 4] x.r.mks, I6 x.r.a.st, I6 x.r.a.sp, I6 x.r.a.ac, I6 x.r.a.je, I6 (-16777216), I6 16777216, I6 x.r.a.bl, I6 x.r.a.og, I6 x.r.a.sg, .sl false [4] x.r.a.pit, I6 x.r.b.st, I6 x.r.b.sp, I6 x.r.b.ac, I6 x.r.b.je, I6 (-16777216), I6 16777216, I6 x.r.b.bl, I6 x.r.b.og, I6 x.r.b.sg, .sl false [4] x.r.b.pit, I6 x.r.c.st, I6 x.r.c.sp, I6 x.r.c.ac, I6 x.r.c.je, I6 (-16777216), I6 16777216, I6 x.r.c.bl, I6 x.r.c.og, I6 x.r.c.sg, .sl false [4] x.r.c.pit, .sl false [4, 4, 4, 4, 4, 4, 4, 4, 4, 4] x.r.pk, I6 x.r.ln, I6 x.r.f, I6 x.r.d0, I6 x.r.d1, I6 x.r.d2, I6 x.A, I6 x.J, I6 x.R, I6 x.r.ln], false, [], []⟩)
 | _, _ => .fail
def tabMade : List (FuncId × HL.Spec) := [(35, SMotz), (36, SBuild), (37, SAxes), (38, SPla), (41, SPLen), (40, SDirs), (39, SLeg)]
def anMade : LAnn := ⟨[1, 2, 3, 4, 10, 11, 17, 18], [1, 2, 3, 10, 11], [1000010, 1000015], false⟩
def LMade (v : LV) : LR :=
 match v with
 | ([.ce (.sl false [4] ax), .ce (.sl false [4] pl), .ce (.int .i64 ds), .ce (.bool fa), .ce (.ptr 1000010 0), it, .ce (.int .i64 len), .ce (.int .i64 i)], [rb, ib]) =>
  match it, ib with
  | .ce (.msl 1000015 n cap), [.arr ks rows d] =>
   bif ksEq ks [4, 4, 4, 4, 4, 4, 4, 4, 4, 4, 4, 4, 4, 0, 4, 0, 4, 4, 4, 4, 4, 0] then .all (n = rows.length /\ len = n /\ i = 0 /\ niceL rows /\ rows.length <= 5 /\ rb = zShop) (LL) (fun y => niceL y /\ y.length = rows.length) (fun _ => .exit 0)
    (fun y => ([.ce (.sl false [4] ax), .ce (.sl false [4] pl), .ce (I6 ds), .ce (.ptr 1000010 0), .ce (.msl 1000015 n cap)], [rb, [.arr [4, 4, 4, 4, 4, 4, 4, 4, 4, 4, 4, 4, 4, 0, 4, 0, 4, 4, 4, 4, 4, 0] y d]])) else .fail
  | .ce (.sl false ks rows), [] =>
   bif ksEq ks [4, 4, 4, 4, 4, 4, 4, 4, 4, 4, 4, 4, 4, 0, 4, 0, 4, 4, 4, 4, 4, 0] then .det (rows.length = 0 /\ len = 0 /\ i = 0 /\ rb = zShop) (.exit 0) ([.ce (.sl false [4] ax), .ce (.sl false [4] pl), .ce (I6 ds), .ce (.ptr 1000010 0), .ce (.sl false [4, 4, 4, 4, 4, 4, 4, 4, 4, 4, 4, 4, 4, 0, 4, 0, 4, 4, 4, 4, 4, 0] [])], [rb, []]) else .fail
  | _, _ => .fail
 | _ => .fail
noncomputable def CMade : Ctx := ⟨Tryz.prog, gam tabMade, Tryz.f12.ntmps, [(3, anMade, LMade)], [36]⟩
theorem vbMade (ax pl rows : LL) (ds len i : Int) (fa : Bool) (n cap d : Nat) (K : HEx -> LV -> Prop) : (nbodyT true CMade anMade (nthLoop Tryz.f12 0) (([.ce (.sl false [4] ax), .ce (.sl false [4] pl), .ce (I6 ds), .ce (.bool fa), .ce (.ptr 1000010 0), .ce (.msl 1000015 n cap), .ce (I6 len), .ce (I6 i)], [[I6 0, I6 0, I6 0, .sl true [4, 4, 4, 4, 4, 4, 4] [], .sl true [4, 4, 4] [], I6 0, I6 0, I6 0, I6 0, I6 0, I6 0, I6 0, I6 0, I6 0, .sl true [4] [], I6 0, I6 0, I6 0, I6 0, I6 0, I6 0, I6 0, I6 0, I6 0, .sl true [4] [], I6 0, I6 0, I6 0, I6 0, I6 0, I6 0, I6 0, I6 0, I6 0, .sl true [4] [], .sl true [4, 4, 4, 4, 4, 4, 4, 4, 4, 4] [], I6 0, I6 0, I6 0, I6 0, I6 0, I6 0, I6 0, I6 0, I6 0], [.arr [4, 4, 4, 4, 4, 4, 4, 4, 4, 4, 4, 4, 4, 0, 4, 0, 4, 4, 4, 4, 4, 0] rows d]])) K) =
 (Br (i < len) (Bb (fa) ((0 <= i /\ i < ((n : Nat) : Int)) /\ i.toNat < rows.length /\ ∀ x1, x1 = el rows i.toNat -> Bb (x1 != 1) ((0 <= i /\ i < ((n : Nat) : Int)) /\ i.toNat < rows.length /\ R6 (i + 1) /\ ∀ x2, x2 = i + 1 -> K .normal ([.ce (.sl false [4] ax), .ce (.sl false [4] pl), .ce (I6 ds), .ce (.bool fa), .ce (.ptr 1000010 0), .ce (.msl (1000015 : Nat) n cap), .ce (I6 len), .ce (I6 x2)], [zShop, [.arr [4, 4, 4, 4, 4, 4, 4, 4, 4, 4, 4, 4, 4, 0, 4, 0, 4, 4, 4, 4, 4, 0] (List.set rows i.toNat [bif false && true then (2000000 : Int) else el rows i.toNat, bif false && true then (2000000 : Int) else ec rows i.toNat 1, bif false && true then (2000000 : Int) else ec rows i.toNat 2, bif false && true then (2000000 : Int) else ec rows i.toNat 3, bif false && true then (2000000 : Int) else ec rows i.toNat 4, bif false && true then (2000000 : Int) else ec rows i.toNat 5, bif false && true then (2000000 : Int) else ec rows i.toNat 6, bif false && true then (2000000 : Int) else ec rows i.toNat 7, bif false && true then (2000000 : Int) else ec rows i.toNat 8, bif false && true then (2000000 : Int) else ec rows i.toNat 9, bif false && true then (2000000 : Int) else ec rows i.toNat 10, bif false && true then (2000000 : Int) else ec rows i.toNat 11, bif false && true then (2000000 : Int) else ec rows i.toNat 12, bif false && true then (2000000 : Int) else ec rows i.toNat 13, bif true && true then (2000000 : Int) else ec rows i.toNat 14, bif true && false then (0 : Int) else ec rows i.toNat 15, bif true && false then (0 : Int) else ec rows i.toNat 16, bif true && false then (0 : Int) else ec rows i.toNat 17, bif true && false then (0 : Int) else ec rows i.toNat 18, bif true && false then (0 : Int) else ec rows i.toNat 19, bif true && false then (0 : Int) else ec rows i.toNat 20, bif true && false then (0 : Int) else ec rows i.toNat 21]) d]])) (R6 (i + 1) /\ ∀ x3, x3 = i + 1 -> K .normal ([.ce (.sl false [4] ax), .ce (.sl false [4] pl), .ce (I6 ds), .ce (.bool fa), .ce (.ptr 1000010 0), .ce (.msl (1000015 : Nat) n cap), .ce (I6 len), .ce (I6 x3)], [zShop, [.arr [4, 4, 4, 4, 4, 4, 4, 4, 4, 4, 4, 4, 4, 0, 4, 0, 4, 4, 4, 4, 4, 0] rows d]]))) (R6 (i + 1) /\ ∀ x4, x4 = i + 1 -> K .normal ([.ce (.sl false [4] ax), .ce (.sl false [4] pl), .ce (I6 ds), .ce (.bool fa), .ce (.ptr 1000010 0), .ce (.msl (1000015 : Nat) n cap), .ce (I6 len), .ce (I6 x4)], [zShop, [.arr [4, 4, 4, 4, 4, 4, 4, 4, 4, 4, 4, 4, 4, 0, 4, 0, 4, 4, 4, 4, 4, 0] rows d]]))) (K (.exit 0) ([.ce (.sl false [4] ax), .ce (.sl false [4] pl), .ce (I6 ds), .ce (.ptr 1000010 0), .ce (.msl (1000015 : Nat) n cap)], [zShop, [.arr [4, 4, 4, 4, 4, 4, 4, 4, 4, 4, 4, 4, 4, 0, 4, 0, 4, 4, 4, 4, 4, 0] rows d]]))) := by kernel_rfl
theorem vbMadeS (ax pl : LL) (ds : Int) (fa : Bool) (K : HEx -> LV -> Prop) : (nbodyT true CMade anMade (nthLoop Tryz.f12 0) (([.ce (.sl false [4] ax), .ce (.sl false [4] pl), .ce (I6 ds), .ce (.bool fa), .ce (.ptr 1000010 0), .ce (.sl false [4, 4, 4, 4, 4, 4, 4, 4, 4, 4, 4, 4, 4, 0, 4, 0, 4, 4, 4, 4, 4, 0] []), .ce (I6 0), .ce (I6 0)], [[I6 0, I6 0, I6 0, .sl true [4, 4, 4, 4, 4, 4, 4] [], .sl true [4, 4, 4] [], I6 0, I6 0, I6 0, I6 0, I6 0, I6 0, I6 0, I6 0, I6 0, .sl true [4] [], I6 0, I6 0, I6 0, I6 0, I6 0, I6 0, I6 0, I6 0, I6 0, .sl true [4] [], I6 0, I6 0, I6 0, I6 0, I6 0, I6 0, I6 0, I6 0, I6 0, .sl true [4] [], .sl true [4, 4, 4, 4, 4, 4, 4, 4, 4, 4] [], I6 0, I6 0, I6 0, I6 0, I6 0, I6 0, I6 0, I6 0, I6 0], []])) K) =
 (Br ((0 : Int) < 0) (Bb (fa) (((0 : Int) <= 0 /\ (0 : Int) < 0) /\ ∀ (x1 : Int), x1 = 0 -> Bb (x1 != 1) (((0 : Int) <= 0 /\ (0 : Int) < 0) /\ False) ((-9223372036854775808 <= 1 /\ (1 : Int) <= 9223372036854775807) /\ ∀ (x2 : Int), x2 = 1 -> K .normal ([.ce (.sl false [4] ax), .ce (.sl false [4] pl), .ce (I6 ds), .ce (.bool fa), .ce (.ptr 1000010 0), .ce (.sl false [4, 4, 4, 4, 4, 4, 4, 4, 4, 4, 4, 4, 4, 0, 4, 0, 4, 4, 4, 4, 4, 0] []), .ce (I6 0), .ce (I6 x2)], [zShop, []]))) ((-9223372036854775808 <= 1 /\ (1 : Int) <= 9223372036854775807) /\ ∀ (x3 : Int), x3 = 1 -> K .normal ([.ce (.sl false [4] ax), .ce (.sl false [4] pl), .ce (I6 ds), .ce (.bool fa), .ce (.ptr 1000010 0), .ce (.sl false [4, 4, 4, 4, 4, 4, 4, 4, 4, 4, 4, 4, 4, 0, 4, 0, 4, 4, 4, 4, 4, 0] []), .ce (I6 0), .ce (I6 x3)], [zShop, []]))) (K (.exit 0) ([.ce (.sl false [4] ax), .ce (.sl false [4] pl), .ce (I6 ds), .ce (.ptr 1000010 0), .ce (.sl false [4, 4, 4, 4, 4, 4, 4, 4, 4, 4, 4, 4, 4, 0, 4, 0, 4, 4, 4, 4, 4, 0] [])], [zShop, []]))) := by kernel_rfl
theorem vcMade0 (ax pl : LL) (ds : Int) (fa : Bool) (Q : Res -> Prop) : (nfun true CMade Tryz.f12 (bodyOf Tryz.f12) [.ce (.sl false [4] []), .ce (.sl false [4] ax), .ce (.sl false [4] pl), .ce (I6 ds), .ce (.bool fa)] [] Q) =
 (((1 : Int) <= 4 /\ (4 : Int) <= 5 /\ (0 : Nat) <= 9223372036854775807) /\ ∀ (x1 : LL), x1 = [] -> (x1.length = 0 /\ (x1.length : Int) = 0 /\ (0 : Int) = 0 /\ zShop = zShop) /\ (niceL [] /\
 (0 : Nat) <= 5) /\ (∃ (x : BSt × Int), okB (355000 : Nat) x.1) /\ ∀ (x : BSt × Int), okB (355000 : Nat) x.1 -> ax.length <= 9223372036854775807 /\ (∃ (x : AxV × AxV × AxV), okAx x.1 /\ okAx x.snd.1 /\ okAx x.snd.2) /\ ∀ (x_1 : AxV × AxV × AxV), okAx x_1.1 /\ okAx x_1.snd.1 /\ okAx x_1.snd.2 -> pl.length <= 9223372036854775807 /\ (∃ (x : Int × Int × Int), (1 <= x.1 /\ x.1 <= 900) /\ (2 <= x.snd.1 /\ x.snd.1 <= 201) /\ 1 <= x.snd.2 /\ x.snd.2 <= 16000) /\ ∀ (x_2 : Int × Int × Int), (1 <= x_2.1 /\ x_2.1 <= 900) /\ (2 <= x_2.snd.1 /\ x_2.snd.1 <= 201) /\ 1 <= x_2.snd.2 /\ x_2.snd.2 <= 16000 -> True /\ (∃ (x : Int × Int × Int), pm x.1 /\ pm x.snd.1 /\ pm x.snd.2) /\ ∀ (x_3 : Int × Int × Int), pm x_3.1 /\ pm x_3.snd.1 /\ pm x_3.snd.2 -> okLen x.1.sg /\ ∀ x6, x6 = plen x.1.sg -> (okLen x.1.sg /\ okPts x.1.s0 x.1.s1 x.1.s2 x.1.sg /\ okB3 x_1.1.bl x_1.snd.1.bl x_1.snd.2.bl) /\ (∃ (x_4 : LegS), x_4 = leg x.1.s0 x.1.s1 x.1.s2 x.1.sg x_1.1.bl x_1.snd.1.bl x_1.snd.2.bl x_3.1 x_3.snd.1 x_3.snd.2 (clamp (plen x.1.sg) (0 : Int)) (clamp (plen x.1.sg) x6)) /\
 ∀ (x_4 : LegS), x_4 = leg x.1.s0 x.1.s1 x.1.s2 x.1.sg x_1.1.bl x_1.snd.1.bl x_1.snd.2.bl x_3.1 x_3.snd.1 x_3.snd.2 (clamp (plen x.1.sg) (0 : Int)) (clamp (plen x.1.sg) x6) -> Q ⟨.agg [I6 x.1.s0, I6 x.1.s1, I6 x.1.s2, .sl false [4, 4, 4, 4, 4, 4, 4] x.1.sg, .sl false [4, 4, 4] x.1.mks, I6 x_1.1.st, I6 x_1.1.sp, I6 x_1.1.ac, I6 x_1.1.je, I6 (-16777216), I6 16777216, I6 x_1.1.bl, I6 x_1.1.og, I6 x_1.1.sg, .sl false [4] x_1.1.pit, I6 x_1.snd.1.st, I6 x_1.snd.1.sp, I6 x_1.snd.1.ac, I6 x_1.snd.1.je, I6 (-16777216), I6 16777216, I6 x_1.snd.1.bl, I6 x_1.snd.1.og, I6 x_1.snd.1.sg, .sl false [4] x_1.snd.1.pit, I6 x_1.snd.2.st, I6 x_1.snd.2.sp, I6 x_1.snd.2.ac, I6 x_1.snd.2.je, I6 (-16777216), I6 16777216, I6 x_1.snd.2.bl, I6 x_1.snd.2.og, I6 x_1.snd.2.sg, .sl false [4] x_1.snd.2.pit, .sl false [4, 4, 4, 4, 4, 4, 4, 4, 4, 4] x_4.pk, I6 x_4.ln, I6 (clamp (plen x.1.sg) (0 : Int)), I6 x_3.1, I6 x_3.snd.1, I6 x_3.snd.2, I6 x_2.1, I6 x_2.snd.1, I6 x_2.snd.2, I6 x_4.ln], false, [], []⟩) := by kernel_rfl
theorem vcMade1 (e1 : List Int) (ax pl : LL) (ds : Int) (fa : Bool) (Q : Res -> Prop) : (nfun true CMade Tryz.f12 (bodyOf Tryz.f12) [.ce (.sl false [4] [e1]), .ce (.sl false [4] ax), .ce (.sl false [4] pl), .ce (I6 ds), .ce (.bool fa)] [] Q) =
 (((1 : Int) <= 4 /\ (4 : Int) <= 5 /\ (1 : Nat) <= 9223372036854775807) /\ ∀ (x1 : LL), x1 = [] -> (x1.length = 0 /\ (x1.length : Int) = 0 /\ (0 : Int) = 0 /\ zShop = zShop) /\ (niceL [] /\
 (0 : Nat) <= 5) /\ (∃ (x : BSt × Int), okB (355000 : Nat) x.1) /\ ∀ (x : BSt × Int), okB (355000 : Nat) x.1 -> ax.length <= 9223372036854775807 /\ (∃ (x : AxV × AxV × AxV), okAx x.1 /\ okAx x.snd.1 /\ okAx x.snd.2) /\ ∀ (x_1 : AxV × AxV × AxV), okAx x_1.1 /\ okAx x_1.snd.1 /\ okAx x_1.snd.2 -> pl.length <= 9223372036854775807 /\ (∃ (x : Int × Int × Int), (1 <= x.1 /\ x.1 <= 900) /\ (2 <= x.snd.1 /\ x.snd.1 <= 201) /\ 1 <= x.snd.2 /\ x.snd.2 <= 16000) /\ ∀ (x_2 : Int × Int × Int), (1 <= x_2.1 /\ x_2.1 <= 900) /\ (2 <= x_2.snd.1 /\ x_2.snd.1 <= 201) /\ 1 <= x_2.snd.2 /\ x_2.snd.2 <= 16000 -> True /\ (∃ (x : Int × Int × Int), pm x.1 /\ pm x.snd.1 /\ pm x.snd.2) /\ ∀ (x_3 : Int × Int × Int), pm x_3.1 /\ pm x_3.snd.1 /\ pm x_3.snd.2 -> okLen x.1.sg /\ ∀ x6, x6 = plen x.1.sg -> (okLen x.1.sg /\ okPts x.1.s0 x.1.s1 x.1.s2 x.1.sg /\ okB3 x_1.1.bl x_1.snd.1.bl x_1.snd.2.bl) /\ (∃ (x_4 : LegS), x_4 = leg x.1.s0 x.1.s1 x.1.s2 x.1.sg x_1.1.bl x_1.snd.1.bl x_1.snd.2.bl x_3.1 x_3.snd.1 x_3.snd.2 (clamp (plen x.1.sg) (0 : Int)) (clamp (plen x.1.sg) x6)) /\
 ∀ (x_4 : LegS), x_4 = leg x.1.s0 x.1.s1 x.1.s2 x.1.sg x_1.1.bl x_1.snd.1.bl x_1.snd.2.bl x_3.1 x_3.snd.1 x_3.snd.2 (clamp (plen x.1.sg) (0 : Int)) (clamp (plen x.1.sg) x6) -> Q ⟨.agg [I6 x.1.s0, I6 x.1.s1, I6 x.1.s2, .sl false [4, 4, 4, 4, 4, 4, 4] x.1.sg, .sl false [4, 4, 4] x.1.mks, I6 x_1.1.st, I6 x_1.1.sp, I6 x_1.1.ac, I6 x_1.1.je, I6 (-16777216), I6 16777216, I6 x_1.1.bl, I6 x_1.1.og, I6 x_1.1.sg, .sl false [4] x_1.1.pit, I6 x_1.snd.1.st, I6 x_1.snd.1.sp, I6 x_1.snd.1.ac, I6 x_1.snd.1.je, I6 (-16777216), I6 16777216, I6 x_1.snd.1.bl, I6 x_1.snd.1.og, I6 x_1.snd.1.sg, .sl false [4] x_1.snd.1.pit, I6 x_1.snd.2.st, I6 x_1.snd.2.sp, I6 x_1.snd.2.ac, I6 x_1.snd.2.je, I6 (-16777216), I6 16777216, I6 x_1.snd.2.bl, I6 x_1.snd.2.og, I6 x_1.snd.2.sg, .sl false [4] x_1.snd.2.pit, .sl false [4, 4, 4, 4, 4, 4, 4, 4, 4, 4] x_4.pk, I6 x_4.ln, I6 (clamp (plen x.1.sg) (0 : Int)), I6 x_3.1, I6 x_3.snd.1, I6 x_3.snd.2, I6 x_2.1, I6 x_2.snd.1, I6 x_2.snd.2, I6 x_4.ln], false, [], []⟩) := by kernel_rfl
theorem vcMade2 (e1 e2 : List Int) (ax pl : LL) (ds : Int) (fa : Bool) (Q : Res -> Prop) : (nfun true CMade Tryz.f12 (bodyOf Tryz.f12) [.ce (.sl false [4] [e1, e2]), .ce (.sl false [4] ax), .ce (.sl false [4] pl), .ce (I6 ds), .ce (.bool fa)] [] Q) =
 (((1 : Int) <= 4 /\ (4 : Int) <= 5 /\ (2 : Nat) <= 9223372036854775807) /\ ∀ (x1 : LL), x1 = [] -> (x1.length = 0 /\ (x1.length : Int) = 0 /\ (0 : Int) = 0 /\ zShop = zShop) /\ (niceL [] /\
 (0 : Nat) <= 5) /\ (∃ (x : BSt × Int), okB (355000 : Nat) x.1) /\ ∀ (x : BSt × Int), okB (355000 : Nat) x.1 -> ax.length <= 9223372036854775807 /\ (∃ (x : AxV × AxV × AxV), okAx x.1 /\ okAx x.snd.1 /\ okAx x.snd.2) /\ ∀ (x_1 : AxV × AxV × AxV), okAx x_1.1 /\ okAx x_1.snd.1 /\ okAx x_1.snd.2 -> pl.length <= 9223372036854775807 /\ (∃ (x : Int × Int × Int), (1 <= x.1 /\ x.1 <= 900) /\ (2 <= x.snd.1 /\ x.snd.1 <= 201) /\ 1 <= x.snd.2 /\ x.snd.2 <= 16000) /\ ∀ (x_2 : Int × Int × Int), (1 <= x_2.1 /\ x_2.1 <= 900) /\ (2 <= x_2.snd.1 /\ x_2.snd.1 <= 201) /\ 1 <= x_2.snd.2 /\ x_2.snd.2 <= 16000 -> True /\ (∃ (x : Int × Int × Int), pm x.1 /\ pm x.snd.1 /\ pm x.snd.2) /\ ∀ (x_3 : Int × Int × Int), pm x_3.1 /\ pm x_3.snd.1 /\ pm x_3.snd.2 -> okLen x.1.sg /\ ∀ x6, x6 = plen x.1.sg -> (okLen x.1.sg /\ okPts x.1.s0 x.1.s1 x.1.s2 x.1.sg /\ okB3 x_1.1.bl x_1.snd.1.bl x_1.snd.2.bl) /\ (∃ (x_4 : LegS), x_4 = leg x.1.s0 x.1.s1 x.1.s2 x.1.sg x_1.1.bl x_1.snd.1.bl x_1.snd.2.bl x_3.1 x_3.snd.1 x_3.snd.2 (clamp (plen x.1.sg) (0 : Int)) (clamp (plen x.1.sg) x6)) /\
 ∀ (x_4 : LegS), x_4 = leg x.1.s0 x.1.s1 x.1.s2 x.1.sg x_1.1.bl x_1.snd.1.bl x_1.snd.2.bl x_3.1 x_3.snd.1 x_3.snd.2 (clamp (plen x.1.sg) (0 : Int)) (clamp (plen x.1.sg) x6) -> Q ⟨.agg [I6 x.1.s0, I6 x.1.s1, I6 x.1.s2, .sl false [4, 4, 4, 4, 4, 4, 4] x.1.sg, .sl false [4, 4, 4] x.1.mks, I6 x_1.1.st, I6 x_1.1.sp, I6 x_1.1.ac, I6 x_1.1.je, I6 (-16777216), I6 16777216, I6 x_1.1.bl, I6 x_1.1.og, I6 x_1.1.sg, .sl false [4] x_1.1.pit, I6 x_1.snd.1.st, I6 x_1.snd.1.sp, I6 x_1.snd.1.ac, I6 x_1.snd.1.je, I6 (-16777216), I6 16777216, I6 x_1.snd.1.bl, I6 x_1.snd.1.og, I6 x_1.snd.1.sg, .sl false [4] x_1.snd.1.pit, I6 x_1.snd.2.st, I6 x_1.snd.2.sp, I6 x_1.snd.2.ac, I6 x_1.snd.2.je, I6 (-16777216), I6 16777216, I6 x_1.snd.2.bl, I6 x_1.snd.2.og, I6 x_1.snd.2.sg, .sl false [4] x_1.snd.2.pit, .sl false [4, 4, 4, 4, 4, 4, 4, 4, 4, 4] x_4.pk, I6 x_4.ln, I6 (clamp (plen x.1.sg) (0 : Int)), I6 x_3.1, I6 x_3.snd.1, I6 x_3.snd.2, I6 x_2.1, I6 x_2.snd.1, I6 x_2.snd.2, I6 x_4.ln], false, [], []⟩) := by kernel_rfl
theorem vcMade3 (e1 e2 e3 : List Int) (ax pl : LL) (ds : Int) (fa : Bool) (Q : Res -> Prop) : (nfun true CMade Tryz.f12 (bodyOf Tryz.f12) [.ce (.sl false [4] [e1, e2, e3]), .ce (.sl false [4] ax), .ce (.sl false [4] pl), .ce (I6 ds), .ce (.bool fa)] [] Q) =
 (((1 : Int) <= 4 /\ (4 : Int) <= 5 /\ (3 : Nat) <= 9223372036854775807) /\ ∀ (x1 : LL), x1 = [] -> (x1.length = 0 /\ (x1.length : Int) = 0 /\ (0 : Int) = 0 /\ zShop = zShop) /\ (niceL [] /\
 (0 : Nat) <= 5) /\ (∃ (x : BSt × Int), okB (355000 : Nat) x.1) /\ ∀ (x : BSt × Int), okB (355000 : Nat) x.1 -> ax.length <= 9223372036854775807 /\ (∃ (x : AxV × AxV × AxV), okAx x.1 /\ okAx x.snd.1 /\ okAx x.snd.2) /\ ∀ (x_1 : AxV × AxV × AxV), okAx x_1.1 /\ okAx x_1.snd.1 /\ okAx x_1.snd.2 -> pl.length <= 9223372036854775807 /\ (∃ (x : Int × Int × Int), (1 <= x.1 /\ x.1 <= 900) /\ (2 <= x.snd.1 /\ x.snd.1 <= 201) /\ 1 <= x.snd.2 /\ x.snd.2 <= 16000) /\ ∀ (x_2 : Int × Int × Int), (1 <= x_2.1 /\ x_2.1 <= 900) /\ (2 <= x_2.snd.1 /\ x_2.snd.1 <= 201) /\ 1 <= x_2.snd.2 /\ x_2.snd.2 <= 16000 -> True /\ (∃ (x : Int × Int × Int), pm x.1 /\ pm x.snd.1 /\ pm x.snd.2) /\ ∀ (x_3 : Int × Int × Int), pm x_3.1 /\ pm x_3.snd.1 /\ pm x_3.snd.2 -> okLen x.1.sg /\ ∀ x6, x6 = plen x.1.sg -> (okLen x.1.sg /\ okPts x.1.s0 x.1.s1 x.1.s2 x.1.sg /\ okB3 x_1.1.bl x_1.snd.1.bl x_1.snd.2.bl) /\ (∃ (x_4 : LegS), x_4 = leg x.1.s0 x.1.s1 x.1.s2 x.1.sg x_1.1.bl x_1.snd.1.bl x_1.snd.2.bl x_3.1 x_3.snd.1 x_3.snd.2 (clamp (plen x.1.sg) (0 : Int)) (clamp (plen x.1.sg) x6)) /\
 ∀ (x_4 : LegS), x_4 = leg x.1.s0 x.1.s1 x.1.s2 x.1.sg x_1.1.bl x_1.snd.1.bl x_1.snd.2.bl x_3.1 x_3.snd.1 x_3.snd.2 (clamp (plen x.1.sg) (0 : Int)) (clamp (plen x.1.sg) x6) -> Q ⟨.agg [I6 x.1.s0, I6 x.1.s1, I6 x.1.s2, .sl false [4, 4, 4, 4, 4, 4, 4] x.1.sg, .sl false [4, 4, 4] x.1.mks, I6 x_1.1.st, I6 x_1.1.sp, I6 x_1.1.ac, I6 x_1.1.je, I6 (-16777216), I6 16777216, I6 x_1.1.bl, I6 x_1.1.og, I6 x_1.1.sg, .sl false [4] x_1.1.pit, I6 x_1.snd.1.st, I6 x_1.snd.1.sp, I6 x_1.snd.1.ac, I6 x_1.snd.1.je, I6 (-16777216), I6 16777216, I6 x_1.snd.1.bl, I6 x_1.snd.1.og, I6 x_1.snd.1.sg, .sl false [4] x_1.snd.1.pit, I6 x_1.snd.2.st, I6 x_1.snd.2.sp, I6 x_1.snd.2.ac, I6 x_1.snd.2.je, I6 (-16777216), I6 16777216, I6 x_1.snd.2.bl, I6 x_1.snd.2.og, I6 x_1.snd.2.sg, .sl false [4] x_1.snd.2.pit, .sl false [4, 4, 4, 4, 4, 4, 4, 4, 4, 4] x_4.pk, I6 x_4.ln, I6 (clamp (plen x.1.sg) (0 : Int)), I6 x_3.1, I6 x_3.snd.1, I6 x_3.snd.2, I6 x_2.1, I6 x_2.snd.1, I6 x_2.snd.2, I6 x_4.ln], false, [], []⟩) := by kernel_rfl
theorem vcMade4 (e1 e2 e3 e4 : List Int) (l ax pl : LL) (ds : Int) (fa : Bool) (Q : Res -> Prop) : (nfun true CMade Tryz.f12 (bodyOf Tryz.f12) [.ce (.sl false [4] (e1 :: e2 :: e3 :: e4 :: l)), .ce (.sl false [4] ax), .ce (.sl false [4] pl), .ce (I6 ds), .ce (.bool fa)] [] Q) =
 (((1 : Int) <= 4 /\ (4 : Int) <= 5 /\ List.length (e1 :: e2 :: e3 :: e4 :: l) <= 9223372036854775807) /\ (∃ (x : LL × Nat), niceL x.1 /\ ((0 : Nat) < List.length x.1 /\ List.length x.1 <= 5) /\ List.length x.1 <= x.2 /\ x.2 <= maxLen) /\ ∀ (x : LL × Nat), niceL x.1 /\ ((0 : Nat) < List.length x.1 /\ List.length x.1 <= 5) /\ List.length x.1 <= x.2 /\ x.2 <= maxLen -> (List.length x.1 = List.length x.1 /\ (List.length x.1 : Int) = (List.length x.1 : Int) /\ (0 : Int) = 0 /\ niceL x.1 /\ List.length x.1 <= 5 /\ zShop = zShop) /\
 ∀ (x_1 : LL), niceL x_1 /\ x_1.length = List.length x.1 -> List.length x.1 = x_1.length /\ (niceL x_1 /\ x_1.length <= 5) /\ (∃ (x : BSt × Int), okB (355000 : Nat) x.1) /\ ∀ (x : BSt × Int), okB (355000 : Nat) x.1 -> ax.length <= 9223372036854775807 /\ (∃ (x : AxV × AxV × AxV), okAx x.1 /\ okAx x.snd.1 /\ okAx x.snd.2) /\ ∀ (x_2 : AxV × AxV × AxV), okAx x_2.1 /\ okAx x_2.snd.1 /\ okAx x_2.snd.2 -> pl.length <= 9223372036854775807 /\ (∃ (x : Int × Int × Int), (1 <= x.1 /\ x.1 <= 900) /\ (2 <= x.snd.1 /\ x.snd.1 <= 201) /\ 1 <= x.snd.2 /\ x.snd.2 <= 16000) /\ ∀ (x_3 : Int × Int × Int), (1 <= x_3.1 /\ x_3.1 <= 900) /\ (2 <= x_3.snd.1 /\ x_3.snd.1 <= 201) /\ 1 <= x_3.snd.2 /\ x_3.snd.2 <= 16000 -> True /\ (∃ (x : Int × Int × Int), pm x.1 /\ pm x.snd.1 /\ pm x.snd.2) /\ ∀ (x_4 : Int × Int × Int), pm x_4.1 /\ pm x_4.snd.1 /\ pm x_4.snd.2 -> okLen x.1.sg /\ ∀ x7, x7 = plen x.1.sg ->
 (okLen x.1.sg /\ okPts x.1.s0 x.1.s1 x.1.s2 x.1.sg /\ okB3 x_2.1.bl x_2.snd.1.bl x_2.snd.2.bl) /\ (∃ (x_5 : LegS), x_5 = leg x.1.s0 x.1.s1 x.1.s2 x.1.sg x_2.1.bl x_2.snd.1.bl x_2.snd.2.bl x_4.1 x_4.snd.1 x_4.snd.2 (clamp (plen x.1.sg) (0 : Int)) (clamp (plen x.1.sg) x7)) /\ ∀ (x_5 : LegS), x_5 = leg x.1.s0 x.1.s1 x.1.s2 x.1.sg x_2.1.bl x_2.snd.1.bl x_2.snd.2.bl x_4.1 x_4.snd.1 x_4.snd.2 (clamp (plen x.1.sg) (0 : Int)) (clamp (plen x.1.sg) x7) -> Q ⟨.agg [I6 x.1.s0, I6 x.1.s1, I6 x.1.s2, .sl false [4, 4, 4, 4, 4, 4, 4] x.1.sg, .sl false [4, 4, 4] x.1.mks, I6 x_2.1.st, I6 x_2.1.sp, I6 x_2.1.ac, I6 x_2.1.je, I6 (-16777216), I6 16777216, I6 x_2.1.bl, I6 x_2.1.og, I6 x_2.1.sg, .sl false [4] x_2.1.pit, I6 x_2.snd.1.st, I6 x_2.snd.1.sp, I6 x_2.snd.1.ac, I6 x_2.snd.1.je, I6 (-16777216), I6 16777216, I6 x_2.snd.1.bl, I6 x_2.snd.1.og, I6 x_2.snd.1.sg, .sl false [4] x_2.snd.1.pit, I6 x_2.snd.2.st, I6 x_2.snd.2.sp, I6 x_2.snd.2.ac, I6 x_2.snd.2.je, I6 (-16777216), I6 16777216, I6 x_2.snd.2.bl, I6 x_2.snd.2.og, I6 x_2.snd.2.sg, .sl false [4] x_2.snd.2.pit, .sl false [4, 4, 4, 4, 4, 4, 4, 4, 4, 4] x_5.pk, I6 x_5.ln, I6 (clamp (plen x.1.sg) (0 : Int)), I6 x_4.1, I6 x_4.snd.1, I6 x_4.snd.2, I6 x_3.1, I6 x_3.snd.1, I6 x_3.snd.2, I6 x_5.ln], false, [], []⟩) := by kernel_rfl
end Go.Proofs.YtoekmphdpepdbaaGreat
namespace U
theorem lsh_len {l : LL} : (lsh l = true -> 3 < l.length) /\ (lsh l = false -> l.length <= 3) := by
 match l with
 | [] => exact ⟨fun h => (by cases h), fun _ => by simp⟩
 | [_] => exact ⟨fun h => (by cases h), fun _ => by simp⟩
 | [_, _] => exact ⟨fun h => (by cases h), fun _ => by simp⟩
 | [_, _, _] => exact ⟨fun h => (by cases h), fun _ => by simp⟩
 | _ :: _ :: _ :: _ :: l => exact ⟨fun _ => by simp, fun h => (by cases h)⟩
theorem ec_set_eq {L : LL} {i c : Nat} {r : List Int} (h : i < L.length) : ec (L.set i r) i c = r.getD c 0 := by
 have : (L.set i r).getD i [] = r := by simp [List.getD_eq_getElem?_getD, h]
 unfold ec; rw [this]
theorem ec_set_ne {L : LL} {i j c : Nat} {r : List Int} (h : j ≠ i) : ec (L.set i r) j c = ec L j c := by
 have : (L.set i r).getD j [] = L.getD j [] := by simp [List.getD_eq_getElem?_getD, List.getElem?_set_ne (Ne.symm h)]
 unfold ec; rw [this]
theorem nice_ex : ∃ x : LL × Nat, niceL x.1 /\ (0 < x.1.length /\ x.1.length <= 5) /\ x.1.length <= x.2 /\ x.2 <= Go.maxLen := by
 refine ⟨([[1, 0, 0, 0, 0, 0, 0, 0, 0, 0, 0, 0, 0, 0, 0, 0, 0, 0, 0, 0, 0, 0]], 1), fun j hj => ?_, by decide, by decide, by unfold Go.maxLen; decide⟩
 obtain rfl : j = 0 := by simp at hj; exact hj
 unfold niceAt nice b3 ec
 decide
theorem okB_path {x : BSt} (h : okB 355000 x) : okPath x.s0 x.s1 x.s2 x.sg x.mks := ⟨h.2.1, h.2.2.1, h.2.2.2.2.2.1, h.2.2.2.2.2.2⟩
theorem made_tail {ax pl : LL} {G : BSt -> AxV × AxV × AxV -> Int × Int × Int -> Int × Int × Int -> LegS -> Prop} (ha : ax.length <= 9223372036854775807) (hp : pl.length <= 9223372036854775807)
 (fin : ∀ (x : BSt) (y : AxV × AxV × AxV) (p z : Int × Int × Int) (w : LegS), okShop ⟨⟨x.s0, x.s1, x.s2, x.sg, x.mks, y.1, y.2.1, y.2.2, z.1, z.2.1, z.2.2, clamp (plen x.sg) 0, clamp (plen x.sg) (plen x.sg), w.pk, w.ln⟩, p.1, p.2.1, p.2.2⟩ -> G x y p z w) :
 (∃ (x : BSt × Int), okB 355000 x.1) /\ ∀ (x : BSt × Int), okB 355000 x.1 -> ax.length <= 9223372036854775807 /\ (∃ (x : AxV × AxV × AxV), okAx x.1 /\ okAx x.snd.1 /\ okAx x.snd.2) /\
 ∀ (y : AxV × AxV × AxV), okAx y.1 /\ okAx y.snd.1 /\ okAx y.snd.2 -> pl.length <= 9223372036854775807 /\ (∃ (x : Int × Int × Int), (1 <= x.1 /\ x.1 <= 900) /\ (2 <= x.snd.1 /\ x.snd.1 <= 201) /\ 1 <= x.snd.2 /\ x.snd.2 <= 16000) /\
 ∀ (p : Int × Int × Int), (1 <= p.1 /\ p.1 <= 900) /\ (2 <= p.snd.1 /\ p.snd.1 <= 201) /\ 1 <= p.snd.2 /\ p.snd.2 <= 16000 -> True /\ (∃ (x : Int × Int × Int), pm x.1 /\ pm x.snd.1 /\ pm x.snd.2) /\
 ∀ (z : Int × Int × Int), pm z.1 /\ pm z.snd.1 /\ pm z.snd.2 -> okLen x.1.sg /\ ∀ (x7 : Int), x7 = plen x.1.sg -> (okLen x.1.sg /\ okPts x.1.s0 x.1.s1 x.1.s2 x.1.sg /\ okB3 y.1.bl y.snd.1.bl y.snd.2.bl) /\
 (∃ (w : LegS), w = leg x.1.s0 x.1.s1 x.1.s2 x.1.sg y.1.bl y.snd.1.bl y.snd.2.bl z.1 z.snd.1 z.snd.2 (clamp (plen x.1.sg) 0) (clamp (plen x.1.sg) x7)) /\
 ∀ (w : LegS), w = leg x.1.s0 x.1.s1 x.1.s2 x.1.sg y.1.bl y.snd.1.bl y.snd.2.bl z.1 z.snd.1 z.snd.2 (clamp (plen x.1.sg) 0) (clamp (plen x.1.sg) x7) -> G x.1 y p z w := by
 refine ⟨⟨(⟨0, 0, 0, 0, 0, 0, 0, [], [], -1, false⟩, 0), okB_mono (Nat.zero_le _) (okB_zero (-1) false)⟩, fun x hx => ⟨ha, ?_, fun y hy => ⟨hp, ⟨(1, 2, 1), by decide⟩, fun p hpp => ⟨trivial, ⟨(1, 1, 1), .inl rfl, .inl rfl, .inl rfl⟩, fun z hz => ?_⟩⟩⟩⟩
 . obtain ⟨a, h⟩ := Go.Proofs.YtoekmphdpepdbaaGreat.okAx_ex
   exact ⟨(a, a, a), h, h, h⟩
 . have hx := okB_path hx
   have hL := okPath_len hx
   have hpl := plen_le hL
   refine ⟨hL, fun x7 e7 => ⟨⟨hL, okPath_pts hx, ?_⟩, ⟨_, rfl⟩, fun w hw => fin x.1 y p z w ?_⟩⟩
   . have := hy.1.2.2.2.2.1
     have := hy.2.1.2.2.2.2.1
     have := hy.2.2.2.2.2.2.1
     unfold okB3; omega
   . have c1 := clamp_bd (v := 0) hpl.1
     have c2 := clamp_bd (v := plen x.1.sg) hpl.1
     subst e7
     exact ⟨⟨hx, hy.1, hy.2.1, hy.2.2, hz, c1, c2, by rw [hw]; rfl, by rw [hw]; rfl⟩, by show clamp (plen x.1.sg) 0 = 0; unfold clamp; omega, hpp.1, hpp.2.1, hpp.2.2⟩
end U
namespace Go.Proofs.YtoekmphdpepdbaaGreat
open Go Go.HL U
attribute [local irreducible] hfun bodyT fragT
theorem loopMotz : ∀ v Q, (LMotz v).wp Q -> hloop CMotz anMotz (nthLoop Tryz.f35 0) v Q := by
 intro v Q h
 unfold LMotz at h
 split at h
 case h_2 => exact h.elim
 rename_i m ks y l p a0 a1 a2
 cases hks : ksEq ks [4, 4, 4, 4, 4, 4, 4, 4, 4, 4, 4, 4, 4, 0, 4, 0, 4, 4, 4, 4, 4, 0]
 . rw [hks] at h; exact h.elim
 rw [hks] at h
 obtain rfl := ksEq_eq hks
 obtain ⟨⟨hm, hp, hy, ha⟩, hq⟩ := h
 refine hloop_rec (σ := LL × Int × Int × Int × Int) (fun s => ([.ce (I6 m), .ce (.ptr 1000010 0), .zs [4, 4, 4, 4, 4, 4, 4, 4, 4, 4, 4, 4, 4, 0, 4, 0, 4, 4, 4, 4, 4, 0] s.1, .ce (.lit true), .ce (.ptr 1000007 0)], [[.sl false [4] l, I6 s.2.1], [I6 s.2.2.1, I6 s.2.2.2.1, I6 s.2.2.2.2]]))
  (fun s => 5 - s.1.length) (fun s => inSrc l s.2.1 /\ s.1.length <= 5 /\ niceL s.1 /\ b3 (4 + 40 * (s.1.length : Int)) s.2.2.1 s.2.2.2.1 s.2.2.2.2 /\ (s.1.length = 0 -> s.2.1 = p) /\ (0 < s.1.length -> p < (l.length : Int))) ?_ (y, p, a0, a1, a2) ⟨hp, by dsimp only; omega, fun j hj => absurd (show j < y.length from hj) (by omega), b3_mono (by dsimp only; omega) ha, fun _ => rfl, fun h => by dsimp only at h; omega⟩
 rintro ⟨y, q, a0, a1, a2⟩ ⟨hp, hy5, hy, ha, h0, h1⟩ K hn hx _
 dsimp only at hp hy5 hy ha h0 h1 hn ⊢
 refine byVB (vbMotz m q a0 a1 a2 y l K) ⟨fun g => ⟨trivial, ?_⟩, fun g => hx _ _ (hq (y, q, a0, a1, a2) ⟨hy, hy5, ?_, ?_⟩)⟩
 . have g := odt g
   rintro x1 ex1 _ rfl _ rfl
   refine ⟨fun gl => ⟨⟨by decide, by decide, hp⟩, drew_ex _ _ (by decide), fun y1 h1' => ⟨⟨h1'.1, by have := h1'.2.1; omega⟩, fun x5 e5 => ?_⟩⟩, fun gl => hx _ _ (hq (y, _, a0, a1, a2) ⟨hy, hy5, ?_, ?_⟩)⟩
   . have hlt := odt (ex1.symm.trans gl)
     have k5 : 1 <= x5 /\ x5 <= 3 := by
      have : y1.1 = 0 ∨ y1.1 = 1 ∨ y1.1 = 2 ∨ y1.1 = 3 ∨ y1.1 = 4 := by have := h1'.1; have := h1'.2.1; omega
      rcases this with h | h | h | h | h <;> rw [h] at e5
      . have e : x5 = 2 := e5
        omega
      . have e : x5 = 2 := e5
        omega
      . have e : x5 = 2 := e5
        omega
      . have e : x5 = 3 := e5
        omega
      . have e : x5 = 1 := e5
        omega
     have s1 := drew_src hp h1'
     refine ⟨⟨s1, b3_mono (by omega) ha, k5⟩, grown_ex k5 s1, fun x hx2 => ⟨⟨show (y.length + 1) * 176 <= 140737488355328 by omega, by unfold maxLen; omega⟩, ?_⟩⟩
     have nb := hx2.2.2 _ (by omega) ha
     refine hn (_, x.2, x.1.t0, x.1.t1, x.1.t2) ⟨hx2.1, by simp; omega, niceL_app hy (niceB_mono (by omega) nb), b3_mono (by simp; omega) nb.2.2.1, fun e => by simp at e, fun _ => ?_⟩ (by simp; omega)
     by_cases e : y.length = 0
     . rw [<- h0 e]; exact hlt
     . exact h1 (by omega)
   . intro hlt
     have hnl := odf (ex1.symm.trans gl)
     by_cases e : y.length = 0
     . rw [h0 e] at hnl; omega
     . dsimp only; omega
   . intro hnl
     by_cases e : y.length = 0
     . exact e
     . have := h1 (by omega); omega
 . intro _
   have g := odf g
   dsimp only
   omega
 . intro hnl
   by_cases e : y.length = 0
   . exact e
   . have := h1 (by omega); omega
theorem sMotz : Sound Tryz.prog 35 SMotz := by
 refine sound_of (C := CMotz) tabMotz Tryz.func35 (by kernel_rfl) (by decide +kernel) (by kernel_rfl) rfl ⟨sFrom, sNext, sLeft, sMot, trivial⟩ (loops1 (by kernel_rfl) (loopOK_of (an := anMotz) (S := LMotz) (by kernel_rfl) loopMotz)) ?_
 intro hA pA R h
 unfold SMotz at h
 split at h
 case h_2 => exfalso; exact h
 rename_i l m
 have hx : (1 <= m /\ m <= 5 /\ l.length <= 9223372036854775807) /\ (l.length <= 3 -> R ⟨.ce (.sl false [4, 4, 4, 4, 4, 4, 4, 4, 4, 4, 4, 4, 4, 0, 4, 0, 4, 4, 4, 4, 4, 0] []), false, [], [[]]⟩) /\ (3 < l.length -> ∀ (y : LL) (c : Nat), niceL y -> 0 < y.length -> y.length <= 5 -> y.length <= c /\ c <= maxLen -> R ⟨.ce (.msl 500 y.length c), false, [], [[.arr [4, 4, 4, 4, 4, 4, 4, 4, 4, 4, 4, 4, 4, 0, 4, 0, 4, 4, 4, 4, 4, 0] y c]]⟩) := by
  cases hs : lsh l with
  | true =>
   rw [hs] at h
   obtain ⟨hm, _, hR⟩ := h
   exact ⟨hm, fun e => by have := lsh_len.1 hs; omega, fun _ y c h1 h2 h3 h4 => hR (y, c) ⟨h1, ⟨h2, h3⟩, h4⟩⟩
  | false =>
   rw [hs] at h
   exact ⟨h.1, fun _ => h.2, fun e => by have := lsh_len.2 hs; omega⟩
 obtain ⟨⟨hm0, hm1, hl⟩, hR0, hR1⟩ := hx
 refine byVC (vcMotz l m R) ⟨trivial, ?_⟩
 intro x1 e1 x2 e2
 rw [e1, e2]
 have s0 : inSrc l 0 := ⟨Int.le_refl _, hl⟩
 refine ⟨⟨by decide, by decide, s0⟩, drew_ex _ _ (by decide), fun y1 h1 => ?_⟩
 have s1 := drew_src s0 h1
 have b1 := h1.1
 have b1' := h1.2.1
 refine ⟨by omega, fun x4 e4 => ⟨⟨by decide, by decide, s1⟩, drew_ex _ _ (by decide), fun y2 h2 => ?_⟩⟩
 have s2 := drew_src s1 h2
 have b2 := h2.1
 have b2' := h2.2.1
 refine ⟨by omega, fun x6 e6 => ⟨⟨by decide, by decide, s2⟩, drew_ex _ _ (by decide), fun y3 h3 => ?_⟩⟩
 have s3 := drew_src s2 h3
 have b3' := h3.1
 have b3'' := h3.2.1
 have ep : y3.2 < (l.length : Int) ↔ 3 < l.length := by
  rw [h3.2.2, h2.2.2, h1.2.2]
  unfold adv
  (repeat' split) <;> omega
 refine ⟨by omega, fun x8 e8 => ⟨⟨⟨hm0, hm1⟩, s3, rfl, by unfold b3; omega⟩, fun z ⟨z1, z2, z3, z4⟩ => ⟨fun e => hR0 ?_, fun e c hc => hR1 ?_ z.1 c z1 e z2 hc⟩⟩⟩
 . apply Classical.byContradiction
   intro hc
   have := z3 (ep.2 (by omega))
   omega
 . apply Classical.byContradiction
   intro hc
   have := z4 (fun h => hc (ep.1 h))
   omega
theorem sPla : Sound Tryz.prog 38 SPla := by
 refine sound_of (C := CPla) tabPla Tryz.func38 (by kernel_rfl) (by decide +kernel) (by kernel_rfl) rfl ⟨sFrom, sNext, trivial⟩ (loops0 (by kernel_rfl)) ?_
 intro hA pA R h
 unfold SPla at h
 split at h
 case h_2 => exfalso; exact h
 rename_i l
 obtain ⟨hl, _, hR⟩ := h
 refine byVC (vcPla l R) ⟨trivial, ?_⟩
 intro x1 e1 x2 e2
 rw [e1, e2]
 have s0 : inSrc l 0 := ⟨Int.le_refl _, hl⟩
 refine ⟨⟨by decide, by decide, s0⟩, drew_ex _ _ (by decide), fun y1 h1 => ?_⟩
 have s1 := drew_src s0 h1
 have b1 := h1.1
 have b1' := h1.2.1
 refine ⟨by omega, fun x4 e4 => ⟨⟨by decide, by decide, s1⟩, drew_ex _ _ (by decide), fun y2 h2 => ?_⟩⟩
 have s2 := drew_src s1 h2
 have b2 := h2.1
 have b2' := h2.2.1
 refine ⟨by omega, fun x6 e6 => ⟨⟨by decide, by decide, s2⟩, drew_ex _ _ (by decide), fun y3 h3 => ?_⟩⟩
 have b3' := h3.1
 have b3'' := h3.2.1
 exact ⟨by omega, fun x8 e8 => hR (x4, x6, x8) ⟨by dsimp only; omega, by dsimp only; omega, by dsimp only; omega⟩⟩
theorem loopMade : ∀ v Q, (LMade v).wp Q -> hloop CMade anMade (nthLoop Tryz.f12 0) v Q := by
 intro v Q h
 unfold LMade at h
 split at h
 case h_2 => exact h.elim
 rename_i ax pl ds fa it len i rb ib
 split at h
 case h_3 => exact h.elim
 . rename_i n cap ks rows d
   cases hks : ksEq ks [4, 4, 4, 4, 4, 4, 4, 4, 4, 4, 4, 4, 4, 0, 4, 0, 4, 4, 4, 4, 4, 0]
   . rw [hks] at h; exact h.elim
   rw [hks] at h
   obtain rfl := ksEq_eq hks
   obtain ⟨⟨h1, h2, h3, h4, h5, h6⟩, hq⟩ := h
   subst h1 h2 h3 h6
   refine hloop_rec (σ := LL × Nat) (fun s => ([.ce (.sl false [4] ax), .ce (.sl false [4] pl), .ce (I6 ds), .ce (.bool fa), .ce (.ptr 1000010 0), .ce (.msl 1000015 rows.length cap), .ce (I6 (rows.length : Int)), .ce (I6 (s.2 : Int))], [zShop, [.arr [4, 4, 4, 4, 4, 4, 4, 4, 4, 4, 4, 4, 4, 0, 4, 0, 4, 4, 4, 4, 4, 0] s.1 d]]))
    (fun s => rows.length - s.2) (fun s => s.2 <= rows.length /\ niceL s.1 /\ s.1.length = rows.length) ?_ (rows, 0) ⟨Nat.zero_le _, h4, rfl⟩
   rintro ⟨y, i⟩ ⟨i1, i2, i3⟩ K hn hx _
   dsimp only at i1 i2 i3 hn ⊢
   refine byVB (vbMade ax pl y ds rows.length i fa rows.length cap d K) ⟨fun g => ?_, fun g => hx _ _ (hq y ⟨i2, i3⟩)⟩
   have g := odt g
   have keep : ∀ x : Int, x = (i : Int) + 1 -> K .normal ([.ce (.sl false [4] ax), .ce (.sl false [4] pl), .ce (I6 ds), .ce (.bool fa), .ce (.ptr 1000010 0), .ce (.msl 1000015 rows.length cap), .ce (I6 (rows.length : Int)), .ce (I6 x)], [zShop, [.arr [4, 4, 4, 4, 4, 4, 4, 4, 4, 4, 4, 4, 4, 0, 4, 0, 4, 4, 4, 4, 4, 0] y d]]) := fun x ex => by
    have := hn (y, i + 1) ⟨by dsimp only; omega, i2, i3⟩ (by dsimp only; omega)
    rw [show ((i + 1 : Nat) : Int) = x by omega] at this
    exact this
   refine ⟨fun _ => ⟨by omega, by show i < y.length; omega, fun x1 e1 => ⟨fun _ => ⟨by omega, by show i < y.length; omega, by omega, fun x2 e2 => ?_⟩, fun _ => ⟨by omega, fun x3 e3 => keep x3 e3⟩⟩⟩, fun _ => ⟨by omega, fun x3 e3 => keep x3 e3⟩⟩
   rw [show (i : Int).toNat = i from rfl]
   have key : ∀ r : List Int, r.getD 0 0 = ec y i 0 -> r.getD 2 0 = ec y i 2 -> r.getD 3 0 = ec y i 3 -> r.getD 4 0 = ec y i 4 -> r.getD 5 0 = ec y i 5 -> r.getD 6 0 = ec y i 6 -> r.getD 7 0 = ec y i 7 -> r.getD 9 0 = ec y i 9 -> r.getD 10 0 = ec y i 10 -> r.getD 11 0 = ec y i 11 -> r.getD 12 0 = ec y i 12 -> r.getD 18 0 = ec y i 18 -> r.getD 14 0 = 2000000 -> K .normal ([.ce (.sl false [4] ax), .ce (.sl false [4] pl), .ce (I6 ds), .ce (.bool fa), .ce (.ptr 1000010 0), .ce (.msl 1000015 rows.length cap), .ce (I6 (rows.length : Int)), .ce (I6 x2)], [zShop, [.arr [4, 4, 4, 4, 4, 4, 4, 4, 4, 4, 4, 4, 4, 0, 4, 0, 4, 4, 4, 4, 4, 0] (y.set i r) d]]) := by
    intro r h0 h2 h3 h4 h5 h6 h7 h9 h10 h11 h12 h18 h14
    have := hn (y.set i r, i + 1) ⟨by dsimp only; omega, ?_, by simp; exact i3⟩ (by dsimp only; omega)
    . rw [show ((i + 1 : Nat) : Int) = x2 by omega] at this
      exact this
    . intro j hj
      rw [List.length_set] at hj
      by_cases e : j = i
      . subst e
        obtain ⟨n1, n2, n3, n4, n5, n6, n7⟩ := i2 j hj
        unfold niceAt
        rw [ec_set_eq hj, ec_set_eq hj, ec_set_eq hj, ec_set_eq hj, ec_set_eq hj, ec_set_eq hj, ec_set_eq hj, ec_set_eq hj, ec_set_eq hj, ec_set_eq hj, ec_set_eq hj, ec_set_eq hj, ec_set_eq hj, h0, h2, h3, h4, h5, h6, h7, h9, h10, h11, h12, h18, h14]
        exact ⟨n1, n2, n3, n4, n5, (by decide : (0 : Int) <= 2000000 /\ (2000000 : Int) <= 60000000), n7⟩
      . have := i2 j hj
        unfold niceAt at this ⊢
        rw [ec_set_ne e, ec_set_ne e, ec_set_ne e, ec_set_ne e, ec_set_ne e, ec_set_ne e, ec_set_ne e, ec_set_ne e, ec_set_ne e, ec_set_ne e, ec_set_ne e, ec_set_ne e, ec_set_ne e]
        exact this
   exact key _ rfl rfl rfl rfl rfl rfl rfl rfl rfl rfl rfl rfl rfl
 . rename_i ks rows
   cases hks : ksEq ks [4, 4, 4, 4, 4, 4, 4, 4, 4, 4, 4, 4, 4, 0, 4, 0, 4, 4, 4, 4, 4, 0]
   . rw [hks] at h; exact h.elim
   rw [hks] at h
   obtain rfl := ksEq_eq hks
   obtain ⟨⟨h1, h2, h3, h6⟩, hq⟩ := h
   obtain rfl := List.eq_nil_of_length_eq_zero h1
   subst h2 h3 h6
   refine hloop_rec (σ := Unit) (fun _ => ([.ce (.sl false [4] ax), .ce (.sl false [4] pl), .ce (I6 ds), .ce (.bool fa), .ce (.ptr 1000010 0), .ce (.sl false [4, 4, 4, 4, 4, 4, 4, 4, 4, 4, 4, 4, 4, 0, 4, 0, 4, 4, 4, 4, 4, 0] []), .ce (I6 0), .ce (I6 0)], [zShop, []])) (fun _ => 0) (fun _ => True) ?_ () trivial
   intro _ _ K _ hx _
   exact byVB (vbMadeS ax pl ds fa K) ⟨fun g => (by cases g), fun _ => hx _ _ hq⟩
theorem sMade : Sound Tryz.prog 12 SMade := by
 refine sound_of (C := CMade) tabMade Tryz.func12 (by kernel_rfl) (by decide +kernel) (by kernel_rfl) rfl ⟨sMotz, sBuild, sAxes, sPla, sPLen, sDirs, sLeg, trivial⟩ (loops1 (by kernel_rfl) (loopOK_of (an := anMade) (S := LMade) (by kernel_rfl) loopMade)) ?_
 intro hA pA R h
 unfold SMade at h
 split at h
 case h_2 => exfalso; exact h
 rename_i l ax pl ds fa
 obtain ⟨⟨hl, ha, hp⟩, _, hR⟩ := h
 have nn : niceL [] := fun j hj => by simp at hj
 match l, hl with
 | [], _ => exact byVC (vcMade0 ax pl ds fa R) ⟨by decide, fun x1 e1 => ⟨⟨by rw [e1]; rfl, by rw [e1]; rfl, rfl, rfl⟩, ⟨nn, by decide⟩, made_tail ha hp fun x y p z w hw => hR _ hw⟩⟩
 | [e1], _ => exact byVC (vcMade1 e1 ax pl ds fa R) ⟨by decide, fun x1 e1 => ⟨⟨by rw [e1]; rfl, by rw [e1]; rfl, rfl, rfl⟩, ⟨nn, by decide⟩, made_tail ha hp fun x y p z w hw => hR _ hw⟩⟩
 | [e1, e2], _ => exact byVC (vcMade2 e1 e2 ax pl ds fa R) ⟨by decide, fun x1 e1 => ⟨⟨by rw [e1]; rfl, by rw [e1]; rfl, rfl, rfl⟩, ⟨nn, by decide⟩, made_tail ha hp fun x y p z w hw => hR _ hw⟩⟩
 | [e1, e2, e3], _ => exact byVC (vcMade3 e1 e2 e3 ax pl ds fa R) ⟨by decide, fun x1 e1 => ⟨⟨by rw [e1]; rfl, by rw [e1]; rfl, rfl, rfl⟩, ⟨nn, by decide⟩, made_tail ha hp fun x y p z w hw => hR _ hw⟩⟩
 | e1 :: e2 :: e3 :: e4 :: l, hl => exact byVC (vcMade4 e1 e2 e3 e4 l ax pl ds fa R) ⟨⟨by decide, by decide, hl⟩, nice_ex, fun x hx => ⟨⟨rfl, rfl, rfl, hx.1, hx.2.1.2, rfl⟩, fun y hy => ⟨hy.2.symm, ⟨hy.1, by rw [hy.2]; exact hx.2.1.2⟩, made_tail ha hp fun x y p z w hw => hR _ hw⟩⟩⟩
end Go.Proofs.YtoekmphdpepdbaaGreat
namespace U
open Go
def RunS.M0 (x : RunS) : Int -> Int := mtr x.a.st x.a.og x.a.sg x.a.pit x.a.bl x.s0 x.sg 0 x.pk x.f x.d0
def RunS.M1 (x : RunS) : Int -> Int := mtr x.b.st x.b.og x.b.sg x.b.pit x.b.bl x.s1 x.sg 1 x.pk x.f x.d1
def RunS.M2 (x : RunS) : Int -> Int := mtr x.c.st x.c.og x.c.sg x.c.pit x.c.bl x.s2 x.sg 2 x.pk x.f x.d2
def tshf (pk : LL) (d bl u : Int) (c : Nat) : Int :=
 if tfind pk u < 0 then bsh bl d else tsh bl (ec pk (tfind pk u).toNat 3) (ec pk (tfind pk u).toNat (4 + c)) (ec pk (tfind pk u).toNat (7 + c)) (ec pk (tfind pk u).toNat 0) u
theorem mtr_shf (st og sg : Int) (pt : LL) (bl s : Int) (sgs : LL) (c : Nat) (pk : LL) (sa d u : Int) :
 mtr st og sg pt bl s sgs c pk sa d u = mot st og sg pt (ptAt s sgs c (tplace pk sa u)) + tshf pk d bl u c := rfl
def unitOK (s : Int) (sgs : LL) (c : Nat) (bl d f m : Int) (pk : LL) (u : Int) : Prop :=
 (tplace pk f u = tplace pk f (u - 1) /\ (-1 <= tshf pk d bl u c - tshf pk d bl (u - 1) c /\ tshf pk d bl u c - tshf pk d bl (u - 1) c <= 1) /\ (-bl <= tshf pk d bl u c /\ tshf pk d bl u c <= 0)) ∨
 (tplace pk f u = tplace pk f (u - 1) + m /\ (0 <= tplace pk f u /\ tplace pk f u <= plen sgs) /\ (0 <= tplace pk f (u - 1) /\ tplace pk f (u - 1) <= plen sgs) /\
  ∃ e, pm e /\ tshf pk d bl u c = bsh bl e /\ tshf pk d bl (u - 1) c = bsh bl e /\ 0 <= e * (ptAt s sgs c (tplace pk f u) - ptAt s sgs c (tplace pk f (u - 1))))
def legOK (s0 s1 s2 : Int) (sgs : LL) (b0 b1 b2 d0 d1 d2 f m : Int) (pk : LL) (ln p a0 a1 a2 : Int) : Prop :=
 okT pk ln /\ 0 <= ln /\ tplace pk f ln = p /\ tplace pk f 0 = f /\ (pm a0 /\ pm a1 /\ pm a2) /\
 (tshf pk d0 b0 ln 0 = bsh b0 a0 /\ tshf pk d1 b1 ln 1 = bsh b1 a1 /\ tshf pk d2 b2 ln 2 = bsh b2 a2) /\
 (tshf pk d0 b0 0 0 = bsh b0 d0 /\ tshf pk d1 b1 0 1 = bsh b1 d1 /\ tshf pk d2 b2 0 2 = bsh b2 d2) /\
 ∀ u, 1 <= u /\ u <= ln -> unitOK s0 sgs 0 b0 d0 f m pk u /\ unitOK s1 sgs 1 b1 d1 f m pk u /\ unitOK s2 sgs 2 b2 d2 f m pk u
end U
namespace Go.Proofs.YtoekmphdpepdbaaGreat
open Go Go.HL U
theorem okT_end {pk : LL} {ln : Int} (h : okT pk ln) (hl : 0 <= ln) : (∀ j, j < pk.length -> 0 <= ec pk j 0 /\ endp pk j <= ln) /\ ∀ i j, i <= j -> j < pk.length -> endp pk i <= endp pk j := by
 obtain ⟨_, h2, h3, h4⟩ := h
 have mono : ∀ i n, i + n < pk.length -> endp pk i <= endp pk (i + n) := by
  intro i n
  induction n with
  | zero => intro _; exact Int.le_refl _
  | succ n ih =>
   intro hj
   have := ih (by omega)
   have e := h3 (i + n) (by omega)
   have u := (h4 (i + n + 1) (by omega)).1
   show endp pk i <= endp pk (i + n + 1)
   unfold endp at this e ⊢
   omega
 have mono2 : ∀ i j, i <= j -> j < pk.length -> endp pk i <= endp pk j := fun i j hij hj => by
  have := mono i (j - i) (by omega)
  rw [show i + (j - i) = j by omega] at this
  exact this
 refine ⟨fun j hj => ⟨?_, ?_⟩, mono2⟩
 . cases j with
   | zero => rw [(h2 (by omega)).1]; exact Int.le_refl _
   | succ i =>
    rw [h3 i hj]
    have := mono2 0 i (Nat.zero_le _) (by omega)
    have e0 := (h2 (by omega)).1
    have u0 := (h4 0 (by omega)).1
    unfold endp at this ⊢
    omega
 . have := mono2 j (pk.length - 1) (by omega) (by omega)
   rw [(h2 (by omega)).2] at this
   exact this
theorem okT_find {pk : LL} {ln u : Int} (h : okT pk ln) (hl : 0 <= ln) (hp : 0 < pk.length) (hu : 0 <= u /\ u <= ln) :
 ∃ j, j < pk.length /\ tfind pk u = (j : Int) /\ u <= endp pk j /\ (∀ k, k < j -> endp pk k < u) /\ ec pk j 0 <= u := by
 rcases tpcA_spec u pk 0 with ⟨_, hh⟩ | ⟨j, h1, h2, h3, h4⟩
 . have := hh (pk.length - 1) (by omega)
   have := (h.2.1 hp).2
   omega
 . refine ⟨j, h1, by unfold tfind; omega, h3, h4, ?_⟩
   cases j with
   | zero => rw [(h.2.1 hp).1]; exact hu.1
   | succ i => have := h4 i (by omega); rw [h.2.2.1 i h1]; omega
theorem find_app {pk : LL} {ln u : Int} {r : List Int} (h : okT pk ln) (hl : 0 <= ln) (hp : 0 < pk.length) (hu : 0 <= u /\ u <= ln) : tfind (pk ++ [r]) u = tfind pk u /\ ∀ c, ec (pk ++ [r]) (tfind pk u).toNat c = ec pk (tfind pk u).toNat c := by
 obtain ⟨j, h1, h2, h3, h4, _⟩ := okT_find h hl hp hu
 have e : ∀ k c, k < pk.length -> ec (pk ++ [r]) k c = ec pk k c := fun k c hk => by rw [ec_app, if_pos hk]
 have ee : ∀ k, k < pk.length -> endp (pk ++ [r]) k = endp pk k := fun k hk => by unfold endp; rw [e k 0 hk, e k 1 hk]
 refine ⟨?_, fun c => by rw [h2]; exact e j c h1⟩
 rw [h2]
 exact tfind_of (by rw [List.length_append]; omega) (by rw [ee j h1]; exact h3) (fun k hk => by rw [ee k (by omega)]; exact h4 k hk)
theorem find_new {pk : LL} {ln u U : Int} {r : List Int} (h : okT pk ln) (hl : 0 <= ln) (hr : r.getD 0 0 = ln) (hr1 : r.getD 1 0 = U) (hu : ln < u /\ u <= ln + U) : tfind (pk ++ [r]) u = (pk.length : Int) /\ ∀ c, ec (pk ++ [r]) pk.length c = r.getD c 0 := by
 have e : ∀ k c, k < pk.length -> ec (pk ++ [r]) k c = ec pk k c := fun k c hk => by rw [ec_app, if_pos hk]
 have el : ∀ c, ec (pk ++ [r]) pk.length c = r.getD c 0 := fun c => by rw [ec_app, if_neg (by omega), Nat.sub_self]; rfl
 have ee : ∀ k, k < pk.length -> endp (pk ++ [r]) k = endp pk k := fun k hk => by unfold endp; rw [e k 0 hk, e k 1 hk]
 refine ⟨tfind_of (by simp) (by unfold endp; rw [el, el, hr, hr1]; omega) (fun k hk => ?_), el⟩
 rw [ee k hk]
 have := ((okT_end h hl).1 k hk).2
 omega
theorem find_new0 {U : Int} {r : List Int} (hr : r.getD 0 0 = 0) (hr1 : r.getD 1 0 = U) (hU : 0 <= U) : tfind ([] ++ [r]) 0 = 0 /\ ∀ c, ec ([] ++ [r]) 0 c = r.getD c 0 := by
 refine ⟨?_, fun c => rfl⟩
 have := tfind_of (pk := [r]) (u := 0) (j := 0) (by simp) (by show 0 <= r.getD 0 0 + r.getD 1 0; omega) (fun k hk => by omega)
 exact this
theorem find_set {pk : LL} {ln u U : Int} (h : okT pk ln) (hl : 0 <= ln) (hp : 0 < pk.length) (hU : 0 <= U) (hu : 0 <= u /\ u <= ln) :
 tfind (pk.set (pk.length - 1) (more (pk.getD (pk.length - 1) []) U)) u = tfind pk u /\ ∀ c, c ≠ 1 -> c < 10 -> ec (pk.set (pk.length - 1) (more (pk.getD (pk.length - 1) []) U)) (tfind pk u).toNat c = ec pk (tfind pk u).toNat c := by
 obtain ⟨j, h1, h2, h3, h4, _⟩ := okT_find h hl hp hu
 have es : ∀ j c, ec (pk.set (pk.length - 1) (more (pk.getD (pk.length - 1) []) U)) j c = if pk.length - 1 = j then (more (pk.getD (pk.length - 1) []) U).getD c 0 else ec pk j c := fun j c => ec_set _ _ _ _ _ (by omega)
 have m : ∀ c, c ≠ 1 -> c < 10 -> (more (pk.getD (pk.length - 1) []) U).getD c 0 = ec pk (pk.length - 1) c := fun c hc hc2 => by
  have hc : c = 0 ∨ c = 2 ∨ c = 3 ∨ c = 4 ∨ c = 5 ∨ c = 6 ∨ c = 7 ∨ c = 8 ∨ c = 9 := by omega
  rcases hc with rfl | rfl | rfl | rfl | rfl | rfl | rfl | rfl | rfl <;> rfl
 have m1 : (more (pk.getD (pk.length - 1) []) U).getD 1 0 = ec pk (pk.length - 1) 1 + U := rfl
 have eq : ∀ k c, c ≠ 1 -> c < 10 -> ec (pk.set (pk.length - 1) (more (pk.getD (pk.length - 1) []) U)) k c = ec pk k c := fun k c hc hc2 => by
  rw [es]
  split
  . rename_i e; rw [m c hc hc2, e]
  . rfl
 have ee : ∀ k, k ≠ pk.length - 1 -> endp (pk.set (pk.length - 1) (more (pk.getD (pk.length - 1) []) U)) k = endp pk k := fun k hk => by
  unfold endp; rw [es, es, if_neg (fun e => hk e.symm), if_neg (fun e => hk e.symm)]
 have el : endp (pk.set (pk.length - 1) (more (pk.getD (pk.length - 1) []) U)) (pk.length - 1) = endp pk (pk.length - 1) + U := by
  unfold endp; rw [es, es, if_pos rfl, if_pos rfl, m 0 (by decide) (by decide), m1]; omega
 refine ⟨?_, fun c hc hc2 => by rw [h2]; exact eq j c hc hc2⟩
 rw [h2]
 refine tfind_of (by rw [List.length_set]; exact h1) ?_ (fun k hk => by rw [ee k (by omega)]; exact h4 k hk)
 by_cases hj : j = pk.length - 1
 . subst hj; rw [el]; omega
 . rw [ee j hj]; exact h3
theorem find_setn {pk : LL} {ln u U : Int} (h : okT pk ln) (hl : 0 <= ln) (hp : 0 < pk.length) (hu : ln < u /\ u <= ln + U) :
 tfind (pk.set (pk.length - 1) (more (pk.getD (pk.length - 1) []) U)) u = ((pk.length - 1 : Nat) : Int) /\ ∀ c, c ≠ 1 -> c < 10 -> ec (pk.set (pk.length - 1) (more (pk.getD (pk.length - 1) []) U)) (pk.length - 1) c = ec pk (pk.length - 1) c := by
 have es : ∀ j c, ec (pk.set (pk.length - 1) (more (pk.getD (pk.length - 1) []) U)) j c = if pk.length - 1 = j then (more (pk.getD (pk.length - 1) []) U).getD c 0 else ec pk j c := fun j c => ec_set _ _ _ _ _ (by omega)
 have m : ∀ c, c ≠ 1 -> c < 10 -> (more (pk.getD (pk.length - 1) []) U).getD c 0 = ec pk (pk.length - 1) c := fun c hc hc2 => by
  have hc : c = 0 ∨ c = 2 ∨ c = 3 ∨ c = 4 ∨ c = 5 ∨ c = 6 ∨ c = 7 ∨ c = 8 ∨ c = 9 := by omega
  rcases hc with rfl | rfl | rfl | rfl | rfl | rfl | rfl | rfl | rfl <;> rfl
 have m1 : (more (pk.getD (pk.length - 1) []) U).getD 1 0 = ec pk (pk.length - 1) 1 + U := rfl
 refine ⟨tfind_of (by rw [List.length_set]; omega) ?_ (fun k hk => ?_), fun c hc hc2 => by rw [es, if_pos rfl, m c hc hc2]⟩
 . have := (h.2.1 hp).2
   unfold endp at this ⊢
   rw [es, es, if_pos rfl, if_pos rfl, m 0 (by decide) (by decide), m1]
   omega
 . unfold endp
   rw [es, es, if_neg (by omega), if_neg (by omega)]
   have := ((okT_end h hl).1 k (by omega)).2
   unfold endp at this
   omega
theorem find_last {pk : LL} {ln : Int} (h : okT pk ln) (hl : 0 <= ln) (hp : 0 < pk.length) : tfind pk ln = ((pk.length - 1 : Nat) : Int) := by
 have he := (h.2.1 hp).2
 refine tfind_of (by omega) (by omega) (fun k hk => ?_)
 have e := h.2.2.1 (pk.length - 2) (by omega)
 rw [show pk.length - 2 + 1 = pk.length - 1 by omega] at e
 have := (okT_end h hl).2 k (pk.length - 2) (by omega) (by omega)
 have u := (h.2.2.2 (pk.length - 1) (by omega)).1
 unfold endp at he e this ⊢
 omega
theorem place_eq {pk pk' : LL} {u sa : Int} (h : tfind pk' u = tfind pk u) (e : ∀ c, c ≠ 1 -> c < 10 -> ec pk' (tfind pk u).toNat c = ec pk (tfind pk u).toNat c) : tplace pk' sa u = tplace pk sa u := by
 unfold tplace; rw [h, e 2 (by decide) (by decide), e 3 (by decide) (by decide), e 0 (by decide) (by decide)]
theorem shf_eq {pk pk' : LL} {u d bl : Int} {c : Nat} (hc : c < 3) (h : tfind pk' u = tfind pk u) (e : ∀ c, c ≠ 1 -> c < 10 -> ec pk' (tfind pk u).toNat c = ec pk (tfind pk u).toNat c) : tshf pk' d bl u c = tshf pk d bl u c := by
 unfold tshf; rw [h, e 3 (by decide) (by decide), e (4 + c) (by omega) (by omega), e (7 + c) (by omega) (by omega), e 0 (by decide) (by decide)]
theorem place_at {pk : LL} {u sa : Int} {j : Nat} (h : tfind pk u = (j : Int)) : tplace pk sa u = ec pk j 2 + ec pk j 3 * (u - ec pk j 0) := by
 unfold tplace; rw [h, if_neg (by omega)]; rfl
theorem shf_at {pk : LL} {u d bl : Int} {j c : Nat} (h : tfind pk u = (j : Int)) : tshf pk d bl u c = tsh bl (ec pk j 3) (ec pk j (4 + c)) (ec pk j (7 + c)) (ec pk j 0) u := by
 unfold tshf; rw [h, if_neg (by omega)]; rfl
theorem unit_eq {s : Int} {sgs : LL} {c : Nat} {bl d f m : Int} {pk pk' : LL} {u : Int} (h1 : tplace pk' f u = tplace pk f u) (h2 : tplace pk' f (u - 1) = tplace pk f (u - 1))
 (h3 : tshf pk' d bl u c = tshf pk d bl u c) (h4 : tshf pk' d bl (u - 1) c = tshf pk d bl (u - 1) c) (h : unitOK s sgs c bl d f m pk u) : unitOK s sgs c bl d f m pk' u := by
 unfold unitOK at h ⊢
 rw [h1, h2, h3, h4]; exact h
theorem tsh_move {bl mv w n a u : Int} (h : mv ≠ 0) : tsh bl mv w n a u = bsh bl n := by unfold tsh; rw [if_pos (.inl h)]
theorem tsh_zero {bl a n at_ : Int} (ha : pm a) (hn : pm n) (hb : 0 <= bl) : tsh bl 0 a n at_ at_ = bsh bl a := by
 unfold tsh
 by_cases e : a = n
 . rw [if_pos (.inr e), e]
 . rw [if_neg (by simp [e])]
   unfold pm at ha hn
   unfold bsh
   by_cases e2 : n = -1
   . rw [if_pos e2, if_neg (by omega)]; omega
   . rw [if_neg e2, if_pos (by omega)]; omega
theorem tsh_step1 {bl a n at_ v : Int} (hb : 0 <= bl) (hv : 1 <= v) : (-1 <= tsh bl 0 a n at_ (at_ + v) - tsh bl 0 a n at_ (at_ + (v - 1)) /\ tsh bl 0 a n at_ (at_ + v) - tsh bl 0 a n at_ (at_ + (v - 1)) <= 1) /\ (-bl <= tsh bl 0 a n at_ (at_ + v) /\ tsh bl 0 a n at_ (at_ + v) <= 0) := by
 have hb' : -bl <= bsh bl n /\ bsh bl n <= 0 := by unfold bsh; split <;> omega
 unfold tsh
 by_cases e : a = n
 . rw [if_pos (Or.inr e : (0 : Int) ≠ 0 ∨ a = n), if_pos (Or.inr e : (0 : Int) ≠ 0 ∨ a = n)]
   omega
 . have e' : ¬ ((0 : Int) ≠ 0 ∨ a = n) := by simp [e]
   rw [if_neg e', if_neg e']
   by_cases e2 : n = -1
   . rw [if_pos e2, if_pos e2]; omega
   . rw [if_neg e2, if_neg e2]; omega
theorem tsh_end {bl a n at_ U : Int} (hn : pm n) (hU : a ≠ n -> bl <= U) : tsh bl 0 a n at_ (at_ + U) = bsh bl n := by
 unfold tsh
 by_cases e : a = n
 . rw [if_pos (.inr e)]
 . have := hU e
   rw [if_neg (by simp [e])]
   unfold pm at hn
   unfold bsh
   by_cases e2 : n = -1
   . rw [if_pos e2, if_pos e2]; omega
   . rw [if_neg e2, if_neg e2]; omega
def stepD (s : Int) (sgs : LL) (c : Nat) (bl m p mv : Int) (g : Int -> Int) (v : Int) : Prop :=
 (mv = 0 /\ (-1 <= g v - g (v - 1) /\ g v - g (v - 1) <= 1) /\ (-bl <= g v /\ g v <= 0)) ∨
 (mv = m /\ (0 <= p + mv * v /\ p + mv * v <= plen sgs) /\ (0 <= p + mv * (v - 1) /\ p + mv * (v - 1) <= plen sgs) /\ ∃ e, pm e /\ g v = bsh bl e /\ g (v - 1) = bsh bl e /\ 0 <= e * (ptAt s sgs c (p + mv * v) - ptAt s sgs c (p + mv * (v - 1))))
theorem unit_ext {s : Int} {sgs : LL} {c : Nat} {bl d f m ln U p mv : Int} {pk pk' : LL} {g : Int -> Int}
 (oldP : ∀ u, 0 <= u /\ u <= ln -> tplace pk' f u = tplace pk f u) (oldS : ∀ u, 0 <= u /\ u <= ln -> tshf pk' d bl u c = tshf pk d bl u c)
 (newP : ∀ v, 0 <= v /\ v <= U -> tplace pk' f (ln + v) = p + mv * v) (newS : ∀ v, 0 <= v /\ v <= U -> tshf pk' d bl (ln + v) c = g v)
 (hs : ∀ v, 1 <= v /\ v <= U -> stepD s sgs c bl m p mv g v) (h : ∀ u, 1 <= u /\ u <= ln -> unitOK s sgs c bl d f m pk u) : ∀ u, 1 <= u /\ u <= ln + U -> unitOK s sgs c bl d f m pk' u := by
 intro u hu
 by_cases h1 : u <= ln
 . exact unit_eq (oldP u (by omega)) (oldP (u - 1) (by omega)) (oldS u (by omega)) (oldS (u - 1) (by omega)) (h u (by omega))
 . have a := newP (u - ln) (by omega)
   have b := newP (u - ln - 1) (by omega)
   have a2 := newS (u - ln) (by omega)
   have b2 := newS (u - ln - 1) (by omega)
   rw [show ln + (u - ln) = u by omega] at a a2
   rw [show ln + (u - ln - 1) = u - 1 by omega] at b b2
   have e := hs (u - ln) (by omega)
   unfold unitOK
   rw [a, b, a2, b2]
   rcases e with ⟨e0, e1, e2⟩ | ⟨e0, e1, e2, e3⟩
   . left
     refine ⟨by rw [e0]; simp, e1, e2⟩
   . right
     refine ⟨?_, e1, e2, e3⟩
     rw [<- e0, Int.mul_sub mv (u - ln) 1]
     omega
theorem legOK_ext {s0 s1 s2 : Int} {sgs : LL} {b0 b1 b2 d0 d1 d2 f m ln U p mv a0 a1 a2 n0 n1 n2 : Int} {pk pk' : LL} {g0 g1 g2 : Int -> Int}
 (h : legOK s0 s1 s2 sgs b0 b1 b2 d0 d1 d2 f m pk ln p a0 a1 a2) (hT : okT pk' (ln + U)) (hU : 1 <= U) (hn : pm n0 /\ pm n1 /\ pm n2)
 (oldP : ∀ u, 0 <= u /\ u <= ln -> tplace pk' f u = tplace pk f u)
 (oldS : ∀ u, 0 <= u /\ u <= ln -> tshf pk' d0 b0 u 0 = tshf pk d0 b0 u 0 /\ tshf pk' d1 b1 u 1 = tshf pk d1 b1 u 1 /\ tshf pk' d2 b2 u 2 = tshf pk d2 b2 u 2)
 (newP : ∀ v, 0 <= v /\ v <= U -> tplace pk' f (ln + v) = p + mv * v)
 (newS : ∀ v, 0 <= v /\ v <= U -> tshf pk' d0 b0 (ln + v) 0 = g0 v /\ tshf pk' d1 b1 (ln + v) 1 = g1 v /\ tshf pk' d2 b2 (ln + v) 2 = g2 v)
 (hs : ∀ v, 1 <= v /\ v <= U -> stepD s0 sgs 0 b0 m p mv g0 v /\ stepD s1 sgs 1 b1 m p mv g1 v /\ stepD s2 sgs 2 b2 m p mv g2 v)
 (he : g0 U = bsh b0 n0 /\ g1 U = bsh b1 n1 /\ g2 U = bsh b2 n2) :
 legOK s0 s1 s2 sgs b0 b1 b2 d0 d1 d2 f m pk' (ln + U) (p + mv * U) n0 n1 n2 := by
 obtain ⟨h1, h2, h3, h4, h5, h6, h7, h8⟩ := h
 have nU := newS U (by omega)
 have o0 := oldS 0 (by omega)
 refine ⟨hT, by omega, newP U (by omega), by rw [oldP 0 (by omega)]; exact h4, hn, ⟨by rw [nU.1]; exact he.1, by rw [nU.2.1]; exact he.2.1, by rw [nU.2.2]; exact he.2.2⟩, ⟨by rw [o0.1]; exact h7.1, by rw [o0.2.1]; exact h7.2.1, by rw [o0.2.2]; exact h7.2.2⟩, fun u hu => ⟨?_, ?_, ?_⟩⟩
 . exact unit_ext oldP (fun u hu => (oldS u hu).1) newP (fun v hv => (newS v hv).1) (fun v hv => (hs v hv).1) (fun u hu => (h8 u hu).1) u hu
 . exact unit_ext oldP (fun u hu => (oldS u hu).2.1) newP (fun v hv => (newS v hv).2.1) (fun v hv => (hs v hv).2.1) (fun u hu => (h8 u hu).2.1) u hu
 . exact unit_ext oldP (fun u hu => (oldS u hu).2.2) newP (fun v hv => (newS v hv).2.2) (fun v hv => (hs v hv).2.2) (fun u hu => (h8 u hu).2.2) u hu
theorem app_ok {s0 s1 s2 : Int} {sgs : LL} {b0 b1 b2 d0 d1 d2 f m ln U p mv a0 a1 a2 w0 w1 w2 n0 n1 n2 : Int} {pk : LL}
 (h : legOK s0 s1 s2 sgs b0 b1 b2 d0 d1 d2 f m pk ln p a0 a1 a2) (hT : okT (pk ++ [[ln, U, p, mv, w0, w1, w2, n0, n1, n2]]) (ln + U)) (hU : 1 <= U) (hn : pm n0 /\ pm n1 /\ pm n2)
 (hz : tsh b0 mv w0 n0 ln ln = bsh b0 a0 /\ tsh b1 mv w1 n1 ln ln = bsh b1 a1 /\ tsh b2 mv w2 n2 ln ln = bsh b2 a2)
 (hs : ∀ v, 1 <= v /\ v <= U -> stepD s0 sgs 0 b0 m p mv (fun v => tsh b0 mv w0 n0 ln (ln + v)) v /\ stepD s1 sgs 1 b1 m p mv (fun v => tsh b1 mv w1 n1 ln (ln + v)) v /\ stepD s2 sgs 2 b2 m p mv (fun v => tsh b2 mv w2 n2 ln (ln + v)) v)
 (he : tsh b0 mv w0 n0 ln (ln + U) = bsh b0 n0 /\ tsh b1 mv w1 n1 ln (ln + U) = bsh b1 n1 /\ tsh b2 mv w2 n2 ln (ln + U) = bsh b2 n2) :
 legOK s0 s1 s2 sgs b0 b1 b2 d0 d1 d2 f m (pk ++ [[ln, U, p, mv, w0, w1, w2, n0, n1, n2]]) (ln + U) (p + mv * U) n0 n1 n2 := by
 have h' := h
 obtain ⟨h1, h2, h3, h4, h5, h6, h7, h8⟩ := h
 by_cases hp : 0 < pk.length
 . refine legOK_ext (mv := mv) h' hT hU hn (fun u hu => ?_) (fun u hu => ?_) (fun v hv => ?_) (fun v hv => ?_) hs he
   . obtain ⟨f1, f2⟩ := find_app (r := [ln, U, p, mv, w0, w1, w2, n0, n1, n2]) h1 h2 hp hu
     exact place_eq f1 fun c _ _ => f2 c
   . obtain ⟨f1, f2⟩ := find_app (r := [ln, U, p, mv, w0, w1, w2, n0, n1, n2]) h1 h2 hp hu
     exact ⟨shf_eq (by decide) f1 fun c _ _ => f2 c, shf_eq (by decide) f1 fun c _ _ => f2 c, shf_eq (by decide) f1 fun c _ _ => f2 c⟩
   . by_cases hv0 : v = 0
     . subst hv0
       obtain ⟨f1, f2⟩ := find_app (u := ln) (r := [ln, U, p, mv, w0, w1, w2, n0, n1, n2]) h1 h2 hp ⟨h2, Int.le_refl _⟩
       rw [Int.add_zero, place_eq f1 fun c _ _ => f2 c, h3]; simp
     . obtain ⟨f1, f2⟩ := find_new (u := ln + v) (U := U) (r := [ln, U, p, mv, w0, w1, w2, n0, n1, n2]) h1 h2 rfl rfl (by omega)
       rw [place_at f1, f2, f2, f2]
       show p + mv * (ln + v - ln) = p + mv * v
       rw [show ln + v - ln = v by omega]
   . by_cases hv0 : v = 0
     . subst hv0
       obtain ⟨f1, f2⟩ := find_app (u := ln) (r := [ln, U, p, mv, w0, w1, w2, n0, n1, n2]) h1 h2 hp ⟨h2, Int.le_refl _⟩
       rw [Int.add_zero, shf_eq (by decide) f1 fun c _ _ => f2 c, shf_eq (by decide) f1 fun c _ _ => f2 c, shf_eq (by decide) f1 fun c _ _ => f2 c, h6.1, h6.2.1, h6.2.2, hz.1, hz.2.1, hz.2.2]
       exact ⟨rfl, rfl, rfl⟩
     . obtain ⟨f1, f2⟩ := find_new (u := ln + v) (U := U) (r := [ln, U, p, mv, w0, w1, w2, n0, n1, n2]) h1 h2 rfl rfl (by omega)
       rw [shf_at f1, shf_at f1, shf_at f1]
       simp only [f2]
       exact ⟨rfl, rfl, rfl⟩
 . have e0 : pk = [] := List.eq_nil_of_length_eq_zero (by omega)
   have l0 : ln = 0 := h1.1 (by omega)
   subst e0 l0
   have pf : p = f := h3.symm
   obtain ⟨f1, f2⟩ := find_new0 (U := U) (r := [0, U, p, mv, w0, w1, w2, n0, n1, n2]) rfl rfl (by omega)
   have u0 : ∀ u : Int, 0 <= u /\ u <= 0 -> u = 0 := fun u hu => by omega
   have P0 : tplace ([] ++ [[0, U, p, mv, w0, w1, w2, n0, n1, n2]]) f 0 = p := by
    rw [place_at (j := 0) f1, f2, f2, f2]
    show p + mv * (0 - 0) = p
    simp
   refine legOK_ext (mv := mv) h' hT hU hn (fun u hu => ?_) (fun u hu => ?_) (fun v hv => ?_) (fun v hv => ?_) hs he
   . rw [u0 u hu, P0]; exact h3.symm
   . rw [u0 u hu, shf_at (j := 0) f1, shf_at (j := 0) f1, shf_at (j := 0) f1, h6.1, h6.2.1, h6.2.2]
     simp only [f2]
     exact hz
   . by_cases hv0 : v = 0
     . subst hv0; rw [Int.add_zero, P0]; simp
     . obtain ⟨f1, f2⟩ := find_new (pk := []) (u := 0 + v) (U := U) (r := [0, U, p, mv, w0, w1, w2, n0, n1, n2]) h1 h2 rfl rfl (by omega)
       rw [place_at f1, f2, f2, f2]
       show p + mv * (0 + v - 0) = p + mv * v
       rw [show 0 + v - 0 = v by omega]
   . by_cases hv0 : v = 0
     . subst hv0
       rw [Int.add_zero, shf_at (j := 0) f1, shf_at (j := 0) f1, shf_at (j := 0) f1]
       simp only [f2]
       exact ⟨rfl, rfl, rfl⟩
     . obtain ⟨f1, f2⟩ := find_new (pk := []) (u := 0 + v) (U := U) (r := [0, U, p, mv, w0, w1, w2, n0, n1, n2]) h1 h2 rfl rfl (by omega)
       rw [shf_at f1, shf_at f1, shf_at f1]
       simp only [f2]
       exact ⟨rfl, rfl, rfl⟩
theorem set_ok {s0 s1 s2 : Int} {sgs : LL} {b0 b1 b2 d0 d1 d2 f m ln U p mv a0 a1 a2 n0 n1 n2 : Int} {pk : LL}
 (h : legOK s0 s1 s2 sgs b0 b1 b2 d0 d1 d2 f m pk ln p a0 a1 a2) (hp : 0 < pk.length) (hT : okT (pk.set (pk.length - 1) (more (pk.getD (pk.length - 1) []) U)) (ln + U)) (hU : 1 <= U) (hn : pm n0 /\ pm n1 /\ pm n2)
 (hm : mv ≠ 0) (r3 : ec pk (pk.length - 1) 3 = mv) (r7 : ec pk (pk.length - 1) 7 = n0) (r8 : ec pk (pk.length - 1) 8 = n1) (r9 : ec pk (pk.length - 1) 9 = n2)
 (hs : ∀ v, 1 <= v /\ v <= U -> stepD s0 sgs 0 b0 m p mv (fun _ => bsh b0 n0) v /\ stepD s1 sgs 1 b1 m p mv (fun _ => bsh b1 n1) v /\ stepD s2 sgs 2 b2 m p mv (fun _ => bsh b2 n2) v) :
 legOK s0 s1 s2 sgs b0 b1 b2 d0 d1 d2 f m (pk.set (pk.length - 1) (more (pk.getD (pk.length - 1) []) U)) (ln + U) (p + mv * U) n0 n1 n2 := by
 have h' := h
 obtain ⟨h1, h2, h3, h4, h5, h6, h7, h8⟩ := h
 have fl := find_last h1 h2 hp
 have h3' := h3
 rw [place_at fl, r3] at h3'
 have S0 : ∀ (d bl : Int) (c : Nat) (n : Int), ec pk (pk.length - 1) (7 + c) = n -> tshf pk d bl ln c = bsh bl n := fun d bl c n e => by rw [shf_at fl, tsh_move (by rw [r3]; exact hm), e]
 refine legOK_ext (mv := mv) h' hT hU hn (fun u hu => ?_) (fun u hu => ?_) (fun v hv => ?_) (fun v hv => ?_) hs ⟨rfl, rfl, rfl⟩
 . obtain ⟨f1, f2⟩ := find_set (U := U) h1 h2 hp (by omega) hu
   exact place_eq f1 f2
 . obtain ⟨f1, f2⟩ := find_set (U := U) h1 h2 hp (by omega) hu
   exact ⟨shf_eq (by decide) f1 f2, shf_eq (by decide) f1 f2, shf_eq (by decide) f1 f2⟩
 . by_cases hv0 : v = 0
   . subst hv0
     obtain ⟨f1, f2⟩ := find_set (u := ln) (U := U) h1 h2 hp (by omega) ⟨h2, Int.le_refl _⟩
     rw [Int.add_zero, place_eq f1 f2, h3]; simp
   . obtain ⟨f1, f2⟩ := find_setn (u := ln + v) (U := U) h1 h2 hp (by omega)
     rw [place_at f1, f2 2 (by decide) (by decide), f2 3 (by decide) (by decide), f2 0 (by decide) (by decide), r3, <- h3', show ln + v - ec pk (pk.length - 1) 0 = (ln - ec pk (pk.length - 1) 0) + v by omega, Int.mul_add]
     omega
 . by_cases hv0 : v = 0
   . subst hv0
     obtain ⟨f1, f2⟩ := find_set (u := ln) (U := U) h1 h2 hp (by omega) ⟨h2, Int.le_refl _⟩
     rw [Int.add_zero, shf_eq (by decide) f1 f2, shf_eq (by decide) f1 f2, shf_eq (by decide) f1 f2]
     exact ⟨S0 _ _ _ _ r7, S0 _ _ _ _ r8, S0 _ _ _ _ r9⟩
   . obtain ⟨f1, f2⟩ := find_setn (u := ln + v) (U := U) h1 h2 hp (by omega)
     have q : ∀ (d bl : Int) (c : Nat), c < 3 -> ∀ n, ec pk (pk.length - 1) (7 + c) = n -> tshf (pk.set (pk.length - 1) (more (pk.getD (pk.length - 1) []) U)) d bl (ln + v) c = bsh bl n := fun d bl c hc n e => by
      rw [shf_at f1, f2 3 (by decide) (by decide), r3, tsh_move hm, f2 (7 + c) (by omega) (by omega), e]
     exact ⟨q _ _ 0 (by decide) _ r7, q _ _ 1 (by decide) _ r8, q _ _ 2 (by decide) _ r9⟩
theorem ediv_near {x e B : Int} (hB : 0 < B) (he : 0 <= e /\ e <= B) : x / B <= (x + e) / B /\ (x + e) / B <= x / B + 1 := by
 refine ⟨Int.ediv_le_ediv hB (by omega), ?_⟩
 have h1 : (x + e) / B <= (x + 1 * B) / B := Int.ediv_le_ediv hB (by omega)
 rw [Int.add_mul_ediv_right x 1 (by omega)] at h1
 exact h1
theorem rnd_step {D L d : Int} (hL : 0 < L) (hD : -L <= D /\ D <= L) : (0 <= D -> 0 <= rnd (D * (d + 1)) L - rnd (D * d) L /\ rnd (D * (d + 1)) L - rnd (D * d) L <= 1) /\ (D <= 0 -> -1 <= rnd (D * (d + 1)) L - rnd (D * d) L /\ rnd (D * (d + 1)) L - rnd (D * d) L <= 0) := by
 unfold rnd
 rw [Int.mul_add D d 1, Int.mul_one]
 generalize D * d = y
 refine ⟨fun h => ?_, fun h => ?_⟩
 . have := ediv_near (x := 2 * y + L) (e := 2 * D) (B := 2 * L) (by omega) (by omega)
   rw [show 2 * (y + D) + L = 2 * y + L + 2 * D by omega]
   omega
 . have := ediv_near (x := 2 * (y + D) + L) (e := -(2 * D)) (B := 2 * L) (by omega) (by omega)
   rw [show 2 * (y + D) + L + -(2 * D) = 2 * y + L by omega] at this
   omega
theorem rnd_zero {L : Int} (hL : 0 < L) : rnd 0 L = 0 := by
 unfold rnd
 exact Int.ediv_eq_zero_of_lt (by omega) (by omega)
theorem rnd_full {D L : Int} (hL : 0 < L) : rnd (D * L) L = D := by
 unfold rnd
 rw [show 2 * (D * L) + L = L + D * (2 * L) by grind, Int.add_mul_ediv_right _ _ (by omega), Int.ediv_eq_zero_of_lt (by omega) (by omega)]
 omega
theorem plen_take_succ : ∀ (l : LL) (j : Nat), j < l.length -> plen (l.take (j + 1)) = plen (l.take j) + ec l j 3
 | [], j, h => by simp at h
 | r :: l, 0, _ => by
  show r.getD 3 0 + 0 = 0 + r.getD 3 0
  omega
 | r :: l, j + 1, h => by
  have := plen_take_succ l j (by simpa using h)
  show r.getD 3 0 + plen (l.take (j + 1)) = r.getD 3 0 + plen (l.take j) + ec l j 3
  omega
theorem lfA_at : ∀ (l : LL) (i : Int) (j : Nat) (d : Int), (∀ k, k < l.length -> 1 <= ec l k 3) -> j < l.length -> 0 <= d -> d < ec l j 3 -> lfA l i (plen (l.take j) + d) = (i + j, d)
 | [], _, j, _, _, h, _, _ => by simp at h
 | r :: l, i, 0, d, _, _, h0, h1 => by
  unfold lfA
  have e : plen (List.take 0 (r :: l)) + d = d := by show 0 + d = d; omega
  have h1 : d < r.getD 3 0 := h1
  rw [e, if_pos h1]; simp
 | r :: l, i, j + 1, d, hp, h, h0, h1 => by
  unfold lfA
  have hp' : ∀ k, k < l.length -> 1 <= ec l k 3 := fun k hk => hp (k + 1) (by simpa using hk)
  have hn : 0 <= plen (l.take j) := by
   have : ∀ n, n <= l.length -> 0 <= plen (l.take n) := by
    intro n
    induction n with
    | zero => intro _; exact Int.le_refl _
    | succ n ih => intro hn; rw [plen_take_succ l n (by omega)]; have := ih (by omega); have := hp' n (by omega); omega
   exact this j (by simp at h; omega)
  have e : plen (List.take (j + 1) (r :: l)) + d = r.getD 3 0 + (plen (l.take j) + d) := by show r.getD 3 0 + plen (l.take j) + d = _; omega
  rw [e, if_neg (by omega), show r.getD 3 0 + (plen (l.take j) + d) - r.getD 3 0 = plen (l.take j) + d by omega, lfA_at l (i + 1) j d hp' (by simpa using h) h0 h1]
  refine Prod.ext ?_ rfl
  show i + 1 + (j : Int) = i + ((j + 1 : Nat) : Int)
  omega
theorem lfA_end : ∀ (l : LL) (i e : Int), (∀ k, k < l.length -> 1 <= ec l k 3) -> 0 <= e -> (lfA l i (plen l + e)).1 = -1
 | [], i, e, _, _ => rfl
 | r :: l, i, e, hp, he => by
  have hp' : ∀ k, k < l.length -> 1 <= ec l k 3 := fun k hk => hp (k + 1) (by simpa using hk)
  have hn : 0 <= plen l := by
   have : ∀ m : LL, (∀ k, k < m.length -> 1 <= ec m k 3) -> 0 <= plen m := by
    intro m
    induction m with
    | nil => intro _; exact Int.le_refl _
    | cons a m ih =>
     intro h
     have := ih fun k hk => h (k + 1) (by simpa using hk)
     have h0 := h 0 (by simp)
     have h0 : 1 <= a.getD 3 0 := h0
     show 0 <= a.getD 3 0 + plen m
     omega
   exact this l hp'
  unfold lfA
  have e1 : plen (r :: l) + e = r.getD 3 0 + (plen l + e) := by show r.getD 3 0 + plen l + e = _; omega
  rw [e1, if_neg (by omega), show r.getD 3 0 + (plen l + e) - r.getD 3 0 = plen l + e by omega]
  exact lfA_end l (i + 1) e hp' he
theorem plen_nonneg {sg : LL} (h : okLen sg) {j : Nat} (hj : j <= sg.length) : 0 <= plen (sg.take j) := by
 induction j with
 | zero => exact Int.le_refl _
 | succ n ih => rw [plen_take_succ sg n (by omega)]; have := ih (by omega); have := h.2 n (by omega); omega
theorem plen_take_le {sg : LL} (h : okLen sg) {j : Nat} (hj : j <= sg.length) : plen (sg.take j) <= plen sg := by
 have : ∀ n, j + n <= sg.length -> plen (sg.take j) <= plen (sg.take (j + n)) := by
  intro n
  induction n with
  | zero => intro _; exact Int.le_refl _
  | succ n ih =>
   intro hn
   have := ih (by omega)
   have a := plen_take_succ sg (j + n) (by omega)
   have := h.2 (j + n) (by omega)
   rw [show j + (n + 1) = j + n + 1 by omega, a]
   omega
 have := this (sg.length - j) (by omega)
 rw [show j + (sg.length - j) = sg.length by omega, List.take_length] at this
 exact this
theorem ptAt_seg {s : Int} {sg : LL} {c j : Nat} {d : Int} (h : okLen sg) (hj : j < sg.length) (hd : 0 <= d /\ d <= ec sg j 3) :
 ptAt s sg c (plen (sg.take j) + d) = bgn s sg c j + rnd ((ec sg j c - bgn s sg c j) * d) (ec sg j 3) := by
 have hp : ∀ k, k < sg.length -> 1 <= ec sg k 3 := fun k hk => (h.2 k hk).1
 have hn := plen_nonneg h (show j <= sg.length by omega)
 have core : ∀ (j : Nat) (d : Int), j < sg.length -> 0 <= d -> d < ec sg j 3 -> ptAt s sg c (plen (sg.take j) + d) = bgn s sg c j + rnd ((ec sg j c - bgn s sg c j) * d) (ec sg j 3) := by
  intro j d hj h0 h1
  have hn := plen_nonneg h (show j <= sg.length by omega)
  have e : pfind sg (plen (sg.take j) + d) = ((j : Int), d) := by
   unfold pfind
   rw [if_neg (by omega), show max (plen (sg.take j) + d) 0 = plen (sg.take j) + d by omega, lfA_at sg 0 j d hp hj h0 h1]
   have : (0 : Int) + (j : Int) = j := by omega
   rw [this, if_pos (show (0 : Int) <= ((j : Int), d).1 by show (0 : Int) <= (j : Int); omega)]
  unfold ptAt
  rw [e, if_neg (by show ¬ (j : Int) < 0; omega)]
  rfl
 by_cases hlt : d < ec sg j 3
 . exact core j d hj hd.1 hlt
 . have hdL : d = ec sg j 3 := by omega
   have L0 := hp j hj
   rw [hdL, rnd_full (by omega)]
   by_cases hl : j + 1 < sg.length
   . rw [<- plen_take_succ sg j hj, show plen (sg.take (j + 1)) = plen (sg.take (j + 1)) + 0 by omega, core (j + 1) 0 hl (Int.le_refl _) (by have := hp (j + 1) hl; omega), Int.mul_zero, rnd_zero (by have := hp (j + 1) hl; omega)]
     have : bgn s sg c ((j + 1 : Nat) : Int) = ec sg j c := by
      unfold bgn
      rw [if_neg (by omega), show (((j + 1 : Nat) : Int) - 1).toNat = j by omega]
     rw [this]; omega
   . have e : pfind sg (plen (sg.take j) + ec sg j 3) = ((j : Int), ec sg j 3) := by
      have e2 : plen (sg.take j) + ec sg j 3 = plen sg + 0 := by
       rw [<- plen_take_succ sg j hj, List.take_of_length_le (by omega)]; omega
      have n1 := lfA_end sg 0 0 hp (Int.le_refl _)
      unfold pfind
      rw [if_neg (by omega), show max (plen (sg.take j) + ec sg j 3) 0 = plen (sg.take j) + ec sg j 3 by omega, e2, n1, if_neg (by omega)]
      refine Prod.ext ?_ ?_
      . show (sg.length : Int) - 1 = (j : Int); omega
      . show ec sg (sg.length - 1) 3 = ec sg j 3; rw [show sg.length - 1 = j by omega]
     unfold ptAt
     rw [e, if_neg (by show ¬ (j : Int) < 0; omega)]
     show bgn s sg c (j : Int) + rnd ((ec sg j c - bgn s sg c (j : Int)) * ec sg j 3) (ec sg j 3) = _
     rw [rnd_full (by omega)]
theorem ptAt_dir {s : Int} {sg : LL} {c j : Nat} {d : Int} (h : okLen sg) (hj : j < sg.length) (hd : 0 <= d /\ d < ec sg j 3) (hD : -(ec sg j 3) <= ec sg j c - bgn s sg c j /\ ec sg j c - bgn s sg c j <= ec sg j 3) :
 (0 <= ec sg j c - bgn s sg c j -> 0 <= ptAt s sg c (plen (sg.take j) + (d + 1)) - ptAt s sg c (plen (sg.take j) + d) /\ ptAt s sg c (plen (sg.take j) + (d + 1)) - ptAt s sg c (plen (sg.take j) + d) <= 1) /\
 (ec sg j c - bgn s sg c j <= 0 -> -1 <= ptAt s sg c (plen (sg.take j) + (d + 1)) - ptAt s sg c (plen (sg.take j) + d) /\ ptAt s sg c (plen (sg.take j) + (d + 1)) - ptAt s sg c (plen (sg.take j) + d) <= 0) := by
 rw [ptAt_seg h hj (by omega), ptAt_seg h hj (by omega)]
 have := rnd_step (D := ec sg j c - bgn s sg c j) (L := ec sg j 3) (d := d) (by have := (h.2 j hj).1; omega) hD
 refine ⟨fun h => ?_, fun h => ?_⟩
 . have := this.1 h; omega
 . have := this.2 h; omega
theorem pos_split {sg : LL} (h : okLen sg) {p : Int} (hp : 0 <= p) : ∀ n, n <= sg.length -> p < plen (sg.take n) -> ∃ j d, j < n /\ p = plen (sg.take j) + d /\ 0 <= d /\ d < ec sg j 3
 | 0, _, hlt => by
  have : plen (sg.take 0) = 0 := rfl
  omega
 | n + 1, hn, hlt => by
  rw [plen_take_succ sg n (by omega)] at hlt
  by_cases h1 : p < plen (sg.take n)
  . obtain ⟨j, d, a, b⟩ := pos_split h hp n (by omega) h1
    exact ⟨j, d, by omega, b⟩
  . exact ⟨n, p - plen (sg.take n), by omega, by omega, by omega, by omega⟩
theorem okSegs_D {s0 s1 s2 : Int} {sg : LL} (h : okSegs s0 s1 s2 sg) {j : Nat} (hj : j < sg.length) :
 (-(ec sg j 3) <= ec sg j 0 - bgn s0 sg 0 j /\ ec sg j 0 - bgn s0 sg 0 j <= ec sg j 3) /\ (-(ec sg j 3) <= ec sg j 1 - bgn s1 sg 1 j /\ ec sg j 1 - bgn s1 sg 1 j <= ec sg j 3) /\ (-(ec sg j 3) <= ec sg j 2 - bgn s2 sg 2 j /\ ec sg j 2 - bgn s2 sg 2 j <= ec sg j 3) := (h j hj).2.2
theorem ptAt_lip {s : Int} {sg : LL} {c : Nat} (h : okLen sg) (hD : ∀ j, j < sg.length -> -(ec sg j 3) <= ec sg j c - bgn s sg c j /\ ec sg j c - bgn s sg c j <= ec sg j 3) {p : Int} (hp : 0 <= p /\ p < plen sg) :
 -1 <= ptAt s sg c (p + 1) - ptAt s sg c p /\ ptAt s sg c (p + 1) - ptAt s sg c p <= 1 := by
 obtain ⟨j, d, h1, h2, h3⟩ := pos_split h hp.1 sg.length (Nat.le_refl _) (by rw [List.take_length]; exact hp.2)
 have := ptAt_dir (c := c) (s := s) h h1 h3 (hD j h1)
 rw [show p + 1 = plen (sg.take j) + (d + 1) by omega, h2]
 by_cases h0 : 0 <= ec sg j c - bgn s sg c j
 . have := this.1 h0; omega
 . have := this.2 (by omega); omega
theorem fc1_pm {a b m d : Int} (hd : pm d) : pm (fc1 a b m d) := by
 unfold fc1 pm at *
 split
 . exact .inl rfl
 . split
   . exact .inr rfl
   . exact hd
theorem sl1_ge (a b m n : Int) : n <= sl1 a b m n /\ (a ≠ b -> m <= sl1 a b m n) := by unfold sl1; split <;> omega
theorem slk_ge (b0 b1 b2 w0 w1 w2 d0 d1 d2 : Int) : (w0 ≠ d0 -> b0 <= slk b0 b1 b2 w0 w1 w2 d0 d1 d2) /\ (w1 ≠ d1 -> b1 <= slk b0 b1 b2 w0 w1 w2 d0 d1 d2) /\ (w2 ≠ d2 -> b2 <= slk b0 b1 b2 w0 w1 w2 d0 d1 d2) := by
 unfold slk
 have h0 := sl1_ge w0 d0 b0 0
 have h1 := sl1_ge w1 d1 b1 (sl1 w0 d0 b0 0)
 have h2 := sl1_ge w2 d2 b2 (sl1 w1 d1 b1 (sl1 w0 d0 b0 0))
 exact ⟨fun h => by have := h0.2 h; omega, fun h => by have := h1.2 h; omega, h2.2⟩
theorem bsh_any {b a n : Int} (h : a = n ∨ b = 0) : bsh b n = bsh b a := by
 rcases h with rfl | rfl
 . rfl
 . unfold bsh; split <;> split <;> rfl
theorem moveStep {s0 s1 s2 : Int} {sgs : LL} {b0 b1 b2 d0 d1 d2 f m ln U p a0 a1 a2 n0 n1 n2 : Int} {pk : LL}
 (h : legOK s0 s1 s2 sgs b0 b1 b2 d0 d1 d2 f m pk ln p a0 a1 a2) (ha : (a0 = n0 ∨ b0 = 0) /\ (a1 = n1 ∨ b1 = 0) /\ (a2 = n2 ∨ b2 = 0)) (hn : pm n0 /\ pm n1 /\ pm n2) (hm : pm m) (hU : 1 <= U) (hp : 0 <= p /\ p <= 18014398509481984)
 (hs : ∀ v, 1 <= v /\ v <= U -> (0 <= p + m * v /\ p + m * v <= plen sgs) /\ (0 <= p + m * (v - 1) /\ p + m * (v - 1) <= plen sgs) /\
  0 <= n0 * (ptAt s0 sgs 0 (p + m * v) - ptAt s0 sgs 0 (p + m * (v - 1))) /\ 0 <= n1 * (ptAt s1 sgs 1 (p + m * v) - ptAt s1 sgs 1 (p + m * (v - 1))) /\ 0 <= n2 * (ptAt s2 sgs 2 (p + m * v) - ptAt s2 sgs 2 (p + m * (v - 1)))) :
 legOK s0 s1 s2 sgs b0 b1 b2 d0 d1 d2 f m (tadd pk ln [0, U, p, m, n0, n1, n2, n0, n1, n2]).1 (tadd pk ln [0, U, p, m, n0, n1, n2, n0, n1, n2]).2 (p + m * U) n0 n1 n2 := by
 have m0 : m ≠ 0 := by unfold pm at hm; omega
 have m1 : -1 <= m /\ m <= 1 := by unfold pm at hm; omega
 have hT := tadd_okT (q0 := 0) (q4 := n0) (q5 := n1) (q6 := n2) (q7 := n0) (q8 := n1) (q9 := n2) h.1 hU hp m1
 by_cases hc : 0 < pk.length /\ m ≠ 0 /\ ec pk (pk.length - 1) 3 = m /\ ec pk (pk.length - 1) 7 = n0 /\ ec pk (pk.length - 1) 8 = n1 /\ ec pk (pk.length - 1) 9 = n2
 . rw [tadd_more hc] at hT ⊢
   exact set_ok h hc.1 hT hU hn m0 hc.2.2.1 hc.2.2.2.1 hc.2.2.2.2.1 hc.2.2.2.2.2 fun v hv => by
    obtain ⟨q1, q2, q3, q4, q5⟩ := hs v hv
    exact ⟨.inr ⟨rfl, q1, q2, n0, hn.1, rfl, rfl, q3⟩, .inr ⟨rfl, q1, q2, n1, hn.2.1, rfl, rfl, q4⟩, .inr ⟨rfl, q1, q2, n2, hn.2.2, rfl, rfl, q5⟩⟩
 . rw [tadd_app hc] at hT ⊢
   exact app_ok h hT hU hn ⟨by rw [tsh_move m0]; exact bsh_any ha.1, by rw [tsh_move m0]; exact bsh_any ha.2.1, by rw [tsh_move m0]; exact bsh_any ha.2.2⟩ (fun v hv => by
    obtain ⟨q1, q2, q3, q4, q5⟩ := hs v hv
    exact ⟨.inr ⟨rfl, q1, q2, n0, hn.1, tsh_move m0, tsh_move m0, q3⟩, .inr ⟨rfl, q1, q2, n1, hn.2.1, tsh_move m0, tsh_move m0, q4⟩, .inr ⟨rfl, q1, q2, n2, hn.2.2, tsh_move m0, tsh_move m0, q5⟩⟩) ⟨tsh_move m0, tsh_move m0, tsh_move m0⟩
theorem takeStep {s0 s1 s2 : Int} {sgs : LL} {b0 b1 b2 d0 d1 d2 f m ln U p a0 a1 a2 n0 n1 n2 : Int} {pk : LL}
 (h : legOK s0 s1 s2 sgs b0 b1 b2 d0 d1 d2 f m pk ln p a0 a1 a2) (hb : okB3 b0 b1 b2) (hn : pm n0 /\ pm n1 /\ pm n2) (hU : 1 <= U) (hp : 0 <= p /\ p <= 18014398509481984) (hg : (a0 ≠ n0 -> b0 <= U) /\ (a1 ≠ n1 -> b1 <= U) /\ (a2 ≠ n2 -> b2 <= U)) :
 legOK s0 s1 s2 sgs b0 b1 b2 d0 d1 d2 f m (tadd pk ln [0, U, p, 0, a0, a1, a2, n0, n1, n2]).1 (tadd pk ln [0, U, p, 0, a0, a1, a2, n0, n1, n2]).2 p n0 n1 n2 := by
 have ha := h.2.2.2.2.1
 have hT := tadd_okT (q0 := 0) (q4 := a0) (q5 := a1) (q6 := a2) (q7 := n0) (q8 := n1) (q9 := n2) h.1 hU hp (show (-1 : Int) <= 0 /\ (0 : Int) <= 1 by decide)
 have hc : ¬ (0 < pk.length /\ (0 : Int) ≠ 0 /\ ec pk (pk.length - 1) 3 = 0 /\ ec pk (pk.length - 1) 7 = n0 /\ ec pk (pk.length - 1) 8 = n1 /\ ec pk (pk.length - 1) 9 = n2) := fun hh => hh.2.1 rfl
 rw [tadd_app hc] at hT ⊢
 have := app_ok h hT hU hn ⟨tsh_zero ha.1 hn.1 hb.1.1, tsh_zero ha.2.1 hn.2.1 hb.2.1.1, tsh_zero ha.2.2 hn.2.2 hb.2.2.1⟩ (fun v hv => ⟨.inl ⟨rfl, tsh_step1 hb.1.1 hv.1⟩, .inl ⟨rfl, tsh_step1 hb.2.1.1 hv.1⟩, .inl ⟨rfl, tsh_step1 hb.2.2.1 hv.1⟩⟩)
  ⟨tsh_end hn.1 hg.1, tsh_end hn.2.1 hg.2.1, tsh_end hn.2.2 hg.2.2⟩
 rw [Int.zero_mul, Int.add_zero] at this
 exact this
theorem fc1_dir1 {a b d x : Int} (h : (0 <= b - a -> 0 <= x) /\ (b - a <= 0 -> x <= 0)) : 0 <= fc1 a b 1 d * x := by
 unfold fc1
 rw [Int.mul_one]
 by_cases h1 : b - a > 0
 . rw [if_pos h1]; have := h.1 (by omega); omega
 . rw [if_neg h1]
   by_cases h2 : b - a < 0
   . rw [if_pos h2]; have := h.2 (by omega); omega
   . rw [if_neg h2]
     have h3 := h.1 (by omega)
     have h4 := h.2 (by omega)
     have : x = 0 := by omega
     rw [this, Int.mul_zero]; exact Int.le_refl _
theorem fc1_dir2 {a b d x : Int} (h : (0 <= b - a -> 0 <= x) /\ (b - a <= 0 -> x <= 0)) : 0 <= fc1 a b (-1) d * (-x) := by
 unfold fc1
 rw [show (b - a) * -1 = -(b - a) by omega]
 by_cases h1 : -(b - a) > 0
 . rw [if_pos h1]; have := h.2 (by omega); omega
 . rw [if_neg h1]
   by_cases h2 : -(b - a) < 0
   . rw [if_pos h2]; have := h.1 (by omega); omega
   . rw [if_neg h2]
     have h3 := h.1 (by omega)
     have h4 := h.2 (by omega)
     have : x = 0 := by omega
     rw [this, Int.neg_zero, Int.mul_zero]; exact Int.le_refl _
def ppos (m f t bg : Int) : Int := if m < 0 then min f (max bg t) else max f (min bg t)
theorem legPut_ok {s0 s1 s2 : Int} {sgs : LL} {b0 b1 b2 d0 d1 d2 f m low high e n0 n1 n2 p : Int} {x : LegS}
 (h : legOK s0 s1 s2 sgs b0 b1 b2 d0 d1 d2 f m x.pk x.ln p x.a0 x.a1 x.a2) (hb : okB3 b0 b1 b2) (hm : pm m) (hn : pm n0 /\ pm n1 /\ pm n2) (hp : low < high -> p = legS m low high) (hr : low < high -> 0 <= p /\ p <= 18014398509481984)
 (hs : low < high -> ∀ v, 1 <= v /\ v <= high - low -> (0 <= p + m * v /\ p + m * v <= plen sgs) /\ (0 <= p + m * (v - 1) /\ p + m * (v - 1) <= plen sgs) /\
  0 <= n0 * (ptAt s0 sgs 0 (p + m * v) - ptAt s0 sgs 0 (p + m * (v - 1))) /\ 0 <= n1 * (ptAt s1 sgs 1 (p + m * v) - ptAt s1 sgs 1 (p + m * (v - 1))) /\ 0 <= n2 * (ptAt s2 sgs 2 (p + m * v) - ptAt s2 sgs 2 (p + m * (v - 1)))) :
 legOK s0 s1 s2 sgs b0 b1 b2 d0 d1 d2 f m (legPut b0 b1 b2 m low high e n0 n1 n2 x).pk (legPut b0 b1 b2 m low high e n0 n1 n2 x).ln (if low < high then p + m * (high - low) else p)
  (legPut b0 b1 b2 m low high e n0 n1 n2 x).a0 (legPut b0 b1 b2 m low high e n0 n1 n2 x).a1 (legPut b0 b1 b2 m low high e n0 n1 n2 x).a2 := by
 unfold legPut
 by_cases hlh : low < high
 . rw [if_pos hlh, if_pos hlh]
   dsimp only
   rw [<- hp hlh]
   have hg := slk_ge b0 b1 b2 x.a0 x.a1 x.a2 n0 n1 n2
   have hsb := slk_bd hb x.a0 x.a1 x.a2 n0 n1 n2
   unfold legTk
   by_cases hu : slk b0 b1 b2 x.a0 x.a1 x.a2 n0 n1 n2 > 0
   . rw [if_pos hu]
     have t := takeStep h hb hn (by omega) (hr hlh) hg
     exact moveStep t ⟨.inl rfl, .inl rfl, .inl rfl⟩ hn hm (by omega) (hr hlh) (hs hlh)
   . rw [if_neg hu]
     have z : ∀ {a n b : Int}, 0 <= b -> (a ≠ n -> b <= slk b0 b1 b2 x.a0 x.a1 x.a2 n0 n1 n2) -> a = n ∨ b = 0 := fun {a n b} hb0 hh => by
      by_cases e : a = n
      . exact .inl e
      . have := hh e; right; omega
     exact moveStep h ⟨z hb.1.1 hg.1, z hb.2.1.1 hg.2.1, z hb.2.2.1 hg.2.2⟩ hn hm (by omega) (hr hlh) (hs hlh)
 . rw [if_neg hlh, if_neg hlh]
   exact h
theorem legStep_ok {s0 s1 s2 : Int} {sg : LL} {b0 b1 b2 d0 d1 d2 f t m : Int} {x : LegS} {k : Nat} (hl : okLen sg) (hsg : okSegs s0 s1 s2 sg) (hb : okB3 b0 b1 b2) (hm : m = 1 /\ f <= t ∨ m = -1 /\ t < f) (hk : k < sg.length)
 (hf : 0 <= f /\ f <= plen sg) (ht : 0 <= t /\ t <= plen sg) (h1 : m = 1 -> x.bg = plen (sg.take k)) (h2 : m = -1 -> x.bg = plen (sg.take (sg.length - k)))
 (h : legOK s0 s1 s2 sg b0 b1 b2 d0 d1 d2 f m x.pk x.ln (ppos m f t x.bg) x.a0 x.a1 x.a2) :
 legOK s0 s1 s2 sg b0 b1 b2 d0 d1 d2 f m (legStep s0 s1 s2 sg b0 b1 b2 f t m x k).pk (legStep s0 s1 s2 sg b0 b1 b2 f t m x k).ln (ppos m f t (legStep s0 s1 s2 sg b0 b1 b2 f t m x k).bg)
  (legStep s0 s1 s2 sg b0 b1 b2 f t m x k).a0 (legStep s0 s1 s2 sg b0 b1 b2 f t m x k).a1 (legStep s0 s1 s2 sg b0 b1 b2 f t m x k).a2 := by
 have hpl := plen_le hl
 have ha := h.2.2.2.2.1
 have key : ∃ j : Nat, j < sg.length /\ legI sg.length m k = (j : Int) /\ legLow x.bg (legE sg m x.bg (legI sg.length m k)) f t = max (plen (sg.take j)) (min f t) /\ legHigh x.bg (legE sg m x.bg (legI sg.length m k)) f t = min (plen (sg.take j) + ec sg j 3) (max f t) /\
  (m = 1 -> x.bg = plen (sg.take j) /\ legE sg m x.bg (legI sg.length m k) = plen (sg.take j) + ec sg j 3) /\ (m = -1 -> x.bg = plen (sg.take j) + ec sg j 3 /\ legE sg m x.bg (legI sg.length m k) = plen (sg.take j)) := by
  rcases hm with ⟨rfl, hft⟩ | ⟨rfl, hft⟩
  . have e1 := h1 rfl
    have hi : legI sg.length 1 k = (k : Int) := by unfold legI; rw [if_neg (by decide)]
    have hL := (hl.2 k hk).1
    have hE : legE sg 1 x.bg (legI sg.length 1 k) = plen (sg.take k) + ec sg k 3 := by
     unfold legE; rw [hi, e1]
     show plen (sg.take k) + 1 * ec sg k 3 = _
     omega
    refine ⟨k, hk, hi, ?_, ?_, fun _ => ⟨e1, hE⟩, fun e => by omega⟩
    . unfold legLow; rw [hE, e1]; omega
    . unfold legHigh; rw [hE, e1]; omega
  . have e2 := h2 rfl
    have hi : legI sg.length (-1) k = ((sg.length - 1 - k : Nat) : Int) := by unfold legI; rw [if_pos (by decide)]; omega
    have hj : sg.length - 1 - k < sg.length := by omega
    have hL := (hl.2 _ hj).1
    have tk := plen_take_succ sg _ hj
    rw [show sg.length - 1 - k + 1 = sg.length - k by omega] at tk
    have hE : legE sg (-1) x.bg (legI sg.length (-1) k) = plen (sg.take (sg.length - 1 - k)) := by
     unfold legE; rw [hi, e2, tk]
     show plen (sg.take (sg.length - 1 - k)) + ec sg (sg.length - 1 - k) 3 + -1 * ec sg (sg.length - 1 - k) 3 = _
     omega
    refine ⟨sg.length - 1 - k, hj, hi, ?_, ?_, fun e => by omega, fun _ => ⟨by rw [e2, tk], hE⟩⟩
    . unfold legLow; rw [hE, e2, tk]; omega
    . unfold legHigh; rw [hE, e2, tk]; omega
 obtain ⟨j, hj, hi, hlow, hhigh, k1, k2⟩ := key
 have hB := plen_nonneg hl (show j <= sg.length by omega)
 have hB2 := plen_take_le hl (show j + 1 <= sg.length by omega)
 rw [plen_take_succ sg j hj] at hB2
 have hL := (hl.2 j hj).1
 have D := okSegs_D hsg hj
 unfold legStep legSeg
 rw [hi] at hlow hhigh k1 k2 ⊢
 have hjt : ((j : Int)).toNat = j := rfl
 rw [hjt]
 generalize hlo : legLow x.bg (legE sg m x.bg (j : Int)) f t = low at *
 generalize hhi : legHigh x.bg (legE sg m x.bg (j : Int)) f t = high at *
 generalize he : legE sg m x.bg (j : Int) = e at *
 have main := legPut_ok (low := low) (high := high) (e := e) (n0 := fc1 (bgn s0 sg 0 (j : Int)) (ec sg j 0) m x.a0) (n1 := fc1 (bgn s1 sg 1 (j : Int)) (ec sg j 1) m x.a1) (n2 := fc1 (bgn s2 sg 2 (j : Int)) (ec sg j 2) m x.a2) h hb (by unfold pm; omega)
  ⟨fc1_pm ha.1, fc1_pm ha.2.1, fc1_pm ha.2.2⟩ (fun hlh => by
   unfold ppos legS
   rcases hm with ⟨rfl, hft⟩ | ⟨rfl, hft⟩
   . have := (k1 rfl).1
     rw [if_neg (by decide), if_neg (by decide)]; omega
   . have := (k2 rfl).1
     rw [if_pos (by decide), if_pos (by decide)]; omega) (fun hlh => by
   unfold ppos
   split <;> omega) (fun hlh v hv => by
   rcases hm with ⟨rfl, hft⟩ | ⟨rfl, hft⟩
   . have e1 := (k1 rfl).1
     have ep : ppos 1 f t x.bg = low := by unfold ppos; rw [if_neg (by decide)]; omega
     rw [ep]
     have q1 : low + 1 * v = plen (sg.take j) + (low + v - 1 - plen (sg.take j) + 1) := by omega
     have q2 : low + 1 * (v - 1) = plen (sg.take j) + (low + v - 1 - plen (sg.take j)) := by omega
     have hd : 0 <= low + v - 1 - plen (sg.take j) /\ low + v - 1 - plen (sg.take j) < ec sg j 3 := by omega
     rw [q1, q2]
     have r0 := ptAt_dir (c := 0) (s := s0) hl hj hd D.1
     have r1 := ptAt_dir (c := 1) (s := s1) hl hj hd D.2.1
     have r2 := ptAt_dir (c := 2) (s := s2) hl hj hd D.2.2
     exact ⟨by omega, by omega, fc1_dir1 ⟨fun g => (r0.1 g).1, fun g => (r0.2 g).2⟩, fc1_dir1 ⟨fun g => (r1.1 g).1, fun g => (r1.2 g).2⟩, fc1_dir1 ⟨fun g => (r2.1 g).1, fun g => (r2.2 g).2⟩⟩
   . have e1 := (k2 rfl).1
     have ep : ppos (-1) f t x.bg = high := by unfold ppos; rw [if_pos (by decide)]; omega
     rw [ep]
     have q1 : high + -1 * v = plen (sg.take j) + (high - v - plen (sg.take j)) := by omega
     have q2 : high + -1 * (v - 1) = plen (sg.take j) + (high - v - plen (sg.take j) + 1) := by omega
     have hd : 0 <= high - v - plen (sg.take j) /\ high - v - plen (sg.take j) < ec sg j 3 := by omega
     rw [q1, q2]
     have r0 := ptAt_dir (c := 0) (s := s0) hl hj hd D.1
     have r1 := ptAt_dir (c := 1) (s := s1) hl hj hd D.2.1
     have r2 := ptAt_dir (c := 2) (s := s2) hl hj hd D.2.2
     have ng : ∀ {n a b : Int}, 0 <= n * (-(a - b)) -> 0 <= n * (b - a) := fun {n a b} g => by rw [show b - a = -(a - b) by omega]; exact g
     exact ⟨by omega, by omega, ng (fc1_dir2 ⟨fun g => (r0.1 g).1, fun g => (r0.2 g).2⟩), ng (fc1_dir2 ⟨fun g => (r1.1 g).1, fun g => (r1.2 g).2⟩), ng (fc1_dir2 ⟨fun g => (r2.1 g).1, fun g => (r2.2 g).2⟩)⟩)
 have ebg : (legPut b0 b1 b2 m low high e (fc1 (bgn s0 sg 0 (j : Int)) (ec sg j 0) m x.a0) (fc1 (bgn s1 sg 1 (j : Int)) (ec sg j 1) m x.a1) (fc1 (bgn s2 sg 2 (j : Int)) (ec sg j 2) m x.a2) x).bg = e := by unfold legPut; split <;> rfl
 rw [ebg]
 have epos : ppos m f t e = if low < high then ppos m f t x.bg + m * (high - low) else ppos m f t x.bg := by
  rcases hm with ⟨rfl, hft⟩ | ⟨rfl, hft⟩
  . have := k1 rfl
    have g : ∀ b, ppos 1 f t b = max f (min b t) := fun b => by unfold ppos; rw [if_neg (by decide)]
    rw [g, g]
    split <;> omega
  . have := k2 rfl
    have g : ∀ b, ppos (-1) f t b = min f (max b t) := fun b => by unfold ppos; rw [if_pos (by decide)]
    rw [g, g]
    split <;> omega
 rw [epos]
 exact main
theorem legK_ok {s0 s1 s2 : Int} {sg : LL} {b0 b1 b2 d0 d1 d2 f t m : Int} {x : LegS} (hl : okLen sg) (hsg : okSegs s0 s1 s2 sg) (hb : okB3 b0 b1 b2) (hm : m = 1 /\ f <= t ∨ m = -1 /\ t < f)
 (hf : 0 <= f /\ f <= plen sg) (ht : 0 <= t /\ t <= plen sg) (hJ : legJ sg m 0 x) (h : legOK s0 s1 s2 sg b0 b1 b2 d0 d1 d2 f m x.pk x.ln (ppos m f t x.bg) x.a0 x.a1 x.a2) : ∀ k, k <= sg.length ->
 legOK s0 s1 s2 sg b0 b1 b2 d0 d1 d2 f m (legK s0 s1 s2 sg b0 b1 b2 f t m x k).pk (legK s0 s1 s2 sg b0 b1 b2 f t m x k).ln (ppos m f t (legK s0 s1 s2 sg b0 b1 b2 f t m x k).bg)
  (legK s0 s1 s2 sg b0 b1 b2 f t m x k).a0 (legK s0 s1 s2 sg b0 b1 b2 f t m x k).a1 (legK s0 s1 s2 sg b0 b1 b2 f t m x k).a2
 | 0, _ => h
 | k + 1, hk => by
  have ih := legK_ok hl hsg hb hm hf ht hJ h k (by omega)
  have J := legJ_all (s0 := s0) (s1 := s1) (s2 := s2) (f := f) (t := t) hl hb (by omega) hJ k (by omega)
  exact legStep_ok hl hsg hb hm (by omega) hf ht J.2.2.2.1 J.2.2.2.2 ih
theorem leg_all {s0 s1 s2 : Int} {sg : LL} {b0 b1 b2 d0 d1 d2 f t : Int} (hl : okLen sg) (hsg : okSegs s0 s1 s2 sg) (hb : okB3 b0 b1 b2) (hd : pm d0 /\ pm d1 /\ pm d2) (hf : 0 <= f /\ f <= plen sg) (ht : 0 <= t /\ t <= plen sg) :
 legOK s0 s1 s2 sg b0 b1 b2 d0 d1 d2 f (legM f t) (leg s0 s1 s2 sg b0 b1 b2 d0 d1 d2 f t).pk (leg s0 s1 s2 sg b0 b1 b2 d0 d1 d2 f t).ln t
  (leg s0 s1 s2 sg b0 b1 b2 d0 d1 d2 f t).a0 (leg s0 s1 s2 sg b0 b1 b2 d0 d1 d2 f t).a1 (leg s0 s1 s2 sg b0 b1 b2 d0 d1 d2 f t).a2 := by
 have hm : legM f t = 1 /\ f <= t ∨ legM f t = -1 /\ t < f := by unfold legM; split <;> omega
 have hJ : legJ sg (legM f t) 0 ⟨[], 0, d0, d1, d2, if legM f t < 0 then plen sg else 0⟩ := by
  refine ⟨⟨Int.le_refl _, by dsimp only; omega⟩, by simp, fun j hj => by simp at hj, fun e => ?_, fun e => ?_⟩
  . rw [e]; rfl
  . rw [e]
    show plen sg = plen (sg.take (sg.length - 0))
    simp
 have h0 : legOK s0 s1 s2 sg b0 b1 b2 d0 d1 d2 f (legM f t) [] 0 f d0 d1 d2 :=
  ⟨⟨fun _ => rfl, fun h => by simp at h, fun j hj => by simp at hj, fun j hj => by simp at hj⟩, Int.le_refl _, rfl, rfl, hd, ⟨rfl, rfl, rfl⟩, ⟨rfl, rfl, rfl⟩, fun u hu => by omega⟩
 have e0 : ppos (legM f t) f t (if legM f t < 0 then plen sg else 0) = f := by
  unfold ppos
  rcases hm with ⟨e, h⟩ | ⟨e, h⟩
  . rw [e, if_neg (by decide), if_neg (by decide)]; omega
  . rw [e, if_pos (by decide), if_pos (by decide)]; omega
 have main := legK_ok (d0 := d0) (d1 := d1) (d2 := d2) (x := ⟨[], 0, d0, d1, d2, if legM f t < 0 then plen sg else 0⟩) hl hsg hb hm hf ht hJ (by dsimp only; rw [e0]; exact h0) sg.length (Nat.le_refl _)
 have J := legJ_all (s0 := s0) (s1 := s1) (s2 := s2) (f := f) (t := t) hl hb (by omega) hJ sg.length (Nat.le_refl _)
 have e1 : ppos (legM f t) f t (leg s0 s1 s2 sg b0 b1 b2 d0 d1 d2 f t).bg = t := by
  unfold leg ppos
  rcases hm with ⟨e, h⟩ | ⟨e, h⟩
  . have := J.2.2.2.1 e
    rw [List.take_length] at this
    rw [if_neg (by omega)]
    rw [this]; omega
  . have := J.2.2.2.2 e
    rw [Nat.sub_self] at this
    rw [if_pos (by omega)]
    rw [this]
    have z : plen (sg.take 0) = 0 := rfl
    omega
 unfold leg at e1 ⊢
 rw [e1] at main
 exact main
theorem mot_step {st og sg p : Int} {pit : LL} (h : okSl sg pit) (hst : 4 <= st) : 0 <= mot st og sg pit (p + 1) - mot st og sg pit p /\ mot st og sg pit (p + 1) - mot st og sg pit p <= 1 := by
 have hc := corr_step (og := og) h p
 unfold mot
 have := ediv_near (x := 2 * (p + corr og sg pit p) + st) (e := 2 * (1 + (corr og sg pit (p + 1) - corr og sg pit p))) (B := 2 * st) (by omega) (by omega)
 rw [show 2 * (p + 1 + corr og sg pit (p + 1)) + st = 2 * (p + corr og sg pit p) + st + 2 * (1 + (corr og sg pit (p + 1) - corr og sg pit p)) by omega]
 omega
theorem okAx_sl {a : AxV} (h : okAx a) : okSl a.sg a.pit := ⟨h.2.2.2.2.2.2.2.2.1, h.2.2.2.2.2.2.2.2.2.2⟩
theorem unit_motor {a : AxV} {s : Int} {sgs : LL} {c : Nat} {d f m u : Int} {pk : LL} (ha : okAx a) (hm : pm m) (hl : okLen sgs) (hD : ∀ j, j < sgs.length -> -(ec sgs j 3) <= ec sgs j c - bgn s sgs c j /\ ec sgs j c - bgn s sgs c j <= ec sgs j 3)
 (h : unitOK s sgs c a.bl d f m pk u) : -1 <= mtr a.st a.og a.sg a.pit a.bl s sgs c pk f d u - mtr a.st a.og a.sg a.pit a.bl s sgs c pk f d (u - 1) /\ mtr a.st a.og a.sg a.pit a.bl s sgs c pk f d u - mtr a.st a.og a.sg a.pit a.bl s sgs c pk f d (u - 1) <= 1 := by
 rw [mtr_shf, mtr_shf]
 have st4 := ha.1.1
 rcases h with ⟨e, h1, h2⟩ | ⟨e, r1, r2, n, hn, e1, e2, _⟩
 . rw [e]; omega
 . rw [e1, e2]
   have near : ∀ q : Int, 0 <= q /\ q < plen sgs -> -1 <= mot a.st a.og a.sg a.pit (ptAt s sgs c (q + 1)) - mot a.st a.og a.sg a.pit (ptAt s sgs c q) /\ mot a.st a.og a.sg a.pit (ptAt s sgs c (q + 1)) - mot a.st a.og a.sg a.pit (ptAt s sgs c q) <= 1 := fun q hq => by
    have l := ptAt_lip (s := s) (c := c) hl hD hq
    have hd : ptAt s sgs c (q + 1) = ptAt s sgs c q ∨ ptAt s sgs c (q + 1) = ptAt s sgs c q + 1 ∨ ptAt s sgs c q = ptAt s sgs c (q + 1) + 1 := by omega
    rcases hd with e | e | e
    . rw [e]; omega
    . rw [e]; have := mot_step (og := a.og) (p := ptAt s sgs c q) (okAx_sl ha) st4; omega
    . rw [e]; have := mot_step (og := a.og) (p := ptAt s sgs c (q + 1)) (okAx_sl ha) st4; omega
   rcases hm with rfl | rfl
   . rw [e] at r1 ⊢
     have := near (tplace pk f (u - 1)) (by omega)
     omega
   . have e' : tplace pk f (u - 1) = tplace pk f u + 1 := by omega
     rw [e'] at r2 ⊢
     have := near (tplace pk f u) (by omega)
     omega
theorem okRun_leg {x : RunS} (h : okRun x) : ∃ a0 a1 a2, legOK x.s0 x.s1 x.s2 x.sg x.a.bl x.b.bl x.c.bl x.d0 x.d1 x.d2 x.f (legM x.f x.t) x.pk x.ln x.t a0 a1 a2 := by
 have hb := okRun_b3 h
 obtain ⟨hp, ha, hb', hc, hd, hf, ht, h1, h2⟩ := h
 rw [h1, h2]
 exact ⟨_, _, _, leg_all (okPath_len hp) hp.2.1 hb hd hf ht⟩
theorem M_steps {x : RunS} (h : okRun x) : (∀ u, 1 <= u /\ u <= x.ln -> -1 <= x.M0 u - x.M0 (u - 1) /\ x.M0 u - x.M0 (u - 1) <= 1) /\ (∀ u, 1 <= u /\ u <= x.ln -> -1 <= x.M1 u - x.M1 (u - 1) /\ x.M1 u - x.M1 (u - 1) <= 1) /\ (∀ u, 1 <= u /\ u <= x.ln -> -1 <= x.M2 u - x.M2 (u - 1) /\ x.M2 u - x.M2 (u - 1) <= 1) := by
 obtain ⟨a0, a1, a2, L⟩ := okRun_leg h
 have hL := L.2.2.2.2.2.2.2
 have hl := okPath_len h.1
 have hm : pm (legM x.f x.t) := legM_pm _ _
 have D := fun j hj => okSegs_D h.1.2.1 (j := j) hj
 exact ⟨fun u hu => unit_motor h.2.1 hm hl (fun j hj => (D j hj).1) (hL u hu).1, fun u hu => unit_motor h.2.2.1 hm hl (fun j hj => (D j hj).2.1) (hL u hu).2.1, fun u hu => unit_motor h.2.2.2.1 hm hl (fun j hj => (D j hj).2.2) (hL u hu).2.2⟩
end Go.Proofs.YtoekmphdpepdbaaGreat
namespace U
open Go
theorem Lm_tail {sp ac je : Int} {f : Nat -> Int} {n : Nat} (h : Lm sp ac je f (n + 1)) : Lm sp ac je (fun j => f (j + 1)) n :=
 ⟨fun j hj => h.1 (j + 1) (by omega), fun j hj => h.2.1 (j + 1) (by omega), fun j hj => h.2.2 (j + 1) (by omega)⟩
theorem wth3_tail {s0 a0 j0 s1 a1 j1 s2 a2 j2 : Int} {r : List Int} {L : List (List Int)} (h : wth3 s0 a0 j0 s1 a1 j1 s2 a2 j2 (r :: L) = true) : wth3 s0 a0 j0 s1 a1 j1 s2 a2 j2 L = true := by
 rw [wth3_iff] at h ⊢
 exact ⟨Lm_tail h.1, Lm_tail h.2.1, Lm_tail h.2.2⟩
theorem Lm_same {sp ac je : Int} {f : Nat -> Int} {n : Nat} (h0 : 0 <= sp) (h1 : 0 <= ac) (h2 : 0 <= je) (h : Lm sp ac je f (n + 3)) (e1 : f (n + 3) = f (n + 2)) (e2 : f (n + 2) = f (n + 1)) (e3 : f (n + 1) = f n) : Lm sp ac je f (n + 4) := by
 obtain ⟨a, b, c⟩ := h
 refine ⟨fun j hj => ?_, fun j hj => ?_, fun j hj => ?_⟩
 . by_cases e : j = n + 2
   . subst e; rw [e1]; omega
   . exact a j (by omega)
 . by_cases e : j = n + 1
   . subst e; rw [show n + 1 + 2 = n + 3 from rfl, show n + 1 + 1 = n + 2 from rfl, e1, e2]; omega
   . exact b j (by omega)
 . by_cases e : j = n
   . subst e; rw [e1, e2, e3]; omega
   . exact c j (by omega)
theorem qsm_cons (r : List Int) (l : List (List Int)) : ∀ k, qsm (r :: l) (k + 1) = r.getD 0 0 + qsm l k
 | 0 => by show (0 : Int) + r.getD 0 0 = r.getD 0 0 + 0; omega
 | k + 1 => by
  have e := qsm_cons r l k
  show qsm (r :: l) (k + 1) + el (r :: l) (k + 1) = r.getD 0 0 + (qsm l k + el l k)
  rw [e, el_cons]; omega
theorem qcum_cons (u : Int) (r : List Int) (l : List (List Int)) : qcum u (r :: l) = [u + r.getD 0 0] :: qcum (u + r.getD 0 0) l := by
 have key : ∀ n, qcumN u (r :: l) (n + 1) = [u + r.getD 0 0] :: qcumN (u + r.getD 0 0) l n := by
  intro n
  induction n with
  | zero => unfold qcumN; simp [qsm, el]
  | succ n ih => rw [qcumN_succ, ih, qcumN_succ, qsm_cons, List.cons_append, Int.add_assoc]
 exact key l.length
theorem qend_cons (u x : Int) (f : List (List Int)) : qend u ([x] :: f) = qend x f := by
 unfold qend
 rw [if_neg (by simp)]
 cases f with
 | nil => rfl
 | cons r f => rw [if_neg (by simp)]; rfl
theorem qfok_iff {A J v a : Int} : qfok A J v a = true ↔ qready A J v a = true /\ qsok A J 4096 v a = true := by unfold qfok; rw [Bool.and_eq_true]
theorem qsp_of {A J v a : Int} (h : qfok A J v a = true) : qsp A J v a = qst A J 4096 v a := by unfold qsp; rw [if_pos h]
theorem stop_next {A J R : Int} (hp : okPl A J R) {m : QM} (h : qfok A J m.v m.a = true) :
 qfok A J (m.v + qbrk A J m.v m.a) (qbrk A J m.v m.a) = true /\
 ((0 < m.v /\ qfu A J m.u m.v m.a = [m.u + (m.v + qbrk A J m.v m.a)] :: qfu A J (m.u + (m.v + qbrk A J m.v m.a)) (m.v + qbrk A J m.v m.a) (qbrk A J m.v m.a)) ∨
  (m.v = 0 /\ qbrk A J m.v m.a = 0 /\ qfu A J m.u m.v m.a = [] /\ qfu A J m.u 0 0 = [])) := by
 have hA := hp.1.1
 have hJ : 1 <= J := by have := hp.2.1.1; omega
 obtain ⟨h1, h2⟩ := qfok_iff.1 h
 have hv := qready_v hJ h1
 have hr := qbrk_ready hA hJ h1
 by_cases h0 : 0 < m.v
 . obtain ⟨t1, t2⟩ := qst_tail h0 h2
   have k := qfok_iff.2 ⟨hr, t1⟩
   refine ⟨k, .inl ⟨h0, ?_⟩⟩
   unfold qfu
   rw [qsp_of h, qsp_of k, t2, qcum_cons]
   rfl
 . have e : m.v = 0 := by omega
   rw [e] at h1 hr ⊢
   have b := qbrk_rest hA hJ h1
   rw [b] at hr ⊢
   have n1 := qst_nil (A := A) (J := J) (v := 0 + 0) (a := 0) (n := 4096) (by omega)
   have n0 := qst_nil (A := A) (J := J) (v := 0) (a := m.a) (n := 4096) (by omega)
   have k := qfok_iff.2 ⟨hr, n1.2⟩
   refine ⟨k, .inr ⟨rfl, rfl, ?_, ?_⟩⟩
   . rw [e] at h
     unfold qfu; rw [qsp_of h, n0.1]; rfl
   . unfold qfu; rw [qsp_of (v := 0) (a := 0) k, (qst_nil (A := A) (J := J) (v := 0) (a := 0) (n := 4096) (by omega)).1]; rfl
theorem qmove_a (m : QM) (v : Int) : (qmove m (m.v + v)).a = v := by show m.v + v - m.v = v; omega
theorem safe_next {A J R : Int} (hp : okPl A J R) {s0 a0 j0 s1 a1 j1 s2 a2 j2 : Int} (hl : okL3 s0 a0 j0 s1 a1 j1 s2 a2 j2) {M0 M1 M2 : Int -> Int} {ln : Int} {m : QM} {lim : Int}
 (h : qsafe A J (wth3 s0 a0 j0 s1 a1 j1 s2 a2 j2) (qmot M0 M1 M2 ln) m lim = true) : qsafe A J (wth3 s0 a0 j0 s1 a1 j1 s2 a2 j2) (qmot M0 M1 M2 ln) (qmove m (m.v + qbrk A J m.v m.a)) lim = true := by
 unfold qsafe at h ⊢
 rw [Bool.and_eq_true, Bool.and_eq_true, decide_eq_true_iff] at h ⊢
 obtain ⟨h1, h2, h3⟩ := h
 obtain ⟨k1, k2⟩ := stop_next hp h1
 rw [qmove_a]
 refine ⟨k1, ?_⟩
 rcases k2 with ⟨k0, k2⟩ | ⟨k0, kb, k2, k3⟩
 . rw [k2, qend_cons] at h2
   rw [k2] at h3
   refine ⟨h2, ?_⟩
   unfold qway at h3 ⊢
   rw [qend_cons] at h3
   exact wth3_tail h3
 . rw [k2] at h2 h3
   rw [kb, k0]
   show qend (m.u + (0 + 0)) (qfu A J (m.u + (0 + 0)) (0 + 0) 0) <= lim * 256 /\ wth3 s0 a0 j0 s1 a1 j1 s2 a2 j2 (qmot M0 M1 M2 ln (qway (qmove m (0 + 0)) (qfu A J (m.u + (0 + 0)) (0 + 0) 0))) = true
   rw [show (0 : Int) + 0 = 0 from rfl, show m.u + 0 = m.u by omega, k3]
   refine ⟨h2, ?_⟩
   have e : qway (qmove m 0) [] = [[m.p], [m.l], [m.u], [m.u], [m.u], [m.u]] := by
    unfold qway qend qmove
    simp
   have e2 : qway m [] = [[m.b], [m.p], [m.l], [m.u], [m.u], [m.u]] := by unfold qway qend; simp
   rw [e2] at h3
   rw [e]
   have h4 := wth3_tail h3
   rw [wth3_iff] at h4 ⊢
   exact ⟨Lm_same (n := 2) hl.1.1.1 hl.1.2.1.1 hl.1.2.2.1 (Lm_congr (fun j hj => by
    rcases (by omega : j = 0 ∨ j = 1 ∨ j = 2 ∨ j = 3 ∨ j = 4) with rfl | rfl | rfl | rfl | rfl <;> rfl) h4.1) rfl rfl rfl,
    Lm_same (n := 2) hl.2.1.1.1 hl.2.1.2.1.1 hl.2.1.2.2.1 (Lm_congr (fun j hj => by
     rcases (by omega : j = 0 ∨ j = 1 ∨ j = 2 ∨ j = 3 ∨ j = 4) with rfl | rfl | rfl | rfl | rfl <;> rfl) h4.2.1) rfl rfl rfl,
    Lm_same (n := 2) hl.2.2.1.1 hl.2.2.2.1.1 hl.2.2.2.2.1 (Lm_congr (fun j hj => by
     rcases (by omega : j = 0 ∨ j = 1 ∨ j = 2 ∨ j = 3 ∨ j = 4) with rfl | rfl | rfl | rfl | rfl <;> rfl) h4.2.2) rfl rfl rfl⟩
theorem safe_mono {A J : Int} {W : List (List Int) -> Bool} {Mo : List (List Int) -> List (List Int)} {m : QM} {lim lim' : Int} (hl : lim <= lim') (h : qsafe A J W Mo m lim = true) : qsafe A J W Mo m lim' = true := by
 unfold qsafe at h ⊢
 rw [Bool.and_eq_true, Bool.and_eq_true, decide_eq_true_iff] at h ⊢
 exact ⟨h.1, by omega, h.2.2⟩
theorem qpick_some {ok : Int -> Bool} : ∀ {l : List (List Int)} {k : Int}, qpick ok l = some k -> ok k = true /\ ∃ j, j < l.length /\ el l j = k
 | [], k, h => by cases h
 | r :: l, k, h => by
  unfold qpick at h
  by_cases hk : ok (r.getD 0 0) = true
  . rw [if_pos hk] at h; cases h; exact ⟨hk, 0, by simp, rfl⟩
  . rw [if_neg hk] at h
    obtain ⟨h1, j, h2, h3⟩ := qpick_some h
    exact ⟨h1, j + 1, by simpa using h2, h3⟩
theorem qpick_none {ok : Int -> Bool} : ∀ {l : List (List Int)}, qpick ok l = none -> ∀ j, j < l.length -> ok (el l j) = false
 | [], _, j, hj => by simp at hj
 | r :: l, h, j, hj => by
  unfold qpick at h
  by_cases hk : ok (r.getD 0 0) = true
  . rw [if_pos hk] at h; cases h
  . rw [if_neg hk] at h
    cases j with
    | zero => exact Bool.eq_false_iff.mpr hk
    | succ j => exact qpick_none h j (by simpa using hj)
theorem next_cases (A J : Int) (W : List (List Int) -> Bool) (Mo : List (List Int) -> List (List Int)) (n : Nat) (T : Int -> Int) (m : QM) (lim : Int) :
 (∃ k, qpick (qok A J W Mo n T m lim) (chg J) = some k /\ qnext A J W Mo n T m lim = qmove m (m.v + (m.a + k)) /\ 0 <= m.v + (m.a + k) /\ qready A J (m.v + (m.a + k)) (m.a + k) = true /\
  qfit A J n T (qmove m (m.v + (m.a + k))) = true /\ qsafe A J W Mo (qmove m (m.v + (m.a + k))) lim = true) ∨
 (qpick (qok A J W Mo n T m lim) (chg J) = none /\ qnext A J W Mo n T m lim = qmove m (m.v + qbrk A J m.v m.a)) := by
 unfold qnext
 cases h : qpick (qok A J W Mo n T m lim) (chg J) with
 | none => exact .inr ⟨rfl, rfl⟩
 | some k =>
  have ok := (qpick_some h).1
  unfold qok at ok
  rw [Bool.and_eq_true, Bool.and_eq_true, Bool.and_eq_true, decide_eq_true_iff] at ok
  exact .inl ⟨k, rfl, rfl, ok⟩
def qinv (A J : Int) (W : List (List Int) -> Bool) (Mo : List (List Int) -> List (List Int)) (m : QM) (lim : Int) : Prop :=
 qsafe A J W Mo m lim = true /\ 0 <= m.b /\ m.b <= m.p /\ m.p <= m.l /\ m.l <= m.u
theorem inv_next {A J R : Int} (hp : okPl A J R) {s0 a0 j0 s1 a1 j1 s2 a2 j2 : Int} (hl : okL3 s0 a0 j0 s1 a1 j1 s2 a2 j2) {M0 M1 M2 : Int -> Int} {ln : Int} {n : Nat} {T : Int -> Int} {m : QM} {lim lim' : Int} (hm : lim <= lim')
 (h : qinv A J (wth3 s0 a0 j0 s1 a1 j1 s2 a2 j2) (qmot M0 M1 M2 ln) m lim) : qinv A J (wth3 s0 a0 j0 s1 a1 j1 s2 a2 j2) (qmot M0 M1 M2 ln) (qnext A J (wth3 s0 a0 j0 s1 a1 j1 s2 a2 j2) (qmot M0 M1 M2 ln) n T m lim') lim' := by
 obtain ⟨hs, h1, h2, h3, h4⟩ := h
 rcases next_cases A J (wth3 s0 a0 j0 s1 a1 j1 s2 a2 j2) (qmot M0 M1 M2 ln) n T m lim' with ⟨k, _, e, k1, _, _, k2⟩ | ⟨_, e⟩
 . rw [e]
   exact ⟨k2, by show 0 <= m.p; omega, h3, h4, by show m.u <= m.u + _; omega⟩
 . rw [e]
   have hs' := safe_mono hm hs
   have hf : qfok A J m.v m.a = true := by unfold qsafe at hs; rw [Bool.and_eq_true] at hs; exact hs.1
   have hv := qready_v (by have := hp.2.1.1; omega) (qfok_iff.1 (stop_next hp hf).1).1
   exact ⟨safe_next hp hl hs', by show 0 <= m.p; omega, h3, h4, by show m.u <= m.u + _; omega⟩
theorem inv_ok {A J : Int} {W : List (List Int) -> Bool} {Mo : List (List Int) -> List (List Int)} {m : QM} {lim : Int} (h : qinv A J W Mo m lim) : qfok A J m.v m.a = true := by
 have := h.1; unfold qsafe at this; rw [Bool.and_eq_true] at this; exact this.1
theorem inv_bd {A J R : Int} (hp : okPl A J R) {W : List (List Int) -> Bool} {Mo : List (List Int) -> List (List Int)} {m : QM} {lim : Int} (h : qinv A J W Mo m lim) :
 (0 <= m.u /\ m.u <= qend m.u (qfu A J m.u m.v m.a)) /\ qend m.u (qfu A J m.u m.v m.a) <= lim * 256 /\ (0 <= m.v /\ m.v <= 16777216) /\ (-A <= m.a /\ m.a <= A) := by
 have hf := inv_ok h
 have hr := qready_iff.1 (qfok_iff.1 hf).1
 have hv := qready_v (by have := hp.2.1.1; omega) (qfok_iff.1 hf).1
 have he := qend_bd (u := m.u) (qsp_spd (v := m.v) (a := m.a) hp)
 have hs := h.1
 unfold qsafe at hs
 rw [Bool.and_eq_true, Bool.and_eq_true, decide_eq_true_iff] at hs
 have := h.2
 exact ⟨⟨by omega, he.1⟩, hs.2.1, hv, ⟨hr.1, hr.2.1⟩⟩
theorem inv_okN {A J R : Int} (hp : okPl A J R) {W : List (List Int) -> Bool} {Mo : List (List Int) -> List (List Int)} {m : QM} {lim : Int} (hl : lim <= 18014398509481984) (h : qinv A J W Mo m lim) : okN m := by
 have b := inv_bd hp h
 have := h.2
 have hA := hp.1
 exact ⟨by omega, by omega, by omega, by unfold okU; omega, by unfold okU; omega⟩
theorem rest_start {A J R : Int} (hp : okPl A J R) (u : Int) : qfok A J 0 0 = true /\ qfu A J u 0 0 = [] := by
 have hA := hp.1
 have hJ := hp.2.1
 have n1 := qst_nil (A := A) (J := J) (v := 0) (a := 0) (n := 4096) (by omega)
 have r : qready A J 0 0 = true := qready_iff.2 ⟨by omega, by omega, fun _ => by omega, by rw [qloss_le (by omega) (by omega)]; omega, by rw [qloss_le (by omega) (by omega)]; omega⟩
 have k := qfok_iff.2 ⟨r, n1.2⟩
 exact ⟨k, by unfold qfu; rw [qsp_of k, n1.1]; rfl⟩
theorem Lm_const {sp ac je : Int} {f : Nat -> Int} {n : Nat} (h0 : 0 <= sp) (h1 : 0 <= ac) (h2 : 0 <= je) (c : Int) (h : ∀ j, j < n -> f j = c) : Lm sp ac je f n :=
 ⟨fun j hj => by rw [h j (by omega), h (j + 1) (by omega)]; omega, fun j hj => by rw [h j (by omega), h (j + 1) (by omega), h (j + 2) (by omega)]; omega,
  fun j hj => by rw [h j (by omega), h (j + 1) (by omega), h (j + 2) (by omega), h (j + 3) (by omega)]; omega⟩
theorem six {p : Nat -> Prop} (h0 : p 0) (h1 : p 1) (h2 : p 2) (h3 : p 3) (h4 : p 4) (h5 : p 5) : ∀ j, j < 6 -> p j := fun j hj => by
 rcases (by omega : j = 0 ∨ j = 1 ∨ j = 2 ∨ j = 3 ∨ j = 4 ∨ j = 5) with rfl | rfl | rfl | rfl | rfl | rfl <;> assumption
theorem inv_start {A J R : Int} (hp : okPl A J R) {s0 a0 j0 s1 a1 j1 s2 a2 j2 : Int} (hl : okL3 s0 a0 j0 s1 a1 j1 s2 a2 j2) {M0 M1 M2 : Int -> Int} {ln u lim : Int} (h0 : 0 <= u) (h1 : u <= lim) :
 qinv A J (wth3 s0 a0 j0 s1 a1 j1 s2 a2 j2) (qmot M0 M1 M2 ln) (qstart u) lim := by
 have r := rest_start hp (u * 256)
 refine ⟨?_, by show 0 <= u * 256; omega, Int.le_refl _, Int.le_refl _, Int.le_refl _⟩
 unfold qsafe
 rw [Bool.and_eq_true, Bool.and_eq_true, decide_eq_true_iff]
 show qfok A J 0 0 = true /\ qend (u * 256) (qfu A J (u * 256) 0 0) <= lim * 256 /\ wth3 s0 a0 j0 s1 a1 j1 s2 a2 j2 (qmot M0 M1 M2 ln (qway (qstart u) (qfu A J (u * 256) 0 0))) = true
 rw [r.2]
 refine ⟨r.1, by show u * 256 <= lim * 256; omega, ?_⟩
 rw [wth3_iff]
 exact ⟨Lm_const hl.1.1.1 hl.1.2.1.1 hl.1.2.2.1 (M0 (clamp ln (u * 256 / 256))) (six rfl rfl rfl rfl rfl rfl),
  Lm_const hl.2.1.1.1 hl.2.1.2.1.1 hl.2.1.2.2.1 (M1 (clamp ln (u * 256 / 256))) (six rfl rfl rfl rfl rfl rfl),
  Lm_const hl.2.2.1.1 hl.2.2.2.1.1 hl.2.2.2.2.1 (M2 (clamp ln (u * 256 / 256))) (six rfl rfl rfl rfl rfl rfl)⟩
def kin (m : QM) : Prop := m.v = m.u - m.l /\ m.a = m.v - (m.l - m.p)
theorem kin_start (u : Int) : kin (qstart u) := by unfold kin qstart; dsimp only; omega
theorem kin_move {m : QM} (h : kin m) (v : Int) : kin (qmove m v) := by unfold kin qmove at *; dsimp only at *; omega
theorem qnext_move (A J : Int) (W : List (List Int) -> Bool) (Mo : List (List Int) -> List (List Int)) (n : Nat) (T : Int -> Int) (m : QM) (lim : Int) : ∃ v, qnext A J W Mo n T m lim = qmove m v := by
 rcases next_cases A J W Mo n T m lim with ⟨k, _, e, _⟩ | ⟨_, e⟩
 . exact ⟨_, e⟩
 . exact ⟨_, e⟩
theorem hlv_le : ∀ (n : Nat) {k : Int}, ∀ j, j < (hlv n k).length -> 1 <= el (hlv n k) j /\ el (hlv n k) j <= k := by
 intro n
 induction n with
 | zero => intro k j hj; simp [hlv] at hj
 | succ n ih =>
  intro k j hj
  unfold hlv at hj ⊢
  by_cases h0 : 0 < k
  . rw [if_pos h0] at hj ⊢
    cases j with
    | zero => exact ⟨h0, Int.le_refl _⟩
    | succ j => have := ih (k := k / 2) j (by simpa using hj); rw [el_cons]; omega
  . rw [if_neg h0] at hj; simp at hj
theorem hlv_one : ∀ (n : Nat) {k : Int}, 1 <= k -> k <= n -> ∃ j, j < (hlv n k).length /\ el (hlv n k) j = 1 := by
 intro n
 induction n with
 | zero => intro k h1 h2; omega
 | succ n ih =>
  intro k h1 h2
  unfold hlv
  rw [if_pos (by omega)]
  by_cases e : k = 1
  . exact ⟨0, by simp, e⟩
  . obtain ⟨j, h3, h4⟩ := ih (k := k / 2) (by omega) (by omega)
    exact ⟨j + 1, by simpa using h3, h4⟩
theorem qpick_app (ok : Int -> Bool) : ∀ (a b : List (List Int)), qpick ok (a ++ b) = match qpick ok a with | some k => some k | none => qpick ok b
 | [], b => rfl
 | r :: a, b => by
  show (if ok (r.getD 0 0) = true then some (r.getD 0 0) else qpick ok (a ++ b)) = match (if ok (r.getD 0 0) = true then some (r.getD 0 0) else qpick ok a) with | some k => some k | none => qpick ok b
  by_cases h : ok (r.getD 0 0) = true
  . rw [if_pos h, if_pos h]
  . rw [if_neg h, if_neg h]; exact qpick_app ok a b
theorem qpick_one {ok : Int -> Bool} {J : Int} (hJ : 1 <= J) (h : ok 1 = true) : ∃ k, qpick ok (chg J) = some k /\ 1 <= k := by
 obtain ⟨j, h1, h2⟩ := hlv_one J.toNat (k := J) hJ (by omega)
 have hs : ∃ k, qpick ok (hlv J.toNat J) = some k := by
  cases hq : qpick ok (hlv J.toNat J) with
  | some k => exact ⟨k, rfl⟩
  | none => have := qpick_none hq j h1; rw [h2, h] at this; cases this
 obtain ⟨k, hk⟩ := hs
 refine ⟨k, ?_, ?_⟩
 . unfold chg; rw [List.append_assoc, qpick_app, hk]
 . obtain ⟨_, i, h3, h4⟩ := qpick_some hk
   have := hlv_le J.toNat i h3
   omega
def ShS.W (x : ShS) : LL -> Bool := wth3 x.r.a.sp x.r.a.ac x.r.a.je x.r.b.sp x.r.b.ac x.r.b.je x.r.c.sp x.r.c.ac x.r.c.je
def ShS.Mo (x : ShS) : LL -> LL := qmot x.r.M0 x.r.M1 x.r.M2 x.r.ln
def ShS.T (x : ShS) (ho : Bool) (fo ro : Int) : Int -> Int := qtg ho fo ro x.R x.r.sg x.r.pk x.r.f x.r.ln
def ShS.nx (x : ShS) (ho : Bool) (fo ro : Int) (m : QM) (lim : Int) : QM := qnext x.A x.J x.W x.Mo x.r.sg.length (x.T ho fo ro) m lim
def xsg : LL := [[8000, 0, 0, 8000, 0, 50000, 0]]
def xleg : LegS := leg 0 0 0 xsg 0 0 0 1 1 1 0 8000
def ShS.inv (x : ShS) (m : QM) (lim : Int) : Prop := qinv x.A x.J x.W x.Mo m lim
end U
namespace Go.Proofs.YtoekmphdpepdbaaGreat
open Go Go.HL U
def SNxS (hargs : List HV) (pars : List (List HC)) : SR :=
 match hargs, pars with
 | [.agg cs, .agg [.int .i64 fo, .int .i64 ro, .bool ho, .bool so, .bool oo], .agg [.int .i64 mu, .int .i64 mv, .int .i64 ma, .int .i64 ml, .int .i64 mp, .int .i64 mb], .ce (.int .i64 lim)], [] =>
  .all (∃ x, (okShop x /\ cs = shopC x) /\ (0 <= lim /\ lim <= x.r.ln) /\ ∃ l, l <= lim /\ x.inv ⟨mu, mv, ma, ml, mp, mb⟩ l) QM (fun y => ∀ x, cs = shopC x -> y = x.nx ho fo ro ⟨mu, mv, ma, ml, mp, mb⟩ lim)
   (fun y => ⟨.agg [I6 y.u, I6 y.v, I6 y.a, I6 y.l, I6 y.p, I6 y.b], false, [], []⟩)
 | _, _ => .fail
def tabNxS : List (FuncId × HL.Spec) := [(34, SPNext)]
noncomputable def CNxS : Ctx := ⟨Tryz.prog, gam tabNxS, Tryz.f23.ntmps, [], []⟩
theorem vcNxS (x : ShS) (fo ro mu mv ma ml mp mb lim : Int) (ho so oo : Bool) (Q : Res -> Prop) : (nfun true CNxS Tryz.f23 (bodyOf Tryz.f23) [.agg (shopC x), .agg [I6 fo, I6 ro, .bool ho, .bool so, .bool oo], .agg [I6 mu, I6 mv, I6 ma, I6 ml, I6 mp, I6 mb], .ce (I6 lim)] [] Q) =
 (((okPT x.r.s0 x.r.s1 x.r.s2 x.r.sg x.r.pk x.r.ln x.r.f /\ okA3 x.r.a.st x.r.a.og x.r.a.sg x.r.a.pit x.r.a.bl x.r.b.st x.r.b.og x.r.b.sg x.r.b.pit x.r.b.bl x.r.c.st x.r.c.og x.r.c.sg x.r.c.pit x.r.c.bl /\ okL3 x.r.a.sp x.r.a.ac x.r.a.je x.r.b.sp x.r.b.ac x.r.b.je x.r.c.sp x.r.c.ac x.r.c.je) /\ okPl x.A x.J x.R /\ okN ⟨mu, mv, ma, ml, mp, mb⟩ /\ 0 <= lim /\ lim <= 18014398509481984) /\ (∃ (x_1 : QM), x_1 = qnext x.A x.J (wth3 x.r.a.sp x.r.a.ac x.r.a.je x.r.b.sp x.r.b.ac x.r.b.je x.r.c.sp x.r.c.ac x.r.c.je) (qmot (mtr x.r.a.st x.r.a.og x.r.a.sg x.r.a.pit x.r.a.bl x.r.s0 x.r.sg (0 : Nat) x.r.pk x.r.f x.r.d0) (mtr x.r.b.st x.r.b.og x.r.b.sg x.r.b.pit x.r.b.bl x.r.s1 x.r.sg (1 : Nat) x.r.pk x.r.f x.r.d1) (mtr x.r.c.st x.r.c.og x.r.c.sg x.r.c.pit x.r.c.bl x.r.s2 x.r.sg (2 : Nat) x.r.pk x.r.f x.r.d2) x.r.ln) (List.length x.r.sg) (qtg ho fo ro x.R x.r.sg x.r.pk x.r.f x.r.ln) ⟨mu, mv, ma, ml, mp, mb⟩ lim) /\
 ∀ (x_1 : QM), x_1 = qnext x.A x.J (wth3 x.r.a.sp x.r.a.ac x.r.a.je x.r.b.sp x.r.b.ac x.r.b.je x.r.c.sp x.r.c.ac x.r.c.je) (qmot (mtr x.r.a.st x.r.a.og x.r.a.sg x.r.a.pit x.r.a.bl x.r.s0 x.r.sg (0 : Nat) x.r.pk x.r.f x.r.d0) (mtr x.r.b.st x.r.b.og x.r.b.sg x.r.b.pit x.r.b.bl x.r.s1 x.r.sg (1 : Nat) x.r.pk x.r.f x.r.d1) (mtr x.r.c.st x.r.c.og x.r.c.sg x.r.c.pit x.r.c.bl x.r.s2 x.r.sg (2 : Nat) x.r.pk x.r.f x.r.d2) x.r.ln) (List.length x.r.sg) (qtg ho fo ro x.R x.r.sg x.r.pk x.r.f x.r.ln) ⟨mu, mv, ma, ml, mp, mb⟩ lim -> Q ⟨.agg [I6 x_1.u, I6 x_1.v, I6 x_1.a, I6 x_1.l, I6 x_1.p, I6 x_1.b], false, [], []⟩) := by kernel_rfl
def SStr (hargs : List HV) (pars : List (List HC)) : SR :=
 match hargs, pars with
 | [], [] => .all True LegS (fun x => x = xleg) (fun x => ⟨.tup [.agg [I6 0, I6 0, I6 0, .sl false [4, 4, 4, 4, 4, 4, 4] xsg, .sl false [4, 4, 4] []], .agg [I6 8, I6 1000, I6 1000, I6 1000, I6 (-16777216), I6 16777216, I6 0, I6 0, I6 0, .sl false [4] [], I6 8, I6 1000, I6 1000, I6 1000, I6 (-16777216), I6 16777216, I6 0, I6 0, I6 0, .sl false [4] [], I6 8, I6 1000, I6 1000, I6 1000, I6 (-16777216), I6 16777216, I6 0, I6 0, I6 0, .sl false [4] []], .agg [.sl false [4, 4, 4, 4, 4, 4, 4, 4, 4, 4] x.pk, I6 x.ln, I6 0, I6 1, I6 1, I6 1]], false, [], []⟩)
 | _, _ => .fail
def tabStr : List (FuncId × HL.Spec) := [(39, SLeg)]
noncomputable def CStr : Ctx := ⟨Tryz.prog, gam tabStr, Tryz.f33.ntmps, [], []⟩
theorem vcStr (Q : Res -> Prop) : (nfun true CStr Tryz.f33 (bodyOf Tryz.f33) [] [] Q) =
 ((okLen [[(8000 : Int), (0 : Int), (0 : Int), (8000 : Int), (0 : Int), (50000 : Int), (0 : Int)]] /\ okPts (0 : Int) (0 : Int) (0 : Int) [[(8000 : Int), (0 : Int), (0 : Int), (8000 : Int), (0 : Int), (50000 : Int), (0 : Int)]] /\ okB3 (0 : Int) (0 : Int) (0 : Int)) /\ (∃ (x : LegS), x = leg (0 : Int) (0 : Int) (0 : Int) [[(8000 : Int), (0 : Int), (0 : Int), (8000 : Int), (0 : Int), (50000 : Int), (0 : Int)]] (0 : Int) (0 : Int) (0 : Int) (1 : Int) (1 : Int) (1 : Int) (0 : Int) (8000 : Int)) /\ ∀ (x : LegS), x = leg (0 : Int) (0 : Int) (0 : Int) [[(8000 : Int), (0 : Int), (0 : Int), (8000 : Int), (0 : Int), (50000 : Int), (0 : Int)]] (0 : Int) (0 : Int) (0 : Int) (1 : Int) (1 : Int) (1 : Int) (0 : Int) (8000 : Int) -> Q ⟨.tup [.agg [I6 0, I6 0, I6 0, .sl false [4, 4, 4, 4, 4, 4, 4] [[(8000 : Int), (0 : Int), (0 : Int), (8000 : Int), (0 : Int), (50000 : Int), (0 : Int)]], .sl false [4, 4, 4] []], .agg [I6 8, I6 1000, I6 1000, I6 1000, I6 (-16777216), I6 16777216, I6 0, I6 0, I6 0, .sl false [4] [], I6 8, I6 1000, I6 1000, I6 1000, I6 (-16777216), I6 16777216, I6 0, I6 0, I6 0, .sl false [4] [], I6 8, I6 1000, I6 1000, I6 1000, I6 (-16777216), I6 16777216, I6 0, I6 0, I6 0, .sl false [4] []], .agg [.sl false [4, 4, 4, 4, 4, 4, 4, 4, 4, 4] x.pk, I6 x.ln, I6 0, I6 1, I6 1, I6 1]], false, [], []⟩) := by kernel_rfl
def tabAw36 : List (FuncId × HL.Spec) := [(33, SStr), (20, SQStart), (34, SPNext)]
noncomputable def CAw36 : Ctx := ⟨Tryz.prog, gam tabAw36, Tryz.f11.ntmps, [], []⟩
theorem vcAw36 (Q : Res -> Prop) : (nfun true CAw36 Tryz.f11 (bodyOf Tryz.f11) [] [] Q) =
 (True /\ (∃ (x : LegS), x = xleg) /\ ∀ (x : LegS), x = xleg -> ((-18014398509481984 : Int) <= 0 /\ (0 : Int) <= 18014398509481984) /\ (∃ (x : QM), x = qstart (0 : Int)) /\ ∀ (x_1 : QM), x_1 = qstart (0 : Int) -> ((okPT (0 : Int) (0 : Int) (0 : Int) xsg x.pk x.ln (0 : Int) /\ okA3 (8 : Int) (0 : Int) (0 : Int) [] (0 : Int) (8 : Int) (0 : Int) (0 : Int) [] (0 : Int) (8 : Int) (0 : Int) (0 : Int) [] (0 : Int) /\ okL3 (1000 : Int) (1000 : Int) (1000 : Int) (1000 : Int) (1000 : Int) (1000 : Int) (1000 : Int) (1000 : Int) (1000 : Int)) /\ okPl (100 : Int) (8 : Int) (1 : Int) /\ okN { u := x_1.u, v := x_1.v, a := x_1.a, l := x_1.l, p := x_1.p, b := x_1.b } /\ (0 : Int) <= 8000 /\ (8000 : Int) <= 18014398509481984) /\ (∃ (x_2 : QM), x_2 = qnext (100 : Int) (8 : Int) (wth3 (1000 : Int) (1000 : Int) (1000 : Int) (1000 : Int) (1000 : Int) (1000 : Int) (1000 : Int) (1000 : Int) (1000 : Int)) (qmot (mtr (8 : Int) (0 : Int) (0 : Int) [] (0 : Int) (0 : Int) xsg (0 : Nat) x.pk (0 : Int) (1 : Int)) (mtr (8 : Int) (0 : Int) (0 : Int) [] (0 : Int) (0 : Int) xsg (1 : Nat) x.pk (0 : Int) (1 : Int)) (mtr (8 : Int) (0 : Int) (0 : Int) [] (0 : Int) (0 : Int) xsg (2 : Nat) x.pk (0 : Int) (1 : Int)) x.ln) (1 : Nat) (qtg false (100 : Int) (100 : Int) (1 : Int) xsg x.pk (0 : Int) x.ln) { u := x_1.u, v := x_1.v, a := x_1.a, l := x_1.l, p := x_1.p, b := x_1.b } (8000 : Int)) /\
 ∀ (x_2 : QM), x_2 = qnext (100 : Int) (8 : Int) (wth3 (1000 : Int) (1000 : Int) (1000 : Int) (1000 : Int) (1000 : Int) (1000 : Int) (1000 : Int) (1000 : Int) (1000 : Int)) (qmot (mtr (8 : Int) (0 : Int) (0 : Int) [] (0 : Int) (0 : Int) xsg (0 : Nat) x.pk (0 : Int) (1 : Int)) (mtr (8 : Int) (0 : Int) (0 : Int) [] (0 : Int) (0 : Int) xsg (1 : Nat) x.pk (0 : Int) (1 : Int)) (mtr (8 : Int) (0 : Int) (0 : Int) [] (0 : Int) (0 : Int) xsg (2 : Nat) x.pk (0 : Int) (1 : Int)) x.ln) (1 : Nat) (qtg false (100 : Int) (100 : Int) (1 : Int) xsg x.pk (0 : Int) x.ln) { u := x_1.u, v := x_1.v, a := x_1.a, l := x_1.l, p := x_1.p, b := x_1.b } (8000 : Int) -> Q ⟨.ce (.bool (x_2.u == 8 && (x_2.v == 8 && (x_2.a == 8 && (x_2.l == 0 && (x_2.p == 0 && (x_2.b == 0 && true))))))), false, [], []⟩) := by kernel_rfl
end Go.Proofs.YtoekmphdpepdbaaGreat
namespace U
theorem shop_pre {x : ShS} (h : okShop x) : (okPT x.r.s0 x.r.s1 x.r.s2 x.r.sg x.r.pk x.r.ln x.r.f /\ okA3 x.r.a.st x.r.a.og x.r.a.sg x.r.a.pit x.r.a.bl x.r.b.st x.r.b.og x.r.b.sg x.r.b.pit x.r.b.bl x.r.c.st x.r.c.og x.r.c.sg x.r.c.pit x.r.c.bl /\
 okL3 x.r.a.sp x.r.a.ac x.r.a.je x.r.b.sp x.r.b.ac x.r.b.je x.r.c.sp x.r.c.ac x.r.c.je) /\ okPl x.A x.J x.R /\ (0 <= x.r.ln /\ x.r.ln <= 1099511627776) := by
 obtain ⟨hr, hf, hA, hJ, hR⟩ := h
 have P := okRun_pre hr
 have li : ∀ a : AxV, okAx a -> okLi a.sp a.ac a.je := fun a h => by
  have h1 := h.2.1
  have h2 := h.2.2.1
  have h3 := h.2.2.2.1
  exact ⟨by omega, by omega, by omega⟩
 exact ⟨⟨⟨P.1, P.2.1, P.2.2.1, P.2.2.2.2.2.2⟩, ⟨P.2.2.2.1, P.2.2.2.2.1, P.2.2.2.2.2.1⟩, li _ hr.2.1, li _ hr.2.2.1, li _ hr.2.2.2.1⟩, ⟨by omega, by omega, by omega⟩, P.2.2.1.2.1.1, okRun_ln hr⟩
theorem shopC_inj {x y : ShS} (h : shopC x = shopC y) : x = { y with r := { y.r with t := x.r.t } } := by
 obtain ⟨⟨x0, x1, x2, x3, x4, ⟨a0, a1, a2, a3, a4, a5, a6, a7⟩, ⟨b0, b1, b2, b3, b4, b5, b6, b7⟩, ⟨c0, c1, c2, c3, c4, c5, c6, c7⟩, x5, x6, x7, x8, x9, x10, x11⟩, xA, xJ, xR⟩ := x
 obtain ⟨⟨y0, y1, y2, y3, y4, ⟨e0, e1, e2, e3, e4, e5, e6, e7⟩, ⟨f0, f1, f2, f3, f4, f5, f6, f7⟩, ⟨g0, g1, g2, g3, g4, g5, g6, g7⟩, y5, y6, y7, y8, y9, y10, y11⟩, yA, yJ, yR⟩ := y
 unfold shopC at h
 simp only [List.cons.injEq, Go.HL.HC.int.injEq, Go.HL.HC.sl.injEq, true_and, and_true] at h
 simp only [h]
theorem nx_eq {x y : ShS} (h : shopC x = shopC y) (ho : Bool) (fo ro : Int) (m : QM) (lim : Int) : x.nx ho fo ro m lim = y.nx ho fo ro m lim := by
 rw [shopC_inj h]; rfl
theorem okShop_ex : ∃ x, okShop x := by
 obtain ⟨a, ha⟩ := Go.Proofs.YtoekmphdpepdbaaGreat.okAx_ex
 have hp : okPath 0 0 0 [] [] := ⟨by unfold b3; decide, okSegs_nil _ _ _, by decide, by decide⟩
 have h0 : (0 : Int) <= 0 /\ 0 <= plen [] := by decide
 exact ⟨⟨⟨0, 0, 0, [], [], a, a, a, 1, 1, 1, 0, 0, _, _⟩, 1, 2, 1⟩, ⟨hp, ha, ha, ha, ⟨.inl rfl, .inl rfl, .inl rfl⟩, h0, h0, rfl, rfl⟩, rfl, (by decide : (1 : Int) <= 1 /\ (1 : Int) <= 900), (by decide : (2 : Int) <= 2 /\ (2 : Int) <= 201), (by decide : (1 : Int) <= 1 /\ (1 : Int) <= 16000)⟩
theorem xnext : ((qnext 100 8 (wth3 1000 1000 1000 1000 1000 1000 1000 1000 1000) (qmot (mtr 8 0 0 [] 0 0 xsg 0 xleg.pk 0 1) (mtr 8 0 0 [] 0 0 xsg 1 xleg.pk 0 1) (mtr 8 0 0 [] 0 0 xsg 2 xleg.pk 0 1) xleg.ln) 1 (qtg false 100 100 1 xsg xleg.pk 0 xleg.ln) (qstart 0) 8000).u = 8 /\
 (qnext 100 8 (wth3 1000 1000 1000 1000 1000 1000 1000 1000 1000) (qmot (mtr 8 0 0 [] 0 0 xsg 0 xleg.pk 0 1) (mtr 8 0 0 [] 0 0 xsg 1 xleg.pk 0 1) (mtr 8 0 0 [] 0 0 xsg 2 xleg.pk 0 1) xleg.ln) 1 (qtg false 100 100 1 xsg xleg.pk 0 xleg.ln) (qstart 0) 8000).v = 8 /\
 (qnext 100 8 (wth3 1000 1000 1000 1000 1000 1000 1000 1000 1000) (qmot (mtr 8 0 0 [] 0 0 xsg 0 xleg.pk 0 1) (mtr 8 0 0 [] 0 0 xsg 1 xleg.pk 0 1) (mtr 8 0 0 [] 0 0 xsg 2 xleg.pk 0 1) xleg.ln) 1 (qtg false 100 100 1 xsg xleg.pk 0 xleg.ln) (qstart 0) 8000).a = 8) /\
 ((qnext 100 8 (wth3 1000 1000 1000 1000 1000 1000 1000 1000 1000) (qmot (mtr 8 0 0 [] 0 0 xsg 0 xleg.pk 0 1) (mtr 8 0 0 [] 0 0 xsg 1 xleg.pk 0 1) (mtr 8 0 0 [] 0 0 xsg 2 xleg.pk 0 1) xleg.ln) 1 (qtg false 100 100 1 xsg xleg.pk 0 xleg.ln) (qstart 0) 8000).l = 0 /\
 (qnext 100 8 (wth3 1000 1000 1000 1000 1000 1000 1000 1000 1000) (qmot (mtr 8 0 0 [] 0 0 xsg 0 xleg.pk 0 1) (mtr 8 0 0 [] 0 0 xsg 1 xleg.pk 0 1) (mtr 8 0 0 [] 0 0 xsg 2 xleg.pk 0 1) xleg.ln) 1 (qtg false 100 100 1 xsg xleg.pk 0 xleg.ln) (qstart 0) 8000).p = 0 /\
 (qnext 100 8 (wth3 1000 1000 1000 1000 1000 1000 1000 1000 1000) (qmot (mtr 8 0 0 [] 0 0 xsg 0 xleg.pk 0 1) (mtr 8 0 0 [] 0 0 xsg 1 xleg.pk 0 1) (mtr 8 0 0 [] 0 0 xsg 2 xleg.pk 0 1) xleg.ln) 1 (qtg false 100 100 1 xsg xleg.pk 0 xleg.ln) (qstart 0) 8000).b = 0) := by decide +kernel
end U
namespace Go.Proofs.YtoekmphdpepdbaaGreat
open Go Go.HL U
attribute [local irreducible] hfun bodyT fragT
theorem sNxS : Sound Tryz.prog 23 SNxS := by
 refine sound_of (C := CNxS) tabNxS Tryz.func23 (by kernel_rfl) (by decide +kernel) (by kernel_rfl) rfl ⟨sNx, trivial⟩ (loops0 (by kernel_rfl)) ?_
 intro hargs pars R h
 unfold SNxS at h
 split at h
 case h_2 => exfalso; exact h
 rename_i cs fo ro ho so oo mu mv ma ml mp mb lim
 obtain ⟨⟨x, ⟨hx, ec⟩, hlim, l, hl, hi⟩, _, hR⟩ := h
 subst ec
 have P := shop_pre hx
 refine byVC (vcNxS x fo ro mu mv ma ml mp mb lim ho so oo R) ⟨⟨P.1, P.2.1, inv_okN P.2.1 (by omega) hi, by omega, by omega⟩, ⟨_, rfl⟩, fun y ey => hR y (fun x' e' => ?_)⟩
 rw [<- nx_eq e', ey]; rfl
theorem x_ok : okLen xsg /\ okPts 0 0 0 xsg /\ okB3 0 0 0 := by
 refine ⟨⟨by decide, fun j hj => ?_⟩, ⟨by decide, by decide, by decide, fun j hj => ?_⟩, by unfold okB3; decide⟩
 . obtain rfl : j = 0 := by simp [xsg] at hj; exact hj
   decide
 . obtain rfl : j = 0 := by simp [xsg] at hj; exact hj
   decide
theorem sStr : Sound Tryz.prog 33 SStr := by
 refine sound_of (C := CStr) tabStr Tryz.func33 (by kernel_rfl) (by decide +kernel) (by kernel_rfl) rfl ⟨sLeg, trivial⟩ (loops0 (by kernel_rfl)) ?_
 intro hargs pars R h
 unfold SStr at h
 split at h
 case h_2 => exfalso; exact h
 obtain ⟨_, _, hR⟩ := h
 exact byVC (vcStr R) ⟨x_ok, ⟨_, rfl⟩, fun x e => hR x e⟩
theorem sAw36 : Sound Tryz.prog 11 STrue0 := by
 refine sound_of (C := CAw36) tabAw36 Tryz.func11 (by kernel_rfl) (by decide +kernel) (by kernel_rfl) rfl ⟨sStr, sQStart, sNx, trivial⟩ (loops0 (by kernel_rfl)) ?_
 intro hargs pars R h
 unfold STrue0 at h
 split at h
 case h_2 => exfalso; exact h
 obtain ⟨_, _, hR⟩ := h
 have ht : okTrk xleg.pk xleg.ln := leg_ok (d0 := 1) (d1 := 1) (d2 := 1) x_ok.1 x_ok.2.2 (by decide) (by decide)
 have ma : okMA 8 0 0 [] 0 := ⟨by decide, ⟨fun h => by simp at h, by decide, by decide, by decide, fun j hj => by simp at hj⟩, by decide⟩
 refine byVC (vcAw36 R) ⟨trivial, ⟨_, rfl⟩, fun x ex => ⟨by decide, ⟨_, rfl⟩, fun y ey => ?_⟩⟩
 subst ex ey
 refine ⟨⟨⟨⟨x_ok.1, x_ok.2.1, ht, by decide⟩, ⟨ma, ma, ma⟩, ⟨by unfold okLi; decide, by unfold okLi; decide, by unfold okLi; decide⟩⟩, ⟨by decide, by decide, by decide⟩, ⟨by decide, by decide, by decide, by unfold okU; decide, by unfold okU; decide⟩, by decide, by decide⟩, ⟨_, rfl⟩, fun z ez => hR _ ?_⟩
 subst ez
 obtain ⟨⟨q1, q2, q3⟩, q4, q5, q6⟩ := xnext
 simp only [Bool.and_eq_true, beq_iff_eq]
 exact ⟨q1, q2, q3, q4, q5, q6, trivial⟩
end Go.Proofs.YtoekmphdpepdbaaGreat
namespace U
theorem xinv_next {x : ShS} (h : okShop x) {ho : Bool} {fo ro : Int} {m : QM} {l lim : Int} (hm : l <= lim) (hi : x.inv m l) : x.inv (x.nx ho fo ro m lim) lim :=
 inv_next (shop_pre h).2.1 (shop_pre h).1.2.2 hm hi
theorem xinv_bd {x : ShS} (h : okShop x) {m : QM} {lim : Int} (hi : x.inv m lim) :
 qfok x.A x.J m.v m.a = true /\ (0 <= m.u /\ m.u <= qend m.u (qfu x.A x.J m.u m.v m.a)) /\ qend m.u (qfu x.A x.J m.u m.v m.a) <= lim * 256 /\ (0 <= m.v /\ m.v <= 16777216) /\ (-x.A <= m.a /\ m.a <= x.A) :=
 ⟨inv_ok hi, inv_bd (shop_pre h).2.1 hi⟩
theorem xinv_start {x : ShS} (h : okShop x) {u lim : Int} (h0 : 0 <= u) (h1 : u <= lim) : x.inv (qstart u) lim := inv_start (shop_pre h).2.1 (shop_pre h).1.2.2 h0 h1
open Go
theorem one_stop {A J R : Int} (hp : okPl A J R) (u : Int) : qfok A J 1 1 = true /\ qready A J 1 1 = true /\ qfu A J u 1 1 = [[u]] := by
 have hA := hp.1.1
 have hJ := hp.2.1.1
 have r : qready A J 1 1 = true := qready_iff.2 ⟨by omega, by omega, fun h => by omega, by rw [qloss_le (by omega) (by omega)]; decide, by rw [qloss_le (by omega) (by omega)]; decide⟩
 have hb : qbrk A J 1 1 = -1 := qbrk_stop hA (by omega) r (by omega) (by omega) (by omega) (by omega)
 have k : qsok A J (4095 + 1) 1 1 = true := by
  unfold qsok
  rw [if_pos (by decide), hb]
  exact (qst_nil (by decide)).2
 have f := qfok_iff.2 ⟨r, k⟩
 refine ⟨f, r, ?_⟩
 obtain ⟨s1, s2⟩ := stop_next hp (m := ⟨u, 1, 1, u, u, u⟩) f
 rcases s2 with ⟨_, s2⟩ | ⟨s2, _⟩
 . have s1 : qfok A J (1 + qbrk A J 1 1) (qbrk A J 1 1) = true := s1
   have s2 : qfu A J u 1 1 = [u + (1 + qbrk A J 1 1)] :: qfu A J (u + (1 + qbrk A J 1 1)) (1 + qbrk A J 1 1) (qbrk A J 1 1) := s2
   rw [hb] at s1 s2
   rw [show (1 : Int) + -1 = 0 from rfl, show u + 0 = u by omega] at s2
   rw [show (1 : Int) + -1 = 0 from rfl] at s1
   obtain ⟨_, t2⟩ := stop_next hp (m := ⟨u, 0, -1, u, u, u⟩) s1
   rcases t2 with ⟨t2, _⟩ | ⟨_, _, t2, _⟩
   . exact absurd (show (0 : Int) < 0 from t2) (by decide)
   . rw [s2, show qfu A J u 0 (-1) = [] from t2]
 . exact absurd (show (1 : Int) = 0 from s2) (by decide)
theorem Lm_one {sp ac je : Int} {f : Nat -> Int} {c d : Int} (h0 : 1 <= sp) (h1 : 1 <= ac) (h2 : 2 <= je) (hd : -1 <= d - c /\ d - c <= 1) (h : ∀ j, j < 7 -> f j = if j < 3 then c else d) : Lm sp ac je f 7 :=
 ⟨fun j hj => by rw [h j (by omega), h (j + 1) (by omega)]; split <;> split <;> omega,
  fun j hj => by rw [h j (by omega), h (j + 1) (by omega), h (j + 2) (by omega)]; split <;> split <;> split <;> omega,
  fun j hj => by rw [h j (by omega), h (j + 1) (by omega), h (j + 2) (by omega), h (j + 3) (by omega)]; split <;> split <;> split <;> split <;> omega⟩
theorem wth_one {s0 a0 j0 s1 a1 j1 s2 a2 j2 : Int} (h0 : 1 <= s0 /\ 1 <= a0 /\ 2 <= j0) (h1 : 1 <= s1 /\ 1 <= a1 /\ 2 <= j1) (h2 : 1 <= s2 /\ 1 <= a2 /\ 2 <= j2) {M0 M1 M2 : Int -> Int} {ln u : Int}
 (g0 : -1 <= M0 (clamp ln ((u + 1) / 256)) - M0 (clamp ln (u / 256)) /\ M0 (clamp ln ((u + 1) / 256)) - M0 (clamp ln (u / 256)) <= 1) (g1 : -1 <= M1 (clamp ln ((u + 1) / 256)) - M1 (clamp ln (u / 256)) /\ M1 (clamp ln ((u + 1) / 256)) - M1 (clamp ln (u / 256)) <= 1)
 (g2 : -1 <= M2 (clamp ln ((u + 1) / 256)) - M2 (clamp ln (u / 256)) /\ M2 (clamp ln ((u + 1) / 256)) - M2 (clamp ln (u / 256)) <= 1) :
 wth3 s0 a0 j0 s1 a1 j1 s2 a2 j2 (qmot M0 M1 M2 ln [[u], [u], [u], [u + 1], [u + 1], [u + 1], [u + 1]]) = true := by
 rw [wth3_iff]
 refine ⟨Lm_one h0.1 h0.2.1 h0.2.2 g0 ?_, Lm_one h1.1 h1.2.1 h1.2.2 g1 ?_, Lm_one h2.1 h2.2.1 h2.2.2 g2 ?_⟩ <;>
 . intro j hj
   rcases (by omega : j = 0 ∨ j = 1 ∨ j = 2 ∨ j = 3 ∨ j = 4 ∨ j = 5 ∨ j = 6) with rfl | rfl | rfl | rfl | rfl | rfl | rfl <;> rfl
theorem scl_pos {v p : Int} (h : p ≠ 0) : 1 <= scl v p := by unfold scl; rw [if_neg h]; omega
theorem xT_pos {x : ShS} {fo ro : Int} (hf : fo ≠ 0) (hr : ro ≠ 0) (u : Int) : 1 <= x.T false fo ro u := by
 show 1 <= qtg false fo ro x.R x.r.sg x.r.pk x.r.f x.r.ln u
 unfold qtg tgt
 rw [if_neg (by decide)]
 split
 . omega
 . split
   . exact scl_pos hr
   . exact scl_pos hf
theorem xM1 {M : Int -> Int} {ln lim u : Int} (hl : lim <= ln) (h0 : 0 <= u) (h1 : u < lim * 256) (h : ∀ u, 1 <= u /\ u <= ln -> -1 <= M u - M (u - 1) /\ M u - M (u - 1) <= 1) :
 -1 <= M (clamp ln ((u + 1) / 256)) - M (clamp ln (u / 256)) /\ M (clamp ln ((u + 1) / 256)) - M (clamp ln (u / 256)) <= 1 := by
 have c0 : clamp ln (u / 256) = u / 256 := by unfold clamp; omega
 have c1 : clamp ln ((u + 1) / 256) = (u + 1) / 256 := by unfold clamp; omega
 rw [c0, c1]
 by_cases e : (u + 1) / 256 = u / 256
 . rw [e]; omega
 . have e : (u + 1) / 256 = u / 256 + 1 := by omega
   have := h (u / 256 + 1) (by omega)
   rw [show u / 256 + 1 - 1 = u / 256 by omega] at this
   rw [e]; exact this
theorem xln0 {x : ShS} (h : okShop x) (hn : ¬ 0 < x.r.sg.length) : x.r.ln = 0 := by
 have e : x.r.sg = [] := List.eq_nil_of_length_eq_zero (by omega)
 rw [h.1.2.2.2.2.2.2.2.2]
 unfold RunS.L
 rw [e]; rfl
theorem xlim {x : ShS} (h : okShop x) : (1 <= x.r.a.sp /\ 1 <= x.r.a.ac /\ 2 <= x.r.a.je) /\ (1 <= x.r.b.sp /\ 1 <= x.r.b.ac /\ 2 <= x.r.b.je) /\ (1 <= x.r.c.sp /\ 1 <= x.r.c.ac /\ 2 <= x.r.c.je) := by
 have li : ∀ a : AxV, okAx a -> 1 <= a.sp /\ 1 <= a.ac /\ 2 <= a.je := fun a h => by
  have h1 := h.2.1
  have h2 := h.2.2.1
  have h3 := h.2.2.2.1
  omega
 exact ⟨li _ h.1.2.1, li _ h.1.2.2.1, li _ h.1.2.2.2.1⟩
theorem xmoves {x : ShS} (h : okShop x) {fo ro : Int} (hf : fo ≠ 0) (hr : ro ≠ 0) {m : QM} {lim : Int} (hl : lim <= x.r.ln) (hi : x.inv m lim) (hv : m.v = 0) (ha : m.a = 0) (e1 : m.l = m.u) (e2 : m.p = m.u) (hu : m.u ≠ lim * 256) :
 m.u < (x.nx false fo ro m lim).u := by
 have P := shop_pre h
 have bd := xinv_bd h hi
 have hn : 0 < x.r.sg.length := Classical.byContradiction fun hc => by have := xln0 h hc; omega
 obtain ⟨f1, f2, f3⟩ := one_stop P.2.1 (m.u + 1)
 have hm : qmove m (m.v + (m.a + 1)) = ⟨m.u + 1, 1, 1, m.u, m.u, m.u⟩ := by unfold qmove; rw [hv, ha, e1, e2]; rfl
 have hM := Go.Proofs.YtoekmphdpepdbaaGreat.M_steps h.1
 have ul : m.u < lim * 256 := by omega
 have L := xlim h
 have en : qend (m.u + 1) [[m.u + 1]] = m.u + 1 := rfl
 have ok : qok x.A x.J x.W x.Mo x.r.sg.length (x.T false fo ro) m lim 1 = true := by
  unfold qok
  rw [hm]
  rw [hv, ha]
  show (decide ((0 : Int) <= 0 + (0 + 1)) && (qready x.A x.J (0 + (0 + 1)) (0 + 1) && (qfit x.A x.J x.r.sg.length (x.T false fo ro) ⟨m.u + 1, 1, 1, m.u, m.u, m.u⟩ && qsafe x.A x.J x.W x.Mo ⟨m.u + 1, 1, 1, m.u, m.u, m.u⟩ lim))) = true
  rw [show (0 : Int) + (0 + 1) = 1 from rfl, show (0 : Int) + 1 = 1 from rfl, f2]
  have q1 : qfit x.A x.J x.r.sg.length (x.T false fo ro) ⟨m.u + 1, 1, 1, m.u, m.u, m.u⟩ = true := by
   unfold qfit
   show (qfok x.A x.J 1 1 && (decide (0 < x.r.sg.length) && (decide (1 <= x.T false fo ro (m.u + 1)) && qfl (x.T false fo ro) (m.u + 1) (qfu x.A x.J (m.u + 1) 1 1)))) = true
   rw [f1, f3, decide_eq_true hn, decide_eq_true (xT_pos hf hr _)]
   have t := xT_pos (x := x) hf hr (m.u + 1)
   show (decide ((m.u + 1) - (m.u + 1) <= x.T false fo ro (m.u + 1)) && true) = true
   rw [decide_eq_true (by omega)]; rfl
  have q2 : qsafe x.A x.J x.W x.Mo ⟨m.u + 1, 1, 1, m.u, m.u, m.u⟩ lim = true := by
   unfold qsafe
   show (qfok x.A x.J 1 1 && (decide (qend (m.u + 1) (qfu x.A x.J (m.u + 1) 1 1) <= lim * 256) && x.W (x.Mo (qway ⟨m.u + 1, 1, 1, m.u, m.u, m.u⟩ (qfu x.A x.J (m.u + 1) 1 1))))) = true
   rw [f1, f3, en, decide_eq_true (by omega)]
   have w : x.W (x.Mo (qway ⟨m.u + 1, 1, 1, m.u, m.u, m.u⟩ [[m.u + 1]])) = true := by
    unfold ShS.W ShS.Mo
    exact wth_one L.1 L.2.1 L.2.2 (xM1 hl bd.2.1.1 ul hM.1) (xM1 hl bd.2.1.1 ul hM.2.1) (xM1 hl bd.2.1.1 ul hM.2.2)
   rw [w]; rfl
  rw [q1, q2]; rfl
 obtain ⟨k, hk, k1⟩ := qpick_one (J := x.J) (by have := P.2.1.2.1.1; omega) ok
 show m.u < (qnext x.A x.J x.W x.Mo x.r.sg.length (x.T false fo ro) m lim).u
 unfold qnext
 rw [hk]
 show m.u < m.u + (m.v + (m.a + k))
 omega
end U
