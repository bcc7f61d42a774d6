/-
  Part 4.
  Conditions: none.
-/
import Derived.Test.YtoekmphdpepdbaaPPlannerMotion3
set_option maxRecDepth 100000
set_option maxHeartbeats 400000
set_option linter.unusedVariables false
set_option linter.unusedSimpArgs false
open Go
namespace U
open Go
structure LegS where
 pk : LL
 ln : Int
 a0 : Int
 a1 : Int
 a2 : Int
 bg : Int
def legI (n : Nat) (m : Int) (k : Nat) : Int := if m < 0 then (n : Int) - 1 - (k : Int) else (k : Int)
def legTk (pk : LL) (ln u s a0 a1 a2 n0 n1 n2 : Int) : LL × Int :=
 if u > 0 then tadd pk ln [0, u, s, 0, a0, a1, a2, n0, n1, n2] else (pk, ln)
def legS (m low high : Int) : Int := if m < 0 then high else low
def legPut (b0 b1 b2 m low high e n0 n1 n2 : Int) (x : LegS) : LegS :=
 if low < high then
  ⟨(tadd (legTk x.pk x.ln (slk b0 b1 b2 x.a0 x.a1 x.a2 n0 n1 n2) (legS m low high) x.a0 x.a1 x.a2 n0 n1 n2).1 (legTk x.pk x.ln (slk b0 b1 b2 x.a0 x.a1 x.a2 n0 n1 n2) (legS m low high) x.a0 x.a1 x.a2 n0 n1 n2).2 [0, high - low, legS m low high, m, n0, n1, n2, n0, n1, n2]).1,
   (tadd (legTk x.pk x.ln (slk b0 b1 b2 x.a0 x.a1 x.a2 n0 n1 n2) (legS m low high) x.a0 x.a1 x.a2 n0 n1 n2).1 (legTk x.pk x.ln (slk b0 b1 b2 x.a0 x.a1 x.a2 n0 n1 n2) (legS m low high) x.a0 x.a1 x.a2 n0 n1 n2).2 [0, high - low, legS m low high, m, n0, n1, n2, n0, n1, n2]).2,
   n0, n1, n2, e⟩
 else ⟨x.pk, x.ln, x.a0, x.a1, x.a2, e⟩
def legE (sg : LL) (m bg i : Int) : Int := bg + m * ec sg i.toNat 3
def legLow (bg e f t : Int) : Int := max (min bg e) (min f t)
def legHigh (bg e f t : Int) : Int := min (max bg e) (max f t)
def legSeg (s0 s1 s2 : Int) (sg : LL) (b0 b1 b2 f t m : Int) (x : LegS) (i : Int) : LegS :=
 legPut b0 b1 b2 m (legLow x.bg (legE sg m x.bg i) f t) (legHigh x.bg (legE sg m x.bg i) f t) (legE sg m x.bg i)
  (fc1 (bgn s0 sg 0 i) (ec sg i.toNat 0) m x.a0) (fc1 (bgn s1 sg 1 i) (ec sg i.toNat 1) m x.a1) (fc1 (bgn s2 sg 2 i) (ec sg i.toNat 2) m x.a2) x
def legStep (s0 s1 s2 : Int) (sg : LL) (b0 b1 b2 f t m : Int) (x : LegS) (k : Nat) : LegS := legSeg s0 s1 s2 sg b0 b1 b2 f t m x (legI sg.length m k)
def legK (s0 s1 s2 : Int) (sg : LL) (b0 b1 b2 f t m : Int) (x : LegS) : Nat -> LegS
 | 0 => x
 | k + 1 => legStep s0 s1 s2 sg b0 b1 b2 f t m (legK s0 s1 s2 sg b0 b1 b2 f t m x k) k
def clamp (n v : Int) : Int := min (max v 0) n
def legM (f t : Int) : Int := if t < f then -1 else 1
def leg (s0 s1 s2 : Int) (sg : LL) (b0 b1 b2 d0 d1 d2 f t : Int) : LegS :=
 legK s0 s1 s2 sg b0 b1 b2 f t (legM f t) ⟨[], 0, d0, d1, d2, if legM f t < 0 then plen sg else 0⟩ sg.length
def okB3 (b0 b1 b2 : Int) : Prop := (0 <= b0 /\ b0 <= 4096) /\ (0 <= b1 /\ b1 <= 4096) /\ (0 <= b2 /\ b2 <= 4096)
end U
namespace Go.Proofs.Ytoekmphdpepdbaa
open Go Go.HL U
def SLeg (hA : List HV) (pA : List (List HC)) : SR :=
 match hA, pA with
 | [.agg [.int .i64 s0, .int .i64 s1, .int .i64 s2, .sl false [4, 4, 4, 4, 4, 4, 4] sg, .sl false [4, 4, 4] mk], .agg ax, .agg [.int .i64 d0, .int .i64 d1, .int .i64 d2], .ce (.int .i64 f), .ce (.int .i64 t)], [] =>
  match ax with
  | [.int .i64 sta, .int .i64 spa, .int .i64 aca, .int .i64 jea, .int .i64 loa, .int .i64 hia, .int .i64 bla, .int .i64 oga, .int .i64 sga, .sl false [4] pta, .int .i64 stb, .int .i64 spb, .int .i64 acb, .int .i64 jeb, .int .i64 lob, .int .i64 hib, .int .i64 blb, .int .i64 ogb, .int .i64 sgb, .sl false [4] ptb, .int .i64 stc, .int .i64 spc, .int .i64 acc, .int .i64 jec, .int .i64 loc, .int .i64 hic, .int .i64 blc, .int .i64 ogc, .int .i64 sgc, .sl false [4] ptc] =>
   .all (okLen sg /\ okPts s0 s1 s2 sg /\ okB3 bla blb blc) LegS (fun x => x = leg s0 s1 s2 sg bla blb blc d0 d1 d2 (clamp (plen sg) f) (clamp (plen sg) t))
    (fun x => ⟨.agg [.sl false [4, 4, 4, 4, 4, 4, 4, 4, 4, 4] x.pk, I6 x.ln, I6 (clamp (plen sg) f), I6 d0, I6 d1, I6 d2], false, [], []⟩)
  | _ => .fail
 | _, _ => .fail
def tabLeg : List (FuncId × HL.Spec) := [(28, SPLen), (29, SFacing), (30, SSlack), (31, SAdd)]
def anLeg : LAnn := ⟨[3, 4, 5, 6, 10, 12, 13, 14, 15, 45, 46, 47], [10, 12], [1000005, 1000006, 1000010, 1000012, 1000014], false⟩
def LLeg (v : LV) : LR :=
 match v with
 | ([.ce (.int .i64 f), .ce (.int .i64 t), .ce (.ptr 1000005 0), .ce (.ptr 1000006 0), .ce (.ptr 1000010 0), .ce (.ptr 1000012 0), .ce (.int .i64 m), .ce (.ptr 1000014 0), .ce (.int .i64 bg), .ce (.sl false [4, 4, 4, 4, 4, 4, 4] l), .ce (.int .i64 n), .ce (.int .i64 k)],
  [[.int .i64 s0, .int .i64 s1, .int .i64 s2, .sl false [4, 4, 4, 4, 4, 4, 4] sg, .sl false [4, 4, 4] mk], ax, bz, bt, [.int .i64 a0, .int .i64 a1, .int .i64 a2]]) =>
  match ax with
  | [.int .i64 sta, .int .i64 spa, .int .i64 aca, .int .i64 jea, .int .i64 loa, .int .i64 hia, .int .i64 bla, .int .i64 oga, .int .i64 sga, .sl false [4] pta, .int .i64 stb, .int .i64 spb, .int .i64 acb, .int .i64 jeb, .int .i64 lob, .int .i64 hib, .int .i64 blb, .int .i64 ogb, .int .i64 sgb, .sl false [4] ptb, .int .i64 stc, .int .i64 spc, .int .i64 acc, .int .i64 jec, .int .i64 loc, .int .i64 hic, .int .i64 blc, .int .i64 ogc, .int .i64 sgc, .sl false [4] ptc] => match bz, bt with
   | [.sl true [4, 4, 4, 4, 4, 4, 4, 4, 4, 4] zz, .int .i64 z1, .int .i64 z2, .int .i64 z3, .int .i64 z4, .int .i64 z5], [.mu [4, 4, 4, 4, 4, 4, 4, 4, 4, 4] pk, .int .i64 ln, .int .i64 sa, .int .i64 d0, .int .i64 d1, .int .i64 d2] =>
    .all (n = l.length /\ k = 0 /\ l = sg /\ (m = 1 /\ bg = 0 ∨ m = -1 /\ bg = plen sg) /\ (0 <= f /\ f <= plen sg) /\ (0 <= t /\ t <= plen sg) /\ pk.length = 0 /\ ln = 0 /\ okLen sg /\ okPts s0 s1 s2 sg /\ okB3 bla blb blc) LegS
     (fun x => x = legK s0 s1 s2 sg bla blb blc f t m ⟨[], 0, a0, a1, a2, bg⟩ sg.length) (fun _ => .exit 0)
     (fun x => ([.ce (.ptr 1000010 0), .ce (.ptr 1000012 0)], [[I6 s0, I6 s1, I6 s2, .sl false [4, 4, 4, 4, 4, 4, 4] sg, .sl false [4, 4, 4] mk], [I6 sta, I6 spa, I6 aca, I6 jea, I6 loa, I6 hia, I6 bla, I6 oga, I6 sga, .sl false [4] pta, I6 stb, I6 spb, I6 acb, I6 jeb, I6 lob, I6 hib, I6 blb, I6 ogb, I6 sgb, .sl false [4] ptb, I6 stc, I6 spc, I6 acc, I6 jec, I6 loc, I6 hic, I6 blc, I6 ogc, I6 sgc, .sl false [4] ptc], [.sl true [4, 4, 4, 4, 4, 4, 4, 4, 4, 4] zz, I6 z1, I6 z2, I6 z3, I6 z4, I6 z5], [.mu [4, 4, 4, 4, 4, 4, 4, 4, 4, 4] x.pk, I6 x.ln, I6 sa, I6 d0, I6 d1, I6 d2], [I6 x.a0, I6 x.a1, I6 x.a2]]))
   | _, _ => .fail
  | _ => .fail
 | _ => .fail
noncomputable def CLeg : Ctx := ⟨Try.prog, gam tabLeg, Try.f19.ntmps, [(11, anLeg, LLeg)], [119, spl 10 1000012 0 9]⟩
theorem vbLeg (s0 s1 s2 f t m bg n k a0 a1 a2 z1 z2 z3 z4 z5 ln sa d0 d1 d2 : Int) (sg mk l zz pk : LL) (sta spa aca jea loa hia bla oga sga stb spb acb jeb lob hib blb ogb sgb stc spc acc jec loc hic blc ogc sgc : Int) (pta ptb ptc : LL) (K : HEx -> LV -> Prop) : (nbodyT true CLeg anLeg (nthLoop Try.f19 0) (([.ce (I6 f), .ce (I6 t), .ce (.ptr 1000005 0), .ce (.ptr 1000006 0), .ce (.ptr 1000010 0), .ce (.ptr 1000012 0), .ce (I6 m), .ce (.ptr 1000014 0), .ce (I6 bg), .ce (.sl false [4, 4, 4, 4, 4, 4, 4] l), .ce (I6 n), .ce (I6 k)], [[I6 s0, I6 s1, I6 s2, .sl false [4, 4, 4, 4, 4, 4, 4] sg, .sl false [4, 4, 4] mk], [I6 sta, I6 spa, I6 aca, I6 jea, I6 loa, I6 hia, I6 bla, I6 oga, I6 sga, .sl false [4] pta, I6 stb, I6 spb, I6 acb, I6 jeb, I6 lob, I6 hib, I6 blb, I6 ogb, I6 sgb, .sl false [4] ptb, I6 stc, I6 spc, I6 acc, I6 jec, I6 loc, I6 hic, I6 blc, I6 ogc, I6 sgc, .sl false [4] ptc], [.sl true [4, 4, 4, 4, 4, 4, 4, 4, 4, 4] zz, I6 z1, I6 z2, I6 z3, I6 z4, I6 z5], [.mu [4, 4, 4, 4, 4, 4, 4, 4, 4, 4] pk, I6 ln, I6 sa, I6 d0, I6 d1, I6 d2], [I6 a0, I6 a1, I6 a2]])) K) =
 (Br (k < n) (Br (m < 0) (R6 ((sg.length : Int) - 1) /\ ∀ x1, x1 = (sg.length : Int) - 1 -> R6 (x1 - k) /\ ∀ x2, x2 = x1 - k -> (0 <= x2 /\ x2 < (sg.length : Int)) /\ ∀ x3, x3 = ec sg x2.toNat 3 -> R6 (m * x3) /\ ∀ x4, x4 = m * x3 -> R6 (bg + x4) /\ ∀ x5, x5 = bg + x4 -> ∀ x6, x6 = min bg x5 -> ∀ x7, x7 = min f t -> ∀ x8, x8 = max x6 x7 -> ∀ x9, x9 = max bg x5 -> ∀ x10, x10 = max f t -> ∀ x11, x11 = min x9 x10 -> Br (x8 < x11) (((0 <= x2 /\ x2 < (sg.length : Int)) /\ (m = 1 ∨ m = (-1 : Int)) /\ okPts s0 s1 s2 sg /\ sg.length <= 1073741824) /\
 ∀ x12, x12 = fc1 (bgn s0 sg (0 : Nat) x2) (ec sg x2.toNat 0) m a0 -> ∀ x13, x13 = fc1 (bgn s1 sg (1 : Nat) x2) (ec sg x2.toNat 1) m a1 -> ∀ x14, x14 = fc1 (bgn s2 sg (2 : Nat) x2) (ec sg x2.toNat 2) m a2 -> Br (m < 0) (True /\ ∀ x15, x15 = slk bla blb blc a0 a1 a2 x12 x13 x14 -> Br (x15 > 0) (((-2305843009213693952 <= x15 /\ x15 <= 2305843009213693952) /\ (-2305843009213693952 <= ln /\ ln <= 2305843009213693952) /\ pk.length <= 1000000000000 /\ ∀ (j : Nat), j < pk.length -> -2305843009213693952 <= ec pk j 1 /\ ec pk j 1 <= 2305843009213693952) /\ (∃ (x : LL × Int), x = tadd pk ln [(0 : Int), x15, x11, (0 : Int), a0, a1, a2, x12, x13, x14]) /\ ∀ (x : LL × Int), x = tadd pk ln [(0 : Int), x15, x11, (0 : Int), a0, a1, a2, x12, x13, x14] -> R6 (x11 - x8) /\
 ∀ x18, x18 = x11 - x8 -> ((-2305843009213693952 <= x18 /\ x18 <= 2305843009213693952) /\ ((-2305843009213693952 : Int) <= x.2 /\ x.2 <= 2305843009213693952) /\ List.length x.1 <= 1000000000000 /\ ∀ (j : Nat), j < List.length x.1 -> -2305843009213693952 <= ec x.1 j 1 /\ ec x.1 j 1 <= 2305843009213693952) /\ (∃ (x_1 : LL × Int), x_1 = tadd x.1 x.2 [(0 : Int), x18, x11, m, x12, x13, x14, x12, x13, x14]) /\ ∀ (x_1 : LL × Int), x_1 = tadd x.1 x.2 [(0 : Int), x18, x11, m, x12, x13, x14, x12, x13, x14] -> R6 (k + 1) /\ ∀ x21, x21 = k + 1 -> K .normal ([.ce (I6 f), .ce (I6 t), .ce (.ptr 1000005 0), .ce (.ptr 1000006 0), .ce (.ptr 1000010 0), .ce (.ptr 1000012 0), .ce (I6 m), .ce (.ptr 1000014 0), .ce (I6 x5), .ce (.sl false [4, 4, 4, 4, 4, 4, 4] l), .ce (I6 n), .ce (I6 x21)], [[I6 s0, I6 s1, I6 s2, .sl false [4, 4, 4, 4, 4, 4, 4] sg, .sl false [4, 4, 4] mk], [I6 sta, I6 spa, I6 aca, I6 jea, I6 loa, I6 hia, I6 bla, I6 oga, I6 sga, .sl false [4] pta, I6 stb, I6 spb, I6 acb, I6 jeb, I6 lob, I6 hib, I6 blb, I6 ogb, I6 sgb, .sl false [4] ptb, I6 stc, I6 spc, I6 acc, I6 jec, I6 loc, I6 hic, I6 blc, I6 ogc, I6 sgc, .sl false [4] ptc], [.sl true [4, 4, 4, 4, 4, 4, 4, 4, 4, 4] zz, I6 z1, I6 z2, I6 z3, I6 z4, I6 z5], [.mu [4, 4, 4, 4, 4, 4, 4, 4, 4, 4] x_1.1, I6 x_1.2, I6 sa, I6 d0, I6 d1, I6 d2], [I6 x12, I6 x13, I6 x14]])) (R6 (x11 - x8) /\ ∀ x22, x22 = x11 - x8 -> ((-2305843009213693952 <= x22 /\ x22 <= 2305843009213693952) /\ (-2305843009213693952 <= ln /\ ln <= 2305843009213693952) /\ pk.length <= 1000000000000 /\ ∀ (j : Nat), j < pk.length -> -2305843009213693952 <= ec pk j 1 /\ ec pk j 1 <= 2305843009213693952) /\ (∃ (x : LL × Int), x = tadd pk ln [(0 : Int), x22, x11, m, x12, x13, x14, x12, x13, x14]) /\ ∀ (x : LL × Int), x = tadd pk ln [(0 : Int), x22, x11, m, x12, x13, x14, x12, x13, x14] -> R6 (k + 1) /\ ∀ x25, x25 = k + 1 -> K .normal ([.ce (I6 f), .ce (I6 t), .ce (.ptr 1000005 0), .ce (.ptr 1000006 0), .ce (.ptr 1000010 0), .ce (.ptr 1000012 0), .ce (I6 m), .ce (.ptr 1000014 0), .ce (I6 x5), .ce (.sl false [4, 4, 4, 4, 4, 4, 4] l), .ce (I6 n), .ce (I6 x25)], [[I6 s0, I6 s1, I6 s2, .sl false [4, 4, 4, 4, 4, 4, 4] sg, .sl false [4, 4, 4] mk], [I6 sta, I6 spa, I6 aca, I6 jea, I6 loa, I6 hia, I6 bla, I6 oga, I6 sga, .sl false [4] pta, I6 stb, I6 spb, I6 acb, I6 jeb, I6 lob, I6 hib, I6 blb, I6 ogb, I6 sgb, .sl false [4] ptb, I6 stc, I6 spc, I6 acc, I6 jec, I6 loc, I6 hic, I6 blc, I6 ogc, I6 sgc, .sl false [4] ptc], [.sl true [4, 4, 4, 4, 4, 4, 4, 4, 4, 4] zz, I6 z1, I6 z2, I6 z3, I6 z4, I6 z5], [.mu [4, 4, 4, 4, 4, 4, 4, 4, 4, 4] x.1, I6 x.2, I6 sa, I6 d0, I6 d1, I6 d2], [I6 x12, I6 x13, I6 x14]]))) (True /\ ∀ x26, x26 = slk bla blb blc a0 a1 a2 x12 x13 x14 -> Br (x26 > 0) (((-2305843009213693952 <= x26 /\ x26 <= 2305843009213693952) /\ (-2305843009213693952 <= ln /\ ln <= 2305843009213693952) /\ pk.length <= 1000000000000 /\ ∀ (j : Nat), j < pk.length -> -2305843009213693952 <= ec pk j 1 /\ ec pk j 1 <= 2305843009213693952) /\ (∃ (x : LL × Int), x = tadd pk ln [(0 : Int), x26, x8, (0 : Int), a0, a1, a2, x12, x13, x14]) /\ ∀ (x : LL × Int), x = tadd pk ln [(0 : Int), x26, x8, (0 : Int), a0, a1, a2, x12, x13, x14] -> R6 (x11 - x8) /\ ∀ x29, x29 = x11 - x8 -> ((-2305843009213693952 <= x29 /\ x29 <= 2305843009213693952) /\ ((-2305843009213693952 : Int) <= x.2 /\ x.2 <= 2305843009213693952) /\ List.length x.1 <= 1000000000000 /\
 ∀ (j : Nat), j < List.length x.1 -> -2305843009213693952 <= ec x.1 j 1 /\ ec x.1 j 1 <= 2305843009213693952) /\ (∃ (x_1 : LL × Int), x_1 = tadd x.1 x.2 [(0 : Int), x29, x8, m, x12, x13, x14, x12, x13, x14]) /\ ∀ (x_1 : LL × Int), x_1 = tadd x.1 x.2 [(0 : Int), x29, x8, m, x12, x13, x14, x12, x13, x14] -> R6 (k + 1) /\ ∀ x32, x32 = k + 1 -> K .normal ([.ce (I6 f), .ce (I6 t), .ce (.ptr 1000005 0), .ce (.ptr 1000006 0), .ce (.ptr 1000010 0), .ce (.ptr 1000012 0), .ce (I6 m), .ce (.ptr 1000014 0), .ce (I6 x5), .ce (.sl false [4, 4, 4, 4, 4, 4, 4] l), .ce (I6 n), .ce (I6 x32)], [[I6 s0, I6 s1, I6 s2, .sl false [4, 4, 4, 4, 4, 4, 4] sg, .sl false [4, 4, 4] mk], [I6 sta, I6 spa, I6 aca, I6 jea, I6 loa, I6 hia, I6 bla, I6 oga, I6 sga, .sl false [4] pta, I6 stb, I6 spb, I6 acb, I6 jeb, I6 lob, I6 hib, I6 blb, I6 ogb, I6 sgb, .sl false [4] ptb, I6 stc, I6 spc, I6 acc, I6 jec, I6 loc, I6 hic, I6 blc, I6 ogc, I6 sgc, .sl false [4] ptc], [.sl true [4, 4, 4, 4, 4, 4, 4, 4, 4, 4] zz, I6 z1, I6 z2, I6 z3, I6 z4, I6 z5], [.mu [4, 4, 4, 4, 4, 4, 4, 4, 4, 4] x_1.1, I6 x_1.2, I6 sa, I6 d0, I6 d1, I6 d2], [I6 x12, I6 x13, I6 x14]])) (R6 (x11 - x8) /\ ∀ x33, x33 = x11 - x8 -> ((-2305843009213693952 <= x33 /\ x33 <= 2305843009213693952) /\ (-2305843009213693952 <= ln /\ ln <= 2305843009213693952) /\ pk.length <= 1000000000000 /\ ∀ (j : Nat), j < pk.length -> -2305843009213693952 <= ec pk j 1 /\ ec pk j 1 <= 2305843009213693952) /\ (∃ (x : LL × Int), x = tadd pk ln [(0 : Int), x33, x8, m, x12, x13, x14, x12, x13, x14]) /\ ∀ (x : LL × Int), x = tadd pk ln [(0 : Int), x33, x8, m, x12, x13, x14, x12, x13, x14] -> R6 (k + 1) /\ ∀ x36, x36 = k + 1 -> K .normal ([.ce (I6 f), .ce (I6 t), .ce (.ptr 1000005 0), .ce (.ptr 1000006 0), .ce (.ptr 1000010 0), .ce (.ptr 1000012 0), .ce (I6 m), .ce (.ptr 1000014 0), .ce (I6 x5), .ce (.sl false [4, 4, 4, 4, 4, 4, 4] l), .ce (I6 n), .ce (I6 x36)], [[I6 s0, I6 s1, I6 s2, .sl false [4, 4, 4, 4, 4, 4, 4] sg, .sl false [4, 4, 4] mk], [I6 sta, I6 spa, I6 aca, I6 jea, I6 loa, I6 hia, I6 bla, I6 oga, I6 sga, .sl false [4] pta, I6 stb, I6 spb, I6 acb, I6 jeb, I6 lob, I6 hib, I6 blb, I6 ogb, I6 sgb, .sl false [4] ptb, I6 stc, I6 spc, I6 acc, I6 jec, I6 loc, I6 hic, I6 blc, I6 ogc, I6 sgc, .sl false [4] ptc], [.sl true [4, 4, 4, 4, 4, 4, 4, 4, 4, 4] zz, I6 z1, I6 z2, I6 z3, I6 z4, I6 z5], [.mu [4, 4, 4, 4, 4, 4, 4, 4, 4, 4] x.1, I6 x.2, I6 sa, I6 d0, I6 d1, I6 d2], [I6 x12, I6 x13, I6 x14]])))) (R6 (k + 1) /\ ∀ x37, x37 = k + 1 -> K .normal ([.ce (I6 f), .ce (I6 t), .ce (.ptr 1000005 0), .ce (.ptr 1000006 0), .ce (.ptr 1000010 0), .ce (.ptr 1000012 0), .ce (I6 m), .ce (.ptr 1000014 0), .ce (I6 x5), .ce (.sl false [4, 4, 4, 4, 4, 4, 4] l), .ce (I6 n), .ce (I6 x37)], [[I6 s0, I6 s1, I6 s2, .sl false [4, 4, 4, 4, 4, 4, 4] sg, .sl false [4, 4, 4] mk], [I6 sta, I6 spa, I6 aca, I6 jea, I6 loa, I6 hia, I6 bla, I6 oga, I6 sga, .sl false [4] pta, I6 stb, I6 spb, I6 acb, I6 jeb, I6 lob, I6 hib, I6 blb, I6 ogb, I6 sgb, .sl false [4] ptb, I6 stc, I6 spc, I6 acc, I6 jec, I6 loc, I6 hic, I6 blc, I6 ogc, I6 sgc, .sl false [4] ptc], [.sl true [4, 4, 4, 4, 4, 4, 4, 4, 4, 4] zz, I6 z1, I6 z2, I6 z3, I6 z4, I6 z5], [.mu [4, 4, 4, 4, 4, 4, 4, 4, 4, 4] pk, I6 ln, I6 sa, I6 d0, I6 d1, I6 d2], [I6 a0, I6 a1, I6 a2]]))) ((0 <= k /\ k < (sg.length : Int)) /\ ∀ x38, x38 = ec sg k.toNat 3 -> R6 (m * x38) /\ ∀ x39, x39 = m * x38 -> R6 (bg + x39) /\ ∀ x40, x40 = bg + x39 -> ∀ x41, x41 = min bg x40 -> ∀ x42, x42 = min f t -> ∀ x43, x43 = max x41 x42 -> ∀ x44, x44 = max bg x40 -> ∀ x45, x45 = max f t -> ∀ x46, x46 = min x44 x45 -> Br (x43 < x46) (((0 <= k /\ k < (sg.length : Int)) /\ (m = 1 ∨ m = (-1 : Int)) /\ okPts s0 s1 s2 sg /\ sg.length <= 1073741824) /\ ∀ x47, x47 = fc1 (bgn s0 sg (0 : Nat) k) (ec sg k.toNat 0) m a0 -> ∀ x48, x48 = fc1 (bgn s1 sg (1 : Nat) k) (ec sg k.toNat 1) m a1 -> ∀ x49, x49 = fc1 (bgn s2 sg (2 : Nat) k) (ec sg k.toNat 2) m a2 -> Br (m < 0) (True /\ ∀ x50, x50 = slk bla blb blc a0 a1 a2 x47 x48 x49 -> Br (x50 > 0) (((-2305843009213693952 <= x50 /\ x50 <= 2305843009213693952) /\ (-2305843009213693952 <= ln /\ ln <= 2305843009213693952) /\ pk.length <= 1000000000000 /\ ∀ (j : Nat), j < pk.length -> -2305843009213693952 <= ec pk j 1 /\ ec pk j 1 <= 2305843009213693952) /\ (∃ (x : LL × Int), x = tadd pk ln [(0 : Int), x50, x46, (0 : Int), a0, a1, a2, x47, x48, x49]) /\ ∀ (x : LL × Int), x = tadd pk ln [(0 : Int), x50, x46, (0 : Int), a0, a1, a2, x47, x48, x49] -> R6 (x46 - x43) /\ ∀ x53, x53 = x46 - x43 -> ((-2305843009213693952 <= x53 /\ x53 <= 2305843009213693952) /\ ((-2305843009213693952 : Int) <= x.2 /\ x.2 <= 2305843009213693952) /\ List.length x.1 <= 1000000000000 /\ ∀ (j : Nat), j < List.length x.1 ->
 -2305843009213693952 <= ec x.1 j 1 /\ ec x.1 j 1 <= 2305843009213693952) /\ (∃ (x_1 : LL × Int), x_1 = tadd x.1 x.2 [(0 : Int), x53, x46, m, x47, x48, x49, x47, x48, x49]) /\ ∀ (x_1 : LL × Int), x_1 = tadd x.1 x.2 [(0 : Int), x53, x46, m, x47, x48, x49, x47, x48, x49] -> R6 (k + 1) /\ ∀ x56, x56 = k + 1 -> K .normal ([.ce (I6 f), .ce (I6 t), .ce (.ptr 1000005 0), .ce (.ptr 1000006 0), .ce (.ptr 1000010 0), .ce (.ptr 1000012 0), .ce (I6 m), .ce (.ptr 1000014 0), .ce (I6 x40), .ce (.sl false [4, 4, 4, 4, 4, 4, 4] l), .ce (I6 n), .ce (I6 x56)], [[I6 s0, I6 s1, I6 s2, .sl false [4, 4, 4, 4, 4, 4, 4] sg, .sl false [4, 4, 4] mk], [I6 sta, I6 spa, I6 aca, I6 jea, I6 loa, I6 hia, I6 bla, I6 oga, I6 sga, .sl false [4] pta, I6 stb, I6 spb, I6 acb, I6 jeb, I6 lob, I6 hib, I6 blb, I6 ogb, I6 sgb, .sl false [4] ptb, I6 stc, I6 spc, I6 acc, I6 jec, I6 loc, I6 hic, I6 blc, I6 ogc, I6 sgc, .sl false [4] ptc], [.sl true [4, 4, 4, 4, 4, 4, 4, 4, 4, 4] zz, I6 z1, I6 z2, I6 z3, I6 z4, I6 z5], [.mu [4, 4, 4, 4, 4, 4, 4, 4, 4, 4] x_1.1, I6 x_1.2, I6 sa, I6 d0, I6 d1, I6 d2], [I6 x47, I6 x48, I6 x49]])) (R6 (x46 - x43) /\ ∀ x57, x57 = x46 - x43 -> ((-2305843009213693952 <= x57 /\ x57 <= 2305843009213693952) /\ (-2305843009213693952 <= ln /\ ln <= 2305843009213693952) /\ pk.length <= 1000000000000 /\ ∀ (j : Nat), j < pk.length -> -2305843009213693952 <= ec pk j 1 /\ ec pk j 1 <= 2305843009213693952) /\ (∃ (x : LL × Int), x = tadd pk ln [(0 : Int), x57, x46, m, x47, x48, x49, x47, x48, x49]) /\ ∀ (x : LL × Int), x = tadd pk ln [(0 : Int), x57, x46, m, x47, x48, x49, x47, x48, x49] -> R6 (k + 1) /\ ∀ x60, x60 = k + 1 -> K .normal ([.ce (I6 f), .ce (I6 t), .ce (.ptr 1000005 0), .ce (.ptr 1000006 0), .ce (.ptr 1000010 0), .ce (.ptr 1000012 0), .ce (I6 m), .ce (.ptr 1000014 0), .ce (I6 x40), .ce (.sl false [4, 4, 4, 4, 4, 4, 4] l), .ce (I6 n), .ce (I6 x60)], [[I6 s0, I6 s1, I6 s2, .sl false [4, 4, 4, 4, 4, 4, 4] sg, .sl false [4, 4, 4] mk], [I6 sta, I6 spa, I6 aca, I6 jea, I6 loa, I6 hia, I6 bla, I6 oga, I6 sga, .sl false [4] pta, I6 stb, I6 spb, I6 acb, I6 jeb, I6 lob, I6 hib, I6 blb, I6 ogb, I6 sgb, .sl false [4] ptb, I6 stc, I6 spc, I6 acc, I6 jec, I6 loc, I6 hic, I6 blc, I6 ogc, I6 sgc, .sl false [4] ptc], [.sl true [4, 4, 4, 4, 4, 4, 4, 4, 4, 4] zz, I6 z1, I6 z2, I6 z3, I6 z4, I6 z5], [.mu [4, 4, 4, 4, 4, 4, 4, 4, 4, 4] x.1, I6 x.2, I6 sa, I6 d0, I6 d1, I6 d2], [I6 x47, I6 x48, I6 x49]]))) (True /\ ∀ x61, x61 = slk bla blb blc a0 a1 a2 x47 x48 x49 -> Br (x61 > 0) (((-2305843009213693952 <= x61 /\ x61 <= 2305843009213693952) /\ (-2305843009213693952 <= ln /\ ln <= 2305843009213693952) /\ pk.length <= 1000000000000 /\ ∀ (j : Nat), j < pk.length -> -2305843009213693952 <= ec pk j 1 /\ ec pk j 1 <= 2305843009213693952) /\ (∃ (x : LL × Int), x = tadd pk ln [(0 : Int), x61, x43, (0 : Int), a0, a1, a2, x47, x48, x49]) /\ ∀ (x : LL × Int), x = tadd pk ln [(0 : Int), x61, x43, (0 : Int), a0, a1, a2, x47, x48, x49] -> R6 (x46 - x43) /\ ∀ x64, x64 = x46 - x43 -> ((-2305843009213693952 <= x64 /\ x64 <= 2305843009213693952) /\ ((-2305843009213693952 : Int) <= x.2 /\ x.2 <= 2305843009213693952) /\ List.length x.1 <= 1000000000000 /\
 ∀ (j : Nat), j < List.length x.1 -> -2305843009213693952 <= ec x.1 j 1 /\ ec x.1 j 1 <= 2305843009213693952) /\ (∃ (x_1 : LL × Int), x_1 = tadd x.1 x.2 [(0 : Int), x64, x43, m, x47, x48, x49, x47, x48, x49]) /\ ∀ (x_1 : LL × Int), x_1 = tadd x.1 x.2 [(0 : Int), x64, x43, m, x47, x48, x49, x47, x48, x49] -> R6 (k + 1) /\ ∀ x67, x67 = k + 1 -> K .normal ([.ce (I6 f), .ce (I6 t), .ce (.ptr 1000005 0), .ce (.ptr 1000006 0), .ce (.ptr 1000010 0), .ce (.ptr 1000012 0), .ce (I6 m), .ce (.ptr 1000014 0), .ce (I6 x40), .ce (.sl false [4, 4, 4, 4, 4, 4, 4] l), .ce (I6 n), .ce (I6 x67)], [[I6 s0, I6 s1, I6 s2, .sl false [4, 4, 4, 4, 4, 4, 4] sg, .sl false [4, 4, 4] mk], [I6 sta, I6 spa, I6 aca, I6 jea, I6 loa, I6 hia, I6 bla, I6 oga, I6 sga, .sl false [4] pta, I6 stb, I6 spb, I6 acb, I6 jeb, I6 lob, I6 hib, I6 blb, I6 ogb, I6 sgb, .sl false [4] ptb, I6 stc, I6 spc, I6 acc, I6 jec, I6 loc, I6 hic, I6 blc, I6 ogc, I6 sgc, .sl false [4] ptc], [.sl true [4, 4, 4, 4, 4, 4, 4, 4, 4, 4] zz, I6 z1, I6 z2, I6 z3, I6 z4, I6 z5], [.mu [4, 4, 4, 4, 4, 4, 4, 4, 4, 4] x_1.1, I6 x_1.2, I6 sa, I6 d0, I6 d1, I6 d2], [I6 x47, I6 x48, I6 x49]])) (R6 (x46 - x43) /\ ∀ x68, x68 = x46 - x43 -> ((-2305843009213693952 <= x68 /\ x68 <= 2305843009213693952) /\ (-2305843009213693952 <= ln /\ ln <= 2305843009213693952) /\ pk.length <= 1000000000000 /\ ∀ (j : Nat), j < pk.length -> -2305843009213693952 <= ec pk j 1 /\ ec pk j 1 <= 2305843009213693952) /\ (∃ (x : LL × Int), x = tadd pk ln [(0 : Int), x68, x43, m, x47, x48, x49, x47, x48, x49]) /\ ∀ (x : LL × Int), x = tadd pk ln [(0 : Int), x68, x43, m, x47, x48, x49, x47, x48, x49] -> R6 (k + 1) /\ ∀ x71, x71 = k + 1 -> K .normal ([.ce (I6 f), .ce (I6 t), .ce (.ptr 1000005 0), .ce (.ptr 1000006 0), .ce (.ptr 1000010 0), .ce (.ptr 1000012 0), .ce (I6 m), .ce (.ptr 1000014 0), .ce (I6 x40), .ce (.sl false [4, 4, 4, 4, 4, 4, 4] l), .ce (I6 n), .ce (I6 x71)], [[I6 s0, I6 s1, I6 s2, .sl false [4, 4, 4, 4, 4, 4, 4] sg, .sl false [4, 4, 4] mk], [I6 sta, I6 spa, I6 aca, I6 jea, I6 loa, I6 hia, I6 bla, I6 oga, I6 sga, .sl false [4] pta, I6 stb, I6 spb, I6 acb, I6 jeb, I6 lob, I6 hib, I6 blb, I6 ogb, I6 sgb, .sl false [4] ptb, I6 stc, I6 spc, I6 acc, I6 jec, I6 loc, I6 hic, I6 blc, I6 ogc, I6 sgc, .sl false [4] ptc], [.sl true [4, 4, 4, 4, 4, 4, 4, 4, 4, 4] zz, I6 z1, I6 z2, I6 z3, I6 z4, I6 z5], [.mu [4, 4, 4, 4, 4, 4, 4, 4, 4, 4] x.1, I6 x.2, I6 sa, I6 d0, I6 d1, I6 d2], [I6 x47, I6 x48, I6 x49]])))) (R6 (k + 1) /\ ∀ x72, x72 = k + 1 -> K .normal ([.ce (I6 f), .ce (I6 t), .ce (.ptr 1000005 0), .ce (.ptr 1000006 0), .ce (.ptr 1000010 0), .ce (.ptr 1000012 0), .ce (I6 m), .ce (.ptr 1000014 0), .ce (I6 x40), .ce (.sl false [4, 4, 4, 4, 4, 4, 4] l), .ce (I6 n), .ce (I6 x72)], [[I6 s0, I6 s1, I6 s2, .sl false [4, 4, 4, 4, 4, 4, 4] sg, .sl false [4, 4, 4] mk], [I6 sta, I6 spa, I6 aca, I6 jea, I6 loa, I6 hia, I6 bla, I6 oga, I6 sga, .sl false [4] pta, I6 stb, I6 spb, I6 acb, I6 jeb, I6 lob, I6 hib, I6 blb, I6 ogb, I6 sgb, .sl false [4] ptb, I6 stc, I6 spc, I6 acc, I6 jec, I6 loc, I6 hic, I6 blc, I6 ogc, I6 sgc, .sl false [4] ptc], [.sl true [4, 4, 4, 4, 4, 4, 4, 4, 4, 4] zz, I6 z1, I6 z2, I6 z3, I6 z4, I6 z5], [.mu [4, 4, 4, 4, 4, 4, 4, 4, 4, 4] pk, I6 ln, I6 sa, I6 d0, I6 d1, I6 d2], [I6 a0, I6 a1, I6 a2]])))) (K (.exit 0) ([.ce (.ptr 1000010 0), .ce (.ptr 1000012 0)], [[I6 s0, I6 s1, I6 s2, .sl false [4, 4, 4, 4, 4, 4, 4] sg, .sl false [4, 4, 4] mk], [I6 sta, I6 spa, I6 aca, I6 jea, I6 loa, I6 hia, I6 bla, I6 oga, I6 sga, .sl false [4] pta, I6 stb, I6 spb, I6 acb, I6 jeb, I6 lob, I6 hib, I6 blb, I6 ogb, I6 sgb, .sl false [4] ptb, I6 stc, I6 spc, I6 acc, I6 jec, I6 loc, I6 hic, I6 blc, I6 ogc, I6 sgc, .sl false [4] ptc], [.sl true [4, 4, 4, 4, 4, 4, 4, 4, 4, 4] zz, I6 z1, I6 z2, I6 z3, I6 z4, I6 z5], [.mu [4, 4, 4, 4, 4, 4, 4, 4, 4, 4] pk, I6 ln, I6 sa, I6 d0, I6 d1, I6 d2], [I6 a0, I6 a1, I6 a2]]))) := by kernel_rfl
theorem vcLeg (s0 s1 s2 f t d0 d1 d2 : Int) (sg mk : LL) (sta spa aca jea loa hia bla oga sga stb spb acb jeb lob hib blb ogb sgb stc spc acc jec loc hic blc ogc sgc : Int) (pta ptb ptc : LL) (Q : Res -> Prop) : (nfun true CLeg Try.f19 (bodyOf Try.f19) [.agg [I6 s0, I6 s1, I6 s2, .sl false [4, 4, 4, 4, 4, 4, 4] sg, .sl false [4, 4, 4] mk], .agg [I6 sta, I6 spa, I6 aca, I6 jea, I6 loa, I6 hia, I6 bla, I6 oga, I6 sga, .sl false [4] pta, I6 stb, I6 spb, I6 acb, I6 jeb, I6 lob, I6 hib, I6 blb, I6 ogb, I6 sgb, .sl false [4] ptb, I6 stc, I6 spc, I6 acc, I6 jec, I6 loc, I6 hic, I6 blc, I6 ogc, I6 sgc, .sl false [4] ptc], .agg [I6 d0, I6 d1, I6 d2], .ce (I6 f), .ce (I6 t)] [] Q) =
 (okLen sg /\ ∀ x1, x1 = plen sg -> ∀ x2, x2 = max f 0 -> ∀ x3, x3 = min x2 x1 -> ∀ x4, x4 = max t 0 -> ∀ x5, x5 = min x4 x1 -> Br (x5 < x3) (((sg.length : Int) = (sg.length : Int) /\ (0 : Int) = 0 /\ sg = sg /\ ((-1 : Int) = 1 /\ x1 = 0 ∨ (-1 : Int) = (-1 : Int) /\ x1 = plen sg) /\ (0 <= x3 /\ x3 <= plen sg) /\ (0 <= x5 /\ x5 <= plen sg) /\ (0 : Nat) = 0 /\ (0 : Int) = 0 /\ okLen sg /\ okPts s0 s1 s2 sg /\ okB3 bla blb blc) /\ ∀ (x : LegS), x = legK s0 s1 s2 sg bla blb blc x3 x5 (-1 : Int) { pk := [], ln := (0 : Int), a0 := d0, a1 := d1, a2 := d2, bg := x1 } (sg.length) -> Q ⟨.agg [.sl false [4, 4, 4, 4, 4, 4, 4, 4, 4, 4] x.pk, I6 x.ln, I6 x3, I6 d0, I6 d1, I6 d2], false, [], []⟩) (((sg.length : Int) = (sg.length : Int) /\ (0 : Int) = 0 /\
 sg = sg /\ ((1 : Int) = 1 /\ (0 : Int) = 0 ∨ (1 : Int) = (-1 : Int) /\ (0 : Int) = plen sg) /\ (0 <= x3 /\ x3 <= plen sg) /\ (0 <= x5 /\ x5 <= plen sg) /\ (0 : Nat) = 0 /\ (0 : Int) = 0 /\ okLen sg /\ okPts s0 s1 s2 sg /\ okB3 bla blb blc) /\ ∀ (x : LegS), x = legK s0 s1 s2 sg bla blb blc x3 x5 (1 : Int) { pk := [], ln := (0 : Int), a0 := d0, a1 := d1, a2 := d2, bg := (0 : Int) } (sg.length) -> Q ⟨.agg [.sl false [4, 4, 4, 4, 4, 4, 4, 4, 4, 4] x.pk, I6 x.ln, I6 x3, I6 d0, I6 d1, I6 d2], false, [], []⟩)) := by kernel_rfl
end Go.Proofs.Ytoekmphdpepdbaa
namespace U
theorem slk_bd {b0 b1 b2 : Int} (h : okB3 b0 b1 b2) (w0 w1 w2 d0 d1 d2 : Int) : 0 <= slk b0 b1 b2 w0 w1 w2 d0 d1 d2 /\ slk b0 b1 b2 w0 w1 w2 d0 d1 d2 <= 4096 := by
 unfold okB3 at h
 unfold slk sl1
 split <;> split <;> split <;> omega
def unitsOK (pk : LL) (ln : Int) : Prop := ∀ j, j < pk.length -> 0 <= ec pk j 1 /\ ec pk j 1 <= ln
theorem ec_set (pk : LL) (i j c : Nat) (r : List Int) (hi : i < pk.length) : ec (pk.set i r) j c = if i = j then r.getD c 0 else ec pk j c := by
 unfold ec
 simp only [List.getD_eq_getElem?_getD, List.getElem?_set]
 split
 . rename_i e; subst e; rfl
 . rfl
theorem ec_app (a b : LL) (j c : Nat) : ec (a ++ b) j c = if j < a.length then ec a j c else ec b (j - a.length) c := by
 unfold ec
 simp only [List.getD_eq_getElem?_getD, List.getElem?_append]
 split <;> rfl
theorem tadd_inv {pk : LL} {ln : Int} {q : List Int} (hl : 0 <= ln) (hu : unitsOK pk ln) (h1 : 0 <= q.getD 1 0) :
 (tadd pk ln q).2 = ln + q.getD 1 0 /\ (tadd pk ln q).1.length <= pk.length + 1 /\ unitsOK (tadd pk ln q).1 (ln + q.getD 1 0) := by
 unfold tadd
 split
 . rename_i h
   refine ⟨rfl, by simp, fun j hj => ?_⟩
   dsimp only at hj ⊢
   rw [List.length_set] at hj
   rw [ec_set _ _ _ _ _ (by omega)]
   split
   . have := hu (pk.length - 1) (by omega)
     have e : (more (pk.getD (pk.length - 1) []) (q.getD 1 0)).getD 1 0 = ec pk (pk.length - 1) 1 + q.getD 1 0 := rfl
     rw [e]
     omega
   . have := hu j hj
     omega
 . refine ⟨rfl, by simp, fun j hj => ?_⟩
   dsimp only at hj ⊢
   rw [List.length_append] at hj
   rw [ec_app]
   split
   . rename_i h; have := hu j h; omega
   . rename_i h
     have : j - pk.length = 0 := by simp at hj; omega
     rw [this]
     have e : ec [[ln, q.getD 1 0, q.getD 2 0, q.getD 3 0, q.getD 4 0, q.getD 5 0, q.getD 6 0, q.getD 7 0, q.getD 8 0, q.getD 9 0]] 0 1 = q.getD 1 0 := rfl
     rw [e]
     omega
def legJ (sg : LL) (m : Int) (k : Nat) (x : LegS) : Prop :=
 (0 <= x.ln /\ x.ln <= 8589934592 * (k : Int)) /\ x.pk.length <= 2 * k /\ unitsOK x.pk x.ln /\ (m = 1 -> x.bg = plen (sg.take k)) /\ (m = -1 -> x.bg = plen (sg.take (sg.length - k)))
theorem legI_bd {n : Nat} {m : Int} {k : Nat} (hk : k < n) : 0 <= legI n m k /\ legI n m k < n := by unfold legI; split <;> omega
theorem legE_next {sg : LL} {m bg : Int} {k : Nat} (hk : k < sg.length) (h1 : m = 1 -> bg = plen (sg.take k)) (h2 : m = -1 -> bg = plen (sg.take (sg.length - k))) :
 (m = 1 -> legE sg m bg (legI sg.length m k) = plen (sg.take (k + 1))) /\ (m = -1 -> legE sg m bg (legI sg.length m k) = plen (sg.take (sg.length - (k + 1)))) := by
 unfold legE legI
 refine ⟨fun e => ?_, fun e => ?_⟩
 . rw [h1 e, e, if_neg (by decide), plen_next sg hk]
   have : ((k : Int)).toNat = k := rfl
   rw [this]; omega
 . rw [h2 e, e, if_pos (by decide)]
   have e1 : ((sg.length : Int) - 1 - (k : Int)).toNat = sg.length - (k + 1) := by omega
   rw [e1, show sg.length - k = sg.length - (k + 1) + 1 by omega, plen_next sg (by omega)]
   omega
theorem legJ_seg {s0 s1 s2 : Int} {sg : LL} {b0 b1 b2 f t m : Int} {x : LegS} {k : Nat} (hl : okLen sg) (hb : okB3 b0 b1 b2) (hm : m = 1 ∨ m = -1) (hk : k < sg.length) (h : legJ sg m k x) :
 legJ sg m (k + 1) (legStep s0 s1 s2 sg b0 b1 b2 f t m x k) := by
 obtain ⟨h1, h2, h3, h4, h5⟩ := h
 have hE := legE_next (m := m) hk h4 h5
 have hi := legI_bd (m := m) hk
 have hlen := hl.2 (legI sg.length m k).toNat (by omega)
 have hd : legHigh x.bg (legE sg m x.bg (legI sg.length m k)) f t - legLow x.bg (legE sg m x.bg (legI sg.length m k)) f t <= 4294967296 := by
  unfold legHigh legLow legE
  rcases hm with rfl | rfl <;> omega
 unfold legStep legSeg
 generalize legLow x.bg (legE sg m x.bg (legI sg.length m k)) f t = low at *
 generalize legHigh x.bg (legE sg m x.bg (legI sg.length m k)) f t = high at *
 generalize legE sg m x.bg (legI sg.length m k) = e at *
 generalize fc1 (bgn s0 sg 0 (legI sg.length m k)) (ec sg (legI sg.length m k).toNat 0) m x.a0 = n0
 generalize fc1 (bgn s1 sg 1 (legI sg.length m k)) (ec sg (legI sg.length m k).toNat 1) m x.a1 = n1
 generalize fc1 (bgn s2 sg 2 (legI sg.length m k)) (ec sg (legI sg.length m k).toNat 2) m x.a2 = n2
 unfold legPut
 split
 . rename_i hlh
   have hs := slk_bd hb x.a0 x.a1 x.a2 n0 n1 n2
   have htk : 0 <= (legTk x.pk x.ln (slk b0 b1 b2 x.a0 x.a1 x.a2 n0 n1 n2) (legS m low high) x.a0 x.a1 x.a2 n0 n1 n2).2 /\ (legTk x.pk x.ln (slk b0 b1 b2 x.a0 x.a1 x.a2 n0 n1 n2) (legS m low high) x.a0 x.a1 x.a2 n0 n1 n2).2 <= x.ln + 4096 /\
    (legTk x.pk x.ln (slk b0 b1 b2 x.a0 x.a1 x.a2 n0 n1 n2) (legS m low high) x.a0 x.a1 x.a2 n0 n1 n2).1.length <= x.pk.length + 1 /\
    unitsOK (legTk x.pk x.ln (slk b0 b1 b2 x.a0 x.a1 x.a2 n0 n1 n2) (legS m low high) x.a0 x.a1 x.a2 n0 n1 n2).1 (legTk x.pk x.ln (slk b0 b1 b2 x.a0 x.a1 x.a2 n0 n1 n2) (legS m low high) x.a0 x.a1 x.a2 n0 n1 n2).2 := by
    generalize slk b0 b1 b2 x.a0 x.a1 x.a2 n0 n1 n2 = u at *
    unfold legTk
    split
    . obtain ⟨a1, a2, a3⟩ := tadd_inv (q := [0, u, legS m low high, 0, x.a0, x.a1, x.a2, n0, n1, n2]) h1.1 h3 hs.1
      rw [<- a1] at a3
      have a1 : (tadd x.pk x.ln [0, u, legS m low high, 0, x.a0, x.a1, x.a2, n0, n1, n2]).2 = x.ln + u := a1
      exact ⟨by omega, by omega, a2, a3⟩
    . exact ⟨h1.1, by dsimp only; omega, by dsimp only; omega, h3⟩
   generalize legTk x.pk x.ln (slk b0 b1 b2 x.a0 x.a1 x.a2 n0 n1 n2) (legS m low high) x.a0 x.a1 x.a2 n0 n1 n2 = y at *
   obtain ⟨y1, y2, y3, y4⟩ := htk
   obtain ⟨a1, a2, a3⟩ := tadd_inv (q := [0, high - low, legS m low high, m, n0, n1, n2, n0, n1, n2]) y1 y4 (by show 0 <= high - low; omega)
   rw [<- a1] at a3
   have a1 : (tadd y.1 y.2 [0, high - low, legS m low high, m, n0, n1, n2, n0, n1, n2]).2 = y.2 + (high - low) := a1
   refine ⟨⟨by dsimp only; omega, by dsimp only; omega⟩, by dsimp only; omega, a3, hE.1, hE.2⟩
 . exact ⟨⟨h1.1, by dsimp only; omega⟩, by dsimp only; omega, h3, hE.1, hE.2⟩
theorem legJ_all {s0 s1 s2 : Int} {sg : LL} {b0 b1 b2 f t m : Int} {x : LegS} (hl : okLen sg) (hb : okB3 b0 b1 b2) (hm : m = 1 ∨ m = -1) (h : legJ sg m 0 x) : ∀ k, k <= sg.length -> legJ sg m k (legK s0 s1 s2 sg b0 b1 b2 f t m x k) := by
 intro k
 induction k with
 | zero => intro _; exact h
 | succ k ih => intro hk; exact legJ_seg hl hb hm (by omega) (ih (by omega))
end U
namespace Go.Proofs.Ytoekmphdpepdbaa
open Go Go.HL U
attribute [local irreducible] hfun bodyT fragT
set_option maxHeartbeats 4000000 in
theorem legMain (s0 s1 s2 f t m bg n k i a0 a1 a2 z1 z2 z3 z4 z5 ln sa d0 d1 d2 : Int) (sg mk l zz pk : LL) (sta spa aca jea loa hia bla oga sga stb spb acb jeb lob hib blb ogb sgb stc spc acc jec loc hic blc ogc sgc : Int) (pta ptb ptc : LL) (K : HEx -> LV -> Prop)
 (hi : 0 <= i /\ i < sg.length) (hl : okLen sg) (hp : okPts s0 s1 s2 sg) (hb : okB3 bla blb blc) (hm : m = 1 ∨ m = -1) (hk : 0 <= k /\ k <= 1048576) (hbg : 0 <= bg /\ bg <= 4503599627370496) (hE : 0 <= legE sg m bg i /\ legE sg m bg i <= 4503599627370496)
 (J1 : 0 <= ln /\ ln <= 9007199254740992) (J2 : pk.length <= 4194304) (J3 : unitsOK pk ln)
 (fin : ∀ y : LegS, y = legSeg s0 s1 s2 sg bla blb blc f t m ⟨pk, ln, a0, a1, a2, bg⟩ i -> ∀ z : Int, z = k + 1 ->
  K .normal ([.ce (I6 f), .ce (I6 t), .ce (.ptr 1000005 0), .ce (.ptr 1000006 0), .ce (.ptr 1000010 0), .ce (.ptr 1000012 0), .ce (I6 m), .ce (.ptr 1000014 0), .ce (I6 y.bg), .ce (.sl false [4, 4, 4, 4, 4, 4, 4] l), .ce (I6 n), .ce (I6 z)],
  [[I6 s0, I6 s1, I6 s2, .sl false [4, 4, 4, 4, 4, 4, 4] sg, .sl false [4, 4, 4] mk], [I6 sta, I6 spa, I6 aca, I6 jea, I6 loa, I6 hia, I6 bla, I6 oga, I6 sga, .sl false [4] pta, I6 stb, I6 spb, I6 acb, I6 jeb, I6 lob, I6 hib, I6 blb, I6 ogb, I6 sgb, .sl false [4] ptb, I6 stc, I6 spc, I6 acc, I6 jec, I6 loc, I6 hic, I6 blc, I6 ogc, I6 sgc, .sl false [4] ptc], [.sl true [4, 4, 4, 4, 4, 4, 4, 4, 4, 4] zz, I6 z1, I6 z2, I6 z3, I6 z4, I6 z5], [.mu [4, 4, 4, 4, 4, 4, 4, 4, 4, 4] y.pk, I6 y.ln, I6 sa, I6 d0, I6 d1, I6 d2], [I6 y.a0, I6 y.a1, I6 y.a2]])) :
 ((0 : Int) <= i /\ i < (((List.length sg) : Nat) : Int)) /\ ∀ (x38 : Int), x38 = ec sg (Int.toNat i) ((3 : Nat)) -> ((-9223372036854775808 : Int) <= m * x38 /\ m * x38 <= (9223372036854775807 : Int)) /\ ∀ (x39 : Int), x39 = m * x38 -> ((-9223372036854775808 : Int) <= bg + x39 /\ bg + x39 <= (9223372036854775807 : Int)) /\ ∀ (x40 : Int), x40 = bg + x39 -> ∀ (x41 : Int), x41 = min bg x40 -> ∀ (x42 : Int), x42 = min f t -> ∀ (x43 : Int), x43 = max x41 x42 -> ∀ (x44 : Int), x44 = max bg x40 -> ∀ (x45 : Int), x45 = max f t -> ∀ (x46 : Int), x46 = min x44 x45 -> (decide (x43 < x46) = true -> (((0 : Int) <= i /\ i < (((List.length sg) : Nat) : Int)) /\ (m = (1 : Int) ∨ m = (-1 : Int)) /\ okPts s0 s1 s2 sg /\ List.length sg <= (1073741824 : Nat)) /\ ∀ (x47 : Int), x47 = fc1 (bgn s0 sg (0 : Nat) i) (ec sg (Int.toNat i) (0 : Nat)) m a0 -> ∀ (x48 : Int), x48 = fc1 (bgn s1 sg (1 : Nat) i) (ec sg (Int.toNat i) (1 : Nat)) m a1 -> ∀ (x49 : Int), x49 = fc1 (bgn s2 sg (2 : Nat) i) (ec sg (Int.toNat i) (2 : Nat)) m a2 ->
 (decide (m < (0 : Int)) = true -> True /\ ∀ (x50 : Int), x50 = slk bla blb blc a0 a1 a2 x47 x48 x49 -> (decide (x50 > (0 : Int)) = true -> (((-2305843009213693952 : Int) <= x50 /\ x50 <= (2305843009213693952 : Int)) /\ ((-2305843009213693952 : Int) <= ln /\ ln <= (2305843009213693952 : Int)) /\ List.length pk <= (1000000000000 : Nat) /\ ∀ (j : Nat), j < List.length pk -> (-2305843009213693952 : Int) <= ec pk j (1 : Nat) /\ ec pk j (1 : Nat) <= (2305843009213693952 : Int)) /\ (∃ (x : LL × Int), x = tadd pk ln [(0 : Int), x50, x46, (0 : Int), a0, a1, a2, x47, x48, x49]) /\ ∀ (x : LL × Int), x = tadd pk ln [(0 : Int), x50, x46, (0 : Int), a0, a1, a2, x47, x48, x49] -> ((-9223372036854775808 : Int) <= x46 - x43 /\ x46 - x43 <= (9223372036854775807 : Int)) /\ ∀ (x53 : Int), x53 = x46 - x43 -> (((-2305843009213693952 : Int) <= x53 /\ x53 <= (2305843009213693952 : Int)) /\ ((-2305843009213693952 : Int) <= x.2 /\
 x.2 <= (2305843009213693952 : Int)) /\ List.length x.1 <= (1000000000000 : Nat) /\ ∀ (j : Nat), j < List.length x.1 -> (-2305843009213693952 : Int) <= ec x.1 j (1 : Nat) /\ ec x.1 j (1 : Nat) <= (2305843009213693952 : Int)) /\ (∃ (x_1 : LL × Int), x_1 = tadd x.1 x.2 [(0 : Int), x53, x46, m, x47, x48, x49, x47, x48, x49]) /\ ∀ (x_1 : LL × Int), x_1 = tadd x.1 x.2 [(0 : Int), x53, x46, m, x47, x48, x49, x47, x48, x49] -> ((-9223372036854775808 : Int) <= k + (1 : Int) /\ k + (1 : Int) <= (9223372036854775807 : Int)) /\ ∀ (x56 : Int), x56 = k + (1 : Int) -> K HEx.normal ([HV.ce (HC.int IntKind.i64 f), HV.ce (HC.int IntKind.i64 t), HV.ce (HC.ptr (1000005 : Nat) (0 : Nat)), HV.ce (HC.ptr (1000006 : Nat) (0 : Nat)), HV.ce (HC.ptr (1000010 : Nat) (0 : Nat)), HV.ce (HC.ptr (1000012 : Nat) (0 : Nat)), HV.ce (HC.int IntKind.i64 m), HV.ce (HC.ptr (1000014 : Nat) (0 : Nat)), HV.ce (HC.int IntKind.i64 x40), HV.ce (HC.sl false [(4 : Nat), (4 : Nat), (4 : Nat), (4 : Nat), (4 : Nat), (4 : Nat), (4 : Nat)] l), HV.ce (HC.int IntKind.i64 n), HV.ce (HC.int IntKind.i64 x56)], [[HC.int IntKind.i64 s0, HC.int IntKind.i64 s1, HC.int IntKind.i64 s2, HC.sl false [(4 : Nat), (4 : Nat), (4 : Nat), (4 : Nat), (4 : Nat), (4 : Nat), (4 : Nat)] sg, HC.sl false [(4 : Nat), (4 : Nat), (4 : Nat)] mk], [HC.int IntKind.i64 sta, HC.int IntKind.i64 spa, HC.int IntKind.i64 aca, HC.int IntKind.i64 jea, HC.int IntKind.i64 loa, HC.int IntKind.i64 hia, HC.int IntKind.i64 bla, HC.int IntKind.i64 oga, HC.int IntKind.i64 sga, HC.sl false [(4 : Nat)] pta, HC.int IntKind.i64 stb, HC.int IntKind.i64 spb, HC.int IntKind.i64 acb, HC.int IntKind.i64 jeb, HC.int IntKind.i64 lob, HC.int IntKind.i64 hib, HC.int IntKind.i64 blb, HC.int IntKind.i64 ogb, HC.int IntKind.i64 sgb, HC.sl false [(4 : Nat)] ptb, HC.int IntKind.i64 stc, HC.int IntKind.i64 spc, HC.int IntKind.i64 acc, HC.int IntKind.i64 jec, HC.int IntKind.i64 loc, HC.int IntKind.i64 hic, HC.int IntKind.i64 blc, HC.int IntKind.i64 ogc, HC.int IntKind.i64 sgc, HC.sl false [(4 : Nat)] ptc], [HC.sl true [(4 : Nat), (4 : Nat), (4 : Nat), (4 : Nat), (4 : Nat), (4 : Nat), (4 : Nat), (4 : Nat), (4 : Nat), (4 : Nat)] zz, HC.int IntKind.i64 z1, HC.int IntKind.i64 z2, HC.int IntKind.i64 z3, HC.int IntKind.i64 z4, HC.int IntKind.i64 z5], [HC.mu [(4 : Nat), (4 : Nat), (4 : Nat), (4 : Nat), (4 : Nat), (4 : Nat), (4 : Nat), (4 : Nat), (4 : Nat), (4 : Nat)] x_1.1, HC.int IntKind.i64 x_1.2, HC.int IntKind.i64 sa, HC.int IntKind.i64 d0, HC.int IntKind.i64 d1, HC.int IntKind.i64 d2], [HC.int IntKind.i64 x47, HC.int IntKind.i64 x48, HC.int IntKind.i64 x49]])) /\
 (decide (x50 > (0 : Int)) = false -> ((-9223372036854775808 : Int) <= x46 - x43 /\ x46 - x43 <= (9223372036854775807 : Int)) /\ ∀ (x57 : Int), x57 = x46 - x43 -> (((-2305843009213693952 : Int) <= x57 /\ x57 <= (2305843009213693952 : Int)) /\ ((-2305843009213693952 : Int) <= ln /\ ln <= (2305843009213693952 : Int)) /\ List.length pk <= (1000000000000 : Nat) /\ ∀ (j : Nat), j < List.length pk -> (-2305843009213693952 : Int) <= ec pk j (1 : Nat) /\ ec pk j (1 : Nat) <= (2305843009213693952 : Int)) /\ (∃ (x : LL × Int), x = tadd pk ln [(0 : Int), x57, x46, m, x47, x48, x49, x47, x48, x49]) /\ ∀ (x : LL × Int), x = tadd pk ln [(0 : Int), x57, x46, m, x47, x48, x49, x47, x48, x49] -> ((-9223372036854775808 : Int) <= k + (1 : Int) /\ k + (1 : Int) <= (9223372036854775807 : Int)) /\ ∀ (x60 : Int), x60 = k + (1 : Int) -> K HEx.normal ([HV.ce (HC.int IntKind.i64 f), HV.ce (HC.int IntKind.i64 t), HV.ce (HC.ptr (1000005 : Nat) (0 : Nat)), HV.ce (HC.ptr (1000006 : Nat) (0 : Nat)), HV.ce (HC.ptr (1000010 : Nat) (0 : Nat)), HV.ce (HC.ptr (1000012 : Nat) (0 : Nat)), HV.ce (HC.int IntKind.i64 m), HV.ce (HC.ptr (1000014 : Nat) (0 : Nat)), HV.ce (HC.int IntKind.i64 x40), HV.ce (HC.sl false [(4 : Nat), (4 : Nat), (4 : Nat), (4 : Nat), (4 : Nat), (4 : Nat), (4 : Nat)] l), HV.ce (HC.int IntKind.i64 n), HV.ce (HC.int IntKind.i64 x60)], [[HC.int IntKind.i64 s0, HC.int IntKind.i64 s1, HC.int IntKind.i64 s2, HC.sl false [(4 : Nat), (4 : Nat), (4 : Nat), (4 : Nat), (4 : Nat), (4 : Nat), (4 : Nat)] sg, HC.sl false [(4 : Nat), (4 : Nat), (4 : Nat)] mk], [HC.int IntKind.i64 sta, HC.int IntKind.i64 spa, HC.int IntKind.i64 aca, HC.int IntKind.i64 jea, HC.int IntKind.i64 loa, HC.int IntKind.i64 hia, HC.int IntKind.i64 bla, HC.int IntKind.i64 oga, HC.int IntKind.i64 sga, HC.sl false [(4 : Nat)] pta, HC.int IntKind.i64 stb, HC.int IntKind.i64 spb, HC.int IntKind.i64 acb, HC.int IntKind.i64 jeb, HC.int IntKind.i64 lob, HC.int IntKind.i64 hib, HC.int IntKind.i64 blb, HC.int IntKind.i64 ogb, HC.int IntKind.i64 sgb, HC.sl false [(4 : Nat)] ptb, HC.int IntKind.i64 stc, HC.int IntKind.i64 spc, HC.int IntKind.i64 acc, HC.int IntKind.i64 jec, HC.int IntKind.i64 loc, HC.int IntKind.i64 hic, HC.int IntKind.i64 blc, HC.int IntKind.i64 ogc, HC.int IntKind.i64 sgc, HC.sl false [(4 : Nat)] ptc], [HC.sl true [(4 : Nat), (4 : Nat), (4 : Nat), (4 : Nat), (4 : Nat), (4 : Nat), (4 : Nat), (4 : Nat), (4 : Nat), (4 : Nat)] zz, HC.int IntKind.i64 z1, HC.int IntKind.i64 z2, HC.int IntKind.i64 z3, HC.int IntKind.i64 z4, HC.int IntKind.i64 z5], [HC.mu [(4 : Nat), (4 : Nat), (4 : Nat), (4 : Nat), (4 : Nat), (4 : Nat), (4 : Nat), (4 : Nat), (4 : Nat), (4 : Nat)] x.1, HC.int IntKind.i64 x.2, HC.int IntKind.i64 sa, HC.int IntKind.i64 d0, HC.int IntKind.i64 d1, HC.int IntKind.i64 d2], [HC.int IntKind.i64 x47, HC.int IntKind.i64 x48, HC.int IntKind.i64 x49]]))) /\
 (decide (m < (0 : Int)) = false -> True /\ ∀ (x61 : Int), x61 = slk bla blb blc a0 a1 a2 x47 x48 x49 -> (decide (x61 > (0 : Int)) = true -> (((-2305843009213693952 : Int) <= x61 /\ x61 <= (2305843009213693952 : Int)) /\ ((-2305843009213693952 : Int) <= ln /\ ln <= (2305843009213693952 : Int)) /\ List.length pk <= (1000000000000 : Nat) /\ ∀ (j : Nat), j < List.length pk -> (-2305843009213693952 : Int) <= ec pk j (1 : Nat) /\ ec pk j (1 : Nat) <= (2305843009213693952 : Int)) /\ (∃ (x : LL × Int), x = tadd pk ln [(0 : Int), x61, x43, (0 : Int), a0, a1, a2, x47, x48, x49]) /\ ∀ (x : LL × Int), x = tadd pk ln [(0 : Int), x61, x43, (0 : Int), a0, a1, a2, x47, x48, x49] -> ((-9223372036854775808 : Int) <= x46 - x43 /\ x46 - x43 <= (9223372036854775807 : Int)) /\ ∀ (x64 : Int), x64 = x46 - x43 -> (((-2305843009213693952 : Int) <= x64 /\ x64 <= (2305843009213693952 : Int)) /\ ((-2305843009213693952 : Int) <= x.2 /\
 x.2 <= (2305843009213693952 : Int)) /\ List.length x.1 <= (1000000000000 : Nat) /\ ∀ (j : Nat), j < List.length x.1 -> (-2305843009213693952 : Int) <= ec x.1 j (1 : Nat) /\ ec x.1 j (1 : Nat) <= (2305843009213693952 : Int)) /\ (∃ (x_1 : LL × Int), x_1 = tadd x.1 x.2 [(0 : Int), x64, x43, m, x47, x48, x49, x47, x48, x49]) /\ ∀ (x_1 : LL × Int), x_1 = tadd x.1 x.2 [(0 : Int), x64, x43, m, x47, x48, x49, x47, x48, x49] -> ((-9223372036854775808 : Int) <= k + (1 : Int) /\ k + (1 : Int) <= (9223372036854775807 : Int)) /\ ∀ (x67 : Int), x67 = k + (1 : Int) -> K HEx.normal ([HV.ce (HC.int IntKind.i64 f), HV.ce (HC.int IntKind.i64 t), HV.ce (HC.ptr (1000005 : Nat) (0 : Nat)), HV.ce (HC.ptr (1000006 : Nat) (0 : Nat)), HV.ce (HC.ptr (1000010 : Nat) (0 : Nat)), HV.ce (HC.ptr (1000012 : Nat) (0 : Nat)), HV.ce (HC.int IntKind.i64 m), HV.ce (HC.ptr (1000014 : Nat) (0 : Nat)), HV.ce (HC.int IntKind.i64 x40), HV.ce (HC.sl false [(4 : Nat), (4 : Nat), (4 : Nat), (4 : Nat), (4 : Nat), (4 : Nat), (4 : Nat)] l), HV.ce (HC.int IntKind.i64 n), HV.ce (HC.int IntKind.i64 x67)], [[HC.int IntKind.i64 s0, HC.int IntKind.i64 s1, HC.int IntKind.i64 s2, HC.sl false [(4 : Nat), (4 : Nat), (4 : Nat), (4 : Nat), (4 : Nat), (4 : Nat), (4 : Nat)] sg, HC.sl false [(4 : Nat), (4 : Nat), (4 : Nat)] mk], [HC.int IntKind.i64 sta, HC.int IntKind.i64 spa, HC.int IntKind.i64 aca, HC.int IntKind.i64 jea, HC.int IntKind.i64 loa, HC.int IntKind.i64 hia, HC.int IntKind.i64 bla, HC.int IntKind.i64 oga, HC.int IntKind.i64 sga, HC.sl false [(4 : Nat)] pta, HC.int IntKind.i64 stb, HC.int IntKind.i64 spb, HC.int IntKind.i64 acb, HC.int IntKind.i64 jeb, HC.int IntKind.i64 lob, HC.int IntKind.i64 hib, HC.int IntKind.i64 blb, HC.int IntKind.i64 ogb, HC.int IntKind.i64 sgb, HC.sl false [(4 : Nat)] ptb, HC.int IntKind.i64 stc, HC.int IntKind.i64 spc, HC.int IntKind.i64 acc, HC.int IntKind.i64 jec, HC.int IntKind.i64 loc, HC.int IntKind.i64 hic, HC.int IntKind.i64 blc, HC.int IntKind.i64 ogc, HC.int IntKind.i64 sgc, HC.sl false [(4 : Nat)] ptc], [HC.sl true [(4 : Nat), (4 : Nat), (4 : Nat), (4 : Nat), (4 : Nat), (4 : Nat), (4 : Nat), (4 : Nat), (4 : Nat), (4 : Nat)] zz, HC.int IntKind.i64 z1, HC.int IntKind.i64 z2, HC.int IntKind.i64 z3, HC.int IntKind.i64 z4, HC.int IntKind.i64 z5], [HC.mu [(4 : Nat), (4 : Nat), (4 : Nat), (4 : Nat), (4 : Nat), (4 : Nat), (4 : Nat), (4 : Nat), (4 : Nat), (4 : Nat)] x_1.1, HC.int IntKind.i64 x_1.2, HC.int IntKind.i64 sa, HC.int IntKind.i64 d0, HC.int IntKind.i64 d1, HC.int IntKind.i64 d2], [HC.int IntKind.i64 x47, HC.int IntKind.i64 x48, HC.int IntKind.i64 x49]])) /\
 (decide (x61 > (0 : Int)) = false -> ((-9223372036854775808 : Int) <= x46 - x43 /\ x46 - x43 <= (9223372036854775807 : Int)) /\ ∀ (x68 : Int), x68 = x46 - x43 -> (((-2305843009213693952 : Int) <= x68 /\ x68 <= (2305843009213693952 : Int)) /\ ((-2305843009213693952 : Int) <= ln /\ ln <= (2305843009213693952 : Int)) /\ List.length pk <= (1000000000000 : Nat) /\ ∀ (j : Nat), j < List.length pk -> (-2305843009213693952 : Int) <= ec pk j (1 : Nat) /\ ec pk j (1 : Nat) <= (2305843009213693952 : Int)) /\ (∃ (x : LL × Int), x = tadd pk ln [(0 : Int), x68, x43, m, x47, x48, x49, x47, x48, x49]) /\ ∀ (x : LL × Int), x = tadd pk ln [(0 : Int), x68, x43, m, x47, x48, x49, x47, x48, x49] -> ((-9223372036854775808 : Int) <= k + (1 : Int) /\ k + (1 : Int) <= (9223372036854775807 : Int)) /\ ∀ (x71 : Int), x71 = k + (1 : Int) -> K HEx.normal ([HV.ce (HC.int IntKind.i64 f), HV.ce (HC.int IntKind.i64 t), HV.ce (HC.ptr (1000005 : Nat) (0 : Nat)), HV.ce (HC.ptr (1000006 : Nat) (0 : Nat)), HV.ce (HC.ptr (1000010 : Nat) (0 : Nat)), HV.ce (HC.ptr (1000012 : Nat) (0 : Nat)), HV.ce (HC.int IntKind.i64 m), HV.ce (HC.ptr (1000014 : Nat) (0 : Nat)), HV.ce (HC.int IntKind.i64 x40), HV.ce (HC.sl false [(4 : Nat), (4 : Nat), (4 : Nat), (4 : Nat), (4 : Nat), (4 : Nat), (4 : Nat)] l), HV.ce (HC.int IntKind.i64 n), HV.ce (HC.int IntKind.i64 x71)], [[HC.int IntKind.i64 s0, HC.int IntKind.i64 s1, HC.int IntKind.i64 s2, HC.sl false [(4 : Nat), (4 : Nat), (4 : Nat), (4 : Nat), (4 : Nat), (4 : Nat), (4 : Nat)] sg, HC.sl false [(4 : Nat), (4 : Nat), (4 : Nat)] mk], [HC.int IntKind.i64 sta, HC.int IntKind.i64 spa, HC.int IntKind.i64 aca, HC.int IntKind.i64 jea, HC.int IntKind.i64 loa, HC.int IntKind.i64 hia, HC.int IntKind.i64 bla, HC.int IntKind.i64 oga, HC.int IntKind.i64 sga, HC.sl false [(4 : Nat)] pta, HC.int IntKind.i64 stb, HC.int IntKind.i64 spb, HC.int IntKind.i64 acb, HC.int IntKind.i64 jeb, HC.int IntKind.i64 lob, HC.int IntKind.i64 hib, HC.int IntKind.i64 blb, HC.int IntKind.i64 ogb, HC.int IntKind.i64 sgb, HC.sl false [(4 : Nat)] ptb, HC.int IntKind.i64 stc, HC.int IntKind.i64 spc, HC.int IntKind.i64 acc, HC.int IntKind.i64 jec, HC.int IntKind.i64 loc, HC.int IntKind.i64 hic, HC.int IntKind.i64 blc, HC.int IntKind.i64 ogc, HC.int IntKind.i64 sgc, HC.sl false [(4 : Nat)] ptc], [HC.sl true [(4 : Nat), (4 : Nat), (4 : Nat), (4 : Nat), (4 : Nat), (4 : Nat), (4 : Nat), (4 : Nat), (4 : Nat), (4 : Nat)] zz, HC.int IntKind.i64 z1, HC.int IntKind.i64 z2, HC.int IntKind.i64 z3, HC.int IntKind.i64 z4, HC.int IntKind.i64 z5], [HC.mu [(4 : Nat), (4 : Nat), (4 : Nat), (4 : Nat), (4 : Nat), (4 : Nat), (4 : Nat), (4 : Nat), (4 : Nat), (4 : Nat)] x.1, HC.int IntKind.i64 x.2, HC.int IntKind.i64 sa, HC.int IntKind.i64 d0, HC.int IntKind.i64 d1, HC.int IntKind.i64 d2], [HC.int IntKind.i64 x47, HC.int IntKind.i64 x48, HC.int IntKind.i64 x49]])))) /\
 (decide (x43 < x46) = false -> ((-9223372036854775808 : Int) <= k + (1 : Int) /\ k + (1 : Int) <= (9223372036854775807 : Int)) /\ ∀ (x72 : Int), x72 = k + (1 : Int) -> K HEx.normal ([HV.ce (HC.int IntKind.i64 f), HV.ce (HC.int IntKind.i64 t), HV.ce (HC.ptr (1000005 : Nat) (0 : Nat)), HV.ce (HC.ptr (1000006 : Nat) (0 : Nat)), HV.ce (HC.ptr (1000010 : Nat) (0 : Nat)), HV.ce (HC.ptr (1000012 : Nat) (0 : Nat)), HV.ce (HC.int IntKind.i64 m), HV.ce (HC.ptr (1000014 : Nat) (0 : Nat)), HV.ce (HC.int IntKind.i64 x40), HV.ce (HC.sl false [(4 : Nat), (4 : Nat), (4 : Nat), (4 : Nat), (4 : Nat), (4 : Nat), (4 : Nat)] l), HV.ce (HC.int IntKind.i64 n), HV.ce (HC.int IntKind.i64 x72)], [[HC.int IntKind.i64 s0, HC.int IntKind.i64 s1, HC.int IntKind.i64 s2, HC.sl false [(4 : Nat), (4 : Nat), (4 : Nat), (4 : Nat), (4 : Nat), (4 : Nat), (4 : Nat)] sg, HC.sl false [(4 : Nat), (4 : Nat), (4 : Nat)] mk], [HC.int IntKind.i64 sta, HC.int IntKind.i64 spa, HC.int IntKind.i64 aca, HC.int IntKind.i64 jea, HC.int IntKind.i64 loa, HC.int IntKind.i64 hia, HC.int IntKind.i64 bla, HC.int IntKind.i64 oga, HC.int IntKind.i64 sga, HC.sl false [(4 : Nat)] pta, HC.int IntKind.i64 stb, HC.int IntKind.i64 spb, HC.int IntKind.i64 acb, HC.int IntKind.i64 jeb, HC.int IntKind.i64 lob, HC.int IntKind.i64 hib, HC.int IntKind.i64 blb, HC.int IntKind.i64 ogb, HC.int IntKind.i64 sgb, HC.sl false [(4 : Nat)] ptb, HC.int IntKind.i64 stc, HC.int IntKind.i64 spc, HC.int IntKind.i64 acc, HC.int IntKind.i64 jec, HC.int IntKind.i64 loc, HC.int IntKind.i64 hic, HC.int IntKind.i64 blc, HC.int IntKind.i64 ogc, HC.int IntKind.i64 sgc, HC.sl false [(4 : Nat)] ptc], [HC.sl true [(4 : Nat), (4 : Nat), (4 : Nat), (4 : Nat), (4 : Nat), (4 : Nat), (4 : Nat), (4 : Nat), (4 : Nat), (4 : Nat)] zz, HC.int IntKind.i64 z1, HC.int IntKind.i64 z2, HC.int IntKind.i64 z3, HC.int IntKind.i64 z4, HC.int IntKind.i64 z5], [HC.mu [(4 : Nat), (4 : Nat), (4 : Nat), (4 : Nat), (4 : Nat), (4 : Nat), (4 : Nat), (4 : Nat), (4 : Nat), (4 : Nat)] pk, HC.int IntKind.i64 ln, HC.int IntKind.i64 sa, HC.int IntKind.i64 d0, HC.int IntKind.i64 d1, HC.int IntKind.i64 d2], [HC.int IntKind.i64 a0, HC.int IntKind.i64 a1, HC.int IntKind.i64 a2]])) := by
 have hlen := hl.2 i.toNat (by omega)
 have hl1 := hl.1
 have units : ∀ (p : LL) (c : Int), unitsOK p c -> c <= 2305843009213693952 -> ∀ j, j < p.length -> -2305843009213693952 <= ec p j 1 /\ ec p j 1 <= 2305843009213693952 := fun p c hu hc j hj => by
  have := hu j hj; omega
 have hd : legHigh bg (legE sg m bg i) f t - legLow bg (legE sg m bg i) f t <= 4294967296 := by
  unfold legHigh legLow legE
  rcases hm with rfl | rfl <;> omega
 have hmul : -4294967296 <= m * ec sg i.toNat 3 /\ m * ec sg i.toNat 3 <= 4294967296 := by rcases hm with rfl | rfl <;> omega
 unfold legE at hE
 refine ⟨hi, ?_⟩
 rintro _ rfl
 refine ⟨by omega, ?_⟩
 rintro _ rfl
 refine ⟨by omega, ?_⟩
 intro e he _ rfl _ rfl low hlow _ rfl _ rfl high hhigh
 have heE : legE sg m bg i = e := he.symm
 have hlowE : legLow bg (legE sg m bg i) f t = low := by rw [heE]; exact hlow.symm
 have hhighE : legHigh bg (legE sg m bg i) f t = high := by rw [heE]; exact hhigh.symm
 unfold legSeg at fin
 rw [hlowE, hhighE, heE] at fin
 rw [hlowE, hhighE] at hd
 unfold legPut at fin
 refine ⟨fun gl => ?_, fun gl => ⟨by omega, fun z ez => ?_⟩⟩
 . have gl := odt gl
   rw [if_pos gl] at fin
   refine ⟨⟨hi, hm, hp, by omega⟩, fun n0 h0 n1 h1 n2 h2 => ?_⟩
   rw [<- h0, <- h1, <- h2] at fin
   dsimp only at fin
   have hs := slk_bd hb a0 a1 a2 n0 n1 n2
   refine ⟨fun gm => ⟨trivial, fun u hu => ?_⟩, fun gm => ⟨trivial, fun u hu => ?_⟩⟩
   . have gm := odt gm
     unfold legS at fin
     rw [if_pos gm] at fin
     rw [<- hu] at fin hs
     unfold legTk at fin
     refine ⟨fun gu => ?_, fun gu => ?_⟩
     . rw [if_pos (odt gu)] at fin
       refine ⟨⟨by omega, by omega, by omega, units _ _ J3 (by omega)⟩, ⟨_, rfl⟩, fun y ey => ⟨by omega, fun d ed => ?_⟩⟩
       obtain ⟨c1, c2, c3⟩ := tadd_inv (q := [0, u, high, 0, a0, a1, a2, n0, n1, n2]) J1.1 J3 hs.1
       have c1 : (tadd pk ln [0, u, high, 0, a0, a1, a2, n0, n1, n2]).2 = ln + u := c1
       have c3 : unitsOK (tadd pk ln [0, u, high, 0, a0, a1, a2, n0, n1, n2]).1 (ln + u) := c3
       rw [<- ey] at c1 c2 c3 fin
       rw [<- ed] at fin
       refine ⟨⟨by omega, by omega, by omega, units _ _ c3 (by omega)⟩, ⟨_, rfl⟩, fun w ew => ⟨by omega, fun z ez => ?_⟩⟩
       rw [<- ew] at fin
       exact fin _ rfl z ez
     . rw [if_neg (odf gu)] at fin
       refine ⟨by omega, fun d ed => ⟨⟨by omega, by omega, by omega, units _ _ J3 (by omega)⟩, ⟨_, rfl⟩, fun w ew => ⟨by omega, fun z ez => ?_⟩⟩⟩
       rw [<- ed] at fin
       dsimp only at fin
       rw [<- ew] at fin
       exact fin _ rfl z ez
   . have gm := odf gm
     unfold legS at fin
     rw [if_neg gm] at fin
     rw [<- hu] at fin hs
     unfold legTk at fin
     refine ⟨fun gu => ?_, fun gu => ?_⟩
     . rw [if_pos (odt gu)] at fin
       refine ⟨⟨by omega, by omega, by omega, units _ _ J3 (by omega)⟩, ⟨_, rfl⟩, fun y ey => ⟨by omega, fun d ed => ?_⟩⟩
       obtain ⟨c1, c2, c3⟩ := tadd_inv (q := [0, u, low, 0, a0, a1, a2, n0, n1, n2]) J1.1 J3 hs.1
       have c1 : (tadd pk ln [0, u, low, 0, a0, a1, a2, n0, n1, n2]).2 = ln + u := c1
       have c3 : unitsOK (tadd pk ln [0, u, low, 0, a0, a1, a2, n0, n1, n2]).1 (ln + u) := c3
       rw [<- ey] at c1 c2 c3 fin
       rw [<- ed] at fin
       refine ⟨⟨by omega, by omega, by omega, units _ _ c3 (by omega)⟩, ⟨_, rfl⟩, fun w ew => ⟨by omega, fun z ez => ?_⟩⟩
       rw [<- ew] at fin
       exact fin _ rfl z ez
     . rw [if_neg (odf gu)] at fin
       refine ⟨by omega, fun d ed => ⟨⟨by omega, by omega, by omega, units _ _ J3 (by omega)⟩, ⟨_, rfl⟩, fun w ew => ⟨by omega, fun z ez => ?_⟩⟩⟩
       rw [<- ed] at fin
       dsimp only at fin
       rw [<- ew] at fin
       exact fin _ rfl z ez
 . rw [if_neg (odf gl)] at fin
   exact fin _ rfl z ez
set_option maxHeartbeats 4000000 in
theorem loopLeg : ∀ v Q, (LLeg v).wp Q -> hloop CLeg anLeg (nthLoop Try.f19 0) v Q := by
 intro v Q h
 unfold LLeg at h
 split at h
 case h_2 => exact h.elim
 rename_i f t m bg l n k s0 s1 s2 sg mk ax bz bt a0 a1 a2
 split at h
 case h_2 => exact h.elim
 rename_i sta spa aca jea loa hia bla oga sga pta stb spb acb jeb lob hib blb ogb sgb ptb stc spc acc jec loc hic blc ogc sgc ptc
 split at h
 case h_2 => exact h.elim
 rename_i zz z1 z2 z3 z4 z5 pk ln sa d0 d1 d2
 obtain ⟨⟨hn, hk0, hls, hm, hf, ht, hpk, hln, hl, hp, hb⟩, hq⟩ := h
 subst hn hk0 hls hln
 obtain rfl : pk = [] := List.eq_nil_of_length_eq_zero hpk
 have hm2 : m = 1 ∨ m = -1 := by rcases hm with h | h; exact .inl h.1; exact .inr h.1
 have j0 : legJ l m 0 ⟨[], 0, a0, a1, a2, bg⟩ := by
  refine ⟨⟨Int.le_refl _, by dsimp only; omega⟩, by simp, fun j hj => by simp at hj, fun e => ?_, fun e => ?_⟩
  . rcases hm with h | h
    . rw [h.2]; rfl
    . omega
  . rcases hm with h | h
    . omega
    . rw [h.2]; simp
 have hJ := legJ_all (s0 := s0) (s1 := s1) (s2 := s2) (f := f) (t := t) hl hb hm2 j0
 refine hloop_rec (σ := LegS × Nat)
  (fun s => ([.ce (I6 f), .ce (I6 t), .ce (.ptr 1000005 0), .ce (.ptr 1000006 0), .ce (.ptr 1000010 0), .ce (.ptr 1000012 0), .ce (I6 m), .ce (.ptr 1000014 0), .ce (I6 s.1.bg), .ce (.sl false [4, 4, 4, 4, 4, 4, 4] l), .ce (I6 (l.length : Int)), .ce (I6 (s.2 : Int))],
   [[I6 s0, I6 s1, I6 s2, .sl false [4, 4, 4, 4, 4, 4, 4] l, .sl false [4, 4, 4] mk], [I6 sta, I6 spa, I6 aca, I6 jea, I6 loa, I6 hia, I6 bla, I6 oga, I6 sga, .sl false [4] pta, I6 stb, I6 spb, I6 acb, I6 jeb, I6 lob, I6 hib, I6 blb, I6 ogb, I6 sgb, .sl false [4] ptb, I6 stc, I6 spc, I6 acc, I6 jec, I6 loc, I6 hic, I6 blc, I6 ogc, I6 sgc, .sl false [4] ptc], [.sl true [4, 4, 4, 4, 4, 4, 4, 4, 4, 4] zz, I6 z1, I6 z2, I6 z3, I6 z4, I6 z5], [.mu [4, 4, 4, 4, 4, 4, 4, 4, 4, 4] s.1.pk, I6 s.1.ln, I6 sa, I6 d0, I6 d1, I6 d2], [I6 s.1.a0, I6 s.1.a1, I6 s.1.a2]]))
  (fun s => l.length - s.2)
  (fun s => s.2 <= l.length /\ s.1 = legK s0 s1 s2 l bla blb blc f t m ⟨[], 0, a0, a1, a2, bg⟩ s.2)
  ?_ (⟨[], 0, a0, a1, a2, bg⟩, 0) ⟨Nat.zero_le _, rfl⟩
 rintro ⟨x, k⟩ ⟨hk, he⟩ K hn hx _
 dsimp only at hk he hn ⊢
 have J := hJ k hk
 rw [<- he] at J
 have hl1 := hl.1
 have hpl := plen_le hl
 refine byVB (vbLeg s0 s1 s2 f t m x.bg l.length k x.a0 x.a1 x.a2 z1 z2 z3 z4 z5 x.ln sa d0 d1 d2 l mk l zz x.pk sta spa aca jea loa hia bla oga sga stb spb acb jeb lob hib blb ogb sgb stc spc acc jec loc hic blc ogc sgc pta ptb ptc K) ⟨fun g => ?_, fun g => ?_⟩
 . have g := odt g
   have hkl : k < l.length := by omega
   obtain ⟨J1, J2, J3, J4, J5⟩ := J
   have fin : ∀ y : LegS, y = legStep s0 s1 s2 l bla blb blc f t m x k -> ∀ z : Int, z = (k : Int) + 1 ->
    K .normal ([.ce (I6 f), .ce (I6 t), .ce (.ptr 1000005 0), .ce (.ptr 1000006 0), .ce (.ptr 1000010 0), .ce (.ptr 1000012 0), .ce (I6 m), .ce (.ptr 1000014 0), .ce (I6 y.bg), .ce (.sl false [4, 4, 4, 4, 4, 4, 4] l), .ce (I6 (l.length : Int)), .ce (I6 z)],
    [[I6 s0, I6 s1, I6 s2, .sl false [4, 4, 4, 4, 4, 4, 4] l, .sl false [4, 4, 4] mk], [I6 sta, I6 spa, I6 aca, I6 jea, I6 loa, I6 hia, I6 bla, I6 oga, I6 sga, .sl false [4] pta, I6 stb, I6 spb, I6 acb, I6 jeb, I6 lob, I6 hib, I6 blb, I6 ogb, I6 sgb, .sl false [4] ptb, I6 stc, I6 spc, I6 acc, I6 jec, I6 loc, I6 hic, I6 blc, I6 ogc, I6 sgc, .sl false [4] ptc], [.sl true [4, 4, 4, 4, 4, 4, 4, 4, 4, 4] zz, I6 z1, I6 z2, I6 z3, I6 z4, I6 z5], [.mu [4, 4, 4, 4, 4, 4, 4, 4, 4, 4] y.pk, I6 y.ln, I6 sa, I6 d0, I6 d1, I6 d2], [I6 y.a0, I6 y.a1, I6 y.a2]]) := by
    intro y ey z ez
    have := hn (y, k + 1) ⟨hkl, by rw [ey, he]; rfl⟩ (by dsimp only; omega)
    rw [ez]
    exact this
   have hEn := legE_next (m := m) hkl J4 J5
   have hbd : ∀ q, 0 <= plen (l.take q) /\ plen (l.take q) <= 4503599627370496 := fun q => by
    have := plen_le (l := l.take q) ⟨by rw [List.length_take]; omega, fun j hj => by
     rw [List.length_take] at hj
     have := hl.2 j (by omega)
     unfold ec at this ⊢
     simp only [List.getD_eq_getElem?_getD, List.getElem?_take] at this ⊢
     rw [if_pos (by omega)]
     exact this⟩
    exact this
   have hbg : 0 <= x.bg /\ x.bg <= 4503599627370496 := by
    rcases hm2 with e | e
    . rw [J4 e]; exact hbd _
    . rw [J5 e]; exact hbd _
   have hE : 0 <= legE l m x.bg (legI l.length m k) /\ legE l m x.bg (legI l.length m k) <= 4503599627370496 := by
    rcases hm2 with e | e
    . rw [hEn.1 e]; exact hbd _
    . rw [hEn.2 e]; exact hbd _
   have hi := legI_bd (m := m) hkl
   have hkk : (k : Int) <= 1048576 := by omega
   refine ⟨fun gm => ⟨by omega, fun x1 e1 => ⟨by omega, fun x2 e2 => ?_⟩⟩, fun gm => ?_⟩
   . have hx2 : legI l.length m k = x2 := by unfold legI; rw [if_pos (odt gm), e2, e1]
     have fin2 := fin
     unfold legStep at fin2
     rw [hx2] at fin2 hE hi
     exact legMain s0 s1 s2 f t m x.bg l.length k x2 x.a0 x.a1 x.a2 z1 z2 z3 z4 z5 x.ln sa d0 d1 d2 l mk l zz x.pk sta spa aca jea loa hia bla oga sga stb spb acb jeb lob hib blb ogb sgb stc spc acc jec loc hic blc ogc sgc pta ptb ptc K hi hl hp hb hm2 (by omega) hbg hE (by omega) (by omega) J3 fin2
   . have hx2 : legI l.length m k = (k : Int) := by unfold legI; rw [if_neg (odf gm)]
     have fin2 := fin
     unfold legStep at fin2
     rw [hx2] at fin2 hE hi
     exact legMain s0 s1 s2 f t m x.bg l.length k k x.a0 x.a1 x.a2 z1 z2 z3 z4 z5 x.ln sa d0 d1 d2 l mk l zz x.pk sta spa aca jea loa hia bla oga sga stb spb acb jeb lob hib blb ogb sgb stc spc acc jec loc hic blc ogc sgc pta ptb ptc K hi hl hp hb hm2 (by omega) hbg hE (by omega) (by omega) J3 fin2
 . have g := odf g
   have hkl : k = l.length := by omega
   exact hx 0 _ (hq x (by rw [he, hkl]))
theorem sLeg : Sound Try.prog 19 SLeg := by
 refine sound_of (C := CLeg) tabLeg Try.func19 (by kernel_rfl) (by decide +kernel) (by kernel_rfl) rfl ⟨sPLen, sFacing, sSlack, sAdd, trivial⟩ (loops1 (by kernel_rfl) (loopOK_of (an := anLeg) (S := LLeg) (by kernel_rfl) loopLeg)) ?_
 intro hA pA R h
 unfold SLeg at h
 split at h
 case h_2 => exfalso; exact h
 rename_i s0 s1 s2 sg mk ax d0 d1 d2 f t
 split at h
 case h_2 => exact h.elim
 rename_i sta spa aca jea loa hia bla oga sga pta stb spb acb jeb lob hib blb ogb sgb ptb stc spc acc jec loc hic blc ogc sgc ptc
 obtain ⟨⟨hl, hp, hb⟩, _, hq⟩ := h
 have hpl := plen_le hl
 refine byVC (vcLeg s0 s1 s2 f t d0 d1 d2 sg mk sta spa aca jea loa hia bla oga sga stb spb acb jeb lob hib blb ogb sgb stc spc acc jec loc hic blc ogc sgc pta ptb ptc R) ⟨hl, ?_⟩
 rintro x1 e1 _ rfl x3 e3 _ rfl x5 e5
 have c3 : clamp (plen sg) f = x3 := by rw [e3, e1]; rfl
 have c5 : clamp (plen sg) t = x5 := by rw [e5, e1]; rfl
 rw [c3, c5] at hq
 refine ⟨fun g => ⟨⟨rfl, rfl, rfl, .inr ⟨rfl, e1⟩, by omega, by omega, rfl, rfl, hl, hp, hb⟩, fun x ex => ?_⟩, fun g => ⟨⟨rfl, rfl, rfl, .inl ⟨rfl, rfl⟩, by omega, by omega, rfl, rfl, hl, hp, hb⟩, fun x ex => ?_⟩⟩
 . have g := odt g
   refine hq x ?_
   rw [ex, e1]
   unfold leg legM
   rw [if_pos g, if_pos (by decide)]
 . have g := odf g
   refine hq x ?_
   rw [ex]
   unfold leg legM
   rw [if_neg g, if_neg (by decide)]
end Go.Proofs.Ytoekmphdpepdbaa
namespace U
open Go
def endp (pk : LL) (j : Nat) : Int := ec pk j 0 + ec pk j 1
def okTrk (pk : LL) (ln : Int) : Prop :=
 pk.length <= 4194304 /\ (0 <= ln /\ ln <= 18014398509481984) /\ (pk.length = 0 -> ln = 0) /\ (0 < pk.length -> ec pk 0 0 = 0 /\ endp pk (pk.length - 1) = ln) /\
 (∀ j, j + 1 < pk.length -> ec pk (j + 1) 0 = endp pk j) /\ ∀ j, j < pk.length -> 1 <= ec pk j 1 /\ (0 <= ec pk j 2 /\ ec pk j 2 <= 18014398509481984) /\ (-1 <= ec pk j 3 /\ ec pk j 3 <= 1)
def tpcA : LL -> Int -> Int -> Int
 | [], _, _ => -1
 | r :: l, i, u => if u <= r.getD 0 0 + r.getD 1 0 then i else tpcA l (i + 1) u
def tfind (pk : LL) (u : Int) : Int := tpcA pk 0 u
def tplace (pk : LL) (sa u : Int) : Int :=
 if tfind pk u < 0 then sa else ec pk (tfind pk u).toNat 2 + ec pk (tfind pk u).toNat 3 * (u - ec pk (tfind pk u).toNat 0)
def bsh (bl d : Int) : Int := if d = -1 then -bl else 0
def sel3 (k a b c : Int) : Int := if k = 0 then a else if k = 1 then b else c
def tsh (bl mv w d at_ u : Int) : Int := if mv ≠ 0 ∨ w = d then bsh bl d else if d = -1 then -(min (u - at_) bl) else min (u - at_) bl - bl
def tmot (st og sg : Int) (pt : LL) (bl pos : Int) (pk : LL) (d u : Int) (c : Nat) : Int :=
 mot st og sg pt pos + (if tfind pk u < 0 then bsh bl d else tsh bl (ec pk (tfind pk u).toNat 3) (ec pk (tfind pk u).toNat (4 + c)) (ec pk (tfind pk u).toNat (7 + c)) (ec pk (tfind pk u).toNat 0) u)
def okMA (st og sg : Int) (pit : LL) (bl : Int) : Prop := (0 < st /\ st <= 16777216) /\ okC og sg pit /\ (0 <= bl /\ bl <= 4096)
end U
namespace Go.Proofs.Ytoekmphdpepdbaa
open Go Go.HL U
def SClamp (hA : List HV) (pA : List (List HC)) : SR :=
 match hA, pA with
 | [.ce (.int .i64 v), .ce (.int .i64 n)], [] => .det (0 <= n) ⟨.ce (I6 (clamp n v)), false, [], []⟩
 | _, _ => .fail
noncomputable def CClamp : Ctx := ⟨Try.prog, gam [], Try.f43.ntmps, [], []⟩
theorem vcClamp (v n : Int) (Q : Res -> Prop) : (nfun true CClamp Try.f43 (bodyOf Try.f43) [.ce (I6 v), .ce (I6 n)] [] Q) =
 (∀ x1, x1 = min v n -> ∀ x2, x2 = max (0 : Int) x1 -> Q ⟨.ce (I6 x2), false, [], []⟩) := by kernel_rfl
def SAt (hA : List HV) (pA : List (List HC)) : SR :=
 match hA, pA with
 | [.agg [.int .i64 s0, .int .i64 s1, .int .i64 s2, .sl false [4, 4, 4, 4, 4, 4, 4] sg, .sl false [4, 4, 4] mk], .ce (.int .i64 p)], [] => .det (okLen sg /\ okPts s0 s1 s2 sg /\ p <= 4611686018427387904) ⟨.agg [I6 (ptAt s0 sg 0 p), I6 (ptAt s1 sg 1 p), I6 (ptAt s2 sg 2 p)], false, [], []⟩
 | _, _ => .fail
def tabAt : List (FuncId × HL.Spec) := [(37, SPFind), (50, SMulDiv)]
noncomputable def CAt : Ctx := ⟨Try.prog, gam tabAt, Try.f45.ntmps, [(4000009, unrT [1000002, 1000004, 1000007, 1000008], fun _ => .fail)], []⟩
theorem vcAt (s0 s1 s2 p : Int) (sg mk : LL) (Q : Res -> Prop) : (nfun true CAt Try.f45 (bodyOf Try.f45) [.agg [I6 s0, I6 s1, I6 s2, .sl false [4, 4, 4, 4, 4, 4, 4] sg, .sl false [4, 4, 4] mk], .ce (I6 p)] [] Q) =
 ((okLen sg /\ p <= 4611686018427387904) /\ (∃ (x : Int × Int), x = pfind sg p) /\ ∀ (x : Int × Int), x = pfind sg p -> Br (x.1 < 0) (Q ⟨.agg [I6 s0, I6 s1, I6 s2], false, [], []⟩) (Br (x.1 > 0) (R6 (x.1 - 1) /\ ∀ x2, x2 = x.1 - 1 -> (0 <= x2 /\ x2 < (sg.length : Int)) /\ (0 <= x.1 /\ x.1 < (sg.length : Int)) /\ R6 (el sg x.1.toNat - el sg x2.toNat) /\ ∀ x3, x3 = el sg x.1.toNat - el sg x2.toNat -> (R6 x3 /\ R6 x.2 /\ (0 < ec sg x.1.toNat 3 /\ ec sg x.1.toNat 3 <= 9223372036854775807) /\ (-4611686018427387904 <= x3 * x.2 /\ x3 * x.2 <= 4611686018427387904) /\ (0 : Int) <= 2 /\
 (2 : Int) <= 2) /\ ∀ x4, x4 = mdv (x3 * x.2) (ec sg x.1.toNat 3) (2 : Int) -> ∀ (x5 : Bool), x5 = true -> R6 (el sg x2.toNat + x4) /\ ∀ x6, x6 = el sg x2.toNat + x4 -> R6 (ec sg x.1.toNat 1 - ec sg x2.toNat 1) /\ ∀ x7, x7 = ec sg x.1.toNat 1 - ec sg x2.toNat 1 -> (R6 x7 /\ R6 x.2 /\ (0 < ec sg x.1.toNat 3 /\ ec sg x.1.toNat 3 <= 9223372036854775807) /\ (-4611686018427387904 <= x7 * x.2 /\ x7 * x.2 <= 4611686018427387904) /\ (0 : Int) <= 2 /\ (2 : Int) <= 2) /\ ∀ x8, x8 = mdv (x7 * x.2) (ec sg x.1.toNat 3) (2 : Int) -> ∀ (x9 : Bool), x9 = true -> R6 (ec sg x2.toNat 1 + x8) /\
 ∀ x10, x10 = ec sg x2.toNat 1 + x8 -> R6 (ec sg x.1.toNat 2 - ec sg x2.toNat 2) /\ ∀ x11, x11 = ec sg x.1.toNat 2 - ec sg x2.toNat 2 -> (R6 x11 /\ R6 x.2 /\ (0 < ec sg x.1.toNat 3 /\ ec sg x.1.toNat 3 <= 9223372036854775807) /\ (-4611686018427387904 <= x11 * x.2 /\ x11 * x.2 <= 4611686018427387904) /\ (0 : Int) <= 2 /\ (2 : Int) <= 2) /\ ∀ x12, x12 = mdv (x11 * x.2) (ec sg x.1.toNat 3) (2 : Int) -> ∀ (x13 : Bool), x13 = true -> R6 (ec sg x2.toNat 2 + x12) /\ ∀ x14, x14 = ec sg x2.toNat 2 + x12 -> Q ⟨.agg [I6 x6, I6 x10, I6 x14], false, [], []⟩) ((0 <= x.1 /\ x.1 < (sg.length : Int)) /\
 R6 (el sg x.1.toNat - s0) /\ ∀ x15, x15 = el sg x.1.toNat - s0 -> (R6 x15 /\ R6 x.2 /\ (0 < ec sg x.1.toNat 3 /\ ec sg x.1.toNat 3 <= 9223372036854775807) /\ (-4611686018427387904 <= x15 * x.2 /\ x15 * x.2 <= 4611686018427387904) /\ (0 : Int) <= 2 /\ (2 : Int) <= 2) /\ ∀ x16, x16 = mdv (x15 * x.2) (ec sg x.1.toNat 3) (2 : Int) -> ∀ (x17 : Bool), x17 = true -> R6 (s0 + x16) /\ ∀ x18, x18 = s0 + x16 -> R6 (ec sg x.1.toNat 1 - s1) /\ ∀ x19, x19 = ec sg x.1.toNat 1 - s1 -> (R6 x19 /\ R6 x.2 /\
 (0 < ec sg x.1.toNat 3 /\ ec sg x.1.toNat 3 <= 9223372036854775807) /\ (-4611686018427387904 <= x19 * x.2 /\ x19 * x.2 <= 4611686018427387904) /\ (0 : Int) <= 2 /\ (2 : Int) <= 2) /\ ∀ x20, x20 = mdv (x19 * x.2) (ec sg x.1.toNat 3) (2 : Int) -> ∀ (x21 : Bool), x21 = true -> R6 (s1 + x20) /\ ∀ x22, x22 = s1 + x20 -> R6 (ec sg x.1.toNat 2 - s2) /\ ∀ x23, x23 = ec sg x.1.toNat 2 - s2 -> (R6 x23 /\ R6 x.2 /\ (0 < ec sg x.1.toNat 3 /\ ec sg x.1.toNat 3 <= 9223372036854775807) /\ (-4611686018427387904 <= x23 * x.2 /\ x23 * x.2 <= 4611686018427387904) /\ (0 : Int) <= 2 /\ (2 : Int) <= 2) /\ ∀ x24, x24 = mdv (x23 * x.2) (ec sg x.1.toNat 3) (2 : Int) ->
 ∀ (x25 : Bool), x25 = true -> R6 (s2 + x24) /\ ∀ x26, x26 = s2 + x24 -> Q ⟨.agg [I6 x18, I6 x22, I6 x26], false, [], []⟩))) := by kernel_rfl
def STFind (hA : List HV) (pA : List (List HC)) : SR :=
 match hA, pA with
 | [.agg [.sl false [4, 4, 4, 4, 4, 4, 4, 4, 4, 4] pk, .int .i64 ln, .int .i64 sa, .int .i64 d0, .int .i64 d1, .int .i64 d2], .ce (.int .i64 u)], [] => .det (okTrk pk ln /\ 0 <= u /\ u <= ln) ⟨.ce (I6 (tfind pk u)), false, [], []⟩
 | _, _ => .fail
def anTF : LAnn := ⟨[1, 2, 4, 5, 6], [6], [1000002], false⟩
def LTF (v : LV) : LR :=
 match v with
 | ([.ce (.int .i64 u), .ce (.ptr 1000002 0), .ce (.int .i64 z), .ce (.int .i64 lo), .ce (.int .i64 hi)], [[.sl false [4, 4, 4, 4, 4, 4, 4, 4, 4, 4] pk, .int .i64 ln, .int .i64 sa, .int .i64 d0, .int .i64 d1, .int .i64 d2]]) =>
  .det (lo = 0 /\ hi = (pk.length : Int) - 1 /\ okTrk pk ln /\ 0 <= u /\ u <= ln) (.exit 0) ([.ce (I6 (tfind pk u))], [[.sl false [4, 4, 4, 4, 4, 4, 4, 4, 4, 4] pk, I6 ln, I6 sa, I6 d0, I6 d1, I6 d2]])
 | _ => .fail
noncomputable def CTF : Ctx := ⟨Try.prog, gam [], Try.f44.ntmps, [(2, anTF, LTF)], []⟩
theorem vbTF (u z lo hi ln sa d0 d1 d2 : Int) (pk : LL) (K : HEx -> LV -> Prop) : (nbodyT true CTF anTF (nthLoop Try.f44 0) (([.ce (I6 u), .ce (.ptr 1000002 0), .ce (I6 z), .ce (I6 lo), .ce (I6 hi)], [[.sl false [4, 4, 4, 4, 4, 4, 4, 4, 4, 4] pk, I6 ln, I6 sa, I6 d0, I6 d1, I6 d2]])) K) =
 (Br (lo < hi) (R6 (lo + hi) /\ ∀ x1, x1 = lo + hi -> (2 : Int) ≠ (0 : Int) /\ R6 (Int.tdiv x1 2) /\ ∀ x2, x2 = Int.tdiv x1 2 -> (0 <= x2 /\ x2 < (pk.length : Int)) /\ R6 (el pk x2.toNat + ec pk x2.toNat 1) /\ ∀ x3, x3 = el pk x2.toNat + ec pk x2.toNat 1 -> Br (u <= x3) (K .normal ([.ce (I6 u), .ce (.ptr 1000002 0), .ce (I6 z), .ce (I6 lo), .ce (I6 x2)], [[.sl false [4, 4, 4, 4, 4, 4, 4, 4, 4, 4] pk, I6 ln, I6 sa, I6 d0, I6 d1, I6 d2]])) (R6 (x2 + 1) /\ ∀ x4, x4 = x2 + 1 -> K .normal ([.ce (I6 u), .ce (.ptr 1000002 0), .ce (I6 z), .ce (I6 x4), .ce (I6 hi)], [[.sl false [4, 4, 4, 4, 4, 4, 4, 4, 4, 4] pk, I6 ln, I6 sa, I6 d0, I6 d1, I6 d2]]))) (K (.exit 0) ([.ce (I6 hi)], [[.sl false [4, 4, 4, 4, 4, 4, 4, 4, 4, 4] pk, I6 ln, I6 sa, I6 d0, I6 d1, I6 d2]]))) := by kernel_rfl
theorem vcTF (u ln sa d0 d1 d2 : Int) (pk : LL) (Q : Res -> Prop) : (nfun true CTF Try.f44 (bodyOf Try.f44) [.agg [.sl false [4, 4, 4, 4, 4, 4, 4, 4, 4, 4] pk, I6 ln, I6 sa, I6 d0, I6 d1, I6 d2], .ce (I6 u)] [] Q) =
 (R6 ((pk.length : Int) - 1) /\ ∀ x1, x1 = (pk.length : Int) - 1 -> ((0 : Int) = 0 /\ x1 = (pk.length : Int) - 1 /\ okTrk pk ln /\ 0 <= u /\ u <= ln) /\ Q ⟨.ce (I6 (tfind pk u)), false, [], []⟩) := by kernel_rfl
def SPlace (hA : List HV) (pA : List (List HC)) : SR :=
 match hA, pA with
 | [.agg [.sl false [4, 4, 4, 4, 4, 4, 4, 4, 4, 4] pk, .int .i64 ln, .int .i64 sa, .int .i64 d0, .int .i64 d1, .int .i64 d2], .ce (.int .i64 u)], [] => .det (okTrk pk ln) ⟨.ce (I6 (tplace pk sa (clamp ln u))), false, [], []⟩
 | _, _ => .fail
def tabTF : List (FuncId × HL.Spec) := [(43, SClamp), (44, STFind)]
noncomputable def CPlace : Ctx := ⟨Try.prog, gam tabTF, Try.f38.ntmps, [], []⟩
theorem vcPlace (u ln sa d0 d1 d2 : Int) (pk : LL) (Q : Res -> Prop) : (nfun true CPlace Try.f38 (bodyOf Try.f38) [.agg [.sl false [4, 4, 4, 4, 4, 4, 4, 4, 4, 4] pk, I6 ln, I6 sa, I6 d0, I6 d1, I6 d2], .ce (I6 u)] [] Q) =
 (0 <= ln /\ ∀ x1, x1 = clamp ln u -> (okTrk pk ln /\ 0 <= x1 /\ x1 <= ln) /\ ∀ x2, x2 = tfind pk x1 -> Br (x2 < 0) (Q ⟨.ce (I6 sa), false, [], []⟩) ((0 <= x2 /\ x2 < (pk.length : Int)) /\ ∀ x3, x3 = ec pk x2.toNat 2 -> (0 <= x2 /\ x2 < (pk.length : Int)) /\ ∀ x4, x4 = ec pk x2.toNat 3 -> (0 <= x2 /\ x2 < (pk.length : Int)) /\ ∀ x5, x5 = el pk x2.toNat -> R6 (x1 - x5) /\ ∀ x6, x6 = x1 - x5 -> R6 (x4 * x6) /\ ∀ x7, x7 = x4 * x6 -> R6 (x3 + x7) /\ ∀ x8, x8 = x3 + x7 -> Q ⟨.ce (I6 x8), false, [], []⟩)) := by kernel_rfl
def SBsh (hA : List HV) (pA : List (List HC)) : SR :=
 match hA, pA with
 | [.agg [.int .i64 sta, .int .i64 spa, .int .i64 aca, .int .i64 jea, .int .i64 loa, .int .i64 hia, .int .i64 bla, .int .i64 oga, .int .i64 sga, .sl false [4] pta], .ce (.int .i64 d)], [] => .det (0 <= bla /\ bla <= 4096) ⟨.ce (I6 (bsh bla d)), false, [], []⟩
 | _, _ => .fail
noncomputable def CBsh : Ctx := ⟨Try.prog, gam [], Try.f47.ntmps, [], []⟩
theorem vcBsh (sta spa aca jea loa hia bla oga sga : Int) (pta : LL) (d : Int) (Q : Res -> Prop) : (nfun true CBsh Try.f47 (bodyOf Try.f47) [.agg [I6 sta, I6 spa, I6 aca, I6 jea, I6 loa, I6 hia, I6 bla, I6 oga, I6 sga, .sl false [4] pta], .ce (I6 d)] [] Q) =
 (Bb (d == (-1 : Int)) (R6 (0 - bla) /\ ∀ x1, x1 = 0 - bla -> Q ⟨.ce (I6 x1), false, [], []⟩) (Q ⟨.ce (I6 0), false, [], []⟩)) := by kernel_rfl
def STsh (hA : List HV) (pA : List (List HC)) : SR :=
 match hA, pA with
 | [.agg [.int .i64 sta, .int .i64 spa, .int .i64 aca, .int .i64 jea, .int .i64 loa, .int .i64 hia, .int .i64 bla, .int .i64 oga, .int .i64 sga, .sl false [4] pta], .agg [.int .i64 q0, .int .i64 q1, .int .i64 q2, .int .i64 q3, .int .i64 q4, .int .i64 q5, .int .i64 q6, .int .i64 q7, .int .i64 q8, .int .i64 q9], .ce (.int .i64 k), .ce (.int .i64 u)], [] =>
  .det ((0 <= k /\ k <= 2) /\ (0 <= bla /\ bla <= 4096) /\ (-18014398509481984 <= u /\ u <= 18014398509481984) /\ (-18014398509481984 <= q0 /\ q0 <= 18014398509481984)) ⟨.ce (I6 (tsh bla q3 (sel3 k q4 q5 q6) (sel3 k q7 q8 q9) q0 u)), false, [], []⟩
 | _, _ => .fail
def tabTsh : List (FuncId × HL.Spec) := [(47, SBsh)]
noncomputable def CTsh : Ctx := ⟨Try.prog, gam tabTsh, Try.f48.ntmps, [], [spl 1 2 6 0]⟩
theorem vcTsh (sta spa aca jea loa hia bla oga sga : Int) (pta : LL) (q0 q1 q2 q3 q4 q5 q6 q7 q8 q9 k u : Int) (Q : Res -> Prop) : (nfun true CTsh Try.f48 (bodyOf Try.f48) [.agg [I6 sta, I6 spa, I6 aca, I6 jea, I6 loa, I6 hia, I6 bla, I6 oga, I6 sga, .sl false [4] pta], .agg [I6 q0, I6 q1, I6 q2, I6 q3, I6 q4, I6 q5, I6 q6, I6 q7, I6 q8, I6 q9], .ce (I6 k), .ce (I6 u)] [] Q) =
 ((k = 0 -> Bb (q3 != 0) ((0 <= bla /\ bla <= 4096) /\ ∀ x1, x1 = bsh bla q7 -> Q ⟨.ce (I6 x1), false, [], []⟩) (Bb (q4 == q7) ((0 <= bla /\ bla <= 4096) /\ ∀ x2, x2 = bsh bla q7 -> Q ⟨.ce (I6 x2), false, [], []⟩) (R6 (u - q0) /\ ∀ x3, x3 = u - q0 -> ∀ x4, x4 = min x3 bla -> Bb (q7 == (-1 : Int)) (R6 (0 - x4) /\ ∀ x5, x5 = 0 - x4 -> Q ⟨.ce (I6 x5), false, [], []⟩) (R6 (x4 - bla) /\ ∀ x6, x6 = x4 - bla -> Q ⟨.ce (I6 x6), false, [], []⟩)))) /\ (k ≠ 0 -> (k = 1 -> Bb (q3 != 0) ((0 <= bla /\ bla <= 4096) /\ ∀ x7, x7 = bsh bla q8 -> Q ⟨.ce (I6 x7), false, [], []⟩) (Bb (q5 == q8) ((0 <= bla /\ bla <= 4096) /\ ∀ x8, x8 = bsh bla q8 -> Q ⟨.ce (I6 x8), false, [], []⟩) (R6 (u - q0) /\ ∀ x9, x9 = u - q0 -> ∀ x10, x10 = min x9 bla -> Bb (q8 == (-1 : Int)) (R6 (0 - x10) /\ ∀ x11, x11 = 0 - x10 -> Q ⟨.ce (I6 x11), false, [], []⟩) (R6 (x10 - bla) /\ ∀ x12, x12 = x10 - bla -> Q ⟨.ce (I6 x12), false, [], []⟩)))) /\ (k ≠ 1 -> (k = 2 -> Bb (q3 != 0) ((0 <= bla /\ bla <= 4096) /\ ∀ x13, x13 = bsh bla q9 -> Q ⟨.ce (I6 x13), false, [], []⟩) (Bb (q6 == q9) ((0 <= bla /\ bla <= 4096) /\ ∀ x14, x14 = bsh bla q9 -> Q ⟨.ce (I6 x14), false, [], []⟩) (R6 (u - q0) /\ ∀ x15, x15 = u - q0 -> ∀ x16, x16 = min x15 bla -> Bb (q9 == (-1 : Int)) (R6 (0 - x16) /\ ∀ x17, x17 = 0 - x16 -> Q ⟨.ce (I6 x17), false, [], []⟩) (R6 (x16 - bla) /\ ∀ x18, x18 = x16 - bla -> Q ⟨.ce (I6 x18), false, [], []⟩)))) /\ (k ≠ 2 -> False)))) := by kernel_rfl
def SMotors (hA : List HV) (pA : List (List HC)) : SR :=
 match hA, pA with
 | [.agg [.int .i64 s0, .int .i64 s1, .int .i64 s2, .sl false [4, 4, 4, 4, 4, 4, 4] sg, .sl false [4, 4, 4] mk], .agg ax, .agg [.sl false [4, 4, 4, 4, 4, 4, 4, 4, 4, 4] pk, .int .i64 ln, .int .i64 sa, .int .i64 d0, .int .i64 d1, .int .i64 d2], .ce (.int .i64 u)], [] =>
  match ax with
  | [.int .i64 sta, .int .i64 spa, .int .i64 aca, .int .i64 jea, .int .i64 loa, .int .i64 hia, .int .i64 bla, .int .i64 oga, .int .i64 sga, .sl false [4] pta, .int .i64 stb, .int .i64 spb, .int .i64 acb, .int .i64 jeb, .int .i64 lob, .int .i64 hib, .int .i64 blb, .int .i64 ogb, .int .i64 sgb, .sl false [4] ptb, .int .i64 stc, .int .i64 spc, .int .i64 acc, .int .i64 jec, .int .i64 loc, .int .i64 hic, .int .i64 blc, .int .i64 ogc, .int .i64 sgc, .sl false [4] ptc] =>
   .det (okLen sg /\ okPts s0 s1 s2 sg /\ okTrk pk ln /\ okMA sta oga sga pta bla /\ okMA stb ogb sgb ptb blb /\ okMA stc ogc sgc ptc blc /\ (0 <= sa /\ sa <= 18014398509481984))
    ⟨.agg [I6 (tmot sta oga sga pta bla (ptAt s0 sg 0 (tplace pk sa (clamp ln u))) pk d0 (clamp ln u) 0), I6 (tmot stb ogb sgb ptb blb (ptAt s1 sg 1 (tplace pk sa (clamp ln u))) pk d1 (clamp ln u) 1), I6 (tmot stc ogc sgc ptc blc (ptAt s2 sg 2 (tplace pk sa (clamp ln u))) pk d2 (clamp ln u) 2)], false, [], []⟩
  | _ => .fail
 | _, _ => .fail
def tabMotors : List (FuncId × HL.Spec) := [(43, SClamp), (38, SPlace), (45, SAt), (44, STFind), (46, SMotor), (47, SBsh), (48, STsh)]
noncomputable def CMotors : Ctx := ⟨Try.prog, gam tabMotors, Try.f41.ntmps, [(4000006, unrT [1000004, 1000005, 1000006, 1000008, 1000009, 1000011], fun _ => .fail)], []⟩
theorem vcMotors (s0 s1 s2 u ln sa d0 d1 d2 : Int) (sg mk pk : LL) (sta spa aca jea loa hia bla oga sga stb spb acb jeb lob hib blb ogb sgb stc spc acc jec loc hic blc ogc sgc : Int) (pta ptb ptc : LL) (Q : Res -> Prop) : (nfun true CMotors Try.f41 (bodyOf Try.f41) [.agg [I6 s0, I6 s1, I6 s2, .sl false [4, 4, 4, 4, 4, 4, 4] sg, .sl false [4, 4, 4] mk], .agg [I6 sta, I6 spa, I6 aca, I6 jea, I6 loa, I6 hia, I6 bla, I6 oga, I6 sga, .sl false [4] pta, I6 stb, I6 spb, I6 acb, I6 jeb, I6 lob, I6 hib, I6 blb, I6 ogb, I6 sgb, .sl false [4] ptb, I6 stc, I6 spc, I6 acc, I6 jec, I6 loc, I6 hic, I6 blc, I6 ogc, I6 sgc, .sl false [4] ptc], .agg [.sl false [4, 4, 4, 4, 4, 4, 4, 4, 4, 4] pk, I6 ln, I6 sa, I6 d0, I6 d1, I6 d2], .ce (I6 u)] [] Q) =
 (0 <= ln /\ ∀ x1, x1 = clamp ln u -> okTrk pk ln /\ ∀ x2, x2 = tplace pk sa (clamp ln x1) -> (okLen sg /\ okPts s0 s1 s2 sg /\ x2 <= 4611686018427387904) /\ ∀ x3, x3 = ptAt s0 sg (0 : Nat) x2 -> ∀ x4, x4 = ptAt s1 sg (1 : Nat) x2 -> ∀ x5, x5 = ptAt s2 sg (2 : Nat) x2 -> (okTrk pk ln /\ 0 <= x1 /\ x1 <= ln) /\ ∀ x6, x6 = tfind pk x1 -> ((0 < sta /\ sta <= 16777216) /\ okC oga sga pta /\ -1073741824 <= x3 /\ x3 <= 1073741824) /\ ∀ x7, x7 = mot sta oga sga pta x3 -> Br (x6 < 0) ((0 <= bla /\ bla <= 4096) /\ ∀ x8, x8 = bsh bla d0 -> R6 (x7 + x8) /\ ∀ x9, x9 = x7 + x8 -> ((0 < stb /\ stb <= 16777216) /\ okC ogb sgb ptb /\ -1073741824 <= x4 /\ x4 <= 1073741824) /\ ∀ x10, x10 = mot stb ogb sgb ptb x4 -> Br (x6 < 0) ((0 <= blb /\ blb <= 4096) /\ ∀ x11, x11 = bsh blb d1 ->
 R6 (x10 + x11) /\ ∀ x12, x12 = x10 + x11 -> ((0 < stc /\ stc <= 16777216) /\ okC ogc sgc ptc /\ -1073741824 <= x5 /\ x5 <= 1073741824) /\ ∀ x13, x13 = mot stc ogc sgc ptc x5 -> Br (x6 < 0) ((0 <= blc /\ blc <= 4096) /\ ∀ x14, x14 = bsh blc d2 -> R6 (x13 + x14) /\ ∀ x15, x15 = x13 + x14 -> Q ⟨.agg [I6 x9, I6 x12, I6 x15], false, [], []⟩) ((0 <= x6 /\ x6 < (pk.length : Int)) /\ (((0 : Int) <= 2 /\ (2 : Int) <= 2) /\ (0 <= blc /\ blc <= 4096) /\ (-18014398509481984 <= x1 /\ x1 <= 18014398509481984) /\ -18014398509481984 <= el pk x6.toNat /\ el pk x6.toNat <= 18014398509481984) /\ ∀ x16, x16 = tsh blc (ec pk x6.toNat 3) (sel3 (2 : Int) (ec pk x6.toNat 4) (ec pk x6.toNat 5) (ec pk x6.toNat 6)) (sel3 (2 : Int) (ec pk x6.toNat 7) (ec pk x6.toNat 8) (ec pk x6.toNat 9)) (el pk x6.toNat) x1 ->
 R6 (x13 + x16) /\ ∀ x17, x17 = x13 + x16 -> Q ⟨.agg [I6 x9, I6 x12, I6 x17], false, [], []⟩)) ((0 <= x6 /\ x6 < (pk.length : Int)) /\ (((0 : Int) <= 1 /\ (1 : Int) <= 2) /\ (0 <= blb /\ blb <= 4096) /\ (-18014398509481984 <= x1 /\ x1 <= 18014398509481984) /\ -18014398509481984 <= el pk x6.toNat /\ el pk x6.toNat <= 18014398509481984) /\ ∀ x18, x18 = tsh blb (ec pk x6.toNat 3) (sel3 (1 : Int) (ec pk x6.toNat 4) (ec pk x6.toNat 5) (ec pk x6.toNat 6)) (sel3 (1 : Int) (ec pk x6.toNat 7) (ec pk x6.toNat 8) (ec pk x6.toNat 9)) (el pk x6.toNat) x1 -> R6 (x10 + x18) /\ ∀ x19, x19 = x10 + x18 -> ((0 < stc /\ stc <= 16777216) /\ okC ogc sgc ptc /\ -1073741824 <= x5 /\ x5 <= 1073741824) /\ ∀ x20, x20 = mot stc ogc sgc ptc x5 ->
 Br (x6 < 0) ((0 <= blc /\ blc <= 4096) /\ ∀ x21, x21 = bsh blc d2 -> R6 (x20 + x21) /\ ∀ x22, x22 = x20 + x21 -> Q ⟨.agg [I6 x9, I6 x19, I6 x22], false, [], []⟩) ((0 <= x6 /\ x6 < (pk.length : Int)) /\ (((0 : Int) <= 2 /\ (2 : Int) <= 2) /\ (0 <= blc /\ blc <= 4096) /\ (-18014398509481984 <= x1 /\ x1 <= 18014398509481984) /\ -18014398509481984 <= el pk x6.toNat /\ el pk x6.toNat <= 18014398509481984) /\ ∀ x23, x23 = tsh blc (ec pk x6.toNat 3) (sel3 (2 : Int) (ec pk x6.toNat 4) (ec pk x6.toNat 5) (ec pk x6.toNat 6)) (sel3 (2 : Int) (ec pk x6.toNat 7) (ec pk x6.toNat 8) (ec pk x6.toNat 9)) (el pk x6.toNat) x1 -> R6 (x20 + x23) /\ ∀ x24, x24 = x20 + x23 -> Q ⟨.agg [I6 x9, I6 x19, I6 x24], false, [], []⟩))) ((0 <= x6 /\ x6 < (pk.length : Int)) /\ (((0 : Int) <= 0 /\ (0 : Int) <= 2) /\ (0 <= bla /\ bla <= 4096) /\ (-18014398509481984 <= x1 /\ x1 <= 18014398509481984) /\ -18014398509481984 <= el pk x6.toNat /\ el pk x6.toNat <= 18014398509481984) /\ ∀ x25, x25 = tsh bla (ec pk x6.toNat 3) (sel3 (0 : Int) (ec pk x6.toNat 4) (ec pk x6.toNat 5) (ec pk x6.toNat 6)) (sel3 (0 : Int) (ec pk x6.toNat 7) (ec pk x6.toNat 8) (ec pk x6.toNat 9)) (el pk x6.toNat) x1 -> R6 (x7 + x25) /\ ∀ x26, x26 = x7 + x25 -> ((0 < stb /\ stb <= 16777216) /\ okC ogb sgb ptb /\ -1073741824 <= x4 /\ x4 <= 1073741824) /\ ∀ x27, x27 = mot stb ogb sgb ptb x4 -> Br (x6 < 0) ((0 <= blb /\ blb <= 4096) /\ ∀ x28, x28 = bsh blb d1 -> R6 (x27 + x28) /\
 ∀ x29, x29 = x27 + x28 -> ((0 < stc /\ stc <= 16777216) /\ okC ogc sgc ptc /\ -1073741824 <= x5 /\ x5 <= 1073741824) /\ ∀ x30, x30 = mot stc ogc sgc ptc x5 -> Br (x6 < 0) ((0 <= blc /\ blc <= 4096) /\ ∀ x31, x31 = bsh blc d2 -> R6 (x30 + x31) /\ ∀ x32, x32 = x30 + x31 -> Q ⟨.agg [I6 x26, I6 x29, I6 x32], false, [], []⟩) ((0 <= x6 /\ x6 < (pk.length : Int)) /\ (((0 : Int) <= 2 /\ (2 : Int) <= 2) /\ (0 <= blc /\ blc <= 4096) /\ (-18014398509481984 <= x1 /\ x1 <= 18014398509481984) /\ -18014398509481984 <= el pk x6.toNat /\ el pk x6.toNat <= 18014398509481984) /\ ∀ x33, x33 = tsh blc (ec pk x6.toNat 3) (sel3 (2 : Int) (ec pk x6.toNat 4) (ec pk x6.toNat 5) (ec pk x6.toNat 6)) (sel3 (2 : Int) (ec pk x6.toNat 7) (ec pk x6.toNat 8) (ec pk x6.toNat 9)) (el pk x6.toNat) x1 ->
 R6 (x30 + x33) /\ ∀ x34, x34 = x30 + x33 -> Q ⟨.agg [I6 x26, I6 x29, I6 x34], false, [], []⟩)) ((0 <= x6 /\ x6 < (pk.length : Int)) /\ (((0 : Int) <= 1 /\ (1 : Int) <= 2) /\ (0 <= blb /\ blb <= 4096) /\ (-18014398509481984 <= x1 /\ x1 <= 18014398509481984) /\ -18014398509481984 <= el pk x6.toNat /\ el pk x6.toNat <= 18014398509481984) /\ ∀ x35, x35 = tsh blb (ec pk x6.toNat 3) (sel3 (1 : Int) (ec pk x6.toNat 4) (ec pk x6.toNat 5) (ec pk x6.toNat 6)) (sel3 (1 : Int) (ec pk x6.toNat 7) (ec pk x6.toNat 8) (ec pk x6.toNat 9)) (el pk x6.toNat) x1 -> R6 (x27 + x35) /\ ∀ x36, x36 = x27 + x35 -> ((0 < stc /\ stc <= 16777216) /\ okC ogc sgc ptc /\ -1073741824 <= x5 /\ x5 <= 1073741824) /\ ∀ x37, x37 = mot stc ogc sgc ptc x5 ->
 Br (x6 < 0) ((0 <= blc /\ blc <= 4096) /\ ∀ x38, x38 = bsh blc d2 -> R6 (x37 + x38) /\ ∀ x39, x39 = x37 + x38 -> Q ⟨.agg [I6 x26, I6 x36, I6 x39], false, [], []⟩) ((0 <= x6 /\ x6 < (pk.length : Int)) /\ (((0 : Int) <= 2 /\ (2 : Int) <= 2) /\ (0 <= blc /\ blc <= 4096) /\ (-18014398509481984 <= x1 /\ x1 <= 18014398509481984) /\ -18014398509481984 <= el pk x6.toNat /\ el pk x6.toNat <= 18014398509481984) /\ ∀ x40, x40 = tsh blc (ec pk x6.toNat 3) (sel3 (2 : Int) (ec pk x6.toNat 4) (ec pk x6.toNat 5) (ec pk x6.toNat 6)) (sel3 (2 : Int) (ec pk x6.toNat 7) (ec pk x6.toNat 8) (ec pk x6.toNat 9)) (el pk x6.toNat) x1 -> R6 (x37 + x40) /\ ∀ x41, x41 = x37 + x40 -> Q ⟨.agg [I6 x26, I6 x36, I6 x41], false, [], []⟩)))) := by kernel_rfl
end Go.Proofs.Ytoekmphdpepdbaa
namespace U
theorem lfA_spec : ∀ (l : LL) (i s : Int), 0 <= s -> (lfA l i s).1 = -1 ∨ ∃ j : Nat, j < l.length /\ (lfA l i s).1 = i + j /\ 0 <= (lfA l i s).2 /\ (lfA l i s).2 < ec l j 3
 | [], i, s, _ => .inl rfl
 | r :: l, i, s, hs => by
  unfold lfA
  by_cases h : s < r.getD 3 0
  . rw [if_pos h]
    exact .inr ⟨0, by simp, by simp, hs, h⟩
  . rw [if_neg h]
    rcases lfA_spec l (i + 1) (s - r.getD 3 0) (by omega) with h1 | ⟨j, h1, h2, h3, h4⟩
    . exact .inl h1
    . exact .inr ⟨j + 1, by simp; exact h1, by rw [h2]; omega, h3, h4⟩
theorem pfind_spec {sg : LL} (h : okLen sg) (p : Int) : (sg.length = 0 /\ pfind sg p = (-1, 0)) ∨ ∃ j : Nat, j < sg.length /\ (pfind sg p).1 = j /\ 0 <= (pfind sg p).2 /\ (pfind sg p).2 <= ec sg j 3 := by
 unfold pfind
 by_cases h0 : sg.length = 0
 . rw [if_pos h0]; exact .inl ⟨h0, rfl⟩
 . rw [if_neg h0]
   right
   by_cases h1 : 0 <= (lfA sg 0 (max p 0)).1
   . rw [if_pos h1]
     rcases lfA_spec sg 0 (max p 0) (by omega) with h2 | ⟨j, h2, h3, h4, h5⟩
     . omega
     . exact ⟨j, h2, by omega, h4, by omega⟩
   . rw [if_neg h1]
     have := h.2 (sg.length - 1) (by omega)
     exact ⟨sg.length - 1, by omega, by dsimp only; omega, by dsimp only; omega, Int.le_refl _⟩
theorem rnd_hull {a d L : Int} (hd : 0 <= d /\ d <= L) (hL : 0 < L) : (0 <= a -> 0 <= rnd (a * d) L /\ rnd (a * d) L <= a) /\ (a <= 0 -> a <= rnd (a * d) L /\ rnd (a * d) L <= 0) := by
 unfold rnd
 refine ⟨fun ha => ?_, fun ha => ?_⟩
 . have h1 := Int.mul_nonneg ha hd.1
   have h2 : a * d <= a * L := Int.mul_le_mul_of_nonneg_left hd.2 ha
   refine ⟨Int.ediv_nonneg (by omega) (by omega), Int.lt_add_one_iff.1 (Int.ediv_lt_of_lt_mul (by omega) ?_)⟩
   have : (a + 1) * (2 * L) = 2 * (a * L) + 2 * L := by grind
   omega
 . have h1 : a * d <= 0 := Int.mul_nonpos_of_nonpos_of_nonneg ha hd.1
   have h2 : a * L <= a * d := Int.mul_le_mul_of_nonpos_left ha hd.2
   refine ⟨Int.le_ediv_of_mul_le (by omega) ?_, Int.lt_add_one_iff.1 (Int.ediv_lt_of_lt_mul (by omega) (by omega))⟩
   have : a * (2 * L) = 2 * (a * L) := by grind
   omega
theorem mul_bd3 {a d : Int} (ha : -1073741824 <= a /\ a <= 1073741824) (hd : 0 <= d /\ d <= 4294967296) : -4611686018427387904 <= a * d /\ a * d <= 4611686018427387904 := by
 have := mul_bd2 (a := a) (b := d) (A := 1073741824) (B := 4294967296) ha hd
 omega
theorem coord_bd {s : Int} {sg : LL} {c : Nat} {j : Nat} {d : Int} (hl : okLen sg) (h0 : -536870912 <= s /\ s <= 536870912) (h : ∀ j, j < sg.length -> -536870912 <= ec sg j c /\ ec sg j c <= 536870912) (hj : j < sg.length) (hd : 0 <= d /\ d <= ec sg j 3) :
 (-1073741824 <= ec sg j c - bgn s sg c j /\ ec sg j c - bgn s sg c j <= 1073741824) /\ (-4611686018427387904 <= (ec sg j c - bgn s sg c j) * d /\ (ec sg j c - bgn s sg c j) * d <= 4611686018427387904) /\
 (-536870912 <= bgn s sg c j + rnd ((ec sg j c - bgn s sg c j) * d) (ec sg j 3) /\ bgn s sg c j + rnd ((ec sg j c - bgn s sg c j) * d) (ec sg j 3) <= 536870912) := by
 have b := bgn_bd (i := (j : Int)) h0 h (by omega)
 have e := h j hj
 have len := hl.2 j hj
 have m := mul_bd3 (a := ec sg j c - bgn s sg c j) (d := d) (by omega) (by omega)
 have hu := rnd_hull (a := ec sg j c - bgn s sg c j) hd (by omega)
 refine ⟨by omega, m, ?_⟩
 by_cases hs : 0 <= ec sg j c - bgn s sg c j
 . have := hu.1 hs; omega
 . have := hu.2 (by omega); omega
theorem ptAt_bd {s : Int} {sg : LL} {c : Nat} (hl : okLen sg) (h0 : -536870912 <= s /\ s <= 536870912) (h : ∀ j, j < sg.length -> -536870912 <= ec sg j c /\ ec sg j c <= 536870912) (p : Int) : -536870912 <= ptAt s sg c p /\ ptAt s sg c p <= 536870912 := by
 unfold ptAt
 rcases pfind_spec hl p with ⟨h1, h2⟩ | ⟨j, h1, h2, h3, h4⟩
 . rw [h2]; exact h0
 . rw [if_neg (by omega), h2]
   exact (coord_bd hl h0 h h1 ⟨h3, h4⟩).2.2
theorem clamp_bd {n v : Int} (h : 0 <= n) : 0 <= clamp n v /\ clamp n v <= n := by unfold clamp; omega
theorem clamp_idem {n v : Int} (h : 0 <= n) : clamp n (clamp n v) = clamp n v := by unfold clamp; omega
theorem tpcA_of (u : Int) : ∀ (l : LL) (i : Int) (j : Nat), j < l.length -> u <= endp l j -> (∀ k, k < j -> endp l k < u) -> tpcA l i u = i + j
 | [], i, j, h, _, _ => absurd h (Nat.not_lt_zero _)
 | r :: l, i, 0, _, h, _ => by
  unfold tpcA
  have h : u <= r.getD 0 0 + r.getD 1 0 := h
  rw [if_pos h]; simp
 | r :: l, i, j + 1, hj, h, hk => by
  unfold tpcA
  have h0 := hk 0 (by omega)
  have h0 : r.getD 0 0 + r.getD 1 0 < u := h0
  rw [if_neg (by omega), tpcA_of u l (i + 1) j (by simpa using hj) h (fun k hk' => hk (k + 1) (by omega))]
  omega
theorem tpcA_spec (u : Int) : ∀ (l : LL) (i : Int), (tpcA l i u = -1 /\ ∀ j, j < l.length -> endp l j < u) ∨ ∃ j : Nat, j < l.length /\ tpcA l i u = i + j /\ u <= endp l j /\ ∀ k, k < j -> endp l k < u
 | [], i => .inl ⟨rfl, fun j hj => absurd hj (Nat.not_lt_zero _)⟩
 | r :: l, i => by
  unfold tpcA
  by_cases h : u <= r.getD 0 0 + r.getD 1 0
  . rw [if_pos h]
    exact .inr ⟨0, by simp, by simp, h, fun k hk => absurd hk (Nat.not_lt_zero _)⟩
  . rw [if_neg h]
    have h0 : endp (r :: l) 0 < u := by show r.getD 0 0 + r.getD 1 0 < u; omega
    rcases tpcA_spec u l (i + 1) with ⟨h1, h2⟩ | ⟨j, h1, h2, h3, h4⟩
    . refine .inl ⟨h1, fun j hj => ?_⟩
      cases j with
      | zero => exact h0
      | succ j => exact h2 j (by simpa using hj)
    . refine .inr ⟨j + 1, by simp; exact h1, by rw [h2]; omega, h3, fun k hk => ?_⟩
      cases k with
      | zero => exact h0
      | succ k => exact h4 k (by omega)
theorem tfind_of {pk : LL} {u : Int} {j : Nat} (h : j < pk.length) (h1 : u <= endp pk j) (h2 : ∀ k, k < j -> endp pk k < u) : tfind pk u = j := by
 unfold tfind; rw [tpcA_of u pk 0 j h h1 h2]; omega
theorem endp_step {pk : LL} {ln : Int} (h : okTrk pk ln) {j : Nat} (hj : j + 1 < pk.length) : endp pk j < endp pk (j + 1) := by
 obtain ⟨_, _, _, _, h5, h6⟩ := h
 have a := h5 j hj
 have b := (h6 (j + 1) hj).1
 unfold endp at *
 omega
theorem endp_mono {pk : LL} {ln : Int} (h : okTrk pk ln) {i : Nat} : ∀ k : Nat, i + k < pk.length -> endp pk i <= endp pk (i + k)
 | 0, _ => Int.le_refl _
 | k + 1, hk => by
  have h1 := endp_mono h (i := i) k (by omega)
  have h2 := endp_step h (j := i + k) (by omega)
  have : i + (k + 1) = i + k + 1 := rfl
  rw [this]; omega
theorem endp_le {pk : LL} {ln : Int} (h : okTrk pk ln) {i j : Nat} (hij : i <= j) (hj : j < pk.length) : endp pk i <= endp pk j := by
 have := endp_mono h (i := i) (j - i) (by omega)
 rw [show i + (j - i) = j by omega] at this
 exact this
theorem at_bd {pk : LL} {ln : Int} (h : okTrk pk ln) {j : Nat} (hj : j < pk.length) : 0 <= ec pk j 0 /\ ec pk j 0 < endp pk j /\ endp pk j <= ln := by
 have hu := (h.2.2.2.2.2 j hj).1
 have h4 := h.2.2.2.1 (by omega)
 have hl := endp_le h (i := j) (j := pk.length - 1) (by omega) (by omega)
 have e : endp pk j = ec pk j 0 + ec pk j 1 := rfl
 refine ⟨?_, by omega, by omega⟩
 cases j with
 | zero => omega
 | succ i =>
  have h5 := h.2.2.2.2.1 i hj
  have h0 := endp_le h (i := 0) (j := i) (by omega) (by omega)
  have hu0 := (h.2.2.2.2.2 0 (by omega)).1
  have e0 : endp pk 0 = ec pk 0 0 + ec pk 0 1 := rfl
  omega
theorem tfind_spec {pk : LL} {ln u : Int} (h : okTrk pk ln) (hu : u <= ln) : (pk.length = 0 /\ tfind pk u = -1) ∨ ∃ j : Nat, j < pk.length /\ tfind pk u = j /\ u <= endp pk j /\ ∀ k, k < j -> endp pk k < u := by
 unfold tfind
 rcases tpcA_spec u pk 0 with ⟨h1, h2⟩ | ⟨j, h1, h2, h3, h4⟩
 . left
   refine ⟨?_, h1⟩
   by_cases h0 : pk.length = 0
   . exact h0
   . have a := h2 (pk.length - 1) (by omega)
     have b := h.2.2.2.1 (by omega)
     omega
 . exact .inr ⟨j, h1, by omega, h3, h4⟩
theorem mul3 {m x B : Int} (hm : -1 <= m /\ m <= 1) (hx : -B <= x /\ x <= B) : -B <= m * x /\ m * x <= B := by
 have : m = -1 ∨ m = 0 ∨ m = 1 := by omega
 rcases this with rfl | rfl | rfl <;> omega
theorem tplace_bd {pk : LL} {ln sa u : Int} (h : okTrk pk ln) (hsa : 0 <= sa /\ sa <= 18014398509481984) (hu : 0 <= u /\ u <= ln) : -36028797018963968 <= tplace pk sa u /\ tplace pk sa u <= 36028797018963968 := by
 unfold tplace
 rcases tfind_spec h hu.2 with ⟨h1, h2⟩ | ⟨j, h1, h2, h3, h4⟩
 . rw [h2, if_pos (by decide)]; omega
 . rw [if_neg (by omega), h2]
   have hj : ((j : Int)).toNat = j := rfl
   rw [hj]
   have a := at_bd h h1
   have b := h.2.2.2.2.2 j h1
   have hl := h.2.1
   have c := mul3 (x := u - ec pk j 0) (B := 18014398509481984) b.2.2 (by omega)
   omega
end U
namespace Go.Proofs.Ytoekmphdpepdbaa
open Go Go.HL U
attribute [local irreducible] hfun bodyT fragT
theorem sClamp : Sound Try.prog 43 SClamp := by
 refine sound_of (C := CClamp) [] Try.func43 (by kernel_rfl) (by decide +kernel) (by kernel_rfl) rfl trivial (loops0 (by kernel_rfl)) ?_
 intro hA pA R h
 unfold SClamp at h
 split at h
 case h_2 => exfalso; exact h
 rename_i v n
 refine byVC (vcClamp v n R) ?_
 rintro _ rfl x2 e2
 have := h.1
 have e : clamp n v = x2 := by unfold clamp; omega
 rw [<- e]; exact h.2
theorem loopTF : ∀ v Q, (LTF v).wp Q -> hloop CTF anTF (nthLoop Try.f44 0) v Q := by
 intro v Q h
 unfold LTF at h
 split at h
 case h_2 => exact h.elim
 rename_i u z lo hi pk ln sa d0 d1 d2
 obtain ⟨⟨hlo, hhi, ht, hu0, hu1⟩, hq⟩ := h
 subst hlo hhi
 refine hloop_rec (σ := Int × Int) (fun s => ([.ce (I6 u), .ce (.ptr 1000002 0), .ce (I6 z), .ce (I6 s.1), .ce (I6 s.2)], [[.sl false [4, 4, 4, 4, 4, 4, 4, 4, 4, 4] pk, I6 ln, I6 sa, I6 d0, I6 d1, I6 d2]]))
  (fun s => (s.2 - s.1).toNat) (fun s => (pk.length = 0 /\ s = (0, -1)) ∨ ((0 <= s.1 /\ s.1 <= s.2 /\ s.2 < pk.length) /\ u <= endp pk s.2.toNat /\ ∀ k : Nat, (k : Int) < s.1 -> endp pk k < u)) ?_ (0, (pk.length : Int) - 1) ?_
 . rintro ⟨lo, hi⟩ hI K hn hx _
   dsimp only at hI hn ⊢
   have hl1 := ht.1
   refine byVB (vbTF u z lo hi ln sa d0 d1 d2 pk K) ⟨fun g => ?_, fun g => ?_⟩
   . have g := odt g
     rcases hI with ⟨h1, h2⟩ | ⟨⟨h1, h2, h3⟩, h4, h5⟩
     . cases h2; omega
     refine ⟨by omega, fun x1 e1 => ⟨by decide, ?_⟩⟩
     have hd : x1.tdiv 2 = x1 / 2 := Int.tdiv_eq_ediv_of_nonneg (by omega)
     rw [hd]
     refine ⟨by omega, fun x2 e2 => ⟨by omega, ?_⟩⟩
     have hb := at_bd ht (j := x2.toNat) (by omega)
     have hln := ht.2.1
     have ee : el pk x2.toNat + ec pk x2.toNat 1 = endp pk x2.toNat := rfl
     rw [ee]
     refine ⟨by omega, fun x3 e3 => ⟨fun g2 => ?_, fun g2 => ⟨by omega, fun x4 e4 => ?_⟩⟩⟩
     . have g2 := odt g2
       exact hn (lo, x2) (.inr ⟨⟨h1, by dsimp only; omega, by dsimp only; omega⟩, by dsimp only; omega, h5⟩) (by dsimp only; omega)
     . have g2 := odf g2
       refine hn (x4, hi) (.inr ⟨⟨by dsimp only; omega, by dsimp only; omega, h3⟩, h4, fun k hk => ?_⟩) (by dsimp only; omega)
       have := endp_le ht (i := k) (j := x2.toNat) (by dsimp only at hk; omega) (by omega)
       omega
   . have g := odf g
     have e : tfind pk u = hi := by
      rcases hI with ⟨h1, h2⟩ | ⟨⟨h1, h2, h3⟩, h4, h5⟩
      . cases h2
        have : pk = [] := List.eq_nil_of_length_eq_zero h1
        subst this; rfl
      . have := tfind_of (pk := pk) (u := u) (j := hi.toNat) (by omega) h4 (fun k hk => h5 k (by omega))
        omega
     rw [e] at hq
     exact hx 0 _ hq
 . by_cases h0 : pk.length = 0
   . exact .inl ⟨h0, by rw [h0]; rfl⟩
   . have h4 := ht.2.2.2.1 (by omega)
     refine .inr ⟨⟨Int.le_refl _, by dsimp only; omega, by dsimp only; omega⟩, ?_, fun k hk => by dsimp only at hk; omega⟩
     dsimp only
     rw [show ((pk.length : Int) - 1).toNat = pk.length - 1 by omega]
     omega
theorem sTFind : Sound Try.prog 44 STFind := by
 refine sound_of (C := CTF) [] Try.func44 (by kernel_rfl) (by decide +kernel) (by kernel_rfl) rfl trivial (loops1 (by kernel_rfl) (loopOK_of (an := anTF) (S := LTF) (by kernel_rfl) loopTF)) ?_
 intro hA pA R h
 unfold STFind at h
 split at h
 case h_2 => exfalso; exact h
 rename_i pk ln sa d0 d1 d2 u
 obtain ⟨⟨h1, h2, h3⟩, hq⟩ := h
 have := h1.1
 exact byVC (vcTF u ln sa d0 d1 d2 pk R) ⟨by omega, fun x1 e1 => ⟨⟨rfl, e1, h1, h2, h3⟩, hq⟩⟩
theorem sPlace : Sound Try.prog 38 SPlace := by
 refine sound_of (C := CPlace) tabTF Try.func38 (by kernel_rfl) (by decide +kernel) (by kernel_rfl) rfl ⟨sClamp, sTFind, trivial⟩ (loops0 (by kernel_rfl)) ?_
 intro hA pA R h
 unfold SPlace at h
 split at h
 case h_2 => exfalso; exact h
 rename_i pk ln sa d0 d1 d2 u
 obtain ⟨ht, hq⟩ := h
 have hl := ht.2.1
 have hc := clamp_bd (v := u) hl.1
 unfold tplace at hq
 refine byVC (vcPlace u ln sa d0 d1 d2 pk R) ⟨hl.1, fun x1 e1 => ?_⟩
 rw [<- e1] at hq hc
 refine ⟨⟨ht, hc⟩, fun x2 e2 => ?_⟩
 rw [<- e2] at hq
 refine ⟨fun g => ?_, fun g => ?_⟩
 . rw [if_pos (odt g)] at hq; exact hq
 . have g := odf g
   rw [if_neg g] at hq
   rcases tfind_spec ht hc.2 with ⟨h1, h2⟩ | ⟨j, h1, h2, h3, h4⟩
   . omega
   have hj : x2.toNat = j := by omega
   have a := at_bd ht h1
   have b := ht.2.2.2.2.2 j h1
   rw [hj] at hq ⊢
   refine ⟨by omega, fun x3 e3 => ⟨by omega, fun x4 e4 => ⟨by omega, fun x5 e5 => ?_⟩⟩⟩
   have e5 : x5 = ec pk j 0 := e5
   have c := mul3 (m := x4) (x := x1 - x5) (B := 18014398509481984) (by omega) (by omega)
   refine ⟨by omega, fun x6 e6 => ?_⟩
   rw [<- e6] at c
   refine ⟨by omega, fun x7 e7 => ⟨by omega, fun x8 e8 => ?_⟩⟩
   rw [e8, e7, e6, e5, e4, e3]
   exact hq
theorem sBsh : Sound Try.prog 47 SBsh := by
 refine sound_of (C := CBsh) [] Try.func47 (by kernel_rfl) (by decide +kernel) (by kernel_rfl) rfl trivial (loops0 (by kernel_rfl)) ?_
 intro hA pA R h
 unfold SBsh at h
 split at h
 case h_2 => exfalso; exact h
 rename_i sta spa aca jea loa hia bla oga sga pta d
 obtain ⟨h1, hq⟩ := h
 unfold bsh at hq
 refine byVC (vcBsh sta spa aca jea loa hia bla oga sga pta d R) ⟨fun g => ⟨by omega, fun x1 e1 => ?_⟩, fun g => ?_⟩
 . rw [if_pos (by simpa using g)] at hq
   rw [show x1 = -bla by omega]; exact hq
 . rw [if_neg (by simpa using g)] at hq; exact hq
theorem mdv2 (n c : Int) : mdv n c 2 = rnd n c := by unfold mdv rnd; simp
theorem sAt : Sound Try.prog 45 SAt := by
 refine sound_of (C := CAt) tabAt Try.func45 (by kernel_rfl) (by decide +kernel) (by kernel_rfl) rfl ⟨sPFind, sMulDiv, trivial⟩ (loopsAll (by kernel_rfl)) ?_
 intro hA pA R h
 unfold SAt at h
 split at h
 case h_2 => exfalso; exact h
 rename_i s0 s1 s2 sg mk p
 obtain ⟨⟨hl, ⟨k0, k1, k2, kk⟩, hp⟩, hq⟩ := h
 unfold ptAt at hq
 refine byVC (vcAt s0 s1 s2 p sg mk R) ⟨⟨hl, hp⟩, ⟨_, rfl⟩, fun x ex => ?_⟩
 have sp := pfind_spec hl p
 rw [<- ex] at sp hq
 rcases sp with ⟨h1, h2⟩ | ⟨j, h1, h2, h3, h4⟩
 . rw [h2] at hq ⊢
   exact ⟨fun _ => hq, fun g => absurd g (by decide)⟩
 rw [if_neg (by omega), if_neg (by omega), if_neg (by omega), h2] at hq
 have hj : ((j : Int)).toNat = j := rfl
 rw [hj] at hq
 have hlen := hl.2 j h1
 have hl1 := hl.1
 have c0 := coord_bd hl k0 (fun j hj => (kk j hj).1) h1 ⟨h3, h4⟩
 have c1 := coord_bd hl k1 (fun j hj => (kk j hj).2.1) h1 ⟨h3, h4⟩
 have c2 := coord_bd hl k2 (fun j hj => (kk j hj).2.2) h1 ⟨h3, h4⟩
 have hx1 : x.1.toNat = j := by omega
 rw [hx1]
 refine ⟨fun g => ?_, fun g => ⟨fun g2 => ?_, fun g2 => ?_⟩⟩
 . have g := odt g; omega
 . have g2 := odt g2
   refine ⟨by omega, fun x2 e2 => ⟨by omega, by omega, ?_⟩⟩
   have hx2 : x2.toNat = j - 1 := by omega
   rw [hx2]
   have b : ∀ s c, bgn s sg c (j : Int) = ec sg (j - 1) c := fun s c => by
    unfold bgn; rw [if_neg (by omega), show ((j : Int) - 1).toNat = j - 1 by omega]
   rw [b, b, b] at hq
   rw [b] at c0 c1 c2
   have c0 : (-1073741824 <= el sg j - el sg (j - 1) /\ el sg j - el sg (j - 1) <= 1073741824) /\ (-4611686018427387904 <= (el sg j - el sg (j - 1)) * x.2 /\ (el sg j - el sg (j - 1)) * x.2 <= 4611686018427387904) /\
    (-536870912 <= el sg (j - 1) + rnd ((el sg j - el sg (j - 1)) * x.2) (ec sg j 3) /\ el sg (j - 1) + rnd ((el sg j - el sg (j - 1)) * x.2) (ec sg j 3) <= 536870912) := c0
   refine ⟨by omega, ?_⟩
   rintro _ rfl
   refine ⟨⟨by omega, by omega, by omega, c0.2.1, by decide, by decide⟩, ?_⟩
   rw [mdv2]
   rintro _ rfl _ _
   refine ⟨by omega, ?_⟩
   rintro _ rfl
   refine ⟨by omega, ?_⟩
   rintro _ rfl
   refine ⟨⟨by omega, by omega, by omega, c1.2.1, by decide, by decide⟩, ?_⟩
   rw [mdv2]
   rintro _ rfl _ _
   refine ⟨by omega, ?_⟩
   rintro _ rfl
   refine ⟨by omega, ?_⟩
   rintro _ rfl
   refine ⟨⟨by omega, by omega, by omega, c2.2.1, by decide, by decide⟩, ?_⟩
   rw [mdv2]
   rintro _ rfl _ _
   refine ⟨by omega, ?_⟩
   rintro _ rfl
   exact hq
 . have g2 := odf g2
   refine ⟨by omega, ?_⟩
   have b : ∀ s c, bgn s sg c (j : Int) = s := fun s c => by
    unfold bgn; rw [if_pos (by omega)]
   rw [b, b, b] at hq
   rw [b] at c0 c1 c2
   have c0 : (-1073741824 <= el sg j - s0 /\ el sg j - s0 <= 1073741824) /\ (-4611686018427387904 <= (el sg j - s0) * x.2 /\ (el sg j - s0) * x.2 <= 4611686018427387904) /\
    (-536870912 <= s0 + rnd ((el sg j - s0) * x.2) (ec sg j 3) /\ s0 + rnd ((el sg j - s0) * x.2) (ec sg j 3) <= 536870912) := c0
   refine ⟨by omega, ?_⟩
   rintro _ rfl
   refine ⟨⟨by omega, by omega, by omega, c0.2.1, by decide, by decide⟩, ?_⟩
   rw [mdv2]
   rintro _ rfl _ _
   refine ⟨by omega, ?_⟩
   rintro _ rfl
   refine ⟨by omega, ?_⟩
   rintro _ rfl
   refine ⟨⟨by omega, by omega, by omega, c1.2.1, by decide, by decide⟩, ?_⟩
   rw [mdv2]
   rintro _ rfl _ _
   refine ⟨by omega, ?_⟩
   rintro _ rfl
   refine ⟨by omega, ?_⟩
   rintro _ rfl
   refine ⟨⟨by omega, by omega, by omega, c2.2.1, by decide, by decide⟩, ?_⟩
   rw [mdv2]
   rintro _ rfl _ _
   refine ⟨by omega, ?_⟩
   rintro _ rfl
   exact hq
theorem tsh_fin {bl mv w d at_ u : Int} {R : Res -> Prop} (hb : 0 <= bl /\ bl <= 4096) (hu : -18014398509481984 <= u /\ u <= 18014398509481984) (ha : -18014398509481984 <= at_ /\ at_ <= 18014398509481984) (hq : R ⟨.ce (I6 (tsh bl mv w d at_ u)), false, [], []⟩) :
 ((mv != 0) = true -> (0 <= bl /\ bl <= 4096) /\ ∀ x1 : Int, x1 = bsh bl d -> R ⟨.ce (I6 x1), false, [], []⟩) /\
 ((mv != 0) = false -> ((w == d) = true -> (0 <= bl /\ bl <= 4096) /\ ∀ x2 : Int, x2 = bsh bl d -> R ⟨.ce (I6 x2), false, [], []⟩) /\
  ((w == d) = false -> (-9223372036854775808 <= u - at_ /\ u - at_ <= 9223372036854775807) /\ ∀ x3 : Int, x3 = u - at_ -> ∀ x4 : Int, x4 = min x3 bl ->
   ((d == -1) = true -> (-9223372036854775808 <= 0 - x4 /\ 0 - x4 <= 9223372036854775807) /\ ∀ x5 : Int, x5 = 0 - x4 -> R ⟨.ce (I6 x5), false, [], []⟩) /\
   ((d == -1) = false -> (-9223372036854775808 <= x4 - bl /\ x4 - bl <= 9223372036854775807) /\ ∀ x6 : Int, x6 = x4 - bl -> R ⟨.ce (I6 x6), false, [], []⟩))) := by
 unfold tsh at hq
 refine ⟨fun g => ⟨hb, fun x e => ?_⟩, fun g => ⟨fun g2 => ⟨hb, fun x e => ?_⟩, fun g2 => ⟨by omega, fun x3 e3 x4 e4 => ⟨fun g3 => ⟨by omega, fun x e => ?_⟩, fun g3 => ⟨by omega, fun x e => ?_⟩⟩⟩⟩⟩
 . have g : mv ≠ 0 := by simpa using g
   rw [if_pos (.inl g)] at hq; rw [e]; exact hq
 . have g2 : w = d := by simpa using g2
   rw [if_pos (.inr g2)] at hq; rw [e]; exact hq
 . have g : mv = 0 := by simpa using g
   have g2 : w ≠ d := by simpa using g2
   have g3 : d = -1 := by simpa using g3
   rw [if_neg (by intro hh; rcases hh with h | h; exact h g; exact g2 h), if_pos g3] at hq
   rw [show x = -(min (u - at_) bl) by omega]; exact hq
 . have g : mv = 0 := by simpa using g
   have g2 : w ≠ d := by simpa using g2
   have g3 : d ≠ -1 := by simpa using g3
   rw [if_neg (by intro hh; rcases hh with h | h; exact h g; exact g2 h), if_neg g3] at hq
   rw [show x = min (u - at_) bl - bl by omega]; exact hq
theorem sTsh : Sound Try.prog 48 STsh := by
 refine sound_of (C := CTsh) tabTsh Try.func48 (by kernel_rfl) (by decide +kernel) (by kernel_rfl) rfl ⟨sBsh, trivial⟩ (loops0 (by kernel_rfl)) ?_
 intro hA pA R h
 unfold STsh at h
 split at h
 case h_2 => exfalso; exact h
 rename_i sta spa aca jea loa hia bla oga sga pta q0 q1 q2 q3 q4 q5 q6 q7 q8 q9 k u
 obtain ⟨⟨hk, hb, hu, ha⟩, hq⟩ := h
 refine byVC (vcTsh sta spa aca jea loa hia bla oga sga pta q0 q1 q2 q3 q4 q5 q6 q7 q8 q9 k u R) ⟨fun e => ?_, fun e => ⟨fun e2 => ?_, fun e2 => ⟨fun e3 => ?_, fun e3 => by omega⟩⟩⟩
 . subst e; exact tsh_fin hb hu ha hq
 . subst e2; exact tsh_fin hb hu ha hq
 . subst e3; exact tsh_fin hb hu ha hq
theorem bsh_bd {bl d : Int} (h : 0 <= bl /\ bl <= 4096) : -4096 <= bsh bl d /\ bsh bl d <= 0 := by unfold bsh; split <;> omega
theorem tsh_bd {bl mv w d at_ u : Int} (h : 0 <= bl /\ bl <= 4096) (hu : at_ <= u) : -4096 <= tsh bl mv w d at_ u /\ tsh bl mv w d at_ u <= 0 := by
 have := bsh_bd (d := d) h
 unfold tsh
 split
 . exact this
 . split <;> omega
theorem motr_bd {st og sg p : Int} {pit : LL} (h : 0 < st) (hc : okC og sg pit) (hp : -1073741824 <= p /\ p <= 1073741824) : -2199023255552 <= mot st og sg pit p /\ mot st og sg pit p <= 2199023255554 := by
 have hb := corr_bd hc p
 rw [<- stp_eq]
 exact stp_bd h (by omega)
theorem sMotors : Sound Try.prog 41 SMotors := by
 refine sound_of (C := CMotors) tabMotors Try.func41 (by kernel_rfl) (by decide +kernel) (by kernel_rfl) rfl ⟨sClamp, sPlace, sAt, sTFind, sMotor, sBsh, sTsh, trivial⟩ (loopsAll (by kernel_rfl)) ?_
 intro hA pA R h
 unfold SMotors at h
 split at h
 case h_2 => exfalso; exact h
 rename_i s0 s1 s2 sg mk ax pk ln sa d0 d1 d2 u
 split at h
 case h_2 => exact h.elim
 rename_i sta spa aca jea loa hia bla oga sga pta stb spb acb jeb lob hib blb ogb sgb ptb stc spc acc jec loc hic blc ogc sgc ptc
 obtain ⟨⟨hl, ⟨k0, k1, k2, kk⟩, ht, ma, mb, mc, hsa⟩, hq⟩ := h
 have hln := ht.2.1
 have hc := clamp_bd (v := u) hln.1
 unfold tmot at hq
 refine byVC (vcMotors s0 s1 s2 u ln sa d0 d1 d2 sg mk pk sta spa aca jea loa hia bla oga sga stb spb acb jeb lob hib blb ogb sgb stc spc acc jec loc hic blc ogc sgc pta ptb ptc R) ⟨hln.1, fun x1 e1 => ⟨ht, fun x2 e2 => ?_⟩⟩
 have hci := clamp_idem (v := u) hln.1
 rw [<- e1] at hq hc hci
 rw [hci] at e2
 have hx2 := tplace_bd ht hsa hc
 rw [<- e2] at hq hx2
 refine ⟨⟨hl, ⟨k0, k1, k2, kk⟩, by omega⟩, fun x3 e3 x4 e4 x5 e5 => ?_⟩
 have p0 := ptAt_bd hl k0 (fun j hj => (kk j hj).1) x2
 have p1 := ptAt_bd hl k1 (fun j hj => (kk j hj).2.1) x2
 have p2 := ptAt_bd hl k2 (fun j hj => (kk j hj).2.2) x2
 rw [<- e3] at hq p0
 rw [<- e4] at hq p1
 rw [<- e5] at hq p2
 refine ⟨⟨ht, hc⟩, fun x6 e6 => ?_⟩
 rw [<- e6] at hq
 have q0 := motr_bd ma.1.1 ma.2.1 (p := x3) (by omega)
 have q1 := motr_bd mb.1.1 mb.2.1 (p := x4) (by omega)
 have q2 := motr_bd mc.1.1 mc.2.1 (p := x5) (by omega)
 refine ⟨⟨ma.1, ma.2.1, by omega⟩, fun x7 e7 => ?_⟩
 rw [<- e7] at hq q0
 rcases tfind_spec ht hc.2 with ⟨h1, h2⟩ | ⟨j, h1, h2, h3, h4⟩
 . have hx6 : x6 < 0 := by omega
   rw [if_pos hx6, if_pos hx6, if_pos hx6] at hq
   have w0 := bsh_bd (d := d0) ma.2.2
   have w1 := bsh_bd (d := d1) mb.2.2
   have w2 := bsh_bd (d := d2) mc.2.2
   have no : ∀ {P : Prop}, decide (x6 < 0) = false -> P := fun g => absurd hx6 (odf g)
   refine ⟨fun _ => ⟨ma.2.2, fun x8 e8 => ⟨by omega, fun x9 e9 => ⟨⟨mb.1, mb.2.1, by omega⟩, fun x10 e10 => ⟨fun _ => ⟨mb.2.2, fun x11 e11 => ⟨by omega, fun x12 e12 => ⟨⟨mc.1, mc.2.1, by omega⟩, fun x13 e13 => ⟨fun _ => ⟨mc.2.2, fun x14 e14 => ⟨by omega, fun x15 e15 => ?_⟩⟩, no⟩⟩⟩⟩, no⟩⟩⟩⟩, no⟩
   rw [<- e8, <- e10, <- e11, <- e13, <- e14, <- e9, <- e12, <- e15] at hq
   exact hq
 . have hx6 : ¬ x6 < 0 := by omega
   rw [if_neg hx6, if_neg hx6, if_neg hx6] at hq
   have hj : x6.toNat = j := by omega
   rw [hj] at hq ⊢
   have a := at_bd ht h1
   have hat : ec pk j 0 <= x1 := by
    cases j with
    | zero => have := (ht.2.2.2.1 (by omega)).1; omega
    | succ i =>
     have := h4 i (by omega)
     have := ht.2.2.2.2.1 i h1
     omega
   have a0 : -18014398509481984 <= el pk j /\ el pk j <= 18014398509481984 := by
    have : el pk j = ec pk j 0 := rfl
    omega
   have yes : ∀ {P : Prop}, decide (x6 < 0) = true -> P := fun g => absurd (odt g) hx6
   have w0 := tsh_bd (mv := ec pk j 3) (w := ec pk j 4) (d := ec pk j 7) ma.2.2 hat
   have w1 := tsh_bd (mv := ec pk j 3) (w := ec pk j 5) (d := ec pk j 8) mb.2.2 hat
   have w2 := tsh_bd (mv := ec pk j 3) (w := ec pk j 6) (d := ec pk j 9) mc.2.2 hat
   have hin : 0 <= x6 /\ x6 < (pk.length : Int) := by omega
   have hx1 : -18014398509481984 <= x1 /\ x1 <= 18014398509481984 := by omega
   refine ⟨yes, fun _ => ⟨hin, ⟨by decide, ma.2.2, hx1, a0⟩, fun y0 f0 => ?_⟩⟩
   have f0 : y0 = tsh bla (ec pk j 3) (ec pk j 4) (ec pk j 7) (ec pk j 0) x1 := f0
   rw [<- f0] at w0
   refine ⟨by omega, fun z0 g0 => ⟨⟨mb.1, mb.2.1, by omega⟩, fun x10 e10 => ⟨yes, fun _ => ⟨hin, ⟨by decide, mb.2.2, hx1, a0⟩, fun y1 f1 => ?_⟩⟩⟩⟩
   have f1 : y1 = tsh blb (ec pk j 3) (ec pk j 5) (ec pk j 8) (ec pk j 0) x1 := f1
   rw [<- f1] at w1
   refine ⟨by omega, fun z1 g1 => ⟨⟨mc.1, mc.2.1, by omega⟩, fun x20 e20 => ⟨yes, fun _ => ⟨hin, ⟨by decide, mc.2.2, hx1, a0⟩, fun y2 f2 => ?_⟩⟩⟩⟩
   have f2 : y2 = tsh blc (ec pk j 3) (ec pk j 6) (ec pk j 9) (ec pk j 0) x1 := f2
   rw [<- f2] at w2
   refine ⟨by omega, fun z2 g2 => ?_⟩
   rw [g0, g1, g2, f0, f1, f2, e10, e20]
   exact hq
end Go.Proofs.Ytoekmphdpepdbaa
namespace U
open Go
def qsm (l : LL) : Nat -> Int
 | 0 => 0
 | k + 1 => qsm l k + el l k
def qcumN (u : Int) (l : LL) (n : Nat) : LL := (List.range n).map fun k => [u + qsm l (k + 1)]
def qcum (u : Int) (l : LL) : LL := qcumN u l l.length
def qcumP (u : Int) (l : LL) (i : Nat) : LL := qcumN u l i ++ List.replicate (l.length - i) [0]
def qfu (A J u v a : Int) : LL := qcum u (qsp A J v a)
def qend (u : Int) (l : LL) : Int := if l.length = 0 then u else el l (l.length - 1)
def okSpd (l : LL) : Prop := l.length <= 4096 /\ ∀ j, j < l.length -> 0 <= el l j /\ el l j <= 16777216
def okU (u : Int) : Prop := -5000000000000000000 <= u /\ u <= 5000000000000000000
structure QM where
 u : Int
 v : Int
 a : Int
 l : Int
 p : Int
 b : Int
def qstart (u : Int) : QM := ⟨u * 256, 0, 0, u * 256, u * 256, u * 256⟩
def qmove (m : QM) (v : Int) : QM := ⟨m.u + v, v, v - m.v, m.u, m.l, m.p⟩
def scl (v p : Int) : Int := if p = 0 then 0 else min (max (IntKind.i64.wrap ((IntKind.i64.wrap (v * p)).tdiv 100)) 1) 16777216
def tgt (ho : Bool) (fo ro R fd ld : Int) : Int := if ho = true then 0 else if ld ≠ 0 then min (max fd 1) 16777216 else if fd = 0 then scl R ro else scl fd fo
def qtg (ho : Bool) (fo ro R : Int) (sg pk : LL) (sa ln u : Int) : Int :=
 tgt ho fo ro R (ec sg (pfind sg (tplace pk sa (clamp ln (u / 256)))).1.toNat 5) (ec sg (pfind sg (tplace pk sa (clamp ln (u / 256)))).1.toNat 6)
def hlv : Nat -> Int -> LL
 | 0, _ => []
 | n + 1, k => if 0 < k then [k] :: hlv n (k / 2) else []
def ngl (l : LL) : LL := l.map fun r => [-(r.getD 0 0)]
def chg (J : Int) : LL := hlv J.toNat J ++ [[0]] ++ ngl (hlv J.toNat J).reverse
end U
namespace Go.Proofs.Ytoekmphdpepdbaa
open Go Go.HL U
def SQFut (hargs : List HV) (pars : List (List HC)) : SR :=
 match hargs, pars with
 | [.agg [.int .i64 A, .int .i64 J, .int .i64 R], .agg [.int .i64 mu, .int .i64 mv, .int .i64 ma, .int .i64 ml, .int .i64 mp, .int .i64 mb]], [] => .all (okPl A J R /\ okU mu) (LL × Bool) (fun x => x = (qfu A J mu mv ma, qfok A J mv ma)) (fun x => ⟨.tup [.ce (.sl false [4] x.1), .ce (.bool x.2)], false, [], []⟩)
 | _, _ => .fail
def anQF : LAnn := ⟨[8, 9, 28, 29, 30], [8], [1000025], false⟩
def LQF (v : LV) : LR :=
 match v with
 | ([.ce (.msl 1000025 n cap), .ce (.int .i64 u), .ce (.sl false [4] l), .ce (.int .i64 len), .ce (.int .i64 k)], [[.arr [4] rows d]]) =>
  .det (n = l.length /\ len = l.length /\ k = 0 /\ rows = List.replicate l.length [0] /\ okSpd l /\ okU u) (.exit 0) ([.ce (.msl 1000025 n cap)], [[.arr [4] (qcum u l) d]])
 | _ => .fail
def tabQF : List (FuncId × HL.Spec) := [(17, SQStop)]
noncomputable def CQF : Ctx := ⟨Try.prog, gam tabQF, Try.f6.ntmps, [(7, anQF, LQF)], [43]⟩
theorem vbQF (u len k : Int) (n cap d : Nat) (l rows : LL) (K : HEx -> LV -> Prop) : (nbodyT true CQF anQF (nthLoop Try.f6 0) (([.ce (.msl 1000025 n cap), .ce (I6 u), .ce (.sl false [4] l), .ce (I6 len), .ce (I6 k)], [[.arr [4] rows d]])) K) =
 (Br (k < len) ((0 <= k /\ k < (l.length : Int)) /\ ∀ x1, x1 = el l k.toNat -> R6 (u + x1) /\ ∀ x2, x2 = u + x1 -> (0 <= k /\ k < ((n : Nat) : Int)) /\ k.toNat < rows.length /\ R6 (k + 1) /\ ∀ x3, x3 = k + 1 -> K .normal ([.ce (.msl (1000025 : Nat) n cap), .ce (I6 x2), .ce (.sl false [4] l), .ce (I6 len), .ce (I6 x3)], [[.arr [4] (List.set rows k.toNat [bif true && true then x2 else el rows k.toNat]) d]])) (K (.exit 0) ([.ce (.msl (1000025 : Nat) n cap)], [[.arr [4] rows d]]))) := by kernel_rfl
theorem vcQF (A J R mu mv ma ml mp mb : Int) (Q : Res -> Prop) : (nfun true CQF Try.f6 (bodyOf Try.f6) [.agg [I6 A, I6 J, I6 R], .agg [I6 mu, I6 mv, I6 ma, I6 ml, I6 mp, I6 mb]] [] Q) =
 (okPl A J R /\ (∃ (x : LL × Bool), x = (qsp A J mv ma, qfok A J mv ma)) /\ ∀ (x : LL × Bool), x = (qsp A J mv ma, qfok A J mv ma) -> Bb (!x.2) (Q ⟨.tup [.ce (.sl false [4] []), .ce (.bool false)], false, [], []⟩) (((0 : Int) <= (List.length x.1 : Int) /\ (List.length x.1 : Int) = (List.length x.1 : Int) /\ (List.length x.1 : Int) <= 140737488355328 /\ (List.length x.1 : Int) * 8 <= 140737488355328) /\ (Int.toNat (List.length x.1 : Int) = List.length x.1 /\ (List.length x.1 : Int) = (List.length x.1 : Int) /\ (0 : Int) = 0 /\ List.replicate (Int.toNat (List.length x.1 : Int)) [(0 : Int)] = List.replicate (List.length x.1) [(0 : Int)] /\ okSpd x.1 /\ okU mu) /\ Int.toNat (List.length x.1 : Int) = List.length (qcum mu x.1) /\ Q ⟨.tup [.ce (.sl false [4] (qcum mu x.1)), .ce (.bool true)], false, [], []⟩)) := by kernel_rfl
def SQRest (hargs : List HV) (pars : List (List HC)) : SR :=
 match hargs, pars with
 | [.agg [.int .i64 A, .int .i64 J, .int .i64 R], .agg [.int .i64 mu, .int .i64 mv, .int .i64 ma, .int .i64 ml, .int .i64 mp, .int .i64 mb]], [] => .all (okPl A J R /\ okU mu) (Int × Bool) (fun x => x = (if qfok A J mv ma = true then qend mu (qfu A J mu mv ma) else 0, qfok A J mv ma)) (fun x => ⟨.tup [.ce (I6 x.1), .ce (.bool x.2)], false, [], []⟩)
 | _, _ => .fail
def tabQRest : List (FuncId × HL.Spec) := [(6, SQFut)]
noncomputable def CQRest : Ctx := ⟨Try.prog, gam tabQRest, Try.f8.ntmps, [], []⟩
theorem vcQRest (A J R mu mv ma ml mp mb : Int) (Q : Res -> Prop) : (nfun true CQRest Try.f8 (bodyOf Try.f8) [.agg [I6 A, I6 J, I6 R], .agg [I6 mu, I6 mv, I6 ma, I6 ml, I6 mp, I6 mb]] [] Q) =
 ((okPl A J R /\ okU mu) /\ (∃ (x : LL × Bool), x = (qfu A J mu mv ma, qfok A J mv ma)) /\ ∀ (x : LL × Bool), x = (qfu A J mu mv ma, qfok A J mv ma) -> Bb (!x.2) (Q ⟨.tup [.ce (I6 0), .ce (.bool false)], false, [], []⟩) (Bb ((List.length x.1 : Int) == 0) (Q ⟨.tup [.ce (I6 mu), .ce (.bool true)], false, [], []⟩) (R6 ((List.length x.1 : Int) - 1) /\ ∀ x2, x2 = (List.length x.1 : Int) - 1 -> (0 <= x2 /\ x2 < (List.length x.1 : Int)) /\ ∀ x3, x3 = el x.1 x2.toNat -> Q ⟨.tup [.ce (I6 x3), .ce (.bool true)], false, [], []⟩))) := by kernel_rfl
def SQUnit (hargs : List HV) (pars : List (List HC)) : SR :=
 match hargs, pars with
 | [.ce (.int .i64 u)], [] => .det (-9223372036854775808 <= u /\ u <= 9223372036854775807) ⟨.ce (I6 (u / 256)), false, [], []⟩
 | _, _ => .fail
noncomputable def CQUnit : Ctx := ⟨Try.prog, gam [], Try.f39.ntmps, [], []⟩
theorem vcQUnit (u : Int) (Q : Res -> Prop) : (nfun true CQUnit Try.f39 (bodyOf Try.f39) [.ce (I6 u)] [] Q) =
 ((256 : Int) ≠ (0 : Int) /\ R6 (Int.tdiv u 256) /\ ∀ x1, x1 = Int.tdiv u 256 -> (256 : Int) ≠ (0 : Int) /\ ∀ x2, x2 = Int.tmod u 256 -> Br (x2 < 0) (R6 (x1 - 1) /\ ∀ x3, x3 = x1 - 1 -> Q ⟨.ce (I6 x3), false, [], []⟩) (Q ⟨.ce (I6 x1), false, [], []⟩)) := by kernel_rfl
def SQStart (hargs : List HV) (pars : List (List HC)) : SR :=
 match hargs, pars with
 | [.ce (.int .i64 u)], [] => .all (-18014398509481984 <= u /\ u <= 18014398509481984) QM (fun x => x = qstart u) (fun x => ⟨.agg [I6 x.u, I6 x.v, I6 x.a, I6 x.l, I6 x.p, I6 x.b], false, [], []⟩)
 | _, _ => .fail
noncomputable def CQStart : Ctx := ⟨Try.prog, gam [], Try.f10.ntmps, [], []⟩
theorem vcQStart (u : Int) (Q : Res -> Prop) : (nfun true CQStart Try.f10 (bodyOf Try.f10) [.ce (I6 u)] [] Q) =
 (R6 (u * 256) /\ ∀ x1, x1 = u * 256 -> Q ⟨.agg [I6 x1, I6 0, I6 0, I6 x1, I6 x1, I6 x1], false, [], []⟩) := by kernel_rfl
def SQMove (hargs : List HV) (pars : List (List HC)) : SR :=
 match hargs, pars with
 | [.agg [.int .i64 mu, .int .i64 mv, .int .i64 ma, .int .i64 ml, .int .i64 mp, .int .i64 mb], .ce (.int .i64 v)], [] => .all (okU mu /\ (-2199023255552 <= v /\ v <= 2199023255552) /\ (-2199023255552 <= mv /\ mv <= 2199023255552)) QM (fun x => x = qmove ⟨mu, mv, ma, ml, mp, mb⟩ v) (fun x => ⟨.agg [I6 x.u, I6 x.v, I6 x.a, I6 x.l, I6 x.p, I6 x.b], false, [], []⟩)
 | _, _ => .fail
noncomputable def CQMove : Ctx := ⟨Try.prog, gam [], Try.f12.ntmps, [], []⟩
theorem vcQMove (mu mv ma ml mp mb v : Int) (Q : Res -> Prop) : (nfun true CQMove Try.f12 (bodyOf Try.f12) [.agg [I6 mu, I6 mv, I6 ma, I6 ml, I6 mp, I6 mb], .ce (I6 v)] [] Q) =
 (R6 (mu + v) /\ ∀ x1, x1 = mu + v -> R6 (v - mv) /\ ∀ x2, x2 = v - mv -> Q ⟨.agg [I6 x1, I6 v, I6 x2, I6 mu, I6 ml, I6 mp], false, [], []⟩) := by kernel_rfl
def STgt (hargs : List HV) (pars : List (List HC)) : SR :=
 match hargs, pars with
 | [.agg [.int .i64 fo, .int .i64 ro, .bool ho, .bool so, .bool oo], .agg [.int .i64 A, .int .i64 J, .int .i64 R], .agg [.int .i64 _, .int .i64 _, .int .i64 _, .int .i64 _, .int .i64 _, .int .i64 fd, .int .i64 ld]], [] => .det True ⟨.ce (I6 (tgt ho fo ro R fd ld)), false, [], []⟩
 | _, _ => .fail
noncomputable def CTgt : Ctx := ⟨Try.prog, gam [], Try.f40.ntmps, [], []⟩
theorem vcTgt (fo ro : Int) (ho so oo : Bool) (A J R g0 g1 g2 g3 g4 fd ld : Int) (Q : Res -> Prop) : (nfun false CTgt Try.f40 (bodyOf Try.f40 ) [.agg [I6 fo, I6 ro, .bool ho, .bool so, .bool oo], .agg [I6 A, I6 J, I6 R], .agg [I6 g0, I6 g1, I6 g2, I6 g3, I6 g4, I6 fd, I6 ld]] [] Q) =
 (Bb (ho) (Q ⟨.ce (I6 0), false, [], []⟩) (Bb (ld != 0) (∀ x1, x1 = max fd 1 -> ∀ x2, x2 = min x1 16777216 -> Q ⟨.ce (I6 x2), false, [], []⟩) (Bb (fd == 0) (Bb (ro == 0) (Q ⟨.ce (I6 0), false, [], []⟩) (∀ x3, x3 = IntKind.wrap .i64 (R * ro) -> (100 : Int) ≠ (0 : Int) /\ ∀ x4, x4 = IntKind.wrap .i64 (Int.tdiv x3 100) -> ∀ x5, x5 = max x4 1 -> ∀ x6, x6 = min x5 16777216 -> Q ⟨.ce (I6 x6), false, [], []⟩)) (Bb (fo == 0) (Q ⟨.ce (I6 0), false, [], []⟩) (∀ x7, x7 = IntKind.wrap .i64 (fd * fo) -> (100 : Int) ≠ (0 : Int) /\ ∀ x8, x8 = IntKind.wrap .i64 (Int.tdiv x7 100) -> ∀ x9, x9 = max x8 1 -> ∀ x10, x10 = min x9 16777216 ->
 Q ⟨.ce (I6 x10), false, [], []⟩))))) := by kernel_rfl
def SQTg (hargs : List HV) (pars : List (List HC)) : SR :=
 match hargs, pars with
 | [.agg [.int .i64 s0, .int .i64 s1, .int .i64 s2, .sl false [4, 4, 4, 4, 4, 4, 4] sg, .sl false [4, 4, 4] mk], .agg [.sl false [4, 4, 4, 4, 4, 4, 4, 4, 4, 4] pk, .int .i64 ln, .int .i64 sa, .int .i64 d0, .int .i64 d1, .int .i64 d2], .agg [.int .i64 A, .int .i64 J, .int .i64 R], .agg [.int .i64 fo, .int .i64 ro, .bool ho, .bool so, .bool oo], .ce (.int .i64 u)], [] =>
  .det ((okLen sg /\ okTrk pk ln /\ (0 <= sa /\ sa <= 18014398509481984)) /\ 0 < sg.length /\ okU u) ⟨.ce (I6 (qtg ho fo ro R sg pk sa ln u)), false, [], []⟩
 | _, _ => .fail
def tabQTg : List (FuncId × HL.Spec) := [(39, SQUnit), (38, SPlace), (37, SPFind), (40, STgt)]
noncomputable def CQTg : Ctx := ⟨Try.prog, gam tabQTg, Try.f33.ntmps, [], []⟩
theorem vcQTg (s0 s1 s2 ln sa d0 d1 d2 A J R fo ro u : Int) (ho so oo : Bool) (sg mk pk : LL) (Q : Res -> Prop) : (nfun true CQTg Try.f33 (bodyOf Try.f33) [.agg [I6 s0, I6 s1, I6 s2, .sl false [4, 4, 4, 4, 4, 4, 4] sg, .sl false [4, 4, 4] mk], .agg [.sl false [4, 4, 4, 4, 4, 4, 4, 4, 4, 4] pk, I6 ln, I6 sa, I6 d0, I6 d1, I6 d2], .agg [I6 A, I6 J, I6 R], .agg [I6 fo, I6 ro, .bool ho, .bool so, .bool oo], .ce (I6 u)] [] Q) =
 (R6 u /\ ∀ x1, x1 = u / 256 -> okTrk pk ln /\ ∀ x2, x2 = tplace pk sa (clamp ln x1) -> (okLen sg /\ x2 <= 4611686018427387904) /\ (∃ (x : Int × Int), x = pfind sg x2) /\ ∀ (x : Int × Int), x = pfind sg x2 -> (0 <= x.1 /\ x.1 < (sg.length : Int)) /\ True /\ ∀ x4, x4 = tgt ho fo ro R (ec sg x.1.toNat 5) (ec sg x.1.toNat 6) -> Q ⟨.ce (I6 x4), false, [], []⟩) := by kernel_rfl
def SChg (hargs : List HV) (pars : List (List HC)) : SR :=
 match hargs, pars with
 | [.ce (.int .i64 j)], [] => .all (0 <= j /\ j <= 65536) (LL) (fun x => x = chg j) (fun x => ⟨.ce (.sl false [4] x), true, [], []⟩)
 | _, _ => .fail
def anCh0 : LAnn := ⟨[3, 100003, 4], [3, 100003], [], false⟩
def LCh0 (v : LV) : LR :=
 match v with
 | ([.ce (.sl false [4] l), .ce (.lit true), .ce (.int .i64 k)], []) => .det (l.length = 0 /\ 0 <= k /\ k <= 65536) (.exit 0) ([.ce (.sl false [4] (hlv k.toNat k)), .ce (.lit true)], [])
 | _ => .fail
def anCh1 : LAnn := ⟨[3, 5, 100005, 6], [5, 100005], [], false⟩
def LCh1 (v : LV) : LR :=
 match v with
 | ([.ce (.sl false [4] l), .ce (.sl false [4] y), .ce (.lit true), .ce (.int .i64 i)], []) =>
  .det (i = (l.length : Int) - 1 /\ l.length <= 65536 /\ y.length <= 65537 /\ ∀ j, j < l.length -> -65536 <= el l j /\ el l j <= 65536) (.exit 2) ([.ce (.sl false [4] (y ++ ngl l.reverse)), .ce (.lit true)], [])
 | _ => .fail
noncomputable def CChg : Ctx := ⟨Try.prog, gam [], Try.f20.ntmps, [(3, anCh0, LCh0), (8, anCh1, LCh1)], []⟩
theorem vbCh0 (l : LL) (k : Int) (K : HEx -> LV -> Prop) : (nbodyT true CChg anCh0 (nthLoop Try.f20 0) (([.ce (.sl false [4] l), .ce (.lit true), .ce (I6 k)], [])) K) =
 (Br (k > 0) (((l.length + 1) * 8 <= 140737488355328 /\ l.length + 1 <= maxLen) /\ (2 : Int) ≠ (0 : Int) /\ R6 (Int.tdiv k 2) /\ ∀ x1, x1 = Int.tdiv k 2 -> K .normal ([.ce (.sl false [4] (l ++ [[k]])), .ce (.lit true), .ce (I6 x1)], [])) (K (.exit 0) ([.ce (.sl false [4] l), .ce (.lit true)], []))) := by kernel_rfl
theorem vbCh1 (l y : LL) (i : Int) (K : HEx -> LV -> Prop) : (nbodyT true CChg anCh1 (nthLoop Try.f20 1) (([.ce (.sl false [4] l), .ce (.sl false [4] y), .ce (.lit true), .ce (I6 i)], [])) K) =
 (Br (i >= 0) ((0 <= i /\ i < (l.length : Int)) /\ ∀ x1, x1 = el l i.toNat -> R6 (0 - x1) /\ ∀ x2, x2 = 0 - x1 -> ((y.length + 1) * 8 <= 140737488355328 /\ y.length + 1 <= maxLen) /\ R6 (i - 1) /\ ∀ x3, x3 = i - 1 -> K .normal ([.ce (.sl false [4] l), .ce (.sl false [4] (y ++ [[x2]])), .ce (.lit true), .ce (I6 x3)], [])) (K (.exit 2) ([.ce (.sl false [4] y), .ce (.lit true)], []))) := by kernel_rfl
theorem vcChg (j : Int) (Q : Res -> Prop) : (nfun true CChg Try.f20 (bodyOf Try.f20) [.ce (I6 j)] [] Q) =
 (((0 : Nat) = 0 /\ 0 <= j /\ j <= 65536) /\ (((0 : Nat) + List.length (hlv j.toNat j)) * 8 <= 140737488355328 /\ (0 : Nat) + List.length (hlv j.toNat j) <= maxLen) /\ ((List.length ([] ++ hlv j.toNat j) + 1) * 8 <= 140737488355328 /\ List.length ([] ++ hlv j.toNat j) + 1 <= maxLen) /\ R6 ((((List.length (hlv j.toNat j)) : Nat) : Int) - 1) /\ ∀ x1, x1 = (((List.length (hlv j.toNat j)) : Nat) : Int) - 1 -> (x1 = (((List.length (hlv j.toNat j)) : Nat) : Int) - 1 /\ List.length (hlv j.toNat j) <= 65536 /\ List.length ([] ++ hlv j.toNat j ++ [[(0 : Int)]]) <= 65537 /\ ∀ (j_1 : Nat), j_1 < List.length (hlv j.toNat j) -> -65536 <= el (hlv j.toNat j) j_1 /\ el (hlv j.toNat j) j_1 <= 65536) /\ Q ⟨.ce (.sl false [4] ([] ++ hlv j.toNat j ++ [[(0 : Int)]] ++ ngl (List.reverseAux (hlv j.toNat j) []))), true, [], []⟩) := by kernel_rfl
end Go.Proofs.Ytoekmphdpepdbaa
namespace U
theorem qst_bd {A J : Int} (hA : 1 <= A) (hJ : 1 <= J) : ∀ (n : Nat) {v a : Int}, qready A J v a = true -> ∀ j, j < (qst A J n v a).length -> 0 <= el (qst A J n v a) j /\ el (qst A J n v a) j <= 16777216 := by
 intro n
 induction n with
 | zero => intro v a _ j hj; simp [qst] at hj
 | succ n ih =>
  intro v a h j hj
  by_cases hv : 0 < v
  . have e := (Go.Proofs.Ytoekmphdpepdbaa.qst_k (A := A) (J := J) (a := a) (n := n) hv).1
    rw [e] at hj ⊢
    have hr := qbrk_ready hA hJ h
    cases j with
    | zero => exact qready_v hJ hr
    | succ j => exact ih hr j (by simpa using hj)
  . rw [(qst_nil (A := A) (J := J) (a := a) (n := n + 1) hv).1] at hj; simp at hj
theorem qsp_spd {A J R v a : Int} (hp : okPl A J R) : okSpd (qsp A J v a) := by
 unfold qsp
 split
 . rename_i h
   unfold qfok at h
   rw [Bool.and_eq_true] at h
   exact ⟨qst_len 4096 v a, fun j hj => qst_bd hp.1.1 (by have := hp.2.1.1; omega) 4096 h.1 j hj⟩
 . exact ⟨by simp, fun j hj => by simp at hj⟩
theorem qsm_bd {l : LL} (h : okSpd l) : ∀ k, k <= l.length -> 0 <= qsm l k /\ qsm l k <= 16777216 * (k : Int) := by
 intro k
 induction k with
 | zero => intro _; simp [qsm]
 | succ k ih =>
  intro hk
  have a := ih (by omega)
  have b := h.2 k (by omega)
  unfold qsm
  omega
theorem qcumN_succ (u : Int) (l : LL) (n : Nat) : qcumN u l (n + 1) = qcumN u l n ++ [[u + qsm l (n + 1)]] := by
 unfold qcumN; rw [List.range_succ, List.map_append]; rfl
theorem qcumN_len (u : Int) (l : LL) (n : Nat) : (qcumN u l n).length = n := by simp [qcumN]
theorem qcum_len (u : Int) (l : LL) : (qcum u l).length = l.length := qcumN_len _ _ _
theorem el_qcum {u : Int} {l : LL} {k : Nat} (h : k < l.length) : el (qcum u l) k = u + qsm l (k + 1) := by
 unfold qcum qcumN el; simp [List.getD_eq_getElem?_getD, h]
theorem qcumP_set {u : Int} {l : LL} {i : Nat} (h : i < l.length) : (qcumP u l i).set i [u + qsm l (i + 1)] = qcumP u l (i + 1) := by
 unfold qcumP
 have hl := qcumN_len u l i
 rw [List.set_append_right _ _ (by omega), hl, Nat.sub_self, show l.length - i = (l.length - (i + 1)) + 1 by omega, List.replicate_succ, List.set_cons_zero, qcumN_succ]
 simp
theorem qcumP_len {u : Int} {l : LL} {i : Nat} (h : i <= l.length) : (qcumP u l i).length = l.length := by simp [qcumP, qcumN]; omega
theorem qcumP_all (u : Int) (l : LL) : qcumP u l l.length = qcum u l := by simp [qcumP, qcum]
theorem qcumP_none (u : Int) (l : LL) : qcumP u l 0 = List.replicate l.length [0] := by simp [qcumP, qcumN]
theorem hlv_fuel : ∀ (n m : Nat) {k : Int}, k <= n -> k <= m -> hlv n k = hlv m k := by
 intro n
 induction n with
 | zero =>
  intro m k h _
  cases m with
  | zero => rfl
  | succ m => unfold hlv; rw [if_neg (by omega)]
 | succ n ih =>
  intro m k h1 h2
  cases m with
  | zero => unfold hlv; rw [if_neg (by omega)]
  | succ m =>
   unfold hlv
   by_cases hk : 0 < k
   . rw [if_pos hk, if_pos hk, ih m (by omega) (by omega)]
   . rw [if_neg hk, if_neg hk]
theorem hlv_step {k : Int} (h : 0 < k) : hlv k.toNat k = [k] :: hlv (k / 2).toNat (k / 2) := by
 rw [show k.toNat = (k.toNat - 1) + 1 by omega, hlv, if_pos h, hlv_fuel (k.toNat - 1) (k / 2).toNat (by omega) (by omega)]
theorem hlv_end {k : Int} (h : ¬ 0 < k) : hlv k.toNat k = [] := by rw [show k.toNat = 0 by omega]; rfl
theorem hlv_bd : ∀ (n : Nat) {k : Int}, k <= 65536 -> ∀ j, j < (hlv n k).length -> 1 <= el (hlv n k) j /\ el (hlv n k) j <= 65536 := by
 intro n
 induction n with
 | zero => intro k _ j hj; simp [hlv] at hj
 | succ n ih =>
  intro k hk j hj
  unfold hlv at hj ⊢
  by_cases h0 : 0 < k
  . rw [if_pos h0] at hj ⊢
    cases j with
    | zero => exact ⟨h0, hk⟩
    | succ j => exact ih (by omega) j (by simpa using hj)
  . rw [if_neg h0] at hj; simp at hj
theorem hlv_len : ∀ (n : Nat) (k : Int), (hlv n k).length <= n := by
 intro n
 induction n with
 | zero => intro k; simp [hlv]
 | succ n ih =>
  intro k
  unfold hlv
  split
  . have := ih (k / 2); simp; omega
  . simp
theorem ngl_app (a b : LL) : ngl (a ++ b) = ngl a ++ ngl b := List.map_append
end U
namespace Go.Proofs.Ytoekmphdpepdbaa
open Go Go.HL U
attribute [local irreducible] hfun bodyT fragT
theorem loopQF : ∀ v Q, (LQF v).wp Q -> hloop CQF anQF (nthLoop Try.f6 0) v Q := by
 intro v Q h
 unfold LQF at h
 split at h
 case h_2 => exact h.elim
 rename_i n cap u l len k rows d
 obtain ⟨⟨h1, h2, h3, h4, h5, h6⟩, hq⟩ := h
 subst h1 h2 h3 h4
 rw [<- qcumP_none u l]
 have e0 : u = u + qsm l 0 := by simp [qsm]
 refine Eq.mp (by rw [<- e0]; rfl) (hloop_rec (C := CQF) (an := anQF) (c := nthLoop Try.f6 0) (Q := Q) (σ := Nat) (fun i => ([.ce (.msl 1000025 l.length cap), .ce (I6 (u + qsm l i)), .ce (.sl false [4] l), .ce (I6 (l.length : Int)), .ce (I6 (i : Int))], [[.arr [4] (qcumP u l i) d]]))
  (fun i => l.length - i) (fun i => i <= l.length) ?_ 0 (Nat.zero_le _))
 intro i hi K hn he hr
 have b := qsm_bd h5 i hi
 have hl := h5.1
 unfold okU at h6
 refine byVB (vbQF (u + qsm l i) l.length i l.length cap d l (qcumP u l i) K) ⟨fun c => ?_, fun c => ?_⟩
 . have c := odt c
   have b1 := h5.2 i (by omega)
   refine ⟨by omega, fun x1 e1 => ?_⟩
   have e1 : x1 = el l i := e1
   refine ⟨by omega, fun x2 e2 => ⟨by omega, by rw [qcumP_len hi]; omega, by omega, fun x3 e3 => ?_⟩⟩
   have e2' : x2 = u + qsm l (i + 1) := by rw [qsm]; omega
   have g := hn (i + 1) (by omega) (by omega)
   rw [<- qcumP_set (by omega), show ((i + 1 : Nat) : Int) = x3 by omega, <- e2'] at g
   exact g
 . have c := odf c
   obtain rfl : i = l.length := by omega
   rw [qcumP_all]
   exact he _ _ hq
theorem sQFut : Sound Try.prog 6 SQFut := by
 refine sound_of (C := CQF) tabQF Try.func6 (by kernel_rfl) (by decide +kernel) (by kernel_rfl) rfl ⟨sQStop, trivial⟩ (loops1 (by kernel_rfl) (loopOK_of (an := anQF) (S := LQF) (by kernel_rfl) loopQF)) ?_
 intro hargs pars R h
 unfold SQFut at h
 split at h
 case h_2 => exfalso; exact h
 rename_i A J Rp mu mv ma ml mp mb
 obtain ⟨⟨hp, hu⟩, _, hR⟩ := h
 refine byVC (vcQF A J Rp mu mv ma ml mp mb R) ⟨hp, ⟨_, rfl⟩, fun x e => ?_⟩
 subst e
 have hs := qsp_spd (v := mv) (a := ma) hp
 have hl := hs.1
 refine ⟨fun g => ?_, fun g => ⟨by dsimp only; omega, ⟨rfl, rfl, rfl, rfl, hs, hu⟩, by rw [qcum_len]; rfl, ?_⟩⟩
 . have g : qfok A J mv ma = false := by simpa using g
   exact hR ([], false) (by unfold qfu; rw [show qsp A J mv ma = [] by unfold qsp; rw [g]; rfl, g]; rfl)
 . have g : qfok A J mv ma = true := by simpa using g
   exact hR (qcum mu (qsp A J mv ma), true) (by rw [g]; rfl)
theorem sQRest : Sound Try.prog 8 SQRest := by
 refine sound_of (C := CQRest) tabQRest Try.func8 (by kernel_rfl) (by decide +kernel) (by kernel_rfl) rfl ⟨sQFut, trivial⟩ (loops0 (by kernel_rfl)) ?_
 intro hargs pars R h
 unfold SQRest at h
 split at h
 case h_2 => exfalso; exact h
 rename_i A J Rp mu mv ma ml mp mb
 obtain ⟨⟨hp, hu⟩, _, hR⟩ := h
 refine byVC (vcQRest A J Rp mu mv ma ml mp mb R) ⟨⟨hp, hu⟩, ⟨_, rfl⟩, fun x e => ?_⟩
 subst e
 have hl : (qfu A J mu mv ma).length <= 4096 := by unfold qfu; rw [qcum_len]; exact (qsp_spd hp).1
 refine ⟨fun g => ?_, fun g => ⟨fun g2 => ?_, fun g2 => ⟨by dsimp only; omega, fun x2 e2 => ?_⟩⟩⟩
 . have g : qfok A J mv ma = false := by simpa using g
   exact hR (0, false) (by rw [g]; rfl)
 . have g : qfok A J mv ma = true := by simpa using g
   have g2 : (qfu A J mu mv ma).length = 0 := by simpa using g2
   exact hR (mu, true) (by rw [g]; unfold qend; rw [if_pos rfl, if_pos g2])
 . have g : qfok A J mv ma = true := by simpa using g
   have g2 : (qfu A J mu mv ma).length ≠ 0 := by simpa using g2
   dsimp only at e2 ⊢
   refine ⟨by omega, fun x3 e3 => ?_⟩
   exact hR (x3, true) (by rw [g]; unfold qend; rw [if_pos rfl, if_neg g2, e3, show x2.toNat = (qfu A J mu mv ma).length - 1 by omega])
theorem sQUnit : Sound Try.prog 39 SQUnit := by
 refine sound_of (C := CQUnit) [] Try.func39 (by kernel_rfl) (by decide +kernel) (by kernel_rfl) rfl trivial (loops0 (by kernel_rfl)) ?_
 intro hargs pars R h
 unfold SQUnit at h
 split at h
 case h_2 => exfalso; exact h
 rename_i u
 obtain ⟨hu, hR⟩ := h
 have h1 : u.tdiv 256 = if 0 <= u then u / 256 else -((-u) / 256) := tdiv_ite (by decide)
 have h2 : u.tmod 256 = if 0 <= u then u % 256 else -((-u) % 256) := tmod_ite (by decide)
 refine byVC (vcQUnit u R) ⟨by decide, ?_⟩
 rw [h1, h2]
 by_cases h0 : 0 <= u
 . rw [if_pos h0, if_pos h0]
   refine ⟨by omega, fun x1 e1 => ⟨by decide, fun x2 e2 => ⟨fun g => by have := odt g; omega, fun _ => ?_⟩⟩⟩
   rw [e1]; exact hR
 . rw [if_neg h0, if_neg h0]
   refine ⟨by omega, fun x1 e1 => ⟨by decide, fun x2 e2 => ⟨fun g => ⟨by omega, fun x3 e3 => ?_⟩, fun g => ?_⟩⟩⟩
   . have := odt g
     rw [show x3 = u / 256 by omega]; exact hR
   . have := odf g
     rw [show x1 = u / 256 by omega]; exact hR
theorem sQStart : Sound Try.prog 10 SQStart := by
 refine sound_of (C := CQStart) [] Try.func10 (by kernel_rfl) (by decide +kernel) (by kernel_rfl) rfl trivial (loops0 (by kernel_rfl)) ?_
 intro hargs pars R h
 unfold SQStart at h
 split at h
 case h_2 => exfalso; exact h
 rename_i u
 obtain ⟨hu, _, hR⟩ := h
 refine byVC (vcQStart u R) ⟨by omega, fun x1 e1 => ?_⟩
 rw [e1]
 exact hR _ rfl
theorem sQMove : Sound Try.prog 12 SQMove := by
 refine sound_of (C := CQMove) [] Try.func12 (by kernel_rfl) (by decide +kernel) (by kernel_rfl) rfl trivial (loops0 (by kernel_rfl)) ?_
 intro hargs pars R h
 unfold SQMove at h
 split at h
 case h_2 => exfalso; exact h
 rename_i mu mv ma ml mp mb v
 obtain ⟨⟨hu, hv, hm⟩, _, hR⟩ := h
 unfold okU at hu
 refine byVC (vcQMove mu mv ma ml mp mb v R) ⟨by omega, fun x1 e1 => ⟨by omega, fun x2 e2 => ?_⟩⟩
 rw [e1, e2]
 exact hR _ rfl
theorem sTgt : Sound Try.prog 40 STgt := by
 refine sound_of (C := CTgt) [] Try.func40 (by kernel_rfl) (by decide +kernel) (by kernel_rfl) rfl trivial (loops0 (by kernel_rfl)) ?_
 intro hargs pars R h
 unfold STgt at h
 split at h
 case h_2 => exfalso; exact h
 rename_i fo ro ho so oo A J Rp g0 g1 g2 g3 g4 fd ld
 obtain ⟨_, hR⟩ := h
 unfold tgt scl at hR
 refine byVC (vcTgt fo ro ho so oo A J Rp g0 g1 g2 g3 g4 fd ld R) ⟨fun g => ?_, fun g => ⟨fun c => fun x1 e1 x2 e2 => ?_, fun c => ⟨fun c2 => ⟨fun c3 => ?_, fun c3 => fun x3 e3 => ⟨by decide, fun x4 e4 x5 e5 x6 e6 => ?_⟩⟩, fun c2 => ⟨fun c3 => ?_, fun c3 => fun x3 e3 => ⟨by decide, fun x4 e4 x5 e5 x6 e6 => ?_⟩⟩⟩⟩⟩
 . rw [if_pos g] at hR; exact hR
 . rw [if_neg (by simp [g]), if_pos (by simpa using c)] at hR; rw [e2, e1]; exact hR
 . rw [if_neg (by simp [g]), if_neg (by simpa using c), if_pos (by simpa using c2), if_pos (by simpa using c3)] at hR; exact hR
 . rw [if_neg (by simp [g]), if_neg (by simpa using c), if_pos (by simpa using c2), if_neg (by simpa using c3)] at hR; rw [e6, e5, e4, e3]; exact hR
 . rw [if_neg (by simp [g]), if_neg (by simpa using c), if_neg (by simpa using c2), if_pos (by simpa using c3)] at hR; exact hR
 . rw [if_neg (by simp [g]), if_neg (by simpa using c), if_neg (by simpa using c2), if_neg (by simpa using c3)] at hR; rw [e6, e5, e4, e3]; exact hR
theorem sQTg : Sound Try.prog 33 SQTg := by
 refine sound_of (C := CQTg) tabQTg Try.func33 (by kernel_rfl) (by decide +kernel) (by kernel_rfl) rfl ⟨sQUnit, sPlace, sPFind, sTgt, trivial⟩ (loops0 (by kernel_rfl)) ?_
 intro hargs pars R h
 unfold SQTg at h
 split at h
 case h_2 => exfalso; exact h
 rename_i s0 s1 s2 sg mk pk ln sa d0 d1 d2 A J Rp fo ro ho so oo u
 obtain ⟨⟨⟨hl, ht, hsa⟩, h0, hu⟩, hR⟩ := h
 have hc := clamp_bd (n := ln) (v := u / 256) ht.2.1.1
 have hp := tplace_bd ht hsa hc
 refine byVC (vcQTg s0 s1 s2 ln sa d0 d1 d2 A J Rp fo ro u ho so oo sg mk pk R) ⟨by unfold okU at hu; omega, fun x1 e1 => ⟨ht, fun x2 e2 => ?_⟩⟩
 subst e1
 refine ⟨⟨hl, by omega⟩, ⟨_, rfl⟩, fun x e => ?_⟩
 have hf := pfind_spec hl x2
 rw [<- e] at hf
 refine ⟨?_, trivial, fun x4 e4 => ?_⟩
 . rcases hf with hf | ⟨j, h1, h2, _⟩
   . omega
   . omega
 . rw [e4, e, e2]; exact hR
theorem loopCh0 : ∀ v Q, (LCh0 v).wp Q -> hloop CChg anCh0 (nthLoop Try.f20 0) v Q := by
 intro v Q h
 unfold LCh0 at h
 split at h
 case h_2 => exact h.elim
 rename_i l k
 obtain ⟨⟨h1, h2⟩, hq⟩ := h
 obtain rfl := List.eq_nil_of_length_eq_zero h1
 refine hloop_rec (σ := LL × Int) (fun s => ([.ce (.sl false [4] s.1), .ce (.lit true), .ce (I6 s.2)], [])) (fun s => s.2.toNat) (fun s => (0 <= s.2 /\ s.1.length + s.2 <= 65536) /\ hlv k.toNat k = s.1 ++ hlv s.2.toNat s.2) ?_ ([], k) ⟨⟨h2.1, by simpa using h2.2⟩, rfl⟩
 rintro ⟨y, i⟩ ⟨⟨i1, i2⟩, i3⟩ K hn he _
 dsimp only at i1 i2 i3 hn ⊢
 refine byVB (vbCh0 y i K) ⟨fun g => ?_, fun g => ?_⟩
 . have g := odt g
   rw [tdiv_pos i1]
   refine ⟨⟨by omega, by unfold maxLen; omega⟩, by decide, by omega, fun x1 e1 => hn (y ++ [[i]], x1) ⟨⟨by dsimp only; omega, by simp; omega⟩, ?_⟩ (by dsimp only; omega)⟩
   dsimp only
   rw [i3, hlv_step g, e1]
   simp
 . have g := odf g
   rw [hlv_end g, List.append_nil] at i3
   rw [i3] at hq
   exact he _ _ hq
theorem loopCh1 : ∀ v Q, (LCh1 v).wp Q -> hloop CChg anCh1 (nthLoop Try.f20 1) v Q := by
 intro v Q h
 unfold LCh1 at h
 split at h
 case h_2 => exact h.elim
 rename_i l y i
 obtain ⟨⟨h1, h2, h3, h4⟩, hq⟩ := h
 subst h1
 refine Eq.mp ?_ (hloop_rec (C := CChg) (an := anCh1) (c := nthLoop Try.f20 1) (Q := Q) (σ := Nat) (fun c => ([.ce (.sl false [4] l), .ce (.sl false [4] (y ++ ngl (l.drop c).reverse)), .ce (.lit true), .ce (I6 ((c : Int) - 1))], [])) (fun c => c) (fun c => c <= l.length) ?_ l.length (Nat.le_refl _))
 . rw [List.drop_length]; simp [ngl]
 intro c hc K hn he _
 refine byVB (vbCh1 l (y ++ ngl (l.drop c).reverse) ((c : Int) - 1) K) ⟨fun g => ?_, fun g => ?_⟩
 . have g := odt g
   have b := h4 (c - 1) (by omega)
   refine ⟨by omega, fun x1 e1 => ?_⟩
   rw [show ((c : Int) - 1).toNat = c - 1 by omega] at e1
   refine ⟨by omega, fun x2 e2 => ⟨⟨by simp [ngl]; omega, by simp [ngl]; unfold maxLen; omega⟩, by omega, fun x3 e3 => ?_⟩⟩
   have := hn (c - 1) (by omega) (by omega)
   rw [drop_next l (k := c - 1) (by omega) [], List.reverse_cons, ngl_app, show c - 1 + 1 = c by omega, <- List.append_assoc, show (((c - 1 : Nat) : Int) - 1) = x3 by omega] at this
   rw [show ngl [l.getD (c - 1) []] = [[x2]] by unfold ngl; simp; show -(el l (c - 1)) = x2; omega] at this
   exact this
 . have g := odf g
   obtain rfl : c = 0 := by omega
   exact he _ _ hq
theorem sChg : Sound Try.prog 20 SChg := by
 refine sound_of (C := CChg) [] Try.func20 (by kernel_rfl) (by decide +kernel) (by kernel_rfl) rfl trivial (loops2 (by kernel_rfl) (loopOK_of (an := anCh0) (S := LCh0) (by kernel_rfl) loopCh0) (loopOK_of (an := anCh1) (S := LCh1) (by kernel_rfl) loopCh1)) ?_
 intro hargs pars R h
 unfold SChg at h
 split at h
 case h_2 => exfalso; exact h
 rename_i j
 obtain ⟨hj, _, hR⟩ := h
 have hl := hlv_len j.toNat j
 have hb := hlv_bd j.toNat (k := j) hj.2
 refine byVC (vcChg j R) ⟨⟨rfl, hj⟩, ⟨by omega, by unfold maxLen; omega⟩, ⟨by simp only [List.nil_append]; omega, by simp only [List.nil_append]; unfold maxLen; omega⟩, by omega, fun x1 e1 => ⟨⟨e1, by omega, by simp; omega, fun i hi => by have := hb i hi; omega⟩, hR _ rfl⟩⟩
end Go.Proofs.Ytoekmphdpepdbaa
namespace U
open Go
def mtr (st og sg : Int) (pt : LL) (bl s : Int) (sgs : LL) (c : Nat) (pk : LL) (sa d : Int) (u : Int) : Int := tmot st og sg pt bl (ptAt s sgs c (tplace pk sa u)) pk d u c
def okT (pk : LL) (ln : Int) : Prop :=
 (pk.length = 0 -> ln = 0) /\ (0 < pk.length -> ec pk 0 0 = 0 /\ endp pk (pk.length - 1) = ln) /\
 (∀ j, j + 1 < pk.length -> ec pk (j + 1) 0 = endp pk j) /\ ∀ j, j < pk.length -> 1 <= ec pk j 1 /\ (0 <= ec pk j 2 /\ ec pk j 2 <= 18014398509481984) /\ (-1 <= ec pk j 3 /\ ec pk j 3 <= 1)
theorem tadd_okT {pk : LL} {ln q0 q1 q2 q3 q4 q5 q6 q7 q8 q9 : Int} (h : okT pk ln) (h1 : 1 <= q1) (h2 : 0 <= q2 /\ q2 <= 18014398509481984) (h3 : -1 <= q3 /\ q3 <= 1) : okT (tadd pk ln [q0, q1, q2, q3, q4, q5, q6, q7, q8, q9]).1 (tadd pk ln [q0, q1, q2, q3, q4, q5, q6, q7, q8, q9]).2 := by
 obtain ⟨a1, a2, a3, a4⟩ := h
 by_cases hc : 0 < pk.length /\ q3 ≠ 0 /\ ec pk (pk.length - 1) 3 = q3 /\ ec pk (pk.length - 1) 7 = q7 /\ ec pk (pk.length - 1) 8 = q8 /\ ec pk (pk.length - 1) 9 = q9
 . rw [tadd_more hc]
   have hp := hc.1
   have es : ∀ j c, ec (pk.set (pk.length - 1) (more (pk.getD (pk.length - 1) []) q1)) j c = if pk.length - 1 = j then (more (pk.getD (pk.length - 1) []) q1).getD c 0 else ec pk j c := fun j c => ec_set _ _ _ _ _ (by omega)
   have m0 : (more (pk.getD (pk.length - 1) []) q1).getD 0 0 = ec pk (pk.length - 1) 0 := rfl
   have m1 : (more (pk.getD (pk.length - 1) []) q1).getD 1 0 = ec pk (pk.length - 1) 1 + q1 := rfl
   have m2 : (more (pk.getD (pk.length - 1) []) q1).getD 2 0 = ec pk (pk.length - 1) 2 := rfl
   have m3 : (more (pk.getD (pk.length - 1) []) q1).getD 3 0 = ec pk (pk.length - 1) 3 := rfl
   have b2 := a2 hp
   refine ⟨fun h => ?_, fun _ => ⟨?_, ?_⟩, fun j hj => ?_, fun j hj => ?_⟩
   . dsimp only at h; rw [List.length_set] at h; omega
   . dsimp only; rw [es]
     split
     . rename_i e; rw [m0, e]; exact b2.1
     . exact b2.1
   . dsimp only; rw [List.length_set]
     unfold endp at b2 ⊢
     rw [es, es, if_pos rfl, if_pos rfl, m0, m1]
     omega
   . dsimp only at hj ⊢; rw [List.length_set] at hj
     unfold endp
     rw [es, es, es, if_neg (show ¬ pk.length - 1 = j by omega), if_neg (show ¬ pk.length - 1 = j by omega)]
     have := a3 j hj
     unfold endp at this
     split
     . rename_i e; rw [m0, e]; exact this
     . exact this
   . dsimp only at hj ⊢; rw [List.length_set] at hj
     rw [es, es, es]
     have := a4 j hj
     split
     . rename_i e; subst e; rw [m1, m2, m3]; omega
     . exact this
 . rw [tadd_app hc]
   have es : ∀ j c, ec (pk ++ [[ln, q1, q2, q3, q4, q5, q6, q7, q8, q9]]) j c = if j < pk.length then ec pk j c else ec [[ln, q1, q2, q3, q4, q5, q6, q7, q8, q9]] (j - pk.length) c := fun j c => ec_app _ _ _ _
   refine ⟨fun h => ?_, fun _ => ⟨?_, ?_⟩, fun j hj => ?_, fun j hj => ?_⟩
   . simp at h
   . dsimp only; rw [es]
     split
     . rename_i e; exact (a2 e).1
     . rename_i e
       have e0 : pk.length = 0 := by omega
       rw [e0]; show ln = 0
       exact a1 e0
   . dsimp only; rw [List.length_append]
     have e0 : pk.length + ([[ln, q1, q2, q3, q4, q5, q6, q7, q8, q9]] : LL).length - 1 = pk.length := by simp
     rw [e0]
     unfold endp
     rw [es, es, if_neg (by omega), if_neg (by omega), Nat.sub_self]
     show ln + q1 = ln + q1
     rfl
   . dsimp only at hj ⊢; rw [List.length_append] at hj
     have hj : j + 1 < pk.length + 1 := hj
     unfold endp
     rw [es, es, es, if_pos (show j < pk.length by omega), if_pos (show j < pk.length by omega)]
     split
     . rename_i e; have := a3 j e; unfold endp at this; exact this
     . rename_i e
       have hjl : j = pk.length - 1 := by omega
       have b2 := (a2 (by omega)).2
       unfold endp at b2
       rw [show j + 1 - pk.length = 0 by omega, hjl, b2]
       rfl
   . dsimp only at hj ⊢; rw [List.length_append] at hj
     have hj : j < pk.length + 1 := hj
     rw [es, es, es]
     split
     . rename_i e; exact a4 j e
     . rw [show j - pk.length = 0 by omega]
       exact ⟨h1, h2, h3⟩
theorem okT_seg {s0 s1 s2 : Int} {sg : LL} {b0 b1 b2 f t m : Int} {x : LegS} {i : Int} (hf : 0 <= f /\ f <= 18014398509481984) (ht : 0 <= t /\ t <= 18014398509481984) (hm : m = 1 ∨ m = -1) (h : okT x.pk x.ln) :
 okT (legSeg s0 s1 s2 sg b0 b1 b2 f t m x i).pk (legSeg s0 s1 s2 sg b0 b1 b2 f t m x i).ln := by
 unfold legSeg
 have hlow : 0 <= legLow x.bg (legE sg m x.bg i) f t := by unfold legLow; omega
 have hhigh : legHigh x.bg (legE sg m x.bg i) f t <= 18014398509481984 := by unfold legHigh; omega
 generalize legLow x.bg (legE sg m x.bg i) f t = low at *
 generalize legHigh x.bg (legE sg m x.bg i) f t = high at *
 unfold legPut
 split
 . rename_i hlh
   dsimp only
   have hs : 0 <= legS m low high /\ legS m low high <= 18014398509481984 := by unfold legS; split <;> omega
   refine tadd_okT ?_ (by omega) hs (by omega)
   unfold legTk
   split
   . exact tadd_okT h (by omega) hs (by omega)
   . exact h
 . exact h
theorem okT_all {s0 s1 s2 : Int} {sg : LL} {b0 b1 b2 f t m : Int} {x : LegS} (hf : 0 <= f /\ f <= 18014398509481984) (ht : 0 <= t /\ t <= 18014398509481984) (hm : m = 1 ∨ m = -1) (h : okT x.pk x.ln) :
 ∀ k, okT (legK s0 s1 s2 sg b0 b1 b2 f t m x k).pk (legK s0 s1 s2 sg b0 b1 b2 f t m x k).ln
 | 0 => h
 | k + 1 => okT_seg hf ht hm (okT_all hf ht hm h k)
theorem leg_ok {s0 s1 s2 : Int} {sg : LL} {b0 b1 b2 d0 d1 d2 f t : Int} (hl : okLen sg) (hb : okB3 b0 b1 b2) (hf : 0 <= f /\ f <= plen sg) (ht : 0 <= t /\ t <= plen sg) :
 okTrk (leg s0 s1 s2 sg b0 b1 b2 d0 d1 d2 f t).pk (leg s0 s1 s2 sg b0 b1 b2 d0 d1 d2 f t).ln := by
 have hp := plen_le hl
 have hl1 := hl.1
 unfold leg
 have hm : legM f t = 1 ∨ legM f t = -1 := by unfold legM; split <;> omega
 have hbg : (legM f t = 1 -> (if legM f t < 0 then plen sg else 0) = plen (sg.take 0)) /\ (legM f t = -1 -> (if legM f t < 0 then plen sg else 0) = plen (sg.take (sg.length - 0))) := by
  refine ⟨fun e => ?_, fun e => ?_⟩
  . rw [e]; rfl
  . rw [e, if_pos (by decide)]; simp
 generalize legM f t = m at *
 generalize (if m < 0 then plen sg else 0) = bg at *
 have J := legJ_all (s0 := s0) (s1 := s1) (s2 := s2) (f := f) (t := t) (x := ⟨[], 0, d0, d1, d2, bg⟩) hl hb hm ⟨⟨Int.le_refl _, by dsimp only; omega⟩, by simp, fun j hj => by simp at hj, hbg.1, hbg.2⟩ sg.length (Nat.le_refl _)
 have T := okT_all (s0 := s0) (s1 := s1) (s2 := s2) (sg := sg) (b0 := b0) (b1 := b1) (b2 := b2) (f := f) (t := t) (m := m) (x := ⟨[], 0, d0, d1, d2, bg⟩) (by omega) (by omega) hm ⟨fun _ => rfl, fun h => by simp at h, fun j hj => by simp at hj, fun j hj => by simp at hj⟩ sg.length
 exact ⟨by have := J.2.1; omega, by have := J.1; omega, T.1, T.2.1, T.2.2.1, T.2.2.2⟩
theorem at_le {pk : LL} {ln u : Int} (h : okTrk pk ln) (hu : 0 <= u) {j : Nat} (hj : j < pk.length) (hk : ∀ k, k < j -> endp pk k < u) : ec pk j 0 <= u := by
 cases j with
 | zero => have := (h.2.2.2.1 (by omega)).1; omega
 | succ i =>
  have := hk i (by omega)
  have := h.2.2.2.2.1 i hj
  omega
end U
namespace Go.Proofs.Ytoekmphdpepdbaa
open Go Go.HL U
attribute [local irreducible] hfun bodyT fragT
theorem mtr_bd {st og sg : Int} {pt : LL} {bl s : Int} {sgs : LL} {c : Nat} {pk : LL} {ln sa d u : Int} (hl : okLen sgs) (h0 : -536870912 <= s /\ s <= 536870912)
 (hp : ∀ j, j < sgs.length -> -536870912 <= ec sgs j c /\ ec sgs j c <= 536870912) (ht : okTrk pk ln) (hm : okMA st og sg pt bl) (hu : 0 <= u /\ u <= ln) :
 -4398046511104 <= mtr st og sg pt bl s sgs c pk sa d u /\ mtr st og sg pt bl s sgs c pk sa d u <= 4398046511104 := by
 have p := ptAt_bd hl h0 hp (tplace pk sa u)
 have q := motr_bd hm.1.1 hm.2.1 (p := ptAt s sgs c (tplace pk sa u)) (by omega)
 unfold mtr tmot
 split
 . have := bsh_bd (d := d) hm.2.2
   omega
 . rcases tfind_spec ht hu.2 with ⟨h1, h2⟩ | ⟨j, h1, h2, h3, h4⟩
   . omega
   . have hj : (tfind pk u).toNat = j := by omega
     rw [hj]
     have := tsh_bd (mv := ec pk j 3) (w := ec pk j (4 + c)) (d := ec pk j (7 + c)) hm.2.2 (at_le ht hu.1 h1 h4)
     omega
end Go.Proofs.Ytoekmphdpepdbaa
namespace U
open Go
def qmot (M0 M1 M2 : Int -> Int) (ln : Int) (w : LL) : LL :=
 w.map fun r => [M0 (clamp ln (r.getD 0 0 / 256)), M1 (clamp ln (r.getD 0 0 / 256)), M2 (clamp ln (r.getD 0 0 / 256))]
def qway (m : QM) (f : LL) : LL := [[m.b], [m.p], [m.l], [m.u]] ++ f ++ [[qend m.u f], [qend m.u f]]
def qsafe (A J : Int) (W : LL -> Bool) (Mo : LL -> LL) (m : QM) (lim : Int) : Bool :=
 qfok A J m.v m.a && (decide (qend m.u (qfu A J m.u m.v m.a) <= lim * 256) && W (Mo (qway m (qfu A J m.u m.v m.a))))
def qfl (T : Int -> Int) : Int -> LL -> Bool
 | _, [] => true
 | u, r :: l => decide (r.getD 0 0 - u <= T (r.getD 0 0)) && qfl T (r.getD 0 0) l
def qfit (A J : Int) (n : Nat) (T : Int -> Int) (m : QM) : Bool :=
 qfok A J m.v m.a && (decide (0 < n) && (decide (m.v <= T m.u) && qfl T m.u (qfu A J m.u m.v m.a)))
def win (L : LL) (i : Nat) : LL := (L.take i).drop (i - 4)
def okA3 (sta oga sga : Int) (pta : LL) (bla stb ogb sgb : Int) (ptb : LL) (blb stc ogc sgc : Int) (ptc : LL) (blc : Int) : Prop :=
 okMA sta oga sga pta bla /\ okMA stb ogb sgb ptb blb /\ okMA stc ogc sgc ptc blc
def okPT (s0 s1 s2 : Int) (sg pk : LL) (ln sa : Int) : Prop := okLen sg /\ okPts s0 s1 s2 sg /\ okTrk pk ln /\ (0 <= sa /\ sa <= 18014398509481984)
def okV (u : Int) : Prop := -4900000000000000000 <= u /\ u <= 4900000000000000000
def okL3 (spa aca jea spb acb jeb spc acc jec : Int) : Prop := okLi spa aca jea /\ okLi spb acb jeb /\ okLi spc acc jec
end U
namespace Go.Proofs.Ytoekmphdpepdbaa
open Go Go.HL U
def SSmo (hA : List HV) (pA : List (List HC)) : SR :=
 match hA, pA with
 | [.agg [.int .i64 s0, .int .i64 s1, .int .i64 s2, .sl false [4, 4, 4, 4, 4, 4, 4] sg, .sl false [4, 4, 4] mk], .agg ax, .agg [.sl false [4, 4, 4, 4, 4, 4, 4, 4, 4, 4] pk, .int .i64 ln, .int .i64 sa, .int .i64 d0, .int .i64 d1, .int .i64 d2], .ce (.sl false [4] w)], [] =>
  match ax with
  | [.int .i64 sta, .int .i64 spa, .int .i64 aca, .int .i64 jea, .int .i64 loa, .int .i64 hia, .int .i64 bla, .int .i64 oga, .int .i64 sga, .sl false [4] pta, .int .i64 stb, .int .i64 spb, .int .i64 acb, .int .i64 jeb, .int .i64 lob, .int .i64 hib, .int .i64 blb, .int .i64 ogb, .int .i64 sgb, .sl false [4] ptb, .int .i64 stc, .int .i64 spc, .int .i64 acc, .int .i64 jec, .int .i64 loc, .int .i64 hic, .int .i64 blc, .int .i64 ogc, .int .i64 sgc, .sl false [4] ptc] => .det (okPT s0 s1 s2 sg pk ln sa /\ okA3 sta oga sga pta bla stb ogb sgb ptb blb stc ogc sgc ptc blc /\ okL3 spa aca jea spb acb jeb spc acc jec /\ w.length <= 8000 /\ Sm 9000000000000000000 w)
   ⟨.ce (.bool (wth3 spa aca jea spb acb jeb spc acc jec (qmot (mtr sta oga sga pta bla s0 sg 0 pk sa d0) (mtr stb ogb sgb ptb blb s1 sg 1 pk sa d1) (mtr stc ogc sgc ptc blc s2 sg 2 pk sa d2) ln w))), false, [], []⟩
  | _ => .fail
 | _, _ => .fail
def anSmo : LAnn := ⟨[4, 5, 6, 8, 9, 100009, 12, 13, 14], [8], [1000004, 1000005, 1000006], false⟩
def LSmo (v : LV) : LR :=
 match v with
 | ([.ce (.ptr 1000004 0), .ce (.ptr 1000005 0), .ce (.ptr 1000006 0), .ce (.bool y), .ce (.sl false [4, 4, 4] z), .ce (.lit true), .ce (.sl false [4] w), .ce (.int .i64 len), .ce (.int .i64 k)], [[.int .i64 s0, .int .i64 s1, .int .i64 s2, .sl false [4, 4, 4, 4, 4, 4, 4] sg, .sl false [4, 4, 4] mk], ax, tr]) =>
  match ax with
  | [.int .i64 sta, .int .i64 spa, .int .i64 aca, .int .i64 jea, .int .i64 loa, .int .i64 hia, .int .i64 bla, .int .i64 oga, .int .i64 sga, .sl false [4] pta, .int .i64 stb, .int .i64 spb, .int .i64 acb, .int .i64 jeb, .int .i64 lob, .int .i64 hib, .int .i64 blb, .int .i64 ogb, .int .i64 sgb, .sl false [4] ptb, .int .i64 stc, .int .i64 spc, .int .i64 acc, .int .i64 jec, .int .i64 loc, .int .i64 hic, .int .i64 blc, .int .i64 ogc, .int .i64 sgc, .sl false [4] ptc] => match tr with
   | [.sl false [4, 4, 4, 4, 4, 4, 4, 4, 4, 4] pk, .int .i64 ln, .int .i64 sa, .int .i64 d0, .int .i64 d1, .int .i64 d2] =>
    .alts (z.length = 0 /\ len = w.length /\ k = 0 /\ okPT s0 s1 s2 sg pk ln sa /\ okA3 sta oga sga pta bla stb ogb sgb ptb blb stc ogc sgc ptc blc /\ okL3 spa aca jea spb acb jeb spc acc jec /\ w.length <= 8000 /\ Sm 9000000000000000000 w)
     [(wth3 spa aca jea spb acb jeb spc acc jec (qmot (mtr sta oga sga pta bla s0 sg 0 pk sa d0) (mtr stb ogb sgb ptb blb s1 sg 1 pk sa d1) (mtr stc ogc sgc ptc blc s2 sg 2 pk sa d2) ln w) = true, .exit 0, ([.ce (.bool y)], [[I6 s0, I6 s1, I6 s2, .sl false [4, 4, 4, 4, 4, 4, 4] sg, .sl false [4, 4, 4] mk], [I6 sta, I6 spa, I6 aca, I6 jea, I6 loa, I6 hia, I6 bla, I6 oga, I6 sga, .sl false [4] pta, I6 stb, I6 spb, I6 acb, I6 jeb, I6 lob, I6 hib, I6 blb, I6 ogb, I6 sgb, .sl false [4] ptb, I6 stc, I6 spc, I6 acc, I6 jec, I6 loc, I6 hic, I6 blc, I6 ogc, I6 sgc, .sl false [4] ptc], [.sl false [4, 4, 4, 4, 4, 4, 4, 4, 4, 4] pk, I6 ln, I6 sa, I6 d0, I6 d1, I6 d2]])),
      (wth3 spa aca jea spb acb jeb spc acc jec (qmot (mtr sta oga sga pta bla s0 sg 0 pk sa d0) (mtr stb ogb sgb ptb blb s1 sg 1 pk sa d1) (mtr stc ogc sgc ptc blc s2 sg 2 pk sa d2) ln w) = false, .ret, ([.ce (.bool false)], [[I6 s0, I6 s1, I6 s2, .sl false [4, 4, 4, 4, 4, 4, 4] sg, .sl false [4, 4, 4] mk], [I6 sta, I6 spa, I6 aca, I6 jea, I6 loa, I6 hia, I6 bla, I6 oga, I6 sga, .sl false [4] pta, I6 stb, I6 spb, I6 acb, I6 jeb, I6 lob, I6 hib, I6 blb, I6 ogb, I6 sgb, .sl false [4] ptb, I6 stc, I6 spc, I6 acc, I6 jec, I6 loc, I6 hic, I6 blc, I6 ogc, I6 sgc, .sl false [4] ptc], [.sl false [4, 4, 4, 4, 4, 4, 4, 4, 4, 4] pk, I6 ln, I6 sa, I6 d0, I6 d1, I6 d2]]))]
   | _ => .fail
  | _ => .fail
 | _ => .fail
def tabSmo : List (FuncId × HL.Spec) := [(39, SQUnit), (41, SMotors), (42, SAll)]
noncomputable def CSmo : Ctx := ⟨Try.prog, gam tabSmo, Try.f34.ntmps, [(3, anSmo, LSmo)], []⟩
theorem vbSmo (s0 s1 s2 len k ln sa d0 d1 d2 : Int) (y : Bool) (sg mk pk z w : LL) (sta spa aca jea loa hia bla oga sga stb spb acb jeb lob hib blb ogb sgb stc spc acc jec loc hic blc ogc sgc : Int) (pta ptb ptc : LL) (K : HEx -> LV -> Prop) : (nbodyT true CSmo anSmo (nthLoop Try.f34 0) (([.ce (.ptr 1000004 0), .ce (.ptr 1000005 0), .ce (.ptr 1000006 0), .ce (.bool y), .ce (.sl false [4, 4, 4] z), .ce (.lit true), .ce (.sl false [4] w), .ce (I6 len), .ce (I6 k)], [[I6 s0, I6 s1, I6 s2, .sl false [4, 4, 4, 4, 4, 4, 4] sg, .sl false [4, 4, 4] mk], [I6 sta, I6 spa, I6 aca, I6 jea, I6 loa, I6 hia, I6 bla, I6 oga, I6 sga, .sl false [4] pta, I6 stb, I6 spb, I6 acb, I6 jeb, I6 lob, I6 hib, I6 blb, I6 ogb, I6 sgb, .sl false [4] ptb, I6 stc, I6 spc, I6 acc, I6 jec, I6 loc, I6 hic, I6 blc, I6 ogc, I6 sgc, .sl false [4] ptc], [.sl false [4, 4, 4, 4, 4, 4, 4, 4, 4, 4] pk, I6 ln, I6 sa, I6 d0, I6 d1, I6 d2]])) K) =
 (Br (k < len) ((0 <= k /\ k < (w.length : Int)) /\ ∀ x1, x1 = el w k.toNat -> R6 x1 /\ ∀ x2, x2 = x1 / 256 -> (okLen sg /\ okPts s0 s1 s2 sg /\ okTrk pk ln /\ okMA sta oga sga pta bla /\ okMA stb ogb sgb ptb blb /\ okMA stc ogc sgc ptc blc /\ 0 <= sa /\ sa <= 18014398509481984) /\ ∀ x3, x3 = tmot sta oga sga pta bla (ptAt s0 sg (0 : Nat) (tplace pk sa (clamp ln x2))) pk d0 (clamp ln x2) (0 : Nat) -> ∀ x4, x4 = tmot stb ogb sgb ptb blb (ptAt s1 sg (1 : Nat) (tplace pk sa (clamp ln x2))) pk d1 (clamp ln x2) (1 : Nat) -> ∀ x5, x5 = tmot stc ogc sgc ptc blc (ptAt s2 sg (2 : Nat) (tplace pk sa (clamp ln x2))) pk d2 (clamp ln x2) (2 : Nat) -> ((z.length + 1) * 24 <= 140737488355328 /\ z.length + 1 <= maxLen) /\ Br ((((List.length (z ++ [[x3, x4, x5]])) : Nat) : Int) > 4) (((0 : Int) <= 1 /\ (1 : Int) <= (((List.length (z ++ [[x3, x4, x5]])) : Nat) : Int)) /\ (List.length (List.drop (1 : Nat) (z ++ [[x3, x4, x5]])) <= 8192 /\ Sm3 (1125899906842624 : Int) (List.drop (1 : Nat) (z ++ [[x3, x4, x5]])) /\ okLi spa aca jea /\ okLi spb acb jeb /\ okLi spc acc jec) /\ ∀ (x6 : Bool), x6 = wth3 spa aca jea spb acb jeb spc acc jec (List.drop (1 : Nat) (z ++ [[x3, x4, x5]])) -> Bb (!x6) (K .ret ([.ce (.bool false)], [[I6 s0, I6 s1, I6 s2, .sl false [4, 4, 4, 4, 4, 4, 4] sg, .sl false [4, 4, 4] mk], [I6 sta, I6 spa, I6 aca, I6 jea, I6 loa, I6 hia, I6 bla, I6 oga, I6 sga, .sl false [4] pta, I6 stb, I6 spb, I6 acb, I6 jeb, I6 lob, I6 hib, I6 blb, I6 ogb, I6 sgb, .sl false [4] ptb, I6 stc, I6 spc, I6 acc, I6 jec, I6 loc, I6 hic, I6 blc, I6 ogc, I6 sgc, .sl false [4] ptc], [.sl false [4, 4, 4, 4, 4, 4, 4, 4, 4, 4] pk, I6 ln, I6 sa, I6 d0, I6 d1, I6 d2]])) (R6 (k + 1) /\ ∀ x7, x7 = k + 1 -> K .normal ([.ce (.ptr 1000004 0), .ce (.ptr 1000005 0), .ce (.ptr 1000006 0), .ce (.bool y), .ce (.sl false [4, 4, 4] (List.drop (1 : Nat) (z ++ [[x3, x4, x5]]))), .ce (.lit true), .ce (.sl false [4] w), .ce (I6 len), .ce (I6 x7)], [[I6 s0, I6 s1, I6 s2, .sl false [4, 4, 4, 4, 4, 4, 4] sg, .sl false [4, 4, 4] mk], [I6 sta, I6 spa, I6 aca, I6 jea, I6 loa, I6 hia, I6 bla, I6 oga, I6 sga, .sl false [4] pta, I6 stb, I6 spb, I6 acb, I6 jeb, I6 lob, I6 hib, I6 blb, I6 ogb, I6 sgb, .sl false [4] ptb, I6 stc, I6 spc, I6 acc, I6 jec, I6 loc, I6 hic, I6 blc, I6 ogc, I6 sgc, .sl false [4] ptc], [.sl false [4, 4, 4, 4, 4, 4, 4, 4, 4, 4] pk, I6 ln, I6 sa, I6 d0, I6 d1, I6 d2]]))) ((List.length (z ++ [[x3, x4, x5]]) <= 8192 /\ Sm3 (1125899906842624 : Int) (z ++ [[x3, x4, x5]]) /\ okLi spa aca jea /\ okLi spb acb jeb /\ okLi spc acc jec) /\ ∀ (x8 : Bool), x8 = wth3 spa aca jea spb acb jeb spc acc jec (z ++ [[x3, x4, x5]]) -> Bb (!x8) (K .ret ([.ce (.bool false)], [[I6 s0, I6 s1, I6 s2, .sl false [4, 4, 4, 4, 4, 4, 4] sg, .sl false [4, 4, 4] mk], [I6 sta, I6 spa, I6 aca, I6 jea, I6 loa, I6 hia, I6 bla, I6 oga, I6 sga, .sl false [4] pta, I6 stb, I6 spb, I6 acb, I6 jeb, I6 lob, I6 hib, I6 blb, I6 ogb, I6 sgb, .sl false [4] ptb, I6 stc, I6 spc, I6 acc, I6 jec, I6 loc, I6 hic, I6 blc, I6 ogc, I6 sgc, .sl false [4] ptc], [.sl false [4, 4, 4, 4, 4, 4, 4, 4, 4, 4] pk, I6 ln, I6 sa, I6 d0, I6 d1, I6 d2]])) (R6 (k + 1) /\ ∀ x9, x9 = k + 1 -> K .normal ([.ce (.ptr 1000004 0), .ce (.ptr 1000005 0), .ce (.ptr 1000006 0), .ce (.bool y), .ce (.sl false [4, 4, 4] (z ++ [[x3, x4, x5]])), .ce (.lit true), .ce (.sl false [4] w), .ce (I6 len), .ce (I6 x9)], [[I6 s0, I6 s1, I6 s2, .sl false [4, 4, 4, 4, 4, 4, 4] sg, .sl false [4, 4, 4] mk], [I6 sta, I6 spa, I6 aca, I6 jea, I6 loa, I6 hia, I6 bla, I6 oga, I6 sga, .sl false [4] pta, I6 stb, I6 spb, I6 acb, I6 jeb, I6 lob, I6 hib, I6 blb, I6 ogb, I6 sgb, .sl false [4] ptb, I6 stc, I6 spc, I6 acc, I6 jec, I6 loc, I6 hic, I6 blc, I6 ogc, I6 sgc, .sl false [4] ptc], [.sl false [4, 4, 4, 4, 4, 4, 4, 4, 4, 4] pk, I6 ln, I6 sa, I6 d0, I6 d1, I6 d2]])))) (K (.exit 0) ([.ce (.bool y)], [[I6 s0, I6 s1, I6 s2, .sl false [4, 4, 4, 4, 4, 4, 4] sg, .sl false [4, 4, 4] mk], [I6 sta, I6 spa, I6 aca, I6 jea, I6 loa, I6 hia, I6 bla, I6 oga, I6 sga, .sl false [4] pta, I6 stb, I6 spb, I6 acb, I6 jeb, I6 lob, I6 hib, I6 blb, I6 ogb, I6 sgb, .sl false [4] ptb, I6 stc, I6 spc, I6 acc, I6 jec, I6 loc, I6 hic, I6 blc, I6 ogc, I6 sgc, .sl false [4] ptc], [.sl false [4, 4, 4, 4, 4, 4, 4, 4, 4, 4] pk, I6 ln, I6 sa, I6 d0, I6 d1, I6 d2]]))) := by kernel_rfl
theorem vcSmo (s0 s1 s2 ln sa d0 d1 d2 : Int) (sg mk pk w : LL) (sta spa aca jea loa hia bla oga sga stb spb acb jeb lob hib blb ogb sgb stc spc acc jec loc hic blc ogc sgc : Int) (pta ptb ptc : LL) (Q : Res -> Prop) : (nfun true CSmo Try.f34 (bodyOf Try.f34) [.agg [I6 s0, I6 s1, I6 s2, .sl false [4, 4, 4, 4, 4, 4, 4] sg, .sl false [4, 4, 4] mk], .agg [I6 sta, I6 spa, I6 aca, I6 jea, I6 loa, I6 hia, I6 bla, I6 oga, I6 sga, .sl false [4] pta, I6 stb, I6 spb, I6 acb, I6 jeb, I6 lob, I6 hib, I6 blb, I6 ogb, I6 sgb, .sl false [4] ptb, I6 stc, I6 spc, I6 acc, I6 jec, I6 loc, I6 hic, I6 blc, I6 ogc, I6 sgc, .sl false [4] ptc], .agg [.sl false [4, 4, 4, 4, 4, 4, 4, 4, 4, 4] pk, I6 ln, I6 sa, I6 d0, I6 d1, I6 d2], .ce (.sl false [4] w)] [] Q) =
 (((0 : Nat) = 0 /\ (w.length : Int) = (w.length : Int) /\ (0 : Int) = 0 /\ okPT s0 s1 s2 sg pk ln sa /\ okA3 sta oga sga pta bla stb ogb sgb ptb blb stc ogc sgc ptc blc /\ okL3 spa aca jea spb acb jeb spc acc jec /\ w.length <= 8000 /\ Sm (9000000000000000000 : Int) w) /\ Bb (wth3 spa aca jea spb acb jeb spc acc jec (qmot (mtr sta oga sga pta bla s0 sg (0 : Nat) pk sa d0) (mtr stb ogb sgb ptb blb s1 sg (1 : Nat) pk sa d1) (mtr stc ogc sgc ptc blc s2 sg (2 : Nat) pk sa d2) ln w)) (Q ⟨.ce (.bool true), false, [], []⟩) (Q ⟨.ce (.bool false), false, [], []⟩)) := by kernel_rfl
def SSafe (hA : List HV) (pA : List (List HC)) : SR :=
 match hA, pA with
 | [.agg [.int .i64 s0, .int .i64 s1, .int .i64 s2, .sl false [4, 4, 4, 4, 4, 4, 4] sg, .sl false [4, 4, 4] mk], .agg ax, .agg [.sl false [4, 4, 4, 4, 4, 4, 4, 4, 4, 4] pk, .int .i64 ln, .int .i64 sa, .int .i64 d0, .int .i64 d1, .int .i64 d2], .agg [.int .i64 A, .int .i64 J, .int .i64 R], .agg [.int .i64 mu, .int .i64 mv, .int .i64 ma, .int .i64 ml, .int .i64 mp, .int .i64 mb], .ce (.int .i64 lim)], [] =>
  match ax with
  | [.int .i64 sta, .int .i64 spa, .int .i64 aca, .int .i64 jea, .int .i64 loa, .int .i64 hia, .int .i64 bla, .int .i64 oga, .int .i64 sga, .sl false [4] pta, .int .i64 stb, .int .i64 spb, .int .i64 acb, .int .i64 jeb, .int .i64 lob, .int .i64 hib, .int .i64 blb, .int .i64 ogb, .int .i64 sgb, .sl false [4] ptb, .int .i64 stc, .int .i64 spc, .int .i64 acc, .int .i64 jec, .int .i64 loc, .int .i64 hic, .int .i64 blc, .int .i64 ogc, .int .i64 sgc, .sl false [4] ptc] => .det ((okPT s0 s1 s2 sg pk ln sa /\ okA3 sta oga sga pta bla stb ogb sgb ptb blb stc ogc sgc ptc blc /\ okL3 spa aca jea spb acb jeb spc acc jec) /\ okPl A J R /\ (okU mu /\ okU ml /\ okU mp /\ okU mb) /\ (0 <= lim /\ lim <= 18014398509481984))
   ⟨.ce (.bool (qsafe A J (wth3 spa aca jea spb acb jeb spc acc jec) (qmot (mtr sta oga sga pta bla s0 sg 0 pk sa d0) (mtr stb ogb sgb ptb blb s1 sg 1 pk sa d1) (mtr stc ogc sgc ptc blc s2 sg 2 pk sa d2) ln) ⟨mu, mv, ma, ml, mp, mb⟩ lim)), false, [], []⟩
  | _ => .fail
 | _, _ => .fail
def tabSafe : List (FuncId × HL.Spec) := [(6, SQFut), (34, SSmo)]
noncomputable def CSafe : Ctx := ⟨Try.prog, gam tabSafe, Try.f23.ntmps, [], []⟩
theorem vcSafe (s0 s1 s2 ln sa d0 d1 d2 A J R mu mv ma ml mp mb lim : Int) (sg mk pk : LL) (sta spa aca jea loa hia bla oga sga stb spb acb jeb lob hib blb ogb sgb stc spc acc jec loc hic blc ogc sgc : Int) (pta ptb ptc : LL) (Q : Res -> Prop) : (nfun true CSafe Try.f23 (bodyOf Try.f23) [.agg [I6 s0, I6 s1, I6 s2, .sl false [4, 4, 4, 4, 4, 4, 4] sg, .sl false [4, 4, 4] mk], .agg [I6 sta, I6 spa, I6 aca, I6 jea, I6 loa, I6 hia, I6 bla, I6 oga, I6 sga, .sl false [4] pta, I6 stb, I6 spb, I6 acb, I6 jeb, I6 lob, I6 hib, I6 blb, I6 ogb, I6 sgb, .sl false [4] ptb, I6 stc, I6 spc, I6 acc, I6 jec, I6 loc, I6 hic, I6 blc, I6 ogc, I6 sgc, .sl false [4] ptc], .agg [.sl false [4, 4, 4, 4, 4, 4, 4, 4, 4, 4] pk, I6 ln, I6 sa, I6 d0, I6 d1, I6 d2], .agg [I6 A, I6 J, I6 R], .agg [I6 mu, I6 mv, I6 ma, I6 ml, I6 mp, I6 mb], .ce (I6 lim)] [] Q) =
 ((okPl A J R /\ okU mu) /\ (∃ (x : LL × Bool), x = (qfu A J mu mv ma, qfok A J mv ma)) /\ ∀ (x : LL × Bool), x = (qfu A J mu mv ma, qfok A J mv ma) -> Bb (!x.2) (Q ⟨.ce (.bool false), false, [], []⟩) (Br ((List.length x.1 : Int) > 0) (R6 ((List.length x.1 : Int) - 1) /\ ∀ x2, x2 = (List.length x.1 : Int) - 1 -> (0 <= x2 /\ x2 < (List.length x.1 : Int)) /\ ∀ x3, x3 = el x.1 x2.toNat -> R6 (lim * 256) /\ ∀ x4, x4 = lim * 256 -> Br (x3 > x4) (Q ⟨.ce (.bool false), false, [], []⟩) ((((4 : Nat) + List.length x.1) * 8 <= 140737488355328 /\ (4 : Nat) + List.length x.1 <= maxLen) /\ ((List.length ([[mb], [mp], [ml], [mu]] ++ x.1) + 2) * 8 <= 140737488355328 /\
 List.length ([[mb], [mp], [ml], [mu]] ++ x.1) + 2 <= maxLen) /\ (okPT s0 s1 s2 sg pk ln sa /\ okA3 sta oga sga pta bla stb ogb sgb ptb blb stc ogc sgc ptc blc /\ okL3 spa aca jea spb acb jeb spc acc jec /\ List.length ([[mb], [mp], [ml], [mu]] ++ x.1 ++ [[x3], [x3]]) <= 8000 /\ Sm (9000000000000000000 : Int) ([[mb], [mp], [ml], [mu]] ++ x.1 ++ [[x3], [x3]])) /\ ∀ (x5 : Bool), x5 = wth3 spa aca jea spb acb jeb spc acc jec (qmot (mtr sta oga sga pta bla s0 sg (0 : Nat) pk sa d0) (mtr stb ogb sgb ptb blb s1 sg (1 : Nat) pk sa d1) (mtr stc ogc sgc ptc blc s2 sg (2 : Nat) pk sa d2) ln ([[mb], [mp], [ml], [mu]] ++ x.1 ++ [[x3], [x3]])) -> Q ⟨.ce (.bool x5), false, [], []⟩)) (R6 (lim * 256) /\ ∀ x6, x6 = lim * 256 -> Br (mu > x6) (Q ⟨.ce (.bool false), false, [], []⟩) ((((4 : Nat) + List.length x.1) * 8 <= 140737488355328 /\ (4 : Nat) + List.length x.1 <= maxLen) /\ ((List.length ([[mb], [mp], [ml], [mu]] ++ x.1) + 2) * 8 <= 140737488355328 /\ List.length ([[mb], [mp], [ml], [mu]] ++ x.1) + 2 <= maxLen) /\ (okPT s0 s1 s2 sg pk ln sa /\ okA3 sta oga sga pta bla stb ogb sgb ptb blb stc ogc sgc ptc blc /\ okL3 spa aca jea spb acb jeb spc acc jec /\ List.length ([[mb], [mp], [ml], [mu]] ++ x.1 ++ [[mu], [mu]]) <= 8000 /\ Sm (9000000000000000000 : Int) ([[mb], [mp], [ml], [mu]] ++ x.1 ++ [[mu], [mu]])) /\ ∀ (x7 : Bool), x7 = wth3 spa aca jea spb acb jeb spc acc jec (qmot (mtr sta oga sga pta bla s0 sg (0 : Nat) pk sa d0) (mtr stb ogb sgb ptb blb s1 sg (1 : Nat) pk sa d1) (mtr stc ogc sgc ptc blc s2 sg (2 : Nat) pk sa d2) ln ([[mb], [mp], [ml], [mu]] ++ x.1 ++ [[mu], [mu]])) -> Q ⟨.ce (.bool x7), false, [], []⟩)))) := by kernel_rfl
def SFit (hA : List HV) (pA : List (List HC)) : SR :=
 match hA, pA with
 | [.agg [.int .i64 s0, .int .i64 s1, .int .i64 s2, .sl false [4, 4, 4, 4, 4, 4, 4] sg, .sl false [4, 4, 4] mk], .agg [.sl false [4, 4, 4, 4, 4, 4, 4, 4, 4, 4] pk, .int .i64 ln, .int .i64 sa, .int .i64 d0, .int .i64 d1, .int .i64 d2], .agg [.int .i64 A, .int .i64 J, .int .i64 R], .agg [.int .i64 fo, .int .i64 ro, .bool ho, .bool so, .bool oo], .agg [.int .i64 mu, .int .i64 mv, .int .i64 ma, .int .i64 ml, .int .i64 mp, .int .i64 mb]], [] =>
  .det ((okLen sg /\ okTrk pk ln /\ (0 <= sa /\ sa <= 18014398509481984)) /\ okPl A J R /\ okV mu)
   ⟨.ce (.bool (qfit A J sg.length (qtg ho fo ro R sg pk sa ln) ⟨mu, mv, ma, ml, mp, mb⟩)), false, [], []⟩
 | _, _ => .fail
def anFit : LAnn := ⟨[5, 6, 7, 8, 10, 13, 44, 45, 46], [10], [1000005, 1000006, 1000007, 1000008], false⟩
def LFit (v : LV) : LR :=
 match v with
 | ([.ce (.ptr 1000005 0), .ce (.ptr 1000006 0), .ce (.ptr 1000007 0), .ce (.ptr 1000008 0), .ce (.bool y), .ce (.int .i64 u), .ce (.sl false [4] l), .ce (.int .i64 len), .ce (.int .i64 k)], [[.int .i64 s0, .int .i64 s1, .int .i64 s2, .sl false [4, 4, 4, 4, 4, 4, 4] sg, .sl false [4, 4, 4] mk], [.sl false [4, 4, 4, 4, 4, 4, 4, 4, 4, 4] pk, .int .i64 ln, .int .i64 sa, .int .i64 d0, .int .i64 d1, .int .i64 d2], [.int .i64 A, .int .i64 J, .int .i64 R], [.int .i64 fo, .int .i64 ro, .bool ho, .bool so, .bool oo]]) =>
  .alts (len = l.length /\ k = 0 /\ (okLen sg /\ okTrk pk ln /\ (0 <= sa /\ sa <= 18014398509481984)) /\ 0 < sg.length /\ ∃ s, l = qcum u s /\ okSpd s /\ okV u)
   [(qfl (qtg ho fo ro R sg pk sa ln) u l = true, .exit 0, ([.ce (.bool y)], [[I6 s0, I6 s1, I6 s2, .sl false [4, 4, 4, 4, 4, 4, 4] sg, .sl false [4, 4, 4] mk], [.sl false [4, 4, 4, 4, 4, 4, 4, 4, 4, 4] pk, I6 ln, I6 sa, I6 d0, I6 d1, I6 d2], [I6 A, I6 J, I6 R], [I6 fo, I6 ro, .bool ho, .bool so, .bool oo]])),
    (qfl (qtg ho fo ro R sg pk sa ln) u l = false, .ret, ([.ce (.bool false)], [[I6 s0, I6 s1, I6 s2, .sl false [4, 4, 4, 4, 4, 4, 4] sg, .sl false [4, 4, 4] mk], [.sl false [4, 4, 4, 4, 4, 4, 4, 4, 4, 4] pk, I6 ln, I6 sa, I6 d0, I6 d1, I6 d2], [I6 A, I6 J, I6 R], [I6 fo, I6 ro, .bool ho, .bool so, .bool oo]]))]
 | _ => .fail
def tabFit : List (FuncId × HL.Spec) := [(6, SQFut), (33, SQTg)]
noncomputable def CFit : Ctx := ⟨Try.prog, gam tabFit, Try.f22.ntmps, [(6, anFit, LFit)], []⟩
theorem vbFit (s0 s1 s2 ln sa d0 d1 d2 A J R fo ro u len k : Int) (ho so oo y : Bool) (sg mk pk l : LL) (K : HEx -> LV -> Prop) : (nbodyT true CFit anFit (nthLoop Try.f22 0) (([.ce (.ptr 1000005 0), .ce (.ptr 1000006 0), .ce (.ptr 1000007 0), .ce (.ptr 1000008 0), .ce (.bool y), .ce (I6 u), .ce (.sl false [4] l), .ce (I6 len), .ce (I6 k)], [[I6 s0, I6 s1, I6 s2, .sl false [4, 4, 4, 4, 4, 4, 4] sg, .sl false [4, 4, 4] mk], [.sl false [4, 4, 4, 4, 4, 4, 4, 4, 4, 4] pk, I6 ln, I6 sa, I6 d0, I6 d1, I6 d2], [I6 A, I6 J, I6 R], [I6 fo, I6 ro, .bool ho, .bool so, .bool oo]])) K) =
 (Br (k < len) ((0 <= k /\ k < (l.length : Int)) /\ ∀ x1, x1 = el l k.toNat -> R6 (x1 - u) /\ ∀ x2, x2 = x1 - u -> ((okLen sg /\ okTrk pk ln /\ 0 <= sa /\ sa <= 18014398509481984) /\ (0 : Nat) < sg.length /\ okU x1) /\ ∀ x3, x3 = qtg ho fo ro R sg pk sa ln x1 -> Br (x2 > x3) (K .ret ([.ce (.bool false)], [[I6 s0, I6 s1, I6 s2, .sl false [4, 4, 4, 4, 4, 4, 4] sg, .sl false [4, 4, 4] mk], [.sl false [4, 4, 4, 4, 4, 4, 4, 4, 4, 4] pk, I6 ln, I6 sa, I6 d0, I6 d1, I6 d2], [I6 A, I6 J, I6 R], [I6 fo, I6 ro, .bool ho, .bool so, .bool oo]])) (R6 (k + 1) /\ ∀ x4, x4 = k + 1 -> K .normal ([.ce (.ptr 1000005 0), .ce (.ptr 1000006 0), .ce (.ptr 1000007 0), .ce (.ptr 1000008 0), .ce (.bool y), .ce (I6 x1), .ce (.sl false [4] l), .ce (I6 len), .ce (I6 x4)], [[I6 s0, I6 s1, I6 s2, .sl false [4, 4, 4, 4, 4, 4, 4] sg, .sl false [4, 4, 4] mk], [.sl false [4, 4, 4, 4, 4, 4, 4, 4, 4, 4] pk, I6 ln, I6 sa, I6 d0, I6 d1, I6 d2], [I6 A, I6 J, I6 R], [I6 fo, I6 ro, .bool ho, .bool so, .bool oo]]))) (K (.exit 0) ([.ce (.bool y)], [[I6 s0, I6 s1, I6 s2, .sl false [4, 4, 4, 4, 4, 4, 4] sg, .sl false [4, 4, 4] mk], [.sl false [4, 4, 4, 4, 4, 4, 4, 4, 4, 4] pk, I6 ln, I6 sa, I6 d0, I6 d1, I6 d2], [I6 A, I6 J, I6 R], [I6 fo, I6 ro, .bool ho, .bool so, .bool oo]]))) := by kernel_rfl
theorem vcFit (s0 s1 s2 ln sa d0 d1 d2 A J R fo ro mu mv ma ml mp mb : Int) (ho so oo : Bool) (sg mk pk : LL) (Q : Res -> Prop) : (nfun true CFit Try.f22 (bodyOf Try.f22) [.agg [I6 s0, I6 s1, I6 s2, .sl false [4, 4, 4, 4, 4, 4, 4] sg, .sl false [4, 4, 4] mk], .agg [.sl false [4, 4, 4, 4, 4, 4, 4, 4, 4, 4] pk, I6 ln, I6 sa, I6 d0, I6 d1, I6 d2], .agg [I6 A, I6 J, I6 R], .agg [I6 fo, I6 ro, .bool ho, .bool so, .bool oo], .agg [I6 mu, I6 mv, I6 ma, I6 ml, I6 mp, I6 mb]] [] Q) =
 ((okPl A J R /\ okU mu) /\ (∃ (x : LL × Bool), x = (qfu A J mu mv ma, qfok A J mv ma)) /\ ∀ (x : LL × Bool), x = (qfu A J mu mv ma, qfok A J mv ma) -> Bb (!x.2) (Q ⟨.ce (.bool false), false, [], []⟩) (Bb ((sg.length : Int) == 0) (Q ⟨.ce (.bool false), false, [], []⟩) (((okLen sg /\ okTrk pk ln /\ 0 <= sa /\ sa <= 18014398509481984) /\ (0 : Nat) < sg.length /\ okU mu) /\ ∀ x2, x2 = qtg ho fo ro R sg pk sa ln mu -> Br (mv > x2) (Q ⟨.ce (.bool false), false, [], []⟩) (((List.length x.1 : Int) = (List.length x.1 : Int) /\ (0 : Int) = 0 /\ (okLen sg /\ okTrk pk ln /\ 0 <= sa /\ sa <= 18014398509481984) /\ (0 : Nat) < sg.length /\ ∃ (s : LL), x.1 = qcum mu s /\ okSpd s /\ okV mu) /\ Bb (qfl (qtg ho fo ro R sg pk sa ln) mu x.1) (Q ⟨.ce (.bool true), false, [], []⟩) (Q ⟨.ce (.bool false), false, [], []⟩))))) := by kernel_rfl
end Go.Proofs.Ytoekmphdpepdbaa
namespace U
def Lm (sp ac je : Int) (f : Nat -> Int) (n : Nat) : Prop :=
 (∀ j, j + 1 < n -> -sp <= f (j + 1) - f j /\ f (j + 1) - f j <= sp) /\ (∀ j, j + 2 < n -> -ac <= f (j + 2) - 2 * f (j + 1) + f j /\ f (j + 2) - 2 * f (j + 1) + f j <= ac) /\
 (∀ j, j + 3 < n -> -je <= f (j + 3) - 3 * f (j + 2) + 3 * f (j + 1) - f j /\ f (j + 3) - 3 * f (j + 2) + 3 * f (j + 1) - f j <= je)
theorem bdd_iff {l : LL} {m : Int} : bdd l m = true ↔ ∀ j, j < l.length -> -m <= el l j /\ el l j <= m := by
 unfold bdd bdN; rw [allN_iff]; simp only [decide_eq_true_iff]
theorem wth_iff {sp ac je : Int} {l : LL} : wth sp ac je l = true ↔ Lm sp ac je (el l) l.length := by
 have e2 : ∀ j, j + 2 < l.length -> el (dfl (dfl l)) j = el l (j + 2) - 2 * el l (j + 1) + el l j := fun j h => by
  rw [el_dfl (by rw [dfl_len]; omega), el_dfl (by omega), el_dfl (by omega), show j + 1 + 1 = j + 2 from rfl]; omega
 have e3 : ∀ j, j + 3 < l.length -> el (dfl (dfl (dfl l))) j = el l (j + 3) - 3 * el l (j + 2) + 3 * el l (j + 1) - el l j := fun j h => by
  rw [el_dfl (by rw [dfl_len, dfl_len]; omega), e2 (j + 1) (by omega), e2 j (by omega), show j + 1 + 2 = j + 3 from rfl, show j + 1 + 1 = j + 2 from rfl]; omega
 unfold wth
 rw [Bool.and_eq_true, Bool.and_eq_true, bdd_iff, bdd_iff, bdd_iff]
 simp only [dfl_len]
 refine ⟨fun ⟨a, b, c⟩ => ⟨fun j h => ?_, fun j h => ?_, fun j h => ?_⟩, fun ⟨a, b, c⟩ => ⟨fun j h => ?_, fun j h => ?_, fun j h => ?_⟩⟩
 . have := a j (by omega); rwa [el_dfl h] at this
 . have := b j (by omega); rwa [e2 j h] at this
 . have := c j (by omega); rwa [e3 j h] at this
 . rw [el_dfl (by omega)]; exact a j (by omega)
 . rw [e2 j (by omega)]; exact b j (by omega)
 . rw [e3 j (by omega)]; exact c j (by omega)
theorem Lm_congr {sp ac je : Int} {f g : Nat -> Int} {n : Nat} (h : ∀ j, j < n -> f j = g j) (hf : Lm sp ac je f n) : Lm sp ac je g n := by
 obtain ⟨a, b, c⟩ := hf
 refine ⟨fun j hj => ?_, fun j hj => ?_, fun j hj => ?_⟩
 . rw [<- h j (by omega), <- h (j + 1) (by omega)]; exact a j hj
 . rw [<- h j (by omega), <- h (j + 1) (by omega), <- h (j + 2) (by omega)]; exact b j hj
 . rw [<- h j (by omega), <- h (j + 1) (by omega), <- h (j + 2) (by omega), <- h (j + 3) (by omega)]; exact c j hj
theorem wth3_iff {s0 a0 j0 s1 a1 j1 s2 a2 j2 : Int} {l : LL} : wth3 s0 a0 j0 s1 a1 j1 s2 a2 j2 l = true ↔
 Lm s0 a0 j0 (fun j => ec l j 0) l.length /\ Lm s1 a1 j1 (fun j => ec l j 1) l.length /\ Lm s2 a2 j2 (fun j => ec l j 2) l.length := by
 have k : ∀ (s a j : Int) (c : Nat), Lm s a j (el (col l c)) (col l c).length ↔ Lm s a j (fun j => ec l j c) l.length := fun s a j c => by
  rw [col_len]
  exact ⟨Lm_congr fun j h => el_col h, Lm_congr fun j h => (el_col h).symm⟩
 unfold wth3
 rw [Bool.and_eq_true, Bool.and_eq_true, wth_iff, wth_iff, wth_iff, k, k, k]
theorem Lm_win {sp ac je : Int} {f : Nat -> Int} {n : Nat} : Lm sp ac je f (n + 1) ↔ Lm sp ac je f n /\ Lm sp ac je (fun j => f (n + 1 - 4 + j)) (n + 1 - (n + 1 - 4)) := by
 refine ⟨fun ⟨a, b, c⟩ => ⟨⟨fun j h => a j (by omega), fun j h => b j (by omega), fun j h => c j (by omega)⟩, fun j h => a (n + 1 - 4 + j) (by omega), fun j h => b (n + 1 - 4 + j) (by omega), fun j h => c (n + 1 - 4 + j) (by omega)⟩, fun ⟨⟨a, b, c⟩, a', b', c'⟩ => ⟨fun j h => ?_, fun j h => ?_, fun j h => ?_⟩⟩
 . by_cases hn : j + 1 < n
   . exact a j hn
   . have := a' (j - (n + 1 - 4)) (by omega)
     dsimp only at this
     rwa [show n + 1 - 4 + (j - (n + 1 - 4)) = j by omega, show n + 1 - 4 + (j - (n + 1 - 4) + 1) = j + 1 by omega] at this
 . by_cases hn : j + 2 < n
   . exact b j hn
   . have := b' (j - (n + 1 - 4)) (by omega)
     dsimp only at this
     rwa [show n + 1 - 4 + (j - (n + 1 - 4)) = j by omega, show n + 1 - 4 + (j - (n + 1 - 4) + 1) = j + 1 by omega, show n + 1 - 4 + (j - (n + 1 - 4) + 2) = j + 2 by omega] at this
 . by_cases hn : j + 3 < n
   . exact c j hn
   . have := c' (j - (n + 1 - 4)) (by omega)
     dsimp only at this
     rwa [show n + 1 - 4 + (j - (n + 1 - 4)) = j by omega, show n + 1 - 4 + (j - (n + 1 - 4) + 1) = j + 1 by omega, show n + 1 - 4 + (j - (n + 1 - 4) + 2) = j + 2 by omega, show n + 1 - 4 + (j - (n + 1 - 4) + 3) = j + 3 by omega] at this
theorem Lm_pre {sp ac je : Int} {f : Nat -> Int} {n m : Nat} (h : m <= n) : Lm sp ac je f n -> Lm sp ac je f m := fun ⟨a, b, c⟩ => ⟨fun j hj => a j (by omega), fun j hj => b j (by omega), fun j hj => c j (by omega)⟩
theorem win_len (L : LL) {i : Nat} (h : i <= L.length) : (win L i).length = i - (i - 4) := by unfold win; simp; omega
theorem ec_win {L : LL} {i j c : Nat} (h : i <= L.length) (hj : j < i - (i - 4)) : ec (win L i) j c = ec L (i - 4 + j) c := by
 have : (List.drop (i - 4) (List.take i L)).getD j [] = L.getD (i - 4 + j) [] := by
  rw [List.getD_eq_getElem?_getD, List.getElem?_drop, List.getElem?_take_of_lt (by omega), <- List.getD_eq_getElem?_getD]
 unfold win ec
 rw [this]
theorem win_next {L : LL} {i : Nat} (h : i < L.length) : win L i ++ [L.getD i []] = (L.take (i + 1)).drop (i - 4) := by
 unfold win
 rw [take_next L h [], List.drop_append_of_le_length (by simp; omega)]
theorem ec_take {L : LL} {n j c : Nat} (h : j < n) : ec (L.take n) j c = ec L j c := by
 have : (List.take n L).getD j [] = L.getD j [] := by rw [List.getD_eq_getElem?_getD, List.getElem?_take_of_lt h, <- List.getD_eq_getElem?_getD]
 unfold ec; rw [this]
theorem take_len {L : LL} {n : Nat} (h : n <= L.length) : (L.take n).length = n := by simp; omega
theorem wth3_take {s0 a0 j0 s1 a1 j1 s2 a2 j2 : Int} {L : LL} {n : Nat} (h : n <= L.length) : wth3 s0 a0 j0 s1 a1 j1 s2 a2 j2 (L.take n) = true ↔
 Lm s0 a0 j0 (fun j => ec L j 0) n /\ Lm s1 a1 j1 (fun j => ec L j 1) n /\ Lm s2 a2 j2 (fun j => ec L j 2) n := by
 rw [wth3_iff, take_len h]
 exact ⟨fun ⟨a, b, c⟩ => ⟨Lm_congr (fun j hj => ec_take hj) a, Lm_congr (fun j hj => ec_take hj) b, Lm_congr (fun j hj => ec_take hj) c⟩,
  fun ⟨a, b, c⟩ => ⟨Lm_congr (fun j hj => (ec_take hj).symm) a, Lm_congr (fun j hj => (ec_take hj).symm) b, Lm_congr (fun j hj => (ec_take hj).symm) c⟩⟩
theorem wth3_next {s0 a0 j0 s1 a1 j1 s2 a2 j2 : Int} {L : LL} {n : Nat} (h : n < L.length) :
 wth3 s0 a0 j0 s1 a1 j1 s2 a2 j2 (L.take (n + 1)) = true ↔ wth3 s0 a0 j0 s1 a1 j1 s2 a2 j2 (L.take n) = true /\ wth3 s0 a0 j0 s1 a1 j1 s2 a2 j2 (win L (n + 1)) = true := by
 rw [wth3_take (by omega), wth3_take (by omega), wth3_iff, win_len L (by omega), Lm_win, Lm_win, Lm_win]
 have k : ∀ (s a j : Int) (c : Nat), Lm s a j (fun j => ec (win L (n + 1)) j c) (n + 1 - (n + 1 - 4)) ↔ Lm s a j (fun j => ec L (n + 1 - 4 + j) c) (n + 1 - (n + 1 - 4)) := fun s a j c =>
  ⟨Lm_congr fun j hj => ec_win (by omega) hj, Lm_congr fun j hj => (ec_win (by omega) hj).symm⟩
 rw [k, k, k]
 exact ⟨fun ⟨⟨a, b⟩, ⟨c, d⟩, e, f⟩ => ⟨⟨a, c, e⟩, b, d, f⟩, fun ⟨⟨a, c, e⟩, b, d, f⟩ => ⟨⟨a, b⟩, ⟨c, d⟩, e, f⟩⟩
theorem wth3_le {s0 a0 j0 s1 a1 j1 s2 a2 j2 : Int} {L : LL} {n : Nat} (h : n <= L.length) (hf : wth3 s0 a0 j0 s1 a1 j1 s2 a2 j2 (L.take n) = false) : wth3 s0 a0 j0 s1 a1 j1 s2 a2 j2 L = false := by
 cases hw : wth3 s0 a0 j0 s1 a1 j1 s2 a2 j2 L
 . rfl
 . rw [<- List.take_length (l := L), wth3_take (Nat.le_refl _)] at hw
   have := (wth3_take h).2 ⟨Lm_pre h hw.1, Lm_pre h hw.2.1, Lm_pre h hw.2.2⟩
   rw [this] at hf; cases hf
theorem Sm3_win {B : Int} {L : LL} {i : Nat} (h : Sm3 B L) (hi : i <= L.length) : Sm3 B (win L i) := fun j hj => by
 rw [win_len L hi] at hj
 rw [ec_win hi hj, ec_win hi hj, ec_win hi hj]
 exact h _ (by omega)
theorem qmot_len (M0 M1 M2 : Int -> Int) (ln : Int) (w : LL) : (qmot M0 M1 M2 ln w).length = w.length := by simp [qmot]
theorem qmot_get {M0 M1 M2 : Int -> Int} {ln : Int} {w : LL} {i : Nat} (h : i < w.length) :
 (qmot M0 M1 M2 ln w).getD i [] = [M0 (clamp ln (el w i / 256)), M1 (clamp ln (el w i / 256)), M2 (clamp ln (el w i / 256))] := by
 unfold qmot el; simp [List.getD_eq_getElem?_getD, h]
theorem Sm3_qmot {B : Int} {M0 M1 M2 : Int -> Int} {ln : Int} {w : LL} (h0 : 0 <= ln) (h : ∀ u, 0 <= u /\ u <= ln -> (-B <= M0 u /\ M0 u <= B) /\ (-B <= M1 u /\ M1 u <= B) /\ (-B <= M2 u /\ M2 u <= B)) : Sm3 B (qmot M0 M1 M2 ln w) := fun j hj => by
 rw [qmot_len] at hj
 unfold ec
 rw [qmot_get hj]
 exact h _ (clamp_bd h0)
theorem qfl_app {T : Int -> Int} {u : Int} {l : LL} {i : Nat} (h : i < l.length) (last : Int) : qfl T last (l.drop i) = (decide (el l i - last <= T (el l i)) && qfl T (el l i) (l.drop (i + 1))) := by
 rw [drop_next l h []]; rfl
theorem qend_bd {u : Int} {s : LL} (h : okSpd s) : u <= qend u (qcum u s) /\ qend u (qcum u s) <= u + 68719476736 := by
 unfold qend
 have hl := h.1
 split
 . omega
 . rename_i hn
   rw [qcum_len] at hn ⊢
   rw [el_qcum (by omega)]
   have := qsm_bd h (s.length - 1 + 1) (by omega)
   omega
end U
namespace Go.Proofs.Ytoekmphdpepdbaa
open Go Go.HL U
attribute [local irreducible] hfun bodyT fragT
set_option maxHeartbeats 2000000 in
theorem loopSmo : ∀ v Q, (LSmo v).wp Q -> hloop CSmo anSmo (nthLoop Try.f34 0) v Q := by
 intro v Q h
 unfold LSmo at h
 split at h
 case h_2 => exact h.elim
 rename_i y z w len k s0 s1 s2 sg mk ax tr
 split at h
 case h_2 => exact h.elim
 rename_i sta spa aca jea loa hia bla oga sga pta stb spb acb jeb lob hib blb ogb sgb ptb stc spc acc jec loc hic blc ogc sgc ptc
 split at h
 case h_2 => exact h.elim
 rename_i pk ln sa d0 d1 d2
 obtain ⟨⟨h1, h2, h3, hp, ha, hli, hw, hs⟩, hq1, hq2⟩ := h
 subst h2 h3
 obtain rfl := List.eq_nil_of_length_eq_zero h1
 have hb : ∀ u, 0 <= u /\ u <= ln -> (-4398046511104 <= mtr sta oga sga pta bla s0 sg 0 pk sa d0 u /\ mtr sta oga sga pta bla s0 sg 0 pk sa d0 u <= 4398046511104) /\
  (-4398046511104 <= mtr stb ogb sgb ptb blb s1 sg 1 pk sa d1 u /\ mtr stb ogb sgb ptb blb s1 sg 1 pk sa d1 u <= 4398046511104) /\
  (-4398046511104 <= mtr stc ogc sgc ptc blc s2 sg 2 pk sa d2 u /\ mtr stc ogc sgc ptc blc s2 sg 2 pk sa d2 u <= 4398046511104) := fun u hu =>
  ⟨mtr_bd hp.1 hp.2.1.1 (fun j hj => (hp.2.1.2.2.2 j hj).1) hp.2.2.1 ha.1 hu, mtr_bd hp.1 hp.2.1.2.1 (fun j hj => (hp.2.1.2.2.2 j hj).2.1) hp.2.2.1 ha.2.1 hu, mtr_bd hp.1 hp.2.1.2.2.1 (fun j hj => (hp.2.1.2.2.2 j hj).2.2) hp.2.2.1 ha.2.2 hu⟩
 have hS : Sm3 1125899906842624 (qmot (mtr sta oga sga pta bla s0 sg 0 pk sa d0) (mtr stb ogb sgb ptb blb s1 sg 1 pk sa d1) (mtr stc ogc sgc ptc blc s2 sg 2 pk sa d2) ln w) :=
  Sm3_qmot hp.2.2.1.2.1.1 (fun u hu => by have := hb u hu; omega)
 have hg := fun i (hi : i < w.length) => qmot_get (M0 := mtr sta oga sga pta bla s0 sg 0 pk sa d0) (M1 := mtr stb ogb sgb ptb blb s1 sg 1 pk sa d1) (M2 := mtr stc ogc sgc ptc blc s2 sg 2 pk sa d2) (ln := ln) hi
 have hL := qmot_len (mtr sta oga sga pta bla s0 sg 0 pk sa d0) (mtr stb ogb sgb ptb blb s1 sg 1 pk sa d1) (mtr stc ogc sgc ptc blc s2 sg 2 pk sa d2) ln w
 generalize hLe : qmot (mtr sta oga sga pta bla s0 sg 0 pk sa d0) (mtr stb ogb sgb ptb blb s1 sg 1 pk sa d1) (mtr stc ogc sgc ptc blc s2 sg 2 pk sa d2) ln w = L at *
 refine hloop_rec (σ := Nat) (fun i => ([.ce (.ptr 1000004 0), .ce (.ptr 1000005 0), .ce (.ptr 1000006 0), .ce (.bool y), .ce (.sl false [4, 4, 4] (win L i)), .ce (.lit true), .ce (.sl false [4] w), .ce (I6 (w.length : Int)), .ce (I6 (i : Int))], [[I6 s0, I6 s1, I6 s2, .sl false [4, 4, 4, 4, 4, 4, 4] sg, .sl false [4, 4, 4] mk], [I6 sta, I6 spa, I6 aca, I6 jea, I6 loa, I6 hia, I6 bla, I6 oga, I6 sga, .sl false [4] pta, I6 stb, I6 spb, I6 acb, I6 jeb, I6 lob, I6 hib, I6 blb, I6 ogb, I6 sgb, .sl false [4] ptb, I6 stc, I6 spc, I6 acc, I6 jec, I6 loc, I6 hic, I6 blc, I6 ogc, I6 sgc, .sl false [4] ptc], [.sl false [4, 4, 4, 4, 4, 4, 4, 4, 4, 4] pk, I6 ln, I6 sa, I6 d0, I6 d1, I6 d2]]))
  (fun i => w.length - i) (fun i => i <= w.length /\ wth3 spa aca jea spb acb jeb spc acc jec (L.take i) = true) ?_ 0 ⟨Nat.zero_le _, by rw [wth3_take (Nat.zero_le _)]; exact ⟨⟨fun j hj => by omega, fun j hj => by omega, fun j hj => by omega⟩, ⟨fun j hj => by omega, fun j hj => by omega, fun j hj => by omega⟩, ⟨fun j hj => by omega, fun j hj => by omega, fun j hj => by omega⟩⟩⟩
 intro i ⟨hi, hI⟩ K hn hx hr
 refine byVB (vbSmo s0 s1 s2 w.length i ln sa d0 d1 d2 y sg mk pk (win L i) w sta spa aca jea loa hia bla oga sga stb spb acb jeb lob hib blb ogb sgb stc spc acc jec loc hic blc ogc sgc pta ptb ptc K) ⟨fun g => ?_, fun g => ?_⟩
 . have g := odt g
   have hil : i < w.length := by omega
   have hb1 := hs i hil
   refine ⟨by omega, fun x1 e1 => ?_⟩
   have e1 : x1 = el w i := e1
   refine ⟨by omega, fun x2 e2 => ⟨⟨hp.1, hp.2.1, hp.2.2.1, ha.1, ha.2.1, ha.2.2, hp.2.2.2⟩, fun x3 e3 x4 e4 x5 e5 => ?_⟩⟩
   have er : [x3, x4, x5] = L.getD i [] := by rw [hg i hil, e3, e4, e5, e2, e1]; rfl
   rw [er, win_next (by omega)]
   have wl := win_len L (i := i) (by omega)
   have dl : (List.drop (i - 4) (List.take (i + 1) L)).length = i + 1 - (i - 4) := by simp; omega
   have step : ∀ (k : Int), k = (i : Int) + 1 -> ∀ x6 : Bool, x6 = wth3 spa aca jea spb acb jeb spc acc jec (win L (i + 1)) -> (((!x6) = true -> K .ret ([.ce (.bool false)], [[I6 s0, I6 s1, I6 s2, .sl false [4, 4, 4, 4, 4, 4, 4] sg, .sl false [4, 4, 4] mk], [I6 sta, I6 spa, I6 aca, I6 jea, I6 loa, I6 hia, I6 bla, I6 oga, I6 sga, .sl false [4] pta, I6 stb, I6 spb, I6 acb, I6 jeb, I6 lob, I6 hib, I6 blb, I6 ogb, I6 sgb, .sl false [4] ptb, I6 stc, I6 spc, I6 acc, I6 jec, I6 loc, I6 hic, I6 blc, I6 ogc, I6 sgc, .sl false [4] ptc], [.sl false [4, 4, 4, 4, 4, 4, 4, 4, 4, 4] pk, I6 ln, I6 sa, I6 d0, I6 d1, I6 d2]])) /\ ((!x6) = false -> K .normal ([.ce (.ptr 1000004 0), .ce (.ptr 1000005 0), .ce (.ptr 1000006 0), .ce (.bool y), .ce (.sl false [4, 4, 4] (win L (i + 1))), .ce (.lit true), .ce (.sl false [4] w), .ce (I6 (w.length : Int)), .ce (I6 k)], [[I6 s0, I6 s1, I6 s2, .sl false [4, 4, 4, 4, 4, 4, 4] sg, .sl false [4, 4, 4] mk], [I6 sta, I6 spa, I6 aca, I6 jea, I6 loa, I6 hia, I6 bla, I6 oga, I6 sga, .sl false [4] pta, I6 stb, I6 spb, I6 acb, I6 jeb, I6 lob, I6 hib, I6 blb, I6 ogb, I6 sgb, .sl false [4] ptb, I6 stc, I6 spc, I6 acc, I6 jec, I6 loc, I6 hic, I6 blc, I6 ogc, I6 sgc, .sl false [4] ptc], [.sl false [4, 4, 4, 4, 4, 4, 4, 4, 4, 4] pk, I6 ln, I6 sa, I6 d0, I6 d1, I6 d2]]))) := by
    intro k ek x6 e6
    have nx := wth3_next (s0 := spa) (a0 := aca) (j0 := jea) (s1 := spb) (a1 := acb) (j1 := jeb) (s2 := spc) (a2 := acc) (j2 := jec) (L := L) (n := i) (by omega)
    refine ⟨fun g6 => hr _ (hq2 (wth3_le (n := i + 1) (by omega) ?_)), fun g6 => ?_⟩
    . cases hc : wth3 spa aca jea spb acb jeb spc acc jec (L.take (i + 1))
      . rfl
      . have := (nx.1 hc).2; rw [<- e6] at this; rw [this] at g6; cases g6
    . have := hn (i + 1) ⟨hil, nx.2 ⟨hI, by rw [<- e6]; cases x6 <;> simp at g6 ⊢⟩⟩ (by omega)
      rw [show ((i + 1 : Nat) : Int) = k by omega] at this
      exact this
   refine ⟨⟨by omega, by unfold maxLen; omega⟩, fun g4 => ?_, fun g4 => ?_⟩
   . have g4 := odt g4
     rw [dl] at g4
     have ew : List.drop 1 (List.drop (i - 4) (List.take (i + 1) L)) = win L (i + 1) := by unfold win; rw [List.drop_drop, show i - 4 + 1 = i + 1 - 4 by omega]
     rw [ew]
     refine ⟨by rw [dl]; omega, ⟨by rw [win_len L (by omega)]; omega, Sm3_win hS (by omega), hli⟩, fun x6 e6 => ?_⟩
     have := step ((i : Int) + 1) rfl x6 e6
     exact ⟨this.1, fun g6 => ⟨by omega, fun x7 e7 => by rw [e7]; exact this.2 g6⟩⟩
   . have g4 := odf g4
     rw [dl] at g4
     have ew : List.drop (i - 4) (List.take (i + 1) L) = win L (i + 1) := by unfold win; rw [show i - 4 = i + 1 - 4 by omega]
     rw [ew]
     refine ⟨⟨by rw [win_len L (by omega)]; omega, Sm3_win hS (by omega), hli⟩, fun x6 e6 => ?_⟩
     have := step ((i : Int) + 1) rfl x6 e6
     exact ⟨this.1, fun g6 => ⟨by omega, fun x7 e7 => by rw [e7]; exact this.2 g6⟩⟩
 . have g := odf g
   obtain rfl : i = w.length := by omega
   rw [<- hL, List.take_length] at hI
   exact hx _ _ (hq1 hI)
theorem sSmo : Sound Try.prog 34 SSmo := by
 refine sound_of (C := CSmo) tabSmo Try.func34 (by kernel_rfl) (by decide +kernel) (by kernel_rfl) rfl ⟨sQUnit, sMotors, sAll, trivial⟩ (loops1 (by kernel_rfl) (loopOK_of (an := anSmo) (S := LSmo) (by kernel_rfl) loopSmo)) ?_
 intro hA pA R h
 unfold SSmo at h
 split at h
 case h_2 => exfalso; exact h
 rename_i s0 s1 s2 sg mk ax pk ln sa d0 d1 d2 w
 split at h
 case h_2 => exact h.elim
 rename_i sta spa aca jea loa hia bla oga sga pta stb spb acb jeb lob hib blb ogb sgb ptb stc spc acc jec loc hic blc ogc sgc ptc
 obtain ⟨hp, hR⟩ := h
 exact byVC (vcSmo s0 s1 s2 ln sa d0 d1 d2 sg mk pk w sta spa aca jea loa hia bla oga sga stb spb acb jeb lob hib blb ogb sgb stc spc acc jec loc hic blc ogc sgc pta ptb ptc R) ⟨⟨rfl, rfl, rfl, hp⟩, fun e => by rw [e] at hR; exact hR, fun e => by rw [e] at hR; exact hR⟩
set_option maxHeartbeats 2000000 in
theorem sSafe : Sound Try.prog 23 SSafe := by
 refine sound_of (C := CSafe) tabSafe Try.func23 (by kernel_rfl) (by decide +kernel) (by kernel_rfl) rfl ⟨sQFut, sSmo, trivial⟩ (loops0 (by kernel_rfl)) ?_
 intro hA pA R h
 unfold SSafe at h
 split at h
 case h_2 => exfalso; exact h
 rename_i s0 s1 s2 sg mk ax pk ln sa d0 d1 d2 A J Rp mu mv ma ml mp mb lim
 split at h
 case h_2 => exact h.elim
 rename_i sta spa aca jea loa hia bla oga sga pta stb spb acb jeb lob hib blb ogb sgb ptb stc spc acc jec loc hic blc ogc sgc ptc
 obtain ⟨⟨⟨hp, ha, hli⟩, hpl, ⟨hu, hml, hmp, hmb⟩, hlim⟩, hR⟩ := h
 refine byVC (vcSafe s0 s1 s2 ln sa d0 d1 d2 A J Rp mu mv ma ml mp mb lim sg mk pk sta spa aca jea loa hia bla oga sga stb spb acb jeb lob hib blb ogb sgb stc spc acc jec loc hic blc ogc sgc pta ptb ptc R) ⟨⟨hpl, hu⟩, ⟨_, rfl⟩, fun x e => ?_⟩
 subst e
 have hs := qsp_spd (v := mv) (a := ma) hpl
 have hl : (qfu A J mu mv ma).length <= 4096 := by unfold qfu; rw [qcum_len]; exact hs.1
 have hel : ∀ j, j < (qfu A J mu mv ma).length -> -9000000000000000000 <= el (qfu A J mu mv ma) j /\ el (qfu A J mu mv ma) j <= 9000000000000000000 := fun j hj => by
  unfold qfu at hj ⊢
  rw [qcum_len] at hj
  rw [el_qcum hj]
  have := qsm_bd hs (j + 1) (by omega)
  have := hs.1
  unfold okU at hu
  omega
 have he := qend_bd (u := mu) hs
 rw [show qcum mu (qsp A J mv ma) = qfu A J mu mv ma from rfl] at he
 unfold qsafe at hR
 refine ⟨fun g => ?_, fun g => ?_⟩
 . have g : qfok A J mv ma = false := by simpa using g
   simp only [g, Bool.false_and] at hR; exact hR
 have g : qfok A J mv ma = true := by simpa using g
 simp only [g, Bool.true_and] at hR
 have tail : ∀ (x3 : Int), x3 = qend mu (qfu A J mu mv ma) -> (-9223372036854775808 <= lim * 256 /\ lim * 256 <= 9223372036854775807) /\ ∀ (x4 : Int), x4 = lim * 256 -> (decide (x3 > x4) = true -> R ⟨.ce (.bool false), false, [], []⟩) /\ (decide (x3 > x4) = false ->
  ((4 + (qfu A J mu mv ma).length) * 8 <= 140737488355328 /\ 4 + (qfu A J mu mv ma).length <= maxLen) /\ ((([[mb], [mp], [ml], [mu]] ++ qfu A J mu mv ma).length + 2) * 8 <= 140737488355328 /\ ([[mb], [mp], [ml], [mu]] ++ qfu A J mu mv ma).length + 2 <= maxLen) /\
  (okPT s0 s1 s2 sg pk ln sa /\ okA3 sta oga sga pta bla stb ogb sgb ptb blb stc ogc sgc ptc blc /\ okL3 spa aca jea spb acb jeb spc acc jec /\ ([[mb], [mp], [ml], [mu]] ++ qfu A J mu mv ma ++ [[x3], [x3]]).length <= 8000 /\ Sm 9000000000000000000 ([[mb], [mp], [ml], [mu]] ++ qfu A J mu mv ma ++ [[x3], [x3]])) /\
  ∀ (x5 : Bool), x5 = wth3 spa aca jea spb acb jeb spc acc jec (qmot (mtr sta oga sga pta bla s0 sg 0 pk sa d0) (mtr stb ogb sgb ptb blb s1 sg 1 pk sa d1) (mtr stc ogc sgc ptc blc s2 sg 2 pk sa d2) ln ([[mb], [mp], [ml], [mu]] ++ qfu A J mu mv ma ++ [[x3], [x3]])) -> R ⟨.ce (.bool x5), false, [], []⟩) := by
  intro x3 e3
  refine ⟨by omega, fun x4 e4 => ⟨fun g3 => ?_, fun g3 => ⟨⟨by omega, by unfold maxLen; omega⟩, ⟨by simp; omega, by simp; unfold maxLen; omega⟩, ⟨hp, ha, hli, by simp; omega, ?_⟩, fun x5 e5 => ?_⟩⟩⟩
  . have g3 := odt g3
    rw [decide_eq_false (by omega), Bool.false_and] at hR; exact hR
  . unfold okU at hu hml hmp hmb
    intro j hj
    rw [List.append_assoc, el_append]
    split
    . rename_i hj4
      have hj4 : j < 4 := hj4
      rcases (by omega : j = 0 ∨ j = 1 ∨ j = 2 ∨ j = 3) with rfl | rfl | rfl | rfl
      . show -9000000000000000000 <= mb /\ mb <= 9000000000000000000; omega
      . show -9000000000000000000 <= mp /\ mp <= 9000000000000000000; omega
      . show -9000000000000000000 <= ml /\ ml <= 9000000000000000000; omega
      . show -9000000000000000000 <= mu /\ mu <= 9000000000000000000; omega
    . rw [el_append]
      split
      . rename_i h2; exact hel _ h2
      . rename_i h1 h2
        simp at hj h1 h2
        rcases (by omega : j - 4 - (qfu A J mu mv ma).length = 0 ∨ j - 4 - (qfu A J mu mv ma).length = 1) with h5 | h5
        . rw [show List.length [[mb], [mp], [ml], [mu]] = 4 from rfl, h5]; show -9000000000000000000 <= x3 /\ x3 <= 9000000000000000000; omega
        . rw [show List.length [[mb], [mp], [ml], [mu]] = 4 from rfl, h5]; show -9000000000000000000 <= x3 /\ x3 <= 9000000000000000000; omega
  . have g3 := odf g3
    rw [decide_eq_true (by omega), Bool.true_and] at hR
    rw [e5, e3]; exact hR
 dsimp only
 refine ⟨fun g2 => ⟨by omega, fun x2 e2 => ⟨by have := odt g2; omega, fun x3 e3 => tail x3 ?_⟩⟩, fun g2 => tail mu ?_⟩
 . have g2 := odt g2
   unfold qend
   rw [if_neg (by omega), e3, show x2.toNat = (qfu A J mu mv ma).length - 1 by omega]
 . have g2 := odf g2
   unfold qend
   rw [if_pos (by omega)]
theorem loopFit : ∀ v Q, (LFit v).wp Q -> hloop CFit anFit (nthLoop Try.f22 0) v Q := by
 intro v Q h
 unfold LFit at h
 split at h
 case h_2 => exact h.elim
 rename_i y u l len k s0 s1 s2 sg mk pk ln sa d0 d1 d2 A J Rp fo ro ho so oo
 obtain ⟨⟨h1, h2, hp, h0, s, hl, hs, hu⟩, hq1, hq2⟩ := h
 subst h1 h2
 have hll : l.length = s.length := by rw [hl, qcum_len]
 have hsl := hs.1
 have ee : ∀ i, i < l.length -> el l i = u + qsm s i + el s i := fun i hi => by rw [hl, el_qcum (by omega), qsm]; omega
 have e0 : u = u + qsm s 0 := by simp [qsm]
 refine Eq.mp (by rw [<- e0]; rfl) (hloop_rec (C := CFit) (an := anFit) (c := nthLoop Try.f22 0) (Q := Q) (σ := Nat) (fun i => ([.ce (.ptr 1000005 0), .ce (.ptr 1000006 0), .ce (.ptr 1000007 0), .ce (.ptr 1000008 0), .ce (.bool y), .ce (I6 (u + qsm s i)), .ce (.sl false [4] l), .ce (I6 (l.length : Int)), .ce (I6 (i : Int))], [[I6 s0, I6 s1, I6 s2, .sl false [4, 4, 4, 4, 4, 4, 4] sg, .sl false [4, 4, 4] mk], [.sl false [4, 4, 4, 4, 4, 4, 4, 4, 4, 4] pk, I6 ln, I6 sa, I6 d0, I6 d1, I6 d2], [I6 A, I6 J, I6 Rp], [I6 fo, I6 ro, .bool ho, .bool so, .bool oo]]))
  (fun i => l.length - i) (fun i => i <= l.length /\ qfl (qtg ho fo ro Rp sg pk sa ln) u l = qfl (qtg ho fo ro Rp sg pk sa ln) (u + qsm s i) (l.drop i)) ?_ 0 ⟨Nat.zero_le _, by rw [<- e0]; rfl⟩)
 intro i ⟨hi, hI⟩ K hn hx hr
 refine byVB (vbFit s0 s1 s2 ln sa d0 d1 d2 A J Rp fo ro (u + qsm s i) l.length i ho so oo y sg mk pk l K) ⟨fun g => ?_, fun g => ?_⟩
 . have g := odt g
   have hil : i < l.length := by omega
   have b := qsm_bd hs i (by omega)
   have c := hs.2 i (by omega)
   have e := ee i hil
   rw [qfl_app (u := u) hil] at hI
   unfold okV at hu
   refine ⟨by omega, fun x1 e1 => ?_⟩
   have e1 : x1 = el l i := e1
   refine ⟨by omega, fun x2 e2 => ⟨⟨hp, h0, by unfold okU; omega⟩, fun x3 e3 => ⟨fun g2 => hr _ (hq2 ?_), fun g2 => ⟨by omega, fun x4 e4 => ?_⟩⟩⟩⟩
   . have g2 := odt g2
     rw [hI, <- e1, decide_eq_false (by omega), Bool.false_and]
   . have g2 := odf g2
     have e9 : el l i = u + qsm s (i + 1) := by rw [qsm]; omega
     have := hn (i + 1) ⟨hil, by rw [hI, <- e9, <- e1, decide_eq_true (by omega), Bool.true_and]⟩ (by omega)
     rw [<- e9, <- e1, show ((i + 1 : Nat) : Int) = x4 by omega] at this
     exact this
 . have g := odf g
   obtain rfl : i = l.length := by omega
   rw [List.drop_length] at hI
   exact hx _ _ (hq1 hI)
theorem sFit : Sound Try.prog 22 SFit := by
 refine sound_of (C := CFit) tabFit Try.func22 (by kernel_rfl) (by decide +kernel) (by kernel_rfl) rfl ⟨sQFut, sQTg, trivial⟩ (loops1 (by kernel_rfl) (loopOK_of (an := anFit) (S := LFit) (by kernel_rfl) loopFit)) ?_
 intro hA pA R h
 unfold SFit at h
 split at h
 case h_2 => exfalso; exact h
 rename_i s0 s1 s2 sg mk pk ln sa d0 d1 d2 A J Rp fo ro ho so oo mu mv ma ml mp mb
 obtain ⟨⟨hp, hpl, hu⟩, hR⟩ := h
 have hu' : okU mu := by unfold okV at hu; unfold okU; omega
 refine byVC (vcFit s0 s1 s2 ln sa d0 d1 d2 A J Rp fo ro mu mv ma ml mp mb ho so oo sg mk pk R) ⟨⟨hpl, hu'⟩, ⟨_, rfl⟩, fun x e => ?_⟩
 subst e
 unfold qfit at hR
 refine ⟨fun g => ?_, fun g => ?_⟩
 . have g : qfok A J mv ma = false := by simpa using g
   simp only [g, Bool.false_and] at hR; exact hR
 have g : qfok A J mv ma = true := by simpa using g
 simp only [g, Bool.true_and] at hR
 refine ⟨fun g2 => ?_, fun g2 => ?_⟩
 . have g2 : sg.length = 0 := by simpa using g2
   rw [decide_eq_false (by omega), Bool.false_and] at hR; exact hR
 have g2 : sg.length ≠ 0 := by simpa using g2
 rw [decide_eq_true (by omega), Bool.true_and] at hR
 refine ⟨⟨hp, by omega, hu'⟩, fun x2 e2 => ⟨fun g3 => ?_, fun g3 => ⟨⟨rfl, rfl, hp, by omega, qsp A J mv ma, rfl, qsp_spd hpl, hu⟩, fun g4 => ?_, fun g4 => ?_⟩⟩⟩
 . have g3 := odt g3
   rw [decide_eq_false (by omega), Bool.false_and] at hR; exact hR
 . have g3 := odf g3
   rw [decide_eq_true (by omega), Bool.true_and, g4] at hR; exact hR
 . have g3 := odf g3
   rw [decide_eq_true (by omega), Bool.true_and, g4] at hR; exact hR
end Go.Proofs.Ytoekmphdpepdbaa
namespace U
open Go
def qok (A J : Int) (W : LL -> Bool) (Mo : LL -> LL) (n : Nat) (T : Int -> Int) (m : QM) (lim k : Int) : Bool :=
 decide (0 <= m.v + (m.a + k)) && (qready A J (m.v + (m.a + k)) (m.a + k) && (qfit A J n T (qmove m (m.v + (m.a + k))) && qsafe A J W Mo (qmove m (m.v + (m.a + k))) lim))
def qpick (ok : Int -> Bool) : LL -> Option Int
 | [] => none
 | r :: l => if ok (r.getD 0 0) = true then some (r.getD 0 0) else qpick ok l
def qnext (A J : Int) (W : LL -> Bool) (Mo : LL -> LL) (n : Nat) (T : Int -> Int) (m : QM) (lim : Int) : QM :=
 match qpick (qok A J W Mo n T m lim) (chg J) with
 | some k => qmove m (m.v + (m.a + k))
 | none => qmove m (m.v + qbrk A J m.v m.a)
def okN (m : QM) : Prop := (-4800000000000000000 <= m.u /\ m.u <= 4800000000000000000) /\ (-549755813888 <= m.v /\ m.v <= 549755813888) /\ (-549755813888 <= m.a /\ m.a <= 549755813888) /\ okU m.l /\ okU m.p
def qpk (ok : Int -> Bool) (m : QM) (l : LL) (x : Bool × QM) : Prop :=
 (∃ k, qpick ok l = some k /\ x = (true, qmove m (m.v + (m.a + k)))) ∨ (qpick ok l = none /\ x.1 = false)
end U
namespace Go.Proofs.Ytoekmphdpepdbaa
open Go Go.HL U
def SPNext (hargs : List HV) (pars : List (List HC)) : SR :=
 match hargs, pars with
 | [.agg [.int .i64 s0, .int .i64 s1, .int .i64 s2, .sl false [4, 4, 4, 4, 4, 4, 4] sg, .sl false [4, 4, 4] mk], .agg ax, .agg [.sl false [4, 4, 4, 4, 4, 4, 4, 4, 4, 4] pk, .int .i64 ln, .int .i64 sa, .int .i64 d0, .int .i64 d1, .int .i64 d2], .agg [.int .i64 A, .int .i64 J, .int .i64 R], .agg [.int .i64 fo, .int .i64 ro, .bool ho, .bool so, .bool oo], .agg [.int .i64 mu, .int .i64 mv, .int .i64 ma, .int .i64 ml, .int .i64 mp, .int .i64 mb], .ce (.int .i64 lim)], [] =>
  match ax with
  | [.int .i64 sta, .int .i64 spa, .int .i64 aca, .int .i64 jea, .int .i64 loa, .int .i64 hia, .int .i64 bla, .int .i64 oga, .int .i64 sga, .sl false [4] pta, .int .i64 stb, .int .i64 spb, .int .i64 acb, .int .i64 jeb, .int .i64 lob, .int .i64 hib, .int .i64 blb, .int .i64 ogb, .int .i64 sgb, .sl false [4] ptb, .int .i64 stc, .int .i64 spc, .int .i64 acc, .int .i64 jec, .int .i64 loc, .int .i64 hic, .int .i64 blc, .int .i64 ogc, .int .i64 sgc, .sl false [4] ptc] => .all ((okPT s0 s1 s2 sg pk ln sa /\ okA3 sta oga sga pta bla stb ogb sgb ptb blb stc ogc sgc ptc blc /\ okL3 spa aca jea spb acb jeb spc acc jec) /\ okPl A J R /\ okN ⟨mu, mv, ma, ml, mp, mb⟩ /\ (0 <= lim /\ lim <= 18014398509481984)) QM
   (fun x => x = qnext A J (wth3 spa aca jea spb acb jeb spc acc jec) (qmot (mtr sta oga sga pta bla s0 sg 0 pk sa d0) (mtr stb ogb sgb ptb blb s1 sg 1 pk sa d1) (mtr stc ogc sgc ptc blc s2 sg 2 pk sa d2) ln) sg.length (qtg ho fo ro R sg pk sa ln) ⟨mu, mv, ma, ml, mp, mb⟩ lim)
   (fun x => ⟨.agg [I6 x.u, I6 x.v, I6 x.a, I6 x.l, I6 x.p, I6 x.b], false, [], []⟩)
  | _ => .fail
 | _, _ => .fail
def anNx : LAnn := ⟨[6, 7, 8, 9, 10, 11, 12, 14, 15, 16, 23, 24, 25], [10, 12, 14, 15, 16], [1000007, 1000008, 1000009, 1000010, 1000011, 1000012, 1000014, 1000015], false⟩
set_option maxHeartbeats 4000000 in
def LNx (v : LV) : LR :=
 match v with
 | ([.ce (.int .i64 lim), .ce (.ptr 1000007 0), .ce (.ptr 1000008 0), .ce (.ptr 1000009 0), .ce (.ptr 1000010 0), .ce (.ptr 1000011 0), .ce (.ptr 1000012 0), .ce (.ptr 1000014 0), .ce (.ptr 1000015 0), .ce (.bool y), .ce (.sl false [4] l), .ce (.int .i64 len), .ce (.int .i64 i)],
  [[.int .i64 s0, .int .i64 s1, .int .i64 s2, .sl false [4, 4, 4, 4, 4, 4, 4] sg, .sl false [4, 4, 4] mk], ax, tr, [.int .i64 A, .int .i64 J, .int .i64 R], [.int .i64 fo, .int .i64 ro, .bool ho, .bool so, .bool oo], [.int .i64 mu, .int .i64 mv, .int .i64 ma, .int .i64 ml, .int .i64 mp, .int .i64 mb], [.int .i64 z0, .int .i64 z1, .int .i64 z2, .int .i64 z3, .int .i64 z4, .int .i64 z5], [.int .i64 f0, .int .i64 f1, .int .i64 f2, .int .i64 f3, .int .i64 f4, .int .i64 f5]]) =>
  match ax with
  | [.int .i64 sta, .int .i64 spa, .int .i64 aca, .int .i64 jea, .int .i64 loa, .int .i64 hia, .int .i64 bla, .int .i64 oga, .int .i64 sga, .sl false [4] pta, .int .i64 stb, .int .i64 spb, .int .i64 acb, .int .i64 jeb, .int .i64 lob, .int .i64 hib, .int .i64 blb, .int .i64 ogb, .int .i64 sgb, .sl false [4] ptb, .int .i64 stc, .int .i64 spc, .int .i64 acc, .int .i64 jec, .int .i64 loc, .int .i64 hic, .int .i64 blc, .int .i64 ogc, .int .i64 sgc, .sl false [4] ptc] => match tr with
   | [.sl false [4, 4, 4, 4, 4, 4, 4, 4, 4, 4] pk, .int .i64 ln, .int .i64 sa, .int .i64 d0, .int .i64 d1, .int .i64 d2] => .all ((okPT s0 s1 s2 sg pk ln sa /\ okA3 sta oga sga pta bla stb ogb sgb ptb blb stc ogc sgc ptc blc /\ okL3 spa aca jea spb acb jeb spc acc jec) /\ okPl A J R /\ okN ⟨mu, mv, ma, ml, mp, mb⟩ /\ (0 <= lim /\ lim <= 18014398509481984) /\ y = false /\ len = l.length /\ i = 0 /\ l.length <= 200000 /\ Sm 65536 l) (Bool × QM)
    (qpk (qok A J (wth3 spa aca jea spb acb jeb spc acc jec) (qmot (mtr sta oga sga pta bla s0 sg 0 pk sa d0) (mtr stb ogb sgb ptb blb s1 sg 1 pk sa d1) (mtr stc ogc sgc ptc blc s2 sg 2 pk sa d2) ln) sg.length (qtg ho fo ro R sg pk sa ln) ⟨mu, mv, ma, ml, mp, mb⟩ lim) ⟨mu, mv, ma, ml, mp, mb⟩ l)
    (fun _ => .exit 0)
    (fun x => ([.ce (.ptr 1000010 0), .ce (.ptr 1000012 0), .ce (.ptr 1000014 0), .ce (.ptr 1000015 0), .ce (.bool x.1)], [[I6 s0, I6 s1, I6 s2, .sl false [4, 4, 4, 4, 4, 4, 4] sg, .sl false [4, 4, 4] mk], [I6 sta, I6 spa, I6 aca, I6 jea, I6 loa, I6 hia, I6 bla, I6 oga, I6 sga, .sl false [4] pta, I6 stb, I6 spb, I6 acb, I6 jeb, I6 lob, I6 hib, I6 blb, I6 ogb, I6 sgb, .sl false [4] ptb, I6 stc, I6 spc, I6 acc, I6 jec, I6 loc, I6 hic, I6 blc, I6 ogc, I6 sgc, .sl false [4] ptc], [.sl false [4, 4, 4, 4, 4, 4, 4, 4, 4, 4] pk, I6 ln, I6 sa, I6 d0, I6 d1, I6 d2], [I6 A, I6 J, I6 R], [I6 fo, I6 ro, .bool ho, .bool so, .bool oo], [I6 mu, I6 mv, I6 ma, I6 ml, I6 mp, I6 mb], [I6 z0, I6 z1, I6 z2, I6 z3, I6 z4, I6 z5], [I6 x.2.u, I6 x.2.v, I6 x.2.a, I6 x.2.l, I6 x.2.p, I6 x.2.b]]))
   | _ => .fail
  | _ => .fail
 | _ => .fail
def tabNx : List (FuncId × HL.Spec) := [(20, SChg), (21, SQReady), (12, SQMove), (22, SFit), (23, SSafe), (24, SQBrake)]
noncomputable def CNx : Ctx := ⟨Try.prog, gam tabNx, Try.f16.ntmps, [(4, anNx, LNx)], []⟩
theorem vbNx (s0 s1 s2 ln sa d0 d1 d2 A J R fo ro mu mv ma ml mp mb lim len i z0 z1 z2 z3 z4 z5 f0 f1 f2 f3 f4 f5 : Int) (ho so oo y : Bool) (sg mk pk l : LL) (sta spa aca jea loa hia bla oga sga stb spb acb jeb lob hib blb ogb sgb stc spc acc jec loc hic blc ogc sgc : Int) (pta ptb ptc : LL) (K : HEx -> LV -> Prop) : (nbodyT true CNx anNx (nthLoop Try.f16 0) (([.ce (I6 lim), .ce (.ptr 1000007 0), .ce (.ptr 1000008 0), .ce (.ptr 1000009 0), .ce (.ptr 1000010 0), .ce (.ptr 1000011 0), .ce (.ptr 1000012 0), .ce (.ptr 1000014 0), .ce (.ptr 1000015 0), .ce (.bool y), .ce (.sl false [4] l), .ce (I6 len), .ce (I6 i)], [[I6 s0, I6 s1, I6 s2, .sl false [4, 4, 4, 4, 4, 4, 4] sg, .sl false [4, 4, 4] mk], [I6 sta, I6 spa, I6 aca, I6 jea, I6 loa, I6 hia, I6 bla, I6 oga, I6 sga, .sl false [4] pta, I6 stb, I6 spb, I6 acb, I6 jeb, I6 lob, I6 hib, I6 blb, I6 ogb, I6 sgb, .sl false [4] ptb, I6 stc, I6 spc, I6 acc, I6 jec, I6 loc, I6 hic, I6 blc, I6 ogc, I6 sgc, .sl false [4] ptc], [.sl false [4, 4, 4, 4, 4, 4, 4, 4, 4, 4] pk, I6 ln, I6 sa, I6 d0, I6 d1, I6 d2], [I6 A, I6 J, I6 R], [I6 fo, I6 ro, .bool ho, .bool so, .bool oo], [I6 mu, I6 mv, I6 ma, I6 ml, I6 mp, I6 mb], [I6 z0, I6 z1, I6 z2, I6 z3, I6 z4, I6 z5], [I6 f0, I6 f1, I6 f2, I6 f3, I6 f4, I6 f5]])) K) =
 (Br (i < len) ((0 <= i /\ i < (l.length : Int)) /\ ∀ x1, x1 = el l i.toNat -> R6 (ma + x1) /\ ∀ x2, x2 = ma + x1 -> R6 (mv + x2) /\ ∀ x3, x3 = mv + x2 -> Br (x3 < 0) (R6 (i + 1) /\ ∀ x4, x4 = i + 1 -> K .normal ([.ce (I6 lim), .ce (.ptr 1000007 0), .ce (.ptr 1000008 0), .ce (.ptr 1000009 0), .ce (.ptr 1000010 0), .ce (.ptr 1000011 0), .ce (.ptr 1000012 0), .ce (.ptr 1000014 0), .ce (.ptr 1000015 0), .ce (.bool y), .ce (.sl false [4] l), .ce (I6 len), .ce (I6 x4)], [[I6 s0, I6 s1, I6 s2, .sl false [4, 4, 4, 4, 4, 4, 4] sg, .sl false [4, 4, 4] mk], [I6 sta, I6 spa, I6 aca, I6 jea, I6 loa, I6 hia, I6 bla, I6 oga, I6 sga, .sl false [4] pta, I6 stb, I6 spb, I6 acb, I6 jeb, I6 lob, I6 hib, I6 blb, I6 ogb, I6 sgb, .sl false [4] ptb, I6 stc, I6 spc, I6 acc, I6 jec, I6 loc, I6 hic, I6 blc, I6 ogc, I6 sgc, .sl false [4] ptc], [.sl false [4, 4, 4, 4, 4, 4, 4, 4, 4, 4] pk, I6 ln, I6 sa, I6 d0, I6 d1, I6 d2], [I6 A, I6 J, I6 R], [I6 fo, I6 ro, .bool ho, .bool so, .bool oo], [I6 mu, I6 mv, I6 ma, I6 ml, I6 mp, I6 mb], [I6 z0, I6 z1, I6 z2, I6 z3, I6 z4, I6 z5], [I6 f0, I6 f1, I6 f2, I6 f3, I6 f4, I6 f5]])) (R6 (mv + x2) /\ ∀ x5, x5 = mv + x2 -> okPl A J R /\ ∀ (x6 : Bool), x6 = qready A J x5 x2 -> Bb (!x6) (R6 (i + 1) /\ ∀ x7, x7 = i + 1 -> K .normal ([.ce (I6 lim), .ce (.ptr 1000007 0), .ce (.ptr 1000008 0), .ce (.ptr 1000009 0), .ce (.ptr 1000010 0), .ce (.ptr 1000011 0), .ce (.ptr 1000012 0), .ce (.ptr 1000014 0), .ce (.ptr 1000015 0), .ce (.bool y), .ce (.sl false [4] l), .ce (I6 len), .ce (I6 x7)], [[I6 s0, I6 s1, I6 s2, .sl false [4, 4, 4, 4, 4, 4, 4] sg, .sl false [4, 4, 4] mk], [I6 sta, I6 spa, I6 aca, I6 jea, I6 loa, I6 hia, I6 bla, I6 oga, I6 sga, .sl false [4] pta, I6 stb, I6 spb, I6 acb, I6 jeb, I6 lob, I6 hib, I6 blb, I6 ogb, I6 sgb, .sl false [4] ptb, I6 stc, I6 spc, I6 acc, I6 jec, I6 loc, I6 hic, I6 blc, I6 ogc, I6 sgc, .sl false [4] ptc], [.sl false [4, 4, 4, 4, 4, 4, 4, 4, 4, 4] pk, I6 ln, I6 sa, I6 d0, I6 d1, I6 d2], [I6 A, I6 J, I6 R], [I6 fo, I6 ro, .bool ho, .bool so, .bool oo], [I6 mu, I6 mv, I6 ma, I6 ml, I6 mp, I6 mb], [I6 z0, I6 z1, I6 z2, I6 z3, I6 z4, I6 z5], [I6 f0, I6 f1, I6 f2, I6 f3, I6 f4, I6 f5]])) (R6 (mv + x2) /\ ∀ x8, x8 = mv + x2 -> (okU mu /\ (-2199023255552 <= x8 /\ x8 <= 2199023255552) /\ -2199023255552 <= mv /\ mv <= 2199023255552) /\ (∃ (x : QM), x = qmove ⟨mu, mv, ma, ml, mp, mb⟩ x8) /\ ∀ (x : QM), x = qmove ⟨mu, mv, ma, ml, mp, mb⟩ x8 -> ((okLen sg /\ okTrk pk ln /\ 0 <= sa /\ sa <= 18014398509481984) /\ okPl A J R /\ okV x.u) /\ ∀ (x10 : Bool), x10 = qfit A J (sg.length) (qtg ho fo ro R sg pk sa ln) { u := x.u, v := x.v, a := x.a, l := x.l, p := x.p, b := x.b } -> Bb (x10) (((okPT s0 s1 s2 sg pk ln sa /\ okA3 sta oga sga pta bla stb ogb sgb ptb blb stc ogc sgc ptc blc /\ okL3 spa aca jea spb acb jeb spc acc jec) /\ okPl A J R /\ (okU x.u /\ okU x.l /\ okU x.p /\ okU x.b) /\ 0 <= lim /\ lim <= 18014398509481984) /\ ∀ (x11 : Bool), x11 = qsafe A J (wth3 spa aca jea spb acb jeb spc acc jec) (qmot (mtr sta oga sga pta bla s0 sg (0 : Nat) pk sa d0) (mtr stb ogb sgb ptb blb s1 sg (1 : Nat) pk sa d1) (mtr stc ogc sgc ptc blc s2 sg (2 : Nat) pk sa d2) ln) { u := x.u, v := x.v, a := x.a, l := x.l, p := x.p, b := x.b } lim ->
 Bb (x11) (K (.exit 0) ([.ce (.ptr 1000010 0), .ce (.ptr 1000012 0), .ce (.ptr 1000014 0), .ce (.ptr 1000015 0), .ce (.bool true)], [[I6 s0, I6 s1, I6 s2, .sl false [4, 4, 4, 4, 4, 4, 4] sg, .sl false [4, 4, 4] mk], [I6 sta, I6 spa, I6 aca, I6 jea, I6 loa, I6 hia, I6 bla, I6 oga, I6 sga, .sl false [4] pta, I6 stb, I6 spb, I6 acb, I6 jeb, I6 lob, I6 hib, I6 blb, I6 ogb, I6 sgb, .sl false [4] ptb, I6 stc, I6 spc, I6 acc, I6 jec, I6 loc, I6 hic, I6 blc, I6 ogc, I6 sgc, .sl false [4] ptc], [.sl false [4, 4, 4, 4, 4, 4, 4, 4, 4, 4] pk, I6 ln, I6 sa, I6 d0, I6 d1, I6 d2], [I6 A, I6 J, I6 R], [I6 fo, I6 ro, .bool ho, .bool so, .bool oo], [I6 mu, I6 mv, I6 ma, I6 ml, I6 mp, I6 mb], [I6 z0, I6 z1, I6 z2, I6 z3, I6 z4, I6 z5], [I6 x.u, I6 x.v, I6 x.a, I6 x.l, I6 x.p, I6 x.b]])) (R6 (i + 1) /\ ∀ x12, x12 = i + 1 -> K .normal ([.ce (I6 lim), .ce (.ptr 1000007 0), .ce (.ptr 1000008 0), .ce (.ptr 1000009 0), .ce (.ptr 1000010 0), .ce (.ptr 1000011 0), .ce (.ptr 1000012 0), .ce (.ptr 1000014 0), .ce (.ptr 1000015 0), .ce (.bool y), .ce (.sl false [4] l), .ce (I6 len), .ce (I6 x12)], [[I6 s0, I6 s1, I6 s2, .sl false [4, 4, 4, 4, 4, 4, 4] sg, .sl false [4, 4, 4] mk], [I6 sta, I6 spa, I6 aca, I6 jea, I6 loa, I6 hia, I6 bla, I6 oga, I6 sga, .sl false [4] pta, I6 stb, I6 spb, I6 acb, I6 jeb, I6 lob, I6 hib, I6 blb, I6 ogb, I6 sgb, .sl false [4] ptb, I6 stc, I6 spc, I6 acc, I6 jec, I6 loc, I6 hic, I6 blc, I6 ogc, I6 sgc, .sl false [4] ptc], [.sl false [4, 4, 4, 4, 4, 4, 4, 4, 4, 4] pk, I6 ln, I6 sa, I6 d0, I6 d1, I6 d2], [I6 A, I6 J, I6 R], [I6 fo, I6 ro, .bool ho, .bool so, .bool oo], [I6 mu, I6 mv, I6 ma, I6 ml, I6 mp, I6 mb], [I6 z0, I6 z1, I6 z2, I6 z3, I6 z4, I6 z5], [I6 x.u, I6 x.v, I6 x.a, I6 x.l, I6 x.p, I6 x.b]]))) (R6 (i + 1) /\ ∀ x13, x13 = i + 1 -> K .normal ([.ce (I6 lim), .ce (.ptr 1000007 0), .ce (.ptr 1000008 0), .ce (.ptr 1000009 0), .ce (.ptr 1000010 0), .ce (.ptr 1000011 0), .ce (.ptr 1000012 0), .ce (.ptr 1000014 0), .ce (.ptr 1000015 0), .ce (.bool y), .ce (.sl false [4] l), .ce (I6 len), .ce (I6 x13)], [[I6 s0, I6 s1, I6 s2, .sl false [4, 4, 4, 4, 4, 4, 4] sg, .sl false [4, 4, 4] mk], [I6 sta, I6 spa, I6 aca, I6 jea, I6 loa, I6 hia, I6 bla, I6 oga, I6 sga, .sl false [4] pta, I6 stb, I6 spb, I6 acb, I6 jeb, I6 lob, I6 hib, I6 blb, I6 ogb, I6 sgb, .sl false [4] ptb, I6 stc, I6 spc, I6 acc, I6 jec, I6 loc, I6 hic, I6 blc, I6 ogc, I6 sgc, .sl false [4] ptc], [.sl false [4, 4, 4, 4, 4, 4, 4, 4, 4, 4] pk, I6 ln, I6 sa, I6 d0, I6 d1, I6 d2], [I6 A, I6 J, I6 R], [I6 fo, I6 ro, .bool ho, .bool so, .bool oo], [I6 mu, I6 mv, I6 ma, I6 ml, I6 mp, I6 mb], [I6 z0, I6 z1, I6 z2, I6 z3, I6 z4, I6 z5], [I6 x.u, I6 x.v, I6 x.a, I6 x.l, I6 x.p, I6 x.b]]))))) (K (.exit 0) ([.ce (.ptr 1000010 0), .ce (.ptr 1000012 0), .ce (.ptr 1000014 0), .ce (.ptr 1000015 0), .ce (.bool y)], [[I6 s0, I6 s1, I6 s2, .sl false [4, 4, 4, 4, 4, 4, 4] sg, .sl false [4, 4, 4] mk], [I6 sta, I6 spa, I6 aca, I6 jea, I6 loa, I6 hia, I6 bla, I6 oga, I6 sga, .sl false [4] pta, I6 stb, I6 spb, I6 acb, I6 jeb, I6 lob, I6 hib, I6 blb, I6 ogb, I6 sgb, .sl false [4] ptb, I6 stc, I6 spc, I6 acc, I6 jec, I6 loc, I6 hic, I6 blc, I6 ogc, I6 sgc, .sl false [4] ptc], [.sl false [4, 4, 4, 4, 4, 4, 4, 4, 4, 4] pk, I6 ln, I6 sa, I6 d0, I6 d1, I6 d2], [I6 A, I6 J, I6 R], [I6 fo, I6 ro, .bool ho, .bool so, .bool oo], [I6 mu, I6 mv, I6 ma, I6 ml, I6 mp, I6 mb], [I6 z0, I6 z1, I6 z2, I6 z3, I6 z4, I6 z5], [I6 f0, I6 f1, I6 f2, I6 f3, I6 f4, I6 f5]]))) := by kernel_rfl
theorem vcNx (s0 s1 s2 ln sa d0 d1 d2 A J R fo ro mu mv ma ml mp mb lim : Int) (ho so oo : Bool) (sg mk pk : LL) (sta spa aca jea loa hia bla oga sga stb spb acb jeb lob hib blb ogb sgb stc spc acc jec loc hic blc ogc sgc : Int) (pta ptb ptc : LL) (Q : Res -> Prop) : (nfun true CNx Try.f16 (bodyOf Try.f16) [.agg [I6 s0, I6 s1, I6 s2, .sl false [4, 4, 4, 4, 4, 4, 4] sg, .sl false [4, 4, 4] mk], .agg [I6 sta, I6 spa, I6 aca, I6 jea, I6 loa, I6 hia, I6 bla, I6 oga, I6 sga, .sl false [4] pta, I6 stb, I6 spb, I6 acb, I6 jeb, I6 lob, I6 hib, I6 blb, I6 ogb, I6 sgb, .sl false [4] ptb, I6 stc, I6 spc, I6 acc, I6 jec, I6 loc, I6 hic, I6 blc, I6 ogc, I6 sgc, .sl false [4] ptc], .agg [.sl false [4, 4, 4, 4, 4, 4, 4, 4, 4, 4] pk, I6 ln, I6 sa, I6 d0, I6 d1, I6 d2], .agg [I6 A, I6 J, I6 R], .agg [I6 fo, I6 ro, .bool ho, .bool so, .bool oo], .agg [I6 mu, I6 mv, I6 ma, I6 ml, I6 mp, I6 mb], .ce (I6 lim)] [] Q) =
 ((0 <= J /\ J <= 65536) /\ (∃ (x : LL), x = chg J) /\ ∀ (x : LL), x = chg J -> ((okPT s0 s1 s2 sg pk ln sa /\ okA3 sta oga sga pta bla stb ogb sgb ptb blb stc ogc sgc ptc blc /\ okL3 spa aca jea spb acb jeb spc acc jec) /\ okPl A J R /\ okN ⟨mu, mv, ma, ml, mp, mb⟩ /\ (0 <= lim /\ lim <= 18014398509481984) /\ false = false /\ (x.length : Int) = (x.length : Int) /\ (0 : Int) = 0 /\ x.length <= 200000 /\ Sm (65536 : Int) x) /\ ∀ (x_1 : Bool × QM), qpk (qok A J (wth3 spa aca jea spb acb jeb spc acc jec) (qmot (mtr sta oga sga pta bla s0 sg (0 : Nat) pk sa d0) (mtr stb ogb sgb ptb blb s1 sg (1 : Nat) pk sa d1) (mtr stc ogc sgc ptc blc s2 sg (2 : Nat) pk sa d2) ln) (sg.length) (qtg ho fo ro R sg pk sa ln) ⟨mu, mv, ma, ml, mp, mb⟩ lim) ⟨mu, mv, ma, ml, mp, mb⟩ x x_1 ->
 Bb (x_1.1) (Q ⟨.agg [I6 x_1.2.u, I6 x_1.2.v, I6 x_1.2.a, I6 x_1.2.l, I6 x_1.2.p, I6 x_1.2.b], false, [], []⟩) ((okPl A J R /\ (-1099511627776 <= mv /\ mv <= 1099511627776) /\ -1099511627776 <= ma /\ ma <= 1099511627776) /\ ∀ x3, x3 = qbrk A J mv ma -> R6 (mv + x3) /\ ∀ x4, x4 = mv + x3 -> (okU mu /\ (-2199023255552 <= x4 /\ x4 <= 2199023255552) /\ -2199023255552 <= mv /\ mv <= 2199023255552) /\ (∃ (x : QM), x = qmove ⟨mu, mv, ma, ml, mp, mb⟩ x4) /\ ∀ (x : QM), x = qmove ⟨mu, mv, ma, ml, mp, mb⟩ x4 -> Q ⟨.agg [I6 x.u, I6 x.v, I6 x.a, I6 x.l, I6 x.p, I6 x.b], false, [], []⟩)) := by kernel_rfl
end Go.Proofs.Ytoekmphdpepdbaa
namespace U
theorem qok_neg {A J : Int} {W : LL -> Bool} {Mo : LL -> LL} {n : Nat} {T : Int -> Int} {m : QM} {lim k : Int} (h : m.v + (m.a + k) < 0) : qok A J W Mo n T m lim k = false := by
 unfold qok; rw [decide_eq_false (by omega), Bool.false_and]
theorem qok_nr {A J : Int} {W : LL -> Bool} {Mo : LL -> LL} {n : Nat} {T : Int -> Int} {m : QM} {lim k : Int} (h : qready A J (m.v + (m.a + k)) (m.a + k) = false) : qok A J W Mo n T m lim k = false := by
 unfold qok; rw [h, Bool.false_and, Bool.and_false]
theorem qok_nf {A J : Int} {W : LL -> Bool} {Mo : LL -> LL} {n : Nat} {T : Int -> Int} {m : QM} {lim k : Int} (h : qfit A J n T (qmove m (m.v + (m.a + k))) = false) : qok A J W Mo n T m lim k = false := by
 unfold qok; rw [h, Bool.false_and, Bool.and_false, Bool.and_false]
theorem qok_ns {A J : Int} {W : LL -> Bool} {Mo : LL -> LL} {n : Nat} {T : Int -> Int} {m : QM} {lim k : Int} (h : qsafe A J W Mo (qmove m (m.v + (m.a + k))) lim = false) : qok A J W Mo n T m lim k = false := by
 unfold qok; rw [h, Bool.and_false, Bool.and_false, Bool.and_false]
theorem qok_yes {A J : Int} {W : LL -> Bool} {Mo : LL -> LL} {n : Nat} {T : Int -> Int} {m : QM} {lim k : Int} (h0 : 0 <= m.v + (m.a + k)) (h1 : qready A J (m.v + (m.a + k)) (m.a + k) = true)
 (h2 : qfit A J n T (qmove m (m.v + (m.a + k))) = true) (h3 : qsafe A J W Mo (qmove m (m.v + (m.a + k))) lim = true) : qok A J W Mo n T m lim k = true := by
 unfold qok; rw [h1, h2, h3, decide_eq_true h0]; rfl
theorem qpick_skip {ok : Int -> Bool} {l : LL} {i : Nat} (h : i < l.length) (hk : ok (el l i) = false) : qpick ok (l.drop i) = qpick ok (l.drop (i + 1)) := by
 rw [drop_next l h [], qpick, if_neg (by show ¬ ok (el l i) = true; rw [hk]; simp)]
theorem qpick_take {ok : Int -> Bool} {l : LL} {i : Nat} (h : i < l.length) (hk : ok (el l i) = true) : qpick ok (l.drop i) = some (el l i) := by
 rw [drop_next l h [], qpick]; exact if_pos hk
theorem chg_len {J : Int} (h : 0 <= J /\ J <= 65536) : (chg J).length <= 200000 := by
 unfold chg ngl; have := hlv_len J.toNat J; simp; omega
theorem el_ngl {l : LL} {j : Nat} (h : j < l.length) : el (ngl l) j = -(el l j) := by
 unfold ngl el; simp [List.getD_eq_getElem?_getD, h]
theorem chg_bd {J : Int} (h : 0 <= J /\ J <= 65536) : Sm 65536 (chg J) := by
 intro j hj
 have hb := hlv_bd J.toNat (k := J) h.2
 have hr : ∀ i, i < (hlv J.toNat J).length -> ∃ k, k < (hlv J.toNat J).length /\ el (hlv J.toNat J).reverse i = el (hlv J.toNat J) k := fun i hi =>
  ⟨(hlv J.toNat J).length - 1 - i, by omega, by
   have : (hlv J.toNat J).reverse.getD i [] = (hlv J.toNat J).getD ((hlv J.toNat J).length - 1 - i) [] := by rw [List.getD_eq_getElem?_getD, List.getElem?_reverse hi, <- List.getD_eq_getElem?_getD]
   unfold el; rw [this]⟩
 unfold chg at hj ⊢
 rw [List.append_assoc, el_append]
 split
 . rename_i h1; have := hb j h1; omega
 . rw [el_append]
   split
   . rename_i h1 h2
     rw [show j - (hlv J.toNat J).length = 0 by simp at h2; omega]
     show -65536 <= (0 : Int) /\ (0 : Int) <= 65536
     omega
   . rename_i h1 h2
     simp [ngl] at hj h1 h2
     obtain ⟨k, k1, k2⟩ := hr (j - (hlv J.toNat J).length - 1) (by omega)
     rw [show List.length [[(0 : Int)]] = 1 from rfl, el_ngl (by simp; omega), k2]
     have := hb k k1
     omega
end U
namespace Go.Proofs.Ytoekmphdpepdbaa
section
open Go Go.HL U
attribute [local irreducible] hfun bodyT fragT
set_option maxHeartbeats 4000000 in
theorem loopNx : ∀ v Q, (LNx v).wp Q -> hloop CNx anNx (nthLoop Try.f16 0) v Q := by
 intro v Q h
 unfold LNx at h
 split at h
 case h_2 => exact h.elim
 rename_i lim y l len i s0 s1 s2 sg mk ax tr A J Rp fo ro ho so oo mu mv ma ml mp mb z0 z1 z2 z3 z4 z5 f0 f1 f2 f3 f4 f5
 split at h
 case h_2 => exact h.elim
 rename_i sta spa aca jea loa hia bla oga sga pta stb spb acb jeb lob hib blb ogb sgb ptb stc spc acc jec loc hic blc ogc sgc ptc
 split at h
 case h_2 => exact h.elim
 rename_i pk ln sa d0 d1 d2
 obtain ⟨⟨⟨hp, ha, hli⟩, hpl, hm, hlim, h1, h2, h3, h4, h5⟩, hq⟩ := h
 subst h1 h2 h3
 have hm' := hm
 obtain ⟨hu, hv, haa, hml, hmp⟩ := hm
 dsimp only at hu hv haa hml hmp
 have hU : okU mu := by unfold okU; omega
 refine hloop_rec (σ := Nat × QM) (fun s => ([.ce (I6 lim), .ce (.ptr 1000007 0), .ce (.ptr 1000008 0), .ce (.ptr 1000009 0), .ce (.ptr 1000010 0), .ce (.ptr 1000011 0), .ce (.ptr 1000012 0), .ce (.ptr 1000014 0), .ce (.ptr 1000015 0), .ce (.bool false), .ce (.sl false [4] l), .ce (I6 (l.length : Int)), .ce (I6 (s.1 : Int))],
  [[I6 s0, I6 s1, I6 s2, .sl false [4, 4, 4, 4, 4, 4, 4] sg, .sl false [4, 4, 4] mk], [I6 sta, I6 spa, I6 aca, I6 jea, I6 loa, I6 hia, I6 bla, I6 oga, I6 sga, .sl false [4] pta, I6 stb, I6 spb, I6 acb, I6 jeb, I6 lob, I6 hib, I6 blb, I6 ogb, I6 sgb, .sl false [4] ptb, I6 stc, I6 spc, I6 acc, I6 jec, I6 loc, I6 hic, I6 blc, I6 ogc, I6 sgc, .sl false [4] ptc], [.sl false [4, 4, 4, 4, 4, 4, 4, 4, 4, 4] pk, I6 ln, I6 sa, I6 d0, I6 d1, I6 d2], [I6 A, I6 J, I6 Rp], [I6 fo, I6 ro, .bool ho, .bool so, .bool oo], [I6 mu, I6 mv, I6 ma, I6 ml, I6 mp, I6 mb], [I6 z0, I6 z1, I6 z2, I6 z3, I6 z4, I6 z5], [I6 s.2.u, I6 s.2.v, I6 s.2.a, I6 s.2.l, I6 s.2.p, I6 s.2.b]]))
  (fun s => l.length - s.1) (fun s => s.1 <= l.length /\ qpick (qok A J (wth3 spa aca jea spb acb jeb spc acc jec) (qmot (mtr sta oga sga pta bla s0 sg 0 pk sa d0) (mtr stb ogb sgb ptb blb s1 sg 1 pk sa d1) (mtr stc ogc sgc ptc blc s2 sg 2 pk sa d2) ln) sg.length (qtg ho fo ro Rp sg pk sa ln) ⟨mu, mv, ma, ml, mp, mb⟩ lim) l =
   qpick (qok A J (wth3 spa aca jea spb acb jeb spc acc jec) (qmot (mtr sta oga sga pta bla s0 sg 0 pk sa d0) (mtr stb ogb sgb ptb blb s1 sg 1 pk sa d1) (mtr stc ogc sgc ptc blc s2 sg 2 pk sa d2) ln) sg.length (qtg ho fo ro Rp sg pk sa ln) ⟨mu, mv, ma, ml, mp, mb⟩ lim) (l.drop s.1)) ?_ (0, ⟨f0, f1, f2, f3, f4, f5⟩) ⟨Nat.zero_le _, rfl⟩
 rintro ⟨i, f⟩ ⟨hi, hI⟩ K hn hx hr
 dsimp only at hi hI hn ⊢
 refine byVB (vbNx s0 s1 s2 ln sa d0 d1 d2 A J Rp fo ro mu mv ma ml mp mb lim l.length i z0 z1 z2 z3 z4 z5 f.u f.v f.a f.l f.p f.b ho so oo false sg mk pk l sta spa aca jea loa hia bla oga sga stb spb acb jeb lob hib blb ogb sgb stc spc acc jec loc hic blc ogc sgc pta ptb ptc K) ⟨fun g => ?_, fun g => ?_⟩
 . have g := odt g
   have hil : i < l.length := by omega
   have hb := h5 i hil
   have sk := fun (f : QM) (k : Int) (ek : k = (i : Int) + 1) hk => hn (i + 1, f) ⟨hil, hI.trans (qpick_skip hil hk)⟩ (by dsimp only; omega)
   refine ⟨by omega, fun x1 e1 => ?_⟩
   have e1 : x1 = el l i := e1
   rw [<- e1] at hb sk
   have tk := fun hk => hI.trans (qpick_take hil hk)
   rw [<- e1] at tk
   clear hn
   refine ⟨by omega, fun x2 e2 => ⟨by omega, fun x3 e3 => ⟨fun g3 => ⟨by omega, fun x4 e4 => ?_⟩, fun g3 => ⟨by omega, fun x5 e5 => ⟨hpl, fun x6 e6 => ⟨fun g6 => ⟨by omega, fun x7 e7 => ?_⟩, fun g6 => ⟨by omega, fun x8 e8 => ⟨⟨hU, by omega, by omega⟩, ⟨_, rfl⟩, fun x ex => ?_⟩⟩⟩⟩⟩⟩⟩⟩
   . have g3 := odt g3
     have := sk f x4 e4 (qok_neg (by show mv + (ma + x1) < 0; omega))
     rw [show ((i + 1 : Nat) : Int) = x4 by omega] at this
     exact this
   . have := sk f x7 e7 (qok_nr (by show qready A J (mv + (ma + x1)) (ma + x1) = false; rw [<- e2, <- e5, <- e6]; cases x6 <;> simp at g6 ⊢))
     rw [show ((i + 1 : Nat) : Int) = x7 by omega] at this
     exact this
   . have g3 := odf g3
     have ex' : qmove ⟨mu, mv, ma, ml, mp, mb⟩ (mv + (ma + x1)) = x := by rw [ex, e8, e2]
     have hvr : qready A J (mv + (ma + x1)) (ma + x1) = true := by rw [<- e2, <- e5, <- e6]; cases x6 <;> simp at g6 ⊢
     have xu : x.u = mu + x8 := by rw [ex]; rfl
     have xl : x.l = mu := by rw [ex]; rfl
     have xp : x.p = ml := by rw [ex]; rfl
     have xb : x.b = mp := by rw [ex]; rfl
     refine ⟨⟨⟨hp.1, hp.2.2.1, hp.2.2.2⟩, hpl, by unfold okV; omega⟩, fun x10 e10 => ⟨fun g10 => ⟨⟨⟨hp, ha, hli⟩, hpl, ⟨by unfold okU; omega, by rw [xl]; exact hU, by rw [xp]; exact hml, by rw [xb]; exact hmp⟩, hlim⟩, fun x11 e11 => ⟨fun g11 => ?_, fun g11 => ⟨by omega, fun x12 e12 => ?_⟩⟩⟩, fun g10 => ⟨by omega, fun x13 e13 => ?_⟩⟩⟩
     . have := hq (true, x) (.inl ⟨x1, tk (qok_yes (by show 0 <= mv + (ma + x1); omega) hvr (by show qfit A J sg.length _ (qmove ⟨mu, mv, ma, ml, mp, mb⟩ (mv + (ma + x1))) = true; rw [ex', <- g10, e10]) (by show qsafe A J _ _ (qmove ⟨mu, mv, ma, ml, mp, mb⟩ (mv + (ma + x1))) lim = true; rw [ex', <- g11, e11])), by rw [<- ex']⟩)
       exact hx 0 _ this
     . have := sk x x12 e12 (qok_ns (by show qsafe A J _ _ (qmove ⟨mu, mv, ma, ml, mp, mb⟩ (mv + (ma + x1))) lim = false; rw [ex', <- g11, e11]))
       rw [show ((i + 1 : Nat) : Int) = x12 by omega] at this
       exact this
     . have := sk x x13 e13 (qok_nf (by show qfit A J sg.length _ (qmove ⟨mu, mv, ma, ml, mp, mb⟩ (mv + (ma + x1))) = false; rw [ex', <- g10, e10]))
       rw [show ((i + 1 : Nat) : Int) = x13 by omega] at this
       exact this
 . have g := odf g
   obtain rfl : i = l.length := by omega
   rw [List.drop_length] at hI
   exact hx 0 _ (hq (false, f) (.inr ⟨hI, rfl⟩))
set_option maxHeartbeats 4000000 in
theorem sNx : Sound Try.prog 16 SPNext := by
 refine sound_of (C := CNx) tabNx Try.func16 (by kernel_rfl) (by decide +kernel) (by kernel_rfl) rfl ⟨sChg, sQReady, sQMove, sFit, sSafe, sQBrake, trivial⟩ (loops1 (by kernel_rfl) (loopOK_of (an := anNx) (S := LNx) (by kernel_rfl) loopNx)) ?_
 intro hargs pars R h
 unfold SPNext at h
 split at h
 case h_2 => exfalso; exact h
 rename_i s0 s1 s2 sg mk ax pk ln sa d0 d1 d2 A J Rp fo ro ho so oo mu mv ma ml mp mb lim
 split at h
 case h_2 => exact h.elim
 rename_i sta spa aca jea loa hia bla oga sga pta stb spb acb jeb lob hib blb ogb sgb ptb stc spc acc jec loc hic blc ogc sgc ptc
 obtain ⟨⟨hpp, hpl, hm, hlim⟩, _, hR⟩ := h
 have hm' := hm
 obtain ⟨hu, hv, haa, hml, hmp⟩ := hm
 dsimp only at hu hv haa hml hmp
 have hJ : 0 <= J /\ J <= 65536 := by have := hpl.2.1; omega
 refine byVC (vcNx s0 s1 s2 ln sa d0 d1 d2 A J Rp fo ro mu mv ma ml mp mb lim ho so oo sg mk pk sta spa aca jea loa hia bla oga sga stb spb acb jeb lob hib blb ogb sgb stc spc acc jec loc hic blc ogc sgc pta ptb ptc R) ⟨hJ, ⟨_, rfl⟩, fun x e => ?_⟩
 subst e
 refine ⟨⟨hpp, hpl, hm', hlim, rfl, rfl, rfl, chg_len hJ, chg_bd hJ⟩, fun x hx => ⟨fun g => ?_, fun g => ⟨⟨hpl, by omega, by omega⟩, fun x3 e3 => ?_⟩⟩⟩
 . rcases hx with ⟨k, hk, ex⟩ | ⟨_, ex⟩
   . exact hR x.2 (by unfold qnext; rw [hk, ex])
   . rw [ex] at g; cases g
 . rcases hx with ⟨k, hk, ex⟩ | ⟨hk, _⟩
   . rw [ex] at g; cases g
   . have b := Go.Proofs.Ytoekmphdpepdbaa.qb_le (J := J) (v := mv) (qhi A J ma - (-ma - J)).toNat (l := -ma - J) (h := qhi A J ma)
     have hA := hpl.1
     have e9 : x3 = -(qbs J mv (qhi A J ma - (-ma - J)).toNat (-ma - J) (qhi A J ma)) := e3
     have hq9 : qhi A J ma <= 65536 := by unfold qhi; omega
     refine ⟨by omega, fun x4 e4 => ⟨⟨by unfold okU; omega, by omega, by omega⟩, ⟨_, rfl⟩, fun x ex => hR x ?_⟩⟩
     unfold qnext
     rw [hk, ex, e4, e3]
end
open Go Go.HL U
noncomputable def CQStartR : Ctx := ⟨Try.prog, gam [], Try.f11.ntmps, [], []⟩
theorem vcQStartR (u : Int) (Q : Res -> Prop) : (nfun true CQStartR Try.f11 (bodyOf Try.f11) [.ce (I6 u)] [] Q) =
 (R6 (u * 256) /\ ∀ x1, x1 = u * 256 -> R6 (u * 256) /\ ∀ x2, x2 = u * 256 -> R6 (u * 256) /\ ∀ x3, x3 = u * 256 -> R6 (u * 256) /\ ∀ x4, x4 = u * 256 -> Q ⟨.agg [I6 x1, I6 0, I6 0, I6 x2, I6 x3, I6 x4], false, [], []⟩) := by kernel_rfl
noncomputable def CQMoveR : Ctx := ⟨Try.prog, gam [], Try.f13.ntmps, [], []⟩
theorem vcQMoveR (mu mv ma ml mp mb v : Int) (Q : Res -> Prop) : (nfun true CQMoveR Try.f13 (bodyOf Try.f13) [.agg [I6 mu, I6 mv, I6 ma, I6 ml, I6 mp, I6 mb], .ce (I6 v)] [] Q) =
 (R6 (mu + v) /\ ∀ x1, x1 = mu + v -> R6 (v - mv) /\ ∀ x2, x2 = v - mv -> Q ⟨.agg [I6 x1, I6 v, I6 x2, I6 mu, I6 ml, I6 mp], false, [], []⟩) := by kernel_rfl
def anQFR : LAnn := ⟨[8, 100008, 9, 25, 26, 27], [8, 100008], [], false⟩
def LQFR (v : LV) : LR :=
 match v with
 | ([.ce (.sl false [4] y), .ce (.lit true), .ce (.int .i64 u), .ce (.sl false [4] l), .ce (.int .i64 len), .ce (.int .i64 k)], []) =>
  .det (len = l.length /\ k = 0 /\ y.length = 0 /\ okSpd l /\ okU u) (.exit 0) ([.ce (.sl false [4] (qcum u l)), .ce (.lit true)], [])
 | _ => .fail
def tabQFR : List (FuncId × HL.Spec) := [(18, SQStop)]
noncomputable def CQFR : Ctx := ⟨Try.prog, gam tabQFR, Try.f7.ntmps, [(7, anQFR, LQFR)], []⟩
theorem vbQFR (u len k : Int) (y l : LL) (K : HEx -> LV -> Prop) : (nbodyT true CQFR anQFR (nthLoop Try.f7 0) (([.ce (.sl false [4] y), .ce (.lit true), .ce (I6 u), .ce (.sl false [4] l), .ce (I6 len), .ce (I6 k)], [])) K) =
 (Br (k < len) ((0 <= k /\ k < (l.length : Int)) /\ ∀ x1, x1 = el l k.toNat -> R6 (u + x1) /\ ∀ x2, x2 = u + x1 -> ((y.length + 1) * 8 <= 140737488355328 /\ y.length + 1 <= maxLen) /\ R6 (k + 1) /\ ∀ x3, x3 = k + 1 -> K .normal ([.ce (.sl false [4] (y ++ [[x2]])), .ce (.lit true), .ce (I6 x2), .ce (.sl false [4] l), .ce (I6 len), .ce (I6 x3)], [])) (K (.exit 0) ([.ce (.sl false [4] y), .ce (.lit true)], []))) := by kernel_rfl
theorem vcQFR (A J R mu mv ma ml mp mb : Int) (Q : Res -> Prop) : (nfun true CQFR Try.f7 (bodyOf Try.f7) [.agg [I6 A, I6 J, I6 R], .agg [I6 mu, I6 mv, I6 ma, I6 ml, I6 mp, I6 mb]] [] Q) =
 (okPl A J R /\ (∃ (x : LL × Bool), x = (qsp A J mv ma, qfok A J mv ma)) /\ ∀ (x : LL × Bool), x = (qsp A J mv ma, qfok A J mv ma) -> Bb (!x.2) (Q ⟨.tup [.ce (.sl false [4] []), .ce (.bool false)], false, [], []⟩) (((List.length x.1 : Int) = (List.length x.1 : Int) /\ (0 : Int) = 0 /\ (0 : Nat) = 0 /\ okSpd x.1 /\ okU mu) /\ Q ⟨.tup [.ce (.sl false [4] (qcum mu x.1)), .ce (.bool true)], false, [], []⟩)) := by kernel_rfl
def tabQRestR : List (FuncId × HL.Spec) := [(7, SQFut)]
noncomputable def CQRestR : Ctx := ⟨Try.prog, gam tabQRestR, Try.f9.ntmps, [], []⟩
theorem vcQRestR (A J R mu mv ma ml mp mb : Int) (Q : Res -> Prop) : (nfun true CQRestR Try.f9 (bodyOf Try.f9) [.agg [I6 A, I6 J, I6 R], .agg [I6 mu, I6 mv, I6 ma, I6 ml, I6 mp, I6 mb]] [] Q) =
 ((okPl A J R /\ okU mu) /\ (∃ (x : LL × Bool), x = (qfu A J mu mv ma, qfok A J mv ma)) /\ ∀ (x : LL × Bool), x = (qfu A J mu mv ma, qfok A J mv ma) -> Bb (!x.2) (Q ⟨.tup [.ce (I6 0), .ce (.bool false)], false, [], []⟩) (Bb ((List.length x.1 : Int) == 0) (Q ⟨.tup [.ce (I6 mu), .ce (.bool true)], false, [], []⟩) (R6 ((List.length x.1 : Int) - 1) /\ ∀ x2, x2 = (List.length x.1 : Int) - 1 -> (0 <= x2 /\ x2 < (List.length x.1 : Int)) /\ ∀ x3, x3 = el x.1 x2.toNat -> Q ⟨.tup [.ce (I6 x3), .ce (.bool true)], false, [], []⟩))) := by kernel_rfl
def SSame (hA : List HV) (pA : List (List HC)) : SR :=
 match hA, pA with
 | [.ce (.sl false [4] a), .ce (.sl false [4] b)], [] => .det (a = b /\ a.length <= 4096) ⟨.ce (.bool true), false, [], []⟩
 | _, _ => .fail
def anSam : LAnn := ⟨[0, 1, 4, 12, 13], [4], [], false⟩
def LSam (v : LV) : LR :=
 match v with
 | ([.ce (.sl false [4] a), .ce (.sl false [4] b), .ce (.bool z), .ce (.int .i64 len), .ce (.int .i64 k)], []) => .det (a = b /\ a.length <= 4096 /\ len = a.length /\ k = 0) (.exit 0) ([.ce (.bool z)], [])
 | _ => .fail
noncomputable def CSam : Ctx := ⟨Try.prog, gam [], Try.f14.ntmps, [(4, anSam, LSam)], []⟩
theorem vbSam (len k : Int) (z : Bool) (a b : LL) (K : HEx -> LV -> Prop) : (nbodyT true CSam anSam (nthLoop Try.f14 0) (([.ce (.sl false [4] a), .ce (.sl false [4] b), .ce (.bool z), .ce (I6 len), .ce (I6 k)], [])) K) =
 (Br (k < len) ((0 <= k /\ k < (a.length : Int)) /\ ∀ x1, x1 = el a k.toNat -> (0 <= k /\ k < (b.length : Int)) /\ ∀ x2, x2 = el b k.toNat -> Bb (x1 != x2) (K .ret ([.ce (.bool false)], [])) (R6 (k + 1) /\ ∀ x3, x3 = k + 1 -> K .normal ([.ce (.sl false [4] a), .ce (.sl false [4] b), .ce (.bool z), .ce (I6 len), .ce (I6 x3)], []))) (K (.exit 0) ([.ce (.bool z)], []))) := by kernel_rfl
theorem vcSam (a b : LL) (Q : Res -> Prop) : (nfun true CSam Try.f14 (bodyOf Try.f14) [.ce (.sl false [4] a), .ce (.sl false [4] b)] [] Q) =
 (Bb ((a.length : Int) != (b.length : Int)) (Q ⟨.ce (.bool false), false, [], []⟩) ((a = b /\ a.length <= 4096 /\ (a.length : Int) = (a.length : Int) /\ (0 : Int) = 0) /\ Q ⟨.ce (.bool true), false, [], []⟩)) := by kernel_rfl
section
attribute [local irreducible] hfun bodyT fragT
theorem sQStartR : Sound Try.prog 11 SQStart := by
 refine sound_of (C := CQStartR) [] Try.func11 (by kernel_rfl) (by decide +kernel) (by kernel_rfl) rfl trivial (loops0 (by kernel_rfl)) ?_
 intro hA pA R h
 unfold SQStart at h
 split at h
 case h_2 => exfalso; exact h
 rename_i u
 obtain ⟨hu, _, hR⟩ := h
 refine byVC (vcQStartR u R) ⟨by omega, fun x1 e1 => ⟨by omega, fun x2 e2 => ⟨by omega, fun x3 e3 => ⟨by omega, fun x4 e4 => ?_⟩⟩⟩⟩
 rw [e4, e3, e2, e1]
 exact hR _ rfl
theorem sQMoveR : Sound Try.prog 13 SQMove := by
 refine sound_of (C := CQMoveR) [] Try.func13 (by kernel_rfl) (by decide +kernel) (by kernel_rfl) rfl trivial (loops0 (by kernel_rfl)) ?_
 intro hA pA R h
 unfold SQMove at h
 split at h
 case h_2 => exfalso; exact h
 rename_i mu mv ma ml mp mb v
 obtain ⟨⟨hu, hv, hm⟩, _, hR⟩ := h
 unfold okU at hu
 refine byVC (vcQMoveR mu mv ma ml mp mb v R) ⟨by omega, fun x1 e1 => ⟨by omega, fun x2 e2 => ?_⟩⟩
 rw [e1, e2]
 exact hR _ rfl
theorem loopQFR : ∀ v Q, (LQFR v).wp Q -> hloop CQFR anQFR (nthLoop Try.f7 0) v Q := by
 intro v Q h
 unfold LQFR at h
 split at h
 case h_2 => exact h.elim
 rename_i y u l len k
 obtain ⟨⟨rfl, rfl, h3, h5, h6⟩, hq⟩ := h
 obtain rfl : y = [] := List.eq_nil_of_length_eq_zero h3
 have e0 : u = u + qsm l 0 := by simp [qsm]
 have key : hloop CQFR anQFR (nthLoop Try.f7 0) ([.ce (.sl false [4] (qcumN u l 0)), .ce (.lit true), .ce (I6 (u + qsm l 0)), .ce (.sl false [4] l), .ce (I6 (l.length : Int)), .ce (I6 ((0 : Nat) : Int))], []) Q := by
  refine hloop_rec (σ := Nat) (fun i => ([.ce (.sl false [4] (qcumN u l i)), .ce (.lit true), .ce (I6 (u + qsm l i)), .ce (.sl false [4] l), .ce (I6 (l.length : Int)), .ce (I6 (i : Int))], []))
   (fun i => l.length - i) (fun i => i <= l.length) ?_ 0 (Nat.zero_le _)
  intro i hi K hn he hr
  have b := qsm_bd h5 i hi
  have hl := h5.1
  have hlen := qcumN_len u l i
  unfold okU at h6
  refine byVB (vbQFR (u + qsm l i) l.length i (qcumN u l i) l K) ⟨fun c => ?_, fun c => ?_⟩
  . have c := odt c
    have b1 := h5.2 i (by omega)
    refine ⟨by omega, fun x1 e1 => ?_⟩
    have e1 : x1 = el l i := e1
    refine ⟨by omega, fun x2 e2 => ⟨⟨by omega, by unfold maxLen; omega⟩, by omega, fun x3 e3 => ?_⟩⟩
    have e2' : x2 = u + qsm l (i + 1) := by rw [qsm]; omega
    have g := hn (i + 1) (by omega) (by omega)
    rw [e2', <- qcumN_succ, <- show ((i + 1 : Nat) : Int) = x3 by omega]
    exact g
  . have c := odf c
    obtain rfl : i = l.length := by omega
    exact he _ _ hq
 rw [<- e0] at key
 exact key
theorem sQFutR : Sound Try.prog 7 SQFut := by
 refine sound_of (C := CQFR) tabQFR Try.func7 (by kernel_rfl) (by decide +kernel) (by kernel_rfl) rfl ⟨sQStopR, trivial⟩ (loops1 (by kernel_rfl) (loopOK_of (an := anQFR) (S := LQFR) (by kernel_rfl) loopQFR)) ?_
 intro hA pA R h
 unfold SQFut at h
 split at h
 case h_2 => exfalso; exact h
 rename_i A J Rp mu mv ma ml mp mb
 obtain ⟨⟨hp, hu⟩, _, hR⟩ := h
 refine byVC (vcQFR A J Rp mu mv ma ml mp mb R) ⟨hp, ⟨_, rfl⟩, fun x e => ?_⟩
 subst e
 have hs := qsp_spd (v := mv) (a := ma) hp
 refine ⟨fun g => ?_, fun g => ⟨⟨rfl, rfl, rfl, hs, hu⟩, ?_⟩⟩
 . have g : qfok A J mv ma = false := by simpa using g
   exact hR ([], false) (by unfold qfu; rw [show qsp A J mv ma = [] by unfold qsp; rw [g]; rfl, g]; rfl)
 . have g : qfok A J mv ma = true := by simpa using g
   exact hR (qcum mu (qsp A J mv ma), true) (by rw [g]; rfl)
theorem sQRestR : Sound Try.prog 9 SQRest := by
 refine sound_of (C := CQRestR) tabQRestR Try.func9 (by kernel_rfl) (by decide +kernel) (by kernel_rfl) rfl ⟨sQFutR, trivial⟩ (loops0 (by kernel_rfl)) ?_
 intro hA pA R h
 unfold SQRest at h
 split at h
 case h_2 => exfalso; exact h
 rename_i A J Rp mu mv ma ml mp mb
 obtain ⟨⟨hp, hu⟩, _, hR⟩ := h
 refine byVC (vcQRestR A J Rp mu mv ma ml mp mb R) ⟨⟨hp, hu⟩, ⟨_, rfl⟩, fun x e => ?_⟩
 subst e
 have hl : (qfu A J mu mv ma).length <= 4096 := by unfold qfu; rw [qcum_len]; exact (qsp_spd hp).1
 refine ⟨fun g => ?_, fun g => ⟨fun g2 => ?_, fun g2 => ⟨by dsimp only; omega, fun x2 e2 => ?_⟩⟩⟩
 . have g : qfok A J mv ma = false := by simpa using g
   exact hR (0, false) (by rw [g]; rfl)
 . have g : qfok A J mv ma = true := by simpa using g
   have g2 : (qfu A J mu mv ma).length = 0 := by simpa using g2
   exact hR (mu, true) (by rw [g]; unfold qend; rw [if_pos rfl, if_pos g2])
 . have g : qfok A J mv ma = true := by simpa using g
   have g2 : (qfu A J mu mv ma).length ≠ 0 := by simpa using g2
   dsimp only at e2 ⊢
   refine ⟨by omega, fun x3 e3 => ?_⟩
   exact hR (x3, true) (by rw [g]; unfold qend; rw [if_pos rfl, if_neg g2, e3, show x2.toNat = (qfu A J mu mv ma).length - 1 by omega])
theorem loopSam : ∀ v Q, (LSam v).wp Q -> hloop CSam anSam (nthLoop Try.f14 0) v Q := by
 intro v Q h
 unfold LSam at h
 split at h
 case h_2 => exact h.elim
 rename_i a b z len k
 obtain ⟨⟨rfl, hl, rfl, rfl⟩, hq⟩ := h
 refine hloop_rec (σ := Nat) (fun i => ([.ce (.sl false [4] a), .ce (.sl false [4] a), .ce (.bool z), .ce (I6 (a.length : Int)), .ce (I6 (i : Int))], []))
  (fun i => a.length - i) (fun i => i <= a.length) ?_ 0 (Nat.zero_le _)
 intro i hi K hn he hr
 refine byVB (vbSam a.length i z a a K) ⟨fun c => ?_, fun c => he _ _ hq⟩
 have c := odt c
 refine ⟨by omega, fun x1 e1 => ⟨by omega, fun x2 e2 => ⟨fun g => ?_, fun _ => ⟨by omega, fun x3 e3 => ?_⟩⟩⟩⟩
 . rw [e1, e2] at g; simp at g
 . rw [e3, show (i : Int) + 1 = ((i + 1 : Nat) : Int) by omega]
   exact hn (i + 1) (by omega) (by omega)
theorem sSam : Sound Try.prog 14 SSame := by
 refine sound_of (C := CSam) [] Try.func14 (by kernel_rfl) (by decide +kernel) (by kernel_rfl) rfl trivial (loops1 (by kernel_rfl) (loopOK_of (an := anSam) (S := LSam) (by kernel_rfl) loopSam)) ?_
 intro hA pA R h
 unfold SSame at h
 split at h
 case h_2 => exfalso; exact h
 rename_i a b
 obtain ⟨⟨rfl, hl⟩, hR⟩ := h
 refine byVC (vcSam a a R) ⟨fun g => ?_, fun _ => ⟨⟨rfl, hl, rfl, rfl⟩, hR⟩⟩
 simp at g
end
end Go.Proofs.Ytoekmphdpepdbaa
namespace U
open Go
def xsg : LL := [[8000, 0, 0, 8000, 0, 50000, 0]]
def xleg : LegS := leg 0 0 0 xsg 0 0 0 1 1 1 0 8000
end U
namespace Go.Proofs.Ytoekmphdpepdbaa
open Go Go.HL U
def STrue1 (hA : List HV) (pA : List (List HC)) : SR :=
 match hA, pA with
 | [], [] => .all True Bool (fun b => b = true) (fun b => ⟨.ce (.bool b), false, [], []⟩)
 | _, _ => .fail
def SStr (hA : List HV) (pA : List (List HC)) : SR :=
 match hA, pA with
 | [], [] => .all True LegS (fun x => x = xleg) (fun x => ⟨.tup [.agg [I6 0, I6 0, I6 0, .sl false [4, 4, 4, 4, 4, 4, 4] xsg, .sl false [4, 4, 4] []], .agg [I6 8, I6 1000, I6 1000, I6 1000, I6 (-16777216), I6 16777216, I6 0, I6 0, I6 0, .sl false [4] [], I6 8, I6 1000, I6 1000, I6 1000, I6 (-16777216), I6 16777216, I6 0, I6 0, I6 0, .sl false [4] [], I6 8, I6 1000, I6 1000, I6 1000, I6 (-16777216), I6 16777216, I6 0, I6 0, I6 0, .sl false [4] []], .agg [.sl false [4, 4, 4, 4, 4, 4, 4, 4, 4, 4] x.pk, I6 x.ln, I6 0, I6 1, I6 1, I6 1]], false, [], []⟩)
 | _, _ => .fail
def tabStr : List (FuncId × HL.Spec) := [(19, SLeg)]
noncomputable def CStr : Ctx := ⟨Try.prog, gam tabStr, Try.f15.ntmps, [], []⟩
theorem vcStr (Q : Res -> Prop) : (nfun true CStr Try.f15 (bodyOf Try.f15) [] [] Q) =
 ((okLen [[(8000 : Int), (0 : Int), (0 : Int), (8000 : Int), (0 : Int), (50000 : Int), (0 : Int)]] /\ okPts (0 : Int) (0 : Int) (0 : Int) [[(8000 : Int), (0 : Int), (0 : Int), (8000 : Int), (0 : Int), (50000 : Int), (0 : Int)]] /\ okB3 (0 : Int) (0 : Int) (0 : Int)) /\ (∃ (x : LegS), x = leg (0 : Int) (0 : Int) (0 : Int) [[(8000 : Int), (0 : Int), (0 : Int), (8000 : Int), (0 : Int), (50000 : Int), (0 : Int)]] (0 : Int) (0 : Int) (0 : Int) (1 : Int) (1 : Int) (1 : Int) (0 : Int) (8000 : Int)) /\ ∀ (x : LegS), x = leg (0 : Int) (0 : Int) (0 : Int) [[(8000 : Int), (0 : Int), (0 : Int), (8000 : Int), (0 : Int), (50000 : Int), (0 : Int)]] (0 : Int) (0 : Int) (0 : Int) (1 : Int) (1 : Int) (1 : Int) (0 : Int) (8000 : Int) -> Q ⟨.tup [.agg [I6 0, I6 0, I6 0, .sl false [4, 4, 4, 4, 4, 4, 4] [[(8000 : Int), (0 : Int), (0 : Int), (8000 : Int), (0 : Int), (50000 : Int), (0 : Int)]], .sl false [4, 4, 4] []], .agg [I6 8, I6 1000, I6 1000, I6 1000, I6 (-16777216), I6 16777216, I6 0, I6 0, I6 0, .sl false [4] [], I6 8, I6 1000, I6 1000, I6 1000, I6 (-16777216), I6 16777216, I6 0, I6 0, I6 0, .sl false [4] [], I6 8, I6 1000, I6 1000, I6 1000, I6 (-16777216), I6 16777216, I6 0, I6 0, I6 0, .sl false [4] []], .agg [.sl false [4, 4, 4, 4, 4, 4, 4, 4, 4, 4] x.pk, I6 x.ln, I6 0, I6 1, I6 1, I6 1]], false, [], []⟩) := by kernel_rfl
def tabAw36 : List (FuncId × HL.Spec) := [(15, SStr), (10, SQStart), (16, SPNext)]
noncomputable def CAw36 : Ctx := ⟨Try.prog, gam tabAw36, Try.f4.ntmps, [], []⟩
theorem vcAw36 (Q : Res -> Prop) : (nfun true CAw36 Try.f4 (bodyOf Try.f4) [] [] Q) =
 (True /\ (∃ (x : LegS), x = xleg) /\ ∀ (x : LegS), x = xleg -> ((-18014398509481984 : Int) <= 0 /\ (0 : Int) <= 18014398509481984) /\ (∃ (x : QM), x = qstart (0 : Int)) /\ ∀ (x_1 : QM), x_1 = qstart (0 : Int) -> ((okPT (0 : Int) (0 : Int) (0 : Int) xsg x.pk x.ln (0 : Int) /\ okA3 (8 : Int) (0 : Int) (0 : Int) [] (0 : Int) (8 : Int) (0 : Int) (0 : Int) [] (0 : Int) (8 : Int) (0 : Int) (0 : Int) [] (0 : Int) /\ okL3 (1000 : Int) (1000 : Int) (1000 : Int) (1000 : Int) (1000 : Int) (1000 : Int) (1000 : Int) (1000 : Int) (1000 : Int)) /\ okPl (100 : Int) (8 : Int) (1 : Int) /\ okN { u := x_1.u, v := x_1.v, a := x_1.a, l := x_1.l, p := x_1.p, b := x_1.b } /\ (0 : Int) <= 8000 /\ (8000 : Int) <= 18014398509481984) /\ (∃ (x_2 : QM), x_2 = qnext (100 : Int) (8 : Int) (wth3 (1000 : Int) (1000 : Int) (1000 : Int) (1000 : Int) (1000 : Int) (1000 : Int) (1000 : Int) (1000 : Int) (1000 : Int)) (qmot (mtr (8 : Int) (0 : Int) (0 : Int) [] (0 : Int) (0 : Int) xsg (0 : Nat) x.pk (0 : Int) (1 : Int)) (mtr (8 : Int) (0 : Int) (0 : Int) [] (0 : Int) (0 : Int) xsg (1 : Nat) x.pk (0 : Int) (1 : Int)) (mtr (8 : Int) (0 : Int) (0 : Int) [] (0 : Int) (0 : Int) xsg (2 : Nat) x.pk (0 : Int) (1 : Int)) x.ln) (1 : Nat) (qtg false (100 : Int) (100 : Int) (1 : Int) xsg x.pk (0 : Int) x.ln) { u := x_1.u, v := x_1.v, a := x_1.a, l := x_1.l, p := x_1.p, b := x_1.b } (8000 : Int)) /\
 ∀ (x_2 : QM), x_2 = qnext (100 : Int) (8 : Int) (wth3 (1000 : Int) (1000 : Int) (1000 : Int) (1000 : Int) (1000 : Int) (1000 : Int) (1000 : Int) (1000 : Int) (1000 : Int)) (qmot (mtr (8 : Int) (0 : Int) (0 : Int) [] (0 : Int) (0 : Int) xsg (0 : Nat) x.pk (0 : Int) (1 : Int)) (mtr (8 : Int) (0 : Int) (0 : Int) [] (0 : Int) (0 : Int) xsg (1 : Nat) x.pk (0 : Int) (1 : Int)) (mtr (8 : Int) (0 : Int) (0 : Int) [] (0 : Int) (0 : Int) xsg (2 : Nat) x.pk (0 : Int) (1 : Int)) x.ln) (1 : Nat) (qtg false (100 : Int) (100 : Int) (1 : Int) xsg x.pk (0 : Int) x.ln) { u := x_1.u, v := x_1.v, a := x_1.a, l := x_1.l, p := x_1.p, b := x_1.b } (8000 : Int) -> Q ⟨.ce (.bool (x_2.u == 8 && (x_2.v == 8 && (x_2.a == 8 && (x_2.l == 0 && (x_2.p == 0 && (x_2.b == 0 && true))))))), false, [], []⟩) := by kernel_rfl
def SLMotion (hA : List HV) (pA : List (List HC)) : SR :=
 match hA, pA with
 | [.agg [.int .i64 A, .int .i64 J, .int .i64 R], .agg [.int .i64 mu, .int .i64 mv, .int .i64 ma, .int .i64 ml, .int .i64 mp, .int .i64 mb], .ce (.int .i64 u), .ce (.int .i64 v)], [] => .det True ⟨.ce (.bool true), false, [], []⟩
 | _, _ => .fail
def tabMotion : List (FuncId × HL.Spec) := [(4, STrue1), (5, SQValid), (6, SQFut), (7, SQFut), (8, SQRest), (9, SQRest), (10, SQStart), (11, SQStart), (12, SQMove), (13, SQMove), (14, SSame)]
noncomputable def CMotion : Ctx := ⟨Try.prog, gam tabMotion, Try.f3.ntmps, [], []⟩
theorem vcMotion (A J R mu mv ma ml mp mb u v : Int) (Q : Res -> Prop) : (nfun true CMotion Try.f3 (bodyOf Try.f3) [.agg [I6 A, I6 J, I6 R], .agg [I6 mu, I6 mv, I6 ma, I6 ml, I6 mp, I6 mb], .ce (I6 u), .ce (I6 v)] [] Q) =
 (True /\ (∃ (x : Bool), x = true) /\ ∀ (x : Bool), x = true -> Bb (!x) (Q ⟨.ce (.bool false), false, [], []⟩) (True /\ (∃ (x : Bool), x = true ↔ okPl A J R) /\ ∀ (x : Bool), (x = true ↔ okPl A J R) -> Bb (!x) (Q ⟨.ce (.bool true), false, [], []⟩) (Br (A > 4000) (Q ⟨.ce (.bool true), false, [], []⟩) (Br (J > 4000) (Q ⟨.ce (.bool true), false, [], []⟩) (Br (mv < (-16384 : Int)) (Q ⟨.ce (.bool true), false, [], []⟩) (Br (mv > 16384) (Q ⟨.ce (.bool true), false, [], []⟩) (Br (mu < (-1099511627776 : Int)) (Q ⟨.ce (.bool true), false, [], []⟩) (Br (mu > 1099511627776) (Q ⟨.ce (.bool true), false, [], []⟩) (Br (u < (-1073741824 : Int)) (Q ⟨.ce (.bool true), false, [], []⟩) (Br (u > 1073741824) (Q ⟨.ce (.bool true), false, [], []⟩) (Br (v < (-1099511627776 : Int)) (Q ⟨.ce (.bool true), false, [], []⟩) (Br (v > 1099511627776) (Q ⟨.ce (.bool true), false, [], []⟩) ((okPl A J R /\ okU mu) /\ (∃ (x : LL × Bool), x = (qfu A J mu mv ma, qfok A J mv ma)) /\ ∀ (x : LL × Bool), x = (qfu A J mu mv ma, qfok A J mv ma) -> (okPl A J R /\ okU mu) /\ (∃ (x : LL × Bool), x = (qfu A J mu mv ma, qfok A J mv ma)) /\ ∀ (x_1 : LL × Bool), x_1 = (qfu A J mu mv ma, qfok A J mv ma) -> (okPl A J R /\ okU mu) /\ (∃ (x : Int × Bool), x = (if qfok A J mv ma = true then qend mu (qfu A J mu mv ma) else (0 : Int), qfok A J mv ma)) /\
 ∀ (x_2 : Int × Bool), x_2 = (if qfok A J mv ma = true then qend mu (qfu A J mu mv ma) else (0 : Int), qfok A J mv ma) -> (okPl A J R /\ okU mu) /\ (∃ (x : Int × Bool), x = (if qfok A J mv ma = true then qend mu (qfu A J mu mv ma) else (0 : Int), qfok A J mv ma)) /\ ∀ (x_3 : Int × Bool), x_3 = (if qfok A J mv ma = true then qend mu (qfu A J mu mv ma) else (0 : Int), qfok A J mv ma) -> (-18014398509481984 <= u /\ u <= 18014398509481984) /\ (∃ (x : QM), x = qstart u) /\ ∀ (x_4 : QM), x_4 = qstart u -> (-18014398509481984 <= u /\ u <= 18014398509481984) /\ (∃ (x : QM), x = qstart u) /\ ∀ (x_5 : QM), x_5 = qstart u -> Bb (x_4.u == x_5.u && (x_4.v == x_5.v && (x_4.a == x_5.a && (x_4.l == x_5.l && (x_4.p == x_5.p && (x_4.b == x_5.b && true)))))) ((okU mu /\ (-2199023255552 <= v /\ v <= 2199023255552) /\ -2199023255552 <= mv /\ mv <= 2199023255552) /\ (∃ (x : QM), x = qmove ⟨mu, mv, ma, ml, mp, mb⟩ v) /\
 ∀ (x_6 : QM), x_6 = qmove ⟨mu, mv, ma, ml, mp, mb⟩ v -> (okU mu /\ (-2199023255552 <= v /\ v <= 2199023255552) /\ -2199023255552 <= mv /\ mv <= 2199023255552) /\ (∃ (x : QM), x = qmove ⟨mu, mv, ma, ml, mp, mb⟩ v) /\ ∀ (x_7 : QM), x_7 = qmove ⟨mu, mv, ma, ml, mp, mb⟩ v -> Bb (x_6.u == x_7.u && (x_6.v == x_7.v && (x_6.a == x_7.a && (x_6.l == x_7.l && (x_6.p == x_7.p && (x_6.b == x_7.b && true)))))) (Bb (x.2 == x_1.2) ((x.1 = x_1.1 /\ List.length x.1 <= 4096) /\ ∀ (x11 : Bool), x11 = true -> Bb (x11) (Bb (x_2.1 == x_3.1) (Q ⟨.ce (.bool (x_2.2 == x_3.2)), false, [], []⟩) (Q ⟨.ce (.bool false), false, [], []⟩)) (Q ⟨.ce (.bool false), false, [], []⟩)) (Q ⟨.ce (.bool false), false, [], []⟩)) (Q ⟨.ce (.bool false), false, [], []⟩)) (Q ⟨.ce (.bool false), false, [], []⟩)))))))))))))) := by kernel_rfl
end Go.Proofs.Ytoekmphdpepdbaa
namespace U
theorem xnext : ((qnext 100 8 (wth3 1000 1000 1000 1000 1000 1000 1000 1000 1000) (qmot (mtr 8 0 0 [] 0 0 xsg 0 xleg.pk 0 1) (mtr 8 0 0 [] 0 0 xsg 1 xleg.pk 0 1) (mtr 8 0 0 [] 0 0 xsg 2 xleg.pk 0 1) xleg.ln) 1 (qtg false 100 100 1 xsg xleg.pk 0 xleg.ln) (qstart 0) 8000).u = 8 /\
 (qnext 100 8 (wth3 1000 1000 1000 1000 1000 1000 1000 1000 1000) (qmot (mtr 8 0 0 [] 0 0 xsg 0 xleg.pk 0 1) (mtr 8 0 0 [] 0 0 xsg 1 xleg.pk 0 1) (mtr 8 0 0 [] 0 0 xsg 2 xleg.pk 0 1) xleg.ln) 1 (qtg false 100 100 1 xsg xleg.pk 0 xleg.ln) (qstart 0) 8000).v = 8 /\
 (qnext 100 8 (wth3 1000 1000 1000 1000 1000 1000 1000 1000 1000) (qmot (mtr 8 0 0 [] 0 0 xsg 0 xleg.pk 0 1) (mtr 8 0 0 [] 0 0 xsg 1 xleg.pk 0 1) (mtr 8 0 0 [] 0 0 xsg 2 xleg.pk 0 1) xleg.ln) 1 (qtg false 100 100 1 xsg xleg.pk 0 xleg.ln) (qstart 0) 8000).a = 8) /\
 ((qnext 100 8 (wth3 1000 1000 1000 1000 1000 1000 1000 1000 1000) (qmot (mtr 8 0 0 [] 0 0 xsg 0 xleg.pk 0 1) (mtr 8 0 0 [] 0 0 xsg 1 xleg.pk 0 1) (mtr 8 0 0 [] 0 0 xsg 2 xleg.pk 0 1) xleg.ln) 1 (qtg false 100 100 1 xsg xleg.pk 0 xleg.ln) (qstart 0) 8000).l = 0 /\
 (qnext 100 8 (wth3 1000 1000 1000 1000 1000 1000 1000 1000 1000) (qmot (mtr 8 0 0 [] 0 0 xsg 0 xleg.pk 0 1) (mtr 8 0 0 [] 0 0 xsg 1 xleg.pk 0 1) (mtr 8 0 0 [] 0 0 xsg 2 xleg.pk 0 1) xleg.ln) 1 (qtg false 100 100 1 xsg xleg.pk 0 xleg.ln) (qstart 0) 8000).p = 0 /\
 (qnext 100 8 (wth3 1000 1000 1000 1000 1000 1000 1000 1000 1000) (qmot (mtr 8 0 0 [] 0 0 xsg 0 xleg.pk 0 1) (mtr 8 0 0 [] 0 0 xsg 1 xleg.pk 0 1) (mtr 8 0 0 [] 0 0 xsg 2 xleg.pk 0 1) xleg.ln) 1 (qtg false 100 100 1 xsg xleg.pk 0 xleg.ln) (qstart 0) 8000).b = 0) := by decide +kernel
end U
namespace Go.Proofs.Ytoekmphdpepdbaa
open Go Go.HL U
attribute [local irreducible] hfun bodyT fragT
theorem x_ok : okLen xsg /\ okPts 0 0 0 xsg /\ okB3 0 0 0 := by
 refine ⟨⟨by decide, fun j hj => ?_⟩, ⟨by decide, by decide, by decide, fun j hj => ?_⟩, by unfold okB3; decide⟩
 . obtain rfl : j = 0 := by simp [xsg] at hj; exact hj
   decide
 . obtain rfl : j = 0 := by simp [xsg] at hj; exact hj
   decide
theorem sStr : Sound Try.prog 15 SStr := by
 refine sound_of (C := CStr) tabStr Try.func15 (by kernel_rfl) (by decide +kernel) (by kernel_rfl) rfl ⟨sLeg, trivial⟩ (loops0 (by kernel_rfl)) ?_
 intro hA pA R h
 unfold SStr at h
 split at h
 case h_2 => exfalso; exact h
 obtain ⟨_, _, hR⟩ := h
 exact byVC (vcStr R) ⟨x_ok, ⟨_, rfl⟩, fun x e => hR x e⟩
theorem sAw36 : Sound Try.prog 4 STrue1 := by
 refine sound_of (C := CAw36) tabAw36 Try.func4 (by kernel_rfl) (by decide +kernel) (by kernel_rfl) rfl ⟨sStr, sQStart, sNx, trivial⟩ (loops0 (by kernel_rfl)) ?_
 intro hA pA R h
 unfold STrue1 at h
 split at h
 case h_2 => exfalso; exact h
 obtain ⟨_, _, hR⟩ := h
 have ht : okTrk xleg.pk xleg.ln := leg_ok (d0 := 1) (d1 := 1) (d2 := 1) x_ok.1 x_ok.2.2 (by decide) (by decide)
 have ma : okMA 8 0 0 [] 0 := ⟨by decide, ⟨fun h => by simp at h, by decide, by decide, by decide, fun j hj => by simp at hj⟩, by decide⟩
 refine byVC (vcAw36 R) ⟨trivial, ⟨_, rfl⟩, fun x ex => ⟨by decide, ⟨_, rfl⟩, fun y ey => ?_⟩⟩
 subst ex ey
 refine ⟨⟨⟨⟨x_ok.1, x_ok.2.1, ht, by decide⟩, ⟨ma, ma, ma⟩, ⟨by unfold okLi; decide, by unfold okLi; decide, by unfold okLi; decide⟩⟩, ⟨by decide, by decide, by decide⟩, ⟨by decide, by decide, by decide, by unfold okU; decide, by unfold okU; decide⟩, by decide, by decide⟩, ⟨_, rfl⟩, fun z ez => hR _ ?_⟩
 subst ez
 obtain ⟨⟨q1, q2, q3⟩, q4, q5, q6⟩ := xnext
 simp only [Bool.and_eq_true, beq_iff_eq]
 exact ⟨q1, q2, q3, q4, q5, q6, trivial⟩
theorem sLMotion : Sound Try.prog 3 SLMotion := by
 refine sound_of (C := CMotion) tabMotion Try.func3 (by kernel_rfl) (by decide +kernel) (by kernel_rfl) rfl ⟨sAw36, sQValidR, sQFut, sQFutR, sQRest, sQRestR, sQStart, sQStartR, sQMove, sQMoveR, sSam, trivial⟩ (loops0 (by kernel_rfl)) ?_
 intro hA pA R h
 unfold SLMotion at h
 split at h
 case h_2 => exfalso; exact h
 rename_i A J Rp mu mv ma ml mp mb u v
 obtain ⟨_, hR⟩ := h
 have okb : ∃ b : Bool, b = true ↔ okPl A J Rp := by
  by_cases hp : okPl A J Rp
  . exact ⟨true, by simpa using hp⟩
  . exact ⟨false, by simpa using hp⟩
 refine byVC (vcMotion A J Rp mu mv ma ml mp mb u v R) ⟨trivial, ⟨_, rfl⟩, fun a ea => ⟨fun g => by rw [ea] at g; simp at g, fun _ => ⟨trivial, okb, fun b hb => ⟨fun _ => hR, fun gb => ⟨fun _ => hR, fun g1 => ⟨fun _ => hR, fun g2 => ⟨fun _ => hR, fun g3 => ⟨fun _ => hR, fun g4 => ⟨fun _ => hR, fun g5 => ⟨fun _ => hR, fun g6 => ⟨fun _ => hR, fun g7 => ⟨fun _ => hR, fun g8 => ⟨fun _ => hR, fun g9 => ⟨fun _ => hR, fun g10 => ?_⟩⟩⟩⟩⟩⟩⟩⟩⟩⟩⟩⟩⟩⟩
 have g3 := odf g3
 have g4 := odf g4
 have g5 := odf g5
 have g6 := odf g6
 have g7 := odf g7
 have g8 := odf g8
 have g9 := odf g9
 have g10 := odf g10
 have hp : okPl A J Rp := hb.1 (by simpa using gb)
 have hu : okPl A J Rp /\ okU mu := ⟨hp, by unfold okU; omega⟩
 have hm : okU mu /\ (-2199023255552 <= v /\ v <= 2199023255552) /\ -2199023255552 <= mv /\ mv <= 2199023255552 := ⟨hu.2, by omega, by omega⟩
 have hl : (qfu A J mu mv ma).length <= 4096 := by unfold qfu; rw [qcum_len]; exact (qsp_spd (v := mv) (a := ma) hp).1
 refine ⟨hu, ⟨_, rfl⟩, fun x ex => ⟨hu, ⟨_, rfl⟩, fun x1 ex1 => ⟨hu, ⟨_, rfl⟩, fun x2 ex2 => ⟨hu, ⟨_, rfl⟩, fun x3 ex3 => ⟨by omega, ⟨_, rfl⟩, fun x4 ex4 => ⟨by omega, ⟨_, rfl⟩, fun x5 ex5 => ?_⟩⟩⟩⟩⟩⟩
 subst ex ex1 ex2 ex3 ex4 ex5
 refine ⟨fun _ => ⟨hm, ⟨_, rfl⟩, fun x6 ex6 => ⟨hm, ⟨_, rfl⟩, fun x7 ex7 => ?_⟩⟩, fun g => by simp at g⟩
 subst ex6 ex7
 refine ⟨fun _ => ⟨fun _ => ⟨⟨rfl, hl⟩, fun x11 e11 => ⟨fun _ => ⟨fun _ => ?_, fun g => by simp at g⟩, fun g => by rw [e11] at g; simp at g⟩⟩, fun g => by simp at g⟩, fun g => by simp at g⟩
 rw [beq_self_eq_true]
 exact hR
end Go.Proofs.Ytoekmphdpepdbaa
