/-
  Part 4 of the texts that the law needs, merged.
  Conditions: none.
-/
import Derived.Test.YtneingpnkdeooaaGreatPRetraceHome3
set_option maxRecDepth 100000
set_option maxHeartbeats 400000
set_option linter.unusedVariables false
set_option linter.unusedSimpArgs false
namespace U
open Go
structure LegS where
 pk : List (List Int)
 ln : Int
 a0 : Int
 a1 : Int
 a2 : Int
 bg : Int
def legI (n : Nat) (m : Int) (k : Nat) : Int := if m < 0 then (n : Int) - 1 - (k : Int) else (k : Int)
def legTk (pk : List (List Int)) (ln u s a0 a1 a2 n0 n1 n2 : Int) : List (List Int) × Int :=
 if u > 0 then tadd pk ln [0, u, s, 0, a0, a1, a2, n0, n1, n2] else (pk, ln)
def legS (m low high : Int) : Int := if m < 0 then high else low
def legPut (b0 b1 b2 m low high e n0 n1 n2 : Int) (x : LegS) : LegS :=
 if low < high then
  ⟨(tadd (legTk x.pk x.ln (slk b0 b1 b2 x.a0 x.a1 x.a2 n0 n1 n2) (legS m low high) x.a0 x.a1 x.a2 n0 n1 n2).1 (legTk x.pk x.ln (slk b0 b1 b2 x.a0 x.a1 x.a2 n0 n1 n2) (legS m low high) x.a0 x.a1 x.a2 n0 n1 n2).2 [0, high - low, legS m low high, m, n0, n1, n2, n0, n1, n2]).1,
   (tadd (legTk x.pk x.ln (slk b0 b1 b2 x.a0 x.a1 x.a2 n0 n1 n2) (legS m low high) x.a0 x.a1 x.a2 n0 n1 n2).1 (legTk x.pk x.ln (slk b0 b1 b2 x.a0 x.a1 x.a2 n0 n1 n2) (legS m low high) x.a0 x.a1 x.a2 n0 n1 n2).2 [0, high - low, legS m low high, m, n0, n1, n2, n0, n1, n2]).2,
   n0, n1, n2, e⟩
 else ⟨x.pk, x.ln, x.a0, x.a1, x.a2, e⟩
def legE (sg : List (List Int)) (m bg i : Int) : Int := bg + m * ec sg i.toNat 3
def legLow (bg e f t : Int) : Int := max (min bg e) (min f t)
def legHigh (bg e f t : Int) : Int := min (max bg e) (max f t)
def legSeg (s0 s1 s2 : Int) (sg : List (List Int)) (b0 b1 b2 f t m : Int) (x : LegS) (i : Int) : LegS :=
 legPut b0 b1 b2 m (legLow x.bg (legE sg m x.bg i) f t) (legHigh x.bg (legE sg m x.bg i) f t) (legE sg m x.bg i)
  (fc1 (bgn s0 sg 0 i) (ec sg i.toNat 0) m x.a0) (fc1 (bgn s1 sg 1 i) (ec sg i.toNat 1) m x.a1) (fc1 (bgn s2 sg 2 i) (ec sg i.toNat 2) m x.a2) x
def legStep (s0 s1 s2 : Int) (sg : List (List Int)) (b0 b1 b2 f t m : Int) (x : LegS) (k : Nat) : LegS := legSeg s0 s1 s2 sg b0 b1 b2 f t m x (legI sg.length m k)
def legK (s0 s1 s2 : Int) (sg : List (List Int)) (b0 b1 b2 f t m : Int) (x : LegS) : Nat -> LegS
 | 0 => x
 | k + 1 => legStep s0 s1 s2 sg b0 b1 b2 f t m (legK s0 s1 s2 sg b0 b1 b2 f t m x k) k
def clamp (n v : Int) : Int := min (max v 0) n
def legM (f t : Int) : Int := if t < f then -1 else 1
def leg (s0 s1 s2 : Int) (sg : List (List Int)) (b0 b1 b2 d0 d1 d2 f t : Int) : LegS :=
 legK s0 s1 s2 sg b0 b1 b2 f t (legM f t) ⟨[], 0, d0, d1, d2, if legM f t < 0 then plen sg else 0⟩ sg.length
def okB3 (b0 b1 b2 : Int) : Prop := (0 <= b0 /\ b0 <= 4096) /\ (0 <= b1 /\ b1 <= 4096) /\ (0 <= b2 /\ b2 <= 4096)
end U
namespace Go.Proofs.YtneingpnkdeooaaGreat
open Go Go.HL U
def SLeg (hA : List HV) (pA : List (List HC)) : SR :=
 match hA, pA with
 | [.agg [.int .i64 s0, .int .i64 s1, .int .i64 s2, .sl false [4, 4, 4, 4, 4, 4, 4] sg, .sl false [4, 4, 4] mk], .agg ax, .agg [.int .i64 d0, .int .i64 d1, .int .i64 d2], .ce (.int .i64 f), .ce (.int .i64 t)], [] =>
  match ax with
  | [.int .i64 sta, .int .i64 spa, .int .i64 aca, .int .i64 jea, .int .i64 loa, .int .i64 hia, .int .i64 bla, .int .i64 oga, .int .i64 sga, .sl false [4] pta, .int .i64 stb, .int .i64 spb, .int .i64 acb, .int .i64 jeb, .int .i64 lob, .int .i64 hib, .int .i64 blb, .int .i64 ogb, .int .i64 sgb, .sl false [4] ptb, .int .i64 stc, .int .i64 spc, .int .i64 acc, .int .i64 jec, .int .i64 loc, .int .i64 hic, .int .i64 blc, .int .i64 ogc, .int .i64 sgc, .sl false [4] ptc] =>
   .all (okLen sg /\ okPts s0 s1 s2 sg /\ okB3 bla blb blc) LegS (fun x => x = leg s0 s1 s2 sg bla blb blc d0 d1 d2 (clamp (plen sg) f) (clamp (plen sg) t))
    (fun x => ⟨.agg [.sl false [4, 4, 4, 4, 4, 4, 4, 4, 4, 4] x.pk, .int .i64 x.ln, .int .i64 (clamp (plen sg) f), .int .i64 d0, .int .i64 d1, .int .i64 d2], false, [], []⟩)
  | _ => .fail
 | _, _ => .fail
def tabLeg : List (FuncId × HL.Spec) := [(28, SPLen), (59, SFacing), (60, SSlack), (61, SAdd)]
def anLeg : LAnn := ⟨[3, 4, 5, 6, 10, 12, 13, 14, 15, 45, 46, 47], [10, 12], [1000005, 1000006, 1000010, 1000012, 1000014], false⟩
def LLeg (v : LV) : LR :=
 match v with
 | ([.ce (.int .i64 f), .ce (.int .i64 t), .ce (.ptr 1000005 0), .ce (.ptr 1000006 0), .ce (.ptr 1000010 0), .ce (.ptr 1000012 0), .ce (.int .i64 m), .ce (.ptr 1000014 0), .ce (.int .i64 bg), .ce (.sl false [4, 4, 4, 4, 4, 4, 4] l), .ce (.int .i64 n), .ce (.int .i64 k)],
  [[.int .i64 s0, .int .i64 s1, .int .i64 s2, .sl false [4, 4, 4, 4, 4, 4, 4] sg, .sl false [4, 4, 4] mk], ax, bz, bt, [.int .i64 a0, .int .i64 a1, .int .i64 a2]]) =>
  match ax with
  | [.int .i64 sta, .int .i64 spa, .int .i64 aca, .int .i64 jea, .int .i64 loa, .int .i64 hia, .int .i64 bla, .int .i64 oga, .int .i64 sga, .sl false [4] pta, .int .i64 stb, .int .i64 spb, .int .i64 acb, .int .i64 jeb, .int .i64 lob, .int .i64 hib, .int .i64 blb, .int .i64 ogb, .int .i64 sgb, .sl false [4] ptb, .int .i64 stc, .int .i64 spc, .int .i64 acc, .int .i64 jec, .int .i64 loc, .int .i64 hic, .int .i64 blc, .int .i64 ogc, .int .i64 sgc, .sl false [4] ptc] => match bz, bt with
   | [.sl true [4, 4, 4, 4, 4, 4, 4, 4, 4, 4] zz, .int .i64 z1, .int .i64 z2, .int .i64 z3, .int .i64 z4, .int .i64 z5], [.mu [4, 4, 4, 4, 4, 4, 4, 4, 4, 4] pk, .int .i64 ln, .int .i64 sa, .int .i64 d0, .int .i64 d1, .int .i64 d2] =>
    .all (n = l.length /\ k = 0 /\ l = sg /\ (m = 1 /\ bg = 0 ∨ m = -1 /\ bg = plen sg) /\ (0 <= f /\ f <= plen sg) /\ (0 <= t /\ t <= plen sg) /\ pk.length = 0 /\ ln = 0 /\ okLen sg /\ okPts s0 s1 s2 sg /\ okB3 bla blb blc) LegS
     (fun x => x = legK s0 s1 s2 sg bla blb blc f t m ⟨[], 0, a0, a1, a2, bg⟩ sg.length) (fun _ => .exit 0)
     (fun x => ([.ce (.ptr 1000010 0), .ce (.ptr 1000012 0)], [[.int .i64 s0, .int .i64 s1, .int .i64 s2, .sl false [4, 4, 4, 4, 4, 4, 4] sg, .sl false [4, 4, 4] mk], [.int .i64 sta, .int .i64 spa, .int .i64 aca, .int .i64 jea, .int .i64 loa, .int .i64 hia, .int .i64 bla, .int .i64 oga, .int .i64 sga, .sl false [4] pta, .int .i64 stb, .int .i64 spb, .int .i64 acb, .int .i64 jeb, .int .i64 lob, .int .i64 hib, .int .i64 blb, .int .i64 ogb, .int .i64 sgb, .sl false [4] ptb, .int .i64 stc, .int .i64 spc, .int .i64 acc, .int .i64 jec, .int .i64 loc, .int .i64 hic, .int .i64 blc, .int .i64 ogc, .int .i64 sgc, .sl false [4] ptc], [.sl true [4, 4, 4, 4, 4, 4, 4, 4, 4, 4] zz, .int .i64 z1, .int .i64 z2, .int .i64 z3, .int .i64 z4, .int .i64 z5], [.mu [4, 4, 4, 4, 4, 4, 4, 4, 4, 4] x.pk, .int .i64 x.ln, .int .i64 sa, .int .i64 d0, .int .i64 d1, .int .i64 d2], [.int .i64 x.a0, .int .i64 x.a1, .int .i64 x.a2]]))
   | _, _ => .fail
  | _ => .fail
 | _ => .fail
noncomputable def CLeg : Ctx := ⟨Tryz.prog, gam tabLeg, Tryz.f34.ntmps, [(11, anLeg, LLeg)], [119, spl 10 1000012 0 9]⟩
theorem vbLeg (s0 s1 s2 f t m bg n k a0 a1 a2 z1 z2 z3 z4 z5 ln sa d0 d1 d2 : Int) (sg mk l zz pk : List (List Int)) (sta spa aca jea loa hia bla oga sga stb spb acb jeb lob hib blb ogb sgb stc spc acc jec loc hic blc ogc sgc : Int) (pta ptb ptc : List (List Int)) (K : HEx -> LV -> Prop) : (nbodyT true CLeg anLeg (nthLoop Tryz.f34 0) (([.ce (.int .i64 f), .ce (.int .i64 t), .ce (.ptr 1000005 0), .ce (.ptr 1000006 0), .ce (.ptr 1000010 0), .ce (.ptr 1000012 0), .ce (.int .i64 m), .ce (.ptr 1000014 0), .ce (.int .i64 bg), .ce (.sl false [4, 4, 4, 4, 4, 4, 4] l), .ce (.int .i64 n), .ce (.int .i64 k)], [[.int .i64 s0, .int .i64 s1, .int .i64 s2, .sl false [4, 4, 4, 4, 4, 4, 4] sg, .sl false [4, 4, 4] mk], [.int .i64 sta, .int .i64 spa, .int .i64 aca, .int .i64 jea, .int .i64 loa, .int .i64 hia, .int .i64 bla, .int .i64 oga, .int .i64 sga, .sl false [4] pta, .int .i64 stb, .int .i64 spb, .int .i64 acb, .int .i64 jeb, .int .i64 lob, .int .i64 hib, .int .i64 blb, .int .i64 ogb, .int .i64 sgb, .sl false [4] ptb, .int .i64 stc, .int .i64 spc, .int .i64 acc, .int .i64 jec, .int .i64 loc, .int .i64 hic, .int .i64 blc, .int .i64 ogc, .int .i64 sgc, .sl false [4] ptc], [.sl true [4, 4, 4, 4, 4, 4, 4, 4, 4, 4] zz, .int .i64 z1, .int .i64 z2, .int .i64 z3, .int .i64 z4, .int .i64 z5], [.mu [4, 4, 4, 4, 4, 4, 4, 4, 4, 4] pk, .int .i64 ln, .int .i64 sa, .int .i64 d0, .int .i64 d1, .int .i64 d2], [.int .i64 a0, .int .i64 a1, .int .i64 a2]])) K) =
 ((decide (k < n) = true -> (decide (m < 0) = true -> (-9223372036854775808 <= (sg.length : Int) - 1 /\ (sg.length : Int) - 1 <= 9223372036854775807) /\ ∀ (x1 : Int), x1 = (sg.length : Int) - 1 -> (-9223372036854775808 <= x1 - k /\ x1 - k <= 9223372036854775807) /\ ∀ (x2 : Int), x2 = x1 - k -> (0 <= x2 /\ x2 < (sg.length : Int)) /\ ∀ (x3 : Int), x3 = ec sg x2.toNat 3 -> (-9223372036854775808 <= m * x3 /\ m * x3 <= 9223372036854775807) /\ ∀ (x4 : Int), x4 = m * x3 -> (-9223372036854775808 <= bg + x4 /\ bg + x4 <= 9223372036854775807) /\ ∀ (x5 : Int), x5 = bg + x4 -> ∀ (x6 : Int), x6 = min bg x5 -> ∀ (x7 : Int), x7 = min f t -> ∀ (x8 : Int), x8 = max x6 x7 -> ∀ (x9 : Int), x9 = max bg x5 -> ∀ (x10 : Int), x10 = max f t -> ∀ (x11 : Int), x11 = min x9 x10 -> (decide (x8 < x11) = true -> ((0 <= x2 /\ x2 < (sg.length : Int)) /\ (m = 1 ∨ m = (-1 : Int)) /\ okPts s0 s1 s2 sg /\ sg.length <= 1073741824) /\
 ∀ (x12 : Int), x12 = fc1 (bgn s0 sg (0 : Nat) x2) (ec sg x2.toNat 0) m a0 -> ∀ (x13 : Int), x13 = fc1 (bgn s1 sg (1 : Nat) x2) (ec sg x2.toNat 1) m a1 -> ∀ (x14 : Int), x14 = fc1 (bgn s2 sg (2 : Nat) x2) (ec sg x2.toNat 2) m a2 -> (decide (m < 0) = true -> True /\ ∀ (x15 : Int), x15 = slk bla blb blc a0 a1 a2 x12 x13 x14 -> (decide (x15 > 0) = true -> ((-2305843009213693952 <= x15 /\ x15 <= 2305843009213693952) /\ (-2305843009213693952 <= ln /\ ln <= 2305843009213693952) /\ pk.length <= 1000000000000 /\ ∀ (j : Nat), j < pk.length -> -2305843009213693952 <= ec pk j 1 /\ ec pk j 1 <= 2305843009213693952) /\ (∃ (x : List (List Int) × Int), x = tadd pk ln [(0 : Int), x15, x11, (0 : Int), a0, a1, a2, x12, x13, x14]) /\ ∀ (x : List (List Int) × Int), x = tadd pk ln [(0 : Int), x15, x11, (0 : Int), a0, a1, a2, x12, x13, x14] -> (-9223372036854775808 <= x11 - x8 /\ x11 - x8 <= 9223372036854775807) /\
 ∀ (x18 : Int), x18 = x11 - x8 -> ((-2305843009213693952 <= x18 /\ x18 <= 2305843009213693952) /\ ((-2305843009213693952 : Int) <= x.2 /\ x.2 <= 2305843009213693952) /\ List.length x.1 <= 1000000000000 /\ ∀ (j : Nat), j < List.length x.1 -> -2305843009213693952 <= ec x.1 j 1 /\ ec x.1 j 1 <= 2305843009213693952) /\ (∃ (x_1 : List (List Int) × Int), x_1 = tadd x.1 x.2 [(0 : Int), x18, x11, m, x12, x13, x14, x12, x13, x14]) /\ ∀ (x_1 : List (List Int) × Int), x_1 = tadd x.1 x.2 [(0 : Int), x18, x11, m, x12, x13, x14, x12, x13, x14] -> (-9223372036854775808 <= k + 1 /\ k + 1 <= 9223372036854775807) /\ ∀ (x21 : Int), x21 = k + 1 -> K .normal ([.ce (.int .i64 f), .ce (.int .i64 t), .ce (.ptr 1000005 0), .ce (.ptr 1000006 0), .ce (.ptr 1000010 0), .ce (.ptr 1000012 0), .ce (.int .i64 m), .ce (.ptr 1000014 0), .ce (.int .i64 x5), .ce (.sl false [4, 4, 4, 4, 4, 4, 4] l), .ce (.int .i64 n), .ce (.int .i64 x21)], [[.int .i64 s0, .int .i64 s1, .int .i64 s2, .sl false [4, 4, 4, 4, 4, 4, 4] sg, .sl false [4, 4, 4] mk], [.int .i64 sta, .int .i64 spa, .int .i64 aca, .int .i64 jea, .int .i64 loa, .int .i64 hia, .int .i64 bla, .int .i64 oga, .int .i64 sga, .sl false [4] pta, .int .i64 stb, .int .i64 spb, .int .i64 acb, .int .i64 jeb, .int .i64 lob, .int .i64 hib, .int .i64 blb, .int .i64 ogb, .int .i64 sgb, .sl false [4] ptb, .int .i64 stc, .int .i64 spc, .int .i64 acc, .int .i64 jec, .int .i64 loc, .int .i64 hic, .int .i64 blc, .int .i64 ogc, .int .i64 sgc, .sl false [4] ptc], [.sl true [4, 4, 4, 4, 4, 4, 4, 4, 4, 4] zz, .int .i64 z1, .int .i64 z2, .int .i64 z3, .int .i64 z4, .int .i64 z5], [.mu [4, 4, 4, 4, 4, 4, 4, 4, 4, 4] x_1.1, .int .i64 x_1.2, .int .i64 sa, .int .i64 d0, .int .i64 d1, .int .i64 d2], [.int .i64 x12, .int .i64 x13, .int .i64 x14]])) /\
 (decide (x15 > 0) = false -> (-9223372036854775808 <= x11 - x8 /\ x11 - x8 <= 9223372036854775807) /\ ∀ (x22 : Int), x22 = x11 - x8 -> ((-2305843009213693952 <= x22 /\ x22 <= 2305843009213693952) /\ (-2305843009213693952 <= ln /\ ln <= 2305843009213693952) /\ pk.length <= 1000000000000 /\ ∀ (j : Nat), j < pk.length -> -2305843009213693952 <= ec pk j 1 /\ ec pk j 1 <= 2305843009213693952) /\ (∃ (x : List (List Int) × Int), x = tadd pk ln [(0 : Int), x22, x11, m, x12, x13, x14, x12, x13, x14]) /\ ∀ (x : List (List Int) × Int), x = tadd pk ln [(0 : Int), x22, x11, m, x12, x13, x14, x12, x13, x14] -> (-9223372036854775808 <= k + 1 /\ k + 1 <= 9223372036854775807) /\ ∀ (x25 : Int), x25 = k + 1 -> K .normal ([.ce (.int .i64 f), .ce (.int .i64 t), .ce (.ptr 1000005 0), .ce (.ptr 1000006 0), .ce (.ptr 1000010 0), .ce (.ptr 1000012 0), .ce (.int .i64 m), .ce (.ptr 1000014 0), .ce (.int .i64 x5), .ce (.sl false [4, 4, 4, 4, 4, 4, 4] l), .ce (.int .i64 n), .ce (.int .i64 x25)], [[.int .i64 s0, .int .i64 s1, .int .i64 s2, .sl false [4, 4, 4, 4, 4, 4, 4] sg, .sl false [4, 4, 4] mk], [.int .i64 sta, .int .i64 spa, .int .i64 aca, .int .i64 jea, .int .i64 loa, .int .i64 hia, .int .i64 bla, .int .i64 oga, .int .i64 sga, .sl false [4] pta, .int .i64 stb, .int .i64 spb, .int .i64 acb, .int .i64 jeb, .int .i64 lob, .int .i64 hib, .int .i64 blb, .int .i64 ogb, .int .i64 sgb, .sl false [4] ptb, .int .i64 stc, .int .i64 spc, .int .i64 acc, .int .i64 jec, .int .i64 loc, .int .i64 hic, .int .i64 blc, .int .i64 ogc, .int .i64 sgc, .sl false [4] ptc], [.sl true [4, 4, 4, 4, 4, 4, 4, 4, 4, 4] zz, .int .i64 z1, .int .i64 z2, .int .i64 z3, .int .i64 z4, .int .i64 z5], [.mu [4, 4, 4, 4, 4, 4, 4, 4, 4, 4] x.1, .int .i64 x.2, .int .i64 sa, .int .i64 d0, .int .i64 d1, .int .i64 d2], [.int .i64 x12, .int .i64 x13, .int .i64 x14]]))) /\
 (decide (m < 0) = false -> True /\ ∀ (x26 : Int), x26 = slk bla blb blc a0 a1 a2 x12 x13 x14 -> (decide (x26 > 0) = true -> ((-2305843009213693952 <= x26 /\ x26 <= 2305843009213693952) /\ (-2305843009213693952 <= ln /\ ln <= 2305843009213693952) /\ pk.length <= 1000000000000 /\ ∀ (j : Nat), j < pk.length -> -2305843009213693952 <= ec pk j 1 /\ ec pk j 1 <= 2305843009213693952) /\ (∃ (x : List (List Int) × Int), x = tadd pk ln [(0 : Int), x26, x8, (0 : Int), a0, a1, a2, x12, x13, x14]) /\ ∀ (x : List (List Int) × Int), x = tadd pk ln [(0 : Int), x26, x8, (0 : Int), a0, a1, a2, x12, x13, x14] -> (-9223372036854775808 <= x11 - x8 /\ x11 - x8 <= 9223372036854775807) /\ ∀ (x29 : Int), x29 = x11 - x8 -> ((-2305843009213693952 <= x29 /\ x29 <= 2305843009213693952) /\ ((-2305843009213693952 : Int) <= x.2 /\ x.2 <= 2305843009213693952) /\ List.length x.1 <= 1000000000000 /\
 ∀ (j : Nat), j < List.length x.1 -> -2305843009213693952 <= ec x.1 j 1 /\ ec x.1 j 1 <= 2305843009213693952) /\ (∃ (x_1 : List (List Int) × Int), x_1 = tadd x.1 x.2 [(0 : Int), x29, x8, m, x12, x13, x14, x12, x13, x14]) /\ ∀ (x_1 : List (List Int) × Int), x_1 = tadd x.1 x.2 [(0 : Int), x29, x8, m, x12, x13, x14, x12, x13, x14] -> (-9223372036854775808 <= k + 1 /\ k + 1 <= 9223372036854775807) /\ ∀ (x32 : Int), x32 = k + 1 -> K .normal ([.ce (.int .i64 f), .ce (.int .i64 t), .ce (.ptr 1000005 0), .ce (.ptr 1000006 0), .ce (.ptr 1000010 0), .ce (.ptr 1000012 0), .ce (.int .i64 m), .ce (.ptr 1000014 0), .ce (.int .i64 x5), .ce (.sl false [4, 4, 4, 4, 4, 4, 4] l), .ce (.int .i64 n), .ce (.int .i64 x32)], [[.int .i64 s0, .int .i64 s1, .int .i64 s2, .sl false [4, 4, 4, 4, 4, 4, 4] sg, .sl false [4, 4, 4] mk], [.int .i64 sta, .int .i64 spa, .int .i64 aca, .int .i64 jea, .int .i64 loa, .int .i64 hia, .int .i64 bla, .int .i64 oga, .int .i64 sga, .sl false [4] pta, .int .i64 stb, .int .i64 spb, .int .i64 acb, .int .i64 jeb, .int .i64 lob, .int .i64 hib, .int .i64 blb, .int .i64 ogb, .int .i64 sgb, .sl false [4] ptb, .int .i64 stc, .int .i64 spc, .int .i64 acc, .int .i64 jec, .int .i64 loc, .int .i64 hic, .int .i64 blc, .int .i64 ogc, .int .i64 sgc, .sl false [4] ptc], [.sl true [4, 4, 4, 4, 4, 4, 4, 4, 4, 4] zz, .int .i64 z1, .int .i64 z2, .int .i64 z3, .int .i64 z4, .int .i64 z5], [.mu [4, 4, 4, 4, 4, 4, 4, 4, 4, 4] x_1.1, .int .i64 x_1.2, .int .i64 sa, .int .i64 d0, .int .i64 d1, .int .i64 d2], [.int .i64 x12, .int .i64 x13, .int .i64 x14]])) /\
 (decide (x26 > 0) = false -> (-9223372036854775808 <= x11 - x8 /\ x11 - x8 <= 9223372036854775807) /\ ∀ (x33 : Int), x33 = x11 - x8 -> ((-2305843009213693952 <= x33 /\ x33 <= 2305843009213693952) /\ (-2305843009213693952 <= ln /\ ln <= 2305843009213693952) /\ pk.length <= 1000000000000 /\ ∀ (j : Nat), j < pk.length -> -2305843009213693952 <= ec pk j 1 /\ ec pk j 1 <= 2305843009213693952) /\ (∃ (x : List (List Int) × Int), x = tadd pk ln [(0 : Int), x33, x8, m, x12, x13, x14, x12, x13, x14]) /\ ∀ (x : List (List Int) × Int), x = tadd pk ln [(0 : Int), x33, x8, m, x12, x13, x14, x12, x13, x14] -> (-9223372036854775808 <= k + 1 /\ k + 1 <= 9223372036854775807) /\ ∀ (x36 : Int), x36 = k + 1 -> K .normal ([.ce (.int .i64 f), .ce (.int .i64 t), .ce (.ptr 1000005 0), .ce (.ptr 1000006 0), .ce (.ptr 1000010 0), .ce (.ptr 1000012 0), .ce (.int .i64 m), .ce (.ptr 1000014 0), .ce (.int .i64 x5), .ce (.sl false [4, 4, 4, 4, 4, 4, 4] l), .ce (.int .i64 n), .ce (.int .i64 x36)], [[.int .i64 s0, .int .i64 s1, .int .i64 s2, .sl false [4, 4, 4, 4, 4, 4, 4] sg, .sl false [4, 4, 4] mk], [.int .i64 sta, .int .i64 spa, .int .i64 aca, .int .i64 jea, .int .i64 loa, .int .i64 hia, .int .i64 bla, .int .i64 oga, .int .i64 sga, .sl false [4] pta, .int .i64 stb, .int .i64 spb, .int .i64 acb, .int .i64 jeb, .int .i64 lob, .int .i64 hib, .int .i64 blb, .int .i64 ogb, .int .i64 sgb, .sl false [4] ptb, .int .i64 stc, .int .i64 spc, .int .i64 acc, .int .i64 jec, .int .i64 loc, .int .i64 hic, .int .i64 blc, .int .i64 ogc, .int .i64 sgc, .sl false [4] ptc], [.sl true [4, 4, 4, 4, 4, 4, 4, 4, 4, 4] zz, .int .i64 z1, .int .i64 z2, .int .i64 z3, .int .i64 z4, .int .i64 z5], [.mu [4, 4, 4, 4, 4, 4, 4, 4, 4, 4] x.1, .int .i64 x.2, .int .i64 sa, .int .i64 d0, .int .i64 d1, .int .i64 d2], [.int .i64 x12, .int .i64 x13, .int .i64 x14]])))) /\
 (decide (x8 < x11) = false -> (-9223372036854775808 <= k + 1 /\ k + 1 <= 9223372036854775807) /\ ∀ (x37 : Int), x37 = k + 1 -> K .normal ([.ce (.int .i64 f), .ce (.int .i64 t), .ce (.ptr 1000005 0), .ce (.ptr 1000006 0), .ce (.ptr 1000010 0), .ce (.ptr 1000012 0), .ce (.int .i64 m), .ce (.ptr 1000014 0), .ce (.int .i64 x5), .ce (.sl false [4, 4, 4, 4, 4, 4, 4] l), .ce (.int .i64 n), .ce (.int .i64 x37)], [[.int .i64 s0, .int .i64 s1, .int .i64 s2, .sl false [4, 4, 4, 4, 4, 4, 4] sg, .sl false [4, 4, 4] mk], [.int .i64 sta, .int .i64 spa, .int .i64 aca, .int .i64 jea, .int .i64 loa, .int .i64 hia, .int .i64 bla, .int .i64 oga, .int .i64 sga, .sl false [4] pta, .int .i64 stb, .int .i64 spb, .int .i64 acb, .int .i64 jeb, .int .i64 lob, .int .i64 hib, .int .i64 blb, .int .i64 ogb, .int .i64 sgb, .sl false [4] ptb, .int .i64 stc, .int .i64 spc, .int .i64 acc, .int .i64 jec, .int .i64 loc, .int .i64 hic, .int .i64 blc, .int .i64 ogc, .int .i64 sgc, .sl false [4] ptc], [.sl true [4, 4, 4, 4, 4, 4, 4, 4, 4, 4] zz, .int .i64 z1, .int .i64 z2, .int .i64 z3, .int .i64 z4, .int .i64 z5], [.mu [4, 4, 4, 4, 4, 4, 4, 4, 4, 4] pk, .int .i64 ln, .int .i64 sa, .int .i64 d0, .int .i64 d1, .int .i64 d2], [.int .i64 a0, .int .i64 a1, .int .i64 a2]]))) /\
 (decide (m < 0) = false -> (0 <= k /\ k < (sg.length : Int)) /\ ∀ (x38 : Int), x38 = ec sg k.toNat 3 -> (-9223372036854775808 <= m * x38 /\ m * x38 <= 9223372036854775807) /\ ∀ (x39 : Int), x39 = m * x38 -> (-9223372036854775808 <= bg + x39 /\ bg + x39 <= 9223372036854775807) /\ ∀ (x40 : Int), x40 = bg + x39 -> ∀ (x41 : Int), x41 = min bg x40 -> ∀ (x42 : Int), x42 = min f t -> ∀ (x43 : Int), x43 = max x41 x42 -> ∀ (x44 : Int), x44 = max bg x40 -> ∀ (x45 : Int), x45 = max f t -> ∀ (x46 : Int), x46 = min x44 x45 -> (decide (x43 < x46) = true -> ((0 <= k /\ k < (sg.length : Int)) /\ (m = 1 ∨ m = (-1 : Int)) /\ okPts s0 s1 s2 sg /\ sg.length <= 1073741824) /\ ∀ (x47 : Int), x47 = fc1 (bgn s0 sg (0 : Nat) k) (ec sg k.toNat 0) m a0 -> ∀ (x48 : Int), x48 = fc1 (bgn s1 sg (1 : Nat) k) (ec sg k.toNat 1) m a1 -> ∀ (x49 : Int), x49 = fc1 (bgn s2 sg (2 : Nat) k) (ec sg k.toNat 2) m a2 -> (decide (m < 0) = true ->
 True /\ ∀ (x50 : Int), x50 = slk bla blb blc a0 a1 a2 x47 x48 x49 -> (decide (x50 > 0) = true -> ((-2305843009213693952 <= x50 /\ x50 <= 2305843009213693952) /\ (-2305843009213693952 <= ln /\ ln <= 2305843009213693952) /\ pk.length <= 1000000000000 /\ ∀ (j : Nat), j < pk.length -> -2305843009213693952 <= ec pk j 1 /\ ec pk j 1 <= 2305843009213693952) /\ (∃ (x : List (List Int) × Int), x = tadd pk ln [(0 : Int), x50, x46, (0 : Int), a0, a1, a2, x47, x48, x49]) /\ ∀ (x : List (List Int) × Int), x = tadd pk ln [(0 : Int), x50, x46, (0 : Int), a0, a1, a2, x47, x48, x49] -> (-9223372036854775808 <= x46 - x43 /\ x46 - x43 <= 9223372036854775807) /\ ∀ (x53 : Int), x53 = x46 - x43 -> ((-2305843009213693952 <= x53 /\ x53 <= 2305843009213693952) /\ ((-2305843009213693952 : Int) <= x.2 /\ x.2 <= 2305843009213693952) /\ List.length x.1 <= 1000000000000 /\ ∀ (j : Nat), j < List.length x.1 ->
 -2305843009213693952 <= ec x.1 j 1 /\ ec x.1 j 1 <= 2305843009213693952) /\ (∃ (x_1 : List (List Int) × Int), x_1 = tadd x.1 x.2 [(0 : Int), x53, x46, m, x47, x48, x49, x47, x48, x49]) /\ ∀ (x_1 : List (List Int) × Int), x_1 = tadd x.1 x.2 [(0 : Int), x53, x46, m, x47, x48, x49, x47, x48, x49] -> (-9223372036854775808 <= k + 1 /\ k + 1 <= 9223372036854775807) /\ ∀ (x56 : Int), x56 = k + 1 -> K .normal ([.ce (.int .i64 f), .ce (.int .i64 t), .ce (.ptr 1000005 0), .ce (.ptr 1000006 0), .ce (.ptr 1000010 0), .ce (.ptr 1000012 0), .ce (.int .i64 m), .ce (.ptr 1000014 0), .ce (.int .i64 x40), .ce (.sl false [4, 4, 4, 4, 4, 4, 4] l), .ce (.int .i64 n), .ce (.int .i64 x56)], [[.int .i64 s0, .int .i64 s1, .int .i64 s2, .sl false [4, 4, 4, 4, 4, 4, 4] sg, .sl false [4, 4, 4] mk], [.int .i64 sta, .int .i64 spa, .int .i64 aca, .int .i64 jea, .int .i64 loa, .int .i64 hia, .int .i64 bla, .int .i64 oga, .int .i64 sga, .sl false [4] pta, .int .i64 stb, .int .i64 spb, .int .i64 acb, .int .i64 jeb, .int .i64 lob, .int .i64 hib, .int .i64 blb, .int .i64 ogb, .int .i64 sgb, .sl false [4] ptb, .int .i64 stc, .int .i64 spc, .int .i64 acc, .int .i64 jec, .int .i64 loc, .int .i64 hic, .int .i64 blc, .int .i64 ogc, .int .i64 sgc, .sl false [4] ptc], [.sl true [4, 4, 4, 4, 4, 4, 4, 4, 4, 4] zz, .int .i64 z1, .int .i64 z2, .int .i64 z3, .int .i64 z4, .int .i64 z5], [.mu [4, 4, 4, 4, 4, 4, 4, 4, 4, 4] x_1.1, .int .i64 x_1.2, .int .i64 sa, .int .i64 d0, .int .i64 d1, .int .i64 d2], [.int .i64 x47, .int .i64 x48, .int .i64 x49]])) /\
 (decide (x50 > 0) = false -> (-9223372036854775808 <= x46 - x43 /\ x46 - x43 <= 9223372036854775807) /\ ∀ (x57 : Int), x57 = x46 - x43 -> ((-2305843009213693952 <= x57 /\ x57 <= 2305843009213693952) /\ (-2305843009213693952 <= ln /\ ln <= 2305843009213693952) /\ pk.length <= 1000000000000 /\ ∀ (j : Nat), j < pk.length -> -2305843009213693952 <= ec pk j 1 /\ ec pk j 1 <= 2305843009213693952) /\ (∃ (x : List (List Int) × Int), x = tadd pk ln [(0 : Int), x57, x46, m, x47, x48, x49, x47, x48, x49]) /\ ∀ (x : List (List Int) × Int), x = tadd pk ln [(0 : Int), x57, x46, m, x47, x48, x49, x47, x48, x49] -> (-9223372036854775808 <= k + 1 /\ k + 1 <= 9223372036854775807) /\ ∀ (x60 : Int), x60 = k + 1 -> K .normal ([.ce (.int .i64 f), .ce (.int .i64 t), .ce (.ptr 1000005 0), .ce (.ptr 1000006 0), .ce (.ptr 1000010 0), .ce (.ptr 1000012 0), .ce (.int .i64 m), .ce (.ptr 1000014 0), .ce (.int .i64 x40), .ce (.sl false [4, 4, 4, 4, 4, 4, 4] l), .ce (.int .i64 n), .ce (.int .i64 x60)], [[.int .i64 s0, .int .i64 s1, .int .i64 s2, .sl false [4, 4, 4, 4, 4, 4, 4] sg, .sl false [4, 4, 4] mk], [.int .i64 sta, .int .i64 spa, .int .i64 aca, .int .i64 jea, .int .i64 loa, .int .i64 hia, .int .i64 bla, .int .i64 oga, .int .i64 sga, .sl false [4] pta, .int .i64 stb, .int .i64 spb, .int .i64 acb, .int .i64 jeb, .int .i64 lob, .int .i64 hib, .int .i64 blb, .int .i64 ogb, .int .i64 sgb, .sl false [4] ptb, .int .i64 stc, .int .i64 spc, .int .i64 acc, .int .i64 jec, .int .i64 loc, .int .i64 hic, .int .i64 blc, .int .i64 ogc, .int .i64 sgc, .sl false [4] ptc], [.sl true [4, 4, 4, 4, 4, 4, 4, 4, 4, 4] zz, .int .i64 z1, .int .i64 z2, .int .i64 z3, .int .i64 z4, .int .i64 z5], [.mu [4, 4, 4, 4, 4, 4, 4, 4, 4, 4] x.1, .int .i64 x.2, .int .i64 sa, .int .i64 d0, .int .i64 d1, .int .i64 d2], [.int .i64 x47, .int .i64 x48, .int .i64 x49]]))) /\
 (decide (m < 0) = false -> True /\ ∀ (x61 : Int), x61 = slk bla blb blc a0 a1 a2 x47 x48 x49 -> (decide (x61 > 0) = true -> ((-2305843009213693952 <= x61 /\ x61 <= 2305843009213693952) /\ (-2305843009213693952 <= ln /\ ln <= 2305843009213693952) /\ pk.length <= 1000000000000 /\ ∀ (j : Nat), j < pk.length -> -2305843009213693952 <= ec pk j 1 /\ ec pk j 1 <= 2305843009213693952) /\ (∃ (x : List (List Int) × Int), x = tadd pk ln [(0 : Int), x61, x43, (0 : Int), a0, a1, a2, x47, x48, x49]) /\ ∀ (x : List (List Int) × Int), x = tadd pk ln [(0 : Int), x61, x43, (0 : Int), a0, a1, a2, x47, x48, x49] -> (-9223372036854775808 <= x46 - x43 /\ x46 - x43 <= 9223372036854775807) /\ ∀ (x64 : Int), x64 = x46 - x43 -> ((-2305843009213693952 <= x64 /\ x64 <= 2305843009213693952) /\ ((-2305843009213693952 : Int) <= x.2 /\ x.2 <= 2305843009213693952) /\ List.length x.1 <= 1000000000000 /\
 ∀ (j : Nat), j < List.length x.1 -> -2305843009213693952 <= ec x.1 j 1 /\ ec x.1 j 1 <= 2305843009213693952) /\ (∃ (x_1 : List (List Int) × Int), x_1 = tadd x.1 x.2 [(0 : Int), x64, x43, m, x47, x48, x49, x47, x48, x49]) /\ ∀ (x_1 : List (List Int) × Int), x_1 = tadd x.1 x.2 [(0 : Int), x64, x43, m, x47, x48, x49, x47, x48, x49] -> (-9223372036854775808 <= k + 1 /\ k + 1 <= 9223372036854775807) /\ ∀ (x67 : Int), x67 = k + 1 -> K .normal ([.ce (.int .i64 f), .ce (.int .i64 t), .ce (.ptr 1000005 0), .ce (.ptr 1000006 0), .ce (.ptr 1000010 0), .ce (.ptr 1000012 0), .ce (.int .i64 m), .ce (.ptr 1000014 0), .ce (.int .i64 x40), .ce (.sl false [4, 4, 4, 4, 4, 4, 4] l), .ce (.int .i64 n), .ce (.int .i64 x67)], [[.int .i64 s0, .int .i64 s1, .int .i64 s2, .sl false [4, 4, 4, 4, 4, 4, 4] sg, .sl false [4, 4, 4] mk], [.int .i64 sta, .int .i64 spa, .int .i64 aca, .int .i64 jea, .int .i64 loa, .int .i64 hia, .int .i64 bla, .int .i64 oga, .int .i64 sga, .sl false [4] pta, .int .i64 stb, .int .i64 spb, .int .i64 acb, .int .i64 jeb, .int .i64 lob, .int .i64 hib, .int .i64 blb, .int .i64 ogb, .int .i64 sgb, .sl false [4] ptb, .int .i64 stc, .int .i64 spc, .int .i64 acc, .int .i64 jec, .int .i64 loc, .int .i64 hic, .int .i64 blc, .int .i64 ogc, .int .i64 sgc, .sl false [4] ptc], [.sl true [4, 4, 4, 4, 4, 4, 4, 4, 4, 4] zz, .int .i64 z1, .int .i64 z2, .int .i64 z3, .int .i64 z4, .int .i64 z5], [.mu [4, 4, 4, 4, 4, 4, 4, 4, 4, 4] x_1.1, .int .i64 x_1.2, .int .i64 sa, .int .i64 d0, .int .i64 d1, .int .i64 d2], [.int .i64 x47, .int .i64 x48, .int .i64 x49]])) /\
 (decide (x61 > 0) = false -> (-9223372036854775808 <= x46 - x43 /\ x46 - x43 <= 9223372036854775807) /\ ∀ (x68 : Int), x68 = x46 - x43 -> ((-2305843009213693952 <= x68 /\ x68 <= 2305843009213693952) /\ (-2305843009213693952 <= ln /\ ln <= 2305843009213693952) /\ pk.length <= 1000000000000 /\ ∀ (j : Nat), j < pk.length -> -2305843009213693952 <= ec pk j 1 /\ ec pk j 1 <= 2305843009213693952) /\ (∃ (x : List (List Int) × Int), x = tadd pk ln [(0 : Int), x68, x43, m, x47, x48, x49, x47, x48, x49]) /\ ∀ (x : List (List Int) × Int), x = tadd pk ln [(0 : Int), x68, x43, m, x47, x48, x49, x47, x48, x49] -> (-9223372036854775808 <= k + 1 /\ k + 1 <= 9223372036854775807) /\ ∀ (x71 : Int), x71 = k + 1 -> K .normal ([.ce (.int .i64 f), .ce (.int .i64 t), .ce (.ptr 1000005 0), .ce (.ptr 1000006 0), .ce (.ptr 1000010 0), .ce (.ptr 1000012 0), .ce (.int .i64 m), .ce (.ptr 1000014 0), .ce (.int .i64 x40), .ce (.sl false [4, 4, 4, 4, 4, 4, 4] l), .ce (.int .i64 n), .ce (.int .i64 x71)], [[.int .i64 s0, .int .i64 s1, .int .i64 s2, .sl false [4, 4, 4, 4, 4, 4, 4] sg, .sl false [4, 4, 4] mk], [.int .i64 sta, .int .i64 spa, .int .i64 aca, .int .i64 jea, .int .i64 loa, .int .i64 hia, .int .i64 bla, .int .i64 oga, .int .i64 sga, .sl false [4] pta, .int .i64 stb, .int .i64 spb, .int .i64 acb, .int .i64 jeb, .int .i64 lob, .int .i64 hib, .int .i64 blb, .int .i64 ogb, .int .i64 sgb, .sl false [4] ptb, .int .i64 stc, .int .i64 spc, .int .i64 acc, .int .i64 jec, .int .i64 loc, .int .i64 hic, .int .i64 blc, .int .i64 ogc, .int .i64 sgc, .sl false [4] ptc], [.sl true [4, 4, 4, 4, 4, 4, 4, 4, 4, 4] zz, .int .i64 z1, .int .i64 z2, .int .i64 z3, .int .i64 z4, .int .i64 z5], [.mu [4, 4, 4, 4, 4, 4, 4, 4, 4, 4] x.1, .int .i64 x.2, .int .i64 sa, .int .i64 d0, .int .i64 d1, .int .i64 d2], [.int .i64 x47, .int .i64 x48, .int .i64 x49]])))) /\
 (decide (x43 < x46) = false -> (-9223372036854775808 <= k + 1 /\ k + 1 <= 9223372036854775807) /\ ∀ (x72 : Int), x72 = k + 1 -> K .normal ([.ce (.int .i64 f), .ce (.int .i64 t), .ce (.ptr 1000005 0), .ce (.ptr 1000006 0), .ce (.ptr 1000010 0), .ce (.ptr 1000012 0), .ce (.int .i64 m), .ce (.ptr 1000014 0), .ce (.int .i64 x40), .ce (.sl false [4, 4, 4, 4, 4, 4, 4] l), .ce (.int .i64 n), .ce (.int .i64 x72)], [[.int .i64 s0, .int .i64 s1, .int .i64 s2, .sl false [4, 4, 4, 4, 4, 4, 4] sg, .sl false [4, 4, 4] mk], [.int .i64 sta, .int .i64 spa, .int .i64 aca, .int .i64 jea, .int .i64 loa, .int .i64 hia, .int .i64 bla, .int .i64 oga, .int .i64 sga, .sl false [4] pta, .int .i64 stb, .int .i64 spb, .int .i64 acb, .int .i64 jeb, .int .i64 lob, .int .i64 hib, .int .i64 blb, .int .i64 ogb, .int .i64 sgb, .sl false [4] ptb, .int .i64 stc, .int .i64 spc, .int .i64 acc, .int .i64 jec, .int .i64 loc, .int .i64 hic, .int .i64 blc, .int .i64 ogc, .int .i64 sgc, .sl false [4] ptc], [.sl true [4, 4, 4, 4, 4, 4, 4, 4, 4, 4] zz, .int .i64 z1, .int .i64 z2, .int .i64 z3, .int .i64 z4, .int .i64 z5], [.mu [4, 4, 4, 4, 4, 4, 4, 4, 4, 4] pk, .int .i64 ln, .int .i64 sa, .int .i64 d0, .int .i64 d1, .int .i64 d2], [.int .i64 a0, .int .i64 a1, .int .i64 a2]])))) /\
 (decide (k < n) = false -> K (.exit 0) ([.ce (.ptr 1000010 0), .ce (.ptr 1000012 0)], [[.int .i64 s0, .int .i64 s1, .int .i64 s2, .sl false [4, 4, 4, 4, 4, 4, 4] sg, .sl false [4, 4, 4] mk], [.int .i64 sta, .int .i64 spa, .int .i64 aca, .int .i64 jea, .int .i64 loa, .int .i64 hia, .int .i64 bla, .int .i64 oga, .int .i64 sga, .sl false [4] pta, .int .i64 stb, .int .i64 spb, .int .i64 acb, .int .i64 jeb, .int .i64 lob, .int .i64 hib, .int .i64 blb, .int .i64 ogb, .int .i64 sgb, .sl false [4] ptb, .int .i64 stc, .int .i64 spc, .int .i64 acc, .int .i64 jec, .int .i64 loc, .int .i64 hic, .int .i64 blc, .int .i64 ogc, .int .i64 sgc, .sl false [4] ptc], [.sl true [4, 4, 4, 4, 4, 4, 4, 4, 4, 4] zz, .int .i64 z1, .int .i64 z2, .int .i64 z3, .int .i64 z4, .int .i64 z5], [.mu [4, 4, 4, 4, 4, 4, 4, 4, 4, 4] pk, .int .i64 ln, .int .i64 sa, .int .i64 d0, .int .i64 d1, .int .i64 d2], [.int .i64 a0, .int .i64 a1, .int .i64 a2]]))) := by kernel_rfl
theorem vcLeg (s0 s1 s2 f t d0 d1 d2 : Int) (sg mk : List (List Int)) (sta spa aca jea loa hia bla oga sga stb spb acb jeb lob hib blb ogb sgb stc spc acc jec loc hic blc ogc sgc : Int) (pta ptb ptc : List (List Int)) (Q : Res -> Prop) : (nfun true CLeg Tryz.f34 (bodyOf Tryz.f34) [.agg [.int .i64 s0, .int .i64 s1, .int .i64 s2, .sl false [4, 4, 4, 4, 4, 4, 4] sg, .sl false [4, 4, 4] mk], .agg [.int .i64 sta, .int .i64 spa, .int .i64 aca, .int .i64 jea, .int .i64 loa, .int .i64 hia, .int .i64 bla, .int .i64 oga, .int .i64 sga, .sl false [4] pta, .int .i64 stb, .int .i64 spb, .int .i64 acb, .int .i64 jeb, .int .i64 lob, .int .i64 hib, .int .i64 blb, .int .i64 ogb, .int .i64 sgb, .sl false [4] ptb, .int .i64 stc, .int .i64 spc, .int .i64 acc, .int .i64 jec, .int .i64 loc, .int .i64 hic, .int .i64 blc, .int .i64 ogc, .int .i64 sgc, .sl false [4] ptc], .agg [.int .i64 d0, .int .i64 d1, .int .i64 d2], .ce (.int .i64 f), .ce (.int .i64 t)] [] Q) =
 (okLen sg /\ ∀ (x1 : Int), x1 = plen sg -> ∀ (x2 : Int), x2 = max f 0 -> ∀ (x3 : Int), x3 = min x2 x1 -> ∀ (x4 : Int), x4 = max t 0 -> ∀ (x5 : Int), x5 = min x4 x1 -> (decide (x5 < x3) = true -> ((sg.length : Int) = (sg.length : Int) /\ (0 : Int) = 0 /\ sg = sg /\ ((-1 : Int) = 1 /\ x1 = 0 ∨ (-1 : Int) = (-1 : Int) /\ x1 = plen sg) /\ (0 <= x3 /\ x3 <= plen sg) /\ (0 <= x5 /\ x5 <= plen sg) /\ (0 : Nat) = 0 /\ (0 : Int) = 0 /\ okLen sg /\ okPts s0 s1 s2 sg /\ okB3 bla blb blc) /\ ∀ (x : LegS), x = legK s0 s1 s2 sg bla blb blc x3 x5 (-1 : Int) { pk := [], ln := (0 : Int), a0 := d0, a1 := d1, a2 := d2, bg := x1 } (sg.length) -> Q ⟨.agg [.sl false [4, 4, 4, 4, 4, 4, 4, 4, 4, 4] x.pk, .int .i64 x.ln, .int .i64 x3, .int .i64 d0, .int .i64 d1, .int .i64 d2], false, [], []⟩) /\ (decide (x5 < x3) = false -> ((sg.length : Int) = (sg.length : Int) /\ (0 : Int) = 0 /\
 sg = sg /\ ((1 : Int) = 1 /\ (0 : Int) = 0 ∨ (1 : Int) = (-1 : Int) /\ (0 : Int) = plen sg) /\ (0 <= x3 /\ x3 <= plen sg) /\ (0 <= x5 /\ x5 <= plen sg) /\ (0 : Nat) = 0 /\ (0 : Int) = 0 /\ okLen sg /\ okPts s0 s1 s2 sg /\ okB3 bla blb blc) /\ ∀ (x : LegS), x = legK s0 s1 s2 sg bla blb blc x3 x5 (1 : Int) { pk := [], ln := (0 : Int), a0 := d0, a1 := d1, a2 := d2, bg := (0 : Int) } (sg.length) -> Q ⟨.agg [.sl false [4, 4, 4, 4, 4, 4, 4, 4, 4, 4] x.pk, .int .i64 x.ln, .int .i64 x3, .int .i64 d0, .int .i64 d1, .int .i64 d2], false, [], []⟩)) := by kernel_rfl
end Go.Proofs.YtneingpnkdeooaaGreat
namespace U
theorem slk_bd {b0 b1 b2 : Int} (h : okB3 b0 b1 b2) (w0 w1 w2 d0 d1 d2 : Int) : 0 <= slk b0 b1 b2 w0 w1 w2 d0 d1 d2 /\ slk b0 b1 b2 w0 w1 w2 d0 d1 d2 <= 4096 := by
 unfold okB3 at h
 unfold slk sl1
 split <;> split <;> split <;> omega
def unitsOK (pk : List (List Int)) (ln : Int) : Prop := ∀ j, j < pk.length -> 0 <= ec pk j 1 /\ ec pk j 1 <= ln
theorem ec_set (pk : List (List Int)) (i j c : Nat) (r : List Int) (hi : i < pk.length) : ec (pk.set i r) j c = if i = j then r.getD c 0 else ec pk j c := by
 unfold ec
 simp only [List.getD_eq_getElem?_getD, List.getElem?_set]
 split
 . rename_i e; subst e; rfl
 . rfl
theorem ec_app (a b : List (List Int)) (j c : Nat) : ec (a ++ b) j c = if j < a.length then ec a j c else ec b (j - a.length) c := by
 unfold ec
 simp only [List.getD_eq_getElem?_getD, List.getElem?_append]
 split <;> rfl
theorem tadd_inv {pk : List (List Int)} {ln : Int} {q : List Int} (hl : 0 <= ln) (hu : unitsOK pk ln) (h1 : 0 <= q.getD 1 0) :
 (tadd pk ln q).2 = ln + q.getD 1 0 /\ (tadd pk ln q).1.length <= pk.length + 1 /\ unitsOK (tadd pk ln q).1 (ln + q.getD 1 0) := by
 unfold tadd
 split
 . rename_i h
   refine ⟨rfl, by simp, fun j hj => ?_⟩
   dsimp only at hj ⊢
   rw [List.length_set] at hj
   rw [ec_set _ _ _ _ _ (by omega)]
   split
   . have := hu (pk.length - 1) (by omega)
     have e : (more (pk.getD (pk.length - 1) []) (q.getD 1 0)).getD 1 0 = ec pk (pk.length - 1) 1 + q.getD 1 0 := rfl
     rw [e]
     omega
   . have := hu j hj
     omega
 . refine ⟨rfl, by simp, fun j hj => ?_⟩
   dsimp only at hj ⊢
   rw [List.length_append] at hj
   rw [ec_app]
   split
   . rename_i h; have := hu j h; omega
   . rename_i h
     have : j - pk.length = 0 := by simp at hj; omega
     rw [this]
     have e : ec [[ln, q.getD 1 0, q.getD 2 0, q.getD 3 0, q.getD 4 0, q.getD 5 0, q.getD 6 0, q.getD 7 0, q.getD 8 0, q.getD 9 0]] 0 1 = q.getD 1 0 := rfl
     rw [e]
     omega
def legJ (sg : List (List Int)) (m : Int) (k : Nat) (x : LegS) : Prop :=
 (0 <= x.ln /\ x.ln <= 8589934592 * (k : Int)) /\ x.pk.length <= 2 * k /\ unitsOK x.pk x.ln /\ (m = 1 -> x.bg = plen (sg.take k)) /\ (m = -1 -> x.bg = plen (sg.take (sg.length - k)))
theorem legI_bd {n : Nat} {m : Int} {k : Nat} (hk : k < n) : 0 <= legI n m k /\ legI n m k < n := by unfold legI; split <;> omega
theorem legE_next {sg : List (List Int)} {m bg : Int} {k : Nat} (hk : k < sg.length) (h1 : m = 1 -> bg = plen (sg.take k)) (h2 : m = -1 -> bg = plen (sg.take (sg.length - k))) :
 (m = 1 -> legE sg m bg (legI sg.length m k) = plen (sg.take (k + 1))) /\ (m = -1 -> legE sg m bg (legI sg.length m k) = plen (sg.take (sg.length - (k + 1)))) := by
 unfold legE legI
 refine ⟨fun e => ?_, fun e => ?_⟩
 . rw [h1 e, e, if_neg (by decide), plen_next sg hk]
   have : ((k : Int)).toNat = k := rfl
   rw [this]; omega
 . rw [h2 e, e, if_pos (by decide)]
   have e1 : ((sg.length : Int) - 1 - (k : Int)).toNat = sg.length - (k + 1) := by omega
   rw [e1, show sg.length - k = sg.length - (k + 1) + 1 by omega, plen_next sg (by omega)]
   omega
theorem legJ_seg {s0 s1 s2 : Int} {sg : List (List Int)} {b0 b1 b2 f t m : Int} {x : LegS} {k : Nat} (hl : okLen sg) (hb : okB3 b0 b1 b2) (hm : m = 1 ∨ m = -1) (hk : k < sg.length) (h : legJ sg m k x) :
 legJ sg m (k + 1) (legStep s0 s1 s2 sg b0 b1 b2 f t m x k) := by
 obtain ⟨h1, h2, h3, h4, h5⟩ := h
 have hE := legE_next (m := m) hk h4 h5
 have hi := legI_bd (m := m) hk
 have hlen := hl.2 (legI sg.length m k).toNat (by omega)
 have hd : legHigh x.bg (legE sg m x.bg (legI sg.length m k)) f t - legLow x.bg (legE sg m x.bg (legI sg.length m k)) f t <= 4294967296 := by
  unfold legHigh legLow legE
  rcases hm with rfl | rfl <;> omega
 unfold legStep legSeg
 generalize legLow x.bg (legE sg m x.bg (legI sg.length m k)) f t = low at *
 generalize legHigh x.bg (legE sg m x.bg (legI sg.length m k)) f t = high at *
 generalize legE sg m x.bg (legI sg.length m k) = e at *
 generalize fc1 (bgn s0 sg 0 (legI sg.length m k)) (ec sg (legI sg.length m k).toNat 0) m x.a0 = n0
 generalize fc1 (bgn s1 sg 1 (legI sg.length m k)) (ec sg (legI sg.length m k).toNat 1) m x.a1 = n1
 generalize fc1 (bgn s2 sg 2 (legI sg.length m k)) (ec sg (legI sg.length m k).toNat 2) m x.a2 = n2
 unfold legPut
 split
 . rename_i hlh
   have hs := slk_bd hb x.a0 x.a1 x.a2 n0 n1 n2
   have htk : 0 <= (legTk x.pk x.ln (slk b0 b1 b2 x.a0 x.a1 x.a2 n0 n1 n2) (legS m low high) x.a0 x.a1 x.a2 n0 n1 n2).2 /\ (legTk x.pk x.ln (slk b0 b1 b2 x.a0 x.a1 x.a2 n0 n1 n2) (legS m low high) x.a0 x.a1 x.a2 n0 n1 n2).2 <= x.ln + 4096 /\
    (legTk x.pk x.ln (slk b0 b1 b2 x.a0 x.a1 x.a2 n0 n1 n2) (legS m low high) x.a0 x.a1 x.a2 n0 n1 n2).1.length <= x.pk.length + 1 /\
    unitsOK (legTk x.pk x.ln (slk b0 b1 b2 x.a0 x.a1 x.a2 n0 n1 n2) (legS m low high) x.a0 x.a1 x.a2 n0 n1 n2).1 (legTk x.pk x.ln (slk b0 b1 b2 x.a0 x.a1 x.a2 n0 n1 n2) (legS m low high) x.a0 x.a1 x.a2 n0 n1 n2).2 := by
    generalize slk b0 b1 b2 x.a0 x.a1 x.a2 n0 n1 n2 = u at *
    unfold legTk
    split
    . obtain ⟨a1, a2, a3⟩ := tadd_inv (q := [0, u, legS m low high, 0, x.a0, x.a1, x.a2, n0, n1, n2]) h1.1 h3 hs.1
      rw [<- a1] at a3
      have a1 : (tadd x.pk x.ln [0, u, legS m low high, 0, x.a0, x.a1, x.a2, n0, n1, n2]).2 = x.ln + u := a1
      exact ⟨by omega, by omega, a2, a3⟩
    . exact ⟨h1.1, by dsimp only; omega, by dsimp only; omega, h3⟩
   generalize legTk x.pk x.ln (slk b0 b1 b2 x.a0 x.a1 x.a2 n0 n1 n2) (legS m low high) x.a0 x.a1 x.a2 n0 n1 n2 = y at *
   obtain ⟨y1, y2, y3, y4⟩ := htk
   obtain ⟨a1, a2, a3⟩ := tadd_inv (q := [0, high - low, legS m low high, m, n0, n1, n2, n0, n1, n2]) y1 y4 (by show 0 <= high - low; omega)
   rw [<- a1] at a3
   have a1 : (tadd y.1 y.2 [0, high - low, legS m low high, m, n0, n1, n2, n0, n1, n2]).2 = y.2 + (high - low) := a1
   refine ⟨⟨by dsimp only; omega, by dsimp only; omega⟩, by dsimp only; omega, a3, hE.1, hE.2⟩
 . exact ⟨⟨h1.1, by dsimp only; omega⟩, by dsimp only; omega, h3, hE.1, hE.2⟩
theorem legJ_all {s0 s1 s2 : Int} {sg : List (List Int)} {b0 b1 b2 f t m : Int} {x : LegS} (hl : okLen sg) (hb : okB3 b0 b1 b2) (hm : m = 1 ∨ m = -1) (h : legJ sg m 0 x) : ∀ k, k <= sg.length -> legJ sg m k (legK s0 s1 s2 sg b0 b1 b2 f t m x k) := by
 intro k
 induction k with
 | zero => intro _; exact h
 | succ k ih => intro hk; exact legJ_seg hl hb hm (by omega) (ih (by omega))
end U
namespace Go.Proofs.YtneingpnkdeooaaGreat
open Go Go.HL U
attribute [local irreducible] hfun bodyT fragT
set_option maxHeartbeats 4000000 in
theorem legMain (s0 s1 s2 f t m bg n k i a0 a1 a2 z1 z2 z3 z4 z5 ln sa d0 d1 d2 : Int) (sg mk l zz pk : List (List Int)) (sta spa aca jea loa hia bla oga sga stb spb acb jeb lob hib blb ogb sgb stc spc acc jec loc hic blc ogc sgc : Int) (pta ptb ptc : List (List Int)) (K : HEx -> LV -> Prop)
 (hi : 0 <= i /\ i < sg.length) (hl : okLen sg) (hp : okPts s0 s1 s2 sg) (hb : okB3 bla blb blc) (hm : m = 1 ∨ m = -1) (hk : 0 <= k /\ k <= 1048576) (hbg : 0 <= bg /\ bg <= 4503599627370496) (hE : 0 <= legE sg m bg i /\ legE sg m bg i <= 4503599627370496)
 (J1 : 0 <= ln /\ ln <= 9007199254740992) (J2 : pk.length <= 4194304) (J3 : unitsOK pk ln)
 (fin : ∀ y : LegS, y = legSeg s0 s1 s2 sg bla blb blc f t m ⟨pk, ln, a0, a1, a2, bg⟩ i -> ∀ z : Int, z = k + 1 ->
  K .normal ([.ce (.int .i64 f), .ce (.int .i64 t), .ce (.ptr 1000005 0), .ce (.ptr 1000006 0), .ce (.ptr 1000010 0), .ce (.ptr 1000012 0), .ce (.int .i64 m), .ce (.ptr 1000014 0), .ce (.int .i64 y.bg), .ce (.sl false [4, 4, 4, 4, 4, 4, 4] l), .ce (.int .i64 n), .ce (.int .i64 z)],
  [[.int .i64 s0, .int .i64 s1, .int .i64 s2, .sl false [4, 4, 4, 4, 4, 4, 4] sg, .sl false [4, 4, 4] mk], [.int .i64 sta, .int .i64 spa, .int .i64 aca, .int .i64 jea, .int .i64 loa, .int .i64 hia, .int .i64 bla, .int .i64 oga, .int .i64 sga, .sl false [4] pta, .int .i64 stb, .int .i64 spb, .int .i64 acb, .int .i64 jeb, .int .i64 lob, .int .i64 hib, .int .i64 blb, .int .i64 ogb, .int .i64 sgb, .sl false [4] ptb, .int .i64 stc, .int .i64 spc, .int .i64 acc, .int .i64 jec, .int .i64 loc, .int .i64 hic, .int .i64 blc, .int .i64 ogc, .int .i64 sgc, .sl false [4] ptc], [.sl true [4, 4, 4, 4, 4, 4, 4, 4, 4, 4] zz, .int .i64 z1, .int .i64 z2, .int .i64 z3, .int .i64 z4, .int .i64 z5], [.mu [4, 4, 4, 4, 4, 4, 4, 4, 4, 4] y.pk, .int .i64 y.ln, .int .i64 sa, .int .i64 d0, .int .i64 d1, .int .i64 d2], [.int .i64 y.a0, .int .i64 y.a1, .int .i64 y.a2]])) :
 ((0 : Int) <= i /\ i < (((List.length sg) : Nat) : Int)) /\ ∀ (x38 : Int), x38 = ec sg (Int.toNat i) ((3 : Nat)) -> ((-9223372036854775808 : Int) <= m * x38 /\ m * x38 <= (9223372036854775807 : Int)) /\ ∀ (x39 : Int), x39 = m * x38 -> ((-9223372036854775808 : Int) <= bg + x39 /\ bg + x39 <= (9223372036854775807 : Int)) /\ ∀ (x40 : Int), x40 = bg + x39 -> ∀ (x41 : Int), x41 = min bg x40 -> ∀ (x42 : Int), x42 = min f t -> ∀ (x43 : Int), x43 = max x41 x42 -> ∀ (x44 : Int), x44 = max bg x40 -> ∀ (x45 : Int), x45 = max f t -> ∀ (x46 : Int), x46 = min x44 x45 -> (decide (x43 < x46) = true -> (((0 : Int) <= i /\ i < (((List.length sg) : Nat) : Int)) /\ (m = (1 : Int) ∨ m = (-1 : Int)) /\ okPts s0 s1 s2 sg /\ List.length sg <= (1073741824 : Nat)) /\ ∀ (x47 : Int), x47 = fc1 (bgn s0 sg (0 : Nat) i) (ec sg (Int.toNat i) (0 : Nat)) m a0 -> ∀ (x48 : Int), x48 = fc1 (bgn s1 sg (1 : Nat) i) (ec sg (Int.toNat i) (1 : Nat)) m a1 -> ∀ (x49 : Int), x49 = fc1 (bgn s2 sg (2 : Nat) i) (ec sg (Int.toNat i) (2 : Nat)) m a2 ->
 (decide (m < (0 : Int)) = true -> True /\ ∀ (x50 : Int), x50 = slk bla blb blc a0 a1 a2 x47 x48 x49 -> (decide (x50 > (0 : Int)) = true -> (((-2305843009213693952 : Int) <= x50 /\ x50 <= (2305843009213693952 : Int)) /\ ((-2305843009213693952 : Int) <= ln /\ ln <= (2305843009213693952 : Int)) /\ List.length pk <= (1000000000000 : Nat) /\ ∀ (j : Nat), j < List.length pk -> (-2305843009213693952 : Int) <= ec pk j (1 : Nat) /\ ec pk j (1 : Nat) <= (2305843009213693952 : Int)) /\ (∃ (x : List (List Int) × Int), x = tadd pk ln [(0 : Int), x50, x46, (0 : Int), a0, a1, a2, x47, x48, x49]) /\ ∀ (x : List (List Int) × Int), x = tadd pk ln [(0 : Int), x50, x46, (0 : Int), a0, a1, a2, x47, x48, x49] -> ((-9223372036854775808 : Int) <= x46 - x43 /\ x46 - x43 <= (9223372036854775807 : Int)) /\ ∀ (x53 : Int), x53 = x46 - x43 -> (((-2305843009213693952 : Int) <= x53 /\ x53 <= (2305843009213693952 : Int)) /\ ((-2305843009213693952 : Int) <= x.2 /\
 x.2 <= (2305843009213693952 : Int)) /\ List.length x.1 <= (1000000000000 : Nat) /\ ∀ (j : Nat), j < List.length x.1 -> (-2305843009213693952 : Int) <= ec x.1 j (1 : Nat) /\ ec x.1 j (1 : Nat) <= (2305843009213693952 : Int)) /\ (∃ (x_1 : List (List Int) × Int), x_1 = tadd x.1 x.2 [(0 : Int), x53, x46, m, x47, x48, x49, x47, x48, x49]) /\ ∀ (x_1 : List (List Int) × Int), x_1 = tadd x.1 x.2 [(0 : Int), x53, x46, m, x47, x48, x49, x47, x48, x49] -> ((-9223372036854775808 : Int) <= k + (1 : Int) /\ k + (1 : Int) <= (9223372036854775807 : Int)) /\ ∀ (x56 : Int), x56 = k + (1 : Int) -> K HEx.normal ([HV.ce (HC.int IntKind.i64 f), HV.ce (HC.int IntKind.i64 t), HV.ce (HC.ptr (1000005 : Nat) (0 : Nat)), HV.ce (HC.ptr (1000006 : Nat) (0 : Nat)), HV.ce (HC.ptr (1000010 : Nat) (0 : Nat)), HV.ce (HC.ptr (1000012 : Nat) (0 : Nat)), HV.ce (HC.int IntKind.i64 m), HV.ce (HC.ptr (1000014 : Nat) (0 : Nat)), HV.ce (HC.int IntKind.i64 x40), HV.ce (HC.sl false [(4 : Nat), (4 : Nat), (4 : Nat), (4 : Nat), (4 : Nat), (4 : Nat), (4 : Nat)] l), HV.ce (HC.int IntKind.i64 n), HV.ce (HC.int IntKind.i64 x56)], [[HC.int IntKind.i64 s0, HC.int IntKind.i64 s1, HC.int IntKind.i64 s2, HC.sl false [(4 : Nat), (4 : Nat), (4 : Nat), (4 : Nat), (4 : Nat), (4 : Nat), (4 : Nat)] sg, HC.sl false [(4 : Nat), (4 : Nat), (4 : Nat)] mk], [HC.int IntKind.i64 sta, HC.int IntKind.i64 spa, HC.int IntKind.i64 aca, HC.int IntKind.i64 jea, HC.int IntKind.i64 loa, HC.int IntKind.i64 hia, HC.int IntKind.i64 bla, HC.int IntKind.i64 oga, HC.int IntKind.i64 sga, HC.sl false [(4 : Nat)] pta, HC.int IntKind.i64 stb, HC.int IntKind.i64 spb, HC.int IntKind.i64 acb, HC.int IntKind.i64 jeb, HC.int IntKind.i64 lob, HC.int IntKind.i64 hib, HC.int IntKind.i64 blb, HC.int IntKind.i64 ogb, HC.int IntKind.i64 sgb, HC.sl false [(4 : Nat)] ptb, HC.int IntKind.i64 stc, HC.int IntKind.i64 spc, HC.int IntKind.i64 acc, HC.int IntKind.i64 jec, HC.int IntKind.i64 loc, HC.int IntKind.i64 hic, HC.int IntKind.i64 blc, HC.int IntKind.i64 ogc, HC.int IntKind.i64 sgc, HC.sl false [(4 : Nat)] ptc], [HC.sl true [(4 : Nat), (4 : Nat), (4 : Nat), (4 : Nat), (4 : Nat), (4 : Nat), (4 : Nat), (4 : Nat), (4 : Nat), (4 : Nat)] zz, HC.int IntKind.i64 z1, HC.int IntKind.i64 z2, HC.int IntKind.i64 z3, HC.int IntKind.i64 z4, HC.int IntKind.i64 z5], [HC.mu [(4 : Nat), (4 : Nat), (4 : Nat), (4 : Nat), (4 : Nat), (4 : Nat), (4 : Nat), (4 : Nat), (4 : Nat), (4 : Nat)] x_1.1, HC.int IntKind.i64 x_1.2, HC.int IntKind.i64 sa, HC.int IntKind.i64 d0, HC.int IntKind.i64 d1, HC.int IntKind.i64 d2], [HC.int IntKind.i64 x47, HC.int IntKind.i64 x48, HC.int IntKind.i64 x49]])) /\
 (decide (x50 > (0 : Int)) = false -> ((-9223372036854775808 : Int) <= x46 - x43 /\ x46 - x43 <= (9223372036854775807 : Int)) /\ ∀ (x57 : Int), x57 = x46 - x43 -> (((-2305843009213693952 : Int) <= x57 /\ x57 <= (2305843009213693952 : Int)) /\ ((-2305843009213693952 : Int) <= ln /\ ln <= (2305843009213693952 : Int)) /\ List.length pk <= (1000000000000 : Nat) /\ ∀ (j : Nat), j < List.length pk -> (-2305843009213693952 : Int) <= ec pk j (1 : Nat) /\ ec pk j (1 : Nat) <= (2305843009213693952 : Int)) /\ (∃ (x : List (List Int) × Int), x = tadd pk ln [(0 : Int), x57, x46, m, x47, x48, x49, x47, x48, x49]) /\ ∀ (x : List (List Int) × Int), x = tadd pk ln [(0 : Int), x57, x46, m, x47, x48, x49, x47, x48, x49] -> ((-9223372036854775808 : Int) <= k + (1 : Int) /\ k + (1 : Int) <= (9223372036854775807 : Int)) /\ ∀ (x60 : Int), x60 = k + (1 : Int) -> K HEx.normal ([HV.ce (HC.int IntKind.i64 f), HV.ce (HC.int IntKind.i64 t), HV.ce (HC.ptr (1000005 : Nat) (0 : Nat)), HV.ce (HC.ptr (1000006 : Nat) (0 : Nat)), HV.ce (HC.ptr (1000010 : Nat) (0 : Nat)), HV.ce (HC.ptr (1000012 : Nat) (0 : Nat)), HV.ce (HC.int IntKind.i64 m), HV.ce (HC.ptr (1000014 : Nat) (0 : Nat)), HV.ce (HC.int IntKind.i64 x40), HV.ce (HC.sl false [(4 : Nat), (4 : Nat), (4 : Nat), (4 : Nat), (4 : Nat), (4 : Nat), (4 : Nat)] l), HV.ce (HC.int IntKind.i64 n), HV.ce (HC.int IntKind.i64 x60)], [[HC.int IntKind.i64 s0, HC.int IntKind.i64 s1, HC.int IntKind.i64 s2, HC.sl false [(4 : Nat), (4 : Nat), (4 : Nat), (4 : Nat), (4 : Nat), (4 : Nat), (4 : Nat)] sg, HC.sl false [(4 : Nat), (4 : Nat), (4 : Nat)] mk], [HC.int IntKind.i64 sta, HC.int IntKind.i64 spa, HC.int IntKind.i64 aca, HC.int IntKind.i64 jea, HC.int IntKind.i64 loa, HC.int IntKind.i64 hia, HC.int IntKind.i64 bla, HC.int IntKind.i64 oga, HC.int IntKind.i64 sga, HC.sl false [(4 : Nat)] pta, HC.int IntKind.i64 stb, HC.int IntKind.i64 spb, HC.int IntKind.i64 acb, HC.int IntKind.i64 jeb, HC.int IntKind.i64 lob, HC.int IntKind.i64 hib, HC.int IntKind.i64 blb, HC.int IntKind.i64 ogb, HC.int IntKind.i64 sgb, HC.sl false [(4 : Nat)] ptb, HC.int IntKind.i64 stc, HC.int IntKind.i64 spc, HC.int IntKind.i64 acc, HC.int IntKind.i64 jec, HC.int IntKind.i64 loc, HC.int IntKind.i64 hic, HC.int IntKind.i64 blc, HC.int IntKind.i64 ogc, HC.int IntKind.i64 sgc, HC.sl false [(4 : Nat)] ptc], [HC.sl true [(4 : Nat), (4 : Nat), (4 : Nat), (4 : Nat), (4 : Nat), (4 : Nat), (4 : Nat), (4 : Nat), (4 : Nat), (4 : Nat)] zz, HC.int IntKind.i64 z1, HC.int IntKind.i64 z2, HC.int IntKind.i64 z3, HC.int IntKind.i64 z4, HC.int IntKind.i64 z5], [HC.mu [(4 : Nat), (4 : Nat), (4 : Nat), (4 : Nat), (4 : Nat), (4 : Nat), (4 : Nat), (4 : Nat), (4 : Nat), (4 : Nat)] x.1, HC.int IntKind.i64 x.2, HC.int IntKind.i64 sa, HC.int IntKind.i64 d0, HC.int IntKind.i64 d1, HC.int IntKind.i64 d2], [HC.int IntKind.i64 x47, HC.int IntKind.i64 x48, HC.int IntKind.i64 x49]]))) /\
 (decide (m < (0 : Int)) = false -> True /\ ∀ (x61 : Int), x61 = slk bla blb blc a0 a1 a2 x47 x48 x49 -> (decide (x61 > (0 : Int)) = true -> (((-2305843009213693952 : Int) <= x61 /\ x61 <= (2305843009213693952 : Int)) /\ ((-2305843009213693952 : Int) <= ln /\ ln <= (2305843009213693952 : Int)) /\ List.length pk <= (1000000000000 : Nat) /\ ∀ (j : Nat), j < List.length pk -> (-2305843009213693952 : Int) <= ec pk j (1 : Nat) /\ ec pk j (1 : Nat) <= (2305843009213693952 : Int)) /\ (∃ (x : List (List Int) × Int), x = tadd pk ln [(0 : Int), x61, x43, (0 : Int), a0, a1, a2, x47, x48, x49]) /\ ∀ (x : List (List Int) × Int), x = tadd pk ln [(0 : Int), x61, x43, (0 : Int), a0, a1, a2, x47, x48, x49] -> ((-9223372036854775808 : Int) <= x46 - x43 /\ x46 - x43 <= (9223372036854775807 : Int)) /\ ∀ (x64 : Int), x64 = x46 - x43 -> (((-2305843009213693952 : Int) <= x64 /\ x64 <= (2305843009213693952 : Int)) /\ ((-2305843009213693952 : Int) <= x.2 /\
 x.2 <= (2305843009213693952 : Int)) /\ List.length x.1 <= (1000000000000 : Nat) /\ ∀ (j : Nat), j < List.length x.1 -> (-2305843009213693952 : Int) <= ec x.1 j (1 : Nat) /\ ec x.1 j (1 : Nat) <= (2305843009213693952 : Int)) /\ (∃ (x_1 : List (List Int) × Int), x_1 = tadd x.1 x.2 [(0 : Int), x64, x43, m, x47, x48, x49, x47, x48, x49]) /\ ∀ (x_1 : List (List Int) × Int), x_1 = tadd x.1 x.2 [(0 : Int), x64, x43, m, x47, x48, x49, x47, x48, x49] -> ((-9223372036854775808 : Int) <= k + (1 : Int) /\ k + (1 : Int) <= (9223372036854775807 : Int)) /\ ∀ (x67 : Int), x67 = k + (1 : Int) -> K HEx.normal ([HV.ce (HC.int IntKind.i64 f), HV.ce (HC.int IntKind.i64 t), HV.ce (HC.ptr (1000005 : Nat) (0 : Nat)), HV.ce (HC.ptr (1000006 : Nat) (0 : Nat)), HV.ce (HC.ptr (1000010 : Nat) (0 : Nat)), HV.ce (HC.ptr (1000012 : Nat) (0 : Nat)), HV.ce (HC.int IntKind.i64 m), HV.ce (HC.ptr (1000014 : Nat) (0 : Nat)), HV.ce (HC.int IntKind.i64 x40), HV.ce (HC.sl false [(4 : Nat), (4 : Nat), (4 : Nat), (4 : Nat), (4 : Nat), (4 : Nat), (4 : Nat)] l), HV.ce (HC.int IntKind.i64 n), HV.ce (HC.int IntKind.i64 x67)], [[HC.int IntKind.i64 s0, HC.int IntKind.i64 s1, HC.int IntKind.i64 s2, HC.sl false [(4 : Nat), (4 : Nat), (4 : Nat), (4 : Nat), (4 : Nat), (4 : Nat), (4 : Nat)] sg, HC.sl false [(4 : Nat), (4 : Nat), (4 : Nat)] mk], [HC.int IntKind.i64 sta, HC.int IntKind.i64 spa, HC.int IntKind.i64 aca, HC.int IntKind.i64 jea, HC.int IntKind.i64 loa, HC.int IntKind.i64 hia, HC.int IntKind.i64 bla, HC.int IntKind.i64 oga, HC.int IntKind.i64 sga, HC.sl false [(4 : Nat)] pta, HC.int IntKind.i64 stb, HC.int IntKind.i64 spb, HC.int IntKind.i64 acb, HC.int IntKind.i64 jeb, HC.int IntKind.i64 lob, HC.int IntKind.i64 hib, HC.int IntKind.i64 blb, HC.int IntKind.i64 ogb, HC.int IntKind.i64 sgb, HC.sl false [(4 : Nat)] ptb, HC.int IntKind.i64 stc, HC.int IntKind.i64 spc, HC.int IntKind.i64 acc, HC.int IntKind.i64 jec, HC.int IntKind.i64 loc, HC.int IntKind.i64 hic, HC.int IntKind.i64 blc, HC.int IntKind.i64 ogc, HC.int IntKind.i64 sgc, HC.sl false [(4 : Nat)] ptc], [HC.sl true [(4 : Nat), (4 : Nat), (4 : Nat), (4 : Nat), (4 : Nat), (4 : Nat), (4 : Nat), (4 : Nat), (4 : Nat), (4 : Nat)] zz, HC.int IntKind.i64 z1, HC.int IntKind.i64 z2, HC.int IntKind.i64 z3, HC.int IntKind.i64 z4, HC.int IntKind.i64 z5], [HC.mu [(4 : Nat), (4 : Nat), (4 : Nat), (4 : Nat), (4 : Nat), (4 : Nat), (4 : Nat), (4 : Nat), (4 : Nat), (4 : Nat)] x_1.1, HC.int IntKind.i64 x_1.2, HC.int IntKind.i64 sa, HC.int IntKind.i64 d0, HC.int IntKind.i64 d1, HC.int IntKind.i64 d2], [HC.int IntKind.i64 x47, HC.int IntKind.i64 x48, HC.int IntKind.i64 x49]])) /\
 (decide (x61 > (0 : Int)) = false -> ((-9223372036854775808 : Int) <= x46 - x43 /\ x46 - x43 <= (9223372036854775807 : Int)) /\ ∀ (x68 : Int), x68 = x46 - x43 -> (((-2305843009213693952 : Int) <= x68 /\ x68 <= (2305843009213693952 : Int)) /\ ((-2305843009213693952 : Int) <= ln /\ ln <= (2305843009213693952 : Int)) /\ List.length pk <= (1000000000000 : Nat) /\ ∀ (j : Nat), j < List.length pk -> (-2305843009213693952 : Int) <= ec pk j (1 : Nat) /\ ec pk j (1 : Nat) <= (2305843009213693952 : Int)) /\ (∃ (x : List (List Int) × Int), x = tadd pk ln [(0 : Int), x68, x43, m, x47, x48, x49, x47, x48, x49]) /\ ∀ (x : List (List Int) × Int), x = tadd pk ln [(0 : Int), x68, x43, m, x47, x48, x49, x47, x48, x49] -> ((-9223372036854775808 : Int) <= k + (1 : Int) /\ k + (1 : Int) <= (9223372036854775807 : Int)) /\ ∀ (x71 : Int), x71 = k + (1 : Int) -> K HEx.normal ([HV.ce (HC.int IntKind.i64 f), HV.ce (HC.int IntKind.i64 t), HV.ce (HC.ptr (1000005 : Nat) (0 : Nat)), HV.ce (HC.ptr (1000006 : Nat) (0 : Nat)), HV.ce (HC.ptr (1000010 : Nat) (0 : Nat)), HV.ce (HC.ptr (1000012 : Nat) (0 : Nat)), HV.ce (HC.int IntKind.i64 m), HV.ce (HC.ptr (1000014 : Nat) (0 : Nat)), HV.ce (HC.int IntKind.i64 x40), HV.ce (HC.sl false [(4 : Nat), (4 : Nat), (4 : Nat), (4 : Nat), (4 : Nat), (4 : Nat), (4 : Nat)] l), HV.ce (HC.int IntKind.i64 n), HV.ce (HC.int IntKind.i64 x71)], [[HC.int IntKind.i64 s0, HC.int IntKind.i64 s1, HC.int IntKind.i64 s2, HC.sl false [(4 : Nat), (4 : Nat), (4 : Nat), (4 : Nat), (4 : Nat), (4 : Nat), (4 : Nat)] sg, HC.sl false [(4 : Nat), (4 : Nat), (4 : Nat)] mk], [HC.int IntKind.i64 sta, HC.int IntKind.i64 spa, HC.int IntKind.i64 aca, HC.int IntKind.i64 jea, HC.int IntKind.i64 loa, HC.int IntKind.i64 hia, HC.int IntKind.i64 bla, HC.int IntKind.i64 oga, HC.int IntKind.i64 sga, HC.sl false [(4 : Nat)] pta, HC.int IntKind.i64 stb, HC.int IntKind.i64 spb, HC.int IntKind.i64 acb, HC.int IntKind.i64 jeb, HC.int IntKind.i64 lob, HC.int IntKind.i64 hib, HC.int IntKind.i64 blb, HC.int IntKind.i64 ogb, HC.int IntKind.i64 sgb, HC.sl false [(4 : Nat)] ptb, HC.int IntKind.i64 stc, HC.int IntKind.i64 spc, HC.int IntKind.i64 acc, HC.int IntKind.i64 jec, HC.int IntKind.i64 loc, HC.int IntKind.i64 hic, HC.int IntKind.i64 blc, HC.int IntKind.i64 ogc, HC.int IntKind.i64 sgc, HC.sl false [(4 : Nat)] ptc], [HC.sl true [(4 : Nat), (4 : Nat), (4 : Nat), (4 : Nat), (4 : Nat), (4 : Nat), (4 : Nat), (4 : Nat), (4 : Nat), (4 : Nat)] zz, HC.int IntKind.i64 z1, HC.int IntKind.i64 z2, HC.int IntKind.i64 z3, HC.int IntKind.i64 z4, HC.int IntKind.i64 z5], [HC.mu [(4 : Nat), (4 : Nat), (4 : Nat), (4 : Nat), (4 : Nat), (4 : Nat), (4 : Nat), (4 : Nat), (4 : Nat), (4 : Nat)] x.1, HC.int IntKind.i64 x.2, HC.int IntKind.i64 sa, HC.int IntKind.i64 d0, HC.int IntKind.i64 d1, HC.int IntKind.i64 d2], [HC.int IntKind.i64 x47, HC.int IntKind.i64 x48, HC.int IntKind.i64 x49]])))) /\
 (decide (x43 < x46) = false -> ((-9223372036854775808 : Int) <= k + (1 : Int) /\ k + (1 : Int) <= (9223372036854775807 : Int)) /\ ∀ (x72 : Int), x72 = k + (1 : Int) -> K HEx.normal ([HV.ce (HC.int IntKind.i64 f), HV.ce (HC.int IntKind.i64 t), HV.ce (HC.ptr (1000005 : Nat) (0 : Nat)), HV.ce (HC.ptr (1000006 : Nat) (0 : Nat)), HV.ce (HC.ptr (1000010 : Nat) (0 : Nat)), HV.ce (HC.ptr (1000012 : Nat) (0 : Nat)), HV.ce (HC.int IntKind.i64 m), HV.ce (HC.ptr (1000014 : Nat) (0 : Nat)), HV.ce (HC.int IntKind.i64 x40), HV.ce (HC.sl false [(4 : Nat), (4 : Nat), (4 : Nat), (4 : Nat), (4 : Nat), (4 : Nat), (4 : Nat)] l), HV.ce (HC.int IntKind.i64 n), HV.ce (HC.int IntKind.i64 x72)], [[HC.int IntKind.i64 s0, HC.int IntKind.i64 s1, HC.int IntKind.i64 s2, HC.sl false [(4 : Nat), (4 : Nat), (4 : Nat), (4 : Nat), (4 : Nat), (4 : Nat), (4 : Nat)] sg, HC.sl false [(4 : Nat), (4 : Nat), (4 : Nat)] mk], [HC.int IntKind.i64 sta, HC.int IntKind.i64 spa, HC.int IntKind.i64 aca, HC.int IntKind.i64 jea, HC.int IntKind.i64 loa, HC.int IntKind.i64 hia, HC.int IntKind.i64 bla, HC.int IntKind.i64 oga, HC.int IntKind.i64 sga, HC.sl false [(4 : Nat)] pta, HC.int IntKind.i64 stb, HC.int IntKind.i64 spb, HC.int IntKind.i64 acb, HC.int IntKind.i64 jeb, HC.int IntKind.i64 lob, HC.int IntKind.i64 hib, HC.int IntKind.i64 blb, HC.int IntKind.i64 ogb, HC.int IntKind.i64 sgb, HC.sl false [(4 : Nat)] ptb, HC.int IntKind.i64 stc, HC.int IntKind.i64 spc, HC.int IntKind.i64 acc, HC.int IntKind.i64 jec, HC.int IntKind.i64 loc, HC.int IntKind.i64 hic, HC.int IntKind.i64 blc, HC.int IntKind.i64 ogc, HC.int IntKind.i64 sgc, HC.sl false [(4 : Nat)] ptc], [HC.sl true [(4 : Nat), (4 : Nat), (4 : Nat), (4 : Nat), (4 : Nat), (4 : Nat), (4 : Nat), (4 : Nat), (4 : Nat), (4 : Nat)] zz, HC.int IntKind.i64 z1, HC.int IntKind.i64 z2, HC.int IntKind.i64 z3, HC.int IntKind.i64 z4, HC.int IntKind.i64 z5], [HC.mu [(4 : Nat), (4 : Nat), (4 : Nat), (4 : Nat), (4 : Nat), (4 : Nat), (4 : Nat), (4 : Nat), (4 : Nat), (4 : Nat)] pk, HC.int IntKind.i64 ln, HC.int IntKind.i64 sa, HC.int IntKind.i64 d0, HC.int IntKind.i64 d1, HC.int IntKind.i64 d2], [HC.int IntKind.i64 a0, HC.int IntKind.i64 a1, HC.int IntKind.i64 a2]])) := by
 have hlen := hl.2 i.toNat (by omega)
 have hl1 := hl.1
 have units : ∀ (p : List (List Int)) (c : Int), unitsOK p c -> c <= 2305843009213693952 -> ∀ j, j < p.length -> -2305843009213693952 <= ec p j 1 /\ ec p j 1 <= 2305843009213693952 := fun p c hu hc j hj => by
  have := hu j hj; omega
 have hd : legHigh bg (legE sg m bg i) f t - legLow bg (legE sg m bg i) f t <= 4294967296 := by
  unfold legHigh legLow legE
  rcases hm with rfl | rfl <;> omega
 have hmul : -4294967296 <= m * ec sg i.toNat 3 /\ m * ec sg i.toNat 3 <= 4294967296 := by rcases hm with rfl | rfl <;> omega
 unfold legE at hE
 refine ⟨hi, ?_⟩
 rintro _ rfl
 refine ⟨by omega, ?_⟩
 rintro _ rfl
 refine ⟨by omega, ?_⟩
 intro e he _ rfl _ rfl low hlow _ rfl _ rfl high hhigh
 have heE : legE sg m bg i = e := he.symm
 have hlowE : legLow bg (legE sg m bg i) f t = low := by rw [heE]; exact hlow.symm
 have hhighE : legHigh bg (legE sg m bg i) f t = high := by rw [heE]; exact hhigh.symm
 unfold legSeg at fin
 rw [hlowE, hhighE, heE] at fin
 rw [hlowE, hhighE] at hd
 unfold legPut at fin
 refine ⟨fun gl => ?_, fun gl => ⟨by omega, fun z ez => ?_⟩⟩
 . have gl := of_decide_eq_true gl
   rw [if_pos gl] at fin
   refine ⟨⟨hi, hm, hp, by omega⟩, fun n0 h0 n1 h1 n2 h2 => ?_⟩
   rw [<- h0, <- h1, <- h2] at fin
   dsimp only at fin
   have hs := slk_bd hb a0 a1 a2 n0 n1 n2
   refine ⟨fun gm => ⟨trivial, fun u hu => ?_⟩, fun gm => ⟨trivial, fun u hu => ?_⟩⟩
   . have gm := of_decide_eq_true gm
     unfold legS at fin
     rw [if_pos gm] at fin
     rw [<- hu] at fin hs
     unfold legTk at fin
     refine ⟨fun gu => ?_, fun gu => ?_⟩
     . rw [if_pos (of_decide_eq_true gu)] at fin
       refine ⟨⟨by omega, by omega, by omega, units _ _ J3 (by omega)⟩, ⟨_, rfl⟩, fun y ey => ⟨by omega, fun d ed => ?_⟩⟩
       obtain ⟨c1, c2, c3⟩ := tadd_inv (q := [0, u, high, 0, a0, a1, a2, n0, n1, n2]) J1.1 J3 hs.1
       have c1 : (tadd pk ln [0, u, high, 0, a0, a1, a2, n0, n1, n2]).2 = ln + u := c1
       have c3 : unitsOK (tadd pk ln [0, u, high, 0, a0, a1, a2, n0, n1, n2]).1 (ln + u) := c3
       rw [<- ey] at c1 c2 c3 fin
       rw [<- ed] at fin
       refine ⟨⟨by omega, by omega, by omega, units _ _ c3 (by omega)⟩, ⟨_, rfl⟩, fun w ew => ⟨by omega, fun z ez => ?_⟩⟩
       rw [<- ew] at fin
       exact fin _ rfl z ez
     . rw [if_neg (of_decide_eq_false gu)] at fin
       refine ⟨by omega, fun d ed => ⟨⟨by omega, by omega, by omega, units _ _ J3 (by omega)⟩, ⟨_, rfl⟩, fun w ew => ⟨by omega, fun z ez => ?_⟩⟩⟩
       rw [<- ed] at fin
       dsimp only at fin
       rw [<- ew] at fin
       exact fin _ rfl z ez
   . have gm := of_decide_eq_false gm
     unfold legS at fin
     rw [if_neg gm] at fin
     rw [<- hu] at fin hs
     unfold legTk at fin
     refine ⟨fun gu => ?_, fun gu => ?_⟩
     . rw [if_pos (of_decide_eq_true gu)] at fin
       refine ⟨⟨by omega, by omega, by omega, units _ _ J3 (by omega)⟩, ⟨_, rfl⟩, fun y ey => ⟨by omega, fun d ed => ?_⟩⟩
       obtain ⟨c1, c2, c3⟩ := tadd_inv (q := [0, u, low, 0, a0, a1, a2, n0, n1, n2]) J1.1 J3 hs.1
       have c1 : (tadd pk ln [0, u, low, 0, a0, a1, a2, n0, n1, n2]).2 = ln + u := c1
       have c3 : unitsOK (tadd pk ln [0, u, low, 0, a0, a1, a2, n0, n1, n2]).1 (ln + u) := c3
       rw [<- ey] at c1 c2 c3 fin
       rw [<- ed] at fin
       refine ⟨⟨by omega, by omega, by omega, units _ _ c3 (by omega)⟩, ⟨_, rfl⟩, fun w ew => ⟨by omega, fun z ez => ?_⟩⟩
       rw [<- ew] at fin
       exact fin _ rfl z ez
     . rw [if_neg (of_decide_eq_false gu)] at fin
       refine ⟨by omega, fun d ed => ⟨⟨by omega, by omega, by omega, units _ _ J3 (by omega)⟩, ⟨_, rfl⟩, fun w ew => ⟨by omega, fun z ez => ?_⟩⟩⟩
       rw [<- ed] at fin
       dsimp only at fin
       rw [<- ew] at fin
       exact fin _ rfl z ez
 . rw [if_neg (of_decide_eq_false gl)] at fin
   exact fin _ rfl z ez
set_option maxHeartbeats 4000000 in
theorem loopLeg : ∀ v Q, (LLeg v).wp Q -> hloop CLeg anLeg (nthLoop Tryz.f34 0) v Q := by
 intro v Q h
 unfold LLeg at h
 split at h
 case h_2 => exact h.elim
 rename_i f t m bg l n k s0 s1 s2 sg mk ax bz bt a0 a1 a2
 split at h
 case h_2 => exact h.elim
 rename_i sta spa aca jea loa hia bla oga sga pta stb spb acb jeb lob hib blb ogb sgb ptb stc spc acc jec loc hic blc ogc sgc ptc
 split at h
 case h_2 => exact h.elim
 rename_i zz z1 z2 z3 z4 z5 pk ln sa d0 d1 d2
 obtain ⟨⟨hn, hk0, hls, hm, hf, ht, hpk, hln, hl, hp, hb⟩, hq⟩ := h
 subst hn hk0 hls hln
 obtain rfl : pk = [] := List.eq_nil_of_length_eq_zero hpk
 have hm2 : m = 1 ∨ m = -1 := by rcases hm with h | h; exact .inl h.1; exact .inr h.1
 have j0 : legJ l m 0 ⟨[], 0, a0, a1, a2, bg⟩ := by
  refine ⟨⟨Int.le_refl _, by dsimp only; omega⟩, by simp, fun j hj => by simp at hj, fun e => ?_, fun e => ?_⟩
  . rcases hm with h | h
    . rw [h.2]; rfl
    . omega
  . rcases hm with h | h
    . omega
    . rw [h.2]; simp
 have hJ := legJ_all (s0 := s0) (s1 := s1) (s2 := s2) (f := f) (t := t) hl hb hm2 j0
 refine hloop_rec (σ := LegS × Nat)
  (fun s => ([.ce (.int .i64 f), .ce (.int .i64 t), .ce (.ptr 1000005 0), .ce (.ptr 1000006 0), .ce (.ptr 1000010 0), .ce (.ptr 1000012 0), .ce (.int .i64 m), .ce (.ptr 1000014 0), .ce (.int .i64 s.1.bg), .ce (.sl false [4, 4, 4, 4, 4, 4, 4] l), .ce (.int .i64 (l.length : Int)), .ce (.int .i64 (s.2 : Int))],
   [[.int .i64 s0, .int .i64 s1, .int .i64 s2, .sl false [4, 4, 4, 4, 4, 4, 4] l, .sl false [4, 4, 4] mk], [.int .i64 sta, .int .i64 spa, .int .i64 aca, .int .i64 jea, .int .i64 loa, .int .i64 hia, .int .i64 bla, .int .i64 oga, .int .i64 sga, .sl false [4] pta, .int .i64 stb, .int .i64 spb, .int .i64 acb, .int .i64 jeb, .int .i64 lob, .int .i64 hib, .int .i64 blb, .int .i64 ogb, .int .i64 sgb, .sl false [4] ptb, .int .i64 stc, .int .i64 spc, .int .i64 acc, .int .i64 jec, .int .i64 loc, .int .i64 hic, .int .i64 blc, .int .i64 ogc, .int .i64 sgc, .sl false [4] ptc], [.sl true [4, 4, 4, 4, 4, 4, 4, 4, 4, 4] zz, .int .i64 z1, .int .i64 z2, .int .i64 z3, .int .i64 z4, .int .i64 z5], [.mu [4, 4, 4, 4, 4, 4, 4, 4, 4, 4] s.1.pk, .int .i64 s.1.ln, .int .i64 sa, .int .i64 d0, .int .i64 d1, .int .i64 d2], [.int .i64 s.1.a0, .int .i64 s.1.a1, .int .i64 s.1.a2]]))
  (fun s => l.length - s.2)
  (fun s => s.2 <= l.length /\ s.1 = legK s0 s1 s2 l bla blb blc f t m ⟨[], 0, a0, a1, a2, bg⟩ s.2)
  ?_ (⟨[], 0, a0, a1, a2, bg⟩, 0) ⟨Nat.zero_le _, rfl⟩
 rintro ⟨x, k⟩ ⟨hk, he⟩ K hn hx _
 dsimp only at hk he hn ⊢
 have J := hJ k hk
 rw [<- he] at J
 have hl1 := hl.1
 have hpl := plen_le hl
 refine byVB (vbLeg s0 s1 s2 f t m x.bg l.length k x.a0 x.a1 x.a2 z1 z2 z3 z4 z5 x.ln sa d0 d1 d2 l mk l zz x.pk sta spa aca jea loa hia bla oga sga stb spb acb jeb lob hib blb ogb sgb stc spc acc jec loc hic blc ogc sgc pta ptb ptc K) ⟨fun g => ?_, fun g => ?_⟩
 . have g := of_decide_eq_true g
   have hkl : k < l.length := by omega
   obtain ⟨J1, J2, J3, J4, J5⟩ := J
   have fin : ∀ y : LegS, y = legStep s0 s1 s2 l bla blb blc f t m x k -> ∀ z : Int, z = (k : Int) + 1 ->
    K .normal ([.ce (.int .i64 f), .ce (.int .i64 t), .ce (.ptr 1000005 0), .ce (.ptr 1000006 0), .ce (.ptr 1000010 0), .ce (.ptr 1000012 0), .ce (.int .i64 m), .ce (.ptr 1000014 0), .ce (.int .i64 y.bg), .ce (.sl false [4, 4, 4, 4, 4, 4, 4] l), .ce (.int .i64 (l.length : Int)), .ce (.int .i64 z)],
    [[.int .i64 s0, .int .i64 s1, .int .i64 s2, .sl false [4, 4, 4, 4, 4, 4, 4] l, .sl false [4, 4, 4] mk], [.int .i64 sta, .int .i64 spa, .int .i64 aca, .int .i64 jea, .int .i64 loa, .int .i64 hia, .int .i64 bla, .int .i64 oga, .int .i64 sga, .sl false [4] pta, .int .i64 stb, .int .i64 spb, .int .i64 acb, .int .i64 jeb, .int .i64 lob, .int .i64 hib, .int .i64 blb, .int .i64 ogb, .int .i64 sgb, .sl false [4] ptb, .int .i64 stc, .int .i64 spc, .int .i64 acc, .int .i64 jec, .int .i64 loc, .int .i64 hic, .int .i64 blc, .int .i64 ogc, .int .i64 sgc, .sl false [4] ptc], [.sl true [4, 4, 4, 4, 4, 4, 4, 4, 4, 4] zz, .int .i64 z1, .int .i64 z2, .int .i64 z3, .int .i64 z4, .int .i64 z5], [.mu [4, 4, 4, 4, 4, 4, 4, 4, 4, 4] y.pk, .int .i64 y.ln, .int .i64 sa, .int .i64 d0, .int .i64 d1, .int .i64 d2], [.int .i64 y.a0, .int .i64 y.a1, .int .i64 y.a2]]) := by
    intro y ey z ez
    have := hn (y, k + 1) ⟨hkl, by rw [ey, he]; rfl⟩ (by dsimp only; omega)
    rw [ez]
    exact this
   have hEn := legE_next (m := m) hkl J4 J5
   have hbd : ∀ q, 0 <= plen (l.take q) /\ plen (l.take q) <= 4503599627370496 := fun q => by
    have := plen_le (l := l.take q) ⟨by rw [List.length_take]; omega, fun j hj => by
     rw [List.length_take] at hj
     have := hl.2 j (by omega)
     unfold ec at this ⊢
     simp only [List.getD_eq_getElem?_getD, List.getElem?_take] at this ⊢
     rw [if_pos (by omega)]
     exact this⟩
    exact this
   have hbg : 0 <= x.bg /\ x.bg <= 4503599627370496 := by
    rcases hm2 with e | e
    . rw [J4 e]; exact hbd _
    . rw [J5 e]; exact hbd _
   have hE : 0 <= legE l m x.bg (legI l.length m k) /\ legE l m x.bg (legI l.length m k) <= 4503599627370496 := by
    rcases hm2 with e | e
    . rw [hEn.1 e]; exact hbd _
    . rw [hEn.2 e]; exact hbd _
   have hi := legI_bd (m := m) hkl
   have hkk : (k : Int) <= 1048576 := by omega
   refine ⟨fun gm => ⟨by omega, fun x1 e1 => ⟨by omega, fun x2 e2 => ?_⟩⟩, fun gm => ?_⟩
   . have hx2 : legI l.length m k = x2 := by unfold legI; rw [if_pos (of_decide_eq_true gm), e2, e1]
     have fin2 := fin
     unfold legStep at fin2
     rw [hx2] at fin2 hE hi
     exact legMain s0 s1 s2 f t m x.bg l.length k x2 x.a0 x.a1 x.a2 z1 z2 z3 z4 z5 x.ln sa d0 d1 d2 l mk l zz x.pk sta spa aca jea loa hia bla oga sga stb spb acb jeb lob hib blb ogb sgb stc spc acc jec loc hic blc ogc sgc pta ptb ptc K hi hl hp hb hm2 (by omega) hbg hE (by omega) (by omega) J3 fin2
   . have hx2 : legI l.length m k = (k : Int) := by unfold legI; rw [if_neg (of_decide_eq_false gm)]
     have fin2 := fin
     unfold legStep at fin2
     rw [hx2] at fin2 hE hi
     exact legMain s0 s1 s2 f t m x.bg l.length k k x.a0 x.a1 x.a2 z1 z2 z3 z4 z5 x.ln sa d0 d1 d2 l mk l zz x.pk sta spa aca jea loa hia bla oga sga stb spb acb jeb lob hib blb ogb sgb stc spc acc jec loc hic blc ogc sgc pta ptb ptc K hi hl hp hb hm2 (by omega) hbg hE (by omega) (by omega) J3 fin2
 . have g := of_decide_eq_false g
   have hkl : k = l.length := by omega
   exact hx 0 _ (hq x (by rw [he, hkl]))
theorem sLeg : Sound Tryz.prog 34 SLeg := by
 refine sound_of (C := CLeg) tabLeg Tryz.func34 (by kernel_rfl) (by decide +kernel) (by kernel_rfl) rfl ⟨sPLen, sFacing, sSlack, sAdd, trivial⟩ (loops1 (by kernel_rfl) (loopOK_of (an := anLeg) (S := LLeg) (by kernel_rfl) loopLeg)) ?_
 intro hA pA R h
 unfold SLeg at h
 split at h
 case h_2 => exfalso; exact h
 rename_i s0 s1 s2 sg mk ax d0 d1 d2 f t
 split at h
 case h_2 => exact h.elim
 rename_i sta spa aca jea loa hia bla oga sga pta stb spb acb jeb lob hib blb ogb sgb ptb stc spc acc jec loc hic blc ogc sgc ptc
 obtain ⟨⟨hl, hp, hb⟩, _, hq⟩ := h
 have hpl := plen_le hl
 refine byVC (vcLeg s0 s1 s2 f t d0 d1 d2 sg mk sta spa aca jea loa hia bla oga sga stb spb acb jeb lob hib blb ogb sgb stc spc acc jec loc hic blc ogc sgc pta ptb ptc R) ⟨hl, ?_⟩
 rintro x1 e1 _ rfl x3 e3 _ rfl x5 e5
 have c3 : clamp (plen sg) f = x3 := by rw [e3, e1]; rfl
 have c5 : clamp (plen sg) t = x5 := by rw [e5, e1]; rfl
 rw [c3, c5] at hq
 refine ⟨fun g => ⟨⟨rfl, rfl, rfl, .inr ⟨rfl, e1⟩, by omega, by omega, rfl, rfl, hl, hp, hb⟩, fun x ex => ?_⟩, fun g => ⟨⟨rfl, rfl, rfl, .inl ⟨rfl, rfl⟩, by omega, by omega, rfl, rfl, hl, hp, hb⟩, fun x ex => ?_⟩⟩
 . have g := of_decide_eq_true g
   refine hq x ?_
   rw [ex, e1]
   unfold leg legM
   rw [if_pos g, if_pos (by decide)]
 . have g := of_decide_eq_false g
   refine hq x ?_
   rw [ex]
   unfold leg legM
   rw [if_neg g, if_neg (by decide)]
end Go.Proofs.YtneingpnkdeooaaGreat
namespace U
open Go
def endp (pk : List (List Int)) (j : Nat) : Int := ec pk j 0 + ec pk j 1
def okTrk (pk : List (List Int)) (ln : Int) : Prop :=
 pk.length <= 4194304 /\ (0 <= ln /\ ln <= 18014398509481984) /\ (pk.length = 0 -> ln = 0) /\ (0 < pk.length -> ec pk 0 0 = 0 /\ endp pk (pk.length - 1) = ln) /\
 (∀ j, j + 1 < pk.length -> ec pk (j + 1) 0 = endp pk j) /\ ∀ j, j < pk.length -> 1 <= ec pk j 1 /\ (0 <= ec pk j 2 /\ ec pk j 2 <= 18014398509481984) /\ (-1 <= ec pk j 3 /\ ec pk j 3 <= 1)
def tpcA : List (List Int) -> Int -> Int -> Int
 | [], _, _ => -1
 | r :: l, i, u => if u <= r.getD 0 0 + r.getD 1 0 then i else tpcA l (i + 1) u
def tfind (pk : List (List Int)) (u : Int) : Int := tpcA pk 0 u
def tplace (pk : List (List Int)) (sa u : Int) : Int :=
 if tfind pk u < 0 then sa else ec pk (tfind pk u).toNat 2 + ec pk (tfind pk u).toNat 3 * (u - ec pk (tfind pk u).toNat 0)
def tloose (pk : List (List Int)) (u : Int) : Bool :=
 decide (0 <= tfind pk u) && (ec pk (tfind pk u).toNat 3 == 0) && decide (ec pk (tfind pk u).toNat 0 < u) && decide (u < endp pk (tfind pk u).toNat)
def bsh (bl d : Int) : Int := if d = -1 then -bl else 0
def sel3 (k a b c : Int) : Int := if k = 0 then a else if k = 1 then b else c
def tsh (bl mv w d at_ u : Int) : Int := if mv ≠ 0 ∨ w = d then bsh bl d else if d = -1 then -(min (u - at_) bl) else min (u - at_) bl - bl
def tmot (st og sg : Int) (pt : List (List Int)) (bl pos : Int) (pk : List (List Int)) (d u : Int) (c : Nat) : Int :=
 mot st og sg pt pos + (if tfind pk u < 0 then bsh bl d else tsh bl (ec pk (tfind pk u).toNat 3) (ec pk (tfind pk u).toNat (4 + c)) (ec pk (tfind pk u).toNat (7 + c)) (ec pk (tfind pk u).toNat 0) u)
def okMA (st og sg : Int) (pit : List (List Int)) (bl : Int) : Prop := (0 < st /\ st <= 16777216) /\ okC og sg pit /\ (0 <= bl /\ bl <= 4096)
end U
namespace Go.Proofs.YtneingpnkdeooaaGreat
open Go Go.HL U
def SClamp (hA : List HV) (pA : List (List HC)) : SR :=
 match hA, pA with
 | [.ce (.int .i64 v), .ce (.int .i64 n)], [] => .det (0 <= n) ⟨.ce (.int .i64 (clamp n v)), false, [], []⟩
 | _, _ => .fail
noncomputable def CClamp : Ctx := ⟨Tryz.prog, gam [], Tryz.f42.ntmps, [], []⟩
theorem vcClamp (v n : Int) (Q : Res -> Prop) : (nfun true CClamp Tryz.f42 (bodyOf Tryz.f42) [.ce (.int .i64 v), .ce (.int .i64 n)] [] Q) =
 (∀ (x1 : Int), x1 = min v n -> ∀ (x2 : Int), x2 = max (0 : Int) x1 -> Q ⟨.ce (.int .i64 x2), false, [], []⟩) := by kernel_rfl
def SAt (hA : List HV) (pA : List (List HC)) : SR :=
 match hA, pA with
 | [.agg [.int .i64 s0, .int .i64 s1, .int .i64 s2, .sl false [4, 4, 4, 4, 4, 4, 4] sg, .sl false [4, 4, 4] mk], .ce (.int .i64 p)], [] => .det (okLen sg /\ okPts s0 s1 s2 sg /\ p <= 4611686018427387904) ⟨.agg [.int .i64 (ptAt s0 sg 0 p), .int .i64 (ptAt s1 sg 1 p), .int .i64 (ptAt s2 sg 2 p)], false, [], []⟩
 | _, _ => .fail
def tabAt : List (FuncId × HL.Spec) := [(49, SPFind), (50, SMulDiv)]
noncomputable def CAt : Ctx := ⟨Tryz.prog, gam tabAt, Tryz.f23.ntmps, [(4000009, unrT [1000002, 1000004, 1000007, 1000008], fun _ => .fail)], []⟩
theorem vcAt (s0 s1 s2 p : Int) (sg mk : List (List Int)) (Q : Res -> Prop) : (nfun true CAt Tryz.f23 (bodyOf Tryz.f23) [.agg [.int .i64 s0, .int .i64 s1, .int .i64 s2, .sl false [4, 4, 4, 4, 4, 4, 4] sg, .sl false [4, 4, 4] mk], .ce (.int .i64 p)] [] Q) =
 ((okLen sg /\ p <= 4611686018427387904) /\ (∃ (x : Int × Int), x = pfind sg p) /\ ∀ (x : Int × Int), x = pfind sg p -> (decide (x.1 < 0) = true -> Q ⟨.agg [.int .i64 s0, .int .i64 s1, .int .i64 s2], false, [], []⟩) /\ (decide (x.1 < 0) = false -> (decide (x.1 > 0) = true -> (-9223372036854775808 <= x.1 - 1 /\ x.1 - 1 <= 9223372036854775807) /\ ∀ (x2 : Int), x2 = x.1 - 1 -> (0 <= x2 /\ x2 < (sg.length : Int)) /\ (0 <= x.1 /\ x.1 < (sg.length : Int)) /\ (-9223372036854775808 <= el sg x.1.toNat - el sg x2.toNat /\ el sg x.1.toNat - el sg x2.toNat <= 9223372036854775807) /\ ∀ (x3 : Int), x3 = el sg x.1.toNat - el sg x2.toNat -> ((-9223372036854775808 <= x3 /\ x3 <= 9223372036854775807) /\ (-9223372036854775808 <= x.2 /\ x.2 <= 9223372036854775807) /\ (0 < ec sg x.1.toNat 3 /\ ec sg x.1.toNat 3 <= 9223372036854775807) /\ (-4611686018427387904 <= x3 * x.2 /\ x3 * x.2 <= 4611686018427387904) /\ (0 : Int) <= 2 /\
 (2 : Int) <= 2) /\ ∀ (x4 : Int), x4 = mdv (x3 * x.2) (ec sg x.1.toNat 3) (2 : Int) -> ∀ (x5 : Bool), x5 = true -> (-9223372036854775808 <= el sg x2.toNat + x4 /\ el sg x2.toNat + x4 <= 9223372036854775807) /\ ∀ (x6 : Int), x6 = el sg x2.toNat + x4 -> (-9223372036854775808 <= ec sg x.1.toNat 1 - ec sg x2.toNat 1 /\ ec sg x.1.toNat 1 - ec sg x2.toNat 1 <= 9223372036854775807) /\ ∀ (x7 : Int), x7 = ec sg x.1.toNat 1 - ec sg x2.toNat 1 -> ((-9223372036854775808 <= x7 /\ x7 <= 9223372036854775807) /\ (-9223372036854775808 <= x.2 /\ x.2 <= 9223372036854775807) /\ (0 < ec sg x.1.toNat 3 /\ ec sg x.1.toNat 3 <= 9223372036854775807) /\ (-4611686018427387904 <= x7 * x.2 /\ x7 * x.2 <= 4611686018427387904) /\ (0 : Int) <= 2 /\ (2 : Int) <= 2) /\ ∀ (x8 : Int), x8 = mdv (x7 * x.2) (ec sg x.1.toNat 3) (2 : Int) -> ∀ (x9 : Bool), x9 = true -> (-9223372036854775808 <= ec sg x2.toNat 1 + x8 /\ ec sg x2.toNat 1 + x8 <= 9223372036854775807) /\
 ∀ (x10 : Int), x10 = ec sg x2.toNat 1 + x8 -> (-9223372036854775808 <= ec sg x.1.toNat 2 - ec sg x2.toNat 2 /\ ec sg x.1.toNat 2 - ec sg x2.toNat 2 <= 9223372036854775807) /\ ∀ (x11 : Int), x11 = ec sg x.1.toNat 2 - ec sg x2.toNat 2 -> ((-9223372036854775808 <= x11 /\ x11 <= 9223372036854775807) /\ (-9223372036854775808 <= x.2 /\ x.2 <= 9223372036854775807) /\ (0 < ec sg x.1.toNat 3 /\ ec sg x.1.toNat 3 <= 9223372036854775807) /\ (-4611686018427387904 <= x11 * x.2 /\ x11 * x.2 <= 4611686018427387904) /\ (0 : Int) <= 2 /\ (2 : Int) <= 2) /\ ∀ (x12 : Int), x12 = mdv (x11 * x.2) (ec sg x.1.toNat 3) (2 : Int) -> ∀ (x13 : Bool), x13 = true -> (-9223372036854775808 <= ec sg x2.toNat 2 + x12 /\ ec sg x2.toNat 2 + x12 <= 9223372036854775807) /\ ∀ (x14 : Int), x14 = ec sg x2.toNat 2 + x12 -> Q ⟨.agg [.int .i64 x6, .int .i64 x10, .int .i64 x14], false, [], []⟩) /\ (decide (x.1 > 0) = false -> (0 <= x.1 /\ x.1 < (sg.length : Int)) /\
 (-9223372036854775808 <= el sg x.1.toNat - s0 /\ el sg x.1.toNat - s0 <= 9223372036854775807) /\ ∀ (x15 : Int), x15 = el sg x.1.toNat - s0 -> ((-9223372036854775808 <= x15 /\ x15 <= 9223372036854775807) /\ (-9223372036854775808 <= x.2 /\ x.2 <= 9223372036854775807) /\ (0 < ec sg x.1.toNat 3 /\ ec sg x.1.toNat 3 <= 9223372036854775807) /\ (-4611686018427387904 <= x15 * x.2 /\ x15 * x.2 <= 4611686018427387904) /\ (0 : Int) <= 2 /\ (2 : Int) <= 2) /\ ∀ (x16 : Int), x16 = mdv (x15 * x.2) (ec sg x.1.toNat 3) (2 : Int) -> ∀ (x17 : Bool), x17 = true -> (-9223372036854775808 <= s0 + x16 /\ s0 + x16 <= 9223372036854775807) /\ ∀ (x18 : Int), x18 = s0 + x16 -> (-9223372036854775808 <= ec sg x.1.toNat 1 - s1 /\ ec sg x.1.toNat 1 - s1 <= 9223372036854775807) /\ ∀ (x19 : Int), x19 = ec sg x.1.toNat 1 - s1 -> ((-9223372036854775808 <= x19 /\ x19 <= 9223372036854775807) /\ (-9223372036854775808 <= x.2 /\ x.2 <= 9223372036854775807) /\
 (0 < ec sg x.1.toNat 3 /\ ec sg x.1.toNat 3 <= 9223372036854775807) /\ (-4611686018427387904 <= x19 * x.2 /\ x19 * x.2 <= 4611686018427387904) /\ (0 : Int) <= 2 /\ (2 : Int) <= 2) /\ ∀ (x20 : Int), x20 = mdv (x19 * x.2) (ec sg x.1.toNat 3) (2 : Int) -> ∀ (x21 : Bool), x21 = true -> (-9223372036854775808 <= s1 + x20 /\ s1 + x20 <= 9223372036854775807) /\ ∀ (x22 : Int), x22 = s1 + x20 -> (-9223372036854775808 <= ec sg x.1.toNat 2 - s2 /\ ec sg x.1.toNat 2 - s2 <= 9223372036854775807) /\ ∀ (x23 : Int), x23 = ec sg x.1.toNat 2 - s2 -> ((-9223372036854775808 <= x23 /\ x23 <= 9223372036854775807) /\ (-9223372036854775808 <= x.2 /\ x.2 <= 9223372036854775807) /\ (0 < ec sg x.1.toNat 3 /\ ec sg x.1.toNat 3 <= 9223372036854775807) /\ (-4611686018427387904 <= x23 * x.2 /\ x23 * x.2 <= 4611686018427387904) /\ (0 : Int) <= 2 /\ (2 : Int) <= 2) /\ ∀ (x24 : Int), x24 = mdv (x23 * x.2) (ec sg x.1.toNat 3) (2 : Int) ->
 ∀ (x25 : Bool), x25 = true -> (-9223372036854775808 <= s2 + x24 /\ s2 + x24 <= 9223372036854775807) /\ ∀ (x26 : Int), x26 = s2 + x24 -> Q ⟨.agg [.int .i64 x18, .int .i64 x22, .int .i64 x26], false, [], []⟩))) := by kernel_rfl
def STFind (hA : List HV) (pA : List (List HC)) : SR :=
 match hA, pA with
 | [.agg [.sl false [4, 4, 4, 4, 4, 4, 4, 4, 4, 4] pk, .int .i64 ln, .int .i64 sa, .int .i64 d0, .int .i64 d1, .int .i64 d2], .ce (.int .i64 u)], [] => .det (okTrk pk ln /\ 0 <= u /\ u <= ln) ⟨.ce (.int .i64 (tfind pk u)), false, [], []⟩
 | _, _ => .fail
def anTF : LAnn := ⟨[1, 2, 4, 5, 6], [6], [1000002], false⟩
def LTF (v : LV) : LR :=
 match v with
 | ([.ce (.int .i64 u), .ce (.ptr 1000002 0), .ce (.int .i64 z), .ce (.int .i64 lo), .ce (.int .i64 hi)], [[.sl false [4, 4, 4, 4, 4, 4, 4, 4, 4, 4] pk, .int .i64 ln, .int .i64 sa, .int .i64 d0, .int .i64 d1, .int .i64 d2]]) =>
  .det (lo = 0 /\ hi = (pk.length : Int) - 1 /\ okTrk pk ln /\ 0 <= u /\ u <= ln) (.exit 0) ([.ce (.int .i64 (tfind pk u))], [[.sl false [4, 4, 4, 4, 4, 4, 4, 4, 4, 4] pk, .int .i64 ln, .int .i64 sa, .int .i64 d0, .int .i64 d1, .int .i64 d2]])
 | _ => .fail
noncomputable def CTF : Ctx := ⟨Tryz.prog, gam [], Tryz.f43.ntmps, [(2, anTF, LTF)], []⟩
theorem vbTF (u z lo hi ln sa d0 d1 d2 : Int) (pk : List (List Int)) (K : HEx -> LV -> Prop) : (nbodyT true CTF anTF (nthLoop Tryz.f43 0) (([.ce (.int .i64 u), .ce (.ptr 1000002 0), .ce (.int .i64 z), .ce (.int .i64 lo), .ce (.int .i64 hi)], [[.sl false [4, 4, 4, 4, 4, 4, 4, 4, 4, 4] pk, .int .i64 ln, .int .i64 sa, .int .i64 d0, .int .i64 d1, .int .i64 d2]])) K) =
 ((decide (lo < hi) = true -> (-9223372036854775808 <= lo + hi /\ lo + hi <= 9223372036854775807) /\ ∀ (x1 : Int), x1 = lo + hi -> (2 : Int) ≠ (0 : Int) /\ (-9223372036854775808 <= Int.tdiv x1 2 /\ Int.tdiv x1 2 <= 9223372036854775807) /\ ∀ (x2 : Int), x2 = Int.tdiv x1 2 -> (0 <= x2 /\ x2 < (pk.length : Int)) /\ (-9223372036854775808 <= el pk x2.toNat + ec pk x2.toNat 1 /\ el pk x2.toNat + ec pk x2.toNat 1 <= 9223372036854775807) /\ ∀ (x3 : Int), x3 = el pk x2.toNat + ec pk x2.toNat 1 -> (decide (u <= x3) = true -> K .normal ([.ce (.int .i64 u), .ce (.ptr 1000002 0), .ce (.int .i64 z), .ce (.int .i64 lo), .ce (.int .i64 x2)], [[.sl false [4, 4, 4, 4, 4, 4, 4, 4, 4, 4] pk, .int .i64 ln, .int .i64 sa, .int .i64 d0, .int .i64 d1, .int .i64 d2]])) /\ (decide (u <= x3) = false -> (-9223372036854775808 <= x2 + 1 /\ x2 + 1 <= 9223372036854775807) /\ ∀ (x4 : Int), x4 = x2 + 1 -> K .normal ([.ce (.int .i64 u), .ce (.ptr 1000002 0), .ce (.int .i64 z), .ce (.int .i64 x4), .ce (.int .i64 hi)], [[.sl false [4, 4, 4, 4, 4, 4, 4, 4, 4, 4] pk, .int .i64 ln, .int .i64 sa, .int .i64 d0, .int .i64 d1, .int .i64 d2]]))) /\
 (decide (lo < hi) = false -> K (.exit 0) ([.ce (.int .i64 hi)], [[.sl false [4, 4, 4, 4, 4, 4, 4, 4, 4, 4] pk, .int .i64 ln, .int .i64 sa, .int .i64 d0, .int .i64 d1, .int .i64 d2]]))) := by kernel_rfl
theorem vcTF (u ln sa d0 d1 d2 : Int) (pk : List (List Int)) (Q : Res -> Prop) : (nfun true CTF Tryz.f43 (bodyOf Tryz.f43) [.agg [.sl false [4, 4, 4, 4, 4, 4, 4, 4, 4, 4] pk, .int .i64 ln, .int .i64 sa, .int .i64 d0, .int .i64 d1, .int .i64 d2], .ce (.int .i64 u)] [] Q) =
 ((-9223372036854775808 <= (pk.length : Int) - 1 /\ (pk.length : Int) - 1 <= 9223372036854775807) /\ ∀ (x1 : Int), x1 = (pk.length : Int) - 1 -> ((0 : Int) = 0 /\ x1 = (pk.length : Int) - 1 /\ okTrk pk ln /\ 0 <= u /\ u <= ln) /\ Q ⟨.ce (.int .i64 (tfind pk u)), false, [], []⟩) := by kernel_rfl
def SPlace (hA : List HV) (pA : List (List HC)) : SR :=
 match hA, pA with
 | [.agg [.sl false [4, 4, 4, 4, 4, 4, 4, 4, 4, 4] pk, .int .i64 ln, .int .i64 sa, .int .i64 d0, .int .i64 d1, .int .i64 d2], .ce (.int .i64 u)], [] => .det (okTrk pk ln) ⟨.ce (.int .i64 (tplace pk sa (clamp ln u))), false, [], []⟩
 | _, _ => .fail
def SLoose (hA : List HV) (pA : List (List HC)) : SR :=
 match hA, pA with
 | [.agg [.sl false [4, 4, 4, 4, 4, 4, 4, 4, 4, 4] pk, .int .i64 ln, .int .i64 sa, .int .i64 d0, .int .i64 d1, .int .i64 d2], .ce (.int .i64 u)], [] => .det (okTrk pk ln) ⟨.ce (.bool (tloose pk (clamp ln u))), false, [], []⟩
 | _, _ => .fail
def tabTF : List (FuncId × HL.Spec) := [(42, SClamp), (43, STFind)]
noncomputable def CPlace : Ctx := ⟨Tryz.prog, gam tabTF, Tryz.f21.ntmps, [], []⟩
noncomputable def CLoose : Ctx := ⟨Tryz.prog, gam tabTF, Tryz.f29.ntmps, [], []⟩
theorem vcPlace (u ln sa d0 d1 d2 : Int) (pk : List (List Int)) (Q : Res -> Prop) : (nfun true CPlace Tryz.f21 (bodyOf Tryz.f21) [.agg [.sl false [4, 4, 4, 4, 4, 4, 4, 4, 4, 4] pk, .int .i64 ln, .int .i64 sa, .int .i64 d0, .int .i64 d1, .int .i64 d2], .ce (.int .i64 u)] [] Q) =
 (0 <= ln /\ ∀ (x1 : Int), x1 = clamp ln u -> (okTrk pk ln /\ 0 <= x1 /\ x1 <= ln) /\ ∀ (x2 : Int), x2 = tfind pk x1 -> (decide (x2 < 0) = true -> Q ⟨.ce (.int .i64 sa), false, [], []⟩) /\ (decide (x2 < 0) = false -> (0 <= x2 /\ x2 < (pk.length : Int)) /\ ∀ (x3 : Int), x3 = ec pk x2.toNat 2 -> (0 <= x2 /\ x2 < (pk.length : Int)) /\ ∀ (x4 : Int), x4 = ec pk x2.toNat 3 -> (0 <= x2 /\ x2 < (pk.length : Int)) /\ ∀ (x5 : Int), x5 = el pk x2.toNat -> (-9223372036854775808 <= x1 - x5 /\ x1 - x5 <= 9223372036854775807) /\ ∀ (x6 : Int), x6 = x1 - x5 -> (-9223372036854775808 <= x4 * x6 /\ x4 * x6 <= 9223372036854775807) /\ ∀ (x7 : Int), x7 = x4 * x6 -> (-9223372036854775808 <= x3 + x7 /\ x3 + x7 <= 9223372036854775807) /\ ∀ (x8 : Int), x8 = x3 + x7 -> Q ⟨.ce (.int .i64 x8), false, [], []⟩)) := by kernel_rfl
theorem vcLoose (u ln sa d0 d1 d2 : Int) (pk : List (List Int)) (Q : Res -> Prop) : (nfun true CLoose Tryz.f29 (bodyOf Tryz.f29) [.agg [.sl false [4, 4, 4, 4, 4, 4, 4, 4, 4, 4] pk, .int .i64 ln, .int .i64 sa, .int .i64 d0, .int .i64 d1, .int .i64 d2], .ce (.int .i64 u)] [] Q) =
 (0 <= ln /\ ∀ (x1 : Int), x1 = clamp ln u -> (okTrk pk ln /\ 0 <= x1 /\ x1 <= ln) /\ ∀ (x2 : Int), x2 = tfind pk x1 -> (decide (x2 < 0) = true -> Q ⟨.ce (.bool false), false, [], []⟩) /\ (decide (x2 < 0) = false -> (0 <= x2 /\ x2 < (pk.length : Int)) /\ ((ec pk x2.toNat 3 == 0) = true -> (decide (el pk x2.toNat < x1) = true -> (-9223372036854775808 <= el pk x2.toNat + ec pk x2.toNat 1 /\ el pk x2.toNat + ec pk x2.toNat 1 <= 9223372036854775807) /\ ∀ (x3 : Int), x3 = el pk x2.toNat + ec pk x2.toNat 1 -> Q ⟨.ce (.bool (decide (x1 < x3))), false, [], []⟩) /\ (decide (el pk x2.toNat < x1) = false -> Q ⟨.ce (.bool false), false, [], []⟩)) /\ ((ec pk x2.toNat 3 == 0) = false -> Q ⟨.ce (.bool false), false, [], []⟩))) := by kernel_rfl
def SBsh (hA : List HV) (pA : List (List HC)) : SR :=
 match hA, pA with
 | [.agg [.int .i64 sta, .int .i64 spa, .int .i64 aca, .int .i64 jea, .int .i64 loa, .int .i64 hia, .int .i64 bla, .int .i64 oga, .int .i64 sga, .sl false [4] pta], .ce (.int .i64 d)], [] => .det (0 <= bla /\ bla <= 4096) ⟨.ce (.int .i64 (bsh bla d)), false, [], []⟩
 | _, _ => .fail
noncomputable def CBsh : Ctx := ⟨Tryz.prog, gam [], Tryz.f44.ntmps, [], []⟩
theorem vcBsh (sta spa aca jea loa hia bla oga sga : Int) (pta : List (List Int)) (d : Int) (Q : Res -> Prop) : (nfun true CBsh Tryz.f44 (bodyOf Tryz.f44) [.agg [.int .i64 sta, .int .i64 spa, .int .i64 aca, .int .i64 jea, .int .i64 loa, .int .i64 hia, .int .i64 bla, .int .i64 oga, .int .i64 sga, .sl false [4] pta], .ce (.int .i64 d)] [] Q) =
 (((d == (-1 : Int)) = true -> (-9223372036854775808 <= 0 - bla /\ 0 - bla <= 9223372036854775807) /\ ∀ (x1 : Int), x1 = 0 - bla -> Q ⟨.ce (.int .i64 x1), false, [], []⟩) /\ ((d == (-1 : Int)) = false -> Q ⟨.ce (.int .i64 0), false, [], []⟩)) := by kernel_rfl
def STsh (hA : List HV) (pA : List (List HC)) : SR :=
 match hA, pA with
 | [.agg [.int .i64 sta, .int .i64 spa, .int .i64 aca, .int .i64 jea, .int .i64 loa, .int .i64 hia, .int .i64 bla, .int .i64 oga, .int .i64 sga, .sl false [4] pta], .agg [.int .i64 q0, .int .i64 q1, .int .i64 q2, .int .i64 q3, .int .i64 q4, .int .i64 q5, .int .i64 q6, .int .i64 q7, .int .i64 q8, .int .i64 q9], .ce (.int .i64 k), .ce (.int .i64 u)], [] =>
  .det ((0 <= k /\ k <= 2) /\ (0 <= bla /\ bla <= 4096) /\ (-18014398509481984 <= u /\ u <= 18014398509481984) /\ (-18014398509481984 <= q0 /\ q0 <= 18014398509481984)) ⟨.ce (.int .i64 (tsh bla q3 (sel3 k q4 q5 q6) (sel3 k q7 q8 q9) q0 u)), false, [], []⟩
 | _, _ => .fail
def tabTsh : List (FuncId × HL.Spec) := [(44, SBsh)]
noncomputable def CTsh : Ctx := ⟨Tryz.prog, gam tabTsh, Tryz.f45.ntmps, [], [spl 1 2 6 0]⟩
theorem vcTsh (sta spa aca jea loa hia bla oga sga : Int) (pta : List (List Int)) (q0 q1 q2 q3 q4 q5 q6 q7 q8 q9 k u : Int) (Q : Res -> Prop) : (nfun true CTsh Tryz.f45 (bodyOf Tryz.f45) [.agg [.int .i64 sta, .int .i64 spa, .int .i64 aca, .int .i64 jea, .int .i64 loa, .int .i64 hia, .int .i64 bla, .int .i64 oga, .int .i64 sga, .sl false [4] pta], .agg [.int .i64 q0, .int .i64 q1, .int .i64 q2, .int .i64 q3, .int .i64 q4, .int .i64 q5, .int .i64 q6, .int .i64 q7, .int .i64 q8, .int .i64 q9], .ce (.int .i64 k), .ce (.int .i64 u)] [] Q) =
 ((k = 0 -> ((q3 != 0) = true -> (0 <= bla /\ bla <= 4096) /\ ∀ (x1 : Int), x1 = bsh bla q7 -> Q ⟨.ce (.int .i64 x1), false, [], []⟩) /\ ((q3 != 0) = false -> ((q4 == q7) = true -> (0 <= bla /\ bla <= 4096) /\ ∀ (x2 : Int), x2 = bsh bla q7 -> Q ⟨.ce (.int .i64 x2), false, [], []⟩) /\ ((q4 == q7) = false -> (-9223372036854775808 <= u - q0 /\ u - q0 <= 9223372036854775807) /\ ∀ (x3 : Int), x3 = u - q0 -> ∀ (x4 : Int), x4 = min x3 bla -> ((q7 == (-1 : Int)) = true -> (-9223372036854775808 <= 0 - x4 /\ 0 - x4 <= 9223372036854775807) /\ ∀ (x5 : Int), x5 = 0 - x4 -> Q ⟨.ce (.int .i64 x5), false, [], []⟩) /\ ((q7 == (-1 : Int)) = false -> (-9223372036854775808 <= x4 - bla /\ x4 - bla <= 9223372036854775807) /\ ∀ (x6 : Int), x6 = x4 - bla -> Q ⟨.ce (.int .i64 x6), false, [], []⟩)))) /\ (k ≠ 0 -> (k = 1 -> ((q3 != 0) = true -> (0 <= bla /\ bla <= 4096) /\ ∀ (x7 : Int), x7 = bsh bla q8 -> Q ⟨.ce (.int .i64 x7), false, [], []⟩) /\
 ((q3 != 0) = false -> ((q5 == q8) = true -> (0 <= bla /\ bla <= 4096) /\ ∀ (x8 : Int), x8 = bsh bla q8 -> Q ⟨.ce (.int .i64 x8), false, [], []⟩) /\ ((q5 == q8) = false -> (-9223372036854775808 <= u - q0 /\ u - q0 <= 9223372036854775807) /\ ∀ (x9 : Int), x9 = u - q0 -> ∀ (x10 : Int), x10 = min x9 bla -> ((q8 == (-1 : Int)) = true -> (-9223372036854775808 <= 0 - x10 /\ 0 - x10 <= 9223372036854775807) /\ ∀ (x11 : Int), x11 = 0 - x10 -> Q ⟨.ce (.int .i64 x11), false, [], []⟩) /\ ((q8 == (-1 : Int)) = false -> (-9223372036854775808 <= x10 - bla /\ x10 - bla <= 9223372036854775807) /\ ∀ (x12 : Int), x12 = x10 - bla -> Q ⟨.ce (.int .i64 x12), false, [], []⟩)))) /\ (k ≠ 1 -> (k = 2 -> ((q3 != 0) = true -> (0 <= bla /\ bla <= 4096) /\ ∀ (x13 : Int), x13 = bsh bla q9 -> Q ⟨.ce (.int .i64 x13), false, [], []⟩) /\ ((q3 != 0) = false -> ((q6 == q9) = true -> (0 <= bla /\ bla <= 4096) /\ ∀ (x14 : Int), x14 = bsh bla q9 -> Q ⟨.ce (.int .i64 x14), false, [], []⟩) /\
 ((q6 == q9) = false -> (-9223372036854775808 <= u - q0 /\ u - q0 <= 9223372036854775807) /\ ∀ (x15 : Int), x15 = u - q0 -> ∀ (x16 : Int), x16 = min x15 bla -> ((q9 == (-1 : Int)) = true -> (-9223372036854775808 <= 0 - x16 /\ 0 - x16 <= 9223372036854775807) /\ ∀ (x17 : Int), x17 = 0 - x16 -> Q ⟨.ce (.int .i64 x17), false, [], []⟩) /\ ((q9 == (-1 : Int)) = false -> (-9223372036854775808 <= x16 - bla /\ x16 - bla <= 9223372036854775807) /\ ∀ (x18 : Int), x18 = x16 - bla -> Q ⟨.ce (.int .i64 x18), false, [], []⟩)))) /\ (k ≠ 2 -> False)))) := by kernel_rfl
def SMotors (hA : List HV) (pA : List (List HC)) : SR :=
 match hA, pA with
 | [.agg [.int .i64 s0, .int .i64 s1, .int .i64 s2, .sl false [4, 4, 4, 4, 4, 4, 4] sg, .sl false [4, 4, 4] mk], .agg ax, .agg [.sl false [4, 4, 4, 4, 4, 4, 4, 4, 4, 4] pk, .int .i64 ln, .int .i64 sa, .int .i64 d0, .int .i64 d1, .int .i64 d2], .ce (.int .i64 u)], [] =>
  match ax with
  | [.int .i64 sta, .int .i64 spa, .int .i64 aca, .int .i64 jea, .int .i64 loa, .int .i64 hia, .int .i64 bla, .int .i64 oga, .int .i64 sga, .sl false [4] pta, .int .i64 stb, .int .i64 spb, .int .i64 acb, .int .i64 jeb, .int .i64 lob, .int .i64 hib, .int .i64 blb, .int .i64 ogb, .int .i64 sgb, .sl false [4] ptb, .int .i64 stc, .int .i64 spc, .int .i64 acc, .int .i64 jec, .int .i64 loc, .int .i64 hic, .int .i64 blc, .int .i64 ogc, .int .i64 sgc, .sl false [4] ptc] =>
   .det (okLen sg /\ okPts s0 s1 s2 sg /\ okTrk pk ln /\ okMA sta oga sga pta bla /\ okMA stb ogb sgb ptb blb /\ okMA stc ogc sgc ptc blc /\ (0 <= sa /\ sa <= 18014398509481984))
    ⟨.agg [.int .i64 (tmot sta oga sga pta bla (ptAt s0 sg 0 (tplace pk sa (clamp ln u))) pk d0 (clamp ln u) 0), .int .i64 (tmot stb ogb sgb ptb blb (ptAt s1 sg 1 (tplace pk sa (clamp ln u))) pk d1 (clamp ln u) 1), .int .i64 (tmot stc ogc sgc ptc blc (ptAt s2 sg 2 (tplace pk sa (clamp ln u))) pk d2 (clamp ln u) 2)], false, [], []⟩
  | _ => .fail
 | _, _ => .fail
def tabMotors : List (FuncId × HL.Spec) := [(42, SClamp), (21, SPlace), (23, SAt), (43, STFind), (40, SMotor), (44, SBsh), (45, STsh)]
noncomputable def CMotors : Ctx := ⟨Tryz.prog, gam tabMotors, Tryz.f19.ntmps, [(4000006, unrT [1000004, 1000005, 1000006, 1000008, 1000009, 1000011], fun _ => .fail)], []⟩
theorem vcMotors (s0 s1 s2 u ln sa d0 d1 d2 : Int) (sg mk pk : List (List Int)) (sta spa aca jea loa hia bla oga sga stb spb acb jeb lob hib blb ogb sgb stc spc acc jec loc hic blc ogc sgc : Int) (pta ptb ptc : List (List Int)) (Q : Res -> Prop) : (nfun true CMotors Tryz.f19 (bodyOf Tryz.f19) [.agg [.int .i64 s0, .int .i64 s1, .int .i64 s2, .sl false [4, 4, 4, 4, 4, 4, 4] sg, .sl false [4, 4, 4] mk], .agg [.int .i64 sta, .int .i64 spa, .int .i64 aca, .int .i64 jea, .int .i64 loa, .int .i64 hia, .int .i64 bla, .int .i64 oga, .int .i64 sga, .sl false [4] pta, .int .i64 stb, .int .i64 spb, .int .i64 acb, .int .i64 jeb, .int .i64 lob, .int .i64 hib, .int .i64 blb, .int .i64 ogb, .int .i64 sgb, .sl false [4] ptb, .int .i64 stc, .int .i64 spc, .int .i64 acc, .int .i64 jec, .int .i64 loc, .int .i64 hic, .int .i64 blc, .int .i64 ogc, .int .i64 sgc, .sl false [4] ptc], .agg [.sl false [4, 4, 4, 4, 4, 4, 4, 4, 4, 4] pk, .int .i64 ln, .int .i64 sa, .int .i64 d0, .int .i64 d1, .int .i64 d2], .ce (.int .i64 u)] [] Q) =
 (0 <= ln /\ ∀ (x1 : Int), x1 = clamp ln u -> okTrk pk ln /\ ∀ (x2 : Int), x2 = tplace pk sa (clamp ln x1) -> (okLen sg /\ okPts s0 s1 s2 sg /\ x2 <= 4611686018427387904) /\ ∀ (x3 : Int), x3 = ptAt s0 sg (0 : Nat) x2 -> ∀ (x4 : Int), x4 = ptAt s1 sg (1 : Nat) x2 -> ∀ (x5 : Int), x5 = ptAt s2 sg (2 : Nat) x2 -> (okTrk pk ln /\ 0 <= x1 /\ x1 <= ln) /\ ∀ (x6 : Int), x6 = tfind pk x1 -> ((0 < sta /\ sta <= 16777216) /\ okC oga sga pta /\ -1073741824 <= x3 /\ x3 <= 1073741824) /\ ∀ (x7 : Int), x7 = mot sta oga sga pta x3 -> (decide (x6 < 0) = true -> (0 <= bla /\ bla <= 4096) /\ ∀ (x8 : Int), x8 = bsh bla d0 -> (-9223372036854775808 <= x7 + x8 /\ x7 + x8 <= 9223372036854775807) /\ ∀ (x9 : Int), x9 = x7 + x8 -> ((0 < stb /\ stb <= 16777216) /\ okC ogb sgb ptb /\ -1073741824 <= x4 /\ x4 <= 1073741824) /\ ∀ (x10 : Int), x10 = mot stb ogb sgb ptb x4 -> (decide (x6 < 0) = true -> (0 <= blb /\ blb <= 4096) /\ ∀ (x11 : Int), x11 = bsh blb d1 ->
 (-9223372036854775808 <= x10 + x11 /\ x10 + x11 <= 9223372036854775807) /\ ∀ (x12 : Int), x12 = x10 + x11 -> ((0 < stc /\ stc <= 16777216) /\ okC ogc sgc ptc /\ -1073741824 <= x5 /\ x5 <= 1073741824) /\ ∀ (x13 : Int), x13 = mot stc ogc sgc ptc x5 -> (decide (x6 < 0) = true -> (0 <= blc /\ blc <= 4096) /\ ∀ (x14 : Int), x14 = bsh blc d2 -> (-9223372036854775808 <= x13 + x14 /\ x13 + x14 <= 9223372036854775807) /\ ∀ (x15 : Int), x15 = x13 + x14 -> Q ⟨.agg [.int .i64 x9, .int .i64 x12, .int .i64 x15], false, [], []⟩) /\ (decide (x6 < 0) = false -> (0 <= x6 /\ x6 < (pk.length : Int)) /\ (((0 : Int) <= 2 /\ (2 : Int) <= 2) /\ (0 <= blc /\ blc <= 4096) /\ (-18014398509481984 <= x1 /\ x1 <= 18014398509481984) /\ -18014398509481984 <= el pk x6.toNat /\ el pk x6.toNat <= 18014398509481984) /\ ∀ (x16 : Int), x16 = tsh blc (ec pk x6.toNat 3) (sel3 (2 : Int) (ec pk x6.toNat 4) (ec pk x6.toNat 5) (ec pk x6.toNat 6)) (sel3 (2 : Int) (ec pk x6.toNat 7) (ec pk x6.toNat 8) (ec pk x6.toNat 9)) (el pk x6.toNat) x1 ->
 (-9223372036854775808 <= x13 + x16 /\ x13 + x16 <= 9223372036854775807) /\ ∀ (x17 : Int), x17 = x13 + x16 -> Q ⟨.agg [.int .i64 x9, .int .i64 x12, .int .i64 x17], false, [], []⟩)) /\ (decide (x6 < 0) = false -> (0 <= x6 /\ x6 < (pk.length : Int)) /\ (((0 : Int) <= 1 /\ (1 : Int) <= 2) /\ (0 <= blb /\ blb <= 4096) /\ (-18014398509481984 <= x1 /\ x1 <= 18014398509481984) /\ -18014398509481984 <= el pk x6.toNat /\ el pk x6.toNat <= 18014398509481984) /\ ∀ (x18 : Int), x18 = tsh blb (ec pk x6.toNat 3) (sel3 (1 : Int) (ec pk x6.toNat 4) (ec pk x6.toNat 5) (ec pk x6.toNat 6)) (sel3 (1 : Int) (ec pk x6.toNat 7) (ec pk x6.toNat 8) (ec pk x6.toNat 9)) (el pk x6.toNat) x1 -> (-9223372036854775808 <= x10 + x18 /\ x10 + x18 <= 9223372036854775807) /\ ∀ (x19 : Int), x19 = x10 + x18 -> ((0 < stc /\ stc <= 16777216) /\ okC ogc sgc ptc /\ -1073741824 <= x5 /\ x5 <= 1073741824) /\ ∀ (x20 : Int), x20 = mot stc ogc sgc ptc x5 ->
 (decide (x6 < 0) = true -> (0 <= blc /\ blc <= 4096) /\ ∀ (x21 : Int), x21 = bsh blc d2 -> (-9223372036854775808 <= x20 + x21 /\ x20 + x21 <= 9223372036854775807) /\ ∀ (x22 : Int), x22 = x20 + x21 -> Q ⟨.agg [.int .i64 x9, .int .i64 x19, .int .i64 x22], false, [], []⟩) /\ (decide (x6 < 0) = false -> (0 <= x6 /\ x6 < (pk.length : Int)) /\ (((0 : Int) <= 2 /\ (2 : Int) <= 2) /\ (0 <= blc /\ blc <= 4096) /\ (-18014398509481984 <= x1 /\ x1 <= 18014398509481984) /\ -18014398509481984 <= el pk x6.toNat /\ el pk x6.toNat <= 18014398509481984) /\ ∀ (x23 : Int), x23 = tsh blc (ec pk x6.toNat 3) (sel3 (2 : Int) (ec pk x6.toNat 4) (ec pk x6.toNat 5) (ec pk x6.toNat 6)) (sel3 (2 : Int) (ec pk x6.toNat 7) (ec pk x6.toNat 8) (ec pk x6.toNat 9)) (el pk x6.toNat) x1 -> (-9223372036854775808 <= x20 + x23 /\ x20 + x23 <= 9223372036854775807) /\ ∀ (x24 : Int), x24 = x20 + x23 -> Q ⟨.agg [.int .i64 x9, .int .i64 x19, .int .i64 x24], false, [], []⟩))) /\
 (decide (x6 < 0) = false -> (0 <= x6 /\ x6 < (pk.length : Int)) /\ (((0 : Int) <= 0 /\ (0 : Int) <= 2) /\ (0 <= bla /\ bla <= 4096) /\ (-18014398509481984 <= x1 /\ x1 <= 18014398509481984) /\ -18014398509481984 <= el pk x6.toNat /\ el pk x6.toNat <= 18014398509481984) /\ ∀ (x25 : Int), x25 = tsh bla (ec pk x6.toNat 3) (sel3 (0 : Int) (ec pk x6.toNat 4) (ec pk x6.toNat 5) (ec pk x6.toNat 6)) (sel3 (0 : Int) (ec pk x6.toNat 7) (ec pk x6.toNat 8) (ec pk x6.toNat 9)) (el pk x6.toNat) x1 -> (-9223372036854775808 <= x7 + x25 /\ x7 + x25 <= 9223372036854775807) /\ ∀ (x26 : Int), x26 = x7 + x25 -> ((0 < stb /\ stb <= 16777216) /\ okC ogb sgb ptb /\ -1073741824 <= x4 /\ x4 <= 1073741824) /\ ∀ (x27 : Int), x27 = mot stb ogb sgb ptb x4 -> (decide (x6 < 0) = true -> (0 <= blb /\ blb <= 4096) /\ ∀ (x28 : Int), x28 = bsh blb d1 -> (-9223372036854775808 <= x27 + x28 /\ x27 + x28 <= 9223372036854775807) /\
 ∀ (x29 : Int), x29 = x27 + x28 -> ((0 < stc /\ stc <= 16777216) /\ okC ogc sgc ptc /\ -1073741824 <= x5 /\ x5 <= 1073741824) /\ ∀ (x30 : Int), x30 = mot stc ogc sgc ptc x5 -> (decide (x6 < 0) = true -> (0 <= blc /\ blc <= 4096) /\ ∀ (x31 : Int), x31 = bsh blc d2 -> (-9223372036854775808 <= x30 + x31 /\ x30 + x31 <= 9223372036854775807) /\ ∀ (x32 : Int), x32 = x30 + x31 -> Q ⟨.agg [.int .i64 x26, .int .i64 x29, .int .i64 x32], false, [], []⟩) /\ (decide (x6 < 0) = false -> (0 <= x6 /\ x6 < (pk.length : Int)) /\ (((0 : Int) <= 2 /\ (2 : Int) <= 2) /\ (0 <= blc /\ blc <= 4096) /\ (-18014398509481984 <= x1 /\ x1 <= 18014398509481984) /\ -18014398509481984 <= el pk x6.toNat /\ el pk x6.toNat <= 18014398509481984) /\ ∀ (x33 : Int), x33 = tsh blc (ec pk x6.toNat 3) (sel3 (2 : Int) (ec pk x6.toNat 4) (ec pk x6.toNat 5) (ec pk x6.toNat 6)) (sel3 (2 : Int) (ec pk x6.toNat 7) (ec pk x6.toNat 8) (ec pk x6.toNat 9)) (el pk x6.toNat) x1 ->
 (-9223372036854775808 <= x30 + x33 /\ x30 + x33 <= 9223372036854775807) /\ ∀ (x34 : Int), x34 = x30 + x33 -> Q ⟨.agg [.int .i64 x26, .int .i64 x29, .int .i64 x34], false, [], []⟩)) /\ (decide (x6 < 0) = false -> (0 <= x6 /\ x6 < (pk.length : Int)) /\ (((0 : Int) <= 1 /\ (1 : Int) <= 2) /\ (0 <= blb /\ blb <= 4096) /\ (-18014398509481984 <= x1 /\ x1 <= 18014398509481984) /\ -18014398509481984 <= el pk x6.toNat /\ el pk x6.toNat <= 18014398509481984) /\ ∀ (x35 : Int), x35 = tsh blb (ec pk x6.toNat 3) (sel3 (1 : Int) (ec pk x6.toNat 4) (ec pk x6.toNat 5) (ec pk x6.toNat 6)) (sel3 (1 : Int) (ec pk x6.toNat 7) (ec pk x6.toNat 8) (ec pk x6.toNat 9)) (el pk x6.toNat) x1 -> (-9223372036854775808 <= x27 + x35 /\ x27 + x35 <= 9223372036854775807) /\ ∀ (x36 : Int), x36 = x27 + x35 -> ((0 < stc /\ stc <= 16777216) /\ okC ogc sgc ptc /\ -1073741824 <= x5 /\ x5 <= 1073741824) /\ ∀ (x37 : Int), x37 = mot stc ogc sgc ptc x5 ->
 (decide (x6 < 0) = true -> (0 <= blc /\ blc <= 4096) /\ ∀ (x38 : Int), x38 = bsh blc d2 -> (-9223372036854775808 <= x37 + x38 /\ x37 + x38 <= 9223372036854775807) /\ ∀ (x39 : Int), x39 = x37 + x38 -> Q ⟨.agg [.int .i64 x26, .int .i64 x36, .int .i64 x39], false, [], []⟩) /\ (decide (x6 < 0) = false -> (0 <= x6 /\ x6 < (pk.length : Int)) /\ (((0 : Int) <= 2 /\ (2 : Int) <= 2) /\ (0 <= blc /\ blc <= 4096) /\ (-18014398509481984 <= x1 /\ x1 <= 18014398509481984) /\ -18014398509481984 <= el pk x6.toNat /\ el pk x6.toNat <= 18014398509481984) /\ ∀ (x40 : Int), x40 = tsh blc (ec pk x6.toNat 3) (sel3 (2 : Int) (ec pk x6.toNat 4) (ec pk x6.toNat 5) (ec pk x6.toNat 6)) (sel3 (2 : Int) (ec pk x6.toNat 7) (ec pk x6.toNat 8) (ec pk x6.toNat 9)) (el pk x6.toNat) x1 -> (-9223372036854775808 <= x37 + x40 /\ x37 + x40 <= 9223372036854775807) /\ ∀ (x41 : Int), x41 = x37 + x40 -> Q ⟨.agg [.int .i64 x26, .int .i64 x36, .int .i64 x41], false, [], []⟩)))) := by kernel_rfl
end Go.Proofs.YtneingpnkdeooaaGreat
namespace U
theorem lfA_spec : ∀ (l : List (List Int)) (i s : Int), 0 <= s -> (lfA l i s).1 = -1 ∨ ∃ j : Nat, j < l.length /\ (lfA l i s).1 = i + j /\ 0 <= (lfA l i s).2 /\ (lfA l i s).2 < ec l j 3
 | [], i, s, _ => .inl rfl
 | r :: l, i, s, hs => by
  unfold lfA
  by_cases h : s < r.getD 3 0
  . rw [if_pos h]
    exact .inr ⟨0, by simp, by simp, hs, h⟩
  . rw [if_neg h]
    rcases lfA_spec l (i + 1) (s - r.getD 3 0) (by omega) with h1 | ⟨j, h1, h2, h3, h4⟩
    . exact .inl h1
    . exact .inr ⟨j + 1, by simp; exact h1, by rw [h2]; omega, h3, h4⟩
theorem pfind_spec {sg : List (List Int)} (h : okLen sg) (p : Int) : (sg.length = 0 /\ pfind sg p = (-1, 0)) ∨ ∃ j : Nat, j < sg.length /\ (pfind sg p).1 = j /\ 0 <= (pfind sg p).2 /\ (pfind sg p).2 <= ec sg j 3 := by
 unfold pfind
 by_cases h0 : sg.length = 0
 . rw [if_pos h0]; exact .inl ⟨h0, rfl⟩
 . rw [if_neg h0]
   right
   by_cases h1 : 0 <= (lfA sg 0 (max p 0)).1
   . rw [if_pos h1]
     rcases lfA_spec sg 0 (max p 0) (by omega) with h2 | ⟨j, h2, h3, h4, h5⟩
     . omega
     . exact ⟨j, h2, by omega, h4, by omega⟩
   . rw [if_neg h1]
     have := h.2 (sg.length - 1) (by omega)
     exact ⟨sg.length - 1, by omega, by dsimp only; omega, by dsimp only; omega, Int.le_refl _⟩
theorem rnd_hull {a d L : Int} (hd : 0 <= d /\ d <= L) (hL : 0 < L) : (0 <= a -> 0 <= rnd (a * d) L /\ rnd (a * d) L <= a) /\ (a <= 0 -> a <= rnd (a * d) L /\ rnd (a * d) L <= 0) := by
 unfold rnd
 refine ⟨fun ha => ?_, fun ha => ?_⟩
 . have h1 := Int.mul_nonneg ha hd.1
   have h2 : a * d <= a * L := Int.mul_le_mul_of_nonneg_left hd.2 ha
   refine ⟨Int.ediv_nonneg (by omega) (by omega), Int.lt_add_one_iff.1 (Int.ediv_lt_of_lt_mul (by omega) ?_)⟩
   have : (a + 1) * (2 * L) = 2 * (a * L) + 2 * L := by grind
   omega
 . have h1 : a * d <= 0 := Int.mul_nonpos_of_nonpos_of_nonneg ha hd.1
   have h2 : a * L <= a * d := Int.mul_le_mul_of_nonpos_left ha hd.2
   refine ⟨Int.le_ediv_of_mul_le (by omega) ?_, Int.lt_add_one_iff.1 (Int.ediv_lt_of_lt_mul (by omega) (by omega))⟩
   have : a * (2 * L) = 2 * (a * L) := by grind
   omega
theorem mul_bd3 {a d : Int} (ha : -1073741824 <= a /\ a <= 1073741824) (hd : 0 <= d /\ d <= 4294967296) : -4611686018427387904 <= a * d /\ a * d <= 4611686018427387904 := by
 have := mul_bd2 (a := a) (b := d) (A := 1073741824) (B := 4294967296) ha hd
 omega
theorem coord_bd {s : Int} {sg : List (List Int)} {c : Nat} {j : Nat} {d : Int} (hl : okLen sg) (h0 : -536870912 <= s /\ s <= 536870912) (h : ∀ j, j < sg.length -> -536870912 <= ec sg j c /\ ec sg j c <= 536870912) (hj : j < sg.length) (hd : 0 <= d /\ d <= ec sg j 3) :
 (-1073741824 <= ec sg j c - bgn s sg c j /\ ec sg j c - bgn s sg c j <= 1073741824) /\ (-4611686018427387904 <= (ec sg j c - bgn s sg c j) * d /\ (ec sg j c - bgn s sg c j) * d <= 4611686018427387904) /\
 (-536870912 <= bgn s sg c j + rnd ((ec sg j c - bgn s sg c j) * d) (ec sg j 3) /\ bgn s sg c j + rnd ((ec sg j c - bgn s sg c j) * d) (ec sg j 3) <= 536870912) := by
 have b := bgn_bd (i := (j : Int)) h0 h (by omega)
 have e := h j hj
 have len := hl.2 j hj
 have m := mul_bd3 (a := ec sg j c - bgn s sg c j) (d := d) (by omega) (by omega)
 have hu := rnd_hull (a := ec sg j c - bgn s sg c j) hd (by omega)
 refine ⟨by omega, m, ?_⟩
 by_cases hs : 0 <= ec sg j c - bgn s sg c j
 . have := hu.1 hs; omega
 . have := hu.2 (by omega); omega
theorem ptAt_bd {s : Int} {sg : List (List Int)} {c : Nat} (hl : okLen sg) (h0 : -536870912 <= s /\ s <= 536870912) (h : ∀ j, j < sg.length -> -536870912 <= ec sg j c /\ ec sg j c <= 536870912) (p : Int) : -536870912 <= ptAt s sg c p /\ ptAt s sg c p <= 536870912 := by
 unfold ptAt
 rcases pfind_spec hl p with ⟨h1, h2⟩ | ⟨j, h1, h2, h3, h4⟩
 . rw [h2]; exact h0
 . rw [if_neg (by omega), h2]
   exact (coord_bd hl h0 h h1 ⟨h3, h4⟩).2.2
theorem clamp_bd {n v : Int} (h : 0 <= n) : 0 <= clamp n v /\ clamp n v <= n := by unfold clamp; omega
theorem clamp_idem {n v : Int} (h : 0 <= n) : clamp n (clamp n v) = clamp n v := by unfold clamp; omega
theorem clamp_in {n v : Int} (h : 0 <= v /\ v <= n) : clamp n v = v := by unfold clamp; omega
theorem tpcA_of (u : Int) : ∀ (l : List (List Int)) (i : Int) (j : Nat), j < l.length -> u <= endp l j -> (∀ k, k < j -> endp l k < u) -> tpcA l i u = i + j
 | [], i, j, h, _, _ => absurd h (Nat.not_lt_zero _)
 | r :: l, i, 0, _, h, _ => by
  unfold tpcA
  have h : u <= r.getD 0 0 + r.getD 1 0 := h
  rw [if_pos h]; simp
 | r :: l, i, j + 1, hj, h, hk => by
  unfold tpcA
  have h0 := hk 0 (by omega)
  have h0 : r.getD 0 0 + r.getD 1 0 < u := h0
  rw [if_neg (by omega), tpcA_of u l (i + 1) j (by simpa using hj) h (fun k hk' => hk (k + 1) (by omega))]
  omega
theorem tpcA_spec (u : Int) : ∀ (l : List (List Int)) (i : Int), (tpcA l i u = -1 /\ ∀ j, j < l.length -> endp l j < u) ∨ ∃ j : Nat, j < l.length /\ tpcA l i u = i + j /\ u <= endp l j /\ ∀ k, k < j -> endp l k < u
 | [], i => .inl ⟨rfl, fun j hj => absurd hj (Nat.not_lt_zero _)⟩
 | r :: l, i => by
  unfold tpcA
  by_cases h : u <= r.getD 0 0 + r.getD 1 0
  . rw [if_pos h]
    exact .inr ⟨0, by simp, by simp, h, fun k hk => absurd hk (Nat.not_lt_zero _)⟩
  . rw [if_neg h]
    have h0 : endp (r :: l) 0 < u := by show r.getD 0 0 + r.getD 1 0 < u; omega
    rcases tpcA_spec u l (i + 1) with ⟨h1, h2⟩ | ⟨j, h1, h2, h3, h4⟩
    . refine .inl ⟨h1, fun j hj => ?_⟩
      cases j with
      | zero => exact h0
      | succ j => exact h2 j (by simpa using hj)
    . refine .inr ⟨j + 1, by simp; exact h1, by rw [h2]; omega, h3, fun k hk => ?_⟩
      cases k with
      | zero => exact h0
      | succ k => exact h4 k (by omega)
theorem tfind_of {pk : List (List Int)} {u : Int} {j : Nat} (h : j < pk.length) (h1 : u <= endp pk j) (h2 : ∀ k, k < j -> endp pk k < u) : tfind pk u = j := by
 unfold tfind; rw [tpcA_of u pk 0 j h h1 h2]; omega
theorem endp_step {pk : List (List Int)} {ln : Int} (h : okTrk pk ln) {j : Nat} (hj : j + 1 < pk.length) : endp pk j < endp pk (j + 1) := by
 obtain ⟨_, _, _, _, h5, h6⟩ := h
 have a := h5 j hj
 have b := (h6 (j + 1) hj).1
 unfold endp at *
 omega
theorem endp_mono {pk : List (List Int)} {ln : Int} (h : okTrk pk ln) {i : Nat} : ∀ k : Nat, i + k < pk.length -> endp pk i <= endp pk (i + k)
 | 0, _ => Int.le_refl _
 | k + 1, hk => by
  have h1 := endp_mono h (i := i) k (by omega)
  have h2 := endp_step h (j := i + k) (by omega)
  have : i + (k + 1) = i + k + 1 := rfl
  rw [this]; omega
theorem endp_le {pk : List (List Int)} {ln : Int} (h : okTrk pk ln) {i j : Nat} (hij : i <= j) (hj : j < pk.length) : endp pk i <= endp pk j := by
 have := endp_mono h (i := i) (j - i) (by omega)
 rw [show i + (j - i) = j by omega] at this
 exact this
theorem at_bd {pk : List (List Int)} {ln : Int} (h : okTrk pk ln) {j : Nat} (hj : j < pk.length) : 0 <= ec pk j 0 /\ ec pk j 0 < endp pk j /\ endp pk j <= ln := by
 have hu := (h.2.2.2.2.2 j hj).1
 have h4 := h.2.2.2.1 (by omega)
 have hl := endp_le h (i := j) (j := pk.length - 1) (by omega) (by omega)
 have e : endp pk j = ec pk j 0 + ec pk j 1 := rfl
 refine ⟨?_, by omega, by omega⟩
 cases j with
 | zero => omega
 | succ i =>
  have h5 := h.2.2.2.2.1 i hj
  have h0 := endp_le h (i := 0) (j := i) (by omega) (by omega)
  have hu0 := (h.2.2.2.2.2 0 (by omega)).1
  have e0 : endp pk 0 = ec pk 0 0 + ec pk 0 1 := rfl
  omega
theorem tfind_spec {pk : List (List Int)} {ln u : Int} (h : okTrk pk ln) (hu : u <= ln) : (pk.length = 0 /\ tfind pk u = -1) ∨ ∃ j : Nat, j < pk.length /\ tfind pk u = j /\ u <= endp pk j /\ ∀ k, k < j -> endp pk k < u := by
 unfold tfind
 rcases tpcA_spec u pk 0 with ⟨h1, h2⟩ | ⟨j, h1, h2, h3, h4⟩
 . left
   refine ⟨?_, h1⟩
   by_cases h0 : pk.length = 0
   . exact h0
   . have a := h2 (pk.length - 1) (by omega)
     have b := h.2.2.2.1 (by omega)
     omega
 . exact .inr ⟨j, h1, by omega, h3, h4⟩
theorem mul3 {m x B : Int} (hm : -1 <= m /\ m <= 1) (hx : -B <= x /\ x <= B) : -B <= m * x /\ m * x <= B := by
 have : m = -1 ∨ m = 0 ∨ m = 1 := by omega
 rcases this with rfl | rfl | rfl <;> omega
theorem tplace_bd {pk : List (List Int)} {ln sa u : Int} (h : okTrk pk ln) (hsa : 0 <= sa /\ sa <= 18014398509481984) (hu : 0 <= u /\ u <= ln) : -36028797018963968 <= tplace pk sa u /\ tplace pk sa u <= 36028797018963968 := by
 unfold tplace
 rcases tfind_spec h hu.2 with ⟨h1, h2⟩ | ⟨j, h1, h2, h3, h4⟩
 . rw [h2, if_pos (by decide)]; omega
 . rw [if_neg (by omega), h2]
   have hj : ((j : Int)).toNat = j := rfl
   rw [hj]
   have a := at_bd h h1
   have b := h.2.2.2.2.2 j h1
   have hl := h.2.1
   have c := mul3 (x := u - ec pk j 0) (B := 18014398509481984) b.2.2 (by omega)
   omega
end U
namespace Go.Proofs.YtneingpnkdeooaaGreat
open Go Go.HL U
attribute [local irreducible] hfun bodyT fragT
theorem sClamp : Sound Tryz.prog 42 SClamp := by
 refine sound_of (C := CClamp) [] Tryz.func42 (by kernel_rfl) (by decide +kernel) (by kernel_rfl) rfl trivial (loops0 (by kernel_rfl)) ?_
 intro hA pA R h
 unfold SClamp at h
 split at h
 case h_2 => exfalso; exact h
 rename_i v n
 refine byVC (vcClamp v n R) ?_
 rintro _ rfl x2 e2
 have := h.1
 have e : clamp n v = x2 := by unfold clamp; omega
 rw [<- e]; exact h.2
theorem loopTF : ∀ v Q, (LTF v).wp Q -> hloop CTF anTF (nthLoop Tryz.f43 0) v Q := by
 intro v Q h
 unfold LTF at h
 split at h
 case h_2 => exact h.elim
 rename_i u z lo hi pk ln sa d0 d1 d2
 obtain ⟨⟨hlo, hhi, ht, hu0, hu1⟩, hq⟩ := h
 subst hlo hhi
 refine hloop_rec (σ := Int × Int) (fun s => ([.ce (.int .i64 u), .ce (.ptr 1000002 0), .ce (.int .i64 z), .ce (.int .i64 s.1), .ce (.int .i64 s.2)], [[.sl false [4, 4, 4, 4, 4, 4, 4, 4, 4, 4] pk, .int .i64 ln, .int .i64 sa, .int .i64 d0, .int .i64 d1, .int .i64 d2]]))
  (fun s => (s.2 - s.1).toNat) (fun s => (pk.length = 0 /\ s = (0, -1)) ∨ ((0 <= s.1 /\ s.1 <= s.2 /\ s.2 < pk.length) /\ u <= endp pk s.2.toNat /\ ∀ k : Nat, (k : Int) < s.1 -> endp pk k < u)) ?_ (0, (pk.length : Int) - 1) ?_
 . rintro ⟨lo, hi⟩ hI K hn hx _
   dsimp only at hI hn ⊢
   have hl1 := ht.1
   refine byVB (vbTF u z lo hi ln sa d0 d1 d2 pk K) ⟨fun g => ?_, fun g => ?_⟩
   . have g := of_decide_eq_true g
     rcases hI with ⟨h1, h2⟩ | ⟨⟨h1, h2, h3⟩, h4, h5⟩
     . cases h2; omega
     refine ⟨by omega, fun x1 e1 => ⟨by decide, ?_⟩⟩
     have hd : x1.tdiv 2 = x1 / 2 := Int.tdiv_eq_ediv_of_nonneg (by omega)
     rw [hd]
     refine ⟨by omega, fun x2 e2 => ⟨by omega, ?_⟩⟩
     have hb := at_bd ht (j := x2.toNat) (by omega)
     have hln := ht.2.1
     have ee : el pk x2.toNat + ec pk x2.toNat 1 = endp pk x2.toNat := rfl
     rw [ee]
     refine ⟨by omega, fun x3 e3 => ⟨fun g2 => ?_, fun g2 => ⟨by omega, fun x4 e4 => ?_⟩⟩⟩
     . have g2 := of_decide_eq_true g2
       exact hn (lo, x2) (.inr ⟨⟨h1, by dsimp only; omega, by dsimp only; omega⟩, by dsimp only; omega, h5⟩) (by dsimp only; omega)
     . have g2 := of_decide_eq_false g2
       refine hn (x4, hi) (.inr ⟨⟨by dsimp only; omega, by dsimp only; omega, h3⟩, h4, fun k hk => ?_⟩) (by dsimp only; omega)
       have := endp_le ht (i := k) (j := x2.toNat) (by dsimp only at hk; omega) (by omega)
       omega
   . have g := of_decide_eq_false g
     have e : tfind pk u = hi := by
      rcases hI with ⟨h1, h2⟩ | ⟨⟨h1, h2, h3⟩, h4, h5⟩
      . cases h2
        have : pk = [] := List.eq_nil_of_length_eq_zero h1
        subst this; rfl
      . have := tfind_of (pk := pk) (u := u) (j := hi.toNat) (by omega) h4 (fun k hk => h5 k (by omega))
        omega
     rw [e] at hq
     exact hx 0 _ hq
 . by_cases h0 : pk.length = 0
   . exact .inl ⟨h0, by rw [h0]; rfl⟩
   . have h4 := ht.2.2.2.1 (by omega)
     refine .inr ⟨⟨Int.le_refl _, by dsimp only; omega, by dsimp only; omega⟩, ?_, fun k hk => by dsimp only at hk; omega⟩
     dsimp only
     rw [show ((pk.length : Int) - 1).toNat = pk.length - 1 by omega]
     omega
theorem sTFind : Sound Tryz.prog 43 STFind := by
 refine sound_of (C := CTF) [] Tryz.func43 (by kernel_rfl) (by decide +kernel) (by kernel_rfl) rfl trivial (loops1 (by kernel_rfl) (loopOK_of (an := anTF) (S := LTF) (by kernel_rfl) loopTF)) ?_
 intro hA pA R h
 unfold STFind at h
 split at h
 case h_2 => exfalso; exact h
 rename_i pk ln sa d0 d1 d2 u
 obtain ⟨⟨h1, h2, h3⟩, hq⟩ := h
 have := h1.1
 exact byVC (vcTF u ln sa d0 d1 d2 pk R) ⟨by omega, fun x1 e1 => ⟨⟨rfl, e1, h1, h2, h3⟩, hq⟩⟩
theorem sPlace : Sound Tryz.prog 21 SPlace := by
 refine sound_of (C := CPlace) tabTF Tryz.func21 (by kernel_rfl) (by decide +kernel) (by kernel_rfl) rfl ⟨sClamp, sTFind, trivial⟩ (loops0 (by kernel_rfl)) ?_
 intro hA pA R h
 unfold SPlace at h
 split at h
 case h_2 => exfalso; exact h
 rename_i pk ln sa d0 d1 d2 u
 obtain ⟨ht, hq⟩ := h
 have hl := ht.2.1
 have hc := clamp_bd (v := u) hl.1
 unfold tplace at hq
 refine byVC (vcPlace u ln sa d0 d1 d2 pk R) ⟨hl.1, fun x1 e1 => ?_⟩
 rw [<- e1] at hq hc
 refine ⟨⟨ht, hc⟩, fun x2 e2 => ?_⟩
 rw [<- e2] at hq
 refine ⟨fun g => ?_, fun g => ?_⟩
 . rw [if_pos (of_decide_eq_true g)] at hq; exact hq
 . have g := of_decide_eq_false g
   rw [if_neg g] at hq
   rcases tfind_spec ht hc.2 with ⟨h1, h2⟩ | ⟨j, h1, h2, h3, h4⟩
   . omega
   have hj : x2.toNat = j := by omega
   have a := at_bd ht h1
   have b := ht.2.2.2.2.2 j h1
   rw [hj] at hq ⊢
   refine ⟨by omega, fun x3 e3 => ⟨by omega, fun x4 e4 => ⟨by omega, fun x5 e5 => ?_⟩⟩⟩
   have e5 : x5 = ec pk j 0 := e5
   have c := mul3 (m := x4) (x := x1 - x5) (B := 18014398509481984) (by omega) (by omega)
   refine ⟨by omega, fun x6 e6 => ?_⟩
   rw [<- e6] at c
   refine ⟨by omega, fun x7 e7 => ⟨by omega, fun x8 e8 => ?_⟩⟩
   rw [e8, e7, e6, e5, e4, e3]
   exact hq
theorem sLoose : Sound Tryz.prog 29 SLoose := by
 refine sound_of (C := CLoose) tabTF Tryz.func29 (by kernel_rfl) (by decide +kernel) (by kernel_rfl) rfl ⟨sClamp, sTFind, trivial⟩ (loops0 (by kernel_rfl)) ?_
 intro hA pA R h
 unfold SLoose at h
 split at h
 case h_2 => exfalso; exact h
 rename_i pk ln sa d0 d1 d2 u
 obtain ⟨ht, hq⟩ := h
 have hl := ht.2.1
 have hc := clamp_bd (v := u) hl.1
 unfold tloose at hq
 refine byVC (vcLoose u ln sa d0 d1 d2 pk R) ⟨hl.1, fun x1 e1 => ?_⟩
 rw [<- e1] at hq hc
 refine ⟨⟨ht, hc⟩, fun x2 e2 => ?_⟩
 rw [<- e2] at hq
 refine ⟨fun g => ?_, fun g => ?_⟩
 . have g := of_decide_eq_true g
   rw [decide_eq_false (by omega)] at hq; exact hq
 . have g := of_decide_eq_false g
   rw [decide_eq_true (by omega)] at hq
   rcases tfind_spec ht hc.2 with ⟨h1, h2⟩ | ⟨j, h1, h2, h3, h4⟩
   . omega
   have hj : x2.toNat = j := by omega
   have a := at_bd ht h1
   rw [hj] at hq ⊢
   refine ⟨by omega, fun g2 => ⟨fun g3 => ⟨?_, fun x3 e3 => ?_⟩, fun g3 => ?_⟩, fun g2 => ?_⟩
   . show -9223372036854775808 <= endp pk j /\ endp pk j <= 9223372036854775807
     omega
   . have e3 : x3 = endp pk j := e3
     have g3 : decide (ec pk j 0 < x1) = true := g3
     rw [g2, g3, <- e3] at hq; exact hq
   . have g3 : decide (ec pk j 0 < x1) = false := g3
     rw [g3, Bool.and_false] at hq; exact hq
   . rw [g2] at hq; exact hq
theorem sBsh : Sound Tryz.prog 44 SBsh := by
 refine sound_of (C := CBsh) [] Tryz.func44 (by kernel_rfl) (by decide +kernel) (by kernel_rfl) rfl trivial (loops0 (by kernel_rfl)) ?_
 intro hA pA R h
 unfold SBsh at h
 split at h
 case h_2 => exfalso; exact h
 rename_i sta spa aca jea loa hia bla oga sga pta d
 obtain ⟨h1, hq⟩ := h
 unfold bsh at hq
 refine byVC (vcBsh sta spa aca jea loa hia bla oga sga pta d R) ⟨fun g => ⟨by omega, fun x1 e1 => ?_⟩, fun g => ?_⟩
 . rw [if_pos (by simpa using g)] at hq
   rw [show x1 = -bla by omega]; exact hq
 . rw [if_neg (by simpa using g)] at hq; exact hq
theorem mdv2 (n c : Int) : mdv n c 2 = rnd n c := by unfold mdv rnd; simp
theorem sAt : Sound Tryz.prog 23 SAt := by
 refine sound_of (C := CAt) tabAt Tryz.func23 (by kernel_rfl) (by decide +kernel) (by kernel_rfl) rfl ⟨sPFind, sMulDiv, trivial⟩ (loopsAll (by kernel_rfl)) ?_
 intro hA pA R h
 unfold SAt at h
 split at h
 case h_2 => exfalso; exact h
 rename_i s0 s1 s2 sg mk p
 obtain ⟨⟨hl, ⟨k0, k1, k2, kk⟩, hp⟩, hq⟩ := h
 unfold ptAt at hq
 refine byVC (vcAt s0 s1 s2 p sg mk R) ⟨⟨hl, hp⟩, ⟨_, rfl⟩, fun x ex => ?_⟩
 have sp := pfind_spec hl p
 rw [<- ex] at sp hq
 rcases sp with ⟨h1, h2⟩ | ⟨j, h1, h2, h3, h4⟩
 . rw [h2] at hq ⊢
   exact ⟨fun _ => hq, fun g => absurd g (by decide)⟩
 rw [if_neg (by omega), if_neg (by omega), if_neg (by omega), h2] at hq
 have hj : ((j : Int)).toNat = j := rfl
 rw [hj] at hq
 have hlen := hl.2 j h1
 have hl1 := hl.1
 have c0 := coord_bd hl k0 (fun j hj => (kk j hj).1) h1 ⟨h3, h4⟩
 have c1 := coord_bd hl k1 (fun j hj => (kk j hj).2.1) h1 ⟨h3, h4⟩
 have c2 := coord_bd hl k2 (fun j hj => (kk j hj).2.2) h1 ⟨h3, h4⟩
 have hx1 : x.1.toNat = j := by omega
 rw [hx1]
 refine ⟨fun g => ?_, fun g => ⟨fun g2 => ?_, fun g2 => ?_⟩⟩
 . have g := of_decide_eq_true g; omega
 . have g2 := of_decide_eq_true g2
   refine ⟨by omega, fun x2 e2 => ⟨by omega, by omega, ?_⟩⟩
   have hx2 : x2.toNat = j - 1 := by omega
   rw [hx2]
   have b : ∀ s c, bgn s sg c (j : Int) = ec sg (j - 1) c := fun s c => by
    unfold bgn; rw [if_neg (by omega), show ((j : Int) - 1).toNat = j - 1 by omega]
   rw [b, b, b] at hq
   rw [b] at c0 c1 c2
   have c0 : (-1073741824 <= el sg j - el sg (j - 1) /\ el sg j - el sg (j - 1) <= 1073741824) /\ (-4611686018427387904 <= (el sg j - el sg (j - 1)) * x.2 /\ (el sg j - el sg (j - 1)) * x.2 <= 4611686018427387904) /\
    (-536870912 <= el sg (j - 1) + rnd ((el sg j - el sg (j - 1)) * x.2) (ec sg j 3) /\ el sg (j - 1) + rnd ((el sg j - el sg (j - 1)) * x.2) (ec sg j 3) <= 536870912) := c0
   refine ⟨by omega, ?_⟩
   rintro _ rfl
   refine ⟨⟨by omega, by omega, by omega, c0.2.1, by decide, by decide⟩, ?_⟩
   rw [mdv2]
   rintro _ rfl _ _
   refine ⟨by omega, ?_⟩
   rintro _ rfl
   refine ⟨by omega, ?_⟩
   rintro _ rfl
   refine ⟨⟨by omega, by omega, by omega, c1.2.1, by decide, by decide⟩, ?_⟩
   rw [mdv2]
   rintro _ rfl _ _
   refine ⟨by omega, ?_⟩
   rintro _ rfl
   refine ⟨by omega, ?_⟩
   rintro _ rfl
   refine ⟨⟨by omega, by omega, by omega, c2.2.1, by decide, by decide⟩, ?_⟩
   rw [mdv2]
   rintro _ rfl _ _
   refine ⟨by omega, ?_⟩
   rintro _ rfl
   exact hq
 . have g2 := of_decide_eq_false g2
   refine ⟨by omega, ?_⟩
   have b : ∀ s c, bgn s sg c (j : Int) = s := fun s c => by
    unfold bgn; rw [if_pos (by omega)]
   rw [b, b, b] at hq
   rw [b] at c0 c1 c2
   have c0 : (-1073741824 <= el sg j - s0 /\ el sg j - s0 <= 1073741824) /\ (-4611686018427387904 <= (el sg j - s0) * x.2 /\ (el sg j - s0) * x.2 <= 4611686018427387904) /\
    (-536870912 <= s0 + rnd ((el sg j - s0) * x.2) (ec sg j 3) /\ s0 + rnd ((el sg j - s0) * x.2) (ec sg j 3) <= 536870912) := c0
   refine ⟨by omega, ?_⟩
   rintro _ rfl
   refine ⟨⟨by omega, by omega, by omega, c0.2.1, by decide, by decide⟩, ?_⟩
   rw [mdv2]
   rintro _ rfl _ _
   refine ⟨by omega, ?_⟩
   rintro _ rfl
   refine ⟨by omega, ?_⟩
   rintro _ rfl
   refine ⟨⟨by omega, by omega, by omega, c1.2.1, by decide, by decide⟩, ?_⟩
   rw [mdv2]
   rintro _ rfl _ _
   refine ⟨by omega, ?_⟩
   rintro _ rfl
   refine ⟨by omega, ?_⟩
   rintro _ rfl
   refine ⟨⟨by omega, by omega, by omega, c2.2.1, by decide, by decide⟩, ?_⟩
   rw [mdv2]
   rintro _ rfl _ _
   refine ⟨by omega, ?_⟩
   rintro _ rfl
   exact hq
theorem tsh_fin {bl mv w d at_ u : Int} {R : Res -> Prop} (hb : 0 <= bl /\ bl <= 4096) (hu : -18014398509481984 <= u /\ u <= 18014398509481984) (ha : -18014398509481984 <= at_ /\ at_ <= 18014398509481984) (hq : R ⟨.ce (.int .i64 (tsh bl mv w d at_ u)), false, [], []⟩) :
 ((mv != 0) = true -> (0 <= bl /\ bl <= 4096) /\ ∀ x1 : Int, x1 = bsh bl d -> R ⟨.ce (.int .i64 x1), false, [], []⟩) /\
 ((mv != 0) = false -> ((w == d) = true -> (0 <= bl /\ bl <= 4096) /\ ∀ x2 : Int, x2 = bsh bl d -> R ⟨.ce (.int .i64 x2), false, [], []⟩) /\
  ((w == d) = false -> (-9223372036854775808 <= u - at_ /\ u - at_ <= 9223372036854775807) /\ ∀ x3 : Int, x3 = u - at_ -> ∀ x4 : Int, x4 = min x3 bl ->
   ((d == -1) = true -> (-9223372036854775808 <= 0 - x4 /\ 0 - x4 <= 9223372036854775807) /\ ∀ x5 : Int, x5 = 0 - x4 -> R ⟨.ce (.int .i64 x5), false, [], []⟩) /\
   ((d == -1) = false -> (-9223372036854775808 <= x4 - bl /\ x4 - bl <= 9223372036854775807) /\ ∀ x6 : Int, x6 = x4 - bl -> R ⟨.ce (.int .i64 x6), false, [], []⟩))) := by
 unfold tsh at hq
 refine ⟨fun g => ⟨hb, fun x e => ?_⟩, fun g => ⟨fun g2 => ⟨hb, fun x e => ?_⟩, fun g2 => ⟨by omega, fun x3 e3 x4 e4 => ⟨fun g3 => ⟨by omega, fun x e => ?_⟩, fun g3 => ⟨by omega, fun x e => ?_⟩⟩⟩⟩⟩
 . have g : mv ≠ 0 := by simpa using g
   rw [if_pos (.inl g)] at hq; rw [e]; exact hq
 . have g2 : w = d := by simpa using g2
   rw [if_pos (.inr g2)] at hq; rw [e]; exact hq
 . have g : mv = 0 := by simpa using g
   have g2 : w ≠ d := by simpa using g2
   have g3 : d = -1 := by simpa using g3
   rw [if_neg (by intro hh; rcases hh with h | h; exact h g; exact g2 h), if_pos g3] at hq
   rw [show x = -(min (u - at_) bl) by omega]; exact hq
 . have g : mv = 0 := by simpa using g
   have g2 : w ≠ d := by simpa using g2
   have g3 : d ≠ -1 := by simpa using g3
   rw [if_neg (by intro hh; rcases hh with h | h; exact h g; exact g2 h), if_neg g3] at hq
   rw [show x = min (u - at_) bl - bl by omega]; exact hq
theorem sTsh : Sound Tryz.prog 45 STsh := by
 refine sound_of (C := CTsh) tabTsh Tryz.func45 (by kernel_rfl) (by decide +kernel) (by kernel_rfl) rfl ⟨sBsh, trivial⟩ (loops0 (by kernel_rfl)) ?_
 intro hA pA R h
 unfold STsh at h
 split at h
 case h_2 => exfalso; exact h
 rename_i sta spa aca jea loa hia bla oga sga pta q0 q1 q2 q3 q4 q5 q6 q7 q8 q9 k u
 obtain ⟨⟨hk, hb, hu, ha⟩, hq⟩ := h
 refine byVC (vcTsh sta spa aca jea loa hia bla oga sga pta q0 q1 q2 q3 q4 q5 q6 q7 q8 q9 k u R) ⟨fun e => ?_, fun e => ⟨fun e2 => ?_, fun e2 => ⟨fun e3 => ?_, fun e3 => by omega⟩⟩⟩
 . subst e; exact tsh_fin hb hu ha hq
 . subst e2; exact tsh_fin hb hu ha hq
 . subst e3; exact tsh_fin hb hu ha hq
theorem bsh_bd {bl d : Int} (h : 0 <= bl /\ bl <= 4096) : -4096 <= bsh bl d /\ bsh bl d <= 0 := by unfold bsh; split <;> omega
theorem tsh_bd {bl mv w d at_ u : Int} (h : 0 <= bl /\ bl <= 4096) (hu : at_ <= u) : -4096 <= tsh bl mv w d at_ u /\ tsh bl mv w d at_ u <= 0 := by
 have := bsh_bd (d := d) h
 unfold tsh
 split
 . exact this
 . split <;> omega
theorem motr_bd {st og sg p : Int} {pit : List (List Int)} (h : 0 < st) (hc : okC og sg pit) (hp : -1073741824 <= p /\ p <= 1073741824) : -2199023255552 <= mot st og sg pit p /\ mot st og sg pit p <= 2199023255554 := by
 have hb := corr_bd hc p
 rw [<- stp_eq]
 exact stp_bd h (by omega)
theorem sMotors : Sound Tryz.prog 19 SMotors := by
 refine sound_of (C := CMotors) tabMotors Tryz.func19 (by kernel_rfl) (by decide +kernel) (by kernel_rfl) rfl ⟨sClamp, sPlace, sAt, sTFind, sMotor, sBsh, sTsh, trivial⟩ (loopsAll (by kernel_rfl)) ?_
 intro hA pA R h
 unfold SMotors at h
 split at h
 case h_2 => exfalso; exact h
 rename_i s0 s1 s2 sg mk ax pk ln sa d0 d1 d2 u
 split at h
 case h_2 => exact h.elim
 rename_i sta spa aca jea loa hia bla oga sga pta stb spb acb jeb lob hib blb ogb sgb ptb stc spc acc jec loc hic blc ogc sgc ptc
 obtain ⟨⟨hl, ⟨k0, k1, k2, kk⟩, ht, ma, mb, mc, hsa⟩, hq⟩ := h
 have hln := ht.2.1
 have hc := clamp_bd (v := u) hln.1
 unfold tmot at hq
 refine byVC (vcMotors s0 s1 s2 u ln sa d0 d1 d2 sg mk pk sta spa aca jea loa hia bla oga sga stb spb acb jeb lob hib blb ogb sgb stc spc acc jec loc hic blc ogc sgc pta ptb ptc R) ⟨hln.1, fun x1 e1 => ⟨ht, fun x2 e2 => ?_⟩⟩
 have hci := clamp_idem (v := u) hln.1
 rw [<- e1] at hq hc hci
 rw [hci] at e2
 have hx2 := tplace_bd ht hsa hc
 rw [<- e2] at hq hx2
 refine ⟨⟨hl, ⟨k0, k1, k2, kk⟩, by omega⟩, fun x3 e3 x4 e4 x5 e5 => ?_⟩
 have p0 := ptAt_bd hl k0 (fun j hj => (kk j hj).1) x2
 have p1 := ptAt_bd hl k1 (fun j hj => (kk j hj).2.1) x2
 have p2 := ptAt_bd hl k2 (fun j hj => (kk j hj).2.2) x2
 rw [<- e3] at hq p0
 rw [<- e4] at hq p1
 rw [<- e5] at hq p2
 refine ⟨⟨ht, hc⟩, fun x6 e6 => ?_⟩
 rw [<- e6] at hq
 have q0 := motr_bd ma.1.1 ma.2.1 (p := x3) (by omega)
 have q1 := motr_bd mb.1.1 mb.2.1 (p := x4) (by omega)
 have q2 := motr_bd mc.1.1 mc.2.1 (p := x5) (by omega)
 refine ⟨⟨ma.1, ma.2.1, by omega⟩, fun x7 e7 => ?_⟩
 rw [<- e7] at hq q0
 rcases tfind_spec ht hc.2 with ⟨h1, h2⟩ | ⟨j, h1, h2, h3, h4⟩
 . have hx6 : x6 < 0 := by omega
   rw [if_pos hx6, if_pos hx6, if_pos hx6] at hq
   have w0 := bsh_bd (d := d0) ma.2.2
   have w1 := bsh_bd (d := d1) mb.2.2
   have w2 := bsh_bd (d := d2) mc.2.2
   have no : ∀ {P : Prop}, decide (x6 < 0) = false -> P := fun g => absurd hx6 (of_decide_eq_false g)
   refine ⟨fun _ => ⟨ma.2.2, fun x8 e8 => ⟨by omega, fun x9 e9 => ⟨⟨mb.1, mb.2.1, by omega⟩, fun x10 e10 => ⟨fun _ => ⟨mb.2.2, fun x11 e11 => ⟨by omega, fun x12 e12 => ⟨⟨mc.1, mc.2.1, by omega⟩, fun x13 e13 => ⟨fun _ => ⟨mc.2.2, fun x14 e14 => ⟨by omega, fun x15 e15 => ?_⟩⟩, no⟩⟩⟩⟩, no⟩⟩⟩⟩, no⟩
   rw [<- e8, <- e10, <- e11, <- e13, <- e14, <- e9, <- e12, <- e15] at hq
   exact hq
 . have hx6 : ¬ x6 < 0 := by omega
   rw [if_neg hx6, if_neg hx6, if_neg hx6] at hq
   have hj : x6.toNat = j := by omega
   rw [hj] at hq ⊢
   have a := at_bd ht h1
   have hat : ec pk j 0 <= x1 := by
    cases j with
    | zero => have := (ht.2.2.2.1 (by omega)).1; omega
    | succ i =>
     have := h4 i (by omega)
     have := ht.2.2.2.2.1 i h1
     omega
   have a0 : -18014398509481984 <= el pk j /\ el pk j <= 18014398509481984 := by
    have : el pk j = ec pk j 0 := rfl
    omega
   have yes : ∀ {P : Prop}, decide (x6 < 0) = true -> P := fun g => absurd (of_decide_eq_true g) hx6
   have w0 := tsh_bd (mv := ec pk j 3) (w := ec pk j 4) (d := ec pk j 7) ma.2.2 hat
   have w1 := tsh_bd (mv := ec pk j 3) (w := ec pk j 5) (d := ec pk j 8) mb.2.2 hat
   have w2 := tsh_bd (mv := ec pk j 3) (w := ec pk j 6) (d := ec pk j 9) mc.2.2 hat
   have hin : 0 <= x6 /\ x6 < (pk.length : Int) := by omega
   have hx1 : -18014398509481984 <= x1 /\ x1 <= 18014398509481984 := by omega
   refine ⟨yes, fun _ => ⟨hin, ⟨by decide, ma.2.2, hx1, a0⟩, fun y0 f0 => ?_⟩⟩
   have f0 : y0 = tsh bla (ec pk j 3) (ec pk j 4) (ec pk j 7) (ec pk j 0) x1 := f0
   rw [<- f0] at w0
   refine ⟨by omega, fun z0 g0 => ⟨⟨mb.1, mb.2.1, by omega⟩, fun x10 e10 => ⟨yes, fun _ => ⟨hin, ⟨by decide, mb.2.2, hx1, a0⟩, fun y1 f1 => ?_⟩⟩⟩⟩
   have f1 : y1 = tsh blb (ec pk j 3) (ec pk j 5) (ec pk j 8) (ec pk j 0) x1 := f1
   rw [<- f1] at w1
   refine ⟨by omega, fun z1 g1 => ⟨⟨mc.1, mc.2.1, by omega⟩, fun x20 e20 => ⟨yes, fun _ => ⟨hin, ⟨by decide, mc.2.2, hx1, a0⟩, fun y2 f2 => ?_⟩⟩⟩⟩
   have f2 : y2 = tsh blc (ec pk j 3) (ec pk j 6) (ec pk j 9) (ec pk j 0) x1 := f2
   rw [<- f2] at w2
   refine ⟨by omega, fun z2 g2 => ?_⟩
   rw [g0, g1, g2, f0, f1, f2, e10, e20]
   exact hq
end Go.Proofs.YtneingpnkdeooaaGreat
namespace U
open Go
def tface (pk : List (List Int)) (d : Int) (c : Nat) (u : Int) : Int :=
 if tfind pk u < 0 then d else if ec pk (tfind pk u).toNat 3 ≠ 0 ∨ u = ec pk (tfind pk u).toNat 0 + ec pk (tfind pk u).toNat 1 then ec pk (tfind pk u).toNat (7 + c) else ec pk (tfind pk u).toNat (4 + c)
end U
namespace Go.Proofs.YtneingpnkdeooaaGreat
open Go Go.HL U
def SFace (hA : List HV) (pA : List (List HC)) : SR :=
 match hA, pA with
 | [.agg [.sl false [4, 4, 4, 4, 4, 4, 4, 4, 4, 4] pk, .int .i64 ln, .int .i64 sa, .int .i64 d0, .int .i64 d1, .int .i64 d2], .ce (.int .i64 u)], [] => .det (okTrk pk ln) ⟨.agg [.int .i64 (tface pk d0 0 (clamp ln u)), .int .i64 (tface pk d1 1 (clamp ln u)), .int .i64 (tface pk d2 2 (clamp ln u))], false, [], []⟩
 | _, _ => .fail
def anFace : LAnn := ⟨[1, 2, 4, 13, 14, 15], [2, 4], [1000002, 1000004], false⟩
def LFace (v : LV) : LR :=
 match v with
 | ([.ce (.int .i64 u), .ce (.ptr 1000002 0), .ce (.ptr 1000004 0), .ce (.sl false [4, 4, 4, 4, 4, 4, 4, 4, 4, 4] l), .ce (.int .i64 n), .ce (.int .i64 i)], [[.sl false [4, 4, 4, 4, 4, 4, 4, 4, 4, 4] pk, .int .i64 ln, .int .i64 sa, .int .i64 d0, .int .i64 d1, .int .i64 d2], [.int .i64 z0, .int .i64 z1, .int .i64 z2]]) =>
  .alts (n = (l.length : Int) /\ i = 0 /\ l = pk /\ okTrk pk ln /\ 0 <= u /\ u <= ln)
   [(tfind pk u < 0, .exit 0, ([.ce (.ptr 1000002 0), .ce (.ptr 1000004 0)], [[.sl false [4, 4, 4, 4, 4, 4, 4, 4, 4, 4] pk, .int .i64 ln, .int .i64 sa, .int .i64 d0, .int .i64 d1, .int .i64 d2], [.int .i64 z0, .int .i64 z1, .int .i64 z2]])),
    (0 <= tfind pk u, .ret, ([.ce (.ptr 1000002 0), .ce (.ptr 1000004 0)], [[.sl false [4, 4, 4, 4, 4, 4, 4, 4, 4, 4] pk, .int .i64 ln, .int .i64 sa, .int .i64 d0, .int .i64 d1, .int .i64 d2], [.int .i64 (tface pk d0 0 u), .int .i64 (tface pk d1 1 u), .int .i64 (tface pk d2 2 u)]]))]
 | _ => .fail
noncomputable def CFace : Ctx := ⟨Tryz.prog, gam [], Tryz.f30.ntmps, [(3, anFace, LFace)], []⟩
theorem vbFace (u n i ln sa d0 d1 d2 z0 z1 z2 : Int) (l pk : List (List Int)) (K : HEx -> LV -> Prop) : (nbodyT true CFace anFace (nthLoop Tryz.f30 0) (([.ce (.int .i64 u), .ce (.ptr 1000002 0), .ce (.ptr 1000004 0), .ce (.sl false [4, 4, 4, 4, 4, 4, 4, 4, 4, 4] l), .ce (.int .i64 n), .ce (.int .i64 i)], [[.sl false [4, 4, 4, 4, 4, 4, 4, 4, 4, 4] pk, .int .i64 ln, .int .i64 sa, .int .i64 d0, .int .i64 d1, .int .i64 d2], [.int .i64 z0, .int .i64 z1, .int .i64 z2]])) K) =
 ((decide (i < n) = true -> (0 <= i /\ i < (l.length : Int)) /\ (-9223372036854775808 <= el l i.toNat + ec l i.toNat 1 /\ el l i.toNat + ec l i.toNat 1 <= 9223372036854775807) /\ ∀ (x1 : Int), x1 = el l i.toNat + ec l i.toNat 1 -> (decide (u > x1) = true -> (-9223372036854775808 <= i + 1 /\ i + 1 <= 9223372036854775807) /\ ∀ (x2 : Int), x2 = i + 1 -> K .normal ([.ce (.int .i64 u), .ce (.ptr 1000002 0), .ce (.ptr 1000004 0), .ce (.sl false [4, 4, 4, 4, 4, 4, 4, 4, 4, 4] l), .ce (.int .i64 n), .ce (.int .i64 x2)], [[.sl false [4, 4, 4, 4, 4, 4, 4, 4, 4, 4] pk, .int .i64 ln, .int .i64 sa, .int .i64 d0, .int .i64 d1, .int .i64 d2], [.int .i64 z0, .int .i64 z1, .int .i64 z2]])) /\ (decide (u > x1) = false -> ((ec l i.toNat 3 != 0) = true -> K .ret ([.ce (.ptr 1000002 0), .ce (.ptr 1000004 0)], [[.sl false [4, 4, 4, 4, 4, 4, 4, 4, 4, 4] pk, .int .i64 ln, .int .i64 sa, .int .i64 d0, .int .i64 d1, .int .i64 d2], [.int .i64 (ec l i.toNat 7), .int .i64 (ec l i.toNat 8), .int .i64 (ec l i.toNat 9)]])) /\
 ((ec l i.toNat 3 != 0) = false -> (-9223372036854775808 <= el l i.toNat + ec l i.toNat 1 /\ el l i.toNat + ec l i.toNat 1 <= 9223372036854775807) /\ ∀ (x3 : Int), x3 = el l i.toNat + ec l i.toNat 1 -> ((u == x3) = true -> K .ret ([.ce (.ptr 1000002 0), .ce (.ptr 1000004 0)], [[.sl false [4, 4, 4, 4, 4, 4, 4, 4, 4, 4] pk, .int .i64 ln, .int .i64 sa, .int .i64 d0, .int .i64 d1, .int .i64 d2], [.int .i64 (ec l i.toNat 7), .int .i64 (ec l i.toNat 8), .int .i64 (ec l i.toNat 9)]])) /\ ((u == x3) = false -> K .ret ([.ce (.ptr 1000002 0), .ce (.ptr 1000004 0)], [[.sl false [4, 4, 4, 4, 4, 4, 4, 4, 4, 4] pk, .int .i64 ln, .int .i64 sa, .int .i64 d0, .int .i64 d1, .int .i64 d2], [.int .i64 (ec l i.toNat 4), .int .i64 (ec l i.toNat 5), .int .i64 (ec l i.toNat 6)]]))))) /\ (decide (i < n) = false -> K (.exit 0) ([.ce (.ptr 1000002 0), .ce (.ptr 1000004 0)], [[.sl false [4, 4, 4, 4, 4, 4, 4, 4, 4, 4] pk, .int .i64 ln, .int .i64 sa, .int .i64 d0, .int .i64 d1, .int .i64 d2], [.int .i64 z0, .int .i64 z1, .int .i64 z2]]))) := by kernel_rfl
theorem vcFace (u ln sa d0 d1 d2 : Int) (pk : List (List Int)) (Q : Res -> Prop) : (nfun true CFace Tryz.f30 (bodyOf Tryz.f30) [.agg [.sl false [4, 4, 4, 4, 4, 4, 4, 4, 4, 4] pk, .int .i64 ln, .int .i64 sa, .int .i64 d0, .int .i64 d1, .int .i64 d2], .ce (.int .i64 u)] [] Q) =
 (∀ (x1 : Int), x1 = min u ln -> ∀ (x2 : Int), x2 = max (0 : Int) x1 -> ((pk.length : Int) = (pk.length : Int) /\ (0 : Int) = 0 /\ pk = pk /\ okTrk pk ln /\ 0 <= x2 /\ x2 <= ln) /\ (tfind pk x2 < 0 -> Q ⟨.agg [.int .i64 d0, .int .i64 d1, .int .i64 d2], false, [], []⟩) /\ (0 <= tfind pk x2 -> Q ⟨.agg [.int .i64 (tface pk d0 (0 : Nat) x2), .int .i64 (tface pk d1 (1 : Nat) x2), .int .i64 (tface pk d2 (2 : Nat) x2)], false, [], []⟩)) := by kernel_rfl
section
attribute [local irreducible] hfun bodyT fragT
theorem tface_of {pk : List (List Int)} {u : Int} {j : Nat} (h : tfind pk u = j) (d : Int) (c : Nat) :
 tface pk d c u = if ec pk j 3 ≠ 0 ∨ u = ec pk j 0 + ec pk j 1 then ec pk j (7 + c) else ec pk j (4 + c) := by
 unfold tface
 rw [h, if_neg (by omega)]
 rfl
theorem loopFace : ∀ v Q, (LFace v).wp Q -> hloop CFace anFace (nthLoop Tryz.f30 0) v Q := by
 intro v Q h
 unfold LFace at h
 split at h
 case h_2 => exact h.elim
 rename_i u l n i pk ln sa d0 d1 d2 z0 z1 z2
 obtain ⟨⟨h1, h2, h3, h4, h5, h6⟩, q0, q1⟩ := h
 subst h1 h2 h3
 refine hloop_rec (σ := Nat) (fun k => ([.ce (.int .i64 u), .ce (.ptr 1000002 0), .ce (.ptr 1000004 0), .ce (.sl false [4, 4, 4, 4, 4, 4, 4, 4, 4, 4] l), .ce (.int .i64 (l.length : Int)), .ce (.int .i64 (k : Int))], [[.sl false [4, 4, 4, 4, 4, 4, 4, 4, 4, 4] l, .int .i64 ln, .int .i64 sa, .int .i64 d0, .int .i64 d1, .int .i64 d2], [.int .i64 z0, .int .i64 z1, .int .i64 z2]]))
  (fun k => l.length - k) (fun k => k <= l.length /\ ∀ j, j < k -> endp l j < u) ?_ 0 ⟨Nat.zero_le _, fun j hj => by omega⟩
 rintro k ⟨hk, hk2⟩ K hn hx hr
 refine byVB (vbFace u l.length k ln sa d0 d1 d2 z0 z1 z2 l l K) ⟨fun g => ?_, fun g => ?_⟩
 . have g := of_decide_eq_true g
   have hkl : k < l.length := by omega
   have ht : Int.toNat (k : Int) = k := rfl
   rw [ht]
   have ab := at_bd h4 hkl
   have lnb := h4.2.1
   have hll := h4.1
   have ee : endp l k = el l k + ec l k 1 := rfl
   refine ⟨by omega, by omega, fun x1 e1 => ⟨fun g1 => ⟨by omega, fun x2 e2 => ?_⟩, fun g1 => ?_⟩⟩
   . have g1 := of_decide_eq_true g1
     rw [show x2 = ((k + 1 : Nat) : Int) by omega]
     refine hn (k + 1) ⟨hkl, fun j hj => ?_⟩ (by omega)
     by_cases hjk : j < k
     . exact hk2 j hjk
     . have : j = k := by omega
       subst this; omega
   . have g1 := of_decide_eq_false g1
     have hf : tfind l u = k := tfind_of hkl (by omega) hk2
     have q := q1 (by omega)
     rw [tface_of hf, tface_of hf, tface_of hf] at q
     refine ⟨fun g3 => ?_, fun g3 => ⟨by omega, fun x3 e3 => ⟨fun g4 => ?_, fun g4 => ?_⟩⟩⟩
     . have g3 : ec l k 3 ≠ 0 := by simpa using g3
       rw [if_pos (.inl g3), if_pos (.inl g3), if_pos (.inl g3)] at q
       exact hr _ q
     . have g4 : u = ec l k 0 + ec l k 1 := by
        have : u = x3 := by simpa using g4
        rw [this, e3]; rfl
       rw [if_pos (.inr g4), if_pos (.inr g4), if_pos (.inr g4)] at q
       exact hr _ q
     . have g3 : ¬ ec l k 3 ≠ 0 := by simpa using g3
       have g4 : ¬ u = ec l k 0 + ec l k 1 := by
        have : ¬ u = x3 := by simpa using g4
        rw [e3] at this; exact this
       have g5 : ¬ (ec l k 3 ≠ 0 ∨ u = ec l k 0 + ec l k 1) := fun h => h.elim g3 g4
       rw [if_neg g5, if_neg g5, if_neg g5] at q
       exact hr _ q
 . have g := of_decide_eq_false g
   refine hx _ _ (q0 ?_)
   rcases tfind_spec h4 h6 with ⟨_, e⟩ | ⟨j, j1, j2, j3, _⟩
   . omega
   . have := hk2 j (by omega)
     omega
theorem sFace : Sound Tryz.prog 30 SFace := by
 refine sound_of (C := CFace) [] Tryz.func30 (by kernel_rfl) (by decide +kernel) (by kernel_rfl) rfl trivial (loops1 (by kernel_rfl) (loopOK_of (an := anFace) (S := LFace) (by kernel_rfl) loopFace)) ?_
 intro hA pA R h
 unfold SFace at h
 split at h
 case h_2 => exfalso; exact h
 rename_i pk ln sa d0 d1 d2 u
 obtain ⟨ht, hq⟩ := h
 have hl := ht.2.1
 refine byVC (vcFace u ln sa d0 d1 d2 pk R) (fun x1 e1 x2 e2 => ?_)
 have e : clamp ln u = x2 := by unfold clamp; omega
 rw [e] at hq
 refine ⟨⟨rfl, rfl, rfl, ht, by omega, by omega⟩, fun g => ?_, fun _ => hq⟩
 unfold tface at hq
 rw [if_pos g, if_pos g, if_pos g] at hq
 exact hq
end
end Go.Proofs.YtneingpnkdeooaaGreat
namespace U
def stl (u v a l p : Int) : Bool := v == 0 && (a == 0 && (l == u && p == u))
end U
namespace Go.Proofs.YtneingpnkdeooaaGreat
open Go Go.HL U
def SStart (hA : List HV) (pA : List (List HC)) : SR :=
 match hA, pA with
 | [.ce (.int .i64 u)], [] => .det (-1099511627776 <= u /\ u <= 1099511627776) ⟨.agg [.int .i64 (u * 256), .int .i64 0, .int .i64 0, .int .i64 (u * 256), .int .i64 (u * 256), .int .i64 (u * 256)], false, [], []⟩
 | _, _ => .fail
def SStill (hA : List HV) (pA : List (List HC)) : SR :=
 match hA, pA with
 | [.agg [.int .i64 u, .int .i64 v, .int .i64 a, .int .i64 l, .int .i64 p, .int .i64 _]], [] => .det True ⟨.ce (.bool (stl u v a l p)), false, [], []⟩
 | _, _ => .fail
def STurn (hA : List HV) (pA : List (List HC)) : SR :=
 match hA, pA with
 | [.agg pa, .agg ax, .agg tr, .agg [.int .i64 u, .int .i64 v, .int .i64 a, .int .i64 l, .int .i64 p, .int .i64 b], .ce (.int .i64 to)], [] => (match pa with
  | [.int .i64 s0, .int .i64 s1, .int .i64 s2, .sl false [4, 4, 4, 4, 4, 4, 4] sgs, .sl false [4, 4, 4] mks] => (match tr with
   | [.sl false [4, 4, 4, 4, 4, 4, 4, 4, 4, 4] pcs, .int .i64 tl, .int .i64 ts, .int .i64 d0, .int .i64 d1, .int .i64 d2] => (match ax with
    | [.int .i64 st0, .int .i64 sp0, .int .i64 ac0, .int .i64 je0, .int .i64 lo0, .int .i64 hi0, .int .i64 bl0, .int .i64 og0, .int .i64 sg0, .sl false [4] pit0, .int .i64 st1, .int .i64 sp1, .int .i64 ac1, .int .i64 je1, .int .i64 lo1, .int .i64 hi1, .int .i64 bl1, .int .i64 og1, .int .i64 sg1, .sl false [4] pit1, .int .i64 st2, .int .i64 sp2, .int .i64 ac2, .int .i64 je2, .int .i64 lo2, .int .i64 hi2, .int .i64 bl2, .int .i64 og2, .int .i64 sg2, .sl false [4] pit2] => .det ((0 <= u /\ u <= 1099511627776) /\ stl u v a l p = false) ⟨.tup [.agg [.sl false [4, 4, 4, 4, 4, 4, 4, 4, 4, 4] [], .int .i64 0, .int .i64 0, .int .i64 0, .int .i64 0, .int .i64 0], .agg [.int .i64 0, .int .i64 0, .int .i64 0, .int .i64 0, .int .i64 0, .int .i64 0], .ce (.bool false)], false, [], []⟩
    | _ => .fail)
   | _ => .fail)
  | _ => .fail)
 | _, _ => .fail
def SAwake (hA : List HV) (pA : List (List HC)) : SR :=
 match hA, pA with
 | [], [] => .det True ⟨.ce (.bool true), false, [], []⟩
 | _, _ => .fail
def tab1 : List (FuncId × HL.Spec) := [(27, SStart), (51, SStill)]
def tab2 : List (FuncId × HL.Spec) := (26, STurn) :: tab1
noncomputable def CStart : Ctx := ⟨Tryz.prog, gam [], 11, [], []⟩
noncomputable def CStill : Ctx := ⟨Tryz.prog, gam [], 25, [], []⟩
noncomputable def CTurn : Ctx := ⟨Tryz.prog, gam tab1, 38, [], []⟩
noncomputable def CAwake : Ctx := ⟨Tryz.prog, gam tab2, 19, [], []⟩
theorem vcStart (u : Int) (Q : Res -> Prop) : (nfun true CStart Tryz.f27 (bodyOf Tryz.f27) [.ce (.int .i64 u)] [] Q) =
 ((-9223372036854775808 <= u * 256 /\ u * 256 <= 9223372036854775807) /\ ∀ (x1 : Int), x1 = u * 256 -> Q ⟨.agg [.int .i64 x1, .int .i64 0, .int .i64 0, .int .i64 x1, .int .i64 x1, .int .i64 x1], false, [], []⟩) := by kernel_rfl
theorem vcStill (u v a l p b : Int) (Q : Res -> Prop) : (nfun true CStill Tryz.f51 (bodyOf Tryz.f51) [.agg [.int .i64 u, .int .i64 v, .int .i64 a, .int .i64 l, .int .i64 p, .int .i64 b]] [] Q) =
 (((v == 0) = true -> ((a == 0) = true -> ((l == u) = true -> Q ⟨.ce (.bool (p == u)), false, [], []⟩) /\ ((l == u) = false -> Q ⟨.ce (.bool false), false, [], []⟩)) /\ ((a == 0) = false -> Q ⟨.ce (.bool false), false, [], []⟩)) /\ ((v == 0) = false -> Q ⟨.ce (.bool false), false, [], []⟩)) := by kernel_rfl
theorem vcTurn (s0 s1 s2 st0 sp0 ac0 je0 lo0 hi0 bl0 og0 sg0 st1 sp1 ac1 je1 lo1 hi1 bl1 og1 sg1 st2 sp2 ac2 je2 lo2 hi2 bl2 og2 sg2 tl ts d0 d1 d2 u v a l p b to : Int) (sgs mks pit0 pit1 pit2 pcs : List (List Int)) (Q : Res -> Prop) : (nfun true CTurn Tryz.f26 (bodyOf Tryz.f26) [.agg [.int .i64 s0, .int .i64 s1, .int .i64 s2, .sl false [4, 4, 4, 4, 4, 4, 4] sgs, .sl false [4, 4, 4] mks], .agg [.int .i64 st0, .int .i64 sp0, .int .i64 ac0, .int .i64 je0, .int .i64 lo0, .int .i64 hi0, .int .i64 bl0, .int .i64 og0, .int .i64 sg0, .sl false [4] pit0, .int .i64 st1, .int .i64 sp1, .int .i64 ac1, .int .i64 je1, .int .i64 lo1, .int .i64 hi1, .int .i64 bl1, .int .i64 og1, .int .i64 sg1, .sl false [4] pit1, .int .i64 st2, .int .i64 sp2, .int .i64 ac2, .int .i64 je2, .int .i64 lo2, .int .i64 hi2, .int .i64 bl2, .int .i64 og2, .int .i64 sg2, .sl false [4] pit2], .agg [.sl false [4, 4, 4, 4, 4, 4, 4, 4, 4, 4] pcs, .int .i64 tl, .int .i64 ts, .int .i64 d0, .int .i64 d1, .int .i64 d2], .agg [.int .i64 u, .int .i64 v, .int .i64 a, .int .i64 l, .int .i64 p, .int .i64 b], .ce (.int .i64 to)] [] Q) =
 ((256 : Int) ≠ (0 : Int) /\ (-9223372036854775808 <= Int.tdiv u 256 /\ Int.tdiv u 256 <= 9223372036854775807) /\ ∀ (x1 : Int), x1 = Int.tdiv u 256 -> True /\ ∀ (x2 : Bool), x2 = stl u v a l p -> ((!x2) = true -> Q ⟨.tup [.agg [.sl false [4, 4, 4, 4, 4, 4, 4, 4, 4, 4] [], .int .i64 0, .int .i64 0, .int .i64 0, .int .i64 0, .int .i64 0], .agg [.int .i64 0, .int .i64 0, .int .i64 0, .int .i64 0, .int .i64 0, .int .i64 0], .ce (.bool false)], false, [], []⟩) /\ ((!x2) = false -> False)) := by kernel_rfl
theorem vcAwake (Q : Res -> Prop) : (nfun true CAwake Tryz.f24 (bodyOf Tryz.f24) [] [] Q) =
 ((((0 : Int) <= 0 /\ (0 : Int) <= 1099511627776) /\ stl (0 : Int) (1 : Int) (0 : Int) (0 : Int) (0 : Int) = false) /\ ∀ (x1 : List (List Int)), x1 = [] -> ∀ (x2 : Int), x2 = 0 -> ∀ (x3 : Int), x3 = 0 -> ∀ (x4 : Int), x4 = 0 -> ∀ (x5 : Int), x5 = 0 -> ∀ (x6 : Int), x6 = 0 -> ∀ (x7 : Int), x7 = 0 -> ∀ (x8 : Int), x8 = 0 -> ∀ (x9 : Int), x9 = 0 -> ∀ (x10 : Int), x10 = 0 -> ∀ (x11 : Int), x11 = 0 -> ∀ (x12 : Int), x12 = 0 -> ∀ (x13 : Bool), x13 = false -> ((-1099511627776 : Int) <= 5 /\ (5 : Int) <= 1099511627776) /\ ∀ (x14 : Int), x14 = 1280 -> ∀ (x15 : Int), x15 = 0 -> ∀ (x16 : Int), x16 = 0 -> ∀ (x17 : Int), x17 = 1280 -> ∀ (x18 : Int), x18 = 1280 -> ∀ (x19 : Int), x19 = 1280 -> True /\ ∀ (x20 : Bool), x20 = stl x14 x15 x16 x17 x18 -> (x20 = true -> Q ⟨.ce (.bool !x13), false, [], []⟩) /\ (x20 = false -> Q ⟨.ce (.bool false), false, [], []⟩)) := by kernel_rfl
theorem sStart : Sound Tryz.prog 27 SStart := by
 refine sound_of (C := CStart) [] Tryz.func27 (by kernel_rfl) (by decide +kernel) (by kernel_rfl) rfl trivial (loops0 (by kernel_rfl)) ?_
 intro hA pA R h
 unfold SStart at h
 split at h
 case h_2 => exfalso; exact h
 rename_i u
 obtain ⟨h1, hq⟩ := h
 refine byVC (vcStart u R) ⟨by omega, fun x e => ?_⟩
 rw [e]; exact hq
theorem sStill : Sound Tryz.prog 51 SStill := by
 refine sound_of (C := CStill) [] Tryz.func51 (by kernel_rfl) (by decide +kernel) (by kernel_rfl) rfl trivial (loops0 (by kernel_rfl)) ?_
 intro hA pA R h
 unfold SStill at h
 split at h
 case h_2 => exfalso; exact h
 rename_i u v a l p b
 obtain ⟨_, hq⟩ := h
 unfold stl at hq
 refine byVC (vcStill u v a l p b R) ⟨fun k => ⟨fun k2 => ⟨fun k3 => ?_, fun k3 => ?_⟩, fun k2 => ?_⟩, fun k => ?_⟩
 . rw [k, k2, k3, Bool.true_and, Bool.true_and, Bool.true_and] at hq; exact hq
 . rw [k, k2, k3, Bool.true_and, Bool.true_and, Bool.false_and] at hq; exact hq
 . rw [k, k2, Bool.true_and, Bool.false_and] at hq; exact hq
 . rw [k, Bool.false_and] at hq; exact hq
theorem sTurn : Sound Tryz.prog 26 STurn := by
 refine sound_of (C := CTurn) tab1 Tryz.func26 (by kernel_rfl) (by decide +kernel) (by kernel_rfl) rfl ⟨sStart, sStill, trivial⟩ (loops0 (by kernel_rfl)) ?_
 intro hA pA R h
 unfold STurn at h
 split at h
 case h_2 => exfalso; exact h
 rename_i pa ax tr u v a l p b to
 split at h
 case h_2 => exact h.elim
 rename_i s0 s1 s2 sgs mks
 split at h
 case h_2 => exact h.elim
 rename_i pcs tl ts d0 d1 d2
 split at h
 case h_2 => exact h.elim
 rename_i st0 sp0 ac0 je0 lo0 hi0 bl0 og0 sg0 pit0 st1 sp1 ac1 je1 lo1 hi1 bl1 og1 sg1 pit1 st2 sp2 ac2 je2 lo2 hi2 bl2 og2 sg2 pit2
 obtain ⟨⟨hu, h1⟩, hq⟩ := h
 refine byVC (vcTurn s0 s1 s2 st0 sp0 ac0 je0 lo0 hi0 bl0 og0 sg0 st1 sp1 ac1 je1 lo1 hi1 bl1 og1 sg1 st2 sp2 ac2 je2 lo2 hi2 bl2 og2 sg2 tl ts d0 d1 d2 u v a l p b to sgs mks pit0 pit1 pit2 pcs R) ?_
 rw [show u.tdiv 256 = u / 256 from tdiv_pos (by omega)]
 refine ⟨by omega, by omega, fun x1 _ => ⟨trivial, fun x2 e2 => ⟨fun _ => hq, fun k => ?_⟩⟩⟩
 rw [e2, h1] at k; cases k
theorem sAwake : Sound Tryz.prog 24 SAwake := by
 refine sound_of (C := CAwake) tab2 Tryz.func24 (by kernel_rfl) (by decide +kernel) (by kernel_rfl) rfl ⟨sTurn, sStart, sStill, trivial⟩ (loops0 (by kernel_rfl)) ?_
 intro hA pA R h
 unfold SAwake at h
 split at h
 case h_2 => exfalso; exact h
 obtain ⟨_, hq⟩ := h
 refine byVC (vcAwake R) ⟨⟨by omega, by decide +kernel⟩, fun _ _ _ _ _ _ _ _ _ _ _ _ _ _ _ _ _ _ _ _ _ _ _ _ x13 e13 => ⟨by omega, fun x14 e14 x15 e15 x16 e16 x17 e17 x18 e18 x19 e19 => ⟨trivial, fun x20 e20 => ⟨fun _ => ?_, fun k => ?_⟩⟩⟩⟩
 . rw [e13]; exact hq
 . rw [e20, e14, e15, e16, e17, e18] at k
   exact absurd k (by decide +kernel)
theorem stl_self (u : Int) : stl u 0 0 u u = true := by unfold stl; simp
end Go.Proofs.YtneingpnkdeooaaGreat
namespace U
open Go
def nl (a b : List Nat) : Prop := a = b
def tn1 (a b m d : Int) : Int := if b > a then m else if b < a then -m else d
def vis (b0 b1 b2 m s n n0 n1 n2 : Int) (pk : List (List Int)) (ln a0 a1 a2 : Int) : List (List Int) × Int :=
 tadd (legTk pk ln (slk b0 b1 b2 a0 a1 a2 n0 n1 n2) s a0 a1 a2 n0 n1 n2).1 (legTk pk ln (slk b0 b1 b2 a0 a1 a2 n0 n1 n2) s a0 a1 a2 n0 n1 n2).2 [0, n, s, m, n0, n1, n2, n0, n1, n2]
end U
namespace Go.Proofs.YtneingpnkdeooaaGreat
open Go Go.HL U
def STnd (hA : List HV) (pA : List (List HC)) : SR :=
 match hA, pA with
 | [.agg [.int .i64 d0, .int .i64 d1, .int .i64 d2], .agg [.int .i64 a0, .int .i64 a1, .int .i64 a2], .agg [.int .i64 b0, .int .i64 b1, .int .i64 b2], .ce (.int .i64 m)], [] =>
  .det (m = 1 ∨ m = -1) ⟨.agg [.int .i64 (tn1 a0 b0 m d0), .int .i64 (tn1 a1 b1 m d1), .int .i64 (tn1 a2 b2 m d2)], false, [], []⟩
 | _, _ => .fail
noncomputable def CTnd : Ctx := ⟨Tryz.prog, gam [], Tryz.f56.ntmps, [(4000002, unrT [1000004, 1000005, 1000006, 1000008], fun _ => .fail)], []⟩
theorem vcTnd (d0 d1 d2 a0 a1 a2 b0 b1 b2 m : Int) (Q : Res -> Prop) : (nfun true CTnd Tryz.f56 (bodyOf Tryz.f56) [.agg [.int .i64 d0, .int .i64 d1, .int .i64 d2], .agg [.int .i64 a0, .int .i64 a1, .int .i64 a2], .agg [.int .i64 b0, .int .i64 b1, .int .i64 b2], .ce (.int .i64 m)] [] Q) =
 ((decide (b0 > a0) = true -> (decide (b1 > a1) = true -> (decide (b2 > a2) = true -> Q ⟨.agg [.int .i64 m, .int .i64 m, .int .i64 m], false, [], []⟩) /\ (decide (b2 > a2) = false -> (decide (b2 < a2) = true -> (-9223372036854775808 <= 0 - m /\ 0 - m <= 9223372036854775807) /\ ∀ (x1 : Int), x1 = 0 - m -> Q ⟨.agg [.int .i64 m, .int .i64 m, .int .i64 x1], false, [], []⟩) /\ (decide (b2 < a2) = false -> Q ⟨.agg [.int .i64 m, .int .i64 m, .int .i64 d2], false, [], []⟩))) /\ (decide (b1 > a1) = false -> (decide (b1 < a1) = true -> (-9223372036854775808 <= 0 - m /\ 0 - m <= 9223372036854775807) /\ ∀ (x2 : Int), x2 = 0 - m -> (decide (b2 > a2) = true -> Q ⟨.agg [.int .i64 m, .int .i64 x2, .int .i64 m], false, [], []⟩) /\ (decide (b2 > a2) = false -> (decide (b2 < a2) = true -> (-9223372036854775808 <= 0 - m /\ 0 - m <= 9223372036854775807) /\ ∀ (x3 : Int), x3 = 0 - m -> Q ⟨.agg [.int .i64 m, .int .i64 x2, .int .i64 x3], false, [], []⟩) /\
 (decide (b2 < a2) = false -> Q ⟨.agg [.int .i64 m, .int .i64 x2, .int .i64 d2], false, [], []⟩))) /\ (decide (b1 < a1) = false -> (decide (b2 > a2) = true -> Q ⟨.agg [.int .i64 m, .int .i64 d1, .int .i64 m], false, [], []⟩) /\ (decide (b2 > a2) = false -> (decide (b2 < a2) = true -> (-9223372036854775808 <= 0 - m /\ 0 - m <= 9223372036854775807) /\ ∀ (x4 : Int), x4 = 0 - m -> Q ⟨.agg [.int .i64 m, .int .i64 d1, .int .i64 x4], false, [], []⟩) /\ (decide (b2 < a2) = false -> Q ⟨.agg [.int .i64 m, .int .i64 d1, .int .i64 d2], false, [], []⟩))))) /\ (decide (b0 > a0) = false -> (decide (b0 < a0) = true -> (-9223372036854775808 <= 0 - m /\ 0 - m <= 9223372036854775807) /\ ∀ (x5 : Int), x5 = 0 - m -> (decide (b1 > a1) = true -> (decide (b2 > a2) = true -> Q ⟨.agg [.int .i64 x5, .int .i64 m, .int .i64 m], false, [], []⟩) /\ (decide (b2 > a2) = false -> (decide (b2 < a2) = true -> (-9223372036854775808 <= 0 - m /\
 0 - m <= 9223372036854775807) /\ ∀ (x6 : Int), x6 = 0 - m -> Q ⟨.agg [.int .i64 x5, .int .i64 m, .int .i64 x6], false, [], []⟩) /\ (decide (b2 < a2) = false -> Q ⟨.agg [.int .i64 x5, .int .i64 m, .int .i64 d2], false, [], []⟩))) /\ (decide (b1 > a1) = false -> (decide (b1 < a1) = true -> (-9223372036854775808 <= 0 - m /\ 0 - m <= 9223372036854775807) /\ ∀ (x7 : Int), x7 = 0 - m -> (decide (b2 > a2) = true -> Q ⟨.agg [.int .i64 x5, .int .i64 x7, .int .i64 m], false, [], []⟩) /\ (decide (b2 > a2) = false -> (decide (b2 < a2) = true -> (-9223372036854775808 <= 0 - m /\ 0 - m <= 9223372036854775807) /\ ∀ (x8 : Int), x8 = 0 - m -> Q ⟨.agg [.int .i64 x5, .int .i64 x7, .int .i64 x8], false, [], []⟩) /\ (decide (b2 < a2) = false -> Q ⟨.agg [.int .i64 x5, .int .i64 x7, .int .i64 d2], false, [], []⟩))) /\ (decide (b1 < a1) = false -> (decide (b2 > a2) = true -> Q ⟨.agg [.int .i64 x5, .int .i64 d1, .int .i64 m], false, [], []⟩) /\
 (decide (b2 > a2) = false -> (decide (b2 < a2) = true -> (-9223372036854775808 <= 0 - m /\ 0 - m <= 9223372036854775807) /\ ∀ (x9 : Int), x9 = 0 - m -> Q ⟨.agg [.int .i64 x5, .int .i64 d1, .int .i64 x9], false, [], []⟩) /\ (decide (b2 < a2) = false -> Q ⟨.agg [.int .i64 x5, .int .i64 d1, .int .i64 d2], false, [], []⟩))))) /\ (decide (b0 < a0) = false -> (decide (b1 > a1) = true -> (decide (b2 > a2) = true -> Q ⟨.agg [.int .i64 d0, .int .i64 m, .int .i64 m], false, [], []⟩) /\ (decide (b2 > a2) = false -> (decide (b2 < a2) = true -> (-9223372036854775808 <= 0 - m /\ 0 - m <= 9223372036854775807) /\ ∀ (x10 : Int), x10 = 0 - m -> Q ⟨.agg [.int .i64 d0, .int .i64 m, .int .i64 x10], false, [], []⟩) /\ (decide (b2 < a2) = false -> Q ⟨.agg [.int .i64 d0, .int .i64 m, .int .i64 d2], false, [], []⟩))) /\ (decide (b1 > a1) = false -> (decide (b1 < a1) = true -> (-9223372036854775808 <= 0 - m /\
 0 - m <= 9223372036854775807) /\ ∀ (x11 : Int), x11 = 0 - m -> (decide (b2 > a2) = true -> Q ⟨.agg [.int .i64 d0, .int .i64 x11, .int .i64 m], false, [], []⟩) /\ (decide (b2 > a2) = false -> (decide (b2 < a2) = true -> (-9223372036854775808 <= 0 - m /\ 0 - m <= 9223372036854775807) /\ ∀ (x12 : Int), x12 = 0 - m -> Q ⟨.agg [.int .i64 d0, .int .i64 x11, .int .i64 x12], false, [], []⟩) /\ (decide (b2 < a2) = false -> Q ⟨.agg [.int .i64 d0, .int .i64 x11, .int .i64 d2], false, [], []⟩))) /\ (decide (b1 < a1) = false -> (decide (b2 > a2) = true -> Q ⟨.agg [.int .i64 d0, .int .i64 d1, .int .i64 m], false, [], []⟩) /\ (decide (b2 > a2) = false -> (decide (b2 < a2) = true -> (-9223372036854775808 <= 0 - m /\ 0 - m <= 9223372036854775807) /\ ∀ (x13 : Int), x13 = 0 - m -> Q ⟨.agg [.int .i64 d0, .int .i64 d1, .int .i64 x13], false, [], []⟩) /\ (decide (b2 < a2) = false -> Q ⟨.agg [.int .i64 d0, .int .i64 d1, .int .i64 d2], false, [], []⟩))))))) := by kernel_rfl
noncomputable def CTake : Ctx := ⟨Tryz.prog, gam [], Tryz.f57.ntmps, [(4000003, unrT [1000003, 1000004, 1000005], fun _ => .fail)], []⟩
theorem vcTake (sta spa aca jea loa hia bla oga sga stb spb acb jeb lob hib blb ogb sgb stc spc acc jec loc hic blc ogc sgc : Int) (pta ptb ptc : List (List Int)) (w0 w1 w2 d0 d1 d2 : Int) (Q : Res -> Prop) : (nfun true CTake Tryz.f57 (bodyOf Tryz.f57) [.agg [.int .i64 sta, .int .i64 spa, .int .i64 aca, .int .i64 jea, .int .i64 loa, .int .i64 hia, .int .i64 bla, .int .i64 oga, .int .i64 sga, .sl false [4] pta, .int .i64 stb, .int .i64 spb, .int .i64 acb, .int .i64 jeb, .int .i64 lob, .int .i64 hib, .int .i64 blb, .int .i64 ogb, .int .i64 sgb, .sl false [4] ptb, .int .i64 stc, .int .i64 spc, .int .i64 acc, .int .i64 jec, .int .i64 loc, .int .i64 hic, .int .i64 blc, .int .i64 ogc, .int .i64 sgc, .sl false [4] ptc], .agg [.int .i64 w0, .int .i64 w1, .int .i64 w2], .agg [.int .i64 d0, .int .i64 d1, .int .i64 d2]] [] Q) =
 (((w0 != d0) = true -> ∀ (x1 : Int), x1 = max (0 : Int) bla -> ((w1 != d1) = true -> ∀ (x2 : Int), x2 = max x1 blb -> ((w2 != d2) = true -> ∀ (x3 : Int), x3 = max x2 blc -> Q ⟨.ce (.int .i64 x3), false, [], []⟩) /\ ((w2 != d2) = false -> Q ⟨.ce (.int .i64 x2), false, [], []⟩)) /\ ((w1 != d1) = false -> ((w2 != d2) = true -> ∀ (x4 : Int), x4 = max x1 blc -> Q ⟨.ce (.int .i64 x4), false, [], []⟩) /\ ((w2 != d2) = false -> Q ⟨.ce (.int .i64 x1), false, [], []⟩))) /\ ((w0 != d0) = false -> ((w1 != d1) = true -> ∀ (x5 : Int), x5 = max (0 : Int) blb -> ((w2 != d2) = true -> ∀ (x6 : Int), x6 = max x5 blc -> Q ⟨.ce (.int .i64 x6), false, [], []⟩) /\ ((w2 != d2) = false -> Q ⟨.ce (.int .i64 x5), false, [], []⟩)) /\ ((w1 != d1) = false -> ((w2 != d2) = true -> ∀ (x7 : Int), x7 = max (0 : Int) blc -> Q ⟨.ce (.int .i64 x7), false, [], []⟩) /\ ((w2 != d2) = false -> Q ⟨.ce (.int .i64 0), false, [], []⟩)))) := by kernel_rfl
def SLeg1 (hA : List HV) (pA : List (List HC)) : SR :=
 match hA, pA with
 | [.agg [.int .i64 q0, .int .i64 q1, .int .i64 q2, .int .i64 q3, .int .i64 q4, .int .i64 q5, .int .i64 q6, .int .i64 q7, .int .i64 q8, .int .i64 q9], .ce (.ptr 0 0)], [[.mu [4, 4, 4, 4, 4, 4, 4, 4, 4, 4] pk, .int .i64 ln, .int .i64 sa, .int .i64 d0, .int .i64 d1, .int .i64 d2]] =>
  .all ((-2305843009213693952 <= q1 /\ q1 <= 2305843009213693952) /\ (-2305843009213693952 <= ln /\ ln <= 2305843009213693952) /\ pk.length <= 1000000000000 /\ ∀ j, j < pk.length -> -2305843009213693952 <= ec pk j 1 /\ ec pk j 1 <= 2305843009213693952)
   (List (List Int) × Int) (fun x => x = tadd pk ln [q0, q1, q2, q3, q4, q5, q6, q7, q8, q9])
   (fun x => ⟨.tup [], false, [[.mu [4, 4, 4, 4, 4, 4, 4, 4, 4, 4] x.1, .int .i64 x.2, .int .i64 sa, .int .i64 d0, .int .i64 d1, .int .i64 d2]], []⟩)
 | _, _ => .fail
noncomputable def CLeg1 : Ctx := ⟨Tryz.prog, gam [], Tryz.f54.ntmps, [], [57, spl 1 0 0 8, spl 6 0 0 7]⟩
theorem vcLeg1 (q0 q1 q2 q3 q4 q5 q6 q7 q8 q9 ln sa d0 d1 d2 : Int) (pk : List (List Int)) (Q : Res -> Prop) : (nfun true CLeg1 Tryz.f54 (bodyOf Tryz.f54) [.agg [.int .i64 q0, .int .i64 q1, .int .i64 q2, .int .i64 q3, .int .i64 q4, .int .i64 q5, .int .i64 q6, .int .i64 q7, .int .i64 q8, .int .i64 q9], .ce (.ptr 0 0)] [[.mu [4, 4, 4, 4, 4, 4, 4, 4, 4, 4] pk, .int .i64 ln, .int .i64 sa, .int .i64 d0, .int .i64 d1, .int .i64 d2]] Q) =
 ((pk.length = 0 -> ((1 : Nat) <= 1 /\ (1 : Nat) * 80 <= 140737488355328 /\ (1 : Nat) <= maxLen) /\ (∃ (x : Nat), (1 : Nat) <= x /\ x <= maxLen) /\ ∀ (x : Nat), (1 : Nat) <= x /\ x <= maxLen -> ((1 : Nat) = 1 /\ x = x /\ (0 : Nat) < 1) /\ (-9223372036854775808 <= ln + q1 /\ ln + q1 <= 9223372036854775807) /\ ∀ (x2 : Int), x2 = ln + q1 -> Q { val := .tup [], own := false, pars := [[.mu [4, 4, 4, 4, 4, 4, 4, 4, 4, 4] [[ln, q1, q2, q3, q4, q5, q6, q7, q8, q9]], .int .i64 x2, .int .i64 sa, .int .i64 d0, .int .i64 d1, .int .i64 d2]], news := [] }) /\ ((0 : Nat) < pk.length -> ∀ (cap : Nat), pk.length <= cap /\ cap <= maxLen -> (decide ((pk.length : Int) > 0) = true -> ((q3 != 0) = true -> (-9223372036854775808 <= (pk.length : Int) - 1 /\ (pk.length : Int) - 1 <= 9223372036854775807) /\ ∀ (x4 : Int), x4 = (pk.length : Int) - 1 ->
 (0 <= x4 /\ x4 < (pk.length : Int)) /\ x4.toNat < pk.length /\ ∀ (x5 : Int), x5 = ec pk x4.toNat 3 -> ((x5 == q3) = true -> (-9223372036854775808 <= (pk.length : Int) - 1 /\ (pk.length : Int) - 1 <= 9223372036854775807) /\ ∀ (x6 : Int), x6 = (pk.length : Int) - 1 -> (0 <= x6 /\ x6 < (pk.length : Int)) /\ x6.toNat < pk.length /\ ((ec pk x6.toNat 7 == q7 && (ec pk x6.toNat 8 == q8 && (ec pk x6.toNat 9 == q9 && true))) = true -> (-9223372036854775808 <= (pk.length : Int) - 1 /\ (pk.length : Int) - 1 <= 9223372036854775807) /\ ∀ (x7 : Int), x7 = (pk.length : Int) - 1 -> (0 <= x7 /\ x7 < (pk.length : Int)) /\ x7.toNat < pk.length /\ ∀ (x8 : Int), x8 = ec pk x7.toNat 1 -> (-9223372036854775808 <= x8 + q1 /\ x8 + q1 <= 9223372036854775807) /\ ∀ (x9 : Int), x9 = x8 + q1 -> (0 <= x7 /\ x7 < (pk.length : Int)) /\ x7.toNat < pk.length /\
 (pk.length = List.length (List.set pk x7.toNat [bif false && true then x9 else el pk x7.toNat, bif true && true then x9 else ec pk x7.toNat 1, bif true && false then (0 : Int) else ec pk x7.toNat 2, bif true && false then (0 : Int) else ec pk x7.toNat 3, bif true && false then (0 : Int) else ec pk x7.toNat 4, bif true && false then (0 : Int) else ec pk x7.toNat 5, bif true && false then (0 : Int) else ec pk x7.toNat 6, bif true && false then (0 : Int) else ec pk x7.toNat 7, bif true && false then (0 : Int) else ec pk x7.toNat 8, bif true && false then (0 : Int) else ec pk x7.toNat 9]) /\ cap = cap /\ (0 : Nat) < List.length (List.set pk x7.toNat [bif false && true then x9 else el pk x7.toNat, bif true && true then x9 else ec pk x7.toNat 1, bif true && false then (0 : Int) else ec pk x7.toNat 2, bif true && false then (0 : Int) else ec pk x7.toNat 3, bif true && false then (0 : Int) else ec pk x7.toNat 4, bif true && false then (0 : Int) else ec pk x7.toNat 5, bif true && false then (0 : Int) else ec pk x7.toNat 6, bif true && false then (0 : Int) else ec pk x7.toNat 7, bif true && false then (0 : Int) else ec pk x7.toNat 8, bif true && false then (0 : Int) else ec pk x7.toNat 9])) /\
 (-9223372036854775808 <= ln + q1 /\ ln + q1 <= 9223372036854775807) /\ ∀ (x10 : Int), x10 = ln + q1 -> Q { val := .tup [], own := false, pars := [[.mu [4, 4, 4, 4, 4, 4, 4, 4, 4, 4] (List.set pk x7.toNat [bif false && true then x9 else el pk x7.toNat, bif true && true then x9 else ec pk x7.toNat 1, bif true && false then (0 : Int) else ec pk x7.toNat 2, bif true && false then (0 : Int) else ec pk x7.toNat 3, bif true && false then (0 : Int) else ec pk x7.toNat 4, bif true && false then (0 : Int) else ec pk x7.toNat 5, bif true && false then (0 : Int) else ec pk x7.toNat 6, bif true && false then (0 : Int) else ec pk x7.toNat 7, bif true && false then (0 : Int) else ec pk x7.toNat 8, bif true && false then (0 : Int) else ec pk x7.toNat 9]), .int .i64 x10, .int .i64 sa, .int .i64 d0, .int .i64 d1, .int .i64 d2]], news := [] }) /\ ((ec pk x6.toNat 7 == q7 && (ec pk x6.toNat 8 == q8 && (ec pk x6.toNat 9 == q9 && true))) = false ->
 (pk.length = pk.length /\ cap = cap /\ (pk.length + 1) * 80 <= 140737488355328 /\ pk.length + 1 <= maxLen) /\ (∃ (x : Nat), pk.length + 1 <= x /\ x <= maxLen) /\ ∀ (x : Nat), pk.length + 1 <= x /\ x <= maxLen -> (pk.length + 1 = List.length (pk ++ [[ln, q1, q2, q3, q4, q5, q6, q7, q8, q9]]) /\ x = x /\ (0 : Nat) < List.length (pk ++ [[ln, q1, q2, q3, q4, q5, q6, q7, q8, q9]])) /\ (-9223372036854775808 <= ln + q1 /\ ln + q1 <= 9223372036854775807) /\ ∀ (x12 : Int), x12 = ln + q1 -> Q { val := .tup [], own := false, pars := [[.mu [4, 4, 4, 4, 4, 4, 4, 4, 4, 4] (pk ++ [[ln, q1, q2, q3, q4, q5, q6, q7, q8, q9]]), .int .i64 x12, .int .i64 sa, .int .i64 d0, .int .i64 d1, .int .i64 d2]], news := [] })) /\ ((x5 == q3) = false -> (pk.length = pk.length /\ cap = cap /\ (pk.length + 1) * 80 <= 140737488355328 /\
 pk.length + 1 <= maxLen) /\ (∃ (x : Nat), pk.length + 1 <= x /\ x <= maxLen) /\ ∀ (x : Nat), pk.length + 1 <= x /\ x <= maxLen -> (pk.length + 1 = List.length (pk ++ [[ln, q1, q2, q3, q4, q5, q6, q7, q8, q9]]) /\ x = x /\ (0 : Nat) < List.length (pk ++ [[ln, q1, q2, q3, q4, q5, q6, q7, q8, q9]])) /\ (-9223372036854775808 <= ln + q1 /\ ln + q1 <= 9223372036854775807) /\ ∀ (x14 : Int), x14 = ln + q1 -> Q { val := .tup [], own := false, pars := [[.mu [4, 4, 4, 4, 4, 4, 4, 4, 4, 4] (pk ++ [[ln, q1, q2, q3, q4, q5, q6, q7, q8, q9]]), .int .i64 x14, .int .i64 sa, .int .i64 d0, .int .i64 d1, .int .i64 d2]], news := [] })) /\ ((q3 != 0) = false -> (pk.length = pk.length /\ cap = cap /\ (pk.length + 1) * 80 <= 140737488355328 /\ pk.length + 1 <= maxLen) /\ (∃ (x : Nat), pk.length + 1 <= x /\ x <= maxLen) /\ ∀ (x : Nat), pk.length + 1 <= x /\
 x <= maxLen -> (pk.length + 1 = List.length (pk ++ [[ln, q1, q2, q3, q4, q5, q6, q7, q8, q9]]) /\ x = x /\ (0 : Nat) < List.length (pk ++ [[ln, q1, q2, q3, q4, q5, q6, q7, q8, q9]])) /\ (-9223372036854775808 <= ln + q1 /\ ln + q1 <= 9223372036854775807) /\ ∀ (x16 : Int), x16 = ln + q1 -> Q { val := .tup [], own := false, pars := [[.mu [4, 4, 4, 4, 4, 4, 4, 4, 4, 4] (pk ++ [[ln, q1, q2, q3, q4, q5, q6, q7, q8, q9]]), .int .i64 x16, .int .i64 sa, .int .i64 d0, .int .i64 d1, .int .i64 d2]], news := [] })) /\ (decide ((pk.length : Int) > 0) = false -> (pk.length = pk.length /\ cap = cap /\ (pk.length + 1) * 80 <= 140737488355328 /\ pk.length + 1 <= maxLen) /\ (∃ (x : Nat), pk.length + 1 <= x /\ x <= maxLen) /\ ∀ (x : Nat), pk.length + 1 <= x /\ x <= maxLen -> (pk.length + 1 = List.length (pk ++ [[ln, q1, q2, q3, q4, q5, q6, q7, q8, q9]]) /\
 x = x /\ (0 : Nat) < List.length (pk ++ [[ln, q1, q2, q3, q4, q5, q6, q7, q8, q9]])) /\ (-9223372036854775808 <= ln + q1 /\ ln + q1 <= 9223372036854775807) /\ ∀ (x18 : Int), x18 = ln + q1 -> Q { val := .tup [], own := false, pars := [[.mu [4, 4, 4, 4, 4, 4, 4, 4, 4, 4] (pk ++ [[ln, q1, q2, q3, q4, q5, q6, q7, q8, q9]]), .int .i64 x18, .int .i64 sa, .int .i64 d0, .int .i64 d1, .int .i64 d2]], news := [] }))) := by kernel_rfl
def SLeg2 (hA : List HV) (pA : List (List HC)) : SR :=
 match hA, pA with
 | [.agg [.int .i64 a0, .int .i64 a1, .int .i64 a2], .agg [.int .i64 b0, .int .i64 b1, .int .i64 b2], .ce (.int .i64 s), .ce (.int .i64 n), .ce (.ptr 0 0), .ce (.ptr 1 0), .ce (.ptr 2 0), .ce (.ptr 3 0)],
  [[.int .i64 w0, .int .i64 w1, .int .i64 w2], [.int .i64 m], ax, [.fn g rs ex], [.mu [4, 4, 4, 4, 4, 4, 4, 4, 4, 4] pk, .int .i64 ln, .int .i64 sa, .int .i64 d0, .int .i64 d1, .int .i64 d2]] =>
  match ax with
  | [.int .i64 sta, .int .i64 spa, .int .i64 aca, .int .i64 jea, .int .i64 loa, .int .i64 hia, .int .i64 bla, .int .i64 oga, .int .i64 sga, .sl false [4] pta, .int .i64 stb, .int .i64 spb, .int .i64 acb, .int .i64 jeb, .int .i64 lob, .int .i64 hib, .int .i64 blb, .int .i64 ogb, .int .i64 sgb, .sl false [4] ptb, .int .i64 stc, .int .i64 spc, .int .i64 acc, .int .i64 jec, .int .i64 loc, .int .i64 hic, .int .i64 blc, .int .i64 ogc, .int .i64 sgc, .sl false [4] ptc] =>
   .all ((g = 54 /\ nl rs [4] /\ nl ex []) /\ (m = 1 ∨ m = -1) /\ okB3 bla blb blc /\ (0 <= n /\ n <= 1152921504606846976) /\ (0 <= ln /\ ln <= 1152921504606846976) /\ pk.length <= 100000000000 /\ ∀ j, j < pk.length -> 0 <= ec pk j 1 /\ ec pk j 1 <= ln)
    (List (List Int) × Int) (fun x => x = vis bla blb blc m s n (tn1 a0 b0 m w0) (tn1 a1 b1 m w1) (tn1 a2 b2 m w2) pk ln w0 w1 w2)
    (fun x => ⟨.tup [], false, [[.int .i64 (tn1 a0 b0 m w0), .int .i64 (tn1 a1 b1 m w1), .int .i64 (tn1 a2 b2 m w2)], [.int .i64 m], [.int .i64 sta, .int .i64 spa, .int .i64 aca, .int .i64 jea, .int .i64 loa, .int .i64 hia, .int .i64 bla, .int .i64 oga, .int .i64 sga, .sl false [4] pta, .int .i64 stb, .int .i64 spb, .int .i64 acb, .int .i64 jeb, .int .i64 lob, .int .i64 hib, .int .i64 blb, .int .i64 ogb, .int .i64 sgb, .sl false [4] ptb, .int .i64 stc, .int .i64 spc, .int .i64 acc, .int .i64 jec, .int .i64 loc, .int .i64 hic, .int .i64 blc, .int .i64 ogc, .int .i64 sgc, .sl false [4] ptc], [.fn 54 [4] []], [.mu [4, 4, 4, 4, 4, 4, 4, 4, 4, 4] x.1, .int .i64 x.2, .int .i64 sa, .int .i64 d0, .int .i64 d1, .int .i64 d2]], []⟩)
  | _ => .fail
 | _, _ => .fail
def tabLeg2 : List (FuncId × HL.Spec) := [(56, STnd), (57, SSlack), (54, SLeg1)]
noncomputable def CLeg2 : Ctx := ⟨Tryz.prog, gam tabLeg2, Tryz.f55.ntmps, [], []⟩
theorem vcLeg2 (a0 a1 a2 b0 b1 b2 s n w0 w1 w2 m ln sa d0 d1 d2 : Int) (pk : List (List Int)) (sta spa aca jea loa hia bla oga sga stb spb acb jeb lob hib blb ogb sgb stc spc acc jec loc hic blc ogc sgc : Int) (pta ptb ptc : List (List Int)) (Q : Res -> Prop) : (nfun true CLeg2 Tryz.f55 (bodyOf Tryz.f55) [.agg [.int .i64 a0, .int .i64 a1, .int .i64 a2], .agg [.int .i64 b0, .int .i64 b1, .int .i64 b2], .ce (.int .i64 s), .ce (.int .i64 n), .ce (.ptr 0 0), .ce (.ptr 1 0), .ce (.ptr 2 0), .ce (.ptr 3 0)] [[.int .i64 w0, .int .i64 w1, .int .i64 w2], [.int .i64 m], [.int .i64 sta, .int .i64 spa, .int .i64 aca, .int .i64 jea, .int .i64 loa, .int .i64 hia, .int .i64 bla, .int .i64 oga, .int .i64 sga, .sl false [4] pta, .int .i64 stb, .int .i64 spb, .int .i64 acb, .int .i64 jeb, .int .i64 lob, .int .i64 hib, .int .i64 blb, .int .i64 ogb, .int .i64 sgb, .sl false [4] ptb, .int .i64 stc, .int .i64 spc, .int .i64 acc, .int .i64 jec, .int .i64 loc, .int .i64 hic, .int .i64 blc, .int .i64 ogc, .int .i64 sgc, .sl false [4] ptc], [.fn 54 [4] []], [.mu [4, 4, 4, 4, 4, 4, 4, 4, 4, 4] pk, .int .i64 ln, .int .i64 sa, .int .i64 d0, .int .i64 d1, .int .i64 d2]] Q) =
 ((m = 1 ∨ m = (-1 : Int)) /\ ∀ (x1 : Int), x1 = tn1 a0 b0 m w0 -> ∀ (x2 : Int), x2 = tn1 a1 b1 m w1 -> ∀ (x3 : Int), x3 = tn1 a2 b2 m w2 -> True /\ ∀ (x4 : Int), x4 = slk bla blb blc w0 w1 w2 x1 x2 x3 -> (decide (x4 > 0) = true -> ((-2305843009213693952 <= x4 /\ x4 <= 2305843009213693952) /\ (-2305843009213693952 <= ln /\ ln <= 2305843009213693952) /\ pk.length <= 1000000000000 /\ ∀ (j : Nat), j < pk.length -> -2305843009213693952 <= ec pk j 1 /\ ec pk j 1 <= 2305843009213693952) /\ (∃ (x : List (List Int) × Int), x = tadd pk ln [(0 : Int), x4, s, (0 : Int), w0, w1, w2, x1, x2, x3]) /\ ∀ (x : List (List Int) × Int), x = tadd pk ln [(0 : Int), x4, s, (0 : Int), w0, w1, w2, x1, x2, x3] -> ((-2305843009213693952 <= n /\ n <= 2305843009213693952) /\ ((-2305843009213693952 : Int) <= x.2 /\ x.2 <= 2305843009213693952) /\ List.length x.1 <= 1000000000000 /\ ∀ (j : Nat), j < List.length x.1 ->
 -2305843009213693952 <= ec x.1 j 1 /\ ec x.1 j 1 <= 2305843009213693952) /\ (∃ (x_1 : List (List Int) × Int), x_1 = tadd x.1 x.2 [(0 : Int), n, s, m, x1, x2, x3, x1, x2, x3]) /\ ∀ (x_1 : List (List Int) × Int), x_1 = tadd x.1 x.2 [(0 : Int), n, s, m, x1, x2, x3, x1, x2, x3] -> Q { val := .tup [], own := false, pars := [[.int .i64 x1, .int .i64 x2, .int .i64 x3], [.int .i64 m], [.int .i64 sta, .int .i64 spa, .int .i64 aca, .int .i64 jea, .int .i64 loa, .int .i64 hia, .int .i64 bla, .int .i64 oga, .int .i64 sga, .sl false [4] pta, .int .i64 stb, .int .i64 spb, .int .i64 acb, .int .i64 jeb, .int .i64 lob, .int .i64 hib, .int .i64 blb, .int .i64 ogb, .int .i64 sgb, .sl false [4] ptb, .int .i64 stc, .int .i64 spc, .int .i64 acc, .int .i64 jec, .int .i64 loc, .int .i64 hic, .int .i64 blc, .int .i64 ogc, .int .i64 sgc, .sl false [4] ptc], [.fn (54 : FuncId) [4] []], [.mu [4, 4, 4, 4, 4, 4, 4, 4, 4, 4] x_1.1, .int .i64 x_1.2, .int .i64 sa, .int .i64 d0, .int .i64 d1, .int .i64 d2]], news := [] }) /\
 (decide (x4 > 0) = false -> ((-2305843009213693952 <= n /\ n <= 2305843009213693952) /\ (-2305843009213693952 <= ln /\ ln <= 2305843009213693952) /\ pk.length <= 1000000000000 /\ ∀ (j : Nat), j < pk.length -> -2305843009213693952 <= ec pk j 1 /\ ec pk j 1 <= 2305843009213693952) /\ (∃ (x : List (List Int) × Int), x = tadd pk ln [(0 : Int), n, s, m, x1, x2, x3, x1, x2, x3]) /\ ∀ (x : List (List Int) × Int), x = tadd pk ln [(0 : Int), n, s, m, x1, x2, x3, x1, x2, x3] -> Q { val := .tup [], own := false, pars := [[.int .i64 x1, .int .i64 x2, .int .i64 x3], [.int .i64 m], [.int .i64 sta, .int .i64 spa, .int .i64 aca, .int .i64 jea, .int .i64 loa, .int .i64 hia, .int .i64 bla, .int .i64 oga, .int .i64 sga, .sl false [4] pta, .int .i64 stb, .int .i64 spb, .int .i64 acb, .int .i64 jeb, .int .i64 lob, .int .i64 hib, .int .i64 blb, .int .i64 ogb, .int .i64 sgb, .sl false [4] ptb, .int .i64 stc, .int .i64 spc, .int .i64 acc, .int .i64 jec, .int .i64 loc, .int .i64 hic, .int .i64 blc, .int .i64 ogc, .int .i64 sgc, .sl false [4] ptc], [.fn (54 : FuncId) [4] []], [.mu [4, 4, 4, 4, 4, 4, 4, 4, 4, 4] x.1, .int .i64 x.2, .int .i64 sa, .int .i64 d0, .int .i64 d1, .int .i64 d2]], news := [] })) := by kernel_rfl
end Go.Proofs.YtneingpnkdeooaaGreat
namespace U
theorem tn1_p {a b m d : Int} (h : decide (b > a) = true) : m = tn1 a b m d := by unfold tn1; rw [if_pos (of_decide_eq_true h)]
theorem tn1_n {a b m d : Int} (h : decide (b > a) = false) (h2 : decide (b < a) = true) : 0 - m = tn1 a b m d := by unfold tn1; rw [if_neg (of_decide_eq_false h), if_pos (of_decide_eq_true h2)]; omega
theorem tn1_z {a b m d : Int} (h : decide (b > a) = false) (h2 : decide (b < a) = false) : d = tn1 a b m d := by unfold tn1; rw [if_neg (of_decide_eq_false h), if_neg (of_decide_eq_false h2)]
theorem tn1_fc1 {a b m d : Int} (hm : m = 1 ∨ m = -1) : tn1 a b m d = fc1 a b m d := by
 unfold tn1 fc1
 rcases hm with rfl | rfl
 . simp only [Int.mul_one]
   repeat' split
   all_goals omega
 . have e : (b - a) * (-1) = a - b := by omega
   rw [e]
   repeat' split
   all_goals omega
end U
namespace Go.Proofs.YtneingpnkdeooaaGreat
open Go Go.HL U
attribute [local irreducible] hfun bodyT fragT
theorem sTnd : Sound Tryz.prog 56 STnd := by
 refine sound_of (C := CTnd) [] Tryz.func56 (by kernel_rfl) (by decide +kernel) (by kernel_rfl) rfl trivial (loopsAll (by kernel_rfl)) ?_
 intro hA pA R h
 unfold STnd at h
 split at h
 case h_2 => exfalso; exact h
 rename_i d0 d1 d2 a0 a1 a2 b0 b1 b2 m
 obtain ⟨hm, hq⟩ := h
 have hq : ∀ e0 e1 e2, e0 = tn1 a0 b0 m d0 -> e1 = tn1 a1 b1 m d1 -> e2 = tn1 a2 b2 m d2 -> R ⟨.agg [.int .i64 e0, .int .i64 e1, .int .i64 e2], false, [], []⟩ := fun e0 e1 e2 h0 h1 h2 => by rw [h0, h1, h2]; exact hq
 refine byVC (vcTnd d0 d1 d2 a0 a1 a2 b0 b1 b2 m R) ?_
 repeat' first | apply And.intro | (rintro _ rfl) | intro _
 all_goals first
  | exact hq _ _ _ (by first | exact tn1_p (by assumption) | exact tn1_n (by assumption) (by assumption) | exact tn1_z (by assumption) (by assumption)) (by first | exact tn1_p (by assumption) | exact tn1_n (by assumption) (by assumption) | exact tn1_z (by assumption) (by assumption)) (by first | exact tn1_p (by assumption) | exact tn1_n (by assumption) (by assumption) | exact tn1_z (by assumption) (by assumption))
  | omega
theorem sTake : Sound Tryz.prog 57 SSlack := by
 refine sound_of (C := CTake) [] Tryz.func57 (by kernel_rfl) (by decide +kernel) (by kernel_rfl) rfl trivial (loopsAll (by kernel_rfl)) ?_
 intro hA pA R h
 unfold SSlack at h
 split at h
 case h_2 => exfalso; exact h
 rename_i sta spa aca jea loa hia bla oga sga pta stb spb acb jeb lob hib blb ogb sgb ptb stc spc acc jec loc hic blc ogc sgc ptc w0 w1 w2 d0 d1 d2
 obtain ⟨_, hq⟩ := h
 have hq : ∀ e0 e1 e2, e0 = sl1 w0 d0 bla 0 -> e1 = sl1 w1 d1 blb e0 -> e2 = sl1 w2 d2 blc e1 -> R ⟨.ce (.int .i64 e2), false, [], []⟩ := fun e0 e1 e2 h0 h1 h2 => by rw [h2, h1, h0]; exact hq
 refine byVC (vcTake sta spa aca jea loa hia bla oga sga stb spb acb jeb lob hib blb ogb sgb stc spc acc jec loc hic blc ogc sgc pta ptb ptc w0 w1 w2 d0 d1 d2 R) ?_
 repeat' first | apply And.intro | (rintro _ rfl) | intro _
 all_goals first
  | exact hq _ _ _ (by first | exact sl1_t (by assumption) | exact sl1_f (by assumption)) (by first | exact sl1_t (by assumption) | exact sl1_f (by assumption)) (by first | exact sl1_t (by assumption) | exact sl1_f (by assumption))
  | omega
theorem sLeg1 : Sound Tryz.prog 54 SLeg1 := by
 refine sound_of (C := CLeg1) [] Tryz.func54 (by kernel_rfl) (by decide +kernel) (by kernel_rfl) rfl trivial (loops0 (by kernel_rfl)) ?_
 intro hA pA R h
 unfold SLeg1 at h
 split at h
 case h_2 => exfalso; exact h
 rename_i q0 q1 q2 q3 q4 q5 q6 q7 q8 q9 pk ln sa d0 d1 d2
 obtain ⟨⟨hq1, hln, hlen, hpk⟩, _, hq⟩ := h
 have app : ¬ (0 < pk.length /\ q3 ≠ 0 /\ ec pk (pk.length - 1) 3 = q3 /\ ec pk (pk.length - 1) 7 = q7 /\ ec pk (pk.length - 1) 8 = q8 /\ ec pk (pk.length - 1) 9 = q9) -> ∀ x : Int, x = ln + q1 ->
  R ⟨.tup [], false, [[.mu [4, 4, 4, 4, 4, 4, 4, 4, 4, 4] (pk ++ [[ln, q1, q2, q3, q4, q5, q6, q7, q8, q9]]), .int .i64 x, .int .i64 sa, .int .i64 d0, .int .i64 d1, .int .i64 d2]], []⟩ := by
  intro hh x e
  have := hq _ rfl
  rw [tadd_app hh] at this
  rw [e]
  exact this
 have grow : ∀ cap : Nat, pk.length <= cap -> (pk.length = pk.length /\ cap = cap /\ (pk.length + 1) * 80 <= 140737488355328 /\ pk.length + 1 <= maxLen) /\ (∃ x : Nat, pk.length + 1 <= x /\ x <= maxLen) := fun cap _ =>
  ⟨⟨rfl, rfl, by omega, by unfold maxLen; omega⟩, ⟨pk.length + 1, Nat.le_refl _, by unfold maxLen; omega⟩⟩
 have room : ∀ x : Nat, (pk.length + 1 = (pk ++ [[ln, q1, q2, q3, q4, q5, q6, q7, q8, q9]]).length /\ x = x /\ 0 < (pk ++ [[ln, q1, q2, q3, q4, q5, q6, q7, q8, q9]]).length) := fun x => by simp
 refine byVC (vcLeg1 q0 q1 q2 q3 q4 q5 q6 q7 q8 q9 ln sa d0 d1 d2 pk R) ⟨fun h0 => ?_, fun h0 cap hcap => ⟨fun g1 => ⟨fun g2 => ⟨by omega, fun x4 e4 => ⟨by omega, by omega, fun x5 e5 => ⟨fun g3 => ⟨by omega, fun x6 e6 => ⟨by omega, by omega, fun g4 => ?_, fun g4 => ?_⟩⟩, fun g3 => ?_⟩⟩⟩, fun g2 => ?_⟩, fun g1 => ?_⟩⟩
 . obtain rfl : pk = [] := List.eq_nil_of_length_eq_zero h0
   refine ⟨⟨by decide, by decide, by unfold maxLen; decide⟩, ⟨1, by decide, by unfold maxLen; decide⟩, fun x hx => ⟨⟨rfl, rfl, by decide⟩, by omega, fun x2 e2 => ?_⟩⟩
   exact app (fun hh => absurd hh.1 (by decide)) x2 e2
 . have g2 : q3 ≠ 0 := by simpa using g2
   have g3 : x5 = q3 := by simpa using g3
   have ht : x4.toNat = pk.length - 1 := by omega
   have ht6 : x6.toNat = pk.length - 1 := by omega
   rw [ht] at e5
   rw [ht6] at g4
   have g4 : ec pk (pk.length - 1) 7 = q7 /\ ec pk (pk.length - 1) 8 = q8 /\ ec pk (pk.length - 1) 9 = q9 := by simpa using g4
   have hb := hpk (pk.length - 1) (by omega)
   refine ⟨by omega, fun x7 e7 => ?_⟩
   have ht7 : x7.toNat = pk.length - 1 := by omega
   rw [ht7]
   refine ⟨by omega, by omega, fun x8 e8 => ⟨by omega, fun x9 e9 => ⟨by omega, by omega, ⟨by rw [List.length_set], rfl, by rw [List.length_set]; exact h0⟩, by omega, fun x10 e10 => ?_⟩⟩⟩
   have := hq _ rfl
   rw [tadd_more ⟨h0, g2, by rw [<- e5]; exact g3, g4⟩] at this
   rw [e10, e9, e8]
   exact this
 . have no : ¬ (ec pk (pk.length - 1) 7 = q7 /\ ec pk (pk.length - 1) 8 = q8 /\ ec pk (pk.length - 1) 9 = q9) := fun hh => by
    have ht6 : x6.toNat = pk.length - 1 := by omega
    rw [ht6, hh.1, hh.2.1, hh.2.2] at g4
    simp at g4
   exact ⟨(grow cap hcap.1).1, (grow cap hcap.1).2, fun x hx => ⟨room x, by omega, fun x12 e12 => app (fun hh => no hh.2.2.2) x12 e12⟩⟩
 . have no : ¬ ec pk (pk.length - 1) 3 = q3 := fun hh => by
    have ht : x4.toNat = pk.length - 1 := by omega
    rw [ht, hh] at e5
    rw [e5] at g3
    simp at g3
   exact ⟨(grow cap hcap.1).1, (grow cap hcap.1).2, fun x hx => ⟨room x, by omega, fun x12 e12 => app (fun hh => no hh.2.2.1) x12 e12⟩⟩
 . have no : ¬ q3 ≠ 0 := by simpa using g2
   exact ⟨(grow cap hcap.1).1, (grow cap hcap.1).2, fun x hx => ⟨room x, by omega, fun x12 e12 => app (fun hh => no hh.2.1) x12 e12⟩⟩
 . have g1 := of_decide_eq_false g1
   omega
theorem sLeg2 : Sound Tryz.prog 55 SLeg2 := by
 refine sound_of (C := CLeg2) tabLeg2 Tryz.func55 (by kernel_rfl) (by decide +kernel) (by kernel_rfl) rfl ⟨sTnd, sTake, sLeg1, trivial⟩ (loops0 (by kernel_rfl)) ?_
 intro hA pA R h
 unfold SLeg2 at h
 split at h
 case h_2 => exfalso; exact h
 rename_i a0 a1 a2 b0 b1 b2 s n w0 w1 w2 m ax g rs ex pk ln sa d0 d1 d2
 split at h
 case h_2 => exact h.elim
 rename_i sta spa aca jea loa hia bla oga sga pta stb spb acb jeb lob hib blb ogb sgb ptb stc spc acc jec loc hic blc ogc sgc ptc
 obtain ⟨⟨⟨hg, hrs, hex⟩, hm, hb, hn, hln, hlen, hpk⟩, _, hq⟩ := h
 unfold nl at hrs hex
 subst hg hrs hex
 refine byVC (vcLeg2 a0 a1 a2 b0 b1 b2 s n w0 w1 w2 m ln sa d0 d1 d2 pk sta spa aca jea loa hia bla oga sga stb spb acb jeb lob hib blb ogb sgb stc spc acc jec loc hic blc ogc sgc pta ptb ptc R) ⟨hm, ?_⟩
 rintro n0 h0 n1 h1 n2 h2
 rw [<- h0, <- h1, <- h2] at hq
 refine ⟨trivial, fun u hu => ?_⟩
 have hs := slk_bd hb w0 w1 w2 n0 n1 n2
 unfold vis at hq
 rw [<- hu] at hq hs
 unfold legTk at hq
 have bd : ∀ j, j < pk.length -> -2305843009213693952 <= ec pk j 1 /\ ec pk j 1 <= 2305843009213693952 := fun j hj => by have := hpk j hj; omega
 refine ⟨fun gu => ?_, fun gu => ?_⟩
 . rw [if_pos (of_decide_eq_true gu)] at hq
   refine ⟨⟨by omega, by omega, by omega, bd⟩, ⟨_, rfl⟩, fun y ey => ?_⟩
   obtain ⟨c1, c2, c3⟩ := tadd_inv (q := [0, u, s, 0, w0, w1, w2, n0, n1, n2]) hln.1 hpk hs.1
   have c1 : (tadd pk ln [0, u, s, 0, w0, w1, w2, n0, n1, n2]).2 = ln + u := c1
   have c3 : unitsOK (tadd pk ln [0, u, s, 0, w0, w1, w2, n0, n1, n2]).1 (ln + u) := c3
   rw [<- ey] at c1 c2 c3 hq
   exact ⟨⟨by omega, by omega, by omega, fun j hj => by have := c3 j hj; omega⟩, ⟨_, rfl⟩, fun z ez => hq z ez⟩
 . rw [if_neg (of_decide_eq_false gu)] at hq
   exact ⟨⟨by omega, by omega, by omega, bd⟩, ⟨_, rfl⟩, fun z ez => hq z ez⟩
end Go.Proofs.YtneingpnkdeooaaGreat
namespace U
open Go
def starts (sg : List (List Int)) : Nat -> List (List Int)
 | 0 => []
 | k + 1 => starts sg k ++ [[plen (sg.take k)]]
end U
namespace Go.Proofs.YtneingpnkdeooaaGreat
open Go Go.HL U
def SEach (hA : List HV) (pA : List (List HC)) : SR :=
 match hA, pA with
 | [.agg [.int .i64 s0, .int .i64 s1, .int .i64 s2, .sl false [4, 4, 4, 4, 4, 4, 4] sg, .sl false [4, 4, 4] mk], .ce (.int .i64 lo), .ce (.int .i64 hi), .ce (.int .i64 mv), .ce (.fn g rs ex)],
  [[.int .i64 w0, .int .i64 w1, .int .i64 w2], [.int .i64 m], ax, [.fn g2 r2 e2], [.mu [4, 4, 4, 4, 4, 4, 4, 4, 4, 4] pk, .int .i64 ln, .int .i64 sa, .int .i64 d0, .int .i64 d1, .int .i64 d2]] =>
  match ax with
  | [.int .i64 sta, .int .i64 spa, .int .i64 aca, .int .i64 jea, .int .i64 loa, .int .i64 hia, .int .i64 bla, .int .i64 oga, .int .i64 sga, .sl false [4] pta, .int .i64 stb, .int .i64 spb, .int .i64 acb, .int .i64 jeb, .int .i64 lob, .int .i64 hib, .int .i64 blb, .int .i64 ogb, .int .i64 sgb, .sl false [4] ptb, .int .i64 stc, .int .i64 spc, .int .i64 acc, .int .i64 jec, .int .i64 loc, .int .i64 hic, .int .i64 blc, .int .i64 ogc, .int .i64 sgc, .sl false [4] ptc] =>
   .all ((g = 55 /\ nl rs [0, 1, 2, 3] /\ nl ex [4]) /\ (g2 = 54 /\ nl r2 [4] /\ nl e2 []) /\ mv = m /\ (m = 1 ∨ m = -1) /\ (0 <= lo /\ lo <= hi /\ hi <= plen sg) /\ okLen sg /\ okPts s0 s1 s2 sg /\ okB3 bla blb blc /\ pk.length = 0 /\ ln = 0)
    LegS (fun x => x = legK s0 s1 s2 sg bla blb blc lo hi m ⟨[], 0, w0, w1, w2, if m < 0 then plen sg else 0⟩ sg.length)
    (fun x => ⟨.tup [], false, [[.int .i64 x.a0, .int .i64 x.a1, .int .i64 x.a2], [.int .i64 m], [.int .i64 sta, .int .i64 spa, .int .i64 aca, .int .i64 jea, .int .i64 loa, .int .i64 hia, .int .i64 bla, .int .i64 oga, .int .i64 sga, .sl false [4] pta, .int .i64 stb, .int .i64 spb, .int .i64 acb, .int .i64 jeb, .int .i64 lob, .int .i64 hib, .int .i64 blb, .int .i64 ogb, .int .i64 sgb, .sl false [4] ptb, .int .i64 stc, .int .i64 spc, .int .i64 acc, .int .i64 jec, .int .i64 loc, .int .i64 hic, .int .i64 blc, .int .i64 ogc, .int .i64 sgc, .sl false [4] ptc], [.fn 54 [4] []], [.mu [4, 4, 4, 4, 4, 4, 4, 4, 4, 4] x.pk, .int .i64 x.ln, .int .i64 sa, .int .i64 d0, .int .i64 d1, .int .i64 d2]], []⟩)
  | _ => .fail
 | _, _ => .fail
def tabEach : List (FuncId × HL.Spec) := [(55, SLeg2)]
def anE1 : LAnn := ⟨[1, 2, 3, 4, 5, 10, 11, 100011, 21, 22, 23], [1, 2, 3, 4, 5, 11, 100011], [1000005, 0, 1, 2, 3, 4], false⟩
def LE1 (v : LV) : LR :=
 match v with
 | ([.ce (.int .i64 lo), .ce (.int .i64 hi), .ce (.int .i64 mv), .ce (.fn g rs ex), .ce (.ptr 1000005 0), .ce (.int .i64 t), .ce (.sl false [4] st), .ce (.lit true), .ce (.sl false [4, 4, 4, 4, 4, 4, 4] l), .ce (.int .i64 n), .ce (.int .i64 i)],
  [[.int .i64 s0, .int .i64 s1, .int .i64 s2, .sl false [4, 4, 4, 4, 4, 4, 4] sg, .sl false [4, 4, 4] mk], [.int .i64 w0, .int .i64 w1, .int .i64 w2], [.int .i64 m], ax, [.fn g2 r2 e2], [.mu [4, 4, 4, 4, 4, 4, 4, 4, 4, 4] pk, .int .i64 ln, .int .i64 sa, .int .i64 d0, .int .i64 d1, .int .i64 d2]]) =>
  match ax with
  | [.int .i64 sta, .int .i64 spa, .int .i64 aca, .int .i64 jea, .int .i64 loa, .int .i64 hia, .int .i64 bla, .int .i64 oga, .int .i64 sga, .sl false [4] pta, .int .i64 stb, .int .i64 spb, .int .i64 acb, .int .i64 jeb, .int .i64 lob, .int .i64 hib, .int .i64 blb, .int .i64 ogb, .int .i64 sgb, .sl false [4] ptb, .int .i64 stc, .int .i64 spc, .int .i64 acc, .int .i64 jec, .int .i64 loc, .int .i64 hic, .int .i64 blc, .int .i64 ogc, .int .i64 sgc, .sl false [4] ptc] =>
   .all (n = l.length /\ i = 0 /\ t = 0 /\ st.length = 0 /\ okLen l /\ (g = 55 /\ nl rs [0, 1, 2, 3] /\ nl ex [4]) /\ (g2 = 54 /\ nl r2 [4] /\ nl e2 [])) (List (List Int)) (fun x => x = starts l l.length) (fun _ => .exit 0)
    (fun x => ([.ce (.int .i64 lo), .ce (.int .i64 hi), .ce (.int .i64 mv), .ce (.fn 55 [0, 1, 2, 3] [4]), .ce (.ptr 1000005 0), .ce (.sl false [4] x), .ce (.lit true)],
     [[.int .i64 s0, .int .i64 s1, .int .i64 s2, .sl false [4, 4, 4, 4, 4, 4, 4] sg, .sl false [4, 4, 4] mk], [.int .i64 w0, .int .i64 w1, .int .i64 w2], [.int .i64 m], [.int .i64 sta, .int .i64 spa, .int .i64 aca, .int .i64 jea, .int .i64 loa, .int .i64 hia, .int .i64 bla, .int .i64 oga, .int .i64 sga, .sl false [4] pta, .int .i64 stb, .int .i64 spb, .int .i64 acb, .int .i64 jeb, .int .i64 lob, .int .i64 hib, .int .i64 blb, .int .i64 ogb, .int .i64 sgb, .sl false [4] ptb, .int .i64 stc, .int .i64 spc, .int .i64 acc, .int .i64 jec, .int .i64 loc, .int .i64 hic, .int .i64 blc, .int .i64 ogc, .int .i64 sgc, .sl false [4] ptc], [.fn 54 [4] []], [.mu [4, 4, 4, 4, 4, 4, 4, 4, 4, 4] pk, .int .i64 ln, .int .i64 sa, .int .i64 d0, .int .i64 d1, .int .i64 d2]]))
  | _ => .fail
 | _ => .fail
def anE2 : LAnn := ⟨[1, 2, 3, 4, 5, 11, 38, 39], [], [1000005, 0, 1, 2, 3, 4], false⟩
def LE2 (v : LV) : LR :=
 match v with
 | ([.ce (.int .i64 lo), .ce (.int .i64 hi), .ce (.int .i64 mv), .ce (.fn g rs ex), .ce (.ptr 1000005 0), .ce (.sl false [4] st), .ce (.int .i64 n), .ce (.int .i64 k)],
  [[.int .i64 s0, .int .i64 s1, .int .i64 s2, .sl false [4, 4, 4, 4, 4, 4, 4] sg, .sl false [4, 4, 4] mk], [.int .i64 w0, .int .i64 w1, .int .i64 w2], [.int .i64 m], ax, [.fn g2 r2 e2], [.mu [4, 4, 4, 4, 4, 4, 4, 4, 4, 4] pk, .int .i64 ln, .int .i64 sa, .int .i64 d0, .int .i64 d1, .int .i64 d2]]) =>
  match ax with
  | [.int .i64 sta, .int .i64 spa, .int .i64 aca, .int .i64 jea, .int .i64 loa, .int .i64 hia, .int .i64 bla, .int .i64 oga, .int .i64 sga, .sl false [4] pta, .int .i64 stb, .int .i64 spb, .int .i64 acb, .int .i64 jeb, .int .i64 lob, .int .i64 hib, .int .i64 blb, .int .i64 ogb, .int .i64 sgb, .sl false [4] ptb, .int .i64 stc, .int .i64 spc, .int .i64 acc, .int .i64 jec, .int .i64 loc, .int .i64 hic, .int .i64 blc, .int .i64 ogc, .int .i64 sgc, .sl false [4] ptc] =>
   .all (n = sg.length /\ k = 0 /\ st = starts sg sg.length /\ (g = 55 /\ nl rs [0, 1, 2, 3] /\ nl ex [4]) /\ (g2 = 54 /\ nl r2 [4] /\ nl e2 []) /\ mv = m /\ (m = 1 ∨ m = -1) /\ (0 <= lo /\ lo <= hi /\ hi <= plen sg) /\ okLen sg /\ okPts s0 s1 s2 sg /\ okB3 bla blb blc /\ pk.length = 0 /\ ln = 0) LegS
    (fun x => x = legK s0 s1 s2 sg bla blb blc lo hi m ⟨[], 0, w0, w1, w2, if m < 0 then plen sg else 0⟩ sg.length) (fun _ => .exit 2)
    (fun x => ([], [[.int .i64 s0, .int .i64 s1, .int .i64 s2, .sl false [4, 4, 4, 4, 4, 4, 4] sg, .sl false [4, 4, 4] mk], [.int .i64 x.a0, .int .i64 x.a1, .int .i64 x.a2], [.int .i64 m], [.int .i64 sta, .int .i64 spa, .int .i64 aca, .int .i64 jea, .int .i64 loa, .int .i64 hia, .int .i64 bla, .int .i64 oga, .int .i64 sga, .sl false [4] pta, .int .i64 stb, .int .i64 spb, .int .i64 acb, .int .i64 jeb, .int .i64 lob, .int .i64 hib, .int .i64 blb, .int .i64 ogb, .int .i64 sgb, .sl false [4] ptb, .int .i64 stc, .int .i64 spc, .int .i64 acc, .int .i64 jec, .int .i64 loc, .int .i64 hic, .int .i64 blc, .int .i64 ogc, .int .i64 sgc, .sl false [4] ptc], [.fn 54 [4] []], [.mu [4, 4, 4, 4, 4, 4, 4, 4, 4, 4] x.pk, .int .i64 x.ln, .int .i64 sa, .int .i64 d0, .int .i64 d1, .int .i64 d2]]))
  | _ => .fail
 | _ => .fail
noncomputable def CEach : Ctx := ⟨Tryz.prog, gam tabEach, Tryz.f58.ntmps, [(4, anE1, LE1), (10, anE2, LE2)], []⟩
theorem vbE1 (s0 s1 s2 lo hi mv t n i w0 w1 w2 m ln sa d0 d1 d2 : Int) (sg mk l st pk : List (List Int)) (sta spa aca jea loa hia bla oga sga stb spb acb jeb lob hib blb ogb sgb stc spc acc jec loc hic blc ogc sgc : Int) (pta ptb ptc : List (List Int)) (K : HEx -> LV -> Prop) : (nbodyT true CEach anE1 (nthLoop Tryz.f58 0) (([.ce (.int .i64 lo), .ce (.int .i64 hi), .ce (.int .i64 mv), .ce (.fn 55 [0, 1, 2, 3] [4]), .ce (.ptr 1000005 0), .ce (.int .i64 t), .ce (.sl false [4] st), .ce (.lit true), .ce (.sl false [4, 4, 4, 4, 4, 4, 4] l), .ce (.int .i64 n), .ce (.int .i64 i)], [[.int .i64 s0, .int .i64 s1, .int .i64 s2, .sl false [4, 4, 4, 4, 4, 4, 4] sg, .sl false [4, 4, 4] mk], [.int .i64 w0, .int .i64 w1, .int .i64 w2], [.int .i64 m], [.int .i64 sta, .int .i64 spa, .int .i64 aca, .int .i64 jea, .int .i64 loa, .int .i64 hia, .int .i64 bla, .int .i64 oga, .int .i64 sga, .sl false [4] pta, .int .i64 stb, .int .i64 spb, .int .i64 acb, .int .i64 jeb, .int .i64 lob, .int .i64 hib, .int .i64 blb, .int .i64 ogb, .int .i64 sgb, .sl false [4] ptb, .int .i64 stc, .int .i64 spc, .int .i64 acc, .int .i64 jec, .int .i64 loc, .int .i64 hic, .int .i64 blc, .int .i64 ogc, .int .i64 sgc, .sl false [4] ptc], [.fn 54 [4] []], [.mu [4, 4, 4, 4, 4, 4, 4, 4, 4, 4] pk, .int .i64 ln, .int .i64 sa, .int .i64 d0, .int .i64 d1, .int .i64 d2]])) K) =
 ((decide (i < n) = true -> (0 <= i /\ i < (l.length : Int)) /\ ((st.length + 1) * 8 <= 140737488355328 /\ st.length + 1 <= maxLen) /\ (-9223372036854775808 <= t + ec l i.toNat 3 /\ t + ec l i.toNat 3 <= 9223372036854775807) /\ ∀ (x1 : Int), x1 = t + ec l i.toNat 3 -> (-9223372036854775808 <= i + 1 /\ i + 1 <= 9223372036854775807) /\ ∀ (x2 : Int), x2 = i + 1 -> K .normal ([.ce (.int .i64 lo), .ce (.int .i64 hi), .ce (.int .i64 mv), .ce (.fn (55 : FuncId) [0, 1, 2, 3] [4]), .ce (.ptr 1000005 0), .ce (.int .i64 x1), .ce (.sl false [4] (st ++ [[t]])), .ce (.lit true), .ce (.sl false [4, 4, 4, 4, 4, 4, 4] l), .ce (.int .i64 n), .ce (.int .i64 x2)], [[.int .i64 s0, .int .i64 s1, .int .i64 s2, .sl false [4, 4, 4, 4, 4, 4, 4] sg, .sl false [4, 4, 4] mk], [.int .i64 w0, .int .i64 w1, .int .i64 w2], [.int .i64 m], [.int .i64 sta, .int .i64 spa, .int .i64 aca, .int .i64 jea, .int .i64 loa, .int .i64 hia, .int .i64 bla, .int .i64 oga, .int .i64 sga, .sl false [4] pta, .int .i64 stb, .int .i64 spb, .int .i64 acb, .int .i64 jeb, .int .i64 lob, .int .i64 hib, .int .i64 blb, .int .i64 ogb, .int .i64 sgb, .sl false [4] ptb, .int .i64 stc, .int .i64 spc, .int .i64 acc, .int .i64 jec, .int .i64 loc, .int .i64 hic, .int .i64 blc, .int .i64 ogc, .int .i64 sgc, .sl false [4] ptc], [.fn (54 : FuncId) [4] []], [.mu [4, 4, 4, 4, 4, 4, 4, 4, 4, 4] pk, .int .i64 ln, .int .i64 sa, .int .i64 d0, .int .i64 d1, .int .i64 d2]])) /\
 (decide (i < n) = false -> K (.exit 0) ([.ce (.int .i64 lo), .ce (.int .i64 hi), .ce (.int .i64 mv), .ce (.fn (55 : FuncId) [0, 1, 2, 3] [4]), .ce (.ptr 1000005 0), .ce (.sl false [4] st), .ce (.lit true)], [[.int .i64 s0, .int .i64 s1, .int .i64 s2, .sl false [4, 4, 4, 4, 4, 4, 4] sg, .sl false [4, 4, 4] mk], [.int .i64 w0, .int .i64 w1, .int .i64 w2], [.int .i64 m], [.int .i64 sta, .int .i64 spa, .int .i64 aca, .int .i64 jea, .int .i64 loa, .int .i64 hia, .int .i64 bla, .int .i64 oga, .int .i64 sga, .sl false [4] pta, .int .i64 stb, .int .i64 spb, .int .i64 acb, .int .i64 jeb, .int .i64 lob, .int .i64 hib, .int .i64 blb, .int .i64 ogb, .int .i64 sgb, .sl false [4] ptb, .int .i64 stc, .int .i64 spc, .int .i64 acc, .int .i64 jec, .int .i64 loc, .int .i64 hic, .int .i64 blc, .int .i64 ogc, .int .i64 sgc, .sl false [4] ptc], [.fn (54 : FuncId) [4] []], [.mu [4, 4, 4, 4, 4, 4, 4, 4, 4, 4] pk, .int .i64 ln, .int .i64 sa, .int .i64 d0, .int .i64 d1, .int .i64 d2]]))) := by kernel_rfl
theorem vbE2 (s0 s1 s2 lo hi mv n k w0 w1 w2 m ln sa d0 d1 d2 : Int) (sg mk st pk : List (List Int)) (sta spa aca jea loa hia bla oga sga stb spb acb jeb lob hib blb ogb sgb stc spc acc jec loc hic blc ogc sgc : Int) (pta ptb ptc : List (List Int)) (K : HEx -> LV -> Prop) : (nbodyT true CEach anE2 (nthLoop Tryz.f58 1) (([.ce (.int .i64 lo), .ce (.int .i64 hi), .ce (.int .i64 mv), .ce (.fn 55 [0, 1, 2, 3] [4]), .ce (.ptr 1000005 0), .ce (.sl false [4] st), .ce (.int .i64 n), .ce (.int .i64 k)], [[.int .i64 s0, .int .i64 s1, .int .i64 s2, .sl false [4, 4, 4, 4, 4, 4, 4] sg, .sl false [4, 4, 4] mk], [.int .i64 w0, .int .i64 w1, .int .i64 w2], [.int .i64 m], [.int .i64 sta, .int .i64 spa, .int .i64 aca, .int .i64 jea, .int .i64 loa, .int .i64 hia, .int .i64 bla, .int .i64 oga, .int .i64 sga, .sl false [4] pta, .int .i64 stb, .int .i64 spb, .int .i64 acb, .int .i64 jeb, .int .i64 lob, .int .i64 hib, .int .i64 blb, .int .i64 ogb, .int .i64 sgb, .sl false [4] ptb, .int .i64 stc, .int .i64 spc, .int .i64 acc, .int .i64 jec, .int .i64 loc, .int .i64 hic, .int .i64 blc, .int .i64 ogc, .int .i64 sgc, .sl false [4] ptc], [.fn 54 [4] []], [.mu [4, 4, 4, 4, 4, 4, 4, 4, 4, 4] pk, .int .i64 ln, .int .i64 sa, .int .i64 d0, .int .i64 d1, .int .i64 d2]])) K) =
 ((decide (k < n) = true -> (decide (mv < 0) = true -> (-9223372036854775808 <= (sg.length : Int) - 1 /\ (sg.length : Int) - 1 <= 9223372036854775807) /\ ∀ (x1 : Int), x1 = (sg.length : Int) - 1 -> (-9223372036854775808 <= x1 - k /\ x1 - k <= 9223372036854775807) /\ ∀ (x2 : Int), x2 = x1 - k -> (0 <= x2 /\ x2 < (st.length : Int)) /\ ∀ (x3 : Int), x3 = el st x2.toNat -> ∀ (x4 : Int), x4 = max x3 lo -> (0 <= x2 /\ x2 < (st.length : Int)) /\ ∀ (x5 : Int), x5 = el st x2.toNat -> (0 <= x2 /\ x2 < (sg.length : Int)) /\ ∀ (x6 : Int), x6 = ec sg x2.toNat 3 -> (-9223372036854775808 <= x5 + x6 /\ x5 + x6 <= 9223372036854775807) /\ ∀ (x7 : Int), x7 = x5 + x6 -> ∀ (x8 : Int), x8 = min x7 hi -> (decide (x4 >= x8) = true -> (-9223372036854775808 <= k + 1 /\ k + 1 <= 9223372036854775807) /\ ∀ (x9 : Int), x9 = k + 1 -> K .normal ([.ce (.int .i64 lo), .ce (.int .i64 hi), .ce (.int .i64 mv), .ce (.fn (55 : FuncId) [0, 1, 2, 3] [4]), .ce (.ptr 1000005 0), .ce (.sl false [4] st), .ce (.int .i64 n), .ce (.int .i64 x9)], [[.int .i64 s0, .int .i64 s1, .int .i64 s2, .sl false [4, 4, 4, 4, 4, 4, 4] sg, .sl false [4, 4, 4] mk], [.int .i64 w0, .int .i64 w1, .int .i64 w2], [.int .i64 m], [.int .i64 sta, .int .i64 spa, .int .i64 aca, .int .i64 jea, .int .i64 loa, .int .i64 hia, .int .i64 bla, .int .i64 oga, .int .i64 sga, .sl false [4] pta, .int .i64 stb, .int .i64 spb, .int .i64 acb, .int .i64 jeb, .int .i64 lob, .int .i64 hib, .int .i64 blb, .int .i64 ogb, .int .i64 sgb, .sl false [4] ptb, .int .i64 stc, .int .i64 spc, .int .i64 acc, .int .i64 jec, .int .i64 loc, .int .i64 hic, .int .i64 blc, .int .i64 ogc, .int .i64 sgc, .sl false [4] ptc], [.fn (54 : FuncId) [4] []], [.mu [4, 4, 4, 4, 4, 4, 4, 4, 4, 4] pk, .int .i64 ln, .int .i64 sa, .int .i64 d0, .int .i64 d1, .int .i64 d2]])) /\
 (decide (x4 >= x8) = false -> (decide (x2 > 0) = true -> (-9223372036854775808 <= x2 - 1 /\ x2 - 1 <= 9223372036854775807) /\ ∀ (x10 : Int), x10 = x2 - 1 -> (0 <= x10 /\ x10 < (sg.length : Int)) /\ (decide (mv < 0) = true -> (0 <= x2 /\ x2 < (sg.length : Int)) /\ (-9223372036854775808 <= x8 - x4 /\ x8 - x4 <= 9223372036854775807) /\ ∀ (x11 : Int), x11 = x8 - x4 -> (((54 : FuncId) = (54 : FuncId) /\ nl [4] [4] /\ nl [] []) /\ (m = 1 ∨ m = (-1 : Int)) /\ okB3 bla blb blc /\ (0 <= x11 /\ x11 <= 1152921504606846976) /\ (0 <= ln /\ ln <= 1152921504606846976) /\ pk.length <= 100000000000 /\ ∀ (j : Nat), j < pk.length -> 0 <= ec pk j 1 /\ ec pk j 1 <= ln) /\ (∃ (x : List (List Int) × Int), x = vis bla blb blc m x8 x11 (tn1 (el sg x10.toNat) (el sg x2.toNat) m w0) (tn1 (ec sg x10.toNat 1) (ec sg x2.toNat 1) m w1) (tn1 (ec sg x10.toNat 2) (ec sg x2.toNat 2) m w2) pk ln w0 w1 w2) /\ ∀ (x : List (List Int) × Int), x = vis bla blb blc m x8 x11 (tn1 (el sg x10.toNat) (el sg x2.toNat) m w0) (tn1 (ec sg x10.toNat 1) (ec sg x2.toNat 1) m w1) (tn1 (ec sg x10.toNat 2) (ec sg x2.toNat 2) m w2) pk ln w0 w1 w2 ->
 (-9223372036854775808 <= k + 1 /\ k + 1 <= 9223372036854775807) /\ ∀ (x14 : Int), x14 = k + 1 -> K .normal ([.ce (.int .i64 lo), .ce (.int .i64 hi), .ce (.int .i64 mv), .ce (.fn (55 : FuncId) [0, 1, 2, 3] [4]), .ce (.ptr 1000005 0), .ce (.sl false [4] st), .ce (.int .i64 n), .ce (.int .i64 x14)], [[.int .i64 s0, .int .i64 s1, .int .i64 s2, .sl false [4, 4, 4, 4, 4, 4, 4] sg, .sl false [4, 4, 4] mk], [.int .i64 (tn1 (el sg x10.toNat) (el sg x2.toNat) m w0), .int .i64 (tn1 (ec sg x10.toNat 1) (ec sg x2.toNat 1) m w1), .int .i64 (tn1 (ec sg x10.toNat 2) (ec sg x2.toNat 2) m w2)], [.int .i64 m], [.int .i64 sta, .int .i64 spa, .int .i64 aca, .int .i64 jea, .int .i64 loa, .int .i64 hia, .int .i64 bla, .int .i64 oga, .int .i64 sga, .sl false [4] pta, .int .i64 stb, .int .i64 spb, .int .i64 acb, .int .i64 jeb, .int .i64 lob, .int .i64 hib, .int .i64 blb, .int .i64 ogb, .int .i64 sgb, .sl false [4] ptb, .int .i64 stc, .int .i64 spc, .int .i64 acc, .int .i64 jec, .int .i64 loc, .int .i64 hic, .int .i64 blc, .int .i64 ogc, .int .i64 sgc, .sl false [4] ptc], [.fn (54 : FuncId) [4] []], [.mu [4, 4, 4, 4, 4, 4, 4, 4, 4, 4] x.1, .int .i64 x.2, .int .i64 sa, .int .i64 d0, .int .i64 d1, .int .i64 d2]])) /\
 (decide (mv < 0) = false -> (0 <= x2 /\ x2 < (sg.length : Int)) /\ (-9223372036854775808 <= x8 - x4 /\ x8 - x4 <= 9223372036854775807) /\ ∀ (x15 : Int), x15 = x8 - x4 -> (((54 : FuncId) = (54 : FuncId) /\ nl [4] [4] /\ nl [] []) /\ (m = 1 ∨ m = (-1 : Int)) /\ okB3 bla blb blc /\ (0 <= x15 /\ x15 <= 1152921504606846976) /\ (0 <= ln /\ ln <= 1152921504606846976) /\ pk.length <= 100000000000 /\ ∀ (j : Nat), j < pk.length -> 0 <= ec pk j 1 /\ ec pk j 1 <= ln) /\ (∃ (x : List (List Int) × Int), x = vis bla blb blc m x4 x15 (tn1 (el sg x10.toNat) (el sg x2.toNat) m w0) (tn1 (ec sg x10.toNat 1) (ec sg x2.toNat 1) m w1) (tn1 (ec sg x10.toNat 2) (ec sg x2.toNat 2) m w2) pk ln w0 w1 w2) /\ ∀ (x : List (List Int) × Int), x = vis bla blb blc m x4 x15 (tn1 (el sg x10.toNat) (el sg x2.toNat) m w0) (tn1 (ec sg x10.toNat 1) (ec sg x2.toNat 1) m w1) (tn1 (ec sg x10.toNat 2) (ec sg x2.toNat 2) m w2) pk ln w0 w1 w2 ->
 (-9223372036854775808 <= k + 1 /\ k + 1 <= 9223372036854775807) /\ ∀ (x18 : Int), x18 = k + 1 -> K .normal ([.ce (.int .i64 lo), .ce (.int .i64 hi), .ce (.int .i64 mv), .ce (.fn (55 : FuncId) [0, 1, 2, 3] [4]), .ce (.ptr 1000005 0), .ce (.sl false [4] st), .ce (.int .i64 n), .ce (.int .i64 x18)], [[.int .i64 s0, .int .i64 s1, .int .i64 s2, .sl false [4, 4, 4, 4, 4, 4, 4] sg, .sl false [4, 4, 4] mk], [.int .i64 (tn1 (el sg x10.toNat) (el sg x2.toNat) m w0), .int .i64 (tn1 (ec sg x10.toNat 1) (ec sg x2.toNat 1) m w1), .int .i64 (tn1 (ec sg x10.toNat 2) (ec sg x2.toNat 2) m w2)], [.int .i64 m], [.int .i64 sta, .int .i64 spa, .int .i64 aca, .int .i64 jea, .int .i64 loa, .int .i64 hia, .int .i64 bla, .int .i64 oga, .int .i64 sga, .sl false [4] pta, .int .i64 stb, .int .i64 spb, .int .i64 acb, .int .i64 jeb, .int .i64 lob, .int .i64 hib, .int .i64 blb, .int .i64 ogb, .int .i64 sgb, .sl false [4] ptb, .int .i64 stc, .int .i64 spc, .int .i64 acc, .int .i64 jec, .int .i64 loc, .int .i64 hic, .int .i64 blc, .int .i64 ogc, .int .i64 sgc, .sl false [4] ptc], [.fn (54 : FuncId) [4] []], [.mu [4, 4, 4, 4, 4, 4, 4, 4, 4, 4] x.1, .int .i64 x.2, .int .i64 sa, .int .i64 d0, .int .i64 d1, .int .i64 d2]]))) /\
 (decide (x2 > 0) = false -> (decide (mv < 0) = true -> (0 <= x2 /\ x2 < (sg.length : Int)) /\ (-9223372036854775808 <= x8 - x4 /\ x8 - x4 <= 9223372036854775807) /\ ∀ (x19 : Int), x19 = x8 - x4 -> (((54 : FuncId) = (54 : FuncId) /\ nl [4] [4] /\ nl [] []) /\ (m = 1 ∨ m = (-1 : Int)) /\ okB3 bla blb blc /\ (0 <= x19 /\ x19 <= 1152921504606846976) /\ (0 <= ln /\ ln <= 1152921504606846976) /\ pk.length <= 100000000000 /\ ∀ (j : Nat), j < pk.length -> 0 <= ec pk j 1 /\ ec pk j 1 <= ln) /\ (∃ (x : List (List Int) × Int), x = vis bla blb blc m x8 x19 (tn1 s0 (el sg x2.toNat) m w0) (tn1 s1 (ec sg x2.toNat 1) m w1) (tn1 s2 (ec sg x2.toNat 2) m w2) pk ln w0 w1 w2) /\ ∀ (x : List (List Int) × Int), x = vis bla blb blc m x8 x19 (tn1 s0 (el sg x2.toNat) m w0) (tn1 s1 (ec sg x2.toNat 1) m w1) (tn1 s2 (ec sg x2.toNat 2) m w2) pk ln w0 w1 w2 -> (-9223372036854775808 <= k + 1 /\ k + 1 <= 9223372036854775807) /\ ∀ (x22 : Int), x22 = k + 1 ->
 K .normal ([.ce (.int .i64 lo), .ce (.int .i64 hi), .ce (.int .i64 mv), .ce (.fn (55 : FuncId) [0, 1, 2, 3] [4]), .ce (.ptr 1000005 0), .ce (.sl false [4] st), .ce (.int .i64 n), .ce (.int .i64 x22)], [[.int .i64 s0, .int .i64 s1, .int .i64 s2, .sl false [4, 4, 4, 4, 4, 4, 4] sg, .sl false [4, 4, 4] mk], [.int .i64 (tn1 s0 (el sg x2.toNat) m w0), .int .i64 (tn1 s1 (ec sg x2.toNat 1) m w1), .int .i64 (tn1 s2 (ec sg x2.toNat 2) m w2)], [.int .i64 m], [.int .i64 sta, .int .i64 spa, .int .i64 aca, .int .i64 jea, .int .i64 loa, .int .i64 hia, .int .i64 bla, .int .i64 oga, .int .i64 sga, .sl false [4] pta, .int .i64 stb, .int .i64 spb, .int .i64 acb, .int .i64 jeb, .int .i64 lob, .int .i64 hib, .int .i64 blb, .int .i64 ogb, .int .i64 sgb, .sl false [4] ptb, .int .i64 stc, .int .i64 spc, .int .i64 acc, .int .i64 jec, .int .i64 loc, .int .i64 hic, .int .i64 blc, .int .i64 ogc, .int .i64 sgc, .sl false [4] ptc], [.fn (54 : FuncId) [4] []], [.mu [4, 4, 4, 4, 4, 4, 4, 4, 4, 4] x.1, .int .i64 x.2, .int .i64 sa, .int .i64 d0, .int .i64 d1, .int .i64 d2]])) /\
 (decide (mv < 0) = false -> (0 <= x2 /\ x2 < (sg.length : Int)) /\ (-9223372036854775808 <= x8 - x4 /\ x8 - x4 <= 9223372036854775807) /\ ∀ (x23 : Int), x23 = x8 - x4 -> (((54 : FuncId) = (54 : FuncId) /\ nl [4] [4] /\ nl [] []) /\ (m = 1 ∨ m = (-1 : Int)) /\ okB3 bla blb blc /\ (0 <= x23 /\ x23 <= 1152921504606846976) /\ (0 <= ln /\ ln <= 1152921504606846976) /\ pk.length <= 100000000000 /\ ∀ (j : Nat), j < pk.length -> 0 <= ec pk j 1 /\ ec pk j 1 <= ln) /\ (∃ (x : List (List Int) × Int), x = vis bla blb blc m x4 x23 (tn1 s0 (el sg x2.toNat) m w0) (tn1 s1 (ec sg x2.toNat 1) m w1) (tn1 s2 (ec sg x2.toNat 2) m w2) pk ln w0 w1 w2) /\ ∀ (x : List (List Int) × Int), x = vis bla blb blc m x4 x23 (tn1 s0 (el sg x2.toNat) m w0) (tn1 s1 (ec sg x2.toNat 1) m w1) (tn1 s2 (ec sg x2.toNat 2) m w2) pk ln w0 w1 w2 -> (-9223372036854775808 <= k + 1 /\ k + 1 <= 9223372036854775807) /\ ∀ (x26 : Int), x26 = k + 1 -> K .normal ([.ce (.int .i64 lo), .ce (.int .i64 hi), .ce (.int .i64 mv), .ce (.fn (55 : FuncId) [0, 1, 2, 3] [4]), .ce (.ptr 1000005 0), .ce (.sl false [4] st), .ce (.int .i64 n), .ce (.int .i64 x26)], [[.int .i64 s0, .int .i64 s1, .int .i64 s2, .sl false [4, 4, 4, 4, 4, 4, 4] sg, .sl false [4, 4, 4] mk], [.int .i64 (tn1 s0 (el sg x2.toNat) m w0), .int .i64 (tn1 s1 (ec sg x2.toNat 1) m w1), .int .i64 (tn1 s2 (ec sg x2.toNat 2) m w2)], [.int .i64 m], [.int .i64 sta, .int .i64 spa, .int .i64 aca, .int .i64 jea, .int .i64 loa, .int .i64 hia, .int .i64 bla, .int .i64 oga, .int .i64 sga, .sl false [4] pta, .int .i64 stb, .int .i64 spb, .int .i64 acb, .int .i64 jeb, .int .i64 lob, .int .i64 hib, .int .i64 blb, .int .i64 ogb, .int .i64 sgb, .sl false [4] ptb, .int .i64 stc, .int .i64 spc, .int .i64 acc, .int .i64 jec, .int .i64 loc, .int .i64 hic, .int .i64 blc, .int .i64 ogc, .int .i64 sgc, .sl false [4] ptc], [.fn (54 : FuncId) [4] []], [.mu [4, 4, 4, 4, 4, 4, 4, 4, 4, 4] x.1, .int .i64 x.2, .int .i64 sa, .int .i64 d0, .int .i64 d1, .int .i64 d2]]))))) /\
 (decide (mv < 0) = false -> (0 <= k /\ k < (st.length : Int)) /\ ∀ (x27 : Int), x27 = el st k.toNat -> ∀ (x28 : Int), x28 = max x27 lo -> (0 <= k /\ k < (st.length : Int)) /\ ∀ (x29 : Int), x29 = el st k.toNat -> (0 <= k /\ k < (sg.length : Int)) /\ ∀ (x30 : Int), x30 = ec sg k.toNat 3 -> (-9223372036854775808 <= x29 + x30 /\ x29 + x30 <= 9223372036854775807) /\ ∀ (x31 : Int), x31 = x29 + x30 -> ∀ (x32 : Int), x32 = min x31 hi -> (decide (x28 >= x32) = true -> (-9223372036854775808 <= k + 1 /\ k + 1 <= 9223372036854775807) /\ ∀ (x33 : Int), x33 = k + 1 -> K .normal ([.ce (.int .i64 lo), .ce (.int .i64 hi), .ce (.int .i64 mv), .ce (.fn (55 : FuncId) [0, 1, 2, 3] [4]), .ce (.ptr 1000005 0), .ce (.sl false [4] st), .ce (.int .i64 n), .ce (.int .i64 x33)], [[.int .i64 s0, .int .i64 s1, .int .i64 s2, .sl false [4, 4, 4, 4, 4, 4, 4] sg, .sl false [4, 4, 4] mk], [.int .i64 w0, .int .i64 w1, .int .i64 w2], [.int .i64 m], [.int .i64 sta, .int .i64 spa, .int .i64 aca, .int .i64 jea, .int .i64 loa, .int .i64 hia, .int .i64 bla, .int .i64 oga, .int .i64 sga, .sl false [4] pta, .int .i64 stb, .int .i64 spb, .int .i64 acb, .int .i64 jeb, .int .i64 lob, .int .i64 hib, .int .i64 blb, .int .i64 ogb, .int .i64 sgb, .sl false [4] ptb, .int .i64 stc, .int .i64 spc, .int .i64 acc, .int .i64 jec, .int .i64 loc, .int .i64 hic, .int .i64 blc, .int .i64 ogc, .int .i64 sgc, .sl false [4] ptc], [.fn (54 : FuncId) [4] []], [.mu [4, 4, 4, 4, 4, 4, 4, 4, 4, 4] pk, .int .i64 ln, .int .i64 sa, .int .i64 d0, .int .i64 d1, .int .i64 d2]])) /\
 (decide (x28 >= x32) = false -> (decide (k > 0) = true -> (-9223372036854775808 <= k - 1 /\ k - 1 <= 9223372036854775807) /\ ∀ (x34 : Int), x34 = k - 1 -> (0 <= x34 /\ x34 < (sg.length : Int)) /\ (decide (mv < 0) = true -> (0 <= k /\ k < (sg.length : Int)) /\ (-9223372036854775808 <= x32 - x28 /\ x32 - x28 <= 9223372036854775807) /\ ∀ (x35 : Int), x35 = x32 - x28 -> (((54 : FuncId) = (54 : FuncId) /\ nl [4] [4] /\ nl [] []) /\ (m = 1 ∨ m = (-1 : Int)) /\ okB3 bla blb blc /\ (0 <= x35 /\ x35 <= 1152921504606846976) /\ (0 <= ln /\ ln <= 1152921504606846976) /\ pk.length <= 100000000000 /\ ∀ (j : Nat), j < pk.length -> 0 <= ec pk j 1 /\ ec pk j 1 <= ln) /\ (∃ (x : List (List Int) × Int), x = vis bla blb blc m x32 x35 (tn1 (el sg x34.toNat) (el sg k.toNat) m w0) (tn1 (ec sg x34.toNat 1) (ec sg k.toNat 1) m w1) (tn1 (ec sg x34.toNat 2) (ec sg k.toNat 2) m w2) pk ln w0 w1 w2) /\ ∀ (x : List (List Int) × Int), x = vis bla blb blc m x32 x35 (tn1 (el sg x34.toNat) (el sg k.toNat) m w0) (tn1 (ec sg x34.toNat 1) (ec sg k.toNat 1) m w1) (tn1 (ec sg x34.toNat 2) (ec sg k.toNat 2) m w2) pk ln w0 w1 w2 ->
 (-9223372036854775808 <= k + 1 /\ k + 1 <= 9223372036854775807) /\ ∀ (x38 : Int), x38 = k + 1 -> K .normal ([.ce (.int .i64 lo), .ce (.int .i64 hi), .ce (.int .i64 mv), .ce (.fn (55 : FuncId) [0, 1, 2, 3] [4]), .ce (.ptr 1000005 0), .ce (.sl false [4] st), .ce (.int .i64 n), .ce (.int .i64 x38)], [[.int .i64 s0, .int .i64 s1, .int .i64 s2, .sl false [4, 4, 4, 4, 4, 4, 4] sg, .sl false [4, 4, 4] mk], [.int .i64 (tn1 (el sg x34.toNat) (el sg k.toNat) m w0), .int .i64 (tn1 (ec sg x34.toNat 1) (ec sg k.toNat 1) m w1), .int .i64 (tn1 (ec sg x34.toNat 2) (ec sg k.toNat 2) m w2)], [.int .i64 m], [.int .i64 sta, .int .i64 spa, .int .i64 aca, .int .i64 jea, .int .i64 loa, .int .i64 hia, .int .i64 bla, .int .i64 oga, .int .i64 sga, .sl false [4] pta, .int .i64 stb, .int .i64 spb, .int .i64 acb, .int .i64 jeb, .int .i64 lob, .int .i64 hib, .int .i64 blb, .int .i64 ogb, .int .i64 sgb, .sl false [4] ptb, .int .i64 stc, .int .i64 spc, .int .i64 acc, .int .i64 jec, .int .i64 loc, .int .i64 hic, .int .i64 blc, .int .i64 ogc, .int .i64 sgc, .sl false [4] ptc], [.fn (54 : FuncId) [4] []], [.mu [4, 4, 4, 4, 4, 4, 4, 4, 4, 4] x.1, .int .i64 x.2, .int .i64 sa, .int .i64 d0, .int .i64 d1, .int .i64 d2]])) /\
 (decide (mv < 0) = false -> (0 <= k /\ k < (sg.length : Int)) /\ (-9223372036854775808 <= x32 - x28 /\ x32 - x28 <= 9223372036854775807) /\ ∀ (x39 : Int), x39 = x32 - x28 -> (((54 : FuncId) = (54 : FuncId) /\ nl [4] [4] /\ nl [] []) /\ (m = 1 ∨ m = (-1 : Int)) /\ okB3 bla blb blc /\ (0 <= x39 /\ x39 <= 1152921504606846976) /\ (0 <= ln /\ ln <= 1152921504606846976) /\ pk.length <= 100000000000 /\ ∀ (j : Nat), j < pk.length -> 0 <= ec pk j 1 /\ ec pk j 1 <= ln) /\ (∃ (x : List (List Int) × Int), x = vis bla blb blc m x28 x39 (tn1 (el sg x34.toNat) (el sg k.toNat) m w0) (tn1 (ec sg x34.toNat 1) (ec sg k.toNat 1) m w1) (tn1 (ec sg x34.toNat 2) (ec sg k.toNat 2) m w2) pk ln w0 w1 w2) /\ ∀ (x : List (List Int) × Int), x = vis bla blb blc m x28 x39 (tn1 (el sg x34.toNat) (el sg k.toNat) m w0) (tn1 (ec sg x34.toNat 1) (ec sg k.toNat 1) m w1) (tn1 (ec sg x34.toNat 2) (ec sg k.toNat 2) m w2) pk ln w0 w1 w2 ->
 (-9223372036854775808 <= k + 1 /\ k + 1 <= 9223372036854775807) /\ ∀ (x42 : Int), x42 = k + 1 -> K .normal ([.ce (.int .i64 lo), .ce (.int .i64 hi), .ce (.int .i64 mv), .ce (.fn (55 : FuncId) [0, 1, 2, 3] [4]), .ce (.ptr 1000005 0), .ce (.sl false [4] st), .ce (.int .i64 n), .ce (.int .i64 x42)], [[.int .i64 s0, .int .i64 s1, .int .i64 s2, .sl false [4, 4, 4, 4, 4, 4, 4] sg, .sl false [4, 4, 4] mk], [.int .i64 (tn1 (el sg x34.toNat) (el sg k.toNat) m w0), .int .i64 (tn1 (ec sg x34.toNat 1) (ec sg k.toNat 1) m w1), .int .i64 (tn1 (ec sg x34.toNat 2) (ec sg k.toNat 2) m w2)], [.int .i64 m], [.int .i64 sta, .int .i64 spa, .int .i64 aca, .int .i64 jea, .int .i64 loa, .int .i64 hia, .int .i64 bla, .int .i64 oga, .int .i64 sga, .sl false [4] pta, .int .i64 stb, .int .i64 spb, .int .i64 acb, .int .i64 jeb, .int .i64 lob, .int .i64 hib, .int .i64 blb, .int .i64 ogb, .int .i64 sgb, .sl false [4] ptb, .int .i64 stc, .int .i64 spc, .int .i64 acc, .int .i64 jec, .int .i64 loc, .int .i64 hic, .int .i64 blc, .int .i64 ogc, .int .i64 sgc, .sl false [4] ptc], [.fn (54 : FuncId) [4] []], [.mu [4, 4, 4, 4, 4, 4, 4, 4, 4, 4] x.1, .int .i64 x.2, .int .i64 sa, .int .i64 d0, .int .i64 d1, .int .i64 d2]]))) /\
 (decide (k > 0) = false -> (decide (mv < 0) = true -> (0 <= k /\ k < (sg.length : Int)) /\ (-9223372036854775808 <= x32 - x28 /\ x32 - x28 <= 9223372036854775807) /\ ∀ (x43 : Int), x43 = x32 - x28 -> (((54 : FuncId) = (54 : FuncId) /\ nl [4] [4] /\ nl [] []) /\ (m = 1 ∨ m = (-1 : Int)) /\ okB3 bla blb blc /\ (0 <= x43 /\ x43 <= 1152921504606846976) /\ (0 <= ln /\ ln <= 1152921504606846976) /\ pk.length <= 100000000000 /\ ∀ (j : Nat), j < pk.length -> 0 <= ec pk j 1 /\ ec pk j 1 <= ln) /\ (∃ (x : List (List Int) × Int), x = vis bla blb blc m x32 x43 (tn1 s0 (el sg k.toNat) m w0) (tn1 s1 (ec sg k.toNat 1) m w1) (tn1 s2 (ec sg k.toNat 2) m w2) pk ln w0 w1 w2) /\ ∀ (x : List (List Int) × Int), x = vis bla blb blc m x32 x43 (tn1 s0 (el sg k.toNat) m w0) (tn1 s1 (ec sg k.toNat 1) m w1) (tn1 s2 (ec sg k.toNat 2) m w2) pk ln w0 w1 w2 -> (-9223372036854775808 <= k + 1 /\ k + 1 <= 9223372036854775807) /\ ∀ (x46 : Int), x46 = k + 1 ->
 K .normal ([.ce (.int .i64 lo), .ce (.int .i64 hi), .ce (.int .i64 mv), .ce (.fn (55 : FuncId) [0, 1, 2, 3] [4]), .ce (.ptr 1000005 0), .ce (.sl false [4] st), .ce (.int .i64 n), .ce (.int .i64 x46)], [[.int .i64 s0, .int .i64 s1, .int .i64 s2, .sl false [4, 4, 4, 4, 4, 4, 4] sg, .sl false [4, 4, 4] mk], [.int .i64 (tn1 s0 (el sg k.toNat) m w0), .int .i64 (tn1 s1 (ec sg k.toNat 1) m w1), .int .i64 (tn1 s2 (ec sg k.toNat 2) m w2)], [.int .i64 m], [.int .i64 sta, .int .i64 spa, .int .i64 aca, .int .i64 jea, .int .i64 loa, .int .i64 hia, .int .i64 bla, .int .i64 oga, .int .i64 sga, .sl false [4] pta, .int .i64 stb, .int .i64 spb, .int .i64 acb, .int .i64 jeb, .int .i64 lob, .int .i64 hib, .int .i64 blb, .int .i64 ogb, .int .i64 sgb, .sl false [4] ptb, .int .i64 stc, .int .i64 spc, .int .i64 acc, .int .i64 jec, .int .i64 loc, .int .i64 hic, .int .i64 blc, .int .i64 ogc, .int .i64 sgc, .sl false [4] ptc], [.fn (54 : FuncId) [4] []], [.mu [4, 4, 4, 4, 4, 4, 4, 4, 4, 4] x.1, .int .i64 x.2, .int .i64 sa, .int .i64 d0, .int .i64 d1, .int .i64 d2]])) /\
 (decide (mv < 0) = false -> (0 <= k /\ k < (sg.length : Int)) /\ (-9223372036854775808 <= x32 - x28 /\ x32 - x28 <= 9223372036854775807) /\ ∀ (x47 : Int), x47 = x32 - x28 -> (((54 : FuncId) = (54 : FuncId) /\ nl [4] [4] /\ nl [] []) /\ (m = 1 ∨ m = (-1 : Int)) /\ okB3 bla blb blc /\ (0 <= x47 /\ x47 <= 1152921504606846976) /\ (0 <= ln /\ ln <= 1152921504606846976) /\ pk.length <= 100000000000 /\ ∀ (j : Nat), j < pk.length -> 0 <= ec pk j 1 /\ ec pk j 1 <= ln) /\ (∃ (x : List (List Int) × Int), x = vis bla blb blc m x28 x47 (tn1 s0 (el sg k.toNat) m w0) (tn1 s1 (ec sg k.toNat 1) m w1) (tn1 s2 (ec sg k.toNat 2) m w2) pk ln w0 w1 w2) /\ ∀ (x : List (List Int) × Int), x = vis bla blb blc m x28 x47 (tn1 s0 (el sg k.toNat) m w0) (tn1 s1 (ec sg k.toNat 1) m w1) (tn1 s2 (ec sg k.toNat 2) m w2) pk ln w0 w1 w2 -> (-9223372036854775808 <= k + 1 /\ k + 1 <= 9223372036854775807) /\ ∀ (x50 : Int), x50 = k + 1 -> K .normal ([.ce (.int .i64 lo), .ce (.int .i64 hi), .ce (.int .i64 mv), .ce (.fn (55 : FuncId) [0, 1, 2, 3] [4]), .ce (.ptr 1000005 0), .ce (.sl false [4] st), .ce (.int .i64 n), .ce (.int .i64 x50)], [[.int .i64 s0, .int .i64 s1, .int .i64 s2, .sl false [4, 4, 4, 4, 4, 4, 4] sg, .sl false [4, 4, 4] mk], [.int .i64 (tn1 s0 (el sg k.toNat) m w0), .int .i64 (tn1 s1 (ec sg k.toNat 1) m w1), .int .i64 (tn1 s2 (ec sg k.toNat 2) m w2)], [.int .i64 m], [.int .i64 sta, .int .i64 spa, .int .i64 aca, .int .i64 jea, .int .i64 loa, .int .i64 hia, .int .i64 bla, .int .i64 oga, .int .i64 sga, .sl false [4] pta, .int .i64 stb, .int .i64 spb, .int .i64 acb, .int .i64 jeb, .int .i64 lob, .int .i64 hib, .int .i64 blb, .int .i64 ogb, .int .i64 sgb, .sl false [4] ptb, .int .i64 stc, .int .i64 spc, .int .i64 acc, .int .i64 jec, .int .i64 loc, .int .i64 hic, .int .i64 blc, .int .i64 ogc, .int .i64 sgc, .sl false [4] ptc], [.fn (54 : FuncId) [4] []], [.mu [4, 4, 4, 4, 4, 4, 4, 4, 4, 4] x.1, .int .i64 x.2, .int .i64 sa, .int .i64 d0, .int .i64 d1, .int .i64 d2]])))))) /\
 (decide (k < n) = false -> K (.exit 2) ([], [[.int .i64 s0, .int .i64 s1, .int .i64 s2, .sl false [4, 4, 4, 4, 4, 4, 4] sg, .sl false [4, 4, 4] mk], [.int .i64 w0, .int .i64 w1, .int .i64 w2], [.int .i64 m], [.int .i64 sta, .int .i64 spa, .int .i64 aca, .int .i64 jea, .int .i64 loa, .int .i64 hia, .int .i64 bla, .int .i64 oga, .int .i64 sga, .sl false [4] pta, .int .i64 stb, .int .i64 spb, .int .i64 acb, .int .i64 jeb, .int .i64 lob, .int .i64 hib, .int .i64 blb, .int .i64 ogb, .int .i64 sgb, .sl false [4] ptb, .int .i64 stc, .int .i64 spc, .int .i64 acc, .int .i64 jec, .int .i64 loc, .int .i64 hic, .int .i64 blc, .int .i64 ogc, .int .i64 sgc, .sl false [4] ptc], [.fn (54 : FuncId) [4] []], [.mu [4, 4, 4, 4, 4, 4, 4, 4, 4, 4] pk, .int .i64 ln, .int .i64 sa, .int .i64 d0, .int .i64 d1, .int .i64 d2]]))) := by kernel_rfl
theorem vcEach (s0 s1 s2 lo hi mv w0 w1 w2 m ln sa d0 d1 d2 : Int) (sg mk pk : List (List Int)) (sta spa aca jea loa hia bla oga sga stb spb acb jeb lob hib blb ogb sgb stc spc acc jec loc hic blc ogc sgc : Int) (pta ptb ptc : List (List Int)) (Q : Res -> Prop) : (nfun true CEach Tryz.f58 (bodyOf Tryz.f58) [.agg [.int .i64 s0, .int .i64 s1, .int .i64 s2, .sl false [4, 4, 4, 4, 4, 4, 4] sg, .sl false [4, 4, 4] mk], .ce (.int .i64 lo), .ce (.int .i64 hi), .ce (.int .i64 mv), .ce (.fn 55 [0, 1, 2, 3] [4])] [[.int .i64 w0, .int .i64 w1, .int .i64 w2], [.int .i64 m], [.int .i64 sta, .int .i64 spa, .int .i64 aca, .int .i64 jea, .int .i64 loa, .int .i64 hia, .int .i64 bla, .int .i64 oga, .int .i64 sga, .sl false [4] pta, .int .i64 stb, .int .i64 spb, .int .i64 acb, .int .i64 jeb, .int .i64 lob, .int .i64 hib, .int .i64 blb, .int .i64 ogb, .int .i64 sgb, .sl false [4] ptb, .int .i64 stc, .int .i64 spc, .int .i64 acc, .int .i64 jec, .int .i64 loc, .int .i64 hic, .int .i64 blc, .int .i64 ogc, .int .i64 sgc, .sl false [4] ptc], [.fn 54 [4] []], [.mu [4, 4, 4, 4, 4, 4, 4, 4, 4, 4] pk, .int .i64 ln, .int .i64 sa, .int .i64 d0, .int .i64 d1, .int .i64 d2]] Q) =
 (((sg.length : Int) = (sg.length : Int) /\ (0 : Int) = 0 /\ (0 : Int) = 0 /\ (0 : Nat) = 0 /\ okLen sg /\ ((55 : FuncId) = (55 : FuncId) /\ nl [0, 1, 2, 3] [0, 1, 2, 3] /\ nl [4] [4]) /\ (54 : FuncId) = (54 : FuncId) /\ nl [4] [4] /\ nl [] []) /\ ∀ (x : List (List Int)), x = starts sg (sg.length) -> ((sg.length : Int) = (sg.length : Int) /\ (0 : Int) = 0 /\ x = starts sg (sg.length) /\ ((55 : FuncId) = (55 : FuncId) /\ nl [0, 1, 2, 3] [0, 1, 2, 3] /\ nl [4] [4]) /\ ((54 : FuncId) = (54 : FuncId) /\ nl [4] [4] /\ nl [] []) /\ mv = m /\ (m = 1 ∨ m = (-1 : Int)) /\ (0 <= lo /\ lo <= hi /\ hi <= plen sg) /\ okLen sg /\ okPts s0 s1 s2 sg /\ okB3 bla blb blc /\ pk.length = 0 /\ ln = 0) /\ ∀ (x : LegS), x = legK s0 s1 s2 sg bla blb blc lo hi m { pk := [], ln := (0 : Int), a0 := w0, a1 := w1, a2 := w2, bg := if m < 0 then plen sg else (0 : Int) } (sg.length) ->
 Q { val := .tup [], own := false, pars := [[.int .i64 x.a0, .int .i64 x.a1, .int .i64 x.a2], [.int .i64 m], [.int .i64 sta, .int .i64 spa, .int .i64 aca, .int .i64 jea, .int .i64 loa, .int .i64 hia, .int .i64 bla, .int .i64 oga, .int .i64 sga, .sl false [4] pta, .int .i64 stb, .int .i64 spb, .int .i64 acb, .int .i64 jeb, .int .i64 lob, .int .i64 hib, .int .i64 blb, .int .i64 ogb, .int .i64 sgb, .sl false [4] ptb, .int .i64 stc, .int .i64 spc, .int .i64 acc, .int .i64 jec, .int .i64 loc, .int .i64 hic, .int .i64 blc, .int .i64 ogc, .int .i64 sgc, .sl false [4] ptc], [.fn (54 : FuncId) [4] []], [.mu [4, 4, 4, 4, 4, 4, 4, 4, 4, 4] x.pk, .int .i64 x.ln, .int .i64 sa, .int .i64 d0, .int .i64 d1, .int .i64 d2]], news := [] }) := by kernel_rfl
end Go.Proofs.YtneingpnkdeooaaGreat
namespace U
theorem bgn_prev {s i : Int} {sg : List (List Int)} {c : Nat} (h : ¬ i <= 0) : bgn s sg c i = ec sg (i - 1).toNat c := by unfold bgn; rw [if_neg h]
theorem bgn_first {s i : Int} {sg : List (List Int)} {c : Nat} (h : i <= 0) : bgn s sg c i = s := by unfold bgn; rw [if_pos h]
theorem legS_n {m a b : Int} (h : m < 0) : legS m a b = b := if_pos h
theorem legS_p {m a b : Int} (h : ¬ m < 0) : legS m a b = a := if_neg h
theorem starts_len (sg : List (List Int)) : ∀ k, (starts sg k).length = k
 | 0 => rfl
 | k + 1 => by unfold starts; rw [List.length_append, starts_len sg k]; rfl
theorem el_starts {sg : List (List Int)} : ∀ {n i : Nat}, i < n -> el (starts sg n) i = plen (sg.take i)
 | n + 1, i, h => by
  have e : el (starts sg (n + 1)) i = ec (starts sg n ++ [[plen (sg.take n)]]) i 0 := rfl
  rw [e, ec_app, starts_len]
  split
  . rename_i hi; exact el_starts hi
  . have : i = n := by omega
    subst this
    rw [Nat.sub_self]
    rfl
theorem leg_vis {s0 s1 s2 : Int} {sg : List (List Int)} {b0 b1 b2 lo hh m low high i n0 n1 n2 : Int} {x : LegS} {k : Nat} (hm : m = 1 ∨ m = -1) (hlow : legLow x.bg (legE sg m x.bg i) lo hh = low) (hhigh : legHigh x.bg (legE sg m x.bg i) lo hh = high)
 (hlt : low < high) (hi : i = legI sg.length m k) (y : List (List Int) × Int) (hy : y = vis b0 b1 b2 m (legS m low high) (high - low) n0 n1 n2 x.pk x.ln x.a0 x.a1 x.a2)
 (h0 : n0 = tn1 (bgn s0 sg 0 i) (ec sg i.toNat 0) m x.a0) (h1 : n1 = tn1 (bgn s1 sg 1 i) (ec sg i.toNat 1) m x.a1) (h2 : n2 = tn1 (bgn s2 sg 2 i) (ec sg i.toNat 2) m x.a2) :
 legStep s0 s1 s2 sg b0 b1 b2 lo hh m x k = ⟨y.1, y.2, n0, n1, n2, legE sg m x.bg i⟩ := by
 unfold legStep legSeg
 rw [<- hi, hlow, hhigh, <- tn1_fc1 hm, <- tn1_fc1 hm, <- tn1_fc1 hm, <- h0, <- h1, <- h2]
 unfold legPut
 rw [if_pos hlt, hy]
 rfl
theorem leg_skip {s0 s1 s2 : Int} {sg : List (List Int)} {b0 b1 b2 lo hh m low high i : Int} {x : LegS} {k : Nat} (hlow : legLow x.bg (legE sg m x.bg i) lo hh = low) (hhigh : legHigh x.bg (legE sg m x.bg i) lo hh = high)
 (hlt : ¬ low < high) (hi : i = legI sg.length m k) : legStep s0 s1 s2 sg b0 b1 b2 lo hh m x k = ⟨x.pk, x.ln, x.a0, x.a1, x.a2, legE sg m x.bg i⟩ := by
 unfold legStep legSeg
 rw [<- hi, hlow, hhigh]
 unfold legPut
 rw [if_neg hlt]
theorem take_ok {sg : List (List Int)} (hl : okLen sg) (q : Nat) : 0 <= plen (sg.take q) /\ plen (sg.take q) <= 4503599627370496 := by
 have hl1 := hl.1
 have := plen_le (l := sg.take q) ⟨by rw [List.length_take]; omega, fun j hj => by
  rw [List.length_take] at hj
  have := hl.2 j (by omega)
  unfold ec at this ⊢
  simp only [List.getD_eq_getElem?_getD, List.getElem?_take] at this ⊢
  rw [if_pos (by omega)]
  exact this⟩
 exact this
theorem each_lh {sg : List (List Int)} {m bg i lo hh : Int} {k : Nat} (hl : okLen sg) (hm : m = 1 ∨ m = -1) (hk : k < sg.length) (h1 : m = 1 -> bg = plen (sg.take k)) (h2 : m = -1 -> bg = plen (sg.take (sg.length - k))) (hi : i = legI sg.length m k) (hlh : lo <= hh) :
 ((0 <= plen (sg.take i.toNat) /\ plen (sg.take i.toNat) <= 4503599627370496) /\ 0 <= ec sg i.toNat 3 /\ ec sg i.toNat 3 <= 4294967296) /\ legLow bg (legE sg m bg i) lo hh = max (plen (sg.take i.toNat)) lo /\ legHigh bg (legE sg m bg i) lo hh = min (plen (sg.take i.toNat) + ec sg i.toNat 3) hh := by
 have hb := legI_bd (m := m) hk
 rw [<- hi] at hb
 have hlen := hl.2 i.toNat (by omega)
 refine ⟨⟨take_ok hl _, by omega⟩, ?_⟩
 unfold legLow legHigh legE
 rcases hm with rfl | rfl
 . have e : i = (k : Int) := by rw [hi]; rfl
   have e2 : i.toNat = k := by omega
   rw [h1 rfl, e2]
   rw [e2] at hlen
   omega
 . have e : i = (sg.length : Int) - 1 - (k : Int) := by rw [hi]; rfl
   have e2 : i.toNat = sg.length - (k + 1) := by omega
   rw [h2 rfl, e2, show sg.length - k = sg.length - (k + 1) + 1 by omega, plen_next sg (by omega)]
   rw [e2] at hlen
   omega
end U
namespace Go.Proofs.YtneingpnkdeooaaGreat
section
open Go Go.HL U
attribute [local irreducible] hfun bodyT fragT
theorem loopE1 : ∀ v Q, (LE1 v).wp Q -> hloop CEach anE1 (nthLoop Tryz.f58 0) v Q := by
 intro v Q h
 unfold LE1 at h
 split at h
 case h_2 => exact h.elim
 rename_i lo hh mv g rs ex t st l n i s0 s1 s2 sg mk w0 w1 w2 m ax g2 r2 e2 pk ln sa d0 d1 d2
 split at h
 case h_2 => exact h.elim
 rename_i sta spa aca jea loa hia bla oga sga pta stb spb acb jeb lob hib blb ogb sgb ptb stc spc acc jec loc hic blc ogc sgc ptc
 obtain ⟨⟨hn, hi0, ht, hst, hl, ⟨hg, hrs, hex⟩, hg2, hr2, he2⟩, hq⟩ := h
 unfold nl at hrs hex hr2 he2
 subst hn hi0 ht hg hrs hex hg2 hr2 he2
 obtain rfl : st = [] := List.eq_nil_of_length_eq_zero hst
 refine hloop_rec (σ := Nat)
  (fun s => ([.ce (.int .i64 lo), .ce (.int .i64 hh), .ce (.int .i64 mv), .ce (.fn 55 [0, 1, 2, 3] [4]), .ce (.ptr 1000005 0), .ce (.int .i64 (plen (l.take s))), .ce (.sl false [4] (starts l s)), .ce (.lit true), .ce (.sl false [4, 4, 4, 4, 4, 4, 4] l), .ce (.int .i64 (l.length : Int)), .ce (.int .i64 (s : Int))],
   [[.int .i64 s0, .int .i64 s1, .int .i64 s2, .sl false [4, 4, 4, 4, 4, 4, 4] sg, .sl false [4, 4, 4] mk], [.int .i64 w0, .int .i64 w1, .int .i64 w2], [.int .i64 m], [.int .i64 sta, .int .i64 spa, .int .i64 aca, .int .i64 jea, .int .i64 loa, .int .i64 hia, .int .i64 bla, .int .i64 oga, .int .i64 sga, .sl false [4] pta, .int .i64 stb, .int .i64 spb, .int .i64 acb, .int .i64 jeb, .int .i64 lob, .int .i64 hib, .int .i64 blb, .int .i64 ogb, .int .i64 sgb, .sl false [4] ptb, .int .i64 stc, .int .i64 spc, .int .i64 acc, .int .i64 jec, .int .i64 loc, .int .i64 hic, .int .i64 blc, .int .i64 ogc, .int .i64 sgc, .sl false [4] ptc], [.fn 54 [4] []], [.mu [4, 4, 4, 4, 4, 4, 4, 4, 4, 4] pk, .int .i64 ln, .int .i64 sa, .int .i64 d0, .int .i64 d1, .int .i64 d2]]))
  (fun s => l.length - s)
  (fun s => s <= l.length)
  ?_ 0 (Nat.zero_le _)
 intro k hk K hn hx _
 have hl1 := hl.1
 have hpl := take_ok hl k
 have hsl := starts_len l k
 refine byVB (vbE1 s0 s1 s2 lo hh mv (plen (l.take k)) l.length k w0 w1 w2 m ln sa d0 d1 d2 sg mk l (starts l k) pk sta spa aca jea loa hia bla oga sga stb spb acb jeb lob hib blb ogb sgb stc spc acc jec loc hic blc ogc sgc pta ptb ptc K) ⟨fun g => ?_, fun g => ?_⟩
 . have g := of_decide_eq_true g
   have hkl : k < l.length := by omega
   have hlen := hl.2 k hkl
   have hkn : ((k : Int)).toNat = k := rfl
   rw [hkn]
   refine ⟨by omega, ⟨by omega, by unfold maxLen; omega⟩, by omega, fun x1 e1 => ⟨by omega, fun x2 e2 => ?_⟩⟩
   have := hn (k + 1) hkl (by omega)
   rw [plen_next l hkl, <- e1] at this
   rw [e2]
   exact this
 . have g := of_decide_eq_false g
   have hkl : k = l.length := by omega
   subst hkl
   exact hx 0 _ (hq _ rfl)
set_option maxHeartbeats 4000000 in
theorem loopE2 : ∀ v Q, (LE2 v).wp Q -> hloop CEach anE2 (nthLoop Tryz.f58 1) v Q := by
 intro v Q h
 unfold LE2 at h
 split at h
 case h_2 => exact h.elim
 rename_i lo hh mv g rs ex st n k0 s0 s1 s2 sg mk w0 w1 w2 m ax g2 r2 e2 pk ln sa d0 d1 d2
 split at h
 case h_2 => exact h.elim
 rename_i sta spa aca jea loa hia bla oga sga pta stb spb acb jeb lob hib blb ogb sgb ptb stc spc acc jec loc hic blc ogc sgc ptc
 obtain ⟨⟨hn, hk0, hst, ⟨hg, hrs, hex⟩, ⟨hg2, hr2, he2⟩, hmv, hm, hlh, hl, hp, hb, hpk, hln⟩, hq⟩ := h
 unfold nl at hrs hex hr2 he2
 subst hn hk0 hst hg hrs hex hg2 hr2 he2 hmv hln
 obtain rfl : pk = [] := List.eq_nil_of_length_eq_zero hpk
 have j0 : legJ sg mv 0 ⟨[], 0, w0, w1, w2, if mv < 0 then plen sg else 0⟩ := by
  refine ⟨⟨Int.le_refl _, by dsimp only; omega⟩, by simp, fun j hj => by simp at hj, fun e => ?_, fun e => ?_⟩
  . subst e; rfl
  . subst e; simp
 have hJ := legJ_all (s0 := s0) (s1 := s1) (s2 := s2) (f := lo) (t := hh) hl hb hm j0
 refine hloop_rec (σ := LegS × Nat)
  (fun s => ([.ce (.int .i64 lo), .ce (.int .i64 hh), .ce (.int .i64 mv), .ce (.fn 55 [0, 1, 2, 3] [4]), .ce (.ptr 1000005 0), .ce (.sl false [4] (starts sg sg.length)), .ce (.int .i64 (sg.length : Int)), .ce (.int .i64 (s.2 : Int))],
   [[.int .i64 s0, .int .i64 s1, .int .i64 s2, .sl false [4, 4, 4, 4, 4, 4, 4] sg, .sl false [4, 4, 4] mk], [.int .i64 s.1.a0, .int .i64 s.1.a1, .int .i64 s.1.a2], [.int .i64 mv], [.int .i64 sta, .int .i64 spa, .int .i64 aca, .int .i64 jea, .int .i64 loa, .int .i64 hia, .int .i64 bla, .int .i64 oga, .int .i64 sga, .sl false [4] pta, .int .i64 stb, .int .i64 spb, .int .i64 acb, .int .i64 jeb, .int .i64 lob, .int .i64 hib, .int .i64 blb, .int .i64 ogb, .int .i64 sgb, .sl false [4] ptb, .int .i64 stc, .int .i64 spc, .int .i64 acc, .int .i64 jec, .int .i64 loc, .int .i64 hic, .int .i64 blc, .int .i64 ogc, .int .i64 sgc, .sl false [4] ptc], [.fn 54 [4] []], [.mu [4, 4, 4, 4, 4, 4, 4, 4, 4, 4] s.1.pk, .int .i64 s.1.ln, .int .i64 sa, .int .i64 d0, .int .i64 d1, .int .i64 d2]]))
  (fun s => sg.length - s.2)
  (fun s => s.2 <= sg.length /\ s.1 = legK s0 s1 s2 sg bla blb blc lo hh mv ⟨[], 0, w0, w1, w2, if mv < 0 then plen sg else 0⟩ s.2)
  ?_ (⟨[], 0, w0, w1, w2, if mv < 0 then plen sg else 0⟩, 0) ⟨Nat.zero_le _, rfl⟩
 rintro ⟨x, k⟩ ⟨hk, he⟩ K hn hx _
 dsimp only at hk he hn ⊢
 have J := hJ k hk
 rw [<- he] at J
 have hl1 := hl.1
 have hsl := starts_len sg sg.length
 refine byVB (vbE2 s0 s1 s2 lo hh mv sg.length k x.a0 x.a1 x.a2 mv x.ln sa d0 d1 d2 sg mk (starts sg sg.length) x.pk sta spa aca jea loa hia bla oga sga stb spb acb jeb lob hib blb ogb sgb stc spc acc jec loc hic blc ogc sgc pta ptb ptc K) ⟨fun gk => ?_, fun g => ?_⟩
 . have gk := of_decide_eq_true gk
   have hk : k < sg.length := by omega
   obtain ⟨J1, J2, J3, J4, J5⟩ := J
   have fin : ∀ y : LegS, y = legStep s0 s1 s2 sg bla blb blc lo hh mv x k -> ∀ z : Int, z = (k : Int) + 1 ->
    K .normal ([.ce (.int .i64 lo), .ce (.int .i64 hh), .ce (.int .i64 mv), .ce (.fn 55 [0, 1, 2, 3] [4]), .ce (.ptr 1000005 0), .ce (.sl false [4] (starts sg sg.length)), .ce (.int .i64 (sg.length : Int)), .ce (.int .i64 z)],
    [[.int .i64 s0, .int .i64 s1, .int .i64 s2, .sl false [4, 4, 4, 4, 4, 4, 4] sg, .sl false [4, 4, 4] mk], [.int .i64 y.a0, .int .i64 y.a1, .int .i64 y.a2], [.int .i64 mv], [.int .i64 sta, .int .i64 spa, .int .i64 aca, .int .i64 jea, .int .i64 loa, .int .i64 hia, .int .i64 bla, .int .i64 oga, .int .i64 sga, .sl false [4] pta, .int .i64 stb, .int .i64 spb, .int .i64 acb, .int .i64 jeb, .int .i64 lob, .int .i64 hib, .int .i64 blb, .int .i64 ogb, .int .i64 sgb, .sl false [4] ptb, .int .i64 stc, .int .i64 spc, .int .i64 acc, .int .i64 jec, .int .i64 loc, .int .i64 hic, .int .i64 blc, .int .i64 ogc, .int .i64 sgc, .sl false [4] ptc], [.fn 54 [4] []], [.mu [4, 4, 4, 4, 4, 4, 4, 4, 4, 4] y.pk, .int .i64 y.ln, .int .i64 sa, .int .i64 d0, .int .i64 d1, .int .i64 d2]]) := by
    intro y ey z ez
    have := hn (y, k + 1) ⟨hk, by rw [ey, he]; rfl⟩ (by dsimp only; omega)
    rw [ez]
    exact this
   have hplx := take_ok hl
   obtain ⟨hlo0, hlh, hhh⟩ := hlh
   have hkk : (k : Int) <= 1048576 := by omega
   have hlnB : 0 <= x.ln /\ x.ln <= 1152921504606846976 := by omega
   clear hn hx hJ he
   refine ⟨fun gneg => ⟨by omega, fun x1 e1 => ⟨by omega, fun x2 e2 => ?_⟩⟩, fun gneg => ?_⟩
   . have gneg := of_decide_eq_true gneg
     have hI : x2 = legI sg.length mv k := by unfold legI; rw [if_pos gneg, e2, e1]
     have hi : 0 <= x2 /\ x2 < (sg.length : Int) := by omega
     have hst : 0 <= x2 /\ x2 < ((starts sg sg.length).length : Int) := by omega
     refine ⟨hst, ?_⟩
     rintro x3 e3 x4 e4
     refine ⟨hst, ?_⟩
     rintro x5 e5
     refine ⟨hi, ?_⟩
     rintro x6 e6
     have hsx : el (starts sg sg.length) (x2).toNat = plen (sg.take (x2).toNat) := el_starts (by omega)
     rw [hsx] at e3 e5
     obtain ⟨hpos, hlow0, hhigh0⟩ := each_lh (lo := lo) (hh := hh) hl hm hk J4 J5 hI hlh
     refine ⟨by omega, ?_⟩
     rintro x7 e7 x8 e8
     have hlow : legLow x.bg (legE sg mv x.bg (x2)) lo hh = x4 := by rw [hlow0, e4, e3]
     have hhigh : legHigh x.bg (legE sg mv x.bg (x2)) lo hh = x8 := by rw [hhigh0, e8, e7, e5, e6]
     refine ⟨fun g => ⟨by omega, fun z ez => ?_⟩, fun g => ?_⟩
     . exact fin _ (leg_skip hlow hhigh (by have := of_decide_eq_true g; omega) hI).symm z ez
     . have g : x4 < x8 := by have := of_decide_eq_false g; omega
       have hx48 : 0 <= x8 - x4 /\ x8 - x4 <= 4503599627370496 := by omega
       refine ⟨fun gi => ⟨by omega, fun j ej => ⟨by have := of_decide_eq_true gi; omega, fun gm => ?_, fun gm => ?_⟩⟩, fun gi => ⟨fun gm => ?_, fun gm => ?_⟩⟩
       . have gi := of_decide_eq_true gi
         refine ⟨hi, by omega, fun d ed => ⟨⟨⟨rfl, rfl, rfl⟩, hm, hb, by omega, by omega, by omega, J3⟩, ⟨_, rfl⟩, fun y ey => ⟨by omega, fun z ez => ?_⟩⟩⟩
         exact fin _ (leg_vis (n0 := tn1 (el sg j.toNat) (el sg (x2).toNat) mv x.a0) (n1 := tn1 (ec sg j.toNat 1) (ec sg (x2).toNat 1) mv x.a1) (n2 := tn1 (ec sg j.toNat 2) (ec sg (x2).toNat 2) mv x.a2) hm hlow hhigh g hI y (by rw [ey, ed, legS_n gneg]) (by rw [bgn_prev (by omega)]; rw [ej]; rfl) (by rw [bgn_prev (by omega)]; rw [ej]) (by rw [bgn_prev (by omega)]; rw [ej])).symm z ez
       . exact absurd gneg (of_decide_eq_false gm)
       . have gi := of_decide_eq_false gi
         refine ⟨hi, by omega, fun d ed => ⟨⟨⟨rfl, rfl, rfl⟩, hm, hb, by omega, by omega, by omega, J3⟩, ⟨_, rfl⟩, fun y ey => ⟨by omega, fun z ez => ?_⟩⟩⟩
         exact fin _ (leg_vis (n0 := tn1 (s0) (el sg (x2).toNat) mv x.a0) (n1 := tn1 (s1) (ec sg (x2).toNat 1) mv x.a1) (n2 := tn1 (s2) (ec sg (x2).toNat 2) mv x.a2) hm hlow hhigh g hI y (by rw [ey, ed, legS_n gneg]) (by rw [bgn_first (by omega)]; rfl) (by rw [bgn_first (by omega)]) (by rw [bgn_first (by omega)])).symm z ez
       . exact absurd gneg (of_decide_eq_false gm)
   . have gneg := of_decide_eq_false gneg
     have hI : (k : Int) = legI sg.length mv k := by unfold legI; rw [if_neg gneg]
     have hi : 0 <= (k : Int) /\ (k : Int) < (sg.length : Int) := by omega
     have hst : 0 <= (k : Int) /\ (k : Int) < ((starts sg sg.length).length : Int) := by omega
     refine ⟨hst, ?_⟩
     rintro x3 e3 x4 e4
     refine ⟨hst, ?_⟩
     rintro x5 e5
     refine ⟨hi, ?_⟩
     rintro x6 e6
     have hsx : el (starts sg sg.length) ((k : Int)).toNat = plen (sg.take ((k : Int)).toNat) := el_starts (by omega)
     rw [hsx] at e3 e5
     obtain ⟨hpos, hlow0, hhigh0⟩ := each_lh (lo := lo) (hh := hh) hl hm hk J4 J5 hI hlh
     refine ⟨by omega, ?_⟩
     rintro x7 e7 x8 e8
     have hlow : legLow x.bg (legE sg mv x.bg ((k : Int))) lo hh = x4 := by rw [hlow0, e4, e3]
     have hhigh : legHigh x.bg (legE sg mv x.bg ((k : Int))) lo hh = x8 := by rw [hhigh0, e8, e7, e5, e6]
     refine ⟨fun g => ⟨by omega, fun z ez => ?_⟩, fun g => ?_⟩
     . exact fin _ (leg_skip hlow hhigh (by have := of_decide_eq_true g; omega) hI).symm z ez
     . have g : x4 < x8 := by have := of_decide_eq_false g; omega
       have hx48 : 0 <= x8 - x4 /\ x8 - x4 <= 4503599627370496 := by omega
       refine ⟨fun gi => ⟨by omega, fun j ej => ⟨by have := of_decide_eq_true gi; omega, fun gm => ?_, fun gm => ?_⟩⟩, fun gi => ⟨fun gm => ?_, fun gm => ?_⟩⟩
       . exact absurd (of_decide_eq_true gm) (by omega)
       . have gi := of_decide_eq_true gi
         refine ⟨hi, by omega, fun d ed => ⟨⟨⟨rfl, rfl, rfl⟩, hm, hb, by omega, by omega, by omega, J3⟩, ⟨_, rfl⟩, fun y ey => ⟨by omega, fun z ez => ?_⟩⟩⟩
         exact fin _ (leg_vis (n0 := tn1 (el sg j.toNat) (el sg ((k : Int)).toNat) mv x.a0) (n1 := tn1 (ec sg j.toNat 1) (ec sg ((k : Int)).toNat 1) mv x.a1) (n2 := tn1 (ec sg j.toNat 2) (ec sg ((k : Int)).toNat 2) mv x.a2) hm hlow hhigh g hI y (by rw [ey, ed, legS_p gneg]) (by rw [bgn_prev (by omega)]; rw [ej]; rfl) (by rw [bgn_prev (by omega)]; rw [ej]) (by rw [bgn_prev (by omega)]; rw [ej])).symm z ez
       . exact absurd (of_decide_eq_true gm) (by omega)
       . have gi := of_decide_eq_false gi
         refine ⟨hi, by omega, fun d ed => ⟨⟨⟨rfl, rfl, rfl⟩, hm, hb, by omega, by omega, by omega, J3⟩, ⟨_, rfl⟩, fun y ey => ⟨by omega, fun z ez => ?_⟩⟩⟩
         exact fin _ (leg_vis (n0 := tn1 (s0) (el sg ((k : Int)).toNat) mv x.a0) (n1 := tn1 (s1) (ec sg ((k : Int)).toNat 1) mv x.a1) (n2 := tn1 (s2) (ec sg ((k : Int)).toNat 2) mv x.a2) hm hlow hhigh g hI y (by rw [ey, ed, legS_p gneg]) (by rw [bgn_first (by omega)]; rfl) (by rw [bgn_first (by omega)]) (by rw [bgn_first (by omega)])).symm z ez
 . have g := of_decide_eq_false g
   have hkl : k = sg.length := by omega
   subst hkl
   exact hx 2 _ (hq x he)
theorem sEach : Sound Tryz.prog 58 SEach := by
 refine sound_of (C := CEach) tabEach Tryz.func58 (by kernel_rfl) (by decide +kernel) (by kernel_rfl) rfl ⟨sLeg2, trivial⟩ (loops2 (by kernel_rfl) (loopOK_of (an := anE1) (S := LE1) (by kernel_rfl) loopE1) (loopOK_of (an := anE2) (S := LE2) (by kernel_rfl) loopE2)) ?_
 intro hA pA R h
 unfold SEach at h
 split at h
 case h_2 => exfalso; exact h
 rename_i s0 s1 s2 sg mk lo hh mv g rs ex w0 w1 w2 m ax g2 r2 e2 pk ln sa d0 d1 d2
 split at h
 case h_2 => exact h.elim
 rename_i sta spa aca jea loa hia bla oga sga pta stb spb acb jeb lob hib blb ogb sgb ptb stc spc acc jec loc hic blc ogc sgc ptc
 obtain ⟨⟨⟨hg, hrs, hex⟩, ⟨hg2, hr2, he2⟩, hmv, hm, hlh, hl, hp, hb, hpk, hln⟩, _, hq⟩ := h
 unfold nl at hrs hex hr2 he2
 subst hg hrs hex hg2 hr2 he2 hmv
 exact byVC (vcEach s0 s1 s2 lo hh mv w0 w1 w2 mv ln sa d0 d1 d2 sg mk pk sta spa aca jea loa hia bla oga sga stb spb acb jeb lob hib blb ogb sgb stc spc acc jec loc hic blc ogc sgc pta ptb ptc R) ⟨⟨rfl, rfl, rfl, rfl, hl, ⟨rfl, rfl, rfl⟩, rfl, rfl, rfl⟩, fun st est => ⟨⟨rfl, rfl, est, ⟨rfl, rfl, rfl⟩, ⟨rfl, rfl, rfl⟩, rfl, hm, hlh, hl, hp, hb, hpk, hln⟩, fun x ex => hq x ex⟩⟩
end
open Go Go.HL U
def tabLegP : List (FuncId × HL.Spec) := [(53, SPLen), (42, SClamp), (58, SEach)]
noncomputable def CLegP : Ctx := ⟨Tryz.prog, gam tabLegP, Tryz.f32.ntmps, [], [44, spl 10 1000012 0 9]⟩
theorem vcLegP (s0 s1 s2 f t d0 d1 d2 : Int) (sg mk : List (List Int)) (sta spa aca jea loa hia bla oga sga stb spb acb jeb lob hib blb ogb sgb stc spc acc jec loc hic blc ogc sgc : Int) (pta ptb ptc : List (List Int)) (Q : Res -> Prop) : (nfun true CLegP Tryz.f32 (bodyOf Tryz.f32) [.agg [.int .i64 s0, .int .i64 s1, .int .i64 s2, .sl false [4, 4, 4, 4, 4, 4, 4] sg, .sl false [4, 4, 4] mk], .agg [.int .i64 sta, .int .i64 spa, .int .i64 aca, .int .i64 jea, .int .i64 loa, .int .i64 hia, .int .i64 bla, .int .i64 oga, .int .i64 sga, .sl false [4] pta, .int .i64 stb, .int .i64 spb, .int .i64 acb, .int .i64 jeb, .int .i64 lob, .int .i64 hib, .int .i64 blb, .int .i64 ogb, .int .i64 sgb, .sl false [4] ptb, .int .i64 stc, .int .i64 spc, .int .i64 acc, .int .i64 jec, .int .i64 loc, .int .i64 hic, .int .i64 blc, .int .i64 ogc, .int .i64 sgc, .sl false [4] ptc], .agg [.int .i64 d0, .int .i64 d1, .int .i64 d2], .ce (.int .i64 f), .ce (.int .i64 t)] [] Q) =
 (okLen sg /\ ∀ (x1 : Int), x1 = plen sg -> 0 <= x1 /\ ∀ (x2 : Int), x2 = clamp x1 f -> 0 <= x1 /\ ∀ (x3 : Int), x3 = clamp x1 t -> (decide (x2 > x3) = true -> ∀ (x4 : Int), x4 = min x2 x3 -> ∀ (x5 : Int), x5 = max x2 x3 -> (((55 : Nat) = (55 : FuncId) /\ nl [0, 1, 2, 3] [0, 1, 2, 3] /\ nl [4] [4]) /\ ((54 : Nat) = (54 : FuncId) /\ nl [4] [4] /\ nl [] []) /\ (-1 : Int) = (-1 : Int) /\ ((-1 : Int) = 1 ∨ (-1 : Int) = (-1 : Int)) /\ (0 <= x4 /\ x4 <= x5 /\ x5 <= plen sg) /\ okLen sg /\ okPts s0 s1 s2 sg /\ okB3 bla blb blc /\ (0 : Nat) = 0 /\ (0 : Int) = 0) /\ (∃ (x : LegS), x = legK s0 s1 s2 sg bla blb blc x4 x5 (-1 : Int) { pk := [], ln := (0 : Int), a0 := d0, a1 := d1, a2 := d2, bg := if (-1 : Int) < 0 then plen sg else (0 : Int) } (sg.length)) /\ ∀ (x : LegS), x = legK s0 s1 s2 sg bla blb blc x4 x5 (-1 : Int) { pk := [], ln := (0 : Int), a0 := d0, a1 := d1, a2 := d2, bg := if (-1 : Int) < 0 then plen sg else (0 : Int) } (sg.length) ->
 Q ⟨.agg [.sl false [4, 4, 4, 4, 4, 4, 4, 4, 4, 4] x.pk, .int .i64 x.ln, .int .i64 x2, .int .i64 d0, .int .i64 d1, .int .i64 d2], false, [], []⟩) /\ (decide (x2 > x3) = false -> ∀ (x7 : Int), x7 = min x2 x3 -> ∀ (x8 : Int), x8 = max x2 x3 -> (((55 : Nat) = (55 : FuncId) /\ nl [0, 1, 2, 3] [0, 1, 2, 3] /\ nl [4] [4]) /\ ((54 : Nat) = (54 : FuncId) /\ nl [4] [4] /\ nl [] []) /\ (1 : Int) = 1 /\ ((1 : Int) = 1 ∨ (1 : Int) = (-1 : Int)) /\ (0 <= x7 /\ x7 <= x8 /\ x8 <= plen sg) /\ okLen sg /\ okPts s0 s1 s2 sg /\ okB3 bla blb blc /\ (0 : Nat) = 0 /\ (0 : Int) = 0) /\ (∃ (x : LegS), x = legK s0 s1 s2 sg bla blb blc x7 x8 (1 : Int) { pk := [], ln := (0 : Int), a0 := d0, a1 := d1, a2 := d2, bg := if (1 : Int) < 0 then plen sg else (0 : Int) } (sg.length)) /\ ∀ (x : LegS), x = legK s0 s1 s2 sg bla blb blc x7 x8 (1 : Int) { pk := [], ln := (0 : Int), a0 := d0, a1 := d1, a2 := d2, bg := if (1 : Int) < 0 then plen sg else (0 : Int) } (sg.length) ->
 Q ⟨.agg [.sl false [4, 4, 4, 4, 4, 4, 4, 4, 4, 4] x.pk, .int .i64 x.ln, .int .i64 x2, .int .i64 d0, .int .i64 d1, .int .i64 d2], false, [], []⟩)) := by kernel_rfl
end Go.Proofs.YtneingpnkdeooaaGreat
namespace U
theorem legK_mm {s0 s1 s2 : Int} {sg : List (List Int)} {b0 b1 b2 f t m : Int} {x : LegS} : ∀ k, legK s0 s1 s2 sg b0 b1 b2 (min f t) (max f t) m x k = legK s0 s1 s2 sg b0 b1 b2 f t m x k
 | 0 => rfl
 | k + 1 => by
  have e1 : min (min f t) (max f t) = min f t := by omega
  have e2 : max (min f t) (max f t) = max f t := by omega
  unfold legK
  rw [legK_mm k]
  unfold legStep legSeg legLow legHigh
  rw [e1, e2]
end U
namespace Go.Proofs.YtneingpnkdeooaaGreat
open Go Go.HL U
attribute [local irreducible] hfun bodyT fragT
theorem sLegP : Sound Tryz.prog 32 SLeg := by
 refine sound_of (C := CLegP) tabLegP Tryz.func32 (by kernel_rfl) (by decide +kernel) (by kernel_rfl) rfl ⟨sPLen2, sClamp, sEach, trivial⟩ (loops0 (by kernel_rfl)) ?_
 intro hA pA R h
 unfold SLeg at h
 split at h
 case h_2 => exfalso; exact h
 rename_i s0 s1 s2 sg mk ax d0 d1 d2 f t
 split at h
 case h_2 => exact h.elim
 rename_i sta spa aca jea loa hia bla oga sga pta stb spb acb jeb lob hib blb ogb sgb ptb stc spc acc jec loc hic blc ogc sgc ptc
 obtain ⟨⟨hl, hp, hb⟩, _, hq⟩ := h
 have hpl := plen_le hl
 refine byVC (vcLegP s0 s1 s2 f t d0 d1 d2 sg mk sta spa aca jea loa hia bla oga sga stb spb acb jeb lob hib blb ogb sgb stc spc acc jec loc hic blc ogc sgc pta ptb ptc R) ⟨hl, ?_⟩
 rintro x1 e1
 refine ⟨by omega, ?_⟩
 rintro x2 e2
 refine ⟨by omega, ?_⟩
 rintro x3 e3
 have c2 : clamp (plen sg) f = x2 := by rw [e2, e1]
 have c3 : clamp (plen sg) t = x3 := by rw [e3, e1]
 have b2 : 0 <= x2 /\ x2 <= plen sg := by unfold clamp at c2; omega
 have b3 : 0 <= x3 /\ x3 <= plen sg := by unfold clamp at c3; omega
 rw [c2, c3] at hq
 refine ⟨fun g => fun x5 e5 x6 e6 => ⟨⟨⟨rfl, rfl, rfl⟩, ⟨rfl, rfl, rfl⟩, rfl, .inr rfl, by omega, hl, hp, hb, rfl, rfl⟩, ⟨_, rfl⟩, fun x ex => hq x ?_⟩,
  fun g => fun x7 e7 x8 e8 => ⟨⟨⟨rfl, rfl, rfl⟩, ⟨rfl, rfl, rfl⟩, rfl, .inl rfl, by omega, hl, hp, hb, rfl, rfl⟩, ⟨_, rfl⟩, fun x ex => hq x ?_⟩⟩
 . have g := of_decide_eq_true g
   rw [ex, e5, e6, legK_mm]
   unfold leg legM
   rw [if_pos g]
 . have g := of_decide_eq_false g
   rw [ex, e7, e8, legK_mm]
   unfold leg legM
   rw [if_neg g]
end Go.Proofs.YtneingpnkdeooaaGreat
namespace U
open Go
structure TurnS where
 pk : List (List Int)
 ln : Int
 sa : Int
 d0 : Int
 d1 : Int
 d2 : Int
 ok : Bool
def turnR (s0 s1 s2 : Int) (sg : List (List Int)) (b0 b1 b2 : Int) (pk : List (List Int)) (ln sa d0 d1 d2 : Int) (st : Bool) (w to : Int) : TurnS :=
 if st = true /\ tloose pk w = false then
  ⟨(leg s0 s1 s2 sg b0 b1 b2 (tface pk d0 0 w) (tface pk d1 1 w) (tface pk d2 2 w) (clamp (plen sg) (tplace pk sa w)) (clamp (plen sg) to)).pk,
   (leg s0 s1 s2 sg b0 b1 b2 (tface pk d0 0 w) (tface pk d1 1 w) (tface pk d2 2 w) (clamp (plen sg) (tplace pk sa w)) (clamp (plen sg) to)).ln,
   clamp (plen sg) (tplace pk sa w), tface pk d0 0 w, tface pk d1 1 w, tface pk d2 2 w, true⟩
 else ⟨[], 0, 0, 0, 0, 0, false⟩
end U
namespace Go.Proofs.YtneingpnkdeooaaGreat
open Go Go.HL U
def SStart2 (hA : List HV) (pA : List (List HC)) : SR :=
 match hA, pA with
 | [.ce (.int .i64 u)], [] => .det (-36028797018963968 <= u /\ u <= 36028797018963967) ⟨.agg [.int .i64 (u * 256), .int .i64 0, .int .i64 0, .int .i64 (u * 256), .int .i64 (u * 256), .int .i64 (u * 256)], false, [], []⟩
 | _, _ => .fail
def STrnG (hA : List HV) (pA : List (List HC)) : SR :=
 match hA, pA with
 | [.agg [.int .i64 s0, .int .i64 s1, .int .i64 s2, .sl false [4, 4, 4, 4, 4, 4, 4] sg, .sl false [4, 4, 4] mk], .agg ax, .agg [.sl false [4, 4, 4, 4, 4, 4, 4, 4, 4, 4] pk, .int .i64 ln, .int .i64 sa, .int .i64 d0, .int .i64 d1, .int .i64 d2], .agg [.int .i64 u, .int .i64 v, .int .i64 a, .int .i64 l, .int .i64 p, .int .i64 b], .ce (.int .i64 to)], [] =>
  match ax with
  | [.int .i64 sta, .int .i64 spa, .int .i64 aca, .int .i64 jea, .int .i64 loa, .int .i64 hia, .int .i64 bla, .int .i64 oga, .int .i64 sga, .sl false [4] pta, .int .i64 stb, .int .i64 spb, .int .i64 acb, .int .i64 jeb, .int .i64 lob, .int .i64 hib, .int .i64 blb, .int .i64 ogb, .int .i64 sgb, .sl false [4] ptb, .int .i64 stc, .int .i64 spc, .int .i64 acc, .int .i64 jec, .int .i64 loc, .int .i64 hic, .int .i64 blc, .int .i64 ogc, .int .i64 sgc, .sl false [4] ptc] =>
   .all ((0 <= u /\ u <= 9223372036854775807) /\ okLen sg /\ okPts s0 s1 s2 sg /\ okB3 bla blb blc /\ okTrk pk ln) TurnS
    (fun x => x = turnR s0 s1 s2 sg bla blb blc pk ln sa d0 d1 d2 (stl u v a l p) (clamp ln (u / 256)) to)
    (fun x => ⟨.tup [.agg [.sl false [4, 4, 4, 4, 4, 4, 4, 4, 4, 4] x.pk, .int .i64 x.ln, .int .i64 x.sa, .int .i64 x.d0, .int .i64 x.d1, .int .i64 x.d2], .agg [.int .i64 0, .int .i64 0, .int .i64 0, .int .i64 0, .int .i64 0, .int .i64 0], .ce (.bool x.ok)], false, [], []⟩)
  | _ => .fail
 | _, _ => .fail
def tabTrnP : List (FuncId × HL.Spec) := [(51, SStill), (29, SLoose), (30, SFace), (21, SPlace), (32, SLeg), (27, SStart2)]
noncomputable def CTrnP : Ctx := ⟨Tryz.prog, gam tabTrnP, Tryz.f26.ntmps, [], []⟩
theorem vcTrnP (s0 s1 s2 u v a l p b to ln sa d0 d1 d2 : Int) (sg mk pk : List (List Int)) (sta spa aca jea loa hia bla oga sga stb spb acb jeb lob hib blb ogb sgb stc spc acc jec loc hic blc ogc sgc : Int) (pta ptb ptc : List (List Int)) (Q : Res -> Prop) : (nfun true CTrnP Tryz.f26 (bodyOf Tryz.f26) [.agg [.int .i64 s0, .int .i64 s1, .int .i64 s2, .sl false [4, 4, 4, 4, 4, 4, 4] sg, .sl false [4, 4, 4] mk], .agg [.int .i64 sta, .int .i64 spa, .int .i64 aca, .int .i64 jea, .int .i64 loa, .int .i64 hia, .int .i64 bla, .int .i64 oga, .int .i64 sga, .sl false [4] pta, .int .i64 stb, .int .i64 spb, .int .i64 acb, .int .i64 jeb, .int .i64 lob, .int .i64 hib, .int .i64 blb, .int .i64 ogb, .int .i64 sgb, .sl false [4] ptb, .int .i64 stc, .int .i64 spc, .int .i64 acc, .int .i64 jec, .int .i64 loc, .int .i64 hic, .int .i64 blc, .int .i64 ogc, .int .i64 sgc, .sl false [4] ptc], .agg [.sl false [4, 4, 4, 4, 4, 4, 4, 4, 4, 4] pk, .int .i64 ln, .int .i64 sa, .int .i64 d0, .int .i64 d1, .int .i64 d2], .agg [.int .i64 u, .int .i64 v, .int .i64 a, .int .i64 l, .int .i64 p, .int .i64 b], .ce (.int .i64 to)] [] Q) =
 ((256 : Int) ≠ (0 : Int) /\ (-9223372036854775808 <= Int.tdiv u 256 /\ Int.tdiv u 256 <= 9223372036854775807) /\ ∀ (x1 : Int), x1 = Int.tdiv u 256 -> True /\ ∀ (x2 : Bool), x2 = stl u v a l p -> ((!x2) = true -> Q ⟨.tup [.agg [.sl false [4, 4, 4, 4, 4, 4, 4, 4, 4, 4] [], .int .i64 0, .int .i64 0, .int .i64 0, .int .i64 0, .int .i64 0], .agg [.int .i64 0, .int .i64 0, .int .i64 0, .int .i64 0, .int .i64 0, .int .i64 0], .ce (.bool false)], false, [], []⟩) /\ ((!x2) = false -> okTrk pk ln /\ ∀ (x3 : Bool), x3 = tloose pk (clamp ln x1) -> (x3 = true -> Q ⟨.tup [.agg [.sl false [4, 4, 4, 4, 4, 4, 4, 4, 4, 4] [], .int .i64 0, .int .i64 0, .int .i64 0, .int .i64 0, .int .i64 0], .agg [.int .i64 0, .int .i64 0, .int .i64 0, .int .i64 0, .int .i64 0, .int .i64 0], .ce (.bool false)], false, [], []⟩) /\ (x3 = false -> okTrk pk ln /\ ∀ (x4 : Int), x4 = tface pk d0 (0 : Nat) (clamp ln x1) -> ∀ (x5 : Int), x5 = tface pk d1 (1 : Nat) (clamp ln x1) ->
 ∀ (x6 : Int), x6 = tface pk d2 (2 : Nat) (clamp ln x1) -> okTrk pk ln /\ ∀ (x7 : Int), x7 = tplace pk sa (clamp ln x1) -> (okLen sg /\ okPts s0 s1 s2 sg /\ okB3 bla blb blc) /\ (∃ (x : LegS), x = leg s0 s1 s2 sg bla blb blc x4 x5 x6 (clamp (plen sg) x7) (clamp (plen sg) to)) /\ ∀ (x : LegS), x = leg s0 s1 s2 sg bla blb blc x4 x5 x6 (clamp (plen sg) x7) (clamp (plen sg) to) -> ((-36028797018963968 : Int) <= 0 /\ (0 : Int) <= 36028797018963967) /\ ∀ (x9 : Int), x9 = 0 -> ∀ (x10 : Int), x10 = 0 -> ∀ (x11 : Int), x11 = 0 -> ∀ (x12 : Int), x12 = 0 -> ∀ (x13 : Int), x13 = 0 -> ∀ (x14 : Int), x14 = 0 -> Q ⟨.tup [.agg [.sl false [4, 4, 4, 4, 4, 4, 4, 4, 4, 4] x.pk, .int .i64 x.ln, .int .i64 (clamp (plen sg) x7), .int .i64 x4, .int .i64 x5, .int .i64 x6], .agg [.int .i64 x9, .int .i64 x10, .int .i64 x11, .int .i64 x12, .int .i64 x13, .int .i64 x14], .ce (.bool true)], false, [], []⟩))) := by kernel_rfl
section
attribute [local irreducible] hfun bodyT fragT
theorem sStartW : Sound Tryz.prog 27 SStart2 := by
 refine sound_of (C := CStart) [] Tryz.func27 (by kernel_rfl) (by decide +kernel) (by kernel_rfl) rfl trivial (loops0 (by kernel_rfl)) ?_
 intro hA pA R h
 unfold SStart2 at h
 split at h
 case h_2 => exfalso; exact h
 rename_i u
 obtain ⟨h1, hq⟩ := h
 refine byVC (vcStart u R) ⟨by omega, fun x e => ?_⟩
 rw [e]; exact hq
theorem sTrnP : Sound Tryz.prog 26 STrnG := by
 refine sound_of (C := CTrnP) tabTrnP Tryz.func26 (by kernel_rfl) (by decide +kernel) (by kernel_rfl) rfl ⟨sStill, sLoose, sFace, sPlace, sLegP, sStartW, trivial⟩ (loops0 (by kernel_rfl)) ?_
 intro hA pA R h
 unfold STrnG at h
 split at h
 case h_2 => exfalso; exact h
 rename_i s0 s1 s2 sg mk ax pk ln sa d0 d1 d2 u v a l p b to
 split at h
 case h_2 => exact h.elim
 rename_i sta spa aca jea loa hia bla oga sga pta stb spb acb jeb lob hib blb ogb sgb ptb stc spc acc jec loc hic blc ogc sgc ptc
 obtain ⟨⟨hu, hl, hp, hb, ht⟩, _, hq⟩ := h
 have hq := hq _ rfl
 unfold turnR at hq
 refine byVC (vcTrnP s0 s1 s2 u v a l p b to ln sa d0 d1 d2 sg mk pk sta spa aca jea loa hia bla oga sga stb spb acb jeb lob hib blb ogb sgb stc spc acc jec loc hic blc ogc sgc pta ptb ptc R) ?_
 rw [show u.tdiv 256 = u / 256 from tdiv_pos (by omega)]
 refine ⟨by omega, by omega, fun x1 e1 => ⟨trivial, fun x2 e2 => ⟨fun g => ?_, fun g => ⟨ht, fun x3 e3 => ⟨fun g3 => ?_, fun g3 => ?_⟩⟩⟩⟩⟩
 . have g : stl u v a l p = false := by rw [<- e2]; simpa using g
   rw [g, if_neg (by simp)] at hq
   exact hq
 . rw [<- e1, <- e3, g3, if_neg (by simp)] at hq
   exact hq
 . have g : stl u v a l p = true := by rw [<- e2]; simpa using g
   rw [<- e1, <- e3, g3, g, if_pos ⟨rfl, rfl⟩] at hq
   refine ⟨ht, fun x4 e4 x5 e5 x6 e6 => ⟨ht, fun x7 e7 => ⟨⟨hl, hp, hb⟩, ⟨_, rfl⟩, fun x ex => ⟨by omega, fun x9 e9 x10 e10 x11 e11 x12 e12 x13 e13 x14 e14 => ?_⟩⟩⟩⟩
   rw [<- e4, <- e5, <- e6, <- e7, <- ex] at hq
   rw [e9, e10, e11, e12, e13, e14]
   exact hq
end
end Go.Proofs.YtneingpnkdeooaaGreat
