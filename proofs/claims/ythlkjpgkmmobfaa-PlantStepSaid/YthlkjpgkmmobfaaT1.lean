/-
  The simulated machine: Table, Start, Step, both ways.
  Conditions: none.
-/
import Derived.Test.YthlkjpgkmmobfaaP1
namespace U
open Go
/-- motors and tables -/
structure PS where
  m0 : Int
  m1 : Int
  m2 : Int
  t0 : Int
  t1 : Int
  t2 : Int
def tbl (bl t m : Int) : Int := min (max t m) (m + bl)
/-- a pulse moves one motor, and its table -/
def pstep (b0 b1 b2 : Int) (s : PS) (r : List Int) : PS :=
  if r.getD 2 0 = 1 ∨ r.getD 2 0 = -1 then
    if r.getD 1 0 = 0 then { s with m0 := s.m0 + r.getD 2 0, t0 := tbl b0 s.t0 (s.m0 + r.getD 2 0) }
    else if r.getD 1 0 = 1 then { s with m1 := s.m1 + r.getD 2 0, t1 := tbl b1 s.t1 (s.m1 + r.getD 2 0) }
    else if r.getD 1 0 = 2 then { s with m2 := s.m2 + r.getD 2 0, t2 := tbl b2 s.t2 (s.m2 + r.getD 2 0) }
    else s
  else s
def pall (b0 b1 b2 : Int) (s : PS) (l : List (List Int)) : PS := l.foldl (pstep b0 b1 b2) s
/-- small enough for so many pulses -/
def smallPS (B : Int) (s : PS) : Prop := (-B ≤ s.m0 ∧ s.m0 ≤ B) ∧ (-B ≤ s.m1 ∧ s.m1 ≤ B) ∧ (-B ≤ s.m2 ∧ s.m2 ≤ B) ∧ (-B - 4096 ≤ s.t0 ∧ s.t0 ≤ B + 4096) ∧ (-B - 4096 ≤ s.t1 ∧ s.t1 ≤ B + 4096) ∧ (-B - 4096 ≤ s.t2 ∧ s.t2 ≤ B + 4096)
def okB (b : Int) : Prop := 0 ≤ b ∧ b ≤ 4096
end U
namespace Go.Proofs.Ythlkjpgkmmobfaa
open Go Go.HL U
def STable (hargs : List HV) (pars : List (List HC)) : SR :=
  match hargs, pars with
  | [.agg [.int .i64 sta, .int .i64 spa, .int .i64 aca, .int .i64 jea, .int .i64 loa, .int .i64 hia, .int .i64 bla, .int .i64 oga, .int .i64 sga, .sl false [4] pta], .ce (.int .i64 t), .ce (.int .i64 m)], [] => .det (okB bla ∧ (-4611686018427387904 ≤ t ∧ t ≤ 4611686018427387904) ∧ (-4611686018427387904 ≤ m ∧ m ≤ 4611686018427387904)) ⟨.ce (.int .i64 (tbl bla t m)), false, [], []⟩
  | _, _ => .fail
noncomputable def CTable : Ctx := ⟨Try.prog, gam [], Try.f16.ntmps, [], []⟩
noncomputable def CTable2 : Ctx := ⟨Try.prog, gam [], Try.f17.ntmps, [], []⟩
theorem vcTable (sta spa aca jea loa hia bla oga sga t m : Int) (pta : List (List Int)) (Q : Res → Prop) : (nfun true CTable Try.f16 (bodyOf Try.f16) [.agg [.int .i64 sta, .int .i64 spa, .int .i64 aca, .int .i64 jea, .int .i64 loa, .int .i64 hia, .int .i64 bla, .int .i64 oga, .int .i64 sga, .sl false [4] pta], .ce (.int .i64 t), .ce (.int .i64 m)] [] Q) =
    (∀ (x1 : Int), x1 = max t m → ((-9223372036854775808 : Int) ≤ m + bla ∧ m + bla ≤ (9223372036854775807 : Int)) ∧ ∀ (x2 : Int), x2 = m + bla → ∀ (x3 : Int), x3 = min x1 x2 → Q { val := HV.ce (HC.int IntKind.i64 x3), own := false, pars := [], news := [] }) := by kernel_rfl
theorem vcTable2 (sta spa aca jea loa hia bla oga sga t m : Int) (pta : List (List Int)) (Q : Res → Prop) : (nfun true CTable2 Try.f17 (bodyOf Try.f17) [.agg [.int .i64 sta, .int .i64 spa, .int .i64 aca, .int .i64 jea, .int .i64 loa, .int .i64 hia, .int .i64 bla, .int .i64 oga, .int .i64 sga, .sl false [4] pta], .ce (.int .i64 t), .ce (.int .i64 m)] [] Q) =
    (∀ (x1 : Int), x1 = max t m → ((-9223372036854775808 : Int) ≤ m + bla ∧ m + bla ≤ (9223372036854775807 : Int)) ∧ ∀ (x2 : Int), x2 = m + bla → ∀ (x3 : Int), x3 = min x1 x2 → Q { val := HV.ce (HC.int IntKind.i64 x3), own := false, pars := [], news := [] }) := by kernel_rfl
def okM (st og sg : Int) (pit : List (List Int)) (p : Int) : Prop := (0 < st ∧ st ≤ 16777216) ∧ okC og sg pit ∧ -1073741824 ≤ p ∧ p ≤ 1073741824
def SStart (hargs : List HV) (pars : List (List HC)) : SR :=
  match hargs, pars with
  | [.agg [.int .i64 sta, .int .i64 spa, .int .i64 aca, .int .i64 jea, .int .i64 loa, .int .i64 hia, .int .i64 bla, .int .i64 oga, .int .i64 sga, .sl false [4] pta, .int .i64 stb, .int .i64 spb, .int .i64 acb, .int .i64 jeb, .int .i64 lob, .int .i64 hib, .int .i64 blb, .int .i64 ogb, .int .i64 sgb, .sl false [4] ptb, .int .i64 stc, .int .i64 spc, .int .i64 acc, .int .i64 jec, .int .i64 loc, .int .i64 hic, .int .i64 blc, .int .i64 ogc, .int .i64 sgc, .sl false [4] ptc], .agg [.int .i64 p0, .int .i64 p1, .int .i64 p2]], [] =>
    .det (okM sta oga sga pta p0 ∧ okM stb ogb sgb ptb p1 ∧ okM stc ogc sgc ptc p2)
      ⟨.agg [.int .i64 (mot sta oga sga pta p0), .int .i64 (mot stb ogb sgb ptb p1), .int .i64 (mot stc ogc sgc ptc p2), .int .i64 (mot sta oga sga pta p0), .int .i64 (mot stb ogb sgb ptb p1), .int .i64 (mot stc ogc sgc ptc p2)], false, [], []⟩
  | _, _ => .fail
def tabStart : List (FuncId × HL.Spec) := [(14, SMotor), (15, SMotor)]
def unrT (b : List Nat) : LAnn := ⟨[], [4], b, true⟩
noncomputable def CStart : Ctx := ⟨Try.prog, gam tabStart, Try.f8.ntmps, [(4000003, unrT [1000002, 1000003, 1000004, 1000005], fun _ => .fail)], []⟩
noncomputable def CStart2 : Ctx := ⟨Try.prog, gam tabStart, Try.f9.ntmps, [(4000003, unrT [1000002, 1000003, 1000004, 1000005], fun _ => .fail)], []⟩
theorem vcStart (sta spa aca jea loa hia bla oga sga stb spb acb jeb lob hib blb ogb sgb stc spc acc jec loc hic blc ogc sgc : Int) (pta ptb ptc : List (List Int)) (p0 p1 p2 : Int) (Q : Res → Prop) : (nfun true CStart Try.f8 (bodyOf Try.f8) [.agg [.int .i64 sta, .int .i64 spa, .int .i64 aca, .int .i64 jea, .int .i64 loa, .int .i64 hia, .int .i64 bla, .int .i64 oga, .int .i64 sga, .sl false [4] pta, .int .i64 stb, .int .i64 spb, .int .i64 acb, .int .i64 jeb, .int .i64 lob, .int .i64 hib, .int .i64 blb, .int .i64 ogb, .int .i64 sgb, .sl false [4] ptb, .int .i64 stc, .int .i64 spc, .int .i64 acc, .int .i64 jec, .int .i64 loc, .int .i64 hic, .int .i64 blc, .int .i64 ogc, .int .i64 sgc, .sl false [4] ptc], .agg [.int .i64 p0, .int .i64 p1, .int .i64 p2]] [] Q) =
    (((0 : Int) ≤ (0 : Int) ∧ (0 : Int) < (3 : Int)) ∧ ((0 : Int) ≤ (0 : Int) ∧ (0 : Int) < (3 : Int)) ∧ (((0 : Int) < sta ∧ sta ≤ (16777216 : Int)) ∧ okC oga sga pta ∧ (-1073741824 : Int) ≤ p0 ∧ p0 ≤ (1073741824 : Int)) ∧ ∀ (x1 : Int), x1 = mot sta oga sga pta p0 → ((0 : Int) ≤ (0 : Int) ∧ (0 : Int) < (3 : Int)) ∧ ((0 : Int) ≤ (1 : Int) ∧ (1 : Int) < (3 : Int)) ∧ ((0 : Int) ≤ (1 : Int) ∧ (1 : Int) < (3 : Int)) ∧ (((0 : Int) < stb ∧ stb ≤ (16777216 : Int)) ∧ okC ogb sgb ptb ∧ (-1073741824 : Int) ≤ p1 ∧ p1 ≤ (1073741824 : Int)) ∧ ∀ (x2 : Int), x2 = mot stb ogb sgb ptb p1 → ((0 : Int) ≤ (1 : Int) ∧ (1 : Int) < (3 : Int)) ∧ ((0 : Int) ≤ (2 : Int) ∧ (2 : Int) < (3 : Int)) ∧ ((0 : Int) ≤ (2 : Int) ∧ (2 : Int) < (3 : Int)) ∧ (((0 : Int) < stc ∧ stc ≤ (16777216 : Int)) ∧ okC ogc sgc ptc ∧ (-1073741824 : Int) ≤ p2 ∧ p2 ≤ (1073741824 : Int)) ∧ ∀ (x3 : Int), x3 = mot stc ogc sgc ptc p2 → ((0 : Int) ≤ (2 : Int) ∧
    (2 : Int) < (3 : Int)) ∧ Q { val := HV.agg [HC.int IntKind.i64 x1, HC.int IntKind.i64 x2, HC.int IntKind.i64 x3, HC.int IntKind.i64 x1, HC.int IntKind.i64 x2, HC.int IntKind.i64 x3], own := false, pars := [], news := [] }) := by kernel_rfl
theorem vcStart2 (sta spa aca jea loa hia bla oga sga stb spb acb jeb lob hib blb ogb sgb stc spc acc jec loc hic blc ogc sgc : Int) (pta ptb ptc : List (List Int)) (p0 p1 p2 : Int) (Q : Res → Prop) : (nfun true CStart2 Try.f9 (bodyOf Try.f9) [.agg [.int .i64 sta, .int .i64 spa, .int .i64 aca, .int .i64 jea, .int .i64 loa, .int .i64 hia, .int .i64 bla, .int .i64 oga, .int .i64 sga, .sl false [4] pta, .int .i64 stb, .int .i64 spb, .int .i64 acb, .int .i64 jeb, .int .i64 lob, .int .i64 hib, .int .i64 blb, .int .i64 ogb, .int .i64 sgb, .sl false [4] ptb, .int .i64 stc, .int .i64 spc, .int .i64 acc, .int .i64 jec, .int .i64 loc, .int .i64 hic, .int .i64 blc, .int .i64 ogc, .int .i64 sgc, .sl false [4] ptc], .agg [.int .i64 p0, .int .i64 p1, .int .i64 p2]] [] Q) =
    (((0 : Int) ≤ (0 : Int) ∧ (0 : Int) < (3 : Int)) ∧ ((0 : Int) ≤ (0 : Int) ∧ (0 : Int) < (3 : Int)) ∧ (((0 : Int) < sta ∧ sta ≤ (16777216 : Int)) ∧ okC oga sga pta ∧ (-1073741824 : Int) ≤ p0 ∧ p0 ≤ (1073741824 : Int)) ∧ ∀ (x1 : Int), x1 = mot sta oga sga pta p0 → ((0 : Int) ≤ (0 : Int) ∧ (0 : Int) < (3 : Int)) ∧ ((0 : Int) ≤ (0 : Int) ∧ (0 : Int) < (3 : Int)) ∧ ((0 : Int) ≤ (0 : Int) ∧ (0 : Int) < (3 : Int)) ∧ ((0 : Int) ≤ (1 : Int) ∧ (1 : Int) < (3 : Int)) ∧ ((0 : Int) ≤ (1 : Int) ∧ (1 : Int) < (3 : Int)) ∧ (((0 : Int) < stb ∧ stb ≤ (16777216 : Int)) ∧ okC ogb sgb ptb ∧ (-1073741824 : Int) ≤ p1 ∧ p1 ≤ (1073741824 : Int)) ∧ ∀ (x2 : Int), x2 = mot stb ogb sgb ptb p1 → ((0 : Int) ≤ (1 : Int) ∧ (1 : Int) < (3 : Int)) ∧ ((0 : Int) ≤ (1 : Int) ∧ (1 : Int) < (3 : Int)) ∧ ((0 : Int) ≤ (1 : Int) ∧ (1 : Int) < (3 : Int)) ∧ ((0 : Int) ≤ (2 : Int) ∧ (2 : Int) < (3 : Int)) ∧ ((0 : Int) ≤ (2 : Int) ∧ (2 : Int) < (3 : Int)) ∧
    (((0 : Int) < stc ∧ stc ≤ (16777216 : Int)) ∧ okC ogc sgc ptc ∧ (-1073741824 : Int) ≤ p2 ∧ p2 ≤ (1073741824 : Int)) ∧ ∀ (x3 : Int), x3 = mot stc ogc sgc ptc p2 → ((0 : Int) ≤ (2 : Int) ∧ (2 : Int) < (3 : Int)) ∧ ((0 : Int) ≤ (2 : Int) ∧ (2 : Int) < (3 : Int)) ∧ ((0 : Int) ≤ (2 : Int) ∧ (2 : Int) < (3 : Int)) ∧ Q { val := HV.agg [HC.int IntKind.i64 x1, HC.int IntKind.i64 x2, HC.int IntKind.i64 x3, HC.int IntKind.i64 x1, HC.int IntKind.i64 x2, HC.int IntKind.i64 x3], own := false, pars := [], news := [] }) := by kernel_rfl
def SStep (hargs : List HV) (pars : List (List HC)) : SR :=
  match hargs, pars with
  | [.agg [.int .i64 sta, .int .i64 spa, .int .i64 aca, .int .i64 jea, .int .i64 loa, .int .i64 hia, .int .i64 bla, .int .i64 oga, .int .i64 sga, .sl false [4] pta, .int .i64 stb, .int .i64 spb, .int .i64 acb, .int .i64 jeb, .int .i64 lob, .int .i64 hib, .int .i64 blb, .int .i64 ogb, .int .i64 sgb, .sl false [4] ptb, .int .i64 stc, .int .i64 spc, .int .i64 acc, .int .i64 jec, .int .i64 loc, .int .i64 hic, .int .i64 blc, .int .i64 ogc, .int .i64 sgc, .sl false [4] ptc], .agg [.int .i64 m0, .int .i64 m1, .int .i64 m2, .int .i64 t0, .int .i64 t1, .int .i64 t2], .ce (.sl false [4, 4, 4] l)], [] =>
    .all ((okB bla ∧ okB blb ∧ okB blc) ∧ smallPS 1152921504606846976 ⟨m0, m1, m2, t0, t1, t2⟩ ∧ l.length ≤ 1152921504606846976) PS (fun x => x = pall bla blb blc ⟨m0, m1, m2, t0, t1, t2⟩ l) (fun x => ⟨.agg [.int .i64 x.m0, .int .i64 x.m1, .int .i64 x.m2, .int .i64 x.t0, .int .i64 x.t1, .int .i64 x.t2], false, [], []⟩)
  | _, _ => .fail
def anStep : LAnn := ⟨[3, 4, 6, 9, 10, 11], [3, 4, 6], [1000003, 1000004, 1000006], false⟩
def LStep (v : LV) : LR :=
  match v with
  | ([.ce (.ptr 1000003 0), .ce (.ptr 1000004 0), .ce (.ptr 1000006 0), .ce (.sl false [4, 4, 4] l), .ce (.int .i64 n), .ce (.int .i64 i)], [bx, bp, bz]) =>
    match bx with
    | [.int .i64 sta, .int .i64 spa, .int .i64 aca, .int .i64 jea, .int .i64 loa, .int .i64 hia, .int .i64 bla, .int .i64 oga, .int .i64 sga, .sl false [4] pta, .int .i64 stb, .int .i64 spb, .int .i64 acb, .int .i64 jeb, .int .i64 lob, .int .i64 hib, .int .i64 blb, .int .i64 ogb, .int .i64 sgb, .sl false [4] ptb, .int .i64 stc, .int .i64 spc, .int .i64 acc, .int .i64 jec, .int .i64 loc, .int .i64 hic, .int .i64 blc, .int .i64 ogc, .int .i64 sgc, .sl false [4] ptc] =>
      match bp, bz with
      | [.int .i64 m0, .int .i64 m1, .int .i64 m2, .int .i64 t0, .int .i64 t1, .int .i64 t2], [.int .i64 y0, .int .i64 y1, .int .i64 y2, .int .i64 y3, .int .i64 y4, .int .i64 y5] =>
        .all (n = l.length ∧ i = 0 ∧ (okB bla ∧ okB blb ∧ okB blc) ∧ smallPS 1152921504606846976 ⟨m0, m1, m2, t0, t1, t2⟩ ∧ l.length ≤ 1152921504606846976) PS (fun x => x = pall bla blb blc ⟨m0, m1, m2, t0, t1, t2⟩ l) (fun _ => .exit 0)
          (fun x => ([.ce (.ptr 1000003 0), .ce (.ptr 1000004 0), .ce (.ptr 1000006 0)], [[.int .i64 sta, .int .i64 spa, .int .i64 aca, .int .i64 jea, .int .i64 loa, .int .i64 hia, .int .i64 bla, .int .i64 oga, .int .i64 sga, .sl false [4] pta, .int .i64 stb, .int .i64 spb, .int .i64 acb, .int .i64 jeb, .int .i64 lob, .int .i64 hib, .int .i64 blb, .int .i64 ogb, .int .i64 sgb, .sl false [4] ptb, .int .i64 stc, .int .i64 spc, .int .i64 acc, .int .i64 jec, .int .i64 loc, .int .i64 hic, .int .i64 blc, .int .i64 ogc, .int .i64 sgc, .sl false [4] ptc], [.int .i64 x.m0, .int .i64 x.m1, .int .i64 x.m2, .int .i64 x.t0, .int .i64 x.t1, .int .i64 x.t2], [.int .i64 y0, .int .i64 y1, .int .i64 y2, .int .i64 y3, .int .i64 y4, .int .i64 y5]]))
      | _, _ => .fail
    | _ => .fail
  | _ => .fail
def tabStep : List (FuncId × HL.Spec) := [(16, STable), (17, STable)]
noncomputable def CStep : Ctx := ⟨Try.prog, gam tabStep, Try.f10.ntmps, [(2, anStep, LStep)], [spl 5 1000008 1 6]⟩
noncomputable def CStep2 : Ctx := ⟨Try.prog, gam tabStep, Try.f11.ntmps, [(2, anStep, LStep)], [spl 5 1000008 1 6]⟩
theorem vbStep (sta spa aca jea loa hia bla oga sga stb spb acb jeb lob hib blb ogb sgb stc spc acc jec loc hic blc ogc sgc : Int) (pta ptb ptc : List (List Int)) (m0 m1 m2 t0 t1 t2 : Int) (n i y0 y1 y2 y3 y4 y5 : Int) (l : List (List Int)) (K : HEx → LV → Prop) : (nbodyT true CStep anStep (nthLoop Try.f10 0) (([.ce (.ptr 1000003 0), .ce (.ptr 1000004 0), .ce (.ptr 1000006 0), .ce (.sl false [4, 4, 4] l), .ce (.int .i64 n), .ce (.int .i64 i)], [[.int .i64 sta, .int .i64 spa, .int .i64 aca, .int .i64 jea, .int .i64 loa, .int .i64 hia, .int .i64 bla, .int .i64 oga, .int .i64 sga, .sl false [4] pta, .int .i64 stb, .int .i64 spb, .int .i64 acb, .int .i64 jeb, .int .i64 lob, .int .i64 hib, .int .i64 blb, .int .i64 ogb, .int .i64 sgb, .sl false [4] ptb, .int .i64 stc, .int .i64 spc, .int .i64 acc, .int .i64 jec, .int .i64 loc, .int .i64 hic, .int .i64 blc, .int .i64 ogc, .int .i64 sgc, .sl false [4] ptc], [.int .i64 m0, .int .i64 m1, .int .i64 m2, .int .i64 t0, .int .i64 t1, .int .i64 t2], [.int .i64 y0, .int .i64 y1, .int .i64 y2, .int .i64 y3, .int .i64 y4, .int .i64 y5]])) K) =
    ((decide (i < n) = true → ((0 : Int) ≤ i ∧ i < (((List.length l) : Nat) : Int)) ∧ (decide (ec l (Int.toNat i) ((1 : Nat)) < (0 : Int)) = true → ((-9223372036854775808 : Int) ≤ i + (1 : Int) ∧ i + (1 : Int) ≤ (9223372036854775807 : Int)) ∧ ∀ (x1 : Int), x1 = i + (1 : Int) → K HEx.normal ([HV.ce (HC.ptr (1000003 : Nat) (0 : Nat)), HV.ce (HC.ptr (1000004 : Nat) (0 : Nat)), HV.ce (HC.ptr (1000006 : Nat) (0 : Nat)), HV.ce (HC.sl false [(4 : Nat), (4 : Nat), (4 : Nat)] l), HV.ce (HC.int IntKind.i64 n), HV.ce (HC.int IntKind.i64 x1)], [[HC.int IntKind.i64 sta, HC.int IntKind.i64 spa, HC.int IntKind.i64 aca, HC.int IntKind.i64 jea, HC.int IntKind.i64 loa, HC.int IntKind.i64 hia, HC.int IntKind.i64 bla, HC.int IntKind.i64 oga, HC.int IntKind.i64 sga, HC.sl false [(4 : Nat)] pta, HC.int IntKind.i64 stb, HC.int IntKind.i64 spb, HC.int IntKind.i64 acb, HC.int IntKind.i64 jeb, HC.int IntKind.i64 lob, HC.int IntKind.i64 hib, HC.int IntKind.i64 blb, HC.int IntKind.i64 ogb, HC.int IntKind.i64 sgb, HC.sl false [(4 : Nat)] ptb, HC.int IntKind.i64 stc, HC.int IntKind.i64 spc, HC.int IntKind.i64 acc, HC.int IntKind.i64 jec, HC.int IntKind.i64 loc, HC.int IntKind.i64 hic, HC.int IntKind.i64 blc, HC.int IntKind.i64 ogc, HC.int IntKind.i64 sgc, HC.sl false [(4 : Nat)] ptc], [HC.int IntKind.i64 m0, HC.int IntKind.i64 m1, HC.int IntKind.i64 m2, HC.int IntKind.i64 t0, HC.int IntKind.i64 t1, HC.int IntKind.i64 t2], [HC.int IntKind.i64 y0, HC.int IntKind.i64 y1, HC.int IntKind.i64 y2, HC.int IntKind.i64 y3, HC.int IntKind.i64 y4, HC.int IntKind.i64 y5]])) ∧
    (decide (ec l (Int.toNat i) ((1 : Nat)) < (0 : Int)) = false → (decide (ec l (Int.toNat i) ((1 : Nat)) > (2 : Int)) = true → ((-9223372036854775808 : Int) ≤ i + (1 : Int) ∧ i + (1 : Int) ≤ (9223372036854775807 : Int)) ∧ ∀ (x2 : Int), x2 = i + (1 : Int) → K HEx.normal ([HV.ce (HC.ptr (1000003 : Nat) (0 : Nat)), HV.ce (HC.ptr (1000004 : Nat) (0 : Nat)), HV.ce (HC.ptr (1000006 : Nat) (0 : Nat)), HV.ce (HC.sl false [(4 : Nat), (4 : Nat), (4 : Nat)] l), HV.ce (HC.int IntKind.i64 n), HV.ce (HC.int IntKind.i64 x2)], [[HC.int IntKind.i64 sta, HC.int IntKind.i64 spa, HC.int IntKind.i64 aca, HC.int IntKind.i64 jea, HC.int IntKind.i64 loa, HC.int IntKind.i64 hia, HC.int IntKind.i64 bla, HC.int IntKind.i64 oga, HC.int IntKind.i64 sga, HC.sl false [(4 : Nat)] pta, HC.int IntKind.i64 stb, HC.int IntKind.i64 spb, HC.int IntKind.i64 acb, HC.int IntKind.i64 jeb, HC.int IntKind.i64 lob, HC.int IntKind.i64 hib, HC.int IntKind.i64 blb, HC.int IntKind.i64 ogb, HC.int IntKind.i64 sgb, HC.sl false [(4 : Nat)] ptb, HC.int IntKind.i64 stc, HC.int IntKind.i64 spc, HC.int IntKind.i64 acc, HC.int IntKind.i64 jec, HC.int IntKind.i64 loc, HC.int IntKind.i64 hic, HC.int IntKind.i64 blc, HC.int IntKind.i64 ogc, HC.int IntKind.i64 sgc, HC.sl false [(4 : Nat)] ptc], [HC.int IntKind.i64 m0, HC.int IntKind.i64 m1, HC.int IntKind.i64 m2, HC.int IntKind.i64 t0, HC.int IntKind.i64 t1, HC.int IntKind.i64 t2], [HC.int IntKind.i64 y0, HC.int IntKind.i64 y1, HC.int IntKind.i64 y2, HC.int IntKind.i64 y3, HC.int IntKind.i64 y4, HC.int IntKind.i64 y5]])) ∧
    (decide (ec l (Int.toNat i) ((1 : Nat)) > (2 : Int)) = false → ((ec l (Int.toNat i) ((2 : Nat)) != (1 : Int)) = true → ((ec l (Int.toNat i) ((2 : Nat)) != (-1 : Int)) = true → ((-9223372036854775808 : Int) ≤ i + (1 : Int) ∧ i + (1 : Int) ≤ (9223372036854775807 : Int)) ∧ ∀ (x3 : Int), x3 = i + (1 : Int) → K HEx.normal ([HV.ce (HC.ptr (1000003 : Nat) (0 : Nat)), HV.ce (HC.ptr (1000004 : Nat) (0 : Nat)), HV.ce (HC.ptr (1000006 : Nat) (0 : Nat)), HV.ce (HC.sl false [(4 : Nat), (4 : Nat), (4 : Nat)] l), HV.ce (HC.int IntKind.i64 n), HV.ce (HC.int IntKind.i64 x3)], [[HC.int IntKind.i64 sta, HC.int IntKind.i64 spa, HC.int IntKind.i64 aca, HC.int IntKind.i64 jea, HC.int IntKind.i64 loa, HC.int IntKind.i64 hia, HC.int IntKind.i64 bla, HC.int IntKind.i64 oga, HC.int IntKind.i64 sga, HC.sl false [(4 : Nat)] pta, HC.int IntKind.i64 stb, HC.int IntKind.i64 spb, HC.int IntKind.i64 acb, HC.int IntKind.i64 jeb, HC.int IntKind.i64 lob, HC.int IntKind.i64 hib, HC.int IntKind.i64 blb, HC.int IntKind.i64 ogb, HC.int IntKind.i64 sgb, HC.sl false [(4 : Nat)] ptb, HC.int IntKind.i64 stc, HC.int IntKind.i64 spc, HC.int IntKind.i64 acc, HC.int IntKind.i64 jec, HC.int IntKind.i64 loc, HC.int IntKind.i64 hic, HC.int IntKind.i64 blc, HC.int IntKind.i64 ogc, HC.int IntKind.i64 sgc, HC.sl false [(4 : Nat)] ptc], [HC.int IntKind.i64 m0, HC.int IntKind.i64 m1, HC.int IntKind.i64 m2, HC.int IntKind.i64 t0, HC.int IntKind.i64 t1, HC.int IntKind.i64 t2], [HC.int IntKind.i64 y0, HC.int IntKind.i64 y1, HC.int IntKind.i64 y2, HC.int IntKind.i64 y3, HC.int IntKind.i64 y4, HC.int IntKind.i64 y5]])) ∧
    ((ec l (Int.toNat i) ((2 : Nat)) != (-1 : Int)) = false → (ec l (Int.toNat i) ((1 : Nat)) = (0 : Int) → ((0 : Int) ≤ (0 : Int) ∧ (0 : Int) < (3 : Int)) ∧ ((-9223372036854775808 : Int) ≤ m0 + ec l (Int.toNat i) ((2 : Nat)) ∧ m0 + ec l (Int.toNat i) ((2 : Nat)) ≤ (9223372036854775807 : Int)) ∧ ∀ (x4 : Int), x4 = m0 + ec l (Int.toNat i) ((2 : Nat)) → ((0 : Int) ≤ (0 : Int) ∧ (0 : Int) < (3 : Int)) ∧ ((0 : Int) ≤ (0 : Int) ∧ (0 : Int) < (3 : Int)) ∧ ((0 : Int) ≤ (0 : Int) ∧ (0 : Int) < (3 : Int)) ∧ ((0 : Int) ≤ (0 : Int) ∧ (0 : Int) < (3 : Int)) ∧ (okB bla ∧ ((-4611686018427387904 : Int) ≤ t0 ∧ t0 ≤ (4611686018427387904 : Int)) ∧ (-4611686018427387904 : Int) ≤ x4 ∧ x4 ≤ (4611686018427387904 : Int)) ∧ ∀ (x5 : Int), x5 = tbl bla t0 x4 → ((0 : Int) ≤ (0 : Int) ∧ (0 : Int) < (3 : Int)) ∧ ((-9223372036854775808 : Int) ≤ i + (1 : Int) ∧ i + (1 : Int) ≤ (9223372036854775807 : Int)) ∧ ∀ (x6 : Int), x6 = i + (1 : Int) →
    K HEx.normal ([HV.ce (HC.ptr (1000003 : Nat) (0 : Nat)), HV.ce (HC.ptr (1000004 : Nat) (0 : Nat)), HV.ce (HC.ptr (1000006 : Nat) (0 : Nat)), HV.ce (HC.sl false [(4 : Nat), (4 : Nat), (4 : Nat)] l), HV.ce (HC.int IntKind.i64 n), HV.ce (HC.int IntKind.i64 x6)], [[HC.int IntKind.i64 sta, HC.int IntKind.i64 spa, HC.int IntKind.i64 aca, HC.int IntKind.i64 jea, HC.int IntKind.i64 loa, HC.int IntKind.i64 hia, HC.int IntKind.i64 bla, HC.int IntKind.i64 oga, HC.int IntKind.i64 sga, HC.sl false [(4 : Nat)] pta, HC.int IntKind.i64 stb, HC.int IntKind.i64 spb, HC.int IntKind.i64 acb, HC.int IntKind.i64 jeb, HC.int IntKind.i64 lob, HC.int IntKind.i64 hib, HC.int IntKind.i64 blb, HC.int IntKind.i64 ogb, HC.int IntKind.i64 sgb, HC.sl false [(4 : Nat)] ptb, HC.int IntKind.i64 stc, HC.int IntKind.i64 spc, HC.int IntKind.i64 acc, HC.int IntKind.i64 jec, HC.int IntKind.i64 loc, HC.int IntKind.i64 hic, HC.int IntKind.i64 blc, HC.int IntKind.i64 ogc, HC.int IntKind.i64 sgc, HC.sl false [(4 : Nat)] ptc], [HC.int IntKind.i64 x4, HC.int IntKind.i64 m1, HC.int IntKind.i64 m2, HC.int IntKind.i64 x5, HC.int IntKind.i64 t1, HC.int IntKind.i64 t2], [HC.int IntKind.i64 y0, HC.int IntKind.i64 y1, HC.int IntKind.i64 y2, HC.int IntKind.i64 y3, HC.int IntKind.i64 y4, HC.int IntKind.i64 y5]])) ∧
    (ec l (Int.toNat i) ((1 : Nat)) ≠ (0 : Int) → (ec l (Int.toNat i) ((1 : Nat)) = (1 : Int) → ((0 : Int) ≤ (1 : Int) ∧ (1 : Int) < (3 : Int)) ∧ ((-9223372036854775808 : Int) ≤ m1 + ec l (Int.toNat i) ((2 : Nat)) ∧ m1 + ec l (Int.toNat i) ((2 : Nat)) ≤ (9223372036854775807 : Int)) ∧ ∀ (x7 : Int), x7 = m1 + ec l (Int.toNat i) ((2 : Nat)) → ((0 : Int) ≤ (1 : Int) ∧ (1 : Int) < (3 : Int)) ∧ ((0 : Int) ≤ (1 : Int) ∧ (1 : Int) < (3 : Int)) ∧ ((0 : Int) ≤ (1 : Int) ∧ (1 : Int) < (3 : Int)) ∧ ((0 : Int) ≤ (1 : Int) ∧ (1 : Int) < (3 : Int)) ∧ (okB blb ∧ ((-4611686018427387904 : Int) ≤ t1 ∧ t1 ≤ (4611686018427387904 : Int)) ∧ (-4611686018427387904 : Int) ≤ x7 ∧ x7 ≤ (4611686018427387904 : Int)) ∧ ∀ (x8 : Int), x8 = tbl blb t1 x7 → ((0 : Int) ≤ (1 : Int) ∧ (1 : Int) < (3 : Int)) ∧ ((-9223372036854775808 : Int) ≤ i + (1 : Int) ∧ i + (1 : Int) ≤ (9223372036854775807 : Int)) ∧ ∀ (x9 : Int), x9 = i + (1 : Int) →
    K HEx.normal ([HV.ce (HC.ptr (1000003 : Nat) (0 : Nat)), HV.ce (HC.ptr (1000004 : Nat) (0 : Nat)), HV.ce (HC.ptr (1000006 : Nat) (0 : Nat)), HV.ce (HC.sl false [(4 : Nat), (4 : Nat), (4 : Nat)] l), HV.ce (HC.int IntKind.i64 n), HV.ce (HC.int IntKind.i64 x9)], [[HC.int IntKind.i64 sta, HC.int IntKind.i64 spa, HC.int IntKind.i64 aca, HC.int IntKind.i64 jea, HC.int IntKind.i64 loa, HC.int IntKind.i64 hia, HC.int IntKind.i64 bla, HC.int IntKind.i64 oga, HC.int IntKind.i64 sga, HC.sl false [(4 : Nat)] pta, HC.int IntKind.i64 stb, HC.int IntKind.i64 spb, HC.int IntKind.i64 acb, HC.int IntKind.i64 jeb, HC.int IntKind.i64 lob, HC.int IntKind.i64 hib, HC.int IntKind.i64 blb, HC.int IntKind.i64 ogb, HC.int IntKind.i64 sgb, HC.sl false [(4 : Nat)] ptb, HC.int IntKind.i64 stc, HC.int IntKind.i64 spc, HC.int IntKind.i64 acc, HC.int IntKind.i64 jec, HC.int IntKind.i64 loc, HC.int IntKind.i64 hic, HC.int IntKind.i64 blc, HC.int IntKind.i64 ogc, HC.int IntKind.i64 sgc, HC.sl false [(4 : Nat)] ptc], [HC.int IntKind.i64 m0, HC.int IntKind.i64 x7, HC.int IntKind.i64 m2, HC.int IntKind.i64 t0, HC.int IntKind.i64 x8, HC.int IntKind.i64 t2], [HC.int IntKind.i64 y0, HC.int IntKind.i64 y1, HC.int IntKind.i64 y2, HC.int IntKind.i64 y3, HC.int IntKind.i64 y4, HC.int IntKind.i64 y5]])) ∧
    (ec l (Int.toNat i) ((1 : Nat)) ≠ (1 : Int) → (ec l (Int.toNat i) ((1 : Nat)) = (2 : Int) → ((0 : Int) ≤ (2 : Int) ∧ (2 : Int) < (3 : Int)) ∧ ((-9223372036854775808 : Int) ≤ m2 + ec l (Int.toNat i) ((2 : Nat)) ∧ m2 + ec l (Int.toNat i) ((2 : Nat)) ≤ (9223372036854775807 : Int)) ∧ ∀ (x10 : Int), x10 = m2 + ec l (Int.toNat i) ((2 : Nat)) → ((0 : Int) ≤ (2 : Int) ∧ (2 : Int) < (3 : Int)) ∧ ((0 : Int) ≤ (2 : Int) ∧ (2 : Int) < (3 : Int)) ∧ ((0 : Int) ≤ (2 : Int) ∧ (2 : Int) < (3 : Int)) ∧ ((0 : Int) ≤ (2 : Int) ∧ (2 : Int) < (3 : Int)) ∧ (okB blc ∧ ((-4611686018427387904 : Int) ≤ t2 ∧ t2 ≤ (4611686018427387904 : Int)) ∧ (-4611686018427387904 : Int) ≤ x10 ∧ x10 ≤ (4611686018427387904 : Int)) ∧ ∀ (x11 : Int), x11 = tbl blc t2 x10 → ((0 : Int) ≤ (2 : Int) ∧ (2 : Int) < (3 : Int)) ∧ ((-9223372036854775808 : Int) ≤ i + (1 : Int) ∧ i + (1 : Int) ≤ (9223372036854775807 : Int)) ∧ ∀ (x12 : Int), x12 = i + (1 : Int) →
    K HEx.normal ([HV.ce (HC.ptr (1000003 : Nat) (0 : Nat)), HV.ce (HC.ptr (1000004 : Nat) (0 : Nat)), HV.ce (HC.ptr (1000006 : Nat) (0 : Nat)), HV.ce (HC.sl false [(4 : Nat), (4 : Nat), (4 : Nat)] l), HV.ce (HC.int IntKind.i64 n), HV.ce (HC.int IntKind.i64 x12)], [[HC.int IntKind.i64 sta, HC.int IntKind.i64 spa, HC.int IntKind.i64 aca, HC.int IntKind.i64 jea, HC.int IntKind.i64 loa, HC.int IntKind.i64 hia, HC.int IntKind.i64 bla, HC.int IntKind.i64 oga, HC.int IntKind.i64 sga, HC.sl false [(4 : Nat)] pta, HC.int IntKind.i64 stb, HC.int IntKind.i64 spb, HC.int IntKind.i64 acb, HC.int IntKind.i64 jeb, HC.int IntKind.i64 lob, HC.int IntKind.i64 hib, HC.int IntKind.i64 blb, HC.int IntKind.i64 ogb, HC.int IntKind.i64 sgb, HC.sl false [(4 : Nat)] ptb, HC.int IntKind.i64 stc, HC.int IntKind.i64 spc, HC.int IntKind.i64 acc, HC.int IntKind.i64 jec, HC.int IntKind.i64 loc, HC.int IntKind.i64 hic, HC.int IntKind.i64 blc, HC.int IntKind.i64 ogc, HC.int IntKind.i64 sgc, HC.sl false [(4 : Nat)] ptc], [HC.int IntKind.i64 m0, HC.int IntKind.i64 m1, HC.int IntKind.i64 x10, HC.int IntKind.i64 t0, HC.int IntKind.i64 t1, HC.int IntKind.i64 x11], [HC.int IntKind.i64 y0, HC.int IntKind.i64 y1, HC.int IntKind.i64 y2, HC.int IntKind.i64 y3, HC.int IntKind.i64 y4, HC.int IntKind.i64 y5]])) ∧
    (ec l (Int.toNat i) ((1 : Nat)) ≠ (2 : Int) → False))))) ∧ ((ec l (Int.toNat i) ((2 : Nat)) != (1 : Int)) = false → (ec l (Int.toNat i) ((1 : Nat)) = (0 : Int) → ((0 : Int) ≤ (0 : Int) ∧ (0 : Int) < (3 : Int)) ∧ ((-9223372036854775808 : Int) ≤ m0 + ec l (Int.toNat i) ((2 : Nat)) ∧ m0 + ec l (Int.toNat i) ((2 : Nat)) ≤ (9223372036854775807 : Int)) ∧ ∀ (x13 : Int), x13 = m0 + ec l (Int.toNat i) ((2 : Nat)) → ((0 : Int) ≤ (0 : Int) ∧ (0 : Int) < (3 : Int)) ∧ ((0 : Int) ≤ (0 : Int) ∧ (0 : Int) < (3 : Int)) ∧ ((0 : Int) ≤ (0 : Int) ∧ (0 : Int) < (3 : Int)) ∧ ((0 : Int) ≤ (0 : Int) ∧ (0 : Int) < (3 : Int)) ∧ (okB bla ∧ ((-4611686018427387904 : Int) ≤ t0 ∧ t0 ≤ (4611686018427387904 : Int)) ∧ (-4611686018427387904 : Int) ≤ x13 ∧ x13 ≤ (4611686018427387904 : Int)) ∧ ∀ (x14 : Int), x14 = tbl bla t0 x13 → ((0 : Int) ≤ (0 : Int) ∧ (0 : Int) < (3 : Int)) ∧ ((-9223372036854775808 : Int) ≤ i + (1 : Int) ∧
    i + (1 : Int) ≤ (9223372036854775807 : Int)) ∧ ∀ (x15 : Int), x15 = i + (1 : Int) → K HEx.normal ([HV.ce (HC.ptr (1000003 : Nat) (0 : Nat)), HV.ce (HC.ptr (1000004 : Nat) (0 : Nat)), HV.ce (HC.ptr (1000006 : Nat) (0 : Nat)), HV.ce (HC.sl false [(4 : Nat), (4 : Nat), (4 : Nat)] l), HV.ce (HC.int IntKind.i64 n), HV.ce (HC.int IntKind.i64 x15)], [[HC.int IntKind.i64 sta, HC.int IntKind.i64 spa, HC.int IntKind.i64 aca, HC.int IntKind.i64 jea, HC.int IntKind.i64 loa, HC.int IntKind.i64 hia, HC.int IntKind.i64 bla, HC.int IntKind.i64 oga, HC.int IntKind.i64 sga, HC.sl false [(4 : Nat)] pta, HC.int IntKind.i64 stb, HC.int IntKind.i64 spb, HC.int IntKind.i64 acb, HC.int IntKind.i64 jeb, HC.int IntKind.i64 lob, HC.int IntKind.i64 hib, HC.int IntKind.i64 blb, HC.int IntKind.i64 ogb, HC.int IntKind.i64 sgb, HC.sl false [(4 : Nat)] ptb, HC.int IntKind.i64 stc, HC.int IntKind.i64 spc, HC.int IntKind.i64 acc, HC.int IntKind.i64 jec, HC.int IntKind.i64 loc, HC.int IntKind.i64 hic, HC.int IntKind.i64 blc, HC.int IntKind.i64 ogc, HC.int IntKind.i64 sgc, HC.sl false [(4 : Nat)] ptc], [HC.int IntKind.i64 x13, HC.int IntKind.i64 m1, HC.int IntKind.i64 m2, HC.int IntKind.i64 x14, HC.int IntKind.i64 t1, HC.int IntKind.i64 t2], [HC.int IntKind.i64 y0, HC.int IntKind.i64 y1, HC.int IntKind.i64 y2, HC.int IntKind.i64 y3, HC.int IntKind.i64 y4, HC.int IntKind.i64 y5]])) ∧
    (ec l (Int.toNat i) ((1 : Nat)) ≠ (0 : Int) → (ec l (Int.toNat i) ((1 : Nat)) = (1 : Int) → ((0 : Int) ≤ (1 : Int) ∧ (1 : Int) < (3 : Int)) ∧ ((-9223372036854775808 : Int) ≤ m1 + ec l (Int.toNat i) ((2 : Nat)) ∧ m1 + ec l (Int.toNat i) ((2 : Nat)) ≤ (9223372036854775807 : Int)) ∧ ∀ (x16 : Int), x16 = m1 + ec l (Int.toNat i) ((2 : Nat)) → ((0 : Int) ≤ (1 : Int) ∧ (1 : Int) < (3 : Int)) ∧ ((0 : Int) ≤ (1 : Int) ∧ (1 : Int) < (3 : Int)) ∧ ((0 : Int) ≤ (1 : Int) ∧ (1 : Int) < (3 : Int)) ∧ ((0 : Int) ≤ (1 : Int) ∧ (1 : Int) < (3 : Int)) ∧ (okB blb ∧ ((-4611686018427387904 : Int) ≤ t1 ∧ t1 ≤ (4611686018427387904 : Int)) ∧ (-4611686018427387904 : Int) ≤ x16 ∧ x16 ≤ (4611686018427387904 : Int)) ∧ ∀ (x17 : Int), x17 = tbl blb t1 x16 → ((0 : Int) ≤ (1 : Int) ∧ (1 : Int) < (3 : Int)) ∧ ((-9223372036854775808 : Int) ≤ i + (1 : Int) ∧ i + (1 : Int) ≤ (9223372036854775807 : Int)) ∧ ∀ (x18 : Int), x18 = i + (1 : Int) →
    K HEx.normal ([HV.ce (HC.ptr (1000003 : Nat) (0 : Nat)), HV.ce (HC.ptr (1000004 : Nat) (0 : Nat)), HV.ce (HC.ptr (1000006 : Nat) (0 : Nat)), HV.ce (HC.sl false [(4 : Nat), (4 : Nat), (4 : Nat)] l), HV.ce (HC.int IntKind.i64 n), HV.ce (HC.int IntKind.i64 x18)], [[HC.int IntKind.i64 sta, HC.int IntKind.i64 spa, HC.int IntKind.i64 aca, HC.int IntKind.i64 jea, HC.int IntKind.i64 loa, HC.int IntKind.i64 hia, HC.int IntKind.i64 bla, HC.int IntKind.i64 oga, HC.int IntKind.i64 sga, HC.sl false [(4 : Nat)] pta, HC.int IntKind.i64 stb, HC.int IntKind.i64 spb, HC.int IntKind.i64 acb, HC.int IntKind.i64 jeb, HC.int IntKind.i64 lob, HC.int IntKind.i64 hib, HC.int IntKind.i64 blb, HC.int IntKind.i64 ogb, HC.int IntKind.i64 sgb, HC.sl false [(4 : Nat)] ptb, HC.int IntKind.i64 stc, HC.int IntKind.i64 spc, HC.int IntKind.i64 acc, HC.int IntKind.i64 jec, HC.int IntKind.i64 loc, HC.int IntKind.i64 hic, HC.int IntKind.i64 blc, HC.int IntKind.i64 ogc, HC.int IntKind.i64 sgc, HC.sl false [(4 : Nat)] ptc], [HC.int IntKind.i64 m0, HC.int IntKind.i64 x16, HC.int IntKind.i64 m2, HC.int IntKind.i64 t0, HC.int IntKind.i64 x17, HC.int IntKind.i64 t2], [HC.int IntKind.i64 y0, HC.int IntKind.i64 y1, HC.int IntKind.i64 y2, HC.int IntKind.i64 y3, HC.int IntKind.i64 y4, HC.int IntKind.i64 y5]])) ∧
    (ec l (Int.toNat i) ((1 : Nat)) ≠ (1 : Int) → (ec l (Int.toNat i) ((1 : Nat)) = (2 : Int) → ((0 : Int) ≤ (2 : Int) ∧ (2 : Int) < (3 : Int)) ∧ ((-9223372036854775808 : Int) ≤ m2 + ec l (Int.toNat i) ((2 : Nat)) ∧ m2 + ec l (Int.toNat i) ((2 : Nat)) ≤ (9223372036854775807 : Int)) ∧ ∀ (x19 : Int), x19 = m2 + ec l (Int.toNat i) ((2 : Nat)) → ((0 : Int) ≤ (2 : Int) ∧ (2 : Int) < (3 : Int)) ∧ ((0 : Int) ≤ (2 : Int) ∧ (2 : Int) < (3 : Int)) ∧ ((0 : Int) ≤ (2 : Int) ∧ (2 : Int) < (3 : Int)) ∧ ((0 : Int) ≤ (2 : Int) ∧ (2 : Int) < (3 : Int)) ∧ (okB blc ∧ ((-4611686018427387904 : Int) ≤ t2 ∧ t2 ≤ (4611686018427387904 : Int)) ∧ (-4611686018427387904 : Int) ≤ x19 ∧ x19 ≤ (4611686018427387904 : Int)) ∧ ∀ (x20 : Int), x20 = tbl blc t2 x19 → ((0 : Int) ≤ (2 : Int) ∧ (2 : Int) < (3 : Int)) ∧ ((-9223372036854775808 : Int) ≤ i + (1 : Int) ∧ i + (1 : Int) ≤ (9223372036854775807 : Int)) ∧ ∀ (x21 : Int), x21 = i + (1 : Int) →
    K HEx.normal ([HV.ce (HC.ptr (1000003 : Nat) (0 : Nat)), HV.ce (HC.ptr (1000004 : Nat) (0 : Nat)), HV.ce (HC.ptr (1000006 : Nat) (0 : Nat)), HV.ce (HC.sl false [(4 : Nat), (4 : Nat), (4 : Nat)] l), HV.ce (HC.int IntKind.i64 n), HV.ce (HC.int IntKind.i64 x21)], [[HC.int IntKind.i64 sta, HC.int IntKind.i64 spa, HC.int IntKind.i64 aca, HC.int IntKind.i64 jea, HC.int IntKind.i64 loa, HC.int IntKind.i64 hia, HC.int IntKind.i64 bla, HC.int IntKind.i64 oga, HC.int IntKind.i64 sga, HC.sl false [(4 : Nat)] pta, HC.int IntKind.i64 stb, HC.int IntKind.i64 spb, HC.int IntKind.i64 acb, HC.int IntKind.i64 jeb, HC.int IntKind.i64 lob, HC.int IntKind.i64 hib, HC.int IntKind.i64 blb, HC.int IntKind.i64 ogb, HC.int IntKind.i64 sgb, HC.sl false [(4 : Nat)] ptb, HC.int IntKind.i64 stc, HC.int IntKind.i64 spc, HC.int IntKind.i64 acc, HC.int IntKind.i64 jec, HC.int IntKind.i64 loc, HC.int IntKind.i64 hic, HC.int IntKind.i64 blc, HC.int IntKind.i64 ogc, HC.int IntKind.i64 sgc, HC.sl false [(4 : Nat)] ptc], [HC.int IntKind.i64 m0, HC.int IntKind.i64 m1, HC.int IntKind.i64 x19, HC.int IntKind.i64 t0, HC.int IntKind.i64 t1, HC.int IntKind.i64 x20], [HC.int IntKind.i64 y0, HC.int IntKind.i64 y1, HC.int IntKind.i64 y2, HC.int IntKind.i64 y3, HC.int IntKind.i64 y4, HC.int IntKind.i64 y5]])) ∧
    (ec l (Int.toNat i) ((1 : Nat)) ≠ (2 : Int) → False))))))) ∧ (decide (i < n) = false → K (HEx.exit (0 : Nat)) ([HV.ce (HC.ptr (1000003 : Nat) (0 : Nat)), HV.ce (HC.ptr (1000004 : Nat) (0 : Nat)), HV.ce (HC.ptr (1000006 : Nat) (0 : Nat))], [[HC.int IntKind.i64 sta, HC.int IntKind.i64 spa, HC.int IntKind.i64 aca, HC.int IntKind.i64 jea, HC.int IntKind.i64 loa, HC.int IntKind.i64 hia, HC.int IntKind.i64 bla, HC.int IntKind.i64 oga, HC.int IntKind.i64 sga, HC.sl false [(4 : Nat)] pta, HC.int IntKind.i64 stb, HC.int IntKind.i64 spb, HC.int IntKind.i64 acb, HC.int IntKind.i64 jeb, HC.int IntKind.i64 lob, HC.int IntKind.i64 hib, HC.int IntKind.i64 blb, HC.int IntKind.i64 ogb, HC.int IntKind.i64 sgb, HC.sl false [(4 : Nat)] ptb, HC.int IntKind.i64 stc, HC.int IntKind.i64 spc, HC.int IntKind.i64 acc, HC.int IntKind.i64 jec, HC.int IntKind.i64 loc, HC.int IntKind.i64 hic, HC.int IntKind.i64 blc, HC.int IntKind.i64 ogc, HC.int IntKind.i64 sgc, HC.sl false [(4 : Nat)] ptc], [HC.int IntKind.i64 m0, HC.int IntKind.i64 m1, HC.int IntKind.i64 m2, HC.int IntKind.i64 t0, HC.int IntKind.i64 t1, HC.int IntKind.i64 t2], [HC.int IntKind.i64 y0, HC.int IntKind.i64 y1, HC.int IntKind.i64 y2, HC.int IntKind.i64 y3, HC.int IntKind.i64 y4, HC.int IntKind.i64 y5]]))) := by kernel_rfl
theorem vbStep2 (sta spa aca jea loa hia bla oga sga stb spb acb jeb lob hib blb ogb sgb stc spc acc jec loc hic blc ogc sgc : Int) (pta ptb ptc : List (List Int)) (m0 m1 m2 t0 t1 t2 : Int) (n i y0 y1 y2 y3 y4 y5 : Int) (l : List (List Int)) (K : HEx → LV → Prop) : (nbodyT true CStep2 anStep (nthLoop Try.f11 0) (([.ce (.ptr 1000003 0), .ce (.ptr 1000004 0), .ce (.ptr 1000006 0), .ce (.sl false [4, 4, 4] l), .ce (.int .i64 n), .ce (.int .i64 i)], [[.int .i64 sta, .int .i64 spa, .int .i64 aca, .int .i64 jea, .int .i64 loa, .int .i64 hia, .int .i64 bla, .int .i64 oga, .int .i64 sga, .sl false [4] pta, .int .i64 stb, .int .i64 spb, .int .i64 acb, .int .i64 jeb, .int .i64 lob, .int .i64 hib, .int .i64 blb, .int .i64 ogb, .int .i64 sgb, .sl false [4] ptb, .int .i64 stc, .int .i64 spc, .int .i64 acc, .int .i64 jec, .int .i64 loc, .int .i64 hic, .int .i64 blc, .int .i64 ogc, .int .i64 sgc, .sl false [4] ptc], [.int .i64 m0, .int .i64 m1, .int .i64 m2, .int .i64 t0, .int .i64 t1, .int .i64 t2], [.int .i64 y0, .int .i64 y1, .int .i64 y2, .int .i64 y3, .int .i64 y4, .int .i64 y5]])) K) =
    ((decide (i < n) = true → ((0 : Int) ≤ i ∧ i < (((List.length l) : Nat) : Int)) ∧ (decide (ec l (Int.toNat i) ((1 : Nat)) < (0 : Int)) = true → ((-9223372036854775808 : Int) ≤ i + (1 : Int) ∧ i + (1 : Int) ≤ (9223372036854775807 : Int)) ∧ ∀ (x1 : Int), x1 = i + (1 : Int) → K HEx.normal ([HV.ce (HC.ptr (1000003 : Nat) (0 : Nat)), HV.ce (HC.ptr (1000004 : Nat) (0 : Nat)), HV.ce (HC.ptr (1000006 : Nat) (0 : Nat)), HV.ce (HC.sl false [(4 : Nat), (4 : Nat), (4 : Nat)] l), HV.ce (HC.int IntKind.i64 n), HV.ce (HC.int IntKind.i64 x1)], [[HC.int IntKind.i64 sta, HC.int IntKind.i64 spa, HC.int IntKind.i64 aca, HC.int IntKind.i64 jea, HC.int IntKind.i64 loa, HC.int IntKind.i64 hia, HC.int IntKind.i64 bla, HC.int IntKind.i64 oga, HC.int IntKind.i64 sga, HC.sl false [(4 : Nat)] pta, HC.int IntKind.i64 stb, HC.int IntKind.i64 spb, HC.int IntKind.i64 acb, HC.int IntKind.i64 jeb, HC.int IntKind.i64 lob, HC.int IntKind.i64 hib, HC.int IntKind.i64 blb, HC.int IntKind.i64 ogb, HC.int IntKind.i64 sgb, HC.sl false [(4 : Nat)] ptb, HC.int IntKind.i64 stc, HC.int IntKind.i64 spc, HC.int IntKind.i64 acc, HC.int IntKind.i64 jec, HC.int IntKind.i64 loc, HC.int IntKind.i64 hic, HC.int IntKind.i64 blc, HC.int IntKind.i64 ogc, HC.int IntKind.i64 sgc, HC.sl false [(4 : Nat)] ptc], [HC.int IntKind.i64 m0, HC.int IntKind.i64 m1, HC.int IntKind.i64 m2, HC.int IntKind.i64 t0, HC.int IntKind.i64 t1, HC.int IntKind.i64 t2], [HC.int IntKind.i64 y0, HC.int IntKind.i64 y1, HC.int IntKind.i64 y2, HC.int IntKind.i64 y3, HC.int IntKind.i64 y4, HC.int IntKind.i64 y5]])) ∧
    (decide (ec l (Int.toNat i) ((1 : Nat)) < (0 : Int)) = false → (decide (ec l (Int.toNat i) ((1 : Nat)) > (2 : Int)) = true → ((-9223372036854775808 : Int) ≤ i + (1 : Int) ∧ i + (1 : Int) ≤ (9223372036854775807 : Int)) ∧ ∀ (x2 : Int), x2 = i + (1 : Int) → K HEx.normal ([HV.ce (HC.ptr (1000003 : Nat) (0 : Nat)), HV.ce (HC.ptr (1000004 : Nat) (0 : Nat)), HV.ce (HC.ptr (1000006 : Nat) (0 : Nat)), HV.ce (HC.sl false [(4 : Nat), (4 : Nat), (4 : Nat)] l), HV.ce (HC.int IntKind.i64 n), HV.ce (HC.int IntKind.i64 x2)], [[HC.int IntKind.i64 sta, HC.int IntKind.i64 spa, HC.int IntKind.i64 aca, HC.int IntKind.i64 jea, HC.int IntKind.i64 loa, HC.int IntKind.i64 hia, HC.int IntKind.i64 bla, HC.int IntKind.i64 oga, HC.int IntKind.i64 sga, HC.sl false [(4 : Nat)] pta, HC.int IntKind.i64 stb, HC.int IntKind.i64 spb, HC.int IntKind.i64 acb, HC.int IntKind.i64 jeb, HC.int IntKind.i64 lob, HC.int IntKind.i64 hib, HC.int IntKind.i64 blb, HC.int IntKind.i64 ogb, HC.int IntKind.i64 sgb, HC.sl false [(4 : Nat)] ptb, HC.int IntKind.i64 stc, HC.int IntKind.i64 spc, HC.int IntKind.i64 acc, HC.int IntKind.i64 jec, HC.int IntKind.i64 loc, HC.int IntKind.i64 hic, HC.int IntKind.i64 blc, HC.int IntKind.i64 ogc, HC.int IntKind.i64 sgc, HC.sl false [(4 : Nat)] ptc], [HC.int IntKind.i64 m0, HC.int IntKind.i64 m1, HC.int IntKind.i64 m2, HC.int IntKind.i64 t0, HC.int IntKind.i64 t1, HC.int IntKind.i64 t2], [HC.int IntKind.i64 y0, HC.int IntKind.i64 y1, HC.int IntKind.i64 y2, HC.int IntKind.i64 y3, HC.int IntKind.i64 y4, HC.int IntKind.i64 y5]])) ∧
    (decide (ec l (Int.toNat i) ((1 : Nat)) > (2 : Int)) = false → ((ec l (Int.toNat i) ((2 : Nat)) != (1 : Int)) = true → ((ec l (Int.toNat i) ((2 : Nat)) != (-1 : Int)) = true → ((-9223372036854775808 : Int) ≤ i + (1 : Int) ∧ i + (1 : Int) ≤ (9223372036854775807 : Int)) ∧ ∀ (x3 : Int), x3 = i + (1 : Int) → K HEx.normal ([HV.ce (HC.ptr (1000003 : Nat) (0 : Nat)), HV.ce (HC.ptr (1000004 : Nat) (0 : Nat)), HV.ce (HC.ptr (1000006 : Nat) (0 : Nat)), HV.ce (HC.sl false [(4 : Nat), (4 : Nat), (4 : Nat)] l), HV.ce (HC.int IntKind.i64 n), HV.ce (HC.int IntKind.i64 x3)], [[HC.int IntKind.i64 sta, HC.int IntKind.i64 spa, HC.int IntKind.i64 aca, HC.int IntKind.i64 jea, HC.int IntKind.i64 loa, HC.int IntKind.i64 hia, HC.int IntKind.i64 bla, HC.int IntKind.i64 oga, HC.int IntKind.i64 sga, HC.sl false [(4 : Nat)] pta, HC.int IntKind.i64 stb, HC.int IntKind.i64 spb, HC.int IntKind.i64 acb, HC.int IntKind.i64 jeb, HC.int IntKind.i64 lob, HC.int IntKind.i64 hib, HC.int IntKind.i64 blb, HC.int IntKind.i64 ogb, HC.int IntKind.i64 sgb, HC.sl false [(4 : Nat)] ptb, HC.int IntKind.i64 stc, HC.int IntKind.i64 spc, HC.int IntKind.i64 acc, HC.int IntKind.i64 jec, HC.int IntKind.i64 loc, HC.int IntKind.i64 hic, HC.int IntKind.i64 blc, HC.int IntKind.i64 ogc, HC.int IntKind.i64 sgc, HC.sl false [(4 : Nat)] ptc], [HC.int IntKind.i64 m0, HC.int IntKind.i64 m1, HC.int IntKind.i64 m2, HC.int IntKind.i64 t0, HC.int IntKind.i64 t1, HC.int IntKind.i64 t2], [HC.int IntKind.i64 y0, HC.int IntKind.i64 y1, HC.int IntKind.i64 y2, HC.int IntKind.i64 y3, HC.int IntKind.i64 y4, HC.int IntKind.i64 y5]])) ∧
    ((ec l (Int.toNat i) ((2 : Nat)) != (-1 : Int)) = false → (ec l (Int.toNat i) ((1 : Nat)) = (0 : Int) → ((0 : Int) ≤ (0 : Int) ∧ (0 : Int) < (3 : Int)) ∧ ((-9223372036854775808 : Int) ≤ m0 + ec l (Int.toNat i) ((2 : Nat)) ∧ m0 + ec l (Int.toNat i) ((2 : Nat)) ≤ (9223372036854775807 : Int)) ∧ ∀ (x4 : Int), x4 = m0 + ec l (Int.toNat i) ((2 : Nat)) → ((0 : Int) ≤ (0 : Int) ∧ (0 : Int) < (3 : Int)) ∧ ((0 : Int) ≤ (0 : Int) ∧ (0 : Int) < (3 : Int)) ∧ ((0 : Int) ≤ (0 : Int) ∧ (0 : Int) < (3 : Int)) ∧ ((0 : Int) ≤ (0 : Int) ∧ (0 : Int) < (3 : Int)) ∧ (okB bla ∧ ((-4611686018427387904 : Int) ≤ t0 ∧ t0 ≤ (4611686018427387904 : Int)) ∧ (-4611686018427387904 : Int) ≤ x4 ∧ x4 ≤ (4611686018427387904 : Int)) ∧ ∀ (x5 : Int), x5 = tbl bla t0 x4 → ((0 : Int) ≤ (0 : Int) ∧ (0 : Int) < (3 : Int)) ∧ ((-9223372036854775808 : Int) ≤ i + (1 : Int) ∧ i + (1 : Int) ≤ (9223372036854775807 : Int)) ∧ ∀ (x6 : Int), x6 = i + (1 : Int) →
    K HEx.normal ([HV.ce (HC.ptr (1000003 : Nat) (0 : Nat)), HV.ce (HC.ptr (1000004 : Nat) (0 : Nat)), HV.ce (HC.ptr (1000006 : Nat) (0 : Nat)), HV.ce (HC.sl false [(4 : Nat), (4 : Nat), (4 : Nat)] l), HV.ce (HC.int IntKind.i64 n), HV.ce (HC.int IntKind.i64 x6)], [[HC.int IntKind.i64 sta, HC.int IntKind.i64 spa, HC.int IntKind.i64 aca, HC.int IntKind.i64 jea, HC.int IntKind.i64 loa, HC.int IntKind.i64 hia, HC.int IntKind.i64 bla, HC.int IntKind.i64 oga, HC.int IntKind.i64 sga, HC.sl false [(4 : Nat)] pta, HC.int IntKind.i64 stb, HC.int IntKind.i64 spb, HC.int IntKind.i64 acb, HC.int IntKind.i64 jeb, HC.int IntKind.i64 lob, HC.int IntKind.i64 hib, HC.int IntKind.i64 blb, HC.int IntKind.i64 ogb, HC.int IntKind.i64 sgb, HC.sl false [(4 : Nat)] ptb, HC.int IntKind.i64 stc, HC.int IntKind.i64 spc, HC.int IntKind.i64 acc, HC.int IntKind.i64 jec, HC.int IntKind.i64 loc, HC.int IntKind.i64 hic, HC.int IntKind.i64 blc, HC.int IntKind.i64 ogc, HC.int IntKind.i64 sgc, HC.sl false [(4 : Nat)] ptc], [HC.int IntKind.i64 x4, HC.int IntKind.i64 m1, HC.int IntKind.i64 m2, HC.int IntKind.i64 x5, HC.int IntKind.i64 t1, HC.int IntKind.i64 t2], [HC.int IntKind.i64 y0, HC.int IntKind.i64 y1, HC.int IntKind.i64 y2, HC.int IntKind.i64 y3, HC.int IntKind.i64 y4, HC.int IntKind.i64 y5]])) ∧
    (ec l (Int.toNat i) ((1 : Nat)) ≠ (0 : Int) → (ec l (Int.toNat i) ((1 : Nat)) = (1 : Int) → ((0 : Int) ≤ (1 : Int) ∧ (1 : Int) < (3 : Int)) ∧ ((-9223372036854775808 : Int) ≤ m1 + ec l (Int.toNat i) ((2 : Nat)) ∧ m1 + ec l (Int.toNat i) ((2 : Nat)) ≤ (9223372036854775807 : Int)) ∧ ∀ (x7 : Int), x7 = m1 + ec l (Int.toNat i) ((2 : Nat)) → ((0 : Int) ≤ (1 : Int) ∧ (1 : Int) < (3 : Int)) ∧ ((0 : Int) ≤ (1 : Int) ∧ (1 : Int) < (3 : Int)) ∧ ((0 : Int) ≤ (1 : Int) ∧ (1 : Int) < (3 : Int)) ∧ ((0 : Int) ≤ (1 : Int) ∧ (1 : Int) < (3 : Int)) ∧ (okB blb ∧ ((-4611686018427387904 : Int) ≤ t1 ∧ t1 ≤ (4611686018427387904 : Int)) ∧ (-4611686018427387904 : Int) ≤ x7 ∧ x7 ≤ (4611686018427387904 : Int)) ∧ ∀ (x8 : Int), x8 = tbl blb t1 x7 → ((0 : Int) ≤ (1 : Int) ∧ (1 : Int) < (3 : Int)) ∧ ((-9223372036854775808 : Int) ≤ i + (1 : Int) ∧ i + (1 : Int) ≤ (9223372036854775807 : Int)) ∧ ∀ (x9 : Int), x9 = i + (1 : Int) →
    K HEx.normal ([HV.ce (HC.ptr (1000003 : Nat) (0 : Nat)), HV.ce (HC.ptr (1000004 : Nat) (0 : Nat)), HV.ce (HC.ptr (1000006 : Nat) (0 : Nat)), HV.ce (HC.sl false [(4 : Nat), (4 : Nat), (4 : Nat)] l), HV.ce (HC.int IntKind.i64 n), HV.ce (HC.int IntKind.i64 x9)], [[HC.int IntKind.i64 sta, HC.int IntKind.i64 spa, HC.int IntKind.i64 aca, HC.int IntKind.i64 jea, HC.int IntKind.i64 loa, HC.int IntKind.i64 hia, HC.int IntKind.i64 bla, HC.int IntKind.i64 oga, HC.int IntKind.i64 sga, HC.sl false [(4 : Nat)] pta, HC.int IntKind.i64 stb, HC.int IntKind.i64 spb, HC.int IntKind.i64 acb, HC.int IntKind.i64 jeb, HC.int IntKind.i64 lob, HC.int IntKind.i64 hib, HC.int IntKind.i64 blb, HC.int IntKind.i64 ogb, HC.int IntKind.i64 sgb, HC.sl false [(4 : Nat)] ptb, HC.int IntKind.i64 stc, HC.int IntKind.i64 spc, HC.int IntKind.i64 acc, HC.int IntKind.i64 jec, HC.int IntKind.i64 loc, HC.int IntKind.i64 hic, HC.int IntKind.i64 blc, HC.int IntKind.i64 ogc, HC.int IntKind.i64 sgc, HC.sl false [(4 : Nat)] ptc], [HC.int IntKind.i64 m0, HC.int IntKind.i64 x7, HC.int IntKind.i64 m2, HC.int IntKind.i64 t0, HC.int IntKind.i64 x8, HC.int IntKind.i64 t2], [HC.int IntKind.i64 y0, HC.int IntKind.i64 y1, HC.int IntKind.i64 y2, HC.int IntKind.i64 y3, HC.int IntKind.i64 y4, HC.int IntKind.i64 y5]])) ∧
    (ec l (Int.toNat i) ((1 : Nat)) ≠ (1 : Int) → (ec l (Int.toNat i) ((1 : Nat)) = (2 : Int) → ((0 : Int) ≤ (2 : Int) ∧ (2 : Int) < (3 : Int)) ∧ ((-9223372036854775808 : Int) ≤ m2 + ec l (Int.toNat i) ((2 : Nat)) ∧ m2 + ec l (Int.toNat i) ((2 : Nat)) ≤ (9223372036854775807 : Int)) ∧ ∀ (x10 : Int), x10 = m2 + ec l (Int.toNat i) ((2 : Nat)) → ((0 : Int) ≤ (2 : Int) ∧ (2 : Int) < (3 : Int)) ∧ ((0 : Int) ≤ (2 : Int) ∧ (2 : Int) < (3 : Int)) ∧ ((0 : Int) ≤ (2 : Int) ∧ (2 : Int) < (3 : Int)) ∧ ((0 : Int) ≤ (2 : Int) ∧ (2 : Int) < (3 : Int)) ∧ (okB blc ∧ ((-4611686018427387904 : Int) ≤ t2 ∧ t2 ≤ (4611686018427387904 : Int)) ∧ (-4611686018427387904 : Int) ≤ x10 ∧ x10 ≤ (4611686018427387904 : Int)) ∧ ∀ (x11 : Int), x11 = tbl blc t2 x10 → ((0 : Int) ≤ (2 : Int) ∧ (2 : Int) < (3 : Int)) ∧ ((-9223372036854775808 : Int) ≤ i + (1 : Int) ∧ i + (1 : Int) ≤ (9223372036854775807 : Int)) ∧ ∀ (x12 : Int), x12 = i + (1 : Int) →
    K HEx.normal ([HV.ce (HC.ptr (1000003 : Nat) (0 : Nat)), HV.ce (HC.ptr (1000004 : Nat) (0 : Nat)), HV.ce (HC.ptr (1000006 : Nat) (0 : Nat)), HV.ce (HC.sl false [(4 : Nat), (4 : Nat), (4 : Nat)] l), HV.ce (HC.int IntKind.i64 n), HV.ce (HC.int IntKind.i64 x12)], [[HC.int IntKind.i64 sta, HC.int IntKind.i64 spa, HC.int IntKind.i64 aca, HC.int IntKind.i64 jea, HC.int IntKind.i64 loa, HC.int IntKind.i64 hia, HC.int IntKind.i64 bla, HC.int IntKind.i64 oga, HC.int IntKind.i64 sga, HC.sl false [(4 : Nat)] pta, HC.int IntKind.i64 stb, HC.int IntKind.i64 spb, HC.int IntKind.i64 acb, HC.int IntKind.i64 jeb, HC.int IntKind.i64 lob, HC.int IntKind.i64 hib, HC.int IntKind.i64 blb, HC.int IntKind.i64 ogb, HC.int IntKind.i64 sgb, HC.sl false [(4 : Nat)] ptb, HC.int IntKind.i64 stc, HC.int IntKind.i64 spc, HC.int IntKind.i64 acc, HC.int IntKind.i64 jec, HC.int IntKind.i64 loc, HC.int IntKind.i64 hic, HC.int IntKind.i64 blc, HC.int IntKind.i64 ogc, HC.int IntKind.i64 sgc, HC.sl false [(4 : Nat)] ptc], [HC.int IntKind.i64 m0, HC.int IntKind.i64 m1, HC.int IntKind.i64 x10, HC.int IntKind.i64 t0, HC.int IntKind.i64 t1, HC.int IntKind.i64 x11], [HC.int IntKind.i64 y0, HC.int IntKind.i64 y1, HC.int IntKind.i64 y2, HC.int IntKind.i64 y3, HC.int IntKind.i64 y4, HC.int IntKind.i64 y5]])) ∧
    (ec l (Int.toNat i) ((1 : Nat)) ≠ (2 : Int) → False))))) ∧ ((ec l (Int.toNat i) ((2 : Nat)) != (1 : Int)) = false → (ec l (Int.toNat i) ((1 : Nat)) = (0 : Int) → ((0 : Int) ≤ (0 : Int) ∧ (0 : Int) < (3 : Int)) ∧ ((-9223372036854775808 : Int) ≤ m0 + ec l (Int.toNat i) ((2 : Nat)) ∧ m0 + ec l (Int.toNat i) ((2 : Nat)) ≤ (9223372036854775807 : Int)) ∧ ∀ (x13 : Int), x13 = m0 + ec l (Int.toNat i) ((2 : Nat)) → ((0 : Int) ≤ (0 : Int) ∧ (0 : Int) < (3 : Int)) ∧ ((0 : Int) ≤ (0 : Int) ∧ (0 : Int) < (3 : Int)) ∧ ((0 : Int) ≤ (0 : Int) ∧ (0 : Int) < (3 : Int)) ∧ ((0 : Int) ≤ (0 : Int) ∧ (0 : Int) < (3 : Int)) ∧ (okB bla ∧ ((-4611686018427387904 : Int) ≤ t0 ∧ t0 ≤ (4611686018427387904 : Int)) ∧ (-4611686018427387904 : Int) ≤ x13 ∧ x13 ≤ (4611686018427387904 : Int)) ∧ ∀ (x14 : Int), x14 = tbl bla t0 x13 → ((0 : Int) ≤ (0 : Int) ∧ (0 : Int) < (3 : Int)) ∧ ((-9223372036854775808 : Int) ≤ i + (1 : Int) ∧
    i + (1 : Int) ≤ (9223372036854775807 : Int)) ∧ ∀ (x15 : Int), x15 = i + (1 : Int) → K HEx.normal ([HV.ce (HC.ptr (1000003 : Nat) (0 : Nat)), HV.ce (HC.ptr (1000004 : Nat) (0 : Nat)), HV.ce (HC.ptr (1000006 : Nat) (0 : Nat)), HV.ce (HC.sl false [(4 : Nat), (4 : Nat), (4 : Nat)] l), HV.ce (HC.int IntKind.i64 n), HV.ce (HC.int IntKind.i64 x15)], [[HC.int IntKind.i64 sta, HC.int IntKind.i64 spa, HC.int IntKind.i64 aca, HC.int IntKind.i64 jea, HC.int IntKind.i64 loa, HC.int IntKind.i64 hia, HC.int IntKind.i64 bla, HC.int IntKind.i64 oga, HC.int IntKind.i64 sga, HC.sl false [(4 : Nat)] pta, HC.int IntKind.i64 stb, HC.int IntKind.i64 spb, HC.int IntKind.i64 acb, HC.int IntKind.i64 jeb, HC.int IntKind.i64 lob, HC.int IntKind.i64 hib, HC.int IntKind.i64 blb, HC.int IntKind.i64 ogb, HC.int IntKind.i64 sgb, HC.sl false [(4 : Nat)] ptb, HC.int IntKind.i64 stc, HC.int IntKind.i64 spc, HC.int IntKind.i64 acc, HC.int IntKind.i64 jec, HC.int IntKind.i64 loc, HC.int IntKind.i64 hic, HC.int IntKind.i64 blc, HC.int IntKind.i64 ogc, HC.int IntKind.i64 sgc, HC.sl false [(4 : Nat)] ptc], [HC.int IntKind.i64 x13, HC.int IntKind.i64 m1, HC.int IntKind.i64 m2, HC.int IntKind.i64 x14, HC.int IntKind.i64 t1, HC.int IntKind.i64 t2], [HC.int IntKind.i64 y0, HC.int IntKind.i64 y1, HC.int IntKind.i64 y2, HC.int IntKind.i64 y3, HC.int IntKind.i64 y4, HC.int IntKind.i64 y5]])) ∧
    (ec l (Int.toNat i) ((1 : Nat)) ≠ (0 : Int) → (ec l (Int.toNat i) ((1 : Nat)) = (1 : Int) → ((0 : Int) ≤ (1 : Int) ∧ (1 : Int) < (3 : Int)) ∧ ((-9223372036854775808 : Int) ≤ m1 + ec l (Int.toNat i) ((2 : Nat)) ∧ m1 + ec l (Int.toNat i) ((2 : Nat)) ≤ (9223372036854775807 : Int)) ∧ ∀ (x16 : Int), x16 = m1 + ec l (Int.toNat i) ((2 : Nat)) → ((0 : Int) ≤ (1 : Int) ∧ (1 : Int) < (3 : Int)) ∧ ((0 : Int) ≤ (1 : Int) ∧ (1 : Int) < (3 : Int)) ∧ ((0 : Int) ≤ (1 : Int) ∧ (1 : Int) < (3 : Int)) ∧ ((0 : Int) ≤ (1 : Int) ∧ (1 : Int) < (3 : Int)) ∧ (okB blb ∧ ((-4611686018427387904 : Int) ≤ t1 ∧ t1 ≤ (4611686018427387904 : Int)) ∧ (-4611686018427387904 : Int) ≤ x16 ∧ x16 ≤ (4611686018427387904 : Int)) ∧ ∀ (x17 : Int), x17 = tbl blb t1 x16 → ((0 : Int) ≤ (1 : Int) ∧ (1 : Int) < (3 : Int)) ∧ ((-9223372036854775808 : Int) ≤ i + (1 : Int) ∧ i + (1 : Int) ≤ (9223372036854775807 : Int)) ∧ ∀ (x18 : Int), x18 = i + (1 : Int) →
    K HEx.normal ([HV.ce (HC.ptr (1000003 : Nat) (0 : Nat)), HV.ce (HC.ptr (1000004 : Nat) (0 : Nat)), HV.ce (HC.ptr (1000006 : Nat) (0 : Nat)), HV.ce (HC.sl false [(4 : Nat), (4 : Nat), (4 : Nat)] l), HV.ce (HC.int IntKind.i64 n), HV.ce (HC.int IntKind.i64 x18)], [[HC.int IntKind.i64 sta, HC.int IntKind.i64 spa, HC.int IntKind.i64 aca, HC.int IntKind.i64 jea, HC.int IntKind.i64 loa, HC.int IntKind.i64 hia, HC.int IntKind.i64 bla, HC.int IntKind.i64 oga, HC.int IntKind.i64 sga, HC.sl false [(4 : Nat)] pta, HC.int IntKind.i64 stb, HC.int IntKind.i64 spb, HC.int IntKind.i64 acb, HC.int IntKind.i64 jeb, HC.int IntKind.i64 lob, HC.int IntKind.i64 hib, HC.int IntKind.i64 blb, HC.int IntKind.i64 ogb, HC.int IntKind.i64 sgb, HC.sl false [(4 : Nat)] ptb, HC.int IntKind.i64 stc, HC.int IntKind.i64 spc, HC.int IntKind.i64 acc, HC.int IntKind.i64 jec, HC.int IntKind.i64 loc, HC.int IntKind.i64 hic, HC.int IntKind.i64 blc, HC.int IntKind.i64 ogc, HC.int IntKind.i64 sgc, HC.sl false [(4 : Nat)] ptc], [HC.int IntKind.i64 m0, HC.int IntKind.i64 x16, HC.int IntKind.i64 m2, HC.int IntKind.i64 t0, HC.int IntKind.i64 x17, HC.int IntKind.i64 t2], [HC.int IntKind.i64 y0, HC.int IntKind.i64 y1, HC.int IntKind.i64 y2, HC.int IntKind.i64 y3, HC.int IntKind.i64 y4, HC.int IntKind.i64 y5]])) ∧
    (ec l (Int.toNat i) ((1 : Nat)) ≠ (1 : Int) → (ec l (Int.toNat i) ((1 : Nat)) = (2 : Int) → ((0 : Int) ≤ (2 : Int) ∧ (2 : Int) < (3 : Int)) ∧ ((-9223372036854775808 : Int) ≤ m2 + ec l (Int.toNat i) ((2 : Nat)) ∧ m2 + ec l (Int.toNat i) ((2 : Nat)) ≤ (9223372036854775807 : Int)) ∧ ∀ (x19 : Int), x19 = m2 + ec l (Int.toNat i) ((2 : Nat)) → ((0 : Int) ≤ (2 : Int) ∧ (2 : Int) < (3 : Int)) ∧ ((0 : Int) ≤ (2 : Int) ∧ (2 : Int) < (3 : Int)) ∧ ((0 : Int) ≤ (2 : Int) ∧ (2 : Int) < (3 : Int)) ∧ ((0 : Int) ≤ (2 : Int) ∧ (2 : Int) < (3 : Int)) ∧ (okB blc ∧ ((-4611686018427387904 : Int) ≤ t2 ∧ t2 ≤ (4611686018427387904 : Int)) ∧ (-4611686018427387904 : Int) ≤ x19 ∧ x19 ≤ (4611686018427387904 : Int)) ∧ ∀ (x20 : Int), x20 = tbl blc t2 x19 → ((0 : Int) ≤ (2 : Int) ∧ (2 : Int) < (3 : Int)) ∧ ((-9223372036854775808 : Int) ≤ i + (1 : Int) ∧ i + (1 : Int) ≤ (9223372036854775807 : Int)) ∧ ∀ (x21 : Int), x21 = i + (1 : Int) →
    K HEx.normal ([HV.ce (HC.ptr (1000003 : Nat) (0 : Nat)), HV.ce (HC.ptr (1000004 : Nat) (0 : Nat)), HV.ce (HC.ptr (1000006 : Nat) (0 : Nat)), HV.ce (HC.sl false [(4 : Nat), (4 : Nat), (4 : Nat)] l), HV.ce (HC.int IntKind.i64 n), HV.ce (HC.int IntKind.i64 x21)], [[HC.int IntKind.i64 sta, HC.int IntKind.i64 spa, HC.int IntKind.i64 aca, HC.int IntKind.i64 jea, HC.int IntKind.i64 loa, HC.int IntKind.i64 hia, HC.int IntKind.i64 bla, HC.int IntKind.i64 oga, HC.int IntKind.i64 sga, HC.sl false [(4 : Nat)] pta, HC.int IntKind.i64 stb, HC.int IntKind.i64 spb, HC.int IntKind.i64 acb, HC.int IntKind.i64 jeb, HC.int IntKind.i64 lob, HC.int IntKind.i64 hib, HC.int IntKind.i64 blb, HC.int IntKind.i64 ogb, HC.int IntKind.i64 sgb, HC.sl false [(4 : Nat)] ptb, HC.int IntKind.i64 stc, HC.int IntKind.i64 spc, HC.int IntKind.i64 acc, HC.int IntKind.i64 jec, HC.int IntKind.i64 loc, HC.int IntKind.i64 hic, HC.int IntKind.i64 blc, HC.int IntKind.i64 ogc, HC.int IntKind.i64 sgc, HC.sl false [(4 : Nat)] ptc], [HC.int IntKind.i64 m0, HC.int IntKind.i64 m1, HC.int IntKind.i64 x19, HC.int IntKind.i64 t0, HC.int IntKind.i64 t1, HC.int IntKind.i64 x20], [HC.int IntKind.i64 y0, HC.int IntKind.i64 y1, HC.int IntKind.i64 y2, HC.int IntKind.i64 y3, HC.int IntKind.i64 y4, HC.int IntKind.i64 y5]])) ∧
    (ec l (Int.toNat i) ((1 : Nat)) ≠ (2 : Int) → False))))))) ∧ (decide (i < n) = false → K (HEx.exit (0 : Nat)) ([HV.ce (HC.ptr (1000003 : Nat) (0 : Nat)), HV.ce (HC.ptr (1000004 : Nat) (0 : Nat)), HV.ce (HC.ptr (1000006 : Nat) (0 : Nat))], [[HC.int IntKind.i64 sta, HC.int IntKind.i64 spa, HC.int IntKind.i64 aca, HC.int IntKind.i64 jea, HC.int IntKind.i64 loa, HC.int IntKind.i64 hia, HC.int IntKind.i64 bla, HC.int IntKind.i64 oga, HC.int IntKind.i64 sga, HC.sl false [(4 : Nat)] pta, HC.int IntKind.i64 stb, HC.int IntKind.i64 spb, HC.int IntKind.i64 acb, HC.int IntKind.i64 jeb, HC.int IntKind.i64 lob, HC.int IntKind.i64 hib, HC.int IntKind.i64 blb, HC.int IntKind.i64 ogb, HC.int IntKind.i64 sgb, HC.sl false [(4 : Nat)] ptb, HC.int IntKind.i64 stc, HC.int IntKind.i64 spc, HC.int IntKind.i64 acc, HC.int IntKind.i64 jec, HC.int IntKind.i64 loc, HC.int IntKind.i64 hic, HC.int IntKind.i64 blc, HC.int IntKind.i64 ogc, HC.int IntKind.i64 sgc, HC.sl false [(4 : Nat)] ptc], [HC.int IntKind.i64 m0, HC.int IntKind.i64 m1, HC.int IntKind.i64 m2, HC.int IntKind.i64 t0, HC.int IntKind.i64 t1, HC.int IntKind.i64 t2], [HC.int IntKind.i64 y0, HC.int IntKind.i64 y1, HC.int IntKind.i64 y2, HC.int IntKind.i64 y3, HC.int IntKind.i64 y4, HC.int IntKind.i64 y5]]))) := by kernel_rfl
theorem vcStep (sta spa aca jea loa hia bla oga sga stb spb acb jeb lob hib blb ogb sgb stc spc acc jec loc hic blc ogc sgc : Int) (pta ptb ptc : List (List Int)) (m0 m1 m2 t0 t1 t2 : Int) (l : List (List Int)) (Q : Res → Prop) : (nfun true CStep Try.f10 (bodyOf Try.f10) [.agg [.int .i64 sta, .int .i64 spa, .int .i64 aca, .int .i64 jea, .int .i64 loa, .int .i64 hia, .int .i64 bla, .int .i64 oga, .int .i64 sga, .sl false [4] pta, .int .i64 stb, .int .i64 spb, .int .i64 acb, .int .i64 jeb, .int .i64 lob, .int .i64 hib, .int .i64 blb, .int .i64 ogb, .int .i64 sgb, .sl false [4] ptb, .int .i64 stc, .int .i64 spc, .int .i64 acc, .int .i64 jec, .int .i64 loc, .int .i64 hic, .int .i64 blc, .int .i64 ogc, .int .i64 sgc, .sl false [4] ptc], .agg [.int .i64 m0, .int .i64 m1, .int .i64 m2, .int .i64 t0, .int .i64 t1, .int .i64 t2], .ce (.sl false [4, 4, 4] l)] [] Q) =
    (((((List.length l) : Nat) : Int) = (((List.length l) : Nat) : Int) ∧ (0 : Int) = (0 : Int) ∧ (okB bla ∧ okB blb ∧ okB blc) ∧ smallPS (1152921504606846976 : Int) { m0 := m0, m1 := m1, m2 := m2, t0 := t0, t1 := t1, t2 := t2 } ∧ List.length l ≤ (1152921504606846976 : Nat)) ∧ ∀ (x : PS), x = pall bla blb blc { m0 := m0, m1 := m1, m2 := m2, t0 := t0, t1 := t1, t2 := t2 } l → Q { val := HV.agg [HC.int IntKind.i64 x.m0, HC.int IntKind.i64 x.m1, HC.int IntKind.i64 x.m2, HC.int IntKind.i64 x.t0, HC.int IntKind.i64 x.t1, HC.int IntKind.i64 x.t2], own := false, pars := [], news := [] }) := by kernel_rfl
theorem vcStep2 (sta spa aca jea loa hia bla oga sga stb spb acb jeb lob hib blb ogb sgb stc spc acc jec loc hic blc ogc sgc : Int) (pta ptb ptc : List (List Int)) (m0 m1 m2 t0 t1 t2 : Int) (l : List (List Int)) (Q : Res → Prop) : (nfun true CStep2 Try.f11 (bodyOf Try.f11) [.agg [.int .i64 sta, .int .i64 spa, .int .i64 aca, .int .i64 jea, .int .i64 loa, .int .i64 hia, .int .i64 bla, .int .i64 oga, .int .i64 sga, .sl false [4] pta, .int .i64 stb, .int .i64 spb, .int .i64 acb, .int .i64 jeb, .int .i64 lob, .int .i64 hib, .int .i64 blb, .int .i64 ogb, .int .i64 sgb, .sl false [4] ptb, .int .i64 stc, .int .i64 spc, .int .i64 acc, .int .i64 jec, .int .i64 loc, .int .i64 hic, .int .i64 blc, .int .i64 ogc, .int .i64 sgc, .sl false [4] ptc], .agg [.int .i64 m0, .int .i64 m1, .int .i64 m2, .int .i64 t0, .int .i64 t1, .int .i64 t2], .ce (.sl false [4, 4, 4] l)] [] Q) =
    (((((List.length l) : Nat) : Int) = (((List.length l) : Nat) : Int) ∧ (0 : Int) = (0 : Int) ∧ (okB bla ∧ okB blb ∧ okB blc) ∧ smallPS (1152921504606846976 : Int) { m0 := m0, m1 := m1, m2 := m2, t0 := t0, t1 := t1, t2 := t2 } ∧ List.length l ≤ (1152921504606846976 : Nat)) ∧ ∀ (x : PS), x = pall bla blb blc { m0 := m0, m1 := m1, m2 := m2, t0 := t0, t1 := t1, t2 := t2 } l → Q { val := HV.agg [HC.int IntKind.i64 x.m0, HC.int IntKind.i64 x.m1, HC.int IntKind.i64 x.m2, HC.int IntKind.i64 x.t0, HC.int IntKind.i64 x.t1, HC.int IntKind.i64 x.t2], own := false, pars := [], news := [] }) := by kernel_rfl
end Go.Proofs.Ythlkjpgkmmobfaa
namespace U
theorem tbl_bd {bl t m B : Int} (hb : okB bl) (ht : -B - 4096 ≤ t ∧ t ≤ B + 4096) (hm : -B ≤ m ∧ m ≤ B) : -B - 4096 ≤ tbl bl t m ∧ tbl bl t m ≤ B + 4096 := by
  unfold tbl okB at *
  omega
theorem small_up {B : Int} {s : PS} (h : smallPS B s) : smallPS (B + 1) s := by unfold smallPS at *; omega
theorem pstep_small {B b0 b1 b2 : Int} {s : PS} {r : List Int} (h0 : okB b0) (h1 : okB b1) (h2 : okB b2) (h : smallPS B s) : smallPS (B + 1) (pstep b0 b1 b2 s r) := by
  have hh := small_up h
  have hs := hh
  unfold pstep
  unfold smallPS at h hs
  obtain ⟨g0, g1, g2, _⟩ := h
  obtain ⟨a0, a1, a2, c0, c1, c2⟩ := hs
  generalize r.getD 2 0 = d
  generalize r.getD 1 0 = a
  by_cases hd : d = 1 ∨ d = -1
  · rw [if_pos hd]
    have m0 : -(B + 1) ≤ s.m0 + d ∧ s.m0 + d ≤ B + 1 := by omega
    have m1 : -(B + 1) ≤ s.m1 + d ∧ s.m1 + d ≤ B + 1 := by omega
    have m2 : -(B + 1) ≤ s.m2 + d ∧ s.m2 + d ≤ B + 1 := by omega
    by_cases e0 : a = 0
    · rw [if_pos e0]; exact ⟨m0, a1, a2, tbl_bd h0 c0 m0, c1, c2⟩
    rw [if_neg e0]
    by_cases e1 : a = 1
    · rw [if_pos e1]; exact ⟨a0, m1, a2, c0, tbl_bd h1 c1 m1, c2⟩
    rw [if_neg e1]
    by_cases e2 : a = 2
    · rw [if_pos e2]; exact ⟨a0, a1, m2, c0, c1, tbl_bd h2 c2 m2⟩
    rw [if_neg e2]; exact hh
  · rw [if_neg hd]; exact hh
theorem take_next {α : Type} (l : List α) {k : Nat} (hk : k < l.length) (d : α) : l.take (k + 1) = l.take k ++ [l.getD k d] := by
  rw [List.take_add_one, List.getElem?_eq_getElem hk]
  simp [List.getD_eq_getElem?_getD, hk]
theorem pall_next (b0 b1 b2 : Int) (s : PS) (l : List (List Int)) {k : Nat} (hk : k < l.length) : pall b0 b1 b2 s (l.take (k + 1)) = pstep b0 b1 b2 (pall b0 b1 b2 s (l.take k)) (l.getD k []) := by
  unfold pall
  rw [take_next l hk [], List.foldl_append]
  rfl
theorem pall_small {B b0 b1 b2 : Int} {s : PS} (h0 : okB b0) (h1 : okB b1) (h2 : okB b2) (h : smallPS B s) : ∀ l : List (List Int), smallPS (B + (l.length : Int)) (pall b0 b1 b2 s l) := by
  intro l
  induction l generalizing s B with
  | nil =>
    have e : B + (([] : List (List Int)).length : Int) = B := by simp
    rw [e]; exact h
  | cons r l ih =>
    have := ih (pstep_small (r := r) h0 h1 h2 h)
    have e : B + ((r :: l).length : Int) = B + 1 + (l.length : Int) := by simp; omega
    rw [e]
    exact this
end U
namespace Go.Proofs.Ythlkjpgkmmobfaa
open Go Go.HL U
attribute [local irreducible] hfun bodyT fragT
set_option maxHeartbeats 400000 in
set_option maxRecDepth 100000 in
theorem sTable : Sound Try.prog 16 STable := by
  refine sound_of (C := CTable) [] Try.func16 (by kernel_rfl) (by decide +kernel) (by kernel_rfl) rfl trivial (loops0 (by kernel_rfl)) ?_
  intro hargs pars R h
  unfold STable at h
  split at h
  case h_2 => exfalso; exact h
  rename_i sta spa aca jea loa hia bla oga sga pta t m
  refine byVC (vcTable sta spa aca jea loa hia bla oga sga t m pta R) ?_
  obtain ⟨⟨h1, h2, h3⟩, hq⟩ := h
  unfold okB at h1
  intro x1 e1
  refine ⟨by omega, fun x2 e2 x3 e3 => ?_⟩
  rw [e3, e2, e1]; exact hq
set_option maxHeartbeats 400000 in
set_option maxRecDepth 100000 in
theorem sTable2 : Sound Try.prog 17 STable := by
  refine sound_of (C := CTable2) [] Try.func17 (by kernel_rfl) (by decide +kernel) (by kernel_rfl) rfl trivial (loops0 (by kernel_rfl)) ?_
  intro hargs pars R h
  unfold STable at h
  split at h
  case h_2 => exfalso; exact h
  rename_i sta spa aca jea loa hia bla oga sga pta t m
  refine byVC (vcTable2 sta spa aca jea loa hia bla oga sga t m pta R) ?_
  obtain ⟨⟨h1, h2, h3⟩, hq⟩ := h
  unfold okB at h1
  intro x1 e1
  refine ⟨by omega, fun x2 e2 x3 e3 => ?_⟩
  rw [e3, e2, e1]; exact hq
set_option maxHeartbeats 400000 in
set_option maxRecDepth 100000 in
theorem sStart : Sound Try.prog 8 SStart := by
  refine sound_of (C := CStart) tabStart Try.func8 (by kernel_rfl) (by decide +kernel) (by kernel_rfl) rfl ⟨sMotor, sMotor2, trivial⟩ (loopsAll (by kernel_rfl)) ?_
  intro hargs pars R h
  unfold SStart at h
  split at h
  case h_2 => exfalso; exact h
  rename_i sta spa aca jea loa hia bla oga sga pta stb spb acb jeb lob hib blb ogb sgb ptb stc spc acc jec loc hic blc ogc sgc ptc p0 p1 p2
  refine byVC (vcStart sta spa aca jea loa hia bla oga sga stb spb acb jeb lob hib blb ogb sgb stc spc acc jec loc hic blc ogc sgc pta ptb ptc p0 p1 p2 R) ?_
  obtain ⟨⟨h0, h1, h2⟩, hq⟩ := h
  refine ⟨by decide, by decide, h0, fun x1 e1 => ⟨by decide, by decide, by decide, h1, fun x2 e2 => ⟨by decide, by decide, by decide, h2, fun x3 e3 => ⟨by decide, ?_⟩⟩⟩⟩
  rw [e1, e2, e3]; exact hq
set_option maxHeartbeats 400000 in
set_option maxRecDepth 100000 in
theorem sStart2 : Sound Try.prog 9 SStart := by
  refine sound_of (C := CStart2) tabStart Try.func9 (by kernel_rfl) (by decide +kernel) (by kernel_rfl) rfl ⟨sMotor, sMotor2, trivial⟩ (loopsAll (by kernel_rfl)) ?_
  intro hargs pars R h
  unfold SStart at h
  split at h
  case h_2 => exfalso; exact h
  rename_i sta spa aca jea loa hia bla oga sga pta stb spb acb jeb lob hib blb ogb sgb ptb stc spc acc jec loc hic blc ogc sgc ptc p0 p1 p2
  refine byVC (vcStart2 sta spa aca jea loa hia bla oga sga stb spb acb jeb lob hib blb ogb sgb stc spc acc jec loc hic blc ogc sgc pta ptb ptc p0 p1 p2 R) ?_
  obtain ⟨⟨h0, h1, h2⟩, hq⟩ := h
  refine ⟨by decide, by decide, h0, fun x1 e1 => ⟨by decide, by decide, by decide, by decide, by decide, h1, fun x2 e2 => ⟨by decide, by decide, by decide, by decide, by decide, h2, fun x3 e3 => ⟨by decide, by decide, by decide, ?_⟩⟩⟩⟩
  rw [e1, e2, e3]; exact hq
set_option maxHeartbeats 1600000 in
theorem loopStep : ∀ v Q, (LStep v).wp Q → hloop CStep anStep (nthLoop Try.f10 0) v Q := by
  intro v Q h
  unfold LStep at h
  split at h
  case h_2 => exact h.elim
  rename_i l n i bx bp bz
  split at h
  case h_2 => exact h.elim
  rename_i sta spa aca jea loa hia bla oga sga pta stb spb acb jeb lob hib blb ogb sgb ptb stc spc acc jec loc hic blc ogc sgc ptc
  split at h
  case h_2 => exact h.elim
  rename_i m0 m1 m2 t0 t1 t2 y0 y1 y2 y3 y4 y5
  obtain ⟨⟨hn, hi, ⟨b0, b1, b2⟩, hs, hl⟩, hq⟩ := h
  subst hn hi
  refine hloop_rec (σ := PS × Nat)
    (fun s => ([.ce (.ptr 1000003 0), .ce (.ptr 1000004 0), .ce (.ptr 1000006 0), .ce (.sl false [4, 4, 4] l), .ce (.int .i64 (l.length : Int)), .ce (.int .i64 (s.2 : Int))], [[.int .i64 sta, .int .i64 spa, .int .i64 aca, .int .i64 jea, .int .i64 loa, .int .i64 hia, .int .i64 bla, .int .i64 oga, .int .i64 sga, .sl false [4] pta, .int .i64 stb, .int .i64 spb, .int .i64 acb, .int .i64 jeb, .int .i64 lob, .int .i64 hib, .int .i64 blb, .int .i64 ogb, .int .i64 sgb, .sl false [4] ptb, .int .i64 stc, .int .i64 spc, .int .i64 acc, .int .i64 jec, .int .i64 loc, .int .i64 hic, .int .i64 blc, .int .i64 ogc, .int .i64 sgc, .sl false [4] ptc], [.int .i64 s.1.m0, .int .i64 s.1.m1, .int .i64 s.1.m2, .int .i64 s.1.t0, .int .i64 s.1.t1, .int .i64 s.1.t2], [.int .i64 y0, .int .i64 y1, .int .i64 y2, .int .i64 y3, .int .i64 y4, .int .i64 y5]]))
    (fun s => l.length - s.2)
    (fun s => s.2 ≤ l.length ∧ s.1 = pall bla blb blc ⟨m0, m1, m2, t0, t1, t2⟩ (l.take s.2))
    ?_ (⟨m0, m1, m2, t0, t1, t2⟩, 0) ⟨Nat.zero_le _, rfl⟩
  rintro ⟨⟨m0', m1', m2', t0', t1', t2'⟩, k⟩ ⟨hk, he⟩ K hn hx _
  dsimp only at hk he hn ⊢
  have hsm := pall_small b0 b1 b2 hs (l.take k)
  rw [← he] at hsm
  have hlt : ((l.take k).length : Int) ≤ 1152921504606846976 := by rw [List.length_take]; omega
  unfold smallPS at hsm
  dsimp only at hsm
  refine byVB (vbStep sta spa aca jea loa hia bla oga sga stb spb acb jeb lob hib blb ogb sgb stc spc acc jec loc hic blc ogc sgc pta ptb ptc m0' m1' m2' t0' t1' t2' l.length k y0 y1 y2 y3 y4 y5 l K) ⟨fun g => ?_, fun g => ?_⟩
  · have g := of_decide_eq_true g
    have hkl : k < l.length := by omega
    have fin : ∀ s' : PS, s' = pstep bla blb blc ⟨m0', m1', m2', t0', t1', t2'⟩ (l.getD k []) → ∀ x : Int, x = (k : Int) + 1 →
        K .normal ([.ce (.ptr 1000003 0), .ce (.ptr 1000004 0), .ce (.ptr 1000006 0), .ce (.sl false [4, 4, 4] l), .ce (.int .i64 (l.length : Int)), .ce (.int .i64 x)], [[.int .i64 sta, .int .i64 spa, .int .i64 aca, .int .i64 jea, .int .i64 loa, .int .i64 hia, .int .i64 bla, .int .i64 oga, .int .i64 sga, .sl false [4] pta, .int .i64 stb, .int .i64 spb, .int .i64 acb, .int .i64 jeb, .int .i64 lob, .int .i64 hib, .int .i64 blb, .int .i64 ogb, .int .i64 sgb, .sl false [4] ptb, .int .i64 stc, .int .i64 spc, .int .i64 acc, .int .i64 jec, .int .i64 loc, .int .i64 hic, .int .i64 blc, .int .i64 ogc, .int .i64 sgc, .sl false [4] ptc], [.int .i64 s'.m0, .int .i64 s'.m1, .int .i64 s'.m2, .int .i64 s'.t0, .int .i64 s'.t1, .int .i64 s'.t2], [.int .i64 y0, .int .i64 y1, .int .i64 y2, .int .i64 y3, .int .i64 y4, .int .i64 y5]]) := by
      intro s' e x ex
      have := hn (s', k + 1) ⟨hkl, by dsimp only; rw [pall_next _ _ _ _ _ hkl, ← he]; exact e⟩ (by dsimp only; omega)
      rw [ex]
      exact this
    have ea : ec l (Int.toNat (k : Int)) 1 = (l.getD k []).getD 1 0 := rfl
    have ed : ec l (Int.toNat (k : Int)) 2 = (l.getD k []).getD 2 0 := rfl
    rw [ea, ed]
    unfold pstep at fin
    generalize l.getD k [] = r at *
    generalize r.getD 1 0 = a at *
    generalize r.getD 2 0 = d at *
    have up : ∀ x : Int, x = (k : Int) + 1 → -9223372036854775808 ≤ (k : Int) + 1 ∧ (k : Int) + 1 ≤ 9223372036854775807 := fun _ _ => by omega
    refine ⟨by omega, fun h1 => ⟨by omega, fun x ex => fin ⟨m0', m1', m2', t0', t1', t2'⟩ ?_ x ex⟩, fun h1 => ⟨fun h2 => ⟨by omega, fun x ex => fin ⟨m0', m1', m2', t0', t1', t2'⟩ ?_ x ex⟩, fun h2 => ⟨fun h3 => ⟨fun h4 => ⟨by omega, fun x ex => fin ⟨m0', m1', m2', t0', t1', t2'⟩ ?_ x ex⟩, fun h4 => ?_⟩, fun h3 => ?_⟩⟩⟩
    · have h1 := of_decide_eq_true h1
      split
      · rw [if_neg (by omega), if_neg (by omega), if_neg (by omega)]
      · rfl
    · have h2 := of_decide_eq_true h2
      split
      · rw [if_neg (by omega), if_neg (by omega), if_neg (by omega)]
      · rfl
    · have h3 : d ≠ 1 := by simpa using h3
      have h4 : d ≠ -1 := by simpa using h4
      rw [if_neg (by omega)]
    all_goals
      have h1 := of_decide_eq_false h1
      have h2 := of_decide_eq_false h2
      have hd : d = 1 ∨ d = -1 := by first | exact .inl (by simpa using h3) | exact .inr (by simpa using h4)
      rw [if_pos hd] at fin
      refine ⟨fun a0 => ⟨by decide, by omega, fun x ex => ⟨by decide, by decide, by decide, by decide, ⟨b0, by omega, by omega⟩, fun y ey => ⟨by decide, by omega, fun z ez => ?_⟩⟩⟩,
        fun a0 => ⟨fun a1 => ⟨by decide, by omega, fun x ex => ⟨by decide, by decide, by decide, by decide, ⟨b1, by omega, by omega⟩, fun y ey => ⟨by decide, by omega, fun z ez => ?_⟩⟩⟩,
          fun a1 => ⟨fun a2 => ⟨by decide, by omega, fun x ex => ⟨by decide, by decide, by decide, by decide, ⟨b2, by omega, by omega⟩, fun y ey => ⟨by decide, by omega, fun z ez => ?_⟩⟩⟩, fun a2 => by omega⟩⟩⟩
      · exact fin ⟨x, m1', m2', y, t1', t2'⟩ (by rw [if_pos a0, ey, ex]) z ez
      · exact fin ⟨m0', x, m2', t0', y, t2'⟩ (by rw [if_neg a0, if_pos a1, ey, ex]) z ez
      · exact fin ⟨m0', m1', x, t0', t1', y⟩ (by rw [if_neg a0, if_neg a1, if_pos a2, ey, ex]) z ez
  · have g := of_decide_eq_false g
    have hkl : k = l.length := by omega
    have := hx 0 _ (hq ⟨m0', m1', m2', t0', t1', t2'⟩ (by rw [he, hkl, List.take_length]))
    exact this
set_option maxHeartbeats 400000 in
set_option maxRecDepth 100000 in
theorem sStep : Sound Try.prog 10 SStep := by
  refine sound_of (C := CStep) tabStep Try.func10 (by kernel_rfl) (by decide +kernel) (by kernel_rfl) rfl ⟨sTable, sTable2, trivial⟩ (loops1 (by kernel_rfl) (loopOK_of (an := anStep) (S := LStep) (by kernel_rfl) loopStep)) ?_
  intro hargs pars R h
  unfold SStep at h
  split at h
  case h_2 => exfalso; exact h
  rename_i sta spa aca jea loa hia bla oga sga pta stb spb acb jeb lob hib blb ogb sgb ptb stc spc acc jec loc hic blc ogc sgc ptc m0 m1 m2 t0 t1 t2 l
  obtain ⟨⟨h1, h2, h3⟩, _, hq⟩ := h
  exact byVC (vcStep sta spa aca jea loa hia bla oga sga stb spb acb jeb lob hib blb ogb sgb stc spc acc jec loc hic blc ogc sgc pta ptb ptc m0 m1 m2 t0 t1 t2 l R) ⟨⟨rfl, rfl, h1, h2, h3⟩, hq⟩
set_option maxHeartbeats 1600000 in
theorem loopStep2 : ∀ v Q, (LStep v).wp Q → hloop CStep2 anStep (nthLoop Try.f11 0) v Q := by
  intro v Q h
  unfold LStep at h
  split at h
  case h_2 => exact h.elim
  rename_i l n i bx bp bz
  split at h
  case h_2 => exact h.elim
  rename_i sta spa aca jea loa hia bla oga sga pta stb spb acb jeb lob hib blb ogb sgb ptb stc spc acc jec loc hic blc ogc sgc ptc
  split at h
  case h_2 => exact h.elim
  rename_i m0 m1 m2 t0 t1 t2 y0 y1 y2 y3 y4 y5
  obtain ⟨⟨hn, hi, ⟨b0, b1, b2⟩, hs, hl⟩, hq⟩ := h
  subst hn hi
  refine hloop_rec (σ := PS × Nat)
    (fun s => ([.ce (.ptr 1000003 0), .ce (.ptr 1000004 0), .ce (.ptr 1000006 0), .ce (.sl false [4, 4, 4] l), .ce (.int .i64 (l.length : Int)), .ce (.int .i64 (s.2 : Int))], [[.int .i64 sta, .int .i64 spa, .int .i64 aca, .int .i64 jea, .int .i64 loa, .int .i64 hia, .int .i64 bla, .int .i64 oga, .int .i64 sga, .sl false [4] pta, .int .i64 stb, .int .i64 spb, .int .i64 acb, .int .i64 jeb, .int .i64 lob, .int .i64 hib, .int .i64 blb, .int .i64 ogb, .int .i64 sgb, .sl false [4] ptb, .int .i64 stc, .int .i64 spc, .int .i64 acc, .int .i64 jec, .int .i64 loc, .int .i64 hic, .int .i64 blc, .int .i64 ogc, .int .i64 sgc, .sl false [4] ptc], [.int .i64 s.1.m0, .int .i64 s.1.m1, .int .i64 s.1.m2, .int .i64 s.1.t0, .int .i64 s.1.t1, .int .i64 s.1.t2], [.int .i64 y0, .int .i64 y1, .int .i64 y2, .int .i64 y3, .int .i64 y4, .int .i64 y5]]))
    (fun s => l.length - s.2)
    (fun s => s.2 ≤ l.length ∧ s.1 = pall bla blb blc ⟨m0, m1, m2, t0, t1, t2⟩ (l.take s.2))
    ?_ (⟨m0, m1, m2, t0, t1, t2⟩, 0) ⟨Nat.zero_le _, rfl⟩
  rintro ⟨⟨m0', m1', m2', t0', t1', t2'⟩, k⟩ ⟨hk, he⟩ K hn hx _
  dsimp only at hk he hn ⊢
  have hsm := pall_small b0 b1 b2 hs (l.take k)
  rw [← he] at hsm
  have hlt : ((l.take k).length : Int) ≤ 1152921504606846976 := by rw [List.length_take]; omega
  unfold smallPS at hsm
  dsimp only at hsm
  refine byVB (vbStep2 sta spa aca jea loa hia bla oga sga stb spb acb jeb lob hib blb ogb sgb stc spc acc jec loc hic blc ogc sgc pta ptb ptc m0' m1' m2' t0' t1' t2' l.length k y0 y1 y2 y3 y4 y5 l K) ⟨fun g => ?_, fun g => ?_⟩
  · have g := of_decide_eq_true g
    have hkl : k < l.length := by omega
    have fin : ∀ s' : PS, s' = pstep bla blb blc ⟨m0', m1', m2', t0', t1', t2'⟩ (l.getD k []) → ∀ x : Int, x = (k : Int) + 1 →
        K .normal ([.ce (.ptr 1000003 0), .ce (.ptr 1000004 0), .ce (.ptr 1000006 0), .ce (.sl false [4, 4, 4] l), .ce (.int .i64 (l.length : Int)), .ce (.int .i64 x)], [[.int .i64 sta, .int .i64 spa, .int .i64 aca, .int .i64 jea, .int .i64 loa, .int .i64 hia, .int .i64 bla, .int .i64 oga, .int .i64 sga, .sl false [4] pta, .int .i64 stb, .int .i64 spb, .int .i64 acb, .int .i64 jeb, .int .i64 lob, .int .i64 hib, .int .i64 blb, .int .i64 ogb, .int .i64 sgb, .sl false [4] ptb, .int .i64 stc, .int .i64 spc, .int .i64 acc, .int .i64 jec, .int .i64 loc, .int .i64 hic, .int .i64 blc, .int .i64 ogc, .int .i64 sgc, .sl false [4] ptc], [.int .i64 s'.m0, .int .i64 s'.m1, .int .i64 s'.m2, .int .i64 s'.t0, .int .i64 s'.t1, .int .i64 s'.t2], [.int .i64 y0, .int .i64 y1, .int .i64 y2, .int .i64 y3, .int .i64 y4, .int .i64 y5]]) := by
      intro s' e x ex
      have := hn (s', k + 1) ⟨hkl, by dsimp only; rw [pall_next _ _ _ _ _ hkl, ← he]; exact e⟩ (by dsimp only; omega)
      rw [ex]
      exact this
    have ea : ec l (Int.toNat (k : Int)) 1 = (l.getD k []).getD 1 0 := rfl
    have ed : ec l (Int.toNat (k : Int)) 2 = (l.getD k []).getD 2 0 := rfl
    rw [ea, ed]
    unfold pstep at fin
    generalize l.getD k [] = r at *
    generalize r.getD 1 0 = a at *
    generalize r.getD 2 0 = d at *
    have up : ∀ x : Int, x = (k : Int) + 1 → -9223372036854775808 ≤ (k : Int) + 1 ∧ (k : Int) + 1 ≤ 9223372036854775807 := fun _ _ => by omega
    refine ⟨by omega, fun h1 => ⟨by omega, fun x ex => fin ⟨m0', m1', m2', t0', t1', t2'⟩ ?_ x ex⟩, fun h1 => ⟨fun h2 => ⟨by omega, fun x ex => fin ⟨m0', m1', m2', t0', t1', t2'⟩ ?_ x ex⟩, fun h2 => ⟨fun h3 => ⟨fun h4 => ⟨by omega, fun x ex => fin ⟨m0', m1', m2', t0', t1', t2'⟩ ?_ x ex⟩, fun h4 => ?_⟩, fun h3 => ?_⟩⟩⟩
    · have h1 := of_decide_eq_true h1
      split
      · rw [if_neg (by omega), if_neg (by omega), if_neg (by omega)]
      · rfl
    · have h2 := of_decide_eq_true h2
      split
      · rw [if_neg (by omega), if_neg (by omega), if_neg (by omega)]
      · rfl
    · have h3 : d ≠ 1 := by simpa using h3
      have h4 : d ≠ -1 := by simpa using h4
      rw [if_neg (by omega)]
    all_goals
      have h1 := of_decide_eq_false h1
      have h2 := of_decide_eq_false h2
      have hd : d = 1 ∨ d = -1 := by first | exact .inl (by simpa using h3) | exact .inr (by simpa using h4)
      rw [if_pos hd] at fin
      refine ⟨fun a0 => ⟨by decide, by omega, fun x ex => ⟨by decide, by decide, by decide, by decide, ⟨b0, by omega, by omega⟩, fun y ey => ⟨by decide, by omega, fun z ez => ?_⟩⟩⟩,
        fun a0 => ⟨fun a1 => ⟨by decide, by omega, fun x ex => ⟨by decide, by decide, by decide, by decide, ⟨b1, by omega, by omega⟩, fun y ey => ⟨by decide, by omega, fun z ez => ?_⟩⟩⟩,
          fun a1 => ⟨fun a2 => ⟨by decide, by omega, fun x ex => ⟨by decide, by decide, by decide, by decide, ⟨b2, by omega, by omega⟩, fun y ey => ⟨by decide, by omega, fun z ez => ?_⟩⟩⟩, fun a2 => by omega⟩⟩⟩
      · exact fin ⟨x, m1', m2', y, t1', t2'⟩ (by rw [if_pos a0, ey, ex]) z ez
      · exact fin ⟨m0', x, m2', t0', y, t2'⟩ (by rw [if_neg a0, if_pos a1, ey, ex]) z ez
      · exact fin ⟨m0', m1', x, t0', t1', y⟩ (by rw [if_neg a0, if_neg a1, if_pos a2, ey, ex]) z ez
  · have g := of_decide_eq_false g
    have hkl : k = l.length := by omega
    have := hx 0 _ (hq ⟨m0', m1', m2', t0', t1', t2'⟩ (by rw [he, hkl, List.take_length]))
    exact this
set_option maxHeartbeats 400000 in
set_option maxRecDepth 100000 in
theorem sStep2 : Sound Try.prog 11 SStep := by
  refine sound_of (C := CStep2) tabStep Try.func11 (by kernel_rfl) (by decide +kernel) (by kernel_rfl) rfl ⟨sTable, sTable2, trivial⟩ (loops1 (by kernel_rfl) (loopOK_of (an := anStep) (S := LStep) (by kernel_rfl) loopStep2)) ?_
  intro hargs pars R h
  unfold SStep at h
  split at h
  case h_2 => exfalso; exact h
  rename_i sta spa aca jea loa hia bla oga sga pta stb spb acb jeb lob hib blb ogb sgb ptb stc spc acc jec loc hic blc ogc sgc ptc m0 m1 m2 t0 t1 t2 l
  obtain ⟨⟨h1, h2, h3⟩, _, hq⟩ := h
  exact byVC (vcStep2 sta spa aca jea loa hia bla oga sga stb spb acb jeb lob hib blb ogb sgb stc spc acc jec loc hic blc ogc sgc pta ptb ptc m0 m1 m2 t0 t1 t2 l R) ⟨⟨rfl, rfl, h1, h2, h3⟩, hq⟩
end Go.Proofs.Ythlkjpgkmmobfaa
