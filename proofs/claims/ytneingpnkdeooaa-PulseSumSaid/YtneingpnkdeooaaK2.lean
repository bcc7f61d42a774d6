/-
  Ways along a path, the reference's: directions, backlash to take up, pieces, and the way itself.
  Conditions: none.
-/
import Derived.Test.YtneingpnkdeooaaK1
set_option maxRecDepth 100000
namespace U
open Go
/-- the direction of an axis in a segment -/
def fc1 (a b m d : Int) : Int := if (b - a) * m > 0 then 1 else if (b - a) * m < 0 then -1 else d
def sl1 (a b m n : Int) : Int := if a ≠ b then max n m else n
def slk (b0 b1 b2 w0 w1 w2 d0 d1 d2 : Int) : Int := sl1 w2 d2 b2 (sl1 w1 d1 b1 (sl1 w0 d0 b0 0))
/-- the last piece with more units -/
def more (r : List Int) (u : Int) : List Int := [r.getD 0 0, r.getD 1 0 + u, r.getD 2 0, r.getD 3 0, r.getD 4 0, r.getD 5 0, r.getD 6 0, r.getD 7 0, r.getD 8 0, r.getD 9 0]
/-- a piece is added -/
def tadd (pk : List (List Int)) (ln : Int) (q : List Int) : List (List Int) × Int :=
  if 0 < pk.length ∧ q.getD 3 0 ≠ 0 ∧ ec pk (pk.length - 1) 3 = q.getD 3 0 ∧ ec pk (pk.length - 1) 7 = q.getD 7 0 ∧ ec pk (pk.length - 1) 8 = q.getD 8 0 ∧ ec pk (pk.length - 1) 9 = q.getD 9 0 then
    (pk.set (pk.length - 1) (more (pk.getD (pk.length - 1) []) (q.getD 1 0)), ln + q.getD 1 0)
  else (pk ++ [[ln, q.getD 1 0, q.getD 2 0, q.getD 3 0, q.getD 4 0, q.getD 5 0, q.getD 6 0, q.getD 7 0, q.getD 8 0, q.getD 9 0]], ln + q.getD 1 0)
end U
namespace Go.Proofs.Ytneingpnkdeooaa
open Go Go.HL U
def unrT (b : List Nat) : LAnn := ⟨[], [4], b, true⟩
def SFacing (hargs : List HV) (pars : List (List HC)) : SR :=
  match hargs, pars with
  | [.agg [.int .i64 s0, .int .i64 s1, .int .i64 s2, .sl false [4, 4, 4, 4, 4, 4, 4] sg, .sl false [4, 4, 4] mk], .agg [.int .i64 d0, .int .i64 d1, .int .i64 d2], .ce (.int .i64 i), .ce (.int .i64 m)], [] =>
    .det ((0 ≤ i ∧ i < sg.length) ∧ (m = 1 ∨ m = -1) ∧ okPts s0 s1 s2 sg ∧ sg.length ≤ 1073741824)
      ⟨.agg [.int .i64 (fc1 (bgn s0 sg 0 i) (ec sg i.toNat 0) m d0), .int .i64 (fc1 (bgn s1 sg 1 i) (ec sg i.toNat 1) m d1), .int .i64 (fc1 (bgn s2 sg 2 i) (ec sg i.toNat 2) m d2)], false, [], []⟩
  | _, _ => .fail
def tabFacing : List (FuncId × HL.Spec) := [(76, SBegin)]
noncomputable def CFacing : Ctx := ⟨Try.prog, gam tabFacing, Try.f49.ntmps, [(4000003, unrT [1000004, 1000005, 1000008, 1000009, 1000010], fun _ => .fail)], []⟩
theorem vcFacing (s0 s1 s2 d0 d1 d2 i m : Int) (sg mk : List (List Int)) (Q : Res → Prop) : (nfun true CFacing Try.f49 (bodyOf Try.f49) [.agg [.int .i64 s0, .int .i64 s1, .int .i64 s2, .sl false [4, 4, 4, 4, 4, 4, 4] sg, .sl false [4, 4, 4] mk], .agg [.int .i64 d0, .int .i64 d1, .int .i64 d2], .ce (.int .i64 i), .ce (.int .i64 m)] [] Q) =
    ((i ≤ (((List.length sg) : Nat) : Int) ∧ List.length sg ≤ (1073741824 : Nat)) ∧ ∀ (x1 : Int), x1 = bgn s0 sg (0 : Nat) i → ∀ (x2 : Int), x2 = bgn s1 sg (1 : Nat) i → ∀ (x3 : Int), x3 = bgn s2 sg (2 : Nat) i → ((0 : Int) ≤ i ∧ i < (((List.length sg) : Nat) : Int)) ∧ ((-9223372036854775808 : Int) ≤ el sg (Int.toNat i) - x1 ∧ el sg (Int.toNat i) - x1 ≤ (9223372036854775807 : Int)) ∧ ∀ (x4 : Int), x4 = el sg (Int.toNat i) - x1 → ((-9223372036854775808 : Int) ≤ x4 * m ∧ x4 * m ≤ (9223372036854775807 : Int)) ∧ ∀ (x5 : Int), x5 = x4 * m → (decide (x5 > (0 : Int)) = true → ((-9223372036854775808 : Int) ≤ ec sg (Int.toNat i) ((1 : Nat)) - x2 ∧ ec sg (Int.toNat i) ((1 : Nat)) - x2 ≤ (9223372036854775807 : Int)) ∧ ∀ (x6 : Int), x6 = ec sg (Int.toNat i) ((1 : Nat)) - x2 → ((-9223372036854775808 : Int) ≤ x6 * m ∧ x6 * m ≤ (9223372036854775807 : Int)) ∧ ∀ (x7 : Int), x7 = x6 * m → (decide (x7 > (0 : Int)) = true →
    ((-9223372036854775808 : Int) ≤ ec sg (Int.toNat i) ((2 : Nat)) - x3 ∧ ec sg (Int.toNat i) ((2 : Nat)) - x3 ≤ (9223372036854775807 : Int)) ∧ ∀ (x8 : Int), x8 = ec sg (Int.toNat i) ((2 : Nat)) - x3 → ((-9223372036854775808 : Int) ≤ x8 * m ∧ x8 * m ≤ (9223372036854775807 : Int)) ∧ ∀ (x9 : Int), x9 = x8 * m → (decide (x9 > (0 : Int)) = true → Q { val := HV.agg [HC.int IntKind.i64 (1 : Int), HC.int IntKind.i64 (1 : Int), HC.int IntKind.i64 (1 : Int)], own := false, pars := [], news := [] }) ∧ (decide (x9 > (0 : Int)) = false → (decide (x9 < (0 : Int)) = true → Q { val := HV.agg [HC.int IntKind.i64 (1 : Int), HC.int IntKind.i64 (1 : Int), HC.int IntKind.i64 (-1 : Int)], own := false, pars := [], news := [] }) ∧ (decide (x9 < (0 : Int)) = false → Q { val := HV.agg [HC.int IntKind.i64 (1 : Int), HC.int IntKind.i64 (1 : Int), HC.int IntKind.i64 d2], own := false, pars := [], news := [] }))) ∧ (decide (x7 > (0 : Int)) = false →
    (decide (x7 < (0 : Int)) = true → ((-9223372036854775808 : Int) ≤ ec sg (Int.toNat i) ((2 : Nat)) - x3 ∧ ec sg (Int.toNat i) ((2 : Nat)) - x3 ≤ (9223372036854775807 : Int)) ∧ ∀ (x10 : Int), x10 = ec sg (Int.toNat i) ((2 : Nat)) - x3 → ((-9223372036854775808 : Int) ≤ x10 * m ∧ x10 * m ≤ (9223372036854775807 : Int)) ∧ ∀ (x11 : Int), x11 = x10 * m → (decide (x11 > (0 : Int)) = true → Q { val := HV.agg [HC.int IntKind.i64 (1 : Int), HC.int IntKind.i64 (-1 : Int), HC.int IntKind.i64 (1 : Int)], own := false, pars := [], news := [] }) ∧ (decide (x11 > (0 : Int)) = false → (decide (x11 < (0 : Int)) = true → Q { val := HV.agg [HC.int IntKind.i64 (1 : Int), HC.int IntKind.i64 (-1 : Int), HC.int IntKind.i64 (-1 : Int)], own := false, pars := [], news := [] }) ∧ (decide (x11 < (0 : Int)) = false → Q { val := HV.agg [HC.int IntKind.i64 (1 : Int), HC.int IntKind.i64 (-1 : Int), HC.int IntKind.i64 d2], own := false, pars := [], news := [] }))) ∧
    (decide (x7 < (0 : Int)) = false → ((-9223372036854775808 : Int) ≤ ec sg (Int.toNat i) ((2 : Nat)) - x3 ∧ ec sg (Int.toNat i) ((2 : Nat)) - x3 ≤ (9223372036854775807 : Int)) ∧ ∀ (x12 : Int), x12 = ec sg (Int.toNat i) ((2 : Nat)) - x3 → ((-9223372036854775808 : Int) ≤ x12 * m ∧ x12 * m ≤ (9223372036854775807 : Int)) ∧ ∀ (x13 : Int), x13 = x12 * m → (decide (x13 > (0 : Int)) = true → Q { val := HV.agg [HC.int IntKind.i64 (1 : Int), HC.int IntKind.i64 d1, HC.int IntKind.i64 (1 : Int)], own := false, pars := [], news := [] }) ∧ (decide (x13 > (0 : Int)) = false → (decide (x13 < (0 : Int)) = true → Q { val := HV.agg [HC.int IntKind.i64 (1 : Int), HC.int IntKind.i64 d1, HC.int IntKind.i64 (-1 : Int)], own := false, pars := [], news := [] }) ∧ (decide (x13 < (0 : Int)) = false → Q { val := HV.agg [HC.int IntKind.i64 (1 : Int), HC.int IntKind.i64 d1, HC.int IntKind.i64 d2], own := false, pars := [], news := [] }))))) ∧
    (decide (x5 > (0 : Int)) = false → (decide (x5 < (0 : Int)) = true → ((-9223372036854775808 : Int) ≤ ec sg (Int.toNat i) ((1 : Nat)) - x2 ∧ ec sg (Int.toNat i) ((1 : Nat)) - x2 ≤ (9223372036854775807 : Int)) ∧ ∀ (x14 : Int), x14 = ec sg (Int.toNat i) ((1 : Nat)) - x2 → ((-9223372036854775808 : Int) ≤ x14 * m ∧ x14 * m ≤ (9223372036854775807 : Int)) ∧ ∀ (x15 : Int), x15 = x14 * m → (decide (x15 > (0 : Int)) = true → ((-9223372036854775808 : Int) ≤ ec sg (Int.toNat i) ((2 : Nat)) - x3 ∧ ec sg (Int.toNat i) ((2 : Nat)) - x3 ≤ (9223372036854775807 : Int)) ∧ ∀ (x16 : Int), x16 = ec sg (Int.toNat i) ((2 : Nat)) - x3 → ((-9223372036854775808 : Int) ≤ x16 * m ∧ x16 * m ≤ (9223372036854775807 : Int)) ∧ ∀ (x17 : Int), x17 = x16 * m → (decide (x17 > (0 : Int)) = true → Q { val := HV.agg [HC.int IntKind.i64 (-1 : Int), HC.int IntKind.i64 (1 : Int), HC.int IntKind.i64 (1 : Int)], own := false, pars := [], news := [] }) ∧
    (decide (x17 > (0 : Int)) = false → (decide (x17 < (0 : Int)) = true → Q { val := HV.agg [HC.int IntKind.i64 (-1 : Int), HC.int IntKind.i64 (1 : Int), HC.int IntKind.i64 (-1 : Int)], own := false, pars := [], news := [] }) ∧ (decide (x17 < (0 : Int)) = false → Q { val := HV.agg [HC.int IntKind.i64 (-1 : Int), HC.int IntKind.i64 (1 : Int), HC.int IntKind.i64 d2], own := false, pars := [], news := [] }))) ∧ (decide (x15 > (0 : Int)) = false → (decide (x15 < (0 : Int)) = true → ((-9223372036854775808 : Int) ≤ ec sg (Int.toNat i) ((2 : Nat)) - x3 ∧ ec sg (Int.toNat i) ((2 : Nat)) - x3 ≤ (9223372036854775807 : Int)) ∧ ∀ (x18 : Int), x18 = ec sg (Int.toNat i) ((2 : Nat)) - x3 → ((-9223372036854775808 : Int) ≤ x18 * m ∧ x18 * m ≤ (9223372036854775807 : Int)) ∧ ∀ (x19 : Int), x19 = x18 * m → (decide (x19 > (0 : Int)) = true → Q { val := HV.agg [HC.int IntKind.i64 (-1 : Int), HC.int IntKind.i64 (-1 : Int), HC.int IntKind.i64 (1 : Int)], own := false, pars := [], news := [] }) ∧
    (decide (x19 > (0 : Int)) = false → (decide (x19 < (0 : Int)) = true → Q { val := HV.agg [HC.int IntKind.i64 (-1 : Int), HC.int IntKind.i64 (-1 : Int), HC.int IntKind.i64 (-1 : Int)], own := false, pars := [], news := [] }) ∧ (decide (x19 < (0 : Int)) = false → Q { val := HV.agg [HC.int IntKind.i64 (-1 : Int), HC.int IntKind.i64 (-1 : Int), HC.int IntKind.i64 d2], own := false, pars := [], news := [] }))) ∧ (decide (x15 < (0 : Int)) = false → ((-9223372036854775808 : Int) ≤ ec sg (Int.toNat i) ((2 : Nat)) - x3 ∧ ec sg (Int.toNat i) ((2 : Nat)) - x3 ≤ (9223372036854775807 : Int)) ∧ ∀ (x20 : Int), x20 = ec sg (Int.toNat i) ((2 : Nat)) - x3 → ((-9223372036854775808 : Int) ≤ x20 * m ∧ x20 * m ≤ (9223372036854775807 : Int)) ∧ ∀ (x21 : Int), x21 = x20 * m → (decide (x21 > (0 : Int)) = true → Q { val := HV.agg [HC.int IntKind.i64 (-1 : Int), HC.int IntKind.i64 d1, HC.int IntKind.i64 (1 : Int)], own := false, pars := [], news := [] }) ∧
    (decide (x21 > (0 : Int)) = false → (decide (x21 < (0 : Int)) = true → Q { val := HV.agg [HC.int IntKind.i64 (-1 : Int), HC.int IntKind.i64 d1, HC.int IntKind.i64 (-1 : Int)], own := false, pars := [], news := [] }) ∧ (decide (x21 < (0 : Int)) = false → Q { val := HV.agg [HC.int IntKind.i64 (-1 : Int), HC.int IntKind.i64 d1, HC.int IntKind.i64 d2], own := false, pars := [], news := [] }))))) ∧ (decide (x5 < (0 : Int)) = false → ((-9223372036854775808 : Int) ≤ ec sg (Int.toNat i) ((1 : Nat)) - x2 ∧ ec sg (Int.toNat i) ((1 : Nat)) - x2 ≤ (9223372036854775807 : Int)) ∧ ∀ (x22 : Int), x22 = ec sg (Int.toNat i) ((1 : Nat)) - x2 → ((-9223372036854775808 : Int) ≤ x22 * m ∧ x22 * m ≤ (9223372036854775807 : Int)) ∧ ∀ (x23 : Int), x23 = x22 * m → (decide (x23 > (0 : Int)) = true → ((-9223372036854775808 : Int) ≤ ec sg (Int.toNat i) ((2 : Nat)) - x3 ∧ ec sg (Int.toNat i) ((2 : Nat)) - x3 ≤ (9223372036854775807 : Int)) ∧
    ∀ (x24 : Int), x24 = ec sg (Int.toNat i) ((2 : Nat)) - x3 → ((-9223372036854775808 : Int) ≤ x24 * m ∧ x24 * m ≤ (9223372036854775807 : Int)) ∧ ∀ (x25 : Int), x25 = x24 * m → (decide (x25 > (0 : Int)) = true → Q { val := HV.agg [HC.int IntKind.i64 d0, HC.int IntKind.i64 (1 : Int), HC.int IntKind.i64 (1 : Int)], own := false, pars := [], news := [] }) ∧ (decide (x25 > (0 : Int)) = false → (decide (x25 < (0 : Int)) = true → Q { val := HV.agg [HC.int IntKind.i64 d0, HC.int IntKind.i64 (1 : Int), HC.int IntKind.i64 (-1 : Int)], own := false, pars := [], news := [] }) ∧ (decide (x25 < (0 : Int)) = false → Q { val := HV.agg [HC.int IntKind.i64 d0, HC.int IntKind.i64 (1 : Int), HC.int IntKind.i64 d2], own := false, pars := [], news := [] }))) ∧ (decide (x23 > (0 : Int)) = false → (decide (x23 < (0 : Int)) = true → ((-9223372036854775808 : Int) ≤ ec sg (Int.toNat i) ((2 : Nat)) - x3 ∧ ec sg (Int.toNat i) ((2 : Nat)) - x3 ≤ (9223372036854775807 : Int)) ∧
    ∀ (x26 : Int), x26 = ec sg (Int.toNat i) ((2 : Nat)) - x3 → ((-9223372036854775808 : Int) ≤ x26 * m ∧ x26 * m ≤ (9223372036854775807 : Int)) ∧ ∀ (x27 : Int), x27 = x26 * m → (decide (x27 > (0 : Int)) = true → Q { val := HV.agg [HC.int IntKind.i64 d0, HC.int IntKind.i64 (-1 : Int), HC.int IntKind.i64 (1 : Int)], own := false, pars := [], news := [] }) ∧ (decide (x27 > (0 : Int)) = false → (decide (x27 < (0 : Int)) = true → Q { val := HV.agg [HC.int IntKind.i64 d0, HC.int IntKind.i64 (-1 : Int), HC.int IntKind.i64 (-1 : Int)], own := false, pars := [], news := [] }) ∧ (decide (x27 < (0 : Int)) = false → Q { val := HV.agg [HC.int IntKind.i64 d0, HC.int IntKind.i64 (-1 : Int), HC.int IntKind.i64 d2], own := false, pars := [], news := [] }))) ∧ (decide (x23 < (0 : Int)) = false → ((-9223372036854775808 : Int) ≤ ec sg (Int.toNat i) ((2 : Nat)) - x3 ∧ ec sg (Int.toNat i) ((2 : Nat)) - x3 ≤ (9223372036854775807 : Int)) ∧
    ∀ (x28 : Int), x28 = ec sg (Int.toNat i) ((2 : Nat)) - x3 → ((-9223372036854775808 : Int) ≤ x28 * m ∧ x28 * m ≤ (9223372036854775807 : Int)) ∧ ∀ (x29 : Int), x29 = x28 * m → (decide (x29 > (0 : Int)) = true → Q { val := HV.agg [HC.int IntKind.i64 d0, HC.int IntKind.i64 d1, HC.int IntKind.i64 (1 : Int)], own := false, pars := [], news := [] }) ∧ (decide (x29 > (0 : Int)) = false → (decide (x29 < (0 : Int)) = true → Q { val := HV.agg [HC.int IntKind.i64 d0, HC.int IntKind.i64 d1, HC.int IntKind.i64 (-1 : Int)], own := false, pars := [], news := [] }) ∧ (decide (x29 < (0 : Int)) = false → Q { val := HV.agg [HC.int IntKind.i64 d0, HC.int IntKind.i64 d1, HC.int IntKind.i64 d2], own := false, pars := [], news := [] }))))))) := by kernel_rfl
def SSlack (hargs : List HV) (pars : List (List HC)) : SR :=
  match hargs, pars with
  | [.agg [.int .i64 sta, .int .i64 spa, .int .i64 aca, .int .i64 jea, .int .i64 loa, .int .i64 hia, .int .i64 bla, .int .i64 oga, .int .i64 sga, .sl false [4] pta, .int .i64 stb, .int .i64 spb, .int .i64 acb, .int .i64 jeb, .int .i64 lob, .int .i64 hib, .int .i64 blb, .int .i64 ogb, .int .i64 sgb, .sl false [4] ptb, .int .i64 stc, .int .i64 spc, .int .i64 acc, .int .i64 jec, .int .i64 loc, .int .i64 hic, .int .i64 blc, .int .i64 ogc, .int .i64 sgc, .sl false [4] ptc], .agg [.int .i64 w0, .int .i64 w1, .int .i64 w2], .agg [.int .i64 d0, .int .i64 d1, .int .i64 d2]], [] =>
    .det True ⟨.ce (.int .i64 (slk bla blb blc w0 w1 w2 d0 d1 d2)), false, [], []⟩
  | _, _ => .fail
noncomputable def CSlack : Ctx := ⟨Try.prog, gam [], Try.f50.ntmps, [(4000003, unrT [1000003, 1000004, 1000005], fun _ => .fail)], []⟩
theorem vcSlack (sta spa aca jea loa hia bla oga sga stb spb acb jeb lob hib blb ogb sgb stc spc acc jec loc hic blc ogc sgc : Int) (pta ptb ptc : List (List Int)) (w0 w1 w2 d0 d1 d2 : Int) (Q : Res → Prop) : (nfun true CSlack Try.f50 (bodyOf Try.f50) [.agg [.int .i64 sta, .int .i64 spa, .int .i64 aca, .int .i64 jea, .int .i64 loa, .int .i64 hia, .int .i64 bla, .int .i64 oga, .int .i64 sga, .sl false [4] pta, .int .i64 stb, .int .i64 spb, .int .i64 acb, .int .i64 jeb, .int .i64 lob, .int .i64 hib, .int .i64 blb, .int .i64 ogb, .int .i64 sgb, .sl false [4] ptb, .int .i64 stc, .int .i64 spc, .int .i64 acc, .int .i64 jec, .int .i64 loc, .int .i64 hic, .int .i64 blc, .int .i64 ogc, .int .i64 sgc, .sl false [4] ptc], .agg [.int .i64 w0, .int .i64 w1, .int .i64 w2], .agg [.int .i64 d0, .int .i64 d1, .int .i64 d2]] [] Q) =
    (((w0 != d0) = true → ∀ (x1 : Int), x1 = max (0 : Int) bla → ((w1 != d1) = true → ∀ (x2 : Int), x2 = max x1 blb → ((w2 != d2) = true → ∀ (x3 : Int), x3 = max x2 blc → Q { val := HV.ce (HC.int IntKind.i64 x3), own := false, pars := [], news := [] }) ∧ ((w2 != d2) = false → Q { val := HV.ce (HC.int IntKind.i64 x2), own := false, pars := [], news := [] })) ∧ ((w1 != d1) = false → ((w2 != d2) = true → ∀ (x4 : Int), x4 = max x1 blc → Q { val := HV.ce (HC.int IntKind.i64 x4), own := false, pars := [], news := [] }) ∧ ((w2 != d2) = false → Q { val := HV.ce (HC.int IntKind.i64 x1), own := false, pars := [], news := [] }))) ∧ ((w0 != d0) = false → ((w1 != d1) = true → ∀ (x5 : Int), x5 = max (0 : Int) blb → ((w2 != d2) = true → ∀ (x6 : Int), x6 = max x5 blc → Q { val := HV.ce (HC.int IntKind.i64 x6), own := false, pars := [], news := [] }) ∧ ((w2 != d2) = false → Q { val := HV.ce (HC.int IntKind.i64 x5), own := false, pars := [], news := [] })) ∧
    ((w1 != d1) = false → ((w2 != d2) = true → ∀ (x7 : Int), x7 = max (0 : Int) blc → Q { val := HV.ce (HC.int IntKind.i64 x7), own := false, pars := [], news := [] }) ∧ ((w2 != d2) = false → Q { val := HV.ce (HC.int IntKind.i64 (0 : Int)), own := false, pars := [], news := [] })))) := by kernel_rfl
def SAdd (hargs : List HV) (pars : List (List HC)) : SR :=
  match hargs, pars with
  | [.ce (.ptr 0 0), .agg [.int .i64 q0, .int .i64 q1, .int .i64 q2, .int .i64 q3, .int .i64 q4, .int .i64 q5, .int .i64 q6, .int .i64 q7, .int .i64 q8, .int .i64 q9]], [[.mu [4, 4, 4, 4, 4, 4, 4, 4, 4, 4] pk, .int .i64 ln, .int .i64 sa, .int .i64 d0, .int .i64 d1, .int .i64 d2]] =>
    .all ((-2305843009213693952 ≤ q1 ∧ q1 ≤ 2305843009213693952) ∧ (-2305843009213693952 ≤ ln ∧ ln ≤ 2305843009213693952) ∧ pk.length ≤ 1000000000000 ∧ ∀ j, j < pk.length → -2305843009213693952 ≤ ec pk j 1 ∧ ec pk j 1 ≤ 2305843009213693952)
      (List (List Int) × Int) (fun x => x = tadd pk ln [q0, q1, q2, q3, q4, q5, q6, q7, q8, q9])
      (fun x => ⟨.tup [], false, [[.mu [4, 4, 4, 4, 4, 4, 4, 4, 4, 4] x.1, .int .i64 x.2, .int .i64 sa, .int .i64 d0, .int .i64 d1, .int .i64 d2]], []⟩)
  | _, _ => .fail
noncomputable def CAdd : Ctx := ⟨Try.prog, gam [], Try.f51.ntmps, [], [71, spl 1 0 0 8, spl 6 0 0 7]⟩
theorem vcAdd (q0 q1 q2 q3 q4 q5 q6 q7 q8 q9 ln sa d0 d1 d2 : Int) (pk : List (List Int)) (Q : Res → Prop) : (nfun true CAdd Try.f51 (bodyOf Try.f51) [.ce (.ptr 0 0), .agg [.int .i64 q0, .int .i64 q1, .int .i64 q2, .int .i64 q3, .int .i64 q4, .int .i64 q5, .int .i64 q6, .int .i64 q7, .int .i64 q8, .int .i64 q9]] [[.mu [4, 4, 4, 4, 4, 4, 4, 4, 4, 4] pk, .int .i64 ln, .int .i64 sa, .int .i64 d0, .int .i64 d1, .int .i64 d2]] Q) =
    ((List.length pk = (0 : Nat) → ((1 : Nat) ≤ (1 : Nat) ∧ (1 : Nat) * (80 : Nat) ≤ (140737488355328 : Nat) ∧ (1 : Nat) ≤ maxLen) ∧ (∃ (x : Nat), (1 : Nat) ≤ x ∧ x ≤ maxLen) ∧ ∀ (x : Nat), (1 : Nat) ≤ x ∧ x ≤ maxLen → ((1 : Nat) = (1 : Nat) ∧ x = x ∧ (0 : Nat) < (1 : Nat)) ∧ ((-9223372036854775808 : Int) ≤ ln + q1 ∧ ln + q1 ≤ (9223372036854775807 : Int)) ∧ ∀ (x2 : Int), x2 = ln + q1 → Q { val := HV.tup [], own := false, pars := [[HC.mu [(4 : Nat), (4 : Nat), (4 : Nat), (4 : Nat), (4 : Nat), (4 : Nat), (4 : Nat), (4 : Nat), (4 : Nat), (4 : Nat)] [[ln, q1, q2, q3, q4, q5, q6, q7, q8, q9]], HC.int IntKind.i64 x2, HC.int IntKind.i64 sa, HC.int IntKind.i64 d0, HC.int IntKind.i64 d1, HC.int IntKind.i64 d2]], news := [] }) ∧ ((0 : Nat) < List.length pk → ∀ (cap : Nat), List.length pk ≤ cap ∧ cap ≤ maxLen → (decide ((((List.length pk) : Nat) : Int) > (0 : Int)) = true → ((q3 != (0 : Int)) = true → ((-9223372036854775808 : Int) ≤ (((List.length pk) : Nat) : Int) - (1 : Int) ∧
    (((List.length pk) : Nat) : Int) - (1 : Int) ≤ (9223372036854775807 : Int)) ∧ ∀ (x4 : Int), x4 = (((List.length pk) : Nat) : Int) - (1 : Int) → ((0 : Int) ≤ x4 ∧ x4 < (((List.length pk) : Nat) : Int)) ∧ Int.toNat x4 < List.length pk ∧ ∀ (x5 : Int), x5 = ec pk (Int.toNat x4) ((3 : Nat)) → ((x5 == q3) = true → ((-9223372036854775808 : Int) ≤ (((List.length pk) : Nat) : Int) - (1 : Int) ∧ (((List.length pk) : Nat) : Int) - (1 : Int) ≤ (9223372036854775807 : Int)) ∧ ∀ (x6 : Int), x6 = (((List.length pk) : Nat) : Int) - (1 : Int) → ((0 : Int) ≤ x6 ∧ x6 < (((List.length pk) : Nat) : Int)) ∧ Int.toNat x6 < List.length pk ∧ ((ec pk (Int.toNat x6) ((7 : Nat)) == q7 && (ec pk (Int.toNat x6) ((8 : Nat)) == q8 && (ec pk (Int.toNat x6) ((9 : Nat)) == q9 && true))) = true → ((-9223372036854775808 : Int) ≤ (((List.length pk) : Nat) : Int) - (1 : Int) ∧ (((List.length pk) : Nat) : Int) - (1 : Int) ≤ (9223372036854775807 : Int)) ∧
    ∀ (x7 : Int), x7 = (((List.length pk) : Nat) : Int) - (1 : Int) → ((0 : Int) ≤ x7 ∧ x7 < (((List.length pk) : Nat) : Int)) ∧ Int.toNat x7 < List.length pk ∧ ∀ (x8 : Int), x8 = ec pk (Int.toNat x7) ((1 : Nat)) → ((-9223372036854775808 : Int) ≤ x8 + q1 ∧ x8 + q1 ≤ (9223372036854775807 : Int)) ∧ ∀ (x9 : Int), x9 = x8 + q1 → ((0 : Int) ≤ x7 ∧ x7 < (((List.length pk) : Nat) : Int)) ∧ Int.toNat x7 < List.length pk ∧ (List.length pk = List.length (List.set pk (Int.toNat x7) [bif false && true then x9 else el pk (Int.toNat x7), bif true && true then x9 else ec pk (Int.toNat x7) ((1 : Nat)), bif true && false then (0 : Int) else ec pk (Int.toNat x7) ((2 : Nat)), bif true && false then (0 : Int) else ec pk (Int.toNat x7) ((3 : Nat)), bif true && false then (0 : Int) else ec pk (Int.toNat x7) ((4 : Nat)), bif true && false then (0 : Int) else ec pk (Int.toNat x7) ((5 : Nat)), bif true && false then (0 : Int) else ec pk (Int.toNat x7) ((6 : Nat)), bif true && false then (0 : Int) else ec pk (Int.toNat x7) ((7 : Nat)), bif true && false then (0 : Int) else ec pk (Int.toNat x7) ((8 : Nat)), bif true && false then (0 : Int) else ec pk (Int.toNat x7) ((9 : Nat))]) ∧
    cap = cap ∧ (0 : Nat) < List.length (List.set pk (Int.toNat x7) [bif false && true then x9 else el pk (Int.toNat x7), bif true && true then x9 else ec pk (Int.toNat x7) ((1 : Nat)), bif true && false then (0 : Int) else ec pk (Int.toNat x7) ((2 : Nat)), bif true && false then (0 : Int) else ec pk (Int.toNat x7) ((3 : Nat)), bif true && false then (0 : Int) else ec pk (Int.toNat x7) ((4 : Nat)), bif true && false then (0 : Int) else ec pk (Int.toNat x7) ((5 : Nat)), bif true && false then (0 : Int) else ec pk (Int.toNat x7) ((6 : Nat)), bif true && false then (0 : Int) else ec pk (Int.toNat x7) ((7 : Nat)), bif true && false then (0 : Int) else ec pk (Int.toNat x7) ((8 : Nat)), bif true && false then (0 : Int) else ec pk (Int.toNat x7) ((9 : Nat))])) ∧ ((-9223372036854775808 : Int) ≤ ln + q1 ∧ ln + q1 ≤ (9223372036854775807 : Int)) ∧ ∀ (x10 : Int), x10 = ln + q1 → Q { val := HV.tup [], own := false, pars := [[HC.mu [(4 : Nat), (4 : Nat), (4 : Nat), (4 : Nat), (4 : Nat), (4 : Nat), (4 : Nat), (4 : Nat), (4 : Nat), (4 : Nat)] (List.set pk (Int.toNat x7) [bif false && true then x9 else el pk (Int.toNat x7), bif true && true then x9 else ec pk (Int.toNat x7) ((1 : Nat)), bif true && false then (0 : Int) else ec pk (Int.toNat x7) ((2 : Nat)), bif true && false then (0 : Int) else ec pk (Int.toNat x7) ((3 : Nat)), bif true && false then (0 : Int) else ec pk (Int.toNat x7) ((4 : Nat)), bif true && false then (0 : Int) else ec pk (Int.toNat x7) ((5 : Nat)), bif true && false then (0 : Int) else ec pk (Int.toNat x7) ((6 : Nat)), bif true && false then (0 : Int) else ec pk (Int.toNat x7) ((7 : Nat)), bif true && false then (0 : Int) else ec pk (Int.toNat x7) ((8 : Nat)), bif true && false then (0 : Int) else ec pk (Int.toNat x7) ((9 : Nat))]), HC.int IntKind.i64 x10, HC.int IntKind.i64 sa, HC.int IntKind.i64 d0, HC.int IntKind.i64 d1, HC.int IntKind.i64 d2]], news := [] }) ∧
    ((ec pk (Int.toNat x6) ((7 : Nat)) == q7 && (ec pk (Int.toNat x6) ((8 : Nat)) == q8 && (ec pk (Int.toNat x6) ((9 : Nat)) == q9 && true))) = false → (List.length pk = List.length pk ∧ cap = cap ∧ (List.length pk + (1 : Nat)) * (80 : Nat) ≤ (140737488355328 : Nat) ∧ List.length pk + (1 : Nat) ≤ maxLen) ∧ (∃ (x : Nat), List.length pk + (1 : Nat) ≤ x ∧ x ≤ maxLen) ∧ ∀ (x : Nat), List.length pk + (1 : Nat) ≤ x ∧ x ≤ maxLen → (List.length pk + (1 : Nat) = List.length (pk ++ [[ln, q1, q2, q3, q4, q5, q6, q7, q8, q9]]) ∧ x = x ∧ (0 : Nat) < List.length (pk ++ [[ln, q1, q2, q3, q4, q5, q6, q7, q8, q9]])) ∧ ((-9223372036854775808 : Int) ≤ ln + q1 ∧ ln + q1 ≤ (9223372036854775807 : Int)) ∧ ∀ (x12 : Int), x12 = ln + q1 → Q { val := HV.tup [], own := false, pars := [[HC.mu [(4 : Nat), (4 : Nat), (4 : Nat), (4 : Nat), (4 : Nat), (4 : Nat), (4 : Nat), (4 : Nat), (4 : Nat), (4 : Nat)] (pk ++ [[ln, q1, q2, q3, q4, q5, q6, q7, q8, q9]]), HC.int IntKind.i64 x12, HC.int IntKind.i64 sa, HC.int IntKind.i64 d0, HC.int IntKind.i64 d1, HC.int IntKind.i64 d2]], news := [] })) ∧
    ((x5 == q3) = false → (List.length pk = List.length pk ∧ cap = cap ∧ (List.length pk + (1 : Nat)) * (80 : Nat) ≤ (140737488355328 : Nat) ∧ List.length pk + (1 : Nat) ≤ maxLen) ∧ (∃ (x : Nat), List.length pk + (1 : Nat) ≤ x ∧ x ≤ maxLen) ∧ ∀ (x : Nat), List.length pk + (1 : Nat) ≤ x ∧ x ≤ maxLen → (List.length pk + (1 : Nat) = List.length (pk ++ [[ln, q1, q2, q3, q4, q5, q6, q7, q8, q9]]) ∧ x = x ∧ (0 : Nat) < List.length (pk ++ [[ln, q1, q2, q3, q4, q5, q6, q7, q8, q9]])) ∧ ((-9223372036854775808 : Int) ≤ ln + q1 ∧ ln + q1 ≤ (9223372036854775807 : Int)) ∧ ∀ (x14 : Int), x14 = ln + q1 → Q { val := HV.tup [], own := false, pars := [[HC.mu [(4 : Nat), (4 : Nat), (4 : Nat), (4 : Nat), (4 : Nat), (4 : Nat), (4 : Nat), (4 : Nat), (4 : Nat), (4 : Nat)] (pk ++ [[ln, q1, q2, q3, q4, q5, q6, q7, q8, q9]]), HC.int IntKind.i64 x14, HC.int IntKind.i64 sa, HC.int IntKind.i64 d0, HC.int IntKind.i64 d1, HC.int IntKind.i64 d2]], news := [] })) ∧
    ((q3 != (0 : Int)) = false → (List.length pk = List.length pk ∧ cap = cap ∧ (List.length pk + (1 : Nat)) * (80 : Nat) ≤ (140737488355328 : Nat) ∧ List.length pk + (1 : Nat) ≤ maxLen) ∧ (∃ (x : Nat), List.length pk + (1 : Nat) ≤ x ∧ x ≤ maxLen) ∧ ∀ (x : Nat), List.length pk + (1 : Nat) ≤ x ∧ x ≤ maxLen → (List.length pk + (1 : Nat) = List.length (pk ++ [[ln, q1, q2, q3, q4, q5, q6, q7, q8, q9]]) ∧ x = x ∧ (0 : Nat) < List.length (pk ++ [[ln, q1, q2, q3, q4, q5, q6, q7, q8, q9]])) ∧ ((-9223372036854775808 : Int) ≤ ln + q1 ∧ ln + q1 ≤ (9223372036854775807 : Int)) ∧ ∀ (x16 : Int), x16 = ln + q1 → Q { val := HV.tup [], own := false, pars := [[HC.mu [(4 : Nat), (4 : Nat), (4 : Nat), (4 : Nat), (4 : Nat), (4 : Nat), (4 : Nat), (4 : Nat), (4 : Nat), (4 : Nat)] (pk ++ [[ln, q1, q2, q3, q4, q5, q6, q7, q8, q9]]), HC.int IntKind.i64 x16, HC.int IntKind.i64 sa, HC.int IntKind.i64 d0, HC.int IntKind.i64 d1, HC.int IntKind.i64 d2]], news := [] })) ∧
    (decide ((((List.length pk) : Nat) : Int) > (0 : Int)) = false → (List.length pk = List.length pk ∧ cap = cap ∧ (List.length pk + (1 : Nat)) * (80 : Nat) ≤ (140737488355328 : Nat) ∧ List.length pk + (1 : Nat) ≤ maxLen) ∧ (∃ (x : Nat), List.length pk + (1 : Nat) ≤ x ∧ x ≤ maxLen) ∧ ∀ (x : Nat), List.length pk + (1 : Nat) ≤ x ∧ x ≤ maxLen → (List.length pk + (1 : Nat) = List.length (pk ++ [[ln, q1, q2, q3, q4, q5, q6, q7, q8, q9]]) ∧ x = x ∧ (0 : Nat) < List.length (pk ++ [[ln, q1, q2, q3, q4, q5, q6, q7, q8, q9]])) ∧ ((-9223372036854775808 : Int) ≤ ln + q1 ∧ ln + q1 ≤ (9223372036854775807 : Int)) ∧ ∀ (x18 : Int), x18 = ln + q1 → Q { val := HV.tup [], own := false, pars := [[HC.mu [(4 : Nat), (4 : Nat), (4 : Nat), (4 : Nat), (4 : Nat), (4 : Nat), (4 : Nat), (4 : Nat), (4 : Nat), (4 : Nat)] (pk ++ [[ln, q1, q2, q3, q4, q5, q6, q7, q8, q9]]), HC.int IntKind.i64 x18, HC.int IntKind.i64 sa, HC.int IntKind.i64 d0, HC.int IntKind.i64 d1, HC.int IntKind.i64 d2]], news := [] }))) := by kernel_rfl
end Go.Proofs.Ytneingpnkdeooaa
namespace U
theorem fc1_p {a b m d : Int} (h : decide ((b - a) * m > 0) = true) : 1 = fc1 a b m d := by unfold fc1; rw [if_pos (of_decide_eq_true h)]
theorem fc1_n {a b m d : Int} (h : decide ((b - a) * m > 0) = false) (h2 : decide ((b - a) * m < 0) = true) : -1 = fc1 a b m d := by unfold fc1; rw [if_neg (of_decide_eq_false h), if_pos (of_decide_eq_true h2)]
theorem fc1_z {a b m d : Int} (h : decide ((b - a) * m > 0) = false) (h2 : decide ((b - a) * m < 0) = false) : d = fc1 a b m d := by unfold fc1; rw [if_neg (of_decide_eq_false h), if_neg (of_decide_eq_false h2)]
theorem bgn_bd {s i : Int} {sg : List (List Int)} {c : Nat} (h0 : -536870912 ≤ s ∧ s ≤ 536870912) (h : ∀ j, j < sg.length → -536870912 ≤ ec sg j c ∧ ec sg j c ≤ 536870912) (hi : i ≤ sg.length) : -536870912 ≤ bgn s sg c i ∧ bgn s sg c i ≤ 536870912 := by
  unfold bgn
  by_cases hh : i ≤ 0
  · rw [if_pos hh]; exact h0
  · rw [if_neg hh]; exact h _ (by omega)
theorem sl1_t {a b m n : Int} (h : (a != b) = true) : max n m = sl1 a b m n := by unfold sl1; rw [if_pos (by simpa using h)]
theorem sl1_f {a b m n : Int} (h : (a != b) = false) : n = sl1 a b m n := by unfold sl1; rw [if_neg (by simpa using h)]
theorem tadd_app {pk : List (List Int)} {ln q0 q1 q2 q3 q4 q5 q6 q7 q8 q9 : Int} (h : ¬ (0 < pk.length ∧ q3 ≠ 0 ∧ ec pk (pk.length - 1) 3 = q3 ∧ ec pk (pk.length - 1) 7 = q7 ∧ ec pk (pk.length - 1) 8 = q8 ∧ ec pk (pk.length - 1) 9 = q9)) :
    tadd pk ln [q0, q1, q2, q3, q4, q5, q6, q7, q8, q9] = (pk ++ [[ln, q1, q2, q3, q4, q5, q6, q7, q8, q9]], ln + q1) := if_neg h
theorem tadd_more {pk : List (List Int)} {ln q0 q1 q2 q3 q4 q5 q6 q7 q8 q9 : Int} (h : 0 < pk.length ∧ q3 ≠ 0 ∧ ec pk (pk.length - 1) 3 = q3 ∧ ec pk (pk.length - 1) 7 = q7 ∧ ec pk (pk.length - 1) 8 = q8 ∧ ec pk (pk.length - 1) 9 = q9) :
    tadd pk ln [q0, q1, q2, q3, q4, q5, q6, q7, q8, q9] = (pk.set (pk.length - 1) (more (pk.getD (pk.length - 1) []) q1), ln + q1) := if_pos h
end U
namespace Go.Proofs.Ytneingpnkdeooaa
open Go Go.HL U
attribute [local irreducible] hfun bodyT fragT
set_option maxHeartbeats 400000 in
set_option maxRecDepth 100000 in
theorem sFacing : Sound Try.prog 49 SFacing := by
  refine sound_of (C := CFacing) tabFacing Try.func49 (by kernel_rfl) (by decide +kernel) (by kernel_rfl) rfl ⟨sBegin, trivial⟩ (loopsAll (by kernel_rfl)) ?_
  intro hargs pars R h
  unfold SFacing at h
  split at h
  case h_2 => exfalso; exact h
  rename_i s0 s1 s2 sg mk d0 d1 d2 i m
  obtain ⟨⟨⟨hi0, hi1⟩, hm, ⟨k0, k1, k2, kk⟩, hlen⟩, hq⟩ := h
  have hq : ∀ e0 e1 e2, e0 = fc1 (bgn s0 sg 0 i) (ec sg i.toNat 0) m d0 → e1 = fc1 (bgn s1 sg 1 i) (ec sg i.toNat 1) m d1 → e2 = fc1 (bgn s2 sg 2 i) (ec sg i.toNat 2) m d2 →
      R ⟨.agg [.int .i64 e0, .int .i64 e1, .int .i64 e2], false, [], []⟩ := fun e0 e1 e2 h0 h1 h2 => by rw [h0, h1, h2]; exact hq
  have b0 := bgn_bd (i := i) k0 (fun j hj => (kk j hj).1) (by omega)
  have b1 := bgn_bd (i := i) k1 (fun j hj => (kk j hj).2.1) (by omega)
  have b2 := bgn_bd (i := i) k2 (fun j hj => (kk j hj).2.2) (by omega)
  obtain ⟨c0, c1, c2⟩ := kk i.toNat (by omega)
  have c0 : -536870912 ≤ el sg i.toNat ∧ el sg i.toNat ≤ 536870912 := c0
  refine byVC (vcFacing s0 s1 s2 d0 d1 d2 i m sg mk R) ?_
  clear kk k0 k1 k2
  refine ⟨⟨by omega, hlen⟩, ?_⟩
  rintro _ rfl _ rfl _ rfl
  have hq : ∀ e0 e1 e2, e0 = fc1 (bgn s0 sg 0 i) (el sg i.toNat) m d0 → e1 = fc1 (bgn s1 sg 1 i) (ec sg i.toNat 1) m d1 → e2 = fc1 (bgn s2 sg 2 i) (ec sg i.toNat 2) m d2 →
      R ⟨.agg [.int .i64 e0, .int .i64 e1, .int .i64 e2], false, [], []⟩ := hq
  generalize bgn s0 sg 0 i = A0 at *
  generalize bgn s1 sg 1 i = A1 at *
  generalize bgn s2 sg 2 i = A2 at *
  generalize el sg i.toNat = B0 at *
  generalize ec sg i.toNat 1 = B1 at *
  generalize ec sg i.toNat 2 = B2 at *
  have n0 : -1073741824 ≤ (B0 - A0) * m ∧ (B0 - A0) * m ≤ 1073741824 := by rcases hm with rfl | rfl <;> omega
  have n1 : -1073741824 ≤ (B1 - A1) * m ∧ (B1 - A1) * m ≤ 1073741824 := by rcases hm with rfl | rfl <;> omega
  have n2 : -1073741824 ≤ (B2 - A2) * m ∧ (B2 - A2) * m ≤ 1073741824 := by rcases hm with rfl | rfl <;> omega
  refine ⟨⟨hi0, hi1⟩, by omega, ?_⟩
  rintro _ rfl
  refine ⟨by omega, ?_⟩
  rintro _ rfl
  unfold fc1 at hq
  generalize (B0 - A0) * m = V0 at *
  have t1 : ∀ e0, e0 = (if V0 > 0 then 1 else if V0 < 0 then -1 else d0) → ((-9223372036854775808 ≤ B1 - A1 ∧ B1 - A1 ≤ 9223372036854775807) ∧ ∀ x : Int, x = B1 - A1 → (-9223372036854775808 ≤ x * m ∧ x * m ≤ 9223372036854775807) ∧ ∀ y : Int, y = x * m → (decide (y > 0) = true → ((-9223372036854775808 ≤ B2 - A2 ∧ B2 - A2 ≤ 9223372036854775807) ∧ ∀ x : Int, x = B2 - A2 → (-9223372036854775808 ≤ x * m ∧ x * m ≤ 9223372036854775807) ∧ ∀ y : Int, y = x * m → (decide (y > 0) = true → R ⟨.agg [.int .i64 e0, .int .i64 1, .int .i64 1], false, [], []⟩) ∧ (decide (y > 0) = false → (decide (y < 0) = true → R ⟨.agg [.int .i64 e0, .int .i64 1, .int .i64 (-1)], false, [], []⟩) ∧ (decide (y < 0) = false → R ⟨.agg [.int .i64 e0, .int .i64 1, .int .i64 d2], false, [], []⟩)))) ∧ (decide (y > 0) = false → (decide (y < 0) = true → ((-9223372036854775808 ≤ B2 - A2 ∧ B2 - A2 ≤ 9223372036854775807) ∧ ∀ x : Int, x = B2 - A2 → (-9223372036854775808 ≤ x * m ∧ x * m ≤ 9223372036854775807) ∧ ∀ y : Int, y = x * m → (decide (y > 0) = true → R ⟨.agg [.int .i64 e0, .int .i64 (-1), .int .i64 1], false, [], []⟩) ∧ (decide (y > 0) = false → (decide (y < 0) = true → R ⟨.agg [.int .i64 e0, .int .i64 (-1), .int .i64 (-1)], false, [], []⟩) ∧ (decide (y < 0) = false → R ⟨.agg [.int .i64 e0, .int .i64 (-1), .int .i64 d2], false, [], []⟩)))) ∧ (decide (y < 0) = false → ((-9223372036854775808 ≤ B2 - A2 ∧ B2 - A2 ≤ 9223372036854775807) ∧ ∀ x : Int, x = B2 - A2 → (-9223372036854775808 ≤ x * m ∧ x * m ≤ 9223372036854775807) ∧ ∀ y : Int, y = x * m → (decide (y > 0) = true → R ⟨.agg [.int .i64 e0, .int .i64 d1, .int .i64 1], false, [], []⟩) ∧ (decide (y > 0) = false → (decide (y < 0) = true → R ⟨.agg [.int .i64 e0, .int .i64 d1, .int .i64 (-1)], false, [], []⟩) ∧ (decide (y < 0) = false → R ⟨.agg [.int .i64 e0, .int .i64 d1, .int .i64 d2], false, [], []⟩)))))) := by
    intro e0 h0
    refine ⟨by omega, ?_⟩
    rintro _ rfl
    refine ⟨by omega, ?_⟩
    rintro _ rfl
    generalize (B1 - A1) * m = V1 at *
    have t2 : ∀ e1, e1 = (if V1 > 0 then 1 else if V1 < 0 then -1 else d1) → ((-9223372036854775808 ≤ B2 - A2 ∧ B2 - A2 ≤ 9223372036854775807) ∧ ∀ x : Int, x = B2 - A2 → (-9223372036854775808 ≤ x * m ∧ x * m ≤ 9223372036854775807) ∧ ∀ y : Int, y = x * m → (decide (y > 0) = true → R ⟨.agg [.int .i64 e0, .int .i64 e1, .int .i64 1], false, [], []⟩) ∧ (decide (y > 0) = false → (decide (y < 0) = true → R ⟨.agg [.int .i64 e0, .int .i64 e1, .int .i64 (-1)], false, [], []⟩) ∧ (decide (y < 0) = false → R ⟨.agg [.int .i64 e0, .int .i64 e1, .int .i64 d2], false, [], []⟩))) := by
      intro e1 h1
      refine ⟨by omega, ?_⟩
      rintro _ rfl
      refine ⟨by omega, ?_⟩
      rintro _ rfl
      generalize (B2 - A2) * m = V2 at *
      refine ⟨fun g => hq _ _ _ h0 h1 ?_, fun g => ⟨fun g2 => hq _ _ _ h0 h1 ?_, fun g2 => hq _ _ _ h0 h1 ?_⟩⟩
      · rw [if_pos (of_decide_eq_true g)]
      · rw [if_neg (of_decide_eq_false g), if_pos (of_decide_eq_true g2)]
      · rw [if_neg (of_decide_eq_false g), if_neg (of_decide_eq_false g2)]
    refine ⟨fun g => t2 _ ?_, fun g => ⟨fun g2 => t2 _ ?_, fun g2 => t2 _ ?_⟩⟩
    · rw [if_pos (of_decide_eq_true g)]
    · rw [if_neg (of_decide_eq_false g), if_pos (of_decide_eq_true g2)]
    · rw [if_neg (of_decide_eq_false g), if_neg (of_decide_eq_false g2)]
  refine ⟨fun g => t1 _ ?_, fun g => ⟨fun g2 => t1 _ ?_, fun g2 => t1 _ ?_⟩⟩
  · rw [if_pos (of_decide_eq_true g)]
  · rw [if_neg (of_decide_eq_false g), if_pos (of_decide_eq_true g2)]
  · rw [if_neg (of_decide_eq_false g), if_neg (of_decide_eq_false g2)]
set_option maxHeartbeats 400000 in
set_option maxRecDepth 100000 in
theorem sSlack : Sound Try.prog 50 SSlack := by
  refine sound_of (C := CSlack) [] Try.func50 (by kernel_rfl) (by decide +kernel) (by kernel_rfl) rfl trivial (loopsAll (by kernel_rfl)) ?_
  intro hargs pars R h
  unfold SSlack at h
  split at h
  case h_2 => exfalso; exact h
  rename_i sta spa aca jea loa hia bla oga sga pta stb spb acb jeb lob hib blb ogb sgb ptb stc spc acc jec loc hic blc ogc sgc ptc w0 w1 w2 d0 d1 d2
  obtain ⟨_, hq⟩ := h
  have hq : ∀ e0 e1 e2, e0 = sl1 w0 d0 bla 0 → e1 = sl1 w1 d1 blb e0 → e2 = sl1 w2 d2 blc e1 → R ⟨.ce (.int .i64 e2), false, [], []⟩ := fun e0 e1 e2 h0 h1 h2 => by rw [h2, h1, h0]; exact hq
  refine byVC (vcSlack sta spa aca jea loa hia bla oga sga stb spb acb jeb lob hib blb ogb sgb stc spc acc jec loc hic blc ogc sgc pta ptb ptc w0 w1 w2 d0 d1 d2 R) ?_
  repeat' first | apply And.intro | (rintro _ rfl) | intro _
  all_goals first
    | exact hq _ _ _ (by first | exact sl1_t (by assumption) | exact sl1_f (by assumption)) (by first | exact sl1_t (by assumption) | exact sl1_f (by assumption)) (by first | exact sl1_t (by assumption) | exact sl1_f (by assumption))
    | omega
set_option maxHeartbeats 400000 in
set_option maxRecDepth 100000 in
theorem sAdd : Sound Try.prog 51 SAdd := by
  refine sound_of (C := CAdd) [] Try.func51 (by kernel_rfl) (by decide +kernel) (by kernel_rfl) rfl trivial (loops0 (by kernel_rfl)) ?_
  intro hargs pars R h
  unfold SAdd at h
  split at h
  case h_2 => exfalso; exact h
  rename_i q0 q1 q2 q3 q4 q5 q6 q7 q8 q9 pk ln sa d0 d1 d2
  obtain ⟨⟨hq1, hln, hlen, hpk⟩, _, hq⟩ := h
  have app : ¬ (0 < pk.length ∧ q3 ≠ 0 ∧ ec pk (pk.length - 1) 3 = q3 ∧ ec pk (pk.length - 1) 7 = q7 ∧ ec pk (pk.length - 1) 8 = q8 ∧ ec pk (pk.length - 1) 9 = q9) → ∀ x : Int, x = ln + q1 →
      R ⟨.tup [], false, [[.mu [4, 4, 4, 4, 4, 4, 4, 4, 4, 4] (pk ++ [[ln, q1, q2, q3, q4, q5, q6, q7, q8, q9]]), .int .i64 x, .int .i64 sa, .int .i64 d0, .int .i64 d1, .int .i64 d2]], []⟩ := by
    intro hh x e
    have := hq _ rfl
    rw [tadd_app hh] at this
    rw [e]
    exact this
  have grow : ∀ cap : Nat, pk.length ≤ cap → (pk.length = pk.length ∧ cap = cap ∧ (pk.length + 1) * 80 ≤ 140737488355328 ∧ pk.length + 1 ≤ maxLen) ∧ (∃ x : Nat, pk.length + 1 ≤ x ∧ x ≤ maxLen) := fun cap _ =>
    ⟨⟨rfl, rfl, by omega, by unfold maxLen; omega⟩, ⟨pk.length + 1, Nat.le_refl _, by unfold maxLen; omega⟩⟩
  have room : ∀ x : Nat, (pk.length + 1 = (pk ++ [[ln, q1, q2, q3, q4, q5, q6, q7, q8, q9]]).length ∧ x = x ∧ 0 < (pk ++ [[ln, q1, q2, q3, q4, q5, q6, q7, q8, q9]]).length) := fun x => by simp
  refine byVC (vcAdd q0 q1 q2 q3 q4 q5 q6 q7 q8 q9 ln sa d0 d1 d2 pk R) ⟨fun h0 => ?_, fun h0 cap hcap => ⟨fun g1 => ⟨fun g2 => ⟨by omega, fun x4 e4 => ⟨by omega, by omega, fun x5 e5 => ⟨fun g3 => ⟨by omega, fun x6 e6 => ⟨by omega, by omega, fun g4 => ?_, fun g4 => ?_⟩⟩, fun g3 => ?_⟩⟩⟩, fun g2 => ?_⟩, fun g1 => ?_⟩⟩
  · obtain rfl : pk = [] := List.eq_nil_of_length_eq_zero h0
    refine ⟨⟨by decide, by decide, by unfold maxLen; decide⟩, ⟨1, by decide, by unfold maxLen; decide⟩, fun x hx => ⟨⟨rfl, rfl, by decide⟩, by omega, fun x2 e2 => ?_⟩⟩
    exact app (fun hh => absurd hh.1 (by decide)) x2 e2
  · have g2 : q3 ≠ 0 := by simpa using g2
    have g3 : x5 = q3 := by simpa using g3
    have ht : x4.toNat = pk.length - 1 := by omega
    have ht6 : x6.toNat = pk.length - 1 := by omega
    rw [ht] at e5
    rw [ht6] at g4
    have g4 : ec pk (pk.length - 1) 7 = q7 ∧ ec pk (pk.length - 1) 8 = q8 ∧ ec pk (pk.length - 1) 9 = q9 := by simpa using g4
    have hb := hpk (pk.length - 1) (by omega)
    refine ⟨by omega, fun x7 e7 => ?_⟩
    have ht7 : x7.toNat = pk.length - 1 := by omega
    rw [ht7]
    refine ⟨by omega, by omega, fun x8 e8 => ⟨by omega, fun x9 e9 => ⟨by omega, by omega, ⟨by rw [List.length_set], rfl, by rw [List.length_set]; exact h0⟩, by omega, fun x10 e10 => ?_⟩⟩⟩
    have := hq _ rfl
    rw [tadd_more ⟨h0, g2, by rw [← e5]; exact g3, g4⟩] at this
    rw [e10, e9, e8]
    exact this
  · have no : ¬ (ec pk (pk.length - 1) 7 = q7 ∧ ec pk (pk.length - 1) 8 = q8 ∧ ec pk (pk.length - 1) 9 = q9) := fun hh => by
      have ht6 : x6.toNat = pk.length - 1 := by omega
      rw [ht6, hh.1, hh.2.1, hh.2.2] at g4
      simp at g4
    exact ⟨(grow cap hcap.1).1, (grow cap hcap.1).2, fun x hx => ⟨room x, by omega, fun x12 e12 => app (fun hh => no hh.2.2.2) x12 e12⟩⟩
  · have no : ¬ ec pk (pk.length - 1) 3 = q3 := fun hh => by
      have ht : x4.toNat = pk.length - 1 := by omega
      rw [ht, hh] at e5
      rw [e5] at g3
      simp at g3
    exact ⟨(grow cap hcap.1).1, (grow cap hcap.1).2, fun x hx => ⟨room x, by omega, fun x12 e12 => app (fun hh => no hh.2.2.1) x12 e12⟩⟩
  · have no : ¬ q3 ≠ 0 := by simpa using g2
    exact ⟨(grow cap hcap.1).1, (grow cap hcap.1).2, fun x hx => ⟨room x, by omega, fun x12 e12 => app (fun hh => no hh.2.1) x12 e12⟩⟩
  · have g1 := of_decide_eq_false g1
    omega
end Go.Proofs.Ytneingpnkdeooaa
