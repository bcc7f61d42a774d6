/-
  Part 6 of the texts that the law needs, merged: a value-level calculus of the code (HL), the contracts of the functions, and their proofs.
  Conditions: none.
-/
import Derived.Test.YtneingpnkdeooaaPRetraceTurn5
set_option maxRecDepth 100000
set_option linter.unusedVariables false
set_option linter.unusedSimpArgs false
namespace U
open Go
def nl (a b : List Nat) : Prop := a = b
def tn1 (a b m d : Int) : Int := if b > a then m else if b < a then -m else d
def vis (b0 b1 b2 m s n n0 n1 n2 : Int) (pk : List (List Int)) (ln a0 a1 a2 : Int) : List (List Int) × Int :=
  tadd (legTk pk ln (slk b0 b1 b2 a0 a1 a2 n0 n1 n2) s a0 a1 a2 n0 n1 n2).1 (legTk pk ln (slk b0 b1 b2 a0 a1 a2 n0 n1 n2) s a0 a1 a2 n0 n1 n2).2 [0, n, s, m, n0, n1, n2, n0, n1, n2]
end U
namespace Go.Proofs.Ytneingpnkdeooaa
open Go Go.HL U
def STnd (hargs : List HV) (pars : List (List HC)) : SR :=
  match hargs, pars with
  | [.agg [.int .i64 d0, .int .i64 d1, .int .i64 d2], .agg [.int .i64 a0, .int .i64 a1, .int .i64 a2], .agg [.int .i64 b0, .int .i64 b1, .int .i64 b2], .ce (.int .i64 m)], [] =>
    .det (m = 1 ∨ m = -1) ⟨.agg [.int .i64 (tn1 a0 b0 m d0), .int .i64 (tn1 a1 b1 m d1), .int .i64 (tn1 a2 b2 m d2)], false, [], []⟩
  | _, _ => .fail
noncomputable def CTnd : Ctx := ⟨Try.prog, gam [], Try.f55.ntmps, [(4000002, unrT [1000004, 1000005, 1000006, 1000008], fun _ => .fail)], []⟩
theorem vcTnd (d0 d1 d2 a0 a1 a2 b0 b1 b2 m : Int) (Q : Res → Prop) : (nfun true CTnd Try.f55 (bodyOf Try.f55) [.agg [.int .i64 d0, .int .i64 d1, .int .i64 d2], .agg [.int .i64 a0, .int .i64 a1, .int .i64 a2], .agg [.int .i64 b0, .int .i64 b1, .int .i64 b2], .ce (.int .i64 m)] [] Q) =
    ((decide (b0 > a0) = true → (decide (b1 > a1) = true → (decide (b2 > a2) = true → Q ⟨.agg [.int .i64 m, .int .i64 m, .int .i64 m], false, [], []⟩) ∧ (decide (b2 > a2) = false → (decide (b2 < a2) = true → (-9223372036854775808 ≤ (0 : Int) - m ∧ (0 : Int) - m ≤ 9223372036854775807) ∧ ∀ (x1 : Int), x1 = 0 - m → Q ⟨.agg [.int .i64 m, .int .i64 m, .int .i64 x1], false, [], []⟩) ∧ (decide (b2 < a2) = false → Q ⟨.agg [.int .i64 m, .int .i64 m, .int .i64 d2], false, [], []⟩))) ∧ (decide (b1 > a1) = false → (decide (b1 < a1) = true → (-9223372036854775808 ≤ (0 : Int) - m ∧ (0 : Int) - m ≤ 9223372036854775807) ∧ ∀ (x2 : Int), x2 = 0 - m → (decide (b2 > a2) = true → Q ⟨.agg [.int .i64 m, .int .i64 x2, .int .i64 m], false, [], []⟩) ∧ (decide (b2 > a2) = false → (decide (b2 < a2) = true → (-9223372036854775808 ≤ (0 : Int) - m ∧ (0 : Int) - m ≤ 9223372036854775807) ∧ ∀ (x3 : Int), x3 = 0 - m → Q ⟨.agg [.int .i64 m, .int .i64 x2, .int .i64 x3], false, [], []⟩) ∧
    (decide (b2 < a2) = false → Q ⟨.agg [.int .i64 m, .int .i64 x2, .int .i64 d2], false, [], []⟩))) ∧ (decide (b1 < a1) = false → (decide (b2 > a2) = true → Q ⟨.agg [.int .i64 m, .int .i64 d1, .int .i64 m], false, [], []⟩) ∧ (decide (b2 > a2) = false → (decide (b2 < a2) = true → (-9223372036854775808 ≤ (0 : Int) - m ∧ (0 : Int) - m ≤ 9223372036854775807) ∧ ∀ (x4 : Int), x4 = 0 - m → Q ⟨.agg [.int .i64 m, .int .i64 d1, .int .i64 x4], false, [], []⟩) ∧ (decide (b2 < a2) = false → Q ⟨.agg [.int .i64 m, .int .i64 d1, .int .i64 d2], false, [], []⟩))))) ∧ (decide (b0 > a0) = false → (decide (b0 < a0) = true → (-9223372036854775808 ≤ (0 : Int) - m ∧ (0 : Int) - m ≤ 9223372036854775807) ∧ ∀ (x5 : Int), x5 = 0 - m → (decide (b1 > a1) = true → (decide (b2 > a2) = true → Q ⟨.agg [.int .i64 x5, .int .i64 m, .int .i64 m], false, [], []⟩) ∧ (decide (b2 > a2) = false → (decide (b2 < a2) = true → (-9223372036854775808 ≤ (0 : Int) - m ∧
    (0 : Int) - m ≤ 9223372036854775807) ∧ ∀ (x6 : Int), x6 = 0 - m → Q ⟨.agg [.int .i64 x5, .int .i64 m, .int .i64 x6], false, [], []⟩) ∧ (decide (b2 < a2) = false → Q ⟨.agg [.int .i64 x5, .int .i64 m, .int .i64 d2], false, [], []⟩))) ∧ (decide (b1 > a1) = false → (decide (b1 < a1) = true → (-9223372036854775808 ≤ (0 : Int) - m ∧ (0 : Int) - m ≤ 9223372036854775807) ∧ ∀ (x7 : Int), x7 = 0 - m → (decide (b2 > a2) = true → Q ⟨.agg [.int .i64 x5, .int .i64 x7, .int .i64 m], false, [], []⟩) ∧ (decide (b2 > a2) = false → (decide (b2 < a2) = true → (-9223372036854775808 ≤ (0 : Int) - m ∧ (0 : Int) - m ≤ 9223372036854775807) ∧ ∀ (x8 : Int), x8 = 0 - m → Q ⟨.agg [.int .i64 x5, .int .i64 x7, .int .i64 x8], false, [], []⟩) ∧ (decide (b2 < a2) = false → Q ⟨.agg [.int .i64 x5, .int .i64 x7, .int .i64 d2], false, [], []⟩))) ∧ (decide (b1 < a1) = false → (decide (b2 > a2) = true → Q ⟨.agg [.int .i64 x5, .int .i64 d1, .int .i64 m], false, [], []⟩) ∧
    (decide (b2 > a2) = false → (decide (b2 < a2) = true → (-9223372036854775808 ≤ (0 : Int) - m ∧ (0 : Int) - m ≤ 9223372036854775807) ∧ ∀ (x9 : Int), x9 = 0 - m → Q ⟨.agg [.int .i64 x5, .int .i64 d1, .int .i64 x9], false, [], []⟩) ∧ (decide (b2 < a2) = false → Q ⟨.agg [.int .i64 x5, .int .i64 d1, .int .i64 d2], false, [], []⟩))))) ∧ (decide (b0 < a0) = false → (decide (b1 > a1) = true → (decide (b2 > a2) = true → Q ⟨.agg [.int .i64 d0, .int .i64 m, .int .i64 m], false, [], []⟩) ∧ (decide (b2 > a2) = false → (decide (b2 < a2) = true → (-9223372036854775808 ≤ (0 : Int) - m ∧ (0 : Int) - m ≤ 9223372036854775807) ∧ ∀ (x10 : Int), x10 = 0 - m → Q ⟨.agg [.int .i64 d0, .int .i64 m, .int .i64 x10], false, [], []⟩) ∧ (decide (b2 < a2) = false → Q ⟨.agg [.int .i64 d0, .int .i64 m, .int .i64 d2], false, [], []⟩))) ∧ (decide (b1 > a1) = false → (decide (b1 < a1) = true → (-9223372036854775808 ≤ (0 : Int) - m ∧
    (0 : Int) - m ≤ 9223372036854775807) ∧ ∀ (x11 : Int), x11 = 0 - m → (decide (b2 > a2) = true → Q ⟨.agg [.int .i64 d0, .int .i64 x11, .int .i64 m], false, [], []⟩) ∧ (decide (b2 > a2) = false → (decide (b2 < a2) = true → (-9223372036854775808 ≤ (0 : Int) - m ∧ (0 : Int) - m ≤ 9223372036854775807) ∧ ∀ (x12 : Int), x12 = 0 - m → Q ⟨.agg [.int .i64 d0, .int .i64 x11, .int .i64 x12], false, [], []⟩) ∧ (decide (b2 < a2) = false → Q ⟨.agg [.int .i64 d0, .int .i64 x11, .int .i64 d2], false, [], []⟩))) ∧ (decide (b1 < a1) = false → (decide (b2 > a2) = true → Q ⟨.agg [.int .i64 d0, .int .i64 d1, .int .i64 m], false, [], []⟩) ∧ (decide (b2 > a2) = false → (decide (b2 < a2) = true → (-9223372036854775808 ≤ (0 : Int) - m ∧ (0 : Int) - m ≤ 9223372036854775807) ∧ ∀ (x13 : Int), x13 = 0 - m → Q ⟨.agg [.int .i64 d0, .int .i64 d1, .int .i64 x13], false, [], []⟩) ∧ (decide (b2 < a2) = false → Q ⟨.agg [.int .i64 d0, .int .i64 d1, .int .i64 d2], false, [], []⟩))))))) := by kernel_rfl
noncomputable def CTake : Ctx := ⟨Try.prog, gam [], Try.f56.ntmps, [(4000003, unrT [1000003, 1000004, 1000005], fun _ => .fail)], []⟩
theorem vcTake (sta spa aca jea loa hia bla oga sga stb spb acb jeb lob hib blb ogb sgb stc spc acc jec loc hic blc ogc sgc : Int) (pta ptb ptc : List (List Int)) (w0 w1 w2 d0 d1 d2 : Int) (Q : Res → Prop) : (nfun true CTake Try.f56 (bodyOf Try.f56) [.agg [.int .i64 sta, .int .i64 spa, .int .i64 aca, .int .i64 jea, .int .i64 loa, .int .i64 hia, .int .i64 bla, .int .i64 oga, .int .i64 sga, .sl false [4] pta, .int .i64 stb, .int .i64 spb, .int .i64 acb, .int .i64 jeb, .int .i64 lob, .int .i64 hib, .int .i64 blb, .int .i64 ogb, .int .i64 sgb, .sl false [4] ptb, .int .i64 stc, .int .i64 spc, .int .i64 acc, .int .i64 jec, .int .i64 loc, .int .i64 hic, .int .i64 blc, .int .i64 ogc, .int .i64 sgc, .sl false [4] ptc], .agg [.int .i64 w0, .int .i64 w1, .int .i64 w2], .agg [.int .i64 d0, .int .i64 d1, .int .i64 d2]] [] Q) =
    (((w0 != d0) = true → ∀ (x1 : Int), x1 = max (0 : Int) bla → ((w1 != d1) = true → ∀ (x2 : Int), x2 = max x1 blb → ((w2 != d2) = true → ∀ (x3 : Int), x3 = max x2 blc → Q ⟨.ce (.int .i64 x3), false, [], []⟩) ∧ ((w2 != d2) = false → Q ⟨.ce (.int .i64 x2), false, [], []⟩)) ∧ ((w1 != d1) = false → ((w2 != d2) = true → ∀ (x4 : Int), x4 = max x1 blc → Q ⟨.ce (.int .i64 x4), false, [], []⟩) ∧ ((w2 != d2) = false → Q ⟨.ce (.int .i64 x1), false, [], []⟩))) ∧ ((w0 != d0) = false → ((w1 != d1) = true → ∀ (x5 : Int), x5 = max (0 : Int) blb → ((w2 != d2) = true → ∀ (x6 : Int), x6 = max x5 blc → Q ⟨.ce (.int .i64 x6), false, [], []⟩) ∧ ((w2 != d2) = false → Q ⟨.ce (.int .i64 x5), false, [], []⟩)) ∧ ((w1 != d1) = false → ((w2 != d2) = true → ∀ (x7 : Int), x7 = max (0 : Int) blc → Q ⟨.ce (.int .i64 x7), false, [], []⟩) ∧ ((w2 != d2) = false → Q ⟨.ce (.int .i64 0), false, [], []⟩)))) := by kernel_rfl
def SLeg1 (hargs : List HV) (pars : List (List HC)) : SR :=
  match hargs, pars with
  | [.agg [.int .i64 q0, .int .i64 q1, .int .i64 q2, .int .i64 q3, .int .i64 q4, .int .i64 q5, .int .i64 q6, .int .i64 q7, .int .i64 q8, .int .i64 q9], .ce (.ptr 0 0)], [[.mu [4, 4, 4, 4, 4, 4, 4, 4, 4, 4] pk, .int .i64 ln, .int .i64 sa, .int .i64 d0, .int .i64 d1, .int .i64 d2]] =>
    .all ((-2305843009213693952 ≤ q1 ∧ q1 ≤ 2305843009213693952) ∧ (-2305843009213693952 ≤ ln ∧ ln ≤ 2305843009213693952) ∧ pk.length ≤ 1000000000000 ∧ ∀ j, j < pk.length → -2305843009213693952 ≤ ec pk j 1 ∧ ec pk j 1 ≤ 2305843009213693952)
      (List (List Int) × Int) (fun x => x = tadd pk ln [q0, q1, q2, q3, q4, q5, q6, q7, q8, q9])
      (fun x => ⟨.tup [], false, [[.mu [4, 4, 4, 4, 4, 4, 4, 4, 4, 4] x.1, .int .i64 x.2, .int .i64 sa, .int .i64 d0, .int .i64 d1, .int .i64 d2]], []⟩)
  | _, _ => .fail
noncomputable def CLeg1 : Ctx := ⟨Try.prog, gam [], Try.f53.ntmps, [], [57, spl 1 0 0 8, spl 6 0 0 7]⟩
theorem vcLeg1 (q0 q1 q2 q3 q4 q5 q6 q7 q8 q9 ln sa d0 d1 d2 : Int) (pk : List (List Int)) (Q : Res → Prop) : (nfun true CLeg1 Try.f53 (bodyOf Try.f53) [.agg [.int .i64 q0, .int .i64 q1, .int .i64 q2, .int .i64 q3, .int .i64 q4, .int .i64 q5, .int .i64 q6, .int .i64 q7, .int .i64 q8, .int .i64 q9], .ce (.ptr 0 0)] [[.mu [4, 4, 4, 4, 4, 4, 4, 4, 4, 4] pk, .int .i64 ln, .int .i64 sa, .int .i64 d0, .int .i64 d1, .int .i64 d2]] Q) =
    ((List.length pk = (0 : Nat) → ((1 : Nat) ≤ (1 : Nat) ∧ (1 : Nat) * (80 : Nat) ≤ (140737488355328 : Nat) ∧ (1 : Nat) ≤ maxLen) ∧ (∃ (x : Nat), (1 : Nat) ≤ x ∧ x ≤ maxLen) ∧ ∀ (x : Nat), (1 : Nat) ≤ x ∧ x ≤ maxLen → ((1 : Nat) = (1 : Nat) ∧ x = x ∧ (0 : Nat) < (1 : Nat)) ∧ (-9223372036854775808 ≤ ln + q1 ∧ ln + q1 ≤ 9223372036854775807) ∧ ∀ (x2 : Int), x2 = ln + q1 → Q { val := .tup [], own := false, pars := [[.mu [4, 4, 4, 4, 4, 4, 4, 4, 4, 4] [[ln, q1, q2, q3, q4, q5, q6, q7, q8, q9]], .int .i64 x2, .int .i64 sa, .int .i64 d0, .int .i64 d1, .int .i64 d2]], news := [] }) ∧ ((0 : Nat) < List.length pk → ∀ (cap : Nat), List.length pk ≤ cap ∧ cap ≤ maxLen → (decide ((List.length pk : Int) > (0 : Int)) = true → ((q3 != 0) = true → (-9223372036854775808 ≤ (List.length pk : Int) - (1 : Int) ∧ (List.length pk : Int) - (1 : Int) ≤ 9223372036854775807) ∧ ∀ (x4 : Int), x4 = (List.length pk : Int) - (1 : Int) →
    (0 ≤ x4 ∧ x4 < (List.length pk : Int)) ∧ x4.toNat < List.length pk ∧ ∀ (x5 : Int), x5 = ec pk x4.toNat 3 → ((x5 == q3) = true → (-9223372036854775808 ≤ (List.length pk : Int) - (1 : Int) ∧ (List.length pk : Int) - (1 : Int) ≤ 9223372036854775807) ∧ ∀ (x6 : Int), x6 = (List.length pk : Int) - (1 : Int) → (0 ≤ x6 ∧ x6 < (List.length pk : Int)) ∧ x6.toNat < List.length pk ∧ ((ec pk x6.toNat 7 == q7 && (ec pk x6.toNat 8 == q8 && (ec pk x6.toNat 9 == q9 && true))) = true → (-9223372036854775808 ≤ (List.length pk : Int) - (1 : Int) ∧ (List.length pk : Int) - (1 : Int) ≤ 9223372036854775807) ∧ ∀ (x7 : Int), x7 = (List.length pk : Int) - (1 : Int) → (0 ≤ x7 ∧ x7 < (List.length pk : Int)) ∧ x7.toNat < List.length pk ∧ ∀ (x8 : Int), x8 = ec pk x7.toNat 1 → (-9223372036854775808 ≤ x8 + q1 ∧ x8 + q1 ≤ 9223372036854775807) ∧ ∀ (x9 : Int), x9 = x8 + q1 → (0 ≤ x7 ∧ x7 < (List.length pk : Int)) ∧ x7.toNat < List.length pk ∧
    (List.length pk = List.length (List.set pk x7.toNat [bif false && true then x9 else el pk x7.toNat, bif true && true then x9 else ec pk x7.toNat 1, bif true && false then (0 : Int) else ec pk x7.toNat 2, bif true && false then (0 : Int) else ec pk x7.toNat 3, bif true && false then (0 : Int) else ec pk x7.toNat 4, bif true && false then (0 : Int) else ec pk x7.toNat 5, bif true && false then (0 : Int) else ec pk x7.toNat 6, bif true && false then (0 : Int) else ec pk x7.toNat 7, bif true && false then (0 : Int) else ec pk x7.toNat 8, bif true && false then (0 : Int) else ec pk x7.toNat 9]) ∧ cap = cap ∧ (0 : Nat) < List.length (List.set pk x7.toNat [bif false && true then x9 else el pk x7.toNat, bif true && true then x9 else ec pk x7.toNat 1, bif true && false then (0 : Int) else ec pk x7.toNat 2, bif true && false then (0 : Int) else ec pk x7.toNat 3, bif true && false then (0 : Int) else ec pk x7.toNat 4, bif true && false then (0 : Int) else ec pk x7.toNat 5, bif true && false then (0 : Int) else ec pk x7.toNat 6, bif true && false then (0 : Int) else ec pk x7.toNat 7, bif true && false then (0 : Int) else ec pk x7.toNat 8, bif true && false then (0 : Int) else ec pk x7.toNat 9])) ∧
    (-9223372036854775808 ≤ ln + q1 ∧ ln + q1 ≤ 9223372036854775807) ∧ ∀ (x10 : Int), x10 = ln + q1 → Q { val := .tup [], own := false, pars := [[.mu [4, 4, 4, 4, 4, 4, 4, 4, 4, 4] (List.set pk x7.toNat [bif false && true then x9 else el pk x7.toNat, bif true && true then x9 else ec pk x7.toNat 1, bif true && false then (0 : Int) else ec pk x7.toNat 2, bif true && false then (0 : Int) else ec pk x7.toNat 3, bif true && false then (0 : Int) else ec pk x7.toNat 4, bif true && false then (0 : Int) else ec pk x7.toNat 5, bif true && false then (0 : Int) else ec pk x7.toNat 6, bif true && false then (0 : Int) else ec pk x7.toNat 7, bif true && false then (0 : Int) else ec pk x7.toNat 8, bif true && false then (0 : Int) else ec pk x7.toNat 9]), .int .i64 x10, .int .i64 sa, .int .i64 d0, .int .i64 d1, .int .i64 d2]], news := [] }) ∧ ((ec pk x6.toNat 7 == q7 && (ec pk x6.toNat 8 == q8 && (ec pk x6.toNat 9 == q9 && true))) = false →
    (List.length pk = List.length pk ∧ cap = cap ∧ (List.length pk + (1 : Nat)) * (80 : Nat) ≤ (140737488355328 : Nat) ∧ List.length pk + (1 : Nat) ≤ maxLen) ∧ (∃ (x : Nat), List.length pk + (1 : Nat) ≤ x ∧ x ≤ maxLen) ∧ ∀ (x : Nat), List.length pk + (1 : Nat) ≤ x ∧ x ≤ maxLen → (List.length pk + (1 : Nat) = List.length (pk ++ [[ln, q1, q2, q3, q4, q5, q6, q7, q8, q9]]) ∧ x = x ∧ (0 : Nat) < List.length (pk ++ [[ln, q1, q2, q3, q4, q5, q6, q7, q8, q9]])) ∧ (-9223372036854775808 ≤ ln + q1 ∧ ln + q1 ≤ 9223372036854775807) ∧ ∀ (x12 : Int), x12 = ln + q1 → Q { val := .tup [], own := false, pars := [[.mu [4, 4, 4, 4, 4, 4, 4, 4, 4, 4] (pk ++ [[ln, q1, q2, q3, q4, q5, q6, q7, q8, q9]]), .int .i64 x12, .int .i64 sa, .int .i64 d0, .int .i64 d1, .int .i64 d2]], news := [] })) ∧ ((x5 == q3) = false → (List.length pk = List.length pk ∧ cap = cap ∧ (List.length pk + (1 : Nat)) * (80 : Nat) ≤ (140737488355328 : Nat) ∧
    List.length pk + (1 : Nat) ≤ maxLen) ∧ (∃ (x : Nat), List.length pk + (1 : Nat) ≤ x ∧ x ≤ maxLen) ∧ ∀ (x : Nat), List.length pk + (1 : Nat) ≤ x ∧ x ≤ maxLen → (List.length pk + (1 : Nat) = List.length (pk ++ [[ln, q1, q2, q3, q4, q5, q6, q7, q8, q9]]) ∧ x = x ∧ (0 : Nat) < List.length (pk ++ [[ln, q1, q2, q3, q4, q5, q6, q7, q8, q9]])) ∧ (-9223372036854775808 ≤ ln + q1 ∧ ln + q1 ≤ 9223372036854775807) ∧ ∀ (x14 : Int), x14 = ln + q1 → Q { val := .tup [], own := false, pars := [[.mu [4, 4, 4, 4, 4, 4, 4, 4, 4, 4] (pk ++ [[ln, q1, q2, q3, q4, q5, q6, q7, q8, q9]]), .int .i64 x14, .int .i64 sa, .int .i64 d0, .int .i64 d1, .int .i64 d2]], news := [] })) ∧ ((q3 != 0) = false → (List.length pk = List.length pk ∧ cap = cap ∧ (List.length pk + (1 : Nat)) * (80 : Nat) ≤ (140737488355328 : Nat) ∧ List.length pk + (1 : Nat) ≤ maxLen) ∧ (∃ (x : Nat), List.length pk + (1 : Nat) ≤ x ∧ x ≤ maxLen) ∧ ∀ (x : Nat), List.length pk + (1 : Nat) ≤ x ∧
    x ≤ maxLen → (List.length pk + (1 : Nat) = List.length (pk ++ [[ln, q1, q2, q3, q4, q5, q6, q7, q8, q9]]) ∧ x = x ∧ (0 : Nat) < List.length (pk ++ [[ln, q1, q2, q3, q4, q5, q6, q7, q8, q9]])) ∧ (-9223372036854775808 ≤ ln + q1 ∧ ln + q1 ≤ 9223372036854775807) ∧ ∀ (x16 : Int), x16 = ln + q1 → Q { val := .tup [], own := false, pars := [[.mu [4, 4, 4, 4, 4, 4, 4, 4, 4, 4] (pk ++ [[ln, q1, q2, q3, q4, q5, q6, q7, q8, q9]]), .int .i64 x16, .int .i64 sa, .int .i64 d0, .int .i64 d1, .int .i64 d2]], news := [] })) ∧ (decide ((List.length pk : Int) > (0 : Int)) = false → (List.length pk = List.length pk ∧ cap = cap ∧ (List.length pk + (1 : Nat)) * (80 : Nat) ≤ (140737488355328 : Nat) ∧ List.length pk + (1 : Nat) ≤ maxLen) ∧ (∃ (x : Nat), List.length pk + (1 : Nat) ≤ x ∧ x ≤ maxLen) ∧ ∀ (x : Nat), List.length pk + (1 : Nat) ≤ x ∧ x ≤ maxLen → (List.length pk + (1 : Nat) = List.length (pk ++ [[ln, q1, q2, q3, q4, q5, q6, q7, q8, q9]]) ∧
    x = x ∧ (0 : Nat) < List.length (pk ++ [[ln, q1, q2, q3, q4, q5, q6, q7, q8, q9]])) ∧ (-9223372036854775808 ≤ ln + q1 ∧ ln + q1 ≤ 9223372036854775807) ∧ ∀ (x18 : Int), x18 = ln + q1 → Q { val := .tup [], own := false, pars := [[.mu [4, 4, 4, 4, 4, 4, 4, 4, 4, 4] (pk ++ [[ln, q1, q2, q3, q4, q5, q6, q7, q8, q9]]), .int .i64 x18, .int .i64 sa, .int .i64 d0, .int .i64 d1, .int .i64 d2]], news := [] }))) := by kernel_rfl
def SLeg2 (hargs : List HV) (pars : List (List HC)) : SR :=
  match hargs, pars with
  | [.agg [.int .i64 a0, .int .i64 a1, .int .i64 a2], .agg [.int .i64 b0, .int .i64 b1, .int .i64 b2], .ce (.int .i64 s), .ce (.int .i64 n), .ce (.ptr 0 0), .ce (.ptr 1 0), .ce (.ptr 2 0), .ce (.ptr 3 0)],
    [[.int .i64 w0, .int .i64 w1, .int .i64 w2], [.int .i64 m], ax, [.fn g rs ex], [.mu [4, 4, 4, 4, 4, 4, 4, 4, 4, 4] pk, .int .i64 ln, .int .i64 sa, .int .i64 d0, .int .i64 d1, .int .i64 d2]] =>
    match ax with
    | [.int .i64 sta, .int .i64 spa, .int .i64 aca, .int .i64 jea, .int .i64 loa, .int .i64 hia, .int .i64 bla, .int .i64 oga, .int .i64 sga, .sl false [4] pta, .int .i64 stb, .int .i64 spb, .int .i64 acb, .int .i64 jeb, .int .i64 lob, .int .i64 hib, .int .i64 blb, .int .i64 ogb, .int .i64 sgb, .sl false [4] ptb, .int .i64 stc, .int .i64 spc, .int .i64 acc, .int .i64 jec, .int .i64 loc, .int .i64 hic, .int .i64 blc, .int .i64 ogc, .int .i64 sgc, .sl false [4] ptc] =>
      .all ((g = 53 ∧ nl rs [4] ∧ nl ex []) ∧ (m = 1 ∨ m = -1) ∧ okB3 bla blb blc ∧ (0 ≤ n ∧ n ≤ 1152921504606846976) ∧ (0 ≤ ln ∧ ln ≤ 1152921504606846976) ∧ pk.length ≤ 100000000000 ∧ ∀ j, j < pk.length → 0 ≤ ec pk j 1 ∧ ec pk j 1 ≤ ln)
        (List (List Int) × Int) (fun x => x = vis bla blb blc m s n (tn1 a0 b0 m w0) (tn1 a1 b1 m w1) (tn1 a2 b2 m w2) pk ln w0 w1 w2)
        (fun x => ⟨.tup [], false, [[.int .i64 (tn1 a0 b0 m w0), .int .i64 (tn1 a1 b1 m w1), .int .i64 (tn1 a2 b2 m w2)], [.int .i64 m], [.int .i64 sta, .int .i64 spa, .int .i64 aca, .int .i64 jea, .int .i64 loa, .int .i64 hia, .int .i64 bla, .int .i64 oga, .int .i64 sga, .sl false [4] pta, .int .i64 stb, .int .i64 spb, .int .i64 acb, .int .i64 jeb, .int .i64 lob, .int .i64 hib, .int .i64 blb, .int .i64 ogb, .int .i64 sgb, .sl false [4] ptb, .int .i64 stc, .int .i64 spc, .int .i64 acc, .int .i64 jec, .int .i64 loc, .int .i64 hic, .int .i64 blc, .int .i64 ogc, .int .i64 sgc, .sl false [4] ptc], [.fn 53 [4] []], [.mu [4, 4, 4, 4, 4, 4, 4, 4, 4, 4] x.1, .int .i64 x.2, .int .i64 sa, .int .i64 d0, .int .i64 d1, .int .i64 d2]], []⟩)
    | _ => .fail
  | _, _ => .fail
def tabLeg2 : List (FuncId × HL.Spec) := [(55, STnd), (56, SSlack), (53, SLeg1)]
noncomputable def CLeg2 : Ctx := ⟨Try.prog, gam tabLeg2, Try.f54.ntmps, [], []⟩
theorem vcLeg2 (a0 a1 a2 b0 b1 b2 s n w0 w1 w2 m ln sa d0 d1 d2 : Int) (pk : List (List Int)) (sta spa aca jea loa hia bla oga sga stb spb acb jeb lob hib blb ogb sgb stc spc acc jec loc hic blc ogc sgc : Int) (pta ptb ptc : List (List Int)) (Q : Res → Prop) : (nfun true CLeg2 Try.f54 (bodyOf Try.f54) [.agg [.int .i64 a0, .int .i64 a1, .int .i64 a2], .agg [.int .i64 b0, .int .i64 b1, .int .i64 b2], .ce (.int .i64 s), .ce (.int .i64 n), .ce (.ptr 0 0), .ce (.ptr 1 0), .ce (.ptr 2 0), .ce (.ptr 3 0)] [[.int .i64 w0, .int .i64 w1, .int .i64 w2], [.int .i64 m], [.int .i64 sta, .int .i64 spa, .int .i64 aca, .int .i64 jea, .int .i64 loa, .int .i64 hia, .int .i64 bla, .int .i64 oga, .int .i64 sga, .sl false [4] pta, .int .i64 stb, .int .i64 spb, .int .i64 acb, .int .i64 jeb, .int .i64 lob, .int .i64 hib, .int .i64 blb, .int .i64 ogb, .int .i64 sgb, .sl false [4] ptb, .int .i64 stc, .int .i64 spc, .int .i64 acc, .int .i64 jec, .int .i64 loc, .int .i64 hic, .int .i64 blc, .int .i64 ogc, .int .i64 sgc, .sl false [4] ptc], [.fn 53 [4] []], [.mu [4, 4, 4, 4, 4, 4, 4, 4, 4, 4] pk, .int .i64 ln, .int .i64 sa, .int .i64 d0, .int .i64 d1, .int .i64 d2]] Q) =
    ((m = 1 ∨ m = (-1 : Int)) ∧ ∀ (x1 : Int), x1 = tn1 a0 b0 m w0 → ∀ (x2 : Int), x2 = tn1 a1 b1 m w1 → ∀ (x3 : Int), x3 = tn1 a2 b2 m w2 → True ∧ ∀ (x4 : Int), x4 = slk bla blb blc w0 w1 w2 x1 x2 x3 → (decide (x4 > 0) = true → (((-2305843009213693952 : Int) ≤ x4 ∧ x4 ≤ 2305843009213693952) ∧ ((-2305843009213693952 : Int) ≤ ln ∧ ln ≤ 2305843009213693952) ∧ List.length pk ≤ (1000000000000 : Nat) ∧ ∀ (j : Nat), j < List.length pk → (-2305843009213693952 : Int) ≤ ec pk j 1 ∧ ec pk j 1 ≤ (2305843009213693952 : Int)) ∧ (∃ (x : List (List Int) × Int), x = tadd pk ln [(0 : Int), x4, s, (0 : Int), w0, w1, w2, x1, x2, x3]) ∧ ∀ (x : List (List Int) × Int), x = tadd pk ln [(0 : Int), x4, s, (0 : Int), w0, w1, w2, x1, x2, x3] → (((-2305843009213693952 : Int) ≤ n ∧ n ≤ 2305843009213693952) ∧ ((-2305843009213693952 : Int) ≤ x.2 ∧ x.2 ≤ 2305843009213693952) ∧ List.length x.1 ≤ (1000000000000 : Nat) ∧ ∀ (j : Nat), j < List.length x.1 →
    (-2305843009213693952 : Int) ≤ ec x.1 j 1 ∧ ec x.1 j 1 ≤ (2305843009213693952 : Int)) ∧ (∃ (x_1 : List (List Int) × Int), x_1 = tadd x.1 x.2 [(0 : Int), n, s, m, x1, x2, x3, x1, x2, x3]) ∧ ∀ (x_1 : List (List Int) × Int), x_1 = tadd x.1 x.2 [(0 : Int), n, s, m, x1, x2, x3, x1, x2, x3] → Q { val := .tup [], own := false, pars := [[.int .i64 x1, .int .i64 x2, .int .i64 x3], [.int .i64 m], [.int .i64 sta, .int .i64 spa, .int .i64 aca, .int .i64 jea, .int .i64 loa, .int .i64 hia, .int .i64 bla, .int .i64 oga, .int .i64 sga, .sl false [4] pta, .int .i64 stb, .int .i64 spb, .int .i64 acb, .int .i64 jeb, .int .i64 lob, .int .i64 hib, .int .i64 blb, .int .i64 ogb, .int .i64 sgb, .sl false [4] ptb, .int .i64 stc, .int .i64 spc, .int .i64 acc, .int .i64 jec, .int .i64 loc, .int .i64 hic, .int .i64 blc, .int .i64 ogc, .int .i64 sgc, .sl false [4] ptc], [.fn (53 : FuncId) [4] []], [.mu [4, 4, 4, 4, 4, 4, 4, 4, 4, 4] x_1.1, .int .i64 x_1.2, .int .i64 sa, .int .i64 d0, .int .i64 d1, .int .i64 d2]], news := [] }) ∧
    (decide (x4 > 0) = false → (((-2305843009213693952 : Int) ≤ n ∧ n ≤ 2305843009213693952) ∧ ((-2305843009213693952 : Int) ≤ ln ∧ ln ≤ 2305843009213693952) ∧ List.length pk ≤ (1000000000000 : Nat) ∧ ∀ (j : Nat), j < List.length pk → (-2305843009213693952 : Int) ≤ ec pk j 1 ∧ ec pk j 1 ≤ (2305843009213693952 : Int)) ∧ (∃ (x : List (List Int) × Int), x = tadd pk ln [(0 : Int), n, s, m, x1, x2, x3, x1, x2, x3]) ∧ ∀ (x : List (List Int) × Int), x = tadd pk ln [(0 : Int), n, s, m, x1, x2, x3, x1, x2, x3] → Q { val := .tup [], own := false, pars := [[.int .i64 x1, .int .i64 x2, .int .i64 x3], [.int .i64 m], [.int .i64 sta, .int .i64 spa, .int .i64 aca, .int .i64 jea, .int .i64 loa, .int .i64 hia, .int .i64 bla, .int .i64 oga, .int .i64 sga, .sl false [4] pta, .int .i64 stb, .int .i64 spb, .int .i64 acb, .int .i64 jeb, .int .i64 lob, .int .i64 hib, .int .i64 blb, .int .i64 ogb, .int .i64 sgb, .sl false [4] ptb, .int .i64 stc, .int .i64 spc, .int .i64 acc, .int .i64 jec, .int .i64 loc, .int .i64 hic, .int .i64 blc, .int .i64 ogc, .int .i64 sgc, .sl false [4] ptc], [.fn (53 : FuncId) [4] []], [.mu [4, 4, 4, 4, 4, 4, 4, 4, 4, 4] x.1, .int .i64 x.2, .int .i64 sa, .int .i64 d0, .int .i64 d1, .int .i64 d2]], news := [] })) := by kernel_rfl
end Go.Proofs.Ytneingpnkdeooaa
namespace U
theorem tn1_p {a b m d : Int} (h : decide (b > a) = true) : m = tn1 a b m d := by unfold tn1; rw [if_pos (of_decide_eq_true h)]
theorem tn1_n {a b m d : Int} (h : decide (b > a) = false) (h2 : decide (b < a) = true) : 0 - m = tn1 a b m d := by unfold tn1; rw [if_neg (of_decide_eq_false h), if_pos (of_decide_eq_true h2)]; omega
theorem tn1_z {a b m d : Int} (h : decide (b > a) = false) (h2 : decide (b < a) = false) : d = tn1 a b m d := by unfold tn1; rw [if_neg (of_decide_eq_false h), if_neg (of_decide_eq_false h2)]
theorem tn1_fc1 {a b m d : Int} (hm : m = 1 ∨ m = -1) : tn1 a b m d = fc1 a b m d := by
  unfold tn1 fc1
  rcases hm with rfl | rfl
  · simp only [Int.mul_one]
    repeat' split
    all_goals omega
  · have e : (b - a) * (-1) = a - b := by omega
    rw [e]
    repeat' split
    all_goals omega
end U
namespace Go.Proofs.Ytneingpnkdeooaa
open Go Go.HL U
attribute [local irreducible] hfun bodyT fragT
set_option maxHeartbeats 400000 in
set_option maxRecDepth 100000 in
theorem sTnd : Sound Try.prog 55 STnd := by
  refine sound_of (C := CTnd) [] Try.func55 (by kernel_rfl) (by decide +kernel) (by kernel_rfl) rfl trivial (loopsAll (by kernel_rfl)) ?_
  intro hargs pars R h
  unfold STnd at h
  split at h
  case h_2 => exfalso; exact h
  rename_i d0 d1 d2 a0 a1 a2 b0 b1 b2 m
  obtain ⟨hm, hq⟩ := h
  have hq : ∀ e0 e1 e2, e0 = tn1 a0 b0 m d0 → e1 = tn1 a1 b1 m d1 → e2 = tn1 a2 b2 m d2 → R ⟨.agg [.int .i64 e0, .int .i64 e1, .int .i64 e2], false, [], []⟩ := fun e0 e1 e2 h0 h1 h2 => by rw [h0, h1, h2]; exact hq
  refine byVC (vcTnd d0 d1 d2 a0 a1 a2 b0 b1 b2 m R) ?_
  repeat' first | apply And.intro | (rintro _ rfl) | intro _
  all_goals first
    | exact hq _ _ _ (by first | exact tn1_p (by assumption) | exact tn1_n (by assumption) (by assumption) | exact tn1_z (by assumption) (by assumption)) (by first | exact tn1_p (by assumption) | exact tn1_n (by assumption) (by assumption) | exact tn1_z (by assumption) (by assumption)) (by first | exact tn1_p (by assumption) | exact tn1_n (by assumption) (by assumption) | exact tn1_z (by assumption) (by assumption))
    | omega
set_option maxHeartbeats 400000 in
set_option maxRecDepth 100000 in
theorem sTake : Sound Try.prog 56 SSlack := by
  refine sound_of (C := CTake) [] Try.func56 (by kernel_rfl) (by decide +kernel) (by kernel_rfl) rfl trivial (loopsAll (by kernel_rfl)) ?_
  intro hargs pars R h
  unfold SSlack at h
  split at h
  case h_2 => exfalso; exact h
  rename_i sta spa aca jea loa hia bla oga sga pta stb spb acb jeb lob hib blb ogb sgb ptb stc spc acc jec loc hic blc ogc sgc ptc w0 w1 w2 d0 d1 d2
  obtain ⟨_, hq⟩ := h
  have hq : ∀ e0 e1 e2, e0 = sl1 w0 d0 bla 0 → e1 = sl1 w1 d1 blb e0 → e2 = sl1 w2 d2 blc e1 → R ⟨.ce (.int .i64 e2), false, [], []⟩ := fun e0 e1 e2 h0 h1 h2 => by rw [h2, h1, h0]; exact hq
  refine byVC (vcTake sta spa aca jea loa hia bla oga sga stb spb acb jeb lob hib blb ogb sgb stc spc acc jec loc hic blc ogc sgc pta ptb ptc w0 w1 w2 d0 d1 d2 R) ?_
  repeat' first | apply And.intro | (rintro _ rfl) | intro _
  all_goals first
    | exact hq _ _ _ (by first | exact sl1_t (by assumption) | exact sl1_f (by assumption)) (by first | exact sl1_t (by assumption) | exact sl1_f (by assumption)) (by first | exact sl1_t (by assumption) | exact sl1_f (by assumption))
    | omega
set_option maxHeartbeats 400000 in
set_option maxRecDepth 100000 in
theorem sLeg1 : Sound Try.prog 53 SLeg1 := by
  refine sound_of (C := CLeg1) [] Try.func53 (by kernel_rfl) (by decide +kernel) (by kernel_rfl) rfl trivial (loops0 (by kernel_rfl)) ?_
  intro hargs pars R h
  unfold SLeg1 at h
  split at h
  case h_2 => exfalso; exact h
  rename_i q0 q1 q2 q3 q4 q5 q6 q7 q8 q9 pk ln sa d0 d1 d2
  obtain ⟨⟨hq1, hln, hlen, hpk⟩, _, hq⟩ := h
  have app : ¬ (0 < pk.length ∧ q3 ≠ 0 ∧ ec pk (pk.length - 1) 3 = q3 ∧ ec pk (pk.length - 1) 7 = q7 ∧ ec pk (pk.length - 1) 8 = q8 ∧ ec pk (pk.length - 1) 9 = q9) → ∀ x : Int, x = ln + q1 →
      R ⟨.tup [], false, [[.mu [4, 4, 4, 4, 4, 4, 4, 4, 4, 4] (pk ++ [[ln, q1, q2, q3, q4, q5, q6, q7, q8, q9]]), .int .i64 x, .int .i64 sa, .int .i64 d0, .int .i64 d1, .int .i64 d2]], []⟩ := by
    intro hh x e
    have := hq _ rfl
    rw [tadd_app hh] at this
    rw [e]
    exact this
  have grow : ∀ cap : Nat, pk.length ≤ cap → (pk.length = pk.length ∧ cap = cap ∧ (pk.length + 1) * 80 ≤ 140737488355328 ∧ pk.length + 1 ≤ maxLen) ∧ (∃ x : Nat, pk.length + 1 ≤ x ∧ x ≤ maxLen) := fun cap _ =>
    ⟨⟨rfl, rfl, by omega, by unfold maxLen; omega⟩, ⟨pk.length + 1, Nat.le_refl _, by unfold maxLen; omega⟩⟩
  have room : ∀ x : Nat, (pk.length + 1 = (pk ++ [[ln, q1, q2, q3, q4, q5, q6, q7, q8, q9]]).length ∧ x = x ∧ 0 < (pk ++ [[ln, q1, q2, q3, q4, q5, q6, q7, q8, q9]]).length) := fun x => by simp
  refine byVC (vcLeg1 q0 q1 q2 q3 q4 q5 q6 q7 q8 q9 ln sa d0 d1 d2 pk R) ⟨fun h0 => ?_, fun h0 cap hcap => ⟨fun g1 => ⟨fun g2 => ⟨by omega, fun x4 e4 => ⟨by omega, by omega, fun x5 e5 => ⟨fun g3 => ⟨by omega, fun x6 e6 => ⟨by omega, by omega, fun g4 => ?_, fun g4 => ?_⟩⟩, fun g3 => ?_⟩⟩⟩, fun g2 => ?_⟩, fun g1 => ?_⟩⟩
  · obtain rfl : pk = [] := List.eq_nil_of_length_eq_zero h0
    refine ⟨⟨by decide, by decide, by unfold maxLen; decide⟩, ⟨1, by decide, by unfold maxLen; decide⟩, fun x hx => ⟨⟨rfl, rfl, by decide⟩, by omega, fun x2 e2 => ?_⟩⟩
    exact app (fun hh => absurd hh.1 (by decide)) x2 e2
  · have g2 : q3 ≠ 0 := by simpa using g2
    have g3 : x5 = q3 := by simpa using g3
    have ht : x4.toNat = pk.length - 1 := by omega
    have ht6 : x6.toNat = pk.length - 1 := by omega
    rw [ht] at e5
    rw [ht6] at g4
    have g4 : ec pk (pk.length - 1) 7 = q7 ∧ ec pk (pk.length - 1) 8 = q8 ∧ ec pk (pk.length - 1) 9 = q9 := by simpa using g4
    have hb := hpk (pk.length - 1) (by omega)
    refine ⟨by omega, fun x7 e7 => ?_⟩
    have ht7 : x7.toNat = pk.length - 1 := by omega
    rw [ht7]
    refine ⟨by omega, by omega, fun x8 e8 => ⟨by omega, fun x9 e9 => ⟨by omega, by omega, ⟨by rw [List.length_set], rfl, by rw [List.length_set]; exact h0⟩, by omega, fun x10 e10 => ?_⟩⟩⟩
    have := hq _ rfl
    rw [tadd_more ⟨h0, g2, by rw [← e5]; exact g3, g4⟩] at this
    rw [e10, e9, e8]
    exact this
  · have no : ¬ (ec pk (pk.length - 1) 7 = q7 ∧ ec pk (pk.length - 1) 8 = q8 ∧ ec pk (pk.length - 1) 9 = q9) := fun hh => by
      have ht6 : x6.toNat = pk.length - 1 := by omega
      rw [ht6, hh.1, hh.2.1, hh.2.2] at g4
      simp at g4
    exact ⟨(grow cap hcap.1).1, (grow cap hcap.1).2, fun x hx => ⟨room x, by omega, fun x12 e12 => app (fun hh => no hh.2.2.2) x12 e12⟩⟩
  · have no : ¬ ec pk (pk.length - 1) 3 = q3 := fun hh => by
      have ht : x4.toNat = pk.length - 1 := by omega
      rw [ht, hh] at e5
      rw [e5] at g3
      simp at g3
    exact ⟨(grow cap hcap.1).1, (grow cap hcap.1).2, fun x hx => ⟨room x, by omega, fun x12 e12 => app (fun hh => no hh.2.2.1) x12 e12⟩⟩
  · have no : ¬ q3 ≠ 0 := by simpa using g2
    exact ⟨(grow cap hcap.1).1, (grow cap hcap.1).2, fun x hx => ⟨room x, by omega, fun x12 e12 => app (fun hh => no hh.2.1) x12 e12⟩⟩
  · have g1 := of_decide_eq_false g1
    omega
set_option maxHeartbeats 400000 in
set_option maxRecDepth 100000 in
theorem sLeg2 : Sound Try.prog 54 SLeg2 := by
  refine sound_of (C := CLeg2) tabLeg2 Try.func54 (by kernel_rfl) (by decide +kernel) (by kernel_rfl) rfl ⟨sTnd, sTake, sLeg1, trivial⟩ (loops0 (by kernel_rfl)) ?_
  intro hargs pars R h
  unfold SLeg2 at h
  split at h
  case h_2 => exfalso; exact h
  rename_i a0 a1 a2 b0 b1 b2 s n w0 w1 w2 m ax g rs ex pk ln sa d0 d1 d2
  split at h
  case h_2 => exact h.elim
  rename_i sta spa aca jea loa hia bla oga sga pta stb spb acb jeb lob hib blb ogb sgb ptb stc spc acc jec loc hic blc ogc sgc ptc
  obtain ⟨⟨⟨hg, hrs, hex⟩, hm, hb, hn, hln, hlen, hpk⟩, _, hq⟩ := h
  unfold nl at hrs hex
  subst hg hrs hex
  refine byVC (vcLeg2 a0 a1 a2 b0 b1 b2 s n w0 w1 w2 m ln sa d0 d1 d2 pk sta spa aca jea loa hia bla oga sga stb spb acb jeb lob hib blb ogb sgb stc spc acc jec loc hic blc ogc sgc pta ptb ptc R) ⟨hm, ?_⟩
  rintro n0 h0 n1 h1 n2 h2
  rw [← h0, ← h1, ← h2] at hq
  refine ⟨trivial, fun u hu => ?_⟩
  have hs := slk_bd hb w0 w1 w2 n0 n1 n2
  unfold vis at hq
  rw [← hu] at hq hs
  unfold legTk at hq
  have bd : ∀ j, j < pk.length → -2305843009213693952 ≤ ec pk j 1 ∧ ec pk j 1 ≤ 2305843009213693952 := fun j hj => by have := hpk j hj; omega
  refine ⟨fun gu => ?_, fun gu => ?_⟩
  · rw [if_pos (of_decide_eq_true gu)] at hq
    refine ⟨⟨by omega, by omega, by omega, bd⟩, ⟨_, rfl⟩, fun y ey => ?_⟩
    obtain ⟨c1, c2, c3⟩ := tadd_inv (q := [0, u, s, 0, w0, w1, w2, n0, n1, n2]) hln.1 hpk hs.1
    have c1 : (tadd pk ln [0, u, s, 0, w0, w1, w2, n0, n1, n2]).2 = ln + u := c1
    have c3 : unitsOK (tadd pk ln [0, u, s, 0, w0, w1, w2, n0, n1, n2]).1 (ln + u) := c3
    rw [← ey] at c1 c2 c3 hq
    exact ⟨⟨by omega, by omega, by omega, fun j hj => by have := c3 j hj; omega⟩, ⟨_, rfl⟩, fun z ez => hq z ez⟩
  · rw [if_neg (of_decide_eq_false gu)] at hq
    exact ⟨⟨by omega, by omega, by omega, bd⟩, ⟨_, rfl⟩, fun z ez => hq z ez⟩
end Go.Proofs.Ytneingpnkdeooaa
namespace U
open Go
def starts (sg : List (List Int)) : Nat → List (List Int)
  | 0 => []
  | k + 1 => starts sg k ++ [[plen (sg.take k)]]
end U
namespace Go.Proofs.Ytneingpnkdeooaa
open Go Go.HL U
def SEach (hargs : List HV) (pars : List (List HC)) : SR :=
  match hargs, pars with
  | [.agg [.int .i64 s0, .int .i64 s1, .int .i64 s2, .sl false [4, 4, 4, 4, 4, 4, 4] sg, .sl false [4, 4, 4] mk], .ce (.int .i64 lo), .ce (.int .i64 hi), .ce (.int .i64 mv), .ce (.fn g rs ex)],
    [[.int .i64 w0, .int .i64 w1, .int .i64 w2], [.int .i64 m], ax, [.fn g2 r2 e2], [.mu [4, 4, 4, 4, 4, 4, 4, 4, 4, 4] pk, .int .i64 ln, .int .i64 sa, .int .i64 d0, .int .i64 d1, .int .i64 d2]] =>
    match ax with
    | [.int .i64 sta, .int .i64 spa, .int .i64 aca, .int .i64 jea, .int .i64 loa, .int .i64 hia, .int .i64 bla, .int .i64 oga, .int .i64 sga, .sl false [4] pta, .int .i64 stb, .int .i64 spb, .int .i64 acb, .int .i64 jeb, .int .i64 lob, .int .i64 hib, .int .i64 blb, .int .i64 ogb, .int .i64 sgb, .sl false [4] ptb, .int .i64 stc, .int .i64 spc, .int .i64 acc, .int .i64 jec, .int .i64 loc, .int .i64 hic, .int .i64 blc, .int .i64 ogc, .int .i64 sgc, .sl false [4] ptc] =>
      .all ((g = 54 ∧ nl rs [0, 1, 2, 3] ∧ nl ex [4]) ∧ (g2 = 53 ∧ nl r2 [4] ∧ nl e2 []) ∧ mv = m ∧ (m = 1 ∨ m = -1) ∧ (0 ≤ lo ∧ lo ≤ hi ∧ hi ≤ plen sg) ∧ okLen sg ∧ okPts s0 s1 s2 sg ∧ okB3 bla blb blc ∧ pk.length = 0 ∧ ln = 0)
        LegS (fun x => x = legK s0 s1 s2 sg bla blb blc lo hi m ⟨[], 0, w0, w1, w2, if m < 0 then plen sg else 0⟩ sg.length)
        (fun x => ⟨.tup [], false, [[.int .i64 x.a0, .int .i64 x.a1, .int .i64 x.a2], [.int .i64 m], [.int .i64 sta, .int .i64 spa, .int .i64 aca, .int .i64 jea, .int .i64 loa, .int .i64 hia, .int .i64 bla, .int .i64 oga, .int .i64 sga, .sl false [4] pta, .int .i64 stb, .int .i64 spb, .int .i64 acb, .int .i64 jeb, .int .i64 lob, .int .i64 hib, .int .i64 blb, .int .i64 ogb, .int .i64 sgb, .sl false [4] ptb, .int .i64 stc, .int .i64 spc, .int .i64 acc, .int .i64 jec, .int .i64 loc, .int .i64 hic, .int .i64 blc, .int .i64 ogc, .int .i64 sgc, .sl false [4] ptc], [.fn 53 [4] []], [.mu [4, 4, 4, 4, 4, 4, 4, 4, 4, 4] x.pk, .int .i64 x.ln, .int .i64 sa, .int .i64 d0, .int .i64 d1, .int .i64 d2]], []⟩)
    | _ => .fail
  | _, _ => .fail
def tabEach : List (FuncId × HL.Spec) := [(54, SLeg2)]
def anE1 : LAnn := ⟨[1, 2, 3, 4, 5, 10, 11, 100011, 21, 22, 23], [1, 2, 3, 4, 5, 11, 100011], [1000005, 0, 1, 2, 3, 4], false⟩
def LE1 (v : LV) : LR :=
  match v with
  | ([.ce (.int .i64 lo), .ce (.int .i64 hi), .ce (.int .i64 mv), .ce (.fn g rs ex), .ce (.ptr 1000005 0), .ce (.int .i64 t), .ce (.sl false [4] st), .ce (.lit true), .ce (.sl false [4, 4, 4, 4, 4, 4, 4] l), .ce (.int .i64 n), .ce (.int .i64 i)],
     [[.int .i64 s0, .int .i64 s1, .int .i64 s2, .sl false [4, 4, 4, 4, 4, 4, 4] sg, .sl false [4, 4, 4] mk], [.int .i64 w0, .int .i64 w1, .int .i64 w2], [.int .i64 m], ax, [.fn g2 r2 e2], [.mu [4, 4, 4, 4, 4, 4, 4, 4, 4, 4] pk, .int .i64 ln, .int .i64 sa, .int .i64 d0, .int .i64 d1, .int .i64 d2]]) =>
    match ax with
    | [.int .i64 sta, .int .i64 spa, .int .i64 aca, .int .i64 jea, .int .i64 loa, .int .i64 hia, .int .i64 bla, .int .i64 oga, .int .i64 sga, .sl false [4] pta, .int .i64 stb, .int .i64 spb, .int .i64 acb, .int .i64 jeb, .int .i64 lob, .int .i64 hib, .int .i64 blb, .int .i64 ogb, .int .i64 sgb, .sl false [4] ptb, .int .i64 stc, .int .i64 spc, .int .i64 acc, .int .i64 jec, .int .i64 loc, .int .i64 hic, .int .i64 blc, .int .i64 ogc, .int .i64 sgc, .sl false [4] ptc] =>
      .all (n = l.length ∧ i = 0 ∧ t = 0 ∧ st.length = 0 ∧ okLen l ∧ (g = 54 ∧ nl rs [0, 1, 2, 3] ∧ nl ex [4]) ∧ (g2 = 53 ∧ nl r2 [4] ∧ nl e2 [])) (List (List Int)) (fun x => x = starts l l.length) (fun _ => .exit 0)
        (fun x => ([.ce (.int .i64 lo), .ce (.int .i64 hi), .ce (.int .i64 mv), .ce (.fn 54 [0, 1, 2, 3] [4]), .ce (.ptr 1000005 0), .ce (.sl false [4] x), .ce (.lit true)],
          [[.int .i64 s0, .int .i64 s1, .int .i64 s2, .sl false [4, 4, 4, 4, 4, 4, 4] sg, .sl false [4, 4, 4] mk], [.int .i64 w0, .int .i64 w1, .int .i64 w2], [.int .i64 m], [.int .i64 sta, .int .i64 spa, .int .i64 aca, .int .i64 jea, .int .i64 loa, .int .i64 hia, .int .i64 bla, .int .i64 oga, .int .i64 sga, .sl false [4] pta, .int .i64 stb, .int .i64 spb, .int .i64 acb, .int .i64 jeb, .int .i64 lob, .int .i64 hib, .int .i64 blb, .int .i64 ogb, .int .i64 sgb, .sl false [4] ptb, .int .i64 stc, .int .i64 spc, .int .i64 acc, .int .i64 jec, .int .i64 loc, .int .i64 hic, .int .i64 blc, .int .i64 ogc, .int .i64 sgc, .sl false [4] ptc], [.fn 53 [4] []], [.mu [4, 4, 4, 4, 4, 4, 4, 4, 4, 4] pk, .int .i64 ln, .int .i64 sa, .int .i64 d0, .int .i64 d1, .int .i64 d2]]))
    | _ => .fail
  | _ => .fail
def anE2 : LAnn := ⟨[1, 2, 3, 4, 5, 11, 38, 39], [], [1000005, 0, 1, 2, 3, 4], false⟩
def LE2 (v : LV) : LR :=
  match v with
  | ([.ce (.int .i64 lo), .ce (.int .i64 hi), .ce (.int .i64 mv), .ce (.fn g rs ex), .ce (.ptr 1000005 0), .ce (.sl false [4] st), .ce (.int .i64 n), .ce (.int .i64 k)],
     [[.int .i64 s0, .int .i64 s1, .int .i64 s2, .sl false [4, 4, 4, 4, 4, 4, 4] sg, .sl false [4, 4, 4] mk], [.int .i64 w0, .int .i64 w1, .int .i64 w2], [.int .i64 m], ax, [.fn g2 r2 e2], [.mu [4, 4, 4, 4, 4, 4, 4, 4, 4, 4] pk, .int .i64 ln, .int .i64 sa, .int .i64 d0, .int .i64 d1, .int .i64 d2]]) =>
    match ax with
    | [.int .i64 sta, .int .i64 spa, .int .i64 aca, .int .i64 jea, .int .i64 loa, .int .i64 hia, .int .i64 bla, .int .i64 oga, .int .i64 sga, .sl false [4] pta, .int .i64 stb, .int .i64 spb, .int .i64 acb, .int .i64 jeb, .int .i64 lob, .int .i64 hib, .int .i64 blb, .int .i64 ogb, .int .i64 sgb, .sl false [4] ptb, .int .i64 stc, .int .i64 spc, .int .i64 acc, .int .i64 jec, .int .i64 loc, .int .i64 hic, .int .i64 blc, .int .i64 ogc, .int .i64 sgc, .sl false [4] ptc] =>
      .all (n = sg.length ∧ k = 0 ∧ st = starts sg sg.length ∧ (g = 54 ∧ nl rs [0, 1, 2, 3] ∧ nl ex [4]) ∧ (g2 = 53 ∧ nl r2 [4] ∧ nl e2 []) ∧ mv = m ∧ (m = 1 ∨ m = -1) ∧ (0 ≤ lo ∧ lo ≤ hi ∧ hi ≤ plen sg) ∧ okLen sg ∧ okPts s0 s1 s2 sg ∧ okB3 bla blb blc ∧ pk.length = 0 ∧ ln = 0) LegS
        (fun x => x = legK s0 s1 s2 sg bla blb blc lo hi m ⟨[], 0, w0, w1, w2, if m < 0 then plen sg else 0⟩ sg.length) (fun _ => .exit 2)
        (fun x => ([], [[.int .i64 s0, .int .i64 s1, .int .i64 s2, .sl false [4, 4, 4, 4, 4, 4, 4] sg, .sl false [4, 4, 4] mk], [.int .i64 x.a0, .int .i64 x.a1, .int .i64 x.a2], [.int .i64 m], [.int .i64 sta, .int .i64 spa, .int .i64 aca, .int .i64 jea, .int .i64 loa, .int .i64 hia, .int .i64 bla, .int .i64 oga, .int .i64 sga, .sl false [4] pta, .int .i64 stb, .int .i64 spb, .int .i64 acb, .int .i64 jeb, .int .i64 lob, .int .i64 hib, .int .i64 blb, .int .i64 ogb, .int .i64 sgb, .sl false [4] ptb, .int .i64 stc, .int .i64 spc, .int .i64 acc, .int .i64 jec, .int .i64 loc, .int .i64 hic, .int .i64 blc, .int .i64 ogc, .int .i64 sgc, .sl false [4] ptc], [.fn 53 [4] []], [.mu [4, 4, 4, 4, 4, 4, 4, 4, 4, 4] x.pk, .int .i64 x.ln, .int .i64 sa, .int .i64 d0, .int .i64 d1, .int .i64 d2]]))
    | _ => .fail
  | _ => .fail
noncomputable def CEach : Ctx := ⟨Try.prog, gam tabEach, Try.f57.ntmps, [(4, anE1, LE1), (10, anE2, LE2)], []⟩
theorem vbE1 (s0 s1 s2 lo hi mv t n i w0 w1 w2 m ln sa d0 d1 d2 : Int) (sg mk l st pk : List (List Int)) (sta spa aca jea loa hia bla oga sga stb spb acb jeb lob hib blb ogb sgb stc spc acc jec loc hic blc ogc sgc : Int) (pta ptb ptc : List (List Int)) (K : HEx → LV → Prop) : (nbodyT true CEach anE1 (nthLoop Try.f57 0) (([.ce (.int .i64 lo), .ce (.int .i64 hi), .ce (.int .i64 mv), .ce (.fn 54 [0, 1, 2, 3] [4]), .ce (.ptr 1000005 0), .ce (.int .i64 t), .ce (.sl false [4] st), .ce (.lit true), .ce (.sl false [4, 4, 4, 4, 4, 4, 4] l), .ce (.int .i64 n), .ce (.int .i64 i)], [[.int .i64 s0, .int .i64 s1, .int .i64 s2, .sl false [4, 4, 4, 4, 4, 4, 4] sg, .sl false [4, 4, 4] mk], [.int .i64 w0, .int .i64 w1, .int .i64 w2], [.int .i64 m], [.int .i64 sta, .int .i64 spa, .int .i64 aca, .int .i64 jea, .int .i64 loa, .int .i64 hia, .int .i64 bla, .int .i64 oga, .int .i64 sga, .sl false [4] pta, .int .i64 stb, .int .i64 spb, .int .i64 acb, .int .i64 jeb, .int .i64 lob, .int .i64 hib, .int .i64 blb, .int .i64 ogb, .int .i64 sgb, .sl false [4] ptb, .int .i64 stc, .int .i64 spc, .int .i64 acc, .int .i64 jec, .int .i64 loc, .int .i64 hic, .int .i64 blc, .int .i64 ogc, .int .i64 sgc, .sl false [4] ptc], [.fn 53 [4] []], [.mu [4, 4, 4, 4, 4, 4, 4, 4, 4, 4] pk, .int .i64 ln, .int .i64 sa, .int .i64 d0, .int .i64 d1, .int .i64 d2]])) K) =
    ((decide (i < n) = true → (0 ≤ i ∧ i < (List.length l : Int)) ∧ ((List.length st + (1 : Nat)) * (8 : Nat) ≤ (140737488355328 : Nat) ∧ List.length st + (1 : Nat) ≤ maxLen) ∧ (-9223372036854775808 ≤ t + ec l i.toNat 3 ∧ t + ec l i.toNat 3 ≤ 9223372036854775807) ∧ ∀ (x1 : Int), x1 = t + ec l i.toNat 3 → (-9223372036854775808 ≤ i + 1 ∧ i + 1 ≤ 9223372036854775807) ∧ ∀ (x2 : Int), x2 = i + 1 → K .normal ([.ce (.int .i64 lo), .ce (.int .i64 hi), .ce (.int .i64 mv), .ce (.fn (54 : FuncId) [0, 1, 2, 3] [4]), .ce (.ptr 1000005 0), .ce (.int .i64 x1), .ce (.sl false [4] (st ++ [[t]])), .ce (.lit true), .ce (.sl false [4, 4, 4, 4, 4, 4, 4] l), .ce (.int .i64 n), .ce (.int .i64 x2)], [[.int .i64 s0, .int .i64 s1, .int .i64 s2, .sl false [4, 4, 4, 4, 4, 4, 4] sg, .sl false [4, 4, 4] mk], [.int .i64 w0, .int .i64 w1, .int .i64 w2], [.int .i64 m], [.int .i64 sta, .int .i64 spa, .int .i64 aca, .int .i64 jea, .int .i64 loa, .int .i64 hia, .int .i64 bla, .int .i64 oga, .int .i64 sga, .sl false [4] pta, .int .i64 stb, .int .i64 spb, .int .i64 acb, .int .i64 jeb, .int .i64 lob, .int .i64 hib, .int .i64 blb, .int .i64 ogb, .int .i64 sgb, .sl false [4] ptb, .int .i64 stc, .int .i64 spc, .int .i64 acc, .int .i64 jec, .int .i64 loc, .int .i64 hic, .int .i64 blc, .int .i64 ogc, .int .i64 sgc, .sl false [4] ptc], [.fn (53 : FuncId) [4] []], [.mu [4, 4, 4, 4, 4, 4, 4, 4, 4, 4] pk, .int .i64 ln, .int .i64 sa, .int .i64 d0, .int .i64 d1, .int .i64 d2]])) ∧
    (decide (i < n) = false → K (.exit 0) ([.ce (.int .i64 lo), .ce (.int .i64 hi), .ce (.int .i64 mv), .ce (.fn (54 : FuncId) [0, 1, 2, 3] [4]), .ce (.ptr 1000005 0), .ce (.sl false [4] st), .ce (.lit true)], [[.int .i64 s0, .int .i64 s1, .int .i64 s2, .sl false [4, 4, 4, 4, 4, 4, 4] sg, .sl false [4, 4, 4] mk], [.int .i64 w0, .int .i64 w1, .int .i64 w2], [.int .i64 m], [.int .i64 sta, .int .i64 spa, .int .i64 aca, .int .i64 jea, .int .i64 loa, .int .i64 hia, .int .i64 bla, .int .i64 oga, .int .i64 sga, .sl false [4] pta, .int .i64 stb, .int .i64 spb, .int .i64 acb, .int .i64 jeb, .int .i64 lob, .int .i64 hib, .int .i64 blb, .int .i64 ogb, .int .i64 sgb, .sl false [4] ptb, .int .i64 stc, .int .i64 spc, .int .i64 acc, .int .i64 jec, .int .i64 loc, .int .i64 hic, .int .i64 blc, .int .i64 ogc, .int .i64 sgc, .sl false [4] ptc], [.fn (53 : FuncId) [4] []], [.mu [4, 4, 4, 4, 4, 4, 4, 4, 4, 4] pk, .int .i64 ln, .int .i64 sa, .int .i64 d0, .int .i64 d1, .int .i64 d2]]))) := by kernel_rfl
theorem vbE2 (s0 s1 s2 lo hi mv n k w0 w1 w2 m ln sa d0 d1 d2 : Int) (sg mk st pk : List (List Int)) (sta spa aca jea loa hia bla oga sga stb spb acb jeb lob hib blb ogb sgb stc spc acc jec loc hic blc ogc sgc : Int) (pta ptb ptc : List (List Int)) (K : HEx → LV → Prop) : (nbodyT true CEach anE2 (nthLoop Try.f57 1) (([.ce (.int .i64 lo), .ce (.int .i64 hi), .ce (.int .i64 mv), .ce (.fn 54 [0, 1, 2, 3] [4]), .ce (.ptr 1000005 0), .ce (.sl false [4] st), .ce (.int .i64 n), .ce (.int .i64 k)], [[.int .i64 s0, .int .i64 s1, .int .i64 s2, .sl false [4, 4, 4, 4, 4, 4, 4] sg, .sl false [4, 4, 4] mk], [.int .i64 w0, .int .i64 w1, .int .i64 w2], [.int .i64 m], [.int .i64 sta, .int .i64 spa, .int .i64 aca, .int .i64 jea, .int .i64 loa, .int .i64 hia, .int .i64 bla, .int .i64 oga, .int .i64 sga, .sl false [4] pta, .int .i64 stb, .int .i64 spb, .int .i64 acb, .int .i64 jeb, .int .i64 lob, .int .i64 hib, .int .i64 blb, .int .i64 ogb, .int .i64 sgb, .sl false [4] ptb, .int .i64 stc, .int .i64 spc, .int .i64 acc, .int .i64 jec, .int .i64 loc, .int .i64 hic, .int .i64 blc, .int .i64 ogc, .int .i64 sgc, .sl false [4] ptc], [.fn 53 [4] []], [.mu [4, 4, 4, 4, 4, 4, 4, 4, 4, 4] pk, .int .i64 ln, .int .i64 sa, .int .i64 d0, .int .i64 d1, .int .i64 d2]])) K) =
    ((decide (k < n) = true → (decide (mv < 0) = true → (-9223372036854775808 ≤ (List.length sg : Int) - (1 : Int) ∧ (List.length sg : Int) - (1 : Int) ≤ 9223372036854775807) ∧ ∀ (x1 : Int), x1 = (List.length sg : Int) - (1 : Int) → (-9223372036854775808 ≤ x1 - k ∧ x1 - k ≤ 9223372036854775807) ∧ ∀ (x2 : Int), x2 = x1 - k → (0 ≤ x2 ∧ x2 < (List.length st : Int)) ∧ ∀ (x3 : Int), x3 = el st x2.toNat → ∀ (x4 : Int), x4 = max x3 lo → (0 ≤ x2 ∧ x2 < (List.length st : Int)) ∧ ∀ (x5 : Int), x5 = el st x2.toNat → (0 ≤ x2 ∧ x2 < (List.length sg : Int)) ∧ ∀ (x6 : Int), x6 = ec sg x2.toNat 3 → (-9223372036854775808 ≤ x5 + x6 ∧ x5 + x6 ≤ 9223372036854775807) ∧ ∀ (x7 : Int), x7 = x5 + x6 → ∀ (x8 : Int), x8 = min x7 hi → (decide (x4 ≥ x8) = true → (-9223372036854775808 ≤ k + 1 ∧ k + 1 ≤ 9223372036854775807) ∧ ∀ (x9 : Int), x9 = k + 1 → K .normal ([.ce (.int .i64 lo), .ce (.int .i64 hi), .ce (.int .i64 mv), .ce (.fn (54 : FuncId) [0, 1, 2, 3] [4]), .ce (.ptr 1000005 0), .ce (.sl false [4] st), .ce (.int .i64 n), .ce (.int .i64 x9)], [[.int .i64 s0, .int .i64 s1, .int .i64 s2, .sl false [4, 4, 4, 4, 4, 4, 4] sg, .sl false [4, 4, 4] mk], [.int .i64 w0, .int .i64 w1, .int .i64 w2], [.int .i64 m], [.int .i64 sta, .int .i64 spa, .int .i64 aca, .int .i64 jea, .int .i64 loa, .int .i64 hia, .int .i64 bla, .int .i64 oga, .int .i64 sga, .sl false [4] pta, .int .i64 stb, .int .i64 spb, .int .i64 acb, .int .i64 jeb, .int .i64 lob, .int .i64 hib, .int .i64 blb, .int .i64 ogb, .int .i64 sgb, .sl false [4] ptb, .int .i64 stc, .int .i64 spc, .int .i64 acc, .int .i64 jec, .int .i64 loc, .int .i64 hic, .int .i64 blc, .int .i64 ogc, .int .i64 sgc, .sl false [4] ptc], [.fn (53 : FuncId) [4] []], [.mu [4, 4, 4, 4, 4, 4, 4, 4, 4, 4] pk, .int .i64 ln, .int .i64 sa, .int .i64 d0, .int .i64 d1, .int .i64 d2]])) ∧
    (decide (x4 ≥ x8) = false → (decide (x2 > 0) = true → (-9223372036854775808 ≤ x2 - 1 ∧ x2 - 1 ≤ 9223372036854775807) ∧ ∀ (x10 : Int), x10 = x2 - 1 → (0 ≤ x10 ∧ x10 < (List.length sg : Int)) ∧ (decide (mv < 0) = true → (0 ≤ x2 ∧ x2 < (List.length sg : Int)) ∧ (-9223372036854775808 ≤ x8 - x4 ∧ x8 - x4 ≤ 9223372036854775807) ∧ ∀ (x11 : Int), x11 = x8 - x4 → (((53 : FuncId) = (53 : FuncId) ∧ nl [4] [4] ∧ nl [] []) ∧ (m = 1 ∨ m = (-1 : Int)) ∧ okB3 bla blb blc ∧ (0 ≤ x11 ∧ x11 ≤ 1152921504606846976) ∧ (0 ≤ ln ∧ ln ≤ 1152921504606846976) ∧ List.length pk ≤ (100000000000 : Nat) ∧ ∀ (j : Nat), j < List.length pk → 0 ≤ ec pk j 1 ∧ ec pk j 1 ≤ ln) ∧ (∃ (x : List (List Int) × Int), x = vis bla blb blc m x8 x11 (tn1 (el sg x10.toNat) (el sg x2.toNat) m w0) (tn1 (ec sg x10.toNat 1) (ec sg x2.toNat 1) m w1) (tn1 (ec sg x10.toNat 2) (ec sg x2.toNat 2) m w2) pk ln w0 w1 w2) ∧ ∀ (x : List (List Int) × Int), x = vis bla blb blc m x8 x11 (tn1 (el sg x10.toNat) (el sg x2.toNat) m w0) (tn1 (ec sg x10.toNat 1) (ec sg x2.toNat 1) m w1) (tn1 (ec sg x10.toNat 2) (ec sg x2.toNat 2) m w2) pk ln w0 w1 w2 →
    (-9223372036854775808 ≤ k + 1 ∧ k + 1 ≤ 9223372036854775807) ∧ ∀ (x14 : Int), x14 = k + 1 → K .normal ([.ce (.int .i64 lo), .ce (.int .i64 hi), .ce (.int .i64 mv), .ce (.fn (54 : FuncId) [0, 1, 2, 3] [4]), .ce (.ptr 1000005 0), .ce (.sl false [4] st), .ce (.int .i64 n), .ce (.int .i64 x14)], [[.int .i64 s0, .int .i64 s1, .int .i64 s2, .sl false [4, 4, 4, 4, 4, 4, 4] sg, .sl false [4, 4, 4] mk], [.int .i64 (tn1 (el sg x10.toNat) (el sg x2.toNat) m w0), .int .i64 (tn1 (ec sg x10.toNat 1) (ec sg x2.toNat 1) m w1), .int .i64 (tn1 (ec sg x10.toNat 2) (ec sg x2.toNat 2) m w2)], [.int .i64 m], [.int .i64 sta, .int .i64 spa, .int .i64 aca, .int .i64 jea, .int .i64 loa, .int .i64 hia, .int .i64 bla, .int .i64 oga, .int .i64 sga, .sl false [4] pta, .int .i64 stb, .int .i64 spb, .int .i64 acb, .int .i64 jeb, .int .i64 lob, .int .i64 hib, .int .i64 blb, .int .i64 ogb, .int .i64 sgb, .sl false [4] ptb, .int .i64 stc, .int .i64 spc, .int .i64 acc, .int .i64 jec, .int .i64 loc, .int .i64 hic, .int .i64 blc, .int .i64 ogc, .int .i64 sgc, .sl false [4] ptc], [.fn (53 : FuncId) [4] []], [.mu [4, 4, 4, 4, 4, 4, 4, 4, 4, 4] x.1, .int .i64 x.2, .int .i64 sa, .int .i64 d0, .int .i64 d1, .int .i64 d2]])) ∧
    (decide (mv < 0) = false → (0 ≤ x2 ∧ x2 < (List.length sg : Int)) ∧ (-9223372036854775808 ≤ x8 - x4 ∧ x8 - x4 ≤ 9223372036854775807) ∧ ∀ (x15 : Int), x15 = x8 - x4 → (((53 : FuncId) = (53 : FuncId) ∧ nl [4] [4] ∧ nl [] []) ∧ (m = 1 ∨ m = (-1 : Int)) ∧ okB3 bla blb blc ∧ (0 ≤ x15 ∧ x15 ≤ 1152921504606846976) ∧ (0 ≤ ln ∧ ln ≤ 1152921504606846976) ∧ List.length pk ≤ (100000000000 : Nat) ∧ ∀ (j : Nat), j < List.length pk → 0 ≤ ec pk j 1 ∧ ec pk j 1 ≤ ln) ∧ (∃ (x : List (List Int) × Int), x = vis bla blb blc m x4 x15 (tn1 (el sg x10.toNat) (el sg x2.toNat) m w0) (tn1 (ec sg x10.toNat 1) (ec sg x2.toNat 1) m w1) (tn1 (ec sg x10.toNat 2) (ec sg x2.toNat 2) m w2) pk ln w0 w1 w2) ∧ ∀ (x : List (List Int) × Int), x = vis bla blb blc m x4 x15 (tn1 (el sg x10.toNat) (el sg x2.toNat) m w0) (tn1 (ec sg x10.toNat 1) (ec sg x2.toNat 1) m w1) (tn1 (ec sg x10.toNat 2) (ec sg x2.toNat 2) m w2) pk ln w0 w1 w2 →
    (-9223372036854775808 ≤ k + 1 ∧ k + 1 ≤ 9223372036854775807) ∧ ∀ (x18 : Int), x18 = k + 1 → K .normal ([.ce (.int .i64 lo), .ce (.int .i64 hi), .ce (.int .i64 mv), .ce (.fn (54 : FuncId) [0, 1, 2, 3] [4]), .ce (.ptr 1000005 0), .ce (.sl false [4] st), .ce (.int .i64 n), .ce (.int .i64 x18)], [[.int .i64 s0, .int .i64 s1, .int .i64 s2, .sl false [4, 4, 4, 4, 4, 4, 4] sg, .sl false [4, 4, 4] mk], [.int .i64 (tn1 (el sg x10.toNat) (el sg x2.toNat) m w0), .int .i64 (tn1 (ec sg x10.toNat 1) (ec sg x2.toNat 1) m w1), .int .i64 (tn1 (ec sg x10.toNat 2) (ec sg x2.toNat 2) m w2)], [.int .i64 m], [.int .i64 sta, .int .i64 spa, .int .i64 aca, .int .i64 jea, .int .i64 loa, .int .i64 hia, .int .i64 bla, .int .i64 oga, .int .i64 sga, .sl false [4] pta, .int .i64 stb, .int .i64 spb, .int .i64 acb, .int .i64 jeb, .int .i64 lob, .int .i64 hib, .int .i64 blb, .int .i64 ogb, .int .i64 sgb, .sl false [4] ptb, .int .i64 stc, .int .i64 spc, .int .i64 acc, .int .i64 jec, .int .i64 loc, .int .i64 hic, .int .i64 blc, .int .i64 ogc, .int .i64 sgc, .sl false [4] ptc], [.fn (53 : FuncId) [4] []], [.mu [4, 4, 4, 4, 4, 4, 4, 4, 4, 4] x.1, .int .i64 x.2, .int .i64 sa, .int .i64 d0, .int .i64 d1, .int .i64 d2]]))) ∧
    (decide (x2 > 0) = false → (decide (mv < 0) = true → (0 ≤ x2 ∧ x2 < (List.length sg : Int)) ∧ (-9223372036854775808 ≤ x8 - x4 ∧ x8 - x4 ≤ 9223372036854775807) ∧ ∀ (x19 : Int), x19 = x8 - x4 → (((53 : FuncId) = (53 : FuncId) ∧ nl [4] [4] ∧ nl [] []) ∧ (m = 1 ∨ m = (-1 : Int)) ∧ okB3 bla blb blc ∧ (0 ≤ x19 ∧ x19 ≤ 1152921504606846976) ∧ (0 ≤ ln ∧ ln ≤ 1152921504606846976) ∧ List.length pk ≤ (100000000000 : Nat) ∧ ∀ (j : Nat), j < List.length pk → 0 ≤ ec pk j 1 ∧ ec pk j 1 ≤ ln) ∧ (∃ (x : List (List Int) × Int), x = vis bla blb blc m x8 x19 (tn1 s0 (el sg x2.toNat) m w0) (tn1 s1 (ec sg x2.toNat 1) m w1) (tn1 s2 (ec sg x2.toNat 2) m w2) pk ln w0 w1 w2) ∧ ∀ (x : List (List Int) × Int), x = vis bla blb blc m x8 x19 (tn1 s0 (el sg x2.toNat) m w0) (tn1 s1 (ec sg x2.toNat 1) m w1) (tn1 s2 (ec sg x2.toNat 2) m w2) pk ln w0 w1 w2 → (-9223372036854775808 ≤ k + 1 ∧ k + 1 ≤ 9223372036854775807) ∧ ∀ (x22 : Int), x22 = k + 1 →
    K .normal ([.ce (.int .i64 lo), .ce (.int .i64 hi), .ce (.int .i64 mv), .ce (.fn (54 : FuncId) [0, 1, 2, 3] [4]), .ce (.ptr 1000005 0), .ce (.sl false [4] st), .ce (.int .i64 n), .ce (.int .i64 x22)], [[.int .i64 s0, .int .i64 s1, .int .i64 s2, .sl false [4, 4, 4, 4, 4, 4, 4] sg, .sl false [4, 4, 4] mk], [.int .i64 (tn1 s0 (el sg x2.toNat) m w0), .int .i64 (tn1 s1 (ec sg x2.toNat 1) m w1), .int .i64 (tn1 s2 (ec sg x2.toNat 2) m w2)], [.int .i64 m], [.int .i64 sta, .int .i64 spa, .int .i64 aca, .int .i64 jea, .int .i64 loa, .int .i64 hia, .int .i64 bla, .int .i64 oga, .int .i64 sga, .sl false [4] pta, .int .i64 stb, .int .i64 spb, .int .i64 acb, .int .i64 jeb, .int .i64 lob, .int .i64 hib, .int .i64 blb, .int .i64 ogb, .int .i64 sgb, .sl false [4] ptb, .int .i64 stc, .int .i64 spc, .int .i64 acc, .int .i64 jec, .int .i64 loc, .int .i64 hic, .int .i64 blc, .int .i64 ogc, .int .i64 sgc, .sl false [4] ptc], [.fn (53 : FuncId) [4] []], [.mu [4, 4, 4, 4, 4, 4, 4, 4, 4, 4] x.1, .int .i64 x.2, .int .i64 sa, .int .i64 d0, .int .i64 d1, .int .i64 d2]])) ∧
    (decide (mv < 0) = false → (0 ≤ x2 ∧ x2 < (List.length sg : Int)) ∧ (-9223372036854775808 ≤ x8 - x4 ∧ x8 - x4 ≤ 9223372036854775807) ∧ ∀ (x23 : Int), x23 = x8 - x4 → (((53 : FuncId) = (53 : FuncId) ∧ nl [4] [4] ∧ nl [] []) ∧ (m = 1 ∨ m = (-1 : Int)) ∧ okB3 bla blb blc ∧ (0 ≤ x23 ∧ x23 ≤ 1152921504606846976) ∧ (0 ≤ ln ∧ ln ≤ 1152921504606846976) ∧ List.length pk ≤ (100000000000 : Nat) ∧ ∀ (j : Nat), j < List.length pk → 0 ≤ ec pk j 1 ∧ ec pk j 1 ≤ ln) ∧ (∃ (x : List (List Int) × Int), x = vis bla blb blc m x4 x23 (tn1 s0 (el sg x2.toNat) m w0) (tn1 s1 (ec sg x2.toNat 1) m w1) (tn1 s2 (ec sg x2.toNat 2) m w2) pk ln w0 w1 w2) ∧ ∀ (x : List (List Int) × Int), x = vis bla blb blc m x4 x23 (tn1 s0 (el sg x2.toNat) m w0) (tn1 s1 (ec sg x2.toNat 1) m w1) (tn1 s2 (ec sg x2.toNat 2) m w2) pk ln w0 w1 w2 → (-9223372036854775808 ≤ k + 1 ∧ k + 1 ≤ 9223372036854775807) ∧ ∀ (x26 : Int), x26 = k + 1 → K .normal ([.ce (.int .i64 lo), .ce (.int .i64 hi), .ce (.int .i64 mv), .ce (.fn (54 : FuncId) [0, 1, 2, 3] [4]), .ce (.ptr 1000005 0), .ce (.sl false [4] st), .ce (.int .i64 n), .ce (.int .i64 x26)], [[.int .i64 s0, .int .i64 s1, .int .i64 s2, .sl false [4, 4, 4, 4, 4, 4, 4] sg, .sl false [4, 4, 4] mk], [.int .i64 (tn1 s0 (el sg x2.toNat) m w0), .int .i64 (tn1 s1 (ec sg x2.toNat 1) m w1), .int .i64 (tn1 s2 (ec sg x2.toNat 2) m w2)], [.int .i64 m], [.int .i64 sta, .int .i64 spa, .int .i64 aca, .int .i64 jea, .int .i64 loa, .int .i64 hia, .int .i64 bla, .int .i64 oga, .int .i64 sga, .sl false [4] pta, .int .i64 stb, .int .i64 spb, .int .i64 acb, .int .i64 jeb, .int .i64 lob, .int .i64 hib, .int .i64 blb, .int .i64 ogb, .int .i64 sgb, .sl false [4] ptb, .int .i64 stc, .int .i64 spc, .int .i64 acc, .int .i64 jec, .int .i64 loc, .int .i64 hic, .int .i64 blc, .int .i64 ogc, .int .i64 sgc, .sl false [4] ptc], [.fn (53 : FuncId) [4] []], [.mu [4, 4, 4, 4, 4, 4, 4, 4, 4, 4] x.1, .int .i64 x.2, .int .i64 sa, .int .i64 d0, .int .i64 d1, .int .i64 d2]]))))) ∧
    (decide (mv < 0) = false → (0 ≤ k ∧ k < (List.length st : Int)) ∧ ∀ (x27 : Int), x27 = el st k.toNat → ∀ (x28 : Int), x28 = max x27 lo → (0 ≤ k ∧ k < (List.length st : Int)) ∧ ∀ (x29 : Int), x29 = el st k.toNat → (0 ≤ k ∧ k < (List.length sg : Int)) ∧ ∀ (x30 : Int), x30 = ec sg k.toNat 3 → (-9223372036854775808 ≤ x29 + x30 ∧ x29 + x30 ≤ 9223372036854775807) ∧ ∀ (x31 : Int), x31 = x29 + x30 → ∀ (x32 : Int), x32 = min x31 hi → (decide (x28 ≥ x32) = true → (-9223372036854775808 ≤ k + 1 ∧ k + 1 ≤ 9223372036854775807) ∧ ∀ (x33 : Int), x33 = k + 1 → K .normal ([.ce (.int .i64 lo), .ce (.int .i64 hi), .ce (.int .i64 mv), .ce (.fn (54 : FuncId) [0, 1, 2, 3] [4]), .ce (.ptr 1000005 0), .ce (.sl false [4] st), .ce (.int .i64 n), .ce (.int .i64 x33)], [[.int .i64 s0, .int .i64 s1, .int .i64 s2, .sl false [4, 4, 4, 4, 4, 4, 4] sg, .sl false [4, 4, 4] mk], [.int .i64 w0, .int .i64 w1, .int .i64 w2], [.int .i64 m], [.int .i64 sta, .int .i64 spa, .int .i64 aca, .int .i64 jea, .int .i64 loa, .int .i64 hia, .int .i64 bla, .int .i64 oga, .int .i64 sga, .sl false [4] pta, .int .i64 stb, .int .i64 spb, .int .i64 acb, .int .i64 jeb, .int .i64 lob, .int .i64 hib, .int .i64 blb, .int .i64 ogb, .int .i64 sgb, .sl false [4] ptb, .int .i64 stc, .int .i64 spc, .int .i64 acc, .int .i64 jec, .int .i64 loc, .int .i64 hic, .int .i64 blc, .int .i64 ogc, .int .i64 sgc, .sl false [4] ptc], [.fn (53 : FuncId) [4] []], [.mu [4, 4, 4, 4, 4, 4, 4, 4, 4, 4] pk, .int .i64 ln, .int .i64 sa, .int .i64 d0, .int .i64 d1, .int .i64 d2]])) ∧
    (decide (x28 ≥ x32) = false → (decide (k > 0) = true → (-9223372036854775808 ≤ k - 1 ∧ k - 1 ≤ 9223372036854775807) ∧ ∀ (x34 : Int), x34 = k - 1 → (0 ≤ x34 ∧ x34 < (List.length sg : Int)) ∧ (decide (mv < 0) = true → (0 ≤ k ∧ k < (List.length sg : Int)) ∧ (-9223372036854775808 ≤ x32 - x28 ∧ x32 - x28 ≤ 9223372036854775807) ∧ ∀ (x35 : Int), x35 = x32 - x28 → (((53 : FuncId) = (53 : FuncId) ∧ nl [4] [4] ∧ nl [] []) ∧ (m = 1 ∨ m = (-1 : Int)) ∧ okB3 bla blb blc ∧ (0 ≤ x35 ∧ x35 ≤ 1152921504606846976) ∧ (0 ≤ ln ∧ ln ≤ 1152921504606846976) ∧ List.length pk ≤ (100000000000 : Nat) ∧ ∀ (j : Nat), j < List.length pk → 0 ≤ ec pk j 1 ∧ ec pk j 1 ≤ ln) ∧ (∃ (x : List (List Int) × Int), x = vis bla blb blc m x32 x35 (tn1 (el sg x34.toNat) (el sg k.toNat) m w0) (tn1 (ec sg x34.toNat 1) (ec sg k.toNat 1) m w1) (tn1 (ec sg x34.toNat 2) (ec sg k.toNat 2) m w2) pk ln w0 w1 w2) ∧ ∀ (x : List (List Int) × Int), x = vis bla blb blc m x32 x35 (tn1 (el sg x34.toNat) (el sg k.toNat) m w0) (tn1 (ec sg x34.toNat 1) (ec sg k.toNat 1) m w1) (tn1 (ec sg x34.toNat 2) (ec sg k.toNat 2) m w2) pk ln w0 w1 w2 →
    (-9223372036854775808 ≤ k + 1 ∧ k + 1 ≤ 9223372036854775807) ∧ ∀ (x38 : Int), x38 = k + 1 → K .normal ([.ce (.int .i64 lo), .ce (.int .i64 hi), .ce (.int .i64 mv), .ce (.fn (54 : FuncId) [0, 1, 2, 3] [4]), .ce (.ptr 1000005 0), .ce (.sl false [4] st), .ce (.int .i64 n), .ce (.int .i64 x38)], [[.int .i64 s0, .int .i64 s1, .int .i64 s2, .sl false [4, 4, 4, 4, 4, 4, 4] sg, .sl false [4, 4, 4] mk], [.int .i64 (tn1 (el sg x34.toNat) (el sg k.toNat) m w0), .int .i64 (tn1 (ec sg x34.toNat 1) (ec sg k.toNat 1) m w1), .int .i64 (tn1 (ec sg x34.toNat 2) (ec sg k.toNat 2) m w2)], [.int .i64 m], [.int .i64 sta, .int .i64 spa, .int .i64 aca, .int .i64 jea, .int .i64 loa, .int .i64 hia, .int .i64 bla, .int .i64 oga, .int .i64 sga, .sl false [4] pta, .int .i64 stb, .int .i64 spb, .int .i64 acb, .int .i64 jeb, .int .i64 lob, .int .i64 hib, .int .i64 blb, .int .i64 ogb, .int .i64 sgb, .sl false [4] ptb, .int .i64 stc, .int .i64 spc, .int .i64 acc, .int .i64 jec, .int .i64 loc, .int .i64 hic, .int .i64 blc, .int .i64 ogc, .int .i64 sgc, .sl false [4] ptc], [.fn (53 : FuncId) [4] []], [.mu [4, 4, 4, 4, 4, 4, 4, 4, 4, 4] x.1, .int .i64 x.2, .int .i64 sa, .int .i64 d0, .int .i64 d1, .int .i64 d2]])) ∧
    (decide (mv < 0) = false → (0 ≤ k ∧ k < (List.length sg : Int)) ∧ (-9223372036854775808 ≤ x32 - x28 ∧ x32 - x28 ≤ 9223372036854775807) ∧ ∀ (x39 : Int), x39 = x32 - x28 → (((53 : FuncId) = (53 : FuncId) ∧ nl [4] [4] ∧ nl [] []) ∧ (m = 1 ∨ m = (-1 : Int)) ∧ okB3 bla blb blc ∧ (0 ≤ x39 ∧ x39 ≤ 1152921504606846976) ∧ (0 ≤ ln ∧ ln ≤ 1152921504606846976) ∧ List.length pk ≤ (100000000000 : Nat) ∧ ∀ (j : Nat), j < List.length pk → 0 ≤ ec pk j 1 ∧ ec pk j 1 ≤ ln) ∧ (∃ (x : List (List Int) × Int), x = vis bla blb blc m x28 x39 (tn1 (el sg x34.toNat) (el sg k.toNat) m w0) (tn1 (ec sg x34.toNat 1) (ec sg k.toNat 1) m w1) (tn1 (ec sg x34.toNat 2) (ec sg k.toNat 2) m w2) pk ln w0 w1 w2) ∧ ∀ (x : List (List Int) × Int), x = vis bla blb blc m x28 x39 (tn1 (el sg x34.toNat) (el sg k.toNat) m w0) (tn1 (ec sg x34.toNat 1) (ec sg k.toNat 1) m w1) (tn1 (ec sg x34.toNat 2) (ec sg k.toNat 2) m w2) pk ln w0 w1 w2 →
    (-9223372036854775808 ≤ k + 1 ∧ k + 1 ≤ 9223372036854775807) ∧ ∀ (x42 : Int), x42 = k + 1 → K .normal ([.ce (.int .i64 lo), .ce (.int .i64 hi), .ce (.int .i64 mv), .ce (.fn (54 : FuncId) [0, 1, 2, 3] [4]), .ce (.ptr 1000005 0), .ce (.sl false [4] st), .ce (.int .i64 n), .ce (.int .i64 x42)], [[.int .i64 s0, .int .i64 s1, .int .i64 s2, .sl false [4, 4, 4, 4, 4, 4, 4] sg, .sl false [4, 4, 4] mk], [.int .i64 (tn1 (el sg x34.toNat) (el sg k.toNat) m w0), .int .i64 (tn1 (ec sg x34.toNat 1) (ec sg k.toNat 1) m w1), .int .i64 (tn1 (ec sg x34.toNat 2) (ec sg k.toNat 2) m w2)], [.int .i64 m], [.int .i64 sta, .int .i64 spa, .int .i64 aca, .int .i64 jea, .int .i64 loa, .int .i64 hia, .int .i64 bla, .int .i64 oga, .int .i64 sga, .sl false [4] pta, .int .i64 stb, .int .i64 spb, .int .i64 acb, .int .i64 jeb, .int .i64 lob, .int .i64 hib, .int .i64 blb, .int .i64 ogb, .int .i64 sgb, .sl false [4] ptb, .int .i64 stc, .int .i64 spc, .int .i64 acc, .int .i64 jec, .int .i64 loc, .int .i64 hic, .int .i64 blc, .int .i64 ogc, .int .i64 sgc, .sl false [4] ptc], [.fn (53 : FuncId) [4] []], [.mu [4, 4, 4, 4, 4, 4, 4, 4, 4, 4] x.1, .int .i64 x.2, .int .i64 sa, .int .i64 d0, .int .i64 d1, .int .i64 d2]]))) ∧
    (decide (k > 0) = false → (decide (mv < 0) = true → (0 ≤ k ∧ k < (List.length sg : Int)) ∧ (-9223372036854775808 ≤ x32 - x28 ∧ x32 - x28 ≤ 9223372036854775807) ∧ ∀ (x43 : Int), x43 = x32 - x28 → (((53 : FuncId) = (53 : FuncId) ∧ nl [4] [4] ∧ nl [] []) ∧ (m = 1 ∨ m = (-1 : Int)) ∧ okB3 bla blb blc ∧ (0 ≤ x43 ∧ x43 ≤ 1152921504606846976) ∧ (0 ≤ ln ∧ ln ≤ 1152921504606846976) ∧ List.length pk ≤ (100000000000 : Nat) ∧ ∀ (j : Nat), j < List.length pk → 0 ≤ ec pk j 1 ∧ ec pk j 1 ≤ ln) ∧ (∃ (x : List (List Int) × Int), x = vis bla blb blc m x32 x43 (tn1 s0 (el sg k.toNat) m w0) (tn1 s1 (ec sg k.toNat 1) m w1) (tn1 s2 (ec sg k.toNat 2) m w2) pk ln w0 w1 w2) ∧ ∀ (x : List (List Int) × Int), x = vis bla blb blc m x32 x43 (tn1 s0 (el sg k.toNat) m w0) (tn1 s1 (ec sg k.toNat 1) m w1) (tn1 s2 (ec sg k.toNat 2) m w2) pk ln w0 w1 w2 → (-9223372036854775808 ≤ k + 1 ∧ k + 1 ≤ 9223372036854775807) ∧ ∀ (x46 : Int), x46 = k + 1 →
    K .normal ([.ce (.int .i64 lo), .ce (.int .i64 hi), .ce (.int .i64 mv), .ce (.fn (54 : FuncId) [0, 1, 2, 3] [4]), .ce (.ptr 1000005 0), .ce (.sl false [4] st), .ce (.int .i64 n), .ce (.int .i64 x46)], [[.int .i64 s0, .int .i64 s1, .int .i64 s2, .sl false [4, 4, 4, 4, 4, 4, 4] sg, .sl false [4, 4, 4] mk], [.int .i64 (tn1 s0 (el sg k.toNat) m w0), .int .i64 (tn1 s1 (ec sg k.toNat 1) m w1), .int .i64 (tn1 s2 (ec sg k.toNat 2) m w2)], [.int .i64 m], [.int .i64 sta, .int .i64 spa, .int .i64 aca, .int .i64 jea, .int .i64 loa, .int .i64 hia, .int .i64 bla, .int .i64 oga, .int .i64 sga, .sl false [4] pta, .int .i64 stb, .int .i64 spb, .int .i64 acb, .int .i64 jeb, .int .i64 lob, .int .i64 hib, .int .i64 blb, .int .i64 ogb, .int .i64 sgb, .sl false [4] ptb, .int .i64 stc, .int .i64 spc, .int .i64 acc, .int .i64 jec, .int .i64 loc, .int .i64 hic, .int .i64 blc, .int .i64 ogc, .int .i64 sgc, .sl false [4] ptc], [.fn (53 : FuncId) [4] []], [.mu [4, 4, 4, 4, 4, 4, 4, 4, 4, 4] x.1, .int .i64 x.2, .int .i64 sa, .int .i64 d0, .int .i64 d1, .int .i64 d2]])) ∧
    (decide (mv < 0) = false → (0 ≤ k ∧ k < (List.length sg : Int)) ∧ (-9223372036854775808 ≤ x32 - x28 ∧ x32 - x28 ≤ 9223372036854775807) ∧ ∀ (x47 : Int), x47 = x32 - x28 → (((53 : FuncId) = (53 : FuncId) ∧ nl [4] [4] ∧ nl [] []) ∧ (m = 1 ∨ m = (-1 : Int)) ∧ okB3 bla blb blc ∧ (0 ≤ x47 ∧ x47 ≤ 1152921504606846976) ∧ (0 ≤ ln ∧ ln ≤ 1152921504606846976) ∧ List.length pk ≤ (100000000000 : Nat) ∧ ∀ (j : Nat), j < List.length pk → 0 ≤ ec pk j 1 ∧ ec pk j 1 ≤ ln) ∧ (∃ (x : List (List Int) × Int), x = vis bla blb blc m x28 x47 (tn1 s0 (el sg k.toNat) m w0) (tn1 s1 (ec sg k.toNat 1) m w1) (tn1 s2 (ec sg k.toNat 2) m w2) pk ln w0 w1 w2) ∧ ∀ (x : List (List Int) × Int), x = vis bla blb blc m x28 x47 (tn1 s0 (el sg k.toNat) m w0) (tn1 s1 (ec sg k.toNat 1) m w1) (tn1 s2 (ec sg k.toNat 2) m w2) pk ln w0 w1 w2 → (-9223372036854775808 ≤ k + 1 ∧ k + 1 ≤ 9223372036854775807) ∧ ∀ (x50 : Int), x50 = k + 1 → K .normal ([.ce (.int .i64 lo), .ce (.int .i64 hi), .ce (.int .i64 mv), .ce (.fn (54 : FuncId) [0, 1, 2, 3] [4]), .ce (.ptr 1000005 0), .ce (.sl false [4] st), .ce (.int .i64 n), .ce (.int .i64 x50)], [[.int .i64 s0, .int .i64 s1, .int .i64 s2, .sl false [4, 4, 4, 4, 4, 4, 4] sg, .sl false [4, 4, 4] mk], [.int .i64 (tn1 s0 (el sg k.toNat) m w0), .int .i64 (tn1 s1 (ec sg k.toNat 1) m w1), .int .i64 (tn1 s2 (ec sg k.toNat 2) m w2)], [.int .i64 m], [.int .i64 sta, .int .i64 spa, .int .i64 aca, .int .i64 jea, .int .i64 loa, .int .i64 hia, .int .i64 bla, .int .i64 oga, .int .i64 sga, .sl false [4] pta, .int .i64 stb, .int .i64 spb, .int .i64 acb, .int .i64 jeb, .int .i64 lob, .int .i64 hib, .int .i64 blb, .int .i64 ogb, .int .i64 sgb, .sl false [4] ptb, .int .i64 stc, .int .i64 spc, .int .i64 acc, .int .i64 jec, .int .i64 loc, .int .i64 hic, .int .i64 blc, .int .i64 ogc, .int .i64 sgc, .sl false [4] ptc], [.fn (53 : FuncId) [4] []], [.mu [4, 4, 4, 4, 4, 4, 4, 4, 4, 4] x.1, .int .i64 x.2, .int .i64 sa, .int .i64 d0, .int .i64 d1, .int .i64 d2]])))))) ∧
    (decide (k < n) = false → K (.exit 2) ([], [[.int .i64 s0, .int .i64 s1, .int .i64 s2, .sl false [4, 4, 4, 4, 4, 4, 4] sg, .sl false [4, 4, 4] mk], [.int .i64 w0, .int .i64 w1, .int .i64 w2], [.int .i64 m], [.int .i64 sta, .int .i64 spa, .int .i64 aca, .int .i64 jea, .int .i64 loa, .int .i64 hia, .int .i64 bla, .int .i64 oga, .int .i64 sga, .sl false [4] pta, .int .i64 stb, .int .i64 spb, .int .i64 acb, .int .i64 jeb, .int .i64 lob, .int .i64 hib, .int .i64 blb, .int .i64 ogb, .int .i64 sgb, .sl false [4] ptb, .int .i64 stc, .int .i64 spc, .int .i64 acc, .int .i64 jec, .int .i64 loc, .int .i64 hic, .int .i64 blc, .int .i64 ogc, .int .i64 sgc, .sl false [4] ptc], [.fn (53 : FuncId) [4] []], [.mu [4, 4, 4, 4, 4, 4, 4, 4, 4, 4] pk, .int .i64 ln, .int .i64 sa, .int .i64 d0, .int .i64 d1, .int .i64 d2]]))) := by kernel_rfl
theorem vcEach (s0 s1 s2 lo hi mv w0 w1 w2 m ln sa d0 d1 d2 : Int) (sg mk pk : List (List Int)) (sta spa aca jea loa hia bla oga sga stb spb acb jeb lob hib blb ogb sgb stc spc acc jec loc hic blc ogc sgc : Int) (pta ptb ptc : List (List Int)) (Q : Res → Prop) : (nfun true CEach Try.f57 (bodyOf Try.f57) [.agg [.int .i64 s0, .int .i64 s1, .int .i64 s2, .sl false [4, 4, 4, 4, 4, 4, 4] sg, .sl false [4, 4, 4] mk], .ce (.int .i64 lo), .ce (.int .i64 hi), .ce (.int .i64 mv), .ce (.fn 54 [0, 1, 2, 3] [4])] [[.int .i64 w0, .int .i64 w1, .int .i64 w2], [.int .i64 m], [.int .i64 sta, .int .i64 spa, .int .i64 aca, .int .i64 jea, .int .i64 loa, .int .i64 hia, .int .i64 bla, .int .i64 oga, .int .i64 sga, .sl false [4] pta, .int .i64 stb, .int .i64 spb, .int .i64 acb, .int .i64 jeb, .int .i64 lob, .int .i64 hib, .int .i64 blb, .int .i64 ogb, .int .i64 sgb, .sl false [4] ptb, .int .i64 stc, .int .i64 spc, .int .i64 acc, .int .i64 jec, .int .i64 loc, .int .i64 hic, .int .i64 blc, .int .i64 ogc, .int .i64 sgc, .sl false [4] ptc], [.fn 53 [4] []], [.mu [4, 4, 4, 4, 4, 4, 4, 4, 4, 4] pk, .int .i64 ln, .int .i64 sa, .int .i64 d0, .int .i64 d1, .int .i64 d2]] Q) =
    (((List.length sg : Int) = (List.length sg : Int) ∧ (0 : Int) = (0 : Int) ∧ (0 : Int) = (0 : Int) ∧ (0 : Nat) = (0 : Nat) ∧ okLen sg ∧ ((54 : FuncId) = (54 : FuncId) ∧ nl [0, 1, 2, 3] [0, 1, 2, 3] ∧ nl [4] [4]) ∧ (53 : FuncId) = (53 : FuncId) ∧ nl [4] [4] ∧ nl [] []) ∧ ∀ (x : List (List Int)), x = starts sg (List.length sg) → ((List.length sg : Int) = (List.length sg : Int) ∧ (0 : Int) = (0 : Int) ∧ x = starts sg (List.length sg) ∧ ((54 : FuncId) = (54 : FuncId) ∧ nl [0, 1, 2, 3] [0, 1, 2, 3] ∧ nl [4] [4]) ∧ ((53 : FuncId) = (53 : FuncId) ∧ nl [4] [4] ∧ nl [] []) ∧ mv = m ∧ (m = 1 ∨ m = (-1 : Int)) ∧ (0 ≤ lo ∧ lo ≤ hi ∧ hi ≤ plen sg) ∧ okLen sg ∧ okPts s0 s1 s2 sg ∧ okB3 bla blb blc ∧ List.length pk = (0 : Nat) ∧ ln = 0) ∧ ∀ (x : LegS), x = legK s0 s1 s2 sg bla blb blc lo hi m { pk := [], ln := (0 : Int), a0 := w0, a1 := w1, a2 := w2, bg := if m < 0 then plen sg else (0 : Int) } (List.length sg) →
    Q { val := .tup [], own := false, pars := [[.int .i64 x.a0, .int .i64 x.a1, .int .i64 x.a2], [.int .i64 m], [.int .i64 sta, .int .i64 spa, .int .i64 aca, .int .i64 jea, .int .i64 loa, .int .i64 hia, .int .i64 bla, .int .i64 oga, .int .i64 sga, .sl false [4] pta, .int .i64 stb, .int .i64 spb, .int .i64 acb, .int .i64 jeb, .int .i64 lob, .int .i64 hib, .int .i64 blb, .int .i64 ogb, .int .i64 sgb, .sl false [4] ptb, .int .i64 stc, .int .i64 spc, .int .i64 acc, .int .i64 jec, .int .i64 loc, .int .i64 hic, .int .i64 blc, .int .i64 ogc, .int .i64 sgc, .sl false [4] ptc], [.fn (53 : FuncId) [4] []], [.mu [4, 4, 4, 4, 4, 4, 4, 4, 4, 4] x.pk, .int .i64 x.ln, .int .i64 sa, .int .i64 d0, .int .i64 d1, .int .i64 d2]], news := [] }) := by kernel_rfl
end Go.Proofs.Ytneingpnkdeooaa
namespace U
theorem bgn_prev {s i : Int} {sg : List (List Int)} {c : Nat} (h : ¬ i ≤ 0) : bgn s sg c i = ec sg (i - 1).toNat c := by unfold bgn; rw [if_neg h]
theorem bgn_first {s i : Int} {sg : List (List Int)} {c : Nat} (h : i ≤ 0) : bgn s sg c i = s := by unfold bgn; rw [if_pos h]
theorem legS_n {m a b : Int} (h : m < 0) : legS m a b = b := if_pos h
theorem legS_p {m a b : Int} (h : ¬ m < 0) : legS m a b = a := if_neg h
theorem starts_len (sg : List (List Int)) : ∀ k, (starts sg k).length = k
  | 0 => rfl
  | k + 1 => by unfold starts; rw [List.length_append, starts_len sg k]; rfl
theorem el_starts {sg : List (List Int)} : ∀ {n i : Nat}, i < n → el (starts sg n) i = plen (sg.take i)
  | n + 1, i, h => by
    have e : el (starts sg (n + 1)) i = ec (starts sg n ++ [[plen (sg.take n)]]) i 0 := rfl
    rw [e, ec_app, starts_len]
    split
    · rename_i hi; exact el_starts hi
    · have : i = n := by omega
      subst this
      rw [Nat.sub_self]
      rfl
theorem leg_vis {s0 s1 s2 : Int} {sg : List (List Int)} {b0 b1 b2 lo hh m low high i n0 n1 n2 : Int} {x : LegS} {k : Nat} (hm : m = 1 ∨ m = -1) (hlow : legLow x.bg (legE sg m x.bg i) lo hh = low) (hhigh : legHigh x.bg (legE sg m x.bg i) lo hh = high)
    (hlt : low < high) (hi : i = legI sg.length m k) (y : List (List Int) × Int) (hy : y = vis b0 b1 b2 m (legS m low high) (high - low) n0 n1 n2 x.pk x.ln x.a0 x.a1 x.a2)
    (h0 : n0 = tn1 (bgn s0 sg 0 i) (ec sg i.toNat 0) m x.a0) (h1 : n1 = tn1 (bgn s1 sg 1 i) (ec sg i.toNat 1) m x.a1) (h2 : n2 = tn1 (bgn s2 sg 2 i) (ec sg i.toNat 2) m x.a2) :
    legStep s0 s1 s2 sg b0 b1 b2 lo hh m x k = ⟨y.1, y.2, n0, n1, n2, legE sg m x.bg i⟩ := by
  unfold legStep legSeg
  rw [← hi, hlow, hhigh, ← tn1_fc1 hm, ← tn1_fc1 hm, ← tn1_fc1 hm, ← h0, ← h1, ← h2]
  unfold legPut
  rw [if_pos hlt, hy]
  rfl
theorem leg_skip {s0 s1 s2 : Int} {sg : List (List Int)} {b0 b1 b2 lo hh m low high i : Int} {x : LegS} {k : Nat} (hlow : legLow x.bg (legE sg m x.bg i) lo hh = low) (hhigh : legHigh x.bg (legE sg m x.bg i) lo hh = high)
    (hlt : ¬ low < high) (hi : i = legI sg.length m k) : legStep s0 s1 s2 sg b0 b1 b2 lo hh m x k = ⟨x.pk, x.ln, x.a0, x.a1, x.a2, legE sg m x.bg i⟩ := by
  unfold legStep legSeg
  rw [← hi, hlow, hhigh]
  unfold legPut
  rw [if_neg hlt]
theorem take_ok {sg : List (List Int)} (hl : okLen sg) (q : Nat) : 0 ≤ plen (sg.take q) ∧ plen (sg.take q) ≤ 4503599627370496 := by
  have hl1 := hl.1
  have := plen_le (l := sg.take q) ⟨by rw [List.length_take]; omega, fun j hj => by
    rw [List.length_take] at hj
    have := hl.2 j (by omega)
    unfold ec at this ⊢
    simp only [List.getD_eq_getElem?_getD, List.getElem?_take] at this ⊢
    rw [if_pos (by omega)]
    exact this⟩
  exact this
theorem each_lh {sg : List (List Int)} {m bg i lo hh : Int} {k : Nat} (hl : okLen sg) (hm : m = 1 ∨ m = -1) (hk : k < sg.length) (h1 : m = 1 → bg = plen (sg.take k)) (h2 : m = -1 → bg = plen (sg.take (sg.length - k))) (hi : i = legI sg.length m k) (hlh : lo ≤ hh) :
    ((0 ≤ plen (sg.take i.toNat) ∧ plen (sg.take i.toNat) ≤ 4503599627370496) ∧ 0 ≤ ec sg i.toNat 3 ∧ ec sg i.toNat 3 ≤ 4294967296) ∧ legLow bg (legE sg m bg i) lo hh = max (plen (sg.take i.toNat)) lo ∧ legHigh bg (legE sg m bg i) lo hh = min (plen (sg.take i.toNat) + ec sg i.toNat 3) hh := by
  have hb := legI_bd (m := m) hk
  rw [← hi] at hb
  have hlen := hl.2 i.toNat (by omega)
  refine ⟨⟨take_ok hl _, by omega⟩, ?_⟩
  unfold legLow legHigh legE
  rcases hm with rfl | rfl
  · have e : i = (k : Int) := by rw [hi]; rfl
    have e2 : i.toNat = k := by omega
    rw [h1 rfl, e2]
    rw [e2] at hlen
    omega
  · have e : i = (sg.length : Int) - 1 - (k : Int) := by rw [hi]; rfl
    have e2 : i.toNat = sg.length - (k + 1) := by omega
    rw [h2 rfl, e2, show sg.length - k = sg.length - (k + 1) + 1 by omega, plen_next sg (by omega)]
    rw [e2] at hlen
    omega
end U
namespace Go.Proofs.Ytneingpnkdeooaa
open Go Go.HL U
attribute [local irreducible] hfun bodyT fragT
theorem loopE1 : ∀ v Q, (LE1 v).wp Q → hloop CEach anE1 (nthLoop Try.f57 0) v Q := by
  intro v Q h
  unfold LE1 at h
  split at h
  case h_2 => exact h.elim
  rename_i lo hh mv g rs ex t st l n i s0 s1 s2 sg mk w0 w1 w2 m ax g2 r2 e2 pk ln sa d0 d1 d2
  split at h
  case h_2 => exact h.elim
  rename_i sta spa aca jea loa hia bla oga sga pta stb spb acb jeb lob hib blb ogb sgb ptb stc spc acc jec loc hic blc ogc sgc ptc
  obtain ⟨⟨hn, hi0, ht, hst, hl, ⟨hg, hrs, hex⟩, hg2, hr2, he2⟩, hq⟩ := h
  unfold nl at hrs hex hr2 he2
  subst hn hi0 ht hg hrs hex hg2 hr2 he2
  obtain rfl : st = [] := List.eq_nil_of_length_eq_zero hst
  refine hloop_rec (σ := Nat)
    (fun s => ([.ce (.int .i64 lo), .ce (.int .i64 hh), .ce (.int .i64 mv), .ce (.fn 54 [0, 1, 2, 3] [4]), .ce (.ptr 1000005 0), .ce (.int .i64 (plen (l.take s))), .ce (.sl false [4] (starts l s)), .ce (.lit true), .ce (.sl false [4, 4, 4, 4, 4, 4, 4] l), .ce (.int .i64 (l.length : Int)), .ce (.int .i64 (s : Int))],
      [[.int .i64 s0, .int .i64 s1, .int .i64 s2, .sl false [4, 4, 4, 4, 4, 4, 4] sg, .sl false [4, 4, 4] mk], [.int .i64 w0, .int .i64 w1, .int .i64 w2], [.int .i64 m], [.int .i64 sta, .int .i64 spa, .int .i64 aca, .int .i64 jea, .int .i64 loa, .int .i64 hia, .int .i64 bla, .int .i64 oga, .int .i64 sga, .sl false [4] pta, .int .i64 stb, .int .i64 spb, .int .i64 acb, .int .i64 jeb, .int .i64 lob, .int .i64 hib, .int .i64 blb, .int .i64 ogb, .int .i64 sgb, .sl false [4] ptb, .int .i64 stc, .int .i64 spc, .int .i64 acc, .int .i64 jec, .int .i64 loc, .int .i64 hic, .int .i64 blc, .int .i64 ogc, .int .i64 sgc, .sl false [4] ptc], [.fn 53 [4] []], [.mu [4, 4, 4, 4, 4, 4, 4, 4, 4, 4] pk, .int .i64 ln, .int .i64 sa, .int .i64 d0, .int .i64 d1, .int .i64 d2]]))
    (fun s => l.length - s)
    (fun s => s ≤ l.length)
    ?_ 0 (Nat.zero_le _)
  intro k hk K hn hx _
  have hl1 := hl.1
  have hpl := take_ok hl k
  have hsl := starts_len l k
  refine byVB (vbE1 s0 s1 s2 lo hh mv (plen (l.take k)) l.length k w0 w1 w2 m ln sa d0 d1 d2 sg mk l (starts l k) pk sta spa aca jea loa hia bla oga sga stb spb acb jeb lob hib blb ogb sgb stc spc acc jec loc hic blc ogc sgc pta ptb ptc K) ⟨fun g => ?_, fun g => ?_⟩
  · have g := of_decide_eq_true g
    have hkl : k < l.length := by omega
    have hlen := hl.2 k hkl
    have hkn : ((k : Int)).toNat = k := rfl
    rw [hkn]
    refine ⟨by omega, ⟨by omega, by unfold maxLen; omega⟩, by omega, fun x1 e1 => ⟨by omega, fun x2 e2 => ?_⟩⟩
    have := hn (k + 1) hkl (by omega)
    rw [plen_next l hkl, ← e1] at this
    rw [e2]
    exact this
  · have g := of_decide_eq_false g
    have hkl : k = l.length := by omega
    subst hkl
    exact hx 0 _ (hq _ rfl)
set_option maxHeartbeats 4000000 in
theorem loopE2 : ∀ v Q, (LE2 v).wp Q → hloop CEach anE2 (nthLoop Try.f57 1) v Q := by
  intro v Q h
  unfold LE2 at h
  split at h
  case h_2 => exact h.elim
  rename_i lo hh mv g rs ex st n k0 s0 s1 s2 sg mk w0 w1 w2 m ax g2 r2 e2 pk ln sa d0 d1 d2
  split at h
  case h_2 => exact h.elim
  rename_i sta spa aca jea loa hia bla oga sga pta stb spb acb jeb lob hib blb ogb sgb ptb stc spc acc jec loc hic blc ogc sgc ptc
  obtain ⟨⟨hn, hk0, hst, ⟨hg, hrs, hex⟩, ⟨hg2, hr2, he2⟩, hmv, hm, hlh, hl, hp, hb, hpk, hln⟩, hq⟩ := h
  unfold nl at hrs hex hr2 he2
  subst hn hk0 hst hg hrs hex hg2 hr2 he2 hmv hln
  obtain rfl : pk = [] := List.eq_nil_of_length_eq_zero hpk
  have j0 : legJ sg mv 0 ⟨[], 0, w0, w1, w2, if mv < 0 then plen sg else 0⟩ := by
    refine ⟨⟨Int.le_refl _, by dsimp only; omega⟩, by simp, fun j hj => by simp at hj, fun e => ?_, fun e => ?_⟩
    · subst e; rfl
    · subst e; simp
  have hJ := legJ_all (s0 := s0) (s1 := s1) (s2 := s2) (f := lo) (t := hh) hl hb hm j0
  refine hloop_rec (σ := LegS × Nat)
    (fun s => ([.ce (.int .i64 lo), .ce (.int .i64 hh), .ce (.int .i64 mv), .ce (.fn 54 [0, 1, 2, 3] [4]), .ce (.ptr 1000005 0), .ce (.sl false [4] (starts sg sg.length)), .ce (.int .i64 (sg.length : Int)), .ce (.int .i64 (s.2 : Int))],
      [[.int .i64 s0, .int .i64 s1, .int .i64 s2, .sl false [4, 4, 4, 4, 4, 4, 4] sg, .sl false [4, 4, 4] mk], [.int .i64 s.1.a0, .int .i64 s.1.a1, .int .i64 s.1.a2], [.int .i64 mv], [.int .i64 sta, .int .i64 spa, .int .i64 aca, .int .i64 jea, .int .i64 loa, .int .i64 hia, .int .i64 bla, .int .i64 oga, .int .i64 sga, .sl false [4] pta, .int .i64 stb, .int .i64 spb, .int .i64 acb, .int .i64 jeb, .int .i64 lob, .int .i64 hib, .int .i64 blb, .int .i64 ogb, .int .i64 sgb, .sl false [4] ptb, .int .i64 stc, .int .i64 spc, .int .i64 acc, .int .i64 jec, .int .i64 loc, .int .i64 hic, .int .i64 blc, .int .i64 ogc, .int .i64 sgc, .sl false [4] ptc], [.fn 53 [4] []], [.mu [4, 4, 4, 4, 4, 4, 4, 4, 4, 4] s.1.pk, .int .i64 s.1.ln, .int .i64 sa, .int .i64 d0, .int .i64 d1, .int .i64 d2]]))
    (fun s => sg.length - s.2)
    (fun s => s.2 ≤ sg.length ∧ s.1 = legK s0 s1 s2 sg bla blb blc lo hh mv ⟨[], 0, w0, w1, w2, if mv < 0 then plen sg else 0⟩ s.2)
    ?_ (⟨[], 0, w0, w1, w2, if mv < 0 then plen sg else 0⟩, 0) ⟨Nat.zero_le _, rfl⟩
  rintro ⟨x, k⟩ ⟨hk, he⟩ K hn hx _
  dsimp only at hk he hn ⊢
  have J := hJ k hk
  rw [← he] at J
  have hl1 := hl.1
  have hsl := starts_len sg sg.length
  refine byVB (vbE2 s0 s1 s2 lo hh mv sg.length k x.a0 x.a1 x.a2 mv x.ln sa d0 d1 d2 sg mk (starts sg sg.length) x.pk sta spa aca jea loa hia bla oga sga stb spb acb jeb lob hib blb ogb sgb stc spc acc jec loc hic blc ogc sgc pta ptb ptc K) ⟨fun gk => ?_, fun g => ?_⟩
  · have gk := of_decide_eq_true gk
    have hk : k < sg.length := by omega
    obtain ⟨J1, J2, J3, J4, J5⟩ := J
    have fin : ∀ y : LegS, y = legStep s0 s1 s2 sg bla blb blc lo hh mv x k → ∀ z : Int, z = (k : Int) + 1 →
        K .normal ([.ce (.int .i64 lo), .ce (.int .i64 hh), .ce (.int .i64 mv), .ce (.fn 54 [0, 1, 2, 3] [4]), .ce (.ptr 1000005 0), .ce (.sl false [4] (starts sg sg.length)), .ce (.int .i64 (sg.length : Int)), .ce (.int .i64 z)],
      [[.int .i64 s0, .int .i64 s1, .int .i64 s2, .sl false [4, 4, 4, 4, 4, 4, 4] sg, .sl false [4, 4, 4] mk], [.int .i64 y.a0, .int .i64 y.a1, .int .i64 y.a2], [.int .i64 mv], [.int .i64 sta, .int .i64 spa, .int .i64 aca, .int .i64 jea, .int .i64 loa, .int .i64 hia, .int .i64 bla, .int .i64 oga, .int .i64 sga, .sl false [4] pta, .int .i64 stb, .int .i64 spb, .int .i64 acb, .int .i64 jeb, .int .i64 lob, .int .i64 hib, .int .i64 blb, .int .i64 ogb, .int .i64 sgb, .sl false [4] ptb, .int .i64 stc, .int .i64 spc, .int .i64 acc, .int .i64 jec, .int .i64 loc, .int .i64 hic, .int .i64 blc, .int .i64 ogc, .int .i64 sgc, .sl false [4] ptc], [.fn 53 [4] []], [.mu [4, 4, 4, 4, 4, 4, 4, 4, 4, 4] y.pk, .int .i64 y.ln, .int .i64 sa, .int .i64 d0, .int .i64 d1, .int .i64 d2]]) := by
      intro y ey z ez
      have := hn (y, k + 1) ⟨hk, by rw [ey, he]; rfl⟩ (by dsimp only; omega)
      rw [ez]
      exact this
    have hplx := take_ok hl
    obtain ⟨hlo0, hlh, hhh⟩ := hlh
    have hkk : (k : Int) ≤ 1048576 := by omega
    have hlnB : 0 ≤ x.ln ∧ x.ln ≤ 1152921504606846976 := by omega
    clear hn hx hJ he
    refine ⟨fun gneg => ⟨by omega, fun x1 e1 => ⟨by omega, fun x2 e2 => ?_⟩⟩, fun gneg => ?_⟩
    · have gneg := of_decide_eq_true gneg
      have hI : x2 = legI sg.length mv k := by unfold legI; rw [if_pos gneg, e2, e1]
      have hi : 0 ≤ x2 ∧ x2 < (sg.length : Int) := by omega
      have hst : 0 ≤ x2 ∧ x2 < ((starts sg sg.length).length : Int) := by omega
      refine ⟨hst, ?_⟩
      rintro x3 e3 x4 e4
      refine ⟨hst, ?_⟩
      rintro x5 e5
      refine ⟨hi, ?_⟩
      rintro x6 e6
      have hsx : el (starts sg sg.length) (x2).toNat = plen (sg.take (x2).toNat) := el_starts (by omega)
      rw [hsx] at e3 e5
      obtain ⟨hpos, hlow0, hhigh0⟩ := each_lh (lo := lo) (hh := hh) hl hm hk J4 J5 hI hlh
      refine ⟨by omega, ?_⟩
      rintro x7 e7 x8 e8
      have hlow : legLow x.bg (legE sg mv x.bg (x2)) lo hh = x4 := by rw [hlow0, e4, e3]
      have hhigh : legHigh x.bg (legE sg mv x.bg (x2)) lo hh = x8 := by rw [hhigh0, e8, e7, e5, e6]
      refine ⟨fun g => ⟨by omega, fun z ez => ?_⟩, fun g => ?_⟩
      · exact fin _ (leg_skip hlow hhigh (by have := of_decide_eq_true g; omega) hI).symm z ez
      · have g : x4 < x8 := by have := of_decide_eq_false g; omega
        have hx48 : 0 ≤ x8 - x4 ∧ x8 - x4 ≤ 4503599627370496 := by omega
        refine ⟨fun gi => ⟨by omega, fun j ej => ⟨by have := of_decide_eq_true gi; omega, fun gm => ?_, fun gm => ?_⟩⟩, fun gi => ⟨fun gm => ?_, fun gm => ?_⟩⟩
        · have gi := of_decide_eq_true gi
          refine ⟨hi, by omega, fun d ed => ⟨⟨⟨rfl, rfl, rfl⟩, hm, hb, by omega, by omega, by omega, J3⟩, ⟨_, rfl⟩, fun y ey => ⟨by omega, fun z ez => ?_⟩⟩⟩
          exact fin _ (leg_vis (n0 := tn1 (el sg j.toNat) (el sg (x2).toNat) mv x.a0) (n1 := tn1 (ec sg j.toNat 1) (ec sg (x2).toNat 1) mv x.a1) (n2 := tn1 (ec sg j.toNat 2) (ec sg (x2).toNat 2) mv x.a2) hm hlow hhigh g hI y (by rw [ey, ed, legS_n gneg]) (by rw [bgn_prev (by omega)]; rw [ej]; rfl) (by rw [bgn_prev (by omega)]; rw [ej]) (by rw [bgn_prev (by omega)]; rw [ej])).symm z ez
        · exact absurd gneg (of_decide_eq_false gm)
        · have gi := of_decide_eq_false gi
          refine ⟨hi, by omega, fun d ed => ⟨⟨⟨rfl, rfl, rfl⟩, hm, hb, by omega, by omega, by omega, J3⟩, ⟨_, rfl⟩, fun y ey => ⟨by omega, fun z ez => ?_⟩⟩⟩
          exact fin _ (leg_vis (n0 := tn1 (s0) (el sg (x2).toNat) mv x.a0) (n1 := tn1 (s1) (ec sg (x2).toNat 1) mv x.a1) (n2 := tn1 (s2) (ec sg (x2).toNat 2) mv x.a2) hm hlow hhigh g hI y (by rw [ey, ed, legS_n gneg]) (by rw [bgn_first (by omega)]; rfl) (by rw [bgn_first (by omega)]) (by rw [bgn_first (by omega)])).symm z ez
        · exact absurd gneg (of_decide_eq_false gm)
    · have gneg := of_decide_eq_false gneg
      have hI : (k : Int) = legI sg.length mv k := by unfold legI; rw [if_neg gneg]
      have hi : 0 ≤ (k : Int) ∧ (k : Int) < (sg.length : Int) := by omega
      have hst : 0 ≤ (k : Int) ∧ (k : Int) < ((starts sg sg.length).length : Int) := by omega
      refine ⟨hst, ?_⟩
      rintro x3 e3 x4 e4
      refine ⟨hst, ?_⟩
      rintro x5 e5
      refine ⟨hi, ?_⟩
      rintro x6 e6
      have hsx : el (starts sg sg.length) ((k : Int)).toNat = plen (sg.take ((k : Int)).toNat) := el_starts (by omega)
      rw [hsx] at e3 e5
      obtain ⟨hpos, hlow0, hhigh0⟩ := each_lh (lo := lo) (hh := hh) hl hm hk J4 J5 hI hlh
      refine ⟨by omega, ?_⟩
      rintro x7 e7 x8 e8
      have hlow : legLow x.bg (legE sg mv x.bg ((k : Int))) lo hh = x4 := by rw [hlow0, e4, e3]
      have hhigh : legHigh x.bg (legE sg mv x.bg ((k : Int))) lo hh = x8 := by rw [hhigh0, e8, e7, e5, e6]
      refine ⟨fun g => ⟨by omega, fun z ez => ?_⟩, fun g => ?_⟩
      · exact fin _ (leg_skip hlow hhigh (by have := of_decide_eq_true g; omega) hI).symm z ez
      · have g : x4 < x8 := by have := of_decide_eq_false g; omega
        have hx48 : 0 ≤ x8 - x4 ∧ x8 - x4 ≤ 4503599627370496 := by omega
        refine ⟨fun gi => ⟨by omega, fun j ej => ⟨by have := of_decide_eq_true gi; omega, fun gm => ?_, fun gm => ?_⟩⟩, fun gi => ⟨fun gm => ?_, fun gm => ?_⟩⟩
        · exact absurd (of_decide_eq_true gm) (by omega)
        · have gi := of_decide_eq_true gi
          refine ⟨hi, by omega, fun d ed => ⟨⟨⟨rfl, rfl, rfl⟩, hm, hb, by omega, by omega, by omega, J3⟩, ⟨_, rfl⟩, fun y ey => ⟨by omega, fun z ez => ?_⟩⟩⟩
          exact fin _ (leg_vis (n0 := tn1 (el sg j.toNat) (el sg ((k : Int)).toNat) mv x.a0) (n1 := tn1 (ec sg j.toNat 1) (ec sg ((k : Int)).toNat 1) mv x.a1) (n2 := tn1 (ec sg j.toNat 2) (ec sg ((k : Int)).toNat 2) mv x.a2) hm hlow hhigh g hI y (by rw [ey, ed, legS_p gneg]) (by rw [bgn_prev (by omega)]; rw [ej]; rfl) (by rw [bgn_prev (by omega)]; rw [ej]) (by rw [bgn_prev (by omega)]; rw [ej])).symm z ez
        · exact absurd (of_decide_eq_true gm) (by omega)
        · have gi := of_decide_eq_false gi
          refine ⟨hi, by omega, fun d ed => ⟨⟨⟨rfl, rfl, rfl⟩, hm, hb, by omega, by omega, by omega, J3⟩, ⟨_, rfl⟩, fun y ey => ⟨by omega, fun z ez => ?_⟩⟩⟩
          exact fin _ (leg_vis (n0 := tn1 (s0) (el sg ((k : Int)).toNat) mv x.a0) (n1 := tn1 (s1) (ec sg ((k : Int)).toNat 1) mv x.a1) (n2 := tn1 (s2) (ec sg ((k : Int)).toNat 2) mv x.a2) hm hlow hhigh g hI y (by rw [ey, ed, legS_p gneg]) (by rw [bgn_first (by omega)]; rfl) (by rw [bgn_first (by omega)]) (by rw [bgn_first (by omega)])).symm z ez
  · have g := of_decide_eq_false g
    have hkl : k = sg.length := by omega
    subst hkl
    exact hx 2 _ (hq x he)
set_option maxHeartbeats 400000 in
set_option maxRecDepth 100000 in
theorem sEach : Sound Try.prog 57 SEach := by
  refine sound_of (C := CEach) tabEach Try.func57 (by kernel_rfl) (by decide +kernel) (by kernel_rfl) rfl ⟨sLeg2, trivial⟩ (loops2 (by kernel_rfl) (loopOK_of (an := anE1) (S := LE1) (by kernel_rfl) loopE1) (loopOK_of (an := anE2) (S := LE2) (by kernel_rfl) loopE2)) ?_
  intro hargs pars R h
  unfold SEach at h
  split at h
  case h_2 => exfalso; exact h
  rename_i s0 s1 s2 sg mk lo hh mv g rs ex w0 w1 w2 m ax g2 r2 e2 pk ln sa d0 d1 d2
  split at h
  case h_2 => exact h.elim
  rename_i sta spa aca jea loa hia bla oga sga pta stb spb acb jeb lob hib blb ogb sgb ptb stc spc acc jec loc hic blc ogc sgc ptc
  obtain ⟨⟨⟨hg, hrs, hex⟩, ⟨hg2, hr2, he2⟩, hmv, hm, hlh, hl, hp, hb, hpk, hln⟩, _, hq⟩ := h
  unfold nl at hrs hex hr2 he2
  subst hg hrs hex hg2 hr2 he2 hmv
  exact byVC (vcEach s0 s1 s2 lo hh mv w0 w1 w2 mv ln sa d0 d1 d2 sg mk pk sta spa aca jea loa hia bla oga sga stb spb acb jeb lob hib blb ogb sgb stc spc acc jec loc hic blc ogc sgc pta ptb ptc R) ⟨⟨rfl, rfl, rfl, rfl, hl, ⟨rfl, rfl, rfl⟩, rfl, rfl, rfl⟩, fun st est => ⟨⟨rfl, rfl, est, ⟨rfl, rfl, rfl⟩, ⟨rfl, rfl, rfl⟩, rfl, hm, hlh, hl, hp, hb, hpk, hln⟩, fun x ex => hq x ex⟩⟩
end Go.Proofs.Ytneingpnkdeooaa
namespace Go.Proofs.Ytneingpnkdeooaa
open Go Go.HL U
def tabLegP : List (FuncId × HL.Spec) := [(52, SPLen), (39, SClamp), (57, SEach)]
noncomputable def CLegP : Ctx := ⟨Try.prog, gam tabLegP, Try.f32.ntmps, [], [44, spl 10 1000012 0 9]⟩
theorem vcLegP (s0 s1 s2 f t d0 d1 d2 : Int) (sg mk : List (List Int)) (sta spa aca jea loa hia bla oga sga stb spb acb jeb lob hib blb ogb sgb stc spc acc jec loc hic blc ogc sgc : Int) (pta ptb ptc : List (List Int)) (Q : Res → Prop) : (nfun true CLegP Try.f32 (bodyOf Try.f32) [.agg [.int .i64 s0, .int .i64 s1, .int .i64 s2, .sl false [4, 4, 4, 4, 4, 4, 4] sg, .sl false [4, 4, 4] mk], .agg [.int .i64 sta, .int .i64 spa, .int .i64 aca, .int .i64 jea, .int .i64 loa, .int .i64 hia, .int .i64 bla, .int .i64 oga, .int .i64 sga, .sl false [4] pta, .int .i64 stb, .int .i64 spb, .int .i64 acb, .int .i64 jeb, .int .i64 lob, .int .i64 hib, .int .i64 blb, .int .i64 ogb, .int .i64 sgb, .sl false [4] ptb, .int .i64 stc, .int .i64 spc, .int .i64 acc, .int .i64 jec, .int .i64 loc, .int .i64 hic, .int .i64 blc, .int .i64 ogc, .int .i64 sgc, .sl false [4] ptc], .agg [.int .i64 d0, .int .i64 d1, .int .i64 d2], .ce (.int .i64 f), .ce (.int .i64 t)] [] Q) =
    (okLen sg ∧ ∀ (x1 : Int), x1 = plen sg → 0 ≤ x1 ∧ ∀ (x2 : Int), x2 = clamp x1 f → 0 ≤ x1 ∧ ∀ (x3 : Int), x3 = clamp x1 t → (decide (x2 > x3) = true → ∀ (x4 : Int), x4 = min x2 x3 → ∀ (x5 : Int), x5 = max x2 x3 → (((54 : Nat) = (54 : FuncId) ∧ nl [0, 1, 2, 3] [0, 1, 2, 3] ∧ nl [4] [4]) ∧ ((53 : Nat) = (53 : FuncId) ∧ nl [4] [4] ∧ nl [] []) ∧ (-1 : Int) = (-1 : Int) ∧ ((-1 : Int) = (1 : Int) ∨ (-1 : Int) = (-1 : Int)) ∧ (0 ≤ x4 ∧ x4 ≤ x5 ∧ x5 ≤ plen sg) ∧ okLen sg ∧ okPts s0 s1 s2 sg ∧ okB3 bla blb blc ∧ (0 : Nat) = (0 : Nat) ∧ (0 : Int) = (0 : Int)) ∧ (∃ (x : LegS), x = legK s0 s1 s2 sg bla blb blc x4 x5 (-1 : Int) { pk := [], ln := (0 : Int), a0 := d0, a1 := d1, a2 := d2, bg := if (-1 : Int) < (0 : Int) then plen sg else (0 : Int) } (List.length sg)) ∧ ∀ (x : LegS), x = legK s0 s1 s2 sg bla blb blc x4 x5 (-1 : Int) { pk := [], ln := (0 : Int), a0 := d0, a1 := d1, a2 := d2, bg := if (-1 : Int) < (0 : Int) then plen sg else (0 : Int) } (List.length sg) →
    Q ⟨.agg [.sl false [4, 4, 4, 4, 4, 4, 4, 4, 4, 4] x.pk, .int .i64 x.ln, .int .i64 x2, .int .i64 d0, .int .i64 d1, .int .i64 d2], false, [], []⟩) ∧ (decide (x2 > x3) = false → ∀ (x7 : Int), x7 = min x2 x3 → ∀ (x8 : Int), x8 = max x2 x3 → (((54 : Nat) = (54 : FuncId) ∧ nl [0, 1, 2, 3] [0, 1, 2, 3] ∧ nl [4] [4]) ∧ ((53 : Nat) = (53 : FuncId) ∧ nl [4] [4] ∧ nl [] []) ∧ (1 : Int) = (1 : Int) ∧ ((1 : Int) = (1 : Int) ∨ (1 : Int) = (-1 : Int)) ∧ (0 ≤ x7 ∧ x7 ≤ x8 ∧ x8 ≤ plen sg) ∧ okLen sg ∧ okPts s0 s1 s2 sg ∧ okB3 bla blb blc ∧ (0 : Nat) = (0 : Nat) ∧ (0 : Int) = (0 : Int)) ∧ (∃ (x : LegS), x = legK s0 s1 s2 sg bla blb blc x7 x8 (1 : Int) { pk := [], ln := (0 : Int), a0 := d0, a1 := d1, a2 := d2, bg := if (1 : Int) < (0 : Int) then plen sg else (0 : Int) } (List.length sg)) ∧ ∀ (x : LegS), x = legK s0 s1 s2 sg bla blb blc x7 x8 (1 : Int) { pk := [], ln := (0 : Int), a0 := d0, a1 := d1, a2 := d2, bg := if (1 : Int) < (0 : Int) then plen sg else (0 : Int) } (List.length sg) →
    Q ⟨.agg [.sl false [4, 4, 4, 4, 4, 4, 4, 4, 4, 4] x.pk, .int .i64 x.ln, .int .i64 x2, .int .i64 d0, .int .i64 d1, .int .i64 d2], false, [], []⟩)) := by kernel_rfl
end Go.Proofs.Ytneingpnkdeooaa
namespace U
theorem legK_mm {s0 s1 s2 : Int} {sg : List (List Int)} {b0 b1 b2 f t m : Int} {x : LegS} : ∀ k, legK s0 s1 s2 sg b0 b1 b2 (min f t) (max f t) m x k = legK s0 s1 s2 sg b0 b1 b2 f t m x k
  | 0 => rfl
  | k + 1 => by
    have e1 : min (min f t) (max f t) = min f t := by omega
    have e2 : max (min f t) (max f t) = max f t := by omega
    unfold legK
    rw [legK_mm k]
    unfold legStep legSeg legLow legHigh
    rw [e1, e2]
end U
namespace Go.Proofs.Ytneingpnkdeooaa
open Go Go.HL U
attribute [local irreducible] hfun bodyT fragT
set_option maxHeartbeats 400000 in
set_option maxRecDepth 100000 in
theorem sLegP : Sound Try.prog 32 SLeg := by
  refine sound_of (C := CLegP) tabLegP Try.func32 (by kernel_rfl) (by decide +kernel) (by kernel_rfl) rfl ⟨sPLen2, sClamp, sEach, trivial⟩ (loops0 (by kernel_rfl)) ?_
  intro hargs pars R h
  unfold SLeg at h
  split at h
  case h_2 => exfalso; exact h
  rename_i s0 s1 s2 sg mk ax d0 d1 d2 f t
  split at h
  case h_2 => exact h.elim
  rename_i sta spa aca jea loa hia bla oga sga pta stb spb acb jeb lob hib blb ogb sgb ptb stc spc acc jec loc hic blc ogc sgc ptc
  obtain ⟨⟨hl, hp, hb⟩, _, hq⟩ := h
  have hpl := plen_le hl
  refine byVC (vcLegP s0 s1 s2 f t d0 d1 d2 sg mk sta spa aca jea loa hia bla oga sga stb spb acb jeb lob hib blb ogb sgb stc spc acc jec loc hic blc ogc sgc pta ptb ptc R) ⟨hl, ?_⟩
  rintro x1 e1
  refine ⟨by omega, ?_⟩
  rintro x2 e2
  refine ⟨by omega, ?_⟩
  rintro x3 e3
  have c2 : clamp (plen sg) f = x2 := by rw [e2, e1]
  have c3 : clamp (plen sg) t = x3 := by rw [e3, e1]
  have b2 : 0 ≤ x2 ∧ x2 ≤ plen sg := by unfold clamp at c2; omega
  have b3 : 0 ≤ x3 ∧ x3 ≤ plen sg := by unfold clamp at c3; omega
  rw [c2, c3] at hq
  refine ⟨fun g => fun x5 e5 x6 e6 => ⟨⟨⟨rfl, rfl, rfl⟩, ⟨rfl, rfl, rfl⟩, rfl, .inr rfl, by omega, hl, hp, hb, rfl, rfl⟩, ⟨_, rfl⟩, fun x ex => hq x ?_⟩,
    fun g => fun x7 e7 x8 e8 => ⟨⟨⟨rfl, rfl, rfl⟩, ⟨rfl, rfl, rfl⟩, rfl, .inl rfl, by omega, hl, hp, hb, rfl, rfl⟩, ⟨_, rfl⟩, fun x ex => hq x ?_⟩⟩
  · have g := of_decide_eq_true g
    rw [ex, e5, e6, legK_mm]
    unfold leg legM
    rw [if_pos g]
  · have g := of_decide_eq_false g
    rw [ex, e7, e8, legK_mm]
    unfold leg legM
    rw [if_neg g]
end Go.Proofs.Ytneingpnkdeooaa
namespace U
open Go
structure TurnS where
  pk : List (List Int)
  ln : Int
  sa : Int
  d0 : Int
  d1 : Int
  d2 : Int
  ok : Bool
def turnR (s0 s1 s2 : Int) (sg : List (List Int)) (b0 b1 b2 : Int) (pk : List (List Int)) (ln sa d0 d1 d2 : Int) (st : Bool) (w to : Int) : TurnS :=
  if st = true ∧ tloose pk w = false then
    ⟨(leg s0 s1 s2 sg b0 b1 b2 (tface pk d0 0 w) (tface pk d1 1 w) (tface pk d2 2 w) (clamp (plen sg) (tplace pk sa w)) (clamp (plen sg) to)).pk,
     (leg s0 s1 s2 sg b0 b1 b2 (tface pk d0 0 w) (tface pk d1 1 w) (tface pk d2 2 w) (clamp (plen sg) (tplace pk sa w)) (clamp (plen sg) to)).ln,
     clamp (plen sg) (tplace pk sa w), tface pk d0 0 w, tface pk d1 1 w, tface pk d2 2 w, true⟩
  else ⟨[], 0, 0, 0, 0, 0, false⟩
end U
namespace Go.Proofs.Ytneingpnkdeooaa
open Go Go.HL U
def SStart2 (hargs : List HV) (pars : List (List HC)) : SR :=
  match hargs, pars with
  | [.ce (.int .i64 u)], [] => .det (-36028797018963968 ≤ u ∧ u ≤ 36028797018963967) ⟨.agg [.int .i64 (u * 256), .int .i64 0, .int .i64 0, .int .i64 (u * 256), .int .i64 (u * 256), .int .i64 (u * 256)], false, [], []⟩
  | _, _ => .fail
def STrnG (hargs : List HV) (pars : List (List HC)) : SR :=
  match hargs, pars with
  | [.agg [.int .i64 s0, .int .i64 s1, .int .i64 s2, .sl false [4, 4, 4, 4, 4, 4, 4] sg, .sl false [4, 4, 4] mk], .agg ax, .agg [.sl false [4, 4, 4, 4, 4, 4, 4, 4, 4, 4] pk, .int .i64 ln, .int .i64 sa, .int .i64 d0, .int .i64 d1, .int .i64 d2], .agg [.int .i64 u, .int .i64 v, .int .i64 a, .int .i64 l, .int .i64 p, .int .i64 b], .ce (.int .i64 to)], [] =>
    match ax with
    | [.int .i64 sta, .int .i64 spa, .int .i64 aca, .int .i64 jea, .int .i64 loa, .int .i64 hia, .int .i64 bla, .int .i64 oga, .int .i64 sga, .sl false [4] pta, .int .i64 stb, .int .i64 spb, .int .i64 acb, .int .i64 jeb, .int .i64 lob, .int .i64 hib, .int .i64 blb, .int .i64 ogb, .int .i64 sgb, .sl false [4] ptb, .int .i64 stc, .int .i64 spc, .int .i64 acc, .int .i64 jec, .int .i64 loc, .int .i64 hic, .int .i64 blc, .int .i64 ogc, .int .i64 sgc, .sl false [4] ptc] =>
      .all ((0 ≤ u ∧ u ≤ 9223372036854775807) ∧ okLen sg ∧ okPts s0 s1 s2 sg ∧ okB3 bla blb blc ∧ okTrk pk ln) TurnS
        (fun x => x = turnR s0 s1 s2 sg bla blb blc pk ln sa d0 d1 d2 (stl u v a l p) (clamp ln (u / 256)) to)
        (fun x => ⟨.tup [.agg [.sl false [4, 4, 4, 4, 4, 4, 4, 4, 4, 4] x.pk, .int .i64 x.ln, .int .i64 x.sa, .int .i64 x.d0, .int .i64 x.d1, .int .i64 x.d2], .agg [.int .i64 0, .int .i64 0, .int .i64 0, .int .i64 0, .int .i64 0, .int .i64 0], .ce (.bool x.ok)], false, [], []⟩)
    | _ => .fail
  | _, _ => .fail
def tabTrnP : List (FuncId × HL.Spec) := [(24, SStill), (31, SLoose), (12, SFace), (33, SPlace), (32, SLeg), (14, SStart2)]
noncomputable def CTrnP : Ctx := ⟨Try.prog, gam tabTrnP, Try.f15.ntmps, [], []⟩
theorem vcTrnP (s0 s1 s2 u v a l p b to ln sa d0 d1 d2 : Int) (sg mk pk : List (List Int)) (sta spa aca jea loa hia bla oga sga stb spb acb jeb lob hib blb ogb sgb stc spc acc jec loc hic blc ogc sgc : Int) (pta ptb ptc : List (List Int)) (Q : Res → Prop) : (nfun true CTrnP Try.f15 (bodyOf Try.f15) [.agg [.int .i64 s0, .int .i64 s1, .int .i64 s2, .sl false [4, 4, 4, 4, 4, 4, 4] sg, .sl false [4, 4, 4] mk], .agg [.int .i64 sta, .int .i64 spa, .int .i64 aca, .int .i64 jea, .int .i64 loa, .int .i64 hia, .int .i64 bla, .int .i64 oga, .int .i64 sga, .sl false [4] pta, .int .i64 stb, .int .i64 spb, .int .i64 acb, .int .i64 jeb, .int .i64 lob, .int .i64 hib, .int .i64 blb, .int .i64 ogb, .int .i64 sgb, .sl false [4] ptb, .int .i64 stc, .int .i64 spc, .int .i64 acc, .int .i64 jec, .int .i64 loc, .int .i64 hic, .int .i64 blc, .int .i64 ogc, .int .i64 sgc, .sl false [4] ptc], .agg [.sl false [4, 4, 4, 4, 4, 4, 4, 4, 4, 4] pk, .int .i64 ln, .int .i64 sa, .int .i64 d0, .int .i64 d1, .int .i64 d2], .agg [.int .i64 u, .int .i64 v, .int .i64 a, .int .i64 l, .int .i64 p, .int .i64 b], .ce (.int .i64 to)] [] Q) =
    ((256 : Int) ≠ (0 : Int) ∧ (-9223372036854775808 ≤ Int.tdiv u (256 : Int) ∧ Int.tdiv u (256 : Int) ≤ 9223372036854775807) ∧ ∀ (x1 : Int), x1 = Int.tdiv u (256 : Int) → True ∧ ∀ (x2 : Bool), x2 = stl u v a l p → ((!x2) = true → Q ⟨.tup [.agg [.sl false [4, 4, 4, 4, 4, 4, 4, 4, 4, 4] [], .int .i64 0, .int .i64 0, .int .i64 0, .int .i64 0, .int .i64 0], .agg [.int .i64 0, .int .i64 0, .int .i64 0, .int .i64 0, .int .i64 0, .int .i64 0], .ce (.bool false)], false, [], []⟩) ∧ ((!x2) = false → okTrk pk ln ∧ ∀ (x3 : Bool), x3 = tloose pk (clamp ln x1) → (x3 = true → Q ⟨.tup [.agg [.sl false [4, 4, 4, 4, 4, 4, 4, 4, 4, 4] [], .int .i64 0, .int .i64 0, .int .i64 0, .int .i64 0, .int .i64 0], .agg [.int .i64 0, .int .i64 0, .int .i64 0, .int .i64 0, .int .i64 0, .int .i64 0], .ce (.bool false)], false, [], []⟩) ∧ (x3 = false → okTrk pk ln ∧ ∀ (x4 : Int), x4 = tface pk d0 (0 : Nat) (clamp ln x1) → ∀ (x5 : Int), x5 = tface pk d1 (1 : Nat) (clamp ln x1) →
    ∀ (x6 : Int), x6 = tface pk d2 (2 : Nat) (clamp ln x1) → okTrk pk ln ∧ ∀ (x7 : Int), x7 = tplace pk sa (clamp ln x1) → (okLen sg ∧ okPts s0 s1 s2 sg ∧ okB3 bla blb blc) ∧ (∃ (x : LegS), x = leg s0 s1 s2 sg bla blb blc x4 x5 x6 (clamp (plen sg) x7) (clamp (plen sg) to)) ∧ ∀ (x : LegS), x = leg s0 s1 s2 sg bla blb blc x4 x5 x6 (clamp (plen sg) x7) (clamp (plen sg) to) → ((-36028797018963968 : Int) ≤ (0 : Int) ∧ (0 : Int) ≤ (36028797018963967 : Int)) ∧ ∀ (x9 : Int), x9 = 0 → ∀ (x10 : Int), x10 = 0 → ∀ (x11 : Int), x11 = 0 → ∀ (x12 : Int), x12 = 0 → ∀ (x13 : Int), x13 = 0 → ∀ (x14 : Int), x14 = 0 → Q ⟨.tup [.agg [.sl false [4, 4, 4, 4, 4, 4, 4, 4, 4, 4] x.pk, .int .i64 x.ln, .int .i64 (clamp (plen sg) x7), .int .i64 x4, .int .i64 x5, .int .i64 x6], .agg [.int .i64 x9, .int .i64 x10, .int .i64 x11, .int .i64 x12, .int .i64 x13, .int .i64 x14], .ce (.bool true)], false, [], []⟩))) := by kernel_rfl
end Go.Proofs.Ytneingpnkdeooaa
namespace Go.Proofs.Ytneingpnkdeooaa
open Go Go.HL U
attribute [local irreducible] hfun bodyT fragT
set_option maxHeartbeats 400000 in
set_option maxRecDepth 100000 in
theorem sStartW : Sound Try.prog 14 SStart2 := by
  refine sound_of (C := CStart) [] Try.func14 (by kernel_rfl) (by decide +kernel) (by kernel_rfl) rfl trivial (loops0 (by kernel_rfl)) ?_
  intro hargs pars R h
  unfold SStart2 at h
  split at h
  case h_2 => exfalso; exact h
  rename_i u
  obtain ⟨h1, hq⟩ := h
  refine byVC (vcStart u R) ⟨by omega, fun x e => ?_⟩
  rw [e]; exact hq
set_option maxHeartbeats 400000 in
set_option maxRecDepth 100000 in
theorem sTrnP : Sound Try.prog 15 STrnG := by
  refine sound_of (C := CTrnP) tabTrnP Try.func15 (by kernel_rfl) (by decide +kernel) (by kernel_rfl) rfl ⟨sStill, sLoose, sFace, sPlace, sLegP, sStartW, trivial⟩ (loops0 (by kernel_rfl)) ?_
  intro hargs pars R h
  unfold STrnG at h
  split at h
  case h_2 => exfalso; exact h
  rename_i s0 s1 s2 sg mk ax pk ln sa d0 d1 d2 u v a l p b to
  split at h
  case h_2 => exact h.elim
  rename_i sta spa aca jea loa hia bla oga sga pta stb spb acb jeb lob hib blb ogb sgb ptb stc spc acc jec loc hic blc ogc sgc ptc
  obtain ⟨⟨hu, hl, hp, hb, ht⟩, _, hq⟩ := h
  have hq := hq _ rfl
  unfold turnR at hq
  refine byVC (vcTrnP s0 s1 s2 u v a l p b to ln sa d0 d1 d2 sg mk pk sta spa aca jea loa hia bla oga sga stb spb acb jeb lob hib blb ogb sgb stc spc acc jec loc hic blc ogc sgc pta ptb ptc R) ?_
  rw [show u.tdiv 256 = u / 256 from tdiv_pos (by omega)]
  refine ⟨by omega, by omega, fun x1 e1 => ⟨trivial, fun x2 e2 => ⟨fun g => ?_, fun g => ⟨ht, fun x3 e3 => ⟨fun g3 => ?_, fun g3 => ?_⟩⟩⟩⟩⟩
  · have g : stl u v a l p = false := by rw [← e2]; simpa using g
    rw [g, if_neg (by simp)] at hq
    exact hq
  · rw [← e1, ← e3, g3, if_neg (by simp)] at hq
    exact hq
  · have g : stl u v a l p = true := by rw [← e2]; simpa using g
    rw [← e1, ← e3, g3, g, if_pos ⟨rfl, rfl⟩] at hq
    refine ⟨ht, fun x4 e4 x5 e5 x6 e6 => ⟨ht, fun x7 e7 => ⟨⟨hl, hp, hb⟩, ⟨_, rfl⟩, fun x ex => ⟨by omega, fun x9 e9 x10 e10 x11 e11 x12 e12 x13 e13 x14 e14 => ?_⟩⟩⟩⟩
    rw [← e4, ← e5, ← e6, ← e7, ← ex] at hq
    rw [e9, e10, e11, e12, e13, e14]
    exact hq
end Go.Proofs.Ytneingpnkdeooaa
namespace Go.Proofs.Ytneingpnkdeooaa
open Go Go.HL U
noncomputable def CStart3 : Ctx := ⟨Try.prog, gam [], Try.f38.ntmps, [], []⟩
theorem vcStart3 (u : Int) (Q : Res → Prop) : (nfun true CStart3 Try.f38 (bodyOf Try.f38) [.ce (.int .i64 u)] [] Q) =
    ((-9223372036854775808 ≤ u * 256 ∧ u * 256 ≤ 9223372036854775807) ∧ ∀ (x1 : Int), x1 = u * 256 → (-9223372036854775808 ≤ u * 256 ∧ u * 256 ≤ 9223372036854775807) ∧ ∀ (x2 : Int), x2 = u * 256 → (-9223372036854775808 ≤ u * 256 ∧ u * 256 ≤ 9223372036854775807) ∧ ∀ (x3 : Int), x3 = u * 256 → (-9223372036854775808 ≤ u * 256 ∧ u * 256 ≤ 9223372036854775807) ∧ ∀ (x4 : Int), x4 = u * 256 → Q ⟨.agg [.int .i64 x1, .int .i64 0, .int .i64 0, .int .i64 x2, .int .i64 x3, .int .i64 x4], false, [], []⟩) := by kernel_rfl
def SUnit (hargs : List HV) (pars : List (List HC)) : SR :=
  match hargs, pars with
  | [.ce (.int .i64 u)], [] => .det (0 ≤ u ∧ u ≤ 9223372036854775807) ⟨.ce (.int .i64 (u / 256)), false, [], []⟩
  | _, _ => .fail
def tabUnit : List (FuncId × HL.Spec) := [(58, SFloor)]
noncomputable def CUnit : Ctx := ⟨Try.prog, gam tabUnit, Try.f34.ntmps, [], []⟩
theorem vcUnit (u : Int) (Q : Res → Prop) : (nfun true CUnit Try.f34 (bodyOf Try.f34) [.ce (.int .i64 u)] [] Q) =
    ((((-9223372036854775807 : Int) ≤ u ∧ u ≤ 9223372036854775807) ∧ (0 : Int) < (256 : Int)) ∧ ∀ (x1 : Int), x1 = u / (256 : Int) → Q ⟨.ce (.int .i64 x1), false, [], []⟩) := by kernel_rfl
def tabPlaceR : List (FuncId × HL.Spec) := [(30, SPieceR)]
def tabFaceR : List (FuncId × HL.Spec) := [(30, SPieceR)]
noncomputable def CFaceR : Ctx := ⟨Try.prog, gam tabFaceR, Try.f13.ntmps, [], []⟩
theorem vcFaceR (u ln sa d0 d1 d2 : Int) (pk : List (List Int)) (Q : Res → Prop) : (nfun true CFaceR Try.f13 (bodyOf Try.f13) [.agg [.sl false [4, 4, 4, 4, 4, 4, 4, 4, 4, 4] pk, .int .i64 ln, .int .i64 sa, .int .i64 d0, .int .i64 d1, .int .i64 d2], .ce (.int .i64 u)] [] Q) =
    (okTrk pk ln ∧ ∀ (x1 : Int), x1 = tfind pk (clamp ln u) → ∀ (x2 : Int), x2 = clamp ln u → (decide (x1 < 0) = true → Q ⟨.agg [.int .i64 d0, .int .i64 d1, .int .i64 d2], false, [], []⟩) ∧ (decide (x1 < 0) = false → (0 ≤ x1 ∧ x1 < (List.length pk : Int)) ∧ ((ec pk x1.toNat 3 != (0 : Int)) = true → Q ⟨.agg [.int .i64 (ec pk x1.toNat 7), .int .i64 (ec pk x1.toNat 8), .int .i64 (ec pk x1.toNat 9)], false, [], []⟩) ∧ ((ec pk x1.toNat 3 != (0 : Int)) = false → (-9223372036854775808 ≤ el pk x1.toNat + ec pk x1.toNat 1 ∧ el pk x1.toNat + ec pk x1.toNat 1 ≤ 9223372036854775807) ∧ ∀ (x3 : Int), x3 = el pk x1.toNat + ec pk x1.toNat 1 → ((x2 == x3) = true → Q ⟨.agg [.int .i64 (ec pk x1.toNat 7), .int .i64 (ec pk x1.toNat 8), .int .i64 (ec pk x1.toNat 9)], false, [], []⟩) ∧ ((x2 == x3) = false → Q ⟨.agg [.int .i64 (ec pk x1.toNat 4), .int .i64 (ec pk x1.toNat 5), .int .i64 (ec pk x1.toNat 6)], false, [], []⟩)))) := by kernel_rfl
noncomputable def CPlaceR : Ctx := ⟨Try.prog, gam tabPlaceR, Try.f37.ntmps, [], []⟩
theorem vcPlaceR (u ln sa d0 d1 d2 : Int) (pk : List (List Int)) (Q : Res → Prop) : (nfun true CPlaceR Try.f37 (bodyOf Try.f37) [.agg [.sl false [4, 4, 4, 4, 4, 4, 4, 4, 4, 4] pk, .int .i64 ln, .int .i64 sa, .int .i64 d0, .int .i64 d1, .int .i64 d2], .ce (.int .i64 u)] [] Q) =
    (okTrk pk ln ∧ ∀ (x1 : Int), x1 = tfind pk (clamp ln u) → ∀ (x2 : Int), x2 = clamp ln u → (decide (x1 < 0) = true → Q ⟨.ce (.int .i64 sa), false, [], []⟩) ∧ (decide (x1 < 0) = false → (0 ≤ x1 ∧ x1 < (List.length pk : Int)) ∧ ∀ (x3 : Int), x3 = ec pk x1.toNat 2 → (0 ≤ x1 ∧ x1 < (List.length pk : Int)) ∧ ∀ (x4 : Int), x4 = ec pk x1.toNat 3 → (0 ≤ x1 ∧ x1 < (List.length pk : Int)) ∧ ∀ (x5 : Int), x5 = el pk x1.toNat → (-9223372036854775808 ≤ x2 - x5 ∧ x2 - x5 ≤ 9223372036854775807) ∧ ∀ (x6 : Int), x6 = x2 - x5 → (-9223372036854775808 ≤ x4 * x6 ∧ x4 * x6 ≤ 9223372036854775807) ∧ ∀ (x7 : Int), x7 = x4 * x6 → (-9223372036854775808 ≤ x3 + x7 ∧ x3 + x7 ≤ 9223372036854775807) ∧ ∀ (x8 : Int), x8 = x3 + x7 → Q ⟨.ce (.int .i64 x8), false, [], []⟩)) := by kernel_rfl
noncomputable def CLooseR : Ctx := ⟨Try.prog, gam tabPlaceR, Try.f36.ntmps, [], []⟩
theorem vcLooseR (u ln sa d0 d1 d2 : Int) (pk : List (List Int)) (Q : Res → Prop) : (nfun true CLooseR Try.f36 (bodyOf Try.f36) [.agg [.sl false [4, 4, 4, 4, 4, 4, 4, 4, 4, 4] pk, .int .i64 ln, .int .i64 sa, .int .i64 d0, .int .i64 d1, .int .i64 d2], .ce (.int .i64 u)] [] Q) =
    (okTrk pk ln ∧ ∀ (x1 : Int), x1 = tfind pk (clamp ln u) → ∀ (x2 : Int), x2 = clamp ln u → (decide (x1 ≥ 0) = true → (0 ≤ x1 ∧ x1 < (List.length pk : Int)) ∧ ∀ (x3 : Int), x3 = ec pk x1.toNat 3 → ((x3 == 0) = true → (0 ≤ x1 ∧ x1 < (List.length pk : Int)) ∧ ∀ (x4 : Int), x4 = el pk x1.toNat → (decide (x2 > x4) = true → (0 ≤ x1 ∧ x1 < (List.length pk : Int)) ∧ ∀ (x5 : Int), x5 = el pk x1.toNat → (0 ≤ x1 ∧ x1 < (List.length pk : Int)) ∧ ∀ (x6 : Int), x6 = ec pk x1.toNat 1 → (-9223372036854775808 ≤ x5 + x6 ∧ x5 + x6 ≤ 9223372036854775807) ∧ ∀ (x7 : Int), x7 = x5 + x6 → Q ⟨.ce (.bool (decide (x2 < x7))), false, [], []⟩) ∧ (decide (x2 > x4) = false → Q ⟨.ce (.bool false), false, [], []⟩)) ∧ ((x3 == 0) = false → Q ⟨.ce (.bool false), false, [], []⟩)) ∧ (decide (x1 ≥ 0) = false → Q ⟨.ce (.bool false), false, [], []⟩)) := by kernel_rfl
def SSameT (hargs : List HV) (pars : List (List HC)) : SR :=
  match hargs, pars with
  | [.agg [.sl false [4, 4, 4, 4, 4, 4, 4, 4, 4, 4] pk, .int .i64 ln, .int .i64 sa, .int .i64 d0, .int .i64 d1, .int .i64 d2], .agg [.sl false [4, 4, 4, 4, 4, 4, 4, 4, 4, 4] pk2, .int .i64 ln2, .int .i64 sa2, .int .i64 e0, .int .i64 e1, .int .i64 e2]], [] =>
    .det (pk2 = pk ∧ ln2 = ln ∧ sa2 = sa ∧ e0 = d0 ∧ e1 = d1 ∧ e2 = d2 ∧ pk.length ≤ 9223372036854775807) ⟨.ce (.bool true), false, [], []⟩
  | _, _ => .fail
def anSameT : LAnn := ⟨[2, 3, 36, 37], [], [1000002, 1000003], false⟩
def LSameT (v : LV) : LR :=
  match v with
  | ([.ce (.ptr 1000002 0), .ce (.ptr 1000003 0), .ce (.int .i64 n), .ce (.int .i64 i)], [[.sl false [4, 4, 4, 4, 4, 4, 4, 4, 4, 4] pk, .int .i64 ln, .int .i64 sa, .int .i64 d0, .int .i64 d1, .int .i64 d2], [.sl false [4, 4, 4, 4, 4, 4, 4, 4, 4, 4] pk2, .int .i64 ln2, .int .i64 sa2, .int .i64 e0, .int .i64 e1, .int .i64 e2]]) =>
    .det (pk2 = pk ∧ n = pk.length ∧ i = 0 ∧ pk.length ≤ 9223372036854775807) (.exit 0) ([], [[.sl false [4, 4, 4, 4, 4, 4, 4, 4, 4, 4] pk, .int .i64 ln, .int .i64 sa, .int .i64 d0, .int .i64 d1, .int .i64 d2], [.sl false [4, 4, 4, 4, 4, 4, 4, 4, 4, 4] pk2, .int .i64 ln2, .int .i64 sa2, .int .i64 e0, .int .i64 e1, .int .i64 e2]])
  | _ => .fail
noncomputable def CSameT : Ctx := ⟨Try.prog, gam [], Try.f17.ntmps, [(4, anSameT, LSameT)], []⟩
theorem vbSameT (n i ln sa d0 d1 d2 ln2 sa2 e0 e1 e2 : Int) (pk pk2 : List (List Int)) (K : HEx → LV → Prop) : (nbodyT true CSameT anSameT (nthLoop Try.f17 0) (([.ce (.ptr 1000002 0), .ce (.ptr 1000003 0), .ce (.int .i64 n), .ce (.int .i64 i)], [[.sl false [4, 4, 4, 4, 4, 4, 4, 4, 4, 4] pk, .int .i64 ln, .int .i64 sa, .int .i64 d0, .int .i64 d1, .int .i64 d2], [.sl false [4, 4, 4, 4, 4, 4, 4, 4, 4, 4] pk2, .int .i64 ln2, .int .i64 sa2, .int .i64 e0, .int .i64 e1, .int .i64 e2]])) K) =
    ((decide (i < n) = true → (0 ≤ i ∧ i < (List.length pk : Int)) ∧ (0 ≤ i ∧ i < (List.length pk2 : Int)) ∧ ((!(el pk i.toNat == el pk2 i.toNat && (ec pk i.toNat 1 == ec pk2 i.toNat 1 && (ec pk i.toNat 2 == ec pk2 i.toNat 2 && (ec pk i.toNat 3 == ec pk2 i.toNat 3 && (ec pk i.toNat 4 == ec pk2 i.toNat 4 && (ec pk i.toNat 5 == ec pk2 i.toNat 5 && (ec pk i.toNat 6 == ec pk2 i.toNat 6 && true)) && (ec pk i.toNat 7 == ec pk2 i.toNat 7 && (ec pk i.toNat 8 == ec pk2 i.toNat 8 && (ec pk i.toNat 9 == ec pk2 i.toNat 9 && true)) && true))))))) = true → K .ret ([], [[.sl false [4, 4, 4, 4, 4, 4, 4, 4, 4, 4] pk, .int .i64 ln, .int .i64 sa, .int .i64 d0, .int .i64 d1, .int .i64 d2], [.sl false [4, 4, 4, 4, 4, 4, 4, 4, 4, 4] pk2, .int .i64 ln2, .int .i64 sa2, .int .i64 e0, .int .i64 e1, .int .i64 e2]])) ∧ ((!(el pk i.toNat == el pk2 i.toNat && (ec pk i.toNat 1 == ec pk2 i.toNat 1 && (ec pk i.toNat 2 == ec pk2 i.toNat 2 && (ec pk i.toNat 3 == ec pk2 i.toNat 3 && (ec pk i.toNat 4 == ec pk2 i.toNat 4 && (ec pk i.toNat 5 == ec pk2 i.toNat 5 && (ec pk i.toNat 6 == ec pk2 i.toNat 6 && true)) && (ec pk i.toNat 7 == ec pk2 i.toNat 7 && (ec pk i.toNat 8 == ec pk2 i.toNat 8 && (ec pk i.toNat 9 == ec pk2 i.toNat 9 && true)) && true))))))) = false →
    (-9223372036854775808 ≤ i + 1 ∧ i + 1 ≤ 9223372036854775807) ∧ ∀ (x1 : Int), x1 = i + 1 → K .normal ([.ce (.ptr 1000002 0), .ce (.ptr 1000003 0), .ce (.int .i64 n), .ce (.int .i64 x1)], [[.sl false [4, 4, 4, 4, 4, 4, 4, 4, 4, 4] pk, .int .i64 ln, .int .i64 sa, .int .i64 d0, .int .i64 d1, .int .i64 d2], [.sl false [4, 4, 4, 4, 4, 4, 4, 4, 4, 4] pk2, .int .i64 ln2, .int .i64 sa2, .int .i64 e0, .int .i64 e1, .int .i64 e2]]))) ∧ (decide (i < n) = false → K (.exit 0) ([], [[.sl false [4, 4, 4, 4, 4, 4, 4, 4, 4, 4] pk, .int .i64 ln, .int .i64 sa, .int .i64 d0, .int .i64 d1, .int .i64 d2], [.sl false [4, 4, 4, 4, 4, 4, 4, 4, 4, 4] pk2, .int .i64 ln2, .int .i64 sa2, .int .i64 e0, .int .i64 e1, .int .i64 e2]]))) := by kernel_rfl
theorem vcSameT (ln sa d0 d1 d2 ln2 sa2 e0 e1 e2 : Int) (pk pk2 : List (List Int)) (Q : Res → Prop) : (nfun true CSameT Try.f17 (bodyOf Try.f17) [.agg [.sl false [4, 4, 4, 4, 4, 4, 4, 4, 4, 4] pk, .int .i64 ln, .int .i64 sa, .int .i64 d0, .int .i64 d1, .int .i64 d2], .agg [.sl false [4, 4, 4, 4, 4, 4, 4, 4, 4, 4] pk2, .int .i64 ln2, .int .i64 sa2, .int .i64 e0, .int .i64 e1, .int .i64 e2]] [] Q) =
    (((ln != ln2) = true → Q ⟨.ce (.bool false), false, [], []⟩) ∧ ((ln != ln2) = false → ((sa != sa2) = true → Q ⟨.ce (.bool false), false, [], []⟩) ∧ ((sa != sa2) = false → ((!(d0 == e0 && (d1 == e1 && (d2 == e2 && true)))) = true → Q ⟨.ce (.bool false), false, [], []⟩) ∧ ((!(d0 == e0 && (d1 == e1 && (d2 == e2 && true)))) = false → (((List.length pk : Int) != (List.length pk2 : Int)) = true → Q ⟨.ce (.bool false), false, [], []⟩) ∧ (((List.length pk : Int) != (List.length pk2 : Int)) = false → (pk2 = pk ∧ (List.length pk : Int) = (List.length pk : Int) ∧ (0 : Int) = (0 : Int) ∧ List.length pk ≤ (9223372036854775807 : Nat)) ∧ Q ⟨.ce (.bool true), false, [], []⟩))))) := by kernel_rfl
def tabTrnR : List (FuncId × HL.Spec) := [(34, SUnit), (35, SStill), (36, SLoose), (13, SFace), (37, SPlace), (28, SLeg), (38, SStart2)]
noncomputable def CTrnR : Ctx := ⟨Try.prog, gam tabTrnR, Try.f16.ntmps, [], []⟩
theorem vcTrnR (s0 s1 s2 u v a l p b to ln sa d0 d1 d2 : Int) (sg mk pk : List (List Int)) (sta spa aca jea loa hia bla oga sga stb spb acb jeb lob hib blb ogb sgb stc spc acc jec loc hic blc ogc sgc : Int) (pta ptb ptc : List (List Int)) (Q : Res → Prop) : (nfun true CTrnR Try.f16 (bodyOf Try.f16) [.agg [.int .i64 s0, .int .i64 s1, .int .i64 s2, .sl false [4, 4, 4, 4, 4, 4, 4] sg, .sl false [4, 4, 4] mk], .agg [.int .i64 sta, .int .i64 spa, .int .i64 aca, .int .i64 jea, .int .i64 loa, .int .i64 hia, .int .i64 bla, .int .i64 oga, .int .i64 sga, .sl false [4] pta, .int .i64 stb, .int .i64 spb, .int .i64 acb, .int .i64 jeb, .int .i64 lob, .int .i64 hib, .int .i64 blb, .int .i64 ogb, .int .i64 sgb, .sl false [4] ptb, .int .i64 stc, .int .i64 spc, .int .i64 acc, .int .i64 jec, .int .i64 loc, .int .i64 hic, .int .i64 blc, .int .i64 ogc, .int .i64 sgc, .sl false [4] ptc], .agg [.sl false [4, 4, 4, 4, 4, 4, 4, 4, 4, 4] pk, .int .i64 ln, .int .i64 sa, .int .i64 d0, .int .i64 d1, .int .i64 d2], .agg [.int .i64 u, .int .i64 v, .int .i64 a, .int .i64 l, .int .i64 p, .int .i64 b], .ce (.int .i64 to)] [] Q) =
    ((0 ≤ u ∧ u ≤ 9223372036854775807) ∧ ∀ (x1 : Int), x1 = u / (256 : Int) → True ∧ ∀ (x2 : Bool), x2 = stl u v a l p → ((!x2) = true → Q ⟨.tup [.agg [.sl false [4, 4, 4, 4, 4, 4, 4, 4, 4, 4] [], .int .i64 0, .int .i64 0, .int .i64 0, .int .i64 0, .int .i64 0], .agg [.int .i64 0, .int .i64 0, .int .i64 0, .int .i64 0, .int .i64 0, .int .i64 0], .ce (.bool false)], false, [], []⟩) ∧ ((!x2) = false → okTrk pk ln ∧ ∀ (x3 : Bool), x3 = tloose pk (clamp ln x1) → (x3 = true → Q ⟨.tup [.agg [.sl false [4, 4, 4, 4, 4, 4, 4, 4, 4, 4] [], .int .i64 0, .int .i64 0, .int .i64 0, .int .i64 0, .int .i64 0], .agg [.int .i64 0, .int .i64 0, .int .i64 0, .int .i64 0, .int .i64 0, .int .i64 0], .ce (.bool false)], false, [], []⟩) ∧ (x3 = false → okTrk pk ln ∧ ∀ (x4 : Int), x4 = tface pk d0 (0 : Nat) (clamp ln x1) → ∀ (x5 : Int), x5 = tface pk d1 (1 : Nat) (clamp ln x1) → ∀ (x6 : Int), x6 = tface pk d2 (2 : Nat) (clamp ln x1) →
    okTrk pk ln ∧ ∀ (x7 : Int), x7 = tplace pk sa (clamp ln x1) → (okLen sg ∧ okPts s0 s1 s2 sg ∧ okB3 bla blb blc) ∧ (∃ (x : LegS), x = leg s0 s1 s2 sg bla blb blc x4 x5 x6 (clamp (plen sg) x7) (clamp (plen sg) to)) ∧ ∀ (x : LegS), x = leg s0 s1 s2 sg bla blb blc x4 x5 x6 (clamp (plen sg) x7) (clamp (plen sg) to) → ((-36028797018963968 : Int) ≤ (0 : Int) ∧ (0 : Int) ≤ (36028797018963967 : Int)) ∧ ∀ (x9 : Int), x9 = 0 → ∀ (x10 : Int), x10 = 0 → ∀ (x11 : Int), x11 = 0 → ∀ (x12 : Int), x12 = 0 → ∀ (x13 : Int), x13 = 0 → ∀ (x14 : Int), x14 = 0 → Q ⟨.tup [.agg [.sl false [4, 4, 4, 4, 4, 4, 4, 4, 4, 4] x.pk, .int .i64 x.ln, .int .i64 (clamp (plen sg) x7), .int .i64 x4, .int .i64 x5, .int .i64 x6], .agg [.int .i64 x9, .int .i64 x10, .int .i64 x11, .int .i64 x12, .int .i64 x13, .int .i64 x14], .ce (.bool true)], false, [], []⟩))) := by kernel_rfl
end Go.Proofs.Ytneingpnkdeooaa
namespace Go.Proofs.Ytneingpnkdeooaa
open Go Go.HL U
attribute [local irreducible] hfun bodyT fragT
set_option maxHeartbeats 400000 in
set_option maxRecDepth 100000 in
theorem sStart3 : Sound Try.prog 38 SStart2 := by
  refine sound_of (C := CStart3) [] Try.func38 (by kernel_rfl) (by decide +kernel) (by kernel_rfl) rfl trivial (loops0 (by kernel_rfl)) ?_
  intro hargs pars R h
  unfold SStart2 at h
  split at h
  case h_2 => exfalso; exact h
  rename_i u
  obtain ⟨h1, hq⟩ := h
  refine byVC (vcStart3 u R) ⟨by omega, fun x e => ⟨by omega, fun x2 e2 => ⟨by omega, fun x3 e3 => ⟨by omega, fun x4 e4 => ?_⟩⟩⟩⟩
  rw [e, e2, e3, e4]; exact hq
set_option maxHeartbeats 400000 in
set_option maxRecDepth 100000 in
theorem sUnit : Sound Try.prog 34 SUnit := by
  refine sound_of (C := CUnit) tabUnit Try.func34 (by kernel_rfl) (by decide +kernel) (by kernel_rfl) rfl ⟨sFloor, trivial⟩ (loops0 (by kernel_rfl)) ?_
  intro hargs pars R h
  unfold SUnit at h
  split at h
  case h_2 => exfalso; exact h
  rename_i u
  obtain ⟨h1, hq⟩ := h
  refine byVC (vcUnit u R) ⟨by omega, fun x e => ?_⟩
  rw [e]; exact hq
set_option maxHeartbeats 400000 in
set_option maxRecDepth 100000 in
theorem sPlaceR : Sound Try.prog 37 SPlace := by
  refine sound_of (C := CPlaceR) tabPlaceR Try.func37 (by kernel_rfl) (by decide +kernel) (by kernel_rfl) rfl ⟨sPieceR, trivial⟩ (loops0 (by kernel_rfl)) ?_
  intro hargs pars R h
  unfold SPlace at h
  split at h
  case h_2 => exfalso; exact h
  rename_i pk ln sa d0 d1 d2 u
  obtain ⟨ht, hq⟩ := h
  have hl := ht.2.1
  have hc := clamp_bd (v := u) hl.1
  unfold tplace at hq
  refine byVC (vcPlaceR u ln sa d0 d1 d2 pk R) ⟨ht, fun x1 e1 x2 e2 => ?_⟩
  rw [← e2] at hq hc e1
  rw [← e1] at hq
  refine ⟨fun g => ?_, fun g => ?_⟩
  · rw [if_pos (of_decide_eq_true g)] at hq; exact hq
  · have g := of_decide_eq_false g
    rw [if_neg g] at hq
    rcases tfind_spec ht hc.2 with ⟨h1, h2⟩ | ⟨j, h1, h2, h3, h4⟩
    · omega
    have hj : x1.toNat = j := by omega
    have a := at_bd ht h1
    have b := ht.2.2.2.2.2 j h1
    rw [hj] at hq ⊢
    refine ⟨by omega, fun x3 e3 => ⟨by omega, fun x4 e4 => ⟨by omega, fun x5 e5 => ?_⟩⟩⟩
    have e5 : x5 = ec pk j 0 := e5
    refine ⟨by omega, fun x6 e6 => ?_⟩
    have c := mul3 (m := x4) (x := x6) (B := 18014398509481984) (by omega) (by omega)
    refine ⟨by omega, fun x7 e7 => ⟨by omega, fun x8 e8 => ?_⟩⟩
    rw [e8, e7, e6, e5, e4, e3]
    exact hq
set_option maxHeartbeats 400000 in
set_option maxRecDepth 100000 in
theorem sLooseR : Sound Try.prog 36 SLoose := by
  refine sound_of (C := CLooseR) tabPlaceR Try.func36 (by kernel_rfl) (by decide +kernel) (by kernel_rfl) rfl ⟨sPieceR, trivial⟩ (loops0 (by kernel_rfl)) ?_
  intro hargs pars R h
  unfold SLoose at h
  split at h
  case h_2 => exfalso; exact h
  rename_i pk ln sa d0 d1 d2 u
  obtain ⟨ht, hq⟩ := h
  have hl := ht.2.1
  have hc := clamp_bd (v := u) hl.1
  unfold tloose at hq
  refine byVC (vcLooseR u ln sa d0 d1 d2 pk R) ⟨ht, fun x1 e1 x2 e2 => ?_⟩
  rw [← e2] at hq hc e1
  rw [← e1] at hq
  refine ⟨fun g => ?_, fun g => ?_⟩
  · have g := of_decide_eq_true g
    rw [decide_eq_true (by omega)] at hq
    rcases tfind_spec ht hc.2 with ⟨h1, h2⟩ | ⟨j, h1, h2, h3, h4⟩
    · omega
    have hj : x1.toNat = j := by omega
    have a := at_bd ht h1
    rw [hj] at hq ⊢
    refine ⟨by omega, fun x3 e3 => ⟨fun g2 => ⟨by omega, fun x4 e4 => ⟨fun g3 => ⟨by omega, fun x5 e5 => ⟨by omega, fun x6 e6 => ⟨?_, fun x7 e7 => ?_⟩⟩⟩, fun g3 => ?_⟩⟩, fun g2 => ?_⟩⟩
    · have : endp pk j = el pk j + ec pk j 1 := rfl
      omega
    · have e7 : x7 = endp pk j := by rw [e7, e5, e6]; rfl
      have g3 : decide (ec pk j 0 < x2) = true := by rw [← g3, e4]; rfl
      rw [← e3, g2, g3, ← e7] at hq; exact hq
    · have g3 : decide (ec pk j 0 < x2) = false := by rw [← g3, e4]; rfl
      rw [g3, Bool.and_false] at hq; exact hq
    · rw [← e3, g2] at hq; exact hq
  · have g := of_decide_eq_false g
    rw [decide_eq_false (by omega)] at hq; exact hq
set_option maxHeartbeats 400000 in
set_option maxRecDepth 100000 in
theorem sFaceR : Sound Try.prog 13 SFace := by
  refine sound_of (C := CFaceR) tabFaceR Try.func13 (by kernel_rfl) (by decide +kernel) (by kernel_rfl) rfl ⟨sPieceR, trivial⟩ (loops0 (by kernel_rfl)) ?_
  intro hargs pars R h
  unfold SFace at h
  split at h
  case h_2 => exfalso; exact h
  rename_i pk ln sa d0 d1 d2 u
  obtain ⟨ht, hq⟩ := h
  have hl := ht.2.1
  refine byVC (vcFaceR u ln sa d0 d1 d2 pk R) ⟨ht, fun x1 e1 x2 e2 => ?_⟩
  rw [← e2] at hq e1
  have hb := clamp_bd (v := u) hl.1
  rw [← e2] at hb
  refine ⟨fun g => ?_, fun g => ?_⟩
  · have g := of_decide_eq_true g
    unfold tface at hq
    rw [e1] at g
    rw [if_pos g, if_pos g, if_pos g] at hq
    exact hq
  · have g := of_decide_eq_false g
    rcases tfind_spec ht hb.2 with ⟨_, e⟩ | ⟨j, j1, j2, j3, _⟩
    · omega
    · have ab := at_bd ht j1
      have ee : endp pk j = el pk j + ec pk j 1 := rfl
      rw [tface_of j2, tface_of j2, tface_of j2] at hq
      have e1 : x1 = (j : Int) := by omega
      subst e1
      have ht : Int.toNat (j : Int) = j := rfl
      rw [ht]
      refine ⟨by omega, fun g3 => ?_, fun g3 => ⟨by omega, fun x3 e3 => ⟨fun g4 => ?_, fun g4 => ?_⟩⟩⟩
      · have g3 : ec pk j 3 ≠ 0 := by simpa using g3
        rw [if_pos (.inl g3), if_pos (.inl g3), if_pos (.inl g3)] at hq
        exact hq
      · have g4 : x2 = ec pk j 0 + ec pk j 1 := by
          have : x2 = x3 := by simpa using g4
          rw [this, e3]; rfl
        rw [if_pos (.inr g4), if_pos (.inr g4), if_pos (.inr g4)] at hq
        exact hq
      · have g3 : ¬ ec pk j 3 ≠ 0 := by simpa using g3
        have g4 : ¬ x2 = ec pk j 0 + ec pk j 1 := by
          have : ¬ x2 = x3 := by simpa using g4
          rw [e3] at this; exact this
        have g5 : ¬ (ec pk j 3 ≠ 0 ∨ x2 = ec pk j 0 + ec pk j 1) := fun h => h.elim g3 g4
        rw [if_neg g5, if_neg g5, if_neg g5] at hq
        exact hq
theorem loopSameT : ∀ v Q, (LSameT v).wp Q → hloop CSameT anSameT (nthLoop Try.f17 0) v Q := by
  intro v Q h
  unfold LSameT at h
  split at h
  case h_2 => exact h.elim
  rename_i n i pk ln sa d0 d1 d2 pk2 ln2 sa2 e0 e1 e2
  obtain ⟨⟨h1, h2, h3, h4⟩, hq⟩ := h
  subst h1 h2 h3
  refine hloop_rec (σ := Nat) (fun k => ([.ce (.ptr 1000002 0), .ce (.ptr 1000003 0), .ce (.int .i64 (pk2.length : Int)), .ce (.int .i64 (k : Int))], [[.sl false [4, 4, 4, 4, 4, 4, 4, 4, 4, 4] pk2, .int .i64 ln, .int .i64 sa, .int .i64 d0, .int .i64 d1, .int .i64 d2], [.sl false [4, 4, 4, 4, 4, 4, 4, 4, 4, 4] pk2, .int .i64 ln2, .int .i64 sa2, .int .i64 e0, .int .i64 e1, .int .i64 e2]]))
    (fun k => pk2.length - k) (fun k => k ≤ pk2.length) ?_ 0 (Nat.zero_le _)
  rintro k hk K hn hx hr
  refine byVB (vbSameT pk2.length k ln sa d0 d1 d2 ln2 sa2 e0 e1 e2 pk2 pk2 K) ⟨fun g => ?_, fun g => ?_⟩
  · have g := of_decide_eq_true g
    refine ⟨by omega, by omega, fun g1 => ?_, fun _ => ⟨by omega, fun x1 e1 => ?_⟩⟩
    · simp at g1
    · rw [show x1 = ((k + 1 : Nat) : Int) by omega]
      exact hn (k + 1) (by omega) (by omega)
  · exact hx _ _ hq
set_option maxHeartbeats 400000 in
set_option maxRecDepth 100000 in
theorem sSameT : Sound Try.prog 17 SSameT := by
  refine sound_of (C := CSameT) [] Try.func17 (by kernel_rfl) (by decide +kernel) (by kernel_rfl) rfl trivial (loops1 (by kernel_rfl) (loopOK_of (an := anSameT) (S := LSameT) (by kernel_rfl) loopSameT)) ?_
  intro hargs pars R h
  unfold SSameT at h
  split at h
  case h_2 => exfalso; exact h
  rename_i pk ln sa d0 d1 d2 pk2 ln2 sa2 e0 e1 e2
  obtain ⟨⟨h1, h2, h3, h4, h5, h6, h7⟩, hq⟩ := h
  subst h1 h2 h3 h4 h5 h6
  refine byVC (vcSameT ln2 sa2 e0 e1 e2 ln2 sa2 e0 e1 e2 pk2 pk2 R) ⟨fun g => ?_, fun _ => ⟨fun g => ?_, fun _ => ⟨fun g => ?_, fun _ => ⟨fun g => ?_, fun _ => ⟨⟨rfl, rfl, rfl, h7⟩, hq⟩⟩⟩⟩⟩
  all_goals simp at g
set_option maxHeartbeats 400000 in
set_option maxRecDepth 100000 in
theorem sTrnR : Sound Try.prog 16 STrnG := by
  refine sound_of (C := CTrnR) tabTrnR Try.func16 (by kernel_rfl) (by decide +kernel) (by kernel_rfl) rfl ⟨sUnit, sStill2, sLooseR, sFaceR, sPlaceR, sLeg, sStart3, trivial⟩ (loops0 (by kernel_rfl)) ?_
  intro hargs pars R h
  unfold STrnG at h
  split at h
  case h_2 => exfalso; exact h
  rename_i s0 s1 s2 sg mk ax pk ln sa d0 d1 d2 u v a l p b to
  split at h
  case h_2 => exact h.elim
  rename_i sta spa aca jea loa hia bla oga sga pta stb spb acb jeb lob hib blb ogb sgb ptb stc spc acc jec loc hic blc ogc sgc ptc
  obtain ⟨⟨hu, hl, hp, hb, ht⟩, _, hq⟩ := h
  have hq := hq _ rfl
  unfold turnR at hq
  refine byVC (vcTrnR s0 s1 s2 u v a l p b to ln sa d0 d1 d2 sg mk pk sta spa aca jea loa hia bla oga sga stb spb acb jeb lob hib blb ogb sgb stc spc acc jec loc hic blc ogc sgc pta ptb ptc R) ?_
  refine ⟨by omega, fun x1 e1 => ⟨trivial, fun x2 e2 => ⟨fun g => ?_, fun g => ⟨ht, fun x3 e3 => ⟨fun g3 => ?_, fun g3 => ?_⟩⟩⟩⟩⟩
  · have g : stl u v a l p = false := by rw [← e2]; simpa using g
    rw [g, if_neg (by simp)] at hq
    exact hq
  · rw [← e1, ← e3, g3, if_neg (by simp)] at hq
    exact hq
  · have g : stl u v a l p = true := by rw [← e2]; simpa using g
    rw [← e1, ← e3, g3, g, if_pos ⟨rfl, rfl⟩] at hq
    refine ⟨ht, fun x4 e4 x5 e5 x6 e6 => ⟨ht, fun x7 e7 => ⟨⟨hl, hp, hb⟩, ⟨_, rfl⟩, fun x ex => ⟨by omega, fun x9 e9 x10 e10 x11 e11 x12 e12 x13 e13 x14 e14 => ?_⟩⟩⟩⟩
    rw [← e4, ← e5, ← e6, ← e7, ← ex] at hq
    rw [e9, e10, e11, e12, e13, e14]
    exact hq
end Go.Proofs.Ytneingpnkdeooaa
namespace Go.Proofs.Ytneingpnkdeooaa
open Go Go.HL U
def SRT (hargs : List HV) (pars : List (List HC)) : SR :=
  match hargs, pars with
  | [.ce (.sl false [4] l), .ce (.sl false [4] ax), .ce (.int .i64 ds), .ce (.int .i64 f), .ce (.int .i64 t), .ce (.int .i64 u), .ce (.int .i64 s), .agg [.int .i64 m0, .int .i64 m1, .int .i64 m2, .int .i64 m3, .int .i64 m4, .int .i64 m5]], [] => .det (l.length ≤ 9223372036854775807 ∧ ax.length ≤ 9223372036854775807) okR
  | _, _ => .fail
def tabRT : List (FuncId × HL.Spec) := [(9, SAwake), (10, SRun), (11, SMod), (14, SStart2), (15, STrnG), (16, STrnG), (17, SSameT)]
noncomputable def CRT : Ctx := ⟨Try.prog, gam tabRT, Try.f4.ntmps, [(4000009, ⟨[], [3], [1000015, 1000017, 1000018, 1000019], true⟩, fun _ => .fail)], []⟩
theorem vcRT (l ax : List (List Int)) (ds f t u s m0 m1 m2 m3 m4 m5 : Int) (Q : Res → Prop) : (nfun true CRT Try.f4 (bodyOf Try.f4) [.ce (.sl false [4] l), .ce (.sl false [4] ax), .ce (.int .i64 ds), .ce (.int .i64 f), .ce (.int .i64 t), .ce (.int .i64 u), .ce (.int .i64 s), .agg [.int .i64 m0, .int .i64 m1, .int .i64 m2, .int .i64 m3, .int .i64 m4, .int .i64 m5]] [] Q) =
    (True ∧ ∀ (x1 : Bool), x1 = true → ((!x1) = true → Q ⟨.ce (.bool false), false, [], []⟩) ∧ ((!x1) = false → (List.length l ≤ (9223372036854775807 : Nat) ∧ List.length ax ≤ (9223372036854775807 : Nat)) ∧ (∃ (x : RunS), okRun x) ∧ ∀ (x : RunS), okRun x → (-9223372036854775808 ≤ x.ln + 1 ∧ x.ln + 1 ≤ 9223372036854775807) ∧ ∀ (x3 : Int), x3 = x.ln + 1 → (0 < x3 ∧ x3 ≤ 4611686018427387904) ∧ ∀ (x4 : Int), x4 = u % x3 → ((-36028797018963968 : Int) ≤ x4 ∧ x4 ≤ 36028797018963967) ∧ ∀ (x5 : Int), x5 = x4 * 256 → ∀ (x6 : Int), x6 = 0 → ∀ (x7 : Int), x7 = 0 → ∀ (x8 : Int), x8 = x4 * 256 → ∀ (x9 : Int), x9 = x4 * 256 → ∀ (x10 : Int), x10 = x4 * 256 → (3 : Int) ≠ (0 : Int) ∧ ∀ (x11 : Int), x11 = Int.tmod u (3 : Int) → ((x11 == 0) = true → (2 : Int) ≠ (0 : Int) ∧ ∀ (x12 : Int), x12 = Int.tmod x.ln (2 : Int) → (-9223372036854775808 ≤ x5 + x12 ∧ x5 + x12 ≤ 9223372036854775807) ∧ ∀ (x13 : Int), x13 = x5 + x12 →
    (2 : Int) ≠ (0 : Int) ∧ ∀ (x14 : Int), x14 = Int.tmod x.ln (2 : Int) → (-9223372036854775808 ≤ x8 + x14 ∧ x8 + x14 ≤ 9223372036854775807) ∧ ∀ (x15 : Int), x15 = x8 + x14 → (2 : Int) ≠ (0 : Int) ∧ ∀ (x16 : Int), x16 = Int.tmod x.ln (2 : Int) → (-9223372036854775808 ≤ x9 + x16 ∧ x9 + x16 ≤ 9223372036854775807) ∧ ∀ (x17 : Int), x17 = x9 + x16 → ((0 : Int) < (3 : Int) ∧ (3 : Int) ≤ (4611686018427387904 : Int)) ∧ ∀ (x18 : Int), x18 = m1 % (3 : Int) → ((0 : Int) < (3 : Int) ∧ (3 : Int) ≤ (4611686018427387904 : Int)) ∧ ∀ (x19 : Int), x19 = m2 % (3 : Int) → ((0 : Int) < (2 : Int) ∧ (2 : Int) ≤ (4611686018427387904 : Int)) ∧ ∀ (x20 : Int), x20 = m4 % (2 : Int) → (-9223372036854775808 ≤ x13 - x20 ∧ x13 - x20 ≤ 9223372036854775807) ∧ ∀ (x21 : Int), x21 = x13 - x20 → ((0 ≤ x13 ∧ x13 ≤ 9223372036854775807) ∧ okLen x.sg ∧ okPts x.s0 x.s1 x.s2 x.sg ∧ okB3 x.a.bl x.b.bl x.c.bl ∧ okTrk x.pk x.ln) ∧ (∃ (x_1 : TurnS), x_1 = turnR x.s0 x.s1 x.s2 x.sg x.a.bl x.b.bl x.c.bl x.pk x.ln x.f x.d0 x.d1 x.d2 (stl x13 x6 x7 x15 x17) (clamp x.ln (x13 / (256 : Int))) s) ∧
    ∀ (x_1 : TurnS), x_1 = turnR x.s0 x.s1 x.s2 x.sg x.a.bl x.b.bl x.c.bl x.pk x.ln x.f x.d0 x.d1 x.d2 (stl x13 x6 x7 x15 x17) (clamp x.ln (x13 / (256 : Int))) s → ((0 ≤ x13 ∧ x13 ≤ 9223372036854775807) ∧ okLen x.sg ∧ okPts x.s0 x.s1 x.s2 x.sg ∧ okB3 x.a.bl x.b.bl x.c.bl ∧ okTrk x.pk x.ln) ∧ (∃ (x_2 : TurnS), x_2 = turnR x.s0 x.s1 x.s2 x.sg x.a.bl x.b.bl x.c.bl x.pk x.ln x.f x.d0 x.d1 x.d2 (stl x13 x6 x7 x15 x17) (clamp x.ln (x13 / (256 : Int))) s) ∧ ∀ (x_2 : TurnS), x_2 = turnR x.s0 x.s1 x.s2 x.sg x.a.bl x.b.bl x.c.bl x.pk x.ln x.f x.d0 x.d1 x.d2 (stl x13 x6 x7 x15 x17) (clamp x.ln (x13 / (256 : Int))) s → ((!x_1.ok == x_2.ok) = true → Q ⟨.ce (.bool false), false, [], []⟩) ∧ ((!x_1.ok == x_2.ok) = false → ((!((0 : Int) == (0 : Int) && ((0 : Int) == (0 : Int) && ((0 : Int) == (0 : Int) && ((0 : Int) == (0 : Int) && ((0 : Int) == (0 : Int) && ((0 : Int) == (0 : Int) && true))))))) = true → Q ⟨.ce (.bool false), false, [], []⟩) ∧
    ((!((0 : Int) == (0 : Int) && ((0 : Int) == (0 : Int) && ((0 : Int) == (0 : Int) && ((0 : Int) == (0 : Int) && ((0 : Int) == (0 : Int) && ((0 : Int) == (0 : Int) && true))))))) = false → (x_2.pk = x_1.pk ∧ x_2.ln = x_1.ln ∧ x_2.sa = x_1.sa ∧ x_2.d0 = x_1.d0 ∧ x_2.d1 = x_1.d1 ∧ x_2.d2 = x_1.d2 ∧ List.length x_1.pk ≤ (9223372036854775807 : Nat)) ∧ ∀ (x24 : Bool), x24 = true → ((!x24) = true → Q ⟨.ce (.bool false), false, [], []⟩) ∧ ((!x24) = false → ((0 ≤ x13 ∧ x13 ≤ 9223372036854775807) ∧ okLen x.sg ∧ okPts x.s0 x.s1 x.s2 x.sg ∧ okB3 x.a.bl x.b.bl x.c.bl ∧ okTrk x.pk x.ln) ∧ (∃ (x_3 : TurnS), x_3 = turnR x.s0 x.s1 x.s2 x.sg x.a.bl x.b.bl x.c.bl x.pk x.ln x.f x.d0 x.d1 x.d2 (stl x13 x18 x19 x13 x21) (clamp x.ln (x13 / (256 : Int))) s) ∧ ∀ (x_3 : TurnS), x_3 = turnR x.s0 x.s1 x.s2 x.sg x.a.bl x.b.bl x.c.bl x.pk x.ln x.f x.d0 x.d1 x.d2 (stl x13 x18 x19 x13 x21) (clamp x.ln (x13 / (256 : Int))) s →
    ((0 ≤ x13 ∧ x13 ≤ 9223372036854775807) ∧ okLen x.sg ∧ okPts x.s0 x.s1 x.s2 x.sg ∧ okB3 x.a.bl x.b.bl x.c.bl ∧ okTrk x.pk x.ln) ∧ (∃ (x_4 : TurnS), x_4 = turnR x.s0 x.s1 x.s2 x.sg x.a.bl x.b.bl x.c.bl x.pk x.ln x.f x.d0 x.d1 x.d2 (stl x13 x18 x19 x13 x21) (clamp x.ln (x13 / (256 : Int))) s) ∧ ∀ (x_4 : TurnS), x_4 = turnR x.s0 x.s1 x.s2 x.sg x.a.bl x.b.bl x.c.bl x.pk x.ln x.f x.d0 x.d1 x.d2 (stl x13 x18 x19 x13 x21) (clamp x.ln (x13 / (256 : Int))) s → ((!x_3.ok == x_4.ok) = true → Q ⟨.ce (.bool false), false, [], []⟩) ∧ ((!x_3.ok == x_4.ok) = false → ((!((0 : Int) == (0 : Int) && ((0 : Int) == (0 : Int) && ((0 : Int) == (0 : Int) && ((0 : Int) == (0 : Int) && ((0 : Int) == (0 : Int) && ((0 : Int) == (0 : Int) && true))))))) = true → Q ⟨.ce (.bool false), false, [], []⟩) ∧ ((!((0 : Int) == (0 : Int) && ((0 : Int) == (0 : Int) && ((0 : Int) == (0 : Int) && ((0 : Int) == (0 : Int) && ((0 : Int) == (0 : Int) && ((0 : Int) == (0 : Int) && true))))))) = false →
    (x_4.pk = x_3.pk ∧ x_4.ln = x_3.ln ∧ x_4.sa = x_3.sa ∧ x_4.d0 = x_3.d0 ∧ x_4.d1 = x_3.d1 ∧ x_4.d2 = x_3.d2 ∧ List.length x_3.pk ≤ (9223372036854775807 : Nat)) ∧ ∀ (x27 : Bool), x27 = true → ((!x27) = true → Q ⟨.ce (.bool false), false, [], []⟩) ∧ ((!x27) = false → Q ⟨.ce (.bool true), false, [], []⟩))))))) ∧ ((x11 == 0) = false → ((0 : Int) < (3 : Int) ∧ (3 : Int) ≤ (4611686018427387904 : Int)) ∧ ∀ (x28 : Int), x28 = m1 % (3 : Int) → ((0 : Int) < (3 : Int) ∧ (3 : Int) ≤ (4611686018427387904 : Int)) ∧ ∀ (x29 : Int), x29 = m2 % (3 : Int) → ((0 : Int) < (2 : Int) ∧ (2 : Int) ≤ (4611686018427387904 : Int)) ∧ ∀ (x30 : Int), x30 = m4 % (2 : Int) → (-9223372036854775808 ≤ x5 - x30 ∧ x5 - x30 ≤ 9223372036854775807) ∧ ∀ (x31 : Int), x31 = x5 - x30 → ((0 ≤ x5 ∧ x5 ≤ 9223372036854775807) ∧ okLen x.sg ∧ okPts x.s0 x.s1 x.s2 x.sg ∧ okB3 x.a.bl x.b.bl x.c.bl ∧ okTrk x.pk x.ln) ∧ (∃ (x_1 : TurnS), x_1 = turnR x.s0 x.s1 x.s2 x.sg x.a.bl x.b.bl x.c.bl x.pk x.ln x.f x.d0 x.d1 x.d2 (stl x5 x6 x7 x8 x9) (clamp x.ln (x5 / (256 : Int))) s) ∧
    ∀ (x_1 : TurnS), x_1 = turnR x.s0 x.s1 x.s2 x.sg x.a.bl x.b.bl x.c.bl x.pk x.ln x.f x.d0 x.d1 x.d2 (stl x5 x6 x7 x8 x9) (clamp x.ln (x5 / (256 : Int))) s → ((0 ≤ x5 ∧ x5 ≤ 9223372036854775807) ∧ okLen x.sg ∧ okPts x.s0 x.s1 x.s2 x.sg ∧ okB3 x.a.bl x.b.bl x.c.bl ∧ okTrk x.pk x.ln) ∧ (∃ (x_2 : TurnS), x_2 = turnR x.s0 x.s1 x.s2 x.sg x.a.bl x.b.bl x.c.bl x.pk x.ln x.f x.d0 x.d1 x.d2 (stl x5 x6 x7 x8 x9) (clamp x.ln (x5 / (256 : Int))) s) ∧ ∀ (x_2 : TurnS), x_2 = turnR x.s0 x.s1 x.s2 x.sg x.a.bl x.b.bl x.c.bl x.pk x.ln x.f x.d0 x.d1 x.d2 (stl x5 x6 x7 x8 x9) (clamp x.ln (x5 / (256 : Int))) s → ((!x_1.ok == x_2.ok) = true → Q ⟨.ce (.bool false), false, [], []⟩) ∧ ((!x_1.ok == x_2.ok) = false → ((!((0 : Int) == (0 : Int) && ((0 : Int) == (0 : Int) && ((0 : Int) == (0 : Int) && ((0 : Int) == (0 : Int) && ((0 : Int) == (0 : Int) && ((0 : Int) == (0 : Int) && true))))))) = true → Q ⟨.ce (.bool false), false, [], []⟩) ∧
    ((!((0 : Int) == (0 : Int) && ((0 : Int) == (0 : Int) && ((0 : Int) == (0 : Int) && ((0 : Int) == (0 : Int) && ((0 : Int) == (0 : Int) && ((0 : Int) == (0 : Int) && true))))))) = false → (x_2.pk = x_1.pk ∧ x_2.ln = x_1.ln ∧ x_2.sa = x_1.sa ∧ x_2.d0 = x_1.d0 ∧ x_2.d1 = x_1.d1 ∧ x_2.d2 = x_1.d2 ∧ List.length x_1.pk ≤ (9223372036854775807 : Nat)) ∧ ∀ (x34 : Bool), x34 = true → ((!x34) = true → Q ⟨.ce (.bool false), false, [], []⟩) ∧ ((!x34) = false → ((0 ≤ x5 ∧ x5 ≤ 9223372036854775807) ∧ okLen x.sg ∧ okPts x.s0 x.s1 x.s2 x.sg ∧ okB3 x.a.bl x.b.bl x.c.bl ∧ okTrk x.pk x.ln) ∧ (∃ (x_3 : TurnS), x_3 = turnR x.s0 x.s1 x.s2 x.sg x.a.bl x.b.bl x.c.bl x.pk x.ln x.f x.d0 x.d1 x.d2 (stl x5 x28 x29 x5 x31) (clamp x.ln (x5 / (256 : Int))) s) ∧ ∀ (x_3 : TurnS), x_3 = turnR x.s0 x.s1 x.s2 x.sg x.a.bl x.b.bl x.c.bl x.pk x.ln x.f x.d0 x.d1 x.d2 (stl x5 x28 x29 x5 x31) (clamp x.ln (x5 / (256 : Int))) s → ((0 ≤ x5 ∧
    x5 ≤ 9223372036854775807) ∧ okLen x.sg ∧ okPts x.s0 x.s1 x.s2 x.sg ∧ okB3 x.a.bl x.b.bl x.c.bl ∧ okTrk x.pk x.ln) ∧ (∃ (x_4 : TurnS), x_4 = turnR x.s0 x.s1 x.s2 x.sg x.a.bl x.b.bl x.c.bl x.pk x.ln x.f x.d0 x.d1 x.d2 (stl x5 x28 x29 x5 x31) (clamp x.ln (x5 / (256 : Int))) s) ∧ ∀ (x_4 : TurnS), x_4 = turnR x.s0 x.s1 x.s2 x.sg x.a.bl x.b.bl x.c.bl x.pk x.ln x.f x.d0 x.d1 x.d2 (stl x5 x28 x29 x5 x31) (clamp x.ln (x5 / (256 : Int))) s → ((!x_3.ok == x_4.ok) = true → Q ⟨.ce (.bool false), false, [], []⟩) ∧ ((!x_3.ok == x_4.ok) = false → ((!((0 : Int) == (0 : Int) && ((0 : Int) == (0 : Int) && ((0 : Int) == (0 : Int) && ((0 : Int) == (0 : Int) && ((0 : Int) == (0 : Int) && ((0 : Int) == (0 : Int) && true))))))) = true → Q ⟨.ce (.bool false), false, [], []⟩) ∧ ((!((0 : Int) == (0 : Int) && ((0 : Int) == (0 : Int) && ((0 : Int) == (0 : Int) && ((0 : Int) == (0 : Int) && ((0 : Int) == (0 : Int) && ((0 : Int) == (0 : Int) && true))))))) = false →
    (x_4.pk = x_3.pk ∧ x_4.ln = x_3.ln ∧ x_4.sa = x_3.sa ∧ x_4.d0 = x_3.d0 ∧ x_4.d1 = x_3.d1 ∧ x_4.d2 = x_3.d2 ∧ List.length x_3.pk ≤ (9223372036854775807 : Nat)) ∧ ∀ (x37 : Bool), x37 = true → ((!x37) = true → Q ⟨.ce (.bool false), false, [], []⟩) ∧ ((!x37) = false → Q ⟨.ce (.bool true), false, [], []⟩))))))))) := by kernel_rfl
end Go.Proofs.Ytneingpnkdeooaa
namespace U
theorem turnR_len {s0 s1 s2 : Int} {sg : List (List Int)} {b0 b1 b2 ln sa d0 d1 d2 w to : Int} {pk : List (List Int)} {st : Bool} (hl : okLen sg) (hb : okB3 b0 b1 b2) :
    (turnR s0 s1 s2 sg b0 b1 b2 pk ln sa d0 d1 d2 st w to).pk.length ≤ 9223372036854775807 := by
  unfold turnR
  split
  · have h0 : 0 ≤ plen sg := (plen_le hl).1
    have := (leg_ok (s0 := s0) (s1 := s1) (s2 := s2) (d0 := tface pk d0 0 w) (d1 := tface pk d1 1 w) (d2 := tface pk d2 2 w) hl hb (clamp_bd (v := tplace pk sa w) h0) (clamp_bd (v := to) h0)).1
    dsimp only
    omega
  · exact Nat.zero_le _
end U
namespace Go.Proofs.Ytneingpnkdeooaa
open Go Go.HL U
attribute [local irreducible] hfun bodyT fragT
set_option maxHeartbeats 400000 in
set_option maxRecDepth 100000 in
theorem sRT : Sound Try.prog 4 SRT := by
  refine sound_of (C := CRT) tabRT Try.func4 (by kernel_rfl) (by decide +kernel) (by kernel_rfl) rfl ⟨sAwake, sRun42, sMod, sStartW, sTrnP, sTrnR, sSameT, trivial⟩ (loopsAll (by kernel_rfl)) ?_
  intro hargs pars R h
  unfold SRT at h
  split at h
  case h_2 => exfalso; exact h
  rename_i l ax ds f t u s m0 m1 m2 m3 m4 m5
  obtain ⟨⟨hl, hax⟩, hq⟩ := h
  refine byVC (vcRT l ax ds f t u s m0 m1 m2 m3 m4 m5 R) ⟨trivial, fun w ew => ⟨fun g => (by rw [ew] at g; cases g), fun _ => ⟨⟨hl, hax⟩, okRun_ex, fun x hx => ?_⟩⟩⟩
  have hln := okRun_ln hx
  have h0 := okRun_ln0 hx
  have hp := okRun_pre hx
  have hb := okRun_b3 hx
  have z : (!((0 : Int) == 0 && ((0 : Int) == 0 && ((0 : Int) == 0 && ((0 : Int) == 0 && ((0 : Int) == 0 && ((0 : Int) == 0 && true))))))) = true → False := fun g => by simp at g
  have no : ∀ {a b : Bool}, a = b → (!a == b) = true → False := fun e g => by rw [e] at g; simp at g
  have nt : ∀ {a : Bool}, a = true → (!a) = true → False := fun e g => by rw [e] at g; simp at g
  refine ⟨by omega, fun x3 e3 => ⟨by omega, fun x4 e4 => ?_⟩⟩
  have b4 := emod_bd (a := u) (n := x3) (by omega)
  refine ⟨by omega, fun x5 e5 x6 e6 x7 e7 x8 e8 x9 e9 x10 e10 => ⟨by omega, fun x11 e11 => ⟨fun _ => ?_, fun _ => ?_⟩⟩⟩
  · refine ⟨by omega, fun x12 e12 => ?_⟩
    have b12 : 0 ≤ x12 ∧ x12 ≤ 1 := by rw [e12, Int.tmod_eq_emod_of_nonneg h0]; omega
    refine ⟨by omega, fun x13 e13 => ⟨by omega, fun x14 e14 => ⟨by omega, fun x15 e15 => ⟨by omega, fun x16 e16 => ⟨by omega, fun x17 e17 => ⟨by omega, fun x18 e18 => ⟨by omega, fun x19 e19 => ⟨by omega, fun x20 e20 => ⟨by omega, fun x21 e21 => ?_⟩⟩⟩⟩⟩⟩⟩⟩⟩
    have pre : (0 ≤ x13 ∧ x13 ≤ 9223372036854775807) ∧ okLen x.sg ∧ okPts x.s0 x.s1 x.s2 x.sg ∧ okB3 x.a.bl x.b.bl x.c.bl ∧ okTrk x.pk x.ln := ⟨by omega, hp.1, hp.2.1, hb, hp.2.2.1⟩
    exact ⟨pre, ⟨_, rfl⟩, fun y1 f1 => ⟨pre, ⟨_, rfl⟩, fun y2 f2 => ⟨fun g => (no (by rw [f1, f2]) g).elim, fun _ => ⟨fun g => (z g).elim, fun _ =>
      ⟨by rw [f1, f2]; exact ⟨rfl, rfl, rfl, rfl, rfl, rfl, turnR_len hp.1 hb⟩, fun x24 e24 => ⟨fun g => (nt e24 g).elim, fun _ =>
      ⟨pre, ⟨_, rfl⟩, fun y3 f3 => ⟨pre, ⟨_, rfl⟩, fun y4 f4 => ⟨fun g => (no (by rw [f3, f4]) g).elim, fun _ => ⟨fun g => (z g).elim, fun _ =>
      ⟨by rw [f3, f4]; exact ⟨rfl, rfl, rfl, rfl, rfl, rfl, turnR_len hp.1 hb⟩, fun x27 e27 => ⟨fun g => (nt e27 g).elim, fun _ => hq⟩⟩⟩⟩⟩⟩⟩⟩⟩⟩⟩⟩
  · refine ⟨by omega, fun x28 e28 => ⟨by omega, fun x29 e29 => ⟨by omega, fun x30 e30 => ?_⟩⟩⟩
    refine ⟨by omega, fun x31 e31 => ?_⟩
    have pre : (0 ≤ x5 ∧ x5 ≤ 9223372036854775807) ∧ okLen x.sg ∧ okPts x.s0 x.s1 x.s2 x.sg ∧ okB3 x.a.bl x.b.bl x.c.bl ∧ okTrk x.pk x.ln := ⟨by omega, hp.1, hp.2.1, hb, hp.2.2.1⟩
    exact ⟨pre, ⟨_, rfl⟩, fun y1 f1 => ⟨pre, ⟨_, rfl⟩, fun y2 f2 => ⟨fun g => (no (by rw [f1, f2]) g).elim, fun _ => ⟨fun g => (z g).elim, fun _ =>
      ⟨by rw [f1, f2]; exact ⟨rfl, rfl, rfl, rfl, rfl, rfl, turnR_len hp.1 hb⟩, fun x24 e24 => ⟨fun g => (nt e24 g).elim, fun _ =>
      ⟨pre, ⟨_, rfl⟩, fun y3 f3 => ⟨pre, ⟨_, rfl⟩, fun y4 f4 => ⟨fun g => (no (by rw [f3, f4]) g).elim, fun _ => ⟨fun g => (z g).elim, fun _ =>
      ⟨by rw [f3, f4]; exact ⟨rfl, rfl, rfl, rfl, rfl, rfl, turnR_len hp.1 hb⟩, fun x27 e27 => ⟨fun g => (nt e27 g).elim, fun _ => hq⟩⟩⟩⟩⟩⟩⟩⟩⟩⟩⟩⟩
end Go.Proofs.Ytneingpnkdeooaa
