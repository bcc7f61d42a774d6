/-
  All axes within their limits.
  Conditions: none.
-/
import Derived.Test.YtmadbcfocgagpaaL4
import Derived.Test.YtmadbcfocgagpaaMb
namespace U
open Go
/-- one coordinate of a list of points -/
def col (l : List (List Int)) (j : Nat) : List (List Int) := (List.range l.length).map fun i => [ec l i j]
def WA (l : List (List Int)) (sp0 ac0 je0 sp1 ac1 je1 sp2 ac2 je2 : Int) : Bool := W sp0 ac0 je0 (col l 0) && (W sp1 ac1 je1 (col l 1) && W sp2 ac2 je2 (col l 2))
end U
namespace Go.Proofs.Ytmadbcfocgagpaa
open Go Go.HL U
def SAll (hargs : List HV) (pars : List (List HC)) : SR :=
  match hargs, pars with
  | [.agg [.int .i64 _, .int .i64 sp0, .int .i64 ac0, .int .i64 je0, .int .i64 _, .int .i64 _, .int .i64 _, .int .i64 _, .int .i64 _, .sl false [4] _, .int .i64 _, .int .i64 sp1, .int .i64 ac1, .int .i64 je1, .int .i64 _, .int .i64 _, .int .i64 _, .int .i64 _, .int .i64 _, .sl false [4] _, .int .i64 _, .int .i64 sp2, .int .i64 ac2, .int .i64 je2, .int .i64 _, .int .i64 _, .int .i64 _, .int .i64 _, .int .i64 _, .sl false [4] _], .ce (.sl false [4, 4, 4] l)], [] => .det (l.length ≤ 1000) ⟨.ce (.bool (WA l sp0 ac0 je0 sp1 ac1 je1 sp2 ac2 je2)), false, [], []⟩
  | _, _ => .fail
def h19o : Nat → Bool := fun s => Nat.beq s 8
def h19i : Nat → Bool := fun s => Nat.beq s 5 || Nat.beq s 8
def h20o : Nat → Bool := fun s => Nat.beq s 9
def h20i : Nat → Bool := fun s => Nat.beq s 5 || Nat.beq s 9
def h8o : Nat → Bool := fun s => Nat.beq s 15
def h8i : Nat → Bool := fun s => Nat.beq s 7 || Nat.beq s 15
def an19o : LAnn := ⟨[1, 2, 4, 8], [4], [1000002], h19o⟩
def an19i : LAnn := ⟨[1, 2, 4, 5, 6, 8, 15, 16], [1, 2, 4, 5, 6, 8], [1000002, 1000013], h19i⟩
def an20o : LAnn := ⟨[1, 2, 4, 9], [4], [1000002], h20o⟩
def an20i : LAnn := ⟨[1, 2, 4, 5, 6, 100006, 9, 12, 13, 14], [1, 2, 4, 5, 6, 100006, 9], [1000002], h20i⟩
def an8o : LAnn := ⟨[1, 4, 5, 6, 15], [1, 4, 5, 6], [1000005], h8o⟩
def an8i : LAnn := ⟨[1, 4, 5, 6, 7, 8, 100008, 15, 18, 19, 20], [1, 4, 5, 6, 7, 8, 100008, 15], [1000005], h8i⟩
def L19o (v : LV) : LR :=
  match v with
  | ([.ce (.sl false [4, 4, 4] l), .ce (.ptr 1000002 0), .ce (.bool r), .ce (.num .i64 0)], [b]) => (match b with
  | [.int .i64 st0, .int .i64 sp0, .int .i64 ac0, .int .i64 je0, .int .i64 lo0, .int .i64 hi0, .int .i64 bl0, .int .i64 og0, .int .i64 sg0, .sl false [4] pit0, .int .i64 st1, .int .i64 sp1, .int .i64 ac1, .int .i64 je1, .int .i64 lo1, .int .i64 hi1, .int .i64 bl1, .int .i64 og1, .int .i64 sg1, .sl false [4] pit1, .int .i64 st2, .int .i64 sp2, .int .i64 ac2, .int .i64 je2, .int .i64 lo2, .int .i64 hi2, .int .i64 bl2, .int .i64 og2, .int .i64 sg2, .sl false [4] pit2] =>
    .alts (l.length ≤ 1000) [(WA l sp0 ac0 je0 sp1 ac1 je1 sp2 ac2 je2 = true, .exit 0, ([.ce (.bool r)], [[.int .i64 st0, .int .i64 sp0, .int .i64 ac0, .int .i64 je0, .int .i64 lo0, .int .i64 hi0, .int .i64 bl0, .int .i64 og0, .int .i64 sg0, .sl false [4] pit0, .int .i64 st1, .int .i64 sp1, .int .i64 ac1, .int .i64 je1, .int .i64 lo1, .int .i64 hi1, .int .i64 bl1, .int .i64 og1, .int .i64 sg1, .sl false [4] pit1, .int .i64 st2, .int .i64 sp2, .int .i64 ac2, .int .i64 je2, .int .i64 lo2, .int .i64 hi2, .int .i64 bl2, .int .i64 og2, .int .i64 sg2, .sl false [4] pit2]])), (WA l sp0 ac0 je0 sp1 ac1 je1 sp2 ac2 je2 = false, .ret, ([.ce (.bool false)], [[.int .i64 st0, .int .i64 sp0, .int .i64 ac0, .int .i64 je0, .int .i64 lo0, .int .i64 hi0, .int .i64 bl0, .int .i64 og0, .int .i64 sg0, .sl false [4] pit0, .int .i64 st1, .int .i64 sp1, .int .i64 ac1, .int .i64 je1, .int .i64 lo1, .int .i64 hi1, .int .i64 bl1, .int .i64 og1, .int .i64 sg1, .sl false [4] pit1, .int .i64 st2, .int .i64 sp2, .int .i64 ac2, .int .i64 je2, .int .i64 lo2, .int .i64 hi2, .int .i64 bl2, .int .i64 og2, .int .i64 sg2, .sl false [4] pit2]]))]
  | _ => .fail)
  | _ => .fail
def L19i (v : LV) : LR :=
  match v with
  | ([.ce (.sl false [4, 4, 4] l), .ce (.ptr 1000002 0), .ce (.bool r), .ce (.num .i64 j), .ce (.msl 1000013 n), .ce (.num .i64 j2), .ce (.int .i64 len), .ce (.int .i64 k)], [b, [.arr [4] rows]]) => (match b with
  | [.int .i64 st0, .int .i64 sp0, .int .i64 ac0, .int .i64 je0, .int .i64 lo0, .int .i64 hi0, .int .i64 bl0, .int .i64 og0, .int .i64 sg0, .sl false [4] pit0, .int .i64 st1, .int .i64 sp1, .int .i64 ac1, .int .i64 je1, .int .i64 lo1, .int .i64 hi1, .int .i64 bl1, .int .i64 og1, .int .i64 sg1, .sl false [4] pit1, .int .i64 st2, .int .i64 sp2, .int .i64 ac2, .int .i64 je2, .int .i64 lo2, .int .i64 hi2, .int .i64 bl2, .int .i64 og2, .int .i64 sg2, .sl false [4] pit2] =>
    .det ((0 ≤ j ∧ j ≤ 2) ∧ rows = List.replicate l.length [0] ∧ n = l.length ∧ len = l.length ∧ k = 0 ∧ l.length ≤ 1000) (.exit 2)
      ([.ce (.sl false [4, 4, 4] l), .ce (.ptr 1000002 0), .ce (.bool r), .ce (.num .i64 j), .ce (.msl 1000013 n), .ce (.num .i64 j2)], [[.int .i64 st0, .int .i64 sp0, .int .i64 ac0, .int .i64 je0, .int .i64 lo0, .int .i64 hi0, .int .i64 bl0, .int .i64 og0, .int .i64 sg0, .sl false [4] pit0, .int .i64 st1, .int .i64 sp1, .int .i64 ac1, .int .i64 je1, .int .i64 lo1, .int .i64 hi1, .int .i64 bl1, .int .i64 og1, .int .i64 sg1, .sl false [4] pit1, .int .i64 st2, .int .i64 sp2, .int .i64 ac2, .int .i64 je2, .int .i64 lo2, .int .i64 hi2, .int .i64 bl2, .int .i64 og2, .int .i64 sg2, .sl false [4] pit2], [.arr [4] (col l j.toNat)]])
  | _ => .fail)
  | _ => .fail
def L20o (v : LV) : LR :=
  match v with
  | ([.ce (.sl false [4, 4, 4] l), .ce (.ptr 1000002 0), .ce (.bool r), .ce (.num .i64 0)], [b]) => (match b with
  | [.int .i64 st0, .int .i64 sp0, .int .i64 ac0, .int .i64 je0, .int .i64 lo0, .int .i64 hi0, .int .i64 bl0, .int .i64 og0, .int .i64 sg0, .sl false [4] pit0, .int .i64 st1, .int .i64 sp1, .int .i64 ac1, .int .i64 je1, .int .i64 lo1, .int .i64 hi1, .int .i64 bl1, .int .i64 og1, .int .i64 sg1, .sl false [4] pit1, .int .i64 st2, .int .i64 sp2, .int .i64 ac2, .int .i64 je2, .int .i64 lo2, .int .i64 hi2, .int .i64 bl2, .int .i64 og2, .int .i64 sg2, .sl false [4] pit2] =>
    .alts (l.length ≤ 1000) [(WA l sp0 ac0 je0 sp1 ac1 je1 sp2 ac2 je2 = true, .exit 0, ([.ce (.bool r)], [[.int .i64 st0, .int .i64 sp0, .int .i64 ac0, .int .i64 je0, .int .i64 lo0, .int .i64 hi0, .int .i64 bl0, .int .i64 og0, .int .i64 sg0, .sl false [4] pit0, .int .i64 st1, .int .i64 sp1, .int .i64 ac1, .int .i64 je1, .int .i64 lo1, .int .i64 hi1, .int .i64 bl1, .int .i64 og1, .int .i64 sg1, .sl false [4] pit1, .int .i64 st2, .int .i64 sp2, .int .i64 ac2, .int .i64 je2, .int .i64 lo2, .int .i64 hi2, .int .i64 bl2, .int .i64 og2, .int .i64 sg2, .sl false [4] pit2]])), (WA l sp0 ac0 je0 sp1 ac1 je1 sp2 ac2 je2 = false, .ret, ([.ce (.bool false)], [[.int .i64 st0, .int .i64 sp0, .int .i64 ac0, .int .i64 je0, .int .i64 lo0, .int .i64 hi0, .int .i64 bl0, .int .i64 og0, .int .i64 sg0, .sl false [4] pit0, .int .i64 st1, .int .i64 sp1, .int .i64 ac1, .int .i64 je1, .int .i64 lo1, .int .i64 hi1, .int .i64 bl1, .int .i64 og1, .int .i64 sg1, .sl false [4] pit1, .int .i64 st2, .int .i64 sp2, .int .i64 ac2, .int .i64 je2, .int .i64 lo2, .int .i64 hi2, .int .i64 bl2, .int .i64 og2, .int .i64 sg2, .sl false [4] pit2]]))]
  | _ => .fail)
  | _ => .fail
def L20i (v : LV) : LR :=
  match v with
  | ([.ce (.sl false [4, 4, 4] l0), .ce (.ptr 1000002 0), .ce (.bool r), .ce (.num .i64 j), .ce (.sl false [4] rows), .ce (.lit true), .ce (.num .i64 j2), .ce (.sl false [4, 4, 4] l), .ce (.int .i64 len), .ce (.int .i64 k)], [b]) => (match b with
  | [.int .i64 st0, .int .i64 sp0, .int .i64 ac0, .int .i64 je0, .int .i64 lo0, .int .i64 hi0, .int .i64 bl0, .int .i64 og0, .int .i64 sg0, .sl false [4] pit0, .int .i64 st1, .int .i64 sp1, .int .i64 ac1, .int .i64 je1, .int .i64 lo1, .int .i64 hi1, .int .i64 bl1, .int .i64 og1, .int .i64 sg1, .sl false [4] pit1, .int .i64 st2, .int .i64 sp2, .int .i64 ac2, .int .i64 je2, .int .i64 lo2, .int .i64 hi2, .int .i64 bl2, .int .i64 og2, .int .i64 sg2, .sl false [4] pit2] =>
    .det ((0 ≤ j ∧ j ≤ 2) ∧ rows.length = 0 ∧ len = l.length ∧ k = 0 ∧ l.length * 24 ≤ 140737488355328) (.exit 2)
      ([.ce (.sl false [4, 4, 4] l0), .ce (.ptr 1000002 0), .ce (.bool r), .ce (.num .i64 j), .ce (.sl false [4] (col l j.toNat)), .ce (.lit true), .ce (.num .i64 j2)], [[.int .i64 st0, .int .i64 sp0, .int .i64 ac0, .int .i64 je0, .int .i64 lo0, .int .i64 hi0, .int .i64 bl0, .int .i64 og0, .int .i64 sg0, .sl false [4] pit0, .int .i64 st1, .int .i64 sp1, .int .i64 ac1, .int .i64 je1, .int .i64 lo1, .int .i64 hi1, .int .i64 bl1, .int .i64 og1, .int .i64 sg1, .sl false [4] pit1, .int .i64 st2, .int .i64 sp2, .int .i64 ac2, .int .i64 je2, .int .i64 lo2, .int .i64 hi2, .int .i64 bl2, .int .i64 og2, .int .i64 sg2, .sl false [4] pit2]])
  | _ => .fail)
  | _ => .fail
def L8o (v : LV) : LR :=
  match v with
  | ([.ce (.sl false [4, 4, 4] l), .ce (.bool r), .ce (.ptr 1000005 0), .ce (.bool true), .ce (.num .i64 0)], [b]) => (match b with
  | [.int .i64 st0, .int .i64 sp0, .int .i64 ac0, .int .i64 je0, .int .i64 lo0, .int .i64 hi0, .int .i64 bl0, .int .i64 og0, .int .i64 sg0, .sl false [4] pit0, .int .i64 st1, .int .i64 sp1, .int .i64 ac1, .int .i64 je1, .int .i64 lo1, .int .i64 hi1, .int .i64 bl1, .int .i64 og1, .int .i64 sg1, .sl false [4] pit1, .int .i64 st2, .int .i64 sp2, .int .i64 ac2, .int .i64 je2, .int .i64 lo2, .int .i64 hi2, .int .i64 bl2, .int .i64 og2, .int .i64 sg2, .sl false [4] pit2] =>
    .alts (l.length * 24 ≤ 140737488355328) [(l.length ≤ 1000, .exit 0, ([.ce (.sl false [4, 4, 4] l), .ce (.bool r), .ce (.ptr 1000005 0), .ce (.bool (WA l sp0 ac0 je0 sp1 ac1 je1 sp2 ac2 je2))], [[.int .i64 st0, .int .i64 sp0, .int .i64 ac0, .int .i64 je0, .int .i64 lo0, .int .i64 hi0, .int .i64 bl0, .int .i64 og0, .int .i64 sg0, .sl false [4] pit0, .int .i64 st1, .int .i64 sp1, .int .i64 ac1, .int .i64 je1, .int .i64 lo1, .int .i64 hi1, .int .i64 bl1, .int .i64 og1, .int .i64 sg1, .sl false [4] pit1, .int .i64 st2, .int .i64 sp2, .int .i64 ac2, .int .i64 je2, .int .i64 lo2, .int .i64 hi2, .int .i64 bl2, .int .i64 og2, .int .i64 sg2, .sl false [4] pit2]])),
      (True, .ret, ([.ce (.sl false [4, 4, 4] l), .ce (.bool true), .ce (.ptr 1000005 0), .ce (.bool true)], [[.int .i64 st0, .int .i64 sp0, .int .i64 ac0, .int .i64 je0, .int .i64 lo0, .int .i64 hi0, .int .i64 bl0, .int .i64 og0, .int .i64 sg0, .sl false [4] pit0, .int .i64 st1, .int .i64 sp1, .int .i64 ac1, .int .i64 je1, .int .i64 lo1, .int .i64 hi1, .int .i64 bl1, .int .i64 og1, .int .i64 sg1, .sl false [4] pit1, .int .i64 st2, .int .i64 sp2, .int .i64 ac2, .int .i64 je2, .int .i64 lo2, .int .i64 hi2, .int .i64 bl2, .int .i64 og2, .int .i64 sg2, .sl false [4] pit2]])), (True, .ret, ([.ce (.sl false [4, 4, 4] l), .ce (.bool true), .ce (.ptr 1000005 0), .ce (.bool false)], [[.int .i64 st0, .int .i64 sp0, .int .i64 ac0, .int .i64 je0, .int .i64 lo0, .int .i64 hi0, .int .i64 bl0, .int .i64 og0, .int .i64 sg0, .sl false [4] pit0, .int .i64 st1, .int .i64 sp1, .int .i64 ac1, .int .i64 je1, .int .i64 lo1, .int .i64 hi1, .int .i64 bl1, .int .i64 og1, .int .i64 sg1, .sl false [4] pit1, .int .i64 st2, .int .i64 sp2, .int .i64 ac2, .int .i64 je2, .int .i64 lo2, .int .i64 hi2, .int .i64 bl2, .int .i64 og2, .int .i64 sg2, .sl false [4] pit2]]))]
  | _ => .fail)
  | _ => .fail
def L8i (v : LV) : LR :=
  match v with
  | ([.ce (.sl false [4, 4, 4] l0), .ce (.bool r), .ce (.ptr 1000005 0), .ce (.bool ok), .ce (.num .i64 j), .ce (.sl false [4] rows), .ce (.lit true), .ce (.num .i64 j2), .ce (.sl false [4, 4, 4] l), .ce (.int .i64 len), .ce (.int .i64 k)], [b]) => (match b with
  | [.int .i64 st0, .int .i64 sp0, .int .i64 ac0, .int .i64 je0, .int .i64 lo0, .int .i64 hi0, .int .i64 bl0, .int .i64 og0, .int .i64 sg0, .sl false [4] pit0, .int .i64 st1, .int .i64 sp1, .int .i64 ac1, .int .i64 je1, .int .i64 lo1, .int .i64 hi1, .int .i64 bl1, .int .i64 og1, .int .i64 sg1, .sl false [4] pit1, .int .i64 st2, .int .i64 sp2, .int .i64 ac2, .int .i64 je2, .int .i64 lo2, .int .i64 hi2, .int .i64 bl2, .int .i64 og2, .int .i64 sg2, .sl false [4] pit2] =>
    .det ((0 ≤ j ∧ j ≤ 2) ∧ rows.length = 0 ∧ len = l.length ∧ k = 0 ∧ l.length * 24 ≤ 140737488355328) (.exit 2)
      ([.ce (.sl false [4, 4, 4] l0), .ce (.bool r), .ce (.ptr 1000005 0), .ce (.bool ok), .ce (.num .i64 j), .ce (.sl false [4] (col l j.toNat)), .ce (.lit true), .ce (.num .i64 j2)], [[.int .i64 st0, .int .i64 sp0, .int .i64 ac0, .int .i64 je0, .int .i64 lo0, .int .i64 hi0, .int .i64 bl0, .int .i64 og0, .int .i64 sg0, .sl false [4] pit0, .int .i64 st1, .int .i64 sp1, .int .i64 ac1, .int .i64 je1, .int .i64 lo1, .int .i64 hi1, .int .i64 bl1, .int .i64 og1, .int .i64 sg1, .sl false [4] pit1, .int .i64 st2, .int .i64 sp2, .int .i64 ac2, .int .i64 je2, .int .i64 lo2, .int .i64 hi2, .int .i64 bl2, .int .i64 og2, .int .i64 sg2, .sl false [4] pit2]])
  | _ => .fail)
  | _ => .fail
def tabAll : List (FuncId × HL.Spec) := [(16, SW), (17, SW)]
noncomputable def C19 : Ctx := ⟨Try.prog, gam tabAll, 36, [(2, an19o, L19o), (6, an19i, L19i)], [32]⟩
noncomputable def C20 : Ctx := ⟨Try.prog, gam tabAll, 32, [(2, an20o, L20o), (6, an20i, L20i)], []⟩
def SLAll (hargs : List HV) (pars : List (List HC)) : SR :=
  match hargs, pars with
  | [.ce (.sl false [4] a), .ce (.sl false [4, 4, 4] l)], [] => .det (a.length ≤ 9223372036854775807 ∧ l.length * 24 ≤ 140737488355328) ⟨.ce (.bool true), false, [], []⟩
  | _, _ => .fail
def tabLA : List (FuncId × HL.Spec) := [(9, SA), (10, SF), (14, SAxes), (16, SW), (19, SAll), (20, SAll)]
noncomputable def C8 : Ctx := ⟨Try.prog, gam tabLA, 55, [(6, an8o, L8o), (10, an8i, L8i)], []⟩
theorem vc19 (l : List (List Int)) (st0 sp0 ac0 je0 lo0 hi0 bl0 og0 sg0 : Int) (pit0 : List (List Int)) (st1 sp1 ac1 je1 lo1 hi1 bl1 og1 sg1 : Int) (pit1 : List (List Int)) (st2 sp2 ac2 je2 lo2 hi2 bl2 og2 sg2 : Int) (pit2 : List (List Int)) (Q : Res → Prop) : (nfun true C19 Try.f19 (bodyOf Try.f19) [.agg [.int .i64 st0, .int .i64 sp0, .int .i64 ac0, .int .i64 je0, .int .i64 lo0, .int .i64 hi0, .int .i64 bl0, .int .i64 og0, .int .i64 sg0, .sl false [4] pit0, .int .i64 st1, .int .i64 sp1, .int .i64 ac1, .int .i64 je1, .int .i64 lo1, .int .i64 hi1, .int .i64 bl1, .int .i64 og1, .int .i64 sg1, .sl false [4] pit1, .int .i64 st2, .int .i64 sp2, .int .i64 ac2, .int .i64 je2, .int .i64 lo2, .int .i64 hi2, .int .i64 bl2, .int .i64 og2, .int .i64 sg2, .sl false [4] pit2], .ce (.sl false [4, 4, 4] l)] [] Q) =
    (List.length l ≤ (1000 : Nat) ∧
      (WA l sp0 ac0 je0 sp1 ac1 je1 sp2 ac2 je2 = true →
          Q { val := HV.ce (HC.bool true), own := false, pars := [], news := [] }) ∧
        (WA l sp0 ac0 je0 sp1 ac1 je1 sp2 ac2 je2 = false →
          Q { val := HV.ce (HC.bool false), own := false, pars := [], news := [] })) := by kernel_rfl
theorem vc20 (l : List (List Int)) (st0 sp0 ac0 je0 lo0 hi0 bl0 og0 sg0 : Int) (pit0 : List (List Int)) (st1 sp1 ac1 je1 lo1 hi1 bl1 og1 sg1 : Int) (pit1 : List (List Int)) (st2 sp2 ac2 je2 lo2 hi2 bl2 og2 sg2 : Int) (pit2 : List (List Int)) (Q : Res → Prop) : (nfun true C20 Try.f20 (bodyOf Try.f20) [.agg [.int .i64 st0, .int .i64 sp0, .int .i64 ac0, .int .i64 je0, .int .i64 lo0, .int .i64 hi0, .int .i64 bl0, .int .i64 og0, .int .i64 sg0, .sl false [4] pit0, .int .i64 st1, .int .i64 sp1, .int .i64 ac1, .int .i64 je1, .int .i64 lo1, .int .i64 hi1, .int .i64 bl1, .int .i64 og1, .int .i64 sg1, .sl false [4] pit1, .int .i64 st2, .int .i64 sp2, .int .i64 ac2, .int .i64 je2, .int .i64 lo2, .int .i64 hi2, .int .i64 bl2, .int .i64 og2, .int .i64 sg2, .sl false [4] pit2], .ce (.sl false [4, 4, 4] l)] [] Q) =
    (List.length l ≤ (1000 : Nat) ∧
      (WA l sp0 ac0 je0 sp1 ac1 je1 sp2 ac2 je2 = true →
          Q { val := HV.ce (HC.bool true), own := false, pars := [], news := [] }) ∧
        (WA l sp0 ac0 je0 sp1 ac1 je1 sp2 ac2 je2 = false →
          Q { val := HV.ce (HC.bool false), own := false, pars := [], news := [] })) := by kernel_rfl
theorem vc8 (a l : List (List Int)) (Q : Res → Prop) : (nfun true C8 Try.f8 (bodyOf Try.f8) [.ce (.sl false [4] a), .ce (.sl false [4, 4, 4] l)] [] Q) =
    (True ∧
      ∀ (x1 : Bool),
        x1 = true →
          ((!x1) = true → Q { val := HV.ce (HC.bool false), own := false, pars := [], news := [] }) ∧
            ((!x1) = false →
              List.length a ≤ (9223372036854775807 : Nat) ∧
                (∃ (x : AxV × AxV × AxV), okAx x.1 ∧ okAx x.snd.1 ∧ okAx x.snd.2) ∧
                  ∀ (x : AxV × AxV × AxV),
                    okAx x.1 ∧ okAx x.snd.1 ∧ okAx x.snd.2 →
                      List.length l * (24 : Nat) ≤ (140737488355328 : Nat) ∧
                        (List.length l ≤ (1000 : Nat) →
                            List.length l ≤ (1000 : Nat) ∧
                              ∀ (x3 : Bool),
                                x3 =
                                    WA l x.1.sp x.1.ac x.1.je x.snd.1.sp x.snd.1.ac x.snd.1.je x.snd.2.sp x.snd.2.ac
                                      x.snd.2.je →
                                  ((x3 ==
                                          WA l x.1.sp x.1.ac x.1.je x.snd.1.sp x.snd.1.ac x.snd.1.je x.snd.2.sp x.snd.2.ac
                                            x.snd.2.je) =
                                        true →
                                      List.length l ≤ (1000 : Nat) ∧
                                        ∀ (x4 : Bool),
                                          x4 =
                                              WA l x.1.sp x.1.ac x.1.je x.snd.1.sp x.snd.1.ac x.snd.1.je x.snd.2.sp
                                                x.snd.2.ac x.snd.2.je →
                                            Q
                                              {
                                                val :=
                                                  HV.ce
                                                    (HC.bool
                                                      (WA l x.1.sp x.1.ac x.1.je x.snd.1.sp x.snd.1.ac x.snd.1.je x.snd.2.sp
                                                          x.snd.2.ac x.snd.2.je ==
                                                        x4)),
                                                own := false, pars := [], news := [] }) ∧
                                    ((x3 ==
                                          WA l x.1.sp x.1.ac x.1.je x.snd.1.sp x.snd.1.ac x.snd.1.je x.snd.2.sp x.snd.2.ac
                                            x.snd.2.je) =
                                        false →
                                      Q { val := HV.ce (HC.bool false), own := false, pars := [], news := [] })) ∧
                          (True → Q { val := HV.ce (HC.bool true), own := false, pars := [], news := [] }) ∧
                            (True → Q { val := HV.ce (HC.bool true), own := false, pars := [], news := [] }))) := by kernel_rfl
theorem vb19o0 (l : List (List Int)) (r : Bool) (st0 sp0 ac0 je0 lo0 hi0 bl0 og0 sg0 : Int) (pit0 : List (List Int)) (st1 sp1 ac1 je1 lo1 hi1 bl1 og1 sg1 : Int) (pit1 : List (List Int)) (st2 sp2 ac2 je2 lo2 hi2 bl2 og2 sg2 : Int) (pit2 : List (List Int)) (K : HEx → LV → Prop) : (nbodyT true C19 an19o (nthLoop Try.f19 0) ([.ce (.sl false [4, 4, 4] l), .ce (.ptr 1000002 0), .ce (.bool r), .ce (.num .i64 0)], [[.int .i64 st0, .int .i64 sp0, .int .i64 ac0, .int .i64 je0, .int .i64 lo0, .int .i64 hi0, .int .i64 bl0, .int .i64 og0, .int .i64 sg0, .sl false [4] pit0, .int .i64 st1, .int .i64 sp1, .int .i64 ac1, .int .i64 je1, .int .i64 lo1, .int .i64 hi1, .int .i64 bl1, .int .i64 og1, .int .i64 sg1, .sl false [4] pit1, .int .i64 st2, .int .i64 sp2, .int .i64 ac2, .int .i64 je2, .int .i64 lo2, .int .i64 hi2, .int .i64 bl2, .int .i64 og2, .int .i64 sg2, .sl false [4] pit2]]) K) =
    (((0 : Int) ≤ (((List.length l) : Nat) : Int) ∧
        (((List.length l) : Nat) : Int) = (((List.length l) : Nat) : Int) ∧
          (((List.length l) : Nat) : Int) ≤ (140737488355328 : Int) ∧ (((List.length l) : Nat) : Int) * (8 : Int) ≤ (140737488355328 : Int)) ∧
      (((0 : Int) ≤ (0 : Int) ∧ (0 : Int) ≤ (2 : Int)) ∧
          List.replicate (Int.toNat (((List.length l) : Nat) : Int)) [(0 : Int)] = List.replicate (List.length l) [(0 : Int)] ∧
            Int.toNat (((List.length l) : Nat) : Int) = List.length l ∧
              (((List.length l) : Nat) : Int) = (((List.length l) : Nat) : Int) ∧ (0 : Int) = (0 : Int) ∧ List.length l ≤ (1000 : Nat)) ∧
        ((0 : Int) ≤ (0 : Int) ∧ (0 : Int) < (3 : Int)) ∧
          Int.toNat (((List.length l) : Nat) : Int) = List.length (col l ((0 : Nat))) ∧
            List.length (col l ((0 : Nat))) ≤ (1000 : Nat) ∧
              ∀ (x1 : Bool),
                x1 = W sp0 ac0 je0 (col l ((0 : Nat))) →
                  ((!x1) = true →
                      K HEx.ret
                        ([HV.ce (HC.bool false)],
                          [[HC.int IntKind.i64 st0, HC.int IntKind.i64 sp0, HC.int IntKind.i64 ac0, HC.int IntKind.i64 je0,
                              HC.int IntKind.i64 lo0, HC.int IntKind.i64 hi0, HC.int IntKind.i64 bl0,
                              HC.int IntKind.i64 og0, HC.int IntKind.i64 sg0, HC.sl false [(4 : Nat)] pit0,
                              HC.int IntKind.i64 st1, HC.int IntKind.i64 sp1, HC.int IntKind.i64 ac1,
                              HC.int IntKind.i64 je1, HC.int IntKind.i64 lo1, HC.int IntKind.i64 hi1,
                              HC.int IntKind.i64 bl1, HC.int IntKind.i64 og1, HC.int IntKind.i64 sg1,
                              HC.sl false [(4 : Nat)] pit1, HC.int IntKind.i64 st2, HC.int IntKind.i64 sp2,
                              HC.int IntKind.i64 ac2, HC.int IntKind.i64 je2, HC.int IntKind.i64 lo2,
                              HC.int IntKind.i64 hi2, HC.int IntKind.i64 bl2, HC.int IntKind.i64 og2,
                              HC.int IntKind.i64 sg2, HC.sl false [(4 : Nat)] pit2]])) ∧
                    ((!x1) = false →
                      K HEx.normal
                        ([HV.ce (HC.sl false [(4 : Nat), (4 : Nat), (4 : Nat)] l), HV.ce (HC.ptr (1000002 : Nat) (0 : Nat)),
                            HV.ce (HC.bool r), HV.ce (HC.num IntKind.i64 (1 : Int))],
                          [[HC.int IntKind.i64 st0, HC.int IntKind.i64 sp0, HC.int IntKind.i64 ac0, HC.int IntKind.i64 je0,
                              HC.int IntKind.i64 lo0, HC.int IntKind.i64 hi0, HC.int IntKind.i64 bl0,
                              HC.int IntKind.i64 og0, HC.int IntKind.i64 sg0, HC.sl false [(4 : Nat)] pit0,
                              HC.int IntKind.i64 st1, HC.int IntKind.i64 sp1, HC.int IntKind.i64 ac1,
                              HC.int IntKind.i64 je1, HC.int IntKind.i64 lo1, HC.int IntKind.i64 hi1,
                              HC.int IntKind.i64 bl1, HC.int IntKind.i64 og1, HC.int IntKind.i64 sg1,
                              HC.sl false [(4 : Nat)] pit1, HC.int IntKind.i64 st2, HC.int IntKind.i64 sp2,
                              HC.int IntKind.i64 ac2, HC.int IntKind.i64 je2, HC.int IntKind.i64 lo2,
                              HC.int IntKind.i64 hi2, HC.int IntKind.i64 bl2, HC.int IntKind.i64 og2,
                              HC.int IntKind.i64 sg2, HC.sl false [(4 : Nat)] pit2]]))) := by kernel_rfl
theorem vb19o1 (l : List (List Int)) (r : Bool) (st0 sp0 ac0 je0 lo0 hi0 bl0 og0 sg0 : Int) (pit0 : List (List Int)) (st1 sp1 ac1 je1 lo1 hi1 bl1 og1 sg1 : Int) (pit1 : List (List Int)) (st2 sp2 ac2 je2 lo2 hi2 bl2 og2 sg2 : Int) (pit2 : List (List Int)) (K : HEx → LV → Prop) : (nbodyT true C19 an19o (nthLoop Try.f19 0) ([.ce (.sl false [4, 4, 4] l), .ce (.ptr 1000002 0), .ce (.bool r), .ce (.num .i64 1)], [[.int .i64 st0, .int .i64 sp0, .int .i64 ac0, .int .i64 je0, .int .i64 lo0, .int .i64 hi0, .int .i64 bl0, .int .i64 og0, .int .i64 sg0, .sl false [4] pit0, .int .i64 st1, .int .i64 sp1, .int .i64 ac1, .int .i64 je1, .int .i64 lo1, .int .i64 hi1, .int .i64 bl1, .int .i64 og1, .int .i64 sg1, .sl false [4] pit1, .int .i64 st2, .int .i64 sp2, .int .i64 ac2, .int .i64 je2, .int .i64 lo2, .int .i64 hi2, .int .i64 bl2, .int .i64 og2, .int .i64 sg2, .sl false [4] pit2]]) K) =
    (((0 : Int) ≤ (((List.length l) : Nat) : Int) ∧
        (((List.length l) : Nat) : Int) = (((List.length l) : Nat) : Int) ∧
          (((List.length l) : Nat) : Int) ≤ (140737488355328 : Int) ∧ (((List.length l) : Nat) : Int) * (8 : Int) ≤ (140737488355328 : Int)) ∧
      (((0 : Int) ≤ (1 : Int) ∧ (1 : Int) ≤ (2 : Int)) ∧
          List.replicate (Int.toNat (((List.length l) : Nat) : Int)) [(0 : Int)] = List.replicate (List.length l) [(0 : Int)] ∧
            Int.toNat (((List.length l) : Nat) : Int) = List.length l ∧
              (((List.length l) : Nat) : Int) = (((List.length l) : Nat) : Int) ∧ (0 : Int) = (0 : Int) ∧ List.length l ≤ (1000 : Nat)) ∧
        ((0 : Int) ≤ (1 : Int) ∧ (1 : Int) < (3 : Int)) ∧
          Int.toNat (((List.length l) : Nat) : Int) = List.length (col l ((1 : Nat))) ∧
            List.length (col l ((1 : Nat))) ≤ (1000 : Nat) ∧
              ∀ (x1 : Bool),
                x1 = W sp1 ac1 je1 (col l ((1 : Nat))) →
                  ((!x1) = true →
                      K HEx.ret
                        ([HV.ce (HC.bool false)],
                          [[HC.int IntKind.i64 st0, HC.int IntKind.i64 sp0, HC.int IntKind.i64 ac0, HC.int IntKind.i64 je0,
                              HC.int IntKind.i64 lo0, HC.int IntKind.i64 hi0, HC.int IntKind.i64 bl0,
                              HC.int IntKind.i64 og0, HC.int IntKind.i64 sg0, HC.sl false [(4 : Nat)] pit0,
                              HC.int IntKind.i64 st1, HC.int IntKind.i64 sp1, HC.int IntKind.i64 ac1,
                              HC.int IntKind.i64 je1, HC.int IntKind.i64 lo1, HC.int IntKind.i64 hi1,
                              HC.int IntKind.i64 bl1, HC.int IntKind.i64 og1, HC.int IntKind.i64 sg1,
                              HC.sl false [(4 : Nat)] pit1, HC.int IntKind.i64 st2, HC.int IntKind.i64 sp2,
                              HC.int IntKind.i64 ac2, HC.int IntKind.i64 je2, HC.int IntKind.i64 lo2,
                              HC.int IntKind.i64 hi2, HC.int IntKind.i64 bl2, HC.int IntKind.i64 og2,
                              HC.int IntKind.i64 sg2, HC.sl false [(4 : Nat)] pit2]])) ∧
                    ((!x1) = false →
                      K HEx.normal
                        ([HV.ce (HC.sl false [(4 : Nat), (4 : Nat), (4 : Nat)] l), HV.ce (HC.ptr (1000002 : Nat) (0 : Nat)),
                            HV.ce (HC.bool r), HV.ce (HC.num IntKind.i64 (2 : Int))],
                          [[HC.int IntKind.i64 st0, HC.int IntKind.i64 sp0, HC.int IntKind.i64 ac0, HC.int IntKind.i64 je0,
                              HC.int IntKind.i64 lo0, HC.int IntKind.i64 hi0, HC.int IntKind.i64 bl0,
                              HC.int IntKind.i64 og0, HC.int IntKind.i64 sg0, HC.sl false [(4 : Nat)] pit0,
                              HC.int IntKind.i64 st1, HC.int IntKind.i64 sp1, HC.int IntKind.i64 ac1,
                              HC.int IntKind.i64 je1, HC.int IntKind.i64 lo1, HC.int IntKind.i64 hi1,
                              HC.int IntKind.i64 bl1, HC.int IntKind.i64 og1, HC.int IntKind.i64 sg1,
                              HC.sl false [(4 : Nat)] pit1, HC.int IntKind.i64 st2, HC.int IntKind.i64 sp2,
                              HC.int IntKind.i64 ac2, HC.int IntKind.i64 je2, HC.int IntKind.i64 lo2,
                              HC.int IntKind.i64 hi2, HC.int IntKind.i64 bl2, HC.int IntKind.i64 og2,
                              HC.int IntKind.i64 sg2, HC.sl false [(4 : Nat)] pit2]]))) := by kernel_rfl
theorem vb19o2 (l : List (List Int)) (r : Bool) (st0 sp0 ac0 je0 lo0 hi0 bl0 og0 sg0 : Int) (pit0 : List (List Int)) (st1 sp1 ac1 je1 lo1 hi1 bl1 og1 sg1 : Int) (pit1 : List (List Int)) (st2 sp2 ac2 je2 lo2 hi2 bl2 og2 sg2 : Int) (pit2 : List (List Int)) (K : HEx → LV → Prop) : (nbodyT true C19 an19o (nthLoop Try.f19 0) ([.ce (.sl false [4, 4, 4] l), .ce (.ptr 1000002 0), .ce (.bool r), .ce (.num .i64 2)], [[.int .i64 st0, .int .i64 sp0, .int .i64 ac0, .int .i64 je0, .int .i64 lo0, .int .i64 hi0, .int .i64 bl0, .int .i64 og0, .int .i64 sg0, .sl false [4] pit0, .int .i64 st1, .int .i64 sp1, .int .i64 ac1, .int .i64 je1, .int .i64 lo1, .int .i64 hi1, .int .i64 bl1, .int .i64 og1, .int .i64 sg1, .sl false [4] pit1, .int .i64 st2, .int .i64 sp2, .int .i64 ac2, .int .i64 je2, .int .i64 lo2, .int .i64 hi2, .int .i64 bl2, .int .i64 og2, .int .i64 sg2, .sl false [4] pit2]]) K) =
    (((0 : Int) ≤ (((List.length l) : Nat) : Int) ∧
        (((List.length l) : Nat) : Int) = (((List.length l) : Nat) : Int) ∧
          (((List.length l) : Nat) : Int) ≤ (140737488355328 : Int) ∧ (((List.length l) : Nat) : Int) * (8 : Int) ≤ (140737488355328 : Int)) ∧
      (((0 : Int) ≤ (2 : Int) ∧ (2 : Int) ≤ (2 : Int)) ∧
          List.replicate (Int.toNat (((List.length l) : Nat) : Int)) [(0 : Int)] = List.replicate (List.length l) [(0 : Int)] ∧
            Int.toNat (((List.length l) : Nat) : Int) = List.length l ∧
              (((List.length l) : Nat) : Int) = (((List.length l) : Nat) : Int) ∧ (0 : Int) = (0 : Int) ∧ List.length l ≤ (1000 : Nat)) ∧
        ((0 : Int) ≤ (2 : Int) ∧ (2 : Int) < (3 : Int)) ∧
          Int.toNat (((List.length l) : Nat) : Int) = List.length (col l ((2 : Nat))) ∧
            List.length (col l ((2 : Nat))) ≤ (1000 : Nat) ∧
              ∀ (x1 : Bool),
                x1 = W sp2 ac2 je2 (col l ((2 : Nat))) →
                  ((!x1) = true →
                      K HEx.ret
                        ([HV.ce (HC.bool false)],
                          [[HC.int IntKind.i64 st0, HC.int IntKind.i64 sp0, HC.int IntKind.i64 ac0, HC.int IntKind.i64 je0,
                              HC.int IntKind.i64 lo0, HC.int IntKind.i64 hi0, HC.int IntKind.i64 bl0,
                              HC.int IntKind.i64 og0, HC.int IntKind.i64 sg0, HC.sl false [(4 : Nat)] pit0,
                              HC.int IntKind.i64 st1, HC.int IntKind.i64 sp1, HC.int IntKind.i64 ac1,
                              HC.int IntKind.i64 je1, HC.int IntKind.i64 lo1, HC.int IntKind.i64 hi1,
                              HC.int IntKind.i64 bl1, HC.int IntKind.i64 og1, HC.int IntKind.i64 sg1,
                              HC.sl false [(4 : Nat)] pit1, HC.int IntKind.i64 st2, HC.int IntKind.i64 sp2,
                              HC.int IntKind.i64 ac2, HC.int IntKind.i64 je2, HC.int IntKind.i64 lo2,
                              HC.int IntKind.i64 hi2, HC.int IntKind.i64 bl2, HC.int IntKind.i64 og2,
                              HC.int IntKind.i64 sg2, HC.sl false [(4 : Nat)] pit2]])) ∧
                    ((!x1) = false →
                      K HEx.normal
                        ([HV.ce (HC.sl false [(4 : Nat), (4 : Nat), (4 : Nat)] l), HV.ce (HC.ptr (1000002 : Nat) (0 : Nat)),
                            HV.ce (HC.bool r), HV.ce (HC.num IntKind.i64 (3 : Int))],
                          [[HC.int IntKind.i64 st0, HC.int IntKind.i64 sp0, HC.int IntKind.i64 ac0, HC.int IntKind.i64 je0,
                              HC.int IntKind.i64 lo0, HC.int IntKind.i64 hi0, HC.int IntKind.i64 bl0,
                              HC.int IntKind.i64 og0, HC.int IntKind.i64 sg0, HC.sl false [(4 : Nat)] pit0,
                              HC.int IntKind.i64 st1, HC.int IntKind.i64 sp1, HC.int IntKind.i64 ac1,
                              HC.int IntKind.i64 je1, HC.int IntKind.i64 lo1, HC.int IntKind.i64 hi1,
                              HC.int IntKind.i64 bl1, HC.int IntKind.i64 og1, HC.int IntKind.i64 sg1,
                              HC.sl false [(4 : Nat)] pit1, HC.int IntKind.i64 st2, HC.int IntKind.i64 sp2,
                              HC.int IntKind.i64 ac2, HC.int IntKind.i64 je2, HC.int IntKind.i64 lo2,
                              HC.int IntKind.i64 hi2, HC.int IntKind.i64 bl2, HC.int IntKind.i64 og2,
                              HC.int IntKind.i64 sg2, HC.sl false [(4 : Nat)] pit2]]))) := by kernel_rfl
theorem vb19o3 (l : List (List Int)) (r : Bool) (st0 sp0 ac0 je0 lo0 hi0 bl0 og0 sg0 : Int) (pit0 : List (List Int)) (st1 sp1 ac1 je1 lo1 hi1 bl1 og1 sg1 : Int) (pit1 : List (List Int)) (st2 sp2 ac2 je2 lo2 hi2 bl2 og2 sg2 : Int) (pit2 : List (List Int)) (K : HEx → LV → Prop) : (nbodyT true C19 an19o (nthLoop Try.f19 0) ([.ce (.sl false [4, 4, 4] l), .ce (.ptr 1000002 0), .ce (.bool r), .ce (.num .i64 3)], [[.int .i64 st0, .int .i64 sp0, .int .i64 ac0, .int .i64 je0, .int .i64 lo0, .int .i64 hi0, .int .i64 bl0, .int .i64 og0, .int .i64 sg0, .sl false [4] pit0, .int .i64 st1, .int .i64 sp1, .int .i64 ac1, .int .i64 je1, .int .i64 lo1, .int .i64 hi1, .int .i64 bl1, .int .i64 og1, .int .i64 sg1, .sl false [4] pit1, .int .i64 st2, .int .i64 sp2, .int .i64 ac2, .int .i64 je2, .int .i64 lo2, .int .i64 hi2, .int .i64 bl2, .int .i64 og2, .int .i64 sg2, .sl false [4] pit2]]) K) =
    (K (HEx.exit (0 : Nat))
      ([HV.ce (HC.bool r)],
        [[HC.int IntKind.i64 st0, HC.int IntKind.i64 sp0, HC.int IntKind.i64 ac0, HC.int IntKind.i64 je0,
            HC.int IntKind.i64 lo0, HC.int IntKind.i64 hi0, HC.int IntKind.i64 bl0, HC.int IntKind.i64 og0,
            HC.int IntKind.i64 sg0, HC.sl false [(4 : Nat)] pit0, HC.int IntKind.i64 st1, HC.int IntKind.i64 sp1,
            HC.int IntKind.i64 ac1, HC.int IntKind.i64 je1, HC.int IntKind.i64 lo1, HC.int IntKind.i64 hi1,
            HC.int IntKind.i64 bl1, HC.int IntKind.i64 og1, HC.int IntKind.i64 sg1, HC.sl false [(4 : Nat)] pit1,
            HC.int IntKind.i64 st2, HC.int IntKind.i64 sp2, HC.int IntKind.i64 ac2, HC.int IntKind.i64 je2,
            HC.int IntKind.i64 lo2, HC.int IntKind.i64 hi2, HC.int IntKind.i64 bl2, HC.int IntKind.i64 og2,
            HC.int IntKind.i64 sg2, HC.sl false [(4 : Nat)] pit2]])) := by kernel_rfl
theorem vb20o0 (l : List (List Int)) (r : Bool) (st0 sp0 ac0 je0 lo0 hi0 bl0 og0 sg0 : Int) (pit0 : List (List Int)) (st1 sp1 ac1 je1 lo1 hi1 bl1 og1 sg1 : Int) (pit1 : List (List Int)) (st2 sp2 ac2 je2 lo2 hi2 bl2 og2 sg2 : Int) (pit2 : List (List Int)) (K : HEx → LV → Prop) : (nbodyT true C20 an20o (nthLoop Try.f20 0) ([.ce (.sl false [4, 4, 4] l), .ce (.ptr 1000002 0), .ce (.bool r), .ce (.num .i64 0)], [[.int .i64 st0, .int .i64 sp0, .int .i64 ac0, .int .i64 je0, .int .i64 lo0, .int .i64 hi0, .int .i64 bl0, .int .i64 og0, .int .i64 sg0, .sl false [4] pit0, .int .i64 st1, .int .i64 sp1, .int .i64 ac1, .int .i64 je1, .int .i64 lo1, .int .i64 hi1, .int .i64 bl1, .int .i64 og1, .int .i64 sg1, .sl false [4] pit1, .int .i64 st2, .int .i64 sp2, .int .i64 ac2, .int .i64 je2, .int .i64 lo2, .int .i64 hi2, .int .i64 bl2, .int .i64 og2, .int .i64 sg2, .sl false [4] pit2]]) K) =
    ((((0 : Int) ≤ (0 : Int) ∧ (0 : Int) ≤ (2 : Int)) ∧
        (0 : Nat) = (0 : Nat) ∧
          (((List.length l) : Nat) : Int) = (((List.length l) : Nat) : Int) ∧
            (0 : Int) = (0 : Int) ∧ List.length l * (24 : Nat) ≤ (140737488355328 : Nat)) ∧
      ((0 : Int) ≤ (0 : Int) ∧ (0 : Int) < (3 : Int)) ∧
        List.length (col l ((0 : Nat))) ≤ (1000 : Nat) ∧
          ∀ (x1 : Bool),
            x1 = W sp0 ac0 je0 (col l ((0 : Nat))) →
              ((!x1) = true →
                  K HEx.ret
                    ([HV.ce (HC.bool false)],
                      [[HC.int IntKind.i64 st0, HC.int IntKind.i64 sp0, HC.int IntKind.i64 ac0, HC.int IntKind.i64 je0,
                          HC.int IntKind.i64 lo0, HC.int IntKind.i64 hi0, HC.int IntKind.i64 bl0, HC.int IntKind.i64 og0,
                          HC.int IntKind.i64 sg0, HC.sl false [(4 : Nat)] pit0, HC.int IntKind.i64 st1,
                          HC.int IntKind.i64 sp1, HC.int IntKind.i64 ac1, HC.int IntKind.i64 je1, HC.int IntKind.i64 lo1,
                          HC.int IntKind.i64 hi1, HC.int IntKind.i64 bl1, HC.int IntKind.i64 og1, HC.int IntKind.i64 sg1,
                          HC.sl false [(4 : Nat)] pit1, HC.int IntKind.i64 st2, HC.int IntKind.i64 sp2,
                          HC.int IntKind.i64 ac2, HC.int IntKind.i64 je2, HC.int IntKind.i64 lo2, HC.int IntKind.i64 hi2,
                          HC.int IntKind.i64 bl2, HC.int IntKind.i64 og2, HC.int IntKind.i64 sg2,
                          HC.sl false [(4 : Nat)] pit2]])) ∧
                ((!x1) = false →
                  K HEx.normal
                    ([HV.ce (HC.sl false [(4 : Nat), (4 : Nat), (4 : Nat)] l), HV.ce (HC.ptr (1000002 : Nat) (0 : Nat)),
                        HV.ce (HC.bool r), HV.ce (HC.num IntKind.i64 (1 : Int))],
                      [[HC.int IntKind.i64 st0, HC.int IntKind.i64 sp0, HC.int IntKind.i64 ac0, HC.int IntKind.i64 je0,
                          HC.int IntKind.i64 lo0, HC.int IntKind.i64 hi0, HC.int IntKind.i64 bl0, HC.int IntKind.i64 og0,
                          HC.int IntKind.i64 sg0, HC.sl false [(4 : Nat)] pit0, HC.int IntKind.i64 st1,
                          HC.int IntKind.i64 sp1, HC.int IntKind.i64 ac1, HC.int IntKind.i64 je1, HC.int IntKind.i64 lo1,
                          HC.int IntKind.i64 hi1, HC.int IntKind.i64 bl1, HC.int IntKind.i64 og1, HC.int IntKind.i64 sg1,
                          HC.sl false [(4 : Nat)] pit1, HC.int IntKind.i64 st2, HC.int IntKind.i64 sp2,
                          HC.int IntKind.i64 ac2, HC.int IntKind.i64 je2, HC.int IntKind.i64 lo2, HC.int IntKind.i64 hi2,
                          HC.int IntKind.i64 bl2, HC.int IntKind.i64 og2, HC.int IntKind.i64 sg2,
                          HC.sl false [(4 : Nat)] pit2]]))) := by kernel_rfl
theorem vb20o1 (l : List (List Int)) (r : Bool) (st0 sp0 ac0 je0 lo0 hi0 bl0 og0 sg0 : Int) (pit0 : List (List Int)) (st1 sp1 ac1 je1 lo1 hi1 bl1 og1 sg1 : Int) (pit1 : List (List Int)) (st2 sp2 ac2 je2 lo2 hi2 bl2 og2 sg2 : Int) (pit2 : List (List Int)) (K : HEx → LV → Prop) : (nbodyT true C20 an20o (nthLoop Try.f20 0) ([.ce (.sl false [4, 4, 4] l), .ce (.ptr 1000002 0), .ce (.bool r), .ce (.num .i64 1)], [[.int .i64 st0, .int .i64 sp0, .int .i64 ac0, .int .i64 je0, .int .i64 lo0, .int .i64 hi0, .int .i64 bl0, .int .i64 og0, .int .i64 sg0, .sl false [4] pit0, .int .i64 st1, .int .i64 sp1, .int .i64 ac1, .int .i64 je1, .int .i64 lo1, .int .i64 hi1, .int .i64 bl1, .int .i64 og1, .int .i64 sg1, .sl false [4] pit1, .int .i64 st2, .int .i64 sp2, .int .i64 ac2, .int .i64 je2, .int .i64 lo2, .int .i64 hi2, .int .i64 bl2, .int .i64 og2, .int .i64 sg2, .sl false [4] pit2]]) K) =
    ((((0 : Int) ≤ (1 : Int) ∧ (1 : Int) ≤ (2 : Int)) ∧
        (0 : Nat) = (0 : Nat) ∧
          (((List.length l) : Nat) : Int) = (((List.length l) : Nat) : Int) ∧
            (0 : Int) = (0 : Int) ∧ List.length l * (24 : Nat) ≤ (140737488355328 : Nat)) ∧
      ((0 : Int) ≤ (1 : Int) ∧ (1 : Int) < (3 : Int)) ∧
        List.length (col l ((1 : Nat))) ≤ (1000 : Nat) ∧
          ∀ (x1 : Bool),
            x1 = W sp1 ac1 je1 (col l ((1 : Nat))) →
              ((!x1) = true →
                  K HEx.ret
                    ([HV.ce (HC.bool false)],
                      [[HC.int IntKind.i64 st0, HC.int IntKind.i64 sp0, HC.int IntKind.i64 ac0, HC.int IntKind.i64 je0,
                          HC.int IntKind.i64 lo0, HC.int IntKind.i64 hi0, HC.int IntKind.i64 bl0, HC.int IntKind.i64 og0,
                          HC.int IntKind.i64 sg0, HC.sl false [(4 : Nat)] pit0, HC.int IntKind.i64 st1,
                          HC.int IntKind.i64 sp1, HC.int IntKind.i64 ac1, HC.int IntKind.i64 je1, HC.int IntKind.i64 lo1,
                          HC.int IntKind.i64 hi1, HC.int IntKind.i64 bl1, HC.int IntKind.i64 og1, HC.int IntKind.i64 sg1,
                          HC.sl false [(4 : Nat)] pit1, HC.int IntKind.i64 st2, HC.int IntKind.i64 sp2,
                          HC.int IntKind.i64 ac2, HC.int IntKind.i64 je2, HC.int IntKind.i64 lo2, HC.int IntKind.i64 hi2,
                          HC.int IntKind.i64 bl2, HC.int IntKind.i64 og2, HC.int IntKind.i64 sg2,
                          HC.sl false [(4 : Nat)] pit2]])) ∧
                ((!x1) = false →
                  K HEx.normal
                    ([HV.ce (HC.sl false [(4 : Nat), (4 : Nat), (4 : Nat)] l), HV.ce (HC.ptr (1000002 : Nat) (0 : Nat)),
                        HV.ce (HC.bool r), HV.ce (HC.num IntKind.i64 (2 : Int))],
                      [[HC.int IntKind.i64 st0, HC.int IntKind.i64 sp0, HC.int IntKind.i64 ac0, HC.int IntKind.i64 je0,
                          HC.int IntKind.i64 lo0, HC.int IntKind.i64 hi0, HC.int IntKind.i64 bl0, HC.int IntKind.i64 og0,
                          HC.int IntKind.i64 sg0, HC.sl false [(4 : Nat)] pit0, HC.int IntKind.i64 st1,
                          HC.int IntKind.i64 sp1, HC.int IntKind.i64 ac1, HC.int IntKind.i64 je1, HC.int IntKind.i64 lo1,
                          HC.int IntKind.i64 hi1, HC.int IntKind.i64 bl1, HC.int IntKind.i64 og1, HC.int IntKind.i64 sg1,
                          HC.sl false [(4 : Nat)] pit1, HC.int IntKind.i64 st2, HC.int IntKind.i64 sp2,
                          HC.int IntKind.i64 ac2, HC.int IntKind.i64 je2, HC.int IntKind.i64 lo2, HC.int IntKind.i64 hi2,
                          HC.int IntKind.i64 bl2, HC.int IntKind.i64 og2, HC.int IntKind.i64 sg2,
                          HC.sl false [(4 : Nat)] pit2]]))) := by kernel_rfl
theorem vb20o2 (l : List (List Int)) (r : Bool) (st0 sp0 ac0 je0 lo0 hi0 bl0 og0 sg0 : Int) (pit0 : List (List Int)) (st1 sp1 ac1 je1 lo1 hi1 bl1 og1 sg1 : Int) (pit1 : List (List Int)) (st2 sp2 ac2 je2 lo2 hi2 bl2 og2 sg2 : Int) (pit2 : List (List Int)) (K : HEx → LV → Prop) : (nbodyT true C20 an20o (nthLoop Try.f20 0) ([.ce (.sl false [4, 4, 4] l), .ce (.ptr 1000002 0), .ce (.bool r), .ce (.num .i64 2)], [[.int .i64 st0, .int .i64 sp0, .int .i64 ac0, .int .i64 je0, .int .i64 lo0, .int .i64 hi0, .int .i64 bl0, .int .i64 og0, .int .i64 sg0, .sl false [4] pit0, .int .i64 st1, .int .i64 sp1, .int .i64 ac1, .int .i64 je1, .int .i64 lo1, .int .i64 hi1, .int .i64 bl1, .int .i64 og1, .int .i64 sg1, .sl false [4] pit1, .int .i64 st2, .int .i64 sp2, .int .i64 ac2, .int .i64 je2, .int .i64 lo2, .int .i64 hi2, .int .i64 bl2, .int .i64 og2, .int .i64 sg2, .sl false [4] pit2]]) K) =
    ((((0 : Int) ≤ (2 : Int) ∧ (2 : Int) ≤ (2 : Int)) ∧
        (0 : Nat) = (0 : Nat) ∧
          (((List.length l) : Nat) : Int) = (((List.length l) : Nat) : Int) ∧
            (0 : Int) = (0 : Int) ∧ List.length l * (24 : Nat) ≤ (140737488355328 : Nat)) ∧
      ((0 : Int) ≤ (2 : Int) ∧ (2 : Int) < (3 : Int)) ∧
        List.length (col l ((2 : Nat))) ≤ (1000 : Nat) ∧
          ∀ (x1 : Bool),
            x1 = W sp2 ac2 je2 (col l ((2 : Nat))) →
              ((!x1) = true →
                  K HEx.ret
                    ([HV.ce (HC.bool false)],
                      [[HC.int IntKind.i64 st0, HC.int IntKind.i64 sp0, HC.int IntKind.i64 ac0, HC.int IntKind.i64 je0,
                          HC.int IntKind.i64 lo0, HC.int IntKind.i64 hi0, HC.int IntKind.i64 bl0, HC.int IntKind.i64 og0,
                          HC.int IntKind.i64 sg0, HC.sl false [(4 : Nat)] pit0, HC.int IntKind.i64 st1,
                          HC.int IntKind.i64 sp1, HC.int IntKind.i64 ac1, HC.int IntKind.i64 je1, HC.int IntKind.i64 lo1,
                          HC.int IntKind.i64 hi1, HC.int IntKind.i64 bl1, HC.int IntKind.i64 og1, HC.int IntKind.i64 sg1,
                          HC.sl false [(4 : Nat)] pit1, HC.int IntKind.i64 st2, HC.int IntKind.i64 sp2,
                          HC.int IntKind.i64 ac2, HC.int IntKind.i64 je2, HC.int IntKind.i64 lo2, HC.int IntKind.i64 hi2,
                          HC.int IntKind.i64 bl2, HC.int IntKind.i64 og2, HC.int IntKind.i64 sg2,
                          HC.sl false [(4 : Nat)] pit2]])) ∧
                ((!x1) = false →
                  K HEx.normal
                    ([HV.ce (HC.sl false [(4 : Nat), (4 : Nat), (4 : Nat)] l), HV.ce (HC.ptr (1000002 : Nat) (0 : Nat)),
                        HV.ce (HC.bool r), HV.ce (HC.num IntKind.i64 (3 : Int))],
                      [[HC.int IntKind.i64 st0, HC.int IntKind.i64 sp0, HC.int IntKind.i64 ac0, HC.int IntKind.i64 je0,
                          HC.int IntKind.i64 lo0, HC.int IntKind.i64 hi0, HC.int IntKind.i64 bl0, HC.int IntKind.i64 og0,
                          HC.int IntKind.i64 sg0, HC.sl false [(4 : Nat)] pit0, HC.int IntKind.i64 st1,
                          HC.int IntKind.i64 sp1, HC.int IntKind.i64 ac1, HC.int IntKind.i64 je1, HC.int IntKind.i64 lo1,
                          HC.int IntKind.i64 hi1, HC.int IntKind.i64 bl1, HC.int IntKind.i64 og1, HC.int IntKind.i64 sg1,
                          HC.sl false [(4 : Nat)] pit1, HC.int IntKind.i64 st2, HC.int IntKind.i64 sp2,
                          HC.int IntKind.i64 ac2, HC.int IntKind.i64 je2, HC.int IntKind.i64 lo2, HC.int IntKind.i64 hi2,
                          HC.int IntKind.i64 bl2, HC.int IntKind.i64 og2, HC.int IntKind.i64 sg2,
                          HC.sl false [(4 : Nat)] pit2]]))) := by kernel_rfl
theorem vb20o3 (l : List (List Int)) (r : Bool) (st0 sp0 ac0 je0 lo0 hi0 bl0 og0 sg0 : Int) (pit0 : List (List Int)) (st1 sp1 ac1 je1 lo1 hi1 bl1 og1 sg1 : Int) (pit1 : List (List Int)) (st2 sp2 ac2 je2 lo2 hi2 bl2 og2 sg2 : Int) (pit2 : List (List Int)) (K : HEx → LV → Prop) : (nbodyT true C20 an20o (nthLoop Try.f20 0) ([.ce (.sl false [4, 4, 4] l), .ce (.ptr 1000002 0), .ce (.bool r), .ce (.num .i64 3)], [[.int .i64 st0, .int .i64 sp0, .int .i64 ac0, .int .i64 je0, .int .i64 lo0, .int .i64 hi0, .int .i64 bl0, .int .i64 og0, .int .i64 sg0, .sl false [4] pit0, .int .i64 st1, .int .i64 sp1, .int .i64 ac1, .int .i64 je1, .int .i64 lo1, .int .i64 hi1, .int .i64 bl1, .int .i64 og1, .int .i64 sg1, .sl false [4] pit1, .int .i64 st2, .int .i64 sp2, .int .i64 ac2, .int .i64 je2, .int .i64 lo2, .int .i64 hi2, .int .i64 bl2, .int .i64 og2, .int .i64 sg2, .sl false [4] pit2]]) K) =
    (K (HEx.exit (0 : Nat))
      ([HV.ce (HC.bool r)],
        [[HC.int IntKind.i64 st0, HC.int IntKind.i64 sp0, HC.int IntKind.i64 ac0, HC.int IntKind.i64 je0,
            HC.int IntKind.i64 lo0, HC.int IntKind.i64 hi0, HC.int IntKind.i64 bl0, HC.int IntKind.i64 og0,
            HC.int IntKind.i64 sg0, HC.sl false [(4 : Nat)] pit0, HC.int IntKind.i64 st1, HC.int IntKind.i64 sp1,
            HC.int IntKind.i64 ac1, HC.int IntKind.i64 je1, HC.int IntKind.i64 lo1, HC.int IntKind.i64 hi1,
            HC.int IntKind.i64 bl1, HC.int IntKind.i64 og1, HC.int IntKind.i64 sg1, HC.sl false [(4 : Nat)] pit1,
            HC.int IntKind.i64 st2, HC.int IntKind.i64 sp2, HC.int IntKind.i64 ac2, HC.int IntKind.i64 je2,
            HC.int IntKind.i64 lo2, HC.int IntKind.i64 hi2, HC.int IntKind.i64 bl2, HC.int IntKind.i64 og2,
            HC.int IntKind.i64 sg2, HC.sl false [(4 : Nat)] pit2]])) := by kernel_rfl
theorem vb8o0 (l : List (List Int)) (r ok : Bool) (st0 sp0 ac0 je0 lo0 hi0 bl0 og0 sg0 : Int) (pit0 : List (List Int)) (st1 sp1 ac1 je1 lo1 hi1 bl1 og1 sg1 : Int) (pit1 : List (List Int)) (st2 sp2 ac2 je2 lo2 hi2 bl2 og2 sg2 : Int) (pit2 : List (List Int)) (K : HEx → LV → Prop) : (nbodyT true C8 an8o (nthLoop Try.f8 0) ([.ce (.sl false [4, 4, 4] l), .ce (.bool r), .ce (.ptr 1000005 0), .ce (.bool ok), .ce (.num .i64 0)], [[.int .i64 st0, .int .i64 sp0, .int .i64 ac0, .int .i64 je0, .int .i64 lo0, .int .i64 hi0, .int .i64 bl0, .int .i64 og0, .int .i64 sg0, .sl false [4] pit0, .int .i64 st1, .int .i64 sp1, .int .i64 ac1, .int .i64 je1, .int .i64 lo1, .int .i64 hi1, .int .i64 bl1, .int .i64 og1, .int .i64 sg1, .sl false [4] pit1, .int .i64 st2, .int .i64 sp2, .int .i64 ac2, .int .i64 je2, .int .i64 lo2, .int .i64 hi2, .int .i64 bl2, .int .i64 og2, .int .i64 sg2, .sl false [4] pit2]]) K) =
    ((((0 : Int) ≤ (0 : Int) ∧ (0 : Int) ≤ (2 : Int)) ∧
        (0 : Nat) = (0 : Nat) ∧
          (((List.length l) : Nat) : Int) = (((List.length l) : Nat) : Int) ∧
            (0 : Int) = (0 : Int) ∧ List.length l * (24 : Nat) ≤ (140737488355328 : Nat)) ∧
      True ∧
        ∀ (x1 : Bool),
          x1 = few (col l ((0 : Nat))) →
            ((!x1) = true →
                K HEx.ret
                  ([HV.ce (HC.sl false [(4 : Nat), (4 : Nat), (4 : Nat)] l), HV.ce (HC.bool true),
                      HV.ce (HC.ptr (1000005 : Nat) (0 : Nat)), HV.ce (HC.bool ok)],
                    [[HC.int IntKind.i64 st0, HC.int IntKind.i64 sp0, HC.int IntKind.i64 ac0, HC.int IntKind.i64 je0,
                        HC.int IntKind.i64 lo0, HC.int IntKind.i64 hi0, HC.int IntKind.i64 bl0, HC.int IntKind.i64 og0,
                        HC.int IntKind.i64 sg0, HC.sl false [(4 : Nat)] pit0, HC.int IntKind.i64 st1,
                        HC.int IntKind.i64 sp1, HC.int IntKind.i64 ac1, HC.int IntKind.i64 je1, HC.int IntKind.i64 lo1,
                        HC.int IntKind.i64 hi1, HC.int IntKind.i64 bl1, HC.int IntKind.i64 og1, HC.int IntKind.i64 sg1,
                        HC.sl false [(4 : Nat)] pit1, HC.int IntKind.i64 st2, HC.int IntKind.i64 sp2,
                        HC.int IntKind.i64 ac2, HC.int IntKind.i64 je2, HC.int IntKind.i64 lo2, HC.int IntKind.i64 hi2,
                        HC.int IntKind.i64 bl2, HC.int IntKind.i64 og2, HC.int IntKind.i64 sg2,
                        HC.sl false [(4 : Nat)] pit2]])) ∧
              ((!x1) = false →
                (ok = true →
                    ((0 : Int) ≤ (0 : Int) ∧ (0 : Int) < (3 : Int)) ∧
                      List.length (col l ((0 : Nat))) ≤ (1000 : Nat) ∧
                        ∀ (x2 : Bool),
                          x2 = W sp0 ac0 je0 (col l ((0 : Nat))) →
                            K HEx.normal
                              ([HV.ce (HC.sl false [(4 : Nat), (4 : Nat), (4 : Nat)] l), HV.ce (HC.bool r),
                                  HV.ce (HC.ptr (1000005 : Nat) (0 : Nat)), HV.ce (HC.bool x2),
                                  HV.ce (HC.num IntKind.i64 (1 : Int))],
                                [[HC.int IntKind.i64 st0, HC.int IntKind.i64 sp0, HC.int IntKind.i64 ac0,
                                    HC.int IntKind.i64 je0, HC.int IntKind.i64 lo0, HC.int IntKind.i64 hi0,
                                    HC.int IntKind.i64 bl0, HC.int IntKind.i64 og0, HC.int IntKind.i64 sg0,
                                    HC.sl false [(4 : Nat)] pit0, HC.int IntKind.i64 st1, HC.int IntKind.i64 sp1,
                                    HC.int IntKind.i64 ac1, HC.int IntKind.i64 je1, HC.int IntKind.i64 lo1,
                                    HC.int IntKind.i64 hi1, HC.int IntKind.i64 bl1, HC.int IntKind.i64 og1,
                                    HC.int IntKind.i64 sg1, HC.sl false [(4 : Nat)] pit1, HC.int IntKind.i64 st2,
                                    HC.int IntKind.i64 sp2, HC.int IntKind.i64 ac2, HC.int IntKind.i64 je2,
                                    HC.int IntKind.i64 lo2, HC.int IntKind.i64 hi2, HC.int IntKind.i64 bl2,
                                    HC.int IntKind.i64 og2, HC.int IntKind.i64 sg2, HC.sl false [(4 : Nat)] pit2]])) ∧
                  (ok = false →
                    K HEx.normal
                      ([HV.ce (HC.sl false [(4 : Nat), (4 : Nat), (4 : Nat)] l), HV.ce (HC.bool r),
                          HV.ce (HC.ptr (1000005 : Nat) (0 : Nat)), HV.ce (HC.bool false),
                          HV.ce (HC.num IntKind.i64 (1 : Int))],
                        [[HC.int IntKind.i64 st0, HC.int IntKind.i64 sp0, HC.int IntKind.i64 ac0, HC.int IntKind.i64 je0,
                            HC.int IntKind.i64 lo0, HC.int IntKind.i64 hi0, HC.int IntKind.i64 bl0, HC.int IntKind.i64 og0,
                            HC.int IntKind.i64 sg0, HC.sl false [(4 : Nat)] pit0, HC.int IntKind.i64 st1,
                            HC.int IntKind.i64 sp1, HC.int IntKind.i64 ac1, HC.int IntKind.i64 je1, HC.int IntKind.i64 lo1,
                            HC.int IntKind.i64 hi1, HC.int IntKind.i64 bl1, HC.int IntKind.i64 og1, HC.int IntKind.i64 sg1,
                            HC.sl false [(4 : Nat)] pit1, HC.int IntKind.i64 st2, HC.int IntKind.i64 sp2,
                            HC.int IntKind.i64 ac2, HC.int IntKind.i64 je2, HC.int IntKind.i64 lo2, HC.int IntKind.i64 hi2,
                            HC.int IntKind.i64 bl2, HC.int IntKind.i64 og2, HC.int IntKind.i64 sg2,
                            HC.sl false [(4 : Nat)] pit2]])))) := by kernel_rfl
theorem vb8o1 (l : List (List Int)) (r ok : Bool) (st0 sp0 ac0 je0 lo0 hi0 bl0 og0 sg0 : Int) (pit0 : List (List Int)) (st1 sp1 ac1 je1 lo1 hi1 bl1 og1 sg1 : Int) (pit1 : List (List Int)) (st2 sp2 ac2 je2 lo2 hi2 bl2 og2 sg2 : Int) (pit2 : List (List Int)) (K : HEx → LV → Prop) : (nbodyT true C8 an8o (nthLoop Try.f8 0) ([.ce (.sl false [4, 4, 4] l), .ce (.bool r), .ce (.ptr 1000005 0), .ce (.bool ok), .ce (.num .i64 1)], [[.int .i64 st0, .int .i64 sp0, .int .i64 ac0, .int .i64 je0, .int .i64 lo0, .int .i64 hi0, .int .i64 bl0, .int .i64 og0, .int .i64 sg0, .sl false [4] pit0, .int .i64 st1, .int .i64 sp1, .int .i64 ac1, .int .i64 je1, .int .i64 lo1, .int .i64 hi1, .int .i64 bl1, .int .i64 og1, .int .i64 sg1, .sl false [4] pit1, .int .i64 st2, .int .i64 sp2, .int .i64 ac2, .int .i64 je2, .int .i64 lo2, .int .i64 hi2, .int .i64 bl2, .int .i64 og2, .int .i64 sg2, .sl false [4] pit2]]) K) =
    ((((0 : Int) ≤ (1 : Int) ∧ (1 : Int) ≤ (2 : Int)) ∧
        (0 : Nat) = (0 : Nat) ∧
          (((List.length l) : Nat) : Int) = (((List.length l) : Nat) : Int) ∧
            (0 : Int) = (0 : Int) ∧ List.length l * (24 : Nat) ≤ (140737488355328 : Nat)) ∧
      True ∧
        ∀ (x1 : Bool),
          x1 = few (col l ((1 : Nat))) →
            ((!x1) = true →
                K HEx.ret
                  ([HV.ce (HC.sl false [(4 : Nat), (4 : Nat), (4 : Nat)] l), HV.ce (HC.bool true),
                      HV.ce (HC.ptr (1000005 : Nat) (0 : Nat)), HV.ce (HC.bool ok)],
                    [[HC.int IntKind.i64 st0, HC.int IntKind.i64 sp0, HC.int IntKind.i64 ac0, HC.int IntKind.i64 je0,
                        HC.int IntKind.i64 lo0, HC.int IntKind.i64 hi0, HC.int IntKind.i64 bl0, HC.int IntKind.i64 og0,
                        HC.int IntKind.i64 sg0, HC.sl false [(4 : Nat)] pit0, HC.int IntKind.i64 st1,
                        HC.int IntKind.i64 sp1, HC.int IntKind.i64 ac1, HC.int IntKind.i64 je1, HC.int IntKind.i64 lo1,
                        HC.int IntKind.i64 hi1, HC.int IntKind.i64 bl1, HC.int IntKind.i64 og1, HC.int IntKind.i64 sg1,
                        HC.sl false [(4 : Nat)] pit1, HC.int IntKind.i64 st2, HC.int IntKind.i64 sp2,
                        HC.int IntKind.i64 ac2, HC.int IntKind.i64 je2, HC.int IntKind.i64 lo2, HC.int IntKind.i64 hi2,
                        HC.int IntKind.i64 bl2, HC.int IntKind.i64 og2, HC.int IntKind.i64 sg2,
                        HC.sl false [(4 : Nat)] pit2]])) ∧
              ((!x1) = false →
                (ok = true →
                    ((0 : Int) ≤ (1 : Int) ∧ (1 : Int) < (3 : Int)) ∧
                      List.length (col l ((1 : Nat))) ≤ (1000 : Nat) ∧
                        ∀ (x2 : Bool),
                          x2 = W sp1 ac1 je1 (col l ((1 : Nat))) →
                            K HEx.normal
                              ([HV.ce (HC.sl false [(4 : Nat), (4 : Nat), (4 : Nat)] l), HV.ce (HC.bool r),
                                  HV.ce (HC.ptr (1000005 : Nat) (0 : Nat)), HV.ce (HC.bool x2),
                                  HV.ce (HC.num IntKind.i64 (2 : Int))],
                                [[HC.int IntKind.i64 st0, HC.int IntKind.i64 sp0, HC.int IntKind.i64 ac0,
                                    HC.int IntKind.i64 je0, HC.int IntKind.i64 lo0, HC.int IntKind.i64 hi0,
                                    HC.int IntKind.i64 bl0, HC.int IntKind.i64 og0, HC.int IntKind.i64 sg0,
                                    HC.sl false [(4 : Nat)] pit0, HC.int IntKind.i64 st1, HC.int IntKind.i64 sp1,
                                    HC.int IntKind.i64 ac1, HC.int IntKind.i64 je1, HC.int IntKind.i64 lo1,
                                    HC.int IntKind.i64 hi1, HC.int IntKind.i64 bl1, HC.int IntKind.i64 og1,
                                    HC.int IntKind.i64 sg1, HC.sl false [(4 : Nat)] pit1, HC.int IntKind.i64 st2,
                                    HC.int IntKind.i64 sp2, HC.int IntKind.i64 ac2, HC.int IntKind.i64 je2,
                                    HC.int IntKind.i64 lo2, HC.int IntKind.i64 hi2, HC.int IntKind.i64 bl2,
                                    HC.int IntKind.i64 og2, HC.int IntKind.i64 sg2, HC.sl false [(4 : Nat)] pit2]])) ∧
                  (ok = false →
                    K HEx.normal
                      ([HV.ce (HC.sl false [(4 : Nat), (4 : Nat), (4 : Nat)] l), HV.ce (HC.bool r),
                          HV.ce (HC.ptr (1000005 : Nat) (0 : Nat)), HV.ce (HC.bool false),
                          HV.ce (HC.num IntKind.i64 (2 : Int))],
                        [[HC.int IntKind.i64 st0, HC.int IntKind.i64 sp0, HC.int IntKind.i64 ac0, HC.int IntKind.i64 je0,
                            HC.int IntKind.i64 lo0, HC.int IntKind.i64 hi0, HC.int IntKind.i64 bl0, HC.int IntKind.i64 og0,
                            HC.int IntKind.i64 sg0, HC.sl false [(4 : Nat)] pit0, HC.int IntKind.i64 st1,
                            HC.int IntKind.i64 sp1, HC.int IntKind.i64 ac1, HC.int IntKind.i64 je1, HC.int IntKind.i64 lo1,
                            HC.int IntKind.i64 hi1, HC.int IntKind.i64 bl1, HC.int IntKind.i64 og1, HC.int IntKind.i64 sg1,
                            HC.sl false [(4 : Nat)] pit1, HC.int IntKind.i64 st2, HC.int IntKind.i64 sp2,
                            HC.int IntKind.i64 ac2, HC.int IntKind.i64 je2, HC.int IntKind.i64 lo2, HC.int IntKind.i64 hi2,
                            HC.int IntKind.i64 bl2, HC.int IntKind.i64 og2, HC.int IntKind.i64 sg2,
                            HC.sl false [(4 : Nat)] pit2]])))) := by kernel_rfl
theorem vb8o2 (l : List (List Int)) (r ok : Bool) (st0 sp0 ac0 je0 lo0 hi0 bl0 og0 sg0 : Int) (pit0 : List (List Int)) (st1 sp1 ac1 je1 lo1 hi1 bl1 og1 sg1 : Int) (pit1 : List (List Int)) (st2 sp2 ac2 je2 lo2 hi2 bl2 og2 sg2 : Int) (pit2 : List (List Int)) (K : HEx → LV → Prop) : (nbodyT true C8 an8o (nthLoop Try.f8 0) ([.ce (.sl false [4, 4, 4] l), .ce (.bool r), .ce (.ptr 1000005 0), .ce (.bool ok), .ce (.num .i64 2)], [[.int .i64 st0, .int .i64 sp0, .int .i64 ac0, .int .i64 je0, .int .i64 lo0, .int .i64 hi0, .int .i64 bl0, .int .i64 og0, .int .i64 sg0, .sl false [4] pit0, .int .i64 st1, .int .i64 sp1, .int .i64 ac1, .int .i64 je1, .int .i64 lo1, .int .i64 hi1, .int .i64 bl1, .int .i64 og1, .int .i64 sg1, .sl false [4] pit1, .int .i64 st2, .int .i64 sp2, .int .i64 ac2, .int .i64 je2, .int .i64 lo2, .int .i64 hi2, .int .i64 bl2, .int .i64 og2, .int .i64 sg2, .sl false [4] pit2]]) K) =
    ((((0 : Int) ≤ (2 : Int) ∧ (2 : Int) ≤ (2 : Int)) ∧
        (0 : Nat) = (0 : Nat) ∧
          (((List.length l) : Nat) : Int) = (((List.length l) : Nat) : Int) ∧
            (0 : Int) = (0 : Int) ∧ List.length l * (24 : Nat) ≤ (140737488355328 : Nat)) ∧
      True ∧
        ∀ (x1 : Bool),
          x1 = few (col l ((2 : Nat))) →
            ((!x1) = true →
                K HEx.ret
                  ([HV.ce (HC.sl false [(4 : Nat), (4 : Nat), (4 : Nat)] l), HV.ce (HC.bool true),
                      HV.ce (HC.ptr (1000005 : Nat) (0 : Nat)), HV.ce (HC.bool ok)],
                    [[HC.int IntKind.i64 st0, HC.int IntKind.i64 sp0, HC.int IntKind.i64 ac0, HC.int IntKind.i64 je0,
                        HC.int IntKind.i64 lo0, HC.int IntKind.i64 hi0, HC.int IntKind.i64 bl0, HC.int IntKind.i64 og0,
                        HC.int IntKind.i64 sg0, HC.sl false [(4 : Nat)] pit0, HC.int IntKind.i64 st1,
                        HC.int IntKind.i64 sp1, HC.int IntKind.i64 ac1, HC.int IntKind.i64 je1, HC.int IntKind.i64 lo1,
                        HC.int IntKind.i64 hi1, HC.int IntKind.i64 bl1, HC.int IntKind.i64 og1, HC.int IntKind.i64 sg1,
                        HC.sl false [(4 : Nat)] pit1, HC.int IntKind.i64 st2, HC.int IntKind.i64 sp2,
                        HC.int IntKind.i64 ac2, HC.int IntKind.i64 je2, HC.int IntKind.i64 lo2, HC.int IntKind.i64 hi2,
                        HC.int IntKind.i64 bl2, HC.int IntKind.i64 og2, HC.int IntKind.i64 sg2,
                        HC.sl false [(4 : Nat)] pit2]])) ∧
              ((!x1) = false →
                (ok = true →
                    ((0 : Int) ≤ (2 : Int) ∧ (2 : Int) < (3 : Int)) ∧
                      List.length (col l ((2 : Nat))) ≤ (1000 : Nat) ∧
                        ∀ (x2 : Bool),
                          x2 = W sp2 ac2 je2 (col l ((2 : Nat))) →
                            K HEx.normal
                              ([HV.ce (HC.sl false [(4 : Nat), (4 : Nat), (4 : Nat)] l), HV.ce (HC.bool r),
                                  HV.ce (HC.ptr (1000005 : Nat) (0 : Nat)), HV.ce (HC.bool x2),
                                  HV.ce (HC.num IntKind.i64 (3 : Int))],
                                [[HC.int IntKind.i64 st0, HC.int IntKind.i64 sp0, HC.int IntKind.i64 ac0,
                                    HC.int IntKind.i64 je0, HC.int IntKind.i64 lo0, HC.int IntKind.i64 hi0,
                                    HC.int IntKind.i64 bl0, HC.int IntKind.i64 og0, HC.int IntKind.i64 sg0,
                                    HC.sl false [(4 : Nat)] pit0, HC.int IntKind.i64 st1, HC.int IntKind.i64 sp1,
                                    HC.int IntKind.i64 ac1, HC.int IntKind.i64 je1, HC.int IntKind.i64 lo1,
                                    HC.int IntKind.i64 hi1, HC.int IntKind.i64 bl1, HC.int IntKind.i64 og1,
                                    HC.int IntKind.i64 sg1, HC.sl false [(4 : Nat)] pit1, HC.int IntKind.i64 st2,
                                    HC.int IntKind.i64 sp2, HC.int IntKind.i64 ac2, HC.int IntKind.i64 je2,
                                    HC.int IntKind.i64 lo2, HC.int IntKind.i64 hi2, HC.int IntKind.i64 bl2,
                                    HC.int IntKind.i64 og2, HC.int IntKind.i64 sg2, HC.sl false [(4 : Nat)] pit2]])) ∧
                  (ok = false →
                    K HEx.normal
                      ([HV.ce (HC.sl false [(4 : Nat), (4 : Nat), (4 : Nat)] l), HV.ce (HC.bool r),
                          HV.ce (HC.ptr (1000005 : Nat) (0 : Nat)), HV.ce (HC.bool false),
                          HV.ce (HC.num IntKind.i64 (3 : Int))],
                        [[HC.int IntKind.i64 st0, HC.int IntKind.i64 sp0, HC.int IntKind.i64 ac0, HC.int IntKind.i64 je0,
                            HC.int IntKind.i64 lo0, HC.int IntKind.i64 hi0, HC.int IntKind.i64 bl0, HC.int IntKind.i64 og0,
                            HC.int IntKind.i64 sg0, HC.sl false [(4 : Nat)] pit0, HC.int IntKind.i64 st1,
                            HC.int IntKind.i64 sp1, HC.int IntKind.i64 ac1, HC.int IntKind.i64 je1, HC.int IntKind.i64 lo1,
                            HC.int IntKind.i64 hi1, HC.int IntKind.i64 bl1, HC.int IntKind.i64 og1, HC.int IntKind.i64 sg1,
                            HC.sl false [(4 : Nat)] pit1, HC.int IntKind.i64 st2, HC.int IntKind.i64 sp2,
                            HC.int IntKind.i64 ac2, HC.int IntKind.i64 je2, HC.int IntKind.i64 lo2, HC.int IntKind.i64 hi2,
                            HC.int IntKind.i64 bl2, HC.int IntKind.i64 og2, HC.int IntKind.i64 sg2,
                            HC.sl false [(4 : Nat)] pit2]])))) := by kernel_rfl
theorem vb8o3 (l : List (List Int)) (r ok : Bool) (st0 sp0 ac0 je0 lo0 hi0 bl0 og0 sg0 : Int) (pit0 : List (List Int)) (st1 sp1 ac1 je1 lo1 hi1 bl1 og1 sg1 : Int) (pit1 : List (List Int)) (st2 sp2 ac2 je2 lo2 hi2 bl2 og2 sg2 : Int) (pit2 : List (List Int)) (K : HEx → LV → Prop) : (nbodyT true C8 an8o (nthLoop Try.f8 0) ([.ce (.sl false [4, 4, 4] l), .ce (.bool r), .ce (.ptr 1000005 0), .ce (.bool ok), .ce (.num .i64 3)], [[.int .i64 st0, .int .i64 sp0, .int .i64 ac0, .int .i64 je0, .int .i64 lo0, .int .i64 hi0, .int .i64 bl0, .int .i64 og0, .int .i64 sg0, .sl false [4] pit0, .int .i64 st1, .int .i64 sp1, .int .i64 ac1, .int .i64 je1, .int .i64 lo1, .int .i64 hi1, .int .i64 bl1, .int .i64 og1, .int .i64 sg1, .sl false [4] pit1, .int .i64 st2, .int .i64 sp2, .int .i64 ac2, .int .i64 je2, .int .i64 lo2, .int .i64 hi2, .int .i64 bl2, .int .i64 og2, .int .i64 sg2, .sl false [4] pit2]]) K) =
    (K (HEx.exit (0 : Nat))
      ([HV.ce (HC.sl false [(4 : Nat), (4 : Nat), (4 : Nat)] l), HV.ce (HC.bool r),
          HV.ce (HC.ptr (1000005 : Nat) (0 : Nat)), HV.ce (HC.bool ok)],
        [[HC.int IntKind.i64 st0, HC.int IntKind.i64 sp0, HC.int IntKind.i64 ac0, HC.int IntKind.i64 je0,
            HC.int IntKind.i64 lo0, HC.int IntKind.i64 hi0, HC.int IntKind.i64 bl0, HC.int IntKind.i64 og0,
            HC.int IntKind.i64 sg0, HC.sl false [(4 : Nat)] pit0, HC.int IntKind.i64 st1, HC.int IntKind.i64 sp1,
            HC.int IntKind.i64 ac1, HC.int IntKind.i64 je1, HC.int IntKind.i64 lo1, HC.int IntKind.i64 hi1,
            HC.int IntKind.i64 bl1, HC.int IntKind.i64 og1, HC.int IntKind.i64 sg1, HC.sl false [(4 : Nat)] pit1,
            HC.int IntKind.i64 st2, HC.int IntKind.i64 sp2, HC.int IntKind.i64 ac2, HC.int IntKind.i64 je2,
            HC.int IntKind.i64 lo2, HC.int IntKind.i64 hi2, HC.int IntKind.i64 bl2, HC.int IntKind.i64 og2,
            HC.int IntKind.i64 sg2, HC.sl false [(4 : Nat)] pit2]])) := by kernel_rfl
theorem vb19i0 (l rows : List (List Int)) (r : Bool) (j2 len k : Int) (n : Nat) (st0 sp0 ac0 je0 lo0 hi0 bl0 og0 sg0 : Int) (pit0 : List (List Int)) (st1 sp1 ac1 je1 lo1 hi1 bl1 og1 sg1 : Int) (pit1 : List (List Int)) (st2 sp2 ac2 je2 lo2 hi2 bl2 og2 sg2 : Int) (pit2 : List (List Int)) (K : HEx → LV → Prop) : (nbodyT true C19 an19i (nthLoop Try.f19 1) ([.ce (.sl false [4, 4, 4] l), .ce (.ptr 1000002 0), .ce (.bool r), .ce (.num .i64 0), .ce (.msl 1000013 n), .ce (.num .i64 j2), .ce (.int .i64 len), .ce (.int .i64 k)], [[.int .i64 st0, .int .i64 sp0, .int .i64 ac0, .int .i64 je0, .int .i64 lo0, .int .i64 hi0, .int .i64 bl0, .int .i64 og0, .int .i64 sg0, .sl false [4] pit0, .int .i64 st1, .int .i64 sp1, .int .i64 ac1, .int .i64 je1, .int .i64 lo1, .int .i64 hi1, .int .i64 bl1, .int .i64 og1, .int .i64 sg1, .sl false [4] pit1, .int .i64 st2, .int .i64 sp2, .int .i64 ac2, .int .i64 je2, .int .i64 lo2, .int .i64 hi2, .int .i64 bl2, .int .i64 og2, .int .i64 sg2, .sl false [4] pit2], [.arr [4] rows]]) K) =
    ((decide (k < len) = true →
        ((0 : Int) ≤ k ∧ k < (((List.length l) : Nat) : Int)) ∧
          ((0 : Int) ≤ (0 : Int) ∧ (0 : Int) < (3 : Int)) ∧
            ∀ (x1 : Int),
              x1 = el l (Int.toNat k) →
                ((0 : Int) ≤ k ∧ k < ((n : Nat) : Int)) ∧
                  Int.toNat k < List.length rows ∧
                    ((-9223372036854775808 : Int) ≤ k + (1 : Int) ∧ k + (1 : Int) ≤ (9223372036854775807 : Int)) ∧
                      ∀ (x2 : Int),
                        x2 = k + (1 : Int) →
                          K HEx.normal
                            ([HV.ce (HC.sl false [(4 : Nat), (4 : Nat), (4 : Nat)] l),
                                HV.ce (HC.ptr (1000002 : Nat) (0 : Nat)), HV.ce (HC.bool r),
                                HV.ce (HC.num IntKind.i64 (0 : Int)), HV.ce (HC.msl (1000013 : Nat) n),
                                HV.ce (HC.num IntKind.i64 j2), HV.ce (HC.int IntKind.i64 len),
                                HV.ce (HC.int IntKind.i64 x2)],
                              [[HC.int IntKind.i64 st0, HC.int IntKind.i64 sp0, HC.int IntKind.i64 ac0,
                                  HC.int IntKind.i64 je0, HC.int IntKind.i64 lo0, HC.int IntKind.i64 hi0,
                                  HC.int IntKind.i64 bl0, HC.int IntKind.i64 og0, HC.int IntKind.i64 sg0,
                                  HC.sl false [(4 : Nat)] pit0, HC.int IntKind.i64 st1, HC.int IntKind.i64 sp1,
                                  HC.int IntKind.i64 ac1, HC.int IntKind.i64 je1, HC.int IntKind.i64 lo1,
                                  HC.int IntKind.i64 hi1, HC.int IntKind.i64 bl1, HC.int IntKind.i64 og1,
                                  HC.int IntKind.i64 sg1, HC.sl false [(4 : Nat)] pit1, HC.int IntKind.i64 st2,
                                  HC.int IntKind.i64 sp2, HC.int IntKind.i64 ac2, HC.int IntKind.i64 je2,
                                  HC.int IntKind.i64 lo2, HC.int IntKind.i64 hi2, HC.int IntKind.i64 bl2,
                                  HC.int IntKind.i64 og2, HC.int IntKind.i64 sg2, HC.sl false [(4 : Nat)] pit2],
                                [HC.arr [(4 : Nat)]
                                    (List.set rows (Int.toNat k)
                                      [bif true && true then x1 else el rows (Int.toNat k)])]])) ∧
      (decide (k < len) = false →
        K (HEx.exit (2 : Nat))
          ([HV.ce (HC.sl false [(4 : Nat), (4 : Nat), (4 : Nat)] l), HV.ce (HC.ptr (1000002 : Nat) (0 : Nat)),
              HV.ce (HC.bool r), HV.ce (HC.num IntKind.i64 (0 : Int)), HV.ce (HC.msl (1000013 : Nat) n),
              HV.ce (HC.num IntKind.i64 j2)],
            [[HC.int IntKind.i64 st0, HC.int IntKind.i64 sp0, HC.int IntKind.i64 ac0, HC.int IntKind.i64 je0,
                HC.int IntKind.i64 lo0, HC.int IntKind.i64 hi0, HC.int IntKind.i64 bl0, HC.int IntKind.i64 og0,
                HC.int IntKind.i64 sg0, HC.sl false [(4 : Nat)] pit0, HC.int IntKind.i64 st1, HC.int IntKind.i64 sp1,
                HC.int IntKind.i64 ac1, HC.int IntKind.i64 je1, HC.int IntKind.i64 lo1, HC.int IntKind.i64 hi1,
                HC.int IntKind.i64 bl1, HC.int IntKind.i64 og1, HC.int IntKind.i64 sg1, HC.sl false [(4 : Nat)] pit1,
                HC.int IntKind.i64 st2, HC.int IntKind.i64 sp2, HC.int IntKind.i64 ac2, HC.int IntKind.i64 je2,
                HC.int IntKind.i64 lo2, HC.int IntKind.i64 hi2, HC.int IntKind.i64 bl2, HC.int IntKind.i64 og2,
                HC.int IntKind.i64 sg2, HC.sl false [(4 : Nat)] pit2],
              [HC.arr [(4 : Nat)] rows]]))) := by kernel_rfl
theorem vb20i0 (l l0 rows : List (List Int)) (r : Bool) (j2 len k : Int) (st0 sp0 ac0 je0 lo0 hi0 bl0 og0 sg0 : Int) (pit0 : List (List Int)) (st1 sp1 ac1 je1 lo1 hi1 bl1 og1 sg1 : Int) (pit1 : List (List Int)) (st2 sp2 ac2 je2 lo2 hi2 bl2 og2 sg2 : Int) (pit2 : List (List Int)) (K : HEx → LV → Prop) : (nbodyT true C20 an20i (nthLoop Try.f20 1) ([.ce (.sl false [4, 4, 4] l0), .ce (.ptr 1000002 0), .ce (.bool r), .ce (.num .i64 0), .ce (.sl false [4] rows), .ce (.lit true), .ce (.num .i64 j2), .ce (.sl false [4, 4, 4] l), .ce (.int .i64 len), .ce (.int .i64 k)], [[.int .i64 st0, .int .i64 sp0, .int .i64 ac0, .int .i64 je0, .int .i64 lo0, .int .i64 hi0, .int .i64 bl0, .int .i64 og0, .int .i64 sg0, .sl false [4] pit0, .int .i64 st1, .int .i64 sp1, .int .i64 ac1, .int .i64 je1, .int .i64 lo1, .int .i64 hi1, .int .i64 bl1, .int .i64 og1, .int .i64 sg1, .sl false [4] pit1, .int .i64 st2, .int .i64 sp2, .int .i64 ac2, .int .i64 je2, .int .i64 lo2, .int .i64 hi2, .int .i64 bl2, .int .i64 og2, .int .i64 sg2, .sl false [4] pit2]]) K) =
    ((decide (k < len) = true →
        ((0 : Int) ≤ k ∧ k < (((List.length l) : Nat) : Int)) ∧
          ((0 : Int) ≤ (0 : Int) ∧ (0 : Int) < (3 : Int)) ∧
            ((List.length rows + (1 : Nat)) * (8 : Nat) ≤ (140737488355328 : Nat) ∧ List.length rows + (1 : Nat) ≤ maxLen) ∧
              ((-9223372036854775808 : Int) ≤ k + (1 : Int) ∧ k + (1 : Int) ≤ (9223372036854775807 : Int)) ∧
                ∀ (x1 : Int),
                  x1 = k + (1 : Int) →
                    K HEx.normal
                      ([HV.ce (HC.sl false [(4 : Nat), (4 : Nat), (4 : Nat)] l0), HV.ce (HC.ptr (1000002 : Nat) (0 : Nat)),
                          HV.ce (HC.bool r), HV.ce (HC.num IntKind.i64 (0 : Int)),
                          HV.ce (HC.sl false [(4 : Nat)] (rows ++ [[el l (Int.toNat k)]])), HV.ce (HC.lit true),
                          HV.ce (HC.num IntKind.i64 j2), HV.ce (HC.sl false [(4 : Nat), (4 : Nat), (4 : Nat)] l),
                          HV.ce (HC.int IntKind.i64 len), HV.ce (HC.int IntKind.i64 x1)],
                        [[HC.int IntKind.i64 st0, HC.int IntKind.i64 sp0, HC.int IntKind.i64 ac0, HC.int IntKind.i64 je0,
                            HC.int IntKind.i64 lo0, HC.int IntKind.i64 hi0, HC.int IntKind.i64 bl0, HC.int IntKind.i64 og0,
                            HC.int IntKind.i64 sg0, HC.sl false [(4 : Nat)] pit0, HC.int IntKind.i64 st1,
                            HC.int IntKind.i64 sp1, HC.int IntKind.i64 ac1, HC.int IntKind.i64 je1, HC.int IntKind.i64 lo1,
                            HC.int IntKind.i64 hi1, HC.int IntKind.i64 bl1, HC.int IntKind.i64 og1, HC.int IntKind.i64 sg1,
                            HC.sl false [(4 : Nat)] pit1, HC.int IntKind.i64 st2, HC.int IntKind.i64 sp2,
                            HC.int IntKind.i64 ac2, HC.int IntKind.i64 je2, HC.int IntKind.i64 lo2, HC.int IntKind.i64 hi2,
                            HC.int IntKind.i64 bl2, HC.int IntKind.i64 og2, HC.int IntKind.i64 sg2,
                            HC.sl false [(4 : Nat)] pit2]])) ∧
      (decide (k < len) = false →
        K (HEx.exit (2 : Nat))
          ([HV.ce (HC.sl false [(4 : Nat), (4 : Nat), (4 : Nat)] l0), HV.ce (HC.ptr (1000002 : Nat) (0 : Nat)),
              HV.ce (HC.bool r), HV.ce (HC.num IntKind.i64 (0 : Int)), HV.ce (HC.sl false [(4 : Nat)] rows),
              HV.ce (HC.lit true), HV.ce (HC.num IntKind.i64 j2)],
            [[HC.int IntKind.i64 st0, HC.int IntKind.i64 sp0, HC.int IntKind.i64 ac0, HC.int IntKind.i64 je0,
                HC.int IntKind.i64 lo0, HC.int IntKind.i64 hi0, HC.int IntKind.i64 bl0, HC.int IntKind.i64 og0,
                HC.int IntKind.i64 sg0, HC.sl false [(4 : Nat)] pit0, HC.int IntKind.i64 st1, HC.int IntKind.i64 sp1,
                HC.int IntKind.i64 ac1, HC.int IntKind.i64 je1, HC.int IntKind.i64 lo1, HC.int IntKind.i64 hi1,
                HC.int IntKind.i64 bl1, HC.int IntKind.i64 og1, HC.int IntKind.i64 sg1, HC.sl false [(4 : Nat)] pit1,
                HC.int IntKind.i64 st2, HC.int IntKind.i64 sp2, HC.int IntKind.i64 ac2, HC.int IntKind.i64 je2,
                HC.int IntKind.i64 lo2, HC.int IntKind.i64 hi2, HC.int IntKind.i64 bl2, HC.int IntKind.i64 og2,
                HC.int IntKind.i64 sg2, HC.sl false [(4 : Nat)] pit2]]))) := by kernel_rfl
theorem vb8i0 (l l0 rows : List (List Int)) (r ok : Bool) (j2 len k : Int) (st0 sp0 ac0 je0 lo0 hi0 bl0 og0 sg0 : Int) (pit0 : List (List Int)) (st1 sp1 ac1 je1 lo1 hi1 bl1 og1 sg1 : Int) (pit1 : List (List Int)) (st2 sp2 ac2 je2 lo2 hi2 bl2 og2 sg2 : Int) (pit2 : List (List Int)) (K : HEx → LV → Prop) : (nbodyT true C8 an8i (nthLoop Try.f8 1) ([.ce (.sl false [4, 4, 4] l0), .ce (.bool r), .ce (.ptr 1000005 0), .ce (.bool ok), .ce (.num .i64 0), .ce (.sl false [4] rows), .ce (.lit true), .ce (.num .i64 j2), .ce (.sl false [4, 4, 4] l), .ce (.int .i64 len), .ce (.int .i64 k)], [[.int .i64 st0, .int .i64 sp0, .int .i64 ac0, .int .i64 je0, .int .i64 lo0, .int .i64 hi0, .int .i64 bl0, .int .i64 og0, .int .i64 sg0, .sl false [4] pit0, .int .i64 st1, .int .i64 sp1, .int .i64 ac1, .int .i64 je1, .int .i64 lo1, .int .i64 hi1, .int .i64 bl1, .int .i64 og1, .int .i64 sg1, .sl false [4] pit1, .int .i64 st2, .int .i64 sp2, .int .i64 ac2, .int .i64 je2, .int .i64 lo2, .int .i64 hi2, .int .i64 bl2, .int .i64 og2, .int .i64 sg2, .sl false [4] pit2]]) K) =
    ((decide (k < len) = true →
        ((0 : Int) ≤ k ∧ k < (((List.length l) : Nat) : Int)) ∧
          ((0 : Int) ≤ (0 : Int) ∧ (0 : Int) < (3 : Int)) ∧
            ((List.length rows + (1 : Nat)) * (8 : Nat) ≤ (140737488355328 : Nat) ∧ List.length rows + (1 : Nat) ≤ maxLen) ∧
              ((-9223372036854775808 : Int) ≤ k + (1 : Int) ∧ k + (1 : Int) ≤ (9223372036854775807 : Int)) ∧
                ∀ (x1 : Int),
                  x1 = k + (1 : Int) →
                    K HEx.normal
                      ([HV.ce (HC.sl false [(4 : Nat), (4 : Nat), (4 : Nat)] l0), HV.ce (HC.bool r),
                          HV.ce (HC.ptr (1000005 : Nat) (0 : Nat)), HV.ce (HC.bool ok),
                          HV.ce (HC.num IntKind.i64 (0 : Int)),
                          HV.ce (HC.sl false [(4 : Nat)] (rows ++ [[el l (Int.toNat k)]])), HV.ce (HC.lit true),
                          HV.ce (HC.num IntKind.i64 j2), HV.ce (HC.sl false [(4 : Nat), (4 : Nat), (4 : Nat)] l),
                          HV.ce (HC.int IntKind.i64 len), HV.ce (HC.int IntKind.i64 x1)],
                        [[HC.int IntKind.i64 st0, HC.int IntKind.i64 sp0, HC.int IntKind.i64 ac0, HC.int IntKind.i64 je0,
                            HC.int IntKind.i64 lo0, HC.int IntKind.i64 hi0, HC.int IntKind.i64 bl0, HC.int IntKind.i64 og0,
                            HC.int IntKind.i64 sg0, HC.sl false [(4 : Nat)] pit0, HC.int IntKind.i64 st1,
                            HC.int IntKind.i64 sp1, HC.int IntKind.i64 ac1, HC.int IntKind.i64 je1, HC.int IntKind.i64 lo1,
                            HC.int IntKind.i64 hi1, HC.int IntKind.i64 bl1, HC.int IntKind.i64 og1, HC.int IntKind.i64 sg1,
                            HC.sl false [(4 : Nat)] pit1, HC.int IntKind.i64 st2, HC.int IntKind.i64 sp2,
                            HC.int IntKind.i64 ac2, HC.int IntKind.i64 je2, HC.int IntKind.i64 lo2, HC.int IntKind.i64 hi2,
                            HC.int IntKind.i64 bl2, HC.int IntKind.i64 og2, HC.int IntKind.i64 sg2,
                            HC.sl false [(4 : Nat)] pit2]])) ∧
      (decide (k < len) = false →
        K (HEx.exit (2 : Nat))
          ([HV.ce (HC.sl false [(4 : Nat), (4 : Nat), (4 : Nat)] l0), HV.ce (HC.bool r),
              HV.ce (HC.ptr (1000005 : Nat) (0 : Nat)), HV.ce (HC.bool ok), HV.ce (HC.num IntKind.i64 (0 : Int)),
              HV.ce (HC.sl false [(4 : Nat)] rows), HV.ce (HC.lit true), HV.ce (HC.num IntKind.i64 j2)],
            [[HC.int IntKind.i64 st0, HC.int IntKind.i64 sp0, HC.int IntKind.i64 ac0, HC.int IntKind.i64 je0,
                HC.int IntKind.i64 lo0, HC.int IntKind.i64 hi0, HC.int IntKind.i64 bl0, HC.int IntKind.i64 og0,
                HC.int IntKind.i64 sg0, HC.sl false [(4 : Nat)] pit0, HC.int IntKind.i64 st1, HC.int IntKind.i64 sp1,
                HC.int IntKind.i64 ac1, HC.int IntKind.i64 je1, HC.int IntKind.i64 lo1, HC.int IntKind.i64 hi1,
                HC.int IntKind.i64 bl1, HC.int IntKind.i64 og1, HC.int IntKind.i64 sg1, HC.sl false [(4 : Nat)] pit1,
                HC.int IntKind.i64 st2, HC.int IntKind.i64 sp2, HC.int IntKind.i64 ac2, HC.int IntKind.i64 je2,
                HC.int IntKind.i64 lo2, HC.int IntKind.i64 hi2, HC.int IntKind.i64 bl2, HC.int IntKind.i64 og2,
                HC.int IntKind.i64 sg2, HC.sl false [(4 : Nat)] pit2]]))) := by kernel_rfl
theorem vb19i1 (l rows : List (List Int)) (r : Bool) (j2 len k : Int) (n : Nat) (st0 sp0 ac0 je0 lo0 hi0 bl0 og0 sg0 : Int) (pit0 : List (List Int)) (st1 sp1 ac1 je1 lo1 hi1 bl1 og1 sg1 : Int) (pit1 : List (List Int)) (st2 sp2 ac2 je2 lo2 hi2 bl2 og2 sg2 : Int) (pit2 : List (List Int)) (K : HEx → LV → Prop) : (nbodyT true C19 an19i (nthLoop Try.f19 1) ([.ce (.sl false [4, 4, 4] l), .ce (.ptr 1000002 0), .ce (.bool r), .ce (.num .i64 1), .ce (.msl 1000013 n), .ce (.num .i64 j2), .ce (.int .i64 len), .ce (.int .i64 k)], [[.int .i64 st0, .int .i64 sp0, .int .i64 ac0, .int .i64 je0, .int .i64 lo0, .int .i64 hi0, .int .i64 bl0, .int .i64 og0, .int .i64 sg0, .sl false [4] pit0, .int .i64 st1, .int .i64 sp1, .int .i64 ac1, .int .i64 je1, .int .i64 lo1, .int .i64 hi1, .int .i64 bl1, .int .i64 og1, .int .i64 sg1, .sl false [4] pit1, .int .i64 st2, .int .i64 sp2, .int .i64 ac2, .int .i64 je2, .int .i64 lo2, .int .i64 hi2, .int .i64 bl2, .int .i64 og2, .int .i64 sg2, .sl false [4] pit2], [.arr [4] rows]]) K) =
    ((decide (k < len) = true →
        ((0 : Int) ≤ k ∧ k < (((List.length l) : Nat) : Int)) ∧
          ((0 : Int) ≤ (1 : Int) ∧ (1 : Int) < (3 : Int)) ∧
            ∀ (x1 : Int),
              x1 = ec l (Int.toNat k) ((1 : Nat)) →
                ((0 : Int) ≤ k ∧ k < ((n : Nat) : Int)) ∧
                  Int.toNat k < List.length rows ∧
                    ((-9223372036854775808 : Int) ≤ k + (1 : Int) ∧ k + (1 : Int) ≤ (9223372036854775807 : Int)) ∧
                      ∀ (x2 : Int),
                        x2 = k + (1 : Int) →
                          K HEx.normal
                            ([HV.ce (HC.sl false [(4 : Nat), (4 : Nat), (4 : Nat)] l),
                                HV.ce (HC.ptr (1000002 : Nat) (0 : Nat)), HV.ce (HC.bool r),
                                HV.ce (HC.num IntKind.i64 (1 : Int)), HV.ce (HC.msl (1000013 : Nat) n),
                                HV.ce (HC.num IntKind.i64 j2), HV.ce (HC.int IntKind.i64 len),
                                HV.ce (HC.int IntKind.i64 x2)],
                              [[HC.int IntKind.i64 st0, HC.int IntKind.i64 sp0, HC.int IntKind.i64 ac0,
                                  HC.int IntKind.i64 je0, HC.int IntKind.i64 lo0, HC.int IntKind.i64 hi0,
                                  HC.int IntKind.i64 bl0, HC.int IntKind.i64 og0, HC.int IntKind.i64 sg0,
                                  HC.sl false [(4 : Nat)] pit0, HC.int IntKind.i64 st1, HC.int IntKind.i64 sp1,
                                  HC.int IntKind.i64 ac1, HC.int IntKind.i64 je1, HC.int IntKind.i64 lo1,
                                  HC.int IntKind.i64 hi1, HC.int IntKind.i64 bl1, HC.int IntKind.i64 og1,
                                  HC.int IntKind.i64 sg1, HC.sl false [(4 : Nat)] pit1, HC.int IntKind.i64 st2,
                                  HC.int IntKind.i64 sp2, HC.int IntKind.i64 ac2, HC.int IntKind.i64 je2,
                                  HC.int IntKind.i64 lo2, HC.int IntKind.i64 hi2, HC.int IntKind.i64 bl2,
                                  HC.int IntKind.i64 og2, HC.int IntKind.i64 sg2, HC.sl false [(4 : Nat)] pit2],
                                [HC.arr [(4 : Nat)]
                                    (List.set rows (Int.toNat k)
                                      [bif true && true then x1 else el rows (Int.toNat k)])]])) ∧
      (decide (k < len) = false →
        K (HEx.exit (2 : Nat))
          ([HV.ce (HC.sl false [(4 : Nat), (4 : Nat), (4 : Nat)] l), HV.ce (HC.ptr (1000002 : Nat) (0 : Nat)),
              HV.ce (HC.bool r), HV.ce (HC.num IntKind.i64 (1 : Int)), HV.ce (HC.msl (1000013 : Nat) n),
              HV.ce (HC.num IntKind.i64 j2)],
            [[HC.int IntKind.i64 st0, HC.int IntKind.i64 sp0, HC.int IntKind.i64 ac0, HC.int IntKind.i64 je0,
                HC.int IntKind.i64 lo0, HC.int IntKind.i64 hi0, HC.int IntKind.i64 bl0, HC.int IntKind.i64 og0,
                HC.int IntKind.i64 sg0, HC.sl false [(4 : Nat)] pit0, HC.int IntKind.i64 st1, HC.int IntKind.i64 sp1,
                HC.int IntKind.i64 ac1, HC.int IntKind.i64 je1, HC.int IntKind.i64 lo1, HC.int IntKind.i64 hi1,
                HC.int IntKind.i64 bl1, HC.int IntKind.i64 og1, HC.int IntKind.i64 sg1, HC.sl false [(4 : Nat)] pit1,
                HC.int IntKind.i64 st2, HC.int IntKind.i64 sp2, HC.int IntKind.i64 ac2, HC.int IntKind.i64 je2,
                HC.int IntKind.i64 lo2, HC.int IntKind.i64 hi2, HC.int IntKind.i64 bl2, HC.int IntKind.i64 og2,
                HC.int IntKind.i64 sg2, HC.sl false [(4 : Nat)] pit2],
              [HC.arr [(4 : Nat)] rows]]))) := by kernel_rfl
theorem vb20i1 (l l0 rows : List (List Int)) (r : Bool) (j2 len k : Int) (st0 sp0 ac0 je0 lo0 hi0 bl0 og0 sg0 : Int) (pit0 : List (List Int)) (st1 sp1 ac1 je1 lo1 hi1 bl1 og1 sg1 : Int) (pit1 : List (List Int)) (st2 sp2 ac2 je2 lo2 hi2 bl2 og2 sg2 : Int) (pit2 : List (List Int)) (K : HEx → LV → Prop) : (nbodyT true C20 an20i (nthLoop Try.f20 1) ([.ce (.sl false [4, 4, 4] l0), .ce (.ptr 1000002 0), .ce (.bool r), .ce (.num .i64 1), .ce (.sl false [4] rows), .ce (.lit true), .ce (.num .i64 j2), .ce (.sl false [4, 4, 4] l), .ce (.int .i64 len), .ce (.int .i64 k)], [[.int .i64 st0, .int .i64 sp0, .int .i64 ac0, .int .i64 je0, .int .i64 lo0, .int .i64 hi0, .int .i64 bl0, .int .i64 og0, .int .i64 sg0, .sl false [4] pit0, .int .i64 st1, .int .i64 sp1, .int .i64 ac1, .int .i64 je1, .int .i64 lo1, .int .i64 hi1, .int .i64 bl1, .int .i64 og1, .int .i64 sg1, .sl false [4] pit1, .int .i64 st2, .int .i64 sp2, .int .i64 ac2, .int .i64 je2, .int .i64 lo2, .int .i64 hi2, .int .i64 bl2, .int .i64 og2, .int .i64 sg2, .sl false [4] pit2]]) K) =
    ((decide (k < len) = true →
        ((0 : Int) ≤ k ∧ k < (((List.length l) : Nat) : Int)) ∧
          ((0 : Int) ≤ (1 : Int) ∧ (1 : Int) < (3 : Int)) ∧
            ((List.length rows + (1 : Nat)) * (8 : Nat) ≤ (140737488355328 : Nat) ∧ List.length rows + (1 : Nat) ≤ maxLen) ∧
              ((-9223372036854775808 : Int) ≤ k + (1 : Int) ∧ k + (1 : Int) ≤ (9223372036854775807 : Int)) ∧
                ∀ (x1 : Int),
                  x1 = k + (1 : Int) →
                    K HEx.normal
                      ([HV.ce (HC.sl false [(4 : Nat), (4 : Nat), (4 : Nat)] l0), HV.ce (HC.ptr (1000002 : Nat) (0 : Nat)),
                          HV.ce (HC.bool r), HV.ce (HC.num IntKind.i64 (1 : Int)),
                          HV.ce (HC.sl false [(4 : Nat)] (rows ++ [[ec l (Int.toNat k) ((1 : Nat))]])), HV.ce (HC.lit true),
                          HV.ce (HC.num IntKind.i64 j2), HV.ce (HC.sl false [(4 : Nat), (4 : Nat), (4 : Nat)] l),
                          HV.ce (HC.int IntKind.i64 len), HV.ce (HC.int IntKind.i64 x1)],
                        [[HC.int IntKind.i64 st0, HC.int IntKind.i64 sp0, HC.int IntKind.i64 ac0, HC.int IntKind.i64 je0,
                            HC.int IntKind.i64 lo0, HC.int IntKind.i64 hi0, HC.int IntKind.i64 bl0, HC.int IntKind.i64 og0,
                            HC.int IntKind.i64 sg0, HC.sl false [(4 : Nat)] pit0, HC.int IntKind.i64 st1,
                            HC.int IntKind.i64 sp1, HC.int IntKind.i64 ac1, HC.int IntKind.i64 je1, HC.int IntKind.i64 lo1,
                            HC.int IntKind.i64 hi1, HC.int IntKind.i64 bl1, HC.int IntKind.i64 og1, HC.int IntKind.i64 sg1,
                            HC.sl false [(4 : Nat)] pit1, HC.int IntKind.i64 st2, HC.int IntKind.i64 sp2,
                            HC.int IntKind.i64 ac2, HC.int IntKind.i64 je2, HC.int IntKind.i64 lo2, HC.int IntKind.i64 hi2,
                            HC.int IntKind.i64 bl2, HC.int IntKind.i64 og2, HC.int IntKind.i64 sg2,
                            HC.sl false [(4 : Nat)] pit2]])) ∧
      (decide (k < len) = false →
        K (HEx.exit (2 : Nat))
          ([HV.ce (HC.sl false [(4 : Nat), (4 : Nat), (4 : Nat)] l0), HV.ce (HC.ptr (1000002 : Nat) (0 : Nat)),
              HV.ce (HC.bool r), HV.ce (HC.num IntKind.i64 (1 : Int)), HV.ce (HC.sl false [(4 : Nat)] rows),
              HV.ce (HC.lit true), HV.ce (HC.num IntKind.i64 j2)],
            [[HC.int IntKind.i64 st0, HC.int IntKind.i64 sp0, HC.int IntKind.i64 ac0, HC.int IntKind.i64 je0,
                HC.int IntKind.i64 lo0, HC.int IntKind.i64 hi0, HC.int IntKind.i64 bl0, HC.int IntKind.i64 og0,
                HC.int IntKind.i64 sg0, HC.sl false [(4 : Nat)] pit0, HC.int IntKind.i64 st1, HC.int IntKind.i64 sp1,
                HC.int IntKind.i64 ac1, HC.int IntKind.i64 je1, HC.int IntKind.i64 lo1, HC.int IntKind.i64 hi1,
                HC.int IntKind.i64 bl1, HC.int IntKind.i64 og1, HC.int IntKind.i64 sg1, HC.sl false [(4 : Nat)] pit1,
                HC.int IntKind.i64 st2, HC.int IntKind.i64 sp2, HC.int IntKind.i64 ac2, HC.int IntKind.i64 je2,
                HC.int IntKind.i64 lo2, HC.int IntKind.i64 hi2, HC.int IntKind.i64 bl2, HC.int IntKind.i64 og2,
                HC.int IntKind.i64 sg2, HC.sl false [(4 : Nat)] pit2]]))) := by kernel_rfl
theorem vb8i1 (l l0 rows : List (List Int)) (r ok : Bool) (j2 len k : Int) (st0 sp0 ac0 je0 lo0 hi0 bl0 og0 sg0 : Int) (pit0 : List (List Int)) (st1 sp1 ac1 je1 lo1 hi1 bl1 og1 sg1 : Int) (pit1 : List (List Int)) (st2 sp2 ac2 je2 lo2 hi2 bl2 og2 sg2 : Int) (pit2 : List (List Int)) (K : HEx → LV → Prop) : (nbodyT true C8 an8i (nthLoop Try.f8 1) ([.ce (.sl false [4, 4, 4] l0), .ce (.bool r), .ce (.ptr 1000005 0), .ce (.bool ok), .ce (.num .i64 1), .ce (.sl false [4] rows), .ce (.lit true), .ce (.num .i64 j2), .ce (.sl false [4, 4, 4] l), .ce (.int .i64 len), .ce (.int .i64 k)], [[.int .i64 st0, .int .i64 sp0, .int .i64 ac0, .int .i64 je0, .int .i64 lo0, .int .i64 hi0, .int .i64 bl0, .int .i64 og0, .int .i64 sg0, .sl false [4] pit0, .int .i64 st1, .int .i64 sp1, .int .i64 ac1, .int .i64 je1, .int .i64 lo1, .int .i64 hi1, .int .i64 bl1, .int .i64 og1, .int .i64 sg1, .sl false [4] pit1, .int .i64 st2, .int .i64 sp2, .int .i64 ac2, .int .i64 je2, .int .i64 lo2, .int .i64 hi2, .int .i64 bl2, .int .i64 og2, .int .i64 sg2, .sl false [4] pit2]]) K) =
    ((decide (k < len) = true →
        ((0 : Int) ≤ k ∧ k < (((List.length l) : Nat) : Int)) ∧
          ((0 : Int) ≤ (1 : Int) ∧ (1 : Int) < (3 : Int)) ∧
            ((List.length rows + (1 : Nat)) * (8 : Nat) ≤ (140737488355328 : Nat) ∧ List.length rows + (1 : Nat) ≤ maxLen) ∧
              ((-9223372036854775808 : Int) ≤ k + (1 : Int) ∧ k + (1 : Int) ≤ (9223372036854775807 : Int)) ∧
                ∀ (x1 : Int),
                  x1 = k + (1 : Int) →
                    K HEx.normal
                      ([HV.ce (HC.sl false [(4 : Nat), (4 : Nat), (4 : Nat)] l0), HV.ce (HC.bool r),
                          HV.ce (HC.ptr (1000005 : Nat) (0 : Nat)), HV.ce (HC.bool ok),
                          HV.ce (HC.num IntKind.i64 (1 : Int)),
                          HV.ce (HC.sl false [(4 : Nat)] (rows ++ [[ec l (Int.toNat k) ((1 : Nat))]])), HV.ce (HC.lit true),
                          HV.ce (HC.num IntKind.i64 j2), HV.ce (HC.sl false [(4 : Nat), (4 : Nat), (4 : Nat)] l),
                          HV.ce (HC.int IntKind.i64 len), HV.ce (HC.int IntKind.i64 x1)],
                        [[HC.int IntKind.i64 st0, HC.int IntKind.i64 sp0, HC.int IntKind.i64 ac0, HC.int IntKind.i64 je0,
                            HC.int IntKind.i64 lo0, HC.int IntKind.i64 hi0, HC.int IntKind.i64 bl0, HC.int IntKind.i64 og0,
                            HC.int IntKind.i64 sg0, HC.sl false [(4 : Nat)] pit0, HC.int IntKind.i64 st1,
                            HC.int IntKind.i64 sp1, HC.int IntKind.i64 ac1, HC.int IntKind.i64 je1, HC.int IntKind.i64 lo1,
                            HC.int IntKind.i64 hi1, HC.int IntKind.i64 bl1, HC.int IntKind.i64 og1, HC.int IntKind.i64 sg1,
                            HC.sl false [(4 : Nat)] pit1, HC.int IntKind.i64 st2, HC.int IntKind.i64 sp2,
                            HC.int IntKind.i64 ac2, HC.int IntKind.i64 je2, HC.int IntKind.i64 lo2, HC.int IntKind.i64 hi2,
                            HC.int IntKind.i64 bl2, HC.int IntKind.i64 og2, HC.int IntKind.i64 sg2,
                            HC.sl false [(4 : Nat)] pit2]])) ∧
      (decide (k < len) = false →
        K (HEx.exit (2 : Nat))
          ([HV.ce (HC.sl false [(4 : Nat), (4 : Nat), (4 : Nat)] l0), HV.ce (HC.bool r),
              HV.ce (HC.ptr (1000005 : Nat) (0 : Nat)), HV.ce (HC.bool ok), HV.ce (HC.num IntKind.i64 (1 : Int)),
              HV.ce (HC.sl false [(4 : Nat)] rows), HV.ce (HC.lit true), HV.ce (HC.num IntKind.i64 j2)],
            [[HC.int IntKind.i64 st0, HC.int IntKind.i64 sp0, HC.int IntKind.i64 ac0, HC.int IntKind.i64 je0,
                HC.int IntKind.i64 lo0, HC.int IntKind.i64 hi0, HC.int IntKind.i64 bl0, HC.int IntKind.i64 og0,
                HC.int IntKind.i64 sg0, HC.sl false [(4 : Nat)] pit0, HC.int IntKind.i64 st1, HC.int IntKind.i64 sp1,
                HC.int IntKind.i64 ac1, HC.int IntKind.i64 je1, HC.int IntKind.i64 lo1, HC.int IntKind.i64 hi1,
                HC.int IntKind.i64 bl1, HC.int IntKind.i64 og1, HC.int IntKind.i64 sg1, HC.sl false [(4 : Nat)] pit1,
                HC.int IntKind.i64 st2, HC.int IntKind.i64 sp2, HC.int IntKind.i64 ac2, HC.int IntKind.i64 je2,
                HC.int IntKind.i64 lo2, HC.int IntKind.i64 hi2, HC.int IntKind.i64 bl2, HC.int IntKind.i64 og2,
                HC.int IntKind.i64 sg2, HC.sl false [(4 : Nat)] pit2]]))) := by kernel_rfl
theorem vb19i2 (l rows : List (List Int)) (r : Bool) (j2 len k : Int) (n : Nat) (st0 sp0 ac0 je0 lo0 hi0 bl0 og0 sg0 : Int) (pit0 : List (List Int)) (st1 sp1 ac1 je1 lo1 hi1 bl1 og1 sg1 : Int) (pit1 : List (List Int)) (st2 sp2 ac2 je2 lo2 hi2 bl2 og2 sg2 : Int) (pit2 : List (List Int)) (K : HEx → LV → Prop) : (nbodyT true C19 an19i (nthLoop Try.f19 1) ([.ce (.sl false [4, 4, 4] l), .ce (.ptr 1000002 0), .ce (.bool r), .ce (.num .i64 2), .ce (.msl 1000013 n), .ce (.num .i64 j2), .ce (.int .i64 len), .ce (.int .i64 k)], [[.int .i64 st0, .int .i64 sp0, .int .i64 ac0, .int .i64 je0, .int .i64 lo0, .int .i64 hi0, .int .i64 bl0, .int .i64 og0, .int .i64 sg0, .sl false [4] pit0, .int .i64 st1, .int .i64 sp1, .int .i64 ac1, .int .i64 je1, .int .i64 lo1, .int .i64 hi1, .int .i64 bl1, .int .i64 og1, .int .i64 sg1, .sl false [4] pit1, .int .i64 st2, .int .i64 sp2, .int .i64 ac2, .int .i64 je2, .int .i64 lo2, .int .i64 hi2, .int .i64 bl2, .int .i64 og2, .int .i64 sg2, .sl false [4] pit2], [.arr [4] rows]]) K) =
    ((decide (k < len) = true →
        ((0 : Int) ≤ k ∧ k < (((List.length l) : Nat) : Int)) ∧
          ((0 : Int) ≤ (2 : Int) ∧ (2 : Int) < (3 : Int)) ∧
            ∀ (x1 : Int),
              x1 = ec l (Int.toNat k) ((2 : Nat)) →
                ((0 : Int) ≤ k ∧ k < ((n : Nat) : Int)) ∧
                  Int.toNat k < List.length rows ∧
                    ((-9223372036854775808 : Int) ≤ k + (1 : Int) ∧ k + (1 : Int) ≤ (9223372036854775807 : Int)) ∧
                      ∀ (x2 : Int),
                        x2 = k + (1 : Int) →
                          K HEx.normal
                            ([HV.ce (HC.sl false [(4 : Nat), (4 : Nat), (4 : Nat)] l),
                                HV.ce (HC.ptr (1000002 : Nat) (0 : Nat)), HV.ce (HC.bool r),
                                HV.ce (HC.num IntKind.i64 (2 : Int)), HV.ce (HC.msl (1000013 : Nat) n),
                                HV.ce (HC.num IntKind.i64 j2), HV.ce (HC.int IntKind.i64 len),
                                HV.ce (HC.int IntKind.i64 x2)],
                              [[HC.int IntKind.i64 st0, HC.int IntKind.i64 sp0, HC.int IntKind.i64 ac0,
                                  HC.int IntKind.i64 je0, HC.int IntKind.i64 lo0, HC.int IntKind.i64 hi0,
                                  HC.int IntKind.i64 bl0, HC.int IntKind.i64 og0, HC.int IntKind.i64 sg0,
                                  HC.sl false [(4 : Nat)] pit0, HC.int IntKind.i64 st1, HC.int IntKind.i64 sp1,
                                  HC.int IntKind.i64 ac1, HC.int IntKind.i64 je1, HC.int IntKind.i64 lo1,
                                  HC.int IntKind.i64 hi1, HC.int IntKind.i64 bl1, HC.int IntKind.i64 og1,
                                  HC.int IntKind.i64 sg1, HC.sl false [(4 : Nat)] pit1, HC.int IntKind.i64 st2,
                                  HC.int IntKind.i64 sp2, HC.int IntKind.i64 ac2, HC.int IntKind.i64 je2,
                                  HC.int IntKind.i64 lo2, HC.int IntKind.i64 hi2, HC.int IntKind.i64 bl2,
                                  HC.int IntKind.i64 og2, HC.int IntKind.i64 sg2, HC.sl false [(4 : Nat)] pit2],
                                [HC.arr [(4 : Nat)]
                                    (List.set rows (Int.toNat k)
                                      [bif true && true then x1 else el rows (Int.toNat k)])]])) ∧
      (decide (k < len) = false →
        K (HEx.exit (2 : Nat))
          ([HV.ce (HC.sl false [(4 : Nat), (4 : Nat), (4 : Nat)] l), HV.ce (HC.ptr (1000002 : Nat) (0 : Nat)),
              HV.ce (HC.bool r), HV.ce (HC.num IntKind.i64 (2 : Int)), HV.ce (HC.msl (1000013 : Nat) n),
              HV.ce (HC.num IntKind.i64 j2)],
            [[HC.int IntKind.i64 st0, HC.int IntKind.i64 sp0, HC.int IntKind.i64 ac0, HC.int IntKind.i64 je0,
                HC.int IntKind.i64 lo0, HC.int IntKind.i64 hi0, HC.int IntKind.i64 bl0, HC.int IntKind.i64 og0,
                HC.int IntKind.i64 sg0, HC.sl false [(4 : Nat)] pit0, HC.int IntKind.i64 st1, HC.int IntKind.i64 sp1,
                HC.int IntKind.i64 ac1, HC.int IntKind.i64 je1, HC.int IntKind.i64 lo1, HC.int IntKind.i64 hi1,
                HC.int IntKind.i64 bl1, HC.int IntKind.i64 og1, HC.int IntKind.i64 sg1, HC.sl false [(4 : Nat)] pit1,
                HC.int IntKind.i64 st2, HC.int IntKind.i64 sp2, HC.int IntKind.i64 ac2, HC.int IntKind.i64 je2,
                HC.int IntKind.i64 lo2, HC.int IntKind.i64 hi2, HC.int IntKind.i64 bl2, HC.int IntKind.i64 og2,
                HC.int IntKind.i64 sg2, HC.sl false [(4 : Nat)] pit2],
              [HC.arr [(4 : Nat)] rows]]))) := by kernel_rfl
theorem vb20i2 (l l0 rows : List (List Int)) (r : Bool) (j2 len k : Int) (st0 sp0 ac0 je0 lo0 hi0 bl0 og0 sg0 : Int) (pit0 : List (List Int)) (st1 sp1 ac1 je1 lo1 hi1 bl1 og1 sg1 : Int) (pit1 : List (List Int)) (st2 sp2 ac2 je2 lo2 hi2 bl2 og2 sg2 : Int) (pit2 : List (List Int)) (K : HEx → LV → Prop) : (nbodyT true C20 an20i (nthLoop Try.f20 1) ([.ce (.sl false [4, 4, 4] l0), .ce (.ptr 1000002 0), .ce (.bool r), .ce (.num .i64 2), .ce (.sl false [4] rows), .ce (.lit true), .ce (.num .i64 j2), .ce (.sl false [4, 4, 4] l), .ce (.int .i64 len), .ce (.int .i64 k)], [[.int .i64 st0, .int .i64 sp0, .int .i64 ac0, .int .i64 je0, .int .i64 lo0, .int .i64 hi0, .int .i64 bl0, .int .i64 og0, .int .i64 sg0, .sl false [4] pit0, .int .i64 st1, .int .i64 sp1, .int .i64 ac1, .int .i64 je1, .int .i64 lo1, .int .i64 hi1, .int .i64 bl1, .int .i64 og1, .int .i64 sg1, .sl false [4] pit1, .int .i64 st2, .int .i64 sp2, .int .i64 ac2, .int .i64 je2, .int .i64 lo2, .int .i64 hi2, .int .i64 bl2, .int .i64 og2, .int .i64 sg2, .sl false [4] pit2]]) K) =
    ((decide (k < len) = true →
        ((0 : Int) ≤ k ∧ k < (((List.length l) : Nat) : Int)) ∧
          ((0 : Int) ≤ (2 : Int) ∧ (2 : Int) < (3 : Int)) ∧
            ((List.length rows + (1 : Nat)) * (8 : Nat) ≤ (140737488355328 : Nat) ∧ List.length rows + (1 : Nat) ≤ maxLen) ∧
              ((-9223372036854775808 : Int) ≤ k + (1 : Int) ∧ k + (1 : Int) ≤ (9223372036854775807 : Int)) ∧
                ∀ (x1 : Int),
                  x1 = k + (1 : Int) →
                    K HEx.normal
                      ([HV.ce (HC.sl false [(4 : Nat), (4 : Nat), (4 : Nat)] l0), HV.ce (HC.ptr (1000002 : Nat) (0 : Nat)),
                          HV.ce (HC.bool r), HV.ce (HC.num IntKind.i64 (2 : Int)),
                          HV.ce (HC.sl false [(4 : Nat)] (rows ++ [[ec l (Int.toNat k) ((2 : Nat))]])), HV.ce (HC.lit true),
                          HV.ce (HC.num IntKind.i64 j2), HV.ce (HC.sl false [(4 : Nat), (4 : Nat), (4 : Nat)] l),
                          HV.ce (HC.int IntKind.i64 len), HV.ce (HC.int IntKind.i64 x1)],
                        [[HC.int IntKind.i64 st0, HC.int IntKind.i64 sp0, HC.int IntKind.i64 ac0, HC.int IntKind.i64 je0,
                            HC.int IntKind.i64 lo0, HC.int IntKind.i64 hi0, HC.int IntKind.i64 bl0, HC.int IntKind.i64 og0,
                            HC.int IntKind.i64 sg0, HC.sl false [(4 : Nat)] pit0, HC.int IntKind.i64 st1,
                            HC.int IntKind.i64 sp1, HC.int IntKind.i64 ac1, HC.int IntKind.i64 je1, HC.int IntKind.i64 lo1,
                            HC.int IntKind.i64 hi1, HC.int IntKind.i64 bl1, HC.int IntKind.i64 og1, HC.int IntKind.i64 sg1,
                            HC.sl false [(4 : Nat)] pit1, HC.int IntKind.i64 st2, HC.int IntKind.i64 sp2,
                            HC.int IntKind.i64 ac2, HC.int IntKind.i64 je2, HC.int IntKind.i64 lo2, HC.int IntKind.i64 hi2,
                            HC.int IntKind.i64 bl2, HC.int IntKind.i64 og2, HC.int IntKind.i64 sg2,
                            HC.sl false [(4 : Nat)] pit2]])) ∧
      (decide (k < len) = false →
        K (HEx.exit (2 : Nat))
          ([HV.ce (HC.sl false [(4 : Nat), (4 : Nat), (4 : Nat)] l0), HV.ce (HC.ptr (1000002 : Nat) (0 : Nat)),
              HV.ce (HC.bool r), HV.ce (HC.num IntKind.i64 (2 : Int)), HV.ce (HC.sl false [(4 : Nat)] rows),
              HV.ce (HC.lit true), HV.ce (HC.num IntKind.i64 j2)],
            [[HC.int IntKind.i64 st0, HC.int IntKind.i64 sp0, HC.int IntKind.i64 ac0, HC.int IntKind.i64 je0,
                HC.int IntKind.i64 lo0, HC.int IntKind.i64 hi0, HC.int IntKind.i64 bl0, HC.int IntKind.i64 og0,
                HC.int IntKind.i64 sg0, HC.sl false [(4 : Nat)] pit0, HC.int IntKind.i64 st1, HC.int IntKind.i64 sp1,
                HC.int IntKind.i64 ac1, HC.int IntKind.i64 je1, HC.int IntKind.i64 lo1, HC.int IntKind.i64 hi1,
                HC.int IntKind.i64 bl1, HC.int IntKind.i64 og1, HC.int IntKind.i64 sg1, HC.sl false [(4 : Nat)] pit1,
                HC.int IntKind.i64 st2, HC.int IntKind.i64 sp2, HC.int IntKind.i64 ac2, HC.int IntKind.i64 je2,
                HC.int IntKind.i64 lo2, HC.int IntKind.i64 hi2, HC.int IntKind.i64 bl2, HC.int IntKind.i64 og2,
                HC.int IntKind.i64 sg2, HC.sl false [(4 : Nat)] pit2]]))) := by kernel_rfl
theorem vb8i2 (l l0 rows : List (List Int)) (r ok : Bool) (j2 len k : Int) (st0 sp0 ac0 je0 lo0 hi0 bl0 og0 sg0 : Int) (pit0 : List (List Int)) (st1 sp1 ac1 je1 lo1 hi1 bl1 og1 sg1 : Int) (pit1 : List (List Int)) (st2 sp2 ac2 je2 lo2 hi2 bl2 og2 sg2 : Int) (pit2 : List (List Int)) (K : HEx → LV → Prop) : (nbodyT true C8 an8i (nthLoop Try.f8 1) ([.ce (.sl false [4, 4, 4] l0), .ce (.bool r), .ce (.ptr 1000005 0), .ce (.bool ok), .ce (.num .i64 2), .ce (.sl false [4] rows), .ce (.lit true), .ce (.num .i64 j2), .ce (.sl false [4, 4, 4] l), .ce (.int .i64 len), .ce (.int .i64 k)], [[.int .i64 st0, .int .i64 sp0, .int .i64 ac0, .int .i64 je0, .int .i64 lo0, .int .i64 hi0, .int .i64 bl0, .int .i64 og0, .int .i64 sg0, .sl false [4] pit0, .int .i64 st1, .int .i64 sp1, .int .i64 ac1, .int .i64 je1, .int .i64 lo1, .int .i64 hi1, .int .i64 bl1, .int .i64 og1, .int .i64 sg1, .sl false [4] pit1, .int .i64 st2, .int .i64 sp2, .int .i64 ac2, .int .i64 je2, .int .i64 lo2, .int .i64 hi2, .int .i64 bl2, .int .i64 og2, .int .i64 sg2, .sl false [4] pit2]]) K) =
    ((decide (k < len) = true →
        ((0 : Int) ≤ k ∧ k < (((List.length l) : Nat) : Int)) ∧
          ((0 : Int) ≤ (2 : Int) ∧ (2 : Int) < (3 : Int)) ∧
            ((List.length rows + (1 : Nat)) * (8 : Nat) ≤ (140737488355328 : Nat) ∧ List.length rows + (1 : Nat) ≤ maxLen) ∧
              ((-9223372036854775808 : Int) ≤ k + (1 : Int) ∧ k + (1 : Int) ≤ (9223372036854775807 : Int)) ∧
                ∀ (x1 : Int),
                  x1 = k + (1 : Int) →
                    K HEx.normal
                      ([HV.ce (HC.sl false [(4 : Nat), (4 : Nat), (4 : Nat)] l0), HV.ce (HC.bool r),
                          HV.ce (HC.ptr (1000005 : Nat) (0 : Nat)), HV.ce (HC.bool ok),
                          HV.ce (HC.num IntKind.i64 (2 : Int)),
                          HV.ce (HC.sl false [(4 : Nat)] (rows ++ [[ec l (Int.toNat k) ((2 : Nat))]])), HV.ce (HC.lit true),
                          HV.ce (HC.num IntKind.i64 j2), HV.ce (HC.sl false [(4 : Nat), (4 : Nat), (4 : Nat)] l),
                          HV.ce (HC.int IntKind.i64 len), HV.ce (HC.int IntKind.i64 x1)],
                        [[HC.int IntKind.i64 st0, HC.int IntKind.i64 sp0, HC.int IntKind.i64 ac0, HC.int IntKind.i64 je0,
                            HC.int IntKind.i64 lo0, HC.int IntKind.i64 hi0, HC.int IntKind.i64 bl0, HC.int IntKind.i64 og0,
                            HC.int IntKind.i64 sg0, HC.sl false [(4 : Nat)] pit0, HC.int IntKind.i64 st1,
                            HC.int IntKind.i64 sp1, HC.int IntKind.i64 ac1, HC.int IntKind.i64 je1, HC.int IntKind.i64 lo1,
                            HC.int IntKind.i64 hi1, HC.int IntKind.i64 bl1, HC.int IntKind.i64 og1, HC.int IntKind.i64 sg1,
                            HC.sl false [(4 : Nat)] pit1, HC.int IntKind.i64 st2, HC.int IntKind.i64 sp2,
                            HC.int IntKind.i64 ac2, HC.int IntKind.i64 je2, HC.int IntKind.i64 lo2, HC.int IntKind.i64 hi2,
                            HC.int IntKind.i64 bl2, HC.int IntKind.i64 og2, HC.int IntKind.i64 sg2,
                            HC.sl false [(4 : Nat)] pit2]])) ∧
      (decide (k < len) = false →
        K (HEx.exit (2 : Nat))
          ([HV.ce (HC.sl false [(4 : Nat), (4 : Nat), (4 : Nat)] l0), HV.ce (HC.bool r),
              HV.ce (HC.ptr (1000005 : Nat) (0 : Nat)), HV.ce (HC.bool ok), HV.ce (HC.num IntKind.i64 (2 : Int)),
              HV.ce (HC.sl false [(4 : Nat)] rows), HV.ce (HC.lit true), HV.ce (HC.num IntKind.i64 j2)],
            [[HC.int IntKind.i64 st0, HC.int IntKind.i64 sp0, HC.int IntKind.i64 ac0, HC.int IntKind.i64 je0,
                HC.int IntKind.i64 lo0, HC.int IntKind.i64 hi0, HC.int IntKind.i64 bl0, HC.int IntKind.i64 og0,
                HC.int IntKind.i64 sg0, HC.sl false [(4 : Nat)] pit0, HC.int IntKind.i64 st1, HC.int IntKind.i64 sp1,
                HC.int IntKind.i64 ac1, HC.int IntKind.i64 je1, HC.int IntKind.i64 lo1, HC.int IntKind.i64 hi1,
                HC.int IntKind.i64 bl1, HC.int IntKind.i64 og1, HC.int IntKind.i64 sg1, HC.sl false [(4 : Nat)] pit1,
                HC.int IntKind.i64 st2, HC.int IntKind.i64 sp2, HC.int IntKind.i64 ac2, HC.int IntKind.i64 je2,
                HC.int IntKind.i64 lo2, HC.int IntKind.i64 hi2, HC.int IntKind.i64 bl2, HC.int IntKind.i64 og2,
                HC.int IntKind.i64 sg2, HC.sl false [(4 : Nat)] pit2]]))) := by kernel_rfl
end Go.Proofs.Ytmadbcfocgagpaa
