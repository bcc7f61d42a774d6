/-
  The makers of data: Axis, Axes: which axes come out.
  Conditions: none.
-/
import Derived.Test.YtneingpnkdeooaaMa
set_option maxRecDepth 100000
namespace U
open Go
/-- what is known of a made axis -/
structure AxV where
  st : Int
  sp : Int
  ac : Int
  je : Int
  bl : Int
  og : Int
  sg : Int
  pit : List (List Int)
def okPit (sg : Int) (pit : List (List Int)) : Prop :=
  (∀ j, j < pit.length → -4096 ≤ el pit j ∧ el pit j ≤ 4096) ∧ ∀ j, j + 1 < pit.length → el pit (j + 1) - el pit j ≤ sg / 4 ∧ el pit j - el pit (j + 1) ≤ sg / 4
def okAx (a : AxV) : Prop :=
  (4 ≤ a.st ∧ a.st ≤ 64) ∧ (1 ≤ a.sp ∧ a.sp ≤ 1000) ∧ (2 ≤ a.ac ∧ a.ac ≤ 1000) ∧ (4 ≤ a.je ∧ a.je ≤ 1000) ∧ (0 ≤ a.bl ∧ a.bl ≤ 6) ∧ (-200 ≤ a.og ∧ a.og < 200) ∧ (0 ≤ a.sg ∧ a.sg < 124) ∧ a.pit.length ≤ 4 ∧ (0 < a.pit.length → 4 ≤ a.sg) ∧ okPit a.sg a.pit
end U
namespace Go.Proofs.Ytneingpnkdeooaa
open Go Go.HL U
def axCells (a : AxV) : List HC := [.int .i64 a.st, .int .i64 a.sp, .int .i64 a.ac, .int .i64 a.je, .int .i64 (-16777216), .int .i64 16777216, .int .i64 a.bl, .int .i64 a.og, .int .i64 a.sg, .sl false [4] a.pit]
def axOpen (st sp ac je bl og sg : Int) (pit : List (List Int)) : List HC := [.int .i64 st, .int .i64 sp, .int .i64 ac, .int .i64 je, .int .i64 (-16777216), .int .i64 16777216, .int .i64 bl, .int .i64 og, .int .i64 sg, .sl true [4] pit]
def zAx : List HC := [.int .i64 0, .int .i64 0, .int .i64 0, .int .i64 0, .int .i64 0, .int .i64 0, .int .i64 0, .int .i64 0, .int .i64 0, .sl true [4] []]
def an22 : LAnn := ⟨[0, 2, 3, 4, 5, 6], [0, 2, 3], [0, 1000002, 1000003], false⟩
def L22 (v : LV) : LR :=
  match v with
  | ([.ce (.ptr 0 0), .ce (.ptr 1000002 0), .ce (.ptr 1000003 0), .ce (.int .i64 n), .ce (.int .i64 v), .ce (.int .i64 k)], [[.sl false [4] l, .int .i64 p], z, [.int .i64 st, .int .i64 sp, .int .i64 ac, .int .i64 je, .int .i64 lo, .int .i64 hi, .int .i64 bl, .int .i64 og, .int .i64 sg, .sl true [4] pit]]) =>
    .all (0 ≤ n ∧ n ≤ 4 ∧ k = 0 ∧ -4 ≤ v ∧ v ≤ 4 ∧ pit.length = 0 ∧ 4 ≤ sg ∧ sg < 124 ∧ inSrc l p ∧ z = zAx) (Int × List (List Int)) (fun x => inSrc l x.1 ∧ x.2.length = n.toNat ∧ okPit sg x.2) (fun _ => .exit 0)
      (fun x => ([.ce (.ptr 0 0), .ce (.ptr 1000002 0), .ce (.ptr 1000003 0)], [[.sl false [4] l, .int .i64 x.1], zAx, [.int .i64 st, .int .i64 sp, .int .i64 ac, .int .i64 je, .int .i64 lo, .int .i64 hi, .int .i64 bl, .int .i64 og, .int .i64 sg, .sl true [4] x.2]]))
  | _ => .fail
def SAxis (hargs : List HV) (pars : List (List HC)) : SR :=
  match hargs, pars with
  | [.ce (.ptr 0 0)], [[.sl false [4] l, .int .i64 p]] =>
    .all (inSrc l p) (Int × AxV) (fun x => inSrc l x.1 ∧ okAx x.2) (fun x => ⟨.agg (axCells x.2), false, [[.sl false [4] l, .int .i64 x.1]], []⟩)
  | _, _ => .fail
def tabAxis : List (FuncId × HL.Spec) := [(73, SNext)]
noncomputable def CAxis : Ctx := ⟨Try.prog, gam tabAxis, 79, [(11, an22, L22)], []⟩
theorem vbAxis (l : List (List Int)) (p n v i x0 x1 x2 x3 x4 x5 x6 x7 x8 : Int) (pit : List (List Int)) (K : HEx → LV → Prop) : (nbodyT true CAxis an22 (nthLoop Try.f48 0) ([.ce (.ptr 0 0), .ce (.ptr 1000002 0), .ce (.ptr 1000003 0), .ce (.int .i64 n), .ce (.int .i64 v), .ce (.int .i64 i)], [[.sl false [4] l, .int .i64 p], zAx, [.int .i64 x0, .int .i64 x1, .int .i64 x2, .int .i64 x3, .int .i64 x4, .int .i64 x5, .int .i64 x6, .int .i64 x7, .int .i64 x8, .sl true [4] pit]]) K) =
    ((decide (i < n) = true → ((List.length pit + (1 : Nat)) * (8 : Nat) ≤ (140737488355328 : Nat) ∧ List.length pit + (1 : Nat) ≤ maxLen) ∧ (4 : Int) ≠ (0 : Int) ∧ ((-9223372036854775808 : Int) ≤ Int.tdiv x8 (4 : Int) ∧ Int.tdiv x8 (4 : Int) ≤ (9223372036854775807 : Int)) ∧ ∀ (x1_1 : Int), x1_1 = Int.tdiv x8 (4 : Int) → ((-9223372036854775808 : Int) ≤ (2 : Int) * x1_1 ∧ (2 : Int) * x1_1 ≤ (9223372036854775807 : Int)) ∧ ∀ (x2_1 : Int), x2_1 = (2 : Int) * x1_1 → ((-9223372036854775808 : Int) ≤ x2_1 + (1 : Int) ∧ x2_1 + (1 : Int) ≤ (9223372036854775807 : Int)) ∧ ∀ (x3_1 : Int), x3_1 = x2_1 + (1 : Int) → ((0 : Int) < x3_1 ∧ x3_1 ≤ (4611686018427387904 : Int) ∧ inSrc l p) ∧ (∃ (x : Int × Int), drew l p x3_1 x) ∧ ∀ (x : Int × Int), drew l p x3_1 x → ((-9223372036854775808 : Int) ≤ v + x.1 ∧ v + x.1 ≤ (9223372036854775807 : Int)) ∧ ∀ (x5_1 : Int), x5_1 = v + x.1 → ((-9223372036854775808 : Int) ≤ x5_1 - x1_1 ∧
    x5_1 - x1_1 ≤ (9223372036854775807 : Int)) ∧ ∀ (x6_1 : Int), x6_1 = x5_1 - x1_1 → ∀ (x7_1 : Int), x7_1 = max x6_1 (-4096 : Int) → ∀ (x8_1 : Int), x8_1 = min x7_1 (4096 : Int) → ((-9223372036854775808 : Int) ≤ i + (1 : Int) ∧ i + (1 : Int) ≤ (9223372036854775807 : Int)) ∧ ∀ (x9 : Int), x9 = i + (1 : Int) → K HEx.normal ([HV.ce (HC.ptr (0 : Nat) (0 : Nat)), HV.ce (HC.ptr (1000002 : Nat) (0 : Nat)), HV.ce (HC.ptr (1000003 : Nat) (0 : Nat)), HV.ce (HC.int IntKind.i64 n), HV.ce (HC.int IntKind.i64 x8_1), HV.ce (HC.int IntKind.i64 x9)], [[HC.sl false [(4 : Nat)] l, HC.int IntKind.i64 x.2], [HC.int IntKind.i64 (0 : Int), HC.int IntKind.i64 (0 : Int), HC.int IntKind.i64 (0 : Int), HC.int IntKind.i64 (0 : Int), HC.int IntKind.i64 (0 : Int), HC.int IntKind.i64 (0 : Int), HC.int IntKind.i64 (0 : Int), HC.int IntKind.i64 (0 : Int), HC.int IntKind.i64 (0 : Int), HC.sl true [(4 : Nat)] []], [HC.int IntKind.i64 x0, HC.int IntKind.i64 x1, HC.int IntKind.i64 x2, HC.int IntKind.i64 x3, HC.int IntKind.i64 x4, HC.int IntKind.i64 x5, HC.int IntKind.i64 x6, HC.int IntKind.i64 x7, HC.int IntKind.i64 x8, HC.sl true [(4 : Nat)] (pit ++ [[v]])]])) ∧
    (decide (i < n) = false → K (HEx.exit (0 : Nat)) ([HV.ce (HC.ptr (0 : Nat) (0 : Nat)), HV.ce (HC.ptr (1000002 : Nat) (0 : Nat)), HV.ce (HC.ptr (1000003 : Nat) (0 : Nat))], [[HC.sl false [(4 : Nat)] l, HC.int IntKind.i64 p], [HC.int IntKind.i64 (0 : Int), HC.int IntKind.i64 (0 : Int), HC.int IntKind.i64 (0 : Int), HC.int IntKind.i64 (0 : Int), HC.int IntKind.i64 (0 : Int), HC.int IntKind.i64 (0 : Int), HC.int IntKind.i64 (0 : Int), HC.int IntKind.i64 (0 : Int), HC.int IntKind.i64 (0 : Int), HC.sl true [(4 : Nat)] []], [HC.int IntKind.i64 x0, HC.int IntKind.i64 x1, HC.int IntKind.i64 x2, HC.int IntKind.i64 x3, HC.int IntKind.i64 x4, HC.int IntKind.i64 x5, HC.int IntKind.i64 x6, HC.int IntKind.i64 x7, HC.int IntKind.i64 x8, HC.sl true [(4 : Nat)] pit]]))) := by kernel_rfl
theorem vcAxis (l : List (List Int)) (p : Int) (Q : Res → Prop) : (nfun true CAxis Try.f48 (bodyOf Try.f48) [.ce (.ptr 0 0)] [[.sl false [4] l, .int .i64 p]] Q) =
    (((0 : Int) < (6 : Int) ∧ (6 : Int) ≤ (4611686018427387904 : Int) ∧ inSrc l p) ∧ (∃ (x : Int × Int), drew l p (6 : Int) x) ∧ ∀ (x : Int × Int), drew l p (6 : Int) x → ((0 : Int) ≤ x.1 ∧ x.1 < (6 : Int)) ∧ ∀ (x2 : Int), x2 = el [[(8 : Int)], [(4 : Int)], [(5 : Int)], [(16 : Int)], [(23 : Int)], [(64 : Int)]] (Int.toNat x.1) → ((0 : Int) < (4 : Int) ∧ (4 : Int) ≤ (4611686018427387904 : Int) ∧ inSrc l x.2) ∧ (∃ (x_1 : Int × Int), drew l x.2 (4 : Int) x_1) ∧ ∀ (x_1 : Int × Int), drew l x.2 (4 : Int) x_1 → ((0 : Int) ≤ x_1.1 ∧ x_1.1 < (4 : Int)) ∧ ∀ (x4 : Int), x4 = el [[(0 : Int)], [(1 : Int)], [(3 : Int)], [(6 : Int)]] (Int.toNat x_1.1) → ((0 : Int) < (5 : Int) ∧ (5 : Int) ≤ (4611686018427387904 : Int) ∧ inSrc l x_1.2) ∧ (∃ (x : Int × Int), drew l x_1.2 (5 : Int) x) ∧ ∀ (x : Int × Int), drew l x_1.2 (5 : Int) x → ((0 : Int) ≤ x.1 ∧ x.1 < (5 : Int)) ∧ ∀ (x6 : Int), x6 = el [[(40 : Int)], [(1 : Int)], [(3 : Int)], [(9 : Int)], [(1000 : Int)]] (Int.toNat x.1) →
    ((0 : Int) < (5 : Int) ∧ (5 : Int) ≤ (4611686018427387904 : Int) ∧ inSrc l x.2) ∧ (∃ (x_2 : Int × Int), drew l x.2 (5 : Int) x_2) ∧ ∀ (x_2 : Int × Int), drew l x.2 (5 : Int) x_2 → ((0 : Int) ≤ x_2.1 ∧ x_2.1 < (5 : Int)) ∧ ∀ (x8 : Int), x8 = el [[(20 : Int)], [(2 : Int)], [(3 : Int)], [(5 : Int)], [(1000 : Int)]] (Int.toNat x_2.1) → ((0 : Int) < (5 : Int) ∧ (5 : Int) ≤ (4611686018427387904 : Int) ∧ inSrc l x_2.2) ∧ (∃ (x : Int × Int), drew l x_2.2 (5 : Int) x) ∧ ∀ (x : Int × Int), drew l x_2.2 (5 : Int) x → ((0 : Int) ≤ x.1 ∧ x.1 < (5 : Int)) ∧ ∀ (x10 : Int), x10 = el [[(30 : Int)], [(4 : Int)], [(5 : Int)], [(8 : Int)], [(1000 : Int)]] (Int.toNat x.1) → ((0 : Int) < (5 : Int) ∧ (5 : Int) ≤ (4611686018427387904 : Int) ∧ inSrc l x.2) ∧ (∃ (x_3 : Int × Int), drew l x.2 (5 : Int) x_3) ∧ ∀ (x_3 : Int × Int), drew l x.2 (5 : Int) x_3 → ((x_3.1 == (0 : Int)) = true → Q { val := HV.agg [HC.int IntKind.i64 x2, HC.int IntKind.i64 x6, HC.int IntKind.i64 x8, HC.int IntKind.i64 x10, HC.int IntKind.i64 (-16777216 : Int), HC.int IntKind.i64 (16777216 : Int), HC.int IntKind.i64 x4, HC.int IntKind.i64 (0 : Int), HC.int IntKind.i64 (0 : Int), HC.sl false [(4 : Nat)] []], own := false, pars := [[HC.sl false [(4 : Nat)] l, HC.int IntKind.i64 x_3.2]], news := [] }) ∧
    ((x_3.1 == (0 : Int)) = false → ((0 : Int) < (400 : Int) ∧ (400 : Int) ≤ (4611686018427387904 : Int) ∧ inSrc l x_3.2) ∧ (∃ (x : Int × Int), drew l x_3.2 (400 : Int) x) ∧ ∀ (x : Int × Int), drew l x_3.2 (400 : Int) x → ((-9223372036854775808 : Int) ≤ x.1 - (200 : Int) ∧ x.1 - (200 : Int) ≤ (9223372036854775807 : Int)) ∧ ∀ (x13 : Int), x13 = x.1 - (200 : Int) → ((0 : Int) < (120 : Int) ∧ (120 : Int) ≤ (4611686018427387904 : Int) ∧ inSrc l x.2) ∧ (∃ (x_4 : Int × Int), drew l x.2 (120 : Int) x_4) ∧ ∀ (x_4 : Int × Int), drew l x.2 (120 : Int) x_4 → ((-9223372036854775808 : Int) ≤ (4 : Int) + x_4.1 ∧ (4 : Int) + x_4.1 ≤ (9223372036854775807 : Int)) ∧ ∀ (x15 : Int), x15 = (4 : Int) + x_4.1 → ((0 : Int) < (9 : Int) ∧ (9 : Int) ≤ (4611686018427387904 : Int) ∧ inSrc l x_4.2) ∧ (∃ (x : Int × Int), drew l x_4.2 (9 : Int) x) ∧ ∀ (x : Int × Int), drew l x_4.2 (9 : Int) x → ((-9223372036854775808 : Int) ≤ x.1 - (4 : Int) ∧
    x.1 - (4 : Int) ≤ (9223372036854775807 : Int)) ∧ ∀ (x17 : Int), x17 = x.1 - (4 : Int) → ((0 : Int) ≤ x_3.1 ∧ x_3.1 ≤ (4 : Int) ∧ (0 : Int) = (0 : Int) ∧ (-4 : Int) ≤ x17 ∧ x17 ≤ (4 : Int) ∧ nat_lit 0 = (0 : Nat) ∧ (4 : Int) ≤ x15 ∧ x15 < (124 : Int) ∧ inSrc l x.2 ∧ [HC.int IntKind.i64 (0 : Int), HC.int IntKind.i64 (0 : Int), HC.int IntKind.i64 (0 : Int), HC.int IntKind.i64 (0 : Int), HC.int IntKind.i64 (0 : Int), HC.int IntKind.i64 (0 : Int), HC.int IntKind.i64 (0 : Int), HC.int IntKind.i64 (0 : Int), HC.int IntKind.i64 (0 : Int), HC.sl true [nat_lit 4] []] = zAx) ∧ ∀ (x : Int × List (List Int)), inSrc l x.1 ∧ List.length x.2 = Int.toNat x_3.1 ∧ okPit x15 x.2 → Q { val := HV.agg [HC.int IntKind.i64 x2, HC.int IntKind.i64 x6, HC.int IntKind.i64 x8, HC.int IntKind.i64 x10, HC.int IntKind.i64 (-16777216 : Int), HC.int IntKind.i64 (16777216 : Int), HC.int IntKind.i64 x4, HC.int IntKind.i64 x13, HC.int IntKind.i64 x15, HC.sl false [(4 : Nat)] x.2], own := false, pars := [[HC.sl false [(4 : Nat)] l, HC.int IntKind.i64 x.1]], news := [] })) := by kernel_rfl
def SAxes (hargs : List HV) (pars : List (List HC)) : SR :=
  match hargs, pars with
  | [.ce (.sl false [4] l)], [] =>
    .all (l.length ≤ 9223372036854775807) (AxV × AxV × AxV) (fun x => okAx x.1 ∧ okAx x.2.1 ∧ okAx x.2.2) (fun x => ⟨.agg (axCells x.1 ++ axCells x.2.1 ++ axCells x.2.2), false, [], []⟩)
  | _, _ => .fail
def tabAxes : List (FuncId × HL.Spec) := [(47, SFrom), (48, SAxis)]
noncomputable def CAxes : Ctx := ⟨Try.prog, gam tabAxes, 13, [], []⟩
theorem vcAxes (l : List (List Int)) (Q : Res → Prop) : (nfun true CAxes Try.f26 (bodyOf Try.f26) [.ce (.sl false [4] l)] [] Q) =
    (True ∧ ∀ (x1 : List (List Int)), x1 = l → ∀ (x2 : Int), x2 = (0 : Int) → inSrc x1 x2 ∧ (∃ (x : Int × AxV), inSrc x1 x.1 ∧ okAx x.2) ∧ ∀ (x : Int × AxV), inSrc x1 x.1 ∧ okAx x.2 → inSrc x1 x.1 ∧ (∃ (x : Int × AxV), inSrc x1 x.1 ∧ okAx x.2) ∧ ∀ (x_1 : Int × AxV), inSrc x1 x_1.1 ∧ okAx x_1.2 → inSrc x1 x_1.1 ∧ (∃ (x : Int × AxV), inSrc x1 x.1 ∧ okAx x.2) ∧ ∀ (x_2 : Int × AxV), inSrc x1 x_2.1 ∧ okAx x_2.2 → Q { val := HV.agg [HC.int IntKind.i64 x.2.st, HC.int IntKind.i64 x.2.sp, HC.int IntKind.i64 x.2.ac, HC.int IntKind.i64 x.2.je, HC.int IntKind.i64 (-16777216 : Int), HC.int IntKind.i64 (16777216 : Int), HC.int IntKind.i64 x.2.bl, HC.int IntKind.i64 x.2.og, HC.int IntKind.i64 x.2.sg, HC.sl false [(4 : Nat)] x.2.pit, HC.int IntKind.i64 x_1.2.st, HC.int IntKind.i64 x_1.2.sp, HC.int IntKind.i64 x_1.2.ac, HC.int IntKind.i64 x_1.2.je, HC.int IntKind.i64 (-16777216 : Int), HC.int IntKind.i64 (16777216 : Int), HC.int IntKind.i64 x_1.2.bl, HC.int IntKind.i64 x_1.2.og, HC.int IntKind.i64 x_1.2.sg, HC.sl false [(4 : Nat)] x_1.2.pit, HC.int IntKind.i64 x_2.2.st, HC.int IntKind.i64 x_2.2.sp, HC.int IntKind.i64 x_2.2.ac, HC.int IntKind.i64 x_2.2.je, HC.int IntKind.i64 (-16777216 : Int), HC.int IntKind.i64 (16777216 : Int), HC.int IntKind.i64 x_2.2.bl, HC.int IntKind.i64 x_2.2.og, HC.int IntKind.i64 x_2.2.sg, HC.sl false [(4 : Nat)] x_2.2.pit], own := false, pars := [], news := [] }) := by kernel_rfl
end Go.Proofs.Ytneingpnkdeooaa
namespace Go.Proofs.Ytneingpnkdeooaa
open Go Go.HL U
theorem okAx_ex : ∃ a, okAx a := ⟨⟨8, 1, 2, 4, 0, 0, 0, []⟩, by unfold okAx okPit; simp⟩

theorem loopAxis : ∀ v Q, (L22 v).wp Q → hloop CAxis an22 (nthLoop Try.f48 0) v Q := by
  intro v Q h
  unfold L22 at h
  split at h
  case h_2 => exact h.elim
  rename_i n v k l p z st sp ac je lo hi bl og sg pit
  obtain ⟨⟨h1, h2, h3, h4, h5, h6, h7, h8, h9, h10⟩, hq⟩ := h
  subst h3; subst h10
  obtain rfl : pit = [] := List.eq_nil_of_length_eq_zero h6
  refine hloop_rec (σ := Int × List (List Int) × Int)
    (fun s => ([.ce (.ptr 0 0), .ce (.ptr 1000002 0), .ce (.ptr 1000003 0), .ce (.int .i64 n), .ce (.int .i64 s.1), .ce (.int .i64 (s.2.1.length : Int))], [[.sl false [4] l, .int .i64 s.2.2], zAx, [.int .i64 st, .int .i64 sp, .int .i64 ac, .int .i64 je, .int .i64 lo, .int .i64 hi, .int .i64 bl, .int .i64 og, .int .i64 sg, .sl true [4] s.2.1]]))
    (fun s => n.toNat - s.2.1.length)
    (fun s => (s.2.1.length : Int) ≤ n ∧ inSrc l s.2.2 ∧ okPit sg s.2.1 ∧ (-4096 ≤ s.1 ∧ s.1 ≤ 4096) ∧ (0 < s.2.1.length → s.1 - el s.2.1 (s.2.1.length - 1) ≤ sg / 4 ∧ el s.2.1 (s.2.1.length - 1) - s.1 ≤ sg / 4))
    ?_ (v, [], p) ⟨h1, h9, by unfold okPit; simp, ⟨by dsimp only; omega, by dsimp only; omega⟩, fun h => absurd h (by simp)⟩
  rintro ⟨v, pit, p⟩ ⟨i1, i2, i3, i4, i5⟩ K hn he hr
  dsimp only at i1 i2 i3 i4 i5 hn ⊢
  refine byVB (vbAxis l p n v pit.length st sp ac je lo hi bl og sg pit K) ?_
  refine ⟨fun hlt => ?_, fun hge => ?_⟩
  · have hlt := of_decide_eq_true hlt
    have ht : sg.tdiv 4 = sg / 4 := tdiv_pos (by omega)
    rw [ht]
    refine ⟨⟨by omega, by unfold maxLen; omega⟩, by omega, by omega, fun y1 e1 => ⟨by omega, fun y2 e2 => ⟨by omega, fun y3 e3 => ⟨⟨by omega, by omega, i2⟩, drew_ex _ _ (by omega), fun y d => ?_⟩⟩⟩⟩
    have d1 := d.1
    have d2 := d.2.1
    refine ⟨by omega, fun y5 e5 => ⟨by omega, fun y6 e6 y7 e7 y8 e8 => ⟨by omega, fun y9 e9 => ?_⟩⟩⟩
    have hl : (pit ++ [[v]]).length = pit.length + 1 := by simp
    have := hn (y8, pit ++ [[v]], y.2) ⟨by dsimp only; omega, drew_src i2 d, ?_, by dsimp only; omega, fun _ => ?_⟩ (by dsimp only; omega)
    · dsimp only at this
      rw [hl, show ((pit.length + 1 : Nat) : Int) = y9 by omega] at this
      exact this
    · refine ⟨fun j hj => ?_, fun j hj => ?_⟩
      · dsimp only at hj ⊢
        rw [el_append]
        split
        · rename_i hj'; exact i3.1 j hj'
        · obtain rfl : j = pit.length := by omega
          rw [Nat.sub_self, el_single]; omega
      · dsimp only at hj ⊢
        have hjp : j < pit.length := by omega
        have ej : el (pit ++ [[v]]) j = el pit j := by rw [el_append, if_pos hjp]
        rw [ej, el_append]
        split
        · exact i3.2 j (by omega)
        · have hj' : j + 1 = pit.length := by omega
          have := i5 (by omega)
          rw [hj', Nat.sub_self, el_single]
          rw [show pit.length - 1 = j by omega] at this
          exact this
    · dsimp only
      rw [hl, Nat.add_sub_cancel, el_append, if_neg (by omega), Nat.sub_self, el_single]
      omega
  · have hge := of_decide_eq_false hge
    exact he _ _ (hq (p, pit) ⟨i2, by dsimp only; omega, i3⟩)

theorem sAxis : Sound Try.prog 48 SAxis := by
  refine sound_of (C := CAxis) tabAxis Try.func48 (by kernel_rfl) (by decide +kernel) (by kernel_rfl) rfl ⟨sNext, trivial⟩ (loops1 (by kernel_rfl) (loopOK_of (an := an22) (S := L22) (by kernel_rfl) loopAxis)) ?_
  intro hargs pars R h
  unfold SAxis at h
  split at h
  · rename_i l p
    refine byVC (vcAxis l p R) ?_
    obtain ⟨hs, _, hq⟩ := h
    refine ⟨⟨by omega, by omega, hs⟩, drew_ex _ _ (by omega), fun y1 d1 => ⟨⟨d1.1, d1.2.1⟩, fun x2 e2 => ?_⟩⟩
    have s1 := drew_src hs d1
    have b1 := el_bd (L := [[8], [4], [5], [16], [23], [64]]) (lo := 4) (hi := 64) (by decide) d1.1 d1.2.1
    refine ⟨⟨by omega, by omega, s1⟩, drew_ex _ _ (by omega), fun y2 d2 => ⟨⟨d2.1, d2.2.1⟩, fun x4 e4 => ?_⟩⟩
    have s2 := drew_src s1 d2
    have b2 := el_bd (L := [[0], [1], [3], [6]]) (lo := 0) (hi := 6) (by decide) d2.1 d2.2.1
    refine ⟨⟨by omega, by omega, s2⟩, drew_ex _ _ (by omega), fun y3 d3 => ⟨⟨d3.1, d3.2.1⟩, fun x6 e6 => ?_⟩⟩
    have s3 := drew_src s2 d3
    have b3 := el_bd (L := [[40], [1], [3], [9], [1000]]) (lo := 1) (hi := 1000) (by decide) d3.1 d3.2.1
    refine ⟨⟨by omega, by omega, s3⟩, drew_ex _ _ (by omega), fun y4 d4 => ⟨⟨d4.1, d4.2.1⟩, fun x8 e8 => ?_⟩⟩
    have s4 := drew_src s3 d4
    have b4 := el_bd (L := [[20], [2], [3], [5], [1000]]) (lo := 2) (hi := 1000) (by decide) d4.1 d4.2.1
    refine ⟨⟨by omega, by omega, s4⟩, drew_ex _ _ (by omega), fun y5 d5 => ⟨⟨d5.1, d5.2.1⟩, fun x10 e10 => ?_⟩⟩
    have s5 := drew_src s4 d5
    have b5 := el_bd (L := [[30], [4], [5], [8], [1000]]) (lo := 4) (hi := 1000) (by decide) d5.1 d5.2.1
    refine ⟨⟨by omega, by omega, s5⟩, drew_ex _ _ (by omega), fun y6 d6 => ⟨fun e => ?_, fun e => ?_⟩⟩
    · refine hq (y6.2, ⟨x2, x6, x8, x10, x4, 0, 0, []⟩) ⟨drew_src s5 d6, ?_⟩
      subst e2 e4 e6 e8 e10
      unfold okAx okPit
      simp
      omega
    · have s6 := drew_src s5 d6
      have hn : y6.1 ≠ 0 := by simpa using e
      have hn0 := d6.1
      have hn5 := d6.2.1
      refine ⟨⟨by omega, by omega, s6⟩, drew_ex _ _ (by omega), fun y7 d7 => ⟨by have := d7.1; have := d7.2.1; omega, fun x13 e13 => ?_⟩⟩
      have s7 := drew_src s6 d7
      have c7 := d7.1
      have c7' := d7.2.1
      refine ⟨⟨by omega, by omega, s7⟩, drew_ex _ _ (by omega), fun y8 d8 => ⟨by have := d8.1; have := d8.2.1; omega, fun x15 e15 => ?_⟩⟩
      have s8 := drew_src s7 d8
      have c8 := d8.1
      have c8' := d8.2.1
      refine ⟨⟨by omega, by omega, s8⟩, drew_ex _ _ (by omega), fun y9 d9 => ⟨by have := d9.1; have := d9.2.1; omega, fun x17 e17 => ?_⟩⟩
      have s9 := drew_src s8 d9
      have c9 := d9.1
      have c9' := d9.2.1
      refine ⟨⟨by omega, by omega, rfl, by omega, by omega, rfl, by omega, by omega, s9, rfl⟩, fun y ⟨g1, g2, g3⟩ => ?_⟩
      refine hq (y.1, ⟨x2, x6, x8, x10, x4, x13, x15, y.2⟩) ⟨g1, ?_⟩
      subst e2 e4 e6 e8 e10
      refine ⟨b1, b3, b4, b5, b2, ?_, ?_, ?_, ?_, g3⟩
      · dsimp only; omega
      · dsimp only; omega
      · dsimp only; omega
      · dsimp only; omega
  · exact h.elim

theorem sAxes : Sound Try.prog 26 SAxes := by
  refine sound_of (C := CAxes) tabAxes Try.func26 (by kernel_rfl) (by decide +kernel) (by kernel_rfl) rfl ⟨sFrom, sAxis, trivial⟩ (loops0 (by kernel_rfl)) ?_
  intro hargs pars R h
  unfold SAxes at h
  split at h
  · rename_i l
    refine byVC (vcAxes l R) ?_
    obtain ⟨hs, _, hq⟩ := h
    obtain ⟨a, ha⟩ := okAx_ex
    have i0 : inSrc l 0 := ⟨Int.le_refl _, hs⟩
    refine ⟨trivial, fun y1 e1 y2 e2 => ?_⟩
    subst e1 e2
    refine ⟨i0, ⟨(0, a), i0, ha⟩, fun x1 h1 => ⟨h1.1, ⟨(0, a), i0, ha⟩, fun x2 h2 => ⟨h2.1, ⟨(0, a), i0, ha⟩, fun x3 h3 => ?_⟩⟩⟩
    exact hq (x1.2, x2.2, x3.2) ⟨h1.2, h2.2, h3.2⟩
  · exact h.elim
end Go.Proofs.Ytneingpnkdeooaa
