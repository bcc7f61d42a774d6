/-
  The law PulseSum, and the example of the package.
  Conditions: none.
-/
import Derived.Test.YtneingpnkdeooaaK5
set_option maxRecDepth 100000
namespace U
open Go
/-- the first pulse that is too great -/
def badIx : List (List Int) → Nat
  | [] => 0
  | r :: l => if r.getD 2 0 > 1099511627776 ∨ r.getD 2 0 < -1099511627776 then 0 else badIx l + 1
end U
namespace Go.Proofs.Ytneingpnkdeooaa
open Go Go.HL U
def STrue0 (hargs : List HV) (pars : List (List HC)) : SR :=
  match hargs, pars with
  | [], [] => .all True Bool (fun x => x = true) (fun x => ⟨.ce (.bool x), false, [], []⟩)
  | _, _ => .fail
def tabAw30 : List (FuncId × HL.Spec) := [(28, SLeg), (22, SBetween), (19, SSum)]
noncomputable def CAw30 : Ctx := ⟨Try.prog, gam tabAw30, Try.f18.ntmps, [], []⟩
theorem vcAw30 (Q : Res → Prop) : (nfun true CAw30 Try.f18 (bodyOf Try.f18) [] [] Q) =
    ((okLen [[(-100 : Int), (0 : Int), (0 : Int), (100 : Int), (0 : Int), (0 : Int), (0 : Int)]] ∧ okPts (0 : Int) (0 : Int) (0 : Int) [[(-100 : Int), (0 : Int), (0 : Int), (100 : Int), (0 : Int), (0 : Int), (0 : Int)]] ∧ okB3 (0 : Int) (0 : Int) (0 : Int)) ∧ (∃ (x : LegS), x = leg (0 : Int) (0 : Int) (0 : Int) [[(-100 : Int), (0 : Int), (0 : Int), (100 : Int), (0 : Int), (0 : Int), (0 : Int)]] (0 : Int) (0 : Int) (0 : Int) (1 : Int) (1 : Int) (1 : Int) (0 : Int) (100 : Int)) ∧ ∀ (x : LegS), x = leg (0 : Int) (0 : Int) (0 : Int) [[(-100 : Int), (0 : Int), (0 : Int), (100 : Int), (0 : Int), (0 : Int), (0 : Int)]] (0 : Int) (0 : Int) (0 : Int) (1 : Int) (1 : Int) (1 : Int) (0 : Int) (100 : Int) → ((okLen [[(-100 : Int), (0 : Int), (0 : Int), (100 : Int), (0 : Int), (0 : Int), (0 : Int)]] ∧ okPts (0 : Int) (0 : Int) (0 : Int) [[(-100 : Int), (0 : Int), (0 : Int), (100 : Int), (0 : Int), (0 : Int), (0 : Int)]] ∧
    okTrk x.pk x.ln ∧ okMA (10 : Int) (0 : Int) (0 : Int) [] (0 : Int) ∧ okMA (10 : Int) (0 : Int) (0 : Int) [] (0 : Int) ∧ okMA (10 : Int) (0 : Int) (0 : Int) [] (0 : Int) ∧ (0 : Int) ≤ (0 : Int) ∧ (0 : Int) ≤ (18014398509481984 : Int)) ∧ x.ln ≤ (1099511627776 : Int)) ∧ (∃ (x_1 : List (List Int)), x_1 = plN (mtr (10 : Int) (0 : Int) (0 : Int) [] (0 : Int) (0 : Int) [[(-100 : Int), (0 : Int), (0 : Int), (100 : Int), (0 : Int), (0 : Int), (0 : Int)]] (0 : Nat) x.pk (0 : Int) (1 : Int)) (mtr (10 : Int) (0 : Int) (0 : Int) [] (0 : Int) (0 : Int) [[(-100 : Int), (0 : Int), (0 : Int), (100 : Int), (0 : Int), (0 : Int), (0 : Int)]] (1 : Nat) x.pk (0 : Int) (1 : Int)) (mtr (10 : Int) (0 : Int) (0 : Int) [] (0 : Int) (0 : Int) [[(-100 : Int), (0 : Int), (0 : Int), (100 : Int), (0 : Int), (0 : Int), (0 : Int)]] (2 : Nat) x.pk (0 : Int) (1 : Int)) (clamp x.ln (0 : Int)) (Int.toNat (clamp x.ln (7 : Int) - clamp x.ln (0 : Int)))) ∧
    ∀ (x_1 : List (List Int)), x_1 = plN (mtr (10 : Int) (0 : Int) (0 : Int) [] (0 : Int) (0 : Int) [[(-100 : Int), (0 : Int), (0 : Int), (100 : Int), (0 : Int), (0 : Int), (0 : Int)]] (0 : Nat) x.pk (0 : Int) (1 : Int)) (mtr (10 : Int) (0 : Int) (0 : Int) [] (0 : Int) (0 : Int) [[(-100 : Int), (0 : Int), (0 : Int), (100 : Int), (0 : Int), (0 : Int), (0 : Int)]] (1 : Nat) x.pk (0 : Int) (1 : Int)) (mtr (10 : Int) (0 : Int) (0 : Int) [] (0 : Int) (0 : Int) [[(-100 : Int), (0 : Int), (0 : Int), (100 : Int), (0 : Int), (0 : Int), (0 : Int)]] (2 : Nat) x.pk (0 : Int) (1 : Int)) (clamp x.ln (0 : Int)) (Int.toNat (clamp x.ln (7 : Int) - clamp x.ln (0 : Int))) → okDir [[(1 : Int), (0 : Int), (1 : Int)], [(2 : Int), (0 : Int), (1 : Int)], [(2 : Int), (2 : Int), (-1 : Int)]] ∧ ∀ (x3 : Int), x3 = (2 : Int) → ∀ (x4 : Int), x4 = (0 : Int) → ∀ (x5 : Int), x5 = (-1 : Int) → ((x3 == (2 : Int) && (x4 == (0 : Int) && (x5 == (-1 : Int) && true))) = true →
    (((((List.length x_1) : Nat) : Int) == (1 : Int)) = true → ((0 : Int) ≤ (0 : Int) ∧ (0 : Int) < (((List.length x_1) : Nat) : Int)) ∧ Q { val := HV.ce (HC.bool (el x_1 ((0 : Nat)) == (6 : Int) && (ec x_1 ((0 : Nat)) ((1 : Nat)) == (0 : Int) && (ec x_1 ((0 : Nat)) ((2 : Nat)) == (-1 : Int) && true)))), own := false, pars := [], news := [] }) ∧ (((((List.length x_1) : Nat) : Int) == (1 : Int)) = false → Q { val := HV.ce (HC.bool false), own := false, pars := [], news := [] })) ∧ ((x3 == (2 : Int) && (x4 == (0 : Int) && (x5 == (-1 : Int) && true))) = false → Q { val := HV.ce (HC.bool false), own := false, pars := [], news := [] })) := by kernel_rfl
def tabLPS : List (FuncId × HL.Spec) := [(18, STrue0), (19, SSum)]
def anLPS : LAnn := ⟨[0, 2, 3, 12, 13, 14], [0, 2, 3], [1000003], false⟩
def LLPS (v : LV) : LR :=
  match v with
  | ([.ce (.sl false [4, 4, 4] l), .ce (.bool z), .ce (.ptr 1000003 0), .ce (.sl false [4, 4, 4] m), .ce (.int .i64 n), .ce (.int .i64 i)], [[.int .i64 x0, .int .i64 x1, .int .i64 x2]]) =>
    .alts (n = m.length ∧ i = 0 ∧ x0 = 0 ∧ x1 = 0 ∧ x2 = 0 ∧ m.length ≤ 200)
      [(badIx m = m.length, .exit 0, ([.ce (.sl false [4, 4, 4] l), .ce (.bool z), .ce (.ptr 1000003 0)], [[.int .i64 (sumAx 0 m), .int .i64 (sumAx 1 m), .int .i64 (sumAx 2 m)]])),
       (badIx m < m.length, .ret, ([.ce (.sl false [4, 4, 4] l), .ce (.bool true), .ce (.ptr 1000003 0)], [[.int .i64 (sumAx 0 (m.take (badIx m))), .int .i64 (sumAx 1 (m.take (badIx m))), .int .i64 (sumAx 2 (m.take (badIx m)))]]))]
  | _ => .fail
noncomputable def CLPS : Ctx := ⟨Try.prog, gam tabLPS, Try.f5.ntmps, [(7, anLPS, LLPS), (4000012, unrT [1000003, 1000005], fun _ => .fail)], []⟩
theorem vbLPS (z : Bool) (n i x0 x1 x2 : Int) (l m : List (List Int)) (K : HEx → LV → Prop) : (nbodyT true CLPS anLPS (nthLoop Try.f5 0) (([.ce (.sl false [4, 4, 4] l), .ce (.bool z), .ce (.ptr 1000003 0), .ce (.sl false [4, 4, 4] m), .ce (.int .i64 n), .ce (.int .i64 i)], [[.int .i64 x0, .int .i64 x1, .int .i64 x2]])) K) =
    ((decide (i < n) = true → ((0 : Int) ≤ i ∧ i < (((List.length m) : Nat) : Int)) ∧ (decide (ec m (Int.toNat i) ((2 : Nat)) > (1099511627776 : Int)) = true → K HEx.ret ([HV.ce (HC.sl false [(4 : Nat), (4 : Nat), (4 : Nat)] l), HV.ce (HC.bool true), HV.ce (HC.ptr (1000003 : Nat) (0 : Nat))], [[HC.int IntKind.i64 x0, HC.int IntKind.i64 x1, HC.int IntKind.i64 x2]])) ∧ (decide (ec m (Int.toNat i) ((2 : Nat)) > (1099511627776 : Int)) = false → (decide (ec m (Int.toNat i) ((2 : Nat)) < (-1099511627776 : Int)) = true → K HEx.ret ([HV.ce (HC.sl false [(4 : Nat), (4 : Nat), (4 : Nat)] l), HV.ce (HC.bool true), HV.ce (HC.ptr (1000003 : Nat) (0 : Nat))], [[HC.int IntKind.i64 x0, HC.int IntKind.i64 x1, HC.int IntKind.i64 x2]])) ∧ (decide (ec m (Int.toNat i) ((2 : Nat)) < (-1099511627776 : Int)) = false → ((ec m (Int.toNat i) ((1 : Nat)) == (0 : Int)) = true → ((-9223372036854775808 : Int) ≤ x0 + ec m (Int.toNat i) ((2 : Nat)) ∧
    x0 + ec m (Int.toNat i) ((2 : Nat)) ≤ (9223372036854775807 : Int)) ∧ ∀ (x1_1 : Int), x1_1 = x0 + ec m (Int.toNat i) ((2 : Nat)) → ((ec m (Int.toNat i) ((1 : Nat)) == (1 : Int)) = true → ((-9223372036854775808 : Int) ≤ x1 + ec m (Int.toNat i) ((2 : Nat)) ∧ x1 + ec m (Int.toNat i) ((2 : Nat)) ≤ (9223372036854775807 : Int)) ∧ ∀ (x2_1 : Int), x2_1 = x1 + ec m (Int.toNat i) ((2 : Nat)) → ((ec m (Int.toNat i) ((1 : Nat)) == (2 : Int)) = true → ((-9223372036854775808 : Int) ≤ x2 + ec m (Int.toNat i) ((2 : Nat)) ∧ x2 + ec m (Int.toNat i) ((2 : Nat)) ≤ (9223372036854775807 : Int)) ∧ ∀ (x3 : Int), x3 = x2 + ec m (Int.toNat i) ((2 : Nat)) → ((-9223372036854775808 : Int) ≤ i + (1 : Int) ∧ i + (1 : Int) ≤ (9223372036854775807 : Int)) ∧ ∀ (x4 : Int), x4 = i + (1 : Int) → K HEx.normal ([HV.ce (HC.sl false [(4 : Nat), (4 : Nat), (4 : Nat)] l), HV.ce (HC.bool z), HV.ce (HC.ptr (1000003 : Nat) (0 : Nat)), HV.ce (HC.sl false [(4 : Nat), (4 : Nat), (4 : Nat)] m), HV.ce (HC.int IntKind.i64 n), HV.ce (HC.int IntKind.i64 x4)], [[HC.int IntKind.i64 x1_1, HC.int IntKind.i64 x2_1, HC.int IntKind.i64 x3]])) ∧
    ((ec m (Int.toNat i) ((1 : Nat)) == (2 : Int)) = false → ((-9223372036854775808 : Int) ≤ i + (1 : Int) ∧ i + (1 : Int) ≤ (9223372036854775807 : Int)) ∧ ∀ (x5 : Int), x5 = i + (1 : Int) → K HEx.normal ([HV.ce (HC.sl false [(4 : Nat), (4 : Nat), (4 : Nat)] l), HV.ce (HC.bool z), HV.ce (HC.ptr (1000003 : Nat) (0 : Nat)), HV.ce (HC.sl false [(4 : Nat), (4 : Nat), (4 : Nat)] m), HV.ce (HC.int IntKind.i64 n), HV.ce (HC.int IntKind.i64 x5)], [[HC.int IntKind.i64 x1_1, HC.int IntKind.i64 x2_1, HC.int IntKind.i64 x2]]))) ∧ ((ec m (Int.toNat i) ((1 : Nat)) == (1 : Int)) = false → ((ec m (Int.toNat i) ((1 : Nat)) == (2 : Int)) = true → ((-9223372036854775808 : Int) ≤ x2 + ec m (Int.toNat i) ((2 : Nat)) ∧ x2 + ec m (Int.toNat i) ((2 : Nat)) ≤ (9223372036854775807 : Int)) ∧ ∀ (x6 : Int), x6 = x2 + ec m (Int.toNat i) ((2 : Nat)) → ((-9223372036854775808 : Int) ≤ i + (1 : Int) ∧ i + (1 : Int) ≤ (9223372036854775807 : Int)) ∧
    ∀ (x7 : Int), x7 = i + (1 : Int) → K HEx.normal ([HV.ce (HC.sl false [(4 : Nat), (4 : Nat), (4 : Nat)] l), HV.ce (HC.bool z), HV.ce (HC.ptr (1000003 : Nat) (0 : Nat)), HV.ce (HC.sl false [(4 : Nat), (4 : Nat), (4 : Nat)] m), HV.ce (HC.int IntKind.i64 n), HV.ce (HC.int IntKind.i64 x7)], [[HC.int IntKind.i64 x1_1, HC.int IntKind.i64 x1, HC.int IntKind.i64 x6]])) ∧ ((ec m (Int.toNat i) ((1 : Nat)) == (2 : Int)) = false → ((-9223372036854775808 : Int) ≤ i + (1 : Int) ∧ i + (1 : Int) ≤ (9223372036854775807 : Int)) ∧ ∀ (x8 : Int), x8 = i + (1 : Int) → K HEx.normal ([HV.ce (HC.sl false [(4 : Nat), (4 : Nat), (4 : Nat)] l), HV.ce (HC.bool z), HV.ce (HC.ptr (1000003 : Nat) (0 : Nat)), HV.ce (HC.sl false [(4 : Nat), (4 : Nat), (4 : Nat)] m), HV.ce (HC.int IntKind.i64 n), HV.ce (HC.int IntKind.i64 x8)], [[HC.int IntKind.i64 x1_1, HC.int IntKind.i64 x1, HC.int IntKind.i64 x2]])))) ∧ ((ec m (Int.toNat i) ((1 : Nat)) == (0 : Int)) = false →
    ((ec m (Int.toNat i) ((1 : Nat)) == (1 : Int)) = true → ((-9223372036854775808 : Int) ≤ x1 + ec m (Int.toNat i) ((2 : Nat)) ∧ x1 + ec m (Int.toNat i) ((2 : Nat)) ≤ (9223372036854775807 : Int)) ∧ ∀ (x9 : Int), x9 = x1 + ec m (Int.toNat i) ((2 : Nat)) → ((ec m (Int.toNat i) ((1 : Nat)) == (2 : Int)) = true → ((-9223372036854775808 : Int) ≤ x2 + ec m (Int.toNat i) ((2 : Nat)) ∧ x2 + ec m (Int.toNat i) ((2 : Nat)) ≤ (9223372036854775807 : Int)) ∧ ∀ (x10 : Int), x10 = x2 + ec m (Int.toNat i) ((2 : Nat)) → ((-9223372036854775808 : Int) ≤ i + (1 : Int) ∧ i + (1 : Int) ≤ (9223372036854775807 : Int)) ∧ ∀ (x11 : Int), x11 = i + (1 : Int) → K HEx.normal ([HV.ce (HC.sl false [(4 : Nat), (4 : Nat), (4 : Nat)] l), HV.ce (HC.bool z), HV.ce (HC.ptr (1000003 : Nat) (0 : Nat)), HV.ce (HC.sl false [(4 : Nat), (4 : Nat), (4 : Nat)] m), HV.ce (HC.int IntKind.i64 n), HV.ce (HC.int IntKind.i64 x11)], [[HC.int IntKind.i64 x0, HC.int IntKind.i64 x9, HC.int IntKind.i64 x10]])) ∧
    ((ec m (Int.toNat i) ((1 : Nat)) == (2 : Int)) = false → ((-9223372036854775808 : Int) ≤ i + (1 : Int) ∧ i + (1 : Int) ≤ (9223372036854775807 : Int)) ∧ ∀ (x12 : Int), x12 = i + (1 : Int) → K HEx.normal ([HV.ce (HC.sl false [(4 : Nat), (4 : Nat), (4 : Nat)] l), HV.ce (HC.bool z), HV.ce (HC.ptr (1000003 : Nat) (0 : Nat)), HV.ce (HC.sl false [(4 : Nat), (4 : Nat), (4 : Nat)] m), HV.ce (HC.int IntKind.i64 n), HV.ce (HC.int IntKind.i64 x12)], [[HC.int IntKind.i64 x0, HC.int IntKind.i64 x9, HC.int IntKind.i64 x2]]))) ∧ ((ec m (Int.toNat i) ((1 : Nat)) == (1 : Int)) = false → ((ec m (Int.toNat i) ((1 : Nat)) == (2 : Int)) = true → ((-9223372036854775808 : Int) ≤ x2 + ec m (Int.toNat i) ((2 : Nat)) ∧ x2 + ec m (Int.toNat i) ((2 : Nat)) ≤ (9223372036854775807 : Int)) ∧ ∀ (x13 : Int), x13 = x2 + ec m (Int.toNat i) ((2 : Nat)) → ((-9223372036854775808 : Int) ≤ i + (1 : Int) ∧ i + (1 : Int) ≤ (9223372036854775807 : Int)) ∧
    ∀ (x14 : Int), x14 = i + (1 : Int) → K HEx.normal ([HV.ce (HC.sl false [(4 : Nat), (4 : Nat), (4 : Nat)] l), HV.ce (HC.bool z), HV.ce (HC.ptr (1000003 : Nat) (0 : Nat)), HV.ce (HC.sl false [(4 : Nat), (4 : Nat), (4 : Nat)] m), HV.ce (HC.int IntKind.i64 n), HV.ce (HC.int IntKind.i64 x14)], [[HC.int IntKind.i64 x0, HC.int IntKind.i64 x1, HC.int IntKind.i64 x13]])) ∧ ((ec m (Int.toNat i) ((1 : Nat)) == (2 : Int)) = false → ((-9223372036854775808 : Int) ≤ i + (1 : Int) ∧ i + (1 : Int) ≤ (9223372036854775807 : Int)) ∧ ∀ (x15 : Int), x15 = i + (1 : Int) → K HEx.normal ([HV.ce (HC.sl false [(4 : Nat), (4 : Nat), (4 : Nat)] l), HV.ce (HC.bool z), HV.ce (HC.ptr (1000003 : Nat) (0 : Nat)), HV.ce (HC.sl false [(4 : Nat), (4 : Nat), (4 : Nat)] m), HV.ce (HC.int IntKind.i64 n), HV.ce (HC.int IntKind.i64 x15)], [[HC.int IntKind.i64 x0, HC.int IntKind.i64 x1, HC.int IntKind.i64 x2]]))))))) ∧ (decide (i < n) = false →
    K (HEx.exit (0 : Nat)) ([HV.ce (HC.sl false [(4 : Nat), (4 : Nat), (4 : Nat)] l), HV.ce (HC.bool z), HV.ce (HC.ptr (1000003 : Nat) (0 : Nat))], [[HC.int IntKind.i64 x0, HC.int IntKind.i64 x1, HC.int IntKind.i64 x2]]))) := by kernel_rfl
theorem vcLPS (l : List (List Int)) (Q : Res → Prop) : (nfun true CLPS Try.f5 (bodyOf Try.f5) [.ce (.sl false [4, 4, 4] l)] [] Q) =
    (True ∧ (∃ (x : Bool), x = true) ∧ ∀ (x : Bool), x = true → ((!x) = true → Q { val := HV.ce (HC.bool false), own := false, pars := [], news := [] }) ∧ ((!x) = false → (decide ((((List.length l) : Nat) : Int) > (200 : Int)) = true → Q { val := HV.ce (HC.bool true), own := false, pars := [], news := [] }) ∧ (decide ((((List.length l) : Nat) : Int) > (200 : Int)) = false → ((((List.length l) : Nat) : Int) = (((List.length l) : Nat) : Int) ∧ (0 : Int) = (0 : Int) ∧ (0 : Int) = (0 : Int) ∧ (0 : Int) = (0 : Int) ∧ (0 : Int) = (0 : Int) ∧ List.length l ≤ (200 : Nat)) ∧ (badIx l = List.length l → okDir l ∧ ∀ (x2 : Int), x2 = sumAx (0 : Int) l → ∀ (x3 : Int), x3 = sumAx (1 : Int) l → ∀ (x4 : Int), x4 = sumAx (2 : Int) l → Q { val := HV.ce (HC.bool (x2 == sumAx (0 : Int) l && (x3 == sumAx (1 : Int) l && (x4 == sumAx (2 : Int) l && true)))), own := false, pars := [], news := [] }) ∧ (badIx l < List.length l →
    Q { val := HV.ce (HC.bool true), own := false, pars := [], news := [] })))) := by kernel_rfl
def okR : Res := ⟨.ce (.bool true), false, [], []⟩
def SLPS (hargs : List HV) (pars : List (List HC)) : SR :=
  match hargs, pars with
  | [.ce (.sl false [4, 4, 4] l)], [] => .det True okR
  | _, _ => .fail
end Go.Proofs.Ytneingpnkdeooaa
namespace U
theorem badIx_le : ∀ l : List (List Int), badIx l ≤ l.length
  | [] => Nat.le_refl _
  | r :: l => by
    unfold badIx
    have := badIx_le l
    split
    · exact Nat.zero_le _
    · simp; exact this
theorem badIx_at : ∀ (l : List (List Int)) (k : Nat), k < l.length → k ≤ badIx l → ((ec l k 2 > 1099511627776 ∨ ec l k 2 < -1099511627776) → badIx l = k) ∧ (¬ (ec l k 2 > 1099511627776 ∨ ec l k 2 < -1099511627776) → k + 1 ≤ badIx l)
  | [], k, h, _ => absurd h (Nat.not_lt_zero _)
  | r :: l, 0, _, _ => by
    unfold badIx
    refine ⟨fun h => ?_, fun h => ?_⟩
    · have h : r.getD 2 0 > 1099511627776 ∨ r.getD 2 0 < -1099511627776 := h
      rw [if_pos h]
    · have h : ¬ (r.getD 2 0 > 1099511627776 ∨ r.getD 2 0 < -1099511627776) := h
      rw [if_neg h]; omega
  | r :: l, k + 1, hk, hb => by
    unfold badIx at hb ⊢
    split at hb
    · omega
    · rename_i hr
      rw [if_neg hr]
      have := badIx_at l k (by simpa using hk) (by omega)
      have e : ec (r :: l) (k + 1) 2 = ec l k 2 := rfl
      rw [e]
      exact ⟨fun h => by rw [this.1 h], fun h => by have := this.2 h; omega⟩
theorem badIx_ok {l : List (List Int)} {j : Nat} (hj : j < badIx l) : -1099511627776 ≤ ec l j 2 ∧ ec l j 2 ≤ 1099511627776 := by
  have hl := badIx_le l
  have := badIx_at l j (by omega) (by omega)
  by_cases h : ec l j 2 > 1099511627776 ∨ ec l j 2 < -1099511627776
  · have := this.1 h; omega
  · omega
end U
namespace Go.Proofs.Ytneingpnkdeooaa
open Go Go.HL U
attribute [local irreducible] hfun bodyT fragT
set_option maxHeartbeats 400000 in
set_option maxRecDepth 100000 in
theorem sAw30 : Sound Try.prog 18 STrue0 := by
  refine sound_of (C := CAw30) tabAw30 Try.func18 (by kernel_rfl) (by decide +kernel) (by kernel_rfl) rfl ⟨sLeg, sBtw, sSum, trivial⟩ (loops0 (by kernel_rfl)) ?_
  intro hargs pars R h
  unfold STrue0 at h
  split at h
  case h_2 => exfalso; exact h
  obtain ⟨_, _, hq⟩ := h
  have hl : okLen [[-100, 0, 0, 100, 0, 0, 0]] := ⟨by decide, fun j hj => by
    have : j = 0 := by simp at hj; omega
    subst this; decide⟩
  have hp : okPts 0 0 0 [[-100, 0, 0, 100, 0, 0, 0]] := ⟨by decide, by decide, by decide, fun j hj => by
    have : j = 0 := by simp at hj; omega
    subst this; decide⟩
  have hb : okB3 0 0 0 := by unfold okB3; decide
  have hleg : leg 0 0 0 [[-100, 0, 0, 100, 0, 0, 0]] 0 0 0 1 1 1 0 100 = ⟨[[0, 100, 0, 1, -1, 1, 1, -1, 1, 1]], 100, -1, 1, 1, 100⟩ := by kernel_rfl
  have hM : okMA 10 0 0 [] 0 := ⟨by decide, ⟨fun h => by simp at h, by decide, by decide, by decide, fun j hj => by simp at hj⟩, by decide⟩
  refine byVC (vcAw30 R) ⟨⟨hl, hp, hb⟩, ⟨_, rfl⟩, fun x ex => ?_⟩
  have ht := leg_ok (s0 := 0) (s1 := 0) (s2 := 0) (d0 := 1) (d1 := 1) (d2 := 1) (f := 0) (t := 100) hl hb (by decide) (by decide)
  rw [hleg] at ex ht
  subst ex
  refine ⟨⟨⟨hl, hp, ht, hM, hM, hM, by decide⟩, by decide⟩, ⟨_, rfl⟩, fun y ey => ?_⟩
  have hy : y = [[6, 0, -1]] := by rw [ey]; kernel_rfl
  subst hy
  refine ⟨⟨by decide, fun j hj => ?_⟩, fun x3 e3 x4 e4 x5 e5 => ?_⟩
  · have hj : j < 3 := hj
    have : j = 0 ∨ j = 1 ∨ j = 2 := by omega
    rcases this with rfl | rfl | rfl <;> decide
  · subst e3 e4 e5
    exact ⟨fun _ => ⟨fun _ => ⟨by decide, hq _ rfl⟩, fun g => absurd g (by decide)⟩, fun g => absurd g (by decide)⟩
set_option maxHeartbeats 2000000 in
theorem loopLPS : ∀ v Q, (LLPS v).wp Q → hloop CLPS anLPS (nthLoop Try.f5 0) v Q := by
  intro v Q h
  unfold LLPS at h
  split at h
  case h_2 => exact h.elim
  rename_i l z m n i x0 x1 x2
  obtain ⟨⟨hn, hi, h0, h1, h2, hm⟩, hq0, hq1⟩ := h
  subst hn hi h0 h1 h2
  refine hloop_rec (σ := Nat)
    (fun k => ([.ce (.sl false [4, 4, 4] l), .ce (.bool z), .ce (.ptr 1000003 0), .ce (.sl false [4, 4, 4] m), .ce (.int .i64 (m.length : Int)), .ce (.int .i64 (k : Int))], [[.int .i64 (sumAx 0 (m.take k)), .int .i64 (sumAx 1 (m.take k)), .int .i64 (sumAx 2 (m.take k))]]))
    (fun k => m.length - k) (fun k => k ≤ badIx m) ?_ 0 (Nat.zero_le _)
  intro k hk K hn hx hr
  have hbl := badIx_le m
  have bd : ∀ a, -(1099511627776 * (k : Int)) ≤ sumAx a (m.take k) ∧ sumAx a (m.take k) ≤ 1099511627776 * (k : Int) := fun a => by
    have := sumAx_bd (l := m.take (badIx m)) ⟨by rw [List.length_take]; omega, fun j hj => by
      rw [List.length_take] at hj
      have := badIx_ok (l := m) (j := j) (by omega)
      unfold ec at this ⊢
      simp only [List.getD_eq_getElem?_getD, List.getElem?_take] at this ⊢
      rw [if_pos (by omega)]
      exact this⟩ a k (by rw [List.length_take]; omega)
    rw [List.take_take, Nat.min_eq_left hk] at this
    exact this
  have b0 := bd 0
  have b1 := bd 1
  have b2 := bd 2
  refine byVB (vbLPS z m.length k (sumAx 0 (m.take k)) (sumAx 1 (m.take k)) (sumAx 2 (m.take k)) l m K) ⟨fun g => ?_, fun g => ?_⟩
  · have g := of_decide_eq_true g
    have hkl : k < m.length := by omega
    have ht : Int.toNat (k : Int) = k := rfl
    rw [ht]
    have hb := badIx_at m k hkl hk
    refine ⟨by omega, fun g1 => ?_, fun g1 => ⟨fun g2 => ?_, fun g2 => ?_⟩⟩
    · have e := hb.1 (.inl (of_decide_eq_true g1))
      have := hr _ (hq1 (by omega))
      rw [e] at this
      exact this
    · have e := hb.1 (.inr (of_decide_eq_true g2))
      have := hr _ (hq1 (by omega))
      rw [e] at this
      exact this
    · have g1 := of_decide_eq_false g1
      have g2 := of_decide_eq_false g2
      have fin := hn (k + 1) (hb.2 (by omega)) (by omega)
      rw [sumAx_next 0 m hkl, sumAx_next 1 m hkl, sumAx_next 2 m hkl, show ((k + 1 : Nat) : Int) = (k : Int) + 1 by omega] at fin
      clear hn hx hr hq0 hq1 hb bd
      generalize ec m k 1 = a at *
      generalize ec m k 2 = d at *
      refine ⟨fun c0 => ⟨by omega, fun y0 f0 => ⟨fun c1 => ⟨by omega, fun y1 f1 => ⟨fun c2 => ⟨by omega, fun y2 f2 => ⟨by omega, fun w ew => ?_⟩⟩, fun c2 => ⟨by omega, fun w ew => ?_⟩⟩⟩, fun c1 => ⟨fun c2 => ⟨by omega, fun y2 f2 => ⟨by omega, fun w ew => ?_⟩⟩, fun c2 => ⟨by omega, fun w ew => ?_⟩⟩⟩⟩,
        fun c0 => ⟨fun c1 => ⟨by omega, fun y1 f1 => ⟨fun c2 => ⟨by omega, fun y2 f2 => ⟨by omega, fun w ew => ?_⟩⟩, fun c2 => ⟨by omega, fun w ew => ?_⟩⟩⟩, fun c1 => ⟨fun c2 => ⟨by omega, fun y2 f2 => ⟨by omega, fun w ew => ?_⟩⟩, fun c2 => ⟨by omega, fun w ew => ?_⟩⟩⟩⟩
      all_goals
        first
          | (have c0 : a = 0 := by simpa using c0
             rw [if_pos c0, ← f0] at fin)
          | (have c0 : ¬ a = 0 := by simpa using c0
             rw [if_neg c0, Int.add_zero] at fin)
        first
          | (have c1 : a = 1 := by simpa using c1
             rw [if_pos c1, ← f1] at fin)
          | (have c1 : ¬ a = 1 := by simpa using c1
             rw [if_neg c1, Int.add_zero] at fin)
        first
          | (have c2 : a = 2 := by simpa using c2
             rw [if_pos c2, ← f2] at fin)
          | (have c2 : ¬ a = 2 := by simpa using c2
             rw [if_neg c2, Int.add_zero] at fin)
        rw [ew]; exact fin
  · have g := of_decide_eq_false g
    have hkl : k = m.length := by omega
    have := hx 0 _ (hq0 (by omega))
    rw [hkl, List.take_length]
    exact this
set_option maxHeartbeats 400000 in
set_option maxRecDepth 100000 in
theorem sLPS : Sound Try.prog 5 SLPS := by
  refine sound_of (C := CLPS) tabLPS Try.func5 (by kernel_rfl) (by decide +kernel) (by kernel_rfl) rfl ⟨sAw30, sSum, trivial⟩ (loopsK [nthLoop Try.f5 0] [] (by kernel_rfl) (by kernel_rfl) ⟨loopOK_of (an := anLPS) (S := LLPS) (by kernel_rfl) loopLPS, trivial⟩ trivial) ?_
  intro hargs pars R h
  unfold SLPS at h
  split at h
  case h_2 => exfalso; exact h
  rename_i l
  have hq : R ⟨.ce (.bool true), false, [], []⟩ := h.2
  refine byVC (vcLPS l R) ⟨trivial, ⟨true, rfl⟩, fun x ex => ⟨fun g => (by rw [ex] at g; cases g), fun _ => ⟨fun _ => hq, fun g => ⟨⟨rfl, rfl, rfl, rfl, rfl, ?_⟩, fun hb => ⟨⟨?_, fun j hj => badIx_ok (by omega)⟩, ?_⟩, fun _ => hq⟩⟩⟩⟩
  · have g := of_decide_eq_false g
    omega
  · have g := of_decide_eq_false g
    omega
  · intro x2 e2 x3 e3 x4 e4
    subst e2 e3 e4
    simpa using hq
end Go.Proofs.Ytneingpnkdeooaa
