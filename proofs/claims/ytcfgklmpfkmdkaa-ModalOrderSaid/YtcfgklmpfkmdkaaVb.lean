/-
  Package cncref01: products and sums of numbers in digits.
  Conditions: none.
-/
import Derived.Test.YtcfgklmpfkmdkaaVa
namespace Go.Proofs.Ytcfgklmpfkmdkaa
open Go Go.HL U
def SMulL (hargs : List HV) (pars : List (List HC)) : SR :=
  match hargs, pars with
  | [.ce (.sl false [8] a), .ce (.sl false [8] b)], [] => .det (dg a ∧ dg b ∧ a.length ≤ 100 ∧ b.length ≤ 100) ⟨.ce (.sl false [8] (lim (dv a * dv b))), false, [], []⟩
  | _, _ => .fail
def anMulO : LAnn := ⟨[0, 1, 5, 6], [0, 1, 5], [1000015], false⟩
def anMulI : LAnn := ⟨[0, 1, 5, 6, 7, 8], [0, 1, 5, 6, 7], [1000015], false⟩
/-- the digits behind place i + n are not touched yet -/
def zer (o : List (List Int)) (n : Nat) : Prop := ∀ j, n ≤ j → j < o.length → el o j = 0
def mulOK (a b o : List (List Int)) : Prop := dg a ∧ dg b ∧ dg o ∧ a.length ≤ 100 ∧ b.length ≤ 100 ∧ o.length = a.length + b.length
def LMulO (v : LV) : LR :=
  match v with
  | ([.ce (.sl false [8] a), .ce (.sl false [8] b), .ce (.msl 1000015 n), .ce (.int .i64 i)], [[.arr [8] o]]) =>
    .all (i = 0 ∧ n = o.length ∧ mulOK a b o ∧ zer o 0) (List (List Int)) (fun o' => o'.length = o.length ∧ dg o' ∧ dv o' = dv a * dv b) (fun _ => .exit 0)
      (fun o' => ([.ce (.sl false [8] a), .ce (.sl false [8] b), .ce (.msl 1000015 n)], [[.arr [8] o']]))
  | _ => .fail
def LMulI (v : LV) : LR :=
  match v with
  | ([.ce (.sl false [8] a), .ce (.sl false [8] b), .ce (.msl 1000015 n), .ce (.int .i64 i), .ce (.int .u64 c), .ce (.int .i64 k)], [[.arr [8] o]]) =>
    .all (k = 0 ∧ c = 0 ∧ 0 ≤ i ∧ i < (a.length : Int) ∧ n = o.length ∧ mulOK a b o ∧ zer o (i.toNat + b.length)) (List (List Int) × Int)
      (fun x => x.1.length = o.length ∧ dg x.1 ∧ 0 ≤ x.2 ∧ x.2 < 65536 ∧ zer x.1 (i.toNat + b.length) ∧ dv x.1 + x.2.toNat * 65536 ^ (i.toNat + b.length) = dv o + (el a i.toNat).toNat * 65536 ^ i.toNat * dv b) (fun _ => .exit 2)
      (fun x => ([.ce (.sl false [8] a), .ce (.sl false [8] b), .ce (.msl 1000015 n), .ce (.int .i64 i), .ce (.int .u64 x.2)], [[.arr [8] x.1]]))
  | _ => .fail
def tabMulL : List (FuncId × HL.Spec) := [(75, SCut)]
noncomputable def CMulL : Ctx := ⟨Try.prog, gam tabMulL, Try.f68.ntmps, [(3, anMulO, LMulO), (7, anMulI, LMulI)], [70]⟩
theorem vcMulL (a b : List (List Int)) (Q : Res → Prop) : (nfun true CMulL Try.f68 (bodyOf Try.f68) [.ce (.sl false [8] a), .ce (.sl false [8] b)] [] Q) =
    (((-9223372036854775808 : Int) ≤ (((List.length a) : Nat) : Int) + (((List.length b) : Nat) : Int) ∧ (((List.length a) : Nat) : Int) + (((List.length b) : Nat) : Int) ≤ (9223372036854775807 : Int)) ∧ ∀ (x1 : Int), x1 = (((List.length a) : Nat) : Int) + (((List.length b) : Nat) : Int) → ((0 : Int) ≤ x1 ∧ x1 = x1 ∧ x1 ≤ (140737488355328 : Int) ∧ x1 * (8 : Int) ≤ (140737488355328 : Int)) ∧ ((0 : Int) = (0 : Int) ∧ Int.toNat x1 = List.length (List.replicate (Int.toNat x1) [(0 : Int)]) ∧ (dg a ∧ dg b ∧ dg (List.replicate (Int.toNat x1) [(0 : Int)]) ∧ List.length a ≤ (100 : Nat) ∧ List.length b ≤ (100 : Nat) ∧ List.length (List.replicate (Int.toNat x1) [(0 : Int)]) = List.length a + List.length b) ∧ ∀ (j : Nat), (0 : Nat) ≤ j → j < List.length (List.replicate (Int.toNat x1) [(0 : Int)]) → el (List.replicate (Int.toNat x1) [(0 : Int)]) j = (0 : Int)) ∧ ∀ (x : List (List Int)), List.length x = List.length (List.replicate (Int.toNat x1) [(0 : Int)]) ∧
    dg x ∧ dv x = dv a * dv b → Int.toNat x1 = List.length x ∧ (dg x ∧ List.length x ≤ (1000 : Nat)) ∧ ∀ (x4 : List (List Int)), x4 = lim (dv x) → Q { val := HV.ce (HC.sl false [(8 : Nat)] x4), own := false, pars := [], news := [] }) := by kernel_rfl
theorem vbMulO (a b o : List (List Int)) (n : Nat) (i : Int) (K : HEx → LV → Prop) : (nbodyT true CMulL anMulO (nthLoop Try.f68 0) (([.ce (.sl false [8] a), .ce (.sl false [8] b), .ce (.msl 1000015 n), .ce (.int .i64 i)], [[.arr [8] o]])) K) =
    ((decide (i < (((List.length a) : Nat) : Int)) = true → ((0 : Int) = (0 : Int) ∧ (0 : Int) = (0 : Int) ∧ (0 : Int) ≤ i ∧ i < (((List.length a) : Nat) : Int) ∧ n = List.length o ∧ (dg a ∧ dg b ∧ dg o ∧ List.length a ≤ (100 : Nat) ∧ List.length b ≤ (100 : Nat) ∧ List.length o = List.length a + List.length b) ∧ ∀ (j : Nat), Int.toNat i + List.length b ≤ j → j < List.length o → el o j = (0 : Int)) ∧ ∀ (x : List (List Int) × Int), List.length x.1 = List.length o ∧ dg x.1 ∧ (0 : Int) ≤ x.2 ∧ x.2 < (65536 : Int) ∧ (∀ (j : Nat), Int.toNat i + List.length b ≤ j → j < List.length x.1 → el x.1 j = (0 : Int)) ∧ dv x.1 + Int.toNat x.2 * (65536 : Nat) ^ (Int.toNat i + List.length b) = dv o + Int.toNat (el a (Int.toNat i)) * (65536 : Nat) ^ Int.toNat i * dv b → ((-9223372036854775808 : Int) ≤ i + (((List.length b) : Nat) : Int) ∧ i + (((List.length b) : Nat) : Int) ≤ (9223372036854775807 : Int)) ∧ ∀ (x4 : Int), x4 = i + (((List.length b) : Nat) : Int) →
    ((-9223372036854775808 : Int) ≤ i + (((List.length b) : Nat) : Int) ∧ i + (((List.length b) : Nat) : Int) ≤ (9223372036854775807 : Int)) ∧ ∀ (x5 : Int), x5 = i + (((List.length b) : Nat) : Int) → ((0 : Int) ≤ x5 ∧ x5 < ((n : Nat) : Int)) ∧ Int.toNat x5 < List.length x.1 ∧ ∀ (x6 : Int), x6 = el x.1 (Int.toNat x5) → ∀ (x7 : Int), x7 = (x6 + x.2) % (18446744073709551616 : Int) → ((0 : Int) ≤ x4 ∧ x4 < ((n : Nat) : Int)) ∧ Int.toNat x4 < List.length x.1 ∧ ((-9223372036854775808 : Int) ≤ i + (1 : Int) ∧ i + (1 : Int) ≤ (9223372036854775807 : Int)) ∧ ∀ (x8 : Int), x8 = i + (1 : Int) → K HEx.normal ([HV.ce (HC.sl false [(8 : Nat)] a), HV.ce (HC.sl false [(8 : Nat)] b), HV.ce (HC.msl (1000015 : Nat) n), HV.ce (HC.int IntKind.i64 x8)], [[HC.arr [(8 : Nat)] (List.set x.1 (Int.toNat x4) [bif true && true then x7 else el x.1 (Int.toNat x4)])]])) ∧ (decide (i < (((List.length a) : Nat) : Int)) = false →
    K (HEx.exit (0 : Nat)) ([HV.ce (HC.sl false [(8 : Nat)] a), HV.ce (HC.sl false [(8 : Nat)] b), HV.ce (HC.msl (1000015 : Nat) n)], [[HC.arr [(8 : Nat)] o]]))) := by kernel_rfl
theorem vbMulI (a b o : List (List Int)) (n : Nat) (i c k : Int) (K : HEx → LV → Prop) : (nbodyT true CMulL anMulI (nthLoop Try.f68 1) (([.ce (.sl false [8] a), .ce (.sl false [8] b), .ce (.msl 1000015 n), .ce (.int .i64 i), .ce (.int .u64 c), .ce (.int .i64 k)], [[.arr [8] o]])) K) =
    ((decide (k < (((List.length b) : Nat) : Int)) = true → ((-9223372036854775808 : Int) ≤ i + k ∧ i + k ≤ (9223372036854775807 : Int)) ∧ ∀ (x1 : Int), x1 = i + k → ((0 : Int) ≤ x1 ∧ x1 < ((n : Nat) : Int)) ∧ Int.toNat x1 < List.length o ∧ ∀ (x2 : Int), x2 = el o (Int.toNat x1) → ((0 : Int) ≤ i ∧ i < (((List.length a) : Nat) : Int)) ∧ ∀ (x3 : Int), x3 = el a (Int.toNat i) → ((0 : Int) ≤ k ∧ k < (((List.length b) : Nat) : Int)) ∧ ∀ (x4 : Int), x4 = el b (Int.toNat k) → ∀ (x5 : Int), x5 = x3 * x4 % (18446744073709551616 : Int) → ∀ (x6 : Int), x6 = (x2 + x5) % (18446744073709551616 : Int) → ∀ (x7 : Int), x7 = (x6 + c) % (18446744073709551616 : Int) → ((-9223372036854775808 : Int) ≤ i + k ∧ i + k ≤ (9223372036854775807 : Int)) ∧ ∀ (x8 : Int), x8 = i + k → ((0 : Int) ≤ x7 ∧ x7 ≤ (18446744073709551615 : Int) ∧ (65535 : Int) ≤ (18446744073709551615 : Int)) ∧ ∀ (x9 : Int), x9 = x7 % (65536 : Int) → ((0 : Int) ≤ x8 ∧
    x8 < ((n : Nat) : Int)) ∧ Int.toNat x8 < List.length o ∧ (0 : Int) ≤ (16 : Int) ∧ ∀ (x10 : Int), x10 = x7 / (65536 : Int) → ((-9223372036854775808 : Int) ≤ k + (1 : Int) ∧ k + (1 : Int) ≤ (9223372036854775807 : Int)) ∧ ∀ (x11 : Int), x11 = k + (1 : Int) → K HEx.normal ([HV.ce (HC.sl false [(8 : Nat)] a), HV.ce (HC.sl false [(8 : Nat)] b), HV.ce (HC.msl (1000015 : Nat) n), HV.ce (HC.int IntKind.i64 i), HV.ce (HC.int IntKind.u64 x10), HV.ce (HC.int IntKind.i64 x11)], [[HC.arr [(8 : Nat)] (List.set o (Int.toNat x8) [bif true && true then x9 else el o (Int.toNat x8)])]])) ∧ (decide (k < (((List.length b) : Nat) : Int)) = false → K (HEx.exit (2 : Nat)) ([HV.ce (HC.sl false [(8 : Nat)] a), HV.ce (HC.sl false [(8 : Nat)] b), HV.ce (HC.msl (1000015 : Nat) n), HV.ce (HC.int IntKind.i64 i), HV.ce (HC.int IntKind.u64 c)], [[HC.arr [(8 : Nat)] o]]))) := by kernel_rfl
def SAddL (hargs : List HV) (pars : List (List HC)) : SR :=
  match hargs, pars with
  | [.ce (.sl false [8] a), .ce (.sl false [8] b)], [] => .det (dg a ∧ dg b ∧ a.length ≤ 100 ∧ b.length ≤ 100) ⟨.ce (.sl false [8] (lim (dv a + dv b))), false, [], []⟩
  | _, _ => .fail
def anAddL : LAnn := ⟨[0, 1, 5, 100005, 6, 7], [5, 100005], [], false⟩
def LAddL (v : LV) : LR :=
  match v with
  | ([.ce (.sl false [8] a), .ce (.sl false [8] b), .ce (.sl false [8] o), .ce (.lit true), .ce (.int .u64 c), .ce (.int .i64 i)], []) =>
    .all (o.length = 0 ∧ c = 0 ∧ i = 0 ∧ dg a ∧ dg b ∧ a.length ≤ 100 ∧ b.length ≤ 100) (List (List Int)) (fun o' => dg o' ∧ o'.length ≤ 200 ∧ dv o' = dv a + dv b) (fun _ => .exit 0)
      (fun o' => ([.ce (.sl false [8] o'), .ce (.lit true)], []))
  | _ => .fail
noncomputable def CAddL : Ctx := ⟨Try.prog, gam tabMulL, Try.f69.ntmps, [(4, anAddL, LAddL)], []⟩
theorem vcAddL (a b : List (List Int)) (Q : Res → Prop) : (nfun true CAddL Try.f69 (bodyOf Try.f69) [.ce (.sl false [8] a), .ce (.sl false [8] b)] [] Q) =
    (((0 : Nat) = (0 : Nat) ∧ (0 : Int) = (0 : Int) ∧ (0 : Int) = (0 : Int) ∧ dg a ∧ dg b ∧ List.length a ≤ (100 : Nat) ∧ List.length b ≤ (100 : Nat)) ∧ ∀ (x : List (List Int)), dg x ∧ List.length x ≤ (200 : Nat) ∧ dv x = dv a + dv b → (dg x ∧ List.length x ≤ (1000 : Nat)) ∧ ∀ (x2 : List (List Int)), x2 = lim (dv x) → Q { val := HV.ce (HC.sl false [(8 : Nat)] x2), own := false, pars := [], news := [] }) := by kernel_rfl
theorem vbAddL (a b o : List (List Int)) (c i : Int) (K : HEx → LV → Prop) : (nbodyT true CAddL anAddL (nthLoop Try.f69 0) (([.ce (.sl false [8] a), .ce (.sl false [8] b), .ce (.sl false [8] o), .ce (.lit true), .ce (.int .u64 c), .ce (.int .i64 i)], [])) K) =
    ((decide (i < (((List.length a) : Nat) : Int)) = true → (decide (i < (((List.length a) : Nat) : Int)) = true → ((0 : Int) ≤ i ∧ i < (((List.length a) : Nat) : Int)) ∧ ∀ (x1 : Int), x1 = el a (Int.toNat i) → ∀ (x2 : Int), x2 = (c + x1) % (18446744073709551616 : Int) → (decide (i < (((List.length b) : Nat) : Int)) = true → ((0 : Int) ≤ i ∧ i < (((List.length b) : Nat) : Int)) ∧ ∀ (x3 : Int), x3 = el b (Int.toNat i) → ∀ (x4 : Int), x4 = (x2 + x3) % (18446744073709551616 : Int) → ((0 : Int) ≤ x4 ∧ x4 ≤ (18446744073709551615 : Int) ∧ (65535 : Int) ≤ (18446744073709551615 : Int)) ∧ ∀ (x5 : Int), x5 = x4 % (65536 : Int) → ((List.length o + (1 : Nat)) * (8 : Nat) ≤ (140737488355328 : Nat) ∧ List.length o + (1 : Nat) ≤ maxLen) ∧ (0 : Int) ≤ (16 : Int) ∧ ∀ (x6 : Int), x6 = x4 / (65536 : Int) → ((-9223372036854775808 : Int) ≤ i + (1 : Int) ∧ i + (1 : Int) ≤ (9223372036854775807 : Int)) ∧ ∀ (x7 : Int), x7 = i + (1 : Int) →
    K HEx.normal ([HV.ce (HC.sl false [(8 : Nat)] a), HV.ce (HC.sl false [(8 : Nat)] b), HV.ce (HC.sl false [(8 : Nat)] (o ++ [[x5]])), HV.ce (HC.lit true), HV.ce (HC.int IntKind.u64 x6), HV.ce (HC.int IntKind.i64 x7)], [])) ∧ (decide (i < (((List.length b) : Nat) : Int)) = false → ((0 : Int) ≤ x2 ∧ x2 ≤ (18446744073709551615 : Int) ∧ (65535 : Int) ≤ (18446744073709551615 : Int)) ∧ ∀ (x8 : Int), x8 = x2 % (65536 : Int) → ((List.length o + (1 : Nat)) * (8 : Nat) ≤ (140737488355328 : Nat) ∧ List.length o + (1 : Nat) ≤ maxLen) ∧ (0 : Int) ≤ (16 : Int) ∧ ∀ (x9 : Int), x9 = x2 / (65536 : Int) → ((-9223372036854775808 : Int) ≤ i + (1 : Int) ∧ i + (1 : Int) ≤ (9223372036854775807 : Int)) ∧ ∀ (x10 : Int), x10 = i + (1 : Int) → K HEx.normal ([HV.ce (HC.sl false [(8 : Nat)] a), HV.ce (HC.sl false [(8 : Nat)] b), HV.ce (HC.sl false [(8 : Nat)] (o ++ [[x8]])), HV.ce (HC.lit true), HV.ce (HC.int IntKind.u64 x9), HV.ce (HC.int IntKind.i64 x10)], []))) ∧
    (decide (i < (((List.length a) : Nat) : Int)) = false → (decide (i < (((List.length b) : Nat) : Int)) = true → ((0 : Int) ≤ i ∧ i < (((List.length b) : Nat) : Int)) ∧ ∀ (x11 : Int), x11 = el b (Int.toNat i) → ∀ (x12 : Int), x12 = (c + x11) % (18446744073709551616 : Int) → ((0 : Int) ≤ x12 ∧ x12 ≤ (18446744073709551615 : Int) ∧ (65535 : Int) ≤ (18446744073709551615 : Int)) ∧ ∀ (x13 : Int), x13 = x12 % (65536 : Int) → ((List.length o + (1 : Nat)) * (8 : Nat) ≤ (140737488355328 : Nat) ∧ List.length o + (1 : Nat) ≤ maxLen) ∧ (0 : Int) ≤ (16 : Int) ∧ ∀ (x14 : Int), x14 = x12 / (65536 : Int) → ((-9223372036854775808 : Int) ≤ i + (1 : Int) ∧ i + (1 : Int) ≤ (9223372036854775807 : Int)) ∧ ∀ (x15 : Int), x15 = i + (1 : Int) → K HEx.normal ([HV.ce (HC.sl false [(8 : Nat)] a), HV.ce (HC.sl false [(8 : Nat)] b), HV.ce (HC.sl false [(8 : Nat)] (o ++ [[x13]])), HV.ce (HC.lit true), HV.ce (HC.int IntKind.u64 x14), HV.ce (HC.int IntKind.i64 x15)], [])) ∧
    (decide (i < (((List.length b) : Nat) : Int)) = false → ((0 : Int) ≤ c ∧ c ≤ (18446744073709551615 : Int) ∧ (65535 : Int) ≤ (18446744073709551615 : Int)) ∧ ∀ (x16 : Int), x16 = c % (65536 : Int) → ((List.length o + (1 : Nat)) * (8 : Nat) ≤ (140737488355328 : Nat) ∧ List.length o + (1 : Nat) ≤ maxLen) ∧ (0 : Int) ≤ (16 : Int) ∧ ∀ (x17 : Int), x17 = c / (65536 : Int) → ((-9223372036854775808 : Int) ≤ i + (1 : Int) ∧ i + (1 : Int) ≤ (9223372036854775807 : Int)) ∧ ∀ (x18 : Int), x18 = i + (1 : Int) → K HEx.normal ([HV.ce (HC.sl false [(8 : Nat)] a), HV.ce (HC.sl false [(8 : Nat)] b), HV.ce (HC.sl false [(8 : Nat)] (o ++ [[x16]])), HV.ce (HC.lit true), HV.ce (HC.int IntKind.u64 x17), HV.ce (HC.int IntKind.i64 x18)], [])))) ∧ (decide (i < (((List.length a) : Nat) : Int)) = false → (decide (i < (((List.length b) : Nat) : Int)) = true → (decide (i < (((List.length a) : Nat) : Int)) = true → ((0 : Int) ≤ i ∧
    i < (((List.length a) : Nat) : Int)) ∧ ∀ (x19 : Int), x19 = el a (Int.toNat i) → ∀ (x20 : Int), x20 = (c + x19) % (18446744073709551616 : Int) → (decide (i < (((List.length b) : Nat) : Int)) = true → ((0 : Int) ≤ i ∧ i < (((List.length b) : Nat) : Int)) ∧ ∀ (x21 : Int), x21 = el b (Int.toNat i) → ∀ (x22 : Int), x22 = (x20 + x21) % (18446744073709551616 : Int) → ((0 : Int) ≤ x22 ∧ x22 ≤ (18446744073709551615 : Int) ∧ (65535 : Int) ≤ (18446744073709551615 : Int)) ∧ ∀ (x23 : Int), x23 = x22 % (65536 : Int) → ((List.length o + (1 : Nat)) * (8 : Nat) ≤ (140737488355328 : Nat) ∧ List.length o + (1 : Nat) ≤ maxLen) ∧ (0 : Int) ≤ (16 : Int) ∧ ∀ (x24 : Int), x24 = x22 / (65536 : Int) → ((-9223372036854775808 : Int) ≤ i + (1 : Int) ∧ i + (1 : Int) ≤ (9223372036854775807 : Int)) ∧ ∀ (x25 : Int), x25 = i + (1 : Int) → K HEx.normal ([HV.ce (HC.sl false [(8 : Nat)] a), HV.ce (HC.sl false [(8 : Nat)] b), HV.ce (HC.sl false [(8 : Nat)] (o ++ [[x23]])), HV.ce (HC.lit true), HV.ce (HC.int IntKind.u64 x24), HV.ce (HC.int IntKind.i64 x25)], [])) ∧
    (decide (i < (((List.length b) : Nat) : Int)) = false → ((0 : Int) ≤ x20 ∧ x20 ≤ (18446744073709551615 : Int) ∧ (65535 : Int) ≤ (18446744073709551615 : Int)) ∧ ∀ (x26 : Int), x26 = x20 % (65536 : Int) → ((List.length o + (1 : Nat)) * (8 : Nat) ≤ (140737488355328 : Nat) ∧ List.length o + (1 : Nat) ≤ maxLen) ∧ (0 : Int) ≤ (16 : Int) ∧ ∀ (x27 : Int), x27 = x20 / (65536 : Int) → ((-9223372036854775808 : Int) ≤ i + (1 : Int) ∧ i + (1 : Int) ≤ (9223372036854775807 : Int)) ∧ ∀ (x28 : Int), x28 = i + (1 : Int) → K HEx.normal ([HV.ce (HC.sl false [(8 : Nat)] a), HV.ce (HC.sl false [(8 : Nat)] b), HV.ce (HC.sl false [(8 : Nat)] (o ++ [[x26]])), HV.ce (HC.lit true), HV.ce (HC.int IntKind.u64 x27), HV.ce (HC.int IntKind.i64 x28)], []))) ∧ (decide (i < (((List.length a) : Nat) : Int)) = false → (decide (i < (((List.length b) : Nat) : Int)) = true → ((0 : Int) ≤ i ∧ i < (((List.length b) : Nat) : Int)) ∧
    ∀ (x29 : Int), x29 = el b (Int.toNat i) → ∀ (x30 : Int), x30 = (c + x29) % (18446744073709551616 : Int) → ((0 : Int) ≤ x30 ∧ x30 ≤ (18446744073709551615 : Int) ∧ (65535 : Int) ≤ (18446744073709551615 : Int)) ∧ ∀ (x31 : Int), x31 = x30 % (65536 : Int) → ((List.length o + (1 : Nat)) * (8 : Nat) ≤ (140737488355328 : Nat) ∧ List.length o + (1 : Nat) ≤ maxLen) ∧ (0 : Int) ≤ (16 : Int) ∧ ∀ (x32 : Int), x32 = x30 / (65536 : Int) → ((-9223372036854775808 : Int) ≤ i + (1 : Int) ∧ i + (1 : Int) ≤ (9223372036854775807 : Int)) ∧ ∀ (x33 : Int), x33 = i + (1 : Int) → K HEx.normal ([HV.ce (HC.sl false [(8 : Nat)] a), HV.ce (HC.sl false [(8 : Nat)] b), HV.ce (HC.sl false [(8 : Nat)] (o ++ [[x31]])), HV.ce (HC.lit true), HV.ce (HC.int IntKind.u64 x32), HV.ce (HC.int IntKind.i64 x33)], [])) ∧ (decide (i < (((List.length b) : Nat) : Int)) = false → ((0 : Int) ≤ c ∧ c ≤ (18446744073709551615 : Int) ∧ (65535 : Int) ≤ (18446744073709551615 : Int)) ∧
    ∀ (x34 : Int), x34 = c % (65536 : Int) → ((List.length o + (1 : Nat)) * (8 : Nat) ≤ (140737488355328 : Nat) ∧ List.length o + (1 : Nat) ≤ maxLen) ∧ (0 : Int) ≤ (16 : Int) ∧ ∀ (x35 : Int), x35 = c / (65536 : Int) → ((-9223372036854775808 : Int) ≤ i + (1 : Int) ∧ i + (1 : Int) ≤ (9223372036854775807 : Int)) ∧ ∀ (x36 : Int), x36 = i + (1 : Int) → K HEx.normal ([HV.ce (HC.sl false [(8 : Nat)] a), HV.ce (HC.sl false [(8 : Nat)] b), HV.ce (HC.sl false [(8 : Nat)] (o ++ [[x34]])), HV.ce (HC.lit true), HV.ce (HC.int IntKind.u64 x35), HV.ce (HC.int IntKind.i64 x36)], [])))) ∧ (decide (i < (((List.length b) : Nat) : Int)) = false → (decide (c > (0 : Int)) = true → (decide (i < (((List.length a) : Nat) : Int)) = true → ((0 : Int) ≤ i ∧ i < (((List.length a) : Nat) : Int)) ∧ ∀ (x37 : Int), x37 = el a (Int.toNat i) → ∀ (x38 : Int), x38 = (c + x37) % (18446744073709551616 : Int) → (decide (i < (((List.length b) : Nat) : Int)) = true →
    ((0 : Int) ≤ i ∧ i < (((List.length b) : Nat) : Int)) ∧ ∀ (x39 : Int), x39 = el b (Int.toNat i) → ∀ (x40 : Int), x40 = (x38 + x39) % (18446744073709551616 : Int) → ((0 : Int) ≤ x40 ∧ x40 ≤ (18446744073709551615 : Int) ∧ (65535 : Int) ≤ (18446744073709551615 : Int)) ∧ ∀ (x41 : Int), x41 = x40 % (65536 : Int) → ((List.length o + (1 : Nat)) * (8 : Nat) ≤ (140737488355328 : Nat) ∧ List.length o + (1 : Nat) ≤ maxLen) ∧ (0 : Int) ≤ (16 : Int) ∧ ∀ (x42 : Int), x42 = x40 / (65536 : Int) → ((-9223372036854775808 : Int) ≤ i + (1 : Int) ∧ i + (1 : Int) ≤ (9223372036854775807 : Int)) ∧ ∀ (x43 : Int), x43 = i + (1 : Int) → K HEx.normal ([HV.ce (HC.sl false [(8 : Nat)] a), HV.ce (HC.sl false [(8 : Nat)] b), HV.ce (HC.sl false [(8 : Nat)] (o ++ [[x41]])), HV.ce (HC.lit true), HV.ce (HC.int IntKind.u64 x42), HV.ce (HC.int IntKind.i64 x43)], [])) ∧ (decide (i < (((List.length b) : Nat) : Int)) = false → ((0 : Int) ≤ x38 ∧
    x38 ≤ (18446744073709551615 : Int) ∧ (65535 : Int) ≤ (18446744073709551615 : Int)) ∧ ∀ (x44 : Int), x44 = x38 % (65536 : Int) → ((List.length o + (1 : Nat)) * (8 : Nat) ≤ (140737488355328 : Nat) ∧ List.length o + (1 : Nat) ≤ maxLen) ∧ (0 : Int) ≤ (16 : Int) ∧ ∀ (x45 : Int), x45 = x38 / (65536 : Int) → ((-9223372036854775808 : Int) ≤ i + (1 : Int) ∧ i + (1 : Int) ≤ (9223372036854775807 : Int)) ∧ ∀ (x46 : Int), x46 = i + (1 : Int) → K HEx.normal ([HV.ce (HC.sl false [(8 : Nat)] a), HV.ce (HC.sl false [(8 : Nat)] b), HV.ce (HC.sl false [(8 : Nat)] (o ++ [[x44]])), HV.ce (HC.lit true), HV.ce (HC.int IntKind.u64 x45), HV.ce (HC.int IntKind.i64 x46)], []))) ∧ (decide (i < (((List.length a) : Nat) : Int)) = false → (decide (i < (((List.length b) : Nat) : Int)) = true → ((0 : Int) ≤ i ∧ i < (((List.length b) : Nat) : Int)) ∧ ∀ (x47 : Int), x47 = el b (Int.toNat i) → ∀ (x48 : Int), x48 = (c + x47) % (18446744073709551616 : Int) →
    ((0 : Int) ≤ x48 ∧ x48 ≤ (18446744073709551615 : Int) ∧ (65535 : Int) ≤ (18446744073709551615 : Int)) ∧ ∀ (x49 : Int), x49 = x48 % (65536 : Int) → ((List.length o + (1 : Nat)) * (8 : Nat) ≤ (140737488355328 : Nat) ∧ List.length o + (1 : Nat) ≤ maxLen) ∧ (0 : Int) ≤ (16 : Int) ∧ ∀ (x50 : Int), x50 = x48 / (65536 : Int) → ((-9223372036854775808 : Int) ≤ i + (1 : Int) ∧ i + (1 : Int) ≤ (9223372036854775807 : Int)) ∧ ∀ (x51 : Int), x51 = i + (1 : Int) → K HEx.normal ([HV.ce (HC.sl false [(8 : Nat)] a), HV.ce (HC.sl false [(8 : Nat)] b), HV.ce (HC.sl false [(8 : Nat)] (o ++ [[x49]])), HV.ce (HC.lit true), HV.ce (HC.int IntKind.u64 x50), HV.ce (HC.int IntKind.i64 x51)], [])) ∧ (decide (i < (((List.length b) : Nat) : Int)) = false → ((0 : Int) ≤ c ∧ c ≤ (18446744073709551615 : Int) ∧ (65535 : Int) ≤ (18446744073709551615 : Int)) ∧ ∀ (x52 : Int), x52 = c % (65536 : Int) → ((List.length o + (1 : Nat)) * (8 : Nat) ≤ (140737488355328 : Nat) ∧
    List.length o + (1 : Nat) ≤ maxLen) ∧ (0 : Int) ≤ (16 : Int) ∧ ∀ (x53 : Int), x53 = c / (65536 : Int) → ((-9223372036854775808 : Int) ≤ i + (1 : Int) ∧ i + (1 : Int) ≤ (9223372036854775807 : Int)) ∧ ∀ (x54 : Int), x54 = i + (1 : Int) → K HEx.normal ([HV.ce (HC.sl false [(8 : Nat)] a), HV.ce (HC.sl false [(8 : Nat)] b), HV.ce (HC.sl false [(8 : Nat)] (o ++ [[x52]])), HV.ce (HC.lit true), HV.ce (HC.int IntKind.u64 x53), HV.ce (HC.int IntKind.i64 x54)], [])))) ∧ (decide (c > (0 : Int)) = false → K (HEx.exit (0 : Nat)) ([HV.ce (HC.sl false [(8 : Nat)] o), HV.ce (HC.lit true)], []))))) := by kernel_rfl
end Go.Proofs.Ytcfgklmpfkmdkaa
namespace U
open Go
theorem dv_set : ∀ (o : List (List Int)) (p : Nat) (v : Int), p < o.length → dv (o.set p [v]) + (el o p).toNat * 65536 ^ p = dv o + v.toNat * 65536 ^ p
  | r :: o, 0, v, _ => by
    show v.toNat + 65536 * dv o + (r.getD 0 0).toNat * 65536 ^ 0 = (r.getD 0 0).toNat + 65536 * dv o + v.toNat * 65536 ^ 0
    omega
  | r :: o, p + 1, v, h => by
    have ih := dv_set o p v (by simpa using h)
    have e : el (r :: o) (p + 1) = el o p := rfl
    show (r.getD 0 0).toNat + 65536 * dv (o.set p [v]) + (el (r :: o) (p + 1)).toNat * 65536 ^ (p + 1) = (r.getD 0 0).toNat + 65536 * dv o + v.toNat * 65536 ^ (p + 1)
    rw [e, Nat.pow_succ]
    have h1 : (el o p).toNat * (65536 ^ p * 65536) = 65536 * ((el o p).toNat * 65536 ^ p) := by grind
    have h2 : v.toNat * (65536 ^ p * 65536) = 65536 * (v.toNat * 65536 ^ p) := by grind
    omega
theorem el_set (o : List (List Int)) (p : Nat) (v : Int) (j : Nat) (hp : p < o.length) : el (o.set p [v]) j = if j = p then v else el o j := by
  unfold el
  simp only [List.getD_eq_getElem?_getD, List.getElem?_set]
  by_cases h : p = j
  · subst h; simp [hp]
  · rw [if_neg h, if_neg (fun e => h e.symm)]
theorem dg_set {o : List (List Int)} (h : dg o) {p : Nat} {v : Int} (h0 : 0 ≤ v) (h1 : v < 65536) : dg (o.set p [v]) := fun r hr => by
  rcases List.mem_or_eq_of_mem_set hr with hr | rfl
  · exact h r hr
  · exact ⟨v, rfl, h0, h1⟩
theorem dg_repl (n : Nat) : dg (List.replicate n [0]) := fun r hr => by
  rw [List.mem_replicate] at hr
  exact ⟨0, hr.2, by omega, by omega⟩
theorem el_repl (n j : Nat) : el (List.replicate n [0]) j = 0 := by
  unfold el
  simp only [List.getD_eq_getElem?_getD, List.getElem?_replicate]
  split <;> rfl
theorem dv_repl : ∀ n : Nat, dv (List.replicate n [0]) = 0
  | 0 => rfl
  | n + 1 => by
    rw [List.replicate_succ]
    show (([0] : List Int).getD 0 0).toNat + 65536 * dv (List.replicate n [0]) = 0
    rw [dv_repl n]; rfl
theorem mul_step {do1 do2 do3 A B k1 bk P x2 x9 x10 t c : Nat} (h : do1 + c * P = do2 + A * k1) (ht : t = x2 + B * bk + c) (hd : 65536 * x10 + x9 = t) (hs : do3 + x2 * P = do1 + x9 * P) (hA : A * (bk * 1) = A * bk) (hP : B * bk * P = A * (k1 * 0) + B * bk * P) :
    do3 + x10 * (P * 65536) = do2 + A * k1 + B * bk * P := by
  have e1 : x10 * (P * 65536) + x9 * P = t * P := by rw [← hd]; grind
  have e2 : t * P = x2 * P + B * bk * P + c * P := by rw [ht]; grind
  omega
end U
namespace Go.Proofs.Ytcfgklmpfkmdkaa
open Go Go.HL U
set_option maxRecDepth 100000 in
theorem loopMulI : ∀ v Q, (LMulI v).wp Q → hloop CMulL anMulI (nthLoop Try.f68 1) v Q := by
  intro v Q h
  unfold LMulI at h
  split at h
  case h_2 => exact h.elim
  rename_i a b n i c k o
  obtain ⟨⟨h1, h2, h3, h4, h5, ⟨h6, h7, h8, h9, h10, h11⟩, h12⟩, hq⟩ := h
  subst h1 h2 h5
  obtain ⟨I, rfl⟩ := Int.eq_ofNat_of_zero_le h3
  have hI : I < a.length := by omega
  simp only [Int.toNat_natCast] at hq h12
  refine hloop_rec (σ := List (List Int) × Int × Nat) (fun s => ([.ce (.sl false [8] a), .ce (.sl false [8] b), .ce (.msl 1000015 o.length), .ce (.int .i64 (I : Int)), .ce (.int .u64 s.2.1), .ce (.int .i64 (s.2.2 : Int))], [[.arr [8] s.1]]))
    (fun s => b.length - s.2.2)
    (fun s => s.1.length = o.length ∧ dg s.1 ∧ (0 ≤ s.2.1 ∧ s.2.1 < 65536) ∧ zer s.1 (I + b.length) ∧ s.2.2 ≤ b.length ∧ dv s.1 + s.2.1.toNat * 65536 ^ (I + s.2.2) = dv o + (el a I).toNat * 65536 ^ I * dv (b.take s.2.2)) ?_ (o, 0, 0) ⟨rfl, h8, ⟨by dsimp only; omega, by dsimp only; omega⟩, h12, Nat.zero_le _, by simp [dv]⟩
  rintro ⟨p, c, k⟩ ⟨g1, g2, ⟨g3, g3'⟩, g4, g5, g6⟩ K hn he _
  dsimp only at g1 g2 g3 g3' g4 g5 g6 hn
  refine byVB (vbMulI a b p o.length I c k K) ⟨fun hlt => ?_, fun hge => ?_⟩
  · have hlt := of_decide_eq_true hlt
    have hkb : k < b.length := by omega
    have ha := el_dg h6 hI
    have hb := el_dg h7 hkb
    have ho := el_dg g2 (show I + k < p.length by omega)
    refine ⟨by omega, fun x1 e1 => ⟨by omega, by omega, fun x2 e2 => ⟨by omega, fun x3 e3 => ⟨by omega, fun x4 e4 x5 e5 x6 e6 x7 e7 => ?_⟩⟩⟩⟩
    have t1 : x1.toNat = I + k := by omega
    rw [t1] at e2
    have e2 : x2 = el p (I + k) := e2
    have e3 : x3 = el a I := e3
    have e4 : x4 = el b k := by rw [e4]; rfl
    have hm : 0 ≤ x3 * x4 ∧ x3 * x4 ≤ 65535 * 65535 := ⟨Int.mul_nonneg (by omega) (by omega), Int.le_trans (Int.mul_le_mul_of_nonneg_right (show x3 ≤ 65535 by omega) (by omega)) (Int.mul_le_mul_of_nonneg_left (show x4 ≤ 65535 by omega) (by omega))⟩
    have e7' : x7 = x2 + x3 * x4 + c := by omega
    refine ⟨by omega, fun x8 e8 => ⟨by omega, fun x9 e9 => ⟨by omega, by omega, by omega, fun x10 e10 => ⟨by omega, fun x11 e11 => ?_⟩⟩⟩⟩
    have t8 : x8.toNat = I + k := by omega
    rw [t8, show x11 = ((k + 1 : Nat) : Int) by omega]
    refine hn (p.set (I + k) [x9], x10, k + 1) ⟨by rw [List.length_set]; exact g1, dg_set g2 (by omega) (by omega), ⟨by dsimp only; omega, by dsimp only; omega⟩, fun j hj hjl => ?_, by dsimp only; omega, ?_⟩ (by dsimp only; omega)
    · rw [List.length_set] at hjl
      rw [el_set _ _ _ _ (by omega), if_neg (by omega)]
      exact g4 j hj hjl
    · dsimp only
      have hs := dv_set p (I + k) x9 (by omega)
      rw [dv_take_succ hkb]
      have hpow : (65536 : Nat) ^ (I + (k + 1)) = 65536 ^ (I + k) * 65536 := by rw [← Nat.add_assoc, Nat.pow_succ]
      have hst := mul_step (do1 := dv p) (do2 := dv o) (do3 := dv (p.set (I + k) [x9])) (A := (el a I).toNat * 65536 ^ I) (B := (el a I).toNat) (k1 := dv (b.take k)) (bk := (el b k).toNat) (P := 65536 ^ (I + k)) (x2 := (el p (I + k)).toNat) (x9 := x9.toNat) (x10 := x10.toNat) (t := x7.toNat) (c := c.toNat)
        g6 (by
          have : x7 = ((el p (I + k)).toNat + (el a I).toNat * (el b k).toNat + c.toNat : Nat) := by
            rw [e7', e2, e3, e4]
            have q1 : ((el p (I + k)).toNat : Int) = el p (I + k) := by omega
            have q2 : ((el a I).toNat : Int) = el a I := by omega
            have q3 : ((el b k).toNat : Int) = el b k := by omega
            have q4 : (c.toNat : Int) = c := by omega
            rw [Int.natCast_add, Int.natCast_add, Int.natCast_mul, q1, q2, q3, q4]
          omega) (by omega) hs (by simp) (by simp)
      rw [hpow, hst]
      have : (65536 : Nat) ^ (I + k) = 65536 ^ I * 65536 ^ k := Nat.pow_add _ _ _
      rw [this]
      grind
  · have hge := of_decide_eq_false hge
    have hk : k = b.length := by omega
    subst hk
    rw [List.take_length] at g6
    exact he _ _ (hq (p, c) ⟨g1, g2, g3, g3', g4, g6⟩)
set_option maxRecDepth 100000 in
theorem loopMulO : ∀ v Q, (LMulO v).wp Q → hloop CMulL anMulO (nthLoop Try.f68 0) v Q := by
  intro v Q h
  unfold LMulO at h
  split at h
  case h_2 => exact h.elim
  rename_i a b n i o
  obtain ⟨⟨h1, h2, ⟨h6, h7, h8, h9, h10, h11⟩, h12⟩, hq⟩ := h
  subst h1 h2
  have hz : dv o = 0 := by
    have : o = List.replicate o.length [0] := by
      apply List.ext_getElem?
      intro j
      by_cases hj : j < o.length
      · have e := (el_dg h8 hj).2.2
        rw [h12 j (Nat.zero_le _) hj] at e
        simp [hj, List.getD_eq_getElem?_getD] at e ⊢
        exact e
      · rw [List.getElem?_eq_none (by omega), List.getElem?_eq_none (by simp; omega)]
    rw [this, dv_repl]
  refine hloop_rec (σ := List (List Int) × Nat) (fun s => ([.ce (.sl false [8] a), .ce (.sl false [8] b), .ce (.msl 1000015 o.length), .ce (.int .i64 (s.2 : Int))], [[.arr [8] s.1]]))
    (fun s => a.length - s.2)
    (fun s => s.1.length = o.length ∧ dg s.1 ∧ s.2 ≤ a.length ∧ zer s.1 (s.2 + b.length) ∧ dv s.1 = dv (a.take s.2) * dv b) ?_ (o, 0) ⟨rfl, h8, Nat.zero_le _, fun j _ hj => h12 j (Nat.zero_le _) hj, by simp [dv, hz]⟩
  rintro ⟨p, i⟩ ⟨g1, g2, g3, g4, g5⟩ K hn he _
  dsimp only at g1 g2 g3 g4 g5 hn
  refine byVB (vbMulO a b p o.length i K) ⟨fun hlt => ?_, fun hge => ?_⟩
  · have hlt := of_decide_eq_true hlt
    have hia : i < a.length := by omega
    refine ⟨⟨rfl, rfl, by omega, by omega, g1.symm, ⟨h6, h7, g2, h9, h10, by omega⟩, fun j hj hjl => g4 j (by simpa using hj) hjl⟩, fun x hx => ?_⟩
    obtain ⟨q1, q2, q3, q4, q5, q6⟩ := hx
    simp only [Int.toNat_natCast] at q5 q6
    refine ⟨by omega, fun x4 e4 => ⟨by omega, fun x5 e5 => ⟨by omega, by omega, fun x6 e6 x7 e7 => ⟨by omega, by omega, by omega, fun x8 e8 => ?_⟩⟩⟩⟩
    have t4 : x4.toNat = i + b.length := by omega
    have t5 : x5.toNat = i + b.length := by omega
    rw [t5] at e6
    have e6 : x6 = el x.1 (i + b.length) := e6
    have z6 := q5 (i + b.length) (Nat.le_refl _) (by omega)
    have e7 : x7 = x.2 := by omega
    rw [t4, show x8 = ((i + 1 : Nat) : Int) by omega, e7]
    refine hn (x.1.set (i + b.length) [x.2], i + 1) ⟨by rw [List.length_set]; omega, dg_set q2 q3 q4, by dsimp only; omega, fun j hj hjl => ?_, ?_⟩ (by dsimp only; omega)
    · rw [List.length_set] at hjl
      dsimp only at hj
      rw [el_set _ _ _ _ (by omega), if_neg (by omega)]
      exact q5 j (by omega) hjl
    · dsimp only
      have hs := dv_set x.1 (i + b.length) x.2 (by omega)
      rw [z6] at hs
      rw [dv_take_succ hia]
      have e0 : (0 : Int).toNat * 65536 ^ (i + b.length) = 0 := by simp
      rw [e0, Nat.add_zero, q6, g5] at hs
      rw [hs]
      grind
  · have hge := of_decide_eq_false hge
    have hk : i = a.length := by omega
    subst hk
    rw [List.take_length] at g5
    exact he _ _ (hq p ⟨g1, g2, g5⟩)
set_option maxHeartbeats 400000 in
set_option maxRecDepth 100000 in
theorem sMulL : Sound Try.prog 68 SMulL := by
  refine sound_of (C := CMulL) tabMulL Try.func68 (by kernel_rfl) (by decide +kernel) (by kernel_rfl) rfl ⟨sCut, trivial⟩ (loops2 (by kernel_rfl) (loopOK_of (an := anMulO) (S := LMulO) (by kernel_rfl) loopMulO) (loopOK_of (an := anMulI) (S := LMulI) (by kernel_rfl) loopMulI)) ?_
  intro hargs pars R h
  unfold SMulL at h
  split at h
  case h_2 => exfalso; exact h
  rename_i a b
  have hq := h.2
  have h := h.1
  have h1 := h.1
  have h2 := h.2.1
  have h3 := h.2.2.1
  have h4 := h.2.2.2
  refine byVC (vcMulL a b R) ⟨by omega, fun x1 e1 => ⟨by omega, ?_⟩⟩
  have t1 : x1.toNat = a.length + b.length := by omega
  refine ⟨⟨rfl, by rw [List.length_replicate], ⟨h1, h2, dg_repl _, h3, h4, by rw [List.length_replicate]; exact t1⟩, fun j _ _ => el_repl _ _⟩, fun x hx => ?_⟩
  obtain ⟨q1, q2, q3⟩ := hx
  rw [List.length_replicate] at q1
  exact ⟨q1.symm, ⟨q2, by omega⟩, fun x4 e4 => by rw [e4, q3]; exact hq⟩
set_option maxRecDepth 100000 in
theorem loopAddL : ∀ v Q, (LAddL v).wp Q → hloop CAddL anAddL (nthLoop Try.f69 0) v Q := by
  intro v Q h
  unfold LAddL at h
  split at h
  case h_2 => exact h.elim
  rename_i a b o c i
  obtain ⟨⟨h1, h2, h3, h4, h5, h6, h7⟩, hq⟩ := h
  subst h2 h3
  obtain rfl : o = [] := List.eq_nil_of_length_eq_zero h1
  refine hloop_rec (σ := List (List Int) × Int × Nat) (fun s => ([.ce (.sl false [8] a), .ce (.sl false [8] b), .ce (.sl false [8] s.1), .ce (.lit true), .ce (.int .u64 s.2.1), .ce (.int .i64 (s.2.2 : Int))], []))
    (fun s => max a.length b.length + 1 - s.2.2)
    (fun s => s.1.length = s.2.2 ∧ dg s.1 ∧ (0 ≤ s.2.1 ∧ s.2.1 ≤ 1) ∧ s.2.2 ≤ max a.length b.length + 1 ∧ (s.2.2 = max a.length b.length + 1 → s.2.1 = 0) ∧ dv s.1 + s.2.1.toNat * 65536 ^ s.2.2 = dv (a.take s.2.2) + dv (b.take s.2.2)) ?_ ([], 0, 0) ⟨rfl, (fun r hr => by cases hr), ⟨by dsimp only; omega, by dsimp only; omega⟩, Nat.zero_le _, (fun e => by dsimp only at e; omega), by simp [dv]⟩
  rintro ⟨p, c, i⟩ ⟨g1, g2, ⟨g3, g3'⟩, g4, g5, g6⟩ K hn he _
  dsimp only at g1 g2 g3 g3' g4 g5 g6 hn
  -- the number that is added in a round
  have tk : ∀ (l : List (List Int)), dg l → dv (l.take (i + 1)) = dv (l.take i) + 65536 ^ i * (if i < l.length then (el l i).toNat else 0) := by
    intro l hl
    by_cases hi : i < l.length
    · rw [if_pos hi, dv_take_succ hi]
    · rw [if_neg hi, List.take_of_length_le (by omega), List.take_of_length_le (by omega)]
      simp
  have ea : ∀ (l : List (List Int)), dg l → (if i < l.length then (el l i).toNat else 0) < 65536 := by
    intro l hl
    split
    · rename_i hi; have := el_dg hl hi; omega
    · omega
  have fin : ∀ v : Int, v = c + ((if i < a.length then (el a i).toNat else 0 : Nat) : Int) + ((if i < b.length then (el b i).toNat else 0 : Nat) : Int) → (i < a.length ∨ i < b.length ∨ 0 < c) →
      (0 ≤ v ∧ v ≤ 18446744073709551615 ∧ (65535 : Int) ≤ 18446744073709551615) ∧ ∀ x5 : Int, x5 = v % 65536 → ((p.length + 1) * 8 ≤ 140737488355328 ∧ p.length + 1 ≤ maxLen) ∧ (0 : Int) ≤ 16 ∧ ∀ x6 : Int, x6 = v / 65536 → (-9223372036854775808 ≤ (i : Int) + 1 ∧ (i : Int) + 1 ≤ 9223372036854775807) ∧
        ∀ x7 : Int, x7 = (i : Int) + 1 → K .normal ([.ce (.sl false [8] a), .ce (.sl false [8] b), .ce (.sl false [8] (p ++ [[x5]])), .ce (.lit true), .ce (.int .u64 x6), .ce (.int .i64 x7)], []) := by
    intro v hv hc
    have b1 := ea a h4
    have b2 := ea b h5
    have t1 := tk a h4
    have t2 := tk b h5
    have hA : ¬ i < a.length → (if i < a.length then (el a i).toNat else 0) = 0 := fun h => if_neg h
    have hB : ¬ i < b.length → (if i < b.length then (el b i).toNat else 0) = 0 := fun h => if_neg h
    generalize (if i < a.length then (el a i).toNat else 0) = A at *
    generalize (if i < b.length then (el b i).toNat else 0) = B at *
    refine ⟨by omega, fun x5 e5 => ⟨⟨by omega, by unfold maxLen; omega⟩, by omega, fun x6 e6 => ⟨by omega, fun x7 e7 => ?_⟩⟩⟩
    rw [show x7 = ((i + 1 : Nat) : Int) by omega]
    refine hn (p ++ [[x5]], x6, i + 1) ⟨by simp [g1], dg_append g2 (dg_one (by omega) (by omega)), ⟨by dsimp only; omega, by dsimp only; omega⟩, by dsimp only; omega, fun e => ?_, ?_⟩ (by dsimp only; omega)
    · dsimp only at e ⊢
      have := hA (by omega)
      have := hB (by omega)
      omega
    · dsimp only
      rw [dv_append, t1, t2, g1]
      have e1 : dv [[x5]] = x5.toNat := by show (([x5] : List Int).getD 0 0).toNat + 65536 * 0 = _; rfl
      rw [e1, Nat.pow_succ]
      have e2 : v.toNat = c.toNat + A + B := by omega
      have e3 : v.toNat = 65536 * x6.toNat + x5.toNat := by omega
      have e4 : 65536 ^ i * x5.toNat + x6.toNat * (65536 ^ i * 65536) = 65536 ^ i * v.toNat := by rw [e3]; grind
      have e5 : 65536 ^ i * v.toNat = c.toNat * 65536 ^ i + 65536 ^ i * A + 65536 ^ i * B := by rw [e2]; grind
      omega
  have la : i < a.length → 0 ≤ el a i ∧ el a i < 65536 := fun h => ⟨(el_dg h4 h).1, (el_dg h4 h).2.1⟩
  have lb : i < b.length → 0 ≤ el b i ∧ el b i < 65536 := fun h => ⟨(el_dg h5 h).1, (el_dg h5 h).2.1⟩
  have fa : i < a.length → (if i < a.length then (el a i).toNat else 0) = (el a i).toNat := fun h => if_pos h
  have fb : i < b.length → (if i < b.length then (el b i).toNat else 0) = (el b i).toNat := fun h => if_pos h
  have na : ¬ i < a.length → (if i < a.length then (el a i).toNat else 0) = 0 := fun h => if_neg h
  have nb : ¬ i < b.length → (if i < b.length then (el b i).toNat else 0) = 0 := fun h => if_neg h
  generalize (if i < a.length then (el a i).toNat else 0) = A at *
  generalize (if i < b.length then (el b i).toNat else 0) = B at *
  refine byVB (vbAddL a b p c i K) ⟨fun p1 => ?_, fun p1 => ⟨fun p2 => ?_, fun p2 => ⟨fun p3 => ?_, fun p3 => ?_⟩⟩⟩
  case refine_4 =>
    have p1 := of_decide_eq_false p1
    have p2 := of_decide_eq_false p2
    have p3 := of_decide_eq_false p3
    obtain rfl : c = 0 := by omega
    rw [List.take_of_length_le (by omega), List.take_of_length_le (by omega)] at g6
    exact he _ _ (hq p ⟨g2, by omega, by simpa using g6⟩)
  all_goals
    have hc : i < a.length ∨ i < b.length ∨ 0 < c := by
      first
        | exact .inl (by have := of_decide_eq_true p1; omega)
        | exact .inr (.inl (by have := of_decide_eq_true p2; omega))
        | exact .inr (.inr (by have := of_decide_eq_true p3; omega))
    refine ⟨fun p4 => ⟨?_, fun x1 e1 x2 e2 => ⟨fun p5 => ⟨?_, fun x3 e3 x4 e4 => fin x4 ?_ hc⟩, fun p5 => fin x2 ?_ hc⟩⟩, fun p4 => ⟨fun p5 => ⟨?_, fun x3 e3 x4 e4 => fin x4 ?_ hc⟩, fun p5 => fin c ?_ hc⟩⟩
    · have := of_decide_eq_true p4; omega
    · have := of_decide_eq_true p5; omega
    · have p4 := of_decide_eq_true p4
      have p5 := of_decide_eq_true p5
      have e1 : x1 = el a i := by rw [e1]; rfl
      have e3 : x3 = el b i := by rw [e3]; rfl
      have := la (by omega)
      have := lb (by omega)
      have := fa (by omega)
      have := fb (by omega)
      omega
    · have p4 := of_decide_eq_true p4
      have p5 := of_decide_eq_false p5
      have e1 : x1 = el a i := by rw [e1]; rfl
      have := la (by omega)
      have := fa (by omega)
      have := nb (by omega)
      omega
    · have := of_decide_eq_true p5; omega
    · have p4 := of_decide_eq_false p4
      have p5 := of_decide_eq_true p5
      have e3 : x3 = el b i := by rw [e3]; rfl
      have := lb (by omega)
      have := fb (by omega)
      have := na (by omega)
      omega
    · have p4 := of_decide_eq_false p4
      have p5 := of_decide_eq_false p5
      have := na (by omega)
      have := nb (by omega)
      omega
set_option maxHeartbeats 400000 in
set_option maxRecDepth 100000 in
theorem sAddL : Sound Try.prog 69 SAddL := by
  refine sound_of (C := CAddL) tabMulL Try.func69 (by kernel_rfl) (by decide +kernel) (by kernel_rfl) rfl ⟨sCut, trivial⟩ (loops1 (by kernel_rfl) (loopOK_of (an := anAddL) (S := LAddL) (by kernel_rfl) loopAddL)) ?_
  intro hargs pars R h
  unfold SAddL at h
  split at h
  case h_2 => exfalso; exact h
  rename_i a b
  have hq := h.2
  have h := h.1
  refine byVC (vcAddL a b R) ⟨⟨rfl, rfl, rfl, h⟩, fun x hx => ⟨⟨hx.1, by omega⟩, fun x2 e2 => ?_⟩⟩
  rw [e2, hx.2.2]
  exact hq
end Go.Proofs.Ytcfgklmpfkmdkaa
