/-
  Package cncref01: MulDiv.
  Conditions: none.
-/
import Derived.Test.YtcfgklmpfkmdkaaVb
namespace U
open Go
def more (neg exact : Bool) (half m : Int) : Bool := if m = 0 then neg && !exact else if m = 1 then !neg && !exact else (neg && decide (half > 0)) || (!neg && decide (half ≥ 0))
def rnd (neg : Bool) (q : Int) (exact : Bool) (half m : Int) : Int × Bool :=
  if q > 9223372036854775808 then (0, false) else
  let v := if more neg exact half m then q + 1 else q
  if neg then (if v > 9223372036854775808 then (0, false) else (-v, true)) else (if v > 9223372036854775807 then (0, false) else (v, true))
def qsat (x d : Nat) : Nat := min (x / d) 18446744073709551615
def rmd (a b c m : Int) : Int × Bool :=
  if c = 0 ∨ ¬ (0 ≤ m ∧ m ≤ 2) then (0, false) else
  let x := a.natAbs * b.natAbs
  let d := c.natAbs
  let q := qsat x d
  rnd (decide (a.sign * b.sign < 0) != decide (c < 0)) q (cmp3 x (q * d) == 0) (cmp3 (x + x) (q * d + q * d + d)) m
end U
namespace Go.Proofs.Ytcfgklmpfkmdkaa
open Go Go.HL U
def SProd (hargs : List HV) (pars : List (List HC)) : SR :=
  match hargs, pars with
  | [.ce (.int .i64 a), .ce (.int .i64 b)], [] => .det ((-9223372036854775808 ≤ a ∧ a ≤ 9223372036854775807) ∧ (-9223372036854775808 ≤ b ∧ b ≤ 9223372036854775807)) ⟨.ce (.sl false [8] (lim (a.natAbs * b.natAbs))), false, [], []⟩
  | _, _ => .fail
def tabProd : List (FuncId × HL.Spec) := [(66, SMag), (65, SLimbs), (68, SMulL)]
noncomputable def CProd : Ctx := ⟨Try.prog, gam tabProd, Try.f64.ntmps, [], []⟩
theorem vcProd (a b : Int) (Q : Res → Prop) : (nfun true CProd Try.f64 (bodyOf Try.f64) [.ce (.int .i64 a), .ce (.int .i64 b)] [] Q) =
    (((-9223372036854775808 : Int) ≤ a ∧ a ≤ (9223372036854775807 : Int)) ∧ ∀ (x1 : Int), x1 = (((Int.natAbs a) : Nat) : Int) → ((0 : Int) ≤ x1 ∧ x1 < (18446744073709551616 : Int)) ∧ ∀ (x2 : List (List Int)), x2 = lim (Int.toNat x1) → ((-9223372036854775808 : Int) ≤ b ∧ b ≤ (9223372036854775807 : Int)) ∧ ∀ (x3 : Int), x3 = (((Int.natAbs b) : Nat) : Int) → ((0 : Int) ≤ x3 ∧ x3 < (18446744073709551616 : Int)) ∧ ∀ (x4 : List (List Int)), x4 = lim (Int.toNat x3) → (dg x2 ∧ dg x4 ∧ List.length x2 ≤ (100 : Nat) ∧ List.length x4 ≤ (100 : Nat)) ∧ ∀ (x5 : List (List Int)), x5 = lim (dv x2 * dv x4) → Q { val := HV.ce (HC.sl false [(8 : Nat)] x5), own := false, pars := [], news := [] }) := by kernel_rfl
def SRounded (hargs : List HV) (pars : List (List HC)) : SR :=
  match hargs, pars with
  | [.ce (.bool neg), .ce (.int .u64 q), .ce (.bool e), .ce (.int .i64 h), .ce (.int .i64 m)], [] => .det (0 ≤ q ∧ q < 18446744073709551616) ⟨.tup [.ce (.int .i64 (rnd neg q e h m).1), .ce (.bool (rnd neg q e h m).2)], false, [], []⟩
  | _, _ => .fail
noncomputable def CRounded : Ctx := ⟨Try.prog, gam [], Try.f70.ntmps, [], []⟩
theorem vcRounded (neg e : Bool) (q h m : Int) (Q : Res → Prop) : (nfun true CRounded Try.f70 (bodyOf Try.f70) [.ce (.bool neg), .ce (.int .u64 q), .ce (.bool e), .ce (.int .i64 h), .ce (.int .i64 m)] [] Q) =
    (((m == (0 : Int)) = true → (neg = true → (decide (q > (9223372036854775808 : Int)) = true → Q { val := HV.tup [H0.ce (HC.int IntKind.i64 (0 : Int)), H0.ce (HC.bool false)], own := false, pars := [], news := [] }) ∧ (decide (q > (9223372036854775808 : Int)) = false → ((!e) = true → ∀ (x1 : Int), x1 = (q + (1 : Int)) % (18446744073709551616 : Int) → (neg = true → (decide (x1 > (9223372036854775808 : Int)) = true → Q { val := HV.tup [H0.ce (HC.int IntKind.i64 (0 : Int)), H0.ce (HC.bool false)], own := false, pars := [], news := [] }) ∧ (decide (x1 > (9223372036854775808 : Int)) = false → ((x1 == (0 : Int)) = true → Q { val := HV.tup [H0.ce (HC.int IntKind.i64 (0 : Int)), H0.ce (HC.bool true)], own := false, pars := [], news := [] }) ∧ ((x1 == (0 : Int)) = false → ∀ (x2 : Int), x2 = (x1 - (1 : Int)) % (18446744073709551616 : Int) → ((-9223372036854775808 : Int) ≤ x2 ∧ x2 ≤ (9223372036854775807 : Int)) ∧
    ∀ (x3 : Int), x3 = x2 → ((-9223372036854775808 : Int) ≤ (0 : Int) - x3 ∧ (0 : Int) - x3 ≤ (9223372036854775807 : Int)) ∧ ∀ (x4 : Int), x4 = (0 : Int) - x3 → ((-9223372036854775808 : Int) ≤ x4 - (1 : Int) ∧ x4 - (1 : Int) ≤ (9223372036854775807 : Int)) ∧ ∀ (x5 : Int), x5 = x4 - (1 : Int) → Q { val := HV.tup [H0.ce (HC.int IntKind.i64 x5), H0.ce (HC.bool true)], own := false, pars := [], news := [] }))) ∧ (neg = false → (decide (x1 > (9223372036854775807 : Int)) = true → Q { val := HV.tup [H0.ce (HC.int IntKind.i64 (0 : Int)), H0.ce (HC.bool false)], own := false, pars := [], news := [] }) ∧ (decide (x1 > (9223372036854775807 : Int)) = false → ((-9223372036854775808 : Int) ≤ x1 ∧ x1 ≤ (9223372036854775807 : Int)) ∧ ∀ (x6 : Int), x6 = x1 → Q { val := HV.tup [H0.ce (HC.int IntKind.i64 x6), H0.ce (HC.bool true)], own := false, pars := [], news := [] }))) ∧ ((!e) = false → (neg = true → (decide (q > (9223372036854775808 : Int)) = true →
    Q { val := HV.tup [H0.ce (HC.int IntKind.i64 (0 : Int)), H0.ce (HC.bool false)], own := false, pars := [], news := [] }) ∧ (decide (q > (9223372036854775808 : Int)) = false → ((q == (0 : Int)) = true → Q { val := HV.tup [H0.ce (HC.int IntKind.i64 (0 : Int)), H0.ce (HC.bool true)], own := false, pars := [], news := [] }) ∧ ((q == (0 : Int)) = false → ∀ (x7 : Int), x7 = (q - (1 : Int)) % (18446744073709551616 : Int) → ((-9223372036854775808 : Int) ≤ x7 ∧ x7 ≤ (9223372036854775807 : Int)) ∧ ∀ (x8 : Int), x8 = x7 → ((-9223372036854775808 : Int) ≤ (0 : Int) - x8 ∧ (0 : Int) - x8 ≤ (9223372036854775807 : Int)) ∧ ∀ (x9 : Int), x9 = (0 : Int) - x8 → ((-9223372036854775808 : Int) ≤ x9 - (1 : Int) ∧ x9 - (1 : Int) ≤ (9223372036854775807 : Int)) ∧ ∀ (x10 : Int), x10 = x9 - (1 : Int) → Q { val := HV.tup [H0.ce (HC.int IntKind.i64 x10), H0.ce (HC.bool true)], own := false, pars := [], news := [] }))) ∧
    (neg = false → (decide (q > (9223372036854775807 : Int)) = true → Q { val := HV.tup [H0.ce (HC.int IntKind.i64 (0 : Int)), H0.ce (HC.bool false)], own := false, pars := [], news := [] }) ∧ (decide (q > (9223372036854775807 : Int)) = false → ((-9223372036854775808 : Int) ≤ q ∧ q ≤ (9223372036854775807 : Int)) ∧ ∀ (x11 : Int), x11 = q → Q { val := HV.tup [H0.ce (HC.int IntKind.i64 x11), H0.ce (HC.bool true)], own := false, pars := [], news := [] }))))) ∧ (neg = false → (decide (q > (9223372036854775808 : Int)) = true → Q { val := HV.tup [H0.ce (HC.int IntKind.i64 (0 : Int)), H0.ce (HC.bool false)], own := false, pars := [], news := [] }) ∧ (decide (q > (9223372036854775808 : Int)) = false → (neg = true → (decide (q > (9223372036854775808 : Int)) = true → Q { val := HV.tup [H0.ce (HC.int IntKind.i64 (0 : Int)), H0.ce (HC.bool false)], own := false, pars := [], news := [] }) ∧ (decide (q > (9223372036854775808 : Int)) = false →
    ((q == (0 : Int)) = true → Q { val := HV.tup [H0.ce (HC.int IntKind.i64 (0 : Int)), H0.ce (HC.bool true)], own := false, pars := [], news := [] }) ∧ ((q == (0 : Int)) = false → ∀ (x12 : Int), x12 = (q - (1 : Int)) % (18446744073709551616 : Int) → ((-9223372036854775808 : Int) ≤ x12 ∧ x12 ≤ (9223372036854775807 : Int)) ∧ ∀ (x13 : Int), x13 = x12 → ((-9223372036854775808 : Int) ≤ (0 : Int) - x13 ∧ (0 : Int) - x13 ≤ (9223372036854775807 : Int)) ∧ ∀ (x14 : Int), x14 = (0 : Int) - x13 → ((-9223372036854775808 : Int) ≤ x14 - (1 : Int) ∧ x14 - (1 : Int) ≤ (9223372036854775807 : Int)) ∧ ∀ (x15 : Int), x15 = x14 - (1 : Int) → Q { val := HV.tup [H0.ce (HC.int IntKind.i64 x15), H0.ce (HC.bool true)], own := false, pars := [], news := [] }))) ∧ (neg = false → (decide (q > (9223372036854775807 : Int)) = true → Q { val := HV.tup [H0.ce (HC.int IntKind.i64 (0 : Int)), H0.ce (HC.bool false)], own := false, pars := [], news := [] }) ∧
    (decide (q > (9223372036854775807 : Int)) = false → ((-9223372036854775808 : Int) ≤ q ∧ q ≤ (9223372036854775807 : Int)) ∧ ∀ (x16 : Int), x16 = q → Q { val := HV.tup [H0.ce (HC.int IntKind.i64 x16), H0.ce (HC.bool true)], own := false, pars := [], news := [] }))))) ∧ ((m == (0 : Int)) = false → ((m == (1 : Int)) = true → ((!neg) = true → (decide (q > (9223372036854775808 : Int)) = true → Q { val := HV.tup [H0.ce (HC.int IntKind.i64 (0 : Int)), H0.ce (HC.bool false)], own := false, pars := [], news := [] }) ∧ (decide (q > (9223372036854775808 : Int)) = false → ((!e) = true → ∀ (x17 : Int), x17 = (q + (1 : Int)) % (18446744073709551616 : Int) → (neg = true → (decide (x17 > (9223372036854775808 : Int)) = true → Q { val := HV.tup [H0.ce (HC.int IntKind.i64 (0 : Int)), H0.ce (HC.bool false)], own := false, pars := [], news := [] }) ∧ (decide (x17 > (9223372036854775808 : Int)) = false → ((x17 == (0 : Int)) = true →
    Q { val := HV.tup [H0.ce (HC.int IntKind.i64 (0 : Int)), H0.ce (HC.bool true)], own := false, pars := [], news := [] }) ∧ ((x17 == (0 : Int)) = false → ∀ (x18 : Int), x18 = (x17 - (1 : Int)) % (18446744073709551616 : Int) → ((-9223372036854775808 : Int) ≤ x18 ∧ x18 ≤ (9223372036854775807 : Int)) ∧ ∀ (x19 : Int), x19 = x18 → ((-9223372036854775808 : Int) ≤ (0 : Int) - x19 ∧ (0 : Int) - x19 ≤ (9223372036854775807 : Int)) ∧ ∀ (x20 : Int), x20 = (0 : Int) - x19 → ((-9223372036854775808 : Int) ≤ x20 - (1 : Int) ∧ x20 - (1 : Int) ≤ (9223372036854775807 : Int)) ∧ ∀ (x21 : Int), x21 = x20 - (1 : Int) → Q { val := HV.tup [H0.ce (HC.int IntKind.i64 x21), H0.ce (HC.bool true)], own := false, pars := [], news := [] }))) ∧ (neg = false → (decide (x17 > (9223372036854775807 : Int)) = true → Q { val := HV.tup [H0.ce (HC.int IntKind.i64 (0 : Int)), H0.ce (HC.bool false)], own := false, pars := [], news := [] }) ∧
    (decide (x17 > (9223372036854775807 : Int)) = false → ((-9223372036854775808 : Int) ≤ x17 ∧ x17 ≤ (9223372036854775807 : Int)) ∧ ∀ (x22 : Int), x22 = x17 → Q { val := HV.tup [H0.ce (HC.int IntKind.i64 x22), H0.ce (HC.bool true)], own := false, pars := [], news := [] }))) ∧ ((!e) = false → (neg = true → (decide (q > (9223372036854775808 : Int)) = true → Q { val := HV.tup [H0.ce (HC.int IntKind.i64 (0 : Int)), H0.ce (HC.bool false)], own := false, pars := [], news := [] }) ∧ (decide (q > (9223372036854775808 : Int)) = false → ((q == (0 : Int)) = true → Q { val := HV.tup [H0.ce (HC.int IntKind.i64 (0 : Int)), H0.ce (HC.bool true)], own := false, pars := [], news := [] }) ∧ ((q == (0 : Int)) = false → ∀ (x23 : Int), x23 = (q - (1 : Int)) % (18446744073709551616 : Int) → ((-9223372036854775808 : Int) ≤ x23 ∧ x23 ≤ (9223372036854775807 : Int)) ∧ ∀ (x24 : Int), x24 = x23 → ((-9223372036854775808 : Int) ≤ (0 : Int) - x24 ∧
    (0 : Int) - x24 ≤ (9223372036854775807 : Int)) ∧ ∀ (x25 : Int), x25 = (0 : Int) - x24 → ((-9223372036854775808 : Int) ≤ x25 - (1 : Int) ∧ x25 - (1 : Int) ≤ (9223372036854775807 : Int)) ∧ ∀ (x26 : Int), x26 = x25 - (1 : Int) → Q { val := HV.tup [H0.ce (HC.int IntKind.i64 x26), H0.ce (HC.bool true)], own := false, pars := [], news := [] }))) ∧ (neg = false → (decide (q > (9223372036854775807 : Int)) = true → Q { val := HV.tup [H0.ce (HC.int IntKind.i64 (0 : Int)), H0.ce (HC.bool false)], own := false, pars := [], news := [] }) ∧ (decide (q > (9223372036854775807 : Int)) = false → ((-9223372036854775808 : Int) ≤ q ∧ q ≤ (9223372036854775807 : Int)) ∧ ∀ (x27 : Int), x27 = q → Q { val := HV.tup [H0.ce (HC.int IntKind.i64 x27), H0.ce (HC.bool true)], own := false, pars := [], news := [] }))))) ∧ ((!neg) = false → (decide (q > (9223372036854775808 : Int)) = true → Q { val := HV.tup [H0.ce (HC.int IntKind.i64 (0 : Int)), H0.ce (HC.bool false)], own := false, pars := [], news := [] }) ∧
    (decide (q > (9223372036854775808 : Int)) = false → (neg = true → (decide (q > (9223372036854775808 : Int)) = true → Q { val := HV.tup [H0.ce (HC.int IntKind.i64 (0 : Int)), H0.ce (HC.bool false)], own := false, pars := [], news := [] }) ∧ (decide (q > (9223372036854775808 : Int)) = false → ((q == (0 : Int)) = true → Q { val := HV.tup [H0.ce (HC.int IntKind.i64 (0 : Int)), H0.ce (HC.bool true)], own := false, pars := [], news := [] }) ∧ ((q == (0 : Int)) = false → ∀ (x28 : Int), x28 = (q - (1 : Int)) % (18446744073709551616 : Int) → ((-9223372036854775808 : Int) ≤ x28 ∧ x28 ≤ (9223372036854775807 : Int)) ∧ ∀ (x29 : Int), x29 = x28 → ((-9223372036854775808 : Int) ≤ (0 : Int) - x29 ∧ (0 : Int) - x29 ≤ (9223372036854775807 : Int)) ∧ ∀ (x30 : Int), x30 = (0 : Int) - x29 → ((-9223372036854775808 : Int) ≤ x30 - (1 : Int) ∧ x30 - (1 : Int) ≤ (9223372036854775807 : Int)) ∧ ∀ (x31 : Int), x31 = x30 - (1 : Int) →
    Q { val := HV.tup [H0.ce (HC.int IntKind.i64 x31), H0.ce (HC.bool true)], own := false, pars := [], news := [] }))) ∧ (neg = false → (decide (q > (9223372036854775807 : Int)) = true → Q { val := HV.tup [H0.ce (HC.int IntKind.i64 (0 : Int)), H0.ce (HC.bool false)], own := false, pars := [], news := [] }) ∧ (decide (q > (9223372036854775807 : Int)) = false → ((-9223372036854775808 : Int) ≤ q ∧ q ≤ (9223372036854775807 : Int)) ∧ ∀ (x32 : Int), x32 = q → Q { val := HV.tup [H0.ce (HC.int IntKind.i64 x32), H0.ce (HC.bool true)], own := false, pars := [], news := [] }))))) ∧ ((m == (1 : Int)) = false → (neg = true → (decide (h > (0 : Int)) = true → (decide (q > (9223372036854775808 : Int)) = true → Q { val := HV.tup [H0.ce (HC.int IntKind.i64 (0 : Int)), H0.ce (HC.bool false)], own := false, pars := [], news := [] }) ∧ (decide (q > (9223372036854775808 : Int)) = false → ∀ (x33 : Int), x33 = (q + (1 : Int)) % (18446744073709551616 : Int) →
    (neg = true → (decide (x33 > (9223372036854775808 : Int)) = true → Q { val := HV.tup [H0.ce (HC.int IntKind.i64 (0 : Int)), H0.ce (HC.bool false)], own := false, pars := [], news := [] }) ∧ (decide (x33 > (9223372036854775808 : Int)) = false → ((x33 == (0 : Int)) = true → Q { val := HV.tup [H0.ce (HC.int IntKind.i64 (0 : Int)), H0.ce (HC.bool true)], own := false, pars := [], news := [] }) ∧ ((x33 == (0 : Int)) = false → ∀ (x34 : Int), x34 = (x33 - (1 : Int)) % (18446744073709551616 : Int) → ((-9223372036854775808 : Int) ≤ x34 ∧ x34 ≤ (9223372036854775807 : Int)) ∧ ∀ (x35 : Int), x35 = x34 → ((-9223372036854775808 : Int) ≤ (0 : Int) - x35 ∧ (0 : Int) - x35 ≤ (9223372036854775807 : Int)) ∧ ∀ (x36 : Int), x36 = (0 : Int) - x35 → ((-9223372036854775808 : Int) ≤ x36 - (1 : Int) ∧ x36 - (1 : Int) ≤ (9223372036854775807 : Int)) ∧ ∀ (x37 : Int), x37 = x36 - (1 : Int) → Q { val := HV.tup [H0.ce (HC.int IntKind.i64 x37), H0.ce (HC.bool true)], own := false, pars := [], news := [] }))) ∧
    (neg = false → (decide (x33 > (9223372036854775807 : Int)) = true → Q { val := HV.tup [H0.ce (HC.int IntKind.i64 (0 : Int)), H0.ce (HC.bool false)], own := false, pars := [], news := [] }) ∧ (decide (x33 > (9223372036854775807 : Int)) = false → ((-9223372036854775808 : Int) ≤ x33 ∧ x33 ≤ (9223372036854775807 : Int)) ∧ ∀ (x38 : Int), x38 = x33 → Q { val := HV.tup [H0.ce (HC.int IntKind.i64 x38), H0.ce (HC.bool true)], own := false, pars := [], news := [] })))) ∧ (decide (h > (0 : Int)) = false → ((!neg) = true → (decide (q > (9223372036854775808 : Int)) = true → Q { val := HV.tup [H0.ce (HC.int IntKind.i64 (0 : Int)), H0.ce (HC.bool false)], own := false, pars := [], news := [] }) ∧ (decide (q > (9223372036854775808 : Int)) = false → (decide (h ≥ (0 : Int)) = true → ∀ (x39 : Int), x39 = (q + (1 : Int)) % (18446744073709551616 : Int) → (neg = true → (decide (x39 > (9223372036854775808 : Int)) = true →
    Q { val := HV.tup [H0.ce (HC.int IntKind.i64 (0 : Int)), H0.ce (HC.bool false)], own := false, pars := [], news := [] }) ∧ (decide (x39 > (9223372036854775808 : Int)) = false → ((x39 == (0 : Int)) = true → Q { val := HV.tup [H0.ce (HC.int IntKind.i64 (0 : Int)), H0.ce (HC.bool true)], own := false, pars := [], news := [] }) ∧ ((x39 == (0 : Int)) = false → ∀ (x40 : Int), x40 = (x39 - (1 : Int)) % (18446744073709551616 : Int) → ((-9223372036854775808 : Int) ≤ x40 ∧ x40 ≤ (9223372036854775807 : Int)) ∧ ∀ (x41 : Int), x41 = x40 → ((-9223372036854775808 : Int) ≤ (0 : Int) - x41 ∧ (0 : Int) - x41 ≤ (9223372036854775807 : Int)) ∧ ∀ (x42 : Int), x42 = (0 : Int) - x41 → ((-9223372036854775808 : Int) ≤ x42 - (1 : Int) ∧ x42 - (1 : Int) ≤ (9223372036854775807 : Int)) ∧ ∀ (x43 : Int), x43 = x42 - (1 : Int) → Q { val := HV.tup [H0.ce (HC.int IntKind.i64 x43), H0.ce (HC.bool true)], own := false, pars := [], news := [] }))) ∧
    (neg = false → (decide (x39 > (9223372036854775807 : Int)) = true → Q { val := HV.tup [H0.ce (HC.int IntKind.i64 (0 : Int)), H0.ce (HC.bool false)], own := false, pars := [], news := [] }) ∧ (decide (x39 > (9223372036854775807 : Int)) = false → ((-9223372036854775808 : Int) ≤ x39 ∧ x39 ≤ (9223372036854775807 : Int)) ∧ ∀ (x44 : Int), x44 = x39 → Q { val := HV.tup [H0.ce (HC.int IntKind.i64 x44), H0.ce (HC.bool true)], own := false, pars := [], news := [] }))) ∧ (decide (h ≥ (0 : Int)) = false → (neg = true → (decide (q > (9223372036854775808 : Int)) = true → Q { val := HV.tup [H0.ce (HC.int IntKind.i64 (0 : Int)), H0.ce (HC.bool false)], own := false, pars := [], news := [] }) ∧ (decide (q > (9223372036854775808 : Int)) = false → ((q == (0 : Int)) = true → Q { val := HV.tup [H0.ce (HC.int IntKind.i64 (0 : Int)), H0.ce (HC.bool true)], own := false, pars := [], news := [] }) ∧ ((q == (0 : Int)) = false →
    ∀ (x45 : Int), x45 = (q - (1 : Int)) % (18446744073709551616 : Int) → ((-9223372036854775808 : Int) ≤ x45 ∧ x45 ≤ (9223372036854775807 : Int)) ∧ ∀ (x46 : Int), x46 = x45 → ((-9223372036854775808 : Int) ≤ (0 : Int) - x46 ∧ (0 : Int) - x46 ≤ (9223372036854775807 : Int)) ∧ ∀ (x47 : Int), x47 = (0 : Int) - x46 → ((-9223372036854775808 : Int) ≤ x47 - (1 : Int) ∧ x47 - (1 : Int) ≤ (9223372036854775807 : Int)) ∧ ∀ (x48 : Int), x48 = x47 - (1 : Int) → Q { val := HV.tup [H0.ce (HC.int IntKind.i64 x48), H0.ce (HC.bool true)], own := false, pars := [], news := [] }))) ∧ (neg = false → (decide (q > (9223372036854775807 : Int)) = true → Q { val := HV.tup [H0.ce (HC.int IntKind.i64 (0 : Int)), H0.ce (HC.bool false)], own := false, pars := [], news := [] }) ∧ (decide (q > (9223372036854775807 : Int)) = false → ((-9223372036854775808 : Int) ≤ q ∧ q ≤ (9223372036854775807 : Int)) ∧ ∀ (x49 : Int), x49 = q →
    Q { val := HV.tup [H0.ce (HC.int IntKind.i64 x49), H0.ce (HC.bool true)], own := false, pars := [], news := [] }))))) ∧ ((!neg) = false → (decide (q > (9223372036854775808 : Int)) = true → Q { val := HV.tup [H0.ce (HC.int IntKind.i64 (0 : Int)), H0.ce (HC.bool false)], own := false, pars := [], news := [] }) ∧ (decide (q > (9223372036854775808 : Int)) = false → (neg = true → (decide (q > (9223372036854775808 : Int)) = true → Q { val := HV.tup [H0.ce (HC.int IntKind.i64 (0 : Int)), H0.ce (HC.bool false)], own := false, pars := [], news := [] }) ∧ (decide (q > (9223372036854775808 : Int)) = false → ((q == (0 : Int)) = true → Q { val := HV.tup [H0.ce (HC.int IntKind.i64 (0 : Int)), H0.ce (HC.bool true)], own := false, pars := [], news := [] }) ∧ ((q == (0 : Int)) = false → ∀ (x50 : Int), x50 = (q - (1 : Int)) % (18446744073709551616 : Int) → ((-9223372036854775808 : Int) ≤ x50 ∧ x50 ≤ (9223372036854775807 : Int)) ∧
    ∀ (x51 : Int), x51 = x50 → ((-9223372036854775808 : Int) ≤ (0 : Int) - x51 ∧ (0 : Int) - x51 ≤ (9223372036854775807 : Int)) ∧ ∀ (x52 : Int), x52 = (0 : Int) - x51 → ((-9223372036854775808 : Int) ≤ x52 - (1 : Int) ∧ x52 - (1 : Int) ≤ (9223372036854775807 : Int)) ∧ ∀ (x53 : Int), x53 = x52 - (1 : Int) → Q { val := HV.tup [H0.ce (HC.int IntKind.i64 x53), H0.ce (HC.bool true)], own := false, pars := [], news := [] }))) ∧ (neg = false → (decide (q > (9223372036854775807 : Int)) = true → Q { val := HV.tup [H0.ce (HC.int IntKind.i64 (0 : Int)), H0.ce (HC.bool false)], own := false, pars := [], news := [] }) ∧ (decide (q > (9223372036854775807 : Int)) = false → ((-9223372036854775808 : Int) ≤ q ∧ q ≤ (9223372036854775807 : Int)) ∧ ∀ (x54 : Int), x54 = q → Q { val := HV.tup [H0.ce (HC.int IntKind.i64 x54), H0.ce (HC.bool true)], own := false, pars := [], news := [] })))))) ∧ (neg = false → ((!neg) = true →
    (decide (q > (9223372036854775808 : Int)) = true → Q { val := HV.tup [H0.ce (HC.int IntKind.i64 (0 : Int)), H0.ce (HC.bool false)], own := false, pars := [], news := [] }) ∧ (decide (q > (9223372036854775808 : Int)) = false → (decide (h ≥ (0 : Int)) = true → ∀ (x55 : Int), x55 = (q + (1 : Int)) % (18446744073709551616 : Int) → (neg = true → (decide (x55 > (9223372036854775808 : Int)) = true → Q { val := HV.tup [H0.ce (HC.int IntKind.i64 (0 : Int)), H0.ce (HC.bool false)], own := false, pars := [], news := [] }) ∧ (decide (x55 > (9223372036854775808 : Int)) = false → ((x55 == (0 : Int)) = true → Q { val := HV.tup [H0.ce (HC.int IntKind.i64 (0 : Int)), H0.ce (HC.bool true)], own := false, pars := [], news := [] }) ∧ ((x55 == (0 : Int)) = false → ∀ (x56 : Int), x56 = (x55 - (1 : Int)) % (18446744073709551616 : Int) → ((-9223372036854775808 : Int) ≤ x56 ∧ x56 ≤ (9223372036854775807 : Int)) ∧ ∀ (x57 : Int), x57 = x56 →
    ((-9223372036854775808 : Int) ≤ (0 : Int) - x57 ∧ (0 : Int) - x57 ≤ (9223372036854775807 : Int)) ∧ ∀ (x58 : Int), x58 = (0 : Int) - x57 → ((-9223372036854775808 : Int) ≤ x58 - (1 : Int) ∧ x58 - (1 : Int) ≤ (9223372036854775807 : Int)) ∧ ∀ (x59 : Int), x59 = x58 - (1 : Int) → Q { val := HV.tup [H0.ce (HC.int IntKind.i64 x59), H0.ce (HC.bool true)], own := false, pars := [], news := [] }))) ∧ (neg = false → (decide (x55 > (9223372036854775807 : Int)) = true → Q { val := HV.tup [H0.ce (HC.int IntKind.i64 (0 : Int)), H0.ce (HC.bool false)], own := false, pars := [], news := [] }) ∧ (decide (x55 > (9223372036854775807 : Int)) = false → ((-9223372036854775808 : Int) ≤ x55 ∧ x55 ≤ (9223372036854775807 : Int)) ∧ ∀ (x60 : Int), x60 = x55 → Q { val := HV.tup [H0.ce (HC.int IntKind.i64 x60), H0.ce (HC.bool true)], own := false, pars := [], news := [] }))) ∧ (decide (h ≥ (0 : Int)) = false → (neg = true →
    (decide (q > (9223372036854775808 : Int)) = true → Q { val := HV.tup [H0.ce (HC.int IntKind.i64 (0 : Int)), H0.ce (HC.bool false)], own := false, pars := [], news := [] }) ∧ (decide (q > (9223372036854775808 : Int)) = false → ((q == (0 : Int)) = true → Q { val := HV.tup [H0.ce (HC.int IntKind.i64 (0 : Int)), H0.ce (HC.bool true)], own := false, pars := [], news := [] }) ∧ ((q == (0 : Int)) = false → ∀ (x61 : Int), x61 = (q - (1 : Int)) % (18446744073709551616 : Int) → ((-9223372036854775808 : Int) ≤ x61 ∧ x61 ≤ (9223372036854775807 : Int)) ∧ ∀ (x62 : Int), x62 = x61 → ((-9223372036854775808 : Int) ≤ (0 : Int) - x62 ∧ (0 : Int) - x62 ≤ (9223372036854775807 : Int)) ∧ ∀ (x63 : Int), x63 = (0 : Int) - x62 → ((-9223372036854775808 : Int) ≤ x63 - (1 : Int) ∧ x63 - (1 : Int) ≤ (9223372036854775807 : Int)) ∧ ∀ (x64 : Int), x64 = x63 - (1 : Int) → Q { val := HV.tup [H0.ce (HC.int IntKind.i64 x64), H0.ce (HC.bool true)], own := false, pars := [], news := [] }))) ∧
    (neg = false → (decide (q > (9223372036854775807 : Int)) = true → Q { val := HV.tup [H0.ce (HC.int IntKind.i64 (0 : Int)), H0.ce (HC.bool false)], own := false, pars := [], news := [] }) ∧ (decide (q > (9223372036854775807 : Int)) = false → ((-9223372036854775808 : Int) ≤ q ∧ q ≤ (9223372036854775807 : Int)) ∧ ∀ (x65 : Int), x65 = q → Q { val := HV.tup [H0.ce (HC.int IntKind.i64 x65), H0.ce (HC.bool true)], own := false, pars := [], news := [] }))))) ∧ ((!neg) = false → (decide (q > (9223372036854775808 : Int)) = true → Q { val := HV.tup [H0.ce (HC.int IntKind.i64 (0 : Int)), H0.ce (HC.bool false)], own := false, pars := [], news := [] }) ∧ (decide (q > (9223372036854775808 : Int)) = false → (neg = true → (decide (q > (9223372036854775808 : Int)) = true → Q { val := HV.tup [H0.ce (HC.int IntKind.i64 (0 : Int)), H0.ce (HC.bool false)], own := false, pars := [], news := [] }) ∧ (decide (q > (9223372036854775808 : Int)) = false →
    ((q == (0 : Int)) = true → Q { val := HV.tup [H0.ce (HC.int IntKind.i64 (0 : Int)), H0.ce (HC.bool true)], own := false, pars := [], news := [] }) ∧ ((q == (0 : Int)) = false → ∀ (x66 : Int), x66 = (q - (1 : Int)) % (18446744073709551616 : Int) → ((-9223372036854775808 : Int) ≤ x66 ∧ x66 ≤ (9223372036854775807 : Int)) ∧ ∀ (x67 : Int), x67 = x66 → ((-9223372036854775808 : Int) ≤ (0 : Int) - x67 ∧ (0 : Int) - x67 ≤ (9223372036854775807 : Int)) ∧ ∀ (x68 : Int), x68 = (0 : Int) - x67 → ((-9223372036854775808 : Int) ≤ x68 - (1 : Int) ∧ x68 - (1 : Int) ≤ (9223372036854775807 : Int)) ∧ ∀ (x69 : Int), x69 = x68 - (1 : Int) → Q { val := HV.tup [H0.ce (HC.int IntKind.i64 x69), H0.ce (HC.bool true)], own := false, pars := [], news := [] }))) ∧ (neg = false → (decide (q > (9223372036854775807 : Int)) = true → Q { val := HV.tup [H0.ce (HC.int IntKind.i64 (0 : Int)), H0.ce (HC.bool false)], own := false, pars := [], news := [] }) ∧
    (decide (q > (9223372036854775807 : Int)) = false → ((-9223372036854775808 : Int) ≤ q ∧ q ≤ (9223372036854775807 : Int)) ∧ ∀ (x70 : Int), x70 = q → Q { val := HV.tup [H0.ce (HC.int IntKind.i64 x70), H0.ce (HC.bool true)], own := false, pars := [], news := [] })))))))) := by kernel_rfl
def SRMulDiv (hargs : List HV) (pars : List (List HC)) : SR :=
  match hargs, pars with
  | [.ce (.int .i64 a), .ce (.int .i64 b), .ce (.int .i64 c), .ce (.int .i64 m)], [] =>
    .det ((-9223372036854775808 ≤ a ∧ a ≤ 9223372036854775807) ∧ (-9223372036854775808 ≤ b ∧ b ≤ 9223372036854775807) ∧ (-9223372036854775808 ≤ c ∧ c ≤ 9223372036854775807))
      ⟨.tup [.ce (.int .i64 (rmd a b c m).1), .ce (.bool (rmd a b c m).2)], false, [], []⟩
  | _, _ => .fail
def anRMD : LAnn := ⟨[0, 1, 2, 3, 10, 11, 12, 13], [0, 1, 2, 3, 10, 11, 12], [], false⟩
def LRMD (v : LV) : LR :=
  match v with
  | ([.ce (.int .i64 a), .ce (.int .i64 b), .ce (.int .i64 c), .ce (.int .i64 m), .ce (.sl false [8] xs), .ce (.sl false [8] ds), .ce (.int .u64 q), .ce (.int .i64 i)], []) =>
    .det (q = 0 ∧ i = 63 ∧ xs = lim (dv xs) ∧ ds = lim (dv ds) ∧ xs.length ≤ 8 ∧ ds.length ≤ 4 ∧ 0 < dv ds) (.exit 0)
      ([.ce (.int .i64 a), .ce (.int .i64 b), .ce (.int .i64 c), .ce (.int .i64 m), .ce (.sl false [8] xs), .ce (.sl false [8] ds), .ce (.int .u64 ((qsat (dv xs) (dv ds) : Nat) : Int))], [])
  | _ => .fail
def tabRMD : List (FuncId × HL.Spec) := [(63, SRight), (64, SProd), (66, SMag), (65, SLimbs), (68, SMulL), (69, SAddL), (67, SCmp), (71, SSgn), (70, SRounded)]
noncomputable def CRMD : Ctx := ⟨Try.prog, gam tabRMD, Try.f43.ntmps, [(7, anRMD, LRMD)], []⟩
theorem vcRMD (a b c m : Int) (Q : Res → Prop) : (nfun true CRMD Try.f43 (bodyOf Try.f43) [.ce (.int .i64 a), .ce (.int .i64 b), .ce (.int .i64 c), .ce (.int .i64 m)] [] Q) =
    (((c == (0 : Int)) = true → Q { val := HV.tup [H0.ce (HC.int IntKind.i64 (0 : Int)), H0.ce (HC.bool false)], own := false, pars := [], news := [] }) ∧ ((c == (0 : Int)) = false → True ∧ ∀ (x1 : Bool), x1 = decide ((0 : Int) ≤ m ∧ m ≤ (2 : Int)) → ((!x1) = true → Q { val := HV.tup [H0.ce (HC.int IntKind.i64 (0 : Int)), H0.ce (HC.bool false)], own := false, pars := [], news := [] }) ∧ ((!x1) = false → (((-9223372036854775808 : Int) ≤ a ∧ a ≤ (9223372036854775807 : Int)) ∧ (-9223372036854775808 : Int) ≤ b ∧ b ≤ (9223372036854775807 : Int)) ∧ ∀ (x2 : List (List Int)), x2 = lim (Int.natAbs a * Int.natAbs b) → ((-9223372036854775808 : Int) ≤ c ∧ c ≤ (9223372036854775807 : Int)) ∧ ∀ (x3 : Int), x3 = (((Int.natAbs c) : Nat) : Int) → ((0 : Int) ≤ x3 ∧ x3 < (18446744073709551616 : Int)) ∧ ∀ (x4 : List (List Int)), x4 = lim (Int.toNat x3) → ((0 : Int) = (0 : Int) ∧ (63 : Int) = (63 : Int) ∧ x2 = lim (dv x2) ∧
    x4 = lim (dv x4) ∧ List.length x2 ≤ (8 : Nat) ∧ List.length x4 ≤ (4 : Nat) ∧ (0 : Nat) < dv x4) ∧ ((0 : Int) ≤ (((qsat (dv x2) (dv x4)) : Nat) : Int) ∧ (((qsat (dv x2) (dv x4)) : Nat) : Int) < (18446744073709551616 : Int)) ∧ ∀ (x5 : List (List Int)), x5 = lim (Int.toNat (((qsat (dv x2) (dv x4)) : Nat) : Int)) → (dg x5 ∧ dg x4 ∧ List.length x5 ≤ (100 : Nat) ∧ List.length x4 ≤ (100 : Nat)) ∧ ∀ (x6 : List (List Int)), x6 = lim (dv x5 * dv x4) → (dg x2 ∧ dg x2 ∧ List.length x2 ≤ (100 : Nat) ∧ List.length x2 ≤ (100 : Nat)) ∧ ∀ (x7 : List (List Int)), x7 = lim (dv x2 + dv x2) → (dg x6 ∧ dg x6 ∧ List.length x6 ≤ (100 : Nat) ∧ List.length x6 ≤ (100 : Nat)) ∧ ∀ (x8 : List (List Int)), x8 = lim (dv x6 + dv x6) → (dg x8 ∧ dg x4 ∧ List.length x8 ≤ (100 : Nat) ∧ List.length x4 ≤ (100 : Nat)) ∧ ∀ (x9 : List (List Int)), x9 = lim (dv x8 + dv x4) → (x7 = lim (dv x7) ∧ x9 = lim (dv x9) ∧ List.length x7 ≤ (1000 : Nat) ∧
    List.length x9 ≤ (1000 : Nat)) ∧ ∀ (x10 : Int), x10 = cmp3 (dv x7) (dv x9) → True ∧ ∀ (x11 : Int), x11 = Int.sign a * Int.sign b → (x2 = lim (dv x2) ∧ x6 = lim (dv x6) ∧ List.length x2 ≤ (1000 : Nat) ∧ List.length x6 ≤ (1000 : Nat)) ∧ ∀ (x12 : Int), x12 = cmp3 (dv x2) (dv x6) → ((0 : Int) ≤ (((qsat (dv x2) (dv x4)) : Nat) : Int) ∧ (((qsat (dv x2) (dv x4)) : Nat) : Int) < (18446744073709551616 : Int)) ∧ ∀ (x13 : Int), x13 = (rnd (!decide (x11 < (0 : Int)) == decide (c < (0 : Int))) ((((qsat (dv x2) (dv x4)) : Nat) : Int)) (x12 == (0 : Int)) x10 m).1 → ∀ (x14 : Bool), x14 = (rnd (!decide (x11 < (0 : Int)) == decide (c < (0 : Int))) ((((qsat (dv x2) (dv x4)) : Nat) : Int)) (x12 == (0 : Int)) x10 m).2 → Q { val := HV.tup [H0.ce (HC.int IntKind.i64 x13), H0.ce (HC.bool x14)], own := false, pars := [], news := [] }))) := by kernel_rfl
theorem vbRMD (a b c m q i : Int) (xs ds : List (List Int)) (K : HEx → LV → Prop) : (nbodyT true CRMD anRMD (nthLoop Try.f43 0) (([.ce (.int .i64 a), .ce (.int .i64 b), .ce (.int .i64 c), .ce (.int .i64 m), .ce (.sl false [8] xs), .ce (.sl false [8] ds), .ce (.int .u64 q), .ce (.int .i64 i)], [])) K) =
    ((decide (i ≥ (0 : Int)) = true → ∀ (x1 : Int), x1 = i % (18446744073709551616 : Int) → (0 : Int) ≤ x1 ∧ ∀ (x2 : Int), x2 = IntKind.wrap IntKind.u64 ((1 : Int) * (2 : Int) ^ min (Int.toNat x1) ((64 : Nat))) → ∀ (x3 : Int), x3 = bor IntKind.u64 q x2 → ((0 : Int) ≤ x3 ∧ x3 < (18446744073709551616 : Int)) ∧ ∀ (x4 : List (List Int)), x4 = lim (Int.toNat x3) → (dg x4 ∧ dg ds ∧ List.length x4 ≤ (100 : Nat) ∧ List.length ds ≤ (100 : Nat)) ∧ ∀ (x5 : List (List Int)), x5 = lim (dv x4 * dv ds) → (x5 = lim (dv x5) ∧ xs = lim (dv xs) ∧ List.length x5 ≤ (1000 : Nat) ∧ List.length xs ≤ (1000 : Nat)) ∧ ∀ (x6 : Int), x6 = cmp3 (dv x5) (dv xs) → (decide (x6 ≤ (0 : Int)) = true → ∀ (x7 : Int), x7 = i % (18446744073709551616 : Int) → (0 : Int) ≤ x7 ∧ ∀ (x8 : Int), x8 = IntKind.wrap IntKind.u64 ((1 : Int) * (2 : Int) ^ min (Int.toNat x7) ((64 : Nat))) → ∀ (x9 : Int), x9 = bor IntKind.u64 q x8 → ((-9223372036854775808 : Int) ≤ i - (1 : Int) ∧
    i - (1 : Int) ≤ (9223372036854775807 : Int)) ∧ ∀ (x10 : Int), x10 = i - (1 : Int) → K HEx.normal ([HV.ce (HC.int IntKind.i64 a), HV.ce (HC.int IntKind.i64 b), HV.ce (HC.int IntKind.i64 c), HV.ce (HC.int IntKind.i64 m), HV.ce (HC.sl false [(8 : Nat)] xs), HV.ce (HC.sl false [(8 : Nat)] ds), HV.ce (HC.int IntKind.u64 x9), HV.ce (HC.int IntKind.i64 x10)], [])) ∧ (decide (x6 ≤ (0 : Int)) = false → ((-9223372036854775808 : Int) ≤ i - (1 : Int) ∧ i - (1 : Int) ≤ (9223372036854775807 : Int)) ∧ ∀ (x11 : Int), x11 = i - (1 : Int) → K HEx.normal ([HV.ce (HC.int IntKind.i64 a), HV.ce (HC.int IntKind.i64 b), HV.ce (HC.int IntKind.i64 c), HV.ce (HC.int IntKind.i64 m), HV.ce (HC.sl false [(8 : Nat)] xs), HV.ce (HC.sl false [(8 : Nat)] ds), HV.ce (HC.int IntKind.u64 q), HV.ce (HC.int IntKind.i64 x11)], []))) ∧ (decide (i ≥ (0 : Int)) = false → K (HEx.exit (0 : Nat)) ([HV.ce (HC.int IntKind.i64 a), HV.ce (HC.int IntKind.i64 b), HV.ce (HC.int IntKind.i64 c), HV.ce (HC.int IntKind.i64 m), HV.ce (HC.sl false [(8 : Nat)] xs), HV.ce (HC.sl false [(8 : Nat)] ds), HV.ce (HC.int IntKind.u64 q)], []))) := by kernel_rfl
end Go.Proofs.Ytcfgklmpfkmdkaa
namespace U
open Go Go.HL
theorem wrap_u64 {x : Int} (h0 : 0 ≤ x) (h1 : x < 18446744073709551616) : IntKind.u64.wrap x = x := by
  simp [IntKind.wrap, IntKind.signed, IntKind.bits]
  omega
theorem pow64 {j : Nat} (h : j < 64) : (2 : Nat) ^ j < 18446744073709551616 := by
  have : (2 : Nat) ^ j < 2 ^ 64 := Nat.pow_lt_pow_right (by omega) h
  exact this
theorem bor_pow {q j m : Nat} (hq : q = 2 ^ (j + 1) * m) (hj : j < 64) (hlt : q + 2 ^ j < 18446744073709551616) : bor .u64 (q : Int) ((2 ^ j : Nat) : Int) = ((q + 2 ^ j : Nat) : Int) := by
  unfold bor bitsOp
  show IntKind.u64.wrap (((BitVec.ofInt 64 (q : Int)) ||| (BitVec.ofInt 64 ((2 ^ j : Nat) : Int))).toNat : Int) = _
  rw [BitVec.ofInt_natCast, BitVec.ofInt_natCast, BitVec.toNat_or, BitVec.toNat_ofNat, BitVec.toNat_ofNat]
  have h1 : q % 2 ^ 64 = q := Nat.mod_eq_of_lt (Nat.lt_of_le_of_lt (Nat.le_add_right _ _) hlt)
  have h2 : 2 ^ j % 2 ^ 64 = 2 ^ j := Nat.mod_eq_of_lt (pow64 hj)
  rw [h1, h2]
  have h3 : q + 2 ^ j = q ||| 2 ^ j := by
    rw [hq]
    exact Nat.two_pow_add_eq_or_of_lt (Nat.pow_lt_pow_right (by omega) (by omega)) m
  rw [← h3]
  exact wrap_u64 (by omega) (by omega)
theorem shl_one {j : Nat} (h : j < 64) : IntKind.u64.wrap (1 * 2 ^ min ((j : Int) % 18446744073709551616).toNat 64) = ((2 ^ j : Nat) : Int) := by
  have e : ((j : Int) % 18446744073709551616).toNat = j := by omega
  rw [e, Nat.min_eq_left (by omega), Int.one_mul]
  have e2 : (2 : Int) ^ j = ((2 ^ j : Nat) : Int) := by simp
  rw [e2]
  exact wrap_u64 (Int.natCast_nonneg _) (by have := pow64 h; omega)
/-- one binary digit more -/
theorem greedy (Q j : Nat) : Q / 2 ^ j * 2 ^ j = if Q / 2 ^ (j + 1) * 2 ^ (j + 1) + 2 ^ j ≤ Q then Q / 2 ^ (j + 1) * 2 ^ (j + 1) + 2 ^ j else Q / 2 ^ (j + 1) * 2 ^ (j + 1) := by
  have hp : 0 < 2 ^ j := Nat.pow_pos (by omega)
  have h1 : Q / 2 ^ (j + 1) = Q / 2 ^ j / 2 := by rw [Nat.pow_succ, Nat.div_div_eq_div_mul]
  rw [h1, Nat.pow_succ]
  have h2 := Nat.div_add_mod Q (2 ^ j)
  have h3 := Nat.mod_lt Q hp
  have h4 := Nat.div_add_mod (Q / 2 ^ j) 2
  have h5 : Q / 2 ^ j % 2 = 0 ∨ Q / 2 ^ j % 2 = 1 := by omega
  generalize Q / 2 ^ j = A at *
  generalize A / 2 = B at *
  rcases h5 with h5 | h5 <;> rw [h5] at h4
  · subst h4
    have e : B * (2 ^ j * 2) = (2 * B + 0) * 2 ^ j := by grind
    have e2 : 2 ^ j * (2 * B + 0) = (2 * B + 0) * 2 ^ j := by grind
    rw [e, if_neg (by omega)]
  · subst h4
    have e : (2 * B + 1) * 2 ^ j = B * (2 ^ j * 2) + 2 ^ j := by grind
    have e2 : 2 ^ j * (2 * B + 1) = B * (2 ^ j * 2) + 2 ^ j := by grind
    rw [e, if_pos (by omega)]
theorem qsat_test {x d s : Nat} (hd : 0 < d) (hs : s < 18446744073709551616) : s * d ≤ x ↔ s ≤ qsat x d := by
  unfold qsat
  rw [← Nat.le_div_iff_mul_le hd]
  omega
theorem cmp3_le {x y : Nat} : cmp3 x y ≤ 0 ↔ x ≤ y := by
  unfold cmp3
  split
  · omega
  · split <;> omega
theorem natAbs_lim {a : Int} (h : -9223372036854775808 ≤ a ∧ a ≤ 9223372036854775807) : a.natAbs < 65536 ^ 4 := by omega
theorem prod_lim {a b : Int} (ha : -9223372036854775808 ≤ a ∧ a ≤ 9223372036854775807) (hb : -9223372036854775808 ≤ b ∧ b ≤ 9223372036854775807) : a.natAbs * b.natAbs < 65536 ^ 8 := by
  have h1 := natAbs_lim ha
  have h2 := natAbs_lim hb
  have : a.natAbs * b.natAbs < 65536 ^ 4 * 65536 ^ 4 := Nat.mul_lt_mul'' h1 h2
  exact this
end U
namespace Go.Proofs.Ytcfgklmpfkmdkaa
open Go Go.HL U
set_option maxHeartbeats 400000 in
set_option maxRecDepth 100000 in
theorem sProd : Sound Try.prog 64 SProd := by
  refine sound_of (C := CProd) tabProd Try.func64 (by kernel_rfl) (by decide +kernel) (by kernel_rfl) rfl ⟨sMag, sLimbs, sMulL, trivial⟩ (loops0 (by kernel_rfl)) ?_
  intro hargs pars R h
  unfold SProd at h
  split at h
  case h_2 => exfalso; exact h
  rename_i a b
  have hq := h.2
  have h := h.1
  have l1 := lim_len 4 a.natAbs (natAbs_lim h.1)
  have l2 := lim_len 4 b.natAbs (natAbs_lim h.2)
  refine byVC (vcProd a b R) ⟨h.1, fun x1 e1 => ⟨by omega, fun x2 e2 => ⟨h.2, fun x3 e3 => ⟨by omega, fun x4 e4 => ?_⟩⟩⟩⟩
  have t1 : x1.toNat = a.natAbs := by omega
  have t3 : x3.toNat = b.natAbs := by omega
  rw [t1] at e2
  rw [t3] at e4
  subst e2 e4
  refine ⟨⟨dg_lim _, dg_lim _, by omega, by omega⟩, fun x5 e5 => ?_⟩
  rw [dv_lim, dv_lim] at e5
  subst e5
  exact hq
/-- what `rounded` does with the number that it has chosen -/
def rtail (neg : Bool) (v : Int) (Q : Res → Prop) : Prop :=
  (neg = true → (decide (v > (9223372036854775808 : Int)) = true → Q ⟨.tup [.ce (.int .i64 0), .ce (.bool false)], false, [], []⟩) ∧ (decide (v > (9223372036854775808 : Int)) = false →
    ((v == (0 : Int)) = true → Q ⟨.tup [.ce (.int .i64 0), .ce (.bool true)], false, [], []⟩) ∧ ((v == (0 : Int)) = false → ∀ x2 : Int, x2 = (v - 1) % (18446744073709551616 : Int) → ((-9223372036854775808 : Int) ≤ x2 ∧ x2 ≤ (9223372036854775807 : Int)) ∧
      ∀ x3 : Int, x3 = x2 → ((-9223372036854775808 : Int) ≤ (0 : Int) - x3 ∧ (0 : Int) - x3 ≤ (9223372036854775807 : Int)) ∧ ∀ x4 : Int, x4 = (0 : Int) - x3 → ((-9223372036854775808 : Int) ≤ x4 - 1 ∧ x4 - 1 ≤ (9223372036854775807 : Int)) ∧
        ∀ x5 : Int, x5 = x4 - 1 → Q ⟨.tup [.ce (.int .i64 x5), .ce (.bool true)], false, [], []⟩))) ∧
  (neg = false → (decide (v > (9223372036854775807 : Int)) = true → Q ⟨.tup [.ce (.int .i64 0), .ce (.bool false)], false, [], []⟩) ∧ (decide (v > (9223372036854775807 : Int)) = false → ((-9223372036854775808 : Int) ≤ v ∧ v ≤ (9223372036854775807 : Int)) ∧
    ∀ x6 : Int, x6 = v → Q ⟨.tup [.ce (.int .i64 x6), .ce (.bool true)], false, [], []⟩))
theorem rtail_ok {neg e : Bool} {q h m : Int} {R : Res → Prop} (h0 : 0 ≤ q) (hq : R ⟨.tup [.ce (.int .i64 (rnd neg q e h m).1), .ce (.bool (rnd neg q e h m).2)], false, [], []⟩) (v : Int) (hv : v = if more neg e h m then q + 1 else q) (hle : q ≤ 9223372036854775808) : rtail neg v R := by
  unfold rnd at hq
  rw [if_neg (by omega)] at hq
  dsimp only at hq
  rw [← hv] at hq
  have hv0 : 0 ≤ v := by rw [hv]; split <;> omega
  unfold rtail
  refine ⟨fun hn => ⟨fun k => ?_, fun k => ⟨fun z => ?_, fun z x2 e2 => ?_⟩⟩, fun hn => ⟨fun k => ?_, fun k => ?_⟩⟩
  · have k := of_decide_eq_true k
    rw [hn, if_pos rfl, if_pos k] at hq; exact hq
  · have k := of_decide_eq_false k
    rw [hn, if_pos rfl, if_neg k] at hq
    have z : v = 0 := by simpa using z
    rw [z] at hq
    exact hq
  · have k := of_decide_eq_false k
    rw [hn, if_pos rfl, if_neg k] at hq
    have z : v ≠ 0 := by simpa using z
    refine ⟨by omega, fun x3 e3 => ⟨by omega, fun x4 e4 => ⟨by omega, fun x5 e5 => ?_⟩⟩⟩
    rw [show x5 = -v by omega]; exact hq
  · have k := of_decide_eq_true k
    rw [hn, if_neg (by simp), if_pos k] at hq; exact hq
  · have k := of_decide_eq_false k
    rw [hn, if_neg (by simp), if_neg k] at hq
    refine ⟨by omega, fun x6 e6 => ?_⟩
    rw [e6]; exact hq
set_option maxHeartbeats 400000 in
set_option maxRecDepth 100000 in
theorem sRounded : Sound Try.prog 70 SRounded := by
  refine sound_of (C := CRounded) [] Try.func70 (by kernel_rfl) (by decide +kernel) (by kernel_rfl) rfl trivial (loops0 (by kernel_rfl)) ?_
  intro hargs pars R h
  unfold SRounded at h
  split at h
  case h_2 => exfalso; exact h
  rename_i neg q e hh m
  have h0 := h.1
  have hq := h.2
  clear h
  have big : q > 9223372036854775808 → R ⟨.tup [.ce (.int .i64 0), .ce (.bool false)], false, [], []⟩ := fun k => by
    unfold rnd at hq
    rw [if_pos k] at hq
    exact hq
  have tail := rtail_ok h0.1 hq
  clear hq
  refine byVC (vcRounded neg e q hh m R) ?_
  repeat' (first
    | exact big (by simp_all; done)
    | refine (tail _ ?_ ?_ : rtail neg _ R)
    | apply And.intro
    | intro _)
  all_goals first
    | (simp_all; done)
    | (simp_all [more]; done)
    | (simp_all [more]; omega)
    | (simp_all; omega)
set_option maxRecDepth 100000 in
theorem loopRMD : ∀ v Q, (LRMD v).wp Q → hloop CRMD anRMD (nthLoop Try.f43 0) v Q := by
  intro v Q h
  unfold LRMD at h
  split at h
  case h_2 => exact h.elim
  rename_i a b c m xs ds q i
  obtain ⟨⟨h1, h2, h3, h4, h5, h6, h7⟩, hq⟩ := h
  subst h1 h2
  have hQ : qsat (dv xs) (dv ds) < 18446744073709551616 := by unfold qsat; omega
  have hdg : dg ds := by rw [h4]; exact dg_lim _
  -- j digits are still open
  refine hloop_rec (σ := Nat) (fun j => ([.ce (.int .i64 a), .ce (.int .i64 b), .ce (.int .i64 c), .ce (.int .i64 m), .ce (.sl false [8] xs), .ce (.sl false [8] ds), .ce (.int .u64 ((qsat (dv xs) (dv ds) / 2 ^ j * 2 ^ j : Nat) : Int)), .ce (.int .i64 ((j : Int) - 1))], []))
    (fun j => j) (fun j => j ≤ 64) ?_ 64 (Nat.le_refl _) |> (fun x => by rwa [show ((qsat (dv xs) (dv ds) / 2 ^ 64 * 2 ^ 64 : Nat) : Int) = 0 by rw [Nat.div_eq_of_lt hQ]; simp] at x)
  intro j hj K hn he _
  refine byVB (vbRMD a b c m _ _ xs ds K) ⟨fun hlt x1 e1 => ⟨by omega, fun x2 e2 x3 e3 => ?_⟩, fun hge => ?_⟩
  · have hlt := of_decide_eq_true hlt
    obtain ⟨k, rfl⟩ : ∃ k, j = k + 1 := ⟨j - 1, by omega⟩
    have hk : k < 64 := by omega
    have ek : (((k + 1 : Nat) : Int) - 1) = (k : Int) := by omega
    rw [ek] at e1
    rw [e1, shl_one hk] at e2
    have g := greedy (qsat (dv xs) (dv ds)) k
    have ub : qsat (dv xs) (dv ds) / 2 ^ (k + 1) * 2 ^ (k + 1) + 2 ^ k < 18446744073709551616 := by
      have hp : (2 : Nat) ^ (k + 1) = 2 * 2 ^ k := by rw [Nat.pow_succ]; omega
      have h64 : (18446744073709551616 : Nat) = 2 ^ (63 - k) * 2 ^ (k + 1) := by
        rw [← Nat.pow_add, show 63 - k + (k + 1) = 64 by omega]
      have hlt2 : qsat (dv xs) (dv ds) / 2 ^ (k + 1) < 2 ^ (63 - k) := by
        rw [Nat.div_lt_iff_lt_mul (Nat.pow_pos (by omega)), ← h64]; exact hQ
      have : (qsat (dv xs) (dv ds) / 2 ^ (k + 1) + 1) * 2 ^ (k + 1) ≤ 2 ^ (63 - k) * 2 ^ (k + 1) := Nat.mul_le_mul_right _ hlt2
      rw [Nat.add_mul, Nat.one_mul, ← h64] at this
      have hpos : 0 < 2 ^ k := Nat.pow_pos (by omega)
      omega
    have e3' : x3 = ((qsat (dv xs) (dv ds) / 2 ^ (k + 1) * 2 ^ (k + 1) + 2 ^ k : Nat) : Int) := by
      rw [e3, e2]
      exact bor_pow (m := qsat (dv xs) (dv ds) / 2 ^ (k + 1)) (Nat.mul_comm _ _) hk ub
    have htest := qsat_test (x := dv xs) (d := dv ds) (s := qsat (dv xs) (dv ds) / 2 ^ (k + 1) * 2 ^ (k + 1) + 2 ^ k) h7 ub
    generalize hs : qsat (dv xs) (dv ds) / 2 ^ (k + 1) * 2 ^ (k + 1) + 2 ^ k = s at *
    have t3 : x3.toNat = s := by omega
    refine ⟨by omega, fun x4 e4 => ?_⟩
    rw [t3] at e4
    subst e4
    have l4 := lim_len 4 s (by omega)
    refine ⟨⟨dg_lim _, hdg, by omega, by omega⟩, fun x5 e5 => ?_⟩
    rw [dv_lim] at e5
    subst e5
    have l5 : (lim (s * dv ds)).length ≤ 8 := lim_len 8 _ (by
      have d1 := dv_lt hdg
      have d2 : 65536 ^ ds.length ≤ 65536 ^ 4 := Nat.pow_le_pow_right (by omega) h6
      have : s * dv ds < 65536 ^ 4 * 65536 ^ 4 := Nat.mul_lt_mul'' (by omega) (by omega)
      exact this)
    refine ⟨⟨(lim_dv_lim _).symm, h3, by omega, by omega⟩, fun x6 e6 => ?_⟩
    rw [dv_lim] at e6
    refine ⟨fun hle x7 e7 => ⟨by omega, fun x8 e8 x9 e9 => ⟨by omega, fun x10 e10 => ?_⟩⟩, fun hle => ⟨by omega, fun x11 e11 => ?_⟩⟩
    · have hle := of_decide_eq_true hle
      rw [e6, cmp3_le, htest] at hle
      rw [if_pos hle] at g
      rw [ek] at e7
      rw [e7, shl_one hk] at e8
      have e9' : x9 = (s : Int) := by rw [e9, e8, ← e2, ← e3]; exact e3'
      rw [show x10 = (k : Int) - 1 by omega, e9', ← g]
      exact hn k (by omega) (by omega)
    · have hle := of_decide_eq_false hle
      rw [e6, cmp3_le, htest] at hle
      rw [if_neg hle] at g
      rw [show x11 = (k : Int) - 1 by omega, ← g]
      exact hn k (by omega) (by omega)
  · have hge := of_decide_eq_false hge
    obtain rfl : j = 0 := by omega
    have e : qsat (dv xs) (dv ds) / 2 ^ 0 * 2 ^ 0 = qsat (dv xs) (dv ds) := by simp
    rw [e]
    exact he _ _ hq
set_option maxHeartbeats 400000 in
set_option maxRecDepth 100000 in
theorem sRMulDiv : Sound Try.prog 43 SRMulDiv := by
  refine sound_of (C := CRMD) tabRMD Try.func43 (by kernel_rfl) (by decide +kernel) (by kernel_rfl) rfl ⟨sRight, sProd, sMag, sLimbs, sMulL, sAddL, sCmp, sSgn, sRounded, trivial⟩ (loops1 (by kernel_rfl) (loopOK_of (an := anRMD) (S := LRMD) (by kernel_rfl) loopRMD)) ?_
  intro hargs pars R h
  unfold SRMulDiv at h
  split at h
  case h_2 => exfalso; exact h
  rename_i a b c m
  have hq := h.2
  have ha := h.1.1
  have hb := h.1.2.1
  have hc := h.1.2.2
  clear h
  have l0 := lim_len 8 _ (prod_lim ha hb)
  have l1 := lim_len 4 _ (natAbs_lim hc)
  refine byVC (vcRMD a b c m R) ⟨fun z => ?_, fun z => ⟨trivial, fun x1 e1 => ⟨fun w => ?_, fun w => ⟨⟨ha, hb⟩, fun x2 e2 => ⟨hc, fun x3 e3 => ⟨by omega, fun x4 e4 => ?_⟩⟩⟩⟩⟩⟩
  · have z : c = 0 := by simpa using z
    unfold rmd at hq
    rw [if_pos (.inl z)] at hq
    exact hq
  · unfold rmd at hq
    rw [if_pos (.inr (by
      rw [e1] at w
      have w : m < 0 ∨ 2 < m := by simpa using w
      omega))] at hq
    exact hq
  · have z : c ≠ 0 := by simpa using z
    have w : 0 ≤ m ∧ m ≤ 2 := by rw [e1] at w; simpa using w
    unfold rmd at hq
    rw [if_neg (by omega)] at hq
    dsimp only at hq
    have t3 : x3.toNat = c.natAbs := by omega
    rw [t3] at e4
    subst e2 e4
    simp only [dv_lim]
    have hQ : qsat (a.natAbs * b.natAbs) c.natAbs < 18446744073709551616 := by unfold qsat; omega
    have hX := prod_lim ha hb
    have hD := natAbs_lim hc
    generalize a.natAbs * b.natAbs = X at *
    have hD0 : 0 < c.natAbs := by omega
    generalize c.natAbs = D at *
    generalize qsat X D = Q at *
    refine ⟨⟨trivial, trivial, trivial, trivial, l0, l1, hD0⟩, by omega, fun x5 e5 => ?_⟩
    have t5 : ((Q : Nat) : Int).toNat = Q := by omega
    rw [t5] at e5
    subst e5
    have l5 := lim_len 4 Q (by omega)
    refine ⟨⟨dg_lim _, dg_lim _, by omega, by omega⟩, fun x6 e6 => ?_⟩
    rw [dv_lim] at e6
    subst e6
    have hQD : Q * D < 65536 ^ 8 := by
      have : Q * D < 65536 ^ 4 * 65536 ^ 4 := Nat.mul_lt_mul'' (by omega) (by omega)
      exact this
    generalize hY : Q * D = Y at *
    have l6 := lim_len 8 Y hQD
    refine ⟨⟨dg_lim _, dg_lim _, by omega, by omega⟩, fun x7 e7 => ⟨⟨dg_lim _, dg_lim _, by omega, by omega⟩, fun x8 e8 => ?_⟩⟩
    rw [dv_lim] at e8
    subst e7 e8
    have l7 := lim_len 9 (X + X) (by omega)
    have l8 := lim_len 9 (Y + Y) (by omega)
    refine ⟨⟨dg_lim _, dg_lim _, by omega, by omega⟩, fun x9 e9 => ?_⟩
    rw [dv_lim] at e9
    subst e9
    have l9 := lim_len 9 (Y + Y + D) (by omega)
    simp only [dv_lim]
    refine ⟨⟨trivial, trivial, by omega, by omega⟩, fun x10 e10 => ⟨trivial, fun x11 e11 => ⟨⟨trivial, trivial, by omega, by omega⟩, fun x12 e12 => ⟨by omega, fun x13 e13 x14 e14 => ?_⟩⟩⟩⟩
    subst e10 e11 e12
    rw [e13, e14]
    exact hq
end Go.Proofs.Ytcfgklmpfkmdkaa
