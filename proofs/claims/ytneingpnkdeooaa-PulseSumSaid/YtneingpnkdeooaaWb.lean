/-
  Package wide: MulDiv, where the product is less than 2^63 and the divisor is positive.
  Conditions: none.
-/
import Derived.Test.YtneingpnkdeooaaWa
set_option maxRecDepth 100000
namespace U
open Go
def grw (m e : Int) (s n : Bool) : Bool := if m = 0 then s && n else if m = 1 then s && !n else decide (e > 0) || (decide (e = 0) && !n)
/-- n / c, rounded -/
def mdv (n c mode : Int) : Int := if mode = 0 then n / c else if mode = 1 then -((-n) / c) else (2 * n + c) / (2 * c)
end U
namespace Go.Proofs.Ytneingpnkdeooaa
open Go Go.HL U
def SGrows (hargs : List HV) (pars : List (List HC)) : SR :=
  match hargs, pars with
  | [.ce (.int .i64 m), .ce (.int .i64 e), .ce (.bool s), .ce (.bool n)], [] => .det True ⟨.ce (.bool (grw m e s n)), false, [], []⟩
  | _, _ => .fail
def SSigned (hargs : List HV) (pars : List (List HC)) : SR :=
  match hargs, pars with
  | [.ce (.int .u64 n), .ce (.bool neg)], [] => .det (0 ≤ n ∧ n ≤ 9223372036854775807) ⟨.tup [.ce (.int .i64 (if neg then -n else n)), .ce (.bool true)], false, [], []⟩
  | _, _ => .fail
def SMulDiv (hargs : List HV) (pars : List (List HC)) : SR :=
  match hargs, pars with
  | [.ce (.int .i64 a), .ce (.int .i64 b), .ce (.int .i64 c), .ce (.int .i64 m)], [] =>
    .det ((-9223372036854775808 ≤ a ∧ a ≤ 9223372036854775807) ∧ (-9223372036854775808 ≤ b ∧ b ≤ 9223372036854775807) ∧ (0 < c ∧ c ≤ 9223372036854775807) ∧ (-4611686018427387904 ≤ a * b ∧ a * b ≤ 4611686018427387904) ∧ (0 ≤ m ∧ m ≤ 2))
      ⟨.tup [.ce (.int .i64 (mdv (a * b) c m)), .ce (.bool true)], false, [], []⟩
  | _, _ => .fail
def tabMulDiv : List (FuncId × HL.Spec) := [(77, SKnown), (78, SProduct), (79, SSize), (80, SDiv64), (81, SSign), (82, SGrows), (83, SSigned)]
noncomputable def CMulDiv : Ctx := ⟨Try.prog, gam tabMulDiv, 83, [], []⟩
theorem vcMulDiv (a b c m : Int) (Q : Res → Prop) : (nfun true CMulDiv Try.f60 (bodyOf Try.f60) [.ce (.int .i64 a), .ce (.int .i64 b), .ce (.int .i64 c), .ce (.int .i64 m)] [] Q) =
    (((c == (0 : Int)) = true → Q { val := HV.tup [H0.ce (HC.int IntKind.i64 (0 : Int)), H0.ce (HC.bool false)], own := false, pars := [], news := [] }) ∧ ((c == (0 : Int)) = false → True ∧ ∀ (x1 : Bool), x1 = decide ((0 : Int) ≤ m ∧ m ≤ (2 : Int)) → ((!x1) = true → Q { val := HV.tup [H0.ce (HC.int IntKind.i64 (0 : Int)), H0.ce (HC.bool false)], own := false, pars := [], news := [] }) ∧ ((!x1) = false → ((-9223372036854775808 : Int) ≤ a ∧ a ≤ (9223372036854775807 : Int)) ∧ ∀ (x2 : Int), x2 = (((Int.natAbs a) : Nat) : Int) → ((-9223372036854775808 : Int) ≤ b ∧ b ≤ (9223372036854775807 : Int)) ∧ ∀ (x3 : Int), x3 = (((Int.natAbs b) : Nat) : Int) → ((0 : Int) ≤ x2 ∧ x2 < (18446744073709551616 : Int) ∧ (0 : Int) ≤ x3 ∧ x3 < (18446744073709551616 : Int)) ∧ ∀ (x4 : Int), x4 = x2 * x3 / (18446744073709551616 : Int) → ∀ (x5 : Int), x5 = x2 * x3 % (18446744073709551616 : Int) → ((-9223372036854775808 : Int) ≤ c ∧
    c ≤ (9223372036854775807 : Int)) ∧ ∀ (x6 : Int), x6 = (((Int.natAbs c) : Nat) : Int) → (decide (x4 ≥ x6) = true → Q { val := HV.tup [H0.ce (HC.int IntKind.i64 (0 : Int)), H0.ce (HC.bool false)], own := false, pars := [], news := [] }) ∧ (decide (x4 ≥ x6) = false → (x4 = (0 : Int) ∧ (0 : Int) ≤ x5 ∧ x5 < (18446744073709551616 : Int) ∧ (0 : Int) < x6 ∧ x6 < (18446744073709551616 : Int)) ∧ ∀ (x7 : Int), x7 = x5 / x6 → ∀ (x8 : Int), x8 = x5 % x6 → True ∧ ∀ (x9 : Int), x9 = Int.sign a * Int.sign b → ((!decide (x9 < (0 : Int)) == decide (c < (0 : Int))) = true → True ∧ ∀ (x10 : Int), x10 = Int.sign a * Int.sign b → ∀ (x11 : Int), x11 = (x6 - x8) % (18446744073709551616 : Int) → (decide (x8 > x11) = true → True ∧ ∀ (x12 : Bool), x12 = grw m (1 : Int) (decide (x8 > (0 : Int))) (x10 != (0 : Int)) → (x12 = true → ∀ (x13 : Int), x13 = (x7 + (1 : Int)) % (18446744073709551616 : Int) → ((x13 == (0 : Int)) = true →
    Q { val := HV.tup [H0.ce (HC.int IntKind.i64 (0 : Int)), H0.ce (HC.bool false)], own := false, pars := [], news := [] }) ∧ ((x13 == (0 : Int)) = false → ((0 : Int) ≤ x13 ∧ x13 ≤ (9223372036854775807 : Int)) ∧ ∀ (x14 : Int), (x14 = if (x10 != (0 : Int)) = true then -x13 else x13) → ∀ (x15 : Bool), x15 = true → Q { val := HV.tup [H0.ce (HC.int IntKind.i64 x14), H0.ce (HC.bool x15)], own := false, pars := [], news := [] })) ∧ (x12 = false → ((0 : Int) ≤ x7 ∧ x7 ≤ (9223372036854775807 : Int)) ∧ ∀ (x16 : Int), (x16 = if (x10 != (0 : Int)) = true then -x7 else x7) → ∀ (x17 : Bool), x17 = true → Q { val := HV.tup [H0.ce (HC.int IntKind.i64 x16), H0.ce (HC.bool x17)], own := false, pars := [], news := [] })) ∧ (decide (x8 > x11) = false → ∀ (x18 : Int), x18 = (x6 - x8) % (18446744073709551616 : Int) → (decide (x8 < x18) = true → True ∧ ∀ (x19 : Bool), x19 = grw m (-1 : Int) (decide (x8 > (0 : Int))) (x10 != (0 : Int)) →
    (x19 = true → ∀ (x20 : Int), x20 = (x7 + (1 : Int)) % (18446744073709551616 : Int) → ((x20 == (0 : Int)) = true → Q { val := HV.tup [H0.ce (HC.int IntKind.i64 (0 : Int)), H0.ce (HC.bool false)], own := false, pars := [], news := [] }) ∧ ((x20 == (0 : Int)) = false → ((0 : Int) ≤ x20 ∧ x20 ≤ (9223372036854775807 : Int)) ∧ ∀ (x21 : Int), (x21 = if (x10 != (0 : Int)) = true then -x20 else x20) → ∀ (x22 : Bool), x22 = true → Q { val := HV.tup [H0.ce (HC.int IntKind.i64 x21), H0.ce (HC.bool x22)], own := false, pars := [], news := [] })) ∧ (x19 = false → ((0 : Int) ≤ x7 ∧ x7 ≤ (9223372036854775807 : Int)) ∧ ∀ (x23 : Int), (x23 = if (x10 != (0 : Int)) = true then -x7 else x7) → ∀ (x24 : Bool), x24 = true → Q { val := HV.tup [H0.ce (HC.int IntKind.i64 x23), H0.ce (HC.bool x24)], own := false, pars := [], news := [] })) ∧ (decide (x8 < x18) = false → True ∧ ∀ (x25 : Bool), x25 = grw m (0 : Int) (decide (x8 > (0 : Int))) (x10 != (0 : Int)) →
    (x25 = true → ∀ (x26 : Int), x26 = (x7 + (1 : Int)) % (18446744073709551616 : Int) → ((x26 == (0 : Int)) = true → Q { val := HV.tup [H0.ce (HC.int IntKind.i64 (0 : Int)), H0.ce (HC.bool false)], own := false, pars := [], news := [] }) ∧ ((x26 == (0 : Int)) = false → ((0 : Int) ≤ x26 ∧ x26 ≤ (9223372036854775807 : Int)) ∧ ∀ (x27 : Int), (x27 = if (x10 != (0 : Int)) = true then -x26 else x26) → ∀ (x28 : Bool), x28 = true → Q { val := HV.tup [H0.ce (HC.int IntKind.i64 x27), H0.ce (HC.bool x28)], own := false, pars := [], news := [] })) ∧ (x25 = false → ((0 : Int) ≤ x7 ∧ x7 ≤ (9223372036854775807 : Int)) ∧ ∀ (x29 : Int), (x29 = if (x10 != (0 : Int)) = true then -x7 else x7) → ∀ (x30 : Bool), x30 = true → Q { val := HV.tup [H0.ce (HC.int IntKind.i64 x29), H0.ce (HC.bool x30)], own := false, pars := [], news := [] })))) ∧ ((!decide (x9 < (0 : Int)) == decide (c < (0 : Int))) = false → ∀ (x31 : Int), x31 = (x6 - x8) % (18446744073709551616 : Int) →
    (decide (x8 > x31) = true → True ∧ ∀ (x32 : Bool), x32 = grw m (1 : Int) (decide (x8 > (0 : Int))) false → (x32 = true → ∀ (x33 : Int), x33 = (x7 + (1 : Int)) % (18446744073709551616 : Int) → ((x33 == (0 : Int)) = true → Q { val := HV.tup [H0.ce (HC.int IntKind.i64 (0 : Int)), H0.ce (HC.bool false)], own := false, pars := [], news := [] }) ∧ ((x33 == (0 : Int)) = false → ((0 : Int) ≤ x33 ∧ x33 ≤ (9223372036854775807 : Int)) ∧ ∀ (x34 : Int), (x34 = if false = true then -x33 else x33) → ∀ (x35 : Bool), x35 = true → Q { val := HV.tup [H0.ce (HC.int IntKind.i64 x34), H0.ce (HC.bool x35)], own := false, pars := [], news := [] })) ∧ (x32 = false → ((0 : Int) ≤ x7 ∧ x7 ≤ (9223372036854775807 : Int)) ∧ ∀ (x36 : Int), (x36 = if false = true then -x7 else x7) → ∀ (x37 : Bool), x37 = true → Q { val := HV.tup [H0.ce (HC.int IntKind.i64 x36), H0.ce (HC.bool x37)], own := false, pars := [], news := [] })) ∧
    (decide (x8 > x31) = false → ∀ (x38 : Int), x38 = (x6 - x8) % (18446744073709551616 : Int) → (decide (x8 < x38) = true → True ∧ ∀ (x39 : Bool), x39 = grw m (-1 : Int) (decide (x8 > (0 : Int))) false → (x39 = true → ∀ (x40 : Int), x40 = (x7 + (1 : Int)) % (18446744073709551616 : Int) → ((x40 == (0 : Int)) = true → Q { val := HV.tup [H0.ce (HC.int IntKind.i64 (0 : Int)), H0.ce (HC.bool false)], own := false, pars := [], news := [] }) ∧ ((x40 == (0 : Int)) = false → ((0 : Int) ≤ x40 ∧ x40 ≤ (9223372036854775807 : Int)) ∧ ∀ (x41 : Int), (x41 = if false = true then -x40 else x40) → ∀ (x42 : Bool), x42 = true → Q { val := HV.tup [H0.ce (HC.int IntKind.i64 x41), H0.ce (HC.bool x42)], own := false, pars := [], news := [] })) ∧ (x39 = false → ((0 : Int) ≤ x7 ∧ x7 ≤ (9223372036854775807 : Int)) ∧ ∀ (x43 : Int), (x43 = if false = true then -x7 else x7) → ∀ (x44 : Bool), x44 = true → Q { val := HV.tup [H0.ce (HC.int IntKind.i64 x43), H0.ce (HC.bool x44)], own := false, pars := [], news := [] })) ∧
    (decide (x8 < x38) = false → True ∧ ∀ (x45 : Bool), x45 = grw m (0 : Int) (decide (x8 > (0 : Int))) false → (x45 = true → ∀ (x46 : Int), x46 = (x7 + (1 : Int)) % (18446744073709551616 : Int) → ((x46 == (0 : Int)) = true → Q { val := HV.tup [H0.ce (HC.int IntKind.i64 (0 : Int)), H0.ce (HC.bool false)], own := false, pars := [], news := [] }) ∧ ((x46 == (0 : Int)) = false → ((0 : Int) ≤ x46 ∧ x46 ≤ (9223372036854775807 : Int)) ∧ ∀ (x47 : Int), (x47 = if false = true then -x46 else x46) → ∀ (x48 : Bool), x48 = true → Q { val := HV.tup [H0.ce (HC.int IntKind.i64 x47), H0.ce (HC.bool x48)], own := false, pars := [], news := [] })) ∧ (x45 = false → ((0 : Int) ≤ x7 ∧ x7 ≤ (9223372036854775807 : Int)) ∧ ∀ (x49 : Int), (x49 = if false = true then -x7 else x7) → ∀ (x50 : Bool), x50 = true → Q { val := HV.tup [H0.ce (HC.int IntKind.i64 x49), H0.ce (HC.bool x50)], own := false, pars := [], news := [] })))))))) := by kernel_rfl
end Go.Proofs.Ytneingpnkdeooaa
namespace U
open Go
theorem ediv_of {x d k : Int} (hd : 0 < d) (h1 : d * k ≤ x) (h2 : x < d * k + d) : x / d = k := by
  have a1 : k ≤ x / d := Int.le_ediv_of_mul_le hd (by rw [Int.mul_comm]; exact h1)
  have a2 : x / d < k + 1 := Int.ediv_lt_of_lt_mul hd (by rw [Int.add_mul, Int.one_mul, Int.mul_comm]; exact h2)
  omega
theorem mdv_eq {n c m q r e : Int} {neg : Bool} (hc : 0 < c) (hm : 0 ≤ m ∧ m ≤ 2) (hr : 0 ≤ r ∧ r < c) (hn : (if neg then -n else n) = c * q + r) (h0 : neg = true → 0 < c * q + r)
    (he1 : 0 < e ↔ c < 2 * r) (he0 : e = 0 ↔ 2 * r = c) :
    mdv n c m = if neg then -(if grw m e (decide (r > 0)) neg then q + 1 else q) else (if grw m e (decide (r > 0)) neg then q + 1 else q) := by
  have hm' : m = 0 ∨ m = 1 ∨ m = 2 := by omega
  unfold mdv grw
  cases neg with
  | false =>
    simp only [Bool.false_eq_true, if_false] at hn
    subst hn
    have g : ∀ k, c * (q + k) = c * q + c * k := fun k => Int.mul_add c q k
    rcases hm' with rfl | rfl | rfl
    · simp
      exact ediv_of hc (by omega) (by omega)
    · simp
      by_cases h : 0 < r
      · simp [h]
        have := g 1
        rw [ediv_of (k := -(q + 1)) hc (by rw [Int.mul_neg]; omega) (by rw [Int.mul_neg]; omega)]; omega
      · simp [h]
        rw [ediv_of (k := -q) hc (by rw [Int.mul_neg]; omega) (by rw [Int.mul_neg]; omega)]; omega
    · simp
      by_cases h : c ≤ 2 * r
      · have : 0 < e ∨ e = 0 := by omega
        simp [this]
        have := g 1
        exact ediv_of (by omega) (by rw [Int.mul_assoc]; omega) (by rw [Int.mul_assoc]; omega)
      · have : ¬ (0 < e ∨ e = 0) := by omega
        simp [this]
        exact ediv_of (by omega) (by rw [Int.mul_assoc]; omega) (by rw [Int.mul_assoc]; omega)
  | true =>
    simp only [if_true] at hn
    obtain rfl : n = -(c * q + r) := by omega
    have g : ∀ k, c * (q + k) = c * q + c * k := fun k => Int.mul_add c q k
    rcases hm' with rfl | rfl | rfl
    · simp
      by_cases h : 0 < r
      · simp [h]
        have := g 1
        exact ediv_of hc (by rw [Int.mul_neg]; omega) (by rw [Int.mul_neg]; omega)
      · simp [h]
        exact ediv_of hc (by rw [Int.mul_neg]; omega) (by rw [Int.mul_neg]; omega)
    · simp
      rw [ediv_of (k := q) hc (by omega) (by omega)]
    · simp
      by_cases h : c < 2 * r
      · have : 0 < e := by omega
        simp [this]
        have := g 1
        exact ediv_of (by omega) (by rw [Int.mul_assoc]; simp only [Int.mul_neg]; omega) (by rw [Int.mul_assoc]; simp only [Int.mul_neg]; omega)
      · have : ¬ 0 < e := by omega
        simp [this]
        exact ediv_of (by omega) (by rw [Int.mul_assoc]; simp only [Int.mul_neg]; omega) (by rw [Int.mul_assoc]; simp only [Int.mul_neg]; omega)
end U
namespace Go.Proofs.Ytneingpnkdeooaa
open Go Go.HL U
set_option maxRecDepth 100000 in
theorem sGrows : Sound Try.prog 82 SGrows := by
  refine sound_of (C := CGrows) [] Try.func82 (by kernel_rfl) (by decide +kernel) (by kernel_rfl) rfl trivial (loops0 (by kernel_rfl)) ?_
  intro hargs pars R h
  unfold SGrows at h
  split at h
  · rename_i m e s n
    have hq := h.2
    unfold grw at hq
    refine byVC (vcGrows m e s n R) ⟨fun e1 => ?_, fun e1 => ⟨fun e2 => ?_, fun e2 => ⟨fun e3 => ?_, fun e3 => ⟨fun e4 => ?_, fun e4 => ?_⟩⟩⟩⟩
    · have : m = 0 := by simpa using e1
      subst this
      exact ⟨fun k => by subst k; simpa using hq, fun k => by subst k; simpa using hq⟩
    · have : m = 1 := by simpa using e2
      subst this
      exact ⟨fun k => by subst k; simpa using hq, fun k => by subst k; simpa using hq⟩
    · have h0 : m ≠ 0 := by simpa using e1
      have h1 : m ≠ 1 := by simpa using e2
      have h3 := of_decide_eq_true e3
      simpa [h0, h1, h3] using hq
    · have h0 : m ≠ 0 := by simpa using e1
      have h1 : m ≠ 1 := by simpa using e2
      have h4 : e = 0 := by simpa using e4
      subst h4
      simpa [h0, h1] using hq
    · have h0 : m ≠ 0 := by simpa using e1
      have h1 : m ≠ 1 := by simpa using e2
      have h3 := of_decide_eq_false e3
      have h4 : e ≠ 0 := by simpa using e4
      simpa [h0, h1, h3, h4] using hq
  · exact h.elim

set_option maxRecDepth 100000 in
theorem sSigned : Sound Try.prog 83 SSigned := by
  refine sound_of (C := CSigned) [] Try.func83 (by kernel_rfl) (by decide +kernel) (by kernel_rfl) rfl trivial (loops0 (by kernel_rfl)) ?_
  intro hargs pars R h
  unfold SSigned at h
  split at h
  · rename_i n neg
    obtain ⟨⟨h1, h2⟩, hq⟩ := h
    refine byVC (vcSigned n neg R) ⟨fun e => ?_, fun e => ?_⟩
    · subst e
      refine ⟨fun _ x1 e1 x2 e2 => ?_, fun e => absurd (of_decide_eq_false e) (by omega)⟩
      have : x2 = -n := by
        rw [e2, e1]
        simp [IntKind.wrap, IntKind.signed, IntKind.bits]
        split <;> omega
      rw [this]; exact hq
    · subst e
      refine ⟨fun _ => ⟨fun _ x1 e1 => ?_, fun e => absurd (of_decide_eq_false e) (by omega)⟩, fun e => (nomatch e)⟩
      have hw := U.wrap_small (x := n) (by omega) (by omega)
      rw [e1, hw]; exact hq
  · exact h.elim

set_option maxRecDepth 100000 in
theorem sMulDiv : Sound Try.prog 60 SMulDiv := by
  refine sound_of (C := CMulDiv) tabMulDiv Try.func60 (by kernel_rfl) (by decide +kernel) (by kernel_rfl) rfl ⟨sKnown, sProduct, sSize, sDiv64, sSign, sGrows, sSigned, trivial⟩ (loops0 (by kernel_rfl)) ?_
  intro hargs pars R h
  unfold SMulDiv at h
  split at h
  · rename_i a b c m
    obtain ⟨⟨ha, hb, hc, hab, hm⟩, hq⟩ := h
    have hprod : ((a.natAbs : Int)) * (b.natAbs : Int) = ((a * b).natAbs : Int) := by rw [Int.natAbs_mul]; rfl
    have hsg : a.sign * b.sign = (a * b).sign := (Int.sign_mul a b).symm
    refine byVC (vcMulDiv a b c m R) ?_
    generalize a * b = n at *
    refine ⟨fun e => absurd e (by simp; omega), fun _ => ⟨trivial, fun x1 e1 => ⟨fun e => absurd e (by rw [e1]; simp; omega), fun _ => ⟨ha, fun x2 e2 => ⟨hb, fun x3 e3 => ⟨by omega, ?_⟩⟩⟩⟩⟩⟩
    rw [e2, e3, hprod]
    intro x4 e4 x5 e5
    refine ⟨by omega, fun x6 e6 => ⟨fun e => absurd (of_decide_eq_true e) (by omega), fun _ => ⟨by omega, fun x7 e7 x8 e8 => ⟨trivial, fun x9 e9 => ?_⟩⟩⟩⟩
    have hx6 : x6 = c := by omega
    subst hx6
    have r0 := Int.emod_nonneg x5 (show x6 ≠ 0 by omega)
    have r1 := Int.emod_lt_of_pos x5 (show 0 < x6 by omega)
    have d1 := Int.mul_ediv_add_emod x5 x6
    have d2 : 0 ≤ x5 / x6 := Int.ediv_nonneg (by omega) (by omega)
    have d3 : x5 / x6 ≤ x5 := Int.ediv_le_self _ (by omega)
    rw [← e7] at d1 d2 d3
    rw [← e8] at d1 r0 r1
    rw [hsg] at e9
    have hc0 : decide (x6 < 0) = false := decide_eq_false (by omega)
    rw [hc0]
    have fin : ∀ (e : Int) (neg : Bool) (q v : Int) (w : Bool), (neg = true → n < 0) → (neg = false → 0 ≤ n) → (0 < e ↔ x6 < 2 * x8) → (e = 0 ↔ 2 * x8 = x6) → q = (if grw m e (decide (x8 > 0)) neg then x7 + 1 else x7) →
        v = (if neg = true then -q else q) → w = true → R ⟨.tup [.ce (.int .i64 v), .ce (.bool w)], false, [], []⟩ := by
      intro e neg q v w n1 n0 g1 g0 hqq hv hw
      subst hw
      have := mdv_eq (n := n) (c := x6) (m := m) (q := x7) (r := x8) (e := e) (neg := neg) (by omega) hm ⟨r0, r1⟩ (by
        cases neg with
        | false => have := n0 rfl; simp; omega
        | true => have := n1 rfl; simp; omega) (fun k => by have := n1 k; omega) g1 g0
      rw [hv, hqq]
      rw [this] at hq
      exact hq
    have leaf : ∀ (e : Int) (neg y : Bool), y = grw m e (decide (x8 > 0)) neg → (neg = true → n < 0) → (neg = false → 0 ≤ n) → (0 < e ↔ x6 < 2 * x8) → (e = 0 ↔ 2 * x8 = x6) →
        (y = true → ∀ q1 : Int, q1 = (x7 + 1) % 18446744073709551616 → ((q1 == 0) = true → R ⟨.tup [.ce (.int .i64 0), .ce (.bool false)], false, [], []⟩) ∧
          ((q1 == 0) = false → (0 ≤ q1 ∧ q1 ≤ 9223372036854775807) ∧ ∀ v : Int, v = (if neg = true then -q1 else q1) → ∀ w : Bool, w = true → R ⟨.tup [.ce (.int .i64 v), .ce (.bool w)], false, [], []⟩)) ∧
        (y = false → (0 ≤ x7 ∧ x7 ≤ 9223372036854775807) ∧ ∀ v : Int, v = (if neg = true then -x7 else x7) → ∀ w : Bool, w = true → R ⟨.tup [.ce (.int .i64 v), .ce (.bool w)], false, [], []⟩) := by
      intro e neg y hy n1 n0 g1 g0
      refine ⟨fun u q1 eq1 => ?_, fun u => ⟨by omega, fun v hv w hw => fin e neg x7 v w n1 n0 g1 g0 (by rw [← hy, u]; rfl) hv hw⟩⟩
      have hq1 : q1 = x7 + 1 := by omega
      exact ⟨fun z => absurd z (by simp; omega), fun _ => ⟨by omega, fun v hv w hw => fin e neg q1 v w n1 n0 g1 g0 (by rw [← hy, u, hq1]; rfl) hv hw⟩⟩
    clear fin hq d1 e7 hprod
    refine ⟨fun en => ⟨trivial, fun x10 e10 => ?_⟩, fun en => ?_⟩
    · rw [hsg] at e10
      have hn : n < 0 := by
        rcases Int.lt_trichotomy n 0 with h | h | h
        · exact h
        · subst h; simp [e9] at en
        · rw [Int.sign_eq_one_of_pos h] at e9; subst e9; simp at en
      rw [Int.sign_eq_neg_one_of_neg hn] at e10
      subst e10
      intro x11 e11
      have s1 : x11 = x6 - x8 := by omega
      refine ⟨fun k => ⟨trivial, ?_⟩, fun k x18 e18 => ⟨fun k2 => ⟨trivial, ?_⟩, fun k2 => ⟨trivial, ?_⟩⟩⟩
      · have k := of_decide_eq_true k
        exact fun y ey => leaf 1 true y ey (fun _ => hn) (fun z => nomatch z) (by omega) (by omega)
      · have k := of_decide_eq_false k
        have k2 := of_decide_eq_true k2
        exact fun y ey => leaf (-1) true y ey (fun _ => hn) (fun z => nomatch z) (by omega) (by omega)
      · have k := of_decide_eq_false k
        have k2 := of_decide_eq_false k2
        exact fun y ey => leaf 0 true y ey (fun _ => hn) (fun z => nomatch z) (by omega) (by omega)
    · have hn : 0 ≤ n := by
        rcases Int.lt_trichotomy n 0 with h | h | h
        · rw [Int.sign_eq_neg_one_of_neg h] at e9; subst e9; simp at en
        · omega
        · omega
      intro x31 e31
      have s1 : x31 = x6 - x8 := by omega
      refine ⟨fun k => ⟨trivial, ?_⟩, fun k x38 e38 => ⟨fun k2 => ⟨trivial, ?_⟩, fun k2 => ⟨trivial, ?_⟩⟩⟩
      · have k := of_decide_eq_true k
        exact fun y ey => leaf 1 false y ey (fun z => nomatch z) (fun _ => hn) (by omega) (by omega)
      · have k := of_decide_eq_false k
        have k2 := of_decide_eq_true k2
        exact fun y ey => leaf (-1) false y ey (fun z => nomatch z) (fun _ => hn) (by omega) (by omega)
      · have k := of_decide_eq_false k
        have k2 := of_decide_eq_false k2
        exact fun y ey => leaf 0 false y ey (fun z => nomatch z) (fun _ => hn) (by omega) (by omega)
  · exact h.elim
end Go.Proofs.Ytneingpnkdeooaa
