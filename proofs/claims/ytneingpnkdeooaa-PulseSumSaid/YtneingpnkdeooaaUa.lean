/-
  Small definitions that all parts share.
  Conditions: none.
-/
import Derived.Test.YtneingpnkdeooaaHzb
import Derived.Test.YtneingpnkdeooaaChecked
namespace U
open Go
def allN (n : Nat) (p : Nat → Bool) : Bool := (List.range n).all p
theorem allN_succ (n : Nat) (p : Nat → Bool) : allN (n + 1) p = (allN n p && p n) := by simp [allN, List.range_succ]
theorem allN_iff {n : Nat} {p : Nat → Bool} : allN n p = true ↔ ∀ j, j < n → p j = true := by simp [allN]
theorem allN_false {n j : Nat} {p : Nat → Bool} (hj : j < n) (h : p j = false) : allN n p = false := by
  cases ha : allN n p with
  | false => rfl
  | true => rw [allN_iff.1 ha j hj] at h; cases h
/-- cell k of row j -/
def ec (l : List (List Int)) (j k : Nat) : Int := (l.getD j []).getD k 0
/-- the number in row j -/
def el (l : List (List Int)) (j : Nat) : Int := (l.getD j []).getD 0 0
theorem wrap_small {x : Int} (h1 : -9223372036854775808 ≤ x) (h2 : x < 9223372036854775808) : IntKind.i64.wrap x = x := by
  simp [IntKind.wrap, IntKind.signed, IntKind.bits]
  split <;> omega
theorem el_append (l m : List (List Int)) (j : Nat) : el (l ++ m) j = if j < l.length then el l j else el m (j - l.length) := by
  unfold el
  simp only [List.getD_eq_getElem?_getD, List.getElem?_append]
  split <;> rfl
theorem el_single (v : Int) : el [[v]] 0 = v := rfl
theorem tdiv_pos {a b : Int} (h : 0 ≤ a) : a.tdiv b = a / b := Int.tdiv_eq_ediv_of_nonneg h
theorem tmod_pos {a b : Int} (h : 0 ≤ a) : a.tmod b = a % b := Int.tmod_eq_emod_of_nonneg h
/-- v modulo n as the program takes it -/
theorem mod_eq {a b : Int} (hb : 0 < b) : (a.tmod b + b).tmod b = a % b := by
  have h1 : -b < a.tmod b := by
    have := Int.lt_tmod_of_pos a hb; omega
  rw [tmod_pos (by omega), Int.add_emod_right, Int.tmod_def, Int.sub_mul_emod_self_left]
theorem tmod_lt {a b : Int} (hb : 0 < b) : -b < a.tmod b ∧ a.tmod b < b := ⟨by have := Int.lt_tmod_of_pos a hb; omega, Int.tmod_lt_of_pos a hb⟩
end U
namespace U
theorem tdiv_ite {a b : Int} (hb : 0 < b) : a.tdiv b = if 0 ≤ a then a / b else -((-a) / b) := by
  split
  · rename_i h; exact Int.tdiv_eq_ediv_of_nonneg h
  · rename_i h
    have := Int.neg_tdiv (-a) b
    rw [Int.neg_neg] at this
    rw [this, Int.tdiv_eq_ediv_of_nonneg (by omega)]
theorem tmod_ite {a b : Int} (_ : 0 < b) : a.tmod b = if 0 ≤ a then a % b else -((-a) % b) := by
  split
  · rename_i h; exact Int.tmod_eq_emod_of_nonneg h
  · rename_i h
    have := Int.neg_tmod (-a) b
    rw [Int.neg_neg] at this
    rw [this, Int.tmod_eq_emod_of_nonneg (by omega)]
end U
namespace U
/-- the numbers of a literal list lie between two bounds -/
theorem el_bd {L : List (List Int)} {lo hi : Int} (h : (List.range L.length).all (fun j => decide (lo ≤ el L j ∧ el L j ≤ hi)) = true) {i : Int} (h0 : 0 ≤ i) (h1 : i < (L.length : Int)) : lo ≤ el L i.toNat ∧ el L i.toNat ≤ hi := by
  rw [List.all_eq_true] at h
  exact of_decide_eq_true (h i.toNat (List.mem_range.2 (by omega)))
end U
