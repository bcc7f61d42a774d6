/-
  The correction of the pitch errors of a screw: the plain law.
  Conditions: none.
-/
import Derived.Test.YtneingpnkdeooaaWb
namespace U
open Go
/-- the correction, times the distance of the knots -/
def cn (og sg : Int) (pit : List (List Int)) (p : Int) : Int :=
  if p ≤ og then el pit 0 * sg
  else if (pit.length : Int) - 1 ≤ (p - og) / sg then el pit (pit.length - 1) * sg
  else el pit ((p - og) / sg).toNat * sg + (el pit (((p - og) / sg).toNat + 1) - el pit ((p - og) / sg).toNat) * ((p - og) % sg)
def corr (og sg : Int) (pit : List (List Int)) (p : Int) : Int := if pit.length = 0 then 0 else (2 * cn og sg pit p + sg) / (2 * sg)
def mot (st og sg : Int) (pit : List (List Int)) (p : Int) : Int := (2 * (p + corr og sg pit p) + st) / (2 * st)
/-- the slope of a table -/
def okSl (sg : Int) (pit : List (List Int)) : Prop := (0 < pit.length → 4 ≤ sg) ∧ ∀ j, j + 1 < pit.length → el pit (j + 1) - el pit j ≤ sg / 4 ∧ el pit j - el pit (j + 1) ≤ sg / 4

theorem corr_knot {sg v : Int} (hs : 0 < sg) : (2 * (v * sg) + sg) / (2 * sg) = v :=
  ediv_of (by omega) (by rw [Int.mul_assoc, Int.mul_comm sg v]; omega) (by rw [Int.mul_assoc, Int.mul_comm sg v]; omega)

theorem cn_step {og sg : Int} {pit : List (List Int)} (h : okSl sg pit) (hl : 0 < pit.length) (p : Int) : cn og sg pit (p + 1) - cn og sg pit p ≤ sg / 4 ∧ cn og sg pit p - cn og sg pit (p + 1) ≤ sg / 4 := by
  have hs := h.1 hl
  have q0 : 0 ≤ sg / 4 := by omega
  unfold cn
  by_cases h1 : p + 1 ≤ og
  · rw [if_pos h1, if_pos (by omega)]; omega
  rw [if_neg h1]
  by_cases h2 : p ≤ og
  · rw [if_pos h2]
    have e1 : p + 1 - og = 1 := by omega
    have e2 : (1 : Int) / sg = 0 := Int.ediv_eq_zero_of_lt (by omega) (by omega)
    have e3 : (1 : Int) % sg = 1 := Int.emod_eq_of_lt (by omega) (by omega)
    rw [e1, e2, e3]
    by_cases h3 : (pit.length : Int) - 1 ≤ 0
    · rw [if_pos h3, show pit.length - 1 = 0 by omega]; omega
    · rw [if_neg h3]
      have := h.2 0 (by omega)
      simp only [Int.toNat_zero, Int.mul_one, Nat.zero_add] at *
      omega
  · rw [if_neg h2]
    have m1 := Int.mul_ediv_add_emod (p - og) sg
    have r0 := Int.emod_nonneg (p - og) (show sg ≠ 0 by omega)
    have r1 := Int.emod_lt_of_pos (p - og) (show 0 < sg by omega)
    have i0 : 0 ≤ (p - og) / sg := Int.ediv_nonneg (by omega) (by omega)
    generalize hi : (p - og) / sg = i at *
    generalize hr : (p - og) % sg = r at *
    by_cases hlast : r = sg - 1
    · -- on to the next knot
      have e2 : (p + 1 - og) / sg = i + 1 := ediv_of (by omega) (by rw [Int.mul_add]; omega) (by rw [Int.mul_add]; omega)
      have e3 : (p + 1 - og) % sg = 0 := by
        have := Int.mul_ediv_add_emod (p + 1 - og) sg
        rw [e2, Int.mul_add] at this
        omega
      rw [e2, e3]
      obtain ⟨j, rfl⟩ := Int.eq_ofNat_of_zero_le i0
      simp only [Int.toNat_natCast, Int.mul_zero, Int.add_zero, show ((j : Int) + 1).toNat = j + 1 by omega]
      by_cases h3 : (pit.length : Int) - 1 ≤ (j : Int)
      · rw [if_pos h3, if_pos (by omega)]; omega
      · rw [if_neg h3]
        have hk := h.2 j (by omega)
        have key : (el pit (j + 1)) * sg - (el pit j * sg + (el pit (j + 1) - el pit j) * r) = el pit (j + 1) - el pit j := by
          rw [hlast, Int.mul_sub, Int.sub_mul, Int.mul_one]; omega
        by_cases h4 : (pit.length : Int) - 1 ≤ (j : Int) + 1
        · rw [if_pos h4, show pit.length - 1 = j + 1 by omega]; omega
        · rw [if_neg h4]; omega
    · have e2 : (p + 1 - og) / sg = i := ediv_of (by omega) (by omega) (by omega)
      have e3 : (p + 1 - og) % sg = r + 1 := by
        have := Int.mul_ediv_add_emod (p + 1 - og) sg
        rw [e2] at this
        omega
      rw [e2, e3]
      obtain ⟨j, rfl⟩ := Int.eq_ofNat_of_zero_le i0
      simp only [Int.toNat_natCast]
      by_cases h3 : (pit.length : Int) - 1 ≤ (j : Int)
      · rw [if_pos h3]; omega
      · rw [if_neg h3]
        have hk := h.2 j (by omega)
        rw [Int.mul_add, Int.mul_one]
        omega

/-- over a distance -/
theorem cn_lip {og sg : Int} {pit : List (List Int)} (h : okSl sg pit) (hl : 0 < pit.length) (p : Int) : ∀ n : Nat, cn og sg pit (p + n) - cn og sg pit p ≤ n * (sg / 4) ∧ cn og sg pit p - cn og sg pit (p + n) ≤ n * (sg / 4)
  | 0 => by simp
  | n + 1 => by
    have ih := cn_lip (og := og) h hl p n
    have st := cn_step (og := og) h hl (p + n)
    rw [show p + (n : Int) + 1 = p + ((n + 1 : Nat) : Int) by omega] at st
    rw [show ((n + 1 : Nat) : Int) * (sg / 4) = n * (sg / 4) + sg / 4 by rw [show ((n + 1 : Nat) : Int) = (n : Int) + 1 by omega, Int.add_mul, Int.one_mul]]
    omega

/-- four times the change of the correction is at most the distance and 4, less something -/
theorem corr_lip {og sg : Int} {pit : List (List Int)} (h : okSl sg pit) (p : Int) (n : Nat) : 4 * (corr og sg pit (p + n) - corr og sg pit p) < n + 4 ∧ 4 * (corr og sg pit p - corr og sg pit (p + n)) < n + 4 := by
  unfold corr
  by_cases hl : pit.length = 0
  · rw [if_pos hl, if_pos hl]; omega
  · rw [if_neg hl, if_neg hl]
    have hs := h.1 (by omega)
    have lip := cn_lip (og := og) h (by omega) p n
    generalize cn og sg pit (p + n) = a at *
    generalize cn og sg pit p = b at *
    have a1 := Int.mul_ediv_add_emod (2 * a + sg) (2 * sg)
    have a2 := Int.emod_nonneg (2 * a + sg) (show 2 * sg ≠ 0 by omega)
    have a3 := Int.emod_lt_of_pos (2 * a + sg) (show 0 < 2 * sg by omega)
    have b1 := Int.mul_ediv_add_emod (2 * b + sg) (2 * sg)
    have b2 := Int.emod_nonneg (2 * b + sg) (show 2 * sg ≠ 0 by omega)
    have b3 := Int.emod_lt_of_pos (2 * b + sg) (show 0 < 2 * sg by omega)
    generalize (2 * a + sg) / (2 * sg) = A at *
    generalize (2 * b + sg) / (2 * sg) = B at *
    have hq : 4 * ((n : Int) * (sg / 4)) ≤ n * sg := by
      have : (n : Int) * (4 * (sg / 4)) ≤ n * sg := Int.mul_le_mul_of_nonneg_left (by omega) (by omega)
      rw [show 4 * ((n : Int) * (sg / 4)) = n * (4 * (sg / 4)) by rw [← Int.mul_assoc, Int.mul_comm 4 (n : Int), Int.mul_assoc]]
      exact this
    have fin : ∀ x y : Int, 2 * sg * x + 2 * sg * y ≤ 0 → False → True := fun _ _ _ _ => trivial
    constructor
    · -- 2 sg (A - B) < 2 (a - b) + 2 sg
      have h1 : 2 * sg * (A - B) < 2 * (a - b) + 2 * sg := by rw [Int.mul_sub]; omega
      refine Int.not_le.1 fun hc => ?_
      have h2 : sg * ((n : Int) + 4) ≤ sg * (4 * (A - B)) := Int.mul_le_mul_of_nonneg_left hc (by omega)
      have h3 : sg * (4 * (A - B)) = 2 * (2 * sg * (A - B)) := by grind
      rw [Int.mul_add, Int.mul_comm sg (n : Int)] at h2
      omega
    · have h1 : 2 * sg * (B - A) < 2 * (b - a) + 2 * sg := by rw [Int.mul_sub]; omega
      refine Int.not_le.1 fun hc => ?_
      have h2 : sg * ((n : Int) + 4) ≤ sg * (4 * (B - A)) := Int.mul_le_mul_of_nonneg_left hc (by omega)
      have h3 : sg * (4 * (B - A)) = 2 * (2 * sg * (B - A)) := by grind
      rw [Int.mul_add, Int.mul_comm sg (n : Int)] at h2
      omega

theorem corr_step {og sg : Int} {pit : List (List Int)} (h : okSl sg pit) (p : Int) : -1 ≤ corr og sg pit (p + 1) - corr og sg pit p ∧ corr og sg pit (p + 1) - corr og sg pit p ≤ 1 := by
  have := corr_lip (og := og) h p 1
  simp only [Int.natCast_one] at this
  omega

/-- the corrected position never goes back -/
theorem g_mono {og sg : Int} {pit : List (List Int)} (h : okSl sg pit) (p : Int) : ∀ n : Nat, p + corr og sg pit p ≤ p + n + corr og sg pit (p + n)
  | 0 => by simp
  | n + 1 => by
    have ih := g_mono (og := og) h p n
    have st := corr_step (og := og) h (p + n)
    rw [show p + (n : Int) + 1 = p + ((n + 1 : Nat) : Int) by omega] at st
    omega

/-- what Inverse returns -/
def isInv (st og sg : Int) (pit : List (List Int)) (m p : Int) : Prop :=
  m * st ≤ p + corr og sg pit p ∧ p - 1 + corr og sg pit (p - 1) < m * st ∧ m * st - 4097 < p ∧ p ≤ m * st + 4096
theorem isInv_eq {st og sg m p q : Int} {pit : List (List Int)} (h : okSl sg pit) (hp : m * st ≤ p + corr og sg pit p ∧ p - 1 + corr og sg pit (p - 1) < m * st) (hq : m * st ≤ q + corr og sg pit q ∧ q - 1 + corr og sg pit (q - 1) < m * st) : p = q := by
  rcases Int.lt_trichotomy p q with hlt | he | hgt
  · obtain ⟨n, hn⟩ := Int.eq_ofNat_of_zero_le (show 0 ≤ q - 1 - p by omega)
    have := g_mono (og := og) h p n
    rw [show p + (n : Int) = q - 1 by omega] at this
    omega
  · exact he
  · obtain ⟨n, hn⟩ := Int.eq_ofNat_of_zero_le (show 0 ≤ p - 1 - q by omega)
    have := g_mono (og := og) h q n
    rw [show q + (n : Int) = p - 1 by omega] at this
    omega
end U
