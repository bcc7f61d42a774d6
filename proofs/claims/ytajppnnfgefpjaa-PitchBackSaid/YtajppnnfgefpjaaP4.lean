/-
  The laws of the screw: there and back.
  Conditions: none.
-/
import Derived.Test.YtajppnnfgefpjaaP3
namespace Go.Proofs.Ytajppnnfgefpjaa
open Go Go.HL U
theorem lawInverse : Sound Try.prog 7 SLaw := by
  refine sound_of (C := CPI) tabP4 Try.func7 (by kernel_rfl) (by decide +kernel) (by kernel_rfl) rfl ⟨sAwake, sAxes, sMod, sNear, sCorrect, sCorrect2, sSteps, sSteps2, sMotor, sMotor2, sInverse, sInverse2, trivial⟩ (loops0 (by kernel_rfl)) ?_
  intro hargs pars R h
  unfold SLaw at h
  split at h
  case h_2 => exact h.elim
  rename_i l n
  obtain ⟨⟨h1, h2⟩, hq⟩ := h
  refine byVC (vcPI l n R) ⟨trivial, fun y1 e1 => ⟨fun k => (by rw [e1] at k; cases k), fun _ => ⟨h1, ax3_ex, fun x hx => ?_⟩⟩⟩
  have hc := okAx_C hx.1
  have hs := okAx_S hx.1
  have hst := hx.1.1
  generalize x.1 = a at *
  obtain ⟨st, sp, ac, je, bl, og, sg, pit⟩ := a
  dsimp only at *
  have d1 := Int.mul_ediv_add_emod 67108864 st
  have d2 := Int.emod_nonneg 67108864 (show st ≠ 0 by omega)
  have d3 := Int.emod_lt_of_pos 67108864 (show 0 < st by omega)
  have d4 := Int.mul_ediv_add_emod 33554432 st
  have d5 := Int.emod_nonneg 33554432 (show st ≠ 0 by omega)
  have d6 := Int.emod_lt_of_pos 33554432 (show 0 < st by omega)
  have t1 : Int.tdiv 67108864 st = 67108864 / st := Int.tdiv_eq_ediv_of_nonneg (by omega)
  have t2 : Int.tdiv 33554432 st = 33554432 / st := Int.tdiv_eq_ediv_of_nonneg (by omega)
  have p1 : 1 ≤ (67108864 : Int) / st := Int.le_ediv_of_mul_le (by omega) (by omega)
  have p2 : (67108864 : Int) / st ≤ 67108864 := Int.ediv_le_self _ (by omega)
  have p3 : 0 ≤ (33554432 : Int) / st := Int.ediv_nonneg (by omega) (by omega)
  have p4 : (33554432 : Int) / st ≤ 33554432 := Int.ediv_le_self _ (by omega)
  rw [t1, t2]
  generalize (67108864 : Int) / st = a at *
  generalize (33554432 : Int) / st = b at *
  refine ⟨by omega, by omega, by omega, fun y3 e3 => ⟨by omega, fun y4 e4 => ⟨by omega, by omega, fun y5 e5 => ?_⟩⟩⟩
  have f0 := Int.emod_nonneg n (show y3 ≠ 0 by omega)
  have f1 := Int.emod_lt_of_pos n (show 0 < y3 by omega)
  rw [← e4] at f0 f1
  refine ⟨by omega, fun y6 e6 => ?_⟩
  have u0 : y6 * st = y4 * st - b * st := by rw [e6, e5, Int.sub_mul]
  have u1 := Int.mul_nonneg f0 (show 0 ≤ st by omega)
  have u2 := mul_le_of (show y4 ≤ a - 1 by omega) (show 0 ≤ st by omega)
  rw [Int.sub_mul, Int.one_mul, Int.mul_comm a st] at u2
  rw [Int.mul_comm b st] at u0
  have g : -33554432 ≤ y6 * st ∧ y6 * st ≤ 33554432 := by omega
  refine ⟨⟨hc, by omega⟩, inv_ex hc, fun q hi => ⟨trivial, fun y8 e8 => ⟨fun k => ?_, fun k => ⟨⟨hc, by omega⟩, inv_ex hc, fun q2 hi2 => ⟨fun k2 => ?_, fun k2 => ?_⟩⟩⟩⟩⟩
  · have b3 := hi.2.2
    refine ⟨fun k => ?_, fun k => ?_⟩
    · rw [decide_eq_true (show q ≤ 33558528 by omega)]; exact hq
    · have k := of_decide_eq_false k; omega
  · have b3 := hi.2.2
    have b1 := corr_bd hc q
    refine ⟨⟨hc, by omega⟩, fun y10 e10 => ?_⟩
    rw [← e10] at b1
    refine ⟨by omega, fun y11 e11 => ⟨by omega, fun y12 e12 => ⟨fun k => ⟨by omega, fun y13 e13 => ⟨by omega, fun y14 e14 => ⟨⟨hc, by omega⟩, fun y15 e15 => ?_⟩⟩⟩, fun k => ?_⟩⟩⟩
    · have b2 := corr_bd hc y14
      have i2 := hi.2.1
      rw [← e14, ← e15] at i2
      rw [← e15] at b2
      refine ⟨by omega, fun y16 e16 => ⟨by omega, fun y17 e17 => ⟨fun k => ⟨⟨by omega, hc, by omega⟩, fun y18 e18 => ?_⟩, fun k => ?_⟩⟩⟩
      · rw [e18, motor_inv hs hst.1 hi, beq_self_eq_true]; exact hq
      · have k := of_decide_eq_false k; omega
    · have k := of_decide_eq_false k
      have i1 := hi.1
      rw [← e10] at i1
      omega
  · have : q = q2 := isInv_eq hs ⟨hi.1, hi.2.1⟩ ⟨hi2.1, hi2.2.1⟩
    rw [this, beq_self_eq_true] at k2; cases k2
theorem lawBack : Sound Try.prog 8 SLaw := by
  refine sound_of (C := CPB) tabP4 Try.func8 (by kernel_rfl) (by decide +kernel) (by kernel_rfl) rfl ⟨sAwake, sAxes, sMod, sNear, sCorrect, sCorrect2, sSteps, sSteps2, sMotor, sMotor2, sInverse, sInverse2, trivial⟩ (loops0 (by kernel_rfl)) ?_
  intro hargs pars R h
  unfold SLaw at h
  split at h
  case h_2 => exact h.elim
  rename_i l n
  obtain ⟨⟨h1, h2⟩, hq⟩ := h
  refine byVC (vcPB l n R) ⟨trivial, fun y1 e1 => ⟨fun k => (by rw [e1] at k; cases k), fun _ => ⟨h1, ax3_ex, fun x hx => ?_⟩⟩⟩
  have hc := okAx_C hx.1
  have hs := okAx_S hx.1
  have hst := hx.1.1
  generalize x.1 = a at *
  obtain ⟨st, sp, ac, je, bl, og, sg, pit⟩ := a
  dsimp only at *
  refine ⟨by omega, by omega, fun y3 e3 => ⟨by omega, fun y4 e4 => ⟨⟨by omega, hc, by omega⟩, fun y5 e5 => ?_⟩⟩⟩
  have b1 := corr_bd hc y4
  have mo := motor_of (st := st) (og := og) (sg := sg) (p := y4) (pit := pit) (by omega)
  rw [← e5] at mo
  refine ⟨⟨hc, by omega⟩, inv_ex hc, fun q hi => ?_⟩
  have b3 := hi.2.2
  have bb := back_bd hs hst.1 e5.symm hi
  refine ⟨by omega, fun y7 e7 => ⟨fun k => ⟨by omega, fun y8 e8 => ⟨fun k2 => ⟨⟨hc, by omega⟩, fun y9 e9 => ?_⟩, fun k2 => ?_⟩⟩, fun k => ?_⟩⟩
  · rw [← e9] at b1
    refine ⟨by omega, fun y10 e10 => ⟨⟨by omega, by omega⟩, fun y11 e11 => ?_⟩⟩
    rw [e11, e10, e9, stp_eq, ← e5, beq_self_eq_true]; exact hq
  · have k2 := of_decide_eq_false k2; omega
  · have k := of_decide_eq_false k; omega
end Go.Proofs.Ytajppnnfgefpjaa
