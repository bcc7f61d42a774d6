/-
  Package modal: selectCodes.
  Conditions: none.
-/
import Derived.Test.YtcfgklmpfkmdkaaM3
namespace Go.Proofs.Ytcfgklmpfkmdkaa
open Go Go.HL U
attribute [local irreducible] hfun
set_option maxHeartbeats 400000 in
set_option maxRecDepth 100000 in
theorem sSel : Sound Try.prog 46 SSel := by
  refine sound_of (C := CSel) [] Try.func46 (by kernel_rfl) (by decide +kernel) (by kernel_rfl) rfl trivial (loops1 (by kernel_rfl) (loopOK_of (an := anSel) (S := LSel) (by kernel_rfl) loopSel)) ?_
  intro hargs pars R h
  unfold SSel at h
  split at h
  case h_2 => exfalso; exact h
  rename_i b f
  split at h
  case h_2 => exact h.elim
  rename_i m0 m1 m2 m3 m4 m5 m6 m7 m8 m9 m10 m11 m12 m13 m14 m15 m16 m17 m18 m19 m20 m21
  have h : True ∧ R ⟨.tup [], false, [cM (selM f (M.mk m0 m1 m2 m3 m4 m5 m6 m7 m8 m9 m10 m11 m12 m13 m14 m15 m16 m17 m18 m19 m20 m21)), [.mpb f]], []⟩ := h
  have hq := h.2
  clear h
  unfold selM at hq
  dsimp only at hq
  refine byVC (vcSel m0 m1 m2 m3 m4 m5 m6 m7 m8 m9 m10 m11 m12 m15 m16 m17 m18 m19 m20 m21 m13 m14 f R) ⟨trivial, ?_⟩
  generalize selL f 12 0 (M.mk m0 m1 m2 m3 m4 m5 m6 m7 m8 m9 m10 m11 m12 m13 m14 m15 m16 m17 m18 m19 m20 m21) = a at *
  obtain ⟨m0, m1, m2, m3, m4, m5, m6, m7, m8, m9, m10, m11, m12, m13, m14, m15, m16, m17, m18, m19, m20, m21⟩ := a
  dsimp only at hq ⊢
  refine ⟨fun k1 => ?_, fun k1 => ?_⟩
  · rw [pk_true k1] at hq
    refine ⟨fun k2 => ⟨fun k3 => ?_, fun k3 => ?_⟩, fun k2 => ⟨fun k3 => ?_, fun k3 => ?_⟩⟩
    all_goals
      simp only [beq_iff_eq, beq_eq_false_iff_ne, ne_eq] at k2 k3
      simp only [k2, k3, if_true, if_false] at hq
      exact hq
  · rw [pk_false k1] at hq
    refine ⟨fun k2 => ⟨fun k3 => ?_, fun k3 => ?_⟩, fun k2 => ⟨fun k3 => ?_, fun k3 => ?_⟩⟩
    all_goals
      simp only [beq_iff_eq, beq_eq_false_iff_ne, ne_eq] at k2 k3
      simp only [k2, k3, if_true, if_false] at hq
      exact hq
end Go.Proofs.Ytcfgklmpfkmdkaa
