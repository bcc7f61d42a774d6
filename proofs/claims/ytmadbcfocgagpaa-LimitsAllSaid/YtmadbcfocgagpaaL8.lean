/-
  All axes within their limits: the walks.
  Conditions: none.
-/
import Derived.Test.YtmadbcfocgagpaaL7
set_option maxHeartbeats 4000000
namespace U
theorem col_length (l : List (List Int)) (j : Nat) : (col l j).length = l.length := by unfold col; simp
def pre (l : List (List Int)) (j n i : Nat) : List (List Int) := ((List.range i).map fun i => [ec l i j]) ++ List.replicate (n - i) [0]
theorem pre_set {l : List (List Int)} {j n i : Nat} (h : i < n) : (pre l j n i).set i [ec l i j] = pre l j n (i + 1) := by
  unfold pre
  obtain ⟨m, hm⟩ : ∃ m, n - i = m + 1 := ⟨n - i - 1, by omega⟩
  rw [hm, show n - (i + 1) = m by omega, List.replicate_succ, List.range_succ, List.map_append]
  simp [List.set_append]
theorem pre_length {l : List (List Int)} {j n i : Nat} (h : i ≤ n) : (pre l j n i).length = n := by
  unfold pre; simp; omega
theorem pre_all (l : List (List Int)) (j : Nat) : pre l j l.length l.length = col l j := by unfold pre col; simp
theorem pre_none (l : List (List Int)) (j : Nat) : pre l j l.length 0 = List.replicate l.length [0] := by unfold pre; simp
theorem col_app (l : List (List Int)) (j i : Nat) : ((List.range i).map fun i => [ec l i j]) ++ [[ec l i j]] = (List.range (i + 1)).map fun i => [ec l i j] := by
  rw [List.range_succ, List.map_append]; rfl
end U
namespace Go.Proofs.Ytmadbcfocgagpaa
open Go Go.HL U
theorem loop19i : ∀ v Q, (L19i v).wp Q → hloop C19 an19i (nthLoop Try.f19 1) v Q := by
  intro v Q h
  unfold L19i at h
  split at h
  case h_2 => exact h.elim
  rename_i l r j n j2 len k b rows
  split at h
  case h_2 => exact h.elim
  rename_i st0 sp0 ac0 je0 lo0 hi0 bl0 og0 sg0 pit0 st1 sp1 ac1 je1 lo1 hi1 bl1 og1 sg1 pit1 st2 sp2 ac2 je2 lo2 hi2 bl2 og2 sg2 pit2
  obtain ⟨⟨h1, h2, h3, h4, h5, h6⟩, hq⟩ := h
  subst h2 h3 h4 h5
  have hj : j = 0 ∨ j = 1 ∨ j = 2 := by omega
  rcases hj with rfl | rfl | rfl
  · rw [← pre_none l 0]
    refine hloop_rec (σ := Nat) (fun i => ([.ce (.sl false [4, 4, 4] l), .ce (.ptr 1000002 0), .ce (.bool r), .ce (.num .i64 0), .ce (.msl 1000013 l.length), .ce (.num .i64 j2), .ce (.int .i64 (l.length : Int)), .ce (.int .i64 (i : Int))], [[.int .i64 st0, .int .i64 sp0, .int .i64 ac0, .int .i64 je0, .int .i64 lo0, .int .i64 hi0, .int .i64 bl0, .int .i64 og0, .int .i64 sg0, .sl false [4] pit0, .int .i64 st1, .int .i64 sp1, .int .i64 ac1, .int .i64 je1, .int .i64 lo1, .int .i64 hi1, .int .i64 bl1, .int .i64 og1, .int .i64 sg1, .sl false [4] pit1, .int .i64 st2, .int .i64 sp2, .int .i64 ac2, .int .i64 je2, .int .i64 lo2, .int .i64 hi2, .int .i64 bl2, .int .i64 og2, .int .i64 sg2, .sl false [4] pit2], [.arr [4] (pre l 0 l.length i)]]))
      (fun i => l.length - i) (fun i => i ≤ l.length) ?_ 0 (Nat.zero_le _)
    intro i hi K hn he hr
    refine byVB (vb19i0 l (pre l 0 l.length i) r j2 l.length i l.length st0 sp0 ac0 je0 lo0 hi0 bl0 og0 sg0 pit0 st1 sp1 ac1 je1 lo1 hi1 bl1 og1 sg1 pit1 st2 sp2 ac2 je2 lo2 hi2 bl2 og2 sg2 pit2 K) ⟨fun c => ?_, fun c => ?_⟩
    · have c := of_decide_eq_true c
      refine ⟨by omega, by omega, fun x1 e1 => ⟨by omega, by rw [pre_length hi]; omega, ?_, fun x2 e2 => ?_⟩⟩
      · omega
      · have g := hn (i + 1) (by omega) (by omega)
        rw [← pre_set (by omega), show ((i + 1 : Nat) : Int) = x2 by omega] at g
        rw [e1, Int.toNat_natCast]
        exact g
    · have c := of_decide_eq_false c
      have : i = l.length := by omega
      subst this
      rw [pre_all]
      exact he _ _ hq
  · rw [← pre_none l 1]
    refine hloop_rec (σ := Nat) (fun i => ([.ce (.sl false [4, 4, 4] l), .ce (.ptr 1000002 0), .ce (.bool r), .ce (.num .i64 1), .ce (.msl 1000013 l.length), .ce (.num .i64 j2), .ce (.int .i64 (l.length : Int)), .ce (.int .i64 (i : Int))], [[.int .i64 st0, .int .i64 sp0, .int .i64 ac0, .int .i64 je0, .int .i64 lo0, .int .i64 hi0, .int .i64 bl0, .int .i64 og0, .int .i64 sg0, .sl false [4] pit0, .int .i64 st1, .int .i64 sp1, .int .i64 ac1, .int .i64 je1, .int .i64 lo1, .int .i64 hi1, .int .i64 bl1, .int .i64 og1, .int .i64 sg1, .sl false [4] pit1, .int .i64 st2, .int .i64 sp2, .int .i64 ac2, .int .i64 je2, .int .i64 lo2, .int .i64 hi2, .int .i64 bl2, .int .i64 og2, .int .i64 sg2, .sl false [4] pit2], [.arr [4] (pre l 1 l.length i)]]))
      (fun i => l.length - i) (fun i => i ≤ l.length) ?_ 0 (Nat.zero_le _)
    intro i hi K hn he hr
    refine byVB (vb19i1 l (pre l 1 l.length i) r j2 l.length i l.length st0 sp0 ac0 je0 lo0 hi0 bl0 og0 sg0 pit0 st1 sp1 ac1 je1 lo1 hi1 bl1 og1 sg1 pit1 st2 sp2 ac2 je2 lo2 hi2 bl2 og2 sg2 pit2 K) ⟨fun c => ?_, fun c => ?_⟩
    · have c := of_decide_eq_true c
      refine ⟨by omega, by omega, fun x1 e1 => ⟨by omega, by rw [pre_length hi]; omega, ?_, fun x2 e2 => ?_⟩⟩
      · omega
      · have g := hn (i + 1) (by omega) (by omega)
        rw [← pre_set (by omega), show ((i + 1 : Nat) : Int) = x2 by omega] at g
        rw [e1, Int.toNat_natCast]
        exact g
    · have c := of_decide_eq_false c
      have : i = l.length := by omega
      subst this
      rw [pre_all]
      exact he _ _ hq
  · rw [← pre_none l 2]
    refine hloop_rec (σ := Nat) (fun i => ([.ce (.sl false [4, 4, 4] l), .ce (.ptr 1000002 0), .ce (.bool r), .ce (.num .i64 2), .ce (.msl 1000013 l.length), .ce (.num .i64 j2), .ce (.int .i64 (l.length : Int)), .ce (.int .i64 (i : Int))], [[.int .i64 st0, .int .i64 sp0, .int .i64 ac0, .int .i64 je0, .int .i64 lo0, .int .i64 hi0, .int .i64 bl0, .int .i64 og0, .int .i64 sg0, .sl false [4] pit0, .int .i64 st1, .int .i64 sp1, .int .i64 ac1, .int .i64 je1, .int .i64 lo1, .int .i64 hi1, .int .i64 bl1, .int .i64 og1, .int .i64 sg1, .sl false [4] pit1, .int .i64 st2, .int .i64 sp2, .int .i64 ac2, .int .i64 je2, .int .i64 lo2, .int .i64 hi2, .int .i64 bl2, .int .i64 og2, .int .i64 sg2, .sl false [4] pit2], [.arr [4] (pre l 2 l.length i)]]))
      (fun i => l.length - i) (fun i => i ≤ l.length) ?_ 0 (Nat.zero_le _)
    intro i hi K hn he hr
    refine byVB (vb19i2 l (pre l 2 l.length i) r j2 l.length i l.length st0 sp0 ac0 je0 lo0 hi0 bl0 og0 sg0 pit0 st1 sp1 ac1 je1 lo1 hi1 bl1 og1 sg1 pit1 st2 sp2 ac2 je2 lo2 hi2 bl2 og2 sg2 pit2 K) ⟨fun c => ?_, fun c => ?_⟩
    · have c := of_decide_eq_true c
      refine ⟨by omega, by omega, fun x1 e1 => ⟨by omega, by rw [pre_length hi]; omega, ?_, fun x2 e2 => ?_⟩⟩
      · omega
      · have g := hn (i + 1) (by omega) (by omega)
        rw [← pre_set (by omega), show ((i + 1 : Nat) : Int) = x2 by omega] at g
        rw [e1, Int.toNat_natCast]
        exact g
    · have c := of_decide_eq_false c
      have : i = l.length := by omega
      subst this
      rw [pre_all]
      exact he _ _ hq
theorem loop20i : ∀ v Q, (L20i v).wp Q → hloop C20 an20i (nthLoop Try.f20 1) v Q := by
  intro v Q h
  unfold L20i at h
  split at h
  case h_2 => exact h.elim
  rename_i l0 r j rows j2 l len k b
  split at h
  case h_2 => exact h.elim
  rename_i st0 sp0 ac0 je0 lo0 hi0 bl0 og0 sg0 pit0 st1 sp1 ac1 je1 lo1 hi1 bl1 og1 sg1 pit1 st2 sp2 ac2 je2 lo2 hi2 bl2 og2 sg2 pit2
  obtain ⟨⟨h1, h2, h4, h5, h6⟩, hq⟩ := h
  obtain rfl := List.eq_nil_of_length_eq_zero h2
  subst h4 h5
  have hj : j = 0 ∨ j = 1 ∨ j = 2 := by omega
  rcases hj with rfl | rfl | rfl
  · refine hloop_rec (σ := Nat) (fun i => ([.ce (.sl false [4, 4, 4] l0), .ce (.ptr 1000002 0), .ce (.bool r), .ce (.num .i64 0), .ce (.sl false [4] ((List.range i).map fun i => [ec l i 0])), .ce (.lit true), .ce (.num .i64 j2), .ce (.sl false [4, 4, 4] l), .ce (.int .i64 (l.length : Int)), .ce (.int .i64 (i : Int))], [[.int .i64 st0, .int .i64 sp0, .int .i64 ac0, .int .i64 je0, .int .i64 lo0, .int .i64 hi0, .int .i64 bl0, .int .i64 og0, .int .i64 sg0, .sl false [4] pit0, .int .i64 st1, .int .i64 sp1, .int .i64 ac1, .int .i64 je1, .int .i64 lo1, .int .i64 hi1, .int .i64 bl1, .int .i64 og1, .int .i64 sg1, .sl false [4] pit1, .int .i64 st2, .int .i64 sp2, .int .i64 ac2, .int .i64 je2, .int .i64 lo2, .int .i64 hi2, .int .i64 bl2, .int .i64 og2, .int .i64 sg2, .sl false [4] pit2]]))
      (fun i => l.length - i) (fun i => i ≤ l.length) ?_ 0 (Nat.zero_le _)
    intro i hi K hn he hr
    refine byVB (vb20i0 l l0 ((List.range i).map fun i => [ec l i 0]) r j2 l.length i st0 sp0 ac0 je0 lo0 hi0 bl0 og0 sg0 pit0 st1 sp1 ac1 je1 lo1 hi1 bl1 og1 sg1 pit1 st2 sp2 ac2 je2 lo2 hi2 bl2 og2 sg2 pit2 K) ⟨fun c => ?_, fun c => ?_⟩
    · have c := of_decide_eq_true c
      refine ⟨by omega, by omega, ⟨by simp; omega, by simp; unfold maxLen; omega⟩, by omega, fun x1 e1 => ?_⟩
      have g := hn (i + 1) (by omega) (by omega)
      rw [← col_app, show ((i + 1 : Nat) : Int) = x1 by omega] at g
      exact g
    · have c := of_decide_eq_false c
      have : i = l.length := by omega
      subst this
      exact he _ _ hq
  · refine hloop_rec (σ := Nat) (fun i => ([.ce (.sl false [4, 4, 4] l0), .ce (.ptr 1000002 0), .ce (.bool r), .ce (.num .i64 1), .ce (.sl false [4] ((List.range i).map fun i => [ec l i 1])), .ce (.lit true), .ce (.num .i64 j2), .ce (.sl false [4, 4, 4] l), .ce (.int .i64 (l.length : Int)), .ce (.int .i64 (i : Int))], [[.int .i64 st0, .int .i64 sp0, .int .i64 ac0, .int .i64 je0, .int .i64 lo0, .int .i64 hi0, .int .i64 bl0, .int .i64 og0, .int .i64 sg0, .sl false [4] pit0, .int .i64 st1, .int .i64 sp1, .int .i64 ac1, .int .i64 je1, .int .i64 lo1, .int .i64 hi1, .int .i64 bl1, .int .i64 og1, .int .i64 sg1, .sl false [4] pit1, .int .i64 st2, .int .i64 sp2, .int .i64 ac2, .int .i64 je2, .int .i64 lo2, .int .i64 hi2, .int .i64 bl2, .int .i64 og2, .int .i64 sg2, .sl false [4] pit2]]))
      (fun i => l.length - i) (fun i => i ≤ l.length) ?_ 0 (Nat.zero_le _)
    intro i hi K hn he hr
    refine byVB (vb20i1 l l0 ((List.range i).map fun i => [ec l i 1]) r j2 l.length i st0 sp0 ac0 je0 lo0 hi0 bl0 og0 sg0 pit0 st1 sp1 ac1 je1 lo1 hi1 bl1 og1 sg1 pit1 st2 sp2 ac2 je2 lo2 hi2 bl2 og2 sg2 pit2 K) ⟨fun c => ?_, fun c => ?_⟩
    · have c := of_decide_eq_true c
      refine ⟨by omega, by omega, ⟨by simp; omega, by simp; unfold maxLen; omega⟩, by omega, fun x1 e1 => ?_⟩
      have g := hn (i + 1) (by omega) (by omega)
      rw [← col_app, show ((i + 1 : Nat) : Int) = x1 by omega] at g
      exact g
    · have c := of_decide_eq_false c
      have : i = l.length := by omega
      subst this
      exact he _ _ hq
  · refine hloop_rec (σ := Nat) (fun i => ([.ce (.sl false [4, 4, 4] l0), .ce (.ptr 1000002 0), .ce (.bool r), .ce (.num .i64 2), .ce (.sl false [4] ((List.range i).map fun i => [ec l i 2])), .ce (.lit true), .ce (.num .i64 j2), .ce (.sl false [4, 4, 4] l), .ce (.int .i64 (l.length : Int)), .ce (.int .i64 (i : Int))], [[.int .i64 st0, .int .i64 sp0, .int .i64 ac0, .int .i64 je0, .int .i64 lo0, .int .i64 hi0, .int .i64 bl0, .int .i64 og0, .int .i64 sg0, .sl false [4] pit0, .int .i64 st1, .int .i64 sp1, .int .i64 ac1, .int .i64 je1, .int .i64 lo1, .int .i64 hi1, .int .i64 bl1, .int .i64 og1, .int .i64 sg1, .sl false [4] pit1, .int .i64 st2, .int .i64 sp2, .int .i64 ac2, .int .i64 je2, .int .i64 lo2, .int .i64 hi2, .int .i64 bl2, .int .i64 og2, .int .i64 sg2, .sl false [4] pit2]]))
      (fun i => l.length - i) (fun i => i ≤ l.length) ?_ 0 (Nat.zero_le _)
    intro i hi K hn he hr
    refine byVB (vb20i2 l l0 ((List.range i).map fun i => [ec l i 2]) r j2 l.length i st0 sp0 ac0 je0 lo0 hi0 bl0 og0 sg0 pit0 st1 sp1 ac1 je1 lo1 hi1 bl1 og1 sg1 pit1 st2 sp2 ac2 je2 lo2 hi2 bl2 og2 sg2 pit2 K) ⟨fun c => ?_, fun c => ?_⟩
    · have c := of_decide_eq_true c
      refine ⟨by omega, by omega, ⟨by simp; omega, by simp; unfold maxLen; omega⟩, by omega, fun x1 e1 => ?_⟩
      have g := hn (i + 1) (by omega) (by omega)
      rw [← col_app, show ((i + 1 : Nat) : Int) = x1 by omega] at g
      exact g
    · have c := of_decide_eq_false c
      have : i = l.length := by omega
      subst this
      exact he _ _ hq
theorem loop8i : ∀ v Q, (L8i v).wp Q → hloop C8 an8i (nthLoop Try.f8 1) v Q := by
  intro v Q h
  unfold L8i at h
  split at h
  case h_2 => exact h.elim
  rename_i l0 r ok j rows j2 l len k b
  split at h
  case h_2 => exact h.elim
  rename_i st0 sp0 ac0 je0 lo0 hi0 bl0 og0 sg0 pit0 st1 sp1 ac1 je1 lo1 hi1 bl1 og1 sg1 pit1 st2 sp2 ac2 je2 lo2 hi2 bl2 og2 sg2 pit2
  obtain ⟨⟨h1, h2, h4, h5, h6⟩, hq⟩ := h
  obtain rfl := List.eq_nil_of_length_eq_zero h2
  subst h4 h5
  have hj : j = 0 ∨ j = 1 ∨ j = 2 := by omega
  rcases hj with rfl | rfl | rfl
  · refine hloop_rec (σ := Nat) (fun i => ([.ce (.sl false [4, 4, 4] l0), .ce (.bool r), .ce (.ptr 1000005 0), .ce (.bool ok), .ce (.num .i64 0), .ce (.sl false [4] ((List.range i).map fun i => [ec l i 0])), .ce (.lit true), .ce (.num .i64 j2), .ce (.sl false [4, 4, 4] l), .ce (.int .i64 (l.length : Int)), .ce (.int .i64 (i : Int))], [[.int .i64 st0, .int .i64 sp0, .int .i64 ac0, .int .i64 je0, .int .i64 lo0, .int .i64 hi0, .int .i64 bl0, .int .i64 og0, .int .i64 sg0, .sl false [4] pit0, .int .i64 st1, .int .i64 sp1, .int .i64 ac1, .int .i64 je1, .int .i64 lo1, .int .i64 hi1, .int .i64 bl1, .int .i64 og1, .int .i64 sg1, .sl false [4] pit1, .int .i64 st2, .int .i64 sp2, .int .i64 ac2, .int .i64 je2, .int .i64 lo2, .int .i64 hi2, .int .i64 bl2, .int .i64 og2, .int .i64 sg2, .sl false [4] pit2]]))
      (fun i => l.length - i) (fun i => i ≤ l.length) ?_ 0 (Nat.zero_le _)
    intro i hi K hn he hr
    refine byVB (vb8i0 l l0 ((List.range i).map fun i => [ec l i 0]) r ok j2 l.length i st0 sp0 ac0 je0 lo0 hi0 bl0 og0 sg0 pit0 st1 sp1 ac1 je1 lo1 hi1 bl1 og1 sg1 pit1 st2 sp2 ac2 je2 lo2 hi2 bl2 og2 sg2 pit2 K) ⟨fun c => ?_, fun c => ?_⟩
    · have c := of_decide_eq_true c
      refine ⟨by omega, by omega, ⟨by simp; omega, by simp; unfold maxLen; omega⟩, by omega, fun x1 e1 => ?_⟩
      have g := hn (i + 1) (by omega) (by omega)
      rw [← col_app, show ((i + 1 : Nat) : Int) = x1 by omega] at g
      exact g
    · have c := of_decide_eq_false c
      have : i = l.length := by omega
      subst this
      exact he _ _ hq
  · refine hloop_rec (σ := Nat) (fun i => ([.ce (.sl false [4, 4, 4] l0), .ce (.bool r), .ce (.ptr 1000005 0), .ce (.bool ok), .ce (.num .i64 1), .ce (.sl false [4] ((List.range i).map fun i => [ec l i 1])), .ce (.lit true), .ce (.num .i64 j2), .ce (.sl false [4, 4, 4] l), .ce (.int .i64 (l.length : Int)), .ce (.int .i64 (i : Int))], [[.int .i64 st0, .int .i64 sp0, .int .i64 ac0, .int .i64 je0, .int .i64 lo0, .int .i64 hi0, .int .i64 bl0, .int .i64 og0, .int .i64 sg0, .sl false [4] pit0, .int .i64 st1, .int .i64 sp1, .int .i64 ac1, .int .i64 je1, .int .i64 lo1, .int .i64 hi1, .int .i64 bl1, .int .i64 og1, .int .i64 sg1, .sl false [4] pit1, .int .i64 st2, .int .i64 sp2, .int .i64 ac2, .int .i64 je2, .int .i64 lo2, .int .i64 hi2, .int .i64 bl2, .int .i64 og2, .int .i64 sg2, .sl false [4] pit2]]))
      (fun i => l.length - i) (fun i => i ≤ l.length) ?_ 0 (Nat.zero_le _)
    intro i hi K hn he hr
    refine byVB (vb8i1 l l0 ((List.range i).map fun i => [ec l i 1]) r ok j2 l.length i st0 sp0 ac0 je0 lo0 hi0 bl0 og0 sg0 pit0 st1 sp1 ac1 je1 lo1 hi1 bl1 og1 sg1 pit1 st2 sp2 ac2 je2 lo2 hi2 bl2 og2 sg2 pit2 K) ⟨fun c => ?_, fun c => ?_⟩
    · have c := of_decide_eq_true c
      refine ⟨by omega, by omega, ⟨by simp; omega, by simp; unfold maxLen; omega⟩, by omega, fun x1 e1 => ?_⟩
      have g := hn (i + 1) (by omega) (by omega)
      rw [← col_app, show ((i + 1 : Nat) : Int) = x1 by omega] at g
      exact g
    · have c := of_decide_eq_false c
      have : i = l.length := by omega
      subst this
      exact he _ _ hq
  · refine hloop_rec (σ := Nat) (fun i => ([.ce (.sl false [4, 4, 4] l0), .ce (.bool r), .ce (.ptr 1000005 0), .ce (.bool ok), .ce (.num .i64 2), .ce (.sl false [4] ((List.range i).map fun i => [ec l i 2])), .ce (.lit true), .ce (.num .i64 j2), .ce (.sl false [4, 4, 4] l), .ce (.int .i64 (l.length : Int)), .ce (.int .i64 (i : Int))], [[.int .i64 st0, .int .i64 sp0, .int .i64 ac0, .int .i64 je0, .int .i64 lo0, .int .i64 hi0, .int .i64 bl0, .int .i64 og0, .int .i64 sg0, .sl false [4] pit0, .int .i64 st1, .int .i64 sp1, .int .i64 ac1, .int .i64 je1, .int .i64 lo1, .int .i64 hi1, .int .i64 bl1, .int .i64 og1, .int .i64 sg1, .sl false [4] pit1, .int .i64 st2, .int .i64 sp2, .int .i64 ac2, .int .i64 je2, .int .i64 lo2, .int .i64 hi2, .int .i64 bl2, .int .i64 og2, .int .i64 sg2, .sl false [4] pit2]]))
      (fun i => l.length - i) (fun i => i ≤ l.length) ?_ 0 (Nat.zero_le _)
    intro i hi K hn he hr
    refine byVB (vb8i2 l l0 ((List.range i).map fun i => [ec l i 2]) r ok j2 l.length i st0 sp0 ac0 je0 lo0 hi0 bl0 og0 sg0 pit0 st1 sp1 ac1 je1 lo1 hi1 bl1 og1 sg1 pit1 st2 sp2 ac2 je2 lo2 hi2 bl2 og2 sg2 pit2 K) ⟨fun c => ?_, fun c => ?_⟩
    · have c := of_decide_eq_true c
      refine ⟨by omega, by omega, ⟨by simp; omega, by simp; unfold maxLen; omega⟩, by omega, fun x1 e1 => ?_⟩
      have g := hn (i + 1) (by omega) (by omega)
      rw [← col_app, show ((i + 1 : Nat) : Int) = x1 by omega] at g
      exact g
    · have c := of_decide_eq_false c
      have : i = l.length := by omega
      subst this
      exact he _ _ hq
end Go.Proofs.Ytmadbcfocgagpaa
