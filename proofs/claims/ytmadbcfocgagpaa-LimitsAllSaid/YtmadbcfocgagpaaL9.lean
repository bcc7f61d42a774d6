/-
  All axes within their limits: the walks of the functions, and the law.
  Conditions: none.
-/
import Derived.Test.YtmadbcfocgagpaaL8
set_option maxHeartbeats 4000000
namespace Go.Proofs.Ytmadbcfocgagpaa
open Go Go.HL U
theorem loop19o : ∀ v Q, (L19o v).wp Q → hloop C19 an19o (nthLoop Try.f19 0) v Q := by
  intro v Q h
  unfold L19o at h
  split at h
  case h_2 => exact h.elim
  rename_i l r b
  split at h
  case h_2 => exact h.elim
  rename_i st0 sp0 ac0 je0 lo0 hi0 bl0 og0 sg0 pit0 st1 sp1 ac1 je1 lo1 hi1 bl1 og1 sg1 pit1 st2 sp2 ac2 je2 lo2 hi2 bl2 og2 sg2 pit2
  obtain ⟨h1, hq1, hq2⟩ := h
  unfold WA at hq1 hq2
  have c0 := col_length l 0
  have c1 := col_length l 1
  have c2 := col_length l 2
  refine hloop_rec (σ := Nat) (fun j => match j with
    | 0 => ([.ce (.sl false [4, 4, 4] l), .ce (.ptr 1000002 0), .ce (.bool r), .ce (.num .i64 0)], [[.int .i64 st0, .int .i64 sp0, .int .i64 ac0, .int .i64 je0, .int .i64 lo0, .int .i64 hi0, .int .i64 bl0, .int .i64 og0, .int .i64 sg0, .sl false [4] pit0, .int .i64 st1, .int .i64 sp1, .int .i64 ac1, .int .i64 je1, .int .i64 lo1, .int .i64 hi1, .int .i64 bl1, .int .i64 og1, .int .i64 sg1, .sl false [4] pit1, .int .i64 st2, .int .i64 sp2, .int .i64 ac2, .int .i64 je2, .int .i64 lo2, .int .i64 hi2, .int .i64 bl2, .int .i64 og2, .int .i64 sg2, .sl false [4] pit2]])
    | 1 => ([.ce (.sl false [4, 4, 4] l), .ce (.ptr 1000002 0), .ce (.bool r), .ce (.num .i64 1)], [[.int .i64 st0, .int .i64 sp0, .int .i64 ac0, .int .i64 je0, .int .i64 lo0, .int .i64 hi0, .int .i64 bl0, .int .i64 og0, .int .i64 sg0, .sl false [4] pit0, .int .i64 st1, .int .i64 sp1, .int .i64 ac1, .int .i64 je1, .int .i64 lo1, .int .i64 hi1, .int .i64 bl1, .int .i64 og1, .int .i64 sg1, .sl false [4] pit1, .int .i64 st2, .int .i64 sp2, .int .i64 ac2, .int .i64 je2, .int .i64 lo2, .int .i64 hi2, .int .i64 bl2, .int .i64 og2, .int .i64 sg2, .sl false [4] pit2]])
    | 2 => ([.ce (.sl false [4, 4, 4] l), .ce (.ptr 1000002 0), .ce (.bool r), .ce (.num .i64 2)], [[.int .i64 st0, .int .i64 sp0, .int .i64 ac0, .int .i64 je0, .int .i64 lo0, .int .i64 hi0, .int .i64 bl0, .int .i64 og0, .int .i64 sg0, .sl false [4] pit0, .int .i64 st1, .int .i64 sp1, .int .i64 ac1, .int .i64 je1, .int .i64 lo1, .int .i64 hi1, .int .i64 bl1, .int .i64 og1, .int .i64 sg1, .sl false [4] pit1, .int .i64 st2, .int .i64 sp2, .int .i64 ac2, .int .i64 je2, .int .i64 lo2, .int .i64 hi2, .int .i64 bl2, .int .i64 og2, .int .i64 sg2, .sl false [4] pit2]])
    | _ => ([.ce (.sl false [4, 4, 4] l), .ce (.ptr 1000002 0), .ce (.bool r), .ce (.num .i64 3)], [[.int .i64 st0, .int .i64 sp0, .int .i64 ac0, .int .i64 je0, .int .i64 lo0, .int .i64 hi0, .int .i64 bl0, .int .i64 og0, .int .i64 sg0, .sl false [4] pit0, .int .i64 st1, .int .i64 sp1, .int .i64 ac1, .int .i64 je1, .int .i64 lo1, .int .i64 hi1, .int .i64 bl1, .int .i64 og1, .int .i64 sg1, .sl false [4] pit1, .int .i64 st2, .int .i64 sp2, .int .i64 ac2, .int .i64 je2, .int .i64 lo2, .int .i64 hi2, .int .i64 bl2, .int .i64 og2, .int .i64 sg2, .sl false [4] pit2]]))
    (fun j => 3 - j) (fun j => j ≤ 3 ∧ (1 ≤ j → W sp0 ac0 je0 (col l 0) = true) ∧ (2 ≤ j → W sp1 ac1 je1 (col l 1) = true) ∧ (3 ≤ j → W sp2 ac2 je2 (col l 2) = true)) ?_ 0 ⟨by omega, by omega, by omega, by omega⟩
  intro j ⟨hj, p1, p2, p3⟩ K hn he hr
  match j, hj with
  | 0, _ =>
    refine byVB (vb19o0 l r st0 sp0 ac0 je0 lo0 hi0 bl0 og0 sg0 pit0 st1 sp1 ac1 je1 lo1 hi1 bl1 og1 sg1 pit1 st2 sp2 ac2 je2 lo2 hi2 bl2 og2 sg2 pit2 K) ⟨⟨by omega, by omega, by omega, by omega⟩, ⟨by omega, rfl, by omega, rfl, rfl, h1⟩, by omega, by rw [col_length]; omega, by rw [col_length]; exact h1, fun x1 e1 => ⟨fun hx => hr _ (hq2 ?_), fun hx => ?_⟩⟩
    · rw [Bool.not_eq_true'] at hx; rw [hx] at e1; rw [← e1]; simp
    · rw [Bool.not_eq_false'] at hx; rw [e1] at hx; exact hn 1 ⟨by omega, fun _ => hx, by omega, by omega⟩ (by omega)
  | 1, _ =>
    refine byVB (vb19o1 l r st0 sp0 ac0 je0 lo0 hi0 bl0 og0 sg0 pit0 st1 sp1 ac1 je1 lo1 hi1 bl1 og1 sg1 pit1 st2 sp2 ac2 je2 lo2 hi2 bl2 og2 sg2 pit2 K) ⟨⟨by omega, by omega, by omega, by omega⟩, ⟨by omega, rfl, by omega, rfl, rfl, h1⟩, by omega, by rw [col_length]; omega, by rw [col_length]; exact h1, fun x1 e1 => ⟨fun hx => hr _ (hq2 ?_), fun hx => ?_⟩⟩
    · rw [Bool.not_eq_true'] at hx; rw [hx] at e1; rw [p1 (by omega)]; rw [← e1]; simp
    · rw [Bool.not_eq_false'] at hx; rw [e1] at hx; exact hn 2 ⟨by omega, fun _ => p1 (by omega), fun _ => hx, by omega⟩ (by omega)
  | 2, _ =>
    refine byVB (vb19o2 l r st0 sp0 ac0 je0 lo0 hi0 bl0 og0 sg0 pit0 st1 sp1 ac1 je1 lo1 hi1 bl1 og1 sg1 pit1 st2 sp2 ac2 je2 lo2 hi2 bl2 og2 sg2 pit2 K) ⟨⟨by omega, by omega, by omega, by omega⟩, ⟨by omega, rfl, by omega, rfl, rfl, h1⟩, by omega, by rw [col_length]; omega, by rw [col_length]; exact h1, fun x1 e1 => ⟨fun hx => hr _ (hq2 ?_), fun hx => ?_⟩⟩
    · rw [Bool.not_eq_true'] at hx; rw [hx] at e1; rw [p1 (by omega), p2 (by omega)]; rw [← e1]; simp
    · rw [Bool.not_eq_false'] at hx; rw [e1] at hx; exact hn 3 ⟨by omega, fun _ => p1 (by omega), fun _ => p2 (by omega), fun _ => hx⟩ (by omega)
  | 3, _ =>
    refine byVB (vb19o3 l r st0 sp0 ac0 je0 lo0 hi0 bl0 og0 sg0 pit0 st1 sp1 ac1 je1 lo1 hi1 bl1 og1 sg1 pit1 st2 sp2 ac2 je2 lo2 hi2 bl2 og2 sg2 pit2 K) ?_
    exact he _ _ (hq1 (by rw [p1 (by omega), p2 (by omega), p3 (by omega)]; rfl))
theorem loop20o : ∀ v Q, (L20o v).wp Q → hloop C20 an20o (nthLoop Try.f20 0) v Q := by
  intro v Q h
  unfold L20o at h
  split at h
  case h_2 => exact h.elim
  rename_i l r b
  split at h
  case h_2 => exact h.elim
  rename_i st0 sp0 ac0 je0 lo0 hi0 bl0 og0 sg0 pit0 st1 sp1 ac1 je1 lo1 hi1 bl1 og1 sg1 pit1 st2 sp2 ac2 je2 lo2 hi2 bl2 og2 sg2 pit2
  obtain ⟨h1, hq1, hq2⟩ := h
  unfold WA at hq1 hq2
  have c0 := col_length l 0
  have c1 := col_length l 1
  have c2 := col_length l 2
  refine hloop_rec (σ := Nat) (fun j => match j with
    | 0 => ([.ce (.sl false [4, 4, 4] l), .ce (.ptr 1000002 0), .ce (.bool r), .ce (.num .i64 0)], [[.int .i64 st0, .int .i64 sp0, .int .i64 ac0, .int .i64 je0, .int .i64 lo0, .int .i64 hi0, .int .i64 bl0, .int .i64 og0, .int .i64 sg0, .sl false [4] pit0, .int .i64 st1, .int .i64 sp1, .int .i64 ac1, .int .i64 je1, .int .i64 lo1, .int .i64 hi1, .int .i64 bl1, .int .i64 og1, .int .i64 sg1, .sl false [4] pit1, .int .i64 st2, .int .i64 sp2, .int .i64 ac2, .int .i64 je2, .int .i64 lo2, .int .i64 hi2, .int .i64 bl2, .int .i64 og2, .int .i64 sg2, .sl false [4] pit2]])
    | 1 => ([.ce (.sl false [4, 4, 4] l), .ce (.ptr 1000002 0), .ce (.bool r), .ce (.num .i64 1)], [[.int .i64 st0, .int .i64 sp0, .int .i64 ac0, .int .i64 je0, .int .i64 lo0, .int .i64 hi0, .int .i64 bl0, .int .i64 og0, .int .i64 sg0, .sl false [4] pit0, .int .i64 st1, .int .i64 sp1, .int .i64 ac1, .int .i64 je1, .int .i64 lo1, .int .i64 hi1, .int .i64 bl1, .int .i64 og1, .int .i64 sg1, .sl false [4] pit1, .int .i64 st2, .int .i64 sp2, .int .i64 ac2, .int .i64 je2, .int .i64 lo2, .int .i64 hi2, .int .i64 bl2, .int .i64 og2, .int .i64 sg2, .sl false [4] pit2]])
    | 2 => ([.ce (.sl false [4, 4, 4] l), .ce (.ptr 1000002 0), .ce (.bool r), .ce (.num .i64 2)], [[.int .i64 st0, .int .i64 sp0, .int .i64 ac0, .int .i64 je0, .int .i64 lo0, .int .i64 hi0, .int .i64 bl0, .int .i64 og0, .int .i64 sg0, .sl false [4] pit0, .int .i64 st1, .int .i64 sp1, .int .i64 ac1, .int .i64 je1, .int .i64 lo1, .int .i64 hi1, .int .i64 bl1, .int .i64 og1, .int .i64 sg1, .sl false [4] pit1, .int .i64 st2, .int .i64 sp2, .int .i64 ac2, .int .i64 je2, .int .i64 lo2, .int .i64 hi2, .int .i64 bl2, .int .i64 og2, .int .i64 sg2, .sl false [4] pit2]])
    | _ => ([.ce (.sl false [4, 4, 4] l), .ce (.ptr 1000002 0), .ce (.bool r), .ce (.num .i64 3)], [[.int .i64 st0, .int .i64 sp0, .int .i64 ac0, .int .i64 je0, .int .i64 lo0, .int .i64 hi0, .int .i64 bl0, .int .i64 og0, .int .i64 sg0, .sl false [4] pit0, .int .i64 st1, .int .i64 sp1, .int .i64 ac1, .int .i64 je1, .int .i64 lo1, .int .i64 hi1, .int .i64 bl1, .int .i64 og1, .int .i64 sg1, .sl false [4] pit1, .int .i64 st2, .int .i64 sp2, .int .i64 ac2, .int .i64 je2, .int .i64 lo2, .int .i64 hi2, .int .i64 bl2, .int .i64 og2, .int .i64 sg2, .sl false [4] pit2]]))
    (fun j => 3 - j) (fun j => j ≤ 3 ∧ (1 ≤ j → W sp0 ac0 je0 (col l 0) = true) ∧ (2 ≤ j → W sp1 ac1 je1 (col l 1) = true) ∧ (3 ≤ j → W sp2 ac2 je2 (col l 2) = true)) ?_ 0 ⟨by omega, by omega, by omega, by omega⟩
  intro j ⟨hj, p1, p2, p3⟩ K hn he hr
  match j, hj with
  | 0, _ =>
    refine byVB (vb20o0 l r st0 sp0 ac0 je0 lo0 hi0 bl0 og0 sg0 pit0 st1 sp1 ac1 je1 lo1 hi1 bl1 og1 sg1 pit1 st2 sp2 ac2 je2 lo2 hi2 bl2 og2 sg2 pit2 K) ⟨⟨by omega, rfl, rfl, rfl, by omega⟩, by omega, by rw [col_length]; exact h1, fun x1 e1 => ⟨fun hx => hr _ (hq2 ?_), fun hx => ?_⟩⟩
    · rw [Bool.not_eq_true'] at hx; rw [hx] at e1; rw [← e1]; simp
    · rw [Bool.not_eq_false'] at hx; rw [e1] at hx; exact hn 1 ⟨by omega, fun _ => hx, by omega, by omega⟩ (by omega)
  | 1, _ =>
    refine byVB (vb20o1 l r st0 sp0 ac0 je0 lo0 hi0 bl0 og0 sg0 pit0 st1 sp1 ac1 je1 lo1 hi1 bl1 og1 sg1 pit1 st2 sp2 ac2 je2 lo2 hi2 bl2 og2 sg2 pit2 K) ⟨⟨by omega, rfl, rfl, rfl, by omega⟩, by omega, by rw [col_length]; exact h1, fun x1 e1 => ⟨fun hx => hr _ (hq2 ?_), fun hx => ?_⟩⟩
    · rw [Bool.not_eq_true'] at hx; rw [hx] at e1; rw [p1 (by omega)]; rw [← e1]; simp
    · rw [Bool.not_eq_false'] at hx; rw [e1] at hx; exact hn 2 ⟨by omega, fun _ => p1 (by omega), fun _ => hx, by omega⟩ (by omega)
  | 2, _ =>
    refine byVB (vb20o2 l r st0 sp0 ac0 je0 lo0 hi0 bl0 og0 sg0 pit0 st1 sp1 ac1 je1 lo1 hi1 bl1 og1 sg1 pit1 st2 sp2 ac2 je2 lo2 hi2 bl2 og2 sg2 pit2 K) ⟨⟨by omega, rfl, rfl, rfl, by omega⟩, by omega, by rw [col_length]; exact h1, fun x1 e1 => ⟨fun hx => hr _ (hq2 ?_), fun hx => ?_⟩⟩
    · rw [Bool.not_eq_true'] at hx; rw [hx] at e1; rw [p1 (by omega), p2 (by omega)]; rw [← e1]; simp
    · rw [Bool.not_eq_false'] at hx; rw [e1] at hx; exact hn 3 ⟨by omega, fun _ => p1 (by omega), fun _ => p2 (by omega), fun _ => hx⟩ (by omega)
  | 3, _ =>
    refine byVB (vb20o3 l r st0 sp0 ac0 je0 lo0 hi0 bl0 og0 sg0 pit0 st1 sp1 ac1 je1 lo1 hi1 bl1 og1 sg1 pit1 st2 sp2 ac2 je2 lo2 hi2 bl2 og2 sg2 pit2 K) ?_
    exact he _ _ (hq1 (by rw [p1 (by omega), p2 (by omega), p3 (by omega)]; rfl))
theorem loop8o : ∀ v Q, (L8o v).wp Q → hloop C8 an8o (nthLoop Try.f8 0) v Q := by
  intro v Q h
  unfold L8o at h
  split at h
  case h_2 => exact h.elim
  rename_i l r b
  split at h
  case h_2 => exact h.elim
  rename_i st0 sp0 ac0 je0 lo0 hi0 bl0 og0 sg0 pit0 st1 sp1 ac1 je1 lo1 hi1 bl1 og1 sg1 pit1 st2 sp2 ac2 je2 lo2 hi2 bl2 og2 sg2 pit2
  obtain ⟨h1, hq1, hq2, hq3⟩ := h
  have hret : ∀ b, Q .ret ([.ce (.sl false [4, 4, 4] l), .ce (.bool true), .ce (.ptr 1000005 0), .ce (.bool b)], [[.int .i64 st0, .int .i64 sp0, .int .i64 ac0, .int .i64 je0, .int .i64 lo0, .int .i64 hi0, .int .i64 bl0, .int .i64 og0, .int .i64 sg0, .sl false [4] pit0, .int .i64 st1, .int .i64 sp1, .int .i64 ac1, .int .i64 je1, .int .i64 lo1, .int .i64 hi1, .int .i64 bl1, .int .i64 og1, .int .i64 sg1, .sl false [4] pit1, .int .i64 st2, .int .i64 sp2, .int .i64 ac2, .int .i64 je2, .int .i64 lo2, .int .i64 hi2, .int .i64 bl2, .int .i64 og2, .int .i64 sg2, .sl false [4] pit2]]) := fun b => match b with
    | true => hq2 trivial
    | false => hq3 trivial
  unfold WA at hq1
  have c0 := col_length l 0
  refine hloop_rec (σ := Nat) (fun j => match j with
    | 0 => ([.ce (.sl false [4, 4, 4] l), .ce (.bool r), .ce (.ptr 1000005 0), .ce (.bool true), .ce (.num .i64 0)], [[.int .i64 st0, .int .i64 sp0, .int .i64 ac0, .int .i64 je0, .int .i64 lo0, .int .i64 hi0, .int .i64 bl0, .int .i64 og0, .int .i64 sg0, .sl false [4] pit0, .int .i64 st1, .int .i64 sp1, .int .i64 ac1, .int .i64 je1, .int .i64 lo1, .int .i64 hi1, .int .i64 bl1, .int .i64 og1, .int .i64 sg1, .sl false [4] pit1, .int .i64 st2, .int .i64 sp2, .int .i64 ac2, .int .i64 je2, .int .i64 lo2, .int .i64 hi2, .int .i64 bl2, .int .i64 og2, .int .i64 sg2, .sl false [4] pit2]])
    | 1 => ([.ce (.sl false [4, 4, 4] l), .ce (.bool r), .ce (.ptr 1000005 0), .ce (.bool (W sp0 ac0 je0 (col l 0))), .ce (.num .i64 1)], [[.int .i64 st0, .int .i64 sp0, .int .i64 ac0, .int .i64 je0, .int .i64 lo0, .int .i64 hi0, .int .i64 bl0, .int .i64 og0, .int .i64 sg0, .sl false [4] pit0, .int .i64 st1, .int .i64 sp1, .int .i64 ac1, .int .i64 je1, .int .i64 lo1, .int .i64 hi1, .int .i64 bl1, .int .i64 og1, .int .i64 sg1, .sl false [4] pit1, .int .i64 st2, .int .i64 sp2, .int .i64 ac2, .int .i64 je2, .int .i64 lo2, .int .i64 hi2, .int .i64 bl2, .int .i64 og2, .int .i64 sg2, .sl false [4] pit2]])
    | 2 => ([.ce (.sl false [4, 4, 4] l), .ce (.bool r), .ce (.ptr 1000005 0), .ce (.bool (W sp0 ac0 je0 (col l 0) && W sp1 ac1 je1 (col l 1))), .ce (.num .i64 2)], [[.int .i64 st0, .int .i64 sp0, .int .i64 ac0, .int .i64 je0, .int .i64 lo0, .int .i64 hi0, .int .i64 bl0, .int .i64 og0, .int .i64 sg0, .sl false [4] pit0, .int .i64 st1, .int .i64 sp1, .int .i64 ac1, .int .i64 je1, .int .i64 lo1, .int .i64 hi1, .int .i64 bl1, .int .i64 og1, .int .i64 sg1, .sl false [4] pit1, .int .i64 st2, .int .i64 sp2, .int .i64 ac2, .int .i64 je2, .int .i64 lo2, .int .i64 hi2, .int .i64 bl2, .int .i64 og2, .int .i64 sg2, .sl false [4] pit2]])
    | _ => ([.ce (.sl false [4, 4, 4] l), .ce (.bool r), .ce (.ptr 1000005 0), .ce (.bool (W sp0 ac0 je0 (col l 0) && (W sp1 ac1 je1 (col l 1) && W sp2 ac2 je2 (col l 2)))), .ce (.num .i64 3)], [[.int .i64 st0, .int .i64 sp0, .int .i64 ac0, .int .i64 je0, .int .i64 lo0, .int .i64 hi0, .int .i64 bl0, .int .i64 og0, .int .i64 sg0, .sl false [4] pit0, .int .i64 st1, .int .i64 sp1, .int .i64 ac1, .int .i64 je1, .int .i64 lo1, .int .i64 hi1, .int .i64 bl1, .int .i64 og1, .int .i64 sg1, .sl false [4] pit1, .int .i64 st2, .int .i64 sp2, .int .i64 ac2, .int .i64 je2, .int .i64 lo2, .int .i64 hi2, .int .i64 bl2, .int .i64 og2, .int .i64 sg2, .sl false [4] pit2]]))
    (fun j => 3 - j) (fun j => j ≤ 3 ∧ (1 ≤ j → l.length ≤ 100)) ?_ 0 ⟨by omega, by omega⟩
  intro j ⟨hj, p1⟩ K hn he hr
  match j, hj with
  | 0, _ =>
    refine byVB (vb8o0 l r true st0 sp0 ac0 je0 lo0 hi0 bl0 og0 sg0 pit0 st1 sp1 ac1 je1 lo1 hi1 bl1 og1 sg1 pit1 st2 sp2 ac2 je2 lo2 hi2 bl2 og2 sg2 pit2 K) ⟨⟨by omega, rfl, rfl, rfl, h1⟩, trivial, fun x1 e1 => ⟨fun hx => hr _ (hret _), fun hx => ?_⟩⟩
    rw [Bool.not_eq_false'] at hx
    rw [e1] at hx
    have hle := few_le hx
    rw [col_length] at hle
    have hnx := hn 1 ⟨by omega, fun _ => hle⟩ (by omega)
    refine ⟨fun hok => ⟨by omega, by rw [col_length]; omega, fun x2 e2 => ?_⟩, fun hok => ?_⟩
    · have e : (W sp0 ac0 je0 (col l 0)) = x2 := e2.symm
      exact Eq.mp (congrArg (fun b => K .normal ([.ce (.sl false [4, 4, 4] l), .ce (.bool r), .ce (.ptr 1000005 0), .ce (.bool b), .ce (.num .i64 1)], [[.int .i64 st0, .int .i64 sp0, .int .i64 ac0, .int .i64 je0, .int .i64 lo0, .int .i64 hi0, .int .i64 bl0, .int .i64 og0, .int .i64 sg0, .sl false [4] pit0, .int .i64 st1, .int .i64 sp1, .int .i64 ac1, .int .i64 je1, .int .i64 lo1, .int .i64 hi1, .int .i64 bl1, .int .i64 og1, .int .i64 sg1, .sl false [4] pit1, .int .i64 st2, .int .i64 sp2, .int .i64 ac2, .int .i64 je2, .int .i64 lo2, .int .i64 hi2, .int .i64 bl2, .int .i64 og2, .int .i64 sg2, .sl false [4] pit2]])) e) hnx
    · have e : (W sp0 ac0 je0 (col l 0)) = false := by cases hok
      exact Eq.mp (congrArg (fun b => K .normal ([.ce (.sl false [4, 4, 4] l), .ce (.bool r), .ce (.ptr 1000005 0), .ce (.bool b), .ce (.num .i64 1)], [[.int .i64 st0, .int .i64 sp0, .int .i64 ac0, .int .i64 je0, .int .i64 lo0, .int .i64 hi0, .int .i64 bl0, .int .i64 og0, .int .i64 sg0, .sl false [4] pit0, .int .i64 st1, .int .i64 sp1, .int .i64 ac1, .int .i64 je1, .int .i64 lo1, .int .i64 hi1, .int .i64 bl1, .int .i64 og1, .int .i64 sg1, .sl false [4] pit1, .int .i64 st2, .int .i64 sp2, .int .i64 ac2, .int .i64 je2, .int .i64 lo2, .int .i64 hi2, .int .i64 bl2, .int .i64 og2, .int .i64 sg2, .sl false [4] pit2]])) e) hnx
  | 1, _ =>
    refine byVB (vb8o1 l r (W sp0 ac0 je0 (col l 0)) st0 sp0 ac0 je0 lo0 hi0 bl0 og0 sg0 pit0 st1 sp1 ac1 je1 lo1 hi1 bl1 og1 sg1 pit1 st2 sp2 ac2 je2 lo2 hi2 bl2 og2 sg2 pit2 K) ⟨⟨by omega, rfl, rfl, rfl, h1⟩, trivial, fun x1 e1 => ⟨fun hx => hr _ (hret _), fun hx => ?_⟩⟩
    rw [Bool.not_eq_false'] at hx
    rw [e1] at hx
    have hle := few_le hx
    rw [col_length] at hle
    have hnx := hn 2 ⟨by omega, fun _ => hle⟩ (by omega)
    refine ⟨fun hok => ⟨by omega, by rw [col_length]; omega, fun x2 e2 => ?_⟩, fun hok => ?_⟩
    · have e : (W sp0 ac0 je0 (col l 0) && W sp1 ac1 je1 (col l 1)) = x2 := by rw [e2, hok, Bool.true_and]
      exact Eq.mp (congrArg (fun b => K .normal ([.ce (.sl false [4, 4, 4] l), .ce (.bool r), .ce (.ptr 1000005 0), .ce (.bool b), .ce (.num .i64 2)], [[.int .i64 st0, .int .i64 sp0, .int .i64 ac0, .int .i64 je0, .int .i64 lo0, .int .i64 hi0, .int .i64 bl0, .int .i64 og0, .int .i64 sg0, .sl false [4] pit0, .int .i64 st1, .int .i64 sp1, .int .i64 ac1, .int .i64 je1, .int .i64 lo1, .int .i64 hi1, .int .i64 bl1, .int .i64 og1, .int .i64 sg1, .sl false [4] pit1, .int .i64 st2, .int .i64 sp2, .int .i64 ac2, .int .i64 je2, .int .i64 lo2, .int .i64 hi2, .int .i64 bl2, .int .i64 og2, .int .i64 sg2, .sl false [4] pit2]])) e) hnx
    · have e : (W sp0 ac0 je0 (col l 0) && W sp1 ac1 je1 (col l 1)) = false := by rw [hok, Bool.false_and]
      exact Eq.mp (congrArg (fun b => K .normal ([.ce (.sl false [4, 4, 4] l), .ce (.bool r), .ce (.ptr 1000005 0), .ce (.bool b), .ce (.num .i64 2)], [[.int .i64 st0, .int .i64 sp0, .int .i64 ac0, .int .i64 je0, .int .i64 lo0, .int .i64 hi0, .int .i64 bl0, .int .i64 og0, .int .i64 sg0, .sl false [4] pit0, .int .i64 st1, .int .i64 sp1, .int .i64 ac1, .int .i64 je1, .int .i64 lo1, .int .i64 hi1, .int .i64 bl1, .int .i64 og1, .int .i64 sg1, .sl false [4] pit1, .int .i64 st2, .int .i64 sp2, .int .i64 ac2, .int .i64 je2, .int .i64 lo2, .int .i64 hi2, .int .i64 bl2, .int .i64 og2, .int .i64 sg2, .sl false [4] pit2]])) e) hnx
  | 2, _ =>
    refine byVB (vb8o2 l r (W sp0 ac0 je0 (col l 0) && W sp1 ac1 je1 (col l 1)) st0 sp0 ac0 je0 lo0 hi0 bl0 og0 sg0 pit0 st1 sp1 ac1 je1 lo1 hi1 bl1 og1 sg1 pit1 st2 sp2 ac2 je2 lo2 hi2 bl2 og2 sg2 pit2 K) ⟨⟨by omega, rfl, rfl, rfl, h1⟩, trivial, fun x1 e1 => ⟨fun hx => hr _ (hret _), fun hx => ?_⟩⟩
    rw [Bool.not_eq_false'] at hx
    rw [e1] at hx
    have hle := few_le hx
    rw [col_length] at hle
    have hnx := hn 3 ⟨by omega, fun _ => hle⟩ (by omega)
    refine ⟨fun hok => ⟨by omega, by rw [col_length]; omega, fun x2 e2 => ?_⟩, fun hok => ?_⟩
    · have e : (W sp0 ac0 je0 (col l 0) && (W sp1 ac1 je1 (col l 1) && W sp2 ac2 je2 (col l 2))) = x2 := by rw [e2, ← Bool.and_assoc, hok, Bool.true_and]
      exact Eq.mp (congrArg (fun b => K .normal ([.ce (.sl false [4, 4, 4] l), .ce (.bool r), .ce (.ptr 1000005 0), .ce (.bool b), .ce (.num .i64 3)], [[.int .i64 st0, .int .i64 sp0, .int .i64 ac0, .int .i64 je0, .int .i64 lo0, .int .i64 hi0, .int .i64 bl0, .int .i64 og0, .int .i64 sg0, .sl false [4] pit0, .int .i64 st1, .int .i64 sp1, .int .i64 ac1, .int .i64 je1, .int .i64 lo1, .int .i64 hi1, .int .i64 bl1, .int .i64 og1, .int .i64 sg1, .sl false [4] pit1, .int .i64 st2, .int .i64 sp2, .int .i64 ac2, .int .i64 je2, .int .i64 lo2, .int .i64 hi2, .int .i64 bl2, .int .i64 og2, .int .i64 sg2, .sl false [4] pit2]])) e) hnx
    · have e : (W sp0 ac0 je0 (col l 0) && (W sp1 ac1 je1 (col l 1) && W sp2 ac2 je2 (col l 2))) = false := by rw [← Bool.and_assoc, hok, Bool.false_and]
      exact Eq.mp (congrArg (fun b => K .normal ([.ce (.sl false [4, 4, 4] l), .ce (.bool r), .ce (.ptr 1000005 0), .ce (.bool b), .ce (.num .i64 3)], [[.int .i64 st0, .int .i64 sp0, .int .i64 ac0, .int .i64 je0, .int .i64 lo0, .int .i64 hi0, .int .i64 bl0, .int .i64 og0, .int .i64 sg0, .sl false [4] pit0, .int .i64 st1, .int .i64 sp1, .int .i64 ac1, .int .i64 je1, .int .i64 lo1, .int .i64 hi1, .int .i64 bl1, .int .i64 og1, .int .i64 sg1, .sl false [4] pit1, .int .i64 st2, .int .i64 sp2, .int .i64 ac2, .int .i64 je2, .int .i64 lo2, .int .i64 hi2, .int .i64 bl2, .int .i64 og2, .int .i64 sg2, .sl false [4] pit2]])) e) hnx
  | 3, _ =>
    refine byVB (vb8o3 l r (W sp0 ac0 je0 (col l 0) && (W sp1 ac1 je1 (col l 1) && W sp2 ac2 je2 (col l 2))) st0 sp0 ac0 je0 lo0 hi0 bl0 og0 sg0 pit0 st1 sp1 ac1 je1 lo1 hi1 bl1 og1 sg1 pit1 st2 sp2 ac2 je2 lo2 hi2 bl2 og2 sg2 pit2 K) ?_
    exact he _ _ (hq1 (by have := p1 (by omega); omega))
theorem s19 : Sound Try.prog 19 SAll := by
  refine sound_of (C := C19) tabAll Try.func19 (by kernel_rfl) (by decide +kernel) (by kernel_rfl) rfl ⟨s16, s17, trivial⟩ (loops2 (by kernel_rfl) (loopOK_of (an := an19o) (S := L19o) (by kernel_rfl) loop19o) (loopOK_of (an := an19i) (S := L19i) (by kernel_rfl) loop19i)) ?_
  intro hargs pars R h
  unfold SAll at h
  split at h
  case h_2 => exact h.elim
  rename_i v0_0 sp0 ac0 je0 v0_1 v0_2 v0_3 v0_4 v0_5 q0 v1_0 sp1 ac1 je1 v1_1 v1_2 v1_3 v1_4 v1_5 q1 v2_0 sp2 ac2 je2 v2_1 v2_2 v2_3 v2_4 v2_5 q2 l
  obtain ⟨h1, hq⟩ := h
  refine byVC (vc19 l v0_0 sp0 ac0 je0 v0_1 v0_2 v0_3 v0_4 v0_5 q0 v1_0 sp1 ac1 je1 v1_1 v1_2 v1_3 v1_4 v1_5 q1 v2_0 sp2 ac2 je2 v2_1 v2_2 v2_3 v2_4 v2_5 q2 R) ⟨h1, fun e => ?_, fun e => ?_⟩
  · rw [e] at hq; exact hq
  · rw [e] at hq; exact hq
theorem s20 : Sound Try.prog 20 SAll := by
  refine sound_of (C := C20) tabAll Try.func20 (by kernel_rfl) (by decide +kernel) (by kernel_rfl) rfl ⟨s16, s17, trivial⟩ (loops2 (by kernel_rfl) (loopOK_of (an := an20o) (S := L20o) (by kernel_rfl) loop20o) (loopOK_of (an := an20i) (S := L20i) (by kernel_rfl) loop20i)) ?_
  intro hargs pars R h
  unfold SAll at h
  split at h
  case h_2 => exact h.elim
  rename_i v0_0 sp0 ac0 je0 v0_1 v0_2 v0_3 v0_4 v0_5 q0 v1_0 sp1 ac1 je1 v1_1 v1_2 v1_3 v1_4 v1_5 q1 v2_0 sp2 ac2 je2 v2_1 v2_2 v2_3 v2_4 v2_5 q2 l
  obtain ⟨h1, hq⟩ := h
  refine byVC (vc20 l v0_0 sp0 ac0 je0 v0_1 v0_2 v0_3 v0_4 v0_5 q0 v1_0 sp1 ac1 je1 v1_1 v1_2 v1_3 v1_4 v1_5 q1 v2_0 sp2 ac2 je2 v2_1 v2_2 v2_3 v2_4 v2_5 q2 R) ⟨h1, fun e => ?_, fun e => ?_⟩
  · rw [e] at hq; exact hq
  · rw [e] at hq; exact hq
theorem law8 : Sound Try.prog 8 SLAll := by
  refine sound_of (C := C8) tabLA Try.func8 (by kernel_rfl) (by decide +kernel) (by kernel_rfl) rfl ⟨s9, s10, sAxes, s16, s19, s20, trivial⟩ (loops2 (by kernel_rfl) (loopOK_of (an := an8o) (S := L8o) (by kernel_rfl) loop8o) (loopOK_of (an := an8i) (S := L8i) (by kernel_rfl) loop8i)) ?_
  intro hargs pars R h
  unfold SLAll at h
  split at h
  case h_2 => exact h.elim
  rename_i a l
  obtain ⟨⟨h1, h2⟩, hq⟩ := h
  obtain ⟨b, hb⟩ := okAx_ex
  refine byVC (vc8 a l R) ⟨trivial, fun y1 e1 => ⟨fun k => (by rw [e1] at k; cases k), fun _ => ⟨h1, ⟨(b, b, b), hb, hb, hb⟩, fun x hx => ⟨h2, fun hl => ⟨hl, fun y3 e3 => ⟨fun _ => ⟨hl, fun y4 e4 => ?_⟩, fun k => ?_⟩⟩, fun _ => hq, fun _ => hq⟩⟩⟩⟩
  · rw [e4, beq_self_eq_true]; exact hq
  · rw [e3, beq_self_eq_true] at k; cases k
end Go.Proofs.Ytmadbcfocgagpaa
