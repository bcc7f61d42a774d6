/-
  The inverse of a screw: both searches; near; awake.
  Conditions: none.
-/
import Derived.Test.YtajppnnfgefpjaaP1
namespace U
open Go
theorem inv_ex0 (f : Int → Int) (goal a : Int) : ∀ n : Nat, f a < goal → goal ≤ f (a + n) → ∃ p, a < p ∧ p ≤ a + n ∧ goal ≤ f p ∧ f (p - 1) < goal
  | 0, h1, h2 => by simp at h2; omega
  | n + 1, h1, h2 => by
    by_cases h : goal ≤ f (a + n)
    · obtain ⟨p, q1, q2, q3, q4⟩ := inv_ex0 f goal a n h1 h
      exact ⟨p, q1, by omega, q3, q4⟩
    · refine ⟨a + (n + 1 : Nat), by omega, by omega, h2, ?_⟩
      rw [show a + ((n + 1 : Nat) : Int) - 1 = a + n by omega]; omega
theorem inv_ex {st og sg m : Int} {pit : List (List Int)} (h : okC og sg pit) : ∃ p, isInv st og sg pit m p := by
  have a := corr_bd h (m * st - 4097)
  have b := corr_bd h (m * st - 4097 + (8193 : Nat))
  obtain ⟨p, q1, q2, q3, q4⟩ := inv_ex0 (fun p => p + corr og sg pit p) (m * st) (m * st - 4097) 8193 (by omega) (by omega)
  exact ⟨p, q3, q4, by omega, by omega⟩
end U
namespace Go.Proofs.Ytajppnnfgefpjaa
open Go Go.HL U
def an18 : LAnn := ⟨[2, 5, 6, 7], [7], [1000002], false⟩
def L18 (v : LV) : LR :=
  match v with
  | ([.ce (.ptr 1000002 0), .ce (.int .i64 goal), .ce (.int .i64 low), .ce (.int .i64 high)], [[.int .i64 st, .int .i64 x1, .int .i64 x2, .int .i64 x3, .int .i64 x4, .int .i64 x5, .int .i64 x6, .int .i64 og, .int .i64 sg, .sl false [4] pit]]) =>
    .all (okC og sg pit ∧ (-268435456 ≤ goal ∧ goal ≤ 268435456) ∧ low = goal - 4097 ∧ high = goal + 4096) Int (fun p => goal ≤ p + corr og sg pit p ∧ p - 1 + corr og sg pit (p - 1) < goal ∧ goal - 4097 < p ∧ p ≤ goal + 4096) (fun _ => .exit 0)
      (fun p => ([.ce (.int .i64 p)], [[.int .i64 st, .int .i64 x1, .int .i64 x2, .int .i64 x3, .int .i64 x4, .int .i64 x5, .int .i64 x6, .int .i64 og, .int .i64 sg, .sl false [4] pit]]))
  | _ => .fail
def an19 : LAnn := ⟨[2, 5, 6, 7], [6], [1000002], false⟩
def L19 (v : LV) : LR :=
  match v with
  | ([.ce (.ptr 1000002 0), .ce (.int .i64 goal), .ce (.int .i64 low), .ce (.int .i64 high)], [[.int .i64 st, .int .i64 x1, .int .i64 x2, .int .i64 x3, .int .i64 x4, .int .i64 x5, .int .i64 x6, .int .i64 og, .int .i64 sg, .sl false [4] pit]]) =>
    .all (okC og sg pit ∧ (-268435456 ≤ goal ∧ goal ≤ 268435456) ∧ low = goal - 8192 ∧ high = goal + 8192) Int (fun p => goal ≤ p + corr og sg pit p ∧ p - 1 + corr og sg pit (p - 1) < goal ∧ goal - 4097 < p ∧ p ≤ goal + 4096) (fun _ => .exit 0)
      (fun p => ([.ce (.int .i64 p)], [[.int .i64 st, .int .i64 x1, .int .i64 x2, .int .i64 x3, .int .i64 x4, .int .i64 x5, .int .i64 x6, .int .i64 og, .int .i64 sg, .sl false [4] pit]]))
  | _ => .fail
def SInverse (hargs : List HV) (pars : List (List HC)) : SR :=
  match hargs, pars with
  | [.agg [.int .i64 st, .int .i64 _, .int .i64 _, .int .i64 _, .int .i64 _, .int .i64 _, .int .i64 _, .int .i64 og, .int .i64 sg, .sl false [4] pit], .ce (.int .i64 m)], [] => .all (okC og sg pit ∧ -134217728 ≤ m * st ∧ m * st ≤ 134217728) Int (isInv st og sg pit m) (fun p => ⟨.ce (.int .i64 p), false, [], []⟩)
  | _, _ => .fail
def tabP21 : List (FuncId × HL.Spec) := tabP2 ++ tabP1
noncomputable def C18 : Ctx := ⟨Try.prog, gam tabP21, 38, [(3, an18, L18)], []⟩
noncomputable def C19 : Ctx := ⟨Try.prog, gam tabP21, 35, [(3, an19, L19)], []⟩
theorem vc18 (st sp ac je lo hi bl og sg m : Int) (pit : List (List Int)) (Q : Res → Prop) : (nfun true C18 Try.f18 (bodyOf Try.f18) [.agg (axI st sp ac je lo hi bl og sg pit), .ce (.int .i64 m)] [] Q) =
    (((-9223372036854775808 : Int) ≤ m * st ∧ m * st ≤ (9223372036854775807 : Int)) ∧
      ∀ (x1 : Int),
        x1 = m * st →
          ((-9223372036854775808 : Int) ≤ x1 - (4096 : Int) ∧ x1 - (4096 : Int) ≤ (9223372036854775807 : Int)) ∧
            ∀ (x2 : Int),
              x2 = x1 - (4096 : Int) →
                ((-9223372036854775808 : Int) ≤ x2 - (1 : Int) ∧ x2 - (1 : Int) ≤ (9223372036854775807 : Int)) ∧
                  ∀ (x3 : Int),
                    x3 = x2 - (1 : Int) →
                      ((-9223372036854775808 : Int) ≤ x1 + (4096 : Int) ∧ x1 + (4096 : Int) ≤ (9223372036854775807 : Int)) ∧
                        ∀ (x4 : Int),
                          x4 = x1 + (4096 : Int) →
                            (okC og sg pit ∧
                                ((-268435456 : Int) ≤ x1 ∧ x1 ≤ (268435456 : Int)) ∧
                                  x3 = x1 - (4097 : Int) ∧ x4 = x1 + (4096 : Int)) ∧
                              ∀ (x : Int),
                                x1 ≤ x + corr og sg pit x ∧
                                    x - (1 : Int) + corr og sg pit (x - (1 : Int)) < x1 ∧
                                      x1 - (4097 : Int) < x ∧ x ≤ x1 + (4096 : Int) →
                                  Q { val := HV.ce (HC.int IntKind.i64 x), own := false, pars := [], news := [] }) := by kernel_rfl
theorem vc19 (st sp ac je lo hi bl og sg m : Int) (pit : List (List Int)) (Q : Res → Prop) : (nfun true C19 Try.f19 (bodyOf Try.f19) [.agg (axI st sp ac je lo hi bl og sg pit), .ce (.int .i64 m)] [] Q) =
    (((-9223372036854775808 : Int) ≤ m * st ∧ m * st ≤ (9223372036854775807 : Int)) ∧
      ∀ (x1 : Int),
        x1 = m * st →
          ((-9223372036854775808 : Int) ≤ x1 - (8192 : Int) ∧ x1 - (8192 : Int) ≤ (9223372036854775807 : Int)) ∧
            ∀ (x2 : Int),
              x2 = x1 - (8192 : Int) →
                ((-9223372036854775808 : Int) ≤ x1 + (8192 : Int) ∧ x1 + (8192 : Int) ≤ (9223372036854775807 : Int)) ∧
                  ∀ (x3 : Int),
                    x3 = x1 + (8192 : Int) →
                      (okC og sg pit ∧
                          ((-268435456 : Int) ≤ x1 ∧ x1 ≤ (268435456 : Int)) ∧
                            x2 = x1 - (8192 : Int) ∧ x3 = x1 + (8192 : Int)) ∧
                        ∀ (x : Int),
                          x1 ≤ x + corr og sg pit x ∧
                              x - (1 : Int) + corr og sg pit (x - (1 : Int)) < x1 ∧
                                x1 - (4097 : Int) < x ∧ x ≤ x1 + (4096 : Int) →
                            Q { val := HV.ce (HC.int IntKind.i64 x), own := false, pars := [], news := [] }) := by kernel_rfl
theorem vb18 (goal low high st sp ac je lo hi bl og sg : Int) (pit : List (List Int)) (K : HEx → LV → Prop) : (nbodyT true C18 an18 (nthLoop Try.f18 0) ([.ce (.ptr 1000002 0), .ce (.int .i64 goal), .ce (.int .i64 low), .ce (.int .i64 high)], [(axI st sp ac je lo hi bl og sg pit)]) K) =
    (((-9223372036854775808 : Int) ≤ high - low ∧ high - low ≤ (9223372036854775807 : Int)) ∧
      ∀ (x1 : Int),
        x1 = high - low →
          (decide (x1 > (1 : Int)) = true →
              ((-9223372036854775808 : Int) ≤ high - low ∧ high - low ≤ (9223372036854775807 : Int)) ∧
                ∀ (x2 : Int),
                  x2 = high - low →
                    (2 : Int) ≠ (0 : Int) ∧
                      ((-9223372036854775808 : Int) ≤ Int.tdiv x2 (2 : Int) ∧
                          Int.tdiv x2 (2 : Int) ≤ (9223372036854775807 : Int)) ∧
                        ∀ (x3 : Int),
                          x3 = Int.tdiv x2 (2 : Int) →
                            ((-9223372036854775808 : Int) ≤ low + x3 ∧ low + x3 ≤ (9223372036854775807 : Int)) ∧
                              ∀ (x4 : Int),
                                x4 = low + x3 →
                                  (okC og sg pit ∧ (-1073741824 : Int) ≤ x4 ∧ x4 ≤ (1073741824 : Int)) ∧
                                    ∀ (x5 : Int),
                                      x5 = corr og sg pit x4 →
                                        ((-9223372036854775808 : Int) ≤ x4 + x5 ∧ x4 + x5 ≤ (9223372036854775807 : Int)) ∧
                                          ∀ (x6 : Int),
                                            x6 = x4 + x5 →
                                              (decide (x6 ≥ goal) = true →
                                                  K HEx.normal
                                                    ([HV.ce (HC.ptr (1000002 : Nat) (0 : Nat)),
                                                        HV.ce (HC.int IntKind.i64 goal), HV.ce (HC.int IntKind.i64 low),
                                                        HV.ce (HC.int IntKind.i64 x4)],
                                                      [[HC.int IntKind.i64 st, HC.int IntKind.i64 sp, HC.int IntKind.i64 ac,
                                                          HC.int IntKind.i64 je, HC.int IntKind.i64 lo,
                                                          HC.int IntKind.i64 hi, HC.int IntKind.i64 bl,
                                                          HC.int IntKind.i64 og, HC.int IntKind.i64 sg,
                                                          HC.sl false [(4 : Nat)] pit]])) ∧
                                                (decide (x6 ≥ goal) = false →
                                                  K HEx.normal
                                                    ([HV.ce (HC.ptr (1000002 : Nat) (0 : Nat)),
                                                        HV.ce (HC.int IntKind.i64 goal), HV.ce (HC.int IntKind.i64 x4),
                                                        HV.ce (HC.int IntKind.i64 high)],
                                                      [[HC.int IntKind.i64 st, HC.int IntKind.i64 sp, HC.int IntKind.i64 ac,
                                                          HC.int IntKind.i64 je, HC.int IntKind.i64 lo,
                                                          HC.int IntKind.i64 hi, HC.int IntKind.i64 bl,
                                                          HC.int IntKind.i64 og, HC.int IntKind.i64 sg,
                                                          HC.sl false [(4 : Nat)] pit]]))) ∧
            (decide (x1 > (1 : Int)) = false →
              K (HEx.exit (0 : Nat))
                ([HV.ce (HC.int IntKind.i64 high)],
                  [[HC.int IntKind.i64 st, HC.int IntKind.i64 sp, HC.int IntKind.i64 ac, HC.int IntKind.i64 je,
                      HC.int IntKind.i64 lo, HC.int IntKind.i64 hi, HC.int IntKind.i64 bl, HC.int IntKind.i64 og,
                      HC.int IntKind.i64 sg, HC.sl false [(4 : Nat)] pit]]))) := by kernel_rfl
theorem vb19 (goal low high st sp ac je lo hi bl og sg : Int) (pit : List (List Int)) (K : HEx → LV → Prop) : (nbodyT true C19 an19 (nthLoop Try.f19 0) ([.ce (.ptr 1000002 0), .ce (.int .i64 goal), .ce (.int .i64 low), .ce (.int .i64 high)], [(axI st sp ac je lo hi bl og sg pit)]) K) =
    ((decide (low < high) = true →
        ((-9223372036854775808 : Int) ≤ low + high ∧ low + high ≤ (9223372036854775807 : Int)) ∧
          ∀ (x1 : Int),
            x1 = low + high →
              (((-9223372036854775807 : Int) ≤ x1 ∧ x1 ≤ (9223372036854775807 : Int)) ∧ (0 : Int) < (2 : Int)) ∧
                ∀ (x2 : Int),
                  x2 = x1 / (2 : Int) →
                    (okC og sg pit ∧ (-1073741824 : Int) ≤ x2 ∧ x2 ≤ (1073741824 : Int)) ∧
                      ∀ (x3 : Int),
                        x3 = corr og sg pit x2 →
                          ((-9223372036854775808 : Int) ≤ x2 + x3 ∧ x2 + x3 ≤ (9223372036854775807 : Int)) ∧
                            ∀ (x4 : Int),
                              x4 = x2 + x3 →
                                (decide (x4 ≥ goal) = true →
                                    K HEx.normal
                                      ([HV.ce (HC.ptr (1000002 : Nat) (0 : Nat)), HV.ce (HC.int IntKind.i64 goal),
                                          HV.ce (HC.int IntKind.i64 low), HV.ce (HC.int IntKind.i64 x2)],
                                        [[HC.int IntKind.i64 st, HC.int IntKind.i64 sp, HC.int IntKind.i64 ac,
                                            HC.int IntKind.i64 je, HC.int IntKind.i64 lo, HC.int IntKind.i64 hi,
                                            HC.int IntKind.i64 bl, HC.int IntKind.i64 og, HC.int IntKind.i64 sg,
                                            HC.sl false [(4 : Nat)] pit]])) ∧
                                  (decide (x4 ≥ goal) = false →
                                    ((-9223372036854775808 : Int) ≤ x2 + (1 : Int) ∧
                                        x2 + (1 : Int) ≤ (9223372036854775807 : Int)) ∧
                                      ∀ (x5 : Int),
                                        x5 = x2 + (1 : Int) →
                                          K HEx.normal
                                            ([HV.ce (HC.ptr (1000002 : Nat) (0 : Nat)), HV.ce (HC.int IntKind.i64 goal),
                                                HV.ce (HC.int IntKind.i64 x5), HV.ce (HC.int IntKind.i64 high)],
                                              [[HC.int IntKind.i64 st, HC.int IntKind.i64 sp, HC.int IntKind.i64 ac,
                                                  HC.int IntKind.i64 je, HC.int IntKind.i64 lo, HC.int IntKind.i64 hi,
                                                  HC.int IntKind.i64 bl, HC.int IntKind.i64 og, HC.int IntKind.i64 sg,
                                                  HC.sl false [(4 : Nat)] pit]]))) ∧
      (decide (low < high) = false →
        K (HEx.exit (0 : Nat))
          ([HV.ce (HC.int IntKind.i64 low)],
            [[HC.int IntKind.i64 st, HC.int IntKind.i64 sp, HC.int IntKind.i64 ac, HC.int IntKind.i64 je,
                HC.int IntKind.i64 lo, HC.int IntKind.i64 hi, HC.int IntKind.i64 bl, HC.int IntKind.i64 og,
                HC.int IntKind.i64 sg, HC.sl false [(4 : Nat)] pit]]))) := by kernel_rfl
def SNear (hargs : List HV) (pars : List (List HC)) : SR :=
  match hargs, pars with
  | [.ce (.int .i64 p)], [] => .det True ⟨.ce (.bool (decide (p ≥ -33554432) && decide (p ≤ 33554432))), false, [], []⟩
  | _, _ => .fail
noncomputable def CNear : Ctx := ⟨Try.prog, gam [], 9, [], []⟩
theorem vcNear (p : Int) (Q : Res → Prop) : (nfun true CNear Try.f12 (bodyOf Try.f12) [.ce (.int .i64 p)] [] Q) =
    ((decide (p ≥ (-33554432 : Int)) = true →
        Q { val := HV.ce (HC.bool (decide (p ≤ (33554432 : Int)))), own := false, pars := [], news := [] }) ∧
      (decide (p ≥ (-33554432 : Int)) = false → Q { val := HV.ce (HC.bool false), own := false, pars := [], news := [] })) := by kernel_rfl
def SAwake (hargs : List HV) (pars : List (List HC)) : SR :=
  match hargs, pars with
  | [], [] => .det True ⟨.ce (.bool true), false, [], []⟩
  | _, _ => .fail
def tabP3 : List (FuncId × HL.Spec) := [(13, SCorrect), (14, SCorrect), (17, SSteps), (20, SSteps), (15, SMotor), (16, SMotor), (18, SInverse), (19, SInverse)]
noncomputable def CAwake : Ctx := ⟨Try.prog, gam tabP3, 17, [], []⟩
theorem vcAwake (Q : Res → Prop) : (nfun true CAwake Try.f9 (bodyOf Try.f9) [] [] Q) =
    ((okC (0 : Int) (100 : Int) [[(0 : Int)], [(10 : Int)]] ∧
        (-1073741824 : Int) ≤ (55 : Int) ∧ (55 : Int) ≤ (1073741824 : Int)) ∧
      ∀ (x1 : Int),
        x1 = (6 : Int) →
          ((x1 == (6 : Int)) = true →
              (((0 : Int) < (16 : Int) ∧ (16 : Int) ≤ (16777216 : Int)) ∧
                  okC (0 : Int) (100 : Int) [[(0 : Int)], [(10 : Int)]] ∧
                    (-1073741824 : Int) ≤ (55 : Int) ∧ (55 : Int) ≤ (1073741824 : Int)) ∧
                ∀ (x2 : Int),
                  x2 = (4 : Int) →
                    ((x2 == (4 : Int)) = true →
                        (okC (0 : Int) (100 : Int) [[(0 : Int)], [(10 : Int)]] ∧
                            (-134217728 : Int) ≤ (64 : Int) ∧ (64 : Int) ≤ (134217728 : Int)) ∧
                          (∃ (x : Int), isInv (16 : Int) (0 : Int) (100 : Int) [[(0 : Int)], [(10 : Int)]] (4 : Int) x) ∧
                            ∀ (x : Int),
                              isInv (16 : Int) (0 : Int) (100 : Int) [[(0 : Int)], [(10 : Int)]] (4 : Int) x →
                                Q { val := HV.ce (HC.bool (x == (58 : Int))), own := false, pars := [], news := [] }) ∧
                      ((x2 == (4 : Int)) = false →
                        Q { val := HV.ce (HC.bool false), own := false, pars := [], news := [] })) ∧
            ((x1 == (6 : Int)) = false → Q { val := HV.ce (HC.bool false), own := false, pars := [], news := [] })) := by kernel_rfl
end Go.Proofs.Ytajppnnfgefpjaa
namespace Go.Proofs.Ytajppnnfgefpjaa
open Go Go.HL U
theorem loop18 : ∀ v Q, (L18 v).wp Q → hloop C18 an18 (nthLoop Try.f18 0) v Q := by
  intro v Q h
  unfold L18 at h
  split at h
  case h_2 => exact h.elim
  rename_i goal low high st x1 x2 x3 x4 x5 x6 og sg pit
  obtain ⟨⟨hc, ⟨hg1, hg2⟩, hlow, hhigh⟩, hq⟩ := h
  have b1 := corr_bd hc low
  have b2 := corr_bd hc high
  refine hloop_rec (σ := Int × Int)
    (fun s => ([.ce (.ptr 1000002 0), .ce (.int .i64 goal), .ce (.int .i64 s.1), .ce (.int .i64 s.2)], [axI st x1 x2 x3 x4 x5 x6 og sg pit]))
    (fun s => (s.2 - s.1).toNat)
    (fun s => (s.1 < s.2 ∧ goal - 4097 ≤ s.1 ∧ s.2 ≤ goal + 4096) ∧ s.1 + corr og sg pit s.1 < goal ∧ goal ≤ s.2 + corr og sg pit s.2)
    ?_ (low, high) ⟨by dsimp only; omega, by dsimp only; omega, by dsimp only; omega⟩
  rintro ⟨low, high⟩ ⟨i1, i2, i3⟩ K hn he hr
  dsimp only at i1 i2 i3 hn ⊢
  refine byVB (vb18 goal low high st x1 x2 x3 x4 x5 x6 og sg pit K) ?_
  refine ⟨by omega, fun y1 e1 => ⟨fun k => ?_, fun k => ?_⟩⟩
  · have k := of_decide_eq_true k
    refine ⟨by omega, fun y2 e2 => ?_⟩
    have ht : y2.tdiv 2 = y2 / 2 := tdiv_pos (by omega)
    rw [ht]
    refine ⟨by omega, by omega, fun y3 e3 => ⟨by omega, fun y4 e4 => ⟨⟨hc, by omega, by omega⟩, fun y5 e5 => ?_⟩⟩⟩
    have bd := corr_bd hc y4
    rw [← e5] at bd
    refine ⟨by omega, fun y6 e6 => ⟨fun k2 => ?_, fun k2 => ?_⟩⟩
    · have k2 := of_decide_eq_true k2
      exact hn (low, y4) ⟨by dsimp only; omega, i2, by dsimp only; omega⟩ (by dsimp only; omega)
    · have k2 := of_decide_eq_false k2
      exact hn (y4, high) ⟨by dsimp only; omega, by dsimp only; omega, i3⟩ (by dsimp only; omega)
  · have k := of_decide_eq_false k
    refine he _ _ (hq high ⟨i3, ?_, by omega, by omega⟩)
    rw [show high - 1 = low by omega]; exact i2

theorem loop19 : ∀ v Q, (L19 v).wp Q → hloop C19 an19 (nthLoop Try.f19 0) v Q := by
  intro v Q h
  unfold L19 at h
  split at h
  case h_2 => exact h.elim
  rename_i goal low high st x1 x2 x3 x4 x5 x6 og sg pit
  obtain ⟨⟨hc, ⟨hg1, hg2⟩, hlow, hhigh⟩, hq⟩ := h
  have b1 := corr_bd hc (low - 1)
  have b2 := corr_bd hc high
  refine hloop_rec (σ := Int × Int)
    (fun s => ([.ce (.ptr 1000002 0), .ce (.int .i64 goal), .ce (.int .i64 s.1), .ce (.int .i64 s.2)], [axI st x1 x2 x3 x4 x5 x6 og sg pit]))
    (fun s => (s.2 - s.1).toNat)
    (fun s => (s.1 ≤ s.2 ∧ goal - 8192 ≤ s.1 ∧ s.2 ≤ goal + 8192) ∧ s.1 - 1 + corr og sg pit (s.1 - 1) < goal ∧ goal ≤ s.2 + corr og sg pit s.2)
    ?_ (low, high) ⟨by dsimp only; omega, by dsimp only; omega, by dsimp only; omega⟩
  rintro ⟨low, high⟩ ⟨i1, i2, i3⟩ K hn he hr
  dsimp only at i1 i2 i3 hn ⊢
  refine byVB (vb19 goal low high st x1 x2 x3 x4 x5 x6 og sg pit K) ?_
  refine ⟨fun k => ?_, fun k => ?_⟩
  · have k := of_decide_eq_true k
    refine ⟨by omega, fun y1 e1 => ⟨by omega, fun y2 e2 => ⟨⟨hc, by omega, by omega⟩, fun y3 e3 => ?_⟩⟩⟩
    have bd := corr_bd hc y2
    rw [← e3] at bd
    refine ⟨by omega, fun y4 e4 => ⟨fun k2 => ?_, fun k2 => ⟨by omega, fun y5 e5 => ?_⟩⟩⟩
    · have k2 := of_decide_eq_true k2
      exact hn (low, y2) ⟨by dsimp only; omega, i2, by dsimp only; omega⟩ (by dsimp only; omega)
    · have k2 := of_decide_eq_false k2
      refine hn (y5, high) ⟨by dsimp only; omega, ?_, i3⟩ (by dsimp only; omega)
      dsimp only
      rw [show y5 - 1 = y2 by omega]; omega
  · have k := of_decide_eq_false k
    have hlh : high = low := by omega
    subst hlh
    have b3 := corr_bd hc high
    have b4 := corr_bd hc (high - 1)
    exact he _ _ (hq high ⟨i3, i2, by omega, by omega⟩)
end Go.Proofs.Ytajppnnfgefpjaa
namespace Go.Proofs.Ytajppnnfgefpjaa
open Go Go.HL U
theorem sInverse : Sound Try.prog 18 SInverse := by
  refine sound_of (C := C18) tabP21 Try.func18 (by kernel_rfl) (by decide +kernel) (by kernel_rfl) rfl ⟨sCorrect, sCorrect2, sSteps, sSteps2, sMulDiv, sFloor, trivial⟩ (loops1 (by kernel_rfl) (loopOK_of (an := an18) (S := L18) (by kernel_rfl) loop18)) ?_
  intro hargs pars R h
  unfold SInverse at h
  split at h
  case h_2 => exact h.elim
  rename_i st x1 x2 x3 x4 x5 x6 og sg pit m
  obtain ⟨⟨hc, h1, h2⟩, hx, hq⟩ := h
  refine byVC (vc18 st x1 x2 x3 x4 x5 x6 og sg m pit R) ⟨by omega, fun y1 e1 => ⟨by omega, fun y2 e2 => ⟨by omega, fun y3 e3 => ⟨by omega, fun y4 e4 => ⟨⟨hc, by omega, by omega, by omega⟩, fun y h => ?_⟩⟩⟩⟩⟩
  rw [e1] at h
  exact hq y h
theorem sInverse2 : Sound Try.prog 19 SInverse := by
  refine sound_of (C := C19) tabP21 Try.func19 (by kernel_rfl) (by decide +kernel) (by kernel_rfl) rfl ⟨sCorrect, sCorrect2, sSteps, sSteps2, sMulDiv, sFloor, trivial⟩ (loops1 (by kernel_rfl) (loopOK_of (an := an19) (S := L19) (by kernel_rfl) loop19)) ?_
  intro hargs pars R h
  unfold SInverse at h
  split at h
  case h_2 => exact h.elim
  rename_i st x1 x2 x3 x4 x5 x6 og sg pit m
  obtain ⟨⟨hc, h1, h2⟩, hx, hq⟩ := h
  refine byVC (vc19 st x1 x2 x3 x4 x5 x6 og sg m pit R) ⟨by omega, fun y1 e1 => ⟨by omega, fun y3 e3 => ⟨by omega, fun y4 e4 => ⟨⟨hc, by omega, by omega, by omega⟩, fun y h => ?_⟩⟩⟩⟩
  rw [e1] at h
  exact hq y h
theorem sNear : Sound Try.prog 12 SNear := by
  refine sound_of (C := CNear) [] Try.func12 (by kernel_rfl) (by decide +kernel) (by kernel_rfl) rfl trivial (loops0 (by kernel_rfl)) ?_
  intro hargs pars R h
  unfold SNear at h
  split at h
  case h_2 => exact h.elim
  rename_i p
  obtain ⟨_, hq⟩ := h
  refine byVC (vcNear p R) ⟨fun k => ?_, fun k => ?_⟩
  · rw [k, Bool.true_and] at hq; exact hq
  · rw [k, Bool.false_and] at hq; exact hq
theorem okC_awake : okC 0 100 [[0], [10]] := ⟨by omega, by omega, by omega, by decide, by
  intro j hj
  match j, hj with
  | 0, _ => decide
  | 1, _ => decide⟩
theorem okSl_awake : okSl 100 [[0], [10]] := ⟨by omega, by
  intro j hj
  match j, hj with
  | 0, _ => decide⟩
theorem sAwake : Sound Try.prog 9 SAwake := by
  refine sound_of (C := CAwake) tabP3 Try.func9 (by kernel_rfl) (by decide +kernel) (by kernel_rfl) rfl ⟨sCorrect, sCorrect2, sSteps, sSteps2, sMotor, sMotor2, sInverse, sInverse2, trivial⟩ (loops0 (by kernel_rfl)) ?_
  intro hargs pars R h
  unfold SAwake at h
  split at h
  case h_2 => exact h.elim
  obtain ⟨_, hq⟩ := h
  refine byVC (vcAwake R) ⟨⟨okC_awake, by omega⟩, fun y1 e1 => ⟨fun _ => ⟨⟨by omega, okC_awake, by omega⟩, fun y2 e2 => ⟨fun _ => ⟨⟨okC_awake, by omega⟩, inv_ex okC_awake, fun x hx => ?_⟩, fun k => ?_⟩⟩, fun k => ?_⟩⟩
  · have i : isInv 16 0 100 [[0], [10]] 4 58 := by unfold isInv; decide +kernel
    have := isInv_eq okSl_awake ⟨hx.1, hx.2.1⟩ ⟨i.1, i.2.1⟩
    rw [this]; exact hq
  · rw [e2] at k; cases k
  · rw [e1] at k; cases k
end Go.Proofs.Ytajppnnfgefpjaa
