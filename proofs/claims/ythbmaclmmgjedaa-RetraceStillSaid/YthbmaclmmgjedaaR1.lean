/-
  Standing still.
  Conditions: none.
-/
import Derived.Test.YthbmaclmmgjedaaMm
namespace U
def stl (u v a l p : Int) : Bool := v == 0 && (a == 0 && (l == u && p == u))
end U
namespace Go.Proofs.Ythbmaclmmgjedaa
open Go Go.HL U
def SStart (hargs : List HV) (pars : List (List HC)) : SR :=
  match hargs, pars with
  | [.ce (.int .i64 u)], [] => .det (-1099511627776 ≤ u ∧ u ≤ 1099511627776) ⟨.agg [.int .i64 (u * 256), .int .i64 0, .int .i64 0, .int .i64 (u * 256), .int .i64 (u * 256), .int .i64 (u * 256)], false, [], []⟩
  | _, _ => .fail
def SStill (hargs : List HV) (pars : List (List HC)) : SR :=
  match hargs, pars with
  | [.agg [.int .i64 u, .int .i64 v, .int .i64 a, .int .i64 l, .int .i64 p, .int .i64 _]], [] => .det True ⟨.ce (.bool (stl u v a l p)), false, [], []⟩
  | _, _ => .fail
def STurn (hargs : List HV) (pars : List (List HC)) : SR :=
  match hargs, pars with
  | [.agg pa, .agg ax, .agg tr, .agg [.int .i64 u, .int .i64 v, .int .i64 a, .int .i64 l, .int .i64 p, .int .i64 b], .ce (.int .i64 to)], [] => (match pa with
    | [.int .i64 s0, .int .i64 s1, .int .i64 s2, .sl false [4, 4, 4, 4, 4, 4, 4] sgs, .sl false [4, 4, 4] mks] => (match tr with
      | [.sl false [4, 4, 4, 4, 4, 4, 4, 4, 4, 4] pcs, .int .i64 tl, .int .i64 ts, .int .i64 d0, .int .i64 d1, .int .i64 d2] => (match ax with
        | [.int .i64 st0, .int .i64 sp0, .int .i64 ac0, .int .i64 je0, .int .i64 lo0, .int .i64 hi0, .int .i64 bl0, .int .i64 og0, .int .i64 sg0, .sl false [4] pit0, .int .i64 st1, .int .i64 sp1, .int .i64 ac1, .int .i64 je1, .int .i64 lo1, .int .i64 hi1, .int .i64 bl1, .int .i64 og1, .int .i64 sg1, .sl false [4] pit1, .int .i64 st2, .int .i64 sp2, .int .i64 ac2, .int .i64 je2, .int .i64 lo2, .int .i64 hi2, .int .i64 bl2, .int .i64 og2, .int .i64 sg2, .sl false [4] pit2] => .det ((0 ≤ u ∧ u ≤ 1099511627776) ∧ stl u v a l p = false) ⟨.tup [.agg [.sl false [4, 4, 4, 4, 4, 4, 4, 4, 4, 4] [], .int .i64 0, .int .i64 0, .int .i64 0, .int .i64 0, .int .i64 0], .agg [.int .i64 0, .int .i64 0, .int .i64 0, .int .i64 0, .int .i64 0, .int .i64 0], .ce (.bool false)], false, [], []⟩
        | _ => .fail)
      | _ => .fail)
    | _ => .fail)
  | _, _ => .fail
def SAwake (hargs : List HV) (pars : List (List HC)) : SR :=
  match hargs, pars with
  | [], [] => .det True ⟨.ce (.bool true), false, [], []⟩
  | _, _ => .fail
def SLaw (hargs : List HV) (pars : List (List HC)) : SR :=
  match hargs, pars with
  | [.agg [.int .i64 u, .int .i64 v, .int .i64 a, .int .i64 l, .int .i64 p, .int .i64 b], .ce (.int .i64 _)], [] => .det True ⟨.ce (.bool true), false, [], []⟩
  | _, _ => .fail
def tab1 : List (FuncId × HL.Spec) := [(6, SStart), (7, SStill), (8, SStill)]
def tab2 : List (FuncId × HL.Spec) := (9, STurn) :: tab1
def tab3 : List (FuncId × HL.Spec) := (4, SAwake) :: (5, SMod) :: tab1
noncomputable def CStart : Ctx := ⟨Try.prog, gam [], 11, [], []⟩
noncomputable def CStill : Ctx := ⟨Try.prog, gam [], 25, [], []⟩
noncomputable def CTurn : Ctx := ⟨Try.prog, gam tab1, 38, [], []⟩
noncomputable def CAwake : Ctx := ⟨Try.prog, gam tab2, 19, [], []⟩
noncomputable def CLaw : Ctx := ⟨Try.prog, gam tab3, 40, [], []⟩
theorem vcStart (u : Int) (Q : Res → Prop) : (nfun true CStart Try.f6 (bodyOf Try.f6) [.ce (.int .i64 u)] [] Q) =
    (((-9223372036854775808 : Int) ≤ u * (256 : Int) ∧ u * (256 : Int) ≤ (9223372036854775807 : Int)) ∧
      ∀ (x1 : Int),
        x1 = u * (256 : Int) →
          Q
            {
              val :=
                HV.agg
                  [HC.int IntKind.i64 x1, HC.int IntKind.i64 (0 : Int), HC.int IntKind.i64 (0 : Int), HC.int IntKind.i64 x1,
                    HC.int IntKind.i64 x1, HC.int IntKind.i64 x1],
              own := false, pars := [], news := [] }) := by kernel_rfl
theorem vcStill (u v a l p b : Int) (Q : Res → Prop) : (nfun true CStill Try.f7 (bodyOf Try.f7) [.agg [.int .i64 u, .int .i64 v, .int .i64 a, .int .i64 l, .int .i64 p, .int .i64 b]] [] Q) =
    (((v == (0 : Int)) = true →
        ((a == (0 : Int)) = true →
            ((l == u) = true → Q { val := HV.ce (HC.bool (p == u)), own := false, pars := [], news := [] }) ∧
              ((l == u) = false → Q { val := HV.ce (HC.bool false), own := false, pars := [], news := [] })) ∧
          ((a == (0 : Int)) = false → Q { val := HV.ce (HC.bool false), own := false, pars := [], news := [] })) ∧
      ((v == (0 : Int)) = false → Q { val := HV.ce (HC.bool false), own := false, pars := [], news := [] })) := by kernel_rfl
theorem vcStill2 (u v a l p b : Int) (Q : Res → Prop) : (nfun true CStill Try.f8 (bodyOf Try.f8) [.agg [.int .i64 u, .int .i64 v, .int .i64 a, .int .i64 l, .int .i64 p, .int .i64 b]] [] Q) =
    (((v == (0 : Int)) = true →
        ((a == (0 : Int)) = true →
            ((l == u) = true → Q { val := HV.ce (HC.bool (p == u)), own := false, pars := [], news := [] }) ∧
              ((l == u) = false → Q { val := HV.ce (HC.bool false), own := false, pars := [], news := [] })) ∧
          ((a == (0 : Int)) = false → Q { val := HV.ce (HC.bool false), own := false, pars := [], news := [] })) ∧
      ((v == (0 : Int)) = false → Q { val := HV.ce (HC.bool false), own := false, pars := [], news := [] })) := by kernel_rfl
theorem vcTurn (s0 s1 s2 st0 sp0 ac0 je0 lo0 hi0 bl0 og0 sg0 st1 sp1 ac1 je1 lo1 hi1 bl1 og1 sg1 st2 sp2 ac2 je2 lo2 hi2 bl2 og2 sg2 tl ts d0 d1 d2 u v a l p b to : Int) (sgs mks pit0 pit1 pit2 pcs : List (List Int)) (Q : Res → Prop) : (nfun true CTurn Try.f9 (bodyOf Try.f9) [.agg [.int .i64 s0, .int .i64 s1, .int .i64 s2, .sl false [4, 4, 4, 4, 4, 4, 4] sgs, .sl false [4, 4, 4] mks], .agg [.int .i64 st0, .int .i64 sp0, .int .i64 ac0, .int .i64 je0, .int .i64 lo0, .int .i64 hi0, .int .i64 bl0, .int .i64 og0, .int .i64 sg0, .sl false [4] pit0, .int .i64 st1, .int .i64 sp1, .int .i64 ac1, .int .i64 je1, .int .i64 lo1, .int .i64 hi1, .int .i64 bl1, .int .i64 og1, .int .i64 sg1, .sl false [4] pit1, .int .i64 st2, .int .i64 sp2, .int .i64 ac2, .int .i64 je2, .int .i64 lo2, .int .i64 hi2, .int .i64 bl2, .int .i64 og2, .int .i64 sg2, .sl false [4] pit2], .agg [.sl false [4, 4, 4, 4, 4, 4, 4, 4, 4, 4] pcs, .int .i64 tl, .int .i64 ts, .int .i64 d0, .int .i64 d1, .int .i64 d2], .agg [.int .i64 u, .int .i64 v, .int .i64 a, .int .i64 l, .int .i64 p, .int .i64 b], .ce (.int .i64 to)] [] Q) =
    ((256 : Int) ≠ (0 : Int) ∧
      ((-9223372036854775808 : Int) ≤ Int.tdiv u (256 : Int) ∧ Int.tdiv u (256 : Int) ≤ (9223372036854775807 : Int)) ∧
        ∀ (x1 : Int),
          x1 = Int.tdiv u (256 : Int) →
            True ∧
              ∀ (x2 : Bool),
                x2 = stl u v a l p →
                  ((!x2) = true →
                      Q
                        {
                          val :=
                            HV.tup
                              [H0.agg
                                  [HC.sl false
                                      [(4 : Nat), (4 : Nat), (4 : Nat), (4 : Nat), (4 : Nat), (4 : Nat), (4 : Nat),
                                        (4 : Nat), (4 : Nat), (4 : Nat)]
                                      [],
                                    HC.int IntKind.i64 (0 : Int), HC.int IntKind.i64 (0 : Int),
                                    HC.int IntKind.i64 (0 : Int), HC.int IntKind.i64 (0 : Int),
                                    HC.int IntKind.i64 (0 : Int)],
                                H0.agg
                                  [HC.int IntKind.i64 (0 : Int), HC.int IntKind.i64 (0 : Int), HC.int IntKind.i64 (0 : Int),
                                    HC.int IntKind.i64 (0 : Int), HC.int IntKind.i64 (0 : Int),
                                    HC.int IntKind.i64 (0 : Int)],
                                H0.ce (HC.bool false)],
                          own := false, pars := [], news := [] }) ∧
                    ((!x2) = false → False)) := by kernel_rfl
theorem vcAwake (Q : Res → Prop) : (nfun true CAwake Try.f4 (bodyOf Try.f4) [] [] Q) =
    ((((0 : Int) ≤ (0 : Int) ∧ (0 : Int) ≤ (1099511627776 : Int)) ∧
        stl (0 : Int) (1 : Int) (0 : Int) (0 : Int) (0 : Int) = false) ∧
      ∀ (x1 : List (List Int)),
        x1 = [] →
          ∀ (x2 : Int),
            x2 = (0 : Int) →
              ∀ (x3 : Int),
                x3 = (0 : Int) →
                  ∀ (x4 : Int),
                    x4 = (0 : Int) →
                      ∀ (x5 : Int),
                        x5 = (0 : Int) →
                          ∀ (x6 : Int),
                            x6 = (0 : Int) →
                              ∀ (x7 : Int),
                                x7 = (0 : Int) →
                                  ∀ (x8 : Int),
                                    x8 = (0 : Int) →
                                      ∀ (x9 : Int),
                                        x9 = (0 : Int) →
                                          ∀ (x10 : Int),
                                            x10 = (0 : Int) →
                                              ∀ (x11 : Int),
                                                x11 = (0 : Int) →
                                                  ∀ (x12 : Int),
                                                    x12 = (0 : Int) →
                                                      ∀ (x13 : Bool),
                                                        x13 = false →
                                                          ((-1099511627776 : Int) ≤ (5 : Int) ∧
                                                              (5 : Int) ≤ (1099511627776 : Int)) ∧
                                                            ∀ (x14 : Int),
                                                              x14 = (1280 : Int) →
                                                                ∀ (x15 : Int),
                                                                  x15 = (0 : Int) →
                                                                    ∀ (x16 : Int),
                                                                      x16 = (0 : Int) →
                                                                        ∀ (x17 : Int),
                                                                          x17 = (1280 : Int) →
                                                                            ∀ (x18 : Int),
                                                                              x18 = (1280 : Int) →
                                                                                ∀ (x19 : Int),
                                                                                  x19 = (1280 : Int) →
                                                                                    True ∧
                                                                                      ∀ (x20 : Bool),
                                                                                        x20 = stl x14 x15 x16 x17 x18 →
                                                                                          (x20 = true →
                                                                                              Q
                                                                                                {
                                                                                                  val :=
                                                                                                    HV.ce (HC.bool !x13),
                                                                                                  own := false, pars := [],
                                                                                                  news := [] }) ∧
                                                                                            (x20 = false →
                                                                                              Q
                                                                                                {
                                                                                                  val :=
                                                                                                    HV.ce (HC.bool false),
                                                                                                  own := false, pars := [],
                                                                                                  news := [] })) := by kernel_rfl
theorem vcLaw (u v a l p b k : Int) (Q : Res → Prop) : (nfun true CLaw Try.f3 (bodyOf Try.f3) [.agg [.int .i64 u, .int .i64 v, .int .i64 a, .int .i64 l, .int .i64 p, .int .i64 b], .ce (.int .i64 k)] [] Q) =
    (True ∧
      ∀ (x1 : Bool),
        x1 = true →
          ((!x1) = true → Q { val := HV.ce (HC.bool false), own := false, pars := [], news := [] }) ∧
            ((!x1) = false →
              ((0 : Int) < (1073741824 : Int) ∧ (1073741824 : Int) ≤ (4611686018427387904 : Int)) ∧
                ∀ (x2 : Int),
                  x2 = k % (1073741824 : Int) →
                    ((-1099511627776 : Int) ≤ x2 ∧ x2 ≤ (1099511627776 : Int)) ∧
                      ∀ (x3 : Int),
                        x3 = x2 * (256 : Int) →
                          ∀ (x4 : Int),
                            x4 = (0 : Int) →
                              ∀ (x5 : Int),
                                x5 = (0 : Int) →
                                  ∀ (x6 : Int),
                                    x6 = x2 * (256 : Int) →
                                      ∀ (x7 : Int),
                                        x7 = x2 * (256 : Int) →
                                          ∀ (x8 : Int),
                                            x8 = x2 * (256 : Int) →
                                              ((-9223372036854775808 : Int) ≤ x7 - (1 : Int) ∧
                                                  x7 - (1 : Int) ≤ (9223372036854775807 : Int)) ∧
                                                ∀ (x9 : Int),
                                                  x9 = x7 - (1 : Int) →
                                                    True ∧
                                                      ∀ (x10 : Bool),
                                                        x10 = stl u v a l p →
                                                          True ∧
                                                            ∀ (x11 : Bool),
                                                              x11 = stl u v a l p →
                                                                ((x10 == x11) = true →
                                                                    True ∧
                                                                      ∀ (x12 : Bool),
                                                                        x12 = stl x3 x4 x5 x6 x7 →
                                                                          (x12 = true →
                                                                              True ∧
                                                                                ∀ (x13 : Bool),
                                                                                  x13 = stl x3 x4 x5 x6 x9 →
                                                                                    ((!x13) = true →
                                                                                        True ∧
                                                                                          ∀ (x14 : Bool),
                                                                                            x14 =
                                                                                                stl x3 x4 (1 : Int) x6 x7 →
                                                                                              Q
                                                                                                {
                                                                                                  val :=
                                                                                                    HV.ce (HC.bool !x14),
                                                                                                  own := false, pars := [],
                                                                                                  news := [] }) ∧
                                                                                      ((!x13) = false →
                                                                                        Q
                                                                                          { val := HV.ce (HC.bool false),
                                                                                            own := false, pars := [],
                                                                                            news := [] })) ∧
                                                                            (x12 = false →
                                                                              Q
                                                                                { val := HV.ce (HC.bool false),
                                                                                  own := false, pars := [], news := [] })) ∧
                                                                  ((x10 == x11) = false →
                                                                    Q
                                                                      { val := HV.ce (HC.bool false), own := false,
                                                                        pars := [], news := [] }))) := by kernel_rfl
end Go.Proofs.Ythbmaclmmgjedaa
namespace Go.Proofs.Ythbmaclmmgjedaa
open Go Go.HL U
theorem sStart : Sound Try.prog 6 SStart := by
  refine sound_of (C := CStart) [] Try.func6 (by kernel_rfl) (by decide +kernel) (by kernel_rfl) rfl trivial (loops0 (by kernel_rfl)) ?_
  intro hargs pars R h
  unfold SStart at h
  split at h
  case h_2 => exact h.elim
  rename_i u
  obtain ⟨h1, hq⟩ := h
  refine byVC (vcStart u R) ⟨by omega, fun x e => ?_⟩
  rw [e]; exact hq
theorem sStill : Sound Try.prog 7 SStill := by
  refine sound_of (C := CStill) [] Try.func7 (by kernel_rfl) (by decide +kernel) (by kernel_rfl) rfl trivial (loops0 (by kernel_rfl)) ?_
  intro hargs pars R h
  unfold SStill at h
  split at h
  case h_2 => exact h.elim
  rename_i u v a l p b
  obtain ⟨_, hq⟩ := h
  unfold stl at hq
  refine byVC (vcStill u v a l p b R) ⟨fun k => ⟨fun k2 => ⟨fun k3 => ?_, fun k3 => ?_⟩, fun k2 => ?_⟩, fun k => ?_⟩
  · rw [k, k2, k3, Bool.true_and, Bool.true_and, Bool.true_and] at hq; exact hq
  · rw [k, k2, k3, Bool.true_and, Bool.true_and, Bool.false_and] at hq; exact hq
  · rw [k, k2, Bool.true_and, Bool.false_and] at hq; exact hq
  · rw [k, Bool.false_and] at hq; exact hq
theorem sStill2 : Sound Try.prog 8 SStill := by
  refine sound_of (C := CStill) [] Try.func8 (by kernel_rfl) (by decide +kernel) (by kernel_rfl) rfl trivial (loops0 (by kernel_rfl)) ?_
  intro hargs pars R h
  unfold SStill at h
  split at h
  case h_2 => exact h.elim
  rename_i u v a l p b
  obtain ⟨_, hq⟩ := h
  unfold stl at hq
  refine byVC (vcStill2 u v a l p b R) ⟨fun k => ⟨fun k2 => ⟨fun k3 => ?_, fun k3 => ?_⟩, fun k2 => ?_⟩, fun k => ?_⟩
  · rw [k, k2, k3, Bool.true_and, Bool.true_and, Bool.true_and] at hq; exact hq
  · rw [k, k2, k3, Bool.true_and, Bool.true_and, Bool.false_and] at hq; exact hq
  · rw [k, k2, Bool.true_and, Bool.false_and] at hq; exact hq
  · rw [k, Bool.false_and] at hq; exact hq
theorem sTurn : Sound Try.prog 9 STurn := by
  refine sound_of (C := CTurn) tab1 Try.func9 (by kernel_rfl) (by decide +kernel) (by kernel_rfl) rfl ⟨sStart, sStill, sStill2, trivial⟩ (loops0 (by kernel_rfl)) ?_
  intro hargs pars R h
  unfold STurn at h
  split at h
  case h_2 => exact h.elim
  rename_i pa ax tr u v a l p b to
  split at h
  case h_2 => exact h.elim
  rename_i s0 s1 s2 sgs mks
  split at h
  case h_2 => exact h.elim
  rename_i pcs tl ts d0 d1 d2
  split at h
  case h_2 => exact h.elim
  rename_i st0 sp0 ac0 je0 lo0 hi0 bl0 og0 sg0 pit0 st1 sp1 ac1 je1 lo1 hi1 bl1 og1 sg1 pit1 st2 sp2 ac2 je2 lo2 hi2 bl2 og2 sg2 pit2
  obtain ⟨⟨hu, h1⟩, hq⟩ := h
  refine byVC (vcTurn s0 s1 s2 st0 sp0 ac0 je0 lo0 hi0 bl0 og0 sg0 st1 sp1 ac1 je1 lo1 hi1 bl1 og1 sg1 st2 sp2 ac2 je2 lo2 hi2 bl2 og2 sg2 tl ts d0 d1 d2 u v a l p b to sgs mks pit0 pit1 pit2 pcs R) ?_
  rw [show u.tdiv 256 = u / 256 from tdiv_pos (by omega)]
  refine ⟨by omega, by omega, fun x1 _ => ⟨trivial, fun x2 e2 => ⟨fun _ => hq, fun k => ?_⟩⟩⟩
  rw [e2, h1] at k; cases k
theorem sAwake : Sound Try.prog 4 SAwake := by
  refine sound_of (C := CAwake) tab2 Try.func4 (by kernel_rfl) (by decide +kernel) (by kernel_rfl) rfl ⟨sTurn, sStart, sStill, sStill2, trivial⟩ (loops0 (by kernel_rfl)) ?_
  intro hargs pars R h
  unfold SAwake at h
  split at h
  case h_2 => exact h.elim
  obtain ⟨_, hq⟩ := h
  refine byVC (vcAwake R) ⟨⟨by omega, by decide +kernel⟩, fun _ _ _ _ _ _ _ _ _ _ _ _ _ _ _ _ _ _ _ _ _ _ _ _ x13 e13 => ⟨by omega, fun x14 e14 x15 e15 x16 e16 x17 e17 x18 e18 x19 e19 => ⟨trivial, fun x20 e20 => ⟨fun _ => ?_, fun k => ?_⟩⟩⟩⟩
  · rw [e13]; exact hq
  · rw [e20, e14, e15, e16, e17, e18] at k
    exact absurd k (by decide +kernel)
theorem stl_self (u : Int) : stl u 0 0 u u = true := by unfold stl; simp
theorem lawStill : Sound Try.prog 3 SLaw := by
  refine sound_of (C := CLaw) tab3 Try.func3 (by kernel_rfl) (by decide +kernel) (by kernel_rfl) rfl ⟨sAwake, sMod, sStart, sStill, sStill2, trivial⟩ (loops0 (by kernel_rfl)) ?_
  intro hargs pars R h
  unfold SLaw at h
  split at h
  case h_2 => exact h.elim
  rename_i u v a l p b k
  obtain ⟨_, hq⟩ := h
  refine byVC (vcLaw u v a l p b k R) ⟨trivial, fun x1 e1 => ⟨fun c => (by rw [e1] at c; cases c), fun _ => ⟨by omega, fun x2 e2 => ⟨by omega, fun x3 e3 x4 e4 x5 e5 x6 e6 x7 e7 x8 e8 => ⟨by omega, fun x9 e9 => ⟨trivial, fun x10 e10 => ⟨trivial, fun x11 e11 => ⟨fun _ => ⟨trivial, fun x12 e12 => ⟨fun _ => ⟨trivial, fun x13 e13 => ⟨fun _ => ⟨trivial, fun x14 e14 => ?_⟩, fun c => ?_⟩⟩, fun c => ?_⟩⟩, fun c => ?_⟩⟩⟩⟩⟩⟩⟩⟩
  · have : x14 = false := by rw [e14]; unfold stl; simp
    rw [this]; exact hq
  · have : x13 = false := by
      rw [e13]; unfold stl
      have : (x9 == x3) = false := by rw [beq_eq_false_iff_ne]; omega
      simp [this]
    rw [this] at c; cases c
  · have : x12 = true := by rw [e12, e3, e4, e5, e6, e7]; exact stl_self _
    rw [this] at c; cases c
  · rw [e10, e11, beq_self_eq_true] at c; cases c
end Go.Proofs.Ythbmaclmmgjedaa
