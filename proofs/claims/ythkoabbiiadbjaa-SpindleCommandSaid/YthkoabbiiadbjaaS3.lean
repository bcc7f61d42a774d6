/-
  The laws on the spindle: Rate, Index, Step, Command.
  Conditions: none.
-/
import Derived.Test.YthkoabbiiadbjaaS2
namespace Go.Proofs.Ythkoabbiiadbjaa
open Go Go.HL U
def tabS3 : List (FuncId × HL.Spec) := [(8, SAwake), (9, SMod), (10, SRate), (11, SRate), (12, SIndex), (17, STurning), (18, SStep), (19, SStep),
  (20, SCommand), (21, SCommand), (22, SReached), (23, SReached)]
def SL1 (hargs : List HV) (pars : List (List HC)) : SR :=
  match hargs, pars with
  | [.ce (.int .i64 _)], [] => .det True ⟨.ce (.bool true), false, [], []⟩
  | _, _ => .fail
noncomputable def CLRate : Ctx := ⟨Try.prog, gam tabS3, Try.f3.ntmps, [], []⟩
theorem vcLRate (a : Int) (Q : Res → Prop) : (nfun true CLRate Try.f3 (bodyOf Try.f3) [.ce (.int .i64 a)] [] Q) =
    (True ∧
      ∀ (x1 : Bool),
        x1 = true →
          ((!x1) = true → Q { val := HV.ce (HC.bool false), own := false, pars := [], news := [] }) ∧
            ((!x1) = false →
              ((0 : Int) < (30001 : Int) ∧ (30001 : Int) ≤ (4611686018427387904 : Int)) ∧
                ∀ (x2 : Int),
                  x2 = a % (30001 : Int) →
                    ((0 : Int) ≤ x2 ∧ x2 ≤ (1000000 : Int)) ∧
                      ∀ (x3 : Int),
                        x3 = rate x2 →
                          ((-9223372036854775808 : Int) ≤ x3 * (60000 : Int) ∧
                              x3 * (60000 : Int) ≤ (9223372036854775807 : Int)) ∧
                            ∀ (x4 : Int),
                              x4 = x3 * (60000 : Int) →
                                ((-9223372036854775808 : Int) ≤ x2 * (4096 : Int) ∧
                                    x2 * (4096 : Int) ≤ (9223372036854775807 : Int)) ∧
                                  ∀ (x5 : Int),
                                    x5 = x2 * (4096 : Int) →
                                      ((-9223372036854775808 : Int) ≤ x5 * (256 : Int) ∧
                                          x5 * (256 : Int) ≤ (9223372036854775807 : Int)) ∧
                                        ∀ (x6 : Int),
                                          x6 = x5 * (256 : Int) →
                                            ((-9223372036854775808 : Int) ≤ x4 - x6 ∧
                                                x4 - x6 ≤ (9223372036854775807 : Int)) ∧
                                              ∀ (x7 : Int),
                                                x7 = x4 - x6 →
                                                  ((-9223372036854775808 : Int) ≤ (2 : Int) * x7 ∧
                                                      (2 : Int) * x7 ≤ (9223372036854775807 : Int)) ∧
                                                    ∀ (x8 : Int),
                                                      x8 = (2 : Int) * x7 →
                                                        ((0 : Int) ≤ x2 ∧ x2 ≤ (1000000 : Int)) ∧
                                                          ∀ (x9 : Int),
                                                            x9 = rate x2 →
                                                              ((0 : Int) ≤ x2 ∧ x2 ≤ (1000000 : Int)) ∧
                                                                ∀ (x10 : Int),
                                                                  x10 = rate x2 →
                                                                    ((x9 == x10) = true →
                                                                        (decide (x8 ≤ (60000 : Int)) = true →
                                                                            Q
                                                                              {
                                                                                val :=
                                                                                  HV.ce
                                                                                    (HC.bool
                                                                                      (decide (x8 > (-60000 : Int)))),
                                                                                own := false, pars := [], news := [] }) ∧
                                                                          (decide (x8 ≤ (60000 : Int)) = false →
                                                                            Q
                                                                              { val := HV.ce (HC.bool false), own := false,
                                                                                pars := [], news := [] })) ∧
                                                                      ((x9 == x10) = false →
                                                                        Q
                                                                          { val := HV.ce (HC.bool false), own := false,
                                                                            pars := [], news := [] }))) := by kernel_rfl
def SLIndex (hargs : List HV) (pars : List (List HC)) : SR :=
  match hargs, pars with
  | [.ce (.int .i64 _), .ce (.bool _)], [] => .det True ⟨.ce (.bool true), false, [], []⟩
  | _, _ => .fail
noncomputable def CLIndex : Ctx := ⟨Try.prog, gam tabS3, Try.f4.ntmps, [], []⟩
theorem vcLIndex (p : Int) (b : Bool) (Q : Res → Prop) : (nfun true CLIndex Try.f4 (bodyOf Try.f4) [.ce (.int .i64 p), .ce (.bool b)] [] Q) =
    (True ∧
      ∀ (x1 : Bool),
        x1 = true →
          ((!x1) = true → Q { val := HV.ce (HC.bool false), own := false, pars := [], news := [] }) ∧
            ((!x1) = false →
              (1125899906842624 : Int) ≠ (0 : Int) ∧
                ∀ (x2 : Int),
                  x2 = Int.tmod p (1125899906842624 : Int) →
                    (b = true →
                        ((-1125899906842624 : Int) ≤ x2 ∧ x2 ≤ (1125899906842624 : Int)) ∧
                          ∀ (x3 : Int),
                            x3 = idx x2 (-1 : Int) →
                              (1048576 : Int) ≠ (0 : Int) ∧
                                ∀ (x4 : Int),
                                  x4 = Int.tmod x3 (1048576 : Int) →
                                    ((x4 == (0 : Int)) = true →
                                        (decide (x3 ≤ x2) = true →
                                            ((-9223372036854775808 : Int) ≤ x2 - x3 ∧
                                                x2 - x3 ≤ (9223372036854775807 : Int)) ∧
                                              ∀ (x5 : Int),
                                                x5 = x2 - x3 →
                                                  Q
                                                    { val := HV.ce (HC.bool (decide (x5 < (1048576 : Int)))), own := false,
                                                      pars := [], news := [] }) ∧
                                          (decide (x3 ≤ x2) = false →
                                            Q { val := HV.ce (HC.bool false), own := false, pars := [], news := [] })) ∧
                                      ((x4 == (0 : Int)) = false →
                                        Q { val := HV.ce (HC.bool false), own := false, pars := [], news := [] })) ∧
                      (b = false →
                        ((-1125899906842624 : Int) ≤ x2 ∧ x2 ≤ (1125899906842624 : Int)) ∧
                          ∀ (x6 : Int),
                            x6 = idx x2 (1 : Int) →
                              (1048576 : Int) ≠ (0 : Int) ∧
                                ∀ (x7 : Int),
                                  x7 = Int.tmod x6 (1048576 : Int) →
                                    ((x7 == (0 : Int)) = true →
                                        (decide (x6 ≥ x2) = true →
                                            ((-9223372036854775808 : Int) ≤ x6 - x2 ∧
                                                x6 - x2 ≤ (9223372036854775807 : Int)) ∧
                                              ∀ (x8 : Int),
                                                x8 = x6 - x2 →
                                                  Q
                                                    { val := HV.ce (HC.bool (decide (x8 < (1048576 : Int)))), own := false,
                                                      pars := [], news := [] }) ∧
                                          (decide (x6 ≥ x2) = false →
                                            Q { val := HV.ce (HC.bool false), own := false, pars := [], news := [] })) ∧
                                      ((x7 == (0 : Int)) = false →
                                        Q { val := HV.ce (HC.bool false), own := false, pars := [], news := [] })))) := by kernel_rfl
def SLStep (hargs : List HV) (pars : List (List HC)) : SR :=
  match hargs, pars with
  | [.agg [.int .i64 _, .int .i64 _, .int .i64 _, .int .i64 _], .ce (.int .i64 _)], [] => .det True ⟨.ce (.bool true), false, [], []⟩
  | _, _ => .fail
noncomputable def CLStep : Ctx := ⟨Try.prog, gam tabS3, Try.f6.ntmps, [], []⟩
theorem vcLStep (d s t p r : Int) (Q : Res → Prop) : (nfun true CLStep Try.f6 (bodyOf Try.f6) [.agg [.int .i64 d, .int .i64 s, .int .i64 t, .int .i64 p], .ce (.int .i64 r)] [] Q) =
    (True ∧
      ∀ (x1 : Bool),
        x1 = true →
          ((!x1) = true → Q { val := HV.ce (HC.bool false), own := false, pars := [], news := [] }) ∧
            ((!x1) = false →
              True ∧
                ∀ (x2 : Int),
                  (x2 = if d = (-1 : Int) then (-1 : Int) else (1 : Int)) →
                    ∀ (x3 : Int),
                      x3 = s % (524289 : Int) →
                        ∀ (x4 : Int),
                          x4 = t % (524289 : Int) →
                            ∀ (x5 : Int),
                              x5 = Int.tmod p (1125899906842624 : Int) →
                                ((0 : Int) ≤ (30000 : Int) ∧ (30000 : Int) ≤ (1000000 : Int)) ∧
                                  ∀ (x6 : Int),
                                    x6 = (524288 : Int) →
                                      ((0 : Int) < x6 ∧ x6 ≤ (4611686018427387904 : Int)) ∧
                                        ∀ (x7 : Int),
                                          x7 = r % x6 →
                                            ((-9223372036854775808 : Int) ≤ (1 : Int) + x7 ∧
                                                (1 : Int) + x7 ≤ (9223372036854775807 : Int)) ∧
                                              ∀ (x8 : Int),
                                                x8 = (1 : Int) + x7 →
                                                  ((x2 = (-1 : Int) ∨ x2 = (1 : Int)) ∧
                                                      ((0 : Int) ≤ x3 ∧ x3 ≤ (1000000 : Int)) ∧
                                                        ((0 : Int) ≤ x4 ∧ x4 ≤ (1000000 : Int)) ∧
                                                          ((-1125899906842624 : Int) ≤ x5 ∧ x5 ≤ (1125899906842624 : Int)) ∧
                                                            (0 : Int) ≤ x8 ∧ x8 ≤ (1000000 : Int)) ∧
                                                    ∀ (x9 : Int),
                                                      x9 = x2 →
                                                        ∀ (x10 : Int),
                                                          x10 = stp x3 x4 x8 →
                                                            ∀ (x11 : Int),
                                                              x11 = x4 →
                                                                ∀ (x12 : Int),
                                                                  x12 = x5 + x2 * stp x3 x4 x8 →
                                                                    ((-9223372036854775808 : Int) ≤ x10 - x3 ∧
                                                                        x10 - x3 ≤ (9223372036854775807 : Int)) ∧
                                                                      ∀ (x13 : Int),
                                                                        x13 = x10 - x3 →
                                                                          ((x2 = (-1 : Int) ∨ x2 = (1 : Int)) ∧
                                                                              ((0 : Int) ≤ x3 ∧ x3 ≤ (1000000 : Int)) ∧
                                                                                ((0 : Int) ≤ x4 ∧ x4 ≤ (1000000 : Int)) ∧
                                                                                  ((-1125899906842624 : Int) ≤ x5 ∧
                                                                                      x5 ≤ (1125899906842624 : Int)) ∧
                                                                                    (0 : Int) ≤ x8 ∧ x8 ≤ (1000000 : Int)) ∧
                                                                            ∀ (x14 : Int),
                                                                              x14 = x2 →
                                                                                ∀ (x15 : Int),
                                                                                  x15 = stp x3 x4 x8 →
                                                                                    ∀ (x16 : Int),
                                                                                      x16 = x4 →
                                                                                        ∀ (x17 : Int),
                                                                                          x17 = x5 + x2 * stp x3 x4 x8 →
                                                                                            ((x9 == x14 &&
                                                                                                    (x10 == x15 &&
                                                                                                      (x11 == x16 &&
                                                                                                        (x12 == x17 &&
                                                                                                          true)))) =
                                                                                                  true →
                                                                                                (decide (x13 ≤ x8) = true →
                                                                                                    ((-9223372036854775808 :
                                                                                                            Int) ≤
                                                                                                          (0 : Int) - x13 ∧
                                                                                                        (0 : Int) - x13 ≤
                                                                                                          (9223372036854775807 :
                                                                                                            Int)) ∧
                                                                                                      ∀ (x18 : Int),
                                                                                                        x18 =
                                                                                                            (0 : Int) -
                                                                                                              x13 →
                                                                                                          (decide
                                                                                                                  (x18 ≤
                                                                                                                    x8) =
                                                                                                                true →
                                                                                                              ((-9223372036854775808 :
                                                                                                                      Int) ≤
                                                                                                                    x12 -
                                                                                                                      x5 ∧
                                                                                                                  x12 - x5 ≤
                                                                                                                    (9223372036854775807 :
                                                                                                                      Int)) ∧
                                                                                                                ∀
                                                                                                                  (x19 :
                                                                                                                    Int),
                                                                                                                  x19 =
                                                                                                                      x12 -
                                                                                                                        x5 →
                                                                                                                    ((-9223372036854775808 :
                                                                                                                            Int) ≤
                                                                                                                          x2 *
                                                                                                                            x10 ∧
                                                                                                                        x2 *
                                                                                                                            x10 ≤
                                                                                                                          (9223372036854775807 :
                                                                                                                            Int)) ∧
                                                                                                                      ∀
                                                                                                                        (x20 :
                                                                                                                          Int),
                                                                                                                        x20 =
                                                                                                                            x2 *
                                                                                                                              x10 →
                                                                                                                          ((x19 ==
                                                                                                                                  x20) =
                                                                                                                                true →
                                                                                                                              ((x9 ==
                                                                                                                                      x2) =
                                                                                                                                    true →
                                                                                                                                  Q
                                                                                                                                    {
                                                                                                                                      val :=
                                                                                                                                        HV.ce
                                                                                                                                          (HC.bool
                                                                                                                                            (x11 ==
                                                                                                                                              x4)),
                                                                                                                                      own :=
                                                                                                                                        false,
                                                                                                                                      pars :=
                                                                                                                                        [],
                                                                                                                                      news :=
                                                                                                                                        [] }) ∧
                                                                                                                                ((x9 ==
                                                                                                                                      x2) =
                                                                                                                                    false →
                                                                                                                                  Q
                                                                                                                                    {
                                                                                                                                      val :=
                                                                                                                                        HV.ce
                                                                                                                                          (HC.bool
                                                                                                                                            false),
                                                                                                                                      own :=
                                                                                                                                        false,
                                                                                                                                      pars :=
                                                                                                                                        [],
                                                                                                                                      news :=
                                                                                                                                        [] })) ∧
                                                                                                                            ((x19 ==
                                                                                                                                  x20) =
                                                                                                                                false →
                                                                                                                              Q
                                                                                                                                {
                                                                                                                                  val :=
                                                                                                                                    HV.ce
                                                                                                                                      (HC.bool
                                                                                                                                        false),
                                                                                                                                  own :=
                                                                                                                                    false,
                                                                                                                                  pars :=
                                                                                                                                    [],
                                                                                                                                  news :=
                                                                                                                                    [] })) ∧
                                                                                                            (decide
                                                                                                                  (x18 ≤
                                                                                                                    x8) =
                                                                                                                false →
                                                                                                              Q
                                                                                                                {
                                                                                                                  val :=
                                                                                                                    HV.ce
                                                                                                                      (HC.bool
                                                                                                                        false),
                                                                                                                  own :=
                                                                                                                    false,
                                                                                                                  pars :=
                                                                                                                    [],
                                                                                                                  news :=
                                                                                                                    [] })) ∧
                                                                                                  (decide (x13 ≤ x8) =
                                                                                                      false →
                                                                                                    Q
                                                                                                      {
                                                                                                        val :=
                                                                                                          HV.ce
                                                                                                            (HC.bool false),
                                                                                                        own := false,
                                                                                                        pars := [],
                                                                                                        news := [] })) ∧
                                                                                              ((x9 == x14 &&
                                                                                                    (x10 == x15 &&
                                                                                                      (x11 == x16 &&
                                                                                                        (x12 == x17 &&
                                                                                                          true)))) =
                                                                                                  false →
                                                                                                Q
                                                                                                  {
                                                                                                    val :=
                                                                                                      HV.ce (HC.bool false),
                                                                                                    own := false,
                                                                                                    pars := [],
                                                                                                    news := [] }))) := by kernel_rfl
def SLCommand (hargs : List HV) (pars : List (List HC)) : SR :=
  match hargs, pars with
  | [.agg [.int .i64 _, .int .i64 _, .int .i64 _, .int .i64 _], .ce (.int .i64 _), .ce (.int .i64 _)], [] => .det True ⟨.ce (.bool true), false, [], []⟩
  | _, _ => .fail
def anC : LAnn := ⟨[2, 3, 6, 17, 18], [6], [1000003], false⟩
def LC (v : LV) : LR :=
  match v with
  | ([.ce (.int .i64 v), .ce (.ptr 1000003 0), .ce (.bool r), .agg [.int .i64 a, .int .i64 b, .int .i64 c, .int .i64 e], .ce (.int .i64 k)], [[.int .i64 d, .int .i64 s, .int .i64 t, .int .i64 p]]) =>
    .det ((0 ≤ v ∧ v ≤ 1000000) ∧ k = 0) (.exit 0) ([.ce (.bool r)], [[.int .i64 d, .int .i64 s, .int .i64 t, .int .i64 p]])
  | _ => .fail
noncomputable def CLCommand : Ctx := ⟨Try.prog, gam tabS3, Try.f7.ntmps, [(5, anC, LC)], []⟩
theorem vcLCommand (d s t p n v : Int) (Q : Res → Prop) : (nfun true CLCommand Try.f7 (bodyOf Try.f7) [.agg [.int .i64 d, .int .i64 s, .int .i64 t, .int .i64 p], .ce (.int .i64 n), .ce (.int .i64 v)] [] Q) =
    (True ∧
      ∀ (x1 : Bool),
        x1 = true →
          ((!x1) = true → Q { val := HV.ce (HC.bool false), own := false, pars := [], news := [] }) ∧
            ((!x1) = false →
              True ∧
                ∀ (x2 : Int),
                  (x2 = if d = (-1 : Int) then (-1 : Int) else (1 : Int)) →
                    ∀ (x3 : Int),
                      x3 = s % (524289 : Int) →
                        ∀ (x4 : Int),
                          x4 = t % (524289 : Int) →
                            ∀ (x5 : Int),
                              x5 = Int.tmod p (1125899906842624 : Int) →
                                ((0 : Int) < (30001 : Int) ∧ (30001 : Int) ≤ (4611686018427387904 : Int)) ∧
                                  ∀ (x6 : Int),
                                    x6 = v % (30001 : Int) →
                                      (((0 : Int) ≤ x6 ∧ x6 ≤ (1000000 : Int)) ∧ (0 : Int) = (0 : Int)) ∧
                                        Q { val := HV.ce (HC.bool true), own := false, pars := [], news := [] })) := by kernel_rfl
theorem vbLCommand (v a b c e k d s t p : Int) (r : Bool) (K : HEx → LV → Prop) : (nbodyT true CLCommand anC (nthLoop Try.f7 0) ([.ce (.int .i64 v), .ce (.ptr 1000003 0), .ce (.bool r), .agg [.int .i64 a, .int .i64 b, .int .i64 c, .int .i64 e], .ce (.int .i64 k)], [[.int .i64 d, .int .i64 s, .int .i64 t, .int .i64 p]]) K) =
    ((decide (k < (4 : Int)) = true →
        ((0 : Int) ≤ k ∧ k < (4 : Int)) ∧
          (k = (0 : Int) →
              ((0 : Int) ≤ v ∧ v ≤ (1000000 : Int)) ∧
                ∀ (x1 : Int),
                  x1 = cmdD d s a →
                    ∀ (x2 : Int),
                      x2 = s →
                        ∀ (x3 : Int),
                          x3 = cmdT d s t a v →
                            ∀ (x4 : Int),
                              x4 = p →
                                ((0 : Int) ≤ v ∧ v ≤ (1000000 : Int)) ∧
                                  ∀ (x5 : Int),
                                    x5 = cmdD d s a →
                                      ∀ (x6 : Int),
                                        x6 = s →
                                          ∀ (x7 : Int),
                                            x7 = cmdT d s t a v →
                                              ∀ (x8 : Int),
                                                x8 = p →
                                                  ((!(x1 == x5 && (x2 == x6 && (x3 == x7 && (x4 == x8 && true))))) = true →
                                                      K HEx.ret
                                                        ([HV.ce (HC.bool false)],
                                                          [[HC.int IntKind.i64 d, HC.int IntKind.i64 s,
                                                              HC.int IntKind.i64 t, HC.int IntKind.i64 p]])) ∧
                                                    ((!(x1 == x5 && (x2 == x6 && (x3 == x7 && (x4 == x8 && true))))) =
                                                        false →
                                                      ((0 : Int) ≤ v ∧ v ≤ (1000000 : Int)) ∧
                                                        ∀ (x9 : Bool),
                                                          x9 = rch d s t a v →
                                                            ((0 : Int) ≤ v ∧ v ≤ (1000000 : Int)) ∧
                                                              ∀ (x10 : Bool),
                                                                x10 = rch d s t a v →
                                                                  ((!x9 == x10) = true →
                                                                      K HEx.ret
                                                                        ([HV.ce (HC.bool false)],
                                                                          [[HC.int IntKind.i64 d, HC.int IntKind.i64 s,
                                                                              HC.int IntKind.i64 t,
                                                                              HC.int IntKind.i64 p]])) ∧
                                                                    ((!x9 == x10) = false →
                                                                      ((0 : Int) ≤ v ∧ v ≤ (1000000 : Int)) ∧
                                                                        ∀ (x11 : Int),
                                                                          x11 = cmdD d s a →
                                                                            ∀ (x12 : Int),
                                                                              x12 = s →
                                                                                ∀ (x13 : Int),
                                                                                  x13 = cmdT d s t a v →
                                                                                    ∀ (x14 : Int),
                                                                                      x14 = p →
                                                                                        ((0 : Int) ≤ v ∧
                                                                                            v ≤ (1000000 : Int)) ∧
                                                                                          ∀ (x15 : Bool),
                                                                                            x15 = rch x11 x12 x13 a v →
                                                                                              ((0 : Int) ≤ v ∧
                                                                                                  v ≤ (1000000 : Int)) ∧
                                                                                                ∀ (x16 : Bool),
                                                                                                  x16 =
                                                                                                      rch x11 x12 x13 a v →
                                                                                                    ((!x15 == x16) = true →
                                                                                                        K HEx.ret
                                                                                                          ([HV.ce
                                                                                                                (HC.bool
                                                                                                                  false)],
                                                                                                            [[HC.int
                                                                                                                  IntKind.i64
                                                                                                                  d,
                                                                                                                HC.int
                                                                                                                  IntKind.i64
                                                                                                                  s,
                                                                                                                HC.int
                                                                                                                  IntKind.i64
                                                                                                                  t,
                                                                                                                HC.int
                                                                                                                  IntKind.i64
                                                                                                                  p]])) ∧
                                                                                                      ((!x15 == x16) =
                                                                                                          false →
                                                                                                        ((-9223372036854775808 :
                                                                                                                Int) ≤
                                                                                                              k +
                                                                                                                (1 : Int) ∧
                                                                                                            k + (1 : Int) ≤
                                                                                                              (9223372036854775807 :
                                                                                                                Int)) ∧
                                                                                                          ∀ (x17 : Int),
                                                                                                            x17 =
                                                                                                                k +
                                                                                                                  (1 :
                                                                                                                    Int) →
                                                                                                              K HEx.normal
                                                                                                                ([HV.ce
                                                                                                                      (HC.int
                                                                                                                        IntKind.i64
                                                                                                                        v),
                                                                                                                    HV.ce
                                                                                                                      (HC.ptr
                                                                                                                        (1000003 :
                                                                                                                          Nat)
                                                                                                                        (0 :
                                                                                                                          Nat)),
                                                                                                                    HV.ce
                                                                                                                      (HC.bool
                                                                                                                        r),
                                                                                                                    HV.agg
                                                                                                                      [HC.int
                                                                                                                          IntKind.i64
                                                                                                                          a,
                                                                                                                        HC.int
                                                                                                                          IntKind.i64
                                                                                                                          b,
                                                                                                                        HC.int
                                                                                                                          IntKind.i64
                                                                                                                          c,
                                                                                                                        HC.int
                                                                                                                          IntKind.i64
                                                                                                                          e],
                                                                                                                    HV.ce
                                                                                                                      (HC.int
                                                                                                                        IntKind.i64
                                                                                                                        x17)],
                                                                                                                  [[HC.int
                                                                                                                        IntKind.i64
                                                                                                                        d,
                                                                                                                      HC.int
                                                                                                                        IntKind.i64
                                                                                                                        s,
                                                                                                                      HC.int
                                                                                                                        IntKind.i64
                                                                                                                        t,
                                                                                                                      HC.int
                                                                                                                        IntKind.i64
                                                                                                                        p]]))))) ∧
            (k = (1 : Int) →
                ((0 : Int) ≤ v ∧ v ≤ (1000000 : Int)) ∧
                  ∀ (x18 : Int),
                    x18 = cmdD d s b →
                      ∀ (x19 : Int),
                        x19 = s →
                          ∀ (x20 : Int),
                            x20 = cmdT d s t b v →
                              ∀ (x21 : Int),
                                x21 = p →
                                  ((0 : Int) ≤ v ∧ v ≤ (1000000 : Int)) ∧
                                    ∀ (x22 : Int),
                                      x22 = cmdD d s b →
                                        ∀ (x23 : Int),
                                          x23 = s →
                                            ∀ (x24 : Int),
                                              x24 = cmdT d s t b v →
                                                ∀ (x25 : Int),
                                                  x25 = p →
                                                    ((!(x18 == x22 &&
                                                              (x19 == x23 && (x20 == x24 && (x21 == x25 && true))))) =
                                                          true →
                                                        K HEx.ret
                                                          ([HV.ce (HC.bool false)],
                                                            [[HC.int IntKind.i64 d, HC.int IntKind.i64 s,
                                                                HC.int IntKind.i64 t, HC.int IntKind.i64 p]])) ∧
                                                      ((!(x18 == x22 &&
                                                              (x19 == x23 && (x20 == x24 && (x21 == x25 && true))))) =
                                                          false →
                                                        ((0 : Int) ≤ v ∧ v ≤ (1000000 : Int)) ∧
                                                          ∀ (x26 : Bool),
                                                            x26 = rch d s t b v →
                                                              ((0 : Int) ≤ v ∧ v ≤ (1000000 : Int)) ∧
                                                                ∀ (x27 : Bool),
                                                                  x27 = rch d s t b v →
                                                                    ((!x26 == x27) = true →
                                                                        K HEx.ret
                                                                          ([HV.ce (HC.bool false)],
                                                                            [[HC.int IntKind.i64 d, HC.int IntKind.i64 s,
                                                                                HC.int IntKind.i64 t,
                                                                                HC.int IntKind.i64 p]])) ∧
                                                                      ((!x26 == x27) = false →
                                                                        ((0 : Int) ≤ v ∧ v ≤ (1000000 : Int)) ∧
                                                                          ∀ (x28 : Int),
                                                                            x28 = cmdD d s b →
                                                                              ∀ (x29 : Int),
                                                                                x29 = s →
                                                                                  ∀ (x30 : Int),
                                                                                    x30 = cmdT d s t b v →
                                                                                      ∀ (x31 : Int),
                                                                                        x31 = p →
                                                                                          ((0 : Int) ≤ v ∧
                                                                                              v ≤ (1000000 : Int)) ∧
                                                                                            ∀ (x32 : Bool),
                                                                                              x32 = rch x28 x29 x30 b v →
                                                                                                ((0 : Int) ≤ v ∧
                                                                                                    v ≤ (1000000 : Int)) ∧
                                                                                                  ∀ (x33 : Bool),
                                                                                                    x33 =
                                                                                                        rch x28 x29 x30 b
                                                                                                          v →
                                                                                                      ((!x32 == x33) =
                                                                                                            true →
                                                                                                          K HEx.ret
                                                                                                            ([HV.ce
                                                                                                                  (HC.bool
                                                                                                                    false)],
                                                                                                              [[HC.int
                                                                                                                    IntKind.i64
                                                                                                                    d,
                                                                                                                  HC.int
                                                                                                                    IntKind.i64
                                                                                                                    s,
                                                                                                                  HC.int
                                                                                                                    IntKind.i64
                                                                                                                    t,
                                                                                                                  HC.int
                                                                                                                    IntKind.i64
                                                                                                                    p]])) ∧
                                                                                                        ((!x32 == x33) =
                                                                                                            false →
                                                                                                          ((-9223372036854775808 :
                                                                                                                  Int) ≤
                                                                                                                k +
                                                                                                                  (1 :
                                                                                                                    Int) ∧
                                                                                                              k +
                                                                                                                  (1 :
                                                                                                                    Int) ≤
                                                                                                                (9223372036854775807 :
                                                                                                                  Int)) ∧
                                                                                                            ∀ (x34 : Int),
                                                                                                              x34 =
                                                                                                                  k +
                                                                                                                    (1 :
                                                                                                                      Int) →
                                                                                                                K HEx.normal
                                                                                                                  ([HV.ce
                                                                                                                        (HC.int
                                                                                                                          IntKind.i64
                                                                                                                          v),
                                                                                                                      HV.ce
                                                                                                                        (HC.ptr
                                                                                                                          (1000003 :
                                                                                                                            Nat)
                                                                                                                          (0 :
                                                                                                                            Nat)),
                                                                                                                      HV.ce
                                                                                                                        (HC.bool
                                                                                                                          r),
                                                                                                                      HV.agg
                                                                                                                        [HC.int
                                                                                                                            IntKind.i64
                                                                                                                            a,
                                                                                                                          HC.int
                                                                                                                            IntKind.i64
                                                                                                                            b,
                                                                                                                          HC.int
                                                                                                                            IntKind.i64
                                                                                                                            c,
                                                                                                                          HC.int
                                                                                                                            IntKind.i64
                                                                                                                            e],
                                                                                                                      HV.ce
                                                                                                                        (HC.int
                                                                                                                          IntKind.i64
                                                                                                                          x34)],
                                                                                                                    [[HC.int
                                                                                                                          IntKind.i64
                                                                                                                          d,
                                                                                                                        HC.int
                                                                                                                          IntKind.i64
                                                                                                                          s,
                                                                                                                        HC.int
                                                                                                                          IntKind.i64
                                                                                                                          t,
                                                                                                                        HC.int
                                                                                                                          IntKind.i64
                                                                                                                          p]]))))) ∧
              (k = (2 : Int) →
                  ((0 : Int) ≤ v ∧ v ≤ (1000000 : Int)) ∧
                    ∀ (x35 : Int),
                      x35 = cmdD d s c →
                        ∀ (x36 : Int),
                          x36 = s →
                            ∀ (x37 : Int),
                              x37 = cmdT d s t c v →
                                ∀ (x38 : Int),
                                  x38 = p →
                                    ((0 : Int) ≤ v ∧ v ≤ (1000000 : Int)) ∧
                                      ∀ (x39 : Int),
                                        x39 = cmdD d s c →
                                          ∀ (x40 : Int),
                                            x40 = s →
                                              ∀ (x41 : Int),
                                                x41 = cmdT d s t c v →
                                                  ∀ (x42 : Int),
                                                    x42 = p →
                                                      ((!(x35 == x39 &&
                                                                (x36 == x40 && (x37 == x41 && (x38 == x42 && true))))) =
                                                            true →
                                                          K HEx.ret
                                                            ([HV.ce (HC.bool false)],
                                                              [[HC.int IntKind.i64 d, HC.int IntKind.i64 s,
                                                                  HC.int IntKind.i64 t, HC.int IntKind.i64 p]])) ∧
                                                        ((!(x35 == x39 &&
                                                                (x36 == x40 && (x37 == x41 && (x38 == x42 && true))))) =
                                                            false →
                                                          ((0 : Int) ≤ v ∧ v ≤ (1000000 : Int)) ∧
                                                            ∀ (x43 : Bool),
                                                              x43 = rch d s t c v →
                                                                ((0 : Int) ≤ v ∧ v ≤ (1000000 : Int)) ∧
                                                                  ∀ (x44 : Bool),
                                                                    x44 = rch d s t c v →
                                                                      ((!x43 == x44) = true →
                                                                          K HEx.ret
                                                                            ([HV.ce (HC.bool false)],
                                                                              [[HC.int IntKind.i64 d, HC.int IntKind.i64 s,
                                                                                  HC.int IntKind.i64 t,
                                                                                  HC.int IntKind.i64 p]])) ∧
                                                                        ((!x43 == x44) = false →
                                                                          ((0 : Int) ≤ v ∧ v ≤ (1000000 : Int)) ∧
                                                                            ∀ (x45 : Int),
                                                                              x45 = cmdD d s c →
                                                                                ∀ (x46 : Int),
                                                                                  x46 = s →
                                                                                    ∀ (x47 : Int),
                                                                                      x47 = cmdT d s t c v →
                                                                                        ∀ (x48 : Int),
                                                                                          x48 = p →
                                                                                            ((0 : Int) ≤ v ∧
                                                                                                v ≤ (1000000 : Int)) ∧
                                                                                              ∀ (x49 : Bool),
                                                                                                x49 = rch x45 x46 x47 c v →
                                                                                                  ((0 : Int) ≤ v ∧
                                                                                                      v ≤ (1000000 : Int)) ∧
                                                                                                    ∀ (x50 : Bool),
                                                                                                      x50 =
                                                                                                          rch x45 x46 x47 c
                                                                                                            v →
                                                                                                        ((!x49 == x50) =
                                                                                                              true →
                                                                                                            K HEx.ret
                                                                                                              ([HV.ce
                                                                                                                    (HC.bool
                                                                                                                      false)],
                                                                                                                [[HC.int
                                                                                                                      IntKind.i64
                                                                                                                      d,
                                                                                                                    HC.int
                                                                                                                      IntKind.i64
                                                                                                                      s,
                                                                                                                    HC.int
                                                                                                                      IntKind.i64
                                                                                                                      t,
                                                                                                                    HC.int
                                                                                                                      IntKind.i64
                                                                                                                      p]])) ∧
                                                                                                          ((!x49 == x50) =
                                                                                                              false →
                                                                                                            ((-9223372036854775808 :
                                                                                                                    Int) ≤
                                                                                                                  k +
                                                                                                                    (1 :
                                                                                                                      Int) ∧
                                                                                                                k +
                                                                                                                    (1 :
                                                                                                                      Int) ≤
                                                                                                                  (9223372036854775807 :
                                                                                                                    Int)) ∧
                                                                                                              ∀ (x51 : Int),
                                                                                                                x51 =
                                                                                                                    k +
                                                                                                                      (1 :
                                                                                                                        Int) →
                                                                                                                  K
                                                                                                                    HEx.normal
                                                                                                                    ([HV.ce
                                                                                                                          (HC.int
                                                                                                                            IntKind.i64
                                                                                                                            v),
                                                                                                                        HV.ce
                                                                                                                          (HC.ptr
                                                                                                                            (1000003 :
                                                                                                                              Nat)
                                                                                                                            (0 :
                                                                                                                              Nat)),
                                                                                                                        HV.ce
                                                                                                                          (HC.bool
                                                                                                                            r),
                                                                                                                        HV.agg
                                                                                                                          [HC.int
                                                                                                                              IntKind.i64
                                                                                                                              a,
                                                                                                                            HC.int
                                                                                                                              IntKind.i64
                                                                                                                              b,
                                                                                                                            HC.int
                                                                                                                              IntKind.i64
                                                                                                                              c,
                                                                                                                            HC.int
                                                                                                                              IntKind.i64
                                                                                                                              e],
                                                                                                                        HV.ce
                                                                                                                          (HC.int
                                                                                                                            IntKind.i64
                                                                                                                            x51)],
                                                                                                                      [[HC.int
                                                                                                                            IntKind.i64
                                                                                                                            d,
                                                                                                                          HC.int
                                                                                                                            IntKind.i64
                                                                                                                            s,
                                                                                                                          HC.int
                                                                                                                            IntKind.i64
                                                                                                                            t,
                                                                                                                          HC.int
                                                                                                                            IntKind.i64
                                                                                                                            p]]))))) ∧
                (k = (3 : Int) →
                  ((0 : Int) ≤ v ∧ v ≤ (1000000 : Int)) ∧
                    ∀ (x52 : Int),
                      x52 = cmdD d s e →
                        ∀ (x53 : Int),
                          x53 = s →
                            ∀ (x54 : Int),
                              x54 = cmdT d s t e v →
                                ∀ (x55 : Int),
                                  x55 = p →
                                    ((0 : Int) ≤ v ∧ v ≤ (1000000 : Int)) ∧
                                      ∀ (x56 : Int),
                                        x56 = cmdD d s e →
                                          ∀ (x57 : Int),
                                            x57 = s →
                                              ∀ (x58 : Int),
                                                x58 = cmdT d s t e v →
                                                  ∀ (x59 : Int),
                                                    x59 = p →
                                                      ((!(x52 == x56 &&
                                                                (x53 == x57 && (x54 == x58 && (x55 == x59 && true))))) =
                                                            true →
                                                          K HEx.ret
                                                            ([HV.ce (HC.bool false)],
                                                              [[HC.int IntKind.i64 d, HC.int IntKind.i64 s,
                                                                  HC.int IntKind.i64 t, HC.int IntKind.i64 p]])) ∧
                                                        ((!(x52 == x56 &&
                                                                (x53 == x57 && (x54 == x58 && (x55 == x59 && true))))) =
                                                            false →
                                                          ((0 : Int) ≤ v ∧ v ≤ (1000000 : Int)) ∧
                                                            ∀ (x60 : Bool),
                                                              x60 = rch d s t e v →
                                                                ((0 : Int) ≤ v ∧ v ≤ (1000000 : Int)) ∧
                                                                  ∀ (x61 : Bool),
                                                                    x61 = rch d s t e v →
                                                                      ((!x60 == x61) = true →
                                                                          K HEx.ret
                                                                            ([HV.ce (HC.bool false)],
                                                                              [[HC.int IntKind.i64 d, HC.int IntKind.i64 s,
                                                                                  HC.int IntKind.i64 t,
                                                                                  HC.int IntKind.i64 p]])) ∧
                                                                        ((!x60 == x61) = false →
                                                                          ((0 : Int) ≤ v ∧ v ≤ (1000000 : Int)) ∧
                                                                            ∀ (x62 : Int),
                                                                              x62 = cmdD d s e →
                                                                                ∀ (x63 : Int),
                                                                                  x63 = s →
                                                                                    ∀ (x64 : Int),
                                                                                      x64 = cmdT d s t e v →
                                                                                        ∀ (x65 : Int),
                                                                                          x65 = p →
                                                                                            ((0 : Int) ≤ v ∧
                                                                                                v ≤ (1000000 : Int)) ∧
                                                                                              ∀ (x66 : Bool),
                                                                                                x66 = rch x62 x63 x64 e v →
                                                                                                  ((0 : Int) ≤ v ∧
                                                                                                      v ≤ (1000000 : Int)) ∧
                                                                                                    ∀ (x67 : Bool),
                                                                                                      x67 =
                                                                                                          rch x62 x63 x64 e
                                                                                                            v →
                                                                                                        ((!x66 == x67) =
                                                                                                              true →
                                                                                                            K HEx.ret
                                                                                                              ([HV.ce
                                                                                                                    (HC.bool
                                                                                                                      false)],
                                                                                                                [[HC.int
                                                                                                                      IntKind.i64
                                                                                                                      d,
                                                                                                                    HC.int
                                                                                                                      IntKind.i64
                                                                                                                      s,
                                                                                                                    HC.int
                                                                                                                      IntKind.i64
                                                                                                                      t,
                                                                                                                    HC.int
                                                                                                                      IntKind.i64
                                                                                                                      p]])) ∧
                                                                                                          ((!x66 == x67) =
                                                                                                              false →
                                                                                                            ((-9223372036854775808 :
                                                                                                                    Int) ≤
                                                                                                                  k +
                                                                                                                    (1 :
                                                                                                                      Int) ∧
                                                                                                                k +
                                                                                                                    (1 :
                                                                                                                      Int) ≤
                                                                                                                  (9223372036854775807 :
                                                                                                                    Int)) ∧
                                                                                                              ∀ (x68 : Int),
                                                                                                                x68 =
                                                                                                                    k +
                                                                                                                      (1 :
                                                                                                                        Int) →
                                                                                                                  K
                                                                                                                    HEx.normal
                                                                                                                    ([HV.ce
                                                                                                                          (HC.int
                                                                                                                            IntKind.i64
                                                                                                                            v),
                                                                                                                        HV.ce
                                                                                                                          (HC.ptr
                                                                                                                            (1000003 :
                                                                                                                              Nat)
                                                                                                                            (0 :
                                                                                                                              Nat)),
                                                                                                                        HV.ce
                                                                                                                          (HC.bool
                                                                                                                            r),
                                                                                                                        HV.agg
                                                                                                                          [HC.int
                                                                                                                              IntKind.i64
                                                                                                                              a,
                                                                                                                            HC.int
                                                                                                                              IntKind.i64
                                                                                                                              b,
                                                                                                                            HC.int
                                                                                                                              IntKind.i64
                                                                                                                              c,
                                                                                                                            HC.int
                                                                                                                              IntKind.i64
                                                                                                                              e],
                                                                                                                        HV.ce
                                                                                                                          (HC.int
                                                                                                                            IntKind.i64
                                                                                                                            x68)],
                                                                                                                      [[HC.int
                                                                                                                            IntKind.i64
                                                                                                                            d,
                                                                                                                          HC.int
                                                                                                                            IntKind.i64
                                                                                                                            s,
                                                                                                                          HC.int
                                                                                                                            IntKind.i64
                                                                                                                            t,
                                                                                                                          HC.int
                                                                                                                            IntKind.i64
                                                                                                                            p]])))))) ∧
      (decide (k < (4 : Int)) = false →
        K (HEx.exit (0 : Nat))
          ([HV.ce (HC.bool r)], [[HC.int IntKind.i64 d, HC.int IntKind.i64 s, HC.int IntKind.i64 t, HC.int IntKind.i64 p]]))) := by kernel_rfl
end Go.Proofs.Ythkoabbiiadbjaa
namespace Go.Proofs.Ythkoabbiiadbjaa
open Go Go.HL U
theorem sLRate : Sound Try.prog 3 SL1 := by
  refine sound_of (C := CLRate) tabS3 Try.func3 (by kernel_rfl) (by decide +kernel) (by kernel_rfl) rfl ⟨sAwake, sMod, sRate, sRate2, sIndex, sTurning, sStep, sStep2, sCommand, sCommand2, sReached, sReached2, trivial⟩ (loops0 (by kernel_rfl)) ?_
  intro hargs pars R h
  unfold SL1 at h
  split at h
  case h_2 => exact h.elim
  rename_i a
  refine byVC (vcLRate a R) ⟨trivial, fun x1 e1 => ⟨fun e => absurd e (by rw [e1]; simp), fun _ => ⟨by omega, fun x2 e2 => ?_⟩⟩⟩
  have b1 := Int.emod_nonneg a (show (30001 : Int) ≠ 0 by omega)
  have b2 := Int.emod_lt_of_pos a (show (0 : Int) < 30001 by omega)
  refine ⟨by omega, fun x3 e3 => ?_⟩
  have e3' := e3
  unfold rate at e3'
  refine ⟨by omega, fun x4 e4 => ⟨by omega, fun x5 e5 => ⟨by omega, fun x6 e6 => ⟨by omega, fun x7 e7 => ⟨by omega, fun x8 e8 => ⟨by omega, fun x9 e9 => ⟨by omega, fun x10 e10 => ⟨fun _ => ⟨fun _ => ?_, fun k => ?_⟩, fun k => ?_⟩⟩⟩⟩⟩⟩⟩⟩
  · rw [decide_eq_true (show x8 > -60000 by omega)]; exact h.2
  · exact absurd (of_decide_eq_false k) (by omega)
  · rw [e9, e10] at k; simp at k
theorem sLIndex : Sound Try.prog 4 SLIndex := by
  refine sound_of (C := CLIndex) tabS3 Try.func4 (by kernel_rfl) (by decide +kernel) (by kernel_rfl) rfl ⟨sAwake, sMod, sRate, sRate2, sIndex, sTurning, sStep, sStep2, sCommand, sCommand2, sReached, sReached2, trivial⟩ (loops0 (by kernel_rfl)) ?_
  intro hargs pars R h
  unfold SLIndex at h
  split at h
  case h_2 => exact h.elim
  rename_i p b
  refine byVC (vcLIndex p b R) ⟨trivial, fun x1 e1 => ⟨fun e => absurd e (by rw [e1]; simp), fun _ => ⟨by omega, fun x2 e2 => ?_⟩⟩⟩
  have hb := tmod_lt (a := p) (b := 1125899906842624) (by omega)
  rw [← e2] at hb
  refine ⟨fun _ => ⟨by omega, fun x3 e3 => ⟨by omega, fun x4 e4 => ?_⟩⟩, fun _ => ⟨by omega, fun x3 e3 => ⟨by omega, fun x4 e4 => ?_⟩⟩⟩
  · have e3' : x3 = x2 / 1048576 * 1048576 := by rw [e3]; rfl
    have h0 : x4 = 0 := by rw [e4, e3']; exact Int.mul_tmod_left _ _
    refine ⟨fun _ => ⟨fun _ => ⟨by omega, fun x5 e5 => ?_⟩, fun k => absurd (of_decide_eq_false k) (by omega)⟩, fun k => absurd k (by simp [h0])⟩
    rw [decide_eq_true (show x5 < 1048576 by omega)]; exact h.2
  · have e3' : x3 = -((-x2) / 1048576) * 1048576 := by rw [e3]; rfl
    have h0 : x4 = 0 := by rw [e4, e3']; exact Int.mul_tmod_left _ _
    refine ⟨fun _ => ⟨fun _ => ⟨by omega, fun x5 e5 => ?_⟩, fun k => absurd (of_decide_eq_false k) (by omega)⟩, fun k => absurd k (by simp [h0])⟩
    rw [decide_eq_true (show x5 < 1048576 by omega)]; exact h.2
theorem sLStep : Sound Try.prog 6 SLStep := by
  refine sound_of (C := CLStep) tabS3 Try.func6 (by kernel_rfl) (by decide +kernel) (by kernel_rfl) rfl ⟨sAwake, sMod, sRate, sRate2, sIndex, sTurning, sStep, sStep2, sCommand, sCommand2, sReached, sReached2, trivial⟩ (loops0 (by kernel_rfl)) ?_
  intro hargs pars R h
  unfold SLStep at h
  split at h
  case h_2 => exact h.elim
  rename_i d s t p r
  refine byVC (vcLStep d s t p r R) ⟨trivial, fun x1 e1 => ⟨fun e => absurd e (by rw [e1]; simp), fun _ => ⟨trivial, fun x2 e2 x3 e3 x4 e4 x5 e5 => ⟨by omega, fun x6 e6 => ⟨by omega, fun x7 e7 => ?_⟩⟩⟩⟩⟩
  have hb := tmod_lt (a := p) (b := 1125899906842624) (by omega)
  rw [← e5] at hb
  subst e6
  have hd : x2 = -1 ∨ x2 = 1 := by rw [e2]; split <;> omega
  refine ⟨by omega, fun x8 e8 => ⟨⟨hd, by omega, by omega, by omega, by omega⟩, fun x9 e9 x10 e10 x11 e11 x12 e12 => ?_⟩⟩
  have hs : 0 ≤ x10 ∧ x10 ≤ 2000000 ∧ x10 - x3 ≤ x8 ∧ x3 - x10 ≤ x8 := by
    rw [e10]; unfold stp; split <;> omega
  have hm : -2000000 ≤ x2 * x10 ∧ x2 * x10 ≤ 2000000 := by rcases hd with h | h <;> rw [h] <;> omega
  rw [← e10] at e12
  refine ⟨by omega, fun x13 e13 => ⟨⟨hd, by omega, by omega, by omega, by omega⟩, fun x14 e14 x15 e15 x16 e16 x17 e17 => ?_⟩⟩
  rw [← e15] at e17
  have e15 : x15 = x10 := by rw [e15, e10]
  subst e15
  refine ⟨fun _ => ⟨fun _ => ⟨by omega, fun x18 e18 => ⟨fun _ => ⟨by omega, fun x19 e19 => ⟨by omega, fun x20 e20 => ⟨fun _ => ⟨fun _ => ?_, fun k => ?_⟩, fun k => ?_⟩⟩⟩, fun k => ?_⟩⟩, fun k => ?_⟩, fun k => ?_⟩
  · rw [e11, beq_self_eq_true]; exact h.2
  · simp [e9] at k
  · have : x19 = x20 := by omega
    simp [this] at k
  · exact absurd (of_decide_eq_false k) (by omega)
  · exact absurd (of_decide_eq_false k) (by omega)
  · have : x17 = x12 := by omega
    simp [e9, e14, e11, e16, this] at k
theorem loopC : ∀ v Q, (LC v).wp Q → hloop CLCommand anC (nthLoop Try.f7 0) v Q := by
  intro v Q h
  unfold LC at h
  split at h
  case h_2 => exact h.elim
  rename_i v r a b c e k d s t p
  obtain ⟨⟨hv, hk⟩, hq⟩ := h
  subst hk
  refine hloop_rec (σ := Nat) (fun j => ([.ce (.int .i64 v), .ce (.ptr 1000003 0), .ce (.bool r), .agg [.int .i64 a, .int .i64 b, .int .i64 c, .int .i64 e], .ce (.int .i64 (j : Int))], [[.int .i64 d, .int .i64 s, .int .i64 t, .int .i64 p]])) (fun j => 4 - j) (fun j => j ≤ 4) ?_ 0 (by omega)
  intro j hj K hn he _
  refine byVB (vbLCommand v a b c e j d s t p r K) ?_
  have nx : j < 4 → ∀ x : Int, x = (j : Int) + 1 → K .normal ([.ce (.int .i64 v), .ce (.ptr 1000003 0), .ce (.bool r), .agg [.int .i64 a, .int .i64 b, .int .i64 c, .int .i64 e], .ce (.int .i64 x)], [[.int .i64 d, .int .i64 s, .int .i64 t, .int .i64 p]]) := by
    intro hlt x hx
    have := hn (j + 1) (by omega) (by omega)
    rw [show x = ((j + 1 : Nat) : Int) by omega]; exact this
  refine ⟨fun hlt => ?_, fun hge => ?_⟩
  · have hlt : j < 4 := by have := of_decide_eq_true hlt; omega
    have nx := nx hlt
    clear hn he hq
    repeat' (first | (intro _) | (apply And.intro))
    all_goals first
      | omega
      | (exact nx _ (by assumption))
      | (exfalso; subst_vars; simp_all)
  · have : j = 4 := by have := of_decide_eq_false hge; omega
    subst this
    exact he _ _ hq
theorem sLCommand : Sound Try.prog 7 SLCommand := by
  refine sound_of (C := CLCommand) tabS3 Try.func7 (by kernel_rfl) (by decide +kernel) (by kernel_rfl) rfl ⟨sAwake, sMod, sRate, sRate2, sIndex, sTurning, sStep, sStep2, sCommand, sCommand2, sReached, sReached2, trivial⟩ (loops1 (by kernel_rfl) (loopOK_of (an := anC) (S := LC) (by kernel_rfl) loopC)) ?_
  intro hargs pars R h
  unfold SLCommand at h
  split at h
  case h_2 => exact h.elim
  rename_i d s t p n v
  refine byVC (vcLCommand d s t p n v R) ⟨trivial, fun x1 e1 => ⟨fun e => absurd e (by rw [e1]; simp), fun _ => ⟨trivial, fun x2 _ x3 _ x4 _ x5 _ => ⟨by omega, fun x6 e6 => ⟨⟨by omega, rfl⟩, h.2⟩⟩⟩⟩⟩
end Go.Proofs.Ythkoabbiiadbjaa
