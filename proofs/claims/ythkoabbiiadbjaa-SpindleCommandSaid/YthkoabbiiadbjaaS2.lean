/-
  The spindle: awake, turning, Step, Command, Reached.
  Conditions: none.
-/
import Derived.Test.YthkoabbiiadbjaaS1
namespace U
open Go
def stp (sp tg ramp : Int) : Int := if sp < tg then min (sp + ramp) tg else max (sp - ramp) tg
/-- direction and target after a command -/
def cmdD (d sp n : Int) : Int := if n = 5 then d else if dirOf n = 0 then d else if sp = 0 ∨ d = dirOf n then dirOf n else d
def cmdT (d sp tg n v : Int) : Int := if n = 5 then 0 else if dirOf n = 0 then tg else if sp = 0 ∨ d = dirOf n then rate v else 0
def rch (d sp tg n v : Int) : Bool := if dirOf n = 0 then decide (n = 5) && decide (sp = 0) && decide (tg = 0) else decide (d = dirOf n) && decide (sp = rate v) && decide (tg = rate v)
end U
namespace Go.Proofs.Ythkoabbiiadbjaa
open Go Go.HL U
def tabS2 : List (FuncId × HL.Spec) := [(9, SMod), (10, SRate), (11, SRate), (12, SIndex), (13, SFollow), (14, SAngle), (28, SDirection), (29, SDirection)]
def SAwake (hargs : List HV) (pars : List (List HC)) : SR :=
  match hargs, pars with
  | [], [] => .det True ⟨.ce (.bool true), false, [], []⟩
  | _, _ => .fail
noncomputable def CAwake : Ctx := ⟨Try.prog, gam tabS2, Try.f8.ntmps, [], []⟩
theorem vcAwake (Q : Res → Prop) : (nfun true CAwake Try.f8 (bodyOf Try.f8) [] [] Q) =
    (((0 : Int) ≤ (60 : Int) ∧ (60 : Int) ≤ (1000000 : Int)) ∧
      ∀ (x1 : Int),
        x1 = (1049 : Int) →
          ((x1 == (1049 : Int)) = true →
              ((-1125899906842624 : Int) ≤ (1 : Int) ∧ (1 : Int) ≤ (1125899906842624 : Int)) ∧
                ∀ (x2 : Int),
                  x2 = (1048576 : Int) →
                    ((x2 == (1048576 : Int)) = true →
                        (((0 : Int) ≤ (16 : Int) ∧ (16 : Int) ≤ (1048576 : Int)) ∧
                            (0 : Int) ≤ (1048576 : Int) ∧ (1048576 : Int) ≤ (1099511627776 : Int)) ∧
                          ∀ (x3 : Int),
                            x3 = (4096 : Int) →
                              ((x3 == (4096 : Int)) = true →
                                  (((0 : Int) < (16 : Int) ∧ (16 : Int) ≤ (9223372036854775807 : Int)) ∧
                                      (0 : Int) ≤ (8 : Int) ∧ (8 : Int) ≤ (1099511627776 : Int)) ∧
                                    ∀ (x4 : Int),
                                      x4 = (2048 : Int) →
                                        Q
                                          { val := HV.ce (HC.bool (x4 == (2048 : Int))), own := false, pars := [],
                                            news := [] }) ∧
                                ((x3 == (4096 : Int)) = false →
                                  Q { val := HV.ce (HC.bool false), own := false, pars := [], news := [] })) ∧
                      ((x2 == (1048576 : Int)) = false →
                        Q { val := HV.ce (HC.bool false), own := false, pars := [], news := [] })) ∧
            ((x1 == (1049 : Int)) = false → Q { val := HV.ce (HC.bool false), own := false, pars := [], news := [] })) := by kernel_rfl
def STurning (hargs : List HV) (pars : List (List HC)) : SR :=
  match hargs, pars with
  | [.agg [.int .i64 d, .int .i64 s, .int .i64 t, .int .i64 p]], [] => .det True ⟨.agg [.int .i64 (if d = -1 then -1 else 1), .int .i64 (s % 524289), .int .i64 (t % 524289), .int .i64 (p.tmod 1125899906842624)], false, [], []⟩
  | _, _ => .fail
noncomputable def CTurning : Ctx := ⟨Try.prog, gam tabS2, Try.f17.ntmps, [], []⟩
theorem vcTurning (d s t p : Int) (Q : Res → Prop) : (nfun true CTurning Try.f17 (bodyOf Try.f17) [.agg [.int .i64 d, .int .i64 s, .int .i64 t, .int .i64 p]] [] Q) =
    (((0 : Int) ≤ (30000 : Int) ∧ (30000 : Int) ≤ (1000000 : Int)) ∧
      ∀ (x1 : Int),
        x1 = (524288 : Int) →
          ((-9223372036854775808 : Int) ≤ x1 + (1 : Int) ∧ x1 + (1 : Int) ≤ (9223372036854775807 : Int)) ∧
            ∀ (x2 : Int),
              x2 = x1 + (1 : Int) →
                ((d != (-1 : Int)) = true →
                    ((0 : Int) < x2 ∧ x2 ≤ (4611686018427387904 : Int)) ∧
                      ∀ (x3 : Int),
                        x3 = s % x2 →
                          ((0 : Int) < x2 ∧ x2 ≤ (4611686018427387904 : Int)) ∧
                            ∀ (x4 : Int),
                              x4 = t % x2 →
                                (1125899906842624 : Int) ≠ (0 : Int) ∧
                                  ∀ (x5 : Int),
                                    x5 = Int.tmod p (1125899906842624 : Int) →
                                      Q
                                        {
                                          val :=
                                            HV.agg
                                              [HC.int IntKind.i64 (1 : Int), HC.int IntKind.i64 x3, HC.int IntKind.i64 x4,
                                                HC.int IntKind.i64 x5],
                                          own := false, pars := [], news := [] }) ∧
                  ((d != (-1 : Int)) = false →
                    ((0 : Int) < x2 ∧ x2 ≤ (4611686018427387904 : Int)) ∧
                      ∀ (x6 : Int),
                        x6 = s % x2 →
                          ((0 : Int) < x2 ∧ x2 ≤ (4611686018427387904 : Int)) ∧
                            ∀ (x7 : Int),
                              x7 = t % x2 →
                                (1125899906842624 : Int) ≠ (0 : Int) ∧
                                  ∀ (x8 : Int),
                                    x8 = Int.tmod p (1125899906842624 : Int) →
                                      Q
                                        {
                                          val :=
                                            HV.agg
                                              [HC.int IntKind.i64 d, HC.int IntKind.i64 x6, HC.int IntKind.i64 x7,
                                                HC.int IntKind.i64 x8],
                                          own := false, pars := [], news := [] })) := by kernel_rfl
def SStep (hargs : List HV) (pars : List (List HC)) : SR :=
  match hargs, pars with
  | [.agg [.int .i64 d, .int .i64 s, .int .i64 t, .int .i64 p], .ce (.int .i64 r)], [] => .det ((d = -1 ∨ d = 1) ∧ (0 ≤ s ∧ s ≤ 1000000) ∧ (0 ≤ t ∧ t ≤ 1000000) ∧ (-1125899906842624 ≤ p ∧ p ≤ 1125899906842624) ∧ 0 ≤ r ∧ r ≤ 1000000)
      ⟨.agg [.int .i64 d, .int .i64 (stp s t r), .int .i64 t, .int .i64 (p + d * stp s t r)], false, [], []⟩
  | _, _ => .fail
noncomputable def CStep : Ctx := ⟨Try.prog, gam tabS2, Try.f18.ntmps, [], []⟩
theorem vcStep (d s t p r : Int) (Q : Res → Prop) : (nfun true CStep Try.f18 (bodyOf Try.f18) [.agg [.int .i64 d, .int .i64 s, .int .i64 t, .int .i64 p], .ce (.int .i64 r)] [] Q) =
    ((decide (s < t) = true →
        ((-9223372036854775808 : Int) ≤ s + r ∧ s + r ≤ (9223372036854775807 : Int)) ∧
          ∀ (x1 : Int),
            x1 = s + r →
              ∀ (x2 : Int),
                x2 = min x1 t →
                  ((-9223372036854775808 : Int) ≤ d * x2 ∧ d * x2 ≤ (9223372036854775807 : Int)) ∧
                    ∀ (x3 : Int),
                      x3 = d * x2 →
                        ((-9223372036854775808 : Int) ≤ p + x3 ∧ p + x3 ≤ (9223372036854775807 : Int)) ∧
                          ∀ (x4 : Int),
                            x4 = p + x3 →
                              Q
                                {
                                  val :=
                                    HV.agg
                                      [HC.int IntKind.i64 d, HC.int IntKind.i64 x2, HC.int IntKind.i64 t,
                                        HC.int IntKind.i64 x4],
                                  own := false, pars := [], news := [] }) ∧
      (decide (s < t) = false →
        ((-9223372036854775808 : Int) ≤ s - r ∧ s - r ≤ (9223372036854775807 : Int)) ∧
          ∀ (x5 : Int),
            x5 = s - r →
              ∀ (x6 : Int),
                x6 = max x5 t →
                  ((-9223372036854775808 : Int) ≤ d * x6 ∧ d * x6 ≤ (9223372036854775807 : Int)) ∧
                    ∀ (x7 : Int),
                      x7 = d * x6 →
                        ((-9223372036854775808 : Int) ≤ p + x7 ∧ p + x7 ≤ (9223372036854775807 : Int)) ∧
                          ∀ (x8 : Int),
                            x8 = p + x7 →
                              Q
                                {
                                  val :=
                                    HV.agg
                                      [HC.int IntKind.i64 d, HC.int IntKind.i64 x6, HC.int IntKind.i64 t,
                                        HC.int IntKind.i64 x8],
                                  own := false, pars := [], news := [] })) := by kernel_rfl
theorem vcStep2 (d s t p r : Int) (Q : Res → Prop) : (nfun true CStep Try.f19 (bodyOf Try.f19) [.agg [.int .i64 d, .int .i64 s, .int .i64 t, .int .i64 p], .ce (.int .i64 r)] [] Q) =
    ((decide (s < t) = true →
        ((-9223372036854775808 : Int) ≤ s + r ∧ s + r ≤ (9223372036854775807 : Int)) ∧
          ∀ (x1 : Int),
            x1 = s + r →
              ∀ (x2 : Int),
                x2 = min x1 t →
                  ((-9223372036854775808 : Int) ≤ d * x2 ∧ d * x2 ≤ (9223372036854775807 : Int)) ∧
                    ∀ (x3 : Int),
                      x3 = d * x2 →
                        ((-9223372036854775808 : Int) ≤ p + x3 ∧ p + x3 ≤ (9223372036854775807 : Int)) ∧
                          ∀ (x4 : Int),
                            x4 = p + x3 →
                              Q
                                {
                                  val :=
                                    HV.agg
                                      [HC.int IntKind.i64 d, HC.int IntKind.i64 x2, HC.int IntKind.i64 t,
                                        HC.int IntKind.i64 x4],
                                  own := false, pars := [], news := [] }) ∧
      (decide (s < t) = false →
        ((-9223372036854775808 : Int) ≤ s - r ∧ s - r ≤ (9223372036854775807 : Int)) ∧
          ∀ (x5 : Int),
            x5 = s - r →
              ∀ (x6 : Int),
                x6 = max x5 t →
                  ((-9223372036854775808 : Int) ≤ d * x6 ∧ d * x6 ≤ (9223372036854775807 : Int)) ∧
                    ∀ (x7 : Int),
                      x7 = d * x6 →
                        ((-9223372036854775808 : Int) ≤ p + x7 ∧ p + x7 ≤ (9223372036854775807 : Int)) ∧
                          ∀ (x8 : Int),
                            x8 = p + x7 →
                              Q
                                {
                                  val :=
                                    HV.agg
                                      [HC.int IntKind.i64 d, HC.int IntKind.i64 x6, HC.int IntKind.i64 t,
                                        HC.int IntKind.i64 x8],
                                  own := false, pars := [], news := [] })) := by kernel_rfl
def SCommand (hargs : List HV) (pars : List (List HC)) : SR :=
  match hargs, pars with
  | [.agg [.int .i64 d, .int .i64 s, .int .i64 t, .int .i64 p], .ce (.int .i64 n), .ce (.int .i64 v)], [] => .det (0 ≤ v ∧ v ≤ 1000000) ⟨.agg [.int .i64 (cmdD d s n), .int .i64 s, .int .i64 (cmdT d s t n v), .int .i64 p], false, [], []⟩
  | _, _ => .fail
noncomputable def CCommand : Ctx := ⟨Try.prog, gam tabS2, Try.f20.ntmps, [], []⟩
noncomputable def CCommand2 : Ctx := ⟨Try.prog, gam tabS2, Try.f21.ntmps, [], []⟩
theorem vcCommand (d s t p n v : Int) (Q : Res → Prop) : (nfun true CCommand Try.f20 (bodyOf Try.f20) [.agg [.int .i64 d, .int .i64 s, .int .i64 t, .int .i64 p], .ce (.int .i64 n), .ce (.int .i64 v)] [] Q) =
    (True ∧
      ∀ (x1 : Int),
        x1 = dirOf n →
          ((n == (5 : Int)) = true →
              Q
                {
                  val :=
                    HV.agg [HC.int IntKind.i64 d, HC.int IntKind.i64 s, HC.int IntKind.i64 (0 : Int), HC.int IntKind.i64 p],
                  own := false, pars := [], news := [] }) ∧
            ((n == (5 : Int)) = false →
              ((x1 == (0 : Int)) = true →
                  Q
                    {
                      val :=
                        HV.agg [HC.int IntKind.i64 d, HC.int IntKind.i64 s, HC.int IntKind.i64 t, HC.int IntKind.i64 p],
                      own := false, pars := [], news := [] }) ∧
                ((x1 == (0 : Int)) = false →
                  ((s == (0 : Int)) = true →
                      ((0 : Int) ≤ v ∧ v ≤ (1000000 : Int)) ∧
                        ∀ (x2 : Int),
                          x2 = rate v →
                            Q
                              {
                                val :=
                                  HV.agg
                                    [HC.int IntKind.i64 x1, HC.int IntKind.i64 s, HC.int IntKind.i64 x2,
                                      HC.int IntKind.i64 p],
                                own := false, pars := [], news := [] }) ∧
                    ((s == (0 : Int)) = false →
                      ((d == x1) = true →
                          ((0 : Int) ≤ v ∧ v ≤ (1000000 : Int)) ∧
                            ∀ (x3 : Int),
                              x3 = rate v →
                                Q
                                  {
                                    val :=
                                      HV.agg
                                        [HC.int IntKind.i64 x1, HC.int IntKind.i64 s, HC.int IntKind.i64 x3,
                                          HC.int IntKind.i64 p],
                                    own := false, pars := [], news := [] }) ∧
                        ((d == x1) = false →
                          Q
                            {
                              val :=
                                HV.agg
                                  [HC.int IntKind.i64 d, HC.int IntKind.i64 s, HC.int IntKind.i64 (0 : Int),
                                    HC.int IntKind.i64 p],
                              own := false, pars := [], news := [] }))))) := by kernel_rfl
theorem vcCommand2 (d s t p n v : Int) (Q : Res → Prop) : (nfun true CCommand2 Try.f21 (bodyOf Try.f21) [.agg [.int .i64 d, .int .i64 s, .int .i64 t, .int .i64 p], .ce (.int .i64 n), .ce (.int .i64 v)] [] Q) =
    (True ∧
      ∀ (x1 : Int),
        x1 = dirOf n →
          ((n == (5 : Int)) = true →
              Q
                {
                  val :=
                    HV.agg [HC.int IntKind.i64 d, HC.int IntKind.i64 s, HC.int IntKind.i64 (0 : Int), HC.int IntKind.i64 p],
                  own := false, pars := [], news := [] }) ∧
            ((n == (5 : Int)) = false →
              ((x1 != (0 : Int)) = true →
                  ((s != (0 : Int)) = true →
                      ((d != x1) = true →
                          Q
                            {
                              val :=
                                HV.agg
                                  [HC.int IntKind.i64 d, HC.int IntKind.i64 s, HC.int IntKind.i64 (0 : Int),
                                    HC.int IntKind.i64 p],
                              own := false, pars := [], news := [] }) ∧
                        ((d != x1) = false →
                          ((x1 != (0 : Int)) = true →
                              ((0 : Int) ≤ v ∧ v ≤ (1000000 : Int)) ∧
                                ∀ (x2 : Int),
                                  x2 = rate v →
                                    Q
                                      {
                                        val :=
                                          HV.agg
                                            [HC.int IntKind.i64 x1, HC.int IntKind.i64 s, HC.int IntKind.i64 x2,
                                              HC.int IntKind.i64 p],
                                        own := false, pars := [], news := [] }) ∧
                            ((x1 != (0 : Int)) = false →
                              Q
                                {
                                  val :=
                                    HV.agg
                                      [HC.int IntKind.i64 d, HC.int IntKind.i64 s, HC.int IntKind.i64 t,
                                        HC.int IntKind.i64 p],
                                  own := false, pars := [], news := [] }))) ∧
                    ((s != (0 : Int)) = false →
                      ((x1 != (0 : Int)) = true →
                          ((0 : Int) ≤ v ∧ v ≤ (1000000 : Int)) ∧
                            ∀ (x3 : Int),
                              x3 = rate v →
                                Q
                                  {
                                    val :=
                                      HV.agg
                                        [HC.int IntKind.i64 x1, HC.int IntKind.i64 s, HC.int IntKind.i64 x3,
                                          HC.int IntKind.i64 p],
                                    own := false, pars := [], news := [] }) ∧
                        ((x1 != (0 : Int)) = false →
                          Q
                            {
                              val :=
                                HV.agg
                                  [HC.int IntKind.i64 d, HC.int IntKind.i64 s, HC.int IntKind.i64 t, HC.int IntKind.i64 p],
                              own := false, pars := [], news := [] }))) ∧
                ((x1 != (0 : Int)) = false →
                  ((x1 != (0 : Int)) = true →
                      ((0 : Int) ≤ v ∧ v ≤ (1000000 : Int)) ∧
                        ∀ (x4 : Int),
                          x4 = rate v →
                            Q
                              {
                                val :=
                                  HV.agg
                                    [HC.int IntKind.i64 x1, HC.int IntKind.i64 s, HC.int IntKind.i64 x4,
                                      HC.int IntKind.i64 p],
                                own := false, pars := [], news := [] }) ∧
                    ((x1 != (0 : Int)) = false →
                      Q
                        {
                          val :=
                            HV.agg [HC.int IntKind.i64 d, HC.int IntKind.i64 s, HC.int IntKind.i64 t, HC.int IntKind.i64 p],
                          own := false, pars := [], news := [] })))) := by kernel_rfl
def SReached (hargs : List HV) (pars : List (List HC)) : SR :=
  match hargs, pars with
  | [.agg [.int .i64 d, .int .i64 s, .int .i64 t, .int .i64 _], .ce (.int .i64 n), .ce (.int .i64 v)], [] => .det (0 ≤ v ∧ v ≤ 1000000) ⟨.ce (.bool (rch d s t n v)), false, [], []⟩
  | _, _ => .fail
noncomputable def CReached : Ctx := ⟨Try.prog, gam tabS2, Try.f22.ntmps, [], []⟩
theorem vcReached (d s t p n v : Int) (Q : Res → Prop) : (nfun true CReached Try.f22 (bodyOf Try.f22) [.agg [.int .i64 d, .int .i64 s, .int .i64 t, .int .i64 p], .ce (.int .i64 n), .ce (.int .i64 v)] [] Q) =
    (True ∧
      ∀ (x1 : Int),
        x1 = dirOf n →
          ((x1 == (0 : Int)) = true →
              ((n == (5 : Int)) = true →
                  ((s == (0 : Int)) = true →
                      Q { val := HV.ce (HC.bool (t == (0 : Int))), own := false, pars := [], news := [] }) ∧
                    ((s == (0 : Int)) = false → Q { val := HV.ce (HC.bool false), own := false, pars := [], news := [] })) ∧
                ((n == (5 : Int)) = false → Q { val := HV.ce (HC.bool false), own := false, pars := [], news := [] })) ∧
            ((x1 == (0 : Int)) = false →
              ((d == x1) = true →
                  ((0 : Int) ≤ v ∧ v ≤ (1000000 : Int)) ∧
                    ∀ (x2 : Int),
                      x2 = rate v →
                        ((s == x2) = true →
                            ((0 : Int) ≤ v ∧ v ≤ (1000000 : Int)) ∧
                              ∀ (x3 : Int),
                                x3 = rate v →
                                  Q { val := HV.ce (HC.bool (t == x3)), own := false, pars := [], news := [] }) ∧
                          ((s == x2) = false → Q { val := HV.ce (HC.bool false), own := false, pars := [], news := [] })) ∧
                ((d == x1) = false → Q { val := HV.ce (HC.bool false), own := false, pars := [], news := [] }))) := by kernel_rfl
theorem vcReached2 (d s t p n v : Int) (Q : Res → Prop) : (nfun true CReached Try.f23 (bodyOf Try.f23) [.agg [.int .i64 d, .int .i64 s, .int .i64 t, .int .i64 p], .ce (.int .i64 n), .ce (.int .i64 v)] [] Q) =
    (((n == (5 : Int)) = true →
        ((s == (0 : Int)) = true → Q { val := HV.ce (HC.bool (t == (0 : Int))), own := false, pars := [], news := [] }) ∧
          ((s == (0 : Int)) = false → Q { val := HV.ce (HC.bool false), own := false, pars := [], news := [] })) ∧
      ((n == (5 : Int)) = false →
        True ∧
          ∀ (x1 : Int),
            x1 = dirOf n →
              ((x1 != (0 : Int)) = true →
                  ((d == x1) = true →
                      ((0 : Int) ≤ v ∧ v ≤ (1000000 : Int)) ∧
                        ∀ (x2 : Int),
                          x2 = rate v →
                            ((s == x2) = true →
                                ((0 : Int) ≤ v ∧ v ≤ (1000000 : Int)) ∧
                                  ∀ (x3 : Int),
                                    x3 = rate v →
                                      Q { val := HV.ce (HC.bool (t == x3)), own := false, pars := [], news := [] }) ∧
                              ((s == x2) = false →
                                Q { val := HV.ce (HC.bool false), own := false, pars := [], news := [] })) ∧
                    ((d == x1) = false → Q { val := HV.ce (HC.bool false), own := false, pars := [], news := [] })) ∧
                ((x1 != (0 : Int)) = false → Q { val := HV.ce (HC.bool false), own := false, pars := [], news := [] }))) := by kernel_rfl
end Go.Proofs.Ythkoabbiiadbjaa
namespace Go.Proofs.Ythkoabbiiadbjaa
open Go Go.HL U
theorem sAwake : Sound Try.prog 8 SAwake := by
  refine sound_of (C := CAwake) tabS2 Try.func8 (by kernel_rfl) (by decide +kernel) (by kernel_rfl) rfl ⟨sMod, sRate, sRate2, sIndex, sFollow, sAngle, sDirection, sDirection2, trivial⟩ (loops0 (by kernel_rfl)) ?_
  intro hargs pars R h
  unfold SAwake at h
  split at h
  case h_2 => exact h.elim
  have hq := h.2
  refine byVC (vcAwake R) ?_
  repeat' (first | (intro _) | (apply And.intro))
  all_goals first
    | omega
    | (subst_vars; exact hq)
    | (subst_vars; contradiction)
theorem sTurning : Sound Try.prog 17 STurning := by
  refine sound_of (C := CTurning) tabS2 Try.func17 (by kernel_rfl) (by decide +kernel) (by kernel_rfl) rfl ⟨sMod, sRate, sRate2, sIndex, sFollow, sAngle, sDirection, sDirection2, trivial⟩ (loops0 (by kernel_rfl)) ?_
  intro hargs pars R h
  unfold STurning at h
  split at h
  case h_2 => exact h.elim
  rename_i d s t p
  have hq : ∀ D S T P : Int, D = (if d = -1 then -1 else 1) → S = s % 524289 → T = t % 524289 → P = p.tmod 1125899906842624 → R ⟨.agg [.int .i64 D, .int .i64 S, .int .i64 T, .int .i64 P], false, [], []⟩ := by
    intro D S T P e1 e2 e3 e4; subst e1 e2 e3 e4; exact h.2
  refine byVC (vcTurning d s t p R) ⟨by omega, fun x1 e1 => ⟨by omega, fun x2 e2 => ?_⟩⟩
  have e2 : x2 = 524289 := by omega
  subst e2
  refine ⟨fun k => ⟨by omega, fun x3 e3 => ⟨by omega, fun x4 e4 => ⟨by omega, fun x5 e5 => hq _ _ _ _ ?_ e3 e4 e5⟩⟩⟩, fun k => ⟨by omega, fun x3 e3 => ⟨by omega, fun x4 e4 => ⟨by omega, fun x5 e5 => hq _ _ _ _ ?_ e3 e4 e5⟩⟩⟩⟩
  · have : d ≠ -1 := by simpa using k
    simp [this]
  · have : d = -1 := by simpa using k
    simp [this]
theorem beq_dec (a b : Int) : (a == b) = decide (a = b) := by
  by_cases h : a = b
  · simp [h]
  · simp [h]
theorem step_fin {d s t p r : Int} {R : Res → Prop} (h1 : d = -1 ∨ d = 1) (h2 : 0 ≤ s ∧ s ≤ 1000000) (h3 : 0 ≤ t ∧ t ≤ 1000000) (h4 : -1125899906842624 ≤ p ∧ p ≤ 1125899906842624) (h5 : 0 ≤ r ∧ r ≤ 1000000)
    (hq : R ⟨.agg [.int .i64 d, .int .i64 (stp s t r), .int .i64 t, .int .i64 (p + d * stp s t r)], false, [], []⟩) {V : Prop} (hv : V = ((decide (s < t) = true → (-9223372036854775808 ≤ s + r ∧ s + r ≤ 9223372036854775807) ∧
 ∀ (x1 : Int), x1 = s + r → ∀ (x2 : Int), x2 = min x1 t → (-9223372036854775808 ≤ d * x2 ∧ d * x2 ≤ 9223372036854775807) ∧
 ∀ (x3 : Int), x3 = d * x2 → (-9223372036854775808 ≤ p + x3 ∧ p + x3 ≤ 9223372036854775807) ∧
 ∀ (x4 : Int), x4 = p + x3 → R ⟨.agg [.int .i64 d, .int .i64 x2, .int .i64 t, .int .i64 x4], false, [], []⟩) ∧ (decide (s < t) = false → (-9223372036854775808 ≤ s - r ∧ s - r ≤ 9223372036854775807) ∧
 ∀ (x5 : Int), x5 = s - r → ∀ (x6 : Int), x6 = max x5 t → (-9223372036854775808 ≤ d * x6 ∧ d * x6 ≤ 9223372036854775807) ∧
 ∀ (x7 : Int), x7 = d * x6 → (-9223372036854775808 ≤ p + x7 ∧ p + x7 ≤ 9223372036854775807) ∧
 ∀ (x8 : Int), x8 = p + x7 → R ⟨.agg [.int .i64 d, .int .i64 x6, .int .i64 t, .int .i64 x8], false, [], []⟩))) : V := by
  subst hv
  have hd : ∀ x : Int, 0 ≤ x → x ≤ 2000000 → -2000000 ≤ d * x ∧ d * x ≤ 2000000 := by
    intro x a b
    rcases h1 with rfl | rfl <;> omega
  unfold stp at hq
  refine ⟨fun k => ?_, fun k => ?_⟩
  · have k := of_decide_eq_true k
    rw [if_pos k] at hq
    refine ⟨by omega, fun x1 e1 x2 e2 => ?_⟩
    have := hd x2 (by omega) (by omega)
    refine ⟨by omega, fun x3 e3 => ⟨by omega, fun x4 e4 => ?_⟩⟩
    subst e1 e2 e3 e4; exact hq
  · have k := of_decide_eq_false k
    rw [if_neg k] at hq
    refine ⟨by omega, fun x1 e1 x2 e2 => ?_⟩
    have := hd x2 (by omega) (by omega)
    refine ⟨by omega, fun x3 e3 => ⟨by omega, fun x4 e4 => ?_⟩⟩
    subst e1 e2 e3 e4; exact hq
theorem sStep : Sound Try.prog 18 SStep := by
  refine sound_of (C := CStep) tabS2 Try.func18 (by kernel_rfl) (by decide +kernel) (by kernel_rfl) rfl ⟨sMod, sRate, sRate2, sIndex, sFollow, sAngle, sDirection, sDirection2, trivial⟩ (loops0 (by kernel_rfl)) ?_
  intro hargs pars R h
  unfold SStep at h
  split at h
  case h_2 => exact h.elim
  rename_i d s t p r
  obtain ⟨⟨h1, h2, h3, h4, h5⟩, hq⟩ := h
  exact byVC (vcStep d s t p r R) (step_fin h1 h2 h3 h4 h5 hq rfl)
theorem sStep2 : Sound Try.prog 19 SStep := by
  refine sound_of (C := CStep) tabS2 Try.func19 (by kernel_rfl) (by decide +kernel) (by kernel_rfl) rfl ⟨sMod, sRate, sRate2, sIndex, sFollow, sAngle, sDirection, sDirection2, trivial⟩ (loops0 (by kernel_rfl)) ?_
  intro hargs pars R h
  unfold SStep at h
  split at h
  case h_2 => exact h.elim
  rename_i d s t p r
  obtain ⟨⟨h1, h2, h3, h4, h5⟩, hq⟩ := h
  exact byVC (vcStep2 d s t p r R) (step_fin h1 h2 h3 h4 h5 hq rfl)
theorem sCommand : Sound Try.prog 20 SCommand := by
  refine sound_of (C := CCommand) tabS2 Try.func20 (by kernel_rfl) (by decide +kernel) (by kernel_rfl) rfl ⟨sMod, sRate, sRate2, sIndex, sFollow, sAngle, sDirection, sDirection2, trivial⟩ (loops0 (by kernel_rfl)) ?_
  intro hargs pars R h
  unfold SCommand at h
  split at h
  case h_2 => exact h.elim
  rename_i d s t p n v
  have hv := h.1
  have hq : ∀ D T : Int, D = cmdD d s n → T = cmdT d s t n v → R ⟨.agg [.int .i64 D, .int .i64 s, .int .i64 T, .int .i64 p], false, [], []⟩ := by
    intro D T e1 e2; subst e1 e2; exact h.2
  clear h
  unfold cmdD cmdT at hq
  refine byVC (vcCommand d s t p n v R) ?_
  repeat' (first | (intro _) | (apply And.intro))
  all_goals first
    | omega
    | trivial
    | (refine hq _ _ ?_ ?_ <;> simp_all)
theorem sCommand2 : Sound Try.prog 21 SCommand := by
  refine sound_of (C := CCommand2) tabS2 Try.func21 (by kernel_rfl) (by decide +kernel) (by kernel_rfl) rfl ⟨sMod, sRate, sRate2, sIndex, sFollow, sAngle, sDirection, sDirection2, trivial⟩ (loops0 (by kernel_rfl)) ?_
  intro hargs pars R h
  unfold SCommand at h
  split at h
  case h_2 => exact h.elim
  rename_i d s t p n v
  have hv := h.1
  have hq : ∀ D T : Int, D = cmdD d s n → T = cmdT d s t n v → R ⟨.agg [.int .i64 D, .int .i64 s, .int .i64 T, .int .i64 p], false, [], []⟩ := by
    intro D T e1 e2; subst e1 e2; exact h.2
  clear h
  unfold cmdD cmdT at hq
  refine byVC (vcCommand2 d s t p n v R) ?_
  repeat' (first | (intro _) | (apply And.intro))
  all_goals first
    | omega
    | trivial
    | (refine hq _ _ ?_ ?_ <;> simp_all)
theorem sReached : Sound Try.prog 22 SReached := by
  refine sound_of (C := CReached) tabS2 Try.func22 (by kernel_rfl) (by decide +kernel) (by kernel_rfl) rfl ⟨sMod, sRate, sRate2, sIndex, sFollow, sAngle, sDirection, sDirection2, trivial⟩ (loops0 (by kernel_rfl)) ?_
  intro hargs pars R h
  unfold SReached at h
  split at h
  case h_2 => exact h.elim
  rename_i d s t _ n v
  have hv := h.1
  have hq : ∀ b : Bool, b = rch d s t n v → R ⟨.ce (.bool b), false, [], []⟩ := by
    intro b e1; subst e1; exact h.2
  clear h
  unfold rch at hq
  refine byVC (vcReached d s t _ n v R) ?_
  repeat' (first | (intro _) | (apply And.intro))
  all_goals first
    | omega
    | trivial
    | (refine hq _ ?_ <;> simp_all [dirOf, beq_dec])
theorem sReached2 : Sound Try.prog 23 SReached := by
  refine sound_of (C := CReached) tabS2 Try.func23 (by kernel_rfl) (by decide +kernel) (by kernel_rfl) rfl ⟨sMod, sRate, sRate2, sIndex, sFollow, sAngle, sDirection, sDirection2, trivial⟩ (loops0 (by kernel_rfl)) ?_
  intro hargs pars R h
  unfold SReached at h
  split at h
  case h_2 => exact h.elim
  rename_i d s t _ n v
  have hv := h.1
  have hq : ∀ b : Bool, b = rch d s t n v → R ⟨.ce (.bool b), false, [], []⟩ := by
    intro b e1; subst e1; exact h.2
  clear h
  unfold rch at hq
  refine byVC (vcReached2 d s t _ n v R) ?_
  repeat' (first | (intro _) | (apply And.intro))
  all_goals first
    | omega
    | trivial
    | (refine hq _ ?_ <;> simp_all [dirOf, beq_dec])
end Go.Proofs.Ythkoabbiiadbjaa
