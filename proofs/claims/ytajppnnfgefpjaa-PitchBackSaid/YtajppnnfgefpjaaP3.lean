/-
  The laws of the screw.
  Conditions: none.
-/
import Derived.Test.YtajppnnfgefpjaaP2
namespace Go.Proofs.Ytajppnnfgefpjaa
open Go Go.HL U
def an3 : LAnn := ⟨[5, 17, 18], [], [1000005], true⟩
def L3 (v : LV) : LR :=
  match v with
  | ([.ce (.ptr 1000005 0), .agg [.int .i64 a, .int .i64 b], .ce (.num .i64 0)], [[.int .i64 st, .int .i64 x1, .int .i64 x2, .int .i64 x3, .int .i64 x4, .int .i64 x5, .int .i64 x6, .int .i64 og, .int .i64 sg, .sl false [4] pit]]) =>
    .det (okC og sg pit ∧ 0 < st ∧ st ≤ 16777216) (.exit 0) ([], [[.int .i64 st, .int .i64 x1, .int .i64 x2, .int .i64 x3, .int .i64 x4, .int .i64 x5, .int .i64 x6, .int .i64 og, .int .i64 sg, .sl false [4] pit]])
  | _ => .fail
def an4 : LAnn := ⟨[1, 5, 17, 18, 19], [1, 5], [1000005], false⟩
def L4 (v : LV) : LR :=
  match v with
  | ([.ce (.int .i64 n), .ce (.ptr 1000005 0), .ce (.sl false [4] l), .ce (.int .i64 len), .ce (.int .i64 k)], [[.int .i64 st, .int .i64 x1, .int .i64 x2, .int .i64 x3, .int .i64 x4, .int .i64 x5, .int .i64 x6, .int .i64 og, .int .i64 sg, .sl false [4] pit]]) =>
    .det ((okC og sg pit ∧ pit.length ≤ 4 ∧ sg < 124) ∧ l = pit ∧ len = pit.length ∧ k = 0) (.exit 0) ([.ce (.int .i64 n), .ce (.ptr 1000005 0)], [[.int .i64 st, .int .i64 x1, .int .i64 x2, .int .i64 x3, .int .i64 x4, .int .i64 x5, .int .i64 x6, .int .i64 og, .int .i64 sg, .sl false [4] pit]])
  | _ => .fail
def SLaw (hargs : List HV) (pars : List (List HC)) : SR :=
  match hargs, pars with
  | [.ce (.sl false [4] l), .ce (.int .i64 n)], [] => .det (l.length ≤ 9223372036854775807 ∧ -9223372036854775808 ≤ n ∧ n ≤ 9223372036854775807) ⟨.ce (.bool true), false, [], []⟩
  | _, _ => .fail
def tabP4 : List (FuncId × HL.Spec) := (9, SAwake) :: (10, SAxes) :: (11, SMod) :: (12, SNear) :: tabP3
noncomputable def CPC : Ctx := ⟨Try.prog, gam tabP4, 42, [(5, an3, L3)], []⟩
noncomputable def CPK : Ctx := ⟨Try.prog, gam tabP4, 77, [(6, an4, L4)], []⟩
noncomputable def CPS : Ctx := ⟨Try.prog, gam tabP4, 30, [], []⟩
noncomputable def CPM : Ctx := ⟨Try.prog, gam tabP4, 42, [], []⟩
noncomputable def CPI : Ctx := ⟨Try.prog, gam tabP4, 71, [], []⟩
noncomputable def CPB : Ctx := ⟨Try.prog, gam tabP4, 46, [], []⟩
theorem vcPC (l : List (List Int)) (n : Int) (Q : Res → Prop) : (nfun true CPC Try.f3 (bodyOf Try.f3) [.ce (.sl false [4] l), .ce (.int .i64 n)] [] Q) =
    (True ∧
      ∀ (x1 : Bool),
        x1 = true →
          ((!x1) = true → Q { val := HV.ce (HC.bool false), own := false, pars := [], news := [] }) ∧
            ((!x1) = false →
              List.length l ≤ (9223372036854775807 : Nat) ∧
                (∃ (x : AxV × AxV × AxV), okAx x.1 ∧ okAx x.snd.1 ∧ okAx x.snd.2) ∧
                  ∀ (x : AxV × AxV × AxV),
                    okAx x.1 ∧ okAx x.snd.1 ∧ okAx x.snd.2 →
                      ((0 : Int) ≤ (0 : Int) ∧ (0 : Int) < (3 : Int)) ∧
                        ((0 : Int) < (1200 : Int) ∧ (1200 : Int) ≤ (4611686018427387904 : Int)) ∧
                          ∀ (x3 : Int),
                            x3 = n % (1200 : Int) →
                              ((-9223372036854775808 : Int) ≤ x3 - (400 : Int) ∧
                                  x3 - (400 : Int) ≤ (9223372036854775807 : Int)) ∧
                                ∀ (x4 : Int),
                                  x4 = x3 - (400 : Int) →
                                    (okC x.1.og x.1.sg x.1.pit ∧ (0 : Int) < x.1.st ∧ x.1.st ≤ (16777216 : Int)) ∧
                                      Q { val := HV.ce (HC.bool true), own := false, pars := [], news := [] })) := by kernel_rfl
theorem vcPK (l : List (List Int)) (n : Int) (Q : Res → Prop) : (nfun true CPK Try.f4 (bodyOf Try.f4) [.ce (.sl false [4] l), .ce (.int .i64 n)] [] Q) =
    (True ∧
      ∀ (x1 : Bool),
        x1 = true →
          ((!x1) = true → Q { val := HV.ce (HC.bool false), own := false, pars := [], news := [] }) ∧
            ((!x1) = false →
              List.length l ≤ (9223372036854775807 : Nat) ∧
                (∃ (x : AxV × AxV × AxV), okAx x.1 ∧ okAx x.snd.1 ∧ okAx x.snd.2) ∧
                  ∀ (x : AxV × AxV × AxV),
                    okAx x.1 ∧ okAx x.snd.1 ∧ okAx x.snd.2 →
                      ((0 : Int) ≤ (0 : Int) ∧ (0 : Int) < (3 : Int)) ∧
                        ((0 : Int) < (16777216 : Int) ∧ (16777216 : Int) ≤ (4611686018427387904 : Int)) ∧
                          ∀ (x3 : Int),
                            x3 = n % (16777216 : Int) →
                              ((okC x.1.og x.1.sg x.1.pit ∧ List.length x.1.pit ≤ (4 : Nat) ∧ x.1.sg < (124 : Int)) ∧
                                  x.1.pit = x.1.pit ∧
                                    (((List.length x.1.pit) : Nat) : Int) = (((List.length x.1.pit) : Nat) : Int) ∧ (0 : Int) = (0 : Int)) ∧
                                (((((List.length x.1.pit) : Nat) : Int) == (0 : Int)) = true →
                                    (okC x.1.og x.1.sg x.1.pit ∧ (-1073741824 : Int) ≤ x3 ∧ x3 ≤ (1073741824 : Int)) ∧
                                      ∀ (x4 : Int),
                                        x4 = corr x.1.og x.1.sg x.1.pit x3 →
                                          Q
                                            { val := HV.ce (HC.bool (x4 == (0 : Int))), own := false, pars := [],
                                              news := [] }) ∧
                                  (((((List.length x.1.pit) : Nat) : Int) == (0 : Int)) = false →
                                    ((-9223372036854775808 : Int) ≤ x.1.og - x3 ∧
                                        x.1.og - x3 ≤ (9223372036854775807 : Int)) ∧
                                      ∀ (x5 : Int),
                                        x5 = x.1.og - x3 →
                                          (okC x.1.og x.1.sg x.1.pit ∧ (-1073741824 : Int) ≤ x5 ∧ x5 ≤ (1073741824 : Int)) ∧
                                            ∀ (x6 : Int),
                                              x6 = corr x.1.og x.1.sg x.1.pit x5 →
                                                ((0 : Int) ≤ (0 : Int) ∧ (0 : Int) < (((List.length x.1.pit) : Nat) : Int)) ∧
                                                  ∀ (x7 : Int),
                                                    x7 = el x.1.pit ((0 : Nat)) →
                                                      ((x6 == x7) = true →
                                                          ((-9223372036854775808 : Int) ≤
                                                                (((List.length x.1.pit) : Nat) : Int) - (1 : Int) ∧
                                                              (((List.length x.1.pit) : Nat) : Int) - (1 : Int) ≤
                                                                (9223372036854775807 : Int)) ∧
                                                            ∀ (x8 : Int),
                                                              x8 = (((List.length x.1.pit) : Nat) : Int) - (1 : Int) →
                                                                ((-9223372036854775808 : Int) ≤ x8 * x.1.sg ∧
                                                                    x8 * x.1.sg ≤ (9223372036854775807 : Int)) ∧
                                                                  ∀ (x9 : Int),
                                                                    x9 = x8 * x.1.sg →
                                                                      ((-9223372036854775808 : Int) ≤ x.1.og + x9 ∧
                                                                          x.1.og + x9 ≤ (9223372036854775807 : Int)) ∧
                                                                        ∀ (x10 : Int),
                                                                          x10 = x.1.og + x9 →
                                                                            ((-9223372036854775808 : Int) ≤ x10 + x3 ∧
                                                                                x10 + x3 ≤ (9223372036854775807 : Int)) ∧
                                                                              ∀ (x11 : Int),
                                                                                x11 = x10 + x3 →
                                                                                  (okC x.1.og x.1.sg x.1.pit ∧
                                                                                      (-1073741824 : Int) ≤ x11 ∧
                                                                                        x11 ≤ (1073741824 : Int)) ∧
                                                                                    ∀ (x12 : Int),
                                                                                      x12 = corr x.1.og x.1.sg x.1.pit x11 →
                                                                                        ((-9223372036854775808 : Int) ≤
                                                                                              (((List.length x.1.pit) : Nat) : Int) -
                                                                                                (1 : Int) ∧
                                                                                            (((List.length x.1.pit) : Nat) : Int) -
                                                                                                (1 : Int) ≤
                                                                                              (9223372036854775807 : Int)) ∧
                                                                                          ∀ (x13 : Int),
                                                                                            x13 =
                                                                                                (((List.length x.1.pit) : Nat) : Int) -
                                                                                                  (1 : Int) →
                                                                                              ((0 : Int) ≤ x13 ∧
                                                                                                  x13 <
                                                                                                    (((List.length
                                                                                                        x.1.pit) : Nat) : Int)) ∧
                                                                                                ∀ (x14 : Int),
                                                                                                  x14 =
                                                                                                      el x.1.pit
                                                                                                        (Int.toNat x13) →
                                                                                                    Q
                                                                                                      {
                                                                                                        val :=
                                                                                                          HV.ce
                                                                                                            (HC.bool
                                                                                                              (x12 == x14)),
                                                                                                        own := false,
                                                                                                        pars := [],
                                                                                                        news := [] }) ∧
                                                        ((x6 == x7) = false →
                                                          Q
                                                            { val := HV.ce (HC.bool false), own := false, pars := [],
                                                              news := [] })))) := by kernel_rfl
theorem vcPS (l : List (List Int)) (n : Int) (Q : Res → Prop) : (nfun true CPS Try.f5 (bodyOf Try.f5) [.ce (.sl false [4] l), .ce (.int .i64 n)] [] Q) =
    (True ∧
      ∀ (x1 : Bool),
        x1 = true →
          ((!x1) = true → Q { val := HV.ce (HC.bool false), own := false, pars := [], news := [] }) ∧
            ((!x1) = false →
              List.length l ≤ (9223372036854775807 : Nat) ∧
                (∃ (x : AxV × AxV × AxV), okAx x.1 ∧ okAx x.snd.1 ∧ okAx x.snd.2) ∧
                  ∀ (x : AxV × AxV × AxV),
                    okAx x.1 ∧ okAx x.snd.1 ∧ okAx x.snd.2 →
                      ((0 : Int) ≤ (0 : Int) ∧ (0 : Int) < (3 : Int)) ∧
                        ((0 : Int) < (1200 : Int) ∧ (1200 : Int) ≤ (4611686018427387904 : Int)) ∧
                          ∀ (x3 : Int),
                            x3 = n % (1200 : Int) →
                              ((-9223372036854775808 : Int) ≤ x3 - (400 : Int) ∧
                                  x3 - (400 : Int) ≤ (9223372036854775807 : Int)) ∧
                                ∀ (x4 : Int),
                                  x4 = x3 - (400 : Int) →
                                    ((-9223372036854775808 : Int) ≤ x4 + (1 : Int) ∧
                                        x4 + (1 : Int) ≤ (9223372036854775807 : Int)) ∧
                                      ∀ (x5 : Int),
                                        x5 = x4 + (1 : Int) →
                                          (okC x.1.og x.1.sg x.1.pit ∧ (-1073741824 : Int) ≤ x5 ∧ x5 ≤ (1073741824 : Int)) ∧
                                            ∀ (x6 : Int),
                                              x6 = corr x.1.og x.1.sg x.1.pit x5 →
                                                ((-9223372036854775808 : Int) ≤ (1 : Int) + x6 ∧
                                                    (1 : Int) + x6 ≤ (9223372036854775807 : Int)) ∧
                                                  ∀ (x7 : Int),
                                                    x7 = (1 : Int) + x6 →
                                                      (okC x.1.og x.1.sg x.1.pit ∧
                                                          (-1073741824 : Int) ≤ x4 ∧ x4 ≤ (1073741824 : Int)) ∧
                                                        ∀ (x8 : Int),
                                                          x8 = corr x.1.og x.1.sg x.1.pit x4 →
                                                            ((-9223372036854775808 : Int) ≤ x7 - x8 ∧
                                                                x7 - x8 ≤ (9223372036854775807 : Int)) ∧
                                                              ∀ (x9 : Int),
                                                                x9 = x7 - x8 →
                                                                  (decide (x9 ≥ (0 : Int)) = true →
                                                                      Q
                                                                        { val := HV.ce (HC.bool (decide (x9 ≤ (2 : Int)))),
                                                                          own := false, pars := [], news := [] }) ∧
                                                                    (decide (x9 ≥ (0 : Int)) = false →
                                                                      Q
                                                                        { val := HV.ce (HC.bool false), own := false,
                                                                          pars := [], news := [] }))) := by kernel_rfl
theorem vcPM (l : List (List Int)) (n : Int) (Q : Res → Prop) : (nfun true CPM Try.f6 (bodyOf Try.f6) [.ce (.sl false [4] l), .ce (.int .i64 n)] [] Q) =
    (True ∧
      ∀ (x1 : Bool),
        x1 = true →
          ((!x1) = true → Q { val := HV.ce (HC.bool false), own := false, pars := [], news := [] }) ∧
            ((!x1) = false →
              List.length l ≤ (9223372036854775807 : Nat) ∧
                (∃ (x : AxV × AxV × AxV), okAx x.1 ∧ okAx x.snd.1 ∧ okAx x.snd.2) ∧
                  ∀ (x : AxV × AxV × AxV),
                    okAx x.1 ∧ okAx x.snd.1 ∧ okAx x.snd.2 →
                      ((0 : Int) ≤ (0 : Int) ∧ (0 : Int) < (3 : Int)) ∧
                        ((0 : Int) < (1200 : Int) ∧ (1200 : Int) ≤ (4611686018427387904 : Int)) ∧
                          ∀ (x3 : Int),
                            x3 = n % (1200 : Int) →
                              ((-9223372036854775808 : Int) ≤ x3 - (400 : Int) ∧
                                  x3 - (400 : Int) ≤ (9223372036854775807 : Int)) ∧
                                ∀ (x4 : Int),
                                  x4 = x3 - (400 : Int) →
                                    ((-9223372036854775808 : Int) ≤ x4 + (1 : Int) ∧
                                        x4 + (1 : Int) ≤ (9223372036854775807 : Int)) ∧
                                      ∀ (x5 : Int),
                                        x5 = x4 + (1 : Int) →
                                          (((0 : Int) < x.1.st ∧ x.1.st ≤ (16777216 : Int)) ∧
                                              okC x.1.og x.1.sg x.1.pit ∧
                                                (-1073741824 : Int) ≤ x5 ∧ x5 ≤ (1073741824 : Int)) ∧
                                            ∀ (x6 : Int),
                                              x6 = mot x.1.st x.1.og x.1.sg x.1.pit x5 →
                                                (((0 : Int) < x.1.st ∧ x.1.st ≤ (16777216 : Int)) ∧
                                                    okC x.1.og x.1.sg x.1.pit ∧
                                                      (-1073741824 : Int) ≤ x4 ∧ x4 ≤ (1073741824 : Int)) ∧
                                                  ∀ (x7 : Int),
                                                    x7 = mot x.1.st x.1.og x.1.sg x.1.pit x4 →
                                                      ((-9223372036854775808 : Int) ≤ x6 - x7 ∧
                                                          x6 - x7 ≤ (9223372036854775807 : Int)) ∧
                                                        ∀ (x8 : Int),
                                                          x8 = x6 - x7 →
                                                            (decide (x8 ≥ (0 : Int)) = true →
                                                                (decide (x8 ≤ (1 : Int)) = true →
                                                                    (((0 : Int) < x.1.st ∧ x.1.st ≤ (16777216 : Int)) ∧
                                                                        okC x.1.og x.1.sg x.1.pit ∧
                                                                          (-1073741824 : Int) ≤ x4 ∧
                                                                            x4 ≤ (1073741824 : Int)) ∧
                                                                      ∀ (x9 : Int),
                                                                        x9 = mot x.1.st x.1.og x.1.sg x.1.pit x4 →
                                                                          (okC x.1.og x.1.sg x.1.pit ∧
                                                                              (-1073741824 : Int) ≤ x4 ∧
                                                                                x4 ≤ (1073741824 : Int)) ∧
                                                                            ∀ (x10 : Int),
                                                                              x10 = corr x.1.og x.1.sg x.1.pit x4 →
                                                                                ((-9223372036854775808 : Int) ≤ x4 + x10 ∧
                                                                                    x4 + x10 ≤
                                                                                      (9223372036854775807 : Int)) ∧
                                                                                  ∀ (x11 : Int),
                                                                                    x11 = x4 + x10 →
                                                                                      (((0 : Int) < x.1.st ∧
                                                                                            x.1.st ≤ (16777216 : Int)) ∧
                                                                                          (-1099511627776 : Int) ≤ x11 ∧
                                                                                            x11 ≤ (1099511627776 : Int)) ∧
                                                                                        ∀ (x12 : Int),
                                                                                          x12 = stp x.1.st x11 →
                                                                                            Q
                                                                                              {
                                                                                                val :=
                                                                                                  HV.ce
                                                                                                    (HC.bool (x9 == x12)),
                                                                                                own := false, pars := [],
                                                                                                news := [] }) ∧
                                                                  (decide (x8 ≤ (1 : Int)) = false →
                                                                    Q
                                                                      { val := HV.ce (HC.bool false), own := false,
                                                                        pars := [], news := [] })) ∧
                                                              (decide (x8 ≥ (0 : Int)) = false →
                                                                Q
                                                                  { val := HV.ce (HC.bool false), own := false, pars := [],
                                                                    news := [] }))) := by kernel_rfl
theorem vcPI (l : List (List Int)) (n : Int) (Q : Res → Prop) : (nfun true CPI Try.f7 (bodyOf Try.f7) [.ce (.sl false [4] l), .ce (.int .i64 n)] [] Q) =
    (True ∧
      ∀ (x1 : Bool),
        x1 = true →
          ((!x1) = true → Q { val := HV.ce (HC.bool false), own := false, pars := [], news := [] }) ∧
            ((!x1) = false →
              List.length l ≤ (9223372036854775807 : Nat) ∧
                (∃ (x : AxV × AxV × AxV), okAx x.1 ∧ okAx x.snd.1 ∧ okAx x.snd.2) ∧
                  ∀ (x : AxV × AxV × AxV),
                    okAx x.1 ∧ okAx x.snd.1 ∧ okAx x.snd.2 →
                      ((0 : Int) ≤ (0 : Int) ∧ (0 : Int) < (3 : Int)) ∧
                        x.1.st ≠ (0 : Int) ∧
                          ((-9223372036854775808 : Int) ≤ Int.tdiv (67108864 : Int) x.1.st ∧
                              Int.tdiv (67108864 : Int) x.1.st ≤ (9223372036854775807 : Int)) ∧
                            ∀ (x3 : Int),
                              x3 = Int.tdiv (67108864 : Int) x.1.st →
                                ((0 : Int) < x3 ∧ x3 ≤ (4611686018427387904 : Int)) ∧
                                  ∀ (x4 : Int),
                                    x4 = n % x3 →
                                      x.1.st ≠ (0 : Int) ∧
                                        ((-9223372036854775808 : Int) ≤ Int.tdiv (33554432 : Int) x.1.st ∧
                                            Int.tdiv (33554432 : Int) x.1.st ≤ (9223372036854775807 : Int)) ∧
                                          ∀ (x5 : Int),
                                            x5 = Int.tdiv (33554432 : Int) x.1.st →
                                              ((-9223372036854775808 : Int) ≤ x4 - x5 ∧
                                                  x4 - x5 ≤ (9223372036854775807 : Int)) ∧
                                                ∀ (x6 : Int),
                                                  x6 = x4 - x5 →
                                                    (okC x.1.og x.1.sg x.1.pit ∧
                                                        (-134217728 : Int) ≤ x6 * x.1.st ∧
                                                          x6 * x.1.st ≤ (134217728 : Int)) ∧
                                                      (∃ (x_1 : Int), isInv x.1.st x.1.og x.1.sg x.1.pit x6 x_1) ∧
                                                        ∀ (x_1 : Int),
                                                          isInv x.1.st x.1.og x.1.sg x.1.pit x6 x_1 →
                                                            True ∧
                                                              ∀ (x8 : Bool),
                                                                x8 =
                                                                    (decide (x_1 ≥ (-33554432 : Int)) &&
                                                                      decide (x_1 ≤ (33554432 : Int))) →
                                                                  ((!x8) = true →
                                                                      (decide (x_1 ≥ (-33558528 : Int)) = true →
                                                                          Q
                                                                            {
                                                                              val :=
                                                                                HV.ce
                                                                                  (HC.bool
                                                                                    (decide (x_1 ≤ (33558528 : Int)))),
                                                                              own := false, pars := [], news := [] }) ∧
                                                                        (decide (x_1 ≥ (-33558528 : Int)) = false →
                                                                          Q
                                                                            { val := HV.ce (HC.bool false), own := false,
                                                                              pars := [], news := [] })) ∧
                                                                    ((!x8) = false →
                                                                      (okC x.1.og x.1.sg x.1.pit ∧
                                                                          (-134217728 : Int) ≤ x6 * x.1.st ∧
                                                                            x6 * x.1.st ≤ (134217728 : Int)) ∧
                                                                        (∃ (x_2 : Int),
                                                                            isInv x.1.st x.1.og x.1.sg x.1.pit x6 x_2) ∧
                                                                          ∀ (x_2 : Int),
                                                                            isInv x.1.st x.1.og x.1.sg x.1.pit x6 x_2 →
                                                                              ((x_1 == x_2) = true →
                                                                                  (okC x.1.og x.1.sg x.1.pit ∧
                                                                                      (-1073741824 : Int) ≤ x_1 ∧
                                                                                        x_1 ≤ (1073741824 : Int)) ∧
                                                                                    ∀ (x10 : Int),
                                                                                      x10 = corr x.1.og x.1.sg x.1.pit x_1 →
                                                                                        ((-9223372036854775808 : Int) ≤
                                                                                              x_1 + x10 ∧
                                                                                            x_1 + x10 ≤
                                                                                              (9223372036854775807 : Int)) ∧
                                                                                          ∀ (x11 : Int),
                                                                                            x11 = x_1 + x10 →
                                                                                              ((-9223372036854775808 :
                                                                                                      Int) ≤
                                                                                                    x6 * x.1.st ∧
                                                                                                  x6 * x.1.st ≤
                                                                                                    (9223372036854775807 :
                                                                                                      Int)) ∧
                                                                                                ∀ (x12 : Int),
                                                                                                  x12 = x6 * x.1.st →
                                                                                                    (decide (x11 ≥ x12) =
                                                                                                          true →
                                                                                                        ((-9223372036854775808 :
                                                                                                                Int) ≤
                                                                                                              x_1 -
                                                                                                                (1 : Int) ∧
                                                                                                            x_1 -
                                                                                                                (1 : Int) ≤
                                                                                                              (9223372036854775807 :
                                                                                                                Int)) ∧
                                                                                                          ∀ (x13 : Int),
                                                                                                            x13 =
                                                                                                                x_1 -
                                                                                                                  (1 :
                                                                                                                    Int) →
                                                                                                              ((-9223372036854775808 :
                                                                                                                      Int) ≤
                                                                                                                    x_1 -
                                                                                                                      (1 :
                                                                                                                        Int) ∧
                                                                                                                  x_1 -
                                                                                                                      (1 :
                                                                                                                        Int) ≤
                                                                                                                    (9223372036854775807 :
                                                                                                                      Int)) ∧
                                                                                                                ∀
                                                                                                                  (x14 :
                                                                                                                    Int),
                                                                                                                  x14 =
                                                                                                                      x_1 -
                                                                                                                        (1 :
                                                                                                                          Int) →
                                                                                                                    (okC
                                                                                                                          x.1.og
                                                                                                                          x.1.sg
                                                                                                                          x.1.pit ∧
                                                                                                                        (-1073741824 :
                                                                                                                              Int) ≤
                                                                                                                            x14 ∧
                                                                                                                          x14 ≤
                                                                                                                            (1073741824 :
                                                                                                                              Int)) ∧
                                                                                                                      ∀
                                                                                                                        (x15 :
                                                                                                                          Int),
                                                                                                                        x15 =
                                                                                                                            corr
                                                                                                                              x.1.og
                                                                                                                              x.1.sg
                                                                                                                              x.1.pit
                                                                                                                              x14 →
                                                                                                                          ((-9223372036854775808 :
                                                                                                                                  Int) ≤
                                                                                                                                x13 +
                                                                                                                                  x15 ∧
                                                                                                                              x13 +
                                                                                                                                  x15 ≤
                                                                                                                                (9223372036854775807 :
                                                                                                                                  Int)) ∧
                                                                                                                            ∀
                                                                                                                              (x16 :
                                                                                                                                Int),
                                                                                                                              x16 =
                                                                                                                                  x13 +
                                                                                                                                    x15 →
                                                                                                                                ((-9223372036854775808 :
                                                                                                                                        Int) ≤
                                                                                                                                      x6 *
                                                                                                                                        x.1.st ∧
                                                                                                                                    x6 *
                                                                                                                                        x.1.st ≤
                                                                                                                                      (9223372036854775807 :
                                                                                                                                        Int)) ∧
                                                                                                                                  ∀
                                                                                                                                    (x17 :
                                                                                                                                      Int),
                                                                                                                                    x17 =
                                                                                                                                        x6 *
                                                                                                                                          x.1.st →
                                                                                                                                      (decide
                                                                                                                                              (x16 <
                                                                                                                                                x17) =
                                                                                                                                            true →
                                                                                                                                          (((0 :
                                                                                                                                                    Int) <
                                                                                                                                                  x.1.st ∧
                                                                                                                                                x.1.st ≤
                                                                                                                                                  (16777216 :
                                                                                                                                                    Int)) ∧
                                                                                                                                              okC
                                                                                                                                                  x.1.og
                                                                                                                                                  x.1.sg
                                                                                                                                                  x.1.pit ∧
                                                                                                                                                (-1073741824 :
                                                                                                                                                      Int) ≤
                                                                                                                                                    x_1 ∧
                                                                                                                                                  x_1 ≤
                                                                                                                                                    (1073741824 :
                                                                                                                                                      Int)) ∧
                                                                                                                                            ∀
                                                                                                                                              (x18 :
                                                                                                                                                Int),
                                                                                                                                              x18 =
                                                                                                                                                  mot
                                                                                                                                                    x.1.st
                                                                                                                                                    x.1.og
                                                                                                                                                    x.1.sg
                                                                                                                                                    x.1.pit
                                                                                                                                                    x_1 →
                                                                                                                                                Q
                                                                                                                                                  {
                                                                                                                                                    val :=
                                                                                                                                                      HV.ce
                                                                                                                                                        (HC.bool
                                                                                                                                                          (x18 ==
                                                                                                                                                            x6)),
                                                                                                                                                    own :=
                                                                                                                                                      false,
                                                                                                                                                    pars :=
                                                                                                                                                      [],
                                                                                                                                                    news :=
                                                                                                                                                      [] }) ∧
                                                                                                                                        (decide
                                                                                                                                              (x16 <
                                                                                                                                                x17) =
                                                                                                                                            false →
                                                                                                                                          Q
                                                                                                                                            {
                                                                                                                                              val :=
                                                                                                                                                HV.ce
                                                                                                                                                  (HC.bool
                                                                                                                                                    false),
                                                                                                                                              own :=
                                                                                                                                                false,
                                                                                                                                              pars :=
                                                                                                                                                [],
                                                                                                                                              news :=
                                                                                                                                                [] })) ∧
                                                                                                      (decide (x11 ≥ x12) =
                                                                                                          false →
                                                                                                        Q
                                                                                                          {
                                                                                                            val :=
                                                                                                              HV.ce
                                                                                                                (HC.bool
                                                                                                                  false),
                                                                                                            own := false,
                                                                                                            pars := [],
                                                                                                            news := [] })) ∧
                                                                                ((x_1 == x_2) = false →
                                                                                  Q
                                                                                    { val := HV.ce (HC.bool false),
                                                                                      own := false, pars := [],
                                                                                      news := [] })))) := by kernel_rfl
theorem vcPB (l : List (List Int)) (n : Int) (Q : Res → Prop) : (nfun true CPB Try.f8 (bodyOf Try.f8) [.ce (.sl false [4] l), .ce (.int .i64 n)] [] Q) =
    (True ∧
      ∀ (x1 : Bool),
        x1 = true →
          ((!x1) = true → Q { val := HV.ce (HC.bool false), own := false, pars := [], news := [] }) ∧
            ((!x1) = false →
              List.length l ≤ (9223372036854775807 : Nat) ∧
                (∃ (x : AxV × AxV × AxV), okAx x.1 ∧ okAx x.snd.1 ∧ okAx x.snd.2) ∧
                  ∀ (x : AxV × AxV × AxV),
                    okAx x.1 ∧ okAx x.snd.1 ∧ okAx x.snd.2 →
                      ((0 : Int) ≤ (0 : Int) ∧ (0 : Int) < (3 : Int)) ∧
                        ((0 : Int) < (1200 : Int) ∧ (1200 : Int) ≤ (4611686018427387904 : Int)) ∧
                          ∀ (x3 : Int),
                            x3 = n % (1200 : Int) →
                              ((-9223372036854775808 : Int) ≤ x3 - (400 : Int) ∧
                                  x3 - (400 : Int) ≤ (9223372036854775807 : Int)) ∧
                                ∀ (x4 : Int),
                                  x4 = x3 - (400 : Int) →
                                    (((0 : Int) < x.1.st ∧ x.1.st ≤ (16777216 : Int)) ∧
                                        okC x.1.og x.1.sg x.1.pit ∧ (-1073741824 : Int) ≤ x4 ∧ x4 ≤ (1073741824 : Int)) ∧
                                      ∀ (x5 : Int),
                                        x5 = mot x.1.st x.1.og x.1.sg x.1.pit x4 →
                                          (okC x.1.og x.1.sg x.1.pit ∧
                                              (-134217728 : Int) ≤ x5 * x.1.st ∧ x5 * x.1.st ≤ (134217728 : Int)) ∧
                                            (∃ (x_1 : Int), isInv x.1.st x.1.og x.1.sg x.1.pit x5 x_1) ∧
                                              ∀ (x_1 : Int),
                                                isInv x.1.st x.1.og x.1.sg x.1.pit x5 x_1 →
                                                  ((-9223372036854775808 : Int) ≤ x_1 - x4 ∧
                                                      x_1 - x4 ≤ (9223372036854775807 : Int)) ∧
                                                    ∀ (x7 : Int),
                                                      x7 = x_1 - x4 →
                                                        (decide (x7 ≤ x.1.st) = true →
                                                            ((-9223372036854775808 : Int) ≤ (0 : Int) - x7 ∧
                                                                (0 : Int) - x7 ≤ (9223372036854775807 : Int)) ∧
                                                              ∀ (x8 : Int),
                                                                x8 = (0 : Int) - x7 →
                                                                  (decide (x8 ≤ x.1.st) = true →
                                                                      (okC x.1.og x.1.sg x.1.pit ∧
                                                                          (-1073741824 : Int) ≤ x4 ∧
                                                                            x4 ≤ (1073741824 : Int)) ∧
                                                                        ∀ (x9 : Int),
                                                                          x9 = corr x.1.og x.1.sg x.1.pit x4 →
                                                                            ((-9223372036854775808 : Int) ≤ x4 + x9 ∧
                                                                                x4 + x9 ≤ (9223372036854775807 : Int)) ∧
                                                                              ∀ (x10 : Int),
                                                                                x10 = x4 + x9 →
                                                                                  (((0 : Int) < x.1.st ∧
                                                                                        x.1.st ≤ (16777216 : Int)) ∧
                                                                                      (-1099511627776 : Int) ≤ x10 ∧
                                                                                        x10 ≤ (1099511627776 : Int)) ∧
                                                                                    ∀ (x11 : Int),
                                                                                      x11 = stp x.1.st x10 →
                                                                                        Q
                                                                                          {
                                                                                            val :=
                                                                                              HV.ce (HC.bool (x11 == x5)),
                                                                                            own := false, pars := [],
                                                                                            news := [] }) ∧
                                                                    (decide (x8 ≤ x.1.st) = false →
                                                                      Q
                                                                        { val := HV.ce (HC.bool false), own := false,
                                                                          pars := [], news := [] })) ∧
                                                          (decide (x7 ≤ x.1.st) = false →
                                                            Q
                                                              { val := HV.ce (HC.bool false), own := false, pars := [],
                                                                news := [] }))) := by kernel_rfl
theorem vbPC0 (a b st sp ac je lo hi bl og sg : Int) (pit : List (List Int)) (K : HEx → LV → Prop) : (nbodyT true CPC an3 (nthLoop Try.f3 0) ([.ce (.ptr 1000005 0), .agg [.int .i64 a, .int .i64 b], .ce (.num .i64 0)], [(axI st sp ac je lo hi bl og sg pit)]) K) =
    (((0 : Int) ≤ (0 : Int) ∧ (0 : Int) < (2 : Int)) ∧
      True ∧
        ∀ (x1 : Bool),
          x1 = (decide (a ≥ (-33554432 : Int)) && decide (a ≤ (33554432 : Int))) →
            (x1 = true →
                (okC og sg pit ∧ (-1073741824 : Int) ≤ a ∧ a ≤ (1073741824 : Int)) ∧
                  ∀ (x2 : Int),
                    x2 = corr og sg pit a →
                      (okC og sg pit ∧ (-1073741824 : Int) ≤ a ∧ a ≤ (1073741824 : Int)) ∧
                        ∀ (x3 : Int),
                          x3 = corr og sg pit a →
                            ((x2 != x3) = true →
                                K HEx.ret
                                  ([],
                                    [[HC.int IntKind.i64 st, HC.int IntKind.i64 sp, HC.int IntKind.i64 ac,
                                        HC.int IntKind.i64 je, HC.int IntKind.i64 lo, HC.int IntKind.i64 hi,
                                        HC.int IntKind.i64 bl, HC.int IntKind.i64 og, HC.int IntKind.i64 sg,
                                        HC.sl false [(4 : Nat)] pit]])) ∧
                              ((x2 != x3) = false →
                                (((0 : Int) < st ∧ st ≤ (16777216 : Int)) ∧
                                    okC og sg pit ∧ (-1073741824 : Int) ≤ a ∧ a ≤ (1073741824 : Int)) ∧
                                  ∀ (x4 : Int),
                                    x4 = mot st og sg pit a →
                                      (((0 : Int) < st ∧ st ≤ (16777216 : Int)) ∧
                                          okC og sg pit ∧ (-1073741824 : Int) ≤ a ∧ a ≤ (1073741824 : Int)) ∧
                                        ∀ (x5 : Int),
                                          x5 = mot st og sg pit a →
                                            ((x4 != x5) = true →
                                                K HEx.ret
                                                  ([],
                                                    [[HC.int IntKind.i64 st, HC.int IntKind.i64 sp, HC.int IntKind.i64 ac,
                                                        HC.int IntKind.i64 je, HC.int IntKind.i64 lo, HC.int IntKind.i64 hi,
                                                        HC.int IntKind.i64 bl, HC.int IntKind.i64 og, HC.int IntKind.i64 sg,
                                                        HC.sl false [(4 : Nat)] pit]])) ∧
                                              ((x4 != x5) = false →
                                                K HEx.normal
                                                  ([HV.ce (HC.ptr (1000005 : Nat) (0 : Nat)),
                                                      HV.agg [HC.int IntKind.i64 a, HC.int IntKind.i64 b],
                                                      HV.ce (HC.num IntKind.i64 (1 : Int))],
                                                    [[HC.int IntKind.i64 st, HC.int IntKind.i64 sp, HC.int IntKind.i64 ac,
                                                        HC.int IntKind.i64 je, HC.int IntKind.i64 lo, HC.int IntKind.i64 hi,
                                                        HC.int IntKind.i64 bl, HC.int IntKind.i64 og, HC.int IntKind.i64 sg,
                                                        HC.sl false [(4 : Nat)] pit]])))) ∧
              (x1 = false →
                K HEx.normal
                  ([HV.ce (HC.ptr (1000005 : Nat) (0 : Nat)), HV.agg [HC.int IntKind.i64 a, HC.int IntKind.i64 b],
                      HV.ce (HC.num IntKind.i64 (1 : Int))],
                    [[HC.int IntKind.i64 st, HC.int IntKind.i64 sp, HC.int IntKind.i64 ac, HC.int IntKind.i64 je,
                        HC.int IntKind.i64 lo, HC.int IntKind.i64 hi, HC.int IntKind.i64 bl, HC.int IntKind.i64 og,
                        HC.int IntKind.i64 sg, HC.sl false [(4 : Nat)] pit]]))) := by kernel_rfl
theorem vbPC1 (a b st sp ac je lo hi bl og sg : Int) (pit : List (List Int)) (K : HEx → LV → Prop) : (nbodyT true CPC an3 (nthLoop Try.f3 0) ([.ce (.ptr 1000005 0), .agg [.int .i64 a, .int .i64 b], .ce (.num .i64 1)], [(axI st sp ac je lo hi bl og sg pit)]) K) =
    (((0 : Int) ≤ (1 : Int) ∧ (1 : Int) < (2 : Int)) ∧
      True ∧
        ∀ (x1 : Bool),
          x1 = (decide (b ≥ (-33554432 : Int)) && decide (b ≤ (33554432 : Int))) →
            (x1 = true →
                (okC og sg pit ∧ (-1073741824 : Int) ≤ b ∧ b ≤ (1073741824 : Int)) ∧
                  ∀ (x2 : Int),
                    x2 = corr og sg pit b →
                      (okC og sg pit ∧ (-1073741824 : Int) ≤ b ∧ b ≤ (1073741824 : Int)) ∧
                        ∀ (x3 : Int),
                          x3 = corr og sg pit b →
                            ((x2 != x3) = true →
                                K HEx.ret
                                  ([],
                                    [[HC.int IntKind.i64 st, HC.int IntKind.i64 sp, HC.int IntKind.i64 ac,
                                        HC.int IntKind.i64 je, HC.int IntKind.i64 lo, HC.int IntKind.i64 hi,
                                        HC.int IntKind.i64 bl, HC.int IntKind.i64 og, HC.int IntKind.i64 sg,
                                        HC.sl false [(4 : Nat)] pit]])) ∧
                              ((x2 != x3) = false →
                                (((0 : Int) < st ∧ st ≤ (16777216 : Int)) ∧
                                    okC og sg pit ∧ (-1073741824 : Int) ≤ b ∧ b ≤ (1073741824 : Int)) ∧
                                  ∀ (x4 : Int),
                                    x4 = mot st og sg pit b →
                                      (((0 : Int) < st ∧ st ≤ (16777216 : Int)) ∧
                                          okC og sg pit ∧ (-1073741824 : Int) ≤ b ∧ b ≤ (1073741824 : Int)) ∧
                                        ∀ (x5 : Int),
                                          x5 = mot st og sg pit b →
                                            ((x4 != x5) = true →
                                                K HEx.ret
                                                  ([],
                                                    [[HC.int IntKind.i64 st, HC.int IntKind.i64 sp, HC.int IntKind.i64 ac,
                                                        HC.int IntKind.i64 je, HC.int IntKind.i64 lo, HC.int IntKind.i64 hi,
                                                        HC.int IntKind.i64 bl, HC.int IntKind.i64 og, HC.int IntKind.i64 sg,
                                                        HC.sl false [(4 : Nat)] pit]])) ∧
                                              ((x4 != x5) = false →
                                                K HEx.normal
                                                  ([HV.ce (HC.ptr (1000005 : Nat) (0 : Nat)),
                                                      HV.agg [HC.int IntKind.i64 a, HC.int IntKind.i64 b],
                                                      HV.ce (HC.num IntKind.i64 (2 : Int))],
                                                    [[HC.int IntKind.i64 st, HC.int IntKind.i64 sp, HC.int IntKind.i64 ac,
                                                        HC.int IntKind.i64 je, HC.int IntKind.i64 lo, HC.int IntKind.i64 hi,
                                                        HC.int IntKind.i64 bl, HC.int IntKind.i64 og, HC.int IntKind.i64 sg,
                                                        HC.sl false [(4 : Nat)] pit]])))) ∧
              (x1 = false →
                K HEx.normal
                  ([HV.ce (HC.ptr (1000005 : Nat) (0 : Nat)), HV.agg [HC.int IntKind.i64 a, HC.int IntKind.i64 b],
                      HV.ce (HC.num IntKind.i64 (2 : Int))],
                    [[HC.int IntKind.i64 st, HC.int IntKind.i64 sp, HC.int IntKind.i64 ac, HC.int IntKind.i64 je,
                        HC.int IntKind.i64 lo, HC.int IntKind.i64 hi, HC.int IntKind.i64 bl, HC.int IntKind.i64 og,
                        HC.int IntKind.i64 sg, HC.sl false [(4 : Nat)] pit]]))) := by kernel_rfl
theorem vbPC2 (a b st sp ac je lo hi bl og sg : Int) (pit : List (List Int)) (K : HEx → LV → Prop) : (nbodyT true CPC an3 (nthLoop Try.f3 0) ([.ce (.ptr 1000005 0), .agg [.int .i64 a, .int .i64 b], .ce (.num .i64 2)], [(axI st sp ac je lo hi bl og sg pit)]) K) =
    (K (HEx.exit (0 : Nat))
      ([],
        [[HC.int IntKind.i64 st, HC.int IntKind.i64 sp, HC.int IntKind.i64 ac, HC.int IntKind.i64 je, HC.int IntKind.i64 lo,
            HC.int IntKind.i64 hi, HC.int IntKind.i64 bl, HC.int IntKind.i64 og, HC.int IntKind.i64 sg,
            HC.sl false [(4 : Nat)] pit]])) := by kernel_rfl
theorem vbPK (n len k st sp ac je lo hi bl og sg : Int) (pit : List (List Int)) (K : HEx → LV → Prop) : (nbodyT true CPK an4 (nthLoop Try.f4 0) ([.ce (.int .i64 n), .ce (.ptr 1000005 0), .ce (.sl false [4] pit), .ce (.int .i64 len), .ce (.int .i64 k)], [(axI st sp ac je lo hi bl og sg pit)]) K) =
    ((decide (k < len) = true →
        ((0 : Int) ≤ k ∧ k < (((List.length pit) : Nat) : Int)) ∧
          ∀ (x1 : Int),
            x1 = el pit (Int.toNat k) →
              ((-9223372036854775808 : Int) ≤ k * sg ∧ k * sg ≤ (9223372036854775807 : Int)) ∧
                ∀ (x2 : Int),
                  x2 = k * sg →
                    ((-9223372036854775808 : Int) ≤ og + x2 ∧ og + x2 ≤ (9223372036854775807 : Int)) ∧
                      ∀ (x3 : Int),
                        x3 = og + x2 →
                          (okC og sg pit ∧ (-1073741824 : Int) ≤ x3 ∧ x3 ≤ (1073741824 : Int)) ∧
                            ∀ (x4 : Int),
                              x4 = corr og sg pit x3 →
                                ((x4 != x1) = true →
                                    K HEx.ret
                                      ([HV.ce (HC.int IntKind.i64 n), HV.ce (HC.ptr (1000005 : Nat) (0 : Nat))],
                                        [[HC.int IntKind.i64 st, HC.int IntKind.i64 sp, HC.int IntKind.i64 ac,
                                            HC.int IntKind.i64 je, HC.int IntKind.i64 lo, HC.int IntKind.i64 hi,
                                            HC.int IntKind.i64 bl, HC.int IntKind.i64 og, HC.int IntKind.i64 sg,
                                            HC.sl false [(4 : Nat)] pit]])) ∧
                                  ((x4 != x1) = false →
                                    ((-9223372036854775808 : Int) ≤ k + (1 : Int) ∧
                                        k + (1 : Int) ≤ (9223372036854775807 : Int)) ∧
                                      ∀ (x5 : Int),
                                        x5 = k + (1 : Int) →
                                          K HEx.normal
                                            ([HV.ce (HC.int IntKind.i64 n), HV.ce (HC.ptr (1000005 : Nat) (0 : Nat)),
                                                HV.ce (HC.sl false [(4 : Nat)] pit), HV.ce (HC.int IntKind.i64 len),
                                                HV.ce (HC.int IntKind.i64 x5)],
                                              [[HC.int IntKind.i64 st, HC.int IntKind.i64 sp, HC.int IntKind.i64 ac,
                                                  HC.int IntKind.i64 je, HC.int IntKind.i64 lo, HC.int IntKind.i64 hi,
                                                  HC.int IntKind.i64 bl, HC.int IntKind.i64 og, HC.int IntKind.i64 sg,
                                                  HC.sl false [(4 : Nat)] pit]]))) ∧
      (decide (k < len) = false →
        K (HEx.exit (0 : Nat))
          ([HV.ce (HC.int IntKind.i64 n), HV.ce (HC.ptr (1000005 : Nat) (0 : Nat))],
            [[HC.int IntKind.i64 st, HC.int IntKind.i64 sp, HC.int IntKind.i64 ac, HC.int IntKind.i64 je,
                HC.int IntKind.i64 lo, HC.int IntKind.i64 hi, HC.int IntKind.i64 bl, HC.int IntKind.i64 og,
                HC.int IntKind.i64 sg, HC.sl false [(4 : Nat)] pit]]))) := by kernel_rfl
end Go.Proofs.Ytajppnnfgefpjaa
namespace U
theorem ax3_ex : ∃ x : AxV × AxV × AxV, okAx x.1 ∧ okAx x.2.1 ∧ okAx x.2.2 := by
  have : ∃ a, okAx a := ⟨⟨8, 1, 2, 4, 0, 0, 0, []⟩, by unfold okAx okPit; simp⟩
  obtain ⟨a, h⟩ := this
  exact ⟨(a, a, a), h, h, h⟩
theorem okAx_C {a : AxV} (h : okAx a) : okC a.og a.sg a.pit := by
  obtain ⟨h1, h2, h3, h4, h5, h6, h7, h8, h9, h10, h11⟩ := h
  exact ⟨fun hl => by have := h9 hl; omega, by omega, by omega, by omega, h10⟩
theorem okAx_S {a : AxV} (h : okAx a) : okSl a.sg a.pit := by
  obtain ⟨h1, h2, h3, h4, h5, h6, h7, h8, h9, h10, h11⟩ := h
  exact ⟨h9, h11⟩
theorem mul_le_of {a b st : Int} (h : a ≤ b) (hs : 0 ≤ st) : a * st ≤ b * st := Int.mul_le_mul_of_nonneg_right h hs
theorem motor_step {st og sg : Int} {pit : List (List Int)} (hs : okSl sg pit) (h : 4 ≤ st) (p : Int) : 0 ≤ mot st og sg pit (p + 1) - mot st og sg pit p ∧ mot st og sg pit (p + 1) - mot st og sg pit p ≤ 1 := by
  have c := corr_step (og := og) hs p
  have a := motor_of (st := st) (og := og) (sg := sg) (p := p) (pit := pit) (by omega)
  have b := motor_of (st := st) (og := og) (sg := sg) (p := p + 1) (pit := pit) (by omega)
  generalize mot st og sg pit (p + 1) = m' at *
  generalize mot st og sg pit p = m at *
  constructor
  · refine Int.not_lt.1 fun hc => ?_
    have := mul_le_of (show m' ≤ m - 1 by omega) (show 0 ≤ st by omega)
    rw [Int.sub_mul, Int.one_mul] at this
    omega
  · refine Int.not_lt.1 fun hc => ?_
    have := mul_le_of (show m + 2 ≤ m' by omega) (show 0 ≤ st by omega)
    rw [Int.add_mul] at this
    omega
theorem motor_inv {st og sg m p : Int} {pit : List (List Int)} (hs : okSl sg pit) (h : 4 ≤ st) (hi : isInv st og sg pit m p) : mot st og sg pit p = m := by
  have c := corr_step (og := og) hs (p - 1)
  rw [show p - 1 + 1 = p by omega] at c
  obtain ⟨i1, i2, _, _⟩ := hi
  have a := motor_of (st := st) (og := og) (sg := sg) (p := p) (pit := pit) (by omega)
  generalize mot st og sg pit p = k at *
  rcases Int.lt_trichotomy k m with hlt | he | hgt
  · have := mul_le_of (show k + 1 ≤ m by omega) (show 0 ≤ st by omega)
    rw [Int.add_mul, Int.one_mul] at this
    omega
  · exact he
  · have := mul_le_of (show m + 1 ≤ k by omega) (show 0 ≤ st by omega)
    rw [Int.add_mul, Int.one_mul] at this
    omega
theorem back_bd {st og sg m p q : Int} {pit : List (List Int)} (hs : okSl sg pit) (h : 4 ≤ st) (hm : mot st og sg pit p = m) (hi : isInv st og sg pit m q) : q - p ≤ st ∧ p - q ≤ st := by
  have a := motor_of (st := st) (og := og) (sg := sg) (p := p) (pit := pit) (by omega)
  rw [hm] at a
  obtain ⟨i1, i2, _, _⟩ := hi
  constructor
  · refine Int.not_lt.1 fun hc => ?_
    obtain ⟨n, hn⟩ := Int.eq_ofNat_of_zero_le (show 0 ≤ q - 1 - p by omega)
    have l := corr_lip (og := og) hs p n
    rw [show p + (n : Int) = q - 1 by omega] at l
    omega
  · refine Int.not_lt.1 fun hc => ?_
    obtain ⟨n, hn⟩ := Int.eq_ofNat_of_zero_le (show 0 ≤ p - q by omega)
    have l := corr_lip (og := og) hs q n
    rw [show q + (n : Int) = p by omega] at l
    omega
theorem corr_at {og sg : Int} {pit : List (List Int)} (h : 0 < sg) (j : Nat) (hj : j < pit.length) : corr og sg pit (og + (j : Int) * sg) = el pit j := by
  by_cases h0 : j = 0
  · subst h0
    exact corr_lo (by omega) h (by omega)
  · have hp : 1 * sg ≤ (j : Int) * sg := mul_le_of (by omega) (by omega)
    have e : (og + (j : Int) * sg - og) / sg = j := by
      rw [show og + (j : Int) * sg - og = j * sg by omega]; exact Int.mul_ediv_cancel _ (by omega)
    have e2 : (og + (j : Int) * sg - og) % sg = 0 := by
      rw [show og + (j : Int) * sg - og = j * sg by omega]; exact Int.mul_emod_left _ _
    by_cases hl : (pit.length : Int) - 1 ≤ j
    · rw [corr_hi (by omega) h (by omega) (by rw [e]; exact hl), show pit.length - 1 = j by omega]
    · rw [corr_mid (by omega) h (by omega) (by rw [e]; omega), e, e2]
      rw [Int.toNat_natCast, Int.mul_zero, Int.mul_zero, Int.zero_add, Int.ediv_eq_zero_of_lt (by omega) (by omega), Int.add_zero]
theorem corr_past {og sg n : Int} {pit : List (List Int)} (h : 0 < sg) (hl : 0 < pit.length) (hn : 0 ≤ n) : corr og sg pit (og + ((pit.length : Int) - 1) * sg + n) = el pit (pit.length - 1) := by
  have h0 : 0 ≤ ((pit.length : Int) - 1) * sg := Int.mul_nonneg (by omega) (by omega)
  by_cases hp : og < og + ((pit.length : Int) - 1) * sg + n
  · refine corr_hi hl h hp (Int.le_ediv_of_mul_le h (by omega))
  · have hlen : pit.length = 1 := by
      refine Classical.byContradiction fun hc => ?_
      have : 1 * sg ≤ ((pit.length : Int) - 1) * sg := mul_le_of (by omega) (by omega)
      omega
    rw [corr_lo hl h (by omega), hlen]
end U
namespace Go.Proofs.Ytajppnnfgefpjaa
open Go Go.HL U
theorem loop3 : ∀ v Q, (L3 v).wp Q → hloop CPC an3 (nthLoop Try.f3 0) v Q := by
  intro v Q h
  unfold L3 at h
  split at h
  case h_2 => exact h.elim
  rename_i a b st x1 x2 x3 x4 x5 x6 og sg pit
  obtain ⟨⟨hc, hst⟩, hq⟩ := h
  refine hloop_rec (σ := Nat) (fun j => match j with
    | 0 => ([.ce (.ptr 1000005 0), .agg [.int .i64 a, .int .i64 b], .ce (.num .i64 0)], [axI st x1 x2 x3 x4 x5 x6 og sg pit])
    | 1 => ([.ce (.ptr 1000005 0), .agg [.int .i64 a, .int .i64 b], .ce (.num .i64 1)], [axI st x1 x2 x3 x4 x5 x6 og sg pit])
    | _ => ([.ce (.ptr 1000005 0), .agg [.int .i64 a, .int .i64 b], .ce (.num .i64 2)], [axI st x1 x2 x3 x4 x5 x6 og sg pit]))
    (fun j => 2 - j) (fun j => j ≤ 2) ?_ 0 (by omega)
  intro j hj K hn he hr
  match j, hj with
  | 0, _ =>
    refine byVB (vbPC0 a b st x1 x2 x3 x4 x5 x6 og sg pit K) ?_
    refine ⟨by omega, trivial, fun y1 e1 => ⟨fun k => ?_, fun _ => hn 1 (by omega) (by omega)⟩⟩
    rw [k] at e1
    have e1 := e1.symm
    rw [Bool.and_eq_true, decide_eq_true_iff, decide_eq_true_iff] at e1
    refine ⟨⟨hc, by omega⟩, fun y2 e2 => ⟨⟨hc, by omega⟩, fun y3 e3 => ⟨fun k => ?_, fun _ => ⟨⟨hst, hc, by omega⟩, fun y4 e4 => ⟨⟨hst, hc, by omega⟩, fun y5 e5 => ⟨fun k => ?_, fun _ => hn 1 (by omega) (by omega)⟩⟩⟩⟩⟩⟩
    · rw [e2, e3, bne_self_eq_false] at k; cases k
    · rw [e4, e5, bne_self_eq_false] at k; cases k
  | 1, _ =>
    refine byVB (vbPC1 a b st x1 x2 x3 x4 x5 x6 og sg pit K) ?_
    refine ⟨by omega, trivial, fun y1 e1 => ⟨fun k => ?_, fun _ => hn 2 (by omega) (by omega)⟩⟩
    rw [k] at e1
    have e1 := e1.symm
    rw [Bool.and_eq_true, decide_eq_true_iff, decide_eq_true_iff] at e1
    refine ⟨⟨hc, by omega⟩, fun y2 e2 => ⟨⟨hc, by omega⟩, fun y3 e3 => ⟨fun k => ?_, fun _ => ⟨⟨hst, hc, by omega⟩, fun y4 e4 => ⟨⟨hst, hc, by omega⟩, fun y5 e5 => ⟨fun k => ?_, fun _ => hn 2 (by omega) (by omega)⟩⟩⟩⟩⟩⟩
    · rw [e2, e3, bne_self_eq_false] at k; cases k
    · rw [e4, e5, bne_self_eq_false] at k; cases k
  | 2, _ =>
    refine byVB (vbPC2 a b st x1 x2 x3 x4 x5 x6 og sg pit K) ?_
    exact he _ _ hq
theorem loop4 : ∀ v Q, (L4 v).wp Q → hloop CPK an4 (nthLoop Try.f4 0) v Q := by
  intro v Q h
  unfold L4 at h
  split at h
  case h_2 => exact h.elim
  rename_i n l len k st x1 x2 x3 x4 x5 x6 og sg pit
  obtain ⟨⟨⟨hc, hn4, hs124⟩, hl, hlen, hk⟩, hq⟩ := h
  have hl' := hl.symm
  subst hl' hk
  refine hloop_rec (σ := Int)
    (fun k => ([.ce (.int .i64 n), .ce (.ptr 1000005 0), .ce (.sl false [4] pit), .ce (.int .i64 len), .ce (.int .i64 k)], [axI st x1 x2 x3 x4 x5 x6 og sg pit]))
    (fun k => (len - k).toNat) (fun k => 0 ≤ k ∧ k ≤ len) ?_ 0 ⟨by omega, by omega⟩
  intro k ⟨i1, i2⟩ K hn he hr
  refine byVB (vbPK n len k st x1 x2 x3 x4 x5 x6 og sg pit K) ?_
  refine ⟨fun c => ?_, fun c => he _ _ hq⟩
  have c := of_decide_eq_true c
  obtain ⟨j, rfl⟩ := Int.eq_ofNat_of_zero_le i1
  have hs := hc.1 (by omega)
  obtain ⟨h1, h2, h3, h4, h5⟩ := id hc
  have pb := mul_bd (a := (j : Int)) (b := sg) (A := 4) (B := 124) (by omega) (by omega) (by omega) (by omega)
  refine ⟨by omega, fun y1 e1 => ⟨by omega, fun y2 e2 => ⟨by omega, fun y3 e3 => ?_⟩⟩⟩
  refine ⟨⟨hc, by omega⟩, fun y4 e4 => ⟨fun c2 => ?_, fun _ => ⟨by omega, fun y5 e5 => ?_⟩⟩⟩
  · rw [e4, e3, e2, corr_at hs j (by omega), e1, Int.toNat_natCast, bne_self_eq_false] at c2; cases c2
  · have := hn y5 ⟨by omega, by omega⟩ (by omega)
    exact this
theorem lawCorrect : Sound Try.prog 3 SLaw := by
  refine sound_of (C := CPC) tabP4 Try.func3 (by kernel_rfl) (by decide +kernel) (by kernel_rfl) rfl ⟨sAwake, sAxes, sMod, sNear, sCorrect, sCorrect2, sSteps, sSteps2, sMotor, sMotor2, sInverse, sInverse2, trivial⟩ (loops1 (by kernel_rfl) (loopOK_of (an := an3) (S := L3) (by kernel_rfl) loop3)) ?_
  intro hargs pars R h
  unfold SLaw at h
  split at h
  case h_2 => exact h.elim
  rename_i l n
  obtain ⟨⟨h1, h2⟩, hq⟩ := h
  refine byVC (vcPC l n R) ⟨trivial, fun y1 e1 => ⟨fun k => (by rw [e1] at k; cases k), fun _ => ⟨h1, ax3_ex, fun x hx => ⟨by omega, by omega, fun y3 e3 => ⟨by omega, fun y4 e4 => ⟨⟨okAx_C hx.1, ?_⟩, hq⟩⟩⟩⟩⟩⟩
  have := hx.1.1
  omega
theorem lawKnots : Sound Try.prog 4 SLaw := by
  refine sound_of (C := CPK) tabP4 Try.func4 (by kernel_rfl) (by decide +kernel) (by kernel_rfl) rfl ⟨sAwake, sAxes, sMod, sNear, sCorrect, sCorrect2, sSteps, sSteps2, sMotor, sMotor2, sInverse, sInverse2, trivial⟩ (loops1 (by kernel_rfl) (loopOK_of (an := an4) (S := L4) (by kernel_rfl) loop4)) ?_
  intro hargs pars R h
  unfold SLaw at h
  split at h
  case h_2 => exact h.elim
  rename_i l n
  obtain ⟨⟨h1, h2⟩, hq⟩ := h
  refine byVC (vcPK l n R) ⟨trivial, fun y1 e1 => ⟨fun k => (by rw [e1] at k; cases k), fun _ => ⟨h1, ax3_ex, fun x hx => ⟨by omega, by omega, fun y3 e3 => ?_⟩⟩⟩⟩
  have hc := okAx_C hx.1
  obtain ⟨g1, g2, g3, g4, g5, g6, g7, g8, g9, g10⟩ := hx.1
  generalize x.1 = a at *
  obtain ⟨st, sp, ac, je, bl, og, sg, pit⟩ := a
  dsimp only at *
  refine ⟨⟨⟨hc, by omega, by omega⟩, rfl, rfl, rfl⟩, fun k => ?_, fun k => ?_⟩
  · have k : (pit.length : Int) = 0 := by simpa using k
    refine ⟨⟨hc, by omega⟩, fun y4 e4 => ?_⟩
    rw [e4, corr_empty _ (by omega)]; exact hq
  have k : ¬ (pit.length : Int) = 0 := by simpa using k
  have hs := hc.1 (by omega)
  refine ⟨by omega, fun y5 e5 => ⟨⟨hc, by omega⟩, fun y6 e6 => ⟨by omega, fun y7 e7 => ⟨fun k => ⟨by omega, fun y8 e8 => ?_⟩, fun k => ?_⟩⟩⟩⟩
  · have pb := mul_bd (a := y8) (b := sg) (A := 4) (B := 124) (by omega) (by omega) (by omega) (by omega)
    refine ⟨by omega, fun y9 e9 => ⟨by omega, fun y10 e10 => ⟨by omega, fun y11 e11 => ⟨⟨hc, by omega⟩, fun y12 e12 => ⟨by omega, fun y13 e13 => ⟨by omega, fun y14 e14 => ?_⟩⟩⟩⟩⟩⟩
    rw [e12, e14, e11, e10, e9, e8, corr_past hs (by omega) (by omega), show y13.toNat = pit.length - 1 by omega, beq_self_eq_true]; exact hq
  · rw [e6, corr_lo (by omega) hs (by omega), e7] at k
    simp at k
theorem lawSlope : Sound Try.prog 5 SLaw := by
  refine sound_of (C := CPS) tabP4 Try.func5 (by kernel_rfl) (by decide +kernel) (by kernel_rfl) rfl ⟨sAwake, sAxes, sMod, sNear, sCorrect, sCorrect2, sSteps, sSteps2, sMotor, sMotor2, sInverse, sInverse2, trivial⟩ (loops0 (by kernel_rfl)) ?_
  intro hargs pars R h
  unfold SLaw at h
  split at h
  case h_2 => exact h.elim
  rename_i l n
  obtain ⟨⟨h1, h2⟩, hq⟩ := h
  refine byVC (vcPS l n R) ⟨trivial, fun y1 e1 => ⟨fun k => (by rw [e1] at k; cases k), fun _ => ⟨h1, ax3_ex, fun x hx => ⟨by omega, by omega, fun y3 e3 => ⟨by omega, fun y4 e4 => ⟨by omega, fun y5 e5 => ⟨⟨okAx_C hx.1, by omega⟩, fun y6 e6 => ?_⟩⟩⟩⟩⟩⟩⟩
  have hc := okAx_C hx.1
  have hs := okAx_S hx.1
  have b1 := corr_bd hc y5
  have b2 := corr_bd hc y4
  have c := corr_step (og := x.1.og) hs y4
  rw [← e5] at c
  rw [← e6] at b1 c
  refine ⟨by omega, fun y7 e7 => ⟨⟨hc, by omega⟩, fun y8 e8 => ?_⟩⟩
  rw [← e8] at b2 c
  refine ⟨by omega, fun y9 e9 => ⟨fun k => ?_, fun k => ?_⟩⟩
  · rw [decide_eq_true (show y9 ≤ 2 by omega)]; exact hq
  · have k := of_decide_eq_false k
    omega
theorem lawMotor : Sound Try.prog 6 SLaw := by
  refine sound_of (C := CPM) tabP4 Try.func6 (by kernel_rfl) (by decide +kernel) (by kernel_rfl) rfl ⟨sAwake, sAxes, sMod, sNear, sCorrect, sCorrect2, sSteps, sSteps2, sMotor, sMotor2, sInverse, sInverse2, trivial⟩ (loops0 (by kernel_rfl)) ?_
  intro hargs pars R h
  unfold SLaw at h
  split at h
  case h_2 => exact h.elim
  rename_i l n
  obtain ⟨⟨h1, h2⟩, hq⟩ := h
  refine byVC (vcPM l n R) ⟨trivial, fun y1 e1 => ⟨fun k => (by rw [e1] at k; cases k), fun _ => ⟨h1, ax3_ex, fun x hx => ⟨by omega, by omega, fun y3 e3 => ⟨by omega, fun y4 e4 => ⟨by omega, fun y5 e5 => ?_⟩⟩⟩⟩⟩⟩
  have hc := okAx_C hx.1
  have hs := okAx_S hx.1
  have hst := hx.1.1
  have b1 := corr_bd hc y5
  have b2 := corr_bd hc y4
  have c := motor_step (og := x.1.og) hs hst.1 y4
  have q1 : -1099511627776 ≤ y5 + corr x.1.og x.1.sg x.1.pit y5 ∧ y5 + corr x.1.og x.1.sg x.1.pit y5 ≤ 1099511627776 := by omega
  have q2 : -1099511627776 ≤ y4 + corr x.1.og x.1.sg x.1.pit y4 ∧ y4 + corr x.1.og x.1.sg x.1.pit y4 ≤ 1099511627776 := by omega
  have m1 := stp_bd (st := x.1.st) (by omega) q1
  have m2 := stp_bd (st := x.1.st) (by omega) q2
  rw [stp_eq] at m1 m2
  rw [← e5] at c
  refine ⟨⟨by omega, hc, by omega⟩, fun y6 e6 => ⟨⟨by omega, hc, by omega⟩, fun y7 e7 => ?_⟩⟩
  rw [← e6] at m1 c
  rw [← e7] at m2 c
  refine ⟨by omega, fun y8 e8 => ⟨fun k => ⟨fun k2 => ⟨⟨by omega, hc, by omega⟩, fun y9 e9 => ⟨⟨hc, by omega⟩, fun y10 e10 => ?_⟩⟩, fun k2 => ?_⟩, fun k => ?_⟩⟩
  · rw [← e10] at b2
    refine ⟨by omega, fun y11 e11 => ⟨⟨by omega, by omega⟩, fun y12 e12 => ?_⟩⟩
    rw [e9, e12, e11, e10, stp_eq, beq_self_eq_true]; exact hq
  · have k2 := of_decide_eq_false k2
    omega
  · have k := of_decide_eq_false k
    omega
end Go.Proofs.Ytajppnnfgefpjaa
