/-
  The laws Within, Parts, Join, Unit.
  Conditions: none.
-/
import Derived.Test.YtmadbcfocgagpaaL5
namespace Go.Proofs.Ytmadbcfocgagpaa
open Go Go.HL U
def tabLw : List (FuncId × HL.Spec) := [(9, SA), (10, SF), (14, SAxes), (15, SSc), (16, SW), (17, SW), (18, SMod)]
def an4 : LAnn := ⟨[4, 5, 19, 20], [4], [1000005], true⟩
def L4 (v : LV) : LR :=
  match v with
  | ([.ce (.lit r), .ce (.ptr 1000005 0), .agg [.sl false [4] a, .sl false [4] b], .ce (.num .i64 0)], [[.int .i64 st, .int .i64 sp, .int .i64 ac, .int .i64 je, .int .i64 lo, .int .i64 hi, .int .i64 bl, .int .i64 og, .int .i64 sg, .sl false [4] pit]]) =>
    .det (a.length ≤ 1000 ∧ b.length ≤ 1000) (.exit 0) ([.ce (.lit r)], [[.int .i64 st, .int .i64 sp, .int .i64 ac, .int .i64 je, .int .i64 lo, .int .i64 hi, .int .i64 bl, .int .i64 og, .int .i64 sg, .sl false [4] pit]])
  | _ => .fail
noncomputable def C4 : Ctx := ⟨Try.prog, gam tabLw, 31, [(7, an4, L4)], []⟩
theorem vc4 (ax l : List (List Int)) (Q : Res → Prop) : (nfun true C4 Try.f4 (bodyOf Try.f4) [.ce (.sl false [4] ax), .ce (.sl false [4] l)] [] Q) =
    (True ∧
      ((!true) = true → Q { val := HV.ce (HC.bool false), own := false, pars := [], news := [] }) ∧
        ((!true) = false →
          True ∧
            ((!few l) = true → Q { val := HV.ce (HC.bool true), own := false, pars := [], news := [] }) ∧
              ((!few l) = false →
                List.length ax ≤ (9223372036854775807 : Nat) ∧
                  (∃ (x : AxV × AxV × AxV), okAx x.1 ∧ okAx x.snd.1 ∧ okAx x.snd.2) ∧
                    ∀ (x : AxV × AxV × AxV),
                      okAx x.1 ∧ okAx x.snd.1 ∧ okAx x.snd.2 →
                        ((0 : Int) ≤ (0 : Int) ∧ (0 : Int) < (((3 : Nat) : Nat) : Int)) ∧
                          List.length l ≤ (1000 : Nat) ∧
                            (List.length l ≤ (1000 : Nat) ∧ List.length (scd l (List.length l)) ≤ (1000 : Nat)) ∧
                              Q { val := HV.ce (HC.bool true), own := false, pars := [], news := [] }))) := by kernel_rfl
theorem vb4a (a b pit : List (List Int)) (r : Bool) (st sp ac je lo hi bl og sg : Int) (K : HEx → LV → Prop) : (nbodyT true C4 an4 (nthLoop Try.f4 0) ([.ce (.lit r), .ce (.ptr 1000005 0), .agg [.sl false [4] a, .sl false [4] b], .ce (.num .i64 0)], [[.int .i64 st, .int .i64 sp, .int .i64 ac, .int .i64 je, .int .i64 lo, .int .i64 hi, .int .i64 bl, .int .i64 og, .int .i64 sg, .sl false [4] pit]]) K) =
    (((0 : Int) ≤ (0 : Int) ∧ (0 : Int) < (((2 : Nat) : Nat) : Int)) ∧
      List.length a ≤ (1000 : Nat) ∧
        List.length a ≤ (1000 : Nat) ∧
          ((!W sp ac je a == W sp ac je a) = true →
              K HEx.ret
                ([HV.ce (HC.lit false)],
                  [[HC.int IntKind.i64 st, HC.int IntKind.i64 sp, HC.int IntKind.i64 ac, HC.int IntKind.i64 je,
                      HC.int IntKind.i64 lo, HC.int IntKind.i64 hi, HC.int IntKind.i64 bl, HC.int IntKind.i64 og,
                      HC.int IntKind.i64 sg, HC.sl false [(4 : Nat)] pit]])) ∧
            ((!W sp ac je a == W sp ac je a) = false →
              K HEx.normal
                ([HV.ce (HC.lit r), HV.ce (HC.ptr (1000005 : Nat) (0 : Nat)),
                    HV.agg [HC.sl false [(4 : Nat)] a, HC.sl false [(4 : Nat)] b],
                    HV.ce (HC.num IntKind.i64 (IntKind.wrap IntKind.i64 ((0 : Int) + (1 : Int))))],
                  [[HC.int IntKind.i64 st, HC.int IntKind.i64 sp, HC.int IntKind.i64 ac, HC.int IntKind.i64 je,
                      HC.int IntKind.i64 lo, HC.int IntKind.i64 hi, HC.int IntKind.i64 bl, HC.int IntKind.i64 og,
                      HC.int IntKind.i64 sg, HC.sl false [(4 : Nat)] pit]]))) := by kernel_rfl
theorem vb4b (a b pit : List (List Int)) (r : Bool) (st sp ac je lo hi bl og sg : Int) (K : HEx → LV → Prop) : (nbodyT true C4 an4 (nthLoop Try.f4 0) ([.ce (.lit r), .ce (.ptr 1000005 0), .agg [.sl false [4] a, .sl false [4] b], .ce (.num .i64 1)], [[.int .i64 st, .int .i64 sp, .int .i64 ac, .int .i64 je, .int .i64 lo, .int .i64 hi, .int .i64 bl, .int .i64 og, .int .i64 sg, .sl false [4] pit]]) K) =
    (((0 : Int) ≤ (1 : Int) ∧ (1 : Int) < (((2 : Nat) : Nat) : Int)) ∧
      List.length b ≤ (1000 : Nat) ∧
        List.length b ≤ (1000 : Nat) ∧
          ((!W sp ac je b == W sp ac je b) = true →
              K HEx.ret
                ([HV.ce (HC.lit false)],
                  [[HC.int IntKind.i64 st, HC.int IntKind.i64 sp, HC.int IntKind.i64 ac, HC.int IntKind.i64 je,
                      HC.int IntKind.i64 lo, HC.int IntKind.i64 hi, HC.int IntKind.i64 bl, HC.int IntKind.i64 og,
                      HC.int IntKind.i64 sg, HC.sl false [(4 : Nat)] pit]])) ∧
            ((!W sp ac je b == W sp ac je b) = false →
              K HEx.normal
                ([HV.ce (HC.lit r), HV.ce (HC.ptr (1000005 : Nat) (0 : Nat)),
                    HV.agg [HC.sl false [(4 : Nat)] a, HC.sl false [(4 : Nat)] b],
                    HV.ce (HC.num IntKind.i64 (IntKind.wrap IntKind.i64 ((1 : Int) + (1 : Int))))],
                  [[HC.int IntKind.i64 st, HC.int IntKind.i64 sp, HC.int IntKind.i64 ac, HC.int IntKind.i64 je,
                      HC.int IntKind.i64 lo, HC.int IntKind.i64 hi, HC.int IntKind.i64 bl, HC.int IntKind.i64 og,
                      HC.int IntKind.i64 sg, HC.sl false [(4 : Nat)] pit]]))) := by kernel_rfl
theorem vb4c (a b pit : List (List Int)) (r : Bool) (st sp ac je lo hi bl og sg : Int) (K : HEx → LV → Prop) : (nbodyT true C4 an4 (nthLoop Try.f4 0) ([.ce (.lit r), .ce (.ptr 1000005 0), .agg [.sl false [4] a, .sl false [4] b], .ce (.num .i64 2)], [[.int .i64 st, .int .i64 sp, .int .i64 ac, .int .i64 je, .int .i64 lo, .int .i64 hi, .int .i64 bl, .int .i64 og, .int .i64 sg, .sl false [4] pit]]) K) =
    (K (HEx.exit (0 : Nat))
      ([HV.ce (HC.lit r)],
        [[HC.int IntKind.i64 st, HC.int IntKind.i64 sp, HC.int IntKind.i64 ac, HC.int IntKind.i64 je, HC.int IntKind.i64 lo,
            HC.int IntKind.i64 hi, HC.int IntKind.i64 bl, HC.int IntKind.i64 og, HC.int IntKind.i64 sg,
            HC.sl false [(4 : Nat)] pit]])) := by kernel_rfl
noncomputable def C5 : Ctx := ⟨Try.prog, gam tabLw, 49, [], []⟩
theorem vc5 (ax l : List (List Int)) (fr to : Int) (Q : Res → Prop) : (nfun true C5 Try.f5 (bodyOf Try.f5) [.ce (.sl false [4] ax), .ce (.sl false [4] l), .ce (.int .i64 fr), .ce (.int .i64 to)] [] Q) =
    (True ∧
      ((!true) = true → Q { val := HV.ce (HC.bool false), own := false, pars := [], news := [] }) ∧
        ((!true) = false →
          True ∧
            ((!few l) = true → Q { val := HV.ce (HC.bool true), own := false, pars := [], news := [] }) ∧
              ((!few l) = false →
                List.length ax ≤ (9223372036854775807 : Nat) ∧
                  (∃ (x : AxV × AxV × AxV), okAx x.1 ∧ okAx x.snd.1 ∧ okAx x.snd.2) ∧
                    ∀ (x : AxV × AxV × AxV),
                      okAx x.1 ∧ okAx x.snd.1 ∧ okAx x.snd.2 →
                        ((0 : Int) ≤ (0 : Int) ∧ (0 : Int) < (((3 : Nat) : Nat) : Int)) ∧
                          List.length l ≤ (1000 : Nat) ∧
                            ((-9223372036854775808 : Int) ≤ (((List.length (scd l (List.length l))) : Nat) : Int) + (1 : Int) ∧
                                (((List.length (scd l (List.length l))) : Nat) : Int) + (1 : Int) ≤ (9223372036854775807 : Int)) ∧
                              ∀ (x2 : Int),
                                x2 = (((List.length (scd l (List.length l))) : Nat) : Int) + (1 : Int) →
                                  ((0 : Int) < x2 ∧ x2 ≤ (4611686018427387904 : Int)) ∧
                                    ((-9223372036854775808 : Int) ≤ (((List.length (scd l (List.length l))) : Nat) : Int) - fr % x2 ∧
                                        (((List.length (scd l (List.length l))) : Nat) : Int) - fr % x2 ≤ (9223372036854775807 : Int)) ∧
                                      ∀ (x3 : Int),
                                        x3 = (((List.length (scd l (List.length l))) : Nat) : Int) - fr % x2 →
                                          ((-9223372036854775808 : Int) ≤ x3 + (1 : Int) ∧
                                              x3 + (1 : Int) ≤ (9223372036854775807 : Int)) ∧
                                            ∀ (x4 : Int),
                                              x4 = x3 + (1 : Int) →
                                                ((0 : Int) < x4 ∧ x4 ≤ (4611686018427387904 : Int)) ∧
                                                  ((-9223372036854775808 : Int) ≤ fr % x2 + to % x4 ∧
                                                      fr % x2 + to % x4 ≤ (9223372036854775807 : Int)) ∧
                                                    ∀ (x5 : Int),
                                                      x5 = fr % x2 + to % x4 →
                                                        List.length (scd l (List.length l)) ≤ (1000 : Nat) ∧
                                                          ((!W x.1.sp x.1.ac x.1.je (scd l (List.length l))) = true →
                                                              Q
                                                                { val := HV.ce (HC.bool true), own := false, pars := [],
                                                                  news := [] }) ∧
                                                            ((!W x.1.sp x.1.ac x.1.je (scd l (List.length l))) = false →
                                                              ((0 : Int) ≤ fr % x2 ∧
                                                                  fr % x2 ≤ x5 ∧
                                                                    x5 ≤ (((List.length (scd l (List.length l))) : Nat) : Int)) ∧
                                                                List.length
                                                                      (List.drop (Int.toNat (fr % x2))
                                                                        (List.take (Int.toNat x5)
                                                                          (scd l (List.length l)))) ≤
                                                                    (1000 : Nat) ∧
                                                                  Q
                                                                    {
                                                                      val :=
                                                                        HV.ce
                                                                          (HC.bool
                                                                            (W x.1.sp x.1.ac x.1.je
                                                                              (List.drop (Int.toNat (fr % x2))
                                                                                (List.take (Int.toNat x5)
                                                                                  (scd l (List.length l)))))),
                                                                      own := false, pars := [], news := [] })))) := by kernel_rfl
noncomputable def C6 : Ctx := ⟨Try.prog, gam tabLw, 47, [], []⟩
theorem vc6 (ax l : List (List Int)) (at_ : Int) (Q : Res → Prop) : (nfun true C6 Try.f6 (bodyOf Try.f6) [.ce (.sl false [4] ax), .ce (.sl false [4] l), .ce (.int .i64 at_)] [] Q) =
    (True ∧
      ((!true) = true → Q { val := HV.ce (HC.bool false), own := false, pars := [], news := [] }) ∧
        ((!true) = false →
          True ∧
            ((!few l) = true → Q { val := HV.ce (HC.bool true), own := false, pars := [], news := [] }) ∧
              ((!few l) = false →
                (decide ((((List.length l) : Nat) : Int) < (3 : Int)) = true →
                    Q { val := HV.ce (HC.bool true), own := false, pars := [], news := [] }) ∧
                  (decide ((((List.length l) : Nat) : Int) < (3 : Int)) = false →
                    List.length ax ≤ (9223372036854775807 : Nat) ∧
                      (∃ (x : AxV × AxV × AxV), okAx x.1 ∧ okAx x.snd.1 ∧ okAx x.snd.2) ∧
                        ∀ (x : AxV × AxV × AxV),
                          okAx x.1 ∧ okAx x.snd.1 ∧ okAx x.snd.2 →
                            ((0 : Int) ≤ (0 : Int) ∧ (0 : Int) < (((3 : Nat) : Nat) : Int)) ∧
                              List.length l ≤ (1000 : Nat) ∧
                                ((-9223372036854775808 : Int) ≤ (((List.length (scd l (List.length l))) : Nat) : Int) - (2 : Int) ∧
                                    (((List.length (scd l (List.length l))) : Nat) : Int) - (2 : Int) ≤ (9223372036854775807 : Int)) ∧
                                  ∀ (x2 : Int),
                                    x2 = (((List.length (scd l (List.length l))) : Nat) : Int) - (2 : Int) →
                                      ((0 : Int) < x2 ∧ x2 ≤ (4611686018427387904 : Int)) ∧
                                        List.length (scd l (List.length l)) ≤ (1000 : Nat) ∧
                                          ((-9223372036854775808 : Int) ≤ at_ % x2 + (3 : Int) ∧
                                              at_ % x2 + (3 : Int) ≤ (9223372036854775807 : Int)) ∧
                                            ∀ (x3 : Int),
                                              x3 = at_ % x2 + (3 : Int) →
                                                ((0 : Int) ≤ x3 ∧ x3 ≤ (((List.length (scd l (List.length l))) : Nat) : Int)) ∧
                                                  List.length (List.take (Int.toNat x3) (scd l (List.length l))) ≤
                                                      (1000 : Nat) ∧
                                                    (W x.1.sp x.1.ac x.1.je
                                                            (List.take (Int.toNat x3) (scd l (List.length l))) =
                                                          true →
                                                        ((0 : Int) ≤ at_ % x2 ∧
                                                            at_ % x2 ≤ (((List.length (scd l (List.length l))) : Nat) : Int)) ∧
                                                          List.length
                                                                (List.drop (Int.toNat (at_ % x2)) (scd l (List.length l))) ≤
                                                              (1000 : Nat) ∧
                                                            Q
                                                              {
                                                                val :=
                                                                  HV.ce
                                                                    (HC.bool
                                                                      (W x.1.sp x.1.ac x.1.je (scd l (List.length l)) ==
                                                                        W x.1.sp x.1.ac x.1.je
                                                                          (List.drop (Int.toNat (at_ % x2))
                                                                            (scd l (List.length l))))),
                                                                own := false, pars := [], news := [] }) ∧
                                                      (W x.1.sp x.1.ac x.1.je
                                                            (List.take (Int.toNat x3) (scd l (List.length l))) =
                                                          false →
                                                        Q
                                                          {
                                                            val :=
                                                              HV.ce
                                                                (HC.bool
                                                                  (W x.1.sp x.1.ac x.1.je (scd l (List.length l)) ==
                                                                    false)),
                                                            own := false, pars := [], news := [] }))))) := by kernel_rfl
def an7 : LAnn := ⟨[4, 5, 6, 100006, 18, 19, 20], [4, 5, 6, 100006], [1000005], false⟩
def L7 (v : LV) : LR :=
  match v with
  | ([.ce (.bool r), .ce (.ptr 1000005 0), .ce (.sl false [4] p), .ce (.lit true), .ce (.sl false [4] l), .ce (.int .i64 n), .ce (.int .i64 k)], [[.int .i64 st, .int .i64 sp, .int .i64 ac, .int .i64 je, .int .i64 lo, .int .i64 hi, .int .i64 bl, .int .i64 og, .int .i64 sg, .sl false [4] pit]]) =>
    .all (p = [[0]] ∧ n = (l.length : Int) ∧ k = 0 ∧ l.length ≤ 100) (List (List Int)) (fun p => Stp p ∧ p.length = l.length + 1) (fun _ => .exit 0) (fun p => ([.ce (.bool r), .ce (.ptr 1000005 0), .ce (.sl false [4] p), .ce (.lit true)], [[.int .i64 st, .int .i64 sp, .int .i64 ac, .int .i64 je, .int .i64 lo, .int .i64 hi, .int .i64 bl, .int .i64 og, .int .i64 sg, .sl false [4] pit]]))
  | _ => .fail
noncomputable def C7 : Ctx := ⟨Try.prog, gam tabLw, 41, [(8, an7, L7)], []⟩
theorem vc7 (ax l : List (List Int)) (Q : Res → Prop) : (nfun true C7 Try.f7 (bodyOf Try.f7) [.ce (.sl false [4] ax), .ce (.sl false [4] l)] [] Q) =
    (True ∧
      ((!true) = true → Q { val := HV.ce (HC.bool false), own := false, pars := [], news := [] }) ∧
        ((!true) = false →
          True ∧
            ((!few l) = true → Q { val := HV.ce (HC.bool true), own := false, pars := [], news := [] }) ∧
              ((!few l) = false →
                List.length ax ≤ (9223372036854775807 : Nat) ∧
                  (∃ (x : AxV × AxV × AxV), okAx x.1 ∧ okAx x.snd.1 ∧ okAx x.snd.2) ∧
                    ∀ (x : AxV × AxV × AxV),
                      okAx x.1 ∧ okAx x.snd.1 ∧ okAx x.snd.2 →
                        ((0 : Int) ≤ (0 : Int) ∧ (0 : Int) < (((3 : Nat) : Nat) : Int)) ∧
                          ([[(0 : Int)]] = [[(0 : Int)]] ∧
                              (((List.length l) : Nat) : Int) = (((List.length l) : Nat) : Int) ∧ (0 : Int) = (0 : Int) ∧ List.length l ≤ (100 : Nat)) ∧
                            ∀ (x_1 : List (List Int)),
                              Stp x_1 ∧ List.length x_1 = List.length l + (1 : Nat) →
                                List.length x_1 ≤ (1000 : Nat) ∧
                                  Q
                                    { val := HV.ce (HC.bool (W x.1.sp x.1.ac x.1.je x_1)), own := false, pars := [],
                                      news := [] }))) := by kernel_rfl
theorem vb7 (p l pit : List (List Int)) (r : Bool) (n k st sp ac je lo hi bl og sg : Int) (K : HEx → LV → Prop) : (nbodyT true C7 an7 (nthLoop Try.f7 0) ([.ce (.bool r), .ce (.ptr 1000005 0), .ce (.sl false [4] p), .ce (.lit true), .ce (.sl false [4] l), .ce (.int .i64 n), .ce (.int .i64 k)], [[.int .i64 st, .int .i64 sp, .int .i64 ac, .int .i64 je, .int .i64 lo, .int .i64 hi, .int .i64 bl, .int .i64 og, .int .i64 sg, .sl false [4] pit]]) K) =
    ((decide (k < n) = true →
        ((0 : Int) ≤ k ∧ k < (((List.length l) : Nat) : Int)) ∧
          ∀ (x1 : Int),
            x1 = el l (Int.toNat k) →
              ((-9223372036854775808 : Int) ≤ (((List.length p) : Nat) : Int) - (1 : Int) ∧
                  (((List.length p) : Nat) : Int) - (1 : Int) ≤ (9223372036854775807 : Int)) ∧
                ∀ (x2 : Int),
                  x2 = (((List.length p) : Nat) : Int) - (1 : Int) →
                    ((0 : Int) ≤ x2 ∧ x2 < (((List.length p) : Nat) : Int)) ∧
                      ∀ (x3 : Int),
                        x3 = el p (Int.toNat x2) →
                          ((0 : Int) < (3 : Int) ∧ (3 : Int) ≤ (4611686018427387904 : Int)) ∧
                            ((-9223372036854775808 : Int) ≤ x3 + x1 % (3 : Int) ∧
                                x3 + x1 % (3 : Int) ≤ (9223372036854775807 : Int)) ∧
                              ∀ (x4 : Int),
                                x4 = x3 + x1 % (3 : Int) →
                                  ((-9223372036854775808 : Int) ≤ x4 - (1 : Int) ∧
                                      x4 - (1 : Int) ≤ (9223372036854775807 : Int)) ∧
                                    ∀ (x5 : Int),
                                      x5 = x4 - (1 : Int) →
                                        ((List.length p + (1 : Nat)) * (8 : Nat) ≤ (140737488355328 : Nat) ∧
                                            List.length p + (1 : Nat) ≤ maxLen) ∧
                                          ((-9223372036854775808 : Int) ≤ k + (1 : Int) ∧
                                              k + (1 : Int) ≤ (9223372036854775807 : Int)) ∧
                                            ∀ (x6 : Int),
                                              x6 = k + (1 : Int) →
                                                K HEx.normal
                                                  ([HV.ce (HC.bool r), HV.ce (HC.ptr (1000005 : Nat) (0 : Nat)),
                                                      HV.ce (HC.sl false [(4 : Nat)] (p ++ [[x5]])), HV.ce (HC.lit true),
                                                      HV.ce (HC.sl false [(4 : Nat)] l), HV.ce (HC.int IntKind.i64 n),
                                                      HV.ce (HC.int IntKind.i64 x6)],
                                                    [[HC.int IntKind.i64 st, HC.int IntKind.i64 sp, HC.int IntKind.i64 ac,
                                                        HC.int IntKind.i64 je, HC.int IntKind.i64 lo, HC.int IntKind.i64 hi,
                                                        HC.int IntKind.i64 bl, HC.int IntKind.i64 og, HC.int IntKind.i64 sg,
                                                        HC.sl false [(4 : Nat)] pit]])) ∧
      (decide (k < n) = false →
        K (HEx.exit (0 : Nat))
          ([HV.ce (HC.bool r), HV.ce (HC.ptr (1000005 : Nat) (0 : Nat)), HV.ce (HC.sl false [(4 : Nat)] p),
              HV.ce (HC.lit true)],
            [[HC.int IntKind.i64 st, HC.int IntKind.i64 sp, HC.int IntKind.i64 ac, HC.int IntKind.i64 je,
                HC.int IntKind.i64 lo, HC.int IntKind.i64 hi, HC.int IntKind.i64 bl, HC.int IntKind.i64 og,
                HC.int IntKind.i64 sg, HC.sl false [(4 : Nat)] pit]]))) := by kernel_rfl
end Go.Proofs.Ytmadbcfocgagpaa
namespace Go.Proofs.Ytmadbcfocgagpaa
open Go Go.HL U
theorem okAx_ex3 : ∃ x : AxV × AxV × AxV, okAx x.1 ∧ okAx x.2.1 ∧ okAx x.2.2 := by
  obtain ⟨a, ha⟩ := okAx_ex
  exact ⟨(a, a, a), ha, ha, ha⟩
theorem few_small {l : List (List Int)} (h : few l = true) : l.length ≤ 100 ∧ Sm 1099511627776 l := by
  unfold few at h
  rw [Bool.and_eq_true] at h
  refine ⟨of_decide_eq_true h.1, fun j hj => ?_⟩
  have := allN_iff.1 h.2 j hj
  simp at this
  omega

theorem loop4 : ∀ v Q, (L4 v).wp Q → hloop C4 an4 (nthLoop Try.f4 0) v Q := by
  intro v Q h
  unfold L4 at h
  split at h
  case h_2 => exact h.elim
  rename_i r a b st sp ac je lo hi bl og sg pit
  obtain ⟨⟨h1, h2⟩, hq⟩ := h
  refine hloop_rec (σ := Nat) (fun j => match j with
    | 0 => ([.ce (.lit r), .ce (.ptr 1000005 0), .agg [.sl false [4] a, .sl false [4] b], .ce (.num .i64 0)], [[.int .i64 st, .int .i64 sp, .int .i64 ac, .int .i64 je, .int .i64 lo, .int .i64 hi, .int .i64 bl, .int .i64 og, .int .i64 sg, .sl false [4] pit]])
    | 1 => ([.ce (.lit r), .ce (.ptr 1000005 0), .agg [.sl false [4] a, .sl false [4] b], .ce (.num .i64 1)], [[.int .i64 st, .int .i64 sp, .int .i64 ac, .int .i64 je, .int .i64 lo, .int .i64 hi, .int .i64 bl, .int .i64 og, .int .i64 sg, .sl false [4] pit]])
    | _ => ([.ce (.lit r), .ce (.ptr 1000005 0), .agg [.sl false [4] a, .sl false [4] b], .ce (.num .i64 2)], [[.int .i64 st, .int .i64 sp, .int .i64 ac, .int .i64 je, .int .i64 lo, .int .i64 hi, .int .i64 bl, .int .i64 og, .int .i64 sg, .sl false [4] pit]]))
    (fun j => 2 - j) (fun j => j ≤ 2) ?_ 0 (by omega)
  intro j hj K hn he _
  match j, hj with
  | 0, _ =>
    refine byVB (vb4a a b pit r st sp ac je lo hi bl og sg K) ?_
    refine ⟨⟨by omega, by omega⟩, h1, h1, fun e => ?_, fun _ => hn 1 (by omega) (by omega)⟩
    simp at e
  | 1, _ =>
    refine byVB (vb4b a b pit r st sp ac je lo hi bl og sg K) ?_
    refine ⟨⟨by omega, by omega⟩, h2, h2, fun e => ?_, fun _ => hn 2 (by omega) (by omega)⟩
    simp at e
  | 2, _ => exact byVB (vb4c a b pit r st sp ac je lo hi bl og sg K) (he _ _ hq)

def STwo (hargs : List HV) (pars : List (List HC)) : SR :=
  match hargs, pars with
  | [.ce (.sl false [4] ax), .ce (.sl false [4] _)], [] => .det (ax.length ≤ 9223372036854775807) ⟨.ce (.bool true), false, [], []⟩
  | _, _ => .fail

theorem s4 : Sound Try.prog 4 STwo := by
  refine sound_of (C := C4) tabLw Try.func4 (by kernel_rfl) (by decide +kernel) (by kernel_rfl) rfl ⟨s9, s10, sAxes, s15, s16, s17, sMod, trivial⟩ (loops1 (by kernel_rfl) (loopOK_of (an := an4) (S := L4) (by kernel_rfl) loop4)) ?_
  intro hargs pars R h
  unfold STwo at h
  split at h
  · rename_i ax l
    refine byVC (vc4 ax l R) ?_
    refine ⟨trivial, fun e => (nomatch e), fun _ => ⟨trivial, fun _ => h.2, fun e => ?_⟩⟩
    obtain ⟨f1, f2⟩ := few_small (l := l) (by simpa using e)
    exact ⟨h.1, okAx_ex3, fun x _ => ⟨⟨by omega, by omega⟩, by omega, ⟨by omega, by rw [scd_length]; omega⟩, h.2⟩⟩
  · exact h.elim

def SFour (hargs : List HV) (pars : List (List HC)) : SR :=
  match hargs, pars with
  | [.ce (.sl false [4] ax), .ce (.sl false [4] _), .ce (.int .i64 _), .ce (.int .i64 _)], [] => .det (ax.length ≤ 9223372036854775807) ⟨.ce (.bool true), false, [], []⟩
  | _, _ => .fail

theorem s5 : Sound Try.prog 5 SFour := by
  refine sound_of (C := C5) tabLw Try.func5 (by kernel_rfl) (by decide +kernel) (by kernel_rfl) rfl ⟨s9, s10, sAxes, s15, s16, s17, sMod, trivial⟩ (loops0 (by kernel_rfl)) ?_
  intro hargs pars R h
  unfold SFour at h
  split at h
  · rename_i ax l fr to
    refine byVC (vc5 ax l fr to R) ?_
    refine ⟨trivial, fun e => (nomatch e), fun _ => ⟨trivial, fun _ => h.2, fun e => ?_⟩⟩
    obtain ⟨f1, f2⟩ := few_small (l := l) (by simpa using e)
    refine ⟨h.1, okAx_ex3, fun x hx => ⟨⟨by omega, by omega⟩, by omega, ?_⟩⟩
    have hl := scd_length l l.length
    have hS := Sm_scd l l.length
    generalize scd l l.length = p at *
    refine ⟨by omega, fun x2 e2 => ⟨by omega, ?_⟩⟩
    have m1 := Int.emod_nonneg fr (show x2 ≠ 0 by omega)
    have m2 := Int.emod_lt_of_pos fr (show 0 < x2 by omega)
    refine ⟨by omega, fun x3 e3 => ⟨by omega, fun x4 e4 => ⟨by omega, ?_⟩⟩⟩
    have m3 := Int.emod_nonneg to (show x4 ≠ 0 by omega)
    have m4 := Int.emod_lt_of_pos to (show 0 < x4 by omega)
    refine ⟨by omega, fun x5 e5 => ⟨by omega, fun _ => h.2, fun hw => ⟨by omega, by rw [List.length_drop, List.length_take]; omega, ?_⟩⟩⟩
    obtain ⟨⟨_, a1, a2, a3, _⟩, _⟩ := hx
    rw [W_part hS (by omega) (by omega) (by omega) (by omega) (by simpa using hw)]
    exact h.2
  · exact h.elim

def SThree (hargs : List HV) (pars : List (List HC)) : SR :=
  match hargs, pars with
  | [.ce (.sl false [4] ax), .ce (.sl false [4] _), .ce (.int .i64 _)], [] => .det (ax.length ≤ 9223372036854775807) ⟨.ce (.bool true), false, [], []⟩
  | _, _ => .fail

theorem s6 : Sound Try.prog 6 SThree := by
  refine sound_of (C := C6) tabLw Try.func6 (by kernel_rfl) (by decide +kernel) (by kernel_rfl) rfl ⟨s9, s10, sAxes, s15, s16, s17, sMod, trivial⟩ (loops0 (by kernel_rfl)) ?_
  intro hargs pars R h
  unfold SThree at h
  split at h
  · rename_i ax l at_
    refine byVC (vc6 ax l at_ R) ?_
    refine ⟨trivial, fun e => (nomatch e), fun _ => ⟨trivial, fun _ => h.2, fun e => ⟨fun _ => h.2, fun e3 => ?_⟩⟩⟩
    have e3 := of_decide_eq_false e3
    obtain ⟨f1, f2⟩ := few_small (l := l) (by simpa using e)
    refine ⟨h.1, okAx_ex3, fun x hx => ⟨⟨by omega, by omega⟩, by omega, ?_⟩⟩
    have hl := scd_length l l.length
    have hS := Sm_scd l l.length
    generalize scd l l.length = p at *
    refine ⟨by omega, fun x2 e2 => ⟨by omega, ?_⟩⟩
    have m1 := Int.emod_nonneg at_ (show x2 ≠ 0 by omega)
    have m2 := Int.emod_lt_of_pos at_ (show 0 < x2 by omega)
    generalize at_ % x2 = k at *
    obtain ⟨⟨_, a1, a2, a3, _⟩, _⟩ := hx
    have i1 : 0 ≤ x.1.sp ∧ x.1.sp ≤ 1152921504606846976 := by omega
    have i2 : 0 ≤ x.1.ac ∧ x.1.ac ≤ 1152921504606846976 := by omega
    have i3 : 0 ≤ x.1.je ∧ x.1.je ≤ 1152921504606846976 := by omega
    refine ⟨by omega, by omega, fun x3 q3 => ⟨by omega, by rw [List.length_take]; omega, fun hw => ⟨by omega, by rw [List.length_drop]; omega, ?_⟩, fun hw => ?_⟩⟩
    · rw [show x3.toNat = k.toNat + 3 by omega] at hw
      have : W x.1.sp x.1.ac x.1.je p = W x.1.sp x.1.ac x.1.je (p.drop k.toNat) := by
        cases hd : W x.1.sp x.1.ac x.1.je (p.drop k.toNat) with
        | true => exact W_join hS (by omega) i1 i2 i3 hw hd
        | false =>
          cases hp : W x.1.sp x.1.ac x.1.je p with
          | false => rfl
          | true =>
            have := W_part hS (by omega) i1 i2 i3 hp k.toNat p.length
            rw [List.take_length, hd] at this
            cases this
      rw [this, beq_self_eq_true]
      exact h.2
    · have : W x.1.sp x.1.ac x.1.je p = false := by
        cases hp : W x.1.sp x.1.ac x.1.je p with
        | false => rfl
        | true =>
          have := W_part hS (by omega) i1 i2 i3 hp 0 x3.toNat
          rw [List.drop_zero, hw] at this
          cases this
      rw [this]
      exact h.2
  · exact h.elim

theorem loop7 : ∀ v Q, (L7 v).wp Q → hloop C7 an7 (nthLoop Try.f7 0) v Q := by
  intro v Q h
  unfold L7 at h
  split at h
  case h_2 => exact h.elim
  rename_i r p l n k st sp ac je lo hi bl og sg pit
  obtain ⟨⟨h1, h2, h3, h4⟩, hq⟩ := h
  subst h1 h2 h3
  refine hloop_rec (σ := List (List Int) × Nat) (fun s => ([.ce (.bool r), .ce (.ptr 1000005 0), .ce (.sl false [4] s.1), .ce (.lit true), .ce (.sl false [4] l), .ce (.int .i64 (l.length : Int)), .ce (.int .i64 (s.2 : Int))], [[.int .i64 st, .int .i64 sp, .int .i64 ac, .int .i64 je, .int .i64 lo, .int .i64 hi, .int .i64 bl, .int .i64 og, .int .i64 sg, .sl false [4] pit]]))
    (fun s => l.length - s.2) (fun s => s.2 ≤ l.length ∧ Stp s.1 ∧ s.1.length = s.2 + 1) ?_ ([[0]], 0) ⟨Nat.zero_le _, ⟨rfl, fun j hj => absurd hj (by simp)⟩, rfl⟩
  rintro ⟨p, k⟩ ⟨i1, i2, i3⟩ K hn he _
  dsimp only at i1 i2 i3 hn ⊢
  refine byVB (vb7 p l pit r l.length k st sp ac je lo hi bl og sg K) ?_
  refine ⟨fun hlt => ?_, fun hge => ?_⟩
  · have hlt := of_decide_eq_true hlt
    have hsm := Stp_Sm i2 (by omega)
    refine ⟨by omega, fun x1 e1 => ⟨by omega, fun x2 e2 => ⟨by omega, fun x3 e3 => ?_⟩⟩⟩
    have hx := hsm x2.toNat (by omega)
    rw [← e3] at hx
    refine ⟨by omega, by omega, fun x4 e4 => ⟨by omega, fun x5 e5 => ⟨⟨by omega, by unfold maxLen; omega⟩, by omega, fun x6 e6 => ?_⟩⟩⟩
    have := hn (p ++ [[x5]], k + 1) ⟨by dsimp only; omega, ⟨?_, fun j hj => ?_⟩, by simp; omega⟩ (by dsimp only; omega)
    · dsimp only at this
      rw [show x6 = ((k + 1 : Nat) : Int) by omega]
      exact this
    · dsimp only
      rw [el_append, if_pos (by omega)]; exact i2.1
    · dsimp only at hj ⊢
      rw [List.length_append, List.length_singleton] at hj
      have ej : el (p ++ [[x5]]) j = el p j := by rw [el_append, if_pos (by omega)]
      rw [ej, el_append]
      split
      · exact i2.2 j (by omega)
      · rw [show j + 1 - p.length = 0 by omega, el_single]
        rw [show x2.toNat = j by omega] at e3
        omega
  · have hge := of_decide_eq_false hge
    exact he _ _ (hq p ⟨i2, by omega⟩)

theorem s7 : Sound Try.prog 7 STwo := by
  refine sound_of (C := C7) tabLw Try.func7 (by kernel_rfl) (by decide +kernel) (by kernel_rfl) rfl ⟨s9, s10, sAxes, s15, s16, s17, sMod, trivial⟩ (loops1 (by kernel_rfl) (loopOK_of (an := an7) (S := L7) (by kernel_rfl) loop7)) ?_
  intro hargs pars R h
  unfold STwo at h
  split at h
  · rename_i ax l
    refine byVC (vc7 ax l R) ?_
    refine ⟨trivial, fun e => (nomatch e), fun _ => ⟨trivial, fun _ => h.2, fun e => ?_⟩⟩
    obtain ⟨f1, f2⟩ := few_small (l := l) (by simpa using e)
    refine ⟨h.1, okAx_ex3, fun x hx => ⟨⟨by omega, by omega⟩, ⟨rfl, rfl, rfl, f1⟩, fun p ⟨p1, p2⟩ => ⟨by omega, ?_⟩⟩⟩
    obtain ⟨⟨_, a1, a2, a3, _⟩, _⟩ := hx
    rw [W_steps p1 (by omega) (by omega) (by omega) (by omega)]
    exact h.2
  · exact h.elim
end Go.Proofs.Ytmadbcfocgagpaa
