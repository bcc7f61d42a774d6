/-
  limits.Within and its reference.
  Conditions: none.
-/
import Derived.Test.YtmadbcfocgagpaaL2
namespace U
open Go
def d1 (l : List (List Int)) : List (List Int) := dif l (l.length - 1)
def bnd1 (l : List (List Int)) (m : Int) : Bool := bnd l m l.length
def W (sp ac je : Int) (l : List (List Int)) : Bool := bnd1 (d1 l) sp && (bnd1 (d1 (d1 l)) ac && bnd1 (d1 (d1 (d1 l))) je)
end U
namespace Go.Proofs.Ytmadbcfocgagpaa
open Go Go.HL U

def SD' (hargs : List HV) (pars : List (List HC)) : SR :=
  match hargs, pars with
  | [.ce (.sl false [4] l)], [] => .det (l.length ≤ 1000) ⟨.ce (.sl false [4] (d1 l)), true, [], []⟩
  | _, _ => .fail
def SB' (hargs : List HV) (pars : List (List HC)) : SR :=
  match hargs, pars with
  | [.ce (.sl false [4] l), .ce (.int .i64 m)], [] => .det (l.length ≤ 1000) ⟨.ce (.bool (bnd1 l m)), false, [], []⟩
  | _, _ => .fail
theorem t12 : Sound Try.prog 12 SD' := s12
theorem t13 : Sound Try.prog 13 SD' := s13
theorem t23 : Sound Try.prog 23 SB' := s23
theorem t24 : Sound Try.prog 24 SB' := s24

def an16 : LAnn := ⟨[1, 4, 13, 14], [4], [], true⟩
def L16 (v : LV) : LR :=
  match v with
  | ([.ce (.sl false [4] l), .ce (.lit false), .agg [.int .i64 sp, .int .i64 ac, .int .i64 je], .ce (.num .i64 0)], []) =>
    .alts (l.length ≤ 1000) [(W sp ac je l = true, .exit 0, ([.ce (.lit false)], [])), (W sp ac je l = false, .ret, ([.ce (.lit false)], []))]
  | _ => .fail
def SW (hargs : List HV) (pars : List (List HC)) : SR :=
  match hargs, pars with
  | [.agg [.int .i64 _, .int .i64 sp, .int .i64 ac, .int .i64 je, .int .i64 _, .int .i64 _, .int .i64 _, .int .i64 _, .int .i64 _, .sl false [4] _], .ce (.sl false [4] l)], [] =>
    .det (l.length ≤ 1000) ⟨.ce (.bool (W sp ac je l)), false, [], []⟩
  | _, _ => .fail
def tab16 : List (FuncId × HL.Spec) := [(12, SD'), (13, SD'), (23, SB'), (24, SB')]
noncomputable def C16 : Ctx := ⟨Try.prog, gam tab16, 24, [(2, an16, L16)], []⟩
noncomputable def C17 : Ctx := ⟨Try.prog, gam tab16, 28, [], []⟩
theorem vc16 (l p : List (List Int)) (x0 sp ac je x4 x5 x6 x7 x8 : Int) (Q : Res → Prop) : (hfun C16 Try.f16 (bodyOf Try.f16) [.agg [.int .i64 x0, .int .i64 sp, .int .i64 ac, .int .i64 je, .int .i64 x4, .int .i64 x5, .int .i64 x6, .int .i64 x7, .int .i64 x8, .sl false [4] p], .ce (.sl false [4] l)] [] Q) =
    (List.length l ≤ (1000 : Nat) ∧
      (W sp ac je l = true → Q { val := HV.ce (HC.bool true), own := false, pars := [], news := [] }) ∧
        (W sp ac je l = false → Q { val := HV.ce (HC.bool false), own := false, pars := [], news := [] })) := by kernel_rfl
theorem vb16a (l : List (List Int)) (sp ac je : Int) (K : HEx → LV → Prop) : (bodyT C16 an16 (nthLoop Try.f16 0) ([.ce (.sl false [4] l), .ce (.lit false), .agg [.int .i64 sp, .int .i64 ac, .int .i64 je], .ce (.num .i64 0)], []) K) =
    (((0 : Int) ≤ (0 : Int) ∧ (0 : Int) < (3 : Int)) ∧
      List.length l ≤ (1000 : Nat) ∧
        List.length (d1 l) ≤ (1000 : Nat) ∧
          ((!bnd1 (d1 l) sp) = true → K HEx.ret ([HV.ce (HC.lit false)], [])) ∧
            ((!bnd1 (d1 l) sp) = false →
              K HEx.normal
                ([HV.ce (HC.sl false [(4 : Nat)] (d1 l)), HV.ce (HC.lit false),
                    HV.agg [HC.int IntKind.i64 sp, HC.int IntKind.i64 ac, HC.int IntKind.i64 je],
                    HV.ce (HC.num IntKind.i64 (1 : Int))],
                  []))) := by kernel_rfl
theorem vb16b (l : List (List Int)) (sp ac je : Int) (K : HEx → LV → Prop) : (bodyT C16 an16 (nthLoop Try.f16 0) ([.ce (.sl false [4] l), .ce (.lit false), .agg [.int .i64 sp, .int .i64 ac, .int .i64 je], .ce (.num .i64 1)], []) K) =
    (((0 : Int) ≤ (1 : Int) ∧ (1 : Int) < (3 : Int)) ∧
      List.length l ≤ (1000 : Nat) ∧
        List.length (d1 l) ≤ (1000 : Nat) ∧
          ((!bnd1 (d1 l) ac) = true → K HEx.ret ([HV.ce (HC.lit false)], [])) ∧
            ((!bnd1 (d1 l) ac) = false →
              K HEx.normal
                ([HV.ce (HC.sl false [(4 : Nat)] (d1 l)), HV.ce (HC.lit false),
                    HV.agg [HC.int IntKind.i64 sp, HC.int IntKind.i64 ac, HC.int IntKind.i64 je],
                    HV.ce (HC.num IntKind.i64 (2 : Int))],
                  []))) := by kernel_rfl
theorem vb16c (l : List (List Int)) (sp ac je : Int) (K : HEx → LV → Prop) : (bodyT C16 an16 (nthLoop Try.f16 0) ([.ce (.sl false [4] l), .ce (.lit false), .agg [.int .i64 sp, .int .i64 ac, .int .i64 je], .ce (.num .i64 2)], []) K) =
    (((0 : Int) ≤ (2 : Int) ∧ (2 : Int) < (3 : Int)) ∧
      List.length l ≤ (1000 : Nat) ∧
        List.length (d1 l) ≤ (1000 : Nat) ∧
          ((!bnd1 (d1 l) je) = true → K HEx.ret ([HV.ce (HC.lit false)], [])) ∧
            ((!bnd1 (d1 l) je) = false →
              K HEx.normal
                ([HV.ce (HC.sl false [(4 : Nat)] (d1 l)), HV.ce (HC.lit false),
                    HV.agg [HC.int IntKind.i64 sp, HC.int IntKind.i64 ac, HC.int IntKind.i64 je],
                    HV.ce (HC.num IntKind.i64 (3 : Int))],
                  []))) := by kernel_rfl
theorem vb16d (l : List (List Int)) (sp ac je : Int) (K : HEx → LV → Prop) : (bodyT C16 an16 (nthLoop Try.f16 0) ([.ce (.sl false [4] l), .ce (.lit false), .agg [.int .i64 sp, .int .i64 ac, .int .i64 je], .ce (.num .i64 3)], []) K) =
    (K (HEx.exit (0 : Nat)) ([HV.ce (HC.lit false)], [])) := by kernel_rfl
theorem vc17 (l p : List (List Int)) (x0 sp ac je x4 x5 x6 x7 x8 : Int) (Q : Res → Prop) : (hfun C17 Try.f17 (bodyOf Try.f17) [.agg [.int .i64 x0, .int .i64 sp, .int .i64 ac, .int .i64 je, .int .i64 x4, .int .i64 x5, .int .i64 x6, .int .i64 x7, .int .i64 x8, .sl false [4] p], .ce (.sl false [4] l)] [] Q) =
    (List.length l ≤ (1000 : Nat) ∧
      List.length (d1 l) ≤ (1000 : Nat) ∧
        List.length (d1 l) ≤ (1000 : Nat) ∧
          (bnd1 (d1 l) sp = true →
              List.length (d1 (d1 l)) ≤ (1000 : Nat) ∧
                (bnd1 (d1 (d1 l)) ac = true →
                    List.length (d1 (d1 l)) ≤ (1000 : Nat) ∧
                      List.length (d1 (d1 (d1 l))) ≤ (1000 : Nat) ∧
                        Q { val := HV.ce (HC.bool (bnd1 (d1 (d1 (d1 l))) je)), own := false, pars := [], news := [] }) ∧
                  (bnd1 (d1 (d1 l)) ac = false →
                    Q { val := HV.ce (HC.bool false), own := false, pars := [], news := [] })) ∧
            (bnd1 (d1 l) sp = false → Q { val := HV.ce (HC.bool false), own := false, pars := [], news := [] })) := by kernel_rfl

theorem d1_le (l : List (List Int)) (h : l.length ≤ 1000) : (d1 l).length ≤ 1000 := by
  unfold d1; rw [dif_length]; omega

theorem loop16 : ∀ v Q, (L16 v).wp Q → hloop C16 an16 (nthLoop Try.f16 0) v Q := by
  intro v Q h
  unfold L16 at h
  split at h
  case h_2 => exact h.elim
  rename_i l sp ac je
  obtain ⟨h1, hq1, hq2⟩ := h
  refine hloop_rec (σ := Nat) (fun j => match j with
    | 0 => ([.ce (.sl false [4] l), .ce (.lit false), .agg [.int .i64 sp, .int .i64 ac, .int .i64 je], .ce (.num .i64 0)], [])
    | 1 => ([.ce (.sl false [4] (d1 l)), .ce (.lit false), .agg [.int .i64 sp, .int .i64 ac, .int .i64 je], .ce (.num .i64 1)], [])
    | 2 => ([.ce (.sl false [4] (d1 (d1 l))), .ce (.lit false), .agg [.int .i64 sp, .int .i64 ac, .int .i64 je], .ce (.num .i64 2)], [])
    | _ => ([.ce (.sl false [4] (d1 (d1 (d1 l)))), .ce (.lit false), .agg [.int .i64 sp, .int .i64 ac, .int .i64 je], .ce (.num .i64 3)], []))
    (fun j => 3 - j) (fun j => j ≤ 3 ∧ (1 ≤ j → bnd1 (d1 l) sp = true) ∧ (2 ≤ j → bnd1 (d1 (d1 l)) ac = true) ∧ (3 ≤ j → bnd1 (d1 (d1 (d1 l))) je = true)) ?_ 0 ⟨by omega, by omega, by omega, by omega⟩
  intro j ⟨hj, p1, p2, p3⟩ K hn he hr
  have l1 := d1_le l h1
  have l2 := d1_le _ l1
  have l3 := d1_le _ l2
  match j, hj with
  | 0, _ =>
    refine Eq.mpr (vb16a l sp ac je K) ?_
    refine ⟨⟨by omega, by omega⟩, h1, l1, fun hx => hr _ (hq2 ?_), fun hx => ?_⟩
    · unfold W; simp at hx; simp [hx]
    · simp at hx
      exact hn 1 ⟨by omega, fun _ => hx, by omega, by omega⟩ (by omega)
  | 1, _ =>
    refine Eq.mpr (vb16b (d1 l) sp ac je K) ?_
    refine ⟨⟨by omega, by omega⟩, l1, l2, fun hx => hr _ (hq2 ?_), fun hx => ?_⟩
    · unfold W; simp at hx; simp [hx]
    · simp at hx
      exact hn 2 ⟨by omega, fun _ => p1 (by omega), fun _ => hx, by omega⟩ (by omega)
  | 2, _ =>
    refine Eq.mpr (vb16c (d1 (d1 l)) sp ac je K) ?_
    refine ⟨⟨by omega, by omega⟩, l2, l3, fun hx => hr _ (hq2 ?_), fun hx => ?_⟩
    · unfold W; simp at hx; simp [hx]
    · simp at hx
      exact hn 3 ⟨by omega, fun _ => p1 (by omega), fun _ => p2 (by omega), fun _ => hx⟩ (by omega)
  | 3, _ =>
    refine Eq.mpr (vb16d (d1 (d1 (d1 l))) sp ac je K) ?_
    refine he _ _ (hq1 ?_)
    unfold W
    simp [p1, p2, p3]

theorem s16 : Sound Try.prog 16 SW := by
  refine sound_of (C := C16) tab16 Try.func16 (by kernel_rfl) (by decide +kernel) (by kernel_rfl) rfl ⟨t12, t13, t23, t24, trivial⟩ (loops1 (by kernel_rfl) (loopOK_of (an := an16) (S := L16) (by kernel_rfl) loop16)) ?_
  intro hargs pars R h
  unfold SW at h
  split at h
  · rw [vc16]
    have hq := h.2
    exact ⟨h.1, fun e => by rw [e] at hq; exact hq, fun e => by rw [e] at hq; exact hq⟩
  · exact h.elim

theorem s17 : Sound Try.prog 17 SW := by
  refine sound_of (C := C17) tab16 Try.func17 (by kernel_rfl) (by decide +kernel) (by kernel_rfl) rfl ⟨t12, t13, t23, t24, trivial⟩ (loops0 (by kernel_rfl)) ?_
  intro hargs pars R h
  unfold SW at h
  split at h
  · rename_i x0 sp ac je x4 x5 x6 x7 x8 p l
    rw [vc17]
    have hq := h.2
    have l1 := d1_le l h.1
    have l2 := d1_le _ l1
    have l3 := d1_le _ l2
    unfold W at hq
    refine ⟨h.1, l1, l1, fun e => ⟨l2, fun e2 => ⟨l2, l3, ?_⟩, fun e2 => ?_⟩, fun e => ?_⟩
    · rw [e, e2] at hq; exact hq
    · rw [e, e2] at hq; exact hq
    · rw [e] at hq; exact hq
  · exact h.elim
end Go.Proofs.Ytmadbcfocgagpaa
