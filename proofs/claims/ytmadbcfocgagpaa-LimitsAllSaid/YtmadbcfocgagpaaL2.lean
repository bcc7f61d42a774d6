/-
  few, bounded, most, SameInts: what the loops and the functions come to.
  Conditions: none.
-/
import Derived.Test.YtmadbcfocgagpaaL1
namespace U
open Go
/-- no element before place n is greater than m or less than -m -/
def bnd (l : List (List Int)) (m : Int) (n : Nat) : Bool := allN n fun j => !(decide (el l j > m) || decide (el l j < IntKind.i64.wrap (0 - m)))
def few1 (l : List (List Int)) (n : Nat) : Bool := allN n fun j => !(decide (el l j > 1099511627776) || decide (el l j < -1099511627776))
def few (l : List (List Int)) : Bool := decide (l.length ≤ 100) && few1 l l.length
def same1 (a b : List (List Int)) (n : Nat) : Bool := allN n fun j => decide (el a j = el b j)
def same (a b : List (List Int)) : Bool := decide (a.length = b.length) && same1 a b a.length
end U
namespace Go.Proofs.Ytmadbcfocgagpaa
open Go Go.HL U

def anB : LAnn := ⟨[1, 4, 7, 8, 9], [4], [], false⟩
def LB (v : LV) : LR :=
  match v with
  | ([.ce (.int .i64 m), .ce (.bool r), .ce (.sl false [4] l), .ce (.int .i64 n), .ce (.int .i64 k)], []) =>
    .alts (k = 0 ∧ n = (l.length : Int) ∧ l.length ≤ 1000)
      [(bnd l m l.length = true, .exit 0, ([.ce (.bool r)], [])),
       (bnd l m l.length = false, .ret, ([.ce (.bool false)], []))]
  | _ => .fail
def SB (hargs : List HV) (pars : List (List HC)) : SR :=
  match hargs, pars with
  | [.ce (.sl false [4] l), .ce (.int .i64 m)], [] => .det (l.length ≤ 1000) ⟨.ce (.bool (bnd l m l.length)), false, [], []⟩
  | _, _ => .fail
noncomputable def CB : Ctx := ⟨Try.prog, gam [], 23, [(2, anB, LB)], []⟩
theorem vc23 (l : List (List Int)) (m : Int) (Q : Res → Prop) : (hfun CB Try.f23 (bodyOf Try.f23) [.ce (.sl false [4] l), .ce (.int .i64 m)] [] Q) =
    (((0 : Int) = (0 : Int) ∧ (((List.length l) : Nat) : Int) = (((List.length l) : Nat) : Int) ∧ List.length l ≤ (1000 : Nat)) ∧
      (bnd l m (List.length l) = true → Q { val := HV.ce (HC.bool true), own := false, pars := [], news := [] }) ∧
        (bnd l m (List.length l) = false → Q { val := HV.ce (HC.bool false), own := false, pars := [], news := [] })) := by kernel_rfl
theorem vb23 (l : List (List Int)) (m n k : Int) (r : Bool) (K : HEx → LV → Prop) : (bodyT CB anB (nthLoop Try.f23 0) ([.ce (.int .i64 m), .ce (.bool r), .ce (.sl false [4] l), .ce (.int .i64 n), .ce (.int .i64 k)], []) K) =
    ((decide (k < n) = true →
        ((0 : Int) ≤ k ∧ k < (((List.length l) : Nat) : Int)) ∧
          (decide (el l (Int.toNat k) > m) = true → K HEx.ret ([HV.ce (HC.bool false)], [])) ∧
            (decide (el l (Int.toNat k) > m) = false →
              (decide (el l (Int.toNat k) < IntKind.wrap IntKind.i64 ((0 : Int) - m)) = true →
                  K HEx.ret ([HV.ce (HC.bool false)], [])) ∧
                (decide (el l (Int.toNat k) < IntKind.wrap IntKind.i64 ((0 : Int) - m)) = false →
                  K HEx.normal
                    ([HV.ce (HC.int IntKind.i64 m), HV.ce (HC.bool r), HV.ce (HC.sl false [(4 : Nat)] l),
                        HV.ce (HC.int IntKind.i64 n),
                        HV.ce (HC.int IntKind.i64 (IntKind.wrap IntKind.i64 (k + (1 : Int))))],
                      [])))) ∧
      (decide (k < n) = false → K (HEx.exit (0 : Nat)) ([HV.ce (HC.bool r)], []))) := by kernel_rfl
theorem vc24 (l : List (List Int)) (m : Int) (Q : Res → Prop) : (hfun CB Try.f24 (bodyOf Try.f24) [.ce (.sl false [4] l), .ce (.int .i64 m)] [] Q) =
    (((0 : Int) = (0 : Int) ∧ (((List.length l) : Nat) : Int) = (((List.length l) : Nat) : Int) ∧ List.length l ≤ (1000 : Nat)) ∧
      (bnd l m (List.length l) = true → Q { val := HV.ce (HC.bool true), own := false, pars := [], news := [] }) ∧
        (bnd l m (List.length l) = false → Q { val := HV.ce (HC.bool false), own := false, pars := [], news := [] })) := by kernel_rfl
theorem vb24 (l : List (List Int)) (m n k : Int) (r : Bool) (K : HEx → LV → Prop) : (bodyT CB anB (nthLoop Try.f24 0) ([.ce (.int .i64 m), .ce (.bool r), .ce (.sl false [4] l), .ce (.int .i64 n), .ce (.int .i64 k)], []) K) =
    ((decide (k < n) = true →
        ((0 : Int) ≤ k ∧ k < (((List.length l) : Nat) : Int)) ∧
          (decide (el l (Int.toNat k) > m) = true → K HEx.ret ([HV.ce (HC.bool false)], [])) ∧
            (decide (el l (Int.toNat k) > m) = false →
              (decide (el l (Int.toNat k) < IntKind.wrap IntKind.i64 ((0 : Int) - m)) = true →
                  K HEx.ret ([HV.ce (HC.bool false)], [])) ∧
                (decide (el l (Int.toNat k) < IntKind.wrap IntKind.i64 ((0 : Int) - m)) = false →
                  K HEx.normal
                    ([HV.ce (HC.int IntKind.i64 m), HV.ce (HC.bool r), HV.ce (HC.sl false [(4 : Nat)] l),
                        HV.ce (HC.int IntKind.i64 n),
                        HV.ce (HC.int IntKind.i64 (IntKind.wrap IntKind.i64 (k + (1 : Int))))],
                      [])))) ∧
      (decide (k < n) = false → K (HEx.exit (0 : Nat)) ([HV.ce (HC.bool r)], []))) := by kernel_rfl

def anF : LAnn := ⟨[2, 8, 9, 10], [2], [], false⟩
def LF (v : LV) : LR :=
  match v with
  | ([.ce (.bool r), .ce (.sl false [4] l), .ce (.int .i64 n), .ce (.int .i64 k)], []) =>
    .alts (k = 0 ∧ n = (l.length : Int) ∧ l.length ≤ 100)
      [(few1 l l.length = true, .exit 0, ([.ce (.bool r)], [])),
       (few1 l l.length = false, .ret, ([.ce (.bool false)], []))]
  | _ => .fail
def SF (hargs : List HV) (pars : List (List HC)) : SR :=
  match hargs, pars with
  | [.ce (.sl false [4] l)], [] => .det True ⟨.ce (.bool (few l)), false, [], []⟩
  | _, _ => .fail
noncomputable def CF : Ctx := ⟨Try.prog, gam [], 21, [(4, anF, LF)], []⟩
theorem vc10 (l : List (List Int)) (Q : Res → Prop) : (hfun CF Try.f10 (bodyOf Try.f10) [.ce (.sl false [4] l)] [] Q) =
    ((decide ((((List.length l) : Nat) : Int) > (100 : Int)) = true →
        Q { val := HV.ce (HC.bool false), own := false, pars := [], news := [] }) ∧
      (decide ((((List.length l) : Nat) : Int) > (100 : Int)) = false →
        ((0 : Int) = (0 : Int) ∧ (((List.length l) : Nat) : Int) = (((List.length l) : Nat) : Int) ∧ List.length l ≤ (100 : Nat)) ∧
          (few1 l (List.length l) = true → Q { val := HV.ce (HC.bool true), own := false, pars := [], news := [] }) ∧
            (few1 l (List.length l) = false → Q { val := HV.ce (HC.bool false), own := false, pars := [], news := [] }))) := by kernel_rfl
theorem vb10 (l : List (List Int)) (n k : Int) (r : Bool) (K : HEx → LV → Prop) : (bodyT CF anF (nthLoop Try.f10 0) ([.ce (.bool r), .ce (.sl false [4] l), .ce (.int .i64 n), .ce (.int .i64 k)], []) K) =
    ((decide (k < n) = true →
        ((0 : Int) ≤ k ∧ k < (((List.length l) : Nat) : Int)) ∧
          (decide (el l (Int.toNat k) > (1099511627776 : Int)) = true → K HEx.ret ([HV.ce (HC.bool false)], [])) ∧
            (decide (el l (Int.toNat k) > (1099511627776 : Int)) = false →
              (decide (el l (Int.toNat k) < (-1099511627776 : Int)) = true → K HEx.ret ([HV.ce (HC.bool false)], [])) ∧
                (decide (el l (Int.toNat k) < (-1099511627776 : Int)) = false →
                  K HEx.normal
                    ([HV.ce (HC.bool r), HV.ce (HC.sl false [(4 : Nat)] l), HV.ce (HC.int IntKind.i64 n),
                        HV.ce (HC.int IntKind.i64 (IntKind.wrap IntKind.i64 (k + (1 : Int))))],
                      [])))) ∧
      (decide (k < n) = false → K (HEx.exit (0 : Nat)) ([HV.ce (HC.bool r)], []))) := by kernel_rfl

def anS : LAnn := ⟨[0, 1, 4, 12, 13], [4], [], false⟩
def LS (v : LV) : LR :=
  match v with
  | ([.ce (.sl false [4] a), .ce (.sl false [4] b), .ce (.bool r), .ce (.int .i64 n), .ce (.int .i64 k)], []) =>
    .alts (k = 0 ∧ n = (a.length : Int) ∧ a.length ≤ 1000 ∧ a.length = b.length)
      [(same1 a b a.length = true, .exit 0, ([.ce (.bool r)], [])),
       (same1 a b a.length = false, .ret, ([.ce (.bool false)], []))]
  | _ => .fail
def SS (hargs : List HV) (pars : List (List HC)) : SR :=
  match hargs, pars with
  | [.ce (.sl false [4] a), .ce (.sl false [4] b)], [] => .det (a.length ≤ 1000 ∧ b.length ≤ 1000) ⟨.ce (.bool (same a b)), false, [], []⟩
  | _, _ => .fail
noncomputable def CS : Ctx := ⟨Try.prog, gam [], 26, [(4, anS, LS)], []⟩
theorem vc11 (a b : List (List Int)) (Q : Res → Prop) : (hfun CS Try.f11 (bodyOf Try.f11) [.ce (.sl false [4] a), .ce (.sl false [4] b)] [] Q) =
    ((((((List.length a) : Nat) : Int) != (((List.length b) : Nat) : Int)) = true →
        Q { val := HV.ce (HC.bool false), own := false, pars := [], news := [] }) ∧
      (((((List.length a) : Nat) : Int) != (((List.length b) : Nat) : Int)) = false →
        ((0 : Int) = (0 : Int) ∧
            (((List.length a) : Nat) : Int) = (((List.length a) : Nat) : Int) ∧ List.length a ≤ (1000 : Nat) ∧ List.length a = List.length b) ∧
          (same1 a b (List.length a) = true → Q { val := HV.ce (HC.bool true), own := false, pars := [], news := [] }) ∧
            (same1 a b (List.length a) = false → Q { val := HV.ce (HC.bool false), own := false, pars := [], news := [] }))) := by kernel_rfl
theorem vb11 (a b : List (List Int)) (n k : Int) (r : Bool) (K : HEx → LV → Prop) : (bodyT CS anS (nthLoop Try.f11 0) ([.ce (.sl false [4] a), .ce (.sl false [4] b), .ce (.bool r), .ce (.int .i64 n), .ce (.int .i64 k)], []) K) =
    ((decide (k < n) = true →
        ((0 : Int) ≤ k ∧ k < (((List.length a) : Nat) : Int)) ∧
          ((0 : Int) ≤ k ∧ k < (((List.length b) : Nat) : Int)) ∧
            ((el a (Int.toNat k) != el b (Int.toNat k)) = true → K HEx.ret ([HV.ce (HC.bool false)], [])) ∧
              ((el a (Int.toNat k) != el b (Int.toNat k)) = false →
                K HEx.normal
                  ([HV.ce (HC.sl false [(4 : Nat)] a), HV.ce (HC.sl false [(4 : Nat)] b), HV.ce (HC.bool r),
                      HV.ce (HC.int IntKind.i64 n), HV.ce (HC.int IntKind.i64 (IntKind.wrap IntKind.i64 (k + (1 : Int))))],
                    []))) ∧
      (decide (k < n) = false → K (HEx.exit (0 : Nat)) ([HV.ce (HC.bool r)], []))) := by kernel_rfl

theorem wrap_succ {j n : Nat} (h : j ≤ n) (hn : n ≤ 100000) : IntKind.i64.wrap ((j : Int) + 1) = ((j + 1 : Nat) : Int) := by rw [wrap_small] <;> omega

theorem loopB {c : Code} (hb : ∀ (l : List (List Int)) (m n k : Int) (r : Bool) (K : HEx → LV → Prop), bodyT CB anB c ([.ce (.int .i64 m), .ce (.bool r), .ce (.sl false [4] l), .ce (.int .i64 n), .ce (.int .i64 k)], []) K =
    bodyT CB anB (nthLoop Try.f23 0) ([.ce (.int .i64 m), .ce (.bool r), .ce (.sl false [4] l), .ce (.int .i64 n), .ce (.int .i64 k)], []) K) : ∀ v Q, (LB v).wp Q → hloop CB anB c v Q := by
  intro v Q h
  unfold LB at h
  split at h
  case h_2 => exact h.elim
  rename_i m r l n k
  obtain ⟨⟨h1, h2, h3⟩, hq1, hq2⟩ := h
  subst h1; subst h2
  refine hloop_rec (σ := Nat) (fun j => ([.ce (.int .i64 m), .ce (.bool r), .ce (.sl false [4] l), .ce (.int .i64 (l.length : Int)), .ce (.int .i64 (j : Int))], [])) (fun j => l.length - j) (fun j => j ≤ l.length ∧ bnd l m j = true) ?_ 0 ⟨Nat.zero_le _, rfl⟩
  intro j ⟨hj, hp⟩ K hn he hr
  rw [hb, vb23]
  have bad : j < l.length → (decide (el l j > m) || decide (el l j < IntKind.i64.wrap (0 - m))) = true → K .ret ([.ce (.bool false)], []) := fun hlt hx =>
    hr _ (hq2 (allN_false hlt (by show (!(_ || _)) = false; rw [hx]; rfl)))
  refine ⟨fun hlt => ?_, fun hge => ?_⟩
  · have hlt : j < l.length := Int.ofNat_lt.1 (of_decide_eq_true hlt)
    refine ⟨⟨by omega, by omega⟩, fun hx => bad hlt (by unfold el; rw [show decide ((l.getD j []).getD 0 0 > m) = true from hx]; rfl), fun hx => ⟨fun hy => bad hlt (by unfold el; rw [show decide ((l.getD j []).getD 0 0 < IntKind.i64.wrap (0 - m)) = true from hy]; simp), fun hy => ?_⟩⟩
    have := hn (j + 1) ⟨by omega, by
      unfold bnd at hp ⊢
      rw [allN_succ, hp]
      show (true && !(_ || _)) = true
      rw [show decide (el l j > m) = false from hx, show decide (el l j < IntKind.i64.wrap (0 - m)) = false from hy]
      rfl⟩ (by omega)
    rw [wrap_succ hj (by omega)]
    exact this
  · have hge : ¬ (j : Int) < l.length := of_decide_eq_false hge
    have : j = l.length := by omega
    subst this
    exact he _ _ (hq1 hp)

theorem fnB {f : FuncId} {fn : Func} (hv : ∀ (l : List (List Int)) (m : Int) (Q : Res → Prop), hfun CB fn (bodyOf fn) [.ce (.sl false [4] l), .ce (.int .i64 m)] [] Q = hfun CB Try.f23 (bodyOf Try.f23) [.ce (.sl false [4] l), .ce (.int .i64 m)] [] Q) :
    ∀ hargs pars R, (SB hargs pars).wp R → hfun CB fn (bodyOf fn) hargs pars R := by
  intro hargs pars R h
  unfold SB at h
  split at h
  · rename_i l m
    rw [hv, vc23]
    have hq := h.2
    exact ⟨⟨rfl, rfl, h.1⟩, fun e => by rw [e] at hq; exact hq, fun e => by rw [e] at hq; exact hq⟩
  · exact h.elim

theorem s23 : Sound Try.prog 23 SB :=
  sound_of (C := CB) [] Try.func23 (by kernel_rfl) (by decide +kernel) (by kernel_rfl) rfl trivial (loops1 (by kernel_rfl) (loopOK_of (an := anB) (S := LB) (by kernel_rfl) (loopB fun _ _ _ _ _ _ => rfl))) (fnB (f := 23) fun _ _ _ => rfl)

theorem s24 : Sound Try.prog 24 SB :=
  sound_of (C := CB) [] Try.func24 (by kernel_rfl) (by decide +kernel) (by kernel_rfl) rfl trivial (loops1 (by kernel_rfl) (loopOK_of (an := anB) (S := LB) (by kernel_rfl) (loopB fun _ _ _ _ _ _ => by rw [vb23, vb24]))) (fnB (f := 24) fun _ _ _ => by rw [vc23, vc24])

theorem loopF : ∀ v Q, (LF v).wp Q → hloop CF anF (nthLoop Try.f10 0) v Q := by
  intro v Q h
  unfold LF at h
  split at h
  case h_2 => exact h.elim
  rename_i r l n k
  obtain ⟨⟨h1, h2, h3⟩, hq1, hq2⟩ := h
  subst h1; subst h2
  refine hloop_rec (σ := Nat) (fun j => ([.ce (.bool r), .ce (.sl false [4] l), .ce (.int .i64 (l.length : Int)), .ce (.int .i64 (j : Int))], [])) (fun j => l.length - j) (fun j => j ≤ l.length ∧ few1 l j = true) ?_ 0 ⟨Nat.zero_le _, rfl⟩
  intro j ⟨hj, hp⟩ K hn he hr
  rw [vb10]
  have bad : j < l.length → (decide (el l j > 1099511627776) || decide (el l j < -1099511627776)) = true → K .ret ([.ce (.bool false)], []) := fun hlt hx =>
    hr _ (hq2 (allN_false hlt (by show (!(_ || _)) = false; rw [hx]; rfl)))
  refine ⟨fun hlt => ?_, fun hge => ?_⟩
  · have hlt : j < l.length := Int.ofNat_lt.1 (of_decide_eq_true hlt)
    refine ⟨⟨by omega, by omega⟩, fun hx => bad hlt (by unfold el; rw [show decide ((l.getD j []).getD 0 0 > 1099511627776) = true from hx]; rfl), fun hx => ⟨fun hy => bad hlt (by unfold el; rw [show decide ((l.getD j []).getD 0 0 < -1099511627776) = true from hy]; simp), fun hy => ?_⟩⟩
    have := hn (j + 1) ⟨by omega, by
      unfold few1 at hp ⊢
      rw [allN_succ, hp]
      show (true && !(_ || _)) = true
      rw [show decide (el l j > 1099511627776) = false from hx, show decide (el l j < -1099511627776) = false from hy]
      rfl⟩ (by omega)
    rw [wrap_succ hj (by omega)]
    exact this
  · have hge : ¬ (j : Int) < l.length := of_decide_eq_false hge
    have : j = l.length := by omega
    subst this
    exact he _ _ (hq1 hp)

theorem s10 : Sound Try.prog 10 SF := by
  refine sound_of (C := CF) [] Try.func10 (by kernel_rfl) (by decide +kernel) (by kernel_rfl) rfl trivial (loops1 (by kernel_rfl) (loopOK_of (an := anF) (S := LF) (by kernel_rfl) loopF)) ?_
  intro hargs pars R h
  unfold SF at h
  split at h
  · rename_i l
    rw [vc10]
    have hq := h.2
    unfold few at hq
    refine ⟨fun e => ?_, fun e => ?_⟩
    · have : ¬ l.length ≤ 100 := by have := of_decide_eq_true e; omega
      simpa [this] using hq
    · have h100 : l.length ≤ 100 := by have := of_decide_eq_false e; omega
      refine ⟨⟨rfl, rfl, h100⟩, fun e => ?_, fun e => ?_⟩
      · simpa [h100, e] using hq
      · simpa [h100, e] using hq
  · exact h.elim

theorem loopS : ∀ v Q, (LS v).wp Q → hloop CS anS (nthLoop Try.f11 0) v Q := by
  intro v Q h
  unfold LS at h
  split at h
  case h_2 => exact h.elim
  rename_i a b r n k
  obtain ⟨⟨h1, h2, h3, h4⟩, hq1, hq2⟩ := h
  subst h1; subst h2
  refine hloop_rec (σ := Nat) (fun j => ([.ce (.sl false [4] a), .ce (.sl false [4] b), .ce (.bool r), .ce (.int .i64 (a.length : Int)), .ce (.int .i64 (j : Int))], [])) (fun j => a.length - j) (fun j => j ≤ a.length ∧ same1 a b j = true) ?_ 0 ⟨Nat.zero_le _, rfl⟩
  intro j ⟨hj, hp⟩ K hn he hr
  rw [vb11]
  refine ⟨fun hlt => ?_, fun hge => ?_⟩
  · have hlt : j < a.length := Int.ofNat_lt.1 (of_decide_eq_true hlt)
    refine ⟨⟨by omega, by omega⟩, ⟨by omega, by omega⟩, fun hx => hr _ (hq2 (allN_false hlt (decide_eq_false (bne_iff_ne.1 hx)))), fun hx => ?_⟩
    have := hn (j + 1) ⟨by omega, by
      unfold same1 at hp ⊢
      rw [allN_succ, hp]
      have : el a j = el b j := by
        have h := hx
        simp only [bne_eq_false_iff_eq] at h
        exact h
      simp [this]⟩ (by omega)
    rw [wrap_succ hj (by omega)]
    exact this
  · have hge : ¬ (j : Int) < a.length := of_decide_eq_false hge
    have : j = a.length := by omega
    subst this
    exact he _ _ (hq1 hp)

theorem s11 : Sound Try.prog 11 SS := by
  refine sound_of (C := CS) [] Try.func11 (by kernel_rfl) (by decide +kernel) (by kernel_rfl) rfl trivial (loops1 (by kernel_rfl) (loopOK_of (an := anS) (S := LS) (by kernel_rfl) loopS)) ?_
  intro hargs pars R h
  unfold SS at h
  split at h
  · rename_i a b
    rw [vc11]
    have hq := h.2
    unfold same at hq
    refine ⟨fun e => ?_, fun e => ?_⟩
    · have : ¬ a.length = b.length := fun e2 => by rw [e2] at e; simp at e
      simpa [this] using hq
    · have hl : a.length = b.length := by
        have : (a.length : Int) = b.length := by simpa using e
        omega
      refine ⟨⟨rfl, rfl, h.1.1, hl⟩, fun e => ?_, fun e => ?_⟩
      · rw [show decide (a.length = b.length) = true from decide_eq_true hl, e] at hq; exact hq
      · rw [show decide (a.length = b.length) = true from decide_eq_true hl, e] at hq; exact hq
  · exact h.elim
end Go.Proofs.Ytmadbcfocgagpaa
