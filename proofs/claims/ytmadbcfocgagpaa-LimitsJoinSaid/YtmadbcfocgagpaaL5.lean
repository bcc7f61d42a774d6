/-
  scaled, and the laws Within, Parts, Join, Unit.
  Conditions: none.
-/
import Derived.Test.YtmadbcfocgagpaaL4
import Derived.Test.YtmadbcfocgagpaaMb
namespace U
open Go
def scd (l : List (List Int)) (n : Nat) : List (List Int) := (List.range n).map fun j => [el l j % 9 - 4]
theorem scd_succ (l : List (List Int)) (n : Nat) : scd l (n + 1) = scd l n ++ [[el l n % 9 - 4]] := by
  unfold scd
  rw [List.range_succ, List.map_append]
  rfl
theorem scd_length (l : List (List Int)) (n : Nat) : (scd l n).length = n := by simp [scd]
end U
namespace Go.Proofs.Ytmadbcfocgagpaa
open Go Go.HL U
def anSc : LAnn := ⟨[3, 100003, 6, 7, 8], [3, 100003], [], false⟩
def LSc (v : LV) : LR :=
  match v with
  | ([.ce (.sl false [4] acc), .ce (.lit true), .ce (.sl false [4] l), .ce (.int .i64 n), .ce (.int .i64 k)], []) =>
    .det (acc.length = 0 ∧ k = 0 ∧ n = (l.length : Int) ∧ l.length ≤ 1000) (.exit 0) ([.ce (.sl false [4] (scd l l.length)), .ce (.lit true)], [])
  | _ => .fail
def SSc (hargs : List HV) (pars : List (List HC)) : SR :=
  match hargs, pars with
  | [.ce (.sl false [4] l)], [] => .det (l.length ≤ 1000) ⟨.ce (.sl false [4] (scd l l.length)), true, [], []⟩
  | _, _ => .fail
def tabSc : List (FuncId × HL.Spec) := [(18, SMod)]
noncomputable def CSc : Ctx := ⟨Try.prog, gam tabSc, 20, [(3, anSc, LSc)], []⟩
theorem vc15 (l : List (List Int)) (Q : Res → Prop) : (nfun true CSc Try.f15 (bodyOf Try.f15) [.ce (.sl false [4] l)] [] Q) =
    (((0 : Nat) = (0 : Nat) ∧ (0 : Int) = (0 : Int) ∧ (((List.length l) : Nat) : Int) = (((List.length l) : Nat) : Int) ∧ List.length l ≤ (1000 : Nat)) ∧
      Q { val := HV.ce (HC.sl false [(4 : Nat)] (scd l (List.length l))), own := true, pars := [], news := [] }) := by kernel_rfl
theorem vb15 (l acc : List (List Int)) (n k : Int) (K : HEx → LV → Prop) : (nbodyT true CSc anSc (nthLoop Try.f15 0) ([.ce (.sl false [4] acc), .ce (.lit true), .ce (.sl false [4] l), .ce (.int .i64 n), .ce (.int .i64 k)], []) K) =
    ((decide (k < n) = true →
        ((0 : Int) ≤ k ∧ k < (((List.length l) : Nat) : Int)) ∧
          ∀ (x1 : Int),
            x1 = el l (Int.toNat k) →
              ((0 : Int) < (9 : Int) ∧ (9 : Int) ≤ (4611686018427387904 : Int)) ∧
                ((-9223372036854775808 : Int) ≤ x1 % (9 : Int) - (4 : Int) ∧
                    x1 % (9 : Int) - (4 : Int) ≤ (9223372036854775807 : Int)) ∧
                  ∀ (x2 : Int),
                    x2 = x1 % (9 : Int) - (4 : Int) →
                      ((List.length acc + (1 : Nat)) * (8 : Nat) ≤ (140737488355328 : Nat) ∧
                          List.length acc + (1 : Nat) ≤ maxLen) ∧
                        ((-9223372036854775808 : Int) ≤ k + (1 : Int) ∧ k + (1 : Int) ≤ (9223372036854775807 : Int)) ∧
                          ∀ (x3 : Int),
                            x3 = k + (1 : Int) →
                              K HEx.normal
                                ([HV.ce (HC.sl false [(4 : Nat)] (acc ++ [[x2]])), HV.ce (HC.lit true),
                                    HV.ce (HC.sl false [(4 : Nat)] l), HV.ce (HC.int IntKind.i64 n),
                                    HV.ce (HC.int IntKind.i64 x3)],
                                  [])) ∧
      (decide (k < n) = false → K (HEx.exit (0 : Nat)) ([HV.ce (HC.sl false [(4 : Nat)] acc), HV.ce (HC.lit true)], []))) := by kernel_rfl

end Go.Proofs.Ytmadbcfocgagpaa
namespace Go.Proofs.Ytmadbcfocgagpaa
open Go Go.HL U
theorem loopSc : ∀ v Q, (LSc v).wp Q → hloop CSc anSc (nthLoop Try.f15 0) v Q := by
  intro v Q h
  unfold LSc at h
  split at h
  case h_2 => exact h.elim
  rename_i acc l n k
  obtain ⟨⟨h1, h2, h3, h4⟩, hq⟩ := h
  subst h2 h3
  obtain rfl : acc = [] := List.eq_nil_of_length_eq_zero h1
  refine hloop_rec (σ := Nat) (fun j => ([.ce (.sl false [4] (scd l j)), .ce (.lit true), .ce (.sl false [4] l), .ce (.int .i64 (l.length : Int)), .ce (.int .i64 (j : Int))], [])) (fun j => l.length - j) (fun j => j ≤ l.length) ?_ 0 (Nat.zero_le _)
  intro j hj K hn he _
  refine byVB (vb15 l (scd l j) l.length j K) ?_
  refine ⟨fun hlt => ?_, fun hge => ?_⟩
  · have hlt := of_decide_eq_true hlt
    refine ⟨by omega, fun x1 e1 => ⟨by omega, by omega, fun x2 e2 => ⟨by rw [scd_length]; unfold maxLen; omega, by omega, fun x3 e3 => ?_⟩⟩⟩
    have := hn (j + 1) (by omega) (by omega)
    rw [scd_succ] at this
    subst e2 e1
    rw [e3]
    exact this
  · have hge := of_decide_eq_false hge
    obtain rfl : j = l.length := by omega
    exact he _ _ hq

theorem s15 : Sound Try.prog 15 SSc := by
  refine sound_of (C := CSc) tabSc Try.func15 (by kernel_rfl) (by decide +kernel) (by kernel_rfl) rfl ⟨sMod, trivial⟩ (loops1 (by kernel_rfl) (loopOK_of (an := anSc) (S := LSc) (by kernel_rfl) loopSc)) ?_
  intro hargs pars R h
  unfold SSc at h
  split at h
  · exact byVC (vc15 _ R) ⟨⟨rfl, rfl, rfl, h.1⟩, h.2⟩
  · exact h.elim
end Go.Proofs.Ytmadbcfocgagpaa

namespace U
open Go
def df (f : Nat → Int) (j : Nat) : Int := f (j + 1) - f j
def Lim (m : Int) (f : Nat → Int) (n : Nat) : Prop := ∀ j, j < n → -m ≤ f j ∧ f j ≤ m
/-- small numbers -/
def Sm (B : Int) (l : List (List Int)) : Prop := ∀ j, j < l.length → -B ≤ el l j ∧ el l j ≤ B
theorem d1_length (l : List (List Int)) : (d1 l).length = l.length - 1 := by simp [d1, dif]
theorem el_d1 {l : List (List Int)} {B : Int} (hB : Sm B l) (hb : B ≤ 1152921504606846976) {j : Nat} (hj : j < l.length - 1) : el (d1 l) j = el l (j + 1) - el l j := by
  have h1 := hB j (by omega)
  have h2 := hB (j + 1) (by omega)
  have : el (d1 l) j = IntKind.i64.wrap (el l (j + 1) - el l j) := by
    unfold d1 dif
    show ((List.map _ _).getD j []).getD 0 0 = _
    simp [List.getD_eq_getElem?_getD, hj]
  rw [this, wrap_small (by omega) (by omega)]
theorem Sm_d1 {l : List (List Int)} {B : Int} (hB : Sm B l) (hb : B ≤ 1152921504606846976) : Sm (2 * B) (d1 l) := by
  intro j hj
  rw [d1_length] at hj
  rw [el_d1 hB hb hj]
  have h1 := hB j (by omega)
  have h2 := hB (j + 1) (by omega)
  omega
theorem bnd1_iff {l : List (List Int)} {m : Int} (h0 : 0 ≤ m) (h1 : m ≤ 1152921504606846976) : bnd1 l m = true ↔ Lim m (el l) l.length := by
  unfold bnd1 bnd Lim
  rw [allN_iff, wrap_small (by omega) (by omega)]
  refine ⟨fun h j hj => ?_, fun h j hj => ?_⟩
  · have := h j hj
    simp at this
    omega
  · have := h j hj
    simp
    omega
theorem Lim_congr {m : Int} {f g : Nat → Int} {n : Nat} (h : ∀ j, j < n → f j = g j) : Lim m f n ↔ Lim m g n := by
  unfold Lim
  exact ⟨fun k j hj => by rw [← h j hj]; exact k j hj, fun k j hj => by rw [h j hj]; exact k j hj⟩
theorem W_iff {sp ac je : Int} {l : List (List Int)} {B : Int} (hB : Sm B l) (hb : B ≤ 1125899906842624) (h1 : 0 ≤ sp ∧ sp ≤ 1152921504606846976) (h2 : 0 ≤ ac ∧ ac ≤ 1152921504606846976) (h3 : 0 ≤ je ∧ je ≤ 1152921504606846976) :
    W sp ac je l = true ↔ Lim sp (df (el l)) (l.length - 1) ∧ Lim ac (df (df (el l))) (l.length - 2) ∧ Lim je (df (df (df (el l)))) (l.length - 3) := by
  have b1 := Sm_d1 hB (by omega)
  have b2 := Sm_d1 b1 (by omega)
  have e1 : ∀ j, j < l.length - 1 → el (d1 l) j = df (el l) j := fun j hj => el_d1 hB (by omega) hj
  have e2 : ∀ j, j < l.length - 2 → el (d1 (d1 l)) j = df (df (el l)) j := fun j hj => by
    rw [el_d1 b1 (by omega) (by rw [d1_length]; omega), e1 j (by omega), e1 (j + 1) (by omega)]; rfl
  have e3 : ∀ j, j < l.length - 3 → el (d1 (d1 (d1 l))) j = df (df (df (el l))) j := fun j hj => by
    rw [el_d1 b2 (by omega) (by rw [d1_length, d1_length]; omega), e2 j (by omega), e2 (j + 1) (by omega)]; rfl
  unfold W
  rw [Bool.and_eq_true, Bool.and_eq_true, bnd1_iff h1.1 h1.2, bnd1_iff h2.1 h2.2, bnd1_iff h3.1 h3.2]
  have L1 : (d1 l).length = l.length - 1 := d1_length l
  have L2 : (d1 (d1 l)).length = l.length - 2 := by rw [d1_length, d1_length]; omega
  have L3 : (d1 (d1 (d1 l))).length = l.length - 3 := by rw [d1_length, d1_length, d1_length]; omega
  rw [L1, L2, L3, Lim_congr e1, Lim_congr e2, Lim_congr e3]
theorem el_drop (l : List (List Int)) (a j : Nat) : el (l.drop a) j = el l (a + j) := by unfold el; simp [List.getD_eq_getElem?_getD]
theorem el_take {l : List (List Int)} {b j : Nat} (h : j < b) : el (l.take b) j = el l j := by unfold el; simp [List.getD_eq_getElem?_getD, List.getElem?_take, h]
theorem Sm_drop {B : Int} {l : List (List Int)} (h : Sm B l) (a : Nat) : Sm B (l.drop a) := fun j hj => by
  rw [List.length_drop] at hj
  rw [el_drop]; exact h _ (by omega)
theorem Sm_take {B : Int} {l : List (List Int)} (h : Sm B l) (b : Nat) : Sm B (l.take b) := fun j hj => by
  rw [List.length_take] at hj
  rw [el_take (by omega)]; exact h _ (by omega)
theorem el_scd {l : List (List Int)} {n j : Nat} (h : j < n) : el (scd l n) j = el l j % 9 - 4 := by
  unfold scd
  show ((List.map _ _).getD j []).getD 0 0 = _
  simp [List.getD_eq_getElem?_getD, h]
theorem Sm_scd (l : List (List Int)) (n : Nat) : Sm 4 (scd l n) := fun j hj => by
  rw [scd_length] at hj
  rw [el_scd hj]; omega
/-- a part -/
theorem W_part {sp ac je : Int} {l : List (List Int)} {B : Int} (hB : Sm B l) (hb : B ≤ 1125899906842624) (h1 : 0 ≤ sp ∧ sp ≤ 1152921504606846976) (h2 : 0 ≤ ac ∧ ac ≤ 1152921504606846976) (h3 : 0 ≤ je ∧ je ≤ 1152921504606846976)
    (h : W sp ac je l = true) (a b : Nat) : W sp ac je ((l.take b).drop a) = true := by
  rw [W_iff hB hb h1 h2 h3] at h
  rw [W_iff (Sm_drop (Sm_take hB b) a) hb h1 h2 h3]
  obtain ⟨k1, k2, k3⟩ := h
  rw [List.length_drop, List.length_take]
  refine ⟨fun j hj => ?_, fun j hj => ?_, fun j hj => ?_⟩
  · have := k1 (a + j) (by omega)
    unfold df at this ⊢
    simp only [el_drop]
    rw [el_take (by omega), el_take (by omega)]
    rw [show a + (j + 1) = a + j + 1 by omega]; exact this
  · have := k2 (a + j) (by omega)
    unfold df at this ⊢
    simp only [el_drop]
    rw [el_take (by omega), el_take (by omega), el_take (by omega)]
    rw [show a + (j + 1) = a + j + 1 by omega, show a + (j + 1 + 1) = a + j + 1 + 1 by omega]; exact this
  · have := k3 (a + j) (by omega)
    unfold df at this ⊢
    simp only [el_drop]
    rw [el_take (by omega), el_take (by omega), el_take (by omega), el_take (by omega)]
    rw [show a + (j + 1) = a + j + 1 by omega, show a + (j + 1 + 1) = a + j + 1 + 1 by omega, show a + (j + 1 + 1 + 1) = a + j + 1 + 1 + 1 by omega]; exact this
/-- two parts that overlap by three -/
theorem W_join {sp ac je : Int} {l : List (List Int)} {B : Int} (hB : Sm B l) (hb : B ≤ 1125899906842624) (h1 : 0 ≤ sp ∧ sp ≤ 1152921504606846976) (h2 : 0 ≤ ac ∧ ac ≤ 1152921504606846976) (h3 : 0 ≤ je ∧ je ≤ 1152921504606846976)
    {k : Nat} (p : W sp ac je (l.take (k + 3)) = true) (q : W sp ac je (l.drop k) = true) : W sp ac je l = true := by
  rw [W_iff (Sm_take hB _) hb h1 h2 h3] at p
  rw [W_iff (Sm_drop hB _) hb h1 h2 h3] at q
  rw [W_iff hB hb h1 h2 h3]
  obtain ⟨p1, p2, p3⟩ := p
  obtain ⟨q1, q2, q3⟩ := q
  rw [List.length_take] at p1 p2 p3
  rw [List.length_drop] at q1 q2 q3
  refine ⟨fun j hj => ?_, fun j hj => ?_, fun j hj => ?_⟩
  · by_cases hk : j < k
    · have := p1 j (by omega)
      unfold df at this ⊢
      rw [el_take (by omega), el_take (by omega)] at this
      exact this
    · have := q1 (j - k) (by omega)
      unfold df at this ⊢
      simp only [el_drop] at this
      rw [show k + (j - k + 1) = j + 1 by omega, show k + (j - k) = j by omega] at this
      exact this
  · by_cases hk : j < k
    · have := p2 j (by omega)
      unfold df at this ⊢
      rw [el_take (by omega), el_take (by omega), el_take (by omega)] at this
      exact this
    · have := q2 (j - k) (by omega)
      unfold df at this ⊢
      simp only [el_drop] at this
      rw [show k + (j - k + 1 + 1) = j + 1 + 1 by omega, show k + (j - k + 1) = j + 1 by omega, show k + (j - k) = j by omega] at this
      exact this
  · by_cases hk : j < k
    · have := p3 j (by omega)
      unfold df at this ⊢
      rw [el_take (by omega), el_take (by omega), el_take (by omega), el_take (by omega)] at this
      exact this
    · have := q3 (j - k) (by omega)
      unfold df at this ⊢
      simp only [el_drop] at this
      rw [show k + (j - k + 1 + 1 + 1) = j + 1 + 1 + 1 by omega, show k + (j - k + 1 + 1) = j + 1 + 1 by omega, show k + (j - k + 1) = j + 1 by omega, show k + (j - k) = j by omega] at this
      exact this
/-- each number is at most one away from the one before it -/
def Stp (p : List (List Int)) : Prop := el p 0 = 0 ∧ ∀ j, j + 1 < p.length → -1 ≤ el p (j + 1) - el p j ∧ el p (j + 1) - el p j ≤ 1
theorem Stp_Sm {p : List (List Int)} (h : Stp p) (hl : p.length ≤ 1000) : Sm 1000 p := by
  have : ∀ j, j < p.length → -(j : Int) ≤ el p j ∧ el p j ≤ j := by
    intro j
    induction j with
    | zero => intro _; rw [h.1]; omega
    | succ j ih => intro hj; have := ih (by omega); have := h.2 j hj; omega
  intro j hj
  have := this j hj
  omega
theorem W_steps {sp ac je : Int} {p : List (List Int)} (h : Stp p) (hl : p.length ≤ 1000) (h1 : 1 ≤ sp ∧ sp ≤ 1152921504606846976) (h2 : 2 ≤ ac ∧ ac ≤ 1152921504606846976) (h3 : 4 ≤ je ∧ je ≤ 1152921504606846976) : W sp ac je p = true := by
  rw [W_iff (Stp_Sm h hl) (by omega) (by omega) (by omega) (by omega)]
  refine ⟨fun j hj => ?_, fun j hj => ?_, fun j hj => ?_⟩
  · have := h.2 j (by omega)
    unfold df; omega
  · have := h.2 j (by omega)
    have := h.2 (j + 1) (by omega)
    unfold df; omega
  · have := h.2 j (by omega)
    have := h.2 (j + 1) (by omega)
    have := h.2 (j + 1 + 1) (by omega)
    unfold df; omega
end U
