/-
  Package modal: the order of an accepted block's values does not matter.
  Conditions: none.
-/
import Derived.Test.YtcfgklmpfkmdkaaM11
namespace Go.Proofs.Ytcfgklmpfkmdkaa
open Go Go.HL U
def pr (l : List (List Int)) : List (Int × Int) := l.map fun r => (lt r, nm r)
def clq (q : Int × Int) : Bool := q.1 == 71 || q.1 == 77
def badq (q : Int × Int) : Bool := !(decide (65 ≤ q.1 ∧ q.1 ≤ 90) && vl q.2)
def gq (q : Int × Int) : Int := grp q.1 (wv q.2)
def okq (q : Int × Int) : Prop := badq q = false ∧ (clq q = true → isw q.2 = true ∧ gq q ≠ 0)
def keyq (q : Int × Int) : Int := if clq q = true then 1000 + gq q else q.1
def dq (a b : Int × Int) : Prop := keyq a ≠ keyq b
theorem okq_lo {q : Int × Int} (h : okq q) : 65 ≤ q.1 ∧ q.1 ≤ 90 := by
  have h := h.1
  unfold badq at h
  have h : (decide (65 ≤ q.1 ∧ q.1 ≤ 90) && vl q.2) = true := by simpa using h
  rw [Bool.and_eq_true] at h
  exact of_decide_eq_true h.1
theorem key_c {q : Int × Int} (h : clq q = true) : keyq q = 1000 + gq q := by unfold keyq; rw [if_pos h]
theorem key_n {q : Int × Int} (h : clq q = false) : keyq q = q.1 := by unfold keyq; rw [if_neg (by rw [h]; decide)]
theorem gq_bd (q : Int × Int) : 0 ≤ gq q ∧ gq q ≤ 25 := grp_bd _ _
theorem cl_of {q : Int × Int} (h : 1 ≤ gq q) : clq q = true := by
  unfold clq
  rcases grp_letter (g := gq q) rfl h with ⟨a, _, _⟩ | ⟨a, _, _⟩ <;> rw [a] <;> rfl
theorem fndB_iff (c : Int) : ∀ p : List (List Int), fndB c p = true ↔ ∃ s ∈ pr p, s.1 = c
  | [] => ⟨fun h => (by cases h), fun ⟨s, h, _⟩ => (by cases h)⟩
  | r :: p => by
    rw [(fnd_cons c r p).2]
    unfold pr
    rw [List.map_cons]
    by_cases k : lt r = c
    · rw [if_pos k]; exact ⟨fun _ => ⟨_, List.mem_cons_self, k⟩, fun _ => rfl⟩
    · rw [if_neg k, fndB_iff c p]
      constructor
      · rintro ⟨s, h, e⟩; exact ⟨s, List.mem_cons_of_mem _ h, e⟩
      · rintro ⟨s, h, e⟩
        rcases List.mem_cons.1 h with rfl | h
        · exact absurd e k
        · exact ⟨s, h, e⟩
theorem fdg_iff (g : Int) : ∀ p : List (List Int), fdg g p = true ↔ ∃ s ∈ pr p, isw s.2 = true ∧ gq s = g
  | [] => ⟨fun h => (by cases h), fun ⟨s, h, _⟩ => (by cases h)⟩
  | r :: p => by
    rw [fdg_c, Bool.or_eq_true, fdg_iff g p]
    unfold pr
    rw [List.map_cons]
    constructor
    · rintro (h | ⟨s, h, e⟩)
      · unfold mch at h
        rw [Bool.and_eq_true] at h
        exact ⟨_, List.mem_cons_self, h.1, eq_of_beq h.2⟩
      · exact ⟨s, List.mem_cons_of_mem _ h, e⟩
    · rintro ⟨s, h, e1, e2⟩
      rcases List.mem_cons.1 h with rfl | h
      · left
        unfold mch
        rw [Bool.and_eq_true]
        exact ⟨e1, beq_iff_eq.2 (show grp (lt r) (wv (nm r)) = g from e2)⟩
      · exact .inr ⟨s, h, e1, e2⟩
theorem stepIff {q : Int × Int} {L P : List (Int × Int)} (hq : okq q) (hn : ∀ s ∈ P, keyq s ≠ keyq q) :
    ((∀ x ∈ L, okq x) ∧ (∀ x ∈ L, ∀ s ∈ P ++ [q], keyq s ≠ keyq x) ∧ L.Pairwise dq) ↔ ((∀ x ∈ q :: L, okq x) ∧ (∀ x ∈ q :: L, ∀ s ∈ P, keyq s ≠ keyq x) ∧ (q :: L).Pairwise dq) := by
  constructor
  · rintro ⟨a, b, c⟩
    exact ⟨List.forall_mem_cons.2 ⟨hq, a⟩, List.forall_mem_cons.2 ⟨hn, fun x hx s hs => b x hx s (List.mem_append_left _ hs)⟩, List.pairwise_cons.2 ⟨fun x hx => b x hx q (by simp), c⟩⟩
  · rintro ⟨a, b, c⟩
    rw [List.forall_mem_cons] at a b
    rw [List.pairwise_cons] at c
    refine ⟨a.2, fun x hx s hs => ?_, c.2⟩
    rcases List.mem_append.1 hs with hs | hs
    · exact b.2 x hx s hs
    · obtain rfl := List.mem_singleton.1 hs
      exact c.1 x hx
theorem rchk_iff : ∀ (l p : List (List Int)), (∀ q ∈ pr p, okq q) → (rchk p l = 0 ↔ (∀ q ∈ pr l, okq q) ∧ (∀ q ∈ pr l, ∀ s ∈ pr p, keyq s ≠ keyq q) ∧ (pr l).Pairwise dq)
  | [], p, hp => ⟨fun _ => ⟨fun q h => (by cases h), fun q h => (by cases h), List.Pairwise.nil⟩, fun _ => rfl⟩
  | r :: l, p, hp => by
    have hpr : pr (r :: l) = (lt r, nm r) :: pr l := rfl
    have hpa : pr (p ++ [r]) = pr p ++ [(lt r, nm r)] := by unfold pr; rw [List.map_append]; rfl
    rw [hpr]
    generalize hq : ((lt r, nm r) : Int × Int) = q at *
    have hqc : cl r = clq q := by rw [← hq]; rfl
    have hqb : bad r = badq q := by rw [← hq]; rfl
    have hqw : isw (nm r) = isw q.2 := by rw [← hq]
    have hqg : grp (lt r) (wv (nm r)) = gq q := by rw [← hq]; rfl
    have hql : lt r = q.1 := by rw [← hq]
    rw [show rchk p (r :: l) = (if bad r then 1 else
      if !cl r then (if fndB (lt r) p then 7 else rchk (p ++ [r]) l) else
      if !isw (nm r) || (grp (lt r) (wv (nm r)) == 0) then 6 else
      if decide (gof (grp (lt r) (wv (nm r))) p ≥ 0) then 8 else rchk (p ++ [r]) l) from rfl, hqb, hqc, hqw, hqg, hql]
    cases hb : badq q with
    | true =>
      rw [if_pos rfl]
      refine ⟨fun h => (by cases h), fun h => ?_⟩
      have := (List.forall_mem_cons.1 h.1).1.1
      rw [hb] at this; cases this
    | false =>
      rw [if_neg (by decide)]
      cases hc : clq q with
      | false =>
        have ok : okq q := ⟨hb, fun h => by rw [hc] at h; cases h⟩
        have hlo := okq_lo ok
        rw [if_pos (show (!false) = true from rfl)]
        have key : ∀ s ∈ pr p, (keyq s = keyq q ↔ s.1 = q.1) := by
          intro s hs
          rw [key_n hc]
          cases hsc : clq s with
          | true =>
            rw [key_c hsc]
            have := gq_bd s
            refine ⟨fun h => by omega, fun h => ?_⟩
            unfold clq at hsc hc
            rw [h, hc] at hsc; cases hsc
          | false => rw [key_n hsc]
        cases hf : fndB q.1 p with
        | true =>
          rw [if_pos rfl]
          refine ⟨fun h => (by cases h), fun h => ?_⟩
          obtain ⟨s, hs, e⟩ := (fndB_iff _ _).1 hf
          exact absurd ((key s hs).2 e) ((List.forall_mem_cons.1 h.2.1).1 s hs)
        | false =>
          have hn : ∀ s ∈ pr p, keyq s ≠ keyq q := fun s hs e => by
            have := (fndB_iff q.1 p).2 ⟨s, hs, (key s hs).1 e⟩
            rw [hf] at this; cases this
          rw [if_neg (by decide), rchk_iff l (p ++ [r]) (by
            rw [hpa]; intro x hx
            rcases List.mem_append.1 hx with hx | hx
            · exact hp x hx
            · obtain rfl := List.mem_singleton.1 hx; exact ok), hpa]
          exact stepIff ok hn
      | true =>
        rw [if_neg (by decide)]
        cases hw : (!isw q.2 || (gq q == 0)) with
        | true =>
          rw [if_pos rfl]
          refine ⟨fun h => (by cases h), fun h => ?_⟩
          have := (List.forall_mem_cons.1 h.1).1.2 hc
          rw [this.1] at hw
          have h0 : (gq q == 0) = true := hw
          exact absurd (by simpa using h0) this.2
        | false =>
          rw [if_neg (by decide)]
          rw [Bool.or_eq_false_iff] at hw
          have h0 : gq q ≠ 0 := by simpa using hw.2
          have hi : isw q.2 = true := by simpa using hw.1
          have ok : okq q := ⟨hb, fun _ => ⟨hi, h0⟩⟩
          have hg1 : 1 ≤ gq q := by have := gq_bd q; omega
          rw [gof_fdg hg1 p]
          have key : ∀ s ∈ pr p, (keyq s = keyq q ↔ isw s.2 = true ∧ gq s = gq q) := by
            intro s hs
            rw [key_c hc]
            have oks := hp s hs
            cases hsc : clq s with
            | true =>
              rw [key_c hsc]
              exact ⟨fun h => ⟨(oks.2 hsc).1, by omega⟩, fun h => by omega⟩
            | false =>
              rw [key_n hsc]
              have := okq_lo oks
              refine ⟨fun h => by omega, fun h => ?_⟩
              rw [cl_of (by rw [h.2]; exact hg1)] at hsc; cases hsc
          cases hf : fdg (gq q) p with
          | true =>
            rw [if_pos rfl]
            refine ⟨fun h => (by cases h), fun h => ?_⟩
            obtain ⟨s, hs, e⟩ := (fdg_iff _ _).1 hf
            exact absurd ((key s hs).2 e) ((List.forall_mem_cons.1 h.2.1).1 s hs)
          | false =>
            have hn : ∀ s ∈ pr p, keyq s ≠ keyq q := fun s hs e => by
              have := (fdg_iff (gq q) p).2 ⟨s, hs, (key s hs).1 e⟩
              rw [hf] at this; cases this
            rw [if_neg (by decide), rchk_iff l (p ++ [r]) (by
              rw [hpa]; intro x hx
              rcases List.mem_append.1 hx with hx | hx
              · exact hp x hx
              · obtain rfl := List.mem_singleton.1 hx; exact ok), hpa]
            exact stepIff ok hn
def good (l : List (List Int)) : Prop := (∀ q ∈ pr l, okq q) ∧ (pr l).Pairwise dq
theorem rchk_good (l : List (List Int)) : rchk [] l = 0 ↔ good l := by
  rw [rchk_iff l [] (fun q h => by cases h)]
  exact ⟨fun h => ⟨h.1, h.2.2⟩, fun h => ⟨h.1, fun q _ s hs => (by cases hs), h.2⟩⟩
theorem good_perm {v w : List (List Int)} (h : (pr v).Perm (pr w)) (g : good v) : good w :=
  ⟨fun q hq => g.1 q (h.mem_iff.2 hq), (h.pairwise_iff (fun {a b} e => fun k => e k.symm)).1 g.2⟩
theorem fdg_perm {v w : List (List Int)} (h : (pr v).Perm (pr w)) (g : Int) : fdg g w = fdg g v := by
  rw [Bool.eq_iff_iff, fdg_iff, fdg_iff]
  exact ⟨fun ⟨s, a, b⟩ => ⟨s, h.mem_iff.2 a, b⟩, fun ⟨s, a, b⟩ => ⟨s, h.mem_iff.1 a, b⟩⟩
theorem ckk_perm {v w : List (List Int)} (h : (pr v).Perm (pr w)) (h0 : ckk v = 0) : good v ∧ ckk w = 0 := by
  rw [← rck_ckk] at h0
  unfold rck at h0
  have h1 : rchk [] v = 0 := by
    by_cases k : rchk [] v = 0
    · exact k
    · rw [if_pos k] at h0; exact h0
  rw [if_neg (fun e => e h1)] at h0
  have g := (rchk_good v).1 h1
  refine ⟨g, ?_⟩
  rw [← rck_ckk]
  unfold rck
  rw [if_neg (fun e => e ((rchk_good w).2 (good_perm h g))), gof_fdg (by decide), gof_fdg (by decide), gof_fdg (by decide), fdg_perm h, fdg_perm h, fdg_perm h]
  rw [gof_fdg (by decide), gof_fdg (by decide), gof_fdg (by decide)] at h0
  exact h0
theorem fnd_iff {c x : Int} (hc : c ≠ 71 ∧ c ≠ 77) : ∀ l : List (List Int), (pr l).Pairwise dq → (fnd c l = some x ↔ (c, x) ∈ pr l)
  | [], _ => ⟨fun h => (by cases h), fun h => (by cases h)⟩
  | r :: l, hp => by
    have hpr : pr (r :: l) = (lt r, nm r) :: pr l := rfl
    rw [hpr] at hp ⊢
    rw [List.pairwise_cons] at hp
    rw [show fnd c (r :: l) = (if lt r = c then some (nm r) else fnd c l) from rfl, List.mem_cons]
    have nc : ∀ y, clq (c, y) = false := fun y => by unfold clq; simp [hc.1, hc.2]
    by_cases k : lt r = c
    · rw [if_pos k]
      constructor
      · intro e; left; rw [k, Option.some.inj e]
      · rintro (e | e)
        · rw [← (Prod.mk.inj e).2]
        · have := hp.1 _ e
          unfold dq at this
          rw [k, key_n (nc _), key_n (nc _)] at this
          exact absurd rfl this
    · rw [if_neg k, fnd_iff hc l hp.2]
      exact ⟨.inr, fun e => e.elim (fun e => absurd (Prod.mk.inj e).1.symm k) id⟩
theorem fnd_perm {v w : List (List Int)} (h : (pr v).Perm (pr w)) (g : good v) {c : Int} (hc : c ≠ 71 ∧ c ≠ 77) : fnd c w = fnd c v := by
  apply Option.ext
  intro x
  rw [fnd_iff hc w (good_perm h g).2, fnd_iff hc v g.2, h.mem_iff]
theorem cg_iff {g x : Int} (hg : 1 ≤ g) : ∀ l : List (List Int), good l → ((if fdg g l then some (gof g l) else none) = some x ↔ ∃ q ∈ pr l, isw q.2 = true ∧ gq q = g ∧ wv q.2 = x)
  | [], _ => ⟨fun h => (by cases h), fun ⟨q, h, _⟩ => (by cases h)⟩
  | r :: l, ⟨ho, hp⟩ => by
    have hpr : pr (r :: l) = (lt r, nm r) :: pr l := rfl
    rw [hpr] at hp ho ⊢
    rw [List.pairwise_cons] at hp
    rw [List.forall_mem_cons] at ho
    rw [fdg_c, gof_c]
    have ih := cg_iff (x := x) hg l ⟨ho.2, hp.2⟩
    cases hm : mch g r with
    | true =>
      unfold mch at hm
      rw [Bool.and_eq_true] at hm
      have hgr : gq (lt r, nm r) = g := eq_of_beq hm.2
      rw [Bool.true_or, if_pos rfl, if_pos rfl]
      constructor
      · intro e; exact ⟨_, List.mem_cons_self, hm.1, hgr, Option.some.inj e⟩
      · rintro ⟨q, h, e1, e2, e3⟩
        rcases List.mem_cons.1 h with rfl | h
        · exact congrArg some e3
        · have := hp.1 q h
          unfold dq at this
          rw [key_c (cl_of (by rw [hgr]; exact hg)), key_c (cl_of (by rw [e2]; exact hg)), hgr, e2] at this
          exact absurd rfl this
    | false =>
      rw [Bool.false_or, if_neg (c := false = true) (by decide), ih]
      constructor
      · rintro ⟨q, h, e⟩; exact ⟨q, List.mem_cons_of_mem _ h, e⟩
      · rintro ⟨q, h, e1, e2, e3⟩
        rcases List.mem_cons.1 h with rfl | h
        · have : mch g r = true := by unfold mch; rw [Bool.and_eq_true]; exact ⟨e1, beq_iff_eq.2 (show grp (lt r) (wv (nm r)) = g from e2)⟩
          rw [hm] at this; cases this
        · exact ⟨q, h, e1, e2, e3⟩
theorem cds_low : ∀ (l : List (List Int)) (f : Int → Option Int) (g : Int), g ≤ 0 → cds l f g = f g
  | [], _, _, _ => rfl
  | r :: l, f, g, hg => by
    rw [cds_c, cds_low l _ g hg]
    cases hc : (isc r && decide (grp (lt r) (wv (nm r)) > 0)) with
    | false => rfl
    | true =>
      rw [if_pos rfl]
      rw [Bool.and_eq_true] at hc
      have := of_decide_eq_true hc.2
      unfold mput
      rw [if_neg (by omega)]
theorem cds_perm {v w : List (List Int)} (h : (pr v).Perm (pr w)) (g : good v) (hv : ckk v = 0) (hw : ckk w = 0) : cds w mnil = cds v mnil := by
  funext x
  by_cases hx : 1 ≤ x
  · rw [cds_f hw hx, cds_f hv hx]
    apply Option.ext
    intro y
    rw [cg_iff hx w (good_perm h g), cg_iff hx v g]
    exact ⟨fun ⟨q, a, b⟩ => ⟨q, h.mem_iff.2 a, b⟩, fun ⟨q, a, b⟩ => ⟨q, h.mem_iff.1 a, b⟩⟩
  · rw [cds_low w _ x (by omega), cds_low v _ x (by omega)]
theorem fndB_of {v w : List (List Int)} {c : Int} (h : fnd c w = fnd c v) : fndB c w = fndB c v := by unfold fndB; rw [h]
theorem fndN_of {v w : List (List Int)} {c : Int} (h : fnd c w = fnd c v) : fndN c w = fndN c v := by unfold fndN; rw [h]
theorem nOK_of {v w : List (List Int)} {c most : Int} (h : fnd c w = fnd c v) : nOK w c most = nOK v c most := by unfold nOK; rw [fndB_of h, fndN_of h]
theorem nV_of {v w : List (List Int)} {c old : Int} (h : fnd c w = fnd c v) : nV w c old = nV v c old := by unfold nV; rw [fndB_of h, fndN_of h]
theorem numL_of {v w : List (List Int)} (h : ∀ i, fnd (fld i) w = fnd (fld i) v) : ∀ (n i : Nat) (m : M), numL w n i m = numL v n i m
  | 0, _, _ => rfl
  | n + 1, i, m => by rw [numL_s, numL_s, nOK_of (h i), nV_of (h i), numL_of h n]
theorem app_perm {v w : List (List Int)} (h : (pr v).Perm (pr w)) (m : M) (h0 : ckk v = 0) : appM w m = appM v m := by
  obtain ⟨g, hw⟩ := ckk_perm h h0
  have hc := cds_perm h g h0 hw
  have hf : ∀ c : Int, c ≠ 71 ∧ c ≠ 77 → fnd c w = fnd c v := fun c hc => fnd_perm h g hc
  have hn : ∀ a : M, numM w a = numM v a := by
    intro a
    unfold numM
    have hL : ∀ x : M, numL w 4 0 x = numL v 4 0 x := numL_of (fun i => hf _ (by unfold fld; split <;> decide)) 4 0
    rw [fndB_of (hf 70 (by decide)), fndN_of (hf 70 (by decide)), hL, hL]
  unfold appM
  rw [hw, h0, hc]
  dsimp only
  rw [hn, fndB_of (hf 80 (by decide)), fndN_of (hf 80 (by decide))]
end Go.Proofs.Ytcfgklmpfkmdkaa
