/-
  Package modal: the reference answers as the module does; what a good state keeps.
  Conditions: none.
-/
import Derived.Test.YtcfgklmpfkmdkaaM10
namespace Go.Proofs.Ytcfgklmpfkmdkaa
open Go Go.HL U
theorem misc_gap (c : Int) : misc c = 0 ∨ 21 ≤ misc c := by
  unfold misc
  repeat' split
  all_goals omega
theorem grp_letter {L c g : Int} (h : grp L c = g) (hg : 1 ≤ g) : (L = 71 ∧ prep c = g ∧ g ≤ 14) ∨ (L = 77 ∧ misc c = g ∧ 21 ≤ g) := by
  unfold grp at h
  by_cases a : L = 71
  · rw [if_pos a] at h
    have := prep_bd c
    exact .inl ⟨a, h, by omega⟩
  · rw [if_neg a] at h
    by_cases b : L = 77
    · rw [if_pos b] at h
      have := misc_gap c
      exact .inr ⟨b, h, by omega⟩
    · rw [if_neg b] at h; omega
/-- a value that names a code of group g -/
def mch (g : Int) (r : List Int) : Bool := isw (nm r) && (grp (lt r) (wv (nm r)) == g)
theorem gof_c (g : Int) (r : List Int) (l : List (List Int)) : gof g (r :: l) = if mch g r then wv (nm r) else gof g l := rfl
theorem fdg_c (g : Int) (r : List Int) (l : List (List Int)) : fdg g (r :: l) = (mch g r || fdg g l) := by unfold fdg; rw [List.any_cons]; rfl
theorem has_c (c n : Int) (r : List Int) (l : List (List Int)) : has c n (r :: l) = ((isc r && (lt r == c) && (wv (nm r) == n)) || has c n l) := rfl
theorem cds_c (r : List Int) (l : List (List Int)) (f : Int → Option Int) : cds (r :: l) f = cds l (if isc r && decide (grp (lt r) (wv (nm r)) > 0) then mput f (grp (lt r) (wv (nm r))) (wv (nm r)) else f) := rfl
theorem mch_isc {g : Int} {r : List Int} (hg : 1 ≤ g) (h : mch g r = true) : isc r = true ∧ grp (lt r) (wv (nm r)) = g := by
  unfold mch at h
  rw [Bool.and_eq_true] at h
  have e : grp (lt r) (wv (nm r)) = g := by simpa using h.2
  refine ⟨?_, e⟩
  unfold isc
  rw [h.1]
  rcases grp_letter e hg with ⟨a, _, _⟩ | ⟨a, _, _⟩ <;> rw [a] <;> rfl
/-- what Check leaves open: the first value of a block that it accepts, and the rest -/
theorem chk_step {r : List Int} {l L G : List (List Int)} (h : (chk (r :: l) L G).1 = 0) :
    (cl r = false ∧ ∃ L', (chk l L' G).1 = 0) ∨ (isw (nm r) = true ∧ cl r = true ∧ 1 ≤ grp (lt r) (wv (nm r)) ∧ geta G (grp (lt r) (wv (nm r))) = false ∧ (chk l L (seta G (grp (lt r) (wv (nm r))))).1 = 0) := by
  rw [show chk (r :: l) L G = (if bad r then (1, L, G) else
    if !cl r then (if geta L (lt r - 65) then (7, L, G) else chk l (seta L (lt r - 65)) G) else
    if !isw (nm r) || (grp (lt r) (wv (nm r)) == 0) then (6, L, G) else
    if geta G (grp (lt r) (wv (nm r))) then (8, L, G) else chk l L (seta G (grp (lt r) (wv (nm r))))) from rfl] at h
  cases hb : bad r with
  | true => rw [hb, if_pos rfl] at h; cases h
  | false =>
    rw [hb, if_neg (by decide)] at h
    cases hc : cl r with
    | false =>
      rw [hc] at h
      rw [if_pos (show (!false) = true from rfl)] at h
      cases hg : geta L (lt r - 65) with
      | true => rw [hg, if_pos rfl] at h; cases h
      | false => rw [hg, if_neg (by decide)] at h; exact .inl ⟨rfl, _, h⟩
    | true =>
      rw [hc, if_neg (by decide)] at h
      cases hw : (!isw (nm r) || (grp (lt r) (wv (nm r)) == 0)) with
      | true => rw [hw, if_pos rfl] at h; cases h
      | false =>
        rw [hw, if_neg (by decide)] at h
        rw [Bool.or_eq_false_iff] at hw
        have h0 : grp (lt r) (wv (nm r)) ≠ 0 := by simpa using hw.2
        have h1 := (grp_bd (lt r) (wv (nm r))).1
        cases hg : geta G (grp (lt r) (wv (nm r))) with
        | true => rw [hg, if_pos rfl] at h; cases h
        | false =>
          rw [hg, if_neg (by decide)] at h
          exact .inr ⟨by simpa using hw.1, rfl, by omega, rfl, h⟩
theorem seta_len (G : List (List Int)) (i : Int) : (seta G i).length = G.length := by unfold seta; rw [List.length_set]
theorem no_mch {g : Int} {r : List Int} (hg : 1 ≤ g) (h : cl r = false) : mch g r = false := by
  cases e : mch g r with
  | false => rfl
  | true =>
    have := (mch_isc hg e).2
    unfold cl at h
    rcases grp_letter this hg with ⟨a, _, _⟩ | ⟨a, _, _⟩ <;> rw [a] at h <;> cases h
/-- a group that is taken does not come again -/
theorem once : ∀ (l L G : List (List Int)) (g : Int), G.length = 26 → 1 ≤ g → geta G g = true → (chk l L G).1 = 0 → fdg g l = false
  | [], _, _, _, _, _, _, _ => rfl
  | r :: l, L, G, g, hG, h1, hg, h => by
    rw [fdg_c]
    rcases chk_step h with ⟨a, L', b⟩ | ⟨a, b, c, d, e⟩
    · rw [no_mch h1 a, once l L' G g hG h1 hg b]; rfl
    · have hb := grp_bd (lt r) (wv (nm r))
      have hne : grp (lt r) (wv (nm r)) ≠ g := fun e2 => by rw [e2, hg] at d; cases d
      have hm : mch g r = false := by
        unfold mch
        have : (grp (lt r) (wv (nm r)) == g) = false := by simpa using hne
        rw [this, Bool.and_false]
      rw [hm, once l L _ g (by rw [seta_len]; exact hG) h1 (by rw [geta_seta (by omega) (by rw [hG]; omega) (by omega), hg, Bool.or_true]) e]
      rfl
theorem taken {r : List Int} {G : List (List Int)} (hG : G.length = 26) (h : 1 ≤ grp (lt r) (wv (nm r))) : geta (seta G (grp (lt r) (wv (nm r)))) (grp (lt r) (wv (nm r))) = true := by
  have hb := grp_bd (lt r) (wv (nm r))
  rw [geta_seta (by omega) (by rw [hG]; omega) (by omega), beq_self_eq_true, Bool.true_or]
theorem cds_at : ∀ (l L G : List (List Int)) (f : Int → Option Int) (g : Int), G.length = 26 → 1 ≤ g → (chk l L G).1 = 0 → cds l f g = if fdg g l then some (gof g l) else f g
  | [], _, _, _, _, _, _, _ => rfl
  | r :: l, L, G, f, g, hG, h1, h => by
    rw [cds_c, fdg_c, gof_c]
    rcases chk_step h with ⟨a, L', b⟩ | ⟨a, b, c, d, e⟩
    · have : isc r = false := by unfold isc; unfold cl at a; rw [a, Bool.and_false]
      rw [this, Bool.false_and, if_neg (by decide), cds_at l L' G f g hG h1 b, no_mch h1 a]
      rfl
    · have hi : isc r = true := by unfold isc; unfold cl at b; rw [a, b]; rfl
      rw [hi, Bool.true_and, if_pos (decide_eq_true (by omega)), cds_at l L _ _ g (by rw [seta_len]; exact hG) h1 e]
      by_cases k : grp (lt r) (wv (nm r)) = g
      · have hm : mch g r = true := by unfold mch; rw [a, k, beq_self_eq_true]; rfl
        have ho := once l L _ g (by rw [seta_len]; exact hG) h1 (by rw [← k]; exact taken hG c) e
        rw [hm, ho, Bool.true_or, if_pos rfl, if_pos rfl, if_neg (by decide), k]
        unfold mput
        rw [if_pos rfl]
      · have hm : mch g r = false := by
          unfold mch
          have : (grp (lt r) (wv (nm r)) == g) = false := by simpa using k
          rw [this, Bool.and_false]
        have : mput f (grp (lt r) (wv (nm r))) (wv (nm r)) g = f g := by unfold mput; rw [if_neg (fun e2 => k e2.symm)]
        rw [hm, Bool.false_or, this]
        simp only [Bool.false_eq_true, if_false]
theorem has_at : ∀ (l L G : List (List Int)) (c n g : Int), G.length = 26 → (c = 71 ∨ c = 77) → grp c n = g → 1 ≤ g → (chk l L G).1 = 0 → has c n l = (fdg g l && (gof g l == n))
  | [], _, _, _, _, _, _, _, _, _, _ => rfl
  | r :: l, L, G, c, n, g, hG, hc, hn, h1, h => by
    rw [has_c, fdg_c, gof_c]
    rcases chk_step h with ⟨a, L', b⟩ | ⟨a, b, c1, d, e⟩
    · have : isc r = false := by unfold isc; unfold cl at a; rw [a, Bool.and_false]
      rw [this, Bool.false_and, Bool.false_and, Bool.false_or, has_at l L' G c n g hG hc hn h1 b, no_mch h1 a]
      rfl
    · have hi : isc r = true := by unfold isc; unfold cl at b; rw [a, b]; rfl
      rw [hi, Bool.true_and, has_at l L _ c n g (by rw [seta_len]; exact hG) hc hn h1 e]
      by_cases k : grp (lt r) (wv (nm r)) = g
      · have hm : mch g r = true := by unfold mch; rw [a, k, beq_self_eq_true]; rfl
        have ho := once l L _ g (by rw [seta_len]; exact hG) h1 (by rw [← k]; exact taken hG c1) e
        rw [hm, ho, Bool.true_or, Bool.false_and, Bool.or_false, Bool.true_and, if_pos rfl]
        have hl : (lt r == c) = true := by
          rcases grp_letter k h1 with ⟨x, _, y⟩ | ⟨x, _, y⟩ <;> rcases grp_letter hn h1 with ⟨x', _, y'⟩ | ⟨x', _, y'⟩
          · rw [x, x']; rfl
          · omega
          · omega
          · rw [x, x']; rfl
        rw [hl, Bool.true_and]
      · have hm : mch g r = false := by
          unfold mch
          have : (grp (lt r) (wv (nm r)) == g) = false := by simpa using k
          rw [this, Bool.and_false]
        have hx : ((lt r == c) && (wv (nm r) == n)) = false := by
          cases hx : ((lt r == c) && (wv (nm r) == n)) with
          | false => rfl
          | true =>
            rw [Bool.and_eq_true] at hx
            have e1 : lt r = c := by simpa using hx.1
            have e2 : wv (nm r) = n := by simpa using hx.2
            exact absurd (by rw [e1, e2]; exact hn) k
        rw [hm, hx, Bool.false_or, Bool.false_or, if_neg (by decide)]
theorem ckk0 {l : List (List Int)} (h : ckk l = 0) : (chk l z26 z26).1 = 0 := by
  unfold ckk at h
  dsimp only at h
  by_cases k : (chk l z26 z26).1 = 0
  · exact k
  · rw [if_pos k] at h; exact h
theorem cds_f {l : List (List Int)} (h : ckk l = 0) {g : Int} (h1 : 1 ≤ g) : cds l mnil g = if fdg g l then some (gof g l) else none := cds_at l z26 z26 mnil g (by decide) h1 (ckk0 h)
theorem pk_rcode {l : List (List Int)} (h : ckk l = 0) {g : Int} (h1 : 1 ≤ g) (old : Int) : rcode l g old = pk (cds l mnil) g old := by
  unfold rcode pk
  have := gof_fdg h1 l
  rw [cds_f h h1]
  cases hf : fdg g l with
  | true => rw [hf] at this; rw [if_pos (of_decide_eq_true this)]; rfl
  | false => rw [hf] at this; rw [if_neg (of_decide_eq_false this)]; rfl
theorem has_f {l : List (List Int)} (h : ckk l = 0) {c n g : Int} (hc : c = 71 ∨ c = 77) (hn : grp c n = g) (h1 : 1 ≤ g) : has c n l = (optB (cds l mnil g) && (optD (cds l mnil g) == n)) := by
  rw [has_at l z26 z26 c n g (by decide) hc hn h1 (ckk0 h), cds_f h h1]
  cases fdg g l <;> rfl
theorem has_d {l : List (List Int)} (h : ckk l = 0) {c n g : Int} (hc : c = 71 ∨ c = 77) (hn : grp c n = g) (h1 : 1 ≤ g) (h0 : n ≠ 0) : has c n l = (optD (cds l mnil g) == n) := by
  rw [has_f h hc hn h1]
  cases hx : cds l mnil g with
  | none =>
    have : ((0 : Int) == n) = false := by simpa using (fun e => h0 e.symm)
    show (false && _) = ((0 : Int) == n)
    rw [this]; rfl
  | some v => exact Bool.true_and _
/-- what stands in the map is a code of the group -/
theorem cds_grp : ∀ (l : List (List Int)) (f : Int → Option Int) (g v : Int), cds l f g = some v → f g = some v ∨ (grp 71 v = g ∨ grp 77 v = g) ∧ 1 ≤ g
  | [], _, _, _, h => .inl h
  | r :: l, f, g, v, h => by
    rw [cds_c] at h
    rcases cds_grp l _ g v h with h | h
    · cases hc : (isc r && decide (grp (lt r) (wv (nm r)) > 0)) with
      | false => rw [hc, if_neg (by decide)] at h; exact .inl h
      | true =>
        rw [hc, if_pos rfl] at h
        rw [Bool.and_eq_true] at hc
        have h0 := of_decide_eq_true hc.2
        unfold mput at h
        by_cases k : g = grp (lt r) (wv (nm r))
        · rw [if_pos k] at h
          obtain rfl : wv (nm r) = v := Option.some.inj h
          refine .inr ⟨?_, by omega⟩
          rcases grp_letter k.symm (by omega) with ⟨a, _, _⟩ | ⟨a, _, _⟩
          · rw [a] at k; exact .inl k.symm
          · rw [a] at k; exact .inr k.symm
        · rw [if_neg k] at h; exact .inl h
    · exact .inr h
theorem cds_lo {l : List (List Int)} {g v : Int} (h : cds l mnil g = some v) (hg : g ≤ 14) : grp 71 v = g := by
  rcases cds_grp l mnil g v h with h | ⟨h | h, h1⟩
  · cases h
  · exact h
  · rcases grp_letter h h1 with ⟨a, _, _⟩ | ⟨_, _, b⟩
    · cases a
    · omega
theorem cds_hi {l : List (List Int)} {g v : Int} (h : cds l mnil g = some v) (hg : 21 ≤ g) : grp 77 v = g := by
  rcases cds_grp l mnil g v h with h | ⟨h | h, h1⟩
  · cases h
  · rcases grp_letter h h1 with ⟨_, _, b⟩ | ⟨a, _, _⟩
    · omega
    · cases a
  · exact h
theorem scn_mem (c : Int) : ∀ (L : List (List (List Int))) (i j : Int), 0 < i → scn c L i = j → j ≠ 0 → amg c (L.getD (j - i).toNat []) = true
  | [], i, j, _, h, h0 => absurd h.symm h0
  | g :: r, i, j, hi, h, h0 => by
    rw [scn_cons] at h
    by_cases k : amg c g = true
    · rw [if_pos k] at h
      subst h
      rw [Int.sub_self]
      exact k
    · rw [if_neg k] at h
      have ih := scn_mem c r (i + 1) j (by omega) h h0
      have hle := scn_le c r (i + 1)
      rw [h] at hle
      have hj : i + 1 ≤ j := by omega
      rw [show (j - i).toNat = (j - (i + 1)).toNat + 1 by omega]
      exact ih
theorem prep10 {v : Int} (h : grp 71 v = 10) : v = 61 ∨ v = 64 := by
  rcases grp_letter h (by decide) with ⟨_, b, _⟩ | ⟨a, _, _⟩
  · have k := scn_mem v glit 1 10 (by decide) b (by decide)
    have k : ((v == 61) || ((v == 64) || false)) = true := k
    simpa using k
  · cases a
theorem selM_eq (f : Int → Option Int) (m : M) : selM f m = M.mk (pk f 1 m.m0) (pk f 2 m.m1) (pk f 3 m.m2) (pk f 4 m.m3) (pk f 5 m.m4) (pk f 6 m.m5) (pk f 7 m.m6) (pk f 8 m.m7) (pk f 9 m.m8) (pk f 10 m.m9) (pk f 11 m.m10) (pk f 12 m.m11) (pk f 22 m.m12) m.m13 m.m14 m.m15 m.m16 m.m17 m.m18 m.m19 (if optD (f 7) = 49 then 0 else m.m20) (if optD (f 6) = 40 then 0 else m.m21) := by
  obtain ⟨m0, m1, m2, m3, m4, m5, m6, m7, m8, m9, m10, m11, m12, m13, m14, m15, m16, m17, m18, m19, m20, m21⟩ := m
  kernel_rfl
theorem numL_s (l : List (List Int)) (n i : Nat) (m : M) : numL l (n + 1) i m = if nOK l (fld i) (lmt i) then numL l n (i + 1) (setN m i (nV l (fld i) (getN m i))) else (1, m) := rfl
theorem numL_ok {l : List (List Int)} (m : M) (h : rnE l = true) : numL l 4 0 m = (0, rnM l m) := by
  unfold rnE at h
  rw [Bool.and_eq_true, Bool.and_eq_true, Bool.and_eq_true] at h
  obtain ⟨h1, h2, h3, h4⟩ := h
  rw [numL_s, if_pos (show nOK l (fld 0) (lmt 0) = true from h1), numL_s, if_pos (show nOK l (fld 1) (lmt 1) = true from h2), numL_s, if_pos (show nOK l (fld 2) (lmt 2) = true from h3), numL_s, if_pos (show nOK l (fld 3) (lmt 3) = true from h4)]
  obtain ⟨m0, m1, m2, m3, m4, m5, m6, m7, m8, m9, m10, m11, m12, m13, m14, m15, m16, m17, m18, m19, m20, m21⟩ := m
  rfl
theorem numL_bad {l : List (List Int)} (m : M) (h : rnE l = false) : (numL l 4 0 m).1 = 1 := by
  unfold rnE at h
  rw [numL_s]
  cases h1 : nOK l 83 30000 with
  | false => rw [if_neg (show ¬ nOK l (fld 0) (lmt 0) = true from fun e => by rw [show nOK l (fld 0) (lmt 0) = nOK l 83 30000 from rfl, h1] at e; cases e)]
  | true =>
    rw [h1, Bool.true_and] at h
    rw [if_pos (show nOK l (fld 0) (lmt 0) = true from h1), numL_s]
    cases h2 : nOK l 84 32 with
    | false => rw [if_neg (show ¬ nOK l (fld 1) (lmt 1) = true from fun e => by rw [show nOK l (fld 1) (lmt 1) = nOK l 84 32 from rfl, h2] at e; cases e)]
    | true =>
      rw [h2, Bool.true_and] at h
      rw [if_pos (show nOK l (fld 1) (lmt 1) = true from h2), numL_s]
      cases h3 : nOK l 72 32 with
      | false => rw [if_neg (show ¬ nOK l (fld 2) (lmt 2) = true from fun e => by rw [show nOK l (fld 2) (lmt 2) = nOK l 72 32 from rfl, h3] at e; cases e)]
      | true =>
        rw [h3, Bool.true_and] at h
        rw [if_pos (show nOK l (fld 2) (lmt 2) = true from h3), numL_s]
        rw [if_neg (show ¬ nOK l (fld 3) (lmt 3) = true from fun e => by rw [show nOK l (fld 3) (lmt 3) = nOK l 68 32 from rfl, h] at e; cases e)]
theorem numM_t {l : List (List Int)} {m : M} (h : fndB 70 l = true) (h2 : rtE (fndN 70 l) m.m3 = 0) : numM l m = numL l 4 0 { m with m16 := rtN (fndN 70 l) m.m3 } := by
  unfold numM; rw [if_pos h, if_neg (fun e => e h2)]
theorem numM_e {l : List (List Int)} {m : M} (h : fndB 70 l = true) (h2 : rtE (fndN 70 l) m.m3 ≠ 0) : (numM l m).1 = rtE (fndN 70 l) m.m3 := by
  unfold numM; rw [if_pos h, if_pos h2]
theorem numM_f {l : List (List Int)} {m : M} (h : fndB 70 l = false) : numM l m = numL l 4 0 m := by
  unfold numM; rw [if_neg (by rw [h]; decide)]
theorem appF_eq (f : Int → Option Int) (m : M) : appF f m = { m with m13 := (m.m13 || (optD (f 24) == 7)) && !(optD (f 24) == 9), m14 := (m.m14 || (optD (f 24) == 8)) && !(optD (f 24) == 9), m19 := if optD (f 23) = 6 then m.m18 else m.m19 } := by
  obtain ⟨m0, m1, m2, m3, m4, m5, m6, m7, m8, m9, m10, m11, m12, m13, m14, m15, m16, m17, m18, m19, m20, m21⟩ := m
  unfold appF
  generalize optD (f 24) = a
  generalize optD (f 23) = b
  dsimp only
  by_cases h7 : a = 7
  · subst h7; by_cases h6 : b = 6 <;> simp [h6]
  by_cases h8 : a = 8
  · subst h8; by_cases h6 : b = 6 <;> simp [h6]
  by_cases h9 : a = 9
  · subst h9; by_cases h6 : b = 6 <;> simp [h6]
  have e7 : (a == 7) = false := by simpa using h7
  have e8 : (a == 8) = false := by simpa using h8
  have e9 : (a == 9) = false := by simpa using h9
  by_cases h6 : b = 6 <;> simp [h6, h7, h8, h9, e7, e8, e9]
theorem nV_zero {l : List (List Int)} {c old : Int} {p q : Bool} (hp : q = p) : nV l c (if p = true then 0 else old) = if (q && !(fndB c l)) = true then 0 else nV l c old := by
  subst hp
  unfold nV
  cases fndB c l <;> cases q <;> simp
theorem if_beq (a b x y : Int) : (if a = b then x else y) = if (a == b) = true then x else y := by
  by_cases h : a = b <;> simp [h]
def wM15 (a : M) (x : Int) : M := { a with m15 := x }
def wM16 (a : M) (x : Int) : M := { a with m16 := x }
def wU (a : M) (u x : Int) : M := { a with m3 := u, m16 := x }
/-- the last part: what is set and what is not -/
theorem fin_eq {l : List (List Int)} (h : ckk l = 0) (m : M) (x16 x15 y15 : Int) (hx : x15 = if has 71 61 l then 0 else y15) :
    appF (cds l mnil) (wM15 (rnM l (wM16 (selM (cds l mnil) m) x16)) x15) = appR2 l (wM15 (rnM l (wU m (rcode l 4 m.m3) x16)) y15) := by
  rw [appF_eq, selM_eq]
  unfold appR2 rnM wM15 wM16 wU
  dsimp only
  rw [← hx, pk_rcode h (g := 1) (by decide), pk_rcode h (g := 2) (by decide), pk_rcode h (g := 3) (by decide), pk_rcode h (g := 4) (by decide), pk_rcode h (g := 5) (by decide), pk_rcode h (g := 6) (by decide), pk_rcode h (g := 7) (by decide), pk_rcode h (g := 8) (by decide), pk_rcode h (g := 9) (by decide), pk_rcode h (g := 10) (by decide), pk_rcode h (g := 11) (by decide), pk_rcode h (g := 12) (by decide), pk_rcode h (g := 22) (by decide)]
  rw [has_d h (c := 77) (n := 7) (g := 24) (.inr rfl) (by decide +kernel) (by decide) (by decide), has_d h (c := 77) (n := 8) (g := 24) (.inr rfl) (by decide +kernel) (by decide) (by decide), has_d h (c := 77) (n := 9) (g := 24) (.inr rfl) (by decide +kernel) (by decide) (by decide), has_d h (c := 77) (n := 6) (g := 23) (.inr rfl) (by decide +kernel) (by decide) (by decide)]
  rw [if_beq (optD (cds l mnil 7)) 49, if_beq (optD (cds l mnil 6)) 40, if_beq (optD (cds l mnil 23)) 6]
  rw [nV_zero (c := 72) (has_d h (c := 71) (n := 49) (g := 7) (.inl rfl) (by decide +kernel) (by decide) (by decide)), nV_zero (c := 68) (has_d h (c := 71) (n := 40) (g := 6) (.inl rfl) (by decide +kernel) (by decide) (by decide))]
theorem appM4w {l : List (List Int)} {m : M} (h : ckk l = 0) {b : Int × M} (hb : b = numM l (selM (cds l mnil) m)) (h2 : b.1 = 0) (h3 : optB (cds l mnil 10) = true) (h4 : ¬ (fndB 80 l = true ∧ optD (cds l mnil 10) = 64)) : appM l m = (0, appF (cds l mnil) (wM15 b.2 0)) := appM4 h hb h2 h3 h4
theorem appM7w {l : List (List Int)} {m : M} (h : ckk l = 0) {b : Int × M} (hb : b = numM l (selM (cds l mnil) m)) (h2 : b.1 = 0) (h3 : optB (cds l mnil 10) = true) (h4 : fndB 80 l = true) (h5 : optD (cds l mnil 10) = 64) (h6 : lnE (fndN 80 l) b.2.m3 = 0) (h7 : ¬ (lnN (fndN 80 l) b.2.m3 < 0 ∨ lnN (fndN 80 l) b.2.m3 > 1000)) : appM l m = (0, appF (cds l mnil) (wM15 b.2 (lnN (fndN 80 l) b.2.m3))) := appM7 h hb h2 h3 h4 h5 h6 h7
theorem appR1_w {l : List (List Int)} {m : M} (h : rnE l = true) (h2 : blE (has 71 64 l) l (rnM l m).m3 = 0) : appR1 l m = (0, appR2 l (wM15 (rnM l m) (blV (has 71 64 l) l (rnM l m).m3 (rnM l m).m15))) := appR1_ok h h2
theorem core_eq {l : List (List Int)} (h : ckk l = 0) (m : M) (x16 : Int) {b : Int × M} (hb : b = numM l (selM (cds l mnil) m)) (hn : b = numL l 4 0 (wM16 (selM (cds l mnil) m) x16)) :
    appM l m = appR1 l (wU m (rcode l 4 m.m3) x16) := by
  cases hr : rnE l with
  | false =>
    have b1 : b.1 = 1 := by rw [hn]; exact numL_bad _ hr
    rw [appM2 h hb (by rw [b1]; decide), appR1_e hr, b1]
  | true =>
    rw [numL_ok _ hr] at hn
    have b1 : b.1 = 0 := by rw [hn]
    have b2 : b.2 = rnM l (wM16 (selM (cds l mnil) m) x16) := by rw [hn]
    have b3 : b.2.m3 = rcode l 4 m.m3 := by rw [b2, selM_eq, pk_rcode h (by decide)]; rfl
    have b15 : b.2.m15 = m.m15 := by rw [b2, selM_eq]; rfl
    have r3 : (rnM l (wU m (rcode l 4 m.m3) x16)).m3 = rcode l 4 m.m3 := rfl
    have r15 : (rnM l (wU m (rcode l 4 m.m3) x16)).m15 = m.m15 := rfl
    have h64 := has_f h (c := 71) (n := 64) (g := 10) (.inl rfl) (by decide +kernel) (by decide)
    have h61 := has_f h (c := 71) (n := 61) (g := 10) (.inl rfl) (by decide +kernel) (by decide)
    cases hv : cds l mnil 10 with
    | none =>
      rw [hv] at h64 h61
      have h64 : has 71 64 l = false := h64
      have h61 : has 71 61 l = false := h61
      have e : b.2 = wM15 b.2 m.m15 := by rw [← b15]; rfl
      have v0 : blV false l (rcode l 4 m.m3) m.m15 = m.m15 := rfl
      rw [appM3 h hb b1 (by rw [hv]; rfl), appR1_w hr (by rw [h64]; rfl), h64, r3, r15, v0, e, b2, fin_eq h m x16 m.m15 m.m15 (by rw [h61]; rfl)]
    | some v =>
      have hv3 : optB (cds l mnil 10) = true := by rw [hv]; rfl
      have hvd : optD (cds l mnil 10) = v := by rw [hv]; rfl
      rw [hv] at h64 h61
      rcases prep10 (cds_lo hv (by decide)) with rfl | rfl
      · have h64 : has 71 64 l = false := h64
        have h61 : has 71 61 l = true := h61
        have v0 : blV false l (rcode l 4 m.m3) m.m15 = m.m15 := rfl
        rw [appM4w h hb b1 hv3 (fun e => by rw [hvd] at e; exact absurd e.2 (by decide)), appR1_w hr (by rw [h64]; rfl), h64, r3, r15, v0, b2, fin_eq h m x16 0 m.m15 (by rw [h61]; rfl)]
      · have h64 : has 71 64 l = true := h64
        have h61 : has 71 61 l = false := h61
        cases hp : fndB 80 l with
        | false =>
          have e0 : blE true l (rcode l 4 m.m3) = 0 := by unfold blE; rw [hp]; rfl
          have v0 : ∀ u o, blV true l u o = 0 := by intro u o; unfold blV; rw [hp]; rfl
          rw [appM4w h hb b1 hv3 (fun e => by rw [hp] at e; exact absurd e.1 (by decide)), appR1_w hr (by rw [h64, r3]; exact e0), h64, v0, b2, fin_eq h m x16 0 0 (by rw [h61]; rfl)]
        | true =>
          by_cases hE : lnE (fndN 80 l) (rcode l 4 m.m3) = 0
          · by_cases hR : lnN (fndN 80 l) (rcode l 4 m.m3) < 0 ∨ lnN (fndN 80 l) (rcode l 4 m.m3) > 1000
            · have e0 : blE true l (rcode l 4 m.m3) = 3 := by unfold blE; rw [hp, hE]; simp [hR]
              rw [appM6 h hb b1 hv3 hp hvd (by rw [b3]; exact hE) (by rw [b3]; exact hR), appR1_b hr (by rw [h64, r3, e0]; decide), h64, r3, e0]
            · have e0 : blE true l (rcode l 4 m.m3) = 0 := by unfold blE; rw [hp, hE]; simp [hR]
              have v0 : ∀ o, blV true l (rcode l 4 m.m3) o = lnN (fndN 80 l) (rcode l 4 m.m3) := by intro o; unfold blV; rw [hp]; rfl
              rw [appM7w h hb b1 hv3 hp hvd (by rw [b3]; exact hE) (by rw [b3]; exact hR), appR1_w hr (by rw [h64, r3]; exact e0), h64, r3, v0, b3, b2, fin_eq h m x16 (lnN (fndN 80 l) (rcode l 4 m.m3)) (lnN (fndN 80 l) (rcode l 4 m.m3)) (by rw [h61]; rfl)]
          · have e0 : blE true l (rcode l 4 m.m3) = lnE (fndN 80 l) (rcode l 4 m.m3) := by unfold blE; rw [hp]; simp [hE]
            rw [appM5 h hb b1 hv3 hp hvd (by rw [b3]; exact hE), appR1_b hr (by rw [h64, r3, e0]; exact hE), h64, r3, e0, b3]
theorem numM_tw {l : List (List Int)} {m : M} (h : fndB 70 l = true) (h2 : rtE (fndN 70 l) m.m3 = 0) : numM l m = numL l 4 0 (wM16 m (rtN (fndN 70 l) m.m3)) := numM_t h h2
theorem app_eq (l : List (List Int)) (m : M) : appM l m = appR l m := by
  by_cases h : ckk l = 0
  · have u3 : (selM (cds l mnil) m).m3 = rcode l 4 m.m3 := by rw [selM_eq, pk_rcode h (by decide)]
    cases hf : fndB 70 l with
    | true =>
      by_cases hE : rtE (fndN 70 l) (rcode l 4 m.m3) = 0
      · rw [appR_g h hf hE]
        exact core_eq h m _ rfl (by rw [numM_tw hf (by rw [u3]; exact hE), u3])
      · rw [appR_f h hf hE, appM2 h rfl (by rw [numM_e hf (by rw [u3]; exact hE), u3]; exact hE), numM_e hf (by rw [u3]; exact hE), u3]
    | false =>
      rw [appR_n h hf]
      exact core_eq h m m.m16 rfl (by rw [numM_f hf, show wM16 (selM (cds l mnil) m) m.m16 = selM (cds l mnil) m by rw [selM_eq]; rfl])
  · rw [appM1 h, appR_c h]
end Go.Proofs.Ytcfgklmpfkmdkaa
