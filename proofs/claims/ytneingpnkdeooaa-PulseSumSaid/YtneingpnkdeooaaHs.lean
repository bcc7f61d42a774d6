/-
  HL, part s: a region whose order is open is what it is in the order of its text.
  Conditions: none.
-/
import Derived.Test.YtneingpnkdeooaaHr
namespace Go.HL
open Go

section
variable {P : Program} {n : Nat} {G G' : Ghost} {st : HSt} {a : Act} {w w' : World} {o : Oper} {Q : Exit → Act → World → Prop} {K : HSt → Prop} {C : Ctx} {ops : List Oper} {ms : List Nat}

theorem setsTo_other : ∀ {l : List (Nat × HV)} {e : Nat → HV} {x : Nat}, (∀ p ∈ l, p.1 ≠ x) → setsTo e l x = e x
  | [], _, _, _ => rfl
  | (d, v) :: l, e, x, h => (setsTo_other (l := l) (fun p hp => h p (List.mem_cons_of_mem _ hp))).trans (upd_ne _ _ (Ne.symm (h (d, v) (by simp))))

theorem boxesTo_other : ∀ {l : List (Nat × List HC)} {e : Nat → Option (List HC)} {x : Nat}, (∀ p ∈ l, p.1 ≠ x) → boxesTo e l x = e x
  | [], _, _, _ => rfl
  | (d, v) :: l, e, x, h => (boxesTo_other (l := l) (fun p hp => h p (List.mem_cons_of_mem _ hp))).trans (upd_ne _ _ (Ne.symm (h (d, v) (by simp))))

theorem setsTo_ext : ∀ {l : List (Nat × HV)} {e e' : Nat → HV} {x : Nat}, (e x = e' x ∨ ∃ p ∈ l, p.1 = x) → setsTo e l x = setsTo e' l x
  | [], _, _, _, h => by
    rcases h with h | ⟨p, hp, _⟩
    · exact h
    · cases hp
  | (d, v) :: l, e, e', x, h => by
    show setsTo (upd e d v) l x = setsTo (upd e' d v) l x
    refine setsTo_ext ?_
    by_cases hx : x = d
    · subst hx; exact .inl (by rw [upd_same, upd_same])
    · rcases h with h | ⟨p, hp, hpx⟩
      · exact .inl (by rw [upd_ne _ _ hx, upd_ne _ _ hx]; exact h)
      · rcases List.mem_cons.1 hp with he | hp
        · subst he; exact absurd hpx.symm hx
        · exact .inr ⟨p, hp, hpx⟩

theorem boxesTo_ext : ∀ {l : List (Nat × List HC)} {e e' : Nat → Option (List HC)} {x : Nat}, (e x = e' x ∨ ∃ p ∈ l, p.1 = x) → boxesTo e l x = boxesTo e' l x
  | [], _, _, _, h => by
    rcases h with h | ⟨p, hp, _⟩
    · exact h
    · cases hp
  | (d, v) :: l, e, e', x, h => by
    show boxesTo (upd e d (some v)) l x = boxesTo (upd e' d (some v)) l x
    refine boxesTo_ext ?_
    by_cases hx : x = d
    · subst hx; exact .inl (by rw [upd_same, upd_same])
    · rcases h with h | ⟨p, hp, hpx⟩
      · exact .inl (by rw [upd_ne _ _ hx, upd_ne _ _ hx]; exact h)
      · rcases List.mem_cons.1 hp with he | hp
        · subst he; exact absurd hpx.symm hx
        · exact .inr ⟨p, hp, hpx⟩

theorem setsTo_comm {l m : List (Nat × HV)} (h : ∀ p ∈ l, ∀ q ∈ m, p.1 ≠ q.1) (e : Nat → HV) : setsTo (setsTo e l) m = setsTo (setsTo e m) l := by
  funext x
  by_cases hl : ∃ p ∈ l, p.1 = x
  · obtain ⟨p, hp, hpx⟩ := hl
    rw [setsTo_other (l := m) (fun q hq e => h p hp q hq (hpx.trans e.symm))]
    exact setsTo_ext (.inr ⟨p, hp, hpx⟩)
  · have hl' : ∀ p ∈ l, p.1 ≠ x := fun p hp e => hl ⟨p, hp, e⟩
    rw [setsTo_other (l := l) hl']
    exact setsTo_ext (.inl (setsTo_other hl'))

theorem boxesTo_comm {l m : List (Nat × List HC)} (h : ∀ p ∈ l, ∀ q ∈ m, p.1 ≠ q.1) (e : Nat → Option (List HC)) : boxesTo (boxesTo e l) m = boxesTo (boxesTo e m) l := by
  funext x
  by_cases hl : ∃ p ∈ l, p.1 = x
  · obtain ⟨p, hp, hpx⟩ := hl
    rw [boxesTo_other (l := m) (fun q hq e => h p hp q hq (hpx.trans e.symm))]
    exact boxesTo_ext (.inr ⟨p, hp, hpx⟩)
  · have hl' : ∀ p ∈ l, p.1 ≠ x := fun p hp e => hl ⟨p, hp, e⟩
    rw [boxesTo_other (l := l) hl']
    exact boxesTo_ext (.inl (boxesTo_other hl'))

theorem upd_comm {α : Type} {e : Nat → α} {x y : Nat} {u v : α} (h : x ≠ y) : upd (upd e x u) y v = upd (upd e y v) x u := by
  funext z
  by_cases h1 : z = x
  · subst h1; rw [upd_ne _ _ h, upd_same, upd_same]
  · by_cases h2 : z = y
    · subst h2; rw [upd_same, upd_ne _ _ (Ne.symm h), upd_same]
    · rw [upd_ne _ _ h2, upd_ne _ _ h1, upd_ne _ _ h1, upd_ne _ _ h2]

/-! ### the act of an operation -/

theorem actOf_tame (o : Oper) (env : Nat → HV) (box : Nat → Option (List HC)) : Tame (wrSlots (isTake ops o) o) (actOf C ops o env box).1 (actOf C ops o env box).2 := by
  have hsk : Tame (wrSlots (isTake ops o) o) [] (.set (skipUpd o)) := tame_set (by
    intro x hx
    unfold skipUpd at hx
    cases hd : o.dst with
    | none => rw [hd] at hx; cases hx
    | some d => rw [hd] at hx; simp at hx; subst hx; simp [wrSlots, hd]) (by simp [skipUpd])
  unfold actOf
  cases guardOf ops o with
  | none => exact osem_tame _ _ _ _ _ _ _
  | some sw =>
    obtain ⟨s, want⟩ := sw
    dsimp only
    split
    · rename_i v _
      cases (bif want then v else !v)
      · exact hsk
      · exact osem_tame _ _ _ _ _ _ _
    · exact hsk
    · exact tame_fail _ _

theorem actOf_congr {o : Oper} {env env' : Nat → HV} {box box' : Nat → Option (List HC)} (h : ∀ d, d ∈ rdSlots (isTake ops o) o → env d = env' d) (hg : ∀ d, d ∈ gSlots ops o → env d = env' d)
    (hb : ∀ k, (∃ wr, (k, wr) ∈ (actOf C ops o env box).1) → box k = box' k) : actOf C ops o env box = actOf C ops o env' box' := by
  have ht : ∀ d, d ∈ opTmps o → env d = env' d := fun d hd => h d (List.mem_append_left _ hd)
  unfold actOf at hb ⊢
  cases hgo : guardOf ops o with
  | none =>
    rw [hgo] at hb
    dsimp only at hb ⊢
    rw [opKeys_congr _ _ ht, osem_congr h hb]
  | some sw =>
    obtain ⟨s, want⟩ := sw
    rw [hgo] at hb
    have hs : env s = env' s := hg s (by unfold gSlots; rw [hgo]; simp)
    dsimp only at hb ⊢
    rw [← hs]
    split
    · rename_i v e
      rw [e] at hb
      dsimp only at hb
      cases hc : (bif want then v else !v) with
      | false => rfl
      | true =>
        rw [hc] at hb
        simp only [cond_true] at hb ⊢
        rw [opKeys_congr _ _ ht, osem_congr h hb]
    · rfl
    · rfl

/-! ### two bodies -/

theorem logOK_iff {i : Nat} {ks : List (Nat × Bool)} {log : Nat → List (Nat × Bool)} : logOK ops ms i ks log = true ↔ ks = [] ∨ ∀ j, j < ops.length →
    ((match ops[j]? with | some o => !isMem o | none => true) || Nat.beq i j || (ms.getD i 0).testBit j || (ms.getD j 0).testBit i || !clash ks (log j)) = true := by
  unfold logOK
  cases ks with
  | nil => simp
  | cons k ks =>
    simp only [allBelow, List.all_eq_true, List.mem_range]
    constructor
    · intro h; exact .inr h
    · rintro (h | h)
      · cases h
      · exact h

theorem body_iff {i : Nat} : body1 C true ops ms i o st K ↔ logOK ops ms i (actOf C ops o st.env st.box).1 st.log = true ∧ (actOf C ops o st.env st.box).2.pre ∧
    ∀ u, (actOf C ops o st.env st.box).2.out u → K ((st.app u).logged i (actOf C ops o st.env st.box).1) := by
  unfold body1
  simp only [cond_true]
  cases hl : logOK ops ms i (actOf C ops o st.env st.box).1 st.log
  · simp
  · simp only [cond_true, true_and, wp_iff]

theorem keys_nonmem {env : Nat → HV} {box : Nat → Option (List HC)} (h : isMem o = false) : (actOf C ops o env box).1 = [] := by
  have hk : ∀ t f, opKeys C.P t f o env = [] := by
    intro t f
    unfold opKeys
    dsimp only
    split <;> first
      | rfl
      | (rename_i e; unfold isMem at h; rw [e] at h; cases h)
  unfold actOf
  cases guardOf ops o with
  | none => exact hk _ _
  | some sw =>
    obtain ⟨s, want⟩ := sw
    dsimp only
    split
    · rename_i v _
      cases (bif want then v else !v)
      · rfl
      · exact hk _ _
    · rfl
    · rfl

theorem clash_symm {a b : List (Nat × Bool)} : clash a b = clash b a := by
  apply Bool.eq_iff_iff.2
  simp only [clash, List.any_eq_true, Bool.and_eq_true, Bool.or_eq_true]
  constructor
  · rintro ⟨x, hx, y, hy, he, hw⟩; exact ⟨y, hy, x, hx, by rw [Nat.eq_of_beq_eq_true he]; exact Nat.beq_refl _, hw.symm⟩
  · rintro ⟨x, hx, y, hy, he, hw⟩; exact ⟨y, hy, x, hx, by rw [Nat.eq_of_beq_eq_true he]; exact Nat.beq_refl _, hw.symm⟩

theorem no_clash {a b : List (Nat × Bool)} (h : clash a b = false) {k : Nat} {wr : Bool} (ha : (k, true) ∈ a) (hb : (k, wr) ∈ b) : False := by
  have : clash a b = true := by
    simp only [clash, List.any_eq_true, Bool.and_eq_true, Bool.or_eq_true]
    exact ⟨(k, true), ha, (k, wr), hb, Nat.beq_refl _, .inl rfl⟩
  rw [h] at this
  cases this

structure Apart (ops : List Oper) (x y : Oper) : Prop where
  wr_rd : ∀ d, d ∈ wrSlots (isTake ops x) x → d ∉ rdSlots (isTake ops y) y
  wr_wr : ∀ d, d ∈ wrSlots (isTake ops x) x → d ∉ wrSlots (isTake ops y) y
  wr_g : ∀ d, d ∈ wrSlots (isTake ops x) x → d ∉ gSlots ops y
  rd_wr : ∀ d, d ∈ wrSlots (isTake ops y) y → d ∉ rdSlots (isTake ops x) x
  g_wr : ∀ d, d ∈ wrSlots (isTake ops y) y → d ∉ gSlots ops x
  g_rd : ∀ d, d ∈ gSlots ops x → d ∉ rdSlots (isTake ops y) y
  rd_g : ∀ d, d ∈ gSlots ops y → d ∉ rdSlots (isTake ops x) x

theorem disj_iff {a b : List Nat} (h : disj a b = true) : ∀ d, d ∈ a → d ∉ b := by
  intro d ha hb
  unfold disj at h
  have := List.all_eq_true.1 h d ha
  rw [memN_iff.2 hb] at this
  cases this

theorem apart_spec {x y : Oper} (h : apart ops x y = true) : Apart ops x y := by
  unfold apart at h
  simp only [Bool.and_eq_true] at h
  obtain ⟨⟨⟨⟨⟨⟨h1, h2⟩, h3⟩, h4⟩, h5⟩, h6⟩, h7⟩ := h
  exact ⟨disj_iff h1, disj_iff h2, disj_iff h3, disj_iff h4, disj_iff h5, disj_iff h6, disj_iff h7⟩

theorem body_comm {x y : Nat} {ox oy : Oper} (hxy : x ≠ y) (hx : ops[x]? = some ox) (hy : ops[y]? = some oy) (hap : Apart ops ox oy) (hm1 : (ms.getD x 0).testBit y = false) (hm2 : (ms.getD y 0).testBit x = false)
    (hlx : st.log x = []) (h : body1 C true ops ms x ox st (fun st' => body1 C true ops ms y oy st' K)) : body1 C true ops ms y oy st (fun st' => body1 C true ops ms x ox st' K) := by
  rw [body_iff] at h ⊢
  obtain ⟨h1, h2, h3⟩ := h
  have tx := actOf_tame (C := C) (ops := ops) ox st.env st.box
  have ty := actOf_tame (C := C) (ops := ops) oy st.env st.box
  generalize hkx : actOf C ops ox st.env st.box = ax at *
  generalize hky : actOf C ops oy st.env st.box = ay at *
  -- the environment of y behind x, of x behind y
  have envx : ∀ u, ax.2.out u → ∀ d, d ∉ wrSlots (isTake ops ox) ox → (st.app u).env d = st.env d := fun u hu d hd => setsTo_other (fun p hp e => hd (e ▸ tx.sets u hu p hp))
  have envy : ∀ u, ay.2.out u → ∀ d, d ∉ wrSlots (isTake ops oy) oy → (st.app u).env d = st.env d := fun u hu d hd => setsTo_other (fun p hp e => hd (e ▸ ty.sets u hu p hp))
  -- no clash between the two
  have hnc : clash ay.1 ax.1 = false ∨ ax.1 = [] ∨ ay.1 = [] := by
    by_cases hxm : isMem ox = true
    · obtain ⟨u, hu⟩ := tx.strict h2
      have h4 := h3 u hu
      rw [body_iff] at h4
      have hkeys : (actOf C ops oy ((st.app u).logged x ax.1).env ((st.app u).logged x ax.1).box).1 = ay.1 ∨ True := .inr trivial
      have hl := h4.1
      -- the keys of y are the same there
      have hk : (actOf C ops oy (st.app u).env (st.app u).box).1 = ay.1 := by
        have e1 : (actOf C ops oy (st.app u).env (st.app u).box).1 = (actOf C ops oy st.env st.box).1 := by
          have ht : ∀ d, d ∈ rdSlots (isTake ops oy) oy → (st.app u).env d = st.env d := fun d hd => envx u hu d (fun hw => hap.wr_rd d hw hd)
          have hg : ∀ d, d ∈ gSlots ops oy → (st.app u).env d = st.env d := fun d hd => envx u hu d (fun hw => hap.wr_g d hw hd)
          have ht' : ∀ d, d ∈ opTmps oy → (st.app u).env d = st.env d := fun d hd => ht d (List.mem_append_left _ hd)
          unfold actOf
          cases hgo : guardOf ops oy with
          | none => exact opKeys_congr _ _ ht'
          | some sw =>
            obtain ⟨s, want⟩ := sw
            have hs : (st.app u).env s = st.env s := hg s (by unfold gSlots; rw [hgo]; simp)
            dsimp only
            rw [hs]
            split
            · rename_i v e
              cases (bif want then v else !v)
              · rfl
              · exact opKeys_congr _ _ ht'
            · rfl
            · rfl
        rw [e1, hky]
      have hl' : logOK ops ms y ay.1 (upd st.log x ax.1) = true := by rw [← hk]; exact hl
      rcases logOK_iff.1 hl' with hl | hl
      · exact .inr (.inr hl)
      · have hxl : x < ops.length := (List.getElem?_eq_some_iff.1 hx).1
        have := hl x hxl
        rw [hx, upd_same] at this
        have hyx : Nat.beq y x = false := by
          cases hq : Nat.beq y x with
          | false => rfl
          | true => exact absurd (Nat.eq_of_beq_eq_true hq).symm hxy
        simp only [hxm, Bool.not_true, hyx, hm1, hm2, Bool.false_or] at this
        exact .inl (by simpa using this)
    · have : isMem ox = false := by simpa using hxm
      refine .inr (.inl ?_)
      rw [← hkx]
      exact keys_nonmem this
  have hcl : ∀ k wr, (k, true) ∈ ax.1 → (k, wr) ∈ ay.1 → False := by
    intro k wr h1 h2
    rcases hnc with h | h | h
    · rw [clash_symm] at h; exact no_clash h h1 h2
    · rw [h] at h1; cases h1
    · rw [h] at h2; cases h2
  have hcl2 : ∀ k wr, (k, true) ∈ ay.1 → (k, wr) ∈ ax.1 → False := by
    intro k wr h1 h2
    rcases hnc with h | h | h
    · exact no_clash h h1 h2
    · rw [h] at h2; cases h2
    · rw [h] at h1; cases h1
  -- the act of y behind x is that before it, and the other way round
  have acty : ∀ u, ax.2.out u → actOf C ops oy (st.app u).env (st.app u).box = ay := by
    intro u hu
    rw [← hky]
    symm
    refine actOf_congr (fun d hd => (envx u hu d (fun hw => hap.wr_rd d hw hd)).symm) (fun d hd => (envx u hu d (fun hw => hap.wr_g d hw hd)).symm) (fun k ⟨wr, hk⟩ => ?_)
    rw [hky] at hk
    exact (boxesTo_other (fun p hp e => hcl k wr (by rw [← e]; exact tx.boxes u hu p hp) hk)).symm
  have actx : ∀ u, ay.2.out u → actOf C ops ox (st.app u).env (st.app u).box = ax := by
    intro u hu
    rw [← hkx]
    symm
    refine actOf_congr (fun d hd => (envy u hu d (fun hw => hap.rd_wr d hw hd)).symm) (fun d hd => (envy u hu d (fun hw => hap.g_wr d hw hd)).symm) (fun k ⟨wr, hk⟩ => ?_)
    rw [hkx] at hk
    exact (boxesTo_other (fun p hp e => hcl2 k wr (by rw [← e]; exact ty.boxes u hu p hp) hk)).symm
  obtain ⟨u0, hu0⟩ := tx.strict h2
  have h40 := h3 u0 hu0
  rw [body_iff] at h40
  have e0 : actOf C ops oy ((st.app u0).logged x ax.1).env ((st.app u0).logged x ax.1).box = ay := acty u0 hu0
  rw [e0] at h40
  refine ⟨?_, h40.2.1, fun v hv => ?_⟩
  · -- the log before x
    have hl : logOK ops ms y ay.1 (upd st.log x ax.1) = true := h40.1
    rw [logOK_iff] at hl ⊢
    rcases hl with hl | hl
    · exact .inl hl
    · refine .inr fun j hj => ?_
      have := hl j hj
      by_cases hjx : j = x
      · subst hjx
        rw [hlx]
        have hc : clash ay.1 [] = false := by simp [clash]
        rw [hc]
        simp
      · rw [upd_ne _ _ hjx] at this; exact this
  · rw [body_iff]
    have e1 : actOf C ops ox ((st.app v).logged y ay.1).env ((st.app v).logged y ay.1).box = ax := actx v hv
    rw [e1]
    refine ⟨?_, h2, fun u hu => ?_⟩
    · -- the log behind y
      show logOK ops ms x ax.1 (upd st.log y ay.1) = true
      rw [logOK_iff] at h1 ⊢
      rcases h1 with h1 | h1
      · exact .inl h1
      · by_cases hax : ax.1 = []
        · exact .inl hax
        · refine .inr fun j hj => ?_
          by_cases hjy : j = y
          · subst hjy
            rw [upd_same]
            have hc : clash ax.1 ay.1 = false := by
              rcases hnc with h | h | h
              · rw [clash_symm]; exact h
              · exact absurd h hax
              · rw [h]; simp [clash]
            rw [hc]
            simp
          · rw [upd_ne _ _ hjy]; exact h1 j hj
    · have h4 := h3 u hu
      rw [body_iff] at h4
      have e2 : actOf C ops oy ((st.app u).logged x ax.1).env ((st.app u).logged x ax.1).box = ay := acty u hu
      rw [e2] at h4
      have h5 := h4.2.2 v hv
      have he : (((st.app v).logged y ay.1).app u).logged x ax.1 = (((st.app u).logged x ax.1).app v).logged y ay.1 := by
        have h6 : setsTo (setsTo st.env v.sets) u.sets = setsTo (setsTo st.env u.sets) v.sets :=
          setsTo_comm (fun p hp q hq e => hap.wr_wr p.1 (by rw [e]; exact tx.sets u hu q hq) (ty.sets v hv p hp)) st.env
        have h7 : boxesTo (boxesTo st.box v.boxes) u.boxes = boxesTo (boxesTo st.box u.boxes) v.boxes :=
          boxesTo_comm (fun p hp q hq e => hcl q.1 true (tx.boxes u hu q hq) (by rw [← e]; exact ty.boxes v hv p hp)) st.box
        simp only [HSt.app, HSt.logged, h6, h7, upd_comm hxy]
      rw [he]
      exact h5
end

end Go.HL
