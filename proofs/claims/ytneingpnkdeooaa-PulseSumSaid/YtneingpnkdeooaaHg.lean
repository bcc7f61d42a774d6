/-
  HL, part g: new boxes, aggregates, moves.
  Conditions: none.
-/
import Derived.Test.YtneingpnkdeooaaHf
namespace Go.HL
open Go

section
variable {P : Program} {n : Nat} {G G' : Ghost} {st : HSt} {a : Act} {w w' : World} {o : Oper} {Q : Exit → Act → World → Prop} {K : HSt → Prop}

/-- cells pointwise -/
def CsRel (G : Ghost) (w : World) (cs : List HC) (vs : Array Value) : Prop :=
  vs.size = cs.length ∧ ∀ (j : Nat) (c : HC), cs[j]? = some c → ∃ u, vs[j]? = some u ∧ CRel G w none c u

theorem CRel.plain {L : Option Loc} {c : HC} {v : Value} (h : CRel G w L c v) : CRel G w L c.plain v := by
  cases c with
  | ptr r o => exact CRel.oneCell (c := .ptr r o) h
  | el ks row off => exact CRel.oneCell (c := .el ks row off) h
  | nilp => exact CRel.oneCell (c := .nilp) h
  | msl r n cap => exact CRel.oneCell (c := .msl r n cap) h
  | mp r s i k => exact CRel.oneCell (c := .mp r s i k) h
  | el2 ks rows => exact CRel.oneCell (c := .el2 ks rows) h
  | mapv r => exact CRel.oneCell (c := .mapv r) h
  | _ => exact h

theorem CRel.kept {L : Option Loc} {c : HC} {v : Value} (h : CRel G w L c v) : CRel G w L c.kept v := by
  cases c with
  | ptr r o => exact h
  | sl _ _ _ => exact h
  | el ks row o => exact CRel.plain (c := .el ks row o) h
  | nilp => exact CRel.plain (c := .nilp) h
  | msl r n cap => exact h
  | mp r s i k => exact CRel.plain (c := .mp r s i k) h
  | el2 ks rows => exact CRel.plain (c := .el2 ks rows) h
  | mapv r => exact CRel.plain (c := .mapv r) h
  | _ => exact h

theorem cells_one {v : Value} (h : v.oneCell' = true) : v.cells = #[v] := by
  cases v <;> first | rfl | cases h

theorem cells_rel {L : Option Loc} {hv : HV} {v : Value} {cs : List HC} (h : VRel G w L hv v) (hc : hv.cells = some cs) : CsRel G w cs v.cells := by
  cases hv with
  | ce c =>
    cases hc
    have h1 : CRel G w none c v := CRel.drop h
    rw [cells_one (CRel.oneCell h)]
    refine ⟨rfl, fun j c' hj => ?_⟩
    match j, hj with
    | 0, hj => cases hj; exact ⟨v, rfl, h1⟩
    | j + 1, hj => cases hj
  | agg ds =>
    cases hc
    obtain ⟨vs, rfl, hs, hr⟩ := h
    exact ⟨hs, hr⟩
  | tup _ => cases hc
  | junk => cases hc

theorem CsRel.map {cs : List HC} {vs : Array Value} (f : HC → HC) (hf : ∀ c u, CRel G w none c u → CRel G w none (f c) u) (h : CsRel G w cs vs) : CsRel G w (cs.map f) vs := by
  refine ⟨by simpa using h.1, fun j c hc => ?_⟩
  rw [List.getElem?_map] at hc
  cases hj : cs[j]? with
  | none => simp [hj] at hc
  | some x =>
    simp [hj] at hc
    subst hc
    obtain ⟨u, hu, hr⟩ := h.2 j x hj
    exact ⟨u, hu, hf x u hr⟩

theorem CsRel.set {cs : List HC} {vs : Array Value} (h : CsRel G w cs vs) (j : Nat) {c : HC} {v : Value} (hc : CRel G w none c v) : CsRel G w (cs.set j c) (vs.setIfInBounds j v) := by
  refine ⟨by simpa using h.1, fun i d hd => ?_⟩
  rw [List.getElem?_set] at hd
  by_cases hij : j = i
  · subst hij
    rw [if_pos rfl] at hd
    split at hd
    · rename_i hlt
      cases hd
      exact ⟨v, by rw [Array.getElem?_setIfInBounds_self_of_lt (by rw [h.1]; exact hlt)], hc⟩
    · cases hd
  · rw [if_neg hij] at hd
    obtain ⟨u, hu, hr⟩ := h.2 i d hd
    exact ⟨u, by rw [Array.getElem?_setIfInBounds_ne hij]; exact hu, hr⟩

theorem CRel.pd {L : Option Loc} {c : HC} {v : Value} (h : CRel G w L c v) : CRel G w none c.plain.dis v := CRel.dis (CRel.plain h)

theorem CRel.kd {L : Option Loc} {c : HC} {v : Value} (h : CRel G w L c v) : CRel G w none c.kept.dis v := CRel.dis (CRel.kept h)

theorem setAt_fold : ∀ (ps : List HC) (us : List Value) (cs : List HC) (vs : Array Value) (off k : Nat), CsRel G w cs vs → us.length = ps.length →
    (∀ (j : Nat) (c : HC), ps[j]? = some c → ∃ u, us[j]? = some u ∧ CRel G w none c u) →
    CsRel G w (setAt cs (off + k) ps) ((us.zipIdx k).foldl (fun cs x => cs.setIfInBounds (off + x.2) x.1) vs)
  | [], us, cs, vs, off, k, h, hl, _ => by
    have : us = [] := List.eq_nil_of_length_eq_zero (by simpa using hl)
    subst this
    exact h
  | p :: ps, us, cs, vs, off, k, h, hl, hr => by
    match us, hl with
    | u :: us, hl =>
      rw [List.zipIdx_cons, List.foldl_cons]
      obtain ⟨u', hu', hp⟩ := hr 0 p rfl
      cases hu'
      exact setAt_fold ps us _ _ off (k + 1) (h.set (off + k) hp.kd) (by simpa using hl) (fun j c hj => by
        obtain ⟨u, hu, hc⟩ := hr (j + 1) c (by simpa using hj)
        exact ⟨u, by simpa using hu, hc⟩)

theorem fill_rel (pl : Nat → Option (Nat × Nat)) (ev : Operand → HV) (ρ : Operand → Value) : ∀ (l : List (Nat × Operand)) (cs : List HC) (vs : Array Value) (cs' : List HC),
    CsRel G w cs vs → (∀ p ∈ l, ∃ L, VRel G w L (ev p.2) (ρ p.2)) → hfill pl cs (l.map fun p => (p.1, ev p.2)) = some cs' →
    ∃ vs', Instr.fill pl vs (l.map fun p => (p.1, ρ p.2)) = some vs' ∧ CsRel G w cs' vs'
  | [], cs, vs, cs', h, _, hf => by cases hf; exact ⟨vs, rfl, h⟩
  | (i, x) :: l, cs, vs, cs', h, hr, hf => by
    rw [List.map_cons] at hf ⊢
    unfold hfill at hf
    split at hf
    · rename_i off size ps hpl hc
      cases hb : (Nat.beq ps.length size && Nat.ble (off + ps.length) cs.length) with
      | false => rw [hb] at hf; cases hf
      | true =>
        rw [hb] at hf
        simp only [cond_true] at hf
        rw [Bool.and_eq_true] at hb
        have h1 := Nat.eq_of_beq_eq_true hb.1
        have h2 := Nat.le_of_ble_eq_true hb.2
        obtain ⟨L, hv⟩ := hr (i, x) (by simp)
        have hcs : CsRel G w ps (ρ x).cells := cells_rel hv hc
        have hstep := setAt_fold ps (ρ x).cells.toList cs vs off 0 h (by simpa using hcs.1) (fun j c hj => by
          obtain ⟨u, hu, hr⟩ := hcs.2 j c hj
          exact ⟨u, by simpa using hu, hr⟩)
        obtain ⟨vs', hf', hr'⟩ := fill_rel pl ev ρ l _ _ cs' hstep (fun p hp => hr p (List.mem_cons_of_mem _ hp)) hf
        refine ⟨vs', ?_, hr'⟩
        unfold Instr.fill
        simp only [hpl]
        rw [if_neg]
        · rw [← hf']
          congr 1
          rw [← Array.foldl_toList, Array.toList_zipIdx]
        · have := hcs.1
          have := h.1
          simp
          omega
    · cases hf

theorem zmatches_rel : ∀ {cs : List HC} {vs : List Value}, zmatches cs vs = true → vs.length = cs.length ∧ ∀ (j : Nat) (c : HC), cs[j]? = some c → ∃ u, vs[j]? = some u ∧ ∀ (L : Option Loc), CRel G w L c u ∧ ∀ r o, BRel G w r o c u
  | [], [], _ => ⟨rfl, fun j c h => by simp at h⟩
  | c :: cs, v :: vs, h => by
    unfold zmatches at h
    rw [Bool.and_eq_true] at h
    obtain ⟨h1, h2⟩ := h
    obtain ⟨hl, hr⟩ := zmatches_rel h2
    refine ⟨by simp [hl], fun j d hd => ?_⟩
    match j, hd with
    | j + 1, hd => exact hr j d hd
    | 0, hd =>
      cases hd
      refine ⟨v, rfl, fun L => ?_⟩
      unfold zmatch at h1
      split at h1
      · simp at h1; subst h1; exact ⟨rfl, fun _ _ => rfl⟩
      · rw [Bool.and_eq_true] at h1
        obtain ⟨e1, e2⟩ := h1
        obtain rfl := kEq_eq e1
        simp at e2; subst e2; exact ⟨rfl, fun _ _ => rfl⟩
      · exact ⟨rfl, fun _ _ => rfl⟩
      · exact ⟨rfl, fun _ _ => rfl⟩
      · cases h1
  | [], _ :: _, h => by cases h
  | _ :: _, [], h => by cases h

theorem zeroCs_spec {t : TypeId} {cs : List HC} (h : zeroCs P t = some cs) : ∃ i z, P.info? t = some i ∧ i.zero = some z ∧ i.size = cs.length ∧ zmatches cs z.cells.toList = true := by
  unfold zeroCs at h
  split at h
  · rename_i cs' i hz hi
    split at h
    · rename_i z hzz
      cases hb : (zmatches cs' z.cells.toList && Nat.beq i.size cs'.length) with
      | false => rw [hb] at h; cases h
      | true =>
        rw [hb] at h
        cases h
        rw [Bool.and_eq_true] at hb
        exact ⟨i, z, hi, hzz, Nat.eq_of_beq_eq_true hb.2, hb.1⟩
    · cases h
  · cases h

theorem run_fieldPlaces : ∀ (fs : List Field) (pl : List (Nat × Nat)), fieldPlaces P fs = some pl →
    (fs.mapM fun f => (do pure (f.offset, ← sizeOf f.type) : Sem (Nat × Nat))).run P w = .ok pl w
  | [], pl, h => by simp [fieldPlaces] at h; subst h; simp
  | f :: fs, pl, h => by
    unfold fieldPlaces at h
    rw [List.mapM_cons] at h
    cases hs : sizeT P f.type with
    | none => simp [hs] at h
    | some m =>
      cases hr : fieldPlaces P fs with
      | none => unfold fieldPlaces at hr; simp [hs, hr] at h
      | some l =>
        have ih := run_fieldPlaces fs l hr
        unfold fieldPlaces at hr
        simp [hs, hr] at h
        subst h
        rw [List.mapM_cons]
        simp only [Sem.run_bind, run_sizeOf hs, Result.andThen_ok, Sem.run_pure, ih]

theorem build_sound (h : Rel n G st a w) (s : Sides n o) {t : TypeId} {parts : Array (Nat × Operand)} (ho : o.op = .build t parts)
    (hk : (buildSem P t (parts.toList.map fun p => (p.1, evalO P st.env o.type p.2)) o.dst).wp st K) : o.wp P a w (Post n G w K) Q := by
  have hops : ∀ p ∈ parts.toList, ∃ L, VRel G w L (evalO P st.env o.type p.2) (a.eval p.2) := fun p hp =>
    s.ev (P := P) h o.type (x := p.2) (by rw [ho]; simp only [Op.operands]; simp; exact ⟨p.1, by simpa using hp⟩)
  have hz : ∀ {cs : List HC} {i : TypeInfo} {z : Value}, zmatches cs z.cells.toList = true → CsRel G w cs z.cells := by
    intro cs i z hm
    obtain ⟨hl, hr⟩ := zmatches_rel (G := G) (w := w) hm
    refine ⟨by simpa using hl, fun j c hj => ?_⟩
    obtain ⟨u, hu, hc⟩ := hr j c hj
    exact ⟨u, by simpa using hu, (hc none).1⟩
  have hpm : (parts.map fun (i, x) => (i, a.eval x)).toList = parts.toList.map fun p => (p.1, a.eval p.2) := by simp
  unfold buildSem at hk
  split at hk
  · rename_i z fs hzc hu
    obtain ⟨i, zv, hi, hzv, hsz, hm⟩ := zeroCs_spec hzc
    split at hk
    case h_2 => exact hk.elim
    rename_i pl hpl
    split at hk
    case h_2 => exact hk.elim
    rename_i cs hf
    obtain ⟨vs', hfill, hr⟩ := fill_rel (G := G) (w := w) (pl[·]?) (evalO P st.env o.type) a.eval parts.toList z zv.cells cs (hz (i := i) hm) hops hf
    refine ok_sound h s (show VRel G w none (.agg cs) (.agg vs') from ⟨vs', rfl, hr.1, hr.2⟩) ?_ hk
    unfold execOp
    simp only [ho, Instr.build, Sem.run_bind, zeroValue, typeInfo, run_program, hi, hzv, Result.andThen_ok, Sem.run_pure, run_underlying hu]
    rw [Array.mapM_eq_mapM_toList]
    have hmm := run_fieldPlaces (P := P) (w := w) fs.toList pl hpl
    rw [Sem.run_map, hmm]
    simp only [Result.andThen_ok]
    have hgf : (fun x : Nat => pl.toArray[x]?) = fun x => pl[x]? := by funext x; simp
    rw [hgf, hpm, hfill]
    rfl
  · rename_i z len e hzc hu
    obtain ⟨i, zv, hi, hzv, hsz, hm⟩ := zeroCs_spec hzc
    split at hk
    case h_2 => exact hk.elim
    rename_i sz hs
    split at hk
    case h_2 => exact hk.elim
    rename_i cs hf
    obtain ⟨vs', hfill, hr⟩ := fill_rel (G := G) (w := w) (fun i => some (i * sz, sz)) (evalO P st.env o.type) a.eval parts.toList z zv.cells cs (hz (i := i) hm) hops hf
    refine ok_sound h s (show VRel G w none (.agg cs) (.agg vs') from ⟨vs', rfl, hr.1, hr.2⟩) ?_ hk
    unfold execOp
    simp only [ho, Instr.build, Sem.run_bind, zeroValue, typeInfo, run_program, hi, hzv, Result.andThen_ok, Sem.run_pure, run_underlying hu, run_sizeOf hs]
    rw [hpm, hfill]
    rfl
  · exact hk.elim

/-! #### moves -/

/-- the owner of one block goes to another place -/
def Ghost.give (G : Ghost) (b : Nat) (L : Loc) : Ghost := { G with owner := upd G.owner b (some L) }

theorem upd_some {α : Type} {f : Nat → Option α} {b x : Nat} {v u : α} (h : upd f b (some v) x = some u) : (x = b ∧ u = v) ∨ f x = some u := by
  by_cases hx : x = b
  · subst hx; rw [upd_same] at h; cases h; exact .inl ⟨rfl, rfl⟩
  · rw [upd_ne _ _ hx] at h; exact .inr h

theorem Pres.give {b : Nat} {L L' : Loc} (hb : G.owner b = some L) : Pres G w (G.give b L') w (fun x => x ≠ L) :=
  ⟨fun _ _ h => ⟨h, rfl⟩, fun _ _ h => h, fun b' L'' hL h => by
    have hne : b' ≠ b := fun e => by subst e; rw [hb] at h; cases h; exact hL rfl
    exact ⟨(upd_ne _ _ hne).trans h, rfl, fun _ h => h⟩⟩

theorem Evolves.give {b : Nat} {L L' : Loc} (hb : G.owner b = some L) : Evolves G w (G.give b L') w :=
  ⟨rfl, rfl, rfl, Nat.le_refl _, fun _ _ h => ⟨h, rfl⟩, fun b' _ h => by
    have hne : b' ≠ b := fun e => by subst e; rw [hb] at h; cases h
    exact ⟨(upd_ne _ _ hne).trans h, rfl, fun _ h => h⟩, fun _ _ _ h => h⟩

theorem Mem.give {bx : Nat → Option (List HC)} {b d s : Nat} (h : Mem G bx w) (hb : G.owner b = some (.tmp s)) : Mem (G.give b (.tmp d)) bx w :=
  ⟨fun r cells hr => (h.box r cells hr).pres (Pres.give hb) (by simp) (by simp), h.beta, fun b' L hL => by
    rcases upd_some hL with ⟨rfl, _⟩ | hL
    · exact h.own _ _ hb
    · exact h.own _ _ hL, h.imm⟩

/-- the three sets of a taking -/
theorem env_take {env : Nat → HV} {d s : Nat} {v f : HV} (hd : d < 100000) (x : Nat) (hx : x < 100000) :
    setsTo env [(d, v), (FL d, f), (FL s, .ce (.lit false))] x = (if x = d then v else env x) ∧
    flagL (setsTo env [(d, v), (FL d, f), (FL s, .ce (.lit false))]) x = (if x = s then none else if x = d then (bif isOwn f then some (.tmp d) else none) else flagL env x) := by
  constructor
  · show upd (upd (upd env d v) (FL d) f) (FL s) _ x = _
    rw [upd_ne _ _ (Ne.symm (FL_ne hx)), upd_ne _ _ (Ne.symm (FL_ne hx))]
    split
    · rename_i h; subst h; exact upd_same _ _ _
    · rename_i h; exact upd_ne _ _ h
  · unfold flagL
    show (bif isOwn (upd (upd (upd env d v) (FL d) f) (FL s) (.ce (.lit false)) (FL x)) then some (Loc.tmp x) else none) = _
    split
    · rename_i h; subst h; rw [upd_same]; rfl
    · rename_i h
      rw [upd_ne _ _ (fun e => h (FL_inj e))]
      split
      · rename_i h2; subst h2; rw [upd_same]
      · rename_i h2; rw [upd_ne _ _ (fun e => h2 (FL_inj e)), upd_ne _ _ (FL_ne hd)]

/-- a slice goes, flag and all, from slot s to slot d -/
theorem take_rel (h : Rel n G st a w) (hn : n ≤ 100000) {d s : Nat} (hd : d < n) {ks : List Nat} {rows : List (List Int)} {v : Value}
    (hv : SRel G w (flagL st.env s) ks rows v) :
    ∃ G', Rel n G' { st with env := setsTo st.env [(d, .ce (.sl false ks rows)), (FL d, .ce (.lit (isOwn (st.env (FL s))))), (FL s, .ce (.lit false))] } (a.put (some d) v) w ∧ Evolves G w G' w := by
  have hd5 : d < 100000 := Nat.lt_of_lt_of_le hd hn
  -- what the new slot has, and what is kept
  have key : ∀ G' : Ghost, Pres G w G' w (fun x => x ≠ .tmp s) → Mem G' st.box w → (d ≠ s → SRel G' w (bif isOwn (st.env (FL s)) then some (.tmp d) else none) ks rows v) → SRel G' w none ks rows v →
      Rel n G' { st with env := setsTo st.env [(d, .ce (.sl false ks rows)), (FL d, .ce (.lit (isOwn (st.env (FL s))))), (FL s, .ce (.lit false))] } (a.put (some d) v) w := by
    intro G' hp hm h1 h2
    refine ⟨by rw [put_defers]; exact h.defers, by rw [put_size]; exact h.size, fun x hx => ?_, hm⟩
    obtain ⟨e1, e2⟩ := env_take (env := st.env) (s := s) (v := .ce (.sl false ks rows)) (f := .ce (.lit (isOwn (st.env (FL s))))) hd5 x hx
    show VRel G' w (flagL (setsTo st.env _) x) (setsTo st.env _ x) _
    by_cases hxd : x = d
    · subst hxd
      rw [e1, e2, tmps_put_same (by rw [h.size]; exact hd)]
      by_cases hxs : x = s
      · rw [if_pos hxs, if_pos rfl]; exact h2
      · rw [if_neg hxs, if_pos rfl, if_pos rfl]; exact h1 hxs
    · refine h.env_of hp x hx (by rw [e1, if_neg hxd]) (tmps_put_ne hxd) ?_
      rw [e2]
      by_cases hxs : x = s
      · exact .inl (by rw [if_pos hxs])
      · exact .inr ⟨by rw [if_neg hxs, if_neg hxd], by simp; exact hxs⟩
  have hcase : isOwn (st.env (FL s)) = false ∨ isOwn (st.env (FL s)) = true := by cases isOwn (st.env (FL s)) <;> simp
  rcases hcase with ho | ho
  · have hv' : SRel G w none ks rows v := hv.drop
    exact ⟨G, key G ⟨fun _ _ h => ⟨h, rfl⟩, fun _ _ h => h, fun _ _ _ h => ⟨h, rfl, fun _ h => h⟩⟩ h.mem (fun _ => by rw [ho]; exact hv') hv', Evolves.refl _ _⟩
  · have hfl : flagL st.env s = some (.tmp s) := by unfold flagL; rw [ho]; rfl
    rw [hfl] at hv
    obtain ⟨ad, cap, rfl, hc, hm, hr⟩ := hv
    rcases hr with hr | ⟨b, off, rfl, hi, hsp⟩
    · exact ⟨G, key G ⟨fun _ _ h => ⟨h, rfl⟩, fun _ _ h => h, fun _ _ _ h => ⟨h, rfl, fun _ h => h⟩⟩ h.mem (fun _ => ⟨ad, cap, rfl, hc, hm, .inl (nilCase hr (fun e => nomatch e))⟩) ⟨ad, cap, rfl, hc, hm, .inl (nilCase hr (fun e => nomatch e))⟩, Evolves.refl _ _⟩
    · obtain ⟨hob, cur, E, hh, hfit, hni⟩ := hsp _ rfl
      refine ⟨G.give b (.tmp d), key _ (Pres.give hob) (h.mem.give hob) (fun _ => ?_) ?_, Evolves.give hob⟩
      · rw [ho]
        exact ⟨_, cap, rfl, hc, hm, .inr ⟨b, off, rfl, hi, fun Lc he => by cases he; exact ⟨upd_same _ _ _, cur, E, hh, hfit, hni⟩⟩⟩
      · exact ⟨_, cap, rfl, hc, hm, .inr ⟨b, off, rfl, hi, fun Lc he => nomatch he⟩⟩

theorem takeOS_sound (h : Rel n G st a w) (s : Sides n o) {t : Nat} (ht : t < 100000) (hrun : (execOp a.eval o).run P w = .ok (.value (a.tmps.getD t undef)) w)
    (hk : (takeOS st.env t o.dst (st.env t)).wp st K) : o.wp P a w (Post n G w K) Q := by
  have h1 := h.env t ht
  unfold takeOS at hk
  split at hk
  · rename_i own ks rows d e1 hd
    rw [e1] at h1
    obtain ⟨G', hr, hev⟩ := take_rel h s.le (s.dst d hd) h1
    refine wp_value hrun ⟨_, G', hk, ?_, hev⟩
    rw [hd]
    exact hr
  · rename_i hne
    cases hv2 : st.env t with
    | ce c =>
      rw [hv2] at h1 hk hne
      cases c with
      | sl own ks rows =>
        cases hd : o.dst with
        | none =>
          have hz : VRel G w none (.ce (.sl own ks rows)) (a.tmps.getD t undef) := VRel.drop h1
          exact ok_sound h s hz hrun hk
        | some d => exact absurd hd (fun e => hne own ks rows d rfl e)
      | _ => exact ok_sound h s (VRel.drop h1) hrun hk
    | _ => rw [hv2] at h1 hk; exact ok_sound h s (VRel.drop h1) hrun hk
end

end Go.HL
