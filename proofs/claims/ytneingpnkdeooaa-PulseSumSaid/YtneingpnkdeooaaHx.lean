/-
  HL, part x: whole functions are sound.
  Conditions: none.
-/
import Derived.Test.YtneingpnkdeooaaHw
import Derived.Laws.Sem
namespace Go.HL
open Go

section
variable {P : Program} {n : Nat} {G G' : Ghost} {st : HSt} {a : Act} {w w' : World} {o : Oper} {Q : Exit → Act → World → Prop} {K : HSt → Prop} {C : Ctx}

/-! ### what a function hands back -/

def tmpVal (tmps : Array Value) : ResultVar → Value
  | .tmp t => tmps.getD t undef
  | .cell _ _ => undef

theorem mapM_pure' {α β : Type} {f : α → Sem β} {g : α → β} : ∀ {l : List α}, (∀ x, x ∈ l → f x = pure (g x)) → l.mapM f = pure (l.map g)
  | [], _ => by simp
  | x :: l, h => by
    rw [List.mapM_cons, h x (by simp), mapM_pure' (l := l) fun y hy => h y (by simp [hy])]
    simp

theorem results_run {fn : Func} {tmps : Array Value} (h : ∀ r, r ∈ fn.results.toList → ∃ t, r = .tmp t) :
    (results fn tmps).run P w = .ok (if hs : (fn.results.map (tmpVal tmps)).size = 1 then (fn.results.map (tmpVal tmps))[0] else .tuple (fn.results.map (tmpVal tmps))) w := by
  have key : ∀ f : ResultVar → Sem Value, (∀ t, f (.tmp t) = pure (tmps.getD t undef)) → fn.results.mapM f = pure (fn.results.map (tmpVal tmps)) := fun f hf => by
    rw [Array.mapM_eq_mapM_toList, mapM_pure' (g := tmpVal tmps) fun r hr => by obtain ⟨t, rfl⟩ := h r hr; exact hf t]
    simp only [map_pure]
    rw [show (fn.results.toList.map (tmpVal tmps)).toArray = fn.results.map (tmpVal tmps) from Array.ext' (by simp)]
  unfold results
  rw [key _ fun _ => rfl]
  rfl

/-! ### the ghost behind a function -/

def locRet (np : Nat) (nb t : Option Nat) : Loc → Option Loc
  | .box r => if r < np then some (.box r) else if nb = some r then some (.box 500) else none
  | .cell r o => if r < np then some (.cell r o) else if nb = some r then some (.cell 500 o) else none
  | .tmp s => if t = some s then some .res else none
  | .res => none

def Ghost.ret (G : Ghost) (np : Nat) (nb t : Option Nat) : Ghost :=
  { imm := G.imm
    beta := fun r => if r < np then G.beta r else if r = 500 then nb.bind G.beta else none
    owner := fun b => (G.owner b).bind (locRet np nb t) }

variable {np : Nat} {nb t : Option Nat}

theorem ret_owner {L M : Loc} {b : Nat} (h : G.owner b = some L) (hl : locRet np nb t L = some M) : (G.ret np nb t).owner b = some M := by
  show (G.owner b).bind (locRet np nb t) = some M
  rw [h]; exact hl

theorem ret_evolves (h5 : np < 500) : Evolves G w (G.ret np nb t) w := by
  refine ⟨rfl, rfl, rfl, Nat.le_refl _, fun _ _ h => ⟨h, rfl⟩, fun b _ ho => ⟨?_, rfl, fun _ h => h⟩, fun r b hr hb => ?_⟩
  · show (G.owner b).bind _ = none
    rw [ho]; rfl
  · have : (if r < np then G.beta r else if r = 500 then nb.bind G.beta else none) = some b := hb
    split at this
    · exact this
    · split at this
      · omega
      · cases this

theorem BoxAt.ret {r r' : Nat} {cells : List HC} (hr : locRet np nb t (.box r) = some (.box r')) (hc : ∀ o, locRet np nb t (.cell r o) = some (.cell r' o)) (hbeta : ∀ b, G.beta r = some b → (G.ret np nb t).beta r' = some b)
    (h : BoxAt G w r cells) : BoxAt (G.ret np nb t) w r' (cells.map HC.plain) :=
  BoxAt.loc (G1 := G) (r := r) (fun _ _ e => e) (fun _ _ _ e => e) (fun _ e => ret_owner e hr) (fun _ o e => ret_owner e (hc o)) hbeta h

theorem plain_ret {c : HC} {v : Value} (h : CRel G w none c v) : CRel (G.ret np nb t) w none c.plain v := by
  cases c with
  | sl o' ks rows => exact SRel.loc (G1 := G) (L1 := none) (fun _ _ e => e) (fun _ _ _ e => e) (fun _ e => nomatch e) h
  | mu _ _ => exact h.elim
  | ptr r o => exact CRel.oneCell (G := G) (w := w) (L := none) (c := .ptr r o) h
  | el ks row k => exact CRel.oneCell (G := G) (w := w) (L := none) (c := .el ks row k) h
  | nilp => exact CRel.oneCell (G := G) (w := w) (L := none) (c := .nilp) h
  | msl r o cap => exact CRel.oneCell (G := G) (w := w) (L := none) (c := .msl r o cap) h
  | mp r s i o => exact CRel.oneCell (G := G) (w := w) (L := none) (c := .mp r s i o) h
  | nsls ks ll => exact NRel.loc (G1 := G) (fun _ _ e => e) h
  | el2 ks rows => exact CRel.oneCell (G := G) (w := w) (L := none) (c := .el2 ks rows) h
  | mapv r => exact CRel.oneCell (G := G) (w := w) (L := none) (c := .mapv r) h
  | _ => exact h

theorem agg_ret {cs : List HC} {v : Value} (h : ARel G w cs v) : ARel (G.ret np nb t) w (cs.map HC.plain) v := by
  obtain ⟨vs, hv, hs, hr⟩ := h
  refine ⟨vs, hv, by simpa using hs, fun j c hj => ?_⟩
  rw [List.getElem?_map] at hj
  cases hj2 : cs[j]? with
  | none => simp [hj2] at hj
  | some e =>
    simp [hj2] at hj
    subst hj
    obtain ⟨u, hu, hr⟩ := hr j e hj2
    exact ⟨u, hu, plain_ret hr⟩

/-- how one result leaves -/
def Leaves (np : Nat) (st : HSt) (nb : Option Nat) (r : ResultVar) (x : H0 × Bool × List (List HC)) : Prop :=
  ∃ s, r = .tmp s ∧ s < 100000 ∧
    ((∃ c c', st.env s = .ce c ∧ x.1 = .ce c' ∧ x.2.1 = isOwn (st.env (FL s)) ∧
      ((∃ r o, c = .ptr r o ∧ r < np ∧ c' = c) ∨ (∃ r, c = .ptr r 0 ∧ nb = some r ∧ np ≤ r ∧ c' = .ptr 500 0) ∨ (c' = c ∧ c.nob = c) ∨
       (∃ r, c = .mapv r ∧ r < np ∧ c' = c) ∨ (∃ r, c = .mapv r ∧ nb = some r ∧ np ≤ r ∧ c' = .mapv 500))) ∨
     (∃ cs, st.env s = .agg cs ∧ x.1 = .agg (cs.map HC.plain) ∧ x.2.1 = false))

theorem resultOf_spec {r : ResultVar} {x : H0 × Bool × List (List HC)} (h : resultOf np st r = some x) :
    (x.2.2 = [] ∧ ∀ nb, Leaves np st nb r x) ∨ ∃ k cs, np ≤ k ∧ st.box k = some cs ∧ x.2.2 = [(cs.map HC.frz).map HC.plain] ∧ Leaves np st (some k) r x := by
  cases r with
  | cell a t => cases h
  | tmp s =>
    simp only [resultOf] at h
    cases hs : Nat.blt s 100000 with
    | false => rw [hs] at h; cases h
    | true =>
      rw [hs] at h
      simp only [cond_true] at h
      have hs' : s < 100000 := Nat.le_of_ble_eq_true (n := s + 1) hs
      split at h
      · rename_i c e
        cases c with
        | ptr k off =>
          simp only [outC] at h
          cases hk : Nat.blt k np with
          | true =>
            rw [hk] at h
            simp only [cond_true, Option.map_some, Option.some.injEq] at h
            subst h
            have hk' : k < np := Nat.le_of_ble_eq_true (n := k + 1) hk
            exact .inl ⟨rfl, fun nb => ⟨s, rfl, hs', .inl ⟨_, _, e, rfl, rfl, .inl ⟨k, off, rfl, hk', rfl⟩⟩⟩⟩
          | false =>
            rw [hk] at h
            simp only [cond_false] at h
            have hk' : np ≤ k := by
              rcases Nat.lt_or_ge k np with hlt | hge
              · have := Nat.ble_eq_true_of_le (show k + 1 ≤ np from hlt)
                exact absurd (show Nat.blt k np = true from this) (by rw [hk]; simp)
              · exact hge
            split at h
            · rename_i cs hcs
              cases ho : Nat.beq off 0 with
              | false => rw [ho] at h; cases h
              | true =>
                rw [ho] at h
                have ho' := Nat.eq_of_beq_eq_true ho
                subst ho'
                simp only [cond_true, Option.map_some, Option.some.injEq] at h
                subst h
                exact .inr ⟨k, cs, hk', hcs, rfl, s, rfl, hs', .inl ⟨_, _, e, rfl, rfl, .inr (.inl ⟨k, rfl, rfl, hk', rfl⟩)⟩⟩
            · cases h
        | mapv k =>
          simp only [outC] at h
          cases hk : Nat.blt k np with
          | true =>
            rw [hk] at h
            simp only [cond_true, Option.map_some, Option.some.injEq] at h
            subst h
            have hk' : k < np := Nat.le_of_ble_eq_true (n := k + 1) hk
            exact .inl ⟨rfl, fun nb => ⟨s, rfl, hs', .inl ⟨_, _, e, rfl, rfl, .inr (.inr (.inr (.inl ⟨k, rfl, hk', rfl⟩)))⟩⟩⟩
          | false =>
            rw [hk] at h
            simp only [cond_false] at h
            have hk' : np ≤ k := by
              rcases Nat.lt_or_ge k np with hlt | hge
              · have := Nat.ble_eq_true_of_le (show k + 1 ≤ np from hlt)
                exact absurd (show Nat.blt k np = true from this) (by rw [hk]; simp)
              · exact hge
            split at h
            · rename_i cs hcs
              simp only [Option.map_some, Option.some.injEq] at h
              subst h
              exact .inr ⟨k, cs, hk', hcs, rfl, s, rfl, hs', .inl ⟨_, _, e, rfl, rfl, .inr (.inr (.inr (.inr ⟨k, rfl, rfl, hk', rfl⟩)))⟩⟩
            · cases h
        | el _ _ _ => cases h
        | el2 _ _ => cases h
        | msl _ _ _ => cases h
        | mp _ _ _ _ => cases h
        | _ =>
          simp only [outC, Option.map_some, Option.some.injEq] at h
          subst h
          exact .inl ⟨rfl, fun nb => ⟨s, rfl, hs', .inl ⟨_, _, e, rfl, rfl, .inr (.inr (.inl ⟨rfl, rfl⟩))⟩⟩⟩
      · rename_i cs e
        cases h
        exact .inl ⟨rfl, fun nb => ⟨s, rfl, hs', .inr ⟨cs, e, rfl, rfl⟩⟩⟩
      · cases h

def newsOf (l : List (H0 × Bool × List (List HC))) : List (List HC) := (l.map fun x => x.2.2).flatten

theorem resultsOf_spec : ∀ {rs : List ResultVar} {l : List (H0 × Bool × List (List HC))}, resultsOf np st rs = some l → (newsOf l).length ≤ 1 →
    l.length = rs.length ∧ ((newsOf l = [] ∧ ∀ nb, ∀ (i : Nat) r, rs[i]? = some r → ∃ x, l[i]? = some x ∧ Leaves np st nb r x) ∨
      ∃ k cs, np ≤ k ∧ st.box k = some cs ∧ newsOf l = [(cs.map HC.frz).map HC.plain] ∧ ∀ (i : Nat) r, rs[i]? = some r → ∃ x, l[i]? = some x ∧ Leaves np st (some k) r x)
  | [], l, h, _ => by cases h; exact ⟨rfl, .inl ⟨rfl, fun nb i r hr => by simp at hr⟩⟩
  | r :: rs, l, h, hn => by
    unfold resultsOf at h
    split at h
    · rename_i x l' hx hl'
      cases h
      have hcons : newsOf (x :: l') = x.2.2 ++ newsOf l' := by simp [newsOf]
      rw [hcons] at hn ⊢
      obtain ⟨hlen, ht⟩ := resultsOf_spec hl' (by simp at hn; omega)
      refine ⟨by simp [hlen], ?_⟩
      have glue : ∀ nb, Leaves np st nb r x → (∀ (i : Nat) r, rs[i]? = some r → ∃ x, l'[i]? = some x ∧ Leaves np st nb r x) → ∀ (i : Nat) r', (r :: rs)[i]? = some r' → ∃ y, (x :: l')[i]? = some y ∧ Leaves np st nb r' y := by
        intro nb h1 h2 i r' hr
        match i, hr with
        | 0, hr => cases hr; exact ⟨x, rfl, h1⟩
        | i + 1, hr => simpa using h2 i r' (by simpa using hr)
      rcases resultOf_spec hx with ⟨e, hh⟩ | ⟨k, cs, hk, hcs, e, hh⟩
      · rw [e]
        rcases ht with ⟨e2, ht⟩ | ⟨k, cs, hk, hcs, e2, ht⟩
        · exact .inl ⟨by rw [e2]; rfl, fun nb => glue nb (hh nb) (ht nb)⟩
        · exact .inr ⟨k, cs, hk, hcs, by rw [e2]; rfl, glue _ (hh _) ht⟩
      · rw [e] at hn ⊢
        rcases ht with ⟨e2, ht⟩ | ⟨k2, cs2, _, _, e2, _⟩
        · exact .inr ⟨k, cs, hk, hcs, by rw [e2]; rfl, glue _ hh (ht _)⟩
        · rw [e2] at hn; simp at hn
    · cases h

theorem newsOf_single {rs : List ResultVar} {x : H0 × Bool × List (List HC)} (h : resultsOf np st rs = some [x]) : (newsOf [x]).length ≤ 1 := by
  cases rs with
  | nil => cases h
  | cons r rs =>
    unfold resultsOf at h
    split at h
    · rename_i x' l' hx hl'
      cases h
      have : newsOf [x] = x.2.2 := by simp [newsOf]
      rw [this]
      rcases resultOf_spec hx with ⟨e, _⟩ | ⟨_, _, _, _, e, _⟩ <;> rw [e] <;> simp
    · cases h

theorem leaves_rel (h5 : np < 500) (h : Rel n G st a w) {r : ResultVar} {x : H0 × Bool × List (List HC)} (hl : Leaves np st nb r x) {g : Bool} (hg : g = true → x.2.1 = true ∧ ∀ s, r = .tmp s → t = some s) :
    VRel (G.ret np nb t) w (bif g then some .res else none) x.1.hv (tmpVal a.tmps r) := by
  obtain ⟨s, rfl, hs, hc⟩ := hl
  have hr := h.env s hs
  show VRel _ w _ x.1.hv (a.tmps.getD s undef)
  rcases hc with ⟨c, c', e, hx, hx2, hcc⟩ | ⟨cs, e, hx, hx2⟩
  · rw [e] at hr
    rw [hx]
    have hr' : CRel G w (flagL st.env s) c (a.tmps.getD s undef) := hr
    show CRel (G.ret np nb t) w _ c' _
    rcases hcc with ⟨r, o, rfl, hrn, rfl⟩ | ⟨r, rfl, hnb, hrn, rfl⟩ | ⟨rfl, hnp⟩ | ⟨r, rfl, hrn, rfl⟩ | ⟨r, rfl, hnb, hrn, rfl⟩
    · obtain ⟨b, h1, h2⟩ := hr'
      exact ⟨b, by show (if r < np then G.beta r else _) = some b; rw [if_pos hrn]; exact h1, h2⟩
    · obtain ⟨b, h1, h2⟩ := hr'
      refine ⟨b, ?_, h2⟩
      show (if 500 < np then G.beta 500 else if 500 = 500 then nb.bind G.beta else none) = some b
      rw [if_neg (by omega), if_pos rfl, hnb]
      exact h1
    · cases c' with
      | sl own ks rows =>
        refine SRel.loc (G1 := G) (L1 := flagL st.env s) (fun _ _ e => e) (fun _ _ _ e => e) (fun M hM => ?_) hr'
        cases g with
        | false => cases hM
        | true =>
          cases hM
          obtain ⟨g1, g2⟩ := hg rfl
          have hfl : flagL st.env s = some (.tmp s) := by unfold flagL; rw [← hx2, g1]; rfl
          exact ⟨.tmp s, hfl, fun b hb => ret_owner hb (by simp [locRet, g2 s rfl])⟩
      | ptr r o => cases hnp
      | msl r o cap => cases hnp
      | mp r s i o => cases hnp
      | mapv r => cases hnp
      | nsls ks ll => exact NRel.loc (G1 := G) (fun _ _ e => e) hr'
      | el2 ks rows =>
        obtain ⟨b, o, u, hv, h1, h2⟩ := hr'
        exact ⟨b, o, u, hv, h1, SRel.loc (G1 := G) (L1 := none) (fun _ _ e => e) (fun _ _ ⟨_, e, _⟩ => nomatch e) (fun _ e => nomatch e) h2⟩
      | mu _ _ => exact hr'.elim
      | _ => exact hr'
    · obtain ⟨b, h1, h2⟩ := hr'
      exact ⟨b, by show (if r < np then G.beta r else _) = some b; rw [if_pos hrn]; exact h1, h2⟩
    · obtain ⟨b, h1, h2⟩ := hr'
      refine ⟨b, ?_, h2⟩
      show (if 500 < np then G.beta 500 else if 500 = 500 then nb.bind G.beta else none) = some b
      rw [if_neg (by omega), if_pos rfl, hnb]
      exact h1
  · rw [e] at hr
    rw [hx]
    exact agg_ret hr

theorem argEnv_spec : ∀ (l : List HV) (i d : Nat), argEnv i l d = if i ≤ d then (l[d - i]?).getD .junk else .junk
  | [], i, d => by simp [argEnv]
  | v :: l, i, d => by
    unfold argEnv
    by_cases hd : d = i
    · subst hd; rw [upd_same]; simp
    · rw [upd_ne _ _ hd, argEnv_spec l (i + 1) d]
      by_cases h : i ≤ d
      · have h1 : i + 1 ≤ d := by omega
        rw [if_pos h, if_pos h1]
        have : d - i = (d - (i + 1)) + 1 := by omega
        rw [this]
        rfl
      · rw [if_neg h, if_neg (by omega)]

theorem pre_rel {fn : Func} {hargs : List HV} {args : Array Value} {pars : List (List HC)} (h : PreRel G w hargs args pars) (h1 : hargs.length ≤ fn.ntmps) (h2 : fn.ntmps ≤ 100000) {log : Nat → List (Nat × Bool)} :
    Rel fn.ntmps G { env := argEnv 0 hargs, box := parBox pars, log := log } { tmps := args ++ Array.replicate (fn.ntmps - args.size) undef, defers := [] } w := by
  refine ⟨rfl, ?_, fun d hd => ?_, h.mem⟩
  · have := h.size
    simp
    omega
  · have hf : flagL (argEnv 0 hargs) d = none := by
      unfold flagL
      rw [argEnv_spec]
      have : hargs[FL d - 0]? = none := List.getElem?_eq_none (by unfold FL; omega)
      rw [if_pos (Nat.zero_le _), this]
      rfl
    show VRel G w (flagL (argEnv 0 hargs) d) (argEnv 0 hargs d) _
    rw [hf, argEnv_spec, if_pos (Nat.zero_le _), Nat.sub_zero]
    cases hv : hargs[d]? with
    | none => trivial
    | some hv' =>
      obtain ⟨v, ha, hr⟩ := h.args d hv' hv
      have hlt : d < args.size := (Array.getElem?_eq_some_iff.1 ha).1
      have : (args ++ Array.replicate (fn.ntmps - args.size) undef).getD d undef = v := by
        rw [Array.getD_eq_getD_getElem?, Array.getElem?_append_left hlt, ha]
        rfl
      show VRel G w none hv' ((args ++ Array.replicate (fn.ntmps - args.size) undef).getD d undef)
      rw [this]
      exact hr

/-- the new box, its cells fixed -/
theorem freeze_new (h : Rel n G st a w) (hnb : nb = none ∨ ∃ k cs, nb = some k ∧ np ≤ k ∧ st.box k = some cs) :
    ∃ G2 bx, Evolves G w G2 w ∧ Rel n G2 { st with box := bx } a w ∧ (∀ r, r < np → bx r = st.box r) ∧ (∀ k cs, nb = some k → st.box k = some cs → bx k = some (cs.map HC.frz)) ∧ ∀ r b, G.beta r = some b → G2.beta r = some b := by
  rcases hnb with rfl | ⟨k, cs, rfl, hk, hcs⟩
  · exact ⟨G, st.box, Evolves.refl _ _, h, fun _ _ => rfl, (fun _ _ e => nomatch e), fun _ _ e => e⟩
  · obtain ⟨G2, hp, hev, hm⟩ := h.mem.freeze hcs
    refine ⟨G2, upd st.box k (some (cs.map HC.frz)), hev, ⟨h.defers, h.size, fun d hd => (h.env d hd).pres hp (fun L hL => ?_), hm⟩, fun r hr => upd_ne _ _ (by omega), fun k' cs' e e2 => ?_, hp.beta⟩
    · rcases flagL_cases st.env d with e | e
      · rw [e] at hL; cases hL
      · rw [e] at hL; cases hL; exact fun k e => nomatch e
    · cases e
      rw [hcs] at e2
      cases e2
      exact upd_same _ _ _

theorem boxes_range {box : Nat → Option (List HC)} {m : Nat} {ps : List (List HC)} (h : parsOut box m = some ps) : ps.length = m ∧ ∀ j, j < m → ∃ c, box j = some c ∧ ps[j]? = some (c.map HC.plain) := by
  unfold parsOut at h
  cases hb : boxesOf box (List.range m) with
  | none => rw [hb] at h; cases h
  | some cs =>
    rw [hb] at h
    cases h
    obtain ⟨h1, h2⟩ := boxesOf_spec hb
    refine ⟨by simpa using h1, fun j hj => ?_⟩
    obtain ⟨h3, c, h4⟩ := h2 j j (by simp [hj])
    exact ⟨c, h3.trans h4, by simp [h4]⟩

/-- the boxes that go back -/
theorem ret_mem (h5 : np < 500) {bx : Nat → Option (List HC)} (hm : Mem G bx w) {r : Res} (hpl : r.pars.length = np) (hps : ∀ j, j < np → ∃ c, bx j = some c ∧ r.pars[j]? = some (c.map HC.plain))
    (hnews : (nb = none ∧ r.news = []) ∨ ∃ k cs, nb = some k ∧ np ≤ k ∧ bx k = some cs ∧ r.news = [cs.map HC.plain]) : Mem (G.ret np nb t) (resBox r) w := by
  refine ⟨fun j cells hj => ?_, fun j b hb => ?_, fun b L hL => ?_, hm.imm⟩
  · unfold resBox at hj
    split at hj
    · rename_i hj5
      have hjn : j < np := by rw [← hpl]; exact (List.getElem?_eq_some_iff.1 hj).1
      obtain ⟨c, h1, h2⟩ := hps j hjn
      rw [h2] at hj
      cases hj
      exact BoxAt.ret (r := j) (r' := j) (by simp [locRet, hjn]) (fun o => by simp [locRet, hjn]) (fun b e => by show (if j < np then G.beta j else _) = some b; rw [if_pos hjn]; exact e) (hm.box j c h1)
    · split at hj
      · rename_i hj5
        subst hj5
        rcases hnews with ⟨_, e⟩ | ⟨k, cs, rfl, hk, hcs, e⟩
        · rw [e] at hj; cases hj
        · rw [e] at hj
          cases hj
          have hkn : ¬ k < np := by omega
          exact BoxAt.ret (r := k) (r' := 500) (by simp [locRet, hkn]) (fun o => by simp [locRet, hkn])
            (fun b e => by show (if 500 < np then G.beta 500 else if 500 = 500 then G.beta k else none) = some b; rw [if_neg (by omega), if_pos rfl]; exact e) (hm.box k cs hcs)
      · cases hj
  · have hb' : (if j < np then G.beta j else if j = 500 then nb.bind G.beta else none) = some b := hb
    unfold resBox
    split at hb'
    · rename_i hjn
      obtain ⟨c, _, h2⟩ := hps j hjn
      exact ⟨_, by rw [if_pos (by omega)]; exact h2⟩
    · split at hb'
      · rename_i hj
        subst hj
        rcases hnews with ⟨rfl, e⟩ | ⟨k, cs, rfl, hk, hcs, e⟩
        · cases hb'
        · exact ⟨cs.map HC.plain, by rw [if_neg (by omega), if_pos rfl, e]; rfl⟩
      · cases hb'
  · have : (G.owner b).bind (locRet np nb t) = some L := hL
    cases ho : G.owner b with
    | none => rw [ho] at this; cases this
    | some L' => exact hm.own b L' ho

theorem results_rel {fn : Func} (h5 : np < 500) (h : Rel n G st a w) {l : List (H0 × Bool × List (List HC))} {ps : List (List HC)} {r : Res} (hl : resultsOf np st fn.results.toList = some l)
    (hps : parsOut st.box np = some ps) (hr : mkRes ps l = some r) : ∃ v G', (results fn a.tmps).run P w = .ok v w ∧ ResRel G' w r v ∧ Evolves G w G' w := by
  have hlen1 : (newsOf l).length ≤ 1 ∧ r.pars = ps ∧ r.news = newsOf l := by
    unfold mkRes at hr
    split at hr
    · cases hr
      exact ⟨newsOf_single hl, rfl, by simp [newsOf]⟩
    · dsimp only at hr
      cases hb : Nat.ble (l.map fun x => x.2.2).flatten.length 1 with
      | false => rw [hb] at hr; cases hr
      | true =>
        rw [hb] at hr
        cases hr
        exact ⟨Nat.le_of_ble_eq_true hb, rfl, rfl⟩
  obtain ⟨hn1, hrp, hrn⟩ := hlen1
  obtain ⟨hlen, hspec⟩ := resultsOf_spec hl hn1
  obtain ⟨nb, hnb, hleaves⟩ : ∃ nb : Option Nat, ((nb = none ∧ newsOf l = []) ∨ ∃ k cs, nb = some k ∧ np ≤ k ∧ st.box k = some cs ∧ newsOf l = [(cs.map HC.frz).map HC.plain]) ∧
      ∀ (i : Nat) r, fn.results.toList[i]? = some r → ∃ x, l[i]? = some x ∧ Leaves np st nb r x := by
    rcases hspec with ⟨e, hh⟩ | ⟨k, cs, hk, hcs, e, hh⟩
    · exact ⟨none, .inl ⟨rfl, e⟩, hh none⟩
    · exact ⟨some k, .inr ⟨k, cs, rfl, hk, hcs, e⟩, hh⟩
  obtain ⟨G2, bx, hev, hrel, hbx1, hbx2, _⟩ := freeze_new (nb := nb) h (by
    rcases hnb with ⟨e, _⟩ | ⟨k, cs, e, hk, hcs, _⟩
    · exact .inl e
    · exact .inr ⟨k, cs, e, hk, hcs⟩)
  obtain ⟨hp1, hp2⟩ := boxes_range hps
  have hleaves2 : ∀ (i : Nat) r, fn.results.toList[i]? = some r → ∃ x, l[i]? = some x ∧ Leaves np { st with box := bx } nb r x := hleaves
  have htmp : ∀ r, r ∈ fn.results.toList → ∃ t, r = .tmp t := fun r hr => by
    obtain ⟨i, hi⟩ := List.mem_iff_getElem?.1 hr
    obtain ⟨x, _, s, hs, _⟩ := hleaves i r hi
    exact ⟨s, hs⟩
  have hmem : ∀ t, Mem (G2.ret np nb t) (resBox r) w := fun t => by
    refine ret_mem h5 hrel.mem (by rw [hrp]; exact hp1) (fun j hj => ?_) ?_
    · obtain ⟨c, h1, h2⟩ := hp2 j hj
      exact ⟨c, (hbx1 j hj).trans h1, by rw [hrp]; exact h2⟩
    · rcases hnb with ⟨e, e2⟩ | ⟨k, cs, e, hk, hcs, e2⟩
      · exact .inl ⟨e, hrn.trans e2⟩
      · exact .inr ⟨k, _, e, hk, hbx2 k cs e hcs, hrn.trans e2⟩
  have hrun := results_run (P := P) (w := w) (fn := fn) (tmps := a.tmps) htmp
  unfold mkRes at hr
  split at hr
  · rename_i v own news
    cases hr
    have hsz : fn.results.size = 1 := by simpa using hlen.symm
    have hs2 : (fn.results.map (tmpVal a.tmps)).size = 1 := by simpa using hsz
    obtain ⟨r0, hr0⟩ : ∃ r0, fn.results.toList = [r0] := List.length_eq_one_iff.1 (by simpa using hsz)
    obtain ⟨x, hx, hlv⟩ := hleaves2 0 r0 (by rw [hr0]; rfl)
    cases hx
    obtain ⟨s, hs, _⟩ := id hlv
    have hval : (fn.results.map (tmpVal a.tmps))[0] = tmpVal a.tmps r0 := by
      have : fn.results = #[r0] := Array.ext' hr0
      simp [this]
    rw [dif_pos hs2, hval] at hrun
    refine ⟨_, G2.ret np nb (some s), hrun, ⟨?_, hmem _⟩, hev.trans (ret_evolves h5)⟩
    exact leaves_rel h5 hrel hlv (t := some s) (g := own) (fun e => ⟨e, fun s' e' => by rw [hs] at e'; cases e'; rfl⟩)
  · rename_i hne
    dsimp only at hr
    cases hb : Nat.ble (l.map fun x => x.2.2).flatten.length 1 with
    | false => rw [hb] at hr; cases hr
    | true =>
      rw [hb] at hr
      cases hr
      have hs2 : ¬ (fn.results.map (tmpVal a.tmps)).size = 1 := fun e => by
        have h1 : l.length = 1 := by rw [hlen]; simpa using e
        obtain ⟨⟨v, own, news⟩, hx⟩ := List.length_eq_one_iff.1 h1
        exact hne _ _ _ hx
      rw [dif_neg hs2] at hrun
      refine ⟨_, G2.ret np nb none, hrun, ⟨?_, hmem _⟩, hev.trans (ret_evolves h5)⟩
      refine ⟨_, rfl, by simp [hlen], fun j x hx => ?_⟩
      rw [List.getElem?_map] at hx
      cases hlj : l[j]? with
      | none => rw [hlj] at hx; cases hx
      | some y =>
        rw [hlj] at hx
        simp only [Option.map_some, Option.some.injEq] at hx
        subst hx
        have hjl : j < fn.results.toList.length := by rw [← hlen]; exact (List.getElem?_eq_some_iff.1 hlj).1
        obtain ⟨y', hy', hlv⟩ := hleaves2 j _ (List.getElem?_eq_getElem hjl)
        rw [hlj] at hy'
        cases hy'
        have hr2 := leaves_rel h5 hrel hlv (t := none) (g := false) (fun e => nomatch e)
        refine ⟨tmpVal a.tmps (fn.results.toList[j]), ?_, ?_⟩
        · simp at hjl
          simp [hjl]
        · cases hy1 : y.1 with
          | ce c => rw [hy1] at hr2; exact CRel.dis hr2
          | agg cs => rw [hy1] at hr2; exact hr2

theorem cell_rel {fn : Func} (h5 : np < 500) (h : Rel n G st a w) {s : Nat} {ty : TypeId} {v : HV} {ps : List (List HC)} (hrs : fn.results.toList = [.cell s ty]) (hv : cellRes P np st s ty = some v)
    (hps : parsOut st.box np = some ps) : ∃ u G', (results fn a.tmps).run P w = .ok u w ∧ ResRel G' w ⟨v, false, ps, []⟩ u ∧ Evolves G w G' w := by
  unfold cellRes at hv
  split at hv
  case h_2 => cases hv
  rename_i r o e
  cases hc : (Nat.beq o 0 && Nat.ble np r && Nat.blt s 100000) with
  | false => rw [hc] at hv; cases hv
  | true =>
    rw [hc] at hv
    simp only [cond_true] at hv
    simp only [Bool.and_eq_true] at hc
    obtain ⟨⟨ho, hr⟩, hs⟩ := hc
    have ho := Nat.eq_of_beq_eq_true ho
    have hr := Nat.le_of_ble_eq_true hr
    have hs : s < 100000 := Nat.le_of_ble_eq_true (n := s + 1) hs
    subst ho
    split at hv
    case h_2 => cases hv
    rename_i cells m hcells0 hm
    obtain ⟨hcells, hstd⟩ := stdB_some hcells0
    cases hml : Nat.beq m cells.length with
    | false => rw [hml] at hv; cases hv
    | true =>
      rw [hml] at hv
      simp only [cond_true] at hv
      have hml := Nat.eq_of_beq_eq_true hml
      obtain ⟨b, hb, hval⟩ : ∃ b, G.beta r = some b ∧ a.tmps.getD s undef = .pointer (some (at_ b 0)) := by
        have := h.env s hs
        rw [e] at this
        exact this
      obtain ⟨G2, bx, hev, hrel, hbx1, hbx2, hbeta⟩ := freeze_new (np := np) (nb := some r) h (.inr ⟨r, cells, rfl, hr, hcells⟩)
      obtain ⟨hp1, hp2⟩ := boxes_range hps
      have hmem : Mem (G2.ret np none none) (resBox ⟨v, false, ps, []⟩) w := ret_mem (nb := none) h5 hrel.mem hp1 (fun j hj => by
        obtain ⟨c, h1, h2⟩ := hp2 j hj
        exact ⟨c, (hbx1 j hj).trans h1, h2⟩) (.inl ⟨rfl, rfl⟩)
      have hbox := (hrel.mem.box r _ (hbx2 r cells rfl hcells)).std (std_frz hstd)
      obtain ⟨b2, vs, T, g1, g2, g3, g4, g5, g6⟩ := hbox
      have hbb : b2 = b := by
        have := hbeta r b hb
        rw [g1] at this
        cases this
        rfl
      subst hbb
      have hag : ∃ ag, isAggT P ty = some ag := by
        unfold asVal at hv
        cases hq : isAggT P ty with
        | none => rw [hq] at hv; cases hv
        | some ag => exact ⟨ag, rfl⟩
      obtain ⟨ag, hag⟩ := hag
      have hone : ag = false → m = 1 := fun e => by
        subst e
        unfold asVal at hv
        rw [hag] at hv
        dsimp only at hv
        split at hv
        · rename_i c hcc
          rw [hml]
          exact map_one hcc
        · cases hv
      obtain ⟨u, hrun, u1, u2⟩ := run_load_cells (P := P) (w := w) hag hm b2 0 vs.toList (by simp [g5, hml]) (fun j v hj => by
        have : vs[j]? = some v := by simpa using hj
        unfold World.cell? at_
        simp [g3, this]) hone
      refine ⟨u, G2.ret np none none, ?_, ⟨?_, hmem⟩, hev.trans (ret_evolves h5)⟩
      · have hfr : fn.results = #[.cell s ty] := Array.ext' hrs
        have hrun' : (loadVar ty (at_ b2 0)).run P w = .ok u w := by
          simpa [Instr.loadAt, Instr.sureAddr] using hrun
        unfold results
        rw [hfr]
        have hval' : (a.tmps[s]?).getD undef = .pointer (some (at_ b2 0)) := by rw [← Array.getD_eq_getD_getElem?]; exact hval
        simp [hval', asAddr, hrun']
      · refine asVal_rel hv (TVal.mk hag (us := vs.toList) (by simp [g5]) (fun j c hj => ?_) (by simpa using u1) u2)
        rw [List.getElem?_map] at hj
        cases hj2 : cells[j]? with
        | none => rw [hj2] at hj; cases hj
        | some d =>
          rw [hj2] at hj
          cases hj
          obtain ⟨x, hx, hxr⟩ := g6 j d.frz (by rw [List.getElem?_map, hj2]; rfl)
          exact ⟨x, by simpa using hx, plain_ret hxr.dis⟩

theorem Rel.softSt (h : Rel n G st a w) : Rel n G (HL.softSt st) a w := by
  refine ⟨h.defers, h.size, fun d hd => ?_, ?_⟩
  · have hf : flagL (HL.softSt st).env d = flagL st.env d := by
      show (bif isOwn (bif Nat.ble 100000 (FL d) then st.env (FL d) else (st.env (FL d)).soft) then some (Loc.tmp d) else none) = _
      have : Nat.ble 100000 (FL d) = true := Nat.ble_eq_true_of_le (by unfold FL; omega)
      rw [this]
      rfl
    have he : (HL.softSt st).env d = (st.env d).soft := by
      show (bif Nat.ble 100000 d then st.env d else (st.env d).soft) = _
      cases hb : Nat.ble 100000 d with
      | true => have := Nat.le_of_ble_eq_true hb; omega
      | false => rfl
    rw [hf, he]
    exact (h.env d hd).soft
  · refine ⟨fun r cells hr => ?_, fun r b hb => ?_, h.mem.own, h.mem.imm⟩
    · have hr' : (match st.box r with
        | some l => some (l.map HC.softB)
        | none => none) = some cells := hr
      cases hb : st.box r with
      | none => rw [hb] at hr'; cases hr'
      | some l => rw [hb] at hr'; cases hr'; exact (h.mem.box r l hb).soft
    · obtain ⟨c, hc⟩ := h.mem.beta r b hb
      refine ⟨c.map HC.softB, ?_⟩
      show (match st.box r with
        | some l => some (l.map HC.softB)
        | none => none) = _
      rw [hc]

/-! ### several results, of which some are variables of their own -/

theorem mapM_runs {α β : Type} {f : α → Sem β} {P : Program} {w : World} : ∀ {l : List α} {vs : List β}, vs.length = l.length → (∀ (i : Nat) x v, l[i]? = some x → vs[i]? = some v → (f x).run P w = .ok v w) → (l.mapM f).run P w = .ok vs w
  | [], [], _, _ => by simp
  | [], _ :: _, h, _ => by simp at h
  | _ :: _, [], h, _ => by simp at h
  | x :: l, v :: vs, h, hf => by
    have h1 := hf 0 x v rfl rfl
    have h2 := mapM_runs (l := l) (vs := vs) (by simpa using h) (fun i y u hy hu => hf (i + 1) y u hy hu)
    rw [List.mapM_cons]
    simp [Sem.run_bind, h1, h2]

theorem agg_ret2 {cs : List HC} {v : Value} (h : ARel G w cs v) : ARel (G.ret np nb t) w (cs.map HC.plain) v := by
  obtain ⟨vs, hv, hs, hr⟩ := h
  refine ⟨vs, hv, by simpa using hs, fun j c hj => ?_⟩
  rw [List.getElem?_map] at hj
  cases hj2 : cs[j]? with
  | none => simp [hj2] at hj
  | some e =>
    simp [hj2] at hj
    subst hj
    obtain ⟨u, hu, hr⟩ := hr j e hj2
    exact ⟨u, hu, plain_ret hr⟩

theorem multi_rel (h : Rel n G st a w) {r : ResultVar} {x : H0} (hx : multiOf P st r = some x) :
    ∃ v, (match r with
      | .tmp t => (pure (a.tmps.getD t undef) : Sem Value)
      | .cell s ty => do loadVar ty (← asAddr (a.tmps.getD s undef))).run P w = .ok v w ∧ H0Rel (G.ret np none none) w x v := by
  cases r with
  | tmp s =>
    unfold multiOf at hx
    dsimp only at hx
    cases hs : Nat.blt s 100000 with
    | false => rw [hs] at hx; cases hx
    | true =>
      rw [hs] at hx
      simp only [cond_true] at hx
      have hr := h.env s (Nat.le_of_ble_eq_true (n := s + 1) hs)
      refine ⟨a.tmps.getD s undef, rfl, ?_⟩
      split at hx
      · rename_i c e
        cases hx
        rw [e] at hr
        exact plain_ret (CRel.dis hr)
      · rename_i cs e
        cases hx
        rw [e] at hr
        exact agg_ret2 hr
      · cases hx
  | cell s ty =>
    unfold multiOf cellVal at hx
    dsimp only at hx
    split at hx
    case h_2 => cases hx
    rename_i r o e
    cases hc : (Nat.beq o 0 && Nat.blt s 100000) with
    | false => rw [hc] at hx; cases hx
    | true =>
      rw [hc] at hx
      simp only [cond_true] at hx
      rw [Bool.and_eq_true] at hc
      have ho := Nat.eq_of_beq_eq_true hc.1
      have hs : s < 100000 := Nat.le_of_ble_eq_true (n := s + 1) hc.2
      subst ho
      split at hx
      case h_2 => cases hx
      rename_i cells m hcells0 hm
      obtain ⟨hcells, hstd⟩ := stdB_some hcells0
      cases hml : Nat.beq m cells.length with
      | false => rw [hml] at hx; cases hx
      | true =>
        rw [hml] at hx
        simp only [cond_true] at hx
        have hml := Nat.eq_of_beq_eq_true hml
        obtain ⟨b, hb, hval⟩ : ∃ b, G.beta r = some b ∧ a.tmps.getD s undef = .pointer (some (at_ b 0)) := by
          have := h.env s hs
          rw [e] at this
          exact this
        obtain ⟨b2, vs, T, g1, g2, g3, g4, g5, g6⟩ := (h.mem.box r _ hcells).std hstd
        rw [hb] at g1
        cases g1
        obtain ⟨hv, hav, hxv⟩ : ∃ hv, asVal P ty (cells.map fun c => c.dis.plain) = some hv ∧ (∀ v, VRel (G.ret np none none) w none hv v → H0Rel (G.ret np none none) w x v) := by
          split at hx
          · rename_i c hc; cases hx; exact ⟨_, hc, fun v hv => hv⟩
          · rename_i c hc; cases hx; exact ⟨_, hc, fun v hv => hv⟩
          · cases hx
        have hag : ∃ ag, isAggT P ty = some ag := by
          unfold asVal at hav
          cases hq : isAggT P ty with
          | none => rw [hq] at hav; cases hav
          | some ag => exact ⟨ag, rfl⟩
        obtain ⟨ag, hag⟩ := hag
        have hone : ag = false → m = 1 := fun e => by
          subst e
          unfold asVal at hav
          rw [hag] at hav
          dsimp only at hav
          split at hav
          · rename_i c hcc
            rw [hml]
            exact map_one hcc
          · cases hav
        obtain ⟨u, hrun, u1, u2⟩ := run_load_cells (P := P) (w := w) hag hm b 0 vs.toList (by simp [g5, hml]) (fun j v hj => by
          have : vs[j]? = some v := by simpa using hj
          unfold World.cell? at_
          simp [g3, this]) hone
        refine ⟨u, ?_, hxv u (asVal_rel hav (TVal.mk hag (us := vs.toList) (by simp [g5]) (fun j c hj => ?_) (by simpa using u1) u2))⟩
        · have hrun' : (loadVar ty (at_ b 0)).run P w = .ok u w := by
            simpa [Instr.loadAt, Instr.sureAddr] using hrun
          have hval' : (a.tmps[s]?).getD undef = .pointer (some (at_ b 0)) := by rw [← Array.getD_eq_getD_getElem?]; exact hval
          simp [hval', asAddr, hrun']
        · rw [List.getElem?_map] at hj
          cases hj2 : cells[j]? with
          | none => rw [hj2] at hj; cases hj
          | some d =>
            rw [hj2] at hj
            cases hj
            obtain ⟨x, hx, hxr⟩ := g6 j d hj2
            exact ⟨x, by simpa using hx, plain_ret hxr.dis⟩

theorem multis_rel (h : Rel n G st a w) : ∀ {rs : List ResultVar} {l : List H0}, multisOf P st rs = some l → ∃ vs : List Value, vs.length = rs.length ∧ l.length = rs.length ∧
    (∀ (i : Nat) r v, rs[i]? = some r → vs[i]? = some v → (match r with
      | .tmp t => (pure (a.tmps.getD t undef) : Sem Value)
      | .cell s ty => do loadVar ty (← asAddr (a.tmps.getD s undef))).run P w = .ok v w) ∧
    ∀ (j : Nat) x, l[j]? = some x → ∃ u, vs[j]? = some u ∧ H0Rel (G.ret np none none) w x u
  | [], l, hl => by
    cases hl
    exact ⟨[], rfl, rfl, fun i r v hr => by simp at hr, fun j x hx => by simp at hx⟩
  | r :: rs, l, hl => by
    unfold multisOf at hl
    split at hl
    · rename_i x l' hx hl'
      cases hl
      obtain ⟨v, hv, hrel⟩ := multi_rel (np := np) h hx
      obtain ⟨vs, h1, h2, h3, h4⟩ := multis_rel h hl'
      refine ⟨v :: vs, by simp [h1], by simp [h2], fun i r' v' hr hv' => ?_, fun j x' hx' => ?_⟩
      · cases i with
        | zero => cases hr; cases hv'; exact hv
        | succ i => exact h3 i r' v' hr hv'
      · cases j with
        | zero => cases hx'; exact ⟨v, rfl, hrel⟩
        | succ j => exact h4 j x' hx'
    · cases hl

theorem multi_results {fn : Func} (h5 : np < 500) (h : Rel n G st a w) {l : List H0} {ps : List (List HC)} (hc : hasCell fn.results.toList = true) (hl : multisOf P st fn.results.toList = some l)
    (hps : parsOut st.box np = some ps) : ∃ v G', (results fn a.tmps).run P w = .ok v w ∧ ResRel G' w ⟨.tup l, false, ps, []⟩ v ∧ Evolves G w G' w := by
  obtain ⟨vs, h1, h2, h3, h4⟩ := multis_rel (np := np) h hl
  obtain ⟨hp1, hp2⟩ := boxes_range hps
  have hmem : Mem (G.ret np none none) (resBox ⟨.tup l, false, ps, []⟩) w := ret_mem (nb := none) h5 h.mem hp1 hp2 (.inl ⟨rfl, rfl⟩)
  refine ⟨.tuple vs.toArray, G.ret np none none, ?_, ⟨⟨vs.toArray, rfl, by simp [h1, h2], fun j x hx => by obtain ⟨u, hu, hr⟩ := h4 j x hx; exact ⟨u, by simpa using hu, hr⟩⟩, hmem⟩, ret_evolves h5⟩
  unfold hasCell at hc
  rw [Bool.and_eq_true] at hc
  have hlen : 1 < fn.results.toList.length := Nat.le_of_ble_eq_true (n := 2) hc.1
  have hne : ¬ (vs.toArray.size = 1) := by simp [h1]; simpa using Nat.ne_of_gt hlen
  unfold results
  rw [Array.mapM_eq_mapM_toList]
  rw [Sem.run_bind, map_eq_pure_bind, Sem.run_bind]
  rw [mapM_runs h1 (fun i r v hr hv => by cases r <;> exact h3 i _ v hr hv)]
  simp only [Result.andThen_ok, Sem.run_pure]
  rw [dif_neg hne]

theorem ret_rel {fn : Func} (h5 : np < 500) (h : Rel n G st a w) {r : Res} (hr : retOf P np st fn.results.toList = some r) :
    ∃ v G', (results fn a.tmps).run P w = .ok v w ∧ ResRel G' w r v ∧ Evolves G w G' w := by
  unfold retOf at hr
  split at hr
  · rename_i s ty hrs
    split at hr
    · rename_i v ps hv hps
      cases hr
      exact cell_rel h5 h hrs hv hps
    · cases hr
  · cases hc : hasCell fn.results.toList with
    | true =>
      rw [hc] at hr
      simp only [cond_true] at hr
      split at hr
      · rename_i l ps hl hps
        cases hr
        exact multi_results h5 h hc hl hps
      · cases hr
    | false =>
      rw [hc] at hr
      simp only [cond_false] at hr
      split at hr
      · rename_i l ps hl hps
        exact results_rel h5 h hl hps hr
      · cases hr

theorem fun_sound {f : FuncId} {fn : Func} {code : Code} {S : Spec} (hf : C.P.funcs[f]? = some fn) (hb : fn.body = some code) (hname : fn.name ≠ "runtime.NumGoroutine") (hm : C.P.follows .mixedOrders = true)
    (hΓ : ∀ f S, C.Γ f = some S → Sound C.P f S) (hl : LoopsOK C code) (hS : ∀ hargs pars R, (S hargs pars).wp R → hfun C fn code hargs pars R) : Sound C.P f S := by
  refine ⟨⟨fn, hf, by rw [hb]; rfl, hname⟩, fun G w hargs args pars R hpre hwp => ?_⟩
  have hx := hS hargs pars R hwp
  unfold hfun at hx
  cases hc : (Nat.ble hargs.length fn.ntmps && Nat.ble fn.ntmps 100000 && Nat.blt pars.length 500 && Nat.beq C.n fn.ntmps) with
  | false => rw [hc] at hx; exact hx.elim
  | true =>
    rw [hc] at hx
    simp only [cond_true] at hx
    simp only [Bool.and_eq_true] at hc
    obtain ⟨⟨⟨h1, h2⟩, h3⟩, h4⟩ := hc
    have hn : C.n = fn.ntmps := Nat.eq_of_beq_eq_true h4
    have h5 : pars.length < 500 := Nat.le_of_ble_eq_true (n := pars.length + 1) h3
    have hrel := pre_rel hpre (Nat.le_of_ble_eq_true h1) (Nat.le_of_ble_eq_true h2) (log := fun _ => [])
    have hrel' : Rel C.n G { env := argEnv 0 hargs, box := parBox pars, log := fun _ => [] } { tmps := args ++ Array.replicate (fn.ntmps - args.size) undef, defers := [] } w := by rw [hn]; exact hrel
    refine calls_of_wp hf hb (wp_mono (code_sound hm hΓ code hl G _ _ w _ hrel' hx) fun e a' w' hp => ?_)
    obtain ⟨he, st', G', rfl, hq, hr, hev⟩ := hp
    have fin : (match retOf C.P pars.length (softSt st') fn.results.toList with
          | some r => R r
          | none => False) → a'.defers = [] ∧ ∃ v, (results fn a'.tmps).run C.P w' = .ok v w' ∧ ∃ v' r G', Ending.returned v = .returned v' ∧ R r ∧ ResRel G' w' r v' ∧ Evolves G w G' w' := by
      intro hq
      split at hq
      · rename_i r hr'
        obtain ⟨v, G'', h6, h7, h8⟩ := ret_rel (P := C.P) h5 hr.softSt hr'
        exact ⟨hr.defers, v, h6, v, r, G'', rfl, hq, h7, hev.trans h8⟩
      · exact hq.elim
    cases he with
    | exit id => exact hq.elim
    | normal => exact fin hq
    | ret => exact fin hq
end

end Go.HL
