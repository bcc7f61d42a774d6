/-
  HL, part o: calls: the way back.
  Conditions: none.
-/
import Derived.Test.YtneingpnkdeooaaHn
namespace Go.HL
open Go

section
variable {P : Program} {n : Nat} {G G' : Ghost} {st : HSt} {a : Act} {w w' : World} {o : Oper} {Q : Exit → Act → World → Prop} {K : HSt → Prop}

def ren (rs : List Nat) (nk : Option Nat) (j : Nat) : Option Nat := if j = 500 then nk else if j < 500 then rs[j]? else none

def locOut (rs : List Nat) (nk d : Option Nat) : Loc → Option Loc
  | .box j => (ren rs nk j).map .box
  | .cell j o => (ren rs nk j).map fun r => .cell r o
  | .res => d.map .tmp
  | .tmp _ => none

def Ghost.back (G G1 : Ghost) (w : World) (rs : List Nat) (nk d : Option Nat) : Ghost :=
  { imm := G1.imm
    beta := fun r => if nk = some r then G1.beta 500 else G.beta r
    owner := fun b => match G1.owner b with
      | some L => locOut rs nk d L
      | none => if b < w.heap.size then G.owner b else none }

theorem boxesTo_append (l m : List (Nat × List HC)) : ∀ e, boxesTo e (l ++ m) = boxesTo (boxesTo e l) m := by
  induction l with
  | nil => intro e; rfl
  | cons p l ih => intro e; exact ih _

theorem boxesTo_zip : ∀ {rs : List Nat} {vs : List (List HC)} (e : Nat → Option (List HC)), rs.Nodup → vs.length = rs.length →
    (∀ (j r : Nat), rs[j]? = some r → boxesTo e (zipL rs vs) r = vs[j]?) ∧ ∀ r, r ∉ rs → boxesTo e (zipL rs vs) r = e r
  | [], [], e, _, _ => ⟨fun j r h => by simp at h, fun r _ => rfl⟩
  | r :: rs, v :: vs, e, hn, hl => by
    obtain ⟨hnr, hn'⟩ := List.nodup_cons.1 hn
    obtain ⟨h1, h2⟩ := boxesTo_zip (rs := rs) (vs := vs) (upd e r (some v)) hn' (by simpa using hl)
    refine ⟨fun j q hq => ?_, fun q hq => ?_⟩
    · match j, hq with
      | 0, hq => cases hq; exact (h2 _ hnr).trans (upd_same _ _ _)
      | j + 1, hq => exact (h1 j q (by simpa using hq)).trans (by simp)
    · rw [List.mem_cons, not_or] at hq
      exact (h2 q hq.2).trans (upd_ne _ _ hq.1)

theorem posOf_none {r : Nat} {l : List Nat} (h : r ∉ l) : posOf r l = none := by
  cases hp : posOf r l with
  | none => rfl
  | some j => exact absurd (List.mem_of_getElem? (posOf_get hp)) h

/-- the places that a call leaves alone -/
def apartOf (rs : List Nat) (L : Loc) : Prop := (∃ x, L = .tmp x) ∨ ∃ r, r ∉ rs ∧ (L = .box r ∨ ∃ o, L = .cell r o)

theorem apartOf_in {rs : List Nat} {L : Loc} (h : apartOf rs L) : locIn rs L = none := by
  rcases h with ⟨x, rfl⟩ | ⟨r, hr, rfl | ⟨o, rfl⟩⟩
  · rfl
  · simp [locIn, posOf_none hr]
  · simp [locIn, posOf_none hr]

section back
variable {G1 : Ghost} {w1 : World} {rs : List Nat} {nk d : Option Nat} {bx : Nat → Option (List HC)}

theorem Pres.back (hm : Mem G bx w) (hev : Evolves (G.into rs) w G1 w1) (hnk : ∀ r, nk = some r → bx r = none) : Pres G w (G.back G1 w rs nk d) w1 (apartOf rs) := by
  refine ⟨fun b o hi => hev.imm b o hi, fun r b hb => ?_, fun b L hL hb => ?_⟩
  · have hne : nk ≠ some r := fun e => by rw [hm.no_beta (hnk r e)] at hb; cases hb
    exact (if_neg hne).trans hb
  · have hlt := hm.own b L hb
    have hin : (G.into rs).owner b = none := by simp [Ghost.into, hb, apartOf_in hL]
    obtain ⟨f1, f2, f3⟩ := hev.foreign b hlt hin
    refine ⟨?_, f2, f3⟩
    show (match G1.owner b with | some L => locOut rs nk d L | none => if b < w.heap.size then G.owner b else none) = some L
    rw [f1]
    simp only [if_pos hlt]
    exact hb

theorem Evolves.back (hev : Evolves (G.into rs) w G1 w1) (hnk : ∀ r, nk = some r → 500 ≤ r) : Evolves G w (G.back G1 w rs nk d) w1 := by
  refine ⟨hev.os, hev.tape, hev.output, hev.size, hev.imm, fun b hb ho => ?_, fun r b hr hb => ?_⟩
  · have hin : (G.into rs).owner b = none := by simp [Ghost.into, ho]
    obtain ⟨f1, f2, f3⟩ := hev.foreign b hb hin
    refine ⟨?_, f2, f3⟩
    show (match G1.owner b with | some L => locOut rs nk d L | none => if b < w.heap.size then G.owner b else none) = none
    rw [f1]
    simp only [if_pos hb]
    exact ho
  · have hne : nk ≠ some r := fun e => by have := hnk r e; omega
    exact (if_neg hne).symm.trans hb

theorem back_owner {L M : Loc} {b : Nat} (h : G1.owner b = some L) (hl : locOut rs nk d L = some M) : (G.back G1 w rs nk d).owner b = some M := by
  show (match G1.owner b with | some L => locOut rs nk d L | none => if b < w.heap.size then G.owner b else none) = some M
  rw [h]
  exact hl

theorem BoxAt.back {j r : Nat} {cells : List HC} (hj : ren rs nk j = some r) (hbeta : ∀ b, G1.beta j = some b → (G.back G1 w rs nk d).beta r = some b) (h : BoxAt G1 w1 j cells) :
    BoxAt (G.back G1 w rs nk d) w1 r (cells.map HC.plain) :=
  BoxAt.loc (G1 := G1) (r := j) (fun _ _ e => e) (fun _ _ _ e => e) (fun b e => back_owner e (by simp [locOut, hj])) (fun b o e => back_owner e (by simp [locOut, hj])) hbeta h

theorem back_beta (hm : Mem G bx w) (hev : Evolves (G.into rs) w G1 w1) (hnk : ∀ r, nk = some r → bx r = none) (hrs : ∀ r, r ∈ rs → ∃ c, bx r = some c) {j r b : Nat} (hj5 : j < 500) (hj : rs[j]? = some r) (hb : G1.beta j = some b) :
    (G.back G1 w rs nk d).beta r = some b := by
  have h1 := hev.beta j b hj5 hb
  have h2 : G.beta r = some b := by simpa [Ghost.into, hj] using h1
  have hne : nk ≠ some r := fun e => by
    obtain ⟨c, hc⟩ := hrs r (List.mem_of_getElem? hj)
    rw [hnk r e] at hc; cases hc
  exact (if_neg hne).trans h2

/-- the boxes behind a call -/
theorem Mem.back (hm : Mem G bx w) (hev : Evolves (G.into rs) w G1 w1) {res : Res} (hr : Mem G1 (resBox res) w1) (hn : rs.Nodup) (hrs : ∀ r, r ∈ rs → ∃ c, bx r = some c)
    (hl : res.pars.length = rs.length) (h5 : rs.length < 500) (hnk : ∀ r, nk = some r → bx r = none) {new : List (Nat × List HC)}
    (hnew : (nk = none ∧ new = []) ∨ ∃ k c, nk = some k ∧ res.news[0]? = some c ∧ new = [(k, c.map HC.plain)]) :
    Mem (G.back G1 w rs nk d) (boxesTo bx (zipL rs (res.pars.map fun l => l.map HC.plain) ++ new)) w1 := by
  obtain ⟨z1, z2⟩ := boxesTo_zip (vs := res.pars.map fun l => l.map HC.plain) bx hn (by simpa using hl)
  have hbx : ∀ r, boxesTo bx (zipL rs (res.pars.map fun l => l.map HC.plain) ++ new) r = if nk = some r then (res.news[0]?).map (fun l => l.map HC.plain) else boxesTo bx (zipL rs (res.pars.map fun l => l.map HC.plain)) r := by
    intro r
    rw [boxesTo_append]
    rcases hnew with ⟨rfl, rfl⟩ | ⟨k, c, rfl, hc, rfl⟩
    · rw [if_neg (fun e => nomatch e)]; rfl
    · by_cases hk : k = r
      · subst hk; rw [if_pos rfl, hc]; exact upd_same _ _ _
      · rw [if_neg (fun e => hk (Option.some.inj e))]; exact upd_ne _ _ (Ne.symm hk)
  refine ⟨fun r cells h => ?_, fun r b hb => ?_, fun b L hL => ?_, fun b o hi => hr.imm b o hi⟩
  · rw [hbx] at h
    by_cases hk : nk = some r
    · rw [if_pos hk] at h
      cases hc : res.news[0]? with
      | none => rw [hc] at h; cases h
      | some c =>
        rw [hc] at h
        cases h
        have hb0 := hr.box 500 c (by unfold resBox; rw [if_neg (by omega), if_pos rfl, hc])
        exact hb0.back (by unfold ren; rw [if_pos rfl, hk]) (fun b e => (if_pos hk).trans e)
    · rw [if_neg hk] at h
      by_cases hin : r ∈ rs
      · obtain ⟨j, hj, hjr⟩ := List.getElem_of_mem hin
        have hj' : rs[j]? = some r := by rw [List.getElem?_eq_getElem hj, hjr]
        rw [z1 j r hj', List.getElem?_map] at h
        cases hc : res.pars[j]? with
        | none => rw [hc] at h; cases h
        | some c =>
          rw [hc] at h
          cases h
          have hj5 : j < 500 := by omega
          have hb0 := hr.box j c (by unfold resBox; rw [if_pos hj5, hc])
          exact hb0.back (by unfold ren; rw [if_neg (by omega), if_pos hj5]; exact hj') (fun b e => back_beta hm hev hnk hrs hj5 hj' e)
      · rw [z2 r hin] at h
        exact (hm.box r cells h).pres (Pres.back hm hev hnk) (.inr ⟨r, hin, .inl rfl⟩) (fun o => .inr ⟨r, hin, .inr ⟨o, rfl⟩⟩)
  · have hb' : (if nk = some r then G1.beta 500 else G.beta r) = some b := hb
    rw [hbx]
    by_cases hk : nk = some r
    · rw [if_pos hk]
      rcases hnew with ⟨e, _⟩ | ⟨k, c, _, hc, _⟩
      · rw [e] at hk; cases hk
      · rw [hc]; exact ⟨_, rfl⟩
    · rw [if_neg hk] at hb' ⊢
      obtain ⟨c, hc⟩ := hm.beta r b hb'
      by_cases hin : r ∈ rs
      · obtain ⟨j, hj, hjr⟩ := List.getElem_of_mem hin
        have hj' : rs[j]? = some r := by rw [List.getElem?_eq_getElem hj, hjr]
        rw [z1 j r hj', List.getElem?_map, List.getElem?_eq_getElem (by omega : j < res.pars.length)]
        exact ⟨_, rfl⟩
      · rw [z2 r hin]; exact ⟨c, hc⟩
  · have hL' : (match G1.owner b with | some L => locOut rs nk d L | none => if b < w.heap.size then G.owner b else none) = some L := hL
    cases ho : G1.owner b with
    | some M => exact hr.own b M ho
    | none =>
      rw [ho] at hL'
      simp only at hL'
      split at hL'
      · rename_i hlt; exact Nat.lt_of_lt_of_le hlt hev.size
      · cases hL'

/-- a result's cell behind the call -/
theorem CRel.back {own : Bool} (hm : Mem G bx w) (hev : Evolves (G.into rs) w G1 w1) {res : Res} (hr : Mem G1 (resBox res) w1) (hrs : ∀ r, r ∈ rs → ∃ c, bx r = some c)
    (hl : res.pars.length = rs.length) (hnk : ∀ r, nk = some r → bx r = none) {dd : Nat} (hnew : ∀ c, res.news[0]? = some c → nk = some (newKey dd)) {M : Option Loc} (hM : ∀ L, M = some L → own = true ∧ ∃ x, d = some x ∧ L = .tmp x)
    {c : HC} {v : Value} (h : CRel G1 w1 (bif own then some .res else none) c v) : CRel (G.back G1 w rs nk d) w1 M (backC rs dd c) v := by
  cases c with
  | ptr r k =>
    obtain ⟨b, hb, hv⟩ := h
    obtain ⟨c, hc⟩ := hr.beta r b hb
    unfold resBox at hc
    simp only [backC]
    by_cases h500 : r = 500
    · subst h500
      rw [if_neg (by omega), if_pos rfl] at hc
      simp only [Nat.beq_refl, cond_true]
      exact ⟨b, (if_pos (hnew c hc)).trans hb, hv⟩
    · have hbf : Nat.beq r 500 = false := by
        cases hq : Nat.beq r 500 with
        | false => rfl
        | true => exact absurd (Nat.eq_of_beq_eq_true hq) h500
      rw [hbf]
      simp only [cond_false]
      split at hc
      · rename_i h5
        have hlt : r < rs.length := by rw [← hl]; exact (List.getElem?_eq_some_iff.1 hc).1
        rw [List.getElem?_eq_getElem hlt]
        exact ⟨b, back_beta hm hev hnk hrs h5 (List.getElem?_eq_getElem hlt) hb, hv⟩
      · cases hc
  | mapv r =>
    obtain ⟨b, hb, hv⟩ := h
    obtain ⟨c, hc⟩ := hr.beta r b hb
    unfold resBox at hc
    simp only [backC]
    by_cases h500 : r = 500
    · subst h500
      rw [if_neg (by omega), if_pos rfl] at hc
      simp only [Nat.beq_refl, cond_true]
      exact ⟨b, (if_pos (hnew c hc)).trans hb, hv⟩
    · have hbf : Nat.beq r 500 = false := by
        cases hq : Nat.beq r 500 with
        | false => rfl
        | true => exact absurd (Nat.eq_of_beq_eq_true hq) h500
      rw [hbf]
      simp only [cond_false]
      split at hc
      · rename_i h5
        have hlt : r < rs.length := by rw [← hl]; exact (List.getElem?_eq_some_iff.1 hc).1
        rw [List.getElem?_eq_getElem hlt]
        exact ⟨b, back_beta hm hev hnk hrs h5 (List.getElem?_eq_getElem hlt) hb, hv⟩
      · cases hc
  | nsls ks ll => exact NRel.loc (G1 := G1) (fun _ _ e => e) h
  | el2 ks rows =>
    obtain ⟨b, o, u, hv, h1, h2⟩ := h
    exact ⟨b, o, u, hv, h1, SRel.loc (G1 := G1) (L1 := none) (fun _ _ e => e) (fun _ _ ⟨_, e, _⟩ => nomatch e) (fun _ e => nomatch e) h2⟩
  | msl r k cap => exact CRel.oneCell (G := G1) (w := w1) (L := bif own then some .res else none) (c := .msl r k cap) h
  | mp r s i k => exact CRel.oneCell (G := G1) (w := w1) (L := bif own then some .res else none) (c := .mp r s i k) h
  | sl o' ks rows =>
    refine SRel.loc (G1 := G1) (L1 := bif own then some .res else none) (fun _ _ e => e) (fun _ _ _ e => e) (fun L hL => ?_) h
    obtain ⟨h1, x, hx, h2⟩ := hM L hL
    subst h1; subst h2
    exact ⟨.res, rfl, fun b e => back_owner e (by simp [locOut, hx])⟩
  | mu _ _ => exact h.elim
  | el ks row k => exact h
  | _ => exact h

theorem plain_back {c : HC} {v : Value} (h : CRel G1 w1 none c v) : CRel (G.back G1 w rs nk d) w1 none c.plain v := by
  cases c with
  | sl o' ks rows => exact SRel.loc (G1 := G1) (L1 := none) (fun _ _ e => e) (fun _ _ _ e => e) (fun _ e => nomatch e) h
  | mu _ _ => exact h.elim
  | ptr r o => exact CRel.oneCell (G := G1) (w := w1) (L := none) (c := .ptr r o) h
  | el ks row k => exact CRel.oneCell (G := G1) (w := w1) (L := none) (c := .el ks row k) h
  | nilp => exact CRel.oneCell (G := G1) (w := w1) (L := none) (c := .nilp) h
  | msl r k cap => exact CRel.oneCell (G := G1) (w := w1) (L := none) (c := .msl r k cap) h
  | mp r s i k => exact CRel.oneCell (G := G1) (w := w1) (L := none) (c := .mp r s i k) h
  | nsls ks ll => exact NRel.loc (G1 := G1) (fun _ _ e => e) h
  | el2 ks rows => exact CRel.oneCell (G := G1) (w := w1) (L := none) (c := .el2 ks rows) h
  | mapv r => exact CRel.oneCell (G := G1) (w := w1) (L := none) (c := .mapv r) h
  | _ => exact h

theorem agg_back {cs : List HC} {v : Value} (h : ARel G1 w1 cs v) : ARel (G.back G1 w rs nk d) w1 (cs.map HC.plain) v := by
  obtain ⟨vs, hv, hs, hr⟩ := h
  refine ⟨vs, hv, by simpa using hs, fun j c hj => ?_⟩
  rw [List.getElem?_map] at hj
  cases hj2 : cs[j]? with
  | none => simp [hj2] at hj
  | some e =>
    simp [hj2] at hj
    subst hj
    obtain ⟨u, hu, hr⟩ := hr j e hj2
    exact ⟨u, hu, plain_back hr⟩

theorem VRel.back {own : Bool} (hm : Mem G bx w) (hev : Evolves (G.into rs) w G1 w1) {res : Res} (hr : Mem G1 (resBox res) w1) (hrs : ∀ r, r ∈ rs → ∃ c, bx r = some c)
    (hl : res.pars.length = rs.length) (hnk : ∀ r, nk = some r → bx r = none) {dd : Nat} (hnew : ∀ c, res.news[0]? = some c → nk = some (newKey dd)) {M : Option Loc} (hM : ∀ L, M = some L → own = true ∧ ∃ x, d = some x ∧ L = .tmp x)
    {hv : HV} {v : Value} (h : VRel G1 w1 (bif own then some .res else none) hv v) : VRel (G.back G1 w rs nk d) w1 M (backV rs dd hv) v := by
  cases hv with
  | ce c => exact CRel.back hm hev hr hrs hl hnk hnew hM h
  | agg cs => exact agg_back h
  | tup hs =>
    obtain ⟨vs, hv, hs', hr'⟩ := h
    refine ⟨vs, hv, by simpa using hs', fun j x hj => ?_⟩
    rw [List.getElem?_map] at hj
    cases hj2 : hs[j]? with
    | none => simp [hj2] at hj
    | some e =>
      simp [hj2] at hj
      subst hj
      obtain ⟨u, hu, hru⟩ := hr' j e hj2
      refine ⟨u, hu, ?_⟩
      cases e with
      | ce c => exact CRel.back (own := false) hm hev hr hrs hl hnk hnew (M := none) (fun _ e => nomatch e) hru
      | agg cs => exact agg_back hru
  | junk => trivial
end back

/-- the ghost's new box, as the caller names it -/
def nkOf (d : Option Nat) (r : Res) : Option Nat := match d, r.news with
  | some d, [_] => some (newKey d)
  | _, _ => none

theorem call_sound (h : Rel n G st a w) (s : Sides n o) {Γ : FuncId → Option Spec} (hΓ : ∀ f S, Γ f = some S → Sound P f S) {f : FuncId} {args : Array Operand} {ts : Array TypeId}
    (ho : o.op = .call { callee := .value (.func f), args := args, argTypes := ts })
    (hk : (callSem Γ f (args.toList.map (evalO P st.env o.type)) st.box o.dst).wp st K) : o.wp P a w (Post n G w K) Q := by
  have hops : ∀ p ∈ args.toList, ∃ L, VRel G w L (evalO P st.env o.type p) (a.eval p) := fun p hp =>
    s.ev (P := P) h o.type (x := p) (by rw [ho]; simp [Op.operands, Call.operands]; exact .inr (by simpa using hp))
  unfold callSem at hk
  split at hk
  case h_2 => exact hk.elim
  rename_i S hS
  split at hk
  case h_2 => exact hk.elim
  rename_i rs hrs
  split at hk
  case h_2 => exact hk.elim
  rename_i pars hpars
  obtain ⟨⟨fn, hfn, hbody, hname⟩, hsound⟩ := hΓ f S hS
  obtain ⟨_, hnd⟩ := rootsOf_spec hrs List.nodup_nil
  obtain ⟨hpl, hpg⟩ := boxesOf_spec hpars
  have hrsb : ∀ r, r ∈ rs → ∃ c, st.box r = some c := fun r hr => by
    obtain ⟨j, hj, hjr⟩ := List.getElem_of_mem hr
    obtain ⟨h1, c, h2⟩ := hpg j r (by rw [List.getElem?_eq_getElem hj, hjr])
    exact ⟨c, h1.trans h2⟩
  -- the way in
  have hpre : PreRel (G.into rs) w (argsTo 0 (args.toList.map (evalO P st.env o.type))) (args.map a.eval) (pars.map fun l => l.map fun c => c.softB.plain) := by
    refine ⟨by rw [argsTo_length]; simp, fun i hv hi => ?_, h.mem.into hnd hpars⟩
    obtain ⟨v, hv1, hv2⟩ := args_rel (G := G) (w := w) (evalO P st.env o.type) a.eval args.toList [] rs hops hrs List.nodup_nil i hv hi
    exact ⟨v, by simpa using hv1, hv2⟩
  -- what the model does
  have hexec : (execOp a.eval o).run P w = .ok (.enter f (args.map a.eval)) w := by
    unfold execOp
    have hbn : ¬ fn.body = none := fun e => by rw [e] at hbody; cases hbody
    simp [ho, resolve, invoke, Deferred.ofValue, Act.eval, callFunc, hfn, hname, hbn]
  -- the way back
  have hback : ∀ (R : Res → Prop), (S (argsTo 0 (args.toList.map (evalO P st.env o.type))) (pars.map fun l => l.map fun c => c.softB.plain)).wp R →
      (∀ r, R r → resFits rs.length (freshB st.box o.dst) r = true ∧ K (st.app (callUpd rs o.dst r))) → o.wp P a w (Post n G w K) Q := by
    intro R hwp hR
    have hcalls := hsound (G.into rs) w _ _ _ R hpre hwp
    unfold Oper.wp
    rw [hexec]
    show Calls P f (args.map a.eval) w _
    refine hcalls.mono fun e w1 ⟨v, r, G1, he, hr, hres, hev⟩ => ?_
    subst he
    obtain ⟨hfit, hkr⟩ := hR r hr
    unfold resFits at hfit
    rw [Bool.and_eq_true, Bool.and_eq_true] at hfit
    have hl := Nat.eq_of_beq_eq_true hfit.1.1
    have h5 : rs.length < 500 := Nat.le_of_ble_eq_true hfit.1.2
    -- is there a new box
    have hnk0 : ∀ q, nkOf o.dst r = some q → st.box q = none ∧ 500 ≤ q := by
      intro q hq
      unfold nkOf at hq
      split at hq
      · rename_i d c hd hn
        cases hq
        rw [hn, hd] at hfit
        have h2 : freshB st.box (some d) = true := hfit.2
        refine ⟨?_, by unfold newKey; omega⟩
        unfold freshB at h2
        simp only at h2
        cases hq : st.box (newKey d) with
        | none => rfl
        | some _ => rw [hq] at h2; cases h2
      · cases hq
    have hnew : (nkOf o.dst r = none ∧ newOf o.dst r = []) ∨
        ∃ k c, nkOf o.dst r = some k ∧ r.news[0]? = some c ∧ newOf o.dst r = [(k, c.map HC.plain)] := by
      unfold nkOf newOf
      split
      · rename_i d c hd hn; exact .inr ⟨newKey d, c, rfl, by rw [hn]; rfl, by rw [hd, hn]⟩
      · rename_i hne
        refine .inl ⟨rfl, ?_⟩
        split
        · rename_i d c hd hn; exact absurd hn (hne d c hd)
        · rfl
    have hnew2 : ∀ c, r.news[0]? = some c → nkOf o.dst r = some (newKey (o.dst.getD 0)) := by
      intro c hc
      have h2 := hfit.2
      unfold nkOf
      split at h2
      · rename_i hn; rw [hn] at hc; cases hc
      · rename_i x hn
        cases hd : o.dst with
        | none => rw [hd] at h2; cases h2
        | some d => simp [hn]
      · cases h2
    have hp := Pres.back (G1 := G1) (w1 := w1) (rs := rs) (nk := nkOf o.dst r) (d := o.dst) h.mem hev (fun q hq => (hnk0 q hq).1)
    have hmem := Mem.back (d := o.dst) h.mem hev hres.mem hnd hrsb hl h5 (fun q hq => (hnk0 q hq).1) hnew
    have hval : ∀ M : Option Loc, (∀ L, M = some L → r.own = true ∧ ∃ x, o.dst = some x ∧ L = .tmp x) → VRel (G.back G1 w rs (nkOf o.dst r) o.dst) w1 M (backV rs (o.dst.getD 0) r.val) v := fun M hM =>
      VRel.back h.mem hev hres.mem hrsb hl (fun q hq => (hnk0 q hq).1) hnew2 hM hres.val
    refine ⟨_, G.back G1 w rs (nkOf o.dst r) o.dst, hkr, ?_, Evolves.back hev (fun q hq => (hnk0 q hq).2)⟩
    exact h.put s.le s.dst hp (fun x _ => .inl ⟨x, rfl⟩) (own := r.own) (hval none (fun _ e => nomatch e)) (fun d' e ow => hval _ (fun L hL => by cases hL; exact ⟨ow, d', e, rfl⟩)) hmem (log := st.log)
  split at hk
  · exact hk.elim
  · rename_i pre r hS1
    cases hf : resFits rs.length (freshB st.box o.dst) r with
    | false => rw [hf] at hk; exact hk.elim
    | true =>
      rw [hf] at hk
      simp only [cond_true] at hk
      refine hback (fun q => q = r) (by rw [hS1]; exact ⟨hk.1, rfl⟩) (fun q hq => by subst hq; exact ⟨hf, hk.2⟩)
  · rename_i pre α p F hS1
    obtain ⟨⟨hp1, hp2⟩, hex, hall⟩ := hk
    exact hback (fun q => ∃ x, p x ∧ q = F x) (by rw [hS1]; exact ⟨hp1, hex, fun x hx => ⟨x, hx, rfl⟩⟩) (fun q ⟨x, hx, hq⟩ => by subst hq; exact ⟨hp2 x hx, hall x hx⟩)
end

end Go.HL
