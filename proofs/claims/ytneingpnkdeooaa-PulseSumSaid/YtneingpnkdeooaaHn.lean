/-
  HL, part n: calls.
  Conditions: none.
-/
import Derived.Test.YtneingpnkdeooaaHm
namespace Go.HL
open Go

section
variable {P : Program} {n : Nat} {G G' : Ghost} {st : HSt} {a : Act} {w w' : World} {o : Oper} {Q : Exit → Act → World → Prop} {K : HSt → Prop}

/-- the boxes that a result speaks of -/
def resBox (r : Res) : Nat → Option (List HC) := fun j => if j < 500 then r.pars[j]? else if j = 500 then r.news[0]? else none

/-- the arguments, and the boxes behind those that are addresses -/
structure PreRel (G : Ghost) (w : World) (hargs : List HV) (args : Array Value) (pars : List (List HC)) : Prop where
  size : args.size = hargs.length
  args : ∀ (i : Nat) (hv : HV), hargs[i]? = some hv → ∃ v, args[i]? = some v ∧ VRel G w none hv v
  mem : Mem G (parBox pars) w

structure ResRel (G : Ghost) (w : World) (r : Res) (v : Value) : Prop where
  val : VRel G w (bif r.own then some .res else none) r.val v
  mem : Mem G (resBox r) w

/-- what a function answers to its specification -/
def Sound (P : Program) (f : FuncId) (S : Spec) : Prop :=
  (∃ fn, P.funcs[f]? = some fn ∧ fn.body.isSome = true ∧ fn.name ≠ "runtime.NumGoroutine") ∧
  ∀ (G : Ghost) (w : World) (hargs : List HV) (args : Array Value) (pars : List (List HC)) (R : Res → Prop),
    PreRel G w hargs args pars → (S hargs pars).wp R →
    Calls P f args w fun e w' => ∃ v r G', e = .returned v ∧ R r ∧ ResRel G' w' r v ∧ Evolves G w G' w'

/-! #### roots -/

def posOf (r : Nat) : List Nat → Option Nat
  | [] => none
  | s :: l => if r = s then some 0 else (posOf r l).map (· + 1)

theorem posOf_get : ∀ {l : List Nat} {r j : Nat}, posOf r l = some j → l[j]? = some r
  | s :: l, r, j, h => by
    unfold posOf at h
    split at h
    · rename_i e; cases h; subst e; rfl
    · cases hp : posOf r l with
      | none => simp [hp] at h
      | some q => simp [hp] at h; subst h; simpa using posOf_get hp

theorem posOf_nodup : ∀ {l : List Nat} {r j : Nat}, l.Nodup → l[j]? = some r → posOf r l = some j
  | s :: l, r, 0, _, h => by cases h; simp [posOf]
  | s :: l, r, j + 1, hn, h => by
    have h' : l[j]? = some r := by simpa using h
    have hne : r ≠ s := fun e => by subst e; exact (List.nodup_cons.1 hn).1 (List.mem_of_getElem? h')
    unfold posOf
    rw [if_neg hne, posOf_nodup (List.nodup_cons.1 hn).2 h']
    rfl

theorem memN_iff : ∀ {l : List Nat} {r : Nat}, memN r l = true ↔ r ∈ l
  | [], r => by simp [memN]
  | s :: l, r => by
    unfold memN
    rw [Bool.or_eq_true, memN_iff, List.mem_cons]
    constructor
    · rintro (h | h)
      · exact .inl (Nat.eq_of_beq_eq_true h)
      · exact .inr h
    · rintro (h | h)
      · subst h; exact .inl (Nat.beq_refl _)
      · exact .inr h

theorem rootsOf_spec : ∀ {vals : List HV} {acc rs : List Nat}, rootsOf vals acc = some rs → acc.Nodup → (∃ more, rs = acc.reverse ++ more) ∧ rs.Nodup
  | [], acc, rs, h, hn => by cases h; exact ⟨⟨[], by simp⟩, List.pairwise_reverse.2 (hn.imp fun h => Ne.symm h)⟩
  | hv :: l, acc, rs, h, hn => by
    by_cases hq : ∃ r, hv = .ce (.mapv r)
    · obtain ⟨r, rfl⟩ := hq
      simp only [rootsOf] at h
      cases hb : (!memN r acc) with
      | false => rw [hb] at h; cases h
      | true =>
        rw [hb] at h
        simp only [cond_true] at h
        have hnm : r ∉ acc := by
          simp only [Bool.not_eq_true'] at hb
          intro hm
          rw [memN_iff.2 hm] at hb
          cases hb
        obtain ⟨⟨more, rfl⟩, hnd⟩ := rootsOf_spec h (List.nodup_cons.2 ⟨hnm, hn⟩)
        exact ⟨⟨r :: more, by simp⟩, hnd⟩
    by_cases hp : ∃ r o, hv = .ce (.ptr r o)
    · obtain ⟨r, o, rfl⟩ := hp
      simp only [rootsOf] at h
      cases hb : (Nat.beq o 0 && !memN r acc) with
      | false => rw [hb] at h; cases h
      | true =>
        rw [hb] at h
        simp only [cond_true] at h
        rw [Bool.and_eq_true] at hb
        have hnm : r ∉ acc := by
          have := hb.2
          simp only [Bool.not_eq_true'] at this
          intro hm
          rw [memN_iff.2 hm] at this
          cases this
        obtain ⟨⟨more, rfl⟩, hnd⟩ := rootsOf_spec h (List.nodup_cons.2 ⟨hnm, hn⟩)
        exact ⟨⟨r :: more, by simp⟩, hnd⟩
    · have h' : rootsOf l acc = some rs := by
        cases hv with
        | ce c => cases c <;> first | exact h | exact absurd ⟨_, _, rfl⟩ hp | exact absurd ⟨_, rfl⟩ hq
        | _ => exact h
      exact rootsOf_spec h' hn

theorem boxesOf_spec {bx : Nat → Option (List HC)} : ∀ {rs : List Nat} {cs : List (List HC)}, boxesOf bx rs = some cs → cs.length = rs.length ∧ ∀ (j r : Nat), rs[j]? = some r → bx r = cs[j]? ∧ ∃ c, cs[j]? = some c
  | [], cs, h => by cases h; exact ⟨rfl, fun j r hr => by simp at hr⟩
  | r :: l, cs, h => by
    unfold boxesOf at h
    split at h
    · rename_i c cs' hc hcs
      cases h
      obtain ⟨h1, h2⟩ := boxesOf_spec hcs
      refine ⟨by simp [h1], fun j q hq => ?_⟩
      match j, hq with
      | 0, hq => cases hq; exact ⟨hc, c, rfl⟩
      | j + 1, hq => simpa using h2 j q (by simpa using hq)
    · cases h

/-! #### the callee's ghost -/

def locIn (rs : List Nat) : Loc → Option Loc
  | .box r => (posOf r rs).map .box
  | .cell r o => (posOf r rs).map fun j => .cell j o
  | _ => none

def Ghost.into (G : Ghost) (rs : List Nat) : Ghost :=
  { imm := G.imm
    beta := fun j => (rs[j]?).bind G.beta
    owner := fun b => (G.owner b).bind (locIn rs) }

theorem into_owner {rs : List Nat} (hn : rs.Nodup) {j r b : Nat} (hj : rs[j]? = some r) : (G.owner b = some (.box r) → (G.into rs).owner b = some (.box j)) ∧ ∀ o, G.owner b = some (.cell r o) → (G.into rs).owner b = some (.cell j o) := by
  have hp := posOf_nodup hn hj
  constructor
  · intro h; simp [Ghost.into, h, locIn, hp]
  · intro o h; simp [Ghost.into, h, locIn, hp]

theorem SRel.loc {G1 G2 : Ghost} {w : World} {L1 L2 : Option Loc} {ks : List Nat} {rows : List (List Int)} {v : Value} (himm : ∀ b o, G1.imm b o → G2.imm b o)
    (himm' : ∀ b o, (∃ L, L2 = some L ∧ G2.owner b = some L) → G2.imm b o → G1.imm b o)
    (hL : ∀ M, L2 = some M → ∃ L, L1 = some L ∧ ∀ b, G1.owner b = some L → G2.owner b = some M) (h : SRel G1 w L1 ks rows v) : SRel G2 w L2 ks rows v := by
  obtain ⟨a, cap, hv, hc, hm, h⟩ := h
  refine ⟨a, cap, hv, hc, hm, ?_⟩
  rcases h with h | ⟨b, off, ha, hi, hs⟩
  · cases hM : L2 with
    | none => exact .inl ⟨.inl rfl, h.2⟩
    | some M =>
      obtain ⟨L, hl, _⟩ := hL M hM
      exact .inl (nilCase h (fun e => by rw [hl] at e; cases e))
  · refine .inr ⟨b, off, ha, fun i j h1 h2 => ⟨himm _ _ (hi i j h1 h2).1, (hi i j h1 h2).2⟩, fun M hM => ?_⟩
    obtain ⟨L, hl, hto⟩ := hL M hM
    obtain ⟨ho, cur, E, hh, hf, hni⟩ := hs L hl
    exact ⟨hto b ho, cur, E, hh, hf, fun x hx hx2 hix => hni x hx hx2 (himm' b x ⟨M, hM, hto b ho⟩ hix)⟩

theorem NRel.loc {G1 G2 : Ghost} {w : World} {ks : List Nat} {ll : List (List (List Int))} {v : Value} (himm : ∀ b o, G1.imm b o → G2.imm b o) (h : NRel G1 w ks ll v) : NRel G2 w ks ll v := by
  obtain ⟨b, off, cap, hv, hi⟩ := h
  refine ⟨b, off, cap, hv, fun i hl => ?_⟩
  obtain ⟨u, h1, h2⟩ := hi i hl
  exact ⟨u, ⟨himm _ _ h1.1, h1.2⟩, SRel.loc (L1 := none) himm (fun _ _ ⟨_, e, _⟩ => nomatch e) (fun _ e => nomatch e) h2⟩

theorem MRel.loc {G1 G2 : Ghost} {w : World} {L M : Loc} {ks : List Nat} {rows : List (List Int)} {v : Value}
    (himm' : ∀ b o, G2.owner b = some M → G2.imm b o → G1.imm b o) (hL : ∀ b, G1.owner b = some L → G2.owner b = some M) (h : MRel G1 w L ks rows v) : MRel G2 w M ks rows v := by
  obtain ⟨a, cap, hv, hc, hm, h⟩ := h
  refine ⟨a, cap, hv, hc, hm, ?_⟩
  rcases h with h | ⟨b, ha, ho, hni, hpos, cur, E, hh, hf, hcells⟩
  · exact .inl h
  · exact .inr ⟨b, ha, hL b ho, fun x hi => hni x (himm' b x (hL b ho) hi), hpos, cur, E, hh, hf, hcells⟩

theorem plain_noptr (c : HC) : (∀ r o, c.plain ≠ .ptr r o) ∧ (∀ ks row o, c.plain ≠ .el ks row o) := by cases c <;> simp [HC.plain]
theorem plain_nob (c : HC) : c.plain.nob = c.plain := by cases c <;> rfl

/-- a plain cell of a box, seen from another ghost -/
theorem BRel.loc {G1 G2 : Ghost} {w : World} {r r' o : Nat} {c : HC} {v : Value} (himm : ∀ b o, G1.imm b o → G2.imm b o)
    (himm' : ∀ b q, G2.owner b = some (.cell r' o) → G2.imm b q → G1.imm b q) (hL : ∀ b, G1.owner b = some (.cell r o) → G2.owner b = some (.cell r' o)) (h : BRel G1 w r o c v) : BRel G2 w r' o c.plain v := by
  cases c with
  | mu ks rows => exact MRel.loc himm' hL h
  | sl own ks rows =>
    cases own with
    | false => exact SRel.loc (L1 := none) himm (fun _ _ ⟨_, e, _⟩ => nomatch e) (fun _ e => nomatch e) h
    | true => exact SRel.loc (L1 := some (.cell r o)) himm (fun b q ⟨L, e, ho⟩ => by cases e; exact himm' b q ho) (fun M e => by cases e; exact ⟨_, rfl, hL⟩) h
  | int k m => exact h
  | num k m => exact h
  | bool b => exact h
  | lit b => exact h
  | el ks row k => exact CRel.oneCell (G := G1) (w := w) (L := none) (c := .el ks row k) h
  | ptr k m => exact CRel.oneCell (G := G1) (w := w) (L := none) (c := .ptr k m) h
  | nilp => exact CRel.oneCell (G := G1) (w := w) (L := none) (c := .nilp) h
  | nsl ks => exact h
  | arr ks rows cap => exact h
  | fro ks rows => exact h
  | msl k m cap => exact CRel.oneCell (G := G1) (w := w) (L := none) (c := .msl k m cap) h
  | mp k m i q => exact CRel.oneCell (G := G1) (w := w) (L := none) (c := .mp k m i q) h
  | nsls ks ll => exact NRel.loc himm h
  | el2 ks rows => exact CRel.oneCell (G := G1) (w := w) (L := none) (c := .el2 ks rows) h
  | mapv k => exact CRel.oneCell (G := G1) (w := w) (L := none) (c := .mapv k) h
  | mpb f => exact h
  | str s => exact h
  | esl ks => exact h
  | junk => exact h

theorem BoxAt.loc {G1 G2 : Ghost} {w : World} {r r' : Nat} {cells : List HC} (himm : ∀ b o, G1.imm b o → G2.imm b o)
    (himm' : ∀ b q, (G2.owner b = some (.box r') ∨ ∃ o, G2.owner b = some (.cell r' o)) → G2.imm b q → G1.imm b q) (hb : ∀ b, G1.owner b = some (.box r) → G2.owner b = some (.box r'))
    (hL : ∀ b o, G1.owner b = some (.cell r o) → G2.owner b = some (.cell r' o)) (hbeta : ∀ b, G1.beta r = some b → G2.beta r' = some b) (h : BoxAt G1 w r cells) :
    BoxAt G2 w r' (cells.map HC.plain) := by
  rcases h with h | ⟨ks, rows, cap, rfl, b, vs, T, h1, h2, h3, h4, h5⟩ | ⟨rfl, b, h⟩ | ⟨f, rfl, b, es, clk, h1, h2, h3, h4, h5⟩ | ⟨ks, rows, rfl, b, h1, h2⟩
  case inr.inl => exact .inr (.inl ⟨ks, rows, cap, rfl, b, vs, T, hbeta b h1, hb b h2, h3, fun o ho => h4 o (himm' b o (.inl (hb b h2)) ho), h5⟩)
  case inr.inr.inl => exact .inr (.inr (.inl ⟨rfl, b, hbeta b h⟩))
  case inr.inr.inr.inl => exact .inr (.inr (.inr (.inl ⟨f, rfl, b, es, clk, hbeta b h1, hb b h2, h3, fun o ho => h4 o (himm' b o (.inl (hb b h2)) ho), h5⟩)))
  case inr.inr.inr.inr => exact .inr (.inr (.inr (.inr ⟨ks, rows, rfl, b, hbeta b h1, fun i j hi hj => ⟨himm _ _ (h2 i j hi hj).1, (h2 i j hi hj).2⟩⟩)))
  obtain ⟨b, vs, T, h1, h2, h3, h4, h5, h6⟩ := h
  refine .inl ⟨b, vs, T, hbeta b h1, hb b h2, h3, fun o ho => h4 o (himm' b o (.inl (hb b h2)) ho), by simpa using h5, fun j c hc => ?_⟩
  rw [List.getElem?_map] at hc
  cases hj : cells[j]? with
  | none => simp [hj] at hc
  | some d =>
    simp [hj] at hc
    subst hc
    obtain ⟨u, hu, hr⟩ := h6 j d hj
    exact ⟨u, hu, hr.loc himm (fun b q ho => himm' b q (.inr ⟨j, ho⟩)) (fun b => hL b j)⟩

theorem map_soft_plain (cells : List HC) : (cells.map fun c => c.softB.plain) = (cells.map HC.softB).map HC.plain := by simp

/-- going in -/
theorem Mem.into {bx : Nat → Option (List HC)} (h : Mem G bx w) {rs : List Nat} {pars : List (List HC)} (hn : rs.Nodup) (hp : boxesOf bx rs = some pars) :
    Mem (G.into rs) (parBox (pars.map fun l => l.map fun c => c.softB.plain)) w := by
  obtain ⟨hl, hget⟩ := boxesOf_spec hp
  refine ⟨fun j cells hj => ?_, fun j b hb => ?_, fun b L hL => ?_, h.imm⟩
  · unfold parBox at hj
    rw [List.getElem?_map] at hj
    cases hc : pars[j]? with
    | none => simp [hc] at hj
    | some c =>
      simp [hc] at hj
      subst hj
      have hlt : j < rs.length := by rw [← hl]; exact (List.getElem?_eq_some_iff.1 hc).1
      have hr : rs[j]? = some rs[j] := List.getElem?_eq_getElem hlt
      obtain ⟨hb, _⟩ := hget j _ hr
      have hbox := (h.box _ c (hb.trans hc)).soft
      have := BoxAt.loc (G1 := G) (G2 := G.into rs) (r := rs[j]) (r' := j) (fun _ _ e => e) (fun _ _ _ e => e) (fun b e => (into_owner hn hr).1 e) (fun b o e => (into_owner hn hr).2 o e) (fun b e => by simp [Ghost.into, hr, e]) hbox
      rw [map_soft_plain]
      exact this
  · have hb' : (rs[j]?).bind G.beta = some b := hb
    cases hr : rs[j]? with
    | none => rw [hr] at hb'; cases hb'
    | some r =>
      obtain ⟨_, c, hc⟩ := hget j r hr
      exact ⟨c.map fun c => c.softB.plain, by unfold parBox; rw [List.getElem?_map, hc]; rfl⟩
  · have : (G.owner b).bind (locIn rs) = some L := hL
    cases ho : G.owner b with
    | none => rw [ho] at this; cases this
    | some L' => exact h.own b L' ho

theorem CRel.into {L : Option Loc} {rs : List Nat} {c : HC} {v : Value} (h : CRel G w L c v) : CRel (G.into rs) w none c.nob.dis.soft v := by
  cases c with
  | ptr r o => exact CRel.oneCell (G := G) (w := w) (L := L) (c := .ptr r o) h
  | msl r o cap => exact CRel.oneCell (G := G) (w := w) (L := L) (c := .msl r o cap) h
  | mp r s i o => exact CRel.oneCell (G := G) (w := w) (L := L) (c := .mp r s i o) h
  | mapv r => exact CRel.oneCell (G := G) (w := w) (L := L) (c := .mapv r) h
  | esl ks => obtain ⟨a, rfl⟩ := h; rfl
  | nsls ks ll => exact NRel.loc (G1 := G) (fun _ _ e => e) h
  | el2 ks rows =>
    obtain ⟨b, o, u, hv, h1, h2⟩ := h
    exact ⟨b, o, u, hv, h1, SRel.loc (G1 := G) (L1 := none) (fun _ _ e => e) (fun _ _ ⟨_, e, _⟩ => nomatch e) (fun _ e => nomatch e) h2⟩
  | sl own ks rows => exact SRel.loc (G1 := G) (L1 := L) (fun _ _ e => e) (fun _ _ ⟨_, e, _⟩ => nomatch e) (fun _ e => nomatch e) h
  | mu _ _ => exact h.elim
  | nsl ks => have h : v = _ := h; subst h; exact SRel.nil _ w none ks
  | _ => exact h

theorem argV_into {L : Option Loc} {rs : List Nat} {hv : HV} {v : Value} (h : VRel G w L hv v) : VRel (G.into rs) w none (argV hv) v := by
  cases hv with
  | ce c => exact CRel.into h
  | agg cs =>
    obtain ⟨vs, hv, hs, hr⟩ := h
    refine ⟨vs, hv, by simpa using hs, fun j c hj => ?_⟩
    rw [List.getElem?_map] at hj
    cases hj2 : cs[j]? with
    | none => simp [hj2] at hj
    | some d =>
      simp [hj2] at hj
      subst hj
      obtain ⟨u, hu, hr⟩ := hr j d hj2
      refine ⟨u, hu, ?_⟩
      have := CRel.into (rs := rs) (CRel.plain hr)
      rw [plain_nob] at this
      cases d <;> first | exact this | exact hr.elim
  | tup _ => trivial
  | junk => trivial

theorem args_rel (ev : Operand → HV) (ρ : Operand → Value) : ∀ (l : List Operand) (acc rs : List Nat), (∀ p ∈ l, ∃ L, VRel G w L (ev p) (ρ p)) → rootsOf (l.map ev) acc = some rs → acc.Nodup →
    ∀ (i : Nat) (hv : HV), (argsTo acc.length (l.map ev))[i]? = some hv → ∃ v, (l.map ρ)[i]? = some v ∧ VRel (G.into rs) w none hv v
  | [], _, _, _, _, _, i, hv, h => by simp [argsTo] at h
  | p :: l, acc, rs, hr, h, hn, i, hv, hi => by
    obtain ⟨L, hp⟩ := hr p (by simp)
    by_cases hmap : ∃ r, ev p = .ce (.mapv r)
    · obtain ⟨r, e⟩ := hmap
      rw [List.map_cons, e] at h hi
      simp only [rootsOf] at h
      simp only [argsTo] at hi
      cases hb : (!memN r acc) with
      | false => rw [hb] at h; cases h
      | true =>
        rw [hb] at h
        simp only [cond_true] at h
        have hnm : r ∉ acc := by
          simp only [Bool.not_eq_true'] at hb
          intro hm
          rw [memN_iff.2 hm] at hb
          cases hb
        have hn' := List.nodup_cons.2 ⟨hnm, hn⟩
        match i, hi with
        | 0, hi =>
          cases hi
          rw [e] at hp
          obtain ⟨b, hb, hv⟩ := hp.of_ce
          obtain ⟨⟨more, hmore⟩, _⟩ := rootsOf_spec h hn'
          refine ⟨ρ p, rfl, b, ?_, hv⟩
          have : rs[acc.length]? = some r := by rw [hmore]; simp
          simp [Ghost.into, this, hb]
        | i + 1, hi => exact args_rel ev ρ l (r :: acc) rs (fun q hq => hr q (List.mem_cons_of_mem _ hq)) h hn' i hv (by simpa using hi)
    by_cases hptr : ∃ r o, ev p = .ce (.ptr r o)
    · obtain ⟨r, k, e⟩ := hptr
      rw [List.map_cons, e] at h hi
      simp only [rootsOf] at h
      simp only [argsTo] at hi
      cases hb : (Nat.beq k 0 && !memN r acc) with
      | false => rw [hb] at h; cases h
      | true =>
        rw [hb] at h
        simp only [cond_true] at h
        rw [Bool.and_eq_true] at hb
        have hk0 := Nat.eq_of_beq_eq_true hb.1
        have hnm : r ∉ acc := by
          have := hb.2
          simp only [Bool.not_eq_true'] at this
          intro hm
          rw [memN_iff.2 hm] at this
          cases this
        have hn' := List.nodup_cons.2 ⟨hnm, hn⟩
        match i, hi with
        | 0, hi =>
          cases hi
          rw [e] at hp
          obtain ⟨b, hb, hv⟩ := hp.of_ce
          obtain ⟨⟨more, hmore⟩, _⟩ := rootsOf_spec h hn'
          refine ⟨ρ p, rfl, b, ?_, by rw [hv, hk0]⟩
          have : rs[acc.length]? = some r := by rw [hmore]; simp
          simp [Ghost.into, this, hb]
        | i + 1, hi => exact args_rel ev ρ l (r :: acc) rs (fun q hq => hr q (List.mem_cons_of_mem _ hq)) h hn' i hv (by simpa using hi)
    · have hcase : rootsOf (l.map ev) acc = some rs ∧ argsTo acc.length ((p :: l).map ev) = argV (ev p) :: argsTo acc.length (l.map ev) := by
        rw [List.map_cons] at h ⊢
        generalize ev p = hv at *
        cases hv with
        | ce c => cases c <;> first | exact ⟨h, rfl⟩ | exact absurd ⟨_, _, rfl⟩ hptr | exact absurd ⟨_, rfl⟩ hmap
        | _ => exact ⟨h, rfl⟩
      rw [hcase.2] at hi
      match i, hi with
      | 0, hi => cases hi; exact ⟨ρ p, rfl, argV_into hp⟩
      | i + 1, hi => exact args_rel ev ρ l acc rs (fun q hq => hr q (List.mem_cons_of_mem _ hq)) hcase.1 hn i hv (by simpa using hi)

theorem argsTo_length : ∀ (l : List HV) (j : Nat), (argsTo j l).length = l.length
  | [], _ => rfl
  | hv :: l, j => by
    cases hv with
    | ce c => cases c <;> simp [argsTo, argsTo_length l]
    | _ => simp [argsTo, argsTo_length l]
end

end Go.HL
