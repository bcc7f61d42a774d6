/-
  HL, part v: code is sound.
  Conditions: none.
-/
import Derived.Test.YtneingpnkdeooaaHu
namespace Go.HL
open Go

section
variable {P : Program} {n : Nat} {G G' : Ghost} {st : HSt} {a : Act} {w w' : World} {o : Oper} {Q : Exit → Act → World → Prop} {K : HSt → Prop} {C : Ctx} {ops : List Oper} {ms : List Nat}

/-! ### regions -/

theorem ops_sound {oa : Array Oper} (hoa0 : oa.toList = ops) (hd : dstOK n ops = true) (hΓ : ∀ f S, C.Γ f = some S → Sound C.P f S) {G0 : Ghost} {w0 : World}
    (hQ : ∀ st a w G, K st → Rel n G st a w → Evolves G0 w0 G w → Q .normal a w) :
    ∀ (l : List Nat) (G : Ghost) (st : HSt) (a : Act) (w : World), Rel n G st a w → Evolves G0 w0 G w → hops C false ops ms l st K → wpOps C.P oa Q l a w
  | [], G, st, a, w, h, he, hk => hQ st a w G hk h he
  | i :: l, G, st, a, w, h, he, hk => by
    rw [wpOps_cons]
    refine wpOp_mono (fun a' w' hp => ?_) (step_sound (Q := Q) hoa0 hd hΓ h hk)
    obtain ⟨st', G', hk', hr, he'⟩ := hp
    exact ops_sound hoa0 hd hΓ hQ l G' st' a' w' hr (he.trans he') hk'

/-- what is pending in a drawn region -/
structure Pend (ops : List Oper) (l : List Nat) (listed : Array Bool) : Prop where
  sorted : l.Pairwise (· < ·)
  mem : ∀ x, x ∈ l ↔ x < ops.length ∧ listed.getD x false = false
  size : listed.size = ops.length
  closed : Closed ops (fun x => listed.getD x false = true)

theorem edges_after {e : Nat} : e ∈ edgesOf o ↔ ∃ d ∈ o.after, Region.binds .any d = true ∧ d.on = e := by
  unfold edgesOf
  simp only [List.mem_map, List.mem_filter, Array.mem_toList_iff]
  constructor
  · rintro ⟨d, ⟨h1, h2⟩, h3⟩; exact ⟨d, h1, h2, h3⟩
  · rintro ⟨d, h1, h2, h3⟩; exact ⟨d, ⟨h1, h2⟩, h3⟩

theorem getD_true_false {l : Array Bool} {x : Nat} (h : x < l.size) : l.getD x true = l.getD x false := by
  simp [Array.getD, h]

theorem any_sound {oa : Array Oper} (hoa0 : oa.toList = ops) (hd : dstOK n ops = true) (hD : drawOK ops = true) (hΓ : ∀ f S, C.Γ f = some S → Sound C.P f S) {G0 : Ghost} {w0 : World}
    (hQ : ∀ st a w G, K st → Rel n G st a w → Evolves G0 w0 G w → Q .normal a w) :
    ∀ (fuel : Nat) (l : List Nat) (listed : Array Bool) (G : Ghost) (st : HSt) (a : Act) (w : World), fuel = l.length → Pend ops l listed → (∀ x, x ∈ l → st.log x = []) →
      Rel n G st a w → Evolves G0 w0 G w → hops C true ops (masks ops []) l st K → wpAny C.P .any oa Q fuel listed a w := by
  have hoa : ∀ k : Nat, oa[k]? = ops[k]? := fun k => by rw [← hoa0]; simp
  intro fuel
  induction fuel with
  | zero =>
    intro l listed G st a w hl hp hlog h he hk
    have hnil : l = [] := List.eq_nil_of_length_eq_zero hl.symm
    subst hnil
    refine ⟨?_, hQ st a w G hk h he⟩
    rw [List.eq_nil_iff_forall_not_mem]
    intro x hx
    rw [mem_ready] at hx
    obtain ⟨h1, o, h2, _⟩ := hx
    rw [hoa] at h2
    have hxl := (List.getElem?_eq_some_iff.1 h2).1
    have := (hp.mem x).2 ⟨hxl, by rw [← getD_true_false (by rw [hp.size]; exact hxl)]; exact h1⟩
    cases this
  | succ fuel ih =>
    intro l listed G st a w hl hp hlog h he hk
    refine ⟨fun hr => ?_, fun i hi => ?_⟩
    · -- something is ready
      exfalso
      cases l with
      | nil => cases hl
      | cons m r =>
        have hm := (hp.mem m).1 (by simp)
        have hom : ops[m]? = some (ops[m]'hm.1) := List.getElem?_eq_getElem hm.1
        have : m ∈ Region.ready .any oa listed := by
          rw [mem_ready]
          refine ⟨by rw [getD_true_false (by rw [hp.size]; exact hm.1)]; exact hm.2, _, (hoa m).trans hom, fun e he hb => ?_⟩
          have hem : e.on ∈ edgesOf (ops[m]'hm.1) := edges_after.2 ⟨e, he, hb, rfl⟩
          have hlt := drawOK_edges hD m _ hom e.on hem
          cases hb2 : listed.getD e.on false with
          | true => rfl
          | false =>
            exfalso
            have := (hp.mem e.on).2 ⟨by omega, hb2⟩
            rcases List.mem_cons.1 this with h1 | h1
            · omega
            · have := (List.pairwise_cons.1 hp.sorted).1 _ h1; omega
        rw [hr] at this
        cases this
    · rw [mem_ready] at hi
      obtain ⟨h1, o, h2, h3⟩ := hi
      rw [hoa] at h2
      have hil := (List.getElem?_eq_some_iff.1 h2).1
      have hil' : i < listed.size := by rw [hp.size]; exact hil
      have himem : i ∈ l := (hp.mem i).2 ⟨hil, by rw [← getD_true_false hil']; exact h1⟩
      have hedge : ∀ e, e ∈ edgesOf o → listed.getD e false = true := fun e he => by
        obtain ⟨d, hd1, hd2, hd3⟩ := edges_after.1 he
        rw [← hd3]; exact h3 d hd1 hd2
      obtain ⟨A, B, rfl⟩ := List.append_of_mem himem
      have hsort := hp.sorted
      rw [List.pairwise_append] at hsort
      obtain ⟨sA, sB, sAB⟩ := hsort
      have hA : ∀ x, x ∈ A → x < i := fun x hx => sAB x hx i (by simp)
      have hB : ∀ x, x ∈ B → i < x := (List.pairwise_cons.1 sB).1
      have hfree : ∀ x, x ∈ A → Free ops (masks ops []) x i := fun x hx => by
        have hxi := hA x hx
        have hxp := (hp.mem x).1 (by simp [hx])
        have hox : ops[x]? = some (ops[x]'hxp.1) := List.getElem?_eq_getElem hxp.1
        have hm2 : ((masks ops []).getD i 0).testBit x = false := by
          cases hb : ((masks ops []).getD i 0).testBit x with
          | false => rfl
          | true =>
            have := mask_in hp.closed (fun j hj => by
              rcases Nat.lt_or_ge j ops.length with h | h
              · exact h
              · exfalso
                have hjs : ¬ j < listed.size := by rw [hp.size]; omega
                simp [Array.getD, hjs] at hj) i o h2 hedge x hb
            rw [hxp.2] at this
            cases this
        refine ⟨by omega, ?_, hm2, _, o, hox, h2, ?_⟩
        · cases hb : ((masks ops []).getD x 0).testBit i with
          | false => rfl
          | true =>
            have := mask_lt (drawOK_edges hD) x _ hox i hb
            omega
        · rcases drawOK_apart hD x i _ o hox h2 hxi with h | h
          · rw [hm2] at h; cases h
          · exact h
      have hstep := hops_front (fun x hx => hlog x (by simp [hx])) (sA.imp Nat.ne_of_lt) hfree hk
      have hnot : i ∉ A ++ B := by
        intro hm
        rcases List.mem_append.1 hm with hm | hm
        · exact Nat.lt_irrefl _ (hA i hm)
        · exact Nat.lt_irrefl _ (hB i hm)
      have hp' : Pend ops (A ++ B) (listed.setIfInBounds i true) := by
        refine ⟨?_, fun x => ?_, by simp [hp.size], fun j oj hj hT e he => ?_⟩
        · rw [List.pairwise_append]
          exact ⟨sA, (List.pairwise_cons.1 sB).2, fun x hx y hy => sAB x hx y (by simp [hy])⟩
        · by_cases hxi : x = i
          · subst hxi
            constructor
            · intro hm; exact absurd hm hnot
            · rintro ⟨_, hf⟩
              exfalso
              simp [hil'] at hf
          · rw [getD_set_ne false (Ne.symm hxi), ← hp.mem x]
            simp only [List.mem_append, List.mem_cons, hxi, false_or]
        · by_cases hji : j = i
          · subst hji
            rw [h2] at hj
            cases hj
            exact getD_set_true (hedge e he)
          · dsimp only at hT
            rw [getD_set_ne false (Ne.symm hji)] at hT
            exact getD_set_true (hp.closed j oj hj hT e he)
      refine wpOp_mono (fun a' w' hpost => ?_) (step_sound (Q := Q) hoa0 hd hΓ h (step_log hstep))
      obtain ⟨st', G', ⟨hlog', hk'⟩, hr, he'⟩ := hpost
      refine ih (A ++ B) _ G' st' a' w' ?_ hp' (fun x hx => ?_) hr (he.trans he') hk'
      · simp at hl ⊢; omega
      · rw [hlog' x (fun e => hnot (e ▸ hx))]
        refine hlog x ?_
        rcases List.mem_append.1 hx with hx | hx <;> simp [hx]

/-! ### exits -/

def ofEx : HEx → Exit
  | .normal => .normal
  | .exit id => .exit id
  | .ret => .ret

/-- what code leaves -/
def PostE (n : Nat) (G : Ghost) (w : World) (Qh : HEx → HSt → Prop) (e : Exit) (a' : Act) (w' : World) : Prop :=
  ∃ he st' G', e = ofEx he ∧ Qh he st' ∧ Rel n G' st' a' w' ∧ Evolves G w G' w'

theorem PostE.back {G1 : Ghost} {w1 : World} {Qh : HEx → HSt → Prop} (h : Evolves G w G1 w1) {e : Exit} {a' : Act} {w' : World} (hp : PostE n G1 w1 Qh e a' w') : PostE n G w Qh e a' w' := by
  obtain ⟨he, st', G', h1, h2, h3, h4⟩ := hp
  exact ⟨he, st', G', h1, h2, h3, h.trans h4⟩

theorem Rel.same_heap (h : Rel n G st a w) (he : w'.heap = w.heap) : Rel n G st a w' :=
  ⟨h.defers, h.size, fun d hd => (h.env d hd).pres (ok := fun _ => True) (Pres.same_heap he) (fun _ _ => trivial), h.mem.same_heap he⟩

theorem Rel.noLog (h : Rel n G st a w) : Rel n G (HL.noLog st) a w := ⟨h.defers, h.size, h.env, h.mem⟩

theorem evolves_draw (G : Ghost) (w : World) : Evolves G w G { w with drawn := w.drawn + 1 } :=
  ⟨rfl, rfl, rfl, Nat.le_refl _, fun _ _ h => ⟨h, rfl⟩, fun _ _ h => ⟨h, rfl, fun _ h => h⟩, fun _ _ _ h => h⟩

theorem splCases_sound {v : Int} {K0 : Prop} {K : Int → Prop} : ∀ {l : List Int}, splCases v K0 K l → K0 ∨ ∃ c, v = c ∧ K c
  | [], h => .inl h
  | c :: r, h => by
    by_cases e : v = c
    · exact .inr ⟨c, e, h.1 e⟩
    · exact splCases_sound (h.2 e)

theorem Rel.setCell (h : Rel n G st a w) {b j : Nat} {cells : List HC} {c c' : HC} (hb : st.box b = some cells) (hs : HL.std cells = true) (hj : cells[j]? = some c) (hc : ∀ v, BRel G w b j c v → BRel G w b j c' v) :
    Rel n G (setBox st b (cells.set j c')) a w := by
  refine ⟨h.defers, h.size, h.env, fun r cs hr => ?_, fun r x hx => ?_, h.mem.own, h.mem.imm⟩
  · have hr : upd st.box b (some (cells.set j c')) r = some cs := hr
    by_cases hrb : r = b
    · subst hrb
      rw [upd_same] at hr
      cases hr
      obtain ⟨x, vs, T, h1, h2, h3, h4, h5, h6⟩ := (h.mem.box r cells hb).std hs
      refine .inl ⟨x, vs, T, h1, h2, h3, h4, by rw [List.length_set]; exact h5, fun i d hd => ?_⟩
      rw [List.getElem?_set] at hd
      split at hd
      · rename_i e
        subst e
        obtain ⟨u, hu, hru⟩ := h6 j _ hj
        split at hd
        · cases hd; exact ⟨u, hu, hc u hru⟩
        · cases hd
      · exact h6 i d hd
    · rw [upd_ne _ _ hrb] at hr
      exact h.mem.box r cs hr
  · obtain ⟨c, hc⟩ := h.mem.beta r x hx
    by_cases hrb : r = b
    · subst hrb; exact ⟨_, upd_same _ _ _⟩
    · exact ⟨c, (upd_ne _ _ hrb).trans hc⟩

theorem std_int {cells : List HC} {j : Nat} {k : IntKind} {v : Int} (hj : cells[j]? = some (.int k v)) : HL.std cells = true := by
  match cells, hj with
  | [], hj => simp at hj
  | [c], hj =>
    cases j with
    | zero => simp at hj; subst hj; rfl
    | succ j => simp at hj
  | _ :: _ :: _, _ => exact std_cons2 _ _ _

theorem Rel.setNum (h : Rel n G st a w) {b j : Nat} {cells : List HC} {k : IntKind} {v : Int} (hb : st.box b = some cells) (hj : cells[j]? = some (.int k v)) : Rel n G (setBox st b (cells.set j (.num k v))) a w :=
  h.setCell hb (std_int hj) hj (fun _ e => e)

/-- a slice of a box is opened -/
theorem Rel.openMu (h : Rel n G st a w) {b j : Nat} {cells : List HC} {ks : List Nat} {rows : List (List Int)} (hb : st.box b = some cells) (hs : HL.std cells = true) (hj : cells[j]? = some (.mu ks rows))
    (hfree : st.box (opnKey b j) = none) : (rows.length = 0 ∧ Rel n G (setBox st b (cells.set j (.esl ks))) a w) ∨
    (0 < rows.length ∧ ∃ cap G', (rows.length ≤ cap ∧ cap ≤ maxLen) ∧ Rel n G' (setBox (setBox st b (cells.set j (.msl (opnKey b j) rows.length cap))) (opnKey b j) [.arr ks rows cap]) a w ∧ Evolves G w G' w) := by
  obtain ⟨bb, vs, T, h1, h2, h3, h4, h5, h6⟩ := (h.mem.box b cells hb).std hs
  obtain ⟨u, hu, hru⟩ := h6 j _ hj
  obtain ⟨ad, cap, rfl, hc, hm, hx⟩ := (show MRel G w (.cell b j) ks rows u from hru)
  rcases hx with ⟨rfl, hl, rfl⟩ | ⟨x, rfl, ho, hni, hpos, cur, E, hh, hfit, hcells⟩
  · refine .inl ⟨hl, h.setCell hb hs hj (fun v hv => ?_)⟩
    obtain ⟨ad, cap, rfl, _, _, hx⟩ := (show MRel G w (.cell b j) ks rows v from hv)
    rcases hx with ⟨_, hl, rfl⟩ | ⟨_, _, _, _, hpos, _⟩
    · exact ⟨ad, by rw [hl]⟩
    · omega
  · refine .inr ⟨hpos, cap, { G with beta := upd G.beta (opnKey b j) (some x), owner := upd G.owner x (some (.box (opnKey b j))) }, ⟨hc, hm⟩, ?_⟩
    have hK : opnKey b j ≠ b := fun e => by rw [e] at hfree; rw [hfree] at hb; cases hb
    have hnob : G.beta (opnKey b j) = none := h.mem.no_beta hfree
    have hp : Pres G w { G with beta := upd G.beta (opnKey b j) (some x), owner := upd G.owner x (some (.box (opnKey b j))) } w (fun L => L ≠ .cell b j) := by
      refine ⟨fun _ _ hi => ⟨hi, rfl⟩, fun q b2 hq => ?_, fun y L hL hy => ?_⟩
      · have : q ≠ opnKey b j := fun e => by subst e; rw [hnob] at hq; cases hq
        exact (upd_ne _ _ this).trans hq
      · have hne : y ≠ x := fun e => by subst e; rw [ho] at hy; cases hy; exact hL rfl
        exact ⟨(upd_ne _ _ hne).trans hy, rfl, fun q hi => hi⟩
    have hev : Evolves G w { G with beta := upd G.beta (opnKey b j) (some x), owner := upd G.owner x (some (.box (opnKey b j))) } w := by
      refine ⟨rfl, rfl, rfl, Nat.le_refl _, fun _ _ hi => ⟨hi, rfl⟩, fun y _ hy => ?_, fun q b2 hq hb2 => ?_⟩
      · have hne : y ≠ x := fun e => by subst e; rw [ho] at hy; cases hy
        exact ⟨(upd_ne _ _ hne).trans hy, rfl, fun q hi => hi⟩
      · have : q ≠ opnKey b j := by unfold opnKey; omega
        exact (upd_ne _ _ this).symm.trans hb2
    refine ⟨⟨h.defers, h.size, fun d hd => h.env_of hp d hd rfl rfl (.inr ⟨rfl, by simp⟩), ?_⟩, hev⟩
    refine ⟨fun q cs hq => ?_, fun q b2 hq => ?_, fun y L hy => ?_, h.mem.imm⟩
    · have hq : upd (upd st.box b (some (cells.set j (.msl (opnKey b j) rows.length cap)))) (opnKey b j) (some [.arr ks rows cap]) q = some cs := hq
      by_cases hqK : q = opnKey b j
      · subst hqK
        rw [upd_same] at hq
        cases hq
        exact .inr (.inl ⟨_, _, _, rfl, x, cur, E, upd_same _ _ _, upd_same _ _ _, hh, hni, ⟨hc, hfit⟩, hcells⟩)
      · rw [upd_ne _ _ hqK] at hq
        by_cases hqb : q = b
        · subst hqb
          rw [upd_same] at hq
          cases hq
          have hne : bb ≠ x := fun e => by subst e; rw [h2] at ho; cases ho
          refine .inl ⟨bb, vs, T, hp.beta _ _ h1, (upd_ne _ _ hne).trans h2, h3, h4, by rw [List.length_set]; exact h5, fun i d hd => ?_⟩
          rw [List.getElem?_set] at hd
          split at hd
          · rename_i e
            subst e
            split at hd
            · cases hd
              exact ⟨_, hu, x, upd_same _ _ _, rfl, hc, hm⟩
            · cases hd
          · rename_i hij
            obtain ⟨v, hv, hr⟩ := h6 i d hd
            exact ⟨v, hv, hr.pres hp (by simp; exact fun e => hij e.symm)⟩
        · rw [upd_ne _ _ hqb] at hq
          exact (h.mem.box q cs hq).pres hp (by simp) (fun k => by simp; exact fun e => absurd e hqb)
    · show ∃ cells', upd (upd st.box b (some (cells.set j (.msl (opnKey b j) rows.length cap)))) (opnKey b j) (some [.arr ks rows cap]) q = some cells'
      by_cases hqK : q = opnKey b j
      · subst hqK; exact ⟨_, upd_same _ _ _⟩
      · rw [upd_ne _ _ hqK]
        by_cases hqb : q = b
        · subst hqb; exact ⟨_, upd_same _ _ _⟩
        · rw [upd_ne _ _ hqb]
          exact h.mem.beta q b2 ((upd_ne _ _ hqK).symm.trans hq)
    · rcases upd_some hy with ⟨rfl, _⟩ | hy
      · exact h.mem.own _ _ ho
      · exact h.mem.own y L hy

/-- and closed -/
theorem Rel.closeMu (h : Rel n G st a w) {b j r m cap : Nat} {cells : List HC} {ks : List Nat} {rows : List (List Int)} (hb : st.box b = some cells) (hs : HL.std cells = true) (hj : cells[j]? = some (.msl r m cap)) (hrb : r ≠ b)
    (hr : st.box r = some [.arr ks rows cap]) (hm : m = rows.length) (hpos : 0 < rows.length) :
    ∃ G', Rel n G' (setBox (setBox st b (cells.set j (.mu ks rows))) r []) a w ∧ Evolves G w G' w := by
  obtain ⟨bb, vs, T, h1, h2, h3, h4, h5, h6⟩ := (h.mem.box b cells hb).std hs
  obtain ⟨u, hu, hru⟩ := h6 j _ hj
  obtain ⟨x, hbx, rfl, hc, hmx⟩ := (show CRel G w none (.msl r m cap) u from hru)
  obtain ⟨x', cur, E, g1, g2, g3, g4, ⟨g5, g6⟩, g7⟩ := (h.mem.box r _ hr).arr
  rw [hbx] at g1
  cases g1
  subst hm
  refine ⟨{ G with owner := upd G.owner x (some (.cell b j)) }, ?_⟩
  have hp : Pres G w { G with owner := upd G.owner x (some (.cell b j)) } w (fun L => L ≠ .box r) := by
    refine ⟨fun _ _ hi => ⟨hi, rfl⟩, fun q b2 hq => hq, fun y L hL hy => ?_⟩
    have hne : y ≠ x := fun e => by subst e; rw [g2] at hy; cases hy; exact hL rfl
    exact ⟨(upd_ne _ _ hne).trans hy, rfl, fun q hi => hi⟩
  have hev : Evolves G w { G with owner := upd G.owner x (some (.cell b j)) } w := by
    refine ⟨rfl, rfl, rfl, Nat.le_refl _, fun _ _ hi => ⟨hi, rfl⟩, fun y _ hy => ?_, fun q b2 hq hb2 => hb2⟩
    have hne : y ≠ x := fun e => by subst e; rw [g2] at hy; cases hy
    exact ⟨(upd_ne _ _ hne).trans hy, rfl, fun q hi => hi⟩
  refine ⟨⟨h.defers, h.size, fun d hd => h.env_of hp d hd rfl rfl (.inr ⟨rfl, by simp⟩), ?_⟩, hev⟩
  refine ⟨fun q cs hq => ?_, fun q b2 hq => ?_, fun y L hy => ?_, h.mem.imm⟩
  · have hq : upd (upd st.box b (some (cells.set j (.mu ks rows)))) r (some []) q = some cs := hq
    by_cases hqr : q = r
    · subst hqr
      rw [upd_same] at hq
      cases hq
      exact .inr (.inr (.inl ⟨rfl, x, hbx⟩))
    · rw [upd_ne _ _ hqr] at hq
      by_cases hqb : q = b
      · subst hqb
        rw [upd_same] at hq
        cases hq
        have hne : bb ≠ x := fun e => by subst e; rw [h2] at g2; cases g2; exact hrb rfl
        refine .inl ⟨bb, vs, T, h1, (upd_ne _ _ hne).trans h2, h3, h4, by rw [List.length_set]; exact h5, fun i d hd => ?_⟩
        rw [List.getElem?_set] at hd
        split at hd
        · rename_i e
          subst e
          split at hd
          · cases hd
            exact ⟨_, hu, _, cap, rfl, hc, hmx, .inr ⟨x, rfl, upd_same _ _ _, g4, hpos, cur, E, g3, g6, g7⟩⟩
          · cases hd
        · obtain ⟨v, hv, hr⟩ := h6 i d hd
          exact ⟨v, hv, hr.pres hp (by simp)⟩
      · rw [upd_ne _ _ hqb] at hq
        exact (h.mem.box q cs hq).pres hp (by simp; exact hqr) (fun k => by simp)
  · show ∃ cells', upd (upd st.box b (some (cells.set j (.mu ks rows)))) r (some []) q = some cells'
    by_cases hqr : q = r
    · subst hqr; exact ⟨_, upd_same _ _ _⟩
    · rw [upd_ne _ _ hqr]
      by_cases hqb : q = b
      · subst hqb; exact ⟨_, upd_same _ _ _⟩
      · rw [upd_ne _ _ hqb]
        exact h.mem.beta q b2 hq
  · rcases upd_some hy with ⟨rfl, _⟩ | hy
    · exact h.mem.own _ _ g2
    · exact h.mem.own y L hy

/-- the elements of a slot's slice are fixed -/
theorem Rel.frzSlot (h : Rel n G st a w) {d r m cap cap2 : Nat} {ks : List Nat} {rows : List (List Int)} (hd : d < 100000) (he : st.env d = .ce (.msl r m cap)) (hbx : st.box r = some [.arr ks rows cap2]) (hm : m = rows.length) :
    ∃ G', Rel n G' { st with env := upd (upd st.env d (.ce (.sl false ks rows))) (FL d) (.ce (.lit false)), box := upd st.box r (some [.fro ks rows]) } a w ∧ Evolves G w G' w := by
  obtain ⟨b, vs, T, h1, h2, h3, h4, h5, h6⟩ := (h.mem.box r _ hbx).arr
  have hv := h.env d hd
  rw [he] at hv
  obtain ⟨b', hb, hv, hcap, hmax⟩ := hv.of_ce
  rw [h1] at hb
  cases hb
  let G' : Ghost := { G with imm := fun x q => G.imm x q ∨ x = b }
  have hp : Pres G w G' w (fun x => x ≠ .box r) :=
    ⟨fun _ _ hi => ⟨.inl hi, rfl⟩, fun _ _ e => e, fun x L hL hx => ⟨hx, rfl, fun q hi => hi.elim id fun e => by
      subst e; rw [h2] at hx; cases hx; exact absurd rfl hL⟩⟩
  have hev : Evolves G w G' w := ⟨rfl, rfl, rfl, Nat.le_refl _, fun _ _ hi => ⟨.inl hi, rfl⟩, fun x _ hx => ⟨hx, rfl, fun q hi => hi.elim id fun e => by
    subst e; rw [h2] at hx; cases hx⟩, fun _ _ _ e => e⟩
  refine ⟨G', ⟨h.defers, h.size, fun x hx => ?_, fun r' cells' hr' => ?_, fun r' b' hb' => ?_, h.mem.own, fun x q hi => ?_⟩, hev⟩
  · show VRel G' w (flagL (upd (upd st.env d (.ce (.sl false ks rows))) (FL d) (.ce (.lit false))) x) (upd (upd st.env d (.ce (.sl false ks rows))) (FL d) (.ce (.lit false)) x) _
    have e1 : upd (upd st.env d (.ce (.sl false ks rows))) (FL d) (.ce (.lit false)) x = upd st.env d (.ce (.sl false ks rows)) x := upd_ne _ _ (fun e => absurd (show x < 100000 from hx) (by rw [e]; unfold FL; omega))
    by_cases hxd : x = d
    · subst hxd
      rw [e1, upd_same]
      have hf : flagL (upd (upd st.env x (.ce (.sl false ks rows))) (FL x) (.ce (.lit false))) x = none := by
        unfold flagL; rw [upd_same]; rfl
      rw [hf, hv]
      refine ⟨_, cap, by rw [hm], by omega, hmax, .inr ⟨b, 0, rfl, fun i j hi hj => ⟨.inr rfl, ?_⟩, fun _ e => nomatch e⟩⟩
      rw [cell_heap _ _ _ h3, Nat.zero_add]
      exact h6 i j hi hj
    · have e2 : upd (upd st.env d (.ce (.sl false ks rows))) (FL d) (.ce (.lit false)) x = st.env x := by rw [e1, upd_ne _ _ hxd]
      have e3 : flagL (upd (upd st.env d (.ce (.sl false ks rows))) (FL d) (.ce (.lit false))) x = flagL st.env x := by
        unfold flagL
        rw [upd_ne _ _ (fun e => hxd (FL_inj e)), upd_ne _ _ (FL_ne hd)]
      exact h.env_of (a' := a) hp x hx e2 rfl (.inr ⟨e3, by simp⟩)
  · by_cases hrr : r' = r
    · subst hrr
      have hr' : upd st.box r' (some [.fro ks rows]) r' = some cells' := hr'
      rw [upd_same] at hr'
      cases hr'
      exact .inr (.inr (.inr (.inr ⟨_, _, rfl, b, h1, fun i j hi hj => ⟨.inr rfl, by rw [cell_heap _ _ _ h3]; exact h6 i j hi hj⟩⟩)))
    · have hr' : upd st.box r (some [.fro ks rows]) r' = some cells' := hr'
      rw [upd_ne _ _ hrr] at hr'
      exact (h.mem.box r' cells' hr').pres hp (by simp; exact hrr) (fun q => by simp)
  · by_cases hrr : r' = r
    · subst hrr; exact ⟨_, upd_same _ _ _⟩
    · obtain ⟨c', hc'⟩ := h.mem.beta r' b' hb'
      exact ⟨c', (upd_ne _ _ hrr).trans hc'⟩
  · rcases hi with hi | e
    · exact h.mem.imm x q hi
    · subst e; exact h.mem.own _ _ h2

theorem Rel.setSlotNum (h : Rel n G st a w) {s : Nat} {k : IntKind} {v : Int} (hs : s < 100000) (he : st.env s = .ce (.int k v)) : Rel n G { st with env := upd st.env s (.ce (.num k v)) } a w := by
  refine ⟨h.defers, h.size, fun x hx => ?_, h.mem⟩
  have hf : flagL (upd st.env s (.ce (.num k v))) x = flagL st.env x := by
    unfold flagL
    rw [upd_ne _ _ (FL_ne hs)]
  show VRel G w (flagL (upd st.env s (.ce (.num k v))) x) (upd st.env s (.ce (.num k v)) x) _
  rw [hf]
  by_cases hxs : x = s
  · subst hxs
    rw [upd_same]
    have := h.env x hx
    rw [he] at this
    exact this
  · rw [upd_ne _ _ hxs]
    exact h.env x hx

theorem splAll_sound {id : Nat} {K : HSt → Prop} : ∀ (l : List Nat) {st : HSt} {G : Ghost}, Rel n G st a w → splAll l id st K → ∃ st' G', Rel n G' st' a w ∧ Evolves G w G' w ∧ K st'
  | [], st, G, h, hx => ⟨st, G, h, Evolves.refl _ _, hx⟩
  | e :: r, st, G, h, hx => by
    unfold splAll at hx
    cases hc : Nat.beq (e / 10000000000) (100000 + id) with
    | false => rw [hc] at hx; exact splAll_sound r h hx
    | true =>
      rw [hc] at hx
      simp only [cond_true] at hx
      unfold splCell at hx
      have on : ∀ {G1 : Ghost} {st1 : HSt}, Rel n G1 st1 a w → Evolves G w G1 w → splAll r id st1 K → ∃ st' G', Rel n G' st' a w ∧ Evolves G w G' w ∧ K st' := by
        intro G1 st1 h1 hev1 hk
        obtain ⟨st', G', h2, hev2, hk2⟩ := splAll_sound r h1 hk
        exact ⟨st', G', h2, hev1.trans hev2, hk2⟩
      cases hk0 : Nat.beq (e % 10) 0 with
      | true =>
        rw [hk0] at hx
        simp only [cond_true] at hx
        cases hj0 : Nat.beq (e / 10 % 100) 0 with
        | false =>
          rw [hj0] at hx
          have hx : HL.splSlot (e / 1000 % 10000000) (e / 10 % 100) st (fun st' => splAll r id st' K) := hx
          unfold HL.splSlot at hx
          split at hx
          · rename_i k v he
            cases hs : Nat.blt (e / 1000 % 10000000) 100000 with
            | false => rw [hs] at hx; exact hx.elim
            | true =>
              rw [hs] at hx
              rcases splCases_sound hx with h0 | ⟨c, rfl, hk⟩
              · exact h0.elim
              · exact splAll_sound r (h.setSlotNum (Nat.le_of_ble_eq_true hs) he) hk
          · exact hx.elim
        | true =>
        rw [hj0] at hx
        have hx : HL.frzSlot (e / 1000 % 10000000) st (fun st' => splAll r id st' K) := hx
        unfold HL.frzSlot at hx
        split at hx
        · rename_i q m cap he
          split at hx
          · rename_i ks rows cap2 hbx
            cases hs : Nat.blt (e / 1000 % 10000000) 100000 with
            | false => rw [hs] at hx; exact hx.elim
            | true =>
              rw [hs] at hx
              obtain ⟨hm, hx⟩ := hx
              obtain ⟨G1, h1, hev1⟩ := h.frzSlot (Nat.le_of_ble_eq_true hs) he hbx hm
              exact on h1 hev1 hx
          · exact hx.elim
        · exact hx.elim
      | false =>
      rw [hk0] at hx
      simp only [cond_false] at hx
      split at hx
      · rename_i cells hb
        split at hx
        · rename_i ks hj
          cases hs : HL.std cells with
          | false => rw [hs] at hx; exact hx.elim
          | true =>
            rw [hs] at hx
            refine on (h.setCell hb hs hj (fun v hv => ?_)) (Evolves.refl _ _) hx
            have hv : v = .slice none 0 0 := hv
            subst hv
            exact ⟨none, 0, rfl, Nat.le_refl _, Nat.zero_le _, .inl ⟨rfl, rfl, rfl⟩⟩
        · rename_i ks rows hj
          cases hs : HL.std cells with
          | false => rw [hs] at hx; exact hx.elim
          | true =>
            rw [hs] at hx
            simp only [cond_true] at hx
            split at hx
            · rename_i hfree
              rcases h.openMu hb hs hj hfree with ⟨hl, h1⟩ | ⟨hpos, cap, G1, hcap, h1, hev1⟩
              · exact on h1 (Evolves.refl _ _) (hx.1 hl)
              · exact on h1 hev1 (hx.2 hpos cap hcap)
            · exact hx.elim
        · rename_i q m cap hkd hj
          cases hs : (HL.std cells && !Nat.beq q (e / 1000 % 10000000)) with
          | false => rw [hs] at hx; exact hx.elim
          | true =>
            rw [hs] at hx
            simp only [cond_true] at hx
            rw [Bool.and_eq_true] at hs
            have hne : q ≠ e / 1000 % 10000000 := fun e2 => by
              have := hs.2
              rw [← e2, Nat.beq_refl] at this
              cases this
            split at hx
            · rename_i ks rows cap2 hr
              obtain ⟨⟨hm, hcc, hpos⟩, hx⟩ := hx
              subst hcc
              obtain ⟨G1, h1, hev1⟩ := h.closeMu hb hs.1 hj hne hr hm hpos
              exact on h1 hev1 hx
            · exact hx.elim
        · rename_i k v hj
          rcases splCases_sound hx with h0 | ⟨c, rfl, hk⟩
          · cases h6 : Nat.beq (e % 10) 6 with
            | true => rw [h6] at h0; exact h0.elim
            | false => rw [h6] at h0; exact splAll_sound r h h0
          · exact splAll_sound r (h.setNum hb hj) hk
        · exact splAll_sound r h hx
      · exact splAll_sound r h hx

theorem region_sound {id : Nat} {oa : Array Oper} {draw : Bool} (hm : C.P.follows .mixedOrders = true) (hΓ : ∀ f S, C.Γ f = some S → Sound C.P f S) {Qh : HEx → HSt → Prop}
    (h : Rel C.n G st a w) (hx : hreg C id oa draw st Qh) : (Code.region id oa draw).wp C.P (PostE C.n G w Qh) a w := by
  unfold hreg at hx
  obtain ⟨st1, G1, h, hev1, hx⟩ := splAll_sound C.fz h hx
  refine wp_mono (?_ : (Code.region id oa draw).wp C.P (PostE C.n G1 w Qh) a w) fun _ _ _ hp => hp.back hev1
  cases hc : (dstOK C.n oa.toList && (!draw || drawOK oa.toList)) with
  | false => rw [hc] at hx; exact hx.elim
  | true =>
    rw [hc] at hx
    simp only [cond_true] at hx
    rw [Bool.and_eq_true] at hc
    cases draw with
    | false =>
      simp only [cond_false] at hx
      refine wp_region ?_
      exact ops_sound rfl hc.1 hΓ (fun st a w' G' hk hr he => ⟨.normal, st, G', rfl, hk, hr, he⟩) _ G1 (noLog st1) a w h.noLog (Evolves.refl _ _) hx
    | true =>
      simp only [cond_true] at hx
      have hD : drawOK oa.toList = true := by simpa using hc.2
      refine wp_region_any hm ?_
      refine any_sound rfl hc.1 hD hΓ (fun st a w' G' hk hr he => ⟨.normal, st, G', rfl, hk, hr, he⟩) oa.size (List.range oa.size) _ G1 (noLog st1) a _ (by simp) ?_ (fun _ _ => rfl) (h.noLog.same_heap rfl) (evolves_draw G1 w) hx
      refine ⟨List.pairwise_lt_range, fun x => ?_, by simp, fun j oj hj hT e he => ?_⟩
      · simp only [List.mem_range, Array.length_toList]
        constructor
        · intro hx; exact ⟨hx, by simp [hx]⟩
        · exact fun hx => hx.1
      · exfalso
        have hjl : j < oa.size := by simpa using (List.getElem?_eq_some_iff.1 hj).1
        simp [hjl] at hT

end

end Go.HL
