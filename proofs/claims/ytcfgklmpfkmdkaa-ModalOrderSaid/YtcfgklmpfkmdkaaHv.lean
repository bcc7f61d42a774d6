/-
  HL, part v: code is sound.
  Conditions: none.
-/
import Derived.Test.YtcfgklmpfkmdkaaHu
namespace Go.HL
open Go

section
variable {P : Program} {n : Nat} {G G' : Ghost} {st : HSt} {a : Act} {w w' : World} {o : Oper} {Q : Exit → Act → World → Prop} {K : HSt → Prop} {C : Ctx} {ops : List Oper} {ms : List Nat}

/-! ### regions -/

theorem ops_sound {oa : Array Oper} (hoa0 : oa.toList = ops) (hd : dstOK n ops = true) (hΓ : ∀ f S, C.Γ f = some S → Sound C.P f S) {G0 : Ghost} {w0 : World}
    (hQ : ∀ st a w G, K st → Rel n G st a w → Evolves G0 w0 G w → Q .normal a w) :
    ∀ (l : List Nat) (G : Ghost) (st : HSt) (a : Act) (w : World), Rel n G st a w → Evolves G0 w0 G w → hops C false ops ms l st K → wpOps C.P oa Q l a w
  | [], G, st, a, w, h, he, hk => hQ st a w G hk h he
  | i :: l, G, st, a, w, h, he, hk => by
    rw [wpOps_cons]
    refine wpOp_mono (fun a' w' hp => ?_) (step_sound (Q := Q) hoa0 hd hΓ h hk)
    obtain ⟨st', G', hk', hr, he'⟩ := hp
    exact ops_sound hoa0 hd hΓ hQ l G' st' a' w' hr (he.trans he') hk'

/-- what is pending in a drawn region -/
structure Pend (ops : List Oper) (l : List Nat) (listed : Array Bool) : Prop where
  sorted : l.Pairwise (· < ·)
  mem : ∀ x, x ∈ l ↔ x < ops.length ∧ listed.getD x false = false
  size : listed.size = ops.length
  closed : Closed ops (fun x => listed.getD x false = true)

theorem edges_after {e : Nat} : e ∈ edgesOf o ↔ ∃ d ∈ o.after, Region.binds .any d = true ∧ d.on = e := by
  unfold edgesOf
  simp only [List.mem_map, List.mem_filter, Array.mem_toList_iff]
  constructor
  · rintro ⟨d, ⟨h1, h2⟩, h3⟩; exact ⟨d, h1, h2, h3⟩
  · rintro ⟨d, h1, h2, h3⟩; exact ⟨d, ⟨h1, h2⟩, h3⟩

theorem getD_true_false {l : Array Bool} {x : Nat} (h : x < l.size) : l.getD x true = l.getD x false := by
  simp [Array.getD, h]

theorem any_sound {oa : Array Oper} (hoa0 : oa.toList = ops) (hd : dstOK n ops = true) (hD : drawOK ops = true) (hΓ : ∀ f S, C.Γ f = some S → Sound C.P f S) {G0 : Ghost} {w0 : World}
    (hQ : ∀ st a w G, K st → Rel n G st a w → Evolves G0 w0 G w → Q .normal a w) :
    ∀ (fuel : Nat) (l : List Nat) (listed : Array Bool) (G : Ghost) (st : HSt) (a : Act) (w : World), fuel = l.length → Pend ops l listed → (∀ x, x ∈ l → st.log x = []) →
      Rel n G st a w → Evolves G0 w0 G w → hops C true ops (masks ops []) l st K → wpAny C.P .any oa Q fuel listed a w := by
  have hoa : ∀ k : Nat, oa[k]? = ops[k]? := fun k => by rw [← hoa0]; simp
  intro fuel
  induction fuel with
  | zero =>
    intro l listed G st a w hl hp hlog h he hk
    have hnil : l = [] := List.eq_nil_of_length_eq_zero hl.symm
    subst hnil
    refine ⟨?_, hQ st a w G hk h he⟩
    rw [List.eq_nil_iff_forall_not_mem]
    intro x hx
    rw [mem_ready] at hx
    obtain ⟨h1, o, h2, _⟩ := hx
    rw [hoa] at h2
    have hxl := (List.getElem?_eq_some_iff.1 h2).1
    have := (hp.mem x).2 ⟨hxl, by rw [← getD_true_false (by rw [hp.size]; exact hxl)]; exact h1⟩
    cases this
  | succ fuel ih =>
    intro l listed G st a w hl hp hlog h he hk
    refine ⟨fun hr => ?_, fun i hi => ?_⟩
    · -- something is ready
      exfalso
      cases l with
      | nil => cases hl
      | cons m r =>
        have hm := (hp.mem m).1 (by simp)
        have hom : ops[m]? = some (ops[m]'hm.1) := List.getElem?_eq_getElem hm.1
        have : m ∈ Region.ready .any oa listed := by
          rw [mem_ready]
          refine ⟨by rw [getD_true_false (by rw [hp.size]; exact hm.1)]; exact hm.2, _, (hoa m).trans hom, fun e he hb => ?_⟩
          have hem : e.on ∈ edgesOf (ops[m]'hm.1) := edges_after.2 ⟨e, he, hb, rfl⟩
          have hlt := drawOK_edges hD m _ hom e.on hem
          cases hb2 : listed.getD e.on false with
          | true => rfl
          | false =>
            exfalso
            have := (hp.mem e.on).2 ⟨by omega, hb2⟩
            rcases List.mem_cons.1 this with h1 | h1
            · omega
            · have := (List.pairwise_cons.1 hp.sorted).1 _ h1; omega
        rw [hr] at this
        cases this
    · rw [mem_ready] at hi
      obtain ⟨h1, o, h2, h3⟩ := hi
      rw [hoa] at h2
      have hil := (List.getElem?_eq_some_iff.1 h2).1
      have hil' : i < listed.size := by rw [hp.size]; exact hil
      have himem : i ∈ l := (hp.mem i).2 ⟨hil, by rw [← getD_true_false hil']; exact h1⟩
      have hedge : ∀ e, e ∈ edgesOf o → listed.getD e false = true := fun e he => by
        obtain ⟨d, hd1, hd2, hd3⟩ := edges_after.1 he
        rw [← hd3]; exact h3 d hd1 hd2
      obtain ⟨A, B, rfl⟩ := List.append_of_mem himem
      have hsort := hp.sorted
      rw [List.pairwise_append] at hsort
      obtain ⟨sA, sB, sAB⟩ := hsort
      have hA : ∀ x, x ∈ A → x < i := fun x hx => sAB x hx i (by simp)
      have hB : ∀ x, x ∈ B → i < x := (List.pairwise_cons.1 sB).1
      have hfree : ∀ x, x ∈ A → Free ops (masks ops []) x i := fun x hx => by
        have hxi := hA x hx
        have hxp := (hp.mem x).1 (by simp [hx])
        have hox : ops[x]? = some (ops[x]'hxp.1) := List.getElem?_eq_getElem hxp.1
        have hm2 : ((masks ops []).getD i 0).testBit x = false := by
          cases hb : ((masks ops []).getD i 0).testBit x with
          | false => rfl
          | true =>
            have := mask_in hp.closed (fun j hj => by
              rcases Nat.lt_or_ge j ops.length with h | h
              · exact h
              · exfalso
                have hjs : ¬ j < listed.size := by rw [hp.size]; omega
                simp [Array.getD, hjs] at hj) i o h2 hedge x hb
            rw [hxp.2] at this
            cases this
        refine ⟨by omega, ?_, hm2, _, o, hox, h2, ?_⟩
        · cases hb : ((masks ops []).getD x 0).testBit i with
          | false => rfl
          | true =>
            have := mask_lt (drawOK_edges hD) x _ hox i hb
            omega
        · rcases drawOK_apart hD x i _ o hox h2 hxi with h | h
          · rw [hm2] at h; cases h
          · exact h
      have hstep := hops_front (fun x hx => hlog x (by simp [hx])) (sA.imp Nat.ne_of_lt) hfree hk
      have hnot : i ∉ A ++ B := by
        intro hm
        rcases List.mem_append.1 hm with hm | hm
        · exact Nat.lt_irrefl _ (hA i hm)
        · exact Nat.lt_irrefl _ (hB i hm)
      have hp' : Pend ops (A ++ B) (listed.setIfInBounds i true) := by
        refine ⟨?_, fun x => ?_, by simp [hp.size], fun j oj hj hT e he => ?_⟩
        · rw [List.pairwise_append]
          exact ⟨sA, (List.pairwise_cons.1 sB).2, fun x hx y hy => sAB x hx y (by simp [hy])⟩
        · by_cases hxi : x = i
          · subst hxi
            constructor
            · intro hm; exact absurd hm hnot
            · rintro ⟨_, hf⟩
              exfalso
              simp [hil'] at hf
          · rw [getD_set_ne false (Ne.symm hxi), ← hp.mem x]
            simp only [List.mem_append, List.mem_cons, hxi, false_or]
        · by_cases hji : j = i
          · subst hji
            rw [h2] at hj
            cases hj
            exact getD_set_true (hedge e he)
          · dsimp only at hT
            rw [getD_set_ne false (Ne.symm hji)] at hT
            exact getD_set_true (hp.closed j oj hj hT e he)
      refine wpOp_mono (fun a' w' hpost => ?_) (step_sound (Q := Q) hoa0 hd hΓ h (step_log hstep))
      obtain ⟨st', G', ⟨hlog', hk'⟩, hr, he'⟩ := hpost
      refine ih (A ++ B) _ G' st' a' w' ?_ hp' (fun x hx => ?_) hr (he.trans he') hk'
      · simp at hl ⊢; omega
      · rw [hlog' x (fun e => hnot (e ▸ hx))]
        refine hlog x ?_
        rcases List.mem_append.1 hx with hx | hx <;> simp [hx]

/-! ### exits -/

def ofEx : HEx → Exit
  | .normal => .normal
  | .exit id => .exit id
  | .ret => .ret

/-- what code leaves -/
def PostE (n : Nat) (G : Ghost) (w : World) (Qh : HEx → HSt → Prop) (e : Exit) (a' : Act) (w' : World) : Prop :=
  ∃ he st' G', e = ofEx he ∧ Qh he st' ∧ Rel n G' st' a' w' ∧ Evolves G w G' w'

theorem PostE.back {G1 : Ghost} {w1 : World} {Qh : HEx → HSt → Prop} (h : Evolves G w G1 w1) {e : Exit} {a' : Act} {w' : World} (hp : PostE n G1 w1 Qh e a' w') : PostE n G w Qh e a' w' := by
  obtain ⟨he, st', G', h1, h2, h3, h4⟩ := hp
  exact ⟨he, st', G', h1, h2, h3, h.trans h4⟩

theorem Rel.same_heap (h : Rel n G st a w) (he : w'.heap = w.heap) : Rel n G st a w' :=
  ⟨h.defers, h.size, fun d hd => (h.env d hd).pres (ok := fun _ => True) (Pres.same_heap he) (fun _ _ => trivial), h.mem.same_heap he⟩

theorem Rel.noLog (h : Rel n G st a w) : Rel n G (HL.noLog st) a w := ⟨h.defers, h.size, h.env, h.mem⟩

theorem evolves_draw (G : Ghost) (w : World) : Evolves G w G { w with drawn := w.drawn + 1 } :=
  ⟨rfl, rfl, rfl, Nat.le_refl _, fun _ _ h => ⟨h, rfl⟩, fun _ _ h => ⟨h, rfl, fun _ h => h⟩, fun _ _ _ h => h⟩

theorem splCases_sound {v : Int} {K0 : Prop} {K : Int → Prop} : ∀ {l : List Int}, splCases v K0 K l → K0 ∨ ∃ c, v = c ∧ K c
  | [], h => .inl h
  | c :: r, h => by
    by_cases e : v = c
    · exact .inr ⟨c, e, h.1 e⟩
    · exact splCases_sound (h.2 e)

theorem Rel.setNum (h : Rel n G st a w) {b j : Nat} {cells : List HC} {k : IntKind} {v : Int} (hb : st.box b = some cells) (hj : cells[j]? = some (.int k v)) : Rel n G (setBox st b (cells.set j (.num k v))) a w := by
  refine ⟨h.defers, h.size, h.env, fun r c hr => ?_, fun r x hx => ?_, h.mem.own, h.mem.imm⟩
  · have hr : upd st.box b (some (cells.set j (.num k v))) r = some c := hr
    by_cases hrb : r = b
    · subst hrb
      rw [upd_same] at hr
      cases hr
      rcases h.mem.box r cells hb with ⟨x, vs, T, h1, h2, h3, h4, h5, h6⟩ | ⟨ks, rows, rfl, _⟩ | ⟨rfl, _⟩ | ⟨_, rfl, _⟩
      · refine .inl ⟨x, vs, T, h1, h2, h3, h4, by rw [List.length_set]; exact h5, fun i c hc => ?_⟩
        rw [List.getElem?_set] at hc
        split at hc
        · rename_i e
          subst e
          obtain ⟨u, hu, hru⟩ := h6 j _ hj
          split at hc
          · cases hc; exact ⟨u, hu, hru⟩
          · cases hc
        · exact h6 i c hc
      · cases j <;> simp at hj
      · simp at hj
      · cases j <;> simp at hj
    · rw [upd_ne _ _ hrb] at hr
      exact h.mem.box r c hr
  · obtain ⟨c, hc⟩ := h.mem.beta r x hx
    by_cases hrb : r = b
    · subst hrb; exact ⟨_, upd_same _ _ _⟩
    · exact ⟨c, (upd_ne _ _ hrb).trans hc⟩

theorem splAll_sound {id : Nat} {K : HSt → Prop} : ∀ (l : List Nat) {st : HSt}, Rel n G st a w → splAll l id st K → ∃ st', Rel n G st' a w ∧ K st'
  | [], st, h, hx => ⟨st, h, hx⟩
  | e :: r, st, h, hx => by
    unfold splAll at hx
    cases hc : Nat.beq (e / 10000000000) (100000 + id) with
    | false => rw [hc] at hx; exact splAll_sound r h hx
    | true =>
      rw [hc] at hx
      simp only [cond_true] at hx
      unfold splCell at hx
      split at hx
      · rename_i cells hb
        split at hx
        · rename_i k v hj
          rcases splCases_sound hx with h0 | ⟨c, rfl, hk⟩
          · exact splAll_sound r h h0
          · exact splAll_sound r (h.setNum hb hj) hk
        · exact splAll_sound r h hx
      · exact splAll_sound r h hx

theorem region_sound {id : Nat} {oa : Array Oper} {draw : Bool} (hm : C.P.follows .mixedOrders = true) (hΓ : ∀ f S, C.Γ f = some S → Sound C.P f S) {Qh : HEx → HSt → Prop}
    (h : Rel C.n G st a w) (hx : hreg C id oa draw st Qh) : (Code.region id oa draw).wp C.P (PostE C.n G w Qh) a w := by
  unfold hreg at hx
  obtain ⟨st1, h, hx⟩ := splAll_sound C.fz h hx
  cases hc : (dstOK C.n oa.toList && (!draw || drawOK oa.toList)) with
  | false => rw [hc] at hx; exact hx.elim
  | true =>
    rw [hc] at hx
    simp only [cond_true] at hx
    rw [Bool.and_eq_true] at hc
    cases draw with
    | false =>
      simp only [cond_false] at hx
      refine wp_region ?_
      exact ops_sound rfl hc.1 hΓ (fun st a w' G' hk hr he => ⟨.normal, st, G', rfl, hk, hr, he⟩) _ G (noLog st1) a w h.noLog (Evolves.refl _ _) hx
    | true =>
      simp only [cond_true] at hx
      have hD : drawOK oa.toList = true := by simpa using hc.2
      refine wp_region_any hm ?_
      refine any_sound rfl hc.1 hD hΓ (fun st a w' G' hk hr he => ⟨.normal, st, G', rfl, hk, hr, he⟩) oa.size (List.range oa.size) _ G (noLog st1) a _ (by simp) ?_ (fun _ _ => rfl) (h.noLog.same_heap rfl) (evolves_draw G w) hx
      refine ⟨List.pairwise_lt_range, fun x => ?_, by simp, fun j oj hj hT e he => ?_⟩
      · simp only [List.mem_range, Array.length_toList]
        constructor
        · intro hx; exact ⟨hx, by simp [hx]⟩
        · exact fun hx => hx.1
      · exfalso
        have hjl : j < oa.size := by simpa using (List.getElem?_eq_some_iff.1 hj).1
        simp [hjl] at hT

end

end Go.HL
