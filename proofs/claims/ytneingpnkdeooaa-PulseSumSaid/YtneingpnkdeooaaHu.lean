/-
  HL, part u: a region is sound, in the order of its text and in every order.
  Conditions: none.
-/
import Derived.Test.YtneingpnkdeooaaHt
namespace Go.HL
open Go

section
variable {P : Program} {n : Nat} {G G' : Ghost} {st : HSt} {a : Act} {w w' : World} {o : Oper} {Q : Exit → Act → World → Prop} {K : HSt → Prop} {C : Ctx} {ops : List Oper} {ms : List Nat}

/-! ### a step marks its own place alone -/

theorem body_log {i : Nat} (h : body1 C true ops ms i o st K) : body1 C true ops ms i o st (fun st' => (∀ j, j ≠ i → st'.log j = st.log j) ∧ K st') := by
  rw [body_iff] at h ⊢
  exact ⟨h.1, h.2.1, fun u hu => ⟨fun j hj => upd_ne _ _ hj, h.2.2 u hu⟩⟩

theorem step_log {i : Nat} (h : step1 C true ops ms i st K) : step1 C true ops ms i st (fun st' => (∀ j, j ≠ i → st'.log j = st.log j) ∧ K st') := by
  unfold step1 at h ⊢
  split at h
  · exact h
  · unfold decG at h ⊢
    split at h
    · exact body_log h
    · refine dec_lit (fun st' _ _ hl _ hb => ?_) h
      refine body_mono (fun st'' hk => ⟨fun j hj => ?_, hk.2⟩) (body_log hb)
      rw [hk.1 j hj, hl]

structure Free (ops : List Oper) (ms : List Nat) (x i : Nat) : Prop where
  ne : x ≠ i
  m1 : (ms.getD x 0).testBit i = false
  m2 : (ms.getD i 0).testBit x = false
  ap : ∃ ox oi, ops[x]? = some ox ∧ ops[i]? = some oi ∧ Apart ops ox oi

theorem hops_front {i : Nat} {B : List Nat} : ∀ {A : List Nat} {st : HSt}, (∀ x, x ∈ A → st.log x = []) → A.Nodup → (∀ x, x ∈ A → Free ops ms x i) →
    hops C true ops ms (A ++ i :: B) st K → step1 C true ops ms i st (fun st' => hops C true ops ms (A ++ B) st' K)
  | [], st, _, _, _, h => h
  | x :: A, st, hl, hn, hf, h => by
    have hfx := hf x (by simp)
    obtain ⟨ox, oi, hx, hi, hap⟩ := hfx.ap
    refine step_comm hfx.ne hx hi hap hfx.m1 hfx.m2 (hl x (by simp)) ?_
    refine step_mono (fun st' hk => ?_) (step_log h)
    refine hops_front (fun y hy => ?_) (List.nodup_cons.1 hn).2 (fun y hy => hf y (by simp [hy])) hk.2
    have hyx : y ≠ x := fun e => (List.nodup_cons.1 hn).1 (e ▸ hy)
    rw [hk.1 y hyx]
    exact hl y (by simp [hy])

/-! ### what must come before -/

theorem masks_take : ∀ (l : List Oper) (acc : List Nat), (masks l acc).take acc.length = acc
  | [], acc => by simp [masks]
  | o :: r, acc => by
    unfold masks
    have h := masks_take r (acc ++ [orMask acc (edgesOf o)])
    have h2 := congrArg (List.take acc.length) h
    rw [List.take_take] at h2
    simp at h2
    exact h2

theorem masks_getD {l : List Oper} {acc : List Nat} {k : Nat} (hk : k < acc.length) : (masks l acc).getD k 0 = acc.getD k 0 := by
  have h := masks_take l acc
  have h2 := congrArg (fun m => m.getD k 0) h
  simp only [List.getD_eq_getElem?_getD, List.getElem?_take, hk, if_true] at h2
  simpa [List.getD_eq_getElem?_getD] using h2

theorem masks_spec : ∀ (l : List Oper) (acc : List Nat) (j : Nat) (o : Oper), l[j]? = some o →
    ∃ pre : List Nat, pre.length = acc.length + j ∧ (∀ k, k < pre.length → pre.getD k 0 = (masks l acc).getD k 0) ∧ (masks l acc).getD (acc.length + j) 0 = orMask pre (edgesOf o)
  | [], _, _, _, h => by simp at h
  | o :: r, acc, 0, o', h => by
    simp at h
    subst h
    refine ⟨acc, by simp, fun k hk => (masks_getD hk).symm, ?_⟩
    unfold masks
    rw [masks_getD (by simp)]
    simp [List.getD_eq_getElem?_getD]
  | o :: r, acc, j + 1, o', h => by
    obtain ⟨pre, h1, h2, h3⟩ := masks_spec r (acc ++ [orMask acc (edgesOf o)]) j o' (by simpa using h)
    refine ⟨pre, by rw [h1]; simp; omega, h2, ?_⟩
    have e : (acc ++ [orMask acc (edgesOf o)]).length + j = acc.length + (j + 1) := by simp; omega
    rw [e] at h3
    exact h3

theorem orMask_bit {acc : List Nat} {i : Nat} : ∀ {es : List Nat}, (orMask acc es).testBit i = true → ∃ e, e ∈ es ∧ (i = e ∨ (acc.getD e 0).testBit i = true)
  | [], h => by simp [orMask] at h
  | e :: r, h => by
    unfold orMask at h
    rw [Nat.testBit_or, Nat.testBit_or] at h
    simp only [Bool.or_eq_true] at h
    rcases h with (h | h) | h
    · rw [Nat.testBit_two_pow] at h
      exact ⟨e, by simp, .inl (by simpa using h : e = i).symm⟩
    · exact ⟨e, by simp, .inr h⟩
    · obtain ⟨e', h1, h2⟩ := orMask_bit h
      exact ⟨e', by simp [h1], h2⟩

/-- a set of operations that holds with each one those that it waits for -/
def Closed (ops : List Oper) (T : Nat → Prop) : Prop := ∀ (j : Nat) (o : Oper), ops[j]? = some o → T j → ∀ e, e ∈ edgesOf o → T e

theorem mask_in {T : Nat → Prop} (hc : Closed ops T) (hT : ∀ j, T j → j < ops.length) : ∀ (j : Nat) (o : Oper), ops[j]? = some o → (∀ e, e ∈ edgesOf o → T e) →
    ∀ i, ((masks ops []).getD j 0).testBit i = true → T i := by
  intro j
  induction j using Nat.strongRecOn with
  | _ j ih =>
    intro o ho he i hi
    obtain ⟨pre, h1, h2, h3⟩ := masks_spec ops [] j o ho
    simp only [List.length_nil, Nat.zero_add] at h1 h3
    rw [h3] at hi
    obtain ⟨e, hem, h | h⟩ := orMask_bit hi
    · subst h; exact he _ hem
    · have hTe := he e hem
      have hel := hT e hTe
      have hoe : ops[e]? = some ops[e] := List.getElem?_eq_getElem hel
      by_cases hej : e < j
      · rw [h2 e (by omega)] at h
        exact ih e hej _ hoe (hc e _ hoe hTe) i h
      · exfalso
        have : pre.getD e 0 = 0 := by
          rw [List.getD_eq_getElem?_getD, List.getElem?_eq_none (by omega)]; rfl
        rw [this] at h
        simp at h

theorem mask_lt (hlt : ∀ (j : Nat) (o : Oper), ops[j]? = some o → ∀ e, e ∈ edgesOf o → e < j) : ∀ (j : Nat) (o : Oper), ops[j]? = some o →
    ∀ i, ((masks ops []).getD j 0).testBit i = true → i < j := by
  intro j
  induction j using Nat.strongRecOn with
  | _ j ih =>
    intro o ho i hi
    obtain ⟨pre, h1, h2, h3⟩ := masks_spec ops [] j o ho
    simp only [List.length_nil, Nat.zero_add] at h1 h3
    rw [h3] at hi
    obtain ⟨e, hem, h | h⟩ := orMask_bit hi
    · subst h; exact hlt j o ho _ hem
    · have hej := hlt j o ho e hem
      have hjl : j < ops.length := (List.getElem?_eq_some_iff.1 ho).1
      have hoe : ops[e]? = some (ops[e]'(by omega)) := List.getElem?_eq_getElem (by omega)
      rw [h2 e (by omega)] at h
      exact Nat.lt_trans (ih e hej _ hoe i h) hej

theorem drawOK_edges (h : drawOK ops = true) : ∀ (j : Nat) (o : Oper), ops[j]? = some o → ∀ e, e ∈ edgesOf o → e < j := by
  intro j o ho e he
  unfold drawOK at h
  simp only [Bool.and_eq_true, allBelow, List.all_eq_true, List.mem_range] at h
  have := h.1 j (List.getElem?_eq_some_iff.1 ho).1
  rw [ho] at this
  have := List.all_eq_true.1 this e he
  exact Nat.le_of_ble_eq_true this

theorem drawOK_apart (h : drawOK ops = true) : ∀ (i j : Nat) (oi oj : Oper), ops[i]? = some oi → ops[j]? = some oj → i < j → ((masks ops []).getD j 0).testBit i = true ∨ Apart ops oi oj := by
  intro i j oi oj hi hj hij
  unfold drawOK at h
  simp only [Bool.and_eq_true, allBelow, List.all_eq_true, List.mem_range] at h
  have := h.2 j (List.getElem?_eq_some_iff.1 hj).1 i hij
  rw [hi, hj] at this
  simp only [Bool.or_eq_true] at this
  exact this.imp id apart_spec

/-! ### one step -/

theorem slot_bool {s : Nat} {b : Bool} (hs : s < n) (hn : n ≤ 100000) (h : Rel n G st a w) (e : st.env s = .ce (.bool b) ∨ st.env s = .ce (.lit b)) : a.tmps[s]? = some (.bool b) := by
  have hr := h.env s (by omega)
  have hv : a.tmps.getD s undef = .bool b := by rcases e with e | e <;> (rw [e] at hr; exact hr)
  have hlt : s < a.tmps.size := by rw [h.size]; exact hs
  rw [Array.getD_eq_getD_getElem?] at hv
  rw [Array.getElem?_eq_getElem hlt] at hv ⊢
  simpa using hv

theorem rel_lit {s : Nat} {b : Bool} (hs : s < n) (hn : n ≤ 100000) (h : Rel n G st a w) (e : st.env s = .ce (.bool b)) : Rel n G { st with env := upd st.env s (.ce (.lit b)) } a w := by
  refine ⟨h.defers, h.size, fun d hd => ?_, h.mem⟩
  have hfl : flagL (upd st.env s (.ce (.lit b))) d = flagL st.env d := by
    unfold flagL
    rw [upd_ne _ _ (by unfold FL; omega)]
  have hr := h.env d hd
  by_cases hds : d = s
  · subst hds
    rw [e] at hr
    show VRel G w _ (upd st.env d (.ce (.lit b)) d) _
    rw [upd_same]
    exact hr
  · show VRel G w (flagL (upd st.env s (.ce (.lit b))) d) (upd st.env s (.ce (.lit b)) d) _
    rw [upd_ne _ _ hds, hfl]
    exact hr

theorem post_skip (h : Rel n G st a w) (hn : n ≤ 100000) (hd : ∀ d, o.dst = some d → d < n) {log : Nat → List (Nat × Bool)} (hk : K { st.app (skipUpd o) with log := log }) : Post n G w K (a.put o.dst undef) w := by
  refine ⟨_, G, hk, ?_, Evolves.refl _ _⟩
  have := h.put hn hd (Pres.refl G w fun _ => True) (fun _ _ => trivial) (own := false) (hv := .tup []) (v := undef) ⟨#[], rfl, rfl, fun j h hj => by simp at hj⟩ (fun _ _ e => nomatch e) h.mem (log := log)
  cases hdst : o.dst with
  | none => unfold skipUpd; rw [hdst] at this ⊢; exact this
  | some d => unfold skipUpd; rw [hdst] at this ⊢; exact this

theorem dstOK_spec (h : dstOK n ops = true) {i : Nat} (ho : ops[i]? = some o) : guardGood ops o = true ∧ Sides n o := by
  unfold dstOK at h
  simp only [Bool.and_eq_true, List.all_eq_true] at h
  obtain ⟨hn, h⟩ := h
  have hn := Nat.le_of_ble_eq_true hn
  obtain ⟨⟨h1, h2⟩, h3⟩ := h o (List.mem_of_getElem? ho)
  refine ⟨h1, hn, fun d hd => ?_, fun t ht => ?_⟩
  · rw [hd] at h2; exact Nat.le_of_ble_eq_true h2
  · have : t ∈ opTmps o := by
      unfold opTmps
      exact List.mem_filterMap.2 ⟨.tmp t, ht, rfl⟩
    exact Nat.lt_of_lt_of_le (Nat.le_of_ble_eq_true (h3 t this) : t + 1 ≤ n) hn

theorem guard_slot (h : dstOK n ops = true) {s : Nat} {want : Bool} (hg : guardOf ops o = some (s, want)) : s < n ∧ ∃ g, o.guard = some (g, want) ∧ (ops[g]?).bind (·.dst) = some s := by
  unfold guardOf at hg
  split at hg
  · cases hg
  · rename_i g want' hgo
    split at hg
    · rename_i s' hs
      cases hg
      cases hop : ops[g]? with
      | none => rw [hop] at hs; cases hs
      | some og =>
        rw [hop] at hs
        exact ⟨(dstOK_spec h hop).2.dst s hs, g, hgo, by rw [hop]; exact hs⟩
    · cases hg

theorem step_sound {oa : Array Oper} {draw : Bool} {i : Nat} (hops : oa.toList = ops) (hd : dstOK n ops = true) (hΓ : ∀ f S, C.Γ f = some S → Sound C.P f S)
    (h : Rel n G st a w) (hs : step1 C draw ops ms i st K) : wpOp C.P oa Q i (Post n G w K) a w := by
  unfold step1 at hs
  cases ho : ops[i]? with
  | none => rw [ho] at hs; exact hs.elim
  | some o =>
    rw [ho] at hs
    dsimp only at hs
    obtain ⟨hgood, hsides⟩ := dstOK_spec hd ho
    have hoa : ∀ k : Nat, oa[k]? = ops[k]? := fun k => by rw [← hops]; simp
    unfold wpOp
    rw [hoa i, ho]
    dsimp only
    -- the operation is done
    have done : ∀ (st : HSt), Rel n G st a w → Region.wanted o (yielded oa a.tmps) = true → actOf C ops o st.env st.box = (opKeys C.P (isTake ops o) (isFz C o) o st.env, osem C.P C.Γ (isTake ops o) (isFz C o) o st.env st.box) →
        body1 C draw ops ms i o st K → (if Region.wanted o (yielded oa a.tmps) = true then o.wp C.P a w (Post n G w K) Q ∨ (o.asks C.P a w ∧ LetsOut Q) else Post n G w K (a.put o.dst undef) w) := by
      intro st h hw hact hb
      rw [if_pos hw]
      refine .inl ?_
      unfold body1 at hb
      rw [hact] at hb
      cases draw with
      | false => exact osem_sound h hsides hΓ hb
      | true =>
        simp only [cond_true] at hb
        cases hl : logOK ops ms i (opKeys C.P (isTake ops o) (isFz C o) o st.env) st.log with
        | true =>
          rw [hl] at hb
          simp only [cond_true] at hb
          have := osem_sound (Q := Q) h hsides hΓ hb
          refine Oper.wp_mono (fun a' w' hp => ?_) this
          obtain ⟨st', G', hk, hr, he⟩ := hp
          exact ⟨_, G', hk, ⟨hr.defers, hr.size, hr.env, hr.mem⟩, he⟩
        | false => rw [hl] at hb; exact hb.elim
    unfold decG at hs
    cases hg : guardOf ops o with
    | none =>
      rw [hg] at hs
      dsimp only at hs
      have hno : o.guard = none := by
        unfold guardOf at hg
        unfold guardGood at hgood
        split at hg
        · assumption
        · rename_i g want hgo
          rw [hgo] at hgood
          split at hg
          · cases hg
          · rename_i hs2
            dsimp only at hgood
            rw [hs2] at hgood
            cases hgood
      have hw : Region.wanted o (yielded oa a.tmps) = true := by unfold Region.wanted; rw [hno]
      exact done st h hw (by unfold actOf; rw [hg]) hs
    | some sw =>
      obtain ⟨s, want⟩ := sw
      rw [hg] at hs
      dsimp only at hs
      obtain ⟨hsn, g, hgo, hgd⟩ := guard_slot hd hg
      have key : ∀ (b : Bool) (st : HSt), Rel n G st a w → st.env s = .ce (.lit b) → body1 C draw ops ms i o st K →
          (if Region.wanted o (yielded oa a.tmps) = true then o.wp C.P a w (Post n G w K) Q ∨ (o.asks C.P a w ∧ LetsOut Q) else Post n G w K (a.put o.dst undef) w) := by
        intro b st h he hb
        have ht := slot_bool hsn hsides.le h (.inr he)
        have hy : yielded oa a.tmps g = some b := by
          unfold yielded
          rw [hoa g]
          simp only [hgd, Option.bind_some, ht]
        have hw : Region.wanted o (yielded oa a.tmps) = (bif want then b else !b) := by
          unfold Region.wanted
          rw [hgo]
          dsimp only
          rw [hy]
          cases want <;> cases b <;> rfl
        cases hc : (bif want then b else !b) with
        | true =>
          refine done st h (hw.trans hc) ?_ hb
          unfold actOf
          rw [hg]
          dsimp only
          rw [he]
          dsimp only
          rw [hc]
          rfl
        | false =>
          rw [hw, hc]
          simp only [Bool.false_eq_true, if_false]
          have hact : actOf C ops o st.env st.box = ([], .set (skipUpd o)) := by
            unfold actOf
            rw [hg]
            dsimp only
            rw [he]
            dsimp only
            rw [hc]
            rfl
          unfold body1 at hb
          rw [hact] at hb
          cases draw with
          | false => exact post_skip h hsides.le hsides.dst (log := st.log) hb
          | true =>
            simp only [cond_true] at hb
            exact post_skip h hsides.le hsides.dst (log := upd st.log i []) hb
      rcases dec_cases s st with e | ⟨b, e⟩ | hno
      · rw [dec_of_lit e] at hs
        rcases isSet_cases e with ⟨b, e⟩ | e
        · exact key b st h e hs
        · -- the guard itself was skipped
          have hv : a.tmps.getD s undef = undef := by
            have hr := h.env s (Nat.lt_of_lt_of_le hsn hsides.le)
            rw [e] at hr
            obtain ⟨vs, hv, hsz, _⟩ := hr
            rw [hv]
            obtain rfl : vs = #[] := by cases vs; simp at hsz; subst hsz; rfl
            rfl
          have ht : a.tmps[s]? = some undef := by
            have hlt : s < a.tmps.size := by rw [h.size]; exact hsn
            rw [Array.getD_eq_getD_getElem?] at hv
            rw [Array.getElem?_eq_getElem hlt] at hv ⊢
            simpa using hv
          have hy : yielded oa a.tmps g = none := by
            unfold yielded
            rw [hoa g]
            simp only [hgd, Option.bind_some, ht]
            rfl
          have hw : Region.wanted o (yielded oa a.tmps) = false := by
            unfold Region.wanted
            rw [hgo]
            dsimp only
            rw [hy]
            rfl
          have hact : actOf C ops o st.env st.box = ([], .set (skipUpd o)) := by
            unfold actOf
            rw [hg]
            dsimp only
            rw [e]
          rw [hw]
          simp only [Bool.false_eq_true, if_false]
          unfold body1 at hs
          rw [hact] at hs
          cases draw with
          | false => exact post_skip h hsides.le hsides.dst (log := st.log) hs
          | true =>
            simp only [cond_true] at hs
            exact post_skip h hsides.le hsides.dst (log := upd st.log i []) hs
      · rw [dec_of_bool e] at hs
        exact key b _ (rel_lit hsn hsides.le h e) (upd_same _ _ _) (hs b rfl)
      · exact absurd hs (hno _)
end

end Go.HL
