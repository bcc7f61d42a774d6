/-
  HL, part lb: maps of ints: they are made, set, looked up.
  Conditions: none.
-/
import Derived.Test.YtneingpnkdeooaaHla
namespace Go.HL
open Go U

section
variable {P : Program} {n : Nat} {G G' : Ghost} {st : HSt} {a : Act} {w w' : World} {o : Oper} {Q : Exit → Act → World → Prop} {K : HSt → Prop}

theorem intT_spec {t : TypeId} (h : intT P t = true) : P.underlying t = some (.int .i64) := by
  unfold intT at h
  split at h
  · rename_i k hu
    rw [hu]
    obtain rfl := kEq_eq (j := k) (k := .i64) h
    rfl
  · cases h

theorem mapT_spec {t : TypeId} (h : mapT P t = true) : ∃ k e i, P.underlying t = some (.map k e) ∧ P.underlying k = some (.int .i64) ∧ P.info? e = some i ∧ i.zero = some (.int .i64 0) := by
  unfold mapT at h
  split at h
  · rename_i k e hu
    rw [Bool.and_eq_true] at h
    obtain ⟨h1, h2⟩ := h
    unfold zeroInt at h2
    rw [Bool.and_eq_true] at h2
    obtain ⟨_, h2⟩ := h2
    split at h2
    · rename_i i hi
      split at h2
      · rename_i k' n hz
        rw [Bool.and_eq_true] at h2
        obtain rfl := kEq_eq (j := k') (k := .i64) h2.1
        have := h2.2
        simp at this
        subst this
        exact ⟨k, e, i, hu, intT_spec h1, hi, hz⟩
      · cases h2
    · cases h2
  · cases h

/-- where a key stands -/
def mpos : List MapEntry → Int → Nat → Option (Nat × Value)
  | [], _, _ => none
  | e :: l, k, i => if keyI e = some k then some (i, e.val) else mpos l k (i + 1)

theorem keyI_of {e : MapEntry} {j : Int} (h : e.key = .int .i64 j) : keyI e = some j := by unfold keyI; rw [h]

theorem mpos_mget : ∀ (l : List MapEntry) (k : Int) (i : Nat), (mpos l k i).map (·.2) = mget l k
  | [], _, _ => rfl
  | e :: l, k, i => by
    unfold mpos mget
    split
    · rfl
    · exact mpos_mget l k (i + 1)

theorem findNow_int (k : Int) : ∀ (l : List MapEntry) (i : Nat), (∀ e ∈ l, ∃ k n, e.key = .int .i64 k ∧ e.val = .int .i64 n) → Instr.findNow (.int .i64) (.int .i64 k) l i = some (mpos l k i)
  | [], i, _ => rfl
  | e :: l, i, h => by
    obtain ⟨j, m, he, _⟩ := h e (by simp)
    unfold Instr.findNow mpos
    rw [he, keyI_of he]
    simp only [Instr.sameNow, if_true]
    by_cases hjk : j = k
    · subst hjk
      simp
    · have h1 : (k == j) = false := by simpa using fun e => hjk e.symm
      rw [h1]
      rw [if_neg (fun e => hjk (Option.some.inj e))]
      exact findNow_int k l (i + 1) (fun e he => h e (List.mem_cons_of_mem _ he))

theorem run_findKey {kt : TypeId} (hk : P.underlying kt = some (.int .i64)) (k : Int) {l : List MapEntry} (h : ∀ e ∈ l, ∃ k n, e.key = .int .i64 k ∧ e.val = .int .i64 n) :
    (Instr.findKey kt (.int .i64 k) l).run P w = .ok (mpos l k 0) w := by
  unfold Instr.findKey
  simp only [Sem.run_bind, run_underlying hk, Result.andThen_ok, findNow_int k l 0 h, Sem.run_pure]

theorem run_checkKey {kt : TypeId} (hk : P.underlying kt = some (.int .i64)) (em : Bool) (k : Int) : (Instr.checkKey em 10000 kt (.int .i64 k)).run P w = .ok () w := by
  show (Instr.checkKey em (9999 + 1) kt (.int .i64 k)).run P w = _
  unfold Instr.checkKey
  simp only [Sem.run_bind, run_underlying hk, Result.andThen_ok, Sem.run_pure]

theorem run_getMap {b : Nat} {es : Array MapEntry} {clk : Nat} (hb : w.heap[b]? = some (.map es clk)) : (getObj b).run P w = .ok (.map es clk) w := by
  simp [getObj, Sem.run, hb]

theorem optD_some (x : Int) : optD (some x) = x := rfl

theorem lookup_sound (h : Rel n G st a w) (s : Sides n o) {t : TypeId} {x y : Operand} {ok2 : Bool} (ho : o.op = .lookup t x y ok2)
    (hk : (lookupSem P t (evalO P st.env o.type x) (evalO P st.env o.type y) ok2 st.box o.dst).wp st K) : o.wp P a w (Post n G w K) Q := by
  obtain ⟨L1, h1⟩ := s.ev (P := P) h o.type (x := x) (by rw [ho]; simp [Op.operands])
  obtain ⟨L2, h2⟩ := s.ev (P := P) h o.type (x := y) (by rw [ho]; simp [Op.operands])
  unfold lookupSem at hk
  split at hk
  case h_2 => exact hk.elim
  rename_i r kc e1 e2
  rw [e1] at h1
  rw [e2] at h2
  split at hk
  case h_2 => exact hk.elim
  rename_i k u f hkc hbx
  have hkv := isNum_rel h2.of_ce hkc
  obtain ⟨b, hb, hv⟩ := h1.of_ce
  cases hm : mapT P t with
  | false => rw [hm] at hk; exact hk.elim
  | true =>
  rw [hm] at hk
  simp only [cond_true] at hk
  obtain ⟨kt, et, i, hu, hku, hi, hz⟩ := mapT_spec hm
  obtain ⟨b', es, clk, g1, g2, g3, g4, g5, g6⟩ := (h.mem.box r _ hbx).map
  rw [hb] at g1
  cases g1
  have hpos := mpos_mget es.toList k 0
  rw [g6 k] at hpos
  have hrun : ∀ c : Bool, (Instr.lookup t (.map (some b)) (.int .i64 k) c).run P w = .ok (if c then .tuple #[.int .i64 (optD (f k)), .bool (optB (f k))] else .int .i64 (optD (f k))) w := by
    intro c
    unfold Instr.lookup
    simp only [Sem.run_bind, run_underlying hu, Result.andThen_ok, run_getMap g3, Sem.run_pure, run_checkKey hku, run_findKey hku k g5]
    cases hp : mpos es.toList k 0 with
    | none =>
      rw [hp] at hpos
      have hf : f k = none := by
        cases hf : f k with
        | none => rfl
        | some x => rw [hf] at hpos; cases hpos
      rw [hf]
      simp [zeroValue, typeInfo, hi, hz, optD, optB]
    | some q =>
      obtain ⟨q1, q2⟩ := q
      rw [hp] at hpos
      cases hf : f k with
      | none => rw [hf] at hpos; cases hpos
      | some x =>
        rw [hf] at hpos
        simp at hpos
        subst hpos
        simp [optD, optB]
  have hex : ∀ v, (Instr.lookup t (.map (some b)) (.int .i64 k) ok2).run P w = .ok v w → (execOp a.eval o).run P w = .ok (.value v) w := by
    intro v hr
    unfold execOp
    simp only [ho, hv, hkv, Sem.run_bind, hr, Result.andThen_ok, Sem.run_pure]
  cases ok2 with
  | true =>
    simp only [cond_true] at hk
    refine ok_sound h s (hv := .tup [.ce (.int .i64 (optD (f k))), .ce (.bool (optB (f k)))]) (v := .tuple #[.int .i64 (optD (f k)), .bool (optB (f k))]) ⟨_, rfl, rfl, fun j x hj => ?_⟩ (hex _ (hrun true)) hk
    match j, hj with
    | 0, hj => cases hj; exact ⟨_, rfl, rfl⟩
    | 1, hj => cases hj; exact ⟨_, rfl, rfl⟩
    | j + 2, hj => simp at hj
  | false =>
    simp only [cond_false] at hk
    exact ok_sound h s (hv := .ce (.int .i64 (optD (f k)))) (v := .int .i64 (optD (f k))) rfl (hex _ (hrun false)) hk

theorem makeMap_sound (h : Rel n G st a w) (s : Sides n o) {t : TypeId} (ho : o.op = .makeMap t none)
    (hk : (makeMapSem P t st.box o.dst).wp st K) : o.wp P a w (Post n G w K) Q := by
  unfold makeMapSem at hk
  split at hk
  case h_2 => exact hk.elim
  rename_i d hd
  split at hk
  case h_2 => exact hk.elim
  rename_i hfree hmt
  have hp := Pres.fresh h.mem (.map #[] 0) (L := .box (newKey d)) (fixed := false) (key := some (newKey d)) (fun r e => by cases e; exact hfree)
  have hev := Evolves.fresh h.mem (.map #[] 0) (L := .box (newKey d)) (fixed := false) (key := some (newKey d)) (fun r e => by cases e; unfold newKey; omega)
  have hm : Mem (G.fresh w.heap.size (.box (newKey d)) false (some (newKey d))) (upd st.box (newKey d) (some [.mpb mnil])) (w.alloc (.map #[] 0)) := by
    refine ⟨fun r cells hr => ?_, fun r b hb => ?_, (h.mem.fresh_own _).1, (h.mem.fresh_own _).2⟩
    · by_cases hrk : r = newKey d
      · subst hrk
        rw [upd_same] at hr
        cases hr
        refine .inr (.inr (.inr (.inl ⟨_, rfl, w.heap.size, #[], 0, upd_same _ _ _, upd_same _ _ _, alloc_new w _, fun o hi => ?_, (fun e he => by cases he), fun k => rfl⟩)))
        rcases hi with hi | ⟨e, _⟩
        · have := h.mem.imm _ _ hi; omega
        · cases e
      · rw [upd_ne _ _ hrk] at hr
        exact (h.mem.box r cells hr).pres hp trivial (fun _ => trivial)
    · by_cases hrk : r = newKey d
      · subst hrk; exact ⟨_, upd_same _ _ _⟩
      · obtain ⟨cells, hc⟩ := h.mem.beta r b ((upd_ne G.beta (some w.heap.size) hrk).symm.trans hb)
        exact ⟨cells, (upd_ne _ _ hrk).trans hc⟩
  have hrun : (execOp a.eval o).run P w = .ok (.value (.map (some w.heap.size))) (w.alloc (.map #[] 0)) := by
    unfold execOp
    have hmm : (Instr.makeMap t none).run P w = .ok (.map (some w.heap.size)) (w.alloc (.map #[] 0)) := rfl
    simp only [ho, Option.map_none, Sem.run_bind, hmm, Result.andThen_ok, Sem.run_pure]
  refine wp_value hrun ⟨_, _, hk, ?_, hev⟩
  have := h.put s.le (dst := o.dst) (fun d' e => s.dst d' e) hp (fun _ _ => trivial) (own := false) (hv := .ce (.mapv (newKey d))) (v := .map (some w.heap.size))
    ⟨w.heap.size, upd_same _ _ _, rfl⟩ (fun _ _ e => nomatch e) hm (log := st.log)
  rw [hd] at this ⊢
  exact this

theorem mget_modify : ∀ (l : List MapEntry) (k v : Int) (i p : Nat) (old : Value), mpos l k i = some (p, old) → (∀ e ∈ l, ∃ k n, e.key = .int .i64 k ∧ e.val = .int .i64 n) →
    i ≤ p ∧ p - i < l.length ∧ (l[p - i]?).map (·.key) = some (.int .i64 k) ∧ ∀ x, mget (l.modify (p - i) fun e => { e with key := .int .i64 k, val := .int .i64 v }) x = if x = k then some (.int .i64 v) else mget l x
  | [], k, v, i, p, old, h, _ => by cases h
  | e :: l, k, v, i, p, old, h, hk => by
    obtain ⟨j, m, he, hm⟩ := hk e (by simp)
    unfold mpos at h
    rw [keyI_of he] at h
    by_cases hjk : j = k
    · rw [if_pos (congrArg some hjk)] at h
      cases h
      subst hjk
      refine ⟨Nat.le_refl _, by simp, by simp [he], fun x => ?_⟩
      rw [Nat.sub_self]
      show mget ({ e with key := .int .i64 j, val := .int .i64 v } :: l) x = _
      unfold mget
      rw [keyI_of he]
      have hk2 : keyI { e with key := .int .i64 j, val := .int .i64 v } = some j := rfl
      rw [hk2]
      by_cases hx : x = j
      · subst hx; simp
      · have hn : ¬ some j = some x := fun e => hx (Option.some.inj e).symm
        rw [if_neg hn, if_neg hx, if_neg hn]
    · rw [if_neg (fun e => hjk (Option.some.inj e))] at h
      obtain ⟨g1, g2, g3, g4⟩ := mget_modify l k v (i + 1) p old h (fun e he => hk e (List.mem_cons_of_mem _ he))
      have hp : p - i = (p - (i + 1)) + 1 := by omega
      refine ⟨by omega, by simp; omega, by rw [hp]; simpa using g3, fun x => ?_⟩
      rw [hp]
      have hmod : (e :: l).modify (p - (i + 1) + 1) (fun e => { e with key := .int .i64 k, val := .int .i64 v }) = e :: l.modify (p - (i + 1)) (fun e => { e with key := .int .i64 k, val := .int .i64 v }) := by
        simp
      rw [hmod]
      unfold mget
      rw [keyI_of he, g4]
      by_cases hx : x = k
      · subst hx
        rw [if_neg (fun e => hjk (Option.some.inj e)), if_pos rfl, if_pos rfl]
      · rw [if_neg hx, if_neg hx]

theorem mget_push (k v : Int) (c : Nat) : ∀ (l : List MapEntry) (i : Nat), mpos l k i = none → ∀ x, mget (l ++ [{ key := .int .i64 k, val := .int .i64 v, born := c }]) x = if x = k then some (.int .i64 v) else mget l x
  | [], i, h, x => by
    simp only [List.nil_append, mget]
    have hk2 : keyI { key := .int .i64 k, val := .int .i64 v, born := c } = some k := rfl
    rw [hk2]
    by_cases hx : x = k
    · subst hx; simp
    · rw [if_neg hx, if_neg (fun e => hx (Option.some.inj e).symm)]
  | e :: l, i, h, x => by
    unfold mpos at h
    rw [List.cons_append]
    unfold mget
    split at h
    · cases h
    · rename_i hjk
      rw [mget_push k v c l (i + 1) h x]
      by_cases hx : x = k
      · subst hx; rw [if_neg hjk, if_pos rfl, if_pos rfl]
      · rw [if_neg hx, if_neg hx]

theorem setObj_run {b : Nat} {ob : Obj} {es : Array MapEntry} {clk : Nat} (hb : w.heap[b]? = some (.map es clk)) : (setObj b ob).run P w = .ok () { w with heap := w.heap.setIfInBounds b ob } := by
  simp [setObj, Sem.run, hb]

theorem mapUpdate_sound (h : Rel n G st a w) (s : Sides n o) {t : TypeId} {x y z : Operand} (ho : o.op = .mapUpdate t x y z) (hd : o.dst = none)
    (hk : (mapUpdateSem P t (evalO P st.env o.type x) (evalO P st.env o.type y) (evalO P st.env o.type z) st.box).wp st K) : o.wp P a w (Post n G w K) Q := by
  obtain ⟨L1, h1⟩ := s.ev (P := P) h o.type (x := x) (by rw [ho]; simp [Op.operands])
  obtain ⟨L2, h2⟩ := s.ev (P := P) h o.type (x := y) (by rw [ho]; simp [Op.operands])
  obtain ⟨L3, h3⟩ := s.ev (P := P) h o.type (x := z) (by rw [ho]; simp [Op.operands])
  unfold mapUpdateSem at hk
  split at hk
  case h_2 => exact hk.elim
  rename_i r kc vc e1 e2 e3
  rw [e1] at h1
  rw [e2] at h2
  rw [e3] at h3
  split at hk
  case h_2 => exact hk.elim
  rename_i k u v u2 f hkc hvc hbx
  have hkv := isNum_rel h2.of_ce hkc
  have hvv := isNum_rel h3.of_ce hvc
  obtain ⟨b, hb, hv⟩ := h1.of_ce
  cases hm : mapT P t with
  | false => rw [hm] at hk; exact hk.elim
  | true =>
  rw [hm] at hk
  simp only [cond_true] at hk
  obtain ⟨kt, et, i, hu, hku, hi, hz⟩ := mapT_spec hm
  obtain ⟨b', es, clk, g1, g2, g3, g4, g5, g6⟩ := (h.mem.box r _ hbx).map
  rw [hb] at g1
  cases g1
  have hlt : b < w.heap.size := h.mem.own _ _ g2
  -- the new entries
  have hnew : ∃ es' clk', (Instr.mapUpdate t (.map (some b)) (.int .i64 k) (.int .i64 v)).run P w = .ok () { w with heap := w.heap.setIfInBounds b (.map es' clk') } ∧ MapOK es'.toList (mput f k v) := by
    unfold Instr.mapUpdate
    simp only [Sem.run_bind, run_underlying hu, Result.andThen_ok, run_getMap g3, run_checkKey hku, run_findKey hku k g5]
    cases hp : mpos es.toList k 0 with
    | some q =>
      obtain ⟨p, old⟩ := q
      obtain ⟨_, q2, q3, q4⟩ := mget_modify es.toList k v 0 p old hp g5
      rw [Nat.sub_zero] at q2 q3 q4
      have hkey : ((es[p]?).map (·.key)).getD (.int .i64 k) = .int .i64 k := by
        have : es[p]? = es.toList[p]? := by simp
        rw [this, q3]
        rfl
      refine ⟨es.modify p fun e => { e with key := .int .i64 k, val := .int .i64 v }, clk, ?_, ?_, ?_⟩
      · simp only [hkey, Instr.keyThatStays]
        have : Instr.sameBits 10000 (.int .i64 k) (.int .i64 k) = true := by
          show Instr.sameBits (9999 + 1) _ _ = true
          simp [Instr.sameBits]
        rw [if_pos this]
        simp only [Sem.run_bind, Sem.run_pure, Result.andThen_ok]
        exact setObj_run g3
      · intro e he
        rw [Array.toList_modify] at he
        obtain ⟨j, hj, rfl⟩ := List.getElem_of_mem he
        rw [List.getElem_modify]
        split
        · exact ⟨k, v, rfl, rfl⟩
        · exact g5 _ (List.getElem_mem _)
      · intro x
        rw [Array.toList_modify, q4, g6]
        unfold mput
        split <;> rfl
    | none =>
      refine ⟨es.push { key := .int .i64 k, val := .int .i64 v, born := clk }, clk + 1, setObj_run g3, ?_, ?_⟩
      · intro e he
        rw [Array.toList_push] at he
        rcases List.mem_append.1 he with he | he
        · exact g5 e he
        · simp at he; subst he; exact ⟨k, v, rfl, rfl⟩
      · intro x
        rw [Array.toList_push, mget_push k v clk es.toList 0 hp x, g6]
        unfold mput
        split <;> rfl
  obtain ⟨es', clk', hrun, hok⟩ := hnew
  let w1 : World := { w with heap := w.heap.setIfInBounds b (.map es' clk') }
  have hother : ∀ x, x ≠ b → w1.heap[x]? = w.heap[x]? := fun x hne => by
    show (w.heap.setIfInBounds b _)[x]? = _
    rw [Array.getElem?_setIfInBounds_ne (Ne.symm hne)]
  have hself : w1.heap[b]? = some (.map es' clk') := by
    show (w.heap.setIfInBounds b _)[b]? = _
    rw [Array.getElem?_setIfInBounds_self_of_lt hlt]
  have hcell : ∀ x q, G.imm x q → w1.cell? (at_ x q) = w.cell? (at_ x q) := by
    intro x q hi
    have hne : x ≠ b := fun e => by subst e; exact g4 q hi
    exact cell_of_heap (hother x hne) q
  have hsize : w1.heap.size = w.heap.size := by show (w.heap.setIfInBounds b _).size = _; simp
  have hp0 : Pres G w G w1 (fun x => x ≠ .box r) :=
    ⟨fun x q hi => ⟨hi, hcell x q hi⟩, fun _ _ e => e, fun x L hL hx => ⟨hx, hother x (fun e => by subst e; rw [g2] at hx; cases hx; exact hL rfl), fun _ e => e⟩⟩
  have hev : Evolves G w G w1 :=
    ⟨rfl, rfl, rfl, by rw [hsize]; exact Nat.le_refl _, fun x q hi => ⟨hi, hcell x q hi⟩, fun x _ hx => ⟨hx, hother x (fun e => by subst e; rw [g2] at hx; cases hx), fun _ e => e⟩, fun _ _ _ e => e⟩
  have hrun2 : (execOp a.eval o).run P w = .ok .skip w1 := by
    unfold execOp
    simp only [ho, hv, hkv, hvv, Sem.run_bind, hrun, Result.andThen_ok, Sem.run_pure]
    rfl
  refine wp_skip' hrun2 ⟨_, G, hk, ?_, hev⟩
  rw [hd]
  refine ⟨h.defers, h.size, fun x hx => h.env_of hp0 x hx rfl rfl (.inr ⟨rfl, by simp⟩), ?_⟩
  refine ⟨fun r' c' hr' => ?_, fun r' b' hb' => ?_, fun x L hx => by rw [hsize]; exact h.mem.own x L hx, fun x q hi => by rw [hsize]; exact h.mem.imm x q hi⟩
  · have hr2 : upd st.box r (some [.mpb (mput f k v)]) r' = some c' := hr'
    by_cases hrr : r' = r
    · subst hrr
      rw [upd_same] at hr2
      cases hr2
      exact .inr (.inr (.inr (.inl ⟨_, rfl, b, es', clk', hb, g2, hself, g4, hok⟩)))
    · rw [upd_ne _ _ hrr] at hr2
      exact (h.mem.box r' c' hr2).pres hp0 (by simp; exact hrr) (fun q => by simp)
  · by_cases hrr : r' = r
    · subst hrr; exact ⟨_, upd_same _ _ _⟩
    · obtain ⟨c', hc'⟩ := h.mem.beta r' b' hb'
      exact ⟨c', (upd_ne _ _ hrr).trans hc'⟩
end

end Go.HL
