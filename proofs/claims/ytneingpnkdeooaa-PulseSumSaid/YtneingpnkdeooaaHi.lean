/-
  HL, part i: slices: literals, parts, lengths, appends.
  Conditions: none.
-/
import Derived.Test.YtneingpnkdeooaaHh
namespace Go.HL
open Go

section
variable {P : Program} {n : Nat} {G G' : Ghost} {st : HSt} {a : Act} {w w' : World} {o : Oper} {Q : Exit → Act → World → Prop} {K : HSt → Prop}

theorem elemKs_spec {e : TypeId} {ks : List Nat} (h : elemKs P e = some ks) : ∃ i z, P.info? e = some i ∧ i.zero = some z ∧ i.size = ks.length ∧ 1 ≤ ks.length ∧ z.cells.size = ks.length := by
  unfold elemKs at h
  split at h
  · rename_i ks' i hk hi
    split at h
    · rename_i z hb hz
      rw [Bool.and_eq_true] at hb
      cases hc : Nat.beq z.cells.size i.size with
      | false => rw [hc] at h; cases h
      | true =>
        rw [hc] at h
        cases h
        have h1 := Nat.eq_of_beq_eq_true hb.1
        exact ⟨i, z, hi, hz, h1, Nat.le_of_ble_eq_true hb.2, (Nat.eq_of_beq_eq_true hc).trans h1⟩
    · cases h
  · cases h

/-- one place of a literal's cells is filled -/
theorem fill_slice (ks : List Nat) (ev : Operand → HV) (ρ : Operand → Value) : ∀ (l : List (Nat × Operand)) (i : Nat) (rows : List (List Int)) (done rest : List Value),
    litRows ks i (l.map fun p => (p.1, ev p.2)) = some rows → (∀ p ∈ l, ∃ L, VRel G w L (ev p.2) (ρ p.2)) → done.length = i * ks.length → rest.length = l.length * ks.length →
    Instr.fill (fun i => some (i * ks.length, ks.length)) (done ++ rest).toArray (l.map fun p => (p.1, ρ p.2)) = some (done ++ flatRows ks rows).toArray ∧ rows.length = l.length
  | [], i, rows, done, rest, h, _, _, hr => by
    cases h
    have : rest = [] := List.eq_nil_of_length_eq_zero (by simpa using hr)
    subst this
    exact ⟨rfl, rfl⟩
  | (j, x) :: l, i, rows, done, rest, h, hrel, hd, hr => by
    rw [List.map_cons] at h ⊢
    unfold litRows at h
    split at h
    · rename_i cs hj hc
      split at h
      · rename_i row rows' hrow hrows
        cases h
        obtain rfl := Nat.eq_of_beq_eq_true hj
        obtain ⟨L, hv⟩ := hrel (i, x) (by simp)
        have hcs : CsRel G w cs (ρ x).cells := cells_rel hv hc
        obtain ⟨h1, h2, h3⟩ := rowOf_rel (G := G) (w := w) hrow
        -- the cells that are put
        have hcells : (ρ x).cells.toList = (List.range ks.length).map fun j => kval (ks.getD j 0) (row.getD j 0) := by
          apply List.ext_getElem?
          intro q
          by_cases hq : q < ks.length
          · obtain ⟨u, hu, hr⟩ := hcs.2 q (cs[q]'(by omega)) (by simp [h1, hq])
            have := h3 q _ u (by simp [h1, hq]) hr
            simp [hq]
            have hu' : (ρ x).cells[q]? = some u := hu
            rw [hu', this]
            simp [hq, h2]
          · have hs := hcs.1
            rw [List.getElem?_eq_none (by simp; omega), List.getElem?_eq_none (by simp; omega)]
        have hsz : (ρ x).cells.size = ks.length := by have := hcs.1; omega
        have hl : rest.length = ks.length + l.length * ks.length := by simpa [Nat.succ_mul, Nat.add_comm] using hr
        unfold Instr.fill
        simp only
        rw [if_neg (by simp only [ne_eq, hsz, not_true, Bool.or_eq_true, decide_eq_true_eq, false_or]; simp [hd, hl])]
        obtain ⟨g1, g2⟩ := fill_slice ks ev ρ l (i + 1) rows' (done ++ (ρ x).cells.toList) (rest.drop ks.length) hrows (fun p hp => hrel p (List.mem_cons_of_mem _ hp))
          (by simp [hd, hsz, Nat.succ_mul]) (by simp [hl])
        refine ⟨?_, by simp [g2]⟩
        unfold flatRows
        rw [← List.append_assoc, ← hcells, ← g1]
        congr 1
        -- the fold writes the cells one by one
        rw [← Array.foldl_toList, Array.toList_zipIdx]
        have hfold : ∀ (us : List Value) (pre post : List Value) (k : Nat), pre.length = i * ks.length + k → us.length ≤ post.length →
            (us.zipIdx k).foldl (fun cs x => cs.setIfInBounds (i * ks.length + x.2) x.1) (pre ++ post).toArray = (pre ++ us ++ post.drop us.length).toArray := by
          intro us
          induction us with
          | nil => intro pre post k _ _; simp
          | cons u us ih =>
            intro pre post k hp hl
            match post, hl with
            | p :: post, hl =>
              rw [List.zipIdx_cons, List.foldl_cons]
              have : (pre ++ p :: post).toArray.setIfInBounds (i * ks.length + k) u = ((pre ++ [u]) ++ post).toArray := by
                rw [← hp]
                simp [List.set_append_right]
              simp only [this]
              rw [ih (pre ++ [u]) post (k + 1) (by simp; omega) (by simpa using hl)]
              simp
        have := hfold (ρ x).cells.toList done rest 0 (by omega) (by simp [hsz, hl])
        simp only [Array.length_toList, hsz] at this
        exact this
      · cases h
    · cases h

theorem ks_pos {ks : List Nat} (h : 1 ≤ ks.length) (a b : Nat) (hab : a * ks.length ≤ b * ks.length) : a ≤ b := Nat.le_of_mul_le_mul_right hab h

/-- a new block of fixed rows, owned by the slot -/
theorem fixed_pre {bx : Nat → Option (List HC)} (h : Mem G bx w) (d : Nat) {ks : List Nat} {rows : List (List Int)} {cur : List Value} {E : TypeId} {cap : Nat}
    (hcur : ∀ i j, i < rows.length → j < ks.length → cur[i * ks.length + j]? = some (kval (ks.getD j 0) ((rows.getD i []).getD j 0)))
    (hfit : cap * ks.length ≤ cur.length) (hc : rows.length ≤ cap) (hm : cap ≤ maxLen) :
    ∃ G', Pres G w G' (w.alloc (.cells cur.toArray E)) (fun _ => True) ∧ Evolves G w G' (w.alloc (.cells cur.toArray E)) ∧ Mem G' bx (w.alloc (.cells cur.toArray E)) ∧
      ∀ L : Option Loc, (∀ Lc, L = some Lc → Lc = .tmp d) → SRel G' (w.alloc (.cells cur.toArray E)) L ks rows (.slice (some (at_ w.heap.size 0)) rows.length cap) := by
  let G' : Ghost := { G with imm := fun x o => G.imm x o ∨ (x = w.heap.size ∧ o < rows.length * ks.length), owner := upd G.owner w.heap.size (some (.tmp d)) }
  have hp : Pres G w G' (w.alloc (.cells cur.toArray E)) (fun _ => True) := by
    refine ⟨fun b o hi => ⟨.inl hi, cell_of_heap (alloc_old w _ b (h.imm b o hi)) o⟩, fun _ _ hb => hb, fun b L' _ hb => ?_⟩
    have hlt := h.own b L' hb
    have hne : b ≠ w.heap.size := by omega
    exact ⟨(upd_ne _ _ hne).trans hb, alloc_old w _ b hlt, fun o hi => hi.elim id fun h2 => absurd h2.1 hne⟩
  have hev : Evolves G w G' (w.alloc (.cells cur.toArray E)) := by
    refine ⟨rfl, rfl, rfl, by simp, fun b o hi => ⟨.inl hi, cell_of_heap (alloc_old w _ b (h.imm b o hi)) o⟩, fun b hb ho => ?_, fun _ _ _ e => e⟩
    have hne : b ≠ w.heap.size := by omega
    exact ⟨(upd_ne _ _ hne).trans ho, alloc_old w _ b hb, fun o hi => hi.elim id fun h2 => absurd h2.1 hne⟩
  have hmem : Mem G' bx (w.alloc (.cells cur.toArray E)) := by
    refine ⟨fun r cells hr => (h.box r cells hr).pres hp trivial (fun _ => trivial), h.beta, fun b L' hb => ?_, fun b o hi => ?_⟩
    · rcases upd_some hb with ⟨rfl, _⟩ | hb
      · simp
      · have := h.own b L' hb; simp; omega
    · rcases hi with hi | ⟨rfl, _⟩
      · have := h.imm b o hi; simp; omega
      · simp
  refine ⟨G', hp, hev, hmem, fun L hL => ⟨_, cap, rfl, hc, hm, .inr ⟨w.heap.size, 0, rfl, fun i j hi hj => ?_, fun Lc he => ?_⟩⟩⟩
  · refine ⟨.inr ⟨rfl, ?_⟩, ?_⟩
    · have : (i + 1) * ks.length ≤ rows.length * ks.length := Nat.mul_le_mul_right _ hi
      rw [Nat.succ_mul] at this
      omega
    · rw [cell_heap _ _ _ (alloc_new w _)]
      simpa using hcur i j hi hj
  · rw [hL Lc he]
    refine ⟨upd_same _ _ _, cur.toArray, E, alloc_new w _, by simpa using hfit, fun x hx _ hi => ?_⟩
    rcases hi with hi | ⟨_, hlt⟩
    · have := h.imm _ _ hi; omega
    · omega

theorem fixed_new (h : Rel n G st a w) (hn : n ≤ 100000) {d : Nat} (hd : d < n) {ks : List Nat} {rows : List (List Int)} {cur : List Value} {E : TypeId} {cap : Nat}
    (hcur : ∀ i j, i < rows.length → j < ks.length → cur[i * ks.length + j]? = some (kval (ks.getD j 0) ((rows.getD i []).getD j 0)))
    (hfit : cap * ks.length ≤ cur.length) (hc : rows.length ≤ cap) (hm : cap ≤ maxLen) :
    ∃ G', Rel n G' (st.app (put (some d) true (.ce (.sl true ks rows)))) (a.put (some d) (.slice (some (at_ w.heap.size 0)) rows.length cap)) (w.alloc (.cells cur.toArray E)) ∧
      Evolves G w G' (w.alloc (.cells cur.toArray E)) := by
  obtain ⟨G', hp, hev, hmem, hs⟩ := fixed_pre h.mem d hcur hfit hc hm (E := E)
  refine ⟨G', ?_, hev⟩
  have := h.put hn (dst := some d) (fun d' e => by cases e; exact hd) hp (fun _ _ => trivial) (own := true) (hv := .ce (.sl true ks rows)) (hs none (fun _ e => nomatch e))
    (fun d' e _ => by cases e; exact hs _ (fun Lc e => by cases e; rfl)) hmem (log := st.log)
  exact this

theorem litRows_len (ks : List Nat) (ev : Operand → HV) : ∀ (l : List (Nat × Operand)) (i : Nat) (rows : List (List Int)), litRows ks i (l.map fun p => (p.1, ev p.2)) = some rows → rows.length = l.length
  | [], i, rows, h => by cases h; rfl
  | (j, x) :: l, i, rows, h => by
    rw [List.map_cons] at h
    unfold litRows at h
    split at h
    · split at h
      · rename_i hrows
        cases h
        simp [litRows_len ks ev l _ _ hrows]
      · cases h
    · cases h

theorem ksEq_eq : ∀ {a b : List Nat}, ksEq a b = true → a = b
  | [], [], _ => rfl
  | a :: l, b :: m, h => by
    unfold ksEq at h
    rw [Bool.and_eq_true] at h
    rw [Nat.eq_of_beq_eq_true h.1, ksEq_eq h.2]
  | [], _ :: _, h => by cases h
  | _ :: _, [], h => by cases h

theorem subKs_spec {e : TypeId} {ks : List Nat} (h : subKs P e = some ks) : ∃ i z, P.info? e = some i ∧ i.size = 1 ∧ i.zero = some z ∧ z.cells.size = 1 := by
  unfold subKs at h
  split at h
  case h_2 => cases h
  rename_i e2 i hu hi
  cases hb : (Nat.beq i.size 1 && zero1 i) with
  | false => rw [hb] at h; cases h
  | true =>
    rw [Bool.and_eq_true] at hb
    obtain ⟨h1, h2⟩ := hb
    unfold zero1 at h2
    split at h2
    · rename_i z hz; exact ⟨i, z, hi, Nat.eq_of_beq_eq_true h1, hz, Nat.eq_of_beq_eq_true h2⟩
    · cases h2

theorem litSlices_spec (ks : List Nat) (ev : Operand → HV) (ρ : Operand → Value) : ∀ (l : List (Nat × Operand)) (i : Nat) (ll : List (List (List Int))), (∀ p ∈ l, ∃ L, VRel G w L (ev p.2) (ρ p.2)) →
    litSlices ks i (l.map fun p => (p.1, ev p.2)) = some ll → ll.length = l.length ∧ (∀ j, (l[j]?).map (·.1) = (if j < l.length then some (i + j) else none)) ∧
      ∀ j, j < ll.length → ∃ p, l[j]? = some p ∧ SRel G w none ks (ll.getD j []) (ρ p.2)
  | [], i, ll, _, h => by cases h; exact ⟨rfl, fun j => by simp, fun j hj => by simp at hj⟩
  | (q, x) :: l, i, ll, hr, h => by
    rw [List.map_cons] at h
    obtain ⟨L, hx⟩ := hr (q, x) (by simp)
    dsimp only at h hx
    generalize he : ev x = hv at h hx
    unfold litSlices at h
    split at h
    · rename_i heq; cases heq
    · rename_i i' i2 lst j' own ls rows r heq
      injection heq with e1 e2
      injection e1 with e3 e4
      subst e2; subst e4; subst e3
      cases hb : (Nat.beq i' q && ksEq ls ks) with
      | false => rw [hb] at h; cases h
      | true =>
        rw [hb] at h
        simp only [cond_true] at h
        rw [Bool.and_eq_true] at hb
        have hiq := Nat.eq_of_beq_eq_true hb.1
        obtain rfl := ksEq_eq hb.2
        subst hiq
        cases ht : litSlices ls (i' + 1) (l.map fun p => (p.1, ev p.2)) with
        | none => rw [ht] at h; cases h
        | some m =>
          rw [ht] at h
          cases h
          obtain ⟨g1, g2, g3⟩ := litSlices_spec ls ev ρ l (i' + 1) m (fun p hp => hr p (List.mem_cons_of_mem _ hp)) ht
          refine ⟨by simp [g1], fun j => ?_, fun j hj => ?_⟩
          · cases j with
            | zero => simp
            | succ j =>
              have := g2 j
              simp only [List.getElem?_cons_succ, List.length_cons]
              rw [this]
              by_cases hjl : j < l.length
              · rw [if_pos hjl, if_pos (by omega)]; congr 1; omega
              · rw [if_neg hjl, if_neg (by omega)]
          · cases j with
            | zero => exact ⟨_, rfl, SRel.drop hx⟩
            | succ j => simpa using g3 j (by simpa using hj)
    · cases h

theorem fill_ones (ρ : Operand → Value) : ∀ (l : List (Nat × Operand)) (i : Nat) (done rest : List Value), (∀ j, (l[j]?).map (·.1) = (if j < l.length then some (i + j) else none)) → (∀ p ∈ l, (ρ p.2).oneCell' = true) →
    done.length = i → rest.length = l.length → Instr.fill (fun i => some (i * 1, 1)) (done ++ rest).toArray (l.map fun p => (p.1, ρ p.2)) = some (done ++ l.map fun p => ρ p.2).toArray
  | [], i, done, rest, _, _, _, hr => by
    have : rest = [] := List.eq_nil_of_length_eq_zero (by simpa using hr)
    subst this
    simp [Instr.fill]
  | (q, x) :: l, i, done, rest, hk, h1, hd, hr => by
    have hq : q = i := by simpa using hk 0
    subst hq
    match rest, hr with
    | r :: rest, hr =>
      have ih := fill_ones ρ l (q + 1) (done ++ [ρ x]) rest (fun j => by
        have := hk (j + 1)
        simp only [List.getElem?_cons_succ, List.length_cons] at this
        rw [this]
        by_cases hjl : j < l.length
        · rw [if_pos hjl, if_pos (by omega)]; congr 1; omega
        · rw [if_neg hjl, if_neg (by omega)]) (fun p hp => h1 p (List.mem_cons_of_mem _ hp)) (by simp [hd]) (by simpa using hr)
      have hone := cells_one (h1 (q, x) (by simp))
      dsimp only at hone
      rw [List.map_cons]
      have hset : (done ++ r :: rest).toArray.setIfInBounds (q * 1 + 0) (ρ x) = ((done ++ [ρ x]) ++ rest).toArray := by
        apply Array.ext'
        simp only [Array.toList_setIfInBounds, Nat.mul_one, Nat.add_zero]
        rw [List.set_append_right _ _ (by omega)]
        simp [hd]
      have hcond : ¬ (#[ρ x].size ≠ 1 || decide (q * 1 + #[ρ x].size > (done ++ r :: rest).toArray.size)) = true := by
        have : (done ++ r :: rest).length ≥ q + 1 := by simp; omega
        simp
        omega
      show (if (ρ x).cells.size ≠ 1 || decide (q * 1 + (ρ x).cells.size > (done ++ r :: rest).toArray.size) then none else
        Instr.fill _ ((ρ x).cells.zipIdx.foldl (fun cs (c, j) => cs.setIfInBounds (q * 1 + j) c) (done ++ r :: rest).toArray) (l.map fun p => (p.1, ρ p.2))) = _
      rw [hone, if_neg hcond]
      have hz : (#[ρ x].zipIdx.foldl (fun (cs : Array Value) (x : Value × Nat) => cs.setIfInBounds (q * 1 + x.2) x.1) (done ++ r :: rest).toArray) = (done ++ r :: rest).toArray.setIfInBounds (q * 1 + 0) (ρ x) := rfl
      rw [hz, hset, ih]
      simp

theorem nested_sound (h : Rel n G st a w) (s : Sides n o) {t e : TypeId} {len : Nat} {parts : Array (Nat × Operand)} (ho : o.op = .buildSlice t len parts) (hu : P.underlying t = some (.slice e)) {ks : List Nat} (hks : subKs P e = some ks)
    (hk : (bif Nat.beq (parts.toList.map fun p => (p.1, evalO P st.env o.type p.2)).length len && Nat.ble 1 len && Nat.ble len 1000000 then
        match litSlices ks 0 (parts.toList.map fun p => (p.1, evalO P st.env o.type p.2)) with
        | some ll => ok o.dst (.ce (.nsls ks ll))
        | none => .fail
      else .fail : OSem).wp st K) : o.wp P a w (Post n G w K) Q := by
  have hops : ∀ p ∈ parts.toList, ∃ L, VRel G w L (evalO P st.env o.type p.2) (a.eval p.2) := fun p hp =>
    s.ev (P := P) h o.type (x := p.2) (by rw [ho]; simp only [Op.operands]; simp; exact ⟨p.1, by simpa using hp⟩)
  have hpm : (parts.map fun (i, x) => (i, a.eval x)).toList = parts.toList.map fun p => (p.1, a.eval p.2) := by simp
  obtain ⟨i, z, hi, hsz, hz, hzs⟩ := subKs_spec hks
  cases hb : (Nat.beq (parts.toList.map fun p => (p.1, evalO P st.env o.type p.2)).length len && Nat.ble 1 len && Nat.ble len 1000000) with
  | false => rw [hb] at hk; exact hk.elim
  | true =>
  rw [hb] at hk
  simp only [cond_true] at hk
  rw [Bool.and_eq_true, Bool.and_eq_true] at hb
  have hlen : parts.toList.length = len := by simpa using Nat.eq_of_beq_eq_true hb.1.1
  have hpos := Nat.le_of_ble_eq_true hb.1.2
  have hbig := Nat.le_of_ble_eq_true hb.2
  split at hk
  case h_2 => exact hk.elim
  rename_i ll hll
  obtain ⟨g1, g2, g3⟩ := litSlices_spec (G := G) (w := w) ks _ a.eval _ 0 ll hops hll
  let us : List Value := parts.toList.map fun p => a.eval p.2
  have hone : ∀ p ∈ parts.toList, (a.eval p.2).oneCell' = true := by
    intro p hp
    obtain ⟨j, hj, rfl⟩ := List.getElem_of_mem hp
    obtain ⟨p', hp', hs⟩ := g3 j (by omega)
    rw [List.getElem?_eq_getElem hj] at hp'
    cases hp'
    exact CRel.oneCell (c := .sl false ks (ll.getD j [])) hs
  have hrun : (execOp a.eval o).run P w = .ok (.value (.slice (some (at_ w.heap.size 0)) len len)) (w.alloc (.cells us.toArray e)) := by
    have hf := fill_ones a.eval parts.toList 0 [] ((List.range (len * 1)).map fun x => z.cells[x % z.cells.size]!) g2 hone rfl (by simp [hlen])
    unfold execOp
    simp only [ho]
    unfold Instr.buildSlice
    simp only [Sem.run_bind, run_underlying hu, Result.andThen_ok, sizeOf, typeInfo, run_program, hi, Sem.run_pure, hsz]
    rw [if_neg (by omega), if_neg (by omega), hpm]
    have hz0 : (Array.map (fun x => z.cells[x % z.cells.size]!) (Array.range (len * 1))) = (([] : List Value) ++ (List.range (len * 1)).map fun x => z.cells[x % z.cells.size]!).toArray := by
      apply Array.ext'
      simp
    simp only [Sem.run_bind, zeroValue, typeInfo, run_program, hi, hz, Sem.run_pure, Result.andThen_ok, hz0, hf]
    simp [newRow, at_, us]
  have hp := Pres.fresh h.mem (.cells us.toArray e) (L := .res) (fixed := true) (key := none) (fun r e => by cases e)
  have hev := Evolves.fresh h.mem (.cells us.toArray e) (L := .res) (fixed := true) (key := none) (fun r e => by cases e)
  have hm : Mem (G.fresh w.heap.size .res true none) st.box (w.alloc (.cells us.toArray e)) :=
    ⟨fun r cells hr => (h.mem.box r cells hr).pres hp trivial (fun _ => trivial), fun r b hb => h.mem.beta r b hb, (h.mem.fresh_own _).1, (h.mem.fresh_own _).2⟩
  refine wp_value hrun ⟨_, _, hk, ?_, hev⟩
  have hnr : NRel (G.fresh w.heap.size .res true none) (w.alloc (.cells us.toArray e)) ks ll (.slice (some (at_ w.heap.size 0)) len len) := by
    refine ⟨w.heap.size, 0, len, by rw [g1, hlen], fun j hj => ?_⟩
    obtain ⟨p, hp1, hp2⟩ := g3 j hj
    refine ⟨a.eval p.2, ⟨.inr ⟨rfl, rfl⟩, ?_⟩, SRel.pres (L := none) hp (fun _ e => nomatch e) hp2⟩
    rw [cell_heap _ _ _ (alloc_new w _), Nat.zero_add]
    simp [us, hp1]
  have := h.put s.le (dst := o.dst) (fun d' e => s.dst d' e) hp (fun _ _ => trivial) (own := false) (hv := .ce (.nsls ks ll)) (v := .slice (some (at_ w.heap.size 0)) len len)
    hnr (fun _ _ e => nomatch e) hm (log := st.log)
  have hb : (st.app (HL.put o.dst false (.ce (.nsls ks ll)))).box = st.box := by
    unfold HL.put HSt.app
    cases o.dst <;> rfl
  rw [← hb] at this
  exact this

theorem empty_sound (h : Rel n G st a w) (s : Sides n o) {t : TypeId} {parts : Array (Nat × Operand)} (ho : o.op = .buildSlice t 0 parts) (hp0 : parts.toList = [])
    (hk : (emptySem P t st.box o.dst).wp st K) : o.wp P a w (Post n G w K) Q := by
  unfold emptySem at hk
  split at hk
  case h_2 => exact hk.elim
  rename_i e d hu hd
  split at hk
  case h_2 => exact hk.elim
  rename_i ks hks hfree
  obtain ⟨i, z, hi, hz, hsz, hk1, hzs⟩ := elemKs_spec hks
  have hpa : parts = #[] := by apply Array.ext'; simpa using hp0
  subst hpa
  have hrun : (execOp a.eval o).run P w = .ok (.value (.slice (some (at_ w.heap.size 0)) 0 0)) (w.alloc (.cells #[] e)) := by
    unfold execOp
    simp only [ho]
    unfold Instr.buildSlice
    simp only [Sem.run_bind, run_underlying hu, Result.andThen_ok, sizeOf, typeInfo, run_program, hi, Sem.run_pure, hsz]
    simp [newRow, at_, Instr.fill]
    exact congrArg (fun c => w.alloc (.cells c e)) (Array.eq_empty_of_size_eq_zero (by simp))
  have hp := Pres.fresh h.mem (.cells #[] e) (L := .box (newKey d)) (fixed := false) (key := some (newKey d)) (fun r e => by cases e; exact hfree)
  have hev := Evolves.fresh h.mem (.cells #[] e) (L := .box (newKey d)) (fixed := false) (key := some (newKey d)) (fun r e => by cases e; unfold newKey; omega)
  have hm : Mem (G.fresh w.heap.size (.box (newKey d)) false (some (newKey d))) (upd st.box (newKey d) (some [.arr ks [] 0])) (w.alloc (.cells #[] e)) := by
    refine ⟨fun r cells hr => ?_, fun r b hb => ?_, (h.mem.fresh_own _).1, (h.mem.fresh_own _).2⟩
    · by_cases hrk : r = newKey d
      · subst hrk
        rw [upd_same] at hr
        cases hr
        refine .inr (.inl ⟨_, _, _, rfl, w.heap.size, #[], e, upd_same _ _ _, upd_same _ _ _, alloc_new w _, fun o hi => ?_, ⟨Nat.le_refl _, by simp⟩, fun i j hi hj => by simp at hi⟩)
        rcases hi with hi | ⟨e, _⟩
        · have := h.mem.imm _ _ hi; omega
        · cases e
      · rw [upd_ne _ _ hrk] at hr
        exact (h.mem.box r cells hr).pres hp trivial (fun _ => trivial)
    · by_cases hrk : r = newKey d
      · subst hrk; exact ⟨_, upd_same _ _ _⟩
      · obtain ⟨cells, hc⟩ := h.mem.beta r b ((upd_ne G.beta (some w.heap.size) hrk).symm.trans hb)
        exact ⟨cells, (upd_ne _ _ hrk).trans hc⟩
  refine wp_value hrun ⟨_, _, hk, ?_, hev⟩
  have := h.put s.le (dst := o.dst) (fun d' e => s.dst d' e) hp (fun _ _ => trivial) (own := false) (hv := .ce (.msl (newKey d) 0 0)) (v := .slice (some (at_ w.heap.size 0)) 0 0)
    ⟨w.heap.size, upd_same _ _ _, rfl, Nat.le_refl _, Nat.zero_le _⟩ (fun _ _ e => nomatch e) hm (log := st.log)
  rw [hd] at this ⊢
  exact this

theorem buildSlice_sound (h : Rel n G st a w) (s : Sides n o) {t : TypeId} {len : Nat} {parts : Array (Nat × Operand)} (ho : o.op = .buildSlice t len parts)
    (hk : (buildSliceSem P t len (parts.toList.map fun p => (p.1, evalO P st.env o.type p.2)) o.dst).wp st K) : o.wp P a w (Post n G w K) Q := by
  have hops : ∀ p ∈ parts.toList, ∃ L, VRel G w L (evalO P st.env o.type p.2) (a.eval p.2) := fun p hp =>
    s.ev (P := P) h o.type (x := p.2) (by rw [ho]; simp only [Op.operands]; simp; exact ⟨p.1, by simpa using hp⟩)
  have hpm : (parts.map fun (i, x) => (i, a.eval x)).toList = parts.toList.map fun p => (p.1, a.eval p.2) := by simp
  unfold buildSliceSem at hk
  split at hk
  case h_2 => exact hk.elim
  rename_i e hu
  split at hk
  · rename_i ks hks
    exact nested_sound h s ho hu hks hk
  split at hk
  case h_2 => exact hk.elim
  rename_i ks hks
  obtain ⟨i, z, hi, hz, hsz, hk1, hzs⟩ := elemKs_spec hks
  cases hb : (Nat.beq (parts.toList.map fun p => (p.1, evalO P st.env o.type p.2)).length len && Nat.ble (len * ks.length) 1000000 && o.dst.isSome) with
  | false => rw [hb] at hk; exact hk.elim
  | true =>
    rw [hb] at hk
    simp only [cond_true] at hk
    rw [Bool.and_eq_true, Bool.and_eq_true] at hb
    obtain ⟨hb, hds⟩ := hb
    have hlen : parts.toList.length = len := by simpa using Nat.eq_of_beq_eq_true hb.1
    have hbig := Nat.le_of_ble_eq_true hb.2
    split at hk
    case h_2 => exact hk.elim
    rename_i rows hrows
    have hrl := litRows_len ks _ _ _ _ hrows
    -- the zero cells
    have hzl : ∃ zs : List Value, zs.length = len * ks.length ∧ (Instr.buildSlice t len (parts.map fun (i, x) => (i, a.eval x))).run P w =
        .ok (.slice (some (at_ w.heap.size 0)) len len) (w.alloc (.cells (flatRows ks rows).toArray e)) := by
      by_cases h0 : len * ks.length = 0
      · refine ⟨[], by simp [h0], ?_⟩
        obtain ⟨g1, _⟩ := fill_slice (G := G) (w := w) ks _ a.eval parts.toList 0 rows [] [] hrows hops (by simp) (by rw [hlen, h0]; rfl)
        unfold Instr.buildSlice
        simp only [Sem.run_bind, run_underlying hu, Result.andThen_ok, sizeOf, typeInfo, run_program, hi, Sem.run_pure, hsz]
        rw [if_neg (by omega), if_pos h0, hpm]
        have hz0 : (Array.map (fun x => (#[] : Array Value)[x % (#[] : Array Value).size]!) (Array.range (len * ks.length))) = (([] : List Value) ++ []).toArray := by rw [h0]; simp
        simp only [Sem.run_bind, Sem.run_pure, Result.andThen_ok, hz0, g1]
        simp [newRow, at_]
      · refine ⟨(List.range (len * ks.length)).map fun x => z.cells[x % z.cells.size]!, by simp, ?_⟩
        obtain ⟨g1, _⟩ := fill_slice (G := G) (w := w) ks _ a.eval parts.toList 0 rows [] ((List.range (len * ks.length)).map fun x => z.cells[x % z.cells.size]!) hrows hops (by simp) (by simp [hlen])
        unfold Instr.buildSlice
        simp only [Sem.run_bind, run_underlying hu, Result.andThen_ok, sizeOf, typeInfo, run_program, hi, Sem.run_pure, hsz]
        rw [if_neg (by omega), if_neg h0, hpm]
        have hz0 : (Array.map (fun x => z.cells[x % z.cells.size]!) (Array.range (len * ks.length))) = (([] : List Value) ++ (List.range (len * ks.length)).map fun x => z.cells[x % z.cells.size]!).toArray := by
          apply Array.ext'
          simp
        simp only [Sem.run_bind, zeroValue, typeInfo, run_program, hi, hz, Sem.run_pure, Result.andThen_ok, hz0, g1]
        simp [newRow, at_]
    obtain ⟨zs, _, hrun⟩ := hzl
    have hex : (execOp a.eval o).run P w = .ok (.value (.slice (some (at_ w.heap.size 0)) len len)) (w.alloc (.cells (flatRows ks rows).toArray e)) := by
      unfold execOp
      simp only [ho, Sem.run_bind, hrun, Result.andThen_ok, Sem.run_pure]
    cases hd : o.dst with
    | none => rw [hd] at hds; cases hds
    | some d =>
      rw [hd] at hk
      obtain ⟨G', hr, hev⟩ := fixed_new h s.le (s.dst d hd) (ks := ks) (rows := rows) (cur := flatRows ks rows) (E := e) (cap := len)
        (fun i j hi hj => flatRows_get ks rows i j hi hj) (by rw [flatRows_length]; rw [hrl, hlen]; exact Nat.le_refl _) (by omega) (by
          have : len * 1 ≤ len * ks.length := Nat.mul_le_mul_left _ hk1
          unfold maxLen; omega)
      rw [hrl, hlen] at hr
      refine wp_value hex ⟨_, G', hk, ?_, hev⟩
      rw [hd]
      exact hr
end

end Go.HL
