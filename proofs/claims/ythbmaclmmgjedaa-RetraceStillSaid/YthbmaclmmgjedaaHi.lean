/-
  HL, part i: slices: literals, parts, lengths, appends.
  Conditions: none.
-/
import Derived.Test.YthbmaclmmgjedaaHh
namespace Go.HL
open Go

section
variable {P : Program} {n : Nat} {G G' : Ghost} {st : HSt} {a : Act} {w w' : World} {o : Oper} {Q : Exit → Act → World → Prop} {K : HSt → Prop}

theorem elemKs_spec {e : TypeId} {ks : List Nat} (h : elemKs P e = some ks) : ∃ i z, P.info? e = some i ∧ i.zero = some z ∧ i.size = ks.length ∧ 1 ≤ ks.length ∧ z.cells.size = ks.length := by
  unfold elemKs at h
  split at h
  · rename_i ks' i hk hi
    split at h
    · rename_i z hb hz
      rw [Bool.and_eq_true] at hb
      cases hc : Nat.beq z.cells.size i.size with
      | false => rw [hc] at h; cases h
      | true =>
        rw [hc] at h
        cases h
        have h1 := Nat.eq_of_beq_eq_true hb.1
        exact ⟨i, z, hi, hz, h1, Nat.le_of_ble_eq_true hb.2, (Nat.eq_of_beq_eq_true hc).trans h1⟩
    · cases h
  · cases h

/-- one place of a literal's cells is filled -/
theorem fill_slice (ks : List Nat) (ev : Operand → HV) (ρ : Operand → Value) : ∀ (l : List (Nat × Operand)) (i : Nat) (rows : List (List Int)) (done rest : List Value),
    litRows ks i (l.map fun p => (p.1, ev p.2)) = some rows → (∀ p ∈ l, ∃ L, VRel G w L (ev p.2) (ρ p.2)) → done.length = i * ks.length → rest.length = l.length * ks.length →
    Instr.fill (fun i => some (i * ks.length, ks.length)) (done ++ rest).toArray (l.map fun p => (p.1, ρ p.2)) = some (done ++ flatRows ks rows).toArray ∧ rows.length = l.length
  | [], i, rows, done, rest, h, _, _, hr => by
    cases h
    have : rest = [] := List.eq_nil_of_length_eq_zero (by simpa using hr)
    subst this
    exact ⟨rfl, rfl⟩
  | (j, x) :: l, i, rows, done, rest, h, hrel, hd, hr => by
    rw [List.map_cons] at h ⊢
    unfold litRows at h
    split at h
    · rename_i cs hj hc
      split at h
      · rename_i row rows' hrow hrows
        cases h
        obtain rfl := Nat.eq_of_beq_eq_true hj
        obtain ⟨L, hv⟩ := hrel (i, x) (by simp)
        have hcs : CsRel G w cs (ρ x).cells := cells_rel hv hc
        obtain ⟨h1, h2, h3⟩ := rowOf_rel (G := G) (w := w) hrow
        -- the cells that are put
        have hcells : (ρ x).cells.toList = (List.range ks.length).map fun j => kval (ks.getD j 0) (row.getD j 0) := by
          apply List.ext_getElem?
          intro q
          by_cases hq : q < ks.length
          · obtain ⟨u, hu, hr⟩ := hcs.2 q (cs[q]'(by omega)) (by simp [h1, hq])
            have := h3 q _ u (by simp [h1, hq]) hr
            simp [hq]
            have hu' : (ρ x).cells[q]? = some u := hu
            rw [hu', this]
            simp [hq, h2]
          · have hs := hcs.1
            rw [List.getElem?_eq_none (by simp; omega), List.getElem?_eq_none (by simp; omega)]
        have hsz : (ρ x).cells.size = ks.length := by have := hcs.1; omega
        have hl : rest.length = ks.length + l.length * ks.length := by simpa [Nat.succ_mul, Nat.add_comm] using hr
        unfold Instr.fill
        simp only
        rw [if_neg (by simp only [ne_eq, hsz, not_true, Bool.or_eq_true, decide_eq_true_eq, false_or]; simp [hd, hl])]
        obtain ⟨g1, g2⟩ := fill_slice ks ev ρ l (i + 1) rows' (done ++ (ρ x).cells.toList) (rest.drop ks.length) hrows (fun p hp => hrel p (List.mem_cons_of_mem _ hp))
          (by simp [hd, hsz, Nat.succ_mul]) (by simp [hl])
        refine ⟨?_, by simp [g2]⟩
        unfold flatRows
        rw [← List.append_assoc, ← hcells, ← g1]
        congr 1
        -- the fold writes the cells one by one
        rw [← Array.foldl_toList, Array.toList_zipIdx]
        have hfold : ∀ (us : List Value) (pre post : List Value) (k : Nat), pre.length = i * ks.length + k → us.length ≤ post.length →
            (us.zipIdx k).foldl (fun cs x => cs.setIfInBounds (i * ks.length + x.2) x.1) (pre ++ post).toArray = (pre ++ us ++ post.drop us.length).toArray := by
          intro us
          induction us with
          | nil => intro pre post k _ _; simp
          | cons u us ih =>
            intro pre post k hp hl
            match post, hl with
            | p :: post, hl =>
              rw [List.zipIdx_cons, List.foldl_cons]
              have : (pre ++ p :: post).toArray.setIfInBounds (i * ks.length + k) u = ((pre ++ [u]) ++ post).toArray := by
                rw [← hp]
                simp [List.set_append_right]
              simp only [this]
              rw [ih (pre ++ [u]) post (k + 1) (by simp; omega) (by simpa using hl)]
              simp
        have := hfold (ρ x).cells.toList done rest 0 (by omega) (by simp [hsz, hl])
        simp only [Array.length_toList, hsz] at this
        exact this
      · cases h
    · cases h

theorem ks_pos {ks : List Nat} (h : 1 ≤ ks.length) (a b : Nat) (hab : a * ks.length ≤ b * ks.length) : a ≤ b := Nat.le_of_mul_le_mul_right hab h

/-- a new block of fixed rows, owned by the slot -/
theorem fixed_pre {bx : Nat → Option (List HC)} (h : Mem G bx w) (d : Nat) {ks : List Nat} {rows : List (List Int)} {cur : List Value} {E : TypeId} {cap : Nat}
    (hcur : ∀ i j, i < rows.length → j < ks.length → cur[i * ks.length + j]? = some (kval (ks.getD j 0) ((rows.getD i []).getD j 0)))
    (hfit : cap * ks.length ≤ cur.length) (hc : rows.length ≤ cap) (hm : cap ≤ maxLen) :
    ∃ G', Pres G w G' (w.alloc (.cells cur.toArray E)) (fun _ => True) ∧ Evolves G w G' (w.alloc (.cells cur.toArray E)) ∧ Mem G' bx (w.alloc (.cells cur.toArray E)) ∧
      ∀ L : Option Loc, (∀ Lc, L = some Lc → Lc = .tmp d) → SRel G' (w.alloc (.cells cur.toArray E)) L ks rows (.slice (some (at_ w.heap.size 0)) rows.length cap) := by
  let G' : Ghost := { G with imm := fun x o => G.imm x o ∨ (x = w.heap.size ∧ o < rows.length * ks.length), owner := upd G.owner w.heap.size (some (.tmp d)) }
  have hp : Pres G w G' (w.alloc (.cells cur.toArray E)) (fun _ => True) := by
    refine ⟨fun b o hi => ⟨.inl hi, cell_of_heap (alloc_old w _ b (h.imm b o hi)) o⟩, fun _ _ hb => hb, fun b L' _ hb => ?_⟩
    have hlt := h.own b L' hb
    have hne : b ≠ w.heap.size := by omega
    exact ⟨(upd_ne _ _ hne).trans hb, alloc_old w _ b hlt, fun o hi => hi.elim id fun h2 => absurd h2.1 hne⟩
  have hev : Evolves G w G' (w.alloc (.cells cur.toArray E)) := by
    refine ⟨rfl, rfl, rfl, by simp, fun b o hi => ⟨.inl hi, cell_of_heap (alloc_old w _ b (h.imm b o hi)) o⟩, fun b hb ho => ?_, fun _ _ _ e => e⟩
    have hne : b ≠ w.heap.size := by omega
    exact ⟨(upd_ne _ _ hne).trans ho, alloc_old w _ b hb, fun o hi => hi.elim id fun h2 => absurd h2.1 hne⟩
  have hmem : Mem G' bx (w.alloc (.cells cur.toArray E)) := by
    refine ⟨fun r cells hr => (h.box r cells hr).pres hp trivial (fun _ => trivial), h.beta, fun b L' hb => ?_, fun b o hi => ?_⟩
    · rcases upd_some hb with ⟨rfl, _⟩ | hb
      · simp
      · have := h.own b L' hb; simp; omega
    · rcases hi with hi | ⟨rfl, _⟩
      · have := h.imm b o hi; simp; omega
      · simp
  refine ⟨G', hp, hev, hmem, fun L hL => ⟨_, cap, rfl, hc, hm, .inr ⟨w.heap.size, 0, rfl, fun i j hi hj => ?_, fun Lc he => ?_⟩⟩⟩
  · refine ⟨.inr ⟨rfl, ?_⟩, ?_⟩
    · have : (i + 1) * ks.length ≤ rows.length * ks.length := Nat.mul_le_mul_right _ hi
      rw [Nat.succ_mul] at this
      omega
    · rw [cell_heap _ _ _ (alloc_new w _)]
      simpa using hcur i j hi hj
  · rw [hL Lc he]
    refine ⟨upd_same _ _ _, cur.toArray, E, alloc_new w _, by simpa using hfit, fun x hx _ hi => ?_⟩
    rcases hi with hi | ⟨_, hlt⟩
    · have := h.imm _ _ hi; omega
    · omega

theorem fixed_new (h : Rel n G st a w) (hn : n ≤ 100000) {d : Nat} (hd : d < n) {ks : List Nat} {rows : List (List Int)} {cur : List Value} {E : TypeId} {cap : Nat}
    (hcur : ∀ i j, i < rows.length → j < ks.length → cur[i * ks.length + j]? = some (kval (ks.getD j 0) ((rows.getD i []).getD j 0)))
    (hfit : cap * ks.length ≤ cur.length) (hc : rows.length ≤ cap) (hm : cap ≤ maxLen) :
    ∃ G', Rel n G' (st.app (put (some d) true (.ce (.sl true ks rows)))) (a.put (some d) (.slice (some (at_ w.heap.size 0)) rows.length cap)) (w.alloc (.cells cur.toArray E)) ∧
      Evolves G w G' (w.alloc (.cells cur.toArray E)) := by
  obtain ⟨G', hp, hev, hmem, hs⟩ := fixed_pre h.mem d hcur hfit hc hm (E := E)
  refine ⟨G', ?_, hev⟩
  have := h.put hn (dst := some d) (fun d' e => by cases e; exact hd) hp (fun _ _ => trivial) (own := true) (hv := .ce (.sl true ks rows)) (hs none (fun _ e => nomatch e))
    (fun d' e _ => by cases e; exact hs _ (fun Lc e => by cases e; rfl)) hmem (log := st.log)
  exact this

theorem litRows_len (ks : List Nat) (ev : Operand → HV) : ∀ (l : List (Nat × Operand)) (i : Nat) (rows : List (List Int)), litRows ks i (l.map fun p => (p.1, ev p.2)) = some rows → rows.length = l.length
  | [], i, rows, h => by cases h; rfl
  | (j, x) :: l, i, rows, h => by
    rw [List.map_cons] at h
    unfold litRows at h
    split at h
    · split at h
      · rename_i hrows
        cases h
        simp [litRows_len ks ev l _ _ hrows]
      · cases h
    · cases h

theorem buildSlice_sound (h : Rel n G st a w) (s : Sides n o) {t : TypeId} {len : Nat} {parts : Array (Nat × Operand)} (ho : o.op = .buildSlice t len parts)
    (hk : (buildSliceSem P t len (parts.toList.map fun p => (p.1, evalO P st.env o.type p.2)) o.dst).wp st K) : o.wp P a w (Post n G w K) Q := by
  have hops : ∀ p ∈ parts.toList, ∃ L, VRel G w L (evalO P st.env o.type p.2) (a.eval p.2) := fun p hp =>
    s.ev (P := P) h o.type (x := p.2) (by rw [ho]; simp only [Op.operands]; simp; exact ⟨p.1, by simpa using hp⟩)
  have hpm : (parts.map fun (i, x) => (i, a.eval x)).toList = parts.toList.map fun p => (p.1, a.eval p.2) := by simp
  unfold buildSliceSem at hk
  split at hk
  case h_2 => exact hk.elim
  rename_i e hu
  split at hk
  case h_2 => exact hk.elim
  rename_i ks hks
  obtain ⟨i, z, hi, hz, hsz, hk1, hzs⟩ := elemKs_spec hks
  cases hb : (Nat.beq (parts.toList.map fun p => (p.1, evalO P st.env o.type p.2)).length len && Nat.ble (len * ks.length) 1000000 && o.dst.isSome) with
  | false => rw [hb] at hk; exact hk.elim
  | true =>
    rw [hb] at hk
    simp only [cond_true] at hk
    rw [Bool.and_eq_true, Bool.and_eq_true] at hb
    obtain ⟨hb, hds⟩ := hb
    have hlen : parts.toList.length = len := by simpa using Nat.eq_of_beq_eq_true hb.1
    have hbig := Nat.le_of_ble_eq_true hb.2
    split at hk
    case h_2 => exact hk.elim
    rename_i rows hrows
    have hrl := litRows_len ks _ _ _ _ hrows
    -- the zero cells
    have hzl : ∃ zs : List Value, zs.length = len * ks.length ∧ (Instr.buildSlice t len (parts.map fun (i, x) => (i, a.eval x))).run P w =
        .ok (.slice (some (at_ w.heap.size 0)) len len) (w.alloc (.cells (flatRows ks rows).toArray e)) := by
      by_cases h0 : len * ks.length = 0
      · refine ⟨[], by simp [h0], ?_⟩
        obtain ⟨g1, _⟩ := fill_slice (G := G) (w := w) ks _ a.eval parts.toList 0 rows [] [] hrows hops (by simp) (by rw [hlen, h0]; rfl)
        unfold Instr.buildSlice
        simp only [Sem.run_bind, run_underlying hu, Result.andThen_ok, sizeOf, typeInfo, run_program, hi, Sem.run_pure, hsz]
        rw [if_neg (by omega), if_pos h0, hpm]
        have hz0 : (Array.map (fun x => (#[] : Array Value)[x % (#[] : Array Value).size]!) (Array.range (len * ks.length))) = (([] : List Value) ++ []).toArray := by rw [h0]; simp
        simp only [Sem.run_bind, Sem.run_pure, Result.andThen_ok, hz0, g1]
        simp [newRow, at_]
      · refine ⟨(List.range (len * ks.length)).map fun x => z.cells[x % z.cells.size]!, by simp, ?_⟩
        obtain ⟨g1, _⟩ := fill_slice (G := G) (w := w) ks _ a.eval parts.toList 0 rows [] ((List.range (len * ks.length)).map fun x => z.cells[x % z.cells.size]!) hrows hops (by simp) (by simp [hlen])
        unfold Instr.buildSlice
        simp only [Sem.run_bind, run_underlying hu, Result.andThen_ok, sizeOf, typeInfo, run_program, hi, Sem.run_pure, hsz]
        rw [if_neg (by omega), if_neg h0, hpm]
        have hz0 : (Array.map (fun x => z.cells[x % z.cells.size]!) (Array.range (len * ks.length))) = (([] : List Value) ++ (List.range (len * ks.length)).map fun x => z.cells[x % z.cells.size]!).toArray := by
          apply Array.ext'
          simp
        simp only [Sem.run_bind, zeroValue, typeInfo, run_program, hi, hz, Sem.run_pure, Result.andThen_ok, hz0, g1]
        simp [newRow, at_]
    obtain ⟨zs, _, hrun⟩ := hzl
    have hex : (execOp a.eval o).run P w = .ok (.value (.slice (some (at_ w.heap.size 0)) len len)) (w.alloc (.cells (flatRows ks rows).toArray e)) := by
      unfold execOp
      simp only [ho, Sem.run_bind, hrun, Result.andThen_ok, Sem.run_pure]
    cases hd : o.dst with
    | none => rw [hd] at hds; cases hds
    | some d =>
      rw [hd] at hk
      obtain ⟨G', hr, hev⟩ := fixed_new h s.le (s.dst d hd) (ks := ks) (rows := rows) (cur := flatRows ks rows) (E := e) (cap := len)
        (fun i j hi hj => flatRows_get ks rows i j hi hj) (by rw [flatRows_length]; rw [hrl, hlen]; exact Nat.le_refl _) (by omega) (by
          have : len * 1 ≤ len * ks.length := Nat.mul_le_mul_left _ hk1
          unfold maxLen; omega)
      rw [hrl, hlen] at hr
      refine wp_value hex ⟨_, G', hk, ?_, hev⟩
      rw [hd]
      exact hr
end

end Go.HL
