/-
  HL, part l: loads and stores.
  Conditions: none.
-/
import Derived.Test.YtneingpnkdeooaaHk
namespace Go.HL
open Go

section
variable {P : Program} {n : Nat} {G G' : Ghost} {st : HSt} {a : Act} {w w' : World} {o : Oper} {Q : Exit → Act → World → Prop} {K : HSt → Prop}

theorem BRel.dis {r k : Nat} {c : HC} {v : Value} (h : BRel G w r k c v) : CRel G w none c.dis v := by
  cases c with
  | mu ks rows => obtain ⟨ad, cap, rfl, _⟩ := h; exact (show Value.oneCell' (.slice ad rows.length cap) = true from rfl)
  | sl own ks rows => exact SRel.drop h
  | _ => exact h

theorem kcell_rel (k : Nat) (m : Int) : CRel G w none (kcell k m) (kval k m) := by cases k <;> exact rfl

theorem rowCells_spec {ks : List Nat} {row : List Int} {off m : Nat} {cs : List HC} (h : rowCells ks row off m = some cs) :
    off + m ≤ ks.length ∧ cs = (List.range m).map fun j => kcell (ks.getD (off + j) 0) (row.getD (off + j) 0) := by
  unfold rowCells at h
  cases hb : Nat.ble (off + m) ks.length with
  | false => rw [hb] at h; cases h
  | true => rw [hb] at h; cases h; exact ⟨Nat.le_of_ble_eq_true hb, rfl⟩

/-- a load, from what the cells are -/
theorem run_load_cells {t : TypeId} {ag : Bool} {m : Nat} (ha : isAggT P t = some ag) (hs : sizeT P t = some m) (b k : Nat) (us : List Value) (hl : us.length = m)
    (hc : ∀ j v, us[j]? = some v → w.cell? (at_ b (k + j)) = some v) (h1 : ag = false → m = 1) :
    ∃ v, (Instr.loadAt t (.pointer (some (at_ b k)))).run P w = .ok v w ∧ (ag = true → v = .agg us.toArray) ∧ (ag = false → us = [v]) := by
  cases ag with
  | true =>
    refine ⟨.agg us.toArray, ?_, fun _ => rfl, (fun e => nomatch e)⟩
    have := run_loadCells_list (P := P) w (at_ b k) us (fun j v hj => by rw [at_add]; exact hc j v hj)
    rw [hl] at this
    simp [Instr.loadAt, Instr.sureAddr, loadVar, run_isAgg ha, run_sizeOf hs, this]
  | false =>
    have hm := h1 rfl
    subst hm
    match us, hl with
    | [v], _ =>
      refine ⟨v, ?_, (fun e => nomatch e), fun _ => rfl⟩
      have := hc 0 v rfl
      simp [Instr.loadAt, Instr.sureAddr, loadVar, run_isAgg ha]
      rw [show (at_ b k) = at_ b (k + 0) from rfl, this]

theorem TVal.mk {t : TypeId} {ag : Bool} {cs : List HC} {us : List Value} {v : Value} (ha : isAggT P t = some ag) (hl : us.length = cs.length)
    (hr : ∀ (j : Nat) (c : HC), cs[j]? = some c → ∃ u, us[j]? = some u ∧ CRel G w none c u) (h1 : ag = true → v = .agg us.toArray) (h2 : ag = false → us = [v]) : TVal P G w t cs v := by
  cases ag with
  | true => exact .inl ⟨ha, us.toArray, h1 rfl, by simpa using hl, fun j c hc => by obtain ⟨u, hu, h⟩ := hr j c hc; exact ⟨u, by simpa using hu, h⟩⟩
  | false =>
    have := h2 rfl
    subst this
    match cs, hl with
    | [c], _ =>
      obtain ⟨u, hu, h⟩ := hr 0 c rfl
      cases hu
      exact .inr ⟨ha, c, rfl, h⟩

theorem map_one {f : HC → HC} {cs : List HC} {c : HC} (h : cs.map f = [c]) : cs.length = 1 := by
  have := congrArg List.length h
  simpa using this

theorem std_cons2 (c d : HC) (l : List HC) : HL.std (c :: d :: l) = true := by cases c <;> rfl

theorem std_frz {cells : List HC} (h : HL.std cells = true) : HL.std (cells.map HC.frz) = true := by
  match cells, h with
  | [], hs => exact hs
  | [c], hs => cases c <;> first | rfl | cases hs
  | _ :: _ :: _, _ => exact std_cons2 _ _ _

/-- giving a slice out of a box's cell to a slot -/
theorem Mem.take_cell {bx : Nat → Option (List HC)} (h : Mem G bx w) {r k : Nat} {cells : List HC} {own : Bool} {ks : List Nat} {rows : List (List Int)} {d : Nat} {v : Value}
    (hb : bx r = some cells) (hstd : HL.std cells = true) (hc : cells[k]? = some (.sl own ks rows)) (hv : ∀ b vs T, G.beta r = some b → w.heap[b]? = some (.cells vs T (0, 0)) → vs[k]? = some v) :
    ∃ G', Pres G w G' w (fun x => x ≠ .cell r k) ∧ Evolves G w G' w ∧ Mem G' (upd bx r (some (cells.set k (.sl false ks rows)))) w ∧ SRel G' w (bif own then some (.tmp d) else none) ks rows v := by
  have hbox := (h.box r cells hb).std hstd
  obtain ⟨b, vs, T, h1, h2, h3, h4, h5, h6⟩ := hbox
  obtain ⟨v', hv', hr⟩ := h6 k _ hc
  have hvv := hv b vs T h1 h3
  rw [hv'] at hvv
  cases hvv
  have hr0 : SRel G w (bif own then some (.cell r k) else none) ks rows v := hr
  -- the box with the cell's flag down, under any ghost that keeps the rest
  have hmem : ∀ G' : Ghost, Pres G w G' w (fun x => x ≠ .cell r k) → (∀ r b, G'.beta r = some b → G.beta r = some b) → (∀ b L, G'.owner b = some L → b < w.heap.size) → (∀ b o, G'.imm b o → b < w.heap.size) →
      SRel G' w none ks rows v → Mem G' (upd bx r (some (cells.set k (.sl false ks rows)))) w := by
    intro G' hp hbe ho hi hs
    refine ⟨fun r' cells' hr' => ?_, fun r' b' hb' => ?_, ho, hi⟩
    · by_cases hrr : r' = r
      · subst hrr
        rw [upd_same] at hr'
        cases hr'
        obtain ⟨p1, p2, p3⟩ := hp.own b _ (by simp) h2
        refine .inl ⟨b, vs, T, hp.beta _ _ h1, p1, h3, fun o ho => h4 o (p3 o ho), by simpa using h5, fun j c hj => ?_⟩
        rw [List.getElem?_set] at hj
        by_cases hkj : k = j
        · subst hkj
          rw [if_pos rfl] at hj
          split at hj
          · cases hj; exact ⟨v, hv', hs⟩
          · cases hj
        · rw [if_neg hkj] at hj
          obtain ⟨u, hu, hbr⟩ := h6 j c hj
          exact ⟨u, hu, hbr.pres hp (by simp; exact fun e => hkj e.symm)⟩
      · rw [upd_ne _ _ hrr] at hr'
        exact (h.box r' cells' hr').pres hp (by simp) (fun q => by simp; intro e; exact absurd e hrr)
    · by_cases hrr : r' = r
      · subst hrr; exact ⟨_, upd_same _ _ _⟩
      · obtain ⟨c', hc'⟩ := h.beta r' b' (hbe r' b' hb')
        exact ⟨c', (upd_ne _ _ hrr).trans hc'⟩
  have hstay : Pres G w G w (fun x => x ≠ .cell r k) := Pres.refl _ _ _
  cases own with
  | false => exact ⟨G, hstay, Evolves.refl _ _, hmem G hstay (fun _ _ e => e) h.own h.imm hr0, hr0⟩
  | true =>
    have hr1 : SRel G w (some (.cell r k)) ks rows v := hr0
    obtain ⟨ad, cap, rfl, hcc, hm, hx⟩ := hr1
    rcases hx with hx | ⟨b2, off, rfl, himm, hsp⟩
    · have : SRel G w none ks rows (.slice ad rows.length cap) := ⟨ad, cap, rfl, hcc, hm, .inl (nilCase hx (fun e => nomatch e))⟩
      exact ⟨G, hstay, Evolves.refl _ _, hmem G hstay (fun _ _ e => e) h.own h.imm this, ⟨ad, cap, rfl, hcc, hm, .inl (nilCase hx (fun e => nomatch e))⟩⟩
    · obtain ⟨ho1, cur, E, hh, hfit, hni⟩ := hsp _ rfl
      refine ⟨G.give b2 (.tmp d), Pres.give ho1, Evolves.give ho1, hmem _ (Pres.give ho1) (fun _ _ e => e) (fun x L hx => ?_) h.imm ⟨_, cap, rfl, hcc, hm, .inr ⟨b2, off, rfl, himm, fun _ e => nomatch e⟩⟩,
        ⟨_, cap, rfl, hcc, hm, .inr ⟨b2, off, rfl, himm, fun Lc e => by cases e; exact ⟨upd_same _ _ _, cur, E, hh, hfit, hni⟩⟩⟩⟩
      rcases upd_some hx with ⟨rfl, _⟩ | hx
      · exact h.own _ _ ho1
      · exact h.own _ _ hx

/-- fixing the cells of a box's slices -/
theorem Mem.freeze {bx : Nat → Option (List HC)} (h : Mem G bx w) {r : Nat} {cells : List HC} (hb : bx r = some cells) :
    ∃ G', Pres G w G' w (fun x => ∀ k, x ≠ .cell r k) ∧ Evolves G w G' w ∧ Mem G' (upd bx r (some (cells.map HC.frz))) w := by
  have same : cells.map HC.frz = cells → ∃ G', Pres G w G' w (fun x => ∀ k, x ≠ .cell r k) ∧ Evolves G w G' w ∧ Mem G' (upd bx r (some (cells.map HC.frz))) w := by
    intro e
    have hbx : upd bx r (some (cells.map HC.frz)) = bx := by
      funext x
      by_cases hx : x = r
      · subst hx; rw [upd_same, e]; exact hb.symm
      · exact upd_ne _ _ hx
    rw [hbx]
    exact ⟨G, Pres.refl _ _ _, Evolves.refl _ _, h⟩
  rcases h.box r cells hb with h0 | ⟨_, _, _, rfl, _⟩ | ⟨rfl, _⟩ | ⟨_, rfl, _⟩ | ⟨_, _, rfl, _⟩
  case inr.inl => exact same rfl
  case inr.inr.inl => exact same rfl
  case inr.inr.inr.inl => exact same rfl
  case inr.inr.inr.inr => exact same rfl
  obtain ⟨b, vs, T, h1, h2, h3, h4, h5, h6⟩ := h0
  let fz : Nat → Nat → Prop := fun x q => ∃ (j : Nat) (ks : List Nat) (rows : List (List Int)) (cap off : Nat), cells[j]? = some (.mu ks rows) ∧ vs[j]? = some (.slice (some (at_ x off)) rows.length cap) ∧
    off ≤ q ∧ q < off + rows.length * ks.length ∧ G.owner x = some (.cell r j)
  let G' : Ghost := { G with imm := fun x q => G.imm x q ∨ fz x q }
  have hp : Pres G w G' w (fun x => ∀ k, x ≠ .cell r k) :=
    ⟨fun _ _ hi => ⟨.inl hi, rfl⟩, fun _ _ e => e, fun x L hL hx => ⟨hx, rfl, fun q hi => hi.elim id fun ⟨j, _, _, _, _, _, _, _, _, ho⟩ => by
      rw [hx] at ho; cases ho; exact absurd rfl (hL j)⟩⟩
  refine ⟨G', hp, ⟨rfl, rfl, rfl, Nat.le_refl _, fun _ _ hi => ⟨.inl hi, rfl⟩, fun x _ hx => ⟨hx, rfl, fun q hi => hi.elim id fun ⟨j, _, _, _, _, _, _, _, _, ho⟩ => by rw [hx] at ho; cases ho⟩, fun _ _ _ e => e⟩, ?_⟩
  refine ⟨fun r' cells' hr' => ?_, fun r' b' hb' => ?_, h.own, fun x q hi => ?_⟩
  · by_cases hrr : r' = r
    · subst hrr
      rw [upd_same] at hr'
      cases hr'
      refine .inl ⟨b, vs, T, h1, h2, h3, fun q hi => ?_, by simpa using h5, fun j c hj => ?_⟩
      · rcases hi with hi | ⟨_, _, _, _, _, _, _, _, _, ho⟩
        · exact h4 q hi
        · rw [h2] at ho; cases ho
      · rw [List.getElem?_map] at hj
        cases hj2 : cells[j]? with
        | none => simp [hj2] at hj
        | some d =>
          simp [hj2] at hj
          subst hj
          obtain ⟨u, hu, hbr⟩ := h6 j d hj2
          refine ⟨u, hu, ?_⟩
          -- an owned slice of this box, fixed already or now
          have hother : ∀ x q j', fz x q → G.owner x = some (.cell r' j') → ∃ ks rows cap off, cells[j']? = some (.mu ks rows) ∧ vs[j']? = some (.slice (some (at_ x off)) rows.length cap) ∧ off ≤ q ∧ q < off + rows.length * ks.length := by
            rintro x q j' ⟨j2, ks2, rows2, cap2, off2, g1, g2, g3, g4, g5⟩ ho
            rw [ho] at g5
            cases g5
            exact ⟨ks2, rows2, cap2, off2, g1, g2, g3, g4⟩
          cases d with
          | mu ks rows =>
            obtain ⟨ad, cap, rfl, hc, hm, hx⟩ := hbr
            refine ⟨ad, cap, rfl, hc, hm, ?_⟩
            rcases hx with hx | ⟨b2, rfl, ho, hni, hpos, cur, E, hh, hfit, hcells⟩
            · exact .inl ⟨.inr hx.1, hx.2⟩
            · refine .inr ⟨b2, 0, rfl, fun i k hi hk => ?_, fun Lc e => ?_⟩
              · refine ⟨.inr ⟨j, ks, rows, cap, 0, hj2, hu, by omega, ?_, ho⟩, ?_⟩
                · have : (i + 1) * ks.length ≤ rows.length * ks.length := Nat.mul_le_mul_right _ hi
                  rw [Nat.succ_mul] at this
                  omega
                · rw [cell_heap _ _ _ hh, Nat.zero_add]; exact hcells i k hi hk
              · cases e
                refine ⟨ho, cur, E, hh, by rw [Nat.zero_add]; exact hfit, fun q hq _ hi => ?_⟩
                rcases hi with hi | hi
                · exact hni q hi
                · obtain ⟨ks2, rows2, cap2, off2, g1, g2, _, g4⟩ := hother _ _ _ hi ho
                  rw [hj2] at g1
                  cases g1
                  rw [hu] at g2
                  cases g2
                  omega
          | sl own ks rows =>
            cases own with
            | false => exact SRel.pres (L := none) hp (fun _ e => nomatch e) hbr
            | true =>
              have hb1 : SRel G w (some (.cell r' j)) ks rows u := hbr
              obtain ⟨ad, cap, rfl, hc, hm, hx⟩ := hb1
              refine ⟨ad, cap, rfl, hc, hm, ?_⟩
              rcases hx with hx | ⟨b2, off, rfl, himm, hsp⟩
              · exact .inl hx
              · refine .inr ⟨b2, off, rfl, fun i k hi hk => (himm i k hi hk).pres hp, fun Lc e => ?_⟩
                cases e
                obtain ⟨ho, cur, E, hh, hfit, hni⟩ := hsp _ rfl
                refine ⟨ho, cur, E, hh, hfit, fun q hq hq2 hi => ?_⟩
                rcases hi with hi | hi
                · exact hni q hq hq2 hi
                · obtain ⟨ks2, rows2, cap2, off2, g1, _⟩ := hother _ _ _ hi ho
                  rw [hj2] at g1
                  cases g1
          | int k m => exact hbr
          | num k m => exact hbr
          | bool k => exact hbr
          | lit k => exact hbr
          | el ks row k => exact CRel.pres (G := G) (w := w) (L := none) (c := .el ks row k) hp (fun _ e => nomatch e) hbr
          | ptr k m => exact hbr
          | nilp => exact hbr
          | nsl ks => exact hbr
          | arr ks rows cap => exact hbr
          | fro ks rows => exact hbr
          | msl k m cap => exact hbr
          | mp k m i o => exact hbr
          | nsls ks ll => exact NRel.pres hp hbr
          | el2 ks rows => exact CRel.pres (G := G) (w := w) (L := none) (c := .el2 ks rows) hp (fun _ e => nomatch e) hbr
          | mapv k => exact hbr
          | mpb f => exact hbr
          | str s => exact hbr
          | esl ks => exact hbr
          | junk => exact hbr
    · rw [upd_ne _ _ hrr] at hr'
      exact (h.box r' cells' hr').pres hp (fun k => by simp) (fun q k => by simp; intro e; exact absurd e hrr)
  · by_cases hrr : r' = r
    · subst hrr; exact ⟨_, upd_same _ _ _⟩
    · obtain ⟨c', hc'⟩ := h.beta r' b' hb'
      exact ⟨c', (upd_ne _ _ hrr).trans hc'⟩
  · rcases hi with hi | ⟨_, _, _, _, _, _, _, _, _, ho⟩
    · exact h.imm x q hi
    · exact h.own _ _ ho

theorem load_sound (h : Rel n G st a w) (s : Sides n o) {t : TypeId} {x : Operand} {take fz : Bool} (ho : o.op = .load t x)
    (hk : (loadSem P t (evalO P st.env o.type x) st.box take fz o.dst).wp st K) : o.wp P a w (Post n G w K) Q := by
  obtain ⟨L1, h1⟩ := s.ev (P := P) h o.type (x := x) (by rw [ho]; simp [Op.operands])
  have hex : ∀ u v, a.eval x = u → (Instr.loadAt t u).run P w = .ok v w → (execOp a.eval o).run P w = .ok (.value v) w := by
    intro u v hu hr
    unfold execOp
    simp only [ho, hu, Sem.run_bind, hr, Result.andThen_ok, Sem.run_pure]
  unfold loadSem at hk
  split at hk
  case h_2 => exact hk.elim
  rename_i ag m ha hs
  split at hk
  · -- out of a fixed slice
    rename_i ks row off e1
    rw [e1] at h1
    obtain ⟨b, k, hv, hj⟩ := h1.of_ce
    split at hk
    case h_2 => exact hk.elim
    rename_i cs hrc
    obtain ⟨hle, rfl⟩ := rowCells_spec hrc
    split at hk
    case h_2 => exact hk.elim
    rename_i hv' has
    obtain ⟨ag', ha', h2⟩ := asVal_isAgg has
    rw [ha] at ha'
    cases ha'
    obtain ⟨v, hrun, g1, g2⟩ := run_load_cells (P := P) (w := w) ha hs b k ((List.range m).map fun j => kval (ks.getD (off + j) 0) (row.getD (off + j) 0)) (by simp) (fun j v hjv => by
      rw [List.getElem?_map] at hjv
      cases hq : (List.range m)[j]? with
      | none => simp [hq] at hjv
      | some q =>
        simp [hq] at hjv
        subst hjv
        have hlt : j < m := by have := (List.getElem?_eq_some_iff.1 hq).1; simpa using this
        have hqj : q = j := by simp [List.getElem?_range hlt] at hq; exact hq.symm
        subst hqj
        simpa using (hj q (by omega)).2) (fun e => by
        obtain ⟨c, hc⟩ := h2 e
        have := congrArg List.length hc
        simpa using this)
    refine ok_sound h s (asVal_rel has (TVal.mk ha (us := (List.range m).map fun j => kval (ks.getD (off + j) 0) (row.getD (off + j) 0)) (by simp) (fun j c hjc => ?_) g1 g2)) (hex _ _ hv hrun) hk
    rw [List.getElem?_map] at hjc ⊢
    cases hq : (List.range m)[j]? with
    | none => simp [hq] at hjc
    | some q =>
      simp [hq] at hjc
      subst hjc
      exact ⟨_, by simp, kcell_rel _ _⟩
  · -- a slice out of a slice of slices
    rename_i ks rows e1
    rw [e1] at h1
    obtain ⟨b, k, u, hv, hi, hsr⟩ := h1.of_ce
    cases ag with
    | true => exact hk.elim
    | false =>
    simp only [cond_false] at hk
    refine ok_sound h s (hv := .ce (.sl false ks rows)) (v := u) hsr (hex _ _ hv ?_) hk
    simp [Instr.loadAt, Instr.sureAddr, loadVar, run_isAgg ha, hi.2]
  · -- out of a made slice
    rename_i r sz i k e1
    rw [e1] at h1
    obtain ⟨b, hb, hv⟩ := h1.of_ce
    split at hk
    case h_2 => exact hk.elim
    rename_i ks rows capA hbx
    cases hsz : Nat.beq sz ks.length with
    | false => rw [hsz] at hk; exact hk.elim
    | true =>
    rw [hsz] at hk
    simp only [cond_true] at hk
    have hsz' := Nat.eq_of_beq_eq_true hsz
    split at hk
    case h_2 => exact hk.elim
    rename_i cs hrc
    obtain ⟨hle, rfl⟩ := rowCells_spec hrc
    split at hk
    case h_2 => exact hk.elim
    rename_i hv' has
    obtain ⟨hlt, hk⟩ := hk
    obtain ⟨b', vs, T, g1, g2, g3, g4, g5, g6⟩ := (h.mem.box r _ hbx).arr
    rw [hb] at g1
    cases g1
    obtain ⟨ag', ha', h2⟩ := asVal_isAgg has
    rw [ha] at ha'
    cases ha'
    obtain ⟨v, hrun, g1, g2⟩ := run_load_cells (P := P) (w := w) ha hs b (i * sz + k) ((List.range m).map fun j => kval (ks.getD (k + j) 0) ((rows.getD i []).getD (k + j) 0)) (by simp) (fun j v hjv => by
      rw [List.getElem?_map] at hjv
      cases hq : (List.range m)[j]? with
      | none => simp [hq] at hjv
      | some q =>
        simp [hq] at hjv
        subst hjv
        have hltm : j < m := by have := (List.getElem?_eq_some_iff.1 hq).1; simpa using this
        have hqj : q = j := by simp [List.getElem?_range hltm] at hq; exact hq.symm
        subst hqj
        rw [cell_heap _ _ _ g3, hsz', Nat.add_assoc]
        simpa using g6 i (k + q) hlt (by omega)) (fun e => by
      obtain ⟨c, hc⟩ := h2 e
      have := congrArg List.length hc
      simpa using this)
    refine ok_sound h s (asVal_rel has (TVal.mk ha (us := (List.range m).map fun j => kval (ks.getD (k + j) 0) ((rows.getD i []).getD (k + j) 0)) (by simp) (fun j c hjc => ?_) g1 g2)) (hex _ _ hv hrun) hk
    rw [List.getElem?_map] at hjc ⊢
    cases hq : (List.range m)[j]? with
    | none => simp [hq] at hjc
    | some q =>
      simp [hq] at hjc
      subst hjc
      exact ⟨_, by simp, kcell_rel _ _⟩
  · -- out of a box
    rename_i r k e1
    rw [e1] at h1
    obtain ⟨b, hb, hv⟩ := h1.of_ce
    split at hk
    case h_2 => exact hk.elim
    rename_i cells hbx0
    obtain ⟨hbx, hstd⟩ := stdB_some hbx0
    split at hk
    case h_2 => exact hk.elim
    rename_i cs hcut
    obtain ⟨b', vs, T, g1, g2, g3, g4, g5, g6⟩ := (h.mem.box r cells hbx).std hstd
    rw [hb] at g1
    cases g1
    obtain ⟨hle, hcs⟩ := cut_spec hcut
    -- the values there
    have hus : ∀ j v, ((vs.toList.drop k).take m)[j]? = some v → w.cell? (at_ b (k + j)) = some v := by
      intro j v hj
      rw [List.getElem?_take] at hj
      split at hj
      · rw [List.getElem?_drop] at hj
        rw [cell_heap _ _ _ g3]
        simpa using hj
      · cases hj
    have hul : ((vs.toList.drop k).take m).length = m := by simp; omega
    have hrel : ∀ (j : Nat) (c : HC), cs[j]? = some c → ∃ u, ((vs.toList.drop k).take m)[j]? = some u ∧ BRel G w r (k + j) c u := by
      intro j c hj
      obtain ⟨hjm, hc⟩ := cut_get hcut hj
      obtain ⟨u, hu, hr⟩ := g6 _ _ hc
      exact ⟨u, by rw [List.getElem?_take, if_pos hjm, List.getElem?_drop]; simpa using hu, hr⟩
    have hcl := cut_len hcut
    -- a plain load
    have hplain : ∀ (f : HC → HC) (G' : Ghost) (hv' : HV), asVal P t (cs.map f) = some hv' → (∀ (j : Nat) (c : HC) (u : Value), cs[j]? = some c → ((vs.toList.drop k).take m)[j]? = some u → CRel G' w none (f c) u) →
        ∃ v, (execOp a.eval o).run P w = .ok (.value v) w ∧ VRel G' w none hv' v := by
      intro f G' hv' has hf
      obtain ⟨ag', ha', h2⟩ := asVal_isAgg has
      rw [ha] at ha'
      cases ha'
      obtain ⟨v, hrun, g1, g2⟩ := run_load_cells (P := P) (w := w) ha hs b k _ hul hus (fun e => by
        obtain ⟨c, hc⟩ := h2 e
        rw [← hcl]
        exact map_one hc)
      refine ⟨v, hex _ _ hv hrun, asVal_rel has (TVal.mk ha (by rw [hul, List.length_map, hcl]) (fun j c hj => ?_) g1 g2)⟩
      rw [List.getElem?_map] at hj
      cases hj2 : cs[j]? with
      | none => simp [hj2] at hj
      | some d =>
        simp [hj2] at hj
        subst hj
        obtain ⟨u, hu, _⟩ := hrel j d hj2
        exact ⟨u, hu, hf j d u hj2 hu⟩
    split at hk
    · -- taking
      rename_i own ks rows d hd
      have hc0 : cells[k]? = some (.sl own ks rows) := by
        have := (cut_get hcut (j := 0) (c := .sl own ks rows) rfl).2
        simpa using this
      have hm1 : m = 1 := by rw [← hcl]; rfl
      subst hm1
      obtain ⟨u, hu, hr0⟩ := g6 _ _ hc0
      obtain ⟨v, hrun, _, g22⟩ := run_load_cells (P := P) (w := w) ha hs b k _ hul hus (fun _ => rfl)
      have hvu : v = u := by
        have := g22 rfl
        have h0 : ((vs.toList.drop k).take 1)[0]? = some u := by rw [List.getElem?_take, if_pos (by omega), List.getElem?_drop]; simpa using hu
        rw [this] at h0
        simpa using h0
      subst hvu
      obtain ⟨G', hp, hev, hmem, hsr⟩ := h.mem.take_cell (d := d) hbx hstd hc0 (v := v) (fun b2 vs2 T2 e1 e2 => by
        rw [hb] at e1; cases e1
        rw [g3] at e2; cases e2
        exact hu)
      refine wp_value (hex _ _ hv hrun) ⟨_, G', hk, ?_, hev⟩
      have hdn := s.dst d hd
      have := h.put s.le (dst := some d) (fun d' e => by cases e; exact hdn) (Pres.mk hp.imm hp.beta (fun b L hL => hp.own b L hL)) (fun x _ => by simp) (own := own) (hv := .ce (.sl own ks rows)) (v := v)
        (SRel.drop hsr) (fun d' e ow => by cases e; subst ow; exact hsr) hmem (log := st.log)
      rw [hd]
      exact this
    · -- fixing
      split at hk
      case h_2 => exact hk.elim
      rename_i hv' has
      obtain ⟨G', hp, hev, hmem⟩ := h.mem.freeze hbx
      obtain ⟨b3, vs3, T3, q1, q2, q3, q4, q5, q6⟩ := (hmem.box r _ (upd_same _ _ _)).std (by
        clear hk has hcut g5 g6 hrel hplain
        match cells, hstd with
        | [], hs => exact hs
        | [c], hs => cases c <;> first | rfl | cases hs
        | _ :: _ :: _, _ => exact std_cons2 _ _ _)
      have hb3 : b3 = b := by have := hp.beta r b hb; rw [q1] at this; cases this; rfl
      subst hb3
      rw [g3] at q3
      cases q3
      obtain ⟨v, hrun, hvr⟩ := hplain (fun c => c.frz.dis) G' hv' has (fun j c u hj hu => by
        obtain ⟨hjm, hc⟩ := cut_get hcut hj
        obtain ⟨u2, hu2, hr2⟩ := q6 (k + j) c.frz (by rw [List.getElem?_map, hc]; rfl)
        have : u2 = u := by
          rw [List.getElem?_take, if_pos hjm, List.getElem?_drop] at hu
          have hu' : vs[k + j]? = some u := by simpa using hu
          rw [hu2] at hu'
          cases hu'
          rfl
        subst this
        exact hr2.dis)
      refine wp_value hrun ⟨_, G', hk, ?_, hev⟩
      have := h.put s.le s.dst hp (fun x _ => by simp) (own := false) hvr (fun _ _ e => nomatch e) hmem (log := st.log)
      exact this
    · split at hk
      case h_2 => exact hk.elim
      rename_i hv' has
      obtain ⟨v, hrun, hvr⟩ := hplain HC.dis G hv' has (fun j c u hj hu => by
        obtain ⟨u2, hu2, hr2⟩ := hrel j c hj
        rw [hu] at hu2
        cases hu2
        exact hr2.dis)
      exact ok_sound h s hvr hrun hk
    · exact hk.elim
  · exact hk.elim
end

end Go.HL
