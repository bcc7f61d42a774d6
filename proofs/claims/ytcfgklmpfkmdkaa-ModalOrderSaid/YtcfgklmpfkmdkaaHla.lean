/-
  HL, part la: made slices: they are made, their elements are set, they are fixed.
  Conditions: none.
-/
import Derived.Test.YtcfgklmpfkmdkaaHl
namespace Go.HL
open Go

section
variable {P : Program} {n : Nat} {G G' : Ghost} {st : HSt} {a : Act} {w w' : World} {o : Oper} {Q : Exit → Act → World → Prop} {K : HSt → Prop}

/-- a new array -/
theorem make_sound (h : Rel n G st a w) (s : Sides n o) {t : TypeId} {x y : Operand} (ho : o.op = .makeSlice t x y)
    (hk : (makeSem P t (evalO P st.env o.type x) (evalO P st.env o.type y) st.box o.dst).wp st K) : o.wp P a w (Post n G w K) Q := by
  obtain ⟨L1, h1⟩ := s.ev (P := P) h o.type (x := x) (by rw [ho]; simp [Op.operands])
  obtain ⟨L2, h2⟩ := s.ev (P := P) h o.type (x := y) (by rw [ho]; simp [Op.operands])
  unfold makeSem at hk
  split at hk
  case h_2 => exact hk.elim
  rename_i e lc cc d hu e1 e2 hd
  rw [e1] at h1
  rw [e2] at h2
  split at hk
  case h_2 => exact hk.elim
  rename_i ks i l u c u' hks hi hl hc hfree
  cases hz0 : zeroOK P e ks with
  | false => rw [hz0] at hk; exact hk.elim
  | true =>
  rw [hz0] at hk
  simp only [cond_true] at hk
  obtain ⟨⟨hp0, rfl, hp1, hp2⟩, hk⟩ := hk
  have hlv := isNum_rel h1.of_ce hl
  have hcv := isNum_rel h2.of_ce hc
  obtain ⟨i', z, hi', hz, hsz, hk1, hzs⟩ := elemKs_spec hks
  rw [hi] at hi'
  cases hi'
  have hzz : areZero ks z.cells.toList = true := by
    unfold zeroOK at hz0
    rw [hi] at hz0
    dsimp only at hz0
    rw [hz] at hz0
    exact hz0
  obtain ⟨hzl, hzg⟩ := areZero_get hzz
  obtain ⟨m, rfl⟩ := Int.eq_ofNat_of_zero_le hp0
  simp only [Int.toNat_natCast] at hk
  have hwrap : IntKind.i64.wrap (m : Int) = (m : Int) := by
    simp [IntKind.wrap, IntKind.signed, IntKind.bits]
    split <;> omega
  have hb : m * i.bytes ≤ 140737488355328 := by
    have : ((m * i.bytes : Nat) : Int) ≤ 140737488355328 := by rw [Int.natCast_mul]; exact hp2
    omega
  -- the cells
  let cur : Array Value := if m * ks.length = 0 then #[] else (Array.range (m * ks.length)).map (z.cells[· % z.cells.size]!)
  have hcs : cur.size = m * ks.length := by
    by_cases h0 : m * ks.length = 0
    · simp [cur, h0]
    · simp [cur, h0]
  have hcg : ∀ i j, i < m → j < ks.length → cur[i * ks.length + j]? = some (kval (ks.getD j 0) 0) := by
    intro i j hi hj
    have hlt : i * ks.length + j < m * ks.length := by
      have : (i + 1) * ks.length ≤ m * ks.length := Nat.mul_le_mul_right _ hi
      rw [Nat.succ_mul] at this
      omega
    have h0 : ¬ m * ks.length = 0 := by omega
    simp only [cur, if_neg h0]
    rw [Array.getElem?_map, Array.getElem?_range, if_pos hlt]
    simp only [Option.map_some]
    have hmod : (i * ks.length + j) % z.cells.size = j := by rw [hzs, Nat.mul_comm, Nat.mul_add_mod, Nat.mod_eq_of_lt hj]
    rw [hmod]
    have := hzg j hj
    have hjz : j < z.cells.size := by omega
    rw [Array.getElem?_toList, Array.getElem?_eq_getElem hjz] at this
    rw [getElem!_pos z.cells j hjz]
    exact this
  have hrun : (execOp a.eval o).run P w = .ok (.value (.slice (some (at_ w.heap.size 0)) m m)) (w.alloc (.cells cur e)) := by
    have hbi : ¬ ((i.bytes : Int) * (m : Int) > 2 ^ 48) := by rw [Int.mul_comm]; omega
    have hroom : ¬ (m * i.bytes > roomBytes) := by unfold roomBytes; omega
    have hm0 : ¬ ((m : Int) < 0) := by omega
    unfold execOp
    simp only [ho, hlv, hcv, Instr.makeSlice, Sem.run_bind, run_underlying hu, Result.andThen_ok, asInt, asIntOf, Sem.run_pure, typeInfo, run_program, hi, hwrap]
    have hd1 : decide ((m : Int) < 0) = false := decide_eq_false hm0
    have hd2 : decide ((i.bytes : Int) * (m : Int) > 2 ^ 48) = false := decide_eq_false hbi
    have hd3 : decide ((m : Int) > (m : Int)) = false := decide_eq_false (by omega)
    simp only [hd1, hd2, hd3, Bool.or_false, Bool.false_eq_true, if_false, Int.toNat_natCast, askRoom, if_neg hroom, Sem.run_bind, Sem.run_pure, Result.andThen_ok, sizeOf, typeInfo, run_program, hi, hsz]
    by_cases h0 : m * ks.length = 0
    · rw [if_pos h0]
      simp [cur, h0, newRow, at_]
      have : Array.map (fun _ : Nat => (default : Value)) (Array.range 0) = #[] := Array.eq_empty_of_size_eq_zero (by simp)
      first | rw [this] | (congr 1; congr 1; exact this) | simp [this]
    · rw [if_neg h0]
      simp [cur, h0, newRow, at_, zeroValue, typeInfo, run_program, hi, hz]
  have hp := Pres.fresh h.mem (.cells cur e) (L := .box (newKey d)) (fixed := false) (key := some (newKey d)) (fun r e => by cases e; exact hfree)
  have hev := Evolves.fresh h.mem (.cells cur e) (L := .box (newKey d)) (fixed := false) (key := some (newKey d)) (fun r e => by cases e; unfold newKey; omega)
  have hm : Mem (G.fresh w.heap.size (.box (newKey d)) false (some (newKey d))) (upd st.box (newKey d) (some [.arr ks (List.replicate m (zrow ks))])) (w.alloc (.cells cur e)) := by
    refine ⟨fun r cells hr => ?_, fun r b hb => ?_, (h.mem.fresh_own _).1, (h.mem.fresh_own _).2⟩
    · by_cases hrk : r = newKey d
      · subst hrk
        rw [upd_same] at hr
        cases hr
        refine .inr (.inl ⟨_, _, rfl, w.heap.size, cur, e, upd_same _ _ _, upd_same _ _ _, alloc_new w _, fun o hi => ?_, by rw [List.length_replicate]; exact Nat.le_of_eq hcs.symm, fun i j hi hj => ?_⟩)
        · rcases hi with hi | ⟨e, _⟩
          · have := h.mem.imm _ _ hi; omega
          · cases e
        · rw [List.length_replicate] at hi
          have : ((List.replicate m (zrow ks)).getD i []) = zrow ks := by simp [List.getD_eq_getElem?_getD, hi]
          rw [this, zrow_get]
          exact hcg i j hi hj
      · rw [upd_ne _ _ hrk] at hr
        exact (h.mem.box r cells hr).pres hp trivial (fun _ => trivial)
    · by_cases hrk : r = newKey d
      · subst hrk; exact ⟨_, upd_same _ _ _⟩
      · obtain ⟨cells, hc⟩ := h.mem.beta r b ((upd_ne G.beta (some w.heap.size) hrk).symm.trans hb)
        exact ⟨cells, (upd_ne _ _ hrk).trans hc⟩
  refine wp_value hrun ⟨_, _, hk, ?_, hev⟩
  have hd2 := s.dst d hd
  have := h.put s.le (dst := o.dst) (fun d' e => s.dst d' e) hp (fun _ _ => trivial) (own := false) (hv := .ce (.msl (newKey d) m)) (v := .slice (some (at_ w.heap.size 0)) m m)
    ⟨w.heap.size, m, upd_same _ _ _, rfl, Nat.le_refl _, by unfold maxLen; omega⟩ (fun _ _ e => nomatch e) hm (log := st.log)
  rw [hd] at this ⊢
  exact this

/-- elements are appended to an empty slice without room -/
theorem appNew_sound (h : Rel n G st a w) (s : Sides n o) {x y : Operand} {t u : TypeId} {ks : List Nat} (ho : o.op = .call { callee := .builtin .append, args := #[x, y], argTypes := #[t, u] })
    (e1 : evalO P st.env o.type x = .ce (.esl ks)) (hk : (appNewSem P t u ks (evalO P st.env o.type y) st.box o.dst).wp st K) : o.wp P a w (Post n G w K) Q := by
  obtain ⟨L1, h1⟩ := s.ev (P := P) h o.type (x := x) (by rw [ho]; simp [Op.operands, Call.operands])
  obtain ⟨L2, h2⟩ := s.ev (P := P) h o.type (x := y) (by rw [ho]; simp [Op.operands, Call.operands])
  rw [e1] at h1
  obtain ⟨ad, hv⟩ := h1.of_ce
  unfold appNewSem at hk
  split at hk
  case h_2 => exact hk.elim
  rename_i e ow ls more d hu e2 hd
  rw [e2] at h2
  split at hk
  case h_2 => exact hk.elim
  rename_i es i hes hi hfree
  cases hb : (ksEq es ks && ksEq es ls && Nat.beq t u) with
  | false => rw [hb] at hk; exact hk.elim
  | true =>
  rw [hb] at hk
  simp only [cond_true] at hk
  rw [Bool.and_eq_true, Bool.and_eq_true] at hb
  obtain rfl := ksEq_eq hb.1.1
  obtain rfl := ksEq_eq hb.1.2
  obtain rfl := Nat.eq_of_beq_eq_true hb.2
  obtain ⟨⟨hpos, hbytes, hmax⟩, hk⟩ := hk
  obtain ⟨i', z, hi', hz, hsz, hk1, hzs⟩ := elemKs_spec hes
  rw [hi] at hi'
  cases hi'
  obtain ⟨⟨ya, yc, hy⟩, hsrcs⟩ := source_cells (P := P) (show SRel G w L2 es more (a.eval y) from h2)
  have hex : ∀ r w1, (Builtin.append_ #[t, t] o.type #[a.eval x, a.eval y]).run P w = .ok r w1 → (execOp a.eval o).run P w = .ok (.value r) w1 := by
    intro r w1 hr
    unfold execOp
    simp only [ho, resolve, invoke, builtin, Sem.run_bind, Sem.run_pure, Result.andThen_ok, List.map_toArray, List.map_cons, List.map_nil, hr]
  obtain ⟨rows, cap, hrows0, hcap0⟩ : ∃ rows : List (List Int), ∃ cap : Nat, rows = [] ∧ cap = 0 := ⟨[], 0, rfl, rfl⟩
  have hl0 : rows.length = 0 := by rw [hrows0]; rfl
  have hv : a.eval x = .slice ad rows.length cap := by rw [hl0, hcap0]; exact hv
  have hgrow : cap < rows.length + more.length := by omega
  have hbytes : (rows.length + more.length) * i.bytes ≤ 140737488355328 := by rw [hl0, Nat.zero_add]; exact hbytes
  have hmax : rows.length + more.length ≤ maxLen := by rw [hl0, Nat.zero_add]; exact hmax
  have hsl : ∀ w' : World, (∀ b : Nat, w'.heap[b]? = w.heap[b]?) → (Builtin.firstCells es.length rows.length (.slice ad rows.length cap)).run P w' = .ok (flatRows es rows).toArray w' :=
    (source_cells (P := P) (show SRel G w none es rows (.slice ad rows.length cap) from ⟨ad, cap, rfl, by omega, by unfold maxLen; omega, .inl ⟨.inl rfl, hl0, hcap0⟩⟩)).2
  have hncap := growslice_fits hgrow hbytes
  have hgc := grownCap_ge w (rows.length + more.length) cap e
  have hgm := grownCap_le_maxLen w (rows.length + more.length) cap e hmax
  let NC := grownCap w (rows.length + more.length) cap e
  let cur : Array Value := (flatRows es rows ++ flatRows es more ++ (Builtin.zeroCells z.cells (NC - (rows.length + more.length))).toList).toArray
  have hrun : (Builtin.append_ #[t, t] o.type #[a.eval x, a.eval y]).run P w =
      .ok (.slice (some (at_ w.heap.size 0)) (rows.length + more.length) NC) (w.drew.alloc (.cells cur e)) := by
    have hs0 := hsrcs w.drew (fun _ => rfl)
    have hs1 := hsl w.drew (fun _ => rfl)
    rw [hy] at hs0 ⊢
    rw [hv]
    have h48' : ¬ (281474976710656 < Builtin.nextslicecap (rows.length + more.length) cap * i.bytes) := by omega
    have hin : P.underlying t = some (.slice e) := hu
    simp only [Builtin.append_, run_underlying hu, sizeOf, typeInfo, hi, Builtin.lenOf, Sem.run_bind, Sem.run_pure, Result.andThen_ok, run_program, hsz] at hs0 hs1 ⊢
    have hn : ¬ (rows.length + more.length ≤ cap) := by omega
    have hmx : ¬ ((9223372036854775807 : Int) < (rows.length : Int) + (more.length : Int)) := by
      simp only [maxLen] at hmax
      omega
    simp [run_underlying hu, hn, h48', hmx, hi, hsz, hz, Question.forced, hs0, hs1, zeroValue, typeInfo, newRow, at_, NC, grownCap, cur]
    congr 2
    apply Array.ext'
    simp
  have hfl : flatRows es rows = [] := by rw [hrows0]; rfl
  have hcg : ∀ i j, i < more.length → j < es.length → cur[i * es.length + j]? = some (kval (es.getD j 0) ((more.getD i []).getD j 0)) := by
    intro i j hi hj
    have hg := flatRows_get es more i j hi hj
    simp only [cur, hfl, List.nil_append, List.getElem?_toArray]
    rw [List.getElem?_append_left (List.getElem?_eq_some_iff.1 hg).1]
    exact hg
  have hcs : more.length * es.length ≤ cur.size := by
    simp only [cur, hfl, List.nil_append, List.size_toArray, List.length_append, flatRows_length]
    omega
  have hgc : more.length ≤ NC := by
    have : rows.length + more.length ≤ NC := hgc
    omega
  have hgm : NC ≤ maxLen := hgm
  rw [hl0, Nat.zero_add] at hrun
  have hm0 : Mem G st.box w.drew := h.mem.same_heap rfl
  have hp0 := Pres.fresh hm0 (.cells cur e) (L := .box (newKey d)) (fixed := false) (key := some (newKey d)) (fun r e => by cases e; exact hfree)
  have hev := Evolves.fresh hm0 (.cells cur e) (L := .box (newKey d)) (fixed := false) (key := some (newKey d)) (fun r e => by cases e; unfold newKey; omega)
  have hm : Mem (G.fresh w.heap.size (.box (newKey d)) false (some (newKey d))) (upd st.box (newKey d) (some [.arr es more])) (w.drew.alloc (.cells cur e)) := by
    refine ⟨fun r cells hr => ?_, fun r b hb => ?_, (hm0.fresh_own _).1, (hm0.fresh_own _).2⟩
    · by_cases hrk : r = newKey d
      · subst hrk
        rw [upd_same] at hr
        cases hr
        refine .inr (.inl ⟨_, _, rfl, w.heap.size, cur, e, upd_same _ _ _, upd_same _ _ _, alloc_new w.drew _, fun o hi => ?_, hcs, hcg⟩)
        rcases hi with hi | ⟨e, _⟩
        · have := h.mem.imm _ _ hi; omega
        · cases e
      · rw [upd_ne _ _ hrk] at hr
        exact (hm0.box r cells hr).pres hp0 trivial (fun _ => trivial)
    · by_cases hrk : r = newKey d
      · subst hrk; exact ⟨_, upd_same _ _ _⟩
      · obtain ⟨cells, hc⟩ := h.mem.beta r b ((upd_ne G.beta (some w.heap.size) hrk).symm.trans hb)
        exact ⟨cells, (upd_ne _ _ hrk).trans hc⟩
  refine wp_value (hex _ _ hrun) ⟨_, _, hk, ?_, ⟨hev.os, hev.tape, hev.output, hev.size, hev.imm, hev.foreign, hev.beta⟩⟩
  have hp : Pres G w (G.fresh w.heap.size (.box (newKey d)) false (some (newKey d))) (w.drew.alloc (.cells cur e)) (fun _ => True) := Pres.mk hp0.imm hp0.beta (fun b L _ hb => hp0.own b L trivial hb)
  have := h.put s.le (dst := o.dst) (fun d' e => s.dst d' e) hp (fun _ _ => trivial) (own := false) (hv := .ce (.msl (newKey d) more.length)) (v := .slice (some (at_ w.heap.size 0)) more.length NC)
    ⟨w.heap.size, NC, upd_same _ _ _, rfl, hgc, hgm⟩ (fun _ _ e => nomatch e) hm (log := st.log)
  rw [hd] at this ⊢
  exact this

/-- a made slice is fixed -/
theorem frz_sound (h : Rel n G st a w) (s : Sides n o) {v : Value} {r m : Nat} (hv : CRel G w none (.msl r m) v) (hrun : (execOp a.eval o).run P w = .ok (.value v) w)
    (hk : (frzSem st.box r m o.dst).wp st K) : o.wp P a w (Post n G w K) Q := by
  unfold frzSem at hk
  split at hk
  case h_2 => exact hk.elim
  rename_i ks rows d hbx hd
  obtain ⟨hm, hk⟩ := hk
  obtain ⟨b, vs, T, h1, h2, h3, h4, h5, h6⟩ := (h.mem.box r _ hbx).arr
  obtain ⟨b', cap, hb, rfl, hcap, hmax⟩ := hv
  rw [h1] at hb
  cases hb
  let G' : Ghost := { G with imm := fun x q => G.imm x q ∨ x = b }
  have hp : Pres G w G' w (fun x => x ≠ .box r) :=
    ⟨fun _ _ hi => ⟨.inl hi, rfl⟩, fun _ _ e => e, fun x L hL hx => ⟨hx, rfl, fun q hi => hi.elim id fun e => by
      subst e; rw [h2] at hx; cases hx; exact absurd rfl hL⟩⟩
  have hev : Evolves G w G' w := ⟨rfl, rfl, rfl, Nat.le_refl _, fun _ _ hi => ⟨.inl hi, rfl⟩, fun x _ hx => ⟨hx, rfl, fun q hi => hi.elim id fun e => by
    subst e; rw [h2] at hx; cases hx⟩, fun _ _ _ e => e⟩
  have hmem : Mem G' (upd st.box r (some [])) w := by
    refine ⟨fun r' cells' hr' => ?_, fun r' b' hb' => ?_, h.mem.own, fun x q hi => ?_⟩
    · by_cases hrr : r' = r
      · subst hrr
        rw [upd_same] at hr'
        cases hr'
        exact .inr (.inr (.inl ⟨rfl, b, h1⟩))
      · rw [upd_ne _ _ hrr] at hr'
        exact (h.mem.box r' cells' hr').pres hp (by simp; exact hrr) (fun q => by simp)
    · by_cases hrr : r' = r
      · subst hrr; exact ⟨_, upd_same _ _ _⟩
      · obtain ⟨c', hc'⟩ := h.mem.beta r' b' hb'
        exact ⟨c', (upd_ne _ _ hrr).trans hc'⟩
    · rcases hi with hi | e
      · exact h.mem.imm x q hi
      · subst e; exact h.mem.own _ _ h2
  refine wp_value hrun ⟨_, G', hk, ?_, hev⟩
  have hsr : SRel G' w none ks rows (.slice (some (at_ b 0)) m cap) := by
    refine ⟨_, cap, by rw [hm], by omega, hmax, .inr ⟨b, 0, rfl, fun i j hi hj => ⟨.inr rfl, ?_⟩, fun _ e => nomatch e⟩⟩
    rw [cell_heap _ _ _ h3, Nat.zero_add]
    exact h6 i j hi hj
  have := h.put s.le (dst := o.dst) (fun d' e => s.dst d' e) hp (fun _ _ => by simp) (own := false) (hv := .ce (.sl false ks rows)) (v := .slice (some (at_ b 0)) m cap)
    hsr (fun _ _ e => nomatch e) hmem (log := st.log)
  rw [hd] at this ⊢
  exact this
end
end Go.HL
