/-
  HL, part la: made slices: they are made, their elements are set, they are fixed.
  Conditions: none.
-/
import Derived.Test.YtneingpnkdeooaaHl
namespace Go.HL
open Go

section
variable {P : Program} {n : Nat} {G G' : Ghost} {st : HSt} {a : Act} {w w' : World} {o : Oper} {Q : Exit → Act → World → Prop} {K : HSt → Prop}

/-- a new array -/
theorem make_sound (h : Rel n G st a w) (s : Sides n o) {t : TypeId} {x y : Operand} (ho : o.op = .makeSlice t x y)
    (hk : (makeSem P t (evalO P st.env o.type x) (evalO P st.env o.type y) st.box o.dst).wp st K) : o.wp P a w (Post n G w K) Q := by
  obtain ⟨L1, h1⟩ := s.ev (P := P) h o.type (x := x) (by rw [ho]; simp [Op.operands])
  obtain ⟨L2, h2⟩ := s.ev (P := P) h o.type (x := y) (by rw [ho]; simp [Op.operands])
  unfold makeSem at hk
  split at hk
  case h_2 => exact hk.elim
  rename_i e lc cc d hu e1 e2 hd
  rw [e1] at h1
  rw [e2] at h2
  split at hk
  case h_2 => exact hk.elim
  rename_i ks i l u c u' hks hi hl hc hfree
  cases hz0 : zeroOK P e ks with
  | false => rw [hz0] at hk; exact hk.elim
  | true =>
  rw [hz0] at hk
  simp only [cond_true] at hk
  obtain ⟨⟨hp0, rfl, hp1, hp2⟩, hk⟩ := hk
  have hlv := isNum_rel h1.of_ce hl
  have hcv := isNum_rel h2.of_ce hc
  obtain ⟨i', z, hi', hz, hsz, hk1, hzs⟩ := elemKs_spec hks
  rw [hi] at hi'
  cases hi'
  have hzz : areZero ks z.cells.toList = true := by
    unfold zeroOK at hz0
    rw [hi] at hz0
    dsimp only at hz0
    rw [hz] at hz0
    exact hz0
  obtain ⟨hzl, hzg⟩ := areZero_get hzz
  obtain ⟨m, rfl⟩ := Int.eq_ofNat_of_zero_le hp0
  simp only [Int.toNat_natCast] at hk
  have hwrap : IntKind.i64.wrap (m : Int) = (m : Int) := by
    simp [IntKind.wrap, IntKind.signed, IntKind.bits]
    split <;> omega
  have hb : m * i.bytes ≤ 140737488355328 := by
    have : ((m * i.bytes : Nat) : Int) ≤ 140737488355328 := by rw [Int.natCast_mul]; exact hp2
    omega
  -- the cells
  let cur : Array Value := if m * ks.length = 0 then #[] else (Array.range (m * ks.length)).map (z.cells[· % z.cells.size]!)
  have hcs : cur.size = m * ks.length := by
    by_cases h0 : m * ks.length = 0
    · simp [cur, h0]
    · simp [cur, h0]
  have hcg : ∀ i j, i < m → j < ks.length → cur[i * ks.length + j]? = some (kval (ks.getD j 0) 0) := by
    intro i j hi hj
    have hlt : i * ks.length + j < m * ks.length := by
      have : (i + 1) * ks.length ≤ m * ks.length := Nat.mul_le_mul_right _ hi
      rw [Nat.succ_mul] at this
      omega
    have h0 : ¬ m * ks.length = 0 := by omega
    simp only [cur, if_neg h0]
    rw [Array.getElem?_map, Array.getElem?_range, if_pos hlt]
    simp only [Option.map_some]
    have hmod : (i * ks.length + j) % z.cells.size = j := by rw [hzs, Nat.mul_comm, Nat.mul_add_mod, Nat.mod_eq_of_lt hj]
    rw [hmod]
    have := hzg j hj
    have hjz : j < z.cells.size := by omega
    rw [Array.getElem?_toList, Array.getElem?_eq_getElem hjz] at this
    rw [getElem!_pos z.cells j hjz]
    exact this
  have hrun : (execOp a.eval o).run P w = .ok (.value (.slice (some (at_ w.heap.size 0)) m m)) (w.alloc (.cells cur e)) := by
    have hbi : ¬ ((i.bytes : Int) * (m : Int) > 2 ^ 48) := by rw [Int.mul_comm]; omega
    have hroom : ¬ (m * i.bytes > roomBytes) := by unfold roomBytes; omega
    have hm0 : ¬ ((m : Int) < 0) := by omega
    unfold execOp
    simp only [ho, hlv, hcv, Instr.makeSlice, Sem.run_bind, run_underlying hu, Result.andThen_ok, asInt, asIntOf, Sem.run_pure, typeInfo, run_program, hi, hwrap]
    have hd1 : decide ((m : Int) < 0) = false := decide_eq_false hm0
    have hd2 : decide ((i.bytes : Int) * (m : Int) > 2 ^ 48) = false := decide_eq_false hbi
    have hd3 : decide ((m : Int) > (m : Int)) = false := decide_eq_false (by omega)
    simp only [hd1, hd2, hd3, Bool.or_false, Bool.false_eq_true, if_false, Int.toNat_natCast, askRoom, if_neg hroom, Sem.run_bind, Sem.run_pure, Result.andThen_ok, sizeOf, typeInfo, run_program, hi, hsz]
    by_cases h0 : m * ks.length = 0
    · rw [if_pos h0]
      simp [cur, h0, newRow, at_]
      have : Array.map (fun _ : Nat => (default : Value)) (Array.range 0) = #[] := Array.eq_empty_of_size_eq_zero (by simp)
      first | rw [this] | (congr 1; congr 1; exact this) | simp [this]
    · rw [if_neg h0]
      simp [cur, h0, newRow, at_, zeroValue, typeInfo, run_program, hi, hz]
  have hp := Pres.fresh h.mem (.cells cur e) (L := .box (newKey d)) (fixed := false) (key := some (newKey d)) (fun r e => by cases e; exact hfree)
  have hev := Evolves.fresh h.mem (.cells cur e) (L := .box (newKey d)) (fixed := false) (key := some (newKey d)) (fun r e => by cases e; unfold newKey; omega)
  have hm : Mem (G.fresh w.heap.size (.box (newKey d)) false (some (newKey d))) (upd st.box (newKey d) (some [.arr ks (List.replicate m (zrow ks)) m])) (w.alloc (.cells cur e)) := by
    refine ⟨fun r cells hr => ?_, fun r b hb => ?_, (h.mem.fresh_own _).1, (h.mem.fresh_own _).2⟩
    · by_cases hrk : r = newKey d
      · subst hrk
        rw [upd_same] at hr
        cases hr
        refine .inr (.inl ⟨_, _, _, rfl, w.heap.size, cur, e, upd_same _ _ _, upd_same _ _ _, alloc_new w _, fun o hi => ?_, ⟨by rw [List.length_replicate]; exact Nat.le_refl _, Nat.le_of_eq hcs.symm⟩, fun i j hi hj => ?_⟩)
        · rcases hi with hi | ⟨e, _⟩
          · have := h.mem.imm _ _ hi; omega
          · cases e
        · rw [List.length_replicate] at hi
          have : ((List.replicate m (zrow ks)).getD i []) = zrow ks := by simp [List.getD_eq_getElem?_getD, hi]
          rw [this, zrow_get]
          exact hcg i j hi hj
      · rw [upd_ne _ _ hrk] at hr
        exact (h.mem.box r cells hr).pres hp trivial (fun _ => trivial)
    · by_cases hrk : r = newKey d
      · subst hrk; exact ⟨_, upd_same _ _ _⟩
      · obtain ⟨cells, hc⟩ := h.mem.beta r b ((upd_ne G.beta (some w.heap.size) hrk).symm.trans hb)
        exact ⟨cells, (upd_ne _ _ hrk).trans hc⟩
  refine wp_value hrun ⟨_, _, hk, ?_, hev⟩
  have hd2 := s.dst d hd
  have := h.put s.le (dst := o.dst) (fun d' e => s.dst d' e) hp (fun _ _ => trivial) (own := false) (hv := .ce (.msl (newKey d) m m)) (v := .slice (some (at_ w.heap.size 0)) m m)
    ⟨w.heap.size, upd_same _ _ _, rfl, Nat.le_refl _, by unfold maxLen; omega⟩ (fun _ _ e => nomatch e) hm (log := st.log)
  rw [hd] at this ⊢
  exact this

/-- elements are appended to an empty slice without room -/
theorem appNew_sound (h : Rel n G st a w) (s : Sides n o) {x y : Operand} {t u : TypeId} {ks : List Nat} (ho : o.op = .call { callee := .builtin .append, args := #[x, y], argTypes := #[t, u] })
    (e1 : evalO P st.env o.type x = .ce (.esl ks)) (hk : (appNewSem P t u ks (evalO P st.env o.type y) st.box o.dst).wp st K) : o.wp P a w (Post n G w K) Q := by
  obtain ⟨L1, h1⟩ := s.ev (P := P) h o.type (x := x) (by rw [ho]; simp [Op.operands, Call.operands])
  obtain ⟨L2, h2⟩ := s.ev (P := P) h o.type (x := y) (by rw [ho]; simp [Op.operands, Call.operands])
  rw [e1] at h1
  obtain ⟨ad, hv⟩ := h1.of_ce
  unfold appNewSem at hk
  split at hk
  case h_2 => exact hk.elim
  rename_i e ow ls more d hu e2 hd
  rw [e2] at h2
  split at hk
  case h_2 => exact hk.elim
  rename_i es i hes hi hfree
  cases hb : (ksEq es ks && ksEq es ls && Nat.beq t u) with
  | false => rw [hb] at hk; exact hk.elim
  | true =>
  rw [hb] at hk
  simp only [cond_true] at hk
  rw [Bool.and_eq_true, Bool.and_eq_true] at hb
  obtain rfl := ksEq_eq hb.1.1
  obtain rfl := ksEq_eq hb.1.2
  obtain rfl := Nat.eq_of_beq_eq_true hb.2
  obtain ⟨⟨hpos, hbytes, hmax⟩, _, hk⟩ := hk
  obtain ⟨i', z, hi', hz, hsz, hk1, hzs⟩ := elemKs_spec hes
  rw [hi] at hi'
  cases hi'
  obtain ⟨⟨ya, yc, hy⟩, hsrcs⟩ := source_cells (P := P) (show SRel G w L2 es more (a.eval y) from h2)
  have hex : ∀ r w1, (Builtin.append_ #[t, t] o.type #[a.eval x, a.eval y]).run P w = .ok r w1 → (execOp a.eval o).run P w = .ok (.value r) w1 := by
    intro r w1 hr
    unfold execOp
    simp only [ho, resolve, invoke, builtin, Sem.run_bind, Sem.run_pure, Result.andThen_ok, List.map_toArray, List.map_cons, List.map_nil, hr]
  obtain ⟨rows, cap, hrows0, hcap0⟩ : ∃ rows : List (List Int), ∃ cap : Nat, rows = [] ∧ cap = 0 := ⟨[], 0, rfl, rfl⟩
  have hl0 : rows.length = 0 := by rw [hrows0]; rfl
  have hv : a.eval x = .slice ad rows.length cap := by rw [hl0, hcap0]; exact hv
  have hgrow : cap < rows.length + more.length := by omega
  have hbytes : (rows.length + more.length) * i.bytes ≤ 140737488355328 := by rw [hl0, Nat.zero_add]; exact hbytes
  have hmax : rows.length + more.length ≤ maxLen := by rw [hl0, Nat.zero_add]; exact hmax
  have hsl : ∀ w' : World, (∀ b : Nat, w'.heap[b]? = w.heap[b]?) → (Builtin.firstCells es.length rows.length (.slice ad rows.length cap)).run P w' = .ok (flatRows es rows).toArray w' :=
    (source_cells (P := P) (show SRel G w none es rows (.slice ad rows.length cap) from ⟨ad, cap, rfl, by omega, by unfold maxLen; omega, .inl ⟨.inl rfl, hl0, hcap0⟩⟩)).2
  have hncap := growslice_fits hgrow hbytes
  have hgc := grownCap_ge w (rows.length + more.length) cap e
  have hgm := grownCap_le_maxLen w (rows.length + more.length) cap e hmax
  let NC := grownCap w (rows.length + more.length) cap e
  let cur : Array Value := (flatRows es rows ++ flatRows es more ++ (Builtin.zeroCells z.cells (NC - (rows.length + more.length))).toList).toArray
  have hrun : (Builtin.append_ #[t, t] o.type #[a.eval x, a.eval y]).run P w =
      .ok (.slice (some (at_ w.heap.size 0)) (rows.length + more.length) NC) (w.drew.alloc (.cells cur e)) := by
    have hs0 := hsrcs w.drew (fun _ => rfl)
    have hs1 := hsl w.drew (fun _ => rfl)
    rw [hy] at hs0 ⊢
    rw [hv]
    have h48' : ¬ (281474976710656 < Builtin.nextslicecap (rows.length + more.length) cap * i.bytes) := by omega
    have hin : P.underlying t = some (.slice e) := hu
    simp only [Builtin.append_, run_underlying hu, sizeOf, typeInfo, hi, Builtin.lenOf, Sem.run_bind, Sem.run_pure, Result.andThen_ok, run_program, hsz] at hs0 hs1 ⊢
    have hn : ¬ (rows.length + more.length ≤ cap) := by omega
    have hmx : ¬ ((9223372036854775807 : Int) < (rows.length : Int) + (more.length : Int)) := by
      simp only [maxLen] at hmax
      omega
    simp [run_underlying hu, hn, h48', hmx, hi, hsz, hz, Question.forced, hs0, hs1, zeroValue, typeInfo, newRow, at_, NC, grownCap, cur]
    congr 2
    apply Array.ext'
    simp
  have hfl : flatRows es rows = [] := by rw [hrows0]; rfl
  have hcg : ∀ i j, i < more.length → j < es.length → cur[i * es.length + j]? = some (kval (es.getD j 0) ((more.getD i []).getD j 0)) := by
    intro i j hi hj
    have hg := flatRows_get es more i j hi hj
    simp only [cur, hfl, List.nil_append, List.getElem?_toArray]
    rw [List.getElem?_append_left (List.getElem?_eq_some_iff.1 hg).1]
    exact hg
  have hgc : more.length ≤ NC := by
    have : rows.length + more.length ≤ NC := hgc
    omega
  have hcs : NC * es.length ≤ cur.size := by
    simp only [cur, hfl, List.nil_append, List.size_toArray, List.length_append, flatRows_length, Array.length_toList, size_zeroCells, hzs]
    rw [hl0, Nat.zero_add, ← Nat.add_mul]
    exact Nat.mul_le_mul_right _ (by omega)
  have hgm : NC ≤ maxLen := hgm
  rw [hl0, Nat.zero_add] at hrun
  have hm0 : Mem G st.box w.drew := h.mem.same_heap rfl
  have hp0 := Pres.fresh hm0 (.cells cur e) (L := .box (newKey d)) (fixed := false) (key := some (newKey d)) (fun r e => by cases e; exact hfree)
  have hev := Evolves.fresh hm0 (.cells cur e) (L := .box (newKey d)) (fixed := false) (key := some (newKey d)) (fun r e => by cases e; unfold newKey; omega)
  have hm : Mem (G.fresh w.heap.size (.box (newKey d)) false (some (newKey d))) (upd st.box (newKey d) (some [.arr es more NC])) (w.drew.alloc (.cells cur e)) := by
    refine ⟨fun r cells hr => ?_, fun r b hb => ?_, (hm0.fresh_own _).1, (hm0.fresh_own _).2⟩
    · by_cases hrk : r = newKey d
      · subst hrk
        rw [upd_same] at hr
        cases hr
        refine .inr (.inl ⟨_, _, _, rfl, w.heap.size, cur, e, upd_same _ _ _, upd_same _ _ _, alloc_new w.drew _, fun o hi => ?_, ⟨hgc, hcs⟩, hcg⟩)
        rcases hi with hi | ⟨e, _⟩
        · have := h.mem.imm _ _ hi; omega
        · cases e
      · rw [upd_ne _ _ hrk] at hr
        exact (hm0.box r cells hr).pres hp0 trivial (fun _ => trivial)
    · by_cases hrk : r = newKey d
      · subst hrk; exact ⟨_, upd_same _ _ _⟩
      · obtain ⟨cells, hc⟩ := h.mem.beta r b ((upd_ne G.beta (some w.heap.size) hrk).symm.trans hb)
        exact ⟨cells, (upd_ne _ _ hrk).trans hc⟩
  refine wp_value (hex _ _ hrun) ⟨_, _, hk NC ⟨hgc, hgm⟩, ?_, ⟨hev.os, hev.tape, hev.output, hev.size, hev.imm, hev.foreign, hev.beta⟩⟩
  have hp : Pres G w (G.fresh w.heap.size (.box (newKey d)) false (some (newKey d))) (w.drew.alloc (.cells cur e)) (fun _ => True) := Pres.mk hp0.imm hp0.beta (fun b L _ hb => hp0.own b L trivial hb)
  have := h.put s.le (dst := o.dst) (fun d' e => s.dst d' e) hp (fun _ _ => trivial) (own := false) (hv := .ce (.msl (newKey d) more.length NC)) (v := .slice (some (at_ w.heap.size 0)) more.length NC)
    ⟨w.heap.size, upd_same _ _ _, rfl, hgc, hgm⟩ (fun _ _ e => nomatch e) hm (log := st.log)
  rw [hd] at this ⊢
  exact this

/-- elements are appended to a slice whose elements a box holds -/
theorem appMut_sound (h : Rel n G st a w) (s : Sides n o) {x y : Operand} {t u : TypeId} {r m cap : Nat} (ho : o.op = .call { callee := .builtin .append, args := #[x, y], argTypes := #[t, u] })
    (e1 : evalO P st.env o.type x = .ce (.msl r m cap)) (hk : (appMutSem P t u r m cap (evalO P st.env o.type y) st.box o.dst).wp st K) : o.wp P a w (Post n G w K) Q := by
  obtain ⟨L1, h1⟩ := s.ev (P := P) h o.type (x := x) (by rw [ho]; simp [Op.operands, Call.operands])
  obtain ⟨L2, h2⟩ := s.ev (P := P) h o.type (x := y) (by rw [ho]; simp [Op.operands, Call.operands])
  rw [e1] at h1
  obtain ⟨b, hbeta, hv, hc, hcm⟩ := h1.of_ce
  unfold appMutSem at hk
  split at hk
  case h_2 => exact hk.elim
  rename_i e ow ls more d hu e2 hd
  rw [e2] at h2
  split at hk
  case h_2 => exact hk.elim
  rename_i es i ks rows cap2 hes hi hbx hfree
  cases hb : (ksEq es ks && ksEq es ls && Nat.beq t u) with
  | false => rw [hb] at hk; exact hk.elim
  | true =>
  rw [hb] at hk
  simp only [cond_true] at hk
  rw [Bool.and_eq_true, Bool.and_eq_true] at hb
  obtain rfl := ksEq_eq hb.1.1
  obtain rfl := ksEq_eq hb.1.2
  obtain rfl := Nat.eq_of_beq_eq_true hb.2
  obtain ⟨⟨hmr, hcc, hbytes, hmax⟩, _, hk⟩ := hk
  subst hmr
  subst hcc
  obtain ⟨i', z, hi', hz, hsz, hk1, hzs⟩ := elemKs_spec hes
  rw [hi] at hi'
  cases hi'
  obtain ⟨⟨ya, yc, hy⟩, hsrcs⟩ := source_cells (P := P) (show SRel G w L2 es more (a.eval y) from h2)
  obtain ⟨b', vs, T, g1, g2, g3, g4, ⟨g5, g6⟩, g7⟩ := (h.mem.box r _ hbx).arr
  rw [hbeta] at g1
  cases g1
  have hne : newKey d ≠ r := fun e => by rw [e, hbx] at hfree; cases hfree
  have hdn := s.dst d hd
  have hex : ∀ q w1, (Builtin.append_ #[t, t] o.type #[a.eval x, a.eval y]).run P w = .ok q w1 → (execOp a.eval o).run P w = .ok (.value q) w1 := by
    intro q w1 hr
    unfold execOp
    simp only [ho, resolve, invoke, builtin, Sem.run_bind, Sem.run_pure, Result.andThen_ok, List.map_toArray, List.map_cons, List.map_nil, hr]
  have hnob : G.beta (newKey d) = none := h.mem.no_beta hfree
  by_cases hroom : rows.length + more.length ≤ cap
  · -- there is room
    let cur' : Array Value := (vs.toList.take (rows.length * es.length) ++ flatRows es more ++ vs.toList.drop (rows.length * es.length + (flatRows es more).length)).toArray
    have hfit2 : rows.length * es.length + (flatRows es more).length ≤ vs.size := by
      rw [flatRows_length]
      have : (rows.length + more.length) * es.length ≤ cap * es.length := Nat.mul_le_mul_right _ hroom
      rw [Nat.add_mul] at this
      omega
    have hrun : (Builtin.append_ #[t, t] o.type #[a.eval x, a.eval y]).run P w = .ok (.slice (some (at_ b 0)) (rows.length + more.length) cap) (w.setRow b cur') := by
      have hs0 := hsrcs w (fun _ => rfl)
      have hst := run_storeCells_at P b (rows.length * es.length) T (flatRows es more) 0 vs w g3 (by simpa using hfit2) (flatRows_one es more)
      simp only [Nat.add_zero] at hst
      rw [hy] at hs0 ⊢
      rw [hv]
      simp only [Builtin.append_, run_underlying hu, sizeOf, typeInfo, hi, Builtin.lenOf, Sem.run_bind, Sem.run_pure, Result.andThen_ok, run_program, hsz] at hs0 ⊢
      simp [run_underlying hu, hs0, hroom, at_add, hi, hsz]
      simp only [at_]
      rw [hst]
      rfl
    have hsz' : cur'.size = vs.size := by
      simp only [cur', List.size_toArray, List.length_append, List.length_take, List.length_drop, Array.length_toList]
      omega
    have hget : ∀ q, cur'[q]? = if q < rows.length * es.length then vs[q]? else if q < rows.length * es.length + (flatRows es more).length then (flatRows es more)[q - (rows.length * es.length)]? else vs[q]? := by
      intro q
      have htl : (vs.toList.take (rows.length * es.length)).length = rows.length * es.length := by simp; omega
      simp only [cur', List.getElem?_toArray, List.append_assoc]
      by_cases hq : q < rows.length * es.length
      · rw [if_pos hq, List.getElem?_append_left (by rw [htl]; exact hq), List.getElem?_take, if_pos hq]
        simp
      · rw [if_neg hq, List.getElem?_append_right (by rw [htl]; omega), htl]
        by_cases hq2 : q < rows.length * es.length + (flatRows es more).length
        · rw [if_pos hq2, List.getElem?_append_left (by omega)]
        · rw [if_neg hq2, List.getElem?_append_right (by omega), List.getElem?_drop]
          simp only [Array.getElem?_toList]
          congr 1
          omega
    let G' : Ghost := { G with beta := upd G.beta (newKey d) (some b), owner := upd G.owner b (some (.box (newKey d))) }
    have hblt := h.mem.own b _ g2
    have hcell : ∀ x q, G.imm x q → (w.setRow b cur').cell? (at_ x q) = w.cell? (at_ x q) := by
      intro x q hi
      have hxb : x ≠ b := fun e => by subst e; exact g4 q hi
      exact cell_of_heap (setRow_other w b x cur' hxb) q
    have hp : Pres G w G' (w.setRow b cur') (fun x => x ≠ .box r) := by
      refine ⟨fun x q hi => ⟨hi, hcell x q hi⟩, fun q b2 hq => ?_, fun x L hL hx => ?_⟩
      · have : q ≠ newKey d := fun e => by subst e; rw [hnob] at hq; cases hq
        exact (upd_ne _ _ this).trans hq
      · have hne : x ≠ b := fun e => by subst e; rw [g2] at hx; cases hx; exact hL rfl
        exact ⟨(upd_ne _ _ hne).trans hx, setRow_other w b x cur' hne, fun q hi => hi⟩
    have hev : Evolves G w G' (w.setRow b cur') := by
      refine ⟨rfl, rfl, rfl, by simp, fun x q hi => ⟨hi, hcell x q hi⟩, fun x _ hx => ?_, fun q b2 hq hb2 => ?_⟩
      · have hne : x ≠ b := fun e => by subst e; rw [g2] at hx; cases hx
        exact ⟨(upd_ne _ _ hne).trans hx, setRow_other w b x cur' hne, fun q hi => hi⟩
      · have : q ≠ newKey d := by unfold newKey; omega
        exact (upd_ne _ _ this).symm.trans hb2
    have hmem : Mem G' (boxesTo st.box [(r, []), (newKey d, [.arr es (rows ++ more) cap])]) (w.setRow b cur') := by
      refine ⟨fun q cells hq => ?_, fun q b2 hq => ?_, fun x L hx => ?_, fun x q hi => ?_⟩
      · have hq : upd (upd st.box r (some [])) (newKey d) (some [.arr es (rows ++ more) cap]) q = some cells := hq
        by_cases hqd : q = newKey d
        · subst hqd
          rw [upd_same] at hq
          cases hq
          refine .inr (.inl ⟨_, _, _, rfl, b, cur', T, upd_same _ _ _, upd_same _ _ _, setRow_heap w b vs cur' T _ g3, g4, ⟨by rw [List.length_append]; exact hroom, by rw [hsz']; exact g6⟩, fun i j hi hj => ?_⟩)
          rw [hget]
          by_cases hir : i < rows.length
          · have hlt : i * es.length + j < rows.length * es.length := by
              have : (i + 1) * es.length ≤ rows.length * es.length := Nat.mul_le_mul_right _ hir
              rw [Nat.succ_mul] at this
              omega
            rw [if_pos hlt]
            have e3 : (rows ++ more).getD i [] = rows.getD i [] := by simp [List.getElem?_append_left hir]
            rw [e3]
            exact g7 i j hir hj
          · have hir2 : i - rows.length < more.length := by rw [List.length_append] at hi; omega
            have hg := flatRows_get es more (i - rows.length) j hir2 hj
            have hlt2 : (i - rows.length) * es.length + j < (flatRows es more).length := (List.getElem?_eq_some_iff.1 hg).1
            have hpos : i * es.length + j = rows.length * es.length + ((i - rows.length) * es.length + j) := by
              have : i * es.length = rows.length * es.length + (i - rows.length) * es.length := by rw [← Nat.add_mul]; congr 1; omega
              omega
            rw [hpos, if_neg (by omega), if_pos (by omega), show rows.length * es.length + ((i - rows.length) * es.length + j) - rows.length * es.length = (i - rows.length) * es.length + j by omega, hg]
            congr 2
            simp [List.getElem?_append_right (Nat.le_of_not_lt hir)]
        · rw [upd_ne _ _ hqd] at hq
          by_cases hqr : q = r
          · subst hqr
            rw [upd_same] at hq
            cases hq
            exact .inr (.inr (.inl ⟨rfl, b, hp.beta _ _ hbeta⟩))
          · rw [upd_ne _ _ hqr] at hq
            exact (h.mem.box q cells hq).pres hp (by simp; exact hqr) (fun k => by simp)
      · show ∃ cells, upd (upd st.box r (some [])) (newKey d) (some [.arr es (rows ++ more) cap]) q = some cells
        by_cases hqd : q = newKey d
        · subst hqd; exact ⟨_, upd_same _ _ _⟩
        · rw [upd_ne _ _ hqd]
          by_cases hqr : q = r
          · subst hqr; exact ⟨_, upd_same _ _ _⟩
          · rw [upd_ne _ _ hqr]
            exact h.mem.beta q b2 ((upd_ne _ _ hqd).symm.trans hq)
      · rcases upd_some hx with ⟨rfl, _⟩ | hx
        · simpa using hblt
        · simpa using h.mem.own x L hx
      · simpa using h.mem.imm x q hi
    refine wp_value (hex _ _ hrun) ⟨_, G', hk cap ⟨hroom, hcm⟩, ?_, hev⟩
    have := h.put s.le (dst := o.dst) (fun d' e => s.dst d' e) hp (fun _ _ => by simp) (own := false) (hv := .ce (.msl (newKey d) (rows.length + more.length) cap)) (v := .slice (some (at_ b 0)) (rows.length + more.length) cap)
      ⟨b, upd_same _ _ _, rfl, hroom, hcm⟩ (fun _ _ e => nomatch e) hmem (log := st.log)
    rw [hd] at this ⊢
    exact this
  · -- a new array
    have hgrow : cap < rows.length + more.length := by omega
    have hsl : ∀ w' : World, (∀ b : Nat, w'.heap[b]? = w.heap[b]?) → (Builtin.firstCells es.length rows.length (.slice (some (at_ b 0)) rows.length cap)).run P w' = .ok (flatRows es rows).toArray w' := by
      intro w' hw
      refine run_firstCells_some w' es.length rows.length _ _ _ (flatRows es rows) (flatRows_length es rows) (fun j v hj => ?_)
      have := flatRows_cells (G := { G with imm := fun _ _ => True }) (w := w) (b := b) (off := 0) (ks := es) (rows := rows) (fun i j hi hj => ⟨trivial, by rw [Nat.zero_add, cell_heap _ _ _ g3]; exact g7 i j hi hj⟩) j v hj
      rw [at_add] at this ⊢
      rw [cell_of_heap (hw b)]
      exact this
    have hncap := growslice_fits hgrow hbytes
    have hgc := grownCap_ge w (rows.length + more.length) cap e
    have hgm := grownCap_le_maxLen w (rows.length + more.length) cap e hmax
    let NC := grownCap w (rows.length + more.length) cap e
    let cur : Array Value := (flatRows es rows ++ flatRows es more ++ (Builtin.zeroCells z.cells (NC - (rows.length + more.length))).toList).toArray
    have hrun : (Builtin.append_ #[t, t] o.type #[a.eval x, a.eval y]).run P w =
        .ok (.slice (some (at_ w.heap.size 0)) (rows.length + more.length) NC) (w.drew.alloc (.cells cur e)) := by
      have hs0 := hsrcs w.drew (fun _ => rfl)
      have hs1 := hsl w.drew (fun _ => rfl)
      rw [hy] at hs0 ⊢
      rw [hv]
      have h48' : ¬ (281474976710656 < Builtin.nextslicecap (rows.length + more.length) cap * i.bytes) := by omega
      have hin : P.underlying t = some (.slice e) := hu
      simp only [Builtin.append_, run_underlying hu, sizeOf, typeInfo, hi, Builtin.lenOf, Sem.run_bind, Sem.run_pure, Result.andThen_ok, run_program, hsz] at hs0 hs1 ⊢
      have hn : ¬ (rows.length + more.length ≤ cap) := by omega
      have hmx : ¬ ((9223372036854775807 : Int) < (rows.length : Int) + (more.length : Int)) := by
        simp only [maxLen] at hmax
        omega
      simp only [at_] at hs1
      simp [run_underlying hu, hn, h48', hmx, hi, hsz, hz, Question.forced, hs0, hs1, zeroValue, typeInfo, newRow, at_, NC, grownCap, cur]
      congr 2
      apply Array.ext'
      simp
    have hcs : NC * es.length ≤ cur.size := by
      simp only [cur, List.size_toArray, List.length_append, flatRows_length, Array.length_toList, size_zeroCells, hzs]
      rw [← Nat.add_mul, ← Nat.add_mul]
      exact Nat.mul_le_mul_right _ (by omega)
    have hcg : ∀ i j, i < (rows ++ more).length → j < es.length → cur[i * es.length + j]? = some (kval (es.getD j 0) (((rows ++ more).getD i []).getD j 0)) := by
      intro i j hi hj
      have hg := flat_getD_append es rows more i j hi hj
      simp only [cur, List.getElem?_toArray]
      rw [List.getElem?_append_left (List.getElem?_eq_some_iff.1 hg).1]
      exact hg
    have hm0 : Mem G st.box w.drew := h.mem.same_heap rfl
    have hp0 := Pres.fresh hm0 (.cells cur e) (L := .box (newKey d)) (fixed := false) (key := some (newKey d)) (fun r e => by cases e; exact hfree)
    have hev := Evolves.fresh hm0 (.cells cur e) (L := .box (newKey d)) (fixed := false) (key := some (newKey d)) (fun r e => by cases e; unfold newKey; omega)
    have hmem : Mem (G.fresh w.heap.size (.box (newKey d)) false (some (newKey d))) (boxesTo st.box [(r, []), (newKey d, [.arr es (rows ++ more) NC])]) (w.drew.alloc (.cells cur e)) := by
      refine ⟨fun q cells hq => ?_, fun q b2 hq => ?_, (hm0.fresh_own _).1, (hm0.fresh_own _).2⟩
      · have hq : upd (upd st.box r (some [])) (newKey d) (some [.arr es (rows ++ more) NC]) q = some cells := hq
        by_cases hqd : q = newKey d
        · subst hqd
          rw [upd_same] at hq
          cases hq
          refine .inr (.inl ⟨_, _, _, rfl, w.heap.size, cur, e, upd_same _ _ _, upd_same _ _ _, alloc_new w.drew _, fun o hi => ?_, ⟨by rw [List.length_append]; exact hgc, hcs⟩, hcg⟩)
          rcases hi with hi | ⟨e, _⟩
          · have := h.mem.imm _ _ hi; omega
          · cases e
        · rw [upd_ne _ _ hqd] at hq
          by_cases hqr : q = r
          · subst hqr
            rw [upd_same] at hq
            cases hq
            exact .inr (.inr (.inl ⟨rfl, b, hp0.beta _ _ hbeta⟩))
          · rw [upd_ne _ _ hqr] at hq
            exact (hm0.box q cells hq).pres hp0 trivial (fun _ => trivial)
      · show ∃ cells, upd (upd st.box r (some [])) (newKey d) (some [.arr es (rows ++ more) NC]) q = some cells
        by_cases hqd : q = newKey d
        · subst hqd; exact ⟨_, upd_same _ _ _⟩
        · rw [upd_ne _ _ hqd]
          by_cases hqr : q = r
          · subst hqr; exact ⟨_, upd_same _ _ _⟩
          · rw [upd_ne _ _ hqr]
            exact h.mem.beta q b2 ((upd_ne G.beta (some w.heap.size) hqd).symm.trans hq)
    refine wp_value (hex _ _ hrun) ⟨_, _, hk NC ⟨hgc, hgm⟩, ?_, ⟨hev.os, hev.tape, hev.output, hev.size, hev.imm, hev.foreign, hev.beta⟩⟩
    have hp : Pres G w (G.fresh w.heap.size (.box (newKey d)) false (some (newKey d))) (w.drew.alloc (.cells cur e)) (fun _ => True) := Pres.mk hp0.imm hp0.beta (fun b L _ hb => hp0.own b L trivial hb)
    have := h.put s.le (dst := o.dst) (fun d' e => s.dst d' e) hp (fun _ _ => trivial) (own := false) (hv := .ce (.msl (newKey d) (rows.length + more.length) NC)) (v := .slice (some (at_ w.heap.size 0)) (rows.length + more.length) NC)
      ⟨w.heap.size, upd_same _ _ _, rfl, hgc, hgm⟩ (fun _ _ e => nomatch e) hmem (log := st.log)
    rw [hd] at this ⊢
    exact this

/-- a made slice is fixed -/
theorem frz_sound (h : Rel n G st a w) (s : Sides n o) {v : Value} {r m cap : Nat} (hv : CRel G w none (.msl r m cap) v) (hrun : (execOp a.eval o).run P w = .ok (.value v) w)
    (hk : (frzSem st.box r m o.dst).wp st K) : o.wp P a w (Post n G w K) Q := by
  unfold frzSem at hk
  split at hk
  case h_3 => exact hk.elim
  case h_2 =>
    rename_i ks rows d hbx hd
    obtain ⟨hm, hk⟩ := hk
    obtain ⟨b, h1, h2⟩ := (h.mem.box r _ hbx).fro
    obtain ⟨b', hb, rfl, hcap, hmax⟩ := hv
    rw [h1] at hb
    cases hb
    refine wp_value hrun ⟨_, G, hk, ?_, Evolves.refl _ _⟩
    have hsr : SRel G w none ks rows (.slice (some (at_ b 0)) m cap) := by
      refine ⟨_, cap, by rw [hm], by omega, hmax, .inr ⟨b, 0, rfl, fun i j hi hj => ?_, fun _ e => nomatch e⟩⟩
      rw [Nat.zero_add]
      exact h2 i j hi hj
    have hbx2 : upd st.box r (some [.fro ks rows]) = st.box := by
      funext x
      by_cases hx : x = r
      · subst hx; rw [upd_same]; exact hbx.symm
      · exact upd_ne _ _ hx
    have hmem : Mem G (upd st.box r (some [.fro ks rows])) w := by rw [hbx2]; exact h.mem
    have := h.put s.le (dst := o.dst) (fun d' e => s.dst d' e) (Pres.refl G w (fun _ => True)) (fun _ _ => trivial) (own := false) (hv := .ce (.sl false ks rows)) (v := .slice (some (at_ b 0)) m cap)
      hsr (fun _ _ e => nomatch e) hmem (log := st.log)
    rw [hd] at this ⊢
    exact this
  rename_i ks rows capA d hbx hd
  obtain ⟨hm, hk⟩ := hk
  obtain ⟨b, vs, T, h1, h2, h3, h4, h5, h6⟩ := (h.mem.box r _ hbx).arr
  obtain ⟨b', hb, rfl, hcap, hmax⟩ := hv
  rw [h1] at hb
  cases hb
  let G' : Ghost := { G with imm := fun x q => G.imm x q ∨ x = b }
  have hp : Pres G w G' w (fun x => x ≠ .box r) :=
    ⟨fun _ _ hi => ⟨.inl hi, rfl⟩, fun _ _ e => e, fun x L hL hx => ⟨hx, rfl, fun q hi => hi.elim id fun e => by
      subst e; rw [h2] at hx; cases hx; exact absurd rfl hL⟩⟩
  have hev : Evolves G w G' w := ⟨rfl, rfl, rfl, Nat.le_refl _, fun _ _ hi => ⟨.inl hi, rfl⟩, fun x _ hx => ⟨hx, rfl, fun q hi => hi.elim id fun e => by
    subst e; rw [h2] at hx; cases hx⟩, fun _ _ _ e => e⟩
  have hmem : Mem G' (upd st.box r (some [.fro ks rows])) w := by
    refine ⟨fun r' cells' hr' => ?_, fun r' b' hb' => ?_, h.mem.own, fun x q hi => ?_⟩
    · by_cases hrr : r' = r
      · subst hrr
        rw [upd_same] at hr'
        cases hr'
        exact .inr (.inr (.inr (.inr ⟨_, _, rfl, b, h1, fun i j hi hj => ⟨.inr rfl, by rw [cell_heap _ _ _ h3]; exact h6 i j hi hj⟩⟩)))
      · rw [upd_ne _ _ hrr] at hr'
        exact (h.mem.box r' cells' hr').pres hp (by simp; exact hrr) (fun q => by simp)
    · by_cases hrr : r' = r
      · subst hrr; exact ⟨_, upd_same _ _ _⟩
      · obtain ⟨c', hc'⟩ := h.mem.beta r' b' hb'
        exact ⟨c', (upd_ne _ _ hrr).trans hc'⟩
    · rcases hi with hi | e
      · exact h.mem.imm x q hi
      · subst e; exact h.mem.own _ _ h2
  refine wp_value hrun ⟨_, G', hk, ?_, hev⟩
  have hsr : SRel G' w none ks rows (.slice (some (at_ b 0)) m cap) := by
    refine ⟨_, cap, by rw [hm], by omega, hmax, .inr ⟨b, 0, rfl, fun i j hi hj => ⟨.inr rfl, ?_⟩, fun _ e => nomatch e⟩⟩
    rw [cell_heap _ _ _ h3, Nat.zero_add]
    exact h6 i j hi hj
  have := h.put s.le (dst := o.dst) (fun d' e => s.dst d' e) hp (fun _ _ => by simp) (own := false) (hv := .ce (.sl false ks rows)) (v := .slice (some (at_ b 0)) m cap)
    hsr (fun _ _ e => nomatch e) hmem (log := st.log)
  rw [hd] at this ⊢
  exact this
end
end Go.HL
