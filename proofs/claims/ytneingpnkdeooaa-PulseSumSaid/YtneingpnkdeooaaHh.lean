/-
  HL, part h: operations that make memory or write to it.
  Conditions: none.
-/
import Derived.Test.YtneingpnkdeooaaHg
namespace Go.HL
open Go

section
variable {P : Program} {n : Nat} {G G' : Ghost} {st : HSt} {a : Act} {w w' : World} {o : Oper} {Q : Exit → Act → World → Prop} {K : HSt → Prop}

theorem cell_heap (w : World) (b o : Nat) {vs : Array Value} {T : TypeId} {fr : Nat × Nat} (h : w.heap[b]? = some (.cells vs T fr)) : w.cell? (at_ b o) = vs[o]? := cell_of_row w b o vs T fr h

theorem cell_of_heap {w w' : World} {b : Nat} (h : w'.heap[b]? = w.heap[b]?) (o : Nat) : w'.cell? (at_ b o) = w.cell? (at_ b o) := by
  simp [World.cell?, at_, h]

theorem alloc_old (w : World) (ob : Obj) (b : Nat) (h : b < w.heap.size) : (w.alloc ob).heap[b]? = w.heap[b]? := by
  show (w.heap.push ob)[b]? = _
  rw [Array.getElem?_push, if_neg (by omega)]

theorem alloc_new (w : World) (ob : Obj) : (w.alloc ob).heap[w.heap.size]? = some ob := by
  show (w.heap.push ob)[w.heap.size]? = _
  rw [Array.getElem?_push, if_pos rfl]

/-! #### a new block -/

/-- a new block, its cells fixed or not, with an owner -/
def Ghost.fresh (G : Ghost) (b : Nat) (L : Loc) (fixed : Bool) (key : Option Nat) : Ghost :=
  { imm := fun x o => G.imm x o ∨ (fixed = true ∧ x = b)
    beta := match key with | some r => upd G.beta r (some b) | none => G.beta
    owner := upd G.owner b (some L) }

theorem Mem.no_beta {bx : Nat → Option (List HC)} (h : Mem G bx w) {r : Nat} (hr : bx r = none) : G.beta r = none := by
  cases hb : G.beta r with
  | none => rfl
  | some b => obtain ⟨cells, hc⟩ := h.beta r b hb; rw [hr] at hc; cases hc

theorem Pres.fresh {bx : Nat → Option (List HC)} (h : Mem G bx w) (ob : Obj) {L : Loc} {fixed : Bool} {key : Option Nat} (hk : ∀ r, key = some r → bx r = none) :
    Pres G w (G.fresh w.heap.size L fixed key) (w.alloc ob) (fun _ => True) := by
  refine ⟨fun b o hi => ⟨.inl hi, cell_of_heap (alloc_old w ob b (h.imm b o hi)) o⟩, fun r b hb => ?_, fun b L' _ hb => ?_⟩
  · cases key with
    | none => exact hb
    | some k =>
      have hne : r ≠ k := fun e => by subst e; rw [h.no_beta (hk r rfl)] at hb; cases hb
      exact (upd_ne _ _ hne).trans hb
  · have hlt := h.own b L' hb
    have hne : b ≠ w.heap.size := by omega
    exact ⟨(upd_ne _ _ hne).trans hb, alloc_old w ob b hlt, fun o hi => hi.elim id fun h2 => absurd h2.2 hne⟩

theorem Evolves.fresh {bx : Nat → Option (List HC)} (h : Mem G bx w) (ob : Obj) {L : Loc} {fixed : Bool} {key : Option Nat} (hkey : ∀ r, key = some r → 500 ≤ r) :
    Evolves G w (G.fresh w.heap.size L fixed key) (w.alloc ob) := by
  refine ⟨rfl, rfl, rfl, by simp, fun b o hi => ⟨.inl hi, cell_of_heap (alloc_old w ob b (h.imm b o hi)) o⟩, fun b hb ho => ?_, fun r b hr hb => ?_⟩
  · have hne : b ≠ w.heap.size := by omega
    exact ⟨(upd_ne _ _ hne).trans ho, alloc_old w ob b hb, fun o hi => hi.elim id fun h2 => absurd h2.2 hne⟩
  · cases key with
    | none => exact hb
    | some k => have := hkey k rfl; exact (upd_ne _ _ (by omega)).symm.trans hb

theorem Mem.fresh_own {bx : Nat → Option (List HC)} (h : Mem G bx w) (ob : Obj) {L : Loc} {fixed : Bool} {key : Option Nat} :
    (∀ b L', (G.fresh w.heap.size L fixed key).owner b = some L' → b < (w.alloc ob).heap.size) ∧ (∀ b o, (G.fresh w.heap.size L fixed key).imm b o → b < (w.alloc ob).heap.size) := by
  constructor
  · intro b L' hb
    rcases upd_some hb with ⟨rfl, _⟩ | hb
    · simp
    · have := h.own b L' hb; simp; omega
  · intro b o hi
    rcases hi with hi | ⟨_, rfl⟩
    · have := h.imm b o hi; simp; omega
    · simp

theorem Mem.fresh_none {bx : Nat → Option (List HC)} (h : Mem G bx w) (ob : Obj) {L : Loc} {fixed : Bool} : Mem (G.fresh w.heap.size L fixed none) bx (w.alloc ob) :=
  ⟨fun r cells hr => (h.box r cells hr).pres (Pres.fresh h ob (key := none) (fun _ e => nomatch e)) trivial (fun _ => trivial), h.beta, (h.fresh_own ob).1, (h.fresh_own ob).2⟩

/-- a new box -/
theorem newBox_sound (h : Rel n G st a w) (s : Sides n o) {cs : List HC} {vs : Array Value} {T : TypeId} (hsz : vs.size = cs.length)
    (hcs : ∀ (j : Nat) (c : HC), cs[j]? = some c → ∃ u, vs[j]? = some u ∧ CRel G w none c u ∧ (∀ r o, BRel G w r o c u))
    (hrun : (execOp a.eval o).run P w = .ok (.value (.pointer (some (at_ w.heap.size 0)))) (w.alloc (.cells vs T)))
    (hk : (newBox st.box o.dst cs).wp st K) : o.wp P a w (Post n G w K) Q := by
  unfold newBox at hk
  split at hk
  case h_2 => exact hk.elim
  rename_i d hd
  split at hk
  case h_2 => exact hk.elim
  rename_i hfree
  have hp := Pres.fresh h.mem (.cells vs T) (L := .box (newKey d)) (fixed := false) (key := some (newKey d)) (fun r e => by cases e; exact hfree)
  have hev := Evolves.fresh h.mem (.cells vs T) (L := .box (newKey d)) (fixed := false) (key := some (newKey d)) (fun r e => by cases e; unfold newKey; omega)
  have hm : Mem (G.fresh w.heap.size (.box (newKey d)) false (some (newKey d))) (upd st.box (newKey d) (some cs)) (w.alloc (.cells vs T)) := by
    refine ⟨fun r cells hr => ?_, fun r b hb => ?_, (h.mem.fresh_own _).1, (h.mem.fresh_own _).2⟩
    · by_cases hrk : r = newKey d
      · subst hrk
        rw [upd_same] at hr
        cases hr
        refine .inl ⟨w.heap.size, vs, T, upd_same _ _ _, upd_same _ _ _, alloc_new w _, fun o hi => ?_, hsz, fun j c hc => ?_⟩
        · rcases hi with hi | ⟨e, _⟩
          · have := h.mem.imm _ _ hi; omega
          · cases e
        · obtain ⟨u, hu, _, hb⟩ := hcs j c hc
          exact ⟨u, hu, (hb _ _).pres hp trivial⟩
      · rw [upd_ne _ _ hrk] at hr
        exact (h.mem.box r cells hr).pres hp trivial (fun _ => trivial)
    · by_cases hrk : r = newKey d
      · subst hrk; exact ⟨cs, upd_same _ _ _⟩
      · obtain ⟨cells, hc⟩ := h.mem.beta r b ((upd_ne G.beta (some w.heap.size) hrk).symm.trans hb)
        exact ⟨cells, (upd_ne _ _ hrk).trans hc⟩
  refine wp_value hrun ⟨_, _, hk, ?_, hev⟩
  have hd2 := s.dst d hd
  have := h.put s.le (dst := o.dst) (fun d' e => s.dst d' e) hp (fun _ _ => trivial) (own := false) (hv := .ce (.ptr (newKey d) 0)) (v := .pointer (some (at_ w.heap.size 0)))
    ⟨w.heap.size, upd_same _ _ _, rfl⟩ (fun _ _ e => nomatch e) hm (log := st.log)
  rw [hd] at this ⊢
  exact this

/-- a new array that is kept as rows -/
theorem newArr_sound (h : Rel n G st a w) (s : Sides n o) {ks : List Nat} {rows : List (List Int)} {vs : Array Value} {T : TypeId} (hsz : vs.size = rows.length * ks.length)
    (hc : ∀ i j, i < rows.length → j < ks.length → vs[i * ks.length + j]? = some (kval (ks.getD j 0) ((rows.getD i []).getD j 0)))
    (hrun : (execOp a.eval o).run P w = .ok (.value (.pointer (some (at_ w.heap.size 0)))) (w.alloc (.cells vs T)))
    (hk : (newBox st.box o.dst [.arr ks rows rows.length]).wp st K) : o.wp P a w (Post n G w K) Q := by
  unfold newBox at hk
  split at hk
  case h_2 => exact hk.elim
  rename_i d hd
  split at hk
  case h_2 => exact hk.elim
  rename_i hfree
  have hp := Pres.fresh h.mem (.cells vs T) (L := .box (newKey d)) (fixed := false) (key := some (newKey d)) (fun r e => by cases e; exact hfree)
  have hev := Evolves.fresh h.mem (.cells vs T) (L := .box (newKey d)) (fixed := false) (key := some (newKey d)) (fun r e => by cases e; unfold newKey; omega)
  have hm : Mem (G.fresh w.heap.size (.box (newKey d)) false (some (newKey d))) (upd st.box (newKey d) (some [.arr ks rows rows.length])) (w.alloc (.cells vs T)) := by
    refine ⟨fun r cells hr => ?_, fun r b hb => ?_, (h.mem.fresh_own _).1, (h.mem.fresh_own _).2⟩
    · by_cases hrk : r = newKey d
      · subst hrk
        rw [upd_same] at hr
        cases hr
        refine .inr (.inl ⟨_, _, _, rfl, w.heap.size, vs, T, upd_same _ _ _, upd_same _ _ _, alloc_new w _, fun o hi => ?_, ⟨Nat.le_refl _, Nat.le_of_eq hsz.symm⟩, hc⟩)
        rcases hi with hi | ⟨e, _⟩
        · have := h.mem.imm _ _ hi; omega
        · cases e
      · rw [upd_ne _ _ hrk] at hr
        exact (h.mem.box r cells hr).pres hp trivial (fun _ => trivial)
    · by_cases hrk : r = newKey d
      · subst hrk; exact ⟨_, upd_same _ _ _⟩
      · obtain ⟨cells, hc⟩ := h.mem.beta r b ((upd_ne G.beta (some w.heap.size) hrk).symm.trans hb)
        exact ⟨cells, (upd_ne _ _ hrk).trans hc⟩
  refine wp_value hrun ⟨_, _, hk, ?_, hev⟩
  have hd2 := s.dst d hd
  have := h.put s.le (dst := o.dst) (fun d' e => s.dst d' e) hp (fun _ _ => trivial) (own := false) (hv := .ce (.ptr (newKey d) 0)) (v := .pointer (some (at_ w.heap.size 0)))
    ⟨w.heap.size, upd_same _ _ _, rfl⟩ (fun _ _ e => nomatch e) hm (log := st.log)
  rw [hd] at this ⊢
  exact this

theorem isZero_val {k : Nat} {v : Value} (h : isZero k v = true) : v = kval k 0 := by
  unfold isZero at h
  split at h
  · rename_i b
    cases b
    · rfl
    · cases h
  · rw [Bool.and_eq_true] at h
    obtain rfl := kEq_eq h.1
    have := h.2
    simp at this
    subst this
    rfl
  · cases h

theorem areZero_get : ∀ {ks : List Nat} {vs : List Value}, areZero ks vs = true → vs.length = ks.length ∧ ∀ j, j < ks.length → vs[j]? = some (kval (ks.getD j 0) 0)
  | [], [], _ => ⟨rfl, fun j hj => by simp at hj⟩
  | k :: ks, v :: vs, h => by
    unfold areZero at h
    rw [Bool.and_eq_true] at h
    obtain ⟨h1, h2⟩ := areZero_get h.2
    refine ⟨by simp [h1], fun j hj => ?_⟩
    cases j with
    | zero => simp [isZero_val h.1]
    | succ j => simpa using h2 j (by simpa using hj)
  | [], _ :: _, h => by cases h
  | _ :: _, [], h => by cases h

theorem zrow_get : ∀ (ks : List Nat) (j : Nat), (zrow ks).getD j 0 = 0
  | [], j => by simp [zrow]
  | _ :: ks, 0 => rfl
  | _ :: ks, j + 1 => by simpa [zrow] using zrow_get ks j

theorem repl_get (ks : List Nat) : ∀ (n i j : Nat), i < n → j < ks.length → ((List.replicate n ks).flatten).getD (i * ks.length + j) 0 = ks.getD j 0
  | n + 1, 0, j, _, hj => by
    rw [List.replicate_succ, List.flatten_cons, Nat.zero_mul, Nat.zero_add]
    simp [List.getD_eq_getElem?_getD, List.getElem?_append_left hj]
  | n + 1, i + 1, j, hi, hj => by
    rw [List.replicate_succ, List.flatten_cons]
    have ih := repl_get ks n i j (by omega) hj
    rw [List.getD_eq_getElem?_getD, List.getElem?_append_right (by rw [Nat.succ_mul]; omega)]
    rw [show (i + 1) * ks.length + j - ks.length = i * ks.length + j by rw [Nat.succ_mul]; omega]
    rw [← List.getD_eq_getElem?_getD]
    exact ih

theorem alloc_sound (h : Rel n G st a w) (s : Sides n o) {e : TypeId} (ho : o.op = .alloc e) {fz : Bool}
    (hk : (bif fz then (match arrOf P e with
      | some z => newBox st.box o.dst z
      | none => .fail)
    else match zeroCs P e with
    | some z => newBox st.box o.dst z
    | none => .fail : OSem).wp st K) : o.wp P a w (Post n G w K) Q := by
  cases fz with
  | true =>
    simp only [cond_true] at hk
    split at hk
    case h_2 => exact hk.elim
    rename_i z hz
    unfold arrOf at hz
    split at hz
    case h_2 => cases hz
    rename_i m e2 hu
    split at hz
    case h_2 => cases hz
    rename_i ks i hks hi
    split at hz
    case h_2 => cases hz
    rename_i zv hzv
    cases hb : (Nat.beq zv.cells.size i.size && areZero (List.replicate m ks).flatten zv.cells.toList) with
    | false => rw [hb] at hz; cases hz
    | true =>
    rw [hb] at hz
    simp only [cond_true, Option.some.injEq] at hz
    subst hz
    rw [Bool.and_eq_true] at hb
    obtain ⟨hzl, hzg⟩ := areZero_get hb.2
    have hfl : ((List.replicate m ks).flatten).length = m * ks.length := by simp
    refine newArr_sound h s (rows := List.replicate m (zrow ks)) (vs := zv.cells) (T := e) (by rw [List.length_replicate, ← hfl, ← hzl]; simp) (fun i j hi hj => ?_) ?_ ?_
    · rw [List.length_replicate] at hi
      have hlt : i * ks.length + j < ((List.replicate m ks).flatten).length := by
        rw [hfl]
        have : (i + 1) * ks.length ≤ m * ks.length := Nat.mul_le_mul_right _ hi
        rw [Nat.succ_mul] at this
        omega
      have h1 := hzg _ hlt
      rw [repl_get ks m i j hi hj] at h1
      have h2 : ((List.replicate m (zrow ks)).getD i []) = zrow ks := by simp [List.getD_eq_getElem?_getD, hi]
      rw [h2, zrow_get]
      simpa using h1
    · unfold execOp
      simp [ho, Instr.alloc, zeroValue, typeInfo, hi, hzv, newVar, newRow, at_]
    · rw [List.length_replicate]; exact hk
  | false =>
  simp only [cond_false] at hk
  split at hk
  case h_2 => exact hk.elim
  rename_i z hz
  obtain ⟨i, zv, hi, hzv, hsz, hm⟩ := zeroCs_spec hz
  obtain ⟨hl, hr⟩ := zmatches_rel (G := G) (w := w) hm
  refine newBox_sound h s (vs := zv.cells) (T := e) (by simpa using hl) (fun j c hc => ?_) ?_ hk
  · obtain ⟨u, hu, hc⟩ := hr j c hc
    exact ⟨u, by simpa using hu, (hc none).1, (hc none).2⟩
  · unfold execOp
    simp [ho, Instr.alloc, zeroValue, typeInfo, hi, hzv, newVar, newRow, at_]

theorem BRel.of_pd {L : Option Loc} {c : HC} {v : Value} (h : CRel G w L c v) (r o : Nat) : BRel G w r o c.plain.dis v := by
  have hp := CRel.pd h
  cases c with
  | mu ks rows => exact h.elim
  | _ => exact hp

theorem BRel.of_kd {L : Option Loc} {c : HC} {v : Value} (h : CRel G w L c v) (r o : Nat) : BRel G w r o c.kept.dis v := by
  have hp := CRel.kd h
  cases c with
  | mu ks rows => exact h.elim
  | _ => exact hp

theorem box_sound (h : Rel n G st a w) (s : Sides n o) {e : TypeId} {x : Operand} (ho : o.op = .box e x)
    (hk : (match (evalO P st.env o.type x).cells, sizeT P e with
    | some cs, some _ => newBox st.box o.dst (cs.map fun c => c.plain.dis)
    | _, _ => .fail : OSem).wp st K) : o.wp P a w (Post n G w K) Q := by
  obtain ⟨L1, h1⟩ := s.ev (P := P) h o.type (x := x) (by rw [ho]; simp [Op.operands])
  split at hk
  case h_2 => exact hk.elim
  rename_i cs m hc hm
  have hcs := cells_rel h1 hc
  refine newBox_sound h s (vs := (a.eval x).cells) (T := e) (by simpa using hcs.1) (fun j c hj => ?_) ?_ hk
  · rw [List.getElem?_map] at hj
    cases hj2 : cs[j]? with
    | none => simp [hj2] at hj
    | some d =>
      simp [hj2] at hj
      subst hj
      obtain ⟨u, hu, hr⟩ := hcs.2 j d hj2
      exact ⟨u, hu, hr.pd, fun r o => BRel.of_pd hr r o⟩
  · unfold execOp
    simp [ho, Instr.box, newVar, newRow, at_]

/-! #### a slice's literal -/

theorem kval_one (k : Nat) (m : Int) : (kval k m).oneCell' = true := by cases k <;> rfl

theorem rowNum_rel {L : Option Loc} {k : Nat} {c : HC} {v : Value} {m : Int} (h : CRel G w L c v) (hr : rowNum k c = some m) : v = kval k m := by
  cases k with
  | zero =>
    unfold rowNum at hr
    cases hb : isBool c with
    | none => simp [hb] at hr
    | some x =>
      obtain ⟨b, u⟩ := x
      simp [hb] at hr
      rw [isBool_rel h hb, ← hr]
      cases b <;> rfl
  | succ k =>
    simp only [rowNum] at hr
    cases hn : isNum c with
    | none => rw [hn] at hr; cases hr
    | some x =>
      obtain ⟨j, q, u⟩ := x
      rw [hn] at hr
      simp only at hr
      cases hb : Nat.beq (kcode j) (kcode (kk k)) with
      | false => rw [hb] at hr; cases hr
      | true =>
        rw [hb] at hr
        cases hr
        rw [isNum_rel h hn]
        obtain rfl := kEq_eq (j := j) (k := kk k) hb
        rfl

theorem rowOf_rel : ∀ {ks : List Nat} {cs : List HC} {row : List Int}, rowOf ks cs = some row → cs.length = ks.length ∧ row.length = ks.length ∧
    ∀ (j : Nat) (c : HC) (v : Value), cs[j]? = some c → CRel G w none c v → v = kval (ks.getD j 0) (row.getD j 0)
  | [], [], row, h => by cases h; exact ⟨rfl, rfl, fun j c v hc => by simp at hc⟩
  | k :: ks, c :: cs, row, h => by
    unfold rowOf at h
    split at h
    · rename_i m r hm hr
      injection h with h
      subst h
      obtain ⟨h1, h2, h3⟩ := rowOf_rel hr
      refine ⟨by simp [h1], by simp [h2], fun j d v hd hv => ?_⟩
      match j, hd with
      | 0, hd => cases hd; simpa using rowNum_rel hv hm
      | j + 1, hd => simpa using h3 j d v (by simpa using hd) hv
    · cases h
  | [], _ :: _, _, h => by cases h
  | _ :: _, [], _, h => by cases h

/-- rows laid out cell by cell -/
def flatRows (ks : List Nat) : List (List Int) → List Value
  | [] => []
  | r :: rs => (List.range ks.length).map (fun j => kval (ks.getD j 0) (r.getD j 0)) ++ flatRows ks rs

theorem flatRows_length (ks : List Nat) : ∀ rows, (flatRows ks rows).length = rows.length * ks.length
  | [] => by simp [flatRows]
  | r :: rs => by simp [flatRows, flatRows_length ks rs, Nat.succ_mul, Nat.add_comm]

theorem flatRows_get (ks : List Nat) : ∀ (rows : List (List Int)) (i j : Nat), i < rows.length → j < ks.length →
    (flatRows ks rows)[i * ks.length + j]? = some (kval (ks.getD j 0) ((rows.getD i []).getD j 0))
  | r :: rs, 0, j, _, hj => by
    unfold flatRows
    rw [List.getElem?_append_left (by simpa using hj)]
    simp [hj]
  | r :: rs, i + 1, j, hi, hj => by
    unfold flatRows
    rw [List.getElem?_append_right (by simp [Nat.succ_mul]; omega)]
    have : (i + 1) * ks.length + j - ((List.range ks.length).map fun j => kval (ks.getD j 0) (r.getD j 0)).length = i * ks.length + j := by simp [Nat.succ_mul]; omega
    rw [this]
    simpa using flatRows_get ks rs i j (by simpa using hi) hj

theorem flatRows_append (ks : List Nat) (a b : List (List Int)) : flatRows ks (a ++ b) = flatRows ks a ++ flatRows ks b := by
  induction a with
  | nil => rfl
  | cons r rs ih => simp [flatRows, ih]

theorem flatRows_one (ks : List Nat) (rows : List (List Int)) : ∀ u ∈ flatRows ks rows, u.oneCell' = true := by
  induction rows with
  | nil => intro u hu; cases hu
  | cons r rs ih =>
    intro u hu
    unfold flatRows at hu
    rcases List.mem_append.1 hu with hu | hu
    · obtain ⟨j, _, rfl⟩ := List.mem_map.1 hu; exact kval_one _ _
    · exact ih u hu

theorem flatRows_cells {ks : List Nat} {rows : List (List Int)} {b off : Nat}
    (h : ∀ i j, i < rows.length → j < ks.length → ImmC G w b (off + (i * ks.length + j)) (kval (ks.getD j 0) ((rows.getD i []).getD j 0))) :
    ∀ (j : Nat) (u : Value), (flatRows ks rows)[j]? = some u → w.cell? ((at_ b off).add j) = some u := by
  intro j u hu
  have hlt : j < rows.length * ks.length := by
    have := List.getElem?_eq_some_iff.1 hu
    obtain ⟨hl, _⟩ := this
    rwa [flatRows_length] at hl
  have hk : 0 < ks.length := by
    rcases Nat.eq_zero_or_pos ks.length with h0 | h0
    · rw [h0] at hlt; omega
    · exact h0
  have hi : j / ks.length < rows.length := (Nat.div_lt_iff_lt_mul hk).2 hlt
  have hj : j % ks.length < ks.length := Nat.mod_lt _ hk
  have he : j / ks.length * ks.length + j % ks.length = j := by rw [Nat.mul_comm]; exact Nat.div_add_mod j ks.length
  have h1 := flatRows_get ks rows _ _ hi hj
  rw [he, hu] at h1
  have h2 := (h _ _ hi hj).2
  rw [he] at h2
  rw [at_add, h2, ← h1]
end

end Go.HL
