/-
  HL, part m: stores.
  Conditions: none.
-/
import Derived.Test.YtneingpnkdeooaaHlb
namespace Go.HL
open Go

section
variable {P : Program} {n : Nat} {G G' : Ghost} {st : HSt} {a : Act} {w w' : World} {o : Oper} {Q : Exit → Act → World → Prop} {K : HSt → Prop}

theorem setAt_length : ∀ (ps cs : List HC) (off : Nat), (setAt cs off ps).length = cs.length
  | [], _, _ => rfl
  | p :: ps, cs, off => by unfold setAt; rw [setAt_length ps]; simp

theorem setAt_get : ∀ (ps cs : List HC) (off j : Nat) (c : HC), (setAt cs off ps)[j]? = some c → (j < off ∨ off + ps.length ≤ j) ∧ cs[j]? = some c ∨ ∃ q p, ps[q]? = some p ∧ j = off + q ∧ c = p.kept.dis
  | [], cs, off, j, c, h => .inl ⟨by simp; omega, h⟩
  | p :: ps, cs, off, j, c, h => by
    unfold setAt at h
    rcases setAt_get ps _ (off + 1) j c h with ⟨h1, h2⟩ | ⟨q, p', h1, h2, h3⟩
    · rw [List.getElem?_set] at h2
      by_cases hj : off = j
      · rw [if_pos hj] at h2
        split at h2
        · cases h2
          exact .inr ⟨0, p, rfl, by omega, rfl⟩
        · cases h2
      · rw [if_neg hj] at h2
        exact .inl ⟨by simp; omega, h2⟩
    · exact .inr ⟨q + 1, p', by simpa using h1, by omega, h3⟩

/-- the row after a store -/
def rowPut (vs : Array Value) (k : Nat) (us : List Value) : Array Value := (vs.toList.take k ++ us ++ vs.toList.drop (k + us.length)).toArray

theorem rowPut_size {vs : Array Value} {k : Nat} {us : List Value} (h : k + us.length ≤ vs.size) : (rowPut vs k us).size = vs.size := by
  simp only [rowPut, List.size_toArray, List.length_append, List.length_take, List.length_drop, Array.length_toList]
  omega

theorem rowPut_get {vs : Array Value} {k : Nat} {us : List Value} (h : k + us.length ≤ vs.size) (j : Nat) :
    (rowPut vs k us)[j]? = if j < k then vs[j]? else if j < k + us.length then us[j - k]? else vs[j]? := by
  have htl : (vs.toList.take k).length = k := by simp; omega
  simp only [rowPut, List.getElem?_toArray, List.append_assoc]
  by_cases hj : j < k
  · rw [if_pos hj, List.getElem?_append_left (by rw [htl]; exact hj), List.getElem?_take, if_pos hj]; simp
  · rw [if_neg hj, List.getElem?_append_right (by rw [htl]; omega), htl]
    by_cases hj2 : j < k + us.length
    · rw [if_pos hj2, List.getElem?_append_left (by omega)]
    · rw [if_neg hj2, List.getElem?_append_right (by omega), List.getElem?_drop]
      simp only [Array.getElem?_toList]
      congr 1
      omega

theorem env_flag {env : Nat → HV} {s : Nat} (x : Nat) (hx : x < 100000) :
    setsTo env [(FL s, .ce (.lit false))] x = env x ∧ flagL (setsTo env [(FL s, .ce (.lit false))]) x = (if x = s then none else flagL env x) := by
  constructor
  · exact upd_ne _ _ (Ne.symm (FL_ne hx))
  · unfold flagL
    show (bif isOwn (upd env (FL s) (.ce (.lit false)) (FL x)) then some (Loc.tmp x) else none) = _
    split
    · rename_i h; subst h; rw [upd_same]; rfl
    · rename_i h; rw [upd_ne _ _ (fun e => h (FL_inj e))]

theorem putRow_get {m : Nat} {row nums : List Int} {off j : Nat} (hj : j < m) : (putRow m row off nums).getD j 0 = if off ≤ j ∧ j < off + nums.length then nums.getD (j - off) 0 else row.getD j 0 := by
  unfold putRow
  have : ((List.range m).map fun j => bif Nat.ble off j && Nat.blt j (off + nums.length) then nums.getD (j - off) 0 else row.getD j 0).getD j 0 =
      (bif Nat.ble off j && Nat.blt j (off + nums.length) then nums.getD (j - off) 0 else row.getD j 0) := by
    simp [List.getD_eq_getElem?_getD, hj]
  rw [this]
  by_cases h1 : off ≤ j
  · by_cases h2 : j < off + nums.length
    · rw [if_pos ⟨h1, h2⟩, Nat.ble_eq_true_of_le h1, show Nat.blt j (off + nums.length) = true from Nat.ble_eq_true_of_le h2]; rfl
    · have : Nat.blt j (off + nums.length) = false := by
        cases hb : Nat.blt j (off + nums.length) with
        | false => rfl
        | true => exact absurd (Nat.le_of_ble_eq_true hb) (by omega)
      rw [if_neg (fun h => h2 h.2), this, Bool.and_false]; rfl
  · have : Nat.ble off j = false := by
      cases hb : Nat.ble off j with
      | false => rfl
      | true => exact absurd (Nat.le_of_ble_eq_true hb) h1
    rw [if_neg (fun h => h1 h.1), this]; rfl

/-- an element of a made slice is set -/
theorem storeArr_sound (h : Rel n G st a w) (s : Sides n o) {t : TypeId} {x y : Operand} (ho : o.op = .store t x y) (hd : o.dst = none) {m r sz i k : Nat} {cs : List HC}
    (hs : sizeT P t = some m) (e1 : evalO P st.env o.type x = .ce (.mp r sz i k)) (hcs : (evalO P st.env o.type y).cells = some cs)
    (hk : (match st.box r with
      | some [.arr ks rows cap] => bif Nat.beq sz ks.length && (Nat.beq cs.length m && Nat.ble (k + m) ks.length) then
          match rowOf ((ks.drop k).take m) cs with
          | some nums => .one (i < rows.length) ⟨[], [(r, [.arr ks (rows.set i (putRow ks.length (rows.getD i []) k nums)) cap])]⟩
          | none => .fail
        else .fail
      | _ => .fail : OSem).wp st K) : o.wp P a w (Post n G w K) Q := by
  obtain ⟨L1, h1⟩ := s.ev (P := P) h o.type (x := x) (by rw [ho]; simp [Op.operands])
  obtain ⟨L2, h2⟩ := s.ev (P := P) h o.type (x := y) (by rw [ho]; simp [Op.operands])
  rw [e1] at h1
  obtain ⟨b, hb, hv⟩ := h1.of_ce
  split at hk
  case h_2 => exact hk.elim
  rename_i ks rows capA hbx
  cases hfit : (Nat.beq sz ks.length && (Nat.beq cs.length m && Nat.ble (k + m) ks.length)) with
  | false => rw [hfit] at hk; exact hk.elim
  | true =>
  rw [hfit] at hk
  simp only [cond_true] at hk
  rw [Bool.and_eq_true, Bool.and_eq_true] at hfit
  have hsz := Nat.eq_of_beq_eq_true hfit.1
  have hlen := Nat.eq_of_beq_eq_true hfit.2.1
  have hle := Nat.le_of_ble_eq_true hfit.2.2
  split at hk
  case h_2 => exact hk.elim
  rename_i nums hrow
  obtain ⟨hlt, hk⟩ := hk
  obtain ⟨b', vs, T, g1, g2, g3, g4, g5, g6⟩ := (h.mem.box r _ hbx).arr
  rw [hb] at g1
  cases g1
  subst hsz
  have hcr := cells_rel h2 hcs
  obtain ⟨r1, r2, r3⟩ := rowOf_rel (G := G) (w := w) hrow
  have hnl : nums.length = m := by rw [r2, List.length_take, List.length_drop]; omega
  let us := (a.eval y).cells.toList
  have hul : us.length = m := by have := hcr.1; simp [us]; omega
  have hin : i * ks.length + k + m ≤ vs.size := by
    have h1 : (i + 1) * ks.length ≤ rows.length * ks.length := Nat.mul_le_mul_right _ hlt
    have h2 : rows.length * ks.length ≤ capA * ks.length := Nat.mul_le_mul_right _ g5.1
    rw [Nat.succ_mul] at h1
    omega
  have hfitv : i * ks.length + k + us.length ≤ vs.size := by omega
  have hone : ∀ v ∈ us, v.oneCell' = true := by
    intro v hv
    obtain ⟨j, hj, rfl⟩ := List.getElem_of_mem hv
    have hjl : j < cs.length := by omega
    obtain ⟨u, hu, hr⟩ := hcr.2 j (cs[j]) (by simp [hjl])
    have : us[j]? = some u := by simpa [us] using hu
    rw [List.getElem?_eq_getElem hj] at this
    cases this
    exact CRel.oneCell hr
  have husv : ∀ q, q < m → us[q]? = some (kval (ks.getD (k + q) 0) (nums.getD q 0)) := by
    intro q hq
    have hql : q < cs.length := by omega
    obtain ⟨u, hu, hr⟩ := hcr.2 q (cs[q]) (by simp [hql])
    have h3 := r3 q cs[q] u (by simp [hql]) hr
    have : us[q]? = some u := by simpa [us] using hu
    rw [this, h3]
    have : ((ks.drop k).take m).getD q 0 = ks.getD (k + q) 0 := by simp [List.getD_eq_getElem?_getD, List.getElem?_take, hq]
    rw [this]
  let p := i * ks.length + k
  have hrun : (execOp a.eval o).run P w = .ok .skip (w.setRow b (rowPut vs p us)) := by
    have hst := run_storeCells_at P b p T us 0 vs w g3 (by simpa [p] using hfitv) hone
    simp only [Nat.add_zero] at hst
    have hsz : ¬ ((a.eval y).cells.size ≠ m) := by have : us.length = (a.eval y).cells.size := by simp [us]
                                                   omega
    unfold execOp
    simp only [ho, hv, Instr.storeAt, Instr.sureAddr, storeVar, Sem.run_bind, Sem.run_pure, Result.andThen_ok, run_sizeOf hs]
    rw [if_neg hsz]
    simp only [at_]
    show (((storeCells ⟨b, p, none⟩ us 0).run P w).andThen _) = _
    rw [hst]
    rfl
  have hcell : ∀ x q, G.imm x q → (w.setRow b (rowPut vs p us)).cell? (at_ x q) = w.cell? (at_ x q) := by
    intro x q hi
    have hne : x ≠ b := fun e => by subst e; exact g4 q hi
    exact cell_of_heap (setRow_other w b x _ hne) q
  have hother : ∀ x, x ≠ b → (w.setRow b (rowPut vs p us)).heap[x]? = w.heap[x]? := fun x hne => setRow_other w b x _ hne
  have hsize : (w.setRow b (rowPut vs p us)).heap.size = w.heap.size := by simp
  have hp0 : Pres G w G (w.setRow b (rowPut vs p us)) (fun x => x ≠ .box r) :=
    ⟨fun x q hi => ⟨hi, hcell x q hi⟩, fun _ _ e => e, fun x L hL hx => ⟨hx, hother x (fun e => by subst e; rw [g2] at hx; cases hx; exact hL rfl), fun _ e => e⟩⟩
  have hev0 : Evolves G w G (w.setRow b (rowPut vs p us)) :=
    ⟨rfl, rfl, rfl, by rw [hsize]; exact Nat.le_refl _, fun x q hi => ⟨hi, hcell x q hi⟩, fun x _ hx => ⟨hx, hother x (fun e => by subst e; rw [g2] at hx; cases hx), fun _ e => e⟩, fun _ _ _ e => e⟩
  refine wp_skip' hrun ⟨_, G, hk, ?_, hev0⟩
  rw [hd]
  refine ⟨h.defers, h.size, fun x hx => h.env_of hp0 x hx rfl rfl (.inr ⟨rfl, by simp⟩), ?_⟩
  refine ⟨fun r' c' hr' => ?_, fun r' b' hb' => ?_, fun x L hx => by rw [hsize]; exact h.mem.own x L hx, fun x q hi => by rw [hsize]; exact h.mem.imm x q hi⟩
  · by_cases hrr : r' = r
    · subst hrr
      have hr' : upd st.box r' (some [HC.arr ks (rows.set i (putRow ks.length (rows.getD i []) k nums)) capA]) r' = some c' := hr'
      rw [upd_same] at hr'
      cases hr'
      refine .inr (.inl ⟨_, _, _, rfl, b, rowPut vs p us, T, hb, g2, setRow_heap w b vs _ T _ g3, g4, by rw [rowPut_size hfitv, List.length_set]; exact g5, fun i2 j hi2 hj => ?_⟩)
      rw [List.length_set] at hi2
      rw [rowPut_get hfitv]
      by_cases hii : i2 = i
      · subst hii
        have hset : ((rows.set i2 (putRow ks.length (rows.getD i2 []) k nums)).getD i2 []) = putRow ks.length (rows.getD i2 []) k nums := by simp [List.getD_eq_getElem?_getD, hi2]
        rw [hset, putRow_get hj, hnl]
        by_cases hjk : j < k
        · rw [if_pos (by first | omega | (simp only [p]; omega) | (show _ < _; omega)), if_neg (by omega)]
          exact g6 i2 j hi2 hj
        · by_cases hjm : j < k + m
          · rw [if_neg (by first | omega | (simp only [p]; omega) | (show _ < _; omega)), if_pos (by first | omega | (simp only [p]; omega) | (show _ < _; omega)), if_pos (by omega)]
            have := husv (j - k) (by omega)
            rw [show i2 * ks.length + j - p = j - k by first | omega | (simp only [p]; omega) | (show _ < _; omega), this, show k + (j - k) = j by omega]
          · rw [if_neg (by first | omega | (simp only [p]; omega) | (show _ < _; omega)), if_neg (by first | omega | (simp only [p]; omega) | (show _ < _; omega)), if_neg (by omega)]
            exact g6 i2 j hi2 hj
      · have hset : ((rows.set i (putRow ks.length (rows.getD i []) k nums)).getD i2 []) = rows.getD i2 [] := by
          simp [List.getD_eq_getElem?_getD, List.getElem?_set, Ne.symm hii]
        rw [hset]
        have hne : i2 * ks.length + j < p ∨ p + us.length ≤ i2 * ks.length + j := by
          rcases Nat.lt_or_gt_of_ne hii with hlt2 | hgt2
          · left
            have : (i2 + 1) * ks.length ≤ i * ks.length := Nat.mul_le_mul_right _ hlt2
            rw [Nat.succ_mul] at this
            simp only [p]; omega
          · right
            have : (i + 1) * ks.length ≤ i2 * ks.length := Nat.mul_le_mul_right _ hgt2
            rw [Nat.succ_mul] at this
            simp only [p]; omega
        rcases hne with hne | hne
        · rw [if_pos hne]; exact g6 i2 j hi2 hj
        · rw [if_neg (by omega), if_neg (by omega)]; exact g6 i2 j hi2 hj
    · have hr' : upd st.box r (some [HC.arr ks (rows.set i (putRow ks.length (rows.getD i []) k nums)) capA]) r' = some c' := hr'
      rw [upd_ne _ _ hrr] at hr'
      exact (h.mem.box r' c' hr').pres hp0 (by simp; exact hrr) (fun q => by simp)
  · obtain ⟨c', hc'⟩ := h.mem.beta r' b' hb'
    by_cases hrr : r' = r
    · subst hrr; exact ⟨_, upd_same _ _ _⟩
    · exact ⟨c', (upd_ne _ _ hrr).trans hc'⟩

theorem store_sound (h : Rel n G st a w) (s : Sides n o) {t : TypeId} {x y : Operand} (ho : o.op = .store t x y) (hd : o.dst = none)
    (hk : (storeSem P st.env t (evalO P st.env o.type x) (evalO P st.env o.type y) (tmpOf y) st.box).wp st K) : o.wp P a w (Post n G w K) Q := by
  obtain ⟨L1, h1⟩ := s.ev (P := P) h o.type (x := x) (by rw [ho]; simp [Op.operands])
  obtain ⟨L2, h2⟩ := s.ev (P := P) h o.type (x := y) (by rw [ho]; simp [Op.operands])
  unfold storeSem at hk
  split at hk
  case h_3 => exact hk.elim
  case h_1 => exact storeArr_sound h s ho hd (by assumption) (by assumption) (by assumption) hk
  rename_i m r k cs hs e1 hcs
  rw [e1] at h1
  obtain ⟨b, hb, hv⟩ := h1.of_ce
  split at hk
  case h_2 => exact hk.elim
  rename_i cells hbx0
  obtain ⟨hbx, hstd⟩ := stdB_some hbx0
  cases hfit : (Nat.beq cs.length m && Nat.ble (k + m) cells.length) with
  | false => rw [hfit] at hk; exact hk.elim
  | true =>
    rw [hfit] at hk
    simp only [cond_true] at hk
    rw [Bool.and_eq_true] at hfit
    have hlen := Nat.eq_of_beq_eq_true hfit.1
    have hle := Nat.le_of_ble_eq_true hfit.2
    obtain ⟨b', vs, T, g1, g2, g3, g4, g5, g6⟩ := (h.mem.box r cells hbx).std hstd
    rw [hb] at g1
    cases g1
    have hcr := cells_rel h2 hcs
    let us := (a.eval y).cells.toList
    have hul : us.length = m := by have := hcr.1; simp [us]; omega
    have hfitv : k + us.length ≤ vs.size := by omega
    have hone : ∀ v ∈ us, v.oneCell' = true := by
      intro v hv
      obtain ⟨j, hj, rfl⟩ := List.getElem_of_mem hv
      have hjl : j < cs.length := by omega
      obtain ⟨u, hu, hr⟩ := hcr.2 j (cs[j]) (by simp [hjl])
      have : us[j]? = some u := by simpa [us] using hu
      rw [List.getElem?_eq_getElem hj] at this
      cases this
      exact CRel.oneCell hr
    have hrun : (execOp a.eval o).run P w = .ok .skip (w.setRow b (rowPut vs k us)) := by
      have hst := run_storeCells_at P b k T us 0 vs w g3 (by simpa using hfitv) hone
      simp only [Nat.add_zero] at hst
      have hsz : ¬ ((a.eval y).cells.size ≠ m) := by have : us.length = (a.eval y).cells.size := by simp [us]
                                                     omega
      unfold execOp
      simp only [ho, hv, Instr.storeAt, Instr.sureAddr, storeVar, Sem.run_bind, Sem.run_pure, Result.andThen_ok, run_sizeOf hs]
      rw [if_neg hsz]
      simp only [at_]
      show (((storeCells ⟨b, k, none⟩ us 0).run P w).andThen _) = _
      rw [hst]
      rfl
    -- what the store leaves alone
    have hcell : ∀ x q, G.imm x q → (w.setRow b (rowPut vs k us)).cell? (at_ x q) = w.cell? (at_ x q) := by
      intro x q hi
      have hne : x ≠ b := fun e => by subst e; exact g4 q hi
      exact cell_of_heap (setRow_other w b x _ hne) q
    have hother : ∀ x, x ≠ b → (w.setRow b (rowPut vs k us)).heap[x]? = w.heap[x]? := fun x hne => setRow_other w b x _ hne
    have hsize : (w.setRow b (rowPut vs k us)).heap.size = w.heap.size := by simp
    -- the store's world under the ghost as it was
    have hp0 : Pres G w G (w.setRow b (rowPut vs k us)) (fun x => x ≠ .box r) :=
      ⟨fun x q hi => ⟨hi, hcell x q hi⟩, fun _ _ e => e, fun x L hL hx => ⟨hx, hother x (fun e => by subst e; rw [g2] at hx; cases hx; exact hL rfl), fun _ e => e⟩⟩
    have hev0 : Evolves G w G (w.setRow b (rowPut vs k us)) :=
      ⟨rfl, rfl, rfl, by rw [hsize]; exact Nat.le_refl _, fun x q hi => ⟨hi, hcell x q hi⟩, fun x _ hx => ⟨hx, hother x (fun e => by subst e; rw [g2] at hx; cases hx), fun _ e => e⟩, fun _ _ _ e => e⟩
    -- the boxes afterwards, for a ghost that keeps the rest
    have hmem : ∀ (G' : Ghost) (cells' : List HC), Pres G w G' (w.setRow b (rowPut vs k us)) (fun x => x ≠ .box r ∧ ∀ q, x ≠ .tmp q) → G'.beta = G.beta → G'.owner b = some (.box r) →
        (∀ o, ¬ G'.imm b o) → (∀ x L, G'.owner x = some L → x < w.heap.size) → (∀ x o, G'.imm x o → x < w.heap.size) → cells'.length = cells.length →
        (∀ (j : Nat) (c : HC), cells'[j]? = some c → (j < k ∨ k + m ≤ j) ∧ cells[j]? = some c ∨ ∃ q u, j = k + q ∧ us[q]? = some u ∧ BRel G' (w.setRow b (rowPut vs k us)) r j c u) →
        Mem G' (upd st.box r (some cells')) (w.setRow b (rowPut vs k us)) := by
      intro G' cells' hp hbeta hob hni hown himm hl hc
      refine ⟨fun r' c' hr' => ?_, fun r' b' hb' => ?_, fun x L hx => by rw [hsize]; exact hown x L hx, fun x q hi => by rw [hsize]; exact himm x q hi⟩
      · by_cases hrr : r' = r
        · subst hrr
          rw [upd_same] at hr'
          cases hr'
          refine .inl ⟨b, rowPut vs k us, T, by rw [hbeta]; exact hb, hob, setRow_heap w b vs _ T _ g3, hni, by rw [rowPut_size hfitv, hl]; exact g5, fun j c hj => ?_⟩
          rcases hc j c hj with ⟨hjk, hj2⟩ | ⟨q, u, rfl, hu, hbr⟩
          · obtain ⟨u, hu, hbr⟩ := g6 j c hj2
            refine ⟨u, ?_, hbr.pres hp (by simp)⟩
            rw [rowPut_get hfitv]
            rcases hjk with hjk | hjk
            · rw [if_pos hjk]; exact hu
            · rw [if_neg (by omega), if_neg (by omega)]; exact hu
          · have hq : q < us.length := (List.getElem?_eq_some_iff.1 hu).1
            refine ⟨u, ?_, hbr⟩
            rw [rowPut_get hfitv, if_neg (by omega), if_pos (by omega)]
            simpa using hu
        · rw [upd_ne _ _ hrr] at hr'
          exact (h.mem.box r' c' hr').pres hp ⟨by simp; exact hrr, by simp⟩ (fun q => ⟨by simp, by simp⟩)
      · by_cases hrr : r' = r
        · subst hrr; exact ⟨_, upd_same _ _ _⟩
        · rw [hbeta] at hb'
          obtain ⟨c', hc'⟩ := h.mem.beta r' b' hb'
          exact ⟨c', (upd_ne _ _ hrr).trans hc'⟩
    split at hk
    · -- a slice with its flag
      rename_i own ks rows sl e2 hsrc
      rw [e2] at hcs h2
      cases hcs
      have hm1 : m = 1 := by rw [← hlen]; rfl
      subst hm1
      cases y <;> simp [tmpOf] at hsrc
      rename_i sl'
      subst hsrc
      have hs5 := s.tmp sl' (by rw [ho]; simp [Op.operands])
      have henv := h.env sl' hs5
      have he : evalO P st.env o.type (.tmp sl') = st.env sl' := rfl
      rw [he] at e2
      rw [e2] at henv
      have hsl : SRel G w (flagL st.env sl') ks rows (a.tmps.getD sl' undef) := henv
      have hus1 : us = [a.tmps.getD sl' undef] := by
        have := cells_one (CRel.oneCell (c := .sl own ks rows) hsl)
        show (a.tmps.getD sl' undef).cells.toList = _
        rw [this]
      -- the new state, whatever ghost it is
      have fin : ∀ G', Pres G w G' (w.setRow b (rowPut vs k us)) (fun x => x ≠ .box r ∧ x ≠ .tmp sl') → Evolves G w G' (w.setRow b (rowPut vs k us)) → G'.beta = G.beta → G'.owner b = some (.box r) → (∀ o, ¬ G'.imm b o) →
          (∀ x L, G'.owner x = some L → x < w.heap.size) → (∀ x o, G'.imm x o → x < w.heap.size) → SRel G' (w.setRow b (rowPut vs k us)) (bif isOwn (st.env (FL sl')) then some (.cell r k) else none) ks rows (a.tmps.getD sl' undef) →
          o.wp P a w (Post n G w K) Q := by
        intro G' hp hev hbeta hob hni hown himm hsr
        refine wp_skip' hrun ⟨_, G', hk, ?_, hev⟩
        rw [hd]
        refine ⟨h.defers, h.size, fun x hx => ?_, ?_⟩
        · obtain ⟨q1, q2⟩ := env_flag (env := st.env) (s := sl') x hx
          refine h.env_of hp x hx q1 rfl ?_
          by_cases hxs : x = sl'
          · exact .inl (q2.trans (if_pos hxs))
          · exact .inr ⟨q2.trans (if_neg hxs), by simp, by simp; exact hxs⟩
        · refine hmem G' (cells.set k (.sl (isOwn (st.env (FL sl'))) ks rows)) ⟨hp.imm, hp.beta, fun x L hL hx => hp.own x L ⟨hL.1, hL.2 sl'⟩ hx⟩ hbeta hob hni hown himm (by simp) (fun j c hj => ?_)
          rw [List.getElem?_set] at hj
          by_cases hkj : k = j
          · subst hkj
            rw [if_pos rfl] at hj
            split at hj
            · cases hj
              exact .inr ⟨0, a.tmps.getD sl' undef, rfl, by rw [hus1]; rfl, hsr⟩
            · cases hj
          · rw [if_neg hkj] at hj
            exact .inl ⟨by omega, hj⟩
      have hcase : isOwn (st.env (FL sl')) = false ∨ isOwn (st.env (FL sl')) = true := by cases isOwn (st.env (FL sl')) <;> simp
      have hstay : SRel G (w.setRow b (rowPut vs k us)) none ks rows (a.tmps.getD sl' undef) := SRel.pres (L := none) hp0 (fun _ e => nomatch e) hsl.drop
      rcases hcase with how | how
      · exact fin G ⟨hp0.imm, hp0.beta, fun x L hL hx => hp0.own x L hL.1 hx⟩ hev0 rfl g2 g4 h.mem.own h.mem.imm (by rw [how]; exact hstay)
      · have hfl : flagL st.env sl' = some (.tmp sl') := by unfold flagL; rw [how]; rfl
        rw [hfl] at hsl
        obtain ⟨ad, cap, hv2, hc, hcm, hx⟩ := hsl
        rcases hx with hx | ⟨b2, off, rfl, himm2, hsp⟩
        · exact fin G ⟨hp0.imm, hp0.beta, fun x L hL hx => hp0.own x L hL.1 hx⟩ hev0 rfl g2 g4 h.mem.own h.mem.imm ⟨ad, cap, hv2, hc, hcm, .inl (nilCase hx (fun e => nomatch e))⟩
        · obtain ⟨ho2, cur, E, hh, hfit2, hni⟩ := hsp _ rfl
          have hbb : b2 ≠ b := fun e => by subst e; rw [g2] at ho2; cases ho2
          refine fin (G.give b2 (.cell r k)) ?_ ?_ rfl ((upd_ne _ _ (Ne.symm hbb)).trans g2) g4 (fun x L hx => ?_) h.mem.imm ?_
          · have hg := Pres.give (w := w) (L' := .cell r k) ho2
            exact ⟨hp0.imm, hp0.beta, fun x L hL hx => ⟨(hg.own x L hL.2 hx).1, (hp0.own x L hL.1 hx).2.1, fun _ e => e⟩⟩
          · have hg := Evolves.give (w := w) (L' := .cell r k) ho2
            exact ⟨rfl, rfl, rfl, hev0.size, hev0.imm, fun x hx hxo => ⟨(hg.foreign x hx hxo).1, (hev0.foreign x hx hxo).2.1, fun _ e => e⟩, fun _ _ _ e => e⟩
          · rcases upd_some hx with ⟨rfl, _⟩ | hx
            · exact h.mem.own _ _ ho2
            · exact h.mem.own _ _ hx
          · rw [how]
            refine ⟨_, cap, hv2, hc, hcm, .inr ⟨b2, off, rfl, fun i j hi hj => (himm2 i j hi hj).pres hp0, fun Lc e => ?_⟩⟩
            cases e
            exact ⟨upd_same _ _ _, cur, E, (hother b2 hbb).trans hh, hfit2, hni⟩
    · -- cells as they are
      refine wp_skip' hrun ⟨_, G, hk, ?_, hev0⟩
      rw [hd]
      refine ⟨h.defers, h.size, fun x hx => h.env_of hp0 x hx rfl rfl (.inr ⟨rfl, by simp⟩), ?_⟩
      refine hmem G (setAt cells k cs) ⟨hp0.imm, hp0.beta, fun x L hL hx => hp0.own x L hL.1 hx⟩ rfl g2 g4 h.mem.own h.mem.imm (setAt_length _ _ _) (fun j c hj => ?_)
      rcases setAt_get cs cells k j c hj with ⟨h1, h2⟩ | ⟨q, p, h1, h2, h3⟩
      · exact .inl ⟨by rw [hlen] at h1; exact h1, h2⟩
      · subst h2; subst h3
        obtain ⟨u, hu, hr⟩ := hcr.2 q p h1
        have hr' : CRel G (w.setRow b (rowPut vs k us)) none p u := CRel.pres (L := none) hp0 (fun _ e => nomatch e) hr
        exact .inr ⟨q, u, rfl, by simpa [us] using hu, BRel.of_kd hr' _ _⟩
end

end Go.HL
