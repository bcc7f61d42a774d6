/-
  HL, part f: fields, elements, lengths, aggregates: operations that leave the world alone.
  Conditions: none.
-/
import Derived.Test.YtneingpnkdeooaaHe
namespace Go.HL
open Go

section
variable {P : Program} {n : Nat} {G G' : Ghost} {st : HSt} {a : Act} {w w' : World} {o : Oper} {Q : Exit → Act → World → Prop} {K : HSt → Prop}

theorem ARel.map_dis {cs : List HC} {v : Value} (h : ARel G w cs v) : ARel G w (cs.map HC.dis) v := h.map _ fun _ _ hc => CRel.dis hc

theorem asVal_rel {t : TypeId} {cs : List HC} {hv : HV} {v : Value} (h : asVal P t cs = some hv) (ht : TVal P G w t cs v) : VRel G w none hv v := by
  unfold asVal at h
  rcases ht with ⟨ha, hr⟩ | ⟨ha, c, rfl, hr⟩
  · rw [ha] at h; cases h; exact hr
  · rw [ha] at h; cases h; exact hr

theorem asVal_isAgg {t : TypeId} {cs : List HC} {hv : HV} (h : asVal P t cs = some hv) : ∃ b, isAggT P t = some b ∧ (b = false → ∃ c, cs = [c]) := by
  unfold asVal at h
  split at h
  · rename_i ha; exact ⟨true, ha, fun e => nomatch e⟩
  · rename_i ha
    split at h
    · exact ⟨false, ha, fun _ => ⟨_, rfl⟩⟩
    · cases h
  · cases h

theorem TVal.map_dis {t : TypeId} {cs : List HC} {v : Value} (h : TVal P G w t cs v) : TVal P G w t (cs.map HC.dis) v := by
  rcases h with ⟨ha, hr⟩ | ⟨ha, c, rfl, hr⟩
  · exact .inl ⟨ha, hr.map_dis⟩
  · exact .inr ⟨ha, _, rfl, CRel.dis hr⟩

theorem field_sound (h : Rel n G st a w) (s : Sides n o) {t : TypeId} {x : Operand} {f : Nat} (ho : o.op = .field t x f)
    (hk : (fieldSem P t (evalO P st.env o.type x) f o.dst).wp st K) : o.wp P a w (Post n G w K) Q := by
  obtain ⟨L1, h1⟩ := s.ev (P := P) h o.type (x := x) (by rw [ho]; simp [Op.operands])
  unfold fieldSem at hk
  split at hk
  case h_2 => exact hk.elim
  rename_i fs cs hu e1
  rw [e1] at h1
  obtain ⟨us, hv, hus⟩ := h1
  split at hk
  case h_2 => exact hk.elim
  rename_i fl hf
  split at hk
  case h_2 => exact hk.elim
  rename_i m hm
  split at hk
  case h_2 => exact hk.elim
  rename_i ps hc
  split at hk
  case h_2 => exact hk.elim
  rename_i hv' has
  obtain ⟨b, hb, h2⟩ := asVal_isAgg has
  obtain ⟨u, hu1, ht⟩ := run_part (P := P) (G := G) (w := w) hb hm (vs := us) ⟨us, rfl, hus⟩ hc (fun e => by
    obtain ⟨c, hc'⟩ := h2 e
    cases ps with
    | nil => cases hc'
    | cons p r => cases r with
      | nil => exact ⟨p, rfl⟩
      | cons q r => cases hc')
  refine ok_sound h s (asVal_rel has ht.map_dis) (v := u) ?_ hk
  unfold execOp
  simp only [ho, hv, Instr.field, asAgg, Sem.run_bind, run_underlying hu, Result.andThen_ok, hf, Sem.run_pure, hu1]

theorem sizeT_info {t : TypeId} {m : Nat} (h : sizeT P t = some m) : ∃ i, P.info? t = some i ∧ i.size = m := by
  unfold sizeT at h
  cases hi : P.info? t with
  | none => simp [hi] at h
  | some i => simp [hi] at h; exact ⟨i, rfl, h⟩

theorem fieldAddr_sound (h : Rel n G st a w) (s : Sides n o) {t : TypeId} {x : Operand} {f : Nat} (ho : o.op = .fieldAddr t x f)
    (hk : (fieldAddrSem P t (evalO P st.env o.type x) f o.dst).wp st K) : o.wp P a w (Post n G w K) Q := by
  obtain ⟨L1, h1⟩ := s.ev (P := P) h o.type (x := x) (by rw [ho]; simp [Op.operands])
  unfold fieldAddrSem at hk
  split at hk
  case h_2 => exact hk.elim
  rename_i fs c hu e1
  rw [e1] at h1
  split at hk
  case h_2 => exact hk.elim
  rename_i fl hf
  split at hk
  case h_2 => exact hk.elim
  rename_i m hm
  have hrun : ∀ b o', a.eval x = .pointer (some (at_ b o')) → (execOp a.eval o).run P w = .ok (.value (.pointer (some (at_ b (o' + fl.offset))))) w := by
    intro b o' hv
    unfold execOp
    simp [ho, hv, Instr.fieldAt, Instr.sureAddr, run_underlying hu, hf, fieldPlace, run_sizeOf hm, at_add]
  split at hk
  · rename_i r k
    obtain ⟨b, hb, hv⟩ := h1.of_ce
    exact ok_sound h s (show VRel G w none (.ce (.ptr r (k + fl.offset))) (.pointer (some (at_ b (k + fl.offset)))) from ⟨b, hb, rfl⟩) (hrun b k hv) hk
  · rename_i ks row k
    obtain ⟨b, o', hv, hj⟩ := h1.of_ce
    refine ok_sound h s (show VRel G w none (.ce (.el ks row (k + fl.offset))) (.pointer (some (at_ b (o' + fl.offset)))) from ⟨b, _, rfl, fun j hjl => ?_⟩) (hrun b o' hv) hk
    have := hj (fl.offset + j) (by omega)
    rw [show k + fl.offset + j = k + (fl.offset + j) by omega, show o' + fl.offset + j = o' + (fl.offset + j) by omega]
    exact this
  · rename_i r sz i k
    obtain ⟨b, hb, hv⟩ := h1.of_ce
    exact ok_sound h s (show VRel G w none (.ce (.mp r sz i (k + fl.offset))) (.pointer (some (at_ b (i * sz + k + fl.offset)))) from ⟨b, hb, by rw [Nat.add_assoc]⟩) (hrun b _ hv) hk
  · exact hk.elim

/-! #### indexes -/

theorem altsWp_mem : ∀ {l : List (Prop × Upd)} {p : Prop} {u : Upd}, altsWp st K l → (p, u) ∈ l → p → K (st.app u)
  | [(q, v)], p, u, h, hm, hp => by
    rcases List.mem_cons.1 hm with he | hm
    · cases he; exact h hp
    · cases hm
  | (q, v) :: r :: l, p, u, h, hm, hp => by
    obtain ⟨h1, h2⟩ := h
    rcases List.mem_cons.1 hm with he | hm
    · cases he; exact h1 hp
    · exact altsWp_mem h2 hm hp

theorem idxAlts_mem (i : Int) (f : Nat → Upd) : ∀ {m j : Nat}, j < m → (i = (j : Int), f j) ∈ idxAlts i f m
  | m + 1, j, h => by
    unfold idxAlts
    by_cases hj : j < m
    · exact List.mem_append_left _ (idxAlts_mem i f hj)
    · obtain rfl : j = m := by omega
      exact List.mem_append_right _ (by simp)

theorem idxAlts_at {i : Int} {f : Nat → Upd} {m : Nat} {pre : Prop} (hk : (OSem.alts pre (idxAlts i f m)).wp st K) (hp : pre → 0 ≤ i ∧ i < m) : pre ∧ ∃ j : Nat, i = j ∧ j < m ∧ K (st.app (f j)) := by
  obtain ⟨h1, h2⟩ := hk
  obtain ⟨h3, h4⟩ := hp h1
  obtain ⟨j, rfl⟩ := Int.eq_ofNat_of_zero_le h3
  have hj : j < m := by omega
  exact ⟨h1, j, rfl, hj, altsWp_mem h2 (idxAlts_mem _ f hj) rfl⟩

theorem run_indexAt_arr {t e : TypeId} {len sz : Nat} (hu : P.underlying t = some (.array len e)) (hs : sizeT P e = some sz) (k : IntKind) (b o' j : Nat) (hj : j < len) :
    (Instr.indexAt t (.pointer (some (at_ b o'))) (.int k j)).run P w = .ok (.pointer (some (at_ b (o' + j * sz)))) w := by
  have h2 : (j : Int) < len := by omega
  simp [Instr.indexAt, asIntOf, run_underlying hu, Instr.sureAddr, hj, run_sizeOf hs, at_add]

theorem inLen_spec {i : Int} {len : Nat} (h : inLen i len = true) : 0 ≤ i ∧ i < (len : Int) := by
  unfold inLen at h
  rw [Bool.and_eq_true] at h
  exact ⟨of_decide_eq_true h.1, of_decide_eq_true h.2⟩

theorem indexAddr_sound (h : Rel n G st a w) (s : Sides n o) {t : TypeId} {x ix : Operand} (ho : o.op = .indexAddr t x ix)
    (hk : (indexAddrSem P t (evalO P st.env o.type x) (evalO P st.env o.type ix) o.dst).wp st K) : o.wp P a w (Post n G w K) Q := by
  obtain ⟨L1, h1⟩ := s.ev (P := P) h o.type (x := x) (by rw [ho]; simp [Op.operands])
  obtain ⟨L2, h2⟩ := s.ev (P := P) h o.type (x := ix) (by rw [ho]; simp [Op.operands])
  have hex : ∀ u v r, a.eval x = u → a.eval ix = v → (Instr.indexAt t u v).run P w = .ok r w → (execOp a.eval o).run P w = .ok (.value r) w := by
    intro u v r hu hv hr
    unfold execOp
    simp only [ho, hu, hv, Sem.run_bind, hr, Result.andThen_ok, Sem.run_pure]
  unfold indexAddrSem at hk
  split at hk
  · rename_i len e c ic hu e1 e2
    rw [e1] at h1
    rw [e2] at h2
    split at hk
    case h_2 => exact hk.elim
    rename_i k i kn sz hi hs
    have hiv := isNum_rel h2.of_ce hi
    split at hk
    · rename_i r k'
      obtain ⟨b, hb, hv⟩ := h1.of_ce
      cases kn with
      | true =>
        simp only [cond_true] at hk
        cases hin : inLen i len with
        | false => rw [hin] at hk; exact hk.elim
        | true =>
        rw [hin] at hk
        simp only [cond_true] at hk
        have hp := inLen_spec hin
        refine ok_sound h s (show VRel G w none (.ce (.ptr r (k' + i.toNat * sz))) (.pointer (some (at_ b (k' + i.toNat * sz)))) from ⟨b, hb, rfl⟩) ?_ hk
        obtain ⟨j, rfl⟩ := Int.eq_ofNat_of_zero_le hp.1
        exact hex _ _ _ hv hiv (run_indexAt_arr hu hs k b k' j (by omega))
      | false =>
        simp only [cond_false] at hk
        obtain ⟨hp, j, rfl, hj, hkj⟩ := idxAlts_at hk (fun h => h)
        exact pure_sound h s.le s.dst (show VRel G w none (.ce (.ptr r (k' + j * sz))) (.pointer (some (at_ b (k' + j * sz)))) from ⟨b, hb, rfl⟩) (hex _ _ _ hv hiv (run_indexAt_arr hu hs k b k' j hj)) hkj
    · rename_i ks row k'
      obtain ⟨b, o', hv, hj⟩ := h1.of_ce
      have hrel : ∀ j : Nat, VRel G w none (.ce (.el ks row (k' + j * sz))) (.pointer (some (at_ b (o' + j * sz)))) := fun j =>
        ⟨b, _, rfl, fun q hq => by
          have := hj (j * sz + q) (by omega)
          rw [show k' + j * sz + q = k' + (j * sz + q) by omega, show o' + j * sz + q = o' + (j * sz + q) by omega]
          exact this⟩
      cases kn with
      | true =>
        simp only [cond_true] at hk
        cases hin : inLen i len with
        | false => rw [hin] at hk; exact hk.elim
        | true =>
        rw [hin] at hk
        simp only [cond_true] at hk
        have hp := inLen_spec hin
        refine ok_sound h s (hrel i.toNat) ?_ hk
        obtain ⟨j, rfl⟩ := Int.eq_ofNat_of_zero_le hp.1
        exact hex _ _ _ hv hiv (run_indexAt_arr hu hs k b o' j (by omega))
      | false =>
        simp only [cond_false] at hk
        obtain ⟨hp, j, rfl, hj', hkj⟩ := idxAlts_at hk (fun h => h)
        exact pure_sound h s.le s.dst (hrel j) (hex _ _ _ hv hiv (run_indexAt_arr hu hs k b o' j hj')) hkj
    · exact hk.elim
  · rename_i e ks ll ic hu e1 e2
    rw [e1] at h1
    rw [e2] at h2
    split at hk
    case h_2 => exact hk.elim
    rename_i k i kn hi hs
    have hiv := isNum_rel h2.of_ce hi
    obtain ⟨b, off, cap, hv, hc⟩ := h1.of_ce
    obtain ⟨⟨hp0, hp1⟩, hk⟩ := hk
    obtain ⟨j, rfl⟩ := Int.eq_ofNat_of_zero_le hp0
    have hj : j < ll.length := by omega
    obtain ⟨u, hu1, hu2⟩ := hc j hj
    refine pure_sound h s.le s.dst (show VRel G w none (.ce (.el2 ks (ll.getD (j : Int).toNat []))) (.pointer (some (at_ b (off + j)))) from ⟨b, off + j, u, rfl, hu1, by simpa using hu2⟩) (hex _ _ _ hv hiv ?_) hk
    simp [Instr.indexAt, asIntOf, run_underlying hu, hj, run_sizeOf hs, at_add]
  · rename_i e r m cap ic hu e1 e2
    rw [e1] at h1
    rw [e2] at h2
    split at hk
    case h_2 => exact hk.elim
    rename_i k i kn sz hi hs
    have hiv := isNum_rel h2.of_ce hi
    obtain ⟨b, hb, hv, hcap, hm⟩ := h1.of_ce
    obtain ⟨⟨hp0, hp1⟩, hk⟩ := hk
    obtain ⟨j, rfl⟩ := Int.eq_ofNat_of_zero_le hp0
    have hj : j < m := by omega
    refine pure_sound h s.le s.dst (show VRel G w none (.ce (.mp r sz (j : Int).toNat 0)) (.pointer (some (at_ b (0 + j * sz)))) from ⟨b, hb, by simp⟩) (hex _ _ _ hv hiv ?_) hk
    simp [Instr.indexAt, asIntOf, run_underlying hu, hj, run_sizeOf hs, at_add]
  · rename_i e own ks rows ic hu e1 e2
    rw [e1] at h1
    rw [e2] at h2
    split at hk
    case h_2 => exact hk.elim
    rename_i k i kn sz hi hs
    have hiv := isNum_rel h2.of_ce hi
    cases hsz : Nat.beq sz ks.length with
    | false => rw [hsz] at hk; exact hk.elim
    | true =>
      rw [hsz] at hk
      simp only [cond_true] at hk
      have hsz' := Nat.eq_of_beq_eq_true hsz
      obtain ⟨ad, cap, hv, hcap, hm, hr⟩ := h1.of_ce
      obtain ⟨⟨hp0, hp1⟩, hk⟩ := hk
      obtain ⟨j, rfl⟩ := Int.eq_ofNat_of_zero_le hp0
      have hj : j < rows.length := by omega
      rcases hr with ⟨_, hl, _⟩ | ⟨b, off, rfl, hcells, _⟩
      · omega
      · refine pure_sound h s.le s.dst (show VRel G w none (.ce (.el ks (rows.getD (j : Int).toNat []) 0)) (.pointer (some (at_ b (off + j * ks.length)))) from ⟨b, off + j * ks.length, rfl, fun q hq => ?_⟩) (hex _ _ _ hv hiv ?_) hk
        · have := hcells j q hj (by omega)
          simp only [Nat.zero_add, Int.toNat_natCast]
          rw [Nat.add_assoc]
          exact this
        · simp [Instr.indexAt, asIntOf, run_underlying hu, hj, run_sizeOf hs, at_add, hsz']
  · exact hk.elim

theorem arrIdx_sound (h : Rel n G st a w) (s : Sides n o) {t : TypeId} {x ix : Operand} {r : Nat} (ho : o.op = .indexAddr t x ix) (e1 : evalO P st.env o.type x = .ce (.ptr r 0))
    (hk : (arrIdxSem P t r (evalO P st.env o.type ix) o.dst).wp st K) : o.wp P a w (Post n G w K) Q := by
  obtain ⟨L1, h1⟩ := s.ev (P := P) h o.type (x := x) (by rw [ho]; simp [Op.operands])
  obtain ⟨L2, h2⟩ := s.ev (P := P) h o.type (x := ix) (by rw [ho]; simp [Op.operands])
  rw [e1] at h1
  have hex : ∀ u v r, a.eval x = u → a.eval ix = v → (Instr.indexAt t u v).run P w = .ok r w → (execOp a.eval o).run P w = .ok (.value r) w := by
    intro u v r hu hv hr
    unfold execOp
    simp only [ho, hu, hv, Sem.run_bind, hr, Result.andThen_ok, Sem.run_pure]
  unfold arrIdxSem at hk
  split at hk
  case h_2 => exact hk.elim
  rename_i len e ic hu e2
  rw [e2] at h2
  split at hk
  case h_2 => exact hk.elim
  rename_i k i kn sz hi hs
  have hiv := isNum_rel h2.of_ce hi
  obtain ⟨b, hb, hv⟩ := h1.of_ce
  refine one_sound h s (fun _ => (show VRel G w none (.ce (.mp r sz i.toNat 0)) (.pointer (some (at_ b (0 + i.toNat * sz)))) from ⟨b, hb, by simp⟩)) (fun hp => ?_) hk
  obtain ⟨j, rfl⟩ := Int.eq_ofNat_of_zero_le hp.1
  exact hex _ _ _ hv hiv (run_indexAt_arr hu hs k b 0 j (by omega))

theorem strIdx_sound (h : Rel n G st a w) (s : Sides n o) {t : TypeId} {str : ByteArray} {ix : Operand} (ho : o.op = .index t (.const (.string str)) ix)
    (hk : (strIdxSem P t str (evalO P st.env o.type ix) o.dst).wp st K) : o.wp P a w (Post n G w K) Q := by
  obtain ⟨L2, h2⟩ := s.ev (P := P) h o.type (x := ix) (by rw [ho]; simp [Op.operands])
  unfold strIdxSem at hk
  split at hk
  case h_2 => exact hk.elim
  rename_i ic hu e2
  rw [e2] at h2
  split at hk
  case h_2 => exact hk.elim
  rename_i k i kn hi
  have hiv := isNum_rel h2.of_ce hi
  refine one_sound h s (hv := .ce (.int .u8 (strAt str i.toNat))) (v := .int .u8 (strAt str i.toNat)) (fun _ => rfl) (fun hp => ?_) hk
  have hlt : i.toNat < str.size := by omega
  have hx : a.eval (.const (.string str)) = .string str := rfl
  unfold execOp
  simp only [ho, hx, hiv, Instr.index, asIntOf, Sem.run_bind, Sem.run_pure, run_underlying hu, Result.andThen_ok, if_pos hp.1]
  have hg : str[i.toNat]? = some (str[i.toNat]'hlt) := getElem?_pos str i.toNat hlt
  rw [hg]
  have hd : str.data.getD i.toNat 0 = str[i.toNat]'hlt := by
    have hlt' : i.toNat < str.data.size := hlt
    rw [Array.getD_eq_getD_getElem?, Array.getElem?_eq_getElem hlt']
    rfl
  simp [strAt, hd]

theorem strIdx2_sound (h : Rel n G st a w) (s : Sides n o) {t : TypeId} {str : ByteArray} {x ix : Operand} (ho : o.op = .index t x ix) (e1 : evalO P st.env o.type x = .ce (.str str))
    (hk : (strIdxSem P t str (evalO P st.env o.type ix) o.dst).wp st K) : o.wp P a w (Post n G w K) Q := by
  obtain ⟨L1, h1⟩ := s.ev (P := P) h o.type (x := x) (by rw [ho]; simp [Op.operands])
  obtain ⟨L2, h2⟩ := s.ev (P := P) h o.type (x := ix) (by rw [ho]; simp [Op.operands])
  rw [e1] at h1
  have hx : a.eval x = .string str := h1.of_ce
  unfold strIdxSem at hk
  split at hk
  case h_2 => exact hk.elim
  rename_i ic hu e2
  rw [e2] at h2
  split at hk
  case h_2 => exact hk.elim
  rename_i k i kn hi
  have hiv := isNum_rel h2.of_ce hi
  refine one_sound h s (hv := .ce (.int .u8 (strAt str i.toNat))) (v := .int .u8 (strAt str i.toNat)) (fun _ => rfl) (fun hp => ?_) hk
  have hlt : i.toNat < str.size := by omega
  unfold execOp
  simp only [ho, hx, hiv, Instr.index, asIntOf, Sem.run_bind, Sem.run_pure, run_underlying hu, Result.andThen_ok, if_pos hp.1]
  have hg : str[i.toNat]? = some (str[i.toNat]'hlt) := getElem?_pos str i.toNat hlt
  rw [hg]
  have hd : str.data.getD i.toNat 0 = str[i.toNat]'hlt := by
    have hlt' : i.toNat < str.data.size := hlt
    rw [Array.getD_eq_getD_getElem?, Array.getElem?_eq_getElem hlt']
    rfl
  simp [strAt, hd]

theorem index_sound (h : Rel n G st a w) (s : Sides n o) {t : TypeId} {x ix : Operand} (ho : o.op = .index t x ix)
    (hk : (indexSem P t (evalO P st.env o.type x) (evalO P st.env o.type ix) o.dst).wp st K) : o.wp P a w (Post n G w K) Q := by
  obtain ⟨L1, h1⟩ := s.ev (P := P) h o.type (x := x) (by rw [ho]; simp [Op.operands])
  obtain ⟨L2, h2⟩ := s.ev (P := P) h o.type (x := ix) (by rw [ho]; simp [Op.operands])
  unfold indexSem at hk
  split at hk
  case h_2 => exact hk.elim
  rename_i len e cs ic hu e1 e2
  rw [e1] at h1
  rw [e2] at h2
  obtain ⟨us, hv, hus⟩ := h1
  split at hk
  case h_2 => exact hk.elim
  rename_i k i kn sz hi hs
  have hiv := isNum_rel h2.of_ce hi
  cases hle : (Nat.ble (len * sz) cs.length && elemFits P e sz) with
  | false => rw [hle] at hk; exact hk.elim
  | true =>
    rw [hle] at hk
    simp only [cond_true] at hk
    rw [Bool.and_eq_true] at hle
    obtain ⟨hle, hfits⟩ := hle
    have hle' := Nat.le_of_ble_eq_true hle
    -- an element, its cells there
    have hel : ∀ j : Nat, j < len → ∀ hv', asVal P e (((cs.drop (j * sz)).take sz).map HC.dis) = some hv' →
        ∃ u, VRel G w none hv' u ∧ (a.eval ix = .int k j → (execOp a.eval o).run P w = .ok (.value u) w) := by
      intro j hj hv' has
      have hfit : j * sz + sz ≤ cs.length := by
        have : (j + 1) * sz ≤ len * sz := Nat.mul_le_mul_right _ hj
        rw [Nat.succ_mul] at this
        omega
      have hc : cut cs (j * sz) sz = some ((cs.drop (j * sz)).take sz) := by
        unfold cut
        rw [Nat.ble_eq_true_of_le hfit]
        rfl
      obtain ⟨b, hb, h2⟩ := asVal_isAgg has
      obtain ⟨u, hu1, ht⟩ := run_part (P := P) (G := G) (w := w) hb hs (vs := us) ⟨us, rfl, hus⟩ hc (fun e => by
        obtain ⟨c, hc'⟩ := h2 e
        generalize (cs.drop (j * sz)).take sz = ps at hc'
        cases ps with
        | nil => cases hc'
        | cons p r => cases r with
          | nil => exact ⟨p, rfl⟩
          | cons q r => cases hc')
      refine ⟨u, asVal_rel has ht.map_dis, fun hix => ?_⟩
      unfold execOp
      have h2 : (j : Int) < len := by omega
      simp only [ho, hv, hix, Instr.index, asIntOf, Sem.run_bind, Sem.run_pure, run_underlying hu, Result.andThen_ok]
      simp [hj, run_sizeOf hs, hu1]
    cases kn with
    | true =>
      simp only [cond_true] at hk
      split at hk
      case h_2 => exact hk.elim
      rename_i hv' has
      cases hin : inLen i len with
      | false => rw [hin] at hk; exact hk.elim
      | true =>
      rw [hin] at hk
      simp only [cond_true] at hk
      obtain ⟨hp0, hp1⟩ := inLen_spec hin
      obtain ⟨j, rfl⟩ := Int.eq_ofNat_of_zero_le hp0
      simp only [Int.toNat_natCast] at has
      obtain ⟨u, hr, hrun⟩ := hel j (by omega) hv' has
      exact pure_sound h s.le s.dst hr (hrun hiv) hk
    | false =>
      simp only [cond_false] at hk
      obtain ⟨hp, j, rfl, hj, hkj⟩ := idxAlts_at hk (fun h => h)
      cases has : asVal P e (((cs.drop (j * sz)).take sz).map HC.dis) with
      | some hv' =>
        simp only [has] at hkj
        obtain ⟨u, hr, hrun⟩ := hel j hj hv' has
        exact pure_sound h s.le s.dst hr (hrun hiv) hkj
      | none =>
        exfalso
        have hfit : j * sz + sz ≤ cs.length := by
          have : (j + 1) * sz ≤ len * sz := Nat.mul_le_mul_right _ hj
          rw [Nat.succ_mul] at this
          omega
        unfold asVal at has
        unfold elemFits at hfits
        cases hag : isAggT P e with
        | none => rw [hag] at hfits; cases hfits
        | some b =>
          rw [hag] at has hfits
          cases b with
          | true => cases has
          | false =>
            have h1 : sz = 1 := Nat.eq_of_beq_eq_true hfits
            subst h1
            have hl : (((cs.drop (j * 1)).take 1).map HC.dis).length = 1 := by simp; omega
            generalize ((cs.drop (j * 1)).take 1).map HC.dis = l at hl has
            match l, hl with
            | [x], _ => cases has
end

end Go.HL
