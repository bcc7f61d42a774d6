/-
  HL, part e: the operations that only compute.
  Conditions: none.
-/
import Derived.Test.YtneingpnkdeooaaHd
namespace Go.HL
open Go

section
variable {P : Program} {n : Nat} {G G' : Ghost} {st : HSt} {a : Act} {w w' : World} {o : Oper} {Q : Exit → Act → World → Prop} {K : HSt → Prop}

/-- the sides that every operation of a region has -/
structure Sides (n : Nat) (o : Oper) : Prop where
  le : n ≤ 100000
  dst : ∀ d, o.dst = some d → d < n
  tmp : ∀ t, .tmp t ∈ o.op.operands.toList → t < 100000

theorem Sides.ev (s : Sides n o) (h : Rel n G st a w) (t : TypeId) {x : Operand} (hx : x ∈ o.op.operands.toList) : ∃ L, VRel G w L (evalO P st.env t x) (a.eval x) :=
  eval_rel h t x (fun d e => s.tmp d (e ▸ hx))

theorem ok_sound (h : Rel n G st a w) (s : Sides n o) {hv : HV} {v : Value} (hv0 : VRel G w none hv v)
    (hrun : (execOp a.eval o).run P w = .ok (.value v) w) (hk : (ok o.dst hv).wp st K) : o.wp P a w (Post n G w K) Q :=
  pure_sound h s.le s.dst hv0 hrun hk

theorem one_sound (h : Rel n G st a w) (s : Sides n o) {hv : HV} {v : Value} {pre : Prop} (hv0 : pre → VRel G w none hv v)
    (hrun : pre → (execOp a.eval o).run P w = .ok (.value v) w) (hk : (OSem.one pre (put o.dst false hv)).wp st K) : o.wp P a w (Post n G w K) Q :=
  pure_sound h s.le s.dst (hv0 hk.1) (hrun hk.1) hk.2

theorem VRel.of_ce {L : Option Loc} {c : HC} {v : Value} (h : VRel G w L (.ce c) v) : CRel G w L c v := h

theorem eqGuard_plain (op : BinOp) (t : TypeId) (x y : Operand) (u v : Value) (hu : u ≠ .nilIface) (hu' : ∀ cs, u ≠ .agg cs) : (eqGuard op t x y u v).run P w = .ok () w := by
  unfold eqGuard
  cases u <;> first | exact absurd rfl hu | exact absurd rfl (hu' _) | (cases op <;> simp)

theorem run_intBin {op : BinOp} {k : IntKind} {x y : Int} (hs : isShift op = false) (xt : TypeId) :
    (binOp op xt (.int k x) (.int k y)).run P w = (match op with
    | .add | .sub | .mul => Op.intArith op k x y
    | .quo | .rem => Op.intDiv op k x y
    | .and | .or | .xor | .andNot => Op.intBits op k x y
    | _ => Op.intCmp op x y).run P w := by
  cases op <;> first | (simp [isShift] at hs; done) | simp [binOp]

theorem run_equalIn_bool (d : Nat) {xt : TypeId} (hu : P.underlying xt = some .bool) (x y : Bool) : (Op.equalIn (d + 1) xt (.bool x) (.bool y)).run P w = .ok (x == y) w := by
  simp [Op.equalIn, run_underlying hu]
theorem run_eql_bool {xt : TypeId} (hu : P.underlying xt = some .bool) (x y : Bool) : (binOp .eql xt (.bool x) (.bool y)).run P w = .ok (.bool (x == y)) w := by
  simp only [binOp]
  simp [Op.equal, Op.maxDepth, run_equalIn_bool 9999 hu x y]
theorem run_neq_bool {xt : TypeId} (hu : P.underlying xt = some .bool) (x y : Bool) : (binOp .neq xt (.bool x) (.bool y)).run P w = .ok (.bool (!(x == y))) w := by
  simp only [binOp]
  simp [Op.equal, Op.maxDepth, run_equalIn_bool 9999 hu x y]

theorem run_isAgg {t : TypeId} {b : Bool} (h : isAggT P t = some b) : (isAgg t).run P w = .ok b w := by
  unfold isAggT at h
  unfold isAgg
  split at h <;> rename_i hu <;> first
    | (cases h; simp [run_underlying hu])
    | (cases h)
  all_goals (rename_i d hns hna; cases d <;> first | exact absurd hu (hns _) | exact absurd hu (hna _ _) | simp [run_underlying hu])

theorem run_sizeOf {t : TypeId} {m : Nat} (h : sizeT P t = some m) : (sizeOf t).run P w = .ok m w := by
  unfold sizeT at h
  cases hi : P.info? t with
  | none => simp [hi] at h
  | some i => simp [hi] at h; subst h; simp [sizeOf, typeInfo, hi]

theorem run_part_agg {t : TypeId} {m : Nat} (ha : isAggT P t = some true) (hs : sizeT P t = some m) (vs : Array Value) (off : Nat) :
    (part t vs off).run P w = .ok (.agg (vs.extract off (off + m))) w := by
  unfold part
  simp [run_isAgg ha, run_sizeOf hs]

theorem run_part_one {t : TypeId} (ha : isAggT P t = some false) {vs : Array Value} {off : Nat} {v : Value} (hv : vs[off]? = some v) :
    (part t vs off).run P w = .ok v w := by
  unfold part
  simp [run_isAgg ha, hv]

theorem cut_spec {cs ps : List HC} {off m : Nat} (h : cut cs off m = some ps) : off + m ≤ cs.length ∧ ps = (cs.drop off).take m := by
  unfold cut at h
  cases hb : Nat.ble (off + m) cs.length with
  | false => rw [hb] at h; cases h
  | true => rw [hb] at h; cases h; exact ⟨Nat.le_of_ble_eq_true hb, rfl⟩

theorem cut_get {cs ps : List HC} {off m : Nat} (h : cut cs off m = some ps) {j : Nat} {c : HC} (hj : ps[j]? = some c) : j < m ∧ cs[off + j]? = some c := by
  obtain ⟨_, rfl⟩ := cut_spec h
  rw [List.getElem?_take] at hj
  split at hj
  · rename_i hlt; exact ⟨hlt, by rw [List.getElem?_drop] at hj; exact hj⟩
  · cases hj

theorem cut_len {cs ps : List HC} {off m : Nat} (h : cut cs off m = some ps) : ps.length = m := by
  obtain ⟨hl, rfl⟩ := cut_spec h
  simp; omega

/-- the value of a type over cells -/
def TVal (P : Program) (G : Ghost) (w : World) (t : TypeId) (cs : List HC) (v : Value) : Prop :=
  (isAggT P t = some true ∧ ARel G w cs v) ∨ (isAggT P t = some false ∧ ∃ c, cs = [c] ∧ CRel G w none c v)

theorem TVal.agg {t : TypeId} {cs : List HC} {v : Value} (h : isAggT P t = some true) (ha : ARel G w cs v) : TVal P G w t cs v := .inl ⟨h, ha⟩

theorem ARel.extract {cs ps : List HC} {vs : Array Value} {off m : Nat} (h : ARel G w cs (.agg vs)) (hc : cut cs off m = some ps) : ARel G w ps (.agg (vs.extract off (off + m))) := by
  obtain ⟨us, hu, hsz, hr⟩ := h
  cases hu
  have hl := (cut_spec hc).1
  refine ⟨_, rfl, by rw [cut_len hc]; simp; omega, fun j c hj => ?_⟩
  obtain ⟨hjm, hcs⟩ := cut_get hc hj
  obtain ⟨u, hu, hr⟩ := hr _ _ hcs
  exact ⟨u, by rw [Array.getElem?_extract]; simp [hu]; omega, hr⟩

/-- a part of an aggregate, as the model takes it -/
theorem run_part {t : TypeId} {b : Bool} {m : Nat} (ha : isAggT P t = some b) (hs : sizeT P t = some m) {cs ps : List HC} {vs : Array Value} {off : Nat} (h : ARel G w cs (.agg vs))
    (hc : cut cs off m = some ps) (h1 : b = false → ∃ c, ps = [c]) : ∃ u, (part t vs off).run P w = .ok u w ∧ TVal P G w t ps u := by
  cases b with
  | true => exact ⟨_, run_part_agg ha hs vs off, .inl ⟨ha, h.extract hc⟩⟩
  | false =>
    obtain ⟨c, rfl⟩ := h1 rfl
    obtain ⟨_, hcs⟩ := cut_get hc (j := 0) (c := c) rfl
    obtain ⟨us, hu, hsz, hr⟩ := h
    cases hu
    obtain ⟨u, hu, hr⟩ := hr _ _ hcs
    exact ⟨u, run_part_one ha hu, .inr ⟨ha, c, rfl, hr⟩⟩

theorem eqT_isAgg {f : Nat} {t : TypeId} {cs ds : List HC} {r : Bool} (h : eqT P f t cs ds = some r) : ∃ b, isAggT P t = some b ∧ (b = false → (∃ c, cs = [c]) ∧ ∃ d, ds = [d]) := by
  cases f with
  | zero => cases h
  | succ f =>
    unfold eqT at h
    split at h
    · rename_i hu
      refine ⟨false, by simp [isAggT, hu], fun _ => ?_⟩
      split at h
      · exact ⟨⟨_, rfl⟩, ⟨_, rfl⟩⟩
      · cases h
    · rename_i hu
      refine ⟨false, by simp [isAggT, hu], fun _ => ?_⟩
      split at h
      · exact ⟨⟨_, rfl⟩, ⟨_, rfl⟩⟩
      · cases h
    · rename_i hu; exact ⟨true, by simp [isAggT, hu], fun e => nomatch e⟩
    · rename_i hu; exact ⟨true, by simp [isAggT, hu], fun e => nomatch e⟩
    · cases h

theorem run_forIn_all (R : Nat → Bool) (m : Nat) (B : Nat → Option Bool × PUnit → Sem (ForInStep (Option Bool × PUnit)))
    (hB : ∀ i s, i < m → (B i s).run P w = .ok (if R i then .yield (none, PUnit.unit) else .done (some false, PUnit.unit)) w) :
    ∀ k i, i + k ≤ m → (forIn (List.range' i k) ((none : Option Bool), PUnit.unit) B).run P w = .ok (if (List.range' i k).all R then (none, PUnit.unit) else (some false, PUnit.unit)) w := by
  intro k
  induction k with
  | zero => intro i _; simp
  | succ k ih =>
    intro i hi
    rw [List.range'_succ, List.forIn_cons]
    simp only [Sem.run_bind, hB i _ (by omega), Result.andThen_ok]
    cases hr : R i
    · simp [hr]
    · simp only [if_true]
      rw [ih (i + 1) (by omega)]
      simp only [List.all_cons, hr, Bool.true_and]

theorem run_equalIn_array (d : Nat) {t e : TypeId} {m s : Nat} (xs ys : Array Value) (ht : P.underlying t = some (.array m e)) (hs : sizeT P e = some s) (R : Nat → Bool)
    (hR : ∀ i, i < m → ∃ u v, (part e xs (i * s)).run P w = .ok u w ∧ (part e ys (i * s)).run P w = .ok v w ∧ (Op.equalIn d e u v).run P w = .ok (R i) w) :
    (Op.equalIn (d + 1) t (.agg xs) (.agg ys)).run P w = .ok ((List.range' 0 m).all R) w := by
  simp only [Op.equalIn, Sem.run_bind, run_underlying ht, Result.andThen_ok, run_sizeOf hs]
  rw [Std.Legacy.Range.forIn_eq_forIn_range']
  rw [show List.range' [:m].start [:m].size [:m].step = List.range' 0 m from by simp [Std.Legacy.Range.size]]
  rw [run_forIn_all (P := P) (w := w) R m _ (fun i st hi => ?_) m 0 (by omega)]
  · cases hr : (List.range' 0 m).all R
    · simp
    · simp
  · obtain ⟨u, v, h1, h2, h3⟩ := hR i hi
    simp only [Sem.run_bind, h1, h2, h3, Result.andThen_ok]
    cases R i <;> simp

theorem all_range' (R : Nat → Bool) (k i : Nat) : (List.range' i (k + 1)).all R = (R i && (List.range' (i + 1) k).all R) := by rw [List.range'_succ]; simp

theorem TVal.of_part {t : TypeId} {cs : List HC} {v : Value} (h : TVal P G w t cs v) (hb : isAggT P t = some true) : ∃ vs, v = .agg vs ∧ ARel G w cs (.agg vs) := by
  rcases h with ⟨_, h⟩ | ⟨h, _⟩
  · obtain ⟨vs, rfl, hr⟩ := h; exact ⟨vs, rfl, vs, rfl, hr⟩
  · rw [hb] at h; cases h

theorem TVal.of_one {t : TypeId} {c : HC} {v : Value} (h : TVal P G w t [c] v) (hb : isAggT P t = some false) : CRel G w none c v := by
  rcases h with ⟨h, _⟩ | ⟨_, c', he, hr⟩
  · rw [hb] at h; cases h
  · cases he; exact hr

theorem run_eqT : ∀ (f : Nat) (t : TypeId) (cs ds : List HC) (r : Bool), eqT P f t cs ds = some r → ∀ (d : Nat) (u v : Value), TVal P G w t cs u → TVal P G w t ds v →
    (Op.equalIn (d + f) t u v).run P w = .ok r w := by
  intro f
  induction f with
  | zero => intro t cs ds r h; cases h
  | succ f ih =>
    intro t cs ds r h d u v hu hv
    show (Op.equalIn ((d + f) + 1) t u v).run P w = .ok r w
    have h' := h
    unfold eqT at h
    split at h
    · rename_i ht
      have hag : isAggT P t = some false := by simp [isAggT, ht]
      split at h
      · rename_i x y
        split at h
        · rename_i a1 _ b1 _ ha hb
          cases h
          have h1 := isBool_rel (hu.of_one hag) ha
          have h2 := isBool_rel (hv.of_one hag) hb
          subst h1; subst h2
          exact run_equalIn_bool _ ht _ _
        · cases h
      · cases h
    · rename_i k0 ht
      have hag : isAggT P t = some false := by simp [isAggT, ht]
      split at h
      · rename_i x y
        split at h
        · rename_i j1 a1 _ k1 b1 _ ha hb
          cases hk : kEq j1 k1 with
          | false => rw [hk] at h; cases h
          | true =>
            rw [hk] at h
            cases h
            obtain rfl := kEq_eq hk
            have h1 := isNum_rel (hu.of_one hag) ha
            have h2 := isNum_rel (hv.of_one hag) hb
            subst h1; subst h2
            exact run_equalIn_int w _ t _ _ _ _ ht
        · cases h
      · cases h
    · rename_i fs ht
      have hag : isAggT P t = some true := by simp [isAggT, ht]
      obtain ⟨us, rfl, hus⟩ := hu.of_part hag
      obtain ⟨vs, rfl, hvs⟩ := hv.of_part hag
      cases hst : P.stoodInHeld t with
      | true => rw [hst] at h; cases h
      | false =>
        rw [hst] at h
        simp only [cond_false] at h
        have hf : P.fieldsOf t = fs := by simp [Program.fieldsOf, ht]
        rw [run_equalIn_struct w (d + f) t us vs (by rw [hf]; exact ht) hst, hf]
        generalize fs.toList = l at h
        clear ht h' hf
        induction l generalizing r with
        | nil => simp [eqFields] at h; subst h; simp [Op.eqFields]
        | cons x l ihl =>
          unfold eqFields at h
          cases hn : (x.name == "_") with
          | true => rw [hn] at h; cases h
          | false =>
            rw [hn] at h
            simp only [cond_false] at h
            split at h
            · rename_i m hm
              split at h
              · rename_i pa pb hca hcb
                split at h
                · rename_i q1 q2 hq1 hq2
                  cases h
                  obtain ⟨b, hb, h1⟩ := eqT_isAgg hq1
                  obtain ⟨u1, hu1, ht1⟩ := run_part (P := P) hb hm hus hca (fun e => (h1 e).1)
                  obtain ⟨v1, hv1, ht2⟩ := run_part (P := P) hb hm hvs hcb (fun e => (h1 e).2)
                  have hq := ih x.type pa pb q1 hq1 d u1 v1 ht1 ht2
                  have hname : x.name ≠ "_" := by simpa using hn
                  unfold Op.eqFields
                  rw [if_pos hname]
                  simp only [Sem.run_bind, hu1, hv1, hq, Result.andThen_ok]
                  cases q1
                  · simp
                  · simp only [Bool.not_true, Bool.false_eq_true, if_false, Bool.true_and]
                    exact ihl q2 hq2
                · cases h
              · cases h
            · cases h
    · rename_i m e ht
      have hag : isAggT P t = some true := by simp [isAggT, ht]
      obtain ⟨us, rfl, hus⟩ := hu.of_part hag
      obtain ⟨vs, rfl, hvs⟩ := hv.of_part hag
      split at h
      · rename_i s hs
        have key : ∀ (k i : Nat) (r : Bool), eqElems (eqT P f e) s cs ds i k = some r →
            ∃ R : Nat → Bool, r = (List.range' i k).all R ∧ ∀ j, i ≤ j → j < i + k → ∃ u v, (part e us (j * s)).run P w = .ok u w ∧ (part e vs (j * s)).run P w = .ok v w ∧ (Op.equalIn (d + f) e u v).run P w = .ok (R j) w := by
          intro k
          induction k with
          | zero => intro i r hr; simp [eqElems] at hr; subst hr; exact ⟨fun _ => true, by simp, fun j h1 h2 => by omega⟩
          | succ k ihk =>
            intro i r hr
            unfold eqElems at hr
            split at hr
            · rename_i pa pb hca hcb
              split at hr
              · rename_i q1 q2 hq1 hq2
                cases hr
                obtain ⟨R, hR, hall⟩ := ihk (i + 1) q2 hq2
                obtain ⟨b, hb, h1⟩ := eqT_isAgg hq1
                obtain ⟨u1, hu1, ht1⟩ := run_part (P := P) hb hs hus hca (fun e => (h1 e).1)
                obtain ⟨v1, hv1, ht2⟩ := run_part (P := P) hb hs hvs hcb (fun e => (h1 e).2)
                have hq := ih e pa pb q1 hq1 d u1 v1 ht1 ht2
                refine ⟨fun j => if j = i then q1 else R j, ?_, fun j h1 h2 => ?_⟩
                · rw [all_range', hR]
                  simp only [if_true]
                  congr 1
                  apply Bool.eq_iff_iff.2
                  simp only [List.all_eq_true, List.mem_range'_1]
                  constructor
                  · intro hh j hj; rw [if_neg (by omega)]; exact hh j hj
                  · intro hh j hj; have := hh j hj; rw [if_neg (by omega)] at this; exact this
                · by_cases hji : j = i
                  · subst hji; exact ⟨u1, v1, hu1, hv1, by simpa using hq⟩
                  · obtain ⟨u2, v2, g1, g2, g3⟩ := hall j (by omega) (by omega)
                    exact ⟨u2, v2, g1, g2, by simpa [hji] using g3⟩
              · cases hr
            · cases hr
        obtain ⟨R, rfl, hall⟩ := key m 0 r h
        exact run_equalIn_array (d + f) us vs ht hs R (fun i hi => hall i (by omega) (by omega))
      · cases h
    · cases h

theorem bin_sound (h : Rel n G st a w) (s : Sides n o) {op : BinOp} {xt yt : TypeId} {x y : Operand} (ho : o.op = .binOp op xt x y yt)
    (hk : (binSem P op xt (evalO P st.env xt x) (evalO P st.env xt y) o.dst).wp st K) : o.wp P a w (Post n G w K) Q := by
  obtain ⟨L1, h1⟩ := s.ev (P := P) h xt (x := x) (by rw [ho]; simp [Op.operands])
  obtain ⟨L2, h2⟩ := s.ev (P := P) h xt (x := y) (by rw [ho]; simp [Op.operands])
  have hex : ∀ u v r, a.eval x = u → a.eval y = v → u ≠ .nilIface → (∀ cs, u ≠ .agg cs) → (binOp op xt u v).run P w = .ok r w → (execOp a.eval o).run P w = .ok (.value r) w := by
    intro u v r hu hv hn ha hr
    have he := eqGuard_plain (P := P) (w := w) op xt x y u v hn ha
    unfold execOp
    simp only [ho, hu, hv, Sem.run_bind, he, Result.andThen_ok, hr, Sem.run_pure]
  unfold binSem at hk
  split at hk
  case h_3 => exact hk.elim
  case h_2 _ _ cs ds e1 e2 =>
    rw [e1] at h1
    rw [e2] at h2
    cases hg : P.eqGuardType P.depth xt with
    | true => rw [hg] at hk; exact hk.elim
    | false =>
      rw [hg] at hk
      simp only [cond_false] at hk
      obtain ⟨us, hu, hus⟩ := h1
      obtain ⟨vs, hv, hvs⟩ := h2
      split at hk
      · rename_i r hr hag
        have hq := run_eqT (P := P) (G := G) (w := w) 12 xt cs ds r hr 9988 (.agg us) (.agg vs) (TVal.agg hag ⟨us, rfl, hus⟩) (TVal.agg hag ⟨vs, rfl, hvs⟩)
        refine ok_sound h s (show VRel G w none (.ce (.bool r)) (.bool r) from rfl) ?_ hk
        have he := run_eqGuard_agg (P := P) w .eql xt x y us vs hg
        unfold execOp
        simp only [ho, hu, hv, Sem.run_bind, he, Result.andThen_ok, run_eql_struct, hq, Sem.run_pure]
      · rename_i r hr hag
        have hq := run_eqT (P := P) (G := G) (w := w) 12 xt cs ds r hr 9988 (.agg us) (.agg vs) (TVal.agg hag ⟨us, rfl, hus⟩) (TVal.agg hag ⟨vs, rfl, hvs⟩)
        refine ok_sound h s (show VRel G w none (.ce (.bool (!r))) (.bool (!r)) from rfl) ?_ hk
        have he := run_eqGuard_agg (P := P) w .neq xt x y us vs hg
        unfold execOp
        simp only [ho, hu, hv, Sem.run_bind, he, Result.andThen_ok, run_neq_struct, hq, Sem.run_pure]
      · exact hk.elim
  case h_1 _ _ c d e1 e2 =>
  rw [e1] at h1
  rw [e2] at h2
  split at hk
  · rename_i k m u j q v hc hd
    have hx := isNum_rel h1.of_ce hc
    have hy := isNum_rel h2.of_ce hd
    cases hsh : isShift op with
    | true =>
      rw [hsh] at hk
      simp only [cond_true] at hk
      cases op <;> simp [isShift] at hsh
      · refine one_sound h s (fun _ => intRes_rel _ _ _) (fun hp => hex _ _ _ hx hy (by simp) (by simp) ?_) hk
        simp [binOp, Op.shift, show ¬ q < 0 by omega]
      · refine one_sound h s (fun _ => intRes_rel _ _ _) (fun hp => hex _ _ _ hx hy (by simp) (by simp) ?_) hk
        simp [binOp, Op.shift, show ¬ q < 0 by omega]
    | false =>
      rw [hsh] at hk
      simp only [cond_false] at hk
      cases hkj : kEq k j with
      | false => rw [hkj] at hk; exact hk.elim
      | true =>
        rw [hkj] at hk
        simp only [cond_true] at hk
        obtain rfl := kEq_eq hkj
        cases op <;> first
          | (exact ok_sound h s (intRes_rel _ _ _) (hex _ _ _ hx hy (by simp) (by simp) (by simp [binOp, Op.intArith, Op.intBits, bitsOp])) hk)
          | (exact ok_sound h s (boolRes_rel _ _) (hex _ _ _ hx hy (by simp) (by simp) (by simp [binOp, Op.intCmp])) hk)
          | (exact one_sound h s (fun _ => intRes_rel _ _ _) (fun hp => hex _ _ _ hx hy (by simp) (by simp) (by simp [binOp, Op.intDiv, show ¬ q = 0 from hp])) hk)
          | exact hk.elim
          | (simp [isShift] at hsh)
  · split at hk
    · rename_i hb hc hu
      have hx := isBool_rel h1.of_ce hb
      have hy := isBool_rel h2.of_ce hc
      exact ok_sound h s (boolRes_rel _ _) (hex _ _ _ hx hy (by simp) (by simp) (run_eql_bool hu _ _)) hk
    · rename_i hb hc hu
      have hx := isBool_rel h1.of_ce hb
      have hy := isBool_rel h2.of_ce hc
      exact ok_sound h s (boolRes_rel _ _) (hex _ _ _ hx hy (by simp) (by simp) (run_neq_bool hu _ _)) hk
    · exact hk.elim

theorem un_sound (h : Rel n G st a w) (s : Sides n o) {op : UnOp} {xt : TypeId} {x : Operand} (ho : o.op = .unOp op xt x)
    (hk : (unSem op (evalO P st.env o.type x) o.dst).wp st K) : o.wp P a w (Post n G w K) Q := by
  obtain ⟨L1, h1⟩ := s.ev (P := P) h o.type (x := x) (by rw [ho]; simp [Op.operands])
  have hex : ∀ u r, a.eval x = u → (Op.unary op u).run P w = .ok r w → (execOp a.eval o).run P w = .ok (.value r) w := by
    intro u r hu hr
    unfold execOp
    simp only [ho, hu, Sem.run_bind, hr, Result.andThen_ok, Sem.run_pure]
  unfold unSem at hk
  split at hk
  case h_2 => exact hk.elim
  case h_1 c e1 =>
  rw [e1] at h1
  split at hk
  · rename_i hc
    exact ok_sound h s (intRes_rel _ _ _) (hex _ _ (isNum_rel h1.of_ce hc) (by simp [Op.unary, Op.intArith])) hk
  · rename_i hc
    exact ok_sound h s (intRes_rel _ _ _) (hex _ _ (isNum_rel h1.of_ce hc) (by simp [Op.unary, Op.intBits, bitsOp])) hk
  · rename_i hc
    exact ok_sound h s (boolRes_rel _ _) (hex _ _ (isBool_rel h1.of_ce hc) (by simp [Op.unary])) hk
  · exact hk.elim

theorem convert_sound (h : Rel n G st a w) (s : Sides n o) {t1 t2 : TypeId} {x : Operand} (ho : o.op = .convert t1 t2 x)
    (hk : (match P.underlying t1, P.underlying t2, evalO P st.env o.type x with
    | some _, some (.int k), .ce c => match isNum c with
      | some (_, n, u) => ok o.dst (intRes k u (k.wrap n))
      | none => .fail
    | _, _, _ => .fail : OSem).wp st K) : o.wp P a w (Post n G w K) Q := by
  obtain ⟨L1, h1⟩ := s.ev (P := P) h o.type (x := x) (by rw [ho]; simp [Op.operands])
  split at hk
  · rename_i d k c hu1 hu2 e1
    rw [e1] at h1
    split at hk
    · rename_i hc
      have hx := isNum_rel h1.of_ce hc
      refine ok_sound h s (intRes_rel _ _ _) ?_ hk
      unfold execOp
      simp only [ho, hx, convert, Sem.run_bind, run_underlying hu1, run_underlying hu2, Result.andThen_ok]
      cases d <;> simp [Conv.intToInt]
    · exact hk.elim
  · exact hk.elim

theorem pick_sound (h : Rel n G st a w) (s : Sides n o) {c x y : Operand} (ho : o.op = .pick c x y)
    (hk : (match evalO P st.env o.type c with
    | .ce (.lit true) => ok o.dst (evalO P st.env o.type x).dis
    | .ce (.lit false) => ok o.dst (evalO P st.env o.type y).dis
    | _ => .fail : OSem).wp st K) : o.wp P a w (Post n G w K) Q := by
  obtain ⟨L0, h0⟩ := s.ev (P := P) h o.type (x := c) (by rw [ho]; simp [Op.operands])
  obtain ⟨L1, h1⟩ := s.ev (P := P) h o.type (x := x) (by rw [ho]; simp [Op.operands])
  obtain ⟨L2, h2⟩ := s.ev (P := P) h o.type (x := y) (by rw [ho]; simp [Op.operands])
  split at hk
  · rename_i e
    rw [e] at h0
    have hc : a.eval c = .bool true := h0
    refine ok_sound h s h1.dis ?_ hk
    unfold execOp
    simp [ho, hc, asBool]
  · rename_i e
    rw [e] at h0
    have hc : a.eval c = .bool false := h0
    refine ok_sound h s h2.dis ?_ hk
    unfold execOp
    simp [ho, hc, asBool]
  · exact hk.elim

theorem nilCheck_sound (h : Rel n G st a w) (s : Sides n o) {x : Operand} (ho : o.op = .nilCheck x)
    (hk : (match evalO P st.env o.type x with
    | .ce (.ptr r k) => ok o.dst (.ce (.ptr r k))
    | .ce (.el ks row k) => ok o.dst (.ce (.el ks row k))
    | .ce (.mp r sz i k) => ok o.dst (.ce (.mp r sz i k))
    | _ => .fail : OSem).wp st K) : o.wp P a w (Post n G w K) Q := by
  obtain ⟨L1, h1⟩ := s.ev (P := P) h o.type (x := x) (by rw [ho]; simp [Op.operands])
  split at hk
  · rename_i e
    rw [e] at h1
    obtain ⟨b, hb, hv⟩ := h1.of_ce
    refine ok_sound h s (show VRel G w none (.ce (.ptr _ _)) (a.eval x) from ⟨b, hb, hv⟩) ?_ hk
    unfold execOp
    simp only [ho, hv]
    simp
  · rename_i e
    rw [e] at h1
    obtain ⟨b, o', hv, hj⟩ := h1.of_ce
    refine ok_sound h s (show VRel G w none (.ce (.el _ _ _)) (a.eval x) from ⟨b, o', hv, hj⟩) ?_ hk
    unfold execOp
    simp only [ho, hv]
    simp
  · rename_i e
    rw [e] at h1
    obtain ⟨b, hb, hv⟩ := h1.of_ce
    refine ok_sound h s (show VRel G w none (.ce (.mp _ _ _ _)) (a.eval x) from ⟨b, hb, hv⟩) ?_ hk
    unfold execOp
    simp only [ho, hv]
    simp
  · exact hk.elim

theorem extract_sound (h : Rel n G st a w) (s : Sides n o) {x : Operand} {i : Nat} (ho : o.op = .extract x i)
    (hk : (extractSem (evalO P st.env o.type x) i o.dst).wp st K) : o.wp P a w (Post n G w K) Q := by
  obtain ⟨L1, h1⟩ := s.ev (P := P) h o.type (x := x) (by rw [ho]; simp [Op.operands])
  unfold extractSem at hk
  split at hk
  · rename_i vs e
    rw [e] at h1
    obtain ⟨us, hu, hsz, hr⟩ := h1
    split at hk
    · rename_i q hq
      obtain ⟨u, hu2, hr2⟩ := hr i q hq
      have hv : VRel G w none q.hv u := by cases q <;> exact hr2
      refine ok_sound h s (v := u) hv.dis ?_ hk
      unfold execOp
      simp only [ho, hu, Instr.extract]
      simp [hu2]
    · exact hk.elim
  · exact hk.elim
end

end Go.HL
