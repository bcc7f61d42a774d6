/-
  HL, part k: lengths, least and greatest numbers, parts of slices, loads and stores.
  Conditions: none.
-/
import Derived.Test.YtneingpnkdeooaaHj
namespace Go.HL
open Go

section
variable {P : Program} {n : Nat} {G G' : Ghost} {st : HSt} {a : Act} {w w' : World} {o : Oper} {Q : Exit → Act → World → Prop} {K : HSt → Prop}

theorem exec_builtin {b : Builtin} {args : Array Operand} {ts : Array TypeId} (ho : o.op = .call { callee := .builtin b, args := args, argTypes := ts }) {r : Value}
    (hr : (builtin b ts o.type (args.map fun | .const _ => true | _ => false) (args.map a.eval)).run P w = .ok (.value r) w) : (execOp a.eval o).run P w = .ok (.value r) w := by
  unfold execOp
  simp only [ho, resolve, invoke, Sem.run_bind, Sem.run_pure, Result.andThen_ok]
  exact hr

theorem len_sound (h : Rel n G st a w) (s : Sides n o) {x : Operand} {t : TypeId} (ho : o.op = .call { callee := .builtin .len, args := #[x], argTypes := #[t] })
    (hk : (lenSem P t (evalO P st.env o.type x) o.dst).wp st K) : o.wp P a w (Post n G w K) Q := by
  obtain ⟨L1, h1⟩ := s.ev (P := P) h o.type (x := x) (by rw [ho]; simp [Op.operands, Call.operands])
  unfold lenSem at hk
  split at hk
  · rename_i e hu
    split at hk
    · rename_i own ks rows e1
      rw [e1] at h1
      obtain ⟨ad, cap, hv, _⟩ := h1.of_ce
      refine ok_sound h s (show VRel G w none (.ce (.int .i64 rows.length)) (.int .i64 rows.length) from rfl) (exec_builtin ho ?_) hk
      simp [builtin, Builtin.len_, run_underlying hu, hv, goInt]
    · rename_i r m cap e1
      rw [e1] at h1
      obtain ⟨b, hb, hv, _⟩ := h1.of_ce
      refine ok_sound h s (show VRel G w none (.ce (.int .i64 m)) (.int .i64 m) from rfl) (exec_builtin ho ?_) hk
      simp [builtin, Builtin.len_, run_underlying hu, hv, goInt]
    · rename_i ks e1
      rw [e1] at h1
      obtain ⟨ad, hv⟩ := h1.of_ce
      refine ok_sound h s (show VRel G w none (.ce (.num .i64 0)) (.int .i64 0) from rfl) (exec_builtin ho ?_) hk
      simp [builtin, Builtin.len_, run_underlying hu, hv, goInt]
    · rename_i ks ll e1
      rw [e1] at h1
      obtain ⟨b, off, cap, hv, _⟩ := h1.of_ce
      refine ok_sound h s (show VRel G w none (.ce (.int .i64 ll.length)) (.int .i64 ll.length) from rfl) (exec_builtin ho ?_) hk
      simp [builtin, Builtin.len_, run_underlying hu, hv, goInt]
    · exact hk.elim
  · rename_i m e hu
    refine ok_sound h s (show VRel G w none (.ce (.num .i64 m)) (.int .i64 m) from rfl) (exec_builtin ho ?_) hk
    simp only [builtin, Builtin.len_, List.map_toArray, List.map_cons, List.map_nil, Sem.run_bind, run_underlying hu, Result.andThen_ok]
    cases a.eval x <;> simp [goInt, run_underlying hu]
  · rename_i hu
    split at hk
    · rename_i str e1
      rw [e1] at h1
      have hv : a.eval x = .string str := h1.of_ce
      refine ok_sound h s (show VRel G w none (.ce (.int .i64 str.size)) (.int .i64 str.size) from rfl) (exec_builtin ho ?_) hk
      simp [builtin, Builtin.len_, run_underlying hu, hv, goInt]
    · exact hk.elim
  · exact hk.elim

theorem run_minmax (big : Bool) (k : IntKind) (ev : Operand → HV) (ρ : Operand → Value) : ∀ (l : List Operand) (x : Int) (kn : Bool) (m : Int) (u : Bool),
    (∀ p ∈ l, ∃ L, VRel G w L (ev p) (ρ p)) → minmax big k x kn (l.map ev) = some (m, u) →
    (List.foldlM (bif big then Builtin.max2 else Builtin.min2) (.int k x) (l.map ρ)).run P w = .ok (.int k m) w
  | [], x, kn, m, u, _, h => by cases h; simp
  | p :: l, x, kn, m, u, hr, h => by
    obtain ⟨L, hp⟩ := hr p (by simp)
    rw [List.map_cons] at h ⊢
    unfold minmax at h
    split at h
    · rename_i heq; cases heq
    · rename_i c r heq
      injection heq with e1 e2
      subst e2
      split at h
      · rename_i j y v hc
        cases hk : kEq j k with
        | false => rw [hk] at h; cases h
        | true =>
          rw [hk] at h
          simp only [cond_true] at h
          obtain rfl := kEq_eq hk
          rw [e1] at hp
          have hv := isNum_rel hp.of_ce hc
          rw [List.foldlM_cons]
          have ih := run_minmax big j ev ρ l _ _ m u (fun q hq => hr q (List.mem_cons_of_mem _ hq)) h
          rw [hv]
          cases big
          · simp only [cond_false, Builtin.min2, Sem.run_bind, Sem.run_pure, Result.andThen_ok] at ih ⊢
            exact ih
          · simp only [cond_true, Builtin.max2, Sem.run_bind, Sem.run_pure, Result.andThen_ok] at ih ⊢
            exact ih
      · cases h
    · cases h

theorem minmax_sound (h : Rel n G st a w) (s : Sides n o) {b : Builtin} {big : Bool} (hb : (b = .max ∧ big = true) ∨ (b = .min ∧ big = false)) {args : Array Operand} {ts : Array TypeId}
    (ho : o.op = .call { callee := .builtin b, args := args, argTypes := ts })
    (hk : (minmaxSem big (args.toList.map (evalO P st.env o.type)) o.dst).wp st K) : o.wp P a w (Post n G w K) Q := by
  have hops : ∀ p ∈ args.toList, ∃ L, VRel G w L (evalO P st.env o.type p) (a.eval p) := fun p hp =>
    s.ev (P := P) h o.type (x := p) (by rw [ho]; simp [Op.operands, Call.operands]; simpa using hp)
  unfold minmaxSem at hk
  split at hk
  case h_2 => exact hk.elim
  rename_i c r heq
  cases hl : args.toList with
  | nil => rw [hl] at heq; cases heq
  | cons p l =>
    rw [hl, List.map_cons] at heq
    injection heq with e1 e2
    subst e2
    split at hk
    case h_2 => exact hk.elim
    rename_i k x kn hc
    split at hk
    case h_2 => exact hk.elim
    rename_i m u hm
    obtain ⟨L, hp⟩ := hops p (by rw [hl]; simp)
    rw [e1] at hp
    have hv := isNum_rel hp.of_ce hc
    have hrun := run_minmax (P := P) (G := G) (w := w) big k (evalO P st.env o.type) a.eval l x kn m u (fun q hq => hops q (by rw [hl]; exact List.mem_cons_of_mem _ hq)) hm
    have hargs : (args.map a.eval).toList = .int k x :: l.map a.eval := by rw [Array.toList_map, hl, List.map_cons, hv]
    refine ok_sound h s (intRes_rel k u m) (exec_builtin ho ?_) hk
    rcases hb with ⟨rfl, rfl⟩ | ⟨rfl, rfl⟩
    · simp only [builtin, Sem.run_bind, Builtin.max_, hargs]
      simp only [cond_true] at hrun
      rw [hrun]
      simp
    · simp only [builtin, Sem.run_bind, Builtin.min_, hargs]
      simp only [cond_false] at hrun
      rw [hrun]
      simp

/-! #### parts of slices -/

theorem slice_part {L : Option Loc} {ks : List Nat} {rows : List (List Int)} {b off cap : Nat} (_h : rows.length ≤ cap)
    (himm : ∀ i j, i < rows.length → j < ks.length → ImmC G w b (off + (i * ks.length + j)) (kval (ks.getD j 0) ((rows.getD i []).getD j 0))) (l m : Nat) (hl : l ≤ m) (hm : m ≤ rows.length) :
    ∀ i j, i < ((rows.take m).drop l).length → j < ks.length → ImmC G w b (off + l * ks.length + (i * ks.length + j)) (kval (ks.getD j 0) ((((rows.take m).drop l).getD i []).getD j 0)) := by
  intro i j hi hj
  have hi' : l + i < m := by simp at hi; omega
  have := himm (l + i) j (by omega) hj
  have e1 : ((rows.take m).drop l).getD i [] = rows.getD (l + i) [] := by
    simp only [List.getD_eq_getElem?_getD, List.getElem?_drop, List.getElem?_take, if_pos hi']
  rw [e1, show off + l * ks.length + (i * ks.length + j) = off + ((l + i) * ks.length + j) by rw [Nat.add_mul]; omega]
  exact this

theorem slice_sound (h : Rel n G st a w) (s : Sides n o) {t : TypeId} {x : Operand} {lo hi : Option Operand} (ho : o.op = .slice t x lo hi none)
    (hk : (sliceSem P st.env t (evalO P st.env o.type x) (tmpOf x) (lo.map (evalO P st.env o.type)) (hi.map (evalO P st.env o.type)) o.dst).wp st K) : o.wp P a w (Post n G w K) Q := by
  obtain ⟨L1, h1⟩ := s.ev (P := P) h o.type (x := x) (by rw [ho]; simp [Op.operands])
  have hlo : ∀ y, lo = some y → ∃ L, VRel G w L (evalO P st.env o.type y) (a.eval y) := fun y e => s.ev (P := P) h o.type (x := y) (by rw [ho, e]; simp [Op.operands])
  have hhi : ∀ y, hi = some y → ∃ L, VRel G w L (evalO P st.env o.type y) (a.eval y) := fun y e => s.ev (P := P) h o.type (x := y) (by rw [ho, e]; simp [Op.operands])
  have hex : ∀ r, (Instr.sliceAt t (a.eval x) (lo.map a.eval) (hi.map a.eval) none).run P w = .ok r w → (execOp a.eval o).run P w = .ok (.value r) w := by
    intro r hr
    unfold execOp
    simp only [ho, Option.map_none, Sem.run_bind, hr, Result.andThen_ok, Sem.run_pure]
  unfold sliceSem at hk
  split at hk
  case h_2 => exact hk.elim
  rename_i e own ks rows hu e1
  rw [e1] at h1
  split at hk
  case h_2 => exact hk.elim
  rename_i sz hs
  cases hsz : Nat.beq sz ks.length with
  | false => rw [hsz] at hk; exact hk.elim
  | true =>
    rw [hsz] at hk
    simp only [cond_true] at hk
    obtain rfl := Nat.eq_of_beq_eq_true hsz
    have h1c : SRel G w L1 ks rows (a.eval x) := h1
    obtain ⟨ad, cap, hv, hc, hcm, hr⟩ := h1c
    -- the model's own reckoning
    have hrun : ∀ (l m : Nat) , l ≤ m → m ≤ rows.length → (lo.map a.eval = none ∧ l = 0 ∨ ∃ k, lo.map a.eval = some (.int k l)) → (hi.map a.eval = none ∧ m = rows.length ∨ ∃ k, hi.map a.eval = some (.int k m)) →
        (Instr.sliceAt t (a.eval x) (lo.map a.eval) (hi.map a.eval) none).run P w = .ok (.slice (if cap = l then ad else ad.map (·.add (l * ks.length))) (m - l) (cap - l)) w := by
      intro l m hlm hm hl hh
      have hb1 : ∀ k : IntKind, (Instr.sliceBound (.int k m) cap .sliceAcap).run P w = .ok m w := by
        intro k
        have : (m : Int) ≤ cap := by omega
        simp [Instr.sliceBound, asIntOf]; omega
      have hb2 : ∀ k : IntKind, (Instr.sliceBound (.int k l) m .sliceB).run P w = .ok l w := by
        intro k
        simp [Instr.sliceBound, asIntOf]; omega
      have hs0 : (Instr.sliceBounds true rows.length cap (lo.map a.eval) (hi.map a.eval) none).run P w = .ok (l, m, cap) w := by
        unfold Instr.sliceBounds
        rcases hl with ⟨hl, rfl⟩ | ⟨k1, hl⟩ <;> rcases hh with ⟨hh, rfl⟩ | ⟨k2, hh⟩
        · rw [hl, hh]; simp
        · rw [hl, hh]; simp [hb1 k2]
        · rw [hl, hh]; simp [hb2 k1]
        · rw [hl, hh]; simp [hb1 k2, hb2 k1]
      unfold Instr.sliceAt Instr.slice
      rw [hv]
      simp only [Sem.run_bind, run_underlying hu, Result.andThen_ok, hs0, run_sizeOf hs, Sem.run_pure]
    have hlen : ∀ l m : Nat, l ≤ m → m ≤ rows.length → ((rows.take m).drop l).length = m - l := by intro l m h1 h2; simp; omega
    -- the part, unowned
    have hpart : ∀ l m : Nat, l ≤ m → m ≤ rows.length → ∀ L, (∀ Lc, L = some Lc → m = rows.length ∧ SRel G w (some Lc) ks rows (a.eval x)) →
        SRel G w L ks ((rows.take m).drop l) (.slice (if cap = l then ad else ad.map (·.add (l * ks.length))) (m - l) (cap - l)) := by
      intro l m hlm hm L hL
      refine ⟨_, cap - l, by rw [hlen l m hlm hm], by rw [hlen l m hlm hm]; omega, by omega, ?_⟩
      rcases hr with ⟨_, hl0, hc0⟩ | ⟨b, off, rfl, himm, _⟩
      · cases hLL : L with
        | none => exact .inl ⟨.inl rfl, by rw [hlen l m hlm hm]; omega, by omega⟩
        | some Lc =>
          obtain ⟨hm2, ad2, cap2, hv2, _, _, hr2⟩ := hL Lc hLL
          rw [hv] at hv2
          cases hv2
          rcases hr2 with ⟨e, _⟩ | ⟨b2, off2, e2, himm2, hsp⟩
          · have e' : ad = none := e.resolve_left (fun e => nomatch e)
            subst e'
            exact .inl ⟨.inr (by simp), by rw [hlen l m hlm hm]; omega, by omega⟩
          · have hcl : cap = l := by omega
            rw [if_pos hcl]
            refine .inr ⟨b2, off2, e2, fun i j hi _ => ?_, fun Lc' he => ?_⟩
            · rw [hlen l m hlm hm] at hi; omega
            · cases he
              obtain ⟨ho1, cur, E, hh, hfit, hni⟩ := hsp Lc rfl
              refine ⟨ho1, cur, E, hh, by rw [hcl]; simp; omega, fun q hq hq2 hi => ?_⟩
              rw [hcl] at hq2
              simp at hq2
              omega
      · by_cases hcl : cap = l
        · -- nothing is left
          have hml : m = l := by omega
          rw [if_pos hcl]
          refine .inr ⟨b, off, rfl, fun i j hi _ => ?_, fun Lc he => ?_⟩
          · rw [hlen l m hlm hm] at hi; omega
          · obtain ⟨hm2, ad2, cap2, hv2, _, _, hr2⟩ := hL Lc he
            rw [hv] at hv2
            cases hv2
            rcases hr2 with ⟨e, _⟩ | ⟨b2, off2, e2, himm2, hsp⟩
            · rcases e with e | e <;> cases e
            · cases e2
              obtain ⟨ho1, cur, E, hh, hfit, hni⟩ := hsp Lc rfl
              refine ⟨ho1, cur, E, hh, by rw [hcl]; simp; omega, fun q hq hq2 hi => ?_⟩
              rw [hcl] at hq2
              simp at hq2
              omega
        · rw [if_neg hcl]
          refine .inr ⟨b, off + l * ks.length, by simp [at_add], slice_part (L := none) hc himm l m hlm hm, fun Lc he => ?_⟩
          obtain ⟨hm2, ad2, cap2, hv2, _, _, hr2⟩ := hL Lc he
          rw [hv] at hv2
          cases hv2
          rcases hr2 with ⟨e, _⟩ | ⟨b2, off2, e2, himm2, hsp⟩
          · rcases e with e | e <;> cases e
          · cases e2
            obtain ⟨ho1, cur, E, hh, hfit, hni⟩ := hsp Lc rfl
            have hcl2 : l ≤ cap := by omega
            refine ⟨ho1, cur, E, hh, ?_, fun q hq hq2 hi => ?_⟩
            · have : cap * ks.length = l * ks.length + (cap - l) * ks.length := by rw [← Nat.add_mul]; congr 1; omega
              omega
            · rw [hlen l m hlm hm, hm2] at hq
              have : rows.length * ks.length = l * ks.length + (rows.length - l) * ks.length := by rw [← Nat.add_mul]; congr 1; omega
              have h5 : cap * ks.length = l * ks.length + (cap - l) * ks.length := by rw [← Nat.add_mul]; congr 1; omega
              exact hni q (by omega) (by omega) hi
    split at hk
    · -- both bounds
      rename_i l' h' el eh
      cases lo with
      | none => cases el
      | some lo' =>
      cases hi with
      | none => cases eh
      | some hi' =>
      simp only [Option.map_some, Option.some.injEq] at el eh
      split at hk
      case h_2 => exact hk.elim
      rename_i k1 lv _ k2 mv _ hl1 hh1
      obtain ⟨L3, hl3⟩ := hlo lo' rfl
      obtain ⟨L4, hl4⟩ := hhi hi' rfl
      rw [el] at hl3
      rw [eh] at hl4
      have vl := isNum_rel hl3.of_ce hl1
      have vh := isNum_rel hl4.of_ce hh1
      obtain ⟨⟨p0, p1, p2⟩, hk⟩ := hk
      obtain ⟨l, rfl⟩ := Int.eq_ofNat_of_zero_le p0
      obtain ⟨m, rfl⟩ := Int.eq_ofNat_of_zero_le (show (0 : Int) ≤ mv by omega)
      refine pure_sound h s.le s.dst (hv := .ce (.sl false ks ((rows.take m).drop l))) (hpart l m (by omega) (by omega) none (fun _ e => nomatch e))
        (hex _ (hrun l m (by omega) (by omega) (.inr ⟨k1, by simp [vl]⟩) (.inr ⟨k2, by simp [vh]⟩))) hk
    · -- the upper bound
      rename_i h' el eh
      cases lo with
      | some _ => cases el
      | none =>
      cases hi with
      | none => cases eh
      | some hi' =>
      simp only [Option.map_some, Option.some.injEq] at eh
      split at hk
      case h_2 => exact hk.elim
      rename_i k2 mv _ hh1
      obtain ⟨L4, hl4⟩ := hhi hi' rfl
      rw [eh] at hl4
      have vh := isNum_rel hl4.of_ce hh1
      obtain ⟨⟨p0, p2⟩, hk⟩ := hk
      obtain ⟨m, rfl⟩ := Int.eq_ofNat_of_zero_le p0
      have hp := hpart 0 m (by omega) (by omega) none (fun _ e => nomatch e)
      refine pure_sound h s.le s.dst (hv := .ce (.sl false ks (rows.take m))) hp
        (hex _ (hrun 0 m (by omega) (by omega) (.inl ⟨by simp, rfl⟩) (.inr ⟨k2, by simp [vh]⟩))) hk
    · -- the lower bound: the flag goes with the part
      rename_i l' el eh
      cases lo with
      | none => cases el
      | some lo' =>
      cases hi with
      | some _ => cases eh
      | none =>
      simp only [Option.map_some, Option.some.injEq] at el
      split at hk
      case h_2 => exact hk.elim
      rename_i k1 lv _ hl1
      obtain ⟨L3, hl3⟩ := hlo lo' rfl
      rw [el] at hl3
      have vl := isNum_rel hl3.of_ce hl1
      split at hk
      case h_2 => exact hk.elim
      rename_i sl d hsrc hd
      obtain ⟨⟨p0, p1⟩, hk⟩ := hk
      obtain ⟨l, rfl⟩ := Int.eq_ofNat_of_zero_le p0
      cases x <;> simp [tmpOf] at hsrc
      rename_i sl'
      subst hsrc
      have hs5 := s.tmp sl' (by rw [ho]; simp [Op.operands])
      have hdn := s.dst d hd
      have hfull : rows.take rows.length = rows := List.take_length
      have hrun' := hex _ (hrun l rows.length (by omega) (Nat.le_refl _) (.inr ⟨k1, by simp [vl]⟩) (.inl ⟨by simp, rfl⟩))
      have hx : a.eval (.tmp sl') = a.tmps.getD sl' undef := rfl
      have henv := h.env sl' hs5
      rw [show st.env sl' = .ce (.sl own ks rows) from e1] at henv
      have hp0 := hpart l rows.length (by omega) (Nat.le_refl _) (flagL st.env sl') (fun Lc e => ⟨rfl, by rw [← e]; exact henv⟩)
      rw [hfull] at hp0
      obtain ⟨G', hr', hev⟩ := take_rel h s.le hdn (s := sl') hp0
      refine wp_value hrun' ⟨_, G', hk, ?_, hev⟩
      rw [hd]
      exact hr'
    · exact hk.elim
end

end Go.HL
