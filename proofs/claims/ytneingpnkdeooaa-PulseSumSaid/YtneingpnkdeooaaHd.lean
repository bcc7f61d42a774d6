/-
  HL, part d: one operation: operations that leave the world alone.
  Conditions: none.
-/
import Derived.Test.YtneingpnkdeooaaHc
namespace Go.HL
open Go

section
variable {P : Program} {n : Nat} {G G' : Ghost} {st : HSt} {a : Act} {w w' : World} {o : Oper} {Q : Exit → Act → World → Prop} {K : HSt → Prop}

/-- what one operation leaves -/
def Post (n : Nat) (G : Ghost) (w : World) (K : HSt → Prop) (a' : Act) (w' : World) : Prop :=
  ∃ st' G', K st' ∧ Rel n G' st' a' w' ∧ Evolves G w G' w'

theorem wp_value {v : Value} {X : Act → World → Prop} (h : (execOp a.eval o).run P w = .ok (.value v) w') (hk : X (a.put o.dst v) w') : o.wp P a w X Q := by
  unfold Oper.wp
  rw [h]
  exact hk

theorem wp_skip' {X : Act → World → Prop} (h : (execOp a.eval o).run P w = .ok .skip w') (hk : X (a.put o.dst undef) w') : o.wp P a w X Q := by
  unfold Oper.wp
  rw [h]
  exact hk

theorem flagL_cases (env : Nat → HV) (d : Nat) : flagL env d = none ∨ flagL env d = some (.tmp d) := by
  unfold flagL; cases isOwn (env (FL d)) <;> simp

theorem Rel.env_of {ok : Loc → Prop} (h : Rel n G st a w) (hp : Pres G w G' w' ok) {env' : Nat → HV} {a' : Act} (x : Nat) (hx : x < 100000) (he : env' x = st.env x)
    (ht : a'.tmps.getD x undef = a.tmps.getD x undef) (hf : flagL env' x = none ∨ (flagL env' x = flagL st.env x ∧ ok (.tmp x))) :
    VRel G' w' (flagL env' x) (env' x) (a'.tmps.getD x undef) := by
  rw [he, ht]
  have h0 := h.env x hx
  rcases hf with hf | ⟨hf, ho⟩
  · rw [hf]
    exact VRel.pres (L := none) hp (fun _ he => nomatch he) (VRel.drop h0)
  · rw [hf]
    refine h0.pres hp (fun Lc hl => ?_)
    rcases flagL_cases st.env x with hc | hc <;> rw [hc] at hl <;> cases hl
    exact ho

/-- L matters for slices alone -/
theorem VRel.free {L : Option Loc} {hv : HV} {v : Value} (h : VRel G w none hv v) (hs : ∀ own ks rows, hv ≠ .ce (.sl own ks rows)) : VRel G w L hv v := by
  cases hv with
  | ce c => cases c with
    | sl own ks rows => exact absurd rfl (hs own ks rows)
    | _ => exact h
  | _ => exact h

theorem FL_ne {x d : Nat} (h : x < 100000) : FL d ≠ x := by unfold FL; omega
theorem FL_inj {x d : Nat} (h : FL x = FL d) : x = d := by unfold FL at h; omega

/-- a result into its slot -/
theorem Rel.put {ok : Loc → Prop} (h : Rel n G st a w) (hn : n ≤ 100000) {dst : Option Nat} (hd : ∀ d, dst = some d → d < n) (hp : Pres G w G' w' ok) (hok : ∀ x, dst ≠ some x → ok (.tmp x))
    {own : Bool} {hv : HV} {v : Value} (hv0 : VRel G' w' none hv v) (hv1 : ∀ d, dst = some d → own = true → VRel G' w' (some (.tmp d)) hv v)
    {box' : Nat → Option (List HC)} (hm : Mem G' box' w') {log : Nat → List (Nat × Bool)} :
    Rel n G' { env := setsTo st.env (put dst own hv).sets, box := box', log := log } (a.put dst v) w' := by
  refine ⟨by rw [put_defers]; exact h.defers, by rw [put_size]; exact h.size, fun x hx => ?_, hm⟩
  cases dst with
  | none => exact h.env_of hp x hx rfl rfl (.inr ⟨rfl, hok x (fun e => nomatch e)⟩)
  | some d =>
    have hdn := hd d rfl
    have hd5 : d < 100000 := Nat.lt_of_lt_of_le hdn hn
    by_cases hxd : x = d
    · subst hxd
      have htv : (a.put (some x) v).tmps.getD x undef = v := tmps_put_same (by rw [h.size]; exact hdn)
      show VRel G' w' (flagL _ x) _ ((a.put (some x) v).tmps.getD x undef)
      rw [htv]
      cases hv with
      | ce c => cases c with
        | sl o' ks rows =>
          show VRel G' w' (flagL (upd (upd st.env x _) (FL x) _) x) (upd (upd st.env x _) (FL x) _ x) v
          rw [upd_ne _ _ (Ne.symm (FL_ne hx)), upd_same]
          unfold flagL
          rw [upd_same]
          cases own with
          | false => exact hv0
          | true => exact hv1 x rfl rfl
        | nsl ks =>
          show VRel G' w' (flagL (upd (upd st.env x _) (FL x) _) x) (upd (upd st.env x _) (FL x) _ x) v
          rw [upd_ne _ _ (Ne.symm (FL_ne hx)), upd_same]
          have hv0 : v = _ := hv0
          subst hv0
          exact SRel.nil G' w' _ ks
        | mu ks rows => exact hv0.elim
        | _ =>
          show VRel G' w' _ (upd st.env x _ x) v
          rw [upd_same]
          exact VRel.free hv0 (fun _ _ _ e => nomatch e)
      | _ =>
        show VRel G' w' _ (upd st.env x _ x) v
        rw [upd_same]
        exact VRel.free hv0 (fun _ _ _ e => nomatch e)
    · refine h.env_of hp x hx ?_ (tmps_put_ne hxd) (.inr ⟨?_, hok x (fun e => hxd (Option.some.inj e).symm)⟩)
      · cases hv with
        | ce c => cases c with
          | sl o' ks rows => exact (upd_ne _ _ (Ne.symm (FL_ne hx))).trans (upd_ne _ _ hxd)
          | nsl ks => exact (upd_ne _ _ (Ne.symm (FL_ne hx))).trans (upd_ne _ _ hxd)
          | _ => exact upd_ne _ _ hxd
        | _ => exact upd_ne _ _ hxd
      · unfold flagL
        congr 1
        congr 1
        cases hv with
        | ce c => cases c with
          | sl o' ks rows => exact (upd_ne _ _ (fun e => hxd (FL_inj e))).trans (upd_ne _ _ (FL_ne hd5))
          | nsl ks => exact (upd_ne _ _ (fun e => hxd (FL_inj e))).trans (upd_ne _ _ (FL_ne hd5))
          | _ => exact upd_ne _ _ (FL_ne hd5)
        | _ => exact upd_ne _ _ (FL_ne hd5)

/-- an operation that leaves the world alone -/
theorem pure_sound (h : Rel n G st a w) (hn : n ≤ 100000) (hd : ∀ d, o.dst = some d → d < n) {hv : HV} {v : Value} (hv0 : VRel G w none hv v)
    (hrun : (execOp a.eval o).run P w = .ok (.value v) w) (hk : K (st.app (HL.put o.dst false hv))) : o.wp P a w (Post n G w K) Q := by
  refine wp_value hrun ⟨_, G, hk, ?_, Evolves.refl _ _⟩
  have hb : (st.app (HL.put o.dst false hv)).box = st.box := by
    unfold HL.put HSt.app
    cases o.dst with
    | none => rfl
    | some d => cases hv with
      | ce c => cases c <;> rfl
      | _ => rfl
  have := h.put hn hd (Pres.refl G w fun _ => True) (fun _ _ => trivial) (own := false) hv0 (fun _ _ e => nomatch e) h.mem (log := st.log)
  rw [← hb] at this
  exact this

theorem ofConst_rel (P : Program) (G : Ghost) (w : World) (L : Option Loc) (t : TypeId) (v : Value) : VRel G w L (ofConst P t v) v := by
  unfold ofConst
  split
  · rfl
  · rfl
  · rfl
  · rfl
  · split
    · split
      · exact ⟨none, 0, rfl, Nat.le_refl _, Nat.zero_le _, .inl ⟨.inr rfl, rfl, rfl⟩⟩
      · trivial
    · rfl
  · trivial

theorem eval_rel (h : Rel n G st a w) (t : TypeId) (x : Operand) (hx : ∀ d, x = .tmp d → d < 100000) : ∃ L, VRel G w L (evalO P st.env t x) (a.eval x) := by
  cases x with
  | tmp d => exact ⟨_, h.env d (hx d rfl)⟩
  | const v => exact ⟨none, ofConst_rel P G w none t v⟩
  | global g => exact ⟨none, trivial⟩
  | func f => exact ⟨none, trivial⟩

theorem isNum_rel {L : Option Loc} {c : HC} {v : Value} {k : IntKind} {m : Int} {u : Bool} (h : CRel G w L c v) (hc : isNum c = some (k, m, u)) : v = .int k m := by
  cases c <;> simp [isNum] at hc
  all_goals (obtain ⟨rfl, rfl, rfl⟩ := hc; exact h)

theorem isBool_rel {L : Option Loc} {c : HC} {v : Value} {b : Bool} {u : Bool} (h : CRel G w L c v) (hc : isBool c = some (b, u)) : v = .bool b := by
  cases c <;> simp [isBool] at hc
  all_goals (obtain ⟨rfl, rfl⟩ := hc; exact h)

theorem intRes_rel (k : IntKind) (u : Bool) (m : Int) : VRel G w none (intRes k u m) (.int k m) := by cases u <;> exact rfl
theorem boolRes_rel (u : Bool) (m : Bool) : VRel G w none (boolRes u m) (.bool m) := by cases u <;> exact rfl

theorem kEq_eq {j k : IntKind} (h : kEq j k = true) : j = k := by
  cases j <;> cases k <;> first | rfl | cases h
end

end Go.HL
