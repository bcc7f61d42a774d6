/-
  HL, part p: every operation.
  Conditions: none.
-/
import Derived.Test.YtneingpnkdeooaaHo
namespace Go.HL
open Go

section
variable {P : Program} {n : Nat} {G G' : Ghost} {st : HSt} {a : Act} {w w' : World} {o : Oper} {Q : Exit → Act → World → Prop} {K : HSt → Prop}

theorem run_copy {x : Operand} (ho : o.op = .move x ∨ o.op = .assign x) : (execOp a.eval o).run P w = .ok (.value (a.eval x)) w := by
  unfold execOp
  rcases ho with ho | ho <;> simp [ho]

theorem nil_sound (h : Rel n G st a w) (s : Sides n o) {v : Value} (ho : o.op = .move (.const v) ∨ o.op = .assign (.const v)) {own : Bool} {ks : List Nat} {rows : List (List Int)} (he : ofConst P o.type v = .ce (.sl own ks rows))
    (hk : (OSem.set (put o.dst true (.ce (.sl true ks rows)))).wp st K) : o.wp P a w (Post n G w K) Q := by
  have hr : ∀ L, VRel G w L (.ce (.sl true ks rows)) v := fun L => by
    have := ofConst_rel P G w L o.type v
    rw [he] at this
    exact this
  refine wp_value (run_copy ho) ⟨_, G, hk, ?_, Evolves.refl _ _⟩
  have hb : (st.app (put o.dst true (.ce (.sl true ks rows)))).box = st.box := by unfold HL.put HSt.app; cases o.dst <;> rfl
  have := h.put s.le s.dst (Pres.refl G w fun _ => True) (fun _ _ => trivial) (own := true) (v := v) (hr none) (fun d _ _ => hr _) h.mem (log := st.log)
  rw [← hb] at this
  exact this

theorem osem_sound (h : Rel n G st a w) (s : Sides n o) {Γ : FuncId → Option Spec} (hΓ : ∀ f S, Γ f = some S → Sound P f S) {take fz : Bool}
    (hk : (osem P Γ take fz o st.env st.box).wp st K) : o.wp P a w (Post n G w K) Q := by
  unfold osem at hk
  dsimp only at hk
  split at hk
  · -- move
    rename_i x ho
    obtain ⟨L, hx⟩ := s.ev (P := P) h o.type (x := x) (by rw [ho]; simp [Op.operands])
    split at hk
    · rename_i r m cap hm
      rw [hm] at hx
      exact frz_sound h s (v := a.eval x) hx (run_copy (.inl ho)) hk
    split at hk
    · rename_i t ht
      cases x <;> simp [tmpOf] at ht
      subst ht
      exact takeOS_sound h s (s.tmp _ (by rw [ho]; simp [Op.operands])) (run_copy (.inl ho)) hk
    · split at hk
      · rename_i v own ks rows he
        exact nil_sound h s (.inl ho) he hk
      · exact ok_sound h s hx.dis (run_copy (.inl ho)) hk
  · -- assign
    rename_i x ho
    obtain ⟨L, hx⟩ := s.ev (P := P) h o.type (x := x) (by rw [ho]; simp [Op.operands])
    split at hk
    · rename_i t ht
      cases x <;> simp [tmpOf] at ht
      subst ht
      exact takeOS_sound h s (s.tmp _ (by rw [ho]; simp [Op.operands])) (run_copy (.inr ho)) hk
    · rename_i ht
      split at hk
      · rename_i own ks rows he
        cases x with
        | tmp t => simp [tmpOf] at ht
        | const v => exact nil_sound h s (.inr ho) he hk
        | global g => cases he
        | func f => cases he
      · exact ok_sound h s hx.dis (run_copy (.inr ho)) hk
  · rename_i c x y ho; exact pick_sound h s ho hk
  · rename_i e ho; exact alloc_sound h s ho hk
  · rename_i e x ho; exact box_sound h s ho hk
  · rename_i t parts ho; exact build_sound h s ho hk
  · rename_i t m parts ho
    split at hk
    · rename_i hp; exact empty_sound h s ho hp hk
    · exact buildSlice_sound h s ho hk
  · rename_i t x ho; exact load_sound h s ho hk
  · rename_i t x v ho
    split at hk
    · rename_i hd; exact store_sound h s ho hd hk
    · exact hk.elim
  · rename_i x ho; exact nilCheck_sound h s ho hk
  · rename_i t x y ho; exact make_sound h s ho hk
  · rename_i op xt x y yt ho; exact bin_sound h s ho hk
  · rename_i op xt x ho; exact un_sound h s ho hk
  · rename_i t1 t2 x ho; exact convert_sound h s ho hk
  · rename_i t x lo hi ho; exact slice_sound h s ho hk
  · rename_i t x f ho; exact fieldAddr_sound h s ho hk
  · rename_i t x f ho; exact field_sound h s ho hk
  · rename_i t x i ho
    split at hk
    · rename_i r k e1
      split at hk
      · rename_i ks rows cap hb
        cases hk0 : Nat.beq k 0 with
        | false => rw [hk0] at hb; cases hb
        | true =>
          obtain rfl := Nat.eq_of_beq_eq_true hk0
          exact arrIdx_sound h s ho e1 hk
      · exact indexAddr_sound h s ho hk
    · exact indexAddr_sound h s ho hk
  · rename_i t ho; exact makeMap_sound h s ho hk
  · rename_i t x y z ho
    split at hk
    · rename_i hd; exact mapUpdate_sound h s ho hd hk
    · exact hk.elim
  · rename_i t x y c ho; exact lookup_sound h s ho hk
  · rename_i t x i ho
    split at hk
    · exact strIdx_sound h s ho hk
    · unfold idxSem at hk
      split at hk
      · rename_i e1; exact strIdx2_sound h s ho e1 hk
      · exact index_sound h s ho hk
  · rename_i x i ho; exact extract_sound h s ho hk
  · -- builtins
    rename_i b args ts ho
    unfold builtinSem at hk
    split at hk
    · -- len
      split at hk
      · rename_i t x hts hvals
        have ht : ts = #[t] := by apply Array.ext'; simpa using hts
        obtain ⟨p, hp⟩ : ∃ p, args.toList = [p] := by
          cases hl : args.toList with
          | nil => rw [hl] at hvals; cases hvals
          | cons p l =>
            rw [hl] at hvals
            cases l with
            | nil => exact ⟨p, rfl⟩
            | cons _ _ => cases hvals
        have ha : args = #[p] := by apply Array.ext'; simpa using hp
        subst ht; subst ha
        simp only [List.map_cons, List.map_nil] at hvals
        cases hvals
        exact len_sound h s ho hk
      · exact hk.elim
    · exact minmax_sound h s (.inl ⟨rfl, rfl⟩) ho hk
    · exact minmax_sound h s (.inr ⟨rfl, rfl⟩) ho hk
    · -- append
      split at hk
      · rename_i t u x y hts hvals
        have ht : ts = #[t, u] := by apply Array.ext'; simpa using hts
        obtain ⟨p, q, hp⟩ : ∃ p q, args.toList = [p, q] := by
          cases hl : args.toList with
          | nil => rw [hl] at hvals; cases hvals
          | cons p l =>
            rw [hl] at hvals
            cases l with
            | nil => cases hvals
            | cons q l =>
              cases l with
              | nil => exact ⟨p, q, rfl⟩
              | cons _ _ => cases hvals
        have ha : args = #[p, q] := by apply Array.ext'; simpa using hp
        subst ht; subst ha
        simp only [List.map_cons, List.map_nil] at hvals
        cases hvals
        split at hk
        · rename_i e1; exact appNew_sound h s ho e1 hk
        · rename_i e1; exact appMut_sound h s ho e1 hk
        · exact appendSem_sound h s ho hk
      · exact hk.elim
    · exact hk.elim
  · rename_i f args ts ho; exact call_sound h s hΓ ho hk
  · exact hk.elim
end

end Go.HL
