/-
  HL, part q: regions in the order of their text, and in every order that their edges allow.
  Conditions: none.
-/
import Derived.Test.YtneingpnkdeooaaHp
namespace Go.HL
open Go

section
variable {P : Program} {n : Nat} {G G' : Ghost} {st : HSt} {a : Act} {w w' : World} {o : Oper} {Q : Exit → Act → World → Prop} {K : HSt → Prop}

/-! ### outcomes -/

def OSem.pre : OSem → Prop
  | .fail => False
  | .set _ => True
  | .one p _ => p
  | .alts p _ => p
  | .all p _ q _ => p ∧ ∃ x, q x

def OSem.out : OSem → Upd → Prop
  | .fail, _ => False
  | .set u, v => v = u
  | .one _ u, v => v = u
  | .alts _ l, v => ∃ p, (p, v) ∈ l ∧ p
  | .all _ _ q F, v => ∃ x, q x ∧ v = F x

theorem altsWp_iff : ∀ {l : List (Prop × Upd)}, altsWp st K l ↔ ∀ v, (∃ p, (p, v) ∈ l ∧ p) → K (st.app v)
  | [] => by simp [altsWp]
  | [(p, u)] => by
    constructor
    · rintro h v ⟨q, hm, hq⟩
      rcases List.mem_cons.1 hm with he | hm
      · cases he; exact h hq
      · cases hm
    · intro h hp; exact h u ⟨p, by simp, hp⟩
  | (p, u) :: r :: l => by
    have ih := altsWp_iff (l := r :: l)
    constructor
    · rintro ⟨h1, h2⟩ v ⟨q, hm, hq⟩
      rcases List.mem_cons.1 hm with he | hm
      · cases he; exact h1 hq
      · exact ih.1 h2 v ⟨q, hm, hq⟩
    · intro h
      exact ⟨fun hp => h u ⟨p, by simp, hp⟩, ih.2 fun v ⟨q, hm, hq⟩ => h v ⟨q, List.mem_cons_of_mem _ hm, hq⟩⟩

theorem wp_iff (s : OSem) : s.wp st K ↔ s.pre ∧ ∀ u, s.out u → K (st.app u) := by
  cases s with
  | fail => simp [OSem.wp, OSem.pre]
  | set u => simp [OSem.wp, OSem.pre, OSem.out]
  | one p u => simp [OSem.wp, OSem.pre, OSem.out]
  | alts p l => simp only [OSem.wp, OSem.pre, OSem.out, altsWp_iff]
  | all p α q F =>
    simp only [OSem.wp, OSem.pre, OSem.out]
    constructor
    · rintro ⟨h1, h2, h3⟩; exact ⟨⟨h1, h2⟩, fun u ⟨x, hx, hu⟩ => by subst hu; exact h3 x hx⟩
    · rintro ⟨⟨h1, h2⟩, h3⟩; exact ⟨h1, h2, fun x hx => h3 _ ⟨x, hx, rfl⟩⟩

theorem wp_mono' {s : OSem} {K' : HSt → Prop} (h : ∀ st, K st → K' st) (hw : s.wp st K) : s.wp st K' := by
  rw [wp_iff] at hw ⊢
  exact ⟨hw.1, fun u hu => h _ (hw.2 u hu)⟩

def OSem.Strict (s : OSem) : Prop := s.pre → ∃ u, s.out u

theorem strict_set (u : Upd) : (OSem.set u).Strict := fun _ => ⟨u, rfl⟩
theorem strict_one (p : Prop) (u : Upd) : (OSem.one p u).Strict := fun _ => ⟨u, rfl⟩
theorem strict_fail : OSem.fail.Strict := fun h => h.elim
theorem strict_idx (i : Int) (f : Nat → Upd) (m : Nat) : (OSem.alts (0 ≤ i ∧ i < m) (idxAlts i f m)).Strict := by
  rintro ⟨h0, h1⟩
  obtain ⟨j, rfl⟩ := Int.eq_ofNat_of_zero_le h0
  exact ⟨f j, _, idxAlts_mem _ f (by omega), rfl⟩

/-- an outcome writes to the slots S and the boxes B alone, and there is one -/
structure Tame (S : List Nat) (B : List (Nat × Bool)) (s : OSem) : Prop where
  strict : s.Strict
  sets : ∀ u, s.out u → ∀ x ∈ u.sets, x.1 ∈ S
  boxes : ∀ u, s.out u → ∀ x ∈ u.boxes, (x.1, true) ∈ B

theorem tame_fail (S : List Nat) (B : List (Nat × Bool)) : Tame S B .fail := ⟨strict_fail, fun _ h => h.elim, fun _ h => h.elim⟩

theorem tame_set {S : List Nat} {B : List (Nat × Bool)} {u : Upd} (h1 : ∀ x ∈ u.sets, x.1 ∈ S) (h2 : ∀ x ∈ u.boxes, (x.1, true) ∈ B) : Tame S B (.set u) :=
  ⟨strict_set u, fun v hv => by cases hv; exact h1, fun v hv => by cases hv; exact h2⟩

theorem tame_one {S : List Nat} {B : List (Nat × Bool)} {p : Prop} {u : Upd} (h1 : ∀ x ∈ u.sets, x.1 ∈ S) (h2 : ∀ x ∈ u.boxes, (x.1, true) ∈ B) : Tame S B (.one p u) :=
  ⟨strict_one p u, fun v hv => by cases hv; exact h1, fun v hv => by cases hv; exact h2⟩

theorem tame_all {S : List Nat} {B : List (Nat × Bool)} {p : Prop} {α : Type} {q : α → Prop} {F : α → Upd} (h1 : ∀ a, ∀ x ∈ (F a).sets, x.1 ∈ S) (h2 : ∀ a, ∀ x ∈ (F a).boxes, (x.1, true) ∈ B) : Tame S B (.all p α q F) :=
  ⟨fun h => by obtain ⟨x, hx⟩ := h.2; exact ⟨F x, x, hx, rfl⟩, fun v ⟨x, _, hv⟩ => by subst hv; exact h1 x, fun v ⟨x, _, hv⟩ => by subst hv; exact h2 x⟩

theorem put_tame (d : Option Nat) (own : Bool) (v : HV) {S : List Nat} (hS : ∀ x, d = some x → x ∈ S ∧ FL x ∈ S) : (∀ x ∈ (put d own v).sets, x.1 ∈ S) ∧ (put d own v).boxes = [] := by
  cases d with
  | none => exact ⟨fun x hx => by simp [put] at hx, rfl⟩
  | some d =>
    obtain ⟨h1, h2⟩ := hS d rfl
    cases v with
    | ce c => cases c <;> simp [put] <;> first | exact ⟨h1, h2⟩ | exact h1
    | _ => simp [put]; exact h1

theorem tame_ok {d : Option Nat} {v : HV} {S : List Nat} {B : List (Nat × Bool)} (hS : ∀ x, d = some x → x ∈ S ∧ FL x ∈ S) : Tame S B (ok d v) :=
  tame_set (put_tame d false v hS).1 (by rw [(put_tame d false v hS).2]; simp)

theorem tame_putset {d : Option Nat} {own : Bool} {v : HV} {S : List Nat} {B : List (Nat × Bool)} (hS : ∀ x, d = some x → x ∈ S ∧ FL x ∈ S) : Tame S B (.set (put d own v)) :=
  tame_set (put_tame d own v hS).1 (by rw [(put_tame d own v hS).2]; simp)

theorem tame_putone {d : Option Nat} {own : Bool} {v : HV} {p : Prop} {S : List Nat} {B : List (Nat × Bool)} (hS : ∀ x, d = some x → x ∈ S ∧ FL x ∈ S) : Tame S B (.one p (put d own v)) :=
  tame_one (put_tame d own v hS).1 (by rw [(put_tame d own v hS).2]; simp)

theorem idxAlts_out {i : Int} {f : Nat → Upd} : ∀ {m : Nat} {p : Prop} {v : Upd}, (p, v) ∈ idxAlts i f m → ∃ j, v = f j
  | m + 1, p, v, h => by
    unfold idxAlts at h
    rcases List.mem_append.1 h with h | h
    · exact idxAlts_out h
    · simp at h; exact ⟨m, h.2⟩

theorem tame_idx {i : Int} {f : Nat → Upd} {m : Nat} {S : List Nat} {B : List (Nat × Bool)} (h : ∀ j, (∀ x ∈ (f j).sets, x.1 ∈ S) ∧ (f j).boxes = []) : Tame S B (.alts (0 ≤ i ∧ i < m) (idxAlts i f m)) := by
  refine ⟨strict_idx i f m, fun v ⟨p, hm, _⟩ => ?_, fun v ⟨p, hm, _⟩ => ?_⟩
  · obtain ⟨j, rfl⟩ := idxAlts_out hm; exact (h j).1
  · obtain ⟨j, rfl⟩ := idxAlts_out hm; rw [(h j).2]; simp

theorem zipL_keys : ∀ {α : Type} {rs : List Nat} {vs : List α} {x : Nat × α}, x ∈ zipL rs vs → x.1 ∈ rs
  | _, r :: rs, v :: vs, x, h => by
    unfold zipL at h
    rcases List.mem_cons.1 h with he | h
    · subst he; simp
    · exact List.mem_cons_of_mem _ (zipL_keys h)

theorem osem_tame (P : Program) (Γ : FuncId → Option Spec) (take fz : Bool) (o : Oper) (env : Nat → HV) (box : Nat → Option (List HC)) :
    Tame (wrSlots take o) (opKeys P take fz o env) (osem P Γ take fz o env box) := by
  have hS : ∀ x, o.dst = some x → x ∈ wrSlots take o ∧ FL x ∈ wrSlots take o := fun x hx => by simp [wrSlots, hx]
  have hsrc : ∀ x, x ∈ srcSlots take o → FL x ∈ wrSlots take o := fun x hx => List.mem_append_right _ (List.mem_map.2 ⟨x, hx, rfl⟩)
  have htake : ∀ (s : Nat) (v : HV), s ∈ srcSlots take o → Tame (wrSlots take o) (opKeys P take fz o env) (takeOS env s o.dst v) := by
    intro s v hs
    unfold takeOS
    split
    · rename_i d hd
      obtain ⟨h1, h2⟩ := hS d hd
      exact tame_set (by simp [h1, h2, hsrc s hs]) (by simp)
    · exact tame_ok hS
  have hnew : ∀ cs, (∀ d, o.dst = some d → (newKey d, true) ∈ opKeys P take fz o env) → Tame (wrSlots take o) (opKeys P take fz o env) (newBox box o.dst cs) := by
    intro cs hk
    unfold newBox
    split
    · rename_i d hd
      split
      · exact tame_set (by simp [(hS d hd).1]) (by simp [hk d hd])
      · exact tame_fail _ _
    · exact tame_fail _ _
  unfold osem
  dsimp only
  split
  · rename_i x ho
    split
    · rename_i r m cap hm
      unfold frzSem
      split
      · rename_i d hb hd
        refine tame_one ?_ ?_
        · simp [(hS d hd).1, (hS d hd).2]
        · simp [opKeys, ho, hm]
      · rename_i d hb hd
        refine tame_one ?_ ?_
        · simp [(hS d hd).1, (hS d hd).2]
        · simp [opKeys, ho, hm]
      · exact tame_fail _ _
    split
    · rename_i s ht
      cases x <;> simp [tmpOf] at ht
      subst ht
      exact htake _ _ (by simp [srcSlots, ho])
    · split
      · exact tame_putset hS
      · exact tame_ok hS
  · rename_i x ho
    split
    · rename_i s ht
      cases x <;> simp [tmpOf] at ht
      subst ht
      exact htake _ _ (by simp [srcSlots, ho])
    · split
      · exact tame_putset hS
      · exact tame_ok hS
  · split <;> first | exact tame_ok hS | exact tame_fail _ _
  · rename_i e ho
    cases fz
    · simp only [cond_false]
      split
      · exact hnew _ (fun d hd => by simp [opKeys, ho, hd])
      · exact tame_fail _ _
    · simp only [cond_true]
      split
      · exact hnew _ (fun d hd => by simp [opKeys, ho, hd])
      · exact tame_fail _ _
  · rename_i e x ho
    split
    · exact hnew _ (fun d hd => by simp [opKeys, ho, hd])
    · exact tame_fail _ _
  · unfold buildSem
    repeat' split
    all_goals first | exact tame_ok hS | exact tame_fail _ _
  · rename_i t m parts ho
    split
    · unfold emptySem
      split
      · rename_i e d hu hd
        split
        · refine tame_set ?_ ?_
          · simp [(hS d hd).1]
          · simp [opKeys, ho, hd]
        · exact tame_fail _ _
      · exact tame_fail _ _
    unfold buildSliceSem
    split
    · split
      · cases (Nat.beq _ _ && _ && _)
        · exact tame_fail _ _
        · simp only [cond_true]
          split
          · exact tame_ok hS
          · exact tame_fail _ _
      split
      · cases (Nat.beq _ _ && _ && _)
        · exact tame_fail _ _
        · simp only [cond_true]
          split
          · exact tame_putset hS
          · exact tame_fail _ _
      · exact tame_fail _ _
    · exact tame_fail _ _
  · -- load
    rename_i t x ho
    unfold loadSem
    split
    · split
      · repeat' split
        all_goals first | exact tame_ok hS | exact tame_fail _ _
      · have hb : ∀ (b : Bool) (x : OSem), Tame (wrSlots take o) (opKeys P take fz o env) x → Tame (wrSlots take o) (opKeys P take fz o env) (bif b then OSem.fail else x) := by
          intro b x hx
          cases b
          · exact hx
          · exact tame_fail _ _
        exact hb _ _ (tame_ok hS)
      · split
        · cases Nat.beq _ _
          · exact tame_fail _ _
          · simp only [cond_true]
            repeat' split
            all_goals first | exact tame_putone hS | exact tame_fail _ _
        · exact tame_fail _ _
      · rename_i r k e1
        split
        · split
          · split
            · rename_i rows d hd _
              refine tame_set ?_ ?_
              · simp [(hS _ (by assumption)).1, (hS _ (by assumption)).2]
              · simp [opKeys, ho, e1]
            · split
              · refine tame_set (put_tame o.dst false _ hS).1 ?_
                simp [opKeys, ho, e1]
              · exact tame_fail _ _
            · split
              · exact tame_ok hS
              · exact tame_fail _ _
            · exact tame_fail _ _
          · exact tame_fail _ _
        · exact tame_fail _ _
      · exact tame_fail _ _
    · exact tame_fail _ _
  · -- store
    rename_i t x v ho
    split
    · unfold storeSem
      split
      · rename_i m r sz i k cs hs e1 hcs
        split
        · cases (Nat.beq _ _ && _)
          · exact tame_fail _ _
          · simp only [cond_true]
            split
            · exact tame_one (by simp) (by simp [opKeys, ho, e1])
            · exact tame_fail _ _
        · exact tame_fail _ _
      · rename_i m r k cs hs e1 hcs
        split
        · cases (Nat.beq _ _ && _)
          · exact tame_fail _ _
          · simp only [cond_true]
            split
            · rename_i s hsrc2
              cases v <;> simp [tmpOf] at hsrc2
              subst hsrc2
              refine tame_set ?_ ?_
              · simp; exact hsrc _ (by simp [srcSlots, ho])
              · simp [opKeys, ho, e1]
            · refine tame_set (by simp) ?_
              simp [opKeys, ho, e1]
        · exact tame_fail _ _
      · exact tame_fail _ _
    · exact tame_fail _ _
  · repeat' split
    all_goals first | exact tame_ok hS | exact tame_fail _ _
  · rename_i t x y ho
    unfold makeSem
    split
    · rename_i d hu h1 h2 hd
      split
      · cases zeroOK P _ _
        · exact tame_fail _ _
        · refine tame_one ?_ ?_
          · simp [(hS d hd).1]
          · simp [opKeys, ho, hd]
      · exact tame_fail _ _
    · exact tame_fail _ _
  · -- binOp
    unfold binSem
    split
    · split
      · cases isShift _
        · simp only [cond_false]
          cases kEq _ _
          · exact tame_fail _ _
          · simp only [cond_true]
            unfold intBin
            split <;> first | exact tame_ok hS | exact tame_putone hS | exact tame_fail _ _
        · simp only [cond_true]
          unfold shiftBin
          split <;> first | exact tame_ok hS | exact tame_putone hS | exact tame_fail _ _
      · split <;> first | exact tame_ok hS | exact tame_fail _ _
    · cases P.eqGuardType P.depth _
      · simp only [cond_false]
        split <;> first | exact tame_ok hS | exact tame_fail _ _
      · exact tame_fail _ _
    · exact tame_fail _ _
  · unfold unSem
    repeat' split
    all_goals first | exact tame_ok hS | exact tame_fail _ _
  · repeat' split
    all_goals first | exact tame_ok hS | exact tame_fail _ _
  · -- slice
    rename_i t x lo hi ho
    unfold sliceSem
    split
    · split
      · cases Nat.beq _ _
        · exact tame_fail _ _
        · simp only [cond_true]
          split
          · split <;> first | exact tame_putone hS | exact tame_fail _ _
          · split <;> first | exact tame_putone hS | exact tame_fail _ _
          · split
            · split
              · rename_i s d hsrc2 hd
                cases x <;> simp [tmpOf] at hsrc2
                subst hsrc2
                refine tame_one ?_ (by simp)
                simp [(hS d hd).1, (hS d hd).2]
                exact hsrc _ (by simp [srcSlots, ho])
              · exact tame_fail _ _
            · exact tame_fail _ _
          · exact tame_fail _ _
      · exact tame_fail _ _
    · exact tame_fail _ _
  · unfold fieldAddrSem
    repeat' split
    all_goals first | exact tame_ok hS | exact tame_fail _ _
  · unfold fieldSem
    repeat' split
    all_goals first | exact tame_ok hS | exact tame_fail _ _
  · -- indexAddr
    have hia : ∀ (t : TypeId) (x i : HV), Tame (wrSlots take o) (opKeys P take fz o env) (indexAddrSem P t x i o.dst) := by
      intro t x i
      unfold indexAddrSem
      split
      · split
        · rename_i kn _ _ _
          split
          · cases kn
            · exact tame_idx (fun j => put_tame o.dst false _ hS)
            · simp only [cond_true]
              cases inLen _ _
              · exact tame_fail _ _
              · exact tame_ok hS
          · cases kn
            · exact tame_idx (fun j => put_tame o.dst false _ hS)
            · simp only [cond_true]
              cases inLen _ _
              · exact tame_fail _ _
              · exact tame_ok hS
          · exact tame_fail _ _
        · exact tame_fail _ _
      · split
        · exact tame_putone hS
        · exact tame_fail _ _
      · split
        · exact tame_putone hS
        · exact tame_fail _ _
      · split
        · cases Nat.beq _ _
          · exact tame_fail _ _
          · exact tame_putone hS
        · exact tame_fail _ _
      · exact tame_fail _ _
    split
    · split
      · unfold arrIdxSem
        repeat' split
        all_goals first | exact tame_putone hS | exact tame_fail _ _
      · exact hia _ _ _
    · exact hia _ _ _
  · -- makeMap
    rename_i t ho
    unfold makeMapSem
    split
    · rename_i d hd
      split
      · exact tame_set (by simp [(hS d hd).1]) (by simp [opKeys, ho, hd])
      · exact tame_fail _ _
    · exact tame_fail _ _
  · -- mapUpdate
    rename_i t x y z ho
    split
    · unfold mapUpdateSem
      split
      · rename_i r kc vc e1 e2 e3
        split
        · cases mapT P _
          · exact tame_fail _ _
          · exact tame_set (by simp) (by simp [opKeys, ho, e1])
        · exact tame_fail _ _
      · exact tame_fail _ _
    · exact tame_fail _ _
  · -- lookup
    rename_i t x y c ho
    unfold lookupSem
    split
    · split
      · cases mapT P _
        · exact tame_fail _ _
        · cases c
          · exact tame_ok hS
          · exact tame_ok hS
      · exact tame_fail _ _
    · exact tame_fail _ _
  · -- index
    split
    · unfold strIdxSem
      repeat' split
      all_goals first | exact tame_putone hS | exact tame_fail _ _
    unfold idxSem
    split
    · unfold strIdxSem
      repeat' split
      all_goals first | exact tame_putone hS | exact tame_fail _ _
    unfold indexSem
    split
    · split
      · rename_i kn _ _ _
        cases (Nat.ble _ _ && _)
        · exact tame_fail _ _
        · cases kn
          · refine tame_idx (fun j => ?_)
            split
            · exact put_tame o.dst false _ hS
            · exact put_tame o.dst false _ hS
          · simp only [cond_true]
            split
            · cases inLen _ _
              · exact tame_fail _ _
              · exact tame_ok hS
            · exact tame_fail _ _
      · exact tame_fail _ _
    · exact tame_fail _ _
  · unfold extractSem
    repeat' split
    all_goals first | exact tame_ok hS | exact tame_fail _ _
  · -- builtins
    rename_i b args ts ho
    unfold builtinSem
    split
    · split
      · unfold lenSem
        repeat' split
        all_goals first | exact tame_ok hS | exact tame_fail _ _
      · exact tame_fail _ _
    · unfold minmaxSem
      repeat' split
      all_goals first | exact tame_ok hS | exact tame_fail _ _
    · unfold minmaxSem
      repeat' split
      all_goals first | exact tame_ok hS | exact tame_fail _ _
    · split
      · split
        · rename_i ks hx
          unfold appNewSem
          split
          · rename_i yv od te ow ls more d hu hd
            split
            · cases (ksEq _ _ && _ && _)
              · exact tame_fail _ _
              · refine tame_all (fun _ => ?_) (fun _ => ?_)
                · simp [(hS d hd).1]
                · simp [opKeys, ho, hd, hx]
            · exact tame_fail _ _
          · exact tame_fail _ _
        · rename_i r m cap e1
          unfold appMutSem
          split
          · rename_i yv od te ow ls more d hu hd
            split
            · cases (ksEq _ _ && _ && _)
              · exact tame_fail _ _
              · refine tame_all (fun _ => ?_) (fun _ => ?_)
                · simp [(hS d hd).1]
                · simp [opKeys, ho, hd, e1]
            · exact tame_fail _ _
          · exact tame_fail _ _
        unfold appendSem
        split
        · split
          · rename_i e s d hu hsrc2 hd
            split
            · cases (ksEq _ _ && _ && _)
              · exact tame_fail _ _
              · refine tame_one ?_ (by simp)
                have hs : s ∈ srcSlots take o := by
                  unfold srcSlots
                  rw [ho]
                  dsimp only
                  cases hl : args.toList with
                  | nil => rw [hl] at hsrc2; cases hsrc2
                  | cons p l =>
                    rw [hl] at hsrc2
                    cases p <;> simp [firstTmp, tmpOf] at hsrc2
                    subst hsrc2
                    simp
                simp [(hS d hd).1, (hS d hd).2, hsrc s hs]
            · exact tame_fail _ _
          · exact tame_fail _ _
        · exact tame_fail _ _
      · exact tame_fail _ _
    · exact tame_fail _ _
  · -- calls
    rename_i f args ts ho
    unfold callSem
    split
    · split
      · rename_i rs hrs
        split
        · have hb : ∀ r, ∀ x ∈ (callUpd rs o.dst r).boxes, (x.1, true) ∈ opKeys P take fz o env := by
            intro r x hx
            unfold callUpd at hx
            rcases List.mem_append.1 hx with hx | hx
            · have := zipL_keys hx
              simp [opKeys, ho, hrs]
              exact .inl this
            · unfold newOf at hx
              split at hx
              · rename_i d c hd hn
                simp at hx
                subst hx
                simp [opKeys, ho, hd]
              · cases hx
          have hs : ∀ r, ∀ x ∈ (callUpd rs o.dst r).sets, x.1 ∈ wrSlots take o := fun r => (put_tame o.dst r.own _ hS).1
          split
          · exact tame_fail _ _
          · cases resFits _ _ _
            · exact tame_fail _ _
            · exact tame_one (hs _) (hb _)
          · refine ⟨fun ⟨_, x, hx⟩ => ⟨_, x, hx, rfl⟩, fun u ⟨x, _, hu⟩ => by subst hu; exact hs _, fun u ⟨x, _, hu⟩ => by subst hu; exact hb _⟩
        · exact tame_fail _ _
      · exact tame_fail _ _
    · exact tame_fail _ _
  · exact tame_fail _ _
end

end Go.HL
