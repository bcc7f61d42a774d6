/-
  HL, part t: whole steps change places; every order of a region.
  Conditions: none.
-/
import Derived.Test.YtneingpnkdeooaaHs
namespace Go.HL
open Go

section
variable {P : Program} {n : Nat} {G G' : Ghost} {st : HSt} {a : Act} {w w' : World} {o : Oper} {Q : Exit → Act → World → Prop} {K : HSt → Prop} {C : Ctx} {ops : List Oper} {ms : List Nat}

theorem body_mono {draw : Bool} {i : Nat} {K' : HSt → Prop} (h : ∀ st, K st → K' st) (hw : body1 C draw ops ms i o st K) : body1 C draw ops ms i o st K' := by
  unfold body1 at hw ⊢
  cases draw with
  | false => exact wp_mono' h hw
  | true =>
    simp only [cond_true] at hw ⊢
    cases hl : logOK ops ms i (actOf C ops o st.env st.box).1 st.log with
    | false => rw [hl] at hw; exact hw.elim
    | true =>
      rw [hl] at hw
      simp only [cond_true] at hw ⊢
      exact wp_mono' (fun _ hk => h _ hk) hw

theorem dec_mono {s : Nat} {K' : HSt → Prop} (h : ∀ st, K st → K' st) (hw : dec s st K) : dec s st K' := by
  unfold dec at hw ⊢
  split at hw
  · exact h _ hw
  · exact h _ hw
  · exact ⟨fun e => h _ (hw.1 e), fun e => h _ (hw.2 e)⟩
  · exact hw

theorem decG_mono {K' : HSt → Prop} (h : ∀ st, K st → K' st) (hw : decG ops o st K) : decG ops o st K' := by
  unfold decG at hw ⊢
  split at hw
  · exact h _ hw
  · exact dec_mono h hw

theorem step_mono {draw : Bool} {i : Nat} {K' : HSt → Prop} (h : ∀ st, K st → K' st) (hw : step1 C draw ops ms i st K) : step1 C draw ops ms i st K' := by
  unfold step1 at hw ⊢
  split at hw
  · exact hw
  · exact decG_mono (fun _ => body_mono h) hw

theorem hops_mono {draw : Bool} {K' : HSt → Prop} : ∀ {l : List Nat} {st : HSt}, (∀ st, K st → K' st) → hops C draw ops ms l st K → hops C draw ops ms l st K'
  | [], _, h, hw => h _ hw
  | _ :: _, _, h, hw => step_mono (fun _ => hops_mono h) hw

/-- the slot of a decision that is made -/
def isSet : HV → Bool
  | .ce (.lit _) => true
  | .tup [] => true
  | _ => false

theorem isSet_cases {v : HV} (h : isSet v = true) : (∃ b, v = .ce (.lit b)) ∨ v = .tup [] := by
  unfold isSet at h
  split at h
  · exact .inl ⟨_, rfl⟩
  · exact .inr rfl
  · cases h

theorem dec_of_lit {s : Nat} (e : isSet (st.env s) = true) : dec s st K ↔ K st := by
  unfold dec
  rcases isSet_cases e with ⟨b, e⟩ | e <;> rw [e]

theorem dec_of_bool {s : Nat} {b : Bool} (e : st.env s = .ce (.bool b)) : dec s st K ↔ ∀ v : Bool, b = v → K { st with env := upd st.env s (.ce (.lit v)) } := by
  unfold dec
  rw [e]
  dsimp only
  constructor
  · intro h v hv
    cases v
    · exact h.2 hv
    · exact h.1 hv
  · intro h; exact ⟨h true, h false⟩

theorem dec_cases (s : Nat) (st : HSt) : isSet (st.env s) = true ∨ (∃ b, st.env s = .ce (.bool b)) ∨ ∀ K, ¬ dec s st K := by
  have no : isSet (st.env s) = false → (∀ b, st.env s ≠ .ce (.bool b)) → ∀ K, ¬ dec s st K := by
    intro h1 h2 K hk
    unfold dec at hk
    split at hk
    · rename_i e; rw [e] at h1; cases h1
    · rename_i e; rw [e] at h1; cases h1
    · rename_i b e; exact h2 b e
    · exact hk
  cases h : isSet (st.env s) with
  | true => exact .inl rfl
  | false =>
    by_cases hb : ∃ b, st.env s = .ce (.bool b)
    · exact .inr (.inl hb)
    · exact .inr (.inr (no h fun b e => hb ⟨b, e⟩))

/-- after a decision the slot is settled -/
theorem dec_lit {s : Nat} {K' : HSt → Prop} (h : ∀ st', isSet (st'.env s) = true → (∀ d, d ≠ s → st'.env d = st.env d) → st'.log = st.log → st'.box = st.box → K st' → K' st') (hw : dec s st K) : dec s st K' := by
  rcases dec_cases s st with e | ⟨b, e⟩ | hno
  · rw [dec_of_lit e] at hw ⊢
    exact h _ e (fun _ _ => rfl) rfl rfl hw
  · rw [dec_of_bool e] at hw ⊢
    intro v hv
    exact h _ (by show isSet (upd st.env s _ s) = true; rw [upd_same]; rfl) (fun d hd => upd_ne _ _ hd) rfl rfl (hw v hv)
  · exact absurd hw (hno _)

theorem dec_comm {s t : Nat} (hst : s ≠ t) (h : dec s st (fun st' => dec t st' K)) : dec t st (fun st' => dec s st' K) := by
  have key : ∀ v, ({ st with env := upd st.env s v } : HSt).env t = st.env t := fun v => upd_ne _ _ (Ne.symm hst)
  have key2 : ∀ v, ({ st with env := upd st.env t v } : HSt).env s = st.env s := fun v => upd_ne _ _ hst
  rcases dec_cases s st with e | ⟨b, e⟩ | hno
  · rw [dec_of_lit e] at h
    rcases dec_cases t st with e2 | ⟨c, e2⟩ | hno
    · rw [dec_of_lit e2] at h ⊢; rw [dec_of_lit e]; exact h
    · rw [dec_of_bool e2] at h ⊢
      intro v hv
      rw [dec_of_lit ((congrArg isSet (key2 _)).trans e)]
      exact h v hv
    · exact absurd h (hno _)
  · rw [dec_of_bool e] at h
    have hb := h b rfl
    rcases dec_cases t st with e2 | ⟨c, e2⟩ | hno
    · rw [dec_of_lit ((congrArg isSet (key _)).trans e2)] at hb
      rw [dec_of_lit e2, dec_of_bool e]
      intro v hv
      subst hv
      exact hb
    · rw [dec_of_bool ((key _).trans e2)] at hb
      rw [dec_of_bool e2]
      intro v hv
      rw [dec_of_bool ((key2 _).trans e)]
      intro u hu
      subst hu
      have := hb v hv
      dsimp only at this ⊢
      rw [upd_comm hst] at this
      exact this
    · exfalso
      rcases dec_cases t { st with env := upd st.env s (.ce (.lit b)) } with e2 | ⟨c, e2⟩ | hno2
      · exact hno (fun _ => True) ((dec_of_lit ((congrArg isSet (key _)).symm.trans e2)).2 trivial)
      · exact hno (fun _ => True) ((dec_of_bool ((key _).symm.trans e2)).2 fun _ _ => trivial)
      · exact hno2 _ hb
  · exact absurd h (hno _)

/-- an operation that does not touch the slot of a decision -/
structure Off (ops : List Oper) (o : Oper) (s : Nat) : Prop where
  rd : s ∉ rdSlots (isTake ops o) o
  wr : s ∉ wrSlots (isTake ops o) o
  g : s ∉ gSlots ops o

theorem actOf_dec {s : Nat} (hoff : Off ops o s) (v : HV) : actOf C ops o (upd st.env s v) st.box = actOf C ops o st.env st.box := by
  symm
  refine actOf_congr (fun d hd => ?_) (fun d hd => ?_) (fun _ _ => rfl)
  · exact (upd_ne _ _ (fun e => hoff.rd (by rw [← e]; exact hd))).symm
  · exact (upd_ne _ _ (fun e => hoff.g (by rw [← e]; exact hd))).symm

theorem app_dec {s : Nat} {u : Upd} (h : ∀ p ∈ u.sets, p.1 ≠ s) (v : HV) : ({ st with env := upd st.env s v } : HSt).app u = { st.app u with env := upd (st.app u).env s v } := by
  have : setsTo (upd st.env s v) u.sets = upd (setsTo st.env u.sets) s v := by
    have := setsTo_comm (l := [(s, v)]) (m := u.sets) (fun p hp q hq e => by simp at hp; subst hp; exact h q hq e.symm) st.env
    exact this
  simp only [HSt.app, this]

theorem app_env {s : Nat} {u : Upd} (h : ∀ p ∈ u.sets, p.1 ≠ s) : (st.app u).env s = st.env s := setsTo_other h

theorem dec_body {s : Nat} {i : Nat} (hoff : Off ops o s) (h : dec s st (fun st' => body1 C true ops ms i o st' K)) : body1 C true ops ms i o st (fun st' => dec s st' K) := by
  have ht := actOf_tame (C := C) (ops := ops) o st.env st.box
  have hne : ∀ u, (actOf C ops o st.env st.box).2.out u → ∀ p ∈ u.sets, p.1 ≠ s := fun u hu p hp e => hoff.wr (e ▸ ht.sets u hu p hp)
  rcases dec_cases s st with e | ⟨b, e⟩ | hno
  · rw [dec_of_lit e] at h
    rw [body_iff] at h ⊢
    refine ⟨h.1, h.2.1, fun u hu => ?_⟩
    have e2 : ((st.app u).logged i (actOf C ops o st.env st.box).1).env s = st.env s := app_env (hne u hu)
    rw [dec_of_lit ((congrArg isSet e2).trans e)]
    exact h.2.2 u hu
  · rw [dec_of_bool e] at h
    have hb1 := h b rfl
    rw [body_iff] at hb1 ⊢
    have hact := actOf_dec (C := C) (st := st) hoff (.ce (.lit b))
    dsimp only at hb1
    rw [hact] at hb1
    refine ⟨hb1.1, hb1.2.1, fun u hu => ?_⟩
    have e2 : ((st.app u).logged i (actOf C ops o st.env st.box).1).env s = .ce (.bool b) := (app_env (hne u hu)).trans e
    have hres := hb1.2.2 u hu
    rw [app_dec (hne u hu)] at hres
    rw [dec_of_bool e2]
    intro v hv
    subst hv
    exact hres
  · exact absurd h (hno _)

theorem body_dec {s : Nat} {i : Nat} (hoff : Off ops o s) (h : body1 C true ops ms i o st (fun st' => dec s st' K)) : dec s st (fun st' => body1 C true ops ms i o st' K) := by
  have ht := actOf_tame (C := C) (ops := ops) o st.env st.box
  have hne : ∀ u, (actOf C ops o st.env st.box).2.out u → ∀ p ∈ u.sets, p.1 ≠ s := fun u hu p hp e => hoff.wr (e ▸ ht.sets u hu p hp)
  rw [body_iff] at h
  obtain ⟨h1, h2, h3⟩ := h
  have henv : ∀ u, (actOf C ops o st.env st.box).2.out u → ((st.app u).logged i (actOf C ops o st.env st.box).1).env s = st.env s := fun u hu => app_env (hne u hu)
  rcases dec_cases s st with e | ⟨b, e⟩ | hno
  · rw [dec_of_lit e, body_iff]
    refine ⟨h1, h2, fun u hu => ?_⟩
    have := h3 u hu
    rw [dec_of_lit ((congrArg isSet (henv u hu)).trans e)] at this
    exact this
  · rw [dec_of_bool e]
    intro v hv
    rw [body_iff]
    have hact := actOf_dec (C := C) (st := st) hoff (.ce (.lit v))
    dsimp only
    rw [hact]
    refine ⟨h1, h2, fun u hu => ?_⟩
    have := h3 u hu
    rw [dec_of_bool ((henv u hu).trans e)] at this
    rw [app_dec (hne u hu)]
    exact this v hv
  · exfalso
    obtain ⟨u0, hu0⟩ := ht.strict h2
    have h0 := h3 u0 hu0
    rcases dec_cases s ((st.app u0).logged i (actOf C ops o st.env st.box).1) with e | ⟨b, e⟩ | hno2
    · exact hno (fun _ => True) ((dec_of_lit ((congrArg isSet (henv u0 hu0)).symm.trans e)).2 trivial)
    · exact hno (fun _ => True) ((dec_of_bool ((henv u0 hu0).symm.trans e)).2 fun _ _ => trivial)
    · exact hno2 _ h0

theorem gSlots_of {s : Nat} {want : Bool} (h : guardOf ops o = some (s, want)) : gSlots ops o = [s] := by unfold gSlots; rw [h]

theorem step_comm {x y : Nat} {ox oy : Oper} (hxy : x ≠ y) (hx : ops[x]? = some ox) (hy : ops[y]? = some oy) (hap : Apart ops ox oy) (hm1 : (ms.getD x 0).testBit y = false) (hm2 : (ms.getD y 0).testBit x = false)
    (hlx : st.log x = []) (h : step1 C true ops ms x st (fun st' => step1 C true ops ms y st' K)) : step1 C true ops ms y st (fun st' => step1 C true ops ms x st' K) := by
  unfold step1 at h ⊢
  rw [hx] at h
  rw [hy]
  dsimp only at h ⊢
  simp only [hy] at h
  simp only [hx]
  cases hgx : guardOf ops ox with
  | none =>
    have h' : body1 C true ops ms x ox st (fun st' => decG ops oy st' fun st' => body1 C true ops ms y oy st' K) := by unfold decG at h; rw [hgx] at h; exact h
    have hdx : ∀ (st : HSt) (K : HSt → Prop), decG ops ox st K = K st := fun st K => by unfold decG; rw [hgx]
    cases hgy : guardOf ops oy with
    | none =>
      have hdy : ∀ (st : HSt) (K : HSt → Prop), decG ops oy st K = K st := fun st K => by unfold decG; rw [hgy]
      simp only [hdx, hdy] at h' ⊢
      exact body_comm hxy hx hy hap hm1 hm2 hlx h'
    | some sw =>
      obtain ⟨s, want⟩ := sw
      have hdy : ∀ (st : HSt) (K : HSt → Prop), decG ops oy st K = dec s st K := fun st K => by unfold decG; rw [hgy]
      have hs : s ∈ gSlots ops oy := by rw [gSlots_of hgy]; simp
      have hoff : Off ops ox s := ⟨hap.rd_g s hs, fun hw => hap.wr_g s hw hs, by unfold gSlots; rw [hgx]; simp⟩
      simp only [hdx, hdy] at h' ⊢
      refine dec_lit (fun st' _ henv hlog _ hb => ?_) (body_dec hoff h')
      exact body_comm hxy hx hy hap hm1 hm2 (by rw [hlog]; exact hlx) hb
  | some sx =>
    obtain ⟨s, wx⟩ := sx
    have hdx : ∀ (st : HSt) (K : HSt → Prop), decG ops ox st K = dec s st K := fun st K => by unfold decG; rw [hgx]
    have hs : s ∈ gSlots ops ox := by rw [gSlots_of hgx]; simp
    cases hgy : guardOf ops oy with
    | none =>
      have hdy : ∀ (st : HSt) (K : HSt → Prop), decG ops oy st K = K st := fun st K => by unfold decG; rw [hgy]
      have hoff : Off ops oy s := ⟨hap.g_rd s hs, fun hw => hap.g_wr s hw hs, by unfold gSlots; rw [hgy]; simp⟩
      simp only [hdx, hdy] at h ⊢
      have h1 : dec s st (fun st' => body1 C true ops ms y oy st' (fun st'' => body1 C true ops ms x ox st'' K)) :=
        dec_lit (fun st' _ _ hlog _ hb => body_comm hxy hx hy hap hm1 hm2 (by rw [hlog]; exact hlx) hb) h
      exact dec_body hoff h1
    | some sy =>
      obtain ⟨t, wy⟩ := sy
      have hdy : ∀ (st : HSt) (K : HSt → Prop), decG ops oy st K = dec t st K := fun st K => by unfold decG; rw [hgy]
      have ht : t ∈ gSlots ops oy := by rw [gSlots_of hgy]; simp
      simp only [hdx, hdy] at h ⊢
      by_cases hst : s = t
      · -- one slot
        subst hst
        refine dec_lit (fun st' hb _ hlog _ hh => ?_) h
        -- the second decision is idle
        have tx := actOf_tame (C := C) (ops := ops) ox st'.env st'.box
        have ty := actOf_tame (C := C) (ops := ops) oy st'.env st'.box
        have hx1 : body1 C true ops ms x ox st' (fun st'' => body1 C true ops ms y oy st'' K) := by
          rw [body_iff] at hh ⊢
          refine ⟨hh.1, hh.2.1, fun u hu => ?_⟩
          have := hh.2.2 u hu
          have e : ((st'.app u).logged x (actOf C ops ox st'.env st'.box).1).env s = st'.env s :=
            app_env (fun p hp e => hap.wr_g p.1 (tx.sets u hu p hp) (by rw [e]; exact ht))
          rw [dec_of_lit ((congrArg isSet e).trans hb)] at this
          exact this
        have hy1 := body_comm hxy hx hy hap hm1 hm2 (by rw [hlog]; exact hlx) hx1
        rw [body_iff] at hy1 ⊢
        refine ⟨hy1.1, hy1.2.1, fun u hu => ?_⟩
        have e : ((st'.app u).logged y (actOf C ops oy st'.env st'.box).1).env s = st'.env s :=
          app_env (fun p hp e => hap.g_wr p.1 (ty.sets u hu p hp) (by rw [e]; exact hs))
        rw [dec_of_lit ((congrArg isSet e).trans hb)]
        exact hy1.2.2 u hu
      · have hoffx : Off ops ox t := ⟨hap.rd_g t ht, fun hw => hap.wr_g t hw ht, by rw [gSlots_of hgx]; simp; exact fun e => hst e.symm⟩
        have hoffy : Off ops oy s := ⟨hap.g_rd s hs, fun hw => hap.g_wr s hw hs, by rw [gSlots_of hgy]; simp; exact hst⟩
        -- D_s; B_x; D_t; B_y
        have h1 : dec s st (fun st1 => dec t st1 (fun st2 => body1 C true ops ms x ox st2 (fun st3 => body1 C true ops ms y oy st3 K))) := dec_mono (fun _ => body_dec hoffx) h
        have h2 := dec_comm hst h1
        refine dec_lit (fun st1 _ _ hl1 _ hh => ?_) h2
        refine dec_body hoffy (dec_lit (fun st2 _ _ hl2 _ hh2 => ?_) hh)
        exact body_comm hxy hx hy hap hm1 hm2 (by rw [hl2, hl1]; exact hlx) hh2
end

end Go.HL
