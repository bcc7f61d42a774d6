/-
  HL, part w: loops; all code.
  Conditions: none.
-/
import Derived.Test.YtneingpnkdeooaaHv
namespace Go.HL
open Go

section
variable {P : Program} {n : Nat} {G G' : Ghost} {st : HSt} {a : Act} {w w' : World} {o : Oper} {Q : Exit → Act → World → Prop} {K : HSt → Prop} {C : Ctx} {ops : List Oper} {ms : List Nat}

/-! ### what a loop keeps -/

def keepB (boxes : List Nat) (G : Ghost) : Ghost := { G with beta := fun r => bif memN r boxes then G.beta r else none }

theorem ptrC_in {boxes : List Nat} {r o : Nat} (h : memN r boxes = true) : ptrC boxes (.ptr r o) = .ptr r o := by
  show (bif memN r boxes then HC.ptr r o else HC.junk) = _
  rw [h]; rfl
theorem ptrC_out {boxes : List Nat} {r o : Nat} (h : memN r boxes = false) : ptrC boxes (.ptr r o) = .junk := by
  show (bif memN r boxes then HC.ptr r o else HC.junk) = _
  rw [h]; rfl

theorem ptrC_rel {boxes : List Nat} {L : Option Loc} {c : HC} {v : Value} (h : CRel G w L c v) : CRel (keepB boxes G) w L (ptrC boxes c) v := by
  cases c with
  | ptr r o =>
    cases hb : memN r boxes with
    | true =>
      rw [ptrC_in hb]
      obtain ⟨b, h1, h2⟩ := h
      exact ⟨b, by unfold keepB; dsimp only; rw [hb]; exact h1, h2⟩
    | false => rw [ptrC_out hb]; exact CRel.oneCell (c := .ptr r o) h
  | msl r o cap =>
    show CRel _ _ _ (bif memN r boxes then HC.msl r o cap else HC.junk) _
    cases hb : memN r boxes with
    | true =>
      obtain ⟨b, h1, h2⟩ := h
      exact ⟨b, by unfold keepB; dsimp only; rw [hb]; exact h1, h2⟩
    | false => exact CRel.oneCell (c := .msl r o cap) h
  | mp r s i o =>
    show CRel _ _ _ (bif memN r boxes then HC.mp r s i o else HC.junk) _
    cases hb : memN r boxes with
    | true =>
      obtain ⟨b, h1, h2⟩ := h
      exact ⟨b, by unfold keepB; dsimp only; rw [hb]; exact h1, h2⟩
    | false => exact CRel.oneCell (c := .mp r s i o) h
  | mapv r =>
    show CRel _ _ _ (bif memN r boxes then HC.mapv r else HC.junk) _
    cases hb : memN r boxes with
    | true =>
      obtain ⟨b, h1, h2⟩ := h
      exact ⟨b, by unfold keepB; dsimp only; rw [hb]; exact h1, h2⟩
    | false => exact CRel.oneCell (c := .mapv r) h
  | _ => exact h

theorem ptrB_rel {boxes : List Nat} {r o : Nat} {c : HC} {v : Value} (h : BRel G w r o c v) : BRel (keepB boxes G) w r o (ptrC boxes c) v := by
  cases c with
  | ptr r' o' =>
    have h2 : CRel (keepB boxes G) w none (ptrC boxes (.ptr r' o')) v := ptrC_rel (c := .ptr r' o') h
    cases hb : memN r' boxes with
    | true => rw [ptrC_in hb] at h2 ⊢; exact h2
    | false => rw [ptrC_out hb] at h2 ⊢; exact h2
  | msl r' o' cap =>
    have h2 : CRel (keepB boxes G) w none (ptrC boxes (.msl r' o' cap)) v := ptrC_rel (c := .msl r' o' cap) h
    have e : ptrC boxes (.msl r' o' cap) = bif memN r' boxes then HC.msl r' o' cap else HC.junk := rfl
    rw [e] at h2 ⊢
    cases hb : memN r' boxes <;> rw [hb] at h2 <;> exact h2
  | mp r' s i o' =>
    have h2 : CRel (keepB boxes G) w none (ptrC boxes (.mp r' s i o')) v := ptrC_rel (c := .mp r' s i o') h
    have e : ptrC boxes (.mp r' s i o') = bif memN r' boxes then HC.mp r' s i o' else HC.junk := rfl
    rw [e] at h2 ⊢
    cases hb : memN r' boxes <;> rw [hb] at h2 <;> exact h2
  | mapv r' =>
    have h2 : CRel (keepB boxes G) w none (ptrC boxes (.mapv r')) v := ptrC_rel (c := .mapv r') h
    have e : ptrC boxes (.mapv r') = bif memN r' boxes then HC.mapv r' else HC.junk := rfl
    rw [e] at h2 ⊢
    cases hb : memN r' boxes <;> rw [hb] at h2 <;> exact h2
  | _ => exact h

theorem ptrIn_rel {boxes : List Nat} {L : Option Loc} {v : HV} {u : Value} (h : VRel G w L v u) : VRel (keepB boxes G) w L (ptrIn boxes v) u := by
  cases v with
  | ce c => exact ptrC_rel h
  | agg cs =>
    obtain ⟨vs, hv, hs, h⟩ := h
    refine ⟨vs, hv, by simpa using hs, fun j c hc => ?_⟩
    rw [List.getElem?_map] at hc
    cases hj : cs[j]? with
    | none => simp [hj] at hc
    | some x =>
      simp [hj] at hc
      subst hc
      obtain ⟨u, hu, hr⟩ := h j x hj
      exact ⟨u, hu, ptrC_rel hr⟩
  | _ => trivial

theorem projV_rel {hard : Bool} {boxes : List Nat} {s : Nat} {L : Option Loc} {v : HV} {u : Value} (h : VRel G w L v u) : VRel (keepB boxes G) w L (projV hard boxes s v) u := by
  unfold projV
  cases (hard || Nat.ble 100000 s) with
  | true => exact ptrIn_rel h
  | false => exact ptrIn_rel h.soft

theorem projB_rel {hard : Bool} {boxes : List Nat} {r : Nat} {cells : List HC} (hr : memN r boxes = true) (h : BoxAt G w r cells) : BoxAt (keepB boxes G) w r (projB hard boxes cells) := by
  have hkb : ∀ b, G.beta r = some b → (keepB boxes G).beta r = some b := fun b e => by unfold keepB; dsimp only; rw [hr]; exact e
  rcases h with h | ⟨ks, rows, cap, rfl, b, vs, T, h1, h2⟩ | ⟨rfl, b, h⟩ | ⟨f, rfl, b, es, clk, h1, h2⟩ | ⟨ks, rows, rfl, b, h1, h2⟩
  case inr.inl => exact .inr (.inl ⟨ks, rows, cap, by cases hard <;> rfl, b, vs, T, hkb b h1, h2⟩)
  case inr.inr.inl => exact .inr (.inr (.inl ⟨rfl, b, hkb b h⟩))
  case inr.inr.inr.inl => exact .inr (.inr (.inr (.inl ⟨f, by cases hard <;> rfl, b, es, clk, hkb b h1, h2⟩)))
  case inr.inr.inr.inr => exact .inr (.inr (.inr (.inr ⟨ks, rows, by cases hard <;> rfl, b, hkb b h1, h2⟩)))
  obtain ⟨b, vs, T, h1, h2, h3, h4, h5, h6⟩ := h
  refine .inl ⟨b, vs, T, by unfold keepB; dsimp only; rw [hr]; exact h1, h2, h3, h4, by simpa [projB] using h5, fun j c hc => ?_⟩
  unfold projB at hc
  rw [List.getElem?_map] at hc
  cases hj : cells[j]? with
  | none => simp [hj] at hc
  | some x =>
    simp [hj] at hc
    subst hc
    obtain ⟨v, hv, hb⟩ := h6 j x hj
    refine ⟨v, hv, ?_⟩
    cases hard with
    | true => exact ptrB_rel hb
    | false => exact ptrB_rel hb.soft

theorem injEnv_map (f : Nat → HV) : ∀ (l : List Nat) (x : Nat), (x ∈ l → injEnv l (l.map f) x = f x) ∧ (x ∉ l → injEnv l (l.map f) x = .junk)
  | [], x => ⟨fun h => (by cases h), fun _ => rfl⟩
  | s :: l, x => by
    obtain ⟨h1, h2⟩ := injEnv_map f l x
    unfold List.map injEnv
    by_cases hx : x = s
    · subst hx
      exact ⟨fun _ => upd_same _ _ _, fun h => absurd (by simp) h⟩
    · rw [upd_ne _ _ hx]
      exact ⟨fun h => h1 (by simpa [hx] using h), fun h => h2 (fun hm => h (by simp [hm]))⟩

theorem injBox_map (g : List HC → List HC) (box : Nat → Option (List HC)) : ∀ (l : List Nat) (bs : List (List HC)), boxesOf box l = some bs → ∀ r,
    (r ∈ l → ∃ c, box r = some c ∧ injBox l (bs.map g) r = some (g c)) ∧ (r ∉ l → injBox l (bs.map g) r = none)
  | [], bs, h, r => by cases h; exact ⟨fun h => (by cases h), fun _ => rfl⟩
  | s :: l, bs, h, r => by
    unfold boxesOf at h
    split at h
    · rename_i c cs hc hcs
      cases h
      obtain ⟨h1, h2⟩ := injBox_map g box l cs hcs r
      unfold List.map injBox
      by_cases hx : r = s
      · subst hx
        exact ⟨fun _ => ⟨c, hc, upd_same _ _ _⟩, fun h => absurd (by simp) h⟩
      · rw [upd_ne _ _ hx]
        exact ⟨fun h => h1 (by simpa [hx] using h), fun h => h2 (fun hm => h (by simp [hm]))⟩
    · cases h

theorem isOwn_soft {s : Nat} {v : HV} {hard : Bool} {boxes : List Nat} (h : isOwn (projV hard boxes s v) = true) : isOwn v = true := by
  unfold projV at h
  cases v with
  | ce c =>
    cases hh : (hard || Nat.ble 100000 s) <;> rw [hh] at h <;> cases c <;> first
      | exact h
      | (simp only [ptrIn, HV.soft, HC.soft, ptrC, cond_true, cond_false, isOwn] at h; cases h)
      | (rename_i r o; simp only [ptrIn, HV.soft, HC.soft, ptrC, cond_true, cond_false] at h; cases hb : memN r boxes <;> rw [hb] at h <;> simp [isOwn] at h)
      | (rename_i r; simp only [ptrIn, HV.soft, HC.soft, ptrC, cond_true, cond_false] at h; cases hb : memN r boxes <;> rw [hb] at h <;> simp [isOwn] at h)
      | (rename_i r o cap; simp only [ptrIn, HV.soft, HC.soft, ptrC, cond_true, cond_false] at h; cases hb : memN r boxes <;> rw [hb] at h <;> simp [isOwn] at h)
      | (rename_i r s2 i o; simp only [ptrIn, HV.soft, HC.soft, ptrC, cond_true, cond_false] at h; cases hb : memN r boxes <;> rw [hb] at h <;> simp [isOwn] at h)
  | _ => cases hh : (hard || Nat.ble 100000 s) <;> rw [hh] at h <;> simp [ptrIn, HV.soft, isOwn] at h

/-- what the loop does not keep is forgotten -/
theorem proj_rel {an : LAnn} {sl : List Nat} {v : LV} (h : Rel n G st a w) (hp : proj an sl st = some v) : Rel n (keepB an.boxes G) (inject an sl v) a w ∧ Evolves G w (keepB an.boxes G) w := by
  unfold proj at hp
  split at hp
  case h_2 => cases hp
  rename_i bs hbs
  cases hp
  refine ⟨⟨h.defers, h.size, fun d hd => ?_, ?_⟩, rfl, rfl, rfl, Nat.le_refl _, fun _ _ h => ⟨h, rfl⟩, fun _ _ h => ⟨h, rfl, fun _ h => h⟩, fun r b _ hb => ?_⟩
  · -- slots
    show VRel _ w (flagL (injEnv sl (sl.map fun s => projV (an.hard s) an.boxes s (st.env s))) d) (injEnv sl (sl.map fun s => projV (an.hard s) an.boxes s (st.env s)) d) _
    obtain ⟨e1, e2⟩ := injEnv_map (fun s => projV (an.hard s) an.boxes s (st.env s)) sl d
    obtain ⟨f1, f2⟩ := injEnv_map (fun s => projV (an.hard s) an.boxes s (st.env s)) sl (FL d)
    by_cases hds : d ∈ sl
    · rw [e1 hds]
      have hr := h.env d hd
      have hflag : ∀ L, flagL (injEnv sl (sl.map fun s => projV (an.hard s) an.boxes s (st.env s))) d = some L → flagL st.env d = some L := by
        intro L hL
        unfold flagL at hL ⊢
        cases ho : isOwn (injEnv sl (sl.map fun s => projV (an.hard s) an.boxes s (st.env s)) (FL d)) with
        | false => rw [ho] at hL; cases hL
        | true =>
          rw [ho] at hL
          by_cases hfs : FL d ∈ sl
          · rw [f1 hfs] at ho
            rw [isOwn_soft ho]
            exact hL
          · rw [f2 hfs] at ho; cases ho
      cases hL : flagL (injEnv sl (sl.map fun s => projV (an.hard s) an.boxes s (st.env s))) d with
      | none => exact projV_rel hr.drop
      | some L => rw [hflag L hL] at hr; exact projV_rel hr
    · rw [e2 hds]; trivial
  · -- boxes
    refine ⟨fun r cells hr => ?_, fun r b hb => ?_, h.mem.own, h.mem.imm⟩
    · have hr' : injBox an.boxes (bs.map (projB (an.hard 1000000) an.boxes)) r = some cells := hr
      obtain ⟨b1, b2⟩ := injBox_map (projB (an.hard 1000000) an.boxes) st.box an.boxes bs hbs r
      by_cases hm : r ∈ an.boxes
      · obtain ⟨c, hc, he⟩ := b1 hm
        rw [he] at hr'
        cases hr'
        exact projB_rel (memN_iff.2 hm) (h.mem.box r c hc)
      · rw [b2 hm] at hr'; cases hr'
    · unfold keepB at hb
      dsimp only at hb
      cases hm : memN r an.boxes with
      | false => rw [hm] at hb; cases hb
      | true =>
        obtain ⟨b1, _⟩ := injBox_map (projB (an.hard 1000000) an.boxes) st.box an.boxes bs hbs r
        obtain ⟨c, _, he⟩ := b1 (memN_iff.1 hm)
        exact ⟨_, he⟩
  · unfold keepB at hb
    dsimp only at hb
    cases hm : memN r an.boxes with
    | false => rw [hm] at hb; cases hb
    | true => rw [hm] at hb; exact hb

theorem keepSt_rel {boxes : List Nat} (h : Rel n G st a w) : Rel n (keepB boxes G) (keepSt boxes st) a w ∧ Evolves G w (keepB boxes G) w := by
  refine ⟨⟨h.defers, h.size, fun d hd => ?_, ?_⟩, rfl, rfl, rfl, Nat.le_refl _, fun _ _ h => ⟨h, rfl⟩, fun _ _ h => ⟨h, rfl, fun _ h => h⟩, fun r b _ hb => ?_⟩
  · show VRel _ w (flagL (fun s => ptrIn boxes (st.env s)) d) (ptrIn boxes (st.env d)) _
    have hr := h.env d hd
    have hflag : ∀ L, flagL (fun s => ptrIn boxes (st.env s)) d = some L → flagL st.env d = some L := by
      intro L hL
      unfold flagL at hL ⊢
      cases ho : isOwn (ptrIn boxes (st.env (FL d))) with
      | false => rw [ho] at hL; cases hL
      | true =>
        rw [ho] at hL
        have : isOwn (st.env (FL d)) = true := isOwn_soft (s := 0) (hard := true) (boxes := boxes) ho
        rw [this]
        exact hL
    cases hL : flagL (fun s => ptrIn boxes (st.env s)) d with
    | none => exact ptrIn_rel hr.drop
    | some L => rw [hflag L hL] at hr; exact ptrIn_rel hr
  · refine ⟨fun r cells hr => ?_, fun r b hb => ?_, h.mem.own, h.mem.imm⟩
    · have hr' : (bif memN r boxes then keepC boxes (st.box r) else none) = some cells := hr
      cases hm : memN r boxes with
      | false => rw [hm] at hr'; cases hr'
      | true =>
        rw [hm] at hr'
        cases hc : st.box r with
        | none => rw [hc] at hr'; cases hr'
        | some cs =>
          rw [hc] at hr'
          have e : cells = cs.map (ptrC boxes) := by cases hr'; rfl
          rw [e]
          exact projB_rel (hard := true) hm (h.mem.box r cs hc)
    · unfold keepB at hb
      dsimp only at hb
      cases hm : memN r boxes with
      | false => rw [hm] at hb; cases hb
      | true =>
        rw [hm] at hb
        obtain ⟨cs, hc⟩ := h.mem.beta r b hb
        refine ⟨cs.map (ptrC boxes), ?_⟩
        show (bif memN r boxes then keepC boxes (st.box r) else none) = _
        rw [hm, hc]
        rfl
  · unfold keepB at hb
    dsimp only at hb
    cases hm : memN r boxes with
    | false => rw [hm] at hb; cases hb
    | true => rw [hm] at hb; exact hb

theorem loopN_mono {B : LV → (HEx → LV → Prop) → Prop} {Q : HEx → LV → Prop} : ∀ {N : Nat} {v : LV}, loopN B Q N v → N ≠ 0
  | 0, _, h => h.elim
  | _ + 1, _, _ => Nat.succ_ne_zero _

theorem ofEx_then {next : Act → World → Prop} {e : HEx} (hne : e ≠ .normal) (a : Act) (w : World) : Exit.then next Q (ofEx e) a w = Q (ofEx e) a w := by
  cases e with
  | normal => exact absurd rfl hne
  | exit id => rfl
  | ret => rfl

theorem LR.wp_fail {Q : HEx → LV → Prop} : ¬ (LR.fail).wp Q := id

theorem out_post {an : LAnn} {Qh : HEx → HSt → Prop} {e : HEx} {st2 : HSt} {a2 : Act} {w2 : World} {G2 : Ghost} (hev : Evolves G w G2 w2) (hr2 : Rel C.n G2 st2 a2 w2)
    (hq : outK an (fun e v' => Qh e (inject an an.outs v')) e st2) : PostE C.n G w Qh (ofEx e) a2 w2 := by
  unfold outK at hq
  cases hpv : proj an an.outs st2 with
  | none => rw [hpv] at hq; exact hq.elim
  | some v2 =>
    rw [hpv] at hq
    obtain ⟨hr3, hev3⟩ := proj_rel hr2 hpv
    exact ⟨e, _, _, rfl, hq, hr3, hev.trans hev3⟩

theorem hreg_sound (hm : C.P.follows .mixedOrders = true) (hΓ : ∀ f S, C.Γ f = some S → Sound C.P f S) {id : Nat} {oa : Array Oper} {draw : Bool} {Qh : HEx → HSt → Prop} (h : Rel C.n G st a w)
    (hx : hreg C id oa draw st Qh) : (Code.region id oa draw).wp C.P (PostE C.n G w Qh) a w := region_sound hm hΓ h hx

theorem cond_sound {c : Operand} {x y : Code} (ihx : ∀ (G : Ghost) (st : HSt) (a : Act) (w : World) (Qh : HEx → HSt → Prop), Rel C.n G st a w → hexec C x st Qh → x.wp C.P (PostE C.n G w Qh) a w)
    (ihy : ∀ (G : Ghost) (st : HSt) (a : Act) (w : World) (Qh : HEx → HSt → Prop), Rel C.n G st a w → hexec C y st Qh → y.wp C.P (PostE C.n G w Qh) a w) {Qh : HEx → HSt → Prop} (h : Rel C.n G st a w)
    (hx : condRule C c st (fun st' => hexec C x st' Qh) (fun st' => hexec C y st' Qh)) : (Code.cond c x y).wp C.P (PostE C.n G w Qh) a w := by
  unfold condRule at hx
  cases hok : condOK C.n c with
  | false => rw [hok] at hx; exact hx.elim
  | true =>
    rw [hok] at hx
    simp only [cond_true] at hx
    unfold condOK at hok
    rw [Bool.and_eq_true] at hok
    have hn : C.n ≤ 100000 := Nat.le_of_ble_eq_true hok.1
    have htmp : ∀ t, c = .tmp t → t < C.n := fun t e => by
      rw [e] at hok
      exact Nat.le_of_ble_eq_true (n := t + 1) hok.2
    obtain ⟨L, hv⟩ := eval_rel (P := C.P) h 0 c (fun d e => Nat.lt_of_lt_of_le (htmp d e) hn)
    split at hx
    · rename_i e
      rw [e] at hv
      exact wp_cond_true hv (ihx G st a w Qh h hx)
    · rename_i e
      rw [e] at hv
      exact wp_cond_false hv (ihy G st a w Qh h hx)
    · rename_i t e
      rw [e] at hv
      have hcs : ∀ b, t = b → Rel C.n G (condSt c b st) a w := fun b hb => by
        subst hb
        cases c with
        | tmp s => exact rel_lit (htmp s rfl) hn h e
        | _ => exact h
      refine wp_cond_split hv (fun ht => ?_) (fun ht => ?_)
      · exact ihx G _ a w Qh (hcs true ht) (hx.1 ht)
      · exact ihy G _ a w Qh (hcs false ht) (hx.2 ht)
    · exact hx.elim

/-- a fragment with a given outcome -/
theorem frag_sound {c : Code} {key : Option Nat} {K0 : Prop} {Qh : HEx → HSt → Prop} (hkey : codeKey c = key) (hf : FragOK C c) (h : Rel C.n G st a w) (h0 : K0 → c.wp C.P (PostE C.n G w Qh) a w)
    (h1 : ∀ (G : Ghost) (st : HSt) (a : Act) (w : World) (Qh : HEx → HSt → Prop), Rel C.n G st a w → frag1 C c st Qh → c.wp C.P (PostE C.n G w Qh) a w)
    (hx : fragOr C key st Qh K0) : c.wp C.P (PostE C.n G w Qh) a w := by
  unfold fragOr at hx
  split at hx
  · rename_i an S hfind
    split at hx
    · rename_i v hv
      have hfr := hf an S (by rw [hkey]; exact hfind) v _ hx
      obtain ⟨hr, hev⟩ := proj_rel h hv
      refine wp_mono (h1 _ _ a w _ hr hfr) fun e a' w' hp => ?_
      obtain ⟨he, st', G', rfl, hq, hr2, hev2⟩ := hp
      exact out_post (hev.trans hev2) hr2 hq
    · exact hx.elim
  · exact h0 hx

theorem code_sound (hm : C.P.follows .mixedOrders = true) (hΓ : ∀ f S, C.Γ f = some S → Sound C.P f S) : ∀ (c : Code), LoopsOK C c →
    ∀ (G : Ghost) (st : HSt) (a : Act) (w : World) (Qh : HEx → HSt → Prop), Rel C.n G st a w → hexec C c st Qh → c.wp C.P (PostE C.n G w Qh) a w
  | .skip, _, G, st, a, w, Qh, h, hx => wp_skip ⟨.normal, st, G, rfl, hx, h, Evolves.refl _ _⟩
  | .label _, _, G, st, a, w, Qh, h, hx => wp_label ⟨.normal, st, G, rfl, hx, h, Evolves.refl _ _⟩
  | .exit id, _, G, st, a, w, Qh, h, hx => wp_exit ⟨.exit id, st, G, rfl, hx, h, Evolves.refl _ _⟩
  | .ret, _, G, st, a, w, Qh, h, hx => wp_ret ⟨.ret, st, G, rfl, hx, h, Evolves.refl _ _⟩
  | .region id oa draw, hl, G, st, a, w, Qh, h, hx => by
    unfold hexec at hx
    exact frag_sound (c := .region id oa draw) rfl hl h (fun h0 => hreg_sound hm hΓ h h0) (fun G st a w Qh h h0 => hreg_sound hm hΓ h h0) hx
  | .seq x y, hl, G, st, a, w, Qh, h, hx => by
    unfold hexec at hx
    refine wp_seq (wp_mono (code_sound hm hΓ x hl.1 G st a w _ h hx) fun e a' w' hp => ?_)
    obtain ⟨he, st', G', rfl, hq, hr, hev⟩ := hp
    cases he with
    | normal => exact wp_mono (code_sound hm hΓ y hl.2 G' st' a' w' Qh hr hq) fun e a w hp => hp.back hev
    | exit id => exact ⟨.exit id, st', G', rfl, hq, hr, hev⟩
    | ret => exact ⟨.ret, st', G', rfl, hq, hr, hev⟩
  | .cond c x y, hl, G, st, a, w, Qh, h, hx => by
    unfold hexec at hx
    have ihx := code_sound hm hΓ x hl.1
    have ihy := code_sound hm hΓ y hl.2.1
    exact frag_sound (c := .cond c x y) rfl hl.2.2 h (fun h0 => cond_sound ihx ihy h h0) (fun G st a w Qh h h0 => cond_sound ihx ihy h h0) hx
  | .block id c, hl, G, st, a, w, Qh, h, hx => by
    unfold hexec at hx
    refine wp_block (wp_mono (code_sound hm hΓ c hl G st a w _ h hx) fun e a' w' hp => ?_)
    obtain ⟨he, st', G', rfl, hq, hr, hev⟩ := hp
    cases he with
    | normal => exact ⟨.normal, st', G', rfl, hq, hr, hev⟩
    | ret => exact ⟨.ret, st', G', rfl, hq, hr, hev⟩
    | exit j =>
      dsimp only [ofEx, Exit.inBlock] at hq ⊢
      by_cases hj : j = id
      · subst hj
        rw [if_pos rfl]
        rw [Nat.beq_refl] at hq
        exact ⟨.normal, st', G', rfl, hq, hr, hev⟩
      · rw [if_neg hj]
        have : Nat.beq j id = false := by
          cases hb : Nat.beq j id with
          | false => rfl
          | true => exact absurd (Nat.eq_of_beq_eq_true hb) hj
        rw [this] at hq
        exact ⟨.exit j, st', G', rfl, hq, hr, hev⟩
  | .loop body, hl, G, st, a, w, Qh, h, hx => by
    unfold hexec at hx
    split at hx
    case h_1 =>
      rename_i an _ _
      refine wp_loop_rounds (an.outs.headD 0) ?_
      have key : ∀ (N : Nat) (st : HSt) (G' : Ghost) (a' : Act) (w' : World), Rel C.n G' st a' w' → Evolves G w G' w' → loopU an.boxes (hexec C body) Qh N st → Code.rounds C.P body (PostE C.n G w Qh) N a' w' := by
        intro N
        induction N with
        | zero => intro st G' a' w' _ _ hN; exact hN.elim
        | succ N ih =>
          intro st G' a' w' hr hev hN
          rw [rounds_succ]
          obtain ⟨hr1, hev1⟩ := keepSt_rel (boxes := an.boxes) hr
          have hb : hexec C body (keepSt an.boxes st) _ := hN
          refine wp_mono (code_sound hm hΓ body hl.1 _ _ a' w' _ hr1 hb) fun e a2 w2 hp => ?_
          obtain ⟨he, st2, G2, rfl, hq, hr2, hev2⟩ := hp
          cases he with
          | normal => exact ih st2 _ a2 w2 hr2 ((hev.trans hev1).trans hev2) hq
          | exit id => exact ⟨.exit id, st2, G2, rfl, hq, hr2, (hev.trans hev1).trans hev2⟩
          | ret => exact ⟨.ret, st2, G2, rfl, hq, hr2, (hev.trans hev1).trans hev2⟩
      exact key _ st G a w h (Evolves.refl _ _) hx
    split at hx
    case h_2 => exact hx.elim
    rename_i an S hfind
    split at hx
    case h_2 => exact hx.elim
    rename_i v hv
    obtain ⟨N, hN⟩ := hl.2 an S hfind v _ hx
    obtain ⟨hr, hev⟩ := proj_rel h hv
    refine wp_loop_rounds N ?_
    have key : ∀ (N : Nat) (v : LV) (G' : Ghost) (a' : Act) (w' : World), Rel C.n G' (inject an an.slots v) a' w' → Evolves G w G' w' → loopN (bodyT C an body) (fun e v' => Qh e (inject an an.outs v')) N v →
        Code.rounds C.P body (PostE C.n G w Qh) N a' w' := by
      intro N
      induction N with
      | zero => intro v G' a' w' _ _ hN; exact hN.elim
      | succ N ih =>
        intro v G' a' w' hr hev hN
        rw [rounds_succ]
        have hb : hexec C body (inject an an.slots v) _ := hN
        refine wp_mono (code_sound hm hΓ body hl.1 G' (inject an an.slots v) a' w' _ hr hb) fun e a2 w2 hp => ?_
        obtain ⟨he, st2, G2, rfl, hq, hr2, hev2⟩ := hp
        have out : ∀ e, (match proj an an.outs st2 with
            | some v' => Qh e (inject an an.outs v')
            | none => False) → PostE C.n G w Qh (ofEx e) a2 w2 := fun e hq => by
          cases hpv : proj an an.outs st2 with
          | none => rw [hpv] at hq; exact hq.elim
          | some v2 =>
            rw [hpv] at hq
            obtain ⟨hr3, hev3⟩ := proj_rel hr2 hpv
            exact ⟨e, _, _, rfl, hq, hr3, (hev.trans hev2).trans hev3⟩
        cases he with
        | normal =>
          dsimp only at hq
          cases hpv : proj an an.slots st2 with
          | none => rw [hpv] at hq; exact hq.elim
          | some v2 =>
            rw [hpv] at hq
            dsimp only at hq
            obtain ⟨hr3, hev3⟩ := proj_rel hr2 hpv
            exact ih v2 _ a2 w2 hr3 ((hev.trans hev2).trans hev3) hq
        | exit id => exact out _ hq
        | ret => exact out _ hq
    exact key N v _ a w hr hev hN
  | .scope c, _, _, _, _, _, _, _, hx => by unfold hexec at hx; exact hx.elim
  | .goto l, _, _, _, _, _, _, _, hx => by unfold hexec at hx; exact hx.elim
  | .rangeFunc f p x y, _, _, _, _, _, _, _, hx => by unfold hexec at hx; exact hx.elim
end

end Go.HL
