/-
  HL, part r: two operations that do not touch each other may change places.
  Conditions: none.
-/
import Derived.Test.YtneingpnkdeooaaHq
namespace Go.HL
open Go

section
variable {P : Program} {n : Nat} {G G' : Ghost} {st : HSt} {a : Act} {w w' : World} {o : Oper} {Q : Exit → Act → World → Prop} {K : HSt → Prop} {C : Ctx} {ops : List Oper} {ms : List Nat}

/-! ### what an operation looks at -/

theorem evalO_congr {env env' : Nat → HV} (t : TypeId) {x : Operand} (h : ∀ d, x = .tmp d → env d = env' d) : evalO P env t x = evalO P env' t x := by
  cases x with
  | tmp d => exact h d rfl
  | _ => rfl

theorem opTmps_mem {d : Nat} (h : .tmp d ∈ o.op.operands.toList) : d ∈ opTmps o := by
  unfold opTmps
  exact List.mem_filterMap.2 ⟨.tmp d, h, rfl⟩

theorem ev_congr {env env' : Nat → HV} (h : ∀ d, d ∈ opTmps o → env d = env' d) (t : TypeId) {x : Operand} (hx : x ∈ o.op.operands.toList) : evalO P env t x = evalO P env' t x :=
  evalO_congr t (fun d e => h d (opTmps_mem (e ▸ hx)))

theorem evs_congr {env env' : Nat → HV} (h : ∀ d, d ∈ opTmps o → env d = env' d) (t : TypeId) {l : List Operand} (hl : ∀ x ∈ l, x ∈ o.op.operands.toList) : l.map (evalO P env t) = l.map (evalO P env' t) :=
  List.map_congr_left fun x hx => ev_congr h t (hl x hx)

theorem opKeys_congr {env env' : Nat → HV} (take fz : Bool) (h : ∀ d, d ∈ opTmps o → env d = env' d) : opKeys P take fz o env = opKeys P take fz o env' := by
  unfold opKeys
  dsimp only
  split
  · rename_i t x i ho; rw [ev_congr h o.type (x := x) (by rw [ho]; simp [Op.operands])]
  · rfl
  · rename_i t x y z ho; rw [ev_congr h o.type (x := x) (by rw [ho]; simp [Op.operands])]
  · rename_i t x y c ho; rw [ev_congr h o.type (x := x) (by rw [ho]; simp [Op.operands])]
  · rename_i t x ho; rw [ev_congr h o.type (x := x) (by rw [ho]; simp [Op.operands])]
  · rename_i t x v ho; rw [ev_congr h o.type (x := x) (by rw [ho]; simp [Op.operands])]
  · rename_i x ho; rw [ev_congr h o.type (x := x) (by rw [ho]; simp [Op.operands])]
  · rfl
  · rename_i args ts ho; rw [evs_congr h o.type (l := args.toList) (fun x hx => by rw [ho]; simp [Op.operands, Call.operands]; simpa using hx)]
  · rfl
  · rfl
  · rfl
  · rename_i f args ts ho; rw [evs_congr h o.type (l := args.toList) (fun x hx => by rw [ho]; simp [Op.operands, Call.operands]; exact .inr (by simpa using hx))]
  · rfl

theorem takeOS_congr {env env' : Nat → HV} {s : Nat} {d : Option Nat} {v : HV} (h : env (FL s) = env' (FL s)) : takeOS env s d v = takeOS env' s d v := by
  unfold takeOS; rw [h]

theorem boxesOf_congr {bx bx' : Nat → Option (List HC)} : ∀ {rs : List Nat}, (∀ r ∈ rs, bx r = bx' r) → boxesOf bx rs = boxesOf bx' rs
  | [], _ => rfl
  | r :: l, h => by
    unfold boxesOf
    rw [h r (by simp), boxesOf_congr (fun q hq => h q (List.mem_cons_of_mem _ hq))]

theorem osem_congr {Γ : FuncId → Option Spec} {take fz : Bool} {env env' : Nat → HV} {box box' : Nat → Option (List HC)} (h : ∀ d, d ∈ rdSlots take o → env d = env' d)
    (hb : ∀ k, (∃ wr, (k, wr) ∈ opKeys P take fz o env) → box k = box' k) : osem P Γ take fz o env box = osem P Γ take fz o env' box' := by
  have ht : ∀ d, d ∈ opTmps o → env d = env' d := fun d hd => h d (List.mem_append_left _ hd)
  have hf : ∀ s, s ∈ srcSlots take o → env (FL s) = env' (FL s) := fun s hs => h _ (List.mem_append_right _ (List.mem_map.2 ⟨s, hs, rfl⟩))
  unfold osem
  dsimp only
  split
  · rename_i x ho
    have he := ev_congr (P := P) ht o.type (x := x) (by rw [ho]; simp [Op.operands])
    have hfr : ∀ r m cap d, fz = true → evalO P env o.type x = .ce (.msl r m cap) → frzSem box r m d = frzSem box' r m d := by
      intro r m cap d e1 e2
      unfold frzSem
      rw [hb r ⟨true, by simp [opKeys, ho, e1, e2]⟩]
    rw [← he]
    split
    · rename_i r m cap e; exact hfr r m cap _ rfl e
    split
    · rename_i s hs
      cases x <;> simp [tmpOf] at hs
      subst hs
      exact takeOS_congr (hf _ (by simp [srcSlots, ho]))
    · rfl
  · rename_i x ho
    rw [ev_congr ht o.type (x := x) (by rw [ho]; simp [Op.operands])]
    split
    · rename_i s hs
      cases x <;> simp [tmpOf] at hs
      subst hs
      exact takeOS_congr (hf _ (by simp [srcSlots, ho]))
    · rfl
  · rename_i c x y ho
    rw [ev_congr ht o.type (x := c) (by rw [ho]; simp [Op.operands]), ev_congr ht o.type (x := x) (by rw [ho]; simp [Op.operands]), ev_congr ht o.type (x := y) (by rw [ho]; simp [Op.operands])]
  · rename_i e ho
    have : ∀ z, newBox box o.dst z = newBox box' o.dst z := by
      intro z
      unfold newBox
      split
      · rename_i d hd; rw [hb (newKey d) ⟨true, by simp [opKeys, ho, hd]⟩]
      · rfl
    simp only [this]
  · rename_i e x ho
    have : ∀ z, newBox box o.dst z = newBox box' o.dst z := by
      intro z
      unfold newBox
      split
      · rename_i d hd; rw [hb (newKey d) ⟨true, by simp [opKeys, ho, hd]⟩]
      · rfl
    rw [ev_congr ht o.type (x := x) (by rw [ho]; simp [Op.operands])]
    simp only [this]
  · rename_i t parts ho
    have : (parts.toList.map fun p => (p.1, evalO P env o.type p.2)) = parts.toList.map fun p => (p.1, evalO P env' o.type p.2) := by
      refine List.map_congr_left fun p hp => ?_
      rw [ev_congr ht o.type (x := p.2) (by rw [ho]; simp only [Op.operands]; simp; exact ⟨p.1, by simpa using hp⟩)]
    rw [this]
  · rename_i t m parts ho
    have : (parts.toList.map fun p => (p.1, evalO P env o.type p.2)) = parts.toList.map fun p => (p.1, evalO P env' o.type p.2) := by
      refine List.map_congr_left fun p hp => ?_
      rw [ev_congr ht o.type (x := p.2) (by rw [ho]; simp only [Op.operands]; simp; exact ⟨p.1, by simpa using hp⟩)]
    rw [this]
    split
    · unfold emptySem
      split
      · rename_i e d hu hd
        rw [hb (newKey d) ⟨true, by simp [opKeys, ho, hd]⟩]
      · rfl
    · rfl
  · rename_i t x ho
    have he := ev_congr (P := P) ht o.type (x := x) (by rw [ho]; simp [Op.operands])
    have hbx : ∀ r k, evalO P env o.type x = .ce (.ptr r k) → box r = box' r := fun r k e => hb r ⟨take || fz, by simp [opKeys, ho, e]⟩
    have hbx2 : ∀ r s i k, evalO P env o.type x = .ce (.mp r s i k) → box r = box' r := fun r s i k e => hb r ⟨false, by simp [opKeys, ho, e]⟩
    rw [← he]
    generalize evalO P env o.type x = v at *
    unfold loadSem
    split
    · split
      · rfl
      · rfl
      · rename_i r s i k; rw [hbx2 r s i k rfl]
      · rename_i r k; rw [hbx r k rfl]
      · rfl
    · rfl
  · rename_i t x v ho
    have he := ev_congr (P := P) ht o.type (x := x) (by rw [ho]; simp [Op.operands])
    have he2 := ev_congr (P := P) ht o.type (x := v) (by rw [ho]; simp [Op.operands])
    have hbx : ∀ r k, evalO P env o.type x = .ce (.ptr r k) → box r = box' r := fun r k e => hb r ⟨true, by simp [opKeys, ho, e]⟩
    have hbx2 : ∀ r s i k, evalO P env o.type x = .ce (.mp r s i k) → box r = box' r := fun r s i k e => hb r ⟨true, by simp [opKeys, ho, e]⟩
    have hfl : ∀ s, tmpOf v = some s → env (FL s) = env' (FL s) := fun s hs => by
      cases v <;> simp [tmpOf] at hs
      subst hs
      exact hf _ (by simp [srcSlots, ho])
    rw [← he, ← he2]
    generalize evalO P env o.type x = X at *
    generalize evalO P env o.type v = V at *
    split
    · unfold storeSem
      split
      · rename_i m r s i k cs hs hcs
        rw [hbx2 r s i k rfl]
      · rename_i m r k cs hs hcs
        rw [hbx r k rfl]
        split
        · congr 1
          split
          · rename_i s hs2; rw [hfl s hs2]
          · rfl
        · rfl
      · rfl
    · rfl
  · rename_i x ho; rw [ev_congr ht o.type (x := x) (by rw [ho]; simp [Op.operands])]
  · rename_i t x y ho
    rw [ev_congr ht o.type (x := x) (by rw [ho]; simp [Op.operands]), ev_congr ht o.type (x := y) (by rw [ho]; simp [Op.operands])]
    unfold makeSem
    split
    · rename_i d hu h1 h2 hd
      rw [hb (newKey d) ⟨true, by simp [opKeys, ho, hd]⟩]
    · rfl
  · rename_i op xt x y yt ho; rw [ev_congr ht xt (x := x) (by rw [ho]; simp [Op.operands]), ev_congr ht xt (x := y) (by rw [ho]; simp [Op.operands])]
  · rename_i op xt x ho; rw [ev_congr ht o.type (x := x) (by rw [ho]; simp [Op.operands])]
  · rename_i t1 t2 x ho; rw [ev_congr ht o.type (x := x) (by rw [ho]; simp [Op.operands])]
  · rename_i t x lo hi ho
    have hlo : lo.map (evalO P env o.type) = lo.map (evalO P env' o.type) := by
      cases lo with
      | none => rfl
      | some y => exact congrArg some (ev_congr ht o.type (x := y) (by rw [ho]; simp [Op.operands]))
    have hhi : hi.map (evalO P env o.type) = hi.map (evalO P env' o.type) := by
      cases hi with
      | none => rfl
      | some y => exact congrArg some (ev_congr ht o.type (x := y) (by rw [ho]; simp [Op.operands]))
    have hfl : ∀ s, tmpOf x = some s → env (FL s) = env' (FL s) := fun s hs => by
      cases x <;> simp [tmpOf] at hs
      subst hs
      exact hf _ (by simp [srcSlots, ho])
    rw [ev_congr ht o.type (x := x) (by rw [ho]; simp [Op.operands]), hlo, hhi]
    unfold sliceSem
    split
    · split
      · congr 1
        split
        · rfl
        · rfl
        · split
          · split
            · rename_i s d hs hd; rw [hfl s hs]
            · rfl
          · rfl
        · rfl
      · rfl
    · rfl
  · rename_i t x f ho; rw [ev_congr ht o.type (x := x) (by rw [ho]; simp [Op.operands])]
  · rename_i t x f ho; rw [ev_congr ht o.type (x := x) (by rw [ho]; simp [Op.operands])]
  · rename_i t x i ho
    have he := ev_congr (P := P) ht o.type (x := x) (by rw [ho]; simp [Op.operands])
    have hei := ev_congr (P := P) ht o.type (x := i) (by rw [ho]; simp [Op.operands])
    have hbx : ∀ r k, evalO P env o.type x = .ce (.ptr r k) → box r = box' r := fun r k e => hb r ⟨false, by simp [opKeys, ho, e]⟩
    rw [← he, ← hei]
    generalize evalO P env o.type x = X at *
    split
    · rename_i r k; rw [hbx r k rfl]
    · rfl
  · rename_i t ho
    unfold makeMapSem
    split
    · rename_i d hd
      rw [hb (newKey d) ⟨true, by simp [opKeys, ho, hd]⟩]
    · rfl
  · rename_i t x y z ho
    have he := ev_congr (P := P) ht o.type (x := x) (by rw [ho]; simp [Op.operands])
    have he2 := ev_congr (P := P) ht o.type (x := y) (by rw [ho]; simp [Op.operands])
    have he3 := ev_congr (P := P) ht o.type (x := z) (by rw [ho]; simp [Op.operands])
    have hbx : ∀ r, evalO P env o.type x = .ce (.mapv r) → box r = box' r := fun r e => hb r ⟨true, by simp [opKeys, ho, e]⟩
    rw [← he, ← he2, ← he3]
    generalize evalO P env o.type x = X at *
    split
    · unfold mapUpdateSem
      split
      · rename_i r kc vc e2 e3; rw [hbx r rfl]
      · rfl
    · rfl
  · rename_i t x y c ho
    have he := ev_congr (P := P) ht o.type (x := x) (by rw [ho]; simp [Op.operands])
    have he2 := ev_congr (P := P) ht o.type (x := y) (by rw [ho]; simp [Op.operands])
    have hbx : ∀ r, evalO P env o.type x = .ce (.mapv r) → box r = box' r := fun r e => hb r ⟨false, by simp [opKeys, ho, e]⟩
    rw [← he, ← he2]
    generalize evalO P env o.type x = X at *
    unfold lookupSem
    split
    · rename_i r kc e2; rw [hbx r rfl]
    · rfl
  · rename_i t x i ho
    have ex := ev_congr (P := P) ht o.type (x := x) (by rw [ho]; simp [Op.operands])
    have ei := ev_congr (P := P) ht o.type (x := i) (by rw [ho]; simp [Op.operands])
    rw [ei]
    split
    · rfl
    · rw [ex]
  · rename_i x i ho; rw [ev_congr ht o.type (x := x) (by rw [ho]; simp [Op.operands])]
  · rename_i b args ts ho
    have hev := evs_congr (P := P) ht o.type (l := args.toList) (fun x hx => by rw [ho]; simp [Op.operands, Call.operands]; simpa using hx)
    rw [hev]
    have hfl : ∀ s, firstTmp args.toList = some s → env (FL s) = env' (FL s) := fun s hs => by
      refine hf s ?_
      unfold srcSlots
      rw [ho]
      dsimp only
      cases hl : args.toList with
      | nil => rw [hl] at hs; cases hs
      | cons p l =>
        rw [hl] at hs
        cases p <;> simp [firstTmp, tmpOf] at hs
        subst hs
        simp
    generalize firstTmp args.toList = src at *
    unfold builtinSem
    split
    · rfl
    · rfl
    · rfl
    · split
      · split
        · unfold appNewSem
          split
          · rename_i od te ow ls more d hu hd hm
            rw [hb (newKey d) ⟨true, by simp [opKeys, ho, hd, hev, hm]⟩]
          · rfl
        · rename_i r m cap e1
          unfold appMutSem
          split
          · rename_i te ow ls more d hu hd
            rw [hb (newKey d) ⟨true, by simp [opKeys, ho, hd, hev, e1]⟩, hb r ⟨true, by simp [opKeys, ho, hd, hev, e1]⟩]
          · rfl
        unfold appendSem
        split
        · split
          · rename_i e2 s2
            rw [hfl _ rfl]
          · rfl
        · rfl
      · rfl
    · rfl
  · rename_i f args ts ho
    have he := evs_congr (P := P) ht o.type (l := args.toList) (fun x hx => by rw [ho]; simp [Op.operands, Call.operands]; exact .inr (by simpa using hx))
    have hrb : ∀ rs, rootsOf (args.toList.map (evalO P env o.type)) [] = some rs → ∀ r ∈ rs, box r = box' r := fun rs hrs r hr => hb r ⟨true, by simp [opKeys, ho, hrs]; exact .inl hr⟩
    have hfb : freshB box o.dst = freshB box' o.dst := by
      unfold freshB
      split
      · rename_i d hd; rw [hb (newKey d) ⟨true, by simp [opKeys, ho, hd]⟩]
      · rfl
    rw [← he]
    unfold callSem
    split
    · split
      · rename_i rs hrs
        rw [boxesOf_congr (hrb rs hrs), hfb]
      · rfl
    · rfl
  · rfl
end

end Go.HL
