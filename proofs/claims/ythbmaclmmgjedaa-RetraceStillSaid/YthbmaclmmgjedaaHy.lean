/-
  HL, part y: helpers for proofs about one program.
  Conditions: none.
-/
import Derived.Test.YthbmaclmmgjedaaHx
namespace Go.HL
open Go

/-! ### tables of proved functions -/

def gam : List (FuncId × Spec) → FuncId → Option Spec
  | [], _ => none
  | (g, S) :: l, f => bif Nat.beq g f then some S else gam l f

def AllSound (P : Program) : List (FuncId × Spec) → Prop
  | [] => True
  | (g, S) :: l => Sound P g S ∧ AllSound P l

theorem gam_sound {P : Program} : ∀ {l : List (FuncId × Spec)}, AllSound P l → ∀ f S, gam l f = some S → Sound P f S
  | [], _, _, _, h => by cases h
  | (g, S') :: l, hs, f, S, h => by
    unfold gam at h
    cases hb : Nat.beq g f with
    | true =>
      rw [hb] at h
      cases h
      have := Nat.eq_of_beq_eq_true hb
      subst this
      exact hs.1
    | false => rw [hb] at h; exact gam_sound hs.2 f S h

/-! ### loops -/

def bodyOf (f : Func) : Code := f.body.getD .skip

def loopsOf : Code → List Code
  | .seq a b => loopsOf a ++ loopsOf b
  | .cond _ a b => loopsOf a ++ loopsOf b
  | .block _ c => loopsOf c
  | .loop c => c :: loopsOf c
  | _ => []

def nthLoop (f : Func) (k : Nat) : Code := (loopsOf (bodyOf f)).getD k .skip

def LoopOK (C : Ctx) (c : Code) : Prop := ∀ an S, (firstReg c).bind (findAnn C.loops) = some (an, S) → ∀ v Q, (S v).wp Q → hloop C an c v Q

theorem loops_ok {C : Ctx} : ∀ (code : Code), (∀ c, c ∈ loopsOf code → LoopOK C c) → LoopsOK C code
  | .seq a b, h => ⟨loops_ok a fun c hc => h c (by simp [loopsOf, hc]), loops_ok b fun c hc => h c (by simp [loopsOf, hc])⟩
  | .cond _ a b, h => ⟨loops_ok a fun c hc => h c (by simp [loopsOf, hc]), loops_ok b fun c hc => h c (by simp [loopsOf, hc])⟩
  | .block _ c, h => loops_ok c h
  | .loop c, h => ⟨loops_ok c fun c' hc => h c' (by simp [loopsOf, hc]), h c (by simp [loopsOf])⟩
  | .skip, _ => trivial
  | .region _ _ _, _ => trivial
  | .rangeFunc _ _ _ _, _ => trivial
  | .exit _, _ => trivial
  | .scope _, _ => trivial
  | .label _, _ => trivial
  | .goto _, _ => trivial
  | .ret, _ => trivial
  | .refuse _, _ => trivial

theorem loops0 {C : Ctx} {f : Func} (h : loopsOf (bodyOf f) = []) : LoopsOK C (bodyOf f) := loops_ok _ fun c hc => by rw [h] at hc; cases hc

theorem loops1 {C : Ctx} {f : Func} (h : loopsOf (bodyOf f) = [nthLoop f 0]) (h0 : LoopOK C (nthLoop f 0)) : LoopsOK C (bodyOf f) := loops_ok _ fun c hc => by
  rw [h] at hc
  simp at hc
  subst hc
  exact h0

theorem loops2 {C : Ctx} {f : Func} (h : loopsOf (bodyOf f) = [nthLoop f 0, nthLoop f 1]) (h0 : LoopOK C (nthLoop f 0)) (h1 : LoopOK C (nthLoop f 1)) : LoopsOK C (bodyOf f) := loops_ok _ fun c hc => by
  rw [h] at hc
  simp at hc
  rcases hc with rfl | rfl
  · exact h0
  · exact h1

theorem loops3 {C : Ctx} {f : Func} (h : loopsOf (bodyOf f) = [nthLoop f 0, nthLoop f 1, nthLoop f 2]) (h0 : LoopOK C (nthLoop f 0)) (h1 : LoopOK C (nthLoop f 1)) (h2 : LoopOK C (nthLoop f 2)) : LoopsOK C (bodyOf f) :=
  loops_ok _ fun c hc => by
  rw [h] at hc
  simp at hc
  rcases hc with rfl | rfl | rfl
  · exact h0
  · exact h1
  · exact h2

theorem loopOK_of {C : Ctx} {c : Code} {an : LAnn} {S : LV → LR} (he : (firstReg c).bind (findAnn C.loops) = some (an, S)) (h : ∀ v Q, (S v).wp Q → hloop C an c v Q) : LoopOK C c := by
  intro an' S' h'
  rw [he] at h'
  cases h'
  exact h

/-- a loop by a measure: the states s stand for values enc s -/
theorem hloop_rec {C : Ctx} {an : LAnn} {c : Code} {Q : HEx → LV → Prop} {σ : Type} (enc : σ → LV) (μ : σ → Nat) (I : σ → Prop)
    (body : ∀ s, I s → ∀ K : HEx → LV → Prop, (∀ s', I s' → μ s' < μ s → K .normal (enc s')) → (∀ id v, Q (.exit id) v → K (.exit id) v) → (∀ v, Q .ret v → K .ret v) → bodyT C an c (enc s) K) :
    ∀ s, I s → hloop C an c (enc s) Q := by
  have key : ∀ N s, I s → μ s < N → loopN (bodyT C an c) Q N (enc s) := by
    intro N
    induction N with
    | zero => intro s _ h; omega
    | succ N ih =>
      intro s hs hlt
      unfold loopN
      refine body s hs _ (fun s' hs' hlt' => ih s' hs' (by omega)) (fun id v hq => hq) (fun v hq => hq)
  exact fun s hs => ⟨μ s + 1, key _ s hs (by omega)⟩

/-! ### functions -/

theorem sound_of {C : Ctx} {f : FuncId} {fn : Func} {S : Spec} (l : List (FuncId × Spec)) (hf : C.P.funcs[f]? = some fn) (hb : fn.body.isSome = true) (hname : fn.name ≠ "runtime.NumGoroutine") (hm : C.P.follows .mixedOrders = true)
    (hg : C.Γ = gam l) (hΓ : AllSound C.P l) (hl : LoopsOK C (bodyOf fn)) (hS : ∀ hargs pars R, (S hargs pars).wp R → hfun C fn (bodyOf fn) hargs pars R) : Sound C.P f S := by
  refine fun_sound hf ?_ hname hm (fun f S h => gam_sound hΓ f S (by rw [← hg]; exact h)) hl hS
  unfold bodyOf
  cases h : fn.body with
  | none => rw [h] at hb; cases hb
  | some c => rfl

end Go.HL
