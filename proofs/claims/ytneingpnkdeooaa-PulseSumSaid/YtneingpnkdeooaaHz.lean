/-
  HL, part z: from a law to the statement's frame.
  Conditions: none.
-/
import Derived.Test.YtneingpnkdeooaaHy
import Derived.Below
namespace Go.HL
open Go

/-- the ghost of a law's call: everything that is there is fixed -/
def G0 (w : World) : Ghost := { imm := fun b _ => b < w.heap.size, beta := fun _ => none, owner := fun _ => none }

def rowsOf (z : List Int) (len : Nat) : List (List Int) := (z.take len).map fun x => [x]

theorem cell_lt {w : World} {a : Addr} {v : Value} (h : w.cell? a = some v) : a.block < w.heap.size ∧ a.spot = none := by
  unfold World.cell? at h
  split at h
  · rename_i hh
    have := (Array.getElem?_eq_some_iff.1 hh).1
    refine ⟨this, ?_⟩
    cases hs : a.spot with
    | none => rfl
    | some x => rw [hs] at h; simp at h
  · cases h

theorem slice_in {w : World} {a : Option Addr} {len cap : Nat} {z : List Int}
    (h : (a = none ∧ len = 0 ∧ cap = 0 ∧ z = []) ∨ ∃ x, a = some x ∧ len ≤ cap ∧ cap ≤ maxLen ∧ z.length = cap ∧ (∀ i, i < z.length → w.cell? (x.add i) = some (.int .i64 (z.getD i 0))) ∧ ∀ n ∈ z, (Lit.int .i64 n).wf = true) :
    VRel (G0 w) w none (.ce (.sl false [4] (rowsOf z len))) (.slice a len cap) ∧ (rowsOf z len).length = len := by
  rcases h with ⟨rfl, rfl, rfl, rfl⟩ | ⟨x, rfl, h1, h2, h3, h4, _⟩
  · exact ⟨⟨none, 0, rfl, Nat.le_refl _, Nat.zero_le _, .inl ⟨.inl rfl, rfl, rfl⟩⟩, rfl⟩
  · have hl : (rowsOf z len).length = len := by simp [rowsOf]; omega
    refine ⟨⟨some x, cap, by rw [hl], by rw [hl]; exact h1, h2, ?_⟩, hl⟩
    by_cases hc : cap = 0
    · exact .inl ⟨.inl rfl, by rw [hl]; omega, hc⟩
    · have h0 := h4 0 (by omega)
      have hx0 : x.add 0 = x := by simp [Addr.add]
      rw [hx0] at h0
      obtain ⟨hb, hs⟩ := cell_lt h0
      have hx : x = at_ x.block x.off := by
        cases x with
        | mk b o s => dsimp only at hs; subst hs; rfl
      refine .inr ⟨x.block, x.off, by rw [← hx], fun i j hi hj => ⟨hb, ?_⟩, fun _ e => nomatch e⟩
      rw [hl] at hi
      have hj0 : j = 0 := by simp at hj; omega
      subst hj0
      have := h4 i (by omega)
      rw [hx, at_add] at this
      have e1 : i * ([4] : List Nat).length + 0 = i := by simp
      rw [e1, this]
      have e2 : ((rowsOf z len).getD i []).getD 0 0 = z.getD i 0 := by
        have hiz : i < z.length := by omega
        simp [rowsOf, List.getD_eq_getElem?_getD, List.getElem?_take, hi, hiz]
      rw [e2]
      rfl

theorem int_in {w : World} (n : Int) : VRel (G0 w) w none (.ce (.int .i64 n)) (.int .i64 n) := rfl

theorem pre0 {w : World} {hargs : List HV} {args : Array Value} (h1 : args.size = hargs.length) (h2 : ∀ (i : Nat) (hv : HV), hargs[i]? = some hv → ∃ v, args[i]? = some v ∧ VRel (G0 w) w none hv v) : PreRel (G0 w) w hargs args [] :=
  ⟨h1, h2, (fun r cells h => by simp [parBox] at h), (fun r b h => nomatch h), (fun b L h => nomatch h), fun b _ h => h⟩

/-- a law that answers 'true' -/
theorem law_true {P : Program} {f : FuncId} {S : HL.Spec} (hs : Sound P f S) {w : World} {hargs : List HV} {args : Array Value} (hp : PreRel (G0 w) w hargs args [])
    (hS : (S hargs []).wp (fun r => r.val = .ce (.bool true))) : Calls P f args w fun e w' => e = .returned (.bool true) ∧ RowKit.Below w.heap.size w w' := by
  refine Calls.mono (hs.2 (G0 w) w hargs args [] _ hp hS) fun e w' ⟨v, r, G', he, hr, hrel, hev⟩ => ?_
  have hv := hrel.val
  rw [hr] at hv
  have hv' : v = .bool true := hv
  subst hv'
  exact ⟨he, hev.os, hev.tape, hev.output, hev.size, fun k hk => (hev.foreign k hk rfl).2.1⟩

end Go.HL
namespace Go.HL
open Go
theorem slice_short {w : World} {a : Option Addr} {len cap : Nat} {z : List Int}
    (h : (a = none ∧ len = 0 ∧ cap = 0 ∧ z = []) ∨ ∃ x, a = some x ∧ len ≤ cap ∧ cap ≤ maxLen ∧ z.length = cap ∧ (∀ i, i < z.length → w.cell? (x.add i) = some (.int .i64 (z.getD i 0))) ∧ ∀ n ∈ z, (Lit.int .i64 n).wf = true) :
    (rowsOf z len).length ≤ maxLen := by
  rcases h with ⟨_, rfl, _, rfl⟩ | ⟨x, _, h1, h2, h3, _, _⟩
  · exact Nat.zero_le _
  · unfold rowsOf
    rw [List.length_map, List.length_take]
    omega
theorem wf_i64 {n : Int} (h : (Lit.int .i64 n).wf = true) : -9223372036854775808 ≤ n ∧ n ≤ 9223372036854775807 := by
  simp [Lit.wf, IntKind.min, IntKind.max, IntKind.signed, IntKind.bits] at h
  omega
end Go.HL
