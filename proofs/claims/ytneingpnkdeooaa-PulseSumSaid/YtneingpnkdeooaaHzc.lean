/-
  HL, part zc: what comes in: flat values and slices of flat values.
  Conditions: none.
-/
import Derived.Test.YtneingpnkdeooaaHzb
import Derived.WalkKit
import Derived.ProofKit
import Derived.OpenShut
import Derived.ChangeOld
namespace Go.HL
open Go Go.ChangeShapes Go.WideShapes Go.ChangeAt Go.RowKit

def fieldsK (P : Program) (rec : TypeId → Option (List Nat)) : List Field → Nat → Option (List Nat)
  | [], _ => some []
  | fl :: r, off => match rec fl.type with
    | some a => bif Nat.beq fl.offset off && Nat.beq (P.cellsOf fl.type) a.length then (match fieldsK P rec r (off + a.length) with
      | some b => some (a ++ b)
      | none => none) else none
    | none => none

def repK : Nat → List Nat → List Nat
  | 0, _ => []
  | n + 1, a => a ++ repK n a

/-- the kinds of the cells of a flat type -/
def kindsOf (P : Program) : Nat → TypeId → Option (List Nat)
  | 0, _ => none
  | f + 1, t => match P.underlying t with
    | some .bool => some [0]
    | some (.int k) => some [kcode k]
    | some (.struct fs) => match fieldsK P (kindsOf P f) fs.toList 0 with
      | some ks => bif Nat.beq ks.length (P.cellsOf t) then some ks else none
      | none => none
    | some (.array n e) => match kindsOf P f e with
      | some a => bif Nat.beq (P.cellsOf e) a.length && Nat.beq (P.cellsOf t) (n * a.length) then some (repK n a) else none
      | none => none
    | _ => none

def InK : Nat → Int → Prop
  | 0, n => n = 0 ∨ n = 1
  | k + 1, n => kLo (kk k) ≤ n ∧ n ≤ kHi (kk k)

def zipK : List Nat → List Int → List Value
  | k :: ks, n :: r => kval k n :: zipK ks r
  | _, _ => []

def zipC : List Nat → List Int → List HC
  | k :: ks, n :: r => kcell k n :: zipC ks r
  | _, _ => []

def AllIn : List Nat → List Int → Prop
  | k :: ks, n :: r => InK k n ∧ AllIn ks r
  | [], [] => True
  | _, _ => False

def Flat (ks : List Nat) (cs : List Value) : Prop := ∃ row, AllIn ks row ∧ cs = zipK ks row

theorem AllIn.len : ∀ {ks : List Nat} {row : List Int}, AllIn ks row → row.length = ks.length
  | [], [], _ => rfl
  | _ :: _, _ :: _, h => by simp [AllIn.len h.2]
  | [], _ :: _, h => h.elim
  | _ :: _, [], h => h.elim

theorem AllIn.cons {k : Nat} {ks : List Nat} {row : List Int} (h : AllIn (k :: ks) row) : ∃ n l, row = n :: l := by
  cases row with
  | nil => exact h.elim
  | cons n l => exact ⟨n, l, rfl⟩
theorem AllIn.nil {row : List Int} (h : AllIn [] row) : row = [] := by
  cases row with
  | nil => rfl
  | cons n l => exact h.elim

theorem AllIn.append : ∀ {a b : List Nat} {r s : List Int}, AllIn a r → AllIn b s → AllIn (a ++ b) (r ++ s) ∧ zipK (a ++ b) (r ++ s) = zipK a r ++ zipK b s
  | [], b, [], s, _, h => ⟨h, rfl⟩
  | _ :: a, b, _ :: r, s, h, h' => by
    obtain ⟨h1, h2⟩ := AllIn.append (a := a) (r := r) h.2 h'
    exact ⟨⟨h.1, h1⟩, by simp [zipK, h2]⟩
  | [], _, _ :: _, _, h, _ => h.elim
  | _ :: _, _, [], _, h, _ => h.elim

theorem Flat.append {a b : List Nat} {cs ds : List Value} (h : Flat a cs) (h' : Flat b ds) : Flat (a ++ b) (cs ++ ds) := by
  obtain ⟨r, h1, rfl⟩ := h
  obtain ⟨s, h2, rfl⟩ := h'
  exact ⟨r ++ s, (AllIn.append h1 h2).1, (AllIn.append h1 h2).2.symm⟩

theorem zipK_get : ∀ {ks : List Nat} {row : List Int} {j : Nat}, AllIn ks row → j < ks.length → (zipK ks row)[j]? = some (kval (ks.getD j 0) (row.getD j 0)) ∧ InK (ks.getD j 0) (row.getD j 0)
  | _ :: _, _ :: _, 0, h, _ => ⟨rfl, h.1⟩
  | _ :: ks, _ :: r, j + 1, h, hj => by
    have := zipK_get (j := j) h.2 (by simpa using hj)
    simpa [zipK] using this
  | [], _, _, _, hj => by simp at hj
  | _ :: _, [], _, h, _ => h.elim

theorem zipC_rel {G : Ghost} {w : World} : ∀ {ks : List Nat} {row : List Int}, (zipC ks row).length = (zipK ks row).length ∧ ∀ (j : Nat) (c : HC), (zipC ks row)[j]? = some c → ∃ u, (zipK ks row)[j]? = some u ∧ CRel G w none c u
  | [], _ => ⟨rfl, fun j c h => by simp [zipC] at h⟩
  | _ :: _, [] => ⟨rfl, fun j c h => by simp [zipC] at h⟩
  | k :: ks, n :: r => by
    obtain ⟨h1, h2⟩ := zipC_rel (G := G) (w := w) (ks := ks) (row := r)
    refine ⟨by simp [zipC, zipK, h1], fun j c h => ?_⟩
    cases j with
    | zero =>
      simp [zipC] at h
      subst h
      refine ⟨kval k n, by simp [zipK], ?_⟩
      cases k <;> exact rfl
    | succ j =>
      simp [zipC] at h
      obtain ⟨u, hu, hr⟩ := h2 j c h
      exact ⟨u, by simpa [zipK] using hu, hr⟩

section
variable {H : Type} {enc : TypeId × Value → H} {P : Program} {w : World} {base : Nat} {spare : Nat → Bool} {held : Bool}

theorem wf_in {k : IntKind} {n : Int} (h : (Lit.int k n).wf = true) : InK (kcode k) n ∧ kval (kcode k) n = .int k n := by
  simp only [Lit.wf, Bool.and_eq_true, decide_eq_true_eq] at h
  cases k <;> simp [IntKind.min, IntKind.max, IntKind.signed, IntKind.bits] at h <;> exact ⟨by simp [InK, kcode, kk, kLo, kHi]; omega, rfl⟩

theorem fields_flat {rec : TypeId → Option (List Nat)} {cs : List Value} {n : Nat}
    (hrec : ∀ t ks, rec t = some ks → ∀ cs x, DataW.trod enc P w base spare held n t cs = some x → Flat ks cs) :
    ∀ (fs : List Field) (off : Nat) (ks : List Nat), fieldsK P rec fs off = some ks → off + ks.length = cs.length →
      (∀ f, f ∈ fs → ∃ x, DataW.trod enc P w base spare held n f.type ((cs.drop f.offset).take (P.cellsOf f.type)) = some x) → Flat ks (cs.drop off)
  | [], off, ks, h, hl, _ => by
    cases h
    have : cs.drop off = [] := List.drop_eq_nil_of_le (by simp at hl; omega)
    rw [this]
    exact ⟨[], trivial, rfl⟩
  | fl :: r, off, ks, h, hl, hf => by
    unfold fieldsK at h
    split at h
    case h_2 => cases h
    rename_i a ha
    cases hb : (Nat.beq fl.offset off && Nat.beq (P.cellsOf fl.type) a.length) with
    | false => rw [hb] at h; cases h
    | true =>
      rw [hb] at h
      simp only [cond_true] at h
      rw [Bool.and_eq_true] at hb
      have e1 := Nat.eq_of_beq_eq_true hb.1
      have e2 := Nat.eq_of_beq_eq_true hb.2
      split at h
      case h_2 => cases h
      rename_i b hbb
      cases h
      obtain ⟨x, hx⟩ := hf fl (List.mem_cons_self ..)
      rw [e1, e2] at hx
      have f1 := hrec _ _ ha _ _ hx
      have f2 := fields_flat hrec r (off + a.length) b hbb (by simp at hl; omega) (fun f hm => hf f (List.mem_cons_of_mem _ hm))
      have : cs.drop off = (cs.drop off).take a.length ++ cs.drop (off + a.length) := by
        rw [← List.drop_drop, List.take_append_drop]
      rw [this]
      exact f1.append f2

theorem elems_flat {a : List Nat} {cs : List Value} : ∀ (n i : Nat), i * a.length + n * a.length = cs.length → (∀ j, i ≤ j → j < i + n → Flat a ((cs.drop (j * a.length)).take a.length)) → Flat (repK n a) (cs.drop (i * a.length))
  | 0, i, hl, _ => by
    have : cs.drop (i * a.length) = [] := List.drop_eq_nil_of_le (by omega)
    rw [this]
    exact ⟨[], trivial, rfl⟩
  | n + 1, i, hl, h => by
    have e : (n + 1) * a.length = n * a.length + a.length := Nat.succ_mul _ _
    have e2 : (i + 1) * a.length = i * a.length + a.length := Nat.succ_mul _ _
    have f1 := h i (Nat.le_refl _) (by omega)
    have f2 := elems_flat n (i + 1) (by omega) (fun j h1 h2 => h j (by omega) (by omega))
    have : cs.drop (i * a.length) = (cs.drop (i * a.length)).take a.length ++ cs.drop ((i + 1) * a.length) := by
      rw [e2, ← List.drop_drop, List.take_append_drop]
    rw [this]
    exact f1.append f2

theorem trod_flat : ∀ (f : Nat) (t : TypeId) (ks : List Nat), kindsOf P f t = some ks → ∀ fuel cs x, DataW.trod enc P w base spare held fuel t cs = some x → Flat ks cs
  | 0, _, _, h, _, _, _, _ => by cases h
  | f + 1, t, ks, h, fuel, cs, x, hx => by
    unfold kindsOf at h
    split at h
    · rename_i ht
      cases h
      obtain ⟨b, rfl, _⟩ := DataW.trod_bool ht hx
      refine ⟨[if b then 1 else 0], ⟨by cases b <;> simp [InK], trivial⟩, ?_⟩
      cases b <;> rfl
    · rename_i k ht
      cases h
      obtain ⟨n, rfl, _, hw⟩ := DataW.trod_int ht hx
      exact ⟨[n], ⟨(wf_in hw).1, trivial⟩, by simp [zipK, (wf_in hw).2]⟩
    · rename_i fs ht
      obtain ⟨xs, n, _, _, hl, hxl, hf⟩ := DataW.trod_struct ht hx
      split at h
      case h_2 => cases h
      rename_i ks' hk
      cases hb : Nat.beq ks'.length (P.cellsOf t) with
      | false => rw [hb] at h; cases h
      | true =>
        rw [hb] at h
        cases h
        have e := Nat.eq_of_beq_eq_true hb
        have := fields_flat (cs := cs) (n := n) (fun t ks h cs x hx => trod_flat f t ks h n cs x hx) fs.toList 0 ks hk (by omega) (fun fl hm => by
          obtain ⟨i, hi, he⟩ := List.mem_iff_getElem.1 hm
          have hi' : i < fs.size := by simpa using hi
          have h1 := hf i fl (by rw [Array.getElem?_eq_getElem hi']; simp at he; rw [he])
          rw [List.getElem?_eq_getElem (by omega)] at h1
          exact ⟨_, h1⟩)
        simpa using this
    · rename_i n e ht
      obtain ⟨xs, m, _, _, hl, hxl, hf⟩ := DataW.trod_array ht hx
      split at h
      case h_2 => cases h
      rename_i a ha
      cases hb : (Nat.beq (P.cellsOf e) a.length && Nat.beq (P.cellsOf t) (n * a.length)) with
      | false => rw [hb] at h; cases h
      | true =>
        rw [hb] at h
        cases h
        rw [Bool.and_eq_true] at hb
        have e1 := Nat.eq_of_beq_eq_true hb.1
        have e2 := Nat.eq_of_beq_eq_true hb.2
        have := elems_flat (a := a) (cs := cs) n 0 (by omega) (fun j _ hj => by
          have h1 := hf j (by omega)
          rw [List.getElem?_eq_getElem (by omega), e1] at h1
          exact trod_flat f e a ha m _ _ h1)
        simpa using this
    · cases h

/-- a flat value that comes in -/
theorem in_agg {r : Reach} {b0 : Nat} {t : TypeId} {ks : List Nat} {v : Value} {d : DataW H} {ps : List MemPlace} (hk : kindsOf P 12 t = some ks) (hag : isAggT P t = some true) (hval : Value.okWide P w r b0 t v)
    (hd : DataW.Trod enc P w base spare held t v d ps) : ∃ row, AllIn ks row ∧ VRel (G0 w) w none (.agg (zipC ks row)) v := by
  obtain ⟨fuel, hd⟩ := hd
  obtain ⟨vs, rfl⟩ : ∃ vs, v = .agg vs := by
    unfold isAggT at hag
    split at hag
    · rename_i ht; simp only [Value.okWide, ht] at hval; obtain ⟨cs, h1, _⟩ := hval; exact ⟨cs, h1⟩
    · rename_i ht; simp only [Value.okWide, ht] at hval; obtain ⟨cs, h1, _⟩ := hval; exact ⟨cs, h1⟩
    · cases hag
    · cases hag
  have hc : (Value.agg vs).cells.toList = vs.toList := by simp [Value.cells]
  rw [hc] at hd
  obtain ⟨row, hr, he⟩ := trod_flat 12 t ks hk fuel _ _ hd
  refine ⟨row, hr, vs, rfl, ?_, fun j c hj => ?_⟩
  · have := (zipC_rel (G := G0 w) (w := w) (ks := ks) (row := row)).1
    rw [this, ← he]; simp
  · obtain ⟨u, hu, hrel⟩ := (zipC_rel (G := G0 w) (w := w) (ks := ks) (row := row)).2 j c hj
    rw [← he] at hu
    exact ⟨u, by simpa using hu, hrel⟩

theorem cells_flat {ks : List Nat} {a : Addr} {cs : List Value} (h1 : ∀ i, i < ks.length → w.cell? (a.add i) = cs[i]?) (hf : Flat ks cs) :
    ∃ row : List Int, AllIn ks row ∧ ∀ j, j < ks.length → w.cell? (a.add j) = some (kval (ks.getD j 0) (row.getD j 0)) := by
  obtain ⟨row, hr, rfl⟩ := hf
  exact ⟨row, hr, fun j hj => by rw [h1 j hj]; exact (zipK_get hr hj).1⟩

/-- a slice of flat values that comes in, and its size -/
theorem in_slice_sz {r : Reach} {b0 : Nat} {t e : TypeId} {ks : List Nat} {v : Value} {d : DataW H} {ps : List MemPlace} (ht : P.underlying t = some (.slice e)) (hk : kindsOf P 12 e = some ks) (hC : P.cellsOf e = ks.length) (hpos : 0 < ks.length)
    (hval : Value.okWide P w r b0 t v) (hd : DataW.Trod enc P w base (fun _ => true) held t v d ps) :
    ∃ rows : List (List Int), rows.length ≤ maxLen ∧ (∀ i, i < rows.length → AllIn ks (rows.getD i [])) ∧ VRel (G0 w) w none (.ce (.sl false ks rows)) v ∧
      ∀ R B : Nat, (∀ es sp, d = .slice es sp → (es.length + sp.length) * B ≤ R) → rows.length * B ≤ R := by
  obtain ⟨fuel, hd⟩ := hd
  obtain ⟨ad, len, cap, rfl⟩ := okWide_slice ht hval
  have hc : (Value.slice ad len cap).cells.toList = [.slice ad len cap] := by simp [Value.cells]
  rw [hc] at hd
  rcases DataW.trod_slice ht hd with ⟨he, _⟩ | ⟨a, len', cap', elems, rest, n, _, he, hxd, hb, hl, hm, hlen, hel, hsp, _⟩
  · simp at he
    obtain ⟨rfl, rfl, rfl⟩ := he
    exact ⟨[], Nat.zero_le _, fun i hi => by simp at hi, ⟨none, 0, rfl, Nat.le_refl _, Nat.zero_le _, .inl ⟨.inl rfl, rfl, rfl⟩⟩, fun R B _ => by simp⟩
  · simp at he
    obtain ⟨rfl, rfl, rfl⟩ := he
    obtain ⟨hrl, hrest⟩ := hsp rfl
    have hall : ∀ i, i < cap → ∃ row : List Int, AllIn ks row ∧ ∀ j, j < ks.length → w.cell? ((a.add (i * ks.length)).add j) = some (kval (ks.getD j 0) (row.getD j 0)) := by
      intro i hi
      have key : ∀ y, (w.cells? base (a.add (i * P.cellsOf e)) (P.cellsOf e)).bind (DataW.trod enc P w base (fun _ => true) held n e) = some y →
          ∃ row : List Int, AllIn ks row ∧ ∀ j, j < ks.length → w.cell? ((a.add (i * ks.length)).add j) = some (kval (ks.getD j 0) (row.getD j 0)) := by
        intro y hy
        rw [Option.bind_eq_some_iff] at hy
        obtain ⟨cs, h1, h2⟩ := hy
        obtain ⟨_, _, h3⟩ := World.cells?_some h1
        rw [hC] at h3
        exact cells_flat h3 (trod_flat 12 e ks hk n cs y h2)
      by_cases hi2 : i < len
      · have := hel i hi2
        rw [List.getElem?_eq_getElem (by omega)] at this
        exact key _ this
      · have := hrest (i - len) (by omega)
        rw [List.getElem?_eq_getElem (by omega), show len + (i - len) = i by omega] at this
        exact key _ this
    have hch : ∀ i, ∃ row : List Int, i < cap → AllIn ks row ∧ ∀ j, j < ks.length → w.cell? ((a.add (i * ks.length)).add j) = some (kval (ks.getD j 0) (row.getD j 0)) := by
      intro i
      by_cases hi : i < cap
      · obtain ⟨row, h⟩ := hall i hi; exact ⟨row, fun _ => h⟩
      · exact ⟨[], fun h => absurd h hi⟩
    obtain ⟨f, hrows⟩ : ∃ f : Nat → List Int, ∀ i, i < cap → AllIn ks (f i) ∧ ∀ j, j < ks.length → w.cell? ((a.add (i * ks.length)).add j) = some (kval (ks.getD j 0) ((f i).getD j 0)) :=
      ⟨fun i => Classical.choose (hch i), fun i => Classical.choose_spec (hch i)⟩
    clear hch
    refine ⟨(List.range len).map f, by simp; omega, fun i hi => ?_, ?_, fun R B hs => ?_⟩
    · simp at hi
      have : ((List.range len).map f).getD i [] = f i := by simp [List.getD_eq_getElem?_getD, hi]
      rw [this]
      exact (hrows i (by omega)).1
    · have hll : ((List.range len).map f).length = len := by simp
      refine ⟨some a, cap, by rw [hll], by rw [hll]; exact hl, hm, ?_⟩
      rw [hll]
      by_cases hc0 : cap = 0
      · exact .inl ⟨.inl rfl, by omega, hc0⟩
      · have h0 := (hrows 0 (by omega)).2 0 hpos
        have hx0 : (a.add (0 * ks.length)).add 0 = a := by simp [Addr.add]
        rw [hx0] at h0
        obtain ⟨hbk, hs⟩ := cell_lt h0
        have hx : a = at_ a.block a.off := by
          cases a with
          | mk b o s => dsimp only at hs; subst hs; rfl
        refine .inr ⟨a.block, a.off, by rw [← hx], fun i j hi hj => ⟨hbk, ?_⟩, fun _ e => nomatch e⟩
        have h1 := (hrows i (by omega)).2 j hj
        rw [hx, at_add, at_add, show a.off + i * ks.length + j = a.off + (i * ks.length + j) by omega] at h1
        have hg : ((List.range len).map f).getD i [] = f i := by simp [List.getD_eq_getElem?_getD, hi]
        rw [hg]
        exact h1
    · have := hs (elems.map (·.1)) (rest.map (·.1)) (congrArg Prod.fst hxd)
      simp only [List.length_map, List.length_range] at this ⊢
      rw [hlen, Nat.add_mul] at this
      omega

/-- a slice of flat values that comes in -/
theorem in_slice {r : Reach} {b0 : Nat} {t e : TypeId} {ks : List Nat} {v : Value} {d : DataW H} {ps : List MemPlace} (ht : P.underlying t = some (.slice e)) (hk : kindsOf P 12 e = some ks) (hC : P.cellsOf e = ks.length) (hpos : 0 < ks.length)
    (hval : Value.okWide P w r b0 t v) (hd : DataW.Trod enc P w base (fun _ => true) held t v d ps) :
    ∃ rows : List (List Int), rows.length ≤ maxLen ∧ (∀ i, i < rows.length → AllIn ks (rows.getD i [])) ∧ VRel (G0 w) w none (.ce (.sl false ks rows)) v := by
  obtain ⟨rows, h1, h2, h3, _⟩ := in_slice_sz ht hk hC hpos hval hd
  exact ⟨rows, h1, h2, h3⟩
end
end Go.HL
