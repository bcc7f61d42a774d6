/-
  Part 1 of the texts that the law needs, merged: a value-level calculus of the code (HL), the contracts of the functions, and their proofs.
  Conditions: none.
-/
import Derived.Test.YtneingpnkdeooaaG6
set_option maxRecDepth 100000
set_option linter.unusedVariables false
set_option linter.unusedSimpArgs false
namespace Go.HL
open Go Go.ChangeShapes Go.WideShapes Go.ChangeAt Go.RowKit
def fieldsK (P : Program) (rec : TypeId → Option (List Nat)) : List Field → Nat → Option (List Nat)
  | [], _ => some []
  | fl :: r, off => match rec fl.type with
    | some a => bif Nat.beq fl.offset off && Nat.beq (P.cellsOf fl.type) a.length then (match fieldsK P rec r (off + a.length) with
      | some b => some (a ++ b)
      | none => none) else none
    | none => none
def repK : Nat → List Nat → List Nat
  | 0, _ => []
  | n + 1, a => a ++ repK n a
def kindsOf (P : Program) : Nat → TypeId → Option (List Nat)
  | 0, _ => none
  | f + 1, t => match P.underlying t with
    | some .bool => some [0]
    | some (.int k) => some [kcode k]
    | some (.struct fs) => match fieldsK P (kindsOf P f) fs.toList 0 with
      | some ks => bif Nat.beq ks.length (P.cellsOf t) then some ks else none
      | none => none
    | some (.array n e) => match kindsOf P f e with
      | some a => bif Nat.beq (P.cellsOf e) a.length && Nat.beq (P.cellsOf t) (n * a.length) then some (repK n a) else none
      | none => none
    | _ => none
def InK : Nat → Int → Prop
  | 0, n => n = 0 ∨ n = 1
  | k + 1, n => kLo (kk k) ≤ n ∧ n ≤ kHi (kk k)
def zipK : List Nat → List Int → List Value
  | k :: ks, n :: r => kval k n :: zipK ks r
  | _, _ => []
def AllIn : List Nat → List Int → Prop
  | k :: ks, n :: r => InK k n ∧ AllIn ks r
  | [], [] => True
  | _, _ => False
def Flat (ks : List Nat) (cs : List Value) : Prop := ∃ row, AllIn ks row ∧ cs = zipK ks row
theorem AllIn.len : ∀ {ks : List Nat} {row : List Int}, AllIn ks row → row.length = ks.length
  | [], [], _ => rfl
  | _ :: _, _ :: _, h => by simp [AllIn.len h.2]
  | [], _ :: _, h => h.elim
  | _ :: _, [], h => h.elim
theorem AllIn.cons {k : Nat} {ks : List Nat} {row : List Int} (h : AllIn (k :: ks) row) : ∃ n l, row = n :: l := by
  cases row with
  | nil => exact h.elim
  | cons n l => exact ⟨n, l, rfl⟩
theorem AllIn.nil {row : List Int} (h : AllIn [] row) : row = [] := by
  cases row with
  | nil => rfl
  | cons n l => exact h.elim
theorem AllIn.append : ∀ {a b : List Nat} {r s : List Int}, AllIn a r → AllIn b s → AllIn (a ++ b) (r ++ s) ∧ zipK (a ++ b) (r ++ s) = zipK a r ++ zipK b s
  | [], b, [], s, _, h => ⟨h, rfl⟩
  | _ :: a, b, _ :: r, s, h, h' => by
    obtain ⟨h1, h2⟩ := AllIn.append (a := a) (r := r) h.2 h'
    exact ⟨⟨h.1, h1⟩, by simp [zipK, h2]⟩
  | [], _, _ :: _, _, h, _ => h.elim
  | _ :: _, _, [], _, h, _ => h.elim
theorem Flat.append {a b : List Nat} {cs ds : List Value} (h : Flat a cs) (h' : Flat b ds) : Flat (a ++ b) (cs ++ ds) := by
  obtain ⟨r, h1, rfl⟩ := h
  obtain ⟨s, h2, rfl⟩ := h'
  exact ⟨r ++ s, (AllIn.append h1 h2).1, (AllIn.append h1 h2).2.symm⟩
theorem zipK_get : ∀ {ks : List Nat} {row : List Int} {j : Nat}, AllIn ks row → j < ks.length → (zipK ks row)[j]? = some (kval (ks.getD j 0) (row.getD j 0)) ∧ InK (ks.getD j 0) (row.getD j 0)
  | _ :: _, _ :: _, 0, h, _ => ⟨rfl, h.1⟩
  | _ :: ks, _ :: r, j + 1, h, hj => by
    have := zipK_get (j := j) h.2 (by simpa using hj)
    simpa [zipK] using this
  | [], _, _, _, hj => by simp at hj
  | _ :: _, [], _, h, _ => h.elim
section
variable {H : Type} {enc : TypeId × Value → H} {P : Program} {w : World} {base : Nat} {spare : Nat → Bool} {held : Bool}
theorem wf_in {k : IntKind} {n : Int} (h : (Lit.int k n).wf = true) : InK (kcode k) n ∧ kval (kcode k) n = .int k n := by
  simp only [Lit.wf, Bool.and_eq_true, decide_eq_true_eq] at h
  cases k <;> simp [IntKind.min, IntKind.max, IntKind.signed, IntKind.bits] at h <;> exact ⟨by simp [InK, kcode, kk, kLo, kHi]; omega, rfl⟩
theorem fields_flat {rec : TypeId → Option (List Nat)} {cs : List Value} {n : Nat}
    (hrec : ∀ t ks, rec t = some ks → ∀ cs x, DataW.trod enc P w base spare held n t cs = some x → Flat ks cs) :
    ∀ (fs : List Field) (off : Nat) (ks : List Nat), fieldsK P rec fs off = some ks → off + ks.length = cs.length →
      (∀ f, f ∈ fs → ∃ x, DataW.trod enc P w base spare held n f.type ((cs.drop f.offset).take (P.cellsOf f.type)) = some x) → Flat ks (cs.drop off)
  | [], off, ks, h, hl, _ => by
    cases h
    have : cs.drop off = [] := List.drop_eq_nil_of_le (by simp at hl; omega)
    rw [this]
    exact ⟨[], trivial, rfl⟩
  | fl :: r, off, ks, h, hl, hf => by
    unfold fieldsK at h
    split at h
    case h_2 => cases h
    rename_i a ha
    cases hb : (Nat.beq fl.offset off && Nat.beq (P.cellsOf fl.type) a.length) with
    | false => rw [hb] at h; cases h
    | true =>
      rw [hb] at h
      simp only [cond_true] at h
      rw [Bool.and_eq_true] at hb
      have e1 := Nat.eq_of_beq_eq_true hb.1
      have e2 := Nat.eq_of_beq_eq_true hb.2
      split at h
      case h_2 => cases h
      rename_i b hbb
      cases h
      obtain ⟨x, hx⟩ := hf fl (List.mem_cons_self ..)
      rw [e1, e2] at hx
      have f1 := hrec _ _ ha _ _ hx
      have f2 := fields_flat hrec r (off + a.length) b hbb (by simp at hl; omega) (fun f hm => hf f (List.mem_cons_of_mem _ hm))
      have : cs.drop off = (cs.drop off).take a.length ++ cs.drop (off + a.length) := by
        rw [← List.drop_drop, List.take_append_drop]
      rw [this]
      exact f1.append f2
theorem elems_flat {a : List Nat} {cs : List Value} : ∀ (n i : Nat), i * a.length + n * a.length = cs.length → (∀ j, i ≤ j → j < i + n → Flat a ((cs.drop (j * a.length)).take a.length)) → Flat (repK n a) (cs.drop (i * a.length))
  | 0, i, hl, _ => by
    have : cs.drop (i * a.length) = [] := List.drop_eq_nil_of_le (by omega)
    rw [this]
    exact ⟨[], trivial, rfl⟩
  | n + 1, i, hl, h => by
    have e : (n + 1) * a.length = n * a.length + a.length := Nat.succ_mul _ _
    have e2 : (i + 1) * a.length = i * a.length + a.length := Nat.succ_mul _ _
    have f1 := h i (Nat.le_refl _) (by omega)
    have f2 := elems_flat n (i + 1) (by omega) (fun j h1 h2 => h j (by omega) (by omega))
    have : cs.drop (i * a.length) = (cs.drop (i * a.length)).take a.length ++ cs.drop ((i + 1) * a.length) := by
      rw [e2, ← List.drop_drop, List.take_append_drop]
    rw [this]
    exact f1.append f2
theorem trod_flat : ∀ (f : Nat) (t : TypeId) (ks : List Nat), kindsOf P f t = some ks → ∀ fuel cs x, DataW.trod enc P w base spare held fuel t cs = some x → Flat ks cs
  | 0, _, _, h, _, _, _, _ => by cases h
  | f + 1, t, ks, h, fuel, cs, x, hx => by
    unfold kindsOf at h
    split at h
    · rename_i ht
      cases h
      obtain ⟨b, rfl, _⟩ := DataW.trod_bool ht hx
      refine ⟨[if b then 1 else 0], ⟨by cases b <;> simp [InK], trivial⟩, ?_⟩
      cases b <;> rfl
    · rename_i k ht
      cases h
      obtain ⟨n, rfl, _, hw⟩ := DataW.trod_int ht hx
      exact ⟨[n], ⟨(wf_in hw).1, trivial⟩, by simp [zipK, (wf_in hw).2]⟩
    · rename_i fs ht
      obtain ⟨xs, n, _, _, hl, hxl, hf⟩ := DataW.trod_struct ht hx
      split at h
      case h_2 => cases h
      rename_i ks' hk
      cases hb : Nat.beq ks'.length (P.cellsOf t) with
      | false => rw [hb] at h; cases h
      | true =>
        rw [hb] at h
        cases h
        have e := Nat.eq_of_beq_eq_true hb
        have := fields_flat (cs := cs) (n := n) (fun t ks h cs x hx => trod_flat f t ks h n cs x hx) fs.toList 0 ks hk (by omega) (fun fl hm => by
          obtain ⟨i, hi, he⟩ := List.mem_iff_getElem.1 hm
          have hi' : i < fs.size := by simpa using hi
          have h1 := hf i fl (by rw [Array.getElem?_eq_getElem hi']; simp at he; rw [he])
          rw [List.getElem?_eq_getElem (by omega)] at h1
          exact ⟨_, h1⟩)
        simpa using this
    · rename_i n e ht
      obtain ⟨xs, m, _, _, hl, hxl, hf⟩ := DataW.trod_array ht hx
      split at h
      case h_2 => cases h
      rename_i a ha
      cases hb : (Nat.beq (P.cellsOf e) a.length && Nat.beq (P.cellsOf t) (n * a.length)) with
      | false => rw [hb] at h; cases h
      | true =>
        rw [hb] at h
        cases h
        rw [Bool.and_eq_true] at hb
        have e1 := Nat.eq_of_beq_eq_true hb.1
        have e2 := Nat.eq_of_beq_eq_true hb.2
        have := elems_flat (a := a) (cs := cs) n 0 (by omega) (fun j _ hj => by
          have h1 := hf j (by omega)
          rw [List.getElem?_eq_getElem (by omega), e1] at h1
          exact trod_flat f e a ha m _ _ h1)
        simpa using this
    · cases h
theorem cells_flat {ks : List Nat} {a : Addr} {cs : List Value} (h1 : ∀ i, i < ks.length → w.cell? (a.add i) = cs[i]?) (hf : Flat ks cs) :
    ∃ row : List Int, AllIn ks row ∧ ∀ j, j < ks.length → w.cell? (a.add j) = some (kval (ks.getD j 0) (row.getD j 0)) := by
  obtain ⟨row, hr, rfl⟩ := hf
  exact ⟨row, hr, fun j hj => by rw [h1 j hj]; exact (zipK_get hr hj).1⟩
theorem in_slice_sz {r : Reach} {b0 : Nat} {t e : TypeId} {ks : List Nat} {v : Value} {d : DataW H} {ps : List MemPlace} (ht : P.underlying t = some (.slice e)) (hk : kindsOf P 12 e = some ks) (hC : P.cellsOf e = ks.length) (hpos : 0 < ks.length)
    (hval : Value.okWide P w r b0 t v) (hd : DataW.Trod enc P w base (fun _ => true) held t v d ps) :
    ∃ rows : List (List Int), rows.length ≤ maxLen ∧ (∀ i, i < rows.length → AllIn ks (rows.getD i [])) ∧ VRel (G0 w) w none (.ce (.sl false ks rows)) v ∧
      ∀ R B : Nat, (∀ es sp, d = .slice es sp → (es.length + sp.length) * B ≤ R) → rows.length * B ≤ R := by
  obtain ⟨fuel, hd⟩ := hd
  obtain ⟨ad, len, cap, rfl⟩ := okWide_slice ht hval
  have hc : (Value.slice ad len cap).cells.toList = [.slice ad len cap] := by simp [Value.cells]
  rw [hc] at hd
  rcases DataW.trod_slice ht hd with ⟨he, _⟩ | ⟨a, len', cap', elems, rest, n, _, he, hxd, hb, hl, hm, hlen, hel, hsp, _⟩
  · simp at he
    obtain ⟨rfl, rfl, rfl⟩ := he
    exact ⟨[], Nat.zero_le _, fun i hi => by simp at hi, ⟨none, 0, rfl, Nat.le_refl _, Nat.zero_le _, .inl ⟨.inl rfl, rfl, rfl⟩⟩, fun R B _ => by simp⟩
  · simp at he
    obtain ⟨rfl, rfl, rfl⟩ := he
    obtain ⟨hrl, hrest⟩ := hsp rfl
    have hall : ∀ i, i < cap → ∃ row : List Int, AllIn ks row ∧ ∀ j, j < ks.length → w.cell? ((a.add (i * ks.length)).add j) = some (kval (ks.getD j 0) (row.getD j 0)) := by
      intro i hi
      have key : ∀ y, (w.cells? base (a.add (i * P.cellsOf e)) (P.cellsOf e)).bind (DataW.trod enc P w base (fun _ => true) held n e) = some y →
          ∃ row : List Int, AllIn ks row ∧ ∀ j, j < ks.length → w.cell? ((a.add (i * ks.length)).add j) = some (kval (ks.getD j 0) (row.getD j 0)) := by
        intro y hy
        rw [Option.bind_eq_some_iff] at hy
        obtain ⟨cs, h1, h2⟩ := hy
        obtain ⟨_, _, h3⟩ := World.cells?_some h1
        rw [hC] at h3
        exact cells_flat h3 (trod_flat 12 e ks hk n cs y h2)
      by_cases hi2 : i < len
      · have := hel i hi2
        rw [List.getElem?_eq_getElem (by omega)] at this
        exact key _ this
      · have := hrest (i - len) (by omega)
        rw [List.getElem?_eq_getElem (by omega), show len + (i - len) = i by omega] at this
        exact key _ this
    have hch : ∀ i, ∃ row : List Int, i < cap → AllIn ks row ∧ ∀ j, j < ks.length → w.cell? ((a.add (i * ks.length)).add j) = some (kval (ks.getD j 0) (row.getD j 0)) := by
      intro i
      by_cases hi : i < cap
      · obtain ⟨row, h⟩ := hall i hi; exact ⟨row, fun _ => h⟩
      · exact ⟨[], fun h => absurd h hi⟩
    obtain ⟨f, hrows⟩ : ∃ f : Nat → List Int, ∀ i, i < cap → AllIn ks (f i) ∧ ∀ j, j < ks.length → w.cell? ((a.add (i * ks.length)).add j) = some (kval (ks.getD j 0) ((f i).getD j 0)) :=
      ⟨fun i => Classical.choose (hch i), fun i => Classical.choose_spec (hch i)⟩
    clear hch
    refine ⟨(List.range len).map f, by simp; omega, fun i hi => ?_, ?_, fun R B hs => ?_⟩
    · simp at hi
      have : ((List.range len).map f).getD i [] = f i := by simp [List.getD_eq_getElem?_getD, hi]
      rw [this]
      exact (hrows i (by omega)).1
    · have hll : ((List.range len).map f).length = len := by simp
      refine ⟨some a, cap, by rw [hll], by rw [hll]; exact hl, hm, ?_⟩
      rw [hll]
      by_cases hc0 : cap = 0
      · exact .inl ⟨.inl rfl, by omega, hc0⟩
      · have h0 := (hrows 0 (by omega)).2 0 hpos
        have hx0 : (a.add (0 * ks.length)).add 0 = a := by simp [Addr.add]
        rw [hx0] at h0
        obtain ⟨hbk, hs⟩ := cell_lt h0
        have hx : a = at_ a.block a.off := by
          cases a with
          | mk b o s => dsimp only at hs; subst hs; rfl
        refine .inr ⟨a.block, a.off, by rw [← hx], fun i j hi hj => ⟨hbk, ?_⟩, fun _ e => nomatch e⟩
        have h1 := (hrows i (by omega)).2 j hj
        rw [hx, at_add, at_add, show a.off + i * ks.length + j = a.off + (i * ks.length + j) by omega] at h1
        have hg : ((List.range len).map f).getD i [] = f i := by simp [List.getD_eq_getElem?_getD, hi]
        rw [hg]
        exact h1
    · have := hs (elems.map (·.1)) (rest.map (·.1)) (congrArg Prod.fst hxd)
      simp only [List.length_map, List.length_range] at this ⊢
      rw [hlen, Nat.add_mul] at this
      omega
theorem in_slice {r : Reach} {b0 : Nat} {t e : TypeId} {ks : List Nat} {v : Value} {d : DataW H} {ps : List MemPlace} (ht : P.underlying t = some (.slice e)) (hk : kindsOf P 12 e = some ks) (hC : P.cellsOf e = ks.length) (hpos : 0 < ks.length)
    (hval : Value.okWide P w r b0 t v) (hd : DataW.Trod enc P w base (fun _ => true) held t v d ps) :
    ∃ rows : List (List Int), rows.length ≤ maxLen ∧ (∀ i, i < rows.length → AllIn ks (rows.getD i [])) ∧ VRel (G0 w) w none (.ce (.sl false ks rows)) v := by
  obtain ⟨rows, h1, h2, h3, _⟩ := in_slice_sz ht hk hC hpos hval hd
  exact ⟨rows, h1, h2, h3⟩
end
end Go.HL
namespace U
open Go
def RunS.M0 (x : RunS) : Int → Int := mtr x.a.st x.a.og x.a.sg x.a.pit x.a.bl x.s0 x.sg 0 x.pk x.f x.d0
def RunS.M1 (x : RunS) : Int → Int := mtr x.b.st x.b.og x.b.sg x.b.pit x.b.bl x.s1 x.sg 1 x.pk x.f x.d1
def RunS.M2 (x : RunS) : Int → Int := mtr x.c.st x.c.og x.c.sg x.c.pit x.c.bl x.s2 x.sg 2 x.pk x.f x.d2
end U
namespace Go.Proofs.Ytneingpnkdeooaa
open Go Go.HL U
theorem okRun_ex : ∃ x, okRun x := by
  obtain ⟨a, ha⟩ := okAx_ex
  have hp : okPath 0 0 0 [] [] := ⟨by unfold b3; decide, okSegs_nil _ _ _, by decide, by decide⟩
  have h0 : (0 : Int) ≤ 0 ∧ 0 ≤ plen [] := by decide
  exact ⟨⟨0, 0, 0, [], [], a, a, a, 1, 1, 1, 0, 0, _, _⟩, hp, ha, ha, ha, ⟨.inl rfl, .inl rfl, .inl rfl⟩, h0, h0, rfl, rfl⟩
theorem okRun_ln0 {x : RunS} (h : okRun x) : 0 ≤ x.ln := (okRun_pre h).2.2.1.2.1.1
attribute [local irreducible] hfun bodyT fragT
end Go.Proofs.Ytneingpnkdeooaa
namespace U
open Go
def tshf (pk : List (List Int)) (d bl u : Int) (c : Nat) : Int :=
  if tfind pk u < 0 then bsh bl d else tsh bl (ec pk (tfind pk u).toNat 3) (ec pk (tfind pk u).toNat (4 + c)) (ec pk (tfind pk u).toNat (7 + c)) (ec pk (tfind pk u).toNat 0) u
theorem mtr_shf (st og sg : Int) (pt : List (List Int)) (bl s : Int) (sgs : List (List Int)) (c : Nat) (pk : List (List Int)) (sa d u : Int) :
    mtr st og sg pt bl s sgs c pk sa d u = mot st og sg pt (ptAt s sgs c (tplace pk sa u)) + tshf pk d bl u c := rfl
def unitOK (s : Int) (sgs : List (List Int)) (c : Nat) (bl d f m : Int) (pk : List (List Int)) (u : Int) : Prop :=
  (tplace pk f u = tplace pk f (u - 1) ∧ (-1 ≤ tshf pk d bl u c - tshf pk d bl (u - 1) c ∧ tshf pk d bl u c - tshf pk d bl (u - 1) c ≤ 1) ∧ (-bl ≤ tshf pk d bl u c ∧ tshf pk d bl u c ≤ 0)) ∨
  (tplace pk f u = tplace pk f (u - 1) + m ∧ (0 ≤ tplace pk f u ∧ tplace pk f u ≤ plen sgs) ∧ (0 ≤ tplace pk f (u - 1) ∧ tplace pk f (u - 1) ≤ plen sgs) ∧
    ∃ e, pm e ∧ tshf pk d bl u c = bsh bl e ∧ tshf pk d bl (u - 1) c = bsh bl e ∧ 0 ≤ e * (ptAt s sgs c (tplace pk f u) - ptAt s sgs c (tplace pk f (u - 1))))
def legOK (s0 s1 s2 : Int) (sgs : List (List Int)) (b0 b1 b2 d0 d1 d2 f m : Int) (pk : List (List Int)) (ln p a0 a1 a2 : Int) : Prop :=
  okT pk ln ∧ 0 ≤ ln ∧ tplace pk f ln = p ∧ tplace pk f 0 = f ∧ (pm a0 ∧ pm a1 ∧ pm a2) ∧
  (tshf pk d0 b0 ln 0 = bsh b0 a0 ∧ tshf pk d1 b1 ln 1 = bsh b1 a1 ∧ tshf pk d2 b2 ln 2 = bsh b2 a2) ∧
  (tshf pk d0 b0 0 0 = bsh b0 d0 ∧ tshf pk d1 b1 0 1 = bsh b1 d1 ∧ tshf pk d2 b2 0 2 = bsh b2 d2) ∧
  ∀ u, 1 ≤ u ∧ u ≤ ln → unitOK s0 sgs 0 b0 d0 f m pk u ∧ unitOK s1 sgs 1 b1 d1 f m pk u ∧ unitOK s2 sgs 2 b2 d2 f m pk u
end U
namespace Go.Proofs.Ytneingpnkdeooaa
open Go Go.HL U
theorem okT_end {pk : List (List Int)} {ln : Int} (h : okT pk ln) (hl : 0 ≤ ln) : (∀ j, j < pk.length → 0 ≤ ec pk j 0 ∧ endp pk j ≤ ln) ∧ ∀ i j, i ≤ j → j < pk.length → endp pk i ≤ endp pk j := by
  obtain ⟨_, h2, h3, h4⟩ := h
  have mono : ∀ i n, i + n < pk.length → endp pk i ≤ endp pk (i + n) := by
    intro i n
    induction n with
    | zero => intro _; exact Int.le_refl _
    | succ n ih =>
      intro hj
      have := ih (by omega)
      have e := h3 (i + n) (by omega)
      have u := (h4 (i + n + 1) (by omega)).1
      show endp pk i ≤ endp pk (i + n + 1)
      unfold endp at this e ⊢
      omega
  have mono2 : ∀ i j, i ≤ j → j < pk.length → endp pk i ≤ endp pk j := fun i j hij hj => by
    have := mono i (j - i) (by omega)
    rw [show i + (j - i) = j by omega] at this
    exact this
  refine ⟨fun j hj => ⟨?_, ?_⟩, mono2⟩
  · cases j with
    | zero => rw [(h2 (by omega)).1]; exact Int.le_refl _
    | succ i =>
      rw [h3 i hj]
      have := mono2 0 i (Nat.zero_le _) (by omega)
      have e0 := (h2 (by omega)).1
      have u0 := (h4 0 (by omega)).1
      unfold endp at this ⊢
      omega
  · have := mono2 j (pk.length - 1) (by omega) (by omega)
    rw [(h2 (by omega)).2] at this
    exact this
theorem okT_find {pk : List (List Int)} {ln u : Int} (h : okT pk ln) (hl : 0 ≤ ln) (hp : 0 < pk.length) (hu : 0 ≤ u ∧ u ≤ ln) :
    ∃ j, j < pk.length ∧ tfind pk u = (j : Int) ∧ u ≤ endp pk j ∧ (∀ k, k < j → endp pk k < u) ∧ ec pk j 0 ≤ u := by
  rcases tpcA_spec u pk 0 with ⟨_, hh⟩ | ⟨j, h1, h2, h3, h4⟩
  · have := hh (pk.length - 1) (by omega)
    have := (h.2.1 hp).2
    omega
  · refine ⟨j, h1, by unfold tfind; omega, h3, h4, ?_⟩
    cases j with
    | zero => rw [(h.2.1 hp).1]; exact hu.1
    | succ i => have := h4 i (by omega); rw [h.2.2.1 i h1]; omega
theorem find_app {pk : List (List Int)} {ln u : Int} {r : List Int} (h : okT pk ln) (hl : 0 ≤ ln) (hp : 0 < pk.length) (hu : 0 ≤ u ∧ u ≤ ln) : tfind (pk ++ [r]) u = tfind pk u ∧ ∀ c, ec (pk ++ [r]) (tfind pk u).toNat c = ec pk (tfind pk u).toNat c := by
  obtain ⟨j, h1, h2, h3, h4, _⟩ := okT_find h hl hp hu
  have e : ∀ k c, k < pk.length → ec (pk ++ [r]) k c = ec pk k c := fun k c hk => by rw [ec_app, if_pos hk]
  have ee : ∀ k, k < pk.length → endp (pk ++ [r]) k = endp pk k := fun k hk => by unfold endp; rw [e k 0 hk, e k 1 hk]
  refine ⟨?_, fun c => by rw [h2]; exact e j c h1⟩
  rw [h2]
  exact tfind_of (by rw [List.length_append]; omega) (by rw [ee j h1]; exact h3) (fun k hk => by rw [ee k (by omega)]; exact h4 k hk)
theorem find_new {pk : List (List Int)} {ln u U : Int} {r : List Int} (h : okT pk ln) (hl : 0 ≤ ln) (hr : r.getD 0 0 = ln) (hr1 : r.getD 1 0 = U) (hu : ln < u ∧ u ≤ ln + U) : tfind (pk ++ [r]) u = (pk.length : Int) ∧ ∀ c, ec (pk ++ [r]) pk.length c = r.getD c 0 := by
  have e : ∀ k c, k < pk.length → ec (pk ++ [r]) k c = ec pk k c := fun k c hk => by rw [ec_app, if_pos hk]
  have el : ∀ c, ec (pk ++ [r]) pk.length c = r.getD c 0 := fun c => by rw [ec_app, if_neg (by omega), Nat.sub_self]; rfl
  have ee : ∀ k, k < pk.length → endp (pk ++ [r]) k = endp pk k := fun k hk => by unfold endp; rw [e k 0 hk, e k 1 hk]
  refine ⟨tfind_of (by simp) (by unfold endp; rw [el, el, hr, hr1]; omega) (fun k hk => ?_), el⟩
  rw [ee k hk]
  have := ((okT_end h hl).1 k hk).2
  omega
theorem find_new0 {U : Int} {r : List Int} (hr : r.getD 0 0 = 0) (hr1 : r.getD 1 0 = U) (hU : 0 ≤ U) : tfind ([] ++ [r]) 0 = 0 ∧ ∀ c, ec ([] ++ [r]) 0 c = r.getD c 0 := by
  refine ⟨?_, fun c => rfl⟩
  have := tfind_of (pk := [r]) (u := 0) (j := 0) (by simp) (by show 0 ≤ r.getD 0 0 + r.getD 1 0; omega) (fun k hk => by omega)
  exact this
theorem find_set {pk : List (List Int)} {ln u U : Int} (h : okT pk ln) (hl : 0 ≤ ln) (hp : 0 < pk.length) (hU : 0 ≤ U) (hu : 0 ≤ u ∧ u ≤ ln) :
    tfind (pk.set (pk.length - 1) (more (pk.getD (pk.length - 1) []) U)) u = tfind pk u ∧ ∀ c, c ≠ 1 → c < 10 → ec (pk.set (pk.length - 1) (more (pk.getD (pk.length - 1) []) U)) (tfind pk u).toNat c = ec pk (tfind pk u).toNat c := by
  obtain ⟨j, h1, h2, h3, h4, _⟩ := okT_find h hl hp hu
  have es : ∀ j c, ec (pk.set (pk.length - 1) (more (pk.getD (pk.length - 1) []) U)) j c = if pk.length - 1 = j then (more (pk.getD (pk.length - 1) []) U).getD c 0 else ec pk j c := fun j c => ec_set _ _ _ _ _ (by omega)
  have m : ∀ c, c ≠ 1 → c < 10 → (more (pk.getD (pk.length - 1) []) U).getD c 0 = ec pk (pk.length - 1) c := fun c hc hc2 => by
    have hc : c = 0 ∨ c = 2 ∨ c = 3 ∨ c = 4 ∨ c = 5 ∨ c = 6 ∨ c = 7 ∨ c = 8 ∨ c = 9 := by omega
    rcases hc with rfl | rfl | rfl | rfl | rfl | rfl | rfl | rfl | rfl <;> rfl
  have m1 : (more (pk.getD (pk.length - 1) []) U).getD 1 0 = ec pk (pk.length - 1) 1 + U := rfl
  have eq : ∀ k c, c ≠ 1 → c < 10 → ec (pk.set (pk.length - 1) (more (pk.getD (pk.length - 1) []) U)) k c = ec pk k c := fun k c hc hc2 => by
    rw [es]
    split
    · rename_i e; rw [m c hc hc2, e]
    · rfl
  have ee : ∀ k, k ≠ pk.length - 1 → endp (pk.set (pk.length - 1) (more (pk.getD (pk.length - 1) []) U)) k = endp pk k := fun k hk => by
    unfold endp; rw [es, es, if_neg (fun e => hk e.symm), if_neg (fun e => hk e.symm)]
  have el : endp (pk.set (pk.length - 1) (more (pk.getD (pk.length - 1) []) U)) (pk.length - 1) = endp pk (pk.length - 1) + U := by
    unfold endp; rw [es, es, if_pos rfl, if_pos rfl, m 0 (by decide) (by decide), m1]; omega
  refine ⟨?_, fun c hc hc2 => by rw [h2]; exact eq j c hc hc2⟩
  rw [h2]
  refine tfind_of (by rw [List.length_set]; exact h1) ?_ (fun k hk => by rw [ee k (by omega)]; exact h4 k hk)
  by_cases hj : j = pk.length - 1
  · subst hj; rw [el]; omega
  · rw [ee j hj]; exact h3
theorem find_setn {pk : List (List Int)} {ln u U : Int} (h : okT pk ln) (hl : 0 ≤ ln) (hp : 0 < pk.length) (hu : ln < u ∧ u ≤ ln + U) :
    tfind (pk.set (pk.length - 1) (more (pk.getD (pk.length - 1) []) U)) u = ((pk.length - 1 : Nat) : Int) ∧ ∀ c, c ≠ 1 → c < 10 → ec (pk.set (pk.length - 1) (more (pk.getD (pk.length - 1) []) U)) (pk.length - 1) c = ec pk (pk.length - 1) c := by
  have es : ∀ j c, ec (pk.set (pk.length - 1) (more (pk.getD (pk.length - 1) []) U)) j c = if pk.length - 1 = j then (more (pk.getD (pk.length - 1) []) U).getD c 0 else ec pk j c := fun j c => ec_set _ _ _ _ _ (by omega)
  have m : ∀ c, c ≠ 1 → c < 10 → (more (pk.getD (pk.length - 1) []) U).getD c 0 = ec pk (pk.length - 1) c := fun c hc hc2 => by
    have hc : c = 0 ∨ c = 2 ∨ c = 3 ∨ c = 4 ∨ c = 5 ∨ c = 6 ∨ c = 7 ∨ c = 8 ∨ c = 9 := by omega
    rcases hc with rfl | rfl | rfl | rfl | rfl | rfl | rfl | rfl | rfl <;> rfl
  have m1 : (more (pk.getD (pk.length - 1) []) U).getD 1 0 = ec pk (pk.length - 1) 1 + U := rfl
  refine ⟨tfind_of (by rw [List.length_set]; omega) ?_ (fun k hk => ?_), fun c hc hc2 => by rw [es, if_pos rfl, m c hc hc2]⟩
  · have := (h.2.1 hp).2
    unfold endp at this ⊢
    rw [es, es, if_pos rfl, if_pos rfl, m 0 (by decide) (by decide), m1]
    omega
  · unfold endp
    rw [es, es, if_neg (by omega), if_neg (by omega)]
    have := ((okT_end h hl).1 k (by omega)).2
    unfold endp at this
    omega
theorem find_last {pk : List (List Int)} {ln : Int} (h : okT pk ln) (hl : 0 ≤ ln) (hp : 0 < pk.length) : tfind pk ln = ((pk.length - 1 : Nat) : Int) := by
  have he := (h.2.1 hp).2
  refine tfind_of (by omega) (by omega) (fun k hk => ?_)
  have e := h.2.2.1 (pk.length - 2) (by omega)
  rw [show pk.length - 2 + 1 = pk.length - 1 by omega] at e
  have := (okT_end h hl).2 k (pk.length - 2) (by omega) (by omega)
  have u := (h.2.2.2 (pk.length - 1) (by omega)).1
  unfold endp at he e this ⊢
  omega
theorem place_eq {pk pk' : List (List Int)} {u sa : Int} (h : tfind pk' u = tfind pk u) (e : ∀ c, c ≠ 1 → c < 10 → ec pk' (tfind pk u).toNat c = ec pk (tfind pk u).toNat c) : tplace pk' sa u = tplace pk sa u := by
  unfold tplace; rw [h, e 2 (by decide) (by decide), e 3 (by decide) (by decide), e 0 (by decide) (by decide)]
theorem shf_eq {pk pk' : List (List Int)} {u d bl : Int} {c : Nat} (hc : c < 3) (h : tfind pk' u = tfind pk u) (e : ∀ c, c ≠ 1 → c < 10 → ec pk' (tfind pk u).toNat c = ec pk (tfind pk u).toNat c) : tshf pk' d bl u c = tshf pk d bl u c := by
  unfold tshf; rw [h, e 3 (by decide) (by decide), e (4 + c) (by omega) (by omega), e (7 + c) (by omega) (by omega), e 0 (by decide) (by decide)]
theorem place_at {pk : List (List Int)} {u sa : Int} {j : Nat} (h : tfind pk u = (j : Int)) : tplace pk sa u = ec pk j 2 + ec pk j 3 * (u - ec pk j 0) := by
  unfold tplace; rw [h, if_neg (by omega)]; rfl
theorem shf_at {pk : List (List Int)} {u d bl : Int} {j c : Nat} (h : tfind pk u = (j : Int)) : tshf pk d bl u c = tsh bl (ec pk j 3) (ec pk j (4 + c)) (ec pk j (7 + c)) (ec pk j 0) u := by
  unfold tshf; rw [h, if_neg (by omega)]; rfl
theorem unit_eq {s : Int} {sgs : List (List Int)} {c : Nat} {bl d f m : Int} {pk pk' : List (List Int)} {u : Int} (h1 : tplace pk' f u = tplace pk f u) (h2 : tplace pk' f (u - 1) = tplace pk f (u - 1))
    (h3 : tshf pk' d bl u c = tshf pk d bl u c) (h4 : tshf pk' d bl (u - 1) c = tshf pk d bl (u - 1) c) (h : unitOK s sgs c bl d f m pk u) : unitOK s sgs c bl d f m pk' u := by
  unfold unitOK at h ⊢
  rw [h1, h2, h3, h4]; exact h
theorem tsh_move {bl mv w n a u : Int} (h : mv ≠ 0) : tsh bl mv w n a u = bsh bl n := by unfold tsh; rw [if_pos (.inl h)]
theorem tsh_zero {bl a n at_ : Int} (ha : pm a) (hn : pm n) (hb : 0 ≤ bl) : tsh bl 0 a n at_ at_ = bsh bl a := by
  unfold tsh
  by_cases e : a = n
  · rw [if_pos (.inr e), e]
  · rw [if_neg (by simp [e])]
    unfold pm at ha hn
    unfold bsh
    by_cases e2 : n = -1
    · rw [if_pos e2, if_neg (by omega)]; omega
    · rw [if_neg e2, if_pos (by omega)]; omega
theorem tsh_step1 {bl a n at_ v : Int} (hb : 0 ≤ bl) (hv : 1 ≤ v) : (-1 ≤ tsh bl 0 a n at_ (at_ + v) - tsh bl 0 a n at_ (at_ + (v - 1)) ∧ tsh bl 0 a n at_ (at_ + v) - tsh bl 0 a n at_ (at_ + (v - 1)) ≤ 1) ∧ (-bl ≤ tsh bl 0 a n at_ (at_ + v) ∧ tsh bl 0 a n at_ (at_ + v) ≤ 0) := by
  have hb' : -bl ≤ bsh bl n ∧ bsh bl n ≤ 0 := by unfold bsh; split <;> omega
  unfold tsh
  by_cases e : a = n
  · rw [if_pos (Or.inr e : (0 : Int) ≠ 0 ∨ a = n), if_pos (Or.inr e : (0 : Int) ≠ 0 ∨ a = n)]
    omega
  · have e' : ¬ ((0 : Int) ≠ 0 ∨ a = n) := by simp [e]
    rw [if_neg e', if_neg e']
    by_cases e2 : n = -1
    · rw [if_pos e2, if_pos e2]; omega
    · rw [if_neg e2, if_neg e2]; omega
theorem tsh_end {bl a n at_ U : Int} (hn : pm n) (hU : a ≠ n → bl ≤ U) : tsh bl 0 a n at_ (at_ + U) = bsh bl n := by
  unfold tsh
  by_cases e : a = n
  · rw [if_pos (.inr e)]
  · have := hU e
    rw [if_neg (by simp [e])]
    unfold pm at hn
    unfold bsh
    by_cases e2 : n = -1
    · rw [if_pos e2, if_pos e2]; omega
    · rw [if_neg e2, if_neg e2]; omega
def stepD (s : Int) (sgs : List (List Int)) (c : Nat) (bl m p mv : Int) (g : Int → Int) (v : Int) : Prop :=
  (mv = 0 ∧ (-1 ≤ g v - g (v - 1) ∧ g v - g (v - 1) ≤ 1) ∧ (-bl ≤ g v ∧ g v ≤ 0)) ∨
  (mv = m ∧ (0 ≤ p + mv * v ∧ p + mv * v ≤ plen sgs) ∧ (0 ≤ p + mv * (v - 1) ∧ p + mv * (v - 1) ≤ plen sgs) ∧ ∃ e, pm e ∧ g v = bsh bl e ∧ g (v - 1) = bsh bl e ∧ 0 ≤ e * (ptAt s sgs c (p + mv * v) - ptAt s sgs c (p + mv * (v - 1))))
theorem unit_ext {s : Int} {sgs : List (List Int)} {c : Nat} {bl d f m ln U p mv : Int} {pk pk' : List (List Int)} {g : Int → Int}
    (oldP : ∀ u, 0 ≤ u ∧ u ≤ ln → tplace pk' f u = tplace pk f u) (oldS : ∀ u, 0 ≤ u ∧ u ≤ ln → tshf pk' d bl u c = tshf pk d bl u c)
    (newP : ∀ v, 0 ≤ v ∧ v ≤ U → tplace pk' f (ln + v) = p + mv * v) (newS : ∀ v, 0 ≤ v ∧ v ≤ U → tshf pk' d bl (ln + v) c = g v)
    (hs : ∀ v, 1 ≤ v ∧ v ≤ U → stepD s sgs c bl m p mv g v) (h : ∀ u, 1 ≤ u ∧ u ≤ ln → unitOK s sgs c bl d f m pk u) : ∀ u, 1 ≤ u ∧ u ≤ ln + U → unitOK s sgs c bl d f m pk' u := by
  intro u hu
  by_cases h1 : u ≤ ln
  · exact unit_eq (oldP u (by omega)) (oldP (u - 1) (by omega)) (oldS u (by omega)) (oldS (u - 1) (by omega)) (h u (by omega))
  · have a := newP (u - ln) (by omega)
    have b := newP (u - ln - 1) (by omega)
    have a2 := newS (u - ln) (by omega)
    have b2 := newS (u - ln - 1) (by omega)
    rw [show ln + (u - ln) = u by omega] at a a2
    rw [show ln + (u - ln - 1) = u - 1 by omega] at b b2
    have e := hs (u - ln) (by omega)
    unfold unitOK
    rw [a, b, a2, b2]
    rcases e with ⟨e0, e1, e2⟩ | ⟨e0, e1, e2, e3⟩
    · left
      refine ⟨by rw [e0]; simp, e1, e2⟩
    · right
      refine ⟨?_, e1, e2, e3⟩
      rw [← e0, Int.mul_sub mv (u - ln) 1]
      omega
theorem legOK_ext {s0 s1 s2 : Int} {sgs : List (List Int)} {b0 b1 b2 d0 d1 d2 f m ln U p mv a0 a1 a2 n0 n1 n2 : Int} {pk pk' : List (List Int)} {g0 g1 g2 : Int → Int}
    (h : legOK s0 s1 s2 sgs b0 b1 b2 d0 d1 d2 f m pk ln p a0 a1 a2) (hT : okT pk' (ln + U)) (hU : 1 ≤ U) (hn : pm n0 ∧ pm n1 ∧ pm n2)
    (oldP : ∀ u, 0 ≤ u ∧ u ≤ ln → tplace pk' f u = tplace pk f u)
    (oldS : ∀ u, 0 ≤ u ∧ u ≤ ln → tshf pk' d0 b0 u 0 = tshf pk d0 b0 u 0 ∧ tshf pk' d1 b1 u 1 = tshf pk d1 b1 u 1 ∧ tshf pk' d2 b2 u 2 = tshf pk d2 b2 u 2)
    (newP : ∀ v, 0 ≤ v ∧ v ≤ U → tplace pk' f (ln + v) = p + mv * v)
    (newS : ∀ v, 0 ≤ v ∧ v ≤ U → tshf pk' d0 b0 (ln + v) 0 = g0 v ∧ tshf pk' d1 b1 (ln + v) 1 = g1 v ∧ tshf pk' d2 b2 (ln + v) 2 = g2 v)
    (hs : ∀ v, 1 ≤ v ∧ v ≤ U → stepD s0 sgs 0 b0 m p mv g0 v ∧ stepD s1 sgs 1 b1 m p mv g1 v ∧ stepD s2 sgs 2 b2 m p mv g2 v)
    (he : g0 U = bsh b0 n0 ∧ g1 U = bsh b1 n1 ∧ g2 U = bsh b2 n2) :
    legOK s0 s1 s2 sgs b0 b1 b2 d0 d1 d2 f m pk' (ln + U) (p + mv * U) n0 n1 n2 := by
  obtain ⟨h1, h2, h3, h4, h5, h6, h7, h8⟩ := h
  have nU := newS U (by omega)
  have o0 := oldS 0 (by omega)
  refine ⟨hT, by omega, newP U (by omega), by rw [oldP 0 (by omega)]; exact h4, hn, ⟨by rw [nU.1]; exact he.1, by rw [nU.2.1]; exact he.2.1, by rw [nU.2.2]; exact he.2.2⟩, ⟨by rw [o0.1]; exact h7.1, by rw [o0.2.1]; exact h7.2.1, by rw [o0.2.2]; exact h7.2.2⟩, fun u hu => ⟨?_, ?_, ?_⟩⟩
  · exact unit_ext oldP (fun u hu => (oldS u hu).1) newP (fun v hv => (newS v hv).1) (fun v hv => (hs v hv).1) (fun u hu => (h8 u hu).1) u hu
  · exact unit_ext oldP (fun u hu => (oldS u hu).2.1) newP (fun v hv => (newS v hv).2.1) (fun v hv => (hs v hv).2.1) (fun u hu => (h8 u hu).2.1) u hu
  · exact unit_ext oldP (fun u hu => (oldS u hu).2.2) newP (fun v hv => (newS v hv).2.2) (fun v hv => (hs v hv).2.2) (fun u hu => (h8 u hu).2.2) u hu
theorem app_ok {s0 s1 s2 : Int} {sgs : List (List Int)} {b0 b1 b2 d0 d1 d2 f m ln U p mv a0 a1 a2 w0 w1 w2 n0 n1 n2 : Int} {pk : List (List Int)}
    (h : legOK s0 s1 s2 sgs b0 b1 b2 d0 d1 d2 f m pk ln p a0 a1 a2) (hT : okT (pk ++ [[ln, U, p, mv, w0, w1, w2, n0, n1, n2]]) (ln + U)) (hU : 1 ≤ U) (hn : pm n0 ∧ pm n1 ∧ pm n2)
    (hz : tsh b0 mv w0 n0 ln ln = bsh b0 a0 ∧ tsh b1 mv w1 n1 ln ln = bsh b1 a1 ∧ tsh b2 mv w2 n2 ln ln = bsh b2 a2)
    (hs : ∀ v, 1 ≤ v ∧ v ≤ U → stepD s0 sgs 0 b0 m p mv (fun v => tsh b0 mv w0 n0 ln (ln + v)) v ∧ stepD s1 sgs 1 b1 m p mv (fun v => tsh b1 mv w1 n1 ln (ln + v)) v ∧ stepD s2 sgs 2 b2 m p mv (fun v => tsh b2 mv w2 n2 ln (ln + v)) v)
    (he : tsh b0 mv w0 n0 ln (ln + U) = bsh b0 n0 ∧ tsh b1 mv w1 n1 ln (ln + U) = bsh b1 n1 ∧ tsh b2 mv w2 n2 ln (ln + U) = bsh b2 n2) :
    legOK s0 s1 s2 sgs b0 b1 b2 d0 d1 d2 f m (pk ++ [[ln, U, p, mv, w0, w1, w2, n0, n1, n2]]) (ln + U) (p + mv * U) n0 n1 n2 := by
  have h' := h
  obtain ⟨h1, h2, h3, h4, h5, h6, h7, h8⟩ := h
  by_cases hp : 0 < pk.length
  · refine legOK_ext (mv := mv) h' hT hU hn (fun u hu => ?_) (fun u hu => ?_) (fun v hv => ?_) (fun v hv => ?_) hs he
    · obtain ⟨f1, f2⟩ := find_app (r := [ln, U, p, mv, w0, w1, w2, n0, n1, n2]) h1 h2 hp hu
      exact place_eq f1 fun c _ _ => f2 c
    · obtain ⟨f1, f2⟩ := find_app (r := [ln, U, p, mv, w0, w1, w2, n0, n1, n2]) h1 h2 hp hu
      exact ⟨shf_eq (by decide) f1 fun c _ _ => f2 c, shf_eq (by decide) f1 fun c _ _ => f2 c, shf_eq (by decide) f1 fun c _ _ => f2 c⟩
    · by_cases hv0 : v = 0
      · subst hv0
        obtain ⟨f1, f2⟩ := find_app (u := ln) (r := [ln, U, p, mv, w0, w1, w2, n0, n1, n2]) h1 h2 hp ⟨h2, Int.le_refl _⟩
        rw [Int.add_zero, place_eq f1 fun c _ _ => f2 c, h3]; simp
      · obtain ⟨f1, f2⟩ := find_new (u := ln + v) (U := U) (r := [ln, U, p, mv, w0, w1, w2, n0, n1, n2]) h1 h2 rfl rfl (by omega)
        rw [place_at f1, f2, f2, f2]
        show p + mv * (ln + v - ln) = p + mv * v
        rw [show ln + v - ln = v by omega]
    · by_cases hv0 : v = 0
      · subst hv0
        obtain ⟨f1, f2⟩ := find_app (u := ln) (r := [ln, U, p, mv, w0, w1, w2, n0, n1, n2]) h1 h2 hp ⟨h2, Int.le_refl _⟩
        rw [Int.add_zero, shf_eq (by decide) f1 fun c _ _ => f2 c, shf_eq (by decide) f1 fun c _ _ => f2 c, shf_eq (by decide) f1 fun c _ _ => f2 c, h6.1, h6.2.1, h6.2.2, hz.1, hz.2.1, hz.2.2]
        exact ⟨rfl, rfl, rfl⟩
      · obtain ⟨f1, f2⟩ := find_new (u := ln + v) (U := U) (r := [ln, U, p, mv, w0, w1, w2, n0, n1, n2]) h1 h2 rfl rfl (by omega)
        rw [shf_at f1, shf_at f1, shf_at f1]
        simp only [f2]
        exact ⟨rfl, rfl, rfl⟩
  · have e0 : pk = [] := List.eq_nil_of_length_eq_zero (by omega)
    have l0 : ln = 0 := h1.1 (by omega)
    subst e0 l0
    have pf : p = f := h3.symm
    obtain ⟨f1, f2⟩ := find_new0 (U := U) (r := [0, U, p, mv, w0, w1, w2, n0, n1, n2]) rfl rfl (by omega)
    have u0 : ∀ u : Int, 0 ≤ u ∧ u ≤ 0 → u = 0 := fun u hu => by omega
    have P0 : tplace ([] ++ [[0, U, p, mv, w0, w1, w2, n0, n1, n2]]) f 0 = p := by
      rw [place_at (j := 0) f1, f2, f2, f2]
      show p + mv * (0 - 0) = p
      simp
    refine legOK_ext (mv := mv) h' hT hU hn (fun u hu => ?_) (fun u hu => ?_) (fun v hv => ?_) (fun v hv => ?_) hs he
    · rw [u0 u hu, P0]; exact h3.symm
    · rw [u0 u hu, shf_at (j := 0) f1, shf_at (j := 0) f1, shf_at (j := 0) f1, h6.1, h6.2.1, h6.2.2]
      simp only [f2]
      exact hz
    · by_cases hv0 : v = 0
      · subst hv0; rw [Int.add_zero, P0]; simp
      · obtain ⟨f1, f2⟩ := find_new (pk := []) (u := 0 + v) (U := U) (r := [0, U, p, mv, w0, w1, w2, n0, n1, n2]) h1 h2 rfl rfl (by omega)
        rw [place_at f1, f2, f2, f2]
        show p + mv * (0 + v - 0) = p + mv * v
        rw [show 0 + v - 0 = v by omega]
    · by_cases hv0 : v = 0
      · subst hv0
        rw [Int.add_zero, shf_at (j := 0) f1, shf_at (j := 0) f1, shf_at (j := 0) f1]
        simp only [f2]
        exact ⟨rfl, rfl, rfl⟩
      · obtain ⟨f1, f2⟩ := find_new (pk := []) (u := 0 + v) (U := U) (r := [0, U, p, mv, w0, w1, w2, n0, n1, n2]) h1 h2 rfl rfl (by omega)
        rw [shf_at f1, shf_at f1, shf_at f1]
        simp only [f2]
        exact ⟨rfl, rfl, rfl⟩
theorem set_ok {s0 s1 s2 : Int} {sgs : List (List Int)} {b0 b1 b2 d0 d1 d2 f m ln U p mv a0 a1 a2 n0 n1 n2 : Int} {pk : List (List Int)}
    (h : legOK s0 s1 s2 sgs b0 b1 b2 d0 d1 d2 f m pk ln p a0 a1 a2) (hp : 0 < pk.length) (hT : okT (pk.set (pk.length - 1) (more (pk.getD (pk.length - 1) []) U)) (ln + U)) (hU : 1 ≤ U) (hn : pm n0 ∧ pm n1 ∧ pm n2)
    (hm : mv ≠ 0) (r3 : ec pk (pk.length - 1) 3 = mv) (r7 : ec pk (pk.length - 1) 7 = n0) (r8 : ec pk (pk.length - 1) 8 = n1) (r9 : ec pk (pk.length - 1) 9 = n2)
    (hs : ∀ v, 1 ≤ v ∧ v ≤ U → stepD s0 sgs 0 b0 m p mv (fun _ => bsh b0 n0) v ∧ stepD s1 sgs 1 b1 m p mv (fun _ => bsh b1 n1) v ∧ stepD s2 sgs 2 b2 m p mv (fun _ => bsh b2 n2) v) :
    legOK s0 s1 s2 sgs b0 b1 b2 d0 d1 d2 f m (pk.set (pk.length - 1) (more (pk.getD (pk.length - 1) []) U)) (ln + U) (p + mv * U) n0 n1 n2 := by
  have h' := h
  obtain ⟨h1, h2, h3, h4, h5, h6, h7, h8⟩ := h
  have fl := find_last h1 h2 hp
  have h3' := h3
  rw [place_at fl, r3] at h3'
  have S0 : ∀ (d bl : Int) (c : Nat) (n : Int), ec pk (pk.length - 1) (7 + c) = n → tshf pk d bl ln c = bsh bl n := fun d bl c n e => by rw [shf_at fl, tsh_move (by rw [r3]; exact hm), e]
  refine legOK_ext (mv := mv) h' hT hU hn (fun u hu => ?_) (fun u hu => ?_) (fun v hv => ?_) (fun v hv => ?_) hs ⟨rfl, rfl, rfl⟩
  · obtain ⟨f1, f2⟩ := find_set (U := U) h1 h2 hp (by omega) hu
    exact place_eq f1 f2
  · obtain ⟨f1, f2⟩ := find_set (U := U) h1 h2 hp (by omega) hu
    exact ⟨shf_eq (by decide) f1 f2, shf_eq (by decide) f1 f2, shf_eq (by decide) f1 f2⟩
  · by_cases hv0 : v = 0
    · subst hv0
      obtain ⟨f1, f2⟩ := find_set (u := ln) (U := U) h1 h2 hp (by omega) ⟨h2, Int.le_refl _⟩
      rw [Int.add_zero, place_eq f1 f2, h3]; simp
    · obtain ⟨f1, f2⟩ := find_setn (u := ln + v) (U := U) h1 h2 hp (by omega)
      rw [place_at f1, f2 2 (by decide) (by decide), f2 3 (by decide) (by decide), f2 0 (by decide) (by decide), r3, ← h3', show ln + v - ec pk (pk.length - 1) 0 = (ln - ec pk (pk.length - 1) 0) + v by omega, Int.mul_add]
      omega
  · by_cases hv0 : v = 0
    · subst hv0
      obtain ⟨f1, f2⟩ := find_set (u := ln) (U := U) h1 h2 hp (by omega) ⟨h2, Int.le_refl _⟩
      rw [Int.add_zero, shf_eq (by decide) f1 f2, shf_eq (by decide) f1 f2, shf_eq (by decide) f1 f2]
      exact ⟨S0 _ _ _ _ r7, S0 _ _ _ _ r8, S0 _ _ _ _ r9⟩
    · obtain ⟨f1, f2⟩ := find_setn (u := ln + v) (U := U) h1 h2 hp (by omega)
      have q : ∀ (d bl : Int) (c : Nat), c < 3 → ∀ n, ec pk (pk.length - 1) (7 + c) = n → tshf (pk.set (pk.length - 1) (more (pk.getD (pk.length - 1) []) U)) d bl (ln + v) c = bsh bl n := fun d bl c hc n e => by
        rw [shf_at f1, f2 3 (by decide) (by decide), r3, tsh_move hm, f2 (7 + c) (by omega) (by omega), e]
      exact ⟨q _ _ 0 (by decide) _ r7, q _ _ 1 (by decide) _ r8, q _ _ 2 (by decide) _ r9⟩
end Go.Proofs.Ytneingpnkdeooaa
namespace Go.Proofs.Ytneingpnkdeooaa
open Go Go.HL U
theorem ediv_near {x e B : Int} (hB : 0 < B) (he : 0 ≤ e ∧ e ≤ B) : x / B ≤ (x + e) / B ∧ (x + e) / B ≤ x / B + 1 := by
  refine ⟨Int.ediv_le_ediv hB (by omega), ?_⟩
  have h1 : (x + e) / B ≤ (x + 1 * B) / B := Int.ediv_le_ediv hB (by omega)
  rw [Int.add_mul_ediv_right x 1 (by omega)] at h1
  exact h1
theorem rnd_step {D L d : Int} (hL : 0 < L) (hD : -L ≤ D ∧ D ≤ L) : (0 ≤ D → 0 ≤ rnd (D * (d + 1)) L - rnd (D * d) L ∧ rnd (D * (d + 1)) L - rnd (D * d) L ≤ 1) ∧ (D ≤ 0 → -1 ≤ rnd (D * (d + 1)) L - rnd (D * d) L ∧ rnd (D * (d + 1)) L - rnd (D * d) L ≤ 0) := by
  unfold rnd
  rw [Int.mul_add D d 1, Int.mul_one]
  generalize D * d = y
  refine ⟨fun h => ?_, fun h => ?_⟩
  · have := ediv_near (x := 2 * y + L) (e := 2 * D) (B := 2 * L) (by omega) (by omega)
    rw [show 2 * (y + D) + L = 2 * y + L + 2 * D by omega]
    omega
  · have := ediv_near (x := 2 * (y + D) + L) (e := -(2 * D)) (B := 2 * L) (by omega) (by omega)
    rw [show 2 * (y + D) + L + -(2 * D) = 2 * y + L by omega] at this
    omega
theorem rnd_zero {L : Int} (hL : 0 < L) : rnd 0 L = 0 := by
  unfold rnd
  exact Int.ediv_eq_zero_of_lt (by omega) (by omega)
theorem rnd_full {D L : Int} (hL : 0 < L) : rnd (D * L) L = D := by
  unfold rnd
  rw [show 2 * (D * L) + L = L + D * (2 * L) by grind, Int.add_mul_ediv_right _ _ (by omega), Int.ediv_eq_zero_of_lt (by omega) (by omega)]
  omega
theorem plen_take_succ : ∀ (l : List (List Int)) (j : Nat), j < l.length → plen (l.take (j + 1)) = plen (l.take j) + ec l j 3
  | [], j, h => by simp at h
  | r :: l, 0, _ => by
    show r.getD 3 0 + 0 = 0 + r.getD 3 0
    omega
  | r :: l, j + 1, h => by
    have := plen_take_succ l j (by simpa using h)
    show r.getD 3 0 + plen (l.take (j + 1)) = r.getD 3 0 + plen (l.take j) + ec l j 3
    omega
theorem lfA_at : ∀ (l : List (List Int)) (i : Int) (j : Nat) (d : Int), (∀ k, k < l.length → 1 ≤ ec l k 3) → j < l.length → 0 ≤ d → d < ec l j 3 → lfA l i (plen (l.take j) + d) = (i + j, d)
  | [], _, j, _, _, h, _, _ => by simp at h
  | r :: l, i, 0, d, _, _, h0, h1 => by
    unfold lfA
    have e : plen (List.take 0 (r :: l)) + d = d := by show 0 + d = d; omega
    have h1 : d < r.getD 3 0 := h1
    rw [e, if_pos h1]; simp
  | r :: l, i, j + 1, d, hp, h, h0, h1 => by
    unfold lfA
    have hp' : ∀ k, k < l.length → 1 ≤ ec l k 3 := fun k hk => hp (k + 1) (by simpa using hk)
    have hn : 0 ≤ plen (l.take j) := by
      have : ∀ n, n ≤ l.length → 0 ≤ plen (l.take n) := by
        intro n
        induction n with
        | zero => intro _; exact Int.le_refl _
        | succ n ih => intro hn; rw [plen_take_succ l n (by omega)]; have := ih (by omega); have := hp' n (by omega); omega
      exact this j (by simp at h; omega)
    have e : plen (List.take (j + 1) (r :: l)) + d = r.getD 3 0 + (plen (l.take j) + d) := by show r.getD 3 0 + plen (l.take j) + d = _; omega
    rw [e, if_neg (by omega), show r.getD 3 0 + (plen (l.take j) + d) - r.getD 3 0 = plen (l.take j) + d by omega, lfA_at l (i + 1) j d hp' (by simpa using h) h0 h1]
    refine Prod.ext ?_ rfl
    show i + 1 + (j : Int) = i + ((j + 1 : Nat) : Int)
    omega
theorem lfA_end : ∀ (l : List (List Int)) (i e : Int), (∀ k, k < l.length → 1 ≤ ec l k 3) → 0 ≤ e → (lfA l i (plen l + e)).1 = -1
  | [], i, e, _, _ => rfl
  | r :: l, i, e, hp, he => by
    have hp' : ∀ k, k < l.length → 1 ≤ ec l k 3 := fun k hk => hp (k + 1) (by simpa using hk)
    have hn : 0 ≤ plen l := by
      have : ∀ m : List (List Int), (∀ k, k < m.length → 1 ≤ ec m k 3) → 0 ≤ plen m := by
        intro m
        induction m with
        | nil => intro _; exact Int.le_refl _
        | cons a m ih =>
          intro h
          have := ih fun k hk => h (k + 1) (by simpa using hk)
          have h0 := h 0 (by simp)
          have h0 : 1 ≤ a.getD 3 0 := h0
          show 0 ≤ a.getD 3 0 + plen m
          omega
      exact this l hp'
    unfold lfA
    have e1 : plen (r :: l) + e = r.getD 3 0 + (plen l + e) := by show r.getD 3 0 + plen l + e = _; omega
    rw [e1, if_neg (by omega), show r.getD 3 0 + (plen l + e) - r.getD 3 0 = plen l + e by omega]
    exact lfA_end l (i + 1) e hp' he
theorem plen_nonneg {sg : List (List Int)} (h : okLen sg) {j : Nat} (hj : j ≤ sg.length) : 0 ≤ plen (sg.take j) := by
  induction j with
  | zero => exact Int.le_refl _
  | succ n ih => rw [plen_take_succ sg n (by omega)]; have := ih (by omega); have := h.2 n (by omega); omega
theorem plen_take_le {sg : List (List Int)} (h : okLen sg) {j : Nat} (hj : j ≤ sg.length) : plen (sg.take j) ≤ plen sg := by
  have : ∀ n, j + n ≤ sg.length → plen (sg.take j) ≤ plen (sg.take (j + n)) := by
    intro n
    induction n with
    | zero => intro _; exact Int.le_refl _
    | succ n ih =>
      intro hn
      have := ih (by omega)
      have a := plen_take_succ sg (j + n) (by omega)
      have := h.2 (j + n) (by omega)
      rw [show j + (n + 1) = j + n + 1 by omega, a]
      omega
  have := this (sg.length - j) (by omega)
  rw [show j + (sg.length - j) = sg.length by omega, List.take_length] at this
  exact this
theorem ptAt_seg {s : Int} {sg : List (List Int)} {c j : Nat} {d : Int} (h : okLen sg) (hj : j < sg.length) (hd : 0 ≤ d ∧ d ≤ ec sg j 3) :
    ptAt s sg c (plen (sg.take j) + d) = bgn s sg c j + rnd ((ec sg j c - bgn s sg c j) * d) (ec sg j 3) := by
  have hp : ∀ k, k < sg.length → 1 ≤ ec sg k 3 := fun k hk => (h.2 k hk).1
  have hn := plen_nonneg h (show j ≤ sg.length by omega)
  have core : ∀ (j : Nat) (d : Int), j < sg.length → 0 ≤ d → d < ec sg j 3 → ptAt s sg c (plen (sg.take j) + d) = bgn s sg c j + rnd ((ec sg j c - bgn s sg c j) * d) (ec sg j 3) := by
    intro j d hj h0 h1
    have hn := plen_nonneg h (show j ≤ sg.length by omega)
    have e : pfind sg (plen (sg.take j) + d) = ((j : Int), d) := by
      unfold pfind
      rw [if_neg (by omega), show max (plen (sg.take j) + d) 0 = plen (sg.take j) + d by omega, lfA_at sg 0 j d hp hj h0 h1]
      have : (0 : Int) + (j : Int) = j := by omega
      rw [this, if_pos (show (0 : Int) ≤ ((j : Int), d).1 by show (0 : Int) ≤ (j : Int); omega)]
    unfold ptAt
    rw [e, if_neg (by show ¬ (j : Int) < 0; omega)]
    rfl
  by_cases hlt : d < ec sg j 3
  · exact core j d hj hd.1 hlt
  · have hdL : d = ec sg j 3 := by omega
    have L0 := hp j hj
    rw [hdL, rnd_full (by omega)]
    by_cases hl : j + 1 < sg.length
    · rw [← plen_take_succ sg j hj, show plen (sg.take (j + 1)) = plen (sg.take (j + 1)) + 0 by omega, core (j + 1) 0 hl (Int.le_refl _) (by have := hp (j + 1) hl; omega), Int.mul_zero, rnd_zero (by have := hp (j + 1) hl; omega)]
      have : bgn s sg c ((j + 1 : Nat) : Int) = ec sg j c := by
        unfold bgn
        rw [if_neg (by omega), show (((j + 1 : Nat) : Int) - 1).toNat = j by omega]
      rw [this]; omega
    · have e : pfind sg (plen (sg.take j) + ec sg j 3) = ((j : Int), ec sg j 3) := by
        have e2 : plen (sg.take j) + ec sg j 3 = plen sg + 0 := by
          rw [← plen_take_succ sg j hj, List.take_of_length_le (by omega)]; omega
        have n1 := lfA_end sg 0 0 hp (Int.le_refl _)
        unfold pfind
        rw [if_neg (by omega), show max (plen (sg.take j) + ec sg j 3) 0 = plen (sg.take j) + ec sg j 3 by omega, e2, n1, if_neg (by omega)]
        refine Prod.ext ?_ ?_
        · show (sg.length : Int) - 1 = (j : Int); omega
        · show ec sg (sg.length - 1) 3 = ec sg j 3; rw [show sg.length - 1 = j by omega]
      unfold ptAt
      rw [e, if_neg (by show ¬ (j : Int) < 0; omega)]
      show bgn s sg c (j : Int) + rnd ((ec sg j c - bgn s sg c (j : Int)) * ec sg j 3) (ec sg j 3) = _
      rw [rnd_full (by omega)]
theorem ptAt_dir {s : Int} {sg : List (List Int)} {c j : Nat} {d : Int} (h : okLen sg) (hj : j < sg.length) (hd : 0 ≤ d ∧ d < ec sg j 3) (hD : -(ec sg j 3) ≤ ec sg j c - bgn s sg c j ∧ ec sg j c - bgn s sg c j ≤ ec sg j 3) :
    (0 ≤ ec sg j c - bgn s sg c j → 0 ≤ ptAt s sg c (plen (sg.take j) + (d + 1)) - ptAt s sg c (plen (sg.take j) + d) ∧ ptAt s sg c (plen (sg.take j) + (d + 1)) - ptAt s sg c (plen (sg.take j) + d) ≤ 1) ∧
    (ec sg j c - bgn s sg c j ≤ 0 → -1 ≤ ptAt s sg c (plen (sg.take j) + (d + 1)) - ptAt s sg c (plen (sg.take j) + d) ∧ ptAt s sg c (plen (sg.take j) + (d + 1)) - ptAt s sg c (plen (sg.take j) + d) ≤ 0) := by
  rw [ptAt_seg h hj (by omega), ptAt_seg h hj (by omega)]
  have := rnd_step (D := ec sg j c - bgn s sg c j) (L := ec sg j 3) (d := d) (by have := (h.2 j hj).1; omega) hD
  refine ⟨fun h => ?_, fun h => ?_⟩
  · have := this.1 h; omega
  · have := this.2 h; omega
theorem pos_split {sg : List (List Int)} (h : okLen sg) {p : Int} (hp : 0 ≤ p) : ∀ n, n ≤ sg.length → p < plen (sg.take n) → ∃ j d, j < n ∧ p = plen (sg.take j) + d ∧ 0 ≤ d ∧ d < ec sg j 3
  | 0, _, hlt => by
    have : plen (sg.take 0) = 0 := rfl
    omega
  | n + 1, hn, hlt => by
    rw [plen_take_succ sg n (by omega)] at hlt
    by_cases h1 : p < plen (sg.take n)
    · obtain ⟨j, d, a, b⟩ := pos_split h hp n (by omega) h1
      exact ⟨j, d, by omega, b⟩
    · exact ⟨n, p - plen (sg.take n), by omega, by omega, by omega, by omega⟩
theorem okSegs_D {s0 s1 s2 : Int} {sg : List (List Int)} (h : okSegs s0 s1 s2 sg) {j : Nat} (hj : j < sg.length) :
    (-(ec sg j 3) ≤ ec sg j 0 - bgn s0 sg 0 j ∧ ec sg j 0 - bgn s0 sg 0 j ≤ ec sg j 3) ∧ (-(ec sg j 3) ≤ ec sg j 1 - bgn s1 sg 1 j ∧ ec sg j 1 - bgn s1 sg 1 j ≤ ec sg j 3) ∧ (-(ec sg j 3) ≤ ec sg j 2 - bgn s2 sg 2 j ∧ ec sg j 2 - bgn s2 sg 2 j ≤ ec sg j 3) := (h j hj).2.2
theorem ptAt_lip {s : Int} {sg : List (List Int)} {c : Nat} (h : okLen sg) (hD : ∀ j, j < sg.length → -(ec sg j 3) ≤ ec sg j c - bgn s sg c j ∧ ec sg j c - bgn s sg c j ≤ ec sg j 3) {p : Int} (hp : 0 ≤ p ∧ p < plen sg) :
    -1 ≤ ptAt s sg c (p + 1) - ptAt s sg c p ∧ ptAt s sg c (p + 1) - ptAt s sg c p ≤ 1 := by
  obtain ⟨j, d, h1, h2, h3⟩ := pos_split h hp.1 sg.length (Nat.le_refl _) (by rw [List.take_length]; exact hp.2)
  have := ptAt_dir (c := c) (s := s) h h1 h3 (hD j h1)
  rw [show p + 1 = plen (sg.take j) + (d + 1) by omega, h2]
  by_cases h0 : 0 ≤ ec sg j c - bgn s sg c j
  · have := this.1 h0; omega
  · have := this.2 (by omega); omega
theorem fc1_pm {a b m d : Int} (hd : pm d) : pm (fc1 a b m d) := by
  unfold fc1 pm at *
  split
  · exact .inl rfl
  · split
    · exact .inr rfl
    · exact hd
theorem sl1_ge (a b m n : Int) : n ≤ sl1 a b m n ∧ (a ≠ b → m ≤ sl1 a b m n) := by unfold sl1; split <;> omega
theorem slk_ge (b0 b1 b2 w0 w1 w2 d0 d1 d2 : Int) : (w0 ≠ d0 → b0 ≤ slk b0 b1 b2 w0 w1 w2 d0 d1 d2) ∧ (w1 ≠ d1 → b1 ≤ slk b0 b1 b2 w0 w1 w2 d0 d1 d2) ∧ (w2 ≠ d2 → b2 ≤ slk b0 b1 b2 w0 w1 w2 d0 d1 d2) := by
  unfold slk
  have h0 := sl1_ge w0 d0 b0 0
  have h1 := sl1_ge w1 d1 b1 (sl1 w0 d0 b0 0)
  have h2 := sl1_ge w2 d2 b2 (sl1 w1 d1 b1 (sl1 w0 d0 b0 0))
  exact ⟨fun h => by have := h0.2 h; omega, fun h => by have := h1.2 h; omega, h2.2⟩
theorem bsh_any {b a n : Int} (h : a = n ∨ b = 0) : bsh b n = bsh b a := by
  rcases h with rfl | rfl
  · rfl
  · unfold bsh; split <;> split <;> rfl
theorem moveStep {s0 s1 s2 : Int} {sgs : List (List Int)} {b0 b1 b2 d0 d1 d2 f m ln U p a0 a1 a2 n0 n1 n2 : Int} {pk : List (List Int)}
    (h : legOK s0 s1 s2 sgs b0 b1 b2 d0 d1 d2 f m pk ln p a0 a1 a2) (ha : (a0 = n0 ∨ b0 = 0) ∧ (a1 = n1 ∨ b1 = 0) ∧ (a2 = n2 ∨ b2 = 0)) (hn : pm n0 ∧ pm n1 ∧ pm n2) (hm : pm m) (hU : 1 ≤ U) (hp : 0 ≤ p ∧ p ≤ 18014398509481984)
    (hs : ∀ v, 1 ≤ v ∧ v ≤ U → (0 ≤ p + m * v ∧ p + m * v ≤ plen sgs) ∧ (0 ≤ p + m * (v - 1) ∧ p + m * (v - 1) ≤ plen sgs) ∧
      0 ≤ n0 * (ptAt s0 sgs 0 (p + m * v) - ptAt s0 sgs 0 (p + m * (v - 1))) ∧ 0 ≤ n1 * (ptAt s1 sgs 1 (p + m * v) - ptAt s1 sgs 1 (p + m * (v - 1))) ∧ 0 ≤ n2 * (ptAt s2 sgs 2 (p + m * v) - ptAt s2 sgs 2 (p + m * (v - 1)))) :
    legOK s0 s1 s2 sgs b0 b1 b2 d0 d1 d2 f m (tadd pk ln [0, U, p, m, n0, n1, n2, n0, n1, n2]).1 (tadd pk ln [0, U, p, m, n0, n1, n2, n0, n1, n2]).2 (p + m * U) n0 n1 n2 := by
  have m0 : m ≠ 0 := by unfold pm at hm; omega
  have m1 : -1 ≤ m ∧ m ≤ 1 := by unfold pm at hm; omega
  have hT := tadd_okT (q0 := 0) (q4 := n0) (q5 := n1) (q6 := n2) (q7 := n0) (q8 := n1) (q9 := n2) h.1 hU hp m1
  by_cases hc : 0 < pk.length ∧ m ≠ 0 ∧ ec pk (pk.length - 1) 3 = m ∧ ec pk (pk.length - 1) 7 = n0 ∧ ec pk (pk.length - 1) 8 = n1 ∧ ec pk (pk.length - 1) 9 = n2
  · rw [tadd_more hc] at hT ⊢
    exact set_ok h hc.1 hT hU hn m0 hc.2.2.1 hc.2.2.2.1 hc.2.2.2.2.1 hc.2.2.2.2.2 fun v hv => by
      obtain ⟨q1, q2, q3, q4, q5⟩ := hs v hv
      exact ⟨.inr ⟨rfl, q1, q2, n0, hn.1, rfl, rfl, q3⟩, .inr ⟨rfl, q1, q2, n1, hn.2.1, rfl, rfl, q4⟩, .inr ⟨rfl, q1, q2, n2, hn.2.2, rfl, rfl, q5⟩⟩
  · rw [tadd_app hc] at hT ⊢
    exact app_ok h hT hU hn ⟨by rw [tsh_move m0]; exact bsh_any ha.1, by rw [tsh_move m0]; exact bsh_any ha.2.1, by rw [tsh_move m0]; exact bsh_any ha.2.2⟩ (fun v hv => by
      obtain ⟨q1, q2, q3, q4, q5⟩ := hs v hv
      exact ⟨.inr ⟨rfl, q1, q2, n0, hn.1, tsh_move m0, tsh_move m0, q3⟩, .inr ⟨rfl, q1, q2, n1, hn.2.1, tsh_move m0, tsh_move m0, q4⟩, .inr ⟨rfl, q1, q2, n2, hn.2.2, tsh_move m0, tsh_move m0, q5⟩⟩) ⟨tsh_move m0, tsh_move m0, tsh_move m0⟩
theorem takeStep {s0 s1 s2 : Int} {sgs : List (List Int)} {b0 b1 b2 d0 d1 d2 f m ln U p a0 a1 a2 n0 n1 n2 : Int} {pk : List (List Int)}
    (h : legOK s0 s1 s2 sgs b0 b1 b2 d0 d1 d2 f m pk ln p a0 a1 a2) (hb : okB3 b0 b1 b2) (hn : pm n0 ∧ pm n1 ∧ pm n2) (hU : 1 ≤ U) (hp : 0 ≤ p ∧ p ≤ 18014398509481984) (hg : (a0 ≠ n0 → b0 ≤ U) ∧ (a1 ≠ n1 → b1 ≤ U) ∧ (a2 ≠ n2 → b2 ≤ U)) :
    legOK s0 s1 s2 sgs b0 b1 b2 d0 d1 d2 f m (tadd pk ln [0, U, p, 0, a0, a1, a2, n0, n1, n2]).1 (tadd pk ln [0, U, p, 0, a0, a1, a2, n0, n1, n2]).2 p n0 n1 n2 := by
  have ha := h.2.2.2.2.1
  have hT := tadd_okT (q0 := 0) (q4 := a0) (q5 := a1) (q6 := a2) (q7 := n0) (q8 := n1) (q9 := n2) h.1 hU hp (show (-1 : Int) ≤ 0 ∧ (0 : Int) ≤ 1 by decide)
  have hc : ¬ (0 < pk.length ∧ (0 : Int) ≠ 0 ∧ ec pk (pk.length - 1) 3 = 0 ∧ ec pk (pk.length - 1) 7 = n0 ∧ ec pk (pk.length - 1) 8 = n1 ∧ ec pk (pk.length - 1) 9 = n2) := fun hh => hh.2.1 rfl
  rw [tadd_app hc] at hT ⊢
  have := app_ok h hT hU hn ⟨tsh_zero ha.1 hn.1 hb.1.1, tsh_zero ha.2.1 hn.2.1 hb.2.1.1, tsh_zero ha.2.2 hn.2.2 hb.2.2.1⟩ (fun v hv => ⟨.inl ⟨rfl, tsh_step1 hb.1.1 hv.1⟩, .inl ⟨rfl, tsh_step1 hb.2.1.1 hv.1⟩, .inl ⟨rfl, tsh_step1 hb.2.2.1 hv.1⟩⟩)
    ⟨tsh_end hn.1 hg.1, tsh_end hn.2.1 hg.2.1, tsh_end hn.2.2 hg.2.2⟩
  rw [Int.zero_mul, Int.add_zero] at this
  exact this
theorem fc1_dir1 {a b d x : Int} (h : (0 ≤ b - a → 0 ≤ x) ∧ (b - a ≤ 0 → x ≤ 0)) : 0 ≤ fc1 a b 1 d * x := by
  unfold fc1
  rw [Int.mul_one]
  by_cases h1 : b - a > 0
  · rw [if_pos h1]; have := h.1 (by omega); omega
  · rw [if_neg h1]
    by_cases h2 : b - a < 0
    · rw [if_pos h2]; have := h.2 (by omega); omega
    · rw [if_neg h2]
      have h3 := h.1 (by omega)
      have h4 := h.2 (by omega)
      have : x = 0 := by omega
      rw [this, Int.mul_zero]; exact Int.le_refl _
theorem fc1_dir2 {a b d x : Int} (h : (0 ≤ b - a → 0 ≤ x) ∧ (b - a ≤ 0 → x ≤ 0)) : 0 ≤ fc1 a b (-1) d * (-x) := by
  unfold fc1
  rw [show (b - a) * -1 = -(b - a) by omega]
  by_cases h1 : -(b - a) > 0
  · rw [if_pos h1]; have := h.2 (by omega); omega
  · rw [if_neg h1]
    by_cases h2 : -(b - a) < 0
    · rw [if_pos h2]; have := h.1 (by omega); omega
    · rw [if_neg h2]
      have h3 := h.1 (by omega)
      have h4 := h.2 (by omega)
      have : x = 0 := by omega
      rw [this, Int.neg_zero, Int.mul_zero]; exact Int.le_refl _
def ppos (m f t bg : Int) : Int := if m < 0 then min f (max bg t) else max f (min bg t)
theorem legPut_ok {s0 s1 s2 : Int} {sgs : List (List Int)} {b0 b1 b2 d0 d1 d2 f m low high e n0 n1 n2 p : Int} {x : LegS}
    (h : legOK s0 s1 s2 sgs b0 b1 b2 d0 d1 d2 f m x.pk x.ln p x.a0 x.a1 x.a2) (hb : okB3 b0 b1 b2) (hm : pm m) (hn : pm n0 ∧ pm n1 ∧ pm n2) (hp : low < high → p = legS m low high) (hr : low < high → 0 ≤ p ∧ p ≤ 18014398509481984)
    (hs : low < high → ∀ v, 1 ≤ v ∧ v ≤ high - low → (0 ≤ p + m * v ∧ p + m * v ≤ plen sgs) ∧ (0 ≤ p + m * (v - 1) ∧ p + m * (v - 1) ≤ plen sgs) ∧
      0 ≤ n0 * (ptAt s0 sgs 0 (p + m * v) - ptAt s0 sgs 0 (p + m * (v - 1))) ∧ 0 ≤ n1 * (ptAt s1 sgs 1 (p + m * v) - ptAt s1 sgs 1 (p + m * (v - 1))) ∧ 0 ≤ n2 * (ptAt s2 sgs 2 (p + m * v) - ptAt s2 sgs 2 (p + m * (v - 1)))) :
    legOK s0 s1 s2 sgs b0 b1 b2 d0 d1 d2 f m (legPut b0 b1 b2 m low high e n0 n1 n2 x).pk (legPut b0 b1 b2 m low high e n0 n1 n2 x).ln (if low < high then p + m * (high - low) else p)
      (legPut b0 b1 b2 m low high e n0 n1 n2 x).a0 (legPut b0 b1 b2 m low high e n0 n1 n2 x).a1 (legPut b0 b1 b2 m low high e n0 n1 n2 x).a2 := by
  unfold legPut
  by_cases hlh : low < high
  · rw [if_pos hlh, if_pos hlh]
    dsimp only
    rw [← hp hlh]
    have hg := slk_ge b0 b1 b2 x.a0 x.a1 x.a2 n0 n1 n2
    have hsb := slk_bd hb x.a0 x.a1 x.a2 n0 n1 n2
    unfold legTk
    by_cases hu : slk b0 b1 b2 x.a0 x.a1 x.a2 n0 n1 n2 > 0
    · rw [if_pos hu]
      have t := takeStep h hb hn (by omega) (hr hlh) hg
      exact moveStep t ⟨.inl rfl, .inl rfl, .inl rfl⟩ hn hm (by omega) (hr hlh) (hs hlh)
    · rw [if_neg hu]
      have z : ∀ {a n b : Int}, 0 ≤ b → (a ≠ n → b ≤ slk b0 b1 b2 x.a0 x.a1 x.a2 n0 n1 n2) → a = n ∨ b = 0 := fun {a n b} hb0 hh => by
        by_cases e : a = n
        · exact .inl e
        · have := hh e; right; omega
      exact moveStep h ⟨z hb.1.1 hg.1, z hb.2.1.1 hg.2.1, z hb.2.2.1 hg.2.2⟩ hn hm (by omega) (hr hlh) (hs hlh)
  · rw [if_neg hlh, if_neg hlh]
    exact h
theorem legStep_ok {s0 s1 s2 : Int} {sg : List (List Int)} {b0 b1 b2 d0 d1 d2 f t m : Int} {x : LegS} {k : Nat} (hl : okLen sg) (hsg : okSegs s0 s1 s2 sg) (hb : okB3 b0 b1 b2) (hm : m = 1 ∧ f ≤ t ∨ m = -1 ∧ t < f) (hk : k < sg.length)
    (hf : 0 ≤ f ∧ f ≤ plen sg) (ht : 0 ≤ t ∧ t ≤ plen sg) (h1 : m = 1 → x.bg = plen (sg.take k)) (h2 : m = -1 → x.bg = plen (sg.take (sg.length - k)))
    (h : legOK s0 s1 s2 sg b0 b1 b2 d0 d1 d2 f m x.pk x.ln (ppos m f t x.bg) x.a0 x.a1 x.a2) :
    legOK s0 s1 s2 sg b0 b1 b2 d0 d1 d2 f m (legStep s0 s1 s2 sg b0 b1 b2 f t m x k).pk (legStep s0 s1 s2 sg b0 b1 b2 f t m x k).ln (ppos m f t (legStep s0 s1 s2 sg b0 b1 b2 f t m x k).bg)
      (legStep s0 s1 s2 sg b0 b1 b2 f t m x k).a0 (legStep s0 s1 s2 sg b0 b1 b2 f t m x k).a1 (legStep s0 s1 s2 sg b0 b1 b2 f t m x k).a2 := by
  have hpl := plen_le hl
  have ha := h.2.2.2.2.1
  have key : ∃ j : Nat, j < sg.length ∧ legI sg.length m k = (j : Int) ∧ legLow x.bg (legE sg m x.bg (legI sg.length m k)) f t = max (plen (sg.take j)) (min f t) ∧ legHigh x.bg (legE sg m x.bg (legI sg.length m k)) f t = min (plen (sg.take j) + ec sg j 3) (max f t) ∧
      (m = 1 → x.bg = plen (sg.take j) ∧ legE sg m x.bg (legI sg.length m k) = plen (sg.take j) + ec sg j 3) ∧ (m = -1 → x.bg = plen (sg.take j) + ec sg j 3 ∧ legE sg m x.bg (legI sg.length m k) = plen (sg.take j)) := by
    rcases hm with ⟨rfl, hft⟩ | ⟨rfl, hft⟩
    · have e1 := h1 rfl
      have hi : legI sg.length 1 k = (k : Int) := by unfold legI; rw [if_neg (by decide)]
      have hL := (hl.2 k hk).1
      have hE : legE sg 1 x.bg (legI sg.length 1 k) = plen (sg.take k) + ec sg k 3 := by
        unfold legE; rw [hi, e1]
        show plen (sg.take k) + 1 * ec sg k 3 = _
        omega
      refine ⟨k, hk, hi, ?_, ?_, fun _ => ⟨e1, hE⟩, fun e => by omega⟩
      · unfold legLow; rw [hE, e1]; omega
      · unfold legHigh; rw [hE, e1]; omega
    · have e2 := h2 rfl
      have hi : legI sg.length (-1) k = ((sg.length - 1 - k : Nat) : Int) := by unfold legI; rw [if_pos (by decide)]; omega
      have hj : sg.length - 1 - k < sg.length := by omega
      have hL := (hl.2 _ hj).1
      have tk := plen_take_succ sg _ hj
      rw [show sg.length - 1 - k + 1 = sg.length - k by omega] at tk
      have hE : legE sg (-1) x.bg (legI sg.length (-1) k) = plen (sg.take (sg.length - 1 - k)) := by
        unfold legE; rw [hi, e2, tk]
        show plen (sg.take (sg.length - 1 - k)) + ec sg (sg.length - 1 - k) 3 + -1 * ec sg (sg.length - 1 - k) 3 = _
        omega
      refine ⟨sg.length - 1 - k, hj, hi, ?_, ?_, fun e => by omega, fun _ => ⟨by rw [e2, tk], hE⟩⟩
      · unfold legLow; rw [hE, e2, tk]; omega
      · unfold legHigh; rw [hE, e2, tk]; omega
  obtain ⟨j, hj, hi, hlow, hhigh, k1, k2⟩ := key
  have hB := plen_nonneg hl (show j ≤ sg.length by omega)
  have hB2 := plen_take_le hl (show j + 1 ≤ sg.length by omega)
  rw [plen_take_succ sg j hj] at hB2
  have hL := (hl.2 j hj).1
  have D := okSegs_D hsg hj
  unfold legStep legSeg
  rw [hi] at hlow hhigh k1 k2 ⊢
  have hjt : ((j : Int)).toNat = j := rfl
  rw [hjt]
  generalize hlo : legLow x.bg (legE sg m x.bg (j : Int)) f t = low at *
  generalize hhi : legHigh x.bg (legE sg m x.bg (j : Int)) f t = high at *
  generalize he : legE sg m x.bg (j : Int) = e at *
  have main := legPut_ok (low := low) (high := high) (e := e) (n0 := fc1 (bgn s0 sg 0 (j : Int)) (ec sg j 0) m x.a0) (n1 := fc1 (bgn s1 sg 1 (j : Int)) (ec sg j 1) m x.a1) (n2 := fc1 (bgn s2 sg 2 (j : Int)) (ec sg j 2) m x.a2) h hb (by unfold pm; omega)
    ⟨fc1_pm ha.1, fc1_pm ha.2.1, fc1_pm ha.2.2⟩ (fun hlh => by
      unfold ppos legS
      rcases hm with ⟨rfl, hft⟩ | ⟨rfl, hft⟩
      · have := (k1 rfl).1
        rw [if_neg (by decide), if_neg (by decide)]; omega
      · have := (k2 rfl).1
        rw [if_pos (by decide), if_pos (by decide)]; omega) (fun hlh => by
      unfold ppos
      split <;> omega) (fun hlh v hv => by
      rcases hm with ⟨rfl, hft⟩ | ⟨rfl, hft⟩
      · have e1 := (k1 rfl).1
        have ep : ppos 1 f t x.bg = low := by unfold ppos; rw [if_neg (by decide)]; omega
        rw [ep]
        have q1 : low + 1 * v = plen (sg.take j) + (low + v - 1 - plen (sg.take j) + 1) := by omega
        have q2 : low + 1 * (v - 1) = plen (sg.take j) + (low + v - 1 - plen (sg.take j)) := by omega
        have hd : 0 ≤ low + v - 1 - plen (sg.take j) ∧ low + v - 1 - plen (sg.take j) < ec sg j 3 := by omega
        rw [q1, q2]
        have r0 := ptAt_dir (c := 0) (s := s0) hl hj hd D.1
        have r1 := ptAt_dir (c := 1) (s := s1) hl hj hd D.2.1
        have r2 := ptAt_dir (c := 2) (s := s2) hl hj hd D.2.2
        exact ⟨by omega, by omega, fc1_dir1 ⟨fun g => (r0.1 g).1, fun g => (r0.2 g).2⟩, fc1_dir1 ⟨fun g => (r1.1 g).1, fun g => (r1.2 g).2⟩, fc1_dir1 ⟨fun g => (r2.1 g).1, fun g => (r2.2 g).2⟩⟩
      · have e1 := (k2 rfl).1
        have ep : ppos (-1) f t x.bg = high := by unfold ppos; rw [if_pos (by decide)]; omega
        rw [ep]
        have q1 : high + -1 * v = plen (sg.take j) + (high - v - plen (sg.take j)) := by omega
        have q2 : high + -1 * (v - 1) = plen (sg.take j) + (high - v - plen (sg.take j) + 1) := by omega
        have hd : 0 ≤ high - v - plen (sg.take j) ∧ high - v - plen (sg.take j) < ec sg j 3 := by omega
        rw [q1, q2]
        have r0 := ptAt_dir (c := 0) (s := s0) hl hj hd D.1
        have r1 := ptAt_dir (c := 1) (s := s1) hl hj hd D.2.1
        have r2 := ptAt_dir (c := 2) (s := s2) hl hj hd D.2.2
        have ng : ∀ {n a b : Int}, 0 ≤ n * (-(a - b)) → 0 ≤ n * (b - a) := fun {n a b} g => by rw [show b - a = -(a - b) by omega]; exact g
        exact ⟨by omega, by omega, ng (fc1_dir2 ⟨fun g => (r0.1 g).1, fun g => (r0.2 g).2⟩), ng (fc1_dir2 ⟨fun g => (r1.1 g).1, fun g => (r1.2 g).2⟩), ng (fc1_dir2 ⟨fun g => (r2.1 g).1, fun g => (r2.2 g).2⟩)⟩)
  have ebg : (legPut b0 b1 b2 m low high e (fc1 (bgn s0 sg 0 (j : Int)) (ec sg j 0) m x.a0) (fc1 (bgn s1 sg 1 (j : Int)) (ec sg j 1) m x.a1) (fc1 (bgn s2 sg 2 (j : Int)) (ec sg j 2) m x.a2) x).bg = e := by unfold legPut; split <;> rfl
  rw [ebg]
  have epos : ppos m f t e = if low < high then ppos m f t x.bg + m * (high - low) else ppos m f t x.bg := by
    rcases hm with ⟨rfl, hft⟩ | ⟨rfl, hft⟩
    · have := k1 rfl
      have g : ∀ b, ppos 1 f t b = max f (min b t) := fun b => by unfold ppos; rw [if_neg (by decide)]
      rw [g, g]
      split <;> omega
    · have := k2 rfl
      have g : ∀ b, ppos (-1) f t b = min f (max b t) := fun b => by unfold ppos; rw [if_pos (by decide)]
      rw [g, g]
      split <;> omega
  rw [epos]
  exact main
theorem legK_ok {s0 s1 s2 : Int} {sg : List (List Int)} {b0 b1 b2 d0 d1 d2 f t m : Int} {x : LegS} (hl : okLen sg) (hsg : okSegs s0 s1 s2 sg) (hb : okB3 b0 b1 b2) (hm : m = 1 ∧ f ≤ t ∨ m = -1 ∧ t < f)
    (hf : 0 ≤ f ∧ f ≤ plen sg) (ht : 0 ≤ t ∧ t ≤ plen sg) (hJ : legJ sg m 0 x) (h : legOK s0 s1 s2 sg b0 b1 b2 d0 d1 d2 f m x.pk x.ln (ppos m f t x.bg) x.a0 x.a1 x.a2) : ∀ k, k ≤ sg.length →
    legOK s0 s1 s2 sg b0 b1 b2 d0 d1 d2 f m (legK s0 s1 s2 sg b0 b1 b2 f t m x k).pk (legK s0 s1 s2 sg b0 b1 b2 f t m x k).ln (ppos m f t (legK s0 s1 s2 sg b0 b1 b2 f t m x k).bg)
      (legK s0 s1 s2 sg b0 b1 b2 f t m x k).a0 (legK s0 s1 s2 sg b0 b1 b2 f t m x k).a1 (legK s0 s1 s2 sg b0 b1 b2 f t m x k).a2
  | 0, _ => h
  | k + 1, hk => by
    have ih := legK_ok hl hsg hb hm hf ht hJ h k (by omega)
    have J := legJ_all (s0 := s0) (s1 := s1) (s2 := s2) (f := f) (t := t) hl hb (by omega) hJ k (by omega)
    exact legStep_ok hl hsg hb hm (by omega) hf ht J.2.2.2.1 J.2.2.2.2 ih
theorem leg_all {s0 s1 s2 : Int} {sg : List (List Int)} {b0 b1 b2 d0 d1 d2 f t : Int} (hl : okLen sg) (hsg : okSegs s0 s1 s2 sg) (hb : okB3 b0 b1 b2) (hd : pm d0 ∧ pm d1 ∧ pm d2) (hf : 0 ≤ f ∧ f ≤ plen sg) (ht : 0 ≤ t ∧ t ≤ plen sg) :
    legOK s0 s1 s2 sg b0 b1 b2 d0 d1 d2 f (legM f t) (leg s0 s1 s2 sg b0 b1 b2 d0 d1 d2 f t).pk (leg s0 s1 s2 sg b0 b1 b2 d0 d1 d2 f t).ln t
      (leg s0 s1 s2 sg b0 b1 b2 d0 d1 d2 f t).a0 (leg s0 s1 s2 sg b0 b1 b2 d0 d1 d2 f t).a1 (leg s0 s1 s2 sg b0 b1 b2 d0 d1 d2 f t).a2 := by
  have hm : legM f t = 1 ∧ f ≤ t ∨ legM f t = -1 ∧ t < f := by unfold legM; split <;> omega
  have hJ : legJ sg (legM f t) 0 ⟨[], 0, d0, d1, d2, if legM f t < 0 then plen sg else 0⟩ := by
    refine ⟨⟨Int.le_refl _, by dsimp only; omega⟩, by simp, fun j hj => by simp at hj, fun e => ?_, fun e => ?_⟩
    · rw [e]; rfl
    · rw [e]
      show plen sg = plen (sg.take (sg.length - 0))
      simp
  have h0 : legOK s0 s1 s2 sg b0 b1 b2 d0 d1 d2 f (legM f t) [] 0 f d0 d1 d2 :=
    ⟨⟨fun _ => rfl, fun h => by simp at h, fun j hj => by simp at hj, fun j hj => by simp at hj⟩, Int.le_refl _, rfl, rfl, hd, ⟨rfl, rfl, rfl⟩, ⟨rfl, rfl, rfl⟩, fun u hu => by omega⟩
  have e0 : ppos (legM f t) f t (if legM f t < 0 then plen sg else 0) = f := by
    unfold ppos
    rcases hm with ⟨e, h⟩ | ⟨e, h⟩
    · rw [e, if_neg (by decide), if_neg (by decide)]; omega
    · rw [e, if_pos (by decide), if_pos (by decide)]; omega
  have main := legK_ok (d0 := d0) (d1 := d1) (d2 := d2) (x := ⟨[], 0, d0, d1, d2, if legM f t < 0 then plen sg else 0⟩) hl hsg hb hm hf ht hJ (by dsimp only; rw [e0]; exact h0) sg.length (Nat.le_refl _)
  have J := legJ_all (s0 := s0) (s1 := s1) (s2 := s2) (f := f) (t := t) hl hb (by omega) hJ sg.length (Nat.le_refl _)
  have e1 : ppos (legM f t) f t (leg s0 s1 s2 sg b0 b1 b2 d0 d1 d2 f t).bg = t := by
    unfold leg ppos
    rcases hm with ⟨e, h⟩ | ⟨e, h⟩
    · have := J.2.2.2.1 e
      rw [List.take_length] at this
      rw [if_neg (by omega)]
      rw [this]; omega
    · have := J.2.2.2.2 e
      rw [Nat.sub_self] at this
      rw [if_pos (by omega)]
      rw [this]
      have z : plen (sg.take 0) = 0 := rfl
      omega
  unfold leg at e1 ⊢
  rw [e1] at main
  exact main
end Go.Proofs.Ytneingpnkdeooaa
namespace U
open Go
def okPl (l : List (List Int)) (ln : Int) : Prop :=
  (∀ j, j < l.length → (1 ≤ ec l j 0 ∧ ec l j 0 ≤ ln) ∧ (0 ≤ ec l j 1 ∧ ec l j 1 ≤ 2) ∧ pm (ec l j 2)) ∧ ∀ j, j + 1 < l.length → ec l j 0 < ec l (j + 1) 0 ∨ ec l j 0 = ec l (j + 1) 0 ∧ ec l j 1 < ec l (j + 1) 1
end U
namespace Go.Proofs.Ytneingpnkdeooaa
open Go Go.HL U
def SPOrd (hargs : List HV) (pars : List (List HC)) : SR :=
  match hargs, pars with
  | [.ce (.sl false [4] l), .ce (.sl false [4] ax), .ce (.int .i64 ds), .ce (.int .i64 f), .ce (.int .i64 t)], [] => .det (l.length ≤ 9223372036854775807 ∧ ax.length ≤ 9223372036854775807) okR
  | _, _ => .fail
def tabPOrd : List (FuncId × HL.Spec) := [(18, STrue0), (20, SRun), (22, SBetween)]
def anPOrd : LAnn := ⟨[10, 11, 12, 33, 34, 35], [10], [1000011, 1000012], false⟩
def LPOrd (v : LV) : LR :=
  match v with
  | ([.ce (.bool z), .ce (.ptr 1000011 0), .ce (.ptr 1000012 0), .ce (.sl false [4, 4, 4] l), .ce (.int .i64 n), .ce (.int .i64 i)], [rb, [.int .i64 l0, .int .i64 l1, .int .i64 l2]]) =>
    .all (n = (l.length : Int) ∧ i = 0 ∧ l0 = 0 ∧ l.length ≤ 9223372036854775806 ∧ ∃ x, okRun x ∧ rb = runC x ∧ okPl l x.ln) (Int × Int × Int) (fun _ => True) (fun _ => .exit 0) (fun y => ([.ce (.bool z)], [rb, [.int .i64 y.1, .int .i64 y.2.1, .int .i64 y.2.2]]))
  | _ => .fail
noncomputable def CPOrd : Ctx := ⟨Try.prog, gam tabPOrd, Try.f8.ntmps, [(6, anPOrd, LPOrd)], []⟩
theorem vbPOrd (n i l0 l1 l2 : Int) (z : Bool) (l : List (List Int)) (x : RunS) (K : HEx → LV → Prop) : (nbodyT true CPOrd anPOrd (nthLoop Try.f8 0) (([.ce (.bool z), .ce (.ptr 1000011 0), .ce (.ptr 1000012 0), .ce (.sl false [4, 4, 4] l), .ce (.int .i64 n), .ce (.int .i64 i)], [[.int .i64 x.s0, .int .i64 x.s1, .int .i64 x.s2, .sl false [4, 4, 4, 4, 4, 4, 4] x.sg, .sl false [4, 4, 4] x.mks, .int .i64 x.a.st, .int .i64 x.a.sp, .int .i64 x.a.ac, .int .i64 x.a.je, .int .i64 (-16777216), .int .i64 16777216, .int .i64 x.a.bl, .int .i64 x.a.og, .int .i64 x.a.sg, .sl false [4] x.a.pit, .int .i64 x.b.st, .int .i64 x.b.sp, .int .i64 x.b.ac, .int .i64 x.b.je, .int .i64 (-16777216), .int .i64 16777216, .int .i64 x.b.bl, .int .i64 x.b.og, .int .i64 x.b.sg, .sl false [4] x.b.pit, .int .i64 x.c.st, .int .i64 x.c.sp, .int .i64 x.c.ac, .int .i64 x.c.je, .int .i64 (-16777216), .int .i64 16777216, .int .i64 x.c.bl, .int .i64 x.c.og, .int .i64 x.c.sg, .sl false [4] x.c.pit, .sl false [4, 4, 4, 4, 4, 4, 4, 4, 4, 4] x.pk, .int .i64 x.ln, .int .i64 x.f, .int .i64 x.d0, .int .i64 x.d1, .int .i64 x.d2], [.int .i64 l0, .int .i64 l1, .int .i64 l2]])) K) =
    ((decide (i < n) = true → (0 ≤ i ∧ i < (List.length l : Int)) ∧ (decide (el l i.toNat < l0) = true → K .ret ([.ce (.bool false)], [[.int .i64 x.s0, .int .i64 x.s1, .int .i64 x.s2, .sl false [4, 4, 4, 4, 4, 4, 4] x.sg, .sl false [4, 4, 4] x.mks, .int .i64 x.a.st, .int .i64 x.a.sp, .int .i64 x.a.ac, .int .i64 x.a.je, .int .i64 (-16777216), .int .i64 16777216, .int .i64 x.a.bl, .int .i64 x.a.og, .int .i64 x.a.sg, .sl false [4] x.a.pit, .int .i64 x.b.st, .int .i64 x.b.sp, .int .i64 x.b.ac, .int .i64 x.b.je, .int .i64 (-16777216), .int .i64 16777216, .int .i64 x.b.bl, .int .i64 x.b.og, .int .i64 x.b.sg, .sl false [4] x.b.pit, .int .i64 x.c.st, .int .i64 x.c.sp, .int .i64 x.c.ac, .int .i64 x.c.je, .int .i64 (-16777216), .int .i64 16777216, .int .i64 x.c.bl, .int .i64 x.c.og, .int .i64 x.c.sg, .sl false [4] x.c.pit, .sl false [4, 4, 4, 4, 4, 4, 4, 4, 4, 4] x.pk, .int .i64 x.ln, .int .i64 x.f, .int .i64 x.d0, .int .i64 x.d1, .int .i64 x.d2], [.int .i64 l0, .int .i64 l1, .int .i64 l2]])) ∧
    (decide (el l i.toNat < l0) = false → ((el l i.toNat == l0) = true → (decide (ec l i.toNat 1 ≤ l1) = true → K .ret ([.ce (.bool false)], [[.int .i64 x.s0, .int .i64 x.s1, .int .i64 x.s2, .sl false [4, 4, 4, 4, 4, 4, 4] x.sg, .sl false [4, 4, 4] x.mks, .int .i64 x.a.st, .int .i64 x.a.sp, .int .i64 x.a.ac, .int .i64 x.a.je, .int .i64 (-16777216), .int .i64 16777216, .int .i64 x.a.bl, .int .i64 x.a.og, .int .i64 x.a.sg, .sl false [4] x.a.pit, .int .i64 x.b.st, .int .i64 x.b.sp, .int .i64 x.b.ac, .int .i64 x.b.je, .int .i64 (-16777216), .int .i64 16777216, .int .i64 x.b.bl, .int .i64 x.b.og, .int .i64 x.b.sg, .sl false [4] x.b.pit, .int .i64 x.c.st, .int .i64 x.c.sp, .int .i64 x.c.ac, .int .i64 x.c.je, .int .i64 (-16777216), .int .i64 16777216, .int .i64 x.c.bl, .int .i64 x.c.og, .int .i64 x.c.sg, .sl false [4] x.c.pit, .sl false [4, 4, 4, 4, 4, 4, 4, 4, 4, 4] x.pk, .int .i64 x.ln, .int .i64 x.f, .int .i64 x.d0, .int .i64 x.d1, .int .i64 x.d2], [.int .i64 l0, .int .i64 l1, .int .i64 l2]])) ∧
    (decide (ec l i.toNat 1 ≤ l1) = false → (decide (el l i.toNat < 1) = true → K .ret ([.ce (.bool false)], [[.int .i64 x.s0, .int .i64 x.s1, .int .i64 x.s2, .sl false [4, 4, 4, 4, 4, 4, 4] x.sg, .sl false [4, 4, 4] x.mks, .int .i64 x.a.st, .int .i64 x.a.sp, .int .i64 x.a.ac, .int .i64 x.a.je, .int .i64 (-16777216), .int .i64 16777216, .int .i64 x.a.bl, .int .i64 x.a.og, .int .i64 x.a.sg, .sl false [4] x.a.pit, .int .i64 x.b.st, .int .i64 x.b.sp, .int .i64 x.b.ac, .int .i64 x.b.je, .int .i64 (-16777216), .int .i64 16777216, .int .i64 x.b.bl, .int .i64 x.b.og, .int .i64 x.b.sg, .sl false [4] x.b.pit, .int .i64 x.c.st, .int .i64 x.c.sp, .int .i64 x.c.ac, .int .i64 x.c.je, .int .i64 (-16777216), .int .i64 16777216, .int .i64 x.c.bl, .int .i64 x.c.og, .int .i64 x.c.sg, .sl false [4] x.c.pit, .sl false [4, 4, 4, 4, 4, 4, 4, 4, 4, 4] x.pk, .int .i64 x.ln, .int .i64 x.f, .int .i64 x.d0, .int .i64 x.d1, .int .i64 x.d2], [.int .i64 l0, .int .i64 l1, .int .i64 l2]])) ∧
    (decide (el l i.toNat < 1) = false → (decide (el l i.toNat > x.ln) = true → K .ret ([.ce (.bool false)], [[.int .i64 x.s0, .int .i64 x.s1, .int .i64 x.s2, .sl false [4, 4, 4, 4, 4, 4, 4] x.sg, .sl false [4, 4, 4] x.mks, .int .i64 x.a.st, .int .i64 x.a.sp, .int .i64 x.a.ac, .int .i64 x.a.je, .int .i64 (-16777216), .int .i64 16777216, .int .i64 x.a.bl, .int .i64 x.a.og, .int .i64 x.a.sg, .sl false [4] x.a.pit, .int .i64 x.b.st, .int .i64 x.b.sp, .int .i64 x.b.ac, .int .i64 x.b.je, .int .i64 (-16777216), .int .i64 16777216, .int .i64 x.b.bl, .int .i64 x.b.og, .int .i64 x.b.sg, .sl false [4] x.b.pit, .int .i64 x.c.st, .int .i64 x.c.sp, .int .i64 x.c.ac, .int .i64 x.c.je, .int .i64 (-16777216), .int .i64 16777216, .int .i64 x.c.bl, .int .i64 x.c.og, .int .i64 x.c.sg, .sl false [4] x.c.pit, .sl false [4, 4, 4, 4, 4, 4, 4, 4, 4, 4] x.pk, .int .i64 x.ln, .int .i64 x.f, .int .i64 x.d0, .int .i64 x.d1, .int .i64 x.d2], [.int .i64 l0, .int .i64 l1, .int .i64 l2]])) ∧
    (decide (el l i.toNat > x.ln) = false → (decide (ec l i.toNat 1 < (0 : Int)) = true → K .ret ([.ce (.bool false)], [[.int .i64 x.s0, .int .i64 x.s1, .int .i64 x.s2, .sl false [4, 4, 4, 4, 4, 4, 4] x.sg, .sl false [4, 4, 4] x.mks, .int .i64 x.a.st, .int .i64 x.a.sp, .int .i64 x.a.ac, .int .i64 x.a.je, .int .i64 (-16777216), .int .i64 16777216, .int .i64 x.a.bl, .int .i64 x.a.og, .int .i64 x.a.sg, .sl false [4] x.a.pit, .int .i64 x.b.st, .int .i64 x.b.sp, .int .i64 x.b.ac, .int .i64 x.b.je, .int .i64 (-16777216), .int .i64 16777216, .int .i64 x.b.bl, .int .i64 x.b.og, .int .i64 x.b.sg, .sl false [4] x.b.pit, .int .i64 x.c.st, .int .i64 x.c.sp, .int .i64 x.c.ac, .int .i64 x.c.je, .int .i64 (-16777216), .int .i64 16777216, .int .i64 x.c.bl, .int .i64 x.c.og, .int .i64 x.c.sg, .sl false [4] x.c.pit, .sl false [4, 4, 4, 4, 4, 4, 4, 4, 4, 4] x.pk, .int .i64 x.ln, .int .i64 x.f, .int .i64 x.d0, .int .i64 x.d1, .int .i64 x.d2], [.int .i64 l0, .int .i64 l1, .int .i64 l2]])) ∧
    (decide (ec l i.toNat 1 < (0 : Int)) = false → (decide (ec l i.toNat 1 > (2 : Int)) = true → K .ret ([.ce (.bool false)], [[.int .i64 x.s0, .int .i64 x.s1, .int .i64 x.s2, .sl false [4, 4, 4, 4, 4, 4, 4] x.sg, .sl false [4, 4, 4] x.mks, .int .i64 x.a.st, .int .i64 x.a.sp, .int .i64 x.a.ac, .int .i64 x.a.je, .int .i64 (-16777216), .int .i64 16777216, .int .i64 x.a.bl, .int .i64 x.a.og, .int .i64 x.a.sg, .sl false [4] x.a.pit, .int .i64 x.b.st, .int .i64 x.b.sp, .int .i64 x.b.ac, .int .i64 x.b.je, .int .i64 (-16777216), .int .i64 16777216, .int .i64 x.b.bl, .int .i64 x.b.og, .int .i64 x.b.sg, .sl false [4] x.b.pit, .int .i64 x.c.st, .int .i64 x.c.sp, .int .i64 x.c.ac, .int .i64 x.c.je, .int .i64 (-16777216), .int .i64 16777216, .int .i64 x.c.bl, .int .i64 x.c.og, .int .i64 x.c.sg, .sl false [4] x.c.pit, .sl false [4, 4, 4, 4, 4, 4, 4, 4, 4, 4] x.pk, .int .i64 x.ln, .int .i64 x.f, .int .i64 x.d0, .int .i64 x.d1, .int .i64 x.d2], [.int .i64 l0, .int .i64 l1, .int .i64 l2]])) ∧
    (decide (ec l i.toNat 1 > (2 : Int)) = false → ((ec l i.toNat 2 != (1 : Int)) = true → ((ec l i.toNat 2 != (-1 : Int)) = true → K .ret ([.ce (.bool false)], [[.int .i64 x.s0, .int .i64 x.s1, .int .i64 x.s2, .sl false [4, 4, 4, 4, 4, 4, 4] x.sg, .sl false [4, 4, 4] x.mks, .int .i64 x.a.st, .int .i64 x.a.sp, .int .i64 x.a.ac, .int .i64 x.a.je, .int .i64 (-16777216), .int .i64 16777216, .int .i64 x.a.bl, .int .i64 x.a.og, .int .i64 x.a.sg, .sl false [4] x.a.pit, .int .i64 x.b.st, .int .i64 x.b.sp, .int .i64 x.b.ac, .int .i64 x.b.je, .int .i64 (-16777216), .int .i64 16777216, .int .i64 x.b.bl, .int .i64 x.b.og, .int .i64 x.b.sg, .sl false [4] x.b.pit, .int .i64 x.c.st, .int .i64 x.c.sp, .int .i64 x.c.ac, .int .i64 x.c.je, .int .i64 (-16777216), .int .i64 16777216, .int .i64 x.c.bl, .int .i64 x.c.og, .int .i64 x.c.sg, .sl false [4] x.c.pit, .sl false [4, 4, 4, 4, 4, 4, 4, 4, 4, 4] x.pk, .int .i64 x.ln, .int .i64 x.f, .int .i64 x.d0, .int .i64 x.d1, .int .i64 x.d2], [.int .i64 l0, .int .i64 l1, .int .i64 l2]])) ∧
    ((ec l i.toNat 2 != (-1 : Int)) = false → (-9223372036854775808 ≤ i + 1 ∧ i + 1 ≤ 9223372036854775807) ∧ ∀ (x1 : Int), x1 = i + 1 → K .normal ([.ce (.bool z), .ce (.ptr 1000011 0), .ce (.ptr 1000012 0), .ce (.sl false [4, 4, 4] l), .ce (.int .i64 n), .ce (.int .i64 x1)], [[.int .i64 x.s0, .int .i64 x.s1, .int .i64 x.s2, .sl false [4, 4, 4, 4, 4, 4, 4] x.sg, .sl false [4, 4, 4] x.mks, .int .i64 x.a.st, .int .i64 x.a.sp, .int .i64 x.a.ac, .int .i64 x.a.je, .int .i64 (-16777216), .int .i64 16777216, .int .i64 x.a.bl, .int .i64 x.a.og, .int .i64 x.a.sg, .sl false [4] x.a.pit, .int .i64 x.b.st, .int .i64 x.b.sp, .int .i64 x.b.ac, .int .i64 x.b.je, .int .i64 (-16777216), .int .i64 16777216, .int .i64 x.b.bl, .int .i64 x.b.og, .int .i64 x.b.sg, .sl false [4] x.b.pit, .int .i64 x.c.st, .int .i64 x.c.sp, .int .i64 x.c.ac, .int .i64 x.c.je, .int .i64 (-16777216), .int .i64 16777216, .int .i64 x.c.bl, .int .i64 x.c.og, .int .i64 x.c.sg, .sl false [4] x.c.pit, .sl false [4, 4, 4, 4, 4, 4, 4, 4, 4, 4] x.pk, .int .i64 x.ln, .int .i64 x.f, .int .i64 x.d0, .int .i64 x.d1, .int .i64 x.d2], [.int .i64 (el l i.toNat), .int .i64 (ec l i.toNat 1), .int .i64 (ec l i.toNat 2)]]))) ∧
    ((ec l i.toNat 2 != (1 : Int)) = false → (-9223372036854775808 ≤ i + 1 ∧ i + 1 ≤ 9223372036854775807) ∧ ∀ (x2 : Int), x2 = i + 1 → K .normal ([.ce (.bool z), .ce (.ptr 1000011 0), .ce (.ptr 1000012 0), .ce (.sl false [4, 4, 4] l), .ce (.int .i64 n), .ce (.int .i64 x2)], [[.int .i64 x.s0, .int .i64 x.s1, .int .i64 x.s2, .sl false [4, 4, 4, 4, 4, 4, 4] x.sg, .sl false [4, 4, 4] x.mks, .int .i64 x.a.st, .int .i64 x.a.sp, .int .i64 x.a.ac, .int .i64 x.a.je, .int .i64 (-16777216), .int .i64 16777216, .int .i64 x.a.bl, .int .i64 x.a.og, .int .i64 x.a.sg, .sl false [4] x.a.pit, .int .i64 x.b.st, .int .i64 x.b.sp, .int .i64 x.b.ac, .int .i64 x.b.je, .int .i64 (-16777216), .int .i64 16777216, .int .i64 x.b.bl, .int .i64 x.b.og, .int .i64 x.b.sg, .sl false [4] x.b.pit, .int .i64 x.c.st, .int .i64 x.c.sp, .int .i64 x.c.ac, .int .i64 x.c.je, .int .i64 (-16777216), .int .i64 16777216, .int .i64 x.c.bl, .int .i64 x.c.og, .int .i64 x.c.sg, .sl false [4] x.c.pit, .sl false [4, 4, 4, 4, 4, 4, 4, 4, 4, 4] x.pk, .int .i64 x.ln, .int .i64 x.f, .int .i64 x.d0, .int .i64 x.d1, .int .i64 x.d2], [.int .i64 (el l i.toNat), .int .i64 (ec l i.toNat 1), .int .i64 (ec l i.toNat 2)]])))))))) ∧
    ((el l i.toNat == l0) = false → (decide (el l i.toNat < 1) = true → K .ret ([.ce (.bool false)], [[.int .i64 x.s0, .int .i64 x.s1, .int .i64 x.s2, .sl false [4, 4, 4, 4, 4, 4, 4] x.sg, .sl false [4, 4, 4] x.mks, .int .i64 x.a.st, .int .i64 x.a.sp, .int .i64 x.a.ac, .int .i64 x.a.je, .int .i64 (-16777216), .int .i64 16777216, .int .i64 x.a.bl, .int .i64 x.a.og, .int .i64 x.a.sg, .sl false [4] x.a.pit, .int .i64 x.b.st, .int .i64 x.b.sp, .int .i64 x.b.ac, .int .i64 x.b.je, .int .i64 (-16777216), .int .i64 16777216, .int .i64 x.b.bl, .int .i64 x.b.og, .int .i64 x.b.sg, .sl false [4] x.b.pit, .int .i64 x.c.st, .int .i64 x.c.sp, .int .i64 x.c.ac, .int .i64 x.c.je, .int .i64 (-16777216), .int .i64 16777216, .int .i64 x.c.bl, .int .i64 x.c.og, .int .i64 x.c.sg, .sl false [4] x.c.pit, .sl false [4, 4, 4, 4, 4, 4, 4, 4, 4, 4] x.pk, .int .i64 x.ln, .int .i64 x.f, .int .i64 x.d0, .int .i64 x.d1, .int .i64 x.d2], [.int .i64 l0, .int .i64 l1, .int .i64 l2]])) ∧
    (decide (el l i.toNat < 1) = false → (decide (el l i.toNat > x.ln) = true → K .ret ([.ce (.bool false)], [[.int .i64 x.s0, .int .i64 x.s1, .int .i64 x.s2, .sl false [4, 4, 4, 4, 4, 4, 4] x.sg, .sl false [4, 4, 4] x.mks, .int .i64 x.a.st, .int .i64 x.a.sp, .int .i64 x.a.ac, .int .i64 x.a.je, .int .i64 (-16777216), .int .i64 16777216, .int .i64 x.a.bl, .int .i64 x.a.og, .int .i64 x.a.sg, .sl false [4] x.a.pit, .int .i64 x.b.st, .int .i64 x.b.sp, .int .i64 x.b.ac, .int .i64 x.b.je, .int .i64 (-16777216), .int .i64 16777216, .int .i64 x.b.bl, .int .i64 x.b.og, .int .i64 x.b.sg, .sl false [4] x.b.pit, .int .i64 x.c.st, .int .i64 x.c.sp, .int .i64 x.c.ac, .int .i64 x.c.je, .int .i64 (-16777216), .int .i64 16777216, .int .i64 x.c.bl, .int .i64 x.c.og, .int .i64 x.c.sg, .sl false [4] x.c.pit, .sl false [4, 4, 4, 4, 4, 4, 4, 4, 4, 4] x.pk, .int .i64 x.ln, .int .i64 x.f, .int .i64 x.d0, .int .i64 x.d1, .int .i64 x.d2], [.int .i64 l0, .int .i64 l1, .int .i64 l2]])) ∧
    (decide (el l i.toNat > x.ln) = false → (decide (ec l i.toNat 1 < (0 : Int)) = true → K .ret ([.ce (.bool false)], [[.int .i64 x.s0, .int .i64 x.s1, .int .i64 x.s2, .sl false [4, 4, 4, 4, 4, 4, 4] x.sg, .sl false [4, 4, 4] x.mks, .int .i64 x.a.st, .int .i64 x.a.sp, .int .i64 x.a.ac, .int .i64 x.a.je, .int .i64 (-16777216), .int .i64 16777216, .int .i64 x.a.bl, .int .i64 x.a.og, .int .i64 x.a.sg, .sl false [4] x.a.pit, .int .i64 x.b.st, .int .i64 x.b.sp, .int .i64 x.b.ac, .int .i64 x.b.je, .int .i64 (-16777216), .int .i64 16777216, .int .i64 x.b.bl, .int .i64 x.b.og, .int .i64 x.b.sg, .sl false [4] x.b.pit, .int .i64 x.c.st, .int .i64 x.c.sp, .int .i64 x.c.ac, .int .i64 x.c.je, .int .i64 (-16777216), .int .i64 16777216, .int .i64 x.c.bl, .int .i64 x.c.og, .int .i64 x.c.sg, .sl false [4] x.c.pit, .sl false [4, 4, 4, 4, 4, 4, 4, 4, 4, 4] x.pk, .int .i64 x.ln, .int .i64 x.f, .int .i64 x.d0, .int .i64 x.d1, .int .i64 x.d2], [.int .i64 l0, .int .i64 l1, .int .i64 l2]])) ∧
    (decide (ec l i.toNat 1 < (0 : Int)) = false → (decide (ec l i.toNat 1 > (2 : Int)) = true → K .ret ([.ce (.bool false)], [[.int .i64 x.s0, .int .i64 x.s1, .int .i64 x.s2, .sl false [4, 4, 4, 4, 4, 4, 4] x.sg, .sl false [4, 4, 4] x.mks, .int .i64 x.a.st, .int .i64 x.a.sp, .int .i64 x.a.ac, .int .i64 x.a.je, .int .i64 (-16777216), .int .i64 16777216, .int .i64 x.a.bl, .int .i64 x.a.og, .int .i64 x.a.sg, .sl false [4] x.a.pit, .int .i64 x.b.st, .int .i64 x.b.sp, .int .i64 x.b.ac, .int .i64 x.b.je, .int .i64 (-16777216), .int .i64 16777216, .int .i64 x.b.bl, .int .i64 x.b.og, .int .i64 x.b.sg, .sl false [4] x.b.pit, .int .i64 x.c.st, .int .i64 x.c.sp, .int .i64 x.c.ac, .int .i64 x.c.je, .int .i64 (-16777216), .int .i64 16777216, .int .i64 x.c.bl, .int .i64 x.c.og, .int .i64 x.c.sg, .sl false [4] x.c.pit, .sl false [4, 4, 4, 4, 4, 4, 4, 4, 4, 4] x.pk, .int .i64 x.ln, .int .i64 x.f, .int .i64 x.d0, .int .i64 x.d1, .int .i64 x.d2], [.int .i64 l0, .int .i64 l1, .int .i64 l2]])) ∧
    (decide (ec l i.toNat 1 > (2 : Int)) = false → ((ec l i.toNat 2 != (1 : Int)) = true → ((ec l i.toNat 2 != (-1 : Int)) = true → K .ret ([.ce (.bool false)], [[.int .i64 x.s0, .int .i64 x.s1, .int .i64 x.s2, .sl false [4, 4, 4, 4, 4, 4, 4] x.sg, .sl false [4, 4, 4] x.mks, .int .i64 x.a.st, .int .i64 x.a.sp, .int .i64 x.a.ac, .int .i64 x.a.je, .int .i64 (-16777216), .int .i64 16777216, .int .i64 x.a.bl, .int .i64 x.a.og, .int .i64 x.a.sg, .sl false [4] x.a.pit, .int .i64 x.b.st, .int .i64 x.b.sp, .int .i64 x.b.ac, .int .i64 x.b.je, .int .i64 (-16777216), .int .i64 16777216, .int .i64 x.b.bl, .int .i64 x.b.og, .int .i64 x.b.sg, .sl false [4] x.b.pit, .int .i64 x.c.st, .int .i64 x.c.sp, .int .i64 x.c.ac, .int .i64 x.c.je, .int .i64 (-16777216), .int .i64 16777216, .int .i64 x.c.bl, .int .i64 x.c.og, .int .i64 x.c.sg, .sl false [4] x.c.pit, .sl false [4, 4, 4, 4, 4, 4, 4, 4, 4, 4] x.pk, .int .i64 x.ln, .int .i64 x.f, .int .i64 x.d0, .int .i64 x.d1, .int .i64 x.d2], [.int .i64 l0, .int .i64 l1, .int .i64 l2]])) ∧
    ((ec l i.toNat 2 != (-1 : Int)) = false → (-9223372036854775808 ≤ i + 1 ∧ i + 1 ≤ 9223372036854775807) ∧ ∀ (x3 : Int), x3 = i + 1 → K .normal ([.ce (.bool z), .ce (.ptr 1000011 0), .ce (.ptr 1000012 0), .ce (.sl false [4, 4, 4] l), .ce (.int .i64 n), .ce (.int .i64 x3)], [[.int .i64 x.s0, .int .i64 x.s1, .int .i64 x.s2, .sl false [4, 4, 4, 4, 4, 4, 4] x.sg, .sl false [4, 4, 4] x.mks, .int .i64 x.a.st, .int .i64 x.a.sp, .int .i64 x.a.ac, .int .i64 x.a.je, .int .i64 (-16777216), .int .i64 16777216, .int .i64 x.a.bl, .int .i64 x.a.og, .int .i64 x.a.sg, .sl false [4] x.a.pit, .int .i64 x.b.st, .int .i64 x.b.sp, .int .i64 x.b.ac, .int .i64 x.b.je, .int .i64 (-16777216), .int .i64 16777216, .int .i64 x.b.bl, .int .i64 x.b.og, .int .i64 x.b.sg, .sl false [4] x.b.pit, .int .i64 x.c.st, .int .i64 x.c.sp, .int .i64 x.c.ac, .int .i64 x.c.je, .int .i64 (-16777216), .int .i64 16777216, .int .i64 x.c.bl, .int .i64 x.c.og, .int .i64 x.c.sg, .sl false [4] x.c.pit, .sl false [4, 4, 4, 4, 4, 4, 4, 4, 4, 4] x.pk, .int .i64 x.ln, .int .i64 x.f, .int .i64 x.d0, .int .i64 x.d1, .int .i64 x.d2], [.int .i64 (el l i.toNat), .int .i64 (ec l i.toNat 1), .int .i64 (ec l i.toNat 2)]]))) ∧
    ((ec l i.toNat 2 != (1 : Int)) = false → (-9223372036854775808 ≤ i + 1 ∧ i + 1 ≤ 9223372036854775807) ∧ ∀ (x4 : Int), x4 = i + 1 → K .normal ([.ce (.bool z), .ce (.ptr 1000011 0), .ce (.ptr 1000012 0), .ce (.sl false [4, 4, 4] l), .ce (.int .i64 n), .ce (.int .i64 x4)], [[.int .i64 x.s0, .int .i64 x.s1, .int .i64 x.s2, .sl false [4, 4, 4, 4, 4, 4, 4] x.sg, .sl false [4, 4, 4] x.mks, .int .i64 x.a.st, .int .i64 x.a.sp, .int .i64 x.a.ac, .int .i64 x.a.je, .int .i64 (-16777216), .int .i64 16777216, .int .i64 x.a.bl, .int .i64 x.a.og, .int .i64 x.a.sg, .sl false [4] x.a.pit, .int .i64 x.b.st, .int .i64 x.b.sp, .int .i64 x.b.ac, .int .i64 x.b.je, .int .i64 (-16777216), .int .i64 16777216, .int .i64 x.b.bl, .int .i64 x.b.og, .int .i64 x.b.sg, .sl false [4] x.b.pit, .int .i64 x.c.st, .int .i64 x.c.sp, .int .i64 x.c.ac, .int .i64 x.c.je, .int .i64 (-16777216), .int .i64 16777216, .int .i64 x.c.bl, .int .i64 x.c.og, .int .i64 x.c.sg, .sl false [4] x.c.pit, .sl false [4, 4, 4, 4, 4, 4, 4, 4, 4, 4] x.pk, .int .i64 x.ln, .int .i64 x.f, .int .i64 x.d0, .int .i64 x.d1, .int .i64 x.d2], [.int .i64 (el l i.toNat), .int .i64 (ec l i.toNat 1), .int .i64 (ec l i.toNat 2)]]))))))))) ∧
    (decide (i < n) = false → K (.exit 0) ([.ce (.bool z)], [[.int .i64 x.s0, .int .i64 x.s1, .int .i64 x.s2, .sl false [4, 4, 4, 4, 4, 4, 4] x.sg, .sl false [4, 4, 4] x.mks, .int .i64 x.a.st, .int .i64 x.a.sp, .int .i64 x.a.ac, .int .i64 x.a.je, .int .i64 (-16777216), .int .i64 16777216, .int .i64 x.a.bl, .int .i64 x.a.og, .int .i64 x.a.sg, .sl false [4] x.a.pit, .int .i64 x.b.st, .int .i64 x.b.sp, .int .i64 x.b.ac, .int .i64 x.b.je, .int .i64 (-16777216), .int .i64 16777216, .int .i64 x.b.bl, .int .i64 x.b.og, .int .i64 x.b.sg, .sl false [4] x.b.pit, .int .i64 x.c.st, .int .i64 x.c.sp, .int .i64 x.c.ac, .int .i64 x.c.je, .int .i64 (-16777216), .int .i64 16777216, .int .i64 x.c.bl, .int .i64 x.c.og, .int .i64 x.c.sg, .sl false [4] x.c.pit, .sl false [4, 4, 4, 4, 4, 4, 4, 4, 4, 4] x.pk, .int .i64 x.ln, .int .i64 x.f, .int .i64 x.d0, .int .i64 x.d1, .int .i64 x.d2], [.int .i64 l0, .int .i64 l1, .int .i64 l2]]))) := by kernel_rfl
theorem vcPOrd (l ax : List (List Int)) (ds f t : Int) (Q : Res → Prop) : (nfun true CPOrd Try.f8 (bodyOf Try.f8) [.ce (.sl false [4] l), .ce (.sl false [4] ax), .ce (.int .i64 ds), .ce (.int .i64 f), .ce (.int .i64 t)] [] Q) =
    (True ∧ (∃ (x : Bool), x = true) ∧ ∀ (x : Bool), x = true → ((!x) = true → Q ⟨.ce (.bool false), false, [], []⟩) ∧ ((!x) = false → (List.length l ≤ (9223372036854775807 : Nat) ∧ List.length ax ≤ (9223372036854775807 : Nat)) ∧ (∃ (x : RunS), okRun x) ∧ ∀ (x : RunS), okRun x → ((okLen x.sg ∧ okPts x.s0 x.s1 x.s2 x.sg ∧ okTrk x.pk x.ln ∧ okMA x.a.st x.a.og x.a.sg x.a.pit x.a.bl ∧ okMA x.b.st x.b.og x.b.sg x.b.pit x.b.bl ∧ okMA x.c.st x.c.og x.c.sg x.c.pit x.c.bl ∧ 0 ≤ x.f ∧ x.f ≤ 18014398509481984) ∧ x.ln ≤ 1099511627776) ∧ (∃ (x_1 : List (List Int)), x_1 = plN (mtr x.a.st x.a.og x.a.sg x.a.pit x.a.bl x.s0 x.sg (0 : Nat) x.pk x.f x.d0) (mtr x.b.st x.b.og x.b.sg x.b.pit x.b.bl x.s1 x.sg (1 : Nat) x.pk x.f x.d1) (mtr x.c.st x.c.og x.c.sg x.c.pit x.c.bl x.s2 x.sg (2 : Nat) x.pk x.f x.d2) (clamp x.ln (0 : Int)) (Int.toNat (clamp x.ln x.ln - clamp x.ln (0 : Int)))) ∧ ∀ (x_1 : List (List Int)), x_1 = plN (mtr x.a.st x.a.og x.a.sg x.a.pit x.a.bl x.s0 x.sg (0 : Nat) x.pk x.f x.d0) (mtr x.b.st x.b.og x.b.sg x.b.pit x.b.bl x.s1 x.sg (1 : Nat) x.pk x.f x.d1) (mtr x.c.st x.c.og x.c.sg x.c.pit x.c.bl x.s2 x.sg (2 : Nat) x.pk x.f x.d2) (clamp x.ln (0 : Int)) (Int.toNat (clamp x.ln x.ln - clamp x.ln (0 : Int))) →
    ((List.length x_1 : Int) = (List.length x_1 : Int) ∧ (0 : Int) = (0 : Int) ∧ (0 : Int) = (0 : Int) ∧ List.length x_1 ≤ (9223372036854775806 : Nat) ∧ ∃ (x_2 : RunS), okRun x_2 ∧ [.int .i64 x.s0, .int .i64 x.s1, .int .i64 x.s2, .sl false [4, 4, 4, 4, 4, 4, 4] x.sg, .sl false [4, 4, 4] x.mks, .int .i64 x.a.st, .int .i64 x.a.sp, .int .i64 x.a.ac, .int .i64 x.a.je, .int .i64 (-16777216), .int .i64 16777216, .int .i64 x.a.bl, .int .i64 x.a.og, .int .i64 x.a.sg, .sl false [4] x.a.pit, .int .i64 x.b.st, .int .i64 x.b.sp, .int .i64 x.b.ac, .int .i64 x.b.je, .int .i64 (-16777216), .int .i64 16777216, .int .i64 x.b.bl, .int .i64 x.b.og, .int .i64 x.b.sg, .sl false [4] x.b.pit, .int .i64 x.c.st, .int .i64 x.c.sp, .int .i64 x.c.ac, .int .i64 x.c.je, .int .i64 (-16777216), .int .i64 16777216, .int .i64 x.c.bl, .int .i64 x.c.og, .int .i64 x.c.sg, .sl false [4] x.c.pit, .sl false [4, 4, 4, 4, 4, 4, 4, 4, 4, 4] x.pk, .int .i64 x.ln, .int .i64 x.f, .int .i64 x.d0, .int .i64 x.d1, .int .i64 x.d2] = runC x_2 ∧
    okPl x_1 x_2.ln) ∧ ∀ (x : Int × Int × Int), True → Q ⟨.ce (.bool true), false, [], []⟩)) := by kernel_rfl
end Go.Proofs.Ytneingpnkdeooaa
namespace U
open Go
def kyP (l : List (List Int)) (lo hi : Int) : Prop :=
  (∀ j, j < l.length → (lo < 3 * ec l j 0 + ec l j 1 ∧ 3 * ec l j 0 + ec l j 1 ≤ hi) ∧ (0 ≤ ec l j 1 ∧ ec l j 1 ≤ 2) ∧ pm (ec l j 2)) ∧ ∀ j, j + 1 < l.length → 3 * ec l j 0 + ec l j 1 < 3 * ec l (j + 1) 0 + ec l (j + 1) 1
end U
namespace Go.Proofs.Ytneingpnkdeooaa
open Go Go.HL U
attribute [local irreducible] hfun bodyT fragT
theorem kyP_nil (lo hi : Int) : kyP [] lo hi := ⟨fun j hj => by simp at hj, fun j hj => by simp at hj⟩
theorem kyP_app {A B : List (List Int)} {lo mid hi : Int} (hA : kyP A lo mid) (hB : kyP B mid hi) (h1 : lo ≤ mid) (h2 : mid ≤ hi) : kyP (A ++ B) lo hi := by
  refine ⟨fun j hj => ?_, fun j hj => ?_⟩
  · rw [List.length_append] at hj
    rw [ec_app, ec_app, ec_app]
    by_cases h : j < A.length
    · rw [if_pos h, if_pos h, if_pos h]
      have := hA.1 j h
      exact ⟨by omega, this.2⟩
    · rw [if_neg h, if_neg h, if_neg h]
      have := hB.1 (j - A.length) (by omega)
      exact ⟨by omega, this.2⟩
  · rw [List.length_append] at hj
    rw [ec_app, ec_app, ec_app, ec_app]
    by_cases h : j + 1 < A.length
    · rw [if_pos h, if_pos h, if_pos (by omega : j < A.length), if_pos (by omega : j < A.length)]
      exact hA.2 j h
    · rw [if_neg h, if_neg h]
      by_cases h3 : j < A.length
      · rw [if_pos h3, if_pos h3]
        have a := hA.1 j h3
        have b := hB.1 (j + 1 - A.length) (by omega)
        omega
      · rw [if_neg h3, if_neg h3]
        have := hB.2 (j - A.length) (by omega)
        rw [show j - A.length + 1 = j + 1 - A.length by omega] at this
        exact this
theorem pl1_ky {u k n w : Int} (hk : 0 ≤ k ∧ k ≤ 2) (h : -1 ≤ n - w ∧ n - w ≤ 1) : kyP (pl1 u k n w) (3 * u + k - 1) (3 * u + k) := by
  unfold pl1
  by_cases e : n ≠ w
  · rw [if_pos e]
    refine ⟨fun j hj => ?_, fun j hj => by simp at hj⟩
    have : j = 0 := by simp at hj; exact hj
    subst this
    show (3 * u + k - 1 < 3 * u + k ∧ 3 * u + k ≤ 3 * u + k) ∧ (0 ≤ k ∧ k ≤ 2) ∧ (n - w = 1 ∨ n - w = -1)
    omega
  · rw [if_neg e]; exact kyP_nil _ _
theorem plN_ky {M0 M1 M2 : Int → Int} {ln : Int} (h0 : ∀ u, 1 ≤ u ∧ u ≤ ln → -1 ≤ M0 u - M0 (u - 1) ∧ M0 u - M0 (u - 1) ≤ 1) (h1 : ∀ u, 1 ≤ u ∧ u ≤ ln → -1 ≤ M1 u - M1 (u - 1) ∧ M1 u - M1 (u - 1) ≤ 1) (h2 : ∀ u, 1 ≤ u ∧ u ≤ ln → -1 ≤ M2 u - M2 (u - 1) ∧ M2 u - M2 (u - 1) ≤ 1) :
    ∀ n : Nat, (n : Int) ≤ ln → kyP (plN M0 M1 M2 0 n) 2 (3 * (n : Int) + 2)
  | 0, _ => kyP_nil _ _
  | n + 1, hn => by
    have ih := plN_ky h0 h1 h2 n (by omega)
    unfold plN plAt
    have hu : 1 ≤ 0 + (n : Int) + 1 ∧ 0 + (n : Int) + 1 ≤ ln := by omega
    have a := pl1_ky (u := 0 + (n : Int) + 1) (k := 0) (by decide) (h0 _ hu)
    have b := pl1_ky (u := 0 + (n : Int) + 1) (k := 1) (by decide) (h1 _ hu)
    have c := pl1_ky (u := 0 + (n : Int) + 1) (k := 2) (by decide) (h2 _ hu)
    rw [show 3 * (0 + (n : Int) + 1) + 1 - 1 = 3 * (0 + (n : Int) + 1) + 0 by omega] at b
    rw [show 3 * (0 + (n : Int) + 1) + 2 - 1 = 3 * (0 + (n : Int) + 1) + 1 by omega] at c
    rw [show 3 * (0 + (n : Int) + 1) + 0 - 1 = 3 * (n : Int) + 2 by omega] at a
    have d := kyP_app (kyP_app a b (by omega) (by omega)) c (by omega) (by omega)
    rw [show 3 * ((n + 1 : Nat) : Int) + 2 = 3 * (0 + (n : Int) + 1) + 2 by omega]
    exact kyP_app ih d (by omega) (by omega)
theorem kyP_ok {l : List (List Int)} {n : Int} (h : kyP l 2 (3 * n + 2)) : okPl l n := by
  refine ⟨fun j hj => ?_, fun j hj => ?_⟩
  · obtain ⟨a, b, c⟩ := h.1 j hj
    exact ⟨by omega, b, c⟩
  · have a := (h.1 j (by omega)).2.1
    have b := (h.1 (j + 1) hj).2.1
    have := h.2 j hj
    omega
theorem mot_step {st og sg p : Int} {pit : List (List Int)} (h : okSl sg pit) (hst : 4 ≤ st) : 0 ≤ mot st og sg pit (p + 1) - mot st og sg pit p ∧ mot st og sg pit (p + 1) - mot st og sg pit p ≤ 1 := by
  have hc := corr_step (og := og) h p
  unfold mot
  have := ediv_near (x := 2 * (p + corr og sg pit p) + st) (e := 2 * (1 + (corr og sg pit (p + 1) - corr og sg pit p))) (B := 2 * st) (by omega) (by omega)
  rw [show 2 * (p + 1 + corr og sg pit (p + 1)) + st = 2 * (p + corr og sg pit p) + st + 2 * (1 + (corr og sg pit (p + 1) - corr og sg pit p)) by omega]
  omega
theorem okAx_sl {a : AxV} (h : okAx a) : okSl a.sg a.pit := ⟨h.2.2.2.2.2.2.2.2.1, h.2.2.2.2.2.2.2.2.2.2⟩
theorem unit_motor {a : AxV} {s : Int} {sgs : List (List Int)} {c : Nat} {d f m u : Int} {pk : List (List Int)} (ha : okAx a) (hm : pm m) (hl : okLen sgs) (hD : ∀ j, j < sgs.length → -(ec sgs j 3) ≤ ec sgs j c - bgn s sgs c j ∧ ec sgs j c - bgn s sgs c j ≤ ec sgs j 3)
    (h : unitOK s sgs c a.bl d f m pk u) : -1 ≤ mtr a.st a.og a.sg a.pit a.bl s sgs c pk f d u - mtr a.st a.og a.sg a.pit a.bl s sgs c pk f d (u - 1) ∧ mtr a.st a.og a.sg a.pit a.bl s sgs c pk f d u - mtr a.st a.og a.sg a.pit a.bl s sgs c pk f d (u - 1) ≤ 1 := by
  rw [mtr_shf, mtr_shf]
  have st4 := ha.1.1
  rcases h with ⟨e, h1, h2⟩ | ⟨e, r1, r2, n, hn, e1, e2, _⟩
  · rw [e]; omega
  · rw [e1, e2]
    have near : ∀ q : Int, 0 ≤ q ∧ q < plen sgs → -1 ≤ mot a.st a.og a.sg a.pit (ptAt s sgs c (q + 1)) - mot a.st a.og a.sg a.pit (ptAt s sgs c q) ∧ mot a.st a.og a.sg a.pit (ptAt s sgs c (q + 1)) - mot a.st a.og a.sg a.pit (ptAt s sgs c q) ≤ 1 := fun q hq => by
      have l := ptAt_lip (s := s) (c := c) hl hD hq
      have hd : ptAt s sgs c (q + 1) = ptAt s sgs c q ∨ ptAt s sgs c (q + 1) = ptAt s sgs c q + 1 ∨ ptAt s sgs c q = ptAt s sgs c (q + 1) + 1 := by omega
      rcases hd with e | e | e
      · rw [e]; omega
      · rw [e]; have := mot_step (og := a.og) (p := ptAt s sgs c q) (okAx_sl ha) st4; omega
      · rw [e]; have := mot_step (og := a.og) (p := ptAt s sgs c (q + 1)) (okAx_sl ha) st4; omega
    rcases hm with rfl | rfl
    · rw [e] at r1 ⊢
      have := near (tplace pk f (u - 1)) (by omega)
      omega
    · have e' : tplace pk f (u - 1) = tplace pk f u + 1 := by omega
      rw [e'] at r2 ⊢
      have := near (tplace pk f u) (by omega)
      omega
theorem okRun_leg {x : RunS} (h : okRun x) : ∃ a0 a1 a2, legOK x.s0 x.s1 x.s2 x.sg x.a.bl x.b.bl x.c.bl x.d0 x.d1 x.d2 x.f (legM x.f x.t) x.pk x.ln x.t a0 a1 a2 := by
  have hb := okRun_b3 h
  obtain ⟨hp, ha, hb', hc, hd, hf, ht, h1, h2⟩ := h
  rw [h1, h2]
  exact ⟨_, _, _, leg_all (okPath_len hp) hp.2.1 hb hd hf ht⟩
theorem M_steps {x : RunS} (h : okRun x) : (∀ u, 1 ≤ u ∧ u ≤ x.ln → -1 ≤ x.M0 u - x.M0 (u - 1) ∧ x.M0 u - x.M0 (u - 1) ≤ 1) ∧ (∀ u, 1 ≤ u ∧ u ≤ x.ln → -1 ≤ x.M1 u - x.M1 (u - 1) ∧ x.M1 u - x.M1 (u - 1) ≤ 1) ∧ (∀ u, 1 ≤ u ∧ u ≤ x.ln → -1 ≤ x.M2 u - x.M2 (u - 1) ∧ x.M2 u - x.M2 (u - 1) ≤ 1) := by
  obtain ⟨a0, a1, a2, L⟩ := okRun_leg h
  have hL := L.2.2.2.2.2.2.2
  have hl := okPath_len h.1
  have hm : pm (legM x.f x.t) := legM_pm _ _
  have D := fun j hj => okSegs_D h.1.2.1 (j := j) hj
  exact ⟨fun u hu => unit_motor h.2.1 hm hl (fun j hj => (D j hj).1) (hL u hu).1, fun u hu => unit_motor h.2.2.1 hm hl (fun j hj => (D j hj).2.1) (hL u hu).2.1, fun u hu => unit_motor h.2.2.2.1 hm hl (fun j hj => (D j hj).2.2) (hL u hu).2.2⟩
set_option maxHeartbeats 1000000 in
theorem loopPOrd : ∀ v Q, (LPOrd v).wp Q → hloop CPOrd anPOrd (nthLoop Try.f8 0) v Q := by
  intro v Q h
  unfold LPOrd at h
  split at h
  case h_2 => exact h.elim
  rename_i z l n i rb l0 l1 l2
  obtain ⟨⟨h1, h2, h3, h4, x, hx, h5, hok⟩, hq⟩ := h
  subst h1 h2 h3 h5
  refine hloop_rec (σ := Nat × Int × Int × Int) (fun y => ([.ce (.bool z), .ce (.ptr 1000011 0), .ce (.ptr 1000012 0), .ce (.sl false [4, 4, 4] l), .ce (.int .i64 (l.length : Int)), .ce (.int .i64 (y.1 : Int))], [runC x, [.int .i64 y.2.1, .int .i64 y.2.2.1, .int .i64 y.2.2.2]]))
    (fun y => l.length - y.1) (fun y => y.1 ≤ l.length ∧ (y.1 = 0 → y.2.1 = 0) ∧ (0 < y.1 → y.2.1 = ec l (y.1 - 1) 0 ∧ y.2.2.1 = ec l (y.1 - 1) 1)) ?_ (0, 0, l1, l2) ⟨Nat.zero_le _, fun _ => rfl, fun h => absurd (show 0 < 0 from h) (by decide)⟩
  rintro ⟨k, l0, l1, l2⟩ ⟨hk, k0, k1⟩ K hn hxx _
  dsimp only at hk k0 k1 hn ⊢
  refine byVB (vbPOrd l.length k l0 l1 l2 z l x K) ⟨fun g => ?_, fun g => hxx _ _ (hq (l0, l1, l2) trivial)⟩
  have g := of_decide_eq_true g
  have hkl : k < l.length := by omega
  have ht : Int.toNat (k : Int) = k := rfl
  rw [ht]
  obtain ⟨a, b, c⟩ := hok.1 k hkl
  have ord : l0 < ec l k 0 ∨ l0 = ec l k 0 ∧ l1 < ec l k 1 := by
    by_cases h0 : k = 0
    · have := k0 h0; omega
    · have q := k1 (by omega)
      have := hok.2 (k - 1) (by omega)
      rw [show k - 1 + 1 = k by omega] at this
      omega
  have fin : ∀ y : Int, y = (k : Int) + 1 → K .normal ([.ce (.bool z), .ce (.ptr 1000011 0), .ce (.ptr 1000012 0), .ce (.sl false [4, 4, 4] l), .ce (.int .i64 (l.length : Int)), .ce (.int .i64 y)], [runC x, [.int .i64 (el l k), .int .i64 (ec l k 1), .int .i64 (ec l k 2)]]) := fun y e => by
    rw [e, show (k : Int) + 1 = ((k + 1 : Nat) : Int) by omega]
    exact hn (k + 1, el l k, ec l k 1, ec l k 2) ⟨hkl, fun h => by omega, fun _ => ⟨rfl, rfl⟩⟩ (by dsimp only; omega)
  have ab : ec l k 0 = el l k := rfl
  rw [ab] at a ord
  have nt : ∀ {p : Prop} [Decidable p] {R : Prop}, ¬ p → decide p = true → R := fun h g => absurd (of_decide_eq_true g) h
  have c' : ec l k 2 = 1 ∨ ec l k 2 = -1 := c
  have tail : (decide (el l k < 1) = true → K HEx.ret ([.ce (.bool false)], [runC x, [.int .i64 l0, .int .i64 l1, .int .i64 l2]])) ∧ (decide (el l k < 1) = false → (decide (el l k > x.ln) = true → K HEx.ret ([.ce (.bool false)], [runC x, [.int .i64 l0, .int .i64 l1, .int .i64 l2]])) ∧ (decide (el l k > x.ln) = false →
      (decide (ec l k 1 < 0) = true → K HEx.ret ([.ce (.bool false)], [runC x, [.int .i64 l0, .int .i64 l1, .int .i64 l2]])) ∧ (decide (ec l k 1 < 0) = false → (decide (ec l k 1 > 2) = true → K HEx.ret ([.ce (.bool false)], [runC x, [.int .i64 l0, .int .i64 l1, .int .i64 l2]])) ∧ (decide (ec l k 1 > 2) = false →
      ((ec l k 2 != 1) = true → ((ec l k 2 != -1) = true → K HEx.ret ([.ce (.bool false)], [runC x, [.int .i64 l0, .int .i64 l1, .int .i64 l2]])) ∧ ((ec l k 2 != -1) = false → (-9223372036854775808 ≤ (k : Int) + 1 ∧ (k : Int) + 1 ≤ 9223372036854775807) ∧
        ∀ (x1 : Int), x1 = (k : Int) + 1 → K .normal ([.ce (.bool z), .ce (.ptr 1000011 0), .ce (.ptr 1000012 0), .ce (.sl false [4, 4, 4] l), .ce (.int .i64 (l.length : Int)), .ce (.int .i64 x1)], [runC x, [.int .i64 (el l k), .int .i64 (ec l k 1), .int .i64 (ec l k 2)]]))) ∧
      ((ec l k 2 != 1) = false → (-9223372036854775808 ≤ (k : Int) + 1 ∧ (k : Int) + 1 ≤ 9223372036854775807) ∧
        ∀ (x1 : Int), x1 = (k : Int) + 1 → K .normal ([.ce (.bool z), .ce (.ptr 1000011 0), .ce (.ptr 1000012 0), .ce (.sl false [4, 4, 4] l), .ce (.int .i64 (l.length : Int)), .ce (.int .i64 x1)], [runC x, [.int .i64 (el l k), .int .i64 (ec l k 1), .int .i64 (ec l k 2)]])))))) :=
    ⟨nt (by omega), fun _ => ⟨nt (by omega), fun _ => ⟨nt (by omega), fun _ => ⟨nt (by omega), fun _ => ⟨fun g1 => ⟨fun g2 => (by
      have g1 : ec l k 2 ≠ 1 := by simpa using g1
      have g2 : ec l k 2 ≠ -1 := by simpa using g2
      omega), fun _ => ⟨by omega, fin⟩⟩, fun _ => ⟨by omega, fin⟩⟩⟩⟩⟩⟩
  refine ⟨by omega, nt (by omega), fun _ => ⟨fun g1 => ⟨nt ?_, fun _ => tail⟩, fun _ => tail⟩⟩
  have : el l k = l0 := by simpa using g1
  omega
set_option maxHeartbeats 400000 in
set_option maxRecDepth 100000 in
theorem sPOrd : Sound Try.prog 8 SPOrd := by
  refine sound_of (C := CPOrd) tabPOrd Try.func8 (by kernel_rfl) (by decide +kernel) (by kernel_rfl) rfl ⟨sAw30, sRun30, sBtw, trivial⟩ (loops1 (by kernel_rfl) (loopOK_of (an := anPOrd) (S := LPOrd) (by kernel_rfl) loopPOrd)) ?_
  intro hargs pars R h
  unfold SPOrd at h
  split at h
  case h_2 => exfalso; exact h
  rename_i l ax ds f t
  obtain ⟨⟨hl, hax⟩, hq⟩ := h
  refine byVC (vcPOrd l ax ds f t R) ⟨trivial, ⟨true, rfl⟩, fun w ew => ⟨fun g => (by rw [ew] at g; cases g), fun _ => ⟨⟨hl, hax⟩, okRun_ex, fun x hx => ?_⟩⟩⟩
  have hln := okRun_ln hx
  have h0 := okRun_ln0 hx
  have hp := okRun_pre hx
  refine ⟨⟨hp, hln⟩, ⟨_, rfl⟩, fun y ey => ⟨?_, fun _ _ => hq⟩⟩
  rw [clamp_in (by omega : 0 ≤ (0 : Int) ∧ (0 : Int) ≤ x.ln), clamp_in (by omega : 0 ≤ x.ln ∧ x.ln ≤ x.ln), Int.sub_zero] at ey
  have ey : y = plN x.M0 x.M1 x.M2 0 x.ln.toNat := ey
  have lm := plN_len x.M0 x.M1 x.M2 0 x.ln.toNat
  obtain ⟨m0, m1, m2⟩ := M_steps hx
  have ky := kyP_ok (plN_ky m0 m1 m2 x.ln.toNat (by omega))
  rw [← ey] at ky lm
  rw [show ((x.ln.toNat : Nat) : Int) = x.ln by omega] at ky
  exact ⟨rfl, rfl, rfl, by omega, x, hx, rfl, ky⟩
end Go.Proofs.Ytneingpnkdeooaa
