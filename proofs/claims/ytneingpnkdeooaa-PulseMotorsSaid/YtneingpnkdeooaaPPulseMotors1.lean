/-
  Part 1 of the texts that the law needs, merged: a value-level calculus of the code (HL), the contracts of the functions, and their proofs.
  Conditions: none.
-/
import Derived.Test.YtneingpnkdeooaaG6
set_option maxRecDepth 100000
set_option linter.unusedVariables false
set_option linter.unusedSimpArgs false
namespace Go.HL
open Go Go.ChangeShapes Go.WideShapes Go.ChangeAt Go.RowKit
def fieldsK (P : Program) (rec : TypeId → Option (List Nat)) : List Field → Nat → Option (List Nat)
  | [], _ => some []
  | fl :: r, off => match rec fl.type with
    | some a => bif Nat.beq fl.offset off && Nat.beq (P.cellsOf fl.type) a.length then (match fieldsK P rec r (off + a.length) with
      | some b => some (a ++ b)
      | none => none) else none
    | none => none
def repK : Nat → List Nat → List Nat
  | 0, _ => []
  | n + 1, a => a ++ repK n a
def kindsOf (P : Program) : Nat → TypeId → Option (List Nat)
  | 0, _ => none
  | f + 1, t => match P.underlying t with
    | some .bool => some [0]
    | some (.int k) => some [kcode k]
    | some (.struct fs) => match fieldsK P (kindsOf P f) fs.toList 0 with
      | some ks => bif Nat.beq ks.length (P.cellsOf t) then some ks else none
      | none => none
    | some (.array n e) => match kindsOf P f e with
      | some a => bif Nat.beq (P.cellsOf e) a.length && Nat.beq (P.cellsOf t) (n * a.length) then some (repK n a) else none
      | none => none
    | _ => none
def InK : Nat → Int → Prop
  | 0, n => n = 0 ∨ n = 1
  | k + 1, n => kLo (kk k) ≤ n ∧ n ≤ kHi (kk k)
def zipK : List Nat → List Int → List Value
  | k :: ks, n :: r => kval k n :: zipK ks r
  | _, _ => []
def AllIn : List Nat → List Int → Prop
  | k :: ks, n :: r => InK k n ∧ AllIn ks r
  | [], [] => True
  | _, _ => False
def Flat (ks : List Nat) (cs : List Value) : Prop := ∃ row, AllIn ks row ∧ cs = zipK ks row
theorem AllIn.len : ∀ {ks : List Nat} {row : List Int}, AllIn ks row → row.length = ks.length
  | [], [], _ => rfl
  | _ :: _, _ :: _, h => by simp [AllIn.len h.2]
  | [], _ :: _, h => h.elim
  | _ :: _, [], h => h.elim
theorem AllIn.append : ∀ {a b : List Nat} {r s : List Int}, AllIn a r → AllIn b s → AllIn (a ++ b) (r ++ s) ∧ zipK (a ++ b) (r ++ s) = zipK a r ++ zipK b s
  | [], b, [], s, _, h => ⟨h, rfl⟩
  | _ :: a, b, _ :: r, s, h, h' => by
    obtain ⟨h1, h2⟩ := AllIn.append (a := a) (r := r) h.2 h'
    exact ⟨⟨h.1, h1⟩, by simp [zipK, h2]⟩
  | [], _, _ :: _, _, h, _ => h.elim
  | _ :: _, _, [], _, h, _ => h.elim
theorem Flat.append {a b : List Nat} {cs ds : List Value} (h : Flat a cs) (h' : Flat b ds) : Flat (a ++ b) (cs ++ ds) := by
  obtain ⟨r, h1, rfl⟩ := h
  obtain ⟨s, h2, rfl⟩ := h'
  exact ⟨r ++ s, (AllIn.append h1 h2).1, (AllIn.append h1 h2).2.symm⟩
theorem zipK_get : ∀ {ks : List Nat} {row : List Int} {j : Nat}, AllIn ks row → j < ks.length → (zipK ks row)[j]? = some (kval (ks.getD j 0) (row.getD j 0)) ∧ InK (ks.getD j 0) (row.getD j 0)
  | _ :: _, _ :: _, 0, h, _ => ⟨rfl, h.1⟩
  | _ :: ks, _ :: r, j + 1, h, hj => by
    have := zipK_get (j := j) h.2 (by simpa using hj)
    simpa [zipK] using this
  | [], _, _, _, hj => by simp at hj
  | _ :: _, [], _, h, _ => h.elim
section
variable {H : Type} {enc : TypeId × Value → H} {P : Program} {w : World} {base : Nat} {spare : Nat → Bool} {held : Bool}
theorem wf_in {k : IntKind} {n : Int} (h : (Lit.int k n).wf = true) : InK (kcode k) n ∧ kval (kcode k) n = .int k n := by
  simp only [Lit.wf, Bool.and_eq_true, decide_eq_true_eq] at h
  cases k <;> simp [IntKind.min, IntKind.max, IntKind.signed, IntKind.bits] at h <;> exact ⟨by simp [InK, kcode, kk, kLo, kHi]; omega, rfl⟩
theorem fields_flat {rec : TypeId → Option (List Nat)} {cs : List Value} {n : Nat}
    (hrec : ∀ t ks, rec t = some ks → ∀ cs x, DataW.trod enc P w base spare held n t cs = some x → Flat ks cs) :
    ∀ (fs : List Field) (off : Nat) (ks : List Nat), fieldsK P rec fs off = some ks → off + ks.length = cs.length →
      (∀ f, f ∈ fs → ∃ x, DataW.trod enc P w base spare held n f.type ((cs.drop f.offset).take (P.cellsOf f.type)) = some x) → Flat ks (cs.drop off)
  | [], off, ks, h, hl, _ => by
    cases h
    have : cs.drop off = [] := List.drop_eq_nil_of_le (by simp at hl; omega)
    rw [this]
    exact ⟨[], trivial, rfl⟩
  | fl :: r, off, ks, h, hl, hf => by
    unfold fieldsK at h
    split at h
    case h_2 => cases h
    rename_i a ha
    cases hb : (Nat.beq fl.offset off && Nat.beq (P.cellsOf fl.type) a.length) with
    | false => rw [hb] at h; cases h
    | true =>
      rw [hb] at h
      simp only [cond_true] at h
      rw [Bool.and_eq_true] at hb
      have e1 := Nat.eq_of_beq_eq_true hb.1
      have e2 := Nat.eq_of_beq_eq_true hb.2
      split at h
      case h_2 => cases h
      rename_i b hbb
      cases h
      obtain ⟨x, hx⟩ := hf fl (List.mem_cons_self ..)
      rw [e1, e2] at hx
      have f1 := hrec _ _ ha _ _ hx
      have f2 := fields_flat hrec r (off + a.length) b hbb (by simp at hl; omega) (fun f hm => hf f (List.mem_cons_of_mem _ hm))
      have : cs.drop off = (cs.drop off).take a.length ++ cs.drop (off + a.length) := by
        rw [← List.drop_drop, List.take_append_drop]
      rw [this]
      exact f1.append f2
theorem elems_flat {a : List Nat} {cs : List Value} : ∀ (n i : Nat), i * a.length + n * a.length = cs.length → (∀ j, i ≤ j → j < i + n → Flat a ((cs.drop (j * a.length)).take a.length)) → Flat (repK n a) (cs.drop (i * a.length))
  | 0, i, hl, _ => by
    have : cs.drop (i * a.length) = [] := List.drop_eq_nil_of_le (by omega)
    rw [this]
    exact ⟨[], trivial, rfl⟩
  | n + 1, i, hl, h => by
    have e : (n + 1) * a.length = n * a.length + a.length := Nat.succ_mul _ _
    have e2 : (i + 1) * a.length = i * a.length + a.length := Nat.succ_mul _ _
    have f1 := h i (Nat.le_refl _) (by omega)
    have f2 := elems_flat n (i + 1) (by omega) (fun j h1 h2 => h j (by omega) (by omega))
    have : cs.drop (i * a.length) = (cs.drop (i * a.length)).take a.length ++ cs.drop ((i + 1) * a.length) := by
      rw [e2, ← List.drop_drop, List.take_append_drop]
    rw [this]
    exact f1.append f2
theorem trod_flat : ∀ (f : Nat) (t : TypeId) (ks : List Nat), kindsOf P f t = some ks → ∀ fuel cs x, DataW.trod enc P w base spare held fuel t cs = some x → Flat ks cs
  | 0, _, _, h, _, _, _, _ => by cases h
  | f + 1, t, ks, h, fuel, cs, x, hx => by
    unfold kindsOf at h
    split at h
    · rename_i ht
      cases h
      obtain ⟨b, rfl, _⟩ := DataW.trod_bool ht hx
      refine ⟨[if b then 1 else 0], ⟨by cases b <;> simp [InK], trivial⟩, ?_⟩
      cases b <;> rfl
    · rename_i k ht
      cases h
      obtain ⟨n, rfl, _, hw⟩ := DataW.trod_int ht hx
      exact ⟨[n], ⟨(wf_in hw).1, trivial⟩, by simp [zipK, (wf_in hw).2]⟩
    · rename_i fs ht
      obtain ⟨xs, n, _, _, hl, hxl, hf⟩ := DataW.trod_struct ht hx
      split at h
      case h_2 => cases h
      rename_i ks' hk
      cases hb : Nat.beq ks'.length (P.cellsOf t) with
      | false => rw [hb] at h; cases h
      | true =>
        rw [hb] at h
        cases h
        have e := Nat.eq_of_beq_eq_true hb
        have := fields_flat (cs := cs) (n := n) (fun t ks h cs x hx => trod_flat f t ks h n cs x hx) fs.toList 0 ks hk (by omega) (fun fl hm => by
          obtain ⟨i, hi, he⟩ := List.mem_iff_getElem.1 hm
          have hi' : i < fs.size := by simpa using hi
          have h1 := hf i fl (by rw [Array.getElem?_eq_getElem hi']; simp at he; rw [he])
          rw [List.getElem?_eq_getElem (by omega)] at h1
          exact ⟨_, h1⟩)
        simpa using this
    · rename_i n e ht
      obtain ⟨xs, m, _, _, hl, hxl, hf⟩ := DataW.trod_array ht hx
      split at h
      case h_2 => cases h
      rename_i a ha
      cases hb : (Nat.beq (P.cellsOf e) a.length && Nat.beq (P.cellsOf t) (n * a.length)) with
      | false => rw [hb] at h; cases h
      | true =>
        rw [hb] at h
        cases h
        rw [Bool.and_eq_true] at hb
        have e1 := Nat.eq_of_beq_eq_true hb.1
        have e2 := Nat.eq_of_beq_eq_true hb.2
        have := elems_flat (a := a) (cs := cs) n 0 (by omega) (fun j _ hj => by
          have h1 := hf j (by omega)
          rw [List.getElem?_eq_getElem (by omega), e1] at h1
          exact trod_flat f e a ha m _ _ h1)
        simpa using this
    · cases h
theorem cells_flat {ks : List Nat} {a : Addr} {cs : List Value} (h1 : ∀ i, i < ks.length → w.cell? (a.add i) = cs[i]?) (hf : Flat ks cs) :
    ∃ row : List Int, AllIn ks row ∧ ∀ j, j < ks.length → w.cell? (a.add j) = some (kval (ks.getD j 0) (row.getD j 0)) := by
  obtain ⟨row, hr, rfl⟩ := hf
  exact ⟨row, hr, fun j hj => by rw [h1 j hj]; exact (zipK_get hr hj).1⟩
theorem in_slice_sz {r : Reach} {b0 : Nat} {t e : TypeId} {ks : List Nat} {v : Value} {d : DataW H} {ps : List MemPlace} (ht : P.underlying t = some (.slice e)) (hk : kindsOf P 12 e = some ks) (hC : P.cellsOf e = ks.length) (hpos : 0 < ks.length)
    (hval : Value.okWide P w r b0 t v) (hd : DataW.Trod enc P w base (fun _ => true) held t v d ps) :
    ∃ rows : List (List Int), rows.length ≤ maxLen ∧ (∀ i, i < rows.length → AllIn ks (rows.getD i [])) ∧ VRel (G0 w) w none (.ce (.sl false ks rows)) v ∧
      ∀ R B : Nat, (∀ es sp, d = .slice es sp → (es.length + sp.length) * B ≤ R) → rows.length * B ≤ R := by
  obtain ⟨fuel, hd⟩ := hd
  obtain ⟨ad, len, cap, rfl⟩ := okWide_slice ht hval
  have hc : (Value.slice ad len cap).cells.toList = [.slice ad len cap] := by simp [Value.cells]
  rw [hc] at hd
  rcases DataW.trod_slice ht hd with ⟨he, _⟩ | ⟨a, len', cap', elems, rest, n, _, he, hxd, hb, hl, hm, hlen, hel, hsp, _⟩
  · simp at he
    obtain ⟨rfl, rfl, rfl⟩ := he
    exact ⟨[], Nat.zero_le _, fun i hi => by simp at hi, ⟨none, 0, rfl, Nat.le_refl _, Nat.zero_le _, .inl ⟨.inl rfl, rfl, rfl⟩⟩, fun R B _ => by simp⟩
  · simp at he
    obtain ⟨rfl, rfl, rfl⟩ := he
    obtain ⟨hrl, hrest⟩ := hsp rfl
    have hall : ∀ i, i < cap → ∃ row : List Int, AllIn ks row ∧ ∀ j, j < ks.length → w.cell? ((a.add (i * ks.length)).add j) = some (kval (ks.getD j 0) (row.getD j 0)) := by
      intro i hi
      have key : ∀ y, (w.cells? base (a.add (i * P.cellsOf e)) (P.cellsOf e)).bind (DataW.trod enc P w base (fun _ => true) held n e) = some y →
          ∃ row : List Int, AllIn ks row ∧ ∀ j, j < ks.length → w.cell? ((a.add (i * ks.length)).add j) = some (kval (ks.getD j 0) (row.getD j 0)) := by
        intro y hy
        rw [Option.bind_eq_some_iff] at hy
        obtain ⟨cs, h1, h2⟩ := hy
        obtain ⟨_, _, h3⟩ := World.cells?_some h1
        rw [hC] at h3
        exact cells_flat h3 (trod_flat 12 e ks hk n cs y h2)
      by_cases hi2 : i < len
      · have := hel i hi2
        rw [List.getElem?_eq_getElem (by omega)] at this
        exact key _ this
      · have := hrest (i - len) (by omega)
        rw [List.getElem?_eq_getElem (by omega), show len + (i - len) = i by omega] at this
        exact key _ this
    have hch : ∀ i, ∃ row : List Int, i < cap → AllIn ks row ∧ ∀ j, j < ks.length → w.cell? ((a.add (i * ks.length)).add j) = some (kval (ks.getD j 0) (row.getD j 0)) := by
      intro i
      by_cases hi : i < cap
      · obtain ⟨row, h⟩ := hall i hi; exact ⟨row, fun _ => h⟩
      · exact ⟨[], fun h => absurd h hi⟩
    obtain ⟨f, hrows⟩ : ∃ f : Nat → List Int, ∀ i, i < cap → AllIn ks (f i) ∧ ∀ j, j < ks.length → w.cell? ((a.add (i * ks.length)).add j) = some (kval (ks.getD j 0) ((f i).getD j 0)) :=
      ⟨fun i => Classical.choose (hch i), fun i => Classical.choose_spec (hch i)⟩
    clear hch
    refine ⟨(List.range len).map f, by simp; omega, fun i hi => ?_, ?_, fun R B hs => ?_⟩
    · simp at hi
      have : ((List.range len).map f).getD i [] = f i := by simp [List.getD_eq_getElem?_getD, hi]
      rw [this]
      exact (hrows i (by omega)).1
    · have hll : ((List.range len).map f).length = len := by simp
      refine ⟨some a, cap, by rw [hll], by rw [hll]; exact hl, hm, ?_⟩
      rw [hll]
      by_cases hc0 : cap = 0
      · exact .inl ⟨.inl rfl, by omega, hc0⟩
      · have h0 := (hrows 0 (by omega)).2 0 hpos
        have hx0 : (a.add (0 * ks.length)).add 0 = a := by simp [Addr.add]
        rw [hx0] at h0
        obtain ⟨hbk, hs⟩ := cell_lt h0
        have hx : a = at_ a.block a.off := by
          cases a with
          | mk b o s => dsimp only at hs; subst hs; rfl
        refine .inr ⟨a.block, a.off, by rw [← hx], fun i j hi hj => ⟨hbk, ?_⟩, fun _ e => nomatch e⟩
        have h1 := (hrows i (by omega)).2 j hj
        rw [hx, at_add, at_add, show a.off + i * ks.length + j = a.off + (i * ks.length + j) by omega] at h1
        have hg : ((List.range len).map f).getD i [] = f i := by simp [List.getD_eq_getElem?_getD, hi]
        rw [hg]
        exact h1
    · have := hs (elems.map (·.1)) (rest.map (·.1)) (congrArg Prod.fst hxd)
      simp only [List.length_map, List.length_range] at this ⊢
      rw [hlen, Nat.add_mul] at this
      omega
theorem in_slice {r : Reach} {b0 : Nat} {t e : TypeId} {ks : List Nat} {v : Value} {d : DataW H} {ps : List MemPlace} (ht : P.underlying t = some (.slice e)) (hk : kindsOf P 12 e = some ks) (hC : P.cellsOf e = ks.length) (hpos : 0 < ks.length)
    (hval : Value.okWide P w r b0 t v) (hd : DataW.Trod enc P w base (fun _ => true) held t v d ps) :
    ∃ rows : List (List Int), rows.length ≤ maxLen ∧ (∀ i, i < rows.length → AllIn ks (rows.getD i [])) ∧ VRel (G0 w) w none (.ce (.sl false ks rows)) v := by
  obtain ⟨rows, h1, h2, h3, _⟩ := in_slice_sz ht hk hC hpos hval hd
  exact ⟨rows, h1, h2, h3⟩
end
end Go.HL
namespace U
open Go
def RunS.M0 (x : RunS) : Int → Int := mtr x.a.st x.a.og x.a.sg x.a.pit x.a.bl x.s0 x.sg 0 x.pk x.f x.d0
def RunS.M1 (x : RunS) : Int → Int := mtr x.b.st x.b.og x.b.sg x.b.pit x.b.bl x.s1 x.sg 1 x.pk x.f x.d1
def RunS.M2 (x : RunS) : Int → Int := mtr x.c.st x.c.og x.c.sg x.c.pit x.c.bl x.s2 x.sg 2 x.pk x.f x.d2
end U
namespace Go.Proofs.Ytneingpnkdeooaa
open Go Go.HL U
def SPMot (hargs : List HV) (pars : List (List HC)) : SR :=
  match hargs, pars with
  | [.ce (.sl false [4] l), .ce (.sl false [4] ax), .ce (.int .i64 ds), .ce (.int .i64 f), .ce (.int .i64 t), .ce (.int .i64 a), .ce (.int .i64 b)], [] => .det (l.length ≤ 9223372036854775807 ∧ ax.length ≤ 9223372036854775807) okR
  | _, _ => .fail
def tabPMot : List (FuncId × HL.Spec) := [(18, STrue0), (20, SRun), (11, SMod), (21, SMotors), (22, SBetween), (19, SSum)]
noncomputable def CPMot : Ctx := ⟨Try.prog, gam tabPMot, Try.f6.ntmps, [], []⟩
theorem vcPMot (l ax : List (List Int)) (ds f t a b : Int) (Q : Res → Prop) : (nfun true CPMot Try.f6 (bodyOf Try.f6) [.ce (.sl false [4] l), .ce (.sl false [4] ax), .ce (.int .i64 ds), .ce (.int .i64 f), .ce (.int .i64 t), .ce (.int .i64 a), .ce (.int .i64 b)] [] Q) =
    (True ∧ (∃ (x : Bool), x = true) ∧ ∀ (x : Bool), x = true → ((!x) = true → Q { val := HV.ce (HC.bool false), own := false, pars := [], news := [] }) ∧ ((!x) = false → (List.length l ≤ (9223372036854775807 : Nat) ∧ List.length ax ≤ (9223372036854775807 : Nat)) ∧ (∃ (x : RunS), okRun x) ∧ ∀ (x : RunS), okRun x → ((-9223372036854775808 : Int) ≤ x.ln + (1 : Int) ∧ x.ln + (1 : Int) ≤ (9223372036854775807 : Int)) ∧ ∀ (x3 : Int), x3 = x.ln + (1 : Int) → ((0 : Int) < x3 ∧ x3 ≤ (4611686018427387904 : Int)) ∧ ∀ (x4 : Int), x4 = a % x3 → ((-9223372036854775808 : Int) ≤ x.ln - x4 ∧ x.ln - x4 ≤ (9223372036854775807 : Int)) ∧ ∀ (x5 : Int), x5 = x.ln - x4 → ((-9223372036854775808 : Int) ≤ x5 + (1 : Int) ∧ x5 + (1 : Int) ≤ (9223372036854775807 : Int)) ∧ ∀ (x6 : Int), x6 = x5 + (1 : Int) → ((0 : Int) < x6 ∧ x6 ≤ (4611686018427387904 : Int)) ∧ ∀ (x7 : Int), x7 = b % x6 → ((-9223372036854775808 : Int) ≤ x4 + x7 ∧
    x4 + x7 ≤ (9223372036854775807 : Int)) ∧ ∀ (x8 : Int), x8 = x4 + x7 → (okLen x.sg ∧ okPts x.s0 x.s1 x.s2 x.sg ∧ okTrk x.pk x.ln ∧ okMA x.a.st x.a.og x.a.sg x.a.pit x.a.bl ∧ okMA x.b.st x.b.og x.b.sg x.b.pit x.b.bl ∧ okMA x.c.st x.c.og x.c.sg x.c.pit x.c.bl ∧ (0 : Int) ≤ x.f ∧ x.f ≤ (18014398509481984 : Int)) ∧ ∀ (x9 : Int), x9 = tmot x.a.st x.a.og x.a.sg x.a.pit x.a.bl (ptAt x.s0 x.sg (0 : Nat) (tplace x.pk x.f (clamp x.ln x4))) x.pk x.d0 (clamp x.ln x4) (0 : Nat) → ∀ (x10 : Int), x10 = tmot x.b.st x.b.og x.b.sg x.b.pit x.b.bl (ptAt x.s1 x.sg (1 : Nat) (tplace x.pk x.f (clamp x.ln x4))) x.pk x.d1 (clamp x.ln x4) (1 : Nat) → ∀ (x11 : Int), x11 = tmot x.c.st x.c.og x.c.sg x.c.pit x.c.bl (ptAt x.s2 x.sg (2 : Nat) (tplace x.pk x.f (clamp x.ln x4))) x.pk x.d2 (clamp x.ln x4) (2 : Nat) → (okLen x.sg ∧ okPts x.s0 x.s1 x.s2 x.sg ∧ okTrk x.pk x.ln ∧ okMA x.a.st x.a.og x.a.sg x.a.pit x.a.bl ∧ okMA x.b.st x.b.og x.b.sg x.b.pit x.b.bl ∧
    okMA x.c.st x.c.og x.c.sg x.c.pit x.c.bl ∧ (0 : Int) ≤ x.f ∧ x.f ≤ (18014398509481984 : Int)) ∧ ∀ (x12 : Int), x12 = tmot x.a.st x.a.og x.a.sg x.a.pit x.a.bl (ptAt x.s0 x.sg (0 : Nat) (tplace x.pk x.f (clamp x.ln x8))) x.pk x.d0 (clamp x.ln x8) (0 : Nat) → ∀ (x13 : Int), x13 = tmot x.b.st x.b.og x.b.sg x.b.pit x.b.bl (ptAt x.s1 x.sg (1 : Nat) (tplace x.pk x.f (clamp x.ln x8))) x.pk x.d1 (clamp x.ln x8) (1 : Nat) → ∀ (x14 : Int), x14 = tmot x.c.st x.c.og x.c.sg x.c.pit x.c.bl (ptAt x.s2 x.sg (2 : Nat) (tplace x.pk x.f (clamp x.ln x8))) x.pk x.d2 (clamp x.ln x8) (2 : Nat) → ((okLen x.sg ∧ okPts x.s0 x.s1 x.s2 x.sg ∧ okTrk x.pk x.ln ∧ okMA x.a.st x.a.og x.a.sg x.a.pit x.a.bl ∧ okMA x.b.st x.b.og x.b.sg x.b.pit x.b.bl ∧ okMA x.c.st x.c.og x.c.sg x.c.pit x.c.bl ∧ (0 : Int) ≤ x.f ∧ x.f ≤ (18014398509481984 : Int)) ∧ x.ln ≤ (1099511627776 : Int)) ∧ (∃ (x_1 : List (List Int)), x_1 = plN (mtr x.a.st x.a.og x.a.sg x.a.pit x.a.bl x.s0 x.sg (0 : Nat) x.pk x.f x.d0) (mtr x.b.st x.b.og x.b.sg x.b.pit x.b.bl x.s1 x.sg (1 : Nat) x.pk x.f x.d1) (mtr x.c.st x.c.og x.c.sg x.c.pit x.c.bl x.s2 x.sg (2 : Nat) x.pk x.f x.d2) (clamp x.ln x4) (Int.toNat (clamp x.ln x8 - clamp x.ln x4))) ∧
    ∀ (x_1 : List (List Int)), x_1 = plN (mtr x.a.st x.a.og x.a.sg x.a.pit x.a.bl x.s0 x.sg (0 : Nat) x.pk x.f x.d0) (mtr x.b.st x.b.og x.b.sg x.b.pit x.b.bl x.s1 x.sg (1 : Nat) x.pk x.f x.d1) (mtr x.c.st x.c.og x.c.sg x.c.pit x.c.bl x.s2 x.sg (2 : Nat) x.pk x.f x.d2) (clamp x.ln x4) (Int.toNat (clamp x.ln x8 - clamp x.ln x4)) → okSum x_1 ∧ ∀ (x16 : Int), x16 = sumAx (0 : Int) x_1 → ∀ (x17 : Int), x17 = sumAx (1 : Int) x_1 → ∀ (x18 : Int), x18 = sumAx (2 : Int) x_1 → ((-9223372036854775808 : Int) ≤ x9 + x16 ∧ x9 + x16 ≤ (9223372036854775807 : Int)) ∧ ∀ (x19 : Int), x19 = x9 + x16 → ((x19 == x12) = true → ((-9223372036854775808 : Int) ≤ x10 + x17 ∧ x10 + x17 ≤ (9223372036854775807 : Int)) ∧ ∀ (x20 : Int), x20 = x10 + x17 → ((x20 == x13) = true → ((-9223372036854775808 : Int) ≤ x11 + x18 ∧ x11 + x18 ≤ (9223372036854775807 : Int)) ∧ ∀ (x21 : Int), x21 = x11 + x18 → Q { val := HV.ce (HC.bool (x21 == x14)), own := false, pars := [], news := [] }) ∧
    ((x20 == x13) = false → Q { val := HV.ce (HC.bool false), own := false, pars := [], news := [] })) ∧ ((x19 == x12) = false → Q { val := HV.ce (HC.bool false), own := false, pars := [], news := [] }))) := by kernel_rfl
end Go.Proofs.Ytneingpnkdeooaa
namespace Go.Proofs.Ytneingpnkdeooaa
open Go Go.HL U
theorem emod_bd {a n : Int} (h : 0 < n) : 0 ≤ a % n ∧ a % n < n := ⟨Int.emod_nonneg _ (by omega), Int.emod_lt_of_pos _ h⟩
theorem pl1_take (u k n w c : Int) (j : Nat) : (k ≠ c → sumAx c ((pl1 u k n w).take j) = 0) ∧ (k = c → sumAx c ((pl1 u k n w).take j) = 0 ∨ sumAx c ((pl1 u k n w).take j) = n - w) := by
  unfold pl1
  split
  · cases j with
    | zero => simp [sumAx]
    | succ j =>
      refine ⟨fun h => ?_, fun h => .inr ?_⟩
      · simp [sumAx, h]
      · simp [sumAx, h]
  · simp [sumAx]
theorem pl1_sum (u k n w : Int) : sumAx k (pl1 u k n w) = n - w := by
  unfold pl1
  split
  · simp [sumAx]
  · simp [sumAx]; omega
theorem pl1_sum0 (u k n w c : Int) (h : k ≠ c) : sumAx c (pl1 u k n w) = 0 := by
  unfold pl1
  split
  · simp [sumAx, h]
  · simp [sumAx]
theorem plAt_sum (M0 M1 M2 : Int → Int) (u : Int) : sumAx 0 (plAt M0 M1 M2 u) = M0 u - M0 (u - 1) ∧ sumAx 1 (plAt M0 M1 M2 u) = M1 u - M1 (u - 1) ∧ sumAx 2 (plAt M0 M1 M2 u) = M2 u - M2 (u - 1) := by
  unfold plAt
  refine ⟨?_, ?_, ?_⟩
  · rw [sumAx_append, sumAx_append, pl1_sum, pl1_sum0 _ _ _ _ _ (by decide), pl1_sum0 _ _ _ _ _ (by decide)]; omega
  · rw [sumAx_append, sumAx_append, pl1_sum, pl1_sum0 _ _ _ _ _ (by decide), pl1_sum0 _ _ _ _ _ (by decide)]; omega
  · rw [sumAx_append, sumAx_append, pl1_sum, pl1_sum0 _ _ _ _ _ (by decide), pl1_sum0 _ _ _ _ _ (by decide)]; omega
theorem plN_sum (M0 M1 M2 : Int → Int) (a : Int) : ∀ n : Nat, sumAx 0 (plN M0 M1 M2 a n) = M0 (a + n) - M0 a ∧ sumAx 1 (plN M0 M1 M2 a n) = M1 (a + n) - M1 a ∧ sumAx 2 (plN M0 M1 M2 a n) = M2 (a + n) - M2 a
  | 0 => by simp [plN, sumAx]
  | n + 1 => by
    have h := plN_sum M0 M1 M2 a n
    have k := plAt_sum M0 M1 M2 (a + (n : Int) + 1)
    have e : a + (n : Int) + 1 - 1 = a + n := by omega
    have e2 : a + ((n + 1 : Nat) : Int) = a + (n : Int) + 1 := by omega
    rw [e] at k
    unfold plN
    rw [sumAx_append, sumAx_append, sumAx_append, e2]
    omega
theorem plAt_take (M0 M1 M2 : Int → Int) (u : Int) (j : Nat) : (sumAx 0 ((plAt M0 M1 M2 u).take j) = 0 ∨ sumAx 0 ((plAt M0 M1 M2 u).take j) = M0 u - M0 (u - 1)) ∧ (sumAx 1 ((plAt M0 M1 M2 u).take j) = 0 ∨ sumAx 1 ((plAt M0 M1 M2 u).take j) = M1 u - M1 (u - 1)) ∧
    (sumAx 2 ((plAt M0 M1 M2 u).take j) = 0 ∨ sumAx 2 ((plAt M0 M1 M2 u).take j) = M2 u - M2 (u - 1)) := by
  unfold plAt
  simp only [List.take_append, sumAx_append]
  generalize j - (pl1 u 0 (M0 u) (M0 (u - 1)) ++ pl1 u 1 (M1 u) (M1 (u - 1))).length = j2
  generalize j - (pl1 u 0 (M0 u) (M0 (u - 1))).length = j1
  refine ⟨?_, ?_, ?_⟩
  · rw [(pl1_take u 1 _ _ 0 j1).1 (by decide), (pl1_take u 2 _ _ 0 j2).1 (by decide)]
    have := (pl1_take u 0 (M0 u) (M0 (u - 1)) 0 j).2 rfl
    omega
  · rw [(pl1_take u 0 _ _ 1 j).1 (by decide), (pl1_take u 2 _ _ 1 j2).1 (by decide)]
    have := (pl1_take u 1 (M1 u) (M1 (u - 1)) 1 j1).2 rfl
    omega
  · rw [(pl1_take u 0 _ _ 2 j).1 (by decide), (pl1_take u 1 _ _ 2 j1).1 (by decide)]
    have := (pl1_take u 2 (M2 u) (M2 (u - 1)) 2 j2).2 rfl
    omega
theorem plN_take (M0 M1 M2 : Int → Int) (a : Int) : ∀ (n k : Nat), (∃ m : Nat, m ≤ n ∧ sumAx 0 ((plN M0 M1 M2 a n).take k) = M0 (a + m) - M0 a) ∧ (∃ m : Nat, m ≤ n ∧ sumAx 1 ((plN M0 M1 M2 a n).take k) = M1 (a + m) - M1 a) ∧ (∃ m : Nat, m ≤ n ∧ sumAx 2 ((plN M0 M1 M2 a n).take k) = M2 (a + m) - M2 a)
  | 0, k => ⟨⟨0, Nat.le_refl _, by simp [plN, sumAx]⟩, ⟨0, Nat.le_refl _, by simp [plN, sumAx]⟩, ⟨0, Nat.le_refl _, by simp [plN, sumAx]⟩⟩
  | n + 1, k => by
    unfold plN
    by_cases hk : k ≤ (plN M0 M1 M2 a n).length
    · rw [List.take_append_of_le_length hk]
      obtain ⟨⟨m0, h0, e0⟩, ⟨m1, h1, e1⟩, ⟨m2, h2, e2⟩⟩ := plN_take M0 M1 M2 a n k
      exact ⟨⟨m0, by omega, e0⟩, ⟨m1, by omega, e1⟩, ⟨m2, by omega, e2⟩⟩
    · rw [List.take_append, List.take_of_length_le (by omega)]
      simp only [sumAx_append]
      have s := plN_sum M0 M1 M2 a n
      have t := plAt_take M0 M1 M2 (a + (n : Int) + 1) (k - (plN M0 M1 M2 a n).length)
      have e : a + (n : Int) + 1 - 1 = a + n := by omega
      have e2 : a + ((n + 1 : Nat) : Int) = a + (n : Int) + 1 := by omega
      rw [e] at t
      rw [s.1, s.2.1, s.2.2]
      refine ⟨?_, ?_, ?_⟩
      · rcases t.1 with h | h
        · exact ⟨n, by omega, by rw [h]; omega⟩
        · exact ⟨n + 1, Nat.le_refl _, by rw [h, e2]; omega⟩
      · rcases t.2.1 with h | h
        · exact ⟨n, by omega, by rw [h]; omega⟩
        · exact ⟨n + 1, Nat.le_refl _, by rw [h, e2]; omega⟩
      · rcases t.2.2 with h | h
        · exact ⟨n, by omega, by rw [h]; omega⟩
        · exact ⟨n + 1, Nat.le_refl _, by rw [h, e2]; omega⟩
theorem plN_okSum {M0 M1 M2 : Int → Int} {ln : Int} (h0 : ∀ u, 0 ≤ u ∧ u ≤ ln → -4398046511104 ≤ M0 u ∧ M0 u ≤ 4398046511104) (h1 : ∀ u, 0 ≤ u ∧ u ≤ ln → -4398046511104 ≤ M1 u ∧ M1 u ≤ 4398046511104) (h2 : ∀ u, 0 ≤ u ∧ u ≤ ln → -4398046511104 ≤ M2 u ∧ M2 u ≤ 4398046511104)
    {a : Int} {n : Nat} (ha : 0 ≤ a) (hn : a + n ≤ ln) (hl : ln ≤ 1099511627776) : okSum (plN M0 M1 M2 a n) := by
  have hlen := plN_len M0 M1 M2 a n
  refine ⟨by omega, fun c k c0 c2 hk => ?_⟩
  obtain ⟨⟨m0, l0, e0⟩, ⟨m1, l1, e1⟩, ⟨m2, l2, e2⟩⟩ := plN_take M0 M1 M2 a n k
  have b0 := h0 a (by omega)
  have b1 := h1 a (by omega)
  have b2 := h2 a (by omega)
  have d0 := h0 (a + m0) (by omega)
  have d1 := h1 (a + m1) (by omega)
  have d2 := h2 (a + m2) (by omega)
  have hc : c = 0 ∨ c = 1 ∨ c = 2 := by omega
  rcases hc with rfl | rfl | rfl <;> omega
theorem M0_bd {x : RunS} (h : okRun x) (u : Int) (hu : 0 ≤ u ∧ u ≤ x.ln) : -4398046511104 ≤ x.M0 u ∧ x.M0 u ≤ 4398046511104 := by
  have p := okRun_pre h
  exact mtr_bd p.1 p.2.1.1 (fun j hj => (p.2.1.2.2.2 j hj).1) p.2.2.1 p.2.2.2.1 hu
theorem M1_bd {x : RunS} (h : okRun x) (u : Int) (hu : 0 ≤ u ∧ u ≤ x.ln) : -4398046511104 ≤ x.M1 u ∧ x.M1 u ≤ 4398046511104 := by
  have p := okRun_pre h
  exact mtr_bd p.1 p.2.1.2.1 (fun j hj => (p.2.1.2.2.2 j hj).2.1) p.2.2.1 p.2.2.2.2.1 hu
theorem M2_bd {x : RunS} (h : okRun x) (u : Int) (hu : 0 ≤ u ∧ u ≤ x.ln) : -4398046511104 ≤ x.M2 u ∧ x.M2 u ≤ 4398046511104 := by
  have p := okRun_pre h
  exact mtr_bd p.1 p.2.1.2.2.1 (fun j hj => (p.2.1.2.2.2 j hj).2.2) p.2.2.1 p.2.2.2.2.2.1 hu
theorem okRun_ex : ∃ x, okRun x := by
  obtain ⟨a, ha⟩ := okAx_ex
  have hp : okPath 0 0 0 [] [] := ⟨by unfold b3; decide, okSegs_nil _ _ _, by decide, by decide⟩
  have h0 : (0 : Int) ≤ 0 ∧ 0 ≤ plen [] := by decide
  exact ⟨⟨0, 0, 0, [], [], a, a, a, 1, 1, 1, 0, 0, _, _⟩, hp, ha, ha, ha, ⟨.inl rfl, .inl rfl, .inl rfl⟩, h0, h0, rfl, rfl⟩
theorem okRun_ln0 {x : RunS} (h : okRun x) : 0 ≤ x.ln := (okRun_pre h).2.2.1.2.1.1
attribute [local irreducible] hfun bodyT fragT
set_option maxHeartbeats 400000 in
set_option maxRecDepth 100000 in
theorem sPMot : Sound Try.prog 6 SPMot := by
  refine sound_of (C := CPMot) tabPMot Try.func6 (by kernel_rfl) (by decide +kernel) (by kernel_rfl) rfl ⟨sAw30, sRun30, sMod, sMotors, sBtw, sSum, trivial⟩ (loops0 (by kernel_rfl)) ?_
  intro hargs pars R h
  unfold SPMot at h
  split at h
  case h_2 => exfalso; exact h
  rename_i l ax ds f t a b
  obtain ⟨⟨hl, hax⟩, hq⟩ := h
  refine byVC (vcPMot l ax ds f t a b R) ⟨trivial, ⟨true, rfl⟩, fun w ew => ⟨fun g => (by rw [ew] at g; cases g), fun _ => ⟨⟨hl, hax⟩, okRun_ex, fun x hx => ?_⟩⟩⟩
  have hln := okRun_ln hx
  have h0 := okRun_ln0 hx
  have hp := okRun_pre hx
  refine ⟨by omega, fun x3 e3 => ⟨by omega, fun x4 e4 => ?_⟩⟩
  have b4 := emod_bd (a := a) (n := x3) (by omega)
  refine ⟨by omega, fun x5 e5 => ⟨by omega, fun x6 e6 => ⟨by omega, fun x7 e7 => ?_⟩⟩⟩
  have b7 := emod_bd (a := b) (n := x6) (by omega)
  refine ⟨by omega, fun x8 e8 => ⟨hp, fun x9 e9 x10 e10 x11 e11 => ⟨hp, fun x12 e12 x13 e13 x14 e14 => ⟨⟨hp, hln⟩, ⟨_, rfl⟩, fun y ey => ?_⟩⟩⟩⟩
  rw [clamp_in (by omega : 0 ≤ x4 ∧ x4 ≤ x.ln)] at e9 e10 e11 ey
  rw [clamp_in (by omega : 0 ≤ x8 ∧ x8 ≤ x.ln)] at e12 e13 e14 ey
  have e9 : x9 = x.M0 x4 := e9
  have e10 : x10 = x.M1 x4 := e10
  have e11 : x11 = x.M2 x4 := e11
  have e12 : x12 = x.M0 x8 := e12
  have e13 : x13 = x.M1 x8 := e13
  have e14 : x14 = x.M2 x8 := e14
  have ey : y = plN x.M0 x.M1 x.M2 x4 (x8 - x4).toNat := ey
  have d9 := M0_bd hx x4 (by omega)
  have d10 := M1_bd hx x4 (by omega)
  have d11 := M2_bd hx x4 (by omega)
  have d12 := M0_bd hx x8 (by omega)
  have d13 := M1_bd hx x8 (by omega)
  have d14 := M2_bd hx x8 (by omega)
  have hs := plN_sum x.M0 x.M1 x.M2 x4 (x8 - x4).toNat
  rw [← ey, show x4 + (((x8 - x4).toNat : Nat) : Int) = x8 by omega] at hs
  refine ⟨?_, fun x16 e16 x17 e17 x18 e18 => ⟨by omega, fun x19 e19 => ⟨fun _ => ⟨by omega, fun x20 e20 => ⟨fun _ => ⟨by omega, fun x21 e21 => ?_⟩, fun g => ?_⟩⟩, fun g => ?_⟩⟩⟩
  · rw [ey]
    exact plN_okSum (M0_bd hx) (M1_bd hx) (M2_bd hx) (by omega) (by omega) hln
  · have : x21 = x14 := by omega
    rw [this, beq_self_eq_true]; exact hq
  · have : x20 = x13 := by omega
    rw [this, beq_self_eq_true] at g; cases g
  · have : x19 = x12 := by omega
    rw [this, beq_self_eq_true] at g; cases g
end Go.Proofs.Ytneingpnkdeooaa
