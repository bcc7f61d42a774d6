/-
  Part 1 of the texts that the law needs, merged: a value-level calculus of the code (HL), the contracts of the functions, and their proofs.
  Conditions: none.
-/
import Derived.Test.YtneingpnkdeooaaG6
set_option maxRecDepth 100000
set_option linter.unusedVariables false
set_option linter.unusedSimpArgs false
namespace Go.HL
open Go Go.ChangeShapes Go.WideShapes Go.ChangeAt Go.RowKit
def fieldsK (P : Program) (rec : TypeId → Option (List Nat)) : List Field → Nat → Option (List Nat)
  | [], _ => some []
  | fl :: r, off => match rec fl.type with
    | some a => bif Nat.beq fl.offset off && Nat.beq (P.cellsOf fl.type) a.length then (match fieldsK P rec r (off + a.length) with
      | some b => some (a ++ b)
      | none => none) else none
    | none => none
def repK : Nat → List Nat → List Nat
  | 0, _ => []
  | n + 1, a => a ++ repK n a
def kindsOf (P : Program) : Nat → TypeId → Option (List Nat)
  | 0, _ => none
  | f + 1, t => match P.underlying t with
    | some .bool => some [0]
    | some (.int k) => some [kcode k]
    | some (.struct fs) => match fieldsK P (kindsOf P f) fs.toList 0 with
      | some ks => bif Nat.beq ks.length (P.cellsOf t) then some ks else none
      | none => none
    | some (.array n e) => match kindsOf P f e with
      | some a => bif Nat.beq (P.cellsOf e) a.length && Nat.beq (P.cellsOf t) (n * a.length) then some (repK n a) else none
      | none => none
    | _ => none
def InK : Nat → Int → Prop
  | 0, n => n = 0 ∨ n = 1
  | k + 1, n => kLo (kk k) ≤ n ∧ n ≤ kHi (kk k)
def zipK : List Nat → List Int → List Value
  | k :: ks, n :: r => kval k n :: zipK ks r
  | _, _ => []
def AllIn : List Nat → List Int → Prop
  | k :: ks, n :: r => InK k n ∧ AllIn ks r
  | [], [] => True
  | _, _ => False
def Flat (ks : List Nat) (cs : List Value) : Prop := ∃ row, AllIn ks row ∧ cs = zipK ks row
theorem AllIn.len : ∀ {ks : List Nat} {row : List Int}, AllIn ks row → row.length = ks.length
  | [], [], _ => rfl
  | _ :: _, _ :: _, h => by simp [AllIn.len h.2]
  | [], _ :: _, h => h.elim
  | _ :: _, [], h => h.elim
theorem AllIn.append : ∀ {a b : List Nat} {r s : List Int}, AllIn a r → AllIn b s → AllIn (a ++ b) (r ++ s) ∧ zipK (a ++ b) (r ++ s) = zipK a r ++ zipK b s
  | [], b, [], s, _, h => ⟨h, rfl⟩
  | _ :: a, b, _ :: r, s, h, h' => by
    obtain ⟨h1, h2⟩ := AllIn.append (a := a) (r := r) h.2 h'
    exact ⟨⟨h.1, h1⟩, by simp [zipK, h2]⟩
  | [], _, _ :: _, _, h, _ => h.elim
  | _ :: _, _, [], _, h, _ => h.elim
theorem Flat.append {a b : List Nat} {cs ds : List Value} (h : Flat a cs) (h' : Flat b ds) : Flat (a ++ b) (cs ++ ds) := by
  obtain ⟨r, h1, rfl⟩ := h
  obtain ⟨s, h2, rfl⟩ := h'
  exact ⟨r ++ s, (AllIn.append h1 h2).1, (AllIn.append h1 h2).2.symm⟩
theorem zipK_get : ∀ {ks : List Nat} {row : List Int} {j : Nat}, AllIn ks row → j < ks.length → (zipK ks row)[j]? = some (kval (ks.getD j 0) (row.getD j 0)) ∧ InK (ks.getD j 0) (row.getD j 0)
  | _ :: _, _ :: _, 0, h, _ => ⟨rfl, h.1⟩
  | _ :: ks, _ :: r, j + 1, h, hj => by
    have := zipK_get (j := j) h.2 (by simpa using hj)
    simpa [zipK] using this
  | [], _, _, _, hj => by simp at hj
  | _ :: _, [], _, h, _ => h.elim
section
variable {H : Type} {enc : TypeId × Value → H} {P : Program} {w : World} {base : Nat} {spare : Nat → Bool} {held : Bool}
theorem wf_in {k : IntKind} {n : Int} (h : (Lit.int k n).wf = true) : InK (kcode k) n ∧ kval (kcode k) n = .int k n := by
  simp only [Lit.wf, Bool.and_eq_true, decide_eq_true_eq] at h
  cases k <;> simp [IntKind.min, IntKind.max, IntKind.signed, IntKind.bits] at h <;> exact ⟨by simp [InK, kcode, kk, kLo, kHi]; omega, rfl⟩
theorem fields_flat {rec : TypeId → Option (List Nat)} {cs : List Value} {n : Nat}
    (hrec : ∀ t ks, rec t = some ks → ∀ cs x, DataW.trod enc P w base spare held n t cs = some x → Flat ks cs) :
    ∀ (fs : List Field) (off : Nat) (ks : List Nat), fieldsK P rec fs off = some ks → off + ks.length = cs.length →
      (∀ f, f ∈ fs → ∃ x, DataW.trod enc P w base spare held n f.type ((cs.drop f.offset).take (P.cellsOf f.type)) = some x) → Flat ks (cs.drop off)
  | [], off, ks, h, hl, _ => by
    cases h
    have : cs.drop off = [] := List.drop_eq_nil_of_le (by simp at hl; omega)
    rw [this]
    exact ⟨[], trivial, rfl⟩
  | fl :: r, off, ks, h, hl, hf => by
    unfold fieldsK at h
    split at h
    case h_2 => cases h
    rename_i a ha
    cases hb : (Nat.beq fl.offset off && Nat.beq (P.cellsOf fl.type) a.length) with
    | false => rw [hb] at h; cases h
    | true =>
      rw [hb] at h
      simp only [cond_true] at h
      rw [Bool.and_eq_true] at hb
      have e1 := Nat.eq_of_beq_eq_true hb.1
      have e2 := Nat.eq_of_beq_eq_true hb.2
      split at h
      case h_2 => cases h
      rename_i b hbb
      cases h
      obtain ⟨x, hx⟩ := hf fl (List.mem_cons_self ..)
      rw [e1, e2] at hx
      have f1 := hrec _ _ ha _ _ hx
      have f2 := fields_flat hrec r (off + a.length) b hbb (by simp at hl; omega) (fun f hm => hf f (List.mem_cons_of_mem _ hm))
      have : cs.drop off = (cs.drop off).take a.length ++ cs.drop (off + a.length) := by
        rw [← List.drop_drop, List.take_append_drop]
      rw [this]
      exact f1.append f2
theorem elems_flat {a : List Nat} {cs : List Value} : ∀ (n i : Nat), i * a.length + n * a.length = cs.length → (∀ j, i ≤ j → j < i + n → Flat a ((cs.drop (j * a.length)).take a.length)) → Flat (repK n a) (cs.drop (i * a.length))
  | 0, i, hl, _ => by
    have : cs.drop (i * a.length) = [] := List.drop_eq_nil_of_le (by omega)
    rw [this]
    exact ⟨[], trivial, rfl⟩
  | n + 1, i, hl, h => by
    have e : (n + 1) * a.length = n * a.length + a.length := Nat.succ_mul _ _
    have e2 : (i + 1) * a.length = i * a.length + a.length := Nat.succ_mul _ _
    have f1 := h i (Nat.le_refl _) (by omega)
    have f2 := elems_flat n (i + 1) (by omega) (fun j h1 h2 => h j (by omega) (by omega))
    have : cs.drop (i * a.length) = (cs.drop (i * a.length)).take a.length ++ cs.drop ((i + 1) * a.length) := by
      rw [e2, ← List.drop_drop, List.take_append_drop]
    rw [this]
    exact f1.append f2
theorem trod_flat : ∀ (f : Nat) (t : TypeId) (ks : List Nat), kindsOf P f t = some ks → ∀ fuel cs x, DataW.trod enc P w base spare held fuel t cs = some x → Flat ks cs
  | 0, _, _, h, _, _, _, _ => by cases h
  | f + 1, t, ks, h, fuel, cs, x, hx => by
    unfold kindsOf at h
    split at h
    · rename_i ht
      cases h
      obtain ⟨b, rfl, _⟩ := DataW.trod_bool ht hx
      refine ⟨[if b then 1 else 0], ⟨by cases b <;> simp [InK], trivial⟩, ?_⟩
      cases b <;> rfl
    · rename_i k ht
      cases h
      obtain ⟨n, rfl, _, hw⟩ := DataW.trod_int ht hx
      exact ⟨[n], ⟨(wf_in hw).1, trivial⟩, by simp [zipK, (wf_in hw).2]⟩
    · rename_i fs ht
      obtain ⟨xs, n, _, _, hl, hxl, hf⟩ := DataW.trod_struct ht hx
      split at h
      case h_2 => cases h
      rename_i ks' hk
      cases hb : Nat.beq ks'.length (P.cellsOf t) with
      | false => rw [hb] at h; cases h
      | true =>
        rw [hb] at h
        cases h
        have e := Nat.eq_of_beq_eq_true hb
        have := fields_flat (cs := cs) (n := n) (fun t ks h cs x hx => trod_flat f t ks h n cs x hx) fs.toList 0 ks hk (by omega) (fun fl hm => by
          obtain ⟨i, hi, he⟩ := List.mem_iff_getElem.1 hm
          have hi' : i < fs.size := by simpa using hi
          have h1 := hf i fl (by rw [Array.getElem?_eq_getElem hi']; simp at he; rw [he])
          rw [List.getElem?_eq_getElem (by omega)] at h1
          exact ⟨_, h1⟩)
        simpa using this
    · rename_i n e ht
      obtain ⟨xs, m, _, _, hl, hxl, hf⟩ := DataW.trod_array ht hx
      split at h
      case h_2 => cases h
      rename_i a ha
      cases hb : (Nat.beq (P.cellsOf e) a.length && Nat.beq (P.cellsOf t) (n * a.length)) with
      | false => rw [hb] at h; cases h
      | true =>
        rw [hb] at h
        cases h
        rw [Bool.and_eq_true] at hb
        have e1 := Nat.eq_of_beq_eq_true hb.1
        have e2 := Nat.eq_of_beq_eq_true hb.2
        have := elems_flat (a := a) (cs := cs) n 0 (by omega) (fun j _ hj => by
          have h1 := hf j (by omega)
          rw [List.getElem?_eq_getElem (by omega), e1] at h1
          exact trod_flat f e a ha m _ _ h1)
        simpa using this
    · cases h
theorem cells_flat {ks : List Nat} {a : Addr} {cs : List Value} (h1 : ∀ i, i < ks.length → w.cell? (a.add i) = cs[i]?) (hf : Flat ks cs) :
    ∃ row : List Int, AllIn ks row ∧ ∀ j, j < ks.length → w.cell? (a.add j) = some (kval (ks.getD j 0) (row.getD j 0)) := by
  obtain ⟨row, hr, rfl⟩ := hf
  exact ⟨row, hr, fun j hj => by rw [h1 j hj]; exact (zipK_get hr hj).1⟩
theorem in_slice_sz {r : Reach} {b0 : Nat} {t e : TypeId} {ks : List Nat} {v : Value} {d : DataW H} {ps : List MemPlace} (ht : P.underlying t = some (.slice e)) (hk : kindsOf P 12 e = some ks) (hC : P.cellsOf e = ks.length) (hpos : 0 < ks.length)
    (hval : Value.okWide P w r b0 t v) (hd : DataW.Trod enc P w base (fun _ => true) held t v d ps) :
    ∃ rows : List (List Int), rows.length ≤ maxLen ∧ (∀ i, i < rows.length → AllIn ks (rows.getD i [])) ∧ VRel (G0 w) w none (.ce (.sl false ks rows)) v ∧
      ∀ R B : Nat, (∀ es sp, d = .slice es sp → (es.length + sp.length) * B ≤ R) → rows.length * B ≤ R := by
  obtain ⟨fuel, hd⟩ := hd
  obtain ⟨ad, len, cap, rfl⟩ := okWide_slice ht hval
  have hc : (Value.slice ad len cap).cells.toList = [.slice ad len cap] := by simp [Value.cells]
  rw [hc] at hd
  rcases DataW.trod_slice ht hd with ⟨he, _⟩ | ⟨a, len', cap', elems, rest, n, _, he, hxd, hb, hl, hm, hlen, hel, hsp, _⟩
  · simp at he
    obtain ⟨rfl, rfl, rfl⟩ := he
    exact ⟨[], Nat.zero_le _, fun i hi => by simp at hi, ⟨none, 0, rfl, Nat.le_refl _, Nat.zero_le _, .inl ⟨.inl rfl, rfl, rfl⟩⟩, fun R B _ => by simp⟩
  · simp at he
    obtain ⟨rfl, rfl, rfl⟩ := he
    obtain ⟨hrl, hrest⟩ := hsp rfl
    have hall : ∀ i, i < cap → ∃ row : List Int, AllIn ks row ∧ ∀ j, j < ks.length → w.cell? ((a.add (i * ks.length)).add j) = some (kval (ks.getD j 0) (row.getD j 0)) := by
      intro i hi
      have key : ∀ y, (w.cells? base (a.add (i * P.cellsOf e)) (P.cellsOf e)).bind (DataW.trod enc P w base (fun _ => true) held n e) = some y →
          ∃ row : List Int, AllIn ks row ∧ ∀ j, j < ks.length → w.cell? ((a.add (i * ks.length)).add j) = some (kval (ks.getD j 0) (row.getD j 0)) := by
        intro y hy
        rw [Option.bind_eq_some_iff] at hy
        obtain ⟨cs, h1, h2⟩ := hy
        obtain ⟨_, _, h3⟩ := World.cells?_some h1
        rw [hC] at h3
        exact cells_flat h3 (trod_flat 12 e ks hk n cs y h2)
      by_cases hi2 : i < len
      · have := hel i hi2
        rw [List.getElem?_eq_getElem (by omega)] at this
        exact key _ this
      · have := hrest (i - len) (by omega)
        rw [List.getElem?_eq_getElem (by omega), show len + (i - len) = i by omega] at this
        exact key _ this
    have hch : ∀ i, ∃ row : List Int, i < cap → AllIn ks row ∧ ∀ j, j < ks.length → w.cell? ((a.add (i * ks.length)).add j) = some (kval (ks.getD j 0) (row.getD j 0)) := by
      intro i
      by_cases hi : i < cap
      · obtain ⟨row, h⟩ := hall i hi; exact ⟨row, fun _ => h⟩
      · exact ⟨[], fun h => absurd h hi⟩
    obtain ⟨f, hrows⟩ : ∃ f : Nat → List Int, ∀ i, i < cap → AllIn ks (f i) ∧ ∀ j, j < ks.length → w.cell? ((a.add (i * ks.length)).add j) = some (kval (ks.getD j 0) ((f i).getD j 0)) :=
      ⟨fun i => Classical.choose (hch i), fun i => Classical.choose_spec (hch i)⟩
    clear hch
    refine ⟨(List.range len).map f, by simp; omega, fun i hi => ?_, ?_, fun R B hs => ?_⟩
    · simp at hi
      have : ((List.range len).map f).getD i [] = f i := by simp [List.getD_eq_getElem?_getD, hi]
      rw [this]
      exact (hrows i (by omega)).1
    · have hll : ((List.range len).map f).length = len := by simp
      refine ⟨some a, cap, by rw [hll], by rw [hll]; exact hl, hm, ?_⟩
      rw [hll]
      by_cases hc0 : cap = 0
      · exact .inl ⟨.inl rfl, by omega, hc0⟩
      · have h0 := (hrows 0 (by omega)).2 0 hpos
        have hx0 : (a.add (0 * ks.length)).add 0 = a := by simp [Addr.add]
        rw [hx0] at h0
        obtain ⟨hbk, hs⟩ := cell_lt h0
        have hx : a = at_ a.block a.off := by
          cases a with
          | mk b o s => dsimp only at hs; subst hs; rfl
        refine .inr ⟨a.block, a.off, by rw [← hx], fun i j hi hj => ⟨hbk, ?_⟩, fun _ e => nomatch e⟩
        have h1 := (hrows i (by omega)).2 j hj
        rw [hx, at_add, at_add, show a.off + i * ks.length + j = a.off + (i * ks.length + j) by omega] at h1
        have hg : ((List.range len).map f).getD i [] = f i := by simp [List.getD_eq_getElem?_getD, hi]
        rw [hg]
        exact h1
    · have := hs (elems.map (·.1)) (rest.map (·.1)) (congrArg Prod.fst hxd)
      simp only [List.length_map, List.length_range] at this ⊢
      rw [hlen, Nat.add_mul] at this
      omega
theorem in_slice {r : Reach} {b0 : Nat} {t e : TypeId} {ks : List Nat} {v : Value} {d : DataW H} {ps : List MemPlace} (ht : P.underlying t = some (.slice e)) (hk : kindsOf P 12 e = some ks) (hC : P.cellsOf e = ks.length) (hpos : 0 < ks.length)
    (hval : Value.okWide P w r b0 t v) (hd : DataW.Trod enc P w base (fun _ => true) held t v d ps) :
    ∃ rows : List (List Int), rows.length ≤ maxLen ∧ (∀ i, i < rows.length → AllIn ks (rows.getD i [])) ∧ VRel (G0 w) w none (.ce (.sl false ks rows)) v := by
  obtain ⟨rows, h1, h2, h3, _⟩ := in_slice_sz ht hk hC hpos hval hd
  exact ⟨rows, h1, h2, h3⟩
end
end Go.HL
namespace U
open Go
def RunS.M0 (x : RunS) : Int → Int := mtr x.a.st x.a.og x.a.sg x.a.pit x.a.bl x.s0 x.sg 0 x.pk x.f x.d0
def RunS.M1 (x : RunS) : Int → Int := mtr x.b.st x.b.og x.b.sg x.b.pit x.b.bl x.s1 x.sg 1 x.pk x.f x.d1
def RunS.M2 (x : RunS) : Int → Int := mtr x.c.st x.c.og x.c.sg x.c.pit x.c.bl x.s2 x.sg 2 x.pk x.f x.d2
end U
namespace Go.Proofs.Ytneingpnkdeooaa
open Go Go.HL U
def SSameP (hargs : List HV) (pars : List (List HC)) : SR :=
  match hargs, pars with
  | [.ce (.sl false [4, 4, 4] a), .ce (.sl false [4, 4, 4] b)], [] => .det (a = b ∧ a.length ≤ 9223372036854775807) okR
  | _, _ => .fail
def anSameP : LAnn := ⟨[0, 1, 4, 12, 13], [4], [], false⟩
def LSameP (v : LV) : LR :=
  match v with
  | ([.ce (.sl false [4, 4, 4] a), .ce (.sl false [4, 4, 4] b), .ce (.bool z), .ce (.int .i64 n), .ce (.int .i64 i)], []) =>
    .det (b = a ∧ n = (a.length : Int) ∧ i = 0 ∧ a.length ≤ 9223372036854775807) (.exit 0) ([.ce (.bool z)], [])
  | _ => .fail
noncomputable def CSameP : Ctx := ⟨Try.prog, gam [], Try.f23.ntmps, [(4, anSameP, LSameP)], []⟩
theorem vbSameP (n i : Int) (z : Bool) (a b : List (List Int)) (K : HEx → LV → Prop) : (nbodyT true CSameP anSameP (nthLoop Try.f23 0) (([.ce (.sl false [4, 4, 4] a), .ce (.sl false [4, 4, 4] b), .ce (.bool z), .ce (.int .i64 n), .ce (.int .i64 i)], [])) K) =
    ((decide (i < n) = true → ((0 : Int) ≤ i ∧ i < (((List.length a) : Nat) : Int)) ∧ ((0 : Int) ≤ i ∧ i < (((List.length b) : Nat) : Int)) ∧ ((!(el a (Int.toNat i) == el b (Int.toNat i) && (ec a (Int.toNat i) ((1 : Nat)) == ec b (Int.toNat i) ((1 : Nat)) && (ec a (Int.toNat i) ((2 : Nat)) == ec b (Int.toNat i) ((2 : Nat)) && true)))) = true → K HEx.ret ([HV.ce (HC.bool false)], [])) ∧ ((!(el a (Int.toNat i) == el b (Int.toNat i) && (ec a (Int.toNat i) ((1 : Nat)) == ec b (Int.toNat i) ((1 : Nat)) && (ec a (Int.toNat i) ((2 : Nat)) == ec b (Int.toNat i) ((2 : Nat)) && true)))) = false → ((-9223372036854775808 : Int) ≤ i + (1 : Int) ∧ i + (1 : Int) ≤ (9223372036854775807 : Int)) ∧ ∀ (x1 : Int), x1 = i + (1 : Int) → K HEx.normal ([HV.ce (HC.sl false [(4 : Nat), (4 : Nat), (4 : Nat)] a), HV.ce (HC.sl false [(4 : Nat), (4 : Nat), (4 : Nat)] b), HV.ce (HC.bool z), HV.ce (HC.int IntKind.i64 n), HV.ce (HC.int IntKind.i64 x1)], []))) ∧
    (decide (i < n) = false → K (HEx.exit (0 : Nat)) ([HV.ce (HC.bool z)], []))) := by kernel_rfl
theorem vcSameP (a b : List (List Int)) (Q : Res → Prop) : (nfun true CSameP Try.f23 (bodyOf Try.f23) [.ce (.sl false [4, 4, 4] a), .ce (.sl false [4, 4, 4] b)] [] Q) =
    ((((((List.length a) : Nat) : Int) != (((List.length b) : Nat) : Int)) = true → Q { val := HV.ce (HC.bool false), own := false, pars := [], news := [] }) ∧ (((((List.length a) : Nat) : Int) != (((List.length b) : Nat) : Int)) = false → (b = a ∧ (((List.length a) : Nat) : Int) = (((List.length a) : Nat) : Int) ∧ (0 : Int) = (0 : Int) ∧ List.length a ≤ (9223372036854775807 : Nat)) ∧ Q { val := HV.ce (HC.bool true), own := false, pars := [], news := [] })) := by kernel_rfl
def SPJoin (hargs : List HV) (pars : List (List HC)) : SR :=
  match hargs, pars with
  | [.ce (.sl false [4] l), .ce (.sl false [4] ax), .ce (.int .i64 ds), .ce (.int .i64 f), .ce (.int .i64 t), .ce (.sl false [4] q)], [] => .det (l.length ≤ 9223372036854775807 ∧ ax.length ≤ 9223372036854775807) okR
  | _, _ => .fail
def tabPJoin : List (FuncId × HL.Spec) := [(18, STrue0), (20, SRun), (11, SMod), (22, SBetween), (23, SSameP)]
def anPJoin : LAnn := ⟨[13, 14, 100014, 15, 30, 31, 32], [13, 14, 100014, 15], [1000013], false⟩
def LPJoin (v : LV) : LR :=
  match v with
  | ([.ce (.ptr 1000013 0), .ce (.sl false [4, 4, 4] o), .ce (.lit true), .ce (.int .i64 p), .ce (.sl false [4] q), .ce (.int .i64 n), .ce (.int .i64 i)], [rb]) =>
    .all (n = (q.length : Int) ∧ i = 0 ∧ p = 0 ∧ o.length = 0 ∧ q.length ≤ 20 ∧ ∃ x, okRun x ∧ rb = runC x) (List (List Int) × Int)
        (fun y => ∀ x, rb = runC x → (0 ≤ y.2 ∧ y.2 ≤ x.ln) ∧ y.1 = plN x.M0 x.M1 x.M2 0 y.2.toNat) (fun _ => .exit 0)
        (fun y => ([.ce (.ptr 1000013 0), .ce (.sl false [4, 4, 4] y.1), .ce (.lit true), .ce (.int .i64 y.2)], [rb]))
  | _ => .fail
noncomputable def CPJoin : Ctx := ⟨Try.prog, gam tabPJoin, Try.f7.ntmps, [(9, anPJoin, LPJoin)], []⟩
theorem vbPJoin (p n i : Int) (o q : List (List Int)) (x : RunS) (K : HEx → LV → Prop) : (nbodyT true CPJoin anPJoin (nthLoop Try.f7 0) (([.ce (.ptr 1000013 0), .ce (.sl false [4, 4, 4] o), .ce (.lit true), .ce (.int .i64 p), .ce (.sl false [4] q), .ce (.int .i64 n), .ce (.int .i64 i)], [[.int .i64 x.s0, .int .i64 x.s1, .int .i64 x.s2, .sl false [4, 4, 4, 4, 4, 4, 4] x.sg, .sl false [4, 4, 4] x.mks, .int .i64 x.a.st, .int .i64 x.a.sp, .int .i64 x.a.ac, .int .i64 x.a.je, .int .i64 (-16777216), .int .i64 16777216, .int .i64 x.a.bl, .int .i64 x.a.og, .int .i64 x.a.sg, .sl false [4] x.a.pit, .int .i64 x.b.st, .int .i64 x.b.sp, .int .i64 x.b.ac, .int .i64 x.b.je, .int .i64 (-16777216), .int .i64 16777216, .int .i64 x.b.bl, .int .i64 x.b.og, .int .i64 x.b.sg, .sl false [4] x.b.pit, .int .i64 x.c.st, .int .i64 x.c.sp, .int .i64 x.c.ac, .int .i64 x.c.je, .int .i64 (-16777216), .int .i64 16777216, .int .i64 x.c.bl, .int .i64 x.c.og, .int .i64 x.c.sg, .sl false [4] x.c.pit, .sl false [4, 4, 4, 4, 4, 4, 4, 4, 4, 4] x.pk, .int .i64 x.ln, .int .i64 x.f, .int .i64 x.d0, .int .i64 x.d1, .int .i64 x.d2]])) K) =
    ((decide (i < n) = true → ((0 : Int) ≤ i ∧ i < (((List.length q) : Nat) : Int)) ∧ ∀ (x1 : Int), x1 = el q (Int.toNat i) → ((-9223372036854775808 : Int) ≤ x.ln - p ∧ x.ln - p ≤ (9223372036854775807 : Int)) ∧ ∀ (x2 : Int), x2 = x.ln - p → ((-9223372036854775808 : Int) ≤ x2 + (1 : Int) ∧ x2 + (1 : Int) ≤ (9223372036854775807 : Int)) ∧ ∀ (x3 : Int), x3 = x2 + (1 : Int) → ((0 : Int) < x3 ∧ x3 ≤ (4611686018427387904 : Int)) ∧ ∀ (x4 : Int), x4 = x1 % x3 → ((-9223372036854775808 : Int) ≤ p + x4 ∧ p + x4 ≤ (9223372036854775807 : Int)) ∧ ∀ (x5 : Int), x5 = p + x4 → ((okLen x.sg ∧ okPts x.s0 x.s1 x.s2 x.sg ∧ okTrk x.pk x.ln ∧ okMA x.a.st x.a.og x.a.sg x.a.pit x.a.bl ∧ okMA x.b.st x.b.og x.b.sg x.b.pit x.b.bl ∧ okMA x.c.st x.c.og x.c.sg x.c.pit x.c.bl ∧ (0 : Int) ≤ x.f ∧ x.f ≤ (18014398509481984 : Int)) ∧ x.ln ≤ (1099511627776 : Int)) ∧ (∃ (x_1 : List (List Int)), x_1 = plN (mtr x.a.st x.a.og x.a.sg x.a.pit x.a.bl x.s0 x.sg (0 : Nat) x.pk x.f x.d0) (mtr x.b.st x.b.og x.b.sg x.b.pit x.b.bl x.s1 x.sg (1 : Nat) x.pk x.f x.d1) (mtr x.c.st x.c.og x.c.sg x.c.pit x.c.bl x.s2 x.sg (2 : Nat) x.pk x.f x.d2) (clamp x.ln p) (Int.toNat (clamp x.ln x5 - clamp x.ln p))) ∧
    ∀ (x_1 : List (List Int)), x_1 = plN (mtr x.a.st x.a.og x.a.sg x.a.pit x.a.bl x.s0 x.sg (0 : Nat) x.pk x.f x.d0) (mtr x.b.st x.b.og x.b.sg x.b.pit x.b.bl x.s1 x.sg (1 : Nat) x.pk x.f x.d1) (mtr x.c.st x.c.og x.c.sg x.c.pit x.c.bl x.s2 x.sg (2 : Nat) x.pk x.f x.d2) (clamp x.ln p) (Int.toNat (clamp x.ln x5 - clamp x.ln p)) → ((List.length o + List.length x_1) * (24 : Nat) ≤ (140737488355328 : Nat) ∧ List.length o + List.length x_1 ≤ maxLen) ∧ ((-9223372036854775808 : Int) ≤ i + (1 : Int) ∧ i + (1 : Int) ≤ (9223372036854775807 : Int)) ∧ ∀ (x7 : Int), x7 = i + (1 : Int) → K HEx.normal ([HV.ce (HC.ptr (1000013 : Nat) (0 : Nat)), HV.ce (HC.sl false [(4 : Nat), (4 : Nat), (4 : Nat)] (o ++ x_1)), HV.ce (HC.lit true), HV.ce (HC.int IntKind.i64 x5), HV.ce (HC.sl false [(4 : Nat)] q), HV.ce (HC.int IntKind.i64 n), HV.ce (HC.int IntKind.i64 x7)], [[HC.int IntKind.i64 x.s0, HC.int IntKind.i64 x.s1, HC.int IntKind.i64 x.s2, HC.sl false [(4 : Nat), (4 : Nat), (4 : Nat), (4 : Nat), (4 : Nat), (4 : Nat), (4 : Nat)] x.sg, HC.sl false [(4 : Nat), (4 : Nat), (4 : Nat)] x.mks, HC.int IntKind.i64 x.a.st, HC.int IntKind.i64 x.a.sp, HC.int IntKind.i64 x.a.ac, HC.int IntKind.i64 x.a.je, HC.int IntKind.i64 (-16777216 : Int), HC.int IntKind.i64 (16777216 : Int), HC.int IntKind.i64 x.a.bl, HC.int IntKind.i64 x.a.og, HC.int IntKind.i64 x.a.sg, HC.sl false [(4 : Nat)] x.a.pit, HC.int IntKind.i64 x.b.st, HC.int IntKind.i64 x.b.sp, HC.int IntKind.i64 x.b.ac, HC.int IntKind.i64 x.b.je, HC.int IntKind.i64 (-16777216 : Int), HC.int IntKind.i64 (16777216 : Int), HC.int IntKind.i64 x.b.bl, HC.int IntKind.i64 x.b.og, HC.int IntKind.i64 x.b.sg, HC.sl false [(4 : Nat)] x.b.pit, HC.int IntKind.i64 x.c.st, HC.int IntKind.i64 x.c.sp, HC.int IntKind.i64 x.c.ac, HC.int IntKind.i64 x.c.je, HC.int IntKind.i64 (-16777216 : Int), HC.int IntKind.i64 (16777216 : Int), HC.int IntKind.i64 x.c.bl, HC.int IntKind.i64 x.c.og, HC.int IntKind.i64 x.c.sg, HC.sl false [(4 : Nat)] x.c.pit, HC.sl false [(4 : Nat), (4 : Nat), (4 : Nat), (4 : Nat), (4 : Nat), (4 : Nat), (4 : Nat), (4 : Nat), (4 : Nat), (4 : Nat)] x.pk, HC.int IntKind.i64 x.ln, HC.int IntKind.i64 x.f, HC.int IntKind.i64 x.d0, HC.int IntKind.i64 x.d1, HC.int IntKind.i64 x.d2]])) ∧
    (decide (i < n) = false → K (HEx.exit (0 : Nat)) ([HV.ce (HC.ptr (1000013 : Nat) (0 : Nat)), HV.ce (HC.sl false [(4 : Nat), (4 : Nat), (4 : Nat)] o), HV.ce (HC.lit true), HV.ce (HC.int IntKind.i64 p)], [[HC.int IntKind.i64 x.s0, HC.int IntKind.i64 x.s1, HC.int IntKind.i64 x.s2, HC.sl false [(4 : Nat), (4 : Nat), (4 : Nat), (4 : Nat), (4 : Nat), (4 : Nat), (4 : Nat)] x.sg, HC.sl false [(4 : Nat), (4 : Nat), (4 : Nat)] x.mks, HC.int IntKind.i64 x.a.st, HC.int IntKind.i64 x.a.sp, HC.int IntKind.i64 x.a.ac, HC.int IntKind.i64 x.a.je, HC.int IntKind.i64 (-16777216 : Int), HC.int IntKind.i64 (16777216 : Int), HC.int IntKind.i64 x.a.bl, HC.int IntKind.i64 x.a.og, HC.int IntKind.i64 x.a.sg, HC.sl false [(4 : Nat)] x.a.pit, HC.int IntKind.i64 x.b.st, HC.int IntKind.i64 x.b.sp, HC.int IntKind.i64 x.b.ac, HC.int IntKind.i64 x.b.je, HC.int IntKind.i64 (-16777216 : Int), HC.int IntKind.i64 (16777216 : Int), HC.int IntKind.i64 x.b.bl, HC.int IntKind.i64 x.b.og, HC.int IntKind.i64 x.b.sg, HC.sl false [(4 : Nat)] x.b.pit, HC.int IntKind.i64 x.c.st, HC.int IntKind.i64 x.c.sp, HC.int IntKind.i64 x.c.ac, HC.int IntKind.i64 x.c.je, HC.int IntKind.i64 (-16777216 : Int), HC.int IntKind.i64 (16777216 : Int), HC.int IntKind.i64 x.c.bl, HC.int IntKind.i64 x.c.og, HC.int IntKind.i64 x.c.sg, HC.sl false [(4 : Nat)] x.c.pit, HC.sl false [(4 : Nat), (4 : Nat), (4 : Nat), (4 : Nat), (4 : Nat), (4 : Nat), (4 : Nat), (4 : Nat), (4 : Nat), (4 : Nat)] x.pk, HC.int IntKind.i64 x.ln, HC.int IntKind.i64 x.f, HC.int IntKind.i64 x.d0, HC.int IntKind.i64 x.d1, HC.int IntKind.i64 x.d2]]))) := by kernel_rfl
theorem vcPJoin (l ax q : List (List Int)) (ds f t : Int) (Q : Res → Prop) : (nfun true CPJoin Try.f7 (bodyOf Try.f7) [.ce (.sl false [4] l), .ce (.sl false [4] ax), .ce (.int .i64 ds), .ce (.int .i64 f), .ce (.int .i64 t), .ce (.sl false [4] q)] [] Q) =
    (True ∧ (∃ (x : Bool), x = true) ∧ ∀ (x : Bool), x = true → ((!x) = true → Q { val := HV.ce (HC.bool false), own := false, pars := [], news := [] }) ∧ ((!x) = false → (decide ((((List.length q) : Nat) : Int) > (20 : Int)) = true → Q { val := HV.ce (HC.bool true), own := false, pars := [], news := [] }) ∧ (decide ((((List.length q) : Nat) : Int) > (20 : Int)) = false → (List.length l ≤ (9223372036854775807 : Nat) ∧ List.length ax ≤ (9223372036854775807 : Nat)) ∧ (∃ (x : RunS), okRun x) ∧ ∀ (x : RunS), okRun x → ((((List.length q) : Nat) : Int) = (((List.length q) : Nat) : Int) ∧ (0 : Int) = (0 : Int) ∧ (0 : Int) = (0 : Int) ∧ (0 : Nat) = (0 : Nat) ∧ List.length q ≤ (20 : Nat) ∧ ∃ (x_1 : RunS), okRun x_1 ∧ [HC.int IntKind.i64 x.s0, HC.int IntKind.i64 x.s1, HC.int IntKind.i64 x.s2, HC.sl false [(4 : Nat), (4 : Nat), (4 : Nat), (4 : Nat), (4 : Nat), (4 : Nat), (4 : Nat)] x.sg, HC.sl false [(4 : Nat), (4 : Nat), (4 : Nat)] x.mks, HC.int IntKind.i64 x.a.st, HC.int IntKind.i64 x.a.sp, HC.int IntKind.i64 x.a.ac, HC.int IntKind.i64 x.a.je, HC.int IntKind.i64 (-16777216 : Int), HC.int IntKind.i64 (16777216 : Int), HC.int IntKind.i64 x.a.bl, HC.int IntKind.i64 x.a.og, HC.int IntKind.i64 x.a.sg, HC.sl false [(4 : Nat)] x.a.pit, HC.int IntKind.i64 x.b.st, HC.int IntKind.i64 x.b.sp, HC.int IntKind.i64 x.b.ac, HC.int IntKind.i64 x.b.je, HC.int IntKind.i64 (-16777216 : Int), HC.int IntKind.i64 (16777216 : Int), HC.int IntKind.i64 x.b.bl, HC.int IntKind.i64 x.b.og, HC.int IntKind.i64 x.b.sg, HC.sl false [(4 : Nat)] x.b.pit, HC.int IntKind.i64 x.c.st, HC.int IntKind.i64 x.c.sp, HC.int IntKind.i64 x.c.ac, HC.int IntKind.i64 x.c.je, HC.int IntKind.i64 (-16777216 : Int), HC.int IntKind.i64 (16777216 : Int), HC.int IntKind.i64 x.c.bl, HC.int IntKind.i64 x.c.og, HC.int IntKind.i64 x.c.sg, HC.sl false [(4 : Nat)] x.c.pit, HC.sl false [(4 : Nat), (4 : Nat), (4 : Nat), (4 : Nat), (4 : Nat), (4 : Nat), (4 : Nat), (4 : Nat), (4 : Nat), (4 : Nat)] x.pk, HC.int IntKind.i64 x.ln, HC.int IntKind.i64 x.f, HC.int IntKind.i64 x.d0, HC.int IntKind.i64 x.d1, HC.int IntKind.i64 x.d2] = runC x_1) ∧
    ∀ (x_1 : List (List Int) × Int), (∀ (x_2 : RunS), [HC.int IntKind.i64 x.s0, HC.int IntKind.i64 x.s1, HC.int IntKind.i64 x.s2, HC.sl false [(4 : Nat), (4 : Nat), (4 : Nat), (4 : Nat), (4 : Nat), (4 : Nat), (4 : Nat)] x.sg, HC.sl false [(4 : Nat), (4 : Nat), (4 : Nat)] x.mks, HC.int IntKind.i64 x.a.st, HC.int IntKind.i64 x.a.sp, HC.int IntKind.i64 x.a.ac, HC.int IntKind.i64 x.a.je, HC.int IntKind.i64 (-16777216 : Int), HC.int IntKind.i64 (16777216 : Int), HC.int IntKind.i64 x.a.bl, HC.int IntKind.i64 x.a.og, HC.int IntKind.i64 x.a.sg, HC.sl false [(4 : Nat)] x.a.pit, HC.int IntKind.i64 x.b.st, HC.int IntKind.i64 x.b.sp, HC.int IntKind.i64 x.b.ac, HC.int IntKind.i64 x.b.je, HC.int IntKind.i64 (-16777216 : Int), HC.int IntKind.i64 (16777216 : Int), HC.int IntKind.i64 x.b.bl, HC.int IntKind.i64 x.b.og, HC.int IntKind.i64 x.b.sg, HC.sl false [(4 : Nat)] x.b.pit, HC.int IntKind.i64 x.c.st, HC.int IntKind.i64 x.c.sp, HC.int IntKind.i64 x.c.ac, HC.int IntKind.i64 x.c.je, HC.int IntKind.i64 (-16777216 : Int), HC.int IntKind.i64 (16777216 : Int), HC.int IntKind.i64 x.c.bl, HC.int IntKind.i64 x.c.og, HC.int IntKind.i64 x.c.sg, HC.sl false [(4 : Nat)] x.c.pit, HC.sl false [(4 : Nat), (4 : Nat), (4 : Nat), (4 : Nat), (4 : Nat), (4 : Nat), (4 : Nat), (4 : Nat), (4 : Nat), (4 : Nat)] x.pk, HC.int IntKind.i64 x.ln, HC.int IntKind.i64 x.f, HC.int IntKind.i64 x.d0, HC.int IntKind.i64 x.d1, HC.int IntKind.i64 x.d2] = runC x_2 →
    ((0 : Int) ≤ x_1.2 ∧ x_1.2 ≤ x_2.ln) ∧ x_1.1 = plN (RunS.M0 x_2) (RunS.M1 x_2) (RunS.M2 x_2) (0 : Int) (Int.toNat x_1.2)) → ((okLen x.sg ∧ okPts x.s0 x.s1 x.s2 x.sg ∧ okTrk x.pk x.ln ∧ okMA x.a.st x.a.og x.a.sg x.a.pit x.a.bl ∧ okMA x.b.st x.b.og x.b.sg x.b.pit x.b.bl ∧ okMA x.c.st x.c.og x.c.sg x.c.pit x.c.bl ∧ (0 : Int) ≤ x.f ∧ x.f ≤ (18014398509481984 : Int)) ∧ x.ln ≤ (1099511627776 : Int)) ∧ (∃ (x_2 : List (List Int)), x_2 = plN (mtr x.a.st x.a.og x.a.sg x.a.pit x.a.bl x.s0 x.sg (0 : Nat) x.pk x.f x.d0) (mtr x.b.st x.b.og x.b.sg x.b.pit x.b.bl x.s1 x.sg (1 : Nat) x.pk x.f x.d1) (mtr x.c.st x.c.og x.c.sg x.c.pit x.c.bl x.s2 x.sg (2 : Nat) x.pk x.f x.d2) (clamp x.ln (0 : Int)) (Int.toNat (clamp x.ln x_1.2 - clamp x.ln (0 : Int)))) ∧ ∀ (x_2 : List (List Int)), x_2 = plN (mtr x.a.st x.a.og x.a.sg x.a.pit x.a.bl x.s0 x.sg (0 : Nat) x.pk x.f x.d0) (mtr x.b.st x.b.og x.b.sg x.b.pit x.b.bl x.s1 x.sg (1 : Nat) x.pk x.f x.d1) (mtr x.c.st x.c.og x.c.sg x.c.pit x.c.bl x.s2 x.sg (2 : Nat) x.pk x.f x.d2) (clamp x.ln (0 : Int)) (Int.toNat (clamp x.ln x_1.2 - clamp x.ln (0 : Int))) →
    (x_1.1 = x_2 ∧ List.length x_1.1 ≤ (9223372036854775807 : Nat)) ∧ ∀ (x6 : Bool), x6 = true → Q { val := HV.ce (HC.bool x6), own := false, pars := [], news := [] }))) := by kernel_rfl
end Go.Proofs.Ytneingpnkdeooaa
namespace Go.Proofs.Ytneingpnkdeooaa
open Go Go.HL U
theorem emod_bd {a n : Int} (h : 0 < n) : 0 ≤ a % n ∧ a % n < n := ⟨Int.emod_nonneg _ (by omega), Int.emod_lt_of_pos _ h⟩
theorem plN_split (M0 M1 M2 : Int → Int) (a : Int) (m : Nat) : ∀ k : Nat, plN M0 M1 M2 a (m + k) = plN M0 M1 M2 a m ++ plN M0 M1 M2 (a + (m : Int)) k
  | 0 => by simp [plN]
  | k + 1 => by
    show plN M0 M1 M2 a (m + k) ++ plAt M0 M1 M2 (a + ((m + k : Nat) : Int) + 1) = plN M0 M1 M2 a m ++ (plN M0 M1 M2 (a + (m : Int)) k ++ plAt M0 M1 M2 (a + (m : Int) + (k : Int) + 1))
    rw [plN_split M0 M1 M2 a m k, List.append_assoc, show a + ((m + k : Nat) : Int) + 1 = a + (m : Int) + (k : Int) + 1 by omega]
theorem okRun_ex : ∃ x, okRun x := by
  obtain ⟨a, ha⟩ := okAx_ex
  have hp : okPath 0 0 0 [] [] := ⟨by unfold b3; decide, okSegs_nil _ _ _, by decide, by decide⟩
  have h0 : (0 : Int) ≤ 0 ∧ 0 ≤ plen [] := by decide
  exact ⟨⟨0, 0, 0, [], [], a, a, a, 1, 1, 1, 0, 0, _, _⟩, hp, ha, ha, ha, ⟨.inl rfl, .inl rfl, .inl rfl⟩, h0, h0, rfl, rfl⟩
theorem okRun_ln0 {x : RunS} (h : okRun x) : 0 ≤ x.ln := (okRun_pre h).2.2.1.2.1.1
attribute [local irreducible] hfun bodyT fragT
theorem loopSameP : ∀ v Q, (LSameP v).wp Q → hloop CSameP anSameP (nthLoop Try.f23 0) v Q := by
  intro v Q h
  unfold LSameP at h
  split at h
  case h_2 => exact h.elim
  rename_i a b z n i
  obtain ⟨⟨h1, h2, h3, h4⟩, hq⟩ := h
  subst h1 h2 h3
  refine hloop_rec (σ := Nat) (fun k => ([.ce (.sl false [4, 4, 4] b), .ce (.sl false [4, 4, 4] b), .ce (.bool z), .ce (.int .i64 (b.length : Int)), .ce (.int .i64 (k : Int))], [])) (fun k => b.length - k) (fun k => k ≤ b.length) ?_ 0 (Nat.zero_le _)
  intro k hk K hn hx _
  refine byVB (vbSameP b.length k z b b K) ⟨fun g => ?_, fun g => hx _ _ hq⟩
  have g := of_decide_eq_true g
  refine ⟨by omega, by omega, fun e => ?_, fun _ => ⟨by omega, fun x1 e1 => ?_⟩⟩
  · simp at e
  · have e1 : x1 = ((k + 1 : Nat) : Int) := by omega
    rw [e1]
    exact hn (k + 1) (by omega) (by omega)
set_option maxHeartbeats 400000 in
set_option maxRecDepth 100000 in
theorem sSameP : Sound Try.prog 23 SSameP := by
  refine sound_of (C := CSameP) [] Try.func23 (by kernel_rfl) (by decide +kernel) (by kernel_rfl) rfl trivial (loops1 (by kernel_rfl) (loopOK_of (an := anSameP) (S := LSameP) (by kernel_rfl) loopSameP)) ?_
  intro hargs pars R h
  unfold SSameP at h
  split at h
  case h_2 => exfalso; exact h
  rename_i a b
  obtain ⟨⟨h1, h2⟩, hq⟩ := h
  subst h1
  exact byVC (vcSameP a a R) ⟨fun g => (by simp at g), fun _ => ⟨⟨rfl, rfl, rfl, h2⟩, hq⟩⟩
theorem loopPJoin : ∀ v Q, (LPJoin v).wp Q → hloop CPJoin anPJoin (nthLoop Try.f7 0) v Q := by
  intro v Q h
  unfold LPJoin at h
  split at h
  case h_2 => exact h.elim
  rename_i o p q n i rb
  obtain ⟨⟨h1, h2, h3, h4, h5, x, hx, h6⟩, hq⟩ := h
  subst h1 h2 h3
  obtain rfl := List.eq_nil_of_length_eq_zero h4
  have hln := okRun_ln hx
  have h0 := okRun_ln0 hx
  have hp := okRun_pre hx
  subst h6
  refine hloop_rec (σ := Nat × Nat) (fun y => ([.ce (.ptr 1000013 0), .ce (.sl false [4, 4, 4] (plN x.M0 x.M1 x.M2 0 y.1)), .ce (.lit true), .ce (.int .i64 (y.1 : Int)), .ce (.sl false [4] q), .ce (.int .i64 (q.length : Int)), .ce (.int .i64 (y.2 : Int))], [runC x])) (fun y => q.length - y.2) (fun y => y.2 ≤ q.length ∧ (y.1 : Int) ≤ x.ln) ?_ (0, 0) ⟨Nat.zero_le _, h0⟩
  rintro ⟨m, k⟩ ⟨hk, hm⟩ K hn hxx _
  dsimp only at hk hm hn ⊢
  refine byVB (vbPJoin m q.length k (plN x.M0 x.M1 x.M2 0 m) q x K) ⟨fun g => ?_, fun g => ?_⟩
  · have g := of_decide_eq_true g
    refine ⟨by omega, fun x1 e1 => ⟨by omega, fun x2 e2 => ⟨by omega, fun x3 e3 => ⟨by omega, fun x4 e4 => ?_⟩⟩⟩⟩
    have b4 := emod_bd (a := x1) (n := x3) (by omega)
    refine ⟨by omega, fun x5 e5 => ⟨⟨hp, hln⟩, ⟨_, rfl⟩, fun y ey => ?_⟩⟩
    rw [clamp_in (by omega : 0 ≤ (m : Int) ∧ (m : Int) ≤ x.ln), clamp_in (by omega : 0 ≤ x5 ∧ x5 ≤ x.ln)] at ey
    have ey : y = plN x.M0 x.M1 x.M2 (m : Int) (x5 - m).toNat := ey
    have ly := plN_len x.M0 x.M1 x.M2 (m : Int) (x5 - m).toNat
    have lm := plN_len x.M0 x.M1 x.M2 0 m
    rw [← ey] at ly
    refine ⟨⟨by omega, by unfold maxLen; omega⟩, by omega, fun x7 e7 => ?_⟩
    have sp := plN_split x.M0 x.M1 x.M2 0 m (x5 - m).toNat
    rw [Int.zero_add, ← ey] at sp
    rw [← sp, e7, show x5 = ((m + (x5 - m).toNat : Nat) : Int) by omega, show (((m + (x5 - m).toNat : Nat) : Int) - (m : Int)).toNat = (x5 - m).toNat by omega, show (k : Int) + 1 = ((k + 1 : Nat) : Int) by omega]
    exact hn (m + (x5 - m).toNat, k + 1) ⟨by omega, by dsimp only; omega⟩ (by dsimp only; omega)
  · refine hxx _ _ (hq (plN x.M0 x.M1 x.M2 0 m, (m : Int)) fun x' hx' => ?_)
    rw [runC_inj hx'.symm]
    exact ⟨⟨by dsimp only; omega, hm⟩, rfl⟩
set_option maxHeartbeats 400000 in
set_option maxRecDepth 100000 in
theorem sPJoin : Sound Try.prog 7 SPJoin := by
  refine sound_of (C := CPJoin) tabPJoin Try.func7 (by kernel_rfl) (by decide +kernel) (by kernel_rfl) rfl ⟨sAw30, sRun30, sMod, sBtw, sSameP, trivial⟩ (loops1 (by kernel_rfl) (loopOK_of (an := anPJoin) (S := LPJoin) (by kernel_rfl) loopPJoin)) ?_
  intro hargs pars R h
  unfold SPJoin at h
  split at h
  case h_2 => exfalso; exact h
  rename_i l ax ds f t q
  obtain ⟨⟨hl, hax⟩, hq⟩ := h
  refine byVC (vcPJoin l ax q ds f t R) ⟨trivial, ⟨true, rfl⟩, fun w ew => ⟨fun g => (by rw [ew] at g; cases g), fun _ => ⟨fun _ => hq, fun g => ⟨⟨hl, hax⟩, okRun_ex, fun x hx => ?_⟩⟩⟩⟩
  have g := of_decide_eq_false g
  have hln := okRun_ln hx
  have h0 := okRun_ln0 hx
  have hp := okRun_pre hx
  refine ⟨⟨rfl, rfl, rfl, rfl, by omega, x, hx, by unfold runC; rfl⟩, fun y hy => ⟨⟨hp, hln⟩, ⟨_, rfl⟩, fun z ez => ⟨?_, fun r er => (by rw [er]; exact hq)⟩⟩⟩
  obtain ⟨hb, he⟩ := hy x rfl
  rw [clamp_in (by omega : 0 ≤ (0 : Int) ∧ (0 : Int) ≤ x.ln), clamp_in hb, Int.sub_zero] at ez
  have lm := plN_len x.M0 x.M1 x.M2 0 y.2.toNat
  exact ⟨by rw [ez, he]; rfl, by rw [he]; omega⟩
end Go.Proofs.Ytneingpnkdeooaa
