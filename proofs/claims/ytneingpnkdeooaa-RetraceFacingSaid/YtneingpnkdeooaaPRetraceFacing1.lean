/-
  Part 1 of the texts that the law needs, merged: a value-level calculus of the code (HL), the contracts of the functions, and their proofs.
  Conditions: none.
-/
import Derived.Test.YtneingpnkdeooaaG6
set_option maxRecDepth 100000
set_option linter.unusedVariables false
set_option linter.unusedSimpArgs false
namespace Go.HL
open Go Go.ChangeShapes Go.WideShapes Go.ChangeAt Go.RowKit
def fieldsK (P : Program) (rec : TypeId → Option (List Nat)) : List Field → Nat → Option (List Nat)
  | [], _ => some []
  | fl :: r, off => match rec fl.type with
    | some a => bif Nat.beq fl.offset off && Nat.beq (P.cellsOf fl.type) a.length then (match fieldsK P rec r (off + a.length) with
      | some b => some (a ++ b)
      | none => none) else none
    | none => none
def repK : Nat → List Nat → List Nat
  | 0, _ => []
  | n + 1, a => a ++ repK n a
def kindsOf (P : Program) : Nat → TypeId → Option (List Nat)
  | 0, _ => none
  | f + 1, t => match P.underlying t with
    | some .bool => some [0]
    | some (.int k) => some [kcode k]
    | some (.struct fs) => match fieldsK P (kindsOf P f) fs.toList 0 with
      | some ks => bif Nat.beq ks.length (P.cellsOf t) then some ks else none
      | none => none
    | some (.array n e) => match kindsOf P f e with
      | some a => bif Nat.beq (P.cellsOf e) a.length && Nat.beq (P.cellsOf t) (n * a.length) then some (repK n a) else none
      | none => none
    | _ => none
def InK : Nat → Int → Prop
  | 0, n => n = 0 ∨ n = 1
  | k + 1, n => kLo (kk k) ≤ n ∧ n ≤ kHi (kk k)
def zipK : List Nat → List Int → List Value
  | k :: ks, n :: r => kval k n :: zipK ks r
  | _, _ => []
def AllIn : List Nat → List Int → Prop
  | k :: ks, n :: r => InK k n ∧ AllIn ks r
  | [], [] => True
  | _, _ => False
def Flat (ks : List Nat) (cs : List Value) : Prop := ∃ row, AllIn ks row ∧ cs = zipK ks row
theorem AllIn.len : ∀ {ks : List Nat} {row : List Int}, AllIn ks row → row.length = ks.length
  | [], [], _ => rfl
  | _ :: _, _ :: _, h => by simp [AllIn.len h.2]
  | [], _ :: _, h => h.elim
  | _ :: _, [], h => h.elim
theorem AllIn.append : ∀ {a b : List Nat} {r s : List Int}, AllIn a r → AllIn b s → AllIn (a ++ b) (r ++ s) ∧ zipK (a ++ b) (r ++ s) = zipK a r ++ zipK b s
  | [], b, [], s, _, h => ⟨h, rfl⟩
  | _ :: a, b, _ :: r, s, h, h' => by
    obtain ⟨h1, h2⟩ := AllIn.append (a := a) (r := r) h.2 h'
    exact ⟨⟨h.1, h1⟩, by simp [zipK, h2]⟩
  | [], _, _ :: _, _, h, _ => h.elim
  | _ :: _, _, [], _, h, _ => h.elim
theorem Flat.append {a b : List Nat} {cs ds : List Value} (h : Flat a cs) (h' : Flat b ds) : Flat (a ++ b) (cs ++ ds) := by
  obtain ⟨r, h1, rfl⟩ := h
  obtain ⟨s, h2, rfl⟩ := h'
  exact ⟨r ++ s, (AllIn.append h1 h2).1, (AllIn.append h1 h2).2.symm⟩
theorem zipK_get : ∀ {ks : List Nat} {row : List Int} {j : Nat}, AllIn ks row → j < ks.length → (zipK ks row)[j]? = some (kval (ks.getD j 0) (row.getD j 0)) ∧ InK (ks.getD j 0) (row.getD j 0)
  | _ :: _, _ :: _, 0, h, _ => ⟨rfl, h.1⟩
  | _ :: ks, _ :: r, j + 1, h, hj => by
    have := zipK_get (j := j) h.2 (by simpa using hj)
    simpa [zipK] using this
  | [], _, _, _, hj => by simp at hj
  | _ :: _, [], _, h, _ => h.elim
section
variable {H : Type} {enc : TypeId × Value → H} {P : Program} {w : World} {base : Nat} {spare : Nat → Bool} {held : Bool}
theorem wf_in {k : IntKind} {n : Int} (h : (Lit.int k n).wf = true) : InK (kcode k) n ∧ kval (kcode k) n = .int k n := by
  simp only [Lit.wf, Bool.and_eq_true, decide_eq_true_eq] at h
  cases k <;> simp [IntKind.min, IntKind.max, IntKind.signed, IntKind.bits] at h <;> exact ⟨by simp [InK, kcode, kk, kLo, kHi]; omega, rfl⟩
theorem fields_flat {rec : TypeId → Option (List Nat)} {cs : List Value} {n : Nat}
    (hrec : ∀ t ks, rec t = some ks → ∀ cs x, DataW.trod enc P w base spare held n t cs = some x → Flat ks cs) :
    ∀ (fs : List Field) (off : Nat) (ks : List Nat), fieldsK P rec fs off = some ks → off + ks.length = cs.length →
      (∀ f, f ∈ fs → ∃ x, DataW.trod enc P w base spare held n f.type ((cs.drop f.offset).take (P.cellsOf f.type)) = some x) → Flat ks (cs.drop off)
  | [], off, ks, h, hl, _ => by
    cases h
    have : cs.drop off = [] := List.drop_eq_nil_of_le (by simp at hl; omega)
    rw [this]
    exact ⟨[], trivial, rfl⟩
  | fl :: r, off, ks, h, hl, hf => by
    unfold fieldsK at h
    split at h
    case h_2 => cases h
    rename_i a ha
    cases hb : (Nat.beq fl.offset off && Nat.beq (P.cellsOf fl.type) a.length) with
    | false => rw [hb] at h; cases h
    | true =>
      rw [hb] at h
      simp only [cond_true] at h
      rw [Bool.and_eq_true] at hb
      have e1 := Nat.eq_of_beq_eq_true hb.1
      have e2 := Nat.eq_of_beq_eq_true hb.2
      split at h
      case h_2 => cases h
      rename_i b hbb
      cases h
      obtain ⟨x, hx⟩ := hf fl (List.mem_cons_self ..)
      rw [e1, e2] at hx
      have f1 := hrec _ _ ha _ _ hx
      have f2 := fields_flat hrec r (off + a.length) b hbb (by simp at hl; omega) (fun f hm => hf f (List.mem_cons_of_mem _ hm))
      have : cs.drop off = (cs.drop off).take a.length ++ cs.drop (off + a.length) := by
        rw [← List.drop_drop, List.take_append_drop]
      rw [this]
      exact f1.append f2
theorem elems_flat {a : List Nat} {cs : List Value} : ∀ (n i : Nat), i * a.length + n * a.length = cs.length → (∀ j, i ≤ j → j < i + n → Flat a ((cs.drop (j * a.length)).take a.length)) → Flat (repK n a) (cs.drop (i * a.length))
  | 0, i, hl, _ => by
    have : cs.drop (i * a.length) = [] := List.drop_eq_nil_of_le (by omega)
    rw [this]
    exact ⟨[], trivial, rfl⟩
  | n + 1, i, hl, h => by
    have e : (n + 1) * a.length = n * a.length + a.length := Nat.succ_mul _ _
    have e2 : (i + 1) * a.length = i * a.length + a.length := Nat.succ_mul _ _
    have f1 := h i (Nat.le_refl _) (by omega)
    have f2 := elems_flat n (i + 1) (by omega) (fun j h1 h2 => h j (by omega) (by omega))
    have : cs.drop (i * a.length) = (cs.drop (i * a.length)).take a.length ++ cs.drop ((i + 1) * a.length) := by
      rw [e2, ← List.drop_drop, List.take_append_drop]
    rw [this]
    exact f1.append f2
theorem trod_flat : ∀ (f : Nat) (t : TypeId) (ks : List Nat), kindsOf P f t = some ks → ∀ fuel cs x, DataW.trod enc P w base spare held fuel t cs = some x → Flat ks cs
  | 0, _, _, h, _, _, _, _ => by cases h
  | f + 1, t, ks, h, fuel, cs, x, hx => by
    unfold kindsOf at h
    split at h
    · rename_i ht
      cases h
      obtain ⟨b, rfl, _⟩ := DataW.trod_bool ht hx
      refine ⟨[if b then 1 else 0], ⟨by cases b <;> simp [InK], trivial⟩, ?_⟩
      cases b <;> rfl
    · rename_i k ht
      cases h
      obtain ⟨n, rfl, _, hw⟩ := DataW.trod_int ht hx
      exact ⟨[n], ⟨(wf_in hw).1, trivial⟩, by simp [zipK, (wf_in hw).2]⟩
    · rename_i fs ht
      obtain ⟨xs, n, _, _, hl, hxl, hf⟩ := DataW.trod_struct ht hx
      split at h
      case h_2 => cases h
      rename_i ks' hk
      cases hb : Nat.beq ks'.length (P.cellsOf t) with
      | false => rw [hb] at h; cases h
      | true =>
        rw [hb] at h
        cases h
        have e := Nat.eq_of_beq_eq_true hb
        have := fields_flat (cs := cs) (n := n) (fun t ks h cs x hx => trod_flat f t ks h n cs x hx) fs.toList 0 ks hk (by omega) (fun fl hm => by
          obtain ⟨i, hi, he⟩ := List.mem_iff_getElem.1 hm
          have hi' : i < fs.size := by simpa using hi
          have h1 := hf i fl (by rw [Array.getElem?_eq_getElem hi']; simp at he; rw [he])
          rw [List.getElem?_eq_getElem (by omega)] at h1
          exact ⟨_, h1⟩)
        simpa using this
    · rename_i n e ht
      obtain ⟨xs, m, _, _, hl, hxl, hf⟩ := DataW.trod_array ht hx
      split at h
      case h_2 => cases h
      rename_i a ha
      cases hb : (Nat.beq (P.cellsOf e) a.length && Nat.beq (P.cellsOf t) (n * a.length)) with
      | false => rw [hb] at h; cases h
      | true =>
        rw [hb] at h
        cases h
        rw [Bool.and_eq_true] at hb
        have e1 := Nat.eq_of_beq_eq_true hb.1
        have e2 := Nat.eq_of_beq_eq_true hb.2
        have := elems_flat (a := a) (cs := cs) n 0 (by omega) (fun j _ hj => by
          have h1 := hf j (by omega)
          rw [List.getElem?_eq_getElem (by omega), e1] at h1
          exact trod_flat f e a ha m _ _ h1)
        simpa using this
    · cases h
theorem cells_flat {ks : List Nat} {a : Addr} {cs : List Value} (h1 : ∀ i, i < ks.length → w.cell? (a.add i) = cs[i]?) (hf : Flat ks cs) :
    ∃ row : List Int, AllIn ks row ∧ ∀ j, j < ks.length → w.cell? (a.add j) = some (kval (ks.getD j 0) (row.getD j 0)) := by
  obtain ⟨row, hr, rfl⟩ := hf
  exact ⟨row, hr, fun j hj => by rw [h1 j hj]; exact (zipK_get hr hj).1⟩
theorem in_slice_sz {r : Reach} {b0 : Nat} {t e : TypeId} {ks : List Nat} {v : Value} {d : DataW H} {ps : List MemPlace} (ht : P.underlying t = some (.slice e)) (hk : kindsOf P 12 e = some ks) (hC : P.cellsOf e = ks.length) (hpos : 0 < ks.length)
    (hval : Value.okWide P w r b0 t v) (hd : DataW.Trod enc P w base (fun _ => true) held t v d ps) :
    ∃ rows : List (List Int), rows.length ≤ maxLen ∧ (∀ i, i < rows.length → AllIn ks (rows.getD i [])) ∧ VRel (G0 w) w none (.ce (.sl false ks rows)) v ∧
      ∀ R B : Nat, (∀ es sp, d = .slice es sp → (es.length + sp.length) * B ≤ R) → rows.length * B ≤ R := by
  obtain ⟨fuel, hd⟩ := hd
  obtain ⟨ad, len, cap, rfl⟩ := okWide_slice ht hval
  have hc : (Value.slice ad len cap).cells.toList = [.slice ad len cap] := by simp [Value.cells]
  rw [hc] at hd
  rcases DataW.trod_slice ht hd with ⟨he, _⟩ | ⟨a, len', cap', elems, rest, n, _, he, hxd, hb, hl, hm, hlen, hel, hsp, _⟩
  · simp at he
    obtain ⟨rfl, rfl, rfl⟩ := he
    exact ⟨[], Nat.zero_le _, fun i hi => by simp at hi, ⟨none, 0, rfl, Nat.le_refl _, Nat.zero_le _, .inl ⟨.inl rfl, rfl, rfl⟩⟩, fun R B _ => by simp⟩
  · simp at he
    obtain ⟨rfl, rfl, rfl⟩ := he
    obtain ⟨hrl, hrest⟩ := hsp rfl
    have hall : ∀ i, i < cap → ∃ row : List Int, AllIn ks row ∧ ∀ j, j < ks.length → w.cell? ((a.add (i * ks.length)).add j) = some (kval (ks.getD j 0) (row.getD j 0)) := by
      intro i hi
      have key : ∀ y, (w.cells? base (a.add (i * P.cellsOf e)) (P.cellsOf e)).bind (DataW.trod enc P w base (fun _ => true) held n e) = some y →
          ∃ row : List Int, AllIn ks row ∧ ∀ j, j < ks.length → w.cell? ((a.add (i * ks.length)).add j) = some (kval (ks.getD j 0) (row.getD j 0)) := by
        intro y hy
        rw [Option.bind_eq_some_iff] at hy
        obtain ⟨cs, h1, h2⟩ := hy
        obtain ⟨_, _, h3⟩ := World.cells?_some h1
        rw [hC] at h3
        exact cells_flat h3 (trod_flat 12 e ks hk n cs y h2)
      by_cases hi2 : i < len
      · have := hel i hi2
        rw [List.getElem?_eq_getElem (by omega)] at this
        exact key _ this
      · have := hrest (i - len) (by omega)
        rw [List.getElem?_eq_getElem (by omega), show len + (i - len) = i by omega] at this
        exact key _ this
    have hch : ∀ i, ∃ row : List Int, i < cap → AllIn ks row ∧ ∀ j, j < ks.length → w.cell? ((a.add (i * ks.length)).add j) = some (kval (ks.getD j 0) (row.getD j 0)) := by
      intro i
      by_cases hi : i < cap
      · obtain ⟨row, h⟩ := hall i hi; exact ⟨row, fun _ => h⟩
      · exact ⟨[], fun h => absurd h hi⟩
    obtain ⟨f, hrows⟩ : ∃ f : Nat → List Int, ∀ i, i < cap → AllIn ks (f i) ∧ ∀ j, j < ks.length → w.cell? ((a.add (i * ks.length)).add j) = some (kval (ks.getD j 0) ((f i).getD j 0)) :=
      ⟨fun i => Classical.choose (hch i), fun i => Classical.choose_spec (hch i)⟩
    clear hch
    refine ⟨(List.range len).map f, by simp; omega, fun i hi => ?_, ?_, fun R B hs => ?_⟩
    · simp at hi
      have : ((List.range len).map f).getD i [] = f i := by simp [List.getD_eq_getElem?_getD, hi]
      rw [this]
      exact (hrows i (by omega)).1
    · have hll : ((List.range len).map f).length = len := by simp
      refine ⟨some a, cap, by rw [hll], by rw [hll]; exact hl, hm, ?_⟩
      rw [hll]
      by_cases hc0 : cap = 0
      · exact .inl ⟨.inl rfl, by omega, hc0⟩
      · have h0 := (hrows 0 (by omega)).2 0 hpos
        have hx0 : (a.add (0 * ks.length)).add 0 = a := by simp [Addr.add]
        rw [hx0] at h0
        obtain ⟨hbk, hs⟩ := cell_lt h0
        have hx : a = at_ a.block a.off := by
          cases a with
          | mk b o s => dsimp only at hs; subst hs; rfl
        refine .inr ⟨a.block, a.off, by rw [← hx], fun i j hi hj => ⟨hbk, ?_⟩, fun _ e => nomatch e⟩
        have h1 := (hrows i (by omega)).2 j hj
        rw [hx, at_add, at_add, show a.off + i * ks.length + j = a.off + (i * ks.length + j) by omega] at h1
        have hg : ((List.range len).map f).getD i [] = f i := by simp [List.getD_eq_getElem?_getD, hi]
        rw [hg]
        exact h1
    · have := hs (elems.map (·.1)) (rest.map (·.1)) (congrArg Prod.fst hxd)
      simp only [List.length_map, List.length_range] at this ⊢
      rw [hlen, Nat.add_mul] at this
      omega
theorem in_slice {r : Reach} {b0 : Nat} {t e : TypeId} {ks : List Nat} {v : Value} {d : DataW H} {ps : List MemPlace} (ht : P.underlying t = some (.slice e)) (hk : kindsOf P 12 e = some ks) (hC : P.cellsOf e = ks.length) (hpos : 0 < ks.length)
    (hval : Value.okWide P w r b0 t v) (hd : DataW.Trod enc P w base (fun _ => true) held t v d ps) :
    ∃ rows : List (List Int), rows.length ≤ maxLen ∧ (∀ i, i < rows.length → AllIn ks (rows.getD i [])) ∧ VRel (G0 w) w none (.ce (.sl false ks rows)) v := by
  obtain ⟨rows, h1, h2, h3, _⟩ := in_slice_sz ht hk hC hpos hval hd
  exact ⟨rows, h1, h2, h3⟩
end
end Go.HL
namespace U
open Go
def tface (pk : List (List Int)) (d : Int) (c : Nat) (u : Int) : Int :=
  if tfind pk u < 0 then d else if ec pk (tfind pk u).toNat 3 ≠ 0 ∨ u = ec pk (tfind pk u).toNat 0 + ec pk (tfind pk u).toNat 1 then ec pk (tfind pk u).toNat (7 + c) else ec pk (tfind pk u).toNat (4 + c)
end U
namespace Go.Proofs.Ytneingpnkdeooaa
open Go Go.HL U
def SFace (hargs : List HV) (pars : List (List HC)) : SR :=
  match hargs, pars with
  | [.agg [.sl false [4, 4, 4, 4, 4, 4, 4, 4, 4, 4] pk, .int .i64 ln, .int .i64 sa, .int .i64 d0, .int .i64 d1, .int .i64 d2], .ce (.int .i64 u)], [] => .det (okTrk pk ln) ⟨.agg [.int .i64 (tface pk d0 0 (clamp ln u)), .int .i64 (tface pk d1 1 (clamp ln u)), .int .i64 (tface pk d2 2 (clamp ln u))], false, [], []⟩
  | _, _ => .fail
def anFace : LAnn := ⟨[1, 2, 4, 13, 14, 15], [2, 4], [1000002, 1000004], false⟩
def LFace (v : LV) : LR :=
  match v with
  | ([.ce (.int .i64 u), .ce (.ptr 1000002 0), .ce (.ptr 1000004 0), .ce (.sl false [4, 4, 4, 4, 4, 4, 4, 4, 4, 4] l), .ce (.int .i64 n), .ce (.int .i64 i)], [[.sl false [4, 4, 4, 4, 4, 4, 4, 4, 4, 4] pk, .int .i64 ln, .int .i64 sa, .int .i64 d0, .int .i64 d1, .int .i64 d2], [.int .i64 z0, .int .i64 z1, .int .i64 z2]]) =>
    .alts (n = (l.length : Int) ∧ i = 0 ∧ l = pk ∧ okTrk pk ln ∧ 0 ≤ u ∧ u ≤ ln)
      [(tfind pk u < 0, .exit 0, ([.ce (.ptr 1000002 0), .ce (.ptr 1000004 0)], [[.sl false [4, 4, 4, 4, 4, 4, 4, 4, 4, 4] pk, .int .i64 ln, .int .i64 sa, .int .i64 d0, .int .i64 d1, .int .i64 d2], [.int .i64 z0, .int .i64 z1, .int .i64 z2]])),
       (0 ≤ tfind pk u, .ret, ([.ce (.ptr 1000002 0), .ce (.ptr 1000004 0)], [[.sl false [4, 4, 4, 4, 4, 4, 4, 4, 4, 4] pk, .int .i64 ln, .int .i64 sa, .int .i64 d0, .int .i64 d1, .int .i64 d2], [.int .i64 (tface pk d0 0 u), .int .i64 (tface pk d1 1 u), .int .i64 (tface pk d2 2 u)]]))]
  | _ => .fail
noncomputable def CFace : Ctx := ⟨Try.prog, gam [], Try.f12.ntmps, [(3, anFace, LFace)], []⟩
theorem vbFace (u n i ln sa d0 d1 d2 z0 z1 z2 : Int) (l pk : List (List Int)) (K : HEx → LV → Prop) : (nbodyT true CFace anFace (nthLoop Try.f12 0) (([.ce (.int .i64 u), .ce (.ptr 1000002 0), .ce (.ptr 1000004 0), .ce (.sl false [4, 4, 4, 4, 4, 4, 4, 4, 4, 4] l), .ce (.int .i64 n), .ce (.int .i64 i)], [[.sl false [4, 4, 4, 4, 4, 4, 4, 4, 4, 4] pk, .int .i64 ln, .int .i64 sa, .int .i64 d0, .int .i64 d1, .int .i64 d2], [.int .i64 z0, .int .i64 z1, .int .i64 z2]])) K) =
    ((decide (i < n) = true → ((0 : Int) ≤ i ∧ i < (((List.length l) : Nat) : Int)) ∧ ((-9223372036854775808 : Int) ≤ el l (Int.toNat i) + ec l (Int.toNat i) ((1 : Nat)) ∧ el l (Int.toNat i) + ec l (Int.toNat i) ((1 : Nat)) ≤ (9223372036854775807 : Int)) ∧ ∀ (x1 : Int), x1 = el l (Int.toNat i) + ec l (Int.toNat i) ((1 : Nat)) → (decide (u > x1) = true → ((-9223372036854775808 : Int) ≤ i + (1 : Int) ∧ i + (1 : Int) ≤ (9223372036854775807 : Int)) ∧ ∀ (x2 : Int), x2 = i + (1 : Int) → K HEx.normal ([HV.ce (HC.int IntKind.i64 u), HV.ce (HC.ptr (1000002 : Nat) (0 : Nat)), HV.ce (HC.ptr (1000004 : Nat) (0 : Nat)), HV.ce (HC.sl false [(4 : Nat), (4 : Nat), (4 : Nat), (4 : Nat), (4 : Nat), (4 : Nat), (4 : Nat), (4 : Nat), (4 : Nat), (4 : Nat)] l), HV.ce (HC.int IntKind.i64 n), HV.ce (HC.int IntKind.i64 x2)], [[HC.sl false [(4 : Nat), (4 : Nat), (4 : Nat), (4 : Nat), (4 : Nat), (4 : Nat), (4 : Nat), (4 : Nat), (4 : Nat), (4 : Nat)] pk, HC.int IntKind.i64 ln, HC.int IntKind.i64 sa, HC.int IntKind.i64 d0, HC.int IntKind.i64 d1, HC.int IntKind.i64 d2], [HC.int IntKind.i64 z0, HC.int IntKind.i64 z1, HC.int IntKind.i64 z2]])) ∧
    (decide (u > x1) = false → ((ec l (Int.toNat i) ((3 : Nat)) != (0 : Int)) = true → K HEx.ret ([HV.ce (HC.ptr (1000002 : Nat) (0 : Nat)), HV.ce (HC.ptr (1000004 : Nat) (0 : Nat))], [[HC.sl false [(4 : Nat), (4 : Nat), (4 : Nat), (4 : Nat), (4 : Nat), (4 : Nat), (4 : Nat), (4 : Nat), (4 : Nat), (4 : Nat)] pk, HC.int IntKind.i64 ln, HC.int IntKind.i64 sa, HC.int IntKind.i64 d0, HC.int IntKind.i64 d1, HC.int IntKind.i64 d2], [HC.int IntKind.i64 (ec l (Int.toNat i) ((7 : Nat))), HC.int IntKind.i64 (ec l (Int.toNat i) ((8 : Nat))), HC.int IntKind.i64 (ec l (Int.toNat i) ((9 : Nat)))]])) ∧ ((ec l (Int.toNat i) ((3 : Nat)) != (0 : Int)) = false → ((-9223372036854775808 : Int) ≤ el l (Int.toNat i) + ec l (Int.toNat i) ((1 : Nat)) ∧ el l (Int.toNat i) + ec l (Int.toNat i) ((1 : Nat)) ≤ (9223372036854775807 : Int)) ∧ ∀ (x3 : Int), x3 = el l (Int.toNat i) + ec l (Int.toNat i) ((1 : Nat)) → ((u == x3) = true →
    K HEx.ret ([HV.ce (HC.ptr (1000002 : Nat) (0 : Nat)), HV.ce (HC.ptr (1000004 : Nat) (0 : Nat))], [[HC.sl false [(4 : Nat), (4 : Nat), (4 : Nat), (4 : Nat), (4 : Nat), (4 : Nat), (4 : Nat), (4 : Nat), (4 : Nat), (4 : Nat)] pk, HC.int IntKind.i64 ln, HC.int IntKind.i64 sa, HC.int IntKind.i64 d0, HC.int IntKind.i64 d1, HC.int IntKind.i64 d2], [HC.int IntKind.i64 (ec l (Int.toNat i) ((7 : Nat))), HC.int IntKind.i64 (ec l (Int.toNat i) ((8 : Nat))), HC.int IntKind.i64 (ec l (Int.toNat i) ((9 : Nat)))]])) ∧ ((u == x3) = false → K HEx.ret ([HV.ce (HC.ptr (1000002 : Nat) (0 : Nat)), HV.ce (HC.ptr (1000004 : Nat) (0 : Nat))], [[HC.sl false [(4 : Nat), (4 : Nat), (4 : Nat), (4 : Nat), (4 : Nat), (4 : Nat), (4 : Nat), (4 : Nat), (4 : Nat), (4 : Nat)] pk, HC.int IntKind.i64 ln, HC.int IntKind.i64 sa, HC.int IntKind.i64 d0, HC.int IntKind.i64 d1, HC.int IntKind.i64 d2], [HC.int IntKind.i64 (ec l (Int.toNat i) ((4 : Nat))), HC.int IntKind.i64 (ec l (Int.toNat i) ((5 : Nat))), HC.int IntKind.i64 (ec l (Int.toNat i) ((6 : Nat)))]]))))) ∧
    (decide (i < n) = false → K (HEx.exit (0 : Nat)) ([HV.ce (HC.ptr (1000002 : Nat) (0 : Nat)), HV.ce (HC.ptr (1000004 : Nat) (0 : Nat))], [[HC.sl false [(4 : Nat), (4 : Nat), (4 : Nat), (4 : Nat), (4 : Nat), (4 : Nat), (4 : Nat), (4 : Nat), (4 : Nat), (4 : Nat)] pk, HC.int IntKind.i64 ln, HC.int IntKind.i64 sa, HC.int IntKind.i64 d0, HC.int IntKind.i64 d1, HC.int IntKind.i64 d2], [HC.int IntKind.i64 z0, HC.int IntKind.i64 z1, HC.int IntKind.i64 z2]]))) := by kernel_rfl
theorem vcFace (u ln sa d0 d1 d2 : Int) (pk : List (List Int)) (Q : Res → Prop) : (nfun true CFace Try.f12 (bodyOf Try.f12) [.agg [.sl false [4, 4, 4, 4, 4, 4, 4, 4, 4, 4] pk, .int .i64 ln, .int .i64 sa, .int .i64 d0, .int .i64 d1, .int .i64 d2], .ce (.int .i64 u)] [] Q) =
    (∀ (x1 : Int), x1 = min u ln → ∀ (x2 : Int), x2 = max (0 : Int) x1 → ((((List.length pk) : Nat) : Int) = (((List.length pk) : Nat) : Int) ∧ (0 : Int) = (0 : Int) ∧ pk = pk ∧ okTrk pk ln ∧ (0 : Int) ≤ x2 ∧ x2 ≤ ln) ∧ (tfind pk x2 < (0 : Int) → Q { val := HV.agg [HC.int IntKind.i64 d0, HC.int IntKind.i64 d1, HC.int IntKind.i64 d2], own := false, pars := [], news := [] }) ∧ ((0 : Int) ≤ tfind pk x2 → Q { val := HV.agg [HC.int IntKind.i64 (tface pk d0 (0 : Nat) x2), HC.int IntKind.i64 (tface pk d1 (1 : Nat) x2), HC.int IntKind.i64 (tface pk d2 (2 : Nat) x2)], own := false, pars := [], news := [] })) := by kernel_rfl
def SPieceR (hargs : List HV) (pars : List (List HC)) : SR :=
  match hargs, pars with
  | [.agg [.sl false [4, 4, 4, 4, 4, 4, 4, 4, 4, 4] pk, .int .i64 ln, .int .i64 sa, .int .i64 d0, .int .i64 d1, .int .i64 d2], .ce (.int .i64 u)], [] => .det (okTrk pk ln) ⟨.tup [.ce (.int .i64 (tfind pk (clamp ln u))), .ce (.int .i64 (clamp ln u))], false, [], []⟩
  | _, _ => .fail
def anPieceR : LAnn := ⟨[1, 2, 4, 5, 14, 15, 16], [1, 2, 4, 5], [1000002], false⟩
def LPieceR (v : LV) : LR :=
  match v with
  | ([.ce (.int .i64 u), .ce (.ptr 1000002 0), .ce (.int .i64 z), .ce (.int .i64 y), .ce (.sl false [4, 4, 4, 4, 4, 4, 4, 4, 4, 4] l), .ce (.int .i64 n), .ce (.int .i64 i)], [[.sl false [4, 4, 4, 4, 4, 4, 4, 4, 4, 4] pk, .int .i64 ln, .int .i64 sa, .int .i64 d0, .int .i64 d1, .int .i64 d2]]) =>
    .alts (n = (l.length : Int) ∧ i = 0 ∧ l = pk ∧ okTrk pk ln ∧ 0 ≤ u ∧ u ≤ ln)
      [(tfind pk u = -1, .exit 0, ([.ce (.int .i64 u), .ce (.ptr 1000002 0), .ce (.int .i64 z), .ce (.int .i64 y)], [[.sl false [4, 4, 4, 4, 4, 4, 4, 4, 4, 4] pk, .int .i64 ln, .int .i64 sa, .int .i64 d0, .int .i64 d1, .int .i64 d2]])),
       (0 ≤ tfind pk u, .ret, ([.ce (.int .i64 u), .ce (.ptr 1000002 0), .ce (.int .i64 (tfind pk u)), .ce (.int .i64 u)], [[.sl false [4, 4, 4, 4, 4, 4, 4, 4, 4, 4] pk, .int .i64 ln, .int .i64 sa, .int .i64 d0, .int .i64 d1, .int .i64 d2]]))]
  | _ => .fail
noncomputable def CPieceR : Ctx := ⟨Try.prog, gam [], Try.f30.ntmps, [(3, anPieceR, LPieceR)], []⟩
theorem vbPieceR (u z y n i ln sa d0 d1 d2 : Int) (l pk : List (List Int)) (K : HEx → LV → Prop) : (nbodyT true CPieceR anPieceR (nthLoop Try.f30 0) (([.ce (.int .i64 u), .ce (.ptr 1000002 0), .ce (.int .i64 z), .ce (.int .i64 y), .ce (.sl false [4, 4, 4, 4, 4, 4, 4, 4, 4, 4] l), .ce (.int .i64 n), .ce (.int .i64 i)], [[.sl false [4, 4, 4, 4, 4, 4, 4, 4, 4, 4] pk, .int .i64 ln, .int .i64 sa, .int .i64 d0, .int .i64 d1, .int .i64 d2]])) K) =
    ((decide (i < n) = true → ((0 : Int) ≤ i ∧ i < (((List.length l) : Nat) : Int)) ∧ ((-9223372036854775808 : Int) ≤ el l (Int.toNat i) + ec l (Int.toNat i) ((1 : Nat)) ∧ el l (Int.toNat i) + ec l (Int.toNat i) ((1 : Nat)) ≤ (9223372036854775807 : Int)) ∧ ∀ (x1 : Int), x1 = el l (Int.toNat i) + ec l (Int.toNat i) ((1 : Nat)) → (decide (u ≤ x1) = true → K HEx.ret ([HV.ce (HC.int IntKind.i64 u), HV.ce (HC.ptr (1000002 : Nat) (0 : Nat)), HV.ce (HC.int IntKind.i64 i), HV.ce (HC.int IntKind.i64 u)], [[HC.sl false [(4 : Nat), (4 : Nat), (4 : Nat), (4 : Nat), (4 : Nat), (4 : Nat), (4 : Nat), (4 : Nat), (4 : Nat), (4 : Nat)] pk, HC.int IntKind.i64 ln, HC.int IntKind.i64 sa, HC.int IntKind.i64 d0, HC.int IntKind.i64 d1, HC.int IntKind.i64 d2]])) ∧ (decide (u ≤ x1) = false → ((-9223372036854775808 : Int) ≤ i + (1 : Int) ∧ i + (1 : Int) ≤ (9223372036854775807 : Int)) ∧ ∀ (x2 : Int), x2 = i + (1 : Int) →
    K HEx.normal ([HV.ce (HC.int IntKind.i64 u), HV.ce (HC.ptr (1000002 : Nat) (0 : Nat)), HV.ce (HC.int IntKind.i64 z), HV.ce (HC.int IntKind.i64 y), HV.ce (HC.sl false [(4 : Nat), (4 : Nat), (4 : Nat), (4 : Nat), (4 : Nat), (4 : Nat), (4 : Nat), (4 : Nat), (4 : Nat), (4 : Nat)] l), HV.ce (HC.int IntKind.i64 n), HV.ce (HC.int IntKind.i64 x2)], [[HC.sl false [(4 : Nat), (4 : Nat), (4 : Nat), (4 : Nat), (4 : Nat), (4 : Nat), (4 : Nat), (4 : Nat), (4 : Nat), (4 : Nat)] pk, HC.int IntKind.i64 ln, HC.int IntKind.i64 sa, HC.int IntKind.i64 d0, HC.int IntKind.i64 d1, HC.int IntKind.i64 d2]]))) ∧ (decide (i < n) = false → K (HEx.exit (0 : Nat)) ([HV.ce (HC.int IntKind.i64 u), HV.ce (HC.ptr (1000002 : Nat) (0 : Nat)), HV.ce (HC.int IntKind.i64 z), HV.ce (HC.int IntKind.i64 y)], [[HC.sl false [(4 : Nat), (4 : Nat), (4 : Nat), (4 : Nat), (4 : Nat), (4 : Nat), (4 : Nat), (4 : Nat), (4 : Nat), (4 : Nat)] pk, HC.int IntKind.i64 ln, HC.int IntKind.i64 sa, HC.int IntKind.i64 d0, HC.int IntKind.i64 d1, HC.int IntKind.i64 d2]]))) := by kernel_rfl
theorem vcPieceR (u ln sa d0 d1 d2 : Int) (pk : List (List Int)) (Q : Res → Prop) : (nfun true CPieceR Try.f30 (bodyOf Try.f30) [.agg [.sl false [4, 4, 4, 4, 4, 4, 4, 4, 4, 4] pk, .int .i64 ln, .int .i64 sa, .int .i64 d0, .int .i64 d1, .int .i64 d2], .ce (.int .i64 u)] [] Q) =
    (∀ (x1 : Int), x1 = max u (0 : Int) → ∀ (x2 : Int), x2 = min x1 ln → ((((List.length pk) : Nat) : Int) = (((List.length pk) : Nat) : Int) ∧ (0 : Int) = (0 : Int) ∧ pk = pk ∧ okTrk pk ln ∧ (0 : Int) ≤ x2 ∧ x2 ≤ ln) ∧ (tfind pk x2 = (-1 : Int) → Q { val := HV.tup [H0.ce (HC.int IntKind.i64 (-1 : Int)), H0.ce (HC.int IntKind.i64 x2)], own := false, pars := [], news := [] }) ∧ ((0 : Int) ≤ tfind pk x2 → Q { val := HV.tup [H0.ce (HC.int IntKind.i64 (tfind pk x2)), H0.ce (HC.int IntKind.i64 x2)], own := false, pars := [], news := [] })) := by kernel_rfl
def tabFaceR : List (FuncId × HL.Spec) := [(30, SPieceR)]
noncomputable def CFaceR : Ctx := ⟨Try.prog, gam tabFaceR, Try.f13.ntmps, [], []⟩
theorem vcFaceR (u ln sa d0 d1 d2 : Int) (pk : List (List Int)) (Q : Res → Prop) : (nfun true CFaceR Try.f13 (bodyOf Try.f13) [.agg [.sl false [4, 4, 4, 4, 4, 4, 4, 4, 4, 4] pk, .int .i64 ln, .int .i64 sa, .int .i64 d0, .int .i64 d1, .int .i64 d2], .ce (.int .i64 u)] [] Q) =
    (okTrk pk ln ∧ ∀ (x1 : Int), x1 = tfind pk (clamp ln u) → ∀ (x2 : Int), x2 = clamp ln u → (decide (x1 < (0 : Int)) = true → Q { val := HV.agg [HC.int IntKind.i64 d0, HC.int IntKind.i64 d1, HC.int IntKind.i64 d2], own := false, pars := [], news := [] }) ∧ (decide (x1 < (0 : Int)) = false → ((0 : Int) ≤ x1 ∧ x1 < (((List.length pk) : Nat) : Int)) ∧ ((ec pk (Int.toNat x1) ((3 : Nat)) != (0 : Int)) = true → Q { val := HV.agg [HC.int IntKind.i64 (ec pk (Int.toNat x1) ((7 : Nat))), HC.int IntKind.i64 (ec pk (Int.toNat x1) ((8 : Nat))), HC.int IntKind.i64 (ec pk (Int.toNat x1) ((9 : Nat)))], own := false, pars := [], news := [] }) ∧ ((ec pk (Int.toNat x1) ((3 : Nat)) != (0 : Int)) = false → ((-9223372036854775808 : Int) ≤ el pk (Int.toNat x1) + ec pk (Int.toNat x1) ((1 : Nat)) ∧ el pk (Int.toNat x1) + ec pk (Int.toNat x1) ((1 : Nat)) ≤ (9223372036854775807 : Int)) ∧ ∀ (x3 : Int), x3 = el pk (Int.toNat x1) + ec pk (Int.toNat x1) ((1 : Nat)) →
    ((x2 == x3) = true → Q { val := HV.agg [HC.int IntKind.i64 (ec pk (Int.toNat x1) ((7 : Nat))), HC.int IntKind.i64 (ec pk (Int.toNat x1) ((8 : Nat))), HC.int IntKind.i64 (ec pk (Int.toNat x1) ((9 : Nat)))], own := false, pars := [], news := [] }) ∧ ((x2 == x3) = false → Q { val := HV.agg [HC.int IntKind.i64 (ec pk (Int.toNat x1) ((4 : Nat))), HC.int IntKind.i64 (ec pk (Int.toNat x1) ((5 : Nat))), HC.int IntKind.i64 (ec pk (Int.toNat x1) ((6 : Nat)))], own := false, pars := [], news := [] })))) := by kernel_rfl
def SRFace (hargs : List HV) (pars : List (List HC)) : SR :=
  match hargs, pars with
  | [.ce (.sl false [4] l), .ce (.sl false [4] ax), .ce (.int .i64 ds), .ce (.int .i64 f), .ce (.int .i64 t), .ce (.int .i64 u)], [] => .det (l.length ≤ 9223372036854775807 ∧ ax.length ≤ 9223372036854775807) okR
  | _, _ => .fail
def tabRFace : List (FuncId × HL.Spec) := [(9, SAwake), (10, SRun), (11, SMod), (12, SFace), (13, SFace)]
noncomputable def CRFace : Ctx := ⟨Try.prog, gam tabRFace, Try.f3.ntmps, [(4000005, ⟨[], [5], [1000013], true⟩, fun _ => .fail)], []⟩
theorem vcRFace (l ax : List (List Int)) (ds f t u : Int) (Q : Res → Prop) : (nfun true CRFace Try.f3 (bodyOf Try.f3) [.ce (.sl false [4] l), .ce (.sl false [4] ax), .ce (.int .i64 ds), .ce (.int .i64 f), .ce (.int .i64 t), .ce (.int .i64 u)] [] Q) =
    (True ∧ ∀ (x1 : Bool), x1 = true → ((!x1) = true → Q { val := HV.ce (HC.bool false), own := false, pars := [], news := [] }) ∧ ((!x1) = false → (List.length l ≤ (9223372036854775807 : Nat) ∧ List.length ax ≤ (9223372036854775807 : Nat)) ∧ (∃ (x : RunS), okRun x) ∧ ∀ (x : RunS), okRun x → ((-9223372036854775808 : Int) ≤ x.ln + (1 : Int) ∧ x.ln + (1 : Int) ≤ (9223372036854775807 : Int)) ∧ ∀ (x3 : Int), x3 = x.ln + (1 : Int) → ((0 : Int) < x3 ∧ x3 ≤ (4611686018427387904 : Int)) ∧ ∀ (x4 : Int), x4 = u % x3 → okTrk x.pk x.ln ∧ ∀ (x5 : Int), x5 = tface x.pk x.d0 (0 : Nat) (clamp x.ln u) → ∀ (x6 : Int), x6 = tface x.pk x.d1 (1 : Nat) (clamp x.ln u) → ∀ (x7 : Int), x7 = tface x.pk x.d2 (2 : Nat) (clamp x.ln u) → okTrk x.pk x.ln ∧ ∀ (x8 : Int), x8 = tface x.pk x.d0 (0 : Nat) (clamp x.ln u) → ∀ (x9 : Int), x9 = tface x.pk x.d1 (1 : Nat) (clamp x.ln u) → ∀ (x10 : Int), x10 = tface x.pk x.d2 (2 : Nat) (clamp x.ln u) →
    ((!(x5 == x8 && (x6 == x9 && (x7 == x10 && true)))) = true → Q { val := HV.ce (HC.bool false), own := false, pars := [], news := [] }) ∧ ((!(x5 == x8 && (x6 == x9 && (x7 == x10 && true)))) = false → okTrk x.pk x.ln ∧ ∀ (x11 : Int), x11 = tface x.pk x.d0 (0 : Nat) (clamp x.ln x4) → ∀ (x12 : Int), x12 = tface x.pk x.d1 (1 : Nat) (clamp x.ln x4) → ∀ (x13 : Int), x13 = tface x.pk x.d2 (2 : Nat) (clamp x.ln x4) → okTrk x.pk x.ln ∧ ∀ (x14 : Int), x14 = tface x.pk x.d0 (0 : Nat) (clamp x.ln x4) → ∀ (x15 : Int), x15 = tface x.pk x.d1 (1 : Nat) (clamp x.ln x4) → ∀ (x16 : Int), x16 = tface x.pk x.d2 (2 : Nat) (clamp x.ln x4) → ((!(x11 == x14 && (x12 == x15 && (x13 == x16 && true)))) = true → Q { val := HV.ce (HC.bool false), own := false, pars := [], news := [] }) ∧ ((!(x11 == x14 && (x12 == x15 && (x13 == x16 && true)))) = false → okTrk x.pk x.ln ∧ ∀ (x17 : Int), x17 = tface x.pk x.d0 (0 : Nat) (clamp x.ln (0 : Int)) →
    ∀ (x18 : Int), x18 = tface x.pk x.d1 (1 : Nat) (clamp x.ln (0 : Int)) → ∀ (x19 : Int), x19 = tface x.pk x.d2 (2 : Nat) (clamp x.ln (0 : Int)) → okTrk x.pk x.ln ∧ ∀ (x20 : Int), x20 = tface x.pk x.d0 (0 : Nat) (clamp x.ln (0 : Int)) → ∀ (x21 : Int), x21 = tface x.pk x.d1 (1 : Nat) (clamp x.ln (0 : Int)) → ∀ (x22 : Int), x22 = tface x.pk x.d2 (2 : Nat) (clamp x.ln (0 : Int)) → ((!(x17 == x20 && (x18 == x21 && (x19 == x22 && true)))) = true → Q { val := HV.ce (HC.bool false), own := false, pars := [], news := [] }) ∧ ((!(x17 == x20 && (x18 == x21 && (x19 == x22 && true)))) = false → okTrk x.pk x.ln ∧ ∀ (x23 : Int), x23 = tface x.pk x.d0 (0 : Nat) (clamp x.ln x.ln) → ∀ (x24 : Int), x24 = tface x.pk x.d1 (1 : Nat) (clamp x.ln x.ln) → ∀ (x25 : Int), x25 = tface x.pk x.d2 (2 : Nat) (clamp x.ln x.ln) → okTrk x.pk x.ln ∧ ∀ (x26 : Int), x26 = tface x.pk x.d0 (0 : Nat) (clamp x.ln x.ln) → ∀ (x27 : Int), x27 = tface x.pk x.d1 (1 : Nat) (clamp x.ln x.ln) →
    ∀ (x28 : Int), x28 = tface x.pk x.d2 (2 : Nat) (clamp x.ln x.ln) → ((!(x23 == x26 && (x24 == x27 && (x25 == x28 && true)))) = true → Q { val := HV.ce (HC.bool false), own := false, pars := [], news := [] }) ∧ ((!(x23 == x26 && (x24 == x27 && (x25 == x28 && true)))) = false → Q { val := HV.ce (HC.bool true), own := false, pars := [], news := [] })))))) := by kernel_rfl
end Go.Proofs.Ytneingpnkdeooaa
namespace Go.Proofs.Ytneingpnkdeooaa
open Go Go.HL U
theorem okRun_ex : ∃ x, okRun x := by
  obtain ⟨a, ha⟩ := okAx_ex
  have hp : okPath 0 0 0 [] [] := ⟨by unfold b3; decide, okSegs_nil _ _ _, by decide, by decide⟩
  have h0 : (0 : Int) ≤ 0 ∧ 0 ≤ plen [] := by decide
  exact ⟨⟨0, 0, 0, [], [], a, a, a, 1, 1, 1, 0, 0, _, _⟩, hp, ha, ha, ha, ⟨.inl rfl, .inl rfl, .inl rfl⟩, h0, h0, rfl, rfl⟩
theorem okRun_ln0 {x : RunS} (h : okRun x) : 0 ≤ x.ln := (okRun_pre h).2.2.1.2.1.1
attribute [local irreducible] hfun bodyT fragT
theorem tface_of {pk : List (List Int)} {u : Int} {j : Nat} (h : tfind pk u = j) (d : Int) (c : Nat) :
    tface pk d c u = if ec pk j 3 ≠ 0 ∨ u = ec pk j 0 + ec pk j 1 then ec pk j (7 + c) else ec pk j (4 + c) := by
  unfold tface
  rw [h, if_neg (by omega)]
  rfl
theorem loopFace : ∀ v Q, (LFace v).wp Q → hloop CFace anFace (nthLoop Try.f12 0) v Q := by
  intro v Q h
  unfold LFace at h
  split at h
  case h_2 => exact h.elim
  rename_i u l n i pk ln sa d0 d1 d2 z0 z1 z2
  obtain ⟨⟨h1, h2, h3, h4, h5, h6⟩, q0, q1⟩ := h
  subst h1 h2 h3
  refine hloop_rec (σ := Nat) (fun k => ([.ce (.int .i64 u), .ce (.ptr 1000002 0), .ce (.ptr 1000004 0), .ce (.sl false [4, 4, 4, 4, 4, 4, 4, 4, 4, 4] l), .ce (.int .i64 (l.length : Int)), .ce (.int .i64 (k : Int))], [[.sl false [4, 4, 4, 4, 4, 4, 4, 4, 4, 4] l, .int .i64 ln, .int .i64 sa, .int .i64 d0, .int .i64 d1, .int .i64 d2], [.int .i64 z0, .int .i64 z1, .int .i64 z2]]))
    (fun k => l.length - k) (fun k => k ≤ l.length ∧ ∀ j, j < k → endp l j < u) ?_ 0 ⟨Nat.zero_le _, fun j hj => by omega⟩
  rintro k ⟨hk, hk2⟩ K hn hx hr
  refine byVB (vbFace u l.length k ln sa d0 d1 d2 z0 z1 z2 l l K) ⟨fun g => ?_, fun g => ?_⟩
  · have g := of_decide_eq_true g
    have hkl : k < l.length := by omega
    have ht : Int.toNat (k : Int) = k := rfl
    rw [ht]
    have ab := at_bd h4 hkl
    have lnb := h4.2.1
    have hll := h4.1
    have ee : endp l k = el l k + ec l k 1 := rfl
    refine ⟨by omega, by omega, fun x1 e1 => ⟨fun g1 => ⟨by omega, fun x2 e2 => ?_⟩, fun g1 => ?_⟩⟩
    · have g1 := of_decide_eq_true g1
      rw [show x2 = ((k + 1 : Nat) : Int) by omega]
      refine hn (k + 1) ⟨hkl, fun j hj => ?_⟩ (by omega)
      by_cases hjk : j < k
      · exact hk2 j hjk
      · have : j = k := by omega
        subst this; omega
    · have g1 := of_decide_eq_false g1
      have hf : tfind l u = k := tfind_of hkl (by omega) hk2
      have q := q1 (by omega)
      rw [tface_of hf, tface_of hf, tface_of hf] at q
      refine ⟨fun g3 => ?_, fun g3 => ⟨by omega, fun x3 e3 => ⟨fun g4 => ?_, fun g4 => ?_⟩⟩⟩
      · have g3 : ec l k 3 ≠ 0 := by simpa using g3
        rw [if_pos (.inl g3), if_pos (.inl g3), if_pos (.inl g3)] at q
        exact hr _ q
      · have g4 : u = ec l k 0 + ec l k 1 := by
          have : u = x3 := by simpa using g4
          rw [this, e3]; rfl
        rw [if_pos (.inr g4), if_pos (.inr g4), if_pos (.inr g4)] at q
        exact hr _ q
      · have g3 : ¬ ec l k 3 ≠ 0 := by simpa using g3
        have g4 : ¬ u = ec l k 0 + ec l k 1 := by
          have : ¬ u = x3 := by simpa using g4
          rw [e3] at this; exact this
        have g5 : ¬ (ec l k 3 ≠ 0 ∨ u = ec l k 0 + ec l k 1) := fun h => h.elim g3 g4
        rw [if_neg g5, if_neg g5, if_neg g5] at q
        exact hr _ q
  · have g := of_decide_eq_false g
    refine hx _ _ (q0 ?_)
    rcases tfind_spec h4 h6 with ⟨_, e⟩ | ⟨j, j1, j2, j3, _⟩
    · omega
    · have := hk2 j (by omega)
      omega
set_option maxHeartbeats 400000 in
set_option maxRecDepth 100000 in
theorem sFace : Sound Try.prog 12 SFace := by
  refine sound_of (C := CFace) [] Try.func12 (by kernel_rfl) (by decide +kernel) (by kernel_rfl) rfl trivial (loops1 (by kernel_rfl) (loopOK_of (an := anFace) (S := LFace) (by kernel_rfl) loopFace)) ?_
  intro hargs pars R h
  unfold SFace at h
  split at h
  case h_2 => exfalso; exact h
  rename_i pk ln sa d0 d1 d2 u
  obtain ⟨ht, hq⟩ := h
  have hl := ht.2.1
  refine byVC (vcFace u ln sa d0 d1 d2 pk R) (fun x1 e1 x2 e2 => ?_)
  have e : clamp ln u = x2 := by unfold clamp; omega
  rw [e] at hq
  refine ⟨⟨rfl, rfl, rfl, ht, by omega, by omega⟩, fun g => ?_, fun _ => hq⟩
  unfold tface at hq
  rw [if_pos g, if_pos g, if_pos g] at hq
  exact hq
theorem loopPieceR : ∀ v Q, (LPieceR v).wp Q → hloop CPieceR anPieceR (nthLoop Try.f30 0) v Q := by
  intro v Q h
  unfold LPieceR at h
  split at h
  case h_2 => exact h.elim
  rename_i u z y l n i pk ln sa d0 d1 d2
  obtain ⟨⟨h1, h2, h3, h4, h5, h6⟩, q0, q1⟩ := h
  subst h1 h2 h3
  refine hloop_rec (σ := Nat) (fun k => ([.ce (.int .i64 u), .ce (.ptr 1000002 0), .ce (.int .i64 z), .ce (.int .i64 y), .ce (.sl false [4, 4, 4, 4, 4, 4, 4, 4, 4, 4] l), .ce (.int .i64 (l.length : Int)), .ce (.int .i64 (k : Int))], [[.sl false [4, 4, 4, 4, 4, 4, 4, 4, 4, 4] l, .int .i64 ln, .int .i64 sa, .int .i64 d0, .int .i64 d1, .int .i64 d2]]))
    (fun k => l.length - k) (fun k => k ≤ l.length ∧ ∀ j, j < k → endp l j < u) ?_ 0 ⟨Nat.zero_le _, fun j hj => by omega⟩
  rintro k ⟨hk, hk2⟩ K hn hx hr
  refine byVB (vbPieceR u z y l.length k ln sa d0 d1 d2 l l K) ⟨fun g => ?_, fun g => ?_⟩
  · have g := of_decide_eq_true g
    have hkl : k < l.length := by omega
    have ht : Int.toNat (k : Int) = k := rfl
    rw [ht]
    have ab := at_bd h4 hkl
    have lnb := h4.2.1
    have hll := h4.1
    have ee : endp l k = el l k + ec l k 1 := rfl
    refine ⟨by omega, by omega, fun x1 e1 => ⟨fun g1 => ?_, fun g1 => ⟨by omega, fun x2 e2 => ?_⟩⟩⟩
    · have g1 := of_decide_eq_true g1
      have hf : tfind l u = k := tfind_of hkl (by omega) hk2
      have q := q1 (by omega)
      rw [hf] at q
      exact hr _ q
    · have g1 := of_decide_eq_false g1
      rw [show x2 = ((k + 1 : Nat) : Int) by omega]
      refine hn (k + 1) ⟨hkl, fun j hj => ?_⟩ (by omega)
      by_cases hjk : j < k
      · exact hk2 j hjk
      · have : j = k := by omega
        subst this; omega
  · have g := of_decide_eq_false g
    refine hx _ _ (q0 ?_)
    rcases tfind_spec h4 h6 with ⟨_, e⟩ | ⟨j, j1, j2, j3, _⟩
    · omega
    · have := hk2 j (by omega)
      omega
set_option maxHeartbeats 400000 in
set_option maxRecDepth 100000 in
theorem sPieceR : Sound Try.prog 30 SPieceR := by
  refine sound_of (C := CPieceR) [] Try.func30 (by kernel_rfl) (by decide +kernel) (by kernel_rfl) rfl trivial (loops1 (by kernel_rfl) (loopOK_of (an := anPieceR) (S := LPieceR) (by kernel_rfl) loopPieceR)) ?_
  intro hargs pars R h
  unfold SPieceR at h
  split at h
  case h_2 => exfalso; exact h
  rename_i pk ln sa d0 d1 d2 u
  obtain ⟨ht, hq⟩ := h
  have hl := ht.2.1
  refine byVC (vcPieceR u ln sa d0 d1 d2 pk R) (fun x1 e1 x2 e2 => ?_)
  have e : clamp ln u = x2 := by unfold clamp; omega
  rw [e] at hq
  refine ⟨⟨rfl, rfl, rfl, ht, by omega, by omega⟩, fun g => ?_, fun _ => hq⟩
  rw [g] at hq
  exact hq
set_option maxHeartbeats 400000 in
set_option maxRecDepth 100000 in
theorem sFaceR : Sound Try.prog 13 SFace := by
  refine sound_of (C := CFaceR) tabFaceR Try.func13 (by kernel_rfl) (by decide +kernel) (by kernel_rfl) rfl ⟨sPieceR, trivial⟩ (loops0 (by kernel_rfl)) ?_
  intro hargs pars R h
  unfold SFace at h
  split at h
  case h_2 => exfalso; exact h
  rename_i pk ln sa d0 d1 d2 u
  obtain ⟨ht, hq⟩ := h
  have hl := ht.2.1
  refine byVC (vcFaceR u ln sa d0 d1 d2 pk R) ⟨ht, fun x1 e1 x2 e2 => ?_⟩
  rw [← e2] at hq e1
  have hb := clamp_bd (v := u) hl.1
  rw [← e2] at hb
  refine ⟨fun g => ?_, fun g => ?_⟩
  · have g := of_decide_eq_true g
    unfold tface at hq
    rw [e1] at g
    rw [if_pos g, if_pos g, if_pos g] at hq
    exact hq
  · have g := of_decide_eq_false g
    rcases tfind_spec ht hb.2 with ⟨_, e⟩ | ⟨j, j1, j2, j3, _⟩
    · omega
    · have ab := at_bd ht j1
      have ee : endp pk j = el pk j + ec pk j 1 := rfl
      rw [tface_of j2, tface_of j2, tface_of j2] at hq
      have e1 : x1 = (j : Int) := by omega
      subst e1
      have ht : Int.toNat (j : Int) = j := rfl
      rw [ht]
      refine ⟨by omega, fun g3 => ?_, fun g3 => ⟨by omega, fun x3 e3 => ⟨fun g4 => ?_, fun g4 => ?_⟩⟩⟩
      · have g3 : ec pk j 3 ≠ 0 := by simpa using g3
        rw [if_pos (.inl g3), if_pos (.inl g3), if_pos (.inl g3)] at hq
        exact hq
      · have g4 : x2 = ec pk j 0 + ec pk j 1 := by
          have : x2 = x3 := by simpa using g4
          rw [this, e3]; rfl
        rw [if_pos (.inr g4), if_pos (.inr g4), if_pos (.inr g4)] at hq
        exact hq
      · have g3 : ¬ ec pk j 3 ≠ 0 := by simpa using g3
        have g4 : ¬ x2 = ec pk j 0 + ec pk j 1 := by
          have : ¬ x2 = x3 := by simpa using g4
          rw [e3] at this; exact this
        have g5 : ¬ (ec pk j 3 ≠ 0 ∨ x2 = ec pk j 0 + ec pk j 1) := fun h => h.elim g3 g4
        rw [if_neg g5, if_neg g5, if_neg g5] at hq
        exact hq
set_option maxHeartbeats 400000 in
set_option maxRecDepth 100000 in
theorem sRFace : Sound Try.prog 3 SRFace := by
  refine sound_of (C := CRFace) tabRFace Try.func3 (by kernel_rfl) (by decide +kernel) (by kernel_rfl) rfl ⟨sAwake, sRun42, sMod, sFace, sFaceR, trivial⟩ (loopsAll (by kernel_rfl)) ?_
  intro hargs pars R h
  unfold SRFace at h
  split at h
  case h_2 => exfalso; exact h
  rename_i l ax ds f t u
  obtain ⟨⟨hl, hax⟩, hq⟩ := h
  refine byVC (vcRFace l ax ds f t u R) ⟨trivial, fun w ew => ⟨fun g => (by rw [ew] at g; cases g), fun _ => ⟨⟨hl, hax⟩, okRun_ex, fun x hx => ?_⟩⟩⟩
  have hln := okRun_ln hx
  have h0 := okRun_ln0 hx
  have ht := (okRun_pre hx).2.2.1
  have no : ∀ {a b c d e f : Int}, a = d → b = e → c = f → (!(a == d && (b == e && (c == f && true)))) = true → False := fun h1 h2 h3 g => by rw [h1, h2, h3] at g; simp at g
  exact ⟨by omega, fun x3 e3 => ⟨by omega, fun x4 e4 => ⟨ht, fun x5 e5 x6 e6 x7 e7 => ⟨ht, fun x8 e8 x9 e9 x10 e10 => ⟨fun g => (no (e5.trans e8.symm) (e6.trans e9.symm) (e7.trans e10.symm) g).elim, fun _ =>
    ⟨ht, fun x5 e5 x6 e6 x7 e7 => ⟨ht, fun x8 e8 x9 e9 x10 e10 => ⟨fun g => (no (e5.trans e8.symm) (e6.trans e9.symm) (e7.trans e10.symm) g).elim, fun _ =>
    ⟨ht, fun x5 e5 x6 e6 x7 e7 => ⟨ht, fun x8 e8 x9 e9 x10 e10 => ⟨fun g => (no (e5.trans e8.symm) (e6.trans e9.symm) (e7.trans e10.symm) g).elim, fun _ =>
    ⟨ht, fun x5 e5 x6 e6 x7 e7 => ⟨ht, fun x8 e8 x9 e9 x10 e10 => ⟨fun g => (no (e5.trans e8.symm) (e6.trans e9.symm) (e7.trans e10.symm) g).elim, fun _ => hq⟩⟩⟩⟩⟩⟩⟩⟩⟩⟩⟩⟩⟩⟩
end Go.Proofs.Ytneingpnkdeooaa
