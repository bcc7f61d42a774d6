/-
  Part 1.
  Conditions: none.
-/
import Derived.Test.YtoekmphdpepdbaaGreatG6
set_option maxRecDepth 100000
set_option maxHeartbeats 400000
set_option linter.unusedVariables false
set_option linter.unusedSimpArgs false
open Go
namespace Go.HL
open Go Go.ChangeShapes Go.WideShapes Go.ChangeAt Go.RowKit
def fieldsK (P : Program) (rec : TypeId -> Option (List Nat)) : List Field -> Nat -> Option (List Nat)
 | [], _ => some []
 | fl :: r, off => match rec fl.type with
  | some a => bif Nat.beq fl.offset off && Nat.beq (P.cellsOf fl.type) a.length then (match fieldsK P rec r (off + a.length) with
   | some b => some (a ++ b)
   | none => none) else none
  | none => none
def repK : Nat -> List Nat -> List Nat
 | 0, _ => []
 | n + 1, a => a ++ repK n a
def kindsOf (P : Program) : Nat -> TypeId -> Option (List Nat)
 | 0, _ => none
 | f + 1, t => match P.underlying t with
  | some .bool => some [0]
  | some (.int k) => some [kcode k]
  | some (.struct fs) => match fieldsK P (kindsOf P f) fs.toList 0 with
   | some ks => bif Nat.beq ks.length (P.cellsOf t) then some ks else none
   | none => none
  | some (.array n e) => match kindsOf P f e with
   | some a => bif Nat.beq (P.cellsOf e) a.length && Nat.beq (P.cellsOf t) (n * a.length) then some (repK n a) else none
   | none => none
  | _ => none
def InK : Nat -> Int -> Prop
 | 0, n => n = 0 ∨ n = 1
 | k + 1, n => kLo (kk k) <= n /\ n <= kHi (kk k)
def zipK : List Nat -> List Int -> List Value
 | k :: ks, n :: r => kval k n :: zipK ks r
 | _, _ => []
def AllIn : List Nat -> List Int -> Prop
 | k :: ks, n :: r => InK k n /\ AllIn ks r
 | [], [] => True
 | _, _ => False
def Flat (ks : List Nat) (cs : List Value) : Prop := ∃ row, AllIn ks row /\ cs = zipK ks row
theorem AllIn.len : ∀ {ks : List Nat} {row : List Int}, AllIn ks row -> row.length = ks.length
 | [], [], _ => rfl
 | _ :: _, _ :: _, h => by simp [AllIn.len h.2]
 | [], _ :: _, h => h.elim
 | _ :: _, [], h => h.elim
theorem AllIn.cons {k : Nat} {ks : List Nat} {row : List Int} (h : AllIn (k :: ks) row) : ∃ n l, row = n :: l := by
 cases row with
 | nil => exact h.elim
 | cons n l => exact ⟨n, l, rfl⟩
theorem AllIn.nil {row : List Int} (h : AllIn [] row) : row = [] := by
 cases row with
 | nil => rfl
 | cons n l => exact h.elim
theorem AllIn.append : ∀ {a b : List Nat} {r s : List Int}, AllIn a r -> AllIn b s -> AllIn (a ++ b) (r ++ s) /\ zipK (a ++ b) (r ++ s) = zipK a r ++ zipK b s
 | [], b, [], s, _, h => ⟨h, rfl⟩
 | _ :: a, b, _ :: r, s, h, h' => by
  obtain ⟨h1, h2⟩ := AllIn.append (a := a) (r := r) h.2 h'
  exact ⟨⟨h.1, h1⟩, by simp [zipK, h2]⟩
 | [], _, _ :: _, _, h, _ => h.elim
 | _ :: _, _, [], _, h, _ => h.elim
theorem Flat.append {a b : List Nat} {cs ds : List Value} (h : Flat a cs) (h' : Flat b ds) : Flat (a ++ b) (cs ++ ds) := by
 obtain ⟨r, h1, rfl⟩ := h
 obtain ⟨s, h2, rfl⟩ := h'
 exact ⟨r ++ s, (AllIn.append h1 h2).1, (AllIn.append h1 h2).2.symm⟩
theorem zipK_get : ∀ {ks : List Nat} {row : List Int} {j : Nat}, AllIn ks row -> j < ks.length -> (zipK ks row)[j]? = some (kval (ks.getD j 0) (row.getD j 0)) /\ InK (ks.getD j 0) (row.getD j 0)
 | _ :: _, _ :: _, 0, h, _ => ⟨rfl, h.1⟩
 | _ :: ks, _ :: r, j + 1, h, hj => by
  have := zipK_get (j := j) h.2 (by simpa using hj)
  simpa [zipK] using this
 | [], _, _, _, hj => by simp at hj
 | _ :: _, [], _, h, _ => h.elim
section
variable {H : Type} {enc : TypeId × Value -> H} {P : Program} {w : World} {base : Nat} {spare : Nat -> Bool} {held : Bool}
theorem wf_in {k : IntKind} {n : Int} (h : (Lit.int k n).wf = true) : InK (kcode k) n /\ kval (kcode k) n = .int k n := by
 simp only [Lit.wf, Bool.and_eq_true, decide_eq_true_eq] at h
 cases k <;> simp [IntKind.min, IntKind.max, IntKind.signed, IntKind.bits] at h <;> exact ⟨by simp [InK, kcode, kk, kLo, kHi]; omega, rfl⟩
theorem fields_flat {rec : TypeId -> Option (List Nat)} {cs : List Value} {n : Nat}
 (hrec : ∀ t ks, rec t = some ks -> ∀ cs x, DataW.trod enc P w base spare held n t cs = some x -> Flat ks cs) :
 ∀ (fs : List Field) (off : Nat) (ks : List Nat), fieldsK P rec fs off = some ks -> off + ks.length = cs.length ->
  (∀ f, f ∈ fs -> ∃ x, DataW.trod enc P w base spare held n f.type ((cs.drop f.offset).take (P.cellsOf f.type)) = some x) -> Flat ks (cs.drop off)
 | [], off, ks, h, hl, _ => by
  cases h
  have : cs.drop off = [] := List.drop_eq_nil_of_le (by simp at hl; omega)
  rw [this]
  exact ⟨[], trivial, rfl⟩
 | fl :: r, off, ks, h, hl, hf => by
  unfold fieldsK at h
  split at h
  case h_2 => cases h
  rename_i a ha
  cases hb : (Nat.beq fl.offset off && Nat.beq (P.cellsOf fl.type) a.length) with
  | false => rw [hb] at h; cases h
  | true =>
   rw [hb] at h
   simp only [cond_true] at h
   rw [Bool.and_eq_true] at hb
   have e1 := Nat.eq_of_beq_eq_true hb.1
   have e2 := Nat.eq_of_beq_eq_true hb.2
   split at h
   case h_2 => cases h
   rename_i b hbb
   cases h
   obtain ⟨x, hx⟩ := hf fl (List.mem_cons_self ..)
   rw [e1, e2] at hx
   have f1 := hrec _ _ ha _ _ hx
   have f2 := fields_flat hrec r (off + a.length) b hbb (by simp at hl; omega) (fun f hm => hf f (List.mem_cons_of_mem _ hm))
   have : cs.drop off = (cs.drop off).take a.length ++ cs.drop (off + a.length) := by
    rw [<- List.drop_drop, List.take_append_drop]
   rw [this]
   exact f1.append f2
theorem elems_flat {a : List Nat} {cs : List Value} : ∀ (n i : Nat), i * a.length + n * a.length = cs.length -> (∀ j, i <= j -> j < i + n -> Flat a ((cs.drop (j * a.length)).take a.length)) -> Flat (repK n a) (cs.drop (i * a.length))
 | 0, i, hl, _ => by
  have : cs.drop (i * a.length) = [] := List.drop_eq_nil_of_le (by omega)
  rw [this]
  exact ⟨[], trivial, rfl⟩
 | n + 1, i, hl, h => by
  have e : (n + 1) * a.length = n * a.length + a.length := Nat.succ_mul _ _
  have e2 : (i + 1) * a.length = i * a.length + a.length := Nat.succ_mul _ _
  have f1 := h i (Nat.le_refl _) (by omega)
  have f2 := elems_flat n (i + 1) (by omega) (fun j h1 h2 => h j (by omega) (by omega))
  have : cs.drop (i * a.length) = (cs.drop (i * a.length)).take a.length ++ cs.drop ((i + 1) * a.length) := by
   rw [e2, <- List.drop_drop, List.take_append_drop]
  rw [this]
  exact f1.append f2
theorem trod_flat : ∀ (f : Nat) (t : TypeId) (ks : List Nat), kindsOf P f t = some ks -> ∀ fuel cs x, DataW.trod enc P w base spare held fuel t cs = some x -> Flat ks cs
 | 0, _, _, h, _, _, _, _ => by cases h
 | f + 1, t, ks, h, fuel, cs, x, hx => by
  unfold kindsOf at h
  split at h
  . rename_i ht
    cases h
    obtain ⟨b, rfl, _⟩ := DataW.trod_bool ht hx
    refine ⟨[if b then 1 else 0], ⟨by cases b <;> simp [InK], trivial⟩, ?_⟩
    cases b <;> rfl
  . rename_i k ht
    cases h
    obtain ⟨n, rfl, _, hw⟩ := DataW.trod_int ht hx
    exact ⟨[n], ⟨(wf_in hw).1, trivial⟩, by simp [zipK, (wf_in hw).2]⟩
  . rename_i fs ht
    obtain ⟨xs, n, _, _, hl, hxl, hf⟩ := DataW.trod_struct ht hx
    split at h
    case h_2 => cases h
    rename_i ks' hk
    cases hb : Nat.beq ks'.length (P.cellsOf t) with
    | false => rw [hb] at h; cases h
    | true =>
     rw [hb] at h
     cases h
     have e := Nat.eq_of_beq_eq_true hb
     have := fields_flat (cs := cs) (n := n) (fun t ks h cs x hx => trod_flat f t ks h n cs x hx) fs.toList 0 ks hk (by omega) (fun fl hm => by
      obtain ⟨i, hi, he⟩ := List.mem_iff_getElem.1 hm
      have hi' : i < fs.size := by simpa using hi
      have h1 := hf i fl (by rw [Array.getElem?_eq_getElem hi']; simp at he; rw [he])
      rw [List.getElem?_eq_getElem (by omega)] at h1
      exact ⟨_, h1⟩)
     simpa using this
  . rename_i n e ht
    obtain ⟨xs, m, _, _, hl, hxl, hf⟩ := DataW.trod_array ht hx
    split at h
    case h_2 => cases h
    rename_i a ha
    cases hb : (Nat.beq (P.cellsOf e) a.length && Nat.beq (P.cellsOf t) (n * a.length)) with
    | false => rw [hb] at h; cases h
    | true =>
     rw [hb] at h
     cases h
     rw [Bool.and_eq_true] at hb
     have e1 := Nat.eq_of_beq_eq_true hb.1
     have e2 := Nat.eq_of_beq_eq_true hb.2
     have := elems_flat (a := a) (cs := cs) n 0 (by omega) (fun j _ hj => by
      have h1 := hf j (by omega)
      rw [List.getElem?_eq_getElem (by omega), e1] at h1
      exact trod_flat f e a ha m _ _ h1)
     simpa using this
  . cases h
theorem cells_flat {ks : List Nat} {a : Addr} {cs : List Value} (h1 : ∀ i, i < ks.length -> w.cell? (a.add i) = cs[i]?) (hf : Flat ks cs) :
 ∃ row : List Int, AllIn ks row /\ ∀ j, j < ks.length -> w.cell? (a.add j) = some (kval (ks.getD j 0) (row.getD j 0)) := by
 obtain ⟨row, hr, rfl⟩ := hf
 exact ⟨row, hr, fun j hj => by rw [h1 j hj]; exact (zipK_get hr hj).1⟩
theorem in_slice_sz {r : Reach} {b0 : Nat} {t e : TypeId} {ks : List Nat} {v : Value} {d : DataW H} {ps : List MemPlace} (ht : P.underlying t = some (.slice e)) (hk : kindsOf P 12 e = some ks) (hC : P.cellsOf e = ks.length) (hpos : 0 < ks.length)
 (hval : Value.okWide P w r b0 t v) (hd : DataW.Trod enc P w base (fun _ => true) held t v d ps) :
 ∃ rows : LL, rows.length <= maxLen /\ (∀ i, i < rows.length -> AllIn ks (rows.getD i [])) /\ VRel (G0 w) w none (.ce (.sl false ks rows)) v /\
  ∀ R B : Nat, (∀ es sp, d = .slice es sp -> (es.length + sp.length) * B <= R) -> rows.length * B <= R := by
 obtain ⟨fuel, hd⟩ := hd
 obtain ⟨ad, len, cap, rfl⟩ := okWide_slice ht hval
 have hc : (Value.slice ad len cap).cells.toList = [.slice ad len cap] := by simp [Value.cells]
 rw [hc] at hd
 rcases DataW.trod_slice ht hd with ⟨he, _⟩ | ⟨a, len', cap', elems, rest, n, _, he, hxd, hb, hl, hm, hlen, hel, hsp, _⟩
 . simp at he
   obtain ⟨rfl, rfl, rfl⟩ := he
   exact ⟨[], Nat.zero_le _, fun i hi => by simp at hi, ⟨none, 0, rfl, Nat.le_refl _, Nat.zero_le _, .inl ⟨.inl rfl, rfl, rfl⟩⟩, fun R B _ => by simp⟩
 . simp at he
   obtain ⟨rfl, rfl, rfl⟩ := he
   obtain ⟨hrl, hrest⟩ := hsp rfl
   have hall : ∀ i, i < cap -> ∃ row : List Int, AllIn ks row /\ ∀ j, j < ks.length -> w.cell? ((a.add (i * ks.length)).add j) = some (kval (ks.getD j 0) (row.getD j 0)) := by
    intro i hi
    have key : ∀ y, (w.cells? base (a.add (i * P.cellsOf e)) (P.cellsOf e)).bind (DataW.trod enc P w base (fun _ => true) held n e) = some y ->
     ∃ row : List Int, AllIn ks row /\ ∀ j, j < ks.length -> w.cell? ((a.add (i * ks.length)).add j) = some (kval (ks.getD j 0) (row.getD j 0)) := by
     intro y hy
     rw [Option.bind_eq_some_iff] at hy
     obtain ⟨cs, h1, h2⟩ := hy
     obtain ⟨_, _, h3⟩ := World.cells?_some h1
     rw [hC] at h3
     exact cells_flat h3 (trod_flat 12 e ks hk n cs y h2)
    by_cases hi2 : i < len
    . have := hel i hi2
      rw [List.getElem?_eq_getElem (by omega)] at this
      exact key _ this
    . have := hrest (i - len) (by omega)
      rw [List.getElem?_eq_getElem (by omega), show len + (i - len) = i by omega] at this
      exact key _ this
   have hch : ∀ i, ∃ row : List Int, i < cap -> AllIn ks row /\ ∀ j, j < ks.length -> w.cell? ((a.add (i * ks.length)).add j) = some (kval (ks.getD j 0) (row.getD j 0)) := by
    intro i
    by_cases hi : i < cap
    . obtain ⟨row, h⟩ := hall i hi; exact ⟨row, fun _ => h⟩
    . exact ⟨[], fun h => absurd h hi⟩
   obtain ⟨f, hrows⟩ : ∃ f : Nat -> List Int, ∀ i, i < cap -> AllIn ks (f i) /\ ∀ j, j < ks.length -> w.cell? ((a.add (i * ks.length)).add j) = some (kval (ks.getD j 0) ((f i).getD j 0)) :=
    ⟨fun i => Classical.choose (hch i), fun i => Classical.choose_spec (hch i)⟩
   clear hch
   refine ⟨(List.range len).map f, by simp; omega, fun i hi => ?_, ?_, fun R B hs => ?_⟩
   . simp at hi
     have : ((List.range len).map f).getD i [] = f i := by simp [List.getD_eq_getElem?_getD, hi]
     rw [this]
     exact (hrows i (by omega)).1
   . have hll : ((List.range len).map f).length = len := by simp
     refine ⟨some a, cap, by rw [hll], by rw [hll]; exact hl, hm, ?_⟩
     rw [hll]
     by_cases hc0 : cap = 0
     . exact .inl ⟨.inl rfl, by omega, hc0⟩
     . have h0 := (hrows 0 (by omega)).2 0 hpos
       have hx0 : (a.add (0 * ks.length)).add 0 = a := by simp [Addr.add]
       rw [hx0] at h0
       obtain ⟨hbk, hs⟩ := cell_lt h0
       have hx : a = at_ a.block a.off := by
        cases a with
        | mk b o s => dsimp only at hs; subst hs; rfl
       refine .inr ⟨a.block, a.off, by rw [<- hx], fun i j hi hj => ⟨hbk, ?_⟩, fun _ e => nomatch e⟩
       have h1 := (hrows i (by omega)).2 j hj
       rw [hx, at_add, at_add, show a.off + i * ks.length + j = a.off + (i * ks.length + j) by omega] at h1
       have hg : ((List.range len).map f).getD i [] = f i := by simp [List.getD_eq_getElem?_getD, hi]
       rw [hg]
       exact h1
   . have := hs (elems.map (·.1)) (rest.map (·.1)) (congrArg Prod.fst hxd)
     simp only [List.length_map, List.length_range] at this ⊢
     rw [hlen, Nat.add_mul] at this
     omega
theorem in_slice {r : Reach} {b0 : Nat} {t e : TypeId} {ks : List Nat} {v : Value} {d : DataW H} {ps : List MemPlace} (ht : P.underlying t = some (.slice e)) (hk : kindsOf P 12 e = some ks) (hC : P.cellsOf e = ks.length) (hpos : 0 < ks.length)
 (hval : Value.okWide P w r b0 t v) (hd : DataW.Trod enc P w base (fun _ => true) held t v d ps) :
 ∃ rows : LL, rows.length <= maxLen /\ (∀ i, i < rows.length -> AllIn ks (rows.getD i [])) /\ VRel (G0 w) w none (.ce (.sl false ks rows)) v := by
 obtain ⟨rows, h1, h2, h3, _⟩ := in_slice_sz ht hk hC hpos hval hd
 exact ⟨rows, h1, h2, h3⟩
end
end Go.HL
namespace Go.Proofs.YtoekmphdpepdbaaGreat
open Go Go.HL U
def SLHold (hA : List HV) (pA : List (List HC)) : SR :=
 match hA, pA with
 | [.ce (.sl false [4] l), .ce (.sl false [4] ax), .ce (.sl false [4] pl), .ce (.int .i64 ds), .ce (.int .i64 cy), .ce (.bool fa)], [] =>
  .det (l.length <= 9223372036854775807 /\ ax.length <= 9223372036854775807 /\ pl.length <= 9223372036854775807) okR
 | _, _ => .fail
def tabHold : List (FuncId × HL.Spec) := [(11, STrue0), (12, SMade), (20, SQStart), (15, SMod), (23, SNxS), (31, SQRest), (32, SQFut)]
def anH1 : LAnn := ⟨[12, 13, 14, 15, 16], [12, 13, 14, 15], [1000013, 1000014, 1000015], false⟩
def anH2 : LAnn := ⟨[12, 13, 14, 15, 18, 19, 61, 62, 63], [12, 13, 14, 15, 18, 19], [1000013, 1000014, 1000015], false⟩
def anH3 : LAnn := ⟨[12, 13, 14, 15, 18, 19, 23], [12, 14, 18, 19], [1000013, 1000014, 1000015], false⟩
def LH1 (v : LV) : LR :=
 match v with
 | ([.ce (.bool z), .ce (.ptr 1000013 0), .ce (.ptr 1000014 0), .ce (.ptr 1000015 0), .ce (.int .i64 k)], [rb, [.int .i64 mu, .int .i64 mv, .int .i64 ma, .int .i64 ml, .int .i64 mp, .int .i64 mb], [.int .i64 fo, .int .i64 ro, .bool ho, .bool so, .bool oo]]) =>
  .all (∃ x, (okShop x /\ rb = shopC x) /\ (0 <= k /\ k <= 50) /\ x.inv ⟨mu, mv, ma, ml, mp, mb⟩ x.r.ln) QM (fun y => ∃ x, (okShop x /\ rb = shopC x) /\ x.inv y x.r.ln) (fun _ => .exit 0)
   (fun y => ([.ce (.bool z), .ce (.ptr 1000013 0), .ce (.ptr 1000014 0), .ce (.ptr 1000015 0)], [rb, [I6 y.u, I6 y.v, I6 y.a, I6 y.l, I6 y.p, I6 y.b], [I6 fo, I6 ro, .bool ho, .bool so, .bool oo]]))
 | _ => .fail
def LH2 (v : LV) : LR :=
 match v with
 | ([.ce (.bool z), .ce (.ptr 1000013 0), .ce (.ptr 1000014 0), .ce (.ptr 1000015 0), .ce (.bool ok), .ce (.int .i64 en), .ce (.sl false [4] fu), .ce (.int .i64 len), .ce (.int .i64 i)], [rb, [.int .i64 mu, .int .i64 mv, .int .i64 ma, .int .i64 ml, .int .i64 mp, .int .i64 mb], [.int .i64 fo, .int .i64 ro, .bool ho, .bool so, .bool oo]]) =>
  .all (∃ x, (okShop x /\ rb = shopC x) /\ x.inv ⟨mu, mv, ma, ml, mp, mb⟩ x.r.ln /\ ho = true /\ fu = qfu x.A x.J mu mv ma /\ len = fu.length /\ i = 0 /\ en = qend mu fu) QM (fun y => ∃ x, (okShop x /\ rb = shopC x) /\ x.inv y x.r.ln /\ y.v = 0 /\ y.u = en) (fun _ => .exit 2)
   (fun y => ([.ce (.bool z), .ce (.ptr 1000013 0), .ce (.ptr 1000014 0), .ce (.ptr 1000015 0), .ce (.bool ok), .ce (I6 en)], [rb, [I6 y.u, I6 y.v, I6 y.a, I6 y.l, I6 y.p, I6 y.b], [I6 fo, I6 ro, .bool ho, .bool so, .bool oo]]))
 | _ => .fail
def LH3 (v : LV) : LR :=
 match v with
 | ([.ce (.bool z), .ce (.ptr 1000013 0), .ce (.ptr 1000014 0), .ce (.ptr 1000015 0), .ce (.bool ok), .ce (.int .i64 en), .ce (.int .i64 k)], [rb, [.int .i64 mu, .int .i64 mv, .int .i64 ma, .int .i64 ml, .int .i64 mp, .int .i64 mb], [.int .i64 fo, .int .i64 ro, .bool ho, .bool so, .bool oo]]) =>
  .all (∃ x, (okShop x /\ rb = shopC x) /\ x.inv ⟨mu, mv, ma, ml, mp, mb⟩ x.r.ln /\ ho = true /\ k = 0 /\ mv = 0 /\ mu = en) Int (fun _ => True) (fun _ => .exit 4)
   (fun y => ([.ce (.bool z), .ce (.ptr 1000014 0), .ce (.bool ok), .ce (I6 en)], [rb, [I6 en, I6 0, I6 0, I6 en, I6 en, I6 y], [I6 fo, I6 ro, .bool ho, .bool so, .bool oo]]))
 | _ => .fail
noncomputable def CHold : Ctx := ⟨Tryz.prog, gam tabHold, Tryz.f10.ntmps, [(7, anH1, LH1), (14, anH2, LH2), (21, anH3, LH3)], []⟩
theorem vbH1 (x : ShS) (fo ro mu mv ma ml mp mb k : Int) (z ho so oo : Bool) (K : HEx -> LV -> Prop) : (nbodyT true CHold anH1 (nthLoop Tryz.f10 0) (([.ce (.bool z), .ce (.ptr 1000013 0), .ce (.ptr 1000014 0), .ce (.ptr 1000015 0), .ce (I6 k)], [[I6 x.r.s0, I6 x.r.s1, I6 x.r.s2, .sl false [4, 4, 4, 4, 4, 4, 4] x.r.sg, .sl false [4, 4, 4] x.r.mks, I6 x.r.a.st, I6 x.r.a.sp, I6 x.r.a.ac, I6 x.r.a.je, I6 (-16777216), I6 16777216, I6 x.r.a.bl, I6 x.r.a.og, I6 x.r.a.sg, .sl false [4] x.r.a.pit, I6 x.r.b.st, I6 x.r.b.sp, I6 x.r.b.ac, I6 x.r.b.je, I6 (-16777216), I6 16777216, I6 x.r.b.bl, I6 x.r.b.og, I6 x.r.b.sg, .sl false [4] x.r.b.pit, I6 x.r.c.st, I6 x.r.c.sp, I6 x.r.c.ac, I6 x.r.c.je, I6 (-16777216), I6 16777216, I6 x.r.c.bl, I6 x.r.c.og, I6 x.r.c.sg, .sl false [4] x.r.c.pit, .sl false [4, 4, 4, 4, 4, 4, 4, 4, 4, 4] x.r.pk, I6 x.r.ln, I6 x.r.f, I6 x.r.d0, I6 x.r.d1, I6 x.r.d2, I6 x.A, I6 x.J, I6 x.R, I6 x.r.ln], [I6 mu, I6 mv, I6 ma, I6 ml, I6 mp, I6 mb], [I6 fo, I6 ro, .bool ho, .bool so, .bool oo]])) K) =
 ((decide (k > 0) = true -> (∃ (x_1 : ShS), (okShop x_1 /\ (shopC x) = shopC x_1) /\
 (0 <= x.r.ln /\ x.r.ln <= x_1.r.ln) /\ ∃ (l : Int), l <= x.r.ln /\ ShS.inv x_1 { u := mu, v := mv, a := ma, l := ml, p := mp, b := mb } l) /\ (∃ (x_1 : QM), ∀ (x_2 : ShS), (shopC x) = shopC x_2 ->
 x_1 = ShS.nx x_2 ho fo ro { u := mu, v := mv, a := ma, l := ml, p := mp, b := mb } x.r.ln) /\ ∀ (x_1 : QM), (∀ (x_2 : ShS), (shopC x) = shopC x_2 ->
 x_1 = ShS.nx x_2 ho fo ro { u := mu, v := mv, a := ma, l := ml, p := mp, b := mb } x.r.ln) -> R6 (k - 1) /\ ∀ x4, x4 = k - 1 -> K .normal ([.ce (.bool z), .ce (.ptr 1000013 0), .ce (.ptr 1000014 0), .ce (.ptr 1000015 0), .ce (I6 x4)], [(shopC x), [I6 x_1.u, I6 x_1.v, I6 x_1.a, I6 x_1.l, I6 x_1.p, I6 x_1.b], [I6 fo, I6 ro, .bool ho, .bool so, .bool oo]])) /\
 (decide (k > 0) = false -> K (.exit 0) ([.ce (.bool z), .ce (.ptr 1000013 0), .ce (.ptr 1000014 0), .ce (.ptr 1000015 0)], [(shopC x), [I6 mu, I6 mv, I6 ma, I6 ml, I6 mp, I6 mb], [I6 fo, I6 ro, .bool ho, .bool so, .bool oo]]))) := by kernel_rfl
theorem vbH2 (x : ShS) (fo ro mu mv ma ml mp mb en len i : Int) (z ok ho so oo : Bool) (fu : LL) (K : HEx -> LV -> Prop) : (nbodyT true CHold anH2 (nthLoop Tryz.f10 1) (([.ce (.bool z), .ce (.ptr 1000013 0), .ce (.ptr 1000014 0), .ce (.ptr 1000015 0), .ce (.bool ok), .ce (I6 en), .ce (.sl false [4] fu), .ce (I6 len), .ce (I6 i)], [[I6 x.r.s0, I6 x.r.s1, I6 x.r.s2, .sl false [4, 4, 4, 4, 4, 4, 4] x.r.sg, .sl false [4, 4, 4] x.r.mks, I6 x.r.a.st, I6 x.r.a.sp, I6 x.r.a.ac, I6 x.r.a.je, I6 (-16777216), I6 16777216, I6 x.r.a.bl, I6 x.r.a.og, I6 x.r.a.sg, .sl false [4] x.r.a.pit, I6 x.r.b.st, I6 x.r.b.sp, I6 x.r.b.ac, I6 x.r.b.je, I6 (-16777216), I6 16777216, I6 x.r.b.bl, I6 x.r.b.og, I6 x.r.b.sg, .sl false [4] x.r.b.pit, I6 x.r.c.st, I6 x.r.c.sp, I6 x.r.c.ac, I6 x.r.c.je, I6 (-16777216), I6 16777216, I6 x.r.c.bl, I6 x.r.c.og, I6 x.r.c.sg, .sl false [4] x.r.c.pit, .sl false [4, 4, 4, 4, 4, 4, 4, 4, 4, 4] x.r.pk, I6 x.r.ln, I6 x.r.f, I6 x.r.d0, I6 x.r.d1, I6 x.r.d2, I6 x.A, I6 x.J, I6 x.R, I6 x.r.ln], [I6 mu, I6 mv, I6 ma, I6 ml, I6 mp, I6 mb], [I6 fo, I6 ro, .bool ho, .bool so, .bool oo]])) K) =
 ((decide (i < len) = true -> (0 <= i /\ i < (fu.length : Int)) /\ ∀ x1, x1 = el fu i.toNat -> (∃ (x_1 : ShS), (okShop x_1 /\ (shopC x) = shopC x_1) /\
 (0 <= x.r.ln /\ x.r.ln <= x_1.r.ln) /\ ∃ (l : Int), l <= x.r.ln /\ ShS.inv x_1 { u := mu, v := mv, a := ma, l := ml, p := mp, b := mb } l) /\ (∃ (x_1 : QM), ∀ (x_2 : ShS), (shopC x) = shopC x_2 ->
 x_1 = ShS.nx x_2 ho fo ro { u := mu, v := mv, a := ma, l := ml, p := mp, b := mb } x.r.ln) /\ ∀ (x_1 : QM), (∀ (x_2 : ShS), (shopC x) = shopC x_2 ->
 x_1 = ShS.nx x_2 ho fo ro { u := mu, v := mv, a := ma, l := ml, p := mp, b := mb } x.r.ln) -> ((x_1.u != x1) = true -> K .ret ([.ce (.bool false), .ce (.ptr 1000013 0), .ce (.ptr 1000014 0), .ce (.ptr 1000015 0), .ce (.bool ok), .ce (I6 en)], [(shopC x), [I6 x_1.u, I6 x_1.v, I6 x_1.a, I6 x_1.l, I6 x_1.p, I6 x_1.b], [I6 fo, I6 ro, .bool ho, .bool so, .bool oo]])) /\
 ((x_1.u != x1) = false -> R6 (i + 1) /\ ∀ x5, x5 = i + 1 -> K .normal ([.ce (.bool z), .ce (.ptr 1000013 0), .ce (.ptr 1000014 0), .ce (.ptr 1000015 0), .ce (.bool ok), .ce (I6 en), .ce (.sl false [4] fu), .ce (I6 len), .ce (I6 x5)], [(shopC x), [I6 x_1.u, I6 x_1.v, I6 x_1.a, I6 x_1.l, I6 x_1.p, I6 x_1.b], [I6 fo, I6 ro, .bool ho, .bool so, .bool oo]]))) /\
 (decide (i < len) = false -> K (.exit 2) ([.ce (.bool z), .ce (.ptr 1000013 0), .ce (.ptr 1000014 0), .ce (.ptr 1000015 0), .ce (.bool ok), .ce (I6 en)], [(shopC x), [I6 mu, I6 mv, I6 ma, I6 ml, I6 mp, I6 mb], [I6 fo, I6 ro, .bool ho, .bool so, .bool oo]]))) := by kernel_rfl
theorem vbH3 (x : ShS) (fo ro mu mv ma ml mp mb en k : Int) (z ok ho so oo : Bool) (K : HEx -> LV -> Prop) : (nbodyT true CHold anH3 (nthLoop Tryz.f10 2) (([.ce (.bool z), .ce (.ptr 1000013 0), .ce (.ptr 1000014 0), .ce (.ptr 1000015 0), .ce (.bool ok), .ce (I6 en), .ce (I6 k)], [[I6 x.r.s0, I6 x.r.s1, I6 x.r.s2, .sl false [4, 4, 4, 4, 4, 4, 4] x.r.sg, .sl false [4, 4, 4] x.r.mks, I6 x.r.a.st, I6 x.r.a.sp, I6 x.r.a.ac, I6 x.r.a.je, I6 (-16777216), I6 16777216, I6 x.r.a.bl, I6 x.r.a.og, I6 x.r.a.sg, .sl false [4] x.r.a.pit, I6 x.r.b.st, I6 x.r.b.sp, I6 x.r.b.ac, I6 x.r.b.je, I6 (-16777216), I6 16777216, I6 x.r.b.bl, I6 x.r.b.og, I6 x.r.b.sg, .sl false [4] x.r.b.pit, I6 x.r.c.st, I6 x.r.c.sp, I6 x.r.c.ac, I6 x.r.c.je, I6 (-16777216), I6 16777216, I6 x.r.c.bl, I6 x.r.c.og, I6 x.r.c.sg, .sl false [4] x.r.c.pit, .sl false [4, 4, 4, 4, 4, 4, 4, 4, 4, 4] x.r.pk, I6 x.r.ln, I6 x.r.f, I6 x.r.d0, I6 x.r.d1, I6 x.r.d2, I6 x.A, I6 x.J, I6 x.R, I6 x.r.ln], [I6 mu, I6 mv, I6 ma, I6 ml, I6 mp, I6 mb], [I6 fo, I6 ro, .bool ho, .bool so, .bool oo]])) K) =
 ((decide (k < 3) = true -> (∃ (x_1 : ShS), (okShop x_1 /\ (shopC x) = shopC x_1) /\
 (0 <= x.r.ln /\ x.r.ln <= x_1.r.ln) /\ ∃ (l : Int), l <= x.r.ln /\ ShS.inv x_1 { u := mu, v := mv, a := ma, l := ml, p := mp, b := mb } l) /\ (∃ (x_1 : QM), ∀ (x_2 : ShS), (shopC x) = shopC x_2 ->
 x_1 = ShS.nx x_2 ho fo ro { u := mu, v := mv, a := ma, l := ml, p := mp, b := mb } x.r.ln) /\ ∀ (x_1 : QM), (∀ (x_2 : ShS), (shopC x) = shopC x_2 ->
 x_1 = ShS.nx x_2 ho fo ro { u := mu, v := mv, a := ma, l := ml, p := mp, b := mb } x.r.ln) -> R6 (k + 1) /\ ∀ x4, x4 = k + 1 -> K .normal ([.ce (.bool z), .ce (.ptr 1000013 0), .ce (.ptr 1000014 0), .ce (.ptr 1000015 0), .ce (.bool ok), .ce (I6 en), .ce (I6 x4)], [(shopC x), [I6 x_1.u, I6 x_1.v, I6 x_1.a, I6 x_1.l, I6 x_1.p, I6 x_1.b], [I6 fo, I6 ro, .bool ho, .bool so, .bool oo]])) /\
 (decide (k < 3) = false -> K (.exit 4) ([.ce (.bool z), .ce (.ptr 1000014 0), .ce (.bool ok), .ce (I6 en)], [(shopC x), [I6 mu, I6 mv, I6 ma, I6 ml, I6 mp, I6 mb], [I6 fo, I6 ro, .bool ho, .bool so, .bool oo]]))) := by kernel_rfl
theorem vcHold (l ax pl : LL) (ds cy : Int) (fa : Bool) (Q : Res -> Prop) : (nfun true CHold Tryz.f10 (bodyOf Tryz.f10) [.ce (.sl false [4] l), .ce (.sl false [4] ax), .ce (.sl false [4] pl), .ce (I6 ds), .ce (I6 cy), .ce (.bool fa)] [] Q) =
 (True /\ (∃ (x : Bool), x = true) /\ ∀ (x : Bool), x = true -> ((!x) = true -> Q ⟨.ce (.bool false), false, [], []⟩) /\ ((!x) = false -> (l.length <= 9223372036854775807 /\ ax.length <= 9223372036854775807 /\ pl.length <= 9223372036854775807) /\ (∃ (x : ShS), okShop x) /\ ∀ (x : ShS), okShop x -> ((-18014398509481984 : Int) <= 0 /\ (0 : Int) <= 18014398509481984) /\ (∃ (x : QM), x = qstart (0 : Int)) /\ ∀ (x_1 : QM), x_1 = qstart (0 : Int) -> ((0 : Int) < 50 /\ (50 : Int) <= 4611686018427387904) /\ ∀ x4, x4 = cy % 50 -> (∃ (x_2 : ShS), (okShop x_2 /\ (shopC x) = shopC x_2) /\
 (0 <= x4 /\ x4 <= 50) /\ ShS.inv x_2 { u := x_1.u, v := x_1.v, a := x_1.a, l := x_1.l, p := x_1.p, b := x_1.b } x_2.r.ln) /\ ∀ (x_2 : QM), (∃ (x_3 : ShS), (okShop x_3 /\ (shopC x) = shopC x_3) /\
 ShS.inv x_3 x_2 x_3.r.ln) -> (okPl x.A x.J x.R /\ okU x_2.u) /\ (∃ (x_3 : LL × Bool), x_3 = (qfu x.A x.J x_2.u x_2.v x_2.a, qfok x.A x.J x_2.v x_2.a)) /\ ∀ (x_3 : LL × Bool), x_3 = (qfu x.A x.J x_2.u x_2.v x_2.a, qfok x.A x.J x_2.v x_2.a) -> (okPl x.A x.J x.R /\ okU x_2.u) /\ (∃ (x_4 : Int × Bool), x_4 = (if qfok x.A x.J x_2.v x_2.a = true then qend x_2.u (qfu x.A x.J x_2.u x_2.v x_2.a) else (0 : Int), qfok x.A x.J x_2.v x_2.a)) /\ ∀ (x_4 : Int × Bool), x_4 = (if qfok x.A x.J x_2.v x_2.a = true then qend x_2.u (qfu x.A x.J x_2.u x_2.v x_2.a) else (0 : Int), qfok x.A x.J x_2.v x_2.a) -> (∃ (x_5 : ShS), (okShop x_5 /\ (shopC x) = shopC x_5) /\
 ShS.inv x_5 { u := x_2.u, v := x_2.v, a := x_2.a, l := x_2.l, p := x_2.p, b := x_2.b } x_5.r.ln /\ true = true /\ x_3.1 = qfu x_5.A x_5.J x_2.u x_2.v x_2.a /\ (List.length x_3.1 : Int) = (List.length x_3.1 : Int) /\ (0 : Int) = 0 /\ x_4.1 = qend x_2.u x_3.1) /\ ∀ (x_5 : QM), (∃ (x_6 : ShS), (okShop x_6 /\ (shopC x) = shopC x_6) /\
 ShS.inv x_6 x_5 x_6.r.ln /\ x_5.v = 0 /\ x_5.u = x_4.1) -> (∃ (x_6 : ShS), (okShop x_6 /\ (shopC x) = shopC x_6) /\
 ShS.inv x_6 { u := x_5.u, v := x_5.v, a := x_5.a, l := x_5.l, p := x_5.p, b := x_5.b } x_6.r.ln /\ true = true /\ (0 : Int) = 0 /\ x_5.v = 0 /\ x_5.u = x_4.1) /\ ∀ (x : Int), True -> (x_3.2 = true -> ((x_4.1 == x_4.1) = true -> (((0 : Int) == 0) = true -> (((0 : Int) == 0) = true -> ((x_4.1 == x_4.1) = true -> Q ⟨.ce (.bool (x_4.1 == x_4.1)), false, [], []⟩) /\ ((x_4.1 == x_4.1) = false -> Q ⟨.ce (.bool false), false, [], []⟩)) /\ (((0 : Int) == 0) = false -> Q ⟨.ce (.bool false), false, [], []⟩)) /\ (((0 : Int) == 0) = false -> Q ⟨.ce (.bool false), false, [], []⟩)) /\ ((x_4.1 == x_4.1) = false -> Q ⟨.ce (.bool false), false, [], []⟩)) /\ (x_3.2 = false -> Q ⟨.ce (.bool false), false, [], []⟩))) := by kernel_rfl
end Go.Proofs.YtoekmphdpepdbaaGreat
namespace U
theorem xhold {x : ShS} (h : okShop x) {fo ro : Int} {m : QM} {l lim : Int} (hi : x.inv m l) : x.nx true fo ro m lim = qmove m (m.v + qbrk x.A x.J m.v m.a) :=
 hold_next (shop_pre h).2.1 (fun u => by show qtg true fo ro x.R x.r.sg x.r.pk x.r.f x.r.ln u = 0; unfold qtg tgt; rw [if_pos rfl]) (xinv_bd h hi).1
theorem xstop {x : ShS} (h : okShop x) {m : QM} {l : Int} (hi : x.inv m l) :
 (0 < m.v /\ qfu x.A x.J m.u m.v m.a = [m.u + (m.v + qbrk x.A x.J m.v m.a)] :: qfu x.A x.J (m.u + (m.v + qbrk x.A x.J m.v m.a)) (m.v + qbrk x.A x.J m.v m.a) (qbrk x.A x.J m.v m.a)) ∨ (m.v = 0 /\ qbrk x.A x.J m.v m.a = 0 /\ qfu x.A x.J m.u m.v m.a = []) := by
 rcases (stop_next (shop_pre h).2.1 (xinv_bd h hi).1).2 with ⟨h1, h2⟩ | ⟨h1, h2, h3, _⟩
 . exact .inl ⟨h1, h2⟩
 . exact .inr ⟨h1, h2, h3⟩
end U
namespace Go.Proofs.YtoekmphdpepdbaaGreat
open Go Go.HL U
attribute [local irreducible] hfun bodyT fragT
theorem loopH1 : ∀ v Q, (LH1 v).wp Q -> hloop CHold anH1 (nthLoop Tryz.f10 0) v Q := by
 intro v Q h
 unfold LH1 at h
 split at h
 case h_2 => exact h.elim
 rename_i z k rb mu mv ma ml mp mb fo ro ho so oo
 obtain ⟨⟨x, ⟨hx, rfl⟩, hk, hi⟩, hq⟩ := h
 have P := shop_pre hx
 refine hloop_rec (σ := QM × Int) (fun s => ([.ce (.bool z), .ce (.ptr 1000013 0), .ce (.ptr 1000014 0), .ce (.ptr 1000015 0), .ce (I6 s.2)], [shopC x, [I6 s.1.u, I6 s.1.v, I6 s.1.a, I6 s.1.l, I6 s.1.p, I6 s.1.b], [I6 fo, I6 ro, .bool ho, .bool so, .bool oo]]))
  (fun s => s.2.toNat) (fun s => (0 <= s.2 /\ s.2 <= 50) /\ x.inv s.1 x.r.ln) ?_ (⟨mu, mv, ma, ml, mp, mb⟩, k) ⟨hk, hi⟩
 rintro ⟨m, k1⟩ ⟨hk1, hi1⟩ K hn hxx _
 dsimp only at hk1 hi1
 refine byVB (vbH1 x fo ro m.u m.v m.a m.l m.p m.b k1 z ho so oo K) ⟨fun g => ?_, fun g => hxx _ _ (hq m ⟨x, ⟨hx, rfl⟩, hi1⟩)⟩
 have g := odt g
 refine ⟨⟨x, ⟨hx, rfl⟩, ⟨P.2.2.1, Int.le_refl _⟩, x.r.ln, Int.le_refl _, hi1⟩, ⟨_, fun y hy => nx_eq hy _ _ _ _ _⟩, fun m2 hm2 => ⟨by omega, fun x4 e4 => ?_⟩⟩
 have hm2 := hm2 x rfl
 refine hn (m2, x4) ⟨by show 0 <= x4 /\ x4 <= 50; omega, ?_⟩ (by show x4.toNat < k1.toNat; omega)
 show x.inv m2 x.r.ln
 rw [hm2]
 exact xinv_next hx (Int.le_refl _) hi1
theorem loopH2 : ∀ v Q, (LH2 v).wp Q -> hloop CHold anH2 (nthLoop Tryz.f10 1) v Q := by
 intro v Q h
 unfold LH2 at h
 split at h
 case h_2 => exact h.elim
 rename_i z ok en fu len i rb mu mv ma ml mp mb fo ro ho so oo
 obtain ⟨⟨x, ⟨hx, rfl⟩, hi, rfl, hfu, rfl, rfl, hen⟩, hq⟩ := h
 have P := shop_pre hx
 refine hloop_rec (σ := QM × Nat) (fun s => ([.ce (.bool z), .ce (.ptr 1000013 0), .ce (.ptr 1000014 0), .ce (.ptr 1000015 0), .ce (.bool ok), .ce (I6 en), .ce (.sl false [4] fu), .ce (I6 (fu.length : Int)), .ce (I6 (s.2 : Int))], [shopC x, [I6 s.1.u, I6 s.1.v, I6 s.1.a, I6 s.1.l, I6 s.1.p, I6 s.1.b], [I6 fo, I6 ro, .bool true, .bool so, .bool oo]]))
  (fun s => fu.length - s.2) (fun s => s.2 <= fu.length /\ x.inv s.1 x.r.ln /\ qfu x.A x.J s.1.u s.1.v s.1.a = fu.drop s.2 /\ qend s.1.u (qfu x.A x.J s.1.u s.1.v s.1.a) = en) ?_ (⟨mu, mv, ma, ml, mp, mb⟩, 0) ⟨Nat.zero_le _, hi, by rw [hfu]; rfl, by rw [hen, hfu]⟩
 have hlen : fu.length <= 4096 := by rw [hfu]; unfold qfu; rw [qcum_len]; exact (qsp_spd (v := mv) (a := ma) P.2.1).1
 rintro ⟨m, j⟩ ⟨hj, hi1, hf, he⟩ K hn hxx _
 dsimp only at hj hi1 hf he
 have st := xstop hx hi1
 refine byVB (vbH2 x fo ro m.u m.v m.a m.l m.p m.b en fu.length j z ok true so oo fu K) ⟨fun g => ?_, fun g => ?_⟩
 . have g := odt g
   have hjl : j < fu.length := by omega
   have hd := List.drop_eq_getElem_cons (l := fu) (i := j) hjl
   rcases st with ⟨s1, s2⟩ | ⟨s1, s2, s3⟩
   . refine ⟨by omega, fun x1 e1 => ⟨⟨x, ⟨hx, rfl⟩, ⟨P.2.2.1, Int.le_refl _⟩, x.r.ln, Int.le_refl _, hi1⟩, ⟨_, fun y hy => nx_eq hy _ _ _ _ _⟩, fun m2 hm2 => ?_⟩⟩
     have hm2 := hm2 x rfl
     have hI : x.inv m2 x.r.ln := by rw [hm2]; exact xinv_next hx (Int.le_refl _) hi1
     rw [xhold hx hi1] at hm2
     have ea : m2.a = qbrk x.A x.J m.v m.a := by rw [hm2]; exact qmove_a m _
     have eu : m2.u = m.u + (m.v + qbrk x.A x.J m.v m.a) := by rw [hm2]; rfl
     have ev : m2.v = m.v + qbrk x.A x.J m.v m.a := by rw [hm2]; rfl
     rw [<- eu, <- ev, <- ea] at s2
     rw [s2, qend_cons] at he
     rw [s2, hd] at hf
     have h1 := (List.cons.inj hf).1
     have h2 := (List.cons.inj hf).2
     have h3 : x1 = m2.u := by
      rw [e1]
      unfold el
      rw [show (j : Int).toNat = j by omega, show fu.getD j [] = fu[j] by simp [List.getD_eq_getElem?_getD, hjl], <- h1]; rfl
     refine ⟨fun g2 => ?_, fun _ => ⟨by omega, fun x5 e5 => ?_⟩⟩
     . rw [h3] at g2; simp at g2
     . rw [e5, show (j : Int) + 1 = ((j + 1 : Nat) : Int) by omega]
       exact hn (m2, j + 1) ⟨by omega, hI, h2, he⟩ (by show fu.length - (j + 1) < fu.length - j; omega)
   . rw [s3, hd] at hf; cases hf
 . have g := odf g
   have hn : qfu x.A x.J m.u m.v m.a = [] := by rw [hf]; exact List.drop_eq_nil_of_le (by omega)
   rcases st with ⟨s1, s2⟩ | ⟨s1, s2, s3⟩
   . rw [hn] at s2; cases s2
   . rw [hn] at he
     exact hxx _ _ (hq m ⟨x, ⟨hx, rfl⟩, hi1, s1, by rw [<- he]; rfl⟩)
theorem loopH3 : ∀ v Q, (LH3 v).wp Q -> hloop CHold anH3 (nthLoop Tryz.f10 2) v Q := by
 intro v Q h
 unfold LH3 at h
 split at h
 case h_2 => exact h.elim
 rename_i z ok en k rb mu mv ma ml mp mb fo ro ho so oo
 obtain ⟨⟨x, ⟨hx, rfl⟩, hi, rfl, rfl, hv, hu⟩, hq⟩ := h
 have P := shop_pre hx
 refine hloop_rec (σ := QM × Int) (fun s => ([.ce (.bool z), .ce (.ptr 1000013 0), .ce (.ptr 1000014 0), .ce (.ptr 1000015 0), .ce (.bool ok), .ce (I6 en), .ce (I6 s.2)], [shopC x, [I6 s.1.u, I6 s.1.v, I6 s.1.a, I6 s.1.l, I6 s.1.p, I6 s.1.b], [I6 fo, I6 ro, .bool true, .bool so, .bool oo]]))
  (fun s => (3 - s.2).toNat) (fun s => (0 <= s.2 /\ s.2 <= 3) /\ x.inv s.1 x.r.ln /\ s.1.v = 0 /\ s.1.u = en /\ (1 <= s.2 -> s.1.a = 0 /\ s.1.l = en) /\ (2 <= s.2 -> s.1.p = en)) ?_ (⟨mu, mv, ma, ml, mp, mb⟩, 0) ⟨⟨Int.le_refl 0, by show (0 : Int) <= 3; decide⟩, hi, hv, hu, fun h => absurd (show (1 : Int) <= 0 from h) (by decide), fun h => absurd (show (2 : Int) <= 0 from h) (by decide)⟩
 rintro ⟨m, k1⟩ ⟨hk1, hi1, hv1, hu1, h1, h2⟩ K hn hxx _
 dsimp only at hk1 hi1 hv1 hu1 h1 h2
 refine byVB (vbH3 x fo ro m.u m.v m.a m.l m.p m.b en k1 z ok true so oo K) ⟨fun g => ?_, fun g => ?_⟩
 . have g := odt g
   refine ⟨⟨x, ⟨hx, rfl⟩, ⟨P.2.2.1, Int.le_refl _⟩, x.r.ln, Int.le_refl _, hi1⟩, ⟨_, fun y hy => nx_eq hy _ _ _ _ _⟩, fun m2 hm2 => ⟨by omega, fun x4 e4 => ?_⟩⟩
   have hm2 := hm2 x rfl
   have hI : x.inv m2 x.r.ln := by rw [hm2]; exact xinv_next hx (Int.le_refl _) hi1
   rw [xhold hx hi1] at hm2
   rcases xstop hx hi1 with ⟨s1, s2⟩ | ⟨s1, s2, s3⟩
   . omega
   . rw [s1] at s2 hm2
     rw [s2] at hm2
     have ev : m2.v = 0 := by rw [hm2]; rfl
     have eu : m2.u = en := by rw [hm2, <- hu1]; show m.u + (0 + 0) = m.u; omega
     have ea : m2.a = 0 := by rw [hm2]; show 0 + 0 - m.v = 0; omega
     have el : m2.l = en := by rw [hm2, <- hu1]; rfl
     have ep : m2.p = m.l := by rw [hm2]; rfl
     exact hn (m2, x4) ⟨by show 0 <= x4 /\ x4 <= 3; omega, hI, ev, eu, fun _ => ⟨ea, el⟩, fun h => by rw [ep]; exact (h1 (by have h : 2 <= x4 := h; omega)).2⟩ (by show (3 - x4).toNat < (3 - k1).toNat; omega)
 . have g := odf g
   have a1 := h1 (by omega)
   have a2 := h2 (by omega)
   have q := hxx _ _ (hq m.b trivial)
   rw [hv1, hu1, a1.1, a1.2, a2]
   exact q
theorem sLHold : Sound Tryz.prog 10 SLHold := by
 refine sound_of (C := CHold) tabHold Tryz.func10 (by kernel_rfl) (by decide +kernel) (by kernel_rfl) rfl ⟨sAw36, sMade, sQStart, sMod, sNxS, sQRest, sQFut, trivial⟩ (loopsK [nthLoop Tryz.f10 0, nthLoop Tryz.f10 1, nthLoop Tryz.f10 2] [] (by kernel_rfl) (by kernel_rfl) ⟨loopOK_of (an := anH1) (S := LH1) (by kernel_rfl) loopH1, loopOK_of (an := anH2) (S := LH2) (by kernel_rfl) loopH2, loopOK_of (an := anH3) (S := LH3) (by kernel_rfl) loopH3, trivial⟩ trivial) ?_
 intro hA pA R h
 unfold SLHold at h
 split at h
 case h_2 => exfalso; exact h
 rename_i l ax pl ds cy fa
 obtain ⟨⟨hl, hax, hpl⟩, hR⟩ := h
 refine byVC (vcHold l ax pl ds cy fa R) ⟨trivial, ⟨_, rfl⟩, fun a ea => ⟨fun g => by rw [ea] at g; simp at g, fun _ => ⟨⟨hl, hax, hpl⟩, okShop_ex, fun x hx => ⟨by decide, ⟨_, rfl⟩, fun q eq => ⟨by decide, fun x4 e4 => ?_⟩⟩⟩⟩⟩
 have P := shop_pre hx
 refine ⟨⟨x, ⟨hx, rfl⟩, by omega, ?_⟩, fun m hm => ?_⟩
 . rw [eq]
   exact xinv_start hx (by decide) P.2.2.1
 obtain ⟨x', ⟨hx', ex⟩, hi⟩ := hm
 have hi : x.inv m x.r.ln := by rw [xln_eq ex]; exact xinv_eq ex.symm hi
 have bd := xinv_bd hx hi
 have uN := xinv_V hx (Int.le_refl _) hi
 refine ⟨⟨P.2.1, uN.1⟩, ⟨_, rfl⟩, fun y ey => ⟨⟨P.2.1, uN.1⟩, ⟨_, rfl⟩, fun r er => ?_⟩⟩
 rw [if_pos bd.1, bd.1] at er
 rw [bd.1] at ey
 subst er ey
 refine ⟨⟨x, ⟨hx, rfl⟩, hi, rfl, rfl, rfl, rfl, rfl⟩, fun m2 hm2 => ?_⟩
 obtain ⟨x2, ⟨hx2, ex2⟩, hi2, hv2, hu2⟩ := hm2
 refine ⟨⟨x2, ⟨hx2, ex2⟩, hi2, rfl, rfl, hv2, hu2⟩, fun b _ => ⟨fun _ => ⟨fun _ => ⟨fun _ => ⟨fun _ => ⟨fun _ => ?_, fun g => ?_⟩, fun g => ?_⟩, fun g => ?_⟩, fun g => ?_⟩, fun g => ?_⟩⟩
 . rw [beq_self_eq_true]; exact hR
 all_goals simp at g
end Go.Proofs.YtoekmphdpepdbaaGreat
