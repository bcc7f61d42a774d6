/-
  Part 1.
  Conditions: none.
-/
import Derived.Test.YtoekmphdpepdbaaGreatJ6
set_option maxRecDepth 100000
set_option maxHeartbeats 400000
set_option linter.unusedVariables false
set_option linter.unusedSimpArgs false
open Go
namespace Go.HL
open Go Go.ChangeShapes Go.WideShapes Go.ChangeAt Go.RowKit
def fieldsK (P : Program) (rec : TypeId -> Option (List Nat)) : List Field -> Nat -> Option (List Nat)
 | [], _ => some []
 | fl :: r, off => match rec fl.type with
  | some a => bif Nat.beq fl.offset off && Nat.beq (P.cellsOf fl.type) a.length then (match fieldsK P rec r (off + a.length) with
   | some b => some (a ++ b)
   | none => none) else none
  | none => none
def repK : Nat -> List Nat -> List Nat
 | 0, _ => []
 | n + 1, a => a ++ repK n a
def kindsOf (P : Program) : Nat -> TypeId -> Option (List Nat)
 | 0, _ => none
 | f + 1, t => match P.underlying t with
  | some .bool => some [0]
  | some (.int k) => some [kcode k]
  | some (.struct fs) => match fieldsK P (kindsOf P f) fs.toList 0 with
   | some ks => bif Nat.beq ks.length (P.cellsOf t) then some ks else none
   | none => none
  | some (.array n e) => match kindsOf P f e with
   | some a => bif Nat.beq (P.cellsOf e) a.length && Nat.beq (P.cellsOf t) (n * a.length) then some (repK n a) else none
   | none => none
  | _ => none
def InK : Nat -> Int -> Prop
 | 0, n => n = 0 ∨ n = 1
 | k + 1, n => kLo (kk k) <= n /\ n <= kHi (kk k)
def zipK : List Nat -> List Int -> List Value
 | k :: ks, n :: r => kval k n :: zipK ks r
 | _, _ => []
def AllIn : List Nat -> List Int -> Prop
 | k :: ks, n :: r => InK k n /\ AllIn ks r
 | [], [] => True
 | _, _ => False
def Flat (ks : List Nat) (cs : List Value) : Prop := ∃ row, AllIn ks row /\ cs = zipK ks row
theorem AllIn.len : ∀ {ks : List Nat} {row : List Int}, AllIn ks row -> row.length = ks.length
 | [], [], _ => rfl
 | _ :: _, _ :: _, h => by simp [AllIn.len h.2]
 | [], _ :: _, h => h.elim
 | _ :: _, [], h => h.elim
theorem AllIn.append : ∀ {a b : List Nat} {r s : List Int}, AllIn a r -> AllIn b s -> AllIn (a ++ b) (r ++ s) /\ zipK (a ++ b) (r ++ s) = zipK a r ++ zipK b s
 | [], b, [], s, _, h => ⟨h, rfl⟩
 | _ :: a, b, _ :: r, s, h, h' => by
  obtain ⟨h1, h2⟩ := AllIn.append (a := a) (r := r) h.2 h'
  exact ⟨⟨h.1, h1⟩, by simp [zipK, h2]⟩
 | [], _, _ :: _, _, h, _ => h.elim
 | _ :: _, _, [], _, h, _ => h.elim
theorem Flat.append {a b : List Nat} {cs ds : List Value} (h : Flat a cs) (h' : Flat b ds) : Flat (a ++ b) (cs ++ ds) := by
 obtain ⟨r, h1, rfl⟩ := h
 obtain ⟨s, h2, rfl⟩ := h'
 exact ⟨r ++ s, (AllIn.append h1 h2).1, (AllIn.append h1 h2).2.symm⟩
theorem zipK_get : ∀ {ks : List Nat} {row : List Int} {j : Nat}, AllIn ks row -> j < ks.length -> (zipK ks row)[j]? = some (kval (ks.getD j 0) (row.getD j 0)) /\ InK (ks.getD j 0) (row.getD j 0)
 | _ :: _, _ :: _, 0, h, _ => ⟨rfl, h.1⟩
 | _ :: ks, _ :: r, j + 1, h, hj => by
  have := zipK_get (j := j) h.2 (by simpa using hj)
  simpa [zipK] using this
 | [], _, _, _, hj => by simp at hj
 | _ :: _, [], _, h, _ => h.elim
section
variable {H : Type} {enc : TypeId × Value -> H} {P : Program} {w : World} {base : Nat} {spare : Nat -> Bool} {held : Bool}
theorem wf_in {k : IntKind} {n : Int} (h : (Lit.int k n).wf = true) : InK (kcode k) n /\ kval (kcode k) n = .int k n := by
 simp only [Lit.wf, Bool.and_eq_true, decide_eq_true_eq] at h
 cases k <;> simp [IntKind.min, IntKind.max, IntKind.signed, IntKind.bits] at h <;> exact ⟨by simp [InK, kcode, kk, kLo, kHi]; omega, rfl⟩
theorem fields_flat {rec : TypeId -> Option (List Nat)} {cs : List Value} {n : Nat}
 (hrec : ∀ t ks, rec t = some ks -> ∀ cs x, DataW.trod enc P w base spare held n t cs = some x -> Flat ks cs) :
 ∀ (fs : List Field) (off : Nat) (ks : List Nat), fieldsK P rec fs off = some ks -> off + ks.length = cs.length ->
  (∀ f, f ∈ fs -> ∃ x, DataW.trod enc P w base spare held n f.type ((cs.drop f.offset).take (P.cellsOf f.type)) = some x) -> Flat ks (cs.drop off)
 | [], off, ks, h, hl, _ => by
  cases h
  have : cs.drop off = [] := List.drop_eq_nil_of_le (by simp at hl; omega)
  rw [this]
  exact ⟨[], trivial, rfl⟩
 | fl :: r, off, ks, h, hl, hf => by
  unfold fieldsK at h
  split at h
  case h_2 => cases h
  rename_i a ha
  cases hb : (Nat.beq fl.offset off && Nat.beq (P.cellsOf fl.type) a.length) with
  | false => rw [hb] at h; cases h
  | true =>
   rw [hb] at h
   simp only [cond_true] at h
   rw [Bool.and_eq_true] at hb
   have e1 := Nat.eq_of_beq_eq_true hb.1
   have e2 := Nat.eq_of_beq_eq_true hb.2
   split at h
   case h_2 => cases h
   rename_i b hbb
   cases h
   obtain ⟨x, hx⟩ := hf fl (List.mem_cons_self ..)
   rw [e1, e2] at hx
   have f1 := hrec _ _ ha _ _ hx
   have f2 := fields_flat hrec r (off + a.length) b hbb (by simp at hl; omega) (fun f hm => hf f (List.mem_cons_of_mem _ hm))
   have : cs.drop off = (cs.drop off).take a.length ++ cs.drop (off + a.length) := by
    rw [<- List.drop_drop, List.take_append_drop]
   rw [this]
   exact f1.append f2
theorem elems_flat {a : List Nat} {cs : List Value} : ∀ (n i : Nat), i * a.length + n * a.length = cs.length -> (∀ j, i <= j -> j < i + n -> Flat a ((cs.drop (j * a.length)).take a.length)) -> Flat (repK n a) (cs.drop (i * a.length))
 | 0, i, hl, _ => by
  have : cs.drop (i * a.length) = [] := List.drop_eq_nil_of_le (by omega)
  rw [this]
  exact ⟨[], trivial, rfl⟩
 | n + 1, i, hl, h => by
  have e : (n + 1) * a.length = n * a.length + a.length := Nat.succ_mul _ _
  have e2 : (i + 1) * a.length = i * a.length + a.length := Nat.succ_mul _ _
  have f1 := h i (Nat.le_refl _) (by omega)
  have f2 := elems_flat n (i + 1) (by omega) (fun j h1 h2 => h j (by omega) (by omega))
  have : cs.drop (i * a.length) = (cs.drop (i * a.length)).take a.length ++ cs.drop ((i + 1) * a.length) := by
   rw [e2, <- List.drop_drop, List.take_append_drop]
  rw [this]
  exact f1.append f2
theorem trod_flat : ∀ (f : Nat) (t : TypeId) (ks : List Nat), kindsOf P f t = some ks -> ∀ fuel cs x, DataW.trod enc P w base spare held fuel t cs = some x -> Flat ks cs
 | 0, _, _, h, _, _, _, _ => by cases h
 | f + 1, t, ks, h, fuel, cs, x, hx => by
  unfold kindsOf at h
  split at h
  . rename_i ht
    cases h
    obtain ⟨b, rfl, _⟩ := DataW.trod_bool ht hx
    refine ⟨[if b then 1 else 0], ⟨by cases b <;> simp [InK], trivial⟩, ?_⟩
    cases b <;> rfl
  . rename_i k ht
    cases h
    obtain ⟨n, rfl, _, hw⟩ := DataW.trod_int ht hx
    exact ⟨[n], ⟨(wf_in hw).1, trivial⟩, by simp [zipK, (wf_in hw).2]⟩
  . rename_i fs ht
    obtain ⟨xs, n, _, _, hl, hxl, hf⟩ := DataW.trod_struct ht hx
    split at h
    case h_2 => cases h
    rename_i ks' hk
    cases hb : Nat.beq ks'.length (P.cellsOf t) with
    | false => rw [hb] at h; cases h
    | true =>
     rw [hb] at h
     cases h
     have e := Nat.eq_of_beq_eq_true hb
     have := fields_flat (cs := cs) (n := n) (fun t ks h cs x hx => trod_flat f t ks h n cs x hx) fs.toList 0 ks hk (by omega) (fun fl hm => by
      obtain ⟨i, hi, he⟩ := List.mem_iff_getElem.1 hm
      have hi' : i < fs.size := by simpa using hi
      have h1 := hf i fl (by rw [Array.getElem?_eq_getElem hi']; simp at he; rw [he])
      rw [List.getElem?_eq_getElem (by omega)] at h1
      exact ⟨_, h1⟩)
     simpa using this
  . rename_i n e ht
    obtain ⟨xs, m, _, _, hl, hxl, hf⟩ := DataW.trod_array ht hx
    split at h
    case h_2 => cases h
    rename_i a ha
    cases hb : (Nat.beq (P.cellsOf e) a.length && Nat.beq (P.cellsOf t) (n * a.length)) with
    | false => rw [hb] at h; cases h
    | true =>
     rw [hb] at h
     cases h
     rw [Bool.and_eq_true] at hb
     have e1 := Nat.eq_of_beq_eq_true hb.1
     have e2 := Nat.eq_of_beq_eq_true hb.2
     have := elems_flat (a := a) (cs := cs) n 0 (by omega) (fun j _ hj => by
      have h1 := hf j (by omega)
      rw [List.getElem?_eq_getElem (by omega), e1] at h1
      exact trod_flat f e a ha m _ _ h1)
     simpa using this
  . cases h
theorem cells_flat {ks : List Nat} {a : Addr} {cs : List Value} (h1 : ∀ i, i < ks.length -> w.cell? (a.add i) = cs[i]?) (hf : Flat ks cs) :
 ∃ row : List Int, AllIn ks row /\ ∀ j, j < ks.length -> w.cell? (a.add j) = some (kval (ks.getD j 0) (row.getD j 0)) := by
 obtain ⟨row, hr, rfl⟩ := hf
 exact ⟨row, hr, fun j hj => by rw [h1 j hj]; exact (zipK_get hr hj).1⟩
theorem in_slice_sz {r : Reach} {b0 : Nat} {t e : TypeId} {ks : List Nat} {v : Value} {d : DataW H} {ps : List MemPlace} (ht : P.underlying t = some (.slice e)) (hk : kindsOf P 12 e = some ks) (hC : P.cellsOf e = ks.length) (hpos : 0 < ks.length)
 (hval : Value.okWide P w r b0 t v) (hd : DataW.Trod enc P w base (fun _ => true) held t v d ps) :
 ∃ rows : LL, rows.length <= maxLen /\ (∀ i, i < rows.length -> AllIn ks (rows.getD i [])) /\ VRel (G0 w) w none (.ce (.sl false ks rows)) v /\
  ∀ R B : Nat, (∀ es sp, d = .slice es sp -> (es.length + sp.length) * B <= R) -> rows.length * B <= R := by
 obtain ⟨fuel, hd⟩ := hd
 obtain ⟨ad, len, cap, rfl⟩ := okWide_slice ht hval
 have hc : (Value.slice ad len cap).cells.toList = [.slice ad len cap] := by simp [Value.cells]
 rw [hc] at hd
 rcases DataW.trod_slice ht hd with ⟨he, _⟩ | ⟨a, len', cap', elems, rest, n, _, he, hxd, hb, hl, hm, hlen, hel, hsp, _⟩
 . simp at he
   obtain ⟨rfl, rfl, rfl⟩ := he
   exact ⟨[], Nat.zero_le _, fun i hi => by simp at hi, ⟨none, 0, rfl, Nat.le_refl _, Nat.zero_le _, .inl ⟨.inl rfl, rfl, rfl⟩⟩, fun R B _ => by simp⟩
 . simp at he
   obtain ⟨rfl, rfl, rfl⟩ := he
   obtain ⟨hrl, hrest⟩ := hsp rfl
   have hall : ∀ i, i < cap -> ∃ row : List Int, AllIn ks row /\ ∀ j, j < ks.length -> w.cell? ((a.add (i * ks.length)).add j) = some (kval (ks.getD j 0) (row.getD j 0)) := by
    intro i hi
    have key : ∀ y, (w.cells? base (a.add (i * P.cellsOf e)) (P.cellsOf e)).bind (DataW.trod enc P w base (fun _ => true) held n e) = some y ->
     ∃ row : List Int, AllIn ks row /\ ∀ j, j < ks.length -> w.cell? ((a.add (i * ks.length)).add j) = some (kval (ks.getD j 0) (row.getD j 0)) := by
     intro y hy
     rw [Option.bind_eq_some_iff] at hy
     obtain ⟨cs, h1, h2⟩ := hy
     obtain ⟨_, _, h3⟩ := World.cells?_some h1
     rw [hC] at h3
     exact cells_flat h3 (trod_flat 12 e ks hk n cs y h2)
    by_cases hi2 : i < len
    . have := hel i hi2
      rw [List.getElem?_eq_getElem (by omega)] at this
      exact key _ this
    . have := hrest (i - len) (by omega)
      rw [List.getElem?_eq_getElem (by omega), show len + (i - len) = i by omega] at this
      exact key _ this
   have hch : ∀ i, ∃ row : List Int, i < cap -> AllIn ks row /\ ∀ j, j < ks.length -> w.cell? ((a.add (i * ks.length)).add j) = some (kval (ks.getD j 0) (row.getD j 0)) := by
    intro i
    by_cases hi : i < cap
    . obtain ⟨row, h⟩ := hall i hi; exact ⟨row, fun _ => h⟩
    . exact ⟨[], fun h => absurd h hi⟩
   obtain ⟨f, hrows⟩ : ∃ f : Nat -> List Int, ∀ i, i < cap -> AllIn ks (f i) /\ ∀ j, j < ks.length -> w.cell? ((a.add (i * ks.length)).add j) = some (kval (ks.getD j 0) ((f i).getD j 0)) :=
    ⟨fun i => Classical.choose (hch i), fun i => Classical.choose_spec (hch i)⟩
   clear hch
   refine ⟨(List.range len).map f, by simp; omega, fun i hi => ?_, ?_, fun R B hs => ?_⟩
   . simp at hi
     have : ((List.range len).map f).getD i [] = f i := by simp [List.getD_eq_getElem?_getD, hi]
     rw [this]
     exact (hrows i (by omega)).1
   . have hll : ((List.range len).map f).length = len := by simp
     refine ⟨some a, cap, by rw [hll], by rw [hll]; exact hl, hm, ?_⟩
     rw [hll]
     by_cases hc0 : cap = 0
     . exact .inl ⟨.inl rfl, by omega, hc0⟩
     . have h0 := (hrows 0 (by omega)).2 0 hpos
       have hx0 : (a.add (0 * ks.length)).add 0 = a := by simp [Addr.add]
       rw [hx0] at h0
       obtain ⟨hbk, hs⟩ := cell_lt h0
       have hx : a = at_ a.block a.off := by
        cases a with
        | mk b o s => dsimp only at hs; subst hs; rfl
       refine .inr ⟨a.block, a.off, by rw [<- hx], fun i j hi hj => ⟨hbk, ?_⟩, fun _ e => nomatch e⟩
       have h1 := (hrows i (by omega)).2 j hj
       rw [hx, at_add, at_add, show a.off + i * ks.length + j = a.off + (i * ks.length + j) by omega] at h1
       have hg : ((List.range len).map f).getD i [] = f i := by simp [List.getD_eq_getElem?_getD, hi]
       rw [hg]
       exact h1
   . have := hs (elems.map (·.1)) (rest.map (·.1)) (congrArg Prod.fst hxd)
     simp only [List.length_map, List.length_range] at this ⊢
     rw [hlen, Nat.add_mul] at this
     omega
theorem in_slice {r : Reach} {b0 : Nat} {t e : TypeId} {ks : List Nat} {v : Value} {d : DataW H} {ps : List MemPlace} (ht : P.underlying t = some (.slice e)) (hk : kindsOf P 12 e = some ks) (hC : P.cellsOf e = ks.length) (hpos : 0 < ks.length)
 (hval : Value.okWide P w r b0 t v) (hd : DataW.Trod enc P w base (fun _ => true) held t v d ps) :
 ∃ rows : LL, rows.length <= maxLen /\ (∀ i, i < rows.length -> AllIn ks (rows.getD i [])) /\ VRel (G0 w) w none (.ce (.sl false ks rows)) v := by
 obtain ⟨rows, h1, h2, h3, _⟩ := in_slice_sz ht hk hC hpos hval hd
 exact ⟨rows, h1, h2, h3⟩
end
end Go.HL
namespace Go.Proofs.YtoekmphdpepdbaaGreat
open Go Go.HL U
def SLMoves (hA : List HV) (pA : List (List HC)) : SR :=
 match hA, pA with
 | [.ce (.sl false [4] l), .ce (.sl false [4] ax), .ce (.sl false [4] pl), .ce (.int .i64 ds), .ce (.int .i64 lm), .ce (.int .i64 fe), .ce (.bool fa)], [] =>
  .det (l.length <= 9223372036854775807 /\ ax.length <= 9223372036854775807 /\ pl.length <= 9223372036854775807) okR
 | _, _ => .fail
def tabMoves : List (FuncId × HL.Spec) := [(11, STrue0), (12, SMade), (20, SQStart), (15, SMod), (23, SNxS)]
def anV1 : LAnn := ⟨[4, 14, 15, 16, 17, 18, 100018, 19], [4, 14, 18], [1000015, 1000016, 1000017], false⟩
def anV2 : LAnn := ⟨[4, 14, 18, 20], [4, 14, 18], [], false⟩
def okAt (lim : Int) (l : LL) : Prop := l.length = 61 /\ (∀ j, 3 <= j -> j < 61 -> ¬ (el l j <= el l (j - 3) /\ el l (j - 3) ≠ lim * 256)) /\ el l 60 <= lim * 256
def LV1 (v : LV) : LR :=
 match v with
 | ([.ce (.int .i64 lim), .ce (.bool z), .ce (.ptr 1000015 0), .ce (.ptr 1000016 0), .ce (.ptr 1000017 0), .ce (.sl false [4] l), .ce (.lit true), .ce (.int .i64 k)], [rb, [.int .i64 fo, .int .i64 ro, .bool ho, .bool so, .bool oo], [.int .i64 mu, .int .i64 mv, .int .i64 ma, .int .i64 ml, .int .i64 mp, .int .i64 mb]]) =>
  .all (∃ x, (okShop x /\ rb = shopC x) /\ (0 <= lim /\ lim <= x.r.ln) /\ (ho = false /\ fo ≠ 0 /\ ro ≠ 0) /\ k = 0 /\ (l.length = 1 /\ el l 0 = 0) /\ (mu = 0 /\ mv = 0 /\ ma = 0 /\ ml = 0 /\ mp = 0 /\ mb = 0)) (LL × QM) (fun y => okAt lim y.1) (fun _ => .exit 0)
   (fun y => ([.ce (I6 lim), .ce (.bool z), .ce (.sl false [4] y.1)], [rb, [I6 fo, I6 ro, .bool ho, .bool so, .bool oo], [I6 y.2.u, I6 y.2.v, I6 y.2.a, I6 y.2.l, I6 y.2.p, I6 y.2.b]]))
 | _ => .fail
def LV2 (v : LV) : LR :=
 match v with
 | ([.ce (.int .i64 lim), .ce (.bool z), .ce (.sl false [4] l), .ce (.int .i64 k)], []) =>
  .det (okAt lim l /\ k = 3 /\ (0 <= lim /\ lim <= 1099511627776)) (.exit 2) ([.ce (I6 lim), .ce (.bool z), .ce (.sl false [4] l)], [])
 | _ => .fail
noncomputable def CMoves : Ctx := ⟨Tryz.prog, gam tabMoves, Tryz.f6.ntmps, [(9, anV1, LV1), (14, anV2, LV2)], []⟩
theorem vbV1 (x : ShS) (lim fo ro mu mv ma ml mp mb k : Int) (z ho so oo : Bool) (l : LL) (K : HEx -> LV -> Prop) : (nbodyT true CMoves anV1 (nthLoop Tryz.f6 0) (([.ce (I6 lim), .ce (.bool z), .ce (.ptr 1000015 0), .ce (.ptr 1000016 0), .ce (.ptr 1000017 0), .ce (.sl false [4] l), .ce (.lit true), .ce (I6 k)], [(shopC x), [I6 fo, I6 ro, .bool ho, .bool so, .bool oo], [I6 mu, I6 mv, I6 ma, I6 ml, I6 mp, I6 mb]])) K) =
 (Br (k < 60) ((∃ (x_1 : ShS), (okShop x_1 /\ (shopC x) = shopC x_1) /\
 (0 <= lim /\ lim <= x_1.r.ln) /\ ∃ (l : Int), l <= lim /\ ShS.inv x_1 ⟨mu, mv, ma, ml, mp, mb⟩ l) /\ (∃ (x_1 : QM), ∀ (x_2 : ShS), (shopC x) = shopC x_2 ->
 x_1 = ShS.nx x_2 ho fo ro ⟨mu, mv, ma, ml, mp, mb⟩ lim) /\ ∀ (x_1 : QM), (∀ (x_2 : ShS), (shopC x) = shopC x_2 ->
 x_1 = ShS.nx x_2 ho fo ro ⟨mu, mv, ma, ml, mp, mb⟩ lim) -> ((l.length + 1) * 8 <= 140737488355328 /\ l.length + 1 <= maxLen) /\ R6 (k + 1) /\ ∀ x4, x4 = k + 1 -> K .normal ([.ce (I6 lim), .ce (.bool z), .ce (.ptr 1000015 0), .ce (.ptr 1000016 0), .ce (.ptr 1000017 0), .ce (.sl false [4] (l ++ [[x_1.u]])), .ce (.lit true), .ce (I6 x4)], [(shopC x), [I6 fo, I6 ro, .bool ho, .bool so, .bool oo], [I6 x_1.u, I6 x_1.v, I6 x_1.a, I6 x_1.l, I6 x_1.p, I6 x_1.b]])) (K (.exit 0) ([.ce (I6 lim), .ce (.bool z), .ce (.sl false [4] l)], [(shopC x), [I6 fo, I6 ro, .bool ho, .bool so, .bool oo], [I6 mu, I6 mv, I6 ma, I6 ml, I6 mp, I6 mb]]))) := by kernel_rfl
theorem vbV2 (lim k : Int) (z : Bool) (l : LL) (K : HEx -> LV -> Prop) : (nbodyT true CMoves anV2 (nthLoop Tryz.f6 1) (([.ce (I6 lim), .ce (.bool z), .ce (.sl false [4] l), .ce (I6 k)], [])) K) =
 (Br (k < (l.length : Int)) ((0 <= k /\ k < (l.length : Int)) /\ ∀ x1, x1 = el l k.toNat -> R6 (k - 3) /\ ∀ x2, x2 = k - 3 -> (0 <= x2 /\ x2 < (l.length : Int)) /\ ∀ x3, x3 = el l x2.toNat -> Br (x1 <= x3) (R6 (k - 3) /\ ∀ x4, x4 = k - 3 -> (0 <= x4 /\ x4 < (l.length : Int)) /\ ∀ x5, x5 = el l x4.toNat -> R6 (lim * 256) /\ ∀ x6, x6 = lim * 256 -> Bb (x5 != x6) (K .ret ([.ce (I6 lim), .ce (.bool false), .ce (.sl false [4] l)], [])) (R6 (k + 1) /\ ∀ x7, x7 = k + 1 -> K .normal ([.ce (I6 lim), .ce (.bool z), .ce (.sl false [4] l), .ce (I6 x7)], []))) (R6 (k + 1) /\ ∀ x8, x8 = k + 1 -> K .normal ([.ce (I6 lim), .ce (.bool z), .ce (.sl false [4] l), .ce (I6 x8)], []))) (K (.exit 2) ([.ce (I6 lim), .ce (.bool z), .ce (.sl false [4] l)], []))) := by kernel_rfl
theorem vcMoves (l ax pl : LL) (ds lm fe : Int) (fa : Bool) (Q : Res -> Prop) : (nfun true CMoves Tryz.f6 (bodyOf Tryz.f6) [.ce (.sl false [4] l), .ce (.sl false [4] ax), .ce (.sl false [4] pl), .ce (I6 ds), .ce (I6 lm), .ce (I6 fe), .ce (.bool fa)] [] Q) =
 (True /\ (∃ (x : Bool), x = true) /\ ∀ (x : Bool), x = true -> Bb (!x) (Q ⟨.ce (.bool false), false, [], []⟩) ((l.length <= 9223372036854775807 /\ ax.length <= 9223372036854775807 /\ pl.length <= 9223372036854775807) /\ (∃ (x : ShS), okShop x) /\ ∀ (x : ShS), okShop x -> R6 (x.r.ln + 1) /\ ∀ x3, x3 = x.r.ln + 1 -> (0 < x3 /\ x3 <= 4611686018427387904) /\ ∀ x4, x4 = lm % x3 -> ((0 : Int) < 200 /\ (200 : Int) <= 4611686018427387904) /\ ∀ x5, x5 = fe % 200 -> (-9223372036854775808 <= 1 + x5 /\ (1 : Int) + x5 <= 9223372036854775807) /\ ∀ x6, x6 = 1 + x5 -> ((-18014398509481984 : Int) <= 0 /\ (0 : Int) <= 18014398509481984) /\ (∃ (x : QM), x = qstart (0 : Int)) /\ ∀ (x_1 : QM), x_1 = qstart (0 : Int) -> (∃ (x_2 : ShS), (okShop x_2 /\
 (shopC x) = shopC x_2) /\
 (0 <= x4 /\ x4 <= x_2.r.ln) /\ (false = false /\ x6 ≠ 0 /\ (100 : Int) ≠ (0 : Int)) /\ (0 : Int) = 0 /\ ((1 : Nat) = 1 /\ (0 : Int) = 0) /\ x_1.u = 0 /\ x_1.v = 0 /\ x_1.a = 0 /\ x_1.l = 0 /\ x_1.p = 0 /\ x_1.b = 0) /\ ∀ (x : LL × QM), List.length x.1 = 61 /\ (∀ (j : Nat), (3 : Nat) <= j -> j < 61 -> ¬(el x.1 j <= el x.1 (j - 3) /\ el x.1 (j - 3) ≠ x4 * 256)) /\ el x.1 (60 : Nat) <= x4 * 256 -> ((List.length x.1 = 61 /\ (∀ (j : Nat), (3 : Nat) <= j -> j < 61 -> ¬(el x.1 j <= el x.1 (j - 3) /\ el x.1 (j - 3) ≠ x4 * 256)) /\ el x.1 (60 : Nat) <= x4 * 256) /\ (3 : Int) = 3 /\ 0 <= x4 /\ x4 <= 1099511627776) /\ R6 ((List.length x.1 : Int) - 1) /\ ∀ x11, x11 = (List.length x.1 : Int) - 1 -> (0 <= x11 /\ x11 < (List.length x.1 : Int)) /\
 ∀ x12, x12 = el x.1 x11.toNat -> R6 (x4 * 256) /\ ∀ x13, x13 = x4 * 256 -> Q ⟨.ce (.bool (decide (x12 <= x13))), false, [], []⟩)) := by kernel_rfl
end Go.Proofs.YtoekmphdpepdbaaGreat
namespace U
theorem el_snocL {l : LL} {u : Int} {j : Nat} (h : j < l.length) : el (l ++ [[u]]) j = el l j := by
 rw [el_append, if_pos h]
theorem el_snocR {l : LL} {u : Int} {j : Nat} (h : j = l.length) : el (l ++ [[u]]) j = u := by
 subst h; rw [el_append, if_neg (by omega), Nat.sub_self]; rfl
theorem xnx_move (x : ShS) (ho : Bool) (fo ro : Int) (m : QM) (lim : Int) : ∃ v, x.nx ho fo ro m lim = qmove m v := qnext_move _ _ _ _ _ _ _ _
end U
namespace Go.Proofs.YtoekmphdpepdbaaGreat
open Go Go.HL U
attribute [local irreducible] hfun bodyT fragT
theorem loopV1 : ∀ v Q, (LV1 v).wp Q -> hloop CMoves anV1 (nthLoop Tryz.f6 0) v Q := by
 intro v Q h
 unfold LV1 at h
 split at h
 case h_2 => exact h.elim
 rename_i lim z l k rb fo ro ho so oo mu mv ma ml mp mb
 obtain ⟨⟨x, ⟨hx, rfl⟩, hl, ⟨rfl, hfo, hro⟩, rfl, ⟨hl1, hl2⟩, rfl, rfl, rfl, rfl, rfl, rfl⟩, hq⟩ := h
 have P := shop_pre hx
 refine hloop_rec (σ := QM × LL × Nat) (fun s => ([.ce (I6 lim), .ce (.bool z), .ce (.ptr 1000015 0), .ce (.ptr 1000016 0), .ce (.ptr 1000017 0), .ce (.sl false [4] s.2.1), .ce (.lit true), .ce (I6 (s.2.2 : Int))], [shopC x, [I6 fo, I6 ro, .bool false, .bool so, .bool oo], [I6 s.1.u, I6 s.1.v, I6 s.1.a, I6 s.1.l, I6 s.1.p, I6 s.1.b]]))
  (fun s => 60 - s.2.2) (fun s => s.2.2 <= 60 /\ s.2.1.length = s.2.2 + 1 /\ x.inv s.1 lim /\ kin s.1 /\ (el s.2.1 s.2.2 = s.1.u /\ (1 <= s.2.2 -> el s.2.1 (s.2.2 - 1) = s.1.l) /\ (2 <= s.2.2 -> el s.2.1 (s.2.2 - 2) = s.1.p)) /\ ∀ j, 3 <= j -> j <= s.2.2 -> ¬ (el s.2.1 j <= el s.2.1 (j - 3) /\ el s.2.1 (j - 3) ≠ lim * 256)) ?_ (qstart 0, l, 0)
  ⟨Nat.zero_le 60, hl1, xinv_start hx (by decide) hl.1, kin_start 0, ⟨hl2, fun h => absurd (show (1 : Nat) <= 0 from h) (by decide), fun h => absurd (show (2 : Nat) <= 0 from h) (by decide)⟩, fun j h1 h2 => by have h2 : j <= 0 := h2; omega⟩
 rintro ⟨m, l1, k1⟩ ⟨hk1, hlen, hi1, hkin, ⟨c0, c1, c2⟩, hall⟩ K hn hxx _
 dsimp only at hk1 hlen hi1 hkin c0 c1 c2 hall
 have bd1 := xinv_bd hx hi1
 refine byVB (vbV1 x lim fo ro m.u m.v m.a m.l m.p m.b k1 z false so oo l1 K) ⟨fun g => ?_, fun g => ?_⟩
 . have g := odt g
   refine ⟨⟨x, ⟨hx, rfl⟩, hl, lim, Int.le_refl _, hi1⟩, ⟨_, fun y hy => nx_eq hy _ _ _ _ _⟩, fun m2 hm2 => ⟨⟨by omega, by unfold maxLen; omega⟩, by omega, fun x4 e4 => ?_⟩⟩
   have hm2 := hm2 x rfl
   have hI : x.inv m2 lim := by rw [hm2]; exact xinv_next hx (Int.le_refl _) hi1
   obtain ⟨v, hv⟩ := xnx_move x false fo ro m lim
   have hm3 : m2 = qmove m v := by rw [hm2, hv]
   have k2 : kin m2 := by rw [hm3]; exact kin_move hkin v
   have el2 : m2.l = m.u := by rw [hm3]; rfl
   have ep2 : m2.p = m.l := by rw [hm3]; rfl
   rw [e4, show (k1 : Int) + 1 = ((k1 + 1 : Nat) : Int) by omega]
   refine hn (m2, l1 ++ [[m2.u]], k1 + 1) ⟨by show k1 + 1 <= 60; omega, by show (l1 ++ [[m2.u]]).length = k1 + 1 + 1; simp [hlen], hI, k2, ⟨el_snocR hlen.symm, fun _ => ?_, fun h => ?_⟩, fun j h1 h2 => ?_⟩ (by show 60 - (k1 + 1) < 60 - k1; omega)
   . show el (l1 ++ [[m2.u]]) (k1 + 1 - 1) = m2.l
     rw [el_snocL (by omega), el2, show k1 + 1 - 1 = k1 from rfl, c0]
   . have h : 2 <= k1 + 1 := h
     show el (l1 ++ [[m2.u]]) (k1 + 1 - 2) = m2.p
     rw [el_snocL (by omega), ep2, show k1 + 1 - 2 = k1 - 1 from rfl, c1 (by omega)]
   . have h2 : j <= k1 + 1 := h2
     show ¬ (el (l1 ++ [[m2.u]]) j <= el (l1 ++ [[m2.u]]) (j - 3) /\ el (l1 ++ [[m2.u]]) (j - 3) ≠ lim * 256)
     rw [el_snocL (j := j - 3) (by omega)]
     by_cases e : j <= k1
     . rw [el_snocL (by omega)]; exact hall j h1 e
     . have e : j = k1 + 1 := by omega
       rw [el_snocR (by omega), e, show k1 + 1 - 3 = k1 - 2 from rfl, c2 (by omega)]
       rintro ⟨t1, t2⟩
       have bd2 := xinv_bd hx hI
       have o := hi1.2
       unfold kin at hkin k2
       have := xmoves hx hfo hro (m := m) (lim := lim) hl.2 hi1 (by omega) (by omega) (by omega) (by omega) (by omega)
       rw [<- hm2] at this
       omega
 . have g := odf g
   have e : k1 = 60 := by omega
   subst e
   exact hxx _ _ (hq (l1, m) ⟨hlen, fun j h1 h2 => hall j h1 (by omega), by rw [c0]; omega⟩)
theorem loopV2 : ∀ v Q, (LV2 v).wp Q -> hloop CMoves anV2 (nthLoop Tryz.f6 1) v Q := by
 intro v Q h
 unfold LV2 at h
 split at h
 case h_2 => exact h.elim
 rename_i lim z l k
 obtain ⟨⟨⟨h1, h2, h3⟩, rfl, hl⟩, hq⟩ := h
 refine hloop_rec (σ := Nat) (fun s => ([.ce (I6 lim), .ce (.bool z), .ce (.sl false [4] l), .ce (I6 (s : Int))], []))
  (fun s => 61 - s) (fun s => 3 <= s /\ s <= 61) ?_ 3 ⟨Nat.le_refl _, by decide⟩
 rintro k ⟨k1, k2⟩ K hn hxx _
 refine byVB (vbV2 lim k z l K) ⟨fun g => ?_, fun g => hxx _ _ hq⟩
 have g := odt g
 have go : ∀ y : Int, y = k + 1 -> K .normal ([.ce (I6 lim), .ce (.bool z), .ce (.sl false [4] l), .ce (I6 y)], []) := fun y ey => by
  rw [ey, show (k : Int) + 1 = ((k + 1 : Nat) : Int) by omega]
  exact hn (k + 1) ⟨by omega, by omega⟩ (by omega)
 refine ⟨by omega, fun x1 e1 => ⟨by omega, fun x2 e2 => ⟨by omega, fun x3 e3 => ⟨fun g2 => ⟨by omega, fun x4 e4 => ⟨by omega, fun x5 e5 => ⟨by omega, fun x6 e6 => ⟨fun g3 => ?_, fun _ => ⟨by omega, fun y ey => go y ey⟩⟩⟩⟩⟩, fun _ => ⟨by omega, fun y ey => go y ey⟩⟩⟩⟩⟩
 have g2 := odt g2
 have c := h2 k k1 (by omega)
 have g3 : x5 ≠ x6 := by simpa using g3
 rw [e1, e3, e2, show (k : Int).toNat = k from rfl, show ((k : Int) - 3).toNat = k - 3 by omega] at g2
 rw [e5, e6, e4, show ((k : Int) - 3).toNat = k - 3 by omega] at g3
 exact absurd ⟨g2, g3⟩ c
theorem sLMoves : Sound Tryz.prog 6 SLMoves := by
 refine sound_of (C := CMoves) tabMoves Tryz.func6 (by kernel_rfl) (by decide +kernel) (by kernel_rfl) rfl ⟨sAw36, sMade, sQStart, sMod, sNxS, trivial⟩ (loopsK [nthLoop Tryz.f6 0, nthLoop Tryz.f6 1] [] (by kernel_rfl) (by kernel_rfl) ⟨loopOK_of (an := anV1) (S := LV1) (by kernel_rfl) loopV1, loopOK_of (an := anV2) (S := LV2) (by kernel_rfl) loopV2, trivial⟩ trivial) ?_
 intro hA pA R h
 unfold SLMoves at h
 split at h
 case h_2 => exfalso; exact h
 rename_i l ax pl ds lm fe fa
 obtain ⟨⟨hl, hax, hpl⟩, hR⟩ := h
 refine byVC (vcMoves l ax pl ds lm fe fa R) ⟨trivial, ⟨_, rfl⟩, fun a ea => ⟨fun g => by rw [ea] at g; simp at g, fun _ => ⟨⟨hl, hax, hpl⟩, okShop_ex, fun x hx => ?_⟩⟩⟩
 have P := (shop_pre hx).2.2
 refine ⟨by omega, fun x3 e3 => ⟨by omega, fun x4 e4 => ⟨by decide, fun x5 e5 => ⟨by omega, fun x6 e6 => ⟨by decide, ⟨_, rfl⟩, fun q eq => ?_⟩⟩⟩⟩⟩
 have h1 := Int.emod_nonneg lm (show x3 ≠ 0 by omega)
 have h2 := Int.emod_lt_of_pos lm (show 0 < x3 by omega)
 refine ⟨⟨x, ⟨hx, rfl⟩, by omega, ⟨rfl, by omega, by decide⟩, rfl, ⟨rfl, rfl⟩, by rw [eq]; exact ⟨rfl, rfl, rfl, rfl, rfl, rfl⟩⟩, fun y hy => ⟨⟨hy, rfl, by omega, by omega⟩, by omega, fun z1 f1 => ⟨by omega, fun z2 f2 => ⟨by omega, fun z3 f3 => ?_⟩⟩⟩⟩
 rw [decide_eq_true (by rw [f2, f3, f1, hy.1]; exact hy.2.2)]
 exact hR
end Go.Proofs.YtoekmphdpepdbaaGreat
