/-
  Part 1.
  Conditions: none.
-/
import Derived.Test.YtoekmphdpepdbaaGreatJ6
set_option maxRecDepth 100000
set_option maxHeartbeats 400000
set_option linter.unusedVariables false
set_option linter.unusedSimpArgs false
open Go
namespace Go.HL
open Go Go.ChangeShapes Go.WideShapes Go.ChangeAt Go.RowKit
def fieldsK (P : Program) (rec : TypeId -> Option (List Nat)) : List Field -> Nat -> Option (List Nat)
 | [], _ => some []
 | fl :: r, off => match rec fl.type with
  | some a => bif Nat.beq fl.offset off && Nat.beq (P.cellsOf fl.type) a.length then (match fieldsK P rec r (off + a.length) with
   | some b => some (a ++ b)
   | none => none) else none
  | none => none
def repK : Nat -> List Nat -> List Nat
 | 0, _ => []
 | n + 1, a => a ++ repK n a
def kindsOf (P : Program) : Nat -> TypeId -> Option (List Nat)
 | 0, _ => none
 | f + 1, t => match P.underlying t with
  | some .bool => some [0]
  | some (.int k) => some [kcode k]
  | some (.struct fs) => match fieldsK P (kindsOf P f) fs.toList 0 with
   | some ks => bif Nat.beq ks.length (P.cellsOf t) then some ks else none
   | none => none
  | some (.array n e) => match kindsOf P f e with
   | some a => bif Nat.beq (P.cellsOf e) a.length && Nat.beq (P.cellsOf t) (n * a.length) then some (repK n a) else none
   | none => none
  | _ => none
def InK : Nat -> Int -> Prop
 | 0, n => n = 0 ∨ n = 1
 | k + 1, n => kLo (kk k) <= n /\ n <= kHi (kk k)
def zipK : List Nat -> List Int -> List Value
 | k :: ks, n :: r => kval k n :: zipK ks r
 | _, _ => []
def AllIn : List Nat -> List Int -> Prop
 | k :: ks, n :: r => InK k n /\ AllIn ks r
 | [], [] => True
 | _, _ => False
def Flat (ks : List Nat) (cs : List Value) : Prop := ∃ row, AllIn ks row /\ cs = zipK ks row
theorem AllIn.len : ∀ {ks : List Nat} {row : List Int}, AllIn ks row -> row.length = ks.length
 | [], [], _ => rfl
 | _ :: _, _ :: _, h => by simp [AllIn.len h.2]
 | [], _ :: _, h => h.elim
 | _ :: _, [], h => h.elim
theorem AllIn.append : ∀ {a b : List Nat} {r s : List Int}, AllIn a r -> AllIn b s -> AllIn (a ++ b) (r ++ s) /\ zipK (a ++ b) (r ++ s) = zipK a r ++ zipK b s
 | [], b, [], s, _, h => ⟨h, rfl⟩
 | _ :: a, b, _ :: r, s, h, h' => by
  obtain ⟨h1, h2⟩ := AllIn.append (a := a) (r := r) h.2 h'
  exact ⟨⟨h.1, h1⟩, by simp [zipK, h2]⟩
 | [], _, _ :: _, _, h, _ => h.elim
 | _ :: _, _, [], _, h, _ => h.elim
theorem Flat.append {a b : List Nat} {cs ds : List Value} (h : Flat a cs) (h' : Flat b ds) : Flat (a ++ b) (cs ++ ds) := by
 obtain ⟨r, h1, rfl⟩ := h
 obtain ⟨s, h2, rfl⟩ := h'
 exact ⟨r ++ s, (AllIn.append h1 h2).1, (AllIn.append h1 h2).2.symm⟩
theorem zipK_get : ∀ {ks : List Nat} {row : List Int} {j : Nat}, AllIn ks row -> j < ks.length -> (zipK ks row)[j]? = some (kval (ks.getD j 0) (row.getD j 0)) /\ InK (ks.getD j 0) (row.getD j 0)
 | _ :: _, _ :: _, 0, h, _ => ⟨rfl, h.1⟩
 | _ :: ks, _ :: r, j + 1, h, hj => by
  have := zipK_get (j := j) h.2 (by simpa using hj)
  simpa [zipK] using this
 | [], _, _, _, hj => by simp at hj
 | _ :: _, [], _, h, _ => h.elim
section
variable {H : Type} {enc : TypeId × Value -> H} {P : Program} {w : World} {base : Nat} {spare : Nat -> Bool} {held : Bool}
theorem wf_in {k : IntKind} {n : Int} (h : (Lit.int k n).wf = true) : InK (kcode k) n /\ kval (kcode k) n = .int k n := by
 simp only [Lit.wf, Bool.and_eq_true, decide_eq_true_eq] at h
 cases k <;> simp [IntKind.min, IntKind.max, IntKind.signed, IntKind.bits] at h <;> exact ⟨by simp [InK, kcode, kk, kLo, kHi]; omega, rfl⟩
theorem fields_flat {rec : TypeId -> Option (List Nat)} {cs : List Value} {n : Nat}
 (hrec : ∀ t ks, rec t = some ks -> ∀ cs x, DataW.trod enc P w base spare held n t cs = some x -> Flat ks cs) :
 ∀ (fs : List Field) (off : Nat) (ks : List Nat), fieldsK P rec fs off = some ks -> off + ks.length = cs.length ->
  (∀ f, f ∈ fs -> ∃ x, DataW.trod enc P w base spare held n f.type ((cs.drop f.offset).take (P.cellsOf f.type)) = some x) -> Flat ks (cs.drop off)
 | [], off, ks, h, hl, _ => by
  cases h
  have : cs.drop off = [] := List.drop_eq_nil_of_le (by simp at hl; omega)
  rw [this]
  exact ⟨[], trivial, rfl⟩
 | fl :: r, off, ks, h, hl, hf => by
  unfold fieldsK at h
  split at h
  case h_2 => cases h
  rename_i a ha
  cases hb : (Nat.beq fl.offset off && Nat.beq (P.cellsOf fl.type) a.length) with
  | false => rw [hb] at h; cases h
  | true =>
   rw [hb] at h
   simp only [cond_true] at h
   rw [Bool.and_eq_true] at hb
   have e1 := Nat.eq_of_beq_eq_true hb.1
   have e2 := Nat.eq_of_beq_eq_true hb.2
   split at h
   case h_2 => cases h
   rename_i b hbb
   cases h
   obtain ⟨x, hx⟩ := hf fl (List.mem_cons_self ..)
   rw [e1, e2] at hx
   have f1 := hrec _ _ ha _ _ hx
   have f2 := fields_flat hrec r (off + a.length) b hbb (by simp at hl; omega) (fun f hm => hf f (List.mem_cons_of_mem _ hm))
   have : cs.drop off = (cs.drop off).take a.length ++ cs.drop (off + a.length) := by
    rw [<- List.drop_drop, List.take_append_drop]
   rw [this]
   exact f1.append f2
theorem elems_flat {a : List Nat} {cs : List Value} : ∀ (n i : Nat), i * a.length + n * a.length = cs.length -> (∀ j, i <= j -> j < i + n -> Flat a ((cs.drop (j * a.length)).take a.length)) -> Flat (repK n a) (cs.drop (i * a.length))
 | 0, i, hl, _ => by
  have : cs.drop (i * a.length) = [] := List.drop_eq_nil_of_le (by omega)
  rw [this]
  exact ⟨[], trivial, rfl⟩
 | n + 1, i, hl, h => by
  have e : (n + 1) * a.length = n * a.length + a.length := Nat.succ_mul _ _
  have e2 : (i + 1) * a.length = i * a.length + a.length := Nat.succ_mul _ _
  have f1 := h i (Nat.le_refl _) (by omega)
  have f2 := elems_flat n (i + 1) (by omega) (fun j h1 h2 => h j (by omega) (by omega))
  have : cs.drop (i * a.length) = (cs.drop (i * a.length)).take a.length ++ cs.drop ((i + 1) * a.length) := by
   rw [e2, <- List.drop_drop, List.take_append_drop]
  rw [this]
  exact f1.append f2
theorem trod_flat : ∀ (f : Nat) (t : TypeId) (ks : List Nat), kindsOf P f t = some ks -> ∀ fuel cs x, DataW.trod enc P w base spare held fuel t cs = some x -> Flat ks cs
 | 0, _, _, h, _, _, _, _ => by cases h
 | f + 1, t, ks, h, fuel, cs, x, hx => by
  unfold kindsOf at h
  split at h
  . rename_i ht
    cases h
    obtain ⟨b, rfl, _⟩ := DataW.trod_bool ht hx
    refine ⟨[if b then 1 else 0], ⟨by cases b <;> simp [InK], trivial⟩, ?_⟩
    cases b <;> rfl
  . rename_i k ht
    cases h
    obtain ⟨n, rfl, _, hw⟩ := DataW.trod_int ht hx
    exact ⟨[n], ⟨(wf_in hw).1, trivial⟩, by simp [zipK, (wf_in hw).2]⟩
  . rename_i fs ht
    obtain ⟨xs, n, _, _, hl, hxl, hf⟩ := DataW.trod_struct ht hx
    split at h
    case h_2 => cases h
    rename_i ks' hk
    cases hb : Nat.beq ks'.length (P.cellsOf t) with
    | false => rw [hb] at h; cases h
    | true =>
     rw [hb] at h
     cases h
     have e := Nat.eq_of_beq_eq_true hb
     have := fields_flat (cs := cs) (n := n) (fun t ks h cs x hx => trod_flat f t ks h n cs x hx) fs.toList 0 ks hk (by omega) (fun fl hm => by
      obtain ⟨i, hi, he⟩ := List.mem_iff_getElem.1 hm
      have hi' : i < fs.size := by simpa using hi
      have h1 := hf i fl (by rw [Array.getElem?_eq_getElem hi']; simp at he; rw [he])
      rw [List.getElem?_eq_getElem (by omega)] at h1
      exact ⟨_, h1⟩)
     simpa using this
  . rename_i n e ht
    obtain ⟨xs, m, _, _, hl, hxl, hf⟩ := DataW.trod_array ht hx
    split at h
    case h_2 => cases h
    rename_i a ha
    cases hb : (Nat.beq (P.cellsOf e) a.length && Nat.beq (P.cellsOf t) (n * a.length)) with
    | false => rw [hb] at h; cases h
    | true =>
     rw [hb] at h
     cases h
     rw [Bool.and_eq_true] at hb
     have e1 := Nat.eq_of_beq_eq_true hb.1
     have e2 := Nat.eq_of_beq_eq_true hb.2
     have := elems_flat (a := a) (cs := cs) n 0 (by omega) (fun j _ hj => by
      have h1 := hf j (by omega)
      rw [List.getElem?_eq_getElem (by omega), e1] at h1
      exact trod_flat f e a ha m _ _ h1)
     simpa using this
  . cases h
theorem cells_flat {ks : List Nat} {a : Addr} {cs : List Value} (h1 : ∀ i, i < ks.length -> w.cell? (a.add i) = cs[i]?) (hf : Flat ks cs) :
 ∃ row : List Int, AllIn ks row /\ ∀ j, j < ks.length -> w.cell? (a.add j) = some (kval (ks.getD j 0) (row.getD j 0)) := by
 obtain ⟨row, hr, rfl⟩ := hf
 exact ⟨row, hr, fun j hj => by rw [h1 j hj]; exact (zipK_get hr hj).1⟩
theorem in_slice_sz {r : Reach} {b0 : Nat} {t e : TypeId} {ks : List Nat} {v : Value} {d : DataW H} {ps : List MemPlace} (ht : P.underlying t = some (.slice e)) (hk : kindsOf P 12 e = some ks) (hC : P.cellsOf e = ks.length) (hpos : 0 < ks.length)
 (hval : Value.okWide P w r b0 t v) (hd : DataW.Trod enc P w base (fun _ => true) held t v d ps) :
 ∃ rows : LL, rows.length <= maxLen /\ (∀ i, i < rows.length -> AllIn ks (rows.getD i [])) /\ VRel (G0 w) w none (.ce (.sl false ks rows)) v /\
  ∀ R B : Nat, (∀ es sp, d = .slice es sp -> (es.length + sp.length) * B <= R) -> rows.length * B <= R := by
 obtain ⟨fuel, hd⟩ := hd
 obtain ⟨ad, len, cap, rfl⟩ := okWide_slice ht hval
 have hc : (Value.slice ad len cap).cells.toList = [.slice ad len cap] := by simp [Value.cells]
 rw [hc] at hd
 rcases DataW.trod_slice ht hd with ⟨he, _⟩ | ⟨a, len', cap', elems, rest, n, _, he, hxd, hb, hl, hm, hlen, hel, hsp, _⟩
 . simp at he
   obtain ⟨rfl, rfl, rfl⟩ := he
   exact ⟨[], Nat.zero_le _, fun i hi => by simp at hi, ⟨none, 0, rfl, Nat.le_refl _, Nat.zero_le _, .inl ⟨.inl rfl, rfl, rfl⟩⟩, fun R B _ => by simp⟩
 . simp at he
   obtain ⟨rfl, rfl, rfl⟩ := he
   obtain ⟨hrl, hrest⟩ := hsp rfl
   have hall : ∀ i, i < cap -> ∃ row : List Int, AllIn ks row /\ ∀ j, j < ks.length -> w.cell? ((a.add (i * ks.length)).add j) = some (kval (ks.getD j 0) (row.getD j 0)) := by
    intro i hi
    have key : ∀ y, (w.cells? base (a.add (i * P.cellsOf e)) (P.cellsOf e)).bind (DataW.trod enc P w base (fun _ => true) held n e) = some y ->
     ∃ row : List Int, AllIn ks row /\ ∀ j, j < ks.length -> w.cell? ((a.add (i * ks.length)).add j) = some (kval (ks.getD j 0) (row.getD j 0)) := by
     intro y hy
     rw [Option.bind_eq_some_iff] at hy
     obtain ⟨cs, h1, h2⟩ := hy
     obtain ⟨_, _, h3⟩ := World.cells?_some h1
     rw [hC] at h3
     exact cells_flat h3 (trod_flat 12 e ks hk n cs y h2)
    by_cases hi2 : i < len
    . have := hel i hi2
      rw [List.getElem?_eq_getElem (by omega)] at this
      exact key _ this
    . have := hrest (i - len) (by omega)
      rw [List.getElem?_eq_getElem (by omega), show len + (i - len) = i by omega] at this
      exact key _ this
   have hch : ∀ i, ∃ row : List Int, i < cap -> AllIn ks row /\ ∀ j, j < ks.length -> w.cell? ((a.add (i * ks.length)).add j) = some (kval (ks.getD j 0) (row.getD j 0)) := by
    intro i
    by_cases hi : i < cap
    . obtain ⟨row, h⟩ := hall i hi; exact ⟨row, fun _ => h⟩
    . exact ⟨[], fun h => absurd h hi⟩
   obtain ⟨f, hrows⟩ : ∃ f : Nat -> List Int, ∀ i, i < cap -> AllIn ks (f i) /\ ∀ j, j < ks.length -> w.cell? ((a.add (i * ks.length)).add j) = some (kval (ks.getD j 0) ((f i).getD j 0)) :=
    ⟨fun i => Classical.choose (hch i), fun i => Classical.choose_spec (hch i)⟩
   clear hch
   refine ⟨(List.range len).map f, by simp; omega, fun i hi => ?_, ?_, fun R B hs => ?_⟩
   . simp at hi
     have : ((List.range len).map f).getD i [] = f i := by simp [List.getD_eq_getElem?_getD, hi]
     rw [this]
     exact (hrows i (by omega)).1
   . have hll : ((List.range len).map f).length = len := by simp
     refine ⟨some a, cap, by rw [hll], by rw [hll]; exact hl, hm, ?_⟩
     rw [hll]
     by_cases hc0 : cap = 0
     . exact .inl ⟨.inl rfl, by omega, hc0⟩
     . have h0 := (hrows 0 (by omega)).2 0 hpos
       have hx0 : (a.add (0 * ks.length)).add 0 = a := by simp [Addr.add]
       rw [hx0] at h0
       obtain ⟨hbk, hs⟩ := cell_lt h0
       have hx : a = at_ a.block a.off := by
        cases a with
        | mk b o s => dsimp only at hs; subst hs; rfl
       refine .inr ⟨a.block, a.off, by rw [<- hx], fun i j hi hj => ⟨hbk, ?_⟩, fun _ e => nomatch e⟩
       have h1 := (hrows i (by omega)).2 j hj
       rw [hx, at_add, at_add, show a.off + i * ks.length + j = a.off + (i * ks.length + j) by omega] at h1
       have hg : ((List.range len).map f).getD i [] = f i := by simp [List.getD_eq_getElem?_getD, hi]
       rw [hg]
       exact h1
   . have := hs (elems.map (·.1)) (rest.map (·.1)) (congrArg Prod.fst hxd)
     simp only [List.length_map, List.length_range] at this ⊢
     rw [hlen, Nat.add_mul] at this
     omega
theorem in_slice {r : Reach} {b0 : Nat} {t e : TypeId} {ks : List Nat} {v : Value} {d : DataW H} {ps : List MemPlace} (ht : P.underlying t = some (.slice e)) (hk : kindsOf P 12 e = some ks) (hC : P.cellsOf e = ks.length) (hpos : 0 < ks.length)
 (hval : Value.okWide P w r b0 t v) (hd : DataW.Trod enc P w base (fun _ => true) held t v d ps) :
 ∃ rows : LL, rows.length <= maxLen /\ (∀ i, i < rows.length -> AllIn ks (rows.getD i [])) /\ VRel (G0 w) w none (.ce (.sl false ks rows)) v := by
 obtain ⟨rows, h1, h2, h3, _⟩ := in_slice_sz ht hk hC hpos hval hd
 exact ⟨rows, h1, h2, h3⟩
end
end Go.HL
namespace Go.Proofs.YtoekmphdpepdbaaGreat
open Go Go.HL U
def SLArr (hA : List HV) (pA : List (List HC)) : SR :=
 match hA, pA with
 | [.ce (.sl false [4] l), .ce (.sl false [4] ax), .ce (.sl false [4] pl), .ce (.int .i64 ds), .ce (.int .i64 lm)], [] =>
  .det (l.length <= 9223372036854775807 /\ ax.length <= 9223372036854775807 /\ pl.length <= 9223372036854775807) okR
 | _, _ => .fail
def tabArr : List (FuncId × HL.Spec) := [(11, STrue0), (12, SMade), (20, SQStart), (15, SMod), (23, SNxS)]
def anC1 : LAnn := ⟨[4, 10, 11, 12, 13, 14], [4, 10, 13], [1000011, 1000012, 1000013], false⟩
def LC1 (v : LV) : LR :=
 match v with
 | ([.ce (.int .i64 lim), .ce (.bool z), .ce (.ptr 1000011 0), .ce (.ptr 1000012 0), .ce (.ptr 1000013 0), .ce (.int .i64 k)], [rb, [.int .i64 fo, .int .i64 ro, .bool ho, .bool so, .bool oo], [.int .i64 mu, .int .i64 mv, .int .i64 ma, .int .i64 ml, .int .i64 mp, .int .i64 mb]]) =>
  .det (∃ x, (okShop x /\ rb = shopC x) /\ (0 <= lim /\ lim <= x.r.ln /\ lim <= 3) /\ (ho = false /\ fo ≠ 0 /\ ro ≠ 0) /\ k = 0 /\ (mu = 0 /\ mv = 0 /\ ma = 0 /\ ml = 0 /\ mp = 0 /\ mb = 0)) (.exit 0)
   ([.ce (I6 lim), .ce (.bool z), .ce (.ptr 1000013 0)], [rb, [I6 fo, I6 ro, .bool ho, .bool so, .bool oo], [I6 (lim * 256), I6 0, I6 0, I6 (lim * 256), I6 (lim * 256), I6 (lim * 256)]])
 | _ => .fail
noncomputable def CArr : Ctx := ⟨Tryz.prog, gam tabArr, Tryz.f7.ntmps, [(8, anC1, LC1)], []⟩
theorem vbC1 (x : ShS) (lim fo ro mu mv ma ml mp mb k : Int) (z ho so oo : Bool) (K : HEx -> LV -> Prop) : (nbodyT true CArr anC1 (nthLoop Tryz.f7 0) (([.ce (I6 lim), .ce (.bool z), .ce (.ptr 1000011 0), .ce (.ptr 1000012 0), .ce (.ptr 1000013 0), .ce (I6 k)], [(shopC x), [I6 fo, I6 ro, .bool ho, .bool so, .bool oo], [I6 mu, I6 mv, I6 ma, I6 ml, I6 mp, I6 mb]])) K) =
 (R6 (768 * lim) /\ ∀ x1, x1 = 768 * lim -> R6 (x1 + 8) /\ ∀ x2, x2 = x1 + 8 -> Br (k < x2) ((-18014398509481984 <= lim /\ lim <= 18014398509481984) /\ (∃ (x : QM), x = qstart lim) /\ ∀ (x_1 : QM), x_1 = qstart lim -> Bb (!(mu == x_1.u && (mv == x_1.v && (ma == x_1.a && (ml == x_1.l && (mp == x_1.p && (mb == x_1.b && true))))))) ((∃ (x_2 : ShS), (okShop x_2 /\ (shopC x) = shopC x_2) /\
 (0 <= lim /\ lim <= x_2.r.ln) /\ ∃ (l : Int), l <= lim /\ ShS.inv x_2 ⟨mu, mv, ma, ml, mp, mb⟩ l) /\ (∃ (x_2 : QM), ∀ (x_3 : ShS), (shopC x) = shopC x_3 ->
 x_2 = ShS.nx x_3 ho fo ro ⟨mu, mv, ma, ml, mp, mb⟩ lim) /\ ∀ (x_2 : QM), (∀ (x_3 : ShS), (shopC x) = shopC x_3 ->
 x_2 = ShS.nx x_3 ho fo ro ⟨mu, mv, ma, ml, mp, mb⟩ lim) -> R6 (k + 1) /\ ∀ x7, x7 = k + 1 -> K .normal ([.ce (I6 lim), .ce (.bool z), .ce (.ptr 1000011 0), .ce (.ptr 1000012 0), .ce (.ptr 1000013 0), .ce (I6 x7)], [(shopC x), [I6 fo, I6 ro, .bool ho, .bool so, .bool oo], [I6 x_2.u, I6 x_2.v, I6 x_2.a, I6 x_2.l, I6 x_2.p, I6 x_2.b]])) (K (.exit 0) ([.ce (I6 lim), .ce (.bool z), .ce (.ptr 1000013 0)], [(shopC x), [I6 fo, I6 ro, .bool ho, .bool so, .bool oo], [I6 mu, I6 mv, I6 ma, I6 ml, I6 mp, I6 mb]]))) (K (.exit 0) ([.ce (I6 lim), .ce (.bool z), .ce (.ptr 1000013 0)], [(shopC x), [I6 fo, I6 ro, .bool ho, .bool so, .bool oo], [I6 mu, I6 mv, I6 ma, I6 ml, I6 mp, I6 mb]]))) := by kernel_rfl
theorem vcArr (l ax pl : LL) (ds lm : Int) (Q : Res -> Prop) : (nfun true CArr Tryz.f7 (bodyOf Tryz.f7) [.ce (.sl false [4] l), .ce (.sl false [4] ax), .ce (.sl false [4] pl), .ce (I6 ds), .ce (I6 lm)] [] Q) =
 (True /\ (∃ (x : Bool), x = true) /\ ∀ (x : Bool), x = true -> Bb (!x) (Q ⟨.ce (.bool false), false, [], []⟩) ((l.length <= 9223372036854775807 /\ ax.length <= 9223372036854775807 /\ pl.length <= 9223372036854775807) /\ (∃ (x : ShS), okShop x) /\ ∀ (x : ShS), okShop x -> ∀ x3, x3 = min x.r.ln (3 : Int) -> R6 (x3 + 1) /\ ∀ x4, x4 = x3 + 1 -> (0 < x4 /\ x4 <= 4611686018427387904) /\ ∀ x5, x5 = lm % x4 -> ((-18014398509481984 : Int) <= 0 /\ (0 : Int) <= 18014398509481984) /\ (∃ (x : QM), x = qstart (0 : Int)) /\ ∀ (x_1 : QM), x_1 = qstart (0 : Int) -> (∃ (x_2 : ShS), (okShop x_2 /\ (shopC x) = shopC x_2) /\
 (0 <= x5 /\ x5 <= x_2.r.ln /\ x5 <= 3) /\ (false = false /\ (100 : Int) ≠ (0 : Int) /\ (100 : Int) ≠ (0 : Int)) /\ (0 : Int) = 0 /\ x_1.u = 0 /\ x_1.v = 0 /\ x_1.a = 0 /\ x_1.l = 0 /\ x_1.p = 0 /\ x_1.b = 0) /\ (-18014398509481984 <= x5 /\ x5 <= 18014398509481984) /\ (∃ (x : QM), x = qstart x5) /\ ∀ (x : QM), x = qstart x5 -> Q ⟨.ce (.bool (x5 * 256 == x.u && ((0 : Int) == x.v && ((0 : Int) == x.a && (x5 * 256 == x.l && (x5 * 256 == x.p && (x5 * 256 == x.b && true))))))), false, [], []⟩)) := by kernel_rfl
end Go.Proofs.YtoekmphdpepdbaaGreat
namespace U
theorem xgain {x : ShS} (h : okShop x) {fo ro : Int} (hf : fo ≠ 0) (hr : ro ≠ 0) {m : QM} {lim : Int} (hl : lim <= x.r.ln) (hi : x.inv m lim) (hk : kin m) : m.p < (x.nx false fo ro m lim).u ∨ m.p = lim * 256 := by
 by_cases e : m.p = lim * 256
 . exact .inr e
 . refine .inl (Classical.byContradiction fun hc => ?_)
   have hI := xinv_next (ho := false) (fo := fo) (ro := ro) h (Int.le_refl lim) hi
   obtain ⟨v, hv⟩ := qnext_move x.A x.J x.W x.Mo x.r.sg.length (x.T false fo ro) m lim
   have hv : x.nx false fo ro m lim = qmove m v := hv
   have bd := xinv_bd h hI
   have o := hi.2
   rw [hv] at bd hc
   have hc : ¬ m.p < m.u + v := hc
   have v0 : 0 <= v := bd.2.2.2.1.1
   unfold kin at hk
   have g := xmoves h hf hr hl hi (by omega) (by omega) (by omega) (by omega) (by omega)
   rw [hv] at g
   have g : m.u < m.u + v := g
   omega
def got (m : QM) (lim k : Int) : Prop := min (k / 3) (lim * 256) <= m.u /\ min ((k - 1) / 3) (lim * 256) <= m.l /\ min ((k - 2) / 3) (lim * 256) <= m.p /\ min ((k - 3) / 3) (lim * 256) <= m.b
theorem xgot {x : ShS} (h : okShop x) {fo ro : Int} (hf : fo ≠ 0) (hr : ro ≠ 0) {m : QM} {lim k : Int} (hl : lim <= x.r.ln) (hi : x.inv m lim) (hk : kin m) (hg : got m lim k) : got (x.nx false fo ro m lim) lim (k + 1) := by
 have g := xgain h hf hr hl hi hk
 obtain ⟨v, hv⟩ := qnext_move x.A x.J x.W x.Mo x.r.sg.length (x.T false fo ro) m lim
 have hv : x.nx false fo ro m lim = qmove m v := hv
 have hI := xinv_next (ho := false) (fo := fo) (ro := ro) h (Int.le_refl lim) hi
 have o := hi.2
 have bd := xinv_bd h hI
 rw [hv] at g bd ⊢
 have v0 : 0 <= v := bd.2.2.2.1.1
 have g : m.p < m.u + v ∨ m.p = lim * 256 := g
 obtain ⟨g1, g2, g3, g4⟩ := hg
 refine ⟨?_, ?_, ?_, ?_⟩
 . show min ((k + 1) / 3) (lim * 256) <= m.u + v; omega
 . show min ((k + 1 - 1) / 3) (lim * 256) <= m.u; omega
 . show min ((k + 1 - 2) / 3) (lim * 256) <= m.l; omega
 . show min ((k + 1 - 3) / 3) (lim * 256) <= m.p; omega
theorem xgot_end {x : ShS} (h : okShop x) {m : QM} {lim k : Int} (hi : x.inv m lim) (hk : kin m) (hg : got m lim k) (hK : 768 * lim + 8 <= k) : m = qstart lim := by
 have o := hi.2
 have bd := xinv_bd h hi
 obtain ⟨g1, g2, g3, g4⟩ := hg
 unfold kin at hk
 obtain ⟨u, v, a, l, p, b⟩ := m
 dsimp only at *
 have e1 : u = lim * 256 := by omega
 have e2 : l = lim * 256 := by omega
 have e3 : p = lim * 256 := by omega
 have e4 : b = lim * 256 := by omega
 have e5 : v = 0 := by omega
 have e6 : a = 0 := by omega
 subst e1 e2 e3 e4 e5 e6
 rfl
end U
namespace Go.Proofs.YtoekmphdpepdbaaGreat
open Go Go.HL U
attribute [local irreducible] hfun bodyT fragT
theorem loopC1 : ∀ v Q, (LC1 v).wp Q -> hloop CArr anC1 (nthLoop Tryz.f7 0) v Q := by
 intro v Q h
 unfold LC1 at h
 split at h
 case h_2 => exact h.elim
 rename_i lim z k rb fo ro ho so oo mu mv ma ml mp mb
 obtain ⟨⟨x, ⟨hx, rfl⟩, hl, ⟨rfl, hfo, hro⟩, rfl, rfl, rfl, rfl, rfl, rfl, rfl⟩, hq⟩ := h
 have P := shop_pre hx
 refine hloop_rec (σ := QM × Int) (fun s => ([.ce (I6 lim), .ce (.bool z), .ce (.ptr 1000011 0), .ce (.ptr 1000012 0), .ce (.ptr 1000013 0), .ce (I6 s.2)], [shopC x, [I6 fo, I6 ro, .bool false, .bool so, .bool oo], [I6 s.1.u, I6 s.1.v, I6 s.1.a, I6 s.1.l, I6 s.1.p, I6 s.1.b]]))
  (fun s => (768 * lim + 8 - s.2).toNat) (fun s => (0 <= s.2 /\ s.2 <= 768 * lim + 8) /\ x.inv s.1 lim /\ kin s.1 /\ got s.1 lim s.2) ?_ (qstart 0, 0)
  ⟨⟨Int.le_refl 0, by show 0 <= 768 * lim + 8; omega⟩, xinv_start hx (by decide) hl.1, kin_start 0, by show min ((0 : Int) / 3) (lim * 256) <= 0 * 256; omega, by show min ((0 - 1 : Int) / 3) (lim * 256) <= 0 * 256; omega, by show min ((0 - 2 : Int) / 3) (lim * 256) <= 0 * 256; omega, by show min ((0 - 3 : Int) / 3) (lim * 256) <= 0 * 256; omega⟩
 rintro ⟨m, k1⟩ ⟨hk1, hi1, hkin, hg1⟩ K hn hxx _
 dsimp only at hk1 hi1 hkin hg1
 have fin : m = qstart lim -> K (.exit 0) ([.ce (I6 lim), .ce (.bool z), .ce (.ptr 1000013 0)], [shopC x, [I6 fo, I6 ro, .bool false, .bool so, .bool oo], [I6 m.u, I6 m.v, I6 m.a, I6 m.l, I6 m.p, I6 m.b]]) := fun e => by
  rw [e]; exact hxx _ _ hq
 refine byVB (vbC1 x lim fo ro m.u m.v m.a m.l m.p m.b k1 z false so oo K) ⟨by omega, fun x1 e1 => ⟨by omega, fun x2 e2 => ⟨fun g => ⟨by omega, ⟨_, rfl⟩, fun q eq => ⟨fun _ => ?_, fun g2 => ?_⟩⟩, fun g => ?_⟩⟩⟩
 . have g := odt g
   refine ⟨⟨x, ⟨hx, rfl⟩, ⟨hl.1, hl.2.1⟩, lim, Int.le_refl _, hi1⟩, ⟨_, fun y hy => nx_eq hy _ _ _ _ _⟩, fun m2 hm2 => ⟨by omega, fun x4 e4 => ?_⟩⟩
   have hm2 := hm2 x rfl
   have hI : x.inv m2 lim := by rw [hm2]; exact xinv_next hx (Int.le_refl _) hi1
   have hG : got m2 lim x4 := by rw [hm2, e4]; exact xgot hx hfo hro hl.2.1 hi1 hkin hg1
   obtain ⟨v, hv⟩ := qnext_move x.A x.J x.W x.Mo x.r.sg.length (x.T false fo ro) m lim
   have hm3 : m2 = qmove m v := by rw [hm2]; exact hv
   have k2 : kin m2 := by rw [hm3]; exact kin_move hkin v
   exact hn (m2, x4) ⟨by show 0 <= x4 /\ x4 <= 768 * lim + 8; omega, hI, k2, hG⟩ (by show (768 * lim + 8 - x4).toNat < (768 * lim + 8 - k1).toNat; omega)
 . subst eq
   refine fin ?_
   have g2 : (m.u = (qstart lim).u) /\ (m.v = (qstart lim).v) /\ (m.a = (qstart lim).a) /\ (m.l = (qstart lim).l) /\ (m.p = (qstart lim).p) /\ (m.b = (qstart lim).b) := by
    simpa only [Bool.not_eq_false', Bool.and_eq_true, beq_iff_eq, and_true] using g2
   obtain ⟨q1, q2, q3, q4, q5, q6⟩ := g2
   obtain ⟨u, v, a, l, p, b⟩ := m
   dsimp only at q1 q2 q3 q4 q5 q6
   subst q1 q2 q3 q4 q5 q6
   rfl
 . have g := odf g
   exact fin (xgot_end hx hi1 hkin hg1 (by omega))
theorem sLArr : Sound Tryz.prog 7 SLArr := by
 refine sound_of (C := CArr) tabArr Tryz.func7 (by kernel_rfl) (by decide +kernel) (by kernel_rfl) rfl ⟨sAw36, sMade, sQStart, sMod, sNxS, trivial⟩ (loops1 (by kernel_rfl) (loopOK_of (an := anC1) (S := LC1) (by kernel_rfl) loopC1)) ?_
 intro hA pA R h
 unfold SLArr at h
 split at h
 case h_2 => exfalso; exact h
 rename_i l ax pl ds lm
 obtain ⟨⟨hl, hax, hpl⟩, hR⟩ := h
 refine byVC (vcArr l ax pl ds lm R) ⟨trivial, ⟨_, rfl⟩, fun a ea => ⟨fun g => by rw [ea] at g; simp at g, fun _ => ⟨⟨hl, hax, hpl⟩, okShop_ex, fun x hx x3 e3 => ?_⟩⟩⟩
 have P := (shop_pre hx).2.2
 refine ⟨by omega, fun x4 e4 => ⟨by omega, fun x5 e5 => ⟨by decide, ⟨_, rfl⟩, fun q eq => ?_⟩⟩⟩
 have h1 := Int.emod_nonneg lm (show x4 ≠ 0 by omega)
 have h2 := Int.emod_lt_of_pos lm (show 0 < x4 by omega)
 refine ⟨⟨x, ⟨hx, rfl⟩, ⟨by omega, by omega, by omega⟩, ⟨rfl, by decide, by decide⟩, rfl, by rw [eq]; exact ⟨rfl, rfl, rfl, rfl, rfl, rfl⟩⟩, by omega, ⟨_, rfl⟩, fun y ey => ?_⟩
 subst ey
 have e : (x5 * 256 == (qstart x5).u && ((0 : Int) == (qstart x5).v && ((0 : Int) == (qstart x5).a && (x5 * 256 == (qstart x5).l && (x5 * 256 == (qstart x5).p && (x5 * 256 == (qstart x5).b && true)))))) = true := by
  unfold qstart; simp
 rw [e]; exact hR
end Go.Proofs.YtoekmphdpepdbaaGreat
