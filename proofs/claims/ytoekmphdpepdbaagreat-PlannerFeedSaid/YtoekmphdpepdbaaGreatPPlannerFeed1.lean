/-
  Part 1.
  Conditions: none.
-/
import Derived.Test.YtoekmphdpepdbaaGreatG6
set_option maxRecDepth 100000
set_option maxHeartbeats 400000
set_option linter.unusedVariables false
set_option linter.unusedSimpArgs false
open Go
namespace Go.HL
open Go Go.ChangeShapes Go.WideShapes Go.ChangeAt Go.RowKit
def fieldsK (P : Program) (rec : TypeId -> Option (List Nat)) : List Field -> Nat -> Option (List Nat)
 | [], _ => some []
 | fl :: r, off => match rec fl.type with
  | some a => bif Nat.beq fl.offset off && Nat.beq (P.cellsOf fl.type) a.length then (match fieldsK P rec r (off + a.length) with
   | some b => some (a ++ b)
   | none => none) else none
  | none => none
def repK : Nat -> List Nat -> List Nat
 | 0, _ => []
 | n + 1, a => a ++ repK n a
def kindsOf (P : Program) : Nat -> TypeId -> Option (List Nat)
 | 0, _ => none
 | f + 1, t => match P.underlying t with
  | some .bool => some [0]
  | some (.int k) => some [kcode k]
  | some (.struct fs) => match fieldsK P (kindsOf P f) fs.toList 0 with
   | some ks => bif Nat.beq ks.length (P.cellsOf t) then some ks else none
   | none => none
  | some (.array n e) => match kindsOf P f e with
   | some a => bif Nat.beq (P.cellsOf e) a.length && Nat.beq (P.cellsOf t) (n * a.length) then some (repK n a) else none
   | none => none
  | _ => none
def InK : Nat -> Int -> Prop
 | 0, n => n = 0 ∨ n = 1
 | k + 1, n => kLo (kk k) <= n /\ n <= kHi (kk k)
def zipK : List Nat -> List Int -> List Value
 | k :: ks, n :: r => kval k n :: zipK ks r
 | _, _ => []
def AllIn : List Nat -> List Int -> Prop
 | k :: ks, n :: r => InK k n /\ AllIn ks r
 | [], [] => True
 | _, _ => False
def Flat (ks : List Nat) (cs : List Value) : Prop := ∃ row, AllIn ks row /\ cs = zipK ks row
theorem AllIn.len : ∀ {ks : List Nat} {row : List Int}, AllIn ks row -> row.length = ks.length
 | [], [], _ => rfl
 | _ :: _, _ :: _, h => by simp [AllIn.len h.2]
 | [], _ :: _, h => h.elim
 | _ :: _, [], h => h.elim
theorem AllIn.append : ∀ {a b : List Nat} {r s : List Int}, AllIn a r -> AllIn b s -> AllIn (a ++ b) (r ++ s) /\ zipK (a ++ b) (r ++ s) = zipK a r ++ zipK b s
 | [], b, [], s, _, h => ⟨h, rfl⟩
 | _ :: a, b, _ :: r, s, h, h' => by
  obtain ⟨h1, h2⟩ := AllIn.append (a := a) (r := r) h.2 h'
  exact ⟨⟨h.1, h1⟩, by simp [zipK, h2]⟩
 | [], _, _ :: _, _, h, _ => h.elim
 | _ :: _, _, [], _, h, _ => h.elim
theorem Flat.append {a b : List Nat} {cs ds : List Value} (h : Flat a cs) (h' : Flat b ds) : Flat (a ++ b) (cs ++ ds) := by
 obtain ⟨r, h1, rfl⟩ := h
 obtain ⟨s, h2, rfl⟩ := h'
 exact ⟨r ++ s, (AllIn.append h1 h2).1, (AllIn.append h1 h2).2.symm⟩
theorem zipK_get : ∀ {ks : List Nat} {row : List Int} {j : Nat}, AllIn ks row -> j < ks.length -> (zipK ks row)[j]? = some (kval (ks.getD j 0) (row.getD j 0)) /\ InK (ks.getD j 0) (row.getD j 0)
 | _ :: _, _ :: _, 0, h, _ => ⟨rfl, h.1⟩
 | _ :: ks, _ :: r, j + 1, h, hj => by
  have := zipK_get (j := j) h.2 (by simpa using hj)
  simpa [zipK] using this
 | [], _, _, _, hj => by simp at hj
 | _ :: _, [], _, h, _ => h.elim
section
variable {H : Type} {enc : TypeId × Value -> H} {P : Program} {w : World} {base : Nat} {spare : Nat -> Bool} {held : Bool}
theorem wf_in {k : IntKind} {n : Int} (h : (Lit.int k n).wf = true) : InK (kcode k) n /\ kval (kcode k) n = .int k n := by
 simp only [Lit.wf, Bool.and_eq_true, decide_eq_true_eq] at h
 cases k <;> simp [IntKind.min, IntKind.max, IntKind.signed, IntKind.bits] at h <;> exact ⟨by simp [InK, kcode, kk, kLo, kHi]; omega, rfl⟩
theorem fields_flat {rec : TypeId -> Option (List Nat)} {cs : List Value} {n : Nat}
 (hrec : ∀ t ks, rec t = some ks -> ∀ cs x, DataW.trod enc P w base spare held n t cs = some x -> Flat ks cs) :
 ∀ (fs : List Field) (off : Nat) (ks : List Nat), fieldsK P rec fs off = some ks -> off + ks.length = cs.length ->
  (∀ f, f ∈ fs -> ∃ x, DataW.trod enc P w base spare held n f.type ((cs.drop f.offset).take (P.cellsOf f.type)) = some x) -> Flat ks (cs.drop off)
 | [], off, ks, h, hl, _ => by
  cases h
  have : cs.drop off = [] := List.drop_eq_nil_of_le (by simp at hl; omega)
  rw [this]
  exact ⟨[], trivial, rfl⟩
 | fl :: r, off, ks, h, hl, hf => by
  unfold fieldsK at h
  split at h
  case h_2 => cases h
  rename_i a ha
  cases hb : (Nat.beq fl.offset off && Nat.beq (P.cellsOf fl.type) a.length) with
  | false => rw [hb] at h; cases h
  | true =>
   rw [hb] at h
   simp only [cond_true] at h
   rw [Bool.and_eq_true] at hb
   have e1 := Nat.eq_of_beq_eq_true hb.1
   have e2 := Nat.eq_of_beq_eq_true hb.2
   split at h
   case h_2 => cases h
   rename_i b hbb
   cases h
   obtain ⟨x, hx⟩ := hf fl (List.mem_cons_self ..)
   rw [e1, e2] at hx
   have f1 := hrec _ _ ha _ _ hx
   have f2 := fields_flat hrec r (off + a.length) b hbb (by simp at hl; omega) (fun f hm => hf f (List.mem_cons_of_mem _ hm))
   have : cs.drop off = (cs.drop off).take a.length ++ cs.drop (off + a.length) := by
    rw [<- List.drop_drop, List.take_append_drop]
   rw [this]
   exact f1.append f2
theorem elems_flat {a : List Nat} {cs : List Value} : ∀ (n i : Nat), i * a.length + n * a.length = cs.length -> (∀ j, i <= j -> j < i + n -> Flat a ((cs.drop (j * a.length)).take a.length)) -> Flat (repK n a) (cs.drop (i * a.length))
 | 0, i, hl, _ => by
  have : cs.drop (i * a.length) = [] := List.drop_eq_nil_of_le (by omega)
  rw [this]
  exact ⟨[], trivial, rfl⟩
 | n + 1, i, hl, h => by
  have e : (n + 1) * a.length = n * a.length + a.length := Nat.succ_mul _ _
  have e2 : (i + 1) * a.length = i * a.length + a.length := Nat.succ_mul _ _
  have f1 := h i (Nat.le_refl _) (by omega)
  have f2 := elems_flat n (i + 1) (by omega) (fun j h1 h2 => h j (by omega) (by omega))
  have : cs.drop (i * a.length) = (cs.drop (i * a.length)).take a.length ++ cs.drop ((i + 1) * a.length) := by
   rw [e2, <- List.drop_drop, List.take_append_drop]
  rw [this]
  exact f1.append f2
theorem trod_flat : ∀ (f : Nat) (t : TypeId) (ks : List Nat), kindsOf P f t = some ks -> ∀ fuel cs x, DataW.trod enc P w base spare held fuel t cs = some x -> Flat ks cs
 | 0, _, _, h, _, _, _, _ => by cases h
 | f + 1, t, ks, h, fuel, cs, x, hx => by
  unfold kindsOf at h
  split at h
  . rename_i ht
    cases h
    obtain ⟨b, rfl, _⟩ := DataW.trod_bool ht hx
    refine ⟨[if b then 1 else 0], ⟨by cases b <;> simp [InK], trivial⟩, ?_⟩
    cases b <;> rfl
  . rename_i k ht
    cases h
    obtain ⟨n, rfl, _, hw⟩ := DataW.trod_int ht hx
    exact ⟨[n], ⟨(wf_in hw).1, trivial⟩, by simp [zipK, (wf_in hw).2]⟩
  . rename_i fs ht
    obtain ⟨xs, n, _, _, hl, hxl, hf⟩ := DataW.trod_struct ht hx
    split at h
    case h_2 => cases h
    rename_i ks' hk
    cases hb : Nat.beq ks'.length (P.cellsOf t) with
    | false => rw [hb] at h; cases h
    | true =>
     rw [hb] at h
     cases h
     have e := Nat.eq_of_beq_eq_true hb
     have := fields_flat (cs := cs) (n := n) (fun t ks h cs x hx => trod_flat f t ks h n cs x hx) fs.toList 0 ks hk (by omega) (fun fl hm => by
      obtain ⟨i, hi, he⟩ := List.mem_iff_getElem.1 hm
      have hi' : i < fs.size := by simpa using hi
      have h1 := hf i fl (by rw [Array.getElem?_eq_getElem hi']; simp at he; rw [he])
      rw [List.getElem?_eq_getElem (by omega)] at h1
      exact ⟨_, h1⟩)
     simpa using this
  . rename_i n e ht
    obtain ⟨xs, m, _, _, hl, hxl, hf⟩ := DataW.trod_array ht hx
    split at h
    case h_2 => cases h
    rename_i a ha
    cases hb : (Nat.beq (P.cellsOf e) a.length && Nat.beq (P.cellsOf t) (n * a.length)) with
    | false => rw [hb] at h; cases h
    | true =>
     rw [hb] at h
     cases h
     rw [Bool.and_eq_true] at hb
     have e1 := Nat.eq_of_beq_eq_true hb.1
     have e2 := Nat.eq_of_beq_eq_true hb.2
     have := elems_flat (a := a) (cs := cs) n 0 (by omega) (fun j _ hj => by
      have h1 := hf j (by omega)
      rw [List.getElem?_eq_getElem (by omega), e1] at h1
      exact trod_flat f e a ha m _ _ h1)
     simpa using this
  . cases h
theorem cells_flat {ks : List Nat} {a : Addr} {cs : List Value} (h1 : ∀ i, i < ks.length -> w.cell? (a.add i) = cs[i]?) (hf : Flat ks cs) :
 ∃ row : List Int, AllIn ks row /\ ∀ j, j < ks.length -> w.cell? (a.add j) = some (kval (ks.getD j 0) (row.getD j 0)) := by
 obtain ⟨row, hr, rfl⟩ := hf
 exact ⟨row, hr, fun j hj => by rw [h1 j hj]; exact (zipK_get hr hj).1⟩
theorem in_slice_sz {r : Reach} {b0 : Nat} {t e : TypeId} {ks : List Nat} {v : Value} {d : DataW H} {ps : List MemPlace} (ht : P.underlying t = some (.slice e)) (hk : kindsOf P 12 e = some ks) (hC : P.cellsOf e = ks.length) (hpos : 0 < ks.length)
 (hval : Value.okWide P w r b0 t v) (hd : DataW.Trod enc P w base (fun _ => true) held t v d ps) :
 ∃ rows : LL, rows.length <= maxLen /\ (∀ i, i < rows.length -> AllIn ks (rows.getD i [])) /\ VRel (G0 w) w none (.ce (.sl false ks rows)) v /\
  ∀ R B : Nat, (∀ es sp, d = .slice es sp -> (es.length + sp.length) * B <= R) -> rows.length * B <= R := by
 obtain ⟨fuel, hd⟩ := hd
 obtain ⟨ad, len, cap, rfl⟩ := okWide_slice ht hval
 have hc : (Value.slice ad len cap).cells.toList = [.slice ad len cap] := by simp [Value.cells]
 rw [hc] at hd
 rcases DataW.trod_slice ht hd with ⟨he, _⟩ | ⟨a, len', cap', elems, rest, n, _, he, hxd, hb, hl, hm, hlen, hel, hsp, _⟩
 . simp at he
   obtain ⟨rfl, rfl, rfl⟩ := he
   exact ⟨[], Nat.zero_le _, fun i hi => by simp at hi, ⟨none, 0, rfl, Nat.le_refl _, Nat.zero_le _, .inl ⟨.inl rfl, rfl, rfl⟩⟩, fun R B _ => by simp⟩
 . simp at he
   obtain ⟨rfl, rfl, rfl⟩ := he
   obtain ⟨hrl, hrest⟩ := hsp rfl
   have hall : ∀ i, i < cap -> ∃ row : List Int, AllIn ks row /\ ∀ j, j < ks.length -> w.cell? ((a.add (i * ks.length)).add j) = some (kval (ks.getD j 0) (row.getD j 0)) := by
    intro i hi
    have key : ∀ y, (w.cells? base (a.add (i * P.cellsOf e)) (P.cellsOf e)).bind (DataW.trod enc P w base (fun _ => true) held n e) = some y ->
     ∃ row : List Int, AllIn ks row /\ ∀ j, j < ks.length -> w.cell? ((a.add (i * ks.length)).add j) = some (kval (ks.getD j 0) (row.getD j 0)) := by
     intro y hy
     rw [Option.bind_eq_some_iff] at hy
     obtain ⟨cs, h1, h2⟩ := hy
     obtain ⟨_, _, h3⟩ := World.cells?_some h1
     rw [hC] at h3
     exact cells_flat h3 (trod_flat 12 e ks hk n cs y h2)
    by_cases hi2 : i < len
    . have := hel i hi2
      rw [List.getElem?_eq_getElem (by omega)] at this
      exact key _ this
    . have := hrest (i - len) (by omega)
      rw [List.getElem?_eq_getElem (by omega), show len + (i - len) = i by omega] at this
      exact key _ this
   have hch : ∀ i, ∃ row : List Int, i < cap -> AllIn ks row /\ ∀ j, j < ks.length -> w.cell? ((a.add (i * ks.length)).add j) = some (kval (ks.getD j 0) (row.getD j 0)) := by
    intro i
    by_cases hi : i < cap
    . obtain ⟨row, h⟩ := hall i hi; exact ⟨row, fun _ => h⟩
    . exact ⟨[], fun h => absurd h hi⟩
   obtain ⟨f, hrows⟩ : ∃ f : Nat -> List Int, ∀ i, i < cap -> AllIn ks (f i) /\ ∀ j, j < ks.length -> w.cell? ((a.add (i * ks.length)).add j) = some (kval (ks.getD j 0) ((f i).getD j 0)) :=
    ⟨fun i => Classical.choose (hch i), fun i => Classical.choose_spec (hch i)⟩
   clear hch
   refine ⟨(List.range len).map f, by simp; omega, fun i hi => ?_, ?_, fun R B hs => ?_⟩
   . simp at hi
     have : ((List.range len).map f).getD i [] = f i := by simp [List.getD_eq_getElem?_getD, hi]
     rw [this]
     exact (hrows i (by omega)).1
   . have hll : ((List.range len).map f).length = len := by simp
     refine ⟨some a, cap, by rw [hll], by rw [hll]; exact hl, hm, ?_⟩
     rw [hll]
     by_cases hc0 : cap = 0
     . exact .inl ⟨.inl rfl, by omega, hc0⟩
     . have h0 := (hrows 0 (by omega)).2 0 hpos
       have hx0 : (a.add (0 * ks.length)).add 0 = a := by simp [Addr.add]
       rw [hx0] at h0
       obtain ⟨hbk, hs⟩ := cell_lt h0
       have hx : a = at_ a.block a.off := by
        cases a with
        | mk b o s => dsimp only at hs; subst hs; rfl
       refine .inr ⟨a.block, a.off, by rw [<- hx], fun i j hi hj => ⟨hbk, ?_⟩, fun _ e => nomatch e⟩
       have h1 := (hrows i (by omega)).2 j hj
       rw [hx, at_add, at_add, show a.off + i * ks.length + j = a.off + (i * ks.length + j) by omega] at h1
       have hg : ((List.range len).map f).getD i [] = f i := by simp [List.getD_eq_getElem?_getD, hi]
       rw [hg]
       exact h1
   . have := hs (elems.map (·.1)) (rest.map (·.1)) (congrArg Prod.fst hxd)
     simp only [List.length_map, List.length_range] at this ⊢
     rw [hlen, Nat.add_mul] at this
     omega
theorem in_slice {r : Reach} {b0 : Nat} {t e : TypeId} {ks : List Nat} {v : Value} {d : DataW H} {ps : List MemPlace} (ht : P.underlying t = some (.slice e)) (hk : kindsOf P 12 e = some ks) (hC : P.cellsOf e = ks.length) (hpos : 0 < ks.length)
 (hval : Value.okWide P w r b0 t v) (hd : DataW.Trod enc P w base (fun _ => true) held t v d ps) :
 ∃ rows : LL, rows.length <= maxLen /\ (∀ i, i < rows.length -> AllIn ks (rows.getD i [])) /\ VRel (G0 w) w none (.ce (.sl false ks rows)) v := by
 obtain ⟨rows, h1, h2, h3, _⟩ := in_slice_sz ht hk hC hpos hval hd
 exact ⟨rows, h1, h2, h3⟩
end
end Go.HL
namespace U
open Go
def sclR (v p : Int) : Int := if p = 0 then 0 else max (IntKind.i64.wrap ((IntKind.i64.wrap (v * p)).tdiv 100)) 1
def ShS.fitI (x : ShS) (ho : Bool) (fo ro : Int) (m : QM) : Prop :=
 (0 < x.r.sg.length /\ qfit x.A x.J x.r.sg.length (x.T ho fo ro) m = true) ∨ (¬ 0 < x.r.sg.length /\ m.v = 0 /\ m.a = 0)
end U
namespace Go.Proofs.YtoekmphdpepdbaaGreat
open Go Go.HL U
def SScR (hA : List HV) (pA : List (List HC)) : SR :=
 match hA, pA with
 | [.ce (.int .i64 v), .ce (.int .i64 p)], [] => .det True ⟨.ce (I6 (sclR v p)), false, [], []⟩
 | _, _ => .fail
noncomputable def CScR : Ctx := ⟨Tryz.prog, gam [], Tryz.f58.ntmps, [], []⟩
theorem vcScR (v p : Int) (Q : Res -> Prop) : (nfun false CScR Tryz.f58 (bodyOf Tryz.f58 ) [.ce (I6 v), .ce (I6 p)] [] Q) =
 (((p == 0) = true -> Q ⟨.ce (I6 0), false, [], []⟩) /\ ((p == 0) = false -> ∀ x1, x1 = IntKind.wrap .i64 (v * p) -> (100 : Int) ≠ (0 : Int) /\ ∀ x2, x2 = IntKind.wrap .i64 (Int.tdiv x1 100) -> ∀ x3, x3 = max x2 1 -> Q ⟨.ce (I6 x3), false, [], []⟩)) := by kernel_rfl
def tabTgR : List (FuncId × HL.Spec) := [(58, SScR)]
noncomputable def CTgR : Ctx := ⟨Tryz.prog, gam tabTgR, Tryz.f30.ntmps, [], []⟩
theorem vcTgR (fo ro : Int) (ho so oo : Bool) (A J R g0 g1 g2 g3 g4 fd ld : Int) (Q : Res -> Prop) : (nfun true CTgR Tryz.f30 (bodyOf Tryz.f30) [.agg [I6 fo, I6 ro, .bool ho, .bool so, .bool oo], .agg [I6 A, I6 J, I6 R], .agg [I6 g0, I6 g1, I6 g2, I6 g3, I6 g4, I6 fd, I6 ld]] [] Q) =
 ((ho = true -> Q ⟨.ce (I6 0), false, [], []⟩) /\ (ho = false -> ((ld != 0) = true -> ∀ x1, x1 = max fd 1 -> ∀ x2, x2 = min x1 16777216 -> Q ⟨.ce (I6 x2), false, [], []⟩) /\ ((ld != 0) = false -> ((fd == 0) = true -> True /\ ∀ x3, x3 = sclR R ro -> ∀ x4, x4 = min x3 16777216 -> Q ⟨.ce (I6 x4), false, [], []⟩) /\ ((fd == 0) = false -> True /\ ∀ x5, x5 = sclR fd fo -> ∀ x6, x6 = min x5 16777216 -> Q ⟨.ce (I6 x6), false, [], []⟩)))) := by kernel_rfl
def SLFeed (hA : List HV) (pA : List (List HC)) : SR :=
 match hA, pA with
 | [.ce (.sl false [4] l), .ce (.sl false [4] ax), .ce (.sl false [4] pl), .ce (.sl false [4] pa), .ce (.int .i64 ds), .ce (.bool fa)], [] =>
  .det (l.length <= 9223372036854775807 /\ ax.length <= 9223372036854775807 /\ pl.length <= 9223372036854775807 /\ pa.length <= 9223372036854775807) okR
 | _, _ => .fail
def tabFeed : List (FuncId × HL.Spec) := [(11, STrue0), (12, SMade), (14, SFrom), (13, SPan), (20, SQStart), (23, SNxS), (29, SFlr), (28, SPlace), (27, SPFind), (30, STgt)]
def anF1 : LAnn := ⟨[12, 13, 14, 15, 16], [12], [1000013, 1000014, 1000015], false⟩
def LF1 (v : LV) : LR :=
 match v with
 | ([.ce (.bool z), .ce (.ptr 1000013 0), .ce (.ptr 1000014 0), .ce (.ptr 1000015 0), .ce (.int .i64 k)], [rb, [.int .i64 fo, .int .i64 ro, .bool ho, .bool so, .bool oo], [.int .i64 mu, .int .i64 mv, .int .i64 ma, .int .i64 ml, .int .i64 mp, .int .i64 mb]]) =>
  .all (∃ x, (okShop x /\ rb = shopC x) /\ k = 0 /\ x.inv ⟨mu, mv, ma, ml, mp, mb⟩ x.r.ln /\ x.fitI ho fo ro ⟨mu, mv, ma, ml, mp, mb⟩) QM (fun _ => True) (fun _ => .exit 0)
   (fun y => ([.ce (.bool z)], [rb, [I6 fo, I6 ro, .bool ho, .bool so, .bool oo], [I6 y.u, I6 y.v, I6 y.a, I6 y.l, I6 y.p, I6 y.b]]))
 | _ => .fail
noncomputable def CFeed : Ctx := ⟨Tryz.prog, gam tabFeed, Tryz.f8.ntmps, [(7, anF1, LF1)], []⟩
theorem vbF1 (x : ShS) (fo ro mu mv ma ml mp mb k : Int) (z ho so oo : Bool) (K : HEx -> LV -> Prop) : (nbodyT true CFeed anF1 (nthLoop Tryz.f8 0) (([.ce (.bool z), .ce (.ptr 1000013 0), .ce (.ptr 1000014 0), .ce (.ptr 1000015 0), .ce (I6 k)], [[I6 x.r.s0, I6 x.r.s1, I6 x.r.s2, .sl false [4, 4, 4, 4, 4, 4, 4] x.r.sg, .sl false [4, 4, 4] x.r.mks, I6 x.r.a.st, I6 x.r.a.sp, I6 x.r.a.ac, I6 x.r.a.je, I6 (-16777216), I6 16777216, I6 x.r.a.bl, I6 x.r.a.og, I6 x.r.a.sg, .sl false [4] x.r.a.pit, I6 x.r.b.st, I6 x.r.b.sp, I6 x.r.b.ac, I6 x.r.b.je, I6 (-16777216), I6 16777216, I6 x.r.b.bl, I6 x.r.b.og, I6 x.r.b.sg, .sl false [4] x.r.b.pit, I6 x.r.c.st, I6 x.r.c.sp, I6 x.r.c.ac, I6 x.r.c.je, I6 (-16777216), I6 16777216, I6 x.r.c.bl, I6 x.r.c.og, I6 x.r.c.sg, .sl false [4] x.r.c.pit, .sl false [4, 4, 4, 4, 4, 4, 4, 4, 4, 4] x.r.pk, I6 x.r.ln, I6 x.r.f, I6 x.r.d0, I6 x.r.d1, I6 x.r.d2, I6 x.A, I6 x.J, I6 x.R, I6 x.r.ln], [I6 fo, I6 ro, .bool ho, .bool so, .bool oo], [I6 mu, I6 mv, I6 ma, I6 ml, I6 mp, I6 mb]])) K) =
 ((decide (k < 60) = true -> (∃ (x_1 : ShS), (okShop x_1 /\ (shopC x) = shopC x_1) /\
 (0 <= x.r.ln /\ x.r.ln <= x_1.r.ln) /\ ∃ (l : Int), l <= x.r.ln /\ ShS.inv x_1 { u := mu, v := mv, a := ma, l := ml, p := mp, b := mb } l) /\ (∃ (x_1 : QM), ∀ (x_2 : ShS), (shopC x) = shopC x_2 ->
 x_1 = ShS.nx x_2 ho fo ro { u := mu, v := mv, a := ma, l := ml, p := mp, b := mb } x.r.ln) /\ ∀ (x_1 : QM), (∀ (x_2 : ShS), (shopC x) = shopC x_2 ->
 x_1 = ShS.nx x_2 ho fo ro { u := mu, v := mv, a := ma, l := ml, p := mp, b := mb } x.r.ln) -> (R6 x_1.u /\ (256 : Int) = 256) /\ ∀ x4, x4 = x_1.u / 256 -> okTrk x.r.pk x.r.ln /\ ∀ x5, x5 = tplace x.r.pk x.r.f (clamp x.r.ln x4) -> (okLen x.r.sg /\ x5 <= 4611686018427387904) /\ (∃ (x_2 : Int × Int), x_2 = pfind x.r.sg x5) /\ ∀ (x_2 : Int × Int), x_2 = pfind x.r.sg x5 -> (decide (x_2.1 >= 0) = true -> (0 <= x_2.1 /\ x_2.1 < (List.length x.r.sg : Int)) /\ True /\ ∀ x7, x7 = tgt ho fo ro x.R (ec x.r.sg x_2.1.toNat 5) (ec x.r.sg x_2.1.toNat 6) -> (decide (x_1.v > x7) = true -> K .ret ([.ce (.bool false)], [(shopC x), [I6 fo, I6 ro, .bool ho, .bool so, .bool oo], [I6 x_1.u, I6 x_1.v, I6 x_1.a, I6 x_1.l, I6 x_1.p, I6 x_1.b]])) /\
 (decide (x_1.v > x7) = false -> (decide (x_2.1 < 0) = true -> ((x_1.v != 0) = true -> K .ret ([.ce (.bool false)], [(shopC x), [I6 fo, I6 ro, .bool ho, .bool so, .bool oo], [I6 x_1.u, I6 x_1.v, I6 x_1.a, I6 x_1.l, I6 x_1.p, I6 x_1.b]])) /\
 ((x_1.v != 0) = false -> R6 (k + 1) /\ ∀ x8, x8 = k + 1 -> K .normal ([.ce (.bool z), .ce (.ptr 1000013 0), .ce (.ptr 1000014 0), .ce (.ptr 1000015 0), .ce (I6 x8)], [(shopC x), [I6 fo, I6 ro, .bool ho, .bool so, .bool oo], [I6 x_1.u, I6 x_1.v, I6 x_1.a, I6 x_1.l, I6 x_1.p, I6 x_1.b]]))) /\
 (decide (x_2.1 < 0) = false -> R6 (k + 1) /\ ∀ x9, x9 = k + 1 -> K .normal ([.ce (.bool z), .ce (.ptr 1000013 0), .ce (.ptr 1000014 0), .ce (.ptr 1000015 0), .ce (I6 x9)], [(shopC x), [I6 fo, I6 ro, .bool ho, .bool so, .bool oo], [I6 x_1.u, I6 x_1.v, I6 x_1.a, I6 x_1.l, I6 x_1.p, I6 x_1.b]])))) /\
 (decide (x_2.1 >= 0) = false -> (decide (x_2.1 < 0) = true -> ((x_1.v != 0) = true -> K .ret ([.ce (.bool false)], [(shopC x), [I6 fo, I6 ro, .bool ho, .bool so, .bool oo], [I6 x_1.u, I6 x_1.v, I6 x_1.a, I6 x_1.l, I6 x_1.p, I6 x_1.b]])) /\
 ((x_1.v != 0) = false -> R6 (k + 1) /\ ∀ x10, x10 = k + 1 -> K .normal ([.ce (.bool z), .ce (.ptr 1000013 0), .ce (.ptr 1000014 0), .ce (.ptr 1000015 0), .ce (I6 x10)], [(shopC x), [I6 fo, I6 ro, .bool ho, .bool so, .bool oo], [I6 x_1.u, I6 x_1.v, I6 x_1.a, I6 x_1.l, I6 x_1.p, I6 x_1.b]]))) /\
 (decide (x_2.1 < 0) = false -> R6 (k + 1) /\ ∀ x11, x11 = k + 1 -> K .normal ([.ce (.bool z), .ce (.ptr 1000013 0), .ce (.ptr 1000014 0), .ce (.ptr 1000015 0), .ce (I6 x11)], [(shopC x), [I6 fo, I6 ro, .bool ho, .bool so, .bool oo], [I6 x_1.u, I6 x_1.v, I6 x_1.a, I6 x_1.l, I6 x_1.p, I6 x_1.b]])))) /\
 (decide (k < 60) = false -> K (.exit 0) ([.ce (.bool z)], [(shopC x), [I6 fo, I6 ro, .bool ho, .bool so, .bool oo], [I6 mu, I6 mv, I6 ma, I6 ml, I6 mp, I6 mb]]))) := by kernel_rfl
theorem vcFeed (l ax pl pa : LL) (ds : Int) (fa : Bool) (Q : Res -> Prop) : (nfun true CFeed Tryz.f8 (bodyOf Tryz.f8) [.ce (.sl false [4] l), .ce (.sl false [4] ax), .ce (.sl false [4] pl), .ce (.sl false [4] pa), .ce (I6 ds), .ce (.bool fa)] [] Q) =
 (True /\ (∃ (x : Bool), x = true) /\ ∀ (x : Bool), x = true -> ((!x) = true -> Q ⟨.ce (.bool false), false, [], []⟩) /\ ((!x) = false -> (l.length <= 9223372036854775807 /\ ax.length <= 9223372036854775807 /\ pl.length <= 9223372036854775807) /\ (∃ (x : ShS), okShop x) /\ ∀ (x : ShS), okShop x -> True /\ ∀ (x3 : LL), x3 = pa -> ∀ (x4 : Int), x4 = 0 -> inSrc x3 x4 /\ (∃ (x : Int × Int × Bool × Bool × Bool × Int), inSrc x3 x.snd.snd.snd.snd.2) /\ ∀ (x_1 : Int × Int × Bool × Bool × Bool × Int), inSrc x3 x_1.snd.snd.snd.snd.2 -> ((-18014398509481984 : Int) <= 0 /\ (0 : Int) <= 18014398509481984) /\ (∃ (x : QM), x = qstart (0 : Int)) /\ ∀ (x_2 : QM), x_2 = qstart (0 : Int) -> (∃ (x_3 : ShS), (okShop x_3 /\ (shopC x) = shopC x_3) /\
 (0 : Int) = 0 /\ ShS.inv x_3 { u := x_2.u, v := x_2.v, a := x_2.a, l := x_2.l, p := x_2.p, b := x_2.b } x_3.r.ln /\ ShS.fitI x_3 x_1.snd.snd.1 x_1.1 x_1.snd.1 { u := x_2.u, v := x_2.v, a := x_2.a, l := x_2.l, p := x_2.p, b := x_2.b }) /\ ∀ (x : QM), True -> Q ⟨.ce (.bool true), false, [], []⟩)) := by kernel_rfl
end Go.Proofs.YtoekmphdpepdbaaGreat
namespace U
theorem tgt_nn (ho : Bool) (fo ro R fd ld : Int) : 0 <= tgt ho fo ro R fd ld := by
 have s : ∀ v p, 0 <= scl v p := fun v p => by unfold scl; split <;> omega
 unfold tgt
 split
 . omega
 . split
   . omega
   . split
     . exact s _ _
     . exact s _ _
theorem xfit_v {x : ShS} {ho : Bool} {fo ro : Int} {m : QM} (h : x.fitI ho fo ro m) : (0 < x.r.sg.length -> m.v <= x.T ho fo ro m.u) /\ (¬ 0 < x.r.sg.length -> m.v = 0) := by
 rcases h with ⟨h1, h2⟩ | ⟨h1, h2, _⟩
 . unfold qfit at h2
   rw [Bool.and_eq_true, Bool.and_eq_true, Bool.and_eq_true, decide_eq_true_iff, decide_eq_true_iff] at h2
   exact ⟨fun _ => h2.2.2.1, fun h => absurd h1 h⟩
 . exact ⟨fun h => absurd h h1, fun _ => h2⟩
theorem xfit_start {x : ShS} (h : okShop x) (ho : Bool) (fo ro : Int) : x.fitI ho fo ro (qstart 0) := by
 by_cases hn : 0 < x.r.sg.length
 . refine .inl ⟨hn, ?_⟩
   have r := rest_start (shop_pre h).2.1 (0 * 256)
   unfold qfit
   show (qfok x.A x.J 0 0 && (decide (0 < x.r.sg.length) && (decide (0 <= x.T ho fo ro (0 * 256)) && qfl (x.T ho fo ro) (0 * 256) (qfu x.A x.J (0 * 256) 0 0)))) = true
   rw [r.1, r.2, decide_eq_true hn, decide_eq_true (show 0 <= x.T ho fo ro (0 * 256) from tgt_nn _ _ _ _ _ _)]
   rfl
 . exact .inr ⟨hn, rfl, rfl⟩
theorem xfit_next {x : ShS} (h : okShop x) {ho : Bool} {fo ro : Int} {m : QM} {l lim : Int} (hi : x.inv m l) (hf : x.fitI ho fo ro m) : x.fitI ho fo ro (x.nx ho fo ro m lim) := by
 have hp := (shop_pre h).2.1
 have bd := xinv_bd h hi
 rcases next_cases x.A x.J x.W x.Mo x.r.sg.length (x.T ho fo ro) m lim with ⟨k, _, e, _, _, k1, _⟩ | ⟨_, e⟩
 . have e : x.nx ho fo ro m lim = _ := e
   rw [e]
   by_cases hn : 0 < x.r.sg.length
   . exact .inl ⟨hn, k1⟩
   . unfold qfit at k1
     rw [decide_eq_false hn] at k1
     simp at k1
 . have e : x.nx ho fo ro m lim = _ := e
   rw [e]
   rcases hf with ⟨h1, h2⟩ | ⟨h1, h2, h3⟩
   . exact .inl ⟨h1, fit_next hp h2⟩
   . have hr := (qfok_iff.1 bd.1).1
     rw [h2, h3] at hr
     have hb := qbrk_rest hp.1.1 (by have := hp.2.1.1; omega) hr
     rw [h2, h3, hb]
     refine .inr ⟨h1, rfl, ?_⟩
     show (0 : Int) + 0 - m.v = 0
     omega
end U
namespace Go.Proofs.YtoekmphdpepdbaaGreat
open Go Go.HL U
attribute [local irreducible] hfun bodyT fragT
theorem sScR : Sound Tryz.prog 58 SScR := by
 refine sound_of (C := CScR) [] Tryz.func58 (by kernel_rfl) (by decide +kernel) (by kernel_rfl) rfl trivial (loops0 (by kernel_rfl)) ?_
 intro hA pA R h
 unfold SScR at h
 split at h
 case h_2 => exfalso; exact h
 rename_i v p
 obtain ⟨_, hR⟩ := h
 unfold sclR at hR
 refine byVC (vcScR v p R) ⟨fun g => ?_, fun g x1 e1 => ⟨by decide, fun x2 e2 x3 e3 => ?_⟩⟩
 . rw [if_pos (by simpa using g)] at hR; exact hR
 . rw [if_neg (by simpa using g)] at hR; rw [e3, e2, e1]; exact hR
theorem sTgR : Sound Tryz.prog 30 STgt := by
 refine sound_of (C := CTgR) tabTgR Tryz.func30 (by kernel_rfl) (by decide +kernel) (by kernel_rfl) rfl ⟨sScR, trivial⟩ (loops0 (by kernel_rfl)) ?_
 intro hA pA R h
 unfold STgt at h
 split at h
 case h_2 => exfalso; exact h
 rename_i fo ro ho so oo A J Rp g0 g1 g2 g3 g4 fd ld
 obtain ⟨_, hR⟩ := h
 have key : ∀ v p : Int, min (sclR v p) 16777216 = scl v p := fun v p => by
  unfold sclR scl
  split
  . rfl
  . rfl
 unfold tgt at hR
 refine byVC (vcTgR fo ro ho so oo A J Rp g0 g1 g2 g3 g4 fd ld R) ⟨fun g => ?_, fun g => ⟨fun c => fun x1 e1 x2 e2 => ?_, fun c => ⟨fun c2 => ⟨trivial, fun x3 e3 x4 e4 => ?_⟩, fun c2 => ⟨trivial, fun x5 e5 x6 e6 => ?_⟩⟩⟩⟩
 . rw [if_pos g] at hR; exact hR
 . rw [if_neg (by simp [g]), if_pos (by simpa using c)] at hR; rw [e2, e1]; exact hR
 . rw [if_neg (by simp [g]), if_neg (by simpa using c), if_pos (by simpa using c2), <- key] at hR; rw [e4, e3]; exact hR
 . rw [if_neg (by simp [g]), if_neg (by simpa using c), if_neg (by simpa using c2), <- key] at hR; rw [e6, e5]; exact hR
theorem loopF1 : ∀ v Q, (LF1 v).wp Q -> hloop CFeed anF1 (nthLoop Tryz.f8 0) v Q := by
 intro v Q h
 unfold LF1 at h
 split at h
 case h_2 => exact h.elim
 rename_i z k rb fo ro ho so oo mu mv ma ml mp mb
 obtain ⟨⟨x, ⟨hx, rfl⟩, rfl, hi, hf⟩, hq⟩ := h
 have P := shop_pre hx
 refine hloop_rec (σ := QM × Int) (fun s => ([.ce (.bool z), .ce (.ptr 1000013 0), .ce (.ptr 1000014 0), .ce (.ptr 1000015 0), .ce (I6 s.2)], [shopC x, [I6 fo, I6 ro, .bool ho, .bool so, .bool oo], [I6 s.1.u, I6 s.1.v, I6 s.1.a, I6 s.1.l, I6 s.1.p, I6 s.1.b]]))
  (fun s => (60 - s.2).toNat) (fun s => (0 <= s.2 /\ s.2 <= 60) /\ x.inv s.1 x.r.ln /\ x.fitI ho fo ro s.1) ?_ (⟨mu, mv, ma, ml, mp, mb⟩, 0) ⟨⟨Int.le_refl 0, by show (0 : Int) <= 60; decide⟩, hi, hf⟩
 rintro ⟨m, k1⟩ ⟨hk1, hi1, hf1⟩ K hn hxx _
 dsimp only at hk1 hi1 hf1
 refine byVB (vbF1 x fo ro m.u m.v m.a m.l m.p m.b k1 z ho so oo K) ⟨fun g => ?_, fun g => hxx _ _ (hq m trivial)⟩
 have g := odt g
 refine ⟨⟨x, ⟨hx, rfl⟩, ⟨P.2.2.1, Int.le_refl _⟩, x.r.ln, Int.le_refl _, hi1⟩, ⟨_, fun y hy => nx_eq hy _ _ _ _ _⟩, fun m2 hm2 => ?_⟩
 have hm2 := hm2 x rfl
 have hI : x.inv m2 x.r.ln := by rw [hm2]; exact xinv_next hx (Int.le_refl _) hi1
 have hF : x.fitI ho fo ro m2 := by rw [hm2]; exact xfit_next hx hi1 hf1
 have hU := (xinv_V hx (Int.le_refl _) hI).1
 unfold okU at hU
 have hv := xfit_v hF
 have go : ∀ y : Int, y = k1 + 1 -> K .normal ([.ce (.bool z), .ce (.ptr 1000013 0), .ce (.ptr 1000014 0), .ce (.ptr 1000015 0), .ce (I6 y)], [shopC x, [I6 fo, I6 ro, .bool ho, .bool so, .bool oo], [I6 m2.u, I6 m2.v, I6 m2.a, I6 m2.l, I6 m2.p, I6 m2.b]]) := fun y ey =>
  hn (m2, y) ⟨by show 0 <= y /\ y <= 60; omega, hI, hF⟩ (by show (60 - y).toNat < (60 - k1).toNat; omega)
 refine ⟨⟨by omega, rfl⟩, fun x4 e4 => ⟨P.1.1.2.2.1, fun x5 e5 => ?_⟩⟩
 have hc := clamp_bd (n := x.r.ln) (v := m2.u / 256) P.2.2.1
 have hp := tplace_bd P.1.1.2.2.1 P.1.1.2.2.2 hc
 refine ⟨⟨P.1.1.1, by rw [e5, e4]; omega⟩, ⟨_, rfl⟩, fun y ey => ?_⟩
 have hpf := pfind_spec P.1.1.1 x5
 rw [<- ey] at hpf
 have hT : x.T ho fo ro m2.u = tgt ho fo ro x.R (ec x.r.sg y.1.toNat 5) (ec x.r.sg y.1.toNat 6) := by rw [ey, e5, e4]; rfl
 have hneg : y.1 < 0 -> m2.v = 0 := fun h => by
  rcases hpf with ⟨h0, _⟩ | ⟨j, h1, h2, _⟩
  . exact hv.2 (by omega)
  . omega
 refine ⟨fun g2 => ?_, fun g2 => ⟨fun g3 => ⟨fun g4 => ?_, fun _ => ⟨by omega, fun y ey => go y ey⟩⟩, fun g3 => ⟨by omega, fun y ey => go y ey⟩⟩⟩
 . have g2 := odt g2
   have hlt : y.1 < (x.r.sg.length : Int) := by
    rcases hpf with ⟨h0, h1⟩ | ⟨j, h1, h2, _⟩
    . rw [h1] at g2; exact absurd g2 (by decide)
    . omega
   refine ⟨⟨by omega, hlt⟩, trivial, fun x7 e7 => ⟨fun g4 => ?_, fun _ => ⟨fun g3 => ?_, fun _ => ⟨by omega, fun y ey => go y ey⟩⟩⟩⟩
   . have g4 := odt g4
     have := hv.1 (by omega)
     rw [hT, <- e7] at this
     omega
   . have g3 := odt g3
     omega
 . have g3 := odt g3
   rw [hneg g3] at g4
   simp at g4
theorem sLFeed : Sound Tryz.prog 8 SLFeed := by
 refine sound_of (C := CFeed) tabFeed Tryz.func8 (by kernel_rfl) (by decide +kernel) (by kernel_rfl) rfl ⟨sAw36, sMade, sFrom, sPan, sQStart, sNxS, sFlr, sPlace, sPFind, sTgR, trivial⟩ (loops1 (by kernel_rfl) (loopOK_of (an := anF1) (S := LF1) (by kernel_rfl) loopF1)) ?_
 intro hA pA R h
 unfold SLFeed at h
 split at h
 case h_2 => exfalso; exact h
 rename_i l ax pl pa ds fa
 obtain ⟨⟨hl, hax, hpl, hpa⟩, hR⟩ := h
 refine byVC (vcFeed l ax pl pa ds fa R) ⟨trivial, ⟨_, rfl⟩, fun a ea => ⟨fun g => by rw [ea] at g; simp at g, fun _ => ⟨⟨hl, hax, hpl⟩, okShop_ex, fun x hx => ⟨trivial, fun x3 e3 x4 e4 => ?_⟩⟩⟩⟩
 have hs : inSrc x3 x4 := by rw [e3, e4]; exact ⟨by omega, by omega⟩
 refine ⟨hs, ⟨(0, 0, false, false, false, x4), hs⟩, fun pn hpn => ⟨by decide, ⟨_, rfl⟩, fun q eq => ⟨⟨x, ⟨hx, rfl⟩, rfl, ?_, ?_⟩, fun _ _ => hR⟩⟩⟩
 . rw [eq]; exact xinv_start hx (by decide) (shop_pre hx).2.2.1
 . rw [eq]; exact xfit_start hx _ _ _
end Go.Proofs.YtoekmphdpepdbaaGreat
