/-
  Part 1.
  Conditions: none.
-/
import Derived.Test.YtoekmphdpepdbaaGreatG6
set_option maxRecDepth 100000
set_option maxHeartbeats 400000
set_option linter.unusedVariables false
set_option linter.unusedSimpArgs false
open Go
namespace Go.HL
open Go Go.ChangeShapes Go.WideShapes Go.ChangeAt Go.RowKit
def fieldsK (P : Program) (rec : TypeId -> Option (List Nat)) : List Field -> Nat -> Option (List Nat)
 | [], _ => some []
 | fl :: r, off => match rec fl.type with
  | some a => bif Nat.beq fl.offset off && Nat.beq (P.cellsOf fl.type) a.length then (match fieldsK P rec r (off + a.length) with
   | some b => some (a ++ b)
   | none => none) else none
  | none => none
def repK : Nat -> List Nat -> List Nat
 | 0, _ => []
 | n + 1, a => a ++ repK n a
def kindsOf (P : Program) : Nat -> TypeId -> Option (List Nat)
 | 0, _ => none
 | f + 1, t => match P.underlying t with
  | some .bool => some [0]
  | some (.int k) => some [kcode k]
  | some (.struct fs) => match fieldsK P (kindsOf P f) fs.toList 0 with
   | some ks => bif Nat.beq ks.length (P.cellsOf t) then some ks else none
   | none => none
  | some (.array n e) => match kindsOf P f e with
   | some a => bif Nat.beq (P.cellsOf e) a.length && Nat.beq (P.cellsOf t) (n * a.length) then some (repK n a) else none
   | none => none
  | _ => none
def InK : Nat -> Int -> Prop
 | 0, n => n = 0 ∨ n = 1
 | k + 1, n => kLo (kk k) <= n /\ n <= kHi (kk k)
def zipK : List Nat -> List Int -> List Value
 | k :: ks, n :: r => kval k n :: zipK ks r
 | _, _ => []
def AllIn : List Nat -> List Int -> Prop
 | k :: ks, n :: r => InK k n /\ AllIn ks r
 | [], [] => True
 | _, _ => False
def Flat (ks : List Nat) (cs : List Value) : Prop := ∃ row, AllIn ks row /\ cs = zipK ks row
theorem AllIn.len : ∀ {ks : List Nat} {row : List Int}, AllIn ks row -> row.length = ks.length
 | [], [], _ => rfl
 | _ :: _, _ :: _, h => by simp [AllIn.len h.2]
 | [], _ :: _, h => h.elim
 | _ :: _, [], h => h.elim
theorem AllIn.append : ∀ {a b : List Nat} {r s : List Int}, AllIn a r -> AllIn b s -> AllIn (a ++ b) (r ++ s) /\ zipK (a ++ b) (r ++ s) = zipK a r ++ zipK b s
 | [], b, [], s, _, h => ⟨h, rfl⟩
 | _ :: a, b, _ :: r, s, h, h' => by
  obtain ⟨h1, h2⟩ := AllIn.append (a := a) (r := r) h.2 h'
  exact ⟨⟨h.1, h1⟩, by simp [zipK, h2]⟩
 | [], _, _ :: _, _, h, _ => h.elim
 | _ :: _, _, [], _, h, _ => h.elim
theorem Flat.append {a b : List Nat} {cs ds : List Value} (h : Flat a cs) (h' : Flat b ds) : Flat (a ++ b) (cs ++ ds) := by
 obtain ⟨r, h1, rfl⟩ := h
 obtain ⟨s, h2, rfl⟩ := h'
 exact ⟨r ++ s, (AllIn.append h1 h2).1, (AllIn.append h1 h2).2.symm⟩
theorem zipK_get : ∀ {ks : List Nat} {row : List Int} {j : Nat}, AllIn ks row -> j < ks.length -> (zipK ks row)[j]? = some (kval (ks.getD j 0) (row.getD j 0)) /\ InK (ks.getD j 0) (row.getD j 0)
 | _ :: _, _ :: _, 0, h, _ => ⟨rfl, h.1⟩
 | _ :: ks, _ :: r, j + 1, h, hj => by
  have := zipK_get (j := j) h.2 (by simpa using hj)
  simpa [zipK] using this
 | [], _, _, _, hj => by simp at hj
 | _ :: _, [], _, h, _ => h.elim
section
variable {H : Type} {enc : TypeId × Value -> H} {P : Program} {w : World} {base : Nat} {spare : Nat -> Bool} {held : Bool}
theorem wf_in {k : IntKind} {n : Int} (h : (Lit.int k n).wf = true) : InK (kcode k) n /\ kval (kcode k) n = .int k n := by
 simp only [Lit.wf, Bool.and_eq_true, decide_eq_true_eq] at h
 cases k <;> simp [IntKind.min, IntKind.max, IntKind.signed, IntKind.bits] at h <;> exact ⟨by simp [InK, kcode, kk, kLo, kHi]; omega, rfl⟩
theorem fields_flat {rec : TypeId -> Option (List Nat)} {cs : List Value} {n : Nat}
 (hrec : ∀ t ks, rec t = some ks -> ∀ cs x, DataW.trod enc P w base spare held n t cs = some x -> Flat ks cs) :
 ∀ (fs : List Field) (off : Nat) (ks : List Nat), fieldsK P rec fs off = some ks -> off + ks.length = cs.length ->
  (∀ f, f ∈ fs -> ∃ x, DataW.trod enc P w base spare held n f.type ((cs.drop f.offset).take (P.cellsOf f.type)) = some x) -> Flat ks (cs.drop off)
 | [], off, ks, h, hl, _ => by
  cases h
  have : cs.drop off = [] := List.drop_eq_nil_of_le (by simp at hl; omega)
  rw [this]
  exact ⟨[], trivial, rfl⟩
 | fl :: r, off, ks, h, hl, hf => by
  unfold fieldsK at h
  split at h
  case h_2 => cases h
  rename_i a ha
  cases hb : (Nat.beq fl.offset off && Nat.beq (P.cellsOf fl.type) a.length) with
  | false => rw [hb] at h; cases h
  | true =>
   rw [hb] at h
   simp only [cond_true] at h
   rw [Bool.and_eq_true] at hb
   have e1 := Nat.eq_of_beq_eq_true hb.1
   have e2 := Nat.eq_of_beq_eq_true hb.2
   split at h
   case h_2 => cases h
   rename_i b hbb
   cases h
   obtain ⟨x, hx⟩ := hf fl (List.mem_cons_self ..)
   rw [e1, e2] at hx
   have f1 := hrec _ _ ha _ _ hx
   have f2 := fields_flat hrec r (off + a.length) b hbb (by simp at hl; omega) (fun f hm => hf f (List.mem_cons_of_mem _ hm))
   have : cs.drop off = (cs.drop off).take a.length ++ cs.drop (off + a.length) := by
    rw [<- List.drop_drop, List.take_append_drop]
   rw [this]
   exact f1.append f2
theorem elems_flat {a : List Nat} {cs : List Value} : ∀ (n i : Nat), i * a.length + n * a.length = cs.length -> (∀ j, i <= j -> j < i + n -> Flat a ((cs.drop (j * a.length)).take a.length)) -> Flat (repK n a) (cs.drop (i * a.length))
 | 0, i, hl, _ => by
  have : cs.drop (i * a.length) = [] := List.drop_eq_nil_of_le (by omega)
  rw [this]
  exact ⟨[], trivial, rfl⟩
 | n + 1, i, hl, h => by
  have e : (n + 1) * a.length = n * a.length + a.length := Nat.succ_mul _ _
  have e2 : (i + 1) * a.length = i * a.length + a.length := Nat.succ_mul _ _
  have f1 := h i (Nat.le_refl _) (by omega)
  have f2 := elems_flat n (i + 1) (by omega) (fun j h1 h2 => h j (by omega) (by omega))
  have : cs.drop (i * a.length) = (cs.drop (i * a.length)).take a.length ++ cs.drop ((i + 1) * a.length) := by
   rw [e2, <- List.drop_drop, List.take_append_drop]
  rw [this]
  exact f1.append f2
theorem trod_flat : ∀ (f : Nat) (t : TypeId) (ks : List Nat), kindsOf P f t = some ks -> ∀ fuel cs x, DataW.trod enc P w base spare held fuel t cs = some x -> Flat ks cs
 | 0, _, _, h, _, _, _, _ => by cases h
 | f + 1, t, ks, h, fuel, cs, x, hx => by
  unfold kindsOf at h
  split at h
  . rename_i ht
    cases h
    obtain ⟨b, rfl, _⟩ := DataW.trod_bool ht hx
    refine ⟨[if b then 1 else 0], ⟨by cases b <;> simp [InK], trivial⟩, ?_⟩
    cases b <;> rfl
  . rename_i k ht
    cases h
    obtain ⟨n, rfl, _, hw⟩ := DataW.trod_int ht hx
    exact ⟨[n], ⟨(wf_in hw).1, trivial⟩, by simp [zipK, (wf_in hw).2]⟩
  . rename_i fs ht
    obtain ⟨xs, n, _, _, hl, hxl, hf⟩ := DataW.trod_struct ht hx
    split at h
    case h_2 => cases h
    rename_i ks' hk
    cases hb : Nat.beq ks'.length (P.cellsOf t) with
    | false => rw [hb] at h; cases h
    | true =>
     rw [hb] at h
     cases h
     have e := Nat.eq_of_beq_eq_true hb
     have := fields_flat (cs := cs) (n := n) (fun t ks h cs x hx => trod_flat f t ks h n cs x hx) fs.toList 0 ks hk (by omega) (fun fl hm => by
      obtain ⟨i, hi, he⟩ := List.mem_iff_getElem.1 hm
      have hi' : i < fs.size := by simpa using hi
      have h1 := hf i fl (by rw [Array.getElem?_eq_getElem hi']; simp at he; rw [he])
      rw [List.getElem?_eq_getElem (by omega)] at h1
      exact ⟨_, h1⟩)
     simpa using this
  . rename_i n e ht
    obtain ⟨xs, m, _, _, hl, hxl, hf⟩ := DataW.trod_array ht hx
    split at h
    case h_2 => cases h
    rename_i a ha
    cases hb : (Nat.beq (P.cellsOf e) a.length && Nat.beq (P.cellsOf t) (n * a.length)) with
    | false => rw [hb] at h; cases h
    | true =>
     rw [hb] at h
     cases h
     rw [Bool.and_eq_true] at hb
     have e1 := Nat.eq_of_beq_eq_true hb.1
     have e2 := Nat.eq_of_beq_eq_true hb.2
     have := elems_flat (a := a) (cs := cs) n 0 (by omega) (fun j _ hj => by
      have h1 := hf j (by omega)
      rw [List.getElem?_eq_getElem (by omega), e1] at h1
      exact trod_flat f e a ha m _ _ h1)
     simpa using this
  . cases h
theorem cells_flat {ks : List Nat} {a : Addr} {cs : List Value} (h1 : ∀ i, i < ks.length -> w.cell? (a.add i) = cs[i]?) (hf : Flat ks cs) :
 ∃ row : List Int, AllIn ks row /\ ∀ j, j < ks.length -> w.cell? (a.add j) = some (kval (ks.getD j 0) (row.getD j 0)) := by
 obtain ⟨row, hr, rfl⟩ := hf
 exact ⟨row, hr, fun j hj => by rw [h1 j hj]; exact (zipK_get hr hj).1⟩
theorem in_slice_sz {r : Reach} {b0 : Nat} {t e : TypeId} {ks : List Nat} {v : Value} {d : DataW H} {ps : List MemPlace} (ht : P.underlying t = some (.slice e)) (hk : kindsOf P 12 e = some ks) (hC : P.cellsOf e = ks.length) (hpos : 0 < ks.length)
 (hval : Value.okWide P w r b0 t v) (hd : DataW.Trod enc P w base (fun _ => true) held t v d ps) :
 ∃ rows : LL, rows.length <= maxLen /\ (∀ i, i < rows.length -> AllIn ks (rows.getD i [])) /\ VRel (G0 w) w none (.ce (.sl false ks rows)) v /\
  ∀ R B : Nat, (∀ es sp, d = .slice es sp -> (es.length + sp.length) * B <= R) -> rows.length * B <= R := by
 obtain ⟨fuel, hd⟩ := hd
 obtain ⟨ad, len, cap, rfl⟩ := okWide_slice ht hval
 have hc : (Value.slice ad len cap).cells.toList = [.slice ad len cap] := by simp [Value.cells]
 rw [hc] at hd
 rcases DataW.trod_slice ht hd with ⟨he, _⟩ | ⟨a, len', cap', elems, rest, n, _, he, hxd, hb, hl, hm, hlen, hel, hsp, _⟩
 . simp at he
   obtain ⟨rfl, rfl, rfl⟩ := he
   exact ⟨[], Nat.zero_le _, fun i hi => by simp at hi, ⟨none, 0, rfl, Nat.le_refl _, Nat.zero_le _, .inl ⟨.inl rfl, rfl, rfl⟩⟩, fun R B _ => by simp⟩
 . simp at he
   obtain ⟨rfl, rfl, rfl⟩ := he
   obtain ⟨hrl, hrest⟩ := hsp rfl
   have hall : ∀ i, i < cap -> ∃ row : List Int, AllIn ks row /\ ∀ j, j < ks.length -> w.cell? ((a.add (i * ks.length)).add j) = some (kval (ks.getD j 0) (row.getD j 0)) := by
    intro i hi
    have key : ∀ y, (w.cells? base (a.add (i * P.cellsOf e)) (P.cellsOf e)).bind (DataW.trod enc P w base (fun _ => true) held n e) = some y ->
     ∃ row : List Int, AllIn ks row /\ ∀ j, j < ks.length -> w.cell? ((a.add (i * ks.length)).add j) = some (kval (ks.getD j 0) (row.getD j 0)) := by
     intro y hy
     rw [Option.bind_eq_some_iff] at hy
     obtain ⟨cs, h1, h2⟩ := hy
     obtain ⟨_, _, h3⟩ := World.cells?_some h1
     rw [hC] at h3
     exact cells_flat h3 (trod_flat 12 e ks hk n cs y h2)
    by_cases hi2 : i < len
    . have := hel i hi2
      rw [List.getElem?_eq_getElem (by omega)] at this
      exact key _ this
    . have := hrest (i - len) (by omega)
      rw [List.getElem?_eq_getElem (by omega), show len + (i - len) = i by omega] at this
      exact key _ this
   have hch : ∀ i, ∃ row : List Int, i < cap -> AllIn ks row /\ ∀ j, j < ks.length -> w.cell? ((a.add (i * ks.length)).add j) = some (kval (ks.getD j 0) (row.getD j 0)) := by
    intro i
    by_cases hi : i < cap
    . obtain ⟨row, h⟩ := hall i hi; exact ⟨row, fun _ => h⟩
    . exact ⟨[], fun h => absurd h hi⟩
   obtain ⟨f, hrows⟩ : ∃ f : Nat -> List Int, ∀ i, i < cap -> AllIn ks (f i) /\ ∀ j, j < ks.length -> w.cell? ((a.add (i * ks.length)).add j) = some (kval (ks.getD j 0) ((f i).getD j 0)) :=
    ⟨fun i => Classical.choose (hch i), fun i => Classical.choose_spec (hch i)⟩
   clear hch
   refine ⟨(List.range len).map f, by simp; omega, fun i hi => ?_, ?_, fun R B hs => ?_⟩
   . simp at hi
     have : ((List.range len).map f).getD i [] = f i := by simp [List.getD_eq_getElem?_getD, hi]
     rw [this]
     exact (hrows i (by omega)).1
   . have hll : ((List.range len).map f).length = len := by simp
     refine ⟨some a, cap, by rw [hll], by rw [hll]; exact hl, hm, ?_⟩
     rw [hll]
     by_cases hc0 : cap = 0
     . exact .inl ⟨.inl rfl, by omega, hc0⟩
     . have h0 := (hrows 0 (by omega)).2 0 hpos
       have hx0 : (a.add (0 * ks.length)).add 0 = a := by simp [Addr.add]
       rw [hx0] at h0
       obtain ⟨hbk, hs⟩ := cell_lt h0
       have hx : a = at_ a.block a.off := by
        cases a with
        | mk b o s => dsimp only at hs; subst hs; rfl
       refine .inr ⟨a.block, a.off, by rw [<- hx], fun i j hi hj => ⟨hbk, ?_⟩, fun _ e => nomatch e⟩
       have h1 := (hrows i (by omega)).2 j hj
       rw [hx, at_add, at_add, show a.off + i * ks.length + j = a.off + (i * ks.length + j) by omega] at h1
       have hg : ((List.range len).map f).getD i [] = f i := by simp [List.getD_eq_getElem?_getD, hi]
       rw [hg]
       exact h1
   . have := hs (elems.map (·.1)) (rest.map (·.1)) (congrArg Prod.fst hxd)
     simp only [List.length_map, List.length_range] at this ⊢
     rw [hlen, Nat.add_mul] at this
     omega
theorem in_slice {r : Reach} {b0 : Nat} {t e : TypeId} {ks : List Nat} {v : Value} {d : DataW H} {ps : List MemPlace} (ht : P.underlying t = some (.slice e)) (hk : kindsOf P 12 e = some ks) (hC : P.cellsOf e = ks.length) (hpos : 0 < ks.length)
 (hval : Value.okWide P w r b0 t v) (hd : DataW.Trod enc P w base (fun _ => true) held t v d ps) :
 ∃ rows : LL, rows.length <= maxLen /\ (∀ i, i < rows.length -> AllIn ks (rows.getD i [])) /\ VRel (G0 w) w none (.ce (.sl false ks rows)) v := by
 obtain ⟨rows, h1, h2, h3, _⟩ := in_slice_sz ht hk hC hpos hval hd
 exact ⟨rows, h1, h2, h3⟩
end
end Go.HL
namespace U
open Go
def ShS.row (x : ShS) (u : Int) : List Int := [x.r.M0 (clamp x.r.ln (u / 256)), x.r.M1 (clamp x.r.ln (u / 256)), x.r.M2 (clamp x.r.ln (u / 256))]
def ShS.okL (x : ShS) (L : LL) (m : QM) : Prop :=
 3 <= L.length /\ x.W L = true /\ Sm3 1125899906842624 L /\ ∀ c, c < 3 -> ec L (L.length - 1) c = (x.row m.u).getD c 0 /\ ec L (L.length - 2) c = (x.row m.l).getD c 0 /\ ec L (L.length - 3) c = (x.row m.p).getD c 0
end U
namespace Go.Proofs.YtoekmphdpepdbaaGreat
open Go Go.HL U
def SLLim (hA : List HV) (pA : List (List HC)) : SR :=
 match hA, pA with
 | [.ce (.sl false [4] l), .ce (.sl false [4] ax), .ce (.sl false [4] pl), .ce (.sl false [4] pa), .ce (.int .i64 ds), .ce (.bool fa)], [] =>
  .det (l.length <= 9223372036854775807 /\ ax.length <= 9223372036854775807 /\ pl.length <= 9223372036854775807 /\ pa.length <= 9223372036854775807) okR
 | _, _ => .fail
def tabLim : List (FuncId × HL.Spec) := [(11, STrue0), (12, SMade), (14, SFrom), (20, SQStart), (22, SNext), (13, SPan), (23, SNxS), (25, SMoS), (26, SAll)]
def anM1 : LAnn := ⟨[12, 13, 14, 15, 16, 100016, 17], [12, 13, 16], [1000013, 1000031, 1000015], false⟩
def LM1 (v : LV) : LR :=
 match v with
 | ([.ce (.bool z), .ce (.ptr 1000013 0), .ce (.ptr 1000031 0), .ce (.ptr 1000015 0), .ce (.sl false [4, 4, 4] L), .ce (.lit true), .ce (.int .i64 k)], [rb, [.sl false [4] pa, .int .i64 p], [.int .i64 mu, .int .i64 mv, .int .i64 ma, .int .i64 ml, .int .i64 mp, .int .i64 mb]]) =>
  .all (k = 0 /\ inSrc pa p /\ ∃ x, (okShop x /\ rb = shopC x) /\ x.inv ⟨mu, mv, ma, ml, mp, mb⟩ x.r.ln /\ x.okL L ⟨mu, mv, ma, ml, mp, mb⟩ /\ L.length = 4) (LL × Int × QM) (fun y => ∃ x, (okShop x /\ rb = shopC x) /\ x.W y.1 = true /\ Sm3 1125899906842624 y.1 /\ y.1.length = 64) (fun _ => .exit 0)
   (fun y => ([.ce (.bool z), .ce (.ptr 1000013 0), .ce (.sl false [4, 4, 4] y.1)], [rb, [.sl false [4] pa, I6 y.2.1], [I6 y.2.2.u, I6 y.2.2.v, I6 y.2.2.a, I6 y.2.2.l, I6 y.2.2.p, I6 y.2.2.b]]))
 | _ => .fail
noncomputable def CLim : Ctx := ⟨Tryz.prog, gam tabLim, Tryz.f5.ntmps, [(10, anM1, LM1)], []⟩
theorem vbM1 (x : ShS) (p mu mv ma ml mp mb k : Int) (z : Bool) (L pa : LL) (K : HEx -> LV -> Prop) : (nbodyT true CLim anM1 (nthLoop Tryz.f5 0) (([.ce (.bool z), .ce (.ptr 1000013 0), .ce (.ptr 1000031 0), .ce (.ptr 1000015 0), .ce (.sl false [4, 4, 4] L), .ce (.lit true), .ce (I6 k)], [[I6 x.r.s0, I6 x.r.s1, I6 x.r.s2, .sl false [4, 4, 4, 4, 4, 4, 4] x.r.sg, .sl false [4, 4, 4] x.r.mks, I6 x.r.a.st, I6 x.r.a.sp, I6 x.r.a.ac, I6 x.r.a.je, I6 (-16777216), I6 16777216, I6 x.r.a.bl, I6 x.r.a.og, I6 x.r.a.sg, .sl false [4] x.r.a.pit, I6 x.r.b.st, I6 x.r.b.sp, I6 x.r.b.ac, I6 x.r.b.je, I6 (-16777216), I6 16777216, I6 x.r.b.bl, I6 x.r.b.og, I6 x.r.b.sg, .sl false [4] x.r.b.pit, I6 x.r.c.st, I6 x.r.c.sp, I6 x.r.c.ac, I6 x.r.c.je, I6 (-16777216), I6 16777216, I6 x.r.c.bl, I6 x.r.c.og, I6 x.r.c.sg, .sl false [4] x.r.c.pit, .sl false [4, 4, 4, 4, 4, 4, 4, 4, 4, 4] x.r.pk, I6 x.r.ln, I6 x.r.f, I6 x.r.d0, I6 x.r.d1, I6 x.r.d2, I6 x.A, I6 x.J, I6 x.R, I6 x.r.ln], [.sl false [4] pa, I6 p], [I6 mu, I6 mv, I6 ma, I6 ml, I6 mp, I6 mb]])) K) =
 ((decide (k < 60) = true -> ((0 : Int) < 4 /\ (4 : Int) <= 4611686018427387904 /\ inSrc pa p) /\ (∃ (x : Int × Int), drew pa p (4 : Int) x) /\ ∀ (x_1 : Int × Int), drew pa p (4 : Int) x_1 -> (decide (x_1.1 > 0) = true -> inSrc pa x_1.2 /\ (∃ (x : Int × Int × Bool × Bool × Bool × Int), inSrc pa x.snd.snd.snd.snd.2) /\ ∀ (x_2 : Int × Int × Bool × Bool × Bool × Int), inSrc pa x_2.snd.snd.snd.snd.2 -> (∃ (x_3 : ShS), (okShop x_3 /\ (shopC x) = shopC x_3) /\
 (0 <= x.r.ln /\ x.r.ln <= x_3.r.ln) /\ ∃ (l : Int), l <= x.r.ln /\ ShS.inv x_3 { u := mu, v := mv, a := ma, l := ml, p := mp, b := mb } l) /\ (∃ (x_3 : QM), ∀ (x_4 : ShS), (shopC x) = shopC x_4 ->
 x_3 = ShS.nx x_4 x_2.snd.snd.1 x_2.1 x_2.snd.1 { u := mu, v := mv, a := ma, l := ml, p := mp, b := mb } x.r.ln) /\ ∀ (x_3 : QM), (∀ (x_4 : ShS), (shopC x) = shopC x_4 ->
 x_3 = ShS.nx x_4 x_2.snd.snd.1 x_2.1 x_2.snd.1 { u := mu, v := mv, a := ma, l := ml, p := mp, b := mb } x.r.ln) -> ((∃ (x_4 : ShS), okShop x_4 /\ (shopC x) = shopC x_4) /\
 okU x_3.u) /\ (∃ (x_4 : Int × Int × Int), ∀ (x_5 : ShS), (shopC x) = shopC x_5 ->
 x_4 = (RunS.M0 x_5.r (clamp x_5.r.ln (x_3.u / 256)), RunS.M1 x_5.r (clamp x_5.r.ln (x_3.u / 256)), RunS.M2 x_5.r (clamp x_5.r.ln (x_3.u / 256)))) /\ ∀ (x_4 : Int × Int × Int), (∀ (x_5 : ShS), (shopC x) = shopC x_5 ->
 x_4 = (RunS.M0 x_5.r (clamp x_5.r.ln (x_3.u / 256)), RunS.M1 x_5.r (clamp x_5.r.ln (x_3.u / 256)), RunS.M2 x_5.r (clamp x_5.r.ln (x_3.u / 256)))) -> ((List.length L + 1) * 24 <= 140737488355328 /\ List.length L + 1 <= maxLen) /\ R6 (k + 1) /\ ∀ x9, x9 = k + 1 -> K .normal ([.ce (.bool z), .ce (.ptr 1000013 0), .ce (.ptr 1000031 0), .ce (.ptr 1000015 0), .ce (.sl false [4, 4, 4] (L ++ [[x_4.1, x_4.snd.1, x_4.snd.2]])), .ce (.lit true), .ce (I6 x9)], [(shopC x), [.sl false [4] pa, I6 x_2.snd.snd.snd.snd.2], [I6 x_3.u, I6 x_3.v, I6 x_3.a, I6 x_3.l, I6 x_3.p, I6 x_3.b]])) /\
 (decide (x_1.1 > 0) = false -> (∃ (x_2 : ShS), (okShop x_2 /\ (shopC x) = shopC x_2) /\
 (0 <= x.r.ln /\ x.r.ln <= x_2.r.ln) /\ ∃ (l : Int), l <= x.r.ln /\ ShS.inv x_2 { u := mu, v := mv, a := ma, l := ml, p := mp, b := mb } l) /\ (∃ (x_2 : QM), ∀ (x_3 : ShS), (shopC x) = shopC x_3 ->
 x_2 = ShS.nx x_3 false (100 : Int) (100 : Int) { u := mu, v := mv, a := ma, l := ml, p := mp, b := mb } x.r.ln) /\ ∀ (x_2 : QM), (∀ (x_3 : ShS), (shopC x) = shopC x_3 ->
 x_2 = ShS.nx x_3 false (100 : Int) (100 : Int) { u := mu, v := mv, a := ma, l := ml, p := mp, b := mb } x.r.ln) -> ((∃ (x_3 : ShS), okShop x_3 /\ (shopC x) = shopC x_3) /\
 okU x_2.u) /\ (∃ (x_3 : Int × Int × Int), ∀ (x_4 : ShS), (shopC x) = shopC x_4 ->
 x_3 = (RunS.M0 x_4.r (clamp x_4.r.ln (x_2.u / 256)), RunS.M1 x_4.r (clamp x_4.r.ln (x_2.u / 256)), RunS.M2 x_4.r (clamp x_4.r.ln (x_2.u / 256)))) /\ ∀ (x_3 : Int × Int × Int), (∀ (x_4 : ShS), (shopC x) = shopC x_4 ->
 x_3 = (RunS.M0 x_4.r (clamp x_4.r.ln (x_2.u / 256)), RunS.M1 x_4.r (clamp x_4.r.ln (x_2.u / 256)), RunS.M2 x_4.r (clamp x_4.r.ln (x_2.u / 256)))) -> ((List.length L + 1) * 24 <= 140737488355328 /\ List.length L + 1 <= maxLen) /\ R6 (k + 1) /\ ∀ x16, x16 = k + 1 -> K .normal ([.ce (.bool z), .ce (.ptr 1000013 0), .ce (.ptr 1000031 0), .ce (.ptr 1000015 0), .ce (.sl false [4, 4, 4] (L ++ [[x_3.1, x_3.snd.1, x_3.snd.2]])), .ce (.lit true), .ce (I6 x16)], [(shopC x), [.sl false [4] pa, I6 x_1.2], [I6 x_2.u, I6 x_2.v, I6 x_2.a, I6 x_2.l, I6 x_2.p, I6 x_2.b]]))) /\
 (decide (k < 60) = false -> K (.exit 0) ([.ce (.bool z), .ce (.ptr 1000013 0), .ce (.sl false [4, 4, 4] L)], [(shopC x), [.sl false [4] pa, I6 p], [I6 mu, I6 mv, I6 ma, I6 ml, I6 mp, I6 mb]]))) := by kernel_rfl
theorem vcLim (l ax pl pa : LL) (ds : Int) (fa : Bool) (Q : Res -> Prop) : (nfun true CLim Tryz.f5 (bodyOf Tryz.f5) [.ce (.sl false [4] l), .ce (.sl false [4] ax), .ce (.sl false [4] pl), .ce (.sl false [4] pa), .ce (I6 ds), .ce (.bool fa)] [] Q) =
 (True /\ (∃ (x : Bool), x = true) /\ ∀ (x : Bool), x = true -> ((!x) = true -> Q ⟨.ce (.bool false), false, [], []⟩) /\ ((!x) = false -> (decide ((pa.length : Int) > 200) = true -> Q ⟨.ce (.bool true), false, [], []⟩) /\ (decide ((pa.length : Int) > 200) = false -> (l.length <= 9223372036854775807 /\ ax.length <= 9223372036854775807 /\ pl.length <= 9223372036854775807) /\ (∃ (x : ShS), okShop x) /\ ∀ (x : ShS), okShop x -> True /\ ∀ (x3 : LL), x3 = pa -> ∀ (x4 : Int), x4 = 0 -> ((-18014398509481984 : Int) <= 0 /\ (0 : Int) <= 18014398509481984) /\ (∃ (x : QM), x = qstart (0 : Int)) /\ ∀ (x_1 : QM), x_1 = qstart (0 : Int) -> ((∃ (x_2 : ShS), okShop x_2 /\ (shopC x) = shopC x_2) /\
 okU x_1.u) /\ (∃ (x_2 : Int × Int × Int), ∀ (x_3 : ShS), (shopC x) = shopC x_3 ->
 x_2 = (RunS.M0 x_3.r (clamp x_3.r.ln (x_1.u / 256)), RunS.M1 x_3.r (clamp x_3.r.ln (x_1.u / 256)), RunS.M2 x_3.r (clamp x_3.r.ln (x_1.u / 256)))) /\ ∀ (x_2 : Int × Int × Int), (∀ (x_3 : ShS), (shopC x) = shopC x_3 ->
 x_2 = (RunS.M0 x_3.r (clamp x_3.r.ln (x_1.u / 256)), RunS.M1 x_3.r (clamp x_3.r.ln (x_1.u / 256)), RunS.M2 x_3.r (clamp x_3.r.ln (x_1.u / 256)))) -> ((∃ (x_3 : ShS), okShop x_3 /\ (shopC x) = shopC x_3) /\
 okU x_1.u) /\ (∃ (x_3 : Int × Int × Int), ∀ (x_4 : ShS), (shopC x) = shopC x_4 ->
 x_3 = (RunS.M0 x_4.r (clamp x_4.r.ln (x_1.u / 256)), RunS.M1 x_4.r (clamp x_4.r.ln (x_1.u / 256)), RunS.M2 x_4.r (clamp x_4.r.ln (x_1.u / 256)))) /\ ∀ (x_3 : Int × Int × Int), (∀ (x_4 : ShS), (shopC x) = shopC x_4 ->
 x_3 = (RunS.M0 x_4.r (clamp x_4.r.ln (x_1.u / 256)), RunS.M1 x_4.r (clamp x_4.r.ln (x_1.u / 256)), RunS.M2 x_4.r (clamp x_4.r.ln (x_1.u / 256)))) -> ((∃ (x_4 : ShS), okShop x_4 /\ (shopC x) = shopC x_4) /\
 okU x_1.u) /\ (∃ (x_4 : Int × Int × Int), ∀ (x_5 : ShS), (shopC x) = shopC x_5 ->
 x_4 = (RunS.M0 x_5.r (clamp x_5.r.ln (x_1.u / 256)), RunS.M1 x_5.r (clamp x_5.r.ln (x_1.u / 256)), RunS.M2 x_5.r (clamp x_5.r.ln (x_1.u / 256)))) /\ ∀ (x_4 : Int × Int × Int), (∀ (x_5 : ShS), (shopC x) = shopC x_5 ->
 x_4 = (RunS.M0 x_5.r (clamp x_5.r.ln (x_1.u / 256)), RunS.M1 x_5.r (clamp x_5.r.ln (x_1.u / 256)), RunS.M2 x_5.r (clamp x_5.r.ln (x_1.u / 256)))) -> ((∃ (x_5 : ShS), okShop x_5 /\ (shopC x) = shopC x_5) /\
 okU x_1.u) /\ (∃ (x_5 : Int × Int × Int), ∀ (x_6 : ShS), (shopC x) = shopC x_6 ->
 x_5 = (RunS.M0 x_6.r (clamp x_6.r.ln (x_1.u / 256)), RunS.M1 x_6.r (clamp x_6.r.ln (x_1.u / 256)), RunS.M2 x_6.r (clamp x_6.r.ln (x_1.u / 256)))) /\ ∀ (x_5 : Int × Int × Int), (∀ (x_6 : ShS), (shopC x) = shopC x_6 ->
 x_5 = (RunS.M0 x_6.r (clamp x_6.r.ln (x_1.u / 256)), RunS.M1 x_6.r (clamp x_6.r.ln (x_1.u / 256)), RunS.M2 x_6.r (clamp x_6.r.ln (x_1.u / 256)))) -> ((0 : Int) = 0 /\ inSrc x3 x4 /\ ∃ (x_6 : ShS), (okShop x_6 /\ (shopC x) = shopC x_6) /\
 ShS.inv x_6 { u := x_1.u, v := x_1.v, a := x_1.a, l := x_1.l, p := x_1.p, b := x_1.b } x_6.r.ln /\ ShS.okL x_6 [[x_2.1, x_2.snd.1, x_2.snd.2], [x_3.1, x_3.snd.1, x_3.snd.2], [x_4.1, x_4.snd.1, x_4.snd.2], [x_5.1, x_5.snd.1, x_5.snd.2]] { u := x_1.u, v := x_1.v, a := x_1.a, l := x_1.l, p := x_1.p, b := x_1.b } /\ (4 : Nat) = 4) /\ ∀ (x_6 : LL × Int × QM), (∃ (x_7 : ShS), (okShop x_7 /\ (shopC x) = shopC x_7) /\
 ShS.W x_7 x_6.1 = true /\ Sm3 (1125899906842624 : Int) x_6.1 /\ List.length x_6.1 = 64) -> (List.length x_6.1 <= 8192 /\ Sm3 (1125899906842624 : Int) x_6.1 /\ okLi x.r.a.sp x.r.a.ac x.r.a.je /\ okLi x.r.b.sp x.r.b.ac x.r.b.je /\ okLi x.r.c.sp x.r.c.ac x.r.c.je) /\ ∀ (x19 : Bool), x19 = wth3 x.r.a.sp x.r.a.ac x.r.a.je x.r.b.sp x.r.b.ac x.r.b.je x.r.c.sp x.r.c.ac x.r.c.je x_6.1 -> Q ⟨.ce (.bool x19), false, [], []⟩))) := by kernel_rfl
end Go.Proofs.YtoekmphdpepdbaaGreat
namespace U
theorem Lm_le {sp ac je : Int} {f : Nat -> Int} {n m : Nat} (h : Lm sp ac je f n) (hm : m <= n) : Lm sp ac je f m :=
 ⟨fun j hj => h.1 j (by omega), fun j hj => h.2.1 j (by omega), fun j hj => h.2.2 j (by omega)⟩
theorem Lm_app {sp ac je : Int} {F f g : Nat -> Int} {n N : Nat} (hn : 3 <= n) (hN : 4 <= N) (hf : Lm sp ac je f n) (hg : Lm sp ac je g N) (h : ∀ j, j < n -> f j = F j) (h3 : g 3 = F n) (h2 : g 2 = F (n - 1)) (h1 : g 1 = F (n - 2)) (h0 : g 0 = F (n - 3)) :
 Lm sp ac je F (n + 1) := by
 refine Lm_win.2 ⟨Lm_congr h hf, ?_⟩
 rw [show n + 1 - (n + 1 - 4) = 4 by omega]
 refine Lm_congr (fun j hj => ?_) (Lm_le hg hN)
 rcases (by omega : j = 0 ∨ j = 1 ∨ j = 2 ∨ j = 3) with rfl | rfl | rfl | rfl
 . rw [h0, show n + 1 - 4 + 0 = n - 3 by omega]
 . rw [h1, show n + 1 - 4 + 1 = n - 2 by omega]
 . rw [h2, show n + 1 - 4 + 2 = n - 1 by omega]
 . rw [h3, show n + 1 - 4 + 3 = n by omega]
theorem xMb {x : RunS} (h : okRun x) (u : Int) (hu : 0 <= u /\ u <= x.ln) : (-4398046511104 <= x.M0 u /\ x.M0 u <= 4398046511104) /\ (-4398046511104 <= x.M1 u /\ x.M1 u <= 4398046511104) /\ (-4398046511104 <= x.M2 u /\ x.M2 u <= 4398046511104) := by
 have p := okRun_pre h
 exact ⟨Go.Proofs.YtoekmphdpepdbaaGreat.mtr_bd p.1 p.2.1.1 (fun j hj => (p.2.1.2.2.2 j hj).1) p.2.2.1 p.2.2.2.1 hu, Go.Proofs.YtoekmphdpepdbaaGreat.mtr_bd p.1 p.2.1.2.1 (fun j hj => (p.2.1.2.2.2 j hj).2.1) p.2.2.1 p.2.2.2.2.1 hu, Go.Proofs.YtoekmphdpepdbaaGreat.mtr_bd p.1 p.2.1.2.2.1 (fun j hj => (p.2.1.2.2.2 j hj).2.2) p.2.2.1 p.2.2.2.2.2.1 hu⟩
theorem xmv (x : ShS) (ho : Bool) (fo ro : Int) (m : QM) (lim : Int) : ∃ v, x.nx ho fo ro m lim = qmove m v := by
 rcases next_cases x.A x.J x.W x.Mo x.r.sg.length (x.T ho fo ro) m lim with ⟨k, _, e, _⟩ | ⟨_, e⟩
 . exact ⟨_, e⟩
 . exact ⟨_, e⟩
theorem row_bd {x : ShS} (h : okShop x) (u : Int) (c : Nat) (hc : c < 3) : -1125899906842624 <= (x.row u).getD c 0 /\ (x.row u).getD c 0 <= 1125899906842624 := by
 have P := (shop_pre h).2.2
 have hu : 0 <= clamp x.r.ln (u / 256) /\ clamp x.r.ln (u / 256) <= x.r.ln := by unfold clamp; omega
 have b := xMb h.1 _ hu
 rcases (by omega : c = 0 ∨ c = 1 ∨ c = 2) with rfl | rfl | rfl
 . show _ <= x.r.M0 _ /\ x.r.M0 _ <= _; omega
 . show _ <= x.r.M1 _ /\ x.r.M1 _ <= _; omega
 . show _ <= x.r.M2 _ /\ x.r.M2 _ <= _; omega
theorem xlimits {x : ShS} (h : okShop x) {L : LL} {m m2 : QM} {lim : Int} (hL : x.okL L m) (hi : x.inv m2 lim) (e1 : m2.l = m.u) (e2 : m2.p = m.l) (e3 : m2.b = m.p) : x.okL (L ++ [x.row m2.u]) m2 := by
 obtain ⟨l3, hW, hS, hr⟩ := hL
 have hs := hi.1
 unfold qsafe at hs
 rw [Bool.and_eq_true, Bool.and_eq_true] at hs
 have hw := hs.2.2
 have len : (L ++ [x.row m2.u]).length = L.length + 1 := by simp
 have ea : ∀ c, ec (L ++ [x.row m2.u]) L.length c = (x.row m2.u).getD c 0 := fun c => by rw [ec_app, if_neg (by omega), Nat.sub_self]; rfl
 have eb : ∀ j c, j < L.length -> ec (L ++ [x.row m2.u]) j c = ec L j c := fun j c hj => by rw [ec_app, if_pos hj]
 refine ⟨by omega, ?_, fun j hj => ?_, fun c hc => ⟨?_, ?_, ?_⟩⟩
 . unfold ShS.W ShS.Mo at hw
   unfold ShS.W at hW ⊢
   rw [wth3_iff] at hw hW ⊢
   rw [len]
   have hN : 4 <= (qmot x.r.M0 x.r.M1 x.r.M2 x.r.ln (qway m2 (qfu x.A x.J m2.u m2.v m2.a))).length := by rw [qmot_len]; unfold qway; simp
   have r0 := hr 0 (by decide)
   have r1 := hr 1 (by decide)
   have r2 := hr 2 (by decide)
   refine ⟨Lm_app l3 hN hW.1 hw.1 (fun j hj => (eb j 0 hj).symm) ?_ ?_ ?_ ?_, Lm_app l3 hN hW.2.1 hw.2.1 (fun j hj => (eb j 1 hj).symm) ?_ ?_ ?_ ?_, Lm_app l3 hN hW.2.2 hw.2.2 (fun j hj => (eb j 2 hj).symm) ?_ ?_ ?_ ?_⟩
   . rw [ea]; rfl
   . rw [eb _ _ (by omega), r0.1, <- e1]; rfl
   . rw [eb _ _ (by omega), r0.2.1, <- e2]; rfl
   . rw [eb _ _ (by omega), r0.2.2, <- e3]; rfl
   . rw [ea]; rfl
   . rw [eb _ _ (by omega), r1.1, <- e1]; rfl
   . rw [eb _ _ (by omega), r1.2.1, <- e2]; rfl
   . rw [eb _ _ (by omega), r1.2.2, <- e3]; rfl
   . rw [ea]; rfl
   . rw [eb _ _ (by omega), r2.1, <- e1]; rfl
   . rw [eb _ _ (by omega), r2.2.1, <- e2]; rfl
   . rw [eb _ _ (by omega), r2.2.2, <- e3]; rfl
 . by_cases e : j < L.length
   . rw [eb _ _ e, eb _ _ e, eb _ _ e]; exact hS j e
   . have e : j = L.length := by omega
     subst e
     rw [ea, ea, ea]
     exact ⟨row_bd h _ 0 (by decide), row_bd h _ 1 (by decide), row_bd h _ 2 (by decide)⟩
 . rw [len, show L.length + 1 - 1 = L.length from rfl, ea]
 . rw [len, show L.length + 1 - 2 = L.length - 1 by omega, eb _ _ (by omega), (hr c hc).1, <- e1]
 . rw [len, show L.length + 1 - 3 = L.length - 2 by omega, eb _ _ (by omega), (hr c hc).2.1, <- e2]
theorem xlim0 {x : ShS} (h : okShop x) : x.okL [x.row 0, x.row 0, x.row 0, x.row 0] (qstart 0) := by
 have P := (shop_pre h).1.2.2
 refine ⟨by show 3 <= 4; decide, ?_, fun j hj => ?_, fun c hc => ⟨rfl, rfl, rfl⟩⟩
 . unfold ShS.W
   rw [wth3_iff]
   refine ⟨Lm_const P.1.1.1 P.1.2.1.1 P.1.2.2.1 ((x.row 0).getD 0 0) (fun j hj => ?_), Lm_const P.2.1.1.1 P.2.1.2.1.1 P.2.1.2.2.1 ((x.row 0).getD 1 0) (fun j hj => ?_), Lm_const P.2.2.1.1 P.2.2.2.1.1 P.2.2.2.2.1 ((x.row 0).getD 2 0) (fun j hj => ?_)⟩ <;>
   . have hj : j < 4 := hj
     rcases (by omega : j = 0 ∨ j = 1 ∨ j = 2 ∨ j = 3) with rfl | rfl | rfl | rfl <;> rfl
 . have hj : j < 4 := hj
   have b := And.intro (row_bd h 0 0 (by decide)) (And.intro (row_bd h 0 1 (by decide)) (row_bd h 0 2 (by decide)))
   rcases (by omega : j = 0 ∨ j = 1 ∨ j = 2 ∨ j = 3) with rfl | rfl | rfl | rfl <;> exact b
theorem xW_eq {x y : ShS} (h : shopC x = shopC y) : x.W = y.W := by
 rw [shopC_inj h]; rfl
end U
namespace Go.Proofs.YtoekmphdpepdbaaGreat
open Go Go.HL U
attribute [local irreducible] hfun bodyT fragT
theorem loopM1 : ∀ v Q, (LM1 v).wp Q -> hloop CLim anM1 (nthLoop Tryz.f5 0) v Q := by
 intro v Q h
 unfold LM1 at h
 split at h
 case h_2 => exact h.elim
 rename_i z L k rb pa p mu mv ma ml mp mb
 obtain ⟨⟨rfl, hp, x, ⟨hx, rfl⟩, hi, hL, hlen⟩, hq⟩ := h
 have P := shop_pre hx
 refine hloop_rec (σ := QM × LL × Nat × Int) (fun s => ([.ce (.bool z), .ce (.ptr 1000013 0), .ce (.ptr 1000031 0), .ce (.ptr 1000015 0), .ce (.sl false [4, 4, 4] s.2.1), .ce (.lit true), .ce (I6 (s.2.2.1 : Int))], [shopC x, [.sl false [4] pa, I6 s.2.2.2], [I6 s.1.u, I6 s.1.v, I6 s.1.a, I6 s.1.l, I6 s.1.p, I6 s.1.b]]))
  (fun s => 60 - s.2.2.1) (fun s => s.2.2.1 <= 60 /\ inSrc pa s.2.2.2 /\ s.2.1.length = s.2.2.1 + 4 /\ x.inv s.1 x.r.ln /\ x.okL s.2.1 s.1) ?_ (⟨mu, mv, ma, ml, mp, mb⟩, L, 0, p) ⟨Nat.zero_le 60, hp, hlen, hi, hL⟩
 rintro ⟨m, l1, k1, p1⟩ ⟨hk1, hp1, hlen1, hi1, hL1⟩ K hn hxx _
 dsimp only at hk1 hp1 hlen1 hi1 hL1
 refine byVB (vbM1 x p1 m.u m.v m.a m.l m.p m.b k1 z l1 pa K) ⟨fun g => ?_, fun g => ?_⟩
 . have g := odt g
   have go : ∀ (m2 : QM) (ho : Bool) (fo ro : Int) (p2 : Int) (y : Int × Int × Int) (k : Int), m2 = x.nx ho fo ro m x.r.ln -> inSrc pa p2 -> (∀ x' : ShS, shopC x = shopC x' -> y = (x'.r.M0 (clamp x'.r.ln (m2.u / 256)), x'.r.M1 (clamp x'.r.ln (m2.u / 256)), x'.r.M2 (clamp x'.r.ln (m2.u / 256)))) -> k = k1 + 1 ->
    K .normal ([.ce (.bool z), .ce (.ptr 1000013 0), .ce (.ptr 1000031 0), .ce (.ptr 1000015 0), .ce (.sl false [4, 4, 4] (l1 ++ [[y.1, y.2.1, y.2.2]])), .ce (.lit true), .ce (I6 k)], [shopC x, [.sl false [4] pa, I6 p2], [I6 m2.u, I6 m2.v, I6 m2.a, I6 m2.l, I6 m2.p, I6 m2.b]]) := fun m2 ho fo ro p2 y k hm2 hp2 hy hk => by
    have hI : x.inv m2 x.r.ln := by rw [hm2]; exact xinv_next hx (Int.le_refl _) hi1
    obtain ⟨v, hv⟩ := xmv x ho fo ro m x.r.ln
    have hm3 : m2 = qmove m v := by rw [hm2]; exact hv
    have er : [y.1, y.2.1, y.2.2] = x.row m2.u := by rw [hy x rfl]; rfl
    rw [er, hk, show (k1 : Int) + 1 = ((k1 + 1 : Nat) : Int) by omega]
    exact hn (m2, l1 ++ [x.row m2.u], k1 + 1, p2) ⟨by show k1 + 1 <= 60; omega, hp2, by show (l1 ++ [x.row m2.u]).length = k1 + 1 + 4; simp [hlen1], hI, xlimits hx hL1 hI (by rw [hm3]; rfl) (by rw [hm3]; rfl) (by rw [hm3]; rfl)⟩ (by show 60 - (k1 + 1) < 60 - k1; omega)
   have hU : ∀ (m2 : QM) (ho : Bool) (fo ro : Int), m2 = x.nx ho fo ro m x.r.ln -> okU m2.u := fun m2 ho fo ro hm2 => by
    have hI : x.inv m2 x.r.ln := by rw [hm2]; exact xinv_next hx (Int.le_refl _) hi1
    exact (xinv_V hx (Int.le_refl _) hI).1
   refine ⟨⟨by decide, by decide, hp1⟩, drew_ex _ _ (by decide), fun a1 ha => ⟨fun _ => ⟨drew_src hp1 ha, ⟨(0, 0, false, false, false, a1.2), drew_src hp1 ha⟩, fun pn hpn => ⟨⟨x, ⟨hx, rfl⟩, ⟨P.2.2.1, Int.le_refl _⟩, x.r.ln, Int.le_refl _, hi1⟩, ⟨_, fun y hy => nx_eq hy _ _ _ _ _⟩, fun m2 hm2 => ⟨⟨⟨x, hx, rfl⟩, hU m2 _ _ _ (hm2 x rfl)⟩, ⟨_, fun y hy => mo_eq hy _⟩, fun y hy => ⟨⟨by omega, by unfold maxLen; omega⟩, by omega, fun k hk => go m2 _ _ _ _ y k (hm2 x rfl) hpn hy hk⟩⟩⟩⟩,
    fun _ => ⟨⟨x, ⟨hx, rfl⟩, ⟨P.2.2.1, Int.le_refl _⟩, x.r.ln, Int.le_refl _, hi1⟩, ⟨_, fun y hy => nx_eq hy _ _ _ _ _⟩, fun m2 hm2 => ⟨⟨⟨x, hx, rfl⟩, hU m2 _ _ _ (hm2 x rfl)⟩, ⟨_, fun y hy => mo_eq hy _⟩, fun y hy => ⟨⟨by omega, by unfold maxLen; omega⟩, by omega, fun k hk => go m2 _ _ _ _ y k (hm2 x rfl) (drew_src hp1 ha) hy hk⟩⟩⟩⟩⟩
 . have g := odf g
   exact hxx _ _ (hq (l1, p1, m) ⟨x, ⟨hx, rfl⟩, hL1.2.1, hL1.2.2.1, by show l1.length = 64; omega⟩)
theorem sLLim : Sound Tryz.prog 5 SLLim := by
 refine sound_of (C := CLim) tabLim Tryz.func5 (by kernel_rfl) (by decide +kernel) (by kernel_rfl) rfl ⟨sAw36, sMade, sFrom, sQStart, sNext, sPan, sNxS, sMoS, sAll, trivial⟩ (loops1 (by kernel_rfl) (loopOK_of (an := anM1) (S := LM1) (by kernel_rfl) loopM1)) ?_
 intro hA pA R h
 unfold SLLim at h
 split at h
 case h_2 => exfalso; exact h
 rename_i l ax pl pa ds fa
 obtain ⟨⟨hl, hax, hpl, hpa⟩, hR⟩ := h
 refine byVC (vcLim l ax pl pa ds fa R) ⟨trivial, ⟨_, rfl⟩, fun a ea => ⟨fun g => by rw [ea] at g; simp at g, fun _ => ⟨fun _ => hR, fun g => ⟨⟨hl, hax, hpl⟩, okShop_ex, fun x hx => ⟨trivial, fun x3 e3 x4 e4 => ⟨by decide, ⟨_, rfl⟩, fun q eq => ?_⟩⟩⟩⟩⟩⟩
 have g := odf g
 have P := shop_pre hx
 subst eq
 have hu : (∃ x_2, okShop x_2 /\ shopC x = shopC x_2) /\ okU (qstart 0).u := ⟨⟨x, hx, rfl⟩, by show okU (0 * 256); unfold okU; decide⟩
 refine ⟨hu, ⟨_, fun y hy => mo_eq hy _⟩, fun y1 h1 => ⟨hu, ⟨_, fun y hy => mo_eq hy _⟩, fun y2 h2 => ⟨hu, ⟨_, fun y hy => mo_eq hy _⟩, fun y3 h3 => ⟨hu, ⟨_, fun y hy => mo_eq hy _⟩, fun y4 h4 => ⟨⟨rfl, by rw [e3, e4]; exact ⟨by omega, by omega⟩, x, ⟨hx, rfl⟩, xinv_start hx (by decide) P.2.2.1, ?_, rfl⟩, fun r hr => ?_⟩⟩⟩⟩⟩
 . rw [h1 x rfl, h2 x rfl, h3 x rfl, h4 x rfl]
   exact xlim0 hx
 . obtain ⟨x2, ⟨hx2, ex2⟩, hW, hS, h64⟩ := hr
   refine ⟨⟨by omega, hS, P.1.2.2⟩, fun b hb => ?_⟩
   rw [<- xW_eq ex2] at hW
   have hW : wth3 x.r.a.sp x.r.a.ac x.r.a.je x.r.b.sp x.r.b.ac x.r.b.je x.r.c.sp x.r.c.ac x.r.c.je r.1 = true := hW
   rw [hb, hW]; exact hR
end Go.Proofs.YtoekmphdpepdbaaGreat
