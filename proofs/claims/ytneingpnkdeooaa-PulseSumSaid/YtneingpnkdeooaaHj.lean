/-
  HL, part j: slices: appends, parts, lengths; least and greatest numbers.
  Conditions: none.
-/
import Derived.Test.YtneingpnkdeooaaHi
namespace Go.HL
open Go

section
variable {P : Program} {n : Nat} {G G' : Ghost} {st : HSt} {a : Act} {w w' : World} {o : Oper} {Q : Exit → Act → World → Prop} {K : HSt → Prop}

theorem move_key (h : Rel n G st a w) (hn : n ≤ 100000) {d s : Nat} (hd : d < n) {own : Bool} {ks : List Nat} {rows : List (List Int)} {v : Value} {bx : Nat → Option (List HC)} {log : Nat → List (Nat × Bool)}
    (hp : Pres G w G' w' (fun x => x ≠ .tmp s)) (hm : Mem G' bx w') (h1 : SRel G' w' (bif own then some (.tmp d) else none) ks rows v) :
    Rel n G' { env := setsTo st.env [(d, .ce (.sl false ks rows)), (FL d, .ce (.lit own)), (FL s, .ce (.lit false))], box := bx, log := log } (a.put (some d) v) w' := by
  have hd5 : d < 100000 := Nat.lt_of_lt_of_le hd hn
  refine ⟨by rw [put_defers]; exact h.defers, by rw [put_size]; exact h.size, fun x hx => ?_, hm⟩
  obtain ⟨e1, e2⟩ := env_take (env := st.env) (s := s) (v := .ce (.sl false ks rows)) (f := .ce (.lit own)) hd5 x hx
  show VRel G' w' (flagL (setsTo st.env _) x) (setsTo st.env _ x) _
  by_cases hxd : x = d
  · subst hxd
    rw [e1, e2, tmps_put_same (by rw [h.size]; exact hd)]
    by_cases hxs : x = s
    · rw [if_pos hxs, if_pos rfl]; exact SRel.drop h1
    · rw [if_neg hxs, if_pos rfl, if_pos rfl]; exact h1
  · refine h.env_of hp x hx (by rw [e1, if_neg hxd]) (tmps_put_ne hxd) ?_
    rw [e2]
    by_cases hxs : x = s
    · exact .inl (by rw [if_pos hxs])
    · exact .inr ⟨by rw [if_neg hxs, if_neg hxd], by simp; exact hxs⟩

theorem Pres.same_heap {ok : Loc → Prop} (he : w'.heap = w.heap) : Pres G w G w' ok :=
  ⟨fun b o hi => ⟨hi, cell_of_heap (by rw [he]) o⟩, fun _ _ h => h, fun b L _ h => ⟨h, by rw [he], fun _ h => h⟩⟩

theorem Mem.same_heap {bx : Nat → Option (List HC)} (h : Mem G bx w) (he : w'.heap = w.heap) : Mem G bx w' :=
  ⟨fun r cells hr => (h.box r cells hr).pres (Pres.same_heap (ok := fun _ => True) he) trivial (fun _ => trivial), h.beta, fun b L hb => by rw [he]; exact h.own b L hb, fun b o hi => by rw [he]; exact h.imm b o hi⟩

theorem flat_getD_append (ks : List Nat) (rows more : List (List Int)) (i j : Nat) (hi : i < (rows ++ more).length) (hj : j < ks.length) :
    (flatRows ks rows ++ flatRows ks more)[i * ks.length + j]? = some (kval (ks.getD j 0) (((rows ++ more).getD i []).getD j 0)) := by
  rw [← flatRows_append]
  exact flatRows_get ks _ i j hi hj

/-- what an appended slice gives as cells -/
theorem source_cells {L : Option Loc} {ks : List Nat} {rows : List (List Int)} {v : Value} (h : SRel G w L ks rows v) :
    (∃ x c, v = .slice x rows.length c) ∧ ∀ w' : World, (∀ b : Nat, w'.heap[b]? = w.heap[b]?) → (Builtin.firstCells ks.length rows.length v).run P w' = .ok (flatRows ks rows).toArray w' := by
  obtain ⟨ad, cap, rfl, hc, hm, hr⟩ := h
  refine ⟨⟨ad, cap, rfl⟩, fun w' hw => ?_⟩
  rcases hr with ⟨_, hl, _⟩ | ⟨b, off, rfl, hi, _⟩
  · have : rows = [] := List.eq_nil_of_length_eq_zero hl
    subst this
    cases ad with
    | none => simp [flatRows, run_firstCells_none]
    | some x => exact run_firstCells_some w' ks.length 0 x 0 cap [] (by simp) (fun j v hj => by simp at hj)
  · refine run_firstCells_some w' ks.length rows.length _ _ _ (flatRows ks rows) (flatRows_length ks rows) (fun j v hj => ?_)
    have := flatRows_cells hi j v hj
    rw [at_add] at this ⊢
    rw [cell_of_heap (hw b)]
    exact this

theorem appendSem_sound (h : Rel n G st a w) (s : Sides n o) {x y : Operand} {t u : TypeId} (ho : o.op = .call { callee := .builtin .append, args := #[x, y], argTypes := #[t, u] })
    (hk : (appendSem P t u (evalO P st.env o.type x) (evalO P st.env o.type y) st.env (tmpOf x) o.dst).wp st K) : o.wp P a w (Post n G w K) Q := by
  obtain ⟨L1, h1⟩ := s.ev (P := P) h o.type (x := x) (by rw [ho]; simp [Op.operands, Call.operands])
  obtain ⟨L2, h2⟩ := s.ev (P := P) h o.type (x := y) (by rw [ho]; simp [Op.operands, Call.operands])
  generalize e1 : evalO P st.env o.type x = X at hk
  generalize e2 : evalO P st.env o.type y = Y at hk
  rw [e1] at h1
  rw [e2] at h2
  unfold appendSem at hk
  split at hk
  case h_2 => exact hk.elim
  case h_1 ow1 ks rows ow2 ls more =>
    split at hk
    case h_2 => exact hk.elim
    rename_i e sl d hu hsrc hd
    split at hk
    case h_2 => exact hk.elim
    rename_i es i hes how hi
    cases hb : (ksEq es ks && ksEq es ls && Nat.beq t u) with
    | false => rw [hb] at hk; exact hk.elim
    | true =>
      rw [hb] at hk
      simp only [cond_true] at hk
      rw [Bool.and_eq_true, Bool.and_eq_true] at hb
      obtain rfl := ksEq_eq hb.1.1
      obtain rfl := ksEq_eq hb.1.2
      obtain rfl := Nat.eq_of_beq_eq_true hb.2
      obtain ⟨⟨hbytes, hmax⟩, hk⟩ := hk
      -- the source of the destination is slot sl, which owns
      cases x <;> simp [tmpOf] at hsrc
      rename_i sl'
      subst hsrc
      have hs5 := s.tmp sl' (by rw [ho]; simp [Op.operands, Call.operands])
      have hfl : flagL st.env sl' = some (.tmp sl') := by unfold flagL; rw [how]; rfl
      have h1' := h.env sl' hs5
      rw [show st.env sl' = .ce (.sl ow1 es rows) from e1, hfl] at h1'
      have h1'' : SRel G w (some (.tmp sl')) es rows (a.tmps.getD sl' undef) := h1'
      clear h1 h1'
      obtain ⟨i', z, hi', hz, hsz, hk1, hzs⟩ := elemKs_spec hes
      rw [hi] at hi'
      cases hi'
      obtain ⟨⟨ya, yc, hy⟩, hsrcs⟩ := source_cells (P := P) (show SRel G w L2 es more (a.eval y) from h2)
      have hx : a.eval (.tmp sl') = a.tmps.getD sl' undef := rfl
      have hdn := s.dst d hd
      have hex : ∀ r w1, (Builtin.append_ #[t, t] o.type #[a.tmps.getD sl' undef, a.eval y]).run P w = .ok r w1 → (execOp a.eval o).run P w = .ok (.value r) w1 := by
        intro r w1 hr
        unfold execOp
        simp only [ho, resolve, invoke, builtin, Sem.run_bind, Sem.run_pure, Result.andThen_ok, List.map_toArray, List.map_cons, List.map_nil, hx, hr]
      obtain ⟨ad, cap, hv, hc, hcm, hr⟩ := h1''
      by_cases hroom : rows.length + more.length ≤ cap
      · -- there is room
        rcases hr with ⟨ha0, hl, hc0⟩ | ⟨b, off, rfl, himm, hsp⟩
        · obtain rfl : ad = none := ha0.resolve_left (fun e => nomatch e)
          have hm0 : more.length = 0 := by omega
          have hmn : more = [] := List.eq_nil_of_length_eq_zero hm0
          have hrn : rows = [] := List.eq_nil_of_length_eq_zero hl
          subst hmn; subst hrn; subst hc0
          have hrun : (Builtin.append_ #[t, t] o.type #[a.tmps.getD sl' undef, a.eval y]).run P w = .ok (.slice none 0 0) w := by
            have hs0 := hsrcs w (fun _ => rfl)
            rw [hy] at hs0 ⊢
            rw [hv]
            simp only [Builtin.append_, run_underlying hu, sizeOf, typeInfo, hi, Builtin.lenOf, Sem.run_bind, Sem.run_pure, Result.andThen_ok, run_program, List.length_nil, hsz, Nat.zero_add] at hs0 ⊢
            simp [run_underlying hu, hs0, hi, hsz]
          refine wp_value (hex _ _ hrun) ⟨_, G, hk, ?_, Evolves.refl _ _⟩
          rw [hd]
          exact move_key h s.le hdn (Pres.refl _ _ _) h.mem ⟨none, 0, rfl, Nat.le_refl _, Nat.zero_le _, .inl ⟨.inr rfl, rfl, rfl⟩⟩
        · obtain ⟨hob, cur, E, hh, hfit, hni⟩ := hsp _ rfl
          let cur' : Array Value := (cur.toList.take (off + rows.length * es.length) ++ flatRows es more ++ cur.toList.drop (off + rows.length * es.length + (flatRows es more).length)).toArray
          have hfit2 : off + rows.length * es.length + (flatRows es more).length ≤ cur.size := by
            rw [flatRows_length]
            have : (rows.length + more.length) * es.length ≤ cap * es.length := Nat.mul_le_mul_right _ hroom
            rw [Nat.add_mul] at this
            omega
          have hrun : (Builtin.append_ #[t, t] o.type #[a.tmps.getD sl' undef, a.eval y]).run P w = .ok (.slice (some (at_ b off)) (rows.length + more.length) cap) (w.setRow b cur') := by
            have hs0 := hsrcs w (fun _ => rfl)
            have hst := run_storeCells_at P b (off + rows.length * es.length) E (flatRows es more) 0 cur w hh (by simpa using hfit2) (flatRows_one es more)
            simp only [Nat.add_zero] at hst
            rw [hy] at hs0 ⊢
            rw [hv]
            simp only [Builtin.append_, run_underlying hu, sizeOf, typeInfo, hi, Builtin.lenOf, Sem.run_bind, Sem.run_pure, Result.andThen_ok, run_program, hsz] at hs0 ⊢
            simp [run_underlying hu, hs0, hroom, at_add, hi, hsz]
            simp only [at_]
            rw [hst]
            rfl
          have hsz' : cur'.size = cur.size := by
            simp only [cur', List.size_toArray, List.length_append, List.length_take, List.length_drop, Array.length_toList]
            omega
          have hget : ∀ q, cur'[q]? = if q < off + rows.length * es.length then cur[q]? else if q < off + rows.length * es.length + (flatRows es more).length then (flatRows es more)[q - (off + rows.length * es.length)]? else cur[q]? := by
            intro q
            have htl : (cur.toList.take (off + rows.length * es.length)).length = off + rows.length * es.length := by simp; omega
            simp only [cur', List.getElem?_toArray, List.append_assoc]
            by_cases hq : q < off + rows.length * es.length
            · rw [if_pos hq, List.getElem?_append_left (by rw [htl]; exact hq), List.getElem?_take, if_pos hq]
              simp
            · rw [if_neg hq, List.getElem?_append_right (by rw [htl]; omega), htl]
              by_cases hq2 : q < off + rows.length * es.length + (flatRows es more).length
              · rw [if_pos hq2, List.getElem?_append_left (by omega)]
              · rw [if_neg hq2, List.getElem?_append_right (by omega), List.getElem?_drop]
                simp only [Array.getElem?_toList]
                congr 1
                omega
          let G' : Ghost := { G with imm := fun x q => G.imm x q ∨ (x = b ∧ off + rows.length * es.length ≤ q ∧ q < off + (rows.length + more.length) * es.length), owner := upd G.owner b (some (.tmp d)) }
          have hblt := h.mem.own b _ hob
          have hcell : ∀ x q, G.imm x q → (w.setRow b cur').cell? (at_ x q) = w.cell? (at_ x q) := by
            intro x q hi
            by_cases hxb : x = b
            · subst hxb
              rw [cell_heap _ _ _ (setRow_heap w x cur cur' E _ hh), cell_heap _ _ _ hh, hget]
              by_cases hq : q < off + rows.length * es.length
              · rw [if_pos hq]
              · rw [if_neg hq, if_neg (fun hlt => hni q (by omega) (by
                  rw [flatRows_length] at hlt
                  have : (rows.length + more.length) * es.length ≤ cap * es.length := Nat.mul_le_mul_right _ hroom
                  rw [Nat.add_mul] at this
                  omega) hi)]
            · exact cell_of_heap (setRow_other w b x cur' hxb) q
          have hp : Pres G w G' (w.setRow b cur') (fun x => x ≠ .tmp sl') := by
            refine ⟨fun x q hi => ⟨.inl hi, hcell x q hi⟩, fun _ _ h => h, fun x L hL hx => ?_⟩
            have hne : x ≠ b := fun e => by subst e; rw [hob] at hx; cases hx; exact hL rfl
            exact ⟨(upd_ne _ _ hne).trans hx, setRow_other w b x cur' hne, fun q hi => hi.elim id fun h2 => absurd h2.1 hne⟩
          have hev : Evolves G w G' (w.setRow b cur') := by
            refine ⟨rfl, rfl, rfl, by simp, fun x q hi => ⟨.inl hi, hcell x q hi⟩, fun x _ hx => ?_, fun _ _ _ e => e⟩
            have hne : x ≠ b := fun e => by subst e; rw [hob] at hx; cases hx
            exact ⟨(upd_ne _ _ hne).trans hx, setRow_other w b x cur' hne, fun q hi => hi.elim id fun h2 => absurd h2.1 hne⟩
          have hmem : Mem G' st.box (w.setRow b cur') := by
            refine ⟨fun r cells hr => (h.mem.box r cells hr).pres hp (by simp) (by simp), h.mem.beta, fun x L hx => ?_, fun x q hi => ?_⟩
            · rcases upd_some hx with ⟨rfl, _⟩ | hx
              · simpa using hblt
              · simpa using h.mem.own x L hx
            · rcases hi with hi | ⟨rfl, _⟩
              · simpa using h.mem.imm x q hi
              · simpa using hblt
          refine wp_value (hex _ _ hrun) ⟨_, G', hk, ?_, hev⟩
          rw [hd]
          refine move_key h s.le hdn hp hmem ⟨_, cap, by rw [List.length_append], by rw [List.length_append]; exact hroom, hcm, .inr ⟨b, off, rfl, fun i j hi hj => ?_, fun Lc he => ?_⟩⟩
          · have hlt : i * es.length + j < (rows.length + more.length) * es.length := by
              rw [List.length_append] at hi
              have : (i + 1) * es.length ≤ (rows.length + more.length) * es.length := Nat.mul_le_mul_right _ hi
              rw [Nat.succ_mul] at this
              omega
            by_cases hir : i < rows.length
            · have hold := himm i j hir hj
              have e3 : (rows ++ more).getD i [] = rows.getD i [] := by simp [List.getElem?_append_left hir]
              rw [e3]
              exact hold.pres hp
            · have hpos : off + (i * es.length + j) = off + rows.length * es.length + ((i - rows.length) * es.length + j) := by
                have : i * es.length = rows.length * es.length + (i - rows.length) * es.length := by rw [← Nat.add_mul]; congr 1; omega
                omega
              have hir2 : i - rows.length < more.length := by rw [List.length_append] at hi; omega
              have hg := flatRows_get es more (i - rows.length) j hir2 hj
              have hlt2 : (i - rows.length) * es.length + j < (flatRows es more).length := (List.getElem?_eq_some_iff.1 hg).1
              refine ⟨.inr ⟨rfl, by omega, by omega⟩, ?_⟩
              rw [cell_heap _ _ _ (setRow_heap w b cur cur' E _ hh), hget, hpos, if_neg (by omega), if_pos (by omega)]
              rw [show off + rows.length * es.length + ((i - rows.length) * es.length + j) - (off + rows.length * es.length) = (i - rows.length) * es.length + j by omega, hg]
              congr 2
              simp [List.getElem?_append_right (Nat.le_of_not_lt hir)]
          · cases he
            refine ⟨upd_same _ _ _, cur', E, setRow_heap w b cur cur' E _ hh, by rw [hsz']; exact hfit, fun q hq hq2 hi => ?_⟩
            rw [List.length_append] at hq
            rcases hi with hi | ⟨_, _, hlt⟩
            · refine hni q ?_ hq2 hi
              rw [Nat.add_mul] at hq
              omega
            · omega
      · -- a new array
        have hgrow : cap < rows.length + more.length := by omega
        have hsl : ∀ w' : World, (∀ b : Nat, w'.heap[b]? = w.heap[b]?) → (Builtin.firstCells es.length rows.length (.slice ad rows.length cap)).run P w' = .ok (flatRows es rows).toArray w' :=
          (source_cells (P := P) (show SRel G w (some (.tmp sl')) es rows (.slice ad rows.length cap) from ⟨ad, cap, rfl, hc, hcm, hr⟩)).2
        have hncap := growslice_fits hgrow hbytes
        have hgc := grownCap_ge w (rows.length + more.length) cap e
        have hgm := grownCap_le_maxLen w (rows.length + more.length) cap e hmax
        let NC := grownCap w (rows.length + more.length) cap e
        have hrun : (Builtin.append_ #[t, t] o.type #[a.tmps.getD sl' undef, a.eval y]).run P w =
            .ok (.slice (some (at_ w.heap.size 0)) (rows.length + more.length) NC)
              (w.drew.alloc (.cells (flatRows es rows ++ flatRows es more ++ (Builtin.zeroCells z.cells (NC - (rows.length + more.length))).toList).toArray e)) := by
          have hs0 := hsrcs w.drew (fun _ => rfl)
          have hs1 := hsl w.drew (fun _ => rfl)
          rw [hy] at hs0 ⊢
          rw [hv]
          have h48' : ¬ (281474976710656 < Builtin.nextslicecap (rows.length + more.length) cap * i.bytes) := by omega
          have hin : P.underlying t = some (.slice e) := hu
          simp only [Builtin.append_, run_underlying hu, sizeOf, typeInfo, hi, Builtin.lenOf, Sem.run_bind, Sem.run_pure, Result.andThen_ok, run_program, hsz] at hs0 hs1 ⊢
          have hn : ¬ (rows.length + more.length ≤ cap) := by omega
          have hmx : ¬ ((9223372036854775807 : Int) < (rows.length : Int) + (more.length : Int)) := by
            simp only [maxLen] at hmax
            omega
          simp [run_underlying hu, hn, h48', hmx, hi, hsz, hz, Question.forced, hs0, hs1, zeroValue, typeInfo, newRow, at_, NC, grownCap]
          congr 2
          apply Array.ext'
          simp
        have hzl : (Builtin.zeroCells z.cells (NC - (rows.length + more.length))).toList.length = (NC - (rows.length + more.length)) * es.length := by
          rw [Array.length_toList, size_zeroCells, hzs]
        obtain ⟨G', hp, hev, hmem, hs⟩ := fixed_pre (G := G) (w := w.drew) (bx := st.box) (h.mem.same_heap rfl) d (ks := es) (rows := rows ++ more)
          (cur := flatRows es rows ++ flatRows es more ++ (Builtin.zeroCells z.cells (NC - (rows.length + more.length))).toList) (E := e) (cap := NC)
          (fun i j hi hj => by
            have hg := flat_getD_append es rows more i j hi hj
            rw [List.getElem?_append_left (List.getElem?_eq_some_iff.1 hg).1]
            exact hg)
          (by
            rw [List.length_append, List.length_append, flatRows_length, flatRows_length, hzl, ← Nat.add_mul, ← Nat.add_mul]
            exact Nat.mul_le_mul_right _ (by omega))
          (by rw [List.length_append]; exact hgc) hgm
        refine wp_value (hex _ _ hrun) ⟨_, G', hk, ?_, ?_⟩
        · rw [hd]
          have hs' := hs (some (.tmp d)) (fun Lc e => by cases e; rfl)
          rw [List.length_append] at hs'
          exact move_key h s.le hdn (own := true) (Pres.mk hp.imm hp.beta (fun b L _ hb => hp.own b L trivial hb)) hmem hs'
        · exact ⟨hev.os, hev.tape, hev.output, hev.size, hev.imm, hev.foreign, hev.beta⟩
end

end Go.HL
