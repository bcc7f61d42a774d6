/-
  HL, part c: how abstract values stand to the model's values and worlds.
  Conditions: none.
-/
import Derived.Test.YtneingpnkdeooaaHb
namespace Go.HL
open Go

inductive Loc where
  | tmp (d : Nat)
  | cell (r o : Nat)
  | box (r : Nat)
  | res

structure Ghost where
  imm : Nat → Nat → Prop
  beta : Nat → Option Nat
  owner : Nat → Option Loc

def at_ (b o : Nat) : Addr := ⟨b, o, none⟩

theorem at_add (b o n : Nat) : (at_ b o).add n = at_ b (o + n) := by
  unfold Addr.add at_; split <;> simp_all

def ImmC (G : Ghost) (w : World) (b o : Nat) (v : Value) : Prop := G.imm b o ∧ w.cell? (at_ b o) = some v

def Spare (G : Ghost) (w : World) (L : Loc) (b off n cap sz : Nat) : Prop :=
  G.owner b = some L ∧ ∃ cur E, w.heap[b]? = some (.cells cur E (0, 0)) ∧ off + cap * sz ≤ cur.size ∧ ∀ x, off + n * sz ≤ x → x < off + cap * sz → ¬ G.imm b x

def SRel (G : Ghost) (w : World) (L : Option Loc) (ks : List Nat) (rows : List (List Int)) (v : Value) : Prop :=
  ∃ a cap, v = .slice a rows.length cap ∧ rows.length ≤ cap ∧ cap ≤ maxLen ∧
    (((L = none ∨ a = none) ∧ rows.length = 0 ∧ cap = 0) ∨
     ∃ b off, a = some (at_ b off) ∧
       (∀ i j, i < rows.length → j < ks.length → ImmC G w b (off + (i * ks.length + j)) (kval (ks.getD j 0) ((rows.getD i []).getD j 0))) ∧
       ∀ Lc, L = some Lc → Spare G w Lc b off rows.length cap ks.length)

/-- a slice that its place owns and whose cells are not fixed -/
def MRel (G : Ghost) (w : World) (L : Loc) (ks : List Nat) (rows : List (List Int)) (v : Value) : Prop :=
  ∃ a cap, v = .slice a rows.length cap ∧ rows.length ≤ cap ∧ cap ≤ maxLen ∧
    ((a = none ∧ rows.length = 0 ∧ cap = 0) ∨
     ∃ b, a = some (at_ b 0) ∧ G.owner b = some L ∧ (∀ x, ¬ G.imm b x) ∧ 0 < rows.length ∧
       ∃ cur E, w.heap[b]? = some (.cells cur E (0, 0)) ∧ cap * ks.length ≤ cur.size ∧
         ∀ i j, i < rows.length → j < ks.length → cur[i * ks.length + j]? = some (kval (ks.getD j 0) ((rows.getD i []).getD j 0)))

/-- a slice of slices whose elements are fixed -/
def NRel (G : Ghost) (w : World) (ks : List Nat) (ll : List (List (List Int))) (v : Value) : Prop :=
  ∃ b off cap, v = .slice (some (at_ b off)) ll.length cap ∧ ∀ i, i < ll.length → ∃ u, ImmC G w b (off + i) u ∧ SRel G w none ks (ll.getD i []) u

def CRel (G : Ghost) (w : World) (L : Option Loc) : HC → Value → Prop
  | .int k n, v => v = .int k n
  | .num k n, v => v = .int k n
  | .bool b, v => v = .bool b
  | .lit b, v => v = .bool b
  | .sl _ ks rows, v => SRel G w L ks rows v
  | .mu _ _, _ => False
  | .el ks row off, v => ∃ b o, v = .pointer (some (at_ b o)) ∧ ∀ j, off + j < ks.length → ImmC G w b (o + j) (kval (ks.getD (off + j) 0) (row.getD (off + j) 0))
  | .ptr r o, v => ∃ b, G.beta r = some b ∧ v = .pointer (some (at_ b o))
  | .nilp, v => v = .pointer none
  | .nsl _, v => v = .slice none 0 0
  | .arr _ _ _, _ => False
  | .fro _ _, _ => False
  | .msl r n cap, v => ∃ b, G.beta r = some b ∧ v = .slice (some (at_ b 0)) n cap ∧ n ≤ cap ∧ cap ≤ maxLen
  | .mp r sz i o, v => ∃ b, G.beta r = some b ∧ v = .pointer (some (at_ b (i * sz + o)))
  | .nsls ks ll, v => NRel G w ks ll v
  | .el2 ks rows, v => ∃ b o u, v = .pointer (some (at_ b o)) ∧ ImmC G w b o u ∧ SRel G w none ks rows u
  | .mapv r, v => ∃ b, G.beta r = some b ∧ v = .map (some b)
  | .mpb _, _ => False
  | .str s, v => v = .string s
  | .esl _, v => ∃ a, v = .slice a 0 0
  | .junk, v => v.oneCell' = true

/-- cell o of box r -/
def BRel (G : Ghost) (w : World) (r o : Nat) : HC → Value → Prop
  | .mu ks rows, v => MRel G w (.cell r o) ks rows v
  | .sl own ks rows, v => SRel G w (bif own then some (.cell r o) else none) ks rows v
  | c, v => CRel G w none c v

def BoxAt0 (G : Ghost) (w : World) (r : Nat) (cells : List HC) : Prop :=
  ∃ (b : Nat) (vs : Array Value) (T : TypeId), G.beta r = some b ∧ G.owner b = some (.box r) ∧ w.heap[b]? = some (.cells vs T (0, 0)) ∧ (∀ o, ¬ G.imm b o) ∧
    vs.size = cells.length ∧ ∀ (j : Nat) (c : HC), cells[j]? = some c → ∃ v, vs[j]? = some v ∧ BRel G w r j c v

/-- the box of a made slice -/
def ArrAt (G : Ghost) (w : World) (r : Nat) (ks : List Nat) (rows : List (List Int)) (cap : Nat) : Prop :=
  ∃ (b : Nat) (vs : Array Value) (T : TypeId), G.beta r = some b ∧ G.owner b = some (.box r) ∧ w.heap[b]? = some (.cells vs T (0, 0)) ∧ (∀ o, ¬ G.imm b o) ∧
    (rows.length ≤ cap ∧ cap * ks.length ≤ vs.size) ∧ ∀ i j, i < rows.length → j < ks.length → vs[i * ks.length + j]? = some (kval (ks.getD j 0) ((rows.getD i []).getD j 0))

/-- the box of a made slice whose cells are fixed -/
def FroAt (G : Ghost) (w : World) (r : Nat) (ks : List Nat) (rows : List (List Int)) : Prop :=
  ∃ b, G.beta r = some b ∧ ∀ i j, i < rows.length → j < ks.length → ImmC G w b (i * ks.length + j) (kval (ks.getD j 0) ((rows.getD i []).getD j 0))

/-- the value of a key in the entries of a map -/
def keyI (e : MapEntry) : Option Int := match e.key with
  | .int .i64 j => some j
  | _ => none

def mget : List MapEntry → Int → Option Value
  | [], _ => none
  | e :: l, k => if keyI e = some k then some e.val else mget l k

/-- the entries of a map of ints -/
def MapOK (es : List MapEntry) (f : Int → Option Int) : Prop :=
  (∀ e ∈ es, ∃ k n, e.key = .int .i64 k ∧ e.val = .int .i64 n) ∧ ∀ k, mget es k = (f k).map (Value.int .i64)

/-- the box of a map -/
def MapAt (G : Ghost) (w : World) (r : Nat) (f : Int → Option Int) : Prop :=
  ∃ (b : Nat) (es : Array MapEntry) (clk : Nat), G.beta r = some b ∧ G.owner b = some (.box r) ∧ w.heap[b]? = some (.map es clk) ∧ (∀ o, ¬ G.imm b o) ∧ MapOK es.toList f

def BoxAt (G : Ghost) (w : World) (r : Nat) (cells : List HC) : Prop :=
  BoxAt0 G w r cells ∨ (∃ ks rows cap, cells = [.arr ks rows cap] ∧ ArrAt G w r ks rows cap) ∨ (cells = [] ∧ ∃ b, G.beta r = some b) ∨ (∃ f, cells = [.mpb f] ∧ MapAt G w r f) ∨ ∃ ks rows, cells = [.fro ks rows] ∧ FroAt G w r ks rows

def ARel (G : Ghost) (w : World) (cs : List HC) (v : Value) : Prop :=
  ∃ vs : Array Value, v = .agg vs ∧ vs.size = cs.length ∧ ∀ (j : Nat) (c : HC), cs[j]? = some c → ∃ u, vs[j]? = some u ∧ CRel G w none c u

def H0Rel (G : Ghost) (w : World) : H0 → Value → Prop
  | .ce c, v => CRel G w none c v
  | .agg cs, v => ARel G w cs v

def VRel (G : Ghost) (w : World) (L : Option Loc) : HV → Value → Prop
  | .ce c, v => CRel G w L c v
  | .agg cs, v => ARel G w cs v
  | .tup hs, v => ∃ vs : Array Value, v = .tuple vs ∧ vs.size = hs.length ∧ ∀ (j : Nat) (h : H0), hs[j]? = some h → ∃ u, vs[j]? = some u ∧ H0Rel G w h u
  | .junk, _ => True

def flagL (env : Nat → HV) (d : Nat) : Option Loc := bif isOwn (env (FL d)) then some (.tmp d) else none

/-- the boxes and what a ghost must keep -/
structure Mem (G : Ghost) (bx : Nat → Option (List HC)) (w : World) : Prop where
  box : ∀ r cells, bx r = some cells → BoxAt G w r cells
  beta : ∀ r b, G.beta r = some b → ∃ cells, bx r = some cells
  own : ∀ b L, G.owner b = some L → b < w.heap.size
  imm : ∀ b o, G.imm b o → b < w.heap.size

structure Rel (n : Nat) (G : Ghost) (st : HSt) (a : Act) (w : World) : Prop where
  defers : a.defers = []
  size : a.tmps.size = n
  env : ∀ d, d < 100000 → VRel G w (flagL st.env d) (st.env d) (a.tmps.getD d undef)
  mem : Mem G st.box w

structure Evolves (G : Ghost) (w : World) (G' : Ghost) (w' : World) : Prop where
  os : w'.os = w.os
  tape : w'.tape = w.tape
  output : w'.output = w.output
  size : w.heap.size ≤ w'.heap.size
  imm : ∀ b o, G.imm b o → G'.imm b o ∧ w'.cell? (at_ b o) = w.cell? (at_ b o)
  foreign : ∀ b, b < w.heap.size → G.owner b = none → G'.owner b = none ∧ w'.heap[b]? = w.heap[b]? ∧ ∀ o, G'.imm b o → G.imm b o
  beta : ∀ r b, r < 500 → G'.beta r = some b → G.beta r = some b

theorem Evolves.refl (G : Ghost) (w : World) : Evolves G w G w :=
  ⟨rfl, rfl, rfl, Nat.le_refl _, fun _ _ h => ⟨h, rfl⟩, fun _ _ h => ⟨h, rfl, fun _ h => h⟩, fun _ _ _ h => h⟩

theorem Evolves.trans {G G' G'' : Ghost} {w w' w'' : World} (h : Evolves G w G' w') (k : Evolves G' w' G'' w'') : Evolves G w G'' w'' :=
  ⟨k.os.trans h.os, k.tape.trans h.tape, k.output.trans h.output, Nat.le_trans h.size k.size,
   fun b o hi => ⟨(k.imm b o (h.imm b o hi).1).1, (k.imm b o (h.imm b o hi).1).2.trans (h.imm b o hi).2⟩,
   fun b hb ho =>
     let ⟨h1, h2, h3⟩ := h.foreign b hb ho
     let ⟨k1, k2, k3⟩ := k.foreign b (Nat.lt_of_lt_of_le hb h.size) h1
     ⟨k1, k2.trans h2, fun o hi => h3 o (k3 o hi)⟩,
   fun r b hr hb => h.beta r b hr (k.beta r b hr hb)⟩

/-- what is kept for the places L with `ok L` -/
structure Pres (G : Ghost) (w : World) (G' : Ghost) (w' : World) (ok : Loc → Prop) : Prop where
  imm : ∀ b o, G.imm b o → G'.imm b o ∧ w'.cell? (at_ b o) = w.cell? (at_ b o)
  beta : ∀ r b, G.beta r = some b → G'.beta r = some b
  own : ∀ b L, ok L → G.owner b = some L → G'.owner b = some L ∧ w'.heap[b]? = w.heap[b]? ∧ ∀ o, G'.imm b o → G.imm b o

theorem Pres.refl (G : Ghost) (w : World) (ok : Loc → Prop) : Pres G w G w ok :=
  ⟨fun _ _ h => ⟨h, rfl⟩, fun _ _ h => h, fun _ _ _ h => ⟨h, rfl, fun _ h => h⟩⟩

section
variable {G G' : Ghost} {w w' : World} {ok : Loc → Prop}

theorem ImmC.pres (hp : Pres G w G' w' ok) {b o : Nat} {v : Value} (h : ImmC G w b o v) : ImmC G' w' b o v :=
  ⟨(hp.imm b o h.1).1, (hp.imm b o h.1).2.trans h.2⟩

theorem Spare.pres (hp : Pres G w G' w' ok) {L : Loc} (hL : ok L) {b off n cap sz : Nat} (h : Spare G w L b off n cap sz) : Spare G' w' L b off n cap sz := by
  obtain ⟨h1, cur, E, h2, h3, h4⟩ := h
  obtain ⟨p1, p2, p3⟩ := hp.own b L hL h1
  exact ⟨p1, cur, E, p2.trans h2, h3, fun x hx hx2 hi => h4 x hx hx2 (p3 x hi)⟩

theorem SRel.pres (hp : Pres G w G' w' ok) {L : Option Loc} (hL : ∀ Lc, L = some Lc → ok Lc) {ks : List Nat} {rows : List (List Int)} {v : Value}
    (h : SRel G w L ks rows v) : SRel G' w' L ks rows v := by
  obtain ⟨a, cap, hv, hc, hm, h⟩ := h
  refine ⟨a, cap, hv, hc, hm, ?_⟩
  rcases h with h | ⟨b, off, ha, hi, hs⟩
  · exact .inl h
  · exact .inr ⟨b, off, ha, fun i j h1 h2 => (hi i j h1 h2).pres hp, fun Lc he => (hs Lc he).pres hp (hL Lc he)⟩

theorem nilCase {L L' : Option Loc} {a : Option Addr} {x y : Prop} (h : (L = none ∨ a = none) ∧ x ∧ y) (hL : L ≠ none) : (L' = none ∨ a = none) ∧ x ∧ y := ⟨.inr (h.1.resolve_left hL), h.2⟩

theorem SRel.drop {L : Option Loc} {ks : List Nat} {rows : List (List Int)} {v : Value} (h : SRel G w L ks rows v) : SRel G w none ks rows v := by
  obtain ⟨a, cap, hv, hc, hm, h⟩ := h
  refine ⟨a, cap, hv, hc, hm, ?_⟩
  rcases h with h | ⟨b, off, ha, hi, _⟩
  · exact .inl ⟨.inl rfl, h.2⟩
  · exact .inr ⟨b, off, ha, hi, fun _ he => nomatch he⟩

theorem MRel.pres (hp : Pres G w G' w' ok) {L : Loc} (hL : ok L) {ks : List Nat} {rows : List (List Int)} {v : Value}
    (h : MRel G w L ks rows v) : MRel G' w' L ks rows v := by
  obtain ⟨a, cap, hv, hc, hm, h⟩ := h
  refine ⟨a, cap, hv, hc, hm, ?_⟩
  rcases h with h | ⟨b, ha, ho, hi, hpos, cur, E, h2, h3, h4⟩
  · exact .inl h
  · obtain ⟨p1, p2, p3⟩ := hp.own b L hL ho
    exact .inr ⟨b, ha, p1, fun x hh => hi x (p3 x hh), hpos, cur, E, p2.trans h2, h3, h4⟩

theorem NRel.pres (hp : Pres G w G' w' ok) {ks : List Nat} {ll : List (List (List Int))} {v : Value} (h : NRel G w ks ll v) : NRel G' w' ks ll v := by
  obtain ⟨b, off, cap, hv, hi⟩ := h
  refine ⟨b, off, cap, hv, fun i hl => ?_⟩
  obtain ⟨u, h1, h2⟩ := hi i hl
  exact ⟨u, h1.pres hp, SRel.pres (L := none) hp (fun _ he => nomatch he) h2⟩

theorem CRel.pres (hp : Pres G w G' w' ok) {L : Option Loc} (hL : ∀ Lc, L = some Lc → ok Lc) {c : HC} {v : Value} (h : CRel G w L c v) : CRel G' w' L c v := by
  cases c with
  | sl own ks rows => exact SRel.pres hp hL h
  | el ks row off =>
    obtain ⟨b, o, hv, h⟩ := h
    exact ⟨b, o, hv, fun j hj => (h j hj).pres hp⟩
  | ptr r o =>
    obtain ⟨b, hb, hv⟩ := h
    exact ⟨b, hp.beta r b hb, hv⟩
  | msl r n cap =>
    obtain ⟨b, hb, hv⟩ := h
    exact ⟨b, hp.beta r b hb, hv⟩
  | mp r s i o =>
    obtain ⟨b, hb, hv⟩ := h
    exact ⟨b, hp.beta r b hb, hv⟩
  | nsls ks ll => exact NRel.pres hp h
  | el2 ks rows =>
    obtain ⟨b, o, u, hv, h1, h2⟩ := h
    exact ⟨b, o, u, hv, h1.pres hp, SRel.pres (L := none) hp (fun _ he => nomatch he) h2⟩
  | mapv r =>
    obtain ⟨b, hb, hv⟩ := h
    exact ⟨b, hp.beta r b hb, hv⟩
  | _ => exact h

theorem CRel.drop {L : Option Loc} {c : HC} {v : Value} (h : CRel G w L c v) : CRel G w none c v := by
  cases c with
  | sl own ks rows => exact SRel.drop h
  | _ => exact h

theorem CRel.dis {L : Option Loc} {c : HC} {v : Value} (h : CRel G w L c v) : CRel G w none c.dis v := by
  cases c with
  | sl own ks rows => exact SRel.drop h
  | mu ks rows => exact h.elim
  | _ => exact h

theorem SRel.nil (G : Ghost) (w : World) (L : Option Loc) (ks : List Nat) : SRel G w L ks [] (.slice none 0 0) := ⟨none, 0, rfl, Nat.le_refl _, Nat.zero_le _, .inl ⟨.inr rfl, rfl, rfl⟩⟩

theorem CRel.soft {L : Option Loc} {c : HC} {v : Value} (h : CRel G w L c v) : CRel G w L c.soft v := by
  cases c with
  | nsl ks => have h : v = _ := h; subst h; exact SRel.nil G w L ks
  | esl ks => obtain ⟨a, rfl⟩ := h; rfl
  | _ => exact h

theorem CRel.oneCell {L : Option Loc} {c : HC} {v : Value} (h : CRel G w L c v) : v.oneCell' = true := by
  cases c with
  | sl own ks rows => obtain ⟨a, cap, rfl, _⟩ := h; rfl
  | mu ks rows => exact h.elim
  | el ks row off => obtain ⟨b, o, rfl, _⟩ := h; rfl
  | ptr r o => obtain ⟨b, _, rfl⟩ := h; rfl
  | msl r n cap => obtain ⟨b, _, rfl, _⟩ := h; rfl
  | mp r s i o => obtain ⟨b, _, rfl⟩ := h; rfl
  | nsls ks ll => obtain ⟨b, off, cap, rfl, _⟩ := h; rfl
  | el2 ks rows => obtain ⟨b, o, u, rfl, _⟩ := h; rfl
  | mapv r => obtain ⟨b, _, rfl⟩ := h; rfl
  | mpb f => exact h.elim
  | esl ks => obtain ⟨a, rfl⟩ := h; rfl
  | arr ks rows cap => exact h.elim
  | fro ks rows => exact h.elim
  | junk => exact h
  | _ => subst h; rfl

theorem BRel.oneCell {r o : Nat} {c : HC} {v : Value} (h : BRel G w r o c v) : v.oneCell' = true := by
  cases c with
  | mu ks rows => obtain ⟨a, cap, rfl, _⟩ := h; rfl
  | sl own ks rows => obtain ⟨a, cap, rfl, _⟩ := h; rfl
  | int k n => exact CRel.oneCell (G := G) (w := w) (L := none) (c := .int k n) h
  | num k n => exact CRel.oneCell (G := G) (w := w) (L := none) (c := .num k n) h
  | bool b => exact CRel.oneCell (G := G) (w := w) (L := none) (c := .bool b) h
  | lit b => exact CRel.oneCell (G := G) (w := w) (L := none) (c := .lit b) h
  | el ks row off => exact CRel.oneCell (G := G) (w := w) (L := none) (c := .el ks row off) h
  | ptr r o => exact CRel.oneCell (G := G) (w := w) (L := none) (c := .ptr r o) h
  | nilp => exact CRel.oneCell (G := G) (w := w) (L := none) (c := .nilp) h
  | nsl ks => exact CRel.oneCell (G := G) (w := w) (L := none) (c := .nsl ks) h
  | arr ks rows cap => exact CRel.oneCell (G := G) (w := w) (L := none) (c := .arr ks rows cap) h
  | fro ks rows => exact CRel.oneCell (G := G) (w := w) (L := none) (c := .fro ks rows) h
  | msl r n cap => exact CRel.oneCell (G := G) (w := w) (L := none) (c := .msl r n cap) h
  | mp r s i o => exact CRel.oneCell (G := G) (w := w) (L := none) (c := .mp r s i o) h
  | nsls ks ll => exact CRel.oneCell (G := G) (w := w) (L := none) (c := .nsls ks ll) h
  | el2 ks rows => exact CRel.oneCell (G := G) (w := w) (L := none) (c := .el2 ks rows) h
  | mapv r => exact CRel.oneCell (G := G) (w := w) (L := none) (c := .mapv r) h
  | mpb f => exact h.elim
  | str s => exact CRel.oneCell (G := G) (w := w) (L := none) (c := .str s) h
  | esl ks => exact CRel.oneCell (G := G) (w := w) (L := none) (c := .esl ks) h
  | junk => exact h

theorem BRel.pres (hp : Pres G w G' w' ok) {r o : Nat} (hL : ok (.cell r o)) {c : HC} {v : Value} (h : BRel G w r o c v) : BRel G' w' r o c v := by
  cases c with
  | mu ks rows => exact MRel.pres hp hL h
  | sl own ks rows => exact SRel.pres hp (fun Lc he => by cases own <;> simp at he; subst he; exact hL) h
  | int k n => exact CRel.pres (G := G) (w := w) (L := none) (c := .int k n) hp (fun _ he => nomatch he) h
  | num k n => exact CRel.pres (G := G) (w := w) (L := none) (c := .num k n) hp (fun _ he => nomatch he) h
  | bool b => exact CRel.pres (G := G) (w := w) (L := none) (c := .bool b) hp (fun _ he => nomatch he) h
  | lit b => exact CRel.pres (G := G) (w := w) (L := none) (c := .lit b) hp (fun _ he => nomatch he) h
  | el ks row off => exact CRel.pres (G := G) (w := w) (L := none) (c := .el ks row off) hp (fun _ he => nomatch he) h
  | ptr r o => exact CRel.pres (G := G) (w := w) (L := none) (c := .ptr r o) hp (fun _ he => nomatch he) h
  | nilp => exact h
  | nsl ks => exact h
  | arr ks rows cap => exact h
  | fro ks rows => exact h
  | msl r n cap => exact CRel.pres (G := G) (w := w) (L := none) (c := .msl r n cap) hp (fun _ he => nomatch he) h
  | mp r s i k => exact CRel.pres (G := G) (w := w) (L := none) (c := .mp r s i k) hp (fun _ he => nomatch he) h
  | nsls ks ll => exact NRel.pres hp h
  | el2 ks rows => exact CRel.pres (G := G) (w := w) (L := none) (c := .el2 ks rows) hp (fun _ he => nomatch he) h
  | mapv r => exact CRel.pres (G := G) (w := w) (L := none) (c := .mapv r) hp (fun _ he => nomatch he) h
  | mpb f => exact h
  | str s => exact h
  | esl ks => exact h
  | junk => exact h

theorem ARel.pres (hp : Pres G w G' w' ok) {cs : List HC} {v : Value} (h : ARel G w cs v) : ARel G' w' cs v := by
  obtain ⟨vs, hv, hs, h⟩ := h
  refine ⟨vs, hv, hs, fun j c hc => ?_⟩
  obtain ⟨u, hu, hr⟩ := h j c hc
  exact ⟨u, hu, CRel.pres (L := none) hp (fun _ he => nomatch he) hr⟩

theorem H0Rel.pres (hp : Pres G w G' w' ok) {x : H0} {v : Value} (h : H0Rel G w x v) : H0Rel G' w' x v := by
  cases x with
  | ce c => exact CRel.pres (L := none) hp (fun _ he => nomatch he) h
  | agg cs => exact ARel.pres hp h

theorem VRel.pres (hp : Pres G w G' w' ok) {L : Option Loc} (hL : ∀ Lc, L = some Lc → ok Lc) {x : HV} {v : Value} (h : VRel G w L x v) : VRel G' w' L x v := by
  cases x with
  | ce c => exact CRel.pres hp hL h
  | agg cs => exact ARel.pres hp h
  | tup hs =>
    obtain ⟨vs, hv, hsz, h⟩ := h
    refine ⟨vs, hv, hsz, fun j x hx => ?_⟩
    obtain ⟨u, hu, hr⟩ := h j x hx
    exact ⟨u, hu, H0Rel.pres hp hr⟩
  | junk => trivial

theorem VRel.drop {L : Option Loc} {x : HV} {v : Value} (h : VRel G w L x v) : VRel G w none x v := by
  cases x with
  | ce c => exact CRel.drop h
  | _ => exact h

theorem VRel.dis {L : Option Loc} {x : HV} {v : Value} (h : VRel G w L x v) : VRel G w none x.dis v := by
  cases x with
  | ce c => exact CRel.dis h
  | _ => exact h

theorem ARel.map {cs : List HC} {v : Value} (f : HC → HC) (hf : ∀ c u, CRel G w none c u → CRel G w none (f c) u) (h : ARel G w cs v) : ARel G w (cs.map f) v := by
  obtain ⟨vs, hv, hs, h⟩ := h
  refine ⟨vs, hv, by simpa using hs, fun j c hc => ?_⟩
  rw [List.getElem?_map] at hc
  cases hj : cs[j]? with
  | none => simp [hj] at hc
  | some x =>
    simp [hj] at hc
    subst hc
    obtain ⟨u, hu, hr⟩ := h j x hj
    exact ⟨u, hu, hf x u hr⟩

theorem VRel.soft {L : Option Loc} {x : HV} {v : Value} (h : VRel G w L x v) : VRel G w L x.soft v := by
  cases x with
  | ce c => exact CRel.soft h
  | agg cs => exact ARel.map _ (fun c u hc => CRel.soft hc) h
  | _ => exact h

theorem BRel.soft {r o : Nat} {c : HC} {v : Value} (h : BRel G w r o c v) : BRel G w r o c.softB v := by
  cases c with
  | nsl ks => have h : v = _ := h; subst h; exact SRel.nil G w _ ks
  | esl ks => obtain ⟨a, rfl⟩ := (show CRel G w none (.esl ks) v from h); rfl
  | _ => exact h

theorem BoxAt.beta {r : Nat} {cells : List HC} (h : BoxAt G w r cells) : ∃ b, G.beta r = some b := by
  rcases h with ⟨b, _, _, h, _⟩ | ⟨_, _, _, _, b, _, _, h, _⟩ | ⟨_, h⟩ | ⟨_, _, b, _, _, h, _⟩ | ⟨_, _, _, b, h, _⟩
  · exact ⟨b, h⟩
  · exact ⟨b, h⟩
  · exact h
  · exact ⟨b, h⟩
  · exact ⟨b, h⟩

theorem BoxAt.std {r : Nat} {cells : List HC} (h : BoxAt G w r cells) (hs : HL.std cells = true) : BoxAt0 G w r cells := by
  rcases h with h | ⟨_, _, _, rfl, _⟩ | ⟨rfl, _⟩ | ⟨_, rfl, _⟩ | ⟨_, _, rfl, _⟩
  · exact h
  · cases hs
  · cases hs
  · cases hs
  · cases hs

theorem BoxAt.arr {r : Nat} {ks : List Nat} {rows : List (List Int)} {cap : Nat} (h : BoxAt G w r [.arr ks rows cap]) : ArrAt G w r ks rows cap := by
  rcases h with ⟨b, vs, T, h1, h2, h3, h4, h5, h6⟩ | ⟨_, _, _, e, h⟩ | ⟨e, _⟩ | ⟨_, e, _⟩ | ⟨_, _, e, _⟩
  · obtain ⟨v, _, hr⟩ := h6 0 _ rfl
    exact hr.elim
  · cases e; exact h
  · cases e
  · cases e
  · cases e

theorem BoxAt.fro {r : Nat} {ks : List Nat} {rows : List (List Int)} (h : BoxAt G w r [.fro ks rows]) : FroAt G w r ks rows := by
  rcases h with ⟨b, vs, T, h1, h2, h3, h4, h5, h6⟩ | ⟨_, _, _, e, h⟩ | ⟨e, _⟩ | ⟨_, e, _⟩ | ⟨_, _, e, h⟩
  · obtain ⟨v, _, hr⟩ := h6 0 _ rfl
    exact hr.elim
  · cases e
  · cases e
  · cases e
  · cases e; exact h

theorem BoxAt.map {r : Nat} {f : Int → Option Int} (h : BoxAt G w r [.mpb f]) : MapAt G w r f := by
  rcases h with ⟨b, vs, T, h1, h2, h3, h4, h5, h6⟩ | ⟨_, _, _, e, h⟩ | ⟨e, _⟩ | ⟨_, e, h⟩ | ⟨_, _, e, _⟩
  · obtain ⟨v, _, hr⟩ := h6 0 _ rfl
    exact hr.elim
  · cases e
  · cases e
  · cases e; exact h
  · cases e

theorem MapAt.pres (hp : Pres G w G' w' ok) {r : Nat} {f : Int → Option Int} (hb : ok (.box r)) (h : MapAt G w r f) : MapAt G' w' r f := by
  obtain ⟨b, es, clk, h1, h2, h3, h4, h5⟩ := h
  obtain ⟨p1, p2, p3⟩ := hp.own b _ hb h2
  exact ⟨b, es, clk, hp.beta r b h1, p1, p2.trans h3, fun o ho => h4 o (p3 o ho), h5⟩

theorem stdB_some {o : Option (List HC)} {cs : List HC} (h : stdB o = some cs) : o = some cs ∧ HL.std cs = true := by
  unfold stdB at h
  split at h
  · rename_i c
    cases hs : HL.std c with
    | true => rw [hs] at h; cases h; exact ⟨rfl, hs⟩
    | false => rw [hs] at h; cases h
  · cases h

theorem FroAt.pres (hp : Pres G w G' w' ok) {r : Nat} {ks : List Nat} {rows : List (List Int)} (h : FroAt G w r ks rows) : FroAt G' w' r ks rows := by
  obtain ⟨b, h1, h2⟩ := h
  exact ⟨b, hp.beta r b h1, fun i j hi hj => (h2 i j hi hj).pres hp⟩

theorem ArrAt.pres (hp : Pres G w G' w' ok) {r : Nat} {ks : List Nat} {rows : List (List Int)} {cap : Nat} (hb : ok (.box r)) (h : ArrAt G w r ks rows cap) : ArrAt G' w' r ks rows cap := by
  obtain ⟨b, vs, T, h1, h2, h3, h4, h5, h6⟩ := h
  obtain ⟨p1, p2, p3⟩ := hp.own b _ hb h2
  exact ⟨b, vs, T, hp.beta r b h1, p1, p2.trans h3, fun o ho => h4 o (p3 o ho), h5, h6⟩

theorem BoxAt0.pres (hp : Pres G w G' w' ok) {r : Nat} {cells : List HC} (hb : ok (.box r)) (hL : ∀ o, ok (.cell r o)) (h : BoxAt0 G w r cells) : BoxAt0 G' w' r cells := by
  obtain ⟨b, vs, T, h1, h2, h3, h4, h5, h6⟩ := h
  obtain ⟨p1, p2, p3⟩ := hp.own b _ hb h2
  refine ⟨b, vs, T, hp.beta r b h1, p1, p2.trans h3, fun o ho => h4 o (p3 o ho), h5, fun j c hc => ?_⟩
  obtain ⟨v, hv, hr⟩ := h6 j c hc
  exact ⟨v, hv, hr.pres hp (hL j)⟩

theorem BoxAt.pres (hp : Pres G w G' w' ok) {r : Nat} {cells : List HC} (hb : ok (.box r)) (hL : ∀ o, ok (.cell r o)) (h : BoxAt G w r cells) : BoxAt G' w' r cells := by
  rcases h with h | ⟨ks, rows, cap, e, h⟩ | ⟨e, b, h⟩ | ⟨f, e, h⟩ | ⟨ks, rows, e, h⟩
  · exact .inl (h.pres hp hb hL)
  · exact .inr (.inl ⟨ks, rows, cap, e, h.pres hp hb⟩)
  · exact .inr (.inr (.inl ⟨e, b, hp.beta r b h⟩))
  · exact .inr (.inr (.inr (.inl ⟨f, e, h.pres hp hb⟩)))
  · exact .inr (.inr (.inr (.inr ⟨ks, rows, e, h.pres hp⟩)))

theorem BoxAt.soft {r : Nat} {cells : List HC} (h : BoxAt G w r cells) : BoxAt G w r (cells.map HC.softB) := by
  rcases h with h | ⟨ks, rows, cap, rfl, h⟩ | ⟨rfl, h⟩ | ⟨f, rfl, h⟩ | ⟨ks, rows, rfl, h⟩
  case inr.inl => exact .inr (.inl ⟨ks, rows, cap, rfl, h⟩)
  case inr.inr.inl => exact .inr (.inr (.inl ⟨rfl, h⟩))
  case inr.inr.inr.inl => exact .inr (.inr (.inr (.inl ⟨f, rfl, h⟩)))
  case inr.inr.inr.inr => exact .inr (.inr (.inr (.inr ⟨ks, rows, rfl, h⟩)))
  left
  obtain ⟨b, vs, T, h1, h2, h3, h4, h5, h6⟩ := h
  refine ⟨b, vs, T, h1, h2, h3, h4, by simpa using h5, fun j c hc => ?_⟩
  rw [List.getElem?_map] at hc
  cases hj : cells[j]? with
  | none => simp [hj] at hc
  | some x =>
    simp [hj] at hc
    subst hc
    obtain ⟨v, hv, hr⟩ := h6 j x hj
    exact ⟨v, hv, hr.soft⟩
end

/-! ### slots -/

theorem upd_same {α : Type} (e : Nat → α) (d : Nat) (v : α) : upd e d v d = v := by simp [upd]
theorem upd_ne {α : Type} (e : Nat → α) {d x : Nat} (v : α) (h : x ≠ d) : upd e d v x = e x := by
  have : Nat.beq x d = false := by
    cases hb : Nat.beq x d with
    | false => rfl
    | true => exact absurd (Nat.eq_of_beq_eq_true hb) h
  simp [upd, this]

theorem tmps_put_same {a : Act} {d : Nat} {v : Value} (h : d < a.tmps.size) : (a.put (some d) v).tmps.getD d undef = v := by
  simp [Act.put, h]
theorem tmps_put_ne {a : Act} {d : Nat} {v : Value} {x : Nat} (h : x ≠ d) : (a.put (some d) v).tmps.getD x undef = a.tmps.getD x undef := by
  simp [Act.put, Array.getElem?_setIfInBounds_ne (Ne.symm h)]
theorem put_none (a : Act) (v : Value) : a.put none v = a := rfl
theorem put_size (a : Act) (d : Option Nat) (v : Value) : (a.put d v).tmps.size = a.tmps.size := by cases d <;> simp [Act.put]
theorem put_defers (a : Act) (d : Option Nat) (v : Value) : (a.put d v).defers = a.defers := by cases d <;> rfl

end Go.HL
