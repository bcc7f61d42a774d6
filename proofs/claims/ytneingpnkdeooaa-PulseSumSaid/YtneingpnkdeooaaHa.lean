/-
  HL, part a: the abstract, value-level predicate transformer over the model's code: definitions.
  Conditions: none. (A library of this claim's own.)
-/
import Derived.WalkKit
import Derived.ProofKit
import Derived.KernelRfl
import Derived.Orders
namespace U
/-- a map of ints -/
def mnil : Int → Option Int := fun _ => none
def mput (f : Int → Option Int) (k v : Int) : Int → Option Int := fun x => if x = k then some v else f x
def optD (o : Option Int) : Int := match o with | some x => x | none => 0
def optB (o : Option Int) : Bool := match o with | some _ => true | none => false
end U
namespace Go.HL
open Go U

/-! ### values -/

/-- A cell. `sl own ks rows`: a slice whose element number i holds the cells `rows[i]` of kinds `ks`. `mu`: the same, owned by its place, its cells not yet fixed. `el`: an address in an element of a fixed slice. `ptr r o`: cell o of the box r. -/
inductive HC where
  | int (k : IntKind) (n : Int)
  | num (k : IntKind) (n : Int)
  | bool (b : Bool)
  | lit (b : Bool)
  | sl (own : Bool) (ks : List Nat) (rows : List (List Int))
  | mu (ks : List Nat) (rows : List (List Int))
  | el (ks : List Nat) (row : List Int) (off : Nat)
  | ptr (r : Nat) (o : Nat)
  | nilp
  | nsl (ks : List Nat)
  | arr (ks : List Nat) (rows : List (List Int)) (cap : Nat)
  | fro (ks : List Nat) (rows : List (List Int))
  | msl (r n cap : Nat)
  | mp (r sz i off : Nat)
  | nsls (ks : List Nat) (ll : List (List (List Int)))
  | el2 (ks : List Nat) (rows : List (List Int))
  | mapv (r : Nat)
  | mpb (f : Int → Option Int)
  | str (s : ByteArray)
  | esl (ks : List Nat)
  | junk

inductive H0 where
  | ce (c : HC)
  | agg (cs : List HC)

inductive HV where
  | ce (c : HC)
  | agg (cs : List HC)
  | tup (vs : List H0)
  | junk

/-- kinds of scalar cells by number: 0 a bool; 1.. the integer kinds -/
def kk : Nat → IntKind
  | 0 => .i8 | 1 => .i16 | 2 => .i32 | 3 => .i64 | 4 => .u8 | 5 => .u16 | 6 => .u32 | _ => .u64

def kcode : IntKind → Nat
  | .i8 => 1 | .i16 => 2 | .i32 => 3 | .i64 => 4 | .u8 => 5 | .u16 => 6 | .u32 => 7 | .u64 => 8

def kval : Nat → Int → Value
  | 0, n => .bool (n != 0)
  | c + 1, n => .int (kk c) n

def kcell : Nat → Int → HC
  | 0, n => .bool (n != 0)
  | c + 1, n => .int (kk c) n

def kEq (j k : IntKind) : Bool := Nat.beq (kcode j) (kcode k)

def ksEq : List Nat → List Nat → Bool
  | [], [] => true
  | a :: l, b :: m => Nat.beq a b && ksEq l m
  | _, _ => false

def HC.dis : HC → HC
  | .sl _ ks rows => .sl false ks rows
  | .mu _ _ => .junk
  | x => x

def HV.dis : HV → HV
  | .ce c => .ce c.dis
  | v => v

/-- a cell as it is stored in an aggregate, in a box: no addresses -/
def HC.plain : HC → HC
  | .ptr _ _ => .junk
  | .el _ _ _ => .junk
  | .nilp => .junk
  | .msl _ _ _ => .junk
  | .mp _ _ _ _ => .junk
  | .el2 _ _ => .junk
  | .mapv _ => .junk
  | x => x

/-- a cell as it is kept in a box of the call's own: addresses of boxes may stay -/
def HC.kept : HC → HC
  | .ptr r o => .ptr r o
  | .msl r n cap => .msl r n cap
  | x => x.plain

/-- no address of a box -/
def HC.nob : HC → HC
  | .ptr _ _ => .junk
  | .msl _ _ _ => .junk
  | .mp _ _ _ _ => .junk
  | .mapv _ => .junk
  | x => x

/-- the cells of a box that is no array and is not given up -/
def std : List HC → Bool
  | [] => false
  | [.arr _ _ _] => false
  | [.fro _ _] => false
  | [.mpb _] => false
  | _ => true

def stdB : Option (List HC) → Option (List HC)
  | some cs => bif std cs then some cs else none
  | none => none

/-- forget what is known -/
def HC.soft : HC → HC
  | .num k n => .int k n
  | .lit b => .bool b
  | .nsl ks => .sl false ks []
  | .esl _ => .junk
  | x => x

/-- the same for a cell of a box -/
def HC.softB : HC → HC
  | .num k n => .int k n
  | .lit b => .bool b
  | .nsl ks => .sl true ks []
  | .esl _ => .junk
  | x => x

def HV.soft : HV → HV
  | .ce c => .ce c.soft
  | .agg cs => .agg (cs.map HC.soft)
  | .tup vs => .tup vs
  | .junk => .junk

def HC.frz : HC → HC
  | .mu ks rows => .sl true ks rows
  | x => x

def HV.cells : HV → Option (List HC)
  | .ce c => some [c]
  | .agg cs => some cs
  | _ => none

def H0.hv : H0 → HV
  | .ce c => .ce c
  | .agg cs => .agg cs

/-! ### states -/

structure HSt where
  env : Nat → HV
  box : Nat → Option (List HC)
  log : Nat → List (Nat × Bool)

def upd {α : Type} (e : Nat → α) (d : Nat) (v : α) : Nat → α := fun x => bif Nat.beq x d then v else e x

/-- the slot of the flag 'slot d owns its slice' -/
def FL (d : Nat) : Nat := 100000 + d
/-- the box that is made by the operation that writes slot d -/
def newKey (d : Nat) : Nat := 1000000 + d

structure Upd where
  sets : List (Nat × HV)
  boxes : List (Nat × List HC)

def setsTo (e : Nat → HV) : List (Nat × HV) → Nat → HV
  | [] => e
  | (d, v) :: r => setsTo (upd e d v) r

def boxesTo (e : Nat → Option (List HC)) : List (Nat × List HC) → Nat → Option (List HC)
  | [] => e
  | (d, v) :: r => boxesTo (upd e d (some v)) r

def HSt.app (st : HSt) (u : Upd) : HSt := { st with env := setsTo st.env u.sets, box := boxesTo st.box u.boxes }
def HSt.logged (st : HSt) (i : Nat) (ks : List (Nat × Bool)) : HSt := { st with log := upd st.log i ks }

/-! ### types -/

def ksOf (P : Program) : Nat → TypeId → Option (List Nat)
  | 0, _ => none
  | f + 1, t =>
    match P.underlying t with
    | some .bool => some [0]
    | some (.int k) => some [kcode k]
    | some (.struct fs) => (fs.toList.mapM fun x => ksOf P f x.type).map List.flatten
    | some (.array n e) => (ksOf P f e).map fun l => (List.replicate n l).flatten
    | _ => none

/-- the kinds of an element type, its size checked -/
def elemKs (P : Program) (e : TypeId) : Option (List Nat) :=
  match ksOf P 12 e, P.info? e with
  | some ks, some i => match Nat.beq i.size ks.length && Nat.ble 1 ks.length, i.zero with
    | true, some z => bif Nat.beq z.cells.size i.size then some ks else none
    | _, _ => none
  | _, _ => none

def zcOf (P : Program) : Nat → TypeId → Option (List HC)
  | 0, _ => none
  | f + 1, t =>
    match P.underlying t with
    | some .bool => some [.lit false]
    | some (.int k) => some [.num k 0]
    | some (.struct fs) => (fs.toList.mapM fun x => zcOf P f x.type).map List.flatten
    | some (.array n e) => (zcOf P f e).map fun l => (List.replicate n l).flatten
    | some (.slice e) => (elemKs P e).map fun ks => [.nsl ks]
    | some (.pointer _) => some [.nilp]
    | _ => none

def zmatch : HC → Value → Bool
  | .lit b, .bool c => b == c
  | .num k n, .int j m => Nat.beq (kcode k) (kcode j) && n == m
  | .nsl _, .slice none 0 0 => true
  | .nilp, .pointer none => true
  | _, _ => false

def zmatches : List HC → List Value → Bool
  | [], [] => true
  | a :: l, b :: m => zmatch a b && zmatches l m
  | _, _ => false

/-- the zero cells of a type, held against the table's own zero value -/
def zeroCs (P : Program) (t : TypeId) : Option (List HC) :=
  match zcOf P 12 t, P.info? t with
  | some cs, some i => match i.zero with
    | some z => bif zmatches cs z.cells.toList && Nat.beq i.size cs.length then some cs else none
    | none => none
  | _, _ => none

def isAggT (P : Program) (t : TypeId) : Option Bool :=
  match P.underlying t with
  | some (.struct _) => some true
  | some (.array _ _) => some true
  | some _ => some false
  | none => none

def sizeT (P : Program) (t : TypeId) : Option Nat := (P.info? t).map (·.size)

/-- cells as the value of a type -/
def asVal (P : Program) (t : TypeId) (cs : List HC) : Option HV :=
  match isAggT P t with
  | some true => some (.agg cs)
  | some false => match cs with
    | [c] => some (.ce c)
    | _ => none
  | none => none

def constC : Value → HC
  | .int k n => .num k n
  | .bool b => .lit b
  | .pointer none => .nilp
  | _ => .junk

def ofConst (P : Program) (t : TypeId) : Value → HV
  | .int k n => .ce (.num k n)
  | .bool b => .ce (.lit b)
  | .pointer none => .ce .nilp
  | .string s => .ce (.str s)
  | .slice none 0 0 => match P.underlying t with
    | some (.slice e) => match elemKs P e with
      | some ks => .ce (.sl true ks [])
      | none => .junk
    | _ => .ce (.nsl [])
  | _ => .junk

def evalO (P : Program) (env : Nat → HV) (t : TypeId) : Operand → HV
  | .tmp d => env d
  | .const v => ofConst P t v
  | _ => .junk

/-! ### what a callee answers -/

structure Res where
  val : HV
  own : Bool
  pars : List (List HC)
  news : List (List HC)

inductive SR : Type 1 where
  | fail
  | det (pre : Prop) (r : Res)
  | all (pre : Prop) (α : Type) (p : α → Prop) (F : α → Res)

def SR.wp : SR → (Res → Prop) → Prop
  | .fail, _ => False
  | .det pre r, Q => pre ∧ Q r
  | .all pre _ p F, Q => pre ∧ (∃ x, p x) ∧ ∀ x, p x → Q (F x)

abbrev Spec := List HV → List (List HC) → SR

/-! ### one operation -/

inductive OSem : Type 1 where
  | fail
  | set (u : Upd)
  | one (pre : Prop) (u : Upd)
  | alts (pre : Prop) (l : List (Prop × Upd))
  | all (pre : Prop) (α : Type) (p : α → Prop) (F : α → Upd)

def altsWp (st : HSt) (K : HSt → Prop) : List (Prop × Upd) → Prop
  | [] => True
  | [(p, u)] => p → K (st.app u)
  | (p, u) :: r => (p → K (st.app u)) ∧ altsWp st K r

def OSem.wp (st : HSt) (K : HSt → Prop) : OSem → Prop
  | .fail => False
  | .set u => K (st.app u)
  | .one pre u => pre ∧ K (st.app u)
  | .alts pre l => pre ∧ altsWp st K l
  | .all pre _ p F => pre ∧ (∃ x, p x) ∧ ∀ x, p x → K (st.app (F x))

def Upd.nil : Upd := ⟨[], []⟩

/-- the result v into slot d; a slice with its flag -/
def put (d : Option Nat) (own : Bool) (v : HV) : Upd :=
  match d with
  | none => ⟨[], []⟩
  | some d => match v with
    | .ce (.sl _ ks rows) => ⟨[(d, .ce (.sl false ks rows)), (FL d, .ce (.lit own))], []⟩
    | .ce (.nsl ks) => ⟨[(d, .ce (.sl false ks [])), (FL d, .ce (.lit true))], []⟩
    | .ce (.mu _ _) => ⟨[(d, .junk)], []⟩
    | v => ⟨[(d, v)], []⟩

def ok (d : Option Nat) (v : HV) : OSem := .set (put d false v)

def isOwn : HV → Bool
  | .ce (.lit b) => b
  | _ => false

/-- taking: the flag goes with the value -/
def takeOS (env : Nat → HV) (s : Nat) (d : Option Nat) (v : HV) : OSem :=
  match v, d with
  | .ce (.sl _ ks rows), some d => .set ⟨[(d, .ce (.sl false ks rows)), (FL d, .ce (.lit (isOwn (env (FL s))))), (FL s, .ce (.lit false))], []⟩
  | v, d => ok d v

def intRes (k : IntKind) (known : Bool) (n : Int) : HV := bif known then .ce (.num k n) else .ce (.int k n)
def boolRes (known : Bool) (b : Bool) : HV := bif known then .ce (.lit b) else .ce (.bool b)

def isNum : HC → Option (IntKind × Int × Bool)
  | .int k n => some (k, n, false)
  | .num k n => some (k, n, true)
  | _ => none

def isBool : HC → Option (Bool × Bool)
  | .bool b => some (b, false)
  | .lit b => some (b, true)
  | _ => none

def bitsOp (op : BinOp) (k : IntKind) (x y : Int) : Int :=
  let a := BitVec.ofInt k.bits x
  let b := BitVec.ofInt k.bits y
  match op with
  | .and => k.wrap (a &&& b).toNat
  | .or => k.wrap (a ||| b).toNat
  | .xor => k.wrap (a ^^^ b).toNat
  | _ => k.wrap (a &&& ~~~b).toNat


def intBin (op : BinOp) (k : IntKind) (x : Int) (y : Int) (kn : Bool) (d : Option Nat) : OSem :=
  match op with
  | .add => ok d (intRes k kn (k.wrap (x + y)))
  | .sub => ok d (intRes k kn (k.wrap (x - y)))
  | .mul => ok d (intRes k kn (k.wrap (x * y)))
  | .quo => .one (y ≠ 0) (put d false (intRes k kn (k.wrap (x.tdiv y))))
  | .rem => .one (y ≠ 0) (put d false (intRes k kn (x.tmod y)))
  | .and => ok d (intRes k kn (bitsOp .and k x y))
  | .or => ok d (intRes k kn (bitsOp .or k x y))
  | .xor => ok d (intRes k kn (bitsOp .xor k x y))
  | .andNot => ok d (intRes k kn (bitsOp .andNot k x y))
  | .eql => ok d (boolRes kn (x == y))
  | .neq => ok d (boolRes kn (x != y))
  | .lss => ok d (boolRes kn (decide (x < y)))
  | .leq => ok d (boolRes kn (decide (x ≤ y)))
  | .gtr => ok d (boolRes kn (decide (x > y)))
  | .geq => ok d (boolRes kn (decide (x ≥ y)))
  | _ => .fail

def shiftBin (op : BinOp) (k : IntKind) (x : Int) (y : Int) (kn : Bool) (d : Option Nat) : OSem :=
  match op with
  | .shl => .one (0 ≤ y) (put d false (intRes k kn (k.wrap (x * 2 ^ (min y.toNat k.bits)))))
  | .shr => .one (0 ≤ y) (put d false (intRes k kn (x.fdiv (2 ^ (min y.toNat k.bits)))))
  | _ => .fail

def isShift : BinOp → Bool
  | .shl | .shr => true
  | _ => false

def unSem (op : UnOp) (a : HV) (d : Option Nat) : OSem :=
  match a with
  | .ce x =>
    match op, isNum x, isBool x with
    | .neg, some (k, n, u), _ => ok d (intRes k u (k.wrap (0 - n)))
    | .xor, some (k, n, u), _ => ok d (intRes k u (bitsOp .xor k (if k.signed then -1 else k.max) n))
    | .not, _, some (b, u) => ok d (boolRes u (!b))
    | _, _, _ => .fail
  | _ => .fail

/-- place the parts into the zero cells -/
def setAt (cs : List HC) (off : Nat) : List HC → List HC
  | [] => cs
  | p :: r => setAt (cs.set off p.kept.dis) (off + 1) r

def hfill (place : Nat → Option (Nat × Nat)) (cells : List HC) : List (Nat × HV) → Option (List HC)
  | [] => some cells
  | (i, v) :: rest =>
    match place i, v.cells with
    | some (off, size), some ps => bif Nat.beq ps.length size && Nat.ble (off + ps.length) cells.length then hfill place (setAt cells off ps) rest else none
    | _, _ => none

def fieldPlaces (P : Program) (fs : List Field) : Option (List (Nat × Nat)) := fs.mapM fun f => (sizeT P f.type).map fun s => (f.offset, s)

def buildSem (P : Program) (t : TypeId) (parts : List (Nat × HV)) (d : Option Nat) : OSem :=
  match zeroCs P t, P.underlying t with
  | some z, some (.struct fs) => match fieldPlaces P fs.toList with
    | some pl => match hfill (pl[·]?) z parts with
      | some cs => ok d (.agg cs)
      | none => .fail
    | none => .fail
  | some z, some (.array _ e) => match sizeT P e with
    | some s => match hfill (fun i => some (i * s, s)) z parts with
      | some cs => ok d (.agg cs)
      | none => .fail
    | none => .fail
  | _, _ => .fail

def rowNum : Nat → HC → Option Int
  | 0, c => (isBool c).map fun x => cond x.1 1 0
  | k + 1, c => match isNum c with
    | some (j, n, _) => bif Nat.beq (kcode j) (kcode (kk k)) then some n else none
    | none => none

def rowOf : List Nat → List HC → Option (List Int)
  | [], [] => some []
  | k :: ks, c :: cs => match rowNum k c, rowOf ks cs with
    | some n, some r => some (n :: r)
    | _, _ => none
  | _, _ => none

/-- rows out of a literal's parts: part number i is element i -/
def litRows (ks : List Nat) : Nat → List (Nat × HV) → Option (List (List Int))
  | _, [] => some []
  | i, (j, v) :: r => match Nat.beq i j, v.cells with
    | true, some cs => match rowOf ks cs, litRows ks (i + 1) r with
      | some a, some b => some (a :: b)
      | _, _ => none
    | _, _ => none

def litSlices (ks : List Nat) : Nat → List (Nat × HV) → Option (List (List (List Int)))
  | _, [] => some []
  | i, (j, .ce (.sl _ ls rows)) :: r => bif Nat.beq i j && ksEq ls ks then (litSlices ks (i + 1) r).map fun l => rows :: l else none
  | _, _ => none

def zero1 (i : TypeInfo) : Bool := match i.zero with | some z => Nat.beq z.cells.size 1 | none => false

/-- the kinds of the elements of the slices of a slice -/
def subKs (P : Program) (e : TypeId) : Option (List Nat) :=
  match P.underlying e, P.info? e with
  | some (.slice e2), some i => bif Nat.beq i.size 1 && zero1 i then elemKs P e2 else none
  | _, _ => none

def buildSliceSem (P : Program) (t : TypeId) (n : Nat) (parts : List (Nat × HV)) (d : Option Nat) : OSem :=
  match P.underlying t with
  | some (.slice e) => match subKs P e with
    | some ks => bif Nat.beq parts.length n && Nat.ble 1 n && Nat.ble n 1000000 then
        match litSlices ks 0 parts with
        | some ll => ok d (.ce (.nsls ks ll))
        | none => .fail
      else .fail
    | none => match elemKs P e with
    | some ks => bif Nat.beq parts.length n && Nat.ble (n * ks.length) 1000000 && d.isSome then
        match litRows ks 0 parts with
        | some rows => .set (put d true (.ce (.sl true ks rows)))
        | none => .fail
      else .fail
    | none => .fail
  | _ => .fail

/-- an empty slice without room -/
def emptySem (P : Program) (t : TypeId) (box : Nat → Option (List HC)) (d : Option Nat) : OSem :=
  match P.underlying t, d with
  | some (.slice e), some d => match elemKs P e, box (newKey d) with
    | some ks, none => .set ⟨[(d, .ce (.msl (newKey d) 0 0))], [(newKey d, [.arr ks [] 0])]⟩
    | _, _ => .fail
  | _, _ => .fail

/-- n cells from off on, if they are there -/
def cut (cs : List HC) (off n : Nat) : Option (List HC) := bif Nat.ble (off + n) cs.length then some ((cs.drop off).take n) else none

/-- equality at a type of integers and bools -/
def eqFields (P : Program) (rec : TypeId → List HC → List HC → Option Bool) (cs ds : List HC) : List Field → Option Bool
  | [] => some true
  | f :: fs => bif f.name == "_" then none else
    match sizeT P f.type with
    | some n => match cut cs f.offset n, cut ds f.offset n with
      | some a, some b => match rec f.type a b, eqFields P rec cs ds fs with
        | some x, some r => some (x && r)
        | _, _ => none
      | _, _ => none
    | none => none

def eqElems (rec : List HC → List HC → Option Bool) (s : Nat) (cs ds : List HC) : Nat → Nat → Option Bool
  | _, 0 => some true
  | i, n + 1 => match cut cs (i * s) s, cut ds (i * s) s with
    | some a, some b => match rec a b, eqElems rec s cs ds (i + 1) n with
      | some x, some r => some (x && r)
      | _, _ => none
    | _, _ => none

def eqT (P : Program) : Nat → TypeId → List HC → List HC → Option Bool
  | 0, _, _, _ => none
  | f + 1, t, cs, ds =>
    match P.underlying t with
    | some .bool => match cs, ds with
      | [x], [y] => match isBool x, isBool y with
        | some (a, _), some (b, _) => some (a == b)
        | _, _ => none
      | _, _ => none
    | some (.int _) => match cs, ds with
      | [x], [y] => match isNum x, isNum y with
        | some (j, a, _), some (k, b, _) => bif kEq j k then some (a == b) else none
        | _, _ => none
      | _, _ => none
    | some (.struct fs) => bif P.stoodInHeld t then none else eqFields P (eqT P f) cs ds fs.toList
    | some (.array n e) => match sizeT P e with
      | some s => eqElems (eqT P f e) s cs ds 0 n
      | none => none
    | _ => none

def binSem (P : Program) (op : BinOp) (xt : TypeId) (a b : HV) (d : Option Nat) : OSem :=
  match a, b with
  | .ce x, .ce y =>
    match isNum x, isNum y with
    | some (k, m, u), some (j, n, v) => bif isShift op then shiftBin op k m n (u && v) d else bif kEq k j then intBin op k m n (u && v) d else .fail
    | _, _ => match isBool x, isBool y, op, P.underlying xt with
      | some (m, u), some (n, v), .eql, some .bool => ok d (boolRes (u && v) (m == n))
      | some (m, u), some (n, v), .neq, some .bool => ok d (boolRes (u && v) (!(m == n)))
      | _, _, _, _ => .fail
  | .agg cs, .agg ds => bif P.eqGuardType P.depth xt then .fail else match eqT P 12 xt cs ds, isAggT P xt, op with
    | some r, some true, .eql => ok d (.ce (.bool r))
    | some r, some true, .neq => ok d (.ce (.bool (!r)))
    | _, _, _ => .fail
  | _, _ => .fail

def rowCells (ks : List Nat) (row : List Int) (off n : Nat) : Option (List HC) :=
  bif Nat.ble (off + n) ks.length then some ((List.range n).map fun j => kcell (ks.getD (off + j) 0) (row.getD (off + j) 0)) else none

def loadSem (P : Program) (t : TypeId) (a : HV) (box : Nat → Option (List HC)) (take fz : Bool) (d : Option Nat) : OSem :=
  match isAggT P t, sizeT P t with
  | some ag, some n =>
    match a with
    | .ce (.el ks row off) => match rowCells ks row off n with
      | some cs => match asVal P t cs with
        | some v => ok d v
        | none => .fail
      | none => .fail
    | .ce (.el2 ks rows) => bif ag then .fail else ok d (.ce (.sl false ks rows))
    | .ce (.mp r sz i off) => match box r with
      | some [.arr ks rows _] => bif Nat.beq sz ks.length then (match rowCells ks (rows.getD i []) off n with
        | some cs => match asVal P t cs with
          | some v => .one (i < rows.length) (put d false v)
          | none => .fail
        | none => .fail) else .fail
      | _ => .fail
    | .ce (.ptr r o) => match stdB (box r) with
      | some cells => match cut cells o n with
        | some cs => match take, fz, ag, cs, d with
          | true, false, false, [.sl own ks rows], some d =>
            .set ⟨[(d, .ce (.sl false ks rows)), (FL d, .ce (.lit own))], [(r, cells.set o (.sl false ks rows))]⟩
          | false, true, _, _, _ => match asVal P t (cs.map fun c => c.frz.dis) with
            | some v => .set { put d false v with boxes := [(r, cells.map HC.frz)] }
            | none => .fail
          | _, false, _, _, _ => match asVal P t (cs.map HC.dis) with
            | some v => ok d v
            | none => .fail
          | _, _, _, _, _ => .fail
        | none => .fail
      | none => .fail
    | _ => .fail
  | _, _ => .fail

/-- a row with some of its cells set -/
def putRow (m : Nat) (row : List Int) (off : Nat) (nums : List Int) : List Int :=
  (List.range m).map fun j => bif Nat.ble off j && Nat.blt j (off + nums.length) then nums.getD (j - off) 0 else row.getD j 0

def storeSem (P : Program) (env : Nat → HV) (t : TypeId) (a v : HV) (src : Option Nat) (box : Nat → Option (List HC)) : OSem :=
  match sizeT P t, a, v.cells with
  | some n, .ce (.mp r sz i off), some cs =>
    match box r with
    | some [.arr ks rows cap] => bif Nat.beq sz ks.length && (Nat.beq cs.length n && Nat.ble (off + n) ks.length) then
        match rowOf ((ks.drop off).take n) cs with
        | some nums => .one (i < rows.length) ⟨[], [(r, [.arr ks (rows.set i (putRow ks.length (rows.getD i []) off nums)) cap])]⟩
        | none => .fail
      else .fail
    | _ => .fail
  | some n, .ce (.ptr r o), some cs =>
    match stdB (box r) with
    | some cells => bif Nat.beq cs.length n && Nat.ble (o + n) cells.length then
        match v, src with
        | .ce (.sl _ ks rows), some s => .set ⟨[(FL s, .ce (.lit false))], [(r, cells.set o (.sl (isOwn (env (FL s))) ks rows))]⟩
        | _, _ => .set ⟨[], [(r, setAt cells o cs)]⟩
      else .fail
    | none => .fail
  | _, _, _ => .fail

def zrow : List Nat → List Int
  | [] => []
  | _ :: ks => 0 :: zrow ks

def isZero : Nat → Value → Bool
  | 0, .bool b => !b
  | c + 1, .int k n => kEq k (kk c) && n == 0
  | _, _ => false

def areZero : List Nat → List Value → Bool
  | [], [] => true
  | k :: ks, v :: vs => isZero k v && areZero ks vs
  | _, _ => false

/-- the zero value of an element type is all zeros -/
def zeroOK (P : Program) (e : TypeId) (ks : List Nat) : Bool :=
  match P.info? e with
  | some i => match i.zero with
    | some z => areZero ks z.cells.toList
    | none => false
  | none => false

/-- a slice is made: a box of its own holds its elements -/
def makeSem (P : Program) (t : TypeId) (l c : HV) (box : Nat → Option (List HC)) (d : Option Nat) : OSem :=
  match P.underlying t, l, c, d with
  | some (.slice e), .ce lc, .ce cc, some d => match elemKs P e, P.info? e, isNum lc, isNum cc, box (newKey d) with
    | some ks, some i, some (.i64, l, _), some (.i64, c, _), none => bif zeroOK P e ks then
      .one (0 ≤ l ∧ l = c ∧ l ≤ 140737488355328 ∧ l * (i.bytes : Int) ≤ 140737488355328) ⟨[(d, .ce (.msl (newKey d) l.toNat l.toNat))], [(newKey d, [.arr ks (List.replicate l.toNat (zrow ks)) l.toNat])]⟩ else .fail
    | _, _, _, _, _ => .fail
  | _, _, _, _ => .fail

/-- a made slice is fixed: its box is given up -/
def frzSem (box : Nat → Option (List HC)) (r n : Nat) (d : Option Nat) : OSem :=
  match box r, d with
  | some [.arr ks rows _], some d => .one (n = rows.length) ⟨[(d, .ce (.sl false ks rows)), (FL d, .ce (.lit false))], [(r, [.fro ks rows])]⟩
  | some [.fro ks rows], some d => .one (n = rows.length) ⟨[(d, .ce (.sl false ks rows)), (FL d, .ce (.lit false))], [(r, [.fro ks rows])]⟩
  | _, _ => .fail

/-- the rows of a new array that is kept as rows -/
def arrOf (P : Program) (e : TypeId) : Option (List HC) :=
  match P.underlying e with
  | some (.array n e2) => match elemKs P e2, P.info? e with
    | some ks, some i => match i.zero with
      | some z => bif Nat.beq z.cells.size i.size && areZero (List.replicate n ks).flatten z.cells.toList then some [.arr ks (List.replicate n (zrow ks)) n] else none
      | none => none
    | _, _ => none
  | _ => none

def newBox (box : Nat → Option (List HC)) (d : Option Nat) (cs : List HC) : OSem :=
  match d with
  | some d => match box (newKey d) with
    | none => .set ⟨[(d, .ce (.ptr (newKey d) 0))], [(newKey d, cs)]⟩
    | some _ => .fail
  | none => .fail

def fieldSem (P : Program) (t : TypeId) (x : HV) (f : Nat) (d : Option Nat) : OSem :=
  match P.underlying t, x with
  | some (.struct fs), .agg cs => match fs[f]? with
    | some fl => match sizeT P fl.type with
      | some n => match cut cs fl.offset n with
        | some ps => match asVal P fl.type (ps.map HC.dis) with
          | some v => ok d v
          | none => .fail
        | none => .fail
      | none => .fail
    | none => .fail
  | _, _ => .fail

def fieldAddrSem (P : Program) (t : TypeId) (x : HV) (f : Nat) (d : Option Nat) : OSem :=
  match P.underlying t, x with
  | some (.struct fs), .ce c => match fs[f]? with
    | some fl => match sizeT P fl.type with
      | some (_ + 1) => match c with
        | .ptr r o => ok d (.ce (.ptr r (o + fl.offset)))
        | .el ks row o => ok d (.ce (.el ks row (o + fl.offset)))
        | .mp r sz i o => ok d (.ce (.mp r sz i (o + fl.offset)))
        | _ => .fail
      | _ => .fail
    | none => .fail
  | _, _ => .fail

/-- one alternative a value of an index -/
def idxAlts (i : Int) (f : Nat → Upd) : Nat → List (Prop × Upd)
  | 0 => []
  | n + 1 => idxAlts i f n ++ [(i = (n : Int), f n)]

/-- a known index within bounds -/
def inLen (i : Int) (len : Nat) : Bool := decide (0 ≤ i) && decide (i < (len : Int))

def indexAddrSem (P : Program) (t : TypeId) (x ix : HV) (d : Option Nat) : OSem :=
  match P.underlying t, x, ix with
  | some (.array len e), .ce c, .ce ic => match isNum ic, sizeT P e with
    | some (_, i, kn), some s =>
      match c with
      | .ptr r o => bif kn then (bif inLen i len then ok d (.ce (.ptr r (o + i.toNat * s))) else .fail)
          else .alts (0 ≤ i ∧ i < len) (idxAlts i (fun j => put d false (.ce (.ptr r (o + j * s)))) len)
      | .el ks row o => bif kn then (bif inLen i len then ok d (.ce (.el ks row (o + i.toNat * s))) else .fail)
          else .alts (0 ≤ i ∧ i < len) (idxAlts i (fun j => put d false (.ce (.el ks row (o + j * s)))) len)
      | _ => .fail
    | _, _ => .fail
  | some (.slice e), .ce (.nsls ks ll), .ce ic => match isNum ic, sizeT P e with
    | some (_, i, _), some 1 => .one (0 ≤ i ∧ i < (ll.length : Int)) (put d false (.ce (.el2 ks (ll.getD i.toNat []))))
    | _, _ => .fail
  | some (.slice e), .ce (.msl r n _), .ce ic => match isNum ic, sizeT P e with
    | some (_, i, _), some s => .one (0 ≤ i ∧ i < (n : Int)) (put d false (.ce (.mp r s i.toNat 0)))
    | _, _ => .fail
  | some (.slice e), .ce (.sl _ ks rows), .ce ic => match isNum ic, sizeT P e with
    | some (_, i, _), some s => bif Nat.beq s ks.length then .one (0 ≤ i ∧ i < (rows.length : Int)) (put d false (.ce (.el ks (rows.getD i.toNat []) 0))) else .fail
    | _, _ => .fail
  | _, _, _ => .fail

/-- an index into an array that is kept as rows -/
def arrIdxSem (P : Program) (t : TypeId) (r : Nat) (ix : HV) (d : Option Nat) : OSem :=
  match P.underlying t, ix with
  | some (.array len e), .ce ic => match isNum ic, sizeT P e with
    | some (_, i, _), some s => .one (0 ≤ i ∧ i < len) (put d false (.ce (.mp r s i.toNat 0)))
    | _, _ => .fail
  | _, _ => .fail

def elemFits (P : Program) (e : TypeId) (s : Nat) : Bool := match isAggT P e with
  | some true => true
  | some false => Nat.beq s 1
  | none => false

def indexSem (P : Program) (t : TypeId) (x ix : HV) (d : Option Nat) : OSem :=
  match P.underlying t, x, ix with
  | some (.array len e), .agg cs, .ce ic => match isNum ic, sizeT P e with
    | some (_, i, kn), some s =>
      bif Nat.ble (len * s) cs.length && elemFits P e s then
        bif kn then match asVal P e (((cs.drop (i.toNat * s)).take s).map HC.dis) with
          | some v => bif inLen i len then ok d v else .fail
          | none => .fail
        else .alts (0 ≤ i ∧ i < len) (idxAlts i (fun j => match asVal P e (((cs.drop (j * s)).take s).map HC.dis) with
          | some v => put d false v
          | none => put d false .junk) len)
      else .fail
    | _, _ => .fail
  | _, _, _ => .fail

/-- byte j of a string -/
def strAt (s : ByteArray) (j : Nat) : Int := ((s.data.getD j 0).toNat : Int)

def strIdxSem (P : Program) (t : TypeId) (s : ByteArray) (ix : HV) (d : Option Nat) : OSem :=
  match P.underlying t, ix with
  | some .string, .ce ic => match isNum ic with
    | some (_, i, _) => .one (0 ≤ i ∧ i < (s.size : Int)) (put d false (.ce (.int .u8 (strAt s i.toNat))))
    | none => .fail
  | _, _ => .fail

def idxSem (P : Program) (t : TypeId) (x ix : HV) (d : Option Nat) : OSem :=
  match x with
  | .ce (.str s) => strIdxSem P t s ix d
  | x => indexSem P t x ix d

def sliceSem (P : Program) (env : Nat → HV) (t : TypeId) (x : HV) (src : Option Nat) (lo hi : Option HV) (d : Option Nat) : OSem :=
  match P.underlying t, x with
  | some (.slice e), .ce (.sl _ ks rows) => match sizeT P e with
    | some s => bif Nat.beq s ks.length then
        match lo, hi with
        | some (.ce l), some (.ce h) => match isNum l, isNum h with
          | some (_, l, _), some (_, h, _) => .one (0 ≤ l ∧ l ≤ h ∧ h ≤ (rows.length : Int)) (put d false (.ce (.sl false ks ((rows.take h.toNat).drop l.toNat))))
          | _, _ => .fail
        | none, some (.ce h) => match isNum h with
          | some (_, h, _) => .one (0 ≤ h ∧ h ≤ (rows.length : Int)) (put d false (.ce (.sl false ks (rows.take h.toNat))))
          | _ => .fail
        | some (.ce l), none => match isNum l with
          | some (_, l, _) => match src, d with
            | some s, some d => .one (0 ≤ l ∧ l ≤ (rows.length : Int)) ⟨[(d, .ce (.sl false ks (rows.drop l.toNat))), (FL d, .ce (.lit (isOwn (env (FL s))))), (FL s, .ce (.lit false))], []⟩
            | _, _ => .fail
          | _ => .fail
        | _, _ => .fail
      else .fail
    | none => .fail
  | _, _ => .fail

def extractSem (x : HV) (i : Nat) (d : Option Nat) : OSem :=
  match x with
  | .tup vs => match vs[i]? with
    | some v => ok d v.hv.dis
    | none => .fail
  | _ => .fail

def minmax (big : Bool) (k : IntKind) (x : Int) (kn : Bool) : List HV → Option (Int × Bool)
  | [] => some (x, kn)
  | .ce c :: r => match isNum c with
    | some (j, y, v) => bif kEq j k then minmax big k (bif big then (if y > x then y else x) else (if y < x then y else x)) (kn && v) r else none
    | none => none
  | _ :: _ => none

def lenSem (P : Program) (t : TypeId) (x : HV) (d : Option Nat) : OSem :=
  match P.underlying t with
  | some (.slice _) => match x with
    | .ce (.sl _ _ rows) => ok d (.ce (.int .i64 rows.length))
    | .ce (.msl _ n _) => ok d (.ce (.int .i64 n))
    | .ce (.esl _) => ok d (.ce (.num .i64 0))
    | .ce (.nsls _ ll) => ok d (.ce (.int .i64 ll.length))
    | _ => .fail
  | some (.array n _) => ok d (.ce (.num .i64 n))
  | some .string => match x with
    | .ce (.str s) => ok d (.ce (.int .i64 s.size))
    | _ => .fail
  | _ => .fail

def minmaxSem (big : Bool) (vals : List HV) (d : Option Nat) : OSem :=
  match vals with
  | .ce c :: r => match isNum c with
    | some (k, x, kn) => match minmax big k x kn r with
      | some (n, u) => ok d (intRes k u n)
      | none => .fail
    | none => .fail
  | _ => .fail

def appendSem (P : Program) (t u : TypeId) (x y : HV) (env : Nat → HV) (src : Option Nat) (d : Option Nat) : OSem :=
  match x, y with
  | .ce (.sl _ ks rows), .ce (.sl _ ls more) => match P.underlying t, src, d with
    | some (.slice e), some s, some d => match elemKs P e, isOwn (env (FL s)), P.info? e with
      | some es, true, some i => bif ksEq es ks && ksEq es ls && Nat.beq t u then
          .one ((rows.length + more.length) * i.bytes ≤ 140737488355328 ∧ rows.length + more.length ≤ maxLen)
            ⟨[(d, .ce (.sl false ks (rows ++ more))), (FL d, .ce (.lit true)), (FL s, .ce (.lit false))], []⟩
        else .fail
      | _, _, _ => .fail
    | _, _, _ => .fail
  | _, _ => .fail

/-- elements are appended to an empty slice without room: a new array, whose box holds them -/
def appNewSem (P : Program) (t u : TypeId) (ks : List Nat) (y : HV) (box : Nat → Option (List HC)) (d : Option Nat) : OSem :=
  match P.underlying t, y, d with
  | some (.slice e), .ce (.sl _ ls more), some d => match elemKs P e, P.info? e, box (newKey d) with
    | some es, some i, none => bif ksEq es ks && ksEq es ls && Nat.beq t u then
        .all (1 ≤ more.length ∧ more.length * i.bytes ≤ 140737488355328 ∧ more.length ≤ maxLen) Nat (fun x => more.length ≤ x ∧ x ≤ maxLen) (fun x => ⟨[(d, .ce (.msl (newKey d) more.length x))], [(newKey d, [.arr ks more x])]⟩)
      else .fail
    | _, _, _ => .fail
  | _, _, _ => .fail

/-- elements are appended to a slice whose elements a box holds: the box is given up, a new one holds all -/
def appMutSem (P : Program) (t u : TypeId) (r n cap : Nat) (y : HV) (box : Nat → Option (List HC)) (d : Option Nat) : OSem :=
  match P.underlying t, y, d with
  | some (.slice e), .ce (.sl _ ls more), some d => match elemKs P e, P.info? e, box r, box (newKey d) with
    | some es, some i, some [.arr ks rows cap2], none => bif ksEq es ks && ksEq es ls && Nat.beq t u then
        .all (n = rows.length ∧ cap = cap2 ∧ (rows.length + more.length) * i.bytes ≤ 140737488355328 ∧ rows.length + more.length ≤ maxLen) Nat (fun x => rows.length + more.length ≤ x ∧ x ≤ maxLen)
          (fun x => ⟨[(d, .ce (.msl (newKey d) (rows.length + more.length) x))], [(r, []), (newKey d, [.arr ks (rows ++ more) x])]⟩)
      else .fail
    | _, _, _, _ => .fail
  | _, _, _ => .fail

def builtinSem (P : Program) (b : Builtin) (ts : List TypeId) (vals : List HV) (env : Nat → HV) (fz : Bool) (box : Nat → Option (List HC)) (src : Option Nat) (d : Option Nat) : OSem :=
  match b with
  | .len => match ts, vals with
    | [t], [x] => lenSem P t x d
    | _, _ => .fail
  | .max => minmaxSem true vals d
  | .min => minmaxSem false vals d
  | .append => match ts, vals with
    | [t, u], [x, y] => match fz, x with
      | true, .ce (.esl ks) => appNewSem P t u ks y box d
      | _, .ce (.msl r n cap) => appMutSem P t u r n cap y box d
      | _, x => appendSem P t u x y env src d
    | _, _ => .fail
  | _ => .fail

/-! #### calls -/

def memN (r : Nat) : List Nat → Bool
  | [] => false
  | s :: l => Nat.beq r s || memN r l

/-- the roots of the addresses among the arguments, each once; `none` where one is given twice, or not at its head -/
def rootsOf : List HV → List Nat → Option (List Nat)
  | [], acc => some acc.reverse
  | .ce (.ptr r o) :: l, acc => bif Nat.beq o 0 && !memN r acc then rootsOf l (r :: acc) else none
  | .ce (.mapv r) :: l, acc => bif !memN r acc then rootsOf l (r :: acc) else none
  | _ :: l, acc => rootsOf l acc

/-- an argument as the callee sees it: no addresses, nothing known -/
def argV : HV → HV
  | .ce c => .ce c.nob.dis.soft
  | .agg cs => .agg (cs.map fun c => c.plain.soft)
  | _ => .junk

def argsTo : Nat → List HV → List HV
  | _, [] => []
  | j, .ce (.ptr _ _) :: l => .ce (.ptr j 0) :: argsTo (j + 1) l
  | j, .ce (.mapv _) :: l => .ce (.mapv j) :: argsTo (j + 1) l
  | j, v :: l => argV v :: argsTo j l

def boxesOf (box : Nat → Option (List HC)) : List Nat → Option (List (List HC))
  | [] => some []
  | r :: l => match box r, boxesOf box l with
    | some c, some cs => some (c :: cs)
    | _, _ => none

def zipL {α β : Type} : List α → List β → List (α × β)
  | a :: l, b :: m => (a, b) :: zipL l m
  | _, _ => []

/-- in a result: box j of the parameters is the caller's root, box 500 the new one -/
def backC (roots : List Nat) (d : Nat) : HC → HC
  | .ptr r o => bif Nat.beq r 500 then .ptr (newKey d) o else match roots[r]? with
    | some s => .ptr s o
    | none => .junk
  | .mapv r => bif Nat.beq r 500 then .mapv (newKey d) else match roots[r]? with
    | some s => .mapv s
    | none => .junk
  | .msl _ _ _ => .junk
  | .mp _ _ _ _ => .junk
  | c => c

def back0 (roots : List Nat) (d : Nat) : H0 → H0
  | .ce c => .ce (backC roots d c)
  | .agg cs => .agg (cs.map HC.plain)

def backV (roots : List Nat) (d : Nat) : HV → HV
  | .ce c => .ce (backC roots d c)
  | .tup vs => .tup (vs.map (back0 roots d))
  | .agg cs => .agg (cs.map HC.plain)
  | .junk => .junk

def newOf (d : Option Nat) (r : Res) : List (Nat × List HC) := match d, r.news with
  | some d, [n] => [(newKey d, n.map HC.plain)]
  | _, _ => []

def callUpd (roots : List Nat) (d : Option Nat) (r : Res) : Upd :=
  { sets := (put d r.own (backV roots (d.getD 0) r.val)).sets
    boxes := zipL roots (r.pars.map fun l => l.map HC.plain) ++ newOf d r }

def freshB (box : Nat → Option (List HC)) (d : Option Nat) : Bool := match d with
  | some d => match box (newKey d) with
    | none => true
    | some _ => false
  | none => false

def resFits (n : Nat) (fresh : Bool) (r : Res) : Bool := Nat.beq r.pars.length n && Nat.blt n 500 && (match r.news with | [] => true | [_] => fresh | _ => false)

def callSem (Γ : FuncId → Option Spec) (f : FuncId) (vals : List HV) (box : Nat → Option (List HC)) (d : Option Nat) : OSem :=
  match Γ f with
  | some S => match rootsOf vals [] with
    | some roots => match boxesOf box roots with
      | some pars => match S (argsTo 0 vals) (pars.map fun l => l.map fun c => c.softB.plain) with
        | .fail => .fail
        | .det pre r => bif resFits roots.length (freshB box d) r then .one pre (callUpd roots d r) else .fail
        | .all pre α p F => .all (pre ∧ ∀ x, p x → resFits roots.length (freshB box d) (F x) = true) α p (fun x => callUpd roots d (F x))
      | none => .fail
    | none => .fail
  | none => .fail

def tmpOf : Operand → Option Nat
  | .tmp s => some s
  | _ => none

def firstTmp : List Operand → Option Nat
  | x :: _ => tmpOf x
  | [] => none

/-! #### maps of ints -/

def intT (P : Program) (t : TypeId) : Bool := match P.underlying t with | some (.int k) => Nat.beq (kcode k) 4 | _ => false
def zeroInt (P : Program) (t : TypeId) : Bool := intT P t && (match P.info? t with | some i => (match i.zero with | some (.int k n) => Nat.beq (kcode k) 4 && n == 0 | _ => false) | none => false)

def mapT (P : Program) (t : TypeId) : Bool := match P.underlying t with | some (.map k e) => intT P k && zeroInt P e | _ => false

def makeMapSem (P : Program) (t : TypeId) (box : Nat → Option (List HC)) (d : Option Nat) : OSem :=
  match d with
  | some d => match box (newKey d), mapT P t with
    | none, true => .set ⟨[(d, .ce (.mapv (newKey d)))], [(newKey d, [.mpb mnil])]⟩
    | _, _ => .fail
  | none => .fail

def mapUpdateSem (P : Program) (t : TypeId) (m k v : HV) (box : Nat → Option (List HC)) : OSem :=
  match m, k, v with
  | .ce (.mapv r), .ce kc, .ce vc => match isNum kc, isNum vc, box r with
    | some (.i64, k, _), some (.i64, v, _), some [.mpb f] => bif mapT P t then .set ⟨[], [(r, [.mpb (mput f k v)])]⟩ else .fail
    | _, _, _ => .fail
  | _, _, _ => .fail

def lookupSem (P : Program) (t : TypeId) (m k : HV) (ok2 : Bool) (box : Nat → Option (List HC)) (d : Option Nat) : OSem :=
  match m, k with
  | .ce (.mapv r), .ce kc => match isNum kc, box r with
    | some (.i64, k, _), some [.mpb f] => bif mapT P t then
        (bif ok2 then ok d (.tup [.ce (.int .i64 (optD (f k))), .ce (.bool (optB (f k)))]) else ok d (.ce (.int .i64 (optD (f k))))) else .fail
    | _, _ => .fail
  | _, _ => .fail

/-- what one operation does -/
def osem (P : Program) (Γ : FuncId → Option Spec) (take fz : Bool) (o : Oper) (env : Nat → HV) (box : Nat → Option (List HC)) : OSem :=
  let ev := evalO P env o.type
  match o.op with
  | .move x => match fz, ev x with
    | true, .ce (.msl r n _) => frzSem box r n o.dst
    | _, _ => match take, tmpOf x with
      | true, some s => takeOS env s o.dst (ev x)
      | _, _ => match x, ev x with
        | .const _, .ce (.sl _ ks rows) => .set (put o.dst true (.ce (.sl true ks rows)))
        | _, v => ok o.dst v.dis
  | .assign x => match tmpOf x with
    | some s => takeOS env s o.dst (ev x)
    | none => match ev x with
      | .ce (.sl _ ks rows) => .set (put o.dst true (.ce (.sl true ks rows)))
      | v => ok o.dst v.dis
  | .pick c a b => match ev c with
    | .ce (.lit true) => ok o.dst (ev a).dis
    | .ce (.lit false) => ok o.dst (ev b).dis
    | _ => .fail
  | .alloc e => bif fz then (match arrOf P e with
      | some z => newBox box o.dst z
      | none => .fail)
    else match zeroCs P e with
    | some z => newBox box o.dst z
    | none => .fail
  | .box e x => match (ev x).cells, sizeT P e with
    | some cs, some _ => newBox box o.dst (cs.map fun c => c.plain.dis)
    | _, _ => .fail
  | .build t parts => buildSem P t (parts.toList.map fun p => (p.1, ev p.2)) o.dst
  | .buildSlice t n parts => match fz, n, parts.toList with
    | true, 0, [] => emptySem P t box o.dst
    | _, _, _ => buildSliceSem P t n (parts.toList.map fun p => (p.1, ev p.2)) o.dst
  | .load t a => loadSem P t (ev a) box take fz o.dst
  | .store t a v => match o.dst with
    | none => storeSem P env t (ev a) (ev v) (tmpOf v) box
    | some _ => .fail
  | .nilCheck x => match ev x with
    | .ce (.ptr r k) => ok o.dst (.ce (.ptr r k))
    | .ce (.el ks row k) => ok o.dst (.ce (.el ks row k))
    | .ce (.mp r sz i k) => ok o.dst (.ce (.mp r sz i k))
    | _ => .fail
  | .makeSlice t l c => makeSem P t (ev l) (ev c) box o.dst
  | .binOp op xt x y _ => binSem P op xt (evalO P env xt x) (evalO P env xt y) o.dst
  | .unOp op _ x => unSem op (ev x) o.dst
  | .convert s t x => match P.underlying s, P.underlying t, ev x with
    | some _, some (.int k), .ce c => match isNum c with
      | some (_, n, u) => ok o.dst (intRes k u (k.wrap n))
      | none => .fail
    | _, _, _ => .fail
  | .slice t x lo hi none => sliceSem P env t (ev x) (tmpOf x) (lo.map ev) (hi.map ev) o.dst
  | .fieldAddr t x f => fieldAddrSem P t (ev x) f o.dst
  | .field t x f => fieldSem P t (ev x) f o.dst
  | .indexAddr t x i => match ev x with
    | .ce (.ptr r k) => match bif Nat.beq k 0 then box r else none with
      | some [.arr _ _ _] => arrIdxSem P t r (ev i) o.dst
      | _ => indexAddrSem P t (ev x) (ev i) o.dst
    | _ => indexAddrSem P t (ev x) (ev i) o.dst
  | .makeMap t none => makeMapSem P t box o.dst
  | .mapUpdate t m k v => match o.dst with
    | none => mapUpdateSem P t (ev m) (ev k) (ev v) box
    | some _ => .fail
  | .lookup t m k ok2 => lookupSem P t (ev m) (ev k) ok2 box o.dst
  | .index t x i => match x with
    | .const (.string s) => strIdxSem P t s (ev i) o.dst
    | x => idxSem P t (ev x) (ev i) o.dst
  | .extract x i => extractSem (ev x) i o.dst
  | .call { callee := .builtin b, args, argTypes } => builtinSem P b argTypes.toList (args.toList.map ev) env fz box (firstTmp args.toList) o.dst
  | .call { callee := .value (.func f), args, .. } => callSem Γ f (args.toList.map ev) box o.dst
  | _ => .fail

end Go.HL
