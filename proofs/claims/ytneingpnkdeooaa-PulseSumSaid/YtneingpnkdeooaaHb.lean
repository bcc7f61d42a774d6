/-
  HL, part b: regions, code, loops, whole functions: definitions.
  Conditions: none.
-/
import Derived.Test.YtneingpnkdeooaaHa
namespace Go.HL
open Go

/-! ### the static side of a region -/

/-- does an operation of the region take the slice that slot d holds -/
def takesSlot (d : Nat) (o : Oper) : Bool :=
  match o.op with
  | .assign (.tmp s) => Nat.beq s d
  | .store _ _ (.tmp s) => Nat.beq s d
  | .slice _ (.tmp s) _ none none => Nat.beq s d
  | .call { callee := .builtin .append, args, .. } => match args.toList with
    | .tmp s :: _ => Nat.beq s d
    | _ => false
  | _ => false

def appendsSlot (d : Nat) (o : Oper) : Bool :=
  match o.op with
  | .call { callee := .builtin .append, args, .. } => match args.toList with
    | .tmp s :: _ => Nat.beq s d
    | _ => false
  | _ => false

def isTake (ops : List Oper) (o : Oper) : Bool :=
  match o.op, o.dst with
  | .move _, some d => ops.any (takesSlot d)
  | .load _ _, some d => ops.any (appendsSlot d)
  | _, _ => false

/-- the slots whose flags an operation takes -/
def srcSlots (take : Bool) (o : Oper) : List Nat :=
  match o.op with
  | .move (.tmp s) => bif take then [s] else []
  | .assign (.tmp s) => [s]
  | .store _ _ (.tmp s) => [s]
  | .slice _ (.tmp s) _ _ _ => [s]
  | .call { callee := .builtin _, args, .. } => match args.toList with
    | .tmp s :: _ => [s]
    | _ => []
  | _ => []

def opTmps (o : Oper) : List Nat := o.op.operands.toList.filterMap tmpOf

def rdSlots (take : Bool) (o : Oper) : List Nat := opTmps o ++ (srcSlots take o).map FL
def wrSlots (take : Bool) (o : Oper) : List Nat :=
  (match o.dst with | some d => [d, FL d] | none => []) ++ (srcSlots take o).map FL

/-- the slot of the guard -/
def guardOf (ops : List Oper) (o : Oper) : Option (Nat × Bool) :=
  match o.guard with
  | none => none
  | some (g, want) => match (ops[g]?).bind (·.dst) with
    | some s => some (s, want)
    | none => none

def guardGood (ops : List Oper) (o : Oper) : Bool :=
  match o.guard with
  | none => true
  | some (g, _) => ((ops[g]?).bind (·.dst)).isSome

def gSlots (ops : List Oper) (o : Oper) : List Nat :=
  match guardOf ops o with
  | some (s, _) => [s]
  | none => []

def edgesOf (o : Oper) : List Nat := (o.after.toList.filter (Region.binds .any)).map (·.on)

def orMask (acc : List Nat) : List Nat → Nat
  | [] => 0
  | e :: r => 2 ^ e ||| acc.getD e 0 ||| orMask acc r

/-- for each operation, the set of those that must come before it, as bits -/
def masks : List Oper → List Nat → List Nat
  | [], acc => acc
  | o :: r, acc => masks r (acc ++ [orMask acc (edgesOf o)])

def disj (a b : List Nat) : Bool := a.all fun x => !memN x b

def apart (ops : List Oper) (x y : Oper) : Bool :=
  let tx := isTake ops x
  let ty := isTake ops y
  disj (wrSlots tx x) (rdSlots ty y) && disj (wrSlots tx x) (wrSlots ty y) && disj (wrSlots tx x) (gSlots ops y) &&
  disj (wrSlots ty y) (rdSlots tx x) && disj (wrSlots ty y) (gSlots ops x) &&
  disj (gSlots ops x) (rdSlots ty y) && disj (gSlots ops y) (rdSlots tx x)

def allBelow (n : Nat) (p : Nat → Bool) : Bool := (List.range n).all p

def isSelect (o : Oper) : Bool := match o.op with | .select _ _ => true | _ => false

/-- may the region be run in the order of its text -/
def drawOK (ops : List Oper) : Bool :=
  let ms := masks ops []
  (allBelow ops.length fun j => match ops[j]? with
    | some o => (edgesOf o).all fun e => Nat.blt e j
    | none => false) &&
  (allBelow ops.length fun j => allBelow j fun i => (ms.getD j 0).testBit i || (match ops[i]?, ops[j]? with
    | some x, some y => apart ops x y
    | _, _ => false))

def dstOK (n : Nat) (ops : List Oper) : Bool :=
  Nat.ble n 100000 && ops.all fun o => guardGood ops o && (match o.dst with | some d => Nat.blt d n | none => true) && (opTmps o).all fun t => Nat.blt t n

/-! ### memory accesses -/

def opKeys (P : Program) (take fz : Bool) (o : Oper) (env : Nat → HV) : List (Nat × Bool) :=
  let ev := evalO P env o.type
  match o.op with
  | .indexAddr _ x _ => match ev x with
    | .ce (.ptr r _) => [(r, false)]
    | _ => []
  | .makeMap _ _ => match o.dst with
    | some d => [(newKey d, true)]
    | none => []
  | .mapUpdate _ m _ _ => match ev m with
    | .ce (.mapv r) => [(r, true)]
    | _ => []
  | .lookup _ m _ _ => match ev m with
    | .ce (.mapv r) => [(r, false)]
    | _ => []
  | .load _ a => match ev a with
    | .ce (.ptr r _) => [(r, take || fz)]
    | .ce (.mp r _ _ _) => [(r, false)]
    | _ => []
  | .store _ a _ => match ev a with
    | .ce (.ptr r _) => [(r, true)]
    | .ce (.mp r _ _ _) => [(r, true)]
    | _ => []
  | .move x => match fz, ev x with
    | true, .ce (.msl r _ _) => [(r, true)]
    | _, _ => []
  | .makeSlice _ _ _ => match o.dst with
    | some d => [(newKey d, true)]
    | none => []
  | .call { callee := .builtin .append, args, .. } => match fz, (args.toList.map ev), o.dst with
    | _, .ce (.msl r _ _) :: _, some d => [(r, true), (newKey d, true)]
    | true, _, some d => [(newKey d, true)]
    | _, _, _ => []
  | .buildSlice _ _ _ => match fz, o.dst with
    | true, some d => [(newKey d, true)]
    | _, _ => []
  | .alloc _ => match o.dst with
    | some d => [(newKey d, true)]
    | none => []
  | .box _ _ => match o.dst with
    | some d => [(newKey d, true)]
    | none => []
  | .call { callee := .value _, args, .. } =>
    (match rootsOf (args.toList.map ev) [] with
     | some rs => rs.map fun r => (r, true)
     | none => []) ++ (match o.dst with | some d => [(newKey d, true)] | none => [])
  | _ => []

def isMem (o : Oper) : Bool :=
  match o.op with
  | .load _ _ | .store _ _ _ | .alloc _ | .box _ _ | .move _ | .makeSlice _ _ _ | .buildSlice _ _ _ | .indexAddr _ _ _ | .makeMap _ _ | .mapUpdate _ _ _ _ | .lookup _ _ _ _ => true
  | .call { callee := .value _, .. } => true
  | .call { callee := .builtin .append, .. } => true
  | _ => false

def clash (a b : List (Nat × Bool)) : Bool := a.any fun x => b.any fun y => Nat.beq x.1 y.1 && (x.2 || y.2)

def logOK (ops : List Oper) (ms : List Nat) (i : Nat) (ks : List (Nat × Bool)) (log : Nat → List (Nat × Bool)) : Bool :=
  match ks with
  | [] => true
  | _ => allBelow ops.length fun j => (match ops[j]? with | some o => !isMem o | none => true) || Nat.beq i j || (ms.getD i 0).testBit j || (ms.getD j 0).testBit i || !clash ks (log j)

/-! ### running a region -/

structure LAnn where
  slots : List Nat
  outs : List Nat
  boxes : List Nat
  hard : Nat → Bool

instance : Coe Bool (Nat → Bool) := ⟨fun b _ => b⟩

inductive HEx where
  | normal
  | exit (id : Nat)
  | ret

/-- the values of a loop's live slots and boxes -/
abbrev LV := List HV × List (List HC)

/-- what a loop comes to: how it is left, and the values then -/
inductive LR : Type 1 where
  | fail
  | det (pre : Prop) (e : HEx) (v : LV)
  | alts (pre : Prop) (l : List (Prop × HEx × LV))
  | all (pre : Prop) (α : Type) (p : α → Prop) (e : α → HEx) (F : α → LV)

def lalts (Q : HEx → LV → Prop) : List (Prop × HEx × LV) → Prop
  | [] => True
  | [(p, e, v)] => p → Q e v
  | (p, e, v) :: r => (p → Q e v) ∧ lalts Q r

def LR.wp (Q : HEx → LV → Prop) : LR → Prop
  | .fail => False
  | .det pre e v => pre ∧ Q e v
  | .alts pre l => pre ∧ lalts Q l
  | .all pre _ p e F => pre ∧ ∀ x, p x → Q (e x) (F x)

structure Ctx where
  P : Program
  Γ : FuncId → Option Spec
  n : Nat
  loops : List (Nat × LAnn × (LV → LR))
  fz : List Nat

def isFz (C : Ctx) (o : Oper) : Bool := match o.dst with | some d => memN d C.fz | none => false

def skipUpd (o : Oper) : Upd := ⟨match o.dst with | some d => [(d, .tup [])] | none => [], []⟩

/-- what operation o does at a state: the boxes it looks at, and its outcome -/
def actOf (C : Ctx) (ops : List Oper) (o : Oper) (env : Nat → HV) (box : Nat → Option (List HC)) : List (Nat × Bool) × OSem :=
  match guardOf ops o with
  | none => (opKeys C.P (isTake ops o) (isFz C o) o env, osem C.P C.Γ (isTake ops o) (isFz C o) o env box)
  | some (s, want) => match env s with
    | .ce (.lit v) => bif (bif want then v else !v) then (opKeys C.P (isTake ops o) (isFz C o) o env, osem C.P C.Γ (isTake ops o) (isFz C o) o env box) else ([], .set (skipUpd o))
    | .tup [] => ([], .set (skipUpd o))
    | _ => ([], .fail)

def dec (s : Nat) (st : HSt) (K : HSt → Prop) : Prop :=
  match st.env s with
  | .ce (.lit _) => K st
  | .tup [] => K st
  | .ce (.bool b) => (b = true → K { st with env := upd st.env s (.ce (.lit true)) }) ∧ (b = false → K { st with env := upd st.env s (.ce (.lit false)) })
  | _ => False

def body1 (C : Ctx) (draw : Bool) (ops : List Oper) (ms : List Nat) (i : Nat) (o : Oper) (st : HSt) (K : HSt → Prop) : Prop :=
  bif draw then
    (bif logOK ops ms i (actOf C ops o st.env st.box).1 st.log then (actOf C ops o st.env st.box).2.wp st (fun st' => K (st'.logged i (actOf C ops o st.env st.box).1)) else False)
  else (actOf C ops o st.env st.box).2.wp st K

def decG (ops : List Oper) (o : Oper) (st : HSt) (K : HSt → Prop) : Prop :=
  match guardOf ops o with
  | none => K st
  | some (s, _) => dec s st K

def step1 (C : Ctx) (draw : Bool) (ops : List Oper) (ms : List Nat) (i : Nat) (st : HSt) (K : HSt → Prop) : Prop :=
  match ops[i]? with
  | none => False
  | some o => decG ops o st (fun st' => body1 C draw ops ms i o st' K)

def hops (C : Ctx) (draw : Bool) (ops : List Oper) (ms : List Nat) : List Nat → HSt → (HSt → Prop) → Prop
  | [], st, K => K st
  | i :: r, st, K => step1 C draw ops ms i st (fun st' => hops C draw ops ms r st' K)

def noLog (st : HSt) : HSt := { st with log := fun _ => [] }

/-! ### code -/

/-- a cell on its way through a loop: an address of a box that the loop does not keep is forgotten -/
def ptrC (boxes : List Nat) : HC → HC
  | .ptr r o => bif memN r boxes then .ptr r o else .junk
  | .msl r n cap => bif memN r boxes then .msl r n cap else .junk
  | .mp r s i o => bif memN r boxes then .mp r s i o else .junk
  | .mapv r => bif memN r boxes then .mapv r else .junk
  | c => c

def ptrIn (boxes : List Nat) : HV → HV
  | .ce c => .ce (ptrC boxes c)
  | .agg cs => .agg (cs.map (ptrC boxes))
  | _ => .junk

def projV (hard : Bool) (boxes : List Nat) (s : Nat) (v : HV) : HV :=
  ptrIn boxes (bif hard || Nat.ble 100000 s then v else v.soft)

def projB (hard : Bool) (boxes : List Nat) (l : List HC) : List HC :=
  l.map fun c => ptrC boxes (bif hard then c else c.softB)

def proj (an : LAnn) (slots : List Nat) (st : HSt) : Option LV :=
  match boxesOf st.box an.boxes with
  | some bs => some (slots.map fun s => projV (an.hard s) an.boxes s (st.env s), bs.map (projB (an.hard 1000000) an.boxes))
  | none => none

def injEnv : List Nat → List HV → Nat → HV
  | s :: ss, v :: vs => upd (injEnv ss vs) s v
  | _, _ => fun _ => .junk

def injBox : List Nat → List (List HC) → Nat → Option (List HC)
  | s :: ss, v :: vs => upd (injBox ss vs) s (some v)
  | _, _ => fun _ => none

def inject (an : LAnn) (slots : List Nat) (v : LV) : HSt := { env := injEnv slots v.1, box := injBox an.boxes v.2, log := fun _ => [] }

def loopN (B : LV → (HEx → LV → Prop) → Prop) (Q : HEx → LV → Prop) : Nat → LV → Prop
  | 0, _ => False
  | n + 1, v => B v (fun e v' => match e with
    | .normal => loopN B Q n v'
    | e => Q e v')

def firstReg : Code → Option Nat
  | .region id _ _ => some id
  | .seq a b => match firstReg a with
    | some i => some i
    | none => firstReg b
  | .block _ c => firstReg c
  | .loop c => firstReg c
  | .scope c => firstReg c
  | .cond _ a b => match firstReg a with
    | some i => some i
    | none => firstReg b
  | _ => none

def findAnn : List (Nat × LAnn × (LV → LR)) → Nat → Option (LAnn × (LV → LR))
  | [], _ => none
  | (k, a) :: r, i => bif Nat.beq k i then some a else findAnn r i

def condOK (n : Nat) (c : Operand) : Bool := Nat.ble n 100000 && (match c with | .tmp t => Nat.blt t n | _ => true)

def condSt (c : Operand) (b : Bool) (st : HSt) : HSt :=
  match c with
  | .tmp s => { st with env := upd st.env s (.ce (.lit b)) }
  | _ => st

/-! ### a cell of a box is told apart at the head of a region: spl region box cell kind, in the list C.fz -/

def splLits : Nat → List Int
  | 1 => [-1, 1]
  | 2 => [0, 1]
  | 3 => [0, 1, 2]
  | 4 => [0, 1, 2, 3]
  | 5 => [-1, 0, 1]
  | 6 => [0, 1, 2]
  | _ => []

def spl (region box cell kind : Nat) : Nat := ((region * 10000000 + box) * 100 + cell) * 10 + kind + 1000000000000000

def setBox (st : HSt) (r : Nat) (cells : List HC) : HSt := { st with box := upd st.box r (some cells) }

def splCases (v : Int) (K0 : Prop) (K : Int → Prop) : List Int → Prop
  | [] => K0
  | c :: r => (v = c → K c) ∧ (v ≠ c → splCases v K0 K r)

/-- the box that holds the elements of a slice that is opened -/
def opnKey (b j : Nat) : Nat := 20000000 + b * 100 + j

/-- the elements of the slice that slot s holds are fixed, their box is given up -/
def frzSlot (s : Nat) (st : HSt) (K : HSt → Prop) : Prop :=
  match st.env s with
  | .ce (.msl r n _) => (match st.box r with
    | some [.arr ks rows _] => bif Nat.blt s 100000 then n = rows.length ∧ K { st with env := upd (upd st.env s (.ce (.sl false ks rows))) (FL s) (.ce (.lit false)), box := upd st.box r (some [.fro ks rows]) } else False
    | _ => False)
  | _ => False

/-- the number in a slot is told apart (it is one of the list) -/
def splSlot (s kind : Nat) (st : HSt) (K : HSt → Prop) : Prop :=
  match st.env s with
  | .ce (.int k v) => bif Nat.blt s 100000 then splCases v False (fun c => K { st with env := upd st.env s (.ce (.num k c)) }) (splLits kind) else False
  | _ => False

def splCell (b j kind : Nat) (st : HSt) (K : HSt → Prop) : Prop :=
  bif Nat.beq kind 0 then (bif Nat.beq j 0 then frzSlot b st K else splSlot b j st K) else
  match st.box b with
  | some cells => (match kind, cells[j]? with
    -- an empty slice is opened: its cells may be changed from now on
    | 9, some (.nsl ks) => bif std cells then K (setBox st b (cells.set j (.mu ks []))) else False
    -- a slice of this box is opened: a box of its own holds the elements
    | 8, some (.mu ks rows) => bif std cells then (match st.box (opnKey b j) with
      | none => (rows.length = 0 → K (setBox st b (cells.set j (.esl ks)))) ∧ (0 < rows.length → ∀ cap : Nat, rows.length ≤ cap ∧ cap ≤ maxLen → K (setBox (setBox st b (cells.set j (.msl (opnKey b j) rows.length cap))) (opnKey b j) [.arr ks rows cap]))
      | some _ => False) else False
    -- and closed
    | 7, some (.msl r n cap) => bif std cells && !Nat.beq r b then (match st.box r with
      | some [.arr ks rows cap2] => (n = rows.length ∧ cap = cap2 ∧ 0 < rows.length) ∧ K (setBox (setBox st b (cells.set j (.mu ks rows))) r [])
      | _ => False) else False
    | _, some (.int k v) => splCases v (bif Nat.beq kind 6 then False else K st) (fun c => K (setBox st b (cells.set j (.num k c)))) (splLits kind)
    | _, _ => K st)
  | none => K st

def splAll : List Nat → Nat → HSt → (HSt → Prop) → Prop
  | [], _, st, K => K st
  | e :: r, id, st, K => bif Nat.beq (e / 10000000000) (100000 + id) then splCell (e / 1000 % 10000000) (e / 10 % 100) (e % 10) st (fun st' => splAll r id st' K) else splAll r id st K

/-! ### fragments: a region or a condition whose outcome is given, as a loop's is; their keys are 3000000 + region, 2000000 + first region of the branches -/

def condKey (a b : Code) : Option Nat := match firstReg a with
  | some i => some (2000000 + i)
  | none => (firstReg b).map (2000000 + ·)

def fragOr (C : Ctx) (key : Option Nat) (st : HSt) (Q : HEx → HSt → Prop) (K0 : Prop) : Prop :=
  match key.bind (findAnn C.loops) with
  | some (an, S) => match proj an an.slots st with
    | some v => (S v).wp (fun e v' => Q e (inject an an.outs v'))
    | none => False
  | none => K0

def hreg (C : Ctx) (id : Nat) (ops : Array Oper) (draw : Bool) (st : HSt) (Q : HEx → HSt → Prop) : Prop :=
  splAll C.fz id st (fun st =>
    bif dstOK C.n ops.toList && (!draw || drawOK ops.toList) then
      hops C draw ops.toList (bif draw then masks ops.toList [] else []) (List.range ops.size) (noLog st) (fun st' => Q .normal st')
    else False)

def condRule (C : Ctx) (c : Operand) (st : HSt) (Ka Kb : HSt → Prop) : Prop :=
  bif condOK C.n c then (match evalO C.P st.env 0 c with
    | .ce (.lit true) => Ka st
    | .ce (.lit false) => Kb st
    | .ce (.bool t) => (t = true → Ka (condSt c true st)) ∧ (t = false → Kb (condSt c false st))
    | _ => False) else False

/-! ### loops that are run round by round: their keys are 4000000 + first region; boxes are kept, outs = [bound on the rounds] -/

def keepC (boxes : List Nat) : Option (List HC) → Option (List HC)
  | some cs => some (cs.map (ptrC boxes))
  | none => none

def keepSt (boxes : List Nat) (st : HSt) : HSt :=
  { env := fun s => ptrIn boxes (st.env s), box := fun r => bif memN r boxes then keepC boxes (st.box r) else none, log := fun _ => [] }

def loopU (boxes : List Nat) (B : HSt → (HEx → HSt → Prop) → Prop) (Q : HEx → HSt → Prop) : Nat → HSt → Prop
  | 0, _ => False
  | n + 1, st => B (keepSt boxes st) (fun e st' => match e with
    | .normal => loopU boxes B Q n st'
    | e => Q e st')

def unrKey (body : Code) : Option Nat := (firstReg body).map (4000000 + ·)

def hexec (C : Ctx) : Code → HSt → (HEx → HSt → Prop) → Prop
  | .skip, st, Q => Q .normal st
  | .label _, st, Q => Q .normal st
  | .exit id, st, Q => Q (.exit id) st
  | .ret, st, Q => Q .ret st
  | .region id ops draw, st, Q => fragOr C (some (3000000 + id)) st Q (hreg C id ops draw st Q)
  | .seq a b, st, Q => hexec C a st (fun e st' => match e with
    | .normal => hexec C b st' Q
    | e => Q e st')
  | .cond c a b, st, Q => fragOr C (condKey a b) st Q (condRule C c st (fun st' => hexec C a st' Q) (fun st' => hexec C b st' Q))
  | .block id c, st, Q => hexec C c st (fun e st' => match e with
    | .exit j => bif Nat.beq j id then Q .normal st' else Q (.exit j) st'
    | e => Q e st')
  | .loop body, st, Q => match (unrKey body).bind (findAnn C.loops) with
    | some (an, _) => loopU an.boxes (hexec C body) Q (an.outs.headD 0) st
    | none => match (firstReg body).bind (findAnn C.loops) with
      | some (an, S) => match proj an an.slots st with
        | some v => (S v).wp (fun e v' => Q e (inject an an.outs v'))
        | none => False
      | none => False
  | _, _, _ => False

def bodyT (C : Ctx) (an : LAnn) (body : Code) (v : LV) (K : HEx → LV → Prop) : Prop :=
  hexec C body (inject an an.slots v) (fun e st' => match e with
    | .normal => (match proj an an.slots st' with
      | some v' => K .normal v'
      | none => False)
    | e => match proj an an.outs st' with
      | some v' => K e v'
      | none => False)

def hloop (C : Ctx) (an : LAnn) (body : Code) (v : LV) (Q : HEx → LV → Prop) : Prop := ∃ n, loopN (bodyT C an body) Q n v

def outK (an : LAnn) (K : HEx → LV → Prop) : HEx → HSt → Prop := fun e st' => match proj an an.outs st' with
  | some v' => K e v'
  | none => False

/-- a fragment, run by its own rule -/
def frag1 (C : Ctx) : Code → HSt → (HEx → HSt → Prop) → Prop
  | .region id ops draw, st, Q => hreg C id ops draw st Q
  | .cond c a b, st, Q => condRule C c st (fun st' => hexec C a st' Q) (fun st' => hexec C b st' Q)
  | _, _, _ => False

def fragT (C : Ctx) (an : LAnn) (code : Code) (v : LV) (K : HEx → LV → Prop) : Prop := frag1 C code (inject an an.slots v) (outK an K)

def codeKey : Code → Option Nat
  | .region id _ _ => some (3000000 + id)
  | .cond _ a b => condKey a b
  | _ => none

def FragOK (C : Ctx) (c : Code) : Prop := ∀ an S, (codeKey c).bind (findAnn C.loops) = some (an, S) → ∀ v Q, (S v).wp Q → fragT C an c v Q

/-- every loop's and every fragment's given outcome is proved -/
def LoopsOK (C : Ctx) : Code → Prop
  | .region id ops draw => FragOK C (.region id ops draw)
  | .seq a b => LoopsOK C a ∧ LoopsOK C b
  | .cond c a b => LoopsOK C a ∧ LoopsOK C b ∧ FragOK C (.cond c a b)
  | .block _ c => LoopsOK C c
  | .loop c => LoopsOK C c ∧ ∀ an S, (firstReg c).bind (findAnn C.loops) = some (an, S) → ∀ v Q, (S v).wp Q → hloop C an c v Q
  | _ => True

/-! ### functions -/

/-- a result's cell as it leaves: an address of a box of the call's own leaves with that box -/
def outC (np : Nat) (box : Nat → Option (List HC)) : HC → Option (HC × List (List HC))
  | .ptr r o => bif Nat.blt r np then some (.ptr r o, []) else match box r with
    | some cs => bif Nat.beq o 0 then some (.ptr 500 0, [(cs.map HC.frz).map HC.plain]) else none
    | none => none
  | .mapv r => bif Nat.blt r np then some (.mapv r, []) else match box r with
    | some cs => some (.mapv 500, [(cs.map HC.frz).map HC.plain])
    | none => none
  | .el _ _ _ => none
  | .el2 _ _ => none
  | .msl _ _ _ => none
  | .mp _ _ _ _ => none
  | c => some (c, [])

def resultOf (np : Nat) (st : HSt) : ResultVar → Option (H0 × Bool × List (List HC))
  | .tmp t => bif Nat.blt t 100000 then (match st.env t with
    | .ce c => (outC np st.box c).map fun x => (.ce x.1, isOwn (st.env (FL t)), x.2)
    | .agg cs => some (.agg (cs.map HC.plain), false, [])
    | _ => none) else none
  | .cell _ _ => none

def resultsOf (np : Nat) (st : HSt) : List ResultVar → Option (List (H0 × Bool × List (List HC)))
  | [] => some []
  | r :: l => match resultOf np st r, resultsOf np st l with
    | some a, some b => some (a :: b)
    | _, _ => none

def parsOut (box : Nat → Option (List HC)) (n : Nat) : Option (List (List HC)) := (boxesOf box (List.range n)).map fun l => l.map fun c => c.map HC.plain

def mkRes (pars : List (List HC)) : List (H0 × Bool × List (List HC)) → Option Res
  | [(v, own, news)] => some ⟨v.hv, own, pars, news⟩
  | l => let news := (l.map fun x => x.2.2).flatten
    bif Nat.ble news.length 1 then some ⟨.tup (l.map fun x => match x.1 with | .ce c => .ce c.dis | v => v), false, pars, news⟩ else none

def argEnv : Nat → List HV → Nat → HV
  | _, [] => fun _ => .junk
  | i, v :: l => upd (argEnv (i + 1) l) i v

def parBox (pars : List (List HC)) : Nat → Option (List HC) := fun r => pars[r]?

/-- the value of a result that is a variable of its own -/
def cellRes (P : Program) (np : Nat) (st : HSt) (a : Nat) (t : TypeId) : Option HV :=
  match st.env a with
  | .ce (.ptr r o) => bif Nat.beq o 0 && Nat.ble np r && Nat.blt a 100000 then (match stdB (st.box r), sizeT P t with
    | some cells, some m => bif Nat.beq m cells.length then asVal P t (cells.map fun c => c.frz.dis.plain) else none
    | _, _ => none) else none
  | _ => none

/-- what is known of values is not told -/
def softSt (st : HSt) : HSt :=
  { st with
    env := fun s => bif Nat.ble 100000 s then st.env s else (st.env s).soft
    box := fun r => match st.box r with
      | some l => some (l.map HC.softB)
      | none => none }

def cellVal (P : Program) (st : HSt) (a : Nat) (t : TypeId) : Option H0 :=
  match st.env a with
  | .ce (.ptr r o) => bif Nat.beq o 0 && Nat.blt a 100000 then (match stdB (st.box r), sizeT P t with
    | some cells, some m => bif Nat.beq m cells.length then (match asVal P t (cells.map fun c => c.dis.plain) with
      | some (.ce c) => some (.ce c)
      | some (.agg cs) => some (.agg cs)
      | _ => none) else none
    | _, _ => none) else none
  | _ => none

/-- one of several results, of which some are variables of their own -/
def multiOf (P : Program) (st : HSt) : ResultVar → Option H0
  | .tmp t => bif Nat.blt t 100000 then (match st.env t with
    | .ce c => some (.ce c.dis.plain)
    | .agg cs => some (.agg (cs.map HC.plain))
    | _ => none) else none
  | .cell a t => cellVal P st a t

def multisOf (P : Program) (st : HSt) : List ResultVar → Option (List H0)
  | [] => some []
  | r :: l => match multiOf P st r, multisOf P st l with
    | some a, some b => some (a :: b)
    | _, _ => none

def hasCell (rs : List ResultVar) : Bool := Nat.blt 1 rs.length && rs.any fun r => match r with | .cell _ _ => true | .tmp _ => false

def retOf (P : Program) (np : Nat) (st : HSt) (rs : List ResultVar) : Option Res :=
  match rs with
  | [.cell a t] => match cellRes P np st a t, parsOut st.box np with
    | some v, some ps => some ⟨v, false, ps, []⟩
    | _, _ => none
  | rs => bif hasCell rs then (match multisOf P st rs, parsOut st.box np with
      | some l, some ps => some ⟨.tup l, false, ps, []⟩
      | _, _ => none)
    else (match resultsOf np st rs, parsOut st.box np with
      | some l, some ps => mkRes ps l
      | _, _ => none)

def hfun (C : Ctx) (fn : Func) (code : Code) (hargs : List HV) (pars : List (List HC)) (Q : Res → Prop) : Prop :=
  bif Nat.ble hargs.length fn.ntmps && Nat.ble fn.ntmps 100000 && Nat.blt pars.length 500 && Nat.beq C.n fn.ntmps then
    hexec C code { env := argEnv 0 hargs, box := parBox pars, log := fun _ => [] } (fun e st =>
      match e with
      | .exit _ => False
      | _ => match retOf C.P pars.length (softSt st) fn.results.toList with
        | some r => Q r
        | none => False)
  else False

end Go.HL
