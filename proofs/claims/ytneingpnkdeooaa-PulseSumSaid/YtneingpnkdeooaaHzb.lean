/-
  HL, part zb: the same predicate transformer with named results: the value of an operation gets a name of its own (and, where asked, is shown to fit its kind).
  Conditions: none.
-/
import Derived.Test.YtneingpnkdeooaaHz
namespace U
open Go Go.HL
/-- the bitwise operations, by names that stay -/
def bor (k : IntKind) (x y : Int) : Int := bitsOp .or k x y
def band (k : IntKind) (x y : Int) : Int := bitsOp .and k x y
def bxor (k : IntKind) (x y : Int) : Int := bitsOp .xor k x y
end U
namespace Go.HL
open Go

/-! ### limits of the kinds -/

def kLo : IntKind → Int
  | .i8 => -128 | .i16 => -32768 | .i32 => -2147483648 | .i64 => -9223372036854775808 | _ => 0
def kHi : IntKind → Int
  | .i8 => 127 | .i16 => 32767 | .i32 => 2147483647 | .i64 => 9223372036854775807 | .u8 => 255 | .u16 => 65535 | .u32 => 4294967295 | .u64 => 18446744073709551615

theorem wrap_in {k : IntKind} {n : Int} (h : kLo k ≤ n ∧ n ≤ kHi k) : k.wrap n = n := by
  obtain ⟨h1, h2⟩ := h
  cases k <;> simp [kLo, kHi] at h1 h2 <;> simp [IntKind.wrap, IntKind.signed, IntKind.bits] <;> (try split) <;> omega

/-! ### one operation with a name for its result -/

def putI (d : Nat) (k : IntKind) (z : Int) : Upd := ⟨[(d, .ce (.int k z))], []⟩

def nName (st : HSt) (K : HSt → Prop) (s : OSem) : Prop :=
  match s with
  | .set ⟨[(d, .ce (.int k n))], []⟩ => ∀ z : Int, z = n → K (st.app (putI d k z))
  | .one p ⟨[(d, .ce (.int k n))], []⟩ => p ∧ ∀ z : Int, z = n → K (st.app (putI d k z))
  | s => s.wp st K

def nAr (ex : Bool) (st : HSt) (K : HSt → Prop) (k : IntKind) (n : Int) (d : Nat) : Prop :=
  match ex, k with
  | true, .i64 => (-9223372036854775808 ≤ n ∧ n ≤ 9223372036854775807) ∧ ∀ z : Int, z = n → K (st.app (putI d .i64 z))
  | true, .u64 => ∀ z : Int, z = n % 18446744073709551616 → K (st.app (putI d .u64 z))
  | true, .u32 => ∀ z : Int, z = n % 4294967296 → K (st.app (putI d .u32 z))
  | true, .u16 => ∀ z : Int, z = n % 65536 → K (st.app (putI d .u16 z))
  | true, .u8 => ∀ z : Int, z = n % 256 → K (st.app (putI d .u8 z))
  | _, k => ∀ z : Int, z = k.wrap n → K (st.app (putI d k z))

/-- is n a mask of low bits -/
def isMask (n : Int) : Bool := Nat.ble 1 n.toNat && Nat.beq (n.toNat + 1) (2 ^ Nat.log2 (n.toNat + 1)) && (match n with | .ofNat _ => true | _ => false)

/-- operations with a known right operand -/
def nKn (ex : Bool) (op : BinOp) (k : IntKind) (m n : Int) (d : Nat) (st : HSt) (K : HSt → Prop) : Option Prop :=
  match op with
  | .and => bif isMask n then some ((0 ≤ m ∧ m ≤ kHi k ∧ n ≤ kHi k) ∧ ∀ z : Int, z = m % (n + 1) → K (st.app (putI d k z))) else none
  | .shr => some (0 ≤ n ∧ ∀ z : Int, z = m / 2 ^ (min n.toNat k.bits) → K (st.app (putI d k z)))
  | .shl => some (0 ≤ n ∧ nAr ex st K k (m * 2 ^ (min n.toNat k.bits)) d)
  | _ => none

def nBin (ex : Bool) (op : BinOp) (k : IntKind) (m n : Int) (d : Nat) (st : HSt) (K : HSt → Prop) : Option Prop :=
  match op with
  | .add => some (nAr ex st K k (m + n) d)
  | .sub => some (nAr ex st K k (m - n) d)
  | .mul => some (nAr ex st K k (m * n) d)
  | .quo => some (n ≠ 0 ∧ nAr ex st K k (m.tdiv n) d)
  | .or => some (∀ z : Int, z = U.bor k m n → K (st.app (putI d k z)))
  | .and => some (∀ z : Int, z = U.band k m n → K (st.app (putI d k z)))
  | .xor => some (∀ z : Int, z = U.bxor k m n → K (st.app (putI d k z)))
  | _ => none

/-- names for what a call answers -/
def nCell (c : HC) (K : HC → Prop) : Prop :=
  match c with
  | .int k n => ∀ z : Int, z = n → K (.int k z)
  | .bool b => ∀ z : Bool, z = b → K (.bool z)
  | .sl own ks rows => ∀ z : List (List Int), z = rows → K (.sl own ks z)
  | c => K c

def nCells : List HC → (List HC → Prop) → Prop
  | [], K => K []
  | c :: l, K => nCell c fun c' => nCells l fun l' => K (c' :: l')

def nTup : List H0 → (List H0 → Prop) → Prop
  | [], K => K []
  | .ce c :: l, K => nCell c fun c' => nTup l fun l' => K (.ce c' :: l')
  | .agg cs :: l, K => nCells cs fun cs' => nTup l fun l' => K (.agg cs' :: l')

def nVal (v : HV) (K : HV → Prop) : Prop :=
  match v with
  | .ce c => nCell c fun c' => K (.ce c')
  | .agg cs => nCells cs fun cs' => K (.agg cs')
  | .tup vs => nTup vs fun vs' => K (.tup vs')
  | .junk => K .junk

def nPars : List (List HC) → (List (List HC) → Prop) → Prop
  | [], K => K []
  | cs :: l, K => nCells cs fun cs' => nPars l fun l' => K (cs' :: l')

/-- a call: its outcomes fit -/
def nCall (Γ : FuncId → Option Spec) (f : FuncId) (vals : List HV) (box : Nat → Option (List HC)) (d : Option Nat) (st : HSt) (K : HSt → Prop) : Prop :=
  match Γ f with
  | some S => match rootsOf vals [] with
    | some roots => match boxesOf box roots with
      | some pars => match S (argsTo 0 vals) (pars.map fun l => l.map fun c => c.softB.plain) with
        | .fail => False
        | .det pre r => pre ∧ nVal r.val fun v => nPars r.pars fun ps => nPars r.news fun ns =>
          (bif resFits roots.length (freshB box d) ⟨v, r.own, ps, ns⟩ then K (st.app (callUpd roots d ⟨v, r.own, ps, ns⟩)) else False)
        | .all pre _ p F => pre ∧ (∃ x, p x) ∧ ∀ x, p x → (bif resFits roots.length (freshB box d) (F x) then K (st.app (callUpd roots d (F x))) else False)
      | none => False
    | none => False
  | none => False

def nOp (ex : Bool) (P : Program) (Γ : FuncId → Option Spec) (box : Nat → Option (List HC)) (o : Oper) (env : Nat → HV) (st : HSt) (K : HSt → Prop) (s : OSem) : Prop :=
  match o.op, o.dst with
  | .binOp op xt x y _, some d =>
    match evalO P env xt x, evalO P env xt y with
    | .ce a, .ce b => match isNum a, isNum b with
      | some (k, m, u), some (j, n, v) =>
        bif (isShift op || kEq k j) && (!u && v) && (nKn ex op k m n d st K).isSome then (nKn ex op k m n d st K).getD False else
        bif isShift op || !kEq k j then nName st K s else
        bif u && v then s.wp st K else (nBin ex op k m n d st K).getD (nName st K s)
      | _, _ => s.wp st K
    | _, _ => s.wp st K
  | .unOp .neg _ x, some d =>
    match evalO P env o.type x with
    | .ce a => match isNum a with
      | some (k, n, u) => bif u then s.wp st K else nAr ex st K k (0 - n) d
      | none => s.wp st K
    | _ => s.wp st K
  | .unOp _ _ _, _ => nName st K s
  | .convert s0 t x, some d =>
    match P.underlying s0, P.underlying t, evalO P env o.type x with
    | some _, some (.int k), .ce a => match isNum a with
      | some (_, n, u) => bif u then s.wp st K else nAr ex st K k n d
      | none => s.wp st K
    | _, _, _ => s.wp st K
  | .call { callee := .builtin .max, args, .. }, some d =>
    match args.toList.map (evalO P env o.type) with
    | [.ce a, .ce b] => match isNum a, isNum b with
      | some (k, m, u), some (j, n, v) => bif kEq j k && !(u && v) then ∀ z : Int, z = max m n → K (st.app (putI d k z)) else s.wp st K
      | _, _ => s.wp st K
    | _ => nName st K s
  | .call { callee := .builtin .min, args, .. }, some d =>
    match args.toList.map (evalO P env o.type) with
    | [.ce a, .ce b] => match isNum a, isNum b with
      | some (k, m, u), some (j, n, v) => bif kEq j k && !(u && v) then ∀ z : Int, z = min m n → K (st.app (putI d k z)) else s.wp st K
      | _, _ => s.wp st K
    | _ => nName st K s
  | .call { callee := .value (.func f), args, .. }, d => nCall Γ f (args.toList.map (evalO P env o.type)) box d st K
  | .load _ a, _ => match evalO P env o.type a with
    | .ce (.el _ _ _) => nName st K s
    | .ce (.mp _ _ _ _) => nName st K s
    | _ => s.wp st K
  | _, _ => s.wp st K

/-! ### regions, code, loops, functions -/

def nAct (ex : Bool) (C : Ctx) (ops : List Oper) (o : Oper) (st : HSt) (K : HSt → Prop) : Prop :=
  match guardOf ops o with
  | none => nOp ex C.P C.Γ st.box o st.env st K (osem C.P C.Γ (isTake ops o) (isFz C o) o st.env st.box)
  | some (s, want) => match st.env s with
    | .ce (.lit v) => bif (bif want then v else !v) then nOp ex C.P C.Γ st.box o st.env st K (osem C.P C.Γ (isTake ops o) (isFz C o) o st.env st.box) else K (st.app (skipUpd o))
    | .tup [] => K (st.app (skipUpd o))
    | _ => False

def nbody1 (ex : Bool) (C : Ctx) (draw : Bool) (ops : List Oper) (ms : List Nat) (i : Nat) (o : Oper) (st : HSt) (K : HSt → Prop) : Prop :=
  bif draw then
    (bif logOK ops ms i (actOf C ops o st.env st.box).1 st.log then nAct ex C ops o st (fun st' => K (st'.logged i (actOf C ops o st.env st.box).1)) else False)
  else nAct ex C ops o st K

def nstep1 (ex : Bool) (C : Ctx) (draw : Bool) (ops : List Oper) (ms : List Nat) (i : Nat) (st : HSt) (K : HSt → Prop) : Prop :=
  match ops[i]? with
  | none => False
  | some o => decG ops o st (fun st' => nbody1 ex C draw ops ms i o st' K)

def nhops (ex : Bool) (C : Ctx) (draw : Bool) (ops : List Oper) (ms : List Nat) : List Nat → HSt → (HSt → Prop) → Prop
  | [], st, K => K st
  | i :: r, st, K => nstep1 ex C draw ops ms i st (fun st' => nhops ex C draw ops ms r st' K)

def nreg (ex : Bool) (C : Ctx) (id : Nat) (ops : Array Oper) (draw : Bool) (st : HSt) (Q : HEx → HSt → Prop) : Prop :=
  splAll C.fz id st (fun st =>
    bif dstOK C.n ops.toList && (!draw || drawOK ops.toList) then
      nhops ex C draw ops.toList (bif draw then masks ops.toList [] else []) (List.range ops.size) (noLog st) (fun st' => Q .normal st')
    else False)

def nexec (ex : Bool) (C : Ctx) : Code → HSt → (HEx → HSt → Prop) → Prop
  | .skip, st, Q => Q .normal st
  | .label _, st, Q => Q .normal st
  | .exit id, st, Q => Q (.exit id) st
  | .ret, st, Q => Q .ret st
  | .region id ops draw, st, Q => fragOr C (some (3000000 + id)) st Q (nreg ex C id ops draw st Q)
  | .seq a b, st, Q => nexec ex C a st (fun e st' => match e with
    | .normal => nexec ex C b st' Q
    | e => Q e st')
  | .cond c a b, st, Q => fragOr C (condKey a b) st Q (condRule C c st (fun st' => nexec ex C a st' Q) (fun st' => nexec ex C b st' Q))
  | .block id c, st, Q => nexec ex C c st (fun e st' => match e with
    | .exit j => bif Nat.beq j id then Q .normal st' else Q (.exit j) st'
    | e => Q e st')
  | .loop body, st, Q => match (unrKey body).bind (findAnn C.loops) with
    | some (an, _) => loopU an.boxes (nexec ex C body) Q (an.outs.headD 0) st
    | none => match (firstReg body).bind (findAnn C.loops) with
      | some (an, S) => match proj an an.slots st with
        | some v => (S v).wp (fun e v' => Q e (inject an an.outs v'))
        | none => False
      | none => False
  | _, _, _ => False

def nbodyT (ex : Bool) (C : Ctx) (an : LAnn) (body : Code) (v : LV) (K : HEx → LV → Prop) : Prop :=
  nexec ex C body (inject an an.slots v) (fun e st' => match e with
    | .normal => (match proj an an.slots st' with
      | some v' => K .normal v'
      | none => False)
    | e => match proj an an.outs st' with
      | some v' => K e v'
      | none => False)

def nfrag1 (ex : Bool) (C : Ctx) : Code → HSt → (HEx → HSt → Prop) → Prop
  | .region id ops draw, st, Q => nreg ex C id ops draw st Q
  | .cond c a b, st, Q => condRule C c st (fun st' => nexec ex C a st' Q) (fun st' => nexec ex C b st' Q)
  | _, _, _ => False

def nfragT (ex : Bool) (C : Ctx) (an : LAnn) (code : Code) (v : LV) (K : HEx → LV → Prop) : Prop := nfrag1 ex C code (inject an an.slots v) (outK an K)

def nfun (ex : Bool) (C : Ctx) (fn : Func) (code : Code) (hargs : List HV) (pars : List (List HC)) (Q : Res → Prop) : Prop :=
  bif Nat.ble hargs.length fn.ntmps && Nat.ble fn.ntmps 100000 && Nat.blt pars.length 500 && Nat.beq C.n fn.ntmps then
    nexec ex C code { env := argEnv 0 hargs, box := parBox pars, log := fun _ => [] } (fun e st =>
      match e with
      | .exit _ => False
      | _ => match retOf C.P pars.length (softSt st) fn.results.toList with
        | some r => Q r
        | none => False)
  else False

/-! ### soundness -/

section
variable {P : Program} {st : HSt} {K K' : HSt → Prop} {o : Oper} {C : Ctx} {ops : List Oper} {ms : List Nat} {ex : Bool}

theorem nName_imp {s : OSem} (h : ∀ st, K st → K' st) (hw : nName st K s) : s.wp st K' := by
  unfold nName at hw
  split at hw
  · exact h _ (hw _ rfl)
  · exact ⟨hw.1, h _ (hw.2 _ rfl)⟩
  · exact wp_mono' h hw

theorem nAr_imp {k : IntKind} {n : Int} {d : Nat} (h : ∀ st, K st → K' st) (hw : nAr ex st K k n d) : K' (st.app (putI d k (k.wrap n))) := by
  unfold nAr at hw
  split at hw
  · rw [wrap_in (k := .i64) (n := n) hw.1]
    exact h _ (hw.2 _ rfl)
  · exact h _ (hw _ rfl)
  · exact h _ (hw _ rfl)
  · exact h _ (hw _ rfl)
  · exact h _ (hw _ rfl)
  · exact h _ (hw _ rfl)

theorem and_mask {k : IntKind} {m n : Int} (hn : isMask n = true) (h0 : 0 ≤ m) (h1 : m ≤ kHi k) (h2 : n ≤ kHi k) : bitsOp .and k m n = m % (n + 1) := by
  unfold isMask at hn
  rw [Bool.and_eq_true, Bool.and_eq_true] at hn
  obtain ⟨⟨a1, a2⟩, a3⟩ := hn
  have a2 := Nat.eq_of_beq_eq_true a2
  have hn0 : 0 ≤ n := by cases n with
    | ofNat x => exact Int.natCast_nonneg x
    | negSucc x => cases a3
  obtain ⟨x, rfl⟩ := Int.eq_ofNat_of_zero_le h0
  obtain ⟨y, rfl⟩ := Int.eq_ofNat_of_zero_le hn0
  rw [Int.toNat_natCast] at a2
  generalize Nat.log2 (y + 1) = e at a2
  have hx : x < 2 ^ k.bits := by cases k <;> simp [kHi, IntKind.bits] at h1 ⊢ <;> omega
  have hy : y < 2 ^ k.bits := by cases k <;> simp [kHi, IntKind.bits] at h2 ⊢ <;> omega
  have hl : (BitVec.ofInt k.bits (x : Int) &&& BitVec.ofInt k.bits (y : Int)).toNat = x % (y + 1) := by
    rw [BitVec.toNat_and, BitVec.ofInt_natCast, BitVec.ofInt_natCast, BitVec.toNat_ofNat, BitVec.toNat_ofNat, Nat.mod_eq_of_lt hx, Nat.mod_eq_of_lt hy]
    have hye : y = 2 ^ e - 1 := by omega
    have e1 : x &&& y = x % 2 ^ e := by rw [hye, Nat.and_two_pow_sub_one_eq_mod]
    rw [e1, ← a2]
  show k.wrap ((BitVec.ofInt k.bits (x : Int) &&& BitVec.ofInt k.bits (y : Int)).toNat : Int) = _
  rw [hl]
  have hlt : x % (y + 1) ≤ x := Nat.mod_le _ _
  have hlo : kLo k ≤ 0 := by cases k <;> decide
  have hpos : (0 : Int) ≤ ((x % (y + 1) : Nat) : Int) := Int.natCast_nonneg _
  rw [wrap_in ⟨by omega, by omega⟩]
  rw [Int.natCast_emod]
  rfl

theorem put_int {d : Nat} {k : IntKind} {n : Int} {u : Bool} (hu : u = false) : put (some d) false (intRes k u n) = putI d k n := by
  subst hu; rfl

theorem nKn_imp {op : BinOp} {k j : IntKind} {m n : Int} {d : Nat} {P : Program} {xt : TypeId} {a b : HC} {p : Prop} (h : ∀ st, K st → K' st) (hm : isNum a = some (k, m, false)) (hn : isNum b = some (j, n, true))
    (hc : (isShift op || kEq k j) = true) (hp : nKn ex op k m n d st K = some p) (hw : p) : (binSem P op xt (.ce a) (.ce b) (some d)).wp st K' := by
  unfold binSem
  dsimp only
  rw [hm, hn]
  dsimp only
  unfold nKn at hp
  split at hp
  · have hke : kEq k j = true := by simpa [isShift] using hc
    rw [hke]
    cases hk : isMask n with
    | false => rw [hk] at hp; cases hp
    | true =>
      rw [hk] at hp
      cases hp
      obtain ⟨⟨h0, h1, h2⟩, hz⟩ := hw
      show K' (st.app (put (some d) false (intRes k false (bitsOp .and k m n))))
      rw [put_int rfl, and_mask hk h0 h1 h2]
      exact h _ (hz _ rfl)
  · cases hp
    show 0 ≤ n ∧ K' (st.app (put (some d) false (intRes k false (m.fdiv (2 ^ (min n.toNat k.bits))))))
    refine ⟨hw.1, ?_⟩
    rw [put_int rfl, Int.fdiv_eq_ediv_of_nonneg _ (Int.le_of_lt (Int.pow_pos (by decide)))]
    exact h _ (hw.2 _ rfl)
  · cases hp
    show 0 ≤ n ∧ K' (st.app (put (some d) false (intRes k false (k.wrap (m * 2 ^ (min n.toNat k.bits))))))
    exact ⟨hw.1, by rw [put_int rfl]; exact nAr_imp h hw.2⟩
  · cases hp

theorem nBin_imp {op : BinOp} {k : IntKind} {m n : Int} {d : Nat} {p : Prop} (h : ∀ st, K st → K' st) (hp : nBin ex op k m n d st K = some p) (hw : p) :
    (intBin op k m n false (some d)).wp st K' := by
  cases op <;> simp only [nBin] at hp <;> first
    | (cases hp; done)
    | (cases hp; exact nAr_imp h hw)
    | (cases hp; exact ⟨hw.1, nAr_imp h hw.2⟩)
    | (cases hp; exact h _ (hw _ rfl))

theorem nCell_imp {c : HC} {K : HC → Prop} (h : nCell c K) : K c := by
  unfold nCell at h
  split at h
  · exact h _ rfl
  · exact h _ rfl
  · exact h _ rfl
  · exact h
theorem nCells_imp : ∀ {l : List HC} {K : List HC → Prop}, nCells l K → K l
  | [], _, h => h
  | c :: l, K, h => nCells_imp (K := fun l' => K (c :: l')) (nCell_imp (K := fun c' => nCells l fun l' => K (c' :: l')) h)
theorem nTup_imp : ∀ {l : List H0} {K : List H0 → Prop}, nTup l K → K l
  | [], _, h => h
  | .ce c :: l, K, h => nTup_imp (K := fun l' => K (.ce c :: l')) (nCell_imp (K := fun c' => nTup l fun l' => K (.ce c' :: l')) h)
  | .agg cs :: l, K, h => nTup_imp (K := fun l' => K (.agg cs :: l')) (nCells_imp (K := fun cs' => nTup l fun l' => K (.agg cs' :: l')) h)
theorem nVal_imp {v : HV} {K : HV → Prop} (h : nVal v K) : K v := by
  cases v with
  | ce c => exact nCell_imp (K := fun c' => K (.ce c')) h
  | agg cs => exact nCells_imp (K := fun cs' => K (.agg cs')) h
  | tup vs => exact nTup_imp (K := fun vs' => K (.tup vs')) h
  | junk => exact h
theorem nPars_imp : ∀ {l : List (List HC)} {K : List (List HC) → Prop}, nPars l K → K l
  | [], _, h => h
  | cs :: l, K, h => nPars_imp (K := fun l' => K (cs :: l')) (nCells_imp (K := fun cs' => nPars l fun l' => K (cs' :: l')) h)

theorem nCall_imp {Γ : FuncId → Option Spec} {f : FuncId} {vals : List HV} {box : Nat → Option (List HC)} {d : Option Nat} (h : ∀ st, K st → K' st) (hw : nCall Γ f vals box d st K) : (callSem Γ f vals box d).wp st K' := by
  unfold nCall at hw
  unfold callSem
  split at hw
  · rename_i S hS
    rw [hS]
    dsimp only
    split at hw
    · rename_i roots hr
      rw [hr]
      dsimp only
      split at hw
      · rename_i pars hp
        rw [hp]
        dsimp only
        split at hw
        · exact hw.elim
        · rename_i pre r he
          rw [he]
          dsimp only
          obtain ⟨h1, h2⟩ := hw
          have h2 := nVal_imp h2
          have h2 := nPars_imp h2
          have h2 := nPars_imp h2
          cases hf : resFits roots.length (freshB box d) r with
          | true => rw [hf] at h2; exact ⟨h1, h _ h2⟩
          | false => rw [hf] at h2; exact h2.elim
        · rename_i pre α p F he
          rw [he]
          dsimp only
          obtain ⟨h1, h2, h3⟩ := hw
          have hfit : ∀ x, p x → resFits roots.length (freshB box d) (F x) = true := fun x hx => by
            have := h3 x hx
            cases hf : resFits roots.length (freshB box d) (F x) with
            | true => rfl
            | false => rw [hf] at this; exact this.elim
          refine ⟨⟨h1, hfit⟩, h2, fun x hx => ?_⟩
          have := h3 x hx
          rw [hfit x hx] at this
          exact h _ this
      · exact hw.elim
    · exact hw.elim
  · exact hw.elim

theorem nOp_imp {Γ : FuncId → Option Spec} {take fz : Bool} {box : Nat → Option (List HC)} {env : Nat → HV} (h : ∀ st, K st → K' st)
    (hw : nOp ex P Γ box o env st K (osem P Γ take fz o env box)) : (osem P Γ take fz o env box).wp st K' := by
  have raw : ∀ {s : OSem}, s.wp st K → s.wp st K' := fun hs => wp_mono' h hs
  unfold nOp at hw
  split at hw
  · rename_i op xt x y yt d ho hd
    split at hw
    · rename_i a b ha hb
      split at hw
      · rename_i k m u j n v hm hn
        cases hkn : ((isShift op || kEq k j) && (!u && v) && (nKn ex op k m n d st K).isSome) with
        | true =>
          rw [hkn] at hw
          simp only [cond_true] at hw
          simp only [Bool.and_eq_true, Bool.not_eq_true'] at hkn
          obtain ⟨⟨q1, q2, q3⟩, q4⟩ := hkn
          subst q2 q3
          cases hs : nKn ex op k m n d st K with
          | none => rw [hs] at q4; cases q4
          | some p =>
            rw [hs] at hw
            unfold osem
            rw [ho]
            dsimp only
            rw [ha, hb, hd]
            exact nKn_imp h hm hn q1 hs hw
        | false =>
        rw [hkn] at hw
        simp only [cond_false] at hw
        cases hc : (isShift op || !kEq k j) with
        | true => rw [hc] at hw; exact nName_imp h hw
        | false =>
          rw [hc] at hw
          simp only [cond_false] at hw
          cases huv : (u && v) with
          | true => rw [huv] at hw; exact raw hw
          | false =>
            rw [huv] at hw
            simp only [cond_false] at hw
            cases hb' : nBin ex op k m n d st K with
            | none => rw [hb'] at hw; exact nName_imp h hw
            | some p =>
              rw [hb'] at hw
              have hs := nBin_imp h hb' hw
              simp only [Bool.or_eq_false_iff, Bool.not_eq_false'] at hc
              unfold osem
              rw [ho]
              dsimp only
              rw [ha, hb, hd]
              unfold binSem
              dsimp only
              rw [hm, hn]
              dsimp only
              rw [hc.1, hc.2, huv]
              exact hs
      · exact raw hw
    · exact raw hw
  · rename_i t x d ho hd
    split at hw
    · rename_i a ha
      split at hw
      · rename_i k n u hm
        cases u with
        | true => exact raw hw
        | false =>
          unfold osem
          rw [ho]
          dsimp only
          rw [ha, hd]
          unfold unSem
          dsimp only
          rw [hm]
          exact nAr_imp h hw
      · exact raw hw
    · exact raw hw
  · exact nName_imp h hw
  · rename_i t0 t x d ho hd
    split at hw
    · rename_i _ k a hs0 ht ha
      split at hw
      · rename_i j n u hm
        cases u with
        | true => exact raw hw
        | false =>
          simp only [cond_false] at hw
          unfold osem
          rw [ho]
          dsimp only
          rw [hs0, ht, ha, hd]
          dsimp only
          rw [hm]
          exact nAr_imp h hw
      · exact raw hw
    · exact raw hw
  · rename_i args ts sp d ho hd
    split at hw
    · rename_i a b hargs
      split at hw
      · rename_i k m u j n v hm hn
        cases hc : (kEq j k && !(u && v)) with
        | false => rw [hc] at hw; exact raw hw
        | true =>
          rw [hc] at hw
          simp only [cond_true] at hw
          simp only [Bool.and_eq_true, Bool.not_eq_true'] at hc
          unfold osem
          rw [ho]
          dsimp only
          unfold builtinSem minmaxSem
          rw [hargs, hd]
          dsimp only
          rw [hm]
          dsimp only
          unfold minmax
          rw [hn]
          dsimp only
          rw [hc.1]
          simp only [cond_true]
          unfold minmax
          dsimp only
          unfold ok OSem.wp
          rw [hc.2, put_int rfl]
          have e : (if n > m then n else m) = max m n := by omega
          rw [e]
          exact h _ (hw _ rfl)
      · exact raw hw
    · exact nName_imp h hw
  · rename_i args ts sp d ho hd
    split at hw
    · rename_i a b hargs
      split at hw
      · rename_i k m u j n v hm hn
        cases hc : (kEq j k && !(u && v)) with
        | false => rw [hc] at hw; exact raw hw
        | true =>
          rw [hc] at hw
          simp only [cond_true] at hw
          simp only [Bool.and_eq_true, Bool.not_eq_true'] at hc
          unfold osem
          rw [ho]
          dsimp only
          unfold builtinSem minmaxSem
          rw [hargs, hd]
          dsimp only
          rw [hm]
          dsimp only
          unfold minmax
          rw [hn]
          dsimp only
          rw [hc.1]
          simp only [cond_true]
          unfold minmax
          dsimp only
          unfold ok OSem.wp
          rw [hc.2, put_int rfl]
          have e : (if n < m then n else m) = min m n := by omega
          rw [e]
          exact h _ (hw _ rfl)
      · exact raw hw
    · exact nName_imp h hw
  · rename_i f args ts sp d ho
    unfold osem
    rw [ho]
    exact nCall_imp h hw
  · split at hw
    · exact nName_imp h hw
    · exact nName_imp h hw
    · exact raw hw
  · exact raw hw

theorem nAct_imp (h : ∀ st, K st → K' st) (hw : nAct ex C ops o st K) : (actOf C ops o st.env st.box).2.wp st K' := by
  unfold nAct at hw
  unfold actOf
  split at hw
  · rename_i hg
    rw [hg]
    exact nOp_imp h hw
  · rename_i s want hg
    rw [hg]
    dsimp only
    split at hw
    · rename_i v hv
      rw [hv]
      dsimp only
      cases hb : (bif want then v else !v) with
      | true => rw [hb] at hw; exact nOp_imp h hw
      | false => rw [hb] at hw; exact h _ hw
    · rename_i hv
      rw [hv]
      exact h _ hw
    · exact hw.elim

theorem nbody1_imp {draw : Bool} {i : Nat} (h : ∀ st, K st → K' st) (hw : nbody1 ex C draw ops ms i o st K) : body1 C draw ops ms i o st K' := by
  unfold nbody1 at hw
  unfold body1
  cases draw with
  | false => exact nAct_imp h hw
  | true =>
    simp only [cond_true] at hw ⊢
    cases hl : logOK ops ms i (actOf C ops o st.env st.box).1 st.log with
    | false => rw [hl] at hw; exact hw.elim
    | true =>
      rw [hl] at hw
      simp only [cond_true] at hw ⊢
      exact nAct_imp (fun _ hk => h _ hk) hw

theorem nstep1_imp {draw : Bool} {i : Nat} (h : ∀ st, K st → K' st) (hw : nstep1 ex C draw ops ms i st K) : step1 C draw ops ms i st K' := by
  unfold nstep1 at hw
  unfold step1
  split at hw
  · exact hw.elim
  · rename_i o ho
    rw [ho]
    exact decG_mono (fun _ => nbody1_imp h) hw

theorem nhops_imp {draw : Bool} : ∀ {l : List Nat} {st : HSt} {K K' : HSt → Prop}, (∀ st, K st → K' st) → nhops ex C draw ops ms l st K → hops C draw ops ms l st K'
  | [], _, _, _, h, hw => h _ hw
  | _ :: _, _, _, _, h, hw => nstep1_imp (fun _ => nhops_imp h) hw

theorem lalts_mono {Q Q' : HEx → LV → Prop} (h : ∀ e v, Q e v → Q' e v) : ∀ {l : List (Prop × HEx × LV)}, lalts Q l → lalts Q' l
  | [], hw => hw
  | [(_, _, _)], hw => fun hp => h _ _ (hw hp)
  | (_, _, _) :: _ :: _, hw => ⟨fun hp => h _ _ (hw.1 hp), lalts_mono h hw.2⟩

theorem lr_mono {Q Q' : HEx → LV → Prop} (h : ∀ e v, Q e v → Q' e v) {r : LR} (hw : r.wp Q) : r.wp Q' := by
  cases r with
  | fail => exact hw
  | det pre e v => exact ⟨hw.1, h _ _ hw.2⟩
  | alts pre l => exact ⟨hw.1, lalts_mono h hw.2⟩
  | all pre α p e F => exact ⟨hw.1, fun x hx => h _ _ (hw.2 x hx)⟩

theorem splCases_mono {v : Int} {K0 K0' : Prop} {K K' : Int → Prop} (h0 : K0 → K0') (h : ∀ c, K c → K' c) : ∀ {l : List Int}, splCases v K0 K l → splCases v K0' K' l
  | [], hx => h0 hx
  | _ :: _, hx => ⟨fun e => h _ (hx.1 e), fun e => splCases_mono h0 h (hx.2 e)⟩

theorem splCell_mono {b j kind : Nat} {st : HSt} {K K' : HSt → Prop} (h : ∀ st, K st → K' st) (hx : splCell b j kind st K) : splCell b j kind st K' := by
  unfold splCell at hx ⊢
  cases hk0 : Nat.beq kind 0 with
  | true =>
    rw [hk0] at hx
    simp only [cond_true] at hx ⊢
    cases hj0 : Nat.beq j 0 with
    | false =>
      rw [hj0] at hx
      have hx : splSlot b j st K := hx
      show splSlot b j st K'
      unfold splSlot at hx ⊢
      split at hx
      · cases hs : Nat.blt b 100000 with
        | false => rw [hs] at hx; exact hx.elim
        | true =>
          rw [hs] at hx
          exact splCases_mono (fun h0 => h0) (fun c => h _) hx
      · exact hx.elim
    | true =>
    rw [hj0] at hx
    have hx : frzSlot b st K := hx
    show frzSlot b st K'
    unfold frzSlot at hx ⊢
    split at hx
    · split at hx
      · cases hs : Nat.blt b 100000 with
        | false => rw [hs] at hx; exact hx.elim
        | true => rw [hs] at hx; exact ⟨hx.1, h _ hx.2⟩
      · exact hx.elim
    · exact hx.elim
  | false =>
  rw [hk0] at hx
  simp only [cond_false] at hx ⊢
  split at hx
  · rename_i cells hb
    split at hx
    · cases hs : HL.std cells with
      | false => rw [hs] at hx; exact hx.elim
      | true => rw [hs] at hx; exact h _ hx
    · cases hs : HL.std cells with
      | false => rw [hs] at hx; exact hx.elim
      | true =>
        rw [hs] at hx
        simp only [cond_true] at hx ⊢
        split at hx
        · exact ⟨fun e => h _ (hx.1 e), fun e cap hc => h _ (hx.2 e cap hc)⟩
        · exact hx.elim
    · rename_i q m cap hj
      cases hs : (HL.std cells && !Nat.beq q b) with
      | false => rw [hs] at hx; exact hx.elim
      | true =>
        rw [hs] at hx
        simp only [cond_true] at hx ⊢
        split at hx
        · exact ⟨hx.1, h _ hx.2⟩
        · exact hx.elim
    · refine splCases_mono (fun h0 => ?_) (fun c => h _) hx
      revert h0
      generalize Nat.beq _ 6 = q
      cases q with
      | true => exact fun h0 => h0
      | false => exact fun h0 => h _ h0
    · exact h _ hx
  · exact h _ hx

theorem splAll_mono {id : Nat} {K K' : HSt → Prop} (h : ∀ st, K st → K' st) : ∀ {l : List Nat} {st : HSt}, splAll l id st K → splAll l id st K'
  | [], _, hx => h _ hx
  | e :: r, st, hx => by
    unfold splAll at hx ⊢
    cases hc : Nat.beq (e / 10000000000) (100000 + id) with
    | false => rw [hc] at hx; exact splAll_mono h hx
    | true =>
      rw [hc] at hx
      exact splCell_mono (K := fun st' => splAll r id st' K) (fun st hk => splAll_mono h hk) hx

theorem nreg_imp {id : Nat} {oa : Array Oper} {draw : Bool} {Q Q' : HEx → HSt → Prop} (h : ∀ e st, Q e st → Q' e st) (hw : nreg ex C id oa draw st Q) : hreg C id oa draw st Q' := by
  unfold nreg at hw
  unfold hreg
  refine splAll_mono (fun st hw => ?_) hw
  cases hd : (dstOK C.n oa.toList && (!draw || drawOK oa.toList)) with
  | false => rw [hd] at hw; exact hw.elim
  | true =>
    rw [hd] at hw
    exact nhops_imp (fun _ hk => h _ _ hk) hw

theorem condRule_mono {c : Operand} {Ka Kb Ka' Kb' : HSt → Prop} (ha : ∀ st, Ka st → Ka' st) (hb : ∀ st, Kb st → Kb' st) (hw : condRule C c st Ka Kb) : condRule C c st Ka' Kb' := by
  unfold condRule at hw ⊢
  cases hd : condOK C.n c with
  | false => rw [hd] at hw; exact hw.elim
  | true =>
    rw [hd] at hw
    simp only [cond_true] at hw ⊢
    split at hw
    · exact ha _ hw
    · exact hb _ hw
    · exact ⟨fun e => ha _ (hw.1 e), fun e => hb _ (hw.2 e)⟩
    · exact hw.elim

theorem fragOr_mono {key : Option Nat} {Q Q' : HEx → HSt → Prop} {K0 K0' : Prop} (h : ∀ e st, Q e st → Q' e st) (h0 : K0 → K0') (hw : fragOr C key st Q K0) : fragOr C key st Q' K0' := by
  unfold fragOr at hw ⊢
  split at hw
  · split at hw
    · exact lr_mono (fun _ _ hk => h _ _ hk) hw
    · exact hw.elim
  · exact h0 hw

theorem nexec_imp : ∀ {c : Code} {st : HSt} {Q Q' : HEx → HSt → Prop}, (∀ e st, Q e st → Q' e st) → nexec ex C c st Q → hexec C c st Q'
  | .skip, _, _, _, h, hw => h _ _ hw
  | .label _, _, _, _, h, hw => h _ _ hw
  | .exit _, _, _, _, h, hw => h _ _ hw
  | .ret, _, _, _, h, hw => h _ _ hw
  | .region id oa draw, st, Q, Q', h, hw => by
    unfold nexec at hw
    unfold hexec
    exact fragOr_mono h (nreg_imp h) hw
  | .seq a b, st, Q, Q', h, hw => by
    unfold nexec at hw
    unfold hexec
    refine nexec_imp (fun e st' hk => ?_) hw
    cases e with
    | normal => exact nexec_imp h hk
    | exit id => exact h _ _ hk
    | ret => exact h _ _ hk
  | .cond c a b, st, Q, Q', h, hw => by
    unfold nexec at hw
    unfold hexec
    exact fragOr_mono h (condRule_mono (fun _ hk => nexec_imp h hk) (fun _ hk => nexec_imp h hk)) hw
  | .block id c, st, Q, Q', h, hw => by
    unfold nexec at hw
    unfold hexec
    refine nexec_imp (fun e st' hk => ?_) hw
    cases e with
    | normal => exact h _ _ hk
    | exit j =>
      dsimp only at hk ⊢
      cases hj : Nat.beq j id with
      | true => rw [hj] at hk; exact h _ _ hk
      | false => rw [hj] at hk; exact h _ _ hk
    | ret => exact h _ _ hk
  | .loop body, st, Q, Q', h, hw => by
    unfold nexec at hw
    unfold hexec
    split at hw
    · rename_i an S hf
      rw [hf]
      dsimp only
      have key : ∀ (N : Nat) (st : HSt), loopU an.boxes (nexec ex C body) Q N st → loopU an.boxes (hexec C body) Q' N st := by
        intro N
        induction N with
        | zero => intro _ hN; exact hN
        | succ N ih =>
          intro st hN
          have hN : nexec ex C body (keepSt an.boxes st) _ := hN
          show hexec C body (keepSt an.boxes st) _
          refine nexec_imp (fun e st' hk => ?_) hN
          cases e with
          | normal => exact ih _ hk
          | exit id => exact h _ _ hk
          | ret => exact h _ _ hk
      exact key _ _ hw
    rename_i hun
    rw [hun]
    dsimp only
    split at hw
    · rename_i an S hf
      rw [hf]
      dsimp only
      split at hw
      · rename_i v hv
        rw [hv]
        exact lr_mono (fun _ _ hk => h _ _ hk) hw
      · exact hw.elim
    · exact hw.elim
  | .rangeFunc .., _, _, _, _, hw => hw.elim
  | .scope _, _, _, _, _, hw => hw.elim
  | .goto _, _, _, _, _, hw => hw.elim
  | .refuse _, _, _, _, _, hw => hw.elim

theorem nbodyT_imp {an : LAnn} {body : Code} {v : LV} {K : HEx → LV → Prop} (hw : nbodyT ex C an body v K) : bodyT C an body v K := nexec_imp (fun _ _ h => h) hw

theorem nfragT_imp {an : LAnn} {code : Code} {v : LV} {K : HEx → LV → Prop} (hw : nfragT ex C an code v K) : fragT C an code v K := by
  unfold nfragT at hw
  unfold fragT
  cases code with
  | region id ops draw => exact nreg_imp (fun _ _ h => h) hw
  | cond c a b =>
    have hw2 : condRule C c (inject an an.slots v) (fun st' => nexec ex C a st' (outK an K)) (fun st' => nexec ex C b st' (outK an K)) := hw
    exact condRule_mono (fun _ hk => nexec_imp (fun _ _ h => h) hk) (fun _ hk => nexec_imp (fun _ _ h => h) hk) hw2
  | _ => exact hw.elim

theorem byVG {an : LAnn} {code : Code} {v : LV} {K : HEx → LV → Prop} {V : Prop} (e : nfragT ex C an code v K = V) (h : V) : fragT C an code v K := nfragT_imp (by rw [e]; exact h)

theorem nfun_imp {fn : Func} {code : Code} {hargs : List HV} {pars : List (List HC)} {Q : Res → Prop} (hw : nfun ex C fn code hargs pars Q) : hfun C fn code hargs pars Q := by
  unfold nfun at hw
  unfold hfun
  cases hd : (Nat.ble hargs.length fn.ntmps && Nat.ble fn.ntmps 100000 && Nat.blt pars.length 500 && Nat.beq C.n fn.ntmps) with
  | false => rw [hd] at hw; exact hw.elim
  | true =>
    rw [hd] at hw
    exact nexec_imp (fun _ _ h => h) hw

theorem byVC {fn : Func} {code : Code} {hargs : List HV} {pars : List (List HC)} {Q : Res → Prop} {V : Prop} (e : nfun ex C fn code hargs pars Q = V) (h : V) : hfun C fn code hargs pars Q := nfun_imp (by rw [e]; exact h)
theorem byVB {an : LAnn} {body : Code} {v : LV} {K : HEx → LV → Prop} {V : Prop} (e : nbodyT ex C an body v K = V) (h : V) : bodyT C an body v K := nbodyT_imp (by rw [e]; exact h)
end
end Go.HL
