/-
  Part 1.
  Conditions: none.
-/
import Derived.WalkKit
import Derived.ProofKit
import Derived.OpenShut
import Derived.ShutString
import Derived.ChangeOld
import Derived.Below
import Derived.KernelRfl
import Derived.Orders
import Derived.Laws.Sem
import Derived.Test.YtaonkcjadaopgaaRows
import Derived.Test.YtaonkcjadaopgaaChecked
set_option maxRecDepth 100000
set_option maxHeartbeats 400000
set_option linter.unusedVariables false
set_option linter.unusedSimpArgs false
namespace U
def mnil:Int->Option Int:=fun _=>none
def mput(f:Int->Option Int)(k v:Int):Int->Option Int:=fun x=>if x=k then some v else f x
def optD(o:Option Int):Int:=match o with|some x=>x|none=>0
def optB(o:Option Int):Bool:=match o with|some _=>true|none=>false
end U
namespace Go.HL
open Go U
inductive HC where
 |int(k:IntKind)(n:Int)
 |num(k:IntKind)(n:Int)
 |bool(b:Bool)
 |lit(b:Bool)
 |sl(own:Bool)(ks:List Nat)(rows:List (List Int))
 |mu(ks:List Nat)(rows:List (List Int))
 |el(ks:List Nat)(row:List Int)(off:Nat)
 |ptr(r:Nat)(o:Nat)
 |nilp
 |nsl(ks:List Nat)
 |arr(ks:List Nat)(rows:List (List Int))(cap:Nat)
 |fro(ks:List Nat)(rows:List (List Int))
 |msl(r n cap:Nat)
 |pin(r:Nat)(z:Bool)(off n cap:Nat)
 |pbx(ks:List Nat)(rows:List (List Int))(z:Bool)(off cap:Nat)
 |mp(r sz i off:Nat)
 |nsls(ks:List Nat)(ll:List (List (List Int)))
 |el2(ks:List Nat)(rows:List (List Int))
 |mapv(r:Nat)
 |mpb(f:Int->Option Int)
 |str(s:ByteArray)
 |esl(ks:List Nat)
 |junk
inductive H0 where
 |ce(c:HC)
 |agg(cs:List HC)
inductive HV where
 |ce(c:HC)
 |agg(cs:List HC)
 |tup(vs:List H0)
 |zs(ks:List Nat)(rows:List (List Int))
 |junk
def kk:Nat->IntKind
 |0=> .i8|1=> .i16|2=> .i32|3=> .i64|4=> .u8|5=> .u16|6=> .u32|_=> .u64
def kcode:IntKind->Nat
 | .i8=>1| .i16=>2| .i32=>3| .i64=>4| .u8=>5| .u16=>6| .u32=>7| .u64=>8
def kval:Nat->Int->Value
 |0,n=> .bool (n !=0)
 |c+1,n=> .int (kk c) n
def kcell:Nat->Int->HC
 |0,n=> .bool (n !=0)
 |c+1,n=> .int (kk c) n
def kEq(j k:IntKind):Bool:=Nat.beq (kcode j) (kcode k)
def ksEq:List Nat->List Nat->Bool
 |[],[]=>true
 |a::l,b::m=>Nat.beq a b&&ksEq l m
 |_,_=>false
def HC.dis:HC->HC
 | .sl _ ks rows=> .sl false ks rows
 | .mu _ _=> .junk
 |x=>x
def HV.dis:HV->HV
 | .ce c=> .ce c.dis
 |v=>v
def HC.plain:HC->HC
 | .ptr _ _=> .junk
 | .el _ _ _=> .junk
 | .nilp=> .junk
 | .msl _ _ _=> .junk
 | .pin _ _ _ _ _=> .junk
 | .mp _ _ _ _=> .junk
 | .el2 _ _=> .junk
 | .mapv _=> .junk
 |x=>x
def HC.kept:HC->HC
 | .ptr r o=> .ptr r o
 | .msl r n cap=> .msl r n cap
 |x=>x.plain
def HC.nob:HC->HC
 | .ptr _ _=> .junk
 | .msl _ _ _=> .junk
 | .pin _ _ _ _ _=> .junk
 | .mp _ _ _ _=> .junk
 | .mapv _=> .junk
 |x=>x
def std:List HC->Bool
 |[]=>false
 |[.arr _ _ _]=>false
 |[.fro _ _]=>false
 |[.pbx _ _ _ _ _]=>false
 |[.mpb _]=>false
 |_=>true
def stdB:Option (List HC)->Option (List HC)
 |some cs=>bif std cs then some cs else none
 |none=>none
def HC.soft:HC->HC
 | .num k n=> .int k n
 | .lit b=> .bool b
 | .nsl ks=> .sl false ks []
 | .esl _=> .junk
 |x=>x
def HC.softB:HC->HC
 | .num k n=> .int k n
 | .lit b=> .bool b
 | .nsl ks=> .sl true ks []
 | .esl _=> .junk
 |x=>x
def HV.soft:HV->HV
 | .ce c=> .ce c.soft
 | .agg cs=> .agg (cs.map HC.soft)
 | .tup vs=> .tup vs
 | .zs ks rows=> .zs ks rows
 | .junk=> .junk
def HC.frz:HC->HC
 | .mu ks rows=> .sl true ks rows
 |x=>x
def HV.cells:HV->Option (List HC)
 | .ce c=>some [c]
 | .agg cs=>some cs
 |_=>none
def H0.hv:H0->HV
 | .ce c=> .ce c
 | .agg cs=> .agg cs
structure HSt where
 env:Nat->HV
 box:Nat->Option (List HC)
 log:Nat->List (Nat×Bool)
def upd{α:Type}(e:Nat->α)(d:Nat)(v:α):Nat->α:=fun x=>bif Nat.beq x d then v else e x
def FL(d:Nat):Nat:=100000+d
def newKey(d:Nat):Nat:=1000000+d
structure Upd where
 sets:List (Nat×HV)
 boxes:List (Nat×List HC)
def setsTo(e:Nat->HV):List (Nat×HV)->Nat->HV
 |[]=>e
 |(d,v)::r=>setsTo (upd e d v) r
def boxesTo(e:Nat->Option (List HC)):List (Nat×List HC)->Nat->Option (List HC)
 |[]=>e
 |(d,v)::r=>boxesTo (upd e d (some v)) r
def HSt.app(st:HSt)(u:Upd):HSt:={st with env:=setsTo st.env u.sets,box:=boxesTo st.box u.boxes}
def HSt.logged(st:HSt)(i:Nat)(ks:List (Nat×Bool)):HSt:={st with log:=upd st.log i ks}
def ksOf(P:Program):Nat->TypeId->Option (List Nat)
 |0,_=>none
 |f+1,t=>match P.underlying t with
  |some .bool=>some [0]
  |some (.int k)=>some [kcode k]
  |some (.struct fs)=>(fs.toList.mapM fun x=>ksOf P f x.type).map List.flatten
  |some (.array n e)=>(ksOf P f e).map fun l=>(List.replicate n l).flatten
  |_=>none
def elemKs(P:Program)(e:TypeId):Option (List Nat):=match ksOf P 12 e,P.info? e with
 |some ks,some i=>match Nat.beq i.size ks.length&&Nat.ble 1 ks.length,i.zero with
  |true,some z=>bif Nat.beq z.cells.size i.size then some ks else none
  |_,_=>none
 |_,_=>none
def zcOf(P:Program):Nat->TypeId->Option (List HC)
 |0,_=>none
 |f+1,t=>match P.underlying t with
  |some .bool=>some [.lit false]
  |some (.int k)=>some [.num k 0]
  |some (.struct fs)=>(fs.toList.mapM fun x=>zcOf P f x.type).map List.flatten
  |some (.array n e)=>(zcOf P f e).map fun l=>(List.replicate n l).flatten
  |some (.slice e)=>(elemKs P e).map fun ks=>[.nsl ks]
  |some (.pointer _)=>some [.nilp]
  |_=>none
def zmatch:HC->Value->Bool
 | .lit b, .bool c=>b==c
 | .num k n, .int j m=>Nat.beq (kcode k) (kcode j)&&n==m
 | .nsl _, .slice none 0 0=>true
 | .nilp, .pointer none=>true
 |_,_=>false
def zmatches:List HC->List Value->Bool
 |[],[]=>true
 |a::l,b::m=>zmatch a b&&zmatches l m
 |_,_=>false
def zeroCs(P:Program)(t:TypeId):Option (List HC):=match zcOf P 12 t,P.info? t with
 |some cs,some i=>match i.zero with
  |some z=>bif zmatches cs z.cells.toList&&Nat.beq i.size cs.length then some cs else none
  |none=>none
 |_,_=>none
def isAggT(P:Program)(t:TypeId):Option Bool:=match P.underlying t with
 |some (.struct _)=>some true
 |some (.array _ _)=>some true
 |some _=>some false
 |none=>none
def sizeT(P:Program)(t:TypeId):Option Nat:=(P.info? t).map (·.size)
def asVal(P:Program)(t:TypeId)(cs:List HC):Option HV:=match isAggT P t with
 |some true=>some (.agg cs)
 |some false=>match cs with
  |[c]=>some (.ce c)
  |_=>none
 |none=>none
def ofConst(P:Program)(t:TypeId):Value->HV
 | .int k n=> .ce (.num k n)
 | .bool b=> .ce (.lit b)
 | .pointer none=> .ce .nilp
 | .string s=> .ce (.str s)
 | .slice none 0 0=>match P.underlying t with
  |some (.slice e)=>match elemKs P e with
   |some ks=> .ce (.sl true ks [])
   |none=> .junk
  |_=> .ce (.nsl [])
 |_=> .junk
def evalO(P:Program)(env:Nat->HV)(t:TypeId):Operand->HV
 | .tmp d=>env d
 | .const v=>ofConst P t v
 |_=> .junk
structure Res where
 val:HV
 own:Bool
 pars:List (List HC)
 news:List (List HC)
inductive SR:Type 1 where
 |fail
 |det(pre:Prop)(r:Res)
 |all(pre:Prop)(α:Type)(p:α->Prop)(F:α->Res)
def SR.wp:SR->(Res->Prop)->Prop
 | .fail,_=>False
 | .det pre r,Q=>pre/\Q r
 | .all pre _ p F,Q=>pre/\(∃x,p x)/\∀x,p x->Q (F x)
abbrev Spec:=List HV->List (List HC)->SR
inductive OSem:Type 1 where
 |fail
 |set(u:Upd)
 |one(pre:Prop)(u:Upd)
 |alts(pre:Prop)(l:List (Prop×Upd))
 |all(pre:Prop)(α:Type)(p:α->Prop)(F:α->Upd)
def altsWp(st:HSt)(K:HSt->Prop):List (Prop×Upd)->Prop
 |[]=>True
 |[(p,u)]=>p->K (st.app u)
 |(p,u)::r=>(p->K (st.app u))/\altsWp st K r
def OSem.wp(st:HSt)(K:HSt->Prop):OSem->Prop
 | .fail=>False
 | .set u=>K (st.app u)
 | .one pre u=>pre/\K (st.app u)
 | .alts pre l=>pre/\altsWp st K l
 | .all pre _ p F=>pre/\(∃x,p x)/\∀x,p x->K (st.app (F x))
def Upd.nil:Upd:=⟨[],[]⟩
def put(d:Option Nat)(own:Bool)(v:HV):Upd:=match d with
 |none=>⟨[],[]⟩
 |some d=>match v with
  | .ce (.sl _ ks rows)=>⟨[(d, .ce (.sl false ks rows)),(FL d, .ce (.lit own))],[]⟩
  | .ce (.nsl ks)=>⟨[(d, .ce (.sl false ks [])),(FL d, .ce (.lit true))],[]⟩
  | .zs ks rows=>⟨[(d, .zs ks rows),(FL d, .ce (.lit own))],[]⟩
  | .ce (.mu _ _)=>⟨[(d, .junk)],[]⟩
  |v=>⟨[(d,v)],[]⟩
def ok(d:Option Nat)(v:HV):OSem:= .set (put d false v)
def isOwn:HV->Bool
 | .ce (.lit b)=>b
 |_=>false
def slv(z:Bool)(ks:List Nat)(rows:List (List Int)):HV:=bif z then .zs ks rows else .ce (.sl false ks rows)
def isSlv:HV->Option (Bool×List Nat×List (List Int))
 | .ce (.sl _ ks rows)=>some (false,ks,rows)
 | .zs ks rows=>some (true,ks,rows)
 |_=>none
def takeOS(env:Nat->HV)(s:Nat)(d:Option Nat)(v:HV):OSem:=match v,d with
 | .ce (.sl _ ks rows),some d=> .set ⟨[(d,slv false ks rows),(FL d, .ce (.lit (isOwn (env (FL s))))),(FL s, .ce (.lit false))],[]⟩
 | .zs ks rows,some d=> .set ⟨[(d,slv true ks rows),(FL d, .ce (.lit (isOwn (env (FL s))))),(FL s, .ce (.lit false))],[]⟩
 |v,d=>ok d v
def intRes(k:IntKind)(known:Bool)(n:Int):HV:=bif known then .ce (.num k n)else .ce (.int k n)
def boolRes(known:Bool)(b:Bool):HV:=bif known then .ce (.lit b)else .ce (.bool b)
def isNum:HC->Option (IntKind×Int×Bool)
 | .int k n=>some (k,n,false)
 | .num k n=>some (k,n,true)
 |_=>none
def isBool:HC->Option (Bool×Bool)
 | .bool b=>some (b,false)
 | .lit b=>some (b,true)
 |_=>none
def bitsOp(op:BinOp)(k:IntKind)(x y:Int):Int:=
 let a:=BitVec.ofInt k.bits x
 let b:=BitVec.ofInt k.bits y
 match op with
 | .and=>k.wrap (a&&&b).toNat
 | .or=>k.wrap (a|||b).toNat
 | .xor=>k.wrap (a^^^b).toNat
 |_=>k.wrap (a&&& ~~~b).toNat
def intBin(op:BinOp)(k:IntKind)(x:Int)(y:Int)(kn:Bool)(d:Option Nat):OSem:=match op with
 | .add=>ok d (intRes k kn (k.wrap (x+y)))
 | .sub=>ok d (intRes k kn (k.wrap (x-y)))
 | .mul=>ok d (intRes k kn (k.wrap (x*y)))
 | .quo=> .one (y≠0) (put d false (intRes k kn (k.wrap (x.tdiv y))))
 | .rem=> .one (y≠0) (put d false (intRes k kn (x.tmod y)))
 | .and=>ok d (intRes k kn (bitsOp .and k x y))
 | .or=>ok d (intRes k kn (bitsOp .or k x y))
 | .xor=>ok d (intRes k kn (bitsOp .xor k x y))
 | .andNot=>ok d (intRes k kn (bitsOp .andNot k x y))
 | .eql=>ok d (boolRes kn (x==y))
 | .neq=>ok d (boolRes kn (x !=y))
 | .lss=>ok d (boolRes kn (decide (x<y)))
 | .leq=>ok d (boolRes kn (decide (x<=y)))
 | .gtr=>ok d (boolRes kn (decide (x>y)))
 | .geq=>ok d (boolRes kn (decide (x>=y)))
 |_=> .fail
def shiftBin(op:BinOp)(k:IntKind)(x:Int)(y:Int)(kn:Bool)(d:Option Nat):OSem:=match op with
 | .shl=> .one (0<=y) (put d false (intRes k kn (k.wrap (x*2^(min y.toNat k.bits)))))
 | .shr=> .one (0<=y) (put d false (intRes k kn (x.fdiv (2^(min y.toNat k.bits)))))
 |_=> .fail
def isShift:BinOp->Bool
 | .shl| .shr=>true
 |_=>false
def unSem(op:UnOp)(a:HV)(d:Option Nat):OSem:=match a with
 | .ce x=>match op,isNum x,isBool x with
  | .neg,some (k,n,u),_=>ok d (intRes k u (k.wrap (0-n)))
  | .xor,some (k,n,u),_=>ok d (intRes k u (bitsOp .xor k (if k.signed then-1 else k.max) n))
  | .not,_,some (b,u)=>ok d (boolRes u (!b))
  |_,_,_=> .fail
 |_=> .fail
def setAt(cs:List HC)(off:Nat):List HC->List HC
 |[]=>cs
 |p::r=>setAt (cs.set off p.kept.dis) (off+1) r
def hfill(place:Nat->Option (Nat×Nat))(cells:List HC):List (Nat×HV)->Option (List HC)
 |[]=>some cells
 |(i,v)::rest=>match place i,v.cells with
  |some (off,size),some ps=>bif Nat.beq ps.length size&&Nat.ble (off+ps.length) cells.length then hfill place (setAt cells off ps) rest else none
  |_,_=>none
def fieldPlaces(P:Program)(fs:List Field):Option (List (Nat×Nat)):=fs.mapM fun f=>(sizeT P f.type).map fun s=>(f.offset,s)
def buildSem(P:Program)(t:TypeId)(parts:List (Nat×HV))(d:Option Nat):OSem:=match zeroCs P t,P.underlying t with
 |some z,some (.struct fs)=>match fieldPlaces P fs.toList with
  |some pl=>match hfill (pl[·]?) z parts with
   |some cs=>ok d (.agg cs)
   |none=> .fail
  |none=> .fail
 |some z,some (.array _ e)=>match sizeT P e with
  |some s=>match hfill (fun i=>some (i*s,s)) z parts with
   |some cs=>ok d (.agg cs)
   |none=> .fail
  |none=> .fail
 |_,_=> .fail
def rowNum:Nat->HC->Option Int
 |0,c=>(isBool c).map fun x=>cond x.1 1 0
 |k+1,c=>match isNum c with
  |some (j,n,_)=>bif Nat.beq (kcode j) (kcode (kk k))then some n else none
  |none=>none
def rowOf:List Nat->List HC->Option (List Int)
 |[],[]=>some []
 |k::ks,c::cs=>match rowNum k c,rowOf ks cs with
  |some n,some r=>some (n::r)
  |_,_=>none
 |_,_=>none
def litRows(ks:List Nat):Nat->List (Nat×HV)->Option (List (List Int))
 |_,[]=>some []
 |i,(j,v)::r=>match Nat.beq i j,v.cells with
  |true,some cs=>match rowOf ks cs,litRows ks (i+1) r with
   |some a,some b=>some (a::b)
   |_,_=>none
  |_,_=>none
def litSlices(ks:List Nat):Nat->List (Nat×HV)->Option (List (List (List Int)))
 |_,[]=>some []
 |i,(j, .ce (.sl _ ls rows))::r=>bif Nat.beq i j&&ksEq ls ks then(litSlices ks (i+1) r).map fun l=>rows::l else none
 |_,_=>none
def zero1(i:TypeInfo):Bool:=match i.zero with|some z=>Nat.beq z.cells.size 1|none=>false
def subKs(P:Program)(e:TypeId):Option (List Nat):=match P.underlying e,P.info? e with
 |some (.slice e2),some i=>bif Nat.beq i.size 1&&zero1 i then elemKs P e2 else none
 |_,_=>none
def buildSliceSem(P:Program)(t:TypeId)(n:Nat)(parts:List (Nat×HV))(d:Option Nat):OSem:=match P.underlying t with
 |some (.slice e)=>match subKs P e with
  |some ks=>bif Nat.beq parts.length n&&Nat.ble 1 n&&Nat.ble n 1000000 then match litSlices ks 0 parts with
   |some ll=>ok d (.ce (.nsls ks ll))
   |none=> .fail else .fail
  |none=>match elemKs P e with
  |some ks=>bif Nat.beq parts.length n&&Nat.ble (n*ks.length) 1000000&&d.isSome then match litRows ks 0 parts with
   |some rows=> .set (put d true (.ce (.sl true ks rows)))
   |none=> .fail else .fail
  |none=> .fail
 |_=> .fail
def emptySem(P:Program)(t:TypeId)(box:Nat->Option (List HC))(d:Option Nat):OSem:=match P.underlying t,d with
 |some (.slice e),some d=>match elemKs P e,box (newKey d)with
  |some ks,none=> .set ⟨[(d, .ce (.msl (newKey d) 0 0))],[(newKey d,[.arr ks [] 0])]⟩
  |_,_=> .fail
 |_,_=> .fail
def cut(cs:List HC)(off n:Nat):Option (List HC):=bif Nat.ble (off+n) cs.length then some ((cs.drop off).take n)else none
def eqFields(P:Program)(rec:TypeId->List HC->List HC->Option Bool)(cs ds:List HC):List Field->Option Bool
 |[]=>some true
 |f::fs=>bif f.name== "_" then none else match sizeT P f.type with
  |some n=>match cut cs f.offset n,cut ds f.offset n with
   |some a,some b=>match rec f.type a b,eqFields P rec cs ds fs with
    |some x,some r=>some (x&&r)
    |_,_=>none
   |_,_=>none
  |none=>none
def eqElems(rec:List HC->List HC->Option Bool)(s:Nat)(cs ds:List HC):Nat->Nat->Option Bool
 |_,0=>some true
 |i,n+1=>match cut cs (i*s) s,cut ds (i*s) s with
  |some a,some b=>match rec a b,eqElems rec s cs ds (i+1) n with
   |some x,some r=>some (x&&r)
   |_,_=>none
  |_,_=>none
def eqT(P:Program):Nat->TypeId->List HC->List HC->Option Bool
 |0,_,_,_=>none
 |f+1,t,cs,ds=>match P.underlying t with
  |some .bool=>match cs,ds with
   |[x],[y]=>match isBool x,isBool y with
    |some (a,_),some (b,_)=>some (a==b)
    |_,_=>none
   |_,_=>none
  |some (.int _)=>match cs,ds with
   |[x],[y]=>match isNum x,isNum y with
    |some (j,a,_),some (k,b,_)=>bif kEq j k then some (a==b)else none
    |_,_=>none
   |_,_=>none
  |some (.struct fs)=>bif P.stoodInHeld t then none else eqFields P (eqT P f) cs ds fs.toList
  |some (.array n e)=>match sizeT P e with
   |some s=>eqElems (eqT P f e) s cs ds 0 n
   |none=>none
  |_=>none
def binSem(P:Program)(op:BinOp)(xt:TypeId)(a b:HV)(d:Option Nat):OSem:=match a,b with
 | .ce x, .ce y=>match isNum x,isNum y with
  |some (k,m,u),some (j,n,v)=>bif isShift op then shiftBin op k m n (u&&v) d else bif kEq k j then intBin op k m n (u&&v) d else .fail
  |_,_=>match isBool x,isBool y,op,P.underlying xt with
   |some (m,u),some (n,v), .eql,some .bool=>ok d (boolRes (u&&v) (m==n))
   |some (m,u),some (n,v), .neq,some .bool=>ok d (boolRes (u&&v) (!(m==n)))
   |_,_,_,_=> .fail
 | .agg cs, .agg ds=>bif P.eqGuardType P.depth xt then .fail else match eqT P 12 xt cs ds,isAggT P xt,op with
  |some r,some true, .eql=>ok d (.ce (.bool r))
  |some r,some true, .neq=>ok d (.ce (.bool (!r)))
  |_,_,_=> .fail
 |_,_=> .fail
def rowCells(ks:List Nat)(row:List Int)(off n:Nat):Option (List HC):=bif Nat.ble (off+n) ks.length then some ((List.range n).map fun j=>kcell (ks.getD (off+j) 0) (row.getD (off+j) 0))else none
def loadSem(P:Program)(t:TypeId)(a:HV)(box:Nat->Option (List HC))(take fz:Bool)(d:Option Nat):OSem:=match isAggT P t,sizeT P t with
 |some ag,some n=>match a with
  | .ce (.el ks row off)=>match rowCells ks row off n with
   |some cs=>match asVal P t cs with
    |some v=>ok d v
    |none=> .fail
   |none=> .fail
  | .ce (.el2 ks rows)=>bif ag then .fail else ok d (.ce (.sl false ks rows))
  | .ce (.mp r sz i off)=>match box r with
   |some [.arr ks rows _]=>bif Nat.beq sz ks.length then(match rowCells ks (rows.getD i []) off n with
    |some cs=>match asVal P t cs with
     |some v=> .one (i<rows.length) (put d false v)
     |none=> .fail
    |none=> .fail)else .fail
   |_=> .fail
  | .ce (.ptr r o)=>match stdB (box r)with
   |some cells=>match cut cells o n with
    |some cs=>match take,fz,ag,cs,d with
     |true,false,false,[.sl own ks rows],some d=> .set ⟨[(d, .ce (.sl false ks rows)),(FL d, .ce (.lit own))],[(r,cells.set o (.sl false ks rows))]⟩
     |false,true,_,_,_=>match asVal P t (cs.map fun c=>c.frz.dis)with
      |some v=> .set {put d false v with boxes:=[(r,cells.map HC.frz)]}
      |none=> .fail
     |_,false,_,_,_=>match asVal P t (cs.map HC.dis)with
      |some v=>ok d v
      |none=> .fail
     |_,_,_,_,_=> .fail
    |none=> .fail
   |none=> .fail
  |_=> .fail
 |_,_=> .fail
def putRow(m:Nat)(row:List Int)(off:Nat)(nums:List Int):List Int:=(List.range m).map fun j=>bif Nat.ble off j&&Nat.blt j (off+nums.length)then nums.getD (j-off) 0 else row.getD j 0
def storeSem(P:Program)(env:Nat->HV)(t:TypeId)(a v:HV)(src:Option Nat)(box:Nat->Option (List HC)):OSem:=match sizeT P t,a,v.cells with
 |some n, .ce (.mp r sz i off),some cs=>match box r with
  |some [.arr ks rows cap]=>bif Nat.beq sz ks.length&&(Nat.beq cs.length n&&Nat.ble (off+n) ks.length)then match rowOf ((ks.drop off).take n) cs with
   |some nums=> .one (i<rows.length) ⟨[],[(r,[.arr ks (rows.set i (putRow ks.length (rows.getD i []) off nums)) cap])]⟩
   |none=> .fail else .fail
  |_=> .fail
 |some n, .ce (.ptr r o),some cs=>match stdB (box r)with
  |some cells=>bif Nat.beq cs.length n&&Nat.ble (o+n) cells.length then match v,src with
   | .ce (.sl _ ks rows),some s=> .set ⟨[(FL s, .ce (.lit false))],[(r,cells.set o (.sl (isOwn (env (FL s))) ks rows))]⟩
   |_,_=> .set ⟨[],[(r,setAt cells o cs)]⟩else .fail
  |none=> .fail
 |_,_,_=> .fail
def zrow:List Nat->List Int
 |[]=>[]
 |_::ks=>0::zrow ks
def isZero:Nat->Value->Bool
 |0, .bool b=> !b
 |c+1, .int k n=>kEq k (kk c)&&n==0
 |_,_=>false
def areZero:List Nat->List Value->Bool
 |[],[]=>true
 |k::ks,v::vs=>isZero k v&&areZero ks vs
 |_,_=>false
def zeroOK(P:Program)(e:TypeId)(ks:List Nat):Bool:=match P.info? e with
 |some i=>match i.zero with
  |some z=>areZero ks z.cells.toList
  |none=>false
 |none=>false
def makeSem(P:Program)(t:TypeId)(l c:HV)(box:Nat->Option (List HC))(d:Option Nat):OSem:=match P.underlying t,l,c,d with
 |some (.slice e), .ce lc, .ce cc,some d=>match elemKs P e,P.info? e,isNum lc,isNum cc,box (newKey d)with
  |some ks,some i,some (.i64,l,_),some (.i64,c,_),none=>bif zeroOK P e ks then .one (0<=l/\l=c/\l<=140737488355328/\l*(i.bytes:Int)<=140737488355328) ⟨[(d, .ce (.msl (newKey d) l.toNat l.toNat))],[(newKey d,[.arr ks (List.replicate l.toNat (zrow ks)) l.toNat])]⟩else .fail
  |_,_,_,_,_=> .fail
 |_,_,_,_=> .fail
def frzSem(box:Nat->Option (List HC))(r n:Nat)(d:Option Nat):OSem:=match box r,d with
 |some [.arr ks rows _],some d=> .one (n=rows.length) ⟨[(d, .ce (.sl false ks rows)),(FL d, .ce (.lit false))],[(r,[.fro ks rows])]⟩
 |some [.fro ks rows],some d=> .one (n=rows.length) ⟨[(d, .ce (.sl false ks rows)),(FL d, .ce (.lit false))],[(r,[.fro ks rows])]⟩
 |_,_=> .fail
def viewSem(box:Nat->Option (List HC))(r:Nat)(z:Bool)(off n cap:Nat)(d:Option Nat):OSem:=match box r,d with
 |some [.pbx ks rows z2 off2 cap2],some d=> .one ((z=z2/\off=off2/\cap=cap2)/\n<=rows.length) ⟨[(d, .ce (.sl false ks (rows.take n))),(FL d, .ce (.lit false))],[]⟩
 |_,_=> .fail
def arrOf(P:Program)(e:TypeId):Option (List HC):=match P.underlying e with
 |some (.array n e2)=>match elemKs P e2,P.info? e with
  |some ks,some i=>match i.zero with
   |some z=>bif Nat.beq z.cells.size i.size&&areZero (List.replicate n ks).flatten z.cells.toList then some [.arr ks (List.replicate n (zrow ks)) n]else none
   |none=>none
  |_,_=>none
 |_=>none
def newBox(box:Nat->Option (List HC))(d:Option Nat)(cs:List HC):OSem:=match d with
 |some d=>match box (newKey d)with
  |none=> .set ⟨[(d, .ce (.ptr (newKey d) 0))],[(newKey d,cs)]⟩
  |some _=> .fail
 |none=> .fail
def fieldSem(P:Program)(t:TypeId)(x:HV)(f:Nat)(d:Option Nat):OSem:=match P.underlying t,x with
 |some (.struct fs), .agg cs=>match fs[f]? with
  |some fl=>match sizeT P fl.type with
   |some n=>match cut cs fl.offset n with
    |some ps=>match asVal P fl.type (ps.map HC.dis)with
     |some v=>ok d v
     |none=> .fail
    |none=> .fail
   |none=> .fail
  |none=> .fail
 |_,_=> .fail
def fieldAddrSem(P:Program)(t:TypeId)(x:HV)(f:Nat)(d:Option Nat):OSem:=match P.underlying t,x with
 |some (.struct fs), .ce c=>match fs[f]? with
  |some fl=>match sizeT P fl.type with
   |some (_+1)=>match c with
    | .ptr r o=>ok d (.ce (.ptr r (o+fl.offset)))
    | .el ks row o=>ok d (.ce (.el ks row (o+fl.offset)))
    | .mp r sz i o=>ok d (.ce (.mp r sz i (o+fl.offset)))
    |_=> .fail
   |_=> .fail
  |none=> .fail
 |_,_=> .fail
def idxAlts(i:Int)(f:Nat->Upd):Nat->List (Prop×Upd)
 |0=>[]
 |n+1=>idxAlts i f n++[(i=(n:Int),f n)]
def inLen(i:Int)(len:Nat):Bool:=decide (0<=i)&&decide (i<(len:Int))
def indexAddrSem(P:Program)(t:TypeId)(x ix:HV)(d:Option Nat):OSem:=match P.underlying t,x,ix with
 |some (.array len e), .ce c, .ce ic=>match isNum ic,sizeT P e with
  |some (_,i,kn),some s=>match c with
   | .ptr r o=>bif kn then(bif inLen i len then ok d (.ce (.ptr r (o+i.toNat*s)))else .fail)else .alts (0<=i/\i<len) (idxAlts i (fun j=>put d false (.ce (.ptr r (o+j*s)))) len)
   | .el ks row o=>bif kn then(bif inLen i len then ok d (.ce (.el ks row (o+i.toNat*s)))else .fail)else .alts (0<=i/\i<len) (idxAlts i (fun j=>put d false (.ce (.el ks row (o+j*s)))) len)
   |_=> .fail
  |_,_=> .fail
 |some (.slice e), .ce (.nsls ks ll), .ce ic=>match isNum ic,sizeT P e with
  |some (_,i,_),some 1=> .one (0<=i/\i<(ll.length:Int)) (put d false (.ce (.el2 ks (ll.getD i.toNat []))))
  |_,_=> .fail
 |some (.slice e), .ce (.msl r n _), .ce ic=>match isNum ic,sizeT P e with
  |some (_,i,_),some s=> .one (0<=i/\i<(n:Int)) (put d false (.ce (.mp r s i.toNat 0)))
  |_,_=> .fail
 |some (.slice e), .ce (.sl _ ks rows), .ce ic=>match isNum ic,sizeT P e with
  |some (_,i,_),some s=>bif Nat.beq s ks.length then .one (0<=i/\i<(rows.length:Int)) (put d false (.ce (.el ks (rows.getD i.toNat []) 0)))else .fail
  |_,_=> .fail
 |_,_,_=> .fail
def arrIdxSem(P:Program)(t:TypeId)(r:Nat)(ix:HV)(d:Option Nat):OSem:=match P.underlying t,ix with
 |some (.array len e), .ce ic=>match isNum ic,sizeT P e with
  |some (_,i,_),some s=> .one (0<=i/\i<len) (put d false (.ce (.mp r s i.toNat 0)))
  |_,_=> .fail
 |_,_=> .fail
def elemFits(P:Program)(e:TypeId)(s:Nat):Bool:=match isAggT P e with
 |some true=>true
 |some false=>Nat.beq s 1
 |none=>false
def indexSem(P:Program)(t:TypeId)(x ix:HV)(d:Option Nat):OSem:=match P.underlying t,x,ix with
 |some (.array len e), .agg cs, .ce ic=>match isNum ic,sizeT P e with
  |some (_,i,kn),some s=>bif Nat.ble (len*s) cs.length&&elemFits P e s then bif kn then match asVal P e (((cs.drop (i.toNat*s)).take s).map HC.dis)with
     |some v=>bif inLen i len then ok d v else .fail
     |none=> .fail else .alts (0<=i/\i<len) (idxAlts i (fun j=>match asVal P e (((cs.drop (j*s)).take s).map HC.dis)with
     |some v=>put d false v
     |none=>put d false .junk) len)else .fail
  |_,_=> .fail
 |_,_,_=> .fail
def strAt(s:ByteArray)(j:Nat):Int:=((s.data.getD j 0).toNat:Int)
def strIdxSem(P:Program)(t:TypeId)(s:ByteArray)(ix:HV)(d:Option Nat):OSem:=match P.underlying t,ix with
 |some .string, .ce ic=>match isNum ic with
  |some (_,i,_)=> .one (0<=i/\i<(s.size:Int)) (put d false (.ce (.int .u8 (strAt s i.toNat))))
  |none=> .fail
 |_,_=> .fail
def idxSem(P:Program)(t:TypeId)(x ix:HV)(d:Option Nat):OSem:=match x with
 | .ce (.str s)=>strIdxSem P t s ix d
 |x=>indexSem P t x ix d
def sliceSem(P:Program)(env:Nat->HV)(t:TypeId)(x:HV)(src:Option Nat)(lo hi:Option HV)(d:Option Nat):OSem:=match P.underlying t,x with
 |some (.slice e), .ce (.sl _ ks rows)=>match sizeT P e with
  |some s=>bif Nat.beq s ks.length then match lo,hi with
   |some (.ce l),some (.ce h)=>match isNum l,isNum h with
    |some (_,l,_),some (_,h,_)=> .one (0<=l/\l<=h/\h<=(rows.length:Int)) (put d false (.ce (.sl false ks ((rows.take h.toNat).drop l.toNat))))
    |_,_=> .fail
   |none,some (.ce h)=>match isNum h with
    |some (_,h,_)=> .one (0<=h/\h<=(rows.length:Int)) (put d false (.ce (.sl false ks (rows.take h.toNat))))
    |_=> .fail
   |some (.ce l),none=>match isNum l with
    |some (_,l,_)=>match src,d with
     |some s,some d=> .one (0<=l/\l<=(rows.length:Int)) ⟨[(d, .ce (.sl false ks (rows.drop l.toNat))),(FL d, .ce (.lit (isOwn (env (FL s))))),(FL s, .ce (.lit false))],[]⟩
     |_,_=> .fail
    |_=> .fail
   |_,_=> .fail else .fail
  |none=> .fail
 |_,_=> .fail
def extractSem(x:HV)(i:Nat)(d:Option Nat):OSem:=match x with
 | .tup vs=>match vs[i]? with
  |some v=>ok d v.hv.dis
  |none=> .fail
 |_=> .fail
def minmax(big:Bool)(k:IntKind)(x:Int)(kn:Bool):List HV->Option (Int×Bool)
 |[]=>some (x,kn)
 | .ce c::r=>match isNum c with
  |some (j,y,v)=>bif kEq j k then minmax big k (bif big then(if y>x then y else x)else(if y<x then y else x)) (kn&&v) r else none
  |none=>none
 |_::_=>none
def lenSem(P:Program)(t:TypeId)(x:HV)(d:Option Nat):OSem:=match P.underlying t with
 |some (.slice _)=>match x with
  | .ce (.sl _ _ rows)=>ok d (.ce (.int .i64 rows.length))
  | .ce (.msl _ n _)=>ok d (.ce (.int .i64 n))
  | .ce (.esl _)=>ok d (.ce (.num .i64 0))
  | .ce (.nsls _ ll)=>ok d (.ce (.int .i64 ll.length))
  | .zs _ rows=>ok d (.ce (.int .i64 rows.length))
  |_=> .fail
 |some (.array n _)=>ok d (.ce (.num .i64 n))
 |some .string=>match x with
  | .ce (.str s)=>ok d (.ce (.int .i64 s.size))
  |_=> .fail
 |_=> .fail
def minmaxSem(big:Bool)(vals:List HV)(d:Option Nat):OSem:=match vals with
 | .ce c::r=>match isNum c with
  |some (k,x,kn)=>match minmax big k x kn r with
   |some (n,u)=>ok d (intRes k u n)
   |none=> .fail
  |none=> .fail
 |_=> .fail
def appendSem(P:Program)(t u:TypeId)(x y:HV)(env:Nat->HV)(src:Option Nat)(d:Option Nat):OSem:=match isSlv x,y with
 |some (z,ks,rows), .ce (.sl _ ls more)=>match P.underlying t,src,d with
  |some (.slice e),some s,some d=>match elemKs P e,isOwn (env (FL s)),P.info? e with
   |some es,true,some i=>bif ksEq es ks&&ksEq es ls&&Nat.beq t u then .one ((rows.length+more.length)*i.bytes<=140737488355328/\rows.length+more.length<=maxLen) ⟨[(d,slv z ks (rows++more)),(FL d, .ce (.lit true)),(FL s, .ce (.lit false))],[]⟩else .fail
   |_,_,_=> .fail
  |_,_,_=> .fail
 |_,_=> .fail
def appNewSem(P:Program)(t u:TypeId)(ks:List Nat)(y:HV)(box:Nat->Option (List HC))(d:Option Nat):OSem:=match P.underlying t,y,d with
 |some (.slice e), .ce (.sl _ ls more),some d=>match elemKs P e,P.info? e,box (newKey d)with
  |some es,some i,none=>bif ksEq es ks&&ksEq es ls&&Nat.beq t u then .all (1<=more.length/\more.length*i.bytes<=140737488355328/\more.length<=maxLen) Nat (fun x=>more.length<=x/\x<=maxLen) (fun x=>⟨[(d, .ce (.msl (newKey d) more.length x))],[(newKey d,[.arr ks more x])]⟩)else .fail
  |_,_,_=> .fail
 |_,_,_=> .fail
def appMutSem(P:Program)(t u:TypeId)(r n cap:Nat)(y:HV)(box:Nat->Option (List HC))(d:Option Nat):OSem:=match P.underlying t,y,d with
 |some (.slice e), .ce (.sl _ ls more),some d=>match elemKs P e,P.info? e,box r,box (newKey d)with
  |some es,some i,some [.arr ks rows cap2],none=>bif ksEq es ks&&ksEq es ls&&Nat.beq t u then .all (n=rows.length/\cap=cap2/\(rows.length+more.length)*i.bytes<=140737488355328/\rows.length+more.length<=maxLen) Nat (fun x=>rows.length+more.length<=x/\x<=maxLen) (fun x=>⟨[(d, .ce (.msl (newKey d) (rows.length+more.length) x))],[(r,[]),(newKey d,[.arr ks (rows++more) x])]⟩)else .fail
  |_,_,_,_=> .fail
 |_,_,_=> .fail
def appPinSem(P:Program)(t u:TypeId)(r:Nat)(z:Bool)(off n cap:Nat)(y:HV)(box:Nat->Option (List HC))(d:Option Nat):OSem:=match P.underlying t,y,d with
 |some (.slice e), .ce (.sl _ ls more),some d=>match elemKs P e,P.info? e,box r with
  |some es,some i,some [.pbx ks rows z2 off2 cap2]=>bif ksEq es ks&&ksEq es ls&&Nat.beq t u then .alts (((z=z2/\off=off2/\cap=cap2)/\n<=rows.length/\(rows.length=n∨rows=rows.take n++more))/\(n+more.length)*i.bytes<=140737488355328/\n+more.length<=maxLen) [(n+more.length<=cap,⟨[(d, .ce (.sl false ks (rows.take n++more))),(FL d, .ce (.lit false))],[(r,[.pbx ks (rows.take n++more) z off cap])]⟩),(cap<n+more.length,⟨[(d, .ce (.sl false ks (rows.take n++more))),(FL d, .ce (.lit false))],[]⟩)]else .fail
  |_,_,_=> .fail
 |_,_,_=> .fail
def builtinSem(P:Program)(b:Builtin)(ts:List TypeId)(vals:List HV)(env:Nat->HV)(fz:Bool)(box:Nat->Option (List HC))(src:Option Nat)(d:Option Nat):OSem:=match b with
 | .len=>match ts,vals with
  |[t],[x]=>lenSem P t x d
  |_,_=> .fail
 | .max=>minmaxSem true vals d
 | .min=>minmaxSem false vals d
 | .append=>match ts,vals with
  |[t,u],[x,y]=>match fz,x with
   |true, .ce (.esl ks)=>appNewSem P t u ks y box d
   |_, .ce (.msl r n cap)=>appMutSem P t u r n cap y box d
   |_, .ce (.pin r z off n cap)=>appPinSem P t u r z off n cap y box d
   |_,x=>appendSem P t u x y env src d
  |_,_=> .fail
 |_=> .fail
def memN(r:Nat):List Nat->Bool
 |[]=>false
 |s::l=>Nat.beq r s||memN r l
def rootsOf:List HV->List Nat->Option (List Nat)
 |[],acc=>some acc.reverse
 | .ce (.ptr r o)::l,acc=>bif Nat.beq o 0&& !memN r acc then rootsOf l (r::acc)else none
 | .ce (.mapv r)::l,acc=>bif !memN r acc then rootsOf l (r::acc)else none
 |_::l,acc=>rootsOf l acc
def argV:HV->HV
 | .ce c=> .ce c.nob.dis.soft
 | .agg cs=> .agg (cs.map fun c=>c.plain.soft)
 |_=> .junk
def argsTo:Nat->List HV->List HV
 |_,[]=>[]
 |j, .ce (.ptr _ _)::l=> .ce (.ptr j 0)::argsTo (j+1) l
 |j, .ce (.mapv _)::l=> .ce (.mapv j)::argsTo (j+1) l
 |j,v::l=>argV v::argsTo j l
def boxesOf(box:Nat->Option (List HC)):List Nat->Option (List (List HC))
 |[]=>some []
 |r::l=>match box r,boxesOf box l with
  |some c,some cs=>some (c::cs)
  |_,_=>none
def zipL{α β:Type}:List α->List β->List (α×β)
 |a::l,b::m=>(a,b)::zipL l m
 |_,_=>[]
def backC(roots:List Nat)(d:Nat):HC->HC
 | .ptr r o=>bif Nat.beq r 500 then .ptr (newKey d) o else match roots[r]? with
  |some s=> .ptr s o
  |none=> .junk
 | .mapv r=>bif Nat.beq r 500 then .mapv (newKey d)else match roots[r]? with
  |some s=> .mapv s
  |none=> .junk
 | .msl r n cap=>bif Nat.beq r 500 then .msl (newKey d) n cap else .junk
 | .mp _ _ _ _=> .junk
 | .pin _ _ _ _ _=> .junk
 |c=>c
def back0(roots:List Nat)(d:Nat):H0->H0
 | .ce c=> .ce (backC roots d c)
 | .agg cs=> .agg (cs.map HC.plain)
def backV(roots:List Nat)(d:Nat):HV->HV
 | .ce c=> .ce (backC roots d c)
 | .tup vs=> .tup (vs.map (back0 roots d))
 | .agg cs=> .agg (cs.map HC.plain)
 | .zs _ _=> .junk
 | .junk=> .junk
def newOf(d:Option Nat)(r:Res):List (Nat×List HC):=match d,r.news with
 |some d,[n]=>[(newKey d,n.map HC.plain)]
 |_,_=>[]
def callUpd (roots : List Nat) (d : Option Nat) (r : Res) : Upd :=
  { sets := (put d r.own (backV roots (d.getD 0) r.val)).sets
    boxes := zipL roots (r.pars.map fun l => l.map HC.plain) ++ newOf d r }
def freshB(box:Nat->Option (List HC))(d:Option Nat):Bool:=match d with
 |some d=>match box (newKey d)with
  |none=>true
  |some _=>false
 |none=>false
def resFits(n:Nat)(fresh:Bool)(r:Res):Bool:=Nat.beq r.pars.length n&&Nat.blt n 500&&(match r.news with|[]=>true|[_]=>fresh|_=>false)
def callSem(Γ:FuncId->Option Spec)(f:FuncId)(vals:List HV)(box:Nat->Option (List HC))(d:Option Nat):OSem:=match Γ f with
 |some S=>match rootsOf vals []with
  |some roots=>match boxesOf box roots with
   |some pars=>match S (argsTo 0 vals) (pars.map fun l=>l.map fun c=>c.softB.plain)with
    | .fail=> .fail
    | .det pre r=>bif resFits roots.length (freshB box d) r then .one pre (callUpd roots d r)else .fail
    | .all pre α p F=> .all (pre/\∀x,p x->resFits roots.length (freshB box d) (F x)=true) α p (fun x=>callUpd roots d (F x))
   |none=> .fail
  |none=> .fail
 |none=> .fail
def tmpOf:Operand->Option Nat
 | .tmp s=>some s
 |_=>none
def firstTmp:List Operand->Option Nat
 |x::_=>tmpOf x
 |[]=>none
def intT(P:Program)(t:TypeId):Bool:=match P.underlying t with|some (.int k)=>Nat.beq (kcode k) 4|_=>false
def zeroInt(P:Program)(t:TypeId):Bool:=intT P t&&(match P.info? t with|some i=>(match i.zero with|some (.int k n)=>Nat.beq (kcode k) 4&&n==0|_=>false)|none=>false)
def mapT(P:Program)(t:TypeId):Bool:=match P.underlying t with|some (.map k e)=>intT P k&&zeroInt P e|_=>false
def makeMapSem(P:Program)(t:TypeId)(box:Nat->Option (List HC))(d:Option Nat):OSem:=match d with
 |some d=>match box (newKey d),mapT P t with
  |none,true=> .set ⟨[(d, .ce (.mapv (newKey d)))],[(newKey d,[.mpb mnil])]⟩
  |_,_=> .fail
 |none=> .fail
def mapUpdateSem(P:Program)(t:TypeId)(m k v:HV)(box:Nat->Option (List HC)):OSem:=match m,k,v with
 | .ce (.mapv r), .ce kc, .ce vc=>match isNum kc,isNum vc,box r with
  |some (.i64,k,_),some (.i64,v,_),some [.mpb f]=>bif mapT P t then .set ⟨[],[(r,[.mpb (mput f k v)])]⟩else .fail
  |_,_,_=> .fail
 |_,_,_=> .fail
def lookupSem(P:Program)(t:TypeId)(m k:HV)(ok2:Bool)(box:Nat->Option (List HC))(d:Option Nat):OSem:=match m,k with
 | .ce (.mapv r), .ce kc=>match isNum kc,box r with
  |some (.i64,k,_),some [.mpb f]=>bif mapT P t then(bif ok2 then ok d (.tup [.ce (.int .i64 (optD (f k))), .ce (.bool (optB (f k)))])else ok d (.ce (.int .i64 (optD (f k)))))else .fail
  |_,_=> .fail
 |_,_=> .fail
def osem(P:Program)(Γ:FuncId->Option Spec)(take fz:Bool)(o:Oper)(env:Nat->HV)(box:Nat->Option (List HC)):OSem:=
 let ev:=evalO P env o.type
 match o.op with
 | .move x=>match fz,ev x with
  |true, .ce (.msl r n _)=>frzSem box r n o.dst
  |true, .ce (.pin r z off n cap)=>viewSem box r z off n cap o.dst
  |_,_=>match take,tmpOf x with
   |true,some s=>takeOS env s o.dst (ev x)
   |_,_=>match x,ev x with
    | .const _, .ce (.sl _ ks rows)=> .set (put o.dst true (.ce (.sl true ks rows)))
    |_,v=>ok o.dst v.dis
 | .assign x=>match tmpOf x with
  |some s=>takeOS env s o.dst (ev x)
  |none=>match ev x,fz with
   | .ce (.sl _ ks []),true=> .set (put o.dst true (.zs ks []))
   | .ce (.sl _ ks rows),_=> .set (put o.dst true (.ce (.sl true ks rows)))
   |v,_=>ok o.dst v.dis
 | .pick c a b=>match ev c with
  | .ce (.lit true)=>ok o.dst (ev a).dis
  | .ce (.lit false)=>ok o.dst (ev b).dis
  |_=> .fail
 | .alloc e=>bif fz then(match arrOf P e with
  |some z=>newBox box o.dst z
  |none=> .fail)
  else match zeroCs P e with
  |some z=>newBox box o.dst z
  |none=> .fail
 | .box e x=>match(ev x).cells,sizeT P e with
  |some cs,some _=>newBox box o.dst (cs.map fun c=>c.plain.dis)
  |_,_=> .fail
 | .build t parts=>buildSem P t (parts.toList.map fun p=>(p.1,ev p.2)) o.dst
 | .buildSlice t n parts=>match fz,n,parts.toList with
  |true,0,[]=>emptySem P t box o.dst
  |_,_,_=>buildSliceSem P t n (parts.toList.map fun p=>(p.1,ev p.2)) o.dst
 | .load t a=>loadSem P t (ev a) box take fz o.dst
 | .store t a v=>match o.dst with
  |none=>storeSem P env t (ev a) (ev v) (tmpOf v) box
  |some _=> .fail
 | .nilCheck x=>match ev x with
  | .ce (.ptr r k)=>ok o.dst (.ce (.ptr r k))
  | .ce (.el ks row k)=>ok o.dst (.ce (.el ks row k))
  | .ce (.mp r sz i k)=>ok o.dst (.ce (.mp r sz i k))
  |_=> .fail
 | .makeSlice t l c=>makeSem P t (ev l) (ev c) box o.dst
 | .binOp op xt x y _=>binSem P op xt (evalO P env xt x) (evalO P env xt y) o.dst
 | .unOp op _ x=>unSem op (ev x) o.dst
 | .convert s t x=>match P.underlying s,P.underlying t,ev x with
  |some _,some (.int k), .ce c=>match isNum c with
   |some (_,n,u)=>ok o.dst (intRes k u (k.wrap n))
   |none=> .fail
  |_,_,_=> .fail
 | .slice t x lo hi none=>sliceSem P env t (ev x) (tmpOf x) (lo.map ev) (hi.map ev) o.dst
 | .fieldAddr t x f=>fieldAddrSem P t (ev x) f o.dst
 | .field t x f=>fieldSem P t (ev x) f o.dst
 | .indexAddr t x i=>match ev x with
  | .ce (.ptr r k)=>match bif Nat.beq k 0 then box r else none with
   |some [.arr _ _ _]=>arrIdxSem P t r (ev i) o.dst
   |_=>indexAddrSem P t (ev x) (ev i) o.dst
  |_=>indexAddrSem P t (ev x) (ev i) o.dst
 | .makeMap t none=>makeMapSem P t box o.dst
 | .mapUpdate t m k v=>match o.dst with
  |none=>mapUpdateSem P t (ev m) (ev k) (ev v) box
  |some _=> .fail
 | .lookup t m k ok2=>lookupSem P t (ev m) (ev k) ok2 box o.dst
 | .index t x i=>match x with
  | .const (.string s)=>strIdxSem P t s (ev i) o.dst
  |x=>idxSem P t (ev x) (ev i) o.dst
 | .extract x i=>extractSem (ev x) i o.dst
 | .call {callee:= .builtin b,args,argTypes}=>builtinSem P b argTypes.toList (args.toList.map ev) env fz box (firstTmp args.toList) o.dst
 | .call {callee:= .value (.func f),args,..}=>callSem Γ f (args.toList.map ev) box o.dst
 |_=> .fail
open Go
def takesSlot(d:Nat)(o:Oper):Bool:=match o.op with
 | .assign (.tmp s)=>Nat.beq s d
 | .store _ _ (.tmp s)=>Nat.beq s d
 | .slice _ (.tmp s) _ none none=>Nat.beq s d
 | .call {callee:= .builtin .append,args,..}=>match args.toList with
  | .tmp s::_=>Nat.beq s d
  |_=>false
 |_=>false
def appendsSlot(d:Nat)(o:Oper):Bool:=match o.op with
 | .call {callee:= .builtin .append,args,..}=>match args.toList with
  | .tmp s::_=>Nat.beq s d
  |_=>false
 |_=>false
def isTake(ops:List Oper)(o:Oper):Bool:=match o.op,o.dst with
 | .move _,some d=>ops.any (takesSlot d)
 | .load _ _,some d=>ops.any (appendsSlot d)
 |_,_=>false
def srcSlots(take:Bool)(o:Oper):List Nat:=match o.op with
 | .move (.tmp s)=>bif take then[s]else[]
 | .assign (.tmp s)=>[s]
 | .store _ _ (.tmp s)=>[s]
 | .slice _ (.tmp s) _ _ _=>[s]
 | .call {callee:= .builtin _,args,..}=>match args.toList with
  | .tmp s::_=>[s]
  |_=>[]
 |_=>[]
def opTmps(o:Oper):List Nat:=o.op.operands.toList.filterMap tmpOf
def rdSlots(take:Bool)(o:Oper):List Nat:=opTmps o++(srcSlots take o).map FL
def wrSlots(take:Bool)(o:Oper):List Nat:=(match o.dst with|some d=>[d,FL d]|none=>[])++(srcSlots take o).map FL
def guardOf(ops:List Oper)(o:Oper):Option (Nat×Bool):=match o.guard with
 |none=>none
 |some (g,want)=>match(ops[g]?).bind (·.dst)with
  |some s=>some (s,want)
  |none=>none
def guardGood(ops:List Oper)(o:Oper):Bool:=match o.guard with
 |none=>true
 |some (g,_)=>((ops[g]?).bind (·.dst)).isSome
def gSlots(ops:List Oper)(o:Oper):List Nat:=match guardOf ops o with
 |some (s,_)=>[s]
 |none=>[]
def edgesOf(o:Oper):List Nat:=(o.after.toList.filter (Region.binds .any)).map (·.on)
def orMask(acc:List Nat):List Nat->Nat
 |[]=>0
 |e::r=>2^e|||acc.getD e 0|||orMask acc r
def masks:List Oper->List Nat->List Nat
 |[],acc=>acc
 |o::r,acc=>masks r (acc++[orMask acc (edgesOf o)])
def disj(a b:List Nat):Bool:=a.all fun x=> !memN x b
def apart(ops:List Oper)(x y:Oper):Bool:=
 let tx:=isTake ops x
 let ty:=isTake ops y
 disj (wrSlots tx x) (rdSlots ty y)&&disj (wrSlots tx x) (wrSlots ty y)&&disj (wrSlots tx x) (gSlots ops y)&&
 disj (wrSlots ty y) (rdSlots tx x)&&disj (wrSlots ty y) (gSlots ops x)&&
 disj (gSlots ops x) (rdSlots ty y)&&disj (gSlots ops y) (rdSlots tx x)
def allBelow(n:Nat)(p:Nat->Bool):Bool:=(List.range n).all p
def drawOK(ops:List Oper):Bool:=
 let ms:=masks ops []
 (allBelow ops.length fun j=>match ops[j]? with
  |some o=>(edgesOf o).all fun e=>Nat.blt e j
  |none=>false)&&
 (allBelow ops.length fun j=>allBelow j fun i=>(ms.getD j 0).testBit i||(match ops[i]?,ops[j]? with
  |some x,some y=>apart ops x y
  |_,_=>false))
def dstOK(n:Nat)(ops:List Oper):Bool:=Nat.ble n 100000&&ops.all fun o=>guardGood ops o&&(match o.dst with|some d=>Nat.blt d n|none=>true)&&(opTmps o).all fun t=>Nat.blt t n
def opKeys(P:Program)(take fz:Bool)(o:Oper)(env:Nat->HV):List (Nat×Bool):=
 let ev:=evalO P env o.type
 match o.op with
 | .indexAddr _ x _=>match ev x with
  | .ce (.ptr r _)=>[(r,false)]
  |_=>[]
 | .makeMap _ _=>match o.dst with
  |some d=>[(newKey d,true)]
  |none=>[]
 | .mapUpdate _ m _ _=>match ev m with
  | .ce (.mapv r)=>[(r,true)]
  |_=>[]
 | .lookup _ m _ _=>match ev m with
  | .ce (.mapv r)=>[(r,false)]
  |_=>[]
 | .load _ a=>match ev a with
  | .ce (.ptr r _)=>[(r,take||fz)]
  | .ce (.mp r _ _ _)=>[(r,false)]
  |_=>[]
 | .store _ a _=>match ev a with
  | .ce (.ptr r _)=>[(r,true)]
  | .ce (.mp r _ _ _)=>[(r,true)]
  |_=>[]
 | .move x=>match fz,ev x with
  |true, .ce (.msl r _ _)=>[(r,true)]
  |true, .ce (.pin r _ _ _ _)=>[(r,false)]
  |_,_=>[]
 | .makeSlice _ _ _=>match o.dst with
  |some d=>[(newKey d,true)]
  |none=>[]
 | .call {callee:= .builtin .append,args,..}=>match fz,(args.toList.map ev),o.dst with
  |_, .ce (.msl r _ _)::_,some d=>[(r,true),(newKey d,true)]
  |_, .ce (.pin r _ _ _ _)::_,some d=>[(r,true),(newKey d,true)]
  |true,_,some d=>[(newKey d,true)]
  |_,_,_=>[]
 | .buildSlice _ _ _=>match fz,o.dst with
  |true,some d=>[(newKey d,true)]
  |_,_=>[]
 | .alloc _=>match o.dst with
  |some d=>[(newKey d,true)]
  |none=>[]
 | .box _ _=>match o.dst with
  |some d=>[(newKey d,true)]
  |none=>[]
 | .call {callee:= .value _,args,..}=>
  (match rootsOf (args.toList.map ev) []with
   |some rs=>rs.map fun r=>(r,true)
   |none=>[])++(match o.dst with|some d=>[(newKey d,true)]|none=>[])
 |_=>[]
def isMem(o:Oper):Bool:=match o.op with
 | .load _ _| .store _ _ _| .alloc _| .box _ _| .move _| .makeSlice _ _ _| .buildSlice _ _ _| .indexAddr _ _ _| .makeMap _ _| .mapUpdate _ _ _ _| .lookup _ _ _ _=>true
 | .call {callee:= .value _,..}=>true
 | .call {callee:= .builtin .append,..}=>true
 |_=>false
def clash(a b:List (Nat×Bool)):Bool:=a.any fun x=>b.any fun y=>Nat.beq x.1 y.1&&(x.2||y.2)
def logOK(ops:List Oper)(ms:List Nat)(i:Nat)(ks:List (Nat×Bool))(log:Nat->List (Nat×Bool)):Bool:=match ks with
 |[]=>true
 |_=>allBelow ops.length fun j=>(match ops[j]? with|some o=> !isMem o|none=>true)||Nat.beq i j||(ms.getD i 0).testBit j||(ms.getD j 0).testBit i|| !clash ks (log j)
structure LAnn where
 slots:List Nat
 outs:List Nat
 boxes:List Nat
 hard:Nat->Bool
instance:Coe Bool (Nat->Bool):=⟨fun b _=>b⟩
inductive HEx where
 |normal
 |exit(id:Nat)
 |ret
abbrev LV:=List HV×List (List HC)
inductive LR:Type 1 where
 |fail
 |det(pre:Prop)(e:HEx)(v:LV)
 |alts(pre:Prop)(l:List (Prop×HEx×LV))
 |all(pre:Prop)(α:Type)(p:α->Prop)(e:α->HEx)(F:α->LV)
def lalts(Q:HEx->LV->Prop):List (Prop×HEx×LV)->Prop
 |[]=>True
 |[(p,e,v)]=>p->Q e v
 |(p,e,v)::r=>(p->Q e v)/\lalts Q r
def LR.wp(Q:HEx->LV->Prop):LR->Prop
 | .fail=>False
 | .det pre e v=>pre/\Q e v
 | .alts pre l=>pre/\lalts Q l
 | .all pre _ p e F=>pre/\∀x,p x->Q (e x) (F x)
structure Ctx where
 P:Program
 Γ:FuncId->Option Spec
 n:Nat
 loops:List (Nat×LAnn×(LV->LR))
 fz:List Nat
def isFz(C:Ctx)(o:Oper):Bool:=match o.dst with|some d=>memN d C.fz|none=>false
def skipUpd(o:Oper):Upd:=⟨match o.dst with|some d=>[(d, .tup [])]|none=>[],[]⟩
def actOf(C:Ctx)(ops:List Oper)(o:Oper)(env:Nat->HV)(box:Nat->Option (List HC)):List (Nat×Bool)×OSem:=match guardOf ops o with
 |none=>(opKeys C.P (isTake ops o) (isFz C o) o env,osem C.P C.Γ (isTake ops o) (isFz C o) o env box)
 |some (s,want)=>match env s with
  | .ce (.lit v)=>bif(bif want then v else !v)then(opKeys C.P (isTake ops o) (isFz C o) o env,osem C.P C.Γ (isTake ops o) (isFz C o) o env box)else([], .set (skipUpd o))
  | .tup []=>([], .set (skipUpd o))
  |_=>([], .fail)
def dec(s:Nat)(st:HSt)(K:HSt->Prop):Prop:=match st.env s with
 | .ce (.lit _)=>K st
 | .tup []=>K st
 | .ce (.bool b)=>(b=true->K {st with env:=upd st.env s (.ce (.lit true))})/\(b=false->K {st with env:=upd st.env s (.ce (.lit false))})
 |_=>False
def body1(C:Ctx)(draw:Bool)(ops:List Oper)(ms:List Nat)(i:Nat)(o:Oper)(st:HSt)(K:HSt->Prop):Prop:=bif draw then(bif logOK ops ms i (actOf C ops o st.env st.box).1 st.log then(actOf C ops o st.env st.box).2.wp st (fun st'=>K (st'.logged i (actOf C ops o st.env st.box).1))else False)else(actOf C ops o st.env st.box).2.wp st K
def decG(ops:List Oper)(o:Oper)(st:HSt)(K:HSt->Prop):Prop:=match guardOf ops o with
 |none=>K st
 |some (s,_)=>dec s st K
def step1(C:Ctx)(draw:Bool)(ops:List Oper)(ms:List Nat)(i:Nat)(st:HSt)(K:HSt->Prop):Prop:=match ops[i]? with
 |none=>False
 |some o=>decG ops o st (fun st'=>body1 C draw ops ms i o st' K)
def hops(C:Ctx)(draw:Bool)(ops:List Oper)(ms:List Nat):List Nat->HSt->(HSt->Prop)->Prop
 |[],st,K=>K st
 |i::r,st,K=>step1 C draw ops ms i st (fun st'=>hops C draw ops ms r st' K)
def noLog(st:HSt):HSt:={st with log:=fun _=>[]}
def ptrC(boxes:List Nat):HC->HC
 | .ptr r o=>bif memN r boxes then .ptr r o else .junk
 | .msl r n cap=>bif memN r boxes then .msl r n cap else .junk
 | .pin r z off n cap=>bif memN r boxes then .pin r z off n cap else .junk
 | .mp r s i o=>bif memN r boxes then .mp r s i o else .junk
 | .mapv r=>bif memN r boxes then .mapv r else .junk
 |c=>c
def ptrIn(boxes:List Nat):HV->HV
 | .ce c=> .ce (ptrC boxes c)
 | .agg cs=> .agg (cs.map (ptrC boxes))
 | .zs ks rows=> .zs ks rows
 |_=> .junk
def projV(hard:Bool)(boxes:List Nat)(s:Nat)(v:HV):HV:=ptrIn boxes (bif hard||Nat.ble 100000 s then v else v.soft)
def projB(hard:Bool)(boxes:List Nat)(l:List HC):List HC:=l.map fun c=>ptrC boxes (bif hard then c else c.softB)
def proj(an:LAnn)(slots:List Nat)(st:HSt):Option LV:=match boxesOf st.box an.boxes with
 |some bs=>some (slots.map fun s=>projV (an.hard s) an.boxes s (st.env s),bs.map (projB (an.hard 1000000) an.boxes))
 |none=>none
def injEnv:List Nat->List HV->Nat->HV
 |s::ss,v::vs=>upd (injEnv ss vs) s v
 |_,_=>fun _=> .junk
def injBox:List Nat->List (List HC)->Nat->Option (List HC)
 |s::ss,v::vs=>upd (injBox ss vs) s (some v)
 |_,_=>fun _=>none
def inject(an:LAnn)(slots:List Nat)(v:LV):HSt:={env:=injEnv slots v.1,box:=injBox an.boxes v.2,log:=fun _=>[]}
def loopN(B:LV->(HEx->LV->Prop)->Prop)(Q:HEx->LV->Prop):Nat->LV->Prop
 |0,_=>False
 |n+1,v=>B v (fun e v'=>match e with
  | .normal=>loopN B Q n v'
  |e=>Q e v')
def firstReg:Code->Option Nat
 | .region id _ _=>some id
 | .seq a b=>match firstReg a with
  |some i=>some i
  |none=>firstReg b
 | .block _ c=>firstReg c
 | .loop c=>firstReg c
 | .scope c=>firstReg c
 | .cond _ a b=>match firstReg a with
  |some i=>some i
  |none=>firstReg b
 |_=>none
def findAnn:List (Nat×LAnn×(LV->LR))->Nat->Option (LAnn×(LV->LR))
 |[],_=>none
 |(k,a)::r,i=>bif Nat.beq k i then some a else findAnn r i
def condOK(n:Nat)(c:Operand):Bool:=Nat.ble n 100000&&(match c with| .tmp t=>Nat.blt t n|_=>true)
def condSt(c:Operand)(b:Bool)(st:HSt):HSt:=match c with
 | .tmp s=>{st with env:=upd st.env s (.ce (.lit b))}
 |_=>st
def splLits:Nat->List Int
 |1=>[-1,1]
 |2=>[0,1]
 |3=>[0,1,2]
 |4=>[0,1,2,3]
 |5=>[-1,0,1]
 |6=>[0,1,2]
 |_=>[]
def spl(region box cell kind:Nat):Nat:=((region*10000000+box)*100+cell)*10+kind+1000000000000000
def setBox(st:HSt)(r:Nat)(cells:List HC):HSt:={st with box:=upd st.box r (some cells)}
def splCases(v:Int)(K0:Prop)(K:Int->Prop):List Int->Prop
 |[]=>K0
 |c::r=>(v=c->K c)/\(v≠c->splCases v K0 K r)
def opnKey(b j:Nat):Nat:=20000000+b*100+j
def frzSlot(s:Nat)(st:HSt)(K:HSt->Prop):Prop:=match st.env s with
 | .ce (.msl r n _)=>(match st.box r with
  |some [.arr ks rows _]=>bif Nat.blt s 100000 then n=rows.length/\K {st with env:=upd (upd st.env s (.ce (.sl false ks rows))) (FL s) (.ce (.lit false)),box:=upd st.box r (some [.fro ks rows])}else False
  |_=>False)
 |_=>False
def splSlot(s kind:Nat)(st:HSt)(K:HSt->Prop):Prop:=match st.env s with
 | .ce (.int k v)=>bif Nat.blt s 100000 then splCases v False (fun c=>K {st with env:=upd st.env s (.ce (.num k c))}) (splLits kind)else False
 |_=>False
def pinSlot(s:Nat)(st:HSt)(K:HSt->Prop):Prop:=match st.env s,st.box (newKey s)with
 | .ce (.sl _ ks rows),none=>bif Nat.blt s 100000&&isOwn (st.env (FL s))then∀x:Bool×Nat×Nat,rows.length<=x.2.2/\x.2.2<=maxLen->K {st with env:=upd (upd st.env s (.ce (.pin (newKey s) x.1 x.2.1 rows.length x.2.2))) (FL s) (.ce (.lit false)),box:=upd st.box (newKey s) (some [.pbx ks rows x.1 x.2.1 x.2.2])}else False
 |_,_=>False
def splCell(b j kind:Nat)(st:HSt)(K:HSt->Prop):Prop:=bif Nat.beq kind 0 then(bif Nat.beq j 0 then frzSlot b st K else bif Nat.beq j 99 then pinSlot b st K else splSlot b j st K)else match st.box b with
 |some cells=>(match kind,cells[j]? with
  |9,some (.nsl ks)=>bif std cells then K (setBox st b (cells.set j (.mu ks [])))else False
  |8,some (.mu ks rows)=>bif std cells then(match st.box (opnKey b j)with
   |none=>(rows.length=0->K (setBox st b (cells.set j (.esl ks))))/\(0<rows.length->∀cap:Nat,rows.length<=cap/\cap<=maxLen->K (setBox (setBox st b (cells.set j (.msl (opnKey b j) rows.length cap))) (opnKey b j) [.arr ks rows cap]))
   |some _=>False)else False
  |7,some (.msl r n cap)=>bif std cells&& !Nat.beq r b then(match st.box r with
   |some [.arr ks rows cap2]=>(n=rows.length/\cap=cap2/\0<rows.length)/\K (setBox (setBox st b (cells.set j (.mu ks rows))) r [])
   |_=>False)else False
  |_,some (.int k v)=>splCases v (bif Nat.beq kind 6 then False else K st) (fun c=>K (setBox st b (cells.set j (.num k c)))) (splLits kind)
  |_,_=>K st)
 |none=>K st
def splAll:List Nat->Nat->HSt->(HSt->Prop)->Prop
 |[],_,st,K=>K st
 |e::r,id,st,K=>bif Nat.beq (e/10000000000) (100000+id)then splCell (e/1000%10000000) (e/10%100) (e%10) st (fun st'=>splAll r id st' K)else splAll r id st K
def condKey(a b:Code):Option Nat:=match firstReg a with
 |some i=>some (2000000+i)
 |none=>(firstReg b).map (2000000+ ·)
def fragOr(C:Ctx)(key:Option Nat)(st:HSt)(Q:HEx->HSt->Prop)(K0:Prop):Prop:=match key.bind (findAnn C.loops)with
 |some (an,S)=>match proj an an.slots st with
  |some v=>(S v).wp (fun e v'=>Q e (inject an an.outs v'))
  |none=>False
 |none=>K0
def hreg(C:Ctx)(id:Nat)(ops:Array Oper)(draw:Bool)(st:HSt)(Q:HEx->HSt->Prop):Prop:=splAll C.fz id st (fun st=>bif dstOK C.n ops.toList&&(!draw||drawOK ops.toList)then hops C draw ops.toList (bif draw then masks ops.toList []else[]) (List.range ops.size) (noLog st) (fun st'=>Q .normal st')else False)
def condRule(C:Ctx)(c:Operand)(st:HSt)(Ka Kb:HSt->Prop):Prop:=bif condOK C.n c then(match evalO C.P st.env 0 c with
  | .ce (.lit true)=>Ka st
  | .ce (.lit false)=>Kb st
  | .ce (.bool t)=>(t=true->Ka (condSt c true st))/\(t=false->Kb (condSt c false st))
  |_=>False)else False
def keepC(boxes:List Nat):Option (List HC)->Option (List HC)
 |some cs=>some (cs.map (ptrC boxes))
 |none=>none
def keepSt(boxes:List Nat)(st:HSt):HSt:={env:=fun s=>ptrIn boxes (st.env s),box:=fun r=>bif memN r boxes then keepC boxes (st.box r)else none,log:=fun _=>[]}
def loopU(boxes:List Nat)(B:HSt->(HEx->HSt->Prop)->Prop)(Q:HEx->HSt->Prop):Nat->HSt->Prop
 |0,_=>False
 |n+1,st=>B (keepSt boxes st) (fun e st'=>match e with
  | .normal=>loopU boxes B Q n st'
  |e=>Q e st')
def unrKey(body:Code):Option Nat:=(firstReg body).map (4000000+ ·)
def hexec(C:Ctx):Code->HSt->(HEx->HSt->Prop)->Prop
 | .skip,st,Q=>Q .normal st
 | .label _,st,Q=>Q .normal st
 | .exit id,st,Q=>Q (.exit id) st
 | .ret,st,Q=>Q .ret st
 | .region id ops draw,st,Q=>fragOr C (some (3000000+id)) st Q (hreg C id ops draw st Q)
 | .seq a b,st,Q=>hexec C a st (fun e st'=>match e with
  | .normal=>hexec C b st' Q
  |e=>Q e st')
 | .cond c a b,st,Q=>fragOr C (condKey a b) st Q (condRule C c st (fun st'=>hexec C a st' Q) (fun st'=>hexec C b st' Q))
 | .block id c,st,Q=>hexec C c st (fun e st'=>match e with
  | .exit j=>bif Nat.beq j id then Q .normal st' else Q (.exit j) st'
  |e=>Q e st')
 | .loop body,st,Q=>match(unrKey body).bind (findAnn C.loops)with
  |some (an,_)=>loopU an.boxes (hexec C body) Q (an.outs.headD 0) st
  |none=>match(firstReg body).bind (findAnn C.loops)with
   |some (an,S)=>match proj an an.slots st with
    |some v=>(S v).wp (fun e v'=>Q e (inject an an.outs v'))
    |none=>False
   |none=>False
 | .scope c,st,Q=>hexec C c st Q
 |_,_,_=>False
def bodyT(C:Ctx)(an:LAnn)(body:Code)(v:LV)(K:HEx->LV->Prop):Prop:=hexec C body (inject an an.slots v) (fun e st'=>match e with
  | .normal=>(match proj an an.slots st' with
   |some v'=>K .normal v'
   |none=>False)
  |e=>match proj an an.outs st' with
   |some v'=>K e v'
   |none=>False)
def hloop(C:Ctx)(an:LAnn)(body:Code)(v:LV)(Q:HEx->LV->Prop):Prop:=∃n,loopN (bodyT C an body) Q n v
def outK(an:LAnn)(K:HEx->LV->Prop):HEx->HSt->Prop:=fun e st'=>match proj an an.outs st' with
 |some v'=>K e v'
 |none=>False
def frag1(C:Ctx):Code->HSt->(HEx->HSt->Prop)->Prop
 | .region id ops draw,st,Q=>hreg C id ops draw st Q
 | .cond c a b,st,Q=>condRule C c st (fun st'=>hexec C a st' Q) (fun st'=>hexec C b st' Q)
 |_,_,_=>False
def fragT(C:Ctx)(an:LAnn)(code:Code)(v:LV)(K:HEx->LV->Prop):Prop:=frag1 C code (inject an an.slots v) (outK an K)
def codeKey:Code->Option Nat
 | .region id _ _=>some (3000000+id)
 | .cond _ a b=>condKey a b
 |_=>none
def FragOK(C:Ctx)(c:Code):Prop:=∀an S,(codeKey c).bind (findAnn C.loops)=some (an,S)->∀v Q,(S v).wp Q->fragT C an c v Q
def LoopsOK(C:Ctx):Code->Prop
 | .region id ops draw=>FragOK C (.region id ops draw)
 | .seq a b=>LoopsOK C a/\LoopsOK C b
 | .cond c a b=>LoopsOK C a/\LoopsOK C b/\FragOK C (.cond c a b)
 | .block _ c=>LoopsOK C c
 | .scope c=>LoopsOK C c
 | .loop c=>LoopsOK C c/\∀an S,(firstReg c).bind (findAnn C.loops)=some (an,S)->∀v Q,(S v).wp Q->hloop C an c v Q
 |_=>True
def outC(np:Nat)(box:Nat->Option (List HC)):HC->Option (HC×List (List HC))
 | .ptr r o=>bif Nat.blt r np then some (.ptr r o,[])else match box r with
  |some cs=>bif Nat.beq o 0 then some (.ptr 500 0,[(cs.map HC.frz).map HC.plain])else none
  |none=>none
 | .mapv r=>bif Nat.blt r np then some (.mapv r,[])else match box r with
  |some cs=>some (.mapv 500,[(cs.map HC.frz).map HC.plain])
  |none=>none
 | .el _ _ _=>none
 | .el2 _ _=>none
 | .msl _ _ _=>none
 | .pin _ _ _ _ _=>none
 | .mp _ _ _ _=>none
 |c=>some (c,[])
def resultOf(np:Nat)(st:HSt):ResultVar->Option (H0×Bool×List (List HC))
 | .tmp t=>bif Nat.blt t 100000 then(match st.env t with
  | .ce c=>(outC np st.box c).map fun x=>(.ce x.1,isOwn (st.env (FL t)),x.2)
  | .agg cs=>some (.agg (cs.map HC.plain),false,[])
  |_=>none)else none
 | .cell _ _=>none
def resultsOf(np:Nat)(st:HSt):List ResultVar->Option (List (H0×Bool×List (List HC)))
 |[]=>some []
 |r::l=>match resultOf np st r,resultsOf np st l with
  |some a,some b=>some (a::b)
  |_,_=>none
def parsOut(box:Nat->Option (List HC))(n:Nat):Option (List (List HC)):=(boxesOf box (List.range n)).map fun l=>l.map fun c=>c.map HC.plain
def mkRes(pars:List (List HC)):List (H0×Bool×List (List HC))->Option Res
 |[(v,own,news)]=>some ⟨v.hv,own,pars,news⟩
 |l=>let news:=(l.map fun x=>x.2.2).flatten
  bif Nat.ble news.length 1 then some ⟨.tup (l.map fun x=>match x.1 with| .ce c=> .ce c.dis|v=>v),false,pars,news⟩else none
def argEnv:Nat->List HV->Nat->HV
 |_,[]=>fun _=> .junk
 |i,v::l=>upd (argEnv (i+1) l) i v
def parBox(pars:List (List HC)):Nat->Option (List HC):=fun r=>pars[r]?
def cellRes(P:Program)(np:Nat)(st:HSt)(a:Nat)(t:TypeId):Option HV:=match st.env a with
 | .ce (.ptr r o)=>bif Nat.beq o 0&&Nat.ble np r&&Nat.blt a 100000 then(match stdB (st.box r),sizeT P t with
  |some cells,some m=>bif Nat.beq m cells.length then asVal P t (cells.map fun c=>c.frz.dis.plain)else none
  |_,_=>none)else none
 |_=>none
def softSt(st:HSt):HSt:=
  {st with
    env:=fun s=>bif Nat.ble 100000 s then st.env s else(st.env s).soft
    box:=fun r=>match st.box r with
      |some l=>some (l.map HC.softB)
      |none=>none}
def cellVal(P:Program)(st:HSt)(a:Nat)(t:TypeId):Option H0:=match st.env a with
 | .ce (.ptr r o)=>bif Nat.beq o 0&&Nat.blt a 100000 then(match stdB (st.box r),sizeT P t with
  |some cells,some m=>bif Nat.beq m cells.length then(match asVal P t (cells.map fun c=>c.dis.plain)with
   |some (.ce c)=>some (.ce c)
   |some (.agg cs)=>some (.agg cs)
   |_=>none)else none
  |_,_=>none)else none
 |_=>none
def multiOf(P:Program)(st:HSt):ResultVar->Option H0
 | .tmp t=>bif Nat.blt t 100000 then(match st.env t with
  | .ce c=>some (.ce c.dis.plain)
  | .agg cs=>some (.agg (cs.map HC.plain))
  |_=>none)else none
 | .cell a t=>cellVal P st a t
def multisOf(P:Program)(st:HSt):List ResultVar->Option (List H0)
 |[]=>some []
 |r::l=>match multiOf P st r,multisOf P st l with
  |some a,some b=>some (a::b)
  |_,_=>none
def hasCell(rs:List ResultVar):Bool:=Nat.blt 1 rs.length&&rs.any fun r=>match r with| .cell _ _=>true| .tmp _=>false
def retOf(P:Program)(np:Nat)(st:HSt)(rs:List ResultVar):Option Res:=match rs with
 |[.cell a t]=>match cellRes P np st a t,parsOut st.box np with
  |some v,some ps=>some ⟨v,false,ps,[]⟩
  |_,_=>none
 |rs=>bif hasCell rs then(match multisOf P st rs,parsOut st.box np with
  |some l,some ps=>some ⟨.tup l,false,ps,[]⟩
  |_,_=>none)else(match resultsOf np st rs,parsOut st.box np with
   |some l,some ps=>mkRes ps l
   |_,_=>none)
def zOf(np:Nat)(st:HSt):List ResultVar->Option (List Nat×List (List Int))
 |[.tmp t]=>match st.env t,isOwn (st.env (FL t)),np with
  | .zs ks rows,true,0=>bif Nat.blt t 100000 then some (ks,rows)else none
  |_,_,_=>none
 |_=>none
def ansOf(P:Program)(np:Nat)(st:HSt)(rs:List ResultVar)(Q:Res->Prop):Prop:=match zOf np st rs with
 |some (ks,rows)=>(rows.length=0->Q ⟨.ce (.sl false ks []),false,[],[[]]⟩)/\(0<rows.length->∀cap:Nat,rows.length<=cap/\cap<=maxLen->Q ⟨.ce (.msl 500 rows.length cap),false,[],[[.arr ks rows cap]]⟩)
 |none=>match retOf P np (softSt st) rs with
  |some r=>Q r
  |none=>False
def hfun(C:Ctx)(fn:Func)(code:Code)(hargs:List HV)(pars:List (List HC))(Q:Res->Prop):Prop:=bif Nat.ble hargs.length fn.ntmps&&Nat.ble fn.ntmps 100000&&Nat.blt pars.length 500&&Nat.beq C.n fn.ntmps then hexec C code {env:=argEnv 0 hargs,box:=parBox pars,log:=fun _=>[]} (fun e st=>match e with
   | .exit _=>False
   |_=>ansOf C.P pars.length st fn.results.toList Q)else False
inductive Loc where
 |tmp(d:Nat)
 |cell(r o:Nat)
 |box(r:Nat)
 |res
structure Ghost where
 imm:Nat->Nat->Prop
 beta:Nat->Option Nat
 owner:Nat->Option Loc
def at_(b o:Nat):Addr:=⟨b,o,none⟩
theorem at_add(b o n:Nat):(at_ b o).add n=at_ b (o+n):=by
 unfold Addr.add at_;split<;>simp_all
def ImmC(G:Ghost)(w:World)(b o:Nat)(v:Value):Prop:=G.imm b o/\w.cell? (at_ b o)=some v
def Spare(G:Ghost)(w:World)(L:Loc)(b off n cap sz:Nat):Prop:=G.owner b=some L/\∃cur E,w.heap[b]?=some (.cells cur E (0,0))/\off+cap*sz<=cur.size/\∀x,off+n*sz<=x->x<off+cap*sz->¬G.imm b x
def SRel(G:Ghost)(w:World)(L:Option Loc)(ks:List Nat)(rows:List (List Int))(v:Value):Prop:=∃a cap,v= .slice a rows.length cap/\rows.length<=cap/\cap<=maxLen/\(((L=none∨a=none)/\rows.length=0/\cap=0)∨∃b off,a=some (at_ b off)/\(∀i j,i<rows.length->j<ks.length->ImmC G w b (off+(i*ks.length+j)) (kval (ks.getD j 0) ((rows.getD i []).getD j 0)))/\∀Lc,L=some Lc->Spare G w Lc b off rows.length cap ks.length)
def MRel(G:Ghost)(w:World)(L:Loc)(ks:List Nat)(rows:List (List Int))(v:Value):Prop:=∃a cap,v= .slice a rows.length cap/\rows.length<=cap/\cap<=maxLen/\((a=none/\rows.length=0/\cap=0)∨∃b,a=some (at_ b 0)/\G.owner b=some L/\(∀x,¬G.imm b x)/\0<rows.length/\∃cur E,w.heap[b]?=some (.cells cur E (0,0))/\cap*ks.length<=cur.size/\∀i j,i<rows.length->j<ks.length->cur[i*ks.length+j]?=some (kval (ks.getD j 0) ((rows.getD i []).getD j 0)))
def NRel(G:Ghost)(w:World)(ks:List Nat)(ll:List (List (List Int)))(v:Value):Prop:=∃b off cap,v= .slice (some (at_ b off)) ll.length cap/\∀i,i<ll.length->∃u,ImmC G w b (off+i) u/\SRel G w none ks (ll.getD i []) u
def CRel(G:Ghost)(w:World)(L:Option Loc):HC->Value->Prop
 | .int k n,v=>v= .int k n
 | .num k n,v=>v= .int k n
 | .bool b,v=>v= .bool b
 | .lit b,v=>v= .bool b
 | .sl _ ks rows,v=>SRel G w L ks rows v
 | .mu _ _,_=>False
 | .el ks row off,v=>∃b o,v= .pointer (some (at_ b o))/\∀j,off+j<ks.length->ImmC G w b (o+j) (kval (ks.getD (off+j) 0) (row.getD (off+j) 0))
 | .ptr r o,v=>∃b,G.beta r=some b/\v= .pointer (some (at_ b o))
 | .nilp,v=>v= .pointer none
 | .nsl _,v=>v= .slice none 0 0
 | .arr _ _ _,_=>False
 | .fro _ _,_=>False
 | .msl r n cap,v=>∃b,G.beta r=some b/\v= .slice (some (at_ b 0)) n cap/\n<=cap/\cap<=maxLen
 | .pin r z off n cap,v=>∃b,G.beta r=some b/\v= .slice (bif z then none else some (at_ b off)) n cap
 | .pbx _ _ _ _ _,_=>False
 | .mp r sz i o,v=>∃b,G.beta r=some b/\v= .pointer (some (at_ b (i*sz+o)))
 | .nsls ks ll,v=>NRel G w ks ll v
 | .el2 ks rows,v=>∃b o u,v= .pointer (some (at_ b o))/\ImmC G w b o u/\SRel G w none ks rows u
 | .mapv r,v=>∃b,G.beta r=some b/\v= .map (some b)
 | .mpb _,_=>False
 | .str s,v=>v= .string s
 | .esl _,v=>∃a,v= .slice a 0 0
 | .junk,v=>v.oneCell'=true
def BRel(G:Ghost)(w:World)(r o:Nat):HC->Value->Prop
 | .mu ks rows,v=>MRel G w (.cell r o) ks rows v
 | .sl own ks rows,v=>SRel G w (bif own then some (.cell r o)else none) ks rows v
 |c,v=>CRel G w none c v
def BoxAt0(G:Ghost)(w:World)(r:Nat)(cells:List HC):Prop:=∃(b:Nat)(vs:Array Value)(T:TypeId),G.beta r=some b/\G.owner b=some (.box r)/\w.heap[b]?=some (.cells vs T (0,0))/\(∀o,¬G.imm b o)/\vs.size=cells.length/\∀(j:Nat)(c:HC),cells[j]?=some c->∃v,vs[j]?=some v/\BRel G w r j c v
def ArrAt(G:Ghost)(w:World)(r:Nat)(ks:List Nat)(rows:List (List Int))(cap:Nat):Prop:=∃(b:Nat)(vs:Array Value)(T:TypeId),G.beta r=some b/\G.owner b=some (.box r)/\w.heap[b]?=some (.cells vs T (0,0))/\(∀o,¬G.imm b o)/\(rows.length<=cap/\cap*ks.length<=vs.size)/\∀i j,i<rows.length->j<ks.length->vs[i*ks.length+j]?=some (kval (ks.getD j 0) ((rows.getD i []).getD j 0))
def FroAt(G:Ghost)(w:World)(r:Nat)(ks:List Nat)(rows:List (List Int)):Prop:=∃b,G.beta r=some b/\∀i j,i<rows.length->j<ks.length->ImmC G w b (i*ks.length+j) (kval (ks.getD j 0) ((rows.getD i []).getD j 0))
def PinAt(G:Ghost)(w:World)(r:Nat)(ks:List Nat)(rows:List (List Int))(z:Bool)(off cap:Nat):Prop:=∃b,G.beta r=some b/\rows.length<=cap/\cap<=maxLen/\((z=true/\rows.length=0/\cap=0)∨(z=false/\(∀i j,i<rows.length->j<ks.length->ImmC G w b (off+(i*ks.length+j)) (kval (ks.getD j 0) ((rows.getD i []).getD j 0)))/\Spare G w (.box r) b off rows.length cap ks.length))
def keyI(e:MapEntry):Option Int:=match e.key with
 | .int .i64 j=>some j
 |_=>none
def mget:List MapEntry->Int->Option Value
 |[],_=>none
 |e::l,k=>if keyI e=some k then some e.val else mget l k
def MapOK(es:List MapEntry)(f:Int->Option Int):Prop:=(∀e∈es,∃k n,e.key= .int .i64 k/\e.val= .int .i64 n)/\∀k,mget es k=(f k).map (Value.int .i64)
def MapAt(G:Ghost)(w:World)(r:Nat)(f:Int->Option Int):Prop:=∃(b:Nat)(es:Array MapEntry)(clk:Nat),G.beta r=some b/\G.owner b=some (.box r)/\w.heap[b]?=some (.map es clk)/\(∀o,¬G.imm b o)/\MapOK es.toList f
def BoxAt(G:Ghost)(w:World)(r:Nat)(cells:List HC):Prop:=BoxAt0 G w r cells∨(∃ks rows cap,cells=[.arr ks rows cap]/\ArrAt G w r ks rows cap)∨(cells=[]/\∃b,G.beta r=some b)∨(∃f,cells=[.mpb f]/\MapAt G w r f)∨(∃ks rows,cells=[.fro ks rows]/\FroAt G w r ks rows)∨∃ks rows z off cap,cells=[.pbx ks rows z off cap]/\PinAt G w r ks rows z off cap
def ARel(G:Ghost)(w:World)(cs:List HC)(v:Value):Prop:=∃vs:Array Value,v= .agg vs/\vs.size=cs.length/\∀(j:Nat)(c:HC),cs[j]?=some c->∃u,vs[j]?=some u/\CRel G w none c u
def H0Rel(G:Ghost)(w:World):H0->Value->Prop
 | .ce c,v=>CRel G w none c v
 | .agg cs,v=>ARel G w cs v
def ZOff(v:Value):Prop:=∀b o n c,v= .slice (some (at_ b o)) n c->o=0
def VRel(G:Ghost)(w:World)(L:Option Loc):HV->Value->Prop
 | .ce c,v=>CRel G w L c v
 | .agg cs,v=>ARel G w cs v
 | .tup hs,v=>∃vs:Array Value,v= .tuple vs/\vs.size=hs.length/\∀(j:Nat)(h:H0),hs[j]?=some h->∃u,vs[j]?=some u/\H0Rel G w h u
 | .zs ks rows,v=>SRel G w L ks rows v/\ZOff v
 | .junk,_=>True
def flagL(env:Nat->HV)(d:Nat):Option Loc:=bif isOwn (env (FL d))then some (.tmp d)else none
structure Mem(G:Ghost)(bx:Nat->Option (List HC))(w:World):Prop where
 box:∀r cells,bx r=some cells->BoxAt G w r cells
 beta:∀r b,G.beta r=some b->∃cells,bx r=some cells
 own:∀b L,G.owner b=some L->b<w.heap.size
 imm:∀b o,G.imm b o->b<w.heap.size
structure Rel(n:Nat)(G:Ghost)(st:HSt)(a:Act)(w:World):Prop where
 defers:a.defers=[]
 size:a.tmps.size=n
 env:∀d,d<100000->VRel G w (flagL st.env d) (st.env d) (a.tmps.getD d undef)
 mem:Mem G st.box w
structure Evolves(G:Ghost)(w:World)(G':Ghost)(w':World):Prop where
 os:w'.os=w.os
 tape:w'.tape=w.tape
 output:w'.output=w.output
 size:w.heap.size<=w'.heap.size
 imm:∀b o,G.imm b o->G'.imm b o/\w'.cell? (at_ b o)=w.cell? (at_ b o)
 foreign:∀b,b<w.heap.size->G.owner b=none->G'.owner b=none/\w'.heap[b]?=w.heap[b]?/\∀o,G'.imm b o->G.imm b o
 beta:∀r b,r<500->G'.beta r=some b->G.beta r=some b
theorem Evolves.refl(G:Ghost)(w:World):Evolves G w G w:=⟨rfl,rfl,rfl,Nat.le_refl _,fun _ _ h=>⟨h,rfl⟩,fun _ _ h=>⟨h,rfl,fun _ h=>h⟩,fun _ _ _ h=>h⟩
theorem Evolves.trans{G G' G'':Ghost}{w w' w'':World}(h:Evolves G w G' w')(k:Evolves G' w' G'' w''):Evolves G w G'' w'':=
 ⟨k.os.trans h.os,k.tape.trans h.tape,k.output.trans h.output,Nat.le_trans h.size k.size,
  fun b o hi=>⟨(k.imm b o (h.imm b o hi).1).1,(k.imm b o (h.imm b o hi).1).2.trans (h.imm b o hi).2⟩,
  fun b hb ho=>
   let⟨h1,h2,h3⟩:=h.foreign b hb ho
   let⟨k1,k2,k3⟩:=k.foreign b (Nat.lt_of_lt_of_le hb h.size) h1
   ⟨k1,k2.trans h2,fun o hi=>h3 o (k3 o hi)⟩,
  fun r b hr hb=>h.beta r b hr (k.beta r b hr hb)⟩
structure Pres(G:Ghost)(w:World)(G':Ghost)(w':World)(ok:Loc->Prop):Prop where
 imm:∀b o,G.imm b o->G'.imm b o/\w'.cell? (at_ b o)=w.cell? (at_ b o)
 beta:∀r b,G.beta r=some b->G'.beta r=some b
 own:∀b L,ok L->G.owner b=some L->G'.owner b=some L/\w'.heap[b]?=w.heap[b]?/\∀o,G'.imm b o->G.imm b o
theorem Pres.refl(G:Ghost)(w:World)(ok:Loc->Prop):Pres G w G w ok:=⟨fun _ _ h=>⟨h,rfl⟩,fun _ _ h=>h,fun _ _ _ h=>⟨h,rfl,fun _ h=>h⟩⟩
section
variable {G G' : Ghost} {w w' : World} {ok : Loc -> Prop}
theorem ImmC.pres(hp:Pres G w G' w' ok){b o:Nat}{v:Value}(h:ImmC G w b o v):ImmC G' w' b o v:=⟨(hp.imm b o h.1).1,(hp.imm b o h.1).2.trans h.2⟩
theorem Spare.pres(hp:Pres G w G' w' ok){L:Loc}(hL:ok L){b off n cap sz:Nat}(h:Spare G w L b off n cap sz):Spare G' w' L b off n cap sz:=by
 obtain⟨h1,cur,E,h2,h3,h4⟩:=h;obtain⟨p1,p2,p3⟩:=hp.own b L hL h1;exact⟨p1,cur,E,p2.trans h2,h3,fun x hx hx2 hi=>h4 x hx hx2 (p3 x hi)⟩
theorem SRel.pres(hp:Pres G w G' w' ok){L:Option Loc}(hL:∀Lc,L=some Lc->ok Lc){ks:List Nat}{rows:List (List Int)}{v:Value}(h:SRel G w L ks rows v):SRel G' w' L ks rows v:=by
 obtain⟨a,cap,hv,hc,hm,h⟩:=h;refine⟨a,cap,hv,hc,hm,?_⟩;rcases h with h|⟨b,off,ha,hi,hs⟩
 . exact .inl h
 . exact .inr ⟨b,off,ha,fun i j h1 h2=>(hi i j h1 h2).pres hp,fun Lc he=>(hs Lc he).pres hp (hL Lc he)⟩
theorem nilCase{L L':Option Loc}{a:Option Addr}{x y:Prop}(h:(L=none∨a=none)/\x/\y)(hL:L≠none):(L'=none∨a=none)/\x/\y:=⟨.inr (h.1.resolve_left hL),h.2⟩
theorem SRel.drop{L:Option Loc}{ks:List Nat}{rows:List (List Int)}{v:Value}(h:SRel G w L ks rows v):SRel G w none ks rows v:=by
 obtain⟨a,cap,hv,hc,hm,h⟩:=h;refine⟨a,cap,hv,hc,hm,?_⟩;rcases h with h|⟨b,off,ha,hi,_⟩
 . exact .inl ⟨.inl rfl,h.2⟩
 . exact .inr ⟨b,off,ha,hi,fun _ he=>nomatch he⟩
theorem MRel.pres(hp:Pres G w G' w' ok){L:Loc}(hL:ok L){ks:List Nat}{rows:List (List Int)}{v:Value}(h:MRel G w L ks rows v):MRel G' w' L ks rows v:=by
 obtain⟨a,cap,hv,hc,hm,h⟩:=h;refine⟨a,cap,hv,hc,hm,?_⟩;rcases h with h|⟨b,ha,ho,hi,hpos,cur,E,h2,h3,h4⟩
 . exact .inl h
 . obtain⟨p1,p2,p3⟩:=hp.own b L hL ho;exact .inr ⟨b,ha,p1,fun x hh=>hi x (p3 x hh),hpos,cur,E,p2.trans h2,h3,h4⟩
theorem NRel.pres(hp:Pres G w G' w' ok){ks:List Nat}{ll:List (List (List Int))}{v:Value}(h:NRel G w ks ll v):NRel G' w' ks ll v:=by
 obtain⟨b,off,cap,hv,hi⟩:=h;refine⟨b,off,cap,hv,fun i hl=> ?_⟩;obtain⟨u,h1,h2⟩:=hi i hl;exact⟨u,h1.pres hp,SRel.pres (L:=none) hp (fun _ he=>nomatch he) h2⟩
theorem CRel.pres(hp:Pres G w G' w' ok){L:Option Loc}(hL:∀Lc,L=some Lc->ok Lc){c:HC}{v:Value}(h:CRel G w L c v):CRel G' w' L c v:=by
 cases c with
 |sl own ks rows=>exact SRel.pres hp hL h
 |el ks row off=>
  obtain⟨b,o,hv,h⟩:=h;exact⟨b,o,hv,fun j hj=>(h j hj).pres hp⟩
 |ptr r o=>
  obtain⟨b,hb,hv⟩:=h;exact⟨b,hp.beta r b hb,hv⟩
 |msl r n cap=>
  obtain⟨b,hb,hv⟩:=h;exact⟨b,hp.beta r b hb,hv⟩
 |pin r z off n cap=>
  obtain⟨b,hb,hv⟩:=h;exact⟨b,hp.beta r b hb,hv⟩
 |mp r s i o=>
  obtain⟨b,hb,hv⟩:=h;exact⟨b,hp.beta r b hb,hv⟩
 |nsls ks ll=>exact NRel.pres hp h
 |el2 ks rows=>
  obtain⟨b,o,u,hv,h1,h2⟩:=h;exact⟨b,o,u,hv,h1.pres hp,SRel.pres (L:=none) hp (fun _ he=>nomatch he) h2⟩
 |mapv r=>
  obtain⟨b,hb,hv⟩:=h;exact⟨b,hp.beta r b hb,hv⟩
 |_=>exact h
theorem CRel.drop{L:Option Loc}{c:HC}{v:Value}(h:CRel G w L c v):CRel G w none c v:=by
 cases c with
 |sl own ks rows=>exact SRel.drop h
 |_=>exact h
theorem CRel.dis{L:Option Loc}{c:HC}{v:Value}(h:CRel G w L c v):CRel G w none c.dis v:=by
 cases c with
 |sl own ks rows=>exact SRel.drop h
 |mu ks rows=>exact h.elim
 |_=>exact h
theorem SRel.nil(G:Ghost)(w:World)(L:Option Loc)(ks:List Nat):SRel G w L ks [] (.slice none 0 0):=⟨none,0,rfl,Nat.le_refl _,Nat.zero_le _, .inl ⟨.inr rfl,rfl,rfl⟩⟩
theorem CRel.soft{L:Option Loc}{c:HC}{v:Value}(h:CRel G w L c v):CRel G w L c.soft v:=by
 cases c with
 |nsl ks=>have h:v=_:=h;subst h;exact SRel.nil G w L ks
 |esl ks=>obtain⟨a,rfl⟩:=h;rfl
 |_=>exact h
theorem CRel.oneCell{L:Option Loc}{c:HC}{v:Value}(h:CRel G w L c v):v.oneCell'=true:=by
 cases c with
 |sl own ks rows=>obtain⟨a,cap,rfl,_⟩:=h;rfl
 |mu ks rows=>exact h.elim
 |el ks row off=>obtain⟨b,o,rfl,_⟩:=h;rfl
 |ptr r o=>obtain⟨b,_,rfl⟩:=h;rfl
 |msl r n cap=>obtain⟨b,_,rfl,_⟩:=h;rfl
 |pin r z off n cap=>obtain⟨b,_,rfl⟩:=h;rfl
 |pbx ks rows z off cap=>exact h.elim
 |mp r s i o=>obtain⟨b,_,rfl⟩:=h;rfl
 |nsls ks ll=>obtain⟨b,off,cap,rfl,_⟩:=h;rfl
 |el2 ks rows=>obtain⟨b,o,u,rfl,_⟩:=h;rfl
 |mapv r=>obtain⟨b,_,rfl⟩:=h;rfl
 |mpb f=>exact h.elim
 |esl ks=>obtain⟨a,rfl⟩:=h;rfl
 |arr ks rows cap=>exact h.elim
 |fro ks rows=>exact h.elim
 |junk=>exact h
 |_=>subst h;rfl
theorem BRel.oneCell{r o:Nat}{c:HC}{v:Value}(h:BRel G w r o c v):v.oneCell'=true:=by
 cases c with
 |mu ks rows=>obtain⟨a,cap,rfl,_⟩:=h;rfl
 |sl own ks rows=>obtain⟨a,cap,rfl,_⟩:=h;rfl
 |int k n=>exact CRel.oneCell (G:=G) (w:=w) (L:=none) (c:= .int k n) h
 |num k n=>exact CRel.oneCell (G:=G) (w:=w) (L:=none) (c:= .num k n) h
 |bool b=>exact CRel.oneCell (G:=G) (w:=w) (L:=none) (c:= .bool b) h
 |lit b=>exact CRel.oneCell (G:=G) (w:=w) (L:=none) (c:= .lit b) h
 |el ks row off=>exact CRel.oneCell (G:=G) (w:=w) (L:=none) (c:= .el ks row off) h
 |ptr r o=>exact CRel.oneCell (G:=G) (w:=w) (L:=none) (c:= .ptr r o) h
 |nilp=>exact CRel.oneCell (G:=G) (w:=w) (L:=none) (c:= .nilp) h
 |nsl ks=>exact CRel.oneCell (G:=G) (w:=w) (L:=none) (c:= .nsl ks) h
 |arr ks rows cap=>exact CRel.oneCell (G:=G) (w:=w) (L:=none) (c:= .arr ks rows cap) h
 |fro ks rows=>exact CRel.oneCell (G:=G) (w:=w) (L:=none) (c:= .fro ks rows) h
 |msl r n cap=>exact CRel.oneCell (G:=G) (w:=w) (L:=none) (c:= .msl r n cap) h
 |pin r z off n cap=>exact CRel.oneCell (G:=G) (w:=w) (L:=none) (c:= .pin r z off n cap) h
 |pbx ks rows z off cap=>exact h.elim
 |mp r s i o=>exact CRel.oneCell (G:=G) (w:=w) (L:=none) (c:= .mp r s i o) h
 |nsls ks ll=>exact CRel.oneCell (G:=G) (w:=w) (L:=none) (c:= .nsls ks ll) h
 |el2 ks rows=>exact CRel.oneCell (G:=G) (w:=w) (L:=none) (c:= .el2 ks rows) h
 |mapv r=>exact CRel.oneCell (G:=G) (w:=w) (L:=none) (c:= .mapv r) h
 |mpb f=>exact h.elim
 |str s=>exact CRel.oneCell (G:=G) (w:=w) (L:=none) (c:= .str s) h
 |esl ks=>exact CRel.oneCell (G:=G) (w:=w) (L:=none) (c:= .esl ks) h
 |junk=>exact h
theorem BRel.pres(hp:Pres G w G' w' ok){r o:Nat}(hL:ok (.cell r o)){c:HC}{v:Value}(h:BRel G w r o c v):BRel G' w' r o c v:=by
 cases c with
 |mu ks rows=>exact MRel.pres hp hL h
 |sl own ks rows=>exact SRel.pres hp (fun Lc he=>by cases own<;>simp at he;subst he;exact hL) h
 |int k n=>exact CRel.pres (G:=G) (w:=w) (L:=none) (c:= .int k n) hp (fun _ he=>nomatch he) h
 |num k n=>exact CRel.pres (G:=G) (w:=w) (L:=none) (c:= .num k n) hp (fun _ he=>nomatch he) h
 |bool b=>exact CRel.pres (G:=G) (w:=w) (L:=none) (c:= .bool b) hp (fun _ he=>nomatch he) h
 |lit b=>exact CRel.pres (G:=G) (w:=w) (L:=none) (c:= .lit b) hp (fun _ he=>nomatch he) h
 |el ks row off=>exact CRel.pres (G:=G) (w:=w) (L:=none) (c:= .el ks row off) hp (fun _ he=>nomatch he) h
 |ptr r o=>exact CRel.pres (G:=G) (w:=w) (L:=none) (c:= .ptr r o) hp (fun _ he=>nomatch he) h
 |nilp=>exact h
 |nsl ks=>exact h
 |arr ks rows cap=>exact h
 |fro ks rows=>exact h
 |msl r n cap=>exact CRel.pres (G:=G) (w:=w) (L:=none) (c:= .msl r n cap) hp (fun _ he=>nomatch he) h
 |pin r z off n cap=>exact CRel.pres (G:=G) (w:=w) (L:=none) (c:= .pin r z off n cap) hp (fun _ he=>nomatch he) h
 |pbx ks rows z off cap=>exact h
 |mp r s i k=>exact CRel.pres (G:=G) (w:=w) (L:=none) (c:= .mp r s i k) hp (fun _ he=>nomatch he) h
 |nsls ks ll=>exact NRel.pres hp h
 |el2 ks rows=>exact CRel.pres (G:=G) (w:=w) (L:=none) (c:= .el2 ks rows) hp (fun _ he=>nomatch he) h
 |mapv r=>exact CRel.pres (G:=G) (w:=w) (L:=none) (c:= .mapv r) hp (fun _ he=>nomatch he) h
 |mpb f=>exact h
 |str s=>exact h
 |esl ks=>exact h
 |junk=>exact h
theorem ARel.pres(hp:Pres G w G' w' ok){cs:List HC}{v:Value}(h:ARel G w cs v):ARel G' w' cs v:=by
 obtain⟨vs,hv,hs,h⟩:=h;refine⟨vs,hv,hs,fun j c hc=> ?_⟩;obtain⟨u,hu,hr⟩:=h j c hc;exact⟨u,hu,CRel.pres (L:=none) hp (fun _ he=>nomatch he) hr⟩
theorem H0Rel.pres(hp:Pres G w G' w' ok){x:H0}{v:Value}(h:H0Rel G w x v):H0Rel G' w' x v:=by
 cases x with
 |ce c=>exact CRel.pres (L:=none) hp (fun _ he=>nomatch he) h
 |agg cs=>exact ARel.pres hp h
theorem VRel.pres(hp:Pres G w G' w' ok){L:Option Loc}(hL:∀Lc,L=some Lc->ok Lc){x:HV}{v:Value}(h:VRel G w L x v):VRel G' w' L x v:=by
 cases x with
 |ce c=>exact CRel.pres hp hL h
 |agg cs=>exact ARel.pres hp h
 |tup hs=>
  obtain⟨vs,hv,hsz,h⟩:=h;refine⟨vs,hv,hsz,fun j x hx=> ?_⟩;obtain⟨u,hu,hr⟩:=h j x hx;exact⟨u,hu,H0Rel.pres hp hr⟩
 |zs ks rows=>exact⟨SRel.pres hp hL h.1,h.2⟩
 |junk=>trivial
theorem VRel.drop{L:Option Loc}{x:HV}{v:Value}(h:VRel G w L x v):VRel G w none x v:=by
 cases x with
 |ce c=>exact CRel.drop h
 |zs ks rows=>exact⟨SRel.drop h.1,h.2⟩
 |_=>exact h
theorem VRel.dis{L:Option Loc}{x:HV}{v:Value}(h:VRel G w L x v):VRel G w none x.dis v:=by
 cases x with
 |ce c=>exact CRel.dis h
 |zs ks rows=>exact⟨SRel.drop h.1,h.2⟩
 |_=>exact h
theorem ARel.map{cs:List HC}{v:Value}(f:HC->HC)(hf:∀c u,CRel G w none c u->CRel G w none (f c) u)(h:ARel G w cs v):ARel G w (cs.map f) v:=by
 obtain⟨vs,hv,hs,h⟩:=h;refine⟨vs,hv,by simpa using hs,fun j c hc=> ?_⟩;rw[List.getElem?_map]at hc;cases hj:cs[j]? with
 |none=>simp[hj]at hc
 |some x=>
  simp[hj]at hc;subst hc;obtain⟨u,hu,hr⟩:=h j x hj;exact⟨u,hu,hf x u hr⟩
theorem VRel.soft{L:Option Loc}{x:HV}{v:Value}(h:VRel G w L x v):VRel G w L x.soft v:=by
 cases x with
 |ce c=>exact CRel.soft h
 |agg cs=>exact ARel.map _ (fun c u hc=>CRel.soft hc) h
 |_=>exact h
theorem BRel.soft{r o:Nat}{c:HC}{v:Value}(h:BRel G w r o c v):BRel G w r o c.softB v:=by
 cases c with
 |nsl ks=>have h:v=_:=h;subst h;exact SRel.nil G w _ ks
 |esl ks=>obtain⟨a,rfl⟩:=(show CRel G w none (.esl ks) v from h);rfl
 |_=>exact h
theorem BoxAt.beta{r:Nat}{cells:List HC}(h:BoxAt G w r cells):∃b,G.beta r=some b:=by
 rcases h with⟨b,_,_,h,_⟩|⟨_,_,_,_,b,_,_,h,_⟩|⟨_,h⟩|⟨_,_,b,_,_,h,_⟩|⟨_,_,_,b,h,_⟩|⟨_,_,_,_,_,_,b,h,_⟩
 . exact⟨b,h⟩
 . exact⟨b,h⟩
 . exact h
 . exact⟨b,h⟩
 . exact⟨b,h⟩
 . exact⟨b,h⟩
theorem BoxAt.std{r:Nat}{cells:List HC}(h:BoxAt G w r cells)(hs:HL.std cells=true):BoxAt0 G w r cells:=by
 rcases h with h|⟨_,_,_,rfl,_⟩|⟨rfl,_⟩|⟨_,rfl,_⟩|⟨_,_,rfl,_⟩|⟨_,_,_,_,_,rfl,_⟩
 . exact h
 . cases hs
 . cases hs
 . cases hs
 . cases hs
 . cases hs
theorem BoxAt.arr{r:Nat}{ks:List Nat}{rows:List (List Int)}{cap:Nat}(h:BoxAt G w r [.arr ks rows cap]):ArrAt G w r ks rows cap:=by
 rcases h with⟨b,vs,T,h1,h2,h3,h4,h5,h6⟩|⟨_,_,_,e,h⟩|⟨e,_⟩|⟨_,e,_⟩|⟨_,_,e,_⟩|⟨_,_,_,_,_,e,_⟩
 . obtain⟨v,_,hr⟩:=h6 0 _ rfl;exact hr.elim
 . cases e;exact h
 . cases e
 . cases e
 . cases e
 . cases e
theorem BoxAt.fro{r:Nat}{ks:List Nat}{rows:List (List Int)}(h:BoxAt G w r [.fro ks rows]):FroAt G w r ks rows:=by
 rcases h with⟨b,vs,T,h1,h2,h3,h4,h5,h6⟩|⟨_,_,_,e,h⟩|⟨e,_⟩|⟨_,e,_⟩|⟨_,_,e,h⟩|⟨_,_,_,_,_,e,_⟩
 . obtain⟨v,_,hr⟩:=h6 0 _ rfl;exact hr.elim
 . cases e
 . cases e
 . cases e
 . cases e;exact h
 . cases e
theorem BoxAt.pbx{r:Nat}{ks:List Nat}{rows:List (List Int)}{z:Bool}{off cap:Nat}(h:BoxAt G w r [.pbx ks rows z off cap]):PinAt G w r ks rows z off cap:=by
 rcases h with⟨b,vs,T,h1,h2,h3,h4,h5,h6⟩|⟨_,_,_,e,h⟩|⟨e,_⟩|⟨_,e,_⟩|⟨_,_,e,h⟩|⟨_,_,_,_,_,e,h⟩
 . obtain⟨v,_,hr⟩:=h6 0 _ rfl;exact hr.elim
 . cases e
 . cases e
 . cases e
 . cases e
 . cases e;exact h
theorem BoxAt.map{r:Nat}{f:Int->Option Int}(h:BoxAt G w r [.mpb f]):MapAt G w r f:=by
 rcases h with⟨b,vs,T,h1,h2,h3,h4,h5,h6⟩|⟨_,_,_,e,h⟩|⟨e,_⟩|⟨_,e,h⟩|⟨_,_,e,_⟩|⟨_,_,_,_,_,e,_⟩
 . obtain⟨v,_,hr⟩:=h6 0 _ rfl;exact hr.elim
 . cases e
 . cases e
 . cases e;exact h
 . cases e
 . cases e
theorem MapAt.pres(hp:Pres G w G' w' ok){r:Nat}{f:Int->Option Int}(hb:ok (.box r))(h:MapAt G w r f):MapAt G' w' r f:=by
 obtain⟨b,es,clk,h1,h2,h3,h4,h5⟩:=h;obtain⟨p1,p2,p3⟩:=hp.own b _ hb h2;exact⟨b,es,clk,hp.beta r b h1,p1,p2.trans h3,fun o ho=>h4 o (p3 o ho),h5⟩
theorem stdB_some{o:Option (List HC)}{cs:List HC}(h:stdB o=some cs):o=some cs/\HL.std cs=true:=by
 unfold stdB at h;split at h
 . rename_i c;cases hs:HL.std c with
   |true=>rw[hs]at h;cases h;exact⟨rfl,hs⟩
   |false=>rw[hs]at h;cases h
 . cases h
theorem FroAt.pres(hp:Pres G w G' w' ok){r:Nat}{ks:List Nat}{rows:List (List Int)}(h:FroAt G w r ks rows):FroAt G' w' r ks rows:=by
 obtain⟨b,h1,h2⟩:=h;exact⟨b,hp.beta r b h1,fun i j hi hj=>(h2 i j hi hj).pres hp⟩
theorem PinAt.pres(hp:Pres G w G' w' ok){r:Nat}(hb:ok (.box r)){ks:List Nat}{rows:List (List Int)}{z:Bool}{off cap:Nat}(h:PinAt G w r ks rows z off cap):PinAt G' w' r ks rows z off cap:=by
 obtain⟨b,h1,h2,h3,h4⟩:=h;refine⟨b,hp.beta r b h1,h2,h3,?_⟩;rcases h4 with h4|⟨hz,hi,hs⟩
 . exact .inl h4
 . exact .inr ⟨hz,fun i j hi2 hj=>(hi i j hi2 hj).pres hp,hs.pres hp hb⟩
theorem ArrAt.pres(hp:Pres G w G' w' ok){r:Nat}{ks:List Nat}{rows:List (List Int)}{cap:Nat}(hb:ok (.box r))(h:ArrAt G w r ks rows cap):ArrAt G' w' r ks rows cap:=by
 obtain⟨b,vs,T,h1,h2,h3,h4,h5,h6⟩:=h;obtain⟨p1,p2,p3⟩:=hp.own b _ hb h2;exact⟨b,vs,T,hp.beta r b h1,p1,p2.trans h3,fun o ho=>h4 o (p3 o ho),h5,h6⟩
theorem BoxAt0.pres(hp:Pres G w G' w' ok){r:Nat}{cells:List HC}(hb:ok (.box r))(hL:∀o,ok (.cell r o))(h:BoxAt0 G w r cells):BoxAt0 G' w' r cells:=by
 obtain⟨b,vs,T,h1,h2,h3,h4,h5,h6⟩:=h;obtain⟨p1,p2,p3⟩:=hp.own b _ hb h2;refine⟨b,vs,T,hp.beta r b h1,p1,p2.trans h3,fun o ho=>h4 o (p3 o ho),h5,fun j c hc=> ?_⟩;obtain⟨v,hv,hr⟩:=h6 j c hc;exact⟨v,hv,hr.pres hp (hL j)⟩
theorem BoxAt.pres(hp:Pres G w G' w' ok){r:Nat}{cells:List HC}(hb:ok (.box r))(hL:∀o,ok (.cell r o))(h:BoxAt G w r cells):BoxAt G' w' r cells:=by
 rcases h with h|⟨ks,rows,cap,e,h⟩|⟨e,b,h⟩|⟨f,e,h⟩|⟨ks,rows,e,h⟩|⟨ks,rows,z,off,cap,e,h⟩
 . exact .inl (h.pres hp hb hL)
 . exact .inr (.inl ⟨ks,rows,cap,e,h.pres hp hb⟩)
 . exact .inr (.inr (.inl ⟨e,b,hp.beta r b h⟩))
 . exact .inr (.inr (.inr (.inl ⟨f,e,h.pres hp hb⟩)))
 . exact .inr (.inr (.inr (.inr (.inl ⟨ks,rows,e,h.pres hp⟩))))
 . exact .inr (.inr (.inr (.inr (.inr ⟨ks,rows,z,off,cap,e,h.pres hp hb⟩))))
theorem BoxAt.soft{r:Nat}{cells:List HC}(h:BoxAt G w r cells):BoxAt G w r (cells.map HC.softB):=by
 rcases h with h|⟨ks,rows,cap,rfl,h⟩|⟨rfl,h⟩|⟨f,rfl,h⟩|⟨ks,rows,rfl,h⟩|⟨ks,rows,z,off,cap,rfl,h⟩;case inr.inl=>exact .inr (.inl ⟨ks,rows,cap,rfl,h⟩)
 case inr.inr.inl=>exact .inr (.inr (.inl ⟨rfl,h⟩))
 case inr.inr.inr.inl=>exact .inr (.inr (.inr (.inl ⟨f,rfl,h⟩)))
 case inr.inr.inr.inr.inl=>exact .inr (.inr (.inr (.inr (.inl ⟨ks,rows,rfl,h⟩))))
 case inr.inr.inr.inr.inr=>exact .inr (.inr (.inr (.inr (.inr ⟨ks,rows,z,off,cap,rfl,h⟩))))
 left;obtain⟨b,vs,T,h1,h2,h3,h4,h5,h6⟩:=h;refine⟨b,vs,T,h1,h2,h3,h4,by simpa using h5,fun j c hc=> ?_⟩;rw[List.getElem?_map]at hc;cases hj:cells[j]? with
 |none=>simp[hj]at hc
 |some x=>
  simp[hj]at hc;subst hc;obtain⟨v,hv,hr⟩:=h6 j x hj;exact⟨v,hv,hr.soft⟩
end
theorem upd_same{α:Type}(e:Nat->α)(d:Nat)(v:α):upd e d v d=v:=by simp[upd]
theorem upd_ne{α:Type}(e:Nat->α){d x:Nat}(v:α)(h:x≠d):upd e d v x=e x:=by
 have:Nat.beq x d=false:=by
  cases hb:Nat.beq x d with
  |false=>rfl
  |true=>exact absurd (Nat.eq_of_beq_eq_true hb) h
 simp[upd,this]
theorem tmps_put_same{a:Act}{d:Nat}{v:Value}(h:d<a.tmps.size):(a.put (some d) v).tmps.getD d undef=v:=by
 simp[Act.put,h]
theorem tmps_put_ne{a:Act}{d:Nat}{v:Value}{x:Nat}(h:x≠d):(a.put (some d) v).tmps.getD x undef=a.tmps.getD x undef:=by
 simp[Act.put,Array.getElem?_setIfInBounds_ne (Ne.symm h)]
theorem put_size(a:Act)(d:Option Nat)(v:Value):(a.put d v).tmps.size=a.tmps.size:=by cases d<;>simp[Act.put]
theorem put_defers(a:Act)(d:Option Nat)(v:Value):(a.put d v).defers=a.defers:=by cases d<;>rfl
section
variable {P : Program} {n : Nat} {G G' : Ghost} {st : HSt} {a : Act} {w w' : World} {o : Oper} {Q : Exit -> Act -> World -> Prop} {K : HSt -> Prop}
def Post(n:Nat)(G:Ghost)(w:World)(K:HSt->Prop)(a':Act)(w':World):Prop:=∃st' G',K st'/\Rel n G' st' a' w'/\Evolves G w G' w'
theorem wp_value{v:Value}{X:Act->World->Prop}(h:(execOp a.eval o).run P w= .ok (.value v) w')(hk:X (a.put o.dst v) w'):o.wp P a w X Q:=by
 unfold Oper.wp;rw[h];exact hk
theorem wp_skip'{X:Act->World->Prop}(h:(execOp a.eval o).run P w= .ok .skip w')(hk:X (a.put o.dst undef) w'):o.wp P a w X Q:=by
 unfold Oper.wp;rw[h];exact hk
theorem flagL_cases(env:Nat->HV)(d:Nat):flagL env d=none∨flagL env d=some (.tmp d):=by
 unfold flagL;cases isOwn (env (FL d))<;>simp
theorem Rel.env_of{ok:Loc->Prop}(h:Rel n G st a w)(hp:Pres G w G' w' ok){env':Nat->HV}{a':Act}(x:Nat)(hx:x<100000)(he:env' x=st.env x)(ht:a'.tmps.getD x undef=a.tmps.getD x undef)(hf:flagL env' x=none∨(flagL env' x=flagL st.env x/\ok (.tmp x))):VRel G' w' (flagL env' x) (env' x) (a'.tmps.getD x undef):=by
 rw[he,ht];have h0:=h.env x hx;rcases hf with hf|⟨hf,ho⟩
 . rw[hf];exact VRel.pres (L:=none) hp (fun _ he=>nomatch he) (VRel.drop h0)
 . rw[hf];refine h0.pres hp (fun Lc hl=> ?_);rcases flagL_cases st.env x with hc|hc<;>rw[hc]at hl<;>cases hl;exact ho
theorem VRel.free{L:Option Loc}{hv:HV}{v:Value}(h:VRel G w none hv v)(hs:isSlv hv=none):VRel G w L hv v:=by
 cases hv with
 |zs ks rows=>cases hs
 |ce c=>cases c with
  |sl own ks rows=>cases hs
  |_=>exact h
 |_=>exact h
theorem FL_ne{x d:Nat}(h:x<100000):FL d≠x:=by unfold FL;omega
theorem FL_inj{x d:Nat}(h:FL x=FL d):x=d:=by unfold FL at h;omega
theorem Rel.put{ok:Loc->Prop}(h:Rel n G st a w)(hn:n<=100000){dst:Option Nat}(hd:∀d,dst=some d->d<n)(hp:Pres G w G' w' ok)(hok:∀x,dst≠some x->ok (.tmp x)){own:Bool}{hv:HV}{v:Value}(hv0:VRel G' w' none hv v)(hv1:∀d,dst=some d->own=true->VRel G' w' (some (.tmp d)) hv v){box':Nat->Option (List HC)}(hm:Mem G' box' w'){log:Nat->List (Nat×Bool)}:Rel n G' {env:=setsTo st.env (put dst own hv).sets,box:=box',log:=log} (a.put dst v) w':=by
 refine⟨by rw[put_defers];exact h.defers,by rw[put_size];exact h.size,fun x hx=> ?_,hm⟩;cases dst with
 |none=>exact h.env_of hp x hx rfl rfl (.inr ⟨rfl,hok x (fun e=>nomatch e)⟩)
 |some d=>
  have hdn:=hd d rfl;have hd5:d<100000:=Nat.lt_of_lt_of_le hdn hn;by_cases hxd:x=d
  . subst hxd;have htv:(a.put (some x) v).tmps.getD x undef=v:=tmps_put_same (by rw[h.size];exact hdn);show VRel G' w' (flagL _ x) _ ((a.put (some x) v).tmps.getD x undef);rw[htv];cases hv with
    |ce c=>cases c with
     |sl o' ks rows=>
      show VRel G' w' (flagL (upd (upd st.env x _) (FL x) _) x) (upd (upd st.env x _) (FL x) _ x) v;rw[upd_ne _ _ (Ne.symm (FL_ne hx)),upd_same];unfold flagL;rw[upd_same];cases own with
      |false=>exact hv0
      |true=>exact hv1 x rfl rfl
     |nsl ks=>
      show VRel G' w' (flagL (upd (upd st.env x _) (FL x) _) x) (upd (upd st.env x _) (FL x) _ x) v;rw[upd_ne _ _ (Ne.symm (FL_ne hx)),upd_same];have hv0:v=_:=hv0;subst hv0;exact SRel.nil G' w' _ ks
     |mu ks rows=>exact hv0.elim
     |_=>
      show VRel G' w' _ (upd st.env x _ x) v;rw[upd_same];exact VRel.free hv0 rfl
    |zs ks rows=>
     show VRel G' w' (flagL (upd (upd st.env x _) (FL x) _) x) (upd (upd st.env x _) (FL x) _ x) v;rw[upd_ne _ _ (Ne.symm (FL_ne hx)),upd_same];unfold flagL;rw[upd_same];cases own with
     |false=>exact hv0
     |true=>exact hv1 x rfl rfl
    |_=>
     show VRel G' w' _ (upd st.env x _ x) v;rw[upd_same];exact VRel.free hv0 rfl
  . refine h.env_of hp x hx ?_ (tmps_put_ne hxd) (.inr ⟨?_,hok x (fun e=>hxd (Option.some.inj e).symm)⟩)
    . cases hv with
      |ce c=>cases c with
       |sl o' ks rows=>exact(upd_ne _ _ (Ne.symm (FL_ne hx))).trans (upd_ne _ _ hxd)
       |nsl ks=>exact(upd_ne _ _ (Ne.symm (FL_ne hx))).trans (upd_ne _ _ hxd)
       |_=>exact upd_ne _ _ hxd
      |zs ks rows=>exact(upd_ne _ _ (Ne.symm (FL_ne hx))).trans (upd_ne _ _ hxd)
      |_=>exact upd_ne _ _ hxd
    . unfold flagL;congr 1;congr 1;cases hv with
      |ce c=>cases c with
       |sl o' ks rows=>exact(upd_ne _ _ (fun e=>hxd (FL_inj e))).trans (upd_ne _ _ (FL_ne hd5))
       |nsl ks=>exact(upd_ne _ _ (fun e=>hxd (FL_inj e))).trans (upd_ne _ _ (FL_ne hd5))
       |_=>exact upd_ne _ _ (FL_ne hd5)
      |zs ks rows=>exact(upd_ne _ _ (fun e=>hxd (FL_inj e))).trans (upd_ne _ _ (FL_ne hd5))
      |_=>exact upd_ne _ _ (FL_ne hd5)
theorem pure_sound(h:Rel n G st a w)(hn:n<=100000)(hd:∀d,o.dst=some d->d<n){hv:HV}{v:Value}(hv0:VRel G w none hv v)(hrun:(execOp a.eval o).run P w= .ok (.value v) w)(hk:K (st.app (HL.put o.dst false hv))):o.wp P a w (Post n G w K) Q:=by
 refine wp_value hrun ⟨_,G,hk,?_,Evolves.refl _ _⟩;have hb:(st.app (HL.put o.dst false hv)).box=st.box:=by
  unfold HL.put HSt.app;cases o.dst with
  |none=>rfl
  |some d=>cases hv with
   |ce c=>cases c<;>rfl
   |_=>rfl
 have:=h.put hn hd (Pres.refl G w fun _=>True) (fun _ _=>trivial) (own:=false) hv0 (fun _ _ e=>nomatch e) h.mem (log:=st.log);rw[<-hb]at this;exact this
theorem ofConst_rel(P:Program)(G:Ghost)(w:World)(L:Option Loc)(t:TypeId)(v:Value):VRel G w L (ofConst P t v) v:=by
 unfold ofConst;split
 . rfl
 . rfl
 . rfl
 . rfl
 . split
   . split
     . exact⟨none,0,rfl,Nat.le_refl _,Nat.zero_le _, .inl ⟨.inr rfl,rfl,rfl⟩⟩
     . trivial
   . rfl
 . trivial
theorem eval_rel(h:Rel n G st a w)(t:TypeId)(x:Operand)(hx:∀d,x= .tmp d->d<100000):∃L,VRel G w L (evalO P st.env t x) (a.eval x):=by
 cases x with
 |tmp d=>exact⟨_,h.env d (hx d rfl)⟩
 |const v=>exact⟨none,ofConst_rel P G w none t v⟩
 |global g=>exact⟨none,trivial⟩
 |func f=>exact⟨none,trivial⟩
theorem isNum_rel{L:Option Loc}{c:HC}{v:Value}{k:IntKind}{m:Int}{u:Bool}(h:CRel G w L c v)(hc:isNum c=some (k,m,u)):v= .int k m:=by
 cases c<;>simp[isNum]at hc;all_goals(obtain⟨rfl,rfl,rfl⟩:=hc;exact h)
theorem isBool_rel{L:Option Loc}{c:HC}{v:Value}{b:Bool}{u:Bool}(h:CRel G w L c v)(hc:isBool c=some (b,u)):v= .bool b:=by
 cases c<;>simp[isBool]at hc;all_goals(obtain⟨rfl,rfl⟩:=hc;exact h)
theorem intRes_rel(k:IntKind)(u:Bool)(m:Int):VRel G w none (intRes k u m) (.int k m):=by cases u<;>exact rfl
theorem boolRes_rel(u:Bool)(m:Bool):VRel G w none (boolRes u m) (.bool m):=by cases u<;>exact rfl
theorem kEq_eq{j k:IntKind}(h:kEq j k=true):j=k:=by
 cases j<;>cases k<;>first|rfl|cases h
structure Sides(n:Nat)(o:Oper):Prop where
 le:n<=100000
 dst:∀d,o.dst=some d->d<n
 tmp:∀t, .tmp t∈o.op.operands.toList->t<100000
theorem Sides.ev(s:Sides n o)(h:Rel n G st a w)(t:TypeId){x:Operand}(hx:x∈o.op.operands.toList):∃L,VRel G w L (evalO P st.env t x) (a.eval x):=eval_rel h t x (fun d e=>s.tmp d (e▸hx))
theorem ok_sound(h:Rel n G st a w)(s:Sides n o){hv:HV}{v:Value}(hv0:VRel G w none hv v)(hrun:(execOp a.eval o).run P w= .ok (.value v) w)(hk:(ok o.dst hv).wp st K):o.wp P a w (Post n G w K) Q:=pure_sound h s.le s.dst hv0 hrun hk
theorem one_sound(h:Rel n G st a w)(s:Sides n o){hv:HV}{v:Value}{pre:Prop}(hv0:pre->VRel G w none hv v)(hrun:pre->(execOp a.eval o).run P w= .ok (.value v) w)(hk:(OSem.one pre (put o.dst false hv)).wp st K):o.wp P a w (Post n G w K) Q:=pure_sound h s.le s.dst (hv0 hk.1) (hrun hk.1) hk.2
theorem VRel.of_ce{L:Option Loc}{c:HC}{v:Value}(h:VRel G w L (.ce c) v):CRel G w L c v:=h
theorem eqGuard_plain(op:BinOp)(t:TypeId)(x y:Operand)(u v:Value)(hu:u≠ .nilIface)(hu':∀cs,u≠ .agg cs):(eqGuard op t x y u v).run P w= .ok () w:=by
 unfold eqGuard;cases u<;>first|exact absurd rfl hu|exact absurd rfl (hu' _)|(cases op<;>simp)
theorem run_equalIn_bool(d:Nat){xt:TypeId}(hu:P.underlying xt=some .bool)(x y:Bool):(Op.equalIn (d+1) xt (.bool x) (.bool y)).run P w= .ok (x==y) w:=by
 simp[Op.equalIn,run_underlying hu]
theorem run_eql_bool{xt:TypeId}(hu:P.underlying xt=some .bool)(x y:Bool):(binOp .eql xt (.bool x) (.bool y)).run P w= .ok (.bool (x==y)) w:=by
 simp only[binOp];simp[Op.equal,Op.maxDepth,run_equalIn_bool 9999 hu x y]
theorem run_neq_bool{xt:TypeId}(hu:P.underlying xt=some .bool)(x y:Bool):(binOp .neq xt (.bool x) (.bool y)).run P w= .ok (.bool (!(x==y))) w:=by
 simp only[binOp];simp[Op.equal,Op.maxDepth,run_equalIn_bool 9999 hu x y]
theorem run_isAgg{t:TypeId}{b:Bool}(h:isAggT P t=some b):(isAgg t).run P w= .ok b w:=by
 unfold isAggT at h;unfold isAgg;split at h<;>rename_i hu<;>first
  |(cases h;simp[run_underlying hu])
  |(cases h)
 all_goals(rename_i d hns hna;cases d<;>first|exact absurd hu (hns _)|exact absurd hu (hna _ _)|simp[run_underlying hu])
theorem run_sizeOf{t:TypeId}{m:Nat}(h:sizeT P t=some m):(sizeOf t).run P w= .ok m w:=by
 unfold sizeT at h;cases hi:P.info? t with
 |none=>simp[hi]at h
 |some i=>simp[hi]at h;subst h;simp[sizeOf,typeInfo,hi]
theorem run_part_agg{t:TypeId}{m:Nat}(ha:isAggT P t=some true)(hs:sizeT P t=some m)(vs:Array Value)(off:Nat):(part t vs off).run P w= .ok (.agg (vs.extract off (off+m))) w:=by
 unfold part;simp[run_isAgg ha,run_sizeOf hs]
theorem run_part_one{t:TypeId}(ha:isAggT P t=some false){vs:Array Value}{off:Nat}{v:Value}(hv:vs[off]?=some v):(part t vs off).run P w= .ok v w:=by
 unfold part;simp[run_isAgg ha,hv]
theorem cut_spec{cs ps:List HC}{off m:Nat}(h:cut cs off m=some ps):off+m<=cs.length/\ps=(cs.drop off).take m:=by
 unfold cut at h;cases hb:Nat.ble (off+m) cs.length with
 |false=>rw[hb]at h;cases h
 |true=>rw[hb]at h;cases h;exact⟨Nat.le_of_ble_eq_true hb,rfl⟩
theorem cut_get{cs ps:List HC}{off m:Nat}(h:cut cs off m=some ps){j:Nat}{c:HC}(hj:ps[j]?=some c):j<m/\cs[off+j]?=some c:=by
 obtain⟨_,rfl⟩:=cut_spec h;rw[List.getElem?_take]at hj;split at hj
 . rename_i hlt;exact⟨hlt,by rw[List.getElem?_drop]at hj;exact hj⟩
 . cases hj
theorem cut_len{cs ps:List HC}{off m:Nat}(h:cut cs off m=some ps):ps.length=m:=by
 obtain⟨hl,rfl⟩:=cut_spec h;simp;omega
def TVal(P:Program)(G:Ghost)(w:World)(t:TypeId)(cs:List HC)(v:Value):Prop:=(isAggT P t=some true/\ARel G w cs v)∨(isAggT P t=some false/\∃c,cs=[c]/\CRel G w none c v)
theorem TVal.agg{t:TypeId}{cs:List HC}{v:Value}(h:isAggT P t=some true)(ha:ARel G w cs v):TVal P G w t cs v:= .inl ⟨h,ha⟩
theorem ARel.extract{cs ps:List HC}{vs:Array Value}{off m:Nat}(h:ARel G w cs (.agg vs))(hc:cut cs off m=some ps):ARel G w ps (.agg (vs.extract off (off+m))):=by
 obtain⟨us,hu,hsz,hr⟩:=h;cases hu;have hl:=(cut_spec hc).1;refine⟨_,rfl,by rw[cut_len hc];simp;omega,fun j c hj=> ?_⟩;obtain⟨hjm,hcs⟩:=cut_get hc hj;obtain⟨u,hu,hr⟩:=hr _ _ hcs;exact⟨u,by rw[Array.getElem?_extract];simp[hu];omega,hr⟩
theorem run_part{t:TypeId}{b:Bool}{m:Nat}(ha:isAggT P t=some b)(hs:sizeT P t=some m){cs ps:List HC}{vs:Array Value}{off:Nat}(h:ARel G w cs (.agg vs))(hc:cut cs off m=some ps)(h1:b=false->∃c,ps=[c]):∃u,(part t vs off).run P w= .ok u w/\TVal P G w t ps u:=by
 cases b with
 |true=>exact⟨_,run_part_agg ha hs vs off, .inl ⟨ha,h.extract hc⟩⟩
 |false=>
  obtain⟨c,rfl⟩:=h1 rfl;obtain⟨_,hcs⟩:=cut_get hc (j:=0) (c:=c) rfl;obtain⟨us,hu,hsz,hr⟩:=h;cases hu;obtain⟨u,hu,hr⟩:=hr _ _ hcs;exact⟨u,run_part_one ha hu, .inr ⟨ha,c,rfl,hr⟩⟩
theorem eqT_isAgg{f:Nat}{t:TypeId}{cs ds:List HC}{r:Bool}(h:eqT P f t cs ds=some r):∃b,isAggT P t=some b/\(b=false->(∃c,cs=[c])/\∃d,ds=[d]):=by
 cases f with
 |zero=>cases h
 |succ f=>
  unfold eqT at h;split at h
  . rename_i hu;refine⟨false,by simp[isAggT,hu],fun _=> ?_⟩;split at h
    . exact⟨⟨_,rfl⟩,⟨_,rfl⟩⟩
    . cases h
  . rename_i hu;refine⟨false,by simp[isAggT,hu],fun _=> ?_⟩;split at h
    . exact⟨⟨_,rfl⟩,⟨_,rfl⟩⟩
    . cases h
  . rename_i hu;exact⟨true,by simp[isAggT,hu],fun e=>nomatch e⟩
  . rename_i hu;exact⟨true,by simp[isAggT,hu],fun e=>nomatch e⟩
  . cases h
theorem run_forIn_all(R:Nat->Bool)(m:Nat)(B:Nat->Option Bool×PUnit->Sem (ForInStep (Option Bool×PUnit)))(hB:∀i s,i<m->(B i s).run P w= .ok (if R i then .yield (none,PUnit.unit)else .done (some false,PUnit.unit)) w):∀k i,i+k<=m->(forIn (List.range' i k) ((none:Option Bool),PUnit.unit) B).run P w= .ok (if(List.range' i k).all R then(none,PUnit.unit)else(some false,PUnit.unit)) w:=by
 intro k;induction k with
 |zero=>intro i _;simp
 |succ k ih=>
  intro i hi;rw[List.range'_succ,List.forIn_cons];simp only[Sem.run_bind,hB i _ (by omega),Result.andThen_ok];cases hr:R i
  . simp[hr]
  . simp only[if_true];rw[ih (i+1) (by omega)];simp only[List.all_cons,hr,Bool.true_and]
theorem run_equalIn_array(d:Nat){t e:TypeId}{m s:Nat}(xs ys:Array Value)(ht:P.underlying t=some (.array m e))(hs:sizeT P e=some s)(R:Nat->Bool)(hR:∀i,i<m->∃u v,(part e xs (i*s)).run P w= .ok u w/\(part e ys (i*s)).run P w= .ok v w/\(Op.equalIn d e u v).run P w= .ok (R i) w):(Op.equalIn (d+1) t (.agg xs) (.agg ys)).run P w= .ok ((List.range' 0 m).all R) w:=by
 simp only[Op.equalIn,Sem.run_bind,run_underlying ht,Result.andThen_ok,run_sizeOf hs];rw[Std.Legacy.Range.forIn_eq_forIn_range'];rw[show List.range' [:m].start [:m].size [:m].step=List.range' 0 m from by simp[Std.Legacy.Range.size]];rw[run_forIn_all (P:=P) (w:=w) R m _ (fun i st hi=> ?_) m 0 (by omega)]
 . cases hr:(List.range' 0 m).all R
   . simp
   . simp
 . obtain⟨u,v,h1,h2,h3⟩:=hR i hi;simp only[Sem.run_bind,h1,h2,h3,Result.andThen_ok];cases R i<;>simp
theorem all_range'(R:Nat->Bool)(k i:Nat):(List.range' i (k+1)).all R=(R i&&(List.range' (i+1) k).all R):=by rw[List.range'_succ];simp
theorem TVal.of_part{t:TypeId}{cs:List HC}{v:Value}(h:TVal P G w t cs v)(hb:isAggT P t=some true):∃vs,v= .agg vs/\ARel G w cs (.agg vs):=by
 rcases h with⟨_,h⟩|⟨h,_⟩
 . obtain⟨vs,rfl,hr⟩:=h;exact⟨vs,rfl,vs,rfl,hr⟩
 . rw[hb]at h;cases h
theorem TVal.of_one{t:TypeId}{c:HC}{v:Value}(h:TVal P G w t [c] v)(hb:isAggT P t=some false):CRel G w none c v:=by
 rcases h with⟨h,_⟩|⟨_,c',he,hr⟩
 . rw[hb]at h;cases h
 . cases he;exact hr
theorem run_eqT:∀(f:Nat)(t:TypeId)(cs ds:List HC)(r:Bool),eqT P f t cs ds=some r->∀(d:Nat)(u v:Value),TVal P G w t cs u->TVal P G w t ds v->(Op.equalIn (d+f) t u v).run P w= .ok r w:=by
 intro f;induction f with
 |zero=>intro t cs ds r h;cases h
 |succ f ih=>
  intro t cs ds r h d u v hu hv;show(Op.equalIn ((d+f)+1) t u v).run P w= .ok r w;have h':=h;unfold eqT at h;split at h
  . rename_i ht;have hag:isAggT P t=some false:=by simp[isAggT,ht]
    split at h
    . rename_i x y;split at h
      . rename_i a1 _ b1 _ ha hb;cases h;have h1:=isBool_rel (hu.of_one hag) ha;have h2:=isBool_rel (hv.of_one hag) hb;subst h1;subst h2;exact run_equalIn_bool _ ht _ _
      . cases h
    . cases h
  . rename_i k0 ht;have hag:isAggT P t=some false:=by simp[isAggT,ht]
    split at h
    . rename_i x y;split at h
      . rename_i j1 a1 _ k1 b1 _ ha hb;cases hk:kEq j1 k1 with
        |false=>rw[hk]at h;cases h
        |true=>
         rw[hk]at h;cases h;obtain rfl:=kEq_eq hk;have h1:=isNum_rel (hu.of_one hag) ha;have h2:=isNum_rel (hv.of_one hag) hb;subst h1;subst h2;exact run_equalIn_int w _ t _ _ _ _ ht
      . cases h
    . cases h
  . rename_i fs ht;have hag:isAggT P t=some true:=by simp[isAggT,ht]
    obtain⟨us,rfl,hus⟩:=hu.of_part hag;obtain⟨vs,rfl,hvs⟩:=hv.of_part hag;cases hst:P.stoodInHeld t with
    |true=>rw[hst]at h;cases h
    |false=>
     rw[hst]at h;simp only[cond_false]at h;have hf:P.fieldsOf t=fs:=by simp[Program.fieldsOf,ht]
     rw[run_equalIn_struct w (d+f) t us vs (by rw[hf];exact ht) hst,hf];generalize fs.toList=l at h;clear ht h' hf;induction l generalizing r with
     |nil=>simp[eqFields]at h;subst h;simp[Op.eqFields]
     |cons x l ihl=>
      unfold eqFields at h;cases hn:(x.name== "_")with
      |true=>rw[hn]at h;cases h
      |false=>
       rw[hn]at h;simp only[cond_false]at h;split at h
       . rename_i m hm;split at h
         . rename_i pa pb hca hcb;split at h
           . rename_i q1 q2 hq1 hq2;cases h;obtain⟨b,hb,h1⟩:=eqT_isAgg hq1;obtain⟨u1,hu1,ht1⟩:=run_part (P:=P) hb hm hus hca (fun e=>(h1 e).1);obtain⟨v1,hv1,ht2⟩:=run_part (P:=P) hb hm hvs hcb (fun e=>(h1 e).2);have hq:=ih x.type pa pb q1 hq1 d u1 v1 ht1 ht2;have hname:x.name≠ "_" :=by simpa using hn
             unfold Op.eqFields;rw[if_pos hname];simp only[Sem.run_bind,hu1,hv1,hq,Result.andThen_ok];cases q1
             . simp
             . simp only[Bool.not_true,Bool.false_eq_true,if_false,Bool.true_and];exact ihl q2 hq2
           . cases h
         . cases h
       . cases h
  . rename_i m e ht;have hag:isAggT P t=some true:=by simp[isAggT,ht]
    obtain⟨us,rfl,hus⟩:=hu.of_part hag;obtain⟨vs,rfl,hvs⟩:=hv.of_part hag;split at h
    . rename_i s hs;have key:∀(k i:Nat)(r:Bool),eqElems (eqT P f e) s cs ds i k=some r->∃R:Nat->Bool,r=(List.range' i k).all R/\∀j,i<=j->j<i+k->∃u v,(part e us (j*s)).run P w= .ok u w/\(part e vs (j*s)).run P w= .ok v w/\(Op.equalIn (d+f) e u v).run P w= .ok (R j) w:=by
       intro k;induction k with
       |zero=>intro i r hr;simp[eqElems]at hr;subst hr;exact⟨fun _=>true,by simp,fun j h1 h2=>by omega⟩
       |succ k ihk=>
        intro i r hr;unfold eqElems at hr;split at hr
        . rename_i pa pb hca hcb;split at hr
          . rename_i q1 q2 hq1 hq2;cases hr;obtain⟨R,hR,hall⟩:=ihk (i+1) q2 hq2;obtain⟨b,hb,h1⟩:=eqT_isAgg hq1;obtain⟨u1,hu1,ht1⟩:=run_part (P:=P) hb hs hus hca (fun e=>(h1 e).1);obtain⟨v1,hv1,ht2⟩:=run_part (P:=P) hb hs hvs hcb (fun e=>(h1 e).2);have hq:=ih e pa pb q1 hq1 d u1 v1 ht1 ht2;refine⟨fun j=>if j=i then q1 else R j,?_,fun j h1 h2=> ?_⟩
            . rw[all_range',hR];simp only[if_true];congr 1;apply Bool.eq_iff_iff.2;simp only[List.all_eq_true,List.mem_range'_1];constructor
              . intro hh j hj;rw[if_neg (by omega)];exact hh j hj
              . intro hh j hj;have:=hh j hj;rw[if_neg (by omega)]at this;exact this
            . by_cases hji:j=i
              . subst hji;exact⟨u1,v1,hu1,hv1,by simpa using hq⟩
              . obtain⟨u2,v2,g1,g2,g3⟩:=hall j (by omega) (by omega);exact⟨u2,v2,g1,g2,by simpa[hji]using g3⟩
          . cases hr
        . cases hr
      obtain⟨R,rfl,hall⟩:=key m 0 r h;exact run_equalIn_array (d+f) us vs ht hs R (fun i hi=>hall i (by omega) (by omega))
    . cases h
  . cases h
theorem bin_sound(h:Rel n G st a w)(s:Sides n o){op:BinOp}{xt yt:TypeId}{x y:Operand}(ho:o.op= .binOp op xt x y yt)(hk:(binSem P op xt (evalO P st.env xt x) (evalO P st.env xt y) o.dst).wp st K):o.wp P a w (Post n G w K) Q:=by
 obtain⟨L1,h1⟩:=s.ev (P:=P) h xt (x:=x) (by rw[ho];simp[Op.operands]);obtain⟨L2,h2⟩:=s.ev (P:=P) h xt (x:=y) (by rw[ho];simp[Op.operands]);have hex:∀u v r,a.eval x=u->a.eval y=v->u≠ .nilIface->(∀cs,u≠ .agg cs)->(binOp op xt u v).run P w= .ok r w->(execOp a.eval o).run P w= .ok (.value r) w:=by
  intro u v r hu hv hn ha hr;have he:=eqGuard_plain (P:=P) (w:=w) op xt x y u v hn ha;unfold execOp;simp only[ho,hu,hv,Sem.run_bind,he,Result.andThen_ok,hr,Sem.run_pure]
 unfold binSem at hk;split at hk;case h_3=>exact hk.elim
 case h_2 _ _ cs ds e1 e2=>
  rw[e1]at h1;rw[e2]at h2;cases hg:P.eqGuardType P.depth xt with
  |true=>rw[hg]at hk;exact hk.elim
  |false=>
   rw[hg]at hk;simp only[cond_false]at hk;obtain⟨us,hu,hus⟩:=h1;obtain⟨vs,hv,hvs⟩:=h2;split at hk
   . rename_i r hr hag;have hq:=run_eqT (P:=P) (G:=G) (w:=w) 12 xt cs ds r hr 9988 (.agg us) (.agg vs) (TVal.agg hag ⟨us,rfl,hus⟩) (TVal.agg hag ⟨vs,rfl,hvs⟩);refine ok_sound h s (show VRel G w none (.ce (.bool r)) (.bool r)from rfl) ?_ hk;have he:=run_eqGuard_agg (P:=P) w .eql xt x y us vs hg;unfold execOp;simp only[ho,hu,hv,Sem.run_bind,he,Result.andThen_ok,run_eql_struct,hq,Sem.run_pure]
   . rename_i r hr hag;have hq:=run_eqT (P:=P) (G:=G) (w:=w) 12 xt cs ds r hr 9988 (.agg us) (.agg vs) (TVal.agg hag ⟨us,rfl,hus⟩) (TVal.agg hag ⟨vs,rfl,hvs⟩);refine ok_sound h s (show VRel G w none (.ce (.bool (!r))) (.bool (!r))from rfl) ?_ hk;have he:=run_eqGuard_agg (P:=P) w .neq xt x y us vs hg;unfold execOp;simp only[ho,hu,hv,Sem.run_bind,he,Result.andThen_ok,run_neq_struct,hq,Sem.run_pure]
   . exact hk.elim
 case h_1 _ _ c d e1 e2=>
 rw[e1]at h1;rw[e2]at h2;split at hk
 . rename_i k m u j q v hc hd;have hx:=isNum_rel h1.of_ce hc;have hy:=isNum_rel h2.of_ce hd;cases hsh:isShift op with
   |true=>
    rw[hsh]at hk;simp only[cond_true]at hk;cases op<;>simp[isShift]at hsh
    . refine one_sound h s (fun _=>intRes_rel _ _ _) (fun hp=>hex _ _ _ hx hy (by simp) (by simp) ?_) hk;simp[binOp,Op.shift,show¬q<0 by omega]
    . refine one_sound h s (fun _=>intRes_rel _ _ _) (fun hp=>hex _ _ _ hx hy (by simp) (by simp) ?_) hk;simp[binOp,Op.shift,show¬q<0 by omega]
   |false=>
    rw[hsh]at hk;simp only[cond_false]at hk;cases hkj:kEq k j with
    |false=>rw[hkj]at hk;exact hk.elim
    |true=>
     rw[hkj]at hk;simp only[cond_true]at hk;obtain rfl:=kEq_eq hkj;cases op<;>first
      |(exact ok_sound h s (intRes_rel _ _ _) (hex _ _ _ hx hy (by simp) (by simp) (by simp[binOp,Op.intArith,Op.intBits,bitsOp])) hk)
      |(exact ok_sound h s (boolRes_rel _ _) (hex _ _ _ hx hy (by simp) (by simp) (by simp[binOp,Op.intCmp])) hk)
      |(exact one_sound h s (fun _=>intRes_rel _ _ _) (fun hp=>hex _ _ _ hx hy (by simp) (by simp) (by simp[binOp,Op.intDiv,show¬q=0 from hp])) hk)
      |exact hk.elim
      |(simp[isShift]at hsh)
 . split at hk
   . rename_i hb hc hu;have hx:=isBool_rel h1.of_ce hb;have hy:=isBool_rel h2.of_ce hc;exact ok_sound h s (boolRes_rel _ _) (hex _ _ _ hx hy (by simp) (by simp) (run_eql_bool hu _ _)) hk
   . rename_i hb hc hu;have hx:=isBool_rel h1.of_ce hb;have hy:=isBool_rel h2.of_ce hc;exact ok_sound h s (boolRes_rel _ _) (hex _ _ _ hx hy (by simp) (by simp) (run_neq_bool hu _ _)) hk
   . exact hk.elim
theorem un_sound(h:Rel n G st a w)(s:Sides n o){op:UnOp}{xt:TypeId}{x:Operand}(ho:o.op= .unOp op xt x)(hk:(unSem op (evalO P st.env o.type x) o.dst).wp st K):o.wp P a w (Post n G w K) Q:=by
 obtain⟨L1,h1⟩:=s.ev (P:=P) h o.type (x:=x) (by rw[ho];simp[Op.operands]);have hex:∀u r,a.eval x=u->(Op.unary op u).run P w= .ok r w->(execOp a.eval o).run P w= .ok (.value r) w:=by
  intro u r hu hr;unfold execOp;simp only[ho,hu,Sem.run_bind,hr,Result.andThen_ok,Sem.run_pure]
 unfold unSem at hk;split at hk;case h_2=>exact hk.elim
 case h_1 c e1=>
 rw[e1]at h1;split at hk
 . rename_i hc;exact ok_sound h s (intRes_rel _ _ _) (hex _ _ (isNum_rel h1.of_ce hc) (by simp[Op.unary,Op.intArith])) hk
 . rename_i hc;exact ok_sound h s (intRes_rel _ _ _) (hex _ _ (isNum_rel h1.of_ce hc) (by simp[Op.unary,Op.intBits,bitsOp])) hk
 . rename_i hc;exact ok_sound h s (boolRes_rel _ _) (hex _ _ (isBool_rel h1.of_ce hc) (by simp[Op.unary])) hk
 . exact hk.elim
theorem convert_sound(h:Rel n G st a w)(s:Sides n o){t1 t2:TypeId}{x:Operand}(ho:o.op= .convert t1 t2 x)(hk:(match P.underlying t1,P.underlying t2,evalO P st.env o.type x with
 |some _,some (.int k), .ce c=>match isNum c with
  |some (_,n,u)=>ok o.dst (intRes k u (k.wrap n))
  |none=> .fail
 |_,_,_=> .fail:OSem).wp st K):o.wp P a w (Post n G w K) Q:=by
 obtain⟨L1,h1⟩:=s.ev (P:=P) h o.type (x:=x) (by rw[ho];simp[Op.operands]);split at hk
 . rename_i d k c hu1 hu2 e1;rw[e1]at h1;split at hk
   . rename_i hc;have hx:=isNum_rel h1.of_ce hc;refine ok_sound h s (intRes_rel _ _ _) ?_ hk;unfold execOp;simp only[ho,hx,convert,Sem.run_bind,run_underlying hu1,run_underlying hu2,Result.andThen_ok];cases d<;>simp[Conv.intToInt]
   . exact hk.elim
 . exact hk.elim
theorem pick_sound(h:Rel n G st a w)(s:Sides n o){c x y:Operand}(ho:o.op= .pick c x y)(hk:(match evalO P st.env o.type c with
 | .ce (.lit true)=>ok o.dst (evalO P st.env o.type x).dis
 | .ce (.lit false)=>ok o.dst (evalO P st.env o.type y).dis
 |_=> .fail:OSem).wp st K):o.wp P a w (Post n G w K) Q:=by
 obtain⟨L0,h0⟩:=s.ev (P:=P) h o.type (x:=c) (by rw[ho];simp[Op.operands]);obtain⟨L1,h1⟩:=s.ev (P:=P) h o.type (x:=x) (by rw[ho];simp[Op.operands]);obtain⟨L2,h2⟩:=s.ev (P:=P) h o.type (x:=y) (by rw[ho];simp[Op.operands]);split at hk
 . rename_i e;rw[e]at h0;have hc:a.eval c= .bool true:=h0;refine ok_sound h s h1.dis ?_ hk;unfold execOp;simp[ho,hc,asBool]
 . rename_i e;rw[e]at h0;have hc:a.eval c= .bool false:=h0;refine ok_sound h s h2.dis ?_ hk;unfold execOp;simp[ho,hc,asBool]
 . exact hk.elim
theorem nilCheck_sound(h:Rel n G st a w)(s:Sides n o){x:Operand}(ho:o.op= .nilCheck x)(hk:(match evalO P st.env o.type x with
 | .ce (.ptr r k)=>ok o.dst (.ce (.ptr r k))
 | .ce (.el ks row k)=>ok o.dst (.ce (.el ks row k))
 | .ce (.mp r sz i k)=>ok o.dst (.ce (.mp r sz i k))
 |_=> .fail:OSem).wp st K):o.wp P a w (Post n G w K) Q:=by
 obtain⟨L1,h1⟩:=s.ev (P:=P) h o.type (x:=x) (by rw[ho];simp[Op.operands]);split at hk
 . rename_i e;rw[e]at h1;obtain⟨b,hb,hv⟩:=h1.of_ce;refine ok_sound h s (show VRel G w none (.ce (.ptr _ _)) (a.eval x)from⟨b,hb,hv⟩) ?_ hk;unfold execOp;simp only[ho,hv];simp
 . rename_i e;rw[e]at h1;obtain⟨b,o',hv,hj⟩:=h1.of_ce;refine ok_sound h s (show VRel G w none (.ce (.el _ _ _)) (a.eval x)from⟨b,o',hv,hj⟩) ?_ hk;unfold execOp;simp only[ho,hv];simp
 . rename_i e;rw[e]at h1;obtain⟨b,hb,hv⟩:=h1.of_ce;refine ok_sound h s (show VRel G w none (.ce (.mp _ _ _ _)) (a.eval x)from⟨b,hb,hv⟩) ?_ hk;unfold execOp;simp only[ho,hv];simp
 . exact hk.elim
theorem extract_sound(h:Rel n G st a w)(s:Sides n o){x:Operand}{i:Nat}(ho:o.op= .extract x i)(hk:(extractSem (evalO P st.env o.type x) i o.dst).wp st K):o.wp P a w (Post n G w K) Q:=by
 obtain⟨L1,h1⟩:=s.ev (P:=P) h o.type (x:=x) (by rw[ho];simp[Op.operands]);unfold extractSem at hk;split at hk
 . rename_i vs e;rw[e]at h1;obtain⟨us,hu,hsz,hr⟩:=h1;split at hk
   . rename_i q hq;obtain⟨u,hu2,hr2⟩:=hr i q hq;have hv:VRel G w none q.hv u:=by cases q<;>exact hr2
     refine ok_sound h s (v:=u) hv.dis ?_ hk;unfold execOp;simp only[ho,hu,Instr.extract];simp[hu2]
   . exact hk.elim
 . exact hk.elim
theorem ARel.map_dis{cs:List HC}{v:Value}(h:ARel G w cs v):ARel G w (cs.map HC.dis) v:=h.map _ fun _ _ hc=>CRel.dis hc
theorem asVal_rel{t:TypeId}{cs:List HC}{hv:HV}{v:Value}(h:asVal P t cs=some hv)(ht:TVal P G w t cs v):VRel G w none hv v:=by
 unfold asVal at h;rcases ht with⟨ha,hr⟩|⟨ha,c,rfl,hr⟩
 . rw[ha]at h;cases h;exact hr
 . rw[ha]at h;cases h;exact hr
theorem asVal_isAgg{t:TypeId}{cs:List HC}{hv:HV}(h:asVal P t cs=some hv):∃b,isAggT P t=some b/\(b=false->∃c,cs=[c]):=by
 unfold asVal at h;split at h
 . rename_i ha;exact⟨true,ha,fun e=>nomatch e⟩
 . rename_i ha;split at h
   . exact⟨false,ha,fun _=>⟨_,rfl⟩⟩
   . cases h
 . cases h
theorem TVal.map_dis{t:TypeId}{cs:List HC}{v:Value}(h:TVal P G w t cs v):TVal P G w t (cs.map HC.dis) v:=by
 rcases h with⟨ha,hr⟩|⟨ha,c,rfl,hr⟩
 . exact .inl ⟨ha,hr.map_dis⟩
 . exact .inr ⟨ha,_,rfl,CRel.dis hr⟩
theorem field_sound(h:Rel n G st a w)(s:Sides n o){t:TypeId}{x:Operand}{f:Nat}(ho:o.op= .field t x f)(hk:(fieldSem P t (evalO P st.env o.type x) f o.dst).wp st K):o.wp P a w (Post n G w K) Q:=by
 obtain⟨L1,h1⟩:=s.ev (P:=P) h o.type (x:=x) (by rw[ho];simp[Op.operands]);unfold fieldSem at hk;split at hk;case h_2=>exact hk.elim
 rename_i fs cs hu e1;rw[e1]at h1;obtain⟨us,hv,hus⟩:=h1;split at hk;case h_2=>exact hk.elim
 rename_i fl hf;split at hk;case h_2=>exact hk.elim
 rename_i m hm;split at hk;case h_2=>exact hk.elim
 rename_i ps hc;split at hk;case h_2=>exact hk.elim
 rename_i hv' has;obtain⟨b,hb,h2⟩:=asVal_isAgg has;obtain⟨u,hu1,ht⟩:=run_part (P:=P) (G:=G) (w:=w) hb hm (vs:=us) ⟨us,rfl,hus⟩ hc (fun e=>by
  obtain⟨c,hc'⟩:=h2 e;cases ps with
  |nil=>cases hc'
  |cons p r=>cases r with
   |nil=>exact⟨p,rfl⟩
   |cons q r=>cases hc');refine ok_sound h s (asVal_rel has ht.map_dis) (v:=u) ?_ hk;unfold execOp;simp only[ho,hv,Instr.field,asAgg,Sem.run_bind,run_underlying hu,Result.andThen_ok,hf,Sem.run_pure,hu1]
theorem fieldAddr_sound(h:Rel n G st a w)(s:Sides n o){t:TypeId}{x:Operand}{f:Nat}(ho:o.op= .fieldAddr t x f)(hk:(fieldAddrSem P t (evalO P st.env o.type x) f o.dst).wp st K):o.wp P a w (Post n G w K) Q:=by
 obtain⟨L1,h1⟩:=s.ev (P:=P) h o.type (x:=x) (by rw[ho];simp[Op.operands]);unfold fieldAddrSem at hk;split at hk;case h_2=>exact hk.elim
 rename_i fs c hu e1;rw[e1]at h1;split at hk;case h_2=>exact hk.elim
 rename_i fl hf;split at hk;case h_2=>exact hk.elim
 rename_i m hm;have hrun:∀b o',a.eval x= .pointer (some (at_ b o'))->(execOp a.eval o).run P w= .ok (.value (.pointer (some (at_ b (o'+fl.offset))))) w:=by
  intro b o' hv;unfold execOp;simp[ho,hv,Instr.fieldAt,Instr.sureAddr,run_underlying hu,hf,fieldPlace,run_sizeOf hm,at_add]
 split at hk
 . rename_i r k;obtain⟨b,hb,hv⟩:=h1.of_ce;exact ok_sound h s (show VRel G w none (.ce (.ptr r (k+fl.offset))) (.pointer (some (at_ b (k+fl.offset))))from⟨b,hb,rfl⟩) (hrun b k hv) hk
 . rename_i ks row k;obtain⟨b,o',hv,hj⟩:=h1.of_ce;refine ok_sound h s (show VRel G w none (.ce (.el ks row (k+fl.offset))) (.pointer (some (at_ b (o'+fl.offset))))from⟨b,_,rfl,fun j hjl=> ?_⟩) (hrun b o' hv) hk;have:=hj (fl.offset+j) (by omega);rw[show k+fl.offset+j=k+(fl.offset+j)by omega,show o'+fl.offset+j=o'+(fl.offset+j)by omega];exact this
 . rename_i r sz i k;obtain⟨b,hb,hv⟩:=h1.of_ce;exact ok_sound h s (show VRel G w none (.ce (.mp r sz i (k+fl.offset))) (.pointer (some (at_ b (i*sz+k+fl.offset))))from⟨b,hb,by rw[Nat.add_assoc]⟩) (hrun b _ hv) hk
 . exact hk.elim
theorem altsWp_mem:∀{l:List (Prop×Upd)}{p:Prop}{u:Upd},altsWp st K l->(p,u)∈l->p->K (st.app u)
 |[(q,v)],p,u,h,hm,hp=>by
  rcases List.mem_cons.1 hm with he|hm
  . cases he;exact h hp
  . cases hm
 |(q,v)::r::l,p,u,h,hm,hp=>by
  obtain⟨h1,h2⟩:=h;rcases List.mem_cons.1 hm with he|hm
  . cases he;exact h1 hp
  . exact altsWp_mem h2 hm hp
theorem idxAlts_mem(i:Int)(f:Nat->Upd):∀{m j:Nat},j<m->(i=(j:Int),f j)∈idxAlts i f m
 |m+1,j,h=>by
  unfold idxAlts;by_cases hj:j<m
  . exact List.mem_append_left _ (idxAlts_mem i f hj)
  . obtain rfl:j=m:=by omega
    exact List.mem_append_right _ (by simp)
theorem idxAlts_at{i:Int}{f:Nat->Upd}{m:Nat}{pre:Prop}(hk:(OSem.alts pre (idxAlts i f m)).wp st K)(hp:pre->0<=i/\i<m):pre/\∃j:Nat,i=j/\j<m/\K (st.app (f j)):=by
 obtain⟨h1,h2⟩:=hk;obtain⟨h3,h4⟩:=hp h1;obtain⟨j,rfl⟩:=Int.eq_ofNat_of_zero_le h3;have hj:j<m:=by omega
 exact⟨h1,j,rfl,hj,altsWp_mem h2 (idxAlts_mem _ f hj) rfl⟩
theorem run_indexAt_arr{t e:TypeId}{len sz:Nat}(hu:P.underlying t=some (.array len e))(hs:sizeT P e=some sz)(k:IntKind)(b o' j:Nat)(hj:j<len):(Instr.indexAt t (.pointer (some (at_ b o'))) (.int k j)).run P w= .ok (.pointer (some (at_ b (o'+j*sz)))) w:=by
 have h2:(j:Int)<len:=by omega
 simp[Instr.indexAt,asIntOf,run_underlying hu,Instr.sureAddr,hj,run_sizeOf hs,at_add]
theorem inLen_spec{i:Int}{len:Nat}(h:inLen i len=true):0<=i/\i<(len:Int):=by
 unfold inLen at h;rw[Bool.and_eq_true]at h;exact⟨of_decide_eq_true h.1,of_decide_eq_true h.2⟩
theorem indexAddr_sound(h:Rel n G st a w)(s:Sides n o){t:TypeId}{x ix:Operand}(ho:o.op= .indexAddr t x ix)(hk:(indexAddrSem P t (evalO P st.env o.type x) (evalO P st.env o.type ix) o.dst).wp st K):o.wp P a w (Post n G w K) Q:=by
 obtain⟨L1,h1⟩:=s.ev (P:=P) h o.type (x:=x) (by rw[ho];simp[Op.operands]);obtain⟨L2,h2⟩:=s.ev (P:=P) h o.type (x:=ix) (by rw[ho];simp[Op.operands]);have hex:∀u v r,a.eval x=u->a.eval ix=v->(Instr.indexAt t u v).run P w= .ok r w->(execOp a.eval o).run P w= .ok (.value r) w:=by
  intro u v r hu hv hr;unfold execOp;simp only[ho,hu,hv,Sem.run_bind,hr,Result.andThen_ok,Sem.run_pure]
 unfold indexAddrSem at hk;split at hk
 . rename_i len e c ic hu e1 e2;rw[e1]at h1;rw[e2]at h2;split at hk;case h_2=>exact hk.elim
   rename_i k i kn sz hi hs;have hiv:=isNum_rel h2.of_ce hi;split at hk
   . rename_i r k';obtain⟨b,hb,hv⟩:=h1.of_ce;cases kn with
     |true=>
      simp only[cond_true]at hk;cases hin:inLen i len with
      |false=>rw[hin]at hk;exact hk.elim
      |true=>
      rw[hin]at hk;simp only[cond_true]at hk;have hp:=inLen_spec hin;refine ok_sound h s (show VRel G w none (.ce (.ptr r (k'+i.toNat*sz))) (.pointer (some (at_ b (k'+i.toNat*sz))))from⟨b,hb,rfl⟩) ?_ hk;obtain⟨j,rfl⟩:=Int.eq_ofNat_of_zero_le hp.1;exact hex _ _ _ hv hiv (run_indexAt_arr hu hs k b k' j (by omega))
     |false=>
      simp only[cond_false]at hk;obtain⟨hp,j,rfl,hj,hkj⟩:=idxAlts_at hk (fun h=>h);exact pure_sound h s.le s.dst (show VRel G w none (.ce (.ptr r (k'+j*sz))) (.pointer (some (at_ b (k'+j*sz))))from⟨b,hb,rfl⟩) (hex _ _ _ hv hiv (run_indexAt_arr hu hs k b k' j hj)) hkj
   . rename_i ks row k';obtain⟨b,o',hv,hj⟩:=h1.of_ce;have hrel:∀j:Nat,VRel G w none (.ce (.el ks row (k'+j*sz))) (.pointer (some (at_ b (o'+j*sz)))):=fun j=>⟨b,_,rfl,fun q hq=>by
       have:=hj (j*sz+q) (by omega);rw[show k'+j*sz+q=k'+(j*sz+q)by omega,show o'+j*sz+q=o'+(j*sz+q)by omega];exact this⟩;cases kn with
     |true=>
      simp only[cond_true]at hk;cases hin:inLen i len with
      |false=>rw[hin]at hk;exact hk.elim
      |true=>
      rw[hin]at hk;simp only[cond_true]at hk;have hp:=inLen_spec hin;refine ok_sound h s (hrel i.toNat) ?_ hk;obtain⟨j,rfl⟩:=Int.eq_ofNat_of_zero_le hp.1;exact hex _ _ _ hv hiv (run_indexAt_arr hu hs k b o' j (by omega))
     |false=>
      simp only[cond_false]at hk;obtain⟨hp,j,rfl,hj',hkj⟩:=idxAlts_at hk (fun h=>h);exact pure_sound h s.le s.dst (hrel j) (hex _ _ _ hv hiv (run_indexAt_arr hu hs k b o' j hj')) hkj
   . exact hk.elim
 . rename_i e ks ll ic hu e1 e2;rw[e1]at h1;rw[e2]at h2;split at hk;case h_2=>exact hk.elim
   rename_i k i kn hi hs;have hiv:=isNum_rel h2.of_ce hi;obtain⟨b,off,cap,hv,hc⟩:=h1.of_ce;obtain⟨⟨hp0,hp1⟩,hk⟩:=hk;obtain⟨j,rfl⟩:=Int.eq_ofNat_of_zero_le hp0;have hj:j<ll.length:=by omega
   obtain⟨u,hu1,hu2⟩:=hc j hj;refine pure_sound h s.le s.dst (show VRel G w none (.ce (.el2 ks (ll.getD (j:Int).toNat []))) (.pointer (some (at_ b (off+j))))from⟨b,off+j,u,rfl,hu1,by simpa using hu2⟩) (hex _ _ _ hv hiv ?_) hk;simp[Instr.indexAt,asIntOf,run_underlying hu,hj,run_sizeOf hs,at_add]
 . rename_i e r m cap ic hu e1 e2;rw[e1]at h1;rw[e2]at h2;split at hk;case h_2=>exact hk.elim
   rename_i k i kn sz hi hs;have hiv:=isNum_rel h2.of_ce hi;obtain⟨b,hb,hv,hcap,hm⟩:=h1.of_ce;obtain⟨⟨hp0,hp1⟩,hk⟩:=hk;obtain⟨j,rfl⟩:=Int.eq_ofNat_of_zero_le hp0;have hj:j<m:=by omega
   refine pure_sound h s.le s.dst (show VRel G w none (.ce (.mp r sz (j:Int).toNat 0)) (.pointer (some (at_ b (0+j*sz))))from⟨b,hb,by simp⟩) (hex _ _ _ hv hiv ?_) hk;simp[Instr.indexAt,asIntOf,run_underlying hu,hj,run_sizeOf hs,at_add]
 . rename_i e own ks rows ic hu e1 e2;rw[e1]at h1;rw[e2]at h2;split at hk;case h_2=>exact hk.elim
   rename_i k i kn sz hi hs;have hiv:=isNum_rel h2.of_ce hi;cases hsz:Nat.beq sz ks.length with
   |false=>rw[hsz]at hk;exact hk.elim
   |true=>
    rw[hsz]at hk;simp only[cond_true]at hk;have hsz':=Nat.eq_of_beq_eq_true hsz;obtain⟨ad,cap,hv,hcap,hm,hr⟩:=h1.of_ce;obtain⟨⟨hp0,hp1⟩,hk⟩:=hk;obtain⟨j,rfl⟩:=Int.eq_ofNat_of_zero_le hp0;have hj:j<rows.length:=by omega
    rcases hr with⟨_,hl,_⟩|⟨b,off,rfl,hcells,_⟩
    . omega
    . refine pure_sound h s.le s.dst (show VRel G w none (.ce (.el ks (rows.getD (j:Int).toNat []) 0)) (.pointer (some (at_ b (off+j*ks.length))))from⟨b,off+j*ks.length,rfl,fun q hq=> ?_⟩) (hex _ _ _ hv hiv ?_) hk
      . have:=hcells j q hj (by omega);simp only[Nat.zero_add,Int.toNat_natCast];rw[Nat.add_assoc];exact this
      . simp[Instr.indexAt,asIntOf,run_underlying hu,hj,run_sizeOf hs,at_add,hsz']
 . exact hk.elim
theorem arrIdx_sound(h:Rel n G st a w)(s:Sides n o){t:TypeId}{x ix:Operand}{r:Nat}(ho:o.op= .indexAddr t x ix)(e1:evalO P st.env o.type x= .ce (.ptr r 0))(hk:(arrIdxSem P t r (evalO P st.env o.type ix) o.dst).wp st K):o.wp P a w (Post n G w K) Q:=by
 obtain⟨L1,h1⟩:=s.ev (P:=P) h o.type (x:=x) (by rw[ho];simp[Op.operands]);obtain⟨L2,h2⟩:=s.ev (P:=P) h o.type (x:=ix) (by rw[ho];simp[Op.operands]);rw[e1]at h1;have hex:∀u v r,a.eval x=u->a.eval ix=v->(Instr.indexAt t u v).run P w= .ok r w->(execOp a.eval o).run P w= .ok (.value r) w:=by
  intro u v r hu hv hr;unfold execOp;simp only[ho,hu,hv,Sem.run_bind,hr,Result.andThen_ok,Sem.run_pure]
 unfold arrIdxSem at hk;split at hk;case h_2=>exact hk.elim
 rename_i len e ic hu e2;rw[e2]at h2;split at hk;case h_2=>exact hk.elim
 rename_i k i kn sz hi hs;have hiv:=isNum_rel h2.of_ce hi;obtain⟨b,hb,hv⟩:=h1.of_ce;refine one_sound h s (fun _=>(show VRel G w none (.ce (.mp r sz i.toNat 0)) (.pointer (some (at_ b (0+i.toNat*sz))))from⟨b,hb,by simp⟩)) (fun hp=> ?_) hk;obtain⟨j,rfl⟩:=Int.eq_ofNat_of_zero_le hp.1;exact hex _ _ _ hv hiv (run_indexAt_arr hu hs k b 0 j (by omega))
theorem strIdx_sound(h:Rel n G st a w)(s:Sides n o){t:TypeId}{str:ByteArray}{ix:Operand}(ho:o.op= .index t (.const (.string str)) ix)(hk:(strIdxSem P t str (evalO P st.env o.type ix) o.dst).wp st K):o.wp P a w (Post n G w K) Q:=by
 obtain⟨L2,h2⟩:=s.ev (P:=P) h o.type (x:=ix) (by rw[ho];simp[Op.operands]);unfold strIdxSem at hk;split at hk;case h_2=>exact hk.elim
 rename_i ic hu e2;rw[e2]at h2;split at hk;case h_2=>exact hk.elim
 rename_i k i kn hi;have hiv:=isNum_rel h2.of_ce hi;refine one_sound h s (hv:= .ce (.int .u8 (strAt str i.toNat))) (v:= .int .u8 (strAt str i.toNat)) (fun _=>rfl) (fun hp=> ?_) hk;have hlt:i.toNat<str.size:=by omega
 have hx:a.eval (.const (.string str))= .string str:=rfl;unfold execOp;simp only[ho,hx,hiv,Instr.index,asIntOf,Sem.run_bind,Sem.run_pure,run_underlying hu,Result.andThen_ok,if_pos hp.1];have hg:str[i.toNat]?=some (str[i.toNat]'hlt):=getElem?_pos str i.toNat hlt;rw[hg];have hd:str.data.getD i.toNat 0=str[i.toNat]'hlt:=by
  have hlt':i.toNat<str.data.size:=hlt;rw[Array.getD_eq_getD_getElem?,Array.getElem?_eq_getElem hlt'];rfl
 simp[strAt,hd]
theorem strIdx2_sound(h:Rel n G st a w)(s:Sides n o){t:TypeId}{str:ByteArray}{x ix:Operand}(ho:o.op= .index t x ix)(e1:evalO P st.env o.type x= .ce (.str str))(hk:(strIdxSem P t str (evalO P st.env o.type ix) o.dst).wp st K):o.wp P a w (Post n G w K) Q:=by
 obtain⟨L1,h1⟩:=s.ev (P:=P) h o.type (x:=x) (by rw[ho];simp[Op.operands]);obtain⟨L2,h2⟩:=s.ev (P:=P) h o.type (x:=ix) (by rw[ho];simp[Op.operands]);rw[e1]at h1;have hx:a.eval x= .string str:=h1.of_ce;unfold strIdxSem at hk;split at hk;case h_2=>exact hk.elim
 rename_i ic hu e2;rw[e2]at h2;split at hk;case h_2=>exact hk.elim
 rename_i k i kn hi;have hiv:=isNum_rel h2.of_ce hi;refine one_sound h s (hv:= .ce (.int .u8 (strAt str i.toNat))) (v:= .int .u8 (strAt str i.toNat)) (fun _=>rfl) (fun hp=> ?_) hk;have hlt:i.toNat<str.size:=by omega
 unfold execOp;simp only[ho,hx,hiv,Instr.index,asIntOf,Sem.run_bind,Sem.run_pure,run_underlying hu,Result.andThen_ok,if_pos hp.1];have hg:str[i.toNat]?=some (str[i.toNat]'hlt):=getElem?_pos str i.toNat hlt;rw[hg];have hd:str.data.getD i.toNat 0=str[i.toNat]'hlt:=by
  have hlt':i.toNat<str.data.size:=hlt;rw[Array.getD_eq_getD_getElem?,Array.getElem?_eq_getElem hlt'];rfl
 simp[strAt,hd]
theorem index_sound(h:Rel n G st a w)(s:Sides n o){t:TypeId}{x ix:Operand}(ho:o.op= .index t x ix)(hk:(indexSem P t (evalO P st.env o.type x) (evalO P st.env o.type ix) o.dst).wp st K):o.wp P a w (Post n G w K) Q:=by
 obtain⟨L1,h1⟩:=s.ev (P:=P) h o.type (x:=x) (by rw[ho];simp[Op.operands]);obtain⟨L2,h2⟩:=s.ev (P:=P) h o.type (x:=ix) (by rw[ho];simp[Op.operands]);unfold indexSem at hk;split at hk;case h_2=>exact hk.elim
 rename_i len e cs ic hu e1 e2;rw[e1]at h1;rw[e2]at h2;obtain⟨us,hv,hus⟩:=h1;split at hk;case h_2=>exact hk.elim
 rename_i k i kn sz hi hs;have hiv:=isNum_rel h2.of_ce hi;cases hle:(Nat.ble (len*sz) cs.length&&elemFits P e sz)with
 |false=>rw[hle]at hk;exact hk.elim
 |true=>
  rw[hle]at hk;simp only[cond_true]at hk;rw[Bool.and_eq_true]at hle;obtain⟨hle,hfits⟩:=hle;have hle':=Nat.le_of_ble_eq_true hle;have hel:∀j:Nat,j<len->∀hv',asVal P e (((cs.drop (j*sz)).take sz).map HC.dis)=some hv'->∃u,VRel G w none hv' u/\(a.eval ix= .int k j->(execOp a.eval o).run P w= .ok (.value u) w):=by
   intro j hj hv' has;have hfit:j*sz+sz<=cs.length:=by
    have:(j+1)*sz<=len*sz:=Nat.mul_le_mul_right _ hj;rw[Nat.succ_mul]at this;omega
   have hc:cut cs (j*sz) sz=some ((cs.drop (j*sz)).take sz):=by
    unfold cut;rw[Nat.ble_eq_true_of_le hfit];rfl
   obtain⟨b,hb,h2⟩:=asVal_isAgg has;obtain⟨u,hu1,ht⟩:=run_part (P:=P) (G:=G) (w:=w) hb hs (vs:=us) ⟨us,rfl,hus⟩ hc (fun e=>by
    obtain⟨c,hc'⟩:=h2 e;generalize(cs.drop (j*sz)).take sz=ps at hc';cases ps with
    |nil=>cases hc'
    |cons p r=>cases r with
     |nil=>exact⟨p,rfl⟩
     |cons q r=>cases hc');refine⟨u,asVal_rel has ht.map_dis,fun hix=> ?_⟩;unfold execOp;have h2:(j:Int)<len:=by omega
   simp only[ho,hv,hix,Instr.index,asIntOf,Sem.run_bind,Sem.run_pure,run_underlying hu,Result.andThen_ok];simp[hj,run_sizeOf hs,hu1]
  cases kn with
  |true=>
   simp only[cond_true]at hk;split at hk;case h_2=>exact hk.elim
   rename_i hv' has;cases hin:inLen i len with
   |false=>rw[hin]at hk;exact hk.elim
   |true=>
   rw[hin]at hk;simp only[cond_true]at hk;obtain⟨hp0,hp1⟩:=inLen_spec hin;obtain⟨j,rfl⟩:=Int.eq_ofNat_of_zero_le hp0;simp only[Int.toNat_natCast]at has;obtain⟨u,hr,hrun⟩:=hel j (by omega) hv' has;exact pure_sound h s.le s.dst hr (hrun hiv) hk
  |false=>
   simp only[cond_false]at hk;obtain⟨hp,j,rfl,hj,hkj⟩:=idxAlts_at hk (fun h=>h);cases has:asVal P e (((cs.drop (j*sz)).take sz).map HC.dis)with
   |some hv'=>
    simp only[has]at hkj;obtain⟨u,hr,hrun⟩:=hel j hj hv' has;exact pure_sound h s.le s.dst hr (hrun hiv) hkj
   |none=>
    exfalso;have hfit:j*sz+sz<=cs.length:=by
     have:(j+1)*sz<=len*sz:=Nat.mul_le_mul_right _ hj;rw[Nat.succ_mul]at this;omega
    unfold asVal at has;unfold elemFits at hfits;cases hag:isAggT P e with
    |none=>rw[hag]at hfits;cases hfits
    |some b=>
     rw[hag]at has hfits;cases b with
     |true=>cases has
     |false=>
      have h1:sz=1:=Nat.eq_of_beq_eq_true hfits;subst h1;have hl:(((cs.drop (j*1)).take 1).map HC.dis).length=1:=by simp;omega
      generalize((cs.drop (j*1)).take 1).map HC.dis=l at hl has;match l,hl with
      |[x],_=>cases has
def CsRel(G:Ghost)(w:World)(cs:List HC)(vs:Array Value):Prop:=vs.size=cs.length/\∀(j:Nat)(c:HC),cs[j]?=some c->∃u,vs[j]?=some u/\CRel G w none c u
theorem CRel.plain{L:Option Loc}{c:HC}{v:Value}(h:CRel G w L c v):CRel G w L c.plain v:=by
 cases c with
 |ptr r o=>exact CRel.oneCell (c:= .ptr r o) h
 |el ks row off=>exact CRel.oneCell (c:= .el ks row off) h
 |nilp=>exact CRel.oneCell (c:= .nilp) h
 |msl r n cap=>exact CRel.oneCell (c:= .msl r n cap) h
 |pin r z off n cap=>exact CRel.oneCell (c:= .pin r z off n cap) h
 |mp r s i k=>exact CRel.oneCell (c:= .mp r s i k) h
 |el2 ks rows=>exact CRel.oneCell (c:= .el2 ks rows) h
 |mapv r=>exact CRel.oneCell (c:= .mapv r) h
 |_=>exact h
theorem CRel.kept{L:Option Loc}{c:HC}{v:Value}(h:CRel G w L c v):CRel G w L c.kept v:=by
 cases c with
 |ptr r o=>exact h
 |sl _ _ _=>exact h
 |el ks row o=>exact CRel.plain (c:= .el ks row o) h
 |nilp=>exact CRel.plain (c:= .nilp) h
 |msl r n cap=>exact h
 |pin r z off n cap=>exact CRel.plain (c:= .pin r z off n cap) h
 |mp r s i k=>exact CRel.plain (c:= .mp r s i k) h
 |el2 ks rows=>exact CRel.plain (c:= .el2 ks rows) h
 |mapv r=>exact CRel.plain (c:= .mapv r) h
 |_=>exact h
theorem cells_one{v:Value}(h:v.oneCell'=true):v.cells= #[v]:=by
 cases v<;>first|rfl|cases h
theorem cells_rel{L:Option Loc}{hv:HV}{v:Value}{cs:List HC}(h:VRel G w L hv v)(hc:hv.cells=some cs):CsRel G w cs v.cells:=by
 cases hv with
 |ce c=>
  cases hc;have h1:CRel G w none c v:=CRel.drop h;rw[cells_one (CRel.oneCell h)];refine⟨rfl,fun j c' hj=> ?_⟩;match j,hj with
  |0,hj=>cases hj;exact⟨v,rfl,h1⟩
  |j+1,hj=>cases hj
 |agg ds=>
  cases hc;obtain⟨vs,rfl,hs,hr⟩:=h;exact⟨hs,hr⟩
 |tup _=>cases hc
 |zs _ _=>cases hc
 |junk=>cases hc
theorem CsRel.map{cs:List HC}{vs:Array Value}(f:HC->HC)(hf:∀c u,CRel G w none c u->CRel G w none (f c) u)(h:CsRel G w cs vs):CsRel G w (cs.map f) vs:=by
 refine⟨by simpa using h.1,fun j c hc=> ?_⟩;rw[List.getElem?_map]at hc;cases hj:cs[j]? with
 |none=>simp[hj]at hc
 |some x=>
  simp[hj]at hc;subst hc;obtain⟨u,hu,hr⟩:=h.2 j x hj;exact⟨u,hu,hf x u hr⟩
theorem CsRel.set{cs:List HC}{vs:Array Value}(h:CsRel G w cs vs)(j:Nat){c:HC}{v:Value}(hc:CRel G w none c v):CsRel G w (cs.set j c) (vs.setIfInBounds j v):=by
 refine⟨by simpa using h.1,fun i d hd=> ?_⟩;rw[List.getElem?_set]at hd;by_cases hij:j=i
 . subst hij;rw[if_pos rfl]at hd;split at hd
   . rename_i hlt;cases hd;exact⟨v,by rw[Array.getElem?_setIfInBounds_self_of_lt (by rw[h.1];exact hlt)],hc⟩
   . cases hd
 . rw[if_neg hij]at hd;obtain⟨u,hu,hr⟩:=h.2 i d hd;exact⟨u,by rw[Array.getElem?_setIfInBounds_ne hij];exact hu,hr⟩
theorem CRel.pd{L:Option Loc}{c:HC}{v:Value}(h:CRel G w L c v):CRel G w none c.plain.dis v:=CRel.dis (CRel.plain h)
theorem CRel.kd{L:Option Loc}{c:HC}{v:Value}(h:CRel G w L c v):CRel G w none c.kept.dis v:=CRel.dis (CRel.kept h)
theorem setAt_fold:∀(ps:List HC)(us:List Value)(cs:List HC)(vs:Array Value)(off k:Nat),CsRel G w cs vs->us.length=ps.length->(∀(j:Nat)(c:HC),ps[j]?=some c->∃u,us[j]?=some u/\CRel G w none c u)->CsRel G w (setAt cs (off+k) ps) ((us.zipIdx k).foldl (fun cs x=>cs.setIfInBounds (off+x.2) x.1) vs)
 |[],us,cs,vs,off,k,h,hl,_=>by
  have:us=[]:=List.eq_nil_of_length_eq_zero (by simpa using hl);subst this;exact h
 |p::ps,us,cs,vs,off,k,h,hl,hr=>by
  match us,hl with
  |u::us,hl=>
   rw[List.zipIdx_cons,List.foldl_cons];obtain⟨u',hu',hp⟩:=hr 0 p rfl;cases hu';exact setAt_fold ps us _ _ off (k+1) (h.set (off+k) hp.kd) (by simpa using hl) (fun j c hj=>by
    obtain⟨u,hu,hc⟩:=hr (j+1) c (by simpa using hj);exact⟨u,by simpa using hu,hc⟩)
theorem fill_rel(pl:Nat->Option (Nat×Nat))(ev:Operand->HV)(ρ:Operand->Value):∀(l:List (Nat×Operand))(cs:List HC)(vs:Array Value)(cs':List HC),CsRel G w cs vs->(∀p∈l,∃L,VRel G w L (ev p.2) (ρ p.2))->hfill pl cs (l.map fun p=>(p.1,ev p.2))=some cs'->∃vs',Instr.fill pl vs (l.map fun p=>(p.1,ρ p.2))=some vs'/\CsRel G w cs' vs'
 |[],cs,vs,cs',h,_,hf=>by cases hf;exact⟨vs,rfl,h⟩
 |(i,x)::l,cs,vs,cs',h,hr,hf=>by
  rw[List.map_cons]at hf⊢;unfold hfill at hf;split at hf
  . rename_i off size ps hpl hc;cases hb:(Nat.beq ps.length size&&Nat.ble (off+ps.length) cs.length)with
    |false=>rw[hb]at hf;cases hf
    |true=>
     rw[hb]at hf;simp only[cond_true]at hf;rw[Bool.and_eq_true]at hb;have h1:=Nat.eq_of_beq_eq_true hb.1;have h2:=Nat.le_of_ble_eq_true hb.2;obtain⟨L,hv⟩:=hr (i,x) (by simp);have hcs:CsRel G w ps (ρ x).cells:=cells_rel hv hc;have hstep:=setAt_fold ps (ρ x).cells.toList cs vs off 0 h (by simpa using hcs.1) (fun j c hj=>by
      obtain⟨u,hu,hr⟩:=hcs.2 j c hj;exact⟨u,by simpa using hu,hr⟩);obtain⟨vs',hf',hr'⟩:=fill_rel pl ev ρ l _ _ cs' hstep (fun p hp=>hr p (List.mem_cons_of_mem _ hp)) hf;refine⟨vs',?_,hr'⟩;unfold Instr.fill;simp only[hpl];rw[if_neg]
     . rw[<-hf'];congr 1;rw[<-Array.foldl_toList,Array.toList_zipIdx]
     . have:=hcs.1;have:=h.1;simp;omega
  . cases hf
theorem zmatches_rel:∀{cs:List HC}{vs:List Value},zmatches cs vs=true->vs.length=cs.length/\∀(j:Nat)(c:HC),cs[j]?=some c->∃u,vs[j]?=some u/\∀(L:Option Loc),CRel G w L c u/\∀r o,BRel G w r o c u
 |[],[],_=>⟨rfl,fun j c h=>by simp at h⟩
 |c::cs,v::vs,h=>by
  unfold zmatches at h;rw[Bool.and_eq_true]at h;obtain⟨h1,h2⟩:=h;obtain⟨hl,hr⟩:=zmatches_rel h2;refine⟨by simp[hl],fun j d hd=> ?_⟩;match j,hd with
  |j+1,hd=>exact hr j d hd
  |0,hd=>
   cases hd;refine⟨v,rfl,fun L=> ?_⟩;unfold zmatch at h1;split at h1
   . simp at h1;subst h1;exact⟨rfl,fun _ _=>rfl⟩
   . rw[Bool.and_eq_true]at h1;obtain⟨e1,e2⟩:=h1;obtain rfl:=kEq_eq e1;simp at e2;subst e2;exact⟨rfl,fun _ _=>rfl⟩
   . exact⟨rfl,fun _ _=>rfl⟩
   . exact⟨rfl,fun _ _=>rfl⟩
   . cases h1
 |[],_::_,h=>by cases h
 |_::_,[],h=>by cases h
theorem zeroCs_spec{t:TypeId}{cs:List HC}(h:zeroCs P t=some cs):∃i z,P.info? t=some i/\i.zero=some z/\i.size=cs.length/\zmatches cs z.cells.toList=true:=by
 unfold zeroCs at h;split at h
 . rename_i cs' i hz hi;split at h
   . rename_i z hzz;cases hb:(zmatches cs' z.cells.toList&&Nat.beq i.size cs'.length)with
     |false=>rw[hb]at h;cases h
     |true=>
      rw[hb]at h;cases h;rw[Bool.and_eq_true]at hb;exact⟨i,z,hi,hzz,Nat.eq_of_beq_eq_true hb.2,hb.1⟩
   . cases h
 . cases h
theorem run_fieldPlaces:∀(fs:List Field)(pl:List (Nat×Nat)),fieldPlaces P fs=some pl->(fs.mapM fun f=>(do pure (f.offset,<-sizeOf f.type):Sem (Nat×Nat))).run P w= .ok pl w
 |[],pl,h=>by simp[fieldPlaces]at h;subst h;simp
 |f::fs,pl,h=>by
  unfold fieldPlaces at h;rw[List.mapM_cons]at h;cases hs:sizeT P f.type with
  |none=>simp[hs]at h
  |some m=>
   cases hr:fieldPlaces P fs with
   |none=>unfold fieldPlaces at hr;simp[hs,hr]at h
   |some l=>
    have ih:=run_fieldPlaces fs l hr;unfold fieldPlaces at hr;simp[hs,hr]at h;subst h;rw[List.mapM_cons];simp only[Sem.run_bind,run_sizeOf hs,Result.andThen_ok,Sem.run_pure,ih]
theorem build_sound(h:Rel n G st a w)(s:Sides n o){t:TypeId}{parts:Array (Nat×Operand)}(ho:o.op= .build t parts)(hk:(buildSem P t (parts.toList.map fun p=>(p.1,evalO P st.env o.type p.2)) o.dst).wp st K):o.wp P a w (Post n G w K) Q:=by
 have hops:∀p∈parts.toList,∃L,VRel G w L (evalO P st.env o.type p.2) (a.eval p.2):=fun p hp=>s.ev (P:=P) h o.type (x:=p.2) (by rw[ho];simp only[Op.operands];simp;exact⟨p.1,by simpa using hp⟩);have hz:∀{cs:List HC}{i:TypeInfo}{z:Value},zmatches cs z.cells.toList=true->CsRel G w cs z.cells:=by
  intro cs i z hm;obtain⟨hl,hr⟩:=zmatches_rel (G:=G) (w:=w) hm;refine⟨by simpa using hl,fun j c hj=> ?_⟩;obtain⟨u,hu,hc⟩:=hr j c hj;exact⟨u,by simpa using hu,(hc none).1⟩
 have hpm:(parts.map fun(i,x)=>(i,a.eval x)).toList=parts.toList.map fun p=>(p.1,a.eval p.2):=by simp
 unfold buildSem at hk;split at hk
 . rename_i z fs hzc hu;obtain⟨i,zv,hi,hzv,hsz,hm⟩:=zeroCs_spec hzc;split at hk;case h_2=>exact hk.elim
   rename_i pl hpl;split at hk;case h_2=>exact hk.elim
   rename_i cs hf;obtain⟨vs',hfill,hr⟩:=fill_rel (G:=G) (w:=w) (pl[·]?) (evalO P st.env o.type) a.eval parts.toList z zv.cells cs (hz (i:=i) hm) hops hf;refine ok_sound h s (show VRel G w none (.agg cs) (.agg vs')from⟨vs',rfl,hr.1,hr.2⟩) ?_ hk;unfold execOp;simp only[ho,Instr.build,Sem.run_bind,zeroValue,typeInfo,run_program,hi,hzv,Result.andThen_ok,Sem.run_pure,run_underlying hu];rw[Array.mapM_eq_mapM_toList];have hmm:=run_fieldPlaces (P:=P) (w:=w) fs.toList pl hpl;rw[Sem.run_map,hmm];simp only[Result.andThen_ok];have hgf:(fun x:Nat=>pl.toArray[x]?)=fun x=>pl[x]?:=by funext x;simp
   rw[hgf,hpm,hfill];rfl
 . rename_i z len e hzc hu;obtain⟨i,zv,hi,hzv,hsz,hm⟩:=zeroCs_spec hzc;split at hk;case h_2=>exact hk.elim
   rename_i sz hs;split at hk;case h_2=>exact hk.elim
   rename_i cs hf;obtain⟨vs',hfill,hr⟩:=fill_rel (G:=G) (w:=w) (fun i=>some (i*sz,sz)) (evalO P st.env o.type) a.eval parts.toList z zv.cells cs (hz (i:=i) hm) hops hf;refine ok_sound h s (show VRel G w none (.agg cs) (.agg vs')from⟨vs',rfl,hr.1,hr.2⟩) ?_ hk;unfold execOp;simp only[ho,Instr.build,Sem.run_bind,zeroValue,typeInfo,run_program,hi,hzv,Result.andThen_ok,Sem.run_pure,run_underlying hu,run_sizeOf hs];rw[hpm,hfill];rfl
 . exact hk.elim
def Ghost.give(G:Ghost)(b:Nat)(L:Loc):Ghost:={G with owner:=upd G.owner b (some L)}
theorem upd_some{α:Type}{f:Nat->Option α}{b x:Nat}{v u:α}(h:upd f b (some v) x=some u):(x=b/\u=v)∨f x=some u:=by
 by_cases hx:x=b
 . subst hx;rw[upd_same]at h;cases h;exact .inl ⟨rfl,rfl⟩
 . rw[upd_ne _ _ hx]at h;exact .inr h
theorem Pres.give{b:Nat}{L L':Loc}(hb:G.owner b=some L):Pres G w (G.give b L') w (fun x=>x≠L):=⟨fun _ _ h=>⟨h,rfl⟩,fun _ _ h=>h,fun b' L'' hL h=>by
  have hne:b'≠b:=fun e=>by subst e;rw[hb]at h;cases h;exact hL rfl
  exact⟨(upd_ne _ _ hne).trans h,rfl,fun _ h=>h⟩⟩
theorem Evolves.give{b:Nat}{L L':Loc}(hb:G.owner b=some L):Evolves G w (G.give b L') w:=⟨rfl,rfl,rfl,Nat.le_refl _,fun _ _ h=>⟨h,rfl⟩,fun b' _ h=>by
  have hne:b'≠b:=fun e=>by subst e;rw[hb]at h;cases h
  exact⟨(upd_ne _ _ hne).trans h,rfl,fun _ h=>h⟩,fun _ _ _ h=>h⟩
theorem Mem.give{bx:Nat->Option (List HC)}{b d s:Nat}(h:Mem G bx w)(hb:G.owner b=some (.tmp s)):Mem (G.give b (.tmp d)) bx w:=⟨fun r cells hr=>(h.box r cells hr).pres (Pres.give hb) (by simp) (by simp),h.beta,fun b' L hL=>by
  rcases upd_some hL with⟨rfl,_⟩|hL
  . exact h.own _ _ hb
  . exact h.own _ _ hL,h.imm⟩
theorem env_take{env:Nat->HV}{d s:Nat}{v f:HV}(hd:d<100000)(x:Nat)(hx:x<100000):setsTo env [(d,v),(FL d,f),(FL s, .ce (.lit false))] x=(if x=d then v else env x)/\flagL (setsTo env [(d,v),(FL d,f),(FL s, .ce (.lit false))]) x=(if x=s then none else if x=d then(bif isOwn f then some (.tmp d)else none)else flagL env x):=by
 constructor
 . show upd (upd (upd env d v) (FL d) f) (FL s) _ x=_;rw[upd_ne _ _ (Ne.symm (FL_ne hx)),upd_ne _ _ (Ne.symm (FL_ne hx))];split
   . rename_i h;subst h;exact upd_same _ _ _
   . rename_i h;exact upd_ne _ _ h
 . unfold flagL;show(bif isOwn (upd (upd (upd env d v) (FL d) f) (FL s) (.ce (.lit false)) (FL x))then some (Loc.tmp x)else none)=_;split
   . rename_i h;subst h;rw[upd_same];rfl
   . rename_i h;rw[upd_ne _ _ (fun e=>h (FL_inj e))];split
     . rename_i h2;subst h2;rw[upd_same]
     . rename_i h2;rw[upd_ne _ _ (fun e=>h2 (FL_inj e)),upd_ne _ _ (FL_ne hd)]
theorem slv_rel{G:Ghost}{w:World}{L:Option Loc}{z:Bool}{ks:List Nat}{rows:List (List Int)}{v:Value}(h:SRel G w L ks rows v)(hz:z=true->ZOff v):VRel G w L (slv z ks rows) v:=by
 cases z with
 |false=>exact h
 |true=>exact⟨h,hz rfl⟩
theorem slv_of{G:Ghost}{w:World}{L:Option Loc}{x:HV}{z:Bool}{ks:List Nat}{rows:List (List Int)}{v:Value}(h:VRel G w L x v)(e:isSlv x=some (z,ks,rows)):SRel G w L ks rows v/\(z=true->ZOff v):=by
 cases x with
 |ce c=>cases c with
  |sl o ks2 rows2=>cases e;exact⟨h,fun e=>nomatch e⟩
  |_=>cases e
 |zs ks2 rows2=>cases e;exact⟨h.1,fun _=>h.2⟩
 |_=>cases e
theorem take_rel(h:Rel n G st a w)(hn:n<=100000){d s:Nat}(hd:d<n){z:Bool}{ks:List Nat}{rows:List (List Int)}{v:Value}(hv:SRel G w (flagL st.env s) ks rows v)(hz:z=true->ZOff v):∃G',Rel n G' {st with env:=setsTo st.env [(d,slv z ks rows),(FL d, .ce (.lit (isOwn (st.env (FL s))))),(FL s, .ce (.lit false))]} (a.put (some d) v) w/\Evolves G w G' w:=by
 have hd5:d<100000:=Nat.lt_of_lt_of_le hd hn;have key:∀G':Ghost,Pres G w G' w (fun x=>x≠ .tmp s)->Mem G' st.box w->(d≠s->SRel G' w (bif isOwn (st.env (FL s))then some (.tmp d)else none) ks rows v)->SRel G' w none ks rows v->Rel n G' {st with env:=setsTo st.env [(d,slv z ks rows),(FL d, .ce (.lit (isOwn (st.env (FL s))))),(FL s, .ce (.lit false))]} (a.put (some d) v) w:=by
  intro G' hp hm h1 h2;refine⟨by rw[put_defers];exact h.defers,by rw[put_size];exact h.size,fun x hx=> ?_,hm⟩;obtain⟨e1,e2⟩:=env_take (env:=st.env) (s:=s) (v:=slv z ks rows) (f:= .ce (.lit (isOwn (st.env (FL s))))) hd5 x hx;show VRel G' w (flagL (setsTo st.env _) x) (setsTo st.env _ x) _;by_cases hxd:x=d
  . subst hxd;rw[e1,e2,tmps_put_same (by rw[h.size];exact hd)];by_cases hxs:x=s
    . rw[if_pos hxs,if_pos rfl];exact slv_rel h2 hz
    . rw[if_neg hxs,if_pos rfl,if_pos rfl];exact slv_rel (h1 hxs) hz
  . refine h.env_of hp x hx (by rw[e1,if_neg hxd]) (tmps_put_ne hxd) ?_;rw[e2];by_cases hxs:x=s
    . exact .inl (by rw[if_pos hxs])
    . exact .inr ⟨by rw[if_neg hxs,if_neg hxd],by simp;exact hxs⟩
 have hcase:isOwn (st.env (FL s))=false∨isOwn (st.env (FL s))=true:=by cases isOwn (st.env (FL s))<;>simp
 rcases hcase with ho|ho
 . have hv':SRel G w none ks rows v:=hv.drop;exact⟨G,key G ⟨fun _ _ h=>⟨h,rfl⟩,fun _ _ h=>h,fun _ _ _ h=>⟨h,rfl,fun _ h=>h⟩⟩ h.mem (fun _=>by rw[ho];exact hv') hv',Evolves.refl _ _⟩
 . have hfl:flagL st.env s=some (.tmp s):=by unfold flagL;rw[ho];rfl
   rw[hfl]at hv;obtain⟨ad,cap,rfl,hc,hm,hr⟩:=hv;rcases hr with hr|⟨b,off,rfl,hi,hsp⟩
   . exact⟨G,key G ⟨fun _ _ h=>⟨h,rfl⟩,fun _ _ h=>h,fun _ _ _ h=>⟨h,rfl,fun _ h=>h⟩⟩ h.mem (fun _=>⟨ad,cap,rfl,hc,hm, .inl (nilCase hr (fun e=>nomatch e))⟩) ⟨ad,cap,rfl,hc,hm, .inl (nilCase hr (fun e=>nomatch e))⟩,Evolves.refl _ _⟩
   . obtain⟨hob,cur,E,hh,hfit,hni⟩:=hsp _ rfl;refine⟨G.give b (.tmp d),key _ (Pres.give hob) (h.mem.give hob) (fun _=> ?_) ?_,Evolves.give hob⟩
     . rw[ho];exact⟨_,cap,rfl,hc,hm, .inr ⟨b,off,rfl,hi,fun Lc he=>by cases he;exact⟨upd_same _ _ _,cur,E,hh,hfit,hni⟩⟩⟩
     . exact⟨_,cap,rfl,hc,hm, .inr ⟨b,off,rfl,hi,fun Lc he=>nomatch he⟩⟩
theorem takeOS_sound(h:Rel n G st a w)(s:Sides n o){t:Nat}(ht:t<100000)(hrun:(execOp a.eval o).run P w= .ok (.value (a.tmps.getD t undef)) w)(hk:(takeOS st.env t o.dst (st.env t)).wp st K):o.wp P a w (Post n G w K) Q:=by
 have h1:=h.env t ht;unfold takeOS at hk;split at hk
 . rename_i own ks rows d e1 hd;rw[e1]at h1;obtain⟨G',hr,hev⟩:=take_rel h s.le (s.dst d hd) (z:=false) h1 (fun e=>nomatch e);refine wp_value hrun ⟨_,G',hk,?_,hev⟩;rw[hd];exact hr
 . rename_i ks rows d e1 hd;rw[e1]at h1;obtain⟨G',hr,hev⟩:=take_rel h s.le (s.dst d hd) (z:=true) h1.1 (fun _=>h1.2);refine wp_value hrun ⟨_,G',hk,?_,hev⟩;rw[hd];exact hr
 . rename_i hne hnz;cases hv2:st.env t with
   |ce c=>
    rw[hv2]at h1 hk hne;cases c with
    |sl own ks rows=>
     cases hd:o.dst with
     |none=>
      have hz:VRel G w none (.ce (.sl own ks rows)) (a.tmps.getD t undef):=VRel.drop h1;exact ok_sound h s hz hrun hk
     |some d=>exact absurd hd (fun e=>hne own ks rows d rfl e)
    |_=>exact ok_sound h s (VRel.drop h1) hrun hk
   |zs ks rows=>
    rw[hv2]at h1 hk hnz;cases hd:o.dst with
    |none=>exact ok_sound h s (VRel.drop h1) hrun hk
    |some d=>exact absurd hd (fun e=>hnz ks rows d rfl e)
   |_=>rw[hv2]at h1 hk;exact ok_sound h s (VRel.drop h1) hrun hk
theorem cell_heap(w:World)(b o:Nat){vs:Array Value}{T:TypeId}{fr:Nat×Nat}(h:w.heap[b]?=some (.cells vs T fr)):w.cell? (at_ b o)=vs[o]?:=cell_of_row w b o vs T fr h
theorem cell_of_heap{w w':World}{b:Nat}(h:w'.heap[b]?=w.heap[b]?)(o:Nat):w'.cell? (at_ b o)=w.cell? (at_ b o):=by
 simp[World.cell?,at_,h]
theorem alloc_old(w:World)(ob:Obj)(b:Nat)(h:b<w.heap.size):(w.alloc ob).heap[b]?=w.heap[b]?:=by
 show(w.heap.push ob)[b]?=_;rw[Array.getElem?_push,if_neg (by omega)]
theorem alloc_new(w:World)(ob:Obj):(w.alloc ob).heap[w.heap.size]?=some ob:=by
 show(w.heap.push ob)[w.heap.size]?=_;rw[Array.getElem?_push,if_pos rfl]
def Ghost.fresh (G : Ghost) (b : Nat) (L : Loc) (fixed : Bool) (key : Option Nat) : Ghost :=
  { imm := fun x o => G.imm x o ∨ (fixed = true /\ x = b)
    beta := match key with | some r => upd G.beta r (some b) | none => G.beta
    owner := upd G.owner b (some L) }
theorem Mem.no_beta{bx:Nat->Option (List HC)}(h:Mem G bx w){r:Nat}(hr:bx r=none):G.beta r=none:=by
 cases hb:G.beta r with
 |none=>rfl
 |some b=>obtain⟨cells,hc⟩:=h.beta r b hb;rw[hr]at hc;cases hc
theorem Pres.fresh{bx:Nat->Option (List HC)}(h:Mem G bx w)(ob:Obj){L:Loc}{fixed:Bool}{key:Option Nat}(hk:∀r,key=some r->bx r=none):Pres G w (G.fresh w.heap.size L fixed key) (w.alloc ob) (fun _=>True):=by
 refine⟨fun b o hi=>⟨.inl hi,cell_of_heap (alloc_old w ob b (h.imm b o hi)) o⟩,fun r b hb=> ?_,fun b L' _ hb=> ?_⟩
 . cases key with
   |none=>exact hb
   |some k=>
    have hne:r≠k:=fun e=>by subst e;rw[h.no_beta (hk r rfl)]at hb;cases hb
    exact(upd_ne _ _ hne).trans hb
 . have hlt:=h.own b L' hb;have hne:b≠w.heap.size:=by omega
   exact⟨(upd_ne _ _ hne).trans hb,alloc_old w ob b hlt,fun o hi=>hi.elim id fun h2=>absurd h2.2 hne⟩
theorem Evolves.fresh{bx:Nat->Option (List HC)}(h:Mem G bx w)(ob:Obj){L:Loc}{fixed:Bool}{key:Option Nat}(hkey:∀r,key=some r->500<=r):Evolves G w (G.fresh w.heap.size L fixed key) (w.alloc ob):=by
 refine⟨rfl,rfl,rfl,by simp,fun b o hi=>⟨.inl hi,cell_of_heap (alloc_old w ob b (h.imm b o hi)) o⟩,fun b hb ho=> ?_,fun r b hr hb=> ?_⟩
 . have hne:b≠w.heap.size:=by omega
   exact⟨(upd_ne _ _ hne).trans ho,alloc_old w ob b hb,fun o hi=>hi.elim id fun h2=>absurd h2.2 hne⟩
 . cases key with
   |none=>exact hb
   |some k=>have:=hkey k rfl;exact(upd_ne _ _ (by omega)).symm.trans hb
theorem Mem.fresh_own{bx:Nat->Option (List HC)}(h:Mem G bx w)(ob:Obj){L:Loc}{fixed:Bool}{key:Option Nat}:(∀b L',(G.fresh w.heap.size L fixed key).owner b=some L'->b<(w.alloc ob).heap.size)/\(∀b o,(G.fresh w.heap.size L fixed key).imm b o->b<(w.alloc ob).heap.size):=by
 constructor
 . intro b L' hb;rcases upd_some hb with⟨rfl,_⟩|hb
   . simp
   . have:=h.own b L' hb;simp;omega
 . intro b o hi;rcases hi with hi|⟨_,rfl⟩
   . have:=h.imm b o hi;simp;omega
   . simp
theorem newBox_sound(h:Rel n G st a w)(s:Sides n o){cs:List HC}{vs:Array Value}{T:TypeId}(hsz:vs.size=cs.length)(hcs:∀(j:Nat)(c:HC),cs[j]?=some c->∃u,vs[j]?=some u/\CRel G w none c u/\(∀r o,BRel G w r o c u))(hrun:(execOp a.eval o).run P w= .ok (.value (.pointer (some (at_ w.heap.size 0)))) (w.alloc (.cells vs T)))(hk:(newBox st.box o.dst cs).wp st K):o.wp P a w (Post n G w K) Q:=by
 unfold newBox at hk;split at hk;case h_2=>exact hk.elim
 rename_i d hd;split at hk;case h_2=>exact hk.elim
 rename_i hfree;have hp:=Pres.fresh h.mem (.cells vs T) (L:= .box (newKey d)) (fixed:=false) (key:=some (newKey d)) (fun r e=>by cases e;exact hfree);have hev:=Evolves.fresh h.mem (.cells vs T) (L:= .box (newKey d)) (fixed:=false) (key:=some (newKey d)) (fun r e=>by cases e;unfold newKey;omega);have hm:Mem (G.fresh w.heap.size (.box (newKey d)) false (some (newKey d))) (upd st.box (newKey d) (some cs)) (w.alloc (.cells vs T)):=by
  refine⟨fun r cells hr=> ?_,fun r b hb=> ?_,(h.mem.fresh_own _).1,(h.mem.fresh_own _).2⟩
  . by_cases hrk:r=newKey d
    . subst hrk;rw[upd_same]at hr;cases hr;refine .inl ⟨w.heap.size,vs,T,upd_same _ _ _,upd_same _ _ _,alloc_new w _,fun o hi=> ?_,hsz,fun j c hc=> ?_⟩
      . rcases hi with hi|⟨e,_⟩
        . have:=h.mem.imm _ _ hi;omega
        . cases e
      . obtain⟨u,hu,_,hb⟩:=hcs j c hc;exact⟨u,hu,(hb _ _).pres hp trivial⟩
    . rw[upd_ne _ _ hrk]at hr;exact(h.mem.box r cells hr).pres hp trivial (fun _=>trivial)
  . by_cases hrk:r=newKey d
    . subst hrk;exact⟨cs,upd_same _ _ _⟩
    . obtain⟨cells,hc⟩:=h.mem.beta r b ((upd_ne G.beta (some w.heap.size) hrk).symm.trans hb);exact⟨cells,(upd_ne _ _ hrk).trans hc⟩
 refine wp_value hrun ⟨_,_,hk,?_,hev⟩;have hd2:=s.dst d hd;have:=h.put s.le (dst:=o.dst) (fun d' e=>s.dst d' e) hp (fun _ _=>trivial) (own:=false) (hv:= .ce (.ptr (newKey d) 0)) (v:= .pointer (some (at_ w.heap.size 0))) ⟨w.heap.size,upd_same _ _ _,rfl⟩ (fun _ _ e=>nomatch e) hm (log:=st.log);rw[hd]at this⊢;exact this
theorem newArr_sound(h:Rel n G st a w)(s:Sides n o){ks:List Nat}{rows:List (List Int)}{vs:Array Value}{T:TypeId}(hsz:vs.size=rows.length*ks.length)(hc:∀i j,i<rows.length->j<ks.length->vs[i*ks.length+j]?=some (kval (ks.getD j 0) ((rows.getD i []).getD j 0)))(hrun:(execOp a.eval o).run P w= .ok (.value (.pointer (some (at_ w.heap.size 0)))) (w.alloc (.cells vs T)))(hk:(newBox st.box o.dst [.arr ks rows rows.length]).wp st K):o.wp P a w (Post n G w K) Q:=by
 unfold newBox at hk;split at hk;case h_2=>exact hk.elim
 rename_i d hd;split at hk;case h_2=>exact hk.elim
 rename_i hfree;have hp:=Pres.fresh h.mem (.cells vs T) (L:= .box (newKey d)) (fixed:=false) (key:=some (newKey d)) (fun r e=>by cases e;exact hfree);have hev:=Evolves.fresh h.mem (.cells vs T) (L:= .box (newKey d)) (fixed:=false) (key:=some (newKey d)) (fun r e=>by cases e;unfold newKey;omega);have hm:Mem (G.fresh w.heap.size (.box (newKey d)) false (some (newKey d))) (upd st.box (newKey d) (some [.arr ks rows rows.length])) (w.alloc (.cells vs T)):=by
  refine⟨fun r cells hr=> ?_,fun r b hb=> ?_,(h.mem.fresh_own _).1,(h.mem.fresh_own _).2⟩
  . by_cases hrk:r=newKey d
    . subst hrk;rw[upd_same]at hr;cases hr;refine .inr (.inl ⟨_,_,_,rfl,w.heap.size,vs,T,upd_same _ _ _,upd_same _ _ _,alloc_new w _,fun o hi=> ?_,⟨Nat.le_refl _,Nat.le_of_eq hsz.symm⟩,hc⟩);rcases hi with hi|⟨e,_⟩
      . have:=h.mem.imm _ _ hi;omega
      . cases e
    . rw[upd_ne _ _ hrk]at hr;exact(h.mem.box r cells hr).pres hp trivial (fun _=>trivial)
  . by_cases hrk:r=newKey d
    . subst hrk;exact⟨_,upd_same _ _ _⟩
    . obtain⟨cells,hc⟩:=h.mem.beta r b ((upd_ne G.beta (some w.heap.size) hrk).symm.trans hb);exact⟨cells,(upd_ne _ _ hrk).trans hc⟩
 refine wp_value hrun ⟨_,_,hk,?_,hev⟩;have hd2:=s.dst d hd;have:=h.put s.le (dst:=o.dst) (fun d' e=>s.dst d' e) hp (fun _ _=>trivial) (own:=false) (hv:= .ce (.ptr (newKey d) 0)) (v:= .pointer (some (at_ w.heap.size 0))) ⟨w.heap.size,upd_same _ _ _,rfl⟩ (fun _ _ e=>nomatch e) hm (log:=st.log);rw[hd]at this⊢;exact this
theorem isZero_val{k:Nat}{v:Value}(h:isZero k v=true):v=kval k 0:=by
 unfold isZero at h;split at h
 . rename_i b;cases b
   . rfl
   . cases h
 . rw[Bool.and_eq_true]at h;obtain rfl:=kEq_eq h.1;have:=h.2;simp at this;subst this;rfl
 . cases h
theorem areZero_get:∀{ks:List Nat}{vs:List Value},areZero ks vs=true->vs.length=ks.length/\∀j,j<ks.length->vs[j]?=some (kval (ks.getD j 0) 0)
 |[],[],_=>⟨rfl,fun j hj=>by simp at hj⟩
 |k::ks,v::vs,h=>by
  unfold areZero at h;rw[Bool.and_eq_true]at h;obtain⟨h1,h2⟩:=areZero_get h.2;refine⟨by simp[h1],fun j hj=> ?_⟩;cases j with
  |zero=>simp[isZero_val h.1]
  |succ j=>simpa using h2 j (by simpa using hj)
 |[],_::_,h=>by cases h
 |_::_,[],h=>by cases h
theorem zrow_get:∀(ks:List Nat)(j:Nat),(zrow ks).getD j 0=0
 |[],j=>by simp[zrow]
 |_::ks,0=>rfl
 |_::ks,j+1=>by simpa[zrow]using zrow_get ks j
theorem repl_get(ks:List Nat):∀(n i j:Nat),i<n->j<ks.length->((List.replicate n ks).flatten).getD (i*ks.length+j) 0=ks.getD j 0
 |n+1,0,j,_,hj=>by
  rw[List.replicate_succ,List.flatten_cons,Nat.zero_mul,Nat.zero_add];simp[List.getD_eq_getElem?_getD,List.getElem?_append_left hj]
 |n+1,i+1,j,hi,hj=>by
  rw[List.replicate_succ,List.flatten_cons];have ih:=repl_get ks n i j (by omega) hj;rw[List.getD_eq_getElem?_getD,List.getElem?_append_right (by rw[Nat.succ_mul];omega)];rw[show(i+1)*ks.length+j-ks.length=i*ks.length+j by rw[Nat.succ_mul];omega];rw[<-List.getD_eq_getElem?_getD];exact ih
theorem alloc_sound(h:Rel n G st a w)(s:Sides n o){e:TypeId}(ho:o.op= .alloc e){fz:Bool}(hk:(bif fz then(match arrOf P e with
  |some z=>newBox st.box o.dst z
  |none=> .fail)else match zeroCs P e with
 |some z=>newBox st.box o.dst z
 |none=> .fail:OSem).wp st K):o.wp P a w (Post n G w K) Q:=by
 cases fz with
 |true=>
  simp only[cond_true]at hk;split at hk;case h_2=>exact hk.elim
  rename_i z hz;unfold arrOf at hz;split at hz;case h_2=>cases hz
  rename_i m e2 hu;split at hz;case h_2=>cases hz
  rename_i ks i hks hi;split at hz;case h_2=>cases hz
  rename_i zv hzv;cases hb:(Nat.beq zv.cells.size i.size&&areZero (List.replicate m ks).flatten zv.cells.toList)with
  |false=>rw[hb]at hz;cases hz
  |true=>
  rw[hb]at hz;simp only[cond_true,Option.some.injEq]at hz;subst hz;rw[Bool.and_eq_true]at hb;obtain⟨hzl,hzg⟩:=areZero_get hb.2;have hfl:((List.replicate m ks).flatten).length=m*ks.length:=by simp
  refine newArr_sound h s (rows:=List.replicate m (zrow ks)) (vs:=zv.cells) (T:=e) (by rw[List.length_replicate,<-hfl,<-hzl];simp) (fun i j hi hj=> ?_) ?_ ?_
  . rw[List.length_replicate]at hi;have hlt:i*ks.length+j<((List.replicate m ks).flatten).length:=by
     rw[hfl];have:(i+1)*ks.length<=m*ks.length:=Nat.mul_le_mul_right _ hi;rw[Nat.succ_mul]at this;omega
    have h1:=hzg _ hlt;rw[repl_get ks m i j hi hj]at h1;have h2:((List.replicate m (zrow ks)).getD i [])=zrow ks:=by simp[List.getD_eq_getElem?_getD,hi]
    rw[h2,zrow_get];simpa using h1
  . unfold execOp;simp[ho,Instr.alloc,zeroValue,typeInfo,hi,hzv,newVar,newRow,at_]
  . rw[List.length_replicate];exact hk
 |false=>
 simp only[cond_false]at hk;split at hk;case h_2=>exact hk.elim
 rename_i z hz;obtain⟨i,zv,hi,hzv,hsz,hm⟩:=zeroCs_spec hz;obtain⟨hl,hr⟩:=zmatches_rel (G:=G) (w:=w) hm;refine newBox_sound h s (vs:=zv.cells) (T:=e) (by simpa using hl) (fun j c hc=> ?_) ?_ hk
 . obtain⟨u,hu,hc⟩:=hr j c hc;exact⟨u,by simpa using hu,(hc none).1,(hc none).2⟩
 . unfold execOp;simp[ho,Instr.alloc,zeroValue,typeInfo,hi,hzv,newVar,newRow,at_]
theorem BRel.of_pd{L:Option Loc}{c:HC}{v:Value}(h:CRel G w L c v)(r o:Nat):BRel G w r o c.plain.dis v:=by
 have hp:=CRel.pd h;cases c with
 |mu ks rows=>exact h.elim
 |_=>exact hp
theorem BRel.of_kd{L:Option Loc}{c:HC}{v:Value}(h:CRel G w L c v)(r o:Nat):BRel G w r o c.kept.dis v:=by
 have hp:=CRel.kd h;cases c with
 |mu ks rows=>exact h.elim
 |_=>exact hp
theorem box_sound(h:Rel n G st a w)(s:Sides n o){e:TypeId}{x:Operand}(ho:o.op= .box e x)(hk:(match(evalO P st.env o.type x).cells,sizeT P e with
 |some cs,some _=>newBox st.box o.dst (cs.map fun c=>c.plain.dis)
 |_,_=> .fail:OSem).wp st K):o.wp P a w (Post n G w K) Q:=by
 obtain⟨L1,h1⟩:=s.ev (P:=P) h o.type (x:=x) (by rw[ho];simp[Op.operands]);split at hk;case h_2=>exact hk.elim
 rename_i cs m hc hm;have hcs:=cells_rel h1 hc;refine newBox_sound h s (vs:=(a.eval x).cells) (T:=e) (by simpa using hcs.1) (fun j c hj=> ?_) ?_ hk
 . rw[List.getElem?_map]at hj;cases hj2:cs[j]? with
   |none=>simp[hj2]at hj
   |some d=>
    simp[hj2]at hj;subst hj;obtain⟨u,hu,hr⟩:=hcs.2 j d hj2;exact⟨u,hu,hr.pd,fun r o=>BRel.of_pd hr r o⟩
 . unfold execOp;simp[ho,Instr.box,newVar,newRow,at_]
theorem kval_one(k:Nat)(m:Int):(kval k m).oneCell'=true:=by cases k<;>rfl
theorem rowNum_rel{L:Option Loc}{k:Nat}{c:HC}{v:Value}{m:Int}(h:CRel G w L c v)(hr:rowNum k c=some m):v=kval k m:=by
 cases k with
 |zero=>
  unfold rowNum at hr;cases hb:isBool c with
  |none=>simp[hb]at hr
  |some x=>
   obtain⟨b,u⟩:=x;simp[hb]at hr;rw[isBool_rel h hb,<-hr];cases b<;>rfl
 |succ k=>
  simp only[rowNum]at hr;cases hn:isNum c with
  |none=>rw[hn]at hr;cases hr
  |some x=>
   obtain⟨j,q,u⟩:=x;rw[hn]at hr;simp only at hr;cases hb:Nat.beq (kcode j) (kcode (kk k))with
   |false=>rw[hb]at hr;cases hr
   |true=>
    rw[hb]at hr;cases hr;rw[isNum_rel h hn];obtain rfl:=kEq_eq (j:=j) (k:=kk k) hb;rfl
theorem rowOf_rel:∀{ks:List Nat}{cs:List HC}{row:List Int},rowOf ks cs=some row->cs.length=ks.length/\row.length=ks.length/\∀(j:Nat)(c:HC)(v:Value),cs[j]?=some c->CRel G w none c v->v=kval (ks.getD j 0) (row.getD j 0)
 |[],[],row,h=>by cases h;exact⟨rfl,rfl,fun j c v hc=>by simp at hc⟩
 |k::ks,c::cs,row,h=>by
  unfold rowOf at h;split at h
  . rename_i m r hm hr;injection h with h;subst h;obtain⟨h1,h2,h3⟩:=rowOf_rel hr;refine⟨by simp[h1],by simp[h2],fun j d v hd hv=> ?_⟩;match j,hd with
    |0,hd=>cases hd;simpa using rowNum_rel hv hm
    |j+1,hd=>simpa using h3 j d v (by simpa using hd) hv
  . cases h
 |[],_::_,_,h=>by cases h
 |_::_,[],_,h=>by cases h
def flatRows(ks:List Nat):List (List Int)->List Value
 |[]=>[]
 |r::rs=>(List.range ks.length).map (fun j=>kval (ks.getD j 0) (r.getD j 0))++flatRows ks rs
theorem flatRows_length(ks:List Nat):∀rows,(flatRows ks rows).length=rows.length*ks.length
 |[]=>by simp[flatRows]
 |r::rs=>by simp[flatRows,flatRows_length ks rs,Nat.succ_mul,Nat.add_comm]
theorem flatRows_get(ks:List Nat):∀(rows:List (List Int))(i j:Nat),i<rows.length->j<ks.length->(flatRows ks rows)[i*ks.length+j]?=some (kval (ks.getD j 0) ((rows.getD i []).getD j 0))
 |r::rs,0,j,_,hj=>by
  unfold flatRows;rw[List.getElem?_append_left (by simpa using hj)];simp[hj]
 |r::rs,i+1,j,hi,hj=>by
  unfold flatRows;rw[List.getElem?_append_right (by simp[Nat.succ_mul];omega)];have:(i+1)*ks.length+j-((List.range ks.length).map fun j=>kval (ks.getD j 0) (r.getD j 0)).length=i*ks.length+j:=by simp[Nat.succ_mul];omega
  rw[this];simpa using flatRows_get ks rs i j (by simpa using hi) hj
theorem flatRows_append(ks:List Nat)(a b:List (List Int)):flatRows ks (a++b)=flatRows ks a++flatRows ks b:=by
 induction a with
 |nil=>rfl
 |cons r rs ih=>simp[flatRows,ih]
theorem flatRows_one(ks:List Nat)(rows:List (List Int)):∀u∈flatRows ks rows,u.oneCell'=true:=by
 induction rows with
 |nil=>intro u hu;cases hu
 |cons r rs ih=>
  intro u hu;unfold flatRows at hu;rcases List.mem_append.1 hu with hu|hu
  . obtain⟨j,_,rfl⟩:=List.mem_map.1 hu;exact kval_one _ _
  . exact ih u hu
theorem flatRows_cells{ks:List Nat}{rows:List (List Int)}{b off:Nat}(h:∀i j,i<rows.length->j<ks.length->ImmC G w b (off+(i*ks.length+j)) (kval (ks.getD j 0) ((rows.getD i []).getD j 0))):∀(j:Nat)(u:Value),(flatRows ks rows)[j]?=some u->w.cell? ((at_ b off).add j)=some u:=by
 intro j u hu;have hlt:j<rows.length*ks.length:=by
  have:=List.getElem?_eq_some_iff.1 hu;obtain⟨hl,_⟩:=this;rwa[flatRows_length]at hl
 have hk:0<ks.length:=by
  rcases Nat.eq_zero_or_pos ks.length with h0|h0
  . rw[h0]at hlt;omega
  . exact h0
 have hi:j/ks.length<rows.length:=(Nat.div_lt_iff_lt_mul hk).2 hlt;have hj:j%ks.length<ks.length:=Nat.mod_lt _ hk;have he:j/ks.length*ks.length+j%ks.length=j:=by rw[Nat.mul_comm];exact Nat.div_add_mod j ks.length
 have h1:=flatRows_get ks rows _ _ hi hj;rw[he,hu]at h1;have h2:=(h _ _ hi hj).2;rw[he]at h2;rw[at_add,h2,<-h1]
theorem elemKs_spec{e:TypeId}{ks:List Nat}(h:elemKs P e=some ks):∃i z,P.info? e=some i/\i.zero=some z/\i.size=ks.length/\1<=ks.length/\z.cells.size=ks.length:=by
 unfold elemKs at h;split at h
 . rename_i ks' i hk hi;split at h
   . rename_i z hb hz;rw[Bool.and_eq_true]at hb;cases hc:Nat.beq z.cells.size i.size with
     |false=>rw[hc]at h;cases h
     |true=>
      rw[hc]at h;cases h;have h1:=Nat.eq_of_beq_eq_true hb.1;exact⟨i,z,hi,hz,h1,Nat.le_of_ble_eq_true hb.2,(Nat.eq_of_beq_eq_true hc).trans h1⟩
   . cases h
 . cases h
theorem fill_slice(ks:List Nat)(ev:Operand->HV)(ρ:Operand->Value):∀(l:List (Nat×Operand))(i:Nat)(rows:List (List Int))(done rest:List Value),litRows ks i (l.map fun p=>(p.1,ev p.2))=some rows->(∀p∈l,∃L,VRel G w L (ev p.2) (ρ p.2))->done.length=i*ks.length->rest.length=l.length*ks.length->Instr.fill (fun i=>some (i*ks.length,ks.length)) (done++rest).toArray (l.map fun p=>(p.1,ρ p.2))=some (done++flatRows ks rows).toArray/\rows.length=l.length
 |[],i,rows,done,rest,h,_,_,hr=>by
  cases h;have:rest=[]:=List.eq_nil_of_length_eq_zero (by simpa using hr);subst this;exact⟨rfl,rfl⟩
 |(j,x)::l,i,rows,done,rest,h,hrel,hd,hr=>by
  rw[List.map_cons]at h⊢;unfold litRows at h;split at h
  . rename_i cs hj hc;split at h
    . rename_i row rows' hrow hrows;cases h;obtain rfl:=Nat.eq_of_beq_eq_true hj;obtain⟨L,hv⟩:=hrel (i,x) (by simp);have hcs:CsRel G w cs (ρ x).cells:=cells_rel hv hc;obtain⟨h1,h2,h3⟩:=rowOf_rel (G:=G) (w:=w) hrow;have hcells:(ρ x).cells.toList=(List.range ks.length).map fun j=>kval (ks.getD j 0) (row.getD j 0):=by
       apply List.ext_getElem?;intro q;by_cases hq:q<ks.length
       . obtain⟨u,hu,hr⟩:=hcs.2 q (cs[q]'(by omega)) (by simp[h1,hq]);have:=h3 q _ u (by simp[h1,hq]) hr;simp[hq];have hu':(ρ x).cells[q]?=some u:=hu;rw[hu',this];simp[hq,h2]
       . have hs:=hcs.1;rw[List.getElem?_eq_none (by simp;omega),List.getElem?_eq_none (by simp;omega)]
      have hsz:(ρ x).cells.size=ks.length:=by have:=hcs.1;omega
      have hl:rest.length=ks.length+l.length*ks.length:=by simpa[Nat.succ_mul,Nat.add_comm]using hr
      unfold Instr.fill;simp only;rw[if_neg (by simp only[ne_eq,hsz,not_true,Bool.or_eq_true,decide_eq_true_eq,false_or];simp[hd,hl])];obtain⟨g1,g2⟩:=fill_slice ks ev ρ l (i+1) rows' (done++(ρ x).cells.toList) (rest.drop ks.length) hrows (fun p hp=>hrel p (List.mem_cons_of_mem _ hp)) (by simp[hd,hsz,Nat.succ_mul]) (by simp[hl]);refine⟨?_,by simp[g2]⟩;unfold flatRows;rw[<-List.append_assoc,<-hcells,<-g1];congr 1;rw[<-Array.foldl_toList,Array.toList_zipIdx];have hfold:∀(us:List Value)(pre post:List Value)(k:Nat),pre.length=i*ks.length+k->us.length<=post.length->(us.zipIdx k).foldl (fun cs x=>cs.setIfInBounds (i*ks.length+x.2) x.1) (pre++post).toArray=(pre++us++post.drop us.length).toArray:=by
       intro us;induction us with
       |nil=>intro pre post k _ _;simp
       |cons u us ih=>
        intro pre post k hp hl;match post,hl with
        |p::post,hl=>
         rw[List.zipIdx_cons,List.foldl_cons];have:(pre++p::post).toArray.setIfInBounds (i*ks.length+k) u=((pre++[u])++post).toArray:=by
          rw[<-hp];simp[List.set_append_right]
         simp only[this];rw[ih (pre++[u]) post (k+1) (by simp;omega) (by simpa using hl)];simp
      have:=hfold (ρ x).cells.toList done rest 0 (by omega) (by simp[hsz,hl]);simp only[Array.length_toList,hsz]at this;exact this
    . cases h
  . cases h
theorem fixed_pre{bx:Nat->Option (List HC)}(h:Mem G bx w)(d:Nat){ks:List Nat}{rows:List (List Int)}{cur:List Value}{E:TypeId}{cap:Nat}(hcur:∀i j,i<rows.length->j<ks.length->cur[i*ks.length+j]?=some (kval (ks.getD j 0) ((rows.getD i []).getD j 0)))(hfit:cap*ks.length<=cur.length)(hc:rows.length<=cap)(hm:cap<=maxLen):∃G',Pres G w G' (w.alloc (.cells cur.toArray E)) (fun _=>True)/\Evolves G w G' (w.alloc (.cells cur.toArray E))/\Mem G' bx (w.alloc (.cells cur.toArray E))/\∀L:Option Loc,(∀Lc,L=some Lc->Lc= .tmp d)->SRel G' (w.alloc (.cells cur.toArray E)) L ks rows (.slice (some (at_ w.heap.size 0)) rows.length cap):=by
 let G':Ghost:={G with imm:=fun x o=>G.imm x o∨(x=w.heap.size/\o<rows.length*ks.length),owner:=upd G.owner w.heap.size (some (.tmp d))};have hp:Pres G w G' (w.alloc (.cells cur.toArray E)) (fun _=>True):=by
  refine⟨fun b o hi=>⟨.inl hi,cell_of_heap (alloc_old w _ b (h.imm b o hi)) o⟩,fun _ _ hb=>hb,fun b L' _ hb=> ?_⟩;have hlt:=h.own b L' hb;have hne:b≠w.heap.size:=by omega
  exact⟨(upd_ne _ _ hne).trans hb,alloc_old w _ b hlt,fun o hi=>hi.elim id fun h2=>absurd h2.1 hne⟩
 have hev:Evolves G w G' (w.alloc (.cells cur.toArray E)):=by
  refine⟨rfl,rfl,rfl,by simp,fun b o hi=>⟨.inl hi,cell_of_heap (alloc_old w _ b (h.imm b o hi)) o⟩,fun b hb ho=> ?_,fun _ _ _ e=>e⟩;have hne:b≠w.heap.size:=by omega
  exact⟨(upd_ne _ _ hne).trans ho,alloc_old w _ b hb,fun o hi=>hi.elim id fun h2=>absurd h2.1 hne⟩
 have hmem:Mem G' bx (w.alloc (.cells cur.toArray E)):=by
  refine⟨fun r cells hr=>(h.box r cells hr).pres hp trivial (fun _=>trivial),h.beta,fun b L' hb=> ?_,fun b o hi=> ?_⟩
  . rcases upd_some hb with⟨rfl,_⟩|hb
    . simp
    . have:=h.own b L' hb;simp;omega
  . rcases hi with hi|⟨rfl,_⟩
    . have:=h.imm b o hi;simp;omega
    . simp
 refine⟨G',hp,hev,hmem,fun L hL=>⟨_,cap,rfl,hc,hm, .inr ⟨w.heap.size,0,rfl,fun i j hi hj=> ?_,fun Lc he=> ?_⟩⟩⟩
 . refine⟨.inr ⟨rfl,?_⟩,?_⟩
   . have:(i+1)*ks.length<=rows.length*ks.length:=Nat.mul_le_mul_right _ hi;rw[Nat.succ_mul]at this;omega
   . rw[cell_heap _ _ _ (alloc_new w _)];simpa using hcur i j hi hj
 . rw[hL Lc he];refine⟨upd_same _ _ _,cur.toArray,E,alloc_new w _,by simpa using hfit,fun x hx _ hi=> ?_⟩;rcases hi with hi|⟨_,hlt⟩
   . have:=h.imm _ _ hi;omega
   . omega
theorem fixed_new(h:Rel n G st a w)(hn:n<=100000){d:Nat}(hd:d<n){ks:List Nat}{rows:List (List Int)}{cur:List Value}{E:TypeId}{cap:Nat}(hcur:∀i j,i<rows.length->j<ks.length->cur[i*ks.length+j]?=some (kval (ks.getD j 0) ((rows.getD i []).getD j 0)))(hfit:cap*ks.length<=cur.length)(hc:rows.length<=cap)(hm:cap<=maxLen):∃G',Rel n G' (st.app (put (some d) true (.ce (.sl true ks rows)))) (a.put (some d) (.slice (some (at_ w.heap.size 0)) rows.length cap)) (w.alloc (.cells cur.toArray E))/\Evolves G w G' (w.alloc (.cells cur.toArray E)):=by
 obtain⟨G',hp,hev,hmem,hs⟩:=fixed_pre h.mem d hcur hfit hc hm (E:=E);refine⟨G',?_,hev⟩;have:=h.put hn (dst:=some d) (fun d' e=>by cases e;exact hd) hp (fun _ _=>trivial) (own:=true) (hv:= .ce (.sl true ks rows)) (hs none (fun _ e=>nomatch e)) (fun d' e _=>by cases e;exact hs _ (fun Lc e=>by cases e;rfl)) hmem (log:=st.log);exact this
theorem litRows_len(ks:List Nat)(ev:Operand->HV):∀(l:List (Nat×Operand))(i:Nat)(rows:List (List Int)),litRows ks i (l.map fun p=>(p.1,ev p.2))=some rows->rows.length=l.length
 |[],i,rows,h=>by cases h;rfl
 |(j,x)::l,i,rows,h=>by
  rw[List.map_cons]at h;unfold litRows at h;split at h
  . split at h
    . rename_i hrows;cases h;simp[litRows_len ks ev l _ _ hrows]
    . cases h
  . cases h
theorem ksEq_eq:∀{a b:List Nat},ksEq a b=true->a=b
 |[],[],_=>rfl
 |a::l,b::m,h=>by
  unfold ksEq at h;rw[Bool.and_eq_true]at h;rw[Nat.eq_of_beq_eq_true h.1,ksEq_eq h.2]
 |[],_::_,h=>by cases h
 |_::_,[],h=>by cases h
theorem subKs_spec{e:TypeId}{ks:List Nat}(h:subKs P e=some ks):∃i z,P.info? e=some i/\i.size=1/\i.zero=some z/\z.cells.size=1:=by
 unfold subKs at h;split at h;case h_2=>cases h
 rename_i e2 i hu hi;cases hb:(Nat.beq i.size 1&&zero1 i)with
 |false=>rw[hb]at h;cases h
 |true=>
  rw[Bool.and_eq_true]at hb;obtain⟨h1,h2⟩:=hb;unfold zero1 at h2;split at h2
  . rename_i z hz;exact⟨i,z,hi,Nat.eq_of_beq_eq_true h1,hz,Nat.eq_of_beq_eq_true h2⟩
  . cases h2
theorem litSlices_spec(ks:List Nat)(ev:Operand->HV)(ρ:Operand->Value):∀(l:List (Nat×Operand))(i:Nat)(ll:List (List (List Int))),(∀p∈l,∃L,VRel G w L (ev p.2) (ρ p.2))->litSlices ks i (l.map fun p=>(p.1,ev p.2))=some ll->ll.length=l.length/\(∀j,(l[j]?).map (·.1)=(if j<l.length then some (i+j)else none))/\∀j,j<ll.length->∃p,l[j]?=some p/\SRel G w none ks (ll.getD j []) (ρ p.2)
 |[],i,ll,_,h=>by cases h;exact⟨rfl,fun j=>by simp,fun j hj=>by simp at hj⟩
 |(q,x)::l,i,ll,hr,h=>by
  rw[List.map_cons]at h;obtain⟨L,hx⟩:=hr (q,x) (by simp);dsimp only at h hx;generalize he:ev x=hv at h hx;unfold litSlices at h;split at h
  . rename_i heq;cases heq
  . rename_i i' i2 lst j' own ls rows r heq;injection heq with e1 e2;injection e1 with e3 e4;subst e2;subst e4;subst e3;cases hb:(Nat.beq i' q&&ksEq ls ks)with
    |false=>rw[hb]at h;cases h
    |true=>
     rw[hb]at h;simp only[cond_true]at h;rw[Bool.and_eq_true]at hb;have hiq:=Nat.eq_of_beq_eq_true hb.1;obtain rfl:=ksEq_eq hb.2;subst hiq;cases ht:litSlices ls (i'+1) (l.map fun p=>(p.1,ev p.2))with
     |none=>rw[ht]at h;cases h
     |some m=>
      rw[ht]at h;cases h;obtain⟨g1,g2,g3⟩:=litSlices_spec ls ev ρ l (i'+1) m (fun p hp=>hr p (List.mem_cons_of_mem _ hp)) ht;refine⟨by simp[g1],fun j=> ?_,fun j hj=> ?_⟩
      . cases j with
        |zero=>simp
        |succ j=>
         have:=g2 j;simp only[List.getElem?_cons_succ,List.length_cons];rw[this];by_cases hjl:j<l.length
         . rw[if_pos hjl,if_pos (by omega)];congr 1;omega
         . rw[if_neg hjl,if_neg (by omega)]
      . cases j with
        |zero=>exact⟨_,rfl,SRel.drop hx⟩
        |succ j=>simpa using g3 j (by simpa using hj)
  . cases h
theorem fill_ones(ρ:Operand->Value):∀(l:List (Nat×Operand))(i:Nat)(done rest:List Value),(∀j,(l[j]?).map (·.1)=(if j<l.length then some (i+j)else none))->(∀p∈l,(ρ p.2).oneCell'=true)->done.length=i->rest.length=l.length->Instr.fill (fun i=>some (i*1,1)) (done++rest).toArray (l.map fun p=>(p.1,ρ p.2))=some (done++l.map fun p=>ρ p.2).toArray
 |[],i,done,rest,_,_,_,hr=>by
  have:rest=[]:=List.eq_nil_of_length_eq_zero (by simpa using hr);subst this;simp[Instr.fill]
 |(q,x)::l,i,done,rest,hk,h1,hd,hr=>by
  have hq:q=i:=by simpa using hk 0
  subst hq;match rest,hr with
  |r::rest,hr=>
   have ih:=fill_ones ρ l (q+1) (done++[ρ x]) rest (fun j=>by
    have:=hk (j+1);simp only[List.getElem?_cons_succ,List.length_cons]at this;rw[this];by_cases hjl:j<l.length
    . rw[if_pos hjl,if_pos (by omega)];congr 1;omega
    . rw[if_neg hjl,if_neg (by omega)]) (fun p hp=>h1 p (List.mem_cons_of_mem _ hp)) (by simp[hd]) (by simpa using hr);have hone:=cells_one (h1 (q,x) (by simp));dsimp only at hone;rw[List.map_cons];have hset:(done++r::rest).toArray.setIfInBounds (q*1+0) (ρ x)=((done++[ρ x])++rest).toArray:=by
    apply Array.ext';simp only[Array.toList_setIfInBounds,Nat.mul_one,Nat.add_zero];rw[List.set_append_right _ _ (by omega)];simp[hd]
   have hcond:¬(#[ρ x].size≠1||decide (q*1+ #[ρ x].size>(done++r::rest).toArray.size))=true:=by
    have:(done++r::rest).length>=q+1:=by simp;omega
    simp;omega
   show(if(ρ x).cells.size≠1||decide (q*1+(ρ x).cells.size>(done++r::rest).toArray.size)then none else Instr.fill _ ((ρ x).cells.zipIdx.foldl (fun cs(c,j)=>cs.setIfInBounds (q*1+j) c) (done++r::rest).toArray) (l.map fun p=>(p.1,ρ p.2)))=_;rw[hone,if_neg hcond];have hz:(#[ρ x].zipIdx.foldl (fun(cs:Array Value)(x:Value×Nat)=>cs.setIfInBounds (q*1+x.2) x.1) (done++r::rest).toArray)=(done++r::rest).toArray.setIfInBounds (q*1+0) (ρ x):=rfl;rw[hz,hset,ih];simp
theorem nested_sound(h:Rel n G st a w)(s:Sides n o){t e:TypeId}{len:Nat}{parts:Array (Nat×Operand)}(ho:o.op= .buildSlice t len parts)(hu:P.underlying t=some (.slice e)){ks:List Nat}(hks:subKs P e=some ks)(hk:(bif Nat.beq (parts.toList.map fun p=>(p.1,evalO P st.env o.type p.2)).length len&&Nat.ble 1 len&&Nat.ble len 1000000 then match litSlices ks 0 (parts.toList.map fun p=>(p.1,evalO P st.env o.type p.2))with
  |some ll=>ok o.dst (.ce (.nsls ks ll))
  |none=> .fail else .fail:OSem).wp st K):o.wp P a w (Post n G w K) Q:=by
 have hops:∀p∈parts.toList,∃L,VRel G w L (evalO P st.env o.type p.2) (a.eval p.2):=fun p hp=>s.ev (P:=P) h o.type (x:=p.2) (by rw[ho];simp only[Op.operands];simp;exact⟨p.1,by simpa using hp⟩);have hpm:(parts.map fun(i,x)=>(i,a.eval x)).toList=parts.toList.map fun p=>(p.1,a.eval p.2):=by simp
 obtain⟨i,z,hi,hsz,hz,hzs⟩:=subKs_spec hks;cases hb:(Nat.beq (parts.toList.map fun p=>(p.1,evalO P st.env o.type p.2)).length len&&Nat.ble 1 len&&Nat.ble len 1000000)with
 |false=>rw[hb]at hk;exact hk.elim
 |true=>
 rw[hb]at hk;simp only[cond_true]at hk;rw[Bool.and_eq_true,Bool.and_eq_true]at hb;have hlen:parts.toList.length=len:=by simpa using Nat.eq_of_beq_eq_true hb.1.1
 have hpos:=Nat.le_of_ble_eq_true hb.1.2;have hbig:=Nat.le_of_ble_eq_true hb.2;split at hk;case h_2=>exact hk.elim
 rename_i ll hll;obtain⟨g1,g2,g3⟩:=litSlices_spec (G:=G) (w:=w) ks _ a.eval _ 0 ll hops hll;let us:List Value:=parts.toList.map fun p=>a.eval p.2;have hone:∀p∈parts.toList,(a.eval p.2).oneCell'=true:=by
  intro p hp;obtain⟨j,hj,rfl⟩:=List.getElem_of_mem hp;obtain⟨p',hp',hs⟩:=g3 j (by omega);rw[List.getElem?_eq_getElem hj]at hp';cases hp';exact CRel.oneCell (c:= .sl false ks (ll.getD j [])) hs
 have hrun:(execOp a.eval o).run P w= .ok (.value (.slice (some (at_ w.heap.size 0)) len len)) (w.alloc (.cells us.toArray e)):=by
  have hf:=fill_ones a.eval parts.toList 0 [] ((List.range (len*1)).map fun x=>z.cells[x%z.cells.size]!) g2 hone rfl (by simp[hlen]);unfold execOp;simp only[ho];unfold Instr.buildSlice;simp only[Sem.run_bind,run_underlying hu,Result.andThen_ok,sizeOf,typeInfo,run_program,hi,Sem.run_pure,hsz];rw[if_neg (by omega),if_neg (by omega),hpm];have hz0:(Array.map (fun x=>z.cells[x%z.cells.size]!) (Array.range (len*1)))=(([]:List Value)++(List.range (len*1)).map fun x=>z.cells[x%z.cells.size]!).toArray:=by
   apply Array.ext';simp
  simp only[Sem.run_bind,zeroValue,typeInfo,run_program,hi,hz,Sem.run_pure,Result.andThen_ok,hz0,hf];simp[newRow,at_,us]
 have hp:=Pres.fresh h.mem (.cells us.toArray e) (L:= .res) (fixed:=true) (key:=none) (fun r e=>by cases e);have hev:=Evolves.fresh h.mem (.cells us.toArray e) (L:= .res) (fixed:=true) (key:=none) (fun r e=>by cases e);have hm:Mem (G.fresh w.heap.size .res true none) st.box (w.alloc (.cells us.toArray e)):=⟨fun r cells hr=>(h.mem.box r cells hr).pres hp trivial (fun _=>trivial),fun r b hb=>h.mem.beta r b hb,(h.mem.fresh_own _).1,(h.mem.fresh_own _).2⟩;refine wp_value hrun ⟨_,_,hk,?_,hev⟩;have hnr:NRel (G.fresh w.heap.size .res true none) (w.alloc (.cells us.toArray e)) ks ll (.slice (some (at_ w.heap.size 0)) len len):=by
  refine⟨w.heap.size,0,len,by rw[g1,hlen],fun j hj=> ?_⟩;obtain⟨p,hp1,hp2⟩:=g3 j hj;refine⟨a.eval p.2,⟨.inr ⟨rfl,rfl⟩,?_⟩,SRel.pres (L:=none) hp (fun _ e=>nomatch e) hp2⟩;rw[cell_heap _ _ _ (alloc_new w _),Nat.zero_add];simp[us,hp1]
 have:=h.put s.le (dst:=o.dst) (fun d' e=>s.dst d' e) hp (fun _ _=>trivial) (own:=false) (hv:= .ce (.nsls ks ll)) (v:= .slice (some (at_ w.heap.size 0)) len len) hnr (fun _ _ e=>nomatch e) hm (log:=st.log);have hb:(st.app (HL.put o.dst false (.ce (.nsls ks ll)))).box=st.box:=by
  unfold HL.put HSt.app;cases o.dst<;>rfl
 rw[<-hb]at this;exact this
theorem empty_sound(h:Rel n G st a w)(s:Sides n o){t:TypeId}{parts:Array (Nat×Operand)}(ho:o.op= .buildSlice t 0 parts)(hp0:parts.toList=[])(hk:(emptySem P t st.box o.dst).wp st K):o.wp P a w (Post n G w K) Q:=by
 unfold emptySem at hk;split at hk;case h_2=>exact hk.elim
 rename_i e d hu hd;split at hk;case h_2=>exact hk.elim
 rename_i ks hks hfree;obtain⟨i,z,hi,hz,hsz,hk1,hzs⟩:=elemKs_spec hks;have hpa:parts= #[]:=by apply Array.ext';simpa using hp0
 subst hpa;have hrun:(execOp a.eval o).run P w= .ok (.value (.slice (some (at_ w.heap.size 0)) 0 0)) (w.alloc (.cells #[] e)):=by
  unfold execOp;simp only[ho];unfold Instr.buildSlice;simp only[Sem.run_bind,run_underlying hu,Result.andThen_ok,sizeOf,typeInfo,run_program,hi,Sem.run_pure,hsz];simp[newRow,at_,Instr.fill];exact congrArg (fun c=>w.alloc (.cells c e)) (Array.eq_empty_of_size_eq_zero (by simp))
 have hp:=Pres.fresh h.mem (.cells #[] e) (L:= .box (newKey d)) (fixed:=false) (key:=some (newKey d)) (fun r e=>by cases e;exact hfree);have hev:=Evolves.fresh h.mem (.cells #[] e) (L:= .box (newKey d)) (fixed:=false) (key:=some (newKey d)) (fun r e=>by cases e;unfold newKey;omega);have hm:Mem (G.fresh w.heap.size (.box (newKey d)) false (some (newKey d))) (upd st.box (newKey d) (some [.arr ks [] 0])) (w.alloc (.cells #[] e)):=by
  refine⟨fun r cells hr=> ?_,fun r b hb=> ?_,(h.mem.fresh_own _).1,(h.mem.fresh_own _).2⟩
  . by_cases hrk:r=newKey d
    . subst hrk;rw[upd_same]at hr;cases hr;refine .inr (.inl ⟨_,_,_,rfl,w.heap.size,#[],e,upd_same _ _ _,upd_same _ _ _,alloc_new w _,fun o hi=> ?_,⟨Nat.le_refl _,by simp⟩,fun i j hi hj=>by simp at hi⟩);rcases hi with hi|⟨e,_⟩
      . have:=h.mem.imm _ _ hi;omega
      . cases e
    . rw[upd_ne _ _ hrk]at hr;exact(h.mem.box r cells hr).pres hp trivial (fun _=>trivial)
  . by_cases hrk:r=newKey d
    . subst hrk;exact⟨_,upd_same _ _ _⟩
    . obtain⟨cells,hc⟩:=h.mem.beta r b ((upd_ne G.beta (some w.heap.size) hrk).symm.trans hb);exact⟨cells,(upd_ne _ _ hrk).trans hc⟩
 refine wp_value hrun ⟨_,_,hk,?_,hev⟩;have:=h.put s.le (dst:=o.dst) (fun d' e=>s.dst d' e) hp (fun _ _=>trivial) (own:=false) (hv:= .ce (.msl (newKey d) 0 0)) (v:= .slice (some (at_ w.heap.size 0)) 0 0) ⟨w.heap.size,upd_same _ _ _,rfl,Nat.le_refl _,Nat.zero_le _⟩ (fun _ _ e=>nomatch e) hm (log:=st.log);rw[hd]at this⊢;exact this
theorem buildSlice_sound(h:Rel n G st a w)(s:Sides n o){t:TypeId}{len:Nat}{parts:Array (Nat×Operand)}(ho:o.op= .buildSlice t len parts)(hk:(buildSliceSem P t len (parts.toList.map fun p=>(p.1,evalO P st.env o.type p.2)) o.dst).wp st K):o.wp P a w (Post n G w K) Q:=by
 have hops:∀p∈parts.toList,∃L,VRel G w L (evalO P st.env o.type p.2) (a.eval p.2):=fun p hp=>s.ev (P:=P) h o.type (x:=p.2) (by rw[ho];simp only[Op.operands];simp;exact⟨p.1,by simpa using hp⟩);have hpm:(parts.map fun(i,x)=>(i,a.eval x)).toList=parts.toList.map fun p=>(p.1,a.eval p.2):=by simp
 unfold buildSliceSem at hk;split at hk;case h_2=>exact hk.elim
 rename_i e hu;split at hk
 . rename_i ks hks;exact nested_sound h s ho hu hks hk
 split at hk;case h_2=>exact hk.elim
 rename_i ks hks;obtain⟨i,z,hi,hz,hsz,hk1,hzs⟩:=elemKs_spec hks;cases hb:(Nat.beq (parts.toList.map fun p=>(p.1,evalO P st.env o.type p.2)).length len&&Nat.ble (len*ks.length) 1000000&&o.dst.isSome)with
 |false=>rw[hb]at hk;exact hk.elim
 |true=>
  rw[hb]at hk;simp only[cond_true]at hk;rw[Bool.and_eq_true,Bool.and_eq_true]at hb;obtain⟨hb,hds⟩:=hb;have hlen:parts.toList.length=len:=by simpa using Nat.eq_of_beq_eq_true hb.1
  have hbig:=Nat.le_of_ble_eq_true hb.2;split at hk;case h_2=>exact hk.elim
  rename_i rows hrows;have hrl:=litRows_len ks _ _ _ _ hrows;have hzl:∃zs:List Value,zs.length=len*ks.length/\(Instr.buildSlice t len (parts.map fun(i,x)=>(i,a.eval x))).run P w= .ok (.slice (some (at_ w.heap.size 0)) len len) (w.alloc (.cells (flatRows ks rows).toArray e)):=by
   by_cases h0:len*ks.length=0
   . refine⟨[],by simp[h0],?_⟩;obtain⟨g1,_⟩:=fill_slice (G:=G) (w:=w) ks _ a.eval parts.toList 0 rows [] [] hrows hops (by simp) (by rw[hlen,h0];rfl);unfold Instr.buildSlice;simp only[Sem.run_bind,run_underlying hu,Result.andThen_ok,sizeOf,typeInfo,run_program,hi,Sem.run_pure,hsz];rw[if_neg (by omega),if_pos h0,hpm];have hz0:(Array.map (fun x=>(#[]:Array Value)[x%(#[]:Array Value).size]!) (Array.range (len*ks.length)))=(([]:List Value)++[]).toArray:=by rw[h0];simp
     simp only[Sem.run_bind,Sem.run_pure,Result.andThen_ok,hz0,g1];simp[newRow,at_]
   . refine⟨(List.range (len*ks.length)).map fun x=>z.cells[x%z.cells.size]!,by simp,?_⟩;obtain⟨g1,_⟩:=fill_slice (G:=G) (w:=w) ks _ a.eval parts.toList 0 rows [] ((List.range (len*ks.length)).map fun x=>z.cells[x%z.cells.size]!) hrows hops (by simp) (by simp[hlen]);unfold Instr.buildSlice;simp only[Sem.run_bind,run_underlying hu,Result.andThen_ok,sizeOf,typeInfo,run_program,hi,Sem.run_pure,hsz];rw[if_neg (by omega),if_neg h0,hpm];have hz0:(Array.map (fun x=>z.cells[x%z.cells.size]!) (Array.range (len*ks.length)))=(([]:List Value)++(List.range (len*ks.length)).map fun x=>z.cells[x%z.cells.size]!).toArray:=by
      apply Array.ext';simp
     simp only[Sem.run_bind,zeroValue,typeInfo,run_program,hi,hz,Sem.run_pure,Result.andThen_ok,hz0,g1];simp[newRow,at_]
  obtain⟨zs,_,hrun⟩:=hzl;have hex:(execOp a.eval o).run P w= .ok (.value (.slice (some (at_ w.heap.size 0)) len len)) (w.alloc (.cells (flatRows ks rows).toArray e)):=by
   unfold execOp;simp only[ho,Sem.run_bind,hrun,Result.andThen_ok,Sem.run_pure]
  cases hd:o.dst with
  |none=>rw[hd]at hds;cases hds
  |some d=>
   rw[hd]at hk;obtain⟨G',hr,hev⟩:=fixed_new h s.le (s.dst d hd) (ks:=ks) (rows:=rows) (cur:=flatRows ks rows) (E:=e) (cap:=len) (fun i j hi hj=>flatRows_get ks rows i j hi hj) (by rw[flatRows_length];rw[hrl,hlen];exact Nat.le_refl _) (by omega) (by
     have:len*1<=len*ks.length:=Nat.mul_le_mul_left _ hk1;unfold maxLen;omega);rw[hrl,hlen]at hr;refine wp_value hex ⟨_,G',hk,?_,hev⟩;rw[hd];exact hr
theorem move_keyz(h:Rel n G st a w)(hn:n<=100000){d s:Nat}(hd:d<n){own z:Bool}{ks:List Nat}{rows:List (List Int)}{v:Value}{bx:Nat->Option (List HC)}{log:Nat->List (Nat×Bool)}(hp:Pres G w G' w' (fun x=>x≠ .tmp s))(hm:Mem G' bx w')(h1:SRel G' w' (bif own then some (.tmp d)else none) ks rows v)(hz:z=true->ZOff v):Rel n G' {env:=setsTo st.env [(d,slv z ks rows),(FL d, .ce (.lit own)),(FL s, .ce (.lit false))],box:=bx,log:=log} (a.put (some d) v) w':=by
 have hd5:d<100000:=Nat.lt_of_lt_of_le hd hn;refine⟨by rw[put_defers];exact h.defers,by rw[put_size];exact h.size,fun x hx=> ?_,hm⟩;obtain⟨e1,e2⟩:=env_take (env:=st.env) (s:=s) (v:=slv z ks rows) (f:= .ce (.lit own)) hd5 x hx;show VRel G' w' (flagL (setsTo st.env _) x) (setsTo st.env _ x) _;by_cases hxd:x=d
 . subst hxd;rw[e1,e2,tmps_put_same (by rw[h.size];exact hd)];by_cases hxs:x=s
   . rw[if_pos hxs,if_pos rfl];exact slv_rel (SRel.drop h1) hz
   . rw[if_neg hxs,if_pos rfl,if_pos rfl];exact slv_rel h1 hz
 . refine h.env_of hp x hx (by rw[e1,if_neg hxd]) (tmps_put_ne hxd) ?_;rw[e2];by_cases hxs:x=s
   . exact .inl (by rw[if_pos hxs])
   . exact .inr ⟨by rw[if_neg hxs,if_neg hxd],by simp;exact hxs⟩
theorem Pres.same_heap{ok:Loc->Prop}(he:w'.heap=w.heap):Pres G w G w' ok:=⟨fun b o hi=>⟨hi,cell_of_heap (by rw[he]) o⟩,fun _ _ h=>h,fun b L _ h=>⟨h,by rw[he],fun _ h=>h⟩⟩
theorem Mem.same_heap{bx:Nat->Option (List HC)}(h:Mem G bx w)(he:w'.heap=w.heap):Mem G bx w':=⟨fun r cells hr=>(h.box r cells hr).pres (Pres.same_heap (ok:=fun _=>True) he) trivial (fun _=>trivial),h.beta,fun b L hb=>by rw[he];exact h.own b L hb,fun b o hi=>by rw[he];exact h.imm b o hi⟩
theorem flat_getD_append(ks:List Nat)(rows more:List (List Int))(i j:Nat)(hi:i<(rows++more).length)(hj:j<ks.length):(flatRows ks rows++flatRows ks more)[i*ks.length+j]?=some (kval (ks.getD j 0) (((rows++more).getD i []).getD j 0)):=by
 rw[<-flatRows_append];exact flatRows_get ks _ i j hi hj
theorem source_cells{L:Option Loc}{ks:List Nat}{rows:List (List Int)}{v:Value}(h:SRel G w L ks rows v):(∃x c,v= .slice x rows.length c)/\∀w':World,(∀b:Nat,w'.heap[b]?=w.heap[b]?)->(Builtin.firstCells ks.length rows.length v).run P w'= .ok (flatRows ks rows).toArray w':=by
 obtain⟨ad,cap,rfl,hc,hm,hr⟩:=h;refine⟨⟨ad,cap,rfl⟩,fun w' hw=> ?_⟩;rcases hr with⟨_,hl,_⟩|⟨b,off,rfl,hi,_⟩
 . have:rows=[]:=List.eq_nil_of_length_eq_zero hl;subst this;cases ad with
   |none=>simp[flatRows,run_firstCells_none]
   |some x=>exact run_firstCells_some w' ks.length 0 x 0 cap [] (by simp) (fun j v hj=>by simp at hj)
 . refine run_firstCells_some w' ks.length rows.length _ _ _ (flatRows ks rows) (flatRows_length ks rows) (fun j v hj=> ?_);have:=flatRows_cells hi j v hj;rw[at_add]at this⊢;rw[cell_of_heap (hw b)];exact this
theorem appendSem_sound(h:Rel n G st a w)(s:Sides n o){x y:Operand}{t u:TypeId}(ho:o.op= .call {callee:= .builtin .append,args:= #[x,y],argTypes:= #[t,u]})(hk:(appendSem P t u (evalO P st.env o.type x) (evalO P st.env o.type y) st.env (tmpOf x) o.dst).wp st K):o.wp P a w (Post n G w K) Q:=by
 obtain⟨L1,h1⟩:=s.ev (P:=P) h o.type (x:=x) (by rw[ho];simp[Op.operands,Call.operands]);obtain⟨L2,h2⟩:=s.ev (P:=P) h o.type (x:=y) (by rw[ho];simp[Op.operands,Call.operands]);generalize e1:evalO P st.env o.type x=X at hk;generalize e2:evalO P st.env o.type y=Y at hk;rw[e1]at h1;rw[e2]at h2;unfold appendSem at hk;split at hk;case h_2=>exact hk.elim
 case h_1 z9 ks rows ow2 ls more ez9=>
  split at hk;case h_2=>exact hk.elim
  rename_i e sl d hu hsrc hd;split at hk;case h_2=>exact hk.elim
  rename_i es i hes how hi;cases hb:(ksEq es ks&&ksEq es ls&&Nat.beq t u)with
  |false=>rw[hb]at hk;exact hk.elim
  |true=>
   rw[hb]at hk;simp only[cond_true]at hk;rw[Bool.and_eq_true,Bool.and_eq_true]at hb;obtain rfl:=ksEq_eq hb.1.1;obtain rfl:=ksEq_eq hb.1.2;obtain rfl:=Nat.eq_of_beq_eq_true hb.2;obtain⟨⟨hbytes,hmax⟩,hk⟩:=hk;cases x<;>simp[tmpOf]at hsrc;rename_i sl';subst hsrc;have hs5:=s.tmp sl' (by rw[ho];simp[Op.operands,Call.operands]);have hfl:flagL st.env sl'=some (.tmp sl'):=by unfold flagL;rw[how];rfl
   have h1':=h.env sl' hs5;rw[show st.env sl'=X from e1,hfl]at h1';obtain⟨h1'',hz9⟩:=slv_of h1' ez9;clear h1 h1';obtain⟨i',z,hi',hz,hsz,hk1,hzs⟩:=elemKs_spec hes;rw[hi]at hi';cases hi';obtain⟨⟨ya,yc,hy⟩,hsrcs⟩:=source_cells (P:=P) (show SRel G w L2 es more (a.eval y)from h2);have hx:a.eval (.tmp sl')=a.tmps.getD sl' undef:=rfl;have hdn:=s.dst d hd;have hex:∀r w1,(Builtin.append_ #[t,t] o.type #[a.tmps.getD sl' undef,a.eval y]).run P w= .ok r w1->(execOp a.eval o).run P w= .ok (.value r) w1:=by
    intro r w1 hr;unfold execOp;simp only[ho,resolve,invoke,builtin,Sem.run_bind,Sem.run_pure,Result.andThen_ok,List.map_toArray,List.map_cons,List.map_nil,hx,hr]
   obtain⟨ad,cap,hv,hc,hcm,hr⟩:=h1'';by_cases hroom:rows.length+more.length<=cap
   ·
    rcases hr with⟨ha0,hl,hc0⟩|⟨b,off,rfl,himm,hsp⟩
    . obtain rfl:ad=none:=ha0.resolve_left (fun e=>nomatch e);have hm0:more.length=0:=by omega
      have hmn:more=[]:=List.eq_nil_of_length_eq_zero hm0;have hrn:rows=[]:=List.eq_nil_of_length_eq_zero hl;subst hmn;subst hrn;subst hc0;have hrun:(Builtin.append_ #[t,t] o.type #[a.tmps.getD sl' undef,a.eval y]).run P w= .ok (.slice none 0 0) w:=by
       have hs0:=hsrcs w (fun _=>rfl);rw[hy]at hs0⊢;rw[hv];simp only[Builtin.append_,run_underlying hu,sizeOf,typeInfo,hi,Builtin.lenOf,Sem.run_bind,Sem.run_pure,Result.andThen_ok,run_program,List.length_nil,hsz,Nat.zero_add]at hs0⊢;simp[run_underlying hu,hs0,hi,hsz]
      refine wp_value (hex _ _ hrun) ⟨_,G,hk,?_,Evolves.refl _ _⟩;rw[hd];exact move_keyz h s.le hdn (Pres.refl _ _ _) h.mem ⟨none,0,rfl,Nat.le_refl _,Nat.zero_le _, .inl ⟨.inr rfl,rfl,rfl⟩⟩ (fun _ b o n c e=>nomatch e)
    . obtain⟨hob,cur,E,hh,hfit,hni⟩:=hsp _ rfl;let cur':Array Value:=(cur.toList.take (off+rows.length*es.length)++flatRows es more++cur.toList.drop (off+rows.length*es.length+(flatRows es more).length)).toArray;have hfit2:off+rows.length*es.length+(flatRows es more).length<=cur.size:=by
       rw[flatRows_length];have:(rows.length+more.length)*es.length<=cap*es.length:=Nat.mul_le_mul_right _ hroom;rw[Nat.add_mul]at this;omega
      have hrun:(Builtin.append_ #[t,t] o.type #[a.tmps.getD sl' undef,a.eval y]).run P w= .ok (.slice (some (at_ b off)) (rows.length+more.length) cap) (w.setRow b cur'):=by
       have hs0:=hsrcs w (fun _=>rfl);have hst:=run_storeCells_at P b (off+rows.length*es.length) E (flatRows es more) 0 cur w hh (by simpa using hfit2) (flatRows_one es more);simp only[Nat.add_zero]at hst;rw[hy]at hs0⊢;rw[hv];simp only[Builtin.append_,run_underlying hu,sizeOf,typeInfo,hi,Builtin.lenOf,Sem.run_bind,Sem.run_pure,Result.andThen_ok,run_program,hsz]at hs0⊢;simp[run_underlying hu,hs0,hroom,at_add,hi,hsz];simp only[at_];rw[hst];rfl
      have hsz':cur'.size=cur.size:=by
       simp only[cur',List.size_toArray,List.length_append,List.length_take,List.length_drop,Array.length_toList];omega
      have hget:∀q,cur'[q]?=if q<off+rows.length*es.length then cur[q]? else if q<off+rows.length*es.length+(flatRows es more).length then(flatRows es more)[q-(off+rows.length*es.length)]? else cur[q]?:=by
       intro q;have htl:(cur.toList.take (off+rows.length*es.length)).length=off+rows.length*es.length:=by simp;omega
       simp only[cur',List.getElem?_toArray,List.append_assoc];by_cases hq:q<off+rows.length*es.length
       . rw[if_pos hq,List.getElem?_append_left (by rw[htl];exact hq),List.getElem?_take,if_pos hq];simp
       . rw[if_neg hq,List.getElem?_append_right (by rw[htl];omega),htl];by_cases hq2:q<off+rows.length*es.length+(flatRows es more).length
         . rw[if_pos hq2,List.getElem?_append_left (by omega)]
         . rw[if_neg hq2,List.getElem?_append_right (by omega),List.getElem?_drop];simp only[Array.getElem?_toList];congr 1;omega
      let G':Ghost:={G with imm:=fun x q=>G.imm x q∨(x=b/\off+rows.length*es.length<=q/\q<off+(rows.length+more.length)*es.length),owner:=upd G.owner b (some (.tmp d))};have hblt:=h.mem.own b _ hob;have hcell:∀x q,G.imm x q->(w.setRow b cur').cell? (at_ x q)=w.cell? (at_ x q):=by
       intro x q hi;by_cases hxb:x=b
       . subst hxb;rw[cell_heap _ _ _ (setRow_heap w x cur cur' E _ hh),cell_heap _ _ _ hh,hget];by_cases hq:q<off+rows.length*es.length
         . rw[if_pos hq]
         . rw[if_neg hq,if_neg (fun hlt=>hni q (by omega) (by
            rw[flatRows_length]at hlt;have:(rows.length+more.length)*es.length<=cap*es.length:=Nat.mul_le_mul_right _ hroom;rw[Nat.add_mul]at this;omega) hi)]
       . exact cell_of_heap (setRow_other w b x cur' hxb) q
      have hp:Pres G w G' (w.setRow b cur') (fun x=>x≠ .tmp sl'):=by
       refine⟨fun x q hi=>⟨.inl hi,hcell x q hi⟩,fun _ _ h=>h,fun x L hL hx=> ?_⟩;have hne:x≠b:=fun e=>by subst e;rw[hob]at hx;cases hx;exact hL rfl
       exact⟨(upd_ne _ _ hne).trans hx,setRow_other w b x cur' hne,fun q hi=>hi.elim id fun h2=>absurd h2.1 hne⟩
      have hev:Evolves G w G' (w.setRow b cur'):=by
       refine⟨rfl,rfl,rfl,by simp,fun x q hi=>⟨.inl hi,hcell x q hi⟩,fun x _ hx=> ?_,fun _ _ _ e=>e⟩;have hne:x≠b:=fun e=>by subst e;rw[hob]at hx;cases hx
       exact⟨(upd_ne _ _ hne).trans hx,setRow_other w b x cur' hne,fun q hi=>hi.elim id fun h2=>absurd h2.1 hne⟩
      have hmem:Mem G' st.box (w.setRow b cur'):=by
       refine⟨fun r cells hr=>(h.mem.box r cells hr).pres hp (by simp) (by simp),h.mem.beta,fun x L hx=> ?_,fun x q hi=> ?_⟩
       . rcases upd_some hx with⟨rfl,_⟩|hx
         . simpa using hblt
         . simpa using h.mem.own x L hx
       . rcases hi with hi|⟨rfl,_⟩
         . simpa using h.mem.imm x q hi
         . simpa using hblt
      refine wp_value (hex _ _ hrun) ⟨_,G',hk,?_,hev⟩;rw[hd];refine move_keyz h s.le hdn hp hmem ?_ (fun ez b2 o2 n2 c2 e=>by cases e;exact hz9 ez b off rows.length cap hv);refine⟨_,cap,by rw[List.length_append],by rw[List.length_append];exact hroom,hcm, .inr ⟨b,off,rfl,fun i j hi hj=> ?_,fun Lc he=> ?_⟩⟩
      . have hlt:i*es.length+j<(rows.length+more.length)*es.length:=by
         rw[List.length_append]at hi;have:(i+1)*es.length<=(rows.length+more.length)*es.length:=Nat.mul_le_mul_right _ hi;rw[Nat.succ_mul]at this;omega
        by_cases hir:i<rows.length
        . have hold:=himm i j hir hj;have e3:(rows++more).getD i []=rows.getD i []:=by simp[List.getElem?_append_left hir]
          rw[e3];exact hold.pres hp
        . have hpos:off+(i*es.length+j)=off+rows.length*es.length+((i-rows.length)*es.length+j):=by
           have:i*es.length=rows.length*es.length+(i-rows.length)*es.length:=by rw[<-Nat.add_mul];congr 1;omega
           omega
          have hir2:i-rows.length<more.length:=by rw[List.length_append]at hi;omega
          have hg:=flatRows_get es more (i-rows.length) j hir2 hj;have hlt2:(i-rows.length)*es.length+j<(flatRows es more).length:=(List.getElem?_eq_some_iff.1 hg).1;refine⟨.inr ⟨rfl,by omega,by omega⟩,?_⟩;rw[cell_heap _ _ _ (setRow_heap w b cur cur' E _ hh),hget,hpos,if_neg (by omega),if_pos (by omega)];rw[show off+rows.length*es.length+((i-rows.length)*es.length+j)-(off+rows.length*es.length)=(i-rows.length)*es.length+j by omega,hg];congr 2;simp[List.getElem?_append_right (Nat.le_of_not_lt hir)]
      . cases he;refine⟨upd_same _ _ _,cur',E,setRow_heap w b cur cur' E _ hh,by rw[hsz'];exact hfit,fun q hq hq2 hi=> ?_⟩;rw[List.length_append]at hq;rcases hi with hi|⟨_,_,hlt⟩
        . refine hni q ?_ hq2 hi;rw[Nat.add_mul]at hq;omega
        . omega
   ·
    have hgrow:cap<rows.length+more.length:=by omega
    have hsl:∀w':World,(∀b:Nat,w'.heap[b]?=w.heap[b]?)->(Builtin.firstCells es.length rows.length (.slice ad rows.length cap)).run P w'= .ok (flatRows es rows).toArray w':=(source_cells (P:=P) (show SRel G w (some (.tmp sl')) es rows (.slice ad rows.length cap)from⟨ad,cap,rfl,hc,hcm,hr⟩)).2;have hncap:=growslice_fits hgrow hbytes;have hgc:=grownCap_ge w (rows.length+more.length) cap e;have hgm:=grownCap_le_maxLen w (rows.length+more.length) cap e hmax;let NC:=grownCap w (rows.length+more.length) cap e;have hrun:(Builtin.append_ #[t,t] o.type #[a.tmps.getD sl' undef,a.eval y]).run P w= .ok (.slice (some (at_ w.heap.size 0)) (rows.length+more.length) NC) (w.drew.alloc (.cells (flatRows es rows++flatRows es more++(Builtin.zeroCells z.cells (NC-(rows.length+more.length))).toList).toArray e)):=by
     have hs0:=hsrcs w.drew (fun _=>rfl);have hs1:=hsl w.drew (fun _=>rfl);rw[hy]at hs0⊢;rw[hv];have h48':¬(281474976710656<Builtin.nextslicecap (rows.length+more.length) cap*i.bytes):=by omega
     have hin:P.underlying t=some (.slice e):=hu;simp only[Builtin.append_,run_underlying hu,sizeOf,typeInfo,hi,Builtin.lenOf,Sem.run_bind,Sem.run_pure,Result.andThen_ok,run_program,hsz]at hs0 hs1⊢;have hn:¬(rows.length+more.length<=cap):=by omega
     have hmx:¬((9223372036854775807:Int)<(rows.length:Int)+(more.length:Int)):=by
      simp only[maxLen]at hmax;omega
     simp[run_underlying hu,hn,h48',hmx,hi,hsz,hz,Question.forced,hs0,hs1,zeroValue,typeInfo,newRow,at_,NC,grownCap];congr 2;apply Array.ext';simp
    have hzl:(Builtin.zeroCells z.cells (NC-(rows.length+more.length))).toList.length=(NC-(rows.length+more.length))*es.length:=by
     rw[Array.length_toList,size_zeroCells,hzs]
    obtain⟨G',hp,hev,hmem,hs⟩:=fixed_pre (G:=G) (w:=w.drew) (bx:=st.box) (h.mem.same_heap rfl) d (ks:=es) (rows:=rows++more) (cur:=flatRows es rows++flatRows es more++(Builtin.zeroCells z.cells (NC-(rows.length+more.length))).toList) (E:=e) (cap:=NC) (fun i j hi hj=>by
      have hg:=flat_getD_append es rows more i j hi hj;rw[List.getElem?_append_left (List.getElem?_eq_some_iff.1 hg).1];exact hg) (by
      rw[List.length_append,List.length_append,flatRows_length,flatRows_length,hzl,<-Nat.add_mul,<-Nat.add_mul];exact Nat.mul_le_mul_right _ (by omega)) (by rw[List.length_append];exact hgc) hgm;refine wp_value (hex _ _ hrun) ⟨_,G',hk,?_,?_⟩
    . rw[hd];have hs':=hs (some (.tmp d)) (fun Lc e=>by cases e;rfl);rw[List.length_append]at hs';exact move_keyz h s.le hdn (own:=true) (Pres.mk hp.imm hp.beta (fun b L _ hb=>hp.own b L trivial hb)) hmem hs' (fun _ b2 o2 n2 c2 e=>by cases e;rfl)
    . exact⟨hev.os,hev.tape,hev.output,hev.size,hev.imm,hev.foreign,hev.beta⟩
theorem exec_builtin{b:Builtin}{args:Array Operand}{ts:Array TypeId}(ho:o.op= .call {callee:= .builtin b,args:=args,argTypes:=ts}){r:Value}(hr:(builtin b ts o.type (args.map fun| .const _=>true|_=>false) (args.map a.eval)).run P w= .ok (.value r) w):(execOp a.eval o).run P w= .ok (.value r) w:=by
 unfold execOp;simp only[ho,resolve,invoke,Sem.run_bind,Sem.run_pure,Result.andThen_ok];exact hr
theorem len_sound(h:Rel n G st a w)(s:Sides n o){x:Operand}{t:TypeId}(ho:o.op= .call {callee:= .builtin .len,args:= #[x],argTypes:= #[t]})(hk:(lenSem P t (evalO P st.env o.type x) o.dst).wp st K):o.wp P a w (Post n G w K) Q:=by
 obtain⟨L1,h1⟩:=s.ev (P:=P) h o.type (x:=x) (by rw[ho];simp[Op.operands,Call.operands]);unfold lenSem at hk;split at hk
 . rename_i e hu;split at hk
   . rename_i own ks rows e1;rw[e1]at h1;obtain⟨ad,cap,hv,_⟩:=h1.of_ce;refine ok_sound h s (show VRel G w none (.ce (.int .i64 rows.length)) (.int .i64 rows.length)from rfl) (exec_builtin ho ?_) hk;simp[builtin,Builtin.len_,run_underlying hu,hv,goInt]
   . rename_i r m cap e1;rw[e1]at h1;obtain⟨b,hb,hv,_⟩:=h1.of_ce;refine ok_sound h s (show VRel G w none (.ce (.int .i64 m)) (.int .i64 m)from rfl) (exec_builtin ho ?_) hk;simp[builtin,Builtin.len_,run_underlying hu,hv,goInt]
   . rename_i ks e1;rw[e1]at h1;obtain⟨ad,hv⟩:=h1.of_ce;refine ok_sound h s (show VRel G w none (.ce (.num .i64 0)) (.int .i64 0)from rfl) (exec_builtin ho ?_) hk;simp[builtin,Builtin.len_,run_underlying hu,hv,goInt]
   . rename_i ks ll e1;rw[e1]at h1;obtain⟨b,off,cap,hv,_⟩:=h1.of_ce;refine ok_sound h s (show VRel G w none (.ce (.int .i64 ll.length)) (.int .i64 ll.length)from rfl) (exec_builtin ho ?_) hk;simp[builtin,Builtin.len_,run_underlying hu,hv,goInt]
   . rename_i ks rows e1;rw[e1]at h1;obtain⟨⟨ad,cap,hv,_⟩,_⟩:=h1;refine ok_sound h s (show VRel G w none (.ce (.int .i64 rows.length)) (.int .i64 rows.length)from rfl) (exec_builtin ho ?_) hk;simp[builtin,Builtin.len_,run_underlying hu,hv,goInt]
   . exact hk.elim
 . rename_i m e hu;refine ok_sound h s (show VRel G w none (.ce (.num .i64 m)) (.int .i64 m)from rfl) (exec_builtin ho ?_) hk;simp only[builtin,Builtin.len_,List.map_toArray,List.map_cons,List.map_nil,Sem.run_bind,run_underlying hu,Result.andThen_ok];cases a.eval x<;>simp[goInt,run_underlying hu]
 . rename_i hu;split at hk
   . rename_i str e1;rw[e1]at h1;have hv:a.eval x= .string str:=h1.of_ce;refine ok_sound h s (show VRel G w none (.ce (.int .i64 str.size)) (.int .i64 str.size)from rfl) (exec_builtin ho ?_) hk;simp[builtin,Builtin.len_,run_underlying hu,hv,goInt]
   . exact hk.elim
 . exact hk.elim
theorem run_minmax(big:Bool)(k:IntKind)(ev:Operand->HV)(ρ:Operand->Value):∀(l:List Operand)(x:Int)(kn:Bool)(m:Int)(u:Bool),(∀p∈l,∃L,VRel G w L (ev p) (ρ p))->minmax big k x kn (l.map ev)=some (m,u)->(List.foldlM (bif big then Builtin.max2 else Builtin.min2) (.int k x) (l.map ρ)).run P w= .ok (.int k m) w
 |[],x,kn,m,u,_,h=>by cases h;simp
 |p::l,x,kn,m,u,hr,h=>by
  obtain⟨L,hp⟩:=hr p (by simp);rw[List.map_cons]at h⊢;unfold minmax at h;split at h
  . rename_i heq;cases heq
  . rename_i c r heq;injection heq with e1 e2;subst e2;split at h
    . rename_i j y v hc;cases hk:kEq j k with
      |false=>rw[hk]at h;cases h
      |true=>
       rw[hk]at h;simp only[cond_true]at h;obtain rfl:=kEq_eq hk;rw[e1]at hp;have hv:=isNum_rel hp.of_ce hc;rw[List.foldlM_cons];have ih:=run_minmax big j ev ρ l _ _ m u (fun q hq=>hr q (List.mem_cons_of_mem _ hq)) h;rw[hv];cases big
       . simp only[cond_false,Builtin.min2,Sem.run_bind,Sem.run_pure,Result.andThen_ok]at ih⊢;exact ih
       . simp only[cond_true,Builtin.max2,Sem.run_bind,Sem.run_pure,Result.andThen_ok]at ih⊢;exact ih
    . cases h
  . cases h
theorem minmax_sound(h:Rel n G st a w)(s:Sides n o){b:Builtin}{big:Bool}(hb:(b= .max/\big=true)∨(b= .min/\big=false)){args:Array Operand}{ts:Array TypeId}(ho:o.op= .call {callee:= .builtin b,args:=args,argTypes:=ts})(hk:(minmaxSem big (args.toList.map (evalO P st.env o.type)) o.dst).wp st K):o.wp P a w (Post n G w K) Q:=by
 have hops:∀p∈args.toList,∃L,VRel G w L (evalO P st.env o.type p) (a.eval p):=fun p hp=>s.ev (P:=P) h o.type (x:=p) (by rw[ho];simp[Op.operands,Call.operands];simpa using hp);unfold minmaxSem at hk;split at hk;case h_2=>exact hk.elim
 rename_i c r heq;cases hl:args.toList with
 |nil=>rw[hl]at heq;cases heq
 |cons p l=>
  rw[hl,List.map_cons]at heq;injection heq with e1 e2;subst e2;split at hk;case h_2=>exact hk.elim
  rename_i k x kn hc;split at hk;case h_2=>exact hk.elim
  rename_i m u hm;obtain⟨L,hp⟩:=hops p (by rw[hl];simp);rw[e1]at hp;have hv:=isNum_rel hp.of_ce hc;have hrun:=run_minmax (P:=P) (G:=G) (w:=w) big k (evalO P st.env o.type) a.eval l x kn m u (fun q hq=>hops q (by rw[hl];exact List.mem_cons_of_mem _ hq)) hm;have hargs:(args.map a.eval).toList= .int k x::l.map a.eval:=by rw[Array.toList_map,hl,List.map_cons,hv]
  refine ok_sound h s (intRes_rel k u m) (exec_builtin ho ?_) hk;rcases hb with⟨rfl,rfl⟩|⟨rfl,rfl⟩
  . simp only[builtin,Sem.run_bind,Builtin.max_,hargs];simp only[cond_true]at hrun;rw[hrun];simp
  . simp only[builtin,Sem.run_bind,Builtin.min_,hargs];simp only[cond_false]at hrun;rw[hrun];simp
theorem slice_part{L:Option Loc}{ks:List Nat}{rows:List (List Int)}{b off cap:Nat}(_h:rows.length<=cap)(himm:∀i j,i<rows.length->j<ks.length->ImmC G w b (off+(i*ks.length+j)) (kval (ks.getD j 0) ((rows.getD i []).getD j 0)))(l m:Nat)(hl:l<=m)(hm:m<=rows.length):∀i j,i<((rows.take m).drop l).length->j<ks.length->ImmC G w b (off+l*ks.length+(i*ks.length+j)) (kval (ks.getD j 0) ((((rows.take m).drop l).getD i []).getD j 0)):=by
 intro i j hi hj;have hi':l+i<m:=by simp at hi;omega
 have:=himm (l+i) j (by omega) hj;have e1:((rows.take m).drop l).getD i []=rows.getD (l+i) []:=by
  simp only[List.getD_eq_getElem?_getD,List.getElem?_drop,List.getElem?_take,if_pos hi']
 rw[e1,show off+l*ks.length+(i*ks.length+j)=off+((l+i)*ks.length+j)by rw[Nat.add_mul];omega];exact this
theorem slice_sound(h:Rel n G st a w)(s:Sides n o){t:TypeId}{x:Operand}{lo hi:Option Operand}(ho:o.op= .slice t x lo hi none)(hk:(sliceSem P st.env t (evalO P st.env o.type x) (tmpOf x) (lo.map (evalO P st.env o.type)) (hi.map (evalO P st.env o.type)) o.dst).wp st K):o.wp P a w (Post n G w K) Q:=by
 obtain⟨L1,h1⟩:=s.ev (P:=P) h o.type (x:=x) (by rw[ho];simp[Op.operands]);have hlo:∀y,lo=some y->∃L,VRel G w L (evalO P st.env o.type y) (a.eval y):=fun y e=>s.ev (P:=P) h o.type (x:=y) (by rw[ho,e];simp[Op.operands]);have hhi:∀y,hi=some y->∃L,VRel G w L (evalO P st.env o.type y) (a.eval y):=fun y e=>s.ev (P:=P) h o.type (x:=y) (by rw[ho,e];simp[Op.operands]);have hex:∀r,(Instr.sliceAt t (a.eval x) (lo.map a.eval) (hi.map a.eval) none).run P w= .ok r w->(execOp a.eval o).run P w= .ok (.value r) w:=by
  intro r hr;unfold execOp;simp only[ho,Option.map_none,Sem.run_bind,hr,Result.andThen_ok,Sem.run_pure]
 unfold sliceSem at hk;split at hk;case h_2=>exact hk.elim
 rename_i e own ks rows hu e1;rw[e1]at h1;split at hk;case h_2=>exact hk.elim
 rename_i sz hs;cases hsz:Nat.beq sz ks.length with
 |false=>rw[hsz]at hk;exact hk.elim
 |true=>
  rw[hsz]at hk;simp only[cond_true]at hk;obtain rfl:=Nat.eq_of_beq_eq_true hsz;have h1c:SRel G w L1 ks rows (a.eval x):=h1;obtain⟨ad,cap,hv,hc,hcm,hr⟩:=h1c;have hrun:∀(l m:Nat),l<=m->m<=rows.length->(lo.map a.eval=none/\l=0∨∃k,lo.map a.eval=some (.int k l))->(hi.map a.eval=none/\m=rows.length∨∃k,hi.map a.eval=some (.int k m))->(Instr.sliceAt t (a.eval x) (lo.map a.eval) (hi.map a.eval) none).run P w= .ok (.slice (if cap=l then ad else ad.map (·.add (l*ks.length))) (m-l) (cap-l)) w:=by
   intro l m hlm hm hl hh;have hb1:∀k:IntKind,(Instr.sliceBound (.int k m) cap .sliceAcap).run P w= .ok m w:=by
    intro k;have:(m:Int)<=cap:=by omega
    simp[Instr.sliceBound,asIntOf];omega
   have hb2:∀k:IntKind,(Instr.sliceBound (.int k l) m .sliceB).run P w= .ok l w:=by
    intro k;simp[Instr.sliceBound,asIntOf];omega
   have hs0:(Instr.sliceBounds true rows.length cap (lo.map a.eval) (hi.map a.eval) none).run P w= .ok (l,m,cap) w:=by
    unfold Instr.sliceBounds;rcases hl with⟨hl,rfl⟩|⟨k1,hl⟩<;>rcases hh with⟨hh,rfl⟩|⟨k2,hh⟩
    . rw[hl,hh];simp
    . rw[hl,hh];simp[hb1 k2]
    . rw[hl,hh];simp[hb2 k1]
    . rw[hl,hh];simp[hb1 k2,hb2 k1]
   unfold Instr.sliceAt Instr.slice;rw[hv];simp only[Sem.run_bind,run_underlying hu,Result.andThen_ok,hs0,run_sizeOf hs,Sem.run_pure]
  have hlen:∀l m:Nat,l<=m->m<=rows.length->((rows.take m).drop l).length=m-l:=by intro l m h1 h2;simp;omega
  have hpart:∀l m:Nat,l<=m->m<=rows.length->∀L,(∀Lc,L=some Lc->m=rows.length/\SRel G w (some Lc) ks rows (a.eval x))->SRel G w L ks ((rows.take m).drop l) (.slice (if cap=l then ad else ad.map (·.add (l*ks.length))) (m-l) (cap-l)):=by
   intro l m hlm hm L hL;refine⟨_,cap-l,by rw[hlen l m hlm hm],by rw[hlen l m hlm hm];omega,by omega,?_⟩;rcases hr with⟨_,hl0,hc0⟩|⟨b,off,rfl,himm,_⟩
   . cases hLL:L with
     |none=>exact .inl ⟨.inl rfl,by rw[hlen l m hlm hm];omega,by omega⟩
     |some Lc=>
      obtain⟨hm2,ad2,cap2,hv2,_,_,hr2⟩:=hL Lc hLL;rw[hv]at hv2;cases hv2;rcases hr2 with⟨e,_⟩|⟨b2,off2,e2,himm2,hsp⟩
      . have e':ad=none:=e.resolve_left (fun e=>nomatch e);subst e';exact .inl ⟨.inr (by simp),by rw[hlen l m hlm hm];omega,by omega⟩
      . have hcl:cap=l:=by omega
        rw[if_pos hcl];refine .inr ⟨b2,off2,e2,fun i j hi _=> ?_,fun Lc' he=> ?_⟩
        . rw[hlen l m hlm hm]at hi;omega
        . cases he;obtain⟨ho1,cur,E,hh,hfit,hni⟩:=hsp Lc rfl;refine⟨ho1,cur,E,hh,by rw[hcl];simp;omega,fun q hq hq2 hi=> ?_⟩;rw[hcl]at hq2;simp at hq2;omega
   . by_cases hcl:cap=l
     ·
      have hml:m=l:=by omega
      rw[if_pos hcl];refine .inr ⟨b,off,rfl,fun i j hi _=> ?_,fun Lc he=> ?_⟩
      . rw[hlen l m hlm hm]at hi;omega
      . obtain⟨hm2,ad2,cap2,hv2,_,_,hr2⟩:=hL Lc he;rw[hv]at hv2;cases hv2;rcases hr2 with⟨e,_⟩|⟨b2,off2,e2,himm2,hsp⟩
        . rcases e with e|e<;>cases e
        . cases e2;obtain⟨ho1,cur,E,hh,hfit,hni⟩:=hsp Lc rfl;refine⟨ho1,cur,E,hh,by rw[hcl];simp;omega,fun q hq hq2 hi=> ?_⟩;rw[hcl]at hq2;simp at hq2;omega
     . rw[if_neg hcl];refine .inr ⟨b,off+l*ks.length,by simp[at_add],slice_part (L:=none) hc himm l m hlm hm,fun Lc he=> ?_⟩;obtain⟨hm2,ad2,cap2,hv2,_,_,hr2⟩:=hL Lc he;rw[hv]at hv2;cases hv2;rcases hr2 with⟨e,_⟩|⟨b2,off2,e2,himm2,hsp⟩
       . rcases e with e|e<;>cases e
       . cases e2;obtain⟨ho1,cur,E,hh,hfit,hni⟩:=hsp Lc rfl;have hcl2:l<=cap:=by omega
         refine⟨ho1,cur,E,hh,?_,fun q hq hq2 hi=> ?_⟩
         . have:cap*ks.length=l*ks.length+(cap-l)*ks.length:=by rw[<-Nat.add_mul];congr 1;omega
           omega
         . rw[hlen l m hlm hm,hm2]at hq;have:rows.length*ks.length=l*ks.length+(rows.length-l)*ks.length:=by rw[<-Nat.add_mul];congr 1;omega
           have h5:cap*ks.length=l*ks.length+(cap-l)*ks.length:=by rw[<-Nat.add_mul];congr 1;omega
           exact hni q (by omega) (by omega) hi
  split at hk
  ·
   rename_i l' h' el eh;cases lo with
   |none=>cases el
   |some lo'=>
   cases hi with
   |none=>cases eh
   |some hi'=>
   simp only[Option.map_some,Option.some.injEq]at el eh;split at hk;case h_2=>exact hk.elim
   rename_i k1 lv _ k2 mv _ hl1 hh1;obtain⟨L3,hl3⟩:=hlo lo' rfl;obtain⟨L4,hl4⟩:=hhi hi' rfl;rw[el]at hl3;rw[eh]at hl4;have vl:=isNum_rel hl3.of_ce hl1;have vh:=isNum_rel hl4.of_ce hh1;obtain⟨⟨p0,p1,p2⟩,hk⟩:=hk;obtain⟨l,rfl⟩:=Int.eq_ofNat_of_zero_le p0;obtain⟨m,rfl⟩:=Int.eq_ofNat_of_zero_le (show(0:Int)<=mv by omega);refine pure_sound h s.le s.dst (hv:= .ce (.sl false ks ((rows.take m).drop l))) (hpart l m (by omega) (by omega) none (fun _ e=>nomatch e)) (hex _ (hrun l m (by omega) (by omega) (.inr ⟨k1,by simp[vl]⟩) (.inr ⟨k2,by simp[vh]⟩))) hk
  ·
   rename_i h' el eh;cases lo with
   |some _=>cases el
   |none=>
   cases hi with
   |none=>cases eh
   |some hi'=>
   simp only[Option.map_some,Option.some.injEq]at eh;split at hk;case h_2=>exact hk.elim
   rename_i k2 mv _ hh1;obtain⟨L4,hl4⟩:=hhi hi' rfl;rw[eh]at hl4;have vh:=isNum_rel hl4.of_ce hh1;obtain⟨⟨p0,p2⟩,hk⟩:=hk;obtain⟨m,rfl⟩:=Int.eq_ofNat_of_zero_le p0;have hp:=hpart 0 m (by omega) (by omega) none (fun _ e=>nomatch e);refine pure_sound h s.le s.dst (hv:= .ce (.sl false ks (rows.take m))) hp (hex _ (hrun 0 m (by omega) (by omega) (.inl ⟨by simp,rfl⟩) (.inr ⟨k2,by simp[vh]⟩))) hk
  ·
   rename_i l' el eh;cases lo with
   |none=>cases el
   |some lo'=>
   cases hi with
   |some _=>cases eh
   |none=>
   simp only[Option.map_some,Option.some.injEq]at el;split at hk;case h_2=>exact hk.elim
   rename_i k1 lv _ hl1;obtain⟨L3,hl3⟩:=hlo lo' rfl;rw[el]at hl3;have vl:=isNum_rel hl3.of_ce hl1;split at hk;case h_2=>exact hk.elim
   rename_i sl d hsrc hd;obtain⟨⟨p0,p1⟩,hk⟩:=hk;obtain⟨l,rfl⟩:=Int.eq_ofNat_of_zero_le p0;cases x<;>simp[tmpOf]at hsrc;rename_i sl';subst hsrc;have hs5:=s.tmp sl' (by rw[ho];simp[Op.operands]);have hdn:=s.dst d hd;have hfull:rows.take rows.length=rows:=List.take_length;have hrun':=hex _ (hrun l rows.length (by omega) (Nat.le_refl _) (.inr ⟨k1,by simp[vl]⟩) (.inl ⟨by simp,rfl⟩));have hx:a.eval (.tmp sl')=a.tmps.getD sl' undef:=rfl;have henv:=h.env sl' hs5;rw[show st.env sl'= .ce (.sl own ks rows)from e1]at henv;have hp0:=hpart l rows.length (by omega) (Nat.le_refl _) (flagL st.env sl') (fun Lc e=>⟨rfl,by rw[<-e];exact henv⟩);rw[hfull]at hp0;obtain⟨G',hr',hev⟩:=take_rel h s.le hdn (s:=sl') (z:=false) hp0 (fun e=>nomatch e);refine wp_value hrun' ⟨_,G',hk,?_,hev⟩;rw[hd];exact hr'
  . exact hk.elim
theorem BRel.dis{r k:Nat}{c:HC}{v:Value}(h:BRel G w r k c v):CRel G w none c.dis v:=by
 cases c with
 |mu ks rows=>obtain⟨ad,cap,rfl,_⟩:=h;exact(show Value.oneCell' (.slice ad rows.length cap)=true from rfl)
 |sl own ks rows=>exact SRel.drop h
 |_=>exact h
theorem kcell_rel(k:Nat)(m:Int):CRel G w none (kcell k m) (kval k m):=by cases k<;>exact rfl
theorem rowCells_spec{ks:List Nat}{row:List Int}{off m:Nat}{cs:List HC}(h:rowCells ks row off m=some cs):off+m<=ks.length/\cs=(List.range m).map fun j=>kcell (ks.getD (off+j) 0) (row.getD (off+j) 0):=by
 unfold rowCells at h;cases hb:Nat.ble (off+m) ks.length with
 |false=>rw[hb]at h;cases h
 |true=>rw[hb]at h;cases h;exact⟨Nat.le_of_ble_eq_true hb,rfl⟩
theorem run_load_cells{t:TypeId}{ag:Bool}{m:Nat}(ha:isAggT P t=some ag)(hs:sizeT P t=some m)(b k:Nat)(us:List Value)(hl:us.length=m)(hc:∀j v,us[j]?=some v->w.cell? (at_ b (k+j))=some v)(h1:ag=false->m=1):∃v,(Instr.loadAt t (.pointer (some (at_ b k)))).run P w= .ok v w/\(ag=true->v= .agg us.toArray)/\(ag=false->us=[v]):=by
 cases ag with
 |true=>
  refine⟨.agg us.toArray,?_,fun _=>rfl,(fun e=>nomatch e)⟩;have:=run_loadCells_list (P:=P) w (at_ b k) us (fun j v hj=>by rw[at_add];exact hc j v hj);rw[hl]at this;simp[Instr.loadAt,Instr.sureAddr,loadVar,run_isAgg ha,run_sizeOf hs,this]
 |false=>
  have hm:=h1 rfl;subst hm;match us,hl with
  |[v],_=>
   refine⟨v,?_,(fun e=>nomatch e),fun _=>rfl⟩;have:=hc 0 v rfl;simp[Instr.loadAt,Instr.sureAddr,loadVar,run_isAgg ha];rw[show(at_ b k)=at_ b (k+0)from rfl,this]
theorem TVal.mk{t:TypeId}{ag:Bool}{cs:List HC}{us:List Value}{v:Value}(ha:isAggT P t=some ag)(hl:us.length=cs.length)(hr:∀(j:Nat)(c:HC),cs[j]?=some c->∃u,us[j]?=some u/\CRel G w none c u)(h1:ag=true->v= .agg us.toArray)(h2:ag=false->us=[v]):TVal P G w t cs v:=by
 cases ag with
 |true=>exact .inl ⟨ha,us.toArray,h1 rfl,by simpa using hl,fun j c hc=>by obtain⟨u,hu,h⟩:=hr j c hc;exact⟨u,by simpa using hu,h⟩⟩
 |false=>
  have:=h2 rfl;subst this;match cs,hl with
  |[c],_=>
   obtain⟨u,hu,h⟩:=hr 0 c rfl;cases hu;exact .inr ⟨ha,c,rfl,h⟩
theorem map_one{f:HC->HC}{cs:List HC}{c:HC}(h:cs.map f=[c]):cs.length=1:=by
 have:=congrArg List.length h;simpa using this
theorem std_cons2(c d:HC)(l:List HC):HL.std (c::d::l)=true:=by cases c<;>rfl
theorem std_frz{cells:List HC}(h:HL.std cells=true):HL.std (cells.map HC.frz)=true:=by
 match cells,h with
 |[],hs=>exact hs
 |[c],hs=>cases c<;>first|rfl|cases hs
 |_::_::_,_=>exact std_cons2 _ _ _
theorem Mem.take_cell{bx:Nat->Option (List HC)}(h:Mem G bx w){r k:Nat}{cells:List HC}{own:Bool}{ks:List Nat}{rows:List (List Int)}{d:Nat}{v:Value}(hb:bx r=some cells)(hstd:HL.std cells=true)(hc:cells[k]?=some (.sl own ks rows))(hv:∀b vs T,G.beta r=some b->w.heap[b]?=some (.cells vs T (0,0))->vs[k]?=some v):∃G',Pres G w G' w (fun x=>x≠ .cell r k)/\Evolves G w G' w/\Mem G' (upd bx r (some (cells.set k (.sl false ks rows)))) w/\SRel G' w (bif own then some (.tmp d)else none) ks rows v:=by
 have hbox:=(h.box r cells hb).std hstd;obtain⟨b,vs,T,h1,h2,h3,h4,h5,h6⟩:=hbox;obtain⟨v',hv',hr⟩:=h6 k _ hc;have hvv:=hv b vs T h1 h3;rw[hv']at hvv;cases hvv;have hr0:SRel G w (bif own then some (.cell r k)else none) ks rows v:=hr;have hmem:∀G':Ghost,Pres G w G' w (fun x=>x≠ .cell r k)->(∀r b,G'.beta r=some b->G.beta r=some b)->(∀b L,G'.owner b=some L->b<w.heap.size)->(∀b o,G'.imm b o->b<w.heap.size)->SRel G' w none ks rows v->Mem G' (upd bx r (some (cells.set k (.sl false ks rows)))) w:=by
  intro G' hp hbe ho hi hs;refine⟨fun r' cells' hr'=> ?_,fun r' b' hb'=> ?_,ho,hi⟩
  . by_cases hrr:r'=r
    . subst hrr;rw[upd_same]at hr';cases hr';obtain⟨p1,p2,p3⟩:=hp.own b _ (by simp) h2;refine .inl ⟨b,vs,T,hp.beta _ _ h1,p1,h3,fun o ho=>h4 o (p3 o ho),by simpa using h5,fun j c hj=> ?_⟩;rw[List.getElem?_set]at hj;by_cases hkj:k=j
      . subst hkj;rw[if_pos rfl]at hj;split at hj
        . cases hj;exact⟨v,hv',hs⟩
        . cases hj
      . rw[if_neg hkj]at hj;obtain⟨u,hu,hbr⟩:=h6 j c hj;exact⟨u,hu,hbr.pres hp (by simp;exact fun e=>hkj e.symm)⟩
    . rw[upd_ne _ _ hrr]at hr';exact(h.box r' cells' hr').pres hp (by simp) (fun q=>by simp;intro e;exact absurd e hrr)
  . by_cases hrr:r'=r
    . subst hrr;exact⟨_,upd_same _ _ _⟩
    . obtain⟨c',hc'⟩:=h.beta r' b' (hbe r' b' hb');exact⟨c',(upd_ne _ _ hrr).trans hc'⟩
 have hstay:Pres G w G w (fun x=>x≠ .cell r k):=Pres.refl _ _ _;cases own with
 |false=>exact⟨G,hstay,Evolves.refl _ _,hmem G hstay (fun _ _ e=>e) h.own h.imm hr0,hr0⟩
 |true=>
  have hr1:SRel G w (some (.cell r k)) ks rows v:=hr0;obtain⟨ad,cap,rfl,hcc,hm,hx⟩:=hr1;rcases hx with hx|⟨b2,off,rfl,himm,hsp⟩
  . have:SRel G w none ks rows (.slice ad rows.length cap):=⟨ad,cap,rfl,hcc,hm, .inl (nilCase hx (fun e=>nomatch e))⟩;exact⟨G,hstay,Evolves.refl _ _,hmem G hstay (fun _ _ e=>e) h.own h.imm this,⟨ad,cap,rfl,hcc,hm, .inl (nilCase hx (fun e=>nomatch e))⟩⟩
  . obtain⟨ho1,cur,E,hh,hfit,hni⟩:=hsp _ rfl;refine⟨G.give b2 (.tmp d),Pres.give ho1,Evolves.give ho1,hmem _ (Pres.give ho1) (fun _ _ e=>e) (fun x L hx=> ?_) h.imm ⟨_,cap,rfl,hcc,hm, .inr ⟨b2,off,rfl,himm,fun _ e=>nomatch e⟩⟩,⟨_,cap,rfl,hcc,hm, .inr ⟨b2,off,rfl,himm,fun Lc e=>by cases e;exact⟨upd_same _ _ _,cur,E,hh,hfit,hni⟩⟩⟩⟩;rcases upd_some hx with⟨rfl,_⟩|hx
    . exact h.own _ _ ho1
    . exact h.own _ _ hx
theorem Mem.freeze{bx:Nat->Option (List HC)}(h:Mem G bx w){r:Nat}{cells:List HC}(hb:bx r=some cells):∃G',Pres G w G' w (fun x=>∀k,x≠ .cell r k)/\Evolves G w G' w/\Mem G' (upd bx r (some (cells.map HC.frz))) w:=by
 have same:cells.map HC.frz=cells->∃G',Pres G w G' w (fun x=>∀k,x≠ .cell r k)/\Evolves G w G' w/\Mem G' (upd bx r (some (cells.map HC.frz))) w:=by
  intro e;have hbx:upd bx r (some (cells.map HC.frz))=bx:=by
   funext x;by_cases hx:x=r
   . subst hx;rw[upd_same,e];exact hb.symm
   . exact upd_ne _ _ hx
  rw[hbx];exact⟨G,Pres.refl _ _ _,Evolves.refl _ _,h⟩
 rcases h.box r cells hb with h0|⟨_,_,_,rfl,_⟩|⟨rfl,_⟩|⟨_,rfl,_⟩|⟨_,_,rfl,_⟩|⟨_,_,_,_,_,rfl,_⟩;case inr.inl=>exact same rfl
 case inr.inr.inl=>exact same rfl
 case inr.inr.inr.inl=>exact same rfl
 case inr.inr.inr.inr.inl=>exact same rfl
 case inr.inr.inr.inr.inr=>exact same rfl
 obtain⟨b,vs,T,h1,h2,h3,h4,h5,h6⟩:=h0;let fz:Nat->Nat->Prop:=fun x q=>∃(j:Nat)(ks:List Nat)(rows:List (List Int))(cap off:Nat),cells[j]?=some (.mu ks rows)/\vs[j]?=some (.slice (some (at_ x off)) rows.length cap)/\off<=q/\q<off+rows.length*ks.length/\G.owner x=some (.cell r j);let G':Ghost:={G with imm:=fun x q=>G.imm x q∨fz x q};have hp:Pres G w G' w (fun x=>∀k,x≠ .cell r k):=⟨fun _ _ hi=>⟨.inl hi,rfl⟩,fun _ _ e=>e,fun x L hL hx=>⟨hx,rfl,fun q hi=>hi.elim id fun⟨j,_,_,_,_,_,_,_,_,ho⟩=>by
   rw[hx]at ho;cases ho;exact absurd rfl (hL j)⟩⟩;refine⟨G',hp,⟨rfl,rfl,rfl,Nat.le_refl _,fun _ _ hi=>⟨.inl hi,rfl⟩,fun x _ hx=>⟨hx,rfl,fun q hi=>hi.elim id fun⟨j,_,_,_,_,_,_,_,_,ho⟩=>by rw[hx]at ho;cases ho⟩,fun _ _ _ e=>e⟩,?_⟩;refine⟨fun r' cells' hr'=> ?_,fun r' b' hb'=> ?_,h.own,fun x q hi=> ?_⟩
 . by_cases hrr:r'=r
   . subst hrr;rw[upd_same]at hr';cases hr';refine .inl ⟨b,vs,T,h1,h2,h3,fun q hi=> ?_,by simpa using h5,fun j c hj=> ?_⟩
     . rcases hi with hi|⟨_,_,_,_,_,_,_,_,_,ho⟩
       . exact h4 q hi
       . rw[h2]at ho;cases ho
     . rw[List.getElem?_map]at hj;cases hj2:cells[j]? with
       |none=>simp[hj2]at hj
       |some d=>
        simp[hj2]at hj;subst hj;obtain⟨u,hu,hbr⟩:=h6 j d hj2;refine⟨u,hu,?_⟩;have hother:∀x q j',fz x q->G.owner x=some (.cell r' j')->∃ks rows cap off,cells[j']?=some (.mu ks rows)/\vs[j']?=some (.slice (some (at_ x off)) rows.length cap)/\off<=q/\q<off+rows.length*ks.length:=by
         rintro x q j'⟨j2,ks2,rows2,cap2,off2,g1,g2,g3,g4,g5⟩ho;rw[ho]at g5;cases g5;exact⟨ks2,rows2,cap2,off2,g1,g2,g3,g4⟩
        cases d with
        |mu ks rows=>
         obtain⟨ad,cap,rfl,hc,hm,hx⟩:=hbr;refine⟨ad,cap,rfl,hc,hm,?_⟩;rcases hx with hx|⟨b2,rfl,ho,hni,hpos,cur,E,hh,hfit,hcells⟩
         . exact .inl ⟨.inr hx.1,hx.2⟩
         . refine .inr ⟨b2,0,rfl,fun i k hi hk=> ?_,fun Lc e=> ?_⟩
           . refine⟨.inr ⟨j,ks,rows,cap,0,hj2,hu,by omega,?_,ho⟩,?_⟩
             . have:(i+1)*ks.length<=rows.length*ks.length:=Nat.mul_le_mul_right _ hi;rw[Nat.succ_mul]at this;omega
             . rw[cell_heap _ _ _ hh,Nat.zero_add];exact hcells i k hi hk
           . cases e;refine⟨ho,cur,E,hh,by rw[Nat.zero_add];exact hfit,fun q hq _ hi=> ?_⟩;rcases hi with hi|hi
             . exact hni q hi
             . obtain⟨ks2,rows2,cap2,off2,g1,g2,_,g4⟩:=hother _ _ _ hi ho;rw[hj2]at g1;cases g1;rw[hu]at g2;cases g2;omega
        |sl own ks rows=>
         cases own with
         |false=>exact SRel.pres (L:=none) hp (fun _ e=>nomatch e) hbr
         |true=>
          have hb1:SRel G w (some (.cell r' j)) ks rows u:=hbr;obtain⟨ad,cap,rfl,hc,hm,hx⟩:=hb1;refine⟨ad,cap,rfl,hc,hm,?_⟩;rcases hx with hx|⟨b2,off,rfl,himm,hsp⟩
          . exact .inl hx
          . refine .inr ⟨b2,off,rfl,fun i k hi hk=>(himm i k hi hk).pres hp,fun Lc e=> ?_⟩;cases e;obtain⟨ho,cur,E,hh,hfit,hni⟩:=hsp _ rfl;refine⟨ho,cur,E,hh,hfit,fun q hq hq2 hi=> ?_⟩;rcases hi with hi|hi
            . exact hni q hq hq2 hi
            . obtain⟨ks2,rows2,cap2,off2,g1,_⟩:=hother _ _ _ hi ho;rw[hj2]at g1;cases g1
        |int k m=>exact hbr
        |num k m=>exact hbr
        |bool k=>exact hbr
        |lit k=>exact hbr
        |el ks row k=>exact CRel.pres (G:=G) (w:=w) (L:=none) (c:= .el ks row k) hp (fun _ e=>nomatch e) hbr
        |ptr k m=>exact hbr
        |nilp=>exact hbr
        |nsl ks=>exact hbr
        |arr ks rows cap=>exact hbr
        |fro ks rows=>exact hbr
        |msl k m cap=>exact hbr
        |pin k z off n cap=>exact hbr
        |pbx ks rows z off cap=>exact hbr
        |mp k m i o=>exact hbr
        |nsls ks ll=>exact NRel.pres hp hbr
        |el2 ks rows=>exact CRel.pres (G:=G) (w:=w) (L:=none) (c:= .el2 ks rows) hp (fun _ e=>nomatch e) hbr
        |mapv k=>exact hbr
        |mpb f=>exact hbr
        |str s=>exact hbr
        |esl ks=>exact hbr
        |junk=>exact hbr
   . rw[upd_ne _ _ hrr]at hr';exact(h.box r' cells' hr').pres hp (fun k=>by simp) (fun q k=>by simp;intro e;exact absurd e hrr)
 . by_cases hrr:r'=r
   . subst hrr;exact⟨_,upd_same _ _ _⟩
   . obtain⟨c',hc'⟩:=h.beta r' b' hb';exact⟨c',(upd_ne _ _ hrr).trans hc'⟩
 . rcases hi with hi|⟨_,_,_,_,_,_,_,_,_,ho⟩
   . exact h.imm x q hi
   . exact h.own _ _ ho
theorem load_sound(h:Rel n G st a w)(s:Sides n o){t:TypeId}{x:Operand}{take fz:Bool}(ho:o.op= .load t x)(hk:(loadSem P t (evalO P st.env o.type x) st.box take fz o.dst).wp st K):o.wp P a w (Post n G w K) Q:=by
 obtain⟨L1,h1⟩:=s.ev (P:=P) h o.type (x:=x) (by rw[ho];simp[Op.operands]);have hex:∀u v,a.eval x=u->(Instr.loadAt t u).run P w= .ok v w->(execOp a.eval o).run P w= .ok (.value v) w:=by
  intro u v hu hr;unfold execOp;simp only[ho,hu,Sem.run_bind,hr,Result.andThen_ok,Sem.run_pure]
 unfold loadSem at hk;split at hk;case h_2=>exact hk.elim
 rename_i ag m ha hs;split at hk
 ·
  rename_i ks row off e1;rw[e1]at h1;obtain⟨b,k,hv,hj⟩:=h1.of_ce;split at hk;case h_2=>exact hk.elim
  rename_i cs hrc;obtain⟨hle,rfl⟩:=rowCells_spec hrc;split at hk;case h_2=>exact hk.elim
  rename_i hv' has;obtain⟨ag',ha',h2⟩:=asVal_isAgg has;rw[ha]at ha';cases ha';obtain⟨v,hrun,g1,g2⟩:=run_load_cells (P:=P) (w:=w) ha hs b k ((List.range m).map fun j=>kval (ks.getD (off+j) 0) (row.getD (off+j) 0)) (by simp) (fun j v hjv=>by
   rw[List.getElem?_map]at hjv;cases hq:(List.range m)[j]? with
   |none=>simp[hq]at hjv
   |some q=>
    simp[hq]at hjv;subst hjv;have hlt:j<m:=by have:=(List.getElem?_eq_some_iff.1 hq).1;simpa using this
    have hqj:q=j:=by simp[List.getElem?_range hlt]at hq;exact hq.symm
    subst hqj;simpa using(hj q (by omega)).2) (fun e=>by
    obtain⟨c,hc⟩:=h2 e;have:=congrArg List.length hc;simpa using this);refine ok_sound h s (asVal_rel has (TVal.mk ha (us:=(List.range m).map fun j=>kval (ks.getD (off+j) 0) (row.getD (off+j) 0)) (by simp) (fun j c hjc=> ?_) g1 g2)) (hex _ _ hv hrun) hk;rw[List.getElem?_map]at hjc⊢;cases hq:(List.range m)[j]? with
  |none=>simp[hq]at hjc
  |some q=>
   simp[hq]at hjc;subst hjc;exact⟨_,by simp,kcell_rel _ _⟩
 ·
  rename_i ks rows e1;rw[e1]at h1;obtain⟨b,k,u,hv,hi,hsr⟩:=h1.of_ce;cases ag with
  |true=>exact hk.elim
  |false=>
  simp only[cond_false]at hk;refine ok_sound h s (hv:= .ce (.sl false ks rows)) (v:=u) hsr (hex _ _ hv ?_) hk;simp[Instr.loadAt,Instr.sureAddr,loadVar,run_isAgg ha,hi.2]
 ·
  rename_i r sz i k e1;rw[e1]at h1;obtain⟨b,hb,hv⟩:=h1.of_ce;split at hk;case h_2=>exact hk.elim
  rename_i ks rows capA hbx;cases hsz:Nat.beq sz ks.length with
  |false=>rw[hsz]at hk;exact hk.elim
  |true=>
  rw[hsz]at hk;simp only[cond_true]at hk;have hsz':=Nat.eq_of_beq_eq_true hsz;split at hk;case h_2=>exact hk.elim
  rename_i cs hrc;obtain⟨hle,rfl⟩:=rowCells_spec hrc;split at hk;case h_2=>exact hk.elim
  rename_i hv' has;obtain⟨hlt,hk⟩:=hk;obtain⟨b',vs,T,g1,g2,g3,g4,g5,g6⟩:=(h.mem.box r _ hbx).arr;rw[hb]at g1;cases g1;obtain⟨ag',ha',h2⟩:=asVal_isAgg has;rw[ha]at ha';cases ha';obtain⟨v,hrun,g1,g2⟩:=run_load_cells (P:=P) (w:=w) ha hs b (i*sz+k) ((List.range m).map fun j=>kval (ks.getD (k+j) 0) ((rows.getD i []).getD (k+j) 0)) (by simp) (fun j v hjv=>by
   rw[List.getElem?_map]at hjv;cases hq:(List.range m)[j]? with
   |none=>simp[hq]at hjv
   |some q=>
    simp[hq]at hjv;subst hjv;have hltm:j<m:=by have:=(List.getElem?_eq_some_iff.1 hq).1;simpa using this
    have hqj:q=j:=by simp[List.getElem?_range hltm]at hq;exact hq.symm
    subst hqj;rw[cell_heap _ _ _ g3,hsz',Nat.add_assoc];simpa using g6 i (k+q) hlt (by omega)) (fun e=>by
   obtain⟨c,hc⟩:=h2 e;have:=congrArg List.length hc;simpa using this);refine ok_sound h s (asVal_rel has (TVal.mk ha (us:=(List.range m).map fun j=>kval (ks.getD (k+j) 0) ((rows.getD i []).getD (k+j) 0)) (by simp) (fun j c hjc=> ?_) g1 g2)) (hex _ _ hv hrun) hk;rw[List.getElem?_map]at hjc⊢;cases hq:(List.range m)[j]? with
  |none=>simp[hq]at hjc
  |some q=>
   simp[hq]at hjc;subst hjc;exact⟨_,by simp,kcell_rel _ _⟩
 ·
  rename_i r k e1;rw[e1]at h1;obtain⟨b,hb,hv⟩:=h1.of_ce;split at hk;case h_2=>exact hk.elim
  rename_i cells hbx0;obtain⟨hbx,hstd⟩:=stdB_some hbx0;split at hk;case h_2=>exact hk.elim
  rename_i cs hcut;obtain⟨b',vs,T,g1,g2,g3,g4,g5,g6⟩:=(h.mem.box r cells hbx).std hstd;rw[hb]at g1;cases g1;obtain⟨hle,hcs⟩:=cut_spec hcut;have hus:∀j v,((vs.toList.drop k).take m)[j]?=some v->w.cell? (at_ b (k+j))=some v:=by
   intro j v hj;rw[List.getElem?_take]at hj;split at hj
   . rw[List.getElem?_drop]at hj;rw[cell_heap _ _ _ g3];simpa using hj
   . cases hj
  have hul:((vs.toList.drop k).take m).length=m:=by simp;omega
  have hrel:∀(j:Nat)(c:HC),cs[j]?=some c->∃u,((vs.toList.drop k).take m)[j]?=some u/\BRel G w r (k+j) c u:=by
   intro j c hj;obtain⟨hjm,hc⟩:=cut_get hcut hj;obtain⟨u,hu,hr⟩:=g6 _ _ hc;exact⟨u,by rw[List.getElem?_take,if_pos hjm,List.getElem?_drop];simpa using hu,hr⟩
  have hcl:=cut_len hcut;have hplain:∀(f:HC->HC)(G':Ghost)(hv':HV),asVal P t (cs.map f)=some hv'->(∀(j:Nat)(c:HC)(u:Value),cs[j]?=some c->((vs.toList.drop k).take m)[j]?=some u->CRel G' w none (f c) u)->∃v,(execOp a.eval o).run P w= .ok (.value v) w/\VRel G' w none hv' v:=by
   intro f G' hv' has hf;obtain⟨ag',ha',h2⟩:=asVal_isAgg has;rw[ha]at ha';cases ha';obtain⟨v,hrun,g1,g2⟩:=run_load_cells (P:=P) (w:=w) ha hs b k _ hul hus (fun e=>by
    obtain⟨c,hc⟩:=h2 e;rw[<-hcl];exact map_one hc);refine⟨v,hex _ _ hv hrun,asVal_rel has (TVal.mk ha (by rw[hul,List.length_map,hcl]) (fun j c hj=> ?_) g1 g2)⟩;rw[List.getElem?_map]at hj;cases hj2:cs[j]? with
   |none=>simp[hj2]at hj
   |some d=>
    simp[hj2]at hj;subst hj;obtain⟨u,hu,_⟩:=hrel j d hj2;exact⟨u,hu,hf j d u hj2 hu⟩
  split at hk
  ·
   rename_i own ks rows d hd;have hc0:cells[k]?=some (.sl own ks rows):=by
    have:=(cut_get hcut (j:=0) (c:= .sl own ks rows) rfl).2;simpa using this
   have hm1:m=1:=by rw[<-hcl];rfl
   subst hm1;obtain⟨u,hu,hr0⟩:=g6 _ _ hc0;obtain⟨v,hrun,_,g22⟩:=run_load_cells (P:=P) (w:=w) ha hs b k _ hul hus (fun _=>rfl);have hvu:v=u:=by
    have:=g22 rfl;have h0:((vs.toList.drop k).take 1)[0]?=some u:=by rw[List.getElem?_take,if_pos (by omega),List.getElem?_drop];simpa using hu
    rw[this]at h0;simpa using h0
   subst hvu;obtain⟨G',hp,hev,hmem,hsr⟩:=h.mem.take_cell (d:=d) hbx hstd hc0 (v:=v) (fun b2 vs2 T2 e1 e2=>by
    rw[hb]at e1;cases e1;rw[g3]at e2;cases e2;exact hu);refine wp_value (hex _ _ hv hrun) ⟨_,G',hk,?_,hev⟩;have hdn:=s.dst d hd;have:=h.put s.le (dst:=some d) (fun d' e=>by cases e;exact hdn) (Pres.mk hp.imm hp.beta (fun b L hL=>hp.own b L hL)) (fun x _=>by simp) (own:=own) (hv:= .ce (.sl own ks rows)) (v:=v) (SRel.drop hsr) (fun d' e ow=>by cases e;subst ow;exact hsr) hmem (log:=st.log);rw[hd];exact this
  ·
   split at hk;case h_2=>exact hk.elim
   rename_i hv' has;obtain⟨G',hp,hev,hmem⟩:=h.mem.freeze hbx;obtain⟨b3,vs3,T3,q1,q2,q3,q4,q5,q6⟩:=(hmem.box r _ (upd_same _ _ _)).std (by
    clear hk has hcut g5 g6 hrel hplain;match cells,hstd with
    |[],hs=>exact hs
    |[c],hs=>cases c<;>first|rfl|cases hs
    |_::_::_,_=>exact std_cons2 _ _ _);have hb3:b3=b:=by have:=hp.beta r b hb;rw[q1]at this;cases this;rfl
   subst hb3;rw[g3]at q3;cases q3;obtain⟨v,hrun,hvr⟩:=hplain (fun c=>c.frz.dis) G' hv' has (fun j c u hj hu=>by
    obtain⟨hjm,hc⟩:=cut_get hcut hj;obtain⟨u2,hu2,hr2⟩:=q6 (k+j) c.frz (by rw[List.getElem?_map,hc];rfl);have:u2=u:=by
     rw[List.getElem?_take,if_pos hjm,List.getElem?_drop]at hu;have hu':vs[k+j]?=some u:=by simpa using hu
     rw[hu2]at hu';cases hu';rfl
    subst this;exact hr2.dis);refine wp_value hrun ⟨_,G',hk,?_,hev⟩;have:=h.put s.le s.dst hp (fun x _=>by simp) (own:=false) hvr (fun _ _ e=>nomatch e) hmem (log:=st.log);exact this
  . split at hk;case h_2=>exact hk.elim
    rename_i hv' has;obtain⟨v,hrun,hvr⟩:=hplain HC.dis G hv' has (fun j c u hj hu=>by
     obtain⟨u2,hu2,hr2⟩:=hrel j c hj;rw[hu]at hu2;cases hu2;exact hr2.dis);exact ok_sound h s hvr hrun hk
  . exact hk.elim
 . exact hk.elim
theorem make_sound(h:Rel n G st a w)(s:Sides n o){t:TypeId}{x y:Operand}(ho:o.op= .makeSlice t x y)(hk:(makeSem P t (evalO P st.env o.type x) (evalO P st.env o.type y) st.box o.dst).wp st K):o.wp P a w (Post n G w K) Q:=by
 obtain⟨L1,h1⟩:=s.ev (P:=P) h o.type (x:=x) (by rw[ho];simp[Op.operands]);obtain⟨L2,h2⟩:=s.ev (P:=P) h o.type (x:=y) (by rw[ho];simp[Op.operands]);unfold makeSem at hk;split at hk;case h_2=>exact hk.elim
 rename_i e lc cc d hu e1 e2 hd;rw[e1]at h1;rw[e2]at h2;split at hk;case h_2=>exact hk.elim
 rename_i ks i l u c u' hks hi hl hc hfree;cases hz0:zeroOK P e ks with
 |false=>rw[hz0]at hk;exact hk.elim
 |true=>
 rw[hz0]at hk;simp only[cond_true]at hk;obtain⟨⟨hp0,rfl,hp1,hp2⟩,hk⟩:=hk;have hlv:=isNum_rel h1.of_ce hl;have hcv:=isNum_rel h2.of_ce hc;obtain⟨i',z,hi',hz,hsz,hk1,hzs⟩:=elemKs_spec hks;rw[hi]at hi';cases hi';have hzz:areZero ks z.cells.toList=true:=by
  unfold zeroOK at hz0;rw[hi]at hz0;dsimp only at hz0;rw[hz]at hz0;exact hz0
 obtain⟨hzl,hzg⟩:=areZero_get hzz;obtain⟨m,rfl⟩:=Int.eq_ofNat_of_zero_le hp0;simp only[Int.toNat_natCast]at hk;have hwrap:IntKind.i64.wrap (m:Int)=(m:Int):=by
  simp[IntKind.wrap,IntKind.signed,IntKind.bits];split<;>omega
 have hb:m*i.bytes<=140737488355328:=by
  have:((m*i.bytes:Nat):Int)<=140737488355328:=by rw[Int.natCast_mul];exact hp2
  omega
 let cur:Array Value:=if m*ks.length=0 then#[]else(Array.range (m*ks.length)).map (z.cells[· %z.cells.size]!);have hcs:cur.size=m*ks.length:=by
  by_cases h0:m*ks.length=0
  . simp[cur,h0]
  . simp[cur,h0]
 have hcg:∀i j,i<m->j<ks.length->cur[i*ks.length+j]?=some (kval (ks.getD j 0) 0):=by
  intro i j hi hj;have hlt:i*ks.length+j<m*ks.length:=by
   have:(i+1)*ks.length<=m*ks.length:=Nat.mul_le_mul_right _ hi;rw[Nat.succ_mul]at this;omega
  have h0:¬m*ks.length=0:=by omega
  simp only[cur,if_neg h0];rw[Array.getElem?_map,Array.getElem?_range,if_pos hlt];simp only[Option.map_some];have hmod:(i*ks.length+j)%z.cells.size=j:=by rw[hzs,Nat.mul_comm,Nat.mul_add_mod,Nat.mod_eq_of_lt hj]
  rw[hmod];have:=hzg j hj;have hjz:j<z.cells.size:=by omega
  rw[Array.getElem?_toList,Array.getElem?_eq_getElem hjz]at this;rw[getElem!_pos z.cells j hjz];exact this
 have hrun:(execOp a.eval o).run P w= .ok (.value (.slice (some (at_ w.heap.size 0)) m m)) (w.alloc (.cells cur e)):=by
  have hbi:¬((i.bytes:Int)*(m:Int)>2^48):=by rw[Int.mul_comm];omega
  have hroom:¬(m*i.bytes>roomBytes):=by unfold roomBytes;omega
  have hm0:¬((m:Int)<0):=by omega
  unfold execOp;simp only[ho,hlv,hcv,Instr.makeSlice,Sem.run_bind,run_underlying hu,Result.andThen_ok,asInt,asIntOf,Sem.run_pure,typeInfo,run_program,hi,hwrap];have hd1:decide ((m:Int)<0)=false:=decide_eq_false hm0;have hd2:decide ((i.bytes:Int)*(m:Int)>2^48)=false:=decide_eq_false hbi;have hd3:decide ((m:Int)>(m:Int))=false:=decide_eq_false (by omega);simp only[hd1,hd2,hd3,Bool.or_false,Bool.false_eq_true,if_false,Int.toNat_natCast,askRoom,if_neg hroom,Sem.run_bind,Sem.run_pure,Result.andThen_ok,sizeOf,typeInfo,run_program,hi,hsz];by_cases h0:m*ks.length=0
  . rw[if_pos h0];simp[cur,h0,newRow,at_];have:Array.map (fun _:Nat=>(default:Value)) (Array.range 0)= #[]:=Array.eq_empty_of_size_eq_zero (by simp);first|rw[this]|(congr 1;congr 1;exact this)|simp[this]
  . rw[if_neg h0];simp[cur,h0,newRow,at_,zeroValue,typeInfo,run_program,hi,hz]
 have hp:=Pres.fresh h.mem (.cells cur e) (L:= .box (newKey d)) (fixed:=false) (key:=some (newKey d)) (fun r e=>by cases e;exact hfree);have hev:=Evolves.fresh h.mem (.cells cur e) (L:= .box (newKey d)) (fixed:=false) (key:=some (newKey d)) (fun r e=>by cases e;unfold newKey;omega);have hm:Mem (G.fresh w.heap.size (.box (newKey d)) false (some (newKey d))) (upd st.box (newKey d) (some [.arr ks (List.replicate m (zrow ks)) m])) (w.alloc (.cells cur e)):=by
  refine⟨fun r cells hr=> ?_,fun r b hb=> ?_,(h.mem.fresh_own _).1,(h.mem.fresh_own _).2⟩
  . by_cases hrk:r=newKey d
    . subst hrk;rw[upd_same]at hr;cases hr;refine .inr (.inl ⟨_,_,_,rfl,w.heap.size,cur,e,upd_same _ _ _,upd_same _ _ _,alloc_new w _,fun o hi=> ?_,⟨by rw[List.length_replicate];exact Nat.le_refl _,Nat.le_of_eq hcs.symm⟩,fun i j hi hj=> ?_⟩)
      . rcases hi with hi|⟨e,_⟩
        . have:=h.mem.imm _ _ hi;omega
        . cases e
      . rw[List.length_replicate]at hi;have:((List.replicate m (zrow ks)).getD i [])=zrow ks:=by simp[List.getD_eq_getElem?_getD,hi]
        rw[this,zrow_get];exact hcg i j hi hj
    . rw[upd_ne _ _ hrk]at hr;exact(h.mem.box r cells hr).pres hp trivial (fun _=>trivial)
  . by_cases hrk:r=newKey d
    . subst hrk;exact⟨_,upd_same _ _ _⟩
    . obtain⟨cells,hc⟩:=h.mem.beta r b ((upd_ne G.beta (some w.heap.size) hrk).symm.trans hb);exact⟨cells,(upd_ne _ _ hrk).trans hc⟩
 refine wp_value hrun ⟨_,_,hk,?_,hev⟩;have hd2:=s.dst d hd;have:=h.put s.le (dst:=o.dst) (fun d' e=>s.dst d' e) hp (fun _ _=>trivial) (own:=false) (hv:= .ce (.msl (newKey d) m m)) (v:= .slice (some (at_ w.heap.size 0)) m m) ⟨w.heap.size,upd_same _ _ _,rfl,Nat.le_refl _,by unfold maxLen;omega⟩ (fun _ _ e=>nomatch e) hm (log:=st.log);rw[hd]at this⊢;exact this
theorem appNew_sound(h:Rel n G st a w)(s:Sides n o){x y:Operand}{t u:TypeId}{ks:List Nat}(ho:o.op= .call {callee:= .builtin .append,args:= #[x,y],argTypes:= #[t,u]})(e1:evalO P st.env o.type x= .ce (.esl ks))(hk:(appNewSem P t u ks (evalO P st.env o.type y) st.box o.dst).wp st K):o.wp P a w (Post n G w K) Q:=by
 obtain⟨L1,h1⟩:=s.ev (P:=P) h o.type (x:=x) (by rw[ho];simp[Op.operands,Call.operands]);obtain⟨L2,h2⟩:=s.ev (P:=P) h o.type (x:=y) (by rw[ho];simp[Op.operands,Call.operands]);rw[e1]at h1;obtain⟨ad,hv⟩:=h1.of_ce;unfold appNewSem at hk;split at hk;case h_2=>exact hk.elim
 rename_i e ow ls more d hu e2 hd;rw[e2]at h2;split at hk;case h_2=>exact hk.elim
 rename_i es i hes hi hfree;cases hb:(ksEq es ks&&ksEq es ls&&Nat.beq t u)with
 |false=>rw[hb]at hk;exact hk.elim
 |true=>
 rw[hb]at hk;simp only[cond_true]at hk;rw[Bool.and_eq_true,Bool.and_eq_true]at hb;obtain rfl:=ksEq_eq hb.1.1;obtain rfl:=ksEq_eq hb.1.2;obtain rfl:=Nat.eq_of_beq_eq_true hb.2;obtain⟨⟨hpos,hbytes,hmax⟩,_,hk⟩:=hk;obtain⟨i',z,hi',hz,hsz,hk1,hzs⟩:=elemKs_spec hes;rw[hi]at hi';cases hi';obtain⟨⟨ya,yc,hy⟩,hsrcs⟩:=source_cells (P:=P) (show SRel G w L2 es more (a.eval y)from h2);have hex:∀r w1,(Builtin.append_ #[t,t] o.type #[a.eval x,a.eval y]).run P w= .ok r w1->(execOp a.eval o).run P w= .ok (.value r) w1:=by
  intro r w1 hr;unfold execOp;simp only[ho,resolve,invoke,builtin,Sem.run_bind,Sem.run_pure,Result.andThen_ok,List.map_toArray,List.map_cons,List.map_nil,hr]
 obtain⟨rows,cap,hrows0,hcap0⟩:∃rows:List (List Int),∃cap:Nat,rows=[]/\cap=0:=⟨[],0,rfl,rfl⟩;have hl0:rows.length=0:=by rw[hrows0];rfl
 have hv:a.eval x= .slice ad rows.length cap:=by rw[hl0,hcap0];exact hv
 have hgrow:cap<rows.length+more.length:=by omega
 have hbytes:(rows.length+more.length)*i.bytes<=140737488355328:=by rw[hl0,Nat.zero_add];exact hbytes
 have hmax:rows.length+more.length<=maxLen:=by rw[hl0,Nat.zero_add];exact hmax
 have hsl:∀w':World,(∀b:Nat,w'.heap[b]?=w.heap[b]?)->(Builtin.firstCells es.length rows.length (.slice ad rows.length cap)).run P w'= .ok (flatRows es rows).toArray w':=(source_cells (P:=P) (show SRel G w none es rows (.slice ad rows.length cap)from⟨ad,cap,rfl,by omega,by unfold maxLen;omega, .inl ⟨.inl rfl,hl0,hcap0⟩⟩)).2;have hncap:=growslice_fits hgrow hbytes;have hgc:=grownCap_ge w (rows.length+more.length) cap e;have hgm:=grownCap_le_maxLen w (rows.length+more.length) cap e hmax;let NC:=grownCap w (rows.length+more.length) cap e;let cur:Array Value:=(flatRows es rows++flatRows es more++(Builtin.zeroCells z.cells (NC-(rows.length+more.length))).toList).toArray;have hrun:(Builtin.append_ #[t,t] o.type #[a.eval x,a.eval y]).run P w= .ok (.slice (some (at_ w.heap.size 0)) (rows.length+more.length) NC) (w.drew.alloc (.cells cur e)):=by
  have hs0:=hsrcs w.drew (fun _=>rfl);have hs1:=hsl w.drew (fun _=>rfl);rw[hy]at hs0⊢;rw[hv];have h48':¬(281474976710656<Builtin.nextslicecap (rows.length+more.length) cap*i.bytes):=by omega
  have hin:P.underlying t=some (.slice e):=hu;simp only[Builtin.append_,run_underlying hu,sizeOf,typeInfo,hi,Builtin.lenOf,Sem.run_bind,Sem.run_pure,Result.andThen_ok,run_program,hsz]at hs0 hs1⊢;have hn:¬(rows.length+more.length<=cap):=by omega
  have hmx:¬((9223372036854775807:Int)<(rows.length:Int)+(more.length:Int)):=by
   simp only[maxLen]at hmax;omega
  simp[run_underlying hu,hn,h48',hmx,hi,hsz,hz,Question.forced,hs0,hs1,zeroValue,typeInfo,newRow,at_,NC,grownCap,cur];congr 2;apply Array.ext';simp
 have hfl:flatRows es rows=[]:=by rw[hrows0];rfl
 have hcg:∀i j,i<more.length->j<es.length->cur[i*es.length+j]?=some (kval (es.getD j 0) ((more.getD i []).getD j 0)):=by
  intro i j hi hj;have hg:=flatRows_get es more i j hi hj;simp only[cur,hfl,List.nil_append,List.getElem?_toArray];rw[List.getElem?_append_left (List.getElem?_eq_some_iff.1 hg).1];exact hg
 have hgc:more.length<=NC:=by
  have:rows.length+more.length<=NC:=hgc;omega
 have hcs:NC*es.length<=cur.size:=by
  simp only[cur,hfl,List.nil_append,List.size_toArray,List.length_append,flatRows_length,Array.length_toList,size_zeroCells,hzs];rw[hl0,Nat.zero_add,<-Nat.add_mul];exact Nat.mul_le_mul_right _ (by omega)
 have hgm:NC<=maxLen:=hgm;rw[hl0,Nat.zero_add]at hrun;have hm0:Mem G st.box w.drew:=h.mem.same_heap rfl;have hp0:=Pres.fresh hm0 (.cells cur e) (L:= .box (newKey d)) (fixed:=false) (key:=some (newKey d)) (fun r e=>by cases e;exact hfree);have hev:=Evolves.fresh hm0 (.cells cur e) (L:= .box (newKey d)) (fixed:=false) (key:=some (newKey d)) (fun r e=>by cases e;unfold newKey;omega);have hm:Mem (G.fresh w.heap.size (.box (newKey d)) false (some (newKey d))) (upd st.box (newKey d) (some [.arr es more NC])) (w.drew.alloc (.cells cur e)):=by
  refine⟨fun r cells hr=> ?_,fun r b hb=> ?_,(hm0.fresh_own _).1,(hm0.fresh_own _).2⟩
  . by_cases hrk:r=newKey d
    . subst hrk;rw[upd_same]at hr;cases hr;refine .inr (.inl ⟨_,_,_,rfl,w.heap.size,cur,e,upd_same _ _ _,upd_same _ _ _,alloc_new w.drew _,fun o hi=> ?_,⟨hgc,hcs⟩,hcg⟩);rcases hi with hi|⟨e,_⟩
      . have:=h.mem.imm _ _ hi;omega
      . cases e
    . rw[upd_ne _ _ hrk]at hr;exact(hm0.box r cells hr).pres hp0 trivial (fun _=>trivial)
  . by_cases hrk:r=newKey d
    . subst hrk;exact⟨_,upd_same _ _ _⟩
    . obtain⟨cells,hc⟩:=h.mem.beta r b ((upd_ne G.beta (some w.heap.size) hrk).symm.trans hb);exact⟨cells,(upd_ne _ _ hrk).trans hc⟩
 refine wp_value (hex _ _ hrun) ⟨_,_,hk NC ⟨hgc,hgm⟩,?_,⟨hev.os,hev.tape,hev.output,hev.size,hev.imm,hev.foreign,hev.beta⟩⟩;have hp:Pres G w (G.fresh w.heap.size (.box (newKey d)) false (some (newKey d))) (w.drew.alloc (.cells cur e)) (fun _=>True):=Pres.mk hp0.imm hp0.beta (fun b L _ hb=>hp0.own b L trivial hb);have:=h.put s.le (dst:=o.dst) (fun d' e=>s.dst d' e) hp (fun _ _=>trivial) (own:=false) (hv:= .ce (.msl (newKey d) more.length NC)) (v:= .slice (some (at_ w.heap.size 0)) more.length NC) ⟨w.heap.size,upd_same _ _ _,rfl,hgc,hgm⟩ (fun _ _ e=>nomatch e) hm (log:=st.log);rw[hd]at this⊢;exact this
theorem appMut_sound(h:Rel n G st a w)(s:Sides n o){x y:Operand}{t u:TypeId}{r m cap:Nat}(ho:o.op= .call {callee:= .builtin .append,args:= #[x,y],argTypes:= #[t,u]})(e1:evalO P st.env o.type x= .ce (.msl r m cap))(hk:(appMutSem P t u r m cap (evalO P st.env o.type y) st.box o.dst).wp st K):o.wp P a w (Post n G w K) Q:=by
 obtain⟨L1,h1⟩:=s.ev (P:=P) h o.type (x:=x) (by rw[ho];simp[Op.operands,Call.operands]);obtain⟨L2,h2⟩:=s.ev (P:=P) h o.type (x:=y) (by rw[ho];simp[Op.operands,Call.operands]);rw[e1]at h1;obtain⟨b,hbeta,hv,hc,hcm⟩:=h1.of_ce;unfold appMutSem at hk;split at hk;case h_2=>exact hk.elim
 rename_i e ow ls more d hu e2 hd;rw[e2]at h2;split at hk;case h_2=>exact hk.elim
 rename_i es i ks rows cap2 hes hi hbx hfree;cases hb:(ksEq es ks&&ksEq es ls&&Nat.beq t u)with
 |false=>rw[hb]at hk;exact hk.elim
 |true=>
 rw[hb]at hk;simp only[cond_true]at hk;rw[Bool.and_eq_true,Bool.and_eq_true]at hb;obtain rfl:=ksEq_eq hb.1.1;obtain rfl:=ksEq_eq hb.1.2;obtain rfl:=Nat.eq_of_beq_eq_true hb.2;obtain⟨⟨hmr,hcc,hbytes,hmax⟩,_,hk⟩:=hk;subst hmr;subst hcc;obtain⟨i',z,hi',hz,hsz,hk1,hzs⟩:=elemKs_spec hes;rw[hi]at hi';cases hi';obtain⟨⟨ya,yc,hy⟩,hsrcs⟩:=source_cells (P:=P) (show SRel G w L2 es more (a.eval y)from h2);obtain⟨b',vs,T,g1,g2,g3,g4,⟨g5,g6⟩,g7⟩:=(h.mem.box r _ hbx).arr;rw[hbeta]at g1;cases g1;have hne:newKey d≠r:=fun e=>by rw[e,hbx]at hfree;cases hfree
 have hdn:=s.dst d hd;have hex:∀q w1,(Builtin.append_ #[t,t] o.type #[a.eval x,a.eval y]).run P w= .ok q w1->(execOp a.eval o).run P w= .ok (.value q) w1:=by
  intro q w1 hr;unfold execOp;simp only[ho,resolve,invoke,builtin,Sem.run_bind,Sem.run_pure,Result.andThen_ok,List.map_toArray,List.map_cons,List.map_nil,hr]
 have hnob:G.beta (newKey d)=none:=h.mem.no_beta hfree;by_cases hroom:rows.length+more.length<=cap
 ·
  let cur':Array Value:=(vs.toList.take (rows.length*es.length)++flatRows es more++vs.toList.drop (rows.length*es.length+(flatRows es more).length)).toArray;have hfit2:rows.length*es.length+(flatRows es more).length<=vs.size:=by
   rw[flatRows_length];have:(rows.length+more.length)*es.length<=cap*es.length:=Nat.mul_le_mul_right _ hroom;rw[Nat.add_mul]at this;omega
  have hrun:(Builtin.append_ #[t,t] o.type #[a.eval x,a.eval y]).run P w= .ok (.slice (some (at_ b 0)) (rows.length+more.length) cap) (w.setRow b cur'):=by
   have hs0:=hsrcs w (fun _=>rfl);have hst:=run_storeCells_at P b (rows.length*es.length) T (flatRows es more) 0 vs w g3 (by simpa using hfit2) (flatRows_one es more);simp only[Nat.add_zero]at hst;rw[hy]at hs0⊢;rw[hv];simp only[Builtin.append_,run_underlying hu,sizeOf,typeInfo,hi,Builtin.lenOf,Sem.run_bind,Sem.run_pure,Result.andThen_ok,run_program,hsz]at hs0⊢;simp[run_underlying hu,hs0,hroom,at_add,hi,hsz];simp only[at_];rw[hst];rfl
  have hsz':cur'.size=vs.size:=by
   simp only[cur',List.size_toArray,List.length_append,List.length_take,List.length_drop,Array.length_toList];omega
  have hget:∀q,cur'[q]?=if q<rows.length*es.length then vs[q]? else if q<rows.length*es.length+(flatRows es more).length then(flatRows es more)[q-(rows.length*es.length)]? else vs[q]?:=by
   intro q;have htl:(vs.toList.take (rows.length*es.length)).length=rows.length*es.length:=by simp;omega
   simp only[cur',List.getElem?_toArray,List.append_assoc];by_cases hq:q<rows.length*es.length
   . rw[if_pos hq,List.getElem?_append_left (by rw[htl];exact hq),List.getElem?_take,if_pos hq];simp
   . rw[if_neg hq,List.getElem?_append_right (by rw[htl];omega),htl];by_cases hq2:q<rows.length*es.length+(flatRows es more).length
     . rw[if_pos hq2,List.getElem?_append_left (by omega)]
     . rw[if_neg hq2,List.getElem?_append_right (by omega),List.getElem?_drop];simp only[Array.getElem?_toList];congr 1;omega
  let G':Ghost:={G with beta:=upd G.beta (newKey d) (some b),owner:=upd G.owner b (some (.box (newKey d)))};have hblt:=h.mem.own b _ g2;have hcell:∀x q,G.imm x q->(w.setRow b cur').cell? (at_ x q)=w.cell? (at_ x q):=by
   intro x q hi;have hxb:x≠b:=fun e=>by subst e;exact g4 q hi
   exact cell_of_heap (setRow_other w b x cur' hxb) q
  have hp:Pres G w G' (w.setRow b cur') (fun x=>x≠ .box r):=by
   refine⟨fun x q hi=>⟨hi,hcell x q hi⟩,fun q b2 hq=> ?_,fun x L hL hx=> ?_⟩
   . have:q≠newKey d:=fun e=>by subst e;rw[hnob]at hq;cases hq
     exact(upd_ne _ _ this).trans hq
   . have hne:x≠b:=fun e=>by subst e;rw[g2]at hx;cases hx;exact hL rfl
     exact⟨(upd_ne _ _ hne).trans hx,setRow_other w b x cur' hne,fun q hi=>hi⟩
  have hev:Evolves G w G' (w.setRow b cur'):=by
   refine⟨rfl,rfl,rfl,by simp,fun x q hi=>⟨hi,hcell x q hi⟩,fun x _ hx=> ?_,fun q b2 hq hb2=> ?_⟩
   . have hne:x≠b:=fun e=>by subst e;rw[g2]at hx;cases hx
     exact⟨(upd_ne _ _ hne).trans hx,setRow_other w b x cur' hne,fun q hi=>hi⟩
   . have:q≠newKey d:=by unfold newKey;omega
     exact(upd_ne _ _ this).symm.trans hb2
  have hmem:Mem G' (boxesTo st.box [(r,[]),(newKey d,[.arr es (rows++more) cap])]) (w.setRow b cur'):=by
   refine⟨fun q cells hq=> ?_,fun q b2 hq=> ?_,fun x L hx=> ?_,fun x q hi=> ?_⟩
   . have hq:upd (upd st.box r (some [])) (newKey d) (some [.arr es (rows++more) cap]) q=some cells:=hq;by_cases hqd:q=newKey d
     . subst hqd;rw[upd_same]at hq;cases hq;refine .inr (.inl ⟨_,_,_,rfl,b,cur',T,upd_same _ _ _,upd_same _ _ _,setRow_heap w b vs cur' T _ g3,g4,⟨by rw[List.length_append];exact hroom,by rw[hsz'];exact g6⟩,fun i j hi hj=> ?_⟩);rw[hget];by_cases hir:i<rows.length
       . have hlt:i*es.length+j<rows.length*es.length:=by
          have:(i+1)*es.length<=rows.length*es.length:=Nat.mul_le_mul_right _ hir;rw[Nat.succ_mul]at this;omega
         rw[if_pos hlt];have e3:(rows++more).getD i []=rows.getD i []:=by simp[List.getElem?_append_left hir]
         rw[e3];exact g7 i j hir hj
       . have hir2:i-rows.length<more.length:=by rw[List.length_append]at hi;omega
         have hg:=flatRows_get es more (i-rows.length) j hir2 hj;have hlt2:(i-rows.length)*es.length+j<(flatRows es more).length:=(List.getElem?_eq_some_iff.1 hg).1;have hpos:i*es.length+j=rows.length*es.length+((i-rows.length)*es.length+j):=by
          have:i*es.length=rows.length*es.length+(i-rows.length)*es.length:=by rw[<-Nat.add_mul];congr 1;omega
          omega
         rw[hpos,if_neg (by omega),if_pos (by omega),show rows.length*es.length+((i-rows.length)*es.length+j)-rows.length*es.length=(i-rows.length)*es.length+j by omega,hg];congr 2;simp[List.getElem?_append_right (Nat.le_of_not_lt hir)]
     . rw[upd_ne _ _ hqd]at hq;by_cases hqr:q=r
       . subst hqr;rw[upd_same]at hq;cases hq;exact .inr (.inr (.inl ⟨rfl,b,hp.beta _ _ hbeta⟩))
       . rw[upd_ne _ _ hqr]at hq;exact(h.mem.box q cells hq).pres hp (by simp;exact hqr) (fun k=>by simp)
   . show∃cells,upd (upd st.box r (some [])) (newKey d) (some [.arr es (rows++more) cap]) q=some cells;by_cases hqd:q=newKey d
     . subst hqd;exact⟨_,upd_same _ _ _⟩
     . rw[upd_ne _ _ hqd];by_cases hqr:q=r
       . subst hqr;exact⟨_,upd_same _ _ _⟩
       . rw[upd_ne _ _ hqr];exact h.mem.beta q b2 ((upd_ne _ _ hqd).symm.trans hq)
   . rcases upd_some hx with⟨rfl,_⟩|hx
     . simpa using hblt
     . simpa using h.mem.own x L hx
   . simpa using h.mem.imm x q hi
  refine wp_value (hex _ _ hrun) ⟨_,G',hk cap ⟨hroom,hcm⟩,?_,hev⟩;have:=h.put s.le (dst:=o.dst) (fun d' e=>s.dst d' e) hp (fun _ _=>by simp) (own:=false) (hv:= .ce (.msl (newKey d) (rows.length+more.length) cap)) (v:= .slice (some (at_ b 0)) (rows.length+more.length) cap) ⟨b,upd_same _ _ _,rfl,hroom,hcm⟩ (fun _ _ e=>nomatch e) hmem (log:=st.log);rw[hd]at this⊢;exact this
 ·
  have hgrow:cap<rows.length+more.length:=by omega
  have hsl:∀w':World,(∀b:Nat,w'.heap[b]?=w.heap[b]?)->(Builtin.firstCells es.length rows.length (.slice (some (at_ b 0)) rows.length cap)).run P w'= .ok (flatRows es rows).toArray w':=by
   intro w' hw;refine run_firstCells_some w' es.length rows.length _ _ _ (flatRows es rows) (flatRows_length es rows) (fun j v hj=> ?_);have:=flatRows_cells (G:={G with imm:=fun _ _=>True}) (w:=w) (b:=b) (off:=0) (ks:=es) (rows:=rows) (fun i j hi hj=>⟨trivial,by rw[Nat.zero_add,cell_heap _ _ _ g3];exact g7 i j hi hj⟩) j v hj;rw[at_add]at this⊢;rw[cell_of_heap (hw b)];exact this
  have hncap:=growslice_fits hgrow hbytes;have hgc:=grownCap_ge w (rows.length+more.length) cap e;have hgm:=grownCap_le_maxLen w (rows.length+more.length) cap e hmax;let NC:=grownCap w (rows.length+more.length) cap e;let cur:Array Value:=(flatRows es rows++flatRows es more++(Builtin.zeroCells z.cells (NC-(rows.length+more.length))).toList).toArray;have hrun:(Builtin.append_ #[t,t] o.type #[a.eval x,a.eval y]).run P w= .ok (.slice (some (at_ w.heap.size 0)) (rows.length+more.length) NC) (w.drew.alloc (.cells cur e)):=by
   have hs0:=hsrcs w.drew (fun _=>rfl);have hs1:=hsl w.drew (fun _=>rfl);rw[hy]at hs0⊢;rw[hv];have h48':¬(281474976710656<Builtin.nextslicecap (rows.length+more.length) cap*i.bytes):=by omega
   have hin:P.underlying t=some (.slice e):=hu;simp only[Builtin.append_,run_underlying hu,sizeOf,typeInfo,hi,Builtin.lenOf,Sem.run_bind,Sem.run_pure,Result.andThen_ok,run_program,hsz]at hs0 hs1⊢;have hn:¬(rows.length+more.length<=cap):=by omega
   have hmx:¬((9223372036854775807:Int)<(rows.length:Int)+(more.length:Int)):=by
    simp only[maxLen]at hmax;omega
   simp only[at_]at hs1;simp[run_underlying hu,hn,h48',hmx,hi,hsz,hz,Question.forced,hs0,hs1,zeroValue,typeInfo,newRow,at_,NC,grownCap,cur];congr 2;apply Array.ext';simp
  have hcs:NC*es.length<=cur.size:=by
   simp only[cur,List.size_toArray,List.length_append,flatRows_length,Array.length_toList,size_zeroCells,hzs];rw[<-Nat.add_mul,<-Nat.add_mul];exact Nat.mul_le_mul_right _ (by omega)
  have hcg:∀i j,i<(rows++more).length->j<es.length->cur[i*es.length+j]?=some (kval (es.getD j 0) (((rows++more).getD i []).getD j 0)):=by
   intro i j hi hj;have hg:=flat_getD_append es rows more i j hi hj;simp only[cur,List.getElem?_toArray];rw[List.getElem?_append_left (List.getElem?_eq_some_iff.1 hg).1];exact hg
  have hm0:Mem G st.box w.drew:=h.mem.same_heap rfl;have hp0:=Pres.fresh hm0 (.cells cur e) (L:= .box (newKey d)) (fixed:=false) (key:=some (newKey d)) (fun r e=>by cases e;exact hfree);have hev:=Evolves.fresh hm0 (.cells cur e) (L:= .box (newKey d)) (fixed:=false) (key:=some (newKey d)) (fun r e=>by cases e;unfold newKey;omega);have hmem:Mem (G.fresh w.heap.size (.box (newKey d)) false (some (newKey d))) (boxesTo st.box [(r,[]),(newKey d,[.arr es (rows++more) NC])]) (w.drew.alloc (.cells cur e)):=by
   refine⟨fun q cells hq=> ?_,fun q b2 hq=> ?_,(hm0.fresh_own _).1,(hm0.fresh_own _).2⟩
   . have hq:upd (upd st.box r (some [])) (newKey d) (some [.arr es (rows++more) NC]) q=some cells:=hq;by_cases hqd:q=newKey d
     . subst hqd;rw[upd_same]at hq;cases hq;refine .inr (.inl ⟨_,_,_,rfl,w.heap.size,cur,e,upd_same _ _ _,upd_same _ _ _,alloc_new w.drew _,fun o hi=> ?_,⟨by rw[List.length_append];exact hgc,hcs⟩,hcg⟩);rcases hi with hi|⟨e,_⟩
       . have:=h.mem.imm _ _ hi;omega
       . cases e
     . rw[upd_ne _ _ hqd]at hq;by_cases hqr:q=r
       . subst hqr;rw[upd_same]at hq;cases hq;exact .inr (.inr (.inl ⟨rfl,b,hp0.beta _ _ hbeta⟩))
       . rw[upd_ne _ _ hqr]at hq;exact(hm0.box q cells hq).pres hp0 trivial (fun _=>trivial)
   . show∃cells,upd (upd st.box r (some [])) (newKey d) (some [.arr es (rows++more) NC]) q=some cells;by_cases hqd:q=newKey d
     . subst hqd;exact⟨_,upd_same _ _ _⟩
     . rw[upd_ne _ _ hqd];by_cases hqr:q=r
       . subst hqr;exact⟨_,upd_same _ _ _⟩
       . rw[upd_ne _ _ hqr];exact h.mem.beta q b2 ((upd_ne G.beta (some w.heap.size) hqd).symm.trans hq)
  refine wp_value (hex _ _ hrun) ⟨_,_,hk NC ⟨hgc,hgm⟩,?_,⟨hev.os,hev.tape,hev.output,hev.size,hev.imm,hev.foreign,hev.beta⟩⟩;have hp:Pres G w (G.fresh w.heap.size (.box (newKey d)) false (some (newKey d))) (w.drew.alloc (.cells cur e)) (fun _=>True):=Pres.mk hp0.imm hp0.beta (fun b L _ hb=>hp0.own b L trivial hb);have:=h.put s.le (dst:=o.dst) (fun d' e=>s.dst d' e) hp (fun _ _=>trivial) (own:=false) (hv:= .ce (.msl (newKey d) (rows.length+more.length) NC)) (v:= .slice (some (at_ w.heap.size 0)) (rows.length+more.length) NC) ⟨w.heap.size,upd_same _ _ _,rfl,hgc,hgm⟩ (fun _ _ e=>nomatch e) hmem (log:=st.log);rw[hd]at this⊢;exact this
theorem frz_sound(h:Rel n G st a w)(s:Sides n o){v:Value}{r m cap:Nat}(hv:CRel G w none (.msl r m cap) v)(hrun:(execOp a.eval o).run P w= .ok (.value v) w)(hk:(frzSem st.box r m o.dst).wp st K):o.wp P a w (Post n G w K) Q:=by
 unfold frzSem at hk;split at hk;case h_3=>exact hk.elim
 case h_2=>
  rename_i ks rows d hbx hd;obtain⟨hm,hk⟩:=hk;obtain⟨b,h1,h2⟩:=(h.mem.box r _ hbx).fro;obtain⟨b',hb,rfl,hcap,hmax⟩:=hv;rw[h1]at hb;cases hb;refine wp_value hrun ⟨_,G,hk,?_,Evolves.refl _ _⟩;have hsr:SRel G w none ks rows (.slice (some (at_ b 0)) m cap):=by
   refine⟨_,cap,by rw[hm],by omega,hmax, .inr ⟨b,0,rfl,fun i j hi hj=> ?_,fun _ e=>nomatch e⟩⟩;rw[Nat.zero_add];exact h2 i j hi hj
  have hbx2:upd st.box r (some [.fro ks rows])=st.box:=by
   funext x;by_cases hx:x=r
   . subst hx;rw[upd_same];exact hbx.symm
   . exact upd_ne _ _ hx
  have hmem:Mem G (upd st.box r (some [.fro ks rows])) w:=by rw[hbx2];exact h.mem
  have:=h.put s.le (dst:=o.dst) (fun d' e=>s.dst d' e) (Pres.refl G w (fun _=>True)) (fun _ _=>trivial) (own:=false) (hv:= .ce (.sl false ks rows)) (v:= .slice (some (at_ b 0)) m cap) hsr (fun _ _ e=>nomatch e) hmem (log:=st.log);rw[hd]at this⊢;exact this
 rename_i ks rows capA d hbx hd;obtain⟨hm,hk⟩:=hk;obtain⟨b,vs,T,h1,h2,h3,h4,h5,h6⟩:=(h.mem.box r _ hbx).arr;obtain⟨b',hb,rfl,hcap,hmax⟩:=hv;rw[h1]at hb;cases hb;let G':Ghost:={G with imm:=fun x q=>G.imm x q∨x=b};have hp:Pres G w G' w (fun x=>x≠ .box r):=⟨fun _ _ hi=>⟨.inl hi,rfl⟩,fun _ _ e=>e,fun x L hL hx=>⟨hx,rfl,fun q hi=>hi.elim id fun e=>by
   subst e;rw[h2]at hx;cases hx;exact absurd rfl hL⟩⟩;have hev:Evolves G w G' w:=⟨rfl,rfl,rfl,Nat.le_refl _,fun _ _ hi=>⟨.inl hi,rfl⟩,fun x _ hx=>⟨hx,rfl,fun q hi=>hi.elim id fun e=>by
  subst e;rw[h2]at hx;cases hx⟩,fun _ _ _ e=>e⟩;have hmem:Mem G' (upd st.box r (some [.fro ks rows])) w:=by
  refine⟨fun r' cells' hr'=> ?_,fun r' b' hb'=> ?_,h.mem.own,fun x q hi=> ?_⟩
  . by_cases hrr:r'=r
    . subst hrr;rw[upd_same]at hr';cases hr';exact .inr (.inr (.inr (.inr (.inl ⟨_,_,rfl,b,h1,fun i j hi hj=>⟨.inr rfl,by rw[cell_heap _ _ _ h3];exact h6 i j hi hj⟩⟩))))
    . rw[upd_ne _ _ hrr]at hr';exact(h.mem.box r' cells' hr').pres hp (by simp;exact hrr) (fun q=>by simp)
  . by_cases hrr:r'=r
    . subst hrr;exact⟨_,upd_same _ _ _⟩
    . obtain⟨c',hc'⟩:=h.mem.beta r' b' hb';exact⟨c',(upd_ne _ _ hrr).trans hc'⟩
  . rcases hi with hi|e
    . exact h.mem.imm x q hi
    . subst e;exact h.mem.own _ _ h2
 refine wp_value hrun ⟨_,G',hk,?_,hev⟩;have hsr:SRel G' w none ks rows (.slice (some (at_ b 0)) m cap):=by
  refine⟨_,cap,by rw[hm],by omega,hmax, .inr ⟨b,0,rfl,fun i j hi hj=>⟨.inr rfl,?_⟩,fun _ e=>nomatch e⟩⟩;rw[cell_heap _ _ _ h3,Nat.zero_add];exact h6 i j hi hj
 have:=h.put s.le (dst:=o.dst) (fun d' e=>s.dst d' e) hp (fun _ _=>by simp) (own:=false) (hv:= .ce (.sl false ks rows)) (v:= .slice (some (at_ b 0)) m cap) hsr (fun _ _ e=>nomatch e) hmem (log:=st.log);rw[hd]at this⊢;exact this
theorem intT_spec{t:TypeId}(h:intT P t=true):P.underlying t=some (.int .i64):=by
 unfold intT at h;split at h
 . rename_i k hu;rw[hu];obtain rfl:=kEq_eq (j:=k) (k:= .i64) h;rfl
 . cases h
theorem mapT_spec{t:TypeId}(h:mapT P t=true):∃k e i,P.underlying t=some (.map k e)/\P.underlying k=some (.int .i64)/\P.info? e=some i/\i.zero=some (.int .i64 0):=by
 unfold mapT at h;split at h
 . rename_i k e hu;rw[Bool.and_eq_true]at h;obtain⟨h1,h2⟩:=h;unfold zeroInt at h2;rw[Bool.and_eq_true]at h2;obtain⟨_,h2⟩:=h2;split at h2
   . rename_i i hi;split at h2
     . rename_i k' n hz;rw[Bool.and_eq_true]at h2;obtain rfl:=kEq_eq (j:=k') (k:= .i64) h2.1;have:=h2.2;simp at this;subst this;exact⟨k,e,i,hu,intT_spec h1,hi,hz⟩
     . cases h2
   . cases h2
 . cases h
def mpos:List MapEntry->Int->Nat->Option (Nat×Value)
 |[],_,_=>none
 |e::l,k,i=>if keyI e=some k then some (i,e.val)else mpos l k (i+1)
theorem keyI_of{e:MapEntry}{j:Int}(h:e.key= .int .i64 j):keyI e=some j:=by unfold keyI;rw[h]
theorem mpos_mget:∀(l:List MapEntry)(k:Int)(i:Nat),(mpos l k i).map (·.2)=mget l k
 |[],_,_=>rfl
 |e::l,k,i=>by
  unfold mpos mget;split
  . rfl
  . exact mpos_mget l k (i+1)
theorem findNow_int(k:Int):∀(l:List MapEntry)(i:Nat),(∀e∈l,∃k n,e.key= .int .i64 k/\e.val= .int .i64 n)->Instr.findNow (.int .i64) (.int .i64 k) l i=some (mpos l k i)
 |[],i,_=>rfl
 |e::l,i,h=>by
  obtain⟨j,m,he,_⟩:=h e (by simp);unfold Instr.findNow mpos;rw[he,keyI_of he];simp only[Instr.sameNow,if_true];by_cases hjk:j=k
  . subst hjk;simp
  . have h1:(k==j)=false:=by simpa using fun e=>hjk e.symm
    rw[h1];rw[if_neg (fun e=>hjk (Option.some.inj e))];exact findNow_int k l (i+1) (fun e he=>h e (List.mem_cons_of_mem _ he))
theorem run_findKey{kt:TypeId}(hk:P.underlying kt=some (.int .i64))(k:Int){l:List MapEntry}(h:∀e∈l,∃k n,e.key= .int .i64 k/\e.val= .int .i64 n):(Instr.findKey kt (.int .i64 k) l).run P w= .ok (mpos l k 0) w:=by
 unfold Instr.findKey;simp only[Sem.run_bind,run_underlying hk,Result.andThen_ok,findNow_int k l 0 h,Sem.run_pure]
theorem run_checkKey{kt:TypeId}(hk:P.underlying kt=some (.int .i64))(em:Bool)(k:Int):(Instr.checkKey em 10000 kt (.int .i64 k)).run P w= .ok () w:=by
 show(Instr.checkKey em (9999+1) kt (.int .i64 k)).run P w=_;unfold Instr.checkKey;simp only[Sem.run_bind,run_underlying hk,Result.andThen_ok,Sem.run_pure]
theorem run_getMap{b:Nat}{es:Array MapEntry}{clk:Nat}(hb:w.heap[b]?=some (.map es clk)):(getObj b).run P w= .ok (.map es clk) w:=by
 simp[getObj,Sem.run,hb]
theorem lookup_sound(h:Rel n G st a w)(s:Sides n o){t:TypeId}{x y:Operand}{ok2:Bool}(ho:o.op= .lookup t x y ok2)(hk:(lookupSem P t (evalO P st.env o.type x) (evalO P st.env o.type y) ok2 st.box o.dst).wp st K):o.wp P a w (Post n G w K) Q:=by
 obtain⟨L1,h1⟩:=s.ev (P:=P) h o.type (x:=x) (by rw[ho];simp[Op.operands]);obtain⟨L2,h2⟩:=s.ev (P:=P) h o.type (x:=y) (by rw[ho];simp[Op.operands]);unfold lookupSem at hk;split at hk;case h_2=>exact hk.elim
 rename_i r kc e1 e2;rw[e1]at h1;rw[e2]at h2;split at hk;case h_2=>exact hk.elim
 rename_i k u f hkc hbx;have hkv:=isNum_rel h2.of_ce hkc;obtain⟨b,hb,hv⟩:=h1.of_ce;cases hm:mapT P t with
 |false=>rw[hm]at hk;exact hk.elim
 |true=>
 rw[hm]at hk;simp only[cond_true]at hk;obtain⟨kt,et,i,hu,hku,hi,hz⟩:=mapT_spec hm;obtain⟨b',es,clk,g1,g2,g3,g4,g5,g6⟩:=(h.mem.box r _ hbx).map;rw[hb]at g1;cases g1;have hpos:=mpos_mget es.toList k 0;rw[g6 k]at hpos;have hrun:∀c:Bool,(Instr.lookup t (.map (some b)) (.int .i64 k) c).run P w= .ok (if c then .tuple #[.int .i64 (optD (f k)), .bool (optB (f k))]else .int .i64 (optD (f k))) w:=by
  intro c;unfold Instr.lookup;simp only[Sem.run_bind,run_underlying hu,Result.andThen_ok,run_getMap g3,Sem.run_pure,run_checkKey hku,run_findKey hku k g5];cases hp:mpos es.toList k 0 with
  |none=>
   rw[hp]at hpos;have hf:f k=none:=by
    cases hf:f k with
    |none=>rfl
    |some x=>rw[hf]at hpos;cases hpos
   rw[hf];simp[zeroValue,typeInfo,hi,hz,optD,optB]
  |some q=>
   obtain⟨q1,q2⟩:=q;rw[hp]at hpos;cases hf:f k with
   |none=>rw[hf]at hpos;cases hpos
   |some x=>
    rw[hf]at hpos;simp at hpos;subst hpos;simp[optD,optB]
 have hex:∀v,(Instr.lookup t (.map (some b)) (.int .i64 k) ok2).run P w= .ok v w->(execOp a.eval o).run P w= .ok (.value v) w:=by
  intro v hr;unfold execOp;simp only[ho,hv,hkv,Sem.run_bind,hr,Result.andThen_ok,Sem.run_pure]
 cases ok2 with
 |true=>
  simp only[cond_true]at hk;refine ok_sound h s (hv:= .tup [.ce (.int .i64 (optD (f k))), .ce (.bool (optB (f k)))]) (v:= .tuple #[.int .i64 (optD (f k)), .bool (optB (f k))]) ⟨_,rfl,rfl,fun j x hj=> ?_⟩ (hex _ (hrun true)) hk;match j,hj with
  |0,hj=>cases hj;exact⟨_,rfl,rfl⟩
  |1,hj=>cases hj;exact⟨_,rfl,rfl⟩
  |j+2,hj=>simp at hj
 |false=>
  simp only[cond_false]at hk;exact ok_sound h s (hv:= .ce (.int .i64 (optD (f k)))) (v:= .int .i64 (optD (f k))) rfl (hex _ (hrun false)) hk
theorem makeMap_sound(h:Rel n G st a w)(s:Sides n o){t:TypeId}(ho:o.op= .makeMap t none)(hk:(makeMapSem P t st.box o.dst).wp st K):o.wp P a w (Post n G w K) Q:=by
 unfold makeMapSem at hk;split at hk;case h_2=>exact hk.elim
 rename_i d hd;split at hk;case h_2=>exact hk.elim
 rename_i hfree hmt;have hp:=Pres.fresh h.mem (.map #[] 0) (L:= .box (newKey d)) (fixed:=false) (key:=some (newKey d)) (fun r e=>by cases e;exact hfree);have hev:=Evolves.fresh h.mem (.map #[] 0) (L:= .box (newKey d)) (fixed:=false) (key:=some (newKey d)) (fun r e=>by cases e;unfold newKey;omega);have hm:Mem (G.fresh w.heap.size (.box (newKey d)) false (some (newKey d))) (upd st.box (newKey d) (some [.mpb mnil])) (w.alloc (.map #[] 0)):=by
  refine⟨fun r cells hr=> ?_,fun r b hb=> ?_,(h.mem.fresh_own _).1,(h.mem.fresh_own _).2⟩
  . by_cases hrk:r=newKey d
    . subst hrk;rw[upd_same]at hr;cases hr;refine .inr (.inr (.inr (.inl ⟨_,rfl,w.heap.size,#[],0,upd_same _ _ _,upd_same _ _ _,alloc_new w _,fun o hi=> ?_,(fun e he=>by cases he),fun k=>rfl⟩)));rcases hi with hi|⟨e,_⟩
      . have:=h.mem.imm _ _ hi;omega
      . cases e
    . rw[upd_ne _ _ hrk]at hr;exact(h.mem.box r cells hr).pres hp trivial (fun _=>trivial)
  . by_cases hrk:r=newKey d
    . subst hrk;exact⟨_,upd_same _ _ _⟩
    . obtain⟨cells,hc⟩:=h.mem.beta r b ((upd_ne G.beta (some w.heap.size) hrk).symm.trans hb);exact⟨cells,(upd_ne _ _ hrk).trans hc⟩
 have hrun:(execOp a.eval o).run P w= .ok (.value (.map (some w.heap.size))) (w.alloc (.map #[] 0)):=by
  unfold execOp;have hmm:(Instr.makeMap t none).run P w= .ok (.map (some w.heap.size)) (w.alloc (.map #[] 0)):=rfl;simp only[ho,Option.map_none,Sem.run_bind,hmm,Result.andThen_ok,Sem.run_pure]
 refine wp_value hrun ⟨_,_,hk,?_,hev⟩;have:=h.put s.le (dst:=o.dst) (fun d' e=>s.dst d' e) hp (fun _ _=>trivial) (own:=false) (hv:= .ce (.mapv (newKey d))) (v:= .map (some w.heap.size)) ⟨w.heap.size,upd_same _ _ _,rfl⟩ (fun _ _ e=>nomatch e) hm (log:=st.log);rw[hd]at this⊢;exact this
theorem mget_modify:∀(l:List MapEntry)(k v:Int)(i p:Nat)(old:Value),mpos l k i=some (p,old)->(∀e∈l,∃k n,e.key= .int .i64 k/\e.val= .int .i64 n)->i<=p/\p-i<l.length/\(l[p-i]?).map (·.key)=some (.int .i64 k)/\∀x,mget (l.modify (p-i) fun e=>{e with key:= .int .i64 k,val:= .int .i64 v}) x=if x=k then some (.int .i64 v)else mget l x
 |[],k,v,i,p,old,h,_=>by cases h
 |e::l,k,v,i,p,old,h,hk=>by
  obtain⟨j,m,he,hm⟩:=hk e (by simp);unfold mpos at h;rw[keyI_of he]at h;by_cases hjk:j=k
  . rw[if_pos (congrArg some hjk)]at h;cases h;subst hjk;refine⟨Nat.le_refl _,by simp,by simp[he],fun x=> ?_⟩;rw[Nat.sub_self];show mget ({e with key:= .int .i64 j,val:= .int .i64 v}::l) x=_;unfold mget;rw[keyI_of he];have hk2:keyI {e with key:= .int .i64 j,val:= .int .i64 v}=some j:=rfl;rw[hk2];by_cases hx:x=j
    . subst hx;simp
    . have hn:¬some j=some x:=fun e=>hx (Option.some.inj e).symm;rw[if_neg hn,if_neg hx,if_neg hn]
  . rw[if_neg (fun e=>hjk (Option.some.inj e))]at h;obtain⟨g1,g2,g3,g4⟩:=mget_modify l k v (i+1) p old h (fun e he=>hk e (List.mem_cons_of_mem _ he));have hp:p-i=(p-(i+1))+1:=by omega
    refine⟨by omega,by simp;omega,by rw[hp];simpa using g3,fun x=> ?_⟩;rw[hp];have hmod:(e::l).modify (p-(i+1)+1) (fun e=>{e with key:= .int .i64 k,val:= .int .i64 v})=e::l.modify (p-(i+1)) (fun e=>{e with key:= .int .i64 k,val:= .int .i64 v}):=by
     simp
    rw[hmod];unfold mget;rw[keyI_of he,g4];by_cases hx:x=k
    . subst hx;rw[if_neg (fun e=>hjk (Option.some.inj e)),if_pos rfl,if_pos rfl]
    . rw[if_neg hx,if_neg hx]
theorem mget_push(k v:Int)(c:Nat):∀(l:List MapEntry)(i:Nat),mpos l k i=none->∀x,mget (l++[{key:= .int .i64 k,val:= .int .i64 v,born:=c}]) x=if x=k then some (.int .i64 v)else mget l x
 |[],i,h,x=>by
  simp only[List.nil_append,mget];have hk2:keyI {key:= .int .i64 k,val:= .int .i64 v,born:=c}=some k:=rfl;rw[hk2];by_cases hx:x=k
  . subst hx;simp
  . rw[if_neg hx,if_neg (fun e=>hx (Option.some.inj e).symm)]
 |e::l,i,h,x=>by
  unfold mpos at h;rw[List.cons_append];unfold mget;split at h
  . cases h
  . rename_i hjk;rw[mget_push k v c l (i+1) h x];by_cases hx:x=k
    . subst hx;rw[if_neg hjk,if_pos rfl,if_pos rfl]
    . rw[if_neg hx,if_neg hx]
theorem setObj_run{b:Nat}{ob:Obj}{es:Array MapEntry}{clk:Nat}(hb:w.heap[b]?=some (.map es clk)):(setObj b ob).run P w= .ok () {w with heap:=w.heap.setIfInBounds b ob}:=by
 simp[setObj,Sem.run,hb]
theorem mapUpdate_sound(h:Rel n G st a w)(s:Sides n o){t:TypeId}{x y z:Operand}(ho:o.op= .mapUpdate t x y z)(hd:o.dst=none)(hk:(mapUpdateSem P t (evalO P st.env o.type x) (evalO P st.env o.type y) (evalO P st.env o.type z) st.box).wp st K):o.wp P a w (Post n G w K) Q:=by
 obtain⟨L1,h1⟩:=s.ev (P:=P) h o.type (x:=x) (by rw[ho];simp[Op.operands]);obtain⟨L2,h2⟩:=s.ev (P:=P) h o.type (x:=y) (by rw[ho];simp[Op.operands]);obtain⟨L3,h3⟩:=s.ev (P:=P) h o.type (x:=z) (by rw[ho];simp[Op.operands]);unfold mapUpdateSem at hk;split at hk;case h_2=>exact hk.elim
 rename_i r kc vc e1 e2 e3;rw[e1]at h1;rw[e2]at h2;rw[e3]at h3;split at hk;case h_2=>exact hk.elim
 rename_i k u v u2 f hkc hvc hbx;have hkv:=isNum_rel h2.of_ce hkc;have hvv:=isNum_rel h3.of_ce hvc;obtain⟨b,hb,hv⟩:=h1.of_ce;cases hm:mapT P t with
 |false=>rw[hm]at hk;exact hk.elim
 |true=>
 rw[hm]at hk;simp only[cond_true]at hk;obtain⟨kt,et,i,hu,hku,hi,hz⟩:=mapT_spec hm;obtain⟨b',es,clk,g1,g2,g3,g4,g5,g6⟩:=(h.mem.box r _ hbx).map;rw[hb]at g1;cases g1;have hlt:b<w.heap.size:=h.mem.own _ _ g2;have hnew:∃es' clk',(Instr.mapUpdate t (.map (some b)) (.int .i64 k) (.int .i64 v)).run P w= .ok () {w with heap:=w.heap.setIfInBounds b (.map es' clk')}/\MapOK es'.toList (mput f k v):=by
  unfold Instr.mapUpdate;simp only[Sem.run_bind,run_underlying hu,Result.andThen_ok,run_getMap g3,run_checkKey hku,run_findKey hku k g5];cases hp:mpos es.toList k 0 with
  |some q=>
   obtain⟨p,old⟩:=q;obtain⟨_,q2,q3,q4⟩:=mget_modify es.toList k v 0 p old hp g5;rw[Nat.sub_zero]at q2 q3 q4;have hkey:((es[p]?).map (·.key)).getD (.int .i64 k)= .int .i64 k:=by
    have:es[p]?=es.toList[p]?:=by simp
    rw[this,q3];rfl
   refine⟨es.modify p fun e=>{e with key:= .int .i64 k,val:= .int .i64 v},clk,?_,?_,?_⟩
   . simp only[hkey,Instr.keyThatStays];have:Instr.sameBits 10000 (.int .i64 k) (.int .i64 k)=true:=by
      show Instr.sameBits (9999+1) _ _=true;simp[Instr.sameBits]
     rw[if_pos this];simp only[Sem.run_bind,Sem.run_pure,Result.andThen_ok];exact setObj_run g3
   . intro e he;rw[Array.toList_modify]at he;obtain⟨j,hj,rfl⟩:=List.getElem_of_mem he;rw[List.getElem_modify];split
     . exact⟨k,v,rfl,rfl⟩
     . exact g5 _ (List.getElem_mem _)
   . intro x;rw[Array.toList_modify,q4,g6];unfold mput;split<;>rfl
  |none=>
   refine⟨es.push {key:= .int .i64 k,val:= .int .i64 v,born:=clk},clk+1,setObj_run g3,?_,?_⟩
   . intro e he;rw[Array.toList_push]at he;rcases List.mem_append.1 he with he|he
     . exact g5 e he
     . simp at he;subst he;exact⟨k,v,rfl,rfl⟩
   . intro x;rw[Array.toList_push,mget_push k v clk es.toList 0 hp x,g6];unfold mput;split<;>rfl
 obtain⟨es',clk',hrun,hok⟩:=hnew;let w1:World:={w with heap:=w.heap.setIfInBounds b (.map es' clk')};have hother:∀x,x≠b->w1.heap[x]?=w.heap[x]?:=fun x hne=>by
  show(w.heap.setIfInBounds b _)[x]?=_;rw[Array.getElem?_setIfInBounds_ne (Ne.symm hne)]
 have hself:w1.heap[b]?=some (.map es' clk'):=by
  show(w.heap.setIfInBounds b _)[b]?=_;rw[Array.getElem?_setIfInBounds_self_of_lt hlt]
 have hcell:∀x q,G.imm x q->w1.cell? (at_ x q)=w.cell? (at_ x q):=by
  intro x q hi;have hne:x≠b:=fun e=>by subst e;exact g4 q hi
  exact cell_of_heap (hother x hne) q
 have hsize:w1.heap.size=w.heap.size:=by show(w.heap.setIfInBounds b _).size=_;simp
 have hp0:Pres G w G w1 (fun x=>x≠ .box r):=⟨fun x q hi=>⟨hi,hcell x q hi⟩,fun _ _ e=>e,fun x L hL hx=>⟨hx,hother x (fun e=>by subst e;rw[g2]at hx;cases hx;exact hL rfl),fun _ e=>e⟩⟩;have hev:Evolves G w G w1:=⟨rfl,rfl,rfl,by rw[hsize];exact Nat.le_refl _,fun x q hi=>⟨hi,hcell x q hi⟩,fun x _ hx=>⟨hx,hother x (fun e=>by subst e;rw[g2]at hx;cases hx),fun _ e=>e⟩,fun _ _ _ e=>e⟩;have hrun2:(execOp a.eval o).run P w= .ok .skip w1:=by
  unfold execOp;simp only[ho,hv,hkv,hvv,Sem.run_bind,hrun,Result.andThen_ok,Sem.run_pure];rfl
 refine wp_skip' hrun2 ⟨_,G,hk,?_,hev⟩;rw[hd];refine⟨h.defers,h.size,fun x hx=>h.env_of hp0 x hx rfl rfl (.inr ⟨rfl,by simp⟩),?_⟩;refine⟨fun r' c' hr'=> ?_,fun r' b' hb'=> ?_,fun x L hx=>by rw[hsize];exact h.mem.own x L hx,fun x q hi=>by rw[hsize];exact h.mem.imm x q hi⟩
 . have hr2:upd st.box r (some [.mpb (mput f k v)]) r'=some c':=hr';by_cases hrr:r'=r
   . subst hrr;rw[upd_same]at hr2;cases hr2;exact .inr (.inr (.inr (.inl ⟨_,rfl,b,es',clk',hb,g2,hself,g4,hok⟩)))
   . rw[upd_ne _ _ hrr]at hr2;exact(h.mem.box r' c' hr2).pres hp0 (by simp;exact hrr) (fun q=>by simp)
 . by_cases hrr:r'=r
   . subst hrr;exact⟨_,upd_same _ _ _⟩
   . obtain⟨c',hc'⟩:=h.mem.beta r' b' hb';exact⟨c',(upd_ne _ _ hrr).trans hc'⟩
end
end Go.HL
