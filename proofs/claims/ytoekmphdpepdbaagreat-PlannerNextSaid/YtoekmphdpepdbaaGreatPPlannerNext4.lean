/-
  Part 4.
  Conditions: none.
-/
import Derived.Test.YtoekmphdpepdbaaGreatPPlannerNext3
set_option maxRecDepth 100000
set_option maxHeartbeats 400000
set_option linter.unusedVariables false
set_option linter.unusedSimpArgs false
open Go
namespace U
open Go
def qsm(l:LL):Nat->Int
 |0=>0
 |k+1=>qsm l k+el l k
def qcumN(u:Int)(l:LL)(n:Nat):LL:=(List.range n).map fun k=>[u+qsm l (k+1)]
def qcum(u:Int)(l:LL):LL:=qcumN u l l.length
def qcumP(u:Int)(l:LL)(i:Nat):LL:=qcumN u l i++List.replicate (l.length-i) [0]
def qfu(A J u v a:Int):LL:=qcum u (qsp A J v a)
def qend(u:Int)(l:LL):Int:=if l.length=0 then u else el l (l.length-1)
def okSpd(l:LL):Prop:=l.length<=4096/\∀j,j<l.length->0<=el l j/\el l j<=16777216
def okU(u:Int):Prop:= -5000000000000000000<=u/\u<=5000000000000000000
structure QM where
 u:Int
 v:Int
 a:Int
 l:Int
 p:Int
 b:Int
def qstart(u:Int):QM:=⟨u*256,0,0,u*256,u*256,u*256⟩
def qmove(m:QM)(v:Int):QM:=⟨m.u+v,v,v-m.v,m.u,m.l,m.p⟩
def scl(v p:Int):Int:=if p=0 then 0 else min (max (IntKind.i64.wrap ((IntKind.i64.wrap (v*p)).tdiv 100)) 1) 16777216
def tgt(ho:Bool)(fo ro R fd ld:Int):Int:=if ho=true then 0 else if ld≠0 then min (max fd 1) 16777216 else if fd=0 then scl R ro else scl fd fo
def qtg(ho:Bool)(fo ro R:Int)(sg pk:LL)(sa ln u:Int):Int:=tgt ho fo ro R (ec sg (pfind sg (tplace pk sa (clamp ln (u/256)))).1.toNat 5) (ec sg (pfind sg (tplace pk sa (clamp ln (u/256)))).1.toNat 6)
def hlv:Nat->Int->LL
 |0,_=>[]
 |n+1,k=>if 0<k then[k]::hlv n (k/2)else[]
def ngl(l:LL):LL:=l.map fun r=>[-(r.getD 0 0)]
def chg(J:Int):LL:=hlv J.toNat J++[[0]]++ngl (hlv J.toNat J).reverse
end U
namespace Go.Proofs.YtoekmphdpepdbaaGreat
open Go Go.HL U
def SQFut(hargs:List HV)(pars:List (List HC)):SR:=match hargs,pars with
 |[.agg [.int .i64 A, .int .i64 J, .int .i64 R], .agg [.int .i64 mu, .int .i64 mv, .int .i64 ma, .int .i64 ml, .int .i64 mp, .int .i64 mb]],[]=> .all (okPl A J R/\okU mu) (LL×Bool) (fun x=>x=(qfu A J mu mv ma,qfok A J mv ma)) (fun x=>⟨.tup [.ce (.sl false [4] x.1), .ce (.bool x.2)],false,[],[]⟩)
 |_,_=> .fail
def anQF:LAnn:=⟨[8,9,28,29,30],[8],[1000025],false⟩
def LQF(v:LV):LR:=match v with
 |([.ce (.msl 1000025 n cap), .ce (.int .i64 u), .ce (.sl false [4] l), .ce (.int .i64 len), .ce (.int .i64 k)],[[.arr [4] rows d]])=> .det (n=l.length/\len=l.length/\k=0/\rows=List.replicate l.length [0]/\okSpd l/\okU u) (.exit 0) ([.ce (.msl 1000025 n cap)],[[.arr [4] (qcum u l) d]])
 |_=> .fail
def tabQF:List (FuncId×HL.Spec):=[(59,SQStop)]
noncomputable def CQF:Ctx:=⟨Tryz.prog,gam tabQF,Tryz.f32.ntmps,[(7,anQF,LQF)],[43]⟩
theorem vbQF(u len k:Int)(n cap d:Nat)(l rows:LL)(K:HEx->LV->Prop):(nbodyT true CQF anQF (nthLoop Tryz.f32 0) (([.ce (.msl 1000025 n cap), .ce (I6 u), .ce (.sl false [4] l), .ce (I6 len), .ce (I6 k)],[[.arr [4] rows d]])) K)=(Br (k<len) ((0<=k/\k<(l.length:Int))/\∀x1,x1=el l k.toNat->R6 (u+x1)/\∀x2,x2=u+x1->(0<=k/\k<((n:Nat):Int))/\k.toNat<rows.length/\R6 (k+1)/\∀x3,x3=k+1->K .normal ([.ce (.msl (1000025:Nat) n cap), .ce (I6 x2), .ce (.sl false [4] l), .ce (I6 len), .ce (I6 x3)],[[.arr [4] (List.set rows k.toNat [bif true&&true then x2 else el rows k.toNat]) d]])) (K (.exit 0) ([.ce (.msl (1000025:Nat) n cap)],[[.arr [4] rows d]]))):=by kernel_rfl
theorem vcQF(A J R mu mv ma ml mp mb:Int)(Q:Res->Prop):(nfun true CQF Tryz.f32 (bodyOf Tryz.f32) [.agg [I6 A,I6 J,I6 R], .agg [I6 mu,I6 mv,I6 ma,I6 ml,I6 mp,I6 mb]] [] Q)=(okPl A J R/\(∃(x:LL×Bool),x=(qsp A J mv ma,qfok A J mv ma))/\∀(x:LL×Bool),x=(qsp A J mv ma,qfok A J mv ma)->Bb (!x.2) (Q ⟨.tup [.ce (.sl false [4] []), .ce (.bool false)],false,[],[]⟩) (((0:Int)<=(List.length x.1:Int)/\(List.length x.1:Int)=(List.length x.1:Int)/\(List.length x.1:Int)<=140737488355328/\(List.length x.1:Int)*8<=140737488355328)/\(Int.toNat (List.length x.1:Int)=List.length x.1/\(List.length x.1:Int)=(List.length x.1:Int)/\(0:Int)=0/\List.replicate (Int.toNat (List.length x.1:Int)) [(0:Int)]=List.replicate (List.length x.1) [(0:Int)]/\okSpd x.1/\okU mu)/\Int.toNat (List.length x.1:Int)=List.length (qcum mu x.1)/\Q ⟨.tup [.ce (.sl false [4] (qcum mu x.1)), .ce (.bool true)],false,[],[]⟩)):=by kernel_rfl
def SQRest(hargs:List HV)(pars:List (List HC)):SR:=match hargs,pars with
 |[.agg [.int .i64 A, .int .i64 J, .int .i64 R], .agg [.int .i64 mu, .int .i64 mv, .int .i64 ma, .int .i64 ml, .int .i64 mp, .int .i64 mb]],[]=> .all (okPl A J R/\okU mu) (Int×Bool) (fun x=>x=(if qfok A J mv ma=true then qend mu (qfu A J mu mv ma)else 0,qfok A J mv ma)) (fun x=>⟨.tup [.ce (I6 x.1), .ce (.bool x.2)],false,[],[]⟩)
 |_,_=> .fail
def SQUnit(hargs:List HV)(pars:List (List HC)):SR:=match hargs,pars with
 |[.ce (.int .i64 u)],[]=> .det (-9223372036854775808<=u/\u<=9223372036854775807) ⟨.ce (I6 (u/256)),false,[],[]⟩
 |_,_=> .fail
noncomputable def CQUnit:Ctx:=⟨Tryz.prog,gam [],Tryz.f79.ntmps,[],[]⟩
theorem vcQUnit(u:Int)(Q:Res->Prop):(nfun true CQUnit Tryz.f79 (bodyOf Tryz.f79) [.ce (I6 u)] [] Q)=((256:Int)≠(0:Int)/\R6 (Int.tdiv u 256)/\∀x1,x1=Int.tdiv u 256->(256:Int)≠(0:Int)/\∀x2,x2=Int.tmod u 256->Br (x2<0) (R6 (x1-1)/\∀x3,x3=x1-1->Q ⟨.ce (I6 x3),false,[],[]⟩) (Q ⟨.ce (I6 x1),false,[],[]⟩)):=by kernel_rfl
def SQStart(hargs:List HV)(pars:List (List HC)):SR:=match hargs,pars with
 |[.ce (.int .i64 u)],[]=> .all (-18014398509481984<=u/\u<=18014398509481984) QM (fun x=>x=qstart u) (fun x=>⟨.agg [I6 x.u,I6 x.v,I6 x.a,I6 x.l,I6 x.p,I6 x.b],false,[],[]⟩)
 |_,_=> .fail
noncomputable def CQStart:Ctx:=⟨Tryz.prog,gam [],Tryz.f20.ntmps,[],[]⟩
theorem vcQStart(u:Int)(Q:Res->Prop):(nfun true CQStart Tryz.f20 (bodyOf Tryz.f20) [.ce (I6 u)] [] Q)=(R6 (u*256)/\∀x1,x1=u*256->Q ⟨.agg [I6 x1,I6 0,I6 0,I6 x1,I6 x1,I6 x1],false,[],[]⟩):=by kernel_rfl
def SQMove(hargs:List HV)(pars:List (List HC)):SR:=match hargs,pars with
 |[.agg [.int .i64 mu, .int .i64 mv, .int .i64 ma, .int .i64 ml, .int .i64 mp, .int .i64 mb], .ce (.int .i64 v)],[]=> .all (okU mu/\(-2199023255552<=v/\v<=2199023255552)/\(-2199023255552<=mv/\mv<=2199023255552)) QM (fun x=>x=qmove ⟨mu,mv,ma,ml,mp,mb⟩ v) (fun x=>⟨.agg [I6 x.u,I6 x.v,I6 x.a,I6 x.l,I6 x.p,I6 x.b],false,[],[]⟩)
 |_,_=> .fail
noncomputable def CQMove:Ctx:=⟨Tryz.prog,gam [],Tryz.f62.ntmps,[],[]⟩
theorem vcQMove(mu mv ma ml mp mb v:Int)(Q:Res->Prop):(nfun true CQMove Tryz.f62 (bodyOf Tryz.f62) [.agg [I6 mu,I6 mv,I6 ma,I6 ml,I6 mp,I6 mb], .ce (I6 v)] [] Q)=(R6 (mu+v)/\∀x1,x1=mu+v->R6 (v-mv)/\∀x2,x2=v-mv->Q ⟨.agg [I6 x1,I6 v,I6 x2,I6 mu,I6 ml,I6 mp],false,[],[]⟩):=by kernel_rfl
def STgt(hargs:List HV)(pars:List (List HC)):SR:=match hargs,pars with
 |[.agg [.int .i64 fo, .int .i64 ro, .bool ho, .bool so, .bool oo], .agg [.int .i64 A, .int .i64 J, .int .i64 R], .agg [.int .i64 _, .int .i64 _, .int .i64 _, .int .i64 _, .int .i64 _, .int .i64 fd, .int .i64 ld]],[]=> .det True ⟨.ce (I6 (tgt ho fo ro R fd ld)),false,[],[]⟩
 |_,_=> .fail
noncomputable def CTgt:Ctx:=⟨Tryz.prog,gam [],Tryz.f87.ntmps,[],[]⟩
theorem vcTgt(fo ro:Int)(ho so oo:Bool)(A J R g0 g1 g2 g3 g4 fd ld:Int)(Q:Res->Prop):(nfun false CTgt Tryz.f87 (bodyOf Tryz.f87) [.agg [I6 fo,I6 ro, .bool ho, .bool so, .bool oo], .agg [I6 A,I6 J,I6 R], .agg [I6 g0,I6 g1,I6 g2,I6 g3,I6 g4,I6 fd,I6 ld]] [] Q)=(Bb (ho) (Q ⟨.ce (I6 0),false,[],[]⟩) (Bb (ld !=0) (∀x1,x1=max fd 1->∀x2,x2=min x1 16777216->Q ⟨.ce (I6 x2),false,[],[]⟩) (Bb (fd==0) (Bb (ro==0) (Q ⟨.ce (I6 0),false,[],[]⟩) (∀x3,x3=IntKind.wrap .i64 (R*ro)->(100:Int)≠(0:Int)/\∀x4,x4=IntKind.wrap .i64 (Int.tdiv x3 100)->∀x5,x5=max x4 1->∀x6,x6=min x5 16777216->Q ⟨.ce (I6 x6),false,[],[]⟩)) (Bb (fo==0) (Q ⟨.ce (I6 0),false,[],[]⟩) (∀x7,x7=IntKind.wrap .i64 (fd*fo)->(100:Int)≠(0:Int)/\∀x8,x8=IntKind.wrap .i64 (Int.tdiv x7 100)->∀x9,x9=max x8 1->∀x10,x10=min x9 16777216->Q ⟨.ce (I6 x10),false,[],[]⟩))))):=by kernel_rfl
def SQTg(hargs:List HV)(pars:List (List HC)):SR:=match hargs,pars with
 |[.agg [.int .i64 s0, .int .i64 s1, .int .i64 s2, .sl false [4,4,4,4,4,4,4] sg, .sl false [4,4,4] mk], .agg [.sl false [4,4,4,4,4,4,4,4,4,4] pk, .int .i64 ln, .int .i64 sa, .int .i64 d0, .int .i64 d1, .int .i64 d2], .agg [.int .i64 A, .int .i64 J, .int .i64 R], .agg [.int .i64 fo, .int .i64 ro, .bool ho, .bool so, .bool oo], .ce (.int .i64 u)],[]=> .det ((okLen sg/\okTrk pk ln/\(0<=sa/\sa<=18014398509481984))/\0<sg.length/\okU u) ⟨.ce (I6 (qtg ho fo ro R sg pk sa ln u)),false,[],[]⟩
 |_,_=> .fail
def tabQTg:List (FuncId×HL.Spec):=[(79,SQUnit),(28,SPlace),(27,SPFind),(87,STgt)]
noncomputable def CQTg:Ctx:=⟨Tryz.prog,gam tabQTg,Tryz.f48.ntmps,[],[]⟩
theorem vcQTg(s0 s1 s2 ln sa d0 d1 d2 A J R fo ro u:Int)(ho so oo:Bool)(sg mk pk:LL)(Q:Res->Prop):(nfun true CQTg Tryz.f48 (bodyOf Tryz.f48) [.agg [I6 s0,I6 s1,I6 s2, .sl false [4,4,4,4,4,4,4] sg, .sl false [4,4,4] mk], .agg [.sl false [4,4,4,4,4,4,4,4,4,4] pk,I6 ln,I6 sa,I6 d0,I6 d1,I6 d2], .agg [I6 A,I6 J,I6 R], .agg [I6 fo,I6 ro, .bool ho, .bool so, .bool oo], .ce (I6 u)] [] Q)=(R6 u/\∀x1,x1=u/256->okTrk pk ln/\∀x2,x2=tplace pk sa (clamp ln x1)->(okLen sg/\x2<=4611686018427387904)/\(∃(x:Int×Int),x=pfind sg x2)/\∀(x:Int×Int),x=pfind sg x2->(0<=x.1/\x.1<(sg.length:Int))/\True/\∀x4,x4=tgt ho fo ro R (ec sg x.1.toNat 5) (ec sg x.1.toNat 6)->Q ⟨.ce (I6 x4),false,[],[]⟩):=by kernel_rfl
def SChg(hargs:List HV)(pars:List (List HC)):SR:=match hargs,pars with
 |[.ce (.int .i64 j)],[]=> .all (0<=j/\j<=65536) (LL) (fun x=>x=chg j) (fun x=>⟨.ce (.sl false [4] x),true,[],[]⟩)
 |_,_=> .fail
def anCh0:LAnn:=⟨[3,100003,4],[3,100003],[],false⟩
def LCh0(v:LV):LR:=match v with
 |([.ce (.sl false [4] l), .ce (.lit true), .ce (.int .i64 k)],[])=> .det (l.length=0/\0<=k/\k<=65536) (.exit 0) ([.ce (.sl false [4] (hlv k.toNat k)), .ce (.lit true)],[])
 |_=> .fail
def anCh1:LAnn:=⟨[3,5,100005,6],[5,100005],[],false⟩
def LCh1(v:LV):LR:=match v with
 |([.ce (.sl false [4] l), .ce (.sl false [4] y), .ce (.lit true), .ce (.int .i64 i)],[])=> .det (i=(l.length:Int)-1/\l.length<=65536/\y.length<=65537/\∀j,j<l.length-> -65536<=el l j/\el l j<=65536) (.exit 2) ([.ce (.sl false [4] (y++ngl l.reverse)), .ce (.lit true)],[])
 |_=> .fail
noncomputable def CChg:Ctx:=⟨Tryz.prog,gam [],Tryz.f60.ntmps,[(3,anCh0,LCh0),(8,anCh1,LCh1)],[]⟩
theorem vbCh0(l:LL)(k:Int)(K:HEx->LV->Prop):(nbodyT true CChg anCh0 (nthLoop Tryz.f60 0) (([.ce (.sl false [4] l), .ce (.lit true), .ce (I6 k)],[])) K)=(Br (k>0) (((l.length+1)*8<=140737488355328/\l.length+1<=maxLen)/\(2:Int)≠(0:Int)/\R6 (Int.tdiv k 2)/\∀x1,x1=Int.tdiv k 2->K .normal ([.ce (.sl false [4] (l++[[k]])), .ce (.lit true), .ce (I6 x1)],[])) (K (.exit 0) ([.ce (.sl false [4] l), .ce (.lit true)],[]))):=by kernel_rfl
theorem vbCh1(l y:LL)(i:Int)(K:HEx->LV->Prop):(nbodyT true CChg anCh1 (nthLoop Tryz.f60 1) (([.ce (.sl false [4] l), .ce (.sl false [4] y), .ce (.lit true), .ce (I6 i)],[])) K)=(Br (i>=0) ((0<=i/\i<(l.length:Int))/\∀x1,x1=el l i.toNat->R6 (0-x1)/\∀x2,x2=0-x1->((y.length+1)*8<=140737488355328/\y.length+1<=maxLen)/\R6 (i-1)/\∀x3,x3=i-1->K .normal ([.ce (.sl false [4] l), .ce (.sl false [4] (y++[[x2]])), .ce (.lit true), .ce (I6 x3)],[])) (K (.exit 2) ([.ce (.sl false [4] y), .ce (.lit true)],[]))):=by kernel_rfl
theorem vcChg(j:Int)(Q:Res->Prop):(nfun true CChg Tryz.f60 (bodyOf Tryz.f60) [.ce (I6 j)] [] Q)=(((0:Nat)=0/\0<=j/\j<=65536)/\(((0:Nat)+List.length (hlv j.toNat j))*8<=140737488355328/\(0:Nat)+List.length (hlv j.toNat j)<=maxLen)/\((List.length ([]++hlv j.toNat j)+1)*8<=140737488355328/\List.length ([]++hlv j.toNat j)+1<=maxLen)/\R6 ((((List.length (hlv j.toNat j)):Nat):Int)-1)/\∀x1,x1=(((List.length (hlv j.toNat j)):Nat):Int)-1->(x1=(((List.length (hlv j.toNat j)):Nat):Int)-1/\List.length (hlv j.toNat j)<=65536/\List.length ([]++hlv j.toNat j++[[(0:Int)]])<=65537/\∀(j_1:Nat),j_1<List.length (hlv j.toNat j)-> -65536<=el (hlv j.toNat j) j_1/\el (hlv j.toNat j) j_1<=65536)/\Q ⟨.ce (.sl false [4] ([]++hlv j.toNat j++[[(0:Int)]]++ngl (List.reverseAux (hlv j.toNat j) []))),true,[],[]⟩):=by kernel_rfl
end Go.Proofs.YtoekmphdpepdbaaGreat
namespace U
theorem el_cons(r:List Int)(l:LL)(j:Nat):el (r::l) (j+1)=el l j:=rfl
theorem qst_bd{A J:Int}(hA:1<=A)(hJ:1<=J):∀(n:Nat){v a:Int},qready A J v a=true->∀j,j<(qst A J n v a).length->0<=el (qst A J n v a) j/\el (qst A J n v a) j<=16777216:=by
 intro n;induction n with
 |zero=>intro v a _ j hj;simp[qst]at hj
 |succ n ih=>
  intro v a h j hj;by_cases hv:0<v
  . have e:=(Go.Proofs.YtoekmphdpepdbaaGreat.qst_k (A:=A) (J:=J) (a:=a) (n:=n) hv).1;rw[e]at hj⊢;have hr:=qbrk_ready hA hJ h;cases j with
    |zero=>exact qready_v hJ hr
    |succ j=>exact ih hr j (by simpa using hj)
  . rw[(qst_nil (A:=A) (J:=J) (a:=a) (n:=n+1) hv).1]at hj;simp at hj
theorem qsp_spd{A J R v a:Int}(hp:okPl A J R):okSpd (qsp A J v a):=by
 unfold qsp;split
 . rename_i h;unfold qfok at h;rw[Bool.and_eq_true]at h;exact⟨qst_len 4096 v a,fun j hj=>qst_bd hp.1.1 (by have:=hp.2.1.1;omega) 4096 h.1 j hj⟩
 . exact⟨by simp,fun j hj=>by simp at hj⟩
theorem qsm_bd{l:LL}(h:okSpd l):∀k,k<=l.length->0<=qsm l k/\qsm l k<=16777216*(k:Int):=by
 intro k;induction k with
 |zero=>intro _;simp[qsm]
 |succ k ih=>
  intro hk;have a:=ih (by omega);have b:=h.2 k (by omega);unfold qsm;omega
theorem qcumN_succ(u:Int)(l:LL)(n:Nat):qcumN u l (n+1)=qcumN u l n++[[u+qsm l (n+1)]]:=by
 unfold qcumN;rw[List.range_succ,List.map_append];rfl
theorem qcumN_len(u:Int)(l:LL)(n:Nat):(qcumN u l n).length=n:=by simp[qcumN]
theorem qcum_len(u:Int)(l:LL):(qcum u l).length=l.length:=qcumN_len _ _ _
theorem el_qcum{u:Int}{l:LL}{k:Nat}(h:k<l.length):el (qcum u l) k=u+qsm l (k+1):=by
 unfold qcum qcumN el;simp[List.getD_eq_getElem?_getD,h]
theorem qcumP_set{u:Int}{l:LL}{i:Nat}(h:i<l.length):(qcumP u l i).set i [u+qsm l (i+1)]=qcumP u l (i+1):=by
 unfold qcumP;have hl:=qcumN_len u l i;rw[List.set_append_right _ _ (by omega),hl,Nat.sub_self,show l.length-i=(l.length-(i+1))+1 by omega,List.replicate_succ,List.set_cons_zero,qcumN_succ];simp
theorem qcumP_len{u:Int}{l:LL}{i:Nat}(h:i<=l.length):(qcumP u l i).length=l.length:=by simp[qcumP,qcumN];omega
theorem qcumP_all(u:Int)(l:LL):qcumP u l l.length=qcum u l:=by simp[qcumP,qcum]
theorem qcumP_none(u:Int)(l:LL):qcumP u l 0=List.replicate l.length [0]:=by simp[qcumP,qcumN]
theorem hlv_fuel:∀(n m:Nat){k:Int},k<=n->k<=m->hlv n k=hlv m k:=by
 intro n;induction n with
 |zero=>
  intro m k h _;cases m with
  |zero=>rfl
  |succ m=>unfold hlv;rw[if_neg (by omega)]
 |succ n ih=>
  intro m k h1 h2;cases m with
  |zero=>unfold hlv;rw[if_neg (by omega)]
  |succ m=>
   unfold hlv;by_cases hk:0<k
   . rw[if_pos hk,if_pos hk,ih m (by omega) (by omega)]
   . rw[if_neg hk,if_neg hk]
theorem hlv_step{k:Int}(h:0<k):hlv k.toNat k=[k]::hlv (k/2).toNat (k/2):=by
 rw[show k.toNat=(k.toNat-1)+1 by omega,hlv,if_pos h,hlv_fuel (k.toNat-1) (k/2).toNat (by omega) (by omega)]
theorem hlv_end{k:Int}(h:¬0<k):hlv k.toNat k=[]:=by rw[show k.toNat=0 by omega];rfl
theorem hlv_bd:∀(n:Nat){k:Int},k<=65536->∀j,j<(hlv n k).length->1<=el (hlv n k) j/\el (hlv n k) j<=65536:=by
 intro n;induction n with
 |zero=>intro k _ j hj;simp[hlv]at hj
 |succ n ih=>
  intro k hk j hj;unfold hlv at hj⊢;by_cases h0:0<k
  . rw[if_pos h0]at hj⊢;cases j with
    |zero=>exact⟨h0,hk⟩
    |succ j=>exact ih (by omega) j (by simpa using hj)
  . rw[if_neg h0]at hj;simp at hj
theorem hlv_len:∀(n:Nat)(k:Int),(hlv n k).length<=n:=by
 intro n;induction n with
 |zero=>intro k;simp[hlv]
 |succ n ih=>
  intro k;unfold hlv;split
  . have:=ih (k/2);simp;omega
  . simp
theorem ngl_app(a b:LL):ngl (a++b)=ngl a++ngl b:=List.map_append
end U
namespace Go.Proofs.YtoekmphdpepdbaaGreat
open Go Go.HL U
attribute [local irreducible] hfun bodyT fragT
theorem loopQF:∀v Q,(LQF v).wp Q->hloop CQF anQF (nthLoop Tryz.f32 0) v Q:=by
 intro v Q h;unfold LQF at h;split at h;case h_2=>exact h.elim
 rename_i n cap u l len k rows d;obtain⟨⟨h1,h2,h3,h4,h5,h6⟩,hq⟩:=h;subst h1 h2 h3 h4;rw[<-qcumP_none u l];have e0:u=u+qsm l 0:=by simp[qsm]
 refine Eq.mp (by rw[<-e0];rfl) (hloop_rec (C:=CQF) (an:=anQF) (c:=nthLoop Tryz.f32 0) (Q:=Q) (σ:=Nat) (fun i=>([.ce (.msl 1000025 l.length cap), .ce (I6 (u+qsm l i)), .ce (.sl false [4] l), .ce (I6 (l.length:Int)), .ce (I6 (i:Int))],[[.arr [4] (qcumP u l i) d]])) (fun i=>l.length-i) (fun i=>i<=l.length) ?_ 0 (Nat.zero_le _));intro i hi K hn he hr;have b:=qsm_bd h5 i hi;have hl:=h5.1;unfold okU at h6;refine byVB (vbQF (u+qsm l i) l.length i l.length cap d l (qcumP u l i) K) ⟨fun c=> ?_,fun c=> ?_⟩
 . have c:=odt c;have b1:=h5.2 i (by omega);refine⟨by omega,fun x1 e1=> ?_⟩;have e1:x1=el l i:=e1;refine⟨by omega,fun x2 e2=>⟨by omega,by rw[qcumP_len hi];omega,by omega,fun x3 e3=> ?_⟩⟩;have e2':x2=u+qsm l (i+1):=by rw[qsm];omega
   have g:=hn (i+1) (by omega) (by omega);rw[<-qcumP_set (by omega),show((i+1:Nat):Int)=x3 by omega,<-e2']at g;exact g
 . have c:=odf c;obtain rfl:i=l.length:=by omega
   rw[qcumP_all];exact he _ _ hq
theorem sQFut:Sound Tryz.prog 32 SQFut:=by
 refine sound_of (C:=CQF) tabQF Tryz.func32 (by kernel_rfl) (by decide+kernel) (by kernel_rfl) rfl ⟨sQStop,trivial⟩ (loops1 (by kernel_rfl) (loopOK_of (an:=anQF) (S:=LQF) (by kernel_rfl) loopQF)) ?_;intro hargs pars R h;unfold SQFut at h;split at h;case h_2=>exfalso;exact h
 rename_i A J Rp mu mv ma ml mp mb;obtain⟨⟨hp,hu⟩,_,hR⟩:=h;refine byVC (vcQF A J Rp mu mv ma ml mp mb R) ⟨hp,⟨_,rfl⟩,fun x e=> ?_⟩;subst e;have hs:=qsp_spd (v:=mv) (a:=ma) hp;have hl:=hs.1;refine⟨fun g=> ?_,fun g=>⟨by dsimp only;omega,⟨rfl,rfl,rfl,rfl,hs,hu⟩,by rw[qcum_len];rfl,?_⟩⟩
 . have g:qfok A J mv ma=false:=by simpa using g
   exact hR ([],false) (by unfold qfu;rw[show qsp A J mv ma=[]by unfold qsp;rw[g];rfl,g];rfl)
 . have g:qfok A J mv ma=true:=by simpa using g
   exact hR (qcum mu (qsp A J mv ma),true) (by rw[g];rfl)
theorem sQUnit:Sound Tryz.prog 79 SQUnit:=by
 refine sound_of (C:=CQUnit) [] Tryz.func79 (by kernel_rfl) (by decide+kernel) (by kernel_rfl) rfl trivial (loops0 (by kernel_rfl)) ?_;intro hargs pars R h;unfold SQUnit at h;split at h;case h_2=>exfalso;exact h
 rename_i u;obtain⟨hu,hR⟩:=h;have h1:u.tdiv 256=if 0<=u then u/256 else-((-u)/256):=tdiv_ite (by decide);have h2:u.tmod 256=if 0<=u then u%256 else-((-u)%256):=tmod_ite (by decide);refine byVC (vcQUnit u R) ⟨by decide,?_⟩;rw[h1,h2];by_cases h0:0<=u
 . rw[if_pos h0,if_pos h0];refine⟨by omega,fun x1 e1=>⟨by decide,fun x2 e2=>⟨fun g=>by have:=odt g;omega,fun _=> ?_⟩⟩⟩;rw[e1];exact hR
 . rw[if_neg h0,if_neg h0];refine⟨by omega,fun x1 e1=>⟨by decide,fun x2 e2=>⟨fun g=>⟨by omega,fun x3 e3=> ?_⟩,fun g=> ?_⟩⟩⟩
   . have:=odt g;rw[show x3=u/256 by omega];exact hR
   . have:=odf g;rw[show x1=u/256 by omega];exact hR
theorem sQStart:Sound Tryz.prog 20 SQStart:=by
 refine sound_of (C:=CQStart) [] Tryz.func20 (by kernel_rfl) (by decide+kernel) (by kernel_rfl) rfl trivial (loops0 (by kernel_rfl)) ?_;intro hargs pars R h;unfold SQStart at h;split at h;case h_2=>exfalso;exact h
 rename_i u;obtain⟨hu,_,hR⟩:=h;refine byVC (vcQStart u R) ⟨by omega,fun x1 e1=> ?_⟩;rw[e1];exact hR _ rfl
theorem sQMove:Sound Tryz.prog 62 SQMove:=by
 refine sound_of (C:=CQMove) [] Tryz.func62 (by kernel_rfl) (by decide+kernel) (by kernel_rfl) rfl trivial (loops0 (by kernel_rfl)) ?_;intro hargs pars R h;unfold SQMove at h;split at h;case h_2=>exfalso;exact h
 rename_i mu mv ma ml mp mb v;obtain⟨⟨hu,hv,hm⟩,_,hR⟩:=h;unfold okU at hu;refine byVC (vcQMove mu mv ma ml mp mb v R) ⟨by omega,fun x1 e1=>⟨by omega,fun x2 e2=> ?_⟩⟩;rw[e1,e2];exact hR _ rfl
theorem sTgt:Sound Tryz.prog 87 STgt:=by
 refine sound_of (C:=CTgt) [] Tryz.func87 (by kernel_rfl) (by decide+kernel) (by kernel_rfl) rfl trivial (loops0 (by kernel_rfl)) ?_;intro hargs pars R h;unfold STgt at h;split at h;case h_2=>exfalso;exact h
 rename_i fo ro ho so oo A J Rp g0 g1 g2 g3 g4 fd ld;obtain⟨_,hR⟩:=h;unfold tgt scl at hR;refine byVC (vcTgt fo ro ho so oo A J Rp g0 g1 g2 g3 g4 fd ld R) ⟨fun g=> ?_,fun g=>⟨fun c=>fun x1 e1 x2 e2=> ?_,fun c=>⟨fun c2=>⟨fun c3=> ?_,fun c3=>fun x3 e3=>⟨by decide,fun x4 e4 x5 e5 x6 e6=> ?_⟩⟩,fun c2=>⟨fun c3=> ?_,fun c3=>fun x3 e3=>⟨by decide,fun x4 e4 x5 e5 x6 e6=> ?_⟩⟩⟩⟩⟩
 . rw[if_pos g]at hR;exact hR
 . rw[if_neg (by simp[g]),if_pos (by simpa using c)]at hR;rw[e2,e1];exact hR
 . rw[if_neg (by simp[g]),if_neg (by simpa using c),if_pos (by simpa using c2),if_pos (by simpa using c3)]at hR;exact hR
 . rw[if_neg (by simp[g]),if_neg (by simpa using c),if_pos (by simpa using c2),if_neg (by simpa using c3)]at hR;rw[e6,e5,e4,e3];exact hR
 . rw[if_neg (by simp[g]),if_neg (by simpa using c),if_neg (by simpa using c2),if_pos (by simpa using c3)]at hR;exact hR
 . rw[if_neg (by simp[g]),if_neg (by simpa using c),if_neg (by simpa using c2),if_neg (by simpa using c3)]at hR;rw[e6,e5,e4,e3];exact hR
theorem sQTg:Sound Tryz.prog 48 SQTg:=by
 refine sound_of (C:=CQTg) tabQTg Tryz.func48 (by kernel_rfl) (by decide+kernel) (by kernel_rfl) rfl ⟨sQUnit,sPlace,sPFind,sTgt,trivial⟩ (loops0 (by kernel_rfl)) ?_;intro hargs pars R h;unfold SQTg at h;split at h;case h_2=>exfalso;exact h
 rename_i s0 s1 s2 sg mk pk ln sa d0 d1 d2 A J Rp fo ro ho so oo u;obtain⟨⟨⟨hl,ht,hsa⟩,h0,hu⟩,hR⟩:=h;have hc:=clamp_bd (n:=ln) (v:=u/256) ht.2.1.1;have hp:=tplace_bd ht hsa hc;refine byVC (vcQTg s0 s1 s2 ln sa d0 d1 d2 A J Rp fo ro u ho so oo sg mk pk R) ⟨by unfold okU at hu;omega,fun x1 e1=>⟨ht,fun x2 e2=> ?_⟩⟩;subst e1;refine⟨⟨hl,by omega⟩,⟨_,rfl⟩,fun x e=> ?_⟩;have hf:=pfind_spec hl x2;rw[<-e]at hf;refine⟨?_,trivial,fun x4 e4=> ?_⟩
 . rcases hf with hf|⟨j,h1,h2,_⟩
   . omega
   . omega
 . rw[e4,e,e2];exact hR
theorem loopCh0:∀v Q,(LCh0 v).wp Q->hloop CChg anCh0 (nthLoop Tryz.f60 0) v Q:=by
 intro v Q h;unfold LCh0 at h;split at h;case h_2=>exact h.elim
 rename_i l k;obtain⟨⟨h1,h2⟩,hq⟩:=h;obtain rfl:=List.eq_nil_of_length_eq_zero h1;refine hloop_rec (σ:=LL×Int) (fun s=>([.ce (.sl false [4] s.1), .ce (.lit true), .ce (I6 s.2)],[])) (fun s=>s.2.toNat) (fun s=>(0<=s.2/\s.1.length+s.2<=65536)/\hlv k.toNat k=s.1++hlv s.2.toNat s.2) ?_ ([],k) ⟨⟨h2.1,by simpa using h2.2⟩,rfl⟩;rintro⟨y,i⟩⟨⟨i1,i2⟩,i3⟩K hn he _;dsimp only at i1 i2 i3 hn⊢;refine byVB (vbCh0 y i K) ⟨fun g=> ?_,fun g=> ?_⟩
 . have g:=odt g;rw[tdiv_pos i1];refine⟨⟨by omega,by unfold maxLen;omega⟩,by decide,by omega,fun x1 e1=>hn (y++[[i]],x1) ⟨⟨by dsimp only;omega,by simp;omega⟩,?_⟩ (by dsimp only;omega)⟩;dsimp only;rw[i3,hlv_step g,e1];simp
 . have g:=odf g;rw[hlv_end g,List.append_nil]at i3;rw[i3]at hq;exact he _ _ hq
theorem loopCh1:∀v Q,(LCh1 v).wp Q->hloop CChg anCh1 (nthLoop Tryz.f60 1) v Q:=by
 intro v Q h;unfold LCh1 at h;split at h;case h_2=>exact h.elim
 rename_i l y i;obtain⟨⟨h1,h2,h3,h4⟩,hq⟩:=h;subst h1;refine Eq.mp ?_ (hloop_rec (C:=CChg) (an:=anCh1) (c:=nthLoop Tryz.f60 1) (Q:=Q) (σ:=Nat) (fun c=>([.ce (.sl false [4] l), .ce (.sl false [4] (y++ngl (l.drop c).reverse)), .ce (.lit true), .ce (I6 ((c:Int)-1))],[])) (fun c=>c) (fun c=>c<=l.length) ?_ l.length (Nat.le_refl _))
 . rw[List.drop_length];simp[ngl]
 intro c hc K hn he _;refine byVB (vbCh1 l (y++ngl (l.drop c).reverse) ((c:Int)-1) K) ⟨fun g=> ?_,fun g=> ?_⟩
 . have g:=odt g;have b:=h4 (c-1) (by omega);refine⟨by omega,fun x1 e1=> ?_⟩;rw[show((c:Int)-1).toNat=c-1 by omega]at e1;refine⟨by omega,fun x2 e2=>⟨⟨by simp[ngl];omega,by simp[ngl];unfold maxLen;omega⟩,by omega,fun x3 e3=> ?_⟩⟩;have:=hn (c-1) (by omega) (by omega);rw[drop_next l (k:=c-1) (by omega) [],List.reverse_cons,ngl_app,show c-1+1=c by omega,<-List.append_assoc,show(((c-1:Nat):Int)-1)=x3 by omega]at this;rw[show ngl [l.getD (c-1) []]=[[x2]]by unfold ngl;simp;show-(el l (c-1))=x2;omega]at this;exact this
 . have g:=odf g;obtain rfl:c=0:=by omega
   exact he _ _ hq
theorem sChg:Sound Tryz.prog 60 SChg:=by
 refine sound_of (C:=CChg) [] Tryz.func60 (by kernel_rfl) (by decide+kernel) (by kernel_rfl) rfl trivial (loops2 (by kernel_rfl) (loopOK_of (an:=anCh0) (S:=LCh0) (by kernel_rfl) loopCh0) (loopOK_of (an:=anCh1) (S:=LCh1) (by kernel_rfl) loopCh1)) ?_;intro hargs pars R h;unfold SChg at h;split at h;case h_2=>exfalso;exact h
 rename_i j;obtain⟨hj,_,hR⟩:=h;have hl:=hlv_len j.toNat j;have hb:=hlv_bd j.toNat (k:=j) hj.2;refine byVC (vcChg j R) ⟨⟨rfl,hj⟩,⟨by omega,by unfold maxLen;omega⟩,⟨by simp only[List.nil_append];omega,by simp only[List.nil_append];unfold maxLen;omega⟩,by omega,fun x1 e1=>⟨⟨e1,by omega,by simp;omega,fun i hi=>by have:=hb i hi;omega⟩,hR _ rfl⟩⟩
end Go.Proofs.YtoekmphdpepdbaaGreat
namespace U
open Go
def mtr(st og sg:Int)(pt:LL)(bl s:Int)(sgs:LL)(c:Nat)(pk:LL)(sa d:Int)(u:Int):Int:=tmot st og sg pt bl (ptAt s sgs c (tplace pk sa u)) pk d u c
def okT(pk:LL)(ln:Int):Prop:=(pk.length=0->ln=0)/\(0<pk.length->ec pk 0 0=0/\endp pk (pk.length-1)=ln)/\(∀j,j+1<pk.length->ec pk (j+1) 0=endp pk j)/\∀j,j<pk.length->1<=ec pk j 1/\(0<=ec pk j 2/\ec pk j 2<=18014398509481984)/\(-1<=ec pk j 3/\ec pk j 3<=1)
theorem tadd_okT{pk:LL}{ln q0 q1 q2 q3 q4 q5 q6 q7 q8 q9:Int}(h:okT pk ln)(h1:1<=q1)(h2:0<=q2/\q2<=18014398509481984)(h3: -1<=q3/\q3<=1):okT (tadd pk ln [q0,q1,q2,q3,q4,q5,q6,q7,q8,q9]).1 (tadd pk ln [q0,q1,q2,q3,q4,q5,q6,q7,q8,q9]).2:=by
 obtain⟨a1,a2,a3,a4⟩:=h;by_cases hc:0<pk.length/\q3≠0/\ec pk (pk.length-1) 3=q3/\ec pk (pk.length-1) 7=q7/\ec pk (pk.length-1) 8=q8/\ec pk (pk.length-1) 9=q9
 . rw[tadd_more hc];have hp:=hc.1;have es:∀j c,ec (pk.set (pk.length-1) (more (pk.getD (pk.length-1) []) q1)) j c=if pk.length-1=j then(more (pk.getD (pk.length-1) []) q1).getD c 0 else ec pk j c:=fun j c=>ec_set _ _ _ _ _ (by omega);have m0:(more (pk.getD (pk.length-1) []) q1).getD 0 0=ec pk (pk.length-1) 0:=rfl;have m1:(more (pk.getD (pk.length-1) []) q1).getD 1 0=ec pk (pk.length-1) 1+q1:=rfl;have m2:(more (pk.getD (pk.length-1) []) q1).getD 2 0=ec pk (pk.length-1) 2:=rfl;have m3:(more (pk.getD (pk.length-1) []) q1).getD 3 0=ec pk (pk.length-1) 3:=rfl;have b2:=a2 hp;refine⟨fun h=> ?_,fun _=>⟨?_,?_⟩,fun j hj=> ?_,fun j hj=> ?_⟩
   . dsimp only at h;rw[List.length_set]at h;omega
   . dsimp only;rw[es];split
     . rename_i e;rw[m0,e];exact b2.1
     . exact b2.1
   . dsimp only;rw[List.length_set];unfold endp at b2⊢;rw[es,es,if_pos rfl,if_pos rfl,m0,m1];omega
   . dsimp only at hj⊢;rw[List.length_set]at hj;unfold endp;rw[es,es,es,if_neg (show¬pk.length-1=j by omega),if_neg (show¬pk.length-1=j by omega)];have:=a3 j hj;unfold endp at this;split
     . rename_i e;rw[m0,e];exact this
     . exact this
   . dsimp only at hj⊢;rw[List.length_set]at hj;rw[es,es,es];have:=a4 j hj;split
     . rename_i e;subst e;rw[m1,m2,m3];omega
     . exact this
 . rw[tadd_app hc];have es:∀j c,ec (pk++[[ln,q1,q2,q3,q4,q5,q6,q7,q8,q9]]) j c=if j<pk.length then ec pk j c else ec [[ln,q1,q2,q3,q4,q5,q6,q7,q8,q9]] (j-pk.length) c:=fun j c=>ec_app _ _ _ _;refine⟨fun h=> ?_,fun _=>⟨?_,?_⟩,fun j hj=> ?_,fun j hj=> ?_⟩
   . simp at h
   . dsimp only;rw[es];split
     . rename_i e;exact(a2 e).1
     . rename_i e;have e0:pk.length=0:=by omega
       rw[e0];show ln=0;exact a1 e0
   . dsimp only;rw[List.length_append];have e0:pk.length+([[ln,q1,q2,q3,q4,q5,q6,q7,q8,q9]]:LL).length-1=pk.length:=by simp
     rw[e0];unfold endp;rw[es,es,if_neg (by omega),if_neg (by omega),Nat.sub_self];show ln+q1=ln+q1;rfl
   . dsimp only at hj⊢;rw[List.length_append]at hj;have hj:j+1<pk.length+1:=hj;unfold endp;rw[es,es,es,if_pos (show j<pk.length by omega),if_pos (show j<pk.length by omega)];split
     . rename_i e;have:=a3 j e;unfold endp at this;exact this
     . rename_i e;have hjl:j=pk.length-1:=by omega
       have b2:=(a2 (by omega)).2;unfold endp at b2;rw[show j+1-pk.length=0 by omega,hjl,b2];rfl
   . dsimp only at hj⊢;rw[List.length_append]at hj;have hj:j<pk.length+1:=hj;rw[es,es,es];split
     . rename_i e;exact a4 j e
     . rw[show j-pk.length=0 by omega];exact⟨h1,h2,h3⟩
theorem okT_seg{s0 s1 s2:Int}{sg:LL}{b0 b1 b2 f t m:Int}{x:LegS}{i:Int}(hf:0<=f/\f<=18014398509481984)(ht:0<=t/\t<=18014398509481984)(hm:m=1∨m= -1)(h:okT x.pk x.ln):okT (legSeg s0 s1 s2 sg b0 b1 b2 f t m x i).pk (legSeg s0 s1 s2 sg b0 b1 b2 f t m x i).ln:=by
 unfold legSeg;have hlow:0<=legLow x.bg (legE sg m x.bg i) f t:=by unfold legLow;omega
 have hhigh:legHigh x.bg (legE sg m x.bg i) f t<=18014398509481984:=by unfold legHigh;omega
 generalize legLow x.bg (legE sg m x.bg i) f t=low at*;generalize legHigh x.bg (legE sg m x.bg i) f t=high at*;unfold legPut;split
 . rename_i hlh;dsimp only;have hs:0<=legS m low high/\legS m low high<=18014398509481984:=by unfold legS;split<;>omega
   refine tadd_okT ?_ (by omega) hs (by omega);unfold legTk;split
   . exact tadd_okT h (by omega) hs (by omega)
   . exact h
 . exact h
theorem okT_all{s0 s1 s2:Int}{sg:LL}{b0 b1 b2 f t m:Int}{x:LegS}(hf:0<=f/\f<=18014398509481984)(ht:0<=t/\t<=18014398509481984)(hm:m=1∨m= -1)(h:okT x.pk x.ln):∀k,okT (legK s0 s1 s2 sg b0 b1 b2 f t m x k).pk (legK s0 s1 s2 sg b0 b1 b2 f t m x k).ln
 |0=>h
 |k+1=>okT_seg hf ht hm (okT_all hf ht hm h k)
theorem leg_ok{s0 s1 s2:Int}{sg:LL}{b0 b1 b2 d0 d1 d2 f t:Int}(hl:okLen sg)(hb:okB3 b0 b1 b2)(hf:0<=f/\f<=plen sg)(ht:0<=t/\t<=plen sg):okTrk (leg s0 s1 s2 sg b0 b1 b2 d0 d1 d2 f t).pk (leg s0 s1 s2 sg b0 b1 b2 d0 d1 d2 f t).ln:=by
 have hp:=plen_le hl;have hl1:=hl.1;unfold leg;have hm:legM f t=1∨legM f t= -1:=by unfold legM;split<;>omega
 have hbg:(legM f t=1->(if legM f t<0 then plen sg else 0)=plen (sg.take 0))/\(legM f t= -1->(if legM f t<0 then plen sg else 0)=plen (sg.take (sg.length-0))):=by
  refine⟨fun e=> ?_,fun e=> ?_⟩
  . rw[e];rfl
  . rw[e,if_pos (by decide)];simp
 generalize legM f t=m at*;generalize(if m<0 then plen sg else 0)=bg at*;have J:=legJ_all (s0:=s0) (s1:=s1) (s2:=s2) (f:=f) (t:=t) (x:=⟨[],0,d0,d1,d2,bg⟩) hl hb hm ⟨⟨Int.le_refl _,by dsimp only;omega⟩,by simp,fun j hj=>by simp at hj,hbg.1,hbg.2⟩ sg.length (Nat.le_refl _);have T:=okT_all (s0:=s0) (s1:=s1) (s2:=s2) (sg:=sg) (b0:=b0) (b1:=b1) (b2:=b2) (f:=f) (t:=t) (m:=m) (x:=⟨[],0,d0,d1,d2,bg⟩) (by omega) (by omega) hm ⟨fun _=>rfl,fun h=>by simp at h,fun j hj=>by simp at hj,fun j hj=>by simp at hj⟩ sg.length;exact⟨by have:=J.2.1;omega,by have:=J.1;omega,T.1,T.2.1,T.2.2.1,T.2.2.2⟩
theorem at_le{pk:LL}{ln u:Int}(h:okTrk pk ln)(hu:0<=u){j:Nat}(hj:j<pk.length)(hk:∀k,k<j->endp pk k<u):ec pk j 0<=u:=by
 cases j with
 |zero=>have:=(h.2.2.2.1 (by omega)).1;omega
 |succ i=>
  have:=hk i (by omega);have:=h.2.2.2.2.1 i hj;omega
end U
namespace Go.Proofs.YtoekmphdpepdbaaGreat
open Go Go.HL U
attribute [local irreducible] hfun bodyT fragT
theorem mtr_bd{st og sg:Int}{pt:LL}{bl s:Int}{sgs:LL}{c:Nat}{pk:LL}{ln sa d u:Int}(hl:okLen sgs)(h0: -536870912<=s/\s<=536870912)(hp:∀j,j<sgs.length-> -536870912<=ec sgs j c/\ec sgs j c<=536870912)(ht:okTrk pk ln)(hm:okMA st og sg pt bl)(hu:0<=u/\u<=ln): -4398046511104<=mtr st og sg pt bl s sgs c pk sa d u/\mtr st og sg pt bl s sgs c pk sa d u<=4398046511104:=by
 have p:=ptAt_bd hl h0 hp (tplace pk sa u);have q:=motr_bd hm.1.1 hm.2.1 (p:=ptAt s sgs c (tplace pk sa u)) (by omega);unfold mtr tmot;split
 . have:=bsh_bd (d:=d) hm.2.2;omega
 . rcases tfind_spec ht hu.2 with⟨h1,h2⟩|⟨j,h1,h2,h3,h4⟩
   . omega
   . have hj:(tfind pk u).toNat=j:=by omega
     rw[hj];have:=tsh_bd (mv:=ec pk j 3) (w:=ec pk j (4+c)) (d:=ec pk j (7+c)) hm.2.2 (at_le ht hu.1 h1 h4);omega
end Go.Proofs.YtoekmphdpepdbaaGreat
namespace U
open Go
def qmot(M0 M1 M2:Int->Int)(ln:Int)(w:LL):LL:=w.map fun r=>[M0 (clamp ln (r.getD 0 0/256)),M1 (clamp ln (r.getD 0 0/256)),M2 (clamp ln (r.getD 0 0/256))]
def qway(m:QM)(f:LL):LL:=[[m.b],[m.p],[m.l],[m.u]]++f++[[qend m.u f],[qend m.u f]]
def qsafe(A J:Int)(W:LL->Bool)(Mo:LL->LL)(m:QM)(lim:Int):Bool:=qfok A J m.v m.a&&(decide (qend m.u (qfu A J m.u m.v m.a)<=lim*256)&&W (Mo (qway m (qfu A J m.u m.v m.a))))
def qfl(T:Int->Int):Int->LL->Bool
 |_,[]=>true
 |u,r::l=>decide (r.getD 0 0-u<=T (r.getD 0 0))&&qfl T (r.getD 0 0) l
def qfit(A J:Int)(n:Nat)(T:Int->Int)(m:QM):Bool:=qfok A J m.v m.a&&(decide (0<n)&&(decide (m.v<=T m.u)&&qfl T m.u (qfu A J m.u m.v m.a)))
def win(L:LL)(i:Nat):LL:=(L.take i).drop (i-4)
def okA3(sta oga sga:Int)(pta:LL)(bla stb ogb sgb:Int)(ptb:LL)(blb stc ogc sgc:Int)(ptc:LL)(blc:Int):Prop:=okMA sta oga sga pta bla/\okMA stb ogb sgb ptb blb/\okMA stc ogc sgc ptc blc
def okPT(s0 s1 s2:Int)(sg pk:LL)(ln sa:Int):Prop:=okLen sg/\okPts s0 s1 s2 sg/\okTrk pk ln/\(0<=sa/\sa<=18014398509481984)
def okV(u:Int):Prop:= -4900000000000000000<=u/\u<=4900000000000000000
def okL3(spa aca jea spb acb jeb spc acc jec:Int):Prop:=okLi spa aca jea/\okLi spb acb jeb/\okLi spc acc jec
end U
namespace Go.Proofs.YtoekmphdpepdbaaGreat
open Go Go.HL U
def SSmo(hA:List HV)(pA:List (List HC)):SR:=match hA,pA with
 |[.agg [.int .i64 s0, .int .i64 s1, .int .i64 s2, .sl false [4,4,4,4,4,4,4] sg, .sl false [4,4,4] mk], .agg ax, .agg [.sl false [4,4,4,4,4,4,4,4,4,4] pk, .int .i64 ln, .int .i64 sa, .int .i64 d0, .int .i64 d1, .int .i64 d2], .ce (.sl false [4] w)],[]=>match ax with
  |[.int .i64 sta, .int .i64 spa, .int .i64 aca, .int .i64 jea, .int .i64 loa, .int .i64 hia, .int .i64 bla, .int .i64 oga, .int .i64 sga, .sl false [4] pta, .int .i64 stb, .int .i64 spb, .int .i64 acb, .int .i64 jeb, .int .i64 lob, .int .i64 hib, .int .i64 blb, .int .i64 ogb, .int .i64 sgb, .sl false [4] ptb, .int .i64 stc, .int .i64 spc, .int .i64 acc, .int .i64 jec, .int .i64 loc, .int .i64 hic, .int .i64 blc, .int .i64 ogc, .int .i64 sgc, .sl false [4] ptc]=> .det (okPT s0 s1 s2 sg pk ln sa/\okA3 sta oga sga pta bla stb ogb sgb ptb blb stc ogc sgc ptc blc/\okL3 spa aca jea spb acb jeb spc acc jec/\w.length<=8000/\Sm 9000000000000000000 w) ⟨.ce (.bool (wth3 spa aca jea spb acb jeb spc acc jec (qmot (mtr sta oga sga pta bla s0 sg 0 pk sa d0) (mtr stb ogb sgb ptb blb s1 sg 1 pk sa d1) (mtr stc ogc sgc ptc blc s2 sg 2 pk sa d2) ln w))),false,[],[]⟩
  |_=> .fail
 |_,_=> .fail
def anSmo:LAnn:=⟨[4,5,6,8,9,100009,12,13,14],[8],[1000004,1000005,1000006],false⟩
def LSmo(v:LV):LR:=match v with
 |([.ce (.ptr 1000004 0), .ce (.ptr 1000005 0), .ce (.ptr 1000006 0), .ce (.bool y), .ce (.sl false [4,4,4] z), .ce (.lit true), .ce (.sl false [4] w), .ce (.int .i64 len), .ce (.int .i64 k)],[[.int .i64 s0, .int .i64 s1, .int .i64 s2, .sl false [4,4,4,4,4,4,4] sg, .sl false [4,4,4] mk],ax,tr])=>match ax with
  |[.int .i64 sta, .int .i64 spa, .int .i64 aca, .int .i64 jea, .int .i64 loa, .int .i64 hia, .int .i64 bla, .int .i64 oga, .int .i64 sga, .sl false [4] pta, .int .i64 stb, .int .i64 spb, .int .i64 acb, .int .i64 jeb, .int .i64 lob, .int .i64 hib, .int .i64 blb, .int .i64 ogb, .int .i64 sgb, .sl false [4] ptb, .int .i64 stc, .int .i64 spc, .int .i64 acc, .int .i64 jec, .int .i64 loc, .int .i64 hic, .int .i64 blc, .int .i64 ogc, .int .i64 sgc, .sl false [4] ptc]=>match tr with
   |[.sl false [4,4,4,4,4,4,4,4,4,4] pk, .int .i64 ln, .int .i64 sa, .int .i64 d0, .int .i64 d1, .int .i64 d2]=> .alts (z.length=0/\len=w.length/\k=0/\okPT s0 s1 s2 sg pk ln sa/\okA3 sta oga sga pta bla stb ogb sgb ptb blb stc ogc sgc ptc blc/\okL3 spa aca jea spb acb jeb spc acc jec/\w.length<=8000/\Sm 9000000000000000000 w) [(wth3 spa aca jea spb acb jeb spc acc jec (qmot (mtr sta oga sga pta bla s0 sg 0 pk sa d0) (mtr stb ogb sgb ptb blb s1 sg 1 pk sa d1) (mtr stc ogc sgc ptc blc s2 sg 2 pk sa d2) ln w)=true, .exit 0,([.ce (.bool y)],[[I6 s0,I6 s1,I6 s2, .sl false [4,4,4,4,4,4,4] sg, .sl false [4,4,4] mk],[I6 sta,I6 spa,I6 aca,I6 jea,I6 loa,I6 hia,I6 bla,I6 oga,I6 sga, .sl false [4] pta,I6 stb,I6 spb,I6 acb,I6 jeb,I6 lob,I6 hib,I6 blb,I6 ogb,I6 sgb, .sl false [4] ptb,I6 stc,I6 spc,I6 acc,I6 jec,I6 loc,I6 hic,I6 blc,I6 ogc,I6 sgc, .sl false [4] ptc],[.sl false [4,4,4,4,4,4,4,4,4,4] pk,I6 ln,I6 sa,I6 d0,I6 d1,I6 d2]])),(wth3 spa aca jea spb acb jeb spc acc jec (qmot (mtr sta oga sga pta bla s0 sg 0 pk sa d0) (mtr stb ogb sgb ptb blb s1 sg 1 pk sa d1) (mtr stc ogc sgc ptc blc s2 sg 2 pk sa d2) ln w)=false, .ret,([.ce (.bool false)],[[I6 s0,I6 s1,I6 s2, .sl false [4,4,4,4,4,4,4] sg, .sl false [4,4,4] mk],[I6 sta,I6 spa,I6 aca,I6 jea,I6 loa,I6 hia,I6 bla,I6 oga,I6 sga, .sl false [4] pta,I6 stb,I6 spb,I6 acb,I6 jeb,I6 lob,I6 hib,I6 blb,I6 ogb,I6 sgb, .sl false [4] ptb,I6 stc,I6 spc,I6 acc,I6 jec,I6 loc,I6 hic,I6 blc,I6 ogc,I6 sgc, .sl false [4] ptc],[.sl false [4,4,4,4,4,4,4,4,4,4] pk,I6 ln,I6 sa,I6 d0,I6 d1,I6 d2]]))]
   |_=> .fail
  |_=> .fail
 |_=> .fail
def tabSmo:List (FuncId×HL.Spec):=[(79,SQUnit),(54,SMotors),(26,SAll)]
noncomputable def CSmo:Ctx:=⟨Tryz.prog,gam tabSmo,Tryz.f42.ntmps,[(3,anSmo,LSmo)],[]⟩
theorem vbSmo(s0 s1 s2 len k ln sa d0 d1 d2:Int)(y:Bool)(sg mk pk z w:LL)(sta spa aca jea loa hia bla oga sga stb spb acb jeb lob hib blb ogb sgb stc spc acc jec loc hic blc ogc sgc:Int)(pta ptb ptc:LL)(K:HEx->LV->Prop):(nbodyT true CSmo anSmo (nthLoop Tryz.f42 0) (([.ce (.ptr 1000004 0), .ce (.ptr 1000005 0), .ce (.ptr 1000006 0), .ce (.bool y), .ce (.sl false [4,4,4] z), .ce (.lit true), .ce (.sl false [4] w), .ce (I6 len), .ce (I6 k)],[[I6 s0,I6 s1,I6 s2, .sl false [4,4,4,4,4,4,4] sg, .sl false [4,4,4] mk],[I6 sta,I6 spa,I6 aca,I6 jea,I6 loa,I6 hia,I6 bla,I6 oga,I6 sga, .sl false [4] pta,I6 stb,I6 spb,I6 acb,I6 jeb,I6 lob,I6 hib,I6 blb,I6 ogb,I6 sgb, .sl false [4] ptb,I6 stc,I6 spc,I6 acc,I6 jec,I6 loc,I6 hic,I6 blc,I6 ogc,I6 sgc, .sl false [4] ptc],[.sl false [4,4,4,4,4,4,4,4,4,4] pk,I6 ln,I6 sa,I6 d0,I6 d1,I6 d2]])) K)=(Br (k<len) ((0<=k/\k<(w.length:Int))/\∀x1,x1=el w k.toNat->R6 x1/\∀x2,x2=x1/256->(okLen sg/\okPts s0 s1 s2 sg/\okTrk pk ln/\okMA sta oga sga pta bla/\okMA stb ogb sgb ptb blb/\okMA stc ogc sgc ptc blc/\0<=sa/\sa<=18014398509481984)/\∀x3,x3=tmot sta oga sga pta bla (ptAt s0 sg (0:Nat) (tplace pk sa (clamp ln x2))) pk d0 (clamp ln x2) (0:Nat)->∀x4,x4=tmot stb ogb sgb ptb blb (ptAt s1 sg (1:Nat) (tplace pk sa (clamp ln x2))) pk d1 (clamp ln x2) (1:Nat)->∀x5,x5=tmot stc ogc sgc ptc blc (ptAt s2 sg (2:Nat) (tplace pk sa (clamp ln x2))) pk d2 (clamp ln x2) (2:Nat)->((z.length+1)*24<=140737488355328/\z.length+1<=maxLen)/\Br ((((List.length (z++[[x3,x4,x5]])):Nat):Int)>4) (((0:Int)<=1/\(1:Int)<=(((List.length (z++[[x3,x4,x5]])):Nat):Int))/\(List.length (List.drop (1:Nat) (z++[[x3,x4,x5]]))<=8192/\Sm3 (1125899906842624:Int) (List.drop (1:Nat) (z++[[x3,x4,x5]]))/\okLi spa aca jea/\okLi spb acb jeb/\okLi spc acc jec)/\∀(x6:Bool),x6=wth3 spa aca jea spb acb jeb spc acc jec (List.drop (1:Nat) (z++[[x3,x4,x5]]))->Bb (!x6) (K .ret ([.ce (.bool false)],[[I6 s0,I6 s1,I6 s2, .sl false [4,4,4,4,4,4,4] sg, .sl false [4,4,4] mk],[I6 sta,I6 spa,I6 aca,I6 jea,I6 loa,I6 hia,I6 bla,I6 oga,I6 sga, .sl false [4] pta,I6 stb,I6 spb,I6 acb,I6 jeb,I6 lob,I6 hib,I6 blb,I6 ogb,I6 sgb, .sl false [4] ptb,I6 stc,I6 spc,I6 acc,I6 jec,I6 loc,I6 hic,I6 blc,I6 ogc,I6 sgc, .sl false [4] ptc],[.sl false [4,4,4,4,4,4,4,4,4,4] pk,I6 ln,I6 sa,I6 d0,I6 d1,I6 d2]])) (R6 (k+1)/\∀x7,x7=k+1->K .normal ([.ce (.ptr 1000004 0), .ce (.ptr 1000005 0), .ce (.ptr 1000006 0), .ce (.bool y), .ce (.sl false [4,4,4] (List.drop (1:Nat) (z++[[x3,x4,x5]]))), .ce (.lit true), .ce (.sl false [4] w), .ce (I6 len), .ce (I6 x7)],[[I6 s0,I6 s1,I6 s2, .sl false [4,4,4,4,4,4,4] sg, .sl false [4,4,4] mk],[I6 sta,I6 spa,I6 aca,I6 jea,I6 loa,I6 hia,I6 bla,I6 oga,I6 sga, .sl false [4] pta,I6 stb,I6 spb,I6 acb,I6 jeb,I6 lob,I6 hib,I6 blb,I6 ogb,I6 sgb, .sl false [4] ptb,I6 stc,I6 spc,I6 acc,I6 jec,I6 loc,I6 hic,I6 blc,I6 ogc,I6 sgc, .sl false [4] ptc],[.sl false [4,4,4,4,4,4,4,4,4,4] pk,I6 ln,I6 sa,I6 d0,I6 d1,I6 d2]]))) ((List.length (z++[[x3,x4,x5]])<=8192/\Sm3 (1125899906842624:Int) (z++[[x3,x4,x5]])/\okLi spa aca jea/\okLi spb acb jeb/\okLi spc acc jec)/\∀(x8:Bool),x8=wth3 spa aca jea spb acb jeb spc acc jec (z++[[x3,x4,x5]])->Bb (!x8) (K .ret ([.ce (.bool false)],[[I6 s0,I6 s1,I6 s2, .sl false [4,4,4,4,4,4,4] sg, .sl false [4,4,4] mk],[I6 sta,I6 spa,I6 aca,I6 jea,I6 loa,I6 hia,I6 bla,I6 oga,I6 sga, .sl false [4] pta,I6 stb,I6 spb,I6 acb,I6 jeb,I6 lob,I6 hib,I6 blb,I6 ogb,I6 sgb, .sl false [4] ptb,I6 stc,I6 spc,I6 acc,I6 jec,I6 loc,I6 hic,I6 blc,I6 ogc,I6 sgc, .sl false [4] ptc],[.sl false [4,4,4,4,4,4,4,4,4,4] pk,I6 ln,I6 sa,I6 d0,I6 d1,I6 d2]])) (R6 (k+1)/\∀x9,x9=k+1->K .normal ([.ce (.ptr 1000004 0), .ce (.ptr 1000005 0), .ce (.ptr 1000006 0), .ce (.bool y), .ce (.sl false [4,4,4] (z++[[x3,x4,x5]])), .ce (.lit true), .ce (.sl false [4] w), .ce (I6 len), .ce (I6 x9)],[[I6 s0,I6 s1,I6 s2, .sl false [4,4,4,4,4,4,4] sg, .sl false [4,4,4] mk],[I6 sta,I6 spa,I6 aca,I6 jea,I6 loa,I6 hia,I6 bla,I6 oga,I6 sga, .sl false [4] pta,I6 stb,I6 spb,I6 acb,I6 jeb,I6 lob,I6 hib,I6 blb,I6 ogb,I6 sgb, .sl false [4] ptb,I6 stc,I6 spc,I6 acc,I6 jec,I6 loc,I6 hic,I6 blc,I6 ogc,I6 sgc, .sl false [4] ptc],[.sl false [4,4,4,4,4,4,4,4,4,4] pk,I6 ln,I6 sa,I6 d0,I6 d1,I6 d2]])))) (K (.exit 0) ([.ce (.bool y)],[[I6 s0,I6 s1,I6 s2, .sl false [4,4,4,4,4,4,4] sg, .sl false [4,4,4] mk],[I6 sta,I6 spa,I6 aca,I6 jea,I6 loa,I6 hia,I6 bla,I6 oga,I6 sga, .sl false [4] pta,I6 stb,I6 spb,I6 acb,I6 jeb,I6 lob,I6 hib,I6 blb,I6 ogb,I6 sgb, .sl false [4] ptb,I6 stc,I6 spc,I6 acc,I6 jec,I6 loc,I6 hic,I6 blc,I6 ogc,I6 sgc, .sl false [4] ptc],[.sl false [4,4,4,4,4,4,4,4,4,4] pk,I6 ln,I6 sa,I6 d0,I6 d1,I6 d2]]))):=by kernel_rfl
theorem vcSmo(s0 s1 s2 ln sa d0 d1 d2:Int)(sg mk pk w:LL)(sta spa aca jea loa hia bla oga sga stb spb acb jeb lob hib blb ogb sgb stc spc acc jec loc hic blc ogc sgc:Int)(pta ptb ptc:LL)(Q:Res->Prop):(nfun true CSmo Tryz.f42 (bodyOf Tryz.f42) [.agg [I6 s0,I6 s1,I6 s2, .sl false [4,4,4,4,4,4,4] sg, .sl false [4,4,4] mk], .agg [I6 sta,I6 spa,I6 aca,I6 jea,I6 loa,I6 hia,I6 bla,I6 oga,I6 sga, .sl false [4] pta,I6 stb,I6 spb,I6 acb,I6 jeb,I6 lob,I6 hib,I6 blb,I6 ogb,I6 sgb, .sl false [4] ptb,I6 stc,I6 spc,I6 acc,I6 jec,I6 loc,I6 hic,I6 blc,I6 ogc,I6 sgc, .sl false [4] ptc], .agg [.sl false [4,4,4,4,4,4,4,4,4,4] pk,I6 ln,I6 sa,I6 d0,I6 d1,I6 d2], .ce (.sl false [4] w)] [] Q)=(((0:Nat)=0/\(w.length:Int)=(w.length:Int)/\(0:Int)=0/\okPT s0 s1 s2 sg pk ln sa/\okA3 sta oga sga pta bla stb ogb sgb ptb blb stc ogc sgc ptc blc/\okL3 spa aca jea spb acb jeb spc acc jec/\w.length<=8000/\Sm (9000000000000000000:Int) w)/\Bb (wth3 spa aca jea spb acb jeb spc acc jec (qmot (mtr sta oga sga pta bla s0 sg (0:Nat) pk sa d0) (mtr stb ogb sgb ptb blb s1 sg (1:Nat) pk sa d1) (mtr stc ogc sgc ptc blc s2 sg (2:Nat) pk sa d2) ln w)) (Q ⟨.ce (.bool true),false,[],[]⟩) (Q ⟨.ce (.bool false),false,[],[]⟩)):=by kernel_rfl
def SSafe(hA:List HV)(pA:List (List HC)):SR:=match hA,pA with
 |[.agg [.int .i64 s0, .int .i64 s1, .int .i64 s2, .sl false [4,4,4,4,4,4,4] sg, .sl false [4,4,4] mk], .agg ax, .agg [.sl false [4,4,4,4,4,4,4,4,4,4] pk, .int .i64 ln, .int .i64 sa, .int .i64 d0, .int .i64 d1, .int .i64 d2], .agg [.int .i64 A, .int .i64 J, .int .i64 R], .agg [.int .i64 mu, .int .i64 mv, .int .i64 ma, .int .i64 ml, .int .i64 mp, .int .i64 mb], .ce (.int .i64 lim)],[]=>match ax with
  |[.int .i64 sta, .int .i64 spa, .int .i64 aca, .int .i64 jea, .int .i64 loa, .int .i64 hia, .int .i64 bla, .int .i64 oga, .int .i64 sga, .sl false [4] pta, .int .i64 stb, .int .i64 spb, .int .i64 acb, .int .i64 jeb, .int .i64 lob, .int .i64 hib, .int .i64 blb, .int .i64 ogb, .int .i64 sgb, .sl false [4] ptb, .int .i64 stc, .int .i64 spc, .int .i64 acc, .int .i64 jec, .int .i64 loc, .int .i64 hic, .int .i64 blc, .int .i64 ogc, .int .i64 sgc, .sl false [4] ptc]=> .det ((okPT s0 s1 s2 sg pk ln sa/\okA3 sta oga sga pta bla stb ogb sgb ptb blb stc ogc sgc ptc blc/\okL3 spa aca jea spb acb jeb spc acc jec)/\okPl A J R/\(okU mu/\okU ml/\okU mp/\okU mb)/\(0<=lim/\lim<=18014398509481984)) ⟨.ce (.bool (qsafe A J (wth3 spa aca jea spb acb jeb spc acc jec) (qmot (mtr sta oga sga pta bla s0 sg 0 pk sa d0) (mtr stb ogb sgb ptb blb s1 sg 1 pk sa d1) (mtr stc ogc sgc ptc blc s2 sg 2 pk sa d2) ln) ⟨mu,mv,ma,ml,mp,mb⟩ lim)),false,[],[]⟩
  |_=> .fail
 |_,_=> .fail
def tabSafe:List (FuncId×HL.Spec):=[(32,SQFut),(42,SSmo)]
noncomputable def CSafe:Ctx:=⟨Tryz.prog,gam tabSafe,Tryz.f16.ntmps,[],[]⟩
theorem vcSafe(s0 s1 s2 ln sa d0 d1 d2 A J R mu mv ma ml mp mb lim:Int)(sg mk pk:LL)(sta spa aca jea loa hia bla oga sga stb spb acb jeb lob hib blb ogb sgb stc spc acc jec loc hic blc ogc sgc:Int)(pta ptb ptc:LL)(Q:Res->Prop):(nfun true CSafe Tryz.f16 (bodyOf Tryz.f16) [.agg [I6 s0,I6 s1,I6 s2, .sl false [4,4,4,4,4,4,4] sg, .sl false [4,4,4] mk], .agg [I6 sta,I6 spa,I6 aca,I6 jea,I6 loa,I6 hia,I6 bla,I6 oga,I6 sga, .sl false [4] pta,I6 stb,I6 spb,I6 acb,I6 jeb,I6 lob,I6 hib,I6 blb,I6 ogb,I6 sgb, .sl false [4] ptb,I6 stc,I6 spc,I6 acc,I6 jec,I6 loc,I6 hic,I6 blc,I6 ogc,I6 sgc, .sl false [4] ptc], .agg [.sl false [4,4,4,4,4,4,4,4,4,4] pk,I6 ln,I6 sa,I6 d0,I6 d1,I6 d2], .agg [I6 A,I6 J,I6 R], .agg [I6 mu,I6 mv,I6 ma,I6 ml,I6 mp,I6 mb], .ce (I6 lim)] [] Q)=((okPl A J R/\okU mu)/\(∃(x:LL×Bool),x=(qfu A J mu mv ma,qfok A J mv ma))/\∀(x:LL×Bool),x=(qfu A J mu mv ma,qfok A J mv ma)->Bb (!x.2) (Q ⟨.ce (.bool false),false,[],[]⟩) (Br ((List.length x.1:Int)>0) (R6 ((List.length x.1:Int)-1)/\∀x2,x2=(List.length x.1:Int)-1->(0<=x2/\x2<(List.length x.1:Int))/\∀x3,x3=el x.1 x2.toNat->R6 (lim*256)/\∀x4,x4=lim*256->Br (x3>x4) (Q ⟨.ce (.bool false),false,[],[]⟩) ((((4:Nat)+List.length x.1)*8<=140737488355328/\(4:Nat)+List.length x.1<=maxLen)/\((List.length ([[mb],[mp],[ml],[mu]]++x.1)+2)*8<=140737488355328/\List.length ([[mb],[mp],[ml],[mu]]++x.1)+2<=maxLen)/\(okPT s0 s1 s2 sg pk ln sa/\okA3 sta oga sga pta bla stb ogb sgb ptb blb stc ogc sgc ptc blc/\okL3 spa aca jea spb acb jeb spc acc jec/\List.length ([[mb],[mp],[ml],[mu]]++x.1++[[x3],[x3]])<=8000/\Sm (9000000000000000000:Int) ([[mb],[mp],[ml],[mu]]++x.1++[[x3],[x3]]))/\∀(x5:Bool),x5=wth3 spa aca jea spb acb jeb spc acc jec (qmot (mtr sta oga sga pta bla s0 sg (0:Nat) pk sa d0) (mtr stb ogb sgb ptb blb s1 sg (1:Nat) pk sa d1) (mtr stc ogc sgc ptc blc s2 sg (2:Nat) pk sa d2) ln ([[mb],[mp],[ml],[mu]]++x.1++[[x3],[x3]]))->Q ⟨.ce (.bool x5),false,[],[]⟩)) (R6 (lim*256)/\∀x6,x6=lim*256->Br (mu>x6) (Q ⟨.ce (.bool false),false,[],[]⟩) ((((4:Nat)+List.length x.1)*8<=140737488355328/\(4:Nat)+List.length x.1<=maxLen)/\((List.length ([[mb],[mp],[ml],[mu]]++x.1)+2)*8<=140737488355328/\List.length ([[mb],[mp],[ml],[mu]]++x.1)+2<=maxLen)/\(okPT s0 s1 s2 sg pk ln sa/\okA3 sta oga sga pta bla stb ogb sgb ptb blb stc ogc sgc ptc blc/\okL3 spa aca jea spb acb jeb spc acc jec/\List.length ([[mb],[mp],[ml],[mu]]++x.1++[[mu],[mu]])<=8000/\Sm (9000000000000000000:Int) ([[mb],[mp],[ml],[mu]]++x.1++[[mu],[mu]]))/\∀(x7:Bool),x7=wth3 spa aca jea spb acb jeb spc acc jec (qmot (mtr sta oga sga pta bla s0 sg (0:Nat) pk sa d0) (mtr stb ogb sgb ptb blb s1 sg (1:Nat) pk sa d1) (mtr stc ogc sgc ptc blc s2 sg (2:Nat) pk sa d2) ln ([[mb],[mp],[ml],[mu]]++x.1++[[mu],[mu]]))->Q ⟨.ce (.bool x7),false,[],[]⟩)))):=by kernel_rfl
def SFit(hA:List HV)(pA:List (List HC)):SR:=match hA,pA with
 |[.agg [.int .i64 s0, .int .i64 s1, .int .i64 s2, .sl false [4,4,4,4,4,4,4] sg, .sl false [4,4,4] mk], .agg [.sl false [4,4,4,4,4,4,4,4,4,4] pk, .int .i64 ln, .int .i64 sa, .int .i64 d0, .int .i64 d1, .int .i64 d2], .agg [.int .i64 A, .int .i64 J, .int .i64 R], .agg [.int .i64 fo, .int .i64 ro, .bool ho, .bool so, .bool oo], .agg [.int .i64 mu, .int .i64 mv, .int .i64 ma, .int .i64 ml, .int .i64 mp, .int .i64 mb]],[]=> .det ((okLen sg/\okTrk pk ln/\(0<=sa/\sa<=18014398509481984))/\okPl A J R/\okV mu) ⟨.ce (.bool (qfit A J sg.length (qtg ho fo ro R sg pk sa ln) ⟨mu,mv,ma,ml,mp,mb⟩)),false,[],[]⟩
 |_,_=> .fail
def anFit:LAnn:=⟨[5,6,7,8,10,13,44,45,46],[10],[1000005,1000006,1000007,1000008],false⟩
def LFit(v:LV):LR:=match v with
 |([.ce (.ptr 1000005 0), .ce (.ptr 1000006 0), .ce (.ptr 1000007 0), .ce (.ptr 1000008 0), .ce (.bool y), .ce (.int .i64 u), .ce (.sl false [4] l), .ce (.int .i64 len), .ce (.int .i64 k)],[[.int .i64 s0, .int .i64 s1, .int .i64 s2, .sl false [4,4,4,4,4,4,4] sg, .sl false [4,4,4] mk],[.sl false [4,4,4,4,4,4,4,4,4,4] pk, .int .i64 ln, .int .i64 sa, .int .i64 d0, .int .i64 d1, .int .i64 d2],[.int .i64 A, .int .i64 J, .int .i64 R],[.int .i64 fo, .int .i64 ro, .bool ho, .bool so, .bool oo]])=> .alts (len=l.length/\k=0/\(okLen sg/\okTrk pk ln/\(0<=sa/\sa<=18014398509481984))/\0<sg.length/\∃s,l=qcum u s/\okSpd s/\okV u) [(qfl (qtg ho fo ro R sg pk sa ln) u l=true, .exit 0,([.ce (.bool y)],[[I6 s0,I6 s1,I6 s2, .sl false [4,4,4,4,4,4,4] sg, .sl false [4,4,4] mk],[.sl false [4,4,4,4,4,4,4,4,4,4] pk,I6 ln,I6 sa,I6 d0,I6 d1,I6 d2],[I6 A,I6 J,I6 R],[I6 fo,I6 ro, .bool ho, .bool so, .bool oo]])),(qfl (qtg ho fo ro R sg pk sa ln) u l=false, .ret,([.ce (.bool false)],[[I6 s0,I6 s1,I6 s2, .sl false [4,4,4,4,4,4,4] sg, .sl false [4,4,4] mk],[.sl false [4,4,4,4,4,4,4,4,4,4] pk,I6 ln,I6 sa,I6 d0,I6 d1,I6 d2],[I6 A,I6 J,I6 R],[I6 fo,I6 ro, .bool ho, .bool so, .bool oo]]))]
 |_=> .fail
def tabFit:List (FuncId×HL.Spec):=[(32,SQFut),(48,SQTg)]
noncomputable def CFit:Ctx:=⟨Tryz.prog,gam tabFit,Tryz.f18.ntmps,[(6,anFit,LFit)],[]⟩
theorem vbFit(s0 s1 s2 ln sa d0 d1 d2 A J R fo ro u len k:Int)(ho so oo y:Bool)(sg mk pk l:LL)(K:HEx->LV->Prop):(nbodyT true CFit anFit (nthLoop Tryz.f18 0) (([.ce (.ptr 1000005 0), .ce (.ptr 1000006 0), .ce (.ptr 1000007 0), .ce (.ptr 1000008 0), .ce (.bool y), .ce (I6 u), .ce (.sl false [4] l), .ce (I6 len), .ce (I6 k)],[[I6 s0,I6 s1,I6 s2, .sl false [4,4,4,4,4,4,4] sg, .sl false [4,4,4] mk],[.sl false [4,4,4,4,4,4,4,4,4,4] pk,I6 ln,I6 sa,I6 d0,I6 d1,I6 d2],[I6 A,I6 J,I6 R],[I6 fo,I6 ro, .bool ho, .bool so, .bool oo]])) K)=(Br (k<len) ((0<=k/\k<(l.length:Int))/\∀x1,x1=el l k.toNat->R6 (x1-u)/\∀x2,x2=x1-u->((okLen sg/\okTrk pk ln/\0<=sa/\sa<=18014398509481984)/\(0:Nat)<sg.length/\okU x1)/\∀x3,x3=qtg ho fo ro R sg pk sa ln x1->Br (x2>x3) (K .ret ([.ce (.bool false)],[[I6 s0,I6 s1,I6 s2, .sl false [4,4,4,4,4,4,4] sg, .sl false [4,4,4] mk],[.sl false [4,4,4,4,4,4,4,4,4,4] pk,I6 ln,I6 sa,I6 d0,I6 d1,I6 d2],[I6 A,I6 J,I6 R],[I6 fo,I6 ro, .bool ho, .bool so, .bool oo]])) (R6 (k+1)/\∀x4,x4=k+1->K .normal ([.ce (.ptr 1000005 0), .ce (.ptr 1000006 0), .ce (.ptr 1000007 0), .ce (.ptr 1000008 0), .ce (.bool y), .ce (I6 x1), .ce (.sl false [4] l), .ce (I6 len), .ce (I6 x4)],[[I6 s0,I6 s1,I6 s2, .sl false [4,4,4,4,4,4,4] sg, .sl false [4,4,4] mk],[.sl false [4,4,4,4,4,4,4,4,4,4] pk,I6 ln,I6 sa,I6 d0,I6 d1,I6 d2],[I6 A,I6 J,I6 R],[I6 fo,I6 ro, .bool ho, .bool so, .bool oo]]))) (K (.exit 0) ([.ce (.bool y)],[[I6 s0,I6 s1,I6 s2, .sl false [4,4,4,4,4,4,4] sg, .sl false [4,4,4] mk],[.sl false [4,4,4,4,4,4,4,4,4,4] pk,I6 ln,I6 sa,I6 d0,I6 d1,I6 d2],[I6 A,I6 J,I6 R],[I6 fo,I6 ro, .bool ho, .bool so, .bool oo]]))):=by kernel_rfl
theorem vcFit(s0 s1 s2 ln sa d0 d1 d2 A J R fo ro mu mv ma ml mp mb:Int)(ho so oo:Bool)(sg mk pk:LL)(Q:Res->Prop):(nfun true CFit Tryz.f18 (bodyOf Tryz.f18) [.agg [I6 s0,I6 s1,I6 s2, .sl false [4,4,4,4,4,4,4] sg, .sl false [4,4,4] mk], .agg [.sl false [4,4,4,4,4,4,4,4,4,4] pk,I6 ln,I6 sa,I6 d0,I6 d1,I6 d2], .agg [I6 A,I6 J,I6 R], .agg [I6 fo,I6 ro, .bool ho, .bool so, .bool oo], .agg [I6 mu,I6 mv,I6 ma,I6 ml,I6 mp,I6 mb]] [] Q)=((okPl A J R/\okU mu)/\(∃(x:LL×Bool),x=(qfu A J mu mv ma,qfok A J mv ma))/\∀(x:LL×Bool),x=(qfu A J mu mv ma,qfok A J mv ma)->Bb (!x.2) (Q ⟨.ce (.bool false),false,[],[]⟩) (Bb ((sg.length:Int)==0) (Q ⟨.ce (.bool false),false,[],[]⟩) (((okLen sg/\okTrk pk ln/\0<=sa/\sa<=18014398509481984)/\(0:Nat)<sg.length/\okU mu)/\∀x2,x2=qtg ho fo ro R sg pk sa ln mu->Br (mv>x2) (Q ⟨.ce (.bool false),false,[],[]⟩) (((List.length x.1:Int)=(List.length x.1:Int)/\(0:Int)=0/\(okLen sg/\okTrk pk ln/\0<=sa/\sa<=18014398509481984)/\(0:Nat)<sg.length/\∃(s:LL),x.1=qcum mu s/\okSpd s/\okV mu)/\Bb (qfl (qtg ho fo ro R sg pk sa ln) mu x.1) (Q ⟨.ce (.bool true),false,[],[]⟩) (Q ⟨.ce (.bool false),false,[],[]⟩))))):=by kernel_rfl
end Go.Proofs.YtoekmphdpepdbaaGreat
namespace U
def Lm(sp ac je:Int)(f:Nat->Int)(n:Nat):Prop:=(∀j,j+1<n-> -sp<=f (j+1)-f j/\f (j+1)-f j<=sp)/\(∀j,j+2<n-> -ac<=f (j+2)-2*f (j+1)+f j/\f (j+2)-2*f (j+1)+f j<=ac)/\(∀j,j+3<n-> -je<=f (j+3)-3*f (j+2)+3*f (j+1)-f j/\f (j+3)-3*f (j+2)+3*f (j+1)-f j<=je)
theorem bdd_iff{l:LL}{m:Int}:bdd l m=true↔∀j,j<l.length-> -m<=el l j/\el l j<=m:=by
 unfold bdd bdN;rw[allN_iff];simp only[decide_eq_true_iff]
theorem wth_iff{sp ac je:Int}{l:LL}:wth sp ac je l=true↔Lm sp ac je (el l) l.length:=by
 have e2:∀j,j+2<l.length->el (dfl (dfl l)) j=el l (j+2)-2*el l (j+1)+el l j:=fun j h=>by
  rw[el_dfl (by rw[dfl_len];omega),el_dfl (by omega),el_dfl (by omega),show j+1+1=j+2 from rfl];omega
 have e3:∀j,j+3<l.length->el (dfl (dfl (dfl l))) j=el l (j+3)-3*el l (j+2)+3*el l (j+1)-el l j:=fun j h=>by
  rw[el_dfl (by rw[dfl_len,dfl_len];omega),e2 (j+1) (by omega),e2 j (by omega),show j+1+2=j+3 from rfl,show j+1+1=j+2 from rfl];omega
 unfold wth;rw[Bool.and_eq_true,Bool.and_eq_true,bdd_iff,bdd_iff,bdd_iff];simp only[dfl_len];refine⟨fun⟨a,b,c⟩=>⟨fun j h=> ?_,fun j h=> ?_,fun j h=> ?_⟩,fun⟨a,b,c⟩=>⟨fun j h=> ?_,fun j h=> ?_,fun j h=> ?_⟩⟩
 . have:=a j (by omega);rwa[el_dfl h]at this
 . have:=b j (by omega);rwa[e2 j h]at this
 . have:=c j (by omega);rwa[e3 j h]at this
 . rw[el_dfl (by omega)];exact a j (by omega)
 . rw[e2 j (by omega)];exact b j (by omega)
 . rw[e3 j (by omega)];exact c j (by omega)
theorem Lm_congr{sp ac je:Int}{f g:Nat->Int}{n:Nat}(h:∀j,j<n->f j=g j)(hf:Lm sp ac je f n):Lm sp ac je g n:=by
 obtain⟨a,b,c⟩:=hf;refine⟨fun j hj=> ?_,fun j hj=> ?_,fun j hj=> ?_⟩
 . rw[<-h j (by omega),<-h (j+1) (by omega)];exact a j hj
 . rw[<-h j (by omega),<-h (j+1) (by omega),<-h (j+2) (by omega)];exact b j hj
 . rw[<-h j (by omega),<-h (j+1) (by omega),<-h (j+2) (by omega),<-h (j+3) (by omega)];exact c j hj
theorem wth3_iff{s0 a0 j0 s1 a1 j1 s2 a2 j2:Int}{l:LL}:wth3 s0 a0 j0 s1 a1 j1 s2 a2 j2 l=true↔Lm s0 a0 j0 (fun j=>ec l j 0) l.length/\Lm s1 a1 j1 (fun j=>ec l j 1) l.length/\Lm s2 a2 j2 (fun j=>ec l j 2) l.length:=by
 have k:∀(s a j:Int)(c:Nat),Lm s a j (el (col l c)) (col l c).length↔Lm s a j (fun j=>ec l j c) l.length:=fun s a j c=>by
  rw[col_len];exact⟨Lm_congr fun j h=>el_col h,Lm_congr fun j h=>(el_col h).symm⟩
 unfold wth3;rw[Bool.and_eq_true,Bool.and_eq_true,wth_iff,wth_iff,wth_iff,k,k,k]
theorem Lm_win{sp ac je:Int}{f:Nat->Int}{n:Nat}:Lm sp ac je f (n+1)↔Lm sp ac je f n/\Lm sp ac je (fun j=>f (n+1-4+j)) (n+1-(n+1-4)):=by
 refine⟨fun⟨a,b,c⟩=>⟨⟨fun j h=>a j (by omega),fun j h=>b j (by omega),fun j h=>c j (by omega)⟩,fun j h=>a (n+1-4+j) (by omega),fun j h=>b (n+1-4+j) (by omega),fun j h=>c (n+1-4+j) (by omega)⟩,fun⟨⟨a,b,c⟩,a',b',c'⟩=>⟨fun j h=> ?_,fun j h=> ?_,fun j h=> ?_⟩⟩
 . by_cases hn:j+1<n
   . exact a j hn
   . have:=a' (j-(n+1-4)) (by omega);dsimp only at this;rwa[show n+1-4+(j-(n+1-4))=j by omega,show n+1-4+(j-(n+1-4)+1)=j+1 by omega]at this
 . by_cases hn:j+2<n
   . exact b j hn
   . have:=b' (j-(n+1-4)) (by omega);dsimp only at this;rwa[show n+1-4+(j-(n+1-4))=j by omega,show n+1-4+(j-(n+1-4)+1)=j+1 by omega,show n+1-4+(j-(n+1-4)+2)=j+2 by omega]at this
 . by_cases hn:j+3<n
   . exact c j hn
   . have:=c' (j-(n+1-4)) (by omega);dsimp only at this;rwa[show n+1-4+(j-(n+1-4))=j by omega,show n+1-4+(j-(n+1-4)+1)=j+1 by omega,show n+1-4+(j-(n+1-4)+2)=j+2 by omega,show n+1-4+(j-(n+1-4)+3)=j+3 by omega]at this
theorem Lm_pre{sp ac je:Int}{f:Nat->Int}{n m:Nat}(h:m<=n):Lm sp ac je f n->Lm sp ac je f m:=fun⟨a,b,c⟩=>⟨fun j hj=>a j (by omega),fun j hj=>b j (by omega),fun j hj=>c j (by omega)⟩
theorem win_len(L:LL){i:Nat}(h:i<=L.length):(win L i).length=i-(i-4):=by unfold win;simp;omega
theorem ec_win{L:LL}{i j c:Nat}(h:i<=L.length)(hj:j<i-(i-4)):ec (win L i) j c=ec L (i-4+j) c:=by
 have:(List.drop (i-4) (List.take i L)).getD j []=L.getD (i-4+j) []:=by
  rw[List.getD_eq_getElem?_getD,List.getElem?_drop,List.getElem?_take_of_lt (by omega),<-List.getD_eq_getElem?_getD]
 unfold win ec;rw[this]
theorem win_next{L:LL}{i:Nat}(h:i<L.length):win L i++[L.getD i []]=(L.take (i+1)).drop (i-4):=by
 unfold win;rw[take_next L h [],List.drop_append_of_le_length (by simp;omega)]
theorem ec_take{L:LL}{n j c:Nat}(h:j<n):ec (L.take n) j c=ec L j c:=by
 have:(List.take n L).getD j []=L.getD j []:=by rw[List.getD_eq_getElem?_getD,List.getElem?_take_of_lt h,<-List.getD_eq_getElem?_getD]
 unfold ec;rw[this]
theorem take_len{L:LL}{n:Nat}(h:n<=L.length):(L.take n).length=n:=by simp;omega
theorem wth3_take{s0 a0 j0 s1 a1 j1 s2 a2 j2:Int}{L:LL}{n:Nat}(h:n<=L.length):wth3 s0 a0 j0 s1 a1 j1 s2 a2 j2 (L.take n)=true↔Lm s0 a0 j0 (fun j=>ec L j 0) n/\Lm s1 a1 j1 (fun j=>ec L j 1) n/\Lm s2 a2 j2 (fun j=>ec L j 2) n:=by
 rw[wth3_iff,take_len h];exact⟨fun⟨a,b,c⟩=>⟨Lm_congr (fun j hj=>ec_take hj) a,Lm_congr (fun j hj=>ec_take hj) b,Lm_congr (fun j hj=>ec_take hj) c⟩,fun⟨a,b,c⟩=>⟨Lm_congr (fun j hj=>(ec_take hj).symm) a,Lm_congr (fun j hj=>(ec_take hj).symm) b,Lm_congr (fun j hj=>(ec_take hj).symm) c⟩⟩
theorem wth3_next{s0 a0 j0 s1 a1 j1 s2 a2 j2:Int}{L:LL}{n:Nat}(h:n<L.length):wth3 s0 a0 j0 s1 a1 j1 s2 a2 j2 (L.take (n+1))=true↔wth3 s0 a0 j0 s1 a1 j1 s2 a2 j2 (L.take n)=true/\wth3 s0 a0 j0 s1 a1 j1 s2 a2 j2 (win L (n+1))=true:=by
 rw[wth3_take (by omega),wth3_take (by omega),wth3_iff,win_len L (by omega),Lm_win,Lm_win,Lm_win];have k:∀(s a j:Int)(c:Nat),Lm s a j (fun j=>ec (win L (n+1)) j c) (n+1-(n+1-4))↔Lm s a j (fun j=>ec L (n+1-4+j) c) (n+1-(n+1-4)):=fun s a j c=>⟨Lm_congr fun j hj=>ec_win (by omega) hj,Lm_congr fun j hj=>(ec_win (by omega) hj).symm⟩;rw[k,k,k];exact⟨fun⟨⟨a,b⟩,⟨c,d⟩,e,f⟩=>⟨⟨a,c,e⟩,b,d,f⟩,fun⟨⟨a,c,e⟩,b,d,f⟩=>⟨⟨a,b⟩,⟨c,d⟩,e,f⟩⟩
theorem wth3_le{s0 a0 j0 s1 a1 j1 s2 a2 j2:Int}{L:LL}{n:Nat}(h:n<=L.length)(hf:wth3 s0 a0 j0 s1 a1 j1 s2 a2 j2 (L.take n)=false):wth3 s0 a0 j0 s1 a1 j1 s2 a2 j2 L=false:=by
 cases hw:wth3 s0 a0 j0 s1 a1 j1 s2 a2 j2 L
 . rfl
 . rw[<-List.take_length (l:=L),wth3_take (Nat.le_refl _)]at hw;have:=(wth3_take h).2 ⟨Lm_pre h hw.1,Lm_pre h hw.2.1,Lm_pre h hw.2.2⟩;rw[this]at hf;cases hf
theorem Sm3_win{B:Int}{L:LL}{i:Nat}(h:Sm3 B L)(hi:i<=L.length):Sm3 B (win L i):=fun j hj=>by
 rw[win_len L hi]at hj;rw[ec_win hi hj,ec_win hi hj,ec_win hi hj];exact h _ (by omega)
theorem qmot_len(M0 M1 M2:Int->Int)(ln:Int)(w:LL):(qmot M0 M1 M2 ln w).length=w.length:=by simp[qmot]
theorem qmot_get{M0 M1 M2:Int->Int}{ln:Int}{w:LL}{i:Nat}(h:i<w.length):(qmot M0 M1 M2 ln w).getD i []=[M0 (clamp ln (el w i/256)),M1 (clamp ln (el w i/256)),M2 (clamp ln (el w i/256))]:=by
 unfold qmot el;simp[List.getD_eq_getElem?_getD,h]
theorem Sm3_qmot{B:Int}{M0 M1 M2:Int->Int}{ln:Int}{w:LL}(h0:0<=ln)(h:∀u,0<=u/\u<=ln->(-B<=M0 u/\M0 u<=B)/\(-B<=M1 u/\M1 u<=B)/\(-B<=M2 u/\M2 u<=B)):Sm3 B (qmot M0 M1 M2 ln w):=fun j hj=>by
 rw[qmot_len]at hj;unfold ec;rw[qmot_get hj];exact h _ (clamp_bd h0)
theorem qfl_app{T:Int->Int}{u:Int}{l:LL}{i:Nat}(h:i<l.length)(last:Int):qfl T last (l.drop i)=(decide (el l i-last<=T (el l i))&&qfl T (el l i) (l.drop (i+1))):=by
 rw[drop_next l h []];rfl
theorem qend_bd{u:Int}{s:LL}(h:okSpd s):u<=qend u (qcum u s)/\qend u (qcum u s)<=u+68719476736:=by
 unfold qend;have hl:=h.1;split
 . omega
 . rename_i hn;rw[qcum_len]at hn⊢;rw[el_qcum (by omega)];have:=qsm_bd h (s.length-1+1) (by omega);omega
end U
namespace Go.Proofs.YtoekmphdpepdbaaGreat
open Go Go.HL U
attribute [local irreducible] hfun bodyT fragT
set_option maxHeartbeats 2000000 in theorem loopSmo:∀v Q,(LSmo v).wp Q->hloop CSmo anSmo (nthLoop Tryz.f42 0) v Q:=by
 intro v Q h;unfold LSmo at h;split at h;case h_2=>exact h.elim
 rename_i y z w len k s0 s1 s2 sg mk ax tr;split at h;case h_2=>exact h.elim
 rename_i sta spa aca jea loa hia bla oga sga pta stb spb acb jeb lob hib blb ogb sgb ptb stc spc acc jec loc hic blc ogc sgc ptc;split at h;case h_2=>exact h.elim
 rename_i pk ln sa d0 d1 d2;obtain⟨⟨h1,h2,h3,hp,ha,hli,hw,hs⟩,hq1,hq2⟩:=h;subst h2 h3;obtain rfl:=List.eq_nil_of_length_eq_zero h1;have hb:∀u,0<=u/\u<=ln->(-4398046511104<=mtr sta oga sga pta bla s0 sg 0 pk sa d0 u/\mtr sta oga sga pta bla s0 sg 0 pk sa d0 u<=4398046511104)/\(-4398046511104<=mtr stb ogb sgb ptb blb s1 sg 1 pk sa d1 u/\mtr stb ogb sgb ptb blb s1 sg 1 pk sa d1 u<=4398046511104)/\(-4398046511104<=mtr stc ogc sgc ptc blc s2 sg 2 pk sa d2 u/\mtr stc ogc sgc ptc blc s2 sg 2 pk sa d2 u<=4398046511104):=fun u hu=>⟨mtr_bd hp.1 hp.2.1.1 (fun j hj=>(hp.2.1.2.2.2 j hj).1) hp.2.2.1 ha.1 hu,mtr_bd hp.1 hp.2.1.2.1 (fun j hj=>(hp.2.1.2.2.2 j hj).2.1) hp.2.2.1 ha.2.1 hu,mtr_bd hp.1 hp.2.1.2.2.1 (fun j hj=>(hp.2.1.2.2.2 j hj).2.2) hp.2.2.1 ha.2.2 hu⟩;have hS:Sm3 1125899906842624 (qmot (mtr sta oga sga pta bla s0 sg 0 pk sa d0) (mtr stb ogb sgb ptb blb s1 sg 1 pk sa d1) (mtr stc ogc sgc ptc blc s2 sg 2 pk sa d2) ln w):=Sm3_qmot hp.2.2.1.2.1.1 (fun u hu=>by have:=hb u hu;omega);have hg:=fun i(hi:i<w.length)=>qmot_get (M0:=mtr sta oga sga pta bla s0 sg 0 pk sa d0) (M1:=mtr stb ogb sgb ptb blb s1 sg 1 pk sa d1) (M2:=mtr stc ogc sgc ptc blc s2 sg 2 pk sa d2) (ln:=ln) hi;have hL:=qmot_len (mtr sta oga sga pta bla s0 sg 0 pk sa d0) (mtr stb ogb sgb ptb blb s1 sg 1 pk sa d1) (mtr stc ogc sgc ptc blc s2 sg 2 pk sa d2) ln w;generalize hLe:qmot (mtr sta oga sga pta bla s0 sg 0 pk sa d0) (mtr stb ogb sgb ptb blb s1 sg 1 pk sa d1) (mtr stc ogc sgc ptc blc s2 sg 2 pk sa d2) ln w=L at*;refine hloop_rec (σ:=Nat) (fun i=>([.ce (.ptr 1000004 0), .ce (.ptr 1000005 0), .ce (.ptr 1000006 0), .ce (.bool y), .ce (.sl false [4,4,4] (win L i)), .ce (.lit true), .ce (.sl false [4] w), .ce (I6 (w.length:Int)), .ce (I6 (i:Int))],[[I6 s0,I6 s1,I6 s2, .sl false [4,4,4,4,4,4,4] sg, .sl false [4,4,4] mk],[I6 sta,I6 spa,I6 aca,I6 jea,I6 loa,I6 hia,I6 bla,I6 oga,I6 sga, .sl false [4] pta,I6 stb,I6 spb,I6 acb,I6 jeb,I6 lob,I6 hib,I6 blb,I6 ogb,I6 sgb, .sl false [4] ptb,I6 stc,I6 spc,I6 acc,I6 jec,I6 loc,I6 hic,I6 blc,I6 ogc,I6 sgc, .sl false [4] ptc],[.sl false [4,4,4,4,4,4,4,4,4,4] pk,I6 ln,I6 sa,I6 d0,I6 d1,I6 d2]])) (fun i=>w.length-i) (fun i=>i<=w.length/\wth3 spa aca jea spb acb jeb spc acc jec (L.take i)=true) ?_ 0 ⟨Nat.zero_le _,by rw[wth3_take (Nat.zero_le _)];exact⟨⟨fun j hj=>by omega,fun j hj=>by omega,fun j hj=>by omega⟩,⟨fun j hj=>by omega,fun j hj=>by omega,fun j hj=>by omega⟩,⟨fun j hj=>by omega,fun j hj=>by omega,fun j hj=>by omega⟩⟩⟩;intro i⟨hi,hI⟩K hn hx hr;refine byVB (vbSmo s0 s1 s2 w.length i ln sa d0 d1 d2 y sg mk pk (win L i) w sta spa aca jea loa hia bla oga sga stb spb acb jeb lob hib blb ogb sgb stc spc acc jec loc hic blc ogc sgc pta ptb ptc K) ⟨fun g=> ?_,fun g=> ?_⟩
 . have g:=odt g;have hil:i<w.length:=by omega
   have hb1:=hs i hil;refine⟨by omega,fun x1 e1=> ?_⟩;have e1:x1=el w i:=e1;refine⟨by omega,fun x2 e2=>⟨⟨hp.1,hp.2.1,hp.2.2.1,ha.1,ha.2.1,ha.2.2,hp.2.2.2⟩,fun x3 e3 x4 e4 x5 e5=> ?_⟩⟩;have er:[x3,x4,x5]=L.getD i []:=by rw[hg i hil,e3,e4,e5,e2,e1];rfl
   rw[er,win_next (by omega)];have wl:=win_len L (i:=i) (by omega);have dl:(List.drop (i-4) (List.take (i+1) L)).length=i+1-(i-4):=by simp;omega
   have step:∀(k:Int),k=(i:Int)+1->∀x6:Bool,x6=wth3 spa aca jea spb acb jeb spc acc jec (win L (i+1))->(((!x6)=true->K .ret ([.ce (.bool false)],[[I6 s0,I6 s1,I6 s2, .sl false [4,4,4,4,4,4,4] sg, .sl false [4,4,4] mk],[I6 sta,I6 spa,I6 aca,I6 jea,I6 loa,I6 hia,I6 bla,I6 oga,I6 sga, .sl false [4] pta,I6 stb,I6 spb,I6 acb,I6 jeb,I6 lob,I6 hib,I6 blb,I6 ogb,I6 sgb, .sl false [4] ptb,I6 stc,I6 spc,I6 acc,I6 jec,I6 loc,I6 hic,I6 blc,I6 ogc,I6 sgc, .sl false [4] ptc],[.sl false [4,4,4,4,4,4,4,4,4,4] pk,I6 ln,I6 sa,I6 d0,I6 d1,I6 d2]]))/\((!x6)=false->K .normal ([.ce (.ptr 1000004 0), .ce (.ptr 1000005 0), .ce (.ptr 1000006 0), .ce (.bool y), .ce (.sl false [4,4,4] (win L (i+1))), .ce (.lit true), .ce (.sl false [4] w), .ce (I6 (w.length:Int)), .ce (I6 k)],[[I6 s0,I6 s1,I6 s2, .sl false [4,4,4,4,4,4,4] sg, .sl false [4,4,4] mk],[I6 sta,I6 spa,I6 aca,I6 jea,I6 loa,I6 hia,I6 bla,I6 oga,I6 sga, .sl false [4] pta,I6 stb,I6 spb,I6 acb,I6 jeb,I6 lob,I6 hib,I6 blb,I6 ogb,I6 sgb, .sl false [4] ptb,I6 stc,I6 spc,I6 acc,I6 jec,I6 loc,I6 hic,I6 blc,I6 ogc,I6 sgc, .sl false [4] ptc],[.sl false [4,4,4,4,4,4,4,4,4,4] pk,I6 ln,I6 sa,I6 d0,I6 d1,I6 d2]]))):=by
    intro k ek x6 e6;have nx:=wth3_next (s0:=spa) (a0:=aca) (j0:=jea) (s1:=spb) (a1:=acb) (j1:=jeb) (s2:=spc) (a2:=acc) (j2:=jec) (L:=L) (n:=i) (by omega);refine⟨fun g6=>hr _ (hq2 (wth3_le (n:=i+1) (by omega) ?_)),fun g6=> ?_⟩
    . cases hc:wth3 spa aca jea spb acb jeb spc acc jec (L.take (i+1))
      . rfl
      . have:=(nx.1 hc).2;rw[<-e6]at this;rw[this]at g6;cases g6
    . have:=hn (i+1) ⟨hil,nx.2 ⟨hI,by rw[<-e6];cases x6<;>simp at g6⊢⟩⟩ (by omega);rw[show((i+1:Nat):Int)=k by omega]at this;exact this
   refine⟨⟨by omega,by unfold maxLen;omega⟩,fun g4=> ?_,fun g4=> ?_⟩
   . have g4:=odt g4;rw[dl]at g4;have ew:List.drop 1 (List.drop (i-4) (List.take (i+1) L))=win L (i+1):=by unfold win;rw[List.drop_drop,show i-4+1=i+1-4 by omega]
     rw[ew];refine⟨by rw[dl];omega,⟨by rw[win_len L (by omega)];omega,Sm3_win hS (by omega),hli⟩,fun x6 e6=> ?_⟩;have:=step ((i:Int)+1) rfl x6 e6;exact⟨this.1,fun g6=>⟨by omega,fun x7 e7=>by rw[e7];exact this.2 g6⟩⟩
   . have g4:=odf g4;rw[dl]at g4;have ew:List.drop (i-4) (List.take (i+1) L)=win L (i+1):=by unfold win;rw[show i-4=i+1-4 by omega]
     rw[ew];refine⟨⟨by rw[win_len L (by omega)];omega,Sm3_win hS (by omega),hli⟩,fun x6 e6=> ?_⟩;have:=step ((i:Int)+1) rfl x6 e6;exact⟨this.1,fun g6=>⟨by omega,fun x7 e7=>by rw[e7];exact this.2 g6⟩⟩
 . have g:=odf g;obtain rfl:i=w.length:=by omega
   rw[<-hL,List.take_length]at hI;exact hx _ _ (hq1 hI)
theorem sSmo:Sound Tryz.prog 42 SSmo:=by
 refine sound_of (C:=CSmo) tabSmo Tryz.func42 (by kernel_rfl) (by decide+kernel) (by kernel_rfl) rfl ⟨sQUnit,sMotors,sAll,trivial⟩ (loops1 (by kernel_rfl) (loopOK_of (an:=anSmo) (S:=LSmo) (by kernel_rfl) loopSmo)) ?_;intro hA pA R h;unfold SSmo at h;split at h;case h_2=>exfalso;exact h
 rename_i s0 s1 s2 sg mk ax pk ln sa d0 d1 d2 w;split at h;case h_2=>exact h.elim
 rename_i sta spa aca jea loa hia bla oga sga pta stb spb acb jeb lob hib blb ogb sgb ptb stc spc acc jec loc hic blc ogc sgc ptc;obtain⟨hp,hR⟩:=h;exact byVC (vcSmo s0 s1 s2 ln sa d0 d1 d2 sg mk pk w sta spa aca jea loa hia bla oga sga stb spb acb jeb lob hib blb ogb sgb stc spc acc jec loc hic blc ogc sgc pta ptb ptc R) ⟨⟨rfl,rfl,rfl,hp⟩,fun e=>by rw[e]at hR;exact hR,fun e=>by rw[e]at hR;exact hR⟩
set_option maxHeartbeats 2000000 in theorem sSafe:Sound Tryz.prog 16 SSafe:=by
 refine sound_of (C:=CSafe) tabSafe Tryz.func16 (by kernel_rfl) (by decide+kernel) (by kernel_rfl) rfl ⟨sQFut,sSmo,trivial⟩ (loops0 (by kernel_rfl)) ?_;intro hA pA R h;unfold SSafe at h;split at h;case h_2=>exfalso;exact h
 rename_i s0 s1 s2 sg mk ax pk ln sa d0 d1 d2 A J Rp mu mv ma ml mp mb lim;split at h;case h_2=>exact h.elim
 rename_i sta spa aca jea loa hia bla oga sga pta stb spb acb jeb lob hib blb ogb sgb ptb stc spc acc jec loc hic blc ogc sgc ptc;obtain⟨⟨⟨hp,ha,hli⟩,hpl,⟨hu,hml,hmp,hmb⟩,hlim⟩,hR⟩:=h;refine byVC (vcSafe s0 s1 s2 ln sa d0 d1 d2 A J Rp mu mv ma ml mp mb lim sg mk pk sta spa aca jea loa hia bla oga sga stb spb acb jeb lob hib blb ogb sgb stc spc acc jec loc hic blc ogc sgc pta ptb ptc R) ⟨⟨hpl,hu⟩,⟨_,rfl⟩,fun x e=> ?_⟩;subst e;have hs:=qsp_spd (v:=mv) (a:=ma) hpl;have hl:(qfu A J mu mv ma).length<=4096:=by unfold qfu;rw[qcum_len];exact hs.1
 have hel:∀j,j<(qfu A J mu mv ma).length-> -9000000000000000000<=el (qfu A J mu mv ma) j/\el (qfu A J mu mv ma) j<=9000000000000000000:=fun j hj=>by
  unfold qfu at hj⊢;rw[qcum_len]at hj;rw[el_qcum hj];have:=qsm_bd hs (j+1) (by omega);have:=hs.1;unfold okU at hu;omega
 have he:=qend_bd (u:=mu) hs;rw[show qcum mu (qsp A J mv ma)=qfu A J mu mv ma from rfl]at he;unfold qsafe at hR;refine⟨fun g=> ?_,fun g=> ?_⟩
 . have g:qfok A J mv ma=false:=by simpa using g
   simp only[g,Bool.false_and]at hR;exact hR
 have g:qfok A J mv ma=true:=by simpa using g
 simp only[g,Bool.true_and]at hR;have tail:∀(x3:Int),x3=qend mu (qfu A J mu mv ma)->(-9223372036854775808<=lim*256/\lim*256<=9223372036854775807)/\∀(x4:Int),x4=lim*256->(decide (x3>x4)=true->R ⟨.ce (.bool false),false,[],[]⟩)/\(decide (x3>x4)=false->((4+(qfu A J mu mv ma).length)*8<=140737488355328/\4+(qfu A J mu mv ma).length<=maxLen)/\((([[mb],[mp],[ml],[mu]]++qfu A J mu mv ma).length+2)*8<=140737488355328/\([[mb],[mp],[ml],[mu]]++qfu A J mu mv ma).length+2<=maxLen)/\(okPT s0 s1 s2 sg pk ln sa/\okA3 sta oga sga pta bla stb ogb sgb ptb blb stc ogc sgc ptc blc/\okL3 spa aca jea spb acb jeb spc acc jec/\([[mb],[mp],[ml],[mu]]++qfu A J mu mv ma++[[x3],[x3]]).length<=8000/\Sm 9000000000000000000 ([[mb],[mp],[ml],[mu]]++qfu A J mu mv ma++[[x3],[x3]]))/\∀(x5:Bool),x5=wth3 spa aca jea spb acb jeb spc acc jec (qmot (mtr sta oga sga pta bla s0 sg 0 pk sa d0) (mtr stb ogb sgb ptb blb s1 sg 1 pk sa d1) (mtr stc ogc sgc ptc blc s2 sg 2 pk sa d2) ln ([[mb],[mp],[ml],[mu]]++qfu A J mu mv ma++[[x3],[x3]]))->R ⟨.ce (.bool x5),false,[],[]⟩):=by
  intro x3 e3;refine⟨by omega,fun x4 e4=>⟨fun g3=> ?_,fun g3=>⟨⟨by omega,by unfold maxLen;omega⟩,⟨by simp;omega,by simp;unfold maxLen;omega⟩,⟨hp,ha,hli,by simp;omega,?_⟩,fun x5 e5=> ?_⟩⟩⟩
  . have g3:=odt g3;rw[decide_eq_false (by omega),Bool.false_and]at hR;exact hR
  . unfold okU at hu hml hmp hmb;intro j hj;rw[List.append_assoc,el_append];split
    . rename_i hj4;have hj4:j<4:=hj4;rcases(by omega:j=0∨j=1∨j=2∨j=3)with rfl|rfl|rfl|rfl
      . show-9000000000000000000<=mb/\mb<=9000000000000000000;omega
      . show-9000000000000000000<=mp/\mp<=9000000000000000000;omega
      . show-9000000000000000000<=ml/\ml<=9000000000000000000;omega
      . show-9000000000000000000<=mu/\mu<=9000000000000000000;omega
    . rw[el_append];split
      . rename_i h2;exact hel _ h2
      . rename_i h1 h2;simp at hj h1 h2;rcases(by omega:j-4-(qfu A J mu mv ma).length=0∨j-4-(qfu A J mu mv ma).length=1)with h5|h5
        . rw[show List.length [[mb],[mp],[ml],[mu]]=4 from rfl,h5];show-9000000000000000000<=x3/\x3<=9000000000000000000;omega
        . rw[show List.length [[mb],[mp],[ml],[mu]]=4 from rfl,h5];show-9000000000000000000<=x3/\x3<=9000000000000000000;omega
  . have g3:=odf g3;rw[decide_eq_true (by omega),Bool.true_and]at hR;rw[e5,e3];exact hR
 dsimp only;refine⟨fun g2=>⟨by omega,fun x2 e2=>⟨by have:=odt g2;omega,fun x3 e3=>tail x3 ?_⟩⟩,fun g2=>tail mu ?_⟩
 . have g2:=odt g2;unfold qend;rw[if_neg (by omega),e3,show x2.toNat=(qfu A J mu mv ma).length-1 by omega]
 . have g2:=odf g2;unfold qend;rw[if_pos (by omega)]
theorem loopFit:∀v Q,(LFit v).wp Q->hloop CFit anFit (nthLoop Tryz.f18 0) v Q:=by
 intro v Q h;unfold LFit at h;split at h;case h_2=>exact h.elim
 rename_i y u l len k s0 s1 s2 sg mk pk ln sa d0 d1 d2 A J Rp fo ro ho so oo;obtain⟨⟨h1,h2,hp,h0,s,hl,hs,hu⟩,hq1,hq2⟩:=h;subst h1 h2;have hll:l.length=s.length:=by rw[hl,qcum_len]
 have hsl:=hs.1;have ee:∀i,i<l.length->el l i=u+qsm s i+el s i:=fun i hi=>by rw[hl,el_qcum (by omega),qsm];omega
 have e0:u=u+qsm s 0:=by simp[qsm]
 refine Eq.mp (by rw[<-e0];rfl) (hloop_rec (C:=CFit) (an:=anFit) (c:=nthLoop Tryz.f18 0) (Q:=Q) (σ:=Nat) (fun i=>([.ce (.ptr 1000005 0), .ce (.ptr 1000006 0), .ce (.ptr 1000007 0), .ce (.ptr 1000008 0), .ce (.bool y), .ce (I6 (u+qsm s i)), .ce (.sl false [4] l), .ce (I6 (l.length:Int)), .ce (I6 (i:Int))],[[I6 s0,I6 s1,I6 s2, .sl false [4,4,4,4,4,4,4] sg, .sl false [4,4,4] mk],[.sl false [4,4,4,4,4,4,4,4,4,4] pk,I6 ln,I6 sa,I6 d0,I6 d1,I6 d2],[I6 A,I6 J,I6 Rp],[I6 fo,I6 ro, .bool ho, .bool so, .bool oo]])) (fun i=>l.length-i) (fun i=>i<=l.length/\qfl (qtg ho fo ro Rp sg pk sa ln) u l=qfl (qtg ho fo ro Rp sg pk sa ln) (u+qsm s i) (l.drop i)) ?_ 0 ⟨Nat.zero_le _,by rw[<-e0];rfl⟩);intro i⟨hi,hI⟩K hn hx hr;refine byVB (vbFit s0 s1 s2 ln sa d0 d1 d2 A J Rp fo ro (u+qsm s i) l.length i ho so oo y sg mk pk l K) ⟨fun g=> ?_,fun g=> ?_⟩
 . have g:=odt g;have hil:i<l.length:=by omega
   have b:=qsm_bd hs i (by omega);have c:=hs.2 i (by omega);have e:=ee i hil;rw[qfl_app (u:=u) hil]at hI;unfold okV at hu;refine⟨by omega,fun x1 e1=> ?_⟩;have e1:x1=el l i:=e1;refine⟨by omega,fun x2 e2=>⟨⟨hp,h0,by unfold okU;omega⟩,fun x3 e3=>⟨fun g2=>hr _ (hq2 ?_),fun g2=>⟨by omega,fun x4 e4=> ?_⟩⟩⟩⟩
   . have g2:=odt g2;rw[hI,<-e1,decide_eq_false (by omega),Bool.false_and]
   . have g2:=odf g2;have e9:el l i=u+qsm s (i+1):=by rw[qsm];omega
     have:=hn (i+1) ⟨hil,by rw[hI,<-e9,<-e1,decide_eq_true (by omega),Bool.true_and]⟩ (by omega);rw[<-e9,<-e1,show((i+1:Nat):Int)=x4 by omega]at this;exact this
 . have g:=odf g;obtain rfl:i=l.length:=by omega
   rw[List.drop_length]at hI;exact hx _ _ (hq1 hI)
theorem sFit:Sound Tryz.prog 18 SFit:=by
 refine sound_of (C:=CFit) tabFit Tryz.func18 (by kernel_rfl) (by decide+kernel) (by kernel_rfl) rfl ⟨sQFut,sQTg,trivial⟩ (loops1 (by kernel_rfl) (loopOK_of (an:=anFit) (S:=LFit) (by kernel_rfl) loopFit)) ?_;intro hA pA R h;unfold SFit at h;split at h;case h_2=>exfalso;exact h
 rename_i s0 s1 s2 sg mk pk ln sa d0 d1 d2 A J Rp fo ro ho so oo mu mv ma ml mp mb;obtain⟨⟨hp,hpl,hu⟩,hR⟩:=h;have hu':okU mu:=by unfold okV at hu;unfold okU;omega
 refine byVC (vcFit s0 s1 s2 ln sa d0 d1 d2 A J Rp fo ro mu mv ma ml mp mb ho so oo sg mk pk R) ⟨⟨hpl,hu'⟩,⟨_,rfl⟩,fun x e=> ?_⟩;subst e;unfold qfit at hR;refine⟨fun g=> ?_,fun g=> ?_⟩
 . have g:qfok A J mv ma=false:=by simpa using g
   simp only[g,Bool.false_and]at hR;exact hR
 have g:qfok A J mv ma=true:=by simpa using g
 simp only[g,Bool.true_and]at hR;refine⟨fun g2=> ?_,fun g2=> ?_⟩
 . have g2:sg.length=0:=by simpa using g2
   rw[decide_eq_false (by omega),Bool.false_and]at hR;exact hR
 have g2:sg.length≠0:=by simpa using g2
 rw[decide_eq_true (by omega),Bool.true_and]at hR;refine⟨⟨hp,by omega,hu'⟩,fun x2 e2=>⟨fun g3=> ?_,fun g3=>⟨⟨rfl,rfl,hp,by omega,qsp A J mv ma,rfl,qsp_spd hpl,hu⟩,fun g4=> ?_,fun g4=> ?_⟩⟩⟩
 . have g3:=odt g3;rw[decide_eq_false (by omega),Bool.false_and]at hR;exact hR
 . have g3:=odf g3;rw[decide_eq_true (by omega),Bool.true_and,g4]at hR;exact hR
 . have g3:=odf g3;rw[decide_eq_true (by omega),Bool.true_and,g4]at hR;exact hR
end Go.Proofs.YtoekmphdpepdbaaGreat
namespace U
open Go
def qok(A J:Int)(W:LL->Bool)(Mo:LL->LL)(n:Nat)(T:Int->Int)(m:QM)(lim k:Int):Bool:=decide (0<=m.v+(m.a+k))&&(qready A J (m.v+(m.a+k)) (m.a+k)&&(qfit A J n T (qmove m (m.v+(m.a+k)))&&qsafe A J W Mo (qmove m (m.v+(m.a+k))) lim))
def qpick(ok:Int->Bool):LL->Option Int
 |[]=>none
 |r::l=>if ok (r.getD 0 0)=true then some (r.getD 0 0)else qpick ok l
def qnext(A J:Int)(W:LL->Bool)(Mo:LL->LL)(n:Nat)(T:Int->Int)(m:QM)(lim:Int):QM:=match qpick (qok A J W Mo n T m lim) (chg J)with
 |some k=>qmove m (m.v+(m.a+k))
 |none=>qmove m (m.v+qbrk A J m.v m.a)
def okN(m:QM):Prop:=(-4800000000000000000<=m.u/\m.u<=4800000000000000000)/\(-549755813888<=m.v/\m.v<=549755813888)/\(-549755813888<=m.a/\m.a<=549755813888)/\okU m.l/\okU m.p
def qpk(ok:Int->Bool)(m:QM)(l:LL)(x:Bool×QM):Prop:=(∃k,qpick ok l=some k/\x=(true,qmove m (m.v+(m.a+k))))∨(qpick ok l=none/\x.1=false)
end U
namespace Go.Proofs.YtoekmphdpepdbaaGreat
open Go Go.HL U
def SPNext(hargs:List HV)(pars:List (List HC)):SR:=match hargs,pars with
 |[.agg [.int .i64 s0, .int .i64 s1, .int .i64 s2, .sl false [4,4,4,4,4,4,4] sg, .sl false [4,4,4] mk], .agg ax, .agg [.sl false [4,4,4,4,4,4,4,4,4,4] pk, .int .i64 ln, .int .i64 sa, .int .i64 d0, .int .i64 d1, .int .i64 d2], .agg [.int .i64 A, .int .i64 J, .int .i64 R], .agg [.int .i64 fo, .int .i64 ro, .bool ho, .bool so, .bool oo], .agg [.int .i64 mu, .int .i64 mv, .int .i64 ma, .int .i64 ml, .int .i64 mp, .int .i64 mb], .ce (.int .i64 lim)],[]=>match ax with
  |[.int .i64 sta, .int .i64 spa, .int .i64 aca, .int .i64 jea, .int .i64 loa, .int .i64 hia, .int .i64 bla, .int .i64 oga, .int .i64 sga, .sl false [4] pta, .int .i64 stb, .int .i64 spb, .int .i64 acb, .int .i64 jeb, .int .i64 lob, .int .i64 hib, .int .i64 blb, .int .i64 ogb, .int .i64 sgb, .sl false [4] ptb, .int .i64 stc, .int .i64 spc, .int .i64 acc, .int .i64 jec, .int .i64 loc, .int .i64 hic, .int .i64 blc, .int .i64 ogc, .int .i64 sgc, .sl false [4] ptc]=> .all ((okPT s0 s1 s2 sg pk ln sa/\okA3 sta oga sga pta bla stb ogb sgb ptb blb stc ogc sgc ptc blc/\okL3 spa aca jea spb acb jeb spc acc jec)/\okPl A J R/\okN ⟨mu,mv,ma,ml,mp,mb⟩/\(0<=lim/\lim<=18014398509481984)) QM (fun x=>x=qnext A J (wth3 spa aca jea spb acb jeb spc acc jec) (qmot (mtr sta oga sga pta bla s0 sg 0 pk sa d0) (mtr stb ogb sgb ptb blb s1 sg 1 pk sa d1) (mtr stc ogc sgc ptc blc s2 sg 2 pk sa d2) ln) sg.length (qtg ho fo ro R sg pk sa ln) ⟨mu,mv,ma,ml,mp,mb⟩ lim) (fun x=>⟨.agg [I6 x.u,I6 x.v,I6 x.a,I6 x.l,I6 x.p,I6 x.b],false,[],[]⟩)
  |_=> .fail
 |_,_=> .fail
def anNx:LAnn:=⟨[6,7,8,9,10,11,12,14,15,16,23,24,25],[10,12,14,15,16],[1000007,1000008,1000009,1000010,1000011,1000012,1000014,1000015],false⟩
set_option maxHeartbeats 4000000 in def LNx(v:LV):LR:=match v with
 |([.ce (.int .i64 lim), .ce (.ptr 1000007 0), .ce (.ptr 1000008 0), .ce (.ptr 1000009 0), .ce (.ptr 1000010 0), .ce (.ptr 1000011 0), .ce (.ptr 1000012 0), .ce (.ptr 1000014 0), .ce (.ptr 1000015 0), .ce (.bool y), .ce (.sl false [4] l), .ce (.int .i64 len), .ce (.int .i64 i)],[[.int .i64 s0, .int .i64 s1, .int .i64 s2, .sl false [4,4,4,4,4,4,4] sg, .sl false [4,4,4] mk],ax,tr,[.int .i64 A, .int .i64 J, .int .i64 R],[.int .i64 fo, .int .i64 ro, .bool ho, .bool so, .bool oo],[.int .i64 mu, .int .i64 mv, .int .i64 ma, .int .i64 ml, .int .i64 mp, .int .i64 mb],[.int .i64 z0, .int .i64 z1, .int .i64 z2, .int .i64 z3, .int .i64 z4, .int .i64 z5],[.int .i64 f0, .int .i64 f1, .int .i64 f2, .int .i64 f3, .int .i64 f4, .int .i64 f5]])=>match ax with
  |[.int .i64 sta, .int .i64 spa, .int .i64 aca, .int .i64 jea, .int .i64 loa, .int .i64 hia, .int .i64 bla, .int .i64 oga, .int .i64 sga, .sl false [4] pta, .int .i64 stb, .int .i64 spb, .int .i64 acb, .int .i64 jeb, .int .i64 lob, .int .i64 hib, .int .i64 blb, .int .i64 ogb, .int .i64 sgb, .sl false [4] ptb, .int .i64 stc, .int .i64 spc, .int .i64 acc, .int .i64 jec, .int .i64 loc, .int .i64 hic, .int .i64 blc, .int .i64 ogc, .int .i64 sgc, .sl false [4] ptc]=>match tr with
   |[.sl false [4,4,4,4,4,4,4,4,4,4] pk, .int .i64 ln, .int .i64 sa, .int .i64 d0, .int .i64 d1, .int .i64 d2]=> .all ((okPT s0 s1 s2 sg pk ln sa/\okA3 sta oga sga pta bla stb ogb sgb ptb blb stc ogc sgc ptc blc/\okL3 spa aca jea spb acb jeb spc acc jec)/\okPl A J R/\okN ⟨mu,mv,ma,ml,mp,mb⟩/\(0<=lim/\lim<=18014398509481984)/\y=false/\len=l.length/\i=0/\l.length<=200000/\Sm 65536 l) (Bool×QM) (qpk (qok A J (wth3 spa aca jea spb acb jeb spc acc jec) (qmot (mtr sta oga sga pta bla s0 sg 0 pk sa d0) (mtr stb ogb sgb ptb blb s1 sg 1 pk sa d1) (mtr stc ogc sgc ptc blc s2 sg 2 pk sa d2) ln) sg.length (qtg ho fo ro R sg pk sa ln) ⟨mu,mv,ma,ml,mp,mb⟩ lim) ⟨mu,mv,ma,ml,mp,mb⟩ l) (fun _=> .exit 0) (fun x=>([.ce (.ptr 1000010 0), .ce (.ptr 1000012 0), .ce (.ptr 1000014 0), .ce (.ptr 1000015 0), .ce (.bool x.1)],[[I6 s0,I6 s1,I6 s2, .sl false [4,4,4,4,4,4,4] sg, .sl false [4,4,4] mk],[I6 sta,I6 spa,I6 aca,I6 jea,I6 loa,I6 hia,I6 bla,I6 oga,I6 sga, .sl false [4] pta,I6 stb,I6 spb,I6 acb,I6 jeb,I6 lob,I6 hib,I6 blb,I6 ogb,I6 sgb, .sl false [4] ptb,I6 stc,I6 spc,I6 acc,I6 jec,I6 loc,I6 hic,I6 blc,I6 ogc,I6 sgc, .sl false [4] ptc],[.sl false [4,4,4,4,4,4,4,4,4,4] pk,I6 ln,I6 sa,I6 d0,I6 d1,I6 d2],[I6 A,I6 J,I6 R],[I6 fo,I6 ro, .bool ho, .bool so, .bool oo],[I6 mu,I6 mv,I6 ma,I6 ml,I6 mp,I6 mb],[I6 z0,I6 z1,I6 z2,I6 z3,I6 z4,I6 z5],[I6 x.2.u,I6 x.2.v,I6 x.2.a,I6 x.2.l,I6 x.2.p,I6 x.2.b]]))
   |_=> .fail
  |_=> .fail
 |_=> .fail
def tabNx:List (FuncId×HL.Spec):=[(60,SChg),(61,SQReady),(62,SQMove),(18,SFit),(16,SSafe),(63,SQBrake)]
noncomputable def CNx:Ctx:=⟨Tryz.prog,gam tabNx,Tryz.f34.ntmps,[(4,anNx,LNx)],[]⟩
theorem vbNx(s0 s1 s2 ln sa d0 d1 d2 A J R fo ro mu mv ma ml mp mb lim len i z0 z1 z2 z3 z4 z5 f0 f1 f2 f3 f4 f5:Int)(ho so oo y:Bool)(sg mk pk l:LL)(sta spa aca jea loa hia bla oga sga stb spb acb jeb lob hib blb ogb sgb stc spc acc jec loc hic blc ogc sgc:Int)(pta ptb ptc:LL)(K:HEx->LV->Prop):(nbodyT true CNx anNx (nthLoop Tryz.f34 0) (([.ce (I6 lim), .ce (.ptr 1000007 0), .ce (.ptr 1000008 0), .ce (.ptr 1000009 0), .ce (.ptr 1000010 0), .ce (.ptr 1000011 0), .ce (.ptr 1000012 0), .ce (.ptr 1000014 0), .ce (.ptr 1000015 0), .ce (.bool y), .ce (.sl false [4] l), .ce (I6 len), .ce (I6 i)],[[I6 s0,I6 s1,I6 s2, .sl false [4,4,4,4,4,4,4] sg, .sl false [4,4,4] mk],[I6 sta,I6 spa,I6 aca,I6 jea,I6 loa,I6 hia,I6 bla,I6 oga,I6 sga, .sl false [4] pta,I6 stb,I6 spb,I6 acb,I6 jeb,I6 lob,I6 hib,I6 blb,I6 ogb,I6 sgb, .sl false [4] ptb,I6 stc,I6 spc,I6 acc,I6 jec,I6 loc,I6 hic,I6 blc,I6 ogc,I6 sgc, .sl false [4] ptc],[.sl false [4,4,4,4,4,4,4,4,4,4] pk,I6 ln,I6 sa,I6 d0,I6 d1,I6 d2],[I6 A,I6 J,I6 R],[I6 fo,I6 ro, .bool ho, .bool so, .bool oo],[I6 mu,I6 mv,I6 ma,I6 ml,I6 mp,I6 mb],[I6 z0,I6 z1,I6 z2,I6 z3,I6 z4,I6 z5],[I6 f0,I6 f1,I6 f2,I6 f3,I6 f4,I6 f5]])) K)=(Br (i<len) ((0<=i/\i<(l.length:Int))/\∀x1,x1=el l i.toNat->R6 (ma+x1)/\∀x2,x2=ma+x1->R6 (mv+x2)/\∀x3,x3=mv+x2->Br (x3<0) (R6 (i+1)/\∀x4,x4=i+1->K .normal ([.ce (I6 lim), .ce (.ptr 1000007 0), .ce (.ptr 1000008 0), .ce (.ptr 1000009 0), .ce (.ptr 1000010 0), .ce (.ptr 1000011 0), .ce (.ptr 1000012 0), .ce (.ptr 1000014 0), .ce (.ptr 1000015 0), .ce (.bool y), .ce (.sl false [4] l), .ce (I6 len), .ce (I6 x4)],[[I6 s0,I6 s1,I6 s2, .sl false [4,4,4,4,4,4,4] sg, .sl false [4,4,4] mk],[I6 sta,I6 spa,I6 aca,I6 jea,I6 loa,I6 hia,I6 bla,I6 oga,I6 sga, .sl false [4] pta,I6 stb,I6 spb,I6 acb,I6 jeb,I6 lob,I6 hib,I6 blb,I6 ogb,I6 sgb, .sl false [4] ptb,I6 stc,I6 spc,I6 acc,I6 jec,I6 loc,I6 hic,I6 blc,I6 ogc,I6 sgc, .sl false [4] ptc],[.sl false [4,4,4,4,4,4,4,4,4,4] pk,I6 ln,I6 sa,I6 d0,I6 d1,I6 d2],[I6 A,I6 J,I6 R],[I6 fo,I6 ro, .bool ho, .bool so, .bool oo],[I6 mu,I6 mv,I6 ma,I6 ml,I6 mp,I6 mb],[I6 z0,I6 z1,I6 z2,I6 z3,I6 z4,I6 z5],[I6 f0,I6 f1,I6 f2,I6 f3,I6 f4,I6 f5]])) (R6 (mv+x2)/\∀x5,x5=mv+x2->okPl A J R/\∀(x6:Bool),x6=qready A J x5 x2->Bb (!x6) (R6 (i+1)/\∀x7,x7=i+1->K .normal ([.ce (I6 lim), .ce (.ptr 1000007 0), .ce (.ptr 1000008 0), .ce (.ptr 1000009 0), .ce (.ptr 1000010 0), .ce (.ptr 1000011 0), .ce (.ptr 1000012 0), .ce (.ptr 1000014 0), .ce (.ptr 1000015 0), .ce (.bool y), .ce (.sl false [4] l), .ce (I6 len), .ce (I6 x7)],[[I6 s0,I6 s1,I6 s2, .sl false [4,4,4,4,4,4,4] sg, .sl false [4,4,4] mk],[I6 sta,I6 spa,I6 aca,I6 jea,I6 loa,I6 hia,I6 bla,I6 oga,I6 sga, .sl false [4] pta,I6 stb,I6 spb,I6 acb,I6 jeb,I6 lob,I6 hib,I6 blb,I6 ogb,I6 sgb, .sl false [4] ptb,I6 stc,I6 spc,I6 acc,I6 jec,I6 loc,I6 hic,I6 blc,I6 ogc,I6 sgc, .sl false [4] ptc],[.sl false [4,4,4,4,4,4,4,4,4,4] pk,I6 ln,I6 sa,I6 d0,I6 d1,I6 d2],[I6 A,I6 J,I6 R],[I6 fo,I6 ro, .bool ho, .bool so, .bool oo],[I6 mu,I6 mv,I6 ma,I6 ml,I6 mp,I6 mb],[I6 z0,I6 z1,I6 z2,I6 z3,I6 z4,I6 z5],[I6 f0,I6 f1,I6 f2,I6 f3,I6 f4,I6 f5]])) (R6 (mv+x2)/\∀x8,x8=mv+x2->(okU mu/\(-2199023255552<=x8/\x8<=2199023255552)/\ -2199023255552<=mv/\mv<=2199023255552)/\(∃(x:QM),x=qmove ⟨mu,mv,ma,ml,mp,mb⟩ x8)/\∀(x:QM),x=qmove ⟨mu,mv,ma,ml,mp,mb⟩ x8->((okLen sg/\okTrk pk ln/\0<=sa/\sa<=18014398509481984)/\okPl A J R/\okV x.u)/\∀(x10:Bool),x10=qfit A J (sg.length) (qtg ho fo ro R sg pk sa ln) {u:=x.u,v:=x.v,a:=x.a,l:=x.l,p:=x.p,b:=x.b}->Bb (x10) (((okPT s0 s1 s2 sg pk ln sa/\okA3 sta oga sga pta bla stb ogb sgb ptb blb stc ogc sgc ptc blc/\okL3 spa aca jea spb acb jeb spc acc jec)/\okPl A J R/\(okU x.u/\okU x.l/\okU x.p/\okU x.b)/\0<=lim/\lim<=18014398509481984)/\∀(x11:Bool),x11=qsafe A J (wth3 spa aca jea spb acb jeb spc acc jec) (qmot (mtr sta oga sga pta bla s0 sg (0:Nat) pk sa d0) (mtr stb ogb sgb ptb blb s1 sg (1:Nat) pk sa d1) (mtr stc ogc sgc ptc blc s2 sg (2:Nat) pk sa d2) ln) {u:=x.u,v:=x.v,a:=x.a,l:=x.l,p:=x.p,b:=x.b} lim->Bb (x11) (K (.exit 0) ([.ce (.ptr 1000010 0), .ce (.ptr 1000012 0), .ce (.ptr 1000014 0), .ce (.ptr 1000015 0), .ce (.bool true)],[[I6 s0,I6 s1,I6 s2, .sl false [4,4,4,4,4,4,4] sg, .sl false [4,4,4] mk],[I6 sta,I6 spa,I6 aca,I6 jea,I6 loa,I6 hia,I6 bla,I6 oga,I6 sga, .sl false [4] pta,I6 stb,I6 spb,I6 acb,I6 jeb,I6 lob,I6 hib,I6 blb,I6 ogb,I6 sgb, .sl false [4] ptb,I6 stc,I6 spc,I6 acc,I6 jec,I6 loc,I6 hic,I6 blc,I6 ogc,I6 sgc, .sl false [4] ptc],[.sl false [4,4,4,4,4,4,4,4,4,4] pk,I6 ln,I6 sa,I6 d0,I6 d1,I6 d2],[I6 A,I6 J,I6 R],[I6 fo,I6 ro, .bool ho, .bool so, .bool oo],[I6 mu,I6 mv,I6 ma,I6 ml,I6 mp,I6 mb],[I6 z0,I6 z1,I6 z2,I6 z3,I6 z4,I6 z5],[I6 x.u,I6 x.v,I6 x.a,I6 x.l,I6 x.p,I6 x.b]])) (R6 (i+1)/\∀x12,x12=i+1->K .normal ([.ce (I6 lim), .ce (.ptr 1000007 0), .ce (.ptr 1000008 0), .ce (.ptr 1000009 0), .ce (.ptr 1000010 0), .ce (.ptr 1000011 0), .ce (.ptr 1000012 0), .ce (.ptr 1000014 0), .ce (.ptr 1000015 0), .ce (.bool y), .ce (.sl false [4] l), .ce (I6 len), .ce (I6 x12)],[[I6 s0,I6 s1,I6 s2, .sl false [4,4,4,4,4,4,4] sg, .sl false [4,4,4] mk],[I6 sta,I6 spa,I6 aca,I6 jea,I6 loa,I6 hia,I6 bla,I6 oga,I6 sga, .sl false [4] pta,I6 stb,I6 spb,I6 acb,I6 jeb,I6 lob,I6 hib,I6 blb,I6 ogb,I6 sgb, .sl false [4] ptb,I6 stc,I6 spc,I6 acc,I6 jec,I6 loc,I6 hic,I6 blc,I6 ogc,I6 sgc, .sl false [4] ptc],[.sl false [4,4,4,4,4,4,4,4,4,4] pk,I6 ln,I6 sa,I6 d0,I6 d1,I6 d2],[I6 A,I6 J,I6 R],[I6 fo,I6 ro, .bool ho, .bool so, .bool oo],[I6 mu,I6 mv,I6 ma,I6 ml,I6 mp,I6 mb],[I6 z0,I6 z1,I6 z2,I6 z3,I6 z4,I6 z5],[I6 x.u,I6 x.v,I6 x.a,I6 x.l,I6 x.p,I6 x.b]]))) (R6 (i+1)/\∀x13,x13=i+1->K .normal ([.ce (I6 lim), .ce (.ptr 1000007 0), .ce (.ptr 1000008 0), .ce (.ptr 1000009 0), .ce (.ptr 1000010 0), .ce (.ptr 1000011 0), .ce (.ptr 1000012 0), .ce (.ptr 1000014 0), .ce (.ptr 1000015 0), .ce (.bool y), .ce (.sl false [4] l), .ce (I6 len), .ce (I6 x13)],[[I6 s0,I6 s1,I6 s2, .sl false [4,4,4,4,4,4,4] sg, .sl false [4,4,4] mk],[I6 sta,I6 spa,I6 aca,I6 jea,I6 loa,I6 hia,I6 bla,I6 oga,I6 sga, .sl false [4] pta,I6 stb,I6 spb,I6 acb,I6 jeb,I6 lob,I6 hib,I6 blb,I6 ogb,I6 sgb, .sl false [4] ptb,I6 stc,I6 spc,I6 acc,I6 jec,I6 loc,I6 hic,I6 blc,I6 ogc,I6 sgc, .sl false [4] ptc],[.sl false [4,4,4,4,4,4,4,4,4,4] pk,I6 ln,I6 sa,I6 d0,I6 d1,I6 d2],[I6 A,I6 J,I6 R],[I6 fo,I6 ro, .bool ho, .bool so, .bool oo],[I6 mu,I6 mv,I6 ma,I6 ml,I6 mp,I6 mb],[I6 z0,I6 z1,I6 z2,I6 z3,I6 z4,I6 z5],[I6 x.u,I6 x.v,I6 x.a,I6 x.l,I6 x.p,I6 x.b]]))))) (K (.exit 0) ([.ce (.ptr 1000010 0), .ce (.ptr 1000012 0), .ce (.ptr 1000014 0), .ce (.ptr 1000015 0), .ce (.bool y)],[[I6 s0,I6 s1,I6 s2, .sl false [4,4,4,4,4,4,4] sg, .sl false [4,4,4] mk],[I6 sta,I6 spa,I6 aca,I6 jea,I6 loa,I6 hia,I6 bla,I6 oga,I6 sga, .sl false [4] pta,I6 stb,I6 spb,I6 acb,I6 jeb,I6 lob,I6 hib,I6 blb,I6 ogb,I6 sgb, .sl false [4] ptb,I6 stc,I6 spc,I6 acc,I6 jec,I6 loc,I6 hic,I6 blc,I6 ogc,I6 sgc, .sl false [4] ptc],[.sl false [4,4,4,4,4,4,4,4,4,4] pk,I6 ln,I6 sa,I6 d0,I6 d1,I6 d2],[I6 A,I6 J,I6 R],[I6 fo,I6 ro, .bool ho, .bool so, .bool oo],[I6 mu,I6 mv,I6 ma,I6 ml,I6 mp,I6 mb],[I6 z0,I6 z1,I6 z2,I6 z3,I6 z4,I6 z5],[I6 f0,I6 f1,I6 f2,I6 f3,I6 f4,I6 f5]]))):=by kernel_rfl
theorem vcNx(s0 s1 s2 ln sa d0 d1 d2 A J R fo ro mu mv ma ml mp mb lim:Int)(ho so oo:Bool)(sg mk pk:LL)(sta spa aca jea loa hia bla oga sga stb spb acb jeb lob hib blb ogb sgb stc spc acc jec loc hic blc ogc sgc:Int)(pta ptb ptc:LL)(Q:Res->Prop):(nfun true CNx Tryz.f34 (bodyOf Tryz.f34) [.agg [I6 s0,I6 s1,I6 s2, .sl false [4,4,4,4,4,4,4] sg, .sl false [4,4,4] mk], .agg [I6 sta,I6 spa,I6 aca,I6 jea,I6 loa,I6 hia,I6 bla,I6 oga,I6 sga, .sl false [4] pta,I6 stb,I6 spb,I6 acb,I6 jeb,I6 lob,I6 hib,I6 blb,I6 ogb,I6 sgb, .sl false [4] ptb,I6 stc,I6 spc,I6 acc,I6 jec,I6 loc,I6 hic,I6 blc,I6 ogc,I6 sgc, .sl false [4] ptc], .agg [.sl false [4,4,4,4,4,4,4,4,4,4] pk,I6 ln,I6 sa,I6 d0,I6 d1,I6 d2], .agg [I6 A,I6 J,I6 R], .agg [I6 fo,I6 ro, .bool ho, .bool so, .bool oo], .agg [I6 mu,I6 mv,I6 ma,I6 ml,I6 mp,I6 mb], .ce (I6 lim)] [] Q)=((0<=J/\J<=65536)/\(∃(x:LL),x=chg J)/\∀(x:LL),x=chg J->((okPT s0 s1 s2 sg pk ln sa/\okA3 sta oga sga pta bla stb ogb sgb ptb blb stc ogc sgc ptc blc/\okL3 spa aca jea spb acb jeb spc acc jec)/\okPl A J R/\okN ⟨mu,mv,ma,ml,mp,mb⟩/\(0<=lim/\lim<=18014398509481984)/\false=false/\(x.length:Int)=(x.length:Int)/\(0:Int)=0/\x.length<=200000/\Sm (65536:Int) x)/\∀(x_1:Bool×QM),qpk (qok A J (wth3 spa aca jea spb acb jeb spc acc jec) (qmot (mtr sta oga sga pta bla s0 sg (0:Nat) pk sa d0) (mtr stb ogb sgb ptb blb s1 sg (1:Nat) pk sa d1) (mtr stc ogc sgc ptc blc s2 sg (2:Nat) pk sa d2) ln) (sg.length) (qtg ho fo ro R sg pk sa ln) ⟨mu,mv,ma,ml,mp,mb⟩ lim) ⟨mu,mv,ma,ml,mp,mb⟩ x x_1->Bb (x_1.1) (Q ⟨.agg [I6 x_1.2.u,I6 x_1.2.v,I6 x_1.2.a,I6 x_1.2.l,I6 x_1.2.p,I6 x_1.2.b],false,[],[]⟩) ((okPl A J R/\(-1099511627776<=mv/\mv<=1099511627776)/\ -1099511627776<=ma/\ma<=1099511627776)/\∀x3,x3=qbrk A J mv ma->R6 (mv+x3)/\∀x4,x4=mv+x3->(okU mu/\(-2199023255552<=x4/\x4<=2199023255552)/\ -2199023255552<=mv/\mv<=2199023255552)/\(∃(x:QM),x=qmove ⟨mu,mv,ma,ml,mp,mb⟩ x4)/\∀(x:QM),x=qmove ⟨mu,mv,ma,ml,mp,mb⟩ x4->Q ⟨.agg [I6 x.u,I6 x.v,I6 x.a,I6 x.l,I6 x.p,I6 x.b],false,[],[]⟩)):=by kernel_rfl
end Go.Proofs.YtoekmphdpepdbaaGreat
namespace U
theorem qok_neg{A J:Int}{W:LL->Bool}{Mo:LL->LL}{n:Nat}{T:Int->Int}{m:QM}{lim k:Int}(h:m.v+(m.a+k)<0):qok A J W Mo n T m lim k=false:=by
 unfold qok;rw[decide_eq_false (by omega),Bool.false_and]
theorem qok_nr{A J:Int}{W:LL->Bool}{Mo:LL->LL}{n:Nat}{T:Int->Int}{m:QM}{lim k:Int}(h:qready A J (m.v+(m.a+k)) (m.a+k)=false):qok A J W Mo n T m lim k=false:=by
 unfold qok;rw[h,Bool.false_and,Bool.and_false]
theorem qok_nf{A J:Int}{W:LL->Bool}{Mo:LL->LL}{n:Nat}{T:Int->Int}{m:QM}{lim k:Int}(h:qfit A J n T (qmove m (m.v+(m.a+k)))=false):qok A J W Mo n T m lim k=false:=by
 unfold qok;rw[h,Bool.false_and,Bool.and_false,Bool.and_false]
theorem qok_ns{A J:Int}{W:LL->Bool}{Mo:LL->LL}{n:Nat}{T:Int->Int}{m:QM}{lim k:Int}(h:qsafe A J W Mo (qmove m (m.v+(m.a+k))) lim=false):qok A J W Mo n T m lim k=false:=by
 unfold qok;rw[h,Bool.and_false,Bool.and_false,Bool.and_false]
theorem qok_yes{A J:Int}{W:LL->Bool}{Mo:LL->LL}{n:Nat}{T:Int->Int}{m:QM}{lim k:Int}(h0:0<=m.v+(m.a+k))(h1:qready A J (m.v+(m.a+k)) (m.a+k)=true)(h2:qfit A J n T (qmove m (m.v+(m.a+k)))=true)(h3:qsafe A J W Mo (qmove m (m.v+(m.a+k))) lim=true):qok A J W Mo n T m lim k=true:=by
 unfold qok;rw[h1,h2,h3,decide_eq_true h0];rfl
theorem qpick_skip{ok:Int->Bool}{l:LL}{i:Nat}(h:i<l.length)(hk:ok (el l i)=false):qpick ok (l.drop i)=qpick ok (l.drop (i+1)):=by
 rw[drop_next l h [],qpick,if_neg (by show¬ok (el l i)=true;rw[hk];simp)]
theorem qpick_take{ok:Int->Bool}{l:LL}{i:Nat}(h:i<l.length)(hk:ok (el l i)=true):qpick ok (l.drop i)=some (el l i):=by
 rw[drop_next l h [],qpick];exact if_pos hk
theorem chg_len{J:Int}(h:0<=J/\J<=65536):(chg J).length<=200000:=by
 unfold chg ngl;have:=hlv_len J.toNat J;simp;omega
theorem el_ngl{l:LL}{j:Nat}(h:j<l.length):el (ngl l) j= -(el l j):=by
 unfold ngl el;simp[List.getD_eq_getElem?_getD,h]
theorem chg_bd{J:Int}(h:0<=J/\J<=65536):Sm 65536 (chg J):=by
 intro j hj;have hb:=hlv_bd J.toNat (k:=J) h.2;have hr:∀i,i<(hlv J.toNat J).length->∃k,k<(hlv J.toNat J).length/\el (hlv J.toNat J).reverse i=el (hlv J.toNat J) k:=fun i hi=>⟨(hlv J.toNat J).length-1-i,by omega,by
   have:(hlv J.toNat J).reverse.getD i []=(hlv J.toNat J).getD ((hlv J.toNat J).length-1-i) []:=by rw[List.getD_eq_getElem?_getD,List.getElem?_reverse hi,<-List.getD_eq_getElem?_getD]
   unfold el;rw[this]⟩;unfold chg at hj⊢;rw[List.append_assoc,el_append];split
 . rename_i h1;have:=hb j h1;omega
 . rw[el_append];split
   . rename_i h1 h2;rw[show j-(hlv J.toNat J).length=0 by simp at h2;omega];show-65536<=(0:Int)/\(0:Int)<=65536;omega
   . rename_i h1 h2;simp[ngl]at hj h1 h2;obtain⟨k,k1,k2⟩:=hr (j-(hlv J.toNat J).length-1) (by omega);rw[show List.length [[(0:Int)]]=1 from rfl,el_ngl (by simp;omega),k2];have:=hb k k1;omega
end U
namespace Go.Proofs.YtoekmphdpepdbaaGreat
section
open Go Go.HL U
attribute [local irreducible] hfun bodyT fragT
set_option maxHeartbeats 4000000 in theorem loopNx:∀v Q,(LNx v).wp Q->hloop CNx anNx (nthLoop Tryz.f34 0) v Q:=by
 intro v Q h;unfold LNx at h;split at h;case h_2=>exact h.elim
 rename_i lim y l len i s0 s1 s2 sg mk ax tr A J Rp fo ro ho so oo mu mv ma ml mp mb z0 z1 z2 z3 z4 z5 f0 f1 f2 f3 f4 f5;split at h;case h_2=>exact h.elim
 rename_i sta spa aca jea loa hia bla oga sga pta stb spb acb jeb lob hib blb ogb sgb ptb stc spc acc jec loc hic blc ogc sgc ptc;split at h;case h_2=>exact h.elim
 rename_i pk ln sa d0 d1 d2;obtain⟨⟨⟨hp,ha,hli⟩,hpl,hm,hlim,h1,h2,h3,h4,h5⟩,hq⟩:=h;subst h1 h2 h3;have hm':=hm;obtain⟨hu,hv,haa,hml,hmp⟩:=hm;dsimp only at hu hv haa hml hmp;have hU:okU mu:=by unfold okU;omega
 refine hloop_rec (σ:=Nat×QM) (fun s=>([.ce (I6 lim), .ce (.ptr 1000007 0), .ce (.ptr 1000008 0), .ce (.ptr 1000009 0), .ce (.ptr 1000010 0), .ce (.ptr 1000011 0), .ce (.ptr 1000012 0), .ce (.ptr 1000014 0), .ce (.ptr 1000015 0), .ce (.bool false), .ce (.sl false [4] l), .ce (I6 (l.length:Int)), .ce (I6 (s.1:Int))],[[I6 s0,I6 s1,I6 s2, .sl false [4,4,4,4,4,4,4] sg, .sl false [4,4,4] mk],[I6 sta,I6 spa,I6 aca,I6 jea,I6 loa,I6 hia,I6 bla,I6 oga,I6 sga, .sl false [4] pta,I6 stb,I6 spb,I6 acb,I6 jeb,I6 lob,I6 hib,I6 blb,I6 ogb,I6 sgb, .sl false [4] ptb,I6 stc,I6 spc,I6 acc,I6 jec,I6 loc,I6 hic,I6 blc,I6 ogc,I6 sgc, .sl false [4] ptc],[.sl false [4,4,4,4,4,4,4,4,4,4] pk,I6 ln,I6 sa,I6 d0,I6 d1,I6 d2],[I6 A,I6 J,I6 Rp],[I6 fo,I6 ro, .bool ho, .bool so, .bool oo],[I6 mu,I6 mv,I6 ma,I6 ml,I6 mp,I6 mb],[I6 z0,I6 z1,I6 z2,I6 z3,I6 z4,I6 z5],[I6 s.2.u,I6 s.2.v,I6 s.2.a,I6 s.2.l,I6 s.2.p,I6 s.2.b]])) (fun s=>l.length-s.1) (fun s=>s.1<=l.length/\qpick (qok A J (wth3 spa aca jea spb acb jeb spc acc jec) (qmot (mtr sta oga sga pta bla s0 sg 0 pk sa d0) (mtr stb ogb sgb ptb blb s1 sg 1 pk sa d1) (mtr stc ogc sgc ptc blc s2 sg 2 pk sa d2) ln) sg.length (qtg ho fo ro Rp sg pk sa ln) ⟨mu,mv,ma,ml,mp,mb⟩ lim) l=qpick (qok A J (wth3 spa aca jea spb acb jeb spc acc jec) (qmot (mtr sta oga sga pta bla s0 sg 0 pk sa d0) (mtr stb ogb sgb ptb blb s1 sg 1 pk sa d1) (mtr stc ogc sgc ptc blc s2 sg 2 pk sa d2) ln) sg.length (qtg ho fo ro Rp sg pk sa ln) ⟨mu,mv,ma,ml,mp,mb⟩ lim) (l.drop s.1)) ?_ (0,⟨f0,f1,f2,f3,f4,f5⟩) ⟨Nat.zero_le _,rfl⟩;rintro⟨i,f⟩⟨hi,hI⟩K hn hx hr;dsimp only at hi hI hn⊢;refine byVB (vbNx s0 s1 s2 ln sa d0 d1 d2 A J Rp fo ro mu mv ma ml mp mb lim l.length i z0 z1 z2 z3 z4 z5 f.u f.v f.a f.l f.p f.b ho so oo false sg mk pk l sta spa aca jea loa hia bla oga sga stb spb acb jeb lob hib blb ogb sgb stc spc acc jec loc hic blc ogc sgc pta ptb ptc K) ⟨fun g=> ?_,fun g=> ?_⟩
 . have g:=odt g;have hil:i<l.length:=by omega
   have hb:=h5 i hil;have sk:=fun(f:QM)(k:Int)(ek:k=(i:Int)+1)hk=>hn (i+1,f) ⟨hil,hI.trans (qpick_skip hil hk)⟩ (by dsimp only;omega);refine⟨by omega,fun x1 e1=> ?_⟩;have e1:x1=el l i:=e1;rw[<-e1]at hb sk;have tk:=fun hk=>hI.trans (qpick_take hil hk);rw[<-e1]at tk;clear hn;refine⟨by omega,fun x2 e2=>⟨by omega,fun x3 e3=>⟨fun g3=>⟨by omega,fun x4 e4=> ?_⟩,fun g3=>⟨by omega,fun x5 e5=>⟨hpl,fun x6 e6=>⟨fun g6=>⟨by omega,fun x7 e7=> ?_⟩,fun g6=>⟨by omega,fun x8 e8=>⟨⟨hU,by omega,by omega⟩,⟨_,rfl⟩,fun x ex=> ?_⟩⟩⟩⟩⟩⟩⟩⟩
   . have g3:=odt g3;have:=sk f x4 e4 (qok_neg (by show mv+(ma+x1)<0;omega));rw[show((i+1:Nat):Int)=x4 by omega]at this;exact this
   . have:=sk f x7 e7 (qok_nr (by show qready A J (mv+(ma+x1)) (ma+x1)=false;rw[<-e2,<-e5,<-e6];cases x6<;>simp at g6⊢));rw[show((i+1:Nat):Int)=x7 by omega]at this;exact this
   . have g3:=odf g3;have ex':qmove ⟨mu,mv,ma,ml,mp,mb⟩ (mv+(ma+x1))=x:=by rw[ex,e8,e2]
     have hvr:qready A J (mv+(ma+x1)) (ma+x1)=true:=by rw[<-e2,<-e5,<-e6];cases x6<;>simp at g6⊢
     have xu:x.u=mu+x8:=by rw[ex];rfl
     have xl:x.l=mu:=by rw[ex];rfl
     have xp:x.p=ml:=by rw[ex];rfl
     have xb:x.b=mp:=by rw[ex];rfl
     refine⟨⟨⟨hp.1,hp.2.2.1,hp.2.2.2⟩,hpl,by unfold okV;omega⟩,fun x10 e10=>⟨fun g10=>⟨⟨⟨hp,ha,hli⟩,hpl,⟨by unfold okU;omega,by rw[xl];exact hU,by rw[xp];exact hml,by rw[xb];exact hmp⟩,hlim⟩,fun x11 e11=>⟨fun g11=> ?_,fun g11=>⟨by omega,fun x12 e12=> ?_⟩⟩⟩,fun g10=>⟨by omega,fun x13 e13=> ?_⟩⟩⟩
     . have:=hq (true,x) (.inl ⟨x1,tk (qok_yes (by show 0<=mv+(ma+x1);omega) hvr (by show qfit A J sg.length _ (qmove ⟨mu,mv,ma,ml,mp,mb⟩ (mv+(ma+x1)))=true;rw[ex',<-g10,e10]) (by show qsafe A J _ _ (qmove ⟨mu,mv,ma,ml,mp,mb⟩ (mv+(ma+x1))) lim=true;rw[ex',<-g11,e11])),by rw[<-ex']⟩);exact hx 0 _ this
     . have:=sk x x12 e12 (qok_ns (by show qsafe A J _ _ (qmove ⟨mu,mv,ma,ml,mp,mb⟩ (mv+(ma+x1))) lim=false;rw[ex',<-g11,e11]));rw[show((i+1:Nat):Int)=x12 by omega]at this;exact this
     . have:=sk x x13 e13 (qok_nf (by show qfit A J sg.length _ (qmove ⟨mu,mv,ma,ml,mp,mb⟩ (mv+(ma+x1)))=false;rw[ex',<-g10,e10]));rw[show((i+1:Nat):Int)=x13 by omega]at this;exact this
 . have g:=odf g;obtain rfl:i=l.length:=by omega
   rw[List.drop_length]at hI;exact hx 0 _ (hq (false,f) (.inr ⟨hI,rfl⟩))
set_option maxHeartbeats 4000000 in theorem sNx:Sound Tryz.prog 34 SPNext:=by
 refine sound_of (C:=CNx) tabNx Tryz.func34 (by kernel_rfl) (by decide+kernel) (by kernel_rfl) rfl ⟨sChg,sQReady,sQMove,sFit,sSafe,sQBrake,trivial⟩ (loops1 (by kernel_rfl) (loopOK_of (an:=anNx) (S:=LNx) (by kernel_rfl) loopNx)) ?_;intro hargs pars R h;unfold SPNext at h;split at h;case h_2=>exfalso;exact h
 rename_i s0 s1 s2 sg mk ax pk ln sa d0 d1 d2 A J Rp fo ro ho so oo mu mv ma ml mp mb lim;split at h;case h_2=>exact h.elim
 rename_i sta spa aca jea loa hia bla oga sga pta stb spb acb jeb lob hib blb ogb sgb ptb stc spc acc jec loc hic blc ogc sgc ptc;obtain⟨⟨hpp,hpl,hm,hlim⟩,_,hR⟩:=h;have hm':=hm;obtain⟨hu,hv,haa,hml,hmp⟩:=hm;dsimp only at hu hv haa hml hmp;have hJ:0<=J/\J<=65536:=by have:=hpl.2.1;omega
 refine byVC (vcNx s0 s1 s2 ln sa d0 d1 d2 A J Rp fo ro mu mv ma ml mp mb lim ho so oo sg mk pk sta spa aca jea loa hia bla oga sga stb spb acb jeb lob hib blb ogb sgb stc spc acc jec loc hic blc ogc sgc pta ptb ptc R) ⟨hJ,⟨_,rfl⟩,fun x e=> ?_⟩;subst e;refine⟨⟨hpp,hpl,hm',hlim,rfl,rfl,rfl,chg_len hJ,chg_bd hJ⟩,fun x hx=>⟨fun g=> ?_,fun g=>⟨⟨hpl,by omega,by omega⟩,fun x3 e3=> ?_⟩⟩⟩
 . rcases hx with⟨k,hk,ex⟩|⟨_,ex⟩
   . exact hR x.2 (by unfold qnext;rw[hk,ex])
   . rw[ex]at g;cases g
 . rcases hx with⟨k,hk,ex⟩|⟨hk,_⟩
   . rw[ex]at g;cases g
   . have b:=Go.Proofs.YtoekmphdpepdbaaGreat.qb_le (J:=J) (v:=mv) (qhi A J ma-(-ma-J)).toNat (l:= -ma-J) (h:=qhi A J ma);have hA:=hpl.1;have e9:x3= -(qbs J mv (qhi A J ma-(-ma-J)).toNat (-ma-J) (qhi A J ma)):=e3;have hq9:qhi A J ma<=65536:=by unfold qhi;omega
     refine⟨by omega,fun x4 e4=>⟨⟨by unfold okU;omega,by omega,by omega⟩,⟨_,rfl⟩,fun x ex=>hR x ?_⟩⟩;unfold qnext;rw[hk,ex,e4,e3]
end
open Go Go.HL U
noncomputable def CQMoveR:Ctx:=⟨Tryz.prog,gam [],Tryz.f52.ntmps,[],[]⟩
theorem vcQMoveR(mu mv ma ml mp mb v:Int)(Q:Res->Prop):(nfun true CQMoveR Tryz.f52 (bodyOf Tryz.f52) [.agg [I6 mu,I6 mv,I6 ma,I6 ml,I6 mp,I6 mb], .ce (I6 v)] [] Q)=(R6 (mu+v)/\∀x1,x1=mu+v->R6 (v-mv)/\∀x2,x2=v-mv->Q ⟨.agg [I6 x1,I6 v,I6 x2,I6 mu,I6 ml,I6 mp],false,[],[]⟩):=by kernel_rfl
def anQFR:LAnn:=⟨[8,100008,9,25,26,27],[8,100008],[],false⟩
def LQFR(v:LV):LR:=match v with
 |([.ce (.sl false [4] y), .ce (.lit true), .ce (.int .i64 u), .ce (.sl false [4] l), .ce (.int .i64 len), .ce (.int .i64 k)],[])=> .det (len=l.length/\k=0/\y.length=0/\okSpd l/\okU u) (.exit 0) ([.ce (.sl false [4] (qcum u l)), .ce (.lit true)],[])
 |_=> .fail
def tabQFR:List (FuncId×HL.Spec):=[(80,SQStop)]
noncomputable def CQFR:Ctx:=⟨Tryz.prog,gam tabQFR,Tryz.f43.ntmps,[(7,anQFR,LQFR)],[]⟩
theorem vbQFR(u len k:Int)(y l:LL)(K:HEx->LV->Prop):(nbodyT true CQFR anQFR (nthLoop Tryz.f43 0) (([.ce (.sl false [4] y), .ce (.lit true), .ce (I6 u), .ce (.sl false [4] l), .ce (I6 len), .ce (I6 k)],[])) K)=(Br (k<len) ((0<=k/\k<(l.length:Int))/\∀x1,x1=el l k.toNat->R6 (u+x1)/\∀x2,x2=u+x1->((y.length+1)*8<=140737488355328/\y.length+1<=maxLen)/\R6 (k+1)/\∀x3,x3=k+1->K .normal ([.ce (.sl false [4] (y++[[x2]])), .ce (.lit true), .ce (I6 x2), .ce (.sl false [4] l), .ce (I6 len), .ce (I6 x3)],[])) (K (.exit 0) ([.ce (.sl false [4] y), .ce (.lit true)],[]))):=by kernel_rfl
theorem vcQFR(A J R mu mv ma ml mp mb:Int)(Q:Res->Prop):(nfun true CQFR Tryz.f43 (bodyOf Tryz.f43) [.agg [I6 A,I6 J,I6 R], .agg [I6 mu,I6 mv,I6 ma,I6 ml,I6 mp,I6 mb]] [] Q)=(okPl A J R/\(∃(x:LL×Bool),x=(qsp A J mv ma,qfok A J mv ma))/\∀(x:LL×Bool),x=(qsp A J mv ma,qfok A J mv ma)->Bb (!x.2) (Q ⟨.tup [.ce (.sl false [4] []), .ce (.bool false)],false,[],[]⟩) (((List.length x.1:Int)=(List.length x.1:Int)/\(0:Int)=0/\(0:Nat)=0/\okSpd x.1/\okU mu)/\Q ⟨.tup [.ce (.sl false [4] (qcum mu x.1)), .ce (.bool true)],false,[],[]⟩)):=by kernel_rfl
def tabQRestR:List (FuncId×HL.Spec):=[(43,SQFut)]
noncomputable def CQRestR:Ctx:=⟨Tryz.prog,gam tabQRestR,Tryz.f44.ntmps,[],[]⟩
theorem vcQRestR(A J R mu mv ma ml mp mb:Int)(Q:Res->Prop):(nfun true CQRestR Tryz.f44 (bodyOf Tryz.f44) [.agg [I6 A,I6 J,I6 R], .agg [I6 mu,I6 mv,I6 ma,I6 ml,I6 mp,I6 mb]] [] Q)=((okPl A J R/\okU mu)/\(∃(x:LL×Bool),x=(qfu A J mu mv ma,qfok A J mv ma))/\∀(x:LL×Bool),x=(qfu A J mu mv ma,qfok A J mv ma)->Bb (!x.2) (Q ⟨.tup [.ce (I6 0), .ce (.bool false)],false,[],[]⟩) (Bb ((List.length x.1:Int)==0) (Q ⟨.tup [.ce (I6 mu), .ce (.bool true)],false,[],[]⟩) (R6 ((List.length x.1:Int)-1)/\∀x2,x2=(List.length x.1:Int)-1->(0<=x2/\x2<(List.length x.1:Int))/\∀x3,x3=el x.1 x2.toNat->Q ⟨.tup [.ce (I6 x3), .ce (.bool true)],false,[],[]⟩))):=by kernel_rfl
section
attribute [local irreducible] hfun bodyT fragT
theorem sQMoveR:Sound Tryz.prog 52 SQMove:=by
 refine sound_of (C:=CQMoveR) [] Tryz.func52 (by kernel_rfl) (by decide+kernel) (by kernel_rfl) rfl trivial (loops0 (by kernel_rfl)) ?_;intro hA pA R h;unfold SQMove at h;split at h;case h_2=>exfalso;exact h
 rename_i mu mv ma ml mp mb v;obtain⟨⟨hu,hv,hm⟩,_,hR⟩:=h;unfold okU at hu;refine byVC (vcQMoveR mu mv ma ml mp mb v R) ⟨by omega,fun x1 e1=>⟨by omega,fun x2 e2=> ?_⟩⟩;rw[e1,e2];exact hR _ rfl
theorem loopQFR:∀v Q,(LQFR v).wp Q->hloop CQFR anQFR (nthLoop Tryz.f43 0) v Q:=by
 intro v Q h;unfold LQFR at h;split at h;case h_2=>exact h.elim
 rename_i y u l len k;obtain⟨⟨rfl,rfl,h3,h5,h6⟩,hq⟩:=h;obtain rfl:y=[]:=List.eq_nil_of_length_eq_zero h3;have e0:u=u+qsm l 0:=by simp[qsm]
 have key:hloop CQFR anQFR (nthLoop Tryz.f43 0) ([.ce (.sl false [4] (qcumN u l 0)), .ce (.lit true), .ce (I6 (u+qsm l 0)), .ce (.sl false [4] l), .ce (I6 (l.length:Int)), .ce (I6 ((0:Nat):Int))],[]) Q:=by
  refine hloop_rec (σ:=Nat) (fun i=>([.ce (.sl false [4] (qcumN u l i)), .ce (.lit true), .ce (I6 (u+qsm l i)), .ce (.sl false [4] l), .ce (I6 (l.length:Int)), .ce (I6 (i:Int))],[])) (fun i=>l.length-i) (fun i=>i<=l.length) ?_ 0 (Nat.zero_le _);intro i hi K hn he hr;have b:=qsm_bd h5 i hi;have hl:=h5.1;have hlen:=qcumN_len u l i;unfold okU at h6;refine byVB (vbQFR (u+qsm l i) l.length i (qcumN u l i) l K) ⟨fun c=> ?_,fun c=> ?_⟩
  . have c:=odt c;have b1:=h5.2 i (by omega);refine⟨by omega,fun x1 e1=> ?_⟩;have e1:x1=el l i:=e1;refine⟨by omega,fun x2 e2=>⟨⟨by omega,by unfold maxLen;omega⟩,by omega,fun x3 e3=> ?_⟩⟩;have e2':x2=u+qsm l (i+1):=by rw[qsm];omega
    have g:=hn (i+1) (by omega) (by omega);rw[e2',<-qcumN_succ,<-show((i+1:Nat):Int)=x3 by omega];exact g
  . have c:=odf c;obtain rfl:i=l.length:=by omega
    exact he _ _ hq
 rw[<-e0]at key;exact key
theorem sQFutR:Sound Tryz.prog 43 SQFut:=by
 refine sound_of (C:=CQFR) tabQFR Tryz.func43 (by kernel_rfl) (by decide+kernel) (by kernel_rfl) rfl ⟨sQStopR,trivial⟩ (loops1 (by kernel_rfl) (loopOK_of (an:=anQFR) (S:=LQFR) (by kernel_rfl) loopQFR)) ?_;intro hA pA R h;unfold SQFut at h;split at h;case h_2=>exfalso;exact h
 rename_i A J Rp mu mv ma ml mp mb;obtain⟨⟨hp,hu⟩,_,hR⟩:=h;refine byVC (vcQFR A J Rp mu mv ma ml mp mb R) ⟨hp,⟨_,rfl⟩,fun x e=> ?_⟩;subst e;have hs:=qsp_spd (v:=mv) (a:=ma) hp;refine⟨fun g=> ?_,fun g=>⟨⟨rfl,rfl,rfl,hs,hu⟩,?_⟩⟩
 . have g:qfok A J mv ma=false:=by simpa using g
   exact hR ([],false) (by unfold qfu;rw[show qsp A J mv ma=[]by unfold qsp;rw[g];rfl,g];rfl)
 . have g:qfok A J mv ma=true:=by simpa using g
   exact hR (qcum mu (qsp A J mv ma),true) (by rw[g];rfl)
theorem sQRestR:Sound Tryz.prog 44 SQRest:=by
 refine sound_of (C:=CQRestR) tabQRestR Tryz.func44 (by kernel_rfl) (by decide+kernel) (by kernel_rfl) rfl ⟨sQFutR,trivial⟩ (loops0 (by kernel_rfl)) ?_;intro hA pA R h;unfold SQRest at h;split at h;case h_2=>exfalso;exact h
 rename_i A J Rp mu mv ma ml mp mb;obtain⟨⟨hp,hu⟩,_,hR⟩:=h;refine byVC (vcQRestR A J Rp mu mv ma ml mp mb R) ⟨⟨hp,hu⟩,⟨_,rfl⟩,fun x e=> ?_⟩;subst e;have hl:(qfu A J mu mv ma).length<=4096:=by unfold qfu;rw[qcum_len];exact(qsp_spd hp).1
 refine⟨fun g=> ?_,fun g=>⟨fun g2=> ?_,fun g2=>⟨by dsimp only;omega,fun x2 e2=> ?_⟩⟩⟩
 . have g:qfok A J mv ma=false:=by simpa using g
   exact hR (0,false) (by rw[g];rfl)
 . have g:qfok A J mv ma=true:=by simpa using g
   have g2:(qfu A J mu mv ma).length=0:=by simpa using g2
   exact hR (mu,true) (by rw[g];unfold qend;rw[if_pos rfl,if_pos g2])
 . have g:qfok A J mv ma=true:=by simpa using g
   have g2:(qfu A J mu mv ma).length≠0:=by simpa using g2
   dsimp only at e2⊢;refine⟨by omega,fun x3 e3=> ?_⟩;exact hR (x3,true) (by rw[g];unfold qend;rw[if_pos rfl,if_neg g2,e3,show x2.toNat=(qfu A J mu mv ma).length-1 by omega])
end
noncomputable def CDfR:Ctx:=⟨Tryz.prog,gam [],Tryz.f110.ntmps,[(3,anDf,LDf)],[]⟩
theorem vbDfR(l acc:LL)(k:Int)(K:HEx->LV->Prop):(nbodyT true CDfR anDf (nthLoop Tryz.f110 0) (([.ce (.sl false [4] l), .ce (.sl false [4] acc), .ce (.lit true), .ce (I6 k)],[])) K)=(Br (k<(l.length:Int)) ((0<=k/\k<(l.length:Int))/\∀x1,x1=el l k.toNat->R6 (k-1)/\∀x2,x2=k-1->(0<=x2/\x2<(l.length:Int))/\∀x3,x3=el l x2.toNat->R6 (x1-x3)/\∀x4,x4=x1-x3->((acc.length+1)*8<=140737488355328/\acc.length+1<=maxLen)/\R6 (k+1)/\∀x5,x5=k+1->K .normal ([.ce (.sl false [4] l), .ce (.sl false [4] (acc++[[x4]])), .ce (.lit true), .ce (I6 x5)],[])) (K (.exit 0) ([.ce (.sl false [4] acc), .ce (.lit true)],[]))):=by kernel_rfl
theorem vcDfR(l:LL)(Q:Res->Prop):(nfun true CDfR Tryz.f110 (bodyOf Tryz.f110) [.ce (.sl false [4] l)] [] Q)=(((0:Nat)=0/\(1:Int)=1/\l.length<=8192/\Sm (1152921504606846976:Int) l)/\Q ⟨.ce (.sl false [4] (dfl l)),true,[],[]⟩):=by kernel_rfl
noncomputable def CBdR:Ctx:=⟨Tryz.prog,gam [],Tryz.f111.ntmps,[(2,anBd,LBd)],[]⟩
theorem vbBdR(m n k:Int)(r:Bool)(l:LL)(K:HEx->LV->Prop):(nbodyT true CBdR anBd (nthLoop Tryz.f111 0) (([.ce (I6 m), .ce (.bool r), .ce (.sl false [4] l), .ce (I6 n), .ce (I6 k)],[])) K)=(Br (k<n) ((0<=k/\k<(l.length:Int))/\∀x1,x1=el l k.toNat->Br (x1>m) (K .ret ([.ce (.bool false)],[])) (R6 (0-m)/\∀x2,x2=0-m->Br (x1<x2) (K .ret ([.ce (.bool false)],[])) (R6 (k+1)/\∀x3,x3=k+1->K .normal ([.ce (I6 m), .ce (.bool r), .ce (.sl false [4] l), .ce (I6 n), .ce (I6 x3)],[])))) (K (.exit 0) ([.ce (.bool r)],[]))):=by kernel_rfl
theorem vcBdR(l:LL)(m:Int)(Q:Res->Prop):(nfun true CBdR Tryz.f111 (bodyOf Tryz.f111) [.ce (.sl false [4] l), .ce (I6 m)] [] Q)=(((0:Int)=0/\(l.length:Int)=(l.length:Int)/\l.length<=8192/\0<=m/\m<=1099511627776)/\Bb (bdd l m) (Q ⟨.ce (.bool true),false,[],[]⟩) (Q ⟨.ce (.bool false),false,[],[]⟩)):=by kernel_rfl
def tabWthR:List (FuncId×HL.Spec):=[(110,SDf),(111,SBd)]
noncomputable def CWthR:Ctx:=⟨Tryz.prog,gam tabWthR,Tryz.f86.ntmps,[],[]⟩
theorem vcWthR(sta spa aca jea loa hia bla oga sga:Int)(pta:LL)(l:LL)(Q:Res->Prop):(nfun true CWthR Tryz.f86 (bodyOf Tryz.f86) [.agg [I6 sta,I6 spa,I6 aca,I6 jea,I6 loa,I6 hia,I6 bla,I6 oga,I6 sga, .sl false [4] pta], .ce (.sl false [4] l)] [] Q)=((l.length<=8192/\Sm (1152921504606846976:Int) l)/\(∃(x:LL),x=dfl l)/\∀(x:LL),x=dfl l->(x.length<=8192/\Sm (1152921504606846976:Int) x)/\(∃(x_1:LL),x_1=dfl x)/\∀(x_1:LL),x_1=dfl x->(x.length<=8192/\0<=spa/\spa<=1099511627776)/\∀(x3:Bool),x3=bdd x spa->Bb (x3) ((x_1.length<=8192/\0<=aca/\aca<=1099511627776)/\∀(x4:Bool),x4=bdd x_1 aca->Bb (x4) ((x_1.length<=8192/\Sm (1152921504606846976:Int) x_1)/\(∃(x:LL),x=dfl x_1)/\∀(x:LL),x=dfl x_1->(x.length<=8192/\0<=jea/\jea<=1099511627776)/\∀(x6:Bool),x6=bdd x jea->Q ⟨.ce (.bool x6),false,[],[]⟩) (Q ⟨.ce (.bool false),false,[],[]⟩)) (Q ⟨.ce (.bool false),false,[],[]⟩)):=by kernel_rfl
section
attribute [local irreducible] hfun bodyT fragT
theorem loopDfR:∀v Q,(LDf v).wp Q->hloop CDfR anDf (nthLoop Tryz.f110 0) v Q:=by
 intro v Q h;unfold LDf at h;split at h;case h_2=>exact h.elim
 rename_i l acc k;obtain⟨⟨h1,h2,h3,h4⟩,hq⟩:=h;subst h2;obtain rfl:acc=[]:=List.eq_nil_of_length_eq_zero h1;refine hloop_rec (σ:=Nat) (fun j=>([.ce (.sl false [4] l), .ce (.sl false [4] (dfN l j)), .ce (.lit true), .ce (I6 ((j:Int)+1))],[])) (fun j=>l.length-j) (fun j=>j<=l.length-1) ?_ 0 (Nat.zero_le _);intro j hj K hn he _;refine byVB (vbDfR l (dfN l j) ((j:Int)+1) K) ⟨fun g=> ?_,fun g=> ?_⟩
 . have g:=odt g;refine⟨by omega,fun x1 e1=>⟨by omega,fun x2 e2=>⟨by omega,fun x3 e3=> ?_⟩⟩⟩;rw[show((j:Int)+1).toNat=j+1 by omega]at e1;rw[show x2.toNat=j by omega]at e3;have a:=h4 j (by omega);have b:=h4 (j+1) (by omega);refine⟨by omega,fun x4 e4=>⟨⟨by rw[dfN_len];omega,by rw[dfN_len];unfold maxLen;omega⟩,by omega,fun x5 e5=> ?_⟩⟩;have:=hn (j+1) (by omega) (by omega);rw[dfN_succ,show((j+1:Nat):Int)+1=x5 by omega,show el l (j+1)-el l j=x4 by omega]at this;exact this
 . have g:=odf g;refine he _ _ ?_;obtain rfl:j=l.length-1:=by omega
   exact hq
theorem sDfR:Sound Tryz.prog 110 SDf:=by
 refine sound_of (C:=CDfR) [] Tryz.func110 (by kernel_rfl) (by decide+kernel) (by kernel_rfl) rfl trivial (loops1 (by kernel_rfl) (loopOK_of (an:=anDf) (S:=LDf) (by kernel_rfl) loopDfR)) ?_;intro hA pA R h;unfold SDf at h;split at h;case h_2=>exfalso;exact h
 rename_i l;obtain⟨hp,_,hR⟩:=h;exact byVC (vcDfR l R) ⟨⟨rfl,rfl,hp⟩,hR _ rfl⟩
theorem loopBdR:∀v Q,(LBd v).wp Q->hloop CBdR anBd (nthLoop Tryz.f111 0) v Q:=by
 intro v Q h;unfold LBd at h;split at h;case h_2=>exact h.elim
 rename_i m r l n k;obtain⟨⟨h1,h2,h3,h4⟩,hq1,hq2⟩:=h;subst h1 h2;refine hloop_rec (σ:=Nat) (fun j=>([.ce (I6 m), .ce (.bool r), .ce (.sl false [4] l), .ce (I6 (l.length:Int)), .ce (I6 (j:Int))],[])) (fun j=>l.length-j) (fun j=>j<=l.length/\bdN l m j=true) ?_ 0 ⟨Nat.zero_le _,rfl⟩;intro j⟨hj,hp⟩K hn he hr;have bad:j<l.length->¬(-m<=el l j/\el l j<=m)->K .ret ([.ce (.bool false)],[]):=fun hlt hx=>hr _ (hq2 (allN_false hlt (decide_eq_false hx)));refine byVB (vbBdR m l.length j r l K) ⟨fun g=>⟨by have:=odt g;omega,fun x1 e1=> ?_⟩,fun g=> ?_⟩
 . have g:=odt g;have e1:x1=el l j:=e1;refine⟨fun g2=>bad (by omega) (by have:=odt g2;omega),fun g2=>⟨by omega,fun x2 e2=>⟨fun g3=>bad (by omega) (by have:=odt g3;omega),fun g3=>⟨by omega,fun x3 e3=> ?_⟩⟩⟩⟩;have g2:=odf g2;have g3:=odf g3;have:=hn (j+1) ⟨by omega,by unfold bdN at hp⊢;rw[allN_succ,hp];simp;omega⟩ (by omega);rw[show((j+1:Nat):Int)=x3 by omega]at this;exact this
 . have g:=odf g;obtain rfl:j=l.length:=by omega
   exact he _ _ (hq1 hp)
theorem sBdR:Sound Tryz.prog 111 SBd:=by
 refine sound_of (C:=CBdR) [] Tryz.func111 (by kernel_rfl) (by decide+kernel) (by kernel_rfl) rfl trivial (loops1 (by kernel_rfl) (loopOK_of (an:=anBd) (S:=LBd) (by kernel_rfl) loopBdR)) ?_;intro hA pA R h;unfold SBd at h;split at h;case h_2=>exfalso;exact h
 rename_i l m;obtain⟨hp,hR⟩:=h;exact byVC (vcBdR l m R) ⟨⟨rfl,rfl,hp⟩,fun e=>by rw[e]at hR;exact hR,fun e=>by rw[e]at hR;exact hR⟩
theorem sWthR:Sound Tryz.prog 86 SWth:=by
 refine sound_of (C:=CWthR) tabWthR Tryz.func86 (by kernel_rfl) (by decide+kernel) (by kernel_rfl) rfl ⟨sDfR,sBdR,trivial⟩ (loops0 (by kernel_rfl)) ?_;intro hA pA R h;unfold SWth at h;split at h;case h_2=>exfalso;exact h
 rename_i sta spa aca jea loa hia bla oga sga pta l;obtain⟨⟨hl,hs,hli⟩,hR⟩:=h;have s1:=Sm_dfl hs;have s2:=Sm_dfl s1;refine byVC (vcWthR sta spa aca jea loa hia bla oga sga pta l R) ⟨⟨hl,Sm_mono (by decide) hs⟩,⟨_,rfl⟩,fun x e=> ?_⟩;subst e;refine⟨⟨by rw[dfl_len];omega,Sm_mono (by decide) s1⟩,⟨_,rfl⟩,fun y e=> ?_⟩;subst e;refine⟨⟨by rw[dfl_len];omega,hli.1⟩,fun x2 e2=>⟨fun g=>⟨⟨by rw[dfl_len,dfl_len];omega,hli.2.1⟩,fun x4 e4=>⟨fun g4=>⟨⟨by rw[dfl_len,dfl_len];omega,Sm_mono (by decide) s2⟩,⟨_,rfl⟩,fun z e=> ?_⟩,fun g4=> ?_⟩⟩,fun g=> ?_⟩⟩
 . subst e;refine⟨⟨by rw[dfl_len,dfl_len,dfl_len];omega,hli.2.2⟩,fun x6 e6=> ?_⟩;rw[show wth spa aca jea l=x6 by unfold wth;rw[<-e2,<-e4,<-e6,g,g4];rfl]at hR;exact hR
 . rw[show wth spa aca jea l=false by unfold wth;rw[<-e4,g4];simp]at hR;exact hR
 . rw[show wth spa aca jea l=false by unfold wth;rw[<-e2,g];rfl]at hR;exact hR
end
def anAllR:LAnn:=⟨[1,2,4,5,6,100006,9,12,13,14],[1,2,4,5,6,100006,9],[1000002],fun s=>Nat.beq s 5||Nat.beq s 9⟩
def LAllR(v:LV):LR:=match v with
 |([.ce (.sl false [4,4,4] l), .ce (.ptr 1000002 0), .ce (.bool r), .ce (.num .i64 j), .ce (.sl false [4] y), .ce (.lit true), .ce (.num .i64 j2), .ce (.sl false [4,4,4] l2), .ce (.int .i64 len), .ce (.int .i64 k)],[b])=>(match b with
  |[.int .i64 sta, .int .i64 spa, .int .i64 aca, .int .i64 jea, .int .i64 loa, .int .i64 hia, .int .i64 bla, .int .i64 oga, .int .i64 sga, .sl false [4] pta, .int .i64 stb, .int .i64 spb, .int .i64 acb, .int .i64 jeb, .int .i64 lob, .int .i64 hib, .int .i64 blb, .int .i64 ogb, .int .i64 sgb, .sl false [4] ptb, .int .i64 stc, .int .i64 spc, .int .i64 acc, .int .i64 jec, .int .i64 loc, .int .i64 hic, .int .i64 blc, .int .i64 ogc, .int .i64 sgc, .sl false [4] ptc]=> .det ((0<=j/\j<=2)/\y.length=0/\l2=l/\len=l.length/\k=0/\l.length<=8192) (.exit 2) ([.ce (.sl false [4,4,4] l), .ce (.ptr 1000002 0), .ce (.bool r), .ce (.num .i64 j), .ce (.sl false [4] (col l j.toNat)), .ce (.lit true), .ce (.num .i64 j2)],[[I6 sta,I6 spa,I6 aca,I6 jea,I6 loa,I6 hia,I6 bla,I6 oga,I6 sga, .sl false [4] pta,I6 stb,I6 spb,I6 acb,I6 jeb,I6 lob,I6 hib,I6 blb,I6 ogb,I6 sgb, .sl false [4] ptb,I6 stc,I6 spc,I6 acc,I6 jec,I6 loc,I6 hic,I6 blc,I6 ogc,I6 sgc, .sl false [4] ptc]])
  |_=> .fail)
 |_=> .fail
def tabAllR:List (FuncId×HL.Spec):=[(86,SWth)]
noncomputable def CAllR:Ctx:=⟨Tryz.prog,gam tabAllR,Tryz.f47.ntmps,[(4000002,unrT [1000002],fun _=> .fail),(6,anAllR,LAllR)],[]⟩
theorem vbAllR0(l y:LL)(r:Bool)(j2 len k:Int)(sta spa aca jea loa hia bla oga sga stb spb acb jeb lob hib blb ogb sgb stc spc acc jec loc hic blc ogc sgc:Int)(pta ptb ptc:LL)(K:HEx->LV->Prop):(nbodyT true CAllR anAllR (nthLoop Tryz.f47 1) (([.ce (.sl false [4,4,4] l), .ce (.ptr 1000002 0), .ce (.bool r), .ce (.num .i64 0), .ce (.sl false [4] y), .ce (.lit true), .ce (.num .i64 j2), .ce (.sl false [4,4,4] l), .ce (I6 len), .ce (I6 k)],[[I6 sta,I6 spa,I6 aca,I6 jea,I6 loa,I6 hia,I6 bla,I6 oga,I6 sga, .sl false [4] pta,I6 stb,I6 spb,I6 acb,I6 jeb,I6 lob,I6 hib,I6 blb,I6 ogb,I6 sgb, .sl false [4] ptb,I6 stc,I6 spc,I6 acc,I6 jec,I6 loc,I6 hic,I6 blc,I6 ogc,I6 sgc, .sl false [4] ptc]])) K)=(Br (k<len) ((0<=k/\k<(l.length:Int))/\((y.length+1)*8<=140737488355328/\y.length+1<=maxLen)/\R6 (k+1)/\∀x1,x1=k+1->K .normal ([.ce (.sl false [4,4,4] l), .ce (.ptr 1000002 0), .ce (.bool r), .ce (.num .i64 0), .ce (.sl false [4] (y++[[el l k.toNat]])), .ce (.lit true), .ce (.num .i64 j2), .ce (.sl false [4,4,4] l), .ce (I6 len), .ce (I6 x1)],[[I6 sta,I6 spa,I6 aca,I6 jea,I6 loa,I6 hia,I6 bla,I6 oga,I6 sga, .sl false [4] pta,I6 stb,I6 spb,I6 acb,I6 jeb,I6 lob,I6 hib,I6 blb,I6 ogb,I6 sgb, .sl false [4] ptb,I6 stc,I6 spc,I6 acc,I6 jec,I6 loc,I6 hic,I6 blc,I6 ogc,I6 sgc, .sl false [4] ptc]])) (K (.exit 2) ([.ce (.sl false [4,4,4] l), .ce (.ptr 1000002 0), .ce (.bool r), .ce (.num .i64 0), .ce (.sl false [4] y), .ce (.lit true), .ce (.num .i64 j2)],[[I6 sta,I6 spa,I6 aca,I6 jea,I6 loa,I6 hia,I6 bla,I6 oga,I6 sga, .sl false [4] pta,I6 stb,I6 spb,I6 acb,I6 jeb,I6 lob,I6 hib,I6 blb,I6 ogb,I6 sgb, .sl false [4] ptb,I6 stc,I6 spc,I6 acc,I6 jec,I6 loc,I6 hic,I6 blc,I6 ogc,I6 sgc, .sl false [4] ptc]]))):=by kernel_rfl
theorem vbAllR1(l y:LL)(r:Bool)(j2 len k:Int)(sta spa aca jea loa hia bla oga sga stb spb acb jeb lob hib blb ogb sgb stc spc acc jec loc hic blc ogc sgc:Int)(pta ptb ptc:LL)(K:HEx->LV->Prop):(nbodyT true CAllR anAllR (nthLoop Tryz.f47 1) (([.ce (.sl false [4,4,4] l), .ce (.ptr 1000002 0), .ce (.bool r), .ce (.num .i64 1), .ce (.sl false [4] y), .ce (.lit true), .ce (.num .i64 j2), .ce (.sl false [4,4,4] l), .ce (I6 len), .ce (I6 k)],[[I6 sta,I6 spa,I6 aca,I6 jea,I6 loa,I6 hia,I6 bla,I6 oga,I6 sga, .sl false [4] pta,I6 stb,I6 spb,I6 acb,I6 jeb,I6 lob,I6 hib,I6 blb,I6 ogb,I6 sgb, .sl false [4] ptb,I6 stc,I6 spc,I6 acc,I6 jec,I6 loc,I6 hic,I6 blc,I6 ogc,I6 sgc, .sl false [4] ptc]])) K)=(Br (k<len) ((0<=k/\k<(l.length:Int))/\((y.length+1)*8<=140737488355328/\y.length+1<=maxLen)/\R6 (k+1)/\∀x1,x1=k+1->K .normal ([.ce (.sl false [4,4,4] l), .ce (.ptr 1000002 0), .ce (.bool r), .ce (.num .i64 1), .ce (.sl false [4] (y++[[ec l k.toNat 1]])), .ce (.lit true), .ce (.num .i64 j2), .ce (.sl false [4,4,4] l), .ce (I6 len), .ce (I6 x1)],[[I6 sta,I6 spa,I6 aca,I6 jea,I6 loa,I6 hia,I6 bla,I6 oga,I6 sga, .sl false [4] pta,I6 stb,I6 spb,I6 acb,I6 jeb,I6 lob,I6 hib,I6 blb,I6 ogb,I6 sgb, .sl false [4] ptb,I6 stc,I6 spc,I6 acc,I6 jec,I6 loc,I6 hic,I6 blc,I6 ogc,I6 sgc, .sl false [4] ptc]])) (K (.exit 2) ([.ce (.sl false [4,4,4] l), .ce (.ptr 1000002 0), .ce (.bool r), .ce (.num .i64 1), .ce (.sl false [4] y), .ce (.lit true), .ce (.num .i64 j2)],[[I6 sta,I6 spa,I6 aca,I6 jea,I6 loa,I6 hia,I6 bla,I6 oga,I6 sga, .sl false [4] pta,I6 stb,I6 spb,I6 acb,I6 jeb,I6 lob,I6 hib,I6 blb,I6 ogb,I6 sgb, .sl false [4] ptb,I6 stc,I6 spc,I6 acc,I6 jec,I6 loc,I6 hic,I6 blc,I6 ogc,I6 sgc, .sl false [4] ptc]]))):=by kernel_rfl
theorem vbAllR2(l y:LL)(r:Bool)(j2 len k:Int)(sta spa aca jea loa hia bla oga sga stb spb acb jeb lob hib blb ogb sgb stc spc acc jec loc hic blc ogc sgc:Int)(pta ptb ptc:LL)(K:HEx->LV->Prop):(nbodyT true CAllR anAllR (nthLoop Tryz.f47 1) (([.ce (.sl false [4,4,4] l), .ce (.ptr 1000002 0), .ce (.bool r), .ce (.num .i64 2), .ce (.sl false [4] y), .ce (.lit true), .ce (.num .i64 j2), .ce (.sl false [4,4,4] l), .ce (I6 len), .ce (I6 k)],[[I6 sta,I6 spa,I6 aca,I6 jea,I6 loa,I6 hia,I6 bla,I6 oga,I6 sga, .sl false [4] pta,I6 stb,I6 spb,I6 acb,I6 jeb,I6 lob,I6 hib,I6 blb,I6 ogb,I6 sgb, .sl false [4] ptb,I6 stc,I6 spc,I6 acc,I6 jec,I6 loc,I6 hic,I6 blc,I6 ogc,I6 sgc, .sl false [4] ptc]])) K)=(Br (k<len) ((0<=k/\k<(l.length:Int))/\((y.length+1)*8<=140737488355328/\y.length+1<=maxLen)/\R6 (k+1)/\∀x1,x1=k+1->K .normal ([.ce (.sl false [4,4,4] l), .ce (.ptr 1000002 0), .ce (.bool r), .ce (.num .i64 2), .ce (.sl false [4] (y++[[ec l k.toNat 2]])), .ce (.lit true), .ce (.num .i64 j2), .ce (.sl false [4,4,4] l), .ce (I6 len), .ce (I6 x1)],[[I6 sta,I6 spa,I6 aca,I6 jea,I6 loa,I6 hia,I6 bla,I6 oga,I6 sga, .sl false [4] pta,I6 stb,I6 spb,I6 acb,I6 jeb,I6 lob,I6 hib,I6 blb,I6 ogb,I6 sgb, .sl false [4] ptb,I6 stc,I6 spc,I6 acc,I6 jec,I6 loc,I6 hic,I6 blc,I6 ogc,I6 sgc, .sl false [4] ptc]])) (K (.exit 2) ([.ce (.sl false [4,4,4] l), .ce (.ptr 1000002 0), .ce (.bool r), .ce (.num .i64 2), .ce (.sl false [4] y), .ce (.lit true), .ce (.num .i64 j2)],[[I6 sta,I6 spa,I6 aca,I6 jea,I6 loa,I6 hia,I6 bla,I6 oga,I6 sga, .sl false [4] pta,I6 stb,I6 spb,I6 acb,I6 jeb,I6 lob,I6 hib,I6 blb,I6 ogb,I6 sgb, .sl false [4] ptb,I6 stc,I6 spc,I6 acc,I6 jec,I6 loc,I6 hic,I6 blc,I6 ogc,I6 sgc, .sl false [4] ptc]]))):=by kernel_rfl
theorem vcAllR(l:LL)(sta spa aca jea loa hia bla oga sga stb spb acb jeb lob hib blb ogb sgb stc spc acc jec loc hic blc ogc sgc:Int)(pta ptb ptc:LL)(Q:Res->Prop):(nfun true CAllR Tryz.f47 (bodyOf Tryz.f47) [.agg [I6 sta,I6 spa,I6 aca,I6 jea,I6 loa,I6 hia,I6 bla,I6 oga,I6 sga, .sl false [4] pta,I6 stb,I6 spb,I6 acb,I6 jeb,I6 lob,I6 hib,I6 blb,I6 ogb,I6 sgb, .sl false [4] ptb,I6 stc,I6 spc,I6 acc,I6 jec,I6 loc,I6 hic,I6 blc,I6 ogc,I6 sgc, .sl false [4] ptc], .ce (.sl false [4,4,4] l)] [] Q)=((((0:Int)<=0/\(0:Int)<=2)/\(0:Nat)=0/\l=l/\(l.length:Int)=(l.length:Int)/\(0:Int)=0/\l.length<=8192)/\(List.length (col l (0:Nat))<=8192/\Sm (1125899906842624:Int) (col l (0:Nat))/\okLi spa aca jea)/\∀(x1:Bool),x1=wth spa aca jea (col l (0:Nat))->Bb (!x1) (Q ⟨.ce (.bool false),false,[],[]⟩) ((((0:Int)<=1/\(1:Int)<=2)/\(0:Nat)=0/\l=l/\(l.length:Int)=(l.length:Int)/\(0:Int)=0/\l.length<=8192)/\(List.length (col l (1:Nat))<=8192/\Sm (1125899906842624:Int) (col l (1:Nat))/\okLi spb acb jeb)/\∀(x2:Bool),x2=wth spb acb jeb (col l (1:Nat))->Bb (!x2) (Q ⟨.ce (.bool false),false,[],[]⟩) ((((0:Int)<=2/\(2:Int)<=2)/\(0:Nat)=0/\l=l/\(l.length:Int)=(l.length:Int)/\(0:Int)=0/\l.length<=8192)/\(List.length (col l (2:Nat))<=8192/\Sm (1125899906842624:Int) (col l (2:Nat))/\okLi spc acc jec)/\∀(x3:Bool),x3=wth spc acc jec (col l (2:Nat))->Bb (!x3) (Q ⟨.ce (.bool false),false,[],[]⟩) (Q ⟨.ce (.bool true),false,[],[]⟩)))):=by kernel_rfl
section
attribute [local irreducible] hfun bodyT fragT
theorem loopAllR:∀v Q,(LAllR v).wp Q->hloop CAllR anAllR (nthLoop Tryz.f47 1) v Q:=by
 intro v Q h;unfold LAllR at h;split at h;case h_2=>exact h.elim
 rename_i l r j y j2 l2 len k b;split at h;case h_2=>exact h.elim
 rename_i sta spa aca jea loa hia bla oga sga pta stb spb acb jeb lob hib blb ogb sgb ptb stc spc acc jec loc hic blc ogc sgc ptc;obtain⟨⟨h1,h2,rfl,rfl,rfl,h6⟩,hq⟩:=h;obtain rfl:y=[]:=List.eq_nil_of_length_eq_zero h2;have hj:j=0∨j=1∨j=2:=by omega
 rcases hj with rfl|rfl|rfl
 . refine hloop_rec (σ:=Nat) (fun i=>([.ce (.sl false [4,4,4] l2), .ce (.ptr 1000002 0), .ce (.bool r), .ce (.num .i64 0), .ce (.sl false [4] (colN l2 0 i)), .ce (.lit true), .ce (.num .i64 j2), .ce (.sl false [4,4,4] l2), .ce (I6 (l2.length:Int)), .ce (I6 (i:Int))],[[I6 sta,I6 spa,I6 aca,I6 jea,I6 loa,I6 hia,I6 bla,I6 oga,I6 sga, .sl false [4] pta,I6 stb,I6 spb,I6 acb,I6 jeb,I6 lob,I6 hib,I6 blb,I6 ogb,I6 sgb, .sl false [4] ptb,I6 stc,I6 spc,I6 acc,I6 jec,I6 loc,I6 hic,I6 blc,I6 ogc,I6 sgc, .sl false [4] ptc]])) (fun i=>l2.length-i) (fun i=>i<=l2.length) ?_ 0 (Nat.zero_le _);intro i hi K hn he hr;have hc:(colN l2 0 i).length=i:=by simp[colN]
   refine byVB (vbAllR0 l2 (colN l2 0 i) r j2 l2.length i sta spa aca jea loa hia bla oga sga stb spb acb jeb lob hib blb ogb sgb stc spc acc jec loc hic blc ogc sgc pta ptb ptc K) ⟨fun c=> ?_,fun c=> ?_⟩
   . have c:=odt c;refine⟨by omega,⟨by omega,by unfold maxLen;omega⟩,by omega,fun x1 e1=> ?_⟩;have g:=hn (i+1) (by omega) (by omega);rw[colN_succ,show((i+1:Nat):Int)=x1 by omega]at g;exact g
   . have c:=odf c;obtain rfl:i=l2.length:=by omega
     exact he _ _ hq
 . refine hloop_rec (σ:=Nat) (fun i=>([.ce (.sl false [4,4,4] l2), .ce (.ptr 1000002 0), .ce (.bool r), .ce (.num .i64 1), .ce (.sl false [4] (colN l2 1 i)), .ce (.lit true), .ce (.num .i64 j2), .ce (.sl false [4,4,4] l2), .ce (I6 (l2.length:Int)), .ce (I6 (i:Int))],[[I6 sta,I6 spa,I6 aca,I6 jea,I6 loa,I6 hia,I6 bla,I6 oga,I6 sga, .sl false [4] pta,I6 stb,I6 spb,I6 acb,I6 jeb,I6 lob,I6 hib,I6 blb,I6 ogb,I6 sgb, .sl false [4] ptb,I6 stc,I6 spc,I6 acc,I6 jec,I6 loc,I6 hic,I6 blc,I6 ogc,I6 sgc, .sl false [4] ptc]])) (fun i=>l2.length-i) (fun i=>i<=l2.length) ?_ 0 (Nat.zero_le _);intro i hi K hn he hr;have hc:(colN l2 1 i).length=i:=by simp[colN]
   refine byVB (vbAllR1 l2 (colN l2 1 i) r j2 l2.length i sta spa aca jea loa hia bla oga sga stb spb acb jeb lob hib blb ogb sgb stc spc acc jec loc hic blc ogc sgc pta ptb ptc K) ⟨fun c=> ?_,fun c=> ?_⟩
   . have c:=odt c;refine⟨by omega,⟨by omega,by unfold maxLen;omega⟩,by omega,fun x1 e1=> ?_⟩;have g:=hn (i+1) (by omega) (by omega);rw[colN_succ,show((i+1:Nat):Int)=x1 by omega]at g;exact g
   . have c:=odf c;obtain rfl:i=l2.length:=by omega
     exact he _ _ hq
 . refine hloop_rec (σ:=Nat) (fun i=>([.ce (.sl false [4,4,4] l2), .ce (.ptr 1000002 0), .ce (.bool r), .ce (.num .i64 2), .ce (.sl false [4] (colN l2 2 i)), .ce (.lit true), .ce (.num .i64 j2), .ce (.sl false [4,4,4] l2), .ce (I6 (l2.length:Int)), .ce (I6 (i:Int))],[[I6 sta,I6 spa,I6 aca,I6 jea,I6 loa,I6 hia,I6 bla,I6 oga,I6 sga, .sl false [4] pta,I6 stb,I6 spb,I6 acb,I6 jeb,I6 lob,I6 hib,I6 blb,I6 ogb,I6 sgb, .sl false [4] ptb,I6 stc,I6 spc,I6 acc,I6 jec,I6 loc,I6 hic,I6 blc,I6 ogc,I6 sgc, .sl false [4] ptc]])) (fun i=>l2.length-i) (fun i=>i<=l2.length) ?_ 0 (Nat.zero_le _);intro i hi K hn he hr;have hc:(colN l2 2 i).length=i:=by simp[colN]
   refine byVB (vbAllR2 l2 (colN l2 2 i) r j2 l2.length i sta spa aca jea loa hia bla oga sga stb spb acb jeb lob hib blb ogb sgb stc spc acc jec loc hic blc ogc sgc pta ptb ptc K) ⟨fun c=> ?_,fun c=> ?_⟩
   . have c:=odt c;refine⟨by omega,⟨by omega,by unfold maxLen;omega⟩,by omega,fun x1 e1=> ?_⟩;have g:=hn (i+1) (by omega) (by omega);rw[colN_succ,show((i+1:Nat):Int)=x1 by omega]at g;exact g
   . have c:=odf c;obtain rfl:i=l2.length:=by omega
     exact he _ _ hq
theorem sAllR:Sound Tryz.prog 47 SAll:=by
 refine sound_of (C:=CAllR) tabAllR Tryz.func47 (by kernel_rfl) (by decide+kernel) (by kernel_rfl) rfl ⟨sWthR,trivial⟩ (loopsK [nthLoop Tryz.f47 1] [] (by kernel_rfl) (by kernel_rfl) ⟨loopOK_of (an:=anAllR) (S:=LAllR) (by kernel_rfl) loopAllR,trivial⟩ trivial) ?_;intro hA pA R h;unfold SAll at h;split at h;case h_2=>exfalso;exact h
 rename_i ax l;split at h;case h_2=>exact h.elim
 rename_i sta spa aca jea loa hia bla oga sga pta stb spb acb jeb lob hib blb ogb sgb ptb stc spc acc jec loc hic blc ogc sgc ptc;obtain⟨⟨hl,hs,h0,h1,h2⟩,hR⟩:=h;obtain⟨c0,c1,c2⟩:=Sm_col hs;have cl:∀c,(col l c).length<=8192:=fun c=>by rw[col_len];exact hl
 refine byVC (vcAllR l sta spa aca jea loa hia bla oga sga stb spb acb jeb lob hib blb ogb sgb stc spc acc jec loc hic blc ogc sgc pta ptb ptc R) ⟨⟨by decide,rfl,rfl,rfl,rfl,hl⟩,⟨cl 0,c0,h0⟩,fun x1 e1=>⟨fun g=> ?_,fun g=>⟨⟨by decide,rfl,rfl,rfl,rfl,hl⟩,⟨cl 1,c1,h1⟩,fun x2 e2=>⟨fun g2=> ?_,fun g2=>⟨⟨by decide,rfl,rfl,rfl,rfl,hl⟩,⟨cl 2,c2,h2⟩,fun x3 e3=> ?_⟩⟩⟩⟩⟩
 . rw[show wth3 spa aca jea spb acb jeb spc acc jec l=false by unfold wth3;rw[<-e1];cases x1<;>simp at g⊢]at hR;exact hR
 . rw[show wth3 spa aca jea spb acb jeb spc acc jec l=false by unfold wth3;rw[<-e2];cases x2<;>simp at g2⊢]at hR;exact hR
 . have w:wth3 spa aca jea spb acb jeb spc acc jec l=x3:=by unfold wth3;rw[<-e1,<-e2,<-e3];cases x1<;>cases x2<;>simp at g g2⊢
   rw[w]at hR;refine⟨fun g3=> ?_,fun g3=> ?_⟩
   . cases x3<;>simp at g3;exact hR
   . cases x3<;>simp at g3;exact hR
end
end Go.Proofs.YtoekmphdpepdbaaGreat
namespace U
open Go
def pm(x:Int):Prop:=x=1∨x= -1
def sq3(a0 a1 a2 b0 b1 b2:Int):Int:=(a0-b0)*(a0-b0)+(a1-b1)*(a1-b1)+(a2-b2)*(a2-b2)
def rootOK(n q b:Int):Prop:=(0<=n/\n<=1152921504606846976)/\(0<=q/\q<=2147483648)/\q*q<=n/\((b=0/\n<(q+1)*(q+1))∨∃k:Nat,k<=30/\b=2^k/\n<(q+2*b)*(q+2*b))
def b3(B a0 a1 a2:Int):Prop:=(-B<=a0/\a0<=B)/\(-B<=a1/\a1<=B)/\(-B<=a2/\a2<=B)
def isLen(a0 a1 a2 b0 b1 b2 l:Int):Prop:=(-l<=a0-b0/\a0-b0<=l)/\(-l<=a1-b1/\a1-b1<=l)/\(-l<=a2-b2/\a2-b2<=l)/\∀D,0<=D->b3 D (a0-b0) (a1-b1) (a2-b2)->l<=2*D
end U
namespace Go.Proofs.YtoekmphdpepdbaaGreat
open Go Go.HL U
def SLeft(hA:List HV)(pA:List (List HC)):SR:=match hA,pA with
 |[.ce (.ptr 0 0)],[[.sl false [4] l, .int .i64 p]]=> .det True ⟨.ce (.bool (decide (p<l.length))),false,[[.sl false [4] l,I6 p]],[]⟩
 |_,_=> .fail
noncomputable def CLeft:Ctx:=⟨Tryz.prog,gam [],Tryz.f21.ntmps,[],[]⟩
theorem vcLeft(l:LL)(p:Int)(Q:Res->Prop):(nfun true CLeft Tryz.f21 (bodyOf Tryz.f21) [.ce (.ptr 0 0)] [[.sl false [4] l,I6 p]] Q)=(Q {val:= .ce (.bool (decide (p<(l.length:Int)))),own:=false,pars:=[[.sl false [4] l,I6 p]],news:=[]}):=by kernel_rfl
def SDirs(hA:List HV)(pA:List (List HC)):SR:=match hA,pA with
 |[.ce (.int .i64 n)],[]=> .all True (Int×Int×Int) (fun x=>pm x.1/\pm x.2.1/\pm x.2.2) (fun x=>⟨.agg [I6 x.1,I6 x.2.1,I6 x.2.2],false,[],[]⟩)
 |_,_=> .fail
def tabDirs:List (FuncId×HL.Spec):=[(15,SMod)]
noncomputable def CDirs:Ctx:=⟨Tryz.prog,gam tabDirs,Tryz.f40.ntmps,[],[]⟩
theorem vcDirs(n:Int)(Q:Res->Prop):(nfun true CDirs Tryz.f40 (bodyOf Tryz.f40) [.ce (I6 n)] [] Q)=(((0:Int)<8/\(8:Int)<=4611686018427387904)/\∀x1,x1=n%8->(2:Int)≠(0:Int)/\∀x2,x2=Int.tmod x1 2->R6 (x2*2)/\∀x3,x3=x2*2->(-9223372036854775808<=1-x3/\(1:Int)-x3<=9223372036854775807)/\∀x4,x4=1-x3->(2:Int)≠(0:Int)/\R6 (Int.tdiv x1 2)/\∀x5,x5=Int.tdiv x1 2->(2:Int)≠(0:Int)/\∀x6,x6=Int.tmod x5 2->R6 (x6*2)/\∀x7,x7=x6*2->(-9223372036854775808<=1-x7/\(1:Int)-x7<=9223372036854775807)/\∀x8,x8=1-x7->(4:Int)≠(0:Int)/\R6 (Int.tdiv x1 4)/\∀x9,x9=Int.tdiv x1 4->R6 (x9*2)/\∀x10,x10=x9*2->(-9223372036854775808<=1-x10/\(1:Int)-x10<=9223372036854775807)/\∀x11,x11=1-x10->Q ⟨.agg [I6 x4,I6 x8,I6 x11],false,[],[]⟩):=by kernel_rfl
def SPlane(hA:List HV)(pA:List (List HC)):SR:=match hA,pA with
 |[.agg [.int .i64 p0, .int .i64 p1, .int .i64 p2], .ce (.int .i64 k)],[]=> .all True (Int×Int×Int) (fun x=>∀B:Int,0<=B->b3 B p0 p1 p2->b3 B x.1 x.2.1 x.2.2) (fun x=>⟨.tup [.ce (I6 x.1), .ce (I6 x.2.1), .ce (I6 x.2.2)],false,[],[]⟩)
 |_,_=> .fail
noncomputable def CPlane:Ctx:=⟨Tryz.prog,gam [],Tryz.f115.ntmps,[],[]⟩
theorem vcPlane(p0 p1 p2 k:Int)(Q:Res->Prop):(nfun true CPlane Tryz.f115 (bodyOf Tryz.f115) [.agg [I6 p0,I6 p1,I6 p2], .ce (I6 k)] [] Q)=(Bb (k==17) (Q ⟨.tup [.ce (I6 p0), .ce (I6 p1), .ce (I6 p2)],false,[],[]⟩) (Bb (k==18) (Q ⟨.tup [.ce (I6 p2), .ce (I6 p0), .ce (I6 p1)],false,[],[]⟩) (Bb (k==19) (Q ⟨.tup [.ce (I6 p1), .ce (I6 p2), .ce (I6 p0)],false,[],[]⟩) (Q ⟨.tup [.ce (I6 0), .ce (I6 0), .ce (I6 0)],false,[],[]⟩)))):=by kernel_rfl
def SSpace(hA:List HV)(pA:List (List HC)):SR:=match hA,pA with
 |[.ce (.int .i64 p0), .ce (.int .i64 p1), .ce (.int .i64 p2), .ce (.int .i64 k)],[]=> .all True (Int×Int×Int) (fun x=>∀B:Int,0<=B->b3 B p0 p1 p2->b3 B x.1 x.2.1 x.2.2) (fun x=>⟨.agg [I6 x.1,I6 x.2.1,I6 x.2.2],false,[],[]⟩)
 |_,_=> .fail
noncomputable def CSpace:Ctx:=⟨Tryz.prog,gam [],Tryz.f117.ntmps,[],[]⟩
theorem vcSpace(p0 p1 p2 k:Int)(Q:Res->Prop):(nfun true CSpace Tryz.f117 (bodyOf Tryz.f117) [.ce (I6 p0), .ce (I6 p1), .ce (I6 p2), .ce (I6 k)] [] Q)=(Bb (k==17) (Q ⟨.agg [I6 p0,I6 p1,I6 p2],false,[],[]⟩) (Bb (k==18) (Q ⟨.agg [I6 p1,I6 p2,I6 p0],false,[],[]⟩) (Bb (k==19) (Q ⟨.agg [I6 p2,I6 p0,I6 p1],false,[],[]⟩) (Q ⟨.agg [I6 0,I6 0,I6 0],false,[],[]⟩)))):=by kernel_rfl
def STurned(hA:List HV)(pA:List (List HC)):SR:=match hA,pA with
 |[.ce (.int .i64 r), .ce (.int .i64 k)],[]=> .all ((0<=r/\r<=1073741824)/\0<=k) (Int×Int) (fun x=>(-r<=x.1/\x.1<=r)/\(-r<=x.2/\x.2<=r)) (fun x=>⟨.tup [.ce (I6 x.1), .ce (I6 x.2)],false,[],[]⟩)
 |_,_=> .fail
noncomputable def CTurned:Ctx:=⟨Tryz.prog,gam [],Tryz.f116.ntmps,[],[]⟩
theorem vcTurned(r k:Int)(Q:Res->Prop):(nfun true CTurned Tryz.f116 (bodyOf Tryz.f116) [.ce (I6 r), .ce (I6 k)] [] Q)=(R6 (0-r)/\∀x1,x1=0-r->(4:Int)≠(0:Int)/\∀x2,x2=Int.tmod k 4->(0<=x2/\x2<(((4:Nat):Nat):Int))/\∀x3,x3=el [[r],[(0:Int)],[x1],[(0:Int)]] x2.toNat->R6 (0-r)/\∀x4,x4=0-r->(4:Int)≠(0:Int)/\∀x5,x5=Int.tmod k 4->(0<=x5/\x5<(((4:Nat):Nat):Int))/\∀x6,x6=el [[(0:Int)],[r],[(0:Int)],[x4]] x5.toNat->Q ⟨.tup [.ce (I6 x3), .ce (I6 x6)],false,[],[]⟩):=by kernel_rfl
def SFine(hA:List HV)(pA:List (List HC)):SR:=match hA,pA with
 |[.agg [.int .i64 p0, .int .i64 p1, .int .i64 p2]],[]=> .det (b3 1073741824 p0 p1 p2) ⟨.agg [I6 (p0*16),I6 (p1*16),I6 (p2*16)],false,[],[]⟩
 |_,_=> .fail
noncomputable def CFine:Ctx:=⟨Tryz.prog,gam [],Tryz.f68.ntmps,[],[]⟩
theorem vcFine(p0 p1 p2:Int)(Q:Res->Prop):(nfun true CFine Tryz.f68 (bodyOf Tryz.f68) [.agg [I6 p0,I6 p1,I6 p2]] [] Q)=(R6 (p0*16)/\∀x1,x1=p0*16->R6 (p1*16)/\∀x2,x2=p1*16->R6 (p2*16)/\∀x3,x3=p2*16->Q ⟨.agg [I6 x1,I6 x2,I6 x3],false,[],[]⟩):=by kernel_rfl
def SSquare(hA:List HV)(pA:List (List HC)):SR:=match hA,pA with
 |[.agg [.int .i64 a0, .int .i64 a1, .int .i64 a2], .agg [.int .i64 c0, .int .i64 c1, .int .i64 c2]],[]=> .det (b3 268435456 a0 a1 a2/\b3 268435456 c0 c1 c2) ⟨.ce (I6 (sq3 a0 a1 a2 c0 c1 c2)),false,[],[]⟩
 |_,_=> .fail
noncomputable def CSquare:Ctx:=⟨Tryz.prog,gam [],Tryz.f105.ntmps,[(4000003,⟨[],[5],[1000002,1000003],true⟩,fun _=> .fail)],[]⟩
theorem vcSquare(a0 a1 a2 c0 c1 c2:Int)(Q:Res->Prop):(nfun true CSquare Tryz.f105 (bodyOf Tryz.f105) [.agg [I6 a0,I6 a1,I6 a2], .agg [I6 c0,I6 c1,I6 c2]] [] Q)=(R6 (a0-c0)/\∀x1,x1=a0-c0->R6 (a0-c0)/\∀x2,x2=a0-c0->R6 (x1*x2)/\∀x3,x3=x1*x2->(-9223372036854775808<=0+x3/\(0:Int)+x3<=9223372036854775807)/\∀x4,x4=0+x3->R6 (a1-c1)/\∀x5,x5=a1-c1->R6 (a1-c1)/\∀x6,x6=a1-c1->R6 (x5*x6)/\∀x7,x7=x5*x6->R6 (x4+x7)/\∀x8,x8=x4+x7->R6 (a2-c2)/\∀x9,x9=a2-c2->(-9223372036854775808<=a2-c2/\a2-c2<=9223372036854775807)/\∀x10,x10=a2-c2->R6 (x9*x10)/\∀x11,x11=x9*x10->R6 (x8+x11)/\∀x12,x12=x8+x11->Q ⟨.ce (I6 x12),false,[],[]⟩):=by kernel_rfl
def SRoot(hA:List HV)(pA:List (List HC)):SR:=match hA,pA with
 |[.ce (.int .i64 n)],[]=> .all (0<=n/\n<=1152921504606846976) Int (fun q=>0<=q/\q*q<=n/\n<(q+1)*(q+1)) (fun q=>⟨.ce (I6 q),false,[],[]⟩)
 |_,_=> .fail
def anRoot:LAnn:=⟨[0,2,3,4],[2,3],[],false⟩
def LRoot(v:LV):LR:=match v with
 |([.ce (.int .i64 n), .ce (.int .i64 z), .ce (.int .i64 q), .ce (.int .i64 b)],[])=> .all (rootOK n q b) Int (fun x=>0<=x/\x*x<=n/\n<(x+1)*(x+1)) (fun _=> .exit 0) (fun x=>([.ce (I6 z), .ce (I6 x)],[]))
 |_=> .fail
noncomputable def CRoot:Ctx:=⟨Tryz.prog,gam [],Tryz.f106.ntmps,[(3,anRoot,LRoot)],[]⟩
theorem vbRoot(n z q b:Int)(K:HEx->LV->Prop):(nbodyT true CRoot anRoot (nthLoop Tryz.f106 0) (([.ce (I6 n), .ce (I6 z), .ce (I6 q), .ce (I6 b)],[])) K)=(Br (b>0) (R6 (q+b)/\∀x1,x1=q+b->R6 (q+b)/\∀x2,x2=q+b->R6 (x1*x2)/\∀x3,x3=x1*x2->Br (x3<=n) (R6 (q+b)/\∀x4,x4=q+b->(0:Int)<=1/\∀x5,x5=b/2->K .normal ([.ce (I6 n), .ce (I6 z), .ce (I6 x4), .ce (I6 x5)],[])) ((0:Int)<=1/\∀x6,x6=b/2->K .normal ([.ce (I6 n), .ce (I6 z), .ce (I6 q), .ce (I6 x6)],[]))) (K (.exit 0) ([.ce (I6 z), .ce (I6 q)],[]))):=by kernel_rfl
theorem vcRoot(n:Int)(Q:Res->Prop):(nfun true CRoot Tryz.f106 (bodyOf Tryz.f106) [.ce (I6 n)] [] Q)=(rootOK n (0:Int) (1073741824:Int)/\∀(x:Int),0<=x/\x*x<=n/\n<(x+1)*(x+1)->Q ⟨.ce (I6 x),false,[],[]⟩):=by kernel_rfl
def SLength(hA:List HV)(pA:List (List HC)):SR:=match hA,pA with
 |[.agg [.int .i64 a0, .int .i64 a1, .int .i64 a2], .agg [.int .i64 c0, .int .i64 c1, .int .i64 c2]],[]=> .all (b3 268435456 a0 a1 a2/\b3 268435456 c0 c1 c2) Int (isLen a0 a1 a2 c0 c1 c2) (fun x=>⟨.ce (I6 x),false,[],[]⟩)
 |_,_=> .fail
def tabLength:List (FuncId×HL.Spec):=[(105,SSquare),(106,SRoot)]
noncomputable def CLength:Ctx:=⟨Tryz.prog,gam tabLength,Tryz.f72.ntmps,[],[]⟩
theorem vcLength(a0 a1 a2 c0 c1 c2:Int)(Q:Res->Prop):(nfun true CLength Tryz.f72 (bodyOf Tryz.f72) [.agg [I6 a0,I6 a1,I6 a2], .agg [I6 c0,I6 c1,I6 c2]] [] Q)=((b3 268435456 a0 a1 a2/\b3 268435456 c0 c1 c2)/\∀x1,x1=sq3 a0 a1 a2 c0 c1 c2->(0<=x1/\x1<=1152921504606846976)/\(∃(x:Int),0<=x/\x*x<=x1/\x1<(x+1)*(x+1))/\∀(x:Int),0<=x/\x*x<=x1/\x1<(x+1)*(x+1)->R6 (x*x)/\∀x3,x3=x*x->Br (x3<x1) (R6 (x+1)/\∀x4,x4=x+1->Q ⟨.ce (I6 x4),false,[],[]⟩) (Q ⟨.ce (I6 x),false,[],[]⟩)):=by kernel_rfl
def SSmall(hA:List HV)(pA:List (List HC)):SR:=match hA,pA with
 |[.agg [.int .i64 p0, .int .i64 p1, .int .i64 p2], .ce (.int .i64 m)],[]=> .det (0<=m/\m<=1073741824/\b3 m p0 p1 p2) ⟨.ce (.bool true),false,[],[]⟩
 |_,_=> .fail
noncomputable def CSmall:Ctx:=⟨Tryz.prog,gam [],Tryz.f142.ntmps,[(4000002,⟨[],[4],[1000002],true⟩,fun _=> .fail)],[]⟩
theorem vcSmall(p0 p1 p2 m:Int)(Q:Res->Prop):(nfun true CSmall Tryz.f142 (bodyOf Tryz.f142) [.agg [I6 p0,I6 p1,I6 p2], .ce (I6 m)] [] Q)=(R6 (0-m)/\∀x1,x1=0-m->Br (p0<x1) (Q ⟨.ce (.bool false),false,[],[]⟩) (Br (p0>m) (Q ⟨.ce (.bool false),false,[],[]⟩) (R6 (0-m)/\∀x2,x2=0-m->Br (p1<x2) (Q ⟨.ce (.bool false),false,[],[]⟩) (Br (p1>m) (Q ⟨.ce (.bool false),false,[],[]⟩) (R6 (0-m)/\∀x3,x3=0-m->Br (p2<x3) (Q ⟨.ce (.bool false),false,[],[]⟩) (Br (p2>m) (Q ⟨.ce (.bool false),false,[],[]⟩) (Q ⟨.ce (.bool true),false,[],[]⟩))))))):=by kernel_rfl
def SWithin(hA:List HV)(pA:List (List HC)):SR:=match hA,pA with
 |[.agg [.int .i64 p0, .int .i64 p1, .int .i64 p2]],[]=> .det (b3 1048576 p0 p1 p2) ⟨.ce (.bool true),false,[],[]⟩
 |_,_=> .fail
def tabWithin:List (FuncId×HL.Spec):=[(142,SSmall)]
noncomputable def CWithin:Ctx:=⟨Tryz.prog,gam tabWithin,Tryz.f130.ntmps,[],[]⟩
theorem vcWithin(p0 p1 p2:Int)(Q:Res->Prop):(nfun true CWithin Tryz.f130 (bodyOf Tryz.f130) [.agg [I6 p0,I6 p1,I6 p2]] [] Q)=(((0:Int)<=1048576/\(1048576:Int)<=1073741824/\b3 1048576 p0 p1 p2)/\∀(x1:Bool),x1=true->Q ⟨.ce (.bool x1),false,[],[]⟩):=by kernel_rfl
end Go.Proofs.YtoekmphdpepdbaaGreat
namespace U
theorem isqrt_ex(n:Nat):∃q:Nat,q*q<=n/\n<(q+1)*(q+1):=by
 induction n with
 |zero=>exact⟨0,by decide,by decide⟩
 |succ n ih=>
  obtain⟨q,h1,h2⟩:=ih;by_cases h:(q+1)*(q+1)<=n+1
  . refine⟨q+1,h,?_⟩;have:(q+1+1)*(q+1+1)=(q+1)*(q+1)+2*q+3:=by grind
    omega
  . exact⟨q,by omega,by omega⟩
theorem isqrt_exI{n:Int}(h:0<=n):∃q:Int,0<=q/\q*q<=n/\n<(q+1)*(q+1):=by
 obtain⟨m,rfl⟩:=Int.eq_ofNat_of_zero_le h;obtain⟨q,h1,h2⟩:=isqrt_ex m;refine⟨(q:Int),Int.natCast_nonneg _,?_,?_⟩
 . have:=Int.ofNat_le.mpr h1;simpa using this
 . have:=Int.ofNat_lt.mpr h2;simpa using this
theorem sq_lt{a b:Int}(ha:0<=a)(hb:0<=b)(h:a*a<b*b):a<b:=by
 rcases Int.lt_or_le a b with h1|h1
 . exact h1
 . have:=Int.mul_le_mul h1 h1 hb ha;omega
theorem sq_le{a b:Int}(ha:0<=a)(hb:0<=b)(h:a*a<=b*b):a<=b:=by
 rcases Int.lt_or_le b a with h1|h1
 . have:=Int.mul_le_mul (Int.le_of_lt h1) (Int.le_of_lt h1) hb ha;have h2:b*b<a*a:=Int.lt_of_le_of_lt (Int.mul_le_mul_of_nonneg_right (Int.le_of_lt h1) hb) (Int.mul_lt_mul_of_pos_left h1 (by omega));omega
 . exact h1
theorem sq_nonneg(a:Int):0<=a*a:=by
 rcases Int.lt_or_le a 0 with h|h
 . have:=Int.mul_nonneg (a:= -a) (b:= -a) (by omega) (by omega);rwa[Int.neg_mul_neg]at this
 . exact Int.mul_nonneg h h
theorem sq_bd{a D:Int}(h1: -D<=a)(h2:a<=D):a*a<=D*D:=by
 rcases Int.lt_or_le a 0 with h|h
 . have:=Int.mul_le_mul (show-a<=D by omega) (show-a<=D by omega) (by omega) (by omega);rwa[Int.neg_mul_neg]at this
 . exact Int.mul_le_mul h2 h2 h (by omega)
theorem abs_of_sq{a l:Int}(hl:0<=l)(h:a*a<=l*l): -l<=a/\a<=l:=by
 rcases Int.lt_or_le a 0 with h1|h1
 . have:=sq_le (a:= -a) (b:=l) (by omega) hl (by rwa[Int.neg_mul_neg]);omega
 . have:=sq_le h1 hl h;omega
theorem isLen_of{a0 a1 a2 b0 b1 b2 l:Int}(h0:0<=l)(h1:sq3 a0 a1 a2 b0 b1 b2<=l*l)(h2:l=0∨(l-1)*(l-1)<sq3 a0 a1 a2 b0 b1 b2):isLen a0 a1 a2 b0 b1 b2 l:=by
 unfold sq3 at h1 h2;have n0:=sq_nonneg (a0-b0);have n1:=sq_nonneg (a1-b1);have n2:=sq_nonneg (a2-b2);refine⟨abs_of_sq h0 (by omega),abs_of_sq h0 (by omega),abs_of_sq h0 (by omega),?_⟩;rintro D hD⟨⟨d1,d2⟩,⟨d3,d4⟩,⟨d5,d6⟩⟩;have e0:=sq_bd d1 d2;have e1:=sq_bd d3 d4;have e2:=sq_bd d5 d6;have nD:=sq_nonneg D;rcases h2 with h2|h2
 . omega
 . rcases Int.lt_or_le (l-1) 0 with h3|h3
   . omega
   . have:(2*D)*(2*D)=4*(D*D):=by grind
     have:=sq_lt h3 (by omega:0<=2*D) (by omega);omega
theorem b3_perm{B a0 a1 a2:Int}(h:b3 B a0 a1 a2):b3 B a2 a0 a1/\b3 B a1 a2 a0:=⟨⟨h.2.2,h.1,h.2.1⟩,⟨h.2.1,h.2.2,h.1⟩⟩
theorem b3_zero{B:Int}(h:0<=B):b3 B 0 0 0:=by unfold b3;omega
theorem sq3_bd{a0 a1 a2 b0 b1 b2:Int}(ha:b3 268435456 a0 a1 a2)(hb:b3 268435456 b0 b1 b2):0<=sq3 a0 a1 a2 b0 b1 b2/\sq3 a0 a1 a2 b0 b1 b2<=864691128455135232:=by
 unfold b3 at ha hb;unfold sq3;have n0:=sq_nonneg (a0-b0);have n1:=sq_nonneg (a1-b1);have n2:=sq_nonneg (a2-b2);have e0:=sq_bd (a:=a0-b0) (D:=536870912) (by omega) (by omega);have e1:=sq_bd (a:=a1-b1) (D:=536870912) (by omega) (by omega);have e2:=sq_bd (a:=a2-b2) (D:=536870912) (by omega) (by omega);omega
end U
namespace Go.Proofs.YtoekmphdpepdbaaGreat
open Go Go.HL U
attribute [local irreducible] hfun bodyT fragT
theorem sLeft:Sound Tryz.prog 21 SLeft:=by
 refine sound_of (C:=CLeft) [] Tryz.func21 (by kernel_rfl) (by decide+kernel) (by kernel_rfl) rfl trivial (loops0 (by kernel_rfl)) ?_;intro hA pA R h;unfold SLeft at h;split at h;case h_2=>exfalso;exact h
 rename_i l p;exact byVC (vcLeft l p R) h.2
theorem sDirs:Sound Tryz.prog 40 SDirs:=by
 refine sound_of (C:=CDirs) tabDirs Tryz.func40 (by kernel_rfl) (by decide+kernel) (by kernel_rfl) rfl ⟨sMod,trivial⟩ (loops0 (by kernel_rfl)) ?_;intro hA pA R h;unfold SDirs at h;split at h;case h_2=>exfalso;exact h
 rename_i n;refine byVC (vcDirs n R) ⟨by omega,fun x1 e1=> ?_⟩;have b:0<=x1/\x1<8:=by omega
 have t1:=Int.tmod_eq_emod_of_nonneg (b:=2) b.1;have t2:=Int.tdiv_eq_ediv_of_nonneg (b:=2) b.1;have t4:=Int.tdiv_eq_ediv_of_nonneg (b:=4) b.1;rw[t1,t2,t4];refine⟨by decide,fun x2 e2=>⟨by omega,fun x3 e3=>⟨by omega,fun x4 e4=>⟨by decide,by omega,fun x5 e5=> ?_⟩⟩⟩⟩;rw[Int.tmod_eq_emod_of_nonneg (b:=2) (show 0<=x5 by omega)];refine⟨by decide,fun x6 e6=>⟨by omega,fun x7 e7=>⟨by omega,fun x8 e8=>⟨by decide,by omega,fun x9 e9=>⟨by omega,fun x10 e10=>⟨by omega,fun x11 e11=> ?_⟩⟩⟩⟩⟩⟩;exact h.2.2 (x4,x8,x11) ⟨show x4=1∨x4= -1 by omega,show x8=1∨x8= -1 by omega,show x11=1∨x11= -1 by omega⟩
theorem sPlane:Sound Tryz.prog 115 SPlane:=by
 refine sound_of (C:=CPlane) [] Tryz.func115 (by kernel_rfl) (by decide+kernel) (by kernel_rfl) rfl trivial (loops0 (by kernel_rfl)) ?_;intro hA pA R h;unfold SPlane at h;split at h;case h_2=>exfalso;exact h
 rename_i p0 p1 p2 k;obtain⟨_,_,hq⟩:=h;exact byVC (vcPlane p0 p1 p2 k R) ⟨fun _=>hq (p0,p1,p2) fun B _ hb=>hb,fun _=>⟨fun _=>hq (p2,p0,p1) fun B _ hb=>(b3_perm hb).1,fun _=>⟨fun _=>hq (p1,p2,p0) fun B _ hb=>(b3_perm hb).2,fun _=>hq (0,0,0) fun B h0 _=>b3_zero h0⟩⟩⟩
theorem sSpace:Sound Tryz.prog 117 SSpace:=by
 refine sound_of (C:=CSpace) [] Tryz.func117 (by kernel_rfl) (by decide+kernel) (by kernel_rfl) rfl trivial (loops0 (by kernel_rfl)) ?_;intro hA pA R h;unfold SSpace at h;split at h;case h_2=>exfalso;exact h
 rename_i p0 p1 p2 k;obtain⟨_,_,hq⟩:=h;exact byVC (vcSpace p0 p1 p2 k R) ⟨fun _=>hq (p0,p1,p2) fun B _ hb=>hb,fun _=>⟨fun _=>hq (p1,p2,p0) fun B _ hb=>(b3_perm hb).2,fun _=>⟨fun _=>hq (p2,p0,p1) fun B _ hb=>(b3_perm hb).1,fun _=>hq (0,0,0) fun B h0 _=>b3_zero h0⟩⟩⟩
theorem sTurned:Sound Tryz.prog 116 STurned:=by
 refine sound_of (C:=CTurned) [] Tryz.func116 (by kernel_rfl) (by decide+kernel) (by kernel_rfl) rfl trivial (loops0 (by kernel_rfl)) ?_;intro hA pA R h;unfold STurned at h;split at h;case h_2=>exfalso;exact h
 rename_i r k;obtain⟨⟨hr,hk⟩,_,hq⟩:=h;refine byVC (vcTurned r k R) ⟨by omega,fun x1 e1=>⟨by decide,fun x2 e2=> ?_⟩⟩;have t:=Int.tmod_eq_emod_of_nonneg (b:=4) hk;rw[t]at e2;rw[t];refine⟨by omega,fun x3 e3=>⟨by omega,fun x4 e4=>⟨by decide,fun x5 e5=>⟨by omega,fun x6 e6=> ?_⟩⟩⟩⟩;obtain rfl:x5=x2:=by rw[e5,e2]
 have c:x5=0∨x5=1∨x5=2∨x5=3:=by omega
 have r3:x3=r∨x3=0∨x3=x1:=by rcases c with rfl|rfl|rfl|rfl<;>first|exact .inl e3|exact .inr (.inl e3)|exact .inr (.inr e3)
 have r6:x6=r∨x6=0∨x6=x4:=by rcases c with rfl|rfl|rfl|rfl<;>first|exact .inl e6|exact .inr (.inl e6)|exact .inr (.inr e6)
 exact hq (x3,x6) ⟨show-r<=x3/\x3<=r by omega,show-r<=x6/\x6<=r by omega⟩
theorem sFine:Sound Tryz.prog 68 SFine:=by
 refine sound_of (C:=CFine) [] Tryz.func68 (by kernel_rfl) (by decide+kernel) (by kernel_rfl) rfl trivial (loops0 (by kernel_rfl)) ?_;intro hA pA R h;unfold SFine at h;split at h;case h_2=>exfalso;exact h
 rename_i p0 p1 p2;obtain⟨hb,hq⟩:=h;unfold b3 at hb;refine byVC (vcFine p0 p1 p2 R) ⟨by omega,?_⟩;rintro _ rfl;refine⟨by omega,?_⟩;rintro _ rfl;refine⟨by omega,?_⟩;rintro _ rfl;exact hq
theorem sSquare:Sound Tryz.prog 105 SSquare:=by
 refine sound_of (C:=CSquare) [] Tryz.func105 (by kernel_rfl) (by decide+kernel) (by kernel_rfl) rfl trivial (loopsAll (by kernel_rfl)) ?_;intro hA pA R h;unfold SSquare at h;split at h;case h_2=>exfalso;exact h
 rename_i a0 a1 a2 c0 c1 c2;obtain⟨⟨ha,hc⟩,hq⟩:=h;unfold b3 at ha hc;unfold sq3 at hq;have n0:=sq_nonneg (a0-c0);have n1:=sq_nonneg (a1-c1);have n2:=sq_nonneg (a2-c2);have e0:=sq_bd (a:=a0-c0) (D:=536870912) (by omega) (by omega);have e1:=sq_bd (a:=a1-c1) (D:=536870912) (by omega) (by omega);have e2:=sq_bd (a:=a2-c2) (D:=536870912) (by omega) (by omega);refine byVC (vcSquare a0 a1 a2 c0 c1 c2 R) ⟨by omega,?_⟩;rintro _ rfl;refine⟨by omega,?_⟩;rintro _ rfl;refine⟨by omega,?_⟩;rintro _ rfl;refine⟨by omega,?_⟩;rintro _ rfl;refine⟨by omega,?_⟩;rintro _ rfl;refine⟨by omega,?_⟩;rintro _ rfl;refine⟨by omega,?_⟩;rintro _ rfl;refine⟨by omega,?_⟩;rintro _ rfl;refine⟨by omega,?_⟩;rintro _ rfl;refine⟨by omega,?_⟩;rintro _ rfl;refine⟨by omega,?_⟩;rintro _ rfl;refine⟨by omega,?_⟩;rintro _ rfl;rw[Int.zero_add];exact hq
theorem loopRoot:∀v Q,(LRoot v).wp Q->hloop CRoot anRoot (nthLoop Tryz.f106 0) v Q:=by
 intro v Q h;unfold LRoot at h;split at h;case h_2=>exact h.elim
 rename_i n z q b;obtain⟨hI,hq⟩:=h;refine hloop_rec (σ:=Int×Int) (fun s=>([.ce (I6 n), .ce (I6 z), .ce (I6 s.1), .ce (I6 s.2)],[])) (fun s=>s.2.toNat) (fun s=>rootOK n s.1 s.2) ?_ (q,b) hI;rintro⟨q,b⟩hI K hn hx _;dsimp only at hI hn⊢;obtain⟨h1,h2,h3,h4⟩:=hI;refine byVB (vbRoot n z q b K) ⟨fun g=> ?_,fun g=> ?_⟩
 . have g:=odt g;rcases h4 with h4|⟨k,hk,hb,h4⟩
   . omega
   have hkb:(2:Nat)^k<=2^30:=Nat.pow_le_pow_right (by omega) hk;have hb2:b<=1073741824:=by
    rw[hb];have:=Int.ofNat_le.mpr hkb;simpa using this
   have q30:q<=1073741824:=by
    rcases Int.lt_or_le 1073741824 q with hh|hh
    . have:=Int.mul_le_mul (Int.le_of_lt hh) (Int.le_of_lt hh) (by omega) (by omega);have h5:1073741824*q<q*q:=Int.mul_lt_mul_of_pos_right hh (by omega);omega
    . exact hh
   have hqb:=sq_bd (a:=q+b) (D:=2147483648) (by omega) (by omega);have nn:=sq_nonneg (q+b);have next:∀q':Int,0<=q'->q'<=2147483648->q'*q'<=n->n<(q'+b)*(q'+b)->rootOK n q' (b/2):=by
    intro q' a1 a2 a3 a4;refine⟨h1,⟨a1,a2⟩,a3,?_⟩;cases k with
    |zero=>
     left;have:b=1:=by rw[hb];rfl
     subst this;exact⟨by decide,a4⟩
    |succ k=>
     right;have hb':b=2*2^k:=by rw[hb,Int.pow_succ,Int.mul_comm]
     have e:b/2=2^k:=by rw[hb',Int.mul_ediv_cancel_left _ (by decide)]
     refine⟨k,by omega,e,?_⟩;rw[e,<-hb'];exact a4
   refine⟨by omega,?_⟩;rintro _ rfl;refine⟨by omega,?_⟩;rintro _ rfl;refine⟨by omega,fun x3 e3=>⟨fun g2=> ?_,fun g2=> ?_⟩⟩
   . have g2:=odt g2;refine⟨by omega,?_⟩;rintro _ rfl;refine⟨by omega,?_⟩;rintro _ rfl;refine hn (q+b,b/2) (next (q+b) (by omega) (by omega) (by omega) ?_) (by dsimp only;omega);rw[show q+b+b=q+2*b by omega];exact h4
   . have g2:=odf g2;refine⟨by omega,?_⟩;rintro _ rfl;exact hn (q,b/2) (next q (by omega) (by omega) h3 (by omega)) (by dsimp only;omega)
 . have g:=odf g;rcases h4 with h4|⟨k,hk,hb,h4⟩
   . exact hx _ _ (hq q ⟨h2.1,h3,h4.2⟩)
   . have:0<b:=by rw[hb];exact Int.pow_pos (by decide)
     omega
theorem sRoot:Sound Tryz.prog 106 SRoot:=by
 refine sound_of (C:=CRoot) [] Tryz.func106 (by kernel_rfl) (by decide+kernel) (by kernel_rfl) rfl trivial (loops1 (by kernel_rfl) (loopOK_of (an:=anRoot) (S:=LRoot) (by kernel_rfl) loopRoot)) ?_;intro hA pA R h;unfold SRoot at h;split at h;case h_2=>exfalso;exact h
 rename_i n;obtain⟨hn,_,hq⟩:=h;exact byVC (vcRoot n R) ⟨⟨hn,by decide,by omega, .inr ⟨30,by decide,by decide,by omega⟩⟩,fun x hx=>hq x hx⟩
theorem sLength:Sound Tryz.prog 72 SLength:=by
 refine sound_of (C:=CLength) tabLength Tryz.func72 (by kernel_rfl) (by decide+kernel) (by kernel_rfl) rfl ⟨sSquare,sRoot,trivial⟩ (loops0 (by kernel_rfl)) ?_;intro hA pA R h;unfold SLength at h;split at h;case h_2=>exfalso;exact h
 rename_i a0 a1 a2 c0 c1 c2;obtain⟨⟨ha,hc⟩,_,hq⟩:=h;refine byVC (vcLength a0 a1 a2 c0 c1 c2 R) ⟨⟨ha,hc⟩,fun x1 e1=> ?_⟩;have bd:=sq3_bd ha hc;rw[<-e1]at bd;refine⟨by omega,isqrt_exI bd.1,fun x hx=> ?_⟩;obtain⟨hx0,hx1,hx2⟩:=hx;have xx:=sq_nonneg x;refine⟨by omega,fun x3 e3=>⟨fun g=> ?_,fun g=> ?_⟩⟩
 . have g:=odt g;have:x<=1073741824:=sq_le hx0 (by decide) (by omega);refine⟨by omega,?_⟩;rintro _ rfl;refine hq _ (isLen_of (by omega) (by omega) (.inr ?_));rw[Int.add_sub_cancel];omega
 . have g:=odf g;refine hq _ (isLen_of hx0 (by omega) ?_);rcases Int.lt_or_le 0 x with h1|h1
   . right;have:(x-1)*(x-1)=x*x-2*x+1:=by grind
     omega
   . left;omega
theorem sSmall:Sound Tryz.prog 142 SSmall:=by
 refine sound_of (C:=CSmall) [] Tryz.func142 (by kernel_rfl) (by decide+kernel) (by kernel_rfl) rfl trivial (loopsAll (by kernel_rfl)) ?_;intro hA pA R h;unfold SSmall at h;split at h;case h_2=>exfalso;exact h
 rename_i p0 p1 p2 m;obtain⟨⟨hm0,hm1,hb⟩,hq⟩:=h;unfold b3 at hb;have no:∀{c:Prop} [Decidable c],¬c->decide c=true->False:=fun h e=>h (odt e);refine byVC (vcSmall p0 p1 p2 m R) ⟨by omega,fun x1 e1=>⟨fun g=>(no (by omega) g).elim,fun _=>⟨fun g=>(no (by omega) g).elim,fun _=>⟨by omega,fun x2 e2=>⟨fun g=>(no (by omega) g).elim,fun _=>⟨fun g=>(no (by omega) g).elim,fun _=>⟨by omega,fun x3 e3=>⟨fun g=>(no (by omega) g).elim,fun _=>⟨fun g=>(no (by omega) g).elim,fun _=>hq⟩⟩⟩⟩⟩⟩⟩⟩⟩
theorem sWithin:Sound Tryz.prog 130 SWithin:=by
 refine sound_of (C:=CWithin) tabWithin Tryz.func130 (by kernel_rfl) (by decide+kernel) (by kernel_rfl) rfl ⟨sSmall,trivial⟩ (loops0 (by kernel_rfl)) ?_;intro hA pA R h;unfold SWithin at h;split at h;case h_2=>exfalso;exact h
 rename_i p0 p1 p2;obtain⟨hb,hq⟩:=h;refine byVC (vcWithin p0 p1 p2 R) ⟨⟨by decide,by decide,hb⟩,?_⟩;rintro _ rfl;exact hq
end Go.Proofs.YtoekmphdpepdbaaGreat
namespace U
open Go
def isPrd(a b:Int)(x:Int×Int):Prop:=(0<=x.1/\x.1<18446744073709551616)/\(0<=x.2/\x.2<18446744073709551616)/\x.1*18446744073709551616+x.2=a*b
def nearOK(a d q b:Int):Prop:=(0<=a/\a<=8589934592)/\(0<=d/\d<=1099511627776)/\0<=q/\0<=b/\q+2*b<=268435456/\q*q*d<=a*a
end U
namespace Go.Proofs.YtoekmphdpepdbaaGreat
open Go Go.HL U
def SPrd(hargs:List HV)(pars:List (List HC)):SR:=match hargs,pars with
 |[.ce (.int .u64 a), .ce (.int .u64 b)],[]=> .all ((0<=a/\a<18446744073709551616)/\(0<=b/\b<18446744073709551616)) (Int×Int) (isPrd a b) (fun x=>⟨.tup [.ce (.int .u64 x.1), .ce (.int .u64 x.2)],false,[],[]⟩)
 |_,_=> .fail
noncomputable def CPrd:Ctx:=⟨Tryz.prog,gam [],Tryz.f162.ntmps,[],[]⟩
theorem vcPrd(a b:Int)(Q:Res->Prop):(nfun true CPrd Tryz.f162 (bodyOf Tryz.f162) [.ce (.int .u64 a), .ce (.int .u64 b)] [] Q)=((0<=a/\a<=18446744073709551615/\(4294967295:Int)<=18446744073709551615)/\∀x1,x1=a%4294967296->(0<=b/\b<=18446744073709551615/\(4294967295:Int)<=18446744073709551615)/\∀x2,x2=b%4294967296->∀x3,x3=x1*x2%18446744073709551616->(0:Int)<=32/\∀x4,x4=a/4294967296->(0<=b/\b<=18446744073709551615/\(4294967295:Int)<=18446744073709551615)/\∀x5,x5=b%4294967296->∀x6,x6=x4*x5%18446744073709551616->(0:Int)<=32/\∀x7,x7=x3/4294967296->∀x8,x8=(x6+x7)%18446744073709551616->(0<=a/\a<=18446744073709551615/\(4294967295:Int)<=18446744073709551615)/\∀x9,x9=a%4294967296->(0:Int)<=32/\∀x10,x10=b/4294967296->∀x11,x11=x9*x10%18446744073709551616->(0<=x8/\x8<=18446744073709551615/\(4294967295:Int)<=18446744073709551615)/\∀x12,x12=x8%4294967296->∀x13,x13=(x11+x12)%18446744073709551616->(0:Int)<=32/\∀x14,x14=a/4294967296->(0:Int)<=32/\∀x15,x15=b/4294967296->∀x16,x16=x14*x15%18446744073709551616->(0:Int)<=32/\∀x17,x17=x8/4294967296->∀x18,x18=(x16+x17)%18446744073709551616->(0:Int)<=32/\∀x19,x19=x13/4294967296->∀x20,x20=(x18+x19)%18446744073709551616->(0:Int)<=32/\∀x21,x21=x13*4294967296%18446744073709551616->(0<=x3/\x3<=18446744073709551615/\(4294967295:Int)<=18446744073709551615)/\∀x22,x22=x3%4294967296->∀x23,x23=bor .u64 x21 x22->Q ⟨.tup [.ce (.int .u64 x20), .ce (.int .u64 x23)],false,[],[]⟩):=by kernel_rfl
def SMost(hargs:List HV)(pars:List (List HC)):SR:=match hargs,pars with
 |[.ce (.int .u64 a), .ce (.int .u64 b), .ce (.int .u64 c), .ce (.int .u64 d), .ce (.bool s)],[]=> .all ((0<=a/\a<18446744073709551616)/\(0<=b/\b<18446744073709551616)/\(0<=c/\c<18446744073709551616)/\(0<=d/\d<18446744073709551616)) Bool (fun x=>x=true->a*b<=c*d) (fun x=>⟨.ce (.bool x),false,[],[]⟩)
 |_,_=> .fail
def tabMost:List (FuncId×HL.Spec):=[(162,SPrd)]
noncomputable def CMost:Ctx:=⟨Tryz.prog,gam tabMost,Tryz.f158.ntmps,[],[]⟩
theorem vcMost(a b c d:Int)(s:Bool)(Q:Res->Prop):(nfun true CMost Tryz.f158 (bodyOf Tryz.f158) [.ce (.int .u64 a), .ce (.int .u64 b), .ce (.int .u64 c), .ce (.int .u64 d), .ce (.bool s)] [] Q)=(((0<=a/\a<18446744073709551616)/\0<=b/\b<18446744073709551616)/\(∃(x:Int×Int),isPrd a b x)/\∀(x:Int×Int),isPrd a b x->((0<=c/\c<18446744073709551616)/\0<=d/\d<18446744073709551616)/\(∃(x:Int×Int),isPrd c d x)/\∀(x_1:Int×Int),isPrd c d x_1->Br (x.1<x_1.1) (Q ⟨.ce (.bool true),false,[],[]⟩) (Bb (x.1==x_1.1) (Br (x.2<x_1.2) (Q ⟨.ce (.bool true),false,[],[]⟩) (Bb (x.2==x_1.2) (Q ⟨.ce (.bool !s),false,[],[]⟩) (Q ⟨.ce (.bool false),false,[],[]⟩))) (Q ⟨.ce (.bool false),false,[],[]⟩))):=by kernel_rfl
def SNear(hargs:List HV)(pars:List (List HC)):SR:=match hargs,pars with
 |[.ce (.int .i64 x), .ce (.int .i64 r), .ce (.int .i64 n)],[]=> .all ((-65536<=x/\x<=65536)/\(0<=r/\r<=65536)/\x*x<=n/\1<=n/\n<=1099511627776) Int (fun q=> -r<=q/\q<=r) (fun q=>⟨.ce (I6 q),false,[],[]⟩)
 |_,_=> .fail
def tabNear:List (FuncId×HL.Spec):=[(158,SMost)]
def anNear:LAnn:=⟨[0,6,7,8,9,10],[0,6,7,8,9],[],false⟩
def LNear(v:LV):LR:=match v with
 |([.ce (.int .i64 x), .ce (.int .i64 z), .ce (.int .u64 a), .ce (.int .u64 d), .ce (.int .u64 q), .ce (.int .u64 b)],[])=> .all (nearOK a d q b) Int (fun y=>(0<=y/\y<=268435456)/\y*y*d<=a*a) (fun _=> .exit 0) (fun y=>([.ce (I6 x), .ce (I6 z), .ce (.int .u64 a), .ce (.int .u64 d), .ce (.int .u64 y)],[]))
 |_=> .fail
noncomputable def CNear:Ctx:=⟨Tryz.prog,gam tabNear,Tryz.f150.ntmps,[(3,anNear,LNear)],[]⟩
theorem vbNear(x z a d q b:Int)(K:HEx->LV->Prop):(nbodyT true CNear anNear (nthLoop Tryz.f150 0) (([.ce (I6 x), .ce (I6 z), .ce (.int .u64 a), .ce (.int .u64 d), .ce (.int .u64 q), .ce (.int .u64 b)],[])) K)=(Br (b>0) (∀x1,x1=(q+b)%18446744073709551616->∀x2,x2=(q+b)%18446744073709551616->∀x3,x3=x1*x2%18446744073709551616->((0<=x3/\x3<18446744073709551616)/\(0<=d/\d<18446744073709551616)/\(0<=a/\a<18446744073709551616)/\0<=a/\a<18446744073709551616)/\(∃(x:Bool),x=true->x3*d<=a*a)/\∀(x_1:Bool),(x_1=true->x3*d<=a*a)->Bb (x_1) (∀x5,x5=(q+b)%18446744073709551616->(0:Int)<=1/\∀x6,x6=b/2->K .normal ([.ce (I6 x), .ce (I6 z), .ce (.int .u64 a), .ce (.int .u64 d), .ce (.int .u64 x5), .ce (.int .u64 x6)],[])) ((0:Int)<=1/\∀x7,x7=b/2->K .normal ([.ce (I6 x), .ce (I6 z), .ce (.int .u64 a), .ce (.int .u64 d), .ce (.int .u64 q), .ce (.int .u64 x7)],[]))) (K (.exit 0) ([.ce (I6 x), .ce (I6 z), .ce (.int .u64 a), .ce (.int .u64 d), .ce (.int .u64 q)],[]))):=by kernel_rfl
theorem vcNear(x r n:Int)(Q:Res->Prop):(nfun true CNear Tryz.f150 (bodyOf Tryz.f150) [.ce (I6 x), .ce (I6 r), .ce (I6 n)] [] Q)=(R6 (0-x)/\∀x1,x1=0-x->∀x2,x2=max x x1->R6 (x2*r)/\∀x3,x3=x2*r->∀x4,x4=x3%18446744073709551616->∀x5,x5=n%18446744073709551616->nearOK x4 x5 (0:Int) (134217728:Int)/\∀(x_1:Int),(0<=x_1/\x_1<=268435456)/\x_1*x_1*x5<=x4*x4->∀x7,x7=2*x_1%18446744073709551616->∀x8,x8=(x7+1)%18446744073709551616->∀x9,x9=2*x_1%18446744073709551616->∀x10,x10=(x9+1)%18446744073709551616->∀x11,x11=x8*x10%18446744073709551616->∀x12,x12=2*x4%18446744073709551616->∀x13,x13=2*x4%18446744073709551616->((0<=x11/\x11<18446744073709551616)/\(0<=x5/\x5<18446744073709551616)/\(0<=x12/\x12<18446744073709551616)/\0<=x13/\x13<18446744073709551616)/\(∃(x:Bool),x=true->x11*x5<=x12*x13)/\∀(x_2:Bool),(x_2=true->x11*x5<=x12*x13)->Bb (x_2) (∀x15,x15=(x_1+1)%18446744073709551616->Br (x<0) (R6 x15/\∀x16,x16=x15->R6 (0-x16)/\∀x17,x17=0-x16->Q ⟨.ce (I6 x17),false,[],[]⟩) (R6 x15/\∀x18,x18=x15->Q ⟨.ce (I6 x18),false,[],[]⟩)) (Br (x<0) (R6 x_1/\∀x19,x19=x_1->R6 (0-x19)/\∀x20,x20=0-x19->Q ⟨.ce (I6 x20),false,[],[]⟩) (R6 x_1/\∀x21,x21=x_1->Q ⟨.ce (I6 x21),false,[],[]⟩))):=by kernel_rfl
end Go.Proofs.YtoekmphdpepdbaaGreat
namespace U
open Go Go.HL
theorem wrap64{x:Int}(h0:0<=x)(h1:x<18446744073709551616):IntKind.u64.wrap x=x:=by
 simp[IntKind.wrap,IntKind.signed,IntKind.bits];omega
theorem bor_hiN{m k:Nat}(hm:m<4294967296)(hk:k<4294967296):bor .u64 ((m*4294967296:Nat):Int) (k:Int)=((m*4294967296+k:Nat):Int):=by
 unfold bor bitsOp;show IntKind.u64.wrap (((BitVec.ofInt 64 ((m*4294967296:Nat):Int))|||(BitVec.ofInt 64 (k:Int))).toNat:Int)=_;rw[BitVec.ofInt_natCast,BitVec.ofInt_natCast,BitVec.toNat_or,BitVec.toNat_ofNat,BitVec.toNat_ofNat];have h1:m*4294967296%2^64=m*4294967296:=Nat.mod_eq_of_lt (by omega);have h2:k%2^64=k:=Nat.mod_eq_of_lt (by omega);rw[h1,h2];have h3:m*4294967296+k=m*4294967296|||k:=by
  rw[Nat.mul_comm];exact Nat.two_pow_add_eq_or_of_lt (i:=32) hk m
 rw[<-h3];exact wrap64 (by omega) (by omega)
theorem bor_hi{x l:Int}(h0:0<=x)(h1:x<4294967296)(h2:0<=l)(h3:l<4294967296):bor .u64 (x*4294967296) l=x*4294967296+l:=by
 obtain⟨m,rfl⟩:=Int.eq_ofNat_of_zero_le h0;obtain⟨k,rfl⟩:=Int.eq_ofNat_of_zero_le h2;have:=bor_hiN (m:=m) (k:=k) (by omega) (by omega);rw[show((m:Int)*4294967296)=((m*4294967296:Nat):Int)by omega,this];omega
theorem mulbd{a b A B:Int}(ha:0<=a)(hA:a<=A)(hb:0<=b)(hB:b<=B):0<=a*b/\a*b<=A*B:=⟨Int.mul_nonneg ha hb,Int.le_trans (Int.mul_le_mul_of_nonneg_right hA hb) (Int.mul_le_mul_of_nonneg_left hB (Int.le_trans ha hA))⟩
theorem isPrd_ex{a b:Int}(ha:0<=a/\a<18446744073709551616)(hb:0<=b/\b<18446744073709551616):∃x,isPrd a b x:=by
 have:=mulbd ha.1 (show a<=18446744073709551615 by omega) hb.1 (show b<=18446744073709551615 by omega);generalize hP:a*b=P at*;exact⟨(P/18446744073709551616,P%18446744073709551616),by unfold isPrd;dsimp only;rw[hP];omega⟩
end U
namespace Go.Proofs.YtoekmphdpepdbaaGreat
open Go Go.HL U
attribute [local irreducible] hfun bodyT fragT
theorem sPrd:Sound Tryz.prog 162 SPrd:=by
 refine sound_of (C:=CPrd) [] Tryz.func162 (by kernel_rfl) (by decide+kernel) (by kernel_rfl) rfl trivial (loops0 (by kernel_rfl)) ?_;intro hargs pars R h;unfold SPrd at h;split at h;case h_2=>exfalso;exact h
 rename_i a b;obtain⟨⟨ha,hb⟩,_,hq⟩:=h;refine byVC (vcPrd a b R) ⟨by omega,fun x1 e1=>⟨by omega,fun x2 e2 x3 e3=>⟨by decide,fun x4 e4=>⟨by omega,fun x5 e5 x6 e6=>⟨by decide,fun x7 e7 x8 e8=>⟨by omega,fun x9 e9=>⟨by decide,fun x10 e10 x11 e11=>⟨by omega,fun x12 e12 x13 e13=>⟨by decide,fun x14 e14=>⟨by decide,fun x15 e15 x16 e16=>⟨by decide,fun x17 e17 x18 e18=>⟨by decide,fun x19 e19 x20 e20=>⟨by decide,fun x21 e21=>⟨by omega,fun x22 e22 x23 e23=> ?_⟩⟩⟩⟩⟩⟩⟩⟩⟩⟩⟩⟩⟩⟩;obtain rfl:x9=x1:=by omega
 obtain rfl:x5=x2:=by omega
 obtain rfl:x14=x4:=by omega
 obtain rfl:x15=x10:=by omega
 have p00:=mulbd (show 0<=x9 by omega) (show x9<=4294967295 by omega) (show 0<=x5 by omega) (show x5<=4294967295 by omega);have p10:=mulbd (show 0<=x14 by omega) (show x14<=4294967295 by omega) (show 0<=x5 by omega) (show x5<=4294967295 by omega);have p01:=mulbd (show 0<=x9 by omega) (show x9<=4294967295 by omega) (show 0<=x15 by omega) (show x15<=4294967295 by omega);have p11:=mulbd (show 0<=x14 by omega) (show x14<=4294967295 by omega) (show 0<=x15 by omega) (show x15<=4294967295 by omega);have ea:a=4294967296*x14+x9:=by omega
 have eb:b=4294967296*x15+x5:=by omega
 have e:a*b=(x14*x15)*18446744073709551616+(x14*x5)*4294967296+(x9*x15)*4294967296+x9*x5:=by rw[ea,eb];grind
 generalize x9*x5=P00 at*;generalize x14*x5=P10 at*;generalize x9*x15=P01 at*;generalize x14*x15=P11 at*;clear ea eb e1 e4 e9 e10 e5 e2 e14 e15;have f3:x3=P00:=by omega
 have f6:x6=P10:=by omega
 have f8:x8=P10+x7:=by omega
 have f11:x11=P01:=by omega
 have f13:x13=P01+x12:=by omega
 have f16:x16=P11:=by omega
 have f18:x18=P11+x17:=by omega
 have f20:x20=P11+x17+x19:=by omega
 have f21:x21=x13%4294967296*4294967296:=by omega
 have f23:x23=x21+x22:=by rw[e23,f21];exact bor_hi (by omega) (by omega) (by omega) (by omega)
 refine hq (x20,x23) ?_;unfold isPrd;dsimp only;rw[e];refine⟨by omega,by omega,by omega⟩
theorem sMost:Sound Tryz.prog 158 SMost:=by
 refine sound_of (C:=CMost) tabMost Tryz.func158 (by kernel_rfl) (by decide+kernel) (by kernel_rfl) rfl ⟨sPrd,trivial⟩ (loops0 (by kernel_rfl)) ?_;intro hargs pars R h;unfold SMost at h;split at h;case h_2=>exfalso;exact h
 rename_i a b c d s;obtain⟨⟨ha,hb,hc,hd⟩,_,hq⟩:=h;refine byVC (vcMost a b c d s R) ⟨⟨ha,hb⟩,isPrd_ex ha hb,fun x hx=>⟨⟨hc,hd⟩,isPrd_ex hc hd,fun y hy=> ?_⟩⟩;obtain⟨x1,x2,x3⟩:=hx;obtain⟨y1,y2,y3⟩:=hy;refine⟨fun g=> ?_,fun _=>⟨fun g1=>⟨fun g2=> ?_,fun _=>⟨fun g3=> ?_,fun _=> ?_⟩⟩,fun _=> ?_⟩⟩
 . have g:=odt g;exact hq true fun _=>by omega
 . have g1:x.1=y.1:=by simpa using g1
   have g2:=odt g2;exact hq true fun _=>by omega
 . have g1:x.1=y.1:=by simpa using g1
   have g3:x.2=y.2:=by simpa using g3
   exact hq _ fun _=>by omega
 . exact hq false fun e=>by cases e
 . exact hq false fun e=>by cases e
theorem loopNear:∀v Q,(LNear v).wp Q->hloop CNear anNear (nthLoop Tryz.f150 0) v Q:=by
 intro v Q h;unfold LNear at h;split at h;case h_2=>exact h.elim
 rename_i x z a d q b;obtain⟨hI,hq⟩:=h;refine hloop_rec (σ:=Int×Int) (fun s=>([.ce (I6 x), .ce (I6 z), .ce (.int .u64 a), .ce (.int .u64 d), .ce (.int .u64 s.1), .ce (.int .u64 s.2)],[])) (fun s=>s.2.toNat) (fun s=>nearOK a d s.1 s.2) ?_ (q,b) hI;rintro⟨q,b⟩hI K hn hx _;dsimp only at hI hn⊢;obtain⟨ha,hd,h1,h2,h3,h4⟩:=hI;refine byVB (vbNear x z a d q b K) ⟨fun g=> ?_,fun g=> ?_⟩
 . have g:=odt g;have e0:(q+b)%18446744073709551616=q+b:=by omega
   have bd:=mulbd (show 0<=q+b by omega) (show q+b<=268435456 by omega) (show 0<=q+b by omega) (show q+b<=268435456 by omega);rw[e0];rintro _ rfl _ rfl x3 e3;have e3:x3=(q+b)*(q+b):=by omega
   refine⟨⟨by omega,by omega,by omega,by omega⟩,⟨false,fun e=>by cases e⟩,fun y hy=>⟨fun g2=> ?_,fun g2=> ?_⟩⟩
   . rintro _ rfl;refine⟨by decide,?_⟩;rintro _ rfl;have:=hy g2;rw[e3]at this;exact hn (q+b,b/2) ⟨ha,hd,by dsimp only;omega,by dsimp only;omega,by dsimp only;omega,this⟩ (by dsimp only;omega)
   . refine⟨by decide,?_⟩;rintro _ rfl;exact hn (q,b/2) ⟨ha,hd,h1,by dsimp only;omega,by dsimp only;omega,h4⟩ (by dsimp only;omega)
 . have g:=odf g;exact hx _ _ (hq q ⟨by omega,h4⟩)
end Go.Proofs.YtoekmphdpepdbaaGreat
namespace U
theorem near_le{x r n q:Int}(hx:0<=x)(hr:0<=r)(hn:x*x<=n)(h1:1<=n)(hq:0<=q)(h:q*q*n<=(x*r)*(x*r)):q<=r:=by
 rcases Int.lt_or_le r q with g|g
 . exfalso;have a1:r*r<q*q:=Int.lt_of_le_of_lt (Int.mul_le_mul_of_nonneg_right (Int.le_of_lt g) hr) (Int.mul_lt_mul_of_pos_left g (by omega));have e:(x*r)*(x*r)=(r*r)*(x*x):=by grind
   rw[e]at h;have a2:(r*r)*(x*x)<=(r*r)*n:=Int.mul_le_mul_of_nonneg_left hn (Int.mul_nonneg hr hr);have a3:(r*r)*n<(q*q)*n:=Int.mul_lt_mul_of_pos_right a1 (by omega);omega
 . exact g
theorem near_half{x r n q:Int}(hx:0<=x)(hr:0<=r)(hn:x*x<=n)(h1:1<=n)(hq:0<=q)(h:(2*q+1)*(2*q+1)*n<=(2*(x*r))*(2*(x*r))):q+1<=r:=by
 have:=near_le (x:=x) (r:=2*r) (n:=n) (q:=2*q+1) hx (by omega) hn h1 (by omega) (by rw[show x*(2*r)=2*(x*r)by grind];exact h);omega
end U
namespace Go.Proofs.YtoekmphdpepdbaaGreat
open Go Go.HL U
attribute [local irreducible] hfun bodyT fragT
theorem sNear:Sound Tryz.prog 150 SNear:=by
 refine sound_of (C:=CNear) tabNear Tryz.func150 (by kernel_rfl) (by decide+kernel) (by kernel_rfl) rfl ⟨sMost,trivial⟩ (loops1 (by kernel_rfl) (loopOK_of (an:=anNear) (S:=LNear) (by kernel_rfl) loopNear)) ?_;intro hargs pars R h;unfold SNear at h;split at h;case h_2=>exfalso;exact h
 rename_i x r n;obtain⟨⟨hx,hr,hxn,hn1,hn2⟩,_,hq⟩:=h;refine byVC (vcNear x r n R) ⟨by omega,fun x1 e1 x2 e2=> ?_⟩;have a0:0<=x2/\x2<=65536:=by omega
 have a1:x2*x2=x*x:=by
  rcases Int.lt_or_le x 0 with g|g
  . rw[show x2= -x by omega,Int.neg_mul_neg]
  . rw[show x2=x by omega]
 have bd:=mulbd a0.1 a0.2 hr.1 hr.2;refine⟨by omega,fun x3 e3 x4 e4 x5 e5=> ?_⟩;have f4:x4=x2*r:=by omega
 have f5:x5=n:=by omega
 subst f5;have pp:=Int.mul_nonneg (show 0<=x4 by omega) (show 0<=x4 by omega);refine⟨⟨by omega,by omega,by decide,by decide,by decide,by rw[Int.zero_mul,Int.zero_mul];exact pp⟩,fun y hy=> ?_⟩;obtain⟨hy1,hy2⟩:=hy;rintro x7 e7 x8 e8 x9 e9 x10 e10 x11 e11 x12 e12 x13 e13;have f8:x8=2*y+1:=by omega
 have f10:x10=2*y+1:=by omega
 rw[f8,f10]at e11;have b2:=mulbd (show 0<=2*y+1 by omega) (show 2*y+1<=536870913 by omega) (show 0<=2*y+1 by omega) (show 2*y+1<=536870913 by omega);have f11:x11=(2*y+1)*(2*y+1):=by omega
 have f12:x12=2*x4:=by omega
 have f13:x13=2*x4:=by omega
 have le:=near_le (x:=x2) (r:=r) (n:=x5) (q:=y) a0.1 hr.1 (by omega) hn1 hy1.1 (by rw[<-f4];exact hy2);refine⟨⟨by omega,by omega,by omega,by omega⟩,⟨false,fun e=>by cases e⟩,fun w hw=>⟨fun g=> ?_,fun g=> ?_⟩⟩
 . have hw:=hw g;rw[f11,f12,f13,f4]at hw;have le2:=near_half (x:=x2) (r:=r) (n:=x5) (q:=y) a0.1 hr.1 (by omega) hn1 hy1.1 hw;intro x15 e15;have f15:x15=y+1:=by omega
   refine⟨fun _=>⟨by omega,fun x16 e16=>⟨by omega,fun x17 e17=>hq x17 (by omega)⟩⟩,fun _=>⟨by omega,fun x18 e18=>hq x18 (by omega)⟩⟩
 . exact⟨fun _=>⟨by omega,fun x16 e16=>⟨by omega,fun x17 e17=>hq x17 (by omega)⟩⟩,fun _=>⟨by omega,fun x18 e18=>hq x18 (by omega)⟩⟩
end Go.Proofs.YtoekmphdpepdbaaGreat
namespace U
open Go
def ptsOK(B:Int)(l:LL):Prop:=∀j,j<l.length->b3 B (ec l j 0) (ec l j 1) (ec l j 2)
end U
namespace Go.Proofs.YtoekmphdpepdbaaGreat
open Go Go.HL U
def SAdd3(hA:List HV)(pA:List (List HC)):SR:=match hA,pA with
 |[.agg [.int .i64 a0, .int .i64 a1, .int .i64 a2], .agg [.int .i64 c0, .int .i64 c1, .int .i64 c2]],[]=> .det (b3 134217728 a0 a1 a2/\b3 134217728 c0 c1 c2) ⟨.agg [I6 (a0+c0),I6 (a1+c1),I6 (a2+c2)],false,[],[]⟩
 |_,_=> .fail
noncomputable def CAdd3:Ctx:=⟨Tryz.prog,gam [],Tryz.f159.ntmps,[],[]⟩
theorem vcAdd3(a0 a1 a2 c0 c1 c2:Int)(Q:Res->Prop):(nfun true CAdd3 Tryz.f159 (bodyOf Tryz.f159) [.agg [I6 a0,I6 a1,I6 a2], .agg [I6 c0,I6 c1,I6 c2]] [] Q)=(R6 (a0+c0)/\∀x1,x1=a0+c0->R6 (a1+c1)/\∀x2,x2=a1+c1->R6 (a2+c2)/\∀x3,x3=a2+c2->Q ⟨.agg [I6 x1,I6 x2,I6 x3],false,[],[]⟩):=by kernel_rfl
def SMinus3(hA:List HV)(pA:List (List HC)):SR:=match hA,pA with
 |[.agg [.int .i64 a0, .int .i64 a1, .int .i64 a2], .agg [.int .i64 c0, .int .i64 c1, .int .i64 c2]],[]=> .det (b3 134217728 a0 a1 a2/\b3 134217728 c0 c1 c2) ⟨.agg [I6 (a0-c0),I6 (a1-c1),I6 (a2-c2)],false,[],[]⟩
 |_,_=> .fail
noncomputable def CMinus3:Ctx:=⟨Tryz.prog,gam [],Tryz.f160.ntmps,[],[]⟩
theorem vcMinus3(a0 a1 a2 c0 c1 c2:Int)(Q:Res->Prop):(nfun true CMinus3 Tryz.f160 (bodyOf Tryz.f160) [.agg [I6 a0,I6 a1,I6 a2], .agg [I6 c0,I6 c1,I6 c2]] [] Q)=(R6 (a0-c0)/\∀x1,x1=a0-c0->R6 (a1-c1)/\∀x2,x2=a1-c1->R6 (a2-c2)/\∀x3,x3=a2-c2->Q ⟨.agg [I6 x1,I6 x2,I6 x3],false,[],[]⟩):=by kernel_rfl
def SBend(hA:List HV)(pA:List (List HC)):SR:=match hA,pA with
 |[.agg [.int .i64 p0, .int .i64 p1, .int .i64 p2], .agg [.int .i64 c0, .int .i64 c1, .int .i64 c2], .agg [.int .i64 q0, .int .i64 q1, .int .i64 q2]],[]=> .all (b3 1048576 p0 p1 p2/\b3 1048576 c0 c1 c2/\b3 1048576 q0 q1 q2) Int (fun x=>0<=x/\x<=70368744177664) (fun x=>⟨.ce (I6 x),false,[],[]⟩)
 |_,_=> .fail
def tabBend:List (FuncId×HL.Spec):=[(159,SAdd3),(160,SMinus3),(105,SSquare)]
noncomputable def CBend:Ctx:=⟨Tryz.prog,gam tabBend,Tryz.f151.ntmps,[],[]⟩
theorem vcBend(p0 p1 p2 c0 c1 c2 q0 q1 q2:Int)(Q:Res->Prop):(nfun true CBend Tryz.f151 (bodyOf Tryz.f151) [.agg [I6 p0,I6 p1,I6 p2], .agg [I6 c0,I6 c1,I6 c2], .agg [I6 q0,I6 q1,I6 q2]] [] Q)=((b3 134217728 p0 p1 p2/\b3 134217728 c0 c1 c2)/\∀x1,x1=p0-c0->∀x2,x2=p1-c1->∀x3,x3=p2-c2->(b3 134217728 q0 q1 q2/\b3 134217728 c0 c1 c2)/\∀x4,x4=q0-c0->∀x5,x5=q1-c1->∀x6,x6=q2-c2->(b3 134217728 x1 x2 x3/\b3 134217728 x4 x5 x6)/\∀x7,x7=x1+x4->∀x8,x8=x2+x5->∀x9,x9=x3+x6->(b3 268435456 x7 x8 x9/\b3 268435456 (0:Int) (0:Int) (0:Int))/\∀x10,x10=sq3 x7 x8 x9 (0:Int) (0:Int) (0:Int)->Q ⟨.ce (I6 x10),false,[],[]⟩):=by kernel_rfl
def SToward(hA:List HV)(pA:List (List HC)):SR:=match hA,pA with
 |[.agg [.int .i64 c0, .int .i64 c1, .int .i64 c2], .agg [.int .i64 a0, .int .i64 a1, .int .i64 a2], .ce (.int .i64 d)],[]=> .all (b3 4096 c0 c1 c2/\b3 4096 a0 a1 a2/\(0<=d/\d<=16384)) (Int×Int×Int×Bool) (fun x=>b3 20480 x.1 x.2.1 x.2.2.1) (fun x=>⟨.tup [.agg [I6 x.1,I6 x.2.1,I6 x.2.2.1], .ce (.bool x.2.2.2)],false,[],[]⟩)
 |_,_=> .fail
def tabToward:List (FuncId×HL.Spec):=[(105,SSquare),(150,SNear)]
noncomputable def CToward:Ctx:=⟨Tryz.prog,gam tabToward,Tryz.f138.ntmps,[(4000006,⟨[],[4],[1000003,1000004,1000006,1000009],true⟩,fun _=> .fail)],[]⟩
theorem vcToward(c0 c1 c2 a0 a1 a2 d:Int)(Q:Res->Prop):(nfun true CToward Tryz.f138 (bodyOf Tryz.f138) [.agg [I6 c0,I6 c1,I6 c2], .agg [I6 a0,I6 a1,I6 a2], .ce (I6 d)] [] Q)=((b3 268435456 a0 a1 a2/\b3 268435456 c0 c1 c2)/\∀x1,x1=sq3 a0 a1 a2 c0 c1 c2->Bb (x1==0) (Q ⟨.tup [.agg [I6 0,I6 0,I6 0], .ce (.bool false)],false,[],[]⟩) (Br (d<0) (Q ⟨.tup [.agg [I6 0,I6 0,I6 0], .ce (.bool false)],false,[],[]⟩) (Br (d>33554432) (Q ⟨.tup [.agg [I6 0,I6 0,I6 0], .ce (.bool false)],false,[],[]⟩) (R6 (a0-c0)/\∀x2,x2=a0-c0->((-65536<=x2/\x2<=65536)/\(0<=d/\d<=65536)/\x2*x2<=x1/\1<=x1/\x1<=1099511627776)/\(∃(x:Int),-d<=x/\x<=d)/\∀(x:Int),-d<=x/\x<=d->R6 (c0+x)/\∀x4,x4=c0+x->R6 (a1-c1)/\∀x5,x5=a1-c1->((-65536<=x5/\x5<=65536)/\(0<=d/\d<=65536)/\x5*x5<=x1/\1<=x1/\x1<=1099511627776)/\(∃(x:Int),-d<=x/\x<=d)/\∀(x:Int),-d<=x/\x<=d->R6 (c1+x)/\∀x7,x7=c1+x->R6 (a2-c2)/\∀x8,x8=a2-c2->((-65536<=x8/\x8<=65536)/\(0<=d/\d<=65536)/\x8*x8<=x1/\1<=x1/\x1<=1099511627776)/\(∃(x:Int),-d<=x/\x<=d)/\∀(x:Int),-d<=x/\x<=d->R6 (c2+x)/\∀x10,x10=c2+x->Q ⟨.tup [.agg [I6 x4,I6 x7,I6 x10], .ce (.bool true)],false,[],[]⟩)))):=by kernel_rfl
def SPermit(hA:List HV)(pA:List (List HC)):SR:=match hA,pA with
 |[.agg [.int .i64 a0, .int .i64 a1, .int .i64 a2], .agg [.int .i64 c0, .int .i64 c1, .int .i64 c2], .agg [.int .i64 e0, .int .i64 e1, .int .i64 e2], .ce (.int .i64 t), .ce (.int .i64 d)],[]=> .all ((b3 4096 a0 a1 a2/\b3 4096 c0 c1 c2/\b3 4096 e0 e1 e2)/\(0<=t/\t<=65536)/\0<=d) Bool (fun x=>x=true->d<=16384) (fun x=>⟨.ce (.bool x),false,[],[]⟩)
 |_,_=> .fail
def tabPermit:List (FuncId×HL.Spec):=[(72,SLength),(138,SToward),(151,SBend)]
noncomputable def CPermit:Ctx:=⟨Tryz.prog,gam tabPermit,Tryz.f149.ntmps,[],[]⟩
theorem vcPermit(a0 a1 a2 c0 c1 c2 e0 e1 e2 t d:Int)(Q:Res->Prop):(nfun true CPermit Tryz.f149 (bodyOf Tryz.f149) [.agg [I6 a0,I6 a1,I6 a2], .agg [I6 c0,I6 c1,I6 c2], .agg [I6 e0,I6 e1,I6 e2], .ce (I6 t), .ce (I6 d)] [] Q)=((b3 268435456 a0 a1 a2/\b3 268435456 c0 c1 c2)/\(∃(x:Int),isLen a0 a1 a2 c0 c1 c2 x)/\∀(x:Int),isLen a0 a1 a2 c0 c1 c2 x->(b3 268435456 c0 c1 c2/\b3 268435456 e0 e1 e2)/\(∃(x:Int),isLen c0 c1 c2 e0 e1 e2 x)/\∀(x_1:Int),isLen c0 c1 c2 e0 e1 e2 x_1->∀x3,x3=min x x_1->R6 (x3-2)/\∀x4,x4=x3-2->Br (d>x4) (Q ⟨.ce (.bool false),false,[],[]⟩) ((b3 4096 c0 c1 c2/\b3 4096 a0 a1 a2/\0<=d/\d<=16384)/\(∃(x:Int×Int×Int×Bool),b3 20480 x.1 x.snd.1 x.snd.snd.1)/\∀(x:Int×Int×Int×Bool),b3 20480 x.1 x.snd.1 x.snd.snd.1->(b3 4096 c0 c1 c2/\b3 4096 e0 e1 e2/\0<=d/\d<=16384)/\(∃(x:Int×Int×Int×Bool),b3 20480 x.1 x.snd.1 x.snd.snd.1)/\∀(x_2:Int×Int×Int×Bool),b3 20480 x_2.1 x_2.snd.1 x_2.snd.snd.1->(b3 1048576 x.1 x.snd.1 x.snd.snd.1/\b3 1048576 c0 c1 c2/\b3 1048576 x_2.1 x_2.snd.1 x_2.snd.snd.1)/\(∃(x:Int),0<=x/\x<=70368744177664)/\∀(x:Int),0<=x/\x<=70368744177664->R6 (16*t)/\∀x8,x8=16*t->R6 (x8*t)/\∀x9,x9=x8*t->Q ⟨.ce (.bool (decide (x<=x9))),false,[],[]⟩)):=by kernel_rfl
def SReach(hA:List HV)(pA:List (List HC)):SR:=match hA,pA with
 |[.agg [.int .i64 a0, .int .i64 a1, .int .i64 a2], .agg [.int .i64 c0, .int .i64 c1, .int .i64 c2], .agg [.int .i64 e0, .int .i64 e1, .int .i64 e2], .ce (.int .i64 t)],[]=> .all ((b3 4096 a0 a1 a2/\b3 4096 c0 c1 c2/\b3 4096 e0 e1 e2)/\(0<=t/\t<=65536)) Int (fun x=>0<=x/\x<=16384) (fun x=>⟨.ce (I6 x),false,[],[]⟩)
 |_,_=> .fail
def tabReach:List (FuncId×HL.Spec):=[(149,SPermit)]
def anReach:LAnn:=⟨[3,4,5,6,8,9,10],[8,9],[1000004,1000005,1000006],false⟩
def LReach(v:LV):LR:=match v with
 |([.ce (.int .i64 t), .ce (.ptr 1000004 0), .ce (.ptr 1000005 0), .ce (.ptr 1000006 0), .ce (.int .i64 z), .ce (.int .i64 d), .ce (.int .i64 b)],[[.int .i64 a0, .int .i64 a1, .int .i64 a2],[.int .i64 c0, .int .i64 c1, .int .i64 c2],[.int .i64 e0, .int .i64 e1, .int .i64 e2]])=> .all ((b3 4096 a0 a1 a2/\b3 4096 c0 c1 c2/\b3 4096 e0 e1 e2)/\(0<=t/\t<=65536)/\(0<=d/\d<=16384)/\(0<=b/\b<=16777216)) Int (fun x=>0<=x/\x<=16384) (fun _=> .exit 0) (fun x=>([.ce (I6 z), .ce (I6 x)],[[I6 a0,I6 a1,I6 a2],[I6 c0,I6 c1,I6 c2],[I6 e0,I6 e1,I6 e2]]))
 |_=> .fail
noncomputable def CReach:Ctx:=⟨Tryz.prog,gam tabReach,Tryz.f137.ntmps,[(5,anReach,LReach)],[]⟩
theorem vbReach(t z d b a0 a1 a2 c0 c1 c2 e0 e1 e2:Int)(K:HEx->LV->Prop):(nbodyT true CReach anReach (nthLoop Tryz.f137 0) (([.ce (I6 t), .ce (.ptr 1000004 0), .ce (.ptr 1000005 0), .ce (.ptr 1000006 0), .ce (I6 z), .ce (I6 d), .ce (I6 b)],[[I6 a0,I6 a1,I6 a2],[I6 c0,I6 c1,I6 c2],[I6 e0,I6 e1,I6 e2]])) K)=(Br (b>0) (R6 (d+b)/\∀x1,x1=d+b->((b3 4096 a0 a1 a2/\b3 4096 c0 c1 c2/\b3 4096 e0 e1 e2)/\(0<=t/\t<=65536)/\0<=x1)/\(∃(x:Bool),x=true->x1<=16384)/\∀(x:Bool),(x=true->x1<=16384)->Bb (x) (R6 (d+b)/\∀x3,x3=d+b->(0:Int)<=1/\∀x4,x4=b/2->K .normal ([.ce (I6 t), .ce (.ptr 1000004 0), .ce (.ptr 1000005 0), .ce (.ptr 1000006 0), .ce (I6 z), .ce (I6 x3), .ce (I6 x4)],[[I6 a0,I6 a1,I6 a2],[I6 c0,I6 c1,I6 c2],[I6 e0,I6 e1,I6 e2]])) ((0:Int)<=1/\∀x5,x5=b/2->K .normal ([.ce (I6 t), .ce (.ptr 1000004 0), .ce (.ptr 1000005 0), .ce (.ptr 1000006 0), .ce (I6 z), .ce (I6 d), .ce (I6 x5)],[[I6 a0,I6 a1,I6 a2],[I6 c0,I6 c1,I6 c2],[I6 e0,I6 e1,I6 e2]]))) (K (.exit 0) ([.ce (I6 z), .ce (I6 d)],[[I6 a0,I6 a1,I6 a2],[I6 c0,I6 c1,I6 c2],[I6 e0,I6 e1,I6 e2]]))):=by kernel_rfl
theorem vcReach(a0 a1 a2 c0 c1 c2 e0 e1 e2 t:Int)(Q:Res->Prop):(nfun true CReach Tryz.f137 (bodyOf Tryz.f137) [.agg [I6 a0,I6 a1,I6 a2], .agg [I6 c0,I6 c1,I6 c2], .agg [I6 e0,I6 e1,I6 e2], .ce (I6 t)] [] Q)=(Bb (a0==c0&&(a1==c1&&(a2==c2&&true))) (Q ⟨.ce (I6 0),false,[],[]⟩) (Bb (e0==c0&&(e1==c1&&(e2==c2&&true))) (Q ⟨.ce (I6 0),false,[],[]⟩) (((b3 4096 a0 a1 a2/\b3 4096 c0 c1 c2/\b3 4096 e0 e1 e2)/\(0<=t/\t<=65536)/\((0:Int)<=0/\(0:Int)<=16384)/\(0:Int)<=16777216/\(16777216:Int)<=16777216)/\∀(x:Int),0<=x/\x<=16384->Br (x<16) (Q ⟨.ce (I6 0),false,[],[]⟩) (Q ⟨.ce (I6 x),false,[],[]⟩)))):=by kernel_rfl
def SPieces(hA:List HV)(pA:List (List HC)):SR:=match hA,pA with
 |[.agg [.int .i64 p0, .int .i64 p1, .int .i64 p2], .agg [.int .i64 c0, .int .i64 c1, .int .i64 c2], .agg [.int .i64 q0, .int .i64 q1, .int .i64 q2]],[]=> .all (b3 1048576 p0 p1 p2/\b3 1048576 c0 c1 c2/\b3 1048576 q0 q1 q2) Int (fun x=>2<=x/\x<=127) (fun x=>⟨.ce (I6 x),false,[],[]⟩)
 |_,_=> .fail
def tabPieces:List (FuncId×HL.Spec):=[(151,SBend)]
def anPieces:LAnn:=⟨[3,4,5,6,7],[6,7],[1000003,1000004,1000005],false⟩
def LPieces(v:LV):LR:=match v with
 |([.ce (.ptr 1000003 0), .ce (.ptr 1000004 0), .ce (.ptr 1000005 0), .ce (.int .i64 z), .ce (.int .i64 n)],[[.int .i64 a0, .int .i64 a1, .int .i64 a2],[.int .i64 c0, .int .i64 c1, .int .i64 c2],[.int .i64 e0, .int .i64 e1, .int .i64 e2]])=> .all ((b3 1048576 a0 a1 a2/\b3 1048576 c0 c1 c2/\b3 1048576 e0 e1 e2)/\(2<=n/\n<=127)) Int (fun x=>2<=x/\x<=127) (fun _=> .exit 0) (fun x=>([.ce (I6 z), .ce (I6 x)],[[I6 a0,I6 a1,I6 a2],[I6 c0,I6 c1,I6 c2],[I6 e0,I6 e1,I6 e2]]))
 |_=> .fail
noncomputable def CPieces:Ctx:=⟨Tryz.prog,gam tabPieces,Tryz.f139.ntmps,[(2,anPieces,LPieces)],[]⟩
theorem vbPieces(z n a0 a1 a2 c0 c1 c2 e0 e1 e2:Int)(K:HEx->LV->Prop):(nbodyT true CPieces anPieces (nthLoop Tryz.f139 0) (([.ce (.ptr 1000003 0), .ce (.ptr 1000004 0), .ce (.ptr 1000005 0), .ce (I6 z), .ce (I6 n)],[[I6 a0,I6 a1,I6 a2],[I6 c0,I6 c1,I6 c2],[I6 e0,I6 e1,I6 e2]])) K)=(Br (n<64) ((b3 1048576 a0 a1 a2/\b3 1048576 c0 c1 c2/\b3 1048576 e0 e1 e2)/\(∃(x:Int),0<=x/\x<=70368744177664)/\∀(x:Int),0<=x/\x<=70368744177664->R6 (16*n)/\∀x2,x2=16*n->R6 (x2*n)/\∀x3,x3=x2*n->R6 (x3*n)/\∀x4,x4=x3*n->R6 (x4*n)/\∀x5,x5=x4*n->R6 (x5*4)/\∀x6,x6=x5*4->R6 (x6*4)/\∀x7,x7=x6*4->Br (x>x7) (R6 (n*2)/\∀x8,x8=n*2->K .normal ([.ce (.ptr 1000003 0), .ce (.ptr 1000004 0), .ce (.ptr 1000005 0), .ce (I6 z), .ce (I6 x8)],[[I6 a0,I6 a1,I6 a2],[I6 c0,I6 c1,I6 c2],[I6 e0,I6 e1,I6 e2]])) (K (.exit 0) ([.ce (I6 z), .ce (I6 n)],[[I6 a0,I6 a1,I6 a2],[I6 c0,I6 c1,I6 c2],[I6 e0,I6 e1,I6 e2]]))) (K (.exit 0) ([.ce (I6 z), .ce (I6 n)],[[I6 a0,I6 a1,I6 a2],[I6 c0,I6 c1,I6 c2],[I6 e0,I6 e1,I6 e2]]))):=by kernel_rfl
theorem vcPieces(p0 p1 p2 c0 c1 c2 q0 q1 q2:Int)(Q:Res->Prop):(nfun true CPieces Tryz.f139 (bodyOf Tryz.f139) [.agg [I6 p0,I6 p1,I6 p2], .agg [I6 c0,I6 c1,I6 c2], .agg [I6 q0,I6 q1,I6 q2]] [] Q)=(((b3 1048576 p0 p1 p2/\b3 1048576 c0 c1 c2/\b3 1048576 q0 q1 q2)/\(2:Int)<=2/\(2:Int)<=127)/\∀(x:Int),2<=x/\x<=127->Q ⟨.ce (I6 x),false,[],[]⟩):=by kernel_rfl
def SCorner(hA:List HV)(pA:List (List HC)):SR:=match hA,pA with
 |[.agg [.int .i64 a0, .int .i64 a1, .int .i64 a2], .agg [.int .i64 c0, .int .i64 c1, .int .i64 c2], .agg [.int .i64 e0, .int .i64 e1, .int .i64 e2], .ce (.int .i64 t)],[]=> .all ((b3 4096 a0 a1 a2/\b3 4096 c0 c1 c2/\b3 4096 e0 e1 e2)/\(0<=t/\t<=65536)) (LL) (fun x=>(1<=x.length/\x.length<=128)/\ptsOK 32768 x) (fun x=>⟨.ce (.sl false [4,4,4] x),true,[],[]⟩)
 |_,_=> .fail
def tabCorner:List (FuncId×HL.Spec):=[(137,SReach),(138,SToward),(139,SPieces),(100,SRnd)]
def anCorner:LAnn:=⟨[5,10,12,14,15,100015,16],[15,100015],[1000005,1000010,1000012],false⟩
def LCorner(v:LV):LR:=match v with
 |([.ce (.ptr 1000005 0), .ce (.ptr 1000010 0), .ce (.ptr 1000012 0), .ce (.int .i64 n), .ce (.sl false [4,4,4] l), .ce (.lit true), .ce (.int .i64 i)],[[.int .i64 c0, .int .i64 c1, .int .i64 c2],[.int .i64 p0, .int .i64 p1, .int .i64 p2],[.int .i64 q0, .int .i64 q1, .int .i64 q2]])=> .all ((b3 4096 c0 c1 c2/\b3 20480 p0 p1 p2/\b3 20480 q0 q1 q2)/\(2<=n/\n<=127)/\(0<=i/\i<=n+1/\(l.length:Int)=i)/\ptsOK 32768 l) (LL) (fun x=>(x.length:Int)=n+1/\ptsOK 32768 x) (fun _=> .exit 0) (fun x=>([.ce (.sl false [4,4,4] x), .ce (.lit true)],[[I6 c0,I6 c1,I6 c2],[I6 p0,I6 p1,I6 p2],[I6 q0,I6 q1,I6 q2]]))
 |_=> .fail
noncomputable def CCorner:Ctx:=⟨Tryz.prog,gam tabCorner,Tryz.f120.ntmps,[(9,anCorner,LCorner),(4000013,⟨[],[4],[1000005,1000010,1000012,1000017],true⟩,fun _=> .fail)],[]⟩
theorem vbCorner(n i c0 c1 c2 p0 p1 p2 q0 q1 q2:Int)(l:LL)(K:HEx->LV->Prop):(nbodyT true CCorner anCorner (nthLoop Tryz.f120 0) (([.ce (.ptr 1000005 0), .ce (.ptr 1000010 0), .ce (.ptr 1000012 0), .ce (I6 n), .ce (.sl false [4,4,4] l), .ce (.lit true), .ce (I6 i)],[[I6 c0,I6 c1,I6 c2],[I6 p0,I6 p1,I6 p2],[I6 q0,I6 q1,I6 q2]])) K)=(Br (i<=n) (R6 (n-i)/\∀x1,x1=n-i->R6 (n-i)/\∀x2,x2=n-i->R6 (x1*x2)/\∀x3,x3=x1*x2->R6 (p0-c0)/\∀x4,x4=p0-c0->R6 (x3*x4)/\∀x5,x5=x3*x4->R6 (i*i)/\∀x6,x6=i*i->R6 (q0-c0)/\∀x7,x7=q0-c0->R6 (x6*x7)/\∀x8,x8=x6*x7->R6 (x5+x8)/\∀x9,x9=x5+x8->(-9223372036854775808<=n*n/\n*n<=9223372036854775807)/\∀x10,x10=n*n->(-2305843009213693952<=x9/\x9<=2305843009213693952/\0<x10/\x10<=2305843009213693952)/\∀x11,x11=rnd x9 x10->R6 (c0+x11)/\∀x12,x12=c0+x11->R6 (n-i)/\∀x13,x13=n-i->R6 (n-i)/\∀x14,x14=n-i->R6 (x13*x14)/\∀x15,x15=x13*x14->R6 (p1-c1)/\∀x16,x16=p1-c1->R6 (x15*x16)/\∀x17,x17=x15*x16->R6 (i*i)/\∀x18,x18=i*i->(-9223372036854775808<=q1-c1/\q1-c1<=9223372036854775807)/\∀x19,x19=q1-c1->R6 (x18*x19)/\∀x20,x20=x18*x19->R6 (x17+x20)/\∀x21,x21=x17+x20->R6 (n*n)/\∀x22,x22=n*n->(-2305843009213693952<=x21/\x21<=2305843009213693952/\0<x22/\x22<=2305843009213693952)/\∀x23,x23=rnd x21 x22->R6 (c1+x23)/\∀x24,x24=c1+x23->R6 (n-i)/\∀x25,x25=n-i->R6 (n-i)/\∀x26,x26=n-i->R6 (x25*x26)/\∀x27,x27=x25*x26->(-9223372036854775808<=p2-c2/\p2-c2<=9223372036854775807)/\∀x28,x28=p2-c2->R6 (x27*x28)/\∀x29,x29=x27*x28->R6 (i*i)/\∀x30,x30=i*i->R6 (q2-c2)/\∀x31,x31=q2-c2->R6 (x30*x31)/\∀x32,x32=x30*x31->R6 (x29+x32)/\∀x33,x33=x29+x32->R6 (n*n)/\∀x34,x34=n*n->(-2305843009213693952<=x33/\x33<=2305843009213693952/\0<x34/\x34<=2305843009213693952)/\∀x35,x35=rnd x33 x34->R6 (c2+x35)/\∀x36,x36=c2+x35->((l.length+1)*nat_lit 24<=140737488355328/\l.length+1<=maxLen)/\R6 (i+1)/\∀x37,x37=i+1->K .normal ([.ce (.ptr 1000005 0), .ce (.ptr 1000010 0), .ce (.ptr 1000012 0), .ce (I6 n), .ce (.sl false [4,4,4] (l++[[x12,x24,x36]])), .ce (.lit true), .ce (I6 x37)],[[I6 c0,I6 c1,I6 c2],[I6 p0,I6 p1,I6 p2],[I6 q0,I6 q1,I6 q2]])) (K (.exit 0) ([.ce (.sl false [4,4,4] l), .ce (.lit true)],[[I6 c0,I6 c1,I6 c2],[I6 p0,I6 p1,I6 p2],[I6 q0,I6 q1,I6 q2]]))):=by kernel_rfl
theorem vcCorner(a0 a1 a2 c0 c1 c2 e0 e1 e2 t:Int)(Q:Res->Prop):(nfun true CCorner Tryz.f120 (bodyOf Tryz.f120) [.agg [I6 a0,I6 a1,I6 a2], .agg [I6 c0,I6 c1,I6 c2], .agg [I6 e0,I6 e1,I6 e2], .ce (I6 t)] [] Q)=(((b3 4096 a0 a1 a2/\b3 4096 c0 c1 c2/\b3 4096 e0 e1 e2)/\0<=t/\t<=65536)/\(∃(x:Int),0<=x/\x<=16384)/\∀(x:Int),0<=x/\x<=16384->Bb (x==0) (Q ⟨.ce (.sl false [4,4,4] [[c0,c1,c2]]),true,[],[]⟩) ((b3 4096 c0 c1 c2/\b3 4096 a0 a1 a2/\0<=x/\x<=16384)/\(∃(x:Int×Int×Int×Bool),b3 20480 x.1 x.snd.1 x.snd.snd.1)/\∀(x_1:Int×Int×Int×Bool),b3 20480 x_1.1 x_1.snd.1 x_1.snd.snd.1->(b3 4096 c0 c1 c2/\b3 4096 e0 e1 e2/\0<=x/\x<=16384)/\(∃(x:Int×Int×Int×Bool),b3 20480 x.1 x.snd.1 x.snd.snd.1)/\∀(x:Int×Int×Int×Bool),b3 20480 x.1 x.snd.1 x.snd.snd.1->(b3 1048576 x_1.1 x_1.snd.1 x_1.snd.snd.1/\b3 1048576 c0 c1 c2/\b3 1048576 x.1 x.snd.1 x.snd.snd.1)/\(∃(x:Int),2<=x/\x<=127)/\∀(x_2:Int),2<=x_2/\x_2<=127->((b3 4096 c0 c1 c2/\b3 20480 x_1.1 x_1.snd.1 x_1.snd.snd.1/\b3 20480 x.1 x.snd.1 x.snd.snd.1)/\(2<=x_2/\x_2<=127)/\((0:Int)<=0/\0<=x_2+1/\(0:Int)=0)/\ptsOK (32768:Int) [])/\∀(x:LL),(x.length:Int)=x_2+1/\ptsOK (32768:Int) x->Q ⟨.ce (.sl false [4,4,4] x),true,[],[]⟩)):=by kernel_rfl
end Go.Proofs.YtoekmphdpepdbaaGreat
namespace U
theorem isLen_ex(a0 a1 a2 b0 b1 b2:Int):∃l,isLen a0 a1 a2 b0 b1 b2 l:=by
 have h0:0<=sq3 a0 a1 a2 b0 b1 b2:=by
  unfold sq3;have:=sq_nonneg (a0-b0);have:=sq_nonneg (a1-b1);have:=sq_nonneg (a2-b2);omega
 obtain⟨x,hx0,hx1,hx2⟩:=isqrt_exI h0;rcases Int.lt_or_le (x*x) (sq3 a0 a1 a2 b0 b1 b2)with g|g
 . exact⟨x+1,isLen_of (by omega) (by omega) (.inr (by rw[Int.add_sub_cancel];exact g))⟩
 . refine⟨x,isLen_of hx0 g ?_⟩;rcases Int.lt_or_le 0 x with h1|h1
   . right;have:(x-1)*(x-1)=x*x-2*x+1:=by grind
     omega
   . left;omega
theorem b3_mono{B C a0 a1 a2:Int}(h:B<=C)(hb:b3 B a0 a1 a2):b3 C a0 a1 a2:=by unfold b3 at*;omega
theorem mul_abs{a u M:Int}(ha:0<=a)(h1: -M<=u)(h2:u<=M): -(M*a)<=a*u/\a*u<=M*a:=by
 have e1:=Int.mul_le_mul_of_nonneg_left h2 ha;have e2:=Int.mul_le_mul_of_nonneg_left h1 ha;rw[Int.mul_comm M a];rw[Int.mul_neg]at e2;exact⟨e2,e1⟩
theorem rnd_bd{a b:Int}(hb:0<b)(h1: -(24576*b)<=a)(h2:a<=24576*b): -24576<=rnd a b/\rnd a b<=24576:=by
 unfold rnd;refine⟨Int.le_ediv_of_mul_le (by omega) (by omega),?_⟩;have:=Int.ediv_lt_of_lt_mul (a:=2*a+b) (b:=24577) (c:=2*b) (by omega) (by omega);omega
theorem cor_step{n i c p q:Int}(hn:2<=n/\n<=127)(hi:0<=i/\i<=n)(hc: -4096<=c/\c<=4096)(hp: -20480<=p/\p<=20480)(hq: -20480<=q/\q<=20480)(T:Int->Prop)(fin:∀x,(-32768<=x/\x<=32768)->T x):((-9223372036854775808:Int)<=n-i/\n-i<=(9223372036854775807:Int))/\∀(x1:Int),x1=n-i->((-9223372036854775808:Int)<=n-i/\n-i<=(9223372036854775807:Int))/\∀(x2:Int),x2=n-i->((-9223372036854775808:Int)<=x1*x2/\x1*x2<=(9223372036854775807:Int))/\∀(x3:Int),x3=x1*x2->((-9223372036854775808:Int)<=p-c/\p-c<=(9223372036854775807:Int))/\∀(x4:Int),x4=p-c->((-9223372036854775808:Int)<=x3*x4/\x3*x4<=(9223372036854775807:Int))/\∀(x5:Int),x5=x3*x4->((-9223372036854775808:Int)<=i*i/\i*i<=(9223372036854775807:Int))/\∀(x6:Int),x6=i*i->((-9223372036854775808:Int)<=q-c/\q-c<=(9223372036854775807:Int))/\∀(x7:Int),x7=q-c->((-9223372036854775808:Int)<=x6*x7/\x6*x7<=(9223372036854775807:Int))/\∀(x8:Int),x8=x6*x7->((-9223372036854775808:Int)<=x5+x8/\x5+x8<=(9223372036854775807:Int))/\∀(x9:Int),x9=x5+x8->((-9223372036854775808:Int)<=n*n/\n*n<=(9223372036854775807:Int))/\∀(x10:Int),x10=n*n->((-2305843009213693952:Int)<=x9/\x9<=(2305843009213693952:Int)/\(0:Int)<x10/\x10<=(2305843009213693952:Int))/\∀(x11:Int),x11=rnd x9 x10->((-9223372036854775808:Int)<=c+x11/\c+x11<=(9223372036854775807:Int))/\∀(x12:Int),x12=c+x11->T x12:=by
 have mA:=mulbd (show 0<=n-i by omega) (show n-i<=127 by omega) (show 0<=n-i by omega) (show n-i<=127 by omega);have mB:=mulbd hi.1 (show i<=127 by omega) hi.1 (show i<=127 by omega);have mN:=mulbd (show 0<=n by omega) hn.2 (show 0<=n by omega) hn.2;have n2:4<=n*n:=Int.mul_le_mul hn.1 hn.1 (by omega) (by omega);have mid:=Int.mul_nonneg hi.1 (show 0<=n-i by omega);have e:n*n=(n-i)*(n-i)+i*i+2*(i*(n-i)):=by grind
 refine⟨by omega,?_⟩;rintro _ rfl;refine⟨by omega,?_⟩;rintro _ rfl;refine⟨by omega,fun x3 e3=>⟨by omega,fun x4 e4=> ?_⟩⟩;have mU:=mul_abs (a:=x3) (u:=x4) (M:=24576) (by omega) (by omega) (by omega);refine⟨by omega,fun x5 e5=>⟨by omega,fun x6 e6=>⟨by omega,fun x7 e7=> ?_⟩⟩⟩;have mV:=mul_abs (a:=x6) (u:=x7) (M:=24576) (by omega) (by omega) (by omega);refine⟨by omega,fun x8 e8=>⟨by omega,fun x9 e9=>⟨by omega,fun x10 e10=>⟨⟨by omega,by omega,by omega,by omega⟩,fun x11 e11=> ?_⟩⟩⟩⟩;have hr:=rnd_bd (a:=x9) (b:=x10) (by omega) (by omega) (by omega);rw[<-e11]at hr;exact⟨by omega,fun x12 e12=>fin x12 (by omega)⟩
theorem ptsOK_app{B:Int}{l:LL}{x y z:Int}(h:ptsOK B l)(hb:b3 B x y z):ptsOK B (l++[[x,y,z]]):=by
 intro j hj;by_cases hjl:j<l.length
 . have e:(l++[[x,y,z]]).getD j []=l.getD j []:=by
    rw[List.getD_eq_getElem?_getD,List.getElem?_append_left hjl,<-List.getD_eq_getElem?_getD]
   have:=h j hjl;unfold ec at this⊢;rw[e];exact this
 . have hj2:j=l.length:=by simp at hj;omega
   subst hj2;unfold ec;have e:(l++[[x,y,z]]).getD l.length []=[x,y,z]:=by simp[List.getD_eq_getElem?_getD]
   rw[e];exact hb
theorem ptsOK_nil{B:Int}:ptsOK B []:=fun j hj=>absurd hj (Nat.not_lt_zero _)
end U
namespace Go.Proofs.YtoekmphdpepdbaaGreat
open Go Go.HL U
attribute [local irreducible] hfun bodyT fragT
theorem sAdd3:Sound Tryz.prog 159 SAdd3:=by
 refine sound_of (C:=CAdd3) [] Tryz.func159 (by kernel_rfl) (by decide+kernel) (by kernel_rfl) rfl trivial (loops0 (by kernel_rfl)) ?_;intro hA pA R h;unfold SAdd3 at h;split at h;case h_2=>exfalso;exact h
 rename_i a0 a1 a2 c0 c1 c2;obtain⟨⟨ha,hc⟩,hq⟩:=h;unfold b3 at ha hc;refine byVC (vcAdd3 a0 a1 a2 c0 c1 c2 R) ⟨by omega,?_⟩;rintro _ rfl;refine⟨by omega,?_⟩;rintro _ rfl;refine⟨by omega,?_⟩;rintro _ rfl;exact hq
theorem sMinus3:Sound Tryz.prog 160 SMinus3:=by
 refine sound_of (C:=CMinus3) [] Tryz.func160 (by kernel_rfl) (by decide+kernel) (by kernel_rfl) rfl trivial (loops0 (by kernel_rfl)) ?_;intro hA pA R h;unfold SMinus3 at h;split at h;case h_2=>exfalso;exact h
 rename_i a0 a1 a2 c0 c1 c2;obtain⟨⟨ha,hc⟩,hq⟩:=h;unfold b3 at ha hc;refine byVC (vcMinus3 a0 a1 a2 c0 c1 c2 R) ⟨by omega,?_⟩;rintro _ rfl;refine⟨by omega,?_⟩;rintro _ rfl;refine⟨by omega,?_⟩;rintro _ rfl;exact hq
theorem sBend:Sound Tryz.prog 151 SBend:=by
 refine sound_of (C:=CBend) tabBend Tryz.func151 (by kernel_rfl) (by decide+kernel) (by kernel_rfl) rfl ⟨sAdd3,sMinus3,sSquare,trivial⟩ (loops0 (by kernel_rfl)) ?_;intro hA pA R h;unfold SBend at h;split at h;case h_2=>exfalso;exact h
 rename_i p0 p1 p2 c0 c1 c2 q0 q1 q2;obtain⟨⟨hp,hc,hq⟩,_,hR⟩:=h;have w:∀{a b c:Int},b3 1048576 a b c->b3 134217728 a b c:=b3_mono (by decide);refine byVC (vcBend p0 p1 p2 c0 c1 c2 q0 q1 q2 R) ⟨⟨w hp,w hc⟩,fun x1 e1 x2 e2 x3 e3=>⟨⟨w hq,w hc⟩,fun x4 e4 x5 e5 x6 e6=> ?_⟩⟩;unfold b3 at*;refine⟨by omega,fun x7 e7 x8 e8 x9 e9=>⟨by omega,fun x10 e10=>hR x10 ?_⟩⟩;unfold sq3 at e10;have n0:=sq_nonneg (x7-0);have n1:=sq_nonneg (x8-0);have n2:=sq_nonneg (x9-0);have m0:=sq_bd (a:=x7-0) (D:=4194304) (by omega) (by omega);have m1:=sq_bd (a:=x8-0) (D:=4194304) (by omega) (by omega);have m2:=sq_bd (a:=x9-0) (D:=4194304) (by omega) (by omega);omega
theorem sToward:Sound Tryz.prog 138 SToward:=by
 refine sound_of (C:=CToward) tabToward Tryz.func138 (by kernel_rfl) (by decide+kernel) (by kernel_rfl) rfl ⟨sSquare,sNear,trivial⟩ (loopsAll (by kernel_rfl)) ?_;intro hA pA R h;unfold SToward at h;split at h;case h_2=>exfalso;exact h
 rename_i c0 c1 c2 a0 a1 a2 d;obtain⟨⟨hc,ha,hd⟩,_,hR⟩:=h;have z:b3 20480 0 0 0:=b3_zero (by decide);refine byVC (vcToward c0 c1 c2 a0 a1 a2 d R) ⟨⟨b3_mono (by decide) ha,b3_mono (by decide) hc⟩,fun x1 e1=>⟨fun _=>hR (0,0,0,false) z,fun g=>⟨fun _=>hR (0,0,0,false) z,fun _=>⟨fun _=>hR (0,0,0,false) z,fun _=> ?_⟩⟩⟩⟩;have g:x1≠0:=by simpa using g
 unfold b3 at hc ha;unfold sq3 at e1;have n0:=sq_nonneg (a0-c0);have n1:=sq_nonneg (a1-c1);have n2:=sq_nonneg (a2-c2);have m0:=sq_bd (a:=a0-c0) (D:=8192) (by omega) (by omega);have m1:=sq_bd (a:=a1-c1) (D:=8192) (by omega) (by omega);have m2:=sq_bd (a:=a2-c2) (D:=8192) (by omega) (by omega);have nd:∃x:Int,-d<=x/\x<=d:=⟨0,by omega⟩;refine⟨by omega,?_⟩;rintro _ rfl;refine⟨⟨by omega,by omega,by omega,by omega,by omega⟩,nd,fun y0 h0=>⟨by omega,fun x4 e4=>⟨by omega,?_⟩⟩⟩;rintro _ rfl;refine⟨⟨by omega,by omega,by omega,by omega,by omega⟩,nd,fun y1 h1=>⟨by omega,fun x7 e7=>⟨by omega,?_⟩⟩⟩;rintro _ rfl;refine⟨⟨by omega,by omega,by omega,by omega,by omega⟩,nd,fun y2 h2=>⟨by omega,fun x10 e10=>hR (x4,x7,x10,true) ?_⟩⟩;show b3 20480 x4 x7 x10;unfold b3;omega
theorem sPermit:Sound Tryz.prog 149 SPermit:=by
 refine sound_of (C:=CPermit) tabPermit Tryz.func149 (by kernel_rfl) (by decide+kernel) (by kernel_rfl) rfl ⟨sLength,sToward,sBend,trivial⟩ (loops0 (by kernel_rfl)) ?_;intro hA pA R h;unfold SPermit at h;split at h;case h_2=>exfalso;exact h
 rename_i a0 a1 a2 c0 c1 c2 e0 e1 e2 t d;obtain⟨⟨⟨ha,hc,he⟩,ht,hd⟩,_,hR⟩:=h;have w:∀{a b c:Int},b3 4096 a b c->b3 268435456 a b c:=b3_mono (by decide);have w2:∀{a b c:Int},b3 20480 a b c->b3 1048576 a b c:=b3_mono (by decide);refine byVC (vcPermit a0 a1 a2 c0 c1 c2 e0 e1 e2 t d R) ⟨⟨w ha,w hc⟩,isLen_ex _ _ _ _ _ _,fun x hx=>⟨⟨w hc,w he⟩,isLen_ex _ _ _ _ _ _,fun y hy x3 e3=> ?_⟩⟩;have lx:=hx.2.2.2 8192 (by decide) (by unfold b3 at*;omega);have ly:=hy.2.2.2 8192 (by decide) (by unfold b3 at*;omega);have px:=hx.1;have py:=hy.1;refine⟨by omega,fun x4 e4=>⟨fun _=>hR false (fun e=>by cases e),fun g=> ?_⟩⟩;have g:=odf g;have ed:d<=16384:=by omega
 have ex:∃x:Int×Int×Int×Bool,b3 20480 x.1 x.2.1 x.2.2.1:=⟨(0,0,0,false),b3_zero (by decide)⟩;refine⟨⟨hc,ha,hd,ed⟩,ex,fun u hu=>⟨⟨hc,he,hd,ed⟩,ex,fun v hv=>⟨⟨w2 hu,b3_mono (by decide) hc,w2 hv⟩,⟨0,by decide,by decide⟩,fun z hz=>⟨by omega,?_⟩⟩⟩⟩;rintro _ rfl;have tt:=mulbd ht.1 ht.2 ht.1 ht.2;have e:16*t*t=16*(t*t):=by grind
 refine⟨by omega,?_⟩;rintro _ rfl;exact hR _ fun _=>ed
theorem loopReach:∀v Q,(LReach v).wp Q->hloop CReach anReach (nthLoop Tryz.f137 0) v Q:=by
 intro v Q h;unfold LReach at h;split at h;case h_2=>exact h.elim
 rename_i t z d b a0 a1 a2 c0 c1 c2 e0 e1 e2;obtain⟨⟨hb3,ht,hd,hb⟩,hq⟩:=h;refine hloop_rec (σ:=Int×Int) (fun s=>([.ce (I6 t), .ce (.ptr 1000004 0), .ce (.ptr 1000005 0), .ce (.ptr 1000006 0), .ce (I6 z), .ce (I6 s.1), .ce (I6 s.2)],[[I6 a0,I6 a1,I6 a2],[I6 c0,I6 c1,I6 c2],[I6 e0,I6 e1,I6 e2]])) (fun s=>s.2.toNat) (fun s=>(0<=s.1/\s.1<=16384)/\(0<=s.2/\s.2<=16777216)) ?_ (d,b) ⟨hd,hb⟩;rintro⟨d,b⟩⟨hd,hb⟩K hn hx _;dsimp only at hd hb hn⊢;refine byVB (vbReach t z d b a0 a1 a2 c0 c1 c2 e0 e1 e2 K) ⟨fun g=> ?_,fun g=> ?_⟩
 . have g:=odt g;refine⟨by omega,?_⟩;rintro _ rfl;refine⟨⟨hb3,ht,by omega⟩,⟨false,fun e=>by cases e⟩,fun y hy=>⟨fun g2=>⟨by omega,?_⟩,fun _=>⟨by decide,?_⟩⟩⟩
   . rintro _ rfl;have:=hy g2;refine⟨by decide,?_⟩;rintro _ rfl;exact hn (d+b,b/2) ⟨by dsimp only;omega,by dsimp only;omega⟩ (by dsimp only;omega)
   . rintro _ rfl;exact hn (d,b/2) ⟨hd,by dsimp only;omega⟩ (by dsimp only;omega)
 . exact hx _ _ (hq d hd)
theorem sReach:Sound Tryz.prog 137 SReach:=by
 refine sound_of (C:=CReach) tabReach Tryz.func137 (by kernel_rfl) (by decide+kernel) (by kernel_rfl) rfl ⟨sPermit,trivial⟩ (loops1 (by kernel_rfl) (loopOK_of (an:=anReach) (S:=LReach) (by kernel_rfl) loopReach)) ?_;intro hA pA R h;unfold SReach at h;split at h;case h_2=>exfalso;exact h
 rename_i a0 a1 a2 c0 c1 c2 e0 e1 e2 t;obtain⟨⟨hb,ht⟩,_,hR⟩:=h;have z:R ⟨.ce (I6 0),false,[],[]⟩:=hR 0 (by decide);exact byVC (vcReach a0 a1 a2 c0 c1 c2 e0 e1 e2 t R) ⟨fun _=>z,fun _=>⟨fun _=>z,fun _=>⟨⟨hb,ht,by decide,by decide⟩,fun x hx=>⟨fun _=>z,fun _=>hR x hx⟩⟩⟩⟩
theorem loopPieces:∀v Q,(LPieces v).wp Q->hloop CPieces anPieces (nthLoop Tryz.f139 0) v Q:=by
 intro v Q h;unfold LPieces at h;split at h;case h_2=>exact h.elim
 rename_i z n a0 a1 a2 c0 c1 c2 e0 e1 e2;obtain⟨⟨hb3,hn0⟩,hq⟩:=h;refine hloop_rec (σ:=Int) (fun s=>([.ce (.ptr 1000003 0), .ce (.ptr 1000004 0), .ce (.ptr 1000005 0), .ce (I6 z), .ce (I6 s)],[[I6 a0,I6 a1,I6 a2],[I6 c0,I6 c1,I6 c2],[I6 e0,I6 e1,I6 e2]])) (fun s=>(127-s).toNat) (fun s=>2<=s/\s<=127) ?_ n hn0;intro n hn0 K hn hx _;refine byVB (vbPieces z n a0 a1 a2 c0 c1 c2 e0 e1 e2 K) ⟨fun g=> ?_,fun g=>hx _ _ (hq n hn0)⟩;have g:=odt g;refine⟨hb3,⟨0,by decide,by decide⟩,fun x hx2=>⟨by omega,fun x2 e2=> ?_⟩⟩;have m3:=mulbd (show 0<=x2 by omega) (show x2<=1024 by omega) (show 0<=n by omega) (show n<=64 by omega);refine⟨by omega,fun x3 e3=> ?_⟩;have m4:=mulbd (show 0<=x3 by omega) (show x3<=65536 by omega) (show 0<=n by omega) (show n<=64 by omega);refine⟨by omega,fun x4 e4=> ?_⟩;have m5:=mulbd (show 0<=x4 by omega) (show x4<=4194304 by omega) (show 0<=n by omega) (show n<=64 by omega);refine⟨by omega,fun x5 e5=>⟨by omega,fun x6 e6=>⟨by omega,fun x7 e7=>⟨fun _=>⟨by omega,?_⟩,fun _=>hx _ _ (hq n hn0)⟩⟩⟩⟩;rintro _ rfl;exact hn (n*2) (by omega) (by omega)
theorem sPieces:Sound Tryz.prog 139 SPieces:=by
 refine sound_of (C:=CPieces) tabPieces Tryz.func139 (by kernel_rfl) (by decide+kernel) (by kernel_rfl) rfl ⟨sBend,trivial⟩ (loops1 (by kernel_rfl) (loopOK_of (an:=anPieces) (S:=LPieces) (by kernel_rfl) loopPieces)) ?_;intro hA pA R h;unfold SPieces at h;split at h;case h_2=>exfalso;exact h
 rename_i p0 p1 p2 c0 c1 c2 q0 q1 q2;obtain⟨hb,_,hR⟩:=h;exact byVC (vcPieces p0 p1 p2 c0 c1 c2 q0 q1 q2 R) ⟨⟨hb,by decide,by decide⟩,fun x hx=>hR x hx⟩
theorem loopCorner:∀v Q,(LCorner v).wp Q->hloop CCorner anCorner (nthLoop Tryz.f120 0) v Q:=by
 intro v Q h;unfold LCorner at h;split at h;case h_2=>exact h.elim
 rename_i n l i c0 c1 c2 p0 p1 p2 q0 q1 q2;obtain⟨⟨⟨hc,hp,hqq⟩,hn0,hi,hl⟩,hq⟩:=h;refine hloop_rec (σ:=LL×Int) (fun s=>([.ce (.ptr 1000005 0), .ce (.ptr 1000010 0), .ce (.ptr 1000012 0), .ce (I6 n), .ce (.sl false [4,4,4] s.1), .ce (.lit true), .ce (I6 s.2)],[[I6 c0,I6 c1,I6 c2],[I6 p0,I6 p1,I6 p2],[I6 q0,I6 q1,I6 q2]])) (fun s=>(n+1-s.2).toNat) (fun s=>(0<=s.2/\s.2<=n+1/\(s.1.length:Int)=s.2)/\ptsOK 32768 s.1) ?_ (l,i) ⟨hi,hl⟩;rintro⟨l,i⟩⟨hi,hl⟩K hn hx _;dsimp only at hi hl hn⊢;refine byVB (vbCorner n i c0 c1 c2 p0 p1 p2 q0 q1 q2 l K) ⟨fun g=> ?_,fun g=> ?_⟩
 . have g:=odt g;refine cor_step hn0 ⟨hi.1,g⟩ hc.1 hp.1 hqq.1 _ fun x12 b12=>cor_step hn0 ⟨hi.1,g⟩ hc.2.1 hp.2.1 hqq.2.1 _ fun x24 b24=>cor_step hn0 ⟨hi.1,g⟩ hc.2.2 hp.2.2 hqq.2.2 _ fun x36 b36=> ?_;refine⟨⟨show(l.length+1)*24<=140737488355328 by omega,by unfold maxLen;omega⟩,by omega,?_⟩;rintro _ rfl;exact hn (l++[[x12,x24,x36]],i+1) ⟨⟨by dsimp only;omega,by dsimp only;omega,by simp;omega⟩,ptsOK_app hl ⟨b12,b24,b36⟩⟩ (by dsimp only;omega)
 . have g:=odf g;exact hx _ _ (hq l ⟨by omega,hl⟩)
theorem sCorner:Sound Tryz.prog 120 SCorner:=by
 refine sound_of (C:=CCorner) tabCorner Tryz.func120 (by kernel_rfl) (by decide+kernel) (by kernel_rfl) rfl ⟨sReach,sToward,sPieces,sRnd,trivial⟩ (loopsK [nthLoop Tryz.f120 0] [] (by kernel_rfl) (by kernel_rfl) ⟨loopOK_of (an:=anCorner) (S:=LCorner) (by kernel_rfl) loopCorner,trivial⟩ trivial) ?_;intro hA pA R h;unfold SCorner at h;split at h;case h_2=>exfalso;exact h
 rename_i a0 a1 a2 c0 c1 c2 e0 e1 e2 t;obtain⟨⟨⟨ha,hc,he⟩,ht⟩,_,hR⟩:=h;have ex:∃x:Int×Int×Int×Bool,b3 20480 x.1 x.2.1 x.2.2.1:=⟨(0,0,0,false),b3_zero (by decide)⟩;have w2:∀{a b c:Int},b3 20480 a b c->b3 1048576 a b c:=b3_mono (by decide);refine byVC (vcCorner a0 a1 a2 c0 c1 c2 e0 e1 e2 t R) ⟨⟨⟨ha,hc,he⟩,ht⟩,⟨0,by decide,by decide⟩,fun d hd=>⟨fun _=> ?_,fun _=>⟨⟨hc,ha,hd⟩,ex,fun p hp=>⟨⟨hc,he,hd⟩,ex,fun q hqq=>⟨⟨w2 hp,b3_mono (by decide) hc,w2 hqq⟩,⟨2,by decide,by decide⟩,fun n hn=>⟨⟨⟨hc,hp,hqq⟩,hn,⟨by decide,by omega,rfl⟩,ptsOK_nil⟩,fun l hl=>hR l ⟨by omega,hl.2⟩⟩⟩⟩⟩⟩⟩;exact hR [[c0,c1,c2]] ⟨⟨Nat.le_refl 1,show(1:Nat)<=128 by decide⟩,ptsOK_app ptsOK_nil (b3_mono (by decide) hc)⟩
end Go.Proofs.YtoekmphdpepdbaaGreat
namespace U
open Go
def spk(u w r h:Int):Prop:=(-12288<=u/\u<=12288)/\(-12288<=w/\w<=12288)/\(0<=r/\r<=12288)/\(-4096<=h/\h<=4096)
def spks(l:LL):Prop:=∀j,j<l.length->spk (ec l j 0) (ec l j 1) (ec l j 2) (ec l j 3)
end U
namespace Go.Proofs.YtoekmphdpepdbaaGreat
open Go Go.HL U
def SFlat(hA:List HV)(pA:List (List HC)):SR:=match hA,pA with
 |[.ce (.int .i64 r), .ce (.int .i64 s)],[]=> .all (0<=r/\r<=1073741824) Bool (fun _=>True) (fun x=>⟨.ce (.bool x),false,[],[]⟩)
 |_,_=> .fail
noncomputable def CFlat:Ctx:=⟨Tryz.prog,gam [],Tryz.f156.ntmps,[],[]⟩
theorem vcFlat(r s:Int)(Q:Res->Prop):(nfun true CFlat Tryz.f156 (bodyOf Tryz.f156) [.ce (I6 r), .ce (I6 s)] [] Q)=(R6 (8*r)/\∀x1,x1=8*r->R6 (x1*4)/\∀x2,x2=x1*4->R6 (x2-64)/\∀x3,x3=x2-64->Q ⟨.ce (.bool (decide (s<=x3))),false,[],[]⟩):=by kernel_rfl
def SHalf(hA:List HV)(pA:List (List HC)):SR:=match hA,pA with
 |[.ce (.int .i64 a), .ce (.int .i64 b)],[]=> .det ((-1073741824<=a/\a<=1073741824)/\(-1073741824<=b/\b<=1073741824)) ⟨.ce (I6 ((a+b+1)/2)),false,[],[]⟩
 |_,_=> .fail
noncomputable def CHalf:Ctx:=⟨Tryz.prog,gam [],Tryz.f157.ntmps,[],[]⟩
theorem vcHalf(a b:Int)(Q:Res->Prop):(nfun true CHalf Tryz.f157 (bodyOf Tryz.f157) [.ce (I6 a), .ce (I6 b)] [] Q)=(R6 (a+b)/\∀x1,x1=a+b->R6 (x1+1)/\∀x2,x2=x1+1->(0:Int)<=1/\∀x3,x3=x2/2->Q ⟨.ce (I6 x3),false,[],[]⟩):=by kernel_rfl
def SDot(hA:List HV)(pA:List (List HC)):SR:=match hA,pA with
 |[.agg [.int .i64 u, .int .i64 w, .int .i64 r, .int .i64 h], .agg [.int .i64 v, .int .i64 x, .int .i64 s, .int .i64 g]],[]=> .all ((-65536<=u/\u<=65536)/\(-65536<=w/\w<=65536)/\(-65536<=v/\v<=65536)/\(-65536<=x/\x<=65536)) Int (fun y=>y=u*v+w*x/\ -8589934592<=y/\y<=8589934592) (fun y=>⟨.ce (I6 y),false,[],[]⟩)
 |_,_=> .fail
noncomputable def CDot:Ctx:=⟨Tryz.prog,gam [],Tryz.f132.ntmps,[],[]⟩
theorem vcDot(u w r h v x s g:Int)(Q:Res->Prop):(nfun true CDot Tryz.f132 (bodyOf Tryz.f132) [.agg [I6 u,I6 w,I6 r,I6 h], .agg [I6 v,I6 x,I6 s,I6 g]] [] Q)=(R6 (u*v)/\∀x1,x1=u*v->R6 (w*x)/\∀x2,x2=w*x->R6 (x1+x2)/\∀x3,x3=x1+x2->Q ⟨.ce (I6 x3),false,[],[]⟩):=by kernel_rfl
def SCross(hA:List HV)(pA:List (List HC)):SR:=match hA,pA with
 |[.agg [.int .i64 u, .int .i64 w, .int .i64 r, .int .i64 h], .agg [.int .i64 v, .int .i64 x, .int .i64 s, .int .i64 g]],[]=> .all ((-65536<=u/\u<=65536)/\(-65536<=w/\w<=65536)/\(-65536<=v/\v<=65536)/\(-65536<=x/\x<=65536)) Int (fun y=>y=u*x-w*v/\ -8589934592<=y/\y<=8589934592) (fun y=>⟨.ce (I6 y),false,[],[]⟩)
 |_,_=> .fail
noncomputable def CCross:Ctx:=⟨Tryz.prog,gam [],Tryz.f134.ntmps,[],[]⟩
theorem vcCross(u w r h v x s g:Int)(Q:Res->Prop):(nfun true CCross Tryz.f134 (bodyOf Tryz.f134) [.agg [I6 u,I6 w,I6 r,I6 h], .agg [I6 v,I6 x,I6 s,I6 g]] [] Q)=(R6 (u*x)/\∀x1,x1=u*x->R6 (w*v)/\∀x2,x2=w*v->R6 (x1-x2)/\∀x3,x3=x1-x2->Q ⟨.ce (I6 x3),false,[],[]⟩):=by kernel_rfl
def SMiddle(hA:List HV)(pA:List (List HC)):SR:=match hA,pA with
 |[.agg [.int .i64 u, .int .i64 w, .int .i64 r, .int .i64 h], .agg [.int .i64 v, .int .i64 x, .int .i64 s, .int .i64 g], .ce (.int .i64 d), .ce (.bool f)],[]=> .all (spk u w r h/\spk v x s g/\(-1<=d/\d<=1)) (Int×Int×Int×Int×Bool) (fun y=>spk y.1 y.2.1 y.2.2.1 y.2.2.2.1) (fun y=>⟨.tup [.agg [I6 y.1,I6 y.2.1,I6 y.2.2.1,I6 y.2.2.2.1], .ce (.bool y.2.2.2.2)],false,[],[]⟩)
 |_,_=> .fail
def tabMiddle:List (FuncId×HL.Spec):=[(132,SDot),(134,SCross),(157,SHalf),(150,SNear)]
def anMc:LAnn:=⟨[2,4,5,8,9,10,11,35],[4,5,8,9,10,11],[1000004,1000005,1000008],false⟩
def LMc(v:LV):LR:=match v with
 |([.ce (.int .i64 d), .ce (.ptr 1000004 0), .ce (.ptr 1000005 0), .ce (.ptr 1000008 0), .ce (.bool z), .ce (.int .i64 _), .ce (.int .i64 _), .ce (.bool _)],[[.int .i64 u, .int .i64 w, .int .i64 r, .int .i64 h],[.int .i64 v, .int .i64 x, .int .i64 s, .int .i64 g],[.int .i64 z0, .int .i64 z1, .int .i64 z2, .int .i64 z3]])=> .all (spk u w r h/\spk v x s g/\(-1<=d/\d<=1)) (Int×Int) (fun y=>(-24576<=y.1/\y.1<=24576)/\(-24576<=y.2/\y.2<=24576)) (fun _=> .normal) (fun y=>([.ce (.ptr 1000004 0), .ce (.ptr 1000005 0), .ce (.ptr 1000008 0), .ce (.bool z), .ce (I6 y.1), .ce (I6 y.2)],[[I6 u,I6 w,I6 r,I6 h],[I6 v,I6 x,I6 s,I6 g],[I6 z0,I6 z1,I6 z2,I6 z3]]))
 |_=> .fail
def anMe:LAnn:=⟨[4,5,8,9,10,11],[4,5,8,9,10,11,88],[1000004,1000005,1000008],false⟩
def LMe(v:LV):LR:=match v with
 |([.ce (.ptr 1000004 0), .ce (.ptr 1000005 0), .ce (.ptr 1000008 0), .ce (.bool z), .ce (.int .i64 p), .ce (.int .i64 q)],[[.int .i64 u, .int .i64 w, .int .i64 r, .int .i64 h],[.int .i64 v, .int .i64 x, .int .i64 s, .int .i64 g],[.int .i64 z0, .int .i64 z1, .int .i64 z2, .int .i64 z3]])=> .all True Bool (fun b=>b=false->p≠0∨q≠0) (fun _=> .normal) (fun b=>([.ce (.ptr 1000004 0), .ce (.ptr 1000005 0), .ce (.ptr 1000008 0), .ce (.bool z), .ce (I6 p), .ce (I6 q), .ce (.bool b)],[[I6 u,I6 w,I6 r,I6 h],[I6 v,I6 x,I6 s,I6 g],[I6 z0,I6 z1,I6 z2,I6 z3]]))
 |_=> .fail
noncomputable def CMiddle:Ctx:=⟨Tryz.prog,gam tabMiddle,Tryz.f148.ntmps,[(2000006,anMc,LMc),(3000011,anMe,LMe)],[]⟩
theorem vgMc(u w r h v x s g z0 z1 z2 z3 d p q:Int)(z f:Bool)(K:HEx->LV->Prop):(nfragT true CMiddle anMc (nthFrag CMiddle Tryz.f148 0) (([.ce (I6 d), .ce (.ptr 1000004 0), .ce (.ptr 1000005 0), .ce (.ptr 1000008 0), .ce (.bool z), .ce (I6 p), .ce (I6 q), .ce (.bool f)],[[I6 u,I6 w,I6 r,I6 h],[I6 v,I6 x,I6 s,I6 g],[I6 z0,I6 z1,I6 z2,I6 z3]])) K)=(Bb (f) (R6 (0-u)/\∀x1,x1=0-u->R6 (0-w)/\∀x2,x2=0-w->K .normal ([.ce (.ptr 1000004 0), .ce (.ptr 1000005 0), .ce (.ptr 1000008 0), .ce (.bool z), .ce (I6 x1), .ce (I6 x2)],[[I6 u,I6 w,I6 r,I6 h],[I6 v,I6 x,I6 s,I6 g],[I6 z0,I6 z1,I6 z2,I6 z3]])) (((-65536<=u/\u<=65536)/\(-65536<=w/\w<=65536)/\(-65536<=v/\v<=65536)/\ -65536<=x/\x<=65536)/\(∃(x_1:Int),x_1=u*v+w*x/\ -8589934592<=x_1/\x_1<=8589934592)/\∀x_1,x_1=u*v+w*x/\ -8589934592<=x_1/\x_1<=8589934592->Br (x_1>0) (((-65536<=u/\u<=65536)/\(-65536<=w/\w<=65536)/\(-65536<=v/\v<=65536)/\ -65536<=x/\x<=65536)/\(∃(x_2:Int),x_2=u*x-w*v/\ -8589934592<=x_2/\x_2<=8589934592)/\∀x_2,x_2=u*x-w*v/\ -8589934592<=x_2/\x_2<=8589934592->R6 (x_2*d)/\∀x5,x5=x_2*d->Br (x5>0) (R6 (u+v)/\∀x6,x6=u+v->R6 (w+x)/\∀x7,x7=w+x->K .normal ([.ce (.ptr 1000004 0), .ce (.ptr 1000005 0), .ce (.ptr 1000008 0), .ce (.bool z), .ce (I6 x6), .ce (I6 x7)],[[I6 u,I6 w,I6 r,I6 h],[I6 v,I6 x,I6 s,I6 g],[I6 z0,I6 z1,I6 z2,I6 z3]])) (((-65536<=u/\u<=65536)/\(-65536<=w/\w<=65536)/\(-65536<=v/\v<=65536)/\ -65536<=x/\x<=65536)/\(∃(x_3:Int),x_3=u*v+w*x/\ -8589934592<=x_3/\x_3<=8589934592)/\∀x_3,x_3=u*v+w*x/\ -8589934592<=x_3/\x_3<=8589934592->Br (x_3>0) (R6 (u+v)/\∀x9,x9=u+v->R6 (0-x9)/\∀x10,x10=0-x9->R6 (w+x)/\∀x11,x11=w+x->R6 (0-x11)/\∀x12,x12=0-x11->K .normal ([.ce (.ptr 1000004 0), .ce (.ptr 1000005 0), .ce (.ptr 1000008 0), .ce (.bool z), .ce (I6 x10), .ce (I6 x12)],[[I6 u,I6 w,I6 r,I6 h],[I6 v,I6 x,I6 s,I6 g],[I6 z0,I6 z1,I6 z2,I6 z3]])) (R6 (x-w)/\∀x13,x13=x-w->R6 (d*x13)/\∀x14,x14=d*x13->R6 (u-v)/\∀x15,x15=u-v->R6 (d*x15)/\∀x16,x16=d*x15->K .normal ([.ce (.ptr 1000004 0), .ce (.ptr 1000005 0), .ce (.ptr 1000008 0), .ce (.bool z), .ce (I6 x14), .ce (I6 x16)],[[I6 u,I6 w,I6 r,I6 h],[I6 v,I6 x,I6 s,I6 g],[I6 z0,I6 z1,I6 z2,I6 z3]])))) (((-65536<=u/\u<=65536)/\(-65536<=w/\w<=65536)/\(-65536<=v/\v<=65536)/\ -65536<=x/\x<=65536)/\(∃(x_2:Int),x_2=u*v+w*x/\ -8589934592<=x_2/\x_2<=8589934592)/\∀x_2,x_2=u*v+w*x/\ -8589934592<=x_2/\x_2<=8589934592->Br (x_2>0) (R6 (u+v)/\∀x18,x18=u+v->R6 (0-x18)/\∀x19,x19=0-x18->R6 (w+x)/\∀x20,x20=w+x->R6 (0-x20)/\∀x21,x21=0-x20->K .normal ([.ce (.ptr 1000004 0), .ce (.ptr 1000005 0), .ce (.ptr 1000008 0), .ce (.bool z), .ce (I6 x19), .ce (I6 x21)],[[I6 u,I6 w,I6 r,I6 h],[I6 v,I6 x,I6 s,I6 g],[I6 z0,I6 z1,I6 z2,I6 z3]])) (R6 (x-w)/\∀x22,x22=x-w->R6 (d*x22)/\∀x23,x23=d*x22->R6 (u-v)/\∀x24,x24=u-v->R6 (d*x24)/\∀x25,x25=d*x24->K .normal ([.ce (.ptr 1000004 0), .ce (.ptr 1000005 0), .ce (.ptr 1000008 0), .ce (.bool z), .ce (I6 x23), .ce (I6 x25)],[[I6 u,I6 w,I6 r,I6 h],[I6 v,I6 x,I6 s,I6 g],[I6 z0,I6 z1,I6 z2,I6 z3]]))))):=by kernel_rfl
theorem vgMe(u w r h v x s g z0 z1 z2 z3 p q:Int)(z:Bool)(K:HEx->LV->Prop):(nfragT true CMiddle anMe (nthFrag CMiddle Tryz.f148 1) (([.ce (.ptr 1000004 0), .ce (.ptr 1000005 0), .ce (.ptr 1000008 0), .ce (.bool z), .ce (I6 p), .ce (I6 q)],[[I6 u,I6 w,I6 r,I6 h],[I6 v,I6 x,I6 s,I6 g],[I6 z0,I6 z1,I6 z2,I6 z3]])) K)=(Bb (p==0) (K .normal ([.ce (.ptr 1000004 0), .ce (.ptr 1000005 0), .ce (.ptr 1000008 0), .ce (.bool z), .ce (I6 p), .ce (I6 q), .ce (.bool (q==0))],[[I6 u,I6 w,I6 r,I6 h],[I6 v,I6 x,I6 s,I6 g],[I6 z0,I6 z1,I6 z2,I6 z3]])) (K .normal ([.ce (.ptr 1000004 0), .ce (.ptr 1000005 0), .ce (.ptr 1000008 0), .ce (.bool z), .ce (I6 p), .ce (I6 q), .ce (.bool false)],[[I6 u,I6 w,I6 r,I6 h],[I6 v,I6 x,I6 s,I6 g],[I6 z0,I6 z1,I6 z2,I6 z3]]))):=by kernel_rfl
theorem vcMiddle(u w r h v x s g d:Int)(f:Bool)(Q:Res->Prop):(nfun true CMiddle Tryz.f148 (bodyOf Tryz.f148) [.agg [I6 u,I6 w,I6 r,I6 h], .agg [I6 v,I6 x,I6 s,I6 g], .ce (I6 d), .ce (.bool f)] [] Q)=(Bb (d !=1) (Bb (d !=(-1:Int)) (Q ⟨.tup [.agg [I6 0,I6 0,I6 0,I6 0], .ce (.bool false)],false,[],[]⟩) ((spk u w r h/\spk v x s g/\ -1<=d/\d<=1)/\∀(x:Int×Int),((-24576:Int)<=x.1/\x.1<=24576)/\(-24576:Int)<=x.2/\x.2<=24576->True/\∀(x_1:Bool),(x_1=false->x.1≠0∨x.2≠0)->Bb (x_1) (Q ⟨.tup [.agg [I6 0,I6 0,I6 0,I6 0], .ce (.bool false)],false,[],[]⟩) (((-1073741824<=r/\r<=1073741824)/\ -1073741824<=s/\s<=1073741824)/\∀x3,x3=(r+s+1)/2->R6 (x.1*x.1)/\∀x4,x4=x.1*x.1->R6 (x.2*x.2)/\∀x5,x5=x.2*x.2->R6 (x4+x5)/\∀x6,x6=x4+x5->(((-65536:Int)<=x.1/\x.1<=65536)/\(0<=x3/\x3<=65536)/\x.1*x.1<=x6/\1<=x6/\x6<=1099511627776)/\(∃(x:Int),-x3<=x/\x<=x3)/\∀(x_2:Int),-x3<=x_2/\x_2<=x3->(((-65536:Int)<=x.2/\x.2<=65536)/\(0<=x3/\x3<=65536)/\x.2*x.2<=x6/\1<=x6/\x6<=1099511627776)/\(∃(x:Int),-x3<=x/\x<=x3)/\∀(x:Int),-x3<=x/\x<=x3->((-1073741824<=h/\h<=1073741824)/\ -1073741824<=g/\g<=1073741824)/\∀x9,x9=(h+g+1)/2->Q ⟨.tup [.agg [I6 x_2,I6 x,I6 x3,I6 x9], .ce (.bool true)],false,[],[]⟩))) ((spk u w r h/\spk v x s g/\ -1<=d/\d<=1)/\∀(x:Int×Int),((-24576:Int)<=x.1/\x.1<=24576)/\(-24576:Int)<=x.2/\x.2<=24576->True/\∀(x_1:Bool),(x_1=false->x.1≠0∨x.2≠0)->Bb (x_1) (Q ⟨.tup [.agg [I6 0,I6 0,I6 0,I6 0], .ce (.bool false)],false,[],[]⟩) (((-1073741824<=r/\r<=1073741824)/\ -1073741824<=s/\s<=1073741824)/\∀x12,x12=(r+s+1)/2->R6 (x.1*x.1)/\∀x13,x13=x.1*x.1->R6 (x.2*x.2)/\∀x14,x14=x.2*x.2->R6 (x13+x14)/\∀x15,x15=x13+x14->(((-65536:Int)<=x.1/\x.1<=65536)/\(0<=x12/\x12<=65536)/\x.1*x.1<=x15/\1<=x15/\x15<=1099511627776)/\(∃(x:Int),-x12<=x/\x<=x12)/\∀(x_2:Int),-x12<=x_2/\x_2<=x12->(((-65536:Int)<=x.2/\x.2<=65536)/\(0<=x12/\x12<=65536)/\x.2*x.2<=x15/\1<=x15/\x15<=1099511627776)/\(∃(x:Int),-x12<=x/\x<=x12)/\∀(x:Int),-x12<=x/\x<=x12->((-1073741824<=h/\h<=1073741824)/\ -1073741824<=g/\g<=1073741824)/\∀x18,x18=(h+g+1)/2->Q ⟨.tup [.agg [I6 x_2,I6 x,I6 x12,I6 x18], .ce (.bool true)],false,[],[]⟩))):=by kernel_rfl
def SSettled(hA:List HV)(pA:List (List HC)):SR:=match hA,pA with
 |[.agg [.int .i64 u, .int .i64 w, .int .i64 r, .int .i64 h], .agg [.int .i64 v, .int .i64 x, .int .i64 s, .int .i64 g], .ce (.int .i64 d), .ce (.bool f)],[]=> .all (spk u w r h/\spk v x s g/\(-1<=d/\d<=1)) Bool (fun _=>True) (fun y=>⟨.ce (.bool y),false,[],[]⟩)
 |_,_=> .fail
def tabSettled:List (FuncId×HL.Spec):=[(134,SCross),(156,SFlat)]
noncomputable def CSettled:Ctx:=⟨Tryz.prog,gam tabSettled,Tryz.f147.ntmps,[],[]⟩
theorem vcSettled(u w r h v x s g d:Int)(f:Bool)(Q:Res->Prop):(nfun true CSettled Tryz.f147 (bodyOf Tryz.f147) [.agg [I6 u,I6 w,I6 r,I6 h], .agg [I6 v,I6 x,I6 s,I6 g], .ce (I6 d), .ce (.bool f)] [] Q)=(Bb (!f) (((-65536<=u/\u<=65536)/\(-65536<=w/\w<=65536)/\(-65536<=v/\v<=65536)/\ -65536<=x/\x<=65536)/\(∃(x_1:Int),x_1=u*x-w*v/\ -8589934592<=x_1/\x_1<=8589934592)/\∀x_1,x_1=u*x-w*v/\ -8589934592<=x_1/\x_1<=8589934592->R6 (x_1*d)/\∀x2,x2=x_1*d->Br (x2>0) (∀x3,x3=min r s->R6 (u-v)/\∀x4,x4=u-v->R6 (u-v)/\∀x5,x5=u-v->R6 (x4*x5)/\∀x6,x6=x4*x5->R6 (w-x)/\∀x7,x7=w-x->R6 (w-x)/\∀x8,x8=w-x->R6 (x7*x8)/\∀x9,x9=x7*x8->R6 (x6+x9)/\∀x10,x10=x6+x9->(0<=x3/\x3<=1073741824)/\(∃(x:Bool),True)/\∀(x:Bool),True->Q ⟨.ce (.bool x),false,[],[]⟩) (Q ⟨.ce (.bool false),false,[],[]⟩)) (Q ⟨.ce (.bool false),false,[],[]⟩)):=by kernel_rfl
def SPcs(n:Int)(hA:List HV)(pA:List (List HC)):SR:=match hA,pA with
 |[.agg [.int .i64 u, .int .i64 w, .int .i64 r, .int .i64 h], .agg [.int .i64 v, .int .i64 x, .int .i64 s, .int .i64 g], .ce (.int .i64 d), .ce (.bool f), .ce (.int .i64 k)],[]=> .all ((0<=n/\n<=16)/\(0<=k/\k<=16/\16<=k+n)/\spk u w r h/\spk v x s g/\(-1<=d/\d<=1)) (LL) (fun y=>(1<=y.length/\y.length<=2^n.toNat)/\spks y) (fun y=>⟨.ce (.sl false [4,4,4,4] y),true,[],[]⟩)
 |_,_=> .fail
def tabPcs(n:Int):List (FuncId×HL.Spec):=[(147,SSettled),(148,SMiddle),(136,SPcs (n-1))]
noncomputable def CPcs(n:Int):Ctx:=⟨Tryz.prog,gam (tabPcs n),Tryz.f136.ntmps,[],[]⟩
theorem vcPcs(n u w r h v x s g d k:Int)(f:Bool)(Q:Res->Prop):(nfun true (CPcs n) Tryz.f136 (bodyOf Tryz.f136) [.agg [I6 u,I6 w,I6 r,I6 h], .agg [I6 v,I6 x,I6 s,I6 g], .ce (I6 d), .ce (.bool f), .ce (I6 k)] [] Q)=(Br (k>=16) (Q ⟨.ce (.sl false [4,4,4,4] [[v,x,s,g]]),true,[],[]⟩) ((spk u w r h/\spk v x s g/\ -1<=d/\d<=1)/\(∃(x:Bool),True)/\∀(x_1:Bool),True->Bb (x_1) (Q ⟨.ce (.sl false [4,4,4,4] [[v,x,s,g]]),true,[],[]⟩) ((spk u w r h/\spk v x s g/\ -1<=d/\d<=1)/\(∃(x:Int×Int×Int×Int×Bool),spk x.1 x.snd.1 x.snd.snd.1 x.snd.snd.snd.1)/\∀(x_2:Int×Int×Int×Int×Bool),spk x_2.1 x_2.snd.1 x_2.snd.snd.1 x_2.snd.snd.snd.1->R6 (k+1)/\∀x3,x3=k+1->((0<=n-1/\n-1<=16)/\(0<=x3/\x3<=16/\16<=x3+(n-1))/\spk u w r h/\spk x_2.1 x_2.snd.1 x_2.snd.snd.1 x_2.snd.snd.snd.1/\ -1<=d/\d<=1)/\(∃(x:LL),((1:Nat)<=x.length/\x.length<=2^Int.toNat (n-1))/\spks x)/\∀(x_3:LL),((1:Nat)<=x_3.length/\x_3.length<=2^Int.toNat (n-1))/\spks x_3->R6 (k+1)/\∀x5,x5=k+1->((0<=n-1/\n-1<=16)/\(0<=x5/\x5<=16/\16<=x5+(n-1))/\spk x_2.1 x_2.snd.1 x_2.snd.snd.1 x_2.snd.snd.snd.1/\spk v x s g/\ -1<=d/\d<=1)/\(∃(x:LL),((1:Nat)<=x.length/\x.length<=2^Int.toNat (n-1))/\spks x)/\∀(x:LL),((1:Nat)<=x.length/\x.length<=2^Int.toNat (n-1))/\spks x->((x_3.length+x.length)*32<=140737488355328/\x_3.length+x.length<=maxLen)/\Q ⟨.ce (.sl false [4,4,4,4] (x_3++x)),true,[],[]⟩))):=by kernel_rfl
def SSpoke(hA:List HV)(pA:List (List HC)):SR:=match hA,pA with
 |[.agg [.int .i64 u, .int .i64 w, .int .i64 r, .int .i64 h]],[]=> .all ((-512<=u/\u<=512)/\(-512<=w/\w<=512)/\(-256<=h/\h<=256)) (Int×Int×Int×Int) (fun y=>spk y.1 y.2.1 y.2.2.1 y.2.2.2) (fun y=>⟨.agg [I6 y.1,I6 y.2.1,I6 y.2.2.1,I6 y.2.2.2],false,[],[]⟩)
 |_,_=> .fail
def tabSpoke:List (FuncId×HL.Spec):=[(132,SDot),(106,SRoot)]
noncomputable def CSpoke:Ctx:=⟨Tryz.prog,gam tabSpoke,Tryz.f146.ntmps,[],[]⟩
theorem vcSpoke(u w r h:Int)(Q:Res->Prop):(nfun true CSpoke Tryz.f146 (bodyOf Tryz.f146) [.agg [I6 u,I6 w,I6 r,I6 h]] [] Q)=(R6 (u*16)/\∀x1,x1=u*16->R6 (w*16)/\∀x2,x2=w*16->R6 (h*16)/\∀x3,x3=h*16->((-65536<=x1/\x1<=65536)/\(-65536<=x2/\x2<=65536)/\(-65536<=x1/\x1<=65536)/\ -65536<=x2/\x2<=65536)/\(∃(x:Int),x=x1*x1+x2*x2/\ -8589934592<=x/\x<=8589934592)/\∀x,x=x1*x1+x2*x2/\ -8589934592<=x/\x<=8589934592->(0<=x/\x<=1152921504606846976)/\(∃(x_1:Int),0<=x_1/\x_1*x_1<=x/\x<(x_1+1)*(x_1+1))/\∀(x_1:Int),0<=x_1/\x_1*x_1<=x/\x<(x_1+1)*(x_1+1)->R6 (x_1+1)/\∀x6,x6=x_1+1->R6 (x_1*x6)/\∀x7,x7=x_1*x6->Br (x7<x) (R6 (x_1+1)/\∀x8,x8=x_1+1->Q ⟨.agg [I6 x1,I6 x2,I6 x8,I6 x3],false,[],[]⟩) (Q ⟨.agg [I6 x1,I6 x2,I6 x_1,I6 x3],false,[],[]⟩)):=by kernel_rfl
def SEnd1(hA:List HV)(pA:List (List HC)):SR:=match hA,pA with
 |[.agg [.int .i64 k0, .int .i64 bk, .int .i64 f0, .int .i64 f1, .int .i64 f2, .int .i64 t0, .int .i64 t1, .int .i64 t2, .int .i64 pl, .int .i64 c0, .int .i64 c1, .int .i64 c2, .int .i64 dr, .bool fu, .int .i64 fd, .bool pr, .int .i64 sd, .int .i64 ra, .int .i64 bl, .int .i64 nn, .int .i64 sp, .bool on]],[]=> .all (b3 256 f0 f1 f2/\b3 256 t0 t1 t2/\b3 256 c0 c1 c2) (Int×Int×Int×Int×Int×Int) (fun y=>b3 512 y.1 y.2.1 y.2.2.2.1/\b3 512 y.2.2.2.2.1 y.2.2.2.2.1 y.2.2.2.2.1/\b3 256 y.2.2.1 y.2.2.2.2.2 0) (fun y=>⟨.tup [.agg [I6 y.1,I6 y.2.1,I6 0,I6 y.2.2.1], .agg [I6 y.2.2.2.1,I6 y.2.2.2.2.1,I6 0,I6 y.2.2.2.2.2]],false,[],[]⟩)
 |_,_=> .fail
def tabEnd1:List (FuncId×HL.Spec):=[(115,SPlane)]
noncomputable def CEnd1:Ctx:=⟨Tryz.prog,gam tabEnd1,Tryz.f131.ntmps,[],[]⟩
theorem vcEnd1(k0 bk f0 f1 f2 t0 t1 t2 pl c0 c1 c2 dr fd sd ra bl nn sp:Int)(fu pr on:Bool)(Q:Res->Prop):(nfun true CEnd1 Tryz.f131 (bodyOf Tryz.f131) [.agg [I6 k0,I6 bk,I6 f0,I6 f1,I6 f2,I6 t0,I6 t1,I6 t2,I6 pl,I6 c0,I6 c1,I6 c2,I6 dr, .bool fu,I6 fd, .bool pr,I6 sd,I6 ra,I6 bl,I6 nn,I6 sp, .bool on]] [] Q)=(True/\(∃(x:Int×Int×Int),∀(B:Int),0<=B->b3 B c0 c1 c2->b3 B x.1 x.snd.1 x.snd.2)/\∀(x:Int×Int×Int),(∀(B:Int),0<=B->b3 B c0 c1 c2->b3 B x.1 x.snd.1 x.snd.2)->True/\(∃(x:Int×Int×Int),∀(B:Int),0<=B->b3 B f0 f1 f2->b3 B x.1 x.snd.1 x.snd.2)/\∀(x_1:Int×Int×Int),(∀(B:Int),0<=B->b3 B f0 f1 f2->b3 B x_1.1 x_1.snd.1 x_1.snd.2)->True/\(∃(x:Int×Int×Int),∀(B:Int),0<=B->b3 B t0 t1 t2->b3 B x.1 x.snd.1 x.snd.2)/\∀(x_2:Int×Int×Int),(∀(B:Int),0<=B->b3 B t0 t1 t2->b3 B x_2.1 x_2.snd.1 x_2.snd.2)->R6 (x_1.1-x.1)/\∀x10,x10=x_1.1-x.1->R6 (x_1.snd.1-x.snd.1)/\∀x11,x11=x_1.snd.1-x.snd.1->R6 (x_2.1-x.1)/\∀x12,x12=x_2.1-x.1->R6 (x_2.snd.1-x.snd.1)/\∀x13,x13=x_2.snd.1-x.snd.1->Q ⟨.tup [.agg [I6 x10,I6 x11,I6 0,I6 x_1.snd.2], .agg [I6 x12,I6 x13,I6 0,I6 x_2.snd.2]],false,[],[]⟩):=by kernel_rfl
def SEnds(hA:List HV)(pA:List (List HC)):SR:=match hA,pA with
 |[.agg [.int .i64 k0, .int .i64 bk, .int .i64 f0, .int .i64 f1, .int .i64 f2, .int .i64 t0, .int .i64 t1, .int .i64 t2, .int .i64 pl, .int .i64 c0, .int .i64 c1, .int .i64 c2, .int .i64 dr, .bool fu, .int .i64 fd, .bool pr, .int .i64 sd, .int .i64 ra, .int .i64 bl, .int .i64 nn, .int .i64 sp, .bool on]],[]=> .all (b3 256 f0 f1 f2/\b3 256 t0 t1 t2/\b3 256 c0 c1 c2) ((Int×Int×Int×Int)×Int×Int×Int×Int) (fun y=>spk y.1.1 y.1.2.1 y.1.2.2.1 y.1.2.2.2/\spk y.2.1 y.2.2.1 y.2.2.2.1 y.2.2.2.2) (fun y=>⟨.tup [.agg [I6 y.1.1,I6 y.1.2.1,I6 y.1.2.2.1,I6 y.1.2.2.2], .agg [I6 y.2.1,I6 y.2.2.1,I6 y.2.2.2.1,I6 y.2.2.2.2]],false,[],[]⟩)
 |_,_=> .fail
def tabEnds:List (FuncId×HL.Spec):=[(131,SEnd1),(146,SSpoke)]
noncomputable def CEnds:Ctx:=⟨Tryz.prog,gam tabEnds,Tryz.f135.ntmps,[],[]⟩
theorem vcEnds(k0 bk f0 f1 f2 t0 t1 t2 pl c0 c1 c2 dr fd sd ra bl nn sp:Int)(fu pr on:Bool)(Q:Res->Prop):(nfun true CEnds Tryz.f135 (bodyOf Tryz.f135) [.agg [I6 k0,I6 bk,I6 f0,I6 f1,I6 f2,I6 t0,I6 t1,I6 t2,I6 pl,I6 c0,I6 c1,I6 c2,I6 dr, .bool fu,I6 fd, .bool pr,I6 sd,I6 ra,I6 bl,I6 nn,I6 sp, .bool on]] [] Q)=((b3 256 f0 f1 f2/\b3 256 t0 t1 t2/\b3 256 c0 c1 c2)/\(∃(x:Int×Int×Int×Int×Int×Int),b3 512 x.1 x.snd.1 x.snd.snd.snd.1/\b3 512 x.snd.snd.snd.snd.1 x.snd.snd.snd.snd.1 x.snd.snd.snd.snd.1/\b3 256 x.snd.snd.1 x.snd.snd.snd.snd.2 (0:Int))/\∀(x:Int×Int×Int×Int×Int×Int),b3 512 x.1 x.snd.1 x.snd.snd.snd.1/\b3 512 x.snd.snd.snd.snd.1 x.snd.snd.snd.snd.1 x.snd.snd.snd.snd.1/\b3 256 x.snd.snd.1 x.snd.snd.snd.snd.2 (0:Int)->(((-512:Int)<=x.1/\x.1<=512)/\((-512:Int)<=x.snd.1/\x.snd.1<=512)/\(-256:Int)<=x.snd.snd.1/\x.snd.snd.1<=256)/\(∃(x:Int×Int×Int×Int),spk x.1 x.snd.1 x.snd.snd.1 x.snd.snd.2)/\∀(x_1:Int×Int×Int×Int),spk x_1.1 x_1.snd.1 x_1.snd.snd.1 x_1.snd.snd.2->(((-512:Int)<=x.snd.snd.snd.1/\x.snd.snd.snd.1<=512)/\((-512:Int)<=x.snd.snd.snd.snd.1/\x.snd.snd.snd.snd.1<=512)/\(-256:Int)<=x.snd.snd.snd.snd.2/\x.snd.snd.snd.snd.2<=256)/\(∃(x:Int×Int×Int×Int),spk x.1 x.snd.1 x.snd.snd.1 x.snd.snd.2)/\∀(x:Int×Int×Int×Int),spk x.1 x.snd.1 x.snd.snd.1 x.snd.snd.2->Q ⟨.tup [.agg [I6 x_1.1,I6 x_1.snd.1,I6 x_1.snd.snd.1,I6 x_1.snd.snd.2], .agg [I6 x.1,I6 x.snd.1,I6 x.snd.snd.1,I6 x.snd.snd.2]],false,[],[]⟩):=by kernel_rfl
end Go.Proofs.YtoekmphdpepdbaaGreat
namespace U
theorem midT{p q r s h g:Int}(hp: -24576<=p/\p<=24576)(hq: -24576<=q/\q<=24576)(hr:0<=r/\r<=12288)(hs:0<=s/\s<=12288)(hh: -4096<=h/\h<=4096)(hg: -4096<=g/\g<=4096)(nz:p≠0∨q≠0)(G:Int->Int->Int->Int->Prop)(fin:∀a b c e,spk a b c e->G a b c e):(((-1073741824:Int)<=r/\r<=(1073741824:Int))/\(-1073741824:Int)<=s/\s<=(1073741824:Int))/\∀(x3:Int),x3=(r+s+(1:Int))/(2:Int)->((-9223372036854775808:Int)<=p*p/\p*p<=(9223372036854775807:Int))/\∀(x4:Int),x4=p*p->((-9223372036854775808:Int)<=q*q/\q*q<=(9223372036854775807:Int))/\∀(x5:Int),x5=q*q->((-9223372036854775808:Int)<=x4+x5/\x4+x5<=(9223372036854775807:Int))/\∀(x6:Int),x6=x4+x5->(((-65536:Int)<=p/\p<=(65536:Int))/\((0:Int)<=x3/\x3<=(65536:Int))/\p*p<=x6/\(1:Int)<=x6/\x6<=(1099511627776:Int))/\(∃(x:Int),-x3<=x/\x<=x3)/\∀(x:Int),-x3<=x/\x<=x3->(((-65536:Int)<=q/\q<=(65536:Int))/\((0:Int)<=x3/\x3<=(65536:Int))/\q*q<=x6/\(1:Int)<=x6/\x6<=(1099511627776:Int))/\(∃(x:Int),-x3<=x/\x<=x3)/\∀(x_1:Int),-x3<=x_1/\x_1<=x3->(((-1073741824:Int)<=h/\h<=(1073741824:Int))/\(-1073741824:Int)<=g/\g<=(1073741824:Int))/\∀(x9:Int),x9=(h+g+(1:Int))/(2:Int)->G x x_1 x3 x9:=by
 have np:=sq_nonneg p;have nq:=sq_nonneg q;have mp:=sq_bd hp.1 hp.2;have mq:=sq_bd hq.1 hq.2;have pos:1<=p*p+q*q:=by
  rcases nz with h0|h0
  . have:p*p≠0:=fun e=>by rcases Int.mul_eq_zero.mp e with e|e<;>exact h0 e
    omega
  . have:q*q≠0:=fun e=>by rcases Int.mul_eq_zero.mp e with e|e<;>exact h0 e
    omega
 refine⟨by omega,fun x3 e3=>⟨by omega,?_⟩⟩;rintro _ rfl;refine⟨by omega,?_⟩;rintro _ rfl;refine⟨by omega,?_⟩;rintro _ rfl;have ex:∃x:Int,-x3<=x/\x<=x3:=⟨0,by omega⟩;exact⟨⟨by omega,by omega,by omega,by omega,by omega⟩,ex,fun x hx=>⟨⟨by omega,by omega,by omega,by omega,by omega⟩,ex,fun y hy=>⟨by omega,fun x9 e9=>fin _ _ _ _ (by unfold spk;omega)⟩⟩⟩
theorem spk_ex:∃y:Int×Int×Int×Int×Bool,spk y.1 y.2.1 y.2.2.1 y.2.2.2.1:=⟨(0,0,0,0,false),by unfold spk;decide⟩
theorem spk_ex4:∃y:Int×Int×Int×Int,spk y.1 y.2.1 y.2.2.1 y.2.2.2:=⟨(0,0,0,0),by unfold spk;decide⟩
theorem prod_bd{a b:Int}(ha: -65536<=a/\a<=65536)(hb: -65536<=b/\b<=65536): -4294967296<=a*b/\a*b<=4294967296:=by
 rcases Int.lt_or_le a 0 with h|h
 . have:=mul_abs (a:= -a) (u:=b) (M:=65536) (by omega) (by omega) (by omega);rw[Int.neg_mul]at this;omega
 . have:=mul_abs (a:=a) (u:=b) (M:=65536) h (by omega) (by omega);omega
theorem spks_app{a b:LL}(ha:spks a)(hb:spks b):spks (a++b):=by
 intro j hj;unfold ec;by_cases h:j<a.length
 . have e:(a++b).getD j []=a.getD j []:=by rw[List.getD_eq_getElem?_getD,List.getElem?_append_left h,<-List.getD_eq_getElem?_getD]
   rw[e];exact ha j h
 . have e:(a++b).getD j []=b.getD (j-a.length) []:=by rw[List.getD_eq_getElem?_getD,List.getElem?_append_right (by omega),<-List.getD_eq_getElem?_getD]
   rw[e];exact hb _ (by rw[List.length_append]at hj;omega)
theorem spks_one{u w r h:Int}(hs:spk u w r h):spks [[u,w,r,h]]:=by
 intro j hj;have:j=0:=by simpa using hj
 subst this;exact hs
end U
namespace Go.Proofs.YtoekmphdpepdbaaGreat
open Go Go.HL U
attribute [local irreducible] hfun bodyT fragT
theorem sFlat:Sound Tryz.prog 156 SFlat:=by
 refine sound_of (C:=CFlat) [] Tryz.func156 (by kernel_rfl) (by decide+kernel) (by kernel_rfl) rfl trivial (loops0 (by kernel_rfl)) ?_;intro hA pA R h;unfold SFlat at h;split at h;case h_2=>exfalso;exact h
 rename_i r s;obtain⟨hr,_,hR⟩:=h;refine byVC (vcFlat r s R) ?_;repeat' first|apply And.intro|(intro x)|omega|exact hR _ trivial
theorem sHalf:Sound Tryz.prog 157 SHalf:=by
 refine sound_of (C:=CHalf) [] Tryz.func157 (by kernel_rfl) (by decide+kernel) (by kernel_rfl) rfl trivial (loops0 (by kernel_rfl)) ?_;intro hA pA R h;unfold SHalf at h;split at h;case h_2=>exfalso;exact h
 rename_i a b;obtain⟨hb,hq⟩:=h;refine byVC (vcHalf a b R) ⟨by omega,?_⟩;rintro _ rfl;refine⟨by omega,?_⟩;rintro _ rfl;refine⟨by decide,?_⟩;rintro _ rfl;exact hq
theorem sDot:Sound Tryz.prog 132 SDot:=by
 refine sound_of (C:=CDot) [] Tryz.func132 (by kernel_rfl) (by decide+kernel) (by kernel_rfl) rfl trivial (loops0 (by kernel_rfl)) ?_;intro hA pA R h;unfold SDot at h;split at h;case h_2=>exfalso;exact h
 rename_i u w r h v x s g;obtain⟨⟨h1,h2,h3,h4⟩,_,hR⟩:=h;have p1:=prod_bd h1 h3;have p2:=prod_bd h2 h4;refine byVC (vcDot u w r h v x s g R) ⟨by omega,?_⟩;rintro _ rfl;refine⟨by omega,?_⟩;rintro _ rfl;refine⟨by omega,?_⟩;rintro _ rfl;exact hR _ ⟨rfl,by omega,by omega⟩
theorem sCross:Sound Tryz.prog 134 SCross:=by
 refine sound_of (C:=CCross) [] Tryz.func134 (by kernel_rfl) (by decide+kernel) (by kernel_rfl) rfl trivial (loops0 (by kernel_rfl)) ?_;intro hA pA R h;unfold SCross at h;split at h;case h_2=>exfalso;exact h
 rename_i u w r h v x s g;obtain⟨⟨h1,h2,h3,h4⟩,_,hR⟩:=h;have p1:=prod_bd h1 h4;have p2:=prod_bd h2 h3;refine byVC (vcCross u w r h v x s g R) ⟨by omega,?_⟩;rintro _ rfl;refine⟨by omega,?_⟩;rintro _ rfl;refine⟨by omega,?_⟩;rintro _ rfl;exact hR _ ⟨rfl,by omega,by omega⟩
set_option maxHeartbeats 1000000 in theorem fragMc:∀v Q,(LMc v).wp Q->fragT CMiddle anMc (nthFrag CMiddle Tryz.f148 0) v Q:=by
 intro v Q hh;unfold LMc at hh;split at hh;case h_2=>exact hh.elim
 rename_i d z p q f u w r h v x s g z0 z1 z2 z3;obtain⟨⟨ha,hb,hd⟩,hq⟩:=hh;obtain⟨a1,a2,a3,a4⟩:=ha;obtain⟨b1,b2,b3,b4⟩:=hb;have p1:=prod_bd (a:=u) (b:=v) (by omega) (by omega);have p2:=prod_bd (a:=w) (b:=x) (by omega) (by omega);have p3:=prod_bd (a:=u) (b:=x) (by omega) (by omega);have p4:=prod_bd (a:=w) (b:=v) (by omega) (by omega);have b4':(-65536<=u/\u<=65536)/\(-65536<=w/\w<=65536)/\(-65536<=v/\v<=65536)/\(-65536<=x/\x<=65536):=by omega
 have d3:d= -1∨d=0∨d=1:=by omega
 have dm:∀e:Int,(-8589934592<=e/\e<=8589934592)-> -8589934592<=e*d/\e*d<=8589934592:=fun e he=>by rcases d3 with rfl|rfl|rfl<;>omega
 have dm2:∀e:Int,(-24576<=e/\e<=24576)-> -24576<=d*e/\d*e<=24576:=fun e he=>by rcases d3 with rfl|rfl|rfl<;>omega
 have dotE:∃y:Int,y=u*v+w*x/\ -8589934592<=y/\y<=8589934592:=⟨_,rfl,by omega,by omega⟩;have crE:∃y:Int,y=u*x-w*v/\ -8589934592<=y/\y<=8589934592:=⟨_,rfl,by omega,by omega⟩;have tail:∀p q:Int,(-24576<=p/\p<=24576)->(-24576<=q/\q<=24576)->_:=fun p q hp hq'=>hq (p,q) ⟨hp,hq'⟩;refine byVG (vgMc u w r h v x s g z0 z1 z2 z3 d p q z f Q) ?_;refine⟨fun _=>⟨by omega,fun x1 e1=>⟨by omega,fun x2 e2=>tail x1 x2 (by omega) (by omega)⟩⟩,fun _=>⟨b4',dotE,fun y hy=>⟨fun _=>⟨b4',crE,fun c hc=>⟨by have:=dm c hc.2;omega,fun x19 e19=>⟨fun _=>⟨by omega,fun x20 e20=>⟨by omega,fun x21 e21=>tail x20 x21 (by omega) (by omega)⟩⟩,fun _=> ?_⟩⟩⟩,fun _=> ?_⟩⟩⟩;all_goals
  refine⟨b4',dotE,fun y2 hy2=>⟨fun _=>⟨by omega,fun x37 e37=>⟨by omega,fun x38 e38=>⟨by omega,fun x39 e39=>⟨by omega,fun x40 e40=>tail x38 x40 (by omega) (by omega)⟩⟩⟩⟩,fun _=>⟨by omega,fun y3 e3=> ?_⟩⟩⟩;have m3:=dm2 y3 (by omega);refine⟨by omega,fun y4 e4=>⟨by omega,fun y5 e5=> ?_⟩⟩;have m5:=dm2 y5 (by omega);exact⟨by omega,fun y6 e6=>tail y4 y6 (by omega) (by omega)⟩
theorem fragMe:∀v Q,(LMe v).wp Q->fragT CMiddle anMe (nthFrag CMiddle Tryz.f148 1) v Q:=by
 intro v Q hh;unfold LMe at hh;split at hh;case h_2=>exact hh.elim
 rename_i z p q u w r h v x s g z0 z1 z2 z3;obtain⟨_,hq⟩:=hh;refine byVG (vgMe u w r h v x s g z0 z1 z2 z3 p q z Q) ⟨fun _=>hq _ fun e=> .inr (by simpa using e),fun e=>hq false fun _=> .inl (by simpa using e)⟩
theorem sMiddle:Sound Tryz.prog 148 SMiddle:=by
 refine sound_of (C:=CMiddle) tabMiddle Tryz.func148 (by kernel_rfl) (by decide+kernel) (by kernel_rfl) rfl ⟨sDot,sCross,sHalf,sNear,trivial⟩ (loopsG [] [nthFrag CMiddle Tryz.f148 0,nthFrag CMiddle Tryz.f148 1] (by kernel_rfl) (by kernel_rfl) trivial ⟨fragOK_of (an:=anMc) (S:=LMc) (by kernel_rfl) fragMc,fragOK_of (an:=anMe) (S:=LMe) (by kernel_rfl) fragMe,trivial⟩) ?_;intro hA pA R h;unfold SMiddle at h;split at h;case h_2=>exfalso;exact h
 rename_i u w r h v x s g d f;obtain⟨⟨ha,hb,hd⟩,_,hR⟩:=h;have z:R ⟨.tup [.agg [I6 0,I6 0,I6 0,I6 0], .ce (.bool false)],false,[],[]⟩:=hR (0,0,0,0,false) (by show spk 0 0 0 0;unfold spk;decide);have fin:∀a b c e,spk a b c e->R ⟨.tup [.agg [I6 a,I6 b,I6 c,I6 e], .ce (.bool true)],false,[],[]⟩:=fun a b c e hs=>hR (a,b,c,e,true) hs;refine byVC (vcMiddle u w r h v x s g d f R) ⟨fun _=>⟨fun _=>z,fun _=> ?_⟩,fun _=> ?_⟩;all_goals
  refine⟨⟨ha,hb,hd⟩,fun y hy=>⟨trivial,fun b hbb=>⟨fun _=>z,fun e=> ?_⟩⟩⟩;exact midT hy.1 hy.2 ha.2.2.1 hb.2.2.1 ha.2.2.2 hb.2.2.2 (hbb e) _ fin
theorem sSettled:Sound Tryz.prog 147 SSettled:=by
 refine sound_of (C:=CSettled) tabSettled Tryz.func147 (by kernel_rfl) (by decide+kernel) (by kernel_rfl) rfl ⟨sCross,sFlat,trivial⟩ (loops0 (by kernel_rfl)) ?_;intro hA pA R h;unfold SSettled at h;split at h;case h_2=>exfalso;exact h
 rename_i u w r h v x s g d f;obtain⟨⟨ha,hb,hd⟩,_,hR⟩:=h;obtain⟨a1,a2,a3,a4⟩:=ha;obtain⟨b1,b2,b3,b4⟩:=hb;have p3:=prod_bd (a:=u) (b:=x) (by omega) (by omega);have p4:=prod_bd (a:=w) (b:=v) (by omega) (by omega);have d3:d= -1∨d=0∨d=1:=by omega
 have dm:∀e:Int,(-8589934592<=e/\e<=8589934592)-> -8589934592<=e*d/\e*d<=8589934592:=fun e he=>by rcases d3 with rfl|rfl|rfl<;>omega
 have q1:=prod_bd (a:=u-v) (b:=u-v) (by omega) (by omega);have q2:=prod_bd (a:=w-x) (b:=w-x) (by omega) (by omega);refine byVC (vcSettled u w r h v x s g d f R) ⟨fun _=>⟨by omega,⟨_,rfl,by omega,by omega⟩,fun c hc=>⟨by have:=dm c hc.2;omega,fun x2 e2=>⟨fun _=> ?_,fun _=>hR _ trivial⟩⟩⟩,fun _=>hR _ trivial⟩;intro x3 e3;refine⟨by omega,?_⟩;rintro _ rfl;refine⟨by omega,?_⟩;rintro _ rfl;refine⟨by omega,fun x6 e6=>⟨by omega,?_⟩⟩;rintro _ rfl;refine⟨by omega,?_⟩;rintro _ rfl;exact⟨by omega,fun x9 e9=>⟨by omega,fun x10 e10=>⟨by omega,⟨true,trivial⟩,fun y _=>hR y trivial⟩⟩⟩
noncomputable def CPcs0:Ctx:=⟨Tryz.prog,gam [],Tryz.f136.ntmps,[],[]⟩
theorem sPcs_neg{n:Int}(hn:n<0):Sound Tryz.prog 136 (SPcs n):=by
 refine sound_of (C:=CPcs0) [] Tryz.func136 (by kernel_rfl) (by decide+kernel) (by kernel_rfl) rfl trivial (loops0 (by kernel_rfl)) ?_;intro hA pA R h;unfold SPcs at h;split at h
 . exact absurd h.1.1.1 (by omega)
 . exact h.elim
theorem two_pow_step{n:Int}(h1:1<=n)(h2:n<=16){a b:Nat}(ha:a<=2^(n-1).toNat)(hb:b<=2^(n-1).toNat):a+b<=2^n.toNat/\a+b<=65536:=by
 have e:n.toNat=(n-1).toNat+1:=by omega
 have h3:2^n.toNat<=2^16:=Nat.pow_le_pow_right (by decide) (by omega);have h4:2^n.toNat=2^(n-1).toNat*2:=by rw[e,Nat.pow_succ]
 omega
theorem sPcs_step(n:Int)(ih:Sound Tryz.prog 136 (SPcs (n-1))):Sound Tryz.prog 136 (SPcs n):=by
 refine sound_of (C:=CPcs n) (tabPcs n) Tryz.func136 (by kernel_rfl) (by decide+kernel) (by kernel_rfl) rfl ⟨sSettled,sMiddle,ih,trivial⟩ (loops0 (by kernel_rfl)) ?_;intro hA pA R h;unfold SPcs at h;split at h;case h_2=>exact h.elim
 rename_i u w r h' v x s g d f k;obtain⟨⟨hn,hk,ha,hb,hd⟩,_,hR⟩:=h;have one:R ⟨.ce (.sl false [4,4,4,4] [[v,x,s,g]]),true,[],[]⟩:=hR [[v,x,s,g]] ⟨⟨Nat.le_refl 1,Nat.one_le_two_pow⟩,spks_one hb⟩;have ex:∀m:Nat,∃y:LL,(1<=y.length/\y.length<=2^m)/\spks y:=fun m=>⟨[[v,x,s,g]],⟨Nat.le_refl 1,Nat.one_le_two_pow⟩,spks_one hb⟩;refine byVC (vcPcs n u w r h' v x s g d k f R) ⟨fun _=>one,fun g1=>⟨⟨ha,hb,hd⟩,⟨true,trivial⟩,fun y _=>⟨fun _=>one,fun _=>⟨⟨ha,hb,hd⟩,spk_ex,fun m hm=> ?_⟩⟩⟩⟩;have g1:=odf g1;refine⟨by omega,fun x3 e3=>⟨⟨⟨by omega,by omega⟩,⟨by omega,by omega,by omega⟩,ha,hm,hd⟩,ex _,fun l1 hl1=>⟨by omega,fun x5 e5=>⟨⟨⟨by omega,by omega⟩,⟨by omega,by omega,by omega⟩,hm,hb,hd⟩,ex _,fun l2 hl2=> ?_⟩⟩⟩⟩;have ll:=two_pow_step (by omega) hn.2 hl1.1.2 hl2.1.2;refine⟨⟨by omega,by unfold maxLen;omega⟩,hR (l1++l2) ⟨⟨?_,?_⟩,spks_app hl1.2 hl2.2⟩⟩
 . rw[List.length_append];have:=hl1.1.1;omega
 . rw[List.length_append];exact ll.1
theorem sPcsN:∀k:Nat,Sound Tryz.prog 136 (SPcs ((k:Int)-1))
 |0=>sPcs_neg (by decide)
 |k+1=>sPcs_step _ (by have:=sPcsN k;rw[show((k+1:Nat):Int)-1-1=(k:Int)-1 by omega];exact this)
theorem sPcs16:Sound Tryz.prog 136 (SPcs 16):=sPcsN 17
theorem sSpoke:Sound Tryz.prog 146 SSpoke:=by
 refine sound_of (C:=CSpoke) tabSpoke Tryz.func146 (by kernel_rfl) (by decide+kernel) (by kernel_rfl) rfl ⟨sDot,sRoot,trivial⟩ (loops0 (by kernel_rfl)) ?_;intro hA pA R h;unfold SSpoke at h;split at h;case h_2=>exfalso;exact h
 rename_i u w r h;rename _/\_=>H;obtain⟨⟨hu,hw,hh⟩,_,hR⟩:=H;refine byVC (vcSpoke u w r h R) ⟨by omega,fun x1 e1=>⟨by omega,fun x2 e2=>⟨by omega,fun x3 e3=> ?_⟩⟩⟩;have s1:=sq_bd (a:=x1) (D:=8192) (by omega) (by omega);have s2:=sq_bd (a:=x2) (D:=8192) (by omega) (by omega);have n1:=sq_nonneg x1;have n2:=sq_nonneg x2;refine⟨by omega,⟨_,rfl,by omega,by omega⟩,fun n hn=>⟨by omega,isqrt_exI (by omega),fun y hy=> ?_⟩⟩;obtain⟨y1,y2,y3⟩:=hy;have yb:y<=12000:=sq_le y1 (by decide) (by omega);have yy:=mulbd y1 yb (show 0<=y+1 by omega) (show y+1<=12001 by omega);refine⟨by omega,?_⟩;rintro _ rfl;refine⟨by omega,fun x7 e7=>⟨fun _=>⟨by omega,fun x8 e8=>hR (x1,x2,x8,x3) ?_⟩,fun _=>hR (x1,x2,y,x3) ?_⟩⟩
 . show spk x1 x2 x8 x3;unfold spk;omega
 . show spk x1 x2 y x3;unfold spk;omega
theorem sEnd1:Sound Tryz.prog 131 SEnd1:=by
 refine sound_of (C:=CEnd1) tabEnd1 Tryz.func131 (by kernel_rfl) (by decide+kernel) (by kernel_rfl) rfl ⟨sPlane,trivial⟩ (loops0 (by kernel_rfl)) ?_;intro hA pA R h;unfold SEnd1 at h;split at h;case h_2=>exfalso;exact h
 rename_i k0 bk f0 f1 f2 t0 t1 t2 pl c0 c1 c2 dr fu fd pr sd ra bl nn sp on;obtain⟨⟨hf,ht,hc⟩,_,hR⟩:=h;have ex:∀a b c:Int,∃x:Int×Int×Int,∀B:Int,0<=B->b3 B a b c->b3 B x.1 x.2.1 x.2.2:=fun a b c=>⟨(a,b,c),fun B _ h=>h⟩;refine byVC (vcEnd1 k0 bk f0 f1 f2 t0 t1 t2 pl c0 c1 c2 dr fd sd ra bl nn sp fu pr on R) ⟨trivial,ex _ _ _,fun x hx=>⟨trivial,ex _ _ _,fun y hy=>⟨trivial,ex _ _ _,fun z hz=> ?_⟩⟩⟩;have hx:=hx 256 (by decide) hc;have hy:=hy 256 (by decide) hf;have hz:=hz 256 (by decide) ht;unfold b3 at hx hy hz;refine⟨by omega,fun x10 e10=>⟨by omega,fun x11 e11=>⟨by omega,fun x12 e12=>⟨by omega,fun x13 e13=>hR (x10,x11,y.2.2,x12,x13,z.2.2) ?_⟩⟩⟩⟩;dsimp only;unfold b3;omega
theorem sEnds:Sound Tryz.prog 135 SEnds:=by
 refine sound_of (C:=CEnds) tabEnds Tryz.func135 (by kernel_rfl) (by decide+kernel) (by kernel_rfl) rfl ⟨sEnd1,sSpoke,trivial⟩ (loops0 (by kernel_rfl)) ?_;intro hA pA R h;unfold SEnds at h;split at h;case h_2=>exfalso;exact h
 rename_i k0 bk f0 f1 f2 t0 t1 t2 pl c0 c1 c2 dr fu fd pr sd ra bl nn sp on;obtain⟨⟨hf,ht,hc⟩,_,hR⟩:=h;refine byVC (vcEnds k0 bk f0 f1 f2 t0 t1 t2 pl c0 c1 c2 dr fd sd ra bl nn sp fu pr on R) ⟨⟨hf,ht,hc⟩,⟨(0,0,0,0,0,0),by unfold b3;decide⟩,fun x hx=> ?_⟩;unfold b3 at hx;exact⟨by omega,spk_ex4,fun y hy=>⟨by omega,spk_ex4,fun z hz=>hR (y,z) ⟨hy,hz⟩⟩⟩
end Go.Proofs.YtoekmphdpepdbaaGreat
namespace U
open Go
def lim(n:Nat):LL:=if n=0 then[]else[((n%65536:Nat):Int)]::lim (n/65536)
termination_by n
decreasing_by omega
def dv:LL->Nat
 |[]=>0
 |r::l=>(r.getD 0 0).toNat+65536*dv l
def dg(l:LL):Prop:=∀r∈l,∃d:Int,r=[d]/\0<=d/\d<65536
def cmp3(x y:Nat):Int:=if x<y then-1 else if x=y then 0 else 1
end U
namespace Go.Proofs.YtoekmphdpepdbaaGreat
open Go Go.HL U
def SLimbs(hA:List HV)(pA:List (List HC)):SR:=match hA,pA with
 |[.ce (.int .u64 n)],[]=> .det (0<=n/\n<18446744073709551616) ⟨.ce (.sl false [8] (lim n.toNat)),true,[],[]⟩
 |_,_=> .fail
def anLimbs:LAnn:=⟨[0,3,100003],[3,100003],[],false⟩
def LLimbs(v:LV):LR:=match v with
 |([.ce (.int .u64 n), .ce (.sl false [8] acc), .ce (.lit true)],[])=> .det (acc.length=0/\0<=n/\n<18446744073709551616) (.exit 0) ([.ce (.sl false [8] (lim n.toNat)), .ce (.lit true)],[])
 |_=> .fail
noncomputable def CLimbs:Ctx:=⟨Tryz.prog,gam [],Tryz.f154.ntmps,[(2,anLimbs,LLimbs)],[]⟩
theorem vcLimbs(n:Int)(Q:Res->Prop):(nfun true CLimbs Tryz.f154 (bodyOf Tryz.f154) [.ce (.int .u64 n)] [] Q)=(((0:Nat)=0/\0<=n/\n<18446744073709551616)/\Q ⟨.ce (.sl false [8] (lim n.toNat)),true,[],[]⟩):=by kernel_rfl
theorem vbLimbs(n:Int)(acc:LL)(K:HEx->LV->Prop):(nbodyT true CLimbs anLimbs (nthLoop Tryz.f154 0) (([.ce (.int .u64 n), .ce (.sl false [8] acc), .ce (.lit true)],[])) K)=(Br (n>0) ((0<=n/\n<=18446744073709551615/\(65535:Int)<=18446744073709551615)/\∀x1,x1=n%65536->((acc.length+1)*8<=140737488355328/\acc.length+1<=maxLen)/\(0:Int)<=16/\∀x2,x2=n/65536->K .normal ([.ce (.int .u64 x2), .ce (.sl false [8] (acc++[[x1]])), .ce (.lit true)],[])) (K (.exit 0) ([.ce (.sl false [8] acc), .ce (.lit true)],[]))):=by kernel_rfl
def SCut(hA:List HV)(pA:List (List HC)):SR:=match hA,pA with
 |[.ce (.sl false [8] l)],[]=> .det (dg l/\l.length<=1000) ⟨.ce (.sl false [8] (lim (dv l))),false,[],[]⟩
 |_,_=> .fail
def anCut:LAnn:=⟨[0],[0],[],false⟩
def LCut(v:LV):LR:=match v with
 |([.ce (.sl false [8] l)],[])=> .det (dg l/\l.length<=1000) (.exit 0) ([.ce (.sl false [8] (lim (dv l)))],[])
 |_=> .fail
noncomputable def CCut:Ctx:=⟨Tryz.prog,gam [],Tryz.f161.ntmps,[(1,anCut,LCut)],[]⟩
theorem vcCut(l:LL)(Q:Res->Prop):(nfun true CCut Tryz.f161 (bodyOf Tryz.f161) [.ce (.sl false [8] l)] [] Q)=((dg l/\l.length<=1000)/\Q ⟨.ce (.sl false [8] (lim (dv l))),false,[],[]⟩):=by kernel_rfl
theorem vbCut(l:LL)(K:HEx->LV->Prop):(nbodyT true CCut anCut (nthLoop Tryz.f161 0) (([.ce (.sl false [8] l)],[])) K)=(Br ((l.length:Int)>0) (R6 ((l.length:Int)-1)/\∀x1,x1=(l.length:Int)-1->(0<=x1/\x1<(l.length:Int))/\∀x2,x2=el l x1.toNat->Bb (x2==0) (R6 ((l.length:Int)-1)/\∀x3,x3=(l.length:Int)-1->(0<=x3/\x3<=(l.length:Int))/\K .normal ([.ce (.sl false [8] (List.take x3.toNat l))],[])) (K (.exit 0) ([.ce (.sl false [8] l)],[]))) (K (.exit 0) ([.ce (.sl false [8] l)],[]))):=by kernel_rfl
def SMag(hA:List HV)(pA:List (List HC)):SR:=match hA,pA with
 |[.ce (.int .i64 x)],[]=> .det (-9223372036854775808<=x/\x<=9223372036854775807) ⟨.ce (.int .u64 (x.natAbs:Int)),false,[],[]⟩
 |_,_=> .fail
noncomputable def CMag:Ctx:=⟨Tryz.prog,gam [],Tryz.f155.ntmps,[],[]⟩
theorem vcMag(x:Int)(Q:Res->Prop):(nfun true CMag Tryz.f155 (bodyOf Tryz.f155) [.ce (I6 x)] [] Q)=(Br (x<0) (R6 (x+1)/\∀x1,x1=x+1->R6 (0-x1)/\∀x2,x2=0-x1->∀x3,x3=x2%18446744073709551616->∀x4,x4=(x3+1)%18446744073709551616->Q ⟨.ce (.int .u64 x4),false,[],[]⟩) (∀x5,x5=x%18446744073709551616->Q ⟨.ce (.int .u64 x5),false,[],[]⟩)):=by kernel_rfl
def SSgn(hA:List HV)(pA:List (List HC)):SR:=match hA,pA with
 |[.ce (.int .i64 x), .ce (.int .i64 y)],[]=> .det True ⟨.ce (I6 (x.sign*y.sign)),false,[],[]⟩
 |_,_=> .fail
noncomputable def CSgn:Ctx:=⟨Tryz.prog,gam [],Tryz.f143.ntmps,[],[]⟩
theorem vcSgn(x y:Int)(Q:Res->Prop):(nfun true CSgn Tryz.f143 (bodyOf Tryz.f143) [.ce (I6 x), .ce (I6 y)] [] Q)=(Bb (x==0) (Q ⟨.ce (I6 0),false,[],[]⟩) (Bb (y==0) (Q ⟨.ce (I6 0),false,[],[]⟩) (Bb (decide (x<0)==decide (y<0)) (Q ⟨.ce (I6 1),false,[],[]⟩) (Q ⟨.ce (I6 (-1)),false,[],[]⟩)))):=by kernel_rfl
def SCmp(hA:List HV)(pA:List (List HC)):SR:=match hA,pA with
 |[.ce (.sl false [8] a), .ce (.sl false [8] b)],[]=> .det (a=lim (dv a)/\b=lim (dv b)/\a.length<=1000/\b.length<=1000) ⟨.ce (I6 (cmp3 (dv a) (dv b))),false,[],[]⟩
 |_,_=> .fail
def anCmp:LAnn:=⟨[0,1,4,5],[4],[],false⟩
def LCmp(v:LV):LR:=match v with
 |([.ce (.sl false [8] a), .ce (.sl false [8] b), .ce (.int .i64 r), .ce (.int .i64 k)],[])=> .alts (dg a/\dg b/\a.length=b.length/\k=(a.length:Int)-1/\a.length<=1000) [(dv a=dv b, .exit 0,([.ce (I6 r)],[])),(dv a≠dv b, .ret,([.ce (I6 (cmp3 (dv a) (dv b)))],[]))]
 |_=> .fail
noncomputable def CCmp:Ctx:=⟨Tryz.prog,gam [],Tryz.f144.ntmps,[(6,anCmp,LCmp)],[]⟩
theorem vcCmp(a b:LL)(Q:Res->Prop):(nfun true CCmp Tryz.f144 (bodyOf Tryz.f144) [.ce (.sl false [8] a), .ce (.sl false [8] b)] [] Q)=(Bb ((a.length:Int) !=(b.length:Int)) (Br ((a.length:Int)<(b.length:Int)) (Q ⟨.ce (I6 (-1)),false,[],[]⟩) (Q ⟨.ce (I6 1),false,[],[]⟩)) (R6 ((a.length:Int)-1)/\∀x1,x1=(a.length:Int)-1->(dg a/\dg b/\a.length=b.length/\x1=(a.length:Int)-1/\a.length<=1000)/\(dv a=dv b->Q ⟨.ce (I6 0),false,[],[]⟩)/\(dv a≠dv b->Q ⟨.ce (I6 (cmp3 (dv a) (dv b))),false,[],[]⟩))):=by kernel_rfl
theorem vbCmp(a b:LL)(r k:Int)(K:HEx->LV->Prop):(nbodyT true CCmp anCmp (nthLoop Tryz.f144 0) (([.ce (.sl false [8] a), .ce (.sl false [8] b), .ce (I6 r), .ce (I6 k)],[])) K)=(Br (k>=0) ((0<=k/\k<(a.length:Int))/\∀x1,x1=el a k.toNat->(0<=k/\k<(b.length:Int))/\∀x2,x2=el b k.toNat->Br (x1<x2) (K .ret ([.ce (I6 (-1))],[])) ((0<=k/\k<(a.length:Int))/\∀x3,x3=el a k.toNat->(0<=k/\k<(b.length:Int))/\∀x4,x4=el b k.toNat->Br (x3>x4) (K .ret ([.ce (I6 1)],[])) (R6 (k-1)/\∀x5,x5=k-1->K .normal ([.ce (.sl false [8] a), .ce (.sl false [8] b), .ce (I6 r), .ce (I6 x5)],[])))) (K (.exit 0) ([.ce (I6 r)],[]))):=by kernel_rfl
end Go.Proofs.YtoekmphdpepdbaaGreat
namespace U
open Go
theorem lim_zero:lim 0=[]:=by unfold lim;rfl
theorem lim_pos{n:Nat}(h:n≠0):lim n=[((n%65536:Nat):Int)]::lim (n/65536):=by rw[lim];rw[if_neg h]
theorem dv_lim(n:Nat):dv (lim n)=n:=by
 induction n using Nat.strongRecOn with
 |ind n ih=>
  by_cases h:n=0
  . subst h;rw[lim_zero];rfl
  . rw[lim_pos h];show(((n%65536:Nat):Int)).toNat+65536*dv (lim (n/65536))=n;rw[ih _ (by omega)];omega
theorem dg_lim(n:Nat):dg (lim n):=by
 induction n using Nat.strongRecOn with
 |ind n ih=>
  by_cases h:n=0
  . subst h;rw[lim_zero];intro r hr;cases hr
  . rw[lim_pos h];intro r hr;rcases List.mem_cons.1 hr with rfl|hr
    . exact⟨_,rfl,by omega,by omega⟩
    . exact ih _ (by omega) r hr
theorem lim_len:∀(k n:Nat),n<65536^k->(lim n).length<=k
 |0,n,h=>by
  have:n=0:=by simpa using h
  subst this;rw[lim_zero];exact Nat.le_refl _
 |k+1,n,h=>by
  by_cases h0:n=0
  . subst h0;rw[lim_zero];exact Nat.zero_le _
  . rw[lim_pos h0];have:n/65536<65536^k:=by
     rw[Nat.pow_succ]at h;exact Nat.div_lt_of_lt_mul (by rw[Nat.mul_comm];exact h)
    have:=lim_len k _ this;simpa using this
theorem lim_low(n:Nat)(h:n≠0):65536^((lim n).length-1)<=n:=by
 induction n using Nat.strongRecOn with
 |ind n ih=>
  rw[lim_pos h];by_cases h0:n/65536=0
  . rw[h0,lim_zero];simp;omega
  . have:=ih _ (by omega) h0;rw[List.length_cons,Nat.add_sub_cancel];have hl:(lim (n/65536)).length=((lim (n/65536)).length-1)+1:=by
     rw[lim_pos h0];simp
    rw[hl,Nat.pow_succ];omega
theorem dv_append(a b:LL):dv (a++b)=dv a+65536^a.length*dv b:=by
 induction a with
 |nil=>simp[dv]
 |cons r a ih=>
  show(r.getD 0 0).toNat+65536*dv (a++b)=(r.getD 0 0).toNat+65536*dv a+65536^(a.length+1)*dv b;rw[ih,Nat.pow_succ];grind
theorem dg_cons{r:List Int}{l:LL}(h:dg (r::l)):(∃d:Int,r=[d]/\0<=d/\d<65536)/\dg l:=⟨h r (by simp),fun x hx=>h x (List.mem_cons_of_mem _ hx)⟩
theorem dg_take{l:LL}(h:dg l)(k:Nat):dg (l.take k):=fun r hr=>h r (List.mem_of_mem_take hr)
theorem dv_lt{l:LL}(h:dg l):dv l<65536^l.length:=by
 induction l with
 |nil=>simp[dv]
 |cons r l ih=>
  obtain⟨⟨d,rfl,h0,h1⟩,hl⟩:=dg_cons h;have:=ih hl;show(([d]:List Int).getD 0 0).toNat+65536*dv l<65536^(l.length+1);have e:(([d]:List Int).getD 0 0)=d:=rfl;rw[e,Nat.pow_succ];omega
theorem el_dg{l:LL}(h:dg l){j:Nat}(hj:j<l.length):0<=el l j/\el l j<65536/\l.getD j []=[el l j]:=by
 obtain⟨d,hd,h0,h1⟩:=h (l[j]) (List.getElem_mem hj);have e:l.getD j []=[d]:=by simp[List.getD_eq_getElem?_getD,hj,hd]
 have e2:el l j=d:=by unfold el;rw[e];rfl
 rw[e2];exact⟨h0,h1,e⟩
theorem dv_drop{l:LL}{j:Nat}(hj:j<l.length):dv (l.drop j)=(el l j).toNat+65536*dv (l.drop (j+1)):=by
 rw[List.drop_eq_getElem_cons hj];have:el l j=(l[j]).getD 0 0:=by unfold el;simp[List.getD_eq_getElem?_getD,hj]
 rw[this];rfl
theorem dv_split(l:LL){j:Nat}(hj:j<=l.length):dv l=dv (l.take j)+65536^j*dv (l.drop j):=by
 have h:=dv_append (l.take j) (l.drop j);rw[List.take_append_drop]at h;rw[h,List.length_take,Nat.min_eq_left hj]
theorem dv_take_succ{l:LL}{j:Nat}(hj:j<l.length):dv (l.take (j+1))=dv (l.take j)+65536^j*(el l j).toNat:=by
 have h1:=dv_split l (Nat.le_of_lt hj);have h2:=dv_split l (show j+1<=l.length from hj);rw[dv_drop hj]at h1;rw[Nat.pow_succ]at h2;have:65536^j*((el l j).toNat+65536*dv (l.drop (j+1)))=65536^j*(el l j).toNat+65536^j*65536*dv (l.drop (j+1)):=by grind
 omega
theorem lim_of{l:LL}(h:dg l):(l=[]∨el l (l.length-1)≠0)->lim (dv l)=l:=by
 induction l with
 |nil=>intro _;exact lim_zero
 |cons r l ih=>
  intro h0;obtain⟨⟨d,rfl,h1,h2⟩,hl⟩:=dg_cons h;have h0':el ([d]::l) l.length≠0:=by
   rcases h0 with h0|h0
   . cases h0
   . simpa using h0
  have hv:dv ([d]::l)=d.toNat+65536*dv l:=rfl;by_cases hn:l=[]
  . subst hn;have hd:d≠0:=h0';rw[hv];show lim (d.toNat+65536*0)=_;rw[lim_pos (by omega)];have e1:(d.toNat+65536*0)/65536=0:=by omega
    have e2:(((d.toNat+65536*0)%65536:Nat):Int)=d:=by omega
    rw[e1,e2,lim_zero]
  . have hlp:0<l.length:=List.length_pos_iff.2 hn;have hlast:el l (l.length-1)≠0:=by
     have:el ([d]::l) l.length=el l (l.length-1):=by
      unfold el;rw[show l.length=(l.length-1)+1 by omega];rfl
     rwa[this]at h0'
    have ih':=ih hl (.inr hlast);have hpos:dv l≠0:=fun e=>by rw[e,lim_zero]at ih';exact hn ih'.symm
    rw[hv,lim_pos (by omega)];have e1:(d.toNat+65536*dv l)/65536=dv l:=by omega
    have e2:(((d.toNat+65536*dv l)%65536:Nat):Int)=d:=by omega
    rw[e1,e2,ih']
theorem dv_cut{l:LL}(hp:0<l.length)(h:el l (l.length-1)=0):dv (l.take (l.length-1))=dv l:=by
 have h1:=dv_take_succ (l:=l) (j:=l.length-1) (by omega);rw[show l.length-1+1=l.length by omega,List.take_length,h]at h1;rw[h1];simp
theorem dv_low{a b:LL}(ha:dg a)(hb:dg b)(hl:a.length=b.length){j:Nat}(hj:j<a.length)(hd:dv (a.drop (j+1))=dv (b.drop (j+1)))(hlt:el a j<el b j):dv a<dv b:=by
 have h1:=dv_split a (Nat.le_of_lt hj);have h2:=dv_split b (show j<=b.length by omega);rw[dv_drop hj]at h1;rw[dv_drop (show j<b.length by omega)]at h2;have h3:=dv_lt (dg_take ha j);rw[List.length_take,Nat.min_eq_left (Nat.le_of_lt hj)]at h3;have h4:=el_dg ha hj;have h5:=el_dg hb (show j<b.length by omega);rw[<-hd]at h2;generalize dv (a.drop (j+1))=D at*;have h6:(el a j).toNat+1<=(el b j).toNat:=by omega
 have h7:65536^j*((el a j).toNat+65536*D)+65536^j<=65536^j*((el b j).toNat+65536*D):=by
  have:65536^j*((el a j).toNat+1+65536*D)<=65536^j*((el b j).toNat+65536*D):=Nat.mul_le_mul_left _ (by omega);have e:65536^j*((el a j).toNat+1+65536*D)=65536^j*((el a j).toNat+65536*D)+65536^j:=by grind
  omega
 omega
theorem cmp_len{x y:Nat}(h:(lim x).length<(lim y).length):x<y:=by
 have hy:y≠0:=fun e=>by subst e;rw[lim_zero]at h;exact absurd h (Nat.not_lt_zero _)
 have h1:=lim_low y hy;have h2:=dv_lt (dg_lim x);rw[dv_lim]at h2;have h3:65536^(lim x).length<=65536^((lim y).length-1):=Nat.pow_le_pow_right (by omega) (by omega);omega
end U
namespace Go.Proofs.YtoekmphdpepdbaaGreat
open Go Go.HL U
theorem loopLimbs:∀v Q,(LLimbs v).wp Q->hloop CLimbs anLimbs (nthLoop Tryz.f154 0) v Q:=by
 intro v Q h;unfold LLimbs at h;split at h;case h_2=>exact h.elim
 rename_i n acc;obtain⟨⟨h1,h2,h3⟩,hq⟩:=h;obtain rfl:acc=[]:=List.eq_nil_of_length_eq_zero h1;refine hloop_rec (σ:=Nat×LL) (fun s=>([.ce (.int .u64 (s.1:Int)), .ce (.sl false [8] s.2), .ce (.lit true)],[])) (fun s=>s.1) (fun s=>s.2++lim s.1=lim n.toNat/\s.1<18446744073709551616) ?_ (n.toNat,[]) ⟨by simp,by omega⟩|>(fun x=>by rwa[show((n.toNat:Nat):Int)=n by omega]at x);rintro⟨m,l⟩⟨hs,hm⟩K hn he _;dsimp only at hs hm hn;refine byVB (vbLimbs m l K) ⟨fun hlt=> ?_,fun hge=> ?_⟩
 . have hlt:=odt hlt;have hlen:l.length+(lim m).length<=4:=by
    rw[<-List.length_append,hs];exact lim_len 4 _ (by omega)
   refine⟨by omega,fun x1 e1=>⟨⟨by omega,by unfold maxLen;omega⟩,by omega,fun x2 e2=> ?_⟩⟩;have:=hn (m/65536,l++[[x1]]) ⟨by
    have e:x1=((m%65536:Nat):Int):=by omega
    rw[e,List.append_assoc];rw[lim_pos (by omega)]at hs;exact hs,by dsimp only;omega⟩ (by dsimp only;omega);dsimp only at this;rw[show x2=((m/65536:Nat):Int)by omega];exact this
 . have hge:=odf hge;obtain rfl:m=0:=by omega
   rw[lim_zero,List.append_nil]at hs;subst hs;exact he _ _ hq
theorem sLimbs:Sound Tryz.prog 154 SLimbs:=by
 refine sound_of (C:=CLimbs) [] Tryz.func154 (by kernel_rfl) (by decide+kernel) (by kernel_rfl) rfl trivial (loops1 (by kernel_rfl) (loopOK_of (an:=anLimbs) (S:=LLimbs) (by kernel_rfl) loopLimbs)) ?_;intro hA pA R h;unfold SLimbs at h;split at h;case h_2=>exfalso;exact h
 rename_i n;have h2:=h.2;have h1:=h.1;refine byVC (vcLimbs n R) ?_;refine⟨?_,h2⟩;exact⟨rfl,h1⟩
theorem loopCut:∀v Q,(LCut v).wp Q->hloop CCut anCut (nthLoop Tryz.f161 0) v Q:=by
 intro v Q h;unfold LCut at h;split at h;case h_2=>exact h.elim
 rename_i l;obtain⟨⟨h1,h2⟩,hq⟩:=h;refine hloop_rec (σ:=LL) (fun s=>([.ce (.sl false [8] s)],[])) (fun s=>s.length) (fun s=>dg s/\s.length<=1000/\dv s=dv l) ?_ l ⟨h1,h2,rfl⟩;rintro s⟨hs1,hs2,hs3⟩K hn he _;have done:(s=[]∨el s (s.length-1)≠0)->K (.exit 0) ([.ce (.sl false [8] s)],[]):=fun hh=>he _ _ (by
  have:=lim_of hs1 hh;rw[hs3]at this;rw[this]at hq;exact hq);refine byVB (vbCut s K) ?_;refine⟨fun hlt=> ?_,fun hge=> ?_⟩
 . have hlt:=odt hlt;refine⟨by omega,fun x1 e1=>⟨by omega,fun x2 e2=>⟨fun hz=> ?_,fun hz=> ?_⟩⟩⟩
   . refine⟨by omega,fun x3 e3=>⟨by omega,?_⟩⟩;have e4:x3.toNat=s.length-1:=by omega
     have e5:x1.toNat=s.length-1:=by omega
     have hx2:x2=0:=by simpa using hz
     have:=hn (s.take (s.length-1)) ⟨dg_take hs1 _,by rw[List.length_take];omega,by
      rw[dv_cut (by omega) (by rw[e5]at e2;unfold el;unfold el at e2;omega),hs3]⟩ (by rw[List.length_take];omega);rw[e4];exact this
   . have hx2:x2≠0:=by simpa using hz
     have e5:x1.toNat=s.length-1:=by omega
     rw[e5]at e2;exact done (.inr (by unfold el;unfold el at e2;omega))
 . have hge:=odf hge;exact done (.inl (List.eq_nil_of_length_eq_zero (by omega)))
theorem sCut:Sound Tryz.prog 161 SCut:=by
 refine sound_of (C:=CCut) [] Tryz.func161 (by kernel_rfl) (by decide+kernel) (by kernel_rfl) rfl trivial (loops1 (by kernel_rfl) (loopOK_of (an:=anCut) (S:=LCut) (by kernel_rfl) loopCut)) ?_;intro hA pA R h;unfold SCut at h;split at h;case h_2=>exfalso;exact h
 rename_i l;have h2:=h.2;have h1:=h.1;refine byVC (vcCut l R) ?_;exact⟨h1,h2⟩
theorem sMag:Sound Tryz.prog 155 SMag:=by
 refine sound_of (C:=CMag) [] Tryz.func155 (by kernel_rfl) (by decide+kernel) (by kernel_rfl) rfl trivial (loops0 (by kernel_rfl)) ?_;intro hA pA R h;unfold SMag at h;split at h;case h_2=>exfalso;exact h
 rename_i x;obtain⟨⟨h1,h2⟩,hq⟩:=h;refine byVC (vcMag x R) ⟨fun e=> ?_,fun e=> ?_⟩
 . have:=odt e;refine⟨by omega,fun x1 e1=>⟨by omega,fun x2 e2 x3 e3 x4 e4=> ?_⟩⟩;rw[show x4=(x.natAbs:Int)by omega];exact hq
 . have:=odf e;intro x5 e5;rw[show x5=(x.natAbs:Int)by omega];exact hq
theorem sSgn:Sound Tryz.prog 143 SSgn:=by
 refine sound_of (C:=CSgn) [] Tryz.func143 (by kernel_rfl) (by decide+kernel) (by kernel_rfl) rfl trivial (loops0 (by kernel_rfl)) ?_;intro hA pA R h;unfold SSgn at h;split at h;case h_2=>exfalso;exact h
 rename_i x y;have hq:=h.2;refine byVC (vcSgn x y R) ⟨fun e=> ?_,fun e=>⟨fun e2=> ?_,fun e2=>⟨fun e3=> ?_,fun e3=> ?_⟩⟩⟩
 . have:x=0:=by simpa using e
   subst this;simpa using hq
 . have:y=0:=by simpa using e2
   subst this;simpa using hq
 . have h0:x≠0:=by simpa using e
   have h1:y≠0:=by simpa using e2
   have:x.sign*y.sign=1:=by
    rcases Int.lt_or_gt_of_ne h0 with hx|hx<;>rcases Int.lt_or_gt_of_ne h1 with hy|hy
    . rw[Int.sign_eq_neg_one_of_neg hx,Int.sign_eq_neg_one_of_neg hy];rfl
    . simp[hx,Int.not_lt.2 (Int.le_of_lt hy)]at e3
    . simp[hy,Int.not_lt.2 (Int.le_of_lt hx)]at e3
    . rw[Int.sign_eq_one_of_pos hx,Int.sign_eq_one_of_pos hy];rfl
   rw[this]at hq;exact hq
 . have h0:x≠0:=by simpa using e
   have h1:y≠0:=by simpa using e2
   have:x.sign*y.sign= -1:=by
    rcases Int.lt_or_gt_of_ne h0 with hx|hx<;>rcases Int.lt_or_gt_of_ne h1 with hy|hy
    . simp[hx,hy]at e3
    . rw[Int.sign_eq_neg_one_of_neg hx,Int.sign_eq_one_of_pos hy];rfl
    . rw[Int.sign_eq_one_of_pos hx,Int.sign_eq_neg_one_of_neg hy];rfl
    . simp[Int.not_lt.2 (Int.le_of_lt hx),Int.not_lt.2 (Int.le_of_lt hy)]at e3
   rw[this]at hq;exact hq
theorem loopCmp:∀v Q,(LCmp v).wp Q->hloop CCmp anCmp (nthLoop Tryz.f144 0) v Q:=by
 intro v Q h;unfold LCmp at h;split at h;case h_2=>exact h.elim
 rename_i a b r k;obtain⟨⟨h1,h2,h3,h4,h5⟩,hq1,hq2⟩:=h;subst h4;refine hloop_rec (σ:=Nat) (fun j=>([.ce (.sl false [8] a), .ce (.sl false [8] b), .ce (I6 r), .ce (I6 ((j:Int)-1))],[])) (fun j=>j) (fun j=>j<=a.length/\dv (a.drop j)=dv (b.drop j)) ?_ a.length ⟨Nat.le_refl _,by rw[List.drop_length,h3,List.drop_length]⟩;rintro j⟨hj,hd⟩K hn he hr;refine byVB (vbCmp a b r _ K) ⟨fun hlt=> ?_,fun hge=> ?_⟩
 . have hlt:=odt hlt;have ej:((j:Int)-1).toNat=j-1:=by omega
   have hjj:j-1+1=j:=by omega
   refine⟨by omega,fun x1 e1=>⟨by omega,fun x2 e2=> ?_⟩⟩;rw[ej]at e1 e2;have e1:x1=el a (j-1):=e1;have e2:x2=el b (j-1):=e2;refine⟨fun hx=> ?_,fun hx=>⟨by omega,fun x3 e3=>⟨by omega,fun x4 e4=> ?_⟩⟩⟩
   . have hx:=odt hx;have:=dv_low h1 h2 h3 (j:=j-1) (by omega) (by rw[hjj];exact hd) (by omega);refine hr _ ?_;have:=hq2 (by omega);unfold cmp3 at this;rw[if_pos (by omega)]at this;exact this
   . have hx:=odf hx;rw[ej]at e3 e4;have e3:x3=el a (j-1):=e3;have e4:x4=el b (j-1):=e4;refine⟨fun hy=> ?_,fun hy=>⟨by omega,fun x5 e5=> ?_⟩⟩
     . have hy:=odt hy;have:=dv_low h2 h1 h3.symm (j:=j-1) (by omega) (by rw[hjj];exact hd.symm) (by omega);refine hr _ ?_;have:=hq2 (by omega);unfold cmp3 at this;rw[if_neg (by omega),if_neg (by omega)]at this;exact this
     . have hy:=odf hy;have:=hn (j-1) ⟨by omega,by
        rw[dv_drop (show j-1<a.length by omega),dv_drop (show j-1<b.length by omega),hjj,hd];have:el a (j-1)=el b (j-1):=by omega
        rw[this]⟩ (by omega);rw[show x5=((j-1:Nat):Int)-1 by omega];exact this
 . have hge:=odf hge;obtain rfl:j=0:=by omega
   exact he _ _ (hq1 (by simpa using hd))
theorem sCmp:Sound Tryz.prog 144 SCmp:=by
 refine sound_of (C:=CCmp) [] Tryz.func144 (by kernel_rfl) (by decide+kernel) (by kernel_rfl) rfl trivial (loops1 (by kernel_rfl) (loopOK_of (an:=anCmp) (S:=LCmp) (by kernel_rfl) loopCmp)) ?_;intro hA pA R h;unfold SCmp at h;split at h;case h_2=>exfalso;exact h
 rename_i a b;have hq:=h.2;have h:=h.1;have ha:=h.1;have hb:=h.2.1;have hal:=h.2.2.1;have hbl:=h.2.2.2;have hla:a.length=(lim (dv a)).length:=congrArg List.length ha;have hlb:b.length=(lim (dv b)).length:=congrArg List.length hb;refine byVC (vcCmp a b R) ⟨fun hne=>⟨fun hlt=> ?_,fun hlt=> ?_⟩,fun heq=>⟨by omega,fun x1 e1=>⟨⟨by rw[ha];exact dg_lim _,by rw[hb];exact dg_lim _,by simp at heq;omega,e1,hal⟩,fun e=> ?_,fun e=>hq⟩⟩⟩
 . have hlt:=odt hlt;have:=cmp_len (x:=dv a) (y:=dv b) (by omega);unfold cmp3 at hq;rw[if_pos this]at hq;exact hq
 . have hlt:=odf hlt;have hne:a.length≠b.length:=by simp at hne;omega
   have:=cmp_len (x:=dv b) (y:=dv a) (by omega);unfold cmp3 at hq;rw[if_neg (by omega),if_neg (by omega)]at hq;exact hq
 . unfold cmp3 at hq;rw[if_neg (by omega),if_pos e]at hq;exact hq
end Go.Proofs.YtoekmphdpepdbaaGreat
