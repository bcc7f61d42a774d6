/-
  Part 4.
  Conditions: none.
-/
import Derived.Test.YthkoabbiiadbjaaGreatPSpindleLocked3
set_option maxRecDepth 100000
set_option maxHeartbeats 400000
set_option linter.unusedVariables false
set_option linter.unusedSimpArgs false
open Go
namespace Go.Proofs.YthkoabbiiadbjaaGreat
open Go Go.HL U
def SQLoss(hargs:List HV)(pars:List (List HC)):SR:=match hargs,pars with
 |[.agg [.int .i64 A, .int .i64 J, .int .i64 R], .ce (.int .i64 b)],[]=> .det (okPl A J R/\b<=65536) ⟨.ce (I6 (qloss J b)),false,[],[]⟩
 |_,_=> .fail
noncomputable def CQLoss:Ctx:=⟨Tryz.prog,gam [],Tryz.f59.ntmps,[],[]⟩
theorem vcQLoss(A J R b:Int)(Q:Res->Prop):(nfun true CQLoss Tryz.f59 (bodyOf Tryz.f59) [.agg [I6 A,I6 J,I6 R], .ce (I6 b)] [] Q)=(Br (b<=0) (Q ⟨.ce (I6 0),false,[],[]⟩) (Br (J<=0) (Q ⟨.ce (I6 0),false,[],[]⟩) (R6 (b-1)/\∀x1,x1=b-1->J≠0/\R6 (Int.tdiv x1 J)/\∀x2,x2=Int.tdiv x1 J->R6 (x2*b)/\∀x3,x3=x2*b->R6 (x2+1)/\∀x4,x4=x2+1->R6 (x2*x4)/\∀x5,x5=x2*x4->(2:Int)≠(0:Int)/\R6 (Int.tdiv x5 2)/\∀x6,x6=Int.tdiv x5 2->R6 (J*x6)/\∀x7,x7=J*x6->R6 (x3-x7)/\∀x8,x8=x3-x7->Q ⟨.ce (I6 x8),false,[],[]⟩))):=by kernel_rfl
noncomputable def CQLossR:Ctx:=⟨Tryz.prog,gam [],Tryz.f64.ntmps,[],[]⟩
theorem vcQLossR(A J R b:Int)(Q:Res->Prop):(nfun true CQLossR Tryz.f64 (bodyOf Tryz.f64) [.agg [I6 A,I6 J,I6 R], .ce (I6 b)] [] Q)=(Br (b<=0) (Q ⟨.ce (I6 0),false,[],[]⟩) (R6 (b-1)/\∀x1,x1=b-1->J≠0/\R6 (Int.tdiv x1 J)/\∀x2,x2=Int.tdiv x1 J->R6 (x2*b)/\∀x3,x3=x2*b->R6 (J*x2)/\∀x4,x4=J*x2->R6 (x2+1)/\∀x5,x5=x2+1->R6 (x4*x5)/\∀x6,x6=x4*x5->(2:Int)≠(0:Int)/\R6 (Int.tdiv x6 2)/\∀x7,x7=Int.tdiv x6 2->R6 (x3-x7)/\∀x8,x8=x3-x7->Q ⟨.ce (I6 x8),false,[],[]⟩)):=by kernel_rfl
def SQReady(hargs:List HV)(pars:List (List HC)):SR:=match hargs,pars with
 |[.agg [.int .i64 A, .int .i64 J, .int .i64 R], .ce (.int .i64 v), .ce (.int .i64 a)],[]=> .det (okPl A J R) ⟨.ce (.bool (qready A J v a)),false,[],[]⟩
 |_,_=> .fail
def tabQReady:List (FuncId×HL.Spec):=[(59,SQLoss)]
noncomputable def CQReady:Ctx:=⟨Tryz.prog,gam tabQReady,Tryz.f61.ntmps,[],[]⟩
theorem vcQReady(A J R v a:Int)(Q:Res->Prop):(nfun true CQReady Tryz.f61 (bodyOf Tryz.f61) [.agg [I6 A,I6 J,I6 R], .ce (I6 v), .ce (I6 a)] [] Q)=((-9223372036854775808<=0-A/\(0:Int)-A<=9223372036854775807)/\∀x1,x1=0-A->Br (a<x1) (Q ⟨.ce (.bool false),false,[],[]⟩) (Br (a>A) (Q ⟨.ce (.bool false),false,[],[]⟩) (Bb (v==0) (Br (a>J) (Q ⟨.ce (.bool false),false,[],[]⟩) (R6 (0-a)/\∀x2,x2=0-a->(okPl A J R/\x2<=65536)/\∀x3,x3=qloss J x2->Br (v>=x3) ((okPl A J R/\a<=65536)/\∀x4,x4=qloss J a->(-9223372036854775808<=16777216-x4/\(16777216:Int)-x4<=9223372036854775807)/\∀x5,x5=16777216-x4->Q ⟨.ce (.bool (decide (v<=x5))),false,[],[]⟩) (Q ⟨.ce (.bool false),false,[],[]⟩))) (R6 (0-a)/\∀x6,x6=0-a->(okPl A J R/\x6<=65536)/\∀x7,x7=qloss J x6->Br (v>=x7) ((okPl A J R/\a<=65536)/\∀x8,x8=qloss J a->(-9223372036854775808<=16777216-x8/\(16777216:Int)-x8<=9223372036854775807)/\∀x9,x9=16777216-x8->Q ⟨.ce (.bool (decide (v<=x9))),false,[],[]⟩) (Q ⟨.ce (.bool false),false,[],[]⟩))))):=by kernel_rfl
def tabQReadyR:List (FuncId×HL.Spec):=[(64,SQLoss)]
noncomputable def CQReadyR:Ctx:=⟨Tryz.prog,gam tabQReadyR,Tryz.f66.ntmps,[],[]⟩
theorem vcQReadyR(A J R v a:Int)(Q:Res->Prop):(nfun true CQReadyR Tryz.f66 (bodyOf Tryz.f66) [.agg [I6 A,I6 J,I6 R], .ce (I6 v), .ce (I6 a)] [] Q)=((-9223372036854775808<=0-A/\(0:Int)-A<=9223372036854775807)/\∀x1,x1=0-A->Br (a>=x1) (Br (a<=A) (R6 (0-a)/\∀x2,x2=0-a->(okPl A J R/\x2<=65536)/\∀x3,x3=qloss J x2->Br (v>=x3) ((okPl A J R/\a<=65536)/\∀x4,x4=qloss J a->(-9223372036854775808<=16777216-x4/\(16777216:Int)-x4<=9223372036854775807)/\∀x5,x5=16777216-x4->Br (v<=x5) (Bb (v !=0) (Q ⟨.ce (.bool true),false,[],[]⟩) (Q ⟨.ce (.bool (decide (a<=J))),false,[],[]⟩)) (Q ⟨.ce (.bool false),false,[],[]⟩)) (Q ⟨.ce (.bool false),false,[],[]⟩)) (Q ⟨.ce (.bool false),false,[],[]⟩)) (Q ⟨.ce (.bool false),false,[],[]⟩)):=by kernel_rfl
def SQValid(hargs:List HV)(pars:List (List HC)):SR:=match hargs,pars with
 |[.agg [.int .i64 A, .int .i64 J, .int .i64 R]],[]=> .all True Bool (fun b=>b=true↔okPl A J R) (fun b=>⟨.ce (.bool b),false,[],[]⟩)
 |_,_=> .fail
noncomputable def CQValid:Ctx:=⟨Tryz.prog,gam [],Tryz.f58.ntmps,[],[]⟩
theorem vcQValid(A J R:Int)(Q:Res->Prop):(nfun true CQValid Tryz.f58 (bodyOf Tryz.f58) [.agg [I6 A,I6 J,I6 R]] [] Q)=(Br (1<=A) (Br (A<=65536) (Br (2<=J) (Br (J<=65536) (Br (1<=R) (Q ⟨.ce (.bool (decide (R<=16777216))),false,[],[]⟩) (Q ⟨.ce (.bool false),false,[],[]⟩)) (Q ⟨.ce (.bool false),false,[],[]⟩)) (Q ⟨.ce (.bool false),false,[],[]⟩)) (Q ⟨.ce (.bool false),false,[],[]⟩)) (Q ⟨.ce (.bool false),false,[],[]⟩)):=by kernel_rfl
def SQBrake(hargs:List HV)(pars:List (List HC)):SR:=match hargs,pars with
 |[.agg [.int .i64 A, .int .i64 J, .int .i64 R], .ce (.int .i64 v), .ce (.int .i64 a)],[]=> .det (okPl A J R/\(-1099511627776<=v/\v<=1099511627776)/\(-1099511627776<=a/\a<=1099511627776)) ⟨.ce (I6 (qbrk A J v a)),false,[],[]⟩
 |_,_=> .fail
def anQB:LAnn:=⟨[1,3,7,8],[7],[1000003],false⟩
def LQB(v:LV):LR:=match v with
 |([.ce (.int .i64 v), .ce (.ptr 1000003 0), .ce (.int .i64 l), .ce (.int .i64 h)],[[.int .i64 A, .int .i64 J, .int .i64 R]])=> .det (okPl A J R/\(-1099511627776<=v/\v<=1099511627776)/\(-2199023255552<=l/\h<=65536)) (.exit 0) ([.ce (I6 (qbs J v (h-l).toNat l h))],[[I6 A,I6 J,I6 R]])
 |_=> .fail
def tabQB:List (FuncId×HL.Spec):=[(58,SQValid),(59,SQLoss)]
noncomputable def CQB:Ctx:=⟨Tryz.prog,gam tabQB,Tryz.f29.ntmps,[(4,anQB,LQB)],[]⟩
theorem vbQB(v l h A J R:Int)(K:HEx->LV->Prop):(nbodyT true CQB anQB (nthLoop Tryz.f29 0) (([.ce (I6 v), .ce (.ptr 1000003 0), .ce (I6 l), .ce (I6 h)],[[I6 A,I6 J,I6 R]])) K)=(Br (l<h) (R6 (h-l)/\∀x1,x1=h-l->(2:Int)≠(0:Int)/\R6 (Int.tdiv x1 2)/\∀x2,x2=Int.tdiv x1 2->R6 (h-x2)/\∀x3,x3=h-x2->R6 (v-x3)/\∀x4,x4=v-x3->(okPl A J R/\x3<=65536)/\∀x5,x5=qloss J x3->Br (x4>=x5) (K .normal ([.ce (I6 v), .ce (.ptr 1000003 0), .ce (I6 x3), .ce (I6 h)],[[I6 A,I6 J,I6 R]])) (R6 (x3-1)/\∀x6,x6=x3-1->K .normal ([.ce (I6 v), .ce (.ptr 1000003 0), .ce (I6 l), .ce (I6 x6)],[[I6 A,I6 J,I6 R]]))) (K (.exit 0) ([.ce (I6 l)],[[I6 A,I6 J,I6 R]]))):=by kernel_rfl
theorem vcQB(A J R v a:Int)(Q:Res->Prop):(nfun true CQB Tryz.f29 (bodyOf Tryz.f29) [.agg [I6 A,I6 J,I6 R], .ce (I6 v), .ce (I6 a)] [] Q)=(True/\(∃(x:Bool),x=true↔okPl A J R)/\∀(x:Bool),(x=true↔okPl A J R)->Bb (!x) (Q ⟨.ce (I6 0),false,[],[]⟩) (∀x2,x2=max a v->Br (x2>1099511627776) (Q ⟨.ce (I6 0),false,[],[]⟩) (∀x3,x3=min a v->Br (x3<(-1099511627776:Int)) (Q ⟨.ce (I6 0),false,[],[]⟩) (R6 (0-a)/\∀x4,x4=0-a->R6 (x4-J)/\∀x5,x5=x4-J->R6 (J-a)/\∀x6,x6=J-a->∀x7,x7=min x6 A->(okPl A J R/\(-1099511627776<=v/\v<=1099511627776)/\ -2199023255552<=x5/\x7<=65536)/\(-9223372036854775808<=0-qbs J v (Int.toNat (x7-x5)) x5 x7/\0-qbs J v (Int.toNat (x7-x5)) x5 x7<=9223372036854775807)/\∀x8,x8=0-qbs J v (Int.toNat (x7-x5)) x5 x7->Q ⟨.ce (I6 x8),false,[],[]⟩)))):=by kernel_rfl
noncomputable def CQBR:Ctx:=⟨Tryz.prog,gam tabQReadyR,Tryz.f34.ntmps,[(2,anQB,LQB)],[]⟩
theorem vbQBR(v l h A J R:Int)(K:HEx->LV->Prop):(nbodyT true CQBR anQB (nthLoop Tryz.f34 0) (([.ce (I6 v), .ce (.ptr 1000003 0), .ce (I6 l), .ce (I6 h)],[[I6 A,I6 J,I6 R]])) K)=(Br (l<h) (R6 (h-l)/\∀x1,x1=h-l->R6 (x1+1)/\∀x2,x2=x1+1->(2:Int)≠(0:Int)/\R6 (Int.tdiv x2 2)/\∀x3,x3=Int.tdiv x2 2->R6 (l+x3)/\∀x4,x4=l+x3->R6 (v-x4)/\∀x5,x5=v-x4->(okPl A J R/\x4<=65536)/\∀x6,x6=qloss J x4->Br (x5>=x6) (K .normal ([.ce (I6 v), .ce (.ptr 1000003 0), .ce (I6 x4), .ce (I6 h)],[[I6 A,I6 J,I6 R]])) (R6 (x4-1)/\∀x7,x7=x4-1->K .normal ([.ce (I6 v), .ce (.ptr 1000003 0), .ce (I6 l), .ce (I6 x7)],[[I6 A,I6 J,I6 R]]))) (K (.exit 0) ([.ce (I6 l)],[[I6 A,I6 J,I6 R]]))):=by kernel_rfl
theorem vcQBR(A J R v a:Int)(Q:Res->Prop):(nfun true CQBR Tryz.f34 (bodyOf Tryz.f34) [.agg [I6 A,I6 J,I6 R], .ce (I6 v), .ce (I6 a)] [] Q)=(R6 (0-a)/\∀x1,x1=0-a->R6 (x1-J)/\∀x2,x2=x1-J->R6 (0-a)/\∀x3,x3=0-a->R6 (x3+J)/\∀x4,x4=x3+J->∀x5,x5=min x4 A->(okPl A J R/\(-1099511627776<=v/\v<=1099511627776)/\ -2199023255552<=x2/\x5<=65536)/\R6 (0-qbs J v (Int.toNat (x5-x2)) x2 x5)/\∀x6,x6=0-qbs J v (Int.toNat (x5-x2)) x2 x5->Q ⟨.ce (I6 x6),false,[],[]⟩):=by kernel_rfl
end Go.Proofs.YthkoabbiiadbjaaGreat
namespace U
def qfok(A J v a:Int):Bool:=qready A J v a&&qsok A J 4096 v a
def qsp(A J v a:Int):LL:=if qfok A J v a then qst A J 4096 v a else[]
end U
namespace Go.Proofs.YthkoabbiiadbjaaGreat
open Go Go.HL U
def SQStop(hargs:List HV)(pars:List (List HC)):SR:=match hargs,pars with
 |[.agg [.int .i64 A, .int .i64 J, .int .i64 R], .ce (.int .i64 v), .ce (.int .i64 a)],[]=> .all (okPl A J R) (LL×Bool) (fun x=>x=(qsp A J v a,qfok A J v a)) (fun x=>⟨.tup [.ce (.sl false [4] x.1), .ce (.bool x.2)],false,[],[]⟩)
 |_,_=> .fail
def anQS:LAnn:=⟨[1,2,3,6,7,8,100008],[6,7,8,100008],[1000003],false⟩
def LQS(v:LV):LR:=match v with
 |([.ce (.int .i64 v), .ce (.int .i64 a), .ce (.ptr 1000003 0), .ce (.sl false [4] z), .ce (.bool y), .ce (.sl false [4] l), .ce (.lit true)],[[.int .i64 A, .int .i64 J, .int .i64 R]])=> .alts (okPl A J R/\qready A J v a=true/\l.length=0) [(qsok A J 4096 v a=true, .exit 0,([.ce (.sl false [4] z), .ce (.bool y), .ce (.sl false [4] (qst A J 4096 v a)), .ce (.lit true)],[[I6 A,I6 J,I6 R]])),(qsok A J 4096 v a=false, .ret,([.ce (.sl false [4] []), .ce (.bool false), .ce (.sl false [4] (qst A J 4096 v a)), .ce (.lit true)],[[I6 A,I6 J,I6 R]]))]
 |_=> .fail
def LQSR(v:LV):LR:=match v with
 |([.ce (.int .i64 v), .ce (.int .i64 a), .ce (.ptr 1000003 0), .ce (.sl false [4] z), .ce (.bool y), .ce (.sl false [4] l), .ce (.lit true)],[[.int .i64 A, .int .i64 J, .int .i64 R]])=> .alts (okPl A J R/\qready A J v a=true/\l.length=0) [(qsok A J 4096 v a=true, .exit 0,([.ce (.sl false [4] z), .ce (.bool y), .ce (.sl false [4] (qst A J 4096 v a)), .ce (.lit true)],[[I6 A,I6 J,I6 R]])),(qsok A J 4096 v a=false, .ret,([.ce (.sl false [4] []), .ce (.bool false), .ce (.sl false [4] (qst A J 4097 v a)), .ce (.lit true)],[[I6 A,I6 J,I6 R]]))]
 |_=> .fail
def tabQS:List (FuncId×HL.Spec):=[(58,SQValid),(61,SQReady),(29,SQBrake)]
noncomputable def CQS:Ctx:=⟨Tryz.prog,gam tabQS,Tryz.f75.ntmps,[(4,anQS,LQS)],[]⟩
theorem vbQS(v a A J R:Int)(y:Bool)(z l:LL)(K:HEx->LV->Prop):(nbodyT true CQS anQS (nthLoop Tryz.f75 0) (([.ce (I6 v), .ce (I6 a), .ce (.ptr 1000003 0), .ce (.sl false [4] z), .ce (.bool y), .ce (.sl false [4] l), .ce (.lit true)],[[I6 A,I6 J,I6 R]])) K)=(Br (v>0) (Bb ((l.length:Int)==4096) (K .ret ([.ce (.sl false [4] []), .ce (.bool false), .ce (.sl false [4] l), .ce (.lit true)],[[I6 A,I6 J,I6 R]])) ((okPl A J R/\(-1099511627776<=v/\v<=1099511627776)/\ -1099511627776<=a/\a<=1099511627776)/\∀x1,x1=qbrk A J v a->R6 (v+x1)/\∀x2,x2=v+x1->((l.length+1)*8<=140737488355328/\l.length+1<=maxLen)/\K .normal ([.ce (I6 x2), .ce (I6 x1), .ce (.ptr 1000003 0), .ce (.sl false [4] z), .ce (.bool y), .ce (.sl false [4] (l++[[x2]])), .ce (.lit true)],[[I6 A,I6 J,I6 R]]))) (K (.exit 0) ([.ce (.sl false [4] z), .ce (.bool y), .ce (.sl false [4] l), .ce (.lit true)],[[I6 A,I6 J,I6 R]]))):=by kernel_rfl
theorem vcQS(A J R v a:Int)(Q:Res->Prop):(nfun true CQS Tryz.f75 (bodyOf Tryz.f75) [.agg [I6 A,I6 J,I6 R], .ce (I6 v), .ce (I6 a)] [] Q)=(True/\(∃(x:Bool),x=true↔okPl A J R)/\∀(x:Bool),(x=true↔okPl A J R)->Bb (!x) (Q ⟨.tup [.ce (.sl false [4] []), .ce (.bool false)],false,[],[]⟩) (okPl A J R/\∀(x2:Bool),x2=qready A J v a->Bb (!x2) (Q ⟨.tup [.ce (.sl false [4] []), .ce (.bool false)],false,[],[]⟩) ((okPl A J R/\qready A J v a=true/\(0:Nat)=0)/\Bb (qsok A J (4096:Nat) v a) (Q ⟨.tup [.ce (.sl false [4] (qst A J (4096:Nat) v a)), .ce (.bool true)],false,[],[]⟩) (Q ⟨.tup [.ce (.sl false [4] []), .ce (.bool false)],false,[],[]⟩)))):=by kernel_rfl
def tabQSR:List (FuncId×HL.Spec):=[(66,SQReady),(34,SQBrake)]
noncomputable def CQSR:Ctx:=⟨Tryz.prog,gam tabQSR,Tryz.f79.ntmps,[(4,anQS,LQSR)],[]⟩
theorem vbQSR(v a A J R:Int)(y:Bool)(z l:LL)(K:HEx->LV->Prop):(nbodyT true CQSR anQS (nthLoop Tryz.f79 0) (([.ce (I6 v), .ce (I6 a), .ce (.ptr 1000003 0), .ce (.sl false [4] z), .ce (.bool y), .ce (.sl false [4] l), .ce (.lit true)],[[I6 A,I6 J,I6 R]])) K)=(Br (v>0) ((okPl A J R/\(-1099511627776<=v/\v<=1099511627776)/\ -1099511627776<=a/\a<=1099511627776)/\∀x1,x1=qbrk A J v a->R6 (v+x1)/\∀x2,x2=v+x1->((l.length+1)*8<=140737488355328/\l.length+1<=maxLen)/\Br ((((List.length (l++[[x2]])):Nat):Int)>4096) (K .ret ([.ce (.sl false [4] []), .ce (.bool false), .ce (.sl false [4] (l++[[x2]])), .ce (.lit true)],[[I6 A,I6 J,I6 R]])) (K .normal ([.ce (I6 x2), .ce (I6 x1), .ce (.ptr 1000003 0), .ce (.sl false [4] z), .ce (.bool y), .ce (.sl false [4] (l++[[x2]])), .ce (.lit true)],[[I6 A,I6 J,I6 R]]))) (K (.exit 0) ([.ce (.sl false [4] z), .ce (.bool y), .ce (.sl false [4] l), .ce (.lit true)],[[I6 A,I6 J,I6 R]]))):=by kernel_rfl
theorem vcQSR(A J R v a:Int)(Q:Res->Prop):(nfun true CQSR Tryz.f79 (bodyOf Tryz.f79) [.agg [I6 A,I6 J,I6 R], .ce (I6 v), .ce (I6 a)] [] Q)=(okPl A J R/\∀(x1:Bool),x1=qready A J v a->Bb (!x1) (Q ⟨.tup [.ce (.sl false [4] []), .ce (.bool false)],false,[],[]⟩) ((okPl A J R/\qready A J v a=true/\(0:Nat)=0)/\Bb (qsok A J (4096:Nat) v a) (Q ⟨.tup [.ce (.sl false [4] (qst A J (4096:Nat) v a)), .ce (.bool true)],false,[],[]⟩) (Q ⟨.tup [.ce (.sl false [4] []), .ce (.bool false)],false,[],[]⟩))):=by kernel_rfl
end Go.Proofs.YthkoabbiiadbjaaGreat
namespace U
theorem mulb{x y X Y:Int}(h1:0<=x)(h2:x<=X)(h3:0<=y)(h4:y<=Y):0<=x*y/\x*y<=X*Y:=⟨Int.mul_nonneg h1 h3,Int.le_trans (Int.mul_le_mul_of_nonneg_right h2 h3) (Int.mul_le_mul_of_nonneg_left h4 (by omega))⟩
theorem tri_even(m:Int):m*(m+1)=2*(m*(m+1)/2):=by
 rcases Int.emod_two_eq m with h|h
 . obtain⟨k,rfl⟩:∃k,m=2*k:=⟨m/2,by omega⟩;have e:2*k*(2*k+1)=2*(k*(2*k+1)):=by grind
   omega
 . obtain⟨k,rfl⟩:∃k,m=2*k+1:=⟨m/2,by omega⟩;have e:(2*k+1)*(2*k+1+1)=2*((2*k+1)*(k+1)):=by grind
   omega
theorem qloss_max{J b:Int}(hJ:1<=J)(h:b<=65536):0<=qloss J b/\qloss J b<=4294967296:=by
 have h1:=qloss_m (J:=J) hJ h;have h2:=qloss_bd (J:=J) hJ 65536 (b:=65536) (by omega) (by omega);have h3:=qloss_nn hJ b;omega
theorem qd_bd{J b:Int}(hJ:2<=J)(h0:0<b)(h:b<=65536):0<=(b-1)/J/\(b-1)/J<=65536:=⟨Int.ediv_nonneg (by omega) (by omega),by have:=Int.ediv_le_self J (show 0<=b-1 by omega);omega⟩
end U
namespace Go.Proofs.YthkoabbiiadbjaaGreat
open Go Go.HL U
attribute [local irreducible] hfun bodyT fragT
theorem sQLoss:Sound Tryz.prog 59 SQLoss:=by
 refine sound_of (C:=CQLoss) [] Tryz.func59 (by kernel_rfl) (by decide+kernel) (by kernel_rfl) rfl trivial (loops0 (by kernel_rfl)) ?_;intro hargs pars R h;unfold SQLoss at h;split at h;case h_2=>exfalso;exact h
 rename_i A J Rp b;obtain⟨⟨⟨_,hJ,_⟩,hb⟩,hR⟩:=h;refine byVC (vcQLoss A J Rp b R) ⟨fun g=> ?_,fun g=>⟨fun g2=>by have:=odt g2;omega,fun g2=> ?_⟩⟩
 . rw[qloss_le (by omega) (by have:=odt g;omega)]at hR;exact hR
 . have g:=odf g;have m0:=qd_bd hJ.1 (by omega:0<b) hb;refine⟨by omega,fun x1 e1=>⟨by omega,?_⟩⟩;subst e1;rw[tdiv_pos (by omega)];have hq:qloss J b=(b-1)/J*b-J*((b-1)/J*((b-1)/J+1)/2):=by unfold qloss;rw[if_neg (by omega)]
   generalize(b-1)/J=m at*;refine⟨by omega,fun x2 e2=> ?_⟩;subst e2;have p1:=mulb m0.1 m0.2 (by omega:0<=b) hb;have p2:=mulb m0.1 m0.2 (by omega:0<=x2+1) (by omega:x2+1<=65537);have p3:=mulb (by omega:0<=J) hJ.2 (by omega:0<=x2*(x2+1)/2) (by omega:x2*(x2+1)/2<=4295032832);refine⟨by omega,fun x3 e3=>⟨by omega,fun x4 e4=> ?_⟩⟩;subst e4;refine⟨by omega,fun x5 e5=>⟨by decide,?_⟩⟩;subst e5;rw[tdiv_pos p2.1];refine⟨by omega,fun x6 e6=> ?_⟩;subst e6;refine⟨by omega,fun x7 e7=>⟨by omega,fun x8 e8=> ?_⟩⟩;rw[show x8=qloss J b by omega];exact hR
theorem sQLossR:Sound Tryz.prog 64 SQLoss:=by
 refine sound_of (C:=CQLossR) [] Tryz.func64 (by kernel_rfl) (by decide+kernel) (by kernel_rfl) rfl trivial (loops0 (by kernel_rfl)) ?_;intro hargs pars R h;unfold SQLoss at h;split at h;case h_2=>exfalso;exact h
 rename_i A J Rp b;obtain⟨⟨⟨_,hJ,_⟩,hb⟩,hR⟩:=h;refine byVC (vcQLossR A J Rp b R) ⟨fun g=> ?_,fun g=> ?_⟩
 . rw[qloss_le (by omega) (by have:=odt g;omega)]at hR;exact hR
 . have g:=odf g;have m0:=qd_bd hJ.1 (by omega:0<b) hb;refine⟨by omega,fun x1 e1=>⟨by omega,?_⟩⟩;subst e1;rw[tdiv_pos (by omega)];have hq:qloss J b=(b-1)/J*b-J*((b-1)/J*((b-1)/J+1)/2):=by unfold qloss;rw[if_neg (by omega)]
   generalize(b-1)/J=m at*;refine⟨by omega,fun x2 e2=> ?_⟩;subst e2;have p1:=mulb m0.1 m0.2 (by omega:0<=b) hb;have p2:=mulb m0.1 m0.2 (by omega:0<=x2+1) (by omega:x2+1<=65537);have p3:=mulb (by omega:0<=J) hJ.2 (by omega:0<=x2*(x2+1)/2) (by omega:x2*(x2+1)/2<=4295032832);have p4:=mulb (by omega:0<=J) hJ.2 m0.1 m0.2;have e:∀t,x2*(x2+1)=2*t->J*x2*(x2+1)=2*(J*t):=fun t ht=>by rw[Int.mul_assoc,ht,Int.mul_left_comm]
   have e2:=e _ (tri_even x2);refine⟨by omega,fun x3 e3=>⟨by omega,fun x4 e4=>⟨by omega,fun x5 e5=> ?_⟩⟩⟩;subst e4 e5;refine⟨by omega,fun x6 e6=>⟨by decide,?_⟩⟩;subst e6;rw[tdiv_pos (by omega)];refine⟨by omega,fun x7 e7=>⟨by omega,fun x8 e8=> ?_⟩⟩;rw[show x8=qloss J b by omega];exact hR
theorem qr_fin{A J v a:Int}{R:Res->Prop}(hR:R ⟨.ce (.bool (qready A J v a)),false,[],[]⟩):∀b:Bool,(b=true↔(-A<=a/\a<=A/\(v=0->a<=J)/\qloss J (-a)<=v/\v<=16777216-qloss J a))->R ⟨.ce (.bool b),false,[],[]⟩:=fun b hb=>by
 rw[show b=qready A J v a from Bool.eq_iff_iff.mpr (hb.trans qready_iff.symm)];exact hR
theorem sQReady:Sound Tryz.prog 61 SQReady:=by
 refine sound_of (C:=CQReady) tabQReady Tryz.func61 (by kernel_rfl) (by decide+kernel) (by kernel_rfl) rfl ⟨sQLoss,trivial⟩ (loops0 (by kernel_rfl)) ?_;intro hargs pars R h;unfold SQReady at h;split at h;case h_2=>exfalso;exact h
 rename_i A J Rp v a;obtain⟨hp,hR⟩:=h;have hp':=hp;obtain⟨hA,hJ,_⟩:=hp;have fin:=qr_fin hR;have tail:∀x:Int,x=0-a-> -A<=a->a<=A->(v=0->a<=J)->(okPl A J Rp/\x<=65536)/\∀(x3:Int),x3=qloss J x->(decide (v>=x3)=true->(okPl A J Rp/\a<=65536)/\∀(x4:Int),x4=qloss J a->(-9223372036854775808<=16777216-x4/\16777216-x4<=9223372036854775807)/\∀(x5:Int),x5=16777216-x4->R ⟨.ce (.bool (decide (v<=x5))),false,[],[]⟩)/\(decide (v>=x3)=false->R ⟨.ce (.bool false),false,[],[]⟩):=by
  intro x ex c1 c2 c3;obtain rfl:x= -a:=by omega
  refine⟨⟨hp',by omega⟩,fun x3 e3=>⟨fun g=>⟨⟨hp',by omega⟩,fun x4 e4=> ?_⟩,fun g=>fin _ ⟨fun h=>(by cases h),fun c=>by have:=odf g;omega⟩⟩⟩;have:=odt g;have b:=qloss_max (J:=J) (b:=a) (by omega) (by omega);refine⟨by omega,fun x5 e5=>fin _ ⟨fun h=>by have:=odt h;exact⟨c1,c2,c3,by omega,by omega⟩,fun c=>decide_eq_true (by omega)⟩⟩
 refine byVC (vcQReady A J Rp v a R) ⟨by omega,fun x1 e1=>⟨fun g=>fin _ ⟨fun h=>(by cases h),fun c=>by have:=odt g;omega⟩,fun g=>⟨fun g2=>fin _ ⟨fun h=>(by cases h),fun c=>by have:=odt g2;omega⟩,fun g2=> ?_⟩⟩⟩;have g:=odf g;have g2:=odf g2;refine⟨fun g3=>⟨fun g4=>fin _ ⟨fun h=>(by cases h),fun c=>by have:=odt g4;have:=c.2.2.1 (by simpa using g3);omega⟩,fun g4=>⟨by omega,fun x2 e2=> ?_⟩⟩,fun g3=>⟨by omega,fun x6 e6=> ?_⟩⟩
 . have g4:=odf g4;exact tail x2 e2 (by omega) (by omega) (fun _=>by omega)
 . exact tail x6 e6 (by omega) (by omega) (fun e=>by simp[e]at g3)
theorem sQReadyR:Sound Tryz.prog 66 SQReady:=by
 refine sound_of (C:=CQReadyR) tabQReadyR Tryz.func66 (by kernel_rfl) (by decide+kernel) (by kernel_rfl) rfl ⟨sQLossR,trivial⟩ (loops0 (by kernel_rfl)) ?_;intro hargs pars R h;unfold SQReady at h;split at h;case h_2=>exfalso;exact h
 rename_i A J Rp v a;obtain⟨hp,hR⟩:=h;have hp':=hp;obtain⟨hA,hJ,_⟩:=hp;have fin:=qr_fin hR;refine byVC (vcQReadyR A J Rp v a R) ⟨by omega,fun x1 e1=>⟨fun g=>⟨fun g2=>⟨by have:=odt g;have:=odt g2;omega,fun x2 e2=> ?_⟩,fun g2=>fin _ ⟨fun h=>(by cases h),fun c=>by have:=odf g2;omega⟩⟩,fun g=>fin _ ⟨fun h=>(by cases h),fun c=>by have:=odf g;omega⟩⟩⟩;have g:=odt g;have g2:=odt g2;obtain rfl:x2= -a:=by omega
 refine⟨⟨hp',by omega⟩,fun x3 e3=>⟨fun g3=>⟨⟨hp',by omega⟩,fun x4 e4=> ?_⟩,fun g3=>fin _ ⟨fun h=>(by cases h),fun c=>by have:=odf g3;omega⟩⟩⟩;have g3:=odt g3;have b:=qloss_max (J:=J) (b:=a) (by omega) (by omega);refine⟨by omega,fun x5 e5=>⟨fun g4=>⟨fun g5=>fin _ ⟨fun _=> ?_,fun _=>rfl⟩,fun g5=>fin _ ⟨fun h=> ?_,fun c=>decide_eq_true (c.2.2.1 (by simpa using g5))⟩⟩,fun g4=>fin _ ⟨fun h=>(by cases h),fun c=>by have:=odf g4;omega⟩⟩⟩
 . have g4:=odt g4;exact⟨by omega,by omega,fun e=>by simp[e]at g5,by omega,by omega⟩
 . have g4:=odt g4;have h:=odt h;exact⟨by omega,by omega,fun _=>h,by omega,by omega⟩
theorem sQValid:Sound Tryz.prog 58 SQValid:=by
 refine sound_of (C:=CQValid) [] Tryz.func58 (by kernel_rfl) (by decide+kernel) (by kernel_rfl) rfl trivial (loops0 (by kernel_rfl)) ?_;intro hargs pars R h;unfold SQValid at h;split at h;case h_2=>exfalso;exact h
 rename_i A J Rp;obtain⟨_,_,hR⟩:=h;refine byVC (vcQValid A J Rp R) ⟨fun g1=>⟨fun g2=>⟨fun g3=>⟨fun g4=>⟨fun g5=>hR _ ⟨fun h=> ?_,fun c=>decide_eq_true c.2.2.2⟩,fun g=> ?_⟩,fun g=> ?_⟩,fun g=> ?_⟩,fun g=> ?_⟩,fun g=> ?_⟩
 . have h1:=odt g1;have h2:=odt g2;have h3:=odt g3;have h4:=odt g4;have h5:=odt g5;have h6:=odt h;exact⟨⟨h1,h2⟩,⟨h3,h4⟩,h5,h6⟩
 all_goals exact hR _ ⟨fun h=>(by cases h),fun⟨c1,c2,c3⟩=>by have:=odf g;omega⟩
theorem loopQB:∀v Q,(LQB v).wp Q->hloop CQB anQB (nthLoop Tryz.f29 0) v Q:=by
 intro v Q h;unfold LQB at h;split at h;case h_2=>exact h.elim
 rename_i v l h' A J Rp;obtain⟨⟨hp,hv,hl⟩,hq⟩:=h;refine hloop_rec (σ:=Int×Int) (fun s=>([.ce (I6 v), .ce (.ptr 1000003 0), .ce (I6 s.1), .ce (I6 s.2)],[[I6 A,I6 J,I6 Rp]])) (fun s=>(s.2-s.1).toNat) (fun s=> -2199023255552<=s.1/\s.2<=65536/\qbs J v (h'-l).toNat l h'=qbs J v (s.2-s.1).toNat s.1 s.2) ?_ (l,h') ⟨hl.1,hl.2,rfl⟩;rintro⟨lo,hi⟩⟨i1,i2,i3⟩K hn hx _;dsimp only at i1 i2 i3 hn⊢;refine byVB (vbQB v lo hi A J Rp K) ⟨fun g=> ?_,fun g=> ?_⟩
 . have g:=odt g;refine⟨by omega,fun x1 e1=>⟨by decide,?_⟩⟩;rw[tdiv_pos (by omega)];refine⟨by omega,fun x2 e2=>⟨by omega,fun x3 e3=>⟨by omega,fun x4 e4=>⟨⟨hp,by omega⟩,fun x5 e5=> ?_⟩⟩⟩⟩;have em:hi-(hi-lo)/2=x3:=by omega
   have key:qbs J v (hi-lo).toNat lo hi=if qloss J x3<=v-x3 then qbs J v (hi-x3).toNat x3 hi else qbs J v (x3-1-lo).toNat lo (x3-1):=by
    rw[show(hi-lo).toNat=(hi-lo).toNat-1+1 by omega,qbs,if_pos g,em];by_cases c:qloss J x3<=v-x3
    . rw[if_pos c,if_pos c,qbs_fuel ((hi-lo).toNat-1) (hi-x3).toNat (by omega) (by omega)]
    . rw[if_neg c,if_neg c,qbs_fuel ((hi-lo).toNat-1) (x3-1-lo).toNat (by omega) (by omega)]
   refine⟨fun g2=>hn (x3,hi) ⟨by dsimp only;omega,i2,?_⟩ (by dsimp only;omega),fun g2=>⟨by omega,fun x6 e6=>hn (lo,x6) ⟨i1,by dsimp only;omega,?_⟩ (by dsimp only;omega)⟩⟩
   . have g2:=odt g2;rw[i3,key,if_pos (by omega)]
   . have g2:=odf g2;rw[i3,key,if_neg (by omega),e6]
 . have g:=odf g;have:qbs J v (hi-lo).toNat lo hi=lo:=by
    rw[show(hi-lo).toNat=0 by omega];rfl
   rw[i3,this]at hq;exact hx 0 _ hq
theorem loopQBR:∀v Q,(LQB v).wp Q->hloop CQBR anQB (nthLoop Tryz.f34 0) v Q:=by
 intro v Q h;unfold LQB at h;split at h;case h_2=>exact h.elim
 rename_i v l h' A J Rp;obtain⟨⟨hp,hv,hl⟩,hq⟩:=h;refine hloop_rec (σ:=Int×Int) (fun s=>([.ce (I6 v), .ce (.ptr 1000003 0), .ce (I6 s.1), .ce (I6 s.2)],[[I6 A,I6 J,I6 Rp]])) (fun s=>(s.2-s.1).toNat) (fun s=> -2199023255552<=s.1/\s.2<=65536/\qbs J v (h'-l).toNat l h'=qbs J v (s.2-s.1).toNat s.1 s.2) ?_ (l,h') ⟨hl.1,hl.2,rfl⟩;rintro⟨lo,hi⟩⟨i1,i2,i3⟩K hn hx _;dsimp only at i1 i2 i3 hn⊢;refine byVB (vbQBR v lo hi A J Rp K) ⟨fun g=> ?_,fun g=> ?_⟩
 . have g:=odt g;refine⟨by omega,fun x1 e1=>⟨by omega,fun x1' e1'=>⟨by decide,?_⟩⟩⟩;rw[tdiv_pos (by omega)];refine⟨by omega,fun x2 e2=>⟨by omega,fun x3 e3=>⟨by omega,fun x4 e4=>⟨⟨hp,by omega⟩,fun x5 e5=> ?_⟩⟩⟩⟩;have em:hi-(hi-lo)/2=x3:=by omega
   have key:qbs J v (hi-lo).toNat lo hi=if qloss J x3<=v-x3 then qbs J v (hi-x3).toNat x3 hi else qbs J v (x3-1-lo).toNat lo (x3-1):=by
    rw[show(hi-lo).toNat=(hi-lo).toNat-1+1 by omega,qbs,if_pos g,em];by_cases c:qloss J x3<=v-x3
    . rw[if_pos c,if_pos c,qbs_fuel ((hi-lo).toNat-1) (hi-x3).toNat (by omega) (by omega)]
    . rw[if_neg c,if_neg c,qbs_fuel ((hi-lo).toNat-1) (x3-1-lo).toNat (by omega) (by omega)]
   refine⟨fun g2=>hn (x3,hi) ⟨by dsimp only;omega,i2,?_⟩ (by dsimp only;omega),fun g2=>⟨by omega,fun x6 e6=>hn (lo,x6) ⟨i1,by dsimp only;omega,?_⟩ (by dsimp only;omega)⟩⟩
   . have g2:=odt g2;rw[i3,key,if_pos (by omega)]
   . have g2:=odf g2;rw[i3,key,if_neg (by omega),e6]
 . have g:=odf g;have:qbs J v (hi-lo).toNat lo hi=lo:=by
    rw[show(hi-lo).toNat=0 by omega];rfl
   rw[i3,this]at hq;exact hx 0 _ hq
theorem qb_le{J v:Int}:∀(n:Nat){l h:Int},l<=qbs J v n l h/\qbs J v n l h<=max l h:=by
 intro n;induction n with
 |zero=>intro l h;unfold qbs;omega
 |succ n ih=>
  intro l h;unfold qbs;by_cases g:l<h
  . rw[if_pos g];split
    . have:=ih (l:=h-(h-l)/2) (h:=h);omega
    . have:=ih (l:=l) (h:=h-(h-l)/2-1);omega
  . rw[if_neg g];omega
theorem sQBrake:Sound Tryz.prog 29 SQBrake:=by
 refine sound_of (C:=CQB) tabQB Tryz.func29 (by kernel_rfl) (by decide+kernel) (by kernel_rfl) rfl ⟨sQValid,sQLoss,trivial⟩ (loops1 (by kernel_rfl) (loopOK_of (an:=anQB) (S:=LQB) (by kernel_rfl) loopQB)) ?_;intro hargs pars R h;unfold SQBrake at h;split at h;case h_2=>exfalso;exact h
 rename_i A J Rp v a;obtain⟨⟨hp,hv,ha⟩,hR⟩:=h;have hp':=hp;obtain⟨hA,hJ,_⟩:=hp;refine byVC (vcQB A J Rp v a R) ⟨trivial,⟨true,by simpa using hp'⟩,fun x hx=>⟨fun g=> ?_,fun _=>fun x2 e2=>⟨fun g=>by have:=odt g;omega,fun g=>fun x3 e3=>⟨fun g=>by have:=odt g;omega,fun g=>⟨by omega,fun x4 e4=>⟨by omega,fun x5 e5=>⟨by omega,fun x6 e6=>fun x7 e7=>⟨⟨hp',hv,by omega,by omega⟩,?_⟩⟩⟩⟩⟩⟩⟩⟩
 . rw[hx.2 hp']at g;cases g
 . have e:qbrk A J v a= -(qbs J v (x7-x5).toNat x5 x7):=by
    unfold qbrk qhi;rw[show-a-J=x5 by omega,show min (J-a) A=x7 by omega]
   have b:=qb_le (J:=J) (v:=v) (x7-x5).toNat (l:=x5) (h:=x7);refine⟨by omega,fun x8 e8=> ?_⟩;rw[show x8=qbrk A J v a by omega];exact hR
theorem sQBrakeR:Sound Tryz.prog 34 SQBrake:=by
 refine sound_of (C:=CQBR) tabQReadyR Tryz.func34 (by kernel_rfl) (by decide+kernel) (by kernel_rfl) rfl ⟨sQLossR,trivial⟩ (loops1 (by kernel_rfl) (loopOK_of (an:=anQB) (S:=LQB) (by kernel_rfl) loopQBR)) ?_;intro hargs pars R h;unfold SQBrake at h;split at h;case h_2=>exfalso;exact h
 rename_i A J Rp v a;obtain⟨⟨hp,hv,ha⟩,hR⟩:=h;have hp':=hp;obtain⟨hA,hJ,_⟩:=hp;refine byVC (vcQBR A J Rp v a R) ⟨by omega,fun x4 e4=>⟨by omega,fun x5 e5=>⟨by omega,fun x6 e6=>⟨by omega,fun x6' e6'=>fun x7 e7=>⟨⟨hp',hv,by omega,by omega⟩,?_⟩⟩⟩⟩⟩;have e:qbrk A J v a= -(qbs J v (x7-x5).toNat x5 x7):=by
  unfold qbrk qhi;rw[show-a-J=x5 by omega,show min (J-a) A=x7 by omega]
 have b:=qb_le (J:=J) (v:=v) (x7-x5).toNat (l:=x5) (h:=x7);refine⟨by omega,fun x8 e8=> ?_⟩;rw[show x8=qbrk A J v a by omega];exact hR
theorem qst_k{A J v a:Int}{n:Nat}(hv:0<v):qst A J (n+1) v a=[v+qbrk A J v a]::qst A J n (v+qbrk A J v a) (qbrk A J v a)/\qsok A J (n+1) v a=qsok A J n (v+qbrk A J v a) (qbrk A J v a):=by
 exact⟨by rw[qst,if_pos hv],by rw[qsok,if_pos hv]⟩
theorem loopQS:∀v Q,(LQS v).wp Q->hloop CQS anQS (nthLoop Tryz.f75 0) v Q:=by
 intro v Q h;unfold LQS at h;split at h;case h_2=>exact h.elim
 rename_i v a z y l A J Rp;obtain⟨⟨hp,hr,h0⟩,hq1,hq2⟩:=h;obtain rfl:=List.eq_nil_of_length_eq_zero h0;have hA:1<=A:=hp.1.1;have hJ:1<=J:=by have:=hp.2.1.1;omega
 have hA2:=hp.1.2;refine hloop_rec (σ:=Int×Int×LL) (fun s=>([.ce (I6 s.1), .ce (I6 s.2.1), .ce (.ptr 1000003 0), .ce (.sl false [4] z), .ce (.bool y), .ce (.sl false [4] s.2.2), .ce (.lit true)],[[I6 A,I6 J,I6 Rp]])) (fun s=>4097-s.2.2.length) (fun s=>s.2.2.length<=4096/\qready A J s.1 s.2.1=true/\qst A J 4096 v a=s.2.2++qst A J (4096-s.2.2.length) s.1 s.2.1/\qsok A J 4096 v a=qsok A J (4096-s.2.2.length) s.1 s.2.1) ?_ (v,a,[]) ⟨Nat.zero_le _,hr,rfl,rfl⟩;rintro⟨v',a',l⟩⟨i1,i2,i3,i4⟩K hn hx hy;dsimp only at i1 i2 i3 i4 hn⊢;have hv:=qready_v hJ i2;have ha:=qready_iff.mp i2;refine byVB (vbQS v' a' A J Rp y z l K) ⟨fun g=>⟨fun g2=> ?_,fun g2=> ?_⟩,fun g=> ?_⟩
 . have g:=odt g;have g2:(l.length:Int)=4096:=by simpa using g2
   rw[show 4096-l.length=0 by omega]at i3 i4;have hf:qsok A J 4096 v a=false:=by rw[i4];simp[qsok];omega
   have:=hq2 hf;rw[i3]at this;simp only[qst,List.append_nil]at this;exact hy _ this
 . have g:=odt g;have g2:(l.length:Int)≠4096:=by simpa using g2
   refine⟨⟨hp,by omega,by omega⟩,fun x1 e1=> ?_⟩;have hr':=qbrk_ready hA hJ i2;rw[<-e1]at hr';have hv':=qready_v hJ hr';refine⟨by omega,fun x2 e2=>⟨⟨by omega,by unfold maxLen;omega⟩,hn (x2,x1,l++[[x2]]) ⟨by simp;omega,by rw[e2];exact hr',?_,?_⟩ (by simp;omega)⟩⟩
   . dsimp only;rw[i3,show 4096-l.length=4096-(l++[[x2]]).length+1 by simp;omega,(qst_k g).1,<-e1,<-e2];simp
   . dsimp only;rw[i4,show 4096-l.length=4096-(l++[[x2]]).length+1 by simp;omega,(qst_k g).2,<-e1,<-e2]
 . have g:=odf g;have e:=qst_nil (A:=A) (J:=J) (a:=a') (n:=4096-l.length) g;rw[e.1,List.append_nil]at i3;rw[e.2]at i4;have:=hq1 i4;rw[i3]at this;exact hx 0 _ this
theorem loopQSR:∀v Q,(LQSR v).wp Q->hloop CQSR anQS (nthLoop Tryz.f79 0) v Q:=by
 intro v Q h;unfold LQSR at h;split at h;case h_2=>exact h.elim
 rename_i v a z y l A J Rp;obtain⟨⟨hp,hr,h0⟩,hq1,hq2⟩:=h;obtain rfl:=List.eq_nil_of_length_eq_zero h0;have hA:1<=A:=hp.1.1;have hJ:1<=J:=by have:=hp.2.1.1;omega
 have hA2:=hp.1.2;refine hloop_rec (σ:=Int×Int×LL) (fun s=>([.ce (I6 s.1), .ce (I6 s.2.1), .ce (.ptr 1000003 0), .ce (.sl false [4] z), .ce (.bool y), .ce (.sl false [4] s.2.2), .ce (.lit true)],[[I6 A,I6 J,I6 Rp]])) (fun s=>4097-s.2.2.length) (fun s=>s.2.2.length<=4096/\qready A J s.1 s.2.1=true/\qst A J 4097 v a=s.2.2++qst A J (4096-s.2.2.length+1) s.1 s.2.1/\qst A J 4096 v a=s.2.2++qst A J (4096-s.2.2.length) s.1 s.2.1/\qsok A J 4096 v a=qsok A J (4096-s.2.2.length) s.1 s.2.1) ?_ (v,a,[]) ⟨Nat.zero_le _,hr,rfl,rfl,rfl⟩;rintro⟨v',a',l⟩⟨i1,i2,i0,i3,i4⟩K hn hx hy;dsimp only at i1 i2 i0 i3 i4 hn⊢;have hv:=qready_v hJ i2;have ha:=qready_iff.mp i2;refine byVB (vbQSR v' a' A J Rp y z l K) ⟨fun g=> ?_,fun g=> ?_⟩
 . have g:=odt g;refine⟨⟨hp,by omega,by omega⟩,fun x1 e1=> ?_⟩;have hr':=qbrk_ready hA hJ i2;rw[<-e1]at hr';have hv':=qready_v hJ hr';refine⟨by omega,fun x2 e2=>⟨⟨by omega,by unfold maxLen;omega⟩,fun g2=> ?_,fun g2=> ?_⟩⟩
   . have g2:=odt g2;rw[List.length_append,List.length_singleton]at g2;have e:4096-l.length=0:=by omega
     rw[e]at i0 i4;rw[(qst_k g).1,<-e1,<-e2]at i0;have hf:qsok A J 4096 v a=false:=by rw[i4];simp[qsok];omega
     have:=hq2 hf;rw[i0]at this;simp only[qst]at this;exact hy _ this
   . have g2:=odf g2;rw[List.length_append,List.length_singleton]at g2;refine hn (x2,x1,l++[[x2]]) ⟨by simp;omega,by rw[e2];exact hr',?_,?_,?_⟩ (by simp;omega)
     . dsimp only;rw[i0,show 4096-l.length=4096-(l++[[x2]]).length+1 by simp;omega,(qst_k g).1,<-e1,<-e2];simp
     . dsimp only;rw[i3,show 4096-l.length=4096-(l++[[x2]]).length+1 by simp;omega,(qst_k g).1,<-e1,<-e2];simp
     . dsimp only;rw[i4,show 4096-l.length=4096-(l++[[x2]]).length+1 by simp;omega,(qst_k g).2,<-e1,<-e2]
 . have g:=odf g;have e:=qst_nil (A:=A) (J:=J) (a:=a') (n:=4096-l.length) g;rw[e.1,List.append_nil]at i3;rw[e.2]at i4;have:=hq1 i4;rw[i3]at this;exact hx 0 _ this
theorem qsp_no{A J v a:Int}(h:qfok A J v a=false):(qsp A J v a,qfok A J v a)=([],false):=by unfold qsp;rw[h];rfl
theorem qsp_yes{A J v a:Int}(h:qfok A J v a=true):(qsp A J v a,qfok A J v a)=(qst A J 4096 v a,true):=by unfold qsp;rw[h];rfl
theorem sQStop:Sound Tryz.prog 75 SQStop:=by
 refine sound_of (C:=CQS) tabQS Tryz.func75 (by kernel_rfl) (by decide+kernel) (by kernel_rfl) rfl ⟨sQValid,sQReady,sQBrake,trivial⟩ (loops1 (by kernel_rfl) (loopOK_of (an:=anQS) (S:=LQS) (by kernel_rfl) loopQS)) ?_;intro hargs pars R h;unfold SQStop at h;split at h;case h_2=>exfalso;exact h
 rename_i A J Rp v a;obtain⟨hp,_,hR⟩:=h;refine byVC (vcQS A J Rp v a R) ⟨trivial,⟨true,by simpa using hp⟩,fun x hx=>⟨fun g=> ?_,fun _=>⟨hp,fun x2 e2=>⟨fun g=> ?_,fun g=>⟨⟨hp,?_,rfl⟩,fun g2=> ?_,fun g2=> ?_⟩⟩⟩⟩⟩
 . rw[hx.2 hp]at g;cases g
 . exact hR ([],false) (qsp_no (by unfold qfok;rw[<-e2];cases x2<;>simp at g⊢)).symm
 . rw[<-e2];cases x2<;>simp at g⊢
 . exact hR (qst A J 4096 v a,true) (qsp_yes (by unfold qfok;rw[<-e2,g2];cases x2<;>simp at g⊢)).symm
 . exact hR ([],false) (qsp_no (by unfold qfok;rw[g2];simp)).symm
theorem sQStopR:Sound Tryz.prog 79 SQStop:=by
 refine sound_of (C:=CQSR) tabQSR Tryz.func79 (by kernel_rfl) (by decide+kernel) (by kernel_rfl) rfl ⟨sQReadyR,sQBrakeR,trivial⟩ (loops1 (by kernel_rfl) (loopOK_of (an:=anQS) (S:=LQSR) (by kernel_rfl) loopQSR)) ?_;intro hargs pars R h;unfold SQStop at h;split at h;case h_2=>exfalso;exact h
 rename_i A J Rp v a;obtain⟨hp,_,hR⟩:=h;refine byVC (vcQSR A J Rp v a R) ⟨hp,fun x2 e2=>⟨fun g=> ?_,fun g=>⟨⟨hp,?_,rfl⟩,fun g2=> ?_,fun g2=> ?_⟩⟩⟩
 . exact hR ([],false) (qsp_no (by unfold qfok;rw[<-e2];cases x2<;>simp at g⊢)).symm
 . rw[<-e2];cases x2<;>simp at g⊢
 . exact hR (qst A J 4096 v a,true) (qsp_yes (by unfold qfok;rw[<-e2,g2];cases x2<;>simp at g⊢)).symm
 . exact hR ([],false) (qsp_no (by unfold qfok;rw[g2];simp)).symm
end Go.Proofs.YthkoabbiiadbjaaGreat
namespace U
open Go
def Sm(B:Int)(l:LL):Prop:=∀j,j<l.length-> -B<=el l j/\el l j<=B
def dfN(l:LL)(n:Nat):LL:=(List.range n).map fun j=>[el l (j+1)-el l j]
def dfl(l:LL):LL:=dfN l (l.length-1)
def bdN(l:LL)(m:Int)(n:Nat):Bool:=allN n fun j=>decide (-m<=el l j/\el l j<=m)
def bdd(l:LL)(m:Int):Bool:=bdN l m l.length
def wth(sp ac je:Int)(l:LL):Bool:=bdd (dfl l) sp&&(bdd (dfl (dfl l)) ac&&bdd (dfl (dfl (dfl l))) je)
def colN(l:LL)(c n:Nat):LL:=(List.range n).map fun i=>[ec l i c]
def col(l:LL)(c:Nat):LL:=colN l c l.length
def Sm3(B:Int)(l:LL):Prop:=∀j,j<l.length->(-B<=ec l j 0/\ec l j 0<=B)/\(-B<=ec l j 1/\ec l j 1<=B)/\(-B<=ec l j 2/\ec l j 2<=B)
def okLi(sp ac je:Int):Prop:=(0<=sp/\sp<=1099511627776)/\(0<=ac/\ac<=1099511627776)/\(0<=je/\je<=1099511627776)
def wth3(s0 a0 j0 s1 a1 j1 s2 a2 j2:Int)(l:LL):Bool:=wth s0 a0 j0 (col l 0)&&(wth s1 a1 j1 (col l 1)&&wth s2 a2 j2 (col l 2))
def colP(l:LL)(c n i:Nat):LL:=colN l c i++List.replicate (n-i) [0]
end U
namespace Go.Proofs.YthkoabbiiadbjaaGreat
open Go Go.HL U
def SDf(hA:List HV)(pA:List (List HC)):SR:=match hA,pA with
 |[.ce (.sl false [4] l)],[]=> .all (l.length<=8192/\Sm 1152921504606846976 l) (LL) (fun x=>x=dfl l) (fun x=>⟨.ce (.sl false [4] x),true,[],[]⟩)
 |_,_=> .fail
def anDf:LAnn:=⟨[0,3,100003,4],[3,100003],[],false⟩
def LDf(v:LV):LR:=match v with
 |([.ce (.sl false [4] l), .ce (.sl false [4] acc), .ce (.lit true), .ce (.int .i64 k)],[])=> .det (acc.length=0/\k=1/\l.length<=8192/\Sm 1152921504606846976 l) (.exit 0) ([.ce (.sl false [4] (dfl l)), .ce (.lit true)],[])
 |_=> .fail
noncomputable def CDf:Ctx:=⟨Tryz.prog,gam [],Tryz.f134.ntmps,[(3,anDf,LDf)],[]⟩
theorem vbDf(l acc:LL)(k:Int)(K:HEx->LV->Prop):(nbodyT true CDf anDf (nthLoop Tryz.f134 0) (([.ce (.sl false [4] l), .ce (.sl false [4] acc), .ce (.lit true), .ce (I6 k)],[])) K)=(Br (k<(l.length:Int)) ((0<=k/\k<(l.length:Int))/\∀x1,x1=el l k.toNat->R6 (k-1)/\∀x2,x2=k-1->(0<=x2/\x2<(l.length:Int))/\∀x3,x3=el l x2.toNat->R6 (x1-x3)/\∀x4,x4=x1-x3->((acc.length+1)*8<=140737488355328/\acc.length+1<=maxLen)/\R6 (k+1)/\∀x5,x5=k+1->K .normal ([.ce (.sl false [4] l), .ce (.sl false [4] (acc++[[x4]])), .ce (.lit true), .ce (I6 x5)],[])) (K (.exit 0) ([.ce (.sl false [4] acc), .ce (.lit true)],[]))):=by kernel_rfl
theorem vcDf(l:LL)(Q:Res->Prop):(nfun true CDf Tryz.f134 (bodyOf Tryz.f134) [.ce (.sl false [4] l)] [] Q)=(((0:Nat)=0/\(1:Int)=1/\l.length<=8192/\Sm (1152921504606846976:Int) l)/\Q ⟨.ce (.sl false [4] (dfl l)),true,[],[]⟩):=by kernel_rfl
def SBd(hA:List HV)(pA:List (List HC)):SR:=match hA,pA with
 |[.ce (.sl false [4] l), .ce (.int .i64 m)],[]=> .det (l.length<=8192/\0<=m/\m<=1099511627776) ⟨.ce (.bool (bdd l m)),false,[],[]⟩
 |_,_=> .fail
def anBd:LAnn:=⟨[1,4,7,8,9],[4],[],false⟩
def LBd(v:LV):LR:=match v with
 |([.ce (.int .i64 m), .ce (.bool r), .ce (.sl false [4] l), .ce (.int .i64 n), .ce (.int .i64 k)],[])=> .alts (k=0/\n=(l.length:Int)/\l.length<=8192/\0<=m/\m<=1099511627776) [(bdd l m=true, .exit 0,([.ce (.bool r)],[])),(bdd l m=false, .ret,([.ce (.bool false)],[]))]
 |_=> .fail
noncomputable def CBd:Ctx:=⟨Tryz.prog,gam [],Tryz.f135.ntmps,[(2,anBd,LBd)],[]⟩
theorem vbBd(m n k:Int)(r:Bool)(l:LL)(K:HEx->LV->Prop):(nbodyT true CBd anBd (nthLoop Tryz.f135 0) (([.ce (I6 m), .ce (.bool r), .ce (.sl false [4] l), .ce (I6 n), .ce (I6 k)],[])) K)=(Br (k<n) ((0<=k/\k<(l.length:Int))/\∀x1,x1=el l k.toNat->Br (x1>m) (K .ret ([.ce (.bool false)],[])) (R6 (0-m)/\∀x2,x2=0-m->Br (x1<x2) (K .ret ([.ce (.bool false)],[])) (R6 (k+1)/\∀x3,x3=k+1->K .normal ([.ce (I6 m), .ce (.bool r), .ce (.sl false [4] l), .ce (I6 n), .ce (I6 x3)],[])))) (K (.exit 0) ([.ce (.bool r)],[]))):=by kernel_rfl
theorem vcBd(l:LL)(m:Int)(Q:Res->Prop):(nfun true CBd Tryz.f135 (bodyOf Tryz.f135) [.ce (.sl false [4] l), .ce (I6 m)] [] Q)=(((0:Int)=0/\(l.length:Int)=(l.length:Int)/\l.length<=8192/\0<=m/\m<=1099511627776)/\Bb (bdd l m) (Q ⟨.ce (.bool true),false,[],[]⟩) (Q ⟨.ce (.bool false),false,[],[]⟩)):=by kernel_rfl
def SWth(hA:List HV)(pA:List (List HC)):SR:=match hA,pA with
 |[.agg [.int .i64 sta, .int .i64 spa, .int .i64 aca, .int .i64 jea, .int .i64 loa, .int .i64 hia, .int .i64 bla, .int .i64 oga, .int .i64 sga, .sl false [4] pta], .ce (.sl false [4] l)],[]=> .det (l.length<=8192/\Sm 1125899906842624 l/\okLi spa aca jea) ⟨.ce (.bool (wth spa aca jea l)),false,[],[]⟩
 |_,_=> .fail
def tabWth:List (FuncId×HL.Spec):=[(134,SDf),(135,SBd)]
noncomputable def CWth:Ctx:=⟨Tryz.prog,gam tabWth,Tryz.f108.ntmps,[(4000002,unrT [1000002],fun _=> .fail)],[]⟩
theorem vcWth(sta spa aca jea loa hia bla oga sga:Int)(pta:LL)(l:LL)(Q:Res->Prop):(nfun true CWth Tryz.f108 (bodyOf Tryz.f108) [.agg [I6 sta,I6 spa,I6 aca,I6 jea,I6 loa,I6 hia,I6 bla,I6 oga,I6 sga, .sl false [4] pta], .ce (.sl false [4] l)] [] Q)=((l.length<=8192/\Sm (1152921504606846976:Int) l)/\(∃(x:LL),x=dfl l)/\∀(x:LL),x=dfl l->(x.length<=8192/\0<=spa/\spa<=1099511627776)/\∀(x2:Bool),x2=bdd x spa->Bb (!x2) (Q ⟨.ce (.bool false),false,[],[]⟩) ((x.length<=8192/\Sm (1152921504606846976:Int) x)/\(∃(x_1:LL),x_1=dfl x)/\∀(x_1:LL),x_1=dfl x->(x_1.length<=8192/\0<=aca/\aca<=1099511627776)/\∀(x4:Bool),x4=bdd x_1 aca->Bb (!x4) (Q ⟨.ce (.bool false),false,[],[]⟩) ((x_1.length<=8192/\Sm (1152921504606846976:Int) x_1)/\(∃(x:LL),x=dfl x_1)/\∀(x:LL),x=dfl x_1->(x.length<=8192/\0<=jea/\jea<=1099511627776)/\∀(x6:Bool),x6=bdd x jea->Bb (!x6) (Q ⟨.ce (.bool false),false,[],[]⟩) (Q ⟨.ce (.bool true),false,[],[]⟩)))):=by kernel_rfl
def SAll(hA:List HV)(pA:List (List HC)):SR:=match hA,pA with
 |[.agg ax, .ce (.sl false [4,4,4] l)],[]=>match ax with
  |[.int .i64 sta, .int .i64 spa, .int .i64 aca, .int .i64 jea, .int .i64 loa, .int .i64 hia, .int .i64 bla, .int .i64 oga, .int .i64 sga, .sl false [4] pta, .int .i64 stb, .int .i64 spb, .int .i64 acb, .int .i64 jeb, .int .i64 lob, .int .i64 hib, .int .i64 blb, .int .i64 ogb, .int .i64 sgb, .sl false [4] ptb, .int .i64 stc, .int .i64 spc, .int .i64 acc, .int .i64 jec, .int .i64 loc, .int .i64 hic, .int .i64 blc, .int .i64 ogc, .int .i64 sgc, .sl false [4] ptc]=> .det (l.length<=8192/\Sm3 1125899906842624 l/\okLi spa aca jea/\okLi spb acb jeb/\okLi spc acc jec) ⟨.ce (.bool (wth3 spa aca jea spb acb jeb spc acc jec l)),false,[],[]⟩
  |_=> .fail
 |_,_=> .fail
def anAll:LAnn:=⟨[1,2,4,5,6,8,15,16],[1,2,4,5,6,8],[1000002,1000013],fun s=>Nat.beq s 5||Nat.beq s 8⟩
def LAll(v:LV):LR:=match v with
 |([.ce (.sl false [4,4,4] l), .ce (.ptr 1000002 0), .ce (.bool r), .ce (.num .i64 j), .ce (.msl 1000013 n cap), .ce (.num .i64 j2), .ce (.int .i64 len), .ce (.int .i64 k)],[b,[.arr [4] rows d]])=>(match b with
  |[.int .i64 sta, .int .i64 spa, .int .i64 aca, .int .i64 jea, .int .i64 loa, .int .i64 hia, .int .i64 bla, .int .i64 oga, .int .i64 sga, .sl false [4] pta, .int .i64 stb, .int .i64 spb, .int .i64 acb, .int .i64 jeb, .int .i64 lob, .int .i64 hib, .int .i64 blb, .int .i64 ogb, .int .i64 sgb, .sl false [4] ptb, .int .i64 stc, .int .i64 spc, .int .i64 acc, .int .i64 jec, .int .i64 loc, .int .i64 hic, .int .i64 blc, .int .i64 ogc, .int .i64 sgc, .sl false [4] ptc]=> .det ((0<=j/\j<=2)/\rows=List.replicate l.length [0]/\n=l.length/\len=l.length/\k=0/\l.length<=8192) (.exit 2) ([.ce (.sl false [4,4,4] l), .ce (.ptr 1000002 0), .ce (.bool r), .ce (.num .i64 j), .ce (.msl 1000013 n cap), .ce (.num .i64 j2)],[[I6 sta,I6 spa,I6 aca,I6 jea,I6 loa,I6 hia,I6 bla,I6 oga,I6 sga, .sl false [4] pta,I6 stb,I6 spb,I6 acb,I6 jeb,I6 lob,I6 hib,I6 blb,I6 ogb,I6 sgb, .sl false [4] ptb,I6 stc,I6 spc,I6 acc,I6 jec,I6 loc,I6 hic,I6 blc,I6 ogc,I6 sgc, .sl false [4] ptc],[.arr [4] (col l j.toNat) d]])
  |_=> .fail)
 |_=> .fail
def tabAll:List (FuncId×HL.Spec):=[(108,SWth)]
noncomputable def CAll:Ctx:=⟨Tryz.prog,gam tabAll,Tryz.f78.ntmps,[(4000002,unrT [1000002],fun _=> .fail),(6,anAll,LAll)],[32]⟩
theorem vbAll0(l rows:LL)(r:Bool)(j2 len k:Int)(n cap d:Nat)(sta spa aca jea loa hia bla oga sga stb spb acb jeb lob hib blb ogb sgb stc spc acc jec loc hic blc ogc sgc:Int)(pta ptb ptc:LL)(K:HEx->LV->Prop):(nbodyT true CAll anAll (nthLoop Tryz.f78 1) (([.ce (.sl false [4,4,4] l), .ce (.ptr 1000002 0), .ce (.bool r), .ce (.num .i64 0), .ce (.msl 1000013 n cap), .ce (.num .i64 j2), .ce (I6 len), .ce (I6 k)],[[I6 sta,I6 spa,I6 aca,I6 jea,I6 loa,I6 hia,I6 bla,I6 oga,I6 sga, .sl false [4] pta,I6 stb,I6 spb,I6 acb,I6 jeb,I6 lob,I6 hib,I6 blb,I6 ogb,I6 sgb, .sl false [4] ptb,I6 stc,I6 spc,I6 acc,I6 jec,I6 loc,I6 hic,I6 blc,I6 ogc,I6 sgc, .sl false [4] ptc],[.arr [4] rows d]])) K)=(Br (k<len) ((0<=k/\k<(l.length:Int))/\∀x1,x1=el l k.toNat->(0<=k/\k<((n:Nat):Int))/\k.toNat<rows.length/\R6 (k+1)/\∀x2,x2=k+1->K .normal ([.ce (.sl false [4,4,4] l), .ce (.ptr 1000002 0), .ce (.bool r), .ce (.num .i64 0), .ce (.msl (1000013:Nat) n cap), .ce (.num .i64 j2), .ce (I6 len), .ce (I6 x2)],[[I6 sta,I6 spa,I6 aca,I6 jea,I6 loa,I6 hia,I6 bla,I6 oga,I6 sga, .sl false [4] pta,I6 stb,I6 spb,I6 acb,I6 jeb,I6 lob,I6 hib,I6 blb,I6 ogb,I6 sgb, .sl false [4] ptb,I6 stc,I6 spc,I6 acc,I6 jec,I6 loc,I6 hic,I6 blc,I6 ogc,I6 sgc, .sl false [4] ptc],[.arr [4] (List.set rows k.toNat [bif true&&true then x1 else el rows k.toNat]) d]])) (K (.exit 2) ([.ce (.sl false [4,4,4] l), .ce (.ptr 1000002 0), .ce (.bool r), .ce (.num .i64 0), .ce (.msl (1000013:Nat) n cap), .ce (.num .i64 j2)],[[I6 sta,I6 spa,I6 aca,I6 jea,I6 loa,I6 hia,I6 bla,I6 oga,I6 sga, .sl false [4] pta,I6 stb,I6 spb,I6 acb,I6 jeb,I6 lob,I6 hib,I6 blb,I6 ogb,I6 sgb, .sl false [4] ptb,I6 stc,I6 spc,I6 acc,I6 jec,I6 loc,I6 hic,I6 blc,I6 ogc,I6 sgc, .sl false [4] ptc],[.arr [4] rows d]]))):=by kernel_rfl
theorem vbAll1(l rows:LL)(r:Bool)(j2 len k:Int)(n cap d:Nat)(sta spa aca jea loa hia bla oga sga stb spb acb jeb lob hib blb ogb sgb stc spc acc jec loc hic blc ogc sgc:Int)(pta ptb ptc:LL)(K:HEx->LV->Prop):(nbodyT true CAll anAll (nthLoop Tryz.f78 1) (([.ce (.sl false [4,4,4] l), .ce (.ptr 1000002 0), .ce (.bool r), .ce (.num .i64 1), .ce (.msl 1000013 n cap), .ce (.num .i64 j2), .ce (I6 len), .ce (I6 k)],[[I6 sta,I6 spa,I6 aca,I6 jea,I6 loa,I6 hia,I6 bla,I6 oga,I6 sga, .sl false [4] pta,I6 stb,I6 spb,I6 acb,I6 jeb,I6 lob,I6 hib,I6 blb,I6 ogb,I6 sgb, .sl false [4] ptb,I6 stc,I6 spc,I6 acc,I6 jec,I6 loc,I6 hic,I6 blc,I6 ogc,I6 sgc, .sl false [4] ptc],[.arr [4] rows d]])) K)=(Br (k<len) ((0<=k/\k<(l.length:Int))/\∀x1,x1=ec l k.toNat 1->(0<=k/\k<((n:Nat):Int))/\k.toNat<rows.length/\R6 (k+1)/\∀x2,x2=k+1->K .normal ([.ce (.sl false [4,4,4] l), .ce (.ptr 1000002 0), .ce (.bool r), .ce (.num .i64 1), .ce (.msl (1000013:Nat) n cap), .ce (.num .i64 j2), .ce (I6 len), .ce (I6 x2)],[[I6 sta,I6 spa,I6 aca,I6 jea,I6 loa,I6 hia,I6 bla,I6 oga,I6 sga, .sl false [4] pta,I6 stb,I6 spb,I6 acb,I6 jeb,I6 lob,I6 hib,I6 blb,I6 ogb,I6 sgb, .sl false [4] ptb,I6 stc,I6 spc,I6 acc,I6 jec,I6 loc,I6 hic,I6 blc,I6 ogc,I6 sgc, .sl false [4] ptc],[.arr [4] (List.set rows k.toNat [bif true&&true then x1 else el rows k.toNat]) d]])) (K (.exit 2) ([.ce (.sl false [4,4,4] l), .ce (.ptr 1000002 0), .ce (.bool r), .ce (.num .i64 1), .ce (.msl (1000013:Nat) n cap), .ce (.num .i64 j2)],[[I6 sta,I6 spa,I6 aca,I6 jea,I6 loa,I6 hia,I6 bla,I6 oga,I6 sga, .sl false [4] pta,I6 stb,I6 spb,I6 acb,I6 jeb,I6 lob,I6 hib,I6 blb,I6 ogb,I6 sgb, .sl false [4] ptb,I6 stc,I6 spc,I6 acc,I6 jec,I6 loc,I6 hic,I6 blc,I6 ogc,I6 sgc, .sl false [4] ptc],[.arr [4] rows d]]))):=by kernel_rfl
theorem vbAll2(l rows:LL)(r:Bool)(j2 len k:Int)(n cap d:Nat)(sta spa aca jea loa hia bla oga sga stb spb acb jeb lob hib blb ogb sgb stc spc acc jec loc hic blc ogc sgc:Int)(pta ptb ptc:LL)(K:HEx->LV->Prop):(nbodyT true CAll anAll (nthLoop Tryz.f78 1) (([.ce (.sl false [4,4,4] l), .ce (.ptr 1000002 0), .ce (.bool r), .ce (.num .i64 2), .ce (.msl 1000013 n cap), .ce (.num .i64 j2), .ce (I6 len), .ce (I6 k)],[[I6 sta,I6 spa,I6 aca,I6 jea,I6 loa,I6 hia,I6 bla,I6 oga,I6 sga, .sl false [4] pta,I6 stb,I6 spb,I6 acb,I6 jeb,I6 lob,I6 hib,I6 blb,I6 ogb,I6 sgb, .sl false [4] ptb,I6 stc,I6 spc,I6 acc,I6 jec,I6 loc,I6 hic,I6 blc,I6 ogc,I6 sgc, .sl false [4] ptc],[.arr [4] rows d]])) K)=(Br (k<len) ((0<=k/\k<(l.length:Int))/\∀x1,x1=ec l k.toNat 2->(0<=k/\k<((n:Nat):Int))/\k.toNat<rows.length/\R6 (k+1)/\∀x2,x2=k+1->K .normal ([.ce (.sl false [4,4,4] l), .ce (.ptr 1000002 0), .ce (.bool r), .ce (.num .i64 2), .ce (.msl (1000013:Nat) n cap), .ce (.num .i64 j2), .ce (I6 len), .ce (I6 x2)],[[I6 sta,I6 spa,I6 aca,I6 jea,I6 loa,I6 hia,I6 bla,I6 oga,I6 sga, .sl false [4] pta,I6 stb,I6 spb,I6 acb,I6 jeb,I6 lob,I6 hib,I6 blb,I6 ogb,I6 sgb, .sl false [4] ptb,I6 stc,I6 spc,I6 acc,I6 jec,I6 loc,I6 hic,I6 blc,I6 ogc,I6 sgc, .sl false [4] ptc],[.arr [4] (List.set rows k.toNat [bif true&&true then x1 else el rows k.toNat]) d]])) (K (.exit 2) ([.ce (.sl false [4,4,4] l), .ce (.ptr 1000002 0), .ce (.bool r), .ce (.num .i64 2), .ce (.msl (1000013:Nat) n cap), .ce (.num .i64 j2)],[[I6 sta,I6 spa,I6 aca,I6 jea,I6 loa,I6 hia,I6 bla,I6 oga,I6 sga, .sl false [4] pta,I6 stb,I6 spb,I6 acb,I6 jeb,I6 lob,I6 hib,I6 blb,I6 ogb,I6 sgb, .sl false [4] ptb,I6 stc,I6 spc,I6 acc,I6 jec,I6 loc,I6 hic,I6 blc,I6 ogc,I6 sgc, .sl false [4] ptc],[.arr [4] rows d]]))):=by kernel_rfl
theorem vcAll(l:LL)(sta spa aca jea loa hia bla oga sga stb spb acb jeb lob hib blb ogb sgb stc spc acc jec loc hic blc ogc sgc:Int)(pta ptb ptc:LL)(Q:Res->Prop):(nfun true CAll Tryz.f78 (bodyOf Tryz.f78) [.agg [I6 sta,I6 spa,I6 aca,I6 jea,I6 loa,I6 hia,I6 bla,I6 oga,I6 sga, .sl false [4] pta,I6 stb,I6 spb,I6 acb,I6 jeb,I6 lob,I6 hib,I6 blb,I6 ogb,I6 sgb, .sl false [4] ptb,I6 stc,I6 spc,I6 acc,I6 jec,I6 loc,I6 hic,I6 blc,I6 ogc,I6 sgc, .sl false [4] ptc], .ce (.sl false [4,4,4] l)] [] Q)=(((0:Int)<=(l.length:Int)/\(l.length:Int)=(l.length:Int)/\(l.length:Int)<=140737488355328/\(l.length:Int)*8<=140737488355328)/\(((0:Int)<=0/\(0:Int)<=2)/\List.replicate (Int.toNat (l.length:Int)) [(0:Int)]=List.replicate (l.length) [(0:Int)]/\Int.toNat (l.length:Int)=l.length/\(l.length:Int)=(l.length:Int)/\(0:Int)=0/\l.length<=8192)/\Int.toNat (l.length:Int)=List.length (col l (0:Nat))/\(List.length (col l (0:Nat))<=8192/\Sm (1125899906842624:Int) (col l (0:Nat))/\okLi spa aca jea)/\∀(x1:Bool),x1=wth spa aca jea (col l (0:Nat))->Bb (!x1) (Q ⟨.ce (.bool false),false,[],[]⟩) (((0:Int)<=(l.length:Int)/\(l.length:Int)=(l.length:Int)/\(l.length:Int)<=140737488355328/\(l.length:Int)*8<=140737488355328)/\(((0:Int)<=1/\(1:Int)<=2)/\List.replicate (Int.toNat (l.length:Int)) [(0:Int)]=List.replicate (l.length) [(0:Int)]/\Int.toNat (l.length:Int)=l.length/\(l.length:Int)=(l.length:Int)/\(0:Int)=0/\l.length<=8192)/\Int.toNat (l.length:Int)=List.length (col l (1:Nat))/\(List.length (col l (1:Nat))<=8192/\Sm (1125899906842624:Int) (col l (1:Nat))/\okLi spb acb jeb)/\∀(x2:Bool),x2=wth spb acb jeb (col l (1:Nat))->Bb (!x2) (Q ⟨.ce (.bool false),false,[],[]⟩) (((0:Int)<=(l.length:Int)/\(l.length:Int)=(l.length:Int)/\(l.length:Int)<=140737488355328/\(l.length:Int)*8<=140737488355328)/\(((0:Int)<=2/\(2:Int)<=2)/\List.replicate (Int.toNat (l.length:Int)) [(0:Int)]=List.replicate (l.length) [(0:Int)]/\Int.toNat (l.length:Int)=l.length/\(l.length:Int)=(l.length:Int)/\(0:Int)=0/\l.length<=8192)/\Int.toNat (l.length:Int)=List.length (col l (2:Nat))/\(List.length (col l (2:Nat))<=8192/\Sm (1125899906842624:Int) (col l (2:Nat))/\okLi spc acc jec)/\∀(x3:Bool),x3=wth spc acc jec (col l (2:Nat))->Bb (!x3) (Q ⟨.ce (.bool false),false,[],[]⟩) (Q ⟨.ce (.bool true),false,[],[]⟩)))):=by kernel_rfl
end Go.Proofs.YthkoabbiiadbjaaGreat
namespace U
theorem dfN_succ(l:LL)(n:Nat):dfN l (n+1)=dfN l n++[[el l (n+1)-el l n]]:=by
 unfold dfN;rw[List.range_succ,List.map_append];rfl
theorem dfN_len(l:LL)(n:Nat):(dfN l n).length=n:=by simp[dfN]
theorem dfl_len(l:LL):(dfl l).length=l.length-1:=dfN_len _ _
theorem el_dfN{l:LL}{n j:Nat}(h:j<n):el (dfN l n) j=el l (j+1)-el l j:=by
 unfold dfN el;simp[List.getD_eq_getElem?_getD,h]
theorem el_dfl{l:LL}{j:Nat}(h:j+1<l.length):el (dfl l) j=el l (j+1)-el l j:=el_dfN (by omega)
theorem Sm_dfl{B:Int}{l:LL}(h:Sm B l):Sm (2*B) (dfl l):=fun j hj=>by
 rw[dfl_len]at hj;rw[el_dfl (by omega)];have a:=h j (by omega);have b:=h (j+1) (by omega);omega
theorem Sm_mono{B C:Int}{l:LL}(hB:B<=C)(h:Sm B l):Sm C l:=fun j hj=>by have:=h j hj;omega
theorem col_len(l:LL)(c:Nat):(col l c).length=l.length:=by simp[col,colN]
theorem el_colN{l:LL}{c n j:Nat}(h:j<n):el (colN l c n) j=ec l j c:=by
 unfold colN el;simp[List.getD_eq_getElem?_getD,h]
theorem el_col{l:LL}{c j:Nat}(h:j<l.length):el (col l c) j=ec l j c:=el_colN h
theorem Sm_col{B:Int}{l:LL}(h:Sm3 B l):Sm B (col l 0)/\Sm B (col l 1)/\Sm B (col l 2):=by
 refine⟨fun j hj=> ?_,fun j hj=> ?_,fun j hj=> ?_⟩;all_goals
  rw[col_len]at hj;rw[el_col hj];have:=h j hj;omega
theorem colN_succ(l:LL)(c n:Nat):colN l c (n+1)=colN l c n++[[ec l n c]]:=by
 unfold colN;rw[List.range_succ,List.map_append];rfl
theorem colP_set{l:LL}{c n i:Nat}(h:i<n):(colP l c n i).set i [ec l i c]=colP l c n (i+1):=by
 unfold colP;have hl:(colN l c i).length=i:=by simp[colN]
 rw[List.set_append_right _ _ (by omega),hl,Nat.sub_self,show n-i=(n-(i+1))+1 by omega,List.replicate_succ,List.set_cons_zero,colN_succ];simp
theorem colP_len{l:LL}{c n i:Nat}(h:i<=n):(colP l c n i).length=n:=by simp[colP,colN];omega
theorem colP_all(l:LL)(c:Nat):colP l c l.length l.length=col l c:=by simp[colP,col]
theorem colP_none(l:LL)(c:Nat):colP l c l.length 0=List.replicate l.length [0]:=by simp[colP,colN]
end U
namespace Go.Proofs.YthkoabbiiadbjaaGreat
open Go Go.HL U
attribute [local irreducible] hfun bodyT fragT
theorem loopDf:∀v Q,(LDf v).wp Q->hloop CDf anDf (nthLoop Tryz.f134 0) v Q:=by
 intro v Q h;unfold LDf at h;split at h;case h_2=>exact h.elim
 rename_i l acc k;obtain⟨⟨h1,h2,h3,h4⟩,hq⟩:=h;subst h2;obtain rfl:acc=[]:=List.eq_nil_of_length_eq_zero h1;refine hloop_rec (σ:=Nat) (fun j=>([.ce (.sl false [4] l), .ce (.sl false [4] (dfN l j)), .ce (.lit true), .ce (I6 ((j:Int)+1))],[])) (fun j=>l.length-j) (fun j=>j<=l.length-1) ?_ 0 (Nat.zero_le _);intro j hj K hn he _;refine byVB (vbDf l (dfN l j) ((j:Int)+1) K) ⟨fun g=> ?_,fun g=> ?_⟩
 . have g:=odt g;refine⟨by omega,fun x1 e1=>⟨by omega,fun x2 e2=>⟨by omega,fun x3 e3=> ?_⟩⟩⟩;rw[show((j:Int)+1).toNat=j+1 by omega]at e1;rw[show x2.toNat=j by omega]at e3;have a:=h4 j (by omega);have b:=h4 (j+1) (by omega);refine⟨by omega,fun x4 e4=>⟨⟨by rw[dfN_len];omega,by rw[dfN_len];unfold maxLen;omega⟩,by omega,fun x5 e5=> ?_⟩⟩;have:=hn (j+1) (by omega) (by omega);rw[dfN_succ,show((j+1:Nat):Int)+1=x5 by omega,show el l (j+1)-el l j=x4 by omega]at this;exact this
 . have g:=odf g;refine he _ _ ?_;obtain rfl:j=l.length-1:=by omega
   exact hq
theorem sDf:Sound Tryz.prog 134 SDf:=by
 refine sound_of (C:=CDf) [] Tryz.func134 (by kernel_rfl) (by decide+kernel) (by kernel_rfl) rfl trivial (loops1 (by kernel_rfl) (loopOK_of (an:=anDf) (S:=LDf) (by kernel_rfl) loopDf)) ?_;intro hA pA R h;unfold SDf at h;split at h;case h_2=>exfalso;exact h
 rename_i l;obtain⟨hp,_,hR⟩:=h;exact byVC (vcDf l R) ⟨⟨rfl,rfl,hp⟩,hR _ rfl⟩
theorem loopBd:∀v Q,(LBd v).wp Q->hloop CBd anBd (nthLoop Tryz.f135 0) v Q:=by
 intro v Q h;unfold LBd at h;split at h;case h_2=>exact h.elim
 rename_i m r l n k;obtain⟨⟨h1,h2,h3,h4⟩,hq1,hq2⟩:=h;subst h1 h2;refine hloop_rec (σ:=Nat) (fun j=>([.ce (I6 m), .ce (.bool r), .ce (.sl false [4] l), .ce (I6 (l.length:Int)), .ce (I6 (j:Int))],[])) (fun j=>l.length-j) (fun j=>j<=l.length/\bdN l m j=true) ?_ 0 ⟨Nat.zero_le _,rfl⟩;intro j⟨hj,hp⟩K hn he hr;have bad:j<l.length->¬(-m<=el l j/\el l j<=m)->K .ret ([.ce (.bool false)],[]):=fun hlt hx=>hr _ (hq2 (allN_false hlt (decide_eq_false hx)));refine byVB (vbBd m l.length j r l K) ⟨fun g=>⟨by have:=odt g;omega,fun x1 e1=> ?_⟩,fun g=> ?_⟩
 . have g:=odt g;have e1:x1=el l j:=e1;refine⟨fun g2=>bad (by omega) (by have:=odt g2;omega),fun g2=>⟨by omega,fun x2 e2=>⟨fun g3=>bad (by omega) (by have:=odt g3;omega),fun g3=>⟨by omega,fun x3 e3=> ?_⟩⟩⟩⟩;have g2:=odf g2;have g3:=odf g3;have:=hn (j+1) ⟨by omega,by unfold bdN at hp⊢;rw[allN_succ,hp];simp;omega⟩ (by omega);rw[show((j+1:Nat):Int)=x3 by omega]at this;exact this
 . have g:=odf g;obtain rfl:j=l.length:=by omega
   exact he _ _ (hq1 hp)
theorem sBd:Sound Tryz.prog 135 SBd:=by
 refine sound_of (C:=CBd) [] Tryz.func135 (by kernel_rfl) (by decide+kernel) (by kernel_rfl) rfl trivial (loops1 (by kernel_rfl) (loopOK_of (an:=anBd) (S:=LBd) (by kernel_rfl) loopBd)) ?_;intro hA pA R h;unfold SBd at h;split at h;case h_2=>exfalso;exact h
 rename_i l m;obtain⟨hp,hR⟩:=h;exact byVC (vcBd l m R) ⟨⟨rfl,rfl,hp⟩,fun e=>by rw[e]at hR;exact hR,fun e=>by rw[e]at hR;exact hR⟩
theorem sWth:Sound Tryz.prog 108 SWth:=by
 refine sound_of (C:=CWth) tabWth Tryz.func108 (by kernel_rfl) (by decide+kernel) (by kernel_rfl) rfl ⟨sDf,sBd,trivial⟩ (loopsAll (by kernel_rfl)) ?_;intro hA pA R h;unfold SWth at h;split at h;case h_2=>exfalso;exact h
 rename_i sta spa aca jea loa hia bla oga sga pta l;obtain⟨⟨hl,hs,hli⟩,hR⟩:=h;have s1:=Sm_dfl hs;have s2:=Sm_dfl s1;refine byVC (vcWth sta spa aca jea loa hia bla oga sga pta l R) ⟨⟨hl,Sm_mono (by decide) hs⟩,⟨_,rfl⟩,fun x e=> ?_⟩;subst e;refine⟨⟨by rw[dfl_len];omega,hli.1⟩,fun x2 e2=>⟨fun g=> ?_,fun g=>⟨⟨by rw[dfl_len];omega,Sm_mono (by decide) s1⟩,⟨_,rfl⟩,fun y e=> ?_⟩⟩⟩
 . rw[show wth spa aca jea l=false by unfold wth;rw[<-e2];cases x2<;>simp at g⊢]at hR;exact hR
 subst e;refine⟨⟨by rw[dfl_len,dfl_len];omega,hli.2.1⟩,fun x4 e4=>⟨fun g4=> ?_,fun g4=>⟨⟨by rw[dfl_len,dfl_len];omega,Sm_mono (by decide) s2⟩,⟨_,rfl⟩,fun z e=> ?_⟩⟩⟩
 . rw[show wth spa aca jea l=false by unfold wth;rw[<-e4];cases x4<;>simp at g4⊢]at hR;exact hR
 subst e;have w:∀b:Bool,b=bdd (dfl (dfl (dfl l))) jea->wth spa aca jea l=b:=fun b hb=>by unfold wth;rw[<-e2,<-e4,<-hb];cases x2<;>cases x4<;>simp at g g4⊢
 refine⟨⟨by rw[dfl_len,dfl_len,dfl_len];omega,hli.2.2⟩,fun x6 e6=>⟨fun g6=> ?_,fun g6=> ?_⟩⟩
 . rw[w x6 e6]at hR;cases x6<;>simp at g6;exact hR
 . rw[w x6 e6]at hR;cases x6<;>simp at g6;exact hR
theorem loopAll:∀v Q,(LAll v).wp Q->hloop CAll anAll (nthLoop Tryz.f78 1) v Q:=by
 intro v Q h;unfold LAll at h;split at h;case h_2=>exact h.elim
 rename_i l r j n cap j2 len k b rows d;split at h;case h_2=>exact h.elim
 rename_i sta spa aca jea loa hia bla oga sga pta stb spb acb jeb lob hib blb ogb sgb ptb stc spc acc jec loc hic blc ogc sgc ptc;obtain⟨⟨h1,h2,h3,h4,h5,h6⟩,hq⟩:=h;subst h2 h3 h4 h5;have hj:j=0∨j=1∨j=2:=by omega
 rcases hj with rfl|rfl|rfl
 . rw[<-colP_none l 0];refine hloop_rec (σ:=Nat) (fun i=>([.ce (.sl false [4,4,4] l), .ce (.ptr 1000002 0), .ce (.bool r), .ce (.num .i64 0), .ce (.msl 1000013 l.length cap), .ce (.num .i64 j2), .ce (I6 (l.length:Int)), .ce (I6 (i:Int))],[[I6 sta,I6 spa,I6 aca,I6 jea,I6 loa,I6 hia,I6 bla,I6 oga,I6 sga, .sl false [4] pta,I6 stb,I6 spb,I6 acb,I6 jeb,I6 lob,I6 hib,I6 blb,I6 ogb,I6 sgb, .sl false [4] ptb,I6 stc,I6 spc,I6 acc,I6 jec,I6 loc,I6 hic,I6 blc,I6 ogc,I6 sgc, .sl false [4] ptc],[.arr [4] (colP l 0 l.length i) d]])) (fun i=>l.length-i) (fun i=>i<=l.length) ?_ 0 (Nat.zero_le _);intro i hi K hn he hr;refine byVB (vbAll0 l (colP l 0 l.length i) r j2 l.length i l.length cap d sta spa aca jea loa hia bla oga sga stb spb acb jeb lob hib blb ogb sgb stc spc acc jec loc hic blc ogc sgc pta ptb ptc K) ⟨fun c=> ?_,fun c=> ?_⟩
   . have c:=odt c;refine⟨by omega,fun x1 e1=>⟨by omega,by rw[colP_len hi];omega,by omega,fun x2 e2=> ?_⟩⟩;have g:=hn (i+1) (by omega) (by omega);rw[<-colP_set (by omega),show((i+1:Nat):Int)=x2 by omega]at g;rw[e1];exact g
   . have c:=odf c;obtain rfl:i=l.length:=by omega
     rw[colP_all];exact he _ _ hq
 . rw[<-colP_none l 1];refine hloop_rec (σ:=Nat) (fun i=>([.ce (.sl false [4,4,4] l), .ce (.ptr 1000002 0), .ce (.bool r), .ce (.num .i64 1), .ce (.msl 1000013 l.length cap), .ce (.num .i64 j2), .ce (I6 (l.length:Int)), .ce (I6 (i:Int))],[[I6 sta,I6 spa,I6 aca,I6 jea,I6 loa,I6 hia,I6 bla,I6 oga,I6 sga, .sl false [4] pta,I6 stb,I6 spb,I6 acb,I6 jeb,I6 lob,I6 hib,I6 blb,I6 ogb,I6 sgb, .sl false [4] ptb,I6 stc,I6 spc,I6 acc,I6 jec,I6 loc,I6 hic,I6 blc,I6 ogc,I6 sgc, .sl false [4] ptc],[.arr [4] (colP l 1 l.length i) d]])) (fun i=>l.length-i) (fun i=>i<=l.length) ?_ 0 (Nat.zero_le _);intro i hi K hn he hr;refine byVB (vbAll1 l (colP l 1 l.length i) r j2 l.length i l.length cap d sta spa aca jea loa hia bla oga sga stb spb acb jeb lob hib blb ogb sgb stc spc acc jec loc hic blc ogc sgc pta ptb ptc K) ⟨fun c=> ?_,fun c=> ?_⟩
   . have c:=odt c;refine⟨by omega,fun x1 e1=>⟨by omega,by rw[colP_len hi];omega,by omega,fun x2 e2=> ?_⟩⟩;have g:=hn (i+1) (by omega) (by omega);rw[<-colP_set (by omega),show((i+1:Nat):Int)=x2 by omega]at g;rw[e1];exact g
   . have c:=odf c;obtain rfl:i=l.length:=by omega
     rw[colP_all];exact he _ _ hq
 . rw[<-colP_none l 2];refine hloop_rec (σ:=Nat) (fun i=>([.ce (.sl false [4,4,4] l), .ce (.ptr 1000002 0), .ce (.bool r), .ce (.num .i64 2), .ce (.msl 1000013 l.length cap), .ce (.num .i64 j2), .ce (I6 (l.length:Int)), .ce (I6 (i:Int))],[[I6 sta,I6 spa,I6 aca,I6 jea,I6 loa,I6 hia,I6 bla,I6 oga,I6 sga, .sl false [4] pta,I6 stb,I6 spb,I6 acb,I6 jeb,I6 lob,I6 hib,I6 blb,I6 ogb,I6 sgb, .sl false [4] ptb,I6 stc,I6 spc,I6 acc,I6 jec,I6 loc,I6 hic,I6 blc,I6 ogc,I6 sgc, .sl false [4] ptc],[.arr [4] (colP l 2 l.length i) d]])) (fun i=>l.length-i) (fun i=>i<=l.length) ?_ 0 (Nat.zero_le _);intro i hi K hn he hr;refine byVB (vbAll2 l (colP l 2 l.length i) r j2 l.length i l.length cap d sta spa aca jea loa hia bla oga sga stb spb acb jeb lob hib blb ogb sgb stc spc acc jec loc hic blc ogc sgc pta ptb ptc K) ⟨fun c=> ?_,fun c=> ?_⟩
   . have c:=odt c;refine⟨by omega,fun x1 e1=>⟨by omega,by rw[colP_len hi];omega,by omega,fun x2 e2=> ?_⟩⟩;have g:=hn (i+1) (by omega) (by omega);rw[<-colP_set (by omega),show((i+1:Nat):Int)=x2 by omega]at g;rw[e1];exact g
   . have c:=odf c;obtain rfl:i=l.length:=by omega
     rw[colP_all];exact he _ _ hq
theorem sAll:Sound Tryz.prog 78 SAll:=by
 refine sound_of (C:=CAll) tabAll Tryz.func78 (by kernel_rfl) (by decide+kernel) (by kernel_rfl) rfl ⟨sWth,trivial⟩ (loopsK [nthLoop Tryz.f78 1] [] (by kernel_rfl) (by kernel_rfl) ⟨loopOK_of (an:=anAll) (S:=LAll) (by kernel_rfl) loopAll,trivial⟩ trivial) ?_;intro hA pA R h;unfold SAll at h;split at h;case h_2=>exfalso;exact h
 rename_i ax l;split at h;case h_2=>exact h.elim
 rename_i sta spa aca jea loa hia bla oga sga pta stb spb acb jeb lob hib blb ogb sgb ptb stc spc acc jec loc hic blc ogc sgc ptc;obtain⟨⟨hl,hs,h0,h1,h2⟩,hR⟩:=h;obtain⟨c0,c1,c2⟩:=Sm_col hs;have pre:∀(j:Int),0<=j->j<=2->(0<=j/\j<=2)/\List.replicate (Int.toNat (l.length:Int)) [(0:Int)]=List.replicate l.length [0]/\Int.toNat (l.length:Int)=l.length/\(l.length:Int)=(l.length:Int)/\(0:Int)=0/\l.length<=8192:=fun j a b=>⟨⟨a,b⟩,rfl,rfl,rfl,rfl,hl⟩;have ln:(0<=(l.length:Int)/\(l.length:Int)=(l.length:Int)/\(l.length:Int)<=140737488355328/\(l.length:Int)*8<=140737488355328):=by omega
 refine byVC (vcAll l sta spa aca jea loa hia bla oga sga stb spb acb jeb lob hib blb ogb sgb stc spc acc jec loc hic blc ogc sgc pta ptb ptc R) ⟨ln,pre 0 (by decide) (by decide),by rw[col_len];rfl,⟨by rw[col_len];exact hl,c0,h0⟩,fun x1 e1=>⟨fun g=> ?_,fun g=>⟨ln,pre 1 (by decide) (by decide),by rw[col_len];rfl,⟨by rw[col_len];exact hl,c1,h1⟩,fun x2 e2=>⟨fun g2=> ?_,fun g2=>⟨ln,pre 2 (by decide) (by decide),by rw[col_len];rfl,⟨by rw[col_len];exact hl,c2,h2⟩,fun x3 e3=> ?_⟩⟩⟩⟩⟩
 . rw[show wth3 spa aca jea spb acb jeb spc acc jec l=false by unfold wth3;rw[<-e1];cases x1<;>simp at g⊢]at hR;exact hR
 . rw[show wth3 spa aca jea spb acb jeb spc acc jec l=false by unfold wth3;rw[<-e2];cases x2<;>simp at g2⊢]at hR;exact hR
 . have w:wth3 spa aca jea spb acb jeb spc acc jec l=x3:=by unfold wth3;rw[<-e1,<-e2,<-e3];cases x1<;>cases x2<;>simp at g g2⊢
   rw[w]at hR;refine⟨fun g3=> ?_,fun g3=> ?_⟩
   . cases x3<;>simp at g3;exact hR
   . cases x3<;>simp at g3;exact hR
end Go.Proofs.YthkoabbiiadbjaaGreat
namespace U
open Go
def qsm(l:LL):Nat->Int
 |0=>0
 |k+1=>qsm l k+el l k
def qcumN(u:Int)(l:LL)(n:Nat):LL:=(List.range n).map fun k=>[u+qsm l (k+1)]
def qcum(u:Int)(l:LL):LL:=qcumN u l l.length
def qcumP(u:Int)(l:LL)(i:Nat):LL:=qcumN u l i++List.replicate (l.length-i) [0]
def qfu(A J u v a:Int):LL:=qcum u (qsp A J v a)
def qend(u:Int)(l:LL):Int:=if l.length=0 then u else el l (l.length-1)
def okSpd(l:LL):Prop:=l.length<=4096/\∀j,j<l.length->0<=el l j/\el l j<=16777216
def okU(u:Int):Prop:= -5000000000000000000<=u/\u<=5000000000000000000
structure QM where
 u:Int
 v:Int
 a:Int
 l:Int
 p:Int
 b:Int
def qstart(u:Int):QM:=⟨u*256,0,0,u*256,u*256,u*256⟩
def qmove(m:QM)(v:Int):QM:=⟨m.u+v,v,v-m.v,m.u,m.l,m.p⟩
def scl(v p:Int):Int:=if p=0 then 0 else min (max (IntKind.i64.wrap ((IntKind.i64.wrap (v*p)).tdiv 100)) 1) 16777216
def tgt(ho:Bool)(fo ro R fd ld:Int):Int:=if ho=true then 0 else if ld≠0 then min (max fd 1) 16777216 else if fd=0 then scl R ro else scl fd fo
def qtg(ho:Bool)(fo ro R:Int)(sg pk:LL)(sa ln u:Int):Int:=tgt ho fo ro R (ec sg (pfind sg (tplace pk sa (clamp ln (u/256)))).1.toNat 5) (ec sg (pfind sg (tplace pk sa (clamp ln (u/256)))).1.toNat 6)
def hlv:Nat->Int->LL
 |0,_=>[]
 |n+1,k=>if 0<k then[k]::hlv n (k/2)else[]
def ngl(l:LL):LL:=l.map fun r=>[-(r.getD 0 0)]
def chg(J:Int):LL:=hlv J.toNat J++[[0]]++ngl (hlv J.toNat J).reverse
end U
namespace Go.Proofs.YthkoabbiiadbjaaGreat
open Go Go.HL U
def SQFut(hargs:List HV)(pars:List (List HC)):SR:=match hargs,pars with
 |[.agg [.int .i64 A, .int .i64 J, .int .i64 R], .agg [.int .i64 mu, .int .i64 mv, .int .i64 ma, .int .i64 ml, .int .i64 mp, .int .i64 mb]],[]=> .all (okPl A J R/\okU mu) (LL×Bool) (fun x=>x=(qfu A J mu mv ma,qfok A J mv ma)) (fun x=>⟨.tup [.ce (.sl false [4] x.1), .ce (.bool x.2)],false,[],[]⟩)
 |_,_=> .fail
def anQF:LAnn:=⟨[8,9,28,29,30],[8],[1000025],false⟩
def LQF(v:LV):LR:=match v with
 |([.ce (.msl 1000025 n cap), .ce (.int .i64 u), .ce (.sl false [4] l), .ce (.int .i64 len), .ce (.int .i64 k)],[[.arr [4] rows d]])=> .det (n=l.length/\len=l.length/\k=0/\rows=List.replicate l.length [0]/\okSpd l/\okU u) (.exit 0) ([.ce (.msl 1000025 n cap)],[[.arr [4] (qcum u l) d]])
 |_=> .fail
def tabQF:List (FuncId×HL.Spec):=[(75,SQStop)]
noncomputable def CQF:Ctx:=⟨Tryz.prog,gam tabQF,Tryz.f37.ntmps,[(7,anQF,LQF)],[43]⟩
theorem vbQF(u len k:Int)(n cap d:Nat)(l rows:LL)(K:HEx->LV->Prop):(nbodyT true CQF anQF (nthLoop Tryz.f37 0) (([.ce (.msl 1000025 n cap), .ce (I6 u), .ce (.sl false [4] l), .ce (I6 len), .ce (I6 k)],[[.arr [4] rows d]])) K)=(Br (k<len) ((0<=k/\k<(l.length:Int))/\∀x1,x1=el l k.toNat->R6 (u+x1)/\∀x2,x2=u+x1->(0<=k/\k<((n:Nat):Int))/\k.toNat<rows.length/\R6 (k+1)/\∀x3,x3=k+1->K .normal ([.ce (.msl (1000025:Nat) n cap), .ce (I6 x2), .ce (.sl false [4] l), .ce (I6 len), .ce (I6 x3)],[[.arr [4] (List.set rows k.toNat [bif true&&true then x2 else el rows k.toNat]) d]])) (K (.exit 0) ([.ce (.msl (1000025:Nat) n cap)],[[.arr [4] rows d]]))):=by kernel_rfl
theorem vcQF(A J R mu mv ma ml mp mb:Int)(Q:Res->Prop):(nfun true CQF Tryz.f37 (bodyOf Tryz.f37) [.agg [I6 A,I6 J,I6 R], .agg [I6 mu,I6 mv,I6 ma,I6 ml,I6 mp,I6 mb]] [] Q)=(okPl A J R/\(∃(x:LL×Bool),x=(qsp A J mv ma,qfok A J mv ma))/\∀(x:LL×Bool),x=(qsp A J mv ma,qfok A J mv ma)->Bb (!x.2) (Q ⟨.tup [.ce (.sl false [4] []), .ce (.bool false)],false,[],[]⟩) (((0:Int)<=(List.length x.1:Int)/\(List.length x.1:Int)=(List.length x.1:Int)/\(List.length x.1:Int)<=140737488355328/\(List.length x.1:Int)*8<=140737488355328)/\(Int.toNat (List.length x.1:Int)=List.length x.1/\(List.length x.1:Int)=(List.length x.1:Int)/\(0:Int)=0/\List.replicate (Int.toNat (List.length x.1:Int)) [(0:Int)]=List.replicate (List.length x.1) [(0:Int)]/\okSpd x.1/\okU mu)/\Int.toNat (List.length x.1:Int)=List.length (qcum mu x.1)/\Q ⟨.tup [.ce (.sl false [4] (qcum mu x.1)), .ce (.bool true)],false,[],[]⟩)):=by kernel_rfl
def SQRest(hargs:List HV)(pars:List (List HC)):SR:=match hargs,pars with
 |[.agg [.int .i64 A, .int .i64 J, .int .i64 R], .agg [.int .i64 mu, .int .i64 mv, .int .i64 ma, .int .i64 ml, .int .i64 mp, .int .i64 mb]],[]=> .all (okPl A J R/\okU mu) (Int×Bool) (fun x=>x=(if qfok A J mv ma=true then qend mu (qfu A J mu mv ma)else 0,qfok A J mv ma)) (fun x=>⟨.tup [.ce (I6 x.1), .ce (.bool x.2)],false,[],[]⟩)
 |_,_=> .fail
def tabQRest:List (FuncId×HL.Spec):=[(37,SQFut)]
noncomputable def CQRest:Ctx:=⟨Tryz.prog,gam tabQRest,Tryz.f28.ntmps,[],[]⟩
theorem vcQRest(A J R mu mv ma ml mp mb:Int)(Q:Res->Prop):(nfun true CQRest Tryz.f28 (bodyOf Tryz.f28) [.agg [I6 A,I6 J,I6 R], .agg [I6 mu,I6 mv,I6 ma,I6 ml,I6 mp,I6 mb]] [] Q)=((okPl A J R/\okU mu)/\(∃(x:LL×Bool),x=(qfu A J mu mv ma,qfok A J mv ma))/\∀(x:LL×Bool),x=(qfu A J mu mv ma,qfok A J mv ma)->Bb (!x.2) (Q ⟨.tup [.ce (I6 0), .ce (.bool false)],false,[],[]⟩) (Bb ((List.length x.1:Int)==0) (Q ⟨.tup [.ce (I6 mu), .ce (.bool true)],false,[],[]⟩) (R6 ((List.length x.1:Int)-1)/\∀x2,x2=(List.length x.1:Int)-1->(0<=x2/\x2<(List.length x.1:Int))/\∀x3,x3=el x.1 x2.toNat->Q ⟨.tup [.ce (I6 x3), .ce (.bool true)],false,[],[]⟩))):=by kernel_rfl
def SQUnit(hargs:List HV)(pars:List (List HC)):SR:=match hargs,pars with
 |[.ce (.int .i64 u)],[]=> .det (-9223372036854775808<=u/\u<=9223372036854775807) ⟨.ce (I6 (u/256)),false,[],[]⟩
 |_,_=> .fail
noncomputable def CQUnit:Ctx:=⟨Tryz.prog,gam [],Tryz.f77.ntmps,[],[]⟩
theorem vcQUnit(u:Int)(Q:Res->Prop):(nfun true CQUnit Tryz.f77 (bodyOf Tryz.f77) [.ce (I6 u)] [] Q)=((256:Int)≠(0:Int)/\R6 (Int.tdiv u 256)/\∀x1,x1=Int.tdiv u 256->(256:Int)≠(0:Int)/\∀x2,x2=Int.tmod u 256->Br (x2<0) (R6 (x1-1)/\∀x3,x3=x1-1->Q ⟨.ce (I6 x3),false,[],[]⟩) (Q ⟨.ce (I6 x1),false,[],[]⟩)):=by kernel_rfl
def SQStart(hargs:List HV)(pars:List (List HC)):SR:=match hargs,pars with
 |[.ce (.int .i64 u)],[]=> .all (-18014398509481984<=u/\u<=18014398509481984) QM (fun x=>x=qstart u) (fun x=>⟨.agg [I6 x.u,I6 x.v,I6 x.a,I6 x.l,I6 x.p,I6 x.b],false,[],[]⟩)
 |_,_=> .fail
noncomputable def CQStart:Ctx:=⟨Tryz.prog,gam [],Tryz.f9.ntmps,[],[]⟩
theorem vcQStart(u:Int)(Q:Res->Prop):(nfun true CQStart Tryz.f9 (bodyOf Tryz.f9) [.ce (I6 u)] [] Q)=(R6 (u*256)/\∀x1,x1=u*256->Q ⟨.agg [I6 x1,I6 0,I6 0,I6 x1,I6 x1,I6 x1],false,[],[]⟩):=by kernel_rfl
def SQMove(hargs:List HV)(pars:List (List HC)):SR:=match hargs,pars with
 |[.agg [.int .i64 mu, .int .i64 mv, .int .i64 ma, .int .i64 ml, .int .i64 mp, .int .i64 mb], .ce (.int .i64 v)],[]=> .all (okU mu/\(-2199023255552<=v/\v<=2199023255552)/\(-2199023255552<=mv/\mv<=2199023255552)) QM (fun x=>x=qmove ⟨mu,mv,ma,ml,mp,mb⟩ v) (fun x=>⟨.agg [I6 x.u,I6 x.v,I6 x.a,I6 x.l,I6 x.p,I6 x.b],false,[],[]⟩)
 |_,_=> .fail
noncomputable def CQMove:Ctx:=⟨Tryz.prog,gam [],Tryz.f27.ntmps,[],[]⟩
theorem vcQMove(mu mv ma ml mp mb v:Int)(Q:Res->Prop):(nfun true CQMove Tryz.f27 (bodyOf Tryz.f27) [.agg [I6 mu,I6 mv,I6 ma,I6 ml,I6 mp,I6 mb], .ce (I6 v)] [] Q)=(R6 (mu+v)/\∀x1,x1=mu+v->R6 (v-mv)/\∀x2,x2=v-mv->Q ⟨.agg [I6 x1,I6 v,I6 x2,I6 mu,I6 ml,I6 mp],false,[],[]⟩):=by kernel_rfl
def STgt(hargs:List HV)(pars:List (List HC)):SR:=match hargs,pars with
 |[.agg [.int .i64 fo, .int .i64 ro, .bool ho, .bool so, .bool oo], .agg [.int .i64 A, .int .i64 J, .int .i64 R], .agg [.int .i64 _, .int .i64 _, .int .i64 _, .int .i64 _, .int .i64 _, .int .i64 fd, .int .i64 ld]],[]=> .det True ⟨.ce (I6 (tgt ho fo ro R fd ld)),false,[],[]⟩
 |_,_=> .fail
noncomputable def CTgt:Ctx:=⟨Tryz.prog,gam [],Tryz.f119.ntmps,[],[]⟩
theorem vcTgt(fo ro:Int)(ho so oo:Bool)(A J R g0 g1 g2 g3 g4 fd ld:Int)(Q:Res->Prop):(nfun false CTgt Tryz.f119 (bodyOf Tryz.f119) [.agg [I6 fo,I6 ro, .bool ho, .bool so, .bool oo], .agg [I6 A,I6 J,I6 R], .agg [I6 g0,I6 g1,I6 g2,I6 g3,I6 g4,I6 fd,I6 ld]] [] Q)=(Bb (ho) (Q ⟨.ce (I6 0),false,[],[]⟩) (Bb (ld !=0) (∀x1,x1=max fd 1->∀x2,x2=min x1 16777216->Q ⟨.ce (I6 x2),false,[],[]⟩) (Bb (fd==0) (Bb (ro==0) (Q ⟨.ce (I6 0),false,[],[]⟩) (∀x3,x3=IntKind.wrap .i64 (R*ro)->(100:Int)≠(0:Int)/\∀x4,x4=IntKind.wrap .i64 (Int.tdiv x3 100)->∀x5,x5=max x4 1->∀x6,x6=min x5 16777216->Q ⟨.ce (I6 x6),false,[],[]⟩)) (Bb (fo==0) (Q ⟨.ce (I6 0),false,[],[]⟩) (∀x7,x7=IntKind.wrap .i64 (fd*fo)->(100:Int)≠(0:Int)/\∀x8,x8=IntKind.wrap .i64 (Int.tdiv x7 100)->∀x9,x9=max x8 1->∀x10,x10=min x9 16777216->Q ⟨.ce (I6 x10),false,[],[]⟩))))):=by kernel_rfl
def SQTg(hargs:List HV)(pars:List (List HC)):SR:=match hargs,pars with
 |[.agg [.int .i64 s0, .int .i64 s1, .int .i64 s2, .sl false [4,4,4,4,4,4,4] sg, .sl false [4,4,4] mk], .agg [.sl false [4,4,4,4,4,4,4,4,4,4] pk, .int .i64 ln, .int .i64 sa, .int .i64 d0, .int .i64 d1, .int .i64 d2], .agg [.int .i64 A, .int .i64 J, .int .i64 R], .agg [.int .i64 fo, .int .i64 ro, .bool ho, .bool so, .bool oo], .ce (.int .i64 u)],[]=> .det ((okLen sg/\okTrk pk ln/\(0<=sa/\sa<=18014398509481984))/\0<sg.length/\okU u) ⟨.ce (I6 (qtg ho fo ro R sg pk sa ln u)),false,[],[]⟩
 |_,_=> .fail
def tabQTg:List (FuncId×HL.Spec):=[(77,SQUnit),(103,SPlace),(118,SPFind),(119,STgt)]
noncomputable def CQTg:Ctx:=⟨Tryz.prog,gam tabQTg,Tryz.f95.ntmps,[],[]⟩
theorem vcQTg(s0 s1 s2 ln sa d0 d1 d2 A J R fo ro u:Int)(ho so oo:Bool)(sg mk pk:LL)(Q:Res->Prop):(nfun true CQTg Tryz.f95 (bodyOf Tryz.f95) [.agg [I6 s0,I6 s1,I6 s2, .sl false [4,4,4,4,4,4,4] sg, .sl false [4,4,4] mk], .agg [.sl false [4,4,4,4,4,4,4,4,4,4] pk,I6 ln,I6 sa,I6 d0,I6 d1,I6 d2], .agg [I6 A,I6 J,I6 R], .agg [I6 fo,I6 ro, .bool ho, .bool so, .bool oo], .ce (I6 u)] [] Q)=(R6 u/\∀x1,x1=u/256->okTrk pk ln/\∀x2,x2=tplace pk sa (clamp ln x1)->(okLen sg/\x2<=4611686018427387904)/\(∃(x:Int×Int),x=pfind sg x2)/\∀(x:Int×Int),x=pfind sg x2->(0<=x.1/\x.1<(sg.length:Int))/\True/\∀x4,x4=tgt ho fo ro R (ec sg x.1.toNat 5) (ec sg x.1.toNat 6)->Q ⟨.ce (I6 x4),false,[],[]⟩):=by kernel_rfl
def SChg(hargs:List HV)(pars:List (List HC)):SR:=match hargs,pars with
 |[.ce (.int .i64 j)],[]=> .all (0<=j/\j<=65536) (LL) (fun x=>x=chg j) (fun x=>⟨.ce (.sl false [4] x),true,[],[]⟩)
 |_,_=> .fail
def anCh0:LAnn:=⟨[3,100003,4],[3,100003],[],false⟩
def LCh0(v:LV):LR:=match v with
 |([.ce (.sl false [4] l), .ce (.lit true), .ce (.int .i64 k)],[])=> .det (l.length=0/\0<=k/\k<=65536) (.exit 0) ([.ce (.sl false [4] (hlv k.toNat k)), .ce (.lit true)],[])
 |_=> .fail
def anCh1:LAnn:=⟨[3,5,100005,6],[5,100005],[],false⟩
def LCh1(v:LV):LR:=match v with
 |([.ce (.sl false [4] l), .ce (.sl false [4] y), .ce (.lit true), .ce (.int .i64 i)],[])=> .det (i=(l.length:Int)-1/\l.length<=65536/\y.length<=65537/\∀j,j<l.length-> -65536<=el l j/\el l j<=65536) (.exit 2) ([.ce (.sl false [4] (y++ngl l.reverse)), .ce (.lit true)],[])
 |_=> .fail
noncomputable def CChg:Ctx:=⟨Tryz.prog,gam [],Tryz.f60.ntmps,[(3,anCh0,LCh0),(8,anCh1,LCh1)],[]⟩
theorem vbCh0(l:LL)(k:Int)(K:HEx->LV->Prop):(nbodyT true CChg anCh0 (nthLoop Tryz.f60 0) (([.ce (.sl false [4] l), .ce (.lit true), .ce (I6 k)],[])) K)=(Br (k>0) (((l.length+1)*8<=140737488355328/\l.length+1<=maxLen)/\(2:Int)≠(0:Int)/\R6 (Int.tdiv k 2)/\∀x1,x1=Int.tdiv k 2->K .normal ([.ce (.sl false [4] (l++[[k]])), .ce (.lit true), .ce (I6 x1)],[])) (K (.exit 0) ([.ce (.sl false [4] l), .ce (.lit true)],[]))):=by kernel_rfl
theorem vbCh1(l y:LL)(i:Int)(K:HEx->LV->Prop):(nbodyT true CChg anCh1 (nthLoop Tryz.f60 1) (([.ce (.sl false [4] l), .ce (.sl false [4] y), .ce (.lit true), .ce (I6 i)],[])) K)=(Br (i>=0) ((0<=i/\i<(l.length:Int))/\∀x1,x1=el l i.toNat->R6 (0-x1)/\∀x2,x2=0-x1->((y.length+1)*8<=140737488355328/\y.length+1<=maxLen)/\R6 (i-1)/\∀x3,x3=i-1->K .normal ([.ce (.sl false [4] l), .ce (.sl false [4] (y++[[x2]])), .ce (.lit true), .ce (I6 x3)],[])) (K (.exit 2) ([.ce (.sl false [4] y), .ce (.lit true)],[]))):=by kernel_rfl
theorem vcChg(j:Int)(Q:Res->Prop):(nfun true CChg Tryz.f60 (bodyOf Tryz.f60) [.ce (I6 j)] [] Q)=(((0:Nat)=0/\0<=j/\j<=65536)/\(((0:Nat)+List.length (hlv j.toNat j))*8<=140737488355328/\(0:Nat)+List.length (hlv j.toNat j)<=maxLen)/\((List.length ([]++hlv j.toNat j)+1)*8<=140737488355328/\List.length ([]++hlv j.toNat j)+1<=maxLen)/\R6 ((((List.length (hlv j.toNat j)):Nat):Int)-1)/\∀x1,x1=(((List.length (hlv j.toNat j)):Nat):Int)-1->(x1=(((List.length (hlv j.toNat j)):Nat):Int)-1/\List.length (hlv j.toNat j)<=65536/\List.length ([]++hlv j.toNat j++[[(0:Int)]])<=65537/\∀(j_1:Nat),j_1<List.length (hlv j.toNat j)-> -65536<=el (hlv j.toNat j) j_1/\el (hlv j.toNat j) j_1<=65536)/\Q ⟨.ce (.sl false [4] ([]++hlv j.toNat j++[[(0:Int)]]++ngl (List.reverseAux (hlv j.toNat j) []))),true,[],[]⟩):=by kernel_rfl
end Go.Proofs.YthkoabbiiadbjaaGreat
namespace U
theorem el_cons(r:List Int)(l:LL)(j:Nat):el (r::l) (j+1)=el l j:=rfl
theorem qst_bd{A J:Int}(hA:1<=A)(hJ:1<=J):∀(n:Nat){v a:Int},qready A J v a=true->∀j,j<(qst A J n v a).length->0<=el (qst A J n v a) j/\el (qst A J n v a) j<=16777216:=by
 intro n;induction n with
 |zero=>intro v a _ j hj;simp[qst]at hj
 |succ n ih=>
  intro v a h j hj;by_cases hv:0<v
  . have e:=(Go.Proofs.YthkoabbiiadbjaaGreat.qst_k (A:=A) (J:=J) (a:=a) (n:=n) hv).1;rw[e]at hj⊢;have hr:=qbrk_ready hA hJ h;cases j with
    |zero=>exact qready_v hJ hr
    |succ j=>exact ih hr j (by simpa using hj)
  . rw[(qst_nil (A:=A) (J:=J) (a:=a) (n:=n+1) hv).1]at hj;simp at hj
theorem qsp_spd{A J R v a:Int}(hp:okPl A J R):okSpd (qsp A J v a):=by
 unfold qsp;split
 . rename_i h;unfold qfok at h;rw[Bool.and_eq_true]at h;exact⟨qst_len 4096 v a,fun j hj=>qst_bd hp.1.1 (by have:=hp.2.1.1;omega) 4096 h.1 j hj⟩
 . exact⟨by simp,fun j hj=>by simp at hj⟩
theorem qsm_bd{l:LL}(h:okSpd l):∀k,k<=l.length->0<=qsm l k/\qsm l k<=16777216*(k:Int):=by
 intro k;induction k with
 |zero=>intro _;simp[qsm]
 |succ k ih=>
  intro hk;have a:=ih (by omega);have b:=h.2 k (by omega);unfold qsm;omega
theorem qcumN_succ(u:Int)(l:LL)(n:Nat):qcumN u l (n+1)=qcumN u l n++[[u+qsm l (n+1)]]:=by
 unfold qcumN;rw[List.range_succ,List.map_append];rfl
theorem qcumN_len(u:Int)(l:LL)(n:Nat):(qcumN u l n).length=n:=by simp[qcumN]
theorem qcum_len(u:Int)(l:LL):(qcum u l).length=l.length:=qcumN_len _ _ _
theorem el_qcum{u:Int}{l:LL}{k:Nat}(h:k<l.length):el (qcum u l) k=u+qsm l (k+1):=by
 unfold qcum qcumN el;simp[List.getD_eq_getElem?_getD,h]
theorem qcumP_set{u:Int}{l:LL}{i:Nat}(h:i<l.length):(qcumP u l i).set i [u+qsm l (i+1)]=qcumP u l (i+1):=by
 unfold qcumP;have hl:=qcumN_len u l i;rw[List.set_append_right _ _ (by omega),hl,Nat.sub_self,show l.length-i=(l.length-(i+1))+1 by omega,List.replicate_succ,List.set_cons_zero,qcumN_succ];simp
theorem qcumP_len{u:Int}{l:LL}{i:Nat}(h:i<=l.length):(qcumP u l i).length=l.length:=by simp[qcumP,qcumN];omega
theorem qcumP_all(u:Int)(l:LL):qcumP u l l.length=qcum u l:=by simp[qcumP,qcum]
theorem qcumP_none(u:Int)(l:LL):qcumP u l 0=List.replicate l.length [0]:=by simp[qcumP,qcumN]
theorem hlv_fuel:∀(n m:Nat){k:Int},k<=n->k<=m->hlv n k=hlv m k:=by
 intro n;induction n with
 |zero=>
  intro m k h _;cases m with
  |zero=>rfl
  |succ m=>unfold hlv;rw[if_neg (by omega)]
 |succ n ih=>
  intro m k h1 h2;cases m with
  |zero=>unfold hlv;rw[if_neg (by omega)]
  |succ m=>
   unfold hlv;by_cases hk:0<k
   . rw[if_pos hk,if_pos hk,ih m (by omega) (by omega)]
   . rw[if_neg hk,if_neg hk]
theorem hlv_step{k:Int}(h:0<k):hlv k.toNat k=[k]::hlv (k/2).toNat (k/2):=by
 rw[show k.toNat=(k.toNat-1)+1 by omega,hlv,if_pos h,hlv_fuel (k.toNat-1) (k/2).toNat (by omega) (by omega)]
theorem hlv_end{k:Int}(h:¬0<k):hlv k.toNat k=[]:=by rw[show k.toNat=0 by omega];rfl
theorem hlv_bd:∀(n:Nat){k:Int},k<=65536->∀j,j<(hlv n k).length->1<=el (hlv n k) j/\el (hlv n k) j<=65536:=by
 intro n;induction n with
 |zero=>intro k _ j hj;simp[hlv]at hj
 |succ n ih=>
  intro k hk j hj;unfold hlv at hj⊢;by_cases h0:0<k
  . rw[if_pos h0]at hj⊢;cases j with
    |zero=>exact⟨h0,hk⟩
    |succ j=>exact ih (by omega) j (by simpa using hj)
  . rw[if_neg h0]at hj;simp at hj
theorem hlv_len:∀(n:Nat)(k:Int),(hlv n k).length<=n:=by
 intro n;induction n with
 |zero=>intro k;simp[hlv]
 |succ n ih=>
  intro k;unfold hlv;split
  . have:=ih (k/2);simp;omega
  . simp
theorem ngl_app(a b:LL):ngl (a++b)=ngl a++ngl b:=List.map_append
end U
namespace Go.Proofs.YthkoabbiiadbjaaGreat
open Go Go.HL U
attribute [local irreducible] hfun bodyT fragT
theorem loopQF:∀v Q,(LQF v).wp Q->hloop CQF anQF (nthLoop Tryz.f37 0) v Q:=by
 intro v Q h;unfold LQF at h;split at h;case h_2=>exact h.elim
 rename_i n cap u l len k rows d;obtain⟨⟨h1,h2,h3,h4,h5,h6⟩,hq⟩:=h;subst h1 h2 h3 h4;rw[<-qcumP_none u l];have e0:u=u+qsm l 0:=by simp[qsm]
 refine Eq.mp (by rw[<-e0];rfl) (hloop_rec (C:=CQF) (an:=anQF) (c:=nthLoop Tryz.f37 0) (Q:=Q) (σ:=Nat) (fun i=>([.ce (.msl 1000025 l.length cap), .ce (I6 (u+qsm l i)), .ce (.sl false [4] l), .ce (I6 (l.length:Int)), .ce (I6 (i:Int))],[[.arr [4] (qcumP u l i) d]])) (fun i=>l.length-i) (fun i=>i<=l.length) ?_ 0 (Nat.zero_le _));intro i hi K hn he hr;have b:=qsm_bd h5 i hi;have hl:=h5.1;unfold okU at h6;refine byVB (vbQF (u+qsm l i) l.length i l.length cap d l (qcumP u l i) K) ⟨fun c=> ?_,fun c=> ?_⟩
 . have c:=odt c;have b1:=h5.2 i (by omega);refine⟨by omega,fun x1 e1=> ?_⟩;have e1:x1=el l i:=e1;refine⟨by omega,fun x2 e2=>⟨by omega,by rw[qcumP_len hi];omega,by omega,fun x3 e3=> ?_⟩⟩;have e2':x2=u+qsm l (i+1):=by rw[qsm];omega
   have g:=hn (i+1) (by omega) (by omega);rw[<-qcumP_set (by omega),show((i+1:Nat):Int)=x3 by omega,<-e2']at g;exact g
 . have c:=odf c;obtain rfl:i=l.length:=by omega
   rw[qcumP_all];exact he _ _ hq
theorem sQFut:Sound Tryz.prog 37 SQFut:=by
 refine sound_of (C:=CQF) tabQF Tryz.func37 (by kernel_rfl) (by decide+kernel) (by kernel_rfl) rfl ⟨sQStop,trivial⟩ (loops1 (by kernel_rfl) (loopOK_of (an:=anQF) (S:=LQF) (by kernel_rfl) loopQF)) ?_;intro hargs pars R h;unfold SQFut at h;split at h;case h_2=>exfalso;exact h
 rename_i A J Rp mu mv ma ml mp mb;obtain⟨⟨hp,hu⟩,_,hR⟩:=h;refine byVC (vcQF A J Rp mu mv ma ml mp mb R) ⟨hp,⟨_,rfl⟩,fun x e=> ?_⟩;subst e;have hs:=qsp_spd (v:=mv) (a:=ma) hp;have hl:=hs.1;refine⟨fun g=> ?_,fun g=>⟨by dsimp only;omega,⟨rfl,rfl,rfl,rfl,hs,hu⟩,by rw[qcum_len];rfl,?_⟩⟩
 . have g:qfok A J mv ma=false:=by simpa using g
   exact hR ([],false) (by unfold qfu;rw[show qsp A J mv ma=[]by unfold qsp;rw[g];rfl,g];rfl)
 . have g:qfok A J mv ma=true:=by simpa using g
   exact hR (qcum mu (qsp A J mv ma),true) (by rw[g];rfl)
theorem sQRest:Sound Tryz.prog 28 SQRest:=by
 refine sound_of (C:=CQRest) tabQRest Tryz.func28 (by kernel_rfl) (by decide+kernel) (by kernel_rfl) rfl ⟨sQFut,trivial⟩ (loops0 (by kernel_rfl)) ?_;intro hargs pars R h;unfold SQRest at h;split at h;case h_2=>exfalso;exact h
 rename_i A J Rp mu mv ma ml mp mb;obtain⟨⟨hp,hu⟩,_,hR⟩:=h;refine byVC (vcQRest A J Rp mu mv ma ml mp mb R) ⟨⟨hp,hu⟩,⟨_,rfl⟩,fun x e=> ?_⟩;subst e;have hl:(qfu A J mu mv ma).length<=4096:=by unfold qfu;rw[qcum_len];exact(qsp_spd hp).1
 refine⟨fun g=> ?_,fun g=>⟨fun g2=> ?_,fun g2=>⟨by dsimp only;omega,fun x2 e2=> ?_⟩⟩⟩
 . have g:qfok A J mv ma=false:=by simpa using g
   exact hR (0,false) (by rw[g];rfl)
 . have g:qfok A J mv ma=true:=by simpa using g
   have g2:(qfu A J mu mv ma).length=0:=by simpa using g2
   exact hR (mu,true) (by rw[g];unfold qend;rw[if_pos rfl,if_pos g2])
 . have g:qfok A J mv ma=true:=by simpa using g
   have g2:(qfu A J mu mv ma).length≠0:=by simpa using g2
   dsimp only at e2⊢;refine⟨by omega,fun x3 e3=> ?_⟩;exact hR (x3,true) (by rw[g];unfold qend;rw[if_pos rfl,if_neg g2,e3,show x2.toNat=(qfu A J mu mv ma).length-1 by omega])
theorem sQUnit:Sound Tryz.prog 77 SQUnit:=by
 refine sound_of (C:=CQUnit) [] Tryz.func77 (by kernel_rfl) (by decide+kernel) (by kernel_rfl) rfl trivial (loops0 (by kernel_rfl)) ?_;intro hargs pars R h;unfold SQUnit at h;split at h;case h_2=>exfalso;exact h
 rename_i u;obtain⟨hu,hR⟩:=h;have h1:u.tdiv 256=if 0<=u then u/256 else-((-u)/256):=tdiv_ite (by decide);have h2:u.tmod 256=if 0<=u then u%256 else-((-u)%256):=tmod_ite (by decide);refine byVC (vcQUnit u R) ⟨by decide,?_⟩;rw[h1,h2];by_cases h0:0<=u
 . rw[if_pos h0,if_pos h0];refine⟨by omega,fun x1 e1=>⟨by decide,fun x2 e2=>⟨fun g=>by have:=odt g;omega,fun _=> ?_⟩⟩⟩;rw[e1];exact hR
 . rw[if_neg h0,if_neg h0];refine⟨by omega,fun x1 e1=>⟨by decide,fun x2 e2=>⟨fun g=>⟨by omega,fun x3 e3=> ?_⟩,fun g=> ?_⟩⟩⟩
   . have:=odt g;rw[show x3=u/256 by omega];exact hR
   . have:=odf g;rw[show x1=u/256 by omega];exact hR
theorem sQStart:Sound Tryz.prog 9 SQStart:=by
 refine sound_of (C:=CQStart) [] Tryz.func9 (by kernel_rfl) (by decide+kernel) (by kernel_rfl) rfl trivial (loops0 (by kernel_rfl)) ?_;intro hargs pars R h;unfold SQStart at h;split at h;case h_2=>exfalso;exact h
 rename_i u;obtain⟨hu,_,hR⟩:=h;refine byVC (vcQStart u R) ⟨by omega,fun x1 e1=> ?_⟩;rw[e1];exact hR _ rfl
theorem sQMove:Sound Tryz.prog 27 SQMove:=by
 refine sound_of (C:=CQMove) [] Tryz.func27 (by kernel_rfl) (by decide+kernel) (by kernel_rfl) rfl trivial (loops0 (by kernel_rfl)) ?_;intro hargs pars R h;unfold SQMove at h;split at h;case h_2=>exfalso;exact h
 rename_i mu mv ma ml mp mb v;obtain⟨⟨hu,hv,hm⟩,_,hR⟩:=h;unfold okU at hu;refine byVC (vcQMove mu mv ma ml mp mb v R) ⟨by omega,fun x1 e1=>⟨by omega,fun x2 e2=> ?_⟩⟩;rw[e1,e2];exact hR _ rfl
theorem sTgt:Sound Tryz.prog 119 STgt:=by
 refine sound_of (C:=CTgt) [] Tryz.func119 (by kernel_rfl) (by decide+kernel) (by kernel_rfl) rfl trivial (loops0 (by kernel_rfl)) ?_;intro hargs pars R h;unfold STgt at h;split at h;case h_2=>exfalso;exact h
 rename_i fo ro ho so oo A J Rp g0 g1 g2 g3 g4 fd ld;obtain⟨_,hR⟩:=h;unfold tgt scl at hR;refine byVC (vcTgt fo ro ho so oo A J Rp g0 g1 g2 g3 g4 fd ld R) ⟨fun g=> ?_,fun g=>⟨fun c=>fun x1 e1 x2 e2=> ?_,fun c=>⟨fun c2=>⟨fun c3=> ?_,fun c3=>fun x3 e3=>⟨by decide,fun x4 e4 x5 e5 x6 e6=> ?_⟩⟩,fun c2=>⟨fun c3=> ?_,fun c3=>fun x3 e3=>⟨by decide,fun x4 e4 x5 e5 x6 e6=> ?_⟩⟩⟩⟩⟩
 . rw[if_pos g]at hR;exact hR
 . rw[if_neg (by simp[g]),if_pos (by simpa using c)]at hR;rw[e2,e1];exact hR
 . rw[if_neg (by simp[g]),if_neg (by simpa using c),if_pos (by simpa using c2),if_pos (by simpa using c3)]at hR;exact hR
 . rw[if_neg (by simp[g]),if_neg (by simpa using c),if_pos (by simpa using c2),if_neg (by simpa using c3)]at hR;rw[e6,e5,e4,e3];exact hR
 . rw[if_neg (by simp[g]),if_neg (by simpa using c),if_neg (by simpa using c2),if_pos (by simpa using c3)]at hR;exact hR
 . rw[if_neg (by simp[g]),if_neg (by simpa using c),if_neg (by simpa using c2),if_neg (by simpa using c3)]at hR;rw[e6,e5,e4,e3];exact hR
theorem sQTg:Sound Tryz.prog 95 SQTg:=by
 refine sound_of (C:=CQTg) tabQTg Tryz.func95 (by kernel_rfl) (by decide+kernel) (by kernel_rfl) rfl ⟨sQUnit,sPlace,sPFind,sTgt,trivial⟩ (loops0 (by kernel_rfl)) ?_;intro hargs pars R h;unfold SQTg at h;split at h;case h_2=>exfalso;exact h
 rename_i s0 s1 s2 sg mk pk ln sa d0 d1 d2 A J Rp fo ro ho so oo u;obtain⟨⟨⟨hl,ht,hsa⟩,h0,hu⟩,hR⟩:=h;have hc:=clamp_bd (n:=ln) (v:=u/256) ht.2.1.1;have hp:=tplace_bd ht hsa hc;refine byVC (vcQTg s0 s1 s2 ln sa d0 d1 d2 A J Rp fo ro u ho so oo sg mk pk R) ⟨by unfold okU at hu;omega,fun x1 e1=>⟨ht,fun x2 e2=> ?_⟩⟩;subst e1;refine⟨⟨hl,by omega⟩,⟨_,rfl⟩,fun x e=> ?_⟩;have hf:=pfind_spec hl x2;rw[<-e]at hf;refine⟨?_,trivial,fun x4 e4=> ?_⟩
 . rcases hf with hf|⟨j,h1,h2,_⟩
   . omega
   . omega
 . rw[e4,e,e2];exact hR
theorem loopCh0:∀v Q,(LCh0 v).wp Q->hloop CChg anCh0 (nthLoop Tryz.f60 0) v Q:=by
 intro v Q h;unfold LCh0 at h;split at h;case h_2=>exact h.elim
 rename_i l k;obtain⟨⟨h1,h2⟩,hq⟩:=h;obtain rfl:=List.eq_nil_of_length_eq_zero h1;refine hloop_rec (σ:=LL×Int) (fun s=>([.ce (.sl false [4] s.1), .ce (.lit true), .ce (I6 s.2)],[])) (fun s=>s.2.toNat) (fun s=>(0<=s.2/\s.1.length+s.2<=65536)/\hlv k.toNat k=s.1++hlv s.2.toNat s.2) ?_ ([],k) ⟨⟨h2.1,by simpa using h2.2⟩,rfl⟩;rintro⟨y,i⟩⟨⟨i1,i2⟩,i3⟩K hn he _;dsimp only at i1 i2 i3 hn⊢;refine byVB (vbCh0 y i K) ⟨fun g=> ?_,fun g=> ?_⟩
 . have g:=odt g;rw[tdiv_pos i1];refine⟨⟨by omega,by unfold maxLen;omega⟩,by decide,by omega,fun x1 e1=>hn (y++[[i]],x1) ⟨⟨by dsimp only;omega,by simp;omega⟩,?_⟩ (by dsimp only;omega)⟩;dsimp only;rw[i3,hlv_step g,e1];simp
 . have g:=odf g;rw[hlv_end g,List.append_nil]at i3;rw[i3]at hq;exact he _ _ hq
theorem loopCh1:∀v Q,(LCh1 v).wp Q->hloop CChg anCh1 (nthLoop Tryz.f60 1) v Q:=by
 intro v Q h;unfold LCh1 at h;split at h;case h_2=>exact h.elim
 rename_i l y i;obtain⟨⟨h1,h2,h3,h4⟩,hq⟩:=h;subst h1;refine Eq.mp ?_ (hloop_rec (C:=CChg) (an:=anCh1) (c:=nthLoop Tryz.f60 1) (Q:=Q) (σ:=Nat) (fun c=>([.ce (.sl false [4] l), .ce (.sl false [4] (y++ngl (l.drop c).reverse)), .ce (.lit true), .ce (I6 ((c:Int)-1))],[])) (fun c=>c) (fun c=>c<=l.length) ?_ l.length (Nat.le_refl _))
 . rw[List.drop_length];simp[ngl]
 intro c hc K hn he _;refine byVB (vbCh1 l (y++ngl (l.drop c).reverse) ((c:Int)-1) K) ⟨fun g=> ?_,fun g=> ?_⟩
 . have g:=odt g;have b:=h4 (c-1) (by omega);refine⟨by omega,fun x1 e1=> ?_⟩;rw[show((c:Int)-1).toNat=c-1 by omega]at e1;refine⟨by omega,fun x2 e2=>⟨⟨by simp[ngl];omega,by simp[ngl];unfold maxLen;omega⟩,by omega,fun x3 e3=> ?_⟩⟩;have:=hn (c-1) (by omega) (by omega);rw[drop_next l (k:=c-1) (by omega) [],List.reverse_cons,ngl_app,show c-1+1=c by omega,<-List.append_assoc,show(((c-1:Nat):Int)-1)=x3 by omega]at this;rw[show ngl [l.getD (c-1) []]=[[x2]]by unfold ngl;simp;show-(el l (c-1))=x2;omega]at this;exact this
 . have g:=odf g;obtain rfl:c=0:=by omega
   exact he _ _ hq
theorem sChg:Sound Tryz.prog 60 SChg:=by
 refine sound_of (C:=CChg) [] Tryz.func60 (by kernel_rfl) (by decide+kernel) (by kernel_rfl) rfl trivial (loops2 (by kernel_rfl) (loopOK_of (an:=anCh0) (S:=LCh0) (by kernel_rfl) loopCh0) (loopOK_of (an:=anCh1) (S:=LCh1) (by kernel_rfl) loopCh1)) ?_;intro hargs pars R h;unfold SChg at h;split at h;case h_2=>exfalso;exact h
 rename_i j;obtain⟨hj,_,hR⟩:=h;have hl:=hlv_len j.toNat j;have hb:=hlv_bd j.toNat (k:=j) hj.2;refine byVC (vcChg j R) ⟨⟨rfl,hj⟩,⟨by omega,by unfold maxLen;omega⟩,⟨by simp only[List.nil_append];omega,by simp only[List.nil_append];unfold maxLen;omega⟩,by omega,fun x1 e1=>⟨⟨e1,by omega,by simp;omega,fun i hi=>by have:=hb i hi;omega⟩,hR _ rfl⟩⟩
end Go.Proofs.YthkoabbiiadbjaaGreat
namespace U
open Go
def qmot(M0 M1 M2:Int->Int)(ln:Int)(w:LL):LL:=w.map fun r=>[M0 (clamp ln (r.getD 0 0/256)),M1 (clamp ln (r.getD 0 0/256)),M2 (clamp ln (r.getD 0 0/256))]
def qway(m:QM)(f:LL):LL:=[[m.b],[m.p],[m.l],[m.u]]++f++[[qend m.u f],[qend m.u f]]
def qsafe(A J:Int)(W:LL->Bool)(Mo:LL->LL)(m:QM)(lim:Int):Bool:=qfok A J m.v m.a&&(decide (qend m.u (qfu A J m.u m.v m.a)<=lim*256)&&W (Mo (qway m (qfu A J m.u m.v m.a))))
def qfl(T:Int->Int):Int->LL->Bool
 |_,[]=>true
 |u,r::l=>decide (r.getD 0 0-u<=T (r.getD 0 0))&&qfl T (r.getD 0 0) l
def qfit(A J:Int)(n:Nat)(T:Int->Int)(m:QM):Bool:=qfok A J m.v m.a&&(decide (0<n)&&(decide (m.v<=T m.u)&&qfl T m.u (qfu A J m.u m.v m.a)))
def win(L:LL)(i:Nat):LL:=(L.take i).drop (i-4)
def okA3(sta oga sga:Int)(pta:LL)(bla stb ogb sgb:Int)(ptb:LL)(blb stc ogc sgc:Int)(ptc:LL)(blc:Int):Prop:=okMA sta oga sga pta bla/\okMA stb ogb sgb ptb blb/\okMA stc ogc sgc ptc blc
def okPT(s0 s1 s2:Int)(sg pk:LL)(ln sa:Int):Prop:=okLen sg/\okPts s0 s1 s2 sg/\okTrk pk ln/\(0<=sa/\sa<=18014398509481984)
def okV(u:Int):Prop:= -4900000000000000000<=u/\u<=4900000000000000000
def okL3(spa aca jea spb acb jeb spc acc jec:Int):Prop:=okLi spa aca jea/\okLi spb acb jeb/\okLi spc acc jec
end U
namespace Go.Proofs.YthkoabbiiadbjaaGreat
open Go Go.HL U
def SSmo(hA:List HV)(pA:List (List HC)):SR:=match hA,pA with
 |[.agg [.int .i64 s0, .int .i64 s1, .int .i64 s2, .sl false [4,4,4,4,4,4,4] sg, .sl false [4,4,4] mk], .agg ax, .agg [.sl false [4,4,4,4,4,4,4,4,4,4] pk, .int .i64 ln, .int .i64 sa, .int .i64 d0, .int .i64 d1, .int .i64 d2], .ce (.sl false [4] w)],[]=>match ax with
  |[.int .i64 sta, .int .i64 spa, .int .i64 aca, .int .i64 jea, .int .i64 loa, .int .i64 hia, .int .i64 bla, .int .i64 oga, .int .i64 sga, .sl false [4] pta, .int .i64 stb, .int .i64 spb, .int .i64 acb, .int .i64 jeb, .int .i64 lob, .int .i64 hib, .int .i64 blb, .int .i64 ogb, .int .i64 sgb, .sl false [4] ptb, .int .i64 stc, .int .i64 spc, .int .i64 acc, .int .i64 jec, .int .i64 loc, .int .i64 hic, .int .i64 blc, .int .i64 ogc, .int .i64 sgc, .sl false [4] ptc]=> .det (okPT s0 s1 s2 sg pk ln sa/\okA3 sta oga sga pta bla stb ogb sgb ptb blb stc ogc sgc ptc blc/\okL3 spa aca jea spb acb jeb spc acc jec/\w.length<=8000/\Sm 9000000000000000000 w) ⟨.ce (.bool (wth3 spa aca jea spb acb jeb spc acc jec (qmot (mtr sta oga sga pta bla s0 sg 0 pk sa d0) (mtr stb ogb sgb ptb blb s1 sg 1 pk sa d1) (mtr stc ogc sgc ptc blc s2 sg 2 pk sa d2) ln w))),false,[],[]⟩
  |_=> .fail
 |_,_=> .fail
def anSmo:LAnn:=⟨[4,5,6,8,9,100009,12,13,14],[8],[1000004,1000005,1000006],false⟩
def LSmo(v:LV):LR:=match v with
 |([.ce (.ptr 1000004 0), .ce (.ptr 1000005 0), .ce (.ptr 1000006 0), .ce (.bool y), .ce (.sl false [4,4,4] z), .ce (.lit true), .ce (.sl false [4] w), .ce (.int .i64 len), .ce (.int .i64 k)],[[.int .i64 s0, .int .i64 s1, .int .i64 s2, .sl false [4,4,4,4,4,4,4] sg, .sl false [4,4,4] mk],ax,tr])=>match ax with
  |[.int .i64 sta, .int .i64 spa, .int .i64 aca, .int .i64 jea, .int .i64 loa, .int .i64 hia, .int .i64 bla, .int .i64 oga, .int .i64 sga, .sl false [4] pta, .int .i64 stb, .int .i64 spb, .int .i64 acb, .int .i64 jeb, .int .i64 lob, .int .i64 hib, .int .i64 blb, .int .i64 ogb, .int .i64 sgb, .sl false [4] ptb, .int .i64 stc, .int .i64 spc, .int .i64 acc, .int .i64 jec, .int .i64 loc, .int .i64 hic, .int .i64 blc, .int .i64 ogc, .int .i64 sgc, .sl false [4] ptc]=>match tr with
   |[.sl false [4,4,4,4,4,4,4,4,4,4] pk, .int .i64 ln, .int .i64 sa, .int .i64 d0, .int .i64 d1, .int .i64 d2]=> .alts (z.length=0/\len=w.length/\k=0/\okPT s0 s1 s2 sg pk ln sa/\okA3 sta oga sga pta bla stb ogb sgb ptb blb stc ogc sgc ptc blc/\okL3 spa aca jea spb acb jeb spc acc jec/\w.length<=8000/\Sm 9000000000000000000 w) [(wth3 spa aca jea spb acb jeb spc acc jec (qmot (mtr sta oga sga pta bla s0 sg 0 pk sa d0) (mtr stb ogb sgb ptb blb s1 sg 1 pk sa d1) (mtr stc ogc sgc ptc blc s2 sg 2 pk sa d2) ln w)=true, .exit 0,([.ce (.bool y)],[[I6 s0,I6 s1,I6 s2, .sl false [4,4,4,4,4,4,4] sg, .sl false [4,4,4] mk],[I6 sta,I6 spa,I6 aca,I6 jea,I6 loa,I6 hia,I6 bla,I6 oga,I6 sga, .sl false [4] pta,I6 stb,I6 spb,I6 acb,I6 jeb,I6 lob,I6 hib,I6 blb,I6 ogb,I6 sgb, .sl false [4] ptb,I6 stc,I6 spc,I6 acc,I6 jec,I6 loc,I6 hic,I6 blc,I6 ogc,I6 sgc, .sl false [4] ptc],[.sl false [4,4,4,4,4,4,4,4,4,4] pk,I6 ln,I6 sa,I6 d0,I6 d1,I6 d2]])),(wth3 spa aca jea spb acb jeb spc acc jec (qmot (mtr sta oga sga pta bla s0 sg 0 pk sa d0) (mtr stb ogb sgb ptb blb s1 sg 1 pk sa d1) (mtr stc ogc sgc ptc blc s2 sg 2 pk sa d2) ln w)=false, .ret,([.ce (.bool false)],[[I6 s0,I6 s1,I6 s2, .sl false [4,4,4,4,4,4,4] sg, .sl false [4,4,4] mk],[I6 sta,I6 spa,I6 aca,I6 jea,I6 loa,I6 hia,I6 bla,I6 oga,I6 sga, .sl false [4] pta,I6 stb,I6 spb,I6 acb,I6 jeb,I6 lob,I6 hib,I6 blb,I6 ogb,I6 sgb, .sl false [4] ptb,I6 stc,I6 spc,I6 acc,I6 jec,I6 loc,I6 hic,I6 blc,I6 ogc,I6 sgc, .sl false [4] ptc],[.sl false [4,4,4,4,4,4,4,4,4,4] pk,I6 ln,I6 sa,I6 d0,I6 d1,I6 d2]]))]
   |_=> .fail
  |_=> .fail
 |_=> .fail
def tabSmo:List (FuncId×HL.Spec):=[(77,SQUnit),(76,SMotors),(78,SAll)]
noncomputable def CSmo:Ctx:=⟨Tryz.prog,gam tabSmo,Tryz.f38.ntmps,[(3,anSmo,LSmo)],[]⟩
theorem vbSmo(s0 s1 s2 len k ln sa d0 d1 d2:Int)(y:Bool)(sg mk pk z w:LL)(sta spa aca jea loa hia bla oga sga stb spb acb jeb lob hib blb ogb sgb stc spc acc jec loc hic blc ogc sgc:Int)(pta ptb ptc:LL)(K:HEx->LV->Prop):(nbodyT true CSmo anSmo (nthLoop Tryz.f38 0) (([.ce (.ptr 1000004 0), .ce (.ptr 1000005 0), .ce (.ptr 1000006 0), .ce (.bool y), .ce (.sl false [4,4,4] z), .ce (.lit true), .ce (.sl false [4] w), .ce (I6 len), .ce (I6 k)],[[I6 s0,I6 s1,I6 s2, .sl false [4,4,4,4,4,4,4] sg, .sl false [4,4,4] mk],[I6 sta,I6 spa,I6 aca,I6 jea,I6 loa,I6 hia,I6 bla,I6 oga,I6 sga, .sl false [4] pta,I6 stb,I6 spb,I6 acb,I6 jeb,I6 lob,I6 hib,I6 blb,I6 ogb,I6 sgb, .sl false [4] ptb,I6 stc,I6 spc,I6 acc,I6 jec,I6 loc,I6 hic,I6 blc,I6 ogc,I6 sgc, .sl false [4] ptc],[.sl false [4,4,4,4,4,4,4,4,4,4] pk,I6 ln,I6 sa,I6 d0,I6 d1,I6 d2]])) K)=(Br (k<len) ((0<=k/\k<(w.length:Int))/\∀x1,x1=el w k.toNat->R6 x1/\∀x2,x2=x1/256->(okLen sg/\okPts s0 s1 s2 sg/\okTrk pk ln/\okMA sta oga sga pta bla/\okMA stb ogb sgb ptb blb/\okMA stc ogc sgc ptc blc/\0<=sa/\sa<=18014398509481984)/\∀x3,x3=tmot sta oga sga pta bla (ptAt s0 sg (0:Nat) (tplace pk sa (clamp ln x2))) pk d0 (clamp ln x2) (0:Nat)->∀x4,x4=tmot stb ogb sgb ptb blb (ptAt s1 sg (1:Nat) (tplace pk sa (clamp ln x2))) pk d1 (clamp ln x2) (1:Nat)->∀x5,x5=tmot stc ogc sgc ptc blc (ptAt s2 sg (2:Nat) (tplace pk sa (clamp ln x2))) pk d2 (clamp ln x2) (2:Nat)->((z.length+1)*24<=140737488355328/\z.length+1<=maxLen)/\Br ((((List.length (z++[[x3,x4,x5]])):Nat):Int)>4) (((0:Int)<=1/\(1:Int)<=(((List.length (z++[[x3,x4,x5]])):Nat):Int))/\(List.length (List.drop (1:Nat) (z++[[x3,x4,x5]]))<=8192/\Sm3 (1125899906842624:Int) (List.drop (1:Nat) (z++[[x3,x4,x5]]))/\okLi spa aca jea/\okLi spb acb jeb/\okLi spc acc jec)/\∀(x6:Bool),x6=wth3 spa aca jea spb acb jeb spc acc jec (List.drop (1:Nat) (z++[[x3,x4,x5]]))->Bb (!x6) (K .ret ([.ce (.bool false)],[[I6 s0,I6 s1,I6 s2, .sl false [4,4,4,4,4,4,4] sg, .sl false [4,4,4] mk],[I6 sta,I6 spa,I6 aca,I6 jea,I6 loa,I6 hia,I6 bla,I6 oga,I6 sga, .sl false [4] pta,I6 stb,I6 spb,I6 acb,I6 jeb,I6 lob,I6 hib,I6 blb,I6 ogb,I6 sgb, .sl false [4] ptb,I6 stc,I6 spc,I6 acc,I6 jec,I6 loc,I6 hic,I6 blc,I6 ogc,I6 sgc, .sl false [4] ptc],[.sl false [4,4,4,4,4,4,4,4,4,4] pk,I6 ln,I6 sa,I6 d0,I6 d1,I6 d2]])) (R6 (k+1)/\∀x7,x7=k+1->K .normal ([.ce (.ptr 1000004 0), .ce (.ptr 1000005 0), .ce (.ptr 1000006 0), .ce (.bool y), .ce (.sl false [4,4,4] (List.drop (1:Nat) (z++[[x3,x4,x5]]))), .ce (.lit true), .ce (.sl false [4] w), .ce (I6 len), .ce (I6 x7)],[[I6 s0,I6 s1,I6 s2, .sl false [4,4,4,4,4,4,4] sg, .sl false [4,4,4] mk],[I6 sta,I6 spa,I6 aca,I6 jea,I6 loa,I6 hia,I6 bla,I6 oga,I6 sga, .sl false [4] pta,I6 stb,I6 spb,I6 acb,I6 jeb,I6 lob,I6 hib,I6 blb,I6 ogb,I6 sgb, .sl false [4] ptb,I6 stc,I6 spc,I6 acc,I6 jec,I6 loc,I6 hic,I6 blc,I6 ogc,I6 sgc, .sl false [4] ptc],[.sl false [4,4,4,4,4,4,4,4,4,4] pk,I6 ln,I6 sa,I6 d0,I6 d1,I6 d2]]))) ((List.length (z++[[x3,x4,x5]])<=8192/\Sm3 (1125899906842624:Int) (z++[[x3,x4,x5]])/\okLi spa aca jea/\okLi spb acb jeb/\okLi spc acc jec)/\∀(x8:Bool),x8=wth3 spa aca jea spb acb jeb spc acc jec (z++[[x3,x4,x5]])->Bb (!x8) (K .ret ([.ce (.bool false)],[[I6 s0,I6 s1,I6 s2, .sl false [4,4,4,4,4,4,4] sg, .sl false [4,4,4] mk],[I6 sta,I6 spa,I6 aca,I6 jea,I6 loa,I6 hia,I6 bla,I6 oga,I6 sga, .sl false [4] pta,I6 stb,I6 spb,I6 acb,I6 jeb,I6 lob,I6 hib,I6 blb,I6 ogb,I6 sgb, .sl false [4] ptb,I6 stc,I6 spc,I6 acc,I6 jec,I6 loc,I6 hic,I6 blc,I6 ogc,I6 sgc, .sl false [4] ptc],[.sl false [4,4,4,4,4,4,4,4,4,4] pk,I6 ln,I6 sa,I6 d0,I6 d1,I6 d2]])) (R6 (k+1)/\∀x9,x9=k+1->K .normal ([.ce (.ptr 1000004 0), .ce (.ptr 1000005 0), .ce (.ptr 1000006 0), .ce (.bool y), .ce (.sl false [4,4,4] (z++[[x3,x4,x5]])), .ce (.lit true), .ce (.sl false [4] w), .ce (I6 len), .ce (I6 x9)],[[I6 s0,I6 s1,I6 s2, .sl false [4,4,4,4,4,4,4] sg, .sl false [4,4,4] mk],[I6 sta,I6 spa,I6 aca,I6 jea,I6 loa,I6 hia,I6 bla,I6 oga,I6 sga, .sl false [4] pta,I6 stb,I6 spb,I6 acb,I6 jeb,I6 lob,I6 hib,I6 blb,I6 ogb,I6 sgb, .sl false [4] ptb,I6 stc,I6 spc,I6 acc,I6 jec,I6 loc,I6 hic,I6 blc,I6 ogc,I6 sgc, .sl false [4] ptc],[.sl false [4,4,4,4,4,4,4,4,4,4] pk,I6 ln,I6 sa,I6 d0,I6 d1,I6 d2]])))) (K (.exit 0) ([.ce (.bool y)],[[I6 s0,I6 s1,I6 s2, .sl false [4,4,4,4,4,4,4] sg, .sl false [4,4,4] mk],[I6 sta,I6 spa,I6 aca,I6 jea,I6 loa,I6 hia,I6 bla,I6 oga,I6 sga, .sl false [4] pta,I6 stb,I6 spb,I6 acb,I6 jeb,I6 lob,I6 hib,I6 blb,I6 ogb,I6 sgb, .sl false [4] ptb,I6 stc,I6 spc,I6 acc,I6 jec,I6 loc,I6 hic,I6 blc,I6 ogc,I6 sgc, .sl false [4] ptc],[.sl false [4,4,4,4,4,4,4,4,4,4] pk,I6 ln,I6 sa,I6 d0,I6 d1,I6 d2]]))):=by kernel_rfl
theorem vcSmo(s0 s1 s2 ln sa d0 d1 d2:Int)(sg mk pk w:LL)(sta spa aca jea loa hia bla oga sga stb spb acb jeb lob hib blb ogb sgb stc spc acc jec loc hic blc ogc sgc:Int)(pta ptb ptc:LL)(Q:Res->Prop):(nfun true CSmo Tryz.f38 (bodyOf Tryz.f38) [.agg [I6 s0,I6 s1,I6 s2, .sl false [4,4,4,4,4,4,4] sg, .sl false [4,4,4] mk], .agg [I6 sta,I6 spa,I6 aca,I6 jea,I6 loa,I6 hia,I6 bla,I6 oga,I6 sga, .sl false [4] pta,I6 stb,I6 spb,I6 acb,I6 jeb,I6 lob,I6 hib,I6 blb,I6 ogb,I6 sgb, .sl false [4] ptb,I6 stc,I6 spc,I6 acc,I6 jec,I6 loc,I6 hic,I6 blc,I6 ogc,I6 sgc, .sl false [4] ptc], .agg [.sl false [4,4,4,4,4,4,4,4,4,4] pk,I6 ln,I6 sa,I6 d0,I6 d1,I6 d2], .ce (.sl false [4] w)] [] Q)=(((0:Nat)=0/\(w.length:Int)=(w.length:Int)/\(0:Int)=0/\okPT s0 s1 s2 sg pk ln sa/\okA3 sta oga sga pta bla stb ogb sgb ptb blb stc ogc sgc ptc blc/\okL3 spa aca jea spb acb jeb spc acc jec/\w.length<=8000/\Sm (9000000000000000000:Int) w)/\Bb (wth3 spa aca jea spb acb jeb spc acc jec (qmot (mtr sta oga sga pta bla s0 sg (0:Nat) pk sa d0) (mtr stb ogb sgb ptb blb s1 sg (1:Nat) pk sa d1) (mtr stc ogc sgc ptc blc s2 sg (2:Nat) pk sa d2) ln w)) (Q ⟨.ce (.bool true),false,[],[]⟩) (Q ⟨.ce (.bool false),false,[],[]⟩)):=by kernel_rfl
def SSafe(hA:List HV)(pA:List (List HC)):SR:=match hA,pA with
 |[.agg [.int .i64 s0, .int .i64 s1, .int .i64 s2, .sl false [4,4,4,4,4,4,4] sg, .sl false [4,4,4] mk], .agg ax, .agg [.sl false [4,4,4,4,4,4,4,4,4,4] pk, .int .i64 ln, .int .i64 sa, .int .i64 d0, .int .i64 d1, .int .i64 d2], .agg [.int .i64 A, .int .i64 J, .int .i64 R], .agg [.int .i64 mu, .int .i64 mv, .int .i64 ma, .int .i64 ml, .int .i64 mp, .int .i64 mb], .ce (.int .i64 lim)],[]=>match ax with
  |[.int .i64 sta, .int .i64 spa, .int .i64 aca, .int .i64 jea, .int .i64 loa, .int .i64 hia, .int .i64 bla, .int .i64 oga, .int .i64 sga, .sl false [4] pta, .int .i64 stb, .int .i64 spb, .int .i64 acb, .int .i64 jeb, .int .i64 lob, .int .i64 hib, .int .i64 blb, .int .i64 ogb, .int .i64 sgb, .sl false [4] ptb, .int .i64 stc, .int .i64 spc, .int .i64 acc, .int .i64 jec, .int .i64 loc, .int .i64 hic, .int .i64 blc, .int .i64 ogc, .int .i64 sgc, .sl false [4] ptc]=> .det ((okPT s0 s1 s2 sg pk ln sa/\okA3 sta oga sga pta bla stb ogb sgb ptb blb stc ogc sgc ptc blc/\okL3 spa aca jea spb acb jeb spc acc jec)/\okPl A J R/\(okU mu/\okU ml/\okU mp/\okU mb)/\(0<=lim/\lim<=18014398509481984)) ⟨.ce (.bool (qsafe A J (wth3 spa aca jea spb acb jeb spc acc jec) (qmot (mtr sta oga sga pta bla s0 sg 0 pk sa d0) (mtr stb ogb sgb ptb blb s1 sg 1 pk sa d1) (mtr stc ogc sgc ptc blc s2 sg 2 pk sa d2) ln) ⟨mu,mv,ma,ml,mp,mb⟩ lim)),false,[],[]⟩
  |_=> .fail
 |_,_=> .fail
def tabSafe:List (FuncId×HL.Spec):=[(37,SQFut),(38,SSmo)]
noncomputable def CSafe:Ctx:=⟨Tryz.prog,gam tabSafe,Tryz.f14.ntmps,[],[]⟩
theorem vcSafe(s0 s1 s2 ln sa d0 d1 d2 A J R mu mv ma ml mp mb lim:Int)(sg mk pk:LL)(sta spa aca jea loa hia bla oga sga stb spb acb jeb lob hib blb ogb sgb stc spc acc jec loc hic blc ogc sgc:Int)(pta ptb ptc:LL)(Q:Res->Prop):(nfun true CSafe Tryz.f14 (bodyOf Tryz.f14) [.agg [I6 s0,I6 s1,I6 s2, .sl false [4,4,4,4,4,4,4] sg, .sl false [4,4,4] mk], .agg [I6 sta,I6 spa,I6 aca,I6 jea,I6 loa,I6 hia,I6 bla,I6 oga,I6 sga, .sl false [4] pta,I6 stb,I6 spb,I6 acb,I6 jeb,I6 lob,I6 hib,I6 blb,I6 ogb,I6 sgb, .sl false [4] ptb,I6 stc,I6 spc,I6 acc,I6 jec,I6 loc,I6 hic,I6 blc,I6 ogc,I6 sgc, .sl false [4] ptc], .agg [.sl false [4,4,4,4,4,4,4,4,4,4] pk,I6 ln,I6 sa,I6 d0,I6 d1,I6 d2], .agg [I6 A,I6 J,I6 R], .agg [I6 mu,I6 mv,I6 ma,I6 ml,I6 mp,I6 mb], .ce (I6 lim)] [] Q)=((okPl A J R/\okU mu)/\(∃(x:LL×Bool),x=(qfu A J mu mv ma,qfok A J mv ma))/\∀(x:LL×Bool),x=(qfu A J mu mv ma,qfok A J mv ma)->Bb (!x.2) (Q ⟨.ce (.bool false),false,[],[]⟩) (Br ((List.length x.1:Int)>0) (R6 ((List.length x.1:Int)-1)/\∀x2,x2=(List.length x.1:Int)-1->(0<=x2/\x2<(List.length x.1:Int))/\∀x3,x3=el x.1 x2.toNat->R6 (lim*256)/\∀x4,x4=lim*256->Br (x3>x4) (Q ⟨.ce (.bool false),false,[],[]⟩) ((((4:Nat)+List.length x.1)*8<=140737488355328/\(4:Nat)+List.length x.1<=maxLen)/\((List.length ([[mb],[mp],[ml],[mu]]++x.1)+2)*8<=140737488355328/\List.length ([[mb],[mp],[ml],[mu]]++x.1)+2<=maxLen)/\(okPT s0 s1 s2 sg pk ln sa/\okA3 sta oga sga pta bla stb ogb sgb ptb blb stc ogc sgc ptc blc/\okL3 spa aca jea spb acb jeb spc acc jec/\List.length ([[mb],[mp],[ml],[mu]]++x.1++[[x3],[x3]])<=8000/\Sm (9000000000000000000:Int) ([[mb],[mp],[ml],[mu]]++x.1++[[x3],[x3]]))/\∀(x5:Bool),x5=wth3 spa aca jea spb acb jeb spc acc jec (qmot (mtr sta oga sga pta bla s0 sg (0:Nat) pk sa d0) (mtr stb ogb sgb ptb blb s1 sg (1:Nat) pk sa d1) (mtr stc ogc sgc ptc blc s2 sg (2:Nat) pk sa d2) ln ([[mb],[mp],[ml],[mu]]++x.1++[[x3],[x3]]))->Q ⟨.ce (.bool x5),false,[],[]⟩)) (R6 (lim*256)/\∀x6,x6=lim*256->Br (mu>x6) (Q ⟨.ce (.bool false),false,[],[]⟩) ((((4:Nat)+List.length x.1)*8<=140737488355328/\(4:Nat)+List.length x.1<=maxLen)/\((List.length ([[mb],[mp],[ml],[mu]]++x.1)+2)*8<=140737488355328/\List.length ([[mb],[mp],[ml],[mu]]++x.1)+2<=maxLen)/\(okPT s0 s1 s2 sg pk ln sa/\okA3 sta oga sga pta bla stb ogb sgb ptb blb stc ogc sgc ptc blc/\okL3 spa aca jea spb acb jeb spc acc jec/\List.length ([[mb],[mp],[ml],[mu]]++x.1++[[mu],[mu]])<=8000/\Sm (9000000000000000000:Int) ([[mb],[mp],[ml],[mu]]++x.1++[[mu],[mu]]))/\∀(x7:Bool),x7=wth3 spa aca jea spb acb jeb spc acc jec (qmot (mtr sta oga sga pta bla s0 sg (0:Nat) pk sa d0) (mtr stb ogb sgb ptb blb s1 sg (1:Nat) pk sa d1) (mtr stc ogc sgc ptc blc s2 sg (2:Nat) pk sa d2) ln ([[mb],[mp],[ml],[mu]]++x.1++[[mu],[mu]]))->Q ⟨.ce (.bool x7),false,[],[]⟩)))):=by kernel_rfl
def SFit(hA:List HV)(pA:List (List HC)):SR:=match hA,pA with
 |[.agg [.int .i64 s0, .int .i64 s1, .int .i64 s2, .sl false [4,4,4,4,4,4,4] sg, .sl false [4,4,4] mk], .agg [.sl false [4,4,4,4,4,4,4,4,4,4] pk, .int .i64 ln, .int .i64 sa, .int .i64 d0, .int .i64 d1, .int .i64 d2], .agg [.int .i64 A, .int .i64 J, .int .i64 R], .agg [.int .i64 fo, .int .i64 ro, .bool ho, .bool so, .bool oo], .agg [.int .i64 mu, .int .i64 mv, .int .i64 ma, .int .i64 ml, .int .i64 mp, .int .i64 mb]],[]=> .det ((okLen sg/\okTrk pk ln/\(0<=sa/\sa<=18014398509481984))/\okPl A J R/\okV mu) ⟨.ce (.bool (qfit A J sg.length (qtg ho fo ro R sg pk sa ln) ⟨mu,mv,ma,ml,mp,mb⟩)),false,[],[]⟩
 |_,_=> .fail
def anFit:LAnn:=⟨[5,6,7,8,10,13,44,45,46],[10],[1000005,1000006,1000007,1000008],false⟩
def LFit(v:LV):LR:=match v with
 |([.ce (.ptr 1000005 0), .ce (.ptr 1000006 0), .ce (.ptr 1000007 0), .ce (.ptr 1000008 0), .ce (.bool y), .ce (.int .i64 u), .ce (.sl false [4] l), .ce (.int .i64 len), .ce (.int .i64 k)],[[.int .i64 s0, .int .i64 s1, .int .i64 s2, .sl false [4,4,4,4,4,4,4] sg, .sl false [4,4,4] mk],[.sl false [4,4,4,4,4,4,4,4,4,4] pk, .int .i64 ln, .int .i64 sa, .int .i64 d0, .int .i64 d1, .int .i64 d2],[.int .i64 A, .int .i64 J, .int .i64 R],[.int .i64 fo, .int .i64 ro, .bool ho, .bool so, .bool oo]])=> .alts (len=l.length/\k=0/\(okLen sg/\okTrk pk ln/\(0<=sa/\sa<=18014398509481984))/\0<sg.length/\∃s,l=qcum u s/\okSpd s/\okV u) [(qfl (qtg ho fo ro R sg pk sa ln) u l=true, .exit 0,([.ce (.bool y)],[[I6 s0,I6 s1,I6 s2, .sl false [4,4,4,4,4,4,4] sg, .sl false [4,4,4] mk],[.sl false [4,4,4,4,4,4,4,4,4,4] pk,I6 ln,I6 sa,I6 d0,I6 d1,I6 d2],[I6 A,I6 J,I6 R],[I6 fo,I6 ro, .bool ho, .bool so, .bool oo]])),(qfl (qtg ho fo ro R sg pk sa ln) u l=false, .ret,([.ce (.bool false)],[[I6 s0,I6 s1,I6 s2, .sl false [4,4,4,4,4,4,4] sg, .sl false [4,4,4] mk],[.sl false [4,4,4,4,4,4,4,4,4,4] pk,I6 ln,I6 sa,I6 d0,I6 d1,I6 d2],[I6 A,I6 J,I6 R],[I6 fo,I6 ro, .bool ho, .bool so, .bool oo]]))]
 |_=> .fail
def tabFit:List (FuncId×HL.Spec):=[(37,SQFut),(95,SQTg)]
noncomputable def CFit:Ctx:=⟨Tryz.prog,gam tabFit,Tryz.f62.ntmps,[(6,anFit,LFit)],[]⟩
theorem vbFit(s0 s1 s2 ln sa d0 d1 d2 A J R fo ro u len k:Int)(ho so oo y:Bool)(sg mk pk l:LL)(K:HEx->LV->Prop):(nbodyT true CFit anFit (nthLoop Tryz.f62 0) (([.ce (.ptr 1000005 0), .ce (.ptr 1000006 0), .ce (.ptr 1000007 0), .ce (.ptr 1000008 0), .ce (.bool y), .ce (I6 u), .ce (.sl false [4] l), .ce (I6 len), .ce (I6 k)],[[I6 s0,I6 s1,I6 s2, .sl false [4,4,4,4,4,4,4] sg, .sl false [4,4,4] mk],[.sl false [4,4,4,4,4,4,4,4,4,4] pk,I6 ln,I6 sa,I6 d0,I6 d1,I6 d2],[I6 A,I6 J,I6 R],[I6 fo,I6 ro, .bool ho, .bool so, .bool oo]])) K)=(Br (k<len) ((0<=k/\k<(l.length:Int))/\∀x1,x1=el l k.toNat->R6 (x1-u)/\∀x2,x2=x1-u->((okLen sg/\okTrk pk ln/\0<=sa/\sa<=18014398509481984)/\(0:Nat)<sg.length/\okU x1)/\∀x3,x3=qtg ho fo ro R sg pk sa ln x1->Br (x2>x3) (K .ret ([.ce (.bool false)],[[I6 s0,I6 s1,I6 s2, .sl false [4,4,4,4,4,4,4] sg, .sl false [4,4,4] mk],[.sl false [4,4,4,4,4,4,4,4,4,4] pk,I6 ln,I6 sa,I6 d0,I6 d1,I6 d2],[I6 A,I6 J,I6 R],[I6 fo,I6 ro, .bool ho, .bool so, .bool oo]])) (R6 (k+1)/\∀x4,x4=k+1->K .normal ([.ce (.ptr 1000005 0), .ce (.ptr 1000006 0), .ce (.ptr 1000007 0), .ce (.ptr 1000008 0), .ce (.bool y), .ce (I6 x1), .ce (.sl false [4] l), .ce (I6 len), .ce (I6 x4)],[[I6 s0,I6 s1,I6 s2, .sl false [4,4,4,4,4,4,4] sg, .sl false [4,4,4] mk],[.sl false [4,4,4,4,4,4,4,4,4,4] pk,I6 ln,I6 sa,I6 d0,I6 d1,I6 d2],[I6 A,I6 J,I6 R],[I6 fo,I6 ro, .bool ho, .bool so, .bool oo]]))) (K (.exit 0) ([.ce (.bool y)],[[I6 s0,I6 s1,I6 s2, .sl false [4,4,4,4,4,4,4] sg, .sl false [4,4,4] mk],[.sl false [4,4,4,4,4,4,4,4,4,4] pk,I6 ln,I6 sa,I6 d0,I6 d1,I6 d2],[I6 A,I6 J,I6 R],[I6 fo,I6 ro, .bool ho, .bool so, .bool oo]]))):=by kernel_rfl
theorem vcFit(s0 s1 s2 ln sa d0 d1 d2 A J R fo ro mu mv ma ml mp mb:Int)(ho so oo:Bool)(sg mk pk:LL)(Q:Res->Prop):(nfun true CFit Tryz.f62 (bodyOf Tryz.f62) [.agg [I6 s0,I6 s1,I6 s2, .sl false [4,4,4,4,4,4,4] sg, .sl false [4,4,4] mk], .agg [.sl false [4,4,4,4,4,4,4,4,4,4] pk,I6 ln,I6 sa,I6 d0,I6 d1,I6 d2], .agg [I6 A,I6 J,I6 R], .agg [I6 fo,I6 ro, .bool ho, .bool so, .bool oo], .agg [I6 mu,I6 mv,I6 ma,I6 ml,I6 mp,I6 mb]] [] Q)=((okPl A J R/\okU mu)/\(∃(x:LL×Bool),x=(qfu A J mu mv ma,qfok A J mv ma))/\∀(x:LL×Bool),x=(qfu A J mu mv ma,qfok A J mv ma)->Bb (!x.2) (Q ⟨.ce (.bool false),false,[],[]⟩) (Bb ((sg.length:Int)==0) (Q ⟨.ce (.bool false),false,[],[]⟩) (((okLen sg/\okTrk pk ln/\0<=sa/\sa<=18014398509481984)/\(0:Nat)<sg.length/\okU mu)/\∀x2,x2=qtg ho fo ro R sg pk sa ln mu->Br (mv>x2) (Q ⟨.ce (.bool false),false,[],[]⟩) (((List.length x.1:Int)=(List.length x.1:Int)/\(0:Int)=0/\(okLen sg/\okTrk pk ln/\0<=sa/\sa<=18014398509481984)/\(0:Nat)<sg.length/\∃(s:LL),x.1=qcum mu s/\okSpd s/\okV mu)/\Bb (qfl (qtg ho fo ro R sg pk sa ln) mu x.1) (Q ⟨.ce (.bool true),false,[],[]⟩) (Q ⟨.ce (.bool false),false,[],[]⟩))))):=by kernel_rfl
end Go.Proofs.YthkoabbiiadbjaaGreat
namespace U
def Lm(sp ac je:Int)(f:Nat->Int)(n:Nat):Prop:=(∀j,j+1<n-> -sp<=f (j+1)-f j/\f (j+1)-f j<=sp)/\(∀j,j+2<n-> -ac<=f (j+2)-2*f (j+1)+f j/\f (j+2)-2*f (j+1)+f j<=ac)/\(∀j,j+3<n-> -je<=f (j+3)-3*f (j+2)+3*f (j+1)-f j/\f (j+3)-3*f (j+2)+3*f (j+1)-f j<=je)
theorem bdd_iff{l:LL}{m:Int}:bdd l m=true↔∀j,j<l.length-> -m<=el l j/\el l j<=m:=by
 unfold bdd bdN;rw[allN_iff];simp only[decide_eq_true_iff]
theorem wth_iff{sp ac je:Int}{l:LL}:wth sp ac je l=true↔Lm sp ac je (el l) l.length:=by
 have e2:∀j,j+2<l.length->el (dfl (dfl l)) j=el l (j+2)-2*el l (j+1)+el l j:=fun j h=>by
  rw[el_dfl (by rw[dfl_len];omega),el_dfl (by omega),el_dfl (by omega),show j+1+1=j+2 from rfl];omega
 have e3:∀j,j+3<l.length->el (dfl (dfl (dfl l))) j=el l (j+3)-3*el l (j+2)+3*el l (j+1)-el l j:=fun j h=>by
  rw[el_dfl (by rw[dfl_len,dfl_len];omega),e2 (j+1) (by omega),e2 j (by omega),show j+1+2=j+3 from rfl,show j+1+1=j+2 from rfl];omega
 unfold wth;rw[Bool.and_eq_true,Bool.and_eq_true,bdd_iff,bdd_iff,bdd_iff];simp only[dfl_len];refine⟨fun⟨a,b,c⟩=>⟨fun j h=> ?_,fun j h=> ?_,fun j h=> ?_⟩,fun⟨a,b,c⟩=>⟨fun j h=> ?_,fun j h=> ?_,fun j h=> ?_⟩⟩
 . have:=a j (by omega);rwa[el_dfl h]at this
 . have:=b j (by omega);rwa[e2 j h]at this
 . have:=c j (by omega);rwa[e3 j h]at this
 . rw[el_dfl (by omega)];exact a j (by omega)
 . rw[e2 j (by omega)];exact b j (by omega)
 . rw[e3 j (by omega)];exact c j (by omega)
theorem Lm_congr{sp ac je:Int}{f g:Nat->Int}{n:Nat}(h:∀j,j<n->f j=g j)(hf:Lm sp ac je f n):Lm sp ac je g n:=by
 obtain⟨a,b,c⟩:=hf;refine⟨fun j hj=> ?_,fun j hj=> ?_,fun j hj=> ?_⟩
 . rw[<-h j (by omega),<-h (j+1) (by omega)];exact a j hj
 . rw[<-h j (by omega),<-h (j+1) (by omega),<-h (j+2) (by omega)];exact b j hj
 . rw[<-h j (by omega),<-h (j+1) (by omega),<-h (j+2) (by omega),<-h (j+3) (by omega)];exact c j hj
theorem wth3_iff{s0 a0 j0 s1 a1 j1 s2 a2 j2:Int}{l:LL}:wth3 s0 a0 j0 s1 a1 j1 s2 a2 j2 l=true↔Lm s0 a0 j0 (fun j=>ec l j 0) l.length/\Lm s1 a1 j1 (fun j=>ec l j 1) l.length/\Lm s2 a2 j2 (fun j=>ec l j 2) l.length:=by
 have k:∀(s a j:Int)(c:Nat),Lm s a j (el (col l c)) (col l c).length↔Lm s a j (fun j=>ec l j c) l.length:=fun s a j c=>by
  rw[col_len];exact⟨Lm_congr fun j h=>el_col h,Lm_congr fun j h=>(el_col h).symm⟩
 unfold wth3;rw[Bool.and_eq_true,Bool.and_eq_true,wth_iff,wth_iff,wth_iff,k,k,k]
theorem Lm_win{sp ac je:Int}{f:Nat->Int}{n:Nat}:Lm sp ac je f (n+1)↔Lm sp ac je f n/\Lm sp ac je (fun j=>f (n+1-4+j)) (n+1-(n+1-4)):=by
 refine⟨fun⟨a,b,c⟩=>⟨⟨fun j h=>a j (by omega),fun j h=>b j (by omega),fun j h=>c j (by omega)⟩,fun j h=>a (n+1-4+j) (by omega),fun j h=>b (n+1-4+j) (by omega),fun j h=>c (n+1-4+j) (by omega)⟩,fun⟨⟨a,b,c⟩,a',b',c'⟩=>⟨fun j h=> ?_,fun j h=> ?_,fun j h=> ?_⟩⟩
 . by_cases hn:j+1<n
   . exact a j hn
   . have:=a' (j-(n+1-4)) (by omega);dsimp only at this;rwa[show n+1-4+(j-(n+1-4))=j by omega,show n+1-4+(j-(n+1-4)+1)=j+1 by omega]at this
 . by_cases hn:j+2<n
   . exact b j hn
   . have:=b' (j-(n+1-4)) (by omega);dsimp only at this;rwa[show n+1-4+(j-(n+1-4))=j by omega,show n+1-4+(j-(n+1-4)+1)=j+1 by omega,show n+1-4+(j-(n+1-4)+2)=j+2 by omega]at this
 . by_cases hn:j+3<n
   . exact c j hn
   . have:=c' (j-(n+1-4)) (by omega);dsimp only at this;rwa[show n+1-4+(j-(n+1-4))=j by omega,show n+1-4+(j-(n+1-4)+1)=j+1 by omega,show n+1-4+(j-(n+1-4)+2)=j+2 by omega,show n+1-4+(j-(n+1-4)+3)=j+3 by omega]at this
theorem Lm_pre{sp ac je:Int}{f:Nat->Int}{n m:Nat}(h:m<=n):Lm sp ac je f n->Lm sp ac je f m:=fun⟨a,b,c⟩=>⟨fun j hj=>a j (by omega),fun j hj=>b j (by omega),fun j hj=>c j (by omega)⟩
theorem win_len(L:LL){i:Nat}(h:i<=L.length):(win L i).length=i-(i-4):=by unfold win;simp;omega
theorem ec_win{L:LL}{i j c:Nat}(h:i<=L.length)(hj:j<i-(i-4)):ec (win L i) j c=ec L (i-4+j) c:=by
 have:(List.drop (i-4) (List.take i L)).getD j []=L.getD (i-4+j) []:=by
  rw[List.getD_eq_getElem?_getD,List.getElem?_drop,List.getElem?_take_of_lt (by omega),<-List.getD_eq_getElem?_getD]
 unfold win ec;rw[this]
theorem win_next{L:LL}{i:Nat}(h:i<L.length):win L i++[L.getD i []]=(L.take (i+1)).drop (i-4):=by
 unfold win;rw[take_next L h [],List.drop_append_of_le_length (by simp;omega)]
theorem ec_take{L:LL}{n j c:Nat}(h:j<n):ec (L.take n) j c=ec L j c:=by
 have:(List.take n L).getD j []=L.getD j []:=by rw[List.getD_eq_getElem?_getD,List.getElem?_take_of_lt h,<-List.getD_eq_getElem?_getD]
 unfold ec;rw[this]
theorem take_len{L:LL}{n:Nat}(h:n<=L.length):(L.take n).length=n:=by simp;omega
theorem wth3_take{s0 a0 j0 s1 a1 j1 s2 a2 j2:Int}{L:LL}{n:Nat}(h:n<=L.length):wth3 s0 a0 j0 s1 a1 j1 s2 a2 j2 (L.take n)=true↔Lm s0 a0 j0 (fun j=>ec L j 0) n/\Lm s1 a1 j1 (fun j=>ec L j 1) n/\Lm s2 a2 j2 (fun j=>ec L j 2) n:=by
 rw[wth3_iff,take_len h];exact⟨fun⟨a,b,c⟩=>⟨Lm_congr (fun j hj=>ec_take hj) a,Lm_congr (fun j hj=>ec_take hj) b,Lm_congr (fun j hj=>ec_take hj) c⟩,fun⟨a,b,c⟩=>⟨Lm_congr (fun j hj=>(ec_take hj).symm) a,Lm_congr (fun j hj=>(ec_take hj).symm) b,Lm_congr (fun j hj=>(ec_take hj).symm) c⟩⟩
theorem wth3_next{s0 a0 j0 s1 a1 j1 s2 a2 j2:Int}{L:LL}{n:Nat}(h:n<L.length):wth3 s0 a0 j0 s1 a1 j1 s2 a2 j2 (L.take (n+1))=true↔wth3 s0 a0 j0 s1 a1 j1 s2 a2 j2 (L.take n)=true/\wth3 s0 a0 j0 s1 a1 j1 s2 a2 j2 (win L (n+1))=true:=by
 rw[wth3_take (by omega),wth3_take (by omega),wth3_iff,win_len L (by omega),Lm_win,Lm_win,Lm_win];have k:∀(s a j:Int)(c:Nat),Lm s a j (fun j=>ec (win L (n+1)) j c) (n+1-(n+1-4))↔Lm s a j (fun j=>ec L (n+1-4+j) c) (n+1-(n+1-4)):=fun s a j c=>⟨Lm_congr fun j hj=>ec_win (by omega) hj,Lm_congr fun j hj=>(ec_win (by omega) hj).symm⟩;rw[k,k,k];exact⟨fun⟨⟨a,b⟩,⟨c,d⟩,e,f⟩=>⟨⟨a,c,e⟩,b,d,f⟩,fun⟨⟨a,c,e⟩,b,d,f⟩=>⟨⟨a,b⟩,⟨c,d⟩,e,f⟩⟩
theorem wth3_le{s0 a0 j0 s1 a1 j1 s2 a2 j2:Int}{L:LL}{n:Nat}(h:n<=L.length)(hf:wth3 s0 a0 j0 s1 a1 j1 s2 a2 j2 (L.take n)=false):wth3 s0 a0 j0 s1 a1 j1 s2 a2 j2 L=false:=by
 cases hw:wth3 s0 a0 j0 s1 a1 j1 s2 a2 j2 L
 . rfl
 . rw[<-List.take_length (l:=L),wth3_take (Nat.le_refl _)]at hw;have:=(wth3_take h).2 ⟨Lm_pre h hw.1,Lm_pre h hw.2.1,Lm_pre h hw.2.2⟩;rw[this]at hf;cases hf
theorem Sm3_win{B:Int}{L:LL}{i:Nat}(h:Sm3 B L)(hi:i<=L.length):Sm3 B (win L i):=fun j hj=>by
 rw[win_len L hi]at hj;rw[ec_win hi hj,ec_win hi hj,ec_win hi hj];exact h _ (by omega)
theorem qmot_len(M0 M1 M2:Int->Int)(ln:Int)(w:LL):(qmot M0 M1 M2 ln w).length=w.length:=by simp[qmot]
theorem qmot_get{M0 M1 M2:Int->Int}{ln:Int}{w:LL}{i:Nat}(h:i<w.length):(qmot M0 M1 M2 ln w).getD i []=[M0 (clamp ln (el w i/256)),M1 (clamp ln (el w i/256)),M2 (clamp ln (el w i/256))]:=by
 unfold qmot el;simp[List.getD_eq_getElem?_getD,h]
theorem Sm3_qmot{B:Int}{M0 M1 M2:Int->Int}{ln:Int}{w:LL}(h0:0<=ln)(h:∀u,0<=u/\u<=ln->(-B<=M0 u/\M0 u<=B)/\(-B<=M1 u/\M1 u<=B)/\(-B<=M2 u/\M2 u<=B)):Sm3 B (qmot M0 M1 M2 ln w):=fun j hj=>by
 rw[qmot_len]at hj;unfold ec;rw[qmot_get hj];exact h _ (clamp_bd h0)
theorem qfl_app{T:Int->Int}{u:Int}{l:LL}{i:Nat}(h:i<l.length)(last:Int):qfl T last (l.drop i)=(decide (el l i-last<=T (el l i))&&qfl T (el l i) (l.drop (i+1))):=by
 rw[drop_next l h []];rfl
theorem qend_bd{u:Int}{s:LL}(h:okSpd s):u<=qend u (qcum u s)/\qend u (qcum u s)<=u+68719476736:=by
 unfold qend;have hl:=h.1;split
 . omega
 . rename_i hn;rw[qcum_len]at hn⊢;rw[el_qcum (by omega)];have:=qsm_bd h (s.length-1+1) (by omega);omega
end U
namespace Go.Proofs.YthkoabbiiadbjaaGreat
open Go Go.HL U
attribute [local irreducible] hfun bodyT fragT
set_option maxHeartbeats 2000000 in theorem loopSmo:∀v Q,(LSmo v).wp Q->hloop CSmo anSmo (nthLoop Tryz.f38 0) v Q:=by
 intro v Q h;unfold LSmo at h;split at h;case h_2=>exact h.elim
 rename_i y z w len k s0 s1 s2 sg mk ax tr;split at h;case h_2=>exact h.elim
 rename_i sta spa aca jea loa hia bla oga sga pta stb spb acb jeb lob hib blb ogb sgb ptb stc spc acc jec loc hic blc ogc sgc ptc;split at h;case h_2=>exact h.elim
 rename_i pk ln sa d0 d1 d2;obtain⟨⟨h1,h2,h3,hp,ha,hli,hw,hs⟩,hq1,hq2⟩:=h;subst h2 h3;obtain rfl:=List.eq_nil_of_length_eq_zero h1;have hb:∀u,0<=u/\u<=ln->(-4398046511104<=mtr sta oga sga pta bla s0 sg 0 pk sa d0 u/\mtr sta oga sga pta bla s0 sg 0 pk sa d0 u<=4398046511104)/\(-4398046511104<=mtr stb ogb sgb ptb blb s1 sg 1 pk sa d1 u/\mtr stb ogb sgb ptb blb s1 sg 1 pk sa d1 u<=4398046511104)/\(-4398046511104<=mtr stc ogc sgc ptc blc s2 sg 2 pk sa d2 u/\mtr stc ogc sgc ptc blc s2 sg 2 pk sa d2 u<=4398046511104):=fun u hu=>⟨mtr_bd hp.1 hp.2.1.1 (fun j hj=>(hp.2.1.2.2.2 j hj).1) hp.2.2.1 ha.1 hu,mtr_bd hp.1 hp.2.1.2.1 (fun j hj=>(hp.2.1.2.2.2 j hj).2.1) hp.2.2.1 ha.2.1 hu,mtr_bd hp.1 hp.2.1.2.2.1 (fun j hj=>(hp.2.1.2.2.2 j hj).2.2) hp.2.2.1 ha.2.2 hu⟩;have hS:Sm3 1125899906842624 (qmot (mtr sta oga sga pta bla s0 sg 0 pk sa d0) (mtr stb ogb sgb ptb blb s1 sg 1 pk sa d1) (mtr stc ogc sgc ptc blc s2 sg 2 pk sa d2) ln w):=Sm3_qmot hp.2.2.1.2.1.1 (fun u hu=>by have:=hb u hu;omega);have hg:=fun i(hi:i<w.length)=>qmot_get (M0:=mtr sta oga sga pta bla s0 sg 0 pk sa d0) (M1:=mtr stb ogb sgb ptb blb s1 sg 1 pk sa d1) (M2:=mtr stc ogc sgc ptc blc s2 sg 2 pk sa d2) (ln:=ln) hi;have hL:=qmot_len (mtr sta oga sga pta bla s0 sg 0 pk sa d0) (mtr stb ogb sgb ptb blb s1 sg 1 pk sa d1) (mtr stc ogc sgc ptc blc s2 sg 2 pk sa d2) ln w;generalize hLe:qmot (mtr sta oga sga pta bla s0 sg 0 pk sa d0) (mtr stb ogb sgb ptb blb s1 sg 1 pk sa d1) (mtr stc ogc sgc ptc blc s2 sg 2 pk sa d2) ln w=L at*;refine hloop_rec (σ:=Nat) (fun i=>([.ce (.ptr 1000004 0), .ce (.ptr 1000005 0), .ce (.ptr 1000006 0), .ce (.bool y), .ce (.sl false [4,4,4] (win L i)), .ce (.lit true), .ce (.sl false [4] w), .ce (I6 (w.length:Int)), .ce (I6 (i:Int))],[[I6 s0,I6 s1,I6 s2, .sl false [4,4,4,4,4,4,4] sg, .sl false [4,4,4] mk],[I6 sta,I6 spa,I6 aca,I6 jea,I6 loa,I6 hia,I6 bla,I6 oga,I6 sga, .sl false [4] pta,I6 stb,I6 spb,I6 acb,I6 jeb,I6 lob,I6 hib,I6 blb,I6 ogb,I6 sgb, .sl false [4] ptb,I6 stc,I6 spc,I6 acc,I6 jec,I6 loc,I6 hic,I6 blc,I6 ogc,I6 sgc, .sl false [4] ptc],[.sl false [4,4,4,4,4,4,4,4,4,4] pk,I6 ln,I6 sa,I6 d0,I6 d1,I6 d2]])) (fun i=>w.length-i) (fun i=>i<=w.length/\wth3 spa aca jea spb acb jeb spc acc jec (L.take i)=true) ?_ 0 ⟨Nat.zero_le _,by rw[wth3_take (Nat.zero_le _)];exact⟨⟨fun j hj=>by omega,fun j hj=>by omega,fun j hj=>by omega⟩,⟨fun j hj=>by omega,fun j hj=>by omega,fun j hj=>by omega⟩,⟨fun j hj=>by omega,fun j hj=>by omega,fun j hj=>by omega⟩⟩⟩;intro i⟨hi,hI⟩K hn hx hr;refine byVB (vbSmo s0 s1 s2 w.length i ln sa d0 d1 d2 y sg mk pk (win L i) w sta spa aca jea loa hia bla oga sga stb spb acb jeb lob hib blb ogb sgb stc spc acc jec loc hic blc ogc sgc pta ptb ptc K) ⟨fun g=> ?_,fun g=> ?_⟩
 . have g:=odt g;have hil:i<w.length:=by omega
   have hb1:=hs i hil;refine⟨by omega,fun x1 e1=> ?_⟩;have e1:x1=el w i:=e1;refine⟨by omega,fun x2 e2=>⟨⟨hp.1,hp.2.1,hp.2.2.1,ha.1,ha.2.1,ha.2.2,hp.2.2.2⟩,fun x3 e3 x4 e4 x5 e5=> ?_⟩⟩;have er:[x3,x4,x5]=L.getD i []:=by rw[hg i hil,e3,e4,e5,e2,e1];rfl
   rw[er,win_next (by omega)];have wl:=win_len L (i:=i) (by omega);have dl:(List.drop (i-4) (List.take (i+1) L)).length=i+1-(i-4):=by simp;omega
   have step:∀(k:Int),k=(i:Int)+1->∀x6:Bool,x6=wth3 spa aca jea spb acb jeb spc acc jec (win L (i+1))->(((!x6)=true->K .ret ([.ce (.bool false)],[[I6 s0,I6 s1,I6 s2, .sl false [4,4,4,4,4,4,4] sg, .sl false [4,4,4] mk],[I6 sta,I6 spa,I6 aca,I6 jea,I6 loa,I6 hia,I6 bla,I6 oga,I6 sga, .sl false [4] pta,I6 stb,I6 spb,I6 acb,I6 jeb,I6 lob,I6 hib,I6 blb,I6 ogb,I6 sgb, .sl false [4] ptb,I6 stc,I6 spc,I6 acc,I6 jec,I6 loc,I6 hic,I6 blc,I6 ogc,I6 sgc, .sl false [4] ptc],[.sl false [4,4,4,4,4,4,4,4,4,4] pk,I6 ln,I6 sa,I6 d0,I6 d1,I6 d2]]))/\((!x6)=false->K .normal ([.ce (.ptr 1000004 0), .ce (.ptr 1000005 0), .ce (.ptr 1000006 0), .ce (.bool y), .ce (.sl false [4,4,4] (win L (i+1))), .ce (.lit true), .ce (.sl false [4] w), .ce (I6 (w.length:Int)), .ce (I6 k)],[[I6 s0,I6 s1,I6 s2, .sl false [4,4,4,4,4,4,4] sg, .sl false [4,4,4] mk],[I6 sta,I6 spa,I6 aca,I6 jea,I6 loa,I6 hia,I6 bla,I6 oga,I6 sga, .sl false [4] pta,I6 stb,I6 spb,I6 acb,I6 jeb,I6 lob,I6 hib,I6 blb,I6 ogb,I6 sgb, .sl false [4] ptb,I6 stc,I6 spc,I6 acc,I6 jec,I6 loc,I6 hic,I6 blc,I6 ogc,I6 sgc, .sl false [4] ptc],[.sl false [4,4,4,4,4,4,4,4,4,4] pk,I6 ln,I6 sa,I6 d0,I6 d1,I6 d2]]))):=by
    intro k ek x6 e6;have nx:=wth3_next (s0:=spa) (a0:=aca) (j0:=jea) (s1:=spb) (a1:=acb) (j1:=jeb) (s2:=spc) (a2:=acc) (j2:=jec) (L:=L) (n:=i) (by omega);refine⟨fun g6=>hr _ (hq2 (wth3_le (n:=i+1) (by omega) ?_)),fun g6=> ?_⟩
    . cases hc:wth3 spa aca jea spb acb jeb spc acc jec (L.take (i+1))
      . rfl
      . have:=(nx.1 hc).2;rw[<-e6]at this;rw[this]at g6;cases g6
    . have:=hn (i+1) ⟨hil,nx.2 ⟨hI,by rw[<-e6];cases x6<;>simp at g6⊢⟩⟩ (by omega);rw[show((i+1:Nat):Int)=k by omega]at this;exact this
   refine⟨⟨by omega,by unfold maxLen;omega⟩,fun g4=> ?_,fun g4=> ?_⟩
   . have g4:=odt g4;rw[dl]at g4;have ew:List.drop 1 (List.drop (i-4) (List.take (i+1) L))=win L (i+1):=by unfold win;rw[List.drop_drop,show i-4+1=i+1-4 by omega]
     rw[ew];refine⟨by rw[dl];omega,⟨by rw[win_len L (by omega)];omega,Sm3_win hS (by omega),hli⟩,fun x6 e6=> ?_⟩;have:=step ((i:Int)+1) rfl x6 e6;exact⟨this.1,fun g6=>⟨by omega,fun x7 e7=>by rw[e7];exact this.2 g6⟩⟩
   . have g4:=odf g4;rw[dl]at g4;have ew:List.drop (i-4) (List.take (i+1) L)=win L (i+1):=by unfold win;rw[show i-4=i+1-4 by omega]
     rw[ew];refine⟨⟨by rw[win_len L (by omega)];omega,Sm3_win hS (by omega),hli⟩,fun x6 e6=> ?_⟩;have:=step ((i:Int)+1) rfl x6 e6;exact⟨this.1,fun g6=>⟨by omega,fun x7 e7=>by rw[e7];exact this.2 g6⟩⟩
 . have g:=odf g;obtain rfl:i=w.length:=by omega
   rw[<-hL,List.take_length]at hI;exact hx _ _ (hq1 hI)
theorem sSmo:Sound Tryz.prog 38 SSmo:=by
 refine sound_of (C:=CSmo) tabSmo Tryz.func38 (by kernel_rfl) (by decide+kernel) (by kernel_rfl) rfl ⟨sQUnit,sMotors,sAll,trivial⟩ (loops1 (by kernel_rfl) (loopOK_of (an:=anSmo) (S:=LSmo) (by kernel_rfl) loopSmo)) ?_;intro hA pA R h;unfold SSmo at h;split at h;case h_2=>exfalso;exact h
 rename_i s0 s1 s2 sg mk ax pk ln sa d0 d1 d2 w;split at h;case h_2=>exact h.elim
 rename_i sta spa aca jea loa hia bla oga sga pta stb spb acb jeb lob hib blb ogb sgb ptb stc spc acc jec loc hic blc ogc sgc ptc;obtain⟨hp,hR⟩:=h;exact byVC (vcSmo s0 s1 s2 ln sa d0 d1 d2 sg mk pk w sta spa aca jea loa hia bla oga sga stb spb acb jeb lob hib blb ogb sgb stc spc acc jec loc hic blc ogc sgc pta ptb ptc R) ⟨⟨rfl,rfl,rfl,hp⟩,fun e=>by rw[e]at hR;exact hR,fun e=>by rw[e]at hR;exact hR⟩
set_option maxHeartbeats 2000000 in theorem sSafe:Sound Tryz.prog 14 SSafe:=by
 refine sound_of (C:=CSafe) tabSafe Tryz.func14 (by kernel_rfl) (by decide+kernel) (by kernel_rfl) rfl ⟨sQFut,sSmo,trivial⟩ (loops0 (by kernel_rfl)) ?_;intro hA pA R h;unfold SSafe at h;split at h;case h_2=>exfalso;exact h
 rename_i s0 s1 s2 sg mk ax pk ln sa d0 d1 d2 A J Rp mu mv ma ml mp mb lim;split at h;case h_2=>exact h.elim
 rename_i sta spa aca jea loa hia bla oga sga pta stb spb acb jeb lob hib blb ogb sgb ptb stc spc acc jec loc hic blc ogc sgc ptc;obtain⟨⟨⟨hp,ha,hli⟩,hpl,⟨hu,hml,hmp,hmb⟩,hlim⟩,hR⟩:=h;refine byVC (vcSafe s0 s1 s2 ln sa d0 d1 d2 A J Rp mu mv ma ml mp mb lim sg mk pk sta spa aca jea loa hia bla oga sga stb spb acb jeb lob hib blb ogb sgb stc spc acc jec loc hic blc ogc sgc pta ptb ptc R) ⟨⟨hpl,hu⟩,⟨_,rfl⟩,fun x e=> ?_⟩;subst e;have hs:=qsp_spd (v:=mv) (a:=ma) hpl;have hl:(qfu A J mu mv ma).length<=4096:=by unfold qfu;rw[qcum_len];exact hs.1
 have hel:∀j,j<(qfu A J mu mv ma).length-> -9000000000000000000<=el (qfu A J mu mv ma) j/\el (qfu A J mu mv ma) j<=9000000000000000000:=fun j hj=>by
  unfold qfu at hj⊢;rw[qcum_len]at hj;rw[el_qcum hj];have:=qsm_bd hs (j+1) (by omega);have:=hs.1;unfold okU at hu;omega
 have he:=qend_bd (u:=mu) hs;rw[show qcum mu (qsp A J mv ma)=qfu A J mu mv ma from rfl]at he;unfold qsafe at hR;refine⟨fun g=> ?_,fun g=> ?_⟩
 . have g:qfok A J mv ma=false:=by simpa using g
   simp only[g,Bool.false_and]at hR;exact hR
 have g:qfok A J mv ma=true:=by simpa using g
 simp only[g,Bool.true_and]at hR;have tail:∀(x3:Int),x3=qend mu (qfu A J mu mv ma)->(-9223372036854775808<=lim*256/\lim*256<=9223372036854775807)/\∀(x4:Int),x4=lim*256->(decide (x3>x4)=true->R ⟨.ce (.bool false),false,[],[]⟩)/\(decide (x3>x4)=false->((4+(qfu A J mu mv ma).length)*8<=140737488355328/\4+(qfu A J mu mv ma).length<=maxLen)/\((([[mb],[mp],[ml],[mu]]++qfu A J mu mv ma).length+2)*8<=140737488355328/\([[mb],[mp],[ml],[mu]]++qfu A J mu mv ma).length+2<=maxLen)/\(okPT s0 s1 s2 sg pk ln sa/\okA3 sta oga sga pta bla stb ogb sgb ptb blb stc ogc sgc ptc blc/\okL3 spa aca jea spb acb jeb spc acc jec/\([[mb],[mp],[ml],[mu]]++qfu A J mu mv ma++[[x3],[x3]]).length<=8000/\Sm 9000000000000000000 ([[mb],[mp],[ml],[mu]]++qfu A J mu mv ma++[[x3],[x3]]))/\∀(x5:Bool),x5=wth3 spa aca jea spb acb jeb spc acc jec (qmot (mtr sta oga sga pta bla s0 sg 0 pk sa d0) (mtr stb ogb sgb ptb blb s1 sg 1 pk sa d1) (mtr stc ogc sgc ptc blc s2 sg 2 pk sa d2) ln ([[mb],[mp],[ml],[mu]]++qfu A J mu mv ma++[[x3],[x3]]))->R ⟨.ce (.bool x5),false,[],[]⟩):=by
  intro x3 e3;refine⟨by omega,fun x4 e4=>⟨fun g3=> ?_,fun g3=>⟨⟨by omega,by unfold maxLen;omega⟩,⟨by simp;omega,by simp;unfold maxLen;omega⟩,⟨hp,ha,hli,by simp;omega,?_⟩,fun x5 e5=> ?_⟩⟩⟩
  . have g3:=odt g3;rw[decide_eq_false (by omega),Bool.false_and]at hR;exact hR
  . unfold okU at hu hml hmp hmb;intro j hj;rw[List.append_assoc,el_append];split
    . rename_i hj4;have hj4:j<4:=hj4;rcases(by omega:j=0∨j=1∨j=2∨j=3)with rfl|rfl|rfl|rfl
      . show-9000000000000000000<=mb/\mb<=9000000000000000000;omega
      . show-9000000000000000000<=mp/\mp<=9000000000000000000;omega
      . show-9000000000000000000<=ml/\ml<=9000000000000000000;omega
      . show-9000000000000000000<=mu/\mu<=9000000000000000000;omega
    . rw[el_append];split
      . rename_i h2;exact hel _ h2
      . rename_i h1 h2;simp at hj h1 h2;rcases(by omega:j-4-(qfu A J mu mv ma).length=0∨j-4-(qfu A J mu mv ma).length=1)with h5|h5
        . rw[show List.length [[mb],[mp],[ml],[mu]]=4 from rfl,h5];show-9000000000000000000<=x3/\x3<=9000000000000000000;omega
        . rw[show List.length [[mb],[mp],[ml],[mu]]=4 from rfl,h5];show-9000000000000000000<=x3/\x3<=9000000000000000000;omega
  . have g3:=odf g3;rw[decide_eq_true (by omega),Bool.true_and]at hR;rw[e5,e3];exact hR
 dsimp only;refine⟨fun g2=>⟨by omega,fun x2 e2=>⟨by have:=odt g2;omega,fun x3 e3=>tail x3 ?_⟩⟩,fun g2=>tail mu ?_⟩
 . have g2:=odt g2;unfold qend;rw[if_neg (by omega),e3,show x2.toNat=(qfu A J mu mv ma).length-1 by omega]
 . have g2:=odf g2;unfold qend;rw[if_pos (by omega)]
theorem loopFit:∀v Q,(LFit v).wp Q->hloop CFit anFit (nthLoop Tryz.f62 0) v Q:=by
 intro v Q h;unfold LFit at h;split at h;case h_2=>exact h.elim
 rename_i y u l len k s0 s1 s2 sg mk pk ln sa d0 d1 d2 A J Rp fo ro ho so oo;obtain⟨⟨h1,h2,hp,h0,s,hl,hs,hu⟩,hq1,hq2⟩:=h;subst h1 h2;have hll:l.length=s.length:=by rw[hl,qcum_len]
 have hsl:=hs.1;have ee:∀i,i<l.length->el l i=u+qsm s i+el s i:=fun i hi=>by rw[hl,el_qcum (by omega),qsm];omega
 have e0:u=u+qsm s 0:=by simp[qsm]
 refine Eq.mp (by rw[<-e0];rfl) (hloop_rec (C:=CFit) (an:=anFit) (c:=nthLoop Tryz.f62 0) (Q:=Q) (σ:=Nat) (fun i=>([.ce (.ptr 1000005 0), .ce (.ptr 1000006 0), .ce (.ptr 1000007 0), .ce (.ptr 1000008 0), .ce (.bool y), .ce (I6 (u+qsm s i)), .ce (.sl false [4] l), .ce (I6 (l.length:Int)), .ce (I6 (i:Int))],[[I6 s0,I6 s1,I6 s2, .sl false [4,4,4,4,4,4,4] sg, .sl false [4,4,4] mk],[.sl false [4,4,4,4,4,4,4,4,4,4] pk,I6 ln,I6 sa,I6 d0,I6 d1,I6 d2],[I6 A,I6 J,I6 Rp],[I6 fo,I6 ro, .bool ho, .bool so, .bool oo]])) (fun i=>l.length-i) (fun i=>i<=l.length/\qfl (qtg ho fo ro Rp sg pk sa ln) u l=qfl (qtg ho fo ro Rp sg pk sa ln) (u+qsm s i) (l.drop i)) ?_ 0 ⟨Nat.zero_le _,by rw[<-e0];rfl⟩);intro i⟨hi,hI⟩K hn hx hr;refine byVB (vbFit s0 s1 s2 ln sa d0 d1 d2 A J Rp fo ro (u+qsm s i) l.length i ho so oo y sg mk pk l K) ⟨fun g=> ?_,fun g=> ?_⟩
 . have g:=odt g;have hil:i<l.length:=by omega
   have b:=qsm_bd hs i (by omega);have c:=hs.2 i (by omega);have e:=ee i hil;rw[qfl_app (u:=u) hil]at hI;unfold okV at hu;refine⟨by omega,fun x1 e1=> ?_⟩;have e1:x1=el l i:=e1;refine⟨by omega,fun x2 e2=>⟨⟨hp,h0,by unfold okU;omega⟩,fun x3 e3=>⟨fun g2=>hr _ (hq2 ?_),fun g2=>⟨by omega,fun x4 e4=> ?_⟩⟩⟩⟩
   . have g2:=odt g2;rw[hI,<-e1,decide_eq_false (by omega),Bool.false_and]
   . have g2:=odf g2;have e9:el l i=u+qsm s (i+1):=by rw[qsm];omega
     have:=hn (i+1) ⟨hil,by rw[hI,<-e9,<-e1,decide_eq_true (by omega),Bool.true_and]⟩ (by omega);rw[<-e9,<-e1,show((i+1:Nat):Int)=x4 by omega]at this;exact this
 . have g:=odf g;obtain rfl:i=l.length:=by omega
   rw[List.drop_length]at hI;exact hx _ _ (hq1 hI)
theorem sFit:Sound Tryz.prog 62 SFit:=by
 refine sound_of (C:=CFit) tabFit Tryz.func62 (by kernel_rfl) (by decide+kernel) (by kernel_rfl) rfl ⟨sQFut,sQTg,trivial⟩ (loops1 (by kernel_rfl) (loopOK_of (an:=anFit) (S:=LFit) (by kernel_rfl) loopFit)) ?_;intro hA pA R h;unfold SFit at h;split at h;case h_2=>exfalso;exact h
 rename_i s0 s1 s2 sg mk pk ln sa d0 d1 d2 A J Rp fo ro ho so oo mu mv ma ml mp mb;obtain⟨⟨hp,hpl,hu⟩,hR⟩:=h;have hu':okU mu:=by unfold okV at hu;unfold okU;omega
 refine byVC (vcFit s0 s1 s2 ln sa d0 d1 d2 A J Rp fo ro mu mv ma ml mp mb ho so oo sg mk pk R) ⟨⟨hpl,hu'⟩,⟨_,rfl⟩,fun x e=> ?_⟩;subst e;unfold qfit at hR;refine⟨fun g=> ?_,fun g=> ?_⟩
 . have g:qfok A J mv ma=false:=by simpa using g
   simp only[g,Bool.false_and]at hR;exact hR
 have g:qfok A J mv ma=true:=by simpa using g
 simp only[g,Bool.true_and]at hR;refine⟨fun g2=> ?_,fun g2=> ?_⟩
 . have g2:sg.length=0:=by simpa using g2
   rw[decide_eq_false (by omega),Bool.false_and]at hR;exact hR
 have g2:sg.length≠0:=by simpa using g2
 rw[decide_eq_true (by omega),Bool.true_and]at hR;refine⟨⟨hp,by omega,hu'⟩,fun x2 e2=>⟨fun g3=> ?_,fun g3=>⟨⟨rfl,rfl,hp,by omega,qsp A J mv ma,rfl,qsp_spd hpl,hu⟩,fun g4=> ?_,fun g4=> ?_⟩⟩⟩
 . have g3:=odt g3;rw[decide_eq_false (by omega),Bool.false_and]at hR;exact hR
 . have g3:=odf g3;rw[decide_eq_true (by omega),Bool.true_and,g4]at hR;exact hR
 . have g3:=odf g3;rw[decide_eq_true (by omega),Bool.true_and,g4]at hR;exact hR
end Go.Proofs.YthkoabbiiadbjaaGreat
namespace U
open Go
def qok(A J:Int)(W:LL->Bool)(Mo:LL->LL)(n:Nat)(T:Int->Int)(m:QM)(lim k:Int):Bool:=decide (0<=m.v+(m.a+k))&&(qready A J (m.v+(m.a+k)) (m.a+k)&&(qfit A J n T (qmove m (m.v+(m.a+k)))&&qsafe A J W Mo (qmove m (m.v+(m.a+k))) lim))
def qpick(ok:Int->Bool):LL->Option Int
 |[]=>none
 |r::l=>if ok (r.getD 0 0)=true then some (r.getD 0 0)else qpick ok l
def qnext(A J:Int)(W:LL->Bool)(Mo:LL->LL)(n:Nat)(T:Int->Int)(m:QM)(lim:Int):QM:=match qpick (qok A J W Mo n T m lim) (chg J)with
 |some k=>qmove m (m.v+(m.a+k))
 |none=>qmove m (m.v+qbrk A J m.v m.a)
def okN(m:QM):Prop:=(-4800000000000000000<=m.u/\m.u<=4800000000000000000)/\(-549755813888<=m.v/\m.v<=549755813888)/\(-549755813888<=m.a/\m.a<=549755813888)/\okU m.l/\okU m.p
def qpk(ok:Int->Bool)(m:QM)(l:LL)(x:Bool×QM):Prop:=(∃k,qpick ok l=some k/\x=(true,qmove m (m.v+(m.a+k))))∨(qpick ok l=none/\x.1=false)
end U
namespace Go.Proofs.YthkoabbiiadbjaaGreat
open Go Go.HL U
def SPNext(hargs:List HV)(pars:List (List HC)):SR:=match hargs,pars with
 |[.agg [.int .i64 s0, .int .i64 s1, .int .i64 s2, .sl false [4,4,4,4,4,4,4] sg, .sl false [4,4,4] mk], .agg ax, .agg [.sl false [4,4,4,4,4,4,4,4,4,4] pk, .int .i64 ln, .int .i64 sa, .int .i64 d0, .int .i64 d1, .int .i64 d2], .agg [.int .i64 A, .int .i64 J, .int .i64 R], .agg [.int .i64 fo, .int .i64 ro, .bool ho, .bool so, .bool oo], .agg [.int .i64 mu, .int .i64 mv, .int .i64 ma, .int .i64 ml, .int .i64 mp, .int .i64 mb], .ce (.int .i64 lim)],[]=>match ax with
  |[.int .i64 sta, .int .i64 spa, .int .i64 aca, .int .i64 jea, .int .i64 loa, .int .i64 hia, .int .i64 bla, .int .i64 oga, .int .i64 sga, .sl false [4] pta, .int .i64 stb, .int .i64 spb, .int .i64 acb, .int .i64 jeb, .int .i64 lob, .int .i64 hib, .int .i64 blb, .int .i64 ogb, .int .i64 sgb, .sl false [4] ptb, .int .i64 stc, .int .i64 spc, .int .i64 acc, .int .i64 jec, .int .i64 loc, .int .i64 hic, .int .i64 blc, .int .i64 ogc, .int .i64 sgc, .sl false [4] ptc]=> .all ((okPT s0 s1 s2 sg pk ln sa/\okA3 sta oga sga pta bla stb ogb sgb ptb blb stc ogc sgc ptc blc/\okL3 spa aca jea spb acb jeb spc acc jec)/\okPl A J R/\okN ⟨mu,mv,ma,ml,mp,mb⟩/\(0<=lim/\lim<=18014398509481984)) QM (fun x=>x=qnext A J (wth3 spa aca jea spb acb jeb spc acc jec) (qmot (mtr sta oga sga pta bla s0 sg 0 pk sa d0) (mtr stb ogb sgb ptb blb s1 sg 1 pk sa d1) (mtr stc ogc sgc ptc blc s2 sg 2 pk sa d2) ln) sg.length (qtg ho fo ro R sg pk sa ln) ⟨mu,mv,ma,ml,mp,mb⟩ lim) (fun x=>⟨.agg [I6 x.u,I6 x.v,I6 x.a,I6 x.l,I6 x.p,I6 x.b],false,[],[]⟩)
  |_=> .fail
 |_,_=> .fail
def anNx:LAnn:=⟨[6,7,8,9,10,11,12,14,15,16,23,24,25],[10,12,14,15,16],[1000007,1000008,1000009,1000010,1000011,1000012,1000014,1000015],false⟩
set_option maxHeartbeats 4000000 in def LNx(v:LV):LR:=match v with
 |([.ce (.int .i64 lim), .ce (.ptr 1000007 0), .ce (.ptr 1000008 0), .ce (.ptr 1000009 0), .ce (.ptr 1000010 0), .ce (.ptr 1000011 0), .ce (.ptr 1000012 0), .ce (.ptr 1000014 0), .ce (.ptr 1000015 0), .ce (.bool y), .ce (.sl false [4] l), .ce (.int .i64 len), .ce (.int .i64 i)],[[.int .i64 s0, .int .i64 s1, .int .i64 s2, .sl false [4,4,4,4,4,4,4] sg, .sl false [4,4,4] mk],ax,tr,[.int .i64 A, .int .i64 J, .int .i64 R],[.int .i64 fo, .int .i64 ro, .bool ho, .bool so, .bool oo],[.int .i64 mu, .int .i64 mv, .int .i64 ma, .int .i64 ml, .int .i64 mp, .int .i64 mb],[.int .i64 z0, .int .i64 z1, .int .i64 z2, .int .i64 z3, .int .i64 z4, .int .i64 z5],[.int .i64 f0, .int .i64 f1, .int .i64 f2, .int .i64 f3, .int .i64 f4, .int .i64 f5]])=>match ax with
  |[.int .i64 sta, .int .i64 spa, .int .i64 aca, .int .i64 jea, .int .i64 loa, .int .i64 hia, .int .i64 bla, .int .i64 oga, .int .i64 sga, .sl false [4] pta, .int .i64 stb, .int .i64 spb, .int .i64 acb, .int .i64 jeb, .int .i64 lob, .int .i64 hib, .int .i64 blb, .int .i64 ogb, .int .i64 sgb, .sl false [4] ptb, .int .i64 stc, .int .i64 spc, .int .i64 acc, .int .i64 jec, .int .i64 loc, .int .i64 hic, .int .i64 blc, .int .i64 ogc, .int .i64 sgc, .sl false [4] ptc]=>match tr with
   |[.sl false [4,4,4,4,4,4,4,4,4,4] pk, .int .i64 ln, .int .i64 sa, .int .i64 d0, .int .i64 d1, .int .i64 d2]=> .all ((okPT s0 s1 s2 sg pk ln sa/\okA3 sta oga sga pta bla stb ogb sgb ptb blb stc ogc sgc ptc blc/\okL3 spa aca jea spb acb jeb spc acc jec)/\okPl A J R/\okN ⟨mu,mv,ma,ml,mp,mb⟩/\(0<=lim/\lim<=18014398509481984)/\y=false/\len=l.length/\i=0/\l.length<=200000/\Sm 65536 l) (Bool×QM) (qpk (qok A J (wth3 spa aca jea spb acb jeb spc acc jec) (qmot (mtr sta oga sga pta bla s0 sg 0 pk sa d0) (mtr stb ogb sgb ptb blb s1 sg 1 pk sa d1) (mtr stc ogc sgc ptc blc s2 sg 2 pk sa d2) ln) sg.length (qtg ho fo ro R sg pk sa ln) ⟨mu,mv,ma,ml,mp,mb⟩ lim) ⟨mu,mv,ma,ml,mp,mb⟩ l) (fun _=> .exit 0) (fun x=>([.ce (.ptr 1000010 0), .ce (.ptr 1000012 0), .ce (.ptr 1000014 0), .ce (.ptr 1000015 0), .ce (.bool x.1)],[[I6 s0,I6 s1,I6 s2, .sl false [4,4,4,4,4,4,4] sg, .sl false [4,4,4] mk],[I6 sta,I6 spa,I6 aca,I6 jea,I6 loa,I6 hia,I6 bla,I6 oga,I6 sga, .sl false [4] pta,I6 stb,I6 spb,I6 acb,I6 jeb,I6 lob,I6 hib,I6 blb,I6 ogb,I6 sgb, .sl false [4] ptb,I6 stc,I6 spc,I6 acc,I6 jec,I6 loc,I6 hic,I6 blc,I6 ogc,I6 sgc, .sl false [4] ptc],[.sl false [4,4,4,4,4,4,4,4,4,4] pk,I6 ln,I6 sa,I6 d0,I6 d1,I6 d2],[I6 A,I6 J,I6 R],[I6 fo,I6 ro, .bool ho, .bool so, .bool oo],[I6 mu,I6 mv,I6 ma,I6 ml,I6 mp,I6 mb],[I6 z0,I6 z1,I6 z2,I6 z3,I6 z4,I6 z5],[I6 x.2.u,I6 x.2.v,I6 x.2.a,I6 x.2.l,I6 x.2.p,I6 x.2.b]]))
   |_=> .fail
  |_=> .fail
 |_=> .fail
def tabNx:List (FuncId×HL.Spec):=[(60,SChg),(61,SQReady),(27,SQMove),(62,SFit),(14,SSafe),(29,SQBrake)]
noncomputable def CNx:Ctx:=⟨Tryz.prog,gam tabNx,Tryz.f30.ntmps,[(4,anNx,LNx)],[]⟩
theorem vbNx(s0 s1 s2 ln sa d0 d1 d2 A J R fo ro mu mv ma ml mp mb lim len i z0 z1 z2 z3 z4 z5 f0 f1 f2 f3 f4 f5:Int)(ho so oo y:Bool)(sg mk pk l:LL)(sta spa aca jea loa hia bla oga sga stb spb acb jeb lob hib blb ogb sgb stc spc acc jec loc hic blc ogc sgc:Int)(pta ptb ptc:LL)(K:HEx->LV->Prop):(nbodyT true CNx anNx (nthLoop Tryz.f30 0) (([.ce (I6 lim), .ce (.ptr 1000007 0), .ce (.ptr 1000008 0), .ce (.ptr 1000009 0), .ce (.ptr 1000010 0), .ce (.ptr 1000011 0), .ce (.ptr 1000012 0), .ce (.ptr 1000014 0), .ce (.ptr 1000015 0), .ce (.bool y), .ce (.sl false [4] l), .ce (I6 len), .ce (I6 i)],[[I6 s0,I6 s1,I6 s2, .sl false [4,4,4,4,4,4,4] sg, .sl false [4,4,4] mk],[I6 sta,I6 spa,I6 aca,I6 jea,I6 loa,I6 hia,I6 bla,I6 oga,I6 sga, .sl false [4] pta,I6 stb,I6 spb,I6 acb,I6 jeb,I6 lob,I6 hib,I6 blb,I6 ogb,I6 sgb, .sl false [4] ptb,I6 stc,I6 spc,I6 acc,I6 jec,I6 loc,I6 hic,I6 blc,I6 ogc,I6 sgc, .sl false [4] ptc],[.sl false [4,4,4,4,4,4,4,4,4,4] pk,I6 ln,I6 sa,I6 d0,I6 d1,I6 d2],[I6 A,I6 J,I6 R],[I6 fo,I6 ro, .bool ho, .bool so, .bool oo],[I6 mu,I6 mv,I6 ma,I6 ml,I6 mp,I6 mb],[I6 z0,I6 z1,I6 z2,I6 z3,I6 z4,I6 z5],[I6 f0,I6 f1,I6 f2,I6 f3,I6 f4,I6 f5]])) K)=(Br (i<len) ((0<=i/\i<(l.length:Int))/\∀x1,x1=el l i.toNat->R6 (ma+x1)/\∀x2,x2=ma+x1->R6 (mv+x2)/\∀x3,x3=mv+x2->Br (x3<0) (R6 (i+1)/\∀x4,x4=i+1->K .normal ([.ce (I6 lim), .ce (.ptr 1000007 0), .ce (.ptr 1000008 0), .ce (.ptr 1000009 0), .ce (.ptr 1000010 0), .ce (.ptr 1000011 0), .ce (.ptr 1000012 0), .ce (.ptr 1000014 0), .ce (.ptr 1000015 0), .ce (.bool y), .ce (.sl false [4] l), .ce (I6 len), .ce (I6 x4)],[[I6 s0,I6 s1,I6 s2, .sl false [4,4,4,4,4,4,4] sg, .sl false [4,4,4] mk],[I6 sta,I6 spa,I6 aca,I6 jea,I6 loa,I6 hia,I6 bla,I6 oga,I6 sga, .sl false [4] pta,I6 stb,I6 spb,I6 acb,I6 jeb,I6 lob,I6 hib,I6 blb,I6 ogb,I6 sgb, .sl false [4] ptb,I6 stc,I6 spc,I6 acc,I6 jec,I6 loc,I6 hic,I6 blc,I6 ogc,I6 sgc, .sl false [4] ptc],[.sl false [4,4,4,4,4,4,4,4,4,4] pk,I6 ln,I6 sa,I6 d0,I6 d1,I6 d2],[I6 A,I6 J,I6 R],[I6 fo,I6 ro, .bool ho, .bool so, .bool oo],[I6 mu,I6 mv,I6 ma,I6 ml,I6 mp,I6 mb],[I6 z0,I6 z1,I6 z2,I6 z3,I6 z4,I6 z5],[I6 f0,I6 f1,I6 f2,I6 f3,I6 f4,I6 f5]])) (R6 (mv+x2)/\∀x5,x5=mv+x2->okPl A J R/\∀(x6:Bool),x6=qready A J x5 x2->Bb (!x6) (R6 (i+1)/\∀x7,x7=i+1->K .normal ([.ce (I6 lim), .ce (.ptr 1000007 0), .ce (.ptr 1000008 0), .ce (.ptr 1000009 0), .ce (.ptr 1000010 0), .ce (.ptr 1000011 0), .ce (.ptr 1000012 0), .ce (.ptr 1000014 0), .ce (.ptr 1000015 0), .ce (.bool y), .ce (.sl false [4] l), .ce (I6 len), .ce (I6 x7)],[[I6 s0,I6 s1,I6 s2, .sl false [4,4,4,4,4,4,4] sg, .sl false [4,4,4] mk],[I6 sta,I6 spa,I6 aca,I6 jea,I6 loa,I6 hia,I6 bla,I6 oga,I6 sga, .sl false [4] pta,I6 stb,I6 spb,I6 acb,I6 jeb,I6 lob,I6 hib,I6 blb,I6 ogb,I6 sgb, .sl false [4] ptb,I6 stc,I6 spc,I6 acc,I6 jec,I6 loc,I6 hic,I6 blc,I6 ogc,I6 sgc, .sl false [4] ptc],[.sl false [4,4,4,4,4,4,4,4,4,4] pk,I6 ln,I6 sa,I6 d0,I6 d1,I6 d2],[I6 A,I6 J,I6 R],[I6 fo,I6 ro, .bool ho, .bool so, .bool oo],[I6 mu,I6 mv,I6 ma,I6 ml,I6 mp,I6 mb],[I6 z0,I6 z1,I6 z2,I6 z3,I6 z4,I6 z5],[I6 f0,I6 f1,I6 f2,I6 f3,I6 f4,I6 f5]])) (R6 (mv+x2)/\∀x8,x8=mv+x2->(okU mu/\(-2199023255552<=x8/\x8<=2199023255552)/\ -2199023255552<=mv/\mv<=2199023255552)/\(∃(x:QM),x=qmove ⟨mu,mv,ma,ml,mp,mb⟩ x8)/\∀(x:QM),x=qmove ⟨mu,mv,ma,ml,mp,mb⟩ x8->((okLen sg/\okTrk pk ln/\0<=sa/\sa<=18014398509481984)/\okPl A J R/\okV x.u)/\∀(x10:Bool),x10=qfit A J (sg.length) (qtg ho fo ro R sg pk sa ln) {u:=x.u,v:=x.v,a:=x.a,l:=x.l,p:=x.p,b:=x.b}->Bb (x10) (((okPT s0 s1 s2 sg pk ln sa/\okA3 sta oga sga pta bla stb ogb sgb ptb blb stc ogc sgc ptc blc/\okL3 spa aca jea spb acb jeb spc acc jec)/\okPl A J R/\(okU x.u/\okU x.l/\okU x.p/\okU x.b)/\0<=lim/\lim<=18014398509481984)/\∀(x11:Bool),x11=qsafe A J (wth3 spa aca jea spb acb jeb spc acc jec) (qmot (mtr sta oga sga pta bla s0 sg (0:Nat) pk sa d0) (mtr stb ogb sgb ptb blb s1 sg (1:Nat) pk sa d1) (mtr stc ogc sgc ptc blc s2 sg (2:Nat) pk sa d2) ln) {u:=x.u,v:=x.v,a:=x.a,l:=x.l,p:=x.p,b:=x.b} lim->Bb (x11) (K (.exit 0) ([.ce (.ptr 1000010 0), .ce (.ptr 1000012 0), .ce (.ptr 1000014 0), .ce (.ptr 1000015 0), .ce (.bool true)],[[I6 s0,I6 s1,I6 s2, .sl false [4,4,4,4,4,4,4] sg, .sl false [4,4,4] mk],[I6 sta,I6 spa,I6 aca,I6 jea,I6 loa,I6 hia,I6 bla,I6 oga,I6 sga, .sl false [4] pta,I6 stb,I6 spb,I6 acb,I6 jeb,I6 lob,I6 hib,I6 blb,I6 ogb,I6 sgb, .sl false [4] ptb,I6 stc,I6 spc,I6 acc,I6 jec,I6 loc,I6 hic,I6 blc,I6 ogc,I6 sgc, .sl false [4] ptc],[.sl false [4,4,4,4,4,4,4,4,4,4] pk,I6 ln,I6 sa,I6 d0,I6 d1,I6 d2],[I6 A,I6 J,I6 R],[I6 fo,I6 ro, .bool ho, .bool so, .bool oo],[I6 mu,I6 mv,I6 ma,I6 ml,I6 mp,I6 mb],[I6 z0,I6 z1,I6 z2,I6 z3,I6 z4,I6 z5],[I6 x.u,I6 x.v,I6 x.a,I6 x.l,I6 x.p,I6 x.b]])) (R6 (i+1)/\∀x12,x12=i+1->K .normal ([.ce (I6 lim), .ce (.ptr 1000007 0), .ce (.ptr 1000008 0), .ce (.ptr 1000009 0), .ce (.ptr 1000010 0), .ce (.ptr 1000011 0), .ce (.ptr 1000012 0), .ce (.ptr 1000014 0), .ce (.ptr 1000015 0), .ce (.bool y), .ce (.sl false [4] l), .ce (I6 len), .ce (I6 x12)],[[I6 s0,I6 s1,I6 s2, .sl false [4,4,4,4,4,4,4] sg, .sl false [4,4,4] mk],[I6 sta,I6 spa,I6 aca,I6 jea,I6 loa,I6 hia,I6 bla,I6 oga,I6 sga, .sl false [4] pta,I6 stb,I6 spb,I6 acb,I6 jeb,I6 lob,I6 hib,I6 blb,I6 ogb,I6 sgb, .sl false [4] ptb,I6 stc,I6 spc,I6 acc,I6 jec,I6 loc,I6 hic,I6 blc,I6 ogc,I6 sgc, .sl false [4] ptc],[.sl false [4,4,4,4,4,4,4,4,4,4] pk,I6 ln,I6 sa,I6 d0,I6 d1,I6 d2],[I6 A,I6 J,I6 R],[I6 fo,I6 ro, .bool ho, .bool so, .bool oo],[I6 mu,I6 mv,I6 ma,I6 ml,I6 mp,I6 mb],[I6 z0,I6 z1,I6 z2,I6 z3,I6 z4,I6 z5],[I6 x.u,I6 x.v,I6 x.a,I6 x.l,I6 x.p,I6 x.b]]))) (R6 (i+1)/\∀x13,x13=i+1->K .normal ([.ce (I6 lim), .ce (.ptr 1000007 0), .ce (.ptr 1000008 0), .ce (.ptr 1000009 0), .ce (.ptr 1000010 0), .ce (.ptr 1000011 0), .ce (.ptr 1000012 0), .ce (.ptr 1000014 0), .ce (.ptr 1000015 0), .ce (.bool y), .ce (.sl false [4] l), .ce (I6 len), .ce (I6 x13)],[[I6 s0,I6 s1,I6 s2, .sl false [4,4,4,4,4,4,4] sg, .sl false [4,4,4] mk],[I6 sta,I6 spa,I6 aca,I6 jea,I6 loa,I6 hia,I6 bla,I6 oga,I6 sga, .sl false [4] pta,I6 stb,I6 spb,I6 acb,I6 jeb,I6 lob,I6 hib,I6 blb,I6 ogb,I6 sgb, .sl false [4] ptb,I6 stc,I6 spc,I6 acc,I6 jec,I6 loc,I6 hic,I6 blc,I6 ogc,I6 sgc, .sl false [4] ptc],[.sl false [4,4,4,4,4,4,4,4,4,4] pk,I6 ln,I6 sa,I6 d0,I6 d1,I6 d2],[I6 A,I6 J,I6 R],[I6 fo,I6 ro, .bool ho, .bool so, .bool oo],[I6 mu,I6 mv,I6 ma,I6 ml,I6 mp,I6 mb],[I6 z0,I6 z1,I6 z2,I6 z3,I6 z4,I6 z5],[I6 x.u,I6 x.v,I6 x.a,I6 x.l,I6 x.p,I6 x.b]]))))) (K (.exit 0) ([.ce (.ptr 1000010 0), .ce (.ptr 1000012 0), .ce (.ptr 1000014 0), .ce (.ptr 1000015 0), .ce (.bool y)],[[I6 s0,I6 s1,I6 s2, .sl false [4,4,4,4,4,4,4] sg, .sl false [4,4,4] mk],[I6 sta,I6 spa,I6 aca,I6 jea,I6 loa,I6 hia,I6 bla,I6 oga,I6 sga, .sl false [4] pta,I6 stb,I6 spb,I6 acb,I6 jeb,I6 lob,I6 hib,I6 blb,I6 ogb,I6 sgb, .sl false [4] ptb,I6 stc,I6 spc,I6 acc,I6 jec,I6 loc,I6 hic,I6 blc,I6 ogc,I6 sgc, .sl false [4] ptc],[.sl false [4,4,4,4,4,4,4,4,4,4] pk,I6 ln,I6 sa,I6 d0,I6 d1,I6 d2],[I6 A,I6 J,I6 R],[I6 fo,I6 ro, .bool ho, .bool so, .bool oo],[I6 mu,I6 mv,I6 ma,I6 ml,I6 mp,I6 mb],[I6 z0,I6 z1,I6 z2,I6 z3,I6 z4,I6 z5],[I6 f0,I6 f1,I6 f2,I6 f3,I6 f4,I6 f5]]))):=by kernel_rfl
theorem vcNx(s0 s1 s2 ln sa d0 d1 d2 A J R fo ro mu mv ma ml mp mb lim:Int)(ho so oo:Bool)(sg mk pk:LL)(sta spa aca jea loa hia bla oga sga stb spb acb jeb lob hib blb ogb sgb stc spc acc jec loc hic blc ogc sgc:Int)(pta ptb ptc:LL)(Q:Res->Prop):(nfun true CNx Tryz.f30 (bodyOf Tryz.f30) [.agg [I6 s0,I6 s1,I6 s2, .sl false [4,4,4,4,4,4,4] sg, .sl false [4,4,4] mk], .agg [I6 sta,I6 spa,I6 aca,I6 jea,I6 loa,I6 hia,I6 bla,I6 oga,I6 sga, .sl false [4] pta,I6 stb,I6 spb,I6 acb,I6 jeb,I6 lob,I6 hib,I6 blb,I6 ogb,I6 sgb, .sl false [4] ptb,I6 stc,I6 spc,I6 acc,I6 jec,I6 loc,I6 hic,I6 blc,I6 ogc,I6 sgc, .sl false [4] ptc], .agg [.sl false [4,4,4,4,4,4,4,4,4,4] pk,I6 ln,I6 sa,I6 d0,I6 d1,I6 d2], .agg [I6 A,I6 J,I6 R], .agg [I6 fo,I6 ro, .bool ho, .bool so, .bool oo], .agg [I6 mu,I6 mv,I6 ma,I6 ml,I6 mp,I6 mb], .ce (I6 lim)] [] Q)=((0<=J/\J<=65536)/\(∃(x:LL),x=chg J)/\∀(x:LL),x=chg J->((okPT s0 s1 s2 sg pk ln sa/\okA3 sta oga sga pta bla stb ogb sgb ptb blb stc ogc sgc ptc blc/\okL3 spa aca jea spb acb jeb spc acc jec)/\okPl A J R/\okN ⟨mu,mv,ma,ml,mp,mb⟩/\(0<=lim/\lim<=18014398509481984)/\false=false/\(x.length:Int)=(x.length:Int)/\(0:Int)=0/\x.length<=200000/\Sm (65536:Int) x)/\∀(x_1:Bool×QM),qpk (qok A J (wth3 spa aca jea spb acb jeb spc acc jec) (qmot (mtr sta oga sga pta bla s0 sg (0:Nat) pk sa d0) (mtr stb ogb sgb ptb blb s1 sg (1:Nat) pk sa d1) (mtr stc ogc sgc ptc blc s2 sg (2:Nat) pk sa d2) ln) (sg.length) (qtg ho fo ro R sg pk sa ln) ⟨mu,mv,ma,ml,mp,mb⟩ lim) ⟨mu,mv,ma,ml,mp,mb⟩ x x_1->Bb (x_1.1) (Q ⟨.agg [I6 x_1.2.u,I6 x_1.2.v,I6 x_1.2.a,I6 x_1.2.l,I6 x_1.2.p,I6 x_1.2.b],false,[],[]⟩) ((okPl A J R/\(-1099511627776<=mv/\mv<=1099511627776)/\ -1099511627776<=ma/\ma<=1099511627776)/\∀x3,x3=qbrk A J mv ma->R6 (mv+x3)/\∀x4,x4=mv+x3->(okU mu/\(-2199023255552<=x4/\x4<=2199023255552)/\ -2199023255552<=mv/\mv<=2199023255552)/\(∃(x:QM),x=qmove ⟨mu,mv,ma,ml,mp,mb⟩ x4)/\∀(x:QM),x=qmove ⟨mu,mv,ma,ml,mp,mb⟩ x4->Q ⟨.agg [I6 x.u,I6 x.v,I6 x.a,I6 x.l,I6 x.p,I6 x.b],false,[],[]⟩)):=by kernel_rfl
end Go.Proofs.YthkoabbiiadbjaaGreat
namespace U
theorem qok_neg{A J:Int}{W:LL->Bool}{Mo:LL->LL}{n:Nat}{T:Int->Int}{m:QM}{lim k:Int}(h:m.v+(m.a+k)<0):qok A J W Mo n T m lim k=false:=by
 unfold qok;rw[decide_eq_false (by omega),Bool.false_and]
theorem qok_nr{A J:Int}{W:LL->Bool}{Mo:LL->LL}{n:Nat}{T:Int->Int}{m:QM}{lim k:Int}(h:qready A J (m.v+(m.a+k)) (m.a+k)=false):qok A J W Mo n T m lim k=false:=by
 unfold qok;rw[h,Bool.false_and,Bool.and_false]
theorem qok_nf{A J:Int}{W:LL->Bool}{Mo:LL->LL}{n:Nat}{T:Int->Int}{m:QM}{lim k:Int}(h:qfit A J n T (qmove m (m.v+(m.a+k)))=false):qok A J W Mo n T m lim k=false:=by
 unfold qok;rw[h,Bool.false_and,Bool.and_false,Bool.and_false]
theorem qok_ns{A J:Int}{W:LL->Bool}{Mo:LL->LL}{n:Nat}{T:Int->Int}{m:QM}{lim k:Int}(h:qsafe A J W Mo (qmove m (m.v+(m.a+k))) lim=false):qok A J W Mo n T m lim k=false:=by
 unfold qok;rw[h,Bool.and_false,Bool.and_false,Bool.and_false]
theorem qok_yes{A J:Int}{W:LL->Bool}{Mo:LL->LL}{n:Nat}{T:Int->Int}{m:QM}{lim k:Int}(h0:0<=m.v+(m.a+k))(h1:qready A J (m.v+(m.a+k)) (m.a+k)=true)(h2:qfit A J n T (qmove m (m.v+(m.a+k)))=true)(h3:qsafe A J W Mo (qmove m (m.v+(m.a+k))) lim=true):qok A J W Mo n T m lim k=true:=by
 unfold qok;rw[h1,h2,h3,decide_eq_true h0];rfl
theorem qpick_skip{ok:Int->Bool}{l:LL}{i:Nat}(h:i<l.length)(hk:ok (el l i)=false):qpick ok (l.drop i)=qpick ok (l.drop (i+1)):=by
 rw[drop_next l h [],qpick,if_neg (by show¬ok (el l i)=true;rw[hk];simp)]
theorem qpick_take{ok:Int->Bool}{l:LL}{i:Nat}(h:i<l.length)(hk:ok (el l i)=true):qpick ok (l.drop i)=some (el l i):=by
 rw[drop_next l h [],qpick];exact if_pos hk
theorem chg_len{J:Int}(h:0<=J/\J<=65536):(chg J).length<=200000:=by
 unfold chg ngl;have:=hlv_len J.toNat J;simp;omega
theorem el_ngl{l:LL}{j:Nat}(h:j<l.length):el (ngl l) j= -(el l j):=by
 unfold ngl el;simp[List.getD_eq_getElem?_getD,h]
theorem chg_bd{J:Int}(h:0<=J/\J<=65536):Sm 65536 (chg J):=by
 intro j hj;have hb:=hlv_bd J.toNat (k:=J) h.2;have hr:∀i,i<(hlv J.toNat J).length->∃k,k<(hlv J.toNat J).length/\el (hlv J.toNat J).reverse i=el (hlv J.toNat J) k:=fun i hi=>⟨(hlv J.toNat J).length-1-i,by omega,by
   have:(hlv J.toNat J).reverse.getD i []=(hlv J.toNat J).getD ((hlv J.toNat J).length-1-i) []:=by rw[List.getD_eq_getElem?_getD,List.getElem?_reverse hi,<-List.getD_eq_getElem?_getD]
   unfold el;rw[this]⟩;unfold chg at hj⊢;rw[List.append_assoc,el_append];split
 . rename_i h1;have:=hb j h1;omega
 . rw[el_append];split
   . rename_i h1 h2;rw[show j-(hlv J.toNat J).length=0 by simp at h2;omega];show-65536<=(0:Int)/\(0:Int)<=65536;omega
   . rename_i h1 h2;simp[ngl]at hj h1 h2;obtain⟨k,k1,k2⟩:=hr (j-(hlv J.toNat J).length-1) (by omega);rw[show List.length [[(0:Int)]]=1 from rfl,el_ngl (by simp;omega),k2];have:=hb k k1;omega
end U
namespace Go.Proofs.YthkoabbiiadbjaaGreat
open Go Go.HL U
attribute [local irreducible] hfun bodyT fragT
set_option maxHeartbeats 4000000 in theorem loopNx:∀v Q,(LNx v).wp Q->hloop CNx anNx (nthLoop Tryz.f30 0) v Q:=by
 intro v Q h;unfold LNx at h;split at h;case h_2=>exact h.elim
 rename_i lim y l len i s0 s1 s2 sg mk ax tr A J Rp fo ro ho so oo mu mv ma ml mp mb z0 z1 z2 z3 z4 z5 f0 f1 f2 f3 f4 f5;split at h;case h_2=>exact h.elim
 rename_i sta spa aca jea loa hia bla oga sga pta stb spb acb jeb lob hib blb ogb sgb ptb stc spc acc jec loc hic blc ogc sgc ptc;split at h;case h_2=>exact h.elim
 rename_i pk ln sa d0 d1 d2;obtain⟨⟨⟨hp,ha,hli⟩,hpl,hm,hlim,h1,h2,h3,h4,h5⟩,hq⟩:=h;subst h1 h2 h3;have hm':=hm;obtain⟨hu,hv,haa,hml,hmp⟩:=hm;dsimp only at hu hv haa hml hmp;have hU:okU mu:=by unfold okU;omega
 refine hloop_rec (σ:=Nat×QM) (fun s=>([.ce (I6 lim), .ce (.ptr 1000007 0), .ce (.ptr 1000008 0), .ce (.ptr 1000009 0), .ce (.ptr 1000010 0), .ce (.ptr 1000011 0), .ce (.ptr 1000012 0), .ce (.ptr 1000014 0), .ce (.ptr 1000015 0), .ce (.bool false), .ce (.sl false [4] l), .ce (I6 (l.length:Int)), .ce (I6 (s.1:Int))],[[I6 s0,I6 s1,I6 s2, .sl false [4,4,4,4,4,4,4] sg, .sl false [4,4,4] mk],[I6 sta,I6 spa,I6 aca,I6 jea,I6 loa,I6 hia,I6 bla,I6 oga,I6 sga, .sl false [4] pta,I6 stb,I6 spb,I6 acb,I6 jeb,I6 lob,I6 hib,I6 blb,I6 ogb,I6 sgb, .sl false [4] ptb,I6 stc,I6 spc,I6 acc,I6 jec,I6 loc,I6 hic,I6 blc,I6 ogc,I6 sgc, .sl false [4] ptc],[.sl false [4,4,4,4,4,4,4,4,4,4] pk,I6 ln,I6 sa,I6 d0,I6 d1,I6 d2],[I6 A,I6 J,I6 Rp],[I6 fo,I6 ro, .bool ho, .bool so, .bool oo],[I6 mu,I6 mv,I6 ma,I6 ml,I6 mp,I6 mb],[I6 z0,I6 z1,I6 z2,I6 z3,I6 z4,I6 z5],[I6 s.2.u,I6 s.2.v,I6 s.2.a,I6 s.2.l,I6 s.2.p,I6 s.2.b]])) (fun s=>l.length-s.1) (fun s=>s.1<=l.length/\qpick (qok A J (wth3 spa aca jea spb acb jeb spc acc jec) (qmot (mtr sta oga sga pta bla s0 sg 0 pk sa d0) (mtr stb ogb sgb ptb blb s1 sg 1 pk sa d1) (mtr stc ogc sgc ptc blc s2 sg 2 pk sa d2) ln) sg.length (qtg ho fo ro Rp sg pk sa ln) ⟨mu,mv,ma,ml,mp,mb⟩ lim) l=qpick (qok A J (wth3 spa aca jea spb acb jeb spc acc jec) (qmot (mtr sta oga sga pta bla s0 sg 0 pk sa d0) (mtr stb ogb sgb ptb blb s1 sg 1 pk sa d1) (mtr stc ogc sgc ptc blc s2 sg 2 pk sa d2) ln) sg.length (qtg ho fo ro Rp sg pk sa ln) ⟨mu,mv,ma,ml,mp,mb⟩ lim) (l.drop s.1)) ?_ (0,⟨f0,f1,f2,f3,f4,f5⟩) ⟨Nat.zero_le _,rfl⟩;rintro⟨i,f⟩⟨hi,hI⟩K hn hx hr;dsimp only at hi hI hn⊢;refine byVB (vbNx s0 s1 s2 ln sa d0 d1 d2 A J Rp fo ro mu mv ma ml mp mb lim l.length i z0 z1 z2 z3 z4 z5 f.u f.v f.a f.l f.p f.b ho so oo false sg mk pk l sta spa aca jea loa hia bla oga sga stb spb acb jeb lob hib blb ogb sgb stc spc acc jec loc hic blc ogc sgc pta ptb ptc K) ⟨fun g=> ?_,fun g=> ?_⟩
 . have g:=odt g;have hil:i<l.length:=by omega
   have hb:=h5 i hil;have sk:=fun(f:QM)(k:Int)(ek:k=(i:Int)+1)hk=>hn (i+1,f) ⟨hil,hI.trans (qpick_skip hil hk)⟩ (by dsimp only;omega);refine⟨by omega,fun x1 e1=> ?_⟩;have e1:x1=el l i:=e1;rw[<-e1]at hb sk;have tk:=fun hk=>hI.trans (qpick_take hil hk);rw[<-e1]at tk;clear hn;refine⟨by omega,fun x2 e2=>⟨by omega,fun x3 e3=>⟨fun g3=>⟨by omega,fun x4 e4=> ?_⟩,fun g3=>⟨by omega,fun x5 e5=>⟨hpl,fun x6 e6=>⟨fun g6=>⟨by omega,fun x7 e7=> ?_⟩,fun g6=>⟨by omega,fun x8 e8=>⟨⟨hU,by omega,by omega⟩,⟨_,rfl⟩,fun x ex=> ?_⟩⟩⟩⟩⟩⟩⟩⟩
   . have g3:=odt g3;have:=sk f x4 e4 (qok_neg (by show mv+(ma+x1)<0;omega));rw[show((i+1:Nat):Int)=x4 by omega]at this;exact this
   . have:=sk f x7 e7 (qok_nr (by show qready A J (mv+(ma+x1)) (ma+x1)=false;rw[<-e2,<-e5,<-e6];cases x6<;>simp at g6⊢));rw[show((i+1:Nat):Int)=x7 by omega]at this;exact this
   . have g3:=odf g3;have ex':qmove ⟨mu,mv,ma,ml,mp,mb⟩ (mv+(ma+x1))=x:=by rw[ex,e8,e2]
     have hvr:qready A J (mv+(ma+x1)) (ma+x1)=true:=by rw[<-e2,<-e5,<-e6];cases x6<;>simp at g6⊢
     have xu:x.u=mu+x8:=by rw[ex];rfl
     have xl:x.l=mu:=by rw[ex];rfl
     have xp:x.p=ml:=by rw[ex];rfl
     have xb:x.b=mp:=by rw[ex];rfl
     refine⟨⟨⟨hp.1,hp.2.2.1,hp.2.2.2⟩,hpl,by unfold okV;omega⟩,fun x10 e10=>⟨fun g10=>⟨⟨⟨hp,ha,hli⟩,hpl,⟨by unfold okU;omega,by rw[xl];exact hU,by rw[xp];exact hml,by rw[xb];exact hmp⟩,hlim⟩,fun x11 e11=>⟨fun g11=> ?_,fun g11=>⟨by omega,fun x12 e12=> ?_⟩⟩⟩,fun g10=>⟨by omega,fun x13 e13=> ?_⟩⟩⟩
     . have:=hq (true,x) (.inl ⟨x1,tk (qok_yes (by show 0<=mv+(ma+x1);omega) hvr (by show qfit A J sg.length _ (qmove ⟨mu,mv,ma,ml,mp,mb⟩ (mv+(ma+x1)))=true;rw[ex',<-g10,e10]) (by show qsafe A J _ _ (qmove ⟨mu,mv,ma,ml,mp,mb⟩ (mv+(ma+x1))) lim=true;rw[ex',<-g11,e11])),by rw[<-ex']⟩);exact hx 0 _ this
     . have:=sk x x12 e12 (qok_ns (by show qsafe A J _ _ (qmove ⟨mu,mv,ma,ml,mp,mb⟩ (mv+(ma+x1))) lim=false;rw[ex',<-g11,e11]));rw[show((i+1:Nat):Int)=x12 by omega]at this;exact this
     . have:=sk x x13 e13 (qok_nf (by show qfit A J sg.length _ (qmove ⟨mu,mv,ma,ml,mp,mb⟩ (mv+(ma+x1)))=false;rw[ex',<-g10,e10]));rw[show((i+1:Nat):Int)=x13 by omega]at this;exact this
 . have g:=odf g;obtain rfl:i=l.length:=by omega
   rw[List.drop_length]at hI;exact hx 0 _ (hq (false,f) (.inr ⟨hI,rfl⟩))
set_option maxHeartbeats 4000000 in theorem sNx:Sound Tryz.prog 30 SPNext:=by
 refine sound_of (C:=CNx) tabNx Tryz.func30 (by kernel_rfl) (by decide+kernel) (by kernel_rfl) rfl ⟨sChg,sQReady,sQMove,sFit,sSafe,sQBrake,trivial⟩ (loops1 (by kernel_rfl) (loopOK_of (an:=anNx) (S:=LNx) (by kernel_rfl) loopNx)) ?_;intro hargs pars R h;unfold SPNext at h;split at h;case h_2=>exfalso;exact h
 rename_i s0 s1 s2 sg mk ax pk ln sa d0 d1 d2 A J Rp fo ro ho so oo mu mv ma ml mp mb lim;split at h;case h_2=>exact h.elim
 rename_i sta spa aca jea loa hia bla oga sga pta stb spb acb jeb lob hib blb ogb sgb ptb stc spc acc jec loc hic blc ogc sgc ptc;obtain⟨⟨hpp,hpl,hm,hlim⟩,_,hR⟩:=h;have hm':=hm;obtain⟨hu,hv,haa,hml,hmp⟩:=hm;dsimp only at hu hv haa hml hmp;have hJ:0<=J/\J<=65536:=by have:=hpl.2.1;omega
 refine byVC (vcNx s0 s1 s2 ln sa d0 d1 d2 A J Rp fo ro mu mv ma ml mp mb lim ho so oo sg mk pk sta spa aca jea loa hia bla oga sga stb spb acb jeb lob hib blb ogb sgb stc spc acc jec loc hic blc ogc sgc pta ptb ptc R) ⟨hJ,⟨_,rfl⟩,fun x e=> ?_⟩;subst e;refine⟨⟨hpp,hpl,hm',hlim,rfl,rfl,rfl,chg_len hJ,chg_bd hJ⟩,fun x hx=>⟨fun g=> ?_,fun g=>⟨⟨hpl,by omega,by omega⟩,fun x3 e3=> ?_⟩⟩⟩
 . rcases hx with⟨k,hk,ex⟩|⟨_,ex⟩
   . exact hR x.2 (by unfold qnext;rw[hk,ex])
   . rw[ex]at g;cases g
 . rcases hx with⟨k,hk,ex⟩|⟨hk,_⟩
   . rw[ex]at g;cases g
   . have b:=Go.Proofs.YthkoabbiiadbjaaGreat.qb_le (J:=J) (v:=mv) (qhi A J ma-(-ma-J)).toNat (l:= -ma-J) (h:=qhi A J ma);have hA:=hpl.1;have e9:x3= -(qbs J mv (qhi A J ma-(-ma-J)).toNat (-ma-J) (qhi A J ma)):=e3;have hq9:qhi A J ma<=65536:=by unfold qhi;omega
     refine⟨by omega,fun x4 e4=>⟨⟨by unfold okU;omega,by omega,by omega⟩,⟨_,rfl⟩,fun x ex=>hR x ?_⟩⟩;unfold qnext;rw[hk,ex,e4,e3]
end Go.Proofs.YthkoabbiiadbjaaGreat
namespace U
open Go
structure ShS where
 r:RunS
 A:Int
 J:Int
 R:Int
def okShop(x:ShS):Prop:=okRun x.r/\x.r.f=0/\(1<=x.A/\x.A<=900)/\(2<=x.J/\x.J<=201)/\(1<=x.R/\x.R<=16000)
open Go.HL in
def shopC(x:ShS):List HC:=[.int .i64 x.r.s0, .int .i64 x.r.s1, .int .i64 x.r.s2, .sl false [4,4,4,4,4,4,4] x.r.sg, .sl false [4,4,4] x.r.mks, .int .i64 x.r.a.st, .int .i64 x.r.a.sp, .int .i64 x.r.a.ac, .int .i64 x.r.a.je, .int .i64 (-16777216), .int .i64 16777216, .int .i64 x.r.a.bl, .int .i64 x.r.a.og, .int .i64 x.r.a.sg, .sl false [4] x.r.a.pit, .int .i64 x.r.b.st, .int .i64 x.r.b.sp, .int .i64 x.r.b.ac, .int .i64 x.r.b.je, .int .i64 (-16777216), .int .i64 16777216, .int .i64 x.r.b.bl, .int .i64 x.r.b.og, .int .i64 x.r.b.sg, .sl false [4] x.r.b.pit, .int .i64 x.r.c.st, .int .i64 x.r.c.sp, .int .i64 x.r.c.ac, .int .i64 x.r.c.je, .int .i64 (-16777216), .int .i64 16777216, .int .i64 x.r.c.bl, .int .i64 x.r.c.og, .int .i64 x.r.c.sg, .sl false [4] x.r.c.pit, .sl false [4,4,4,4,4,4,4,4,4,4] x.r.pk, .int .i64 x.r.ln, .int .i64 x.r.f, .int .i64 x.r.d0, .int .i64 x.r.d1, .int .i64 x.r.d2, .int .i64 x.A, .int .i64 x.J, .int .i64 x.R, .int .i64 x.r.ln]
end U
namespace Go.Proofs.YthkoabbiiadbjaaGreat
open Go Go.HL U
def SPla(hA:List HV)(pA:List (List HC)):SR:=match hA,pA with
 |[.ce (.sl false [4] l)],[]=> .all (l.length<=9223372036854775807) (Int×Int×Int) (fun x=>(1<=x.1/\x.1<=900)/\(2<=x.2.1/\x.2.1<=201)/\(1<=x.2.2/\x.2.2<=16000)) (fun x=>⟨.agg [I6 x.1,I6 x.2.1,I6 x.2.2],false,[],[]⟩)
 |_,_=> .fail
def tabPla:List (FuncId×HL.Spec):=[(24,SFrom),(25,SNext)]
noncomputable def CPla:Ctx:=⟨Tryz.prog,gam tabPla,Tryz.f7.ntmps,[],[]⟩
theorem vcPla(l:LL)(Q:Res->Prop):(nfun true CPla Tryz.f7 (bodyOf Tryz.f7) [.ce (.sl false [4] l)] [] Q)=(True/\∀(x1:LL),x1=l->∀(x2:Int),x2=0->((0:Int)<900/\(900:Int)<=4611686018427387904/\inSrc x1 x2)/\(∃(x:Int×Int),drew x1 x2 (900:Int) x)/\∀(x:Int×Int),drew x1 x2 (900:Int) x->(-9223372036854775808<=1+x.1/\(1:Int)+x.1<=9223372036854775807)/\∀x4,x4=1+x.1->((0:Int)<200/\(200:Int)<=4611686018427387904/\inSrc x1 x.2)/\(∃(x_1:Int×Int),drew x1 x.2 (200:Int) x_1)/\∀(x_1:Int×Int),drew x1 x.2 (200:Int) x_1->(-9223372036854775808<=2+x_1.1/\(2:Int)+x_1.1<=9223372036854775807)/\∀x6,x6=2+x_1.1->((0:Int)<16000/\(16000:Int)<=4611686018427387904/\inSrc x1 x_1.2)/\(∃(x:Int×Int),drew x1 x_1.2 (16000:Int) x)/\∀(x:Int×Int),drew x1 x_1.2 (16000:Int) x->(-9223372036854775808<=1+x.1/\(1:Int)+x.1<=9223372036854775807)/\∀x8,x8=1+x.1->Q ⟨.agg [I6 x4,I6 x6,I6 x8],false,[],[]⟩):=by kernel_rfl
end Go.Proofs.YthkoabbiiadbjaaGreat
namespace U
theorem okB_path{x:BSt}(h:okB 355000 x):okPath x.s0 x.s1 x.s2 x.sg x.mks:=⟨h.2.1,h.2.2.1,h.2.2.2.2.2.1,h.2.2.2.2.2.2⟩
end U
namespace Go.Proofs.YthkoabbiiadbjaaGreat
section
open Go Go.HL U
attribute [local irreducible] hfun bodyT fragT
theorem sPla:Sound Tryz.prog 7 SPla:=by
 refine sound_of (C:=CPla) tabPla Tryz.func7 (by kernel_rfl) (by decide+kernel) (by kernel_rfl) rfl ⟨sFrom,sNext,trivial⟩ (loops0 (by kernel_rfl)) ?_;intro hA pA R h;unfold SPla at h;split at h;case h_2=>exfalso;exact h
 rename_i l;obtain⟨hl,_,hR⟩:=h;refine byVC (vcPla l R) ⟨trivial,?_⟩;intro x1 e1 x2 e2;rw[e1,e2];have s0:inSrc l 0:=⟨Int.le_refl _,hl⟩;refine⟨⟨by decide,by decide,s0⟩,drew_ex _ _ (by decide),fun y1 h1=> ?_⟩;have s1:=drew_src s0 h1;have b1:=h1.1;have b1':=h1.2.1;refine⟨by omega,fun x4 e4=>⟨⟨by decide,by decide,s1⟩,drew_ex _ _ (by decide),fun y2 h2=> ?_⟩⟩;have s2:=drew_src s1 h2;have b2:=h2.1;have b2':=h2.2.1;refine⟨by omega,fun x6 e6=>⟨⟨by decide,by decide,s2⟩,drew_ex _ _ (by decide),fun y3 h3=> ?_⟩⟩;have b3':=h3.1;have b3'':=h3.2.1;exact⟨by omega,fun x8 e8=>hR (x4,x6,x8) ⟨by dsimp only;omega,by dsimp only;omega,by dsimp only;omega⟩⟩
end
open Go Go.HL U
def STB(hA:List HV)(pA:List (List HC)):SR:=match hA,pA with
 |[.ce (.sl false ks l)],[]=>bif ksEq ks [4,4,4,4,4,4,4,4,4,4,4,4,4,0,4,0,4,4,4,4,4,0]then .all (ntL l/\l.length<=5) (BSt×Int) (fun x=>okB 355000 x.1) (fun x=>⟨.tup [.agg [I6 x.1.s0,I6 x.1.s1,I6 x.1.s2, .sl false [4,4,4,4,4,4,4] x.1.sg, .sl false [4,4,4] x.1.mks], .ce (I6 x.2)],false,[],[]⟩)else .fail
 |_,_=> .fail
def tabTB:List (FuncId×HL.Spec):=[(44,SChkT),(45,SMotE),(46,SOther),(47,SFine),(48,SRtT),(49,SSynE),(50,SPtsT),(51,SLength),(52,SSofT),(53,SKndT)]
def anTK8:LAnn:=⟨[0,2,3,5,6,7,8,9,10,11,12,23,24,25],[0,2,3,5,6,7,8,9,10,11,12,23,24,25,42],[1000002,1000005,1000006,1000012],false⟩
def LTB0(v:LV):LR:=match v with
 |([.ce (.sl false ks l), .ce (.ptr 1000002 0), .ce (.int .i64 r), .ce (.ptr 1000005 0), .ce (.ptr 1000006 0), .ce (.int .i64 n), .ce (.int .i64 s), .ce (.int .i64 fr), .ce (.bool bg), .ce (.sl false ks2 l2), .ce (.int .i64 m), .ce (.int .i64 i)],[rb,pb,ab])=>bif ksEq ks [4,4,4,4,4,4,4,4,4,4,4,4,4,0,4,0,4,4,4,4,4,0]&&ksEq ks2 [4,4,4,4,4,4,4,4,4,4,4,4,4,0,4,0,4,4,4,4,4,0]then match rb with
  |[.int .i64 z0, .int .i64 z1, .int .i64 z2, .sl true [4,4,4,4,4,4,4] zs, .sl true [4,4,4] zm]=>match pb with
   |[.int .i64 s0, .int .i64 s1, .int .i64 s2, .sl true [4,4,4,4,4,4,4] sg, .sl true [4,4,4] mk]=>match ab with
    |[.int .i64 a0, .int .i64 a1, .int .i64 a2]=> .all (l2=l/\m=(l.length:Int)/\ntL l/\l.length<=5/\i=0/\s=0/\fr= -1/\bg=false/\mk.length=0/\okB 0 ⟨a0,a1,a2,n,s0,s1,s2,sg,mk,-1,false⟩) BSt (okB 355000) (fun _=> .exit 0) (fun x=>([.ce (.ptr 1000002 0), .ce (I6 r), .ce (.ptr 1000005 0)],[[I6 z0,I6 z1,I6 z2, .sl true [4,4,4,4,4,4,4] zs, .sl true [4,4,4] zm],[I6 x.s0,I6 x.s1,I6 x.s2, .sl true [4,4,4,4,4,4,4] x.sg, .sl true [4,4,4] x.mks],[I6 x.a0,I6 x.a1,I6 x.a2]]))
    |_=> .fail
   |_=> .fail
  |_=> .fail else .fail
 |_=> .fail
def LTK8(v:LV):LR:=match v with
 |([.ce (.sl false ks l), .ce (.ptr 1000002 0), .ce (.int .i64 r), .ce (.ptr 1000005 0), .ce (.ptr 1000006 0), .ce (.int .i64 n), .ce (.int .i64 s), .ce (.int .i64 fr), .ce (.bool bg), .ce (.int .i64 ix), .ce (.ptr 1000012 0), .ce (.sl false ks2 l2), .ce (.int .i64 m), .ce (.int .i64 i)],[rb,pb,ab,ib])=>bif ksEq ks [4,4,4,4,4,4,4,4,4,4,4,4,4,0,4,0,4,4,4,4,4,0]&&ksEq ks2 [4,4,4,4,4,4,4,4,4,4,4,4,4,0,4,0,4,4,4,4,4,0]then match rb with
  |[.int .i64 z0, .int .i64 z1, .int .i64 z2, .sl true [4,4,4,4,4,4,4] zs, .sl true [4,4,4] zm]=>match pb with
   |[.int .i64 s0, .int .i64 s1, .int .i64 s2, .sl true [4,4,4,4,4,4,4] sg, .sl true [4,4,4] mk]=>match ab with
    |[.int .i64 a0, .int .i64 a1, .int .i64 a2]=>match ib with
     |[.int .i64 k0, .int .i64 bk, .int .i64 f0, .int .i64 f1, .int .i64 f2, .int .i64 t0, .int .i64 t1, .int .i64 t2, .int .i64 pl, .int .i64 c0, .int .i64 c1, .int .i64 c2, .int .i64 dr, .bool fu, .int .i64 fd, .bool pr, .int .i64 sd, .int .i64 ra, .int .i64 bl, .int .i64 nn, .int .i64 sp, .bool on]=> .all True Bool (fun _=>True) (fun _=> .normal) (fun y=>([.ce (.sl false [4,4,4,4,4,4,4,4,4,4,4,4,4,0,4,0,4,4,4,4,4,0] l), .ce (.ptr 1000002 0), .ce (I6 r), .ce (.ptr 1000005 0), .ce (.ptr 1000006 0), .ce (I6 n), .ce (I6 s), .ce (I6 fr), .ce (.bool bg), .ce (I6 ix), .ce (.ptr 1000012 0), .ce (.sl false [4,4,4,4,4,4,4,4,4,4,4,4,4,0,4,0,4,4,4,4,4,0] l2), .ce (I6 m), .ce (I6 i), .ce (.bool y)],[[I6 z0,I6 z1,I6 z2, .sl true [4,4,4,4,4,4,4] zs, .sl true [4,4,4] zm],[I6 s0,I6 s1,I6 s2, .sl true [4,4,4,4,4,4,4] sg, .sl true [4,4,4] mk],[I6 a0,I6 a1,I6 a2],[I6 k0,I6 bk,I6 f0,I6 f1,I6 f2,I6 t0,I6 t1,I6 t2,I6 pl,I6 c0,I6 c1,I6 c2,I6 dr, .bool fu,I6 fd, .bool pr,I6 sd,I6 ra,I6 bl,I6 nn,I6 sp, .bool on]]))
     |_=> .fail
    |_=> .fail
   |_=> .fail
  |_=> .fail else .fail
 |_=> .fail
noncomputable def CTB:Ctx:=⟨Tryz.prog,gam tabTB,Tryz.f20.ntmps,[(7,anB0,LTB0),(19,anB1,LB1),(3000009,anTK8,LTK8)],[]⟩
theorem vgTK8(r n s fr m i z0 z1 z2 s0 s1 s2 a0 a1 a2 ix:Int)(bg:Bool)(k0 bk f0 f1 f2 t0 t1 t2 pl c0 c1 c2 dr fd sd ra bl nn sp:Int)(fu pr on:Bool)(l l2 zs zm sg mk:LL)(K:HEx->LV->Prop):(nfragT true CTB anTK8 (nthFrag CTB Tryz.f20 0) (([.ce (.sl false [4,4,4,4,4,4,4,4,4,4,4,4,4,0,4,0,4,4,4,4,4,0] l), .ce (.ptr 1000002 0), .ce (I6 r), .ce (.ptr 1000005 0), .ce (.ptr 1000006 0), .ce (I6 n), .ce (I6 s), .ce (I6 fr), .ce (.bool bg), .ce (I6 ix), .ce (.ptr 1000012 0), .ce (.sl false [4,4,4,4,4,4,4,4,4,4,4,4,4,0,4,0,4,4,4,4,4,0] l2), .ce (I6 m), .ce (I6 i)],[[I6 z0,I6 z1,I6 z2, .sl true [4,4,4,4,4,4,4] zs, .sl true [4,4,4] zm],[I6 s0,I6 s1,I6 s2, .sl true [4,4,4,4,4,4,4] sg, .sl true [4,4,4] mk],[I6 a0,I6 a1,I6 a2],[I6 k0,I6 bk,I6 f0,I6 f1,I6 f2,I6 t0,I6 t1,I6 t2,I6 pl,I6 c0,I6 c1,I6 c2,I6 dr, .bool fu,I6 fd, .bool pr,I6 sd,I6 ra,I6 bl,I6 nn,I6 sp, .bool on]])) K)=(Bb (k0==8) (Bb (nn==3) (K .normal ([.ce (.sl false [4,4,4,4,4,4,4,4,4,4,4,4,4,0,4,0,4,4,4,4,4,0] l), .ce (.ptr 1000002 0), .ce (I6 r), .ce (.ptr 1000005 0), .ce (.ptr 1000006 0), .ce (I6 n), .ce (I6 s), .ce (I6 fr), .ce (.bool bg), .ce (I6 ix), .ce (.ptr 1000012 0), .ce (.sl false [4,4,4,4,4,4,4,4,4,4,4,4,4,0,4,0,4,4,4,4,4,0] l2), .ce (I6 m), .ce (I6 i), .ce (.bool true)],[[I6 z0,I6 z1,I6 z2, .sl true [4,4,4,4,4,4,4] zs, .sl true [4,4,4] zm],[I6 s0,I6 s1,I6 s2, .sl true [4,4,4,4,4,4,4] sg, .sl true [4,4,4] mk],[I6 a0,I6 a1,I6 a2],[I6 k0,I6 bk,I6 f0,I6 f1,I6 f2,I6 t0,I6 t1,I6 t2,I6 pl,I6 c0,I6 c1,I6 c2,I6 dr, .bool fu,I6 fd, .bool pr,I6 sd,I6 ra,I6 bl,I6 nn,I6 sp, .bool on]])) (K .normal ([.ce (.sl false [4,4,4,4,4,4,4,4,4,4,4,4,4,0,4,0,4,4,4,4,4,0] l), .ce (.ptr 1000002 0), .ce (I6 r), .ce (.ptr 1000005 0), .ce (.ptr 1000006 0), .ce (I6 n), .ce (I6 s), .ce (I6 fr), .ce (.bool bg), .ce (I6 ix), .ce (.ptr 1000012 0), .ce (.sl false [4,4,4,4,4,4,4,4,4,4,4,4,4,0,4,0,4,4,4,4,4,0] l2), .ce (I6 m), .ce (I6 i), .ce (.bool (nn==4))],[[I6 z0,I6 z1,I6 z2, .sl true [4,4,4,4,4,4,4] zs, .sl true [4,4,4] zm],[I6 s0,I6 s1,I6 s2, .sl true [4,4,4,4,4,4,4] sg, .sl true [4,4,4] mk],[I6 a0,I6 a1,I6 a2],[I6 k0,I6 bk,I6 f0,I6 f1,I6 f2,I6 t0,I6 t1,I6 t2,I6 pl,I6 c0,I6 c1,I6 c2,I6 dr, .bool fu,I6 fd, .bool pr,I6 sd,I6 ra,I6 bl,I6 nn,I6 sp, .bool on]]))) (K .normal ([.ce (.sl false [4,4,4,4,4,4,4,4,4,4,4,4,4,0,4,0,4,4,4,4,4,0] l), .ce (.ptr 1000002 0), .ce (I6 r), .ce (.ptr 1000005 0), .ce (.ptr 1000006 0), .ce (I6 n), .ce (I6 s), .ce (I6 fr), .ce (.bool bg), .ce (I6 ix), .ce (.ptr 1000012 0), .ce (.sl false [4,4,4,4,4,4,4,4,4,4,4,4,4,0,4,0,4,4,4,4,4,0] l2), .ce (I6 m), .ce (I6 i), .ce (.bool false)],[[I6 z0,I6 z1,I6 z2, .sl true [4,4,4,4,4,4,4] zs, .sl true [4,4,4] zm],[I6 s0,I6 s1,I6 s2, .sl true [4,4,4,4,4,4,4] sg, .sl true [4,4,4] mk],[I6 a0,I6 a1,I6 a2],[I6 k0,I6 bk,I6 f0,I6 f1,I6 f2,I6 t0,I6 t1,I6 t2,I6 pl,I6 c0,I6 c1,I6 c2,I6 dr, .bool fu,I6 fd, .bool pr,I6 sd,I6 ra,I6 bl,I6 nn,I6 sp, .bool on]]))):=by kernel_rfl
theorem vbTB1(r n s ix m i qn j z0 z1 z2 s0 s1 s2 a0 a1 a2 g0 g1 g2 g3 g4 g5 g6:Int)(k0 bk f0 f1 f2 t0 t1 t2 pl c0 c1 c2 dr fd sd ra bl nn sp:Int)(fu pr on:Bool)(bg:Bool)(l l2 q zs zm sg mk:LL)(K:HEx->LV->Prop):(nbodyT true CTB anB1 (nthLoop Tryz.f20 1) (([.ce (.sl false [4,4,4,4,4,4,4,4,4,4,4,4,4,0,4,0,4,4,4,4,4,0] l), .ce (.ptr 1000002 0), .ce (I6 r), .ce (.ptr 1000005 0), .ce (.ptr 1000006 0), .ce (I6 n), .ce (I6 s), .ce (.bool bg), .ce (I6 ix), .ce (.ptr 1000012 0), .ce (.ptr 1000013 0), .ce (.sl false [4,4,4,4,4,4,4,4,4,4,4,4,4,0,4,0,4,4,4,4,4,0] l2), .ce (I6 m), .ce (I6 i), .ce (.sl false [4,4,4] q), .ce (I6 qn), .ce (I6 j)],[[I6 z0,I6 z1,I6 z2, .sl true [4,4,4,4,4,4,4] zs, .sl true [4,4,4] zm],[I6 s0,I6 s1,I6 s2, .sl true [4,4,4,4,4,4,4] sg, .sl true [4,4,4] mk],[I6 a0,I6 a1,I6 a2],[I6 k0,I6 bk,I6 f0,I6 f1,I6 f2,I6 t0,I6 t1,I6 t2,I6 pl,I6 c0,I6 c1,I6 c2,I6 dr, .bool fu,I6 fd, .bool pr,I6 sd,I6 ra,I6 bl,I6 nn,I6 sp, .bool on],[I6 g0,I6 g1,I6 g2,I6 g3,I6 g4,I6 g5,I6 g6]])) K)=(Br (j<qn) ((0<=j/\j<(q.length:Int))/\Bb (el q j.toNat==a0&&(ec q j.toNat 1==a1&&(ec q j.toNat 2==a2&&true))) (R6 (j+1)/\∀x1,x1=j+1->K .normal ([.ce (.sl false [4,4,4,4,4,4,4,4,4,4,4,4,4,0,4,0,4,4,4,4,4,0] l), .ce (.ptr 1000002 0), .ce (I6 r), .ce (.ptr 1000005 0), .ce (.ptr 1000006 0), .ce (I6 n), .ce (I6 s), .ce (.bool bg), .ce (I6 ix), .ce (.ptr 1000012 0), .ce (.ptr 1000013 0), .ce (.sl false [4,4,4,4,4,4,4,4,4,4,4,4,4,0,4,0,4,4,4,4,4,0] l2), .ce (I6 m), .ce (I6 i), .ce (.sl false [4,4,4] q), .ce (I6 qn), .ce (I6 x1)],[[I6 z0,I6 z1,I6 z2, .sl true [4,4,4,4,4,4,4] zs, .sl true [4,4,4] zm],[I6 s0,I6 s1,I6 s2, .sl true [4,4,4,4,4,4,4] sg, .sl true [4,4,4] mk],[I6 a0,I6 a1,I6 a2],[I6 k0,I6 bk,I6 f0,I6 f1,I6 f2,I6 t0,I6 t1,I6 t2,I6 pl,I6 c0,I6 c1,I6 c2,I6 dr, .bool fu,I6 fd, .bool pr,I6 sd,I6 ra,I6 bl,I6 nn,I6 sp, .bool on],[I6 g0,I6 g1,I6 g2,I6 g3,I6 g4,I6 g5,I6 g6]])) ((b3 268435456 a0 a1 a2/\b3 268435456 (el q j.toNat) (ec q j.toNat 1) (ec q j.toNat 2))/\(∃(x:Int),isLen a0 a1 a2 (el q j.toNat) (ec q j.toNat 1) (ec q j.toNat 2) x)/\∀(x:Int),isLen a0 a1 a2 (el q j.toNat) (ec q j.toNat 1) (ec q j.toNat 2) x->((sg.length+1)*56<=140737488355328/\sg.length+1<=maxLen)/\R6 (n+x)/\∀x3,x3=n+x->Br ((((List.length (sg++[[el q j.toNat,ec q j.toNat 1,ec q j.toNat 2,x,g4,g5,g6]])):Nat):Int)>1048576) (K .ret ([.ce (.sl false [4,4,4,4,4,4,4,4,4,4,4,4,4,0,4,0,4,4,4,4,4,0] l), .ce (.ptr 1000002 0), .ce (I6 10), .ce (.ptr 1000005 0), .ce (.ptr 1000006 0), .ce (I6 x3), .ce (I6 s), .ce (.bool bg), .ce (I6 ix), .ce (.ptr 1000012 0), .ce (.sl false [4,4,4,4,4,4,4,4,4,4,4,4,4,0,4,0,4,4,4,4,4,0] l2), .ce (I6 m), .ce (I6 i)],[[I6 0,I6 0,I6 0, .sl true [4,4,4,4,4,4,4] [], .sl true [4,4,4] []],[I6 s0,I6 s1,I6 s2, .sl true [4,4,4,4,4,4,4] (sg++[[el q j.toNat,ec q j.toNat 1,ec q j.toNat 2,x,g4,g5,g6]]), .sl true [4,4,4] mk],[I6 (el q j.toNat),I6 (ec q j.toNat 1),I6 (ec q j.toNat 2)],[I6 k0,I6 bk,I6 f0,I6 f1,I6 f2,I6 t0,I6 t1,I6 t2,I6 pl,I6 c0,I6 c1,I6 c2,I6 dr, .bool fu,I6 fd, .bool pr,I6 sd,I6 ra,I6 bl,I6 nn,I6 sp, .bool on],[I6 (el q j.toNat),I6 (ec q j.toNat 1),I6 (ec q j.toNat 2),I6 x,I6 g4,I6 g5,I6 g6]])) (R6 (j+1)/\∀x4,x4=j+1->K .normal ([.ce (.sl false [4,4,4,4,4,4,4,4,4,4,4,4,4,0,4,0,4,4,4,4,4,0] l), .ce (.ptr 1000002 0), .ce (I6 r), .ce (.ptr 1000005 0), .ce (.ptr 1000006 0), .ce (I6 x3), .ce (I6 s), .ce (.bool bg), .ce (I6 ix), .ce (.ptr 1000012 0), .ce (.ptr 1000013 0), .ce (.sl false [4,4,4,4,4,4,4,4,4,4,4,4,4,0,4,0,4,4,4,4,4,0] l2), .ce (I6 m), .ce (I6 i), .ce (.sl false [4,4,4] q), .ce (I6 qn), .ce (I6 x4)],[[I6 z0,I6 z1,I6 z2, .sl true [4,4,4,4,4,4,4] zs, .sl true [4,4,4] zm],[I6 s0,I6 s1,I6 s2, .sl true [4,4,4,4,4,4,4] (sg++[[el q j.toNat,ec q j.toNat 1,ec q j.toNat 2,x,g4,g5,g6]]), .sl true [4,4,4] mk],[I6 (el q j.toNat),I6 (ec q j.toNat 1),I6 (ec q j.toNat 2)],[I6 k0,I6 bk,I6 f0,I6 f1,I6 f2,I6 t0,I6 t1,I6 t2,I6 pl,I6 c0,I6 c1,I6 c2,I6 dr, .bool fu,I6 fd, .bool pr,I6 sd,I6 ra,I6 bl,I6 nn,I6 sp, .bool on],[I6 (el q j.toNat),I6 (ec q j.toNat 1),I6 (ec q j.toNat 2),I6 x,I6 g4,I6 g5,I6 g6]])))) (K (.exit 2) ([.ce (.sl false [4,4,4,4,4,4,4,4,4,4,4,4,4,0,4,0,4,4,4,4,4,0] l), .ce (.ptr 1000002 0), .ce (I6 r), .ce (.ptr 1000005 0), .ce (.ptr 1000006 0), .ce (I6 n), .ce (I6 s), .ce (.bool bg), .ce (I6 ix), .ce (.ptr 1000012 0), .ce (.sl false [4,4,4,4,4,4,4,4,4,4,4,4,4,0,4,0,4,4,4,4,4,0] l2), .ce (I6 m), .ce (I6 i)],[[I6 z0,I6 z1,I6 z2, .sl true [4,4,4,4,4,4,4] zs, .sl true [4,4,4] zm],[I6 s0,I6 s1,I6 s2, .sl true [4,4,4,4,4,4,4] sg, .sl true [4,4,4] mk],[I6 a0,I6 a1,I6 a2],[I6 k0,I6 bk,I6 f0,I6 f1,I6 f2,I6 t0,I6 t1,I6 t2,I6 pl,I6 c0,I6 c1,I6 c2,I6 dr, .bool fu,I6 fd, .bool pr,I6 sd,I6 ra,I6 bl,I6 nn,I6 sp, .bool on],[I6 g0,I6 g1,I6 g2,I6 g3,I6 g4,I6 g5,I6 g6]]))):=by kernel_rfl
theorem vbTB0(r n s fr m i z0 z1 z2 s0 s1 s2 a0 a1 a2:Int)(bg:Bool)(l zs zm sg mk:LL)(K:HEx->LV->Prop):(nbodyT true CTB anB0 (nthLoop Tryz.f20 0) (([.ce (.sl false [4,4,4,4,4,4,4,4,4,4,4,4,4,0,4,0,4,4,4,4,4,0] l), .ce (.ptr 1000002 0), .ce (I6 r), .ce (.ptr 1000005 0), .ce (.ptr 1000006 0), .ce (I6 n), .ce (I6 s), .ce (I6 fr), .ce (.bool bg), .ce (.sl false [4,4,4,4,4,4,4,4,4,4,4,4,4,0,4,0,4,4,4,4,4,0] l), .ce (I6 m), .ce (I6 i)],[[I6 z0,I6 z1,I6 z2, .sl true [4,4,4,4,4,4,4] zs, .sl true [4,4,4] zm],[I6 s0,I6 s1,I6 s2, .sl true [4,4,4,4,4,4,4] sg, .sl true [4,4,4] mk],[I6 a0,I6 a1,I6 a2]])) K)=(Br (i<m) ((0<=i/\i<(l.length:Int))/\True/\∀(x:Bool),True->Bb (x) (True/\∀(x2:Bool),x2=decide (1<=el l i.toNat/\el l i.toNat<=6)->Bb (!x2) (True/\(∃(x:Int),True)/\∀(x:Int),True->((mk.length+1)*24<=140737488355328/\mk.length+1<=maxLen)/\R6 (i+1)/\∀x4,x4=i+1->K .normal ([.ce (.sl false [4,4,4,4,4,4,4,4,4,4,4,4,4,0,4,0,4,4,4,4,4,0] l), .ce (.ptr 1000002 0), .ce (I6 r), .ce (.ptr 1000005 0), .ce (.ptr 1000006 0), .ce (I6 n), .ce (I6 (ec l i.toNat 20)), .ce (I6 fr), .ce (.bool bg), .ce (.sl false [4,4,4,4,4,4,4,4,4,4,4,4,4,0,4,0,4,4,4,4,4,0] l), .ce (I6 m), .ce (I6 x4)],[[I6 z0,I6 z1,I6 z2, .sl true [4,4,4,4,4,4,4] zs, .sl true [4,4,4] zm],[I6 s0,I6 s1,I6 s2, .sl true [4,4,4,4,4,4,4] sg, .sl true [4,4,4] (mk++[[n,x,i]])],[I6 a0,I6 a1,I6 a2]])) (Bb (!bg) (b3 1073741824 (ec l i.toNat 2) (ec l i.toNat 3) (ec l i.toNat 4)/\∀x5,x5=ec l i.toNat 2*16->∀x6,x6=ec l i.toNat 3*16->∀x7,x7=ec l i.toNat 4*16->b3 1073741824 (ec l i.toNat 2) (ec l i.toNat 3) (ec l i.toNat 4)/\∀x8,x8=ec l i.toNat 2*16->∀x9,x9=ec l i.toNat 3*16->∀x10,x10=ec l i.toNat 4*16->((0<=ec l i.toNat 14/\ec l i.toNat 14<=200)/\0<=ec l i.toNat 20/\ec l i.toNat 20<=3000)/\(∃(x:Int),0<=x/\x<=16777216)/\∀(x:Int),0<=x/\x<=16777216->True/\∀(x12:Bool),x12=decide (el l i.toNat=5∨el l i.toNat=6)->Bb (x12) (R6 (ec l i.toNat 14*16)/\∀x13,x13=ec l i.toNat 14*16->∀x14,x14=min x13 16777216->((0<=i/\i<(l.length:Int))/\ntL l)/\(∃(x:LL),x.length<=2/\ptsOK (32768:Int) x)/\∀(x:LL),x.length<=2/\ptsOK (32768:Int) x->((x.length:Int)=(x.length:Int)/\(0:Int)=0/\x.length<=71000/\ptsOK (32768:Int) x/\okB (284000:Nat) {a0:=x8,a1:=x9,a2:=x10,n:=n,s0:=x5,s1:=x6,s2:=x7,sg:=sg,mks:=mk,fr:=(-1:Int),bg:=false})/\∀(x:BSt×Int×Int×Int×Int),okB (sg.length+71000) x.1/\x.1.s0=x5/\x.1.s1=x6/\x.1.s2=x7/\x.1.mks=mk->((0<=i/\i<(l.length:Int))/\ntL l)/\∀(x17:Int),x17=(-1:Int)->Br (x17>=0) (((0<=i/\i<(l.length:Int))/\ntL l/\ec l i.toNat 0=5)/\(∃(x:Int),True)/\∀(x_1:Int),True->((List.length x.1.mks+1)*nat_lit 24<=140737488355328/\List.length x.1.mks+1<=maxLen)/\R6 (i+1)/\∀x19,x19=i+1->K .normal ([.ce (.sl false [4,4,4,4,4,4,4,4,4,4,4,4,4,0,4,0,4,4,4,4,4,0] l), .ce (.ptr 1000002 0), .ce (I6 r), .ce (.ptr 1000005 0), .ce (.ptr 1000006 0), .ce (I6 x.1.n), .ce (I6 (ec l i.toNat (nat_lit 20))), .ce (I6 i), .ce (.bool true), .ce (.sl false [4,4,4,4,4,4,4,4,4,4,4,4,4,0,4,0,4,4,4,4,4,0] l), .ce (I6 m), .ce (I6 x19)],[[I6 z0,I6 z1,I6 z2, .sl true [4,4,4,4,4,4,4] zs, .sl true [4,4,4] zm],[I6 x.1.s0,I6 x.1.s1,I6 x.1.s2, .sl true [4,4,4,4,4,4,4] x.1.sg, .sl true [4,4,4] (x.1.mks++[[x.1.n,x_1,i]])],[I6 x.1.a0,I6 x.1.a1,I6 x.1.a2]])) (((0<=i/\i<(l.length:Int))/\ntL l/\ec l i.toNat 0=5)/\(∃(x:Int),True)/\∀(x_1:Int),True->((List.length x.1.mks+1)*nat_lit 24<=140737488355328/\List.length x.1.mks+1<=maxLen)/\R6 (i+1)/\∀x21,x21=i+1->K .normal ([.ce (.sl false [4,4,4,4,4,4,4,4,4,4,4,4,4,0,4,0,4,4,4,4,4,0] l), .ce (.ptr 1000002 0), .ce (I6 r), .ce (.ptr 1000005 0), .ce (.ptr 1000006 0), .ce (I6 x.1.n), .ce (I6 (ec l i.toNat (nat_lit 20))), .ce (I6 (-1)), .ce (.bool true), .ce (.sl false [4,4,4,4,4,4,4,4,4,4,4,4,4,0,4,0,4,4,4,4,4,0] l), .ce (I6 m), .ce (I6 x21)],[[I6 z0,I6 z1,I6 z2, .sl true [4,4,4,4,4,4,4] zs, .sl true [4,4,4] zm],[I6 x.1.s0,I6 x.1.s1,I6 x.1.s2, .sl true [4,4,4,4,4,4,4] x.1.sg, .sl true [4,4,4] (x.1.mks++[[x.1.n,x_1,i]])],[I6 x.1.a0,I6 x.1.a1,I6 x.1.a2]]))) (((0<=i/\i<(l.length:Int))/\ntL l)/\(∃(x:LL),x.length<=2/\ptsOK (32768:Int) x)/\∀(x:LL),x.length<=2/\ptsOK (32768:Int) x->((x.length:Int)=(x.length:Int)/\(0:Int)=0/\x.length<=71000/\ptsOK (32768:Int) x/\okB (284000:Nat) {a0:=x8,a1:=x9,a2:=x10,n:=n,s0:=x5,s1:=x6,s2:=x7,sg:=sg,mks:=mk,fr:=(-1:Int),bg:=false})/\∀(x:BSt×Int×Int×Int×Int),okB (sg.length+71000) x.1/\x.1.s0=x5/\x.1.s1=x6/\x.1.s2=x7/\x.1.mks=mk->((0<=i/\i<(l.length:Int))/\ntL l)/\∀(x24:Int),x24=(-1:Int)->Br (x24>=0) (((0<=i/\i<(l.length:Int))/\ntL l/\ec l i.toNat 0=5)/\(∃(x:Int),True)/\∀(x_1:Int),True->((List.length x.1.mks+1)*nat_lit 24<=140737488355328/\List.length x.1.mks+1<=maxLen)/\R6 (i+1)/\∀x26,x26=i+1->K .normal ([.ce (.sl false [4,4,4,4,4,4,4,4,4,4,4,4,4,0,4,0,4,4,4,4,4,0] l), .ce (.ptr 1000002 0), .ce (I6 r), .ce (.ptr 1000005 0), .ce (.ptr 1000006 0), .ce (I6 x.1.n), .ce (I6 (ec l i.toNat (nat_lit 20))), .ce (I6 i), .ce (.bool true), .ce (.sl false [4,4,4,4,4,4,4,4,4,4,4,4,4,0,4,0,4,4,4,4,4,0] l), .ce (I6 m), .ce (I6 x26)],[[I6 z0,I6 z1,I6 z2, .sl true [4,4,4,4,4,4,4] zs, .sl true [4,4,4] zm],[I6 x.1.s0,I6 x.1.s1,I6 x.1.s2, .sl true [4,4,4,4,4,4,4] x.1.sg, .sl true [4,4,4] (x.1.mks++[[x.1.n,x_1,i]])],[I6 x.1.a0,I6 x.1.a1,I6 x.1.a2]])) (((0<=i/\i<(l.length:Int))/\ntL l/\ec l i.toNat 0=5)/\(∃(x:Int),True)/\∀(x_1:Int),True->((List.length x.1.mks+1)*nat_lit 24<=140737488355328/\List.length x.1.mks+1<=maxLen)/\R6 (i+1)/\∀x28,x28=i+1->K .normal ([.ce (.sl false [4,4,4,4,4,4,4,4,4,4,4,4,4,0,4,0,4,4,4,4,4,0] l), .ce (.ptr 1000002 0), .ce (I6 r), .ce (.ptr 1000005 0), .ce (.ptr 1000006 0), .ce (I6 x.1.n), .ce (I6 (ec l i.toNat (nat_lit 20))), .ce (I6 (-1)), .ce (.bool true), .ce (.sl false [4,4,4,4,4,4,4,4,4,4,4,4,4,0,4,0,4,4,4,4,4,0] l), .ce (I6 m), .ce (I6 x28)],[[I6 z0,I6 z1,I6 z2, .sl true [4,4,4,4,4,4,4] zs, .sl true [4,4,4] zm],[I6 x.1.s0,I6 x.1.s1,I6 x.1.s2, .sl true [4,4,4,4,4,4,4] x.1.sg, .sl true [4,4,4] (x.1.mks++[[x.1.n,x_1,i]])],[I6 x.1.a0,I6 x.1.a1,I6 x.1.a2]])))) (((0<=ec l i.toNat 14/\ec l i.toNat 14<=200)/\0<=ec l i.toNat 20/\ec l i.toNat 20<=3000)/\(∃(x:Int),0<=x/\x<=16777216)/\∀(x:Int),0<=x/\x<=16777216->True/\∀(x30:Bool),x30=decide (el l i.toNat=5∨el l i.toNat=6)->Bb (x30) (R6 (ec l i.toNat 14*16)/\∀x31,x31=ec l i.toNat 14*16->∀x32,x32=min x31 16777216->((0<=i/\i<(l.length:Int))/\ntL l)/\(∃(x:LL),x.length<=2/\ptsOK (32768:Int) x)/\∀(x:LL),x.length<=2/\ptsOK (32768:Int) x->((x.length:Int)=(x.length:Int)/\(0:Int)=0/\x.length<=71000/\ptsOK (32768:Int) x/\okB (284000:Nat) {a0:=a0,a1:=a1,a2:=a2,n:=n,s0:=s0,s1:=s1,s2:=s2,sg:=sg,mks:=mk,fr:=(-1:Int),bg:=false})/\∀(x:BSt×Int×Int×Int×Int),okB (sg.length+71000) x.1/\x.1.s0=s0/\x.1.s1=s1/\x.1.s2=s2/\x.1.mks=mk->((0<=i/\i<(l.length:Int))/\ntL l)/\∀(x35:Int),x35=(-1:Int)->Br (x35>=0) (((0<=i/\i<(l.length:Int))/\ntL l/\ec l i.toNat 0=5)/\(∃(x:Int),True)/\∀(x_1:Int),True->((List.length x.1.mks+1)*24<=140737488355328/\List.length x.1.mks+1<=maxLen)/\R6 (i+1)/\∀x37,x37=i+1->K .normal ([.ce (.sl false [4,4,4,4,4,4,4,4,4,4,4,4,4,0,4,0,4,4,4,4,4,0] l), .ce (.ptr 1000002 0), .ce (I6 r), .ce (.ptr 1000005 0), .ce (.ptr 1000006 0), .ce (I6 x.1.n), .ce (I6 (ec l i.toNat (nat_lit 20))), .ce (I6 i), .ce (.bool bg), .ce (.sl false [4,4,4,4,4,4,4,4,4,4,4,4,4,0,4,0,4,4,4,4,4,0] l), .ce (I6 m), .ce (I6 x37)],[[I6 z0,I6 z1,I6 z2, .sl true [4,4,4,4,4,4,4] zs, .sl true [4,4,4] zm],[I6 x.1.s0,I6 x.1.s1,I6 x.1.s2, .sl true [4,4,4,4,4,4,4] x.1.sg, .sl true [4,4,4] (x.1.mks++[[x.1.n,x_1,i]])],[I6 x.1.a0,I6 x.1.a1,I6 x.1.a2]])) (((0<=i/\i<(l.length:Int))/\ntL l/\ec l i.toNat 0=5)/\(∃(x:Int),True)/\∀(x_1:Int),True->((List.length x.1.mks+1)*24<=140737488355328/\List.length x.1.mks+1<=maxLen)/\R6 (i+1)/\∀x39,x39=i+1->K .normal ([.ce (.sl false [4,4,4,4,4,4,4,4,4,4,4,4,4,0,4,0,4,4,4,4,4,0] l), .ce (.ptr 1000002 0), .ce (I6 r), .ce (.ptr 1000005 0), .ce (.ptr 1000006 0), .ce (I6 x.1.n), .ce (I6 (ec l i.toNat (nat_lit 20))), .ce (I6 (-1)), .ce (.bool bg), .ce (.sl false [4,4,4,4,4,4,4,4,4,4,4,4,4,0,4,0,4,4,4,4,4,0] l), .ce (I6 m), .ce (I6 x39)],[[I6 z0,I6 z1,I6 z2, .sl true [4,4,4,4,4,4,4] zs, .sl true [4,4,4] zm],[I6 x.1.s0,I6 x.1.s1,I6 x.1.s2, .sl true [4,4,4,4,4,4,4] x.1.sg, .sl true [4,4,4] (x.1.mks++[[x.1.n,x_1,i]])],[I6 x.1.a0,I6 x.1.a1,I6 x.1.a2]]))) (((0<=i/\i<(l.length:Int))/\ntL l)/\(∃(x:LL),x.length<=2/\ptsOK (32768:Int) x)/\∀(x:LL),x.length<=2/\ptsOK (32768:Int) x->((x.length:Int)=(x.length:Int)/\(0:Int)=0/\x.length<=71000/\ptsOK (32768:Int) x/\okB (284000:Nat) {a0:=a0,a1:=a1,a2:=a2,n:=n,s0:=s0,s1:=s1,s2:=s2,sg:=sg,mks:=mk,fr:=(-1:Int),bg:=false})/\∀(x:BSt×Int×Int×Int×Int),okB (sg.length+71000) x.1/\x.1.s0=s0/\x.1.s1=s1/\x.1.s2=s2/\x.1.mks=mk->((0<=i/\i<(l.length:Int))/\ntL l)/\∀(x42:Int),x42=(-1:Int)->Br (x42>=0) (((0<=i/\i<(l.length:Int))/\ntL l/\ec l i.toNat 0=5)/\(∃(x:Int),True)/\∀(x_1:Int),True->((List.length x.1.mks+1)*24<=140737488355328/\List.length x.1.mks+1<=maxLen)/\R6 (i+1)/\∀x44,x44=i+1->K .normal ([.ce (.sl false [4,4,4,4,4,4,4,4,4,4,4,4,4,0,4,0,4,4,4,4,4,0] l), .ce (.ptr 1000002 0), .ce (I6 r), .ce (.ptr 1000005 0), .ce (.ptr 1000006 0), .ce (I6 x.1.n), .ce (I6 (ec l i.toNat 20)), .ce (I6 i), .ce (.bool bg), .ce (.sl false [4,4,4,4,4,4,4,4,4,4,4,4,4,0,4,0,4,4,4,4,4,0] l), .ce (I6 m), .ce (I6 x44)],[[I6 z0,I6 z1,I6 z2, .sl true [4,4,4,4,4,4,4] zs, .sl true [4,4,4] zm],[I6 x.1.s0,I6 x.1.s1,I6 x.1.s2, .sl true [4,4,4,4,4,4,4] x.1.sg, .sl true [4,4,4] (x.1.mks++[[x.1.n,x_1,i]])],[I6 x.1.a0,I6 x.1.a1,I6 x.1.a2]])) (((0<=i/\i<(l.length:Int))/\ntL l/\ec l i.toNat 0=5)/\(∃(x:Int),True)/\∀(x_1:Int),True->((List.length x.1.mks+1)*24<=140737488355328/\List.length x.1.mks+1<=maxLen)/\R6 (i+1)/\∀x46,x46=i+1->K .normal ([.ce (.sl false [4,4,4,4,4,4,4,4,4,4,4,4,4,0,4,0,4,4,4,4,4,0] l), .ce (.ptr 1000002 0), .ce (I6 r), .ce (.ptr 1000005 0), .ce (.ptr 1000006 0), .ce (I6 x.1.n), .ce (I6 (ec l i.toNat 20)), .ce (I6 (-1)), .ce (.bool bg), .ce (.sl false [4,4,4,4,4,4,4,4,4,4,4,4,4,0,4,0,4,4,4,4,4,0] l), .ce (I6 m), .ce (I6 x46)],[[I6 z0,I6 z1,I6 z2, .sl true [4,4,4,4,4,4,4] zs, .sl true [4,4,4] zm],[I6 x.1.s0,I6 x.1.s1,I6 x.1.s2, .sl true [4,4,4,4,4,4,4] x.1.sg, .sl true [4,4,4] (x.1.mks++[[x.1.n,x_1,i]])],[I6 x.1.a0,I6 x.1.a1,I6 x.1.a2]])))))) (True/\∀(x47:Bool),x47=decide (1<=el l i.toNat/\el l i.toNat<=6)->Bb (!x47) (True/\(∃(x:Int),True)/\∀(x:Int),True->((mk.length+1)*24<=140737488355328/\mk.length+1<=maxLen)/\R6 (i+1)/\∀x49,x49=i+1->K .normal ([.ce (.sl false [4,4,4,4,4,4,4,4,4,4,4,4,4,0,4,0,4,4,4,4,4,0] l), .ce (.ptr 1000002 0), .ce (I6 r), .ce (.ptr 1000005 0), .ce (.ptr 1000006 0), .ce (I6 n), .ce (I6 s), .ce (I6 fr), .ce (.bool bg), .ce (.sl false [4,4,4,4,4,4,4,4,4,4,4,4,4,0,4,0,4,4,4,4,4,0] l), .ce (I6 m), .ce (I6 x49)],[[I6 z0,I6 z1,I6 z2, .sl true [4,4,4,4,4,4,4] zs, .sl true [4,4,4] zm],[I6 s0,I6 s1,I6 s2, .sl true [4,4,4,4,4,4,4] sg, .sl true [4,4,4] (mk++[[n,x,i]])],[I6 a0,I6 a1,I6 a2]])) (Bb (!bg) (b3 1073741824 (ec l i.toNat 2) (ec l i.toNat 3) (ec l i.toNat 4)/\∀x50,x50=ec l i.toNat 2*16->∀x51,x51=ec l i.toNat 3*16->∀x52,x52=ec l i.toNat 4*16->b3 1073741824 (ec l i.toNat 2) (ec l i.toNat 3) (ec l i.toNat 4)/\∀x53,x53=ec l i.toNat 2*16->∀x54,x54=ec l i.toNat 3*16->∀x55,x55=ec l i.toNat 4*16->((0<=ec l i.toNat 14/\ec l i.toNat 14<=200)/\0<=s/\s<=3000)/\(∃(x:Int),0<=x/\x<=16777216)/\∀(x:Int),0<=x/\x<=16777216->True/\∀(x57:Bool),x57=decide (el l i.toNat=5∨el l i.toNat=6)->Bb (x57) (R6 (ec l i.toNat 14*16)/\∀x58,x58=ec l i.toNat 14*16->∀x59,x59=min x58 16777216->((0<=i/\i<(l.length:Int))/\ntL l)/\(∃(x:LL),x.length<=2/\ptsOK (32768:Int) x)/\∀(x:LL),x.length<=2/\ptsOK (32768:Int) x->((x.length:Int)=(x.length:Int)/\(0:Int)=0/\x.length<=71000/\ptsOK (32768:Int) x/\okB (284000:Nat) {a0:=x53,a1:=x54,a2:=x55,n:=n,s0:=x50,s1:=x51,s2:=x52,sg:=sg,mks:=mk,fr:=(-1:Int),bg:=false})/\∀(x:BSt×Int×Int×Int×Int),okB (sg.length+71000) x.1/\x.1.s0=x50/\x.1.s1=x51/\x.1.s2=x52/\x.1.mks=mk->((0<=i/\i<(l.length:Int))/\ntL l)/\∀(x62:Int),x62=(-1:Int)->Br (x62>=0) (((0<=i/\i<(l.length:Int))/\ntL l/\ec l i.toNat 0=5)/\(∃(x:Int),True)/\∀(x_1:Int),True->((List.length x.1.mks+1)*nat_lit 24<=140737488355328/\List.length x.1.mks+1<=maxLen)/\R6 (i+1)/\∀x64,x64=i+1->K .normal ([.ce (.sl false [4,4,4,4,4,4,4,4,4,4,4,4,4,0,4,0,4,4,4,4,4,0] l), .ce (.ptr 1000002 0), .ce (I6 r), .ce (.ptr 1000005 0), .ce (.ptr 1000006 0), .ce (I6 x.1.n), .ce (I6 s), .ce (I6 i), .ce (.bool true), .ce (.sl false [4,4,4,4,4,4,4,4,4,4,4,4,4,0,4,0,4,4,4,4,4,0] l), .ce (I6 m), .ce (I6 x64)],[[I6 z0,I6 z1,I6 z2, .sl true [4,4,4,4,4,4,4] zs, .sl true [4,4,4] zm],[I6 x.1.s0,I6 x.1.s1,I6 x.1.s2, .sl true [4,4,4,4,4,4,4] x.1.sg, .sl true [4,4,4] (x.1.mks++[[x.1.n,x_1,i]])],[I6 x.1.a0,I6 x.1.a1,I6 x.1.a2]])) (((0<=i/\i<(l.length:Int))/\ntL l/\ec l i.toNat 0=5)/\(∃(x:Int),True)/\∀(x_1:Int),True->((List.length x.1.mks+1)*nat_lit 24<=140737488355328/\List.length x.1.mks+1<=maxLen)/\R6 (i+1)/\∀x66,x66=i+1->K .normal ([.ce (.sl false [4,4,4,4,4,4,4,4,4,4,4,4,4,0,4,0,4,4,4,4,4,0] l), .ce (.ptr 1000002 0), .ce (I6 r), .ce (.ptr 1000005 0), .ce (.ptr 1000006 0), .ce (I6 x.1.n), .ce (I6 s), .ce (I6 (-1)), .ce (.bool true), .ce (.sl false [4,4,4,4,4,4,4,4,4,4,4,4,4,0,4,0,4,4,4,4,4,0] l), .ce (I6 m), .ce (I6 x66)],[[I6 z0,I6 z1,I6 z2, .sl true [4,4,4,4,4,4,4] zs, .sl true [4,4,4] zm],[I6 x.1.s0,I6 x.1.s1,I6 x.1.s2, .sl true [4,4,4,4,4,4,4] x.1.sg, .sl true [4,4,4] (x.1.mks++[[x.1.n,x_1,i]])],[I6 x.1.a0,I6 x.1.a1,I6 x.1.a2]]))) (((0<=i/\i<(l.length:Int))/\ntL l)/\(∃(x:LL),x.length<=2/\ptsOK (32768:Int) x)/\∀(x:LL),x.length<=2/\ptsOK (32768:Int) x->((x.length:Int)=(x.length:Int)/\(0:Int)=0/\x.length<=71000/\ptsOK (32768:Int) x/\okB (284000:Nat) {a0:=x53,a1:=x54,a2:=x55,n:=n,s0:=x50,s1:=x51,s2:=x52,sg:=sg,mks:=mk,fr:=(-1:Int),bg:=false})/\∀(x:BSt×Int×Int×Int×Int),okB (sg.length+71000) x.1/\x.1.s0=x50/\x.1.s1=x51/\x.1.s2=x52/\x.1.mks=mk->((0<=i/\i<(l.length:Int))/\ntL l)/\∀(x69:Int),x69=(-1:Int)->Br (x69>=0) (((0<=i/\i<(l.length:Int))/\ntL l/\ec l i.toNat 0=5)/\(∃(x:Int),True)/\∀(x_1:Int),True->((List.length x.1.mks+1)*nat_lit 24<=140737488355328/\List.length x.1.mks+1<=maxLen)/\R6 (i+1)/\∀x71,x71=i+1->K .normal ([.ce (.sl false [4,4,4,4,4,4,4,4,4,4,4,4,4,0,4,0,4,4,4,4,4,0] l), .ce (.ptr 1000002 0), .ce (I6 r), .ce (.ptr 1000005 0), .ce (.ptr 1000006 0), .ce (I6 x.1.n), .ce (I6 s), .ce (I6 i), .ce (.bool true), .ce (.sl false [4,4,4,4,4,4,4,4,4,4,4,4,4,0,4,0,4,4,4,4,4,0] l), .ce (I6 m), .ce (I6 x71)],[[I6 z0,I6 z1,I6 z2, .sl true [4,4,4,4,4,4,4] zs, .sl true [4,4,4] zm],[I6 x.1.s0,I6 x.1.s1,I6 x.1.s2, .sl true [4,4,4,4,4,4,4] x.1.sg, .sl true [4,4,4] (x.1.mks++[[x.1.n,x_1,i]])],[I6 x.1.a0,I6 x.1.a1,I6 x.1.a2]])) (((0<=i/\i<(l.length:Int))/\ntL l/\ec l i.toNat 0=5)/\(∃(x:Int),True)/\∀(x_1:Int),True->((List.length x.1.mks+1)*nat_lit 24<=140737488355328/\List.length x.1.mks+1<=maxLen)/\R6 (i+1)/\∀x73,x73=i+1->K .normal ([.ce (.sl false [4,4,4,4,4,4,4,4,4,4,4,4,4,0,4,0,4,4,4,4,4,0] l), .ce (.ptr 1000002 0), .ce (I6 r), .ce (.ptr 1000005 0), .ce (.ptr 1000006 0), .ce (I6 x.1.n), .ce (I6 s), .ce (I6 (-1)), .ce (.bool true), .ce (.sl false [4,4,4,4,4,4,4,4,4,4,4,4,4,0,4,0,4,4,4,4,4,0] l), .ce (I6 m), .ce (I6 x73)],[[I6 z0,I6 z1,I6 z2, .sl true [4,4,4,4,4,4,4] zs, .sl true [4,4,4] zm],[I6 x.1.s0,I6 x.1.s1,I6 x.1.s2, .sl true [4,4,4,4,4,4,4] x.1.sg, .sl true [4,4,4] (x.1.mks++[[x.1.n,x_1,i]])],[I6 x.1.a0,I6 x.1.a1,I6 x.1.a2]])))) (((0<=ec l i.toNat 14/\ec l i.toNat 14<=200)/\0<=s/\s<=3000)/\(∃(x:Int),0<=x/\x<=16777216)/\∀(x:Int),0<=x/\x<=16777216->True/\∀(x75:Bool),x75=decide (el l i.toNat=5∨el l i.toNat=6)->Bb (x75) (R6 (ec l i.toNat 14*16)/\∀x76,x76=ec l i.toNat 14*16->∀x77,x77=min x76 16777216->((0<=i/\i<(l.length:Int))/\ntL l)/\(∃(x:LL),x.length<=2/\ptsOK (32768:Int) x)/\∀(x:LL),x.length<=2/\ptsOK (32768:Int) x->((x.length:Int)=(x.length:Int)/\(0:Int)=0/\x.length<=71000/\ptsOK (32768:Int) x/\okB (284000:Nat) {a0:=a0,a1:=a1,a2:=a2,n:=n,s0:=s0,s1:=s1,s2:=s2,sg:=sg,mks:=mk,fr:=(-1:Int),bg:=false})/\∀(x:BSt×Int×Int×Int×Int),okB (sg.length+71000) x.1/\x.1.s0=s0/\x.1.s1=s1/\x.1.s2=s2/\x.1.mks=mk->((0<=i/\i<(l.length:Int))/\ntL l)/\∀(x80:Int),x80=(-1:Int)->Br (x80>=0) (((0<=i/\i<(l.length:Int))/\ntL l/\ec l i.toNat 0=5)/\(∃(x:Int),True)/\∀(x_1:Int),True->((List.length x.1.mks+1)*24<=140737488355328/\List.length x.1.mks+1<=maxLen)/\R6 (i+1)/\∀x82,x82=i+1->K .normal ([.ce (.sl false [4,4,4,4,4,4,4,4,4,4,4,4,4,0,4,0,4,4,4,4,4,0] l), .ce (.ptr 1000002 0), .ce (I6 r), .ce (.ptr 1000005 0), .ce (.ptr 1000006 0), .ce (I6 x.1.n), .ce (I6 s), .ce (I6 i), .ce (.bool bg), .ce (.sl false [4,4,4,4,4,4,4,4,4,4,4,4,4,0,4,0,4,4,4,4,4,0] l), .ce (I6 m), .ce (I6 x82)],[[I6 z0,I6 z1,I6 z2, .sl true [4,4,4,4,4,4,4] zs, .sl true [4,4,4] zm],[I6 x.1.s0,I6 x.1.s1,I6 x.1.s2, .sl true [4,4,4,4,4,4,4] x.1.sg, .sl true [4,4,4] (x.1.mks++[[x.1.n,x_1,i]])],[I6 x.1.a0,I6 x.1.a1,I6 x.1.a2]])) (((0<=i/\i<(l.length:Int))/\ntL l/\ec l i.toNat 0=5)/\(∃(x:Int),True)/\∀(x_1:Int),True->((List.length x.1.mks+1)*24<=140737488355328/\List.length x.1.mks+1<=maxLen)/\R6 (i+1)/\∀x84,x84=i+1->K .normal ([.ce (.sl false [4,4,4,4,4,4,4,4,4,4,4,4,4,0,4,0,4,4,4,4,4,0] l), .ce (.ptr 1000002 0), .ce (I6 r), .ce (.ptr 1000005 0), .ce (.ptr 1000006 0), .ce (I6 x.1.n), .ce (I6 s), .ce (I6 (-1)), .ce (.bool bg), .ce (.sl false [4,4,4,4,4,4,4,4,4,4,4,4,4,0,4,0,4,4,4,4,4,0] l), .ce (I6 m), .ce (I6 x84)],[[I6 z0,I6 z1,I6 z2, .sl true [4,4,4,4,4,4,4] zs, .sl true [4,4,4] zm],[I6 x.1.s0,I6 x.1.s1,I6 x.1.s2, .sl true [4,4,4,4,4,4,4] x.1.sg, .sl true [4,4,4] (x.1.mks++[[x.1.n,x_1,i]])],[I6 x.1.a0,I6 x.1.a1,I6 x.1.a2]]))) (((0<=i/\i<(l.length:Int))/\ntL l)/\(∃(x:LL),x.length<=2/\ptsOK (32768:Int) x)/\∀(x:LL),x.length<=2/\ptsOK (32768:Int) x->((x.length:Int)=(x.length:Int)/\(0:Int)=0/\x.length<=71000/\ptsOK (32768:Int) x/\okB (284000:Nat) {a0:=a0,a1:=a1,a2:=a2,n:=n,s0:=s0,s1:=s1,s2:=s2,sg:=sg,mks:=mk,fr:=(-1:Int),bg:=false})/\∀(x:BSt×Int×Int×Int×Int),okB (sg.length+71000) x.1/\x.1.s0=s0/\x.1.s1=s1/\x.1.s2=s2/\x.1.mks=mk->((0<=i/\i<(l.length:Int))/\ntL l)/\∀(x87:Int),x87=(-1:Int)->Br (x87>=0) (((0<=i/\i<(l.length:Int))/\ntL l/\ec l i.toNat 0=5)/\(∃(x:Int),True)/\∀(x_1:Int),True->((List.length x.1.mks+1)*24<=140737488355328/\List.length x.1.mks+1<=maxLen)/\R6 (i+1)/\∀x89,x89=i+1->K .normal ([.ce (.sl false [4,4,4,4,4,4,4,4,4,4,4,4,4,0,4,0,4,4,4,4,4,0] l), .ce (.ptr 1000002 0), .ce (I6 r), .ce (.ptr 1000005 0), .ce (.ptr 1000006 0), .ce (I6 x.1.n), .ce (I6 s), .ce (I6 i), .ce (.bool bg), .ce (.sl false [4,4,4,4,4,4,4,4,4,4,4,4,4,0,4,0,4,4,4,4,4,0] l), .ce (I6 m), .ce (I6 x89)],[[I6 z0,I6 z1,I6 z2, .sl true [4,4,4,4,4,4,4] zs, .sl true [4,4,4] zm],[I6 x.1.s0,I6 x.1.s1,I6 x.1.s2, .sl true [4,4,4,4,4,4,4] x.1.sg, .sl true [4,4,4] (x.1.mks++[[x.1.n,x_1,i]])],[I6 x.1.a0,I6 x.1.a1,I6 x.1.a2]])) (((0<=i/\i<(l.length:Int))/\ntL l/\ec l i.toNat 0=5)/\(∃(x:Int),True)/\∀(x_1:Int),True->((List.length x.1.mks+1)*24<=140737488355328/\List.length x.1.mks+1<=maxLen)/\R6 (i+1)/\∀x91,x91=i+1->K .normal ([.ce (.sl false [4,4,4,4,4,4,4,4,4,4,4,4,4,0,4,0,4,4,4,4,4,0] l), .ce (.ptr 1000002 0), .ce (I6 r), .ce (.ptr 1000005 0), .ce (.ptr 1000006 0), .ce (I6 x.1.n), .ce (I6 s), .ce (I6 (-1)), .ce (.bool bg), .ce (.sl false [4,4,4,4,4,4,4,4,4,4,4,4,4,0,4,0,4,4,4,4,4,0] l), .ce (I6 m), .ce (I6 x91)],[[I6 z0,I6 z1,I6 z2, .sl true [4,4,4,4,4,4,4] zs, .sl true [4,4,4] zm],[I6 x.1.s0,I6 x.1.s1,I6 x.1.s2, .sl true [4,4,4,4,4,4,4] x.1.sg, .sl true [4,4,4] (x.1.mks++[[x.1.n,x_1,i]])],[I6 x.1.a0,I6 x.1.a1,I6 x.1.a2]]))))))) (K (.exit 0) ([.ce (.ptr 1000002 0), .ce (I6 r), .ce (.ptr 1000005 0)],[[I6 z0,I6 z1,I6 z2, .sl true [4,4,4,4,4,4,4] zs, .sl true [4,4,4] zm],[I6 s0,I6 s1,I6 s2, .sl true [4,4,4,4,4,4,4] sg, .sl true [4,4,4] mk],[I6 a0,I6 a1,I6 a2]]))):=by kernel_rfl
theorem vcTB(l:LL)(Q:Res->Prop):(nfun true CTB Tryz.f20 (bodyOf Tryz.f20) [.ce (.sl false [4,4,4,4,4,4,4,4,4,4,4,4,4,0,4,0,4,4,4,4,4,0] l)] [] Q)=((ntL l/\l.length<=5)/\(∃(x:Int),True)/\∀(x:Int),True->Bb (x !=0) (Q ⟨.tup [.agg [I6 0,I6 0,I6 0, .sl false [4,4,4,4,4,4,4] [], .sl false [4,4,4] []], .ce (I6 x)],false,[],[]⟩) ((l=l/\(l.length:Int)=(l.length:Int)/\ntL l/\l.length<=5/\(0:Int)=0/\(0:Int)=0/\(-1:Int)=(-1:Int)/\false=false/\(0:Nat)=0/\okB (0:Nat) {a0:=(0:Int),a1:=(0:Int),a2:=(0:Int),n:=(0:Int),s0:=(0:Int),s1:=(0:Int),s2:=(0:Int),sg:=[],mks:=[],fr:=(-1:Int),bg:=false})/\∀(x:BSt),okB (355000:Nat) x->Q ⟨.tup [.agg [I6 x.s0,I6 x.s1,I6 x.s2, .sl false [4,4,4,4,4,4,4] x.sg, .sl false [4,4,4] x.mks], .ce (I6 0)],false,[],[]⟩)):=by kernel_rfl
def SThd(hA:List HV)(pA:List (List HC)):SR:=match hA,pA with
 |[.ce (.sl false [4] ax), .ce (.int .i64 ld), .ce (.int .i64 le)],[]=> .all (ax.length<=9223372036854775807) (RunS×Int) (fun x=>okRun x.1/\x.1.f=0/\16<=x.2/\x.2<=3200) (fun x=>⟨.tup [.agg [I6 x.1.s0,I6 x.1.s1,I6 x.1.s2, .sl false [4,4,4,4,4,4,4] x.1.sg, .sl false [4,4,4] x.1.mks], .agg [I6 x.1.a.st,I6 x.1.a.sp,I6 x.1.a.ac,I6 x.1.a.je,I6 (-16777216),I6 16777216,I6 x.1.a.bl,I6 x.1.a.og,I6 x.1.a.sg, .sl false [4] x.1.a.pit,I6 x.1.b.st,I6 x.1.b.sp,I6 x.1.b.ac,I6 x.1.b.je,I6 (-16777216),I6 16777216,I6 x.1.b.bl,I6 x.1.b.og,I6 x.1.b.sg, .sl false [4] x.1.b.pit,I6 x.1.c.st,I6 x.1.c.sp,I6 x.1.c.ac,I6 x.1.c.je,I6 (-16777216),I6 16777216,I6 x.1.c.bl,I6 x.1.c.og,I6 x.1.c.sg, .sl false [4] x.1.c.pit], .agg [.sl false [4,4,4,4,4,4,4,4,4,4] x.1.pk,I6 x.1.ln,I6 x.1.f,I6 x.1.d0,I6 x.1.d1,I6 x.1.d2], .ce (I6 x.2)],false,[],[]⟩)
 |_,_=> .fail
def tabThd:List (FuncId×HL.Spec):=[(8,SMod),(20,STB),(21,SAxes),(23,SPLen),(22,SLeg)]
noncomputable def CThd:Ctx:=⟨Tryz.prog,gam tabThd,Tryz.f6.ntmps,[],[]⟩
theorem vcThd(ax:LL)(ld le:Int)(Q:Res->Prop):(nfun true CThd Tryz.f6 (bodyOf Tryz.f6) [.ce (.sl false [4] ax), .ce (I6 ld), .ce (I6 le)] [] Q)=(((0:Int)<40/\(40:Int)<=4611686018427387904)/\∀x1,x1=le%40->(-9223372036854775808<=1+x1/\(1:Int)+x1<=9223372036854775807)/\∀x2,x2=1+x1->R6 (0-x2)/\∀x3,x3=0-x2->((0:Int)<200/\(200:Int)<=4611686018427387904)/\∀x4,x4=ld%200->(-9223372036854775808<=1+x4/\(1:Int)+x4<=9223372036854775807)/\∀x5,x5=1+x4->(ntL [[(8:Int),(0:Int),(0:Int),(0:Int),(0:Int),(0:Int),(0:Int),(0:Int),(0:Int),(0:Int),(0:Int),(0:Int),(0:Int),(0:Int),(0:Int),(0:Int),(0:Int),(0:Int),(0:Int),(3:Int),(3000:Int),(0:Int)],[(5:Int),(0:Int),(0:Int),(0:Int),(0:Int),(0:Int),(0:Int),x3,(0:Int),(0:Int),(0:Int),(0:Int),(0:Int),(0:Int),x5,(1:Int),(0:Int),(0:Int),(0:Int),(0:Int),(0:Int),(0:Int)]]/\(2:Nat)<=5)/\(∃(x:BSt×Int),okB (355000:Nat) x.1)/\∀(x:BSt×Int),okB (355000:Nat) x.1->ax.length<=9223372036854775807/\(∃(x:AxV×AxV×AxV),okAx x.1/\okAx x.snd.1/\okAx x.snd.2)/\∀(x_1:AxV×AxV×AxV),okAx x_1.1/\okAx x_1.snd.1/\okAx x_1.snd.2->okLen x.1.sg/\∀x8,x8=plen x.1.sg->(okLen x.1.sg/\okPts x.1.s0 x.1.s1 x.1.s2 x.1.sg/\okB3 x_1.1.bl x_1.snd.1.bl x_1.snd.2.bl)/\(∃(x_2:LegS),x_2=leg x.1.s0 x.1.s1 x.1.s2 x.1.sg x_1.1.bl x_1.snd.1.bl x_1.snd.2.bl (1:Int) (1:Int) (1:Int) (clamp (plen x.1.sg) (0:Int)) (clamp (plen x.1.sg) x8))/\∀(x_2:LegS),x_2=leg x.1.s0 x.1.s1 x.1.s2 x.1.sg x_1.1.bl x_1.snd.1.bl x_1.snd.2.bl (1:Int) (1:Int) (1:Int) (clamp (plen x.1.sg) (0:Int)) (clamp (plen x.1.sg) x8)->R6 (x5*16)/\∀x10,x10=x5*16->Q ⟨.tup [.agg [I6 x.1.s0,I6 x.1.s1,I6 x.1.s2, .sl false [4,4,4,4,4,4,4] x.1.sg, .sl false [4,4,4] x.1.mks], .agg [I6 x_1.1.st,I6 x_1.1.sp,I6 x_1.1.ac,I6 x_1.1.je,I6 (-16777216),I6 16777216,I6 x_1.1.bl,I6 x_1.1.og,I6 x_1.1.sg, .sl false [4] x_1.1.pit,I6 x_1.snd.1.st,I6 x_1.snd.1.sp,I6 x_1.snd.1.ac,I6 x_1.snd.1.je,I6 (-16777216),I6 16777216,I6 x_1.snd.1.bl,I6 x_1.snd.1.og,I6 x_1.snd.1.sg, .sl false [4] x_1.snd.1.pit,I6 x_1.snd.2.st,I6 x_1.snd.2.sp,I6 x_1.snd.2.ac,I6 x_1.snd.2.je,I6 (-16777216),I6 16777216,I6 x_1.snd.2.bl,I6 x_1.snd.2.og,I6 x_1.snd.2.sg, .sl false [4] x_1.snd.2.pit], .agg [.sl false [4,4,4,4,4,4,4,4,4,4] x_2.pk,I6 x_2.ln,I6 (clamp (plen x.1.sg) (0:Int)),I6 1,I6 1,I6 1], .ce (I6 x10)],false,[],[]⟩):=by kernel_rfl
end Go.Proofs.YthkoabbiiadbjaaGreat
namespace U
open Go
theorem tTail{l:LL}{i a0 a1 a2 n s0 s1 s2:Int}{sg mk:LL}{j:Nat}{G1 G2:(BSt×Int×Int×Int×Int)->Int->Int->Prop}(hi:i=j)(hj:j<l.length)(hn:ntL l)(hl:l.length<=5)(h5:ec l (Int.toNat i) 0=5)(hok:okB (71000*j) ⟨a0,a1,a2,n,s0,s1,s2,sg,mk,-1,false⟩)(hmk:mk.length<=j)(fin:∀x:(BSt×Int×Int×Int×Int),okB (71000*(j+1)) x.1->x.1.mks.length<=j->∀q y:Int,y=((j+1:Nat):Int)->G2 x q y):((0<=i/\i<((l.length:Nat):Int))/\ntL l)/\(∃(x:LL),List.length x<=2/\ptsOK 32768 x)/\∀(x:LL),List.length x<=2/\ptsOK 32768 x->((((List.length x):Nat):Int)=(((List.length x):Nat):Int)/\(0:Int)=0/\List.length x<=71000/\ptsOK 32768 x/\okB 284000 {a0:=a0,a1:=a1,a2:=a2,n:=n,s0:=s0,s1:=s1,s2:=s2,sg:=sg,mks:=mk,fr:= -1,bg:=false})/\∀(x:BSt×Int×Int×Int×Int),okB (List.length sg+71000) x.1/\x.1.s0=s0/\x.1.s1=s1/\x.1.s2=s2/\x.1.mks=mk->((0<=i/\i<((l.length:Nat):Int))/\ntL l)/\∀(z:Int),z= -1->(decide (z>=0)=true->((0<=i/\i<((l.length:Nat):Int))/\ntL l/\ec l (Int.toNat i) 0=5)/\(∃(x:Int),True)/\∀(x_2:Int),True->((List.length x.1.mks+1)*24<=140737488355328/\List.length x.1.mks+1<=maxLen)/\(-9223372036854775808<=i+1/\i+1<=9223372036854775807)/\∀(y:Int),y=i+1->G1 x x_2 y)/\(decide (z>=0)=false->((0<=i/\i<((l.length:Nat):Int))/\ntL l/\ec l (Int.toNat i) 0=5)/\(∃(x:Int),True)/\∀(x_2:Int),True->((List.length x.1.mks+1)*24<=140737488355328/\List.length x.1.mks+1<=maxLen)/\(-9223372036854775808<=i+1/\i+1<=9223372036854775807)/\∀(y:Int),y=i+1->G2 x x_2 y):=by
 have hsg:sg.length<=71000*j:=hok.2.2.2.2.2.1;have hi2:0<=i/\i<((l.length:Nat):Int):=by omega
 refine⟨⟨hi2,hn⟩,⟨[],by simp,fun j hj=>by simp at hj⟩,fun x hx=>⟨⟨rfl,rfl,by omega,hx.2,okB_mono (by omega) hok⟩,fun x⟨ho,_,_,_,em⟩=>⟨⟨hi2,hn⟩,fun z ez=>⟨fun g=>absurd (odt g) (by omega),fun _=> ?_⟩⟩⟩⟩;have ho':okB (71000*(j+1)) x.1:=okB_mono (by omega) ho;have hm':x.1.mks.length<=j:=by rw[em];exact hmk
 exact⟨⟨hi2,hn,h5⟩,⟨0,trivial⟩,fun q _=>⟨⟨by omega,by unfold maxLen;omega⟩,by omega,fun y e=>fin x ho' hm' q y (by omega)⟩⟩
end U
namespace Go.Proofs.YthkoabbiiadbjaaGreat
section
open Go Go.HL U
attribute [local irreducible] hfun bodyT fragT
set_option maxHeartbeats 2000000 in theorem loopTB1:∀v Q,(LB1 v).wp Q->hloop CTB anB1 (nthLoop Tryz.f20 1) v Q:=by
 intro v Q h;unfold LB1 at h;split at h;case h_2=>exact h.elim
 rename_i ks l r n s bg ix ks2 l2 m i q qn j rb pb ab ib gb;cases hks:ksEq ks [4,4,4,4,4,4,4,4,4,4,4,4,4,0,4,0,4,4,4,4,4,0]
 . rw[hks]at h;exact h.elim
 cases hks2:ksEq ks2 [4,4,4,4,4,4,4,4,4,4,4,4,4,0,4,0,4,4,4,4,4,0]
 . rw[hks,hks2]at h;exact h.elim
 rw[hks,hks2]at h;obtain rfl:=ksEq_eq hks;obtain rfl:=ksEq_eq hks2;split at h;case h_2=>exact h.elim
 split at h;case h_2=>exact h.elim
 split at h;case h_2=>exact h.elim
 split at h;case h_2=>exact h.elim
 split at h;case h_2=>exact h.elim
 rename_i z0 z1 z2 zs zm _ s0 s1 s2 sg mk _ a0 a1 a2 _ g0 g1 g2 g3 g4 g5 g6 _ k0 bk f0 f1 f2 t0 t1 t2 pl c0 c1 c2 dr fu fd pr sd ra bl nn sp on;obtain⟨⟨h1,h2,h3,h4,h5⟩,hq⟩:=h;subst h1 h2;refine hloop_rec (σ:=(BSt×Int×Int×Int×Int)×Nat) (fun x=>([.ce (.sl false [4,4,4,4,4,4,4,4,4,4,4,4,4,0,4,0,4,4,4,4,4,0] l), .ce (.ptr 1000002 0), .ce (I6 r), .ce (.ptr 1000005 0), .ce (.ptr 1000006 0), .ce (I6 x.1.1.n), .ce (I6 s), .ce (.bool bg), .ce (I6 ix), .ce (.ptr 1000012 0), .ce (.ptr 1000013 0), .ce (.sl false [4,4,4,4,4,4,4,4,4,4,4,4,4,0,4,0,4,4,4,4,4,0] l2), .ce (I6 m), .ce (I6 i), .ce (.sl false [4,4,4] q), .ce (I6 (q.length:Int)), .ce (I6 (x.2:Int))],[[I6 z0,I6 z1,I6 z2, .sl true [4,4,4,4,4,4,4] zs, .sl true [4,4,4] zm],[I6 x.1.1.s0,I6 x.1.1.s1,I6 x.1.1.s2, .sl true [4,4,4,4,4,4,4] x.1.1.sg, .sl true [4,4,4] x.1.1.mks],[I6 x.1.1.a0,I6 x.1.1.a1,I6 x.1.1.a2],[I6 k0,I6 bk,I6 f0,I6 f1,I6 f2,I6 t0,I6 t1,I6 t2,I6 pl,I6 c0,I6 c1,I6 c2,I6 dr, .bool fu,I6 fd, .bool pr,I6 sd,I6 ra,I6 bl,I6 nn,I6 sp, .bool on],[I6 x.1.2.1,I6 x.1.2.2.1,I6 x.1.2.2.2.1,I6 x.1.2.2.2.2,I6 g4,I6 g5,I6 g6]])) (fun x=>q.length-x.2) (fun x=>x.2<=q.length/\okB (sg.length+x.2) x.1.1/\x.1.1.s0=s0/\x.1.1.s1=s1/\x.1.1.s2=s2/\x.1.1.mks=mk) ?_ ((⟨a0,a1,a2,n,s0,s1,s2,sg,mk,-1,false⟩,g0,g1,g2,g3),0) ?_
 . rintro⟨⟨⟨a0,a1,a2,n,u0,u1,u2,sg',mk',fr,bg'⟩,g0,g1,g2,g3⟩,j⟩⟨hj,hok,e0,e1,e2,e3⟩K hn hx _;dsimp only at hj hok e0 e1 e2 e3 hn⊢;subst e0 e1 e2 e3;have hl:=hok.2.2.2.2.2.1;have hlen:sg'.length<=355000:=by have:=h5.2.2.2.2.2.1;dsimp only at this hl;omega
   refine byVB (vbTB1 r n s ix m i q.length j z0 z1 z2 u0 u1 u2 a0 a1 a2 g0 g1 g2 g3 g4 g5 g6 k0 bk f0 f1 f2 t0 t1 t2 pl c0 c1 c2 dr fd sd ra bl nn sp fu pr on bg l l2 q zs zm sg' mk' K) ⟨fun g=> ?_,fun g=> ?_⟩
   . have g:=odt g;have hjq:j<q.length:=by omega
     have ht:Int.toNat (j:Int)=j:=rfl;rw[ht];have pj:=h4 j hjq;have pj:b3 32768 (el q j) (ec q j 1) (ec q j 2):=pj;have step:∀y:Int,y=(j:Int)+1->y=((j+1:Nat):Int):=fun y e=>by omega
     refine⟨by omega,fun _=>⟨by omega,fun x1 e1=> ?_⟩,fun gne=>⟨⟨b3_mono (by decide) hok.1,b3_mono (by decide) pj⟩,isLen_ex _ _ _ _ _ _,fun x hx2=>⟨⟨show(sg'.length+1)*56<=140737488355328 by omega,by unfold maxLen;omega⟩,?_⟩⟩⟩
     . rw[step x1 e1];exact hn ((⟨a0,a1,a2,n,u0,u1,u2,sg',mk',fr,bg'⟩,g0,g1,g2,g3),j+1) ⟨hjq,okB_mono (by omega) hok,rfl,rfl,rfl,rfl⟩ (by dsimp only;omega)
     . have ne:¬(el q j=a0/\ec q j 1=a1/\ec q j 2=a2):=fun hh=>by
        rw[hh.1,hh.2.1,hh.2.2]at gne;simp at gne
       have nb:0<=n/\n<=4503599627370496:=okB_n hok (by show sg'.length<=355000;exact hlen);have xb:=hx2.2.2.2 65536 (by decide) (by have hb:b3 32768 a0 a1 a2:=hok.1;unfold b3 at hb pj⊢;omega);have x0: -x<=x:=by have:=hx2.1;omega
       refine⟨by omega,fun x3 e3=>⟨fun gg=> ?_,fun _=>⟨by omega,fun x4 e4=> ?_⟩⟩⟩
       . have gg:=odt gg;simp at gg;omega
       . rw[step x4 e4,e3];exact hn ((⟨el q j,ec q j 1,ec q j 2,n+x,u0,u1,u2,sg'++[[el q j,ec q j 1,ec q j 2,x,g4,g5,g6]],mk',fr,bg'⟩,el q j,ec q j 1,ec q j 2,x),j+1) ⟨hjq,okB_step hok pj ne hx2,rfl,rfl,rfl,rfl⟩ (by dsimp only;omega)
   . have g:=odf g;exact hx _ _ (hq (⟨a0,a1,a2,n,u0,u1,u2,sg',mk',fr,bg'⟩,g0,g1,g2,g3) ⟨okB_mono (by omega) hok,rfl,rfl,rfl,rfl⟩)
 . exact⟨Nat.zero_le _,⟨h5.1,h5.2.1,h5.2.2.1,h5.2.2.2.1,h5.2.2.2.2.1,Nat.le_refl _,h5.2.2.2.2.2.2⟩,rfl,rfl,rfl,rfl⟩
theorem fragTK8:∀v Q,(LTK8 v).wp Q->fragT CTB anTK8 (nthFrag CTB Tryz.f20 0) v Q:=by
 intro v Q h;unfold LTK8 at h;split at h;case h_2=>exact h.elim
 rename_i ks l r n s fr bg ix ks2 l2 m i rb pb ab ib;cases hks:ksEq ks [4,4,4,4,4,4,4,4,4,4,4,4,4,0,4,0,4,4,4,4,4,0]
 . rw[hks]at h;exact h.elim
 cases hks2:ksEq ks2 [4,4,4,4,4,4,4,4,4,4,4,4,4,0,4,0,4,4,4,4,4,0]
 . rw[hks,hks2]at h;exact h.elim
 rw[hks,hks2]at h;obtain rfl:=ksEq_eq hks;obtain rfl:=ksEq_eq hks2;split at h;case h_2=>exact h.elim
 split at h;case h_2=>exact h.elim
 split at h;case h_2=>exact h.elim
 split at h;case h_2=>exact h.elim
 rename_i z0 z1 z2 zs zm _ s0 s1 s2 sg mk _ a0 a1 a2 _ k0 bk f0 f1 f2 t0 t1 t2 pl c0 c1 c2 dr fu fd pr sd ra bl nn sp on;have hq:=h.2;exact byVG (vgTK8 r n s fr m i z0 z1 z2 s0 s1 s2 a0 a1 a2 ix bg k0 bk f0 f1 f2 t0 t1 t2 pl c0 c1 c2 dr fd sd ra bl nn sp fu pr on l l2 zs zm sg mk Q) ⟨fun _=>⟨fun _=>hq true trivial,fun _=>hq (nn==4) trivial⟩,fun _=>hq false trivial⟩
set_option maxHeartbeats 4000000 in theorem loopTB0:∀v Q,(LTB0 v).wp Q->hloop CTB anB0 (nthLoop Tryz.f20 0) v Q:=by
 intro v Q h;unfold LTB0 at h;split at h;case h_2=>exact h.elim
 rename_i ks l r n s fr bg ks2 l2 m i rb pb ab;cases hks:ksEq ks [4,4,4,4,4,4,4,4,4,4,4,4,4,0,4,0,4,4,4,4,4,0]
 . rw[hks]at h;exact h.elim
 cases hks2:ksEq ks2 [4,4,4,4,4,4,4,4,4,4,4,4,4,0,4,0,4,4,4,4,4,0]
 . rw[hks,hks2]at h;exact h.elim
 rw[hks,hks2]at h;obtain rfl:=ksEq_eq hks;obtain rfl:=ksEq_eq hks2;split at h;case h_2=>exact h.elim
 split at h;case h_2=>exact h.elim
 split at h;case h_2=>exact h.elim
 rename_i z0 z1 z2 zs zm _ s0 s1 s2 sg mk _ a0 a1 a2;obtain⟨⟨h1,h2,hn,hl,h3,h4,h5,h6,h7,hok⟩,hq⟩:=h;obtain rfl:=List.eq_nil_of_length_eq_zero h7;subst h1 h2 h3 h4 h5 h6;refine hloop_rec (σ:=(BSt×Nat)×Int) (fun x=>([.ce (.sl false [4,4,4,4,4,4,4,4,4,4,4,4,4,0,4,0,4,4,4,4,4,0] l2), .ce (.ptr 1000002 0), .ce (I6 r), .ce (.ptr 1000005 0), .ce (.ptr 1000006 0), .ce (I6 x.1.1.n), .ce (I6 x.2), .ce (I6 x.1.1.fr), .ce (.bool x.1.1.bg), .ce (.sl false [4,4,4,4,4,4,4,4,4,4,4,4,4,0,4,0,4,4,4,4,4,0] l2), .ce (I6 (l2.length:Int)), .ce (I6 (x.1.2:Int))],[[I6 z0,I6 z1,I6 z2, .sl true [4,4,4,4,4,4,4] zs, .sl true [4,4,4] zm],[I6 x.1.1.s0,I6 x.1.1.s1,I6 x.1.1.s2, .sl true [4,4,4,4,4,4,4] x.1.1.sg, .sl true [4,4,4] x.1.1.mks],[I6 x.1.1.a0,I6 x.1.1.a1,I6 x.1.1.a2]])) (fun x=>l2.length-x.1.2) (fun x=>x.1.2<=l2.length/\okB (71000*x.1.2) x.1.1/\(0<=x.2/\x.2<=3000)/\x.1.1.mks.length<=x.1.2/\(x.1.1.bg=false->x.1.1.sg=[])) ?_ ((⟨a0,a1,a2,n,s0,s1,s2,sg,[],-1,false⟩,0),0) ?_
 . rintro⟨⟨⟨a0,a1,a2,n,s0,s1,s2,sg,mk,fr,bg⟩,j⟩,s⟩⟨hj,hok,hs,hmk,hbg⟩K hnx hx _;dsimp only at hj hok hs hmk hbg hnx⊢;refine byVB (vbTB0 r n s fr l2.length j z0 z1 z2 s0 s1 s2 a0 a1 a2 bg l2 zs zm sg mk K) ⟨fun g=> ?_,fun g=> ?_⟩
   . have g:=odt g;have hjl:j<l2.length:=by omega
     have ht:Int.toNat (j:Int)=j:=rfl;rw[ht];obtain⟨nk,nf,nt,nfd,hs1⟩:=hn j hjl;refine⟨by omega,trivial,fun b _=>⟨fun _=> ?_,fun _=> ?_⟩⟩;all_goals
      refine⟨trivial,fun x2 e2=>⟨fun g2=>⟨trivial,⟨0,trivial⟩,fun q _=>⟨⟨by omega,by unfold maxLen;omega⟩,by omega,fun x4 e4=> ?_⟩⟩,fun g2=> ?_⟩⟩
      . rw[show x4=((j+1:Nat):Int)by omega];exact hnx ((⟨a0,a1,a2,n,s0,s1,s2,sg,mk++[[n,q,(j:Int)]],fr,bg⟩,j+1),_) ⟨hjl,okB_mks (okB_mono (show 71000*j<=71000*(j+1)by omega) hok) (by simp;omega),(by first|exact hs1|exact hs),by simp;exact hmk,hbg⟩ (by dsimp only;omega)
      . have k5:ec l2 j 0=5:=by
         have hx2:x2=true:=by cases x2<;>simp at g2⊢
         rw[e2]at hx2;have hx2:1<=ec l2 j 0/\ec l2 j 0<=6:=odt hx2;omega
        have d5:decide (el l2 j=5∨el l2 j=6)=true:=decide_eq_true (Or.inl k5);refine⟨fun gb=> ?_,fun gb=> ?_⟩
        . have nf':b3 1073741824 (ec l2 j 2) (ec l2 j 3) (ec l2 j 4):=b3_mono (by decide) nf;refine⟨nf',fun x5 e5 x6 e6 x7 e7=>⟨nf',fun x8 e8 x9 e9 x10 e10=>⟨⟨nfd,(by first|exact hs1|exact hs)⟩,⟨0,by decide⟩,fun y hy=>⟨trivial,fun x12 e12=>⟨fun _=>⟨by omega,fun x13 _ x14 _=> ?_⟩,fun g12=>by rw[e12,d5]at g12;cases g12⟩⟩⟩⟩⟩;have hsg:=hbg (by simpa using gb);subst hsg;have ex:n=0:=hok.2.2.2.2.1;have b1:b3 32768 x5 x6 x7:=by unfold b3 at nf⊢;omega
          have b2:x8=x5/\x9=x6/\x10=x7:=by omega
          obtain⟨rfl,rfl,rfl⟩:=b2;have ho:okB (71000*j) ⟨x8,x9,x10,n,x8,x9,x10,[],mk,-1,false⟩:=⟨b1,b1,okSegs_nil _ _ _,⟨rfl,rfl,rfl⟩,ex,Nat.zero_le _,by dsimp only;omega⟩;exact tTail (l:=l2) rfl hjl hn hl k5 ho hmk (fun x ho' hm' q y e=>by rw[e];exact hnx ((⟨x.1.a0,x.1.a1,x.1.a2,x.1.n,x.1.s0,x.1.s1,x.1.s2,x.1.sg,x.1.mks++[[x.1.n,q,(j:Int)]],-1,true⟩,j+1),_) ⟨hjl,okB_mks ho' (by simp;omega),(by first|exact hs1|exact hs),by simp;exact hm',fun e=>by cases e⟩ (by dsimp only;omega))
        . have hb:bg=true:=by simpa using gb
          subst hb;refine⟨⟨nfd,(by first|exact hs1|exact hs)⟩,⟨0,by decide⟩,fun y hy=>⟨trivial,fun x12 e12=>⟨fun _=>⟨by omega,fun x13 _ x14 _=> ?_⟩,fun g12=>by rw[e12,d5]at g12;cases g12⟩⟩⟩;exact tTail (l:=l2) rfl hjl hn hl k5 hok hmk (fun x ho' hm' q y e=>by rw[e];exact hnx ((⟨x.1.a0,x.1.a1,x.1.a2,x.1.n,x.1.s0,x.1.s1,x.1.s2,x.1.sg,x.1.mks++[[x.1.n,q,(j:Int)]],-1,true⟩,j+1),_) ⟨hjl,okB_mks ho' (by simp;omega),(by first|exact hs1|exact hs),by simp;exact hm',fun e=>by cases e⟩ (by dsimp only;omega))
   . have g:=odf g;exact hx _ _ (hq ⟨a0,a1,a2,n,s0,s1,s2,sg,mk,fr,bg⟩ (okB_mono (by omega) hok))
 . exact⟨Nat.zero_le _,hok,⟨Int.le_refl _,show(0:Int)<=3000 by decide⟩,Nat.zero_le _,fun _=>by have:=hok.2.2.2.2.2.1;exact List.eq_nil_of_length_eq_zero (by dsimp only at this⊢;omega)⟩
theorem sTB:Sound Tryz.prog 20 STB:=by
 refine sound_of (C:=CTB) tabTB Tryz.func20 (by kernel_rfl) (by decide+kernel) (by kernel_rfl) rfl ⟨sChkT,sMotE,sOther,sFine,sRtT,sSynE,sPtsT,sLength,sSofT,sKndT,trivial⟩ (loopsG [nthLoop Tryz.f20 0,nthLoop Tryz.f20 1] [nthFrag CTB Tryz.f20 0] (by kernel_rfl) (by kernel_rfl) ⟨loopOK_of (an:=anB0) (S:=LTB0) (by kernel_rfl) loopTB0,loopOK_of (an:=anB1) (S:=LB1) (by kernel_rfl) loopTB1,trivial⟩ ⟨fragOK_of (an:=anTK8) (S:=LTK8) (by kernel_rfl) fragTK8,trivial⟩) ?_;intro hA pA R h;unfold STB at h;split at h;case h_2=>exfalso;exact h
 rename_i ks l;cases hks:ksEq ks [4,4,4,4,4,4,4,4,4,4,4,4,4,0,4,0,4,4,4,4,4,0]
 . rw[hks]at h;exact h.elim
 rw[hks]at h;obtain rfl:=ksEq_eq hks;obtain⟨⟨hn,hl⟩,_,hR⟩:=h;exact byVC (vcTB l R) ⟨⟨hn,hl⟩,⟨0,trivial⟩,fun x _=>⟨fun _=>hR (⟨0,0,0,0,0,0,0,[],[],-1,false⟩,x) (okB_mono (by decide) (okB_zero _ _)),fun _=>⟨⟨rfl,rfl,hn,hl,rfl,rfl,rfl,rfl,rfl,okB_zero _ _⟩,fun x hx=>hR (x,0) hx⟩⟩⟩
theorem sThd:Sound Tryz.prog 6 SThd:=by
 refine sound_of (C:=CThd) tabThd Tryz.func6 (by kernel_rfl) (by decide+kernel) (by kernel_rfl) rfl ⟨sMod,sTB,sAxes,sPLen,sLeg,trivial⟩ (loops0 (by kernel_rfl)) ?_;intro hA pA R h;unfold SThd at h;split at h;case h_2=>exfalso;exact h
 rename_i ax ld le;obtain⟨hax,_,hR⟩:=h;have h1:=Int.emod_nonneg le (show(40:Int)≠0 by omega);have h2:=Int.emod_lt_of_pos le (show(0:Int)<40 by omega);have h3:=Int.emod_nonneg ld (show(200:Int)≠0 by omega);have h4:=Int.emod_lt_of_pos ld (show(0:Int)<200 by omega);refine byVC (vcThd ax ld le R) ⟨by decide,fun x1 e1=>⟨by omega,fun x2 e2=>⟨by omega,fun x3 e3=>⟨by decide,fun x4 e4=>⟨by omega,fun x5 e5=>⟨⟨?_,by decide⟩,⟨(⟨0,0,0,0,0,0,0,[],[],-1,false⟩,0),okB_mono (Nat.zero_le _) (okB_zero (-1) false)⟩,fun x hx=>⟨hax,?_,fun y hy=> ?_⟩⟩⟩⟩⟩⟩⟩
 . intro j hj;have hj:j=0∨j=1:=by simp at hj;omega
   rcases hj with rfl|rfl
   . show ntc 8 0 0 0 0 0 0 0 3000;unfold ntc b3;omega
   . show ntc 5 0 0 0 0 0 x3 x5 0;unfold ntc b3;omega
 . obtain⟨a,h⟩:=okAx_ex;exact⟨(a,a,a),h,h,h⟩
 . have hx:=okB_path hx;have hL:=okPath_len hx;have hpl:=plen_le hL;refine⟨hL,fun x8 e8=>⟨⟨hL,okPath_pts hx,?_⟩,⟨_,rfl⟩,fun w hw=>⟨by omega,fun x10 e10=> ?_⟩⟩⟩
   . have:=hy.1.2.2.2.2.1;have:=hy.2.1.2.2.2.2.1;have:=hy.2.2.2.2.2.2.1;unfold okB3;omega
   . have c1:=clamp_bd (v:=0) hpl.1;have c2:=clamp_bd (v:=plen x.1.sg) hpl.1;subst e8;exact hR (⟨x.1.s0,x.1.s1,x.1.s2,x.1.sg,x.1.mks,y.1,y.2.1,y.2.2,1,1,1,clamp (plen x.1.sg) 0,clamp (plen x.1.sg) (plen x.1.sg),w.pk,w.ln⟩,x10) ⟨⟨hx,hy.1,hy.2.1,hy.2.2,⟨.inl rfl, .inl rfl, .inl rfl⟩,c1,c2,by rw[hw];rfl,by rw[hw];rfl⟩,by show clamp (plen x.1.sg) 0=0;unfold clamp;omega,by dsimp only;omega,by dsimp only;omega⟩
end
open Go Go.HL U
def anQFR:LAnn:=⟨[8,100008,9,25,26,27],[8,100008],[],false⟩
def LQFR(v:LV):LR:=match v with
 |([.ce (.sl false [4] y), .ce (.lit true), .ce (.int .i64 u), .ce (.sl false [4] l), .ce (.int .i64 len), .ce (.int .i64 k)],[])=> .det (len=l.length/\k=0/\y.length=0/\okSpd l/\okU u) (.exit 0) ([.ce (.sl false [4] (qcum u l)), .ce (.lit true)],[])
 |_=> .fail
def tabQFR:List (FuncId×HL.Spec):=[(79,SQStop)]
noncomputable def CQFR:Ctx:=⟨Tryz.prog,gam tabQFR,Tryz.f39.ntmps,[(7,anQFR,LQFR)],[]⟩
theorem vbQFR(u len k:Int)(y l:LL)(K:HEx->LV->Prop):(nbodyT true CQFR anQFR (nthLoop Tryz.f39 0) (([.ce (.sl false [4] y), .ce (.lit true), .ce (I6 u), .ce (.sl false [4] l), .ce (I6 len), .ce (I6 k)],[])) K)=(Br (k<len) ((0<=k/\k<(l.length:Int))/\∀x1,x1=el l k.toNat->R6 (u+x1)/\∀x2,x2=u+x1->((y.length+1)*8<=140737488355328/\y.length+1<=maxLen)/\R6 (k+1)/\∀x3,x3=k+1->K .normal ([.ce (.sl false [4] (y++[[x2]])), .ce (.lit true), .ce (I6 x2), .ce (.sl false [4] l), .ce (I6 len), .ce (I6 x3)],[])) (K (.exit 0) ([.ce (.sl false [4] y), .ce (.lit true)],[]))):=by kernel_rfl
theorem vcQFR(A J R mu mv ma ml mp mb:Int)(Q:Res->Prop):(nfun true CQFR Tryz.f39 (bodyOf Tryz.f39) [.agg [I6 A,I6 J,I6 R], .agg [I6 mu,I6 mv,I6 ma,I6 ml,I6 mp,I6 mb]] [] Q)=(okPl A J R/\(∃(x:LL×Bool),x=(qsp A J mv ma,qfok A J mv ma))/\∀(x:LL×Bool),x=(qsp A J mv ma,qfok A J mv ma)->Bb (!x.2) (Q ⟨.tup [.ce (.sl false [4] []), .ce (.bool false)],false,[],[]⟩) (((List.length x.1:Int)=(List.length x.1:Int)/\(0:Int)=0/\(0:Nat)=0/\okSpd x.1/\okU mu)/\Q ⟨.tup [.ce (.sl false [4] (qcum mu x.1)), .ce (.bool true)],false,[],[]⟩)):=by kernel_rfl
def tabQRestR:List (FuncId×HL.Spec):=[(39,SQFut)]
noncomputable def CQRestR:Ctx:=⟨Tryz.prog,gam tabQRestR,Tryz.f33.ntmps,[],[]⟩
theorem vcQRestR(A J R mu mv ma ml mp mb:Int)(Q:Res->Prop):(nfun true CQRestR Tryz.f33 (bodyOf Tryz.f33) [.agg [I6 A,I6 J,I6 R], .agg [I6 mu,I6 mv,I6 ma,I6 ml,I6 mp,I6 mb]] [] Q)=((okPl A J R/\okU mu)/\(∃(x:LL×Bool),x=(qfu A J mu mv ma,qfok A J mv ma))/\∀(x:LL×Bool),x=(qfu A J mu mv ma,qfok A J mv ma)->Bb (!x.2) (Q ⟨.tup [.ce (I6 0), .ce (.bool false)],false,[],[]⟩) (Bb ((List.length x.1:Int)==0) (Q ⟨.tup [.ce (I6 mu), .ce (.bool true)],false,[],[]⟩) (R6 ((List.length x.1:Int)-1)/\∀x2,x2=(List.length x.1:Int)-1->(0<=x2/\x2<(List.length x.1:Int))/\∀x3,x3=el x.1 x2.toNat->Q ⟨.tup [.ce (I6 x3), .ce (.bool true)],false,[],[]⟩))):=by kernel_rfl
section
attribute [local irreducible] hfun bodyT fragT
theorem loopQFR:∀v Q,(LQFR v).wp Q->hloop CQFR anQFR (nthLoop Tryz.f39 0) v Q:=by
 intro v Q h;unfold LQFR at h;split at h;case h_2=>exact h.elim
 rename_i y u l len k;obtain⟨⟨rfl,rfl,h3,h5,h6⟩,hq⟩:=h;obtain rfl:y=[]:=List.eq_nil_of_length_eq_zero h3;have e0:u=u+qsm l 0:=by simp[qsm]
 have key:hloop CQFR anQFR (nthLoop Tryz.f39 0) ([.ce (.sl false [4] (qcumN u l 0)), .ce (.lit true), .ce (I6 (u+qsm l 0)), .ce (.sl false [4] l), .ce (I6 (l.length:Int)), .ce (I6 ((0:Nat):Int))],[]) Q:=by
  refine hloop_rec (σ:=Nat) (fun i=>([.ce (.sl false [4] (qcumN u l i)), .ce (.lit true), .ce (I6 (u+qsm l i)), .ce (.sl false [4] l), .ce (I6 (l.length:Int)), .ce (I6 (i:Int))],[])) (fun i=>l.length-i) (fun i=>i<=l.length) ?_ 0 (Nat.zero_le _);intro i hi K hn he hr;have b:=qsm_bd h5 i hi;have hl:=h5.1;have hlen:=qcumN_len u l i;unfold okU at h6;refine byVB (vbQFR (u+qsm l i) l.length i (qcumN u l i) l K) ⟨fun c=> ?_,fun c=> ?_⟩
  . have c:=odt c;have b1:=h5.2 i (by omega);refine⟨by omega,fun x1 e1=> ?_⟩;have e1:x1=el l i:=e1;refine⟨by omega,fun x2 e2=>⟨⟨by omega,by unfold maxLen;omega⟩,by omega,fun x3 e3=> ?_⟩⟩;have e2':x2=u+qsm l (i+1):=by rw[qsm];omega
    have g:=hn (i+1) (by omega) (by omega);rw[e2',<-qcumN_succ,<-show((i+1:Nat):Int)=x3 by omega];exact g
  . have c:=odf c;obtain rfl:i=l.length:=by omega
    exact he _ _ hq
 rw[<-e0]at key;exact key
theorem sQFutR:Sound Tryz.prog 39 SQFut:=by
 refine sound_of (C:=CQFR) tabQFR Tryz.func39 (by kernel_rfl) (by decide+kernel) (by kernel_rfl) rfl ⟨sQStopR,trivial⟩ (loops1 (by kernel_rfl) (loopOK_of (an:=anQFR) (S:=LQFR) (by kernel_rfl) loopQFR)) ?_;intro hA pA R h;unfold SQFut at h;split at h;case h_2=>exfalso;exact h
 rename_i A J Rp mu mv ma ml mp mb;obtain⟨⟨hp,hu⟩,_,hR⟩:=h;refine byVC (vcQFR A J Rp mu mv ma ml mp mb R) ⟨hp,⟨_,rfl⟩,fun x e=> ?_⟩;subst e;have hs:=qsp_spd (v:=mv) (a:=ma) hp;refine⟨fun g=> ?_,fun g=>⟨⟨rfl,rfl,rfl,hs,hu⟩,?_⟩⟩
 . have g:qfok A J mv ma=false:=by simpa using g
   exact hR ([],false) (by unfold qfu;rw[show qsp A J mv ma=[]by unfold qsp;rw[g];rfl,g];rfl)
 . have g:qfok A J mv ma=true:=by simpa using g
   exact hR (qcum mu (qsp A J mv ma),true) (by rw[g];rfl)
theorem sQRestR:Sound Tryz.prog 33 SQRest:=by
 refine sound_of (C:=CQRestR) tabQRestR Tryz.func33 (by kernel_rfl) (by decide+kernel) (by kernel_rfl) rfl ⟨sQFutR,trivial⟩ (loops0 (by kernel_rfl)) ?_;intro hA pA R h;unfold SQRest at h;split at h;case h_2=>exfalso;exact h
 rename_i A J Rp mu mv ma ml mp mb;obtain⟨⟨hp,hu⟩,_,hR⟩:=h;refine byVC (vcQRestR A J Rp mu mv ma ml mp mb R) ⟨⟨hp,hu⟩,⟨_,rfl⟩,fun x e=> ?_⟩;subst e;have hl:(qfu A J mu mv ma).length<=4096:=by unfold qfu;rw[qcum_len];exact(qsp_spd hp).1
 refine⟨fun g=> ?_,fun g=>⟨fun g2=> ?_,fun g2=>⟨by dsimp only;omega,fun x2 e2=> ?_⟩⟩⟩
 . have g:qfok A J mv ma=false:=by simpa using g
   exact hR (0,false) (by rw[g];rfl)
 . have g:qfok A J mv ma=true:=by simpa using g
   have g2:(qfu A J mu mv ma).length=0:=by simpa using g2
   exact hR (mu,true) (by rw[g];unfold qend;rw[if_pos rfl,if_pos g2])
 . have g:qfok A J mv ma=true:=by simpa using g
   have g2:(qfu A J mu mv ma).length≠0:=by simpa using g2
   dsimp only at e2⊢;refine⟨by omega,fun x3 e3=> ?_⟩;exact hR (x3,true) (by rw[g];unfold qend;rw[if_pos rfl,if_neg g2,e3,show x2.toNat=(qfu A J mu mv ma).length-1 by omega])
end
noncomputable def CDfR:Ctx:=⟨Tryz.prog,gam [],Tryz.f111.ntmps,[(3,anDf,LDf)],[]⟩
theorem vbDfR(l acc:LL)(k:Int)(K:HEx->LV->Prop):(nbodyT true CDfR anDf (nthLoop Tryz.f111 0) (([.ce (.sl false [4] l), .ce (.sl false [4] acc), .ce (.lit true), .ce (I6 k)],[])) K)=(Br (k<(l.length:Int)) ((0<=k/\k<(l.length:Int))/\∀x1,x1=el l k.toNat->R6 (k-1)/\∀x2,x2=k-1->(0<=x2/\x2<(l.length:Int))/\∀x3,x3=el l x2.toNat->R6 (x1-x3)/\∀x4,x4=x1-x3->((acc.length+1)*8<=140737488355328/\acc.length+1<=maxLen)/\R6 (k+1)/\∀x5,x5=k+1->K .normal ([.ce (.sl false [4] l), .ce (.sl false [4] (acc++[[x4]])), .ce (.lit true), .ce (I6 x5)],[])) (K (.exit 0) ([.ce (.sl false [4] acc), .ce (.lit true)],[]))):=by kernel_rfl
theorem vcDfR(l:LL)(Q:Res->Prop):(nfun true CDfR Tryz.f111 (bodyOf Tryz.f111) [.ce (.sl false [4] l)] [] Q)=(((0:Nat)=0/\(1:Int)=1/\l.length<=8192/\Sm (1152921504606846976:Int) l)/\Q ⟨.ce (.sl false [4] (dfl l)),true,[],[]⟩):=by kernel_rfl
noncomputable def CBdR:Ctx:=⟨Tryz.prog,gam [],Tryz.f112.ntmps,[(2,anBd,LBd)],[]⟩
theorem vbBdR(m n k:Int)(r:Bool)(l:LL)(K:HEx->LV->Prop):(nbodyT true CBdR anBd (nthLoop Tryz.f112 0) (([.ce (I6 m), .ce (.bool r), .ce (.sl false [4] l), .ce (I6 n), .ce (I6 k)],[])) K)=(Br (k<n) ((0<=k/\k<(l.length:Int))/\∀x1,x1=el l k.toNat->Br (x1>m) (K .ret ([.ce (.bool false)],[])) (R6 (0-m)/\∀x2,x2=0-m->Br (x1<x2) (K .ret ([.ce (.bool false)],[])) (R6 (k+1)/\∀x3,x3=k+1->K .normal ([.ce (I6 m), .ce (.bool r), .ce (.sl false [4] l), .ce (I6 n), .ce (I6 x3)],[])))) (K (.exit 0) ([.ce (.bool r)],[]))):=by kernel_rfl
theorem vcBdR(l:LL)(m:Int)(Q:Res->Prop):(nfun true CBdR Tryz.f112 (bodyOf Tryz.f112) [.ce (.sl false [4] l), .ce (I6 m)] [] Q)=(((0:Int)=0/\(l.length:Int)=(l.length:Int)/\l.length<=8192/\0<=m/\m<=1099511627776)/\Bb (bdd l m) (Q ⟨.ce (.bool true),false,[],[]⟩) (Q ⟨.ce (.bool false),false,[],[]⟩)):=by kernel_rfl
def tabWthR:List (FuncId×HL.Spec):=[(111,SDf),(112,SBd)]
noncomputable def CWthR:Ctx:=⟨Tryz.prog,gam tabWthR,Tryz.f85.ntmps,[],[]⟩
theorem vcWthR(sta spa aca jea loa hia bla oga sga:Int)(pta:LL)(l:LL)(Q:Res->Prop):(nfun true CWthR Tryz.f85 (bodyOf Tryz.f85) [.agg [I6 sta,I6 spa,I6 aca,I6 jea,I6 loa,I6 hia,I6 bla,I6 oga,I6 sga, .sl false [4] pta], .ce (.sl false [4] l)] [] Q)=((l.length<=8192/\Sm (1152921504606846976:Int) l)/\(∃(x:LL),x=dfl l)/\∀(x:LL),x=dfl l->(x.length<=8192/\Sm (1152921504606846976:Int) x)/\(∃(x_1:LL),x_1=dfl x)/\∀(x_1:LL),x_1=dfl x->(x.length<=8192/\0<=spa/\spa<=1099511627776)/\∀(x3:Bool),x3=bdd x spa->Bb (x3) ((x_1.length<=8192/\0<=aca/\aca<=1099511627776)/\∀(x4:Bool),x4=bdd x_1 aca->Bb (x4) ((x_1.length<=8192/\Sm (1152921504606846976:Int) x_1)/\(∃(x:LL),x=dfl x_1)/\∀(x:LL),x=dfl x_1->(x.length<=8192/\0<=jea/\jea<=1099511627776)/\∀(x6:Bool),x6=bdd x jea->Q ⟨.ce (.bool x6),false,[],[]⟩) (Q ⟨.ce (.bool false),false,[],[]⟩)) (Q ⟨.ce (.bool false),false,[],[]⟩)):=by kernel_rfl
section
attribute [local irreducible] hfun bodyT fragT
theorem loopDfR:∀v Q,(LDf v).wp Q->hloop CDfR anDf (nthLoop Tryz.f111 0) v Q:=by
 intro v Q h;unfold LDf at h;split at h;case h_2=>exact h.elim
 rename_i l acc k;obtain⟨⟨h1,h2,h3,h4⟩,hq⟩:=h;subst h2;obtain rfl:acc=[]:=List.eq_nil_of_length_eq_zero h1;refine hloop_rec (σ:=Nat) (fun j=>([.ce (.sl false [4] l), .ce (.sl false [4] (dfN l j)), .ce (.lit true), .ce (I6 ((j:Int)+1))],[])) (fun j=>l.length-j) (fun j=>j<=l.length-1) ?_ 0 (Nat.zero_le _);intro j hj K hn he _;refine byVB (vbDfR l (dfN l j) ((j:Int)+1) K) ⟨fun g=> ?_,fun g=> ?_⟩
 . have g:=odt g;refine⟨by omega,fun x1 e1=>⟨by omega,fun x2 e2=>⟨by omega,fun x3 e3=> ?_⟩⟩⟩;rw[show((j:Int)+1).toNat=j+1 by omega]at e1;rw[show x2.toNat=j by omega]at e3;have a:=h4 j (by omega);have b:=h4 (j+1) (by omega);refine⟨by omega,fun x4 e4=>⟨⟨by rw[dfN_len];omega,by rw[dfN_len];unfold maxLen;omega⟩,by omega,fun x5 e5=> ?_⟩⟩;have:=hn (j+1) (by omega) (by omega);rw[dfN_succ,show((j+1:Nat):Int)+1=x5 by omega,show el l (j+1)-el l j=x4 by omega]at this;exact this
 . have g:=odf g;refine he _ _ ?_;obtain rfl:j=l.length-1:=by omega
   exact hq
theorem sDfR:Sound Tryz.prog 111 SDf:=by
 refine sound_of (C:=CDfR) [] Tryz.func111 (by kernel_rfl) (by decide+kernel) (by kernel_rfl) rfl trivial (loops1 (by kernel_rfl) (loopOK_of (an:=anDf) (S:=LDf) (by kernel_rfl) loopDfR)) ?_;intro hA pA R h;unfold SDf at h;split at h;case h_2=>exfalso;exact h
 rename_i l;obtain⟨hp,_,hR⟩:=h;exact byVC (vcDfR l R) ⟨⟨rfl,rfl,hp⟩,hR _ rfl⟩
theorem loopBdR:∀v Q,(LBd v).wp Q->hloop CBdR anBd (nthLoop Tryz.f112 0) v Q:=by
 intro v Q h;unfold LBd at h;split at h;case h_2=>exact h.elim
 rename_i m r l n k;obtain⟨⟨h1,h2,h3,h4⟩,hq1,hq2⟩:=h;subst h1 h2;refine hloop_rec (σ:=Nat) (fun j=>([.ce (I6 m), .ce (.bool r), .ce (.sl false [4] l), .ce (I6 (l.length:Int)), .ce (I6 (j:Int))],[])) (fun j=>l.length-j) (fun j=>j<=l.length/\bdN l m j=true) ?_ 0 ⟨Nat.zero_le _,rfl⟩;intro j⟨hj,hp⟩K hn he hr;have bad:j<l.length->¬(-m<=el l j/\el l j<=m)->K .ret ([.ce (.bool false)],[]):=fun hlt hx=>hr _ (hq2 (allN_false hlt (decide_eq_false hx)));refine byVB (vbBdR m l.length j r l K) ⟨fun g=>⟨by have:=odt g;omega,fun x1 e1=> ?_⟩,fun g=> ?_⟩
 . have g:=odt g;have e1:x1=el l j:=e1;refine⟨fun g2=>bad (by omega) (by have:=odt g2;omega),fun g2=>⟨by omega,fun x2 e2=>⟨fun g3=>bad (by omega) (by have:=odt g3;omega),fun g3=>⟨by omega,fun x3 e3=> ?_⟩⟩⟩⟩;have g2:=odf g2;have g3:=odf g3;have:=hn (j+1) ⟨by omega,by unfold bdN at hp⊢;rw[allN_succ,hp];simp;omega⟩ (by omega);rw[show((j+1:Nat):Int)=x3 by omega]at this;exact this
 . have g:=odf g;obtain rfl:j=l.length:=by omega
   exact he _ _ (hq1 hp)
theorem sBdR:Sound Tryz.prog 112 SBd:=by
 refine sound_of (C:=CBdR) [] Tryz.func112 (by kernel_rfl) (by decide+kernel) (by kernel_rfl) rfl trivial (loops1 (by kernel_rfl) (loopOK_of (an:=anBd) (S:=LBd) (by kernel_rfl) loopBdR)) ?_;intro hA pA R h;unfold SBd at h;split at h;case h_2=>exfalso;exact h
 rename_i l m;obtain⟨hp,hR⟩:=h;exact byVC (vcBdR l m R) ⟨⟨rfl,rfl,hp⟩,fun e=>by rw[e]at hR;exact hR,fun e=>by rw[e]at hR;exact hR⟩
theorem sWthR:Sound Tryz.prog 85 SWth:=by
 refine sound_of (C:=CWthR) tabWthR Tryz.func85 (by kernel_rfl) (by decide+kernel) (by kernel_rfl) rfl ⟨sDfR,sBdR,trivial⟩ (loops0 (by kernel_rfl)) ?_;intro hA pA R h;unfold SWth at h;split at h;case h_2=>exfalso;exact h
 rename_i sta spa aca jea loa hia bla oga sga pta l;obtain⟨⟨hl,hs,hli⟩,hR⟩:=h;have s1:=Sm_dfl hs;have s2:=Sm_dfl s1;refine byVC (vcWthR sta spa aca jea loa hia bla oga sga pta l R) ⟨⟨hl,Sm_mono (by decide) hs⟩,⟨_,rfl⟩,fun x e=> ?_⟩;subst e;refine⟨⟨by rw[dfl_len];omega,Sm_mono (by decide) s1⟩,⟨_,rfl⟩,fun y e=> ?_⟩;subst e;refine⟨⟨by rw[dfl_len];omega,hli.1⟩,fun x2 e2=>⟨fun g=>⟨⟨by rw[dfl_len,dfl_len];omega,hli.2.1⟩,fun x4 e4=>⟨fun g4=>⟨⟨by rw[dfl_len,dfl_len];omega,Sm_mono (by decide) s2⟩,⟨_,rfl⟩,fun z e=> ?_⟩,fun g4=> ?_⟩⟩,fun g=> ?_⟩⟩
 . subst e;refine⟨⟨by rw[dfl_len,dfl_len,dfl_len];omega,hli.2.2⟩,fun x6 e6=> ?_⟩;rw[show wth spa aca jea l=x6 by unfold wth;rw[<-e2,<-e4,<-e6,g,g4];rfl]at hR;exact hR
 . rw[show wth spa aca jea l=false by unfold wth;rw[<-e4,g4];simp]at hR;exact hR
 . rw[show wth spa aca jea l=false by unfold wth;rw[<-e2,g];rfl]at hR;exact hR
end
def anAllR:LAnn:=⟨[1,2,4,5,6,100006,9,12,13,14],[1,2,4,5,6,100006,9],[1000002],fun s=>Nat.beq s 5||Nat.beq s 9⟩
def LAllR(v:LV):LR:=match v with
 |([.ce (.sl false [4,4,4] l), .ce (.ptr 1000002 0), .ce (.bool r), .ce (.num .i64 j), .ce (.sl false [4] y), .ce (.lit true), .ce (.num .i64 j2), .ce (.sl false [4,4,4] l2), .ce (.int .i64 len), .ce (.int .i64 k)],[b])=>(match b with
  |[.int .i64 sta, .int .i64 spa, .int .i64 aca, .int .i64 jea, .int .i64 loa, .int .i64 hia, .int .i64 bla, .int .i64 oga, .int .i64 sga, .sl false [4] pta, .int .i64 stb, .int .i64 spb, .int .i64 acb, .int .i64 jeb, .int .i64 lob, .int .i64 hib, .int .i64 blb, .int .i64 ogb, .int .i64 sgb, .sl false [4] ptb, .int .i64 stc, .int .i64 spc, .int .i64 acc, .int .i64 jec, .int .i64 loc, .int .i64 hic, .int .i64 blc, .int .i64 ogc, .int .i64 sgc, .sl false [4] ptc]=> .det ((0<=j/\j<=2)/\y.length=0/\l2=l/\len=l.length/\k=0/\l.length<=8192) (.exit 2) ([.ce (.sl false [4,4,4] l), .ce (.ptr 1000002 0), .ce (.bool r), .ce (.num .i64 j), .ce (.sl false [4] (col l j.toNat)), .ce (.lit true), .ce (.num .i64 j2)],[[I6 sta,I6 spa,I6 aca,I6 jea,I6 loa,I6 hia,I6 bla,I6 oga,I6 sga, .sl false [4] pta,I6 stb,I6 spb,I6 acb,I6 jeb,I6 lob,I6 hib,I6 blb,I6 ogb,I6 sgb, .sl false [4] ptb,I6 stc,I6 spc,I6 acc,I6 jec,I6 loc,I6 hic,I6 blc,I6 ogc,I6 sgc, .sl false [4] ptc]])
  |_=> .fail)
 |_=> .fail
def tabAllR:List (FuncId×HL.Spec):=[(85,SWth)]
noncomputable def CAllR:Ctx:=⟨Tryz.prog,gam tabAllR,Tryz.f42.ntmps,[(4000002,unrT [1000002],fun _=> .fail),(6,anAllR,LAllR)],[]⟩
theorem vbAllR0(l y:LL)(r:Bool)(j2 len k:Int)(sta spa aca jea loa hia bla oga sga stb spb acb jeb lob hib blb ogb sgb stc spc acc jec loc hic blc ogc sgc:Int)(pta ptb ptc:LL)(K:HEx->LV->Prop):(nbodyT true CAllR anAllR (nthLoop Tryz.f42 1) (([.ce (.sl false [4,4,4] l), .ce (.ptr 1000002 0), .ce (.bool r), .ce (.num .i64 0), .ce (.sl false [4] y), .ce (.lit true), .ce (.num .i64 j2), .ce (.sl false [4,4,4] l), .ce (I6 len), .ce (I6 k)],[[I6 sta,I6 spa,I6 aca,I6 jea,I6 loa,I6 hia,I6 bla,I6 oga,I6 sga, .sl false [4] pta,I6 stb,I6 spb,I6 acb,I6 jeb,I6 lob,I6 hib,I6 blb,I6 ogb,I6 sgb, .sl false [4] ptb,I6 stc,I6 spc,I6 acc,I6 jec,I6 loc,I6 hic,I6 blc,I6 ogc,I6 sgc, .sl false [4] ptc]])) K)=(Br (k<len) ((0<=k/\k<(l.length:Int))/\((y.length+1)*8<=140737488355328/\y.length+1<=maxLen)/\R6 (k+1)/\∀x1,x1=k+1->K .normal ([.ce (.sl false [4,4,4] l), .ce (.ptr 1000002 0), .ce (.bool r), .ce (.num .i64 0), .ce (.sl false [4] (y++[[el l k.toNat]])), .ce (.lit true), .ce (.num .i64 j2), .ce (.sl false [4,4,4] l), .ce (I6 len), .ce (I6 x1)],[[I6 sta,I6 spa,I6 aca,I6 jea,I6 loa,I6 hia,I6 bla,I6 oga,I6 sga, .sl false [4] pta,I6 stb,I6 spb,I6 acb,I6 jeb,I6 lob,I6 hib,I6 blb,I6 ogb,I6 sgb, .sl false [4] ptb,I6 stc,I6 spc,I6 acc,I6 jec,I6 loc,I6 hic,I6 blc,I6 ogc,I6 sgc, .sl false [4] ptc]])) (K (.exit 2) ([.ce (.sl false [4,4,4] l), .ce (.ptr 1000002 0), .ce (.bool r), .ce (.num .i64 0), .ce (.sl false [4] y), .ce (.lit true), .ce (.num .i64 j2)],[[I6 sta,I6 spa,I6 aca,I6 jea,I6 loa,I6 hia,I6 bla,I6 oga,I6 sga, .sl false [4] pta,I6 stb,I6 spb,I6 acb,I6 jeb,I6 lob,I6 hib,I6 blb,I6 ogb,I6 sgb, .sl false [4] ptb,I6 stc,I6 spc,I6 acc,I6 jec,I6 loc,I6 hic,I6 blc,I6 ogc,I6 sgc, .sl false [4] ptc]]))):=by kernel_rfl
theorem vbAllR1(l y:LL)(r:Bool)(j2 len k:Int)(sta spa aca jea loa hia bla oga sga stb spb acb jeb lob hib blb ogb sgb stc spc acc jec loc hic blc ogc sgc:Int)(pta ptb ptc:LL)(K:HEx->LV->Prop):(nbodyT true CAllR anAllR (nthLoop Tryz.f42 1) (([.ce (.sl false [4,4,4] l), .ce (.ptr 1000002 0), .ce (.bool r), .ce (.num .i64 1), .ce (.sl false [4] y), .ce (.lit true), .ce (.num .i64 j2), .ce (.sl false [4,4,4] l), .ce (I6 len), .ce (I6 k)],[[I6 sta,I6 spa,I6 aca,I6 jea,I6 loa,I6 hia,I6 bla,I6 oga,I6 sga, .sl false [4] pta,I6 stb,I6 spb,I6 acb,I6 jeb,I6 lob,I6 hib,I6 blb,I6 ogb,I6 sgb, .sl false [4] ptb,I6 stc,I6 spc,I6 acc,I6 jec,I6 loc,I6 hic,I6 blc,I6 ogc,I6 sgc, .sl false [4] ptc]])) K)=(Br (k<len) ((0<=k/\k<(l.length:Int))/\((y.length+1)*8<=140737488355328/\y.length+1<=maxLen)/\R6 (k+1)/\∀x1,x1=k+1->K .normal ([.ce (.sl false [4,4,4] l), .ce (.ptr 1000002 0), .ce (.bool r), .ce (.num .i64 1), .ce (.sl false [4] (y++[[ec l k.toNat 1]])), .ce (.lit true), .ce (.num .i64 j2), .ce (.sl false [4,4,4] l), .ce (I6 len), .ce (I6 x1)],[[I6 sta,I6 spa,I6 aca,I6 jea,I6 loa,I6 hia,I6 bla,I6 oga,I6 sga, .sl false [4] pta,I6 stb,I6 spb,I6 acb,I6 jeb,I6 lob,I6 hib,I6 blb,I6 ogb,I6 sgb, .sl false [4] ptb,I6 stc,I6 spc,I6 acc,I6 jec,I6 loc,I6 hic,I6 blc,I6 ogc,I6 sgc, .sl false [4] ptc]])) (K (.exit 2) ([.ce (.sl false [4,4,4] l), .ce (.ptr 1000002 0), .ce (.bool r), .ce (.num .i64 1), .ce (.sl false [4] y), .ce (.lit true), .ce (.num .i64 j2)],[[I6 sta,I6 spa,I6 aca,I6 jea,I6 loa,I6 hia,I6 bla,I6 oga,I6 sga, .sl false [4] pta,I6 stb,I6 spb,I6 acb,I6 jeb,I6 lob,I6 hib,I6 blb,I6 ogb,I6 sgb, .sl false [4] ptb,I6 stc,I6 spc,I6 acc,I6 jec,I6 loc,I6 hic,I6 blc,I6 ogc,I6 sgc, .sl false [4] ptc]]))):=by kernel_rfl
theorem vbAllR2(l y:LL)(r:Bool)(j2 len k:Int)(sta spa aca jea loa hia bla oga sga stb spb acb jeb lob hib blb ogb sgb stc spc acc jec loc hic blc ogc sgc:Int)(pta ptb ptc:LL)(K:HEx->LV->Prop):(nbodyT true CAllR anAllR (nthLoop Tryz.f42 1) (([.ce (.sl false [4,4,4] l), .ce (.ptr 1000002 0), .ce (.bool r), .ce (.num .i64 2), .ce (.sl false [4] y), .ce (.lit true), .ce (.num .i64 j2), .ce (.sl false [4,4,4] l), .ce (I6 len), .ce (I6 k)],[[I6 sta,I6 spa,I6 aca,I6 jea,I6 loa,I6 hia,I6 bla,I6 oga,I6 sga, .sl false [4] pta,I6 stb,I6 spb,I6 acb,I6 jeb,I6 lob,I6 hib,I6 blb,I6 ogb,I6 sgb, .sl false [4] ptb,I6 stc,I6 spc,I6 acc,I6 jec,I6 loc,I6 hic,I6 blc,I6 ogc,I6 sgc, .sl false [4] ptc]])) K)=(Br (k<len) ((0<=k/\k<(l.length:Int))/\((y.length+1)*8<=140737488355328/\y.length+1<=maxLen)/\R6 (k+1)/\∀x1,x1=k+1->K .normal ([.ce (.sl false [4,4,4] l), .ce (.ptr 1000002 0), .ce (.bool r), .ce (.num .i64 2), .ce (.sl false [4] (y++[[ec l k.toNat 2]])), .ce (.lit true), .ce (.num .i64 j2), .ce (.sl false [4,4,4] l), .ce (I6 len), .ce (I6 x1)],[[I6 sta,I6 spa,I6 aca,I6 jea,I6 loa,I6 hia,I6 bla,I6 oga,I6 sga, .sl false [4] pta,I6 stb,I6 spb,I6 acb,I6 jeb,I6 lob,I6 hib,I6 blb,I6 ogb,I6 sgb, .sl false [4] ptb,I6 stc,I6 spc,I6 acc,I6 jec,I6 loc,I6 hic,I6 blc,I6 ogc,I6 sgc, .sl false [4] ptc]])) (K (.exit 2) ([.ce (.sl false [4,4,4] l), .ce (.ptr 1000002 0), .ce (.bool r), .ce (.num .i64 2), .ce (.sl false [4] y), .ce (.lit true), .ce (.num .i64 j2)],[[I6 sta,I6 spa,I6 aca,I6 jea,I6 loa,I6 hia,I6 bla,I6 oga,I6 sga, .sl false [4] pta,I6 stb,I6 spb,I6 acb,I6 jeb,I6 lob,I6 hib,I6 blb,I6 ogb,I6 sgb, .sl false [4] ptb,I6 stc,I6 spc,I6 acc,I6 jec,I6 loc,I6 hic,I6 blc,I6 ogc,I6 sgc, .sl false [4] ptc]]))):=by kernel_rfl
theorem vcAllR(l:LL)(sta spa aca jea loa hia bla oga sga stb spb acb jeb lob hib blb ogb sgb stc spc acc jec loc hic blc ogc sgc:Int)(pta ptb ptc:LL)(Q:Res->Prop):(nfun true CAllR Tryz.f42 (bodyOf Tryz.f42) [.agg [I6 sta,I6 spa,I6 aca,I6 jea,I6 loa,I6 hia,I6 bla,I6 oga,I6 sga, .sl false [4] pta,I6 stb,I6 spb,I6 acb,I6 jeb,I6 lob,I6 hib,I6 blb,I6 ogb,I6 sgb, .sl false [4] ptb,I6 stc,I6 spc,I6 acc,I6 jec,I6 loc,I6 hic,I6 blc,I6 ogc,I6 sgc, .sl false [4] ptc], .ce (.sl false [4,4,4] l)] [] Q)=((((0:Int)<=0/\(0:Int)<=2)/\(0:Nat)=0/\l=l/\(l.length:Int)=(l.length:Int)/\(0:Int)=0/\l.length<=8192)/\(List.length (col l (0:Nat))<=8192/\Sm (1125899906842624:Int) (col l (0:Nat))/\okLi spa aca jea)/\∀(x1:Bool),x1=wth spa aca jea (col l (0:Nat))->Bb (!x1) (Q ⟨.ce (.bool false),false,[],[]⟩) ((((0:Int)<=1/\(1:Int)<=2)/\(0:Nat)=0/\l=l/\(l.length:Int)=(l.length:Int)/\(0:Int)=0/\l.length<=8192)/\(List.length (col l (1:Nat))<=8192/\Sm (1125899906842624:Int) (col l (1:Nat))/\okLi spb acb jeb)/\∀(x2:Bool),x2=wth spb acb jeb (col l (1:Nat))->Bb (!x2) (Q ⟨.ce (.bool false),false,[],[]⟩) ((((0:Int)<=2/\(2:Int)<=2)/\(0:Nat)=0/\l=l/\(l.length:Int)=(l.length:Int)/\(0:Int)=0/\l.length<=8192)/\(List.length (col l (2:Nat))<=8192/\Sm (1125899906842624:Int) (col l (2:Nat))/\okLi spc acc jec)/\∀(x3:Bool),x3=wth spc acc jec (col l (2:Nat))->Bb (!x3) (Q ⟨.ce (.bool false),false,[],[]⟩) (Q ⟨.ce (.bool true),false,[],[]⟩)))):=by kernel_rfl
section
attribute [local irreducible] hfun bodyT fragT
theorem loopAllR:∀v Q,(LAllR v).wp Q->hloop CAllR anAllR (nthLoop Tryz.f42 1) v Q:=by
 intro v Q h;unfold LAllR at h;split at h;case h_2=>exact h.elim
 rename_i l r j y j2 l2 len k b;split at h;case h_2=>exact h.elim
 rename_i sta spa aca jea loa hia bla oga sga pta stb spb acb jeb lob hib blb ogb sgb ptb stc spc acc jec loc hic blc ogc sgc ptc;obtain⟨⟨h1,h2,rfl,rfl,rfl,h6⟩,hq⟩:=h;obtain rfl:y=[]:=List.eq_nil_of_length_eq_zero h2;have hj:j=0∨j=1∨j=2:=by omega
 rcases hj with rfl|rfl|rfl
 . refine hloop_rec (σ:=Nat) (fun i=>([.ce (.sl false [4,4,4] l2), .ce (.ptr 1000002 0), .ce (.bool r), .ce (.num .i64 0), .ce (.sl false [4] (colN l2 0 i)), .ce (.lit true), .ce (.num .i64 j2), .ce (.sl false [4,4,4] l2), .ce (I6 (l2.length:Int)), .ce (I6 (i:Int))],[[I6 sta,I6 spa,I6 aca,I6 jea,I6 loa,I6 hia,I6 bla,I6 oga,I6 sga, .sl false [4] pta,I6 stb,I6 spb,I6 acb,I6 jeb,I6 lob,I6 hib,I6 blb,I6 ogb,I6 sgb, .sl false [4] ptb,I6 stc,I6 spc,I6 acc,I6 jec,I6 loc,I6 hic,I6 blc,I6 ogc,I6 sgc, .sl false [4] ptc]])) (fun i=>l2.length-i) (fun i=>i<=l2.length) ?_ 0 (Nat.zero_le _);intro i hi K hn he hr;have hc:(colN l2 0 i).length=i:=by simp[colN]
   refine byVB (vbAllR0 l2 (colN l2 0 i) r j2 l2.length i sta spa aca jea loa hia bla oga sga stb spb acb jeb lob hib blb ogb sgb stc spc acc jec loc hic blc ogc sgc pta ptb ptc K) ⟨fun c=> ?_,fun c=> ?_⟩
   . have c:=odt c;refine⟨by omega,⟨by omega,by unfold maxLen;omega⟩,by omega,fun x1 e1=> ?_⟩;have g:=hn (i+1) (by omega) (by omega);rw[colN_succ,show((i+1:Nat):Int)=x1 by omega]at g;exact g
   . have c:=odf c;obtain rfl:i=l2.length:=by omega
     exact he _ _ hq
 . refine hloop_rec (σ:=Nat) (fun i=>([.ce (.sl false [4,4,4] l2), .ce (.ptr 1000002 0), .ce (.bool r), .ce (.num .i64 1), .ce (.sl false [4] (colN l2 1 i)), .ce (.lit true), .ce (.num .i64 j2), .ce (.sl false [4,4,4] l2), .ce (I6 (l2.length:Int)), .ce (I6 (i:Int))],[[I6 sta,I6 spa,I6 aca,I6 jea,I6 loa,I6 hia,I6 bla,I6 oga,I6 sga, .sl false [4] pta,I6 stb,I6 spb,I6 acb,I6 jeb,I6 lob,I6 hib,I6 blb,I6 ogb,I6 sgb, .sl false [4] ptb,I6 stc,I6 spc,I6 acc,I6 jec,I6 loc,I6 hic,I6 blc,I6 ogc,I6 sgc, .sl false [4] ptc]])) (fun i=>l2.length-i) (fun i=>i<=l2.length) ?_ 0 (Nat.zero_le _);intro i hi K hn he hr;have hc:(colN l2 1 i).length=i:=by simp[colN]
   refine byVB (vbAllR1 l2 (colN l2 1 i) r j2 l2.length i sta spa aca jea loa hia bla oga sga stb spb acb jeb lob hib blb ogb sgb stc spc acc jec loc hic blc ogc sgc pta ptb ptc K) ⟨fun c=> ?_,fun c=> ?_⟩
   . have c:=odt c;refine⟨by omega,⟨by omega,by unfold maxLen;omega⟩,by omega,fun x1 e1=> ?_⟩;have g:=hn (i+1) (by omega) (by omega);rw[colN_succ,show((i+1:Nat):Int)=x1 by omega]at g;exact g
   . have c:=odf c;obtain rfl:i=l2.length:=by omega
     exact he _ _ hq
 . refine hloop_rec (σ:=Nat) (fun i=>([.ce (.sl false [4,4,4] l2), .ce (.ptr 1000002 0), .ce (.bool r), .ce (.num .i64 2), .ce (.sl false [4] (colN l2 2 i)), .ce (.lit true), .ce (.num .i64 j2), .ce (.sl false [4,4,4] l2), .ce (I6 (l2.length:Int)), .ce (I6 (i:Int))],[[I6 sta,I6 spa,I6 aca,I6 jea,I6 loa,I6 hia,I6 bla,I6 oga,I6 sga, .sl false [4] pta,I6 stb,I6 spb,I6 acb,I6 jeb,I6 lob,I6 hib,I6 blb,I6 ogb,I6 sgb, .sl false [4] ptb,I6 stc,I6 spc,I6 acc,I6 jec,I6 loc,I6 hic,I6 blc,I6 ogc,I6 sgc, .sl false [4] ptc]])) (fun i=>l2.length-i) (fun i=>i<=l2.length) ?_ 0 (Nat.zero_le _);intro i hi K hn he hr;have hc:(colN l2 2 i).length=i:=by simp[colN]
   refine byVB (vbAllR2 l2 (colN l2 2 i) r j2 l2.length i sta spa aca jea loa hia bla oga sga stb spb acb jeb lob hib blb ogb sgb stc spc acc jec loc hic blc ogc sgc pta ptb ptc K) ⟨fun c=> ?_,fun c=> ?_⟩
   . have c:=odt c;refine⟨by omega,⟨by omega,by unfold maxLen;omega⟩,by omega,fun x1 e1=> ?_⟩;have g:=hn (i+1) (by omega) (by omega);rw[colN_succ,show((i+1:Nat):Int)=x1 by omega]at g;exact g
   . have c:=odf c;obtain rfl:i=l2.length:=by omega
     exact he _ _ hq
theorem sAllR:Sound Tryz.prog 42 SAll:=by
 refine sound_of (C:=CAllR) tabAllR Tryz.func42 (by kernel_rfl) (by decide+kernel) (by kernel_rfl) rfl ⟨sWthR,trivial⟩ (loopsK [nthLoop Tryz.f42 1] [] (by kernel_rfl) (by kernel_rfl) ⟨loopOK_of (an:=anAllR) (S:=LAllR) (by kernel_rfl) loopAllR,trivial⟩ trivial) ?_;intro hA pA R h;unfold SAll at h;split at h;case h_2=>exfalso;exact h
 rename_i ax l;split at h;case h_2=>exact h.elim
 rename_i sta spa aca jea loa hia bla oga sga pta stb spb acb jeb lob hib blb ogb sgb ptb stc spc acc jec loc hic blc ogc sgc ptc;obtain⟨⟨hl,hs,h0,h1,h2⟩,hR⟩:=h;obtain⟨c0,c1,c2⟩:=Sm_col hs;have cl:∀c,(col l c).length<=8192:=fun c=>by rw[col_len];exact hl
 refine byVC (vcAllR l sta spa aca jea loa hia bla oga sga stb spb acb jeb lob hib blb ogb sgb stc spc acc jec loc hic blc ogc sgc pta ptb ptc R) ⟨⟨by decide,rfl,rfl,rfl,rfl,hl⟩,⟨cl 0,c0,h0⟩,fun x1 e1=>⟨fun g=> ?_,fun g=>⟨⟨by decide,rfl,rfl,rfl,rfl,hl⟩,⟨cl 1,c1,h1⟩,fun x2 e2=>⟨fun g2=> ?_,fun g2=>⟨⟨by decide,rfl,rfl,rfl,rfl,hl⟩,⟨cl 2,c2,h2⟩,fun x3 e3=> ?_⟩⟩⟩⟩⟩
 . rw[show wth3 spa aca jea spb acb jeb spc acc jec l=false by unfold wth3;rw[<-e1];cases x1<;>simp at g⊢]at hR;exact hR
 . rw[show wth3 spa aca jea spb acb jeb spc acc jec l=false by unfold wth3;rw[<-e2];cases x2<;>simp at g2⊢]at hR;exact hR
 . have w:wth3 spa aca jea spb acb jeb spc acc jec l=x3:=by unfold wth3;rw[<-e1,<-e2,<-e3];cases x1<;>cases x2<;>simp at g g2⊢
   rw[w]at hR;refine⟨fun g3=> ?_,fun g3=> ?_⟩
   . cases x3<;>simp at g3;exact hR
   . cases x3<;>simp at g3;exact hR
end
end Go.Proofs.YthkoabbiiadbjaaGreat
namespace U
open Go
def RunS.M0(x:RunS):Int->Int:=mtr x.a.st x.a.og x.a.sg x.a.pit x.a.bl x.s0 x.sg 0 x.pk x.f x.d0
def RunS.M1(x:RunS):Int->Int:=mtr x.b.st x.b.og x.b.sg x.b.pit x.b.bl x.s1 x.sg 1 x.pk x.f x.d1
def RunS.M2(x:RunS):Int->Int:=mtr x.c.st x.c.og x.c.sg x.c.pit x.c.bl x.s2 x.sg 2 x.pk x.f x.d2
end U
namespace Go.Proofs.YthkoabbiiadbjaaGreat
open Go Go.HL U
def SPieceR(hA:List HV)(pA:List (List HC)):SR:=match hA,pA with
 |[.agg [.sl false [4,4,4,4,4,4,4,4,4,4] pk, .int .i64 ln, .int .i64 sa, .int .i64 d0, .int .i64 d1, .int .i64 d2], .ce (.int .i64 u)],[]=> .det (okTrk pk ln) ⟨.tup [.ce (I6 (tfind pk (clamp ln u))), .ce (I6 (clamp ln u))],false,[],[]⟩
 |_,_=> .fail
def anPieceR:LAnn:=⟨[1,2,4,5,14,15,16],[1,2,4,5],[1000002],false⟩
def LPieceR(v:LV):LR:=match v with
 |([.ce (.int .i64 u), .ce (.ptr 1000002 0), .ce (.int .i64 z), .ce (.int .i64 y), .ce (.sl false [4,4,4,4,4,4,4,4,4,4] l), .ce (.int .i64 n), .ce (.int .i64 i)],[[.sl false [4,4,4,4,4,4,4,4,4,4] pk, .int .i64 ln, .int .i64 sa, .int .i64 d0, .int .i64 d1, .int .i64 d2]])=> .alts (n=(l.length:Int)/\i=0/\l=pk/\okTrk pk ln/\0<=u/\u<=ln) [(tfind pk u= -1, .exit 0,([.ce (I6 u), .ce (.ptr 1000002 0), .ce (I6 z), .ce (I6 y)],[[.sl false [4,4,4,4,4,4,4,4,4,4] pk,I6 ln,I6 sa,I6 d0,I6 d1,I6 d2]])),(0<=tfind pk u, .ret,([.ce (I6 u), .ce (.ptr 1000002 0), .ce (I6 (tfind pk u)), .ce (I6 u)],[[.sl false [4,4,4,4,4,4,4,4,4,4] pk,I6 ln,I6 sa,I6 d0,I6 d1,I6 d2]]))]
 |_=> .fail
noncomputable def CPieceR:Ctx:=⟨Tryz.prog,gam [],Tryz.f82.ntmps,[(3,anPieceR,LPieceR)],[]⟩
theorem vbPieceR(u z y n i ln sa d0 d1 d2:Int)(l pk:LL)(K:HEx->LV->Prop):(nbodyT true CPieceR anPieceR (nthLoop Tryz.f82 0) (([.ce (I6 u), .ce (.ptr 1000002 0), .ce (I6 z), .ce (I6 y), .ce (.sl false [4,4,4,4,4,4,4,4,4,4] l), .ce (I6 n), .ce (I6 i)],[[.sl false [4,4,4,4,4,4,4,4,4,4] pk,I6 ln,I6 sa,I6 d0,I6 d1,I6 d2]])) K)=(Br (i<n) ((0<=i/\i<(l.length:Int))/\R6 (el l i.toNat+ec l i.toNat 1)/\∀x1,x1=el l i.toNat+ec l i.toNat 1->Br (u<=x1) (K .ret ([.ce (I6 u), .ce (.ptr 1000002 0), .ce (I6 i), .ce (I6 u)],[[.sl false [4,4,4,4,4,4,4,4,4,4] pk,I6 ln,I6 sa,I6 d0,I6 d1,I6 d2]])) (R6 (i+1)/\∀x2,x2=i+1->K .normal ([.ce (I6 u), .ce (.ptr 1000002 0), .ce (I6 z), .ce (I6 y), .ce (.sl false [4,4,4,4,4,4,4,4,4,4] l), .ce (I6 n), .ce (I6 x2)],[[.sl false [4,4,4,4,4,4,4,4,4,4] pk,I6 ln,I6 sa,I6 d0,I6 d1,I6 d2]]))) (K (.exit 0) ([.ce (I6 u), .ce (.ptr 1000002 0), .ce (I6 z), .ce (I6 y)],[[.sl false [4,4,4,4,4,4,4,4,4,4] pk,I6 ln,I6 sa,I6 d0,I6 d1,I6 d2]]))):=by kernel_rfl
theorem vcPieceR(u ln sa d0 d1 d2:Int)(pk:LL)(Q:Res->Prop):(nfun true CPieceR Tryz.f82 (bodyOf Tryz.f82) [.agg [.sl false [4,4,4,4,4,4,4,4,4,4] pk,I6 ln,I6 sa,I6 d0,I6 d1,I6 d2], .ce (I6 u)] [] Q)=(∀x1,x1=max u 0->∀x2,x2=min x1 ln->((pk.length:Int)=(pk.length:Int)/\(0:Int)=0/\pk=pk/\okTrk pk ln/\0<=x2/\x2<=ln)/\(tfind pk x2=(-1:Int)->Q ⟨.tup [.ce (I6 (-1)), .ce (I6 x2)],false,[],[]⟩)/\(0<=tfind pk x2->Q ⟨.tup [.ce (I6 (tfind pk x2)), .ce (I6 x2)],false,[],[]⟩)):=by kernel_rfl
section
attribute [local irreducible] hfun bodyT fragT
theorem loopPieceR:∀v Q,(LPieceR v).wp Q->hloop CPieceR anPieceR (nthLoop Tryz.f82 0) v Q:=by
 intro v Q h;unfold LPieceR at h;split at h;case h_2=>exact h.elim
 rename_i u z y l n i pk ln sa d0 d1 d2;obtain⟨⟨h1,h2,h3,h4,h5,h6⟩,q0,q1⟩:=h;subst h1 h2 h3;refine hloop_rec (σ:=Nat) (fun k=>([.ce (I6 u), .ce (.ptr 1000002 0), .ce (I6 z), .ce (I6 y), .ce (.sl false [4,4,4,4,4,4,4,4,4,4] l), .ce (I6 (l.length:Int)), .ce (I6 (k:Int))],[[.sl false [4,4,4,4,4,4,4,4,4,4] l,I6 ln,I6 sa,I6 d0,I6 d1,I6 d2]])) (fun k=>l.length-k) (fun k=>k<=l.length/\∀j,j<k->endp l j<u) ?_ 0 ⟨Nat.zero_le _,fun j hj=>by omega⟩;rintro k⟨hk,hk2⟩K hn hx hr;refine byVB (vbPieceR u z y l.length k ln sa d0 d1 d2 l l K) ⟨fun g=> ?_,fun g=> ?_⟩
 . have g:=odt g;have hkl:k<l.length:=by omega
   have ht:Int.toNat (k:Int)=k:=rfl;rw[ht];have ab:=at_bd h4 hkl;have lnb:=h4.2.1;have hll:=h4.1;have ee:endp l k=el l k+ec l k 1:=rfl;refine⟨by omega,by omega,fun x1 e1=>⟨fun g1=> ?_,fun g1=>⟨by omega,fun x2 e2=> ?_⟩⟩⟩
   . have g1:=odt g1;have hf:tfind l u=k:=tfind_of hkl (by omega) hk2;have q:=q1 (by omega);rw[hf]at q;exact hr _ q
   . have g1:=odf g1;rw[show x2=((k+1:Nat):Int)by omega];refine hn (k+1) ⟨hkl,fun j hj=> ?_⟩ (by omega);by_cases hjk:j<k
     . exact hk2 j hjk
     . have:j=k:=by omega
       subst this;omega
 . have g:=odf g;refine hx _ _ (q0 ?_);rcases tfind_spec h4 h6 with⟨_,e⟩|⟨j,j1,j2,j3,_⟩
   . omega
   . have:=hk2 j (by omega);omega
theorem sPieceR:Sound Tryz.prog 82 SPieceR:=by
 refine sound_of (C:=CPieceR) [] Tryz.func82 (by kernel_rfl) (by decide+kernel) (by kernel_rfl) rfl trivial (loops1 (by kernel_rfl) (loopOK_of (an:=anPieceR) (S:=LPieceR) (by kernel_rfl) loopPieceR)) ?_;intro hA pA R h;unfold SPieceR at h;split at h;case h_2=>exfalso;exact h
 rename_i pk ln sa d0 d1 d2 u;obtain⟨ht,hq⟩:=h;have hl:=ht.2.1;refine byVC (vcPieceR u ln sa d0 d1 d2 pk R) (fun x1 e1 x2 e2=> ?_);have e:clamp ln u=x2:=by unfold clamp;omega
 rw[e]at hq;refine⟨⟨rfl,rfl,rfl,ht,by omega,by omega⟩,fun g=> ?_,fun _=>hq⟩;rw[g]at hq;exact hq
end
theorem okSegs_D{s0 s1 s2:Int}{sg:LL}(h:okSegs s0 s1 s2 sg){j:Nat}(hj:j<sg.length):(-(ec sg j 3)<=ec sg j 0-bgn s0 sg 0 j/\ec sg j 0-bgn s0 sg 0 j<=ec sg j 3)/\(-(ec sg j 3)<=ec sg j 1-bgn s1 sg 1 j/\ec sg j 1-bgn s1 sg 1 j<=ec sg j 3)/\(-(ec sg j 3)<=ec sg j 2-bgn s2 sg 2 j/\ec sg j 2-bgn s2 sg 2 j<=ec sg j 3):=(h j hj).2.2
def tabP3:List (FuncId×HL.Spec):=[(137,SCorrect),(136,SSteps)]
noncomputable def CMotor2:Ctx:=⟨Tryz.prog,gam tabP3,12,[],[]⟩
noncomputable def CCorrect2:Ctx:=⟨Tryz.prog,gam tabP1,75,[],[]⟩
noncomputable def CSteps2:Ctx:=⟨Tryz.prog,gam tabP1,14,[],[]⟩
theorem vcCorrect2(st sp ac je lo hi bl og sg p:Int)(pit:LL)(Q:Res->Prop):(nfun true CCorrect2 Tryz.f137 (bodyOf Tryz.f137) [.agg (axI st sp ac je lo hi bl og sg pit), .ce (I6 p)] [] Q)=(Bb ((pit.length:Int)==0) (Q ⟨.ce (I6 0),false,[],[]⟩) (Br (p<=og) (((0:Int)<=0/\(0:Int)<(pit.length:Int))/\∀x1,x1=el pit (0:Nat)->Q ⟨.ce (I6 x1),false,[],[]⟩) (R6 (p-og)/\∀x2,x2=p-og->sg≠0/\R6 (Int.tdiv x2 sg)/\∀x3,x3=Int.tdiv x2 sg->R6 ((pit.length:Int)-1)/\∀x4,x4=(pit.length:Int)-1->Br (x3>=x4) (R6 ((pit.length:Int)-1)/\∀x5,x5=(pit.length:Int)-1->(0<=x5/\x5<(pit.length:Int))/\∀x6,x6=el pit x5.toNat->Q ⟨.ce (I6 x6),false,[],[]⟩) (R6 (p-og)/\∀x7,x7=p-og->R6 (x3*sg)/\∀x8,x8=x3*sg->R6 (x7-x8)/\∀x9,x9=x7-x8->(0<=x3/\x3<(pit.length:Int))/\∀x10,x10=el pit x3.toNat->R6 (x3+1)/\∀x11,x11=x3+1->(0<=x11/\x11<(pit.length:Int))/\∀x12,x12=el pit x11.toNat->(0<=x3/\x3<(pit.length:Int))/\∀x13,x13=el pit x3.toNat->R6 (x12-x13)/\∀x14,x14=x12-x13->(-9223372036854775808<=2*x14/\2*x14<=9223372036854775807)/\∀x15,x15=2*x14->R6 (x15*x9)/\∀x16,x16=x15*x9->R6 (x16+sg)/\∀x17,x17=x16+sg->R6 (2*sg)/\∀x18,x18=2*sg->((-9223372036854775807<=x17/\x17<=9223372036854775807)/\0<x18)/\∀x19,x19=x17/x18->R6 (x10+x19)/\∀x20,x20=x10+x19->Q ⟨.ce (I6 x20),false,[],[]⟩)))):=by kernel_rfl
theorem vcSteps2(st sp ac je lo hi bl og sg p:Int)(pit:LL)(Q:Res->Prop):(nfun true CSteps2 Tryz.f136 (bodyOf Tryz.f136) [.agg (axI st sp ac je lo hi bl og sg pit), .ce (I6 p)] [] Q)=(R6 (2*p)/\∀x1,x1=2*p->R6 (x1+st)/\∀x2,x2=x1+st->R6 (2*st)/\∀x3,x3=2*st->((-9223372036854775807<=x2/\x2<=9223372036854775807)/\0<x3)/\∀x4,x4=x2/x3->Q ⟨.ce (I6 x4),false,[],[]⟩):=by kernel_rfl
theorem vcMotor2(st sp ac je lo hi bl og sg p:Int)(pit:LL)(Q:Res->Prop):(nfun true CMotor2 Tryz.f110 (bodyOf Tryz.f110) [.agg (axI st sp ac je lo hi bl og sg pit), .ce (I6 p)] [] Q)=((okC og sg pit/\ -1073741824<=p/\p<=1073741824)/\∀x1,x1=corr og sg pit p->R6 (p+x1)/\∀x2,x2=p+x1->((0<st/\st<=16777216)/\ -1099511627776<=x2/\x2<=1099511627776)/\∀x3,x3=stp st x2->Q ⟨.ce (I6 x3),false,[],[]⟩):=by kernel_rfl
theorem sCorrect2:Sound Tryz.prog 137 SCorrect:=by
 refine sound_of (C:=CCorrect2) tabP1 Tryz.func137 (by kernel_rfl) (by decide+kernel) (by kernel_rfl) rfl ⟨sMulDiv,sFloor,trivial⟩ (loops0 (by kernel_rfl)) ?_;intro hA pA R h;unfold SCorrect at h;split at h;case h_2=>exfalso;exact h
 rename_i st x1 x2 x3 x4 x5 x6 og sg pit p;obtain⟨⟨hc,hp1,hp2⟩,hq⟩:=h;obtain⟨h1,h2,h3,h4,h5⟩:=hc;refine byVC (vcCorrect2 st x1 x2 x3 x4 x5 x6 og sg p pit R) ⟨fun k=> ?_,fun k=> ?_⟩
 . have k:(pit.length:Int)=0:=by simpa using k
   rw[corr_empty p (by omega)]at hq;exact hq
 have k:¬(pit.length:Int)=0:=by simpa using k
 have hs:=h1 (by omega);refine⟨fun k2=> ?_,fun k2=> ?_⟩
 . have k2:=odt k2;refine⟨by omega,fun y3 e3=> ?_⟩;rw[corr_lo (by omega) hs (by omega)]at hq;rw[e3];exact hq
 have k2:=odf k2;refine⟨by omega,fun y2 e2=> ?_⟩;have ed:=ediv_bd (a:=y2) hs;have ed1:=ed.1 (by omega);have et:y2.tdiv sg=y2/sg:=Int.tdiv_eq_ediv_of_nonneg (by omega);rw[e2]at et ed1;rw[<-e2]at et;refine⟨by omega,by rw[et];omega,fun y5 e5=>⟨by omega,fun y1 e1=>⟨fun k4=> ?_,fun k4=> ?_⟩⟩⟩
 . have k4:=odt k4;refine⟨by omega,fun y1' e1'=>⟨by omega,fun y6 e6=> ?_⟩⟩;rw[corr_hi (by omega) hs (by omega) (by rw[<-e2];omega)]at hq;rw[e6,show y1'.toNat=pit.length-1 by omega];exact hq
 have k4:=odf k4;have hd:y5=(p-og)/sg:=by rw[<-e2];omega
 have hmod:=Int.mul_ediv_add_emod (p-og) sg;have r0:=Int.emod_nonneg (p-og) (show sg≠0 by omega);have r1:=Int.emod_lt_of_pos (p-og) hs;rw[corr_mid (by omega) hs (by omega) (by omega)]at hq;have bd:=corr_bd ⟨h1,h2,h3,h4,h5⟩ p;rw[corr_mid (by omega) hs (by omega) (by omega)]at bd;rw[<-hd]at hq bd hmod;generalize(p-og)%sg=r at*;have em:y5*sg=p-og-r:=by rw[Int.mul_comm];omega
 have a:=h5 y5.toNat (by omega);have b:=h5 (y5.toNat+1) (by omega);refine⟨by omega,fun y7 e7=>⟨by omega,fun y8 e8=>⟨by omega,fun y9 e9=> ?_⟩⟩⟩;have er:y9=r:=by omega
 refine⟨by omega,fun y10 e10=>⟨by omega,fun y11 e11=>⟨by omega,fun y12 e12=>⟨by omega,fun y13 e13=> ?_⟩⟩⟩⟩;rw[show y11.toNat=y5.toNat+1 by omega]at e12;rw[<-e10]at a hq bd e13;rw[<-e12]at b hq bd;refine⟨by omega,fun y14 e14=>⟨by omega,fun y15 e15=> ?_⟩⟩;rw[<-er]at hq bd r0 r1;rw[show y12-y10=y14 by omega]at hq bd;have pb:=mul_bd2 (a:=y14) (b:=y9) (A:=8192) (B:=16777216) (by omega) (by omega);have e2':y15*y9=2*(y14*y9):=by rw[e15,Int.mul_assoc]
 refine⟨by omega,fun y16 e16=>⟨by omega,fun y17 e17=>⟨by omega,fun y18 e18=>⟨by omega,fun y19 e19=> ?_⟩⟩⟩⟩;rw[<-e2',<-e16,<-e17,<-e18,<-e19]at hq bd;refine⟨by omega,fun y20 e20=> ?_⟩;rw[e20];exact hq
theorem sSteps2:Sound Tryz.prog 136 SSteps:=by
 refine sound_of (C:=CSteps2) tabP1 Tryz.func136 (by kernel_rfl) (by decide+kernel) (by kernel_rfl) rfl ⟨sMulDiv,sFloor,trivial⟩ (loops0 (by kernel_rfl)) ?_;intro hA pA R h;unfold SSteps at h;split at h;case h_2=>exfalso;exact h
 rename_i st x1 x2 x3 x4 x5 x6 og sg pit p;obtain⟨⟨h1,h2⟩,hq⟩:=h;refine byVC (vcSteps2 st x1 x2 x3 x4 x5 x6 og sg p pit R) ⟨by omega,fun y1 e1=>⟨by omega,fun y2 e2=>⟨by omega,fun y3 e3=>⟨by omega,fun y4 e4=> ?_⟩⟩⟩⟩;rw[e4,e3,e2,e1];exact hq
theorem sMotor2:Sound Tryz.prog 110 SMotor:=by
 refine sound_of (C:=CMotor2) tabP3 Tryz.func110 (by kernel_rfl) (by decide+kernel) (by kernel_rfl) rfl ⟨sCorrect2,sSteps2,trivial⟩ (loops0 (by kernel_rfl)) ?_;intro hA pA R h;unfold SMotor at h;split at h;case h_2=>exfalso;exact h
 rename_i st x1 x2 x3 x4 x5 x6 og sg pit p;obtain⟨⟨h1,h2,h3⟩,hq⟩:=h;have bd:=corr_bd h2 p;refine byVC (vcMotor2 st x1 x2 x3 x4 x5 x6 og sg p pit R) ⟨⟨h2,h3⟩,fun y1 e1=> ?_⟩;rw[<-e1]at bd;refine⟨by omega,fun y2 e2=>⟨⟨h1,by omega⟩,fun y3 e3=> ?_⟩⟩;rw[e3,e2,e1,stp_eq];exact hq
end Go.Proofs.YthkoabbiiadbjaaGreat
