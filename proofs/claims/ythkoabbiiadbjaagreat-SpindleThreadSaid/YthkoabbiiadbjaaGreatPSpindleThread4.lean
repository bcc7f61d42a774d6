/-
  Part 4.
  Conditions: none.
-/
import Derived.Test.YthkoabbiiadbjaaGreatPSpindleThread3
set_option maxRecDepth 100000
set_option maxHeartbeats 400000
set_option linter.unusedVariables false
set_option linter.unusedSimpArgs false
open Go
namespace U
open Go
def endp(pk:LL)(j:Nat):Int:=ec pk j 0+ec pk j 1
def okTrk(pk:LL)(ln:Int):Prop:=pk.length<=4194304/\(0<=ln/\ln<=18014398509481984)/\(pk.length=0->ln=0)/\(0<pk.length->ec pk 0 0=0/\endp pk (pk.length-1)=ln)/\(∀j,j+1<pk.length->ec pk (j+1) 0=endp pk j)/\∀j,j<pk.length->1<=ec pk j 1/\(0<=ec pk j 2/\ec pk j 2<=18014398509481984)/\(-1<=ec pk j 3/\ec pk j 3<=1)
def tpcA:LL->Int->Int->Int
 |[],_,_=> -1
 |r::l,i,u=>if u<=r.getD 0 0+r.getD 1 0 then i else tpcA l (i+1) u
def tfind(pk:LL)(u:Int):Int:=tpcA pk 0 u
def tplace(pk:LL)(sa u:Int):Int:=if tfind pk u<0 then sa else ec pk (tfind pk u).toNat 2+ec pk (tfind pk u).toNat 3*(u-ec pk (tfind pk u).toNat 0)
def bsh(bl d:Int):Int:=if d= -1 then-bl else 0
def sel3(k a b c:Int):Int:=if k=0 then a else if k=1 then b else c
def tsh(bl mv w d at_ u:Int):Int:=if mv≠0∨w=d then bsh bl d else if d= -1 then-(min (u-at_) bl)else min (u-at_) bl-bl
def tmot(st og sg:Int)(pt:LL)(bl pos:Int)(pk:LL)(d u:Int)(c:Nat):Int:=mot st og sg pt pos+(if tfind pk u<0 then bsh bl d else tsh bl (ec pk (tfind pk u).toNat 3) (ec pk (tfind pk u).toNat (4+c)) (ec pk (tfind pk u).toNat (7+c)) (ec pk (tfind pk u).toNat 0) u)
def okMA(st og sg:Int)(pit:LL)(bl:Int):Prop:=(0<st/\st<=16777216)/\okC og sg pit/\(0<=bl/\bl<=4096)
end U
namespace Go.Proofs.YthkoabbiiadbjaaGreat
open Go Go.HL U
def SClamp(hA:List HV)(pA:List (List HC)):SR:=match hA,pA with
 |[.ce (.int .i64 v), .ce (.int .i64 n)],[]=> .det (0<=n) ⟨.ce (I6 (clamp n v)),false,[],[]⟩
 |_,_=> .fail
noncomputable def CClamp:Ctx:=⟨Tryz.prog,gam [],Tryz.f101.ntmps,[],[]⟩
theorem vcClamp(v n:Int)(Q:Res->Prop):(nfun true CClamp Tryz.f101 (bodyOf Tryz.f101) [.ce (I6 v), .ce (I6 n)] [] Q)=(∀x1,x1=min v n->∀x2,x2=max (0:Int) x1->Q ⟨.ce (I6 x2),false,[],[]⟩):=by kernel_rfl
def SAt(hA:List HV)(pA:List (List HC)):SR:=match hA,pA with
 |[.agg [.int .i64 s0, .int .i64 s1, .int .i64 s2, .sl false [4,4,4,4,4,4,4] sg, .sl false [4,4,4] mk], .ce (.int .i64 p)],[]=> .det (okLen sg/\okPts s0 s1 s2 sg/\p<=4611686018427387904) ⟨.agg [I6 (ptAt s0 sg 0 p),I6 (ptAt s1 sg 1 p),I6 (ptAt s2 sg 2 p)],false,[],[]⟩
 |_,_=> .fail
def tabAt:List (FuncId×HL.Spec):=[(118,SPFind),(36,SMulDiv)]
noncomputable def CAt:Ctx:=⟨Tryz.prog,gam tabAt,Tryz.f102.ntmps,[(4000009,unrT [1000002,1000004,1000007,1000008],fun _=> .fail)],[]⟩
theorem vcAt(s0 s1 s2 p:Int)(sg mk:LL)(Q:Res->Prop):(nfun true CAt Tryz.f102 (bodyOf Tryz.f102) [.agg [I6 s0,I6 s1,I6 s2, .sl false [4,4,4,4,4,4,4] sg, .sl false [4,4,4] mk], .ce (I6 p)] [] Q)=((okLen sg/\p<=4611686018427387904)/\(∃(x:Int×Int),x=pfind sg p)/\∀(x:Int×Int),x=pfind sg p->Br (x.1<0) (Q ⟨.agg [I6 s0,I6 s1,I6 s2],false,[],[]⟩) (Br (x.1>0) (R6 (x.1-1)/\∀x2,x2=x.1-1->(0<=x2/\x2<(sg.length:Int))/\(0<=x.1/\x.1<(sg.length:Int))/\R6 (el sg x.1.toNat-el sg x2.toNat)/\∀x3,x3=el sg x.1.toNat-el sg x2.toNat->(R6 x3/\R6 x.2/\(0<ec sg x.1.toNat 3/\ec sg x.1.toNat 3<=9223372036854775807)/\(-4611686018427387904<=x3*x.2/\x3*x.2<=4611686018427387904)/\(0:Int)<=2/\(2:Int)<=2)/\∀x4,x4=mdv (x3*x.2) (ec sg x.1.toNat 3) (2:Int)->∀(x5:Bool),x5=true->R6 (el sg x2.toNat+x4)/\∀x6,x6=el sg x2.toNat+x4->R6 (ec sg x.1.toNat 1-ec sg x2.toNat 1)/\∀x7,x7=ec sg x.1.toNat 1-ec sg x2.toNat 1->(R6 x7/\R6 x.2/\(0<ec sg x.1.toNat 3/\ec sg x.1.toNat 3<=9223372036854775807)/\(-4611686018427387904<=x7*x.2/\x7*x.2<=4611686018427387904)/\(0:Int)<=2/\(2:Int)<=2)/\∀x8,x8=mdv (x7*x.2) (ec sg x.1.toNat 3) (2:Int)->∀(x9:Bool),x9=true->R6 (ec sg x2.toNat 1+x8)/\∀x10,x10=ec sg x2.toNat 1+x8->R6 (ec sg x.1.toNat 2-ec sg x2.toNat 2)/\∀x11,x11=ec sg x.1.toNat 2-ec sg x2.toNat 2->(R6 x11/\R6 x.2/\(0<ec sg x.1.toNat 3/\ec sg x.1.toNat 3<=9223372036854775807)/\(-4611686018427387904<=x11*x.2/\x11*x.2<=4611686018427387904)/\(0:Int)<=2/\(2:Int)<=2)/\∀x12,x12=mdv (x11*x.2) (ec sg x.1.toNat 3) (2:Int)->∀(x13:Bool),x13=true->R6 (ec sg x2.toNat 2+x12)/\∀x14,x14=ec sg x2.toNat 2+x12->Q ⟨.agg [I6 x6,I6 x10,I6 x14],false,[],[]⟩) ((0<=x.1/\x.1<(sg.length:Int))/\R6 (el sg x.1.toNat-s0)/\∀x15,x15=el sg x.1.toNat-s0->(R6 x15/\R6 x.2/\(0<ec sg x.1.toNat 3/\ec sg x.1.toNat 3<=9223372036854775807)/\(-4611686018427387904<=x15*x.2/\x15*x.2<=4611686018427387904)/\(0:Int)<=2/\(2:Int)<=2)/\∀x16,x16=mdv (x15*x.2) (ec sg x.1.toNat 3) (2:Int)->∀(x17:Bool),x17=true->R6 (s0+x16)/\∀x18,x18=s0+x16->R6 (ec sg x.1.toNat 1-s1)/\∀x19,x19=ec sg x.1.toNat 1-s1->(R6 x19/\R6 x.2/\(0<ec sg x.1.toNat 3/\ec sg x.1.toNat 3<=9223372036854775807)/\(-4611686018427387904<=x19*x.2/\x19*x.2<=4611686018427387904)/\(0:Int)<=2/\(2:Int)<=2)/\∀x20,x20=mdv (x19*x.2) (ec sg x.1.toNat 3) (2:Int)->∀(x21:Bool),x21=true->R6 (s1+x20)/\∀x22,x22=s1+x20->R6 (ec sg x.1.toNat 2-s2)/\∀x23,x23=ec sg x.1.toNat 2-s2->(R6 x23/\R6 x.2/\(0<ec sg x.1.toNat 3/\ec sg x.1.toNat 3<=9223372036854775807)/\(-4611686018427387904<=x23*x.2/\x23*x.2<=4611686018427387904)/\(0:Int)<=2/\(2:Int)<=2)/\∀x24,x24=mdv (x23*x.2) (ec sg x.1.toNat 3) (2:Int)->∀(x25:Bool),x25=true->R6 (s2+x24)/\∀x26,x26=s2+x24->Q ⟨.agg [I6 x18,I6 x22,I6 x26],false,[],[]⟩))):=by kernel_rfl
def STFind(hA:List HV)(pA:List (List HC)):SR:=match hA,pA with
 |[.agg [.sl false [4,4,4,4,4,4,4,4,4,4] pk, .int .i64 ln, .int .i64 sa, .int .i64 d0, .int .i64 d1, .int .i64 d2], .ce (.int .i64 u)],[]=> .det (okTrk pk ln/\0<=u/\u<=ln) ⟨.ce (I6 (tfind pk u)),false,[],[]⟩
 |_,_=> .fail
def anTF:LAnn:=⟨[1,2,4,5,6],[6],[1000002],false⟩
def LTF(v:LV):LR:=match v with
 |([.ce (.int .i64 u), .ce (.ptr 1000002 0), .ce (.int .i64 z), .ce (.int .i64 lo), .ce (.int .i64 hi)],[[.sl false [4,4,4,4,4,4,4,4,4,4] pk, .int .i64 ln, .int .i64 sa, .int .i64 d0, .int .i64 d1, .int .i64 d2]])=> .det (lo=0/\hi=(pk.length:Int)-1/\okTrk pk ln/\0<=u/\u<=ln) (.exit 0) ([.ce (I6 (tfind pk u))],[[.sl false [4,4,4,4,4,4,4,4,4,4] pk,I6 ln,I6 sa,I6 d0,I6 d1,I6 d2]])
 |_=> .fail
noncomputable def CTF:Ctx:=⟨Tryz.prog,gam [],Tryz.f104.ntmps,[(2,anTF,LTF)],[]⟩
theorem vbTF(u z lo hi ln sa d0 d1 d2:Int)(pk:LL)(K:HEx->LV->Prop):(nbodyT true CTF anTF (nthLoop Tryz.f104 0) (([.ce (I6 u), .ce (.ptr 1000002 0), .ce (I6 z), .ce (I6 lo), .ce (I6 hi)],[[.sl false [4,4,4,4,4,4,4,4,4,4] pk,I6 ln,I6 sa,I6 d0,I6 d1,I6 d2]])) K)=(Br (lo<hi) (R6 (lo+hi)/\∀x1,x1=lo+hi->(2:Int)≠(0:Int)/\R6 (Int.tdiv x1 2)/\∀x2,x2=Int.tdiv x1 2->(0<=x2/\x2<(pk.length:Int))/\R6 (el pk x2.toNat+ec pk x2.toNat 1)/\∀x3,x3=el pk x2.toNat+ec pk x2.toNat 1->Br (u<=x3) (K .normal ([.ce (I6 u), .ce (.ptr 1000002 0), .ce (I6 z), .ce (I6 lo), .ce (I6 x2)],[[.sl false [4,4,4,4,4,4,4,4,4,4] pk,I6 ln,I6 sa,I6 d0,I6 d1,I6 d2]])) (R6 (x2+1)/\∀x4,x4=x2+1->K .normal ([.ce (I6 u), .ce (.ptr 1000002 0), .ce (I6 z), .ce (I6 x4), .ce (I6 hi)],[[.sl false [4,4,4,4,4,4,4,4,4,4] pk,I6 ln,I6 sa,I6 d0,I6 d1,I6 d2]]))) (K (.exit 0) ([.ce (I6 hi)],[[.sl false [4,4,4,4,4,4,4,4,4,4] pk,I6 ln,I6 sa,I6 d0,I6 d1,I6 d2]]))):=by kernel_rfl
theorem vcTF(u ln sa d0 d1 d2:Int)(pk:LL)(Q:Res->Prop):(nfun true CTF Tryz.f104 (bodyOf Tryz.f104) [.agg [.sl false [4,4,4,4,4,4,4,4,4,4] pk,I6 ln,I6 sa,I6 d0,I6 d1,I6 d2], .ce (I6 u)] [] Q)=(R6 ((pk.length:Int)-1)/\∀x1,x1=(pk.length:Int)-1->((0:Int)=0/\x1=(pk.length:Int)-1/\okTrk pk ln/\0<=u/\u<=ln)/\Q ⟨.ce (I6 (tfind pk u)),false,[],[]⟩):=by kernel_rfl
def SPlace(hA:List HV)(pA:List (List HC)):SR:=match hA,pA with
 |[.agg [.sl false [4,4,4,4,4,4,4,4,4,4] pk, .int .i64 ln, .int .i64 sa, .int .i64 d0, .int .i64 d1, .int .i64 d2], .ce (.int .i64 u)],[]=> .det (okTrk pk ln) ⟨.ce (I6 (tplace pk sa (clamp ln u))),false,[],[]⟩
 |_,_=> .fail
def tabTF:List (FuncId×HL.Spec):=[(101,SClamp),(104,STFind)]
noncomputable def CPlace:Ctx:=⟨Tryz.prog,gam tabTF,Tryz.f103.ntmps,[],[]⟩
theorem vcPlace(u ln sa d0 d1 d2:Int)(pk:LL)(Q:Res->Prop):(nfun true CPlace Tryz.f103 (bodyOf Tryz.f103) [.agg [.sl false [4,4,4,4,4,4,4,4,4,4] pk,I6 ln,I6 sa,I6 d0,I6 d1,I6 d2], .ce (I6 u)] [] Q)=(0<=ln/\∀x1,x1=clamp ln u->(okTrk pk ln/\0<=x1/\x1<=ln)/\∀x2,x2=tfind pk x1->Br (x2<0) (Q ⟨.ce (I6 sa),false,[],[]⟩) ((0<=x2/\x2<(pk.length:Int))/\∀x3,x3=ec pk x2.toNat 2->(0<=x2/\x2<(pk.length:Int))/\∀x4,x4=ec pk x2.toNat 3->(0<=x2/\x2<(pk.length:Int))/\∀x5,x5=el pk x2.toNat->R6 (x1-x5)/\∀x6,x6=x1-x5->R6 (x4*x6)/\∀x7,x7=x4*x6->R6 (x3+x7)/\∀x8,x8=x3+x7->Q ⟨.ce (I6 x8),false,[],[]⟩)):=by kernel_rfl
def SBsh(hA:List HV)(pA:List (List HC)):SR:=match hA,pA with
 |[.agg [.int .i64 sta, .int .i64 spa, .int .i64 aca, .int .i64 jea, .int .i64 loa, .int .i64 hia, .int .i64 bla, .int .i64 oga, .int .i64 sga, .sl false [4] pta], .ce (.int .i64 d)],[]=> .det (0<=bla/\bla<=4096) ⟨.ce (I6 (bsh bla d)),false,[],[]⟩
 |_,_=> .fail
noncomputable def CBsh:Ctx:=⟨Tryz.prog,gam [],Tryz.f106.ntmps,[],[]⟩
theorem vcBsh(sta spa aca jea loa hia bla oga sga:Int)(pta:LL)(d:Int)(Q:Res->Prop):(nfun true CBsh Tryz.f106 (bodyOf Tryz.f106) [.agg [I6 sta,I6 spa,I6 aca,I6 jea,I6 loa,I6 hia,I6 bla,I6 oga,I6 sga, .sl false [4] pta], .ce (I6 d)] [] Q)=(Bb (d==(-1:Int)) (R6 (0-bla)/\∀x1,x1=0-bla->Q ⟨.ce (I6 x1),false,[],[]⟩) (Q ⟨.ce (I6 0),false,[],[]⟩)):=by kernel_rfl
def STsh(hA:List HV)(pA:List (List HC)):SR:=match hA,pA with
 |[.agg [.int .i64 sta, .int .i64 spa, .int .i64 aca, .int .i64 jea, .int .i64 loa, .int .i64 hia, .int .i64 bla, .int .i64 oga, .int .i64 sga, .sl false [4] pta], .agg [.int .i64 q0, .int .i64 q1, .int .i64 q2, .int .i64 q3, .int .i64 q4, .int .i64 q5, .int .i64 q6, .int .i64 q7, .int .i64 q8, .int .i64 q9], .ce (.int .i64 k), .ce (.int .i64 u)],[]=> .det ((0<=k/\k<=2)/\(0<=bla/\bla<=4096)/\(-18014398509481984<=u/\u<=18014398509481984)/\(-18014398509481984<=q0/\q0<=18014398509481984)) ⟨.ce (I6 (tsh bla q3 (sel3 k q4 q5 q6) (sel3 k q7 q8 q9) q0 u)),false,[],[]⟩
 |_,_=> .fail
def tabTsh:List (FuncId×HL.Spec):=[(106,SBsh)]
noncomputable def CTsh:Ctx:=⟨Tryz.prog,gam tabTsh,Tryz.f107.ntmps,[],[spl 1 2 6 0]⟩
theorem vcTsh(sta spa aca jea loa hia bla oga sga:Int)(pta:LL)(q0 q1 q2 q3 q4 q5 q6 q7 q8 q9 k u:Int)(Q:Res->Prop):(nfun true CTsh Tryz.f107 (bodyOf Tryz.f107) [.agg [I6 sta,I6 spa,I6 aca,I6 jea,I6 loa,I6 hia,I6 bla,I6 oga,I6 sga, .sl false [4] pta], .agg [I6 q0,I6 q1,I6 q2,I6 q3,I6 q4,I6 q5,I6 q6,I6 q7,I6 q8,I6 q9], .ce (I6 k), .ce (I6 u)] [] Q)=((k=0->Bb (q3 !=0) ((0<=bla/\bla<=4096)/\∀x1,x1=bsh bla q7->Q ⟨.ce (I6 x1),false,[],[]⟩) (Bb (q4==q7) ((0<=bla/\bla<=4096)/\∀x2,x2=bsh bla q7->Q ⟨.ce (I6 x2),false,[],[]⟩) (R6 (u-q0)/\∀x3,x3=u-q0->∀x4,x4=min x3 bla->Bb (q7==(-1:Int)) (R6 (0-x4)/\∀x5,x5=0-x4->Q ⟨.ce (I6 x5),false,[],[]⟩) (R6 (x4-bla)/\∀x6,x6=x4-bla->Q ⟨.ce (I6 x6),false,[],[]⟩))))/\(k≠0->(k=1->Bb (q3 !=0) ((0<=bla/\bla<=4096)/\∀x7,x7=bsh bla q8->Q ⟨.ce (I6 x7),false,[],[]⟩) (Bb (q5==q8) ((0<=bla/\bla<=4096)/\∀x8,x8=bsh bla q8->Q ⟨.ce (I6 x8),false,[],[]⟩) (R6 (u-q0)/\∀x9,x9=u-q0->∀x10,x10=min x9 bla->Bb (q8==(-1:Int)) (R6 (0-x10)/\∀x11,x11=0-x10->Q ⟨.ce (I6 x11),false,[],[]⟩) (R6 (x10-bla)/\∀x12,x12=x10-bla->Q ⟨.ce (I6 x12),false,[],[]⟩))))/\(k≠1->(k=2->Bb (q3 !=0) ((0<=bla/\bla<=4096)/\∀x13,x13=bsh bla q9->Q ⟨.ce (I6 x13),false,[],[]⟩) (Bb (q6==q9) ((0<=bla/\bla<=4096)/\∀x14,x14=bsh bla q9->Q ⟨.ce (I6 x14),false,[],[]⟩) (R6 (u-q0)/\∀x15,x15=u-q0->∀x16,x16=min x15 bla->Bb (q9==(-1:Int)) (R6 (0-x16)/\∀x17,x17=0-x16->Q ⟨.ce (I6 x17),false,[],[]⟩) (R6 (x16-bla)/\∀x18,x18=x16-bla->Q ⟨.ce (I6 x18),false,[],[]⟩))))/\(k≠2->False)))):=by kernel_rfl
def SMotors(hA:List HV)(pA:List (List HC)):SR:=match hA,pA with
 |[.agg [.int .i64 s0, .int .i64 s1, .int .i64 s2, .sl false [4,4,4,4,4,4,4] sg, .sl false [4,4,4] mk], .agg ax, .agg [.sl false [4,4,4,4,4,4,4,4,4,4] pk, .int .i64 ln, .int .i64 sa, .int .i64 d0, .int .i64 d1, .int .i64 d2], .ce (.int .i64 u)],[]=>match ax with
  |[.int .i64 sta, .int .i64 spa, .int .i64 aca, .int .i64 jea, .int .i64 loa, .int .i64 hia, .int .i64 bla, .int .i64 oga, .int .i64 sga, .sl false [4] pta, .int .i64 stb, .int .i64 spb, .int .i64 acb, .int .i64 jeb, .int .i64 lob, .int .i64 hib, .int .i64 blb, .int .i64 ogb, .int .i64 sgb, .sl false [4] ptb, .int .i64 stc, .int .i64 spc, .int .i64 acc, .int .i64 jec, .int .i64 loc, .int .i64 hic, .int .i64 blc, .int .i64 ogc, .int .i64 sgc, .sl false [4] ptc]=> .det (okLen sg/\okPts s0 s1 s2 sg/\okTrk pk ln/\okMA sta oga sga pta bla/\okMA stb ogb sgb ptb blb/\okMA stc ogc sgc ptc blc/\(0<=sa/\sa<=18014398509481984)) ⟨.agg [I6 (tmot sta oga sga pta bla (ptAt s0 sg 0 (tplace pk sa (clamp ln u))) pk d0 (clamp ln u) 0),I6 (tmot stb ogb sgb ptb blb (ptAt s1 sg 1 (tplace pk sa (clamp ln u))) pk d1 (clamp ln u) 1),I6 (tmot stc ogc sgc ptc blc (ptAt s2 sg 2 (tplace pk sa (clamp ln u))) pk d2 (clamp ln u) 2)],false,[],[]⟩
  |_=> .fail
 |_,_=> .fail
def tabMotors:List (FuncId×HL.Spec):=[(101,SClamp),(103,SPlace),(102,SAt),(104,STFind),(105,SMotor),(106,SBsh),(107,STsh)]
noncomputable def CMotors:Ctx:=⟨Tryz.prog,gam tabMotors,Tryz.f76.ntmps,[(4000006,unrT [1000004,1000005,1000006,1000008,1000009,1000011],fun _=> .fail)],[]⟩
theorem vcMotors(s0 s1 s2 u ln sa d0 d1 d2:Int)(sg mk pk:LL)(sta spa aca jea loa hia bla oga sga stb spb acb jeb lob hib blb ogb sgb stc spc acc jec loc hic blc ogc sgc:Int)(pta ptb ptc:LL)(Q:Res->Prop):(nfun true CMotors Tryz.f76 (bodyOf Tryz.f76) [.agg [I6 s0,I6 s1,I6 s2, .sl false [4,4,4,4,4,4,4] sg, .sl false [4,4,4] mk], .agg [I6 sta,I6 spa,I6 aca,I6 jea,I6 loa,I6 hia,I6 bla,I6 oga,I6 sga, .sl false [4] pta,I6 stb,I6 spb,I6 acb,I6 jeb,I6 lob,I6 hib,I6 blb,I6 ogb,I6 sgb, .sl false [4] ptb,I6 stc,I6 spc,I6 acc,I6 jec,I6 loc,I6 hic,I6 blc,I6 ogc,I6 sgc, .sl false [4] ptc], .agg [.sl false [4,4,4,4,4,4,4,4,4,4] pk,I6 ln,I6 sa,I6 d0,I6 d1,I6 d2], .ce (I6 u)] [] Q)=(0<=ln/\∀x1,x1=clamp ln u->okTrk pk ln/\∀x2,x2=tplace pk sa (clamp ln x1)->(okLen sg/\okPts s0 s1 s2 sg/\x2<=4611686018427387904)/\∀x3,x3=ptAt s0 sg (0:Nat) x2->∀x4,x4=ptAt s1 sg (1:Nat) x2->∀x5,x5=ptAt s2 sg (2:Nat) x2->(okTrk pk ln/\0<=x1/\x1<=ln)/\∀x6,x6=tfind pk x1->((0<sta/\sta<=16777216)/\okC oga sga pta/\ -1073741824<=x3/\x3<=1073741824)/\∀x7,x7=mot sta oga sga pta x3->Br (x6<0) ((0<=bla/\bla<=4096)/\∀x8,x8=bsh bla d0->R6 (x7+x8)/\∀x9,x9=x7+x8->((0<stb/\stb<=16777216)/\okC ogb sgb ptb/\ -1073741824<=x4/\x4<=1073741824)/\∀x10,x10=mot stb ogb sgb ptb x4->Br (x6<0) ((0<=blb/\blb<=4096)/\∀x11,x11=bsh blb d1->R6 (x10+x11)/\∀x12,x12=x10+x11->((0<stc/\stc<=16777216)/\okC ogc sgc ptc/\ -1073741824<=x5/\x5<=1073741824)/\∀x13,x13=mot stc ogc sgc ptc x5->Br (x6<0) ((0<=blc/\blc<=4096)/\∀x14,x14=bsh blc d2->R6 (x13+x14)/\∀x15,x15=x13+x14->Q ⟨.agg [I6 x9,I6 x12,I6 x15],false,[],[]⟩) ((0<=x6/\x6<(pk.length:Int))/\(((0:Int)<=2/\(2:Int)<=2)/\(0<=blc/\blc<=4096)/\(-18014398509481984<=x1/\x1<=18014398509481984)/\ -18014398509481984<=el pk x6.toNat/\el pk x6.toNat<=18014398509481984)/\∀x16,x16=tsh blc (ec pk x6.toNat 3) (sel3 (2:Int) (ec pk x6.toNat 4) (ec pk x6.toNat 5) (ec pk x6.toNat 6)) (sel3 (2:Int) (ec pk x6.toNat 7) (ec pk x6.toNat 8) (ec pk x6.toNat 9)) (el pk x6.toNat) x1->R6 (x13+x16)/\∀x17,x17=x13+x16->Q ⟨.agg [I6 x9,I6 x12,I6 x17],false,[],[]⟩)) ((0<=x6/\x6<(pk.length:Int))/\(((0:Int)<=1/\(1:Int)<=2)/\(0<=blb/\blb<=4096)/\(-18014398509481984<=x1/\x1<=18014398509481984)/\ -18014398509481984<=el pk x6.toNat/\el pk x6.toNat<=18014398509481984)/\∀x18,x18=tsh blb (ec pk x6.toNat 3) (sel3 (1:Int) (ec pk x6.toNat 4) (ec pk x6.toNat 5) (ec pk x6.toNat 6)) (sel3 (1:Int) (ec pk x6.toNat 7) (ec pk x6.toNat 8) (ec pk x6.toNat 9)) (el pk x6.toNat) x1->R6 (x10+x18)/\∀x19,x19=x10+x18->((0<stc/\stc<=16777216)/\okC ogc sgc ptc/\ -1073741824<=x5/\x5<=1073741824)/\∀x20,x20=mot stc ogc sgc ptc x5->Br (x6<0) ((0<=blc/\blc<=4096)/\∀x21,x21=bsh blc d2->R6 (x20+x21)/\∀x22,x22=x20+x21->Q ⟨.agg [I6 x9,I6 x19,I6 x22],false,[],[]⟩) ((0<=x6/\x6<(pk.length:Int))/\(((0:Int)<=2/\(2:Int)<=2)/\(0<=blc/\blc<=4096)/\(-18014398509481984<=x1/\x1<=18014398509481984)/\ -18014398509481984<=el pk x6.toNat/\el pk x6.toNat<=18014398509481984)/\∀x23,x23=tsh blc (ec pk x6.toNat 3) (sel3 (2:Int) (ec pk x6.toNat 4) (ec pk x6.toNat 5) (ec pk x6.toNat 6)) (sel3 (2:Int) (ec pk x6.toNat 7) (ec pk x6.toNat 8) (ec pk x6.toNat 9)) (el pk x6.toNat) x1->R6 (x20+x23)/\∀x24,x24=x20+x23->Q ⟨.agg [I6 x9,I6 x19,I6 x24],false,[],[]⟩))) ((0<=x6/\x6<(pk.length:Int))/\(((0:Int)<=0/\(0:Int)<=2)/\(0<=bla/\bla<=4096)/\(-18014398509481984<=x1/\x1<=18014398509481984)/\ -18014398509481984<=el pk x6.toNat/\el pk x6.toNat<=18014398509481984)/\∀x25,x25=tsh bla (ec pk x6.toNat 3) (sel3 (0:Int) (ec pk x6.toNat 4) (ec pk x6.toNat 5) (ec pk x6.toNat 6)) (sel3 (0:Int) (ec pk x6.toNat 7) (ec pk x6.toNat 8) (ec pk x6.toNat 9)) (el pk x6.toNat) x1->R6 (x7+x25)/\∀x26,x26=x7+x25->((0<stb/\stb<=16777216)/\okC ogb sgb ptb/\ -1073741824<=x4/\x4<=1073741824)/\∀x27,x27=mot stb ogb sgb ptb x4->Br (x6<0) ((0<=blb/\blb<=4096)/\∀x28,x28=bsh blb d1->R6 (x27+x28)/\∀x29,x29=x27+x28->((0<stc/\stc<=16777216)/\okC ogc sgc ptc/\ -1073741824<=x5/\x5<=1073741824)/\∀x30,x30=mot stc ogc sgc ptc x5->Br (x6<0) ((0<=blc/\blc<=4096)/\∀x31,x31=bsh blc d2->R6 (x30+x31)/\∀x32,x32=x30+x31->Q ⟨.agg [I6 x26,I6 x29,I6 x32],false,[],[]⟩) ((0<=x6/\x6<(pk.length:Int))/\(((0:Int)<=2/\(2:Int)<=2)/\(0<=blc/\blc<=4096)/\(-18014398509481984<=x1/\x1<=18014398509481984)/\ -18014398509481984<=el pk x6.toNat/\el pk x6.toNat<=18014398509481984)/\∀x33,x33=tsh blc (ec pk x6.toNat 3) (sel3 (2:Int) (ec pk x6.toNat 4) (ec pk x6.toNat 5) (ec pk x6.toNat 6)) (sel3 (2:Int) (ec pk x6.toNat 7) (ec pk x6.toNat 8) (ec pk x6.toNat 9)) (el pk x6.toNat) x1->R6 (x30+x33)/\∀x34,x34=x30+x33->Q ⟨.agg [I6 x26,I6 x29,I6 x34],false,[],[]⟩)) ((0<=x6/\x6<(pk.length:Int))/\(((0:Int)<=1/\(1:Int)<=2)/\(0<=blb/\blb<=4096)/\(-18014398509481984<=x1/\x1<=18014398509481984)/\ -18014398509481984<=el pk x6.toNat/\el pk x6.toNat<=18014398509481984)/\∀x35,x35=tsh blb (ec pk x6.toNat 3) (sel3 (1:Int) (ec pk x6.toNat 4) (ec pk x6.toNat 5) (ec pk x6.toNat 6)) (sel3 (1:Int) (ec pk x6.toNat 7) (ec pk x6.toNat 8) (ec pk x6.toNat 9)) (el pk x6.toNat) x1->R6 (x27+x35)/\∀x36,x36=x27+x35->((0<stc/\stc<=16777216)/\okC ogc sgc ptc/\ -1073741824<=x5/\x5<=1073741824)/\∀x37,x37=mot stc ogc sgc ptc x5->Br (x6<0) ((0<=blc/\blc<=4096)/\∀x38,x38=bsh blc d2->R6 (x37+x38)/\∀x39,x39=x37+x38->Q ⟨.agg [I6 x26,I6 x36,I6 x39],false,[],[]⟩) ((0<=x6/\x6<(pk.length:Int))/\(((0:Int)<=2/\(2:Int)<=2)/\(0<=blc/\blc<=4096)/\(-18014398509481984<=x1/\x1<=18014398509481984)/\ -18014398509481984<=el pk x6.toNat/\el pk x6.toNat<=18014398509481984)/\∀x40,x40=tsh blc (ec pk x6.toNat 3) (sel3 (2:Int) (ec pk x6.toNat 4) (ec pk x6.toNat 5) (ec pk x6.toNat 6)) (sel3 (2:Int) (ec pk x6.toNat 7) (ec pk x6.toNat 8) (ec pk x6.toNat 9)) (el pk x6.toNat) x1->R6 (x37+x40)/\∀x41,x41=x37+x40->Q ⟨.agg [I6 x26,I6 x36,I6 x41],false,[],[]⟩)))):=by kernel_rfl
end Go.Proofs.YthkoabbiiadbjaaGreat
namespace U
theorem lfA_spec:∀(l:LL)(i s:Int),0<=s->(lfA l i s).1= -1∨∃j:Nat,j<l.length/\(lfA l i s).1=i+j/\0<=(lfA l i s).2/\(lfA l i s).2<ec l j 3
 |[],i,s,_=> .inl rfl
 |r::l,i,s,hs=>by
  unfold lfA;by_cases h:s<r.getD 3 0
  . rw[if_pos h];exact .inr ⟨0,by simp,by simp,hs,h⟩
  . rw[if_neg h];rcases lfA_spec l (i+1) (s-r.getD 3 0) (by omega)with h1|⟨j,h1,h2,h3,h4⟩
    . exact .inl h1
    . exact .inr ⟨j+1,by simp;exact h1,by rw[h2];omega,h3,h4⟩
theorem pfind_spec{sg:LL}(h:okLen sg)(p:Int):(sg.length=0/\pfind sg p=(-1,0))∨∃j:Nat,j<sg.length/\(pfind sg p).1=j/\0<=(pfind sg p).2/\(pfind sg p).2<=ec sg j 3:=by
 unfold pfind;by_cases h0:sg.length=0
 . rw[if_pos h0];exact .inl ⟨h0,rfl⟩
 . rw[if_neg h0];right;by_cases h1:0<=(lfA sg 0 (max p 0)).1
   . rw[if_pos h1];rcases lfA_spec sg 0 (max p 0) (by omega)with h2|⟨j,h2,h3,h4,h5⟩
     . omega
     . exact⟨j,h2,by omega,h4,by omega⟩
   . rw[if_neg h1];have:=h.2 (sg.length-1) (by omega);exact⟨sg.length-1,by omega,by dsimp only;omega,by dsimp only;omega,Int.le_refl _⟩
theorem rnd_hull{a d L:Int}(hd:0<=d/\d<=L)(hL:0<L):(0<=a->0<=rnd (a*d) L/\rnd (a*d) L<=a)/\(a<=0->a<=rnd (a*d) L/\rnd (a*d) L<=0):=by
 unfold rnd;refine⟨fun ha=> ?_,fun ha=> ?_⟩
 . have h1:=Int.mul_nonneg ha hd.1;have h2:a*d<=a*L:=Int.mul_le_mul_of_nonneg_left hd.2 ha;refine⟨Int.ediv_nonneg (by omega) (by omega),Int.lt_add_one_iff.1 (Int.ediv_lt_of_lt_mul (by omega) ?_)⟩;have:(a+1)*(2*L)=2*(a*L)+2*L:=by grind
   omega
 . have h1:a*d<=0:=Int.mul_nonpos_of_nonpos_of_nonneg ha hd.1;have h2:a*L<=a*d:=Int.mul_le_mul_of_nonpos_left ha hd.2;refine⟨Int.le_ediv_of_mul_le (by omega) ?_,Int.lt_add_one_iff.1 (Int.ediv_lt_of_lt_mul (by omega) (by omega))⟩;have:a*(2*L)=2*(a*L):=by grind
   omega
theorem mul_bd3{a d:Int}(ha: -1073741824<=a/\a<=1073741824)(hd:0<=d/\d<=4294967296): -4611686018427387904<=a*d/\a*d<=4611686018427387904:=by
 have:=mul_bd2 (a:=a) (b:=d) (A:=1073741824) (B:=4294967296) ha hd;omega
theorem coord_bd{s:Int}{sg:LL}{c:Nat}{j:Nat}{d:Int}(hl:okLen sg)(h0: -536870912<=s/\s<=536870912)(h:∀j,j<sg.length-> -536870912<=ec sg j c/\ec sg j c<=536870912)(hj:j<sg.length)(hd:0<=d/\d<=ec sg j 3):(-1073741824<=ec sg j c-bgn s sg c j/\ec sg j c-bgn s sg c j<=1073741824)/\(-4611686018427387904<=(ec sg j c-bgn s sg c j)*d/\(ec sg j c-bgn s sg c j)*d<=4611686018427387904)/\(-536870912<=bgn s sg c j+rnd ((ec sg j c-bgn s sg c j)*d) (ec sg j 3)/\bgn s sg c j+rnd ((ec sg j c-bgn s sg c j)*d) (ec sg j 3)<=536870912):=by
 have b:=bgn_bd (i:=(j:Int)) h0 h (by omega);have e:=h j hj;have len:=hl.2 j hj;have m:=mul_bd3 (a:=ec sg j c-bgn s sg c j) (d:=d) (by omega) (by omega);have hu:=rnd_hull (a:=ec sg j c-bgn s sg c j) hd (by omega);refine⟨by omega,m,?_⟩;by_cases hs:0<=ec sg j c-bgn s sg c j
 . have:=hu.1 hs;omega
 . have:=hu.2 (by omega);omega
theorem ptAt_bd{s:Int}{sg:LL}{c:Nat}(hl:okLen sg)(h0: -536870912<=s/\s<=536870912)(h:∀j,j<sg.length-> -536870912<=ec sg j c/\ec sg j c<=536870912)(p:Int): -536870912<=ptAt s sg c p/\ptAt s sg c p<=536870912:=by
 unfold ptAt;rcases pfind_spec hl p with⟨h1,h2⟩|⟨j,h1,h2,h3,h4⟩
 . rw[h2];exact h0
 . rw[if_neg (by omega),h2];exact(coord_bd hl h0 h h1 ⟨h3,h4⟩).2.2
theorem clamp_bd{n v:Int}(h:0<=n):0<=clamp n v/\clamp n v<=n:=by unfold clamp;omega
theorem clamp_idem{n v:Int}(h:0<=n):clamp n (clamp n v)=clamp n v:=by unfold clamp;omega
theorem tpcA_of(u:Int):∀(l:LL)(i:Int)(j:Nat),j<l.length->u<=endp l j->(∀k,k<j->endp l k<u)->tpcA l i u=i+j
 |[],i,j,h,_,_=>absurd h (Nat.not_lt_zero _)
 |r::l,i,0,_,h,_=>by
  unfold tpcA;have h:u<=r.getD 0 0+r.getD 1 0:=h;rw[if_pos h];simp
 |r::l,i,j+1,hj,h,hk=>by
  unfold tpcA;have h0:=hk 0 (by omega);have h0:r.getD 0 0+r.getD 1 0<u:=h0;rw[if_neg (by omega),tpcA_of u l (i+1) j (by simpa using hj) h (fun k hk'=>hk (k+1) (by omega))];omega
theorem tpcA_spec(u:Int):∀(l:LL)(i:Int),(tpcA l i u= -1/\∀j,j<l.length->endp l j<u)∨∃j:Nat,j<l.length/\tpcA l i u=i+j/\u<=endp l j/\∀k,k<j->endp l k<u
 |[],i=> .inl ⟨rfl,fun j hj=>absurd hj (Nat.not_lt_zero _)⟩
 |r::l,i=>by
  unfold tpcA;by_cases h:u<=r.getD 0 0+r.getD 1 0
  . rw[if_pos h];exact .inr ⟨0,by simp,by simp,h,fun k hk=>absurd hk (Nat.not_lt_zero _)⟩
  . rw[if_neg h];have h0:endp (r::l) 0<u:=by show r.getD 0 0+r.getD 1 0<u;omega
    rcases tpcA_spec u l (i+1)with⟨h1,h2⟩|⟨j,h1,h2,h3,h4⟩
    . refine .inl ⟨h1,fun j hj=> ?_⟩;cases j with
      |zero=>exact h0
      |succ j=>exact h2 j (by simpa using hj)
    . refine .inr ⟨j+1,by simp;exact h1,by rw[h2];omega,h3,fun k hk=> ?_⟩;cases k with
      |zero=>exact h0
      |succ k=>exact h4 k (by omega)
theorem tfind_of{pk:LL}{u:Int}{j:Nat}(h:j<pk.length)(h1:u<=endp pk j)(h2:∀k,k<j->endp pk k<u):tfind pk u=j:=by
 unfold tfind;rw[tpcA_of u pk 0 j h h1 h2];omega
theorem endp_step{pk:LL}{ln:Int}(h:okTrk pk ln){j:Nat}(hj:j+1<pk.length):endp pk j<endp pk (j+1):=by
 obtain⟨_,_,_,_,h5,h6⟩:=h;have a:=h5 j hj;have b:=(h6 (j+1) hj).1;unfold endp at*;omega
theorem endp_mono{pk:LL}{ln:Int}(h:okTrk pk ln){i:Nat}:∀k:Nat,i+k<pk.length->endp pk i<=endp pk (i+k)
 |0,_=>Int.le_refl _
 |k+1,hk=>by
  have h1:=endp_mono h (i:=i) k (by omega);have h2:=endp_step h (j:=i+k) (by omega);have:i+(k+1)=i+k+1:=rfl;rw[this];omega
theorem endp_le{pk:LL}{ln:Int}(h:okTrk pk ln){i j:Nat}(hij:i<=j)(hj:j<pk.length):endp pk i<=endp pk j:=by
 have:=endp_mono h (i:=i) (j-i) (by omega);rw[show i+(j-i)=j by omega]at this;exact this
theorem at_bd{pk:LL}{ln:Int}(h:okTrk pk ln){j:Nat}(hj:j<pk.length):0<=ec pk j 0/\ec pk j 0<endp pk j/\endp pk j<=ln:=by
 have hu:=(h.2.2.2.2.2 j hj).1;have h4:=h.2.2.2.1 (by omega);have hl:=endp_le h (i:=j) (j:=pk.length-1) (by omega) (by omega);have e:endp pk j=ec pk j 0+ec pk j 1:=rfl;refine⟨?_,by omega,by omega⟩;cases j with
 |zero=>omega
 |succ i=>
  have h5:=h.2.2.2.2.1 i hj;have h0:=endp_le h (i:=0) (j:=i) (by omega) (by omega);have hu0:=(h.2.2.2.2.2 0 (by omega)).1;have e0:endp pk 0=ec pk 0 0+ec pk 0 1:=rfl;omega
theorem tfind_spec{pk:LL}{ln u:Int}(h:okTrk pk ln)(hu:u<=ln):(pk.length=0/\tfind pk u= -1)∨∃j:Nat,j<pk.length/\tfind pk u=j/\u<=endp pk j/\∀k,k<j->endp pk k<u:=by
 unfold tfind;rcases tpcA_spec u pk 0 with⟨h1,h2⟩|⟨j,h1,h2,h3,h4⟩
 . left;refine⟨?_,h1⟩;by_cases h0:pk.length=0
   . exact h0
   . have a:=h2 (pk.length-1) (by omega);have b:=h.2.2.2.1 (by omega);omega
 . exact .inr ⟨j,h1,by omega,h3,h4⟩
theorem mul3{m x B:Int}(hm: -1<=m/\m<=1)(hx: -B<=x/\x<=B): -B<=m*x/\m*x<=B:=by
 have:m= -1∨m=0∨m=1:=by omega
 rcases this with rfl|rfl|rfl<;>omega
theorem tplace_bd{pk:LL}{ln sa u:Int}(h:okTrk pk ln)(hsa:0<=sa/\sa<=18014398509481984)(hu:0<=u/\u<=ln): -36028797018963968<=tplace pk sa u/\tplace pk sa u<=36028797018963968:=by
 unfold tplace;rcases tfind_spec h hu.2 with⟨h1,h2⟩|⟨j,h1,h2,h3,h4⟩
 . rw[h2,if_pos (by decide)];omega
 . rw[if_neg (by omega),h2];have hj:((j:Int)).toNat=j:=rfl;rw[hj];have a:=at_bd h h1;have b:=h.2.2.2.2.2 j h1;have hl:=h.2.1;have c:=mul3 (x:=u-ec pk j 0) (B:=18014398509481984) b.2.2 (by omega);omega
end U
namespace Go.Proofs.YthkoabbiiadbjaaGreat
open Go Go.HL U
attribute [local irreducible] hfun bodyT fragT
theorem sClamp:Sound Tryz.prog 101 SClamp:=by
 refine sound_of (C:=CClamp) [] Tryz.func101 (by kernel_rfl) (by decide+kernel) (by kernel_rfl) rfl trivial (loops0 (by kernel_rfl)) ?_;intro hA pA R h;unfold SClamp at h;split at h;case h_2=>exfalso;exact h
 rename_i v n;refine byVC (vcClamp v n R) ?_;rintro _ rfl x2 e2;have:=h.1;have e:clamp n v=x2:=by unfold clamp;omega
 rw[<-e];exact h.2
theorem loopTF:∀v Q,(LTF v).wp Q->hloop CTF anTF (nthLoop Tryz.f104 0) v Q:=by
 intro v Q h;unfold LTF at h;split at h;case h_2=>exact h.elim
 rename_i u z lo hi pk ln sa d0 d1 d2;obtain⟨⟨hlo,hhi,ht,hu0,hu1⟩,hq⟩:=h;subst hlo hhi;refine hloop_rec (σ:=Int×Int) (fun s=>([.ce (I6 u), .ce (.ptr 1000002 0), .ce (I6 z), .ce (I6 s.1), .ce (I6 s.2)],[[.sl false [4,4,4,4,4,4,4,4,4,4] pk,I6 ln,I6 sa,I6 d0,I6 d1,I6 d2]])) (fun s=>(s.2-s.1).toNat) (fun s=>(pk.length=0/\s=(0,-1))∨((0<=s.1/\s.1<=s.2/\s.2<pk.length)/\u<=endp pk s.2.toNat/\∀k:Nat,(k:Int)<s.1->endp pk k<u)) ?_ (0,(pk.length:Int)-1) ?_
 . rintro⟨lo,hi⟩hI K hn hx _;dsimp only at hI hn⊢;have hl1:=ht.1;refine byVB (vbTF u z lo hi ln sa d0 d1 d2 pk K) ⟨fun g=> ?_,fun g=> ?_⟩
   . have g:=odt g;rcases hI with⟨h1,h2⟩|⟨⟨h1,h2,h3⟩,h4,h5⟩
     . cases h2;omega
     refine⟨by omega,fun x1 e1=>⟨by decide,?_⟩⟩;have hd:x1.tdiv 2=x1/2:=Int.tdiv_eq_ediv_of_nonneg (by omega);rw[hd];refine⟨by omega,fun x2 e2=>⟨by omega,?_⟩⟩;have hb:=at_bd ht (j:=x2.toNat) (by omega);have hln:=ht.2.1;have ee:el pk x2.toNat+ec pk x2.toNat 1=endp pk x2.toNat:=rfl;rw[ee];refine⟨by omega,fun x3 e3=>⟨fun g2=> ?_,fun g2=>⟨by omega,fun x4 e4=> ?_⟩⟩⟩
     . have g2:=odt g2;exact hn (lo,x2) (.inr ⟨⟨h1,by dsimp only;omega,by dsimp only;omega⟩,by dsimp only;omega,h5⟩) (by dsimp only;omega)
     . have g2:=odf g2;refine hn (x4,hi) (.inr ⟨⟨by dsimp only;omega,by dsimp only;omega,h3⟩,h4,fun k hk=> ?_⟩) (by dsimp only;omega);have:=endp_le ht (i:=k) (j:=x2.toNat) (by dsimp only at hk;omega) (by omega);omega
   . have g:=odf g;have e:tfind pk u=hi:=by
      rcases hI with⟨h1,h2⟩|⟨⟨h1,h2,h3⟩,h4,h5⟩
      . cases h2;have:pk=[]:=List.eq_nil_of_length_eq_zero h1;subst this;rfl
      . have:=tfind_of (pk:=pk) (u:=u) (j:=hi.toNat) (by omega) h4 (fun k hk=>h5 k (by omega));omega
     rw[e]at hq;exact hx 0 _ hq
 . by_cases h0:pk.length=0
   . exact .inl ⟨h0,by rw[h0];rfl⟩
   . have h4:=ht.2.2.2.1 (by omega);refine .inr ⟨⟨Int.le_refl _,by dsimp only;omega,by dsimp only;omega⟩,?_,fun k hk=>by dsimp only at hk;omega⟩;dsimp only;rw[show((pk.length:Int)-1).toNat=pk.length-1 by omega];omega
theorem sTFind:Sound Tryz.prog 104 STFind:=by
 refine sound_of (C:=CTF) [] Tryz.func104 (by kernel_rfl) (by decide+kernel) (by kernel_rfl) rfl trivial (loops1 (by kernel_rfl) (loopOK_of (an:=anTF) (S:=LTF) (by kernel_rfl) loopTF)) ?_;intro hA pA R h;unfold STFind at h;split at h;case h_2=>exfalso;exact h
 rename_i pk ln sa d0 d1 d2 u;obtain⟨⟨h1,h2,h3⟩,hq⟩:=h;have:=h1.1;exact byVC (vcTF u ln sa d0 d1 d2 pk R) ⟨by omega,fun x1 e1=>⟨⟨rfl,e1,h1,h2,h3⟩,hq⟩⟩
theorem sPlace:Sound Tryz.prog 103 SPlace:=by
 refine sound_of (C:=CPlace) tabTF Tryz.func103 (by kernel_rfl) (by decide+kernel) (by kernel_rfl) rfl ⟨sClamp,sTFind,trivial⟩ (loops0 (by kernel_rfl)) ?_;intro hA pA R h;unfold SPlace at h;split at h;case h_2=>exfalso;exact h
 rename_i pk ln sa d0 d1 d2 u;obtain⟨ht,hq⟩:=h;have hl:=ht.2.1;have hc:=clamp_bd (v:=u) hl.1;unfold tplace at hq;refine byVC (vcPlace u ln sa d0 d1 d2 pk R) ⟨hl.1,fun x1 e1=> ?_⟩;rw[<-e1]at hq hc;refine⟨⟨ht,hc⟩,fun x2 e2=> ?_⟩;rw[<-e2]at hq;refine⟨fun g=> ?_,fun g=> ?_⟩
 . rw[if_pos (odt g)]at hq;exact hq
 . have g:=odf g;rw[if_neg g]at hq;rcases tfind_spec ht hc.2 with⟨h1,h2⟩|⟨j,h1,h2,h3,h4⟩
   . omega
   have hj:x2.toNat=j:=by omega
   have a:=at_bd ht h1;have b:=ht.2.2.2.2.2 j h1;rw[hj]at hq⊢;refine⟨by omega,fun x3 e3=>⟨by omega,fun x4 e4=>⟨by omega,fun x5 e5=> ?_⟩⟩⟩;have e5:x5=ec pk j 0:=e5;have c:=mul3 (m:=x4) (x:=x1-x5) (B:=18014398509481984) (by omega) (by omega);refine⟨by omega,fun x6 e6=> ?_⟩;rw[<-e6]at c;refine⟨by omega,fun x7 e7=>⟨by omega,fun x8 e8=> ?_⟩⟩;rw[e8,e7,e6,e5,e4,e3];exact hq
theorem sBsh:Sound Tryz.prog 106 SBsh:=by
 refine sound_of (C:=CBsh) [] Tryz.func106 (by kernel_rfl) (by decide+kernel) (by kernel_rfl) rfl trivial (loops0 (by kernel_rfl)) ?_;intro hA pA R h;unfold SBsh at h;split at h;case h_2=>exfalso;exact h
 rename_i sta spa aca jea loa hia bla oga sga pta d;obtain⟨h1,hq⟩:=h;unfold bsh at hq;refine byVC (vcBsh sta spa aca jea loa hia bla oga sga pta d R) ⟨fun g=>⟨by omega,fun x1 e1=> ?_⟩,fun g=> ?_⟩
 . rw[if_pos (by simpa using g)]at hq;rw[show x1= -bla by omega];exact hq
 . rw[if_neg (by simpa using g)]at hq;exact hq
theorem mdv2(n c:Int):mdv n c 2=rnd n c:=by unfold mdv rnd;simp
theorem sAt:Sound Tryz.prog 102 SAt:=by
 refine sound_of (C:=CAt) tabAt Tryz.func102 (by kernel_rfl) (by decide+kernel) (by kernel_rfl) rfl ⟨sPFind,sMulDiv,trivial⟩ (loopsAll (by kernel_rfl)) ?_;intro hA pA R h;unfold SAt at h;split at h;case h_2=>exfalso;exact h
 rename_i s0 s1 s2 sg mk p;obtain⟨⟨hl,⟨k0,k1,k2,kk⟩,hp⟩,hq⟩:=h;unfold ptAt at hq;refine byVC (vcAt s0 s1 s2 p sg mk R) ⟨⟨hl,hp⟩,⟨_,rfl⟩,fun x ex=> ?_⟩;have sp:=pfind_spec hl p;rw[<-ex]at sp hq;rcases sp with⟨h1,h2⟩|⟨j,h1,h2,h3,h4⟩
 . rw[h2]at hq⊢;exact⟨fun _=>hq,fun g=>absurd g (by decide)⟩
 rw[if_neg (by omega),if_neg (by omega),if_neg (by omega),h2]at hq;have hj:((j:Int)).toNat=j:=rfl;rw[hj]at hq;have hlen:=hl.2 j h1;have hl1:=hl.1;have c0:=coord_bd hl k0 (fun j hj=>(kk j hj).1) h1 ⟨h3,h4⟩;have c1:=coord_bd hl k1 (fun j hj=>(kk j hj).2.1) h1 ⟨h3,h4⟩;have c2:=coord_bd hl k2 (fun j hj=>(kk j hj).2.2) h1 ⟨h3,h4⟩;have hx1:x.1.toNat=j:=by omega
 rw[hx1];refine⟨fun g=> ?_,fun g=>⟨fun g2=> ?_,fun g2=> ?_⟩⟩
 . have g:=odt g;omega
 . have g2:=odt g2;refine⟨by omega,fun x2 e2=>⟨by omega,by omega,?_⟩⟩;have hx2:x2.toNat=j-1:=by omega
   rw[hx2];have b:∀s c,bgn s sg c (j:Int)=ec sg (j-1) c:=fun s c=>by
    unfold bgn;rw[if_neg (by omega),show((j:Int)-1).toNat=j-1 by omega]
   rw[b,b,b]at hq;rw[b]at c0 c1 c2;have c0:(-1073741824<=el sg j-el sg (j-1)/\el sg j-el sg (j-1)<=1073741824)/\(-4611686018427387904<=(el sg j-el sg (j-1))*x.2/\(el sg j-el sg (j-1))*x.2<=4611686018427387904)/\(-536870912<=el sg (j-1)+rnd ((el sg j-el sg (j-1))*x.2) (ec sg j 3)/\el sg (j-1)+rnd ((el sg j-el sg (j-1))*x.2) (ec sg j 3)<=536870912):=c0;refine⟨by omega,?_⟩;rintro _ rfl;refine⟨⟨by omega,by omega,by omega,c0.2.1,by decide,by decide⟩,?_⟩;rw[mdv2];rintro _ rfl _ _;refine⟨by omega,?_⟩;rintro _ rfl;refine⟨by omega,?_⟩;rintro _ rfl;refine⟨⟨by omega,by omega,by omega,c1.2.1,by decide,by decide⟩,?_⟩;rw[mdv2];rintro _ rfl _ _;refine⟨by omega,?_⟩;rintro _ rfl;refine⟨by omega,?_⟩;rintro _ rfl;refine⟨⟨by omega,by omega,by omega,c2.2.1,by decide,by decide⟩,?_⟩;rw[mdv2];rintro _ rfl _ _;refine⟨by omega,?_⟩;rintro _ rfl;exact hq
 . have g2:=odf g2;refine⟨by omega,?_⟩;have b:∀s c,bgn s sg c (j:Int)=s:=fun s c=>by
    unfold bgn;rw[if_pos (by omega)]
   rw[b,b,b]at hq;rw[b]at c0 c1 c2;have c0:(-1073741824<=el sg j-s0/\el sg j-s0<=1073741824)/\(-4611686018427387904<=(el sg j-s0)*x.2/\(el sg j-s0)*x.2<=4611686018427387904)/\(-536870912<=s0+rnd ((el sg j-s0)*x.2) (ec sg j 3)/\s0+rnd ((el sg j-s0)*x.2) (ec sg j 3)<=536870912):=c0;refine⟨by omega,?_⟩;rintro _ rfl;refine⟨⟨by omega,by omega,by omega,c0.2.1,by decide,by decide⟩,?_⟩;rw[mdv2];rintro _ rfl _ _;refine⟨by omega,?_⟩;rintro _ rfl;refine⟨by omega,?_⟩;rintro _ rfl;refine⟨⟨by omega,by omega,by omega,c1.2.1,by decide,by decide⟩,?_⟩;rw[mdv2];rintro _ rfl _ _;refine⟨by omega,?_⟩;rintro _ rfl;refine⟨by omega,?_⟩;rintro _ rfl;refine⟨⟨by omega,by omega,by omega,c2.2.1,by decide,by decide⟩,?_⟩;rw[mdv2];rintro _ rfl _ _;refine⟨by omega,?_⟩;rintro _ rfl;exact hq
theorem tsh_fin{bl mv w d at_ u:Int}{R:Res->Prop}(hb:0<=bl/\bl<=4096)(hu: -18014398509481984<=u/\u<=18014398509481984)(ha: -18014398509481984<=at_/\at_<=18014398509481984)(hq:R ⟨.ce (I6 (tsh bl mv w d at_ u)),false,[],[]⟩):((mv !=0)=true->(0<=bl/\bl<=4096)/\∀x1:Int,x1=bsh bl d->R ⟨.ce (I6 x1),false,[],[]⟩)/\((mv !=0)=false->((w==d)=true->(0<=bl/\bl<=4096)/\∀x2:Int,x2=bsh bl d->R ⟨.ce (I6 x2),false,[],[]⟩)/\((w==d)=false->(-9223372036854775808<=u-at_/\u-at_<=9223372036854775807)/\∀x3:Int,x3=u-at_->∀x4:Int,x4=min x3 bl->((d== -1)=true->(-9223372036854775808<=0-x4/\0-x4<=9223372036854775807)/\∀x5:Int,x5=0-x4->R ⟨.ce (I6 x5),false,[],[]⟩)/\((d== -1)=false->(-9223372036854775808<=x4-bl/\x4-bl<=9223372036854775807)/\∀x6:Int,x6=x4-bl->R ⟨.ce (I6 x6),false,[],[]⟩))):=by
 unfold tsh at hq;refine⟨fun g=>⟨hb,fun x e=> ?_⟩,fun g=>⟨fun g2=>⟨hb,fun x e=> ?_⟩,fun g2=>⟨by omega,fun x3 e3 x4 e4=>⟨fun g3=>⟨by omega,fun x e=> ?_⟩,fun g3=>⟨by omega,fun x e=> ?_⟩⟩⟩⟩⟩
 . have g:mv≠0:=by simpa using g
   rw[if_pos (.inl g)]at hq;rw[e];exact hq
 . have g2:w=d:=by simpa using g2
   rw[if_pos (.inr g2)]at hq;rw[e];exact hq
 . have g:mv=0:=by simpa using g
   have g2:w≠d:=by simpa using g2
   have g3:d= -1:=by simpa using g3
   rw[if_neg (by intro hh;rcases hh with h|h;exact h g;exact g2 h),if_pos g3]at hq;rw[show x= -(min (u-at_) bl)by omega];exact hq
 . have g:mv=0:=by simpa using g
   have g2:w≠d:=by simpa using g2
   have g3:d≠ -1:=by simpa using g3
   rw[if_neg (by intro hh;rcases hh with h|h;exact h g;exact g2 h),if_neg g3]at hq;rw[show x=min (u-at_) bl-bl by omega];exact hq
theorem sTsh:Sound Tryz.prog 107 STsh:=by
 refine sound_of (C:=CTsh) tabTsh Tryz.func107 (by kernel_rfl) (by decide+kernel) (by kernel_rfl) rfl ⟨sBsh,trivial⟩ (loops0 (by kernel_rfl)) ?_;intro hA pA R h;unfold STsh at h;split at h;case h_2=>exfalso;exact h
 rename_i sta spa aca jea loa hia bla oga sga pta q0 q1 q2 q3 q4 q5 q6 q7 q8 q9 k u;obtain⟨⟨hk,hb,hu,ha⟩,hq⟩:=h;refine byVC (vcTsh sta spa aca jea loa hia bla oga sga pta q0 q1 q2 q3 q4 q5 q6 q7 q8 q9 k u R) ⟨fun e=> ?_,fun e=>⟨fun e2=> ?_,fun e2=>⟨fun e3=> ?_,fun e3=>by omega⟩⟩⟩
 . subst e;exact tsh_fin hb hu ha hq
 . subst e2;exact tsh_fin hb hu ha hq
 . subst e3;exact tsh_fin hb hu ha hq
theorem bsh_bd{bl d:Int}(h:0<=bl/\bl<=4096): -4096<=bsh bl d/\bsh bl d<=0:=by unfold bsh;split<;>omega
theorem tsh_bd{bl mv w d at_ u:Int}(h:0<=bl/\bl<=4096)(hu:at_<=u): -4096<=tsh bl mv w d at_ u/\tsh bl mv w d at_ u<=0:=by
 have:=bsh_bd (d:=d) h;unfold tsh;split
 . exact this
 . split<;>omega
theorem motr_bd{st og sg p:Int}{pit:LL}(h:0<st)(hc:okC og sg pit)(hp: -1073741824<=p/\p<=1073741824): -2199023255552<=mot st og sg pit p/\mot st og sg pit p<=2199023255554:=by
 have hb:=corr_bd hc p;rw[<-stp_eq];exact stp_bd h (by omega)
theorem sMotors:Sound Tryz.prog 76 SMotors:=by
 refine sound_of (C:=CMotors) tabMotors Tryz.func76 (by kernel_rfl) (by decide+kernel) (by kernel_rfl) rfl ⟨sClamp,sPlace,sAt,sTFind,sMotor,sBsh,sTsh,trivial⟩ (loopsAll (by kernel_rfl)) ?_;intro hA pA R h;unfold SMotors at h;split at h;case h_2=>exfalso;exact h
 rename_i s0 s1 s2 sg mk ax pk ln sa d0 d1 d2 u;split at h;case h_2=>exact h.elim
 rename_i sta spa aca jea loa hia bla oga sga pta stb spb acb jeb lob hib blb ogb sgb ptb stc spc acc jec loc hic blc ogc sgc ptc;obtain⟨⟨hl,⟨k0,k1,k2,kk⟩,ht,ma,mb,mc,hsa⟩,hq⟩:=h;have hln:=ht.2.1;have hc:=clamp_bd (v:=u) hln.1;unfold tmot at hq;refine byVC (vcMotors s0 s1 s2 u ln sa d0 d1 d2 sg mk pk sta spa aca jea loa hia bla oga sga stb spb acb jeb lob hib blb ogb sgb stc spc acc jec loc hic blc ogc sgc pta ptb ptc R) ⟨hln.1,fun x1 e1=>⟨ht,fun x2 e2=> ?_⟩⟩;have hci:=clamp_idem (v:=u) hln.1;rw[<-e1]at hq hc hci;rw[hci]at e2;have hx2:=tplace_bd ht hsa hc;rw[<-e2]at hq hx2;refine⟨⟨hl,⟨k0,k1,k2,kk⟩,by omega⟩,fun x3 e3 x4 e4 x5 e5=> ?_⟩;have p0:=ptAt_bd hl k0 (fun j hj=>(kk j hj).1) x2;have p1:=ptAt_bd hl k1 (fun j hj=>(kk j hj).2.1) x2;have p2:=ptAt_bd hl k2 (fun j hj=>(kk j hj).2.2) x2;rw[<-e3]at hq p0;rw[<-e4]at hq p1;rw[<-e5]at hq p2;refine⟨⟨ht,hc⟩,fun x6 e6=> ?_⟩;rw[<-e6]at hq;have q0:=motr_bd ma.1.1 ma.2.1 (p:=x3) (by omega);have q1:=motr_bd mb.1.1 mb.2.1 (p:=x4) (by omega);have q2:=motr_bd mc.1.1 mc.2.1 (p:=x5) (by omega);refine⟨⟨ma.1,ma.2.1,by omega⟩,fun x7 e7=> ?_⟩;rw[<-e7]at hq q0;rcases tfind_spec ht hc.2 with⟨h1,h2⟩|⟨j,h1,h2,h3,h4⟩
 . have hx6:x6<0:=by omega
   rw[if_pos hx6,if_pos hx6,if_pos hx6]at hq;have w0:=bsh_bd (d:=d0) ma.2.2;have w1:=bsh_bd (d:=d1) mb.2.2;have w2:=bsh_bd (d:=d2) mc.2.2;have no:∀{P:Prop},decide (x6<0)=false->P:=fun g=>absurd hx6 (odf g);refine⟨fun _=>⟨ma.2.2,fun x8 e8=>⟨by omega,fun x9 e9=>⟨⟨mb.1,mb.2.1,by omega⟩,fun x10 e10=>⟨fun _=>⟨mb.2.2,fun x11 e11=>⟨by omega,fun x12 e12=>⟨⟨mc.1,mc.2.1,by omega⟩,fun x13 e13=>⟨fun _=>⟨mc.2.2,fun x14 e14=>⟨by omega,fun x15 e15=> ?_⟩⟩,no⟩⟩⟩⟩,no⟩⟩⟩⟩,no⟩;rw[<-e8,<-e10,<-e11,<-e13,<-e14,<-e9,<-e12,<-e15]at hq;exact hq
 . have hx6:¬x6<0:=by omega
   rw[if_neg hx6,if_neg hx6,if_neg hx6]at hq;have hj:x6.toNat=j:=by omega
   rw[hj]at hq⊢;have a:=at_bd ht h1;have hat:ec pk j 0<=x1:=by
    cases j with
    |zero=>have:=(ht.2.2.2.1 (by omega)).1;omega
    |succ i=>
     have:=h4 i (by omega);have:=ht.2.2.2.2.1 i h1;omega
   have a0: -18014398509481984<=el pk j/\el pk j<=18014398509481984:=by
    have:el pk j=ec pk j 0:=rfl;omega
   have yes:∀{P:Prop},decide (x6<0)=true->P:=fun g=>absurd (odt g) hx6;have w0:=tsh_bd (mv:=ec pk j 3) (w:=ec pk j 4) (d:=ec pk j 7) ma.2.2 hat;have w1:=tsh_bd (mv:=ec pk j 3) (w:=ec pk j 5) (d:=ec pk j 8) mb.2.2 hat;have w2:=tsh_bd (mv:=ec pk j 3) (w:=ec pk j 6) (d:=ec pk j 9) mc.2.2 hat;have hin:0<=x6/\x6<(pk.length:Int):=by omega
   have hx1: -18014398509481984<=x1/\x1<=18014398509481984:=by omega
   refine⟨yes,fun _=>⟨hin,⟨by decide,ma.2.2,hx1,a0⟩,fun y0 f0=> ?_⟩⟩;have f0:y0=tsh bla (ec pk j 3) (ec pk j 4) (ec pk j 7) (ec pk j 0) x1:=f0;rw[<-f0]at w0;refine⟨by omega,fun z0 g0=>⟨⟨mb.1,mb.2.1,by omega⟩,fun x10 e10=>⟨yes,fun _=>⟨hin,⟨by decide,mb.2.2,hx1,a0⟩,fun y1 f1=> ?_⟩⟩⟩⟩;have f1:y1=tsh blb (ec pk j 3) (ec pk j 5) (ec pk j 8) (ec pk j 0) x1:=f1;rw[<-f1]at w1;refine⟨by omega,fun z1 g1=>⟨⟨mc.1,mc.2.1,by omega⟩,fun x20 e20=>⟨yes,fun _=>⟨hin,⟨by decide,mc.2.2,hx1,a0⟩,fun y2 f2=> ?_⟩⟩⟩⟩;have f2:y2=tsh blc (ec pk j 3) (ec pk j 6) (ec pk j 9) (ec pk j 0) x1:=f2;rw[<-f2]at w2;refine⟨by omega,fun z2 g2=> ?_⟩;rw[g0,g1,g2,f0,f1,f2,e10,e20];exact hq
end Go.Proofs.YthkoabbiiadbjaaGreat
namespace U
open Go
def mtr(st og sg:Int)(pt:LL)(bl s:Int)(sgs:LL)(c:Nat)(pk:LL)(sa d:Int)(u:Int):Int:=tmot st og sg pt bl (ptAt s sgs c (tplace pk sa u)) pk d u c
def okT(pk:LL)(ln:Int):Prop:=(pk.length=0->ln=0)/\(0<pk.length->ec pk 0 0=0/\endp pk (pk.length-1)=ln)/\(∀j,j+1<pk.length->ec pk (j+1) 0=endp pk j)/\∀j,j<pk.length->1<=ec pk j 1/\(0<=ec pk j 2/\ec pk j 2<=18014398509481984)/\(-1<=ec pk j 3/\ec pk j 3<=1)
theorem tadd_okT{pk:LL}{ln q0 q1 q2 q3 q4 q5 q6 q7 q8 q9:Int}(h:okT pk ln)(h1:1<=q1)(h2:0<=q2/\q2<=18014398509481984)(h3: -1<=q3/\q3<=1):okT (tadd pk ln [q0,q1,q2,q3,q4,q5,q6,q7,q8,q9]).1 (tadd pk ln [q0,q1,q2,q3,q4,q5,q6,q7,q8,q9]).2:=by
 obtain⟨a1,a2,a3,a4⟩:=h;by_cases hc:0<pk.length/\q3≠0/\ec pk (pk.length-1) 3=q3/\ec pk (pk.length-1) 7=q7/\ec pk (pk.length-1) 8=q8/\ec pk (pk.length-1) 9=q9
 . rw[tadd_more hc];have hp:=hc.1;have es:∀j c,ec (pk.set (pk.length-1) (more (pk.getD (pk.length-1) []) q1)) j c=if pk.length-1=j then(more (pk.getD (pk.length-1) []) q1).getD c 0 else ec pk j c:=fun j c=>ec_set _ _ _ _ _ (by omega);have m0:(more (pk.getD (pk.length-1) []) q1).getD 0 0=ec pk (pk.length-1) 0:=rfl;have m1:(more (pk.getD (pk.length-1) []) q1).getD 1 0=ec pk (pk.length-1) 1+q1:=rfl;have m2:(more (pk.getD (pk.length-1) []) q1).getD 2 0=ec pk (pk.length-1) 2:=rfl;have m3:(more (pk.getD (pk.length-1) []) q1).getD 3 0=ec pk (pk.length-1) 3:=rfl;have b2:=a2 hp;refine⟨fun h=> ?_,fun _=>⟨?_,?_⟩,fun j hj=> ?_,fun j hj=> ?_⟩
   . dsimp only at h;rw[List.length_set]at h;omega
   . dsimp only;rw[es];split
     . rename_i e;rw[m0,e];exact b2.1
     . exact b2.1
   . dsimp only;rw[List.length_set];unfold endp at b2⊢;rw[es,es,if_pos rfl,if_pos rfl,m0,m1];omega
   . dsimp only at hj⊢;rw[List.length_set]at hj;unfold endp;rw[es,es,es,if_neg (show¬pk.length-1=j by omega),if_neg (show¬pk.length-1=j by omega)];have:=a3 j hj;unfold endp at this;split
     . rename_i e;rw[m0,e];exact this
     . exact this
   . dsimp only at hj⊢;rw[List.length_set]at hj;rw[es,es,es];have:=a4 j hj;split
     . rename_i e;subst e;rw[m1,m2,m3];omega
     . exact this
 . rw[tadd_app hc];have es:∀j c,ec (pk++[[ln,q1,q2,q3,q4,q5,q6,q7,q8,q9]]) j c=if j<pk.length then ec pk j c else ec [[ln,q1,q2,q3,q4,q5,q6,q7,q8,q9]] (j-pk.length) c:=fun j c=>ec_app _ _ _ _;refine⟨fun h=> ?_,fun _=>⟨?_,?_⟩,fun j hj=> ?_,fun j hj=> ?_⟩
   . simp at h
   . dsimp only;rw[es];split
     . rename_i e;exact(a2 e).1
     . rename_i e;have e0:pk.length=0:=by omega
       rw[e0];show ln=0;exact a1 e0
   . dsimp only;rw[List.length_append];have e0:pk.length+([[ln,q1,q2,q3,q4,q5,q6,q7,q8,q9]]:LL).length-1=pk.length:=by simp
     rw[e0];unfold endp;rw[es,es,if_neg (by omega),if_neg (by omega),Nat.sub_self];show ln+q1=ln+q1;rfl
   . dsimp only at hj⊢;rw[List.length_append]at hj;have hj:j+1<pk.length+1:=hj;unfold endp;rw[es,es,es,if_pos (show j<pk.length by omega),if_pos (show j<pk.length by omega)];split
     . rename_i e;have:=a3 j e;unfold endp at this;exact this
     . rename_i e;have hjl:j=pk.length-1:=by omega
       have b2:=(a2 (by omega)).2;unfold endp at b2;rw[show j+1-pk.length=0 by omega,hjl,b2];rfl
   . dsimp only at hj⊢;rw[List.length_append]at hj;have hj:j<pk.length+1:=hj;rw[es,es,es];split
     . rename_i e;exact a4 j e
     . rw[show j-pk.length=0 by omega];exact⟨h1,h2,h3⟩
theorem okT_seg{s0 s1 s2:Int}{sg:LL}{b0 b1 b2 f t m:Int}{x:LegS}{i:Int}(hf:0<=f/\f<=18014398509481984)(ht:0<=t/\t<=18014398509481984)(hm:m=1∨m= -1)(h:okT x.pk x.ln):okT (legSeg s0 s1 s2 sg b0 b1 b2 f t m x i).pk (legSeg s0 s1 s2 sg b0 b1 b2 f t m x i).ln:=by
 unfold legSeg;have hlow:0<=legLow x.bg (legE sg m x.bg i) f t:=by unfold legLow;omega
 have hhigh:legHigh x.bg (legE sg m x.bg i) f t<=18014398509481984:=by unfold legHigh;omega
 generalize legLow x.bg (legE sg m x.bg i) f t=low at*;generalize legHigh x.bg (legE sg m x.bg i) f t=high at*;unfold legPut;split
 . rename_i hlh;dsimp only;have hs:0<=legS m low high/\legS m low high<=18014398509481984:=by unfold legS;split<;>omega
   refine tadd_okT ?_ (by omega) hs (by omega);unfold legTk;split
   . exact tadd_okT h (by omega) hs (by omega)
   . exact h
 . exact h
theorem okT_all{s0 s1 s2:Int}{sg:LL}{b0 b1 b2 f t m:Int}{x:LegS}(hf:0<=f/\f<=18014398509481984)(ht:0<=t/\t<=18014398509481984)(hm:m=1∨m= -1)(h:okT x.pk x.ln):∀k,okT (legK s0 s1 s2 sg b0 b1 b2 f t m x k).pk (legK s0 s1 s2 sg b0 b1 b2 f t m x k).ln
 |0=>h
 |k+1=>okT_seg hf ht hm (okT_all hf ht hm h k)
theorem leg_ok{s0 s1 s2:Int}{sg:LL}{b0 b1 b2 d0 d1 d2 f t:Int}(hl:okLen sg)(hb:okB3 b0 b1 b2)(hf:0<=f/\f<=plen sg)(ht:0<=t/\t<=plen sg):okTrk (leg s0 s1 s2 sg b0 b1 b2 d0 d1 d2 f t).pk (leg s0 s1 s2 sg b0 b1 b2 d0 d1 d2 f t).ln:=by
 have hp:=plen_le hl;have hl1:=hl.1;unfold leg;have hm:legM f t=1∨legM f t= -1:=by unfold legM;split<;>omega
 have hbg:(legM f t=1->(if legM f t<0 then plen sg else 0)=plen (sg.take 0))/\(legM f t= -1->(if legM f t<0 then plen sg else 0)=plen (sg.take (sg.length-0))):=by
  refine⟨fun e=> ?_,fun e=> ?_⟩
  . rw[e];rfl
  . rw[e,if_pos (by decide)];simp
 generalize legM f t=m at*;generalize(if m<0 then plen sg else 0)=bg at*;have J:=legJ_all (s0:=s0) (s1:=s1) (s2:=s2) (f:=f) (t:=t) (x:=⟨[],0,d0,d1,d2,bg⟩) hl hb hm ⟨⟨Int.le_refl _,by dsimp only;omega⟩,by simp,fun j hj=>by simp at hj,hbg.1,hbg.2⟩ sg.length (Nat.le_refl _);have T:=okT_all (s0:=s0) (s1:=s1) (s2:=s2) (sg:=sg) (b0:=b0) (b1:=b1) (b2:=b2) (f:=f) (t:=t) (m:=m) (x:=⟨[],0,d0,d1,d2,bg⟩) (by omega) (by omega) hm ⟨fun _=>rfl,fun h=>by simp at h,fun j hj=>by simp at hj,fun j hj=>by simp at hj⟩ sg.length;exact⟨by have:=J.2.1;omega,by have:=J.1;omega,T.1,T.2.1,T.2.2.1,T.2.2.2⟩
theorem at_le{pk:LL}{ln u:Int}(h:okTrk pk ln)(hu:0<=u){j:Nat}(hj:j<pk.length)(hk:∀k,k<j->endp pk k<u):ec pk j 0<=u:=by
 cases j with
 |zero=>have:=(h.2.2.2.1 (by omega)).1;omega
 |succ i=>
  have:=hk i (by omega);have:=h.2.2.2.2.1 i hj;omega
end U
namespace Go.Proofs.YthkoabbiiadbjaaGreat
open Go Go.HL U
attribute [local irreducible] hfun bodyT fragT
theorem mtr_bd{st og sg:Int}{pt:LL}{bl s:Int}{sgs:LL}{c:Nat}{pk:LL}{ln sa d u:Int}(hl:okLen sgs)(h0: -536870912<=s/\s<=536870912)(hp:∀j,j<sgs.length-> -536870912<=ec sgs j c/\ec sgs j c<=536870912)(ht:okTrk pk ln)(hm:okMA st og sg pt bl)(hu:0<=u/\u<=ln): -4398046511104<=mtr st og sg pt bl s sgs c pk sa d u/\mtr st og sg pt bl s sgs c pk sa d u<=4398046511104:=by
 have p:=ptAt_bd hl h0 hp (tplace pk sa u);have q:=motr_bd hm.1.1 hm.2.1 (p:=ptAt s sgs c (tplace pk sa u)) (by omega);unfold mtr tmot;split
 . have:=bsh_bd (d:=d) hm.2.2;omega
 . rcases tfind_spec ht hu.2 with⟨h1,h2⟩|⟨j,h1,h2,h3,h4⟩
   . omega
   . have hj:(tfind pk u).toNat=j:=by omega
     rw[hj];have:=tsh_bd (mv:=ec pk j 3) (w:=ec pk j (4+c)) (d:=ec pk j (7+c)) hm.2.2 (at_le ht hu.1 h1 h4);omega
end Go.Proofs.YthkoabbiiadbjaaGreat
namespace U
open Go
def spr(s:Int):Int:=(2*(s*1048576)+60000)/120000
def spi(p d:Int):Int:=if d= -1 then p/1048576*1048576 else-((-p)/1048576)*1048576
end U
namespace Go.Proofs.YthkoabbiiadbjaaGreat
open Go Go.HL U
theorem vcFloor2(a b:Int)(Q:Res->Prop):(nfun true CFloor Tryz.f43 (bodyOf Tryz.f43) [.ce (I6 a), .ce (I6 b)] [] Q)=(b≠0/\R6 (Int.tdiv a b)/\∀x1,x1=Int.tdiv a b->b≠0/\∀x2,x2=Int.tmod a b->Br (x2<0) (R6 (x1-1)/\∀x3,x3=x1-1->Q ⟨.ce (I6 x3),false,[],[]⟩) (Q ⟨.ce (I6 x1),false,[],[]⟩)):=by kernel_rfl
def SSpR(hA:List HV)(pA:List (List HC)):SR:=match hA,pA with
 |[.ce (.int .i64 a)],[]=> .det (0<=a/\a<=1000000) ⟨.ce (I6 (spr a)),false,[],[]⟩
 |_,_=> .fail
def tabYs:List (FuncId×HL.Spec):=[(36,SMulDiv),(16,SFloor),(43,SFloor)]
noncomputable def CSpR:Ctx:=⟨Tryz.prog,gam tabYs,11,[],[]⟩
theorem vcSpR(a:Int)(Q:Res->Prop):(nfun true CSpR Tryz.f17 (bodyOf Tryz.f17) [.ce (I6 a)] [] Q)=((R6 a/\(-9223372036854775808<=1048576/\(1048576:Int)<=9223372036854775807)/\((0:Int)<60000/\(60000:Int)<=9223372036854775807)/\(-4611686018427387904<=a*1048576/\a*1048576<=4611686018427387904)/\(0:Int)<=2/\(2:Int)<=2)/\∀x1,x1=mdv (a*1048576) (60000:Int) (2:Int)->∀(x2:Bool),x2=true->Q ⟨.ce (I6 x1),false,[],[]⟩):=by kernel_rfl
def SIndex(hA:List HV)(pA:List (List HC)):SR:=match hA,pA with
 |[.ce (.int .i64 p), .ce (.int .i64 d)],[]=> .det (-1125899906842624<=p/\p<=1125899906842624) ⟨.ce (I6 (spi p d)),false,[],[]⟩
 |_,_=> .fail
noncomputable def CIndex:Ctx:=⟨Tryz.prog,gam tabYs,15,[],[]⟩
theorem vcIndex(p d:Int)(Q:Res->Prop):(nfun true CIndex Tryz.f18 (bodyOf Tryz.f18) [.ce (I6 p), .ce (I6 d)] [] Q)=(Bb (d==(-1:Int)) (((-9223372036854775807<=p/\p<=9223372036854775807)/\(0:Int)<1048576)/\∀x1,x1=p/1048576->R6 (x1*1048576)/\∀x2,x2=x1*1048576->Q ⟨.ce (I6 x2),false,[],[]⟩) (R6 (0-p)/\∀x3,x3=0-p->((-9223372036854775807<=x3/\x3<=9223372036854775807)/\(0:Int)<1048576)/\∀x4,x4=x3/1048576->R6 (0-x4)/\∀x5,x5=0-x4->R6 (x5*1048576)/\∀x6,x6=x5*1048576->Q ⟨.ce (I6 x6),false,[],[]⟩)):=by kernel_rfl
def SFollow(hA:List HV)(pA:List (List HC)):SR:=match hA,pA with
 |[.ce (.int .i64 l), .ce (.int .i64 w)],[]=> .det ((0<=l/\l<=1048576)/\0<=w/\w<=1099511627776) ⟨.ce (I6 (l*w/4096)),false,[],[]⟩
 |_,_=> .fail
noncomputable def CFollow:Ctx:=⟨Tryz.prog,gam tabYs,14,[],[]⟩
theorem vcFollow(l w:Int)(Q:Res->Prop):(nfun true CFollow Tryz.f13 (bodyOf Tryz.f13) [.ce (I6 l), .ce (I6 w)] [] Q)=((R6 l/\R6 w/\((0:Int)<4096/\(4096:Int)<=9223372036854775807)/\(-4611686018427387904<=l*w/\l*w<=4611686018427387904)/\(0:Int)<=0/\(0:Int)<=2)/\∀x1,x1=mdv (l*w) (4096:Int) (0:Int)->∀(x2:Bool),x2=true->Q ⟨.ce (I6 x1),false,[],[]⟩):=by kernel_rfl
def SAngle(hA:List HV)(pA:List (List HC)):SR:=match hA,pA with
 |[.ce (.int .i64 l), .ce (.int .i64 w)],[]=> .det ((0<l/\l<=9223372036854775807)/\0<=w/\w<=1099511627776) ⟨.ce (I6 (4096*w/l)),false,[],[]⟩
 |_,_=> .fail
theorem vcAngle(l w:Int)(Q:Res->Prop):(nfun true CFollow Tryz.f19 (bodyOf Tryz.f19) [.ce (I6 l), .ce (I6 w)] [] Q)=(((-9223372036854775808<=4096/\(4096:Int)<=9223372036854775807)/\R6 w/\(0<l/\l<=9223372036854775807)/\((-4611686018427387904:Int)<=4096*w/\4096*w<=4611686018427387904)/\(0:Int)<=0/\(0:Int)<=2)/\∀x1,x1=mdv (4096*w) l (0:Int)->∀(x2:Bool),x2=true->Q ⟨.ce (I6 x1),false,[],[]⟩):=by kernel_rfl
theorem sFloor2:Sound Tryz.prog 43 SFloor:=by
 refine sound_of (C:=CFloor) [] Tryz.func43 (by kernel_rfl) (by decide+kernel) (by kernel_rfl) rfl trivial (loops0 (by kernel_rfl)) ?_;intro hA pA R h;unfold SFloor at h;split at h;case h_2=>exfalso;exact h
 rename_i a b;exact byVC (vcFloor2 a b R) (floor_fin h.1.1 h.1.2 h.2)
theorem sSpR:Sound Tryz.prog 17 SSpR:=by
 refine sound_of (C:=CSpR) tabYs Tryz.func17 (by kernel_rfl) (by decide+kernel) (by kernel_rfl) rfl ⟨sMulDiv,sFloor,sFloor2,trivial⟩ (loops0 (by kernel_rfl)) ?_;intro hA pA R h;unfold SSpR at h;split at h;case h_2=>exfalso;exact h
 rename_i a;obtain⟨h1,hq⟩:=h;refine byVC (vcSpR a R) ⟨by omega,fun x1 e1 x2 _=> ?_⟩;have:x1=spr a:=by rw[e1];unfold mdv spr;simp
 rw[this];exact hq
theorem sIndex:Sound Tryz.prog 18 SIndex:=by
 refine sound_of (C:=CIndex) tabYs Tryz.func18 (by kernel_rfl) (by decide+kernel) (by kernel_rfl) rfl ⟨sMulDiv,sFloor,sFloor2,trivial⟩ (loops0 (by kernel_rfl)) ?_;intro hA pA R h;unfold SIndex at h;split at h;case h_2=>exfalso;exact h
 rename_i p d;obtain⟨h1,hq⟩:=h;unfold spi at hq;refine byVC (vcIndex p d R) ⟨fun e=> ?_,fun e=> ?_⟩
 . have:d= -1:=by simpa using e
   rw[if_pos this]at hq;refine⟨by omega,fun x1 e1=>⟨by omega,fun x2 e2=> ?_⟩⟩;rw[e2,e1];exact hq
 . have:d≠ -1:=by simpa using e
   rw[if_neg this]at hq;refine⟨by omega,fun x3 e3=>⟨by omega,fun x4 e4=>⟨by omega,fun x5 e5=>⟨by omega,fun x6 e6=> ?_⟩⟩⟩⟩;rw[show x6= -((-p)/1048576)*1048576 by omega];exact hq
theorem sFollow:Sound Tryz.prog 13 SFollow:=by
 refine sound_of (C:=CFollow) tabYs Tryz.func13 (by kernel_rfl) (by decide+kernel) (by kernel_rfl) rfl ⟨sMulDiv,sFloor,sFloor2,trivial⟩ (loops0 (by kernel_rfl)) ?_;intro hA pA R h;unfold SFollow at h;split at h;case h_2=>exfalso;exact h
 rename_i l w;obtain⟨⟨h1,h2⟩,hq⟩:=h;have hb:=mul_bd (a:=l) (b:=w) (A:=1048576) (B:=1099511627776) (by omega) (by omega) (by omega) (by omega);refine byVC (vcFollow l w R) ⟨by omega,fun x1 e1 x2 _=> ?_⟩;have:x1=l*w/4096:=by rw[e1];rfl
 rw[this];exact hq
theorem sAngle:Sound Tryz.prog 19 SAngle:=by
 refine sound_of (C:=CFollow) tabYs Tryz.func19 (by kernel_rfl) (by decide+kernel) (by kernel_rfl) rfl ⟨sMulDiv,sFloor,sFloor2,trivial⟩ (loops0 (by kernel_rfl)) ?_;intro hA pA R h;unfold SAngle at h;split at h;case h_2=>exfalso;exact h
 rename_i l w;obtain⟨⟨h1,h2⟩,hq⟩:=h;refine byVC (vcAngle l w R) ⟨by omega,fun x1 e1 x2 _=> ?_⟩;have:x1=4096*w/l:=by rw[e1];rfl
 rw[this];exact hq
end Go.Proofs.YthkoabbiiadbjaaGreat
namespace U
open Go
def ntc(k0 f0 f1 f2 t0 t1 t2 fd sp:Int):Prop:=(k0=5∨k0=8)/\b3 256 f0 f1 f2/\b3 256 t0 t1 t2/\(0<=fd/\fd<=200)/\(0<=sp/\sp<=3000)
def ntAt(y:LL)(j:Nat):Prop:=ntc (ec y j 0) (ec y j 2) (ec y j 3) (ec y j 4) (ec y j 5) (ec y j 6) (ec y j 7) (ec y j 14) (ec y j 20)
def ntL(y:LL):Prop:=∀j,j<y.length->ntAt y j
end U
namespace Go.Proofs.YthkoabbiiadbjaaGreat
open Go Go.HL U
def SMotE(hA:List HV)(pA:List (List HC)):SR:=match hA,pA with
 |[.ce (.int .i64 k)],[]=> .det True ⟨.ce (.bool (decide (1<=k/\k<=6))),false,[],[]⟩
 |_,_=> .fail
def SSynE(hA:List HV)(pA:List (List HC)):SR:=match hA,pA with
 |[.agg [.int .i64 k0, .int .i64 bk, .int .i64 f0, .int .i64 f1, .int .i64 f2, .int .i64 t0, .int .i64 t1, .int .i64 t2, .int .i64 pl, .int .i64 c0, .int .i64 c1, .int .i64 c2, .int .i64 dr, .bool fu, .int .i64 fd, .bool pr, .int .i64 sd, .int .i64 ra, .int .i64 bl, .int .i64 nn, .int .i64 sp, .bool on]],[]=> .det True ⟨.ce (.bool (decide (k0=5∨k0=6))),false,[],[]⟩
 |_,_=> .fail
def SValT(hA:List HV)(pA:List (List HC)):SR:=match hA,pA with
 |[.agg [.int .i64 k0, .int .i64 bk, .int .i64 f0, .int .i64 f1, .int .i64 f2, .int .i64 t0, .int .i64 t1, .int .i64 t2, .int .i64 pl, .int .i64 c0, .int .i64 c1, .int .i64 c2, .int .i64 dr, .bool fu, .int .i64 fd, .bool pr, .int .i64 sd, .int .i64 ra, .int .i64 bl, .int .i64 nn, .int .i64 sp, .bool on]],[]=> .all (k0≠3/\b3 256 f0 f1 f2/\b3 256 t0 t1 t2) Bool (fun _=>True) (fun x=>⟨.ce (.bool x),false,[],[]⟩)
 |_,_=> .fail
def tabValT:List (FuncId×HL.Spec):=[(45,SMotE),(138,SWithin)]
noncomputable def CValT:Ctx:=⟨Tryz.prog,gam tabValT,Tryz.f113.ntmps,[],[]⟩
theorem vcValT(k0 bk f0 f1 f2 t0 t1 t2 pl c0 c1 c2 dr fd sd ra bl nn sp:Int)(fu pr on:Bool)(Q:Res->Prop):(nfun true CValT Tryz.f113 (bodyOf Tryz.f113) [.agg [I6 k0,I6 bk,I6 f0,I6 f1,I6 f2,I6 t0,I6 t1,I6 t2,I6 pl,I6 c0,I6 c1,I6 c2,I6 dr, .bool fu,I6 fd, .bool pr,I6 sd,I6 ra,I6 bl,I6 nn,I6 sp, .bool on]] [] Q)=(True/\∀(x1:Bool),x1=decide (1<=k0/\k0<=6)->Bb (!x1) (Q ⟨.ce (.bool false),false,[],[]⟩) (b3 1048576 f0 f1 f2/\∀(x2:Bool),x2=true->Bb (!x2) (Q ⟨.ce (.bool false),false,[],[]⟩) (b3 1048576 t0 t1 t2/\∀(x3:Bool),x3=true->Bb (!x3) (Q ⟨.ce (.bool false),false,[],[]⟩) (Bb (k0 !=3) (Q ⟨.ce (.bool true),false,[],[]⟩) (Bb (pl !=17) (Bb (pl !=18) (Bb (pl !=19) (Q ⟨.ce (.bool false),false,[],[]⟩) (Bb (dr !=1) (Bb (dr !=(-1:Int)) (Q ⟨.ce (.bool false),false,[],[]⟩) (b3 1048576 c0 c1 c2/\∀(x4:Bool),x4=true->Bb (!x4) (Q ⟨.ce (.bool false),false,[],[]⟩) (False))) (b3 1048576 c0 c1 c2/\∀(x5:Bool),x5=true->Bb (!x5) (Q ⟨.ce (.bool false),false,[],[]⟩) (False)))) (Bb (dr !=1) (Bb (dr !=(-1:Int)) (Q ⟨.ce (.bool false),false,[],[]⟩) (b3 1048576 c0 c1 c2/\∀(x6:Bool),x6=true->Bb (!x6) (Q ⟨.ce (.bool false),false,[],[]⟩) (False))) (b3 1048576 c0 c1 c2/\∀(x7:Bool),x7=true->Bb (!x7) (Q ⟨.ce (.bool false),false,[],[]⟩) (False)))) (Bb (dr !=1) (Bb (dr !=(-1:Int)) (Q ⟨.ce (.bool false),false,[],[]⟩) (b3 1048576 c0 c1 c2/\∀(x8:Bool),x8=true->Bb (!x8) (Q ⟨.ce (.bool false),false,[],[]⟩) (False))) (b3 1048576 c0 c1 c2/\∀(x9:Bool),x9=true->Bb (!x9) (Q ⟨.ce (.bool false),false,[],[]⟩) (False)))))))):=by kernel_rfl
def SSpkT(hA:List HV)(pA:List (List HC)):SR:=match hA,pA with
 |[.agg [.int .i64 k0, .int .i64 bk, .int .i64 f0, .int .i64 f1, .int .i64 f2, .int .i64 t0, .int .i64 t1, .int .i64 t2, .int .i64 pl, .int .i64 c0, .int .i64 c1, .int .i64 c2, .int .i64 dr, .bool fu, .int .i64 fd, .bool pr, .int .i64 sd, .int .i64 ra, .int .i64 bl, .int .i64 nn, .int .i64 sp, .bool on]],[]=> .det (k0≠3) ⟨.tup [.ce (.sl false [4,4,4,4] []), .ce (.bool false)],false,[],[]⟩
 |_,_=> .fail
noncomputable def CSpkT:Ctx:=⟨Tryz.prog,gam [],Tryz.f114.ntmps,[],[]⟩
theorem vcSpkT(k0 bk f0 f1 f2 t0 t1 t2 pl c0 c1 c2 dr fd sd ra bl nn sp:Int)(fu pr on:Bool)(Q:Res->Prop):(nfun true CSpkT Tryz.f114 (bodyOf Tryz.f114) [.agg [I6 k0,I6 bk,I6 f0,I6 f1,I6 f2,I6 t0,I6 t1,I6 t2,I6 pl,I6 c0,I6 c1,I6 c2,I6 dr, .bool fu,I6 fd, .bool pr,I6 sd,I6 ra,I6 bl,I6 nn,I6 sp, .bool on]] [] Q)=(Bb (k0 !=3) (Q ⟨.tup [.ce (.sl false [4,4,4,4] []), .ce (.bool false)],false,[],[]⟩) (False)):=by kernel_rfl
def SChT(hA:List HV)(pA:List (List HC)):SR:=match hA,pA with
 |[.agg [.int .i64 k0, .int .i64 bk, .int .i64 f0, .int .i64 f1, .int .i64 f2, .int .i64 t0, .int .i64 t1, .int .i64 t2, .int .i64 pl, .int .i64 c0, .int .i64 c1, .int .i64 c2, .int .i64 dr, .bool fu, .int .i64 fd, .bool pr, .int .i64 sd, .int .i64 ra, .int .i64 bl, .int .i64 nn, .int .i64 sp, .bool on]],[]=> .all (k0≠3/\b3 256 f0 f1 f2/\b3 256 t0 t1 t2) (LL×Bool) (fun x=>ptsOK 32768 x.1/\x.1.length<=2) (fun x=>⟨.tup [.ce (.sl false [4,4,4] x.1), .ce (.bool x.2)],false,[],[]⟩)
 |_,_=> .fail
def tabChT:List (FuncId×HL.Spec):=[(113,SValT),(114,SSpkT),(47,SFine)]
noncomputable def CChT:Ctx:=⟨Tryz.prog,gam tabChT,Tryz.f88.ntmps,[],[]⟩
theorem vcChT(k0 bk f0 f1 f2 t0 t1 t2 pl c0 c1 c2 dr fd sd ra bl nn sp:Int)(fu pr on:Bool)(Q:Res->Prop):(nfun true CChT Tryz.f88 (bodyOf Tryz.f88) [.agg [I6 k0,I6 bk,I6 f0,I6 f1,I6 f2,I6 t0,I6 t1,I6 t2,I6 pl,I6 c0,I6 c1,I6 c2,I6 dr, .bool fu,I6 fd, .bool pr,I6 sd,I6 ra,I6 bl,I6 nn,I6 sp, .bool on]] [] Q)=((k0≠3/\b3 256 f0 f1 f2/\b3 256 t0 t1 t2)/\(∃(x:Bool),True)/\∀(x:Bool),True->Bb (!x) (Q ⟨.tup [.ce (.sl false [4,4,4] []), .ce (.bool false)],false,[],[]⟩) (k0≠3/\∀(x2:LL),x2=[]->∀(x3:Bool),x3=false->Bb (!x3) (b3 1073741824 f0 f1 f2/\∀x4,x4=f0*16->∀x5,x5=f1*16->∀x6,x6=f2*16->b3 1073741824 t0 t1 t2/\∀x7,x7=t0*16->∀x8,x8=t1*16->∀x9,x9=t2*16->Q ⟨.tup [.ce (.sl false [4,4,4] [[x4,x5,x6],[x7,x8,x9]]), .ce (.bool true)],false,[],[]⟩) (b3 1073741824 c0 c1 c2/\∀x10,x10=c0*16->∀x11,x11=c1*16->∀x12,x12=c2*16->False))):=by kernel_rfl
def SRtT(hA:List HV)(pA:List (List HC)):SR:=match hA,pA with
 |[.agg [.int .i64 k0, .int .i64 bk, .int .i64 f0, .int .i64 f1, .int .i64 f2, .int .i64 t0, .int .i64 t1, .int .i64 t2, .int .i64 pl, .int .i64 c0, .int .i64 c1, .int .i64 c2, .int .i64 dr, .bool fu, .int .i64 fd, .bool pr, .int .i64 sd, .int .i64 ra, .int .i64 bl, .int .i64 nn, .int .i64 sp, .bool on], .ce (.int .i64 s)],[]=> .all ((0<=fd/\fd<=200)/\0<=s/\s<=3000) Int (fun x=>0<=x/\x<=16777216) (fun x=>⟨.ce (I6 x),false,[],[]⟩)
 |_,_=> .fail
def SSofT(hA:List HV)(pA:List (List HC)):SR:=match hA,pA with
 |[.ce (.sl false ks l), .ce (.int .i64 i)],[]=>bif ksEq ks [4,4,4,4,4,4,4,4,4,4,4,4,4,0,4,0,4,4,4,4,4,0]then .det ((0<=i/\i<(l.length:Int))/\ntL l) ⟨.ce (I6 (-1)),false,[],[]⟩else .fail
 |_,_=> .fail
noncomputable def CSofT:Ctx:=⟨Tryz.prog,gam tabSoft,Tryz.f52.ntmps,[],[]⟩
theorem vcSofT(i:Int)(l:LL)(Q:Res->Prop):(nfun true CSofT Tryz.f52 (bodyOf Tryz.f52) [.ce (.sl false [4,4,4,4,4,4,4,4,4,4,4,4,4,0,4,0,4,4,4,4,4,0] l), .ce (I6 i)] [] Q)=((0<=i/\i<(l.length:Int))/\True/\(∃(x:Bool),x=true->el l i.toNat=2)/\∀(x:Bool),(x=true->el l i.toNat=2)->Bb (!x) (Q ⟨.ce (I6 (-1)),false,[],[]⟩) ((0<=i/\i<(l.length:Int))/\∀x2,x2=ec l i.toNat 18->Bb (x2==0) (Q ⟨.ce (I6 (-1)),false,[],[]⟩) (R6 (i+1)/\∀x3,x3=i+1->False))):=by kernel_rfl
def SKndT(hA:List HV)(pA:List (List HC)):SR:=match hA,pA with
 |[.ce (.sl false ks l), .ce (.int .i64 i)],[]=>bif ksEq ks [4,4,4,4,4,4,4,4,4,4,4,4,4,0,4,0,4,4,4,4,4,0]then .all ((0<=i/\i<(l.length:Int))/\ntL l/\ec l i.toNat 0=5) Int (fun _=>True) (fun x=>⟨.ce (I6 x),false,[],[]⟩)else .fail
 |_,_=> .fail
def tabKndT:List (FuncId×HL.Spec):=[(49,SSynE)]
noncomputable def CKndT:Ctx:=⟨Tryz.prog,gam tabKndT,Tryz.f53.ntmps,[],[]⟩
theorem vcKndT(i:Int)(l:LL)(Q:Res->Prop):(nfun true CKndT Tryz.f53 (bodyOf Tryz.f53) [.ce (.sl false [4,4,4,4,4,4,4,4,4,4,4,4,4,0,4,0,4,4,4,4,4,0] l), .ce (I6 i)] [] Q)=((0<=i/\i<(l.length:Int))/\∀x1,x1=el l i.toNat->Bb (x1==4) (Q ⟨.ce (I6 6),false,[],[]⟩) ((0<=i/\i<(l.length:Int))/\∀x2,x2=ec l i.toNat 18->Bb (x2==0) (Q ⟨.ce (I6 1),false,[],[]⟩) ((0<=i/\i<(l.length:Int))/\True/\∀(x3:Bool),x3=decide (el l i.toNat=5∨el l i.toNat=6)->Bb (x3) (Q ⟨.ce (I6 1),false,[],[]⟩) (R6 (i+1)/\∀x4,x4=i+1->False)))):=by kernel_rfl
def SPtsT(hA:List HV)(pA:List (List HC)):SR:=match hA,pA with
 |[.ce (.sl false ks l), .ce (.int .i64 i), .ce (.int .i64 f)],[]=>bif ksEq ks [4,4,4,4,4,4,4,4,4,4,4,4,4,0,4,0,4,4,4,4,4,0]then .all ((0<=i/\i<(l.length:Int))/\ntL l) (LL) (fun x=>x.length<=2/\ptsOK 32768 x) (fun x=>⟨.ce (.sl false [4,4,4] x),false,[],[]⟩)else .fail
 |_,_=> .fail
def tabPtsT:List (FuncId×HL.Spec):=[(88,SChT),(89,SSmooth)]
noncomputable def CPtsT:Ctx:=⟨Tryz.prog,gam tabPtsT,Tryz.f50.ntmps,[],[]⟩
theorem vcPtsT(i f:Int)(l:LL)(Q:Res->Prop):(nfun true CPtsT Tryz.f50 (bodyOf Tryz.f50) [.ce (.sl false [4,4,4,4,4,4,4,4,4,4,4,4,4,0,4,0,4,4,4,4,4,0] l), .ce (I6 i), .ce (I6 f)] [] Q)=((0<=i/\i<(l.length:Int))/\(el l i.toNat≠3/\b3 256 (ec l i.toNat 2) (ec l i.toNat 3) (ec l i.toNat 4)/\b3 256 (ec l i.toNat 5) (ec l i.toNat 6) (ec l i.toNat 7))/\(∃(x:LL×Bool),ptsOK (32768:Int) x.1/\List.length x.1<=2)/\∀(x:LL×Bool),ptsOK (32768:Int) x.1/\List.length x.1<=2->(0<=i/\i<(l.length:Int))/\True/\(∃(x:Bool),x=true->el l i.toNat=2)/\∀(x_1:Bool),(x_1=true->el l i.toNat=2)->Bb (!x_1) (Q ⟨.ce (.sl false [4,4,4] x.1),false,[],[]⟩) (((0:Int)<=1/\(1:Int)<=(List.length x.1:Int))/\((0:Int)<=1/\(1:Int)<=(List.length x.1:Int))/\Br (f>=0) (False) (False))):=by kernel_rfl
def SWrgT(hA:List HV)(pA:List (List HC)):SR:=match hA,pA with
 |[.agg [.int .i64 k0, .int .i64 bk, .int .i64 f0, .int .i64 f1, .int .i64 f2, .int .i64 t0, .int .i64 t1, .int .i64 t2, .int .i64 pl, .int .i64 c0, .int .i64 c1, .int .i64 c2, .int .i64 dr, .bool fu, .int .i64 fd, .bool pr, .int .i64 sd, .int .i64 ra, .int .i64 bl, .int .i64 nn, .int .i64 sp, .bool on]],[]=> .all (ntc k0 f0 f1 f2 t0 t1 t2 fd sp) Bool (fun _=>True) (fun x=>⟨.ce (.bool x),false,[],[]⟩)
 |_,_=> .fail
def tabWrgT:List (FuncId×HL.Spec):=[(45,SMotE),(113,SValT)]
noncomputable def CWrgT:Ctx:=⟨Tryz.prog,gam tabWrgT,Tryz.f86.ntmps,[],[]⟩
theorem vcWrgT(k0 bk f0 f1 f2 t0 t1 t2 pl c0 c1 c2 dr fd sd ra bl nn sp:Int)(fu pr on:Bool)(Q:Res->Prop):(nfun true CWrgT Tryz.f86 (bodyOf Tryz.f86) [.agg [I6 k0,I6 bk,I6 f0,I6 f1,I6 f2,I6 t0,I6 t1,I6 t2,I6 pl,I6 c0,I6 c1,I6 c2,I6 dr, .bool fu,I6 fd, .bool pr,I6 sd,I6 ra,I6 bl,I6 nn,I6 sp, .bool on]] [] Q)=(Br (k0<1) (Q ⟨.ce (.bool true),false,[],[]⟩) (Br (k0>14) (Q ⟨.ce (.bool true),false,[],[]⟩) (True/\∀(x1:Bool),x1=decide (1<=k0/\k0<=6)->Bb (x1) ((k0≠3/\b3 256 f0 f1 f2/\b3 256 t0 t1 t2)/\(∃(x:Bool),True)/\∀(x:Bool),True->Bb (!x) (Q ⟨.ce (.bool true),false,[],[]⟩) (Bb (k0 !=1) (Br (fd<1) (Q ⟨.ce (.bool true),false,[],[]⟩) (Br (fd>60000000) (Q ⟨.ce (.bool true),false,[],[]⟩) (Br (bl<0) (Q ⟨.ce (.bool true),false,[],[]⟩) (Q ⟨.ce (.bool (decide (bl>1000))),false,[],[]⟩)))) (Br (bl<0) (Q ⟨.ce (.bool true),false,[],[]⟩) (Q ⟨.ce (.bool (decide (bl>1000))),false,[],[]⟩)))) (Bb (k0==8) (Br (nn<3) (Q ⟨.ce (.bool true),false,[],[]⟩) (Br (nn>5) (Q ⟨.ce (.bool true),false,[],[]⟩) (Br (sp<0) (Q ⟨.ce (.bool true),false,[],[]⟩) (Q ⟨.ce (.bool (decide (sp>30000))),false,[],[]⟩)))) (Q ⟨.ce (.bool false),false,[],[]⟩))))):=by kernel_rfl
def SChkT(hA:List HV)(pA:List (List HC)):SR:=match hA,pA with
 |[.ce (.sl false ks l)],[]=>bif ksEq ks [4,4,4,4,4,4,4,4,4,4,4,4,4,0,4,0,4,4,4,4,4,0]then .all (ntL l/\l.length<=5) Int (fun _=>True) (fun x=>⟨.ce (I6 x),false,[],[]⟩)else .fail
 |_,_=> .fail
def LChkT(v:LV):LR:=match v with
 |([.ce (.sl false ks l), .ce (.int .i64 r), .ce (.int .i64 last), .ce (.sl false ks2 l2), .ce (.int .i64 n), .ce (.int .i64 i)],[])=>bif ksEq ks [4,4,4,4,4,4,4,4,4,4,4,4,4,0,4,0,4,4,4,4,4,0]&&ksEq ks2 [4,4,4,4,4,4,4,4,4,4,4,4,4,0,4,0,4,4,4,4,4,0]then .alts (l2=l/\n=(l.length:Int)/\i=0/\last= -1/\ntL l/\l.length<=5) [(True, .exit 0,([.ce (I6 r)],[])),(True, .ret,([.ce (I6 1)],[])),(True, .ret,([.ce (I6 13)],[]))]else .fail
 |_=> .fail
def tabChkT:List (FuncId×HL.Spec):=[(86,SWrgT),(45,SMotE)]
noncomputable def CChkT:Ctx:=⟨Tryz.prog,gam tabChkT,Tryz.f44.ntmps,[(5,anCheck,LChkT)],[]⟩
theorem vbChkT(r last n i:Int)(l:LL)(K:HEx->LV->Prop):(nbodyT true CChkT anCheck (nthLoop Tryz.f44 0) (([.ce (.sl false [4,4,4,4,4,4,4,4,4,4,4,4,4,0,4,0,4,4,4,4,4,0] l), .ce (I6 r), .ce (I6 last), .ce (.sl false [4,4,4,4,4,4,4,4,4,4,4,4,4,0,4,0,4,4,4,4,4,0] l), .ce (I6 n), .ce (I6 i)],[])) K)=(Br (i<n) ((0<=i/\i<(l.length:Int))/\ntc (el l i.toNat) (ec l i.toNat 2) (ec l i.toNat 3) (ec l i.toNat 4) (ec l i.toNat 5) (ec l i.toNat 6) (ec l i.toNat 7) (ec l i.toNat 14) (ec l i.toNat 20)/\(∃(x:Bool),True)/\∀(x:Bool),True->Bb (x) (K .ret ([.ce (I6 1)],[])) (True/\∀(x2:Bool),x2=decide (1<=el l i.toNat/\el l i.toNat<=6)->Bb (!x2) (R6 (i+1)/\∀x3,x3=i+1->K .normal ([.ce (.sl false [4,4,4,4,4,4,4,4,4,4,4,4,4,0,4,0,4,4,4,4,4,0] l), .ce (I6 r), .ce (I6 last), .ce (.sl false [4,4,4,4,4,4,4,4,4,4,4,4,4,0,4,0,4,4,4,4,4,0] l), .ce (I6 n), .ce (I6 x3)],[])) (Br (last>=0) ((0<=last/\last<(l.length:Int))/\Bb (!(ec l last.toNat 5==ec l i.toNat 2&&(ec l last.toNat 6==ec l i.toNat 3&&(ec l last.toNat 7==ec l i.toNat 4&&true)))) (K .ret ([.ce (I6 13)],[])) (R6 (i+1)/\∀x4,x4=i+1->K .normal ([.ce (.sl false [4,4,4,4,4,4,4,4,4,4,4,4,4,0,4,0,4,4,4,4,4,0] l), .ce (I6 r), .ce (I6 i), .ce (.sl false [4,4,4,4,4,4,4,4,4,4,4,4,4,0,4,0,4,4,4,4,4,0] l), .ce (I6 n), .ce (I6 x4)],[]))) (R6 (i+1)/\∀x5,x5=i+1->K .normal ([.ce (.sl false [4,4,4,4,4,4,4,4,4,4,4,4,4,0,4,0,4,4,4,4,4,0] l), .ce (I6 r), .ce (I6 i), .ce (.sl false [4,4,4,4,4,4,4,4,4,4,4,4,4,0,4,0,4,4,4,4,4,0] l), .ce (I6 n), .ce (I6 x5)],[]))))) (K (.exit 0) ([.ce (I6 r)],[]))):=by kernel_rfl
theorem vcChkT(l:LL)(Q:Res->Prop):(nfun true CChkT Tryz.f44 (bodyOf Tryz.f44) [.ce (.sl false [4,4,4,4,4,4,4,4,4,4,4,4,4,0,4,0,4,4,4,4,4,0] l)] [] Q)=(Br ((l.length:Int)>20000) (Q ⟨.ce (I6 10),false,[],[]⟩) ((l=l/\(l.length:Int)=(l.length:Int)/\(0:Int)=0/\(-1:Int)=(-1:Int)/\ntL l/\l.length<=5)/\(True->Q ⟨.ce (I6 0),false,[],[]⟩)/\(True->Q ⟨.ce (I6 1),false,[],[]⟩)/\(True->Q ⟨.ce (I6 13),false,[],[]⟩))):=by kernel_rfl
section
attribute [local irreducible] hfun bodyT fragT
theorem sMotE:Sound Tryz.prog 45 SMotE:=by
 refine sound_of (C:=CMotion) [] Tryz.func45 (by kernel_rfl) (by decide+kernel) (by kernel_rfl) rfl trivial (loops0 (by kernel_rfl)) ?_;intro hA pA R h;unfold SMotE at h;split at h;case h_2=>exfalso;exact h
 rename_i k;have hq:=h.2;refine byVC (vcMotion k R) ⟨fun g=> ?_,fun g=> ?_⟩
 . have g:=odt g;rw[show decide (1<=k/\k<=6)=decide (k<=6)from decide_eq_decide.2 (by omega)]at hq;exact hq
 . have g:=odf g;rw[decide_eq_false (by omega)]at hq;exact hq
theorem sSynE:Sound Tryz.prog 49 SSynE:=by
 refine sound_of (C:=CSync) [] Tryz.func49 (by kernel_rfl) (by decide+kernel) (by kernel_rfl) rfl trivial (loops0 (by kernel_rfl)) ?_;intro hA pA R h;unfold SSynE at h;split at h;case h_2=>exfalso;exact h
 rename_i k0 bk f0 f1 f2 t0 t1 t2 pl c0 c1 c2 dr fu fd pr sd ra bl nn sp on;have hq:=h.2;refine byVC (vcSync k0 bk f0 f1 f2 t0 t1 t2 pl c0 c1 c2 dr fd sd ra bl nn sp fu pr on R) ⟨fun g=> ?_,fun g=> ?_⟩
 . have:k0=5:=by simpa using g
   rw[decide_eq_true (by omega)]at hq;exact hq
 . have g:k0≠5:=by simpa using g
   have:(k0==6)=decide (k0=5∨k0=6):=by
    by_cases h6:k0=6
    . subst h6;rfl
    . rw[decide_eq_false (by omega)];simpa using h6
   rw[this];exact hq
theorem sValT:Sound Tryz.prog 113 SValT:=by
 refine sound_of (C:=CValT) tabValT Tryz.func113 (by kernel_rfl) (by decide+kernel) (by kernel_rfl) rfl ⟨sMotE,sWithin,trivial⟩ (loops0 (by kernel_rfl)) ?_;intro hA pA R h;unfold SValT at h;split at h;case h_2=>exfalso;exact h
 rename_i k0 bk f0 f1 f2 t0 t1 t2 pl c0 c1 c2 dr fu fd pr sd ra bl nn sp on;obtain⟨⟨hk,hf,ht⟩,_,hR⟩:=h;have any:∀b,R ⟨.ce (.bool b),false,[],[]⟩:=fun b=>hR b trivial;have w:∀{a b c:Int},b3 256 a b c->b3 1048576 a b c:=b3_mono (by decide);refine byVC (vcValT k0 bk f0 f1 f2 t0 t1 t2 pl c0 c1 c2 dr fd sd ra bl nn sp fu pr on R) ⟨trivial,fun x1 _=>⟨fun _=>any _,fun _=>⟨w hf,fun x2 _=>⟨fun _=>any _,fun _=>⟨w ht,fun x3 _=>⟨fun _=>any _,fun _=>⟨fun _=>any _,fun g=>absurd (by simpa using g) hk⟩⟩⟩⟩⟩⟩⟩
theorem sSpkT:Sound Tryz.prog 114 SSpkT:=by
 refine sound_of (C:=CSpkT) [] Tryz.func114 (by kernel_rfl) (by decide+kernel) (by kernel_rfl) rfl trivial (loops0 (by kernel_rfl)) ?_;intro hA pA R h;unfold SSpkT at h;split at h;case h_2=>exfalso;exact h
 rename_i k0 bk f0 f1 f2 t0 t1 t2 pl c0 c1 c2 dr fu fd pr sd ra bl nn sp on;obtain⟨hk,hq⟩:=h;exact byVC (vcSpkT k0 bk f0 f1 f2 t0 t1 t2 pl c0 c1 c2 dr fd sd ra bl nn sp fu pr on R) ⟨fun _=>hq,fun g=>hk (by simpa using g)⟩
theorem sChT:Sound Tryz.prog 88 SChT:=by
 refine sound_of (C:=CChT) tabChT Tryz.func88 (by kernel_rfl) (by decide+kernel) (by kernel_rfl) rfl ⟨sValT,sSpkT,sFine,trivial⟩ (loops1 (by kernel_rfl) (fun _ _ h=>nomatch(Eq.trans (Eq.symm (show(firstReg (nthLoop Tryz.f88 0)).bind (findAnn CChT.loops)=none by kernel_rfl)) h))) ?_;intro hA pA R h;unfold SChT at h;split at h;case h_2=>exfalso;exact h
 rename_i k0 bk f0 f1 f2 t0 t1 t2 pl c0 c1 c2 dr fu fd pr sd ra bl nn sp on;obtain⟨⟨hk,hf,ht⟩,_,hR⟩:=h;refine byVC (vcChT k0 bk f0 f1 f2 t0 t1 t2 pl c0 c1 c2 dr fd sd ra bl nn sp fu pr on R) ⟨⟨hk,hf,ht⟩,⟨true,trivial⟩,fun x _=>⟨fun _=>hR ([],false) ⟨ptsOK_nil,by decide⟩,fun _=>⟨hk,fun x2 _ x3 e3=>⟨fun _=>⟨b3_mono (by decide) hf,fun x4 e4 x5 e5 x6 e6=>⟨b3_mono (by decide) ht,fun x7 e7 x8 e8 x9 e9=> ?_⟩⟩,fun g=>by rw[e3]at g;cases g⟩⟩⟩⟩;refine hR ([[x4,x5,x6],[x7,x8,x9]],true) ⟨?_,Nat.le_refl 2⟩;have h1:b3 32768 x4 x5 x6:=by unfold b3 at hf⊢;omega
 have h2:b3 32768 x7 x8 x9:=by unfold b3 at ht⊢;omega
 exact ptsOK_app (ptsOK_app ptsOK_nil h1) h2
theorem sRtT:Sound Tryz.prog 48 SRtT:=by
 refine sound_of (C:=CRate) tabRate Tryz.func48 (by kernel_rfl) (by decide+kernel) (by kernel_rfl) rfl ⟨sRnd,trivial⟩ (loops0 (by kernel_rfl)) ?_;intro hA pA R h;unfold SRtT at h;split at h;case h_2=>exfalso;exact h
 rename_i k0 bk f0 f1 f2 t0 t1 t2 pl c0 c1 c2 dr fu fd pr sd ra bl nn sp on s;obtain⟨⟨hfd,hs⟩,_,hR⟩:=h;have rb:∀x y:Int,(0<=x/\x<=245760000000)->y=rnd x 60000->0<=y/\y<=4096001:=fun x y hx e=>by
  unfold rnd at e;omega
 refine byVC (vcRate s k0 bk f0 f1 f2 t0 t1 t2 pl c0 c1 c2 dr fd sd ra bl nn sp fu pr on R) ⟨fun _=>hR 0 (by decide),fun _=>⟨fun _ x1 e1=> ?_,fun _ x8 e8=> ?_⟩⟩
 . have hx1:1<=x1/\x1<=3000:=by omega
   have hm:0<=fd*x1/\fd*x1<=200*3000:=mul_bd hfd.1 hfd.2 (by omega) hx1.2;refine⟨by omega,fun x2 e2 x3 e3=>⟨by omega,fun x4 e4=>⟨by omega,fun x5 e5=>⟨by omega,fun x6 e6 x7 e7=>hR x7 ?_⟩⟩⟩⟩;have:=rb x5 x6 (by omega) e6;omega
 . refine⟨by omega,fun x4 e4=>⟨by omega,fun x5 e5=>⟨by omega,fun x6 e6 x7 e7=>hR x7 ?_⟩⟩⟩;have:=rb x5 x6 (by omega) e6;omega
theorem sSofT:Sound Tryz.prog 52 SSofT:=by
 refine sound_of (C:=CSofT) tabSoft Tryz.func52 (by kernel_rfl) (by decide+kernel) (by kernel_rfl) rfl ⟨sSmooth,trivial⟩ (loops1 (by kernel_rfl) (fun _ _ h=>nomatch(Eq.trans (Eq.symm (show(firstReg (nthLoop Tryz.f52 0)).bind (findAnn CSofT.loops)=none by kernel_rfl)) h))) ?_;intro hA pA R h;unfold SSofT at h;split at h;case h_2=>exfalso;exact h
 rename_i ks l i;cases hks:ksEq ks [4,4,4,4,4,4,4,4,4,4,4,4,4,0,4,0,4,4,4,4,4,0]
 . rw[hks]at h;exact h.elim
 rw[hks]at h;obtain rfl:=ksEq_eq hks;obtain⟨⟨hi,hn⟩,hq⟩:=h;have n2:=(hn i.toNat (by omega)).1;refine byVC (vcSofT i l R) ⟨hi,trivial,⟨false,fun e=>(by cases e)⟩,fun x hx=>⟨fun _=>hq,fun g=> ?_⟩⟩;exfalso;have h2:ec l i.toNat 0=2:=hx (by simpa using g);omega
theorem sKndT:Sound Tryz.prog 53 SKndT:=by
 refine sound_of (C:=CKndT) tabKndT Tryz.func53 (by kernel_rfl) (by decide+kernel) (by kernel_rfl) rfl ⟨sSynE,trivial⟩ (loops1 (by kernel_rfl) (fun _ _ h=>nomatch(Eq.trans (Eq.symm (show(firstReg (nthLoop Tryz.f53 0)).bind (findAnn CKndT.loops)=none by kernel_rfl)) h))) ?_;intro hA pA R h;unfold SKndT at h;split at h;case h_2=>exfalso;exact h
 rename_i ks l i;cases hks:ksEq ks [4,4,4,4,4,4,4,4,4,4,4,4,4,0,4,0,4,4,4,4,4,0]
 . rw[hks]at h;exact h.elim
 rw[hks]at h;obtain rfl:=ksEq_eq hks;obtain⟨⟨hi,hn,h5⟩,_,hR⟩:=h;refine byVC (vcKndT i l R) ⟨hi,fun x1 e1=>⟨fun _=>hR 6 trivial,fun _=>⟨hi,fun x2 _=>⟨fun _=>hR 1 trivial,fun _=>⟨hi,trivial,fun x3 e3=>⟨fun _=>hR 1 trivial,fun g=> ?_⟩⟩⟩⟩⟩⟩;rw[e3,decide_eq_true (Or.inl (show el l i.toNat=5 from h5))]at g;cases g
theorem sPtsT:Sound Tryz.prog 50 SPtsT:=by
 refine sound_of (C:=CPtsT) tabPtsT Tryz.func50 (by kernel_rfl) (by decide+kernel) (by kernel_rfl) rfl ⟨sChT,sSmooth,trivial⟩ (loops0 (by kernel_rfl)) ?_;intro hA pA R h;unfold SPtsT at h;split at h;case h_2=>exfalso;exact h
 rename_i ks l i f;cases hks:ksEq ks [4,4,4,4,4,4,4,4,4,4,4,4,4,0,4,0,4,4,4,4,4,0]
 . rw[hks]at h;exact h.elim
 rw[hks]at h;obtain rfl:=ksEq_eq hks;obtain⟨⟨hi,hn⟩,_,hR⟩:=h;have hn:=hn i.toNat (by omega);have n0:=hn.1;refine byVC (vcPtsT i f l R) ⟨hi,⟨?_,hn.2.1,hn.2.2.1⟩,⟨([],false),ptsOK_nil,by decide⟩,fun x hx=>⟨hi,trivial,⟨false,fun e=>(by cases e)⟩,fun s hs=>⟨fun _=>hR x.1 ⟨hx.2,hx.1⟩,fun g=> ?_⟩⟩⟩
 . show ec l i.toNat 0≠3;omega
 . exfalso;have h2:ec l i.toNat 0=2:=hs (by simpa using g);omega
theorem sWrgT:Sound Tryz.prog 86 SWrgT:=by
 refine sound_of (C:=CWrgT) tabWrgT Tryz.func86 (by kernel_rfl) (by decide+kernel) (by kernel_rfl) rfl ⟨sMotE,sValT,trivial⟩ (loops0 (by kernel_rfl)) ?_;intro hA pA R h;unfold SWrgT at h;split at h;case h_2=>exfalso;exact h
 rename_i k0 bk f0 f1 f2 t0 t1 t2 pl c0 c1 c2 dr fu fd pr sd ra bl nn sp on;obtain⟨hn,_,hR⟩:=h;have any:∀b,R ⟨.ce (.bool b),false,[],[]⟩:=fun b=>hR b trivial;have hk:=hn.1;have hv:k0≠3/\b3 256 f0 f1 f2/\b3 256 t0 t1 t2:=⟨by omega,hn.2.1,hn.2.2.1⟩;refine byVC (vcWrgT k0 bk f0 f1 f2 t0 t1 t2 pl c0 c1 c2 dr fd sd ra bl nn sp fu pr on R) ?_;repeat' first
  |exact any _
  |exact hv
  |exact⟨true,trivial⟩
  |exact trivial
  |(refine And.intro ?_ ?_)
  |(intro hx)
  |omega
theorem loopChkT:∀v Q,(LChkT v).wp Q->hloop CChkT anCheck (nthLoop Tryz.f44 0) v Q:=by
 intro v Q h;unfold LChkT at h;split at h;case h_2=>exact h.elim
 rename_i ks l r last ks2 l2 n i;cases hks:ksEq ks [4,4,4,4,4,4,4,4,4,4,4,4,4,0,4,0,4,4,4,4,4,0]
 . rw[hks]at h;exact h.elim
 cases hks2:ksEq ks2 [4,4,4,4,4,4,4,4,4,4,4,4,4,0,4,0,4,4,4,4,4,0]
 . rw[hks,hks2]at h;exact h.elim
 rw[hks,hks2]at h;obtain rfl:=ksEq_eq hks;obtain rfl:=ksEq_eq hks2;obtain⟨⟨h1,h2,h3,h4,hn,hl⟩,q0,q1,q2⟩:=h;subst h1 h2 h3 h4;refine hloop_rec (σ:=Int×Nat) (fun s=>([.ce (.sl false [4,4,4,4,4,4,4,4,4,4,4,4,4,0,4,0,4,4,4,4,4,0] l2), .ce (I6 r), .ce (I6 s.1), .ce (.sl false [4,4,4,4,4,4,4,4,4,4,4,4,4,0,4,0,4,4,4,4,4,0] l2), .ce (I6 (l2.length:Int)), .ce (I6 (s.2:Int))],[])) (fun s=>l2.length-s.2) (fun s=>(-1<=s.1/\s.1<(l2.length:Int))/\s.2<=l2.length) ?_ (-1,0) ⟨by dsimp only;omega,Nat.zero_le _⟩;rintro⟨last,i⟩⟨hl1,hi⟩K hnx hx hr;dsimp only at hl1 hi hnx⊢;refine byVB (vbChkT r last l2.length i l2 K) ⟨fun g=> ?_,fun _=>hx _ _ (q0 trivial)⟩;have g:=odt g;have ht:Int.toNat (i:Int)=i:=rfl;rw[ht];have nx:∀t:Int,(-1<=t/\t<(l2.length:Int))->∀y:Int,y=(i:Int)+1->K .normal ([.ce (.sl false [4,4,4,4,4,4,4,4,4,4,4,4,4,0,4,0,4,4,4,4,4,0] l2), .ce (I6 r), .ce (I6 t), .ce (.sl false [4,4,4,4,4,4,4,4,4,4,4,4,4,0,4,0,4,4,4,4,4,0] l2), .ce (I6 (l2.length:Int)), .ce (I6 y)],[]):=fun t h1 y e=>by
  rw[show y=((i+1:Nat):Int)by omega];exact hnx (t,i+1) ⟨h1,by dsimp only;omega⟩ (by dsimp only;omega)
 refine⟨by omega,hn i (by omega),⟨true,trivial⟩,fun x _=>⟨fun _=>hr _ (q1 trivial),fun _=>⟨trivial,fun x2 _=>⟨fun _=>⟨by omega,fun y e=>nx last hl1 y e⟩,fun _=>⟨fun gl=>⟨?_,fun _=>hr _ (q2 trivial),fun _=>⟨by omega,fun y e=>nx i (by omega) y e⟩⟩,fun _=>⟨by omega,fun y e=>nx i (by omega) y e⟩⟩⟩⟩⟩⟩;have gl:=odt gl;omega
theorem sChkT:Sound Tryz.prog 44 SChkT:=by
 refine sound_of (C:=CChkT) tabChkT Tryz.func44 (by kernel_rfl) (by decide+kernel) (by kernel_rfl) rfl ⟨sWrgT,sMotE,trivial⟩ (loops1 (by kernel_rfl) (loopOK_of (an:=anCheck) (S:=LChkT) (by kernel_rfl) loopChkT)) ?_;intro hA pA R h;unfold SChkT at h;split at h;case h_2=>exfalso;exact h
 rename_i ks l;cases hks:ksEq ks [4,4,4,4,4,4,4,4,4,4,4,4,4,0,4,0,4,4,4,4,4,0]
 . rw[hks]at h;exact h.elim
 rw[hks]at h;obtain rfl:=ksEq_eq hks;obtain⟨⟨hn,hl⟩,_,hR⟩:=h;exact byVC (vcChkT l R) ⟨fun _=>hR 10 trivial,fun _=>⟨⟨rfl,rfl,rfl,rfl,hn,hl⟩,fun _=>hR 0 trivial,fun _=>hR 1 trivial,fun _=>hR 13 trivial⟩⟩
end
end Go.Proofs.YthkoabbiiadbjaaGreat
namespace U
open Go
structure RunS where
 s0:Int
 s1:Int
 s2:Int
 sg:List (List Int)
 mks:List (List Int)
 a:AxV
 b:AxV
 c:AxV
 d0:Int
 d1:Int
 d2:Int
 f:Int
 t:Int
 pk:List (List Int)
 ln:Int
def RunS.L(x:RunS):LegS:=leg x.s0 x.s1 x.s2 x.sg x.a.bl x.b.bl x.c.bl x.d0 x.d1 x.d2 x.f x.t
def okRun(x:RunS):Prop:=okPath x.s0 x.s1 x.s2 x.sg x.mks/\okAx x.a/\okAx x.b/\okAx x.c/\(pm x.d0/\pm x.d1/\pm x.d2)/\(0<=x.f/\x.f<=plen x.sg)/\(0<=x.t/\x.t<=plen x.sg)/\x.pk=x.L.pk/\x.ln=x.L.ln
theorem okAx_MA{a:AxV}(h:okAx a):okMA a.st a.og a.sg a.pit a.bl:=by
 obtain⟨h1,h2,h3,h4,h5,h6,h7,h8,h9,h10⟩:=h;exact⟨by omega,⟨fun h=>by have:=h9 h;omega,by omega,by omega,by omega,h10.1⟩,by omega⟩
theorem tadd_ln(pk:List (List Int))(ln:Int)(q:List Int):(tadd pk ln q).2=ln+q.getD 1 0:=by unfold tadd;split<;>rfl
theorem legStep_ln{s0 s1 s2:Int}{sg:List (List Int)}{b0 b1 b2 f t m:Int}{x:LegS}{k:Nat}(hb:okB3 b0 b1 b2)(hm:m=1∨m= -1)(hk:k<sg.length)(hs:okSegs s0 s1 s2 sg):(legStep s0 s1 s2 sg b0 b1 b2 f t m x k).ln<=x.ln+135168:=by
 have hi:=legI_bd (m:=m) hk;have hl:=(hs (legI sg.length m k).toNat (by omega)).2.1;unfold legStep legSeg legPut;generalize legI sg.length m k=i at*;generalize fc1 (bgn s0 sg 0 i) (ec sg i.toNat 0) m x.a0=n0;generalize fc1 (bgn s1 sg 1 i) (ec sg i.toNat 1) m x.a1=n1;generalize fc1 (bgn s2 sg 2 i) (ec sg i.toNat 2) m x.a2=n2;have hu:=slk_bd hb x.a0 x.a1 x.a2 n0 n1 n2;have hE:legE sg m x.bg i=x.bg+m*ec sg i.toNat 3:=rfl;split
 . dsimp only;rw[tadd_ln];have h2:(legTk x.pk x.ln (slk b0 b1 b2 x.a0 x.a1 x.a2 n0 n1 n2) (legS m (legLow x.bg (legE sg m x.bg i) f t) (legHigh x.bg (legE sg m x.bg i) f t)) x.a0 x.a1 x.a2 n0 n1 n2).2<=x.ln+4096:=by
    unfold legTk;split
    . rw[tadd_ln];show x.ln+slk b0 b1 b2 x.a0 x.a1 x.a2 n0 n1 n2<=x.ln+4096;omega
    . show x.ln<=x.ln+4096;omega
   have h3:legHigh x.bg (legE sg m x.bg i) f t-legLow x.bg (legE sg m x.bg i) f t<=131072:=by
    unfold legHigh legLow;rw[hE];rcases hm with rfl|rfl
    . omega
    . omega
   show _+(legHigh x.bg (legE sg m x.bg i) f t-legLow x.bg (legE sg m x.bg i) f t)<=x.ln+135168;omega
 . show x.ln<=x.ln+135168;omega
theorem legK_ln{s0 s1 s2:Int}{sg:List (List Int)}{b0 b1 b2 f t m:Int}{x:LegS}(hb:okB3 b0 b1 b2)(hm:m=1∨m= -1)(hs:okSegs s0 s1 s2 sg):∀k,k<=sg.length->(legK s0 s1 s2 sg b0 b1 b2 f t m x k).ln<=x.ln+135168*(k:Int)
 |0,_=>by show x.ln<=x.ln+135168*((0:Nat):Int);omega
 |k+1,h=>by
  have h1:=legK_ln (x:=x) hb hm hs (f:=f) (t:=t) k (by omega);have h2:=legStep_ln (x:=legK s0 s1 s2 sg b0 b1 b2 f t m x k) (f:=f) (t:=t) hb hm (show k<sg.length by omega) hs;show(legStep s0 s1 s2 sg b0 b1 b2 f t m (legK s0 s1 s2 sg b0 b1 b2 f t m x k) k).ln<=_;omega
theorem legM_pm(f t:Int):legM f t=1∨legM f t= -1:=by unfold legM;split<;>omega
theorem leg_ln{s0 s1 s2:Int}{sg:List (List Int)}{b0 b1 b2 d0 d1 d2 f t:Int}(hb:okB3 b0 b1 b2)(hs:okSegs s0 s1 s2 sg)(hl:sg.length<=355000):(leg s0 s1 s2 sg b0 b1 b2 d0 d1 d2 f t).ln<=1099511627776:=by
 unfold leg;have:=legK_ln (x:=⟨[],0,d0,d1,d2,if legM f t<0 then plen sg else 0⟩) (f:=f) (t:=t) hb (legM_pm f t) hs sg.length (Nat.le_refl _);dsimp only at this;omega
def trkPre(x:RunS):Prop:=okLen x.sg/\okPts x.s0 x.s1 x.s2 x.sg/\okTrk x.pk x.ln/\okMA x.a.st x.a.og x.a.sg x.a.pit x.a.bl/\okMA x.b.st x.b.og x.b.sg x.b.pit x.b.bl/\okMA x.c.st x.c.og x.c.sg x.c.pit x.c.bl/\(0<=x.f/\x.f<=18014398509481984)
theorem okRun_b3{x:RunS}(h:okRun x):okB3 x.a.bl x.b.bl x.c.bl:=by
 obtain⟨_,ha,hb,hc,_⟩:=h;have:=ha.2.2.2.2.1;have:=hb.2.2.2.2.1;have:=hc.2.2.2.2.1;unfold okB3;omega
theorem okRun_pre{x:RunS}(h:okRun x):trkPre x:=by
 have hb:=okRun_b3 h;obtain⟨hp,ha,hb',hc,hd,hf,ht,h1,h2⟩:=h;have hl:=okPath_len hp;have hk:=leg_ok (s0:=x.s0) (s1:=x.s1) (s2:=x.s2) (d0:=x.d0) (d1:=x.d1) (d2:=x.d2) hl hb hf ht;have:=plen_le hl;refine⟨hl,okPath_pts hp,?_,okAx_MA ha,okAx_MA hb',okAx_MA hc,by omega⟩;rw[h1,h2];exact hk
theorem okRun_ln{x:RunS}(h:okRun x):x.ln<=1099511627776:=by
 rw[h.2.2.2.2.2.2.2.2];exact leg_ln (okRun_b3 h) h.1.2.1 h.1.2.2.1
def qloss(J b:Int):Int:=if b<=0 then 0 else(b-1)/J*b-J*((b-1)/J*((b-1)/J+1)/2)
def qready(A J v a:Int):Bool:=decide (-A<=a/\a<=A/\(v=0->a<=J)/\qloss J (-a)<=v/\v<=16777216-qloss J a)
def qbs(J v:Int):Nat->Int->Int->Int
 |0,l,_=>l
 |n+1,l,h=>if l<h then(if qloss J (h-(h-l)/2)<=v-(h-(h-l)/2)then qbs J v n (h-(h-l)/2) h else qbs J v n l (h-(h-l)/2-1))else l
def qhi(A J a:Int):Int:=min (J-a) A
def qbrk(A J v a:Int):Int:= -(qbs J v (qhi A J a-(-a-J)).toNat (-a-J) (qhi A J a))
def qst(A J:Int):Nat->Int->Int->List (List Int)
 |0,_,_=>[]
 |n+1,v,a=>if 0<v then[v+qbrk A J v a]::qst A J n (v+qbrk A J v a) (qbrk A J v a)else[]
def qsok(A J:Int):Nat->Int->Int->Bool
 |0,v,_=>decide (v<=0)
 |n+1,v,a=>if 0<v then qsok A J n (v+qbrk A J v a) (qbrk A J v a)else true
def okPl(A J R:Int):Prop:=(1<=A/\A<=65536)/\(2<=J/\J<=65536)/\(1<=R/\R<=16777216)
theorem tri(m:Int):(m+1)*(m+1+1)/2=m*(m+1)/2+(m+1):=by
 have:(m+1)*(m+1+1)=m*(m+1)+(m+1)*2:=by
  rw[Int.mul_add (m+1),Int.mul_one,Int.mul_comm (m+1) (m+1),Int.mul_add,Int.add_mul];rw[Int.mul_add];omega
 rw[this,Int.add_mul_ediv_right _ _ (by omega)]
theorem qloss_le{J b:Int}(hJ:1<=J)(h:b<=J):qloss J b=0:=by
 unfold qloss;by_cases h0:b<=0
 . rw[if_pos h0]
 . rw[if_neg h0,Int.ediv_eq_zero_of_lt (by omega) (by omega)];simp
theorem qloss_rec{J b:Int}(hJ:1<=J)(h:J<b):qloss J b=(b-J)+qloss J (b-J):=by
 have e:(b-1)/J=(b-J-1)/J+1:=by
  rw[show b-1=(b-J-1)+J*1 by omega,Int.add_mul_ediv_left _ _ (by omega)]
 unfold qloss;rw[if_neg (by omega),if_neg (by omega),e,tri];generalize(b-J-1)/J=m;generalize m*(m+1)/2=t;rw[Int.mul_add,Int.mul_add,Int.add_mul,Int.mul_sub,Int.mul_one,Int.mul_comm J m];omega
theorem qloss_mono{J:Int}(hJ:1<=J):∀(n:Nat){b c:Int},c<=n->b<=c->0<=qloss J b/\qloss J b<=qloss J c:=by
 intro n;induction n using Nat.strongRecOn with
 |_ n ih=>
  intro b c hc hb;by_cases h1:b<=J
  . rw[qloss_le hJ h1];by_cases h2:c<=J
    . rw[qloss_le hJ h2];omega
    . rw[qloss_rec hJ (by omega)];have:=ih (c-J).toNat (by omega) (b:=0) (c:=c-J) (by omega) (by omega);omega
  . rw[qloss_rec hJ (b:=b) (by omega),qloss_rec hJ (b:=c) (by omega)];have:=ih (c-J).toNat (by omega) (b:=b-J) (c:=c-J) (by omega) (by omega);omega
theorem qloss_nn{J:Int}(hJ:1<=J)(b:Int):0<=qloss J b:=(qloss_mono hJ b.toNat (b:=b) (c:=b) (by omega) (by omega)).1
theorem qloss_m{J b c:Int}(hJ:1<=J)(h:b<=c):qloss J b<=qloss J c:=(qloss_mono hJ c.toNat (by omega) h).2
theorem qloss_bd{J:Int}(hJ:1<=J):∀(n:Nat){b:Int},0<=b->b<=n->qloss J b<=b*b:=by
 intro n;induction n using Nat.strongRecOn with
 |_ n ih=>
  intro b h0 hn;by_cases h1:b<=J
  . rw[qloss_le hJ h1];exact Int.mul_nonneg h0 h0
  . rw[qloss_rec hJ (by omega)];have a1:=ih (b-J).toNat (by omega) (b:=b-J) (by omega) (by omega);have a2:(b-J)*(b-J)<=(b-J)*b:=Int.mul_le_mul_of_nonneg_left (by omega) (by omega);have a3:(b-J)*b=b*b-J*b:=Int.sub_mul _ _ _;have a4:1*b<=J*b:=Int.mul_le_mul_of_nonneg_right hJ h0;omega
theorem qbs_spec{J v:Int}(hJ:1<=J):∀(n:Nat){l h:Int},h-l<=n->l<=h->qloss J l<=v-l->l<=qbs J v n l h/\qbs J v n l h<=h/\qloss J (qbs J v n l h)<=v-qbs J v n l h/\∀x,qbs J v n l h<x->x<=h->¬qloss J x<=v-x:=by
 intro n;induction n with
 |zero=>
  intro l h h1 h2 h3;have:l=h:=by omega
  unfold qbs;exact⟨by omega,by omega,h3,fun x _ _=>by omega⟩
 |succ n ih=>
  intro l h h1 h2 h3;unfold qbs;by_cases hl:l<h
  . rw[if_pos hl];generalize hm:h-(h-l)/2=m;have m1:l<m:=by omega
    have m2:m<=h:=by omega
    by_cases hp:qloss J m<=v-m
    . rw[if_pos hp];have:=ih (l:=m) (h:=h) (by omega) m2 hp;exact⟨by omega,this.2⟩
    . rw[if_neg hp];have g:=ih (l:=l) (h:=m-1) (by omega) (by omega) h3;refine⟨g.1,by omega,g.2.2.1,fun x hx hxh=> ?_⟩;by_cases hxm:x<=m-1
      . exact g.2.2.2 x hx hxm
      . intro hc;have:=qloss_m hJ (b:=m) (c:=x) (by omega);omega
  . rw[if_neg hl];exact⟨by omega,by omega,h3,fun x _ _=>by omega⟩
theorem qbs_fuel{J v:Int}:∀(n k:Nat){l h:Int},h-l<=n->h-l<=k->qbs J v n l h=qbs J v k l h:=by
 intro n;induction n with
 |zero=>
  intro k l h h1 _;cases k with
  |zero=>rfl
  |succ k=>unfold qbs;rw[if_neg (by omega)]
 |succ n ih=>
  intro k l h h1 h2;cases k with
  |zero=>unfold qbs;rw[if_neg (by omega)]
  |succ k=>
   unfold qbs;by_cases hl:l<h
   . rw[if_pos hl,if_pos hl,ih k (by omega) (by omega),ih k (by omega) (by omega)]
   . rw[if_neg hl,if_neg hl]
theorem qready_iff{A J v a:Int}:qready A J v a=true↔(-A<=a/\a<=A/\(v=0->a<=J)/\qloss J (-a)<=v/\v<=16777216-qloss J a):=by
 unfold qready;rw[decide_eq_true_iff]
theorem qbrk_spec{A J v a:Int}(hA:1<=A)(hJ:1<=J)(h:qready A J v a=true):(-a-J<= -qbrk A J v a/\ -qbrk A J v a<=J-a/\ -qbrk A J v a<=A)/\qloss J (-qbrk A J v a)<=v+qbrk A J v a/\∀x,-qbrk A J v a<x->x<=J-a->x<=A->¬qloss J x<=v-x:=by
 obtain⟨h1,h2,h3,h4,h5⟩:=qready_iff.mp h;have n1:=qloss_nn hJ (-a);have p:qloss J (-a-J)<=v-(-a-J):=by
  by_cases hb:J< -a
  . rw[qloss_rec hJ hb]at h4;omega
  . rw[qloss_le hJ (by omega)];omega
 have g:=qbs_spec (v:=v) hJ (qhi A J a-(-a-J)).toNat (l:= -a-J) (h:=qhi A J a) (by omega) (by unfold qhi;omega) p;unfold qbrk;generalize hr:qbs J v (qhi A J a-(-a-J)).toNat (-a-J) (qhi A J a)=r at g⊢;unfold qhi at g;rw[Int.neg_neg];exact⟨⟨by omega,by omega,by omega⟩,by have:=g.2.2.1;omega,fun x x1 x2 x3=>g.2.2.2 x x1 (by omega)⟩
theorem qbrk_ready{A J v a:Int}(hA:1<=A)(hJ:1<=J)(h:qready A J v a=true):qready A J (v+qbrk A J v a) (qbrk A J v a)=true:=by
 obtain⟨⟨s1,s2,s3⟩,s4,s5⟩:=qbrk_spec hA hJ h;obtain⟨h1,h2,h3,h4,h5⟩:=qready_iff.mp h;have nn:=qloss_nn hJ (-qbrk A J v a);have na:=qloss_nn hJ (-a);have nb:=qloss_nn hJ a;have nc:=qloss_nn hJ (qbrk A J v a);generalize qbrk A J v a=c at*;have key:c<=0∨(J<a/\c<=a-J):=by
  by_cases ha:J<a
  . refine .inr ⟨ha,?_⟩;apply Classical.byContradiction;intro hc;exact s5 (J-a) (by omega) (by omega) (by omega) (by rw[qloss_le hJ (by omega)];omega)
  . left;apply Classical.byContradiction;intro hc;exact s5 0 (by omega) (by omega) (by omega) (by rw[qloss_le hJ (by omega)];omega)
 refine qready_iff.mpr ⟨by omega,?_,?_,s4,?_⟩
 . omega
 . intro hv;omega
 . rcases key with k|⟨k1,k2⟩
   . rw[qloss_le (b:=c) hJ (by omega)];omega
   . rw[qloss_rec hJ k1]at h5;have:=qloss_m hJ k2;omega
theorem qbrk_rest{A J a:Int}(hA:1<=A)(hJ:1<=J)(h:qready A J 0 a=true):qbrk A J 0 a=0:=by
 obtain⟨⟨s1,s2,s3⟩,s4,s5⟩:=qbrk_spec hA hJ h;obtain⟨h1,h2,h3,h4,h5⟩:=qready_iff.mp h;have nn:=qloss_nn hJ (-qbrk A J 0 a);have h3:=h3 rfl;have ha: -a<=J:=by
  apply Classical.byContradiction;intro hc;rw[qloss_rec hJ (by omega)]at h4;have:=qloss_nn hJ (-a-J);omega
 apply Classical.byContradiction;intro hc;exact s5 0 (by omega) (by omega) (by omega) (by rw[qloss_le hJ (by omega)];omega)
theorem qready_v{A J v a:Int}(hJ:1<=J)(h:qready A J v a=true):0<=v/\v<=16777216:=by
 obtain⟨h1,h2,h3,h4,h5⟩:=qready_iff.mp h;have n1:=qloss_nn hJ (-a);have n2:=qloss_nn hJ a;omega
theorem qst_fuel{A J:Int}:∀(n:Nat){v a:Int},qsok A J n v a=true->qsok A J (n+1) v a=true/\qst A J (n+1) v a=qst A J n v a:=by
 intro n;induction n with
 |zero=>
  intro v a h;have h:v<=0:=by simpa[qsok]using h
  unfold qsok qst;rw[if_neg (by omega),if_neg (by omega)];exact⟨rfl,rfl⟩
 |succ n ih=>
  intro v a h;unfold qsok at h;by_cases hv:0<v
  . rw[if_pos hv]at h;have g:=ih h;unfold qsok;rw[if_pos hv];refine⟨g.1,?_⟩;rw[show qst A J (n+1+1) v a=if 0<v then[v+qbrk A J v a]::qst A J (n+1) (v+qbrk A J v a) (qbrk A J v a)else[]from rfl,if_pos hv,g.2];rw[show qst A J (n+1) v a=if 0<v then[v+qbrk A J v a]::qst A J n (v+qbrk A J v a) (qbrk A J v a)else[]from rfl,if_pos hv]
  . rw[show qsok A J (n+1+1) v a=if 0<v then _ else true from rfl,if_neg hv];rw[show qst A J (n+1+1) v a=if 0<v then _ else[]from rfl,if_neg hv];rw[show qst A J (n+1) v a=if 0<v then _ else[]from rfl,if_neg hv];exact⟨rfl,rfl⟩
theorem qst_tail{A J v a:Int}{n:Nat}(hv:0<v)(h:qsok A J n v a=true):qsok A J n (v+qbrk A J v a) (qbrk A J v a)=true/\qst A J n v a=[v+qbrk A J v a]::qst A J n (v+qbrk A J v a) (qbrk A J v a):=by
 cases n with
 |zero=>simp[qsok]at h;omega
 |succ n=>
  unfold qsok at h;rw[if_pos hv]at h;have g:=qst_fuel n h;refine⟨g.1,?_⟩;rw[g.2,show qst A J (n+1) v a=if 0<v then[v+qbrk A J v a]::qst A J n (v+qbrk A J v a) (qbrk A J v a)else[]from rfl,if_pos hv]
theorem qst_nil{A J v a:Int}{n:Nat}(hv:¬0<v):qst A J n v a=[]/\qsok A J n v a=true:=by
 cases n with
 |zero=>exact⟨rfl,by simp[qsok];omega⟩
 |succ n=>unfold qst qsok;rw[if_neg hv,if_neg hv];exact⟨rfl,rfl⟩
theorem qst_len{A J:Int}:∀(n:Nat)(v a:Int),(qst A J n v a).length<=n:=by
 intro n;induction n with
 |zero=>intro v a;simp[qst]
 |succ n ih=>
  intro v a;unfold qst;split
  . rw[List.length_cons];have:=ih (v+qbrk A J v a) (qbrk A J v a);omega
  . simp
end U
namespace Go.Proofs.YthkoabbiiadbjaaGreat
open Go Go.HL U
def SQLoss(hargs:List HV)(pars:List (List HC)):SR:=match hargs,pars with
 |[.agg [.int .i64 A, .int .i64 J, .int .i64 R], .ce (.int .i64 b)],[]=> .det (okPl A J R/\b<=65536) ⟨.ce (I6 (qloss J b)),false,[],[]⟩
 |_,_=> .fail
noncomputable def CQLoss:Ctx:=⟨Tryz.prog,gam [],Tryz.f59.ntmps,[],[]⟩
theorem vcQLoss(A J R b:Int)(Q:Res->Prop):(nfun true CQLoss Tryz.f59 (bodyOf Tryz.f59) [.agg [I6 A,I6 J,I6 R], .ce (I6 b)] [] Q)=(Br (b<=0) (Q ⟨.ce (I6 0),false,[],[]⟩) (Br (J<=0) (Q ⟨.ce (I6 0),false,[],[]⟩) (R6 (b-1)/\∀x1,x1=b-1->J≠0/\R6 (Int.tdiv x1 J)/\∀x2,x2=Int.tdiv x1 J->R6 (x2*b)/\∀x3,x3=x2*b->R6 (x2+1)/\∀x4,x4=x2+1->R6 (x2*x4)/\∀x5,x5=x2*x4->(2:Int)≠(0:Int)/\R6 (Int.tdiv x5 2)/\∀x6,x6=Int.tdiv x5 2->R6 (J*x6)/\∀x7,x7=J*x6->R6 (x3-x7)/\∀x8,x8=x3-x7->Q ⟨.ce (I6 x8),false,[],[]⟩))):=by kernel_rfl
noncomputable def CQLossR:Ctx:=⟨Tryz.prog,gam [],Tryz.f64.ntmps,[],[]⟩
theorem vcQLossR(A J R b:Int)(Q:Res->Prop):(nfun true CQLossR Tryz.f64 (bodyOf Tryz.f64) [.agg [I6 A,I6 J,I6 R], .ce (I6 b)] [] Q)=(Br (b<=0) (Q ⟨.ce (I6 0),false,[],[]⟩) (R6 (b-1)/\∀x1,x1=b-1->J≠0/\R6 (Int.tdiv x1 J)/\∀x2,x2=Int.tdiv x1 J->R6 (x2*b)/\∀x3,x3=x2*b->R6 (J*x2)/\∀x4,x4=J*x2->R6 (x2+1)/\∀x5,x5=x2+1->R6 (x4*x5)/\∀x6,x6=x4*x5->(2:Int)≠(0:Int)/\R6 (Int.tdiv x6 2)/\∀x7,x7=Int.tdiv x6 2->R6 (x3-x7)/\∀x8,x8=x3-x7->Q ⟨.ce (I6 x8),false,[],[]⟩)):=by kernel_rfl
def SQReady(hargs:List HV)(pars:List (List HC)):SR:=match hargs,pars with
 |[.agg [.int .i64 A, .int .i64 J, .int .i64 R], .ce (.int .i64 v), .ce (.int .i64 a)],[]=> .det (okPl A J R) ⟨.ce (.bool (qready A J v a)),false,[],[]⟩
 |_,_=> .fail
def tabQReady:List (FuncId×HL.Spec):=[(59,SQLoss)]
noncomputable def CQReady:Ctx:=⟨Tryz.prog,gam tabQReady,Tryz.f61.ntmps,[],[]⟩
theorem vcQReady(A J R v a:Int)(Q:Res->Prop):(nfun true CQReady Tryz.f61 (bodyOf Tryz.f61) [.agg [I6 A,I6 J,I6 R], .ce (I6 v), .ce (I6 a)] [] Q)=((-9223372036854775808<=0-A/\(0:Int)-A<=9223372036854775807)/\∀x1,x1=0-A->Br (a<x1) (Q ⟨.ce (.bool false),false,[],[]⟩) (Br (a>A) (Q ⟨.ce (.bool false),false,[],[]⟩) (Bb (v==0) (Br (a>J) (Q ⟨.ce (.bool false),false,[],[]⟩) (R6 (0-a)/\∀x2,x2=0-a->(okPl A J R/\x2<=65536)/\∀x3,x3=qloss J x2->Br (v>=x3) ((okPl A J R/\a<=65536)/\∀x4,x4=qloss J a->(-9223372036854775808<=16777216-x4/\(16777216:Int)-x4<=9223372036854775807)/\∀x5,x5=16777216-x4->Q ⟨.ce (.bool (decide (v<=x5))),false,[],[]⟩) (Q ⟨.ce (.bool false),false,[],[]⟩))) (R6 (0-a)/\∀x6,x6=0-a->(okPl A J R/\x6<=65536)/\∀x7,x7=qloss J x6->Br (v>=x7) ((okPl A J R/\a<=65536)/\∀x8,x8=qloss J a->(-9223372036854775808<=16777216-x8/\(16777216:Int)-x8<=9223372036854775807)/\∀x9,x9=16777216-x8->Q ⟨.ce (.bool (decide (v<=x9))),false,[],[]⟩) (Q ⟨.ce (.bool false),false,[],[]⟩))))):=by kernel_rfl
def tabQReadyR:List (FuncId×HL.Spec):=[(64,SQLoss)]
noncomputable def CQReadyR:Ctx:=⟨Tryz.prog,gam tabQReadyR,Tryz.f66.ntmps,[],[]⟩
theorem vcQReadyR(A J R v a:Int)(Q:Res->Prop):(nfun true CQReadyR Tryz.f66 (bodyOf Tryz.f66) [.agg [I6 A,I6 J,I6 R], .ce (I6 v), .ce (I6 a)] [] Q)=((-9223372036854775808<=0-A/\(0:Int)-A<=9223372036854775807)/\∀x1,x1=0-A->Br (a>=x1) (Br (a<=A) (R6 (0-a)/\∀x2,x2=0-a->(okPl A J R/\x2<=65536)/\∀x3,x3=qloss J x2->Br (v>=x3) ((okPl A J R/\a<=65536)/\∀x4,x4=qloss J a->(-9223372036854775808<=16777216-x4/\(16777216:Int)-x4<=9223372036854775807)/\∀x5,x5=16777216-x4->Br (v<=x5) (Bb (v !=0) (Q ⟨.ce (.bool true),false,[],[]⟩) (Q ⟨.ce (.bool (decide (a<=J))),false,[],[]⟩)) (Q ⟨.ce (.bool false),false,[],[]⟩)) (Q ⟨.ce (.bool false),false,[],[]⟩)) (Q ⟨.ce (.bool false),false,[],[]⟩)) (Q ⟨.ce (.bool false),false,[],[]⟩)):=by kernel_rfl
def SQValid(hargs:List HV)(pars:List (List HC)):SR:=match hargs,pars with
 |[.agg [.int .i64 A, .int .i64 J, .int .i64 R]],[]=> .all True Bool (fun b=>b=true↔okPl A J R) (fun b=>⟨.ce (.bool b),false,[],[]⟩)
 |_,_=> .fail
noncomputable def CQValid:Ctx:=⟨Tryz.prog,gam [],Tryz.f58.ntmps,[],[]⟩
theorem vcQValid(A J R:Int)(Q:Res->Prop):(nfun true CQValid Tryz.f58 (bodyOf Tryz.f58) [.agg [I6 A,I6 J,I6 R]] [] Q)=(Br (1<=A) (Br (A<=65536) (Br (2<=J) (Br (J<=65536) (Br (1<=R) (Q ⟨.ce (.bool (decide (R<=16777216))),false,[],[]⟩) (Q ⟨.ce (.bool false),false,[],[]⟩)) (Q ⟨.ce (.bool false),false,[],[]⟩)) (Q ⟨.ce (.bool false),false,[],[]⟩)) (Q ⟨.ce (.bool false),false,[],[]⟩)) (Q ⟨.ce (.bool false),false,[],[]⟩)):=by kernel_rfl
def SQBrake(hargs:List HV)(pars:List (List HC)):SR:=match hargs,pars with
 |[.agg [.int .i64 A, .int .i64 J, .int .i64 R], .ce (.int .i64 v), .ce (.int .i64 a)],[]=> .det (okPl A J R/\(-1099511627776<=v/\v<=1099511627776)/\(-1099511627776<=a/\a<=1099511627776)) ⟨.ce (I6 (qbrk A J v a)),false,[],[]⟩
 |_,_=> .fail
def anQB:LAnn:=⟨[1,3,7,8],[7],[1000003],false⟩
def LQB(v:LV):LR:=match v with
 |([.ce (.int .i64 v), .ce (.ptr 1000003 0), .ce (.int .i64 l), .ce (.int .i64 h)],[[.int .i64 A, .int .i64 J, .int .i64 R]])=> .det (okPl A J R/\(-1099511627776<=v/\v<=1099511627776)/\(-2199023255552<=l/\h<=65536)) (.exit 0) ([.ce (I6 (qbs J v (h-l).toNat l h))],[[I6 A,I6 J,I6 R]])
 |_=> .fail
def tabQB:List (FuncId×HL.Spec):=[(58,SQValid),(59,SQLoss)]
noncomputable def CQB:Ctx:=⟨Tryz.prog,gam tabQB,Tryz.f29.ntmps,[(4,anQB,LQB)],[]⟩
theorem vbQB(v l h A J R:Int)(K:HEx->LV->Prop):(nbodyT true CQB anQB (nthLoop Tryz.f29 0) (([.ce (I6 v), .ce (.ptr 1000003 0), .ce (I6 l), .ce (I6 h)],[[I6 A,I6 J,I6 R]])) K)=(Br (l<h) (R6 (h-l)/\∀x1,x1=h-l->(2:Int)≠(0:Int)/\R6 (Int.tdiv x1 2)/\∀x2,x2=Int.tdiv x1 2->R6 (h-x2)/\∀x3,x3=h-x2->R6 (v-x3)/\∀x4,x4=v-x3->(okPl A J R/\x3<=65536)/\∀x5,x5=qloss J x3->Br (x4>=x5) (K .normal ([.ce (I6 v), .ce (.ptr 1000003 0), .ce (I6 x3), .ce (I6 h)],[[I6 A,I6 J,I6 R]])) (R6 (x3-1)/\∀x6,x6=x3-1->K .normal ([.ce (I6 v), .ce (.ptr 1000003 0), .ce (I6 l), .ce (I6 x6)],[[I6 A,I6 J,I6 R]]))) (K (.exit 0) ([.ce (I6 l)],[[I6 A,I6 J,I6 R]]))):=by kernel_rfl
theorem vcQB(A J R v a:Int)(Q:Res->Prop):(nfun true CQB Tryz.f29 (bodyOf Tryz.f29) [.agg [I6 A,I6 J,I6 R], .ce (I6 v), .ce (I6 a)] [] Q)=(True/\(∃(x:Bool),x=true↔okPl A J R)/\∀(x:Bool),(x=true↔okPl A J R)->Bb (!x) (Q ⟨.ce (I6 0),false,[],[]⟩) (∀x2,x2=max a v->Br (x2>1099511627776) (Q ⟨.ce (I6 0),false,[],[]⟩) (∀x3,x3=min a v->Br (x3<(-1099511627776:Int)) (Q ⟨.ce (I6 0),false,[],[]⟩) (R6 (0-a)/\∀x4,x4=0-a->R6 (x4-J)/\∀x5,x5=x4-J->R6 (J-a)/\∀x6,x6=J-a->∀x7,x7=min x6 A->(okPl A J R/\(-1099511627776<=v/\v<=1099511627776)/\ -2199023255552<=x5/\x7<=65536)/\(-9223372036854775808<=0-qbs J v (Int.toNat (x7-x5)) x5 x7/\0-qbs J v (Int.toNat (x7-x5)) x5 x7<=9223372036854775807)/\∀x8,x8=0-qbs J v (Int.toNat (x7-x5)) x5 x7->Q ⟨.ce (I6 x8),false,[],[]⟩)))):=by kernel_rfl
noncomputable def CQBR:Ctx:=⟨Tryz.prog,gam tabQReadyR,Tryz.f34.ntmps,[(2,anQB,LQB)],[]⟩
theorem vbQBR(v l h A J R:Int)(K:HEx->LV->Prop):(nbodyT true CQBR anQB (nthLoop Tryz.f34 0) (([.ce (I6 v), .ce (.ptr 1000003 0), .ce (I6 l), .ce (I6 h)],[[I6 A,I6 J,I6 R]])) K)=(Br (l<h) (R6 (h-l)/\∀x1,x1=h-l->R6 (x1+1)/\∀x2,x2=x1+1->(2:Int)≠(0:Int)/\R6 (Int.tdiv x2 2)/\∀x3,x3=Int.tdiv x2 2->R6 (l+x3)/\∀x4,x4=l+x3->R6 (v-x4)/\∀x5,x5=v-x4->(okPl A J R/\x4<=65536)/\∀x6,x6=qloss J x4->Br (x5>=x6) (K .normal ([.ce (I6 v), .ce (.ptr 1000003 0), .ce (I6 x4), .ce (I6 h)],[[I6 A,I6 J,I6 R]])) (R6 (x4-1)/\∀x7,x7=x4-1->K .normal ([.ce (I6 v), .ce (.ptr 1000003 0), .ce (I6 l), .ce (I6 x7)],[[I6 A,I6 J,I6 R]]))) (K (.exit 0) ([.ce (I6 l)],[[I6 A,I6 J,I6 R]]))):=by kernel_rfl
theorem vcQBR(A J R v a:Int)(Q:Res->Prop):(nfun true CQBR Tryz.f34 (bodyOf Tryz.f34) [.agg [I6 A,I6 J,I6 R], .ce (I6 v), .ce (I6 a)] [] Q)=(R6 (0-a)/\∀x1,x1=0-a->R6 (x1-J)/\∀x2,x2=x1-J->R6 (0-a)/\∀x3,x3=0-a->R6 (x3+J)/\∀x4,x4=x3+J->∀x5,x5=min x4 A->(okPl A J R/\(-1099511627776<=v/\v<=1099511627776)/\ -2199023255552<=x2/\x5<=65536)/\R6 (0-qbs J v (Int.toNat (x5-x2)) x2 x5)/\∀x6,x6=0-qbs J v (Int.toNat (x5-x2)) x2 x5->Q ⟨.ce (I6 x6),false,[],[]⟩):=by kernel_rfl
end Go.Proofs.YthkoabbiiadbjaaGreat
namespace U
def qfok(A J v a:Int):Bool:=qready A J v a&&qsok A J 4096 v a
def qsp(A J v a:Int):LL:=if qfok A J v a then qst A J 4096 v a else[]
end U
namespace Go.Proofs.YthkoabbiiadbjaaGreat
open Go Go.HL U
def SQStop(hargs:List HV)(pars:List (List HC)):SR:=match hargs,pars with
 |[.agg [.int .i64 A, .int .i64 J, .int .i64 R], .ce (.int .i64 v), .ce (.int .i64 a)],[]=> .all (okPl A J R) (LL×Bool) (fun x=>x=(qsp A J v a,qfok A J v a)) (fun x=>⟨.tup [.ce (.sl false [4] x.1), .ce (.bool x.2)],false,[],[]⟩)
 |_,_=> .fail
def anQS:LAnn:=⟨[1,2,3,6,7,8,100008],[6,7,8,100008],[1000003],false⟩
def LQS(v:LV):LR:=match v with
 |([.ce (.int .i64 v), .ce (.int .i64 a), .ce (.ptr 1000003 0), .ce (.sl false [4] z), .ce (.bool y), .ce (.sl false [4] l), .ce (.lit true)],[[.int .i64 A, .int .i64 J, .int .i64 R]])=> .alts (okPl A J R/\qready A J v a=true/\l.length=0) [(qsok A J 4096 v a=true, .exit 0,([.ce (.sl false [4] z), .ce (.bool y), .ce (.sl false [4] (qst A J 4096 v a)), .ce (.lit true)],[[I6 A,I6 J,I6 R]])),(qsok A J 4096 v a=false, .ret,([.ce (.sl false [4] []), .ce (.bool false), .ce (.sl false [4] (qst A J 4096 v a)), .ce (.lit true)],[[I6 A,I6 J,I6 R]]))]
 |_=> .fail
def LQSR(v:LV):LR:=match v with
 |([.ce (.int .i64 v), .ce (.int .i64 a), .ce (.ptr 1000003 0), .ce (.sl false [4] z), .ce (.bool y), .ce (.sl false [4] l), .ce (.lit true)],[[.int .i64 A, .int .i64 J, .int .i64 R]])=> .alts (okPl A J R/\qready A J v a=true/\l.length=0) [(qsok A J 4096 v a=true, .exit 0,([.ce (.sl false [4] z), .ce (.bool y), .ce (.sl false [4] (qst A J 4096 v a)), .ce (.lit true)],[[I6 A,I6 J,I6 R]])),(qsok A J 4096 v a=false, .ret,([.ce (.sl false [4] []), .ce (.bool false), .ce (.sl false [4] (qst A J 4097 v a)), .ce (.lit true)],[[I6 A,I6 J,I6 R]]))]
 |_=> .fail
def tabQS:List (FuncId×HL.Spec):=[(58,SQValid),(61,SQReady),(29,SQBrake)]
noncomputable def CQS:Ctx:=⟨Tryz.prog,gam tabQS,Tryz.f75.ntmps,[(4,anQS,LQS)],[]⟩
theorem vbQS(v a A J R:Int)(y:Bool)(z l:LL)(K:HEx->LV->Prop):(nbodyT true CQS anQS (nthLoop Tryz.f75 0) (([.ce (I6 v), .ce (I6 a), .ce (.ptr 1000003 0), .ce (.sl false [4] z), .ce (.bool y), .ce (.sl false [4] l), .ce (.lit true)],[[I6 A,I6 J,I6 R]])) K)=(Br (v>0) (Bb ((l.length:Int)==4096) (K .ret ([.ce (.sl false [4] []), .ce (.bool false), .ce (.sl false [4] l), .ce (.lit true)],[[I6 A,I6 J,I6 R]])) ((okPl A J R/\(-1099511627776<=v/\v<=1099511627776)/\ -1099511627776<=a/\a<=1099511627776)/\∀x1,x1=qbrk A J v a->R6 (v+x1)/\∀x2,x2=v+x1->((l.length+1)*8<=140737488355328/\l.length+1<=maxLen)/\K .normal ([.ce (I6 x2), .ce (I6 x1), .ce (.ptr 1000003 0), .ce (.sl false [4] z), .ce (.bool y), .ce (.sl false [4] (l++[[x2]])), .ce (.lit true)],[[I6 A,I6 J,I6 R]]))) (K (.exit 0) ([.ce (.sl false [4] z), .ce (.bool y), .ce (.sl false [4] l), .ce (.lit true)],[[I6 A,I6 J,I6 R]]))):=by kernel_rfl
theorem vcQS(A J R v a:Int)(Q:Res->Prop):(nfun true CQS Tryz.f75 (bodyOf Tryz.f75) [.agg [I6 A,I6 J,I6 R], .ce (I6 v), .ce (I6 a)] [] Q)=(True/\(∃(x:Bool),x=true↔okPl A J R)/\∀(x:Bool),(x=true↔okPl A J R)->Bb (!x) (Q ⟨.tup [.ce (.sl false [4] []), .ce (.bool false)],false,[],[]⟩) (okPl A J R/\∀(x2:Bool),x2=qready A J v a->Bb (!x2) (Q ⟨.tup [.ce (.sl false [4] []), .ce (.bool false)],false,[],[]⟩) ((okPl A J R/\qready A J v a=true/\(0:Nat)=0)/\Bb (qsok A J (4096:Nat) v a) (Q ⟨.tup [.ce (.sl false [4] (qst A J (4096:Nat) v a)), .ce (.bool true)],false,[],[]⟩) (Q ⟨.tup [.ce (.sl false [4] []), .ce (.bool false)],false,[],[]⟩)))):=by kernel_rfl
def tabQSR:List (FuncId×HL.Spec):=[(66,SQReady),(34,SQBrake)]
noncomputable def CQSR:Ctx:=⟨Tryz.prog,gam tabQSR,Tryz.f79.ntmps,[(4,anQS,LQSR)],[]⟩
theorem vbQSR(v a A J R:Int)(y:Bool)(z l:LL)(K:HEx->LV->Prop):(nbodyT true CQSR anQS (nthLoop Tryz.f79 0) (([.ce (I6 v), .ce (I6 a), .ce (.ptr 1000003 0), .ce (.sl false [4] z), .ce (.bool y), .ce (.sl false [4] l), .ce (.lit true)],[[I6 A,I6 J,I6 R]])) K)=(Br (v>0) ((okPl A J R/\(-1099511627776<=v/\v<=1099511627776)/\ -1099511627776<=a/\a<=1099511627776)/\∀x1,x1=qbrk A J v a->R6 (v+x1)/\∀x2,x2=v+x1->((l.length+1)*8<=140737488355328/\l.length+1<=maxLen)/\Br ((((List.length (l++[[x2]])):Nat):Int)>4096) (K .ret ([.ce (.sl false [4] []), .ce (.bool false), .ce (.sl false [4] (l++[[x2]])), .ce (.lit true)],[[I6 A,I6 J,I6 R]])) (K .normal ([.ce (I6 x2), .ce (I6 x1), .ce (.ptr 1000003 0), .ce (.sl false [4] z), .ce (.bool y), .ce (.sl false [4] (l++[[x2]])), .ce (.lit true)],[[I6 A,I6 J,I6 R]]))) (K (.exit 0) ([.ce (.sl false [4] z), .ce (.bool y), .ce (.sl false [4] l), .ce (.lit true)],[[I6 A,I6 J,I6 R]]))):=by kernel_rfl
theorem vcQSR(A J R v a:Int)(Q:Res->Prop):(nfun true CQSR Tryz.f79 (bodyOf Tryz.f79) [.agg [I6 A,I6 J,I6 R], .ce (I6 v), .ce (I6 a)] [] Q)=(okPl A J R/\∀(x1:Bool),x1=qready A J v a->Bb (!x1) (Q ⟨.tup [.ce (.sl false [4] []), .ce (.bool false)],false,[],[]⟩) ((okPl A J R/\qready A J v a=true/\(0:Nat)=0)/\Bb (qsok A J (4096:Nat) v a) (Q ⟨.tup [.ce (.sl false [4] (qst A J (4096:Nat) v a)), .ce (.bool true)],false,[],[]⟩) (Q ⟨.tup [.ce (.sl false [4] []), .ce (.bool false)],false,[],[]⟩))):=by kernel_rfl
end Go.Proofs.YthkoabbiiadbjaaGreat
namespace U
theorem mulb{x y X Y:Int}(h1:0<=x)(h2:x<=X)(h3:0<=y)(h4:y<=Y):0<=x*y/\x*y<=X*Y:=⟨Int.mul_nonneg h1 h3,Int.le_trans (Int.mul_le_mul_of_nonneg_right h2 h3) (Int.mul_le_mul_of_nonneg_left h4 (by omega))⟩
theorem tri_even(m:Int):m*(m+1)=2*(m*(m+1)/2):=by
 rcases Int.emod_two_eq m with h|h
 . obtain⟨k,rfl⟩:∃k,m=2*k:=⟨m/2,by omega⟩;have e:2*k*(2*k+1)=2*(k*(2*k+1)):=by grind
   omega
 . obtain⟨k,rfl⟩:∃k,m=2*k+1:=⟨m/2,by omega⟩;have e:(2*k+1)*(2*k+1+1)=2*((2*k+1)*(k+1)):=by grind
   omega
theorem qloss_max{J b:Int}(hJ:1<=J)(h:b<=65536):0<=qloss J b/\qloss J b<=4294967296:=by
 have h1:=qloss_m (J:=J) hJ h;have h2:=qloss_bd (J:=J) hJ 65536 (b:=65536) (by omega) (by omega);have h3:=qloss_nn hJ b;omega
theorem qd_bd{J b:Int}(hJ:2<=J)(h0:0<b)(h:b<=65536):0<=(b-1)/J/\(b-1)/J<=65536:=⟨Int.ediv_nonneg (by omega) (by omega),by have:=Int.ediv_le_self J (show 0<=b-1 by omega);omega⟩
end U
namespace Go.Proofs.YthkoabbiiadbjaaGreat
open Go Go.HL U
attribute [local irreducible] hfun bodyT fragT
theorem sQLoss:Sound Tryz.prog 59 SQLoss:=by
 refine sound_of (C:=CQLoss) [] Tryz.func59 (by kernel_rfl) (by decide+kernel) (by kernel_rfl) rfl trivial (loops0 (by kernel_rfl)) ?_;intro hargs pars R h;unfold SQLoss at h;split at h;case h_2=>exfalso;exact h
 rename_i A J Rp b;obtain⟨⟨⟨_,hJ,_⟩,hb⟩,hR⟩:=h;refine byVC (vcQLoss A J Rp b R) ⟨fun g=> ?_,fun g=>⟨fun g2=>by have:=odt g2;omega,fun g2=> ?_⟩⟩
 . rw[qloss_le (by omega) (by have:=odt g;omega)]at hR;exact hR
 . have g:=odf g;have m0:=qd_bd hJ.1 (by omega:0<b) hb;refine⟨by omega,fun x1 e1=>⟨by omega,?_⟩⟩;subst e1;rw[tdiv_pos (by omega)];have hq:qloss J b=(b-1)/J*b-J*((b-1)/J*((b-1)/J+1)/2):=by unfold qloss;rw[if_neg (by omega)]
   generalize(b-1)/J=m at*;refine⟨by omega,fun x2 e2=> ?_⟩;subst e2;have p1:=mulb m0.1 m0.2 (by omega:0<=b) hb;have p2:=mulb m0.1 m0.2 (by omega:0<=x2+1) (by omega:x2+1<=65537);have p3:=mulb (by omega:0<=J) hJ.2 (by omega:0<=x2*(x2+1)/2) (by omega:x2*(x2+1)/2<=4295032832);refine⟨by omega,fun x3 e3=>⟨by omega,fun x4 e4=> ?_⟩⟩;subst e4;refine⟨by omega,fun x5 e5=>⟨by decide,?_⟩⟩;subst e5;rw[tdiv_pos p2.1];refine⟨by omega,fun x6 e6=> ?_⟩;subst e6;refine⟨by omega,fun x7 e7=>⟨by omega,fun x8 e8=> ?_⟩⟩;rw[show x8=qloss J b by omega];exact hR
theorem sQLossR:Sound Tryz.prog 64 SQLoss:=by
 refine sound_of (C:=CQLossR) [] Tryz.func64 (by kernel_rfl) (by decide+kernel) (by kernel_rfl) rfl trivial (loops0 (by kernel_rfl)) ?_;intro hargs pars R h;unfold SQLoss at h;split at h;case h_2=>exfalso;exact h
 rename_i A J Rp b;obtain⟨⟨⟨_,hJ,_⟩,hb⟩,hR⟩:=h;refine byVC (vcQLossR A J Rp b R) ⟨fun g=> ?_,fun g=> ?_⟩
 . rw[qloss_le (by omega) (by have:=odt g;omega)]at hR;exact hR
 . have g:=odf g;have m0:=qd_bd hJ.1 (by omega:0<b) hb;refine⟨by omega,fun x1 e1=>⟨by omega,?_⟩⟩;subst e1;rw[tdiv_pos (by omega)];have hq:qloss J b=(b-1)/J*b-J*((b-1)/J*((b-1)/J+1)/2):=by unfold qloss;rw[if_neg (by omega)]
   generalize(b-1)/J=m at*;refine⟨by omega,fun x2 e2=> ?_⟩;subst e2;have p1:=mulb m0.1 m0.2 (by omega:0<=b) hb;have p2:=mulb m0.1 m0.2 (by omega:0<=x2+1) (by omega:x2+1<=65537);have p3:=mulb (by omega:0<=J) hJ.2 (by omega:0<=x2*(x2+1)/2) (by omega:x2*(x2+1)/2<=4295032832);have p4:=mulb (by omega:0<=J) hJ.2 m0.1 m0.2;have e:∀t,x2*(x2+1)=2*t->J*x2*(x2+1)=2*(J*t):=fun t ht=>by rw[Int.mul_assoc,ht,Int.mul_left_comm]
   have e2:=e _ (tri_even x2);refine⟨by omega,fun x3 e3=>⟨by omega,fun x4 e4=>⟨by omega,fun x5 e5=> ?_⟩⟩⟩;subst e4 e5;refine⟨by omega,fun x6 e6=>⟨by decide,?_⟩⟩;subst e6;rw[tdiv_pos (by omega)];refine⟨by omega,fun x7 e7=>⟨by omega,fun x8 e8=> ?_⟩⟩;rw[show x8=qloss J b by omega];exact hR
theorem qr_fin{A J v a:Int}{R:Res->Prop}(hR:R ⟨.ce (.bool (qready A J v a)),false,[],[]⟩):∀b:Bool,(b=true↔(-A<=a/\a<=A/\(v=0->a<=J)/\qloss J (-a)<=v/\v<=16777216-qloss J a))->R ⟨.ce (.bool b),false,[],[]⟩:=fun b hb=>by
 rw[show b=qready A J v a from Bool.eq_iff_iff.mpr (hb.trans qready_iff.symm)];exact hR
theorem sQReady:Sound Tryz.prog 61 SQReady:=by
 refine sound_of (C:=CQReady) tabQReady Tryz.func61 (by kernel_rfl) (by decide+kernel) (by kernel_rfl) rfl ⟨sQLoss,trivial⟩ (loops0 (by kernel_rfl)) ?_;intro hargs pars R h;unfold SQReady at h;split at h;case h_2=>exfalso;exact h
 rename_i A J Rp v a;obtain⟨hp,hR⟩:=h;have hp':=hp;obtain⟨hA,hJ,_⟩:=hp;have fin:=qr_fin hR;have tail:∀x:Int,x=0-a-> -A<=a->a<=A->(v=0->a<=J)->(okPl A J Rp/\x<=65536)/\∀(x3:Int),x3=qloss J x->(decide (v>=x3)=true->(okPl A J Rp/\a<=65536)/\∀(x4:Int),x4=qloss J a->(-9223372036854775808<=16777216-x4/\16777216-x4<=9223372036854775807)/\∀(x5:Int),x5=16777216-x4->R ⟨.ce (.bool (decide (v<=x5))),false,[],[]⟩)/\(decide (v>=x3)=false->R ⟨.ce (.bool false),false,[],[]⟩):=by
  intro x ex c1 c2 c3;obtain rfl:x= -a:=by omega
  refine⟨⟨hp',by omega⟩,fun x3 e3=>⟨fun g=>⟨⟨hp',by omega⟩,fun x4 e4=> ?_⟩,fun g=>fin _ ⟨fun h=>(by cases h),fun c=>by have:=odf g;omega⟩⟩⟩;have:=odt g;have b:=qloss_max (J:=J) (b:=a) (by omega) (by omega);refine⟨by omega,fun x5 e5=>fin _ ⟨fun h=>by have:=odt h;exact⟨c1,c2,c3,by omega,by omega⟩,fun c=>decide_eq_true (by omega)⟩⟩
 refine byVC (vcQReady A J Rp v a R) ⟨by omega,fun x1 e1=>⟨fun g=>fin _ ⟨fun h=>(by cases h),fun c=>by have:=odt g;omega⟩,fun g=>⟨fun g2=>fin _ ⟨fun h=>(by cases h),fun c=>by have:=odt g2;omega⟩,fun g2=> ?_⟩⟩⟩;have g:=odf g;have g2:=odf g2;refine⟨fun g3=>⟨fun g4=>fin _ ⟨fun h=>(by cases h),fun c=>by have:=odt g4;have:=c.2.2.1 (by simpa using g3);omega⟩,fun g4=>⟨by omega,fun x2 e2=> ?_⟩⟩,fun g3=>⟨by omega,fun x6 e6=> ?_⟩⟩
 . have g4:=odf g4;exact tail x2 e2 (by omega) (by omega) (fun _=>by omega)
 . exact tail x6 e6 (by omega) (by omega) (fun e=>by simp[e]at g3)
theorem sQReadyR:Sound Tryz.prog 66 SQReady:=by
 refine sound_of (C:=CQReadyR) tabQReadyR Tryz.func66 (by kernel_rfl) (by decide+kernel) (by kernel_rfl) rfl ⟨sQLossR,trivial⟩ (loops0 (by kernel_rfl)) ?_;intro hargs pars R h;unfold SQReady at h;split at h;case h_2=>exfalso;exact h
 rename_i A J Rp v a;obtain⟨hp,hR⟩:=h;have hp':=hp;obtain⟨hA,hJ,_⟩:=hp;have fin:=qr_fin hR;refine byVC (vcQReadyR A J Rp v a R) ⟨by omega,fun x1 e1=>⟨fun g=>⟨fun g2=>⟨by have:=odt g;have:=odt g2;omega,fun x2 e2=> ?_⟩,fun g2=>fin _ ⟨fun h=>(by cases h),fun c=>by have:=odf g2;omega⟩⟩,fun g=>fin _ ⟨fun h=>(by cases h),fun c=>by have:=odf g;omega⟩⟩⟩;have g:=odt g;have g2:=odt g2;obtain rfl:x2= -a:=by omega
 refine⟨⟨hp',by omega⟩,fun x3 e3=>⟨fun g3=>⟨⟨hp',by omega⟩,fun x4 e4=> ?_⟩,fun g3=>fin _ ⟨fun h=>(by cases h),fun c=>by have:=odf g3;omega⟩⟩⟩;have g3:=odt g3;have b:=qloss_max (J:=J) (b:=a) (by omega) (by omega);refine⟨by omega,fun x5 e5=>⟨fun g4=>⟨fun g5=>fin _ ⟨fun _=> ?_,fun _=>rfl⟩,fun g5=>fin _ ⟨fun h=> ?_,fun c=>decide_eq_true (c.2.2.1 (by simpa using g5))⟩⟩,fun g4=>fin _ ⟨fun h=>(by cases h),fun c=>by have:=odf g4;omega⟩⟩⟩
 . have g4:=odt g4;exact⟨by omega,by omega,fun e=>by simp[e]at g5,by omega,by omega⟩
 . have g4:=odt g4;have h:=odt h;exact⟨by omega,by omega,fun _=>h,by omega,by omega⟩
theorem sQValid:Sound Tryz.prog 58 SQValid:=by
 refine sound_of (C:=CQValid) [] Tryz.func58 (by kernel_rfl) (by decide+kernel) (by kernel_rfl) rfl trivial (loops0 (by kernel_rfl)) ?_;intro hargs pars R h;unfold SQValid at h;split at h;case h_2=>exfalso;exact h
 rename_i A J Rp;obtain⟨_,_,hR⟩:=h;refine byVC (vcQValid A J Rp R) ⟨fun g1=>⟨fun g2=>⟨fun g3=>⟨fun g4=>⟨fun g5=>hR _ ⟨fun h=> ?_,fun c=>decide_eq_true c.2.2.2⟩,fun g=> ?_⟩,fun g=> ?_⟩,fun g=> ?_⟩,fun g=> ?_⟩,fun g=> ?_⟩
 . have h1:=odt g1;have h2:=odt g2;have h3:=odt g3;have h4:=odt g4;have h5:=odt g5;have h6:=odt h;exact⟨⟨h1,h2⟩,⟨h3,h4⟩,h5,h6⟩
 all_goals exact hR _ ⟨fun h=>(by cases h),fun⟨c1,c2,c3⟩=>by have:=odf g;omega⟩
theorem loopQB:∀v Q,(LQB v).wp Q->hloop CQB anQB (nthLoop Tryz.f29 0) v Q:=by
 intro v Q h;unfold LQB at h;split at h;case h_2=>exact h.elim
 rename_i v l h' A J Rp;obtain⟨⟨hp,hv,hl⟩,hq⟩:=h;refine hloop_rec (σ:=Int×Int) (fun s=>([.ce (I6 v), .ce (.ptr 1000003 0), .ce (I6 s.1), .ce (I6 s.2)],[[I6 A,I6 J,I6 Rp]])) (fun s=>(s.2-s.1).toNat) (fun s=> -2199023255552<=s.1/\s.2<=65536/\qbs J v (h'-l).toNat l h'=qbs J v (s.2-s.1).toNat s.1 s.2) ?_ (l,h') ⟨hl.1,hl.2,rfl⟩;rintro⟨lo,hi⟩⟨i1,i2,i3⟩K hn hx _;dsimp only at i1 i2 i3 hn⊢;refine byVB (vbQB v lo hi A J Rp K) ⟨fun g=> ?_,fun g=> ?_⟩
 . have g:=odt g;refine⟨by omega,fun x1 e1=>⟨by decide,?_⟩⟩;rw[tdiv_pos (by omega)];refine⟨by omega,fun x2 e2=>⟨by omega,fun x3 e3=>⟨by omega,fun x4 e4=>⟨⟨hp,by omega⟩,fun x5 e5=> ?_⟩⟩⟩⟩;have em:hi-(hi-lo)/2=x3:=by omega
   have key:qbs J v (hi-lo).toNat lo hi=if qloss J x3<=v-x3 then qbs J v (hi-x3).toNat x3 hi else qbs J v (x3-1-lo).toNat lo (x3-1):=by
    rw[show(hi-lo).toNat=(hi-lo).toNat-1+1 by omega,qbs,if_pos g,em];by_cases c:qloss J x3<=v-x3
    . rw[if_pos c,if_pos c,qbs_fuel ((hi-lo).toNat-1) (hi-x3).toNat (by omega) (by omega)]
    . rw[if_neg c,if_neg c,qbs_fuel ((hi-lo).toNat-1) (x3-1-lo).toNat (by omega) (by omega)]
   refine⟨fun g2=>hn (x3,hi) ⟨by dsimp only;omega,i2,?_⟩ (by dsimp only;omega),fun g2=>⟨by omega,fun x6 e6=>hn (lo,x6) ⟨i1,by dsimp only;omega,?_⟩ (by dsimp only;omega)⟩⟩
   . have g2:=odt g2;rw[i3,key,if_pos (by omega)]
   . have g2:=odf g2;rw[i3,key,if_neg (by omega),e6]
 . have g:=odf g;have:qbs J v (hi-lo).toNat lo hi=lo:=by
    rw[show(hi-lo).toNat=0 by omega];rfl
   rw[i3,this]at hq;exact hx 0 _ hq
theorem loopQBR:∀v Q,(LQB v).wp Q->hloop CQBR anQB (nthLoop Tryz.f34 0) v Q:=by
 intro v Q h;unfold LQB at h;split at h;case h_2=>exact h.elim
 rename_i v l h' A J Rp;obtain⟨⟨hp,hv,hl⟩,hq⟩:=h;refine hloop_rec (σ:=Int×Int) (fun s=>([.ce (I6 v), .ce (.ptr 1000003 0), .ce (I6 s.1), .ce (I6 s.2)],[[I6 A,I6 J,I6 Rp]])) (fun s=>(s.2-s.1).toNat) (fun s=> -2199023255552<=s.1/\s.2<=65536/\qbs J v (h'-l).toNat l h'=qbs J v (s.2-s.1).toNat s.1 s.2) ?_ (l,h') ⟨hl.1,hl.2,rfl⟩;rintro⟨lo,hi⟩⟨i1,i2,i3⟩K hn hx _;dsimp only at i1 i2 i3 hn⊢;refine byVB (vbQBR v lo hi A J Rp K) ⟨fun g=> ?_,fun g=> ?_⟩
 . have g:=odt g;refine⟨by omega,fun x1 e1=>⟨by omega,fun x1' e1'=>⟨by decide,?_⟩⟩⟩;rw[tdiv_pos (by omega)];refine⟨by omega,fun x2 e2=>⟨by omega,fun x3 e3=>⟨by omega,fun x4 e4=>⟨⟨hp,by omega⟩,fun x5 e5=> ?_⟩⟩⟩⟩;have em:hi-(hi-lo)/2=x3:=by omega
   have key:qbs J v (hi-lo).toNat lo hi=if qloss J x3<=v-x3 then qbs J v (hi-x3).toNat x3 hi else qbs J v (x3-1-lo).toNat lo (x3-1):=by
    rw[show(hi-lo).toNat=(hi-lo).toNat-1+1 by omega,qbs,if_pos g,em];by_cases c:qloss J x3<=v-x3
    . rw[if_pos c,if_pos c,qbs_fuel ((hi-lo).toNat-1) (hi-x3).toNat (by omega) (by omega)]
    . rw[if_neg c,if_neg c,qbs_fuel ((hi-lo).toNat-1) (x3-1-lo).toNat (by omega) (by omega)]
   refine⟨fun g2=>hn (x3,hi) ⟨by dsimp only;omega,i2,?_⟩ (by dsimp only;omega),fun g2=>⟨by omega,fun x6 e6=>hn (lo,x6) ⟨i1,by dsimp only;omega,?_⟩ (by dsimp only;omega)⟩⟩
   . have g2:=odt g2;rw[i3,key,if_pos (by omega)]
   . have g2:=odf g2;rw[i3,key,if_neg (by omega),e6]
 . have g:=odf g;have:qbs J v (hi-lo).toNat lo hi=lo:=by
    rw[show(hi-lo).toNat=0 by omega];rfl
   rw[i3,this]at hq;exact hx 0 _ hq
theorem qb_le{J v:Int}:∀(n:Nat){l h:Int},l<=qbs J v n l h/\qbs J v n l h<=max l h:=by
 intro n;induction n with
 |zero=>intro l h;unfold qbs;omega
 |succ n ih=>
  intro l h;unfold qbs;by_cases g:l<h
  . rw[if_pos g];split
    . have:=ih (l:=h-(h-l)/2) (h:=h);omega
    . have:=ih (l:=l) (h:=h-(h-l)/2-1);omega
  . rw[if_neg g];omega
theorem sQBrake:Sound Tryz.prog 29 SQBrake:=by
 refine sound_of (C:=CQB) tabQB Tryz.func29 (by kernel_rfl) (by decide+kernel) (by kernel_rfl) rfl ⟨sQValid,sQLoss,trivial⟩ (loops1 (by kernel_rfl) (loopOK_of (an:=anQB) (S:=LQB) (by kernel_rfl) loopQB)) ?_;intro hargs pars R h;unfold SQBrake at h;split at h;case h_2=>exfalso;exact h
 rename_i A J Rp v a;obtain⟨⟨hp,hv,ha⟩,hR⟩:=h;have hp':=hp;obtain⟨hA,hJ,_⟩:=hp;refine byVC (vcQB A J Rp v a R) ⟨trivial,⟨true,by simpa using hp'⟩,fun x hx=>⟨fun g=> ?_,fun _=>fun x2 e2=>⟨fun g=>by have:=odt g;omega,fun g=>fun x3 e3=>⟨fun g=>by have:=odt g;omega,fun g=>⟨by omega,fun x4 e4=>⟨by omega,fun x5 e5=>⟨by omega,fun x6 e6=>fun x7 e7=>⟨⟨hp',hv,by omega,by omega⟩,?_⟩⟩⟩⟩⟩⟩⟩⟩
 . rw[hx.2 hp']at g;cases g
 . have e:qbrk A J v a= -(qbs J v (x7-x5).toNat x5 x7):=by
    unfold qbrk qhi;rw[show-a-J=x5 by omega,show min (J-a) A=x7 by omega]
   have b:=qb_le (J:=J) (v:=v) (x7-x5).toNat (l:=x5) (h:=x7);refine⟨by omega,fun x8 e8=> ?_⟩;rw[show x8=qbrk A J v a by omega];exact hR
theorem sQBrakeR:Sound Tryz.prog 34 SQBrake:=by
 refine sound_of (C:=CQBR) tabQReadyR Tryz.func34 (by kernel_rfl) (by decide+kernel) (by kernel_rfl) rfl ⟨sQLossR,trivial⟩ (loops1 (by kernel_rfl) (loopOK_of (an:=anQB) (S:=LQB) (by kernel_rfl) loopQBR)) ?_;intro hargs pars R h;unfold SQBrake at h;split at h;case h_2=>exfalso;exact h
 rename_i A J Rp v a;obtain⟨⟨hp,hv,ha⟩,hR⟩:=h;have hp':=hp;obtain⟨hA,hJ,_⟩:=hp;refine byVC (vcQBR A J Rp v a R) ⟨by omega,fun x4 e4=>⟨by omega,fun x5 e5=>⟨by omega,fun x6 e6=>⟨by omega,fun x6' e6'=>fun x7 e7=>⟨⟨hp',hv,by omega,by omega⟩,?_⟩⟩⟩⟩⟩;have e:qbrk A J v a= -(qbs J v (x7-x5).toNat x5 x7):=by
  unfold qbrk qhi;rw[show-a-J=x5 by omega,show min (J-a) A=x7 by omega]
 have b:=qb_le (J:=J) (v:=v) (x7-x5).toNat (l:=x5) (h:=x7);refine⟨by omega,fun x8 e8=> ?_⟩;rw[show x8=qbrk A J v a by omega];exact hR
theorem qst_k{A J v a:Int}{n:Nat}(hv:0<v):qst A J (n+1) v a=[v+qbrk A J v a]::qst A J n (v+qbrk A J v a) (qbrk A J v a)/\qsok A J (n+1) v a=qsok A J n (v+qbrk A J v a) (qbrk A J v a):=by
 exact⟨by rw[qst,if_pos hv],by rw[qsok,if_pos hv]⟩
theorem loopQS:∀v Q,(LQS v).wp Q->hloop CQS anQS (nthLoop Tryz.f75 0) v Q:=by
 intro v Q h;unfold LQS at h;split at h;case h_2=>exact h.elim
 rename_i v a z y l A J Rp;obtain⟨⟨hp,hr,h0⟩,hq1,hq2⟩:=h;obtain rfl:=List.eq_nil_of_length_eq_zero h0;have hA:1<=A:=hp.1.1;have hJ:1<=J:=by have:=hp.2.1.1;omega
 have hA2:=hp.1.2;refine hloop_rec (σ:=Int×Int×LL) (fun s=>([.ce (I6 s.1), .ce (I6 s.2.1), .ce (.ptr 1000003 0), .ce (.sl false [4] z), .ce (.bool y), .ce (.sl false [4] s.2.2), .ce (.lit true)],[[I6 A,I6 J,I6 Rp]])) (fun s=>4097-s.2.2.length) (fun s=>s.2.2.length<=4096/\qready A J s.1 s.2.1=true/\qst A J 4096 v a=s.2.2++qst A J (4096-s.2.2.length) s.1 s.2.1/\qsok A J 4096 v a=qsok A J (4096-s.2.2.length) s.1 s.2.1) ?_ (v,a,[]) ⟨Nat.zero_le _,hr,rfl,rfl⟩;rintro⟨v',a',l⟩⟨i1,i2,i3,i4⟩K hn hx hy;dsimp only at i1 i2 i3 i4 hn⊢;have hv:=qready_v hJ i2;have ha:=qready_iff.mp i2;refine byVB (vbQS v' a' A J Rp y z l K) ⟨fun g=>⟨fun g2=> ?_,fun g2=> ?_⟩,fun g=> ?_⟩
 . have g:=odt g;have g2:(l.length:Int)=4096:=by simpa using g2
   rw[show 4096-l.length=0 by omega]at i3 i4;have hf:qsok A J 4096 v a=false:=by rw[i4];simp[qsok];omega
   have:=hq2 hf;rw[i3]at this;simp only[qst,List.append_nil]at this;exact hy _ this
 . have g:=odt g;have g2:(l.length:Int)≠4096:=by simpa using g2
   refine⟨⟨hp,by omega,by omega⟩,fun x1 e1=> ?_⟩;have hr':=qbrk_ready hA hJ i2;rw[<-e1]at hr';have hv':=qready_v hJ hr';refine⟨by omega,fun x2 e2=>⟨⟨by omega,by unfold maxLen;omega⟩,hn (x2,x1,l++[[x2]]) ⟨by simp;omega,by rw[e2];exact hr',?_,?_⟩ (by simp;omega)⟩⟩
   . dsimp only;rw[i3,show 4096-l.length=4096-(l++[[x2]]).length+1 by simp;omega,(qst_k g).1,<-e1,<-e2];simp
   . dsimp only;rw[i4,show 4096-l.length=4096-(l++[[x2]]).length+1 by simp;omega,(qst_k g).2,<-e1,<-e2]
 . have g:=odf g;have e:=qst_nil (A:=A) (J:=J) (a:=a') (n:=4096-l.length) g;rw[e.1,List.append_nil]at i3;rw[e.2]at i4;have:=hq1 i4;rw[i3]at this;exact hx 0 _ this
theorem loopQSR:∀v Q,(LQSR v).wp Q->hloop CQSR anQS (nthLoop Tryz.f79 0) v Q:=by
 intro v Q h;unfold LQSR at h;split at h;case h_2=>exact h.elim
 rename_i v a z y l A J Rp;obtain⟨⟨hp,hr,h0⟩,hq1,hq2⟩:=h;obtain rfl:=List.eq_nil_of_length_eq_zero h0;have hA:1<=A:=hp.1.1;have hJ:1<=J:=by have:=hp.2.1.1;omega
 have hA2:=hp.1.2;refine hloop_rec (σ:=Int×Int×LL) (fun s=>([.ce (I6 s.1), .ce (I6 s.2.1), .ce (.ptr 1000003 0), .ce (.sl false [4] z), .ce (.bool y), .ce (.sl false [4] s.2.2), .ce (.lit true)],[[I6 A,I6 J,I6 Rp]])) (fun s=>4097-s.2.2.length) (fun s=>s.2.2.length<=4096/\qready A J s.1 s.2.1=true/\qst A J 4097 v a=s.2.2++qst A J (4096-s.2.2.length+1) s.1 s.2.1/\qst A J 4096 v a=s.2.2++qst A J (4096-s.2.2.length) s.1 s.2.1/\qsok A J 4096 v a=qsok A J (4096-s.2.2.length) s.1 s.2.1) ?_ (v,a,[]) ⟨Nat.zero_le _,hr,rfl,rfl,rfl⟩;rintro⟨v',a',l⟩⟨i1,i2,i0,i3,i4⟩K hn hx hy;dsimp only at i1 i2 i0 i3 i4 hn⊢;have hv:=qready_v hJ i2;have ha:=qready_iff.mp i2;refine byVB (vbQSR v' a' A J Rp y z l K) ⟨fun g=> ?_,fun g=> ?_⟩
 . have g:=odt g;refine⟨⟨hp,by omega,by omega⟩,fun x1 e1=> ?_⟩;have hr':=qbrk_ready hA hJ i2;rw[<-e1]at hr';have hv':=qready_v hJ hr';refine⟨by omega,fun x2 e2=>⟨⟨by omega,by unfold maxLen;omega⟩,fun g2=> ?_,fun g2=> ?_⟩⟩
   . have g2:=odt g2;rw[List.length_append,List.length_singleton]at g2;have e:4096-l.length=0:=by omega
     rw[e]at i0 i4;rw[(qst_k g).1,<-e1,<-e2]at i0;have hf:qsok A J 4096 v a=false:=by rw[i4];simp[qsok];omega
     have:=hq2 hf;rw[i0]at this;simp only[qst]at this;exact hy _ this
   . have g2:=odf g2;rw[List.length_append,List.length_singleton]at g2;refine hn (x2,x1,l++[[x2]]) ⟨by simp;omega,by rw[e2];exact hr',?_,?_,?_⟩ (by simp;omega)
     . dsimp only;rw[i0,show 4096-l.length=4096-(l++[[x2]]).length+1 by simp;omega,(qst_k g).1,<-e1,<-e2];simp
     . dsimp only;rw[i3,show 4096-l.length=4096-(l++[[x2]]).length+1 by simp;omega,(qst_k g).1,<-e1,<-e2];simp
     . dsimp only;rw[i4,show 4096-l.length=4096-(l++[[x2]]).length+1 by simp;omega,(qst_k g).2,<-e1,<-e2]
 . have g:=odf g;have e:=qst_nil (A:=A) (J:=J) (a:=a') (n:=4096-l.length) g;rw[e.1,List.append_nil]at i3;rw[e.2]at i4;have:=hq1 i4;rw[i3]at this;exact hx 0 _ this
theorem qsp_no{A J v a:Int}(h:qfok A J v a=false):(qsp A J v a,qfok A J v a)=([],false):=by unfold qsp;rw[h];rfl
theorem qsp_yes{A J v a:Int}(h:qfok A J v a=true):(qsp A J v a,qfok A J v a)=(qst A J 4096 v a,true):=by unfold qsp;rw[h];rfl
theorem sQStop:Sound Tryz.prog 75 SQStop:=by
 refine sound_of (C:=CQS) tabQS Tryz.func75 (by kernel_rfl) (by decide+kernel) (by kernel_rfl) rfl ⟨sQValid,sQReady,sQBrake,trivial⟩ (loops1 (by kernel_rfl) (loopOK_of (an:=anQS) (S:=LQS) (by kernel_rfl) loopQS)) ?_;intro hargs pars R h;unfold SQStop at h;split at h;case h_2=>exfalso;exact h
 rename_i A J Rp v a;obtain⟨hp,_,hR⟩:=h;refine byVC (vcQS A J Rp v a R) ⟨trivial,⟨true,by simpa using hp⟩,fun x hx=>⟨fun g=> ?_,fun _=>⟨hp,fun x2 e2=>⟨fun g=> ?_,fun g=>⟨⟨hp,?_,rfl⟩,fun g2=> ?_,fun g2=> ?_⟩⟩⟩⟩⟩
 . rw[hx.2 hp]at g;cases g
 . exact hR ([],false) (qsp_no (by unfold qfok;rw[<-e2];cases x2<;>simp at g⊢)).symm
 . rw[<-e2];cases x2<;>simp at g⊢
 . exact hR (qst A J 4096 v a,true) (qsp_yes (by unfold qfok;rw[<-e2,g2];cases x2<;>simp at g⊢)).symm
 . exact hR ([],false) (qsp_no (by unfold qfok;rw[g2];simp)).symm
theorem sQStopR:Sound Tryz.prog 79 SQStop:=by
 refine sound_of (C:=CQSR) tabQSR Tryz.func79 (by kernel_rfl) (by decide+kernel) (by kernel_rfl) rfl ⟨sQReadyR,sQBrakeR,trivial⟩ (loops1 (by kernel_rfl) (loopOK_of (an:=anQS) (S:=LQSR) (by kernel_rfl) loopQSR)) ?_;intro hargs pars R h;unfold SQStop at h;split at h;case h_2=>exfalso;exact h
 rename_i A J Rp v a;obtain⟨hp,_,hR⟩:=h;refine byVC (vcQSR A J Rp v a R) ⟨hp,fun x2 e2=>⟨fun g=> ?_,fun g=>⟨⟨hp,?_,rfl⟩,fun g2=> ?_,fun g2=> ?_⟩⟩⟩
 . exact hR ([],false) (qsp_no (by unfold qfok;rw[<-e2];cases x2<;>simp at g⊢)).symm
 . rw[<-e2];cases x2<;>simp at g⊢
 . exact hR (qst A J 4096 v a,true) (qsp_yes (by unfold qfok;rw[<-e2,g2];cases x2<;>simp at g⊢)).symm
 . exact hR ([],false) (qsp_no (by unfold qfok;rw[g2];simp)).symm
end Go.Proofs.YthkoabbiiadbjaaGreat
namespace U
open Go
def Sm(B:Int)(l:LL):Prop:=∀j,j<l.length-> -B<=el l j/\el l j<=B
def dfN(l:LL)(n:Nat):LL:=(List.range n).map fun j=>[el l (j+1)-el l j]
def dfl(l:LL):LL:=dfN l (l.length-1)
def bdN(l:LL)(m:Int)(n:Nat):Bool:=allN n fun j=>decide (-m<=el l j/\el l j<=m)
def bdd(l:LL)(m:Int):Bool:=bdN l m l.length
def wth(sp ac je:Int)(l:LL):Bool:=bdd (dfl l) sp&&(bdd (dfl (dfl l)) ac&&bdd (dfl (dfl (dfl l))) je)
def colN(l:LL)(c n:Nat):LL:=(List.range n).map fun i=>[ec l i c]
def col(l:LL)(c:Nat):LL:=colN l c l.length
def Sm3(B:Int)(l:LL):Prop:=∀j,j<l.length->(-B<=ec l j 0/\ec l j 0<=B)/\(-B<=ec l j 1/\ec l j 1<=B)/\(-B<=ec l j 2/\ec l j 2<=B)
def okLi(sp ac je:Int):Prop:=(0<=sp/\sp<=1099511627776)/\(0<=ac/\ac<=1099511627776)/\(0<=je/\je<=1099511627776)
def wth3(s0 a0 j0 s1 a1 j1 s2 a2 j2:Int)(l:LL):Bool:=wth s0 a0 j0 (col l 0)&&(wth s1 a1 j1 (col l 1)&&wth s2 a2 j2 (col l 2))
def colP(l:LL)(c n i:Nat):LL:=colN l c i++List.replicate (n-i) [0]
end U
namespace Go.Proofs.YthkoabbiiadbjaaGreat
open Go Go.HL U
def SDf(hA:List HV)(pA:List (List HC)):SR:=match hA,pA with
 |[.ce (.sl false [4] l)],[]=> .all (l.length<=8192/\Sm 1152921504606846976 l) (LL) (fun x=>x=dfl l) (fun x=>⟨.ce (.sl false [4] x),true,[],[]⟩)
 |_,_=> .fail
def anDf:LAnn:=⟨[0,3,100003,4],[3,100003],[],false⟩
def LDf(v:LV):LR:=match v with
 |([.ce (.sl false [4] l), .ce (.sl false [4] acc), .ce (.lit true), .ce (.int .i64 k)],[])=> .det (acc.length=0/\k=1/\l.length<=8192/\Sm 1152921504606846976 l) (.exit 0) ([.ce (.sl false [4] (dfl l)), .ce (.lit true)],[])
 |_=> .fail
noncomputable def CDf:Ctx:=⟨Tryz.prog,gam [],Tryz.f134.ntmps,[(3,anDf,LDf)],[]⟩
theorem vbDf(l acc:LL)(k:Int)(K:HEx->LV->Prop):(nbodyT true CDf anDf (nthLoop Tryz.f134 0) (([.ce (.sl false [4] l), .ce (.sl false [4] acc), .ce (.lit true), .ce (I6 k)],[])) K)=(Br (k<(l.length:Int)) ((0<=k/\k<(l.length:Int))/\∀x1,x1=el l k.toNat->R6 (k-1)/\∀x2,x2=k-1->(0<=x2/\x2<(l.length:Int))/\∀x3,x3=el l x2.toNat->R6 (x1-x3)/\∀x4,x4=x1-x3->((acc.length+1)*8<=140737488355328/\acc.length+1<=maxLen)/\R6 (k+1)/\∀x5,x5=k+1->K .normal ([.ce (.sl false [4] l), .ce (.sl false [4] (acc++[[x4]])), .ce (.lit true), .ce (I6 x5)],[])) (K (.exit 0) ([.ce (.sl false [4] acc), .ce (.lit true)],[]))):=by kernel_rfl
theorem vcDf(l:LL)(Q:Res->Prop):(nfun true CDf Tryz.f134 (bodyOf Tryz.f134) [.ce (.sl false [4] l)] [] Q)=(((0:Nat)=0/\(1:Int)=1/\l.length<=8192/\Sm (1152921504606846976:Int) l)/\Q ⟨.ce (.sl false [4] (dfl l)),true,[],[]⟩):=by kernel_rfl
def SBd(hA:List HV)(pA:List (List HC)):SR:=match hA,pA with
 |[.ce (.sl false [4] l), .ce (.int .i64 m)],[]=> .det (l.length<=8192/\0<=m/\m<=1099511627776) ⟨.ce (.bool (bdd l m)),false,[],[]⟩
 |_,_=> .fail
def anBd:LAnn:=⟨[1,4,7,8,9],[4],[],false⟩
def LBd(v:LV):LR:=match v with
 |([.ce (.int .i64 m), .ce (.bool r), .ce (.sl false [4] l), .ce (.int .i64 n), .ce (.int .i64 k)],[])=> .alts (k=0/\n=(l.length:Int)/\l.length<=8192/\0<=m/\m<=1099511627776) [(bdd l m=true, .exit 0,([.ce (.bool r)],[])),(bdd l m=false, .ret,([.ce (.bool false)],[]))]
 |_=> .fail
noncomputable def CBd:Ctx:=⟨Tryz.prog,gam [],Tryz.f135.ntmps,[(2,anBd,LBd)],[]⟩
theorem vbBd(m n k:Int)(r:Bool)(l:LL)(K:HEx->LV->Prop):(nbodyT true CBd anBd (nthLoop Tryz.f135 0) (([.ce (I6 m), .ce (.bool r), .ce (.sl false [4] l), .ce (I6 n), .ce (I6 k)],[])) K)=(Br (k<n) ((0<=k/\k<(l.length:Int))/\∀x1,x1=el l k.toNat->Br (x1>m) (K .ret ([.ce (.bool false)],[])) (R6 (0-m)/\∀x2,x2=0-m->Br (x1<x2) (K .ret ([.ce (.bool false)],[])) (R6 (k+1)/\∀x3,x3=k+1->K .normal ([.ce (I6 m), .ce (.bool r), .ce (.sl false [4] l), .ce (I6 n), .ce (I6 x3)],[])))) (K (.exit 0) ([.ce (.bool r)],[]))):=by kernel_rfl
theorem vcBd(l:LL)(m:Int)(Q:Res->Prop):(nfun true CBd Tryz.f135 (bodyOf Tryz.f135) [.ce (.sl false [4] l), .ce (I6 m)] [] Q)=(((0:Int)=0/\(l.length:Int)=(l.length:Int)/\l.length<=8192/\0<=m/\m<=1099511627776)/\Bb (bdd l m) (Q ⟨.ce (.bool true),false,[],[]⟩) (Q ⟨.ce (.bool false),false,[],[]⟩)):=by kernel_rfl
def SWth(hA:List HV)(pA:List (List HC)):SR:=match hA,pA with
 |[.agg [.int .i64 sta, .int .i64 spa, .int .i64 aca, .int .i64 jea, .int .i64 loa, .int .i64 hia, .int .i64 bla, .int .i64 oga, .int .i64 sga, .sl false [4] pta], .ce (.sl false [4] l)],[]=> .det (l.length<=8192/\Sm 1125899906842624 l/\okLi spa aca jea) ⟨.ce (.bool (wth spa aca jea l)),false,[],[]⟩
 |_,_=> .fail
def tabWth:List (FuncId×HL.Spec):=[(134,SDf),(135,SBd)]
noncomputable def CWth:Ctx:=⟨Tryz.prog,gam tabWth,Tryz.f108.ntmps,[(4000002,unrT [1000002],fun _=> .fail)],[]⟩
theorem vcWth(sta spa aca jea loa hia bla oga sga:Int)(pta:LL)(l:LL)(Q:Res->Prop):(nfun true CWth Tryz.f108 (bodyOf Tryz.f108) [.agg [I6 sta,I6 spa,I6 aca,I6 jea,I6 loa,I6 hia,I6 bla,I6 oga,I6 sga, .sl false [4] pta], .ce (.sl false [4] l)] [] Q)=((l.length<=8192/\Sm (1152921504606846976:Int) l)/\(∃(x:LL),x=dfl l)/\∀(x:LL),x=dfl l->(x.length<=8192/\0<=spa/\spa<=1099511627776)/\∀(x2:Bool),x2=bdd x spa->Bb (!x2) (Q ⟨.ce (.bool false),false,[],[]⟩) ((x.length<=8192/\Sm (1152921504606846976:Int) x)/\(∃(x_1:LL),x_1=dfl x)/\∀(x_1:LL),x_1=dfl x->(x_1.length<=8192/\0<=aca/\aca<=1099511627776)/\∀(x4:Bool),x4=bdd x_1 aca->Bb (!x4) (Q ⟨.ce (.bool false),false,[],[]⟩) ((x_1.length<=8192/\Sm (1152921504606846976:Int) x_1)/\(∃(x:LL),x=dfl x_1)/\∀(x:LL),x=dfl x_1->(x.length<=8192/\0<=jea/\jea<=1099511627776)/\∀(x6:Bool),x6=bdd x jea->Bb (!x6) (Q ⟨.ce (.bool false),false,[],[]⟩) (Q ⟨.ce (.bool true),false,[],[]⟩)))):=by kernel_rfl
def SAll(hA:List HV)(pA:List (List HC)):SR:=match hA,pA with
 |[.agg ax, .ce (.sl false [4,4,4] l)],[]=>match ax with
  |[.int .i64 sta, .int .i64 spa, .int .i64 aca, .int .i64 jea, .int .i64 loa, .int .i64 hia, .int .i64 bla, .int .i64 oga, .int .i64 sga, .sl false [4] pta, .int .i64 stb, .int .i64 spb, .int .i64 acb, .int .i64 jeb, .int .i64 lob, .int .i64 hib, .int .i64 blb, .int .i64 ogb, .int .i64 sgb, .sl false [4] ptb, .int .i64 stc, .int .i64 spc, .int .i64 acc, .int .i64 jec, .int .i64 loc, .int .i64 hic, .int .i64 blc, .int .i64 ogc, .int .i64 sgc, .sl false [4] ptc]=> .det (l.length<=8192/\Sm3 1125899906842624 l/\okLi spa aca jea/\okLi spb acb jeb/\okLi spc acc jec) ⟨.ce (.bool (wth3 spa aca jea spb acb jeb spc acc jec l)),false,[],[]⟩
  |_=> .fail
 |_,_=> .fail
def anAll:LAnn:=⟨[1,2,4,5,6,8,15,16],[1,2,4,5,6,8],[1000002,1000013],fun s=>Nat.beq s 5||Nat.beq s 8⟩
def LAll(v:LV):LR:=match v with
 |([.ce (.sl false [4,4,4] l), .ce (.ptr 1000002 0), .ce (.bool r), .ce (.num .i64 j), .ce (.msl 1000013 n cap), .ce (.num .i64 j2), .ce (.int .i64 len), .ce (.int .i64 k)],[b,[.arr [4] rows d]])=>(match b with
  |[.int .i64 sta, .int .i64 spa, .int .i64 aca, .int .i64 jea, .int .i64 loa, .int .i64 hia, .int .i64 bla, .int .i64 oga, .int .i64 sga, .sl false [4] pta, .int .i64 stb, .int .i64 spb, .int .i64 acb, .int .i64 jeb, .int .i64 lob, .int .i64 hib, .int .i64 blb, .int .i64 ogb, .int .i64 sgb, .sl false [4] ptb, .int .i64 stc, .int .i64 spc, .int .i64 acc, .int .i64 jec, .int .i64 loc, .int .i64 hic, .int .i64 blc, .int .i64 ogc, .int .i64 sgc, .sl false [4] ptc]=> .det ((0<=j/\j<=2)/\rows=List.replicate l.length [0]/\n=l.length/\len=l.length/\k=0/\l.length<=8192) (.exit 2) ([.ce (.sl false [4,4,4] l), .ce (.ptr 1000002 0), .ce (.bool r), .ce (.num .i64 j), .ce (.msl 1000013 n cap), .ce (.num .i64 j2)],[[I6 sta,I6 spa,I6 aca,I6 jea,I6 loa,I6 hia,I6 bla,I6 oga,I6 sga, .sl false [4] pta,I6 stb,I6 spb,I6 acb,I6 jeb,I6 lob,I6 hib,I6 blb,I6 ogb,I6 sgb, .sl false [4] ptb,I6 stc,I6 spc,I6 acc,I6 jec,I6 loc,I6 hic,I6 blc,I6 ogc,I6 sgc, .sl false [4] ptc],[.arr [4] (col l j.toNat) d]])
  |_=> .fail)
 |_=> .fail
def tabAll:List (FuncId×HL.Spec):=[(108,SWth)]
noncomputable def CAll:Ctx:=⟨Tryz.prog,gam tabAll,Tryz.f78.ntmps,[(4000002,unrT [1000002],fun _=> .fail),(6,anAll,LAll)],[32]⟩
theorem vbAll0(l rows:LL)(r:Bool)(j2 len k:Int)(n cap d:Nat)(sta spa aca jea loa hia bla oga sga stb spb acb jeb lob hib blb ogb sgb stc spc acc jec loc hic blc ogc sgc:Int)(pta ptb ptc:LL)(K:HEx->LV->Prop):(nbodyT true CAll anAll (nthLoop Tryz.f78 1) (([.ce (.sl false [4,4,4] l), .ce (.ptr 1000002 0), .ce (.bool r), .ce (.num .i64 0), .ce (.msl 1000013 n cap), .ce (.num .i64 j2), .ce (I6 len), .ce (I6 k)],[[I6 sta,I6 spa,I6 aca,I6 jea,I6 loa,I6 hia,I6 bla,I6 oga,I6 sga, .sl false [4] pta,I6 stb,I6 spb,I6 acb,I6 jeb,I6 lob,I6 hib,I6 blb,I6 ogb,I6 sgb, .sl false [4] ptb,I6 stc,I6 spc,I6 acc,I6 jec,I6 loc,I6 hic,I6 blc,I6 ogc,I6 sgc, .sl false [4] ptc],[.arr [4] rows d]])) K)=(Br (k<len) ((0<=k/\k<(l.length:Int))/\∀x1,x1=el l k.toNat->(0<=k/\k<((n:Nat):Int))/\k.toNat<rows.length/\R6 (k+1)/\∀x2,x2=k+1->K .normal ([.ce (.sl false [4,4,4] l), .ce (.ptr 1000002 0), .ce (.bool r), .ce (.num .i64 0), .ce (.msl (1000013:Nat) n cap), .ce (.num .i64 j2), .ce (I6 len), .ce (I6 x2)],[[I6 sta,I6 spa,I6 aca,I6 jea,I6 loa,I6 hia,I6 bla,I6 oga,I6 sga, .sl false [4] pta,I6 stb,I6 spb,I6 acb,I6 jeb,I6 lob,I6 hib,I6 blb,I6 ogb,I6 sgb, .sl false [4] ptb,I6 stc,I6 spc,I6 acc,I6 jec,I6 loc,I6 hic,I6 blc,I6 ogc,I6 sgc, .sl false [4] ptc],[.arr [4] (List.set rows k.toNat [bif true&&true then x1 else el rows k.toNat]) d]])) (K (.exit 2) ([.ce (.sl false [4,4,4] l), .ce (.ptr 1000002 0), .ce (.bool r), .ce (.num .i64 0), .ce (.msl (1000013:Nat) n cap), .ce (.num .i64 j2)],[[I6 sta,I6 spa,I6 aca,I6 jea,I6 loa,I6 hia,I6 bla,I6 oga,I6 sga, .sl false [4] pta,I6 stb,I6 spb,I6 acb,I6 jeb,I6 lob,I6 hib,I6 blb,I6 ogb,I6 sgb, .sl false [4] ptb,I6 stc,I6 spc,I6 acc,I6 jec,I6 loc,I6 hic,I6 blc,I6 ogc,I6 sgc, .sl false [4] ptc],[.arr [4] rows d]]))):=by kernel_rfl
theorem vbAll1(l rows:LL)(r:Bool)(j2 len k:Int)(n cap d:Nat)(sta spa aca jea loa hia bla oga sga stb spb acb jeb lob hib blb ogb sgb stc spc acc jec loc hic blc ogc sgc:Int)(pta ptb ptc:LL)(K:HEx->LV->Prop):(nbodyT true CAll anAll (nthLoop Tryz.f78 1) (([.ce (.sl false [4,4,4] l), .ce (.ptr 1000002 0), .ce (.bool r), .ce (.num .i64 1), .ce (.msl 1000013 n cap), .ce (.num .i64 j2), .ce (I6 len), .ce (I6 k)],[[I6 sta,I6 spa,I6 aca,I6 jea,I6 loa,I6 hia,I6 bla,I6 oga,I6 sga, .sl false [4] pta,I6 stb,I6 spb,I6 acb,I6 jeb,I6 lob,I6 hib,I6 blb,I6 ogb,I6 sgb, .sl false [4] ptb,I6 stc,I6 spc,I6 acc,I6 jec,I6 loc,I6 hic,I6 blc,I6 ogc,I6 sgc, .sl false [4] ptc],[.arr [4] rows d]])) K)=(Br (k<len) ((0<=k/\k<(l.length:Int))/\∀x1,x1=ec l k.toNat 1->(0<=k/\k<((n:Nat):Int))/\k.toNat<rows.length/\R6 (k+1)/\∀x2,x2=k+1->K .normal ([.ce (.sl false [4,4,4] l), .ce (.ptr 1000002 0), .ce (.bool r), .ce (.num .i64 1), .ce (.msl (1000013:Nat) n cap), .ce (.num .i64 j2), .ce (I6 len), .ce (I6 x2)],[[I6 sta,I6 spa,I6 aca,I6 jea,I6 loa,I6 hia,I6 bla,I6 oga,I6 sga, .sl false [4] pta,I6 stb,I6 spb,I6 acb,I6 jeb,I6 lob,I6 hib,I6 blb,I6 ogb,I6 sgb, .sl false [4] ptb,I6 stc,I6 spc,I6 acc,I6 jec,I6 loc,I6 hic,I6 blc,I6 ogc,I6 sgc, .sl false [4] ptc],[.arr [4] (List.set rows k.toNat [bif true&&true then x1 else el rows k.toNat]) d]])) (K (.exit 2) ([.ce (.sl false [4,4,4] l), .ce (.ptr 1000002 0), .ce (.bool r), .ce (.num .i64 1), .ce (.msl (1000013:Nat) n cap), .ce (.num .i64 j2)],[[I6 sta,I6 spa,I6 aca,I6 jea,I6 loa,I6 hia,I6 bla,I6 oga,I6 sga, .sl false [4] pta,I6 stb,I6 spb,I6 acb,I6 jeb,I6 lob,I6 hib,I6 blb,I6 ogb,I6 sgb, .sl false [4] ptb,I6 stc,I6 spc,I6 acc,I6 jec,I6 loc,I6 hic,I6 blc,I6 ogc,I6 sgc, .sl false [4] ptc],[.arr [4] rows d]]))):=by kernel_rfl
theorem vbAll2(l rows:LL)(r:Bool)(j2 len k:Int)(n cap d:Nat)(sta spa aca jea loa hia bla oga sga stb spb acb jeb lob hib blb ogb sgb stc spc acc jec loc hic blc ogc sgc:Int)(pta ptb ptc:LL)(K:HEx->LV->Prop):(nbodyT true CAll anAll (nthLoop Tryz.f78 1) (([.ce (.sl false [4,4,4] l), .ce (.ptr 1000002 0), .ce (.bool r), .ce (.num .i64 2), .ce (.msl 1000013 n cap), .ce (.num .i64 j2), .ce (I6 len), .ce (I6 k)],[[I6 sta,I6 spa,I6 aca,I6 jea,I6 loa,I6 hia,I6 bla,I6 oga,I6 sga, .sl false [4] pta,I6 stb,I6 spb,I6 acb,I6 jeb,I6 lob,I6 hib,I6 blb,I6 ogb,I6 sgb, .sl false [4] ptb,I6 stc,I6 spc,I6 acc,I6 jec,I6 loc,I6 hic,I6 blc,I6 ogc,I6 sgc, .sl false [4] ptc],[.arr [4] rows d]])) K)=(Br (k<len) ((0<=k/\k<(l.length:Int))/\∀x1,x1=ec l k.toNat 2->(0<=k/\k<((n:Nat):Int))/\k.toNat<rows.length/\R6 (k+1)/\∀x2,x2=k+1->K .normal ([.ce (.sl false [4,4,4] l), .ce (.ptr 1000002 0), .ce (.bool r), .ce (.num .i64 2), .ce (.msl (1000013:Nat) n cap), .ce (.num .i64 j2), .ce (I6 len), .ce (I6 x2)],[[I6 sta,I6 spa,I6 aca,I6 jea,I6 loa,I6 hia,I6 bla,I6 oga,I6 sga, .sl false [4] pta,I6 stb,I6 spb,I6 acb,I6 jeb,I6 lob,I6 hib,I6 blb,I6 ogb,I6 sgb, .sl false [4] ptb,I6 stc,I6 spc,I6 acc,I6 jec,I6 loc,I6 hic,I6 blc,I6 ogc,I6 sgc, .sl false [4] ptc],[.arr [4] (List.set rows k.toNat [bif true&&true then x1 else el rows k.toNat]) d]])) (K (.exit 2) ([.ce (.sl false [4,4,4] l), .ce (.ptr 1000002 0), .ce (.bool r), .ce (.num .i64 2), .ce (.msl (1000013:Nat) n cap), .ce (.num .i64 j2)],[[I6 sta,I6 spa,I6 aca,I6 jea,I6 loa,I6 hia,I6 bla,I6 oga,I6 sga, .sl false [4] pta,I6 stb,I6 spb,I6 acb,I6 jeb,I6 lob,I6 hib,I6 blb,I6 ogb,I6 sgb, .sl false [4] ptb,I6 stc,I6 spc,I6 acc,I6 jec,I6 loc,I6 hic,I6 blc,I6 ogc,I6 sgc, .sl false [4] ptc],[.arr [4] rows d]]))):=by kernel_rfl
theorem vcAll(l:LL)(sta spa aca jea loa hia bla oga sga stb spb acb jeb lob hib blb ogb sgb stc spc acc jec loc hic blc ogc sgc:Int)(pta ptb ptc:LL)(Q:Res->Prop):(nfun true CAll Tryz.f78 (bodyOf Tryz.f78) [.agg [I6 sta,I6 spa,I6 aca,I6 jea,I6 loa,I6 hia,I6 bla,I6 oga,I6 sga, .sl false [4] pta,I6 stb,I6 spb,I6 acb,I6 jeb,I6 lob,I6 hib,I6 blb,I6 ogb,I6 sgb, .sl false [4] ptb,I6 stc,I6 spc,I6 acc,I6 jec,I6 loc,I6 hic,I6 blc,I6 ogc,I6 sgc, .sl false [4] ptc], .ce (.sl false [4,4,4] l)] [] Q)=(((0:Int)<=(l.length:Int)/\(l.length:Int)=(l.length:Int)/\(l.length:Int)<=140737488355328/\(l.length:Int)*8<=140737488355328)/\(((0:Int)<=0/\(0:Int)<=2)/\List.replicate (Int.toNat (l.length:Int)) [(0:Int)]=List.replicate (l.length) [(0:Int)]/\Int.toNat (l.length:Int)=l.length/\(l.length:Int)=(l.length:Int)/\(0:Int)=0/\l.length<=8192)/\Int.toNat (l.length:Int)=List.length (col l (0:Nat))/\(List.length (col l (0:Nat))<=8192/\Sm (1125899906842624:Int) (col l (0:Nat))/\okLi spa aca jea)/\∀(x1:Bool),x1=wth spa aca jea (col l (0:Nat))->Bb (!x1) (Q ⟨.ce (.bool false),false,[],[]⟩) (((0:Int)<=(l.length:Int)/\(l.length:Int)=(l.length:Int)/\(l.length:Int)<=140737488355328/\(l.length:Int)*8<=140737488355328)/\(((0:Int)<=1/\(1:Int)<=2)/\List.replicate (Int.toNat (l.length:Int)) [(0:Int)]=List.replicate (l.length) [(0:Int)]/\Int.toNat (l.length:Int)=l.length/\(l.length:Int)=(l.length:Int)/\(0:Int)=0/\l.length<=8192)/\Int.toNat (l.length:Int)=List.length (col l (1:Nat))/\(List.length (col l (1:Nat))<=8192/\Sm (1125899906842624:Int) (col l (1:Nat))/\okLi spb acb jeb)/\∀(x2:Bool),x2=wth spb acb jeb (col l (1:Nat))->Bb (!x2) (Q ⟨.ce (.bool false),false,[],[]⟩) (((0:Int)<=(l.length:Int)/\(l.length:Int)=(l.length:Int)/\(l.length:Int)<=140737488355328/\(l.length:Int)*8<=140737488355328)/\(((0:Int)<=2/\(2:Int)<=2)/\List.replicate (Int.toNat (l.length:Int)) [(0:Int)]=List.replicate (l.length) [(0:Int)]/\Int.toNat (l.length:Int)=l.length/\(l.length:Int)=(l.length:Int)/\(0:Int)=0/\l.length<=8192)/\Int.toNat (l.length:Int)=List.length (col l (2:Nat))/\(List.length (col l (2:Nat))<=8192/\Sm (1125899906842624:Int) (col l (2:Nat))/\okLi spc acc jec)/\∀(x3:Bool),x3=wth spc acc jec (col l (2:Nat))->Bb (!x3) (Q ⟨.ce (.bool false),false,[],[]⟩) (Q ⟨.ce (.bool true),false,[],[]⟩)))):=by kernel_rfl
end Go.Proofs.YthkoabbiiadbjaaGreat
namespace U
theorem dfN_succ(l:LL)(n:Nat):dfN l (n+1)=dfN l n++[[el l (n+1)-el l n]]:=by
 unfold dfN;rw[List.range_succ,List.map_append];rfl
theorem dfN_len(l:LL)(n:Nat):(dfN l n).length=n:=by simp[dfN]
theorem dfl_len(l:LL):(dfl l).length=l.length-1:=dfN_len _ _
theorem el_dfN{l:LL}{n j:Nat}(h:j<n):el (dfN l n) j=el l (j+1)-el l j:=by
 unfold dfN el;simp[List.getD_eq_getElem?_getD,h]
theorem el_dfl{l:LL}{j:Nat}(h:j+1<l.length):el (dfl l) j=el l (j+1)-el l j:=el_dfN (by omega)
theorem Sm_dfl{B:Int}{l:LL}(h:Sm B l):Sm (2*B) (dfl l):=fun j hj=>by
 rw[dfl_len]at hj;rw[el_dfl (by omega)];have a:=h j (by omega);have b:=h (j+1) (by omega);omega
theorem Sm_mono{B C:Int}{l:LL}(hB:B<=C)(h:Sm B l):Sm C l:=fun j hj=>by have:=h j hj;omega
theorem col_len(l:LL)(c:Nat):(col l c).length=l.length:=by simp[col,colN]
theorem el_colN{l:LL}{c n j:Nat}(h:j<n):el (colN l c n) j=ec l j c:=by
 unfold colN el;simp[List.getD_eq_getElem?_getD,h]
theorem el_col{l:LL}{c j:Nat}(h:j<l.length):el (col l c) j=ec l j c:=el_colN h
theorem Sm_col{B:Int}{l:LL}(h:Sm3 B l):Sm B (col l 0)/\Sm B (col l 1)/\Sm B (col l 2):=by
 refine⟨fun j hj=> ?_,fun j hj=> ?_,fun j hj=> ?_⟩;all_goals
  rw[col_len]at hj;rw[el_col hj];have:=h j hj;omega
theorem colN_succ(l:LL)(c n:Nat):colN l c (n+1)=colN l c n++[[ec l n c]]:=by
 unfold colN;rw[List.range_succ,List.map_append];rfl
theorem colP_set{l:LL}{c n i:Nat}(h:i<n):(colP l c n i).set i [ec l i c]=colP l c n (i+1):=by
 unfold colP;have hl:(colN l c i).length=i:=by simp[colN]
 rw[List.set_append_right _ _ (by omega),hl,Nat.sub_self,show n-i=(n-(i+1))+1 by omega,List.replicate_succ,List.set_cons_zero,colN_succ];simp
theorem colP_len{l:LL}{c n i:Nat}(h:i<=n):(colP l c n i).length=n:=by simp[colP,colN];omega
theorem colP_all(l:LL)(c:Nat):colP l c l.length l.length=col l c:=by simp[colP,col]
theorem colP_none(l:LL)(c:Nat):colP l c l.length 0=List.replicate l.length [0]:=by simp[colP,colN]
end U
namespace Go.Proofs.YthkoabbiiadbjaaGreat
open Go Go.HL U
attribute [local irreducible] hfun bodyT fragT
theorem loopDf:∀v Q,(LDf v).wp Q->hloop CDf anDf (nthLoop Tryz.f134 0) v Q:=by
 intro v Q h;unfold LDf at h;split at h;case h_2=>exact h.elim
 rename_i l acc k;obtain⟨⟨h1,h2,h3,h4⟩,hq⟩:=h;subst h2;obtain rfl:acc=[]:=List.eq_nil_of_length_eq_zero h1;refine hloop_rec (σ:=Nat) (fun j=>([.ce (.sl false [4] l), .ce (.sl false [4] (dfN l j)), .ce (.lit true), .ce (I6 ((j:Int)+1))],[])) (fun j=>l.length-j) (fun j=>j<=l.length-1) ?_ 0 (Nat.zero_le _);intro j hj K hn he _;refine byVB (vbDf l (dfN l j) ((j:Int)+1) K) ⟨fun g=> ?_,fun g=> ?_⟩
 . have g:=odt g;refine⟨by omega,fun x1 e1=>⟨by omega,fun x2 e2=>⟨by omega,fun x3 e3=> ?_⟩⟩⟩;rw[show((j:Int)+1).toNat=j+1 by omega]at e1;rw[show x2.toNat=j by omega]at e3;have a:=h4 j (by omega);have b:=h4 (j+1) (by omega);refine⟨by omega,fun x4 e4=>⟨⟨by rw[dfN_len];omega,by rw[dfN_len];unfold maxLen;omega⟩,by omega,fun x5 e5=> ?_⟩⟩;have:=hn (j+1) (by omega) (by omega);rw[dfN_succ,show((j+1:Nat):Int)+1=x5 by omega,show el l (j+1)-el l j=x4 by omega]at this;exact this
 . have g:=odf g;refine he _ _ ?_;obtain rfl:j=l.length-1:=by omega
   exact hq
theorem sDf:Sound Tryz.prog 134 SDf:=by
 refine sound_of (C:=CDf) [] Tryz.func134 (by kernel_rfl) (by decide+kernel) (by kernel_rfl) rfl trivial (loops1 (by kernel_rfl) (loopOK_of (an:=anDf) (S:=LDf) (by kernel_rfl) loopDf)) ?_;intro hA pA R h;unfold SDf at h;split at h;case h_2=>exfalso;exact h
 rename_i l;obtain⟨hp,_,hR⟩:=h;exact byVC (vcDf l R) ⟨⟨rfl,rfl,hp⟩,hR _ rfl⟩
theorem loopBd:∀v Q,(LBd v).wp Q->hloop CBd anBd (nthLoop Tryz.f135 0) v Q:=by
 intro v Q h;unfold LBd at h;split at h;case h_2=>exact h.elim
 rename_i m r l n k;obtain⟨⟨h1,h2,h3,h4⟩,hq1,hq2⟩:=h;subst h1 h2;refine hloop_rec (σ:=Nat) (fun j=>([.ce (I6 m), .ce (.bool r), .ce (.sl false [4] l), .ce (I6 (l.length:Int)), .ce (I6 (j:Int))],[])) (fun j=>l.length-j) (fun j=>j<=l.length/\bdN l m j=true) ?_ 0 ⟨Nat.zero_le _,rfl⟩;intro j⟨hj,hp⟩K hn he hr;have bad:j<l.length->¬(-m<=el l j/\el l j<=m)->K .ret ([.ce (.bool false)],[]):=fun hlt hx=>hr _ (hq2 (allN_false hlt (decide_eq_false hx)));refine byVB (vbBd m l.length j r l K) ⟨fun g=>⟨by have:=odt g;omega,fun x1 e1=> ?_⟩,fun g=> ?_⟩
 . have g:=odt g;have e1:x1=el l j:=e1;refine⟨fun g2=>bad (by omega) (by have:=odt g2;omega),fun g2=>⟨by omega,fun x2 e2=>⟨fun g3=>bad (by omega) (by have:=odt g3;omega),fun g3=>⟨by omega,fun x3 e3=> ?_⟩⟩⟩⟩;have g2:=odf g2;have g3:=odf g3;have:=hn (j+1) ⟨by omega,by unfold bdN at hp⊢;rw[allN_succ,hp];simp;omega⟩ (by omega);rw[show((j+1:Nat):Int)=x3 by omega]at this;exact this
 . have g:=odf g;obtain rfl:j=l.length:=by omega
   exact he _ _ (hq1 hp)
theorem sBd:Sound Tryz.prog 135 SBd:=by
 refine sound_of (C:=CBd) [] Tryz.func135 (by kernel_rfl) (by decide+kernel) (by kernel_rfl) rfl trivial (loops1 (by kernel_rfl) (loopOK_of (an:=anBd) (S:=LBd) (by kernel_rfl) loopBd)) ?_;intro hA pA R h;unfold SBd at h;split at h;case h_2=>exfalso;exact h
 rename_i l m;obtain⟨hp,hR⟩:=h;exact byVC (vcBd l m R) ⟨⟨rfl,rfl,hp⟩,fun e=>by rw[e]at hR;exact hR,fun e=>by rw[e]at hR;exact hR⟩
theorem sWth:Sound Tryz.prog 108 SWth:=by
 refine sound_of (C:=CWth) tabWth Tryz.func108 (by kernel_rfl) (by decide+kernel) (by kernel_rfl) rfl ⟨sDf,sBd,trivial⟩ (loopsAll (by kernel_rfl)) ?_;intro hA pA R h;unfold SWth at h;split at h;case h_2=>exfalso;exact h
 rename_i sta spa aca jea loa hia bla oga sga pta l;obtain⟨⟨hl,hs,hli⟩,hR⟩:=h;have s1:=Sm_dfl hs;have s2:=Sm_dfl s1;refine byVC (vcWth sta spa aca jea loa hia bla oga sga pta l R) ⟨⟨hl,Sm_mono (by decide) hs⟩,⟨_,rfl⟩,fun x e=> ?_⟩;subst e;refine⟨⟨by rw[dfl_len];omega,hli.1⟩,fun x2 e2=>⟨fun g=> ?_,fun g=>⟨⟨by rw[dfl_len];omega,Sm_mono (by decide) s1⟩,⟨_,rfl⟩,fun y e=> ?_⟩⟩⟩
 . rw[show wth spa aca jea l=false by unfold wth;rw[<-e2];cases x2<;>simp at g⊢]at hR;exact hR
 subst e;refine⟨⟨by rw[dfl_len,dfl_len];omega,hli.2.1⟩,fun x4 e4=>⟨fun g4=> ?_,fun g4=>⟨⟨by rw[dfl_len,dfl_len];omega,Sm_mono (by decide) s2⟩,⟨_,rfl⟩,fun z e=> ?_⟩⟩⟩
 . rw[show wth spa aca jea l=false by unfold wth;rw[<-e4];cases x4<;>simp at g4⊢]at hR;exact hR
 subst e;have w:∀b:Bool,b=bdd (dfl (dfl (dfl l))) jea->wth spa aca jea l=b:=fun b hb=>by unfold wth;rw[<-e2,<-e4,<-hb];cases x2<;>cases x4<;>simp at g g4⊢
 refine⟨⟨by rw[dfl_len,dfl_len,dfl_len];omega,hli.2.2⟩,fun x6 e6=>⟨fun g6=> ?_,fun g6=> ?_⟩⟩
 . rw[w x6 e6]at hR;cases x6<;>simp at g6;exact hR
 . rw[w x6 e6]at hR;cases x6<;>simp at g6;exact hR
theorem loopAll:∀v Q,(LAll v).wp Q->hloop CAll anAll (nthLoop Tryz.f78 1) v Q:=by
 intro v Q h;unfold LAll at h;split at h;case h_2=>exact h.elim
 rename_i l r j n cap j2 len k b rows d;split at h;case h_2=>exact h.elim
 rename_i sta spa aca jea loa hia bla oga sga pta stb spb acb jeb lob hib blb ogb sgb ptb stc spc acc jec loc hic blc ogc sgc ptc;obtain⟨⟨h1,h2,h3,h4,h5,h6⟩,hq⟩:=h;subst h2 h3 h4 h5;have hj:j=0∨j=1∨j=2:=by omega
 rcases hj with rfl|rfl|rfl
 . rw[<-colP_none l 0];refine hloop_rec (σ:=Nat) (fun i=>([.ce (.sl false [4,4,4] l), .ce (.ptr 1000002 0), .ce (.bool r), .ce (.num .i64 0), .ce (.msl 1000013 l.length cap), .ce (.num .i64 j2), .ce (I6 (l.length:Int)), .ce (I6 (i:Int))],[[I6 sta,I6 spa,I6 aca,I6 jea,I6 loa,I6 hia,I6 bla,I6 oga,I6 sga, .sl false [4] pta,I6 stb,I6 spb,I6 acb,I6 jeb,I6 lob,I6 hib,I6 blb,I6 ogb,I6 sgb, .sl false [4] ptb,I6 stc,I6 spc,I6 acc,I6 jec,I6 loc,I6 hic,I6 blc,I6 ogc,I6 sgc, .sl false [4] ptc],[.arr [4] (colP l 0 l.length i) d]])) (fun i=>l.length-i) (fun i=>i<=l.length) ?_ 0 (Nat.zero_le _);intro i hi K hn he hr;refine byVB (vbAll0 l (colP l 0 l.length i) r j2 l.length i l.length cap d sta spa aca jea loa hia bla oga sga stb spb acb jeb lob hib blb ogb sgb stc spc acc jec loc hic blc ogc sgc pta ptb ptc K) ⟨fun c=> ?_,fun c=> ?_⟩
   . have c:=odt c;refine⟨by omega,fun x1 e1=>⟨by omega,by rw[colP_len hi];omega,by omega,fun x2 e2=> ?_⟩⟩;have g:=hn (i+1) (by omega) (by omega);rw[<-colP_set (by omega),show((i+1:Nat):Int)=x2 by omega]at g;rw[e1];exact g
   . have c:=odf c;obtain rfl:i=l.length:=by omega
     rw[colP_all];exact he _ _ hq
 . rw[<-colP_none l 1];refine hloop_rec (σ:=Nat) (fun i=>([.ce (.sl false [4,4,4] l), .ce (.ptr 1000002 0), .ce (.bool r), .ce (.num .i64 1), .ce (.msl 1000013 l.length cap), .ce (.num .i64 j2), .ce (I6 (l.length:Int)), .ce (I6 (i:Int))],[[I6 sta,I6 spa,I6 aca,I6 jea,I6 loa,I6 hia,I6 bla,I6 oga,I6 sga, .sl false [4] pta,I6 stb,I6 spb,I6 acb,I6 jeb,I6 lob,I6 hib,I6 blb,I6 ogb,I6 sgb, .sl false [4] ptb,I6 stc,I6 spc,I6 acc,I6 jec,I6 loc,I6 hic,I6 blc,I6 ogc,I6 sgc, .sl false [4] ptc],[.arr [4] (colP l 1 l.length i) d]])) (fun i=>l.length-i) (fun i=>i<=l.length) ?_ 0 (Nat.zero_le _);intro i hi K hn he hr;refine byVB (vbAll1 l (colP l 1 l.length i) r j2 l.length i l.length cap d sta spa aca jea loa hia bla oga sga stb spb acb jeb lob hib blb ogb sgb stc spc acc jec loc hic blc ogc sgc pta ptb ptc K) ⟨fun c=> ?_,fun c=> ?_⟩
   . have c:=odt c;refine⟨by omega,fun x1 e1=>⟨by omega,by rw[colP_len hi];omega,by omega,fun x2 e2=> ?_⟩⟩;have g:=hn (i+1) (by omega) (by omega);rw[<-colP_set (by omega),show((i+1:Nat):Int)=x2 by omega]at g;rw[e1];exact g
   . have c:=odf c;obtain rfl:i=l.length:=by omega
     rw[colP_all];exact he _ _ hq
 . rw[<-colP_none l 2];refine hloop_rec (σ:=Nat) (fun i=>([.ce (.sl false [4,4,4] l), .ce (.ptr 1000002 0), .ce (.bool r), .ce (.num .i64 2), .ce (.msl 1000013 l.length cap), .ce (.num .i64 j2), .ce (I6 (l.length:Int)), .ce (I6 (i:Int))],[[I6 sta,I6 spa,I6 aca,I6 jea,I6 loa,I6 hia,I6 bla,I6 oga,I6 sga, .sl false [4] pta,I6 stb,I6 spb,I6 acb,I6 jeb,I6 lob,I6 hib,I6 blb,I6 ogb,I6 sgb, .sl false [4] ptb,I6 stc,I6 spc,I6 acc,I6 jec,I6 loc,I6 hic,I6 blc,I6 ogc,I6 sgc, .sl false [4] ptc],[.arr [4] (colP l 2 l.length i) d]])) (fun i=>l.length-i) (fun i=>i<=l.length) ?_ 0 (Nat.zero_le _);intro i hi K hn he hr;refine byVB (vbAll2 l (colP l 2 l.length i) r j2 l.length i l.length cap d sta spa aca jea loa hia bla oga sga stb spb acb jeb lob hib blb ogb sgb stc spc acc jec loc hic blc ogc sgc pta ptb ptc K) ⟨fun c=> ?_,fun c=> ?_⟩
   . have c:=odt c;refine⟨by omega,fun x1 e1=>⟨by omega,by rw[colP_len hi];omega,by omega,fun x2 e2=> ?_⟩⟩;have g:=hn (i+1) (by omega) (by omega);rw[<-colP_set (by omega),show((i+1:Nat):Int)=x2 by omega]at g;rw[e1];exact g
   . have c:=odf c;obtain rfl:i=l.length:=by omega
     rw[colP_all];exact he _ _ hq
theorem sAll:Sound Tryz.prog 78 SAll:=by
 refine sound_of (C:=CAll) tabAll Tryz.func78 (by kernel_rfl) (by decide+kernel) (by kernel_rfl) rfl ⟨sWth,trivial⟩ (loopsK [nthLoop Tryz.f78 1] [] (by kernel_rfl) (by kernel_rfl) ⟨loopOK_of (an:=anAll) (S:=LAll) (by kernel_rfl) loopAll,trivial⟩ trivial) ?_;intro hA pA R h;unfold SAll at h;split at h;case h_2=>exfalso;exact h
 rename_i ax l;split at h;case h_2=>exact h.elim
 rename_i sta spa aca jea loa hia bla oga sga pta stb spb acb jeb lob hib blb ogb sgb ptb stc spc acc jec loc hic blc ogc sgc ptc;obtain⟨⟨hl,hs,h0,h1,h2⟩,hR⟩:=h;obtain⟨c0,c1,c2⟩:=Sm_col hs;have pre:∀(j:Int),0<=j->j<=2->(0<=j/\j<=2)/\List.replicate (Int.toNat (l.length:Int)) [(0:Int)]=List.replicate l.length [0]/\Int.toNat (l.length:Int)=l.length/\(l.length:Int)=(l.length:Int)/\(0:Int)=0/\l.length<=8192:=fun j a b=>⟨⟨a,b⟩,rfl,rfl,rfl,rfl,hl⟩;have ln:(0<=(l.length:Int)/\(l.length:Int)=(l.length:Int)/\(l.length:Int)<=140737488355328/\(l.length:Int)*8<=140737488355328):=by omega
 refine byVC (vcAll l sta spa aca jea loa hia bla oga sga stb spb acb jeb lob hib blb ogb sgb stc spc acc jec loc hic blc ogc sgc pta ptb ptc R) ⟨ln,pre 0 (by decide) (by decide),by rw[col_len];rfl,⟨by rw[col_len];exact hl,c0,h0⟩,fun x1 e1=>⟨fun g=> ?_,fun g=>⟨ln,pre 1 (by decide) (by decide),by rw[col_len];rfl,⟨by rw[col_len];exact hl,c1,h1⟩,fun x2 e2=>⟨fun g2=> ?_,fun g2=>⟨ln,pre 2 (by decide) (by decide),by rw[col_len];rfl,⟨by rw[col_len];exact hl,c2,h2⟩,fun x3 e3=> ?_⟩⟩⟩⟩⟩
 . rw[show wth3 spa aca jea spb acb jeb spc acc jec l=false by unfold wth3;rw[<-e1];cases x1<;>simp at g⊢]at hR;exact hR
 . rw[show wth3 spa aca jea spb acb jeb spc acc jec l=false by unfold wth3;rw[<-e2];cases x2<;>simp at g2⊢]at hR;exact hR
 . have w:wth3 spa aca jea spb acb jeb spc acc jec l=x3:=by unfold wth3;rw[<-e1,<-e2,<-e3];cases x1<;>cases x2<;>simp at g g2⊢
   rw[w]at hR;refine⟨fun g3=> ?_,fun g3=> ?_⟩
   . cases x3<;>simp at g3;exact hR
   . cases x3<;>simp at g3;exact hR
end Go.Proofs.YthkoabbiiadbjaaGreat
namespace U
open Go
def qsm(l:LL):Nat->Int
 |0=>0
 |k+1=>qsm l k+el l k
def qcumN(u:Int)(l:LL)(n:Nat):LL:=(List.range n).map fun k=>[u+qsm l (k+1)]
def qcum(u:Int)(l:LL):LL:=qcumN u l l.length
def qcumP(u:Int)(l:LL)(i:Nat):LL:=qcumN u l i++List.replicate (l.length-i) [0]
def qfu(A J u v a:Int):LL:=qcum u (qsp A J v a)
def qend(u:Int)(l:LL):Int:=if l.length=0 then u else el l (l.length-1)
def okSpd(l:LL):Prop:=l.length<=4096/\∀j,j<l.length->0<=el l j/\el l j<=16777216
def okU(u:Int):Prop:= -5000000000000000000<=u/\u<=5000000000000000000
structure QM where
 u:Int
 v:Int
 a:Int
 l:Int
 p:Int
 b:Int
def qstart(u:Int):QM:=⟨u*256,0,0,u*256,u*256,u*256⟩
def qmove(m:QM)(v:Int):QM:=⟨m.u+v,v,v-m.v,m.u,m.l,m.p⟩
def scl(v p:Int):Int:=if p=0 then 0 else min (max (IntKind.i64.wrap ((IntKind.i64.wrap (v*p)).tdiv 100)) 1) 16777216
def tgt(ho:Bool)(fo ro R fd ld:Int):Int:=if ho=true then 0 else if ld≠0 then min (max fd 1) 16777216 else if fd=0 then scl R ro else scl fd fo
def qtg(ho:Bool)(fo ro R:Int)(sg pk:LL)(sa ln u:Int):Int:=tgt ho fo ro R (ec sg (pfind sg (tplace pk sa (clamp ln (u/256)))).1.toNat 5) (ec sg (pfind sg (tplace pk sa (clamp ln (u/256)))).1.toNat 6)
def hlv:Nat->Int->LL
 |0,_=>[]
 |n+1,k=>if 0<k then[k]::hlv n (k/2)else[]
def ngl(l:LL):LL:=l.map fun r=>[-(r.getD 0 0)]
def chg(J:Int):LL:=hlv J.toNat J++[[0]]++ngl (hlv J.toNat J).reverse
end U
namespace Go.Proofs.YthkoabbiiadbjaaGreat
open Go Go.HL U
def SQFut(hargs:List HV)(pars:List (List HC)):SR:=match hargs,pars with
 |[.agg [.int .i64 A, .int .i64 J, .int .i64 R], .agg [.int .i64 mu, .int .i64 mv, .int .i64 ma, .int .i64 ml, .int .i64 mp, .int .i64 mb]],[]=> .all (okPl A J R/\okU mu) (LL×Bool) (fun x=>x=(qfu A J mu mv ma,qfok A J mv ma)) (fun x=>⟨.tup [.ce (.sl false [4] x.1), .ce (.bool x.2)],false,[],[]⟩)
 |_,_=> .fail
def anQF:LAnn:=⟨[8,9,28,29,30],[8],[1000025],false⟩
def LQF(v:LV):LR:=match v with
 |([.ce (.msl 1000025 n cap), .ce (.int .i64 u), .ce (.sl false [4] l), .ce (.int .i64 len), .ce (.int .i64 k)],[[.arr [4] rows d]])=> .det (n=l.length/\len=l.length/\k=0/\rows=List.replicate l.length [0]/\okSpd l/\okU u) (.exit 0) ([.ce (.msl 1000025 n cap)],[[.arr [4] (qcum u l) d]])
 |_=> .fail
def tabQF:List (FuncId×HL.Spec):=[(75,SQStop)]
noncomputable def CQF:Ctx:=⟨Tryz.prog,gam tabQF,Tryz.f37.ntmps,[(7,anQF,LQF)],[43]⟩
theorem vbQF(u len k:Int)(n cap d:Nat)(l rows:LL)(K:HEx->LV->Prop):(nbodyT true CQF anQF (nthLoop Tryz.f37 0) (([.ce (.msl 1000025 n cap), .ce (I6 u), .ce (.sl false [4] l), .ce (I6 len), .ce (I6 k)],[[.arr [4] rows d]])) K)=(Br (k<len) ((0<=k/\k<(l.length:Int))/\∀x1,x1=el l k.toNat->R6 (u+x1)/\∀x2,x2=u+x1->(0<=k/\k<((n:Nat):Int))/\k.toNat<rows.length/\R6 (k+1)/\∀x3,x3=k+1->K .normal ([.ce (.msl (1000025:Nat) n cap), .ce (I6 x2), .ce (.sl false [4] l), .ce (I6 len), .ce (I6 x3)],[[.arr [4] (List.set rows k.toNat [bif true&&true then x2 else el rows k.toNat]) d]])) (K (.exit 0) ([.ce (.msl (1000025:Nat) n cap)],[[.arr [4] rows d]]))):=by kernel_rfl
theorem vcQF(A J R mu mv ma ml mp mb:Int)(Q:Res->Prop):(nfun true CQF Tryz.f37 (bodyOf Tryz.f37) [.agg [I6 A,I6 J,I6 R], .agg [I6 mu,I6 mv,I6 ma,I6 ml,I6 mp,I6 mb]] [] Q)=(okPl A J R/\(∃(x:LL×Bool),x=(qsp A J mv ma,qfok A J mv ma))/\∀(x:LL×Bool),x=(qsp A J mv ma,qfok A J mv ma)->Bb (!x.2) (Q ⟨.tup [.ce (.sl false [4] []), .ce (.bool false)],false,[],[]⟩) (((0:Int)<=(List.length x.1:Int)/\(List.length x.1:Int)=(List.length x.1:Int)/\(List.length x.1:Int)<=140737488355328/\(List.length x.1:Int)*8<=140737488355328)/\(Int.toNat (List.length x.1:Int)=List.length x.1/\(List.length x.1:Int)=(List.length x.1:Int)/\(0:Int)=0/\List.replicate (Int.toNat (List.length x.1:Int)) [(0:Int)]=List.replicate (List.length x.1) [(0:Int)]/\okSpd x.1/\okU mu)/\Int.toNat (List.length x.1:Int)=List.length (qcum mu x.1)/\Q ⟨.tup [.ce (.sl false [4] (qcum mu x.1)), .ce (.bool true)],false,[],[]⟩)):=by kernel_rfl
def SQRest(hargs:List HV)(pars:List (List HC)):SR:=match hargs,pars with
 |[.agg [.int .i64 A, .int .i64 J, .int .i64 R], .agg [.int .i64 mu, .int .i64 mv, .int .i64 ma, .int .i64 ml, .int .i64 mp, .int .i64 mb]],[]=> .all (okPl A J R/\okU mu) (Int×Bool) (fun x=>x=(if qfok A J mv ma=true then qend mu (qfu A J mu mv ma)else 0,qfok A J mv ma)) (fun x=>⟨.tup [.ce (I6 x.1), .ce (.bool x.2)],false,[],[]⟩)
 |_,_=> .fail
def tabQRest:List (FuncId×HL.Spec):=[(37,SQFut)]
noncomputable def CQRest:Ctx:=⟨Tryz.prog,gam tabQRest,Tryz.f28.ntmps,[],[]⟩
theorem vcQRest(A J R mu mv ma ml mp mb:Int)(Q:Res->Prop):(nfun true CQRest Tryz.f28 (bodyOf Tryz.f28) [.agg [I6 A,I6 J,I6 R], .agg [I6 mu,I6 mv,I6 ma,I6 ml,I6 mp,I6 mb]] [] Q)=((okPl A J R/\okU mu)/\(∃(x:LL×Bool),x=(qfu A J mu mv ma,qfok A J mv ma))/\∀(x:LL×Bool),x=(qfu A J mu mv ma,qfok A J mv ma)->Bb (!x.2) (Q ⟨.tup [.ce (I6 0), .ce (.bool false)],false,[],[]⟩) (Bb ((List.length x.1:Int)==0) (Q ⟨.tup [.ce (I6 mu), .ce (.bool true)],false,[],[]⟩) (R6 ((List.length x.1:Int)-1)/\∀x2,x2=(List.length x.1:Int)-1->(0<=x2/\x2<(List.length x.1:Int))/\∀x3,x3=el x.1 x2.toNat->Q ⟨.tup [.ce (I6 x3), .ce (.bool true)],false,[],[]⟩))):=by kernel_rfl
def SQUnit(hargs:List HV)(pars:List (List HC)):SR:=match hargs,pars with
 |[.ce (.int .i64 u)],[]=> .det (-9223372036854775808<=u/\u<=9223372036854775807) ⟨.ce (I6 (u/256)),false,[],[]⟩
 |_,_=> .fail
noncomputable def CQUnit:Ctx:=⟨Tryz.prog,gam [],Tryz.f77.ntmps,[],[]⟩
theorem vcQUnit(u:Int)(Q:Res->Prop):(nfun true CQUnit Tryz.f77 (bodyOf Tryz.f77) [.ce (I6 u)] [] Q)=((256:Int)≠(0:Int)/\R6 (Int.tdiv u 256)/\∀x1,x1=Int.tdiv u 256->(256:Int)≠(0:Int)/\∀x2,x2=Int.tmod u 256->Br (x2<0) (R6 (x1-1)/\∀x3,x3=x1-1->Q ⟨.ce (I6 x3),false,[],[]⟩) (Q ⟨.ce (I6 x1),false,[],[]⟩)):=by kernel_rfl
def SQStart(hargs:List HV)(pars:List (List HC)):SR:=match hargs,pars with
 |[.ce (.int .i64 u)],[]=> .all (-18014398509481984<=u/\u<=18014398509481984) QM (fun x=>x=qstart u) (fun x=>⟨.agg [I6 x.u,I6 x.v,I6 x.a,I6 x.l,I6 x.p,I6 x.b],false,[],[]⟩)
 |_,_=> .fail
noncomputable def CQStart:Ctx:=⟨Tryz.prog,gam [],Tryz.f9.ntmps,[],[]⟩
theorem vcQStart(u:Int)(Q:Res->Prop):(nfun true CQStart Tryz.f9 (bodyOf Tryz.f9) [.ce (I6 u)] [] Q)=(R6 (u*256)/\∀x1,x1=u*256->Q ⟨.agg [I6 x1,I6 0,I6 0,I6 x1,I6 x1,I6 x1],false,[],[]⟩):=by kernel_rfl
def SQMove(hargs:List HV)(pars:List (List HC)):SR:=match hargs,pars with
 |[.agg [.int .i64 mu, .int .i64 mv, .int .i64 ma, .int .i64 ml, .int .i64 mp, .int .i64 mb], .ce (.int .i64 v)],[]=> .all (okU mu/\(-2199023255552<=v/\v<=2199023255552)/\(-2199023255552<=mv/\mv<=2199023255552)) QM (fun x=>x=qmove ⟨mu,mv,ma,ml,mp,mb⟩ v) (fun x=>⟨.agg [I6 x.u,I6 x.v,I6 x.a,I6 x.l,I6 x.p,I6 x.b],false,[],[]⟩)
 |_,_=> .fail
noncomputable def CQMove:Ctx:=⟨Tryz.prog,gam [],Tryz.f27.ntmps,[],[]⟩
theorem vcQMove(mu mv ma ml mp mb v:Int)(Q:Res->Prop):(nfun true CQMove Tryz.f27 (bodyOf Tryz.f27) [.agg [I6 mu,I6 mv,I6 ma,I6 ml,I6 mp,I6 mb], .ce (I6 v)] [] Q)=(R6 (mu+v)/\∀x1,x1=mu+v->R6 (v-mv)/\∀x2,x2=v-mv->Q ⟨.agg [I6 x1,I6 v,I6 x2,I6 mu,I6 ml,I6 mp],false,[],[]⟩):=by kernel_rfl
def STgt(hargs:List HV)(pars:List (List HC)):SR:=match hargs,pars with
 |[.agg [.int .i64 fo, .int .i64 ro, .bool ho, .bool so, .bool oo], .agg [.int .i64 A, .int .i64 J, .int .i64 R], .agg [.int .i64 _, .int .i64 _, .int .i64 _, .int .i64 _, .int .i64 _, .int .i64 fd, .int .i64 ld]],[]=> .det True ⟨.ce (I6 (tgt ho fo ro R fd ld)),false,[],[]⟩
 |_,_=> .fail
noncomputable def CTgt:Ctx:=⟨Tryz.prog,gam [],Tryz.f119.ntmps,[],[]⟩
theorem vcTgt(fo ro:Int)(ho so oo:Bool)(A J R g0 g1 g2 g3 g4 fd ld:Int)(Q:Res->Prop):(nfun false CTgt Tryz.f119 (bodyOf Tryz.f119) [.agg [I6 fo,I6 ro, .bool ho, .bool so, .bool oo], .agg [I6 A,I6 J,I6 R], .agg [I6 g0,I6 g1,I6 g2,I6 g3,I6 g4,I6 fd,I6 ld]] [] Q)=(Bb (ho) (Q ⟨.ce (I6 0),false,[],[]⟩) (Bb (ld !=0) (∀x1,x1=max fd 1->∀x2,x2=min x1 16777216->Q ⟨.ce (I6 x2),false,[],[]⟩) (Bb (fd==0) (Bb (ro==0) (Q ⟨.ce (I6 0),false,[],[]⟩) (∀x3,x3=IntKind.wrap .i64 (R*ro)->(100:Int)≠(0:Int)/\∀x4,x4=IntKind.wrap .i64 (Int.tdiv x3 100)->∀x5,x5=max x4 1->∀x6,x6=min x5 16777216->Q ⟨.ce (I6 x6),false,[],[]⟩)) (Bb (fo==0) (Q ⟨.ce (I6 0),false,[],[]⟩) (∀x7,x7=IntKind.wrap .i64 (fd*fo)->(100:Int)≠(0:Int)/\∀x8,x8=IntKind.wrap .i64 (Int.tdiv x7 100)->∀x9,x9=max x8 1->∀x10,x10=min x9 16777216->Q ⟨.ce (I6 x10),false,[],[]⟩))))):=by kernel_rfl
def SQTg(hargs:List HV)(pars:List (List HC)):SR:=match hargs,pars with
 |[.agg [.int .i64 s0, .int .i64 s1, .int .i64 s2, .sl false [4,4,4,4,4,4,4] sg, .sl false [4,4,4] mk], .agg [.sl false [4,4,4,4,4,4,4,4,4,4] pk, .int .i64 ln, .int .i64 sa, .int .i64 d0, .int .i64 d1, .int .i64 d2], .agg [.int .i64 A, .int .i64 J, .int .i64 R], .agg [.int .i64 fo, .int .i64 ro, .bool ho, .bool so, .bool oo], .ce (.int .i64 u)],[]=> .det ((okLen sg/\okTrk pk ln/\(0<=sa/\sa<=18014398509481984))/\0<sg.length/\okU u) ⟨.ce (I6 (qtg ho fo ro R sg pk sa ln u)),false,[],[]⟩
 |_,_=> .fail
def tabQTg:List (FuncId×HL.Spec):=[(77,SQUnit),(103,SPlace),(118,SPFind),(119,STgt)]
noncomputable def CQTg:Ctx:=⟨Tryz.prog,gam tabQTg,Tryz.f95.ntmps,[],[]⟩
theorem vcQTg(s0 s1 s2 ln sa d0 d1 d2 A J R fo ro u:Int)(ho so oo:Bool)(sg mk pk:LL)(Q:Res->Prop):(nfun true CQTg Tryz.f95 (bodyOf Tryz.f95) [.agg [I6 s0,I6 s1,I6 s2, .sl false [4,4,4,4,4,4,4] sg, .sl false [4,4,4] mk], .agg [.sl false [4,4,4,4,4,4,4,4,4,4] pk,I6 ln,I6 sa,I6 d0,I6 d1,I6 d2], .agg [I6 A,I6 J,I6 R], .agg [I6 fo,I6 ro, .bool ho, .bool so, .bool oo], .ce (I6 u)] [] Q)=(R6 u/\∀x1,x1=u/256->okTrk pk ln/\∀x2,x2=tplace pk sa (clamp ln x1)->(okLen sg/\x2<=4611686018427387904)/\(∃(x:Int×Int),x=pfind sg x2)/\∀(x:Int×Int),x=pfind sg x2->(0<=x.1/\x.1<(sg.length:Int))/\True/\∀x4,x4=tgt ho fo ro R (ec sg x.1.toNat 5) (ec sg x.1.toNat 6)->Q ⟨.ce (I6 x4),false,[],[]⟩):=by kernel_rfl
def SChg(hargs:List HV)(pars:List (List HC)):SR:=match hargs,pars with
 |[.ce (.int .i64 j)],[]=> .all (0<=j/\j<=65536) (LL) (fun x=>x=chg j) (fun x=>⟨.ce (.sl false [4] x),true,[],[]⟩)
 |_,_=> .fail
def anCh0:LAnn:=⟨[3,100003,4],[3,100003],[],false⟩
def LCh0(v:LV):LR:=match v with
 |([.ce (.sl false [4] l), .ce (.lit true), .ce (.int .i64 k)],[])=> .det (l.length=0/\0<=k/\k<=65536) (.exit 0) ([.ce (.sl false [4] (hlv k.toNat k)), .ce (.lit true)],[])
 |_=> .fail
def anCh1:LAnn:=⟨[3,5,100005,6],[5,100005],[],false⟩
def LCh1(v:LV):LR:=match v with
 |([.ce (.sl false [4] l), .ce (.sl false [4] y), .ce (.lit true), .ce (.int .i64 i)],[])=> .det (i=(l.length:Int)-1/\l.length<=65536/\y.length<=65537/\∀j,j<l.length-> -65536<=el l j/\el l j<=65536) (.exit 2) ([.ce (.sl false [4] (y++ngl l.reverse)), .ce (.lit true)],[])
 |_=> .fail
noncomputable def CChg:Ctx:=⟨Tryz.prog,gam [],Tryz.f60.ntmps,[(3,anCh0,LCh0),(8,anCh1,LCh1)],[]⟩
theorem vbCh0(l:LL)(k:Int)(K:HEx->LV->Prop):(nbodyT true CChg anCh0 (nthLoop Tryz.f60 0) (([.ce (.sl false [4] l), .ce (.lit true), .ce (I6 k)],[])) K)=(Br (k>0) (((l.length+1)*8<=140737488355328/\l.length+1<=maxLen)/\(2:Int)≠(0:Int)/\R6 (Int.tdiv k 2)/\∀x1,x1=Int.tdiv k 2->K .normal ([.ce (.sl false [4] (l++[[k]])), .ce (.lit true), .ce (I6 x1)],[])) (K (.exit 0) ([.ce (.sl false [4] l), .ce (.lit true)],[]))):=by kernel_rfl
theorem vbCh1(l y:LL)(i:Int)(K:HEx->LV->Prop):(nbodyT true CChg anCh1 (nthLoop Tryz.f60 1) (([.ce (.sl false [4] l), .ce (.sl false [4] y), .ce (.lit true), .ce (I6 i)],[])) K)=(Br (i>=0) ((0<=i/\i<(l.length:Int))/\∀x1,x1=el l i.toNat->R6 (0-x1)/\∀x2,x2=0-x1->((y.length+1)*8<=140737488355328/\y.length+1<=maxLen)/\R6 (i-1)/\∀x3,x3=i-1->K .normal ([.ce (.sl false [4] l), .ce (.sl false [4] (y++[[x2]])), .ce (.lit true), .ce (I6 x3)],[])) (K (.exit 2) ([.ce (.sl false [4] y), .ce (.lit true)],[]))):=by kernel_rfl
theorem vcChg(j:Int)(Q:Res->Prop):(nfun true CChg Tryz.f60 (bodyOf Tryz.f60) [.ce (I6 j)] [] Q)=(((0:Nat)=0/\0<=j/\j<=65536)/\(((0:Nat)+List.length (hlv j.toNat j))*8<=140737488355328/\(0:Nat)+List.length (hlv j.toNat j)<=maxLen)/\((List.length ([]++hlv j.toNat j)+1)*8<=140737488355328/\List.length ([]++hlv j.toNat j)+1<=maxLen)/\R6 ((((List.length (hlv j.toNat j)):Nat):Int)-1)/\∀x1,x1=(((List.length (hlv j.toNat j)):Nat):Int)-1->(x1=(((List.length (hlv j.toNat j)):Nat):Int)-1/\List.length (hlv j.toNat j)<=65536/\List.length ([]++hlv j.toNat j++[[(0:Int)]])<=65537/\∀(j_1:Nat),j_1<List.length (hlv j.toNat j)-> -65536<=el (hlv j.toNat j) j_1/\el (hlv j.toNat j) j_1<=65536)/\Q ⟨.ce (.sl false [4] ([]++hlv j.toNat j++[[(0:Int)]]++ngl (List.reverseAux (hlv j.toNat j) []))),true,[],[]⟩):=by kernel_rfl
end Go.Proofs.YthkoabbiiadbjaaGreat
namespace U
theorem el_cons(r:List Int)(l:LL)(j:Nat):el (r::l) (j+1)=el l j:=rfl
theorem qst_bd{A J:Int}(hA:1<=A)(hJ:1<=J):∀(n:Nat){v a:Int},qready A J v a=true->∀j,j<(qst A J n v a).length->0<=el (qst A J n v a) j/\el (qst A J n v a) j<=16777216:=by
 intro n;induction n with
 |zero=>intro v a _ j hj;simp[qst]at hj
 |succ n ih=>
  intro v a h j hj;by_cases hv:0<v
  . have e:=(Go.Proofs.YthkoabbiiadbjaaGreat.qst_k (A:=A) (J:=J) (a:=a) (n:=n) hv).1;rw[e]at hj⊢;have hr:=qbrk_ready hA hJ h;cases j with
    |zero=>exact qready_v hJ hr
    |succ j=>exact ih hr j (by simpa using hj)
  . rw[(qst_nil (A:=A) (J:=J) (a:=a) (n:=n+1) hv).1]at hj;simp at hj
theorem qsp_spd{A J R v a:Int}(hp:okPl A J R):okSpd (qsp A J v a):=by
 unfold qsp;split
 . rename_i h;unfold qfok at h;rw[Bool.and_eq_true]at h;exact⟨qst_len 4096 v a,fun j hj=>qst_bd hp.1.1 (by have:=hp.2.1.1;omega) 4096 h.1 j hj⟩
 . exact⟨by simp,fun j hj=>by simp at hj⟩
theorem qsm_bd{l:LL}(h:okSpd l):∀k,k<=l.length->0<=qsm l k/\qsm l k<=16777216*(k:Int):=by
 intro k;induction k with
 |zero=>intro _;simp[qsm]
 |succ k ih=>
  intro hk;have a:=ih (by omega);have b:=h.2 k (by omega);unfold qsm;omega
theorem qcumN_succ(u:Int)(l:LL)(n:Nat):qcumN u l (n+1)=qcumN u l n++[[u+qsm l (n+1)]]:=by
 unfold qcumN;rw[List.range_succ,List.map_append];rfl
theorem qcumN_len(u:Int)(l:LL)(n:Nat):(qcumN u l n).length=n:=by simp[qcumN]
theorem qcum_len(u:Int)(l:LL):(qcum u l).length=l.length:=qcumN_len _ _ _
theorem el_qcum{u:Int}{l:LL}{k:Nat}(h:k<l.length):el (qcum u l) k=u+qsm l (k+1):=by
 unfold qcum qcumN el;simp[List.getD_eq_getElem?_getD,h]
theorem qcumP_set{u:Int}{l:LL}{i:Nat}(h:i<l.length):(qcumP u l i).set i [u+qsm l (i+1)]=qcumP u l (i+1):=by
 unfold qcumP;have hl:=qcumN_len u l i;rw[List.set_append_right _ _ (by omega),hl,Nat.sub_self,show l.length-i=(l.length-(i+1))+1 by omega,List.replicate_succ,List.set_cons_zero,qcumN_succ];simp
theorem qcumP_len{u:Int}{l:LL}{i:Nat}(h:i<=l.length):(qcumP u l i).length=l.length:=by simp[qcumP,qcumN];omega
theorem qcumP_all(u:Int)(l:LL):qcumP u l l.length=qcum u l:=by simp[qcumP,qcum]
theorem qcumP_none(u:Int)(l:LL):qcumP u l 0=List.replicate l.length [0]:=by simp[qcumP,qcumN]
theorem hlv_fuel:∀(n m:Nat){k:Int},k<=n->k<=m->hlv n k=hlv m k:=by
 intro n;induction n with
 |zero=>
  intro m k h _;cases m with
  |zero=>rfl
  |succ m=>unfold hlv;rw[if_neg (by omega)]
 |succ n ih=>
  intro m k h1 h2;cases m with
  |zero=>unfold hlv;rw[if_neg (by omega)]
  |succ m=>
   unfold hlv;by_cases hk:0<k
   . rw[if_pos hk,if_pos hk,ih m (by omega) (by omega)]
   . rw[if_neg hk,if_neg hk]
theorem hlv_step{k:Int}(h:0<k):hlv k.toNat k=[k]::hlv (k/2).toNat (k/2):=by
 rw[show k.toNat=(k.toNat-1)+1 by omega,hlv,if_pos h,hlv_fuel (k.toNat-1) (k/2).toNat (by omega) (by omega)]
theorem hlv_end{k:Int}(h:¬0<k):hlv k.toNat k=[]:=by rw[show k.toNat=0 by omega];rfl
theorem hlv_bd:∀(n:Nat){k:Int},k<=65536->∀j,j<(hlv n k).length->1<=el (hlv n k) j/\el (hlv n k) j<=65536:=by
 intro n;induction n with
 |zero=>intro k _ j hj;simp[hlv]at hj
 |succ n ih=>
  intro k hk j hj;unfold hlv at hj⊢;by_cases h0:0<k
  . rw[if_pos h0]at hj⊢;cases j with
    |zero=>exact⟨h0,hk⟩
    |succ j=>exact ih (by omega) j (by simpa using hj)
  . rw[if_neg h0]at hj;simp at hj
theorem hlv_len:∀(n:Nat)(k:Int),(hlv n k).length<=n:=by
 intro n;induction n with
 |zero=>intro k;simp[hlv]
 |succ n ih=>
  intro k;unfold hlv;split
  . have:=ih (k/2);simp;omega
  . simp
theorem ngl_app(a b:LL):ngl (a++b)=ngl a++ngl b:=List.map_append
end U
namespace Go.Proofs.YthkoabbiiadbjaaGreat
open Go Go.HL U
attribute [local irreducible] hfun bodyT fragT
theorem loopQF:∀v Q,(LQF v).wp Q->hloop CQF anQF (nthLoop Tryz.f37 0) v Q:=by
 intro v Q h;unfold LQF at h;split at h;case h_2=>exact h.elim
 rename_i n cap u l len k rows d;obtain⟨⟨h1,h2,h3,h4,h5,h6⟩,hq⟩:=h;subst h1 h2 h3 h4;rw[<-qcumP_none u l];have e0:u=u+qsm l 0:=by simp[qsm]
 refine Eq.mp (by rw[<-e0];rfl) (hloop_rec (C:=CQF) (an:=anQF) (c:=nthLoop Tryz.f37 0) (Q:=Q) (σ:=Nat) (fun i=>([.ce (.msl 1000025 l.length cap), .ce (I6 (u+qsm l i)), .ce (.sl false [4] l), .ce (I6 (l.length:Int)), .ce (I6 (i:Int))],[[.arr [4] (qcumP u l i) d]])) (fun i=>l.length-i) (fun i=>i<=l.length) ?_ 0 (Nat.zero_le _));intro i hi K hn he hr;have b:=qsm_bd h5 i hi;have hl:=h5.1;unfold okU at h6;refine byVB (vbQF (u+qsm l i) l.length i l.length cap d l (qcumP u l i) K) ⟨fun c=> ?_,fun c=> ?_⟩
 . have c:=odt c;have b1:=h5.2 i (by omega);refine⟨by omega,fun x1 e1=> ?_⟩;have e1:x1=el l i:=e1;refine⟨by omega,fun x2 e2=>⟨by omega,by rw[qcumP_len hi];omega,by omega,fun x3 e3=> ?_⟩⟩;have e2':x2=u+qsm l (i+1):=by rw[qsm];omega
   have g:=hn (i+1) (by omega) (by omega);rw[<-qcumP_set (by omega),show((i+1:Nat):Int)=x3 by omega,<-e2']at g;exact g
 . have c:=odf c;obtain rfl:i=l.length:=by omega
   rw[qcumP_all];exact he _ _ hq
theorem sQFut:Sound Tryz.prog 37 SQFut:=by
 refine sound_of (C:=CQF) tabQF Tryz.func37 (by kernel_rfl) (by decide+kernel) (by kernel_rfl) rfl ⟨sQStop,trivial⟩ (loops1 (by kernel_rfl) (loopOK_of (an:=anQF) (S:=LQF) (by kernel_rfl) loopQF)) ?_;intro hargs pars R h;unfold SQFut at h;split at h;case h_2=>exfalso;exact h
 rename_i A J Rp mu mv ma ml mp mb;obtain⟨⟨hp,hu⟩,_,hR⟩:=h;refine byVC (vcQF A J Rp mu mv ma ml mp mb R) ⟨hp,⟨_,rfl⟩,fun x e=> ?_⟩;subst e;have hs:=qsp_spd (v:=mv) (a:=ma) hp;have hl:=hs.1;refine⟨fun g=> ?_,fun g=>⟨by dsimp only;omega,⟨rfl,rfl,rfl,rfl,hs,hu⟩,by rw[qcum_len];rfl,?_⟩⟩
 . have g:qfok A J mv ma=false:=by simpa using g
   exact hR ([],false) (by unfold qfu;rw[show qsp A J mv ma=[]by unfold qsp;rw[g];rfl,g];rfl)
 . have g:qfok A J mv ma=true:=by simpa using g
   exact hR (qcum mu (qsp A J mv ma),true) (by rw[g];rfl)
theorem sQRest:Sound Tryz.prog 28 SQRest:=by
 refine sound_of (C:=CQRest) tabQRest Tryz.func28 (by kernel_rfl) (by decide+kernel) (by kernel_rfl) rfl ⟨sQFut,trivial⟩ (loops0 (by kernel_rfl)) ?_;intro hargs pars R h;unfold SQRest at h;split at h;case h_2=>exfalso;exact h
 rename_i A J Rp mu mv ma ml mp mb;obtain⟨⟨hp,hu⟩,_,hR⟩:=h;refine byVC (vcQRest A J Rp mu mv ma ml mp mb R) ⟨⟨hp,hu⟩,⟨_,rfl⟩,fun x e=> ?_⟩;subst e;have hl:(qfu A J mu mv ma).length<=4096:=by unfold qfu;rw[qcum_len];exact(qsp_spd hp).1
 refine⟨fun g=> ?_,fun g=>⟨fun g2=> ?_,fun g2=>⟨by dsimp only;omega,fun x2 e2=> ?_⟩⟩⟩
 . have g:qfok A J mv ma=false:=by simpa using g
   exact hR (0,false) (by rw[g];rfl)
 . have g:qfok A J mv ma=true:=by simpa using g
   have g2:(qfu A J mu mv ma).length=0:=by simpa using g2
   exact hR (mu,true) (by rw[g];unfold qend;rw[if_pos rfl,if_pos g2])
 . have g:qfok A J mv ma=true:=by simpa using g
   have g2:(qfu A J mu mv ma).length≠0:=by simpa using g2
   dsimp only at e2⊢;refine⟨by omega,fun x3 e3=> ?_⟩;exact hR (x3,true) (by rw[g];unfold qend;rw[if_pos rfl,if_neg g2,e3,show x2.toNat=(qfu A J mu mv ma).length-1 by omega])
theorem sQUnit:Sound Tryz.prog 77 SQUnit:=by
 refine sound_of (C:=CQUnit) [] Tryz.func77 (by kernel_rfl) (by decide+kernel) (by kernel_rfl) rfl trivial (loops0 (by kernel_rfl)) ?_;intro hargs pars R h;unfold SQUnit at h;split at h;case h_2=>exfalso;exact h
 rename_i u;obtain⟨hu,hR⟩:=h;have h1:u.tdiv 256=if 0<=u then u/256 else-((-u)/256):=tdiv_ite (by decide);have h2:u.tmod 256=if 0<=u then u%256 else-((-u)%256):=tmod_ite (by decide);refine byVC (vcQUnit u R) ⟨by decide,?_⟩;rw[h1,h2];by_cases h0:0<=u
 . rw[if_pos h0,if_pos h0];refine⟨by omega,fun x1 e1=>⟨by decide,fun x2 e2=>⟨fun g=>by have:=odt g;omega,fun _=> ?_⟩⟩⟩;rw[e1];exact hR
 . rw[if_neg h0,if_neg h0];refine⟨by omega,fun x1 e1=>⟨by decide,fun x2 e2=>⟨fun g=>⟨by omega,fun x3 e3=> ?_⟩,fun g=> ?_⟩⟩⟩
   . have:=odt g;rw[show x3=u/256 by omega];exact hR
   . have:=odf g;rw[show x1=u/256 by omega];exact hR
theorem sQStart:Sound Tryz.prog 9 SQStart:=by
 refine sound_of (C:=CQStart) [] Tryz.func9 (by kernel_rfl) (by decide+kernel) (by kernel_rfl) rfl trivial (loops0 (by kernel_rfl)) ?_;intro hargs pars R h;unfold SQStart at h;split at h;case h_2=>exfalso;exact h
 rename_i u;obtain⟨hu,_,hR⟩:=h;refine byVC (vcQStart u R) ⟨by omega,fun x1 e1=> ?_⟩;rw[e1];exact hR _ rfl
theorem sQMove:Sound Tryz.prog 27 SQMove:=by
 refine sound_of (C:=CQMove) [] Tryz.func27 (by kernel_rfl) (by decide+kernel) (by kernel_rfl) rfl trivial (loops0 (by kernel_rfl)) ?_;intro hargs pars R h;unfold SQMove at h;split at h;case h_2=>exfalso;exact h
 rename_i mu mv ma ml mp mb v;obtain⟨⟨hu,hv,hm⟩,_,hR⟩:=h;unfold okU at hu;refine byVC (vcQMove mu mv ma ml mp mb v R) ⟨by omega,fun x1 e1=>⟨by omega,fun x2 e2=> ?_⟩⟩;rw[e1,e2];exact hR _ rfl
theorem sTgt:Sound Tryz.prog 119 STgt:=by
 refine sound_of (C:=CTgt) [] Tryz.func119 (by kernel_rfl) (by decide+kernel) (by kernel_rfl) rfl trivial (loops0 (by kernel_rfl)) ?_;intro hargs pars R h;unfold STgt at h;split at h;case h_2=>exfalso;exact h
 rename_i fo ro ho so oo A J Rp g0 g1 g2 g3 g4 fd ld;obtain⟨_,hR⟩:=h;unfold tgt scl at hR;refine byVC (vcTgt fo ro ho so oo A J Rp g0 g1 g2 g3 g4 fd ld R) ⟨fun g=> ?_,fun g=>⟨fun c=>fun x1 e1 x2 e2=> ?_,fun c=>⟨fun c2=>⟨fun c3=> ?_,fun c3=>fun x3 e3=>⟨by decide,fun x4 e4 x5 e5 x6 e6=> ?_⟩⟩,fun c2=>⟨fun c3=> ?_,fun c3=>fun x3 e3=>⟨by decide,fun x4 e4 x5 e5 x6 e6=> ?_⟩⟩⟩⟩⟩
 . rw[if_pos g]at hR;exact hR
 . rw[if_neg (by simp[g]),if_pos (by simpa using c)]at hR;rw[e2,e1];exact hR
 . rw[if_neg (by simp[g]),if_neg (by simpa using c),if_pos (by simpa using c2),if_pos (by simpa using c3)]at hR;exact hR
 . rw[if_neg (by simp[g]),if_neg (by simpa using c),if_pos (by simpa using c2),if_neg (by simpa using c3)]at hR;rw[e6,e5,e4,e3];exact hR
 . rw[if_neg (by simp[g]),if_neg (by simpa using c),if_neg (by simpa using c2),if_pos (by simpa using c3)]at hR;exact hR
 . rw[if_neg (by simp[g]),if_neg (by simpa using c),if_neg (by simpa using c2),if_neg (by simpa using c3)]at hR;rw[e6,e5,e4,e3];exact hR
theorem sQTg:Sound Tryz.prog 95 SQTg:=by
 refine sound_of (C:=CQTg) tabQTg Tryz.func95 (by kernel_rfl) (by decide+kernel) (by kernel_rfl) rfl ⟨sQUnit,sPlace,sPFind,sTgt,trivial⟩ (loops0 (by kernel_rfl)) ?_;intro hargs pars R h;unfold SQTg at h;split at h;case h_2=>exfalso;exact h
 rename_i s0 s1 s2 sg mk pk ln sa d0 d1 d2 A J Rp fo ro ho so oo u;obtain⟨⟨⟨hl,ht,hsa⟩,h0,hu⟩,hR⟩:=h;have hc:=clamp_bd (n:=ln) (v:=u/256) ht.2.1.1;have hp:=tplace_bd ht hsa hc;refine byVC (vcQTg s0 s1 s2 ln sa d0 d1 d2 A J Rp fo ro u ho so oo sg mk pk R) ⟨by unfold okU at hu;omega,fun x1 e1=>⟨ht,fun x2 e2=> ?_⟩⟩;subst e1;refine⟨⟨hl,by omega⟩,⟨_,rfl⟩,fun x e=> ?_⟩;have hf:=pfind_spec hl x2;rw[<-e]at hf;refine⟨?_,trivial,fun x4 e4=> ?_⟩
 . rcases hf with hf|⟨j,h1,h2,_⟩
   . omega
   . omega
 . rw[e4,e,e2];exact hR
theorem loopCh0:∀v Q,(LCh0 v).wp Q->hloop CChg anCh0 (nthLoop Tryz.f60 0) v Q:=by
 intro v Q h;unfold LCh0 at h;split at h;case h_2=>exact h.elim
 rename_i l k;obtain⟨⟨h1,h2⟩,hq⟩:=h;obtain rfl:=List.eq_nil_of_length_eq_zero h1;refine hloop_rec (σ:=LL×Int) (fun s=>([.ce (.sl false [4] s.1), .ce (.lit true), .ce (I6 s.2)],[])) (fun s=>s.2.toNat) (fun s=>(0<=s.2/\s.1.length+s.2<=65536)/\hlv k.toNat k=s.1++hlv s.2.toNat s.2) ?_ ([],k) ⟨⟨h2.1,by simpa using h2.2⟩,rfl⟩;rintro⟨y,i⟩⟨⟨i1,i2⟩,i3⟩K hn he _;dsimp only at i1 i2 i3 hn⊢;refine byVB (vbCh0 y i K) ⟨fun g=> ?_,fun g=> ?_⟩
 . have g:=odt g;rw[tdiv_pos i1];refine⟨⟨by omega,by unfold maxLen;omega⟩,by decide,by omega,fun x1 e1=>hn (y++[[i]],x1) ⟨⟨by dsimp only;omega,by simp;omega⟩,?_⟩ (by dsimp only;omega)⟩;dsimp only;rw[i3,hlv_step g,e1];simp
 . have g:=odf g;rw[hlv_end g,List.append_nil]at i3;rw[i3]at hq;exact he _ _ hq
theorem loopCh1:∀v Q,(LCh1 v).wp Q->hloop CChg anCh1 (nthLoop Tryz.f60 1) v Q:=by
 intro v Q h;unfold LCh1 at h;split at h;case h_2=>exact h.elim
 rename_i l y i;obtain⟨⟨h1,h2,h3,h4⟩,hq⟩:=h;subst h1;refine Eq.mp ?_ (hloop_rec (C:=CChg) (an:=anCh1) (c:=nthLoop Tryz.f60 1) (Q:=Q) (σ:=Nat) (fun c=>([.ce (.sl false [4] l), .ce (.sl false [4] (y++ngl (l.drop c).reverse)), .ce (.lit true), .ce (I6 ((c:Int)-1))],[])) (fun c=>c) (fun c=>c<=l.length) ?_ l.length (Nat.le_refl _))
 . rw[List.drop_length];simp[ngl]
 intro c hc K hn he _;refine byVB (vbCh1 l (y++ngl (l.drop c).reverse) ((c:Int)-1) K) ⟨fun g=> ?_,fun g=> ?_⟩
 . have g:=odt g;have b:=h4 (c-1) (by omega);refine⟨by omega,fun x1 e1=> ?_⟩;rw[show((c:Int)-1).toNat=c-1 by omega]at e1;refine⟨by omega,fun x2 e2=>⟨⟨by simp[ngl];omega,by simp[ngl];unfold maxLen;omega⟩,by omega,fun x3 e3=> ?_⟩⟩;have:=hn (c-1) (by omega) (by omega);rw[drop_next l (k:=c-1) (by omega) [],List.reverse_cons,ngl_app,show c-1+1=c by omega,<-List.append_assoc,show(((c-1:Nat):Int)-1)=x3 by omega]at this;rw[show ngl [l.getD (c-1) []]=[[x2]]by unfold ngl;simp;show-(el l (c-1))=x2;omega]at this;exact this
 . have g:=odf g;obtain rfl:c=0:=by omega
   exact he _ _ hq
theorem sChg:Sound Tryz.prog 60 SChg:=by
 refine sound_of (C:=CChg) [] Tryz.func60 (by kernel_rfl) (by decide+kernel) (by kernel_rfl) rfl trivial (loops2 (by kernel_rfl) (loopOK_of (an:=anCh0) (S:=LCh0) (by kernel_rfl) loopCh0) (loopOK_of (an:=anCh1) (S:=LCh1) (by kernel_rfl) loopCh1)) ?_;intro hargs pars R h;unfold SChg at h;split at h;case h_2=>exfalso;exact h
 rename_i j;obtain⟨hj,_,hR⟩:=h;have hl:=hlv_len j.toNat j;have hb:=hlv_bd j.toNat (k:=j) hj.2;refine byVC (vcChg j R) ⟨⟨rfl,hj⟩,⟨by omega,by unfold maxLen;omega⟩,⟨by simp only[List.nil_append];omega,by simp only[List.nil_append];unfold maxLen;omega⟩,by omega,fun x1 e1=>⟨⟨e1,by omega,by simp;omega,fun i hi=>by have:=hb i hi;omega⟩,hR _ rfl⟩⟩
end Go.Proofs.YthkoabbiiadbjaaGreat
namespace U
open Go
def qmot(M0 M1 M2:Int->Int)(ln:Int)(w:LL):LL:=w.map fun r=>[M0 (clamp ln (r.getD 0 0/256)),M1 (clamp ln (r.getD 0 0/256)),M2 (clamp ln (r.getD 0 0/256))]
def qway(m:QM)(f:LL):LL:=[[m.b],[m.p],[m.l],[m.u]]++f++[[qend m.u f],[qend m.u f]]
def qsafe(A J:Int)(W:LL->Bool)(Mo:LL->LL)(m:QM)(lim:Int):Bool:=qfok A J m.v m.a&&(decide (qend m.u (qfu A J m.u m.v m.a)<=lim*256)&&W (Mo (qway m (qfu A J m.u m.v m.a))))
def qfl(T:Int->Int):Int->LL->Bool
 |_,[]=>true
 |u,r::l=>decide (r.getD 0 0-u<=T (r.getD 0 0))&&qfl T (r.getD 0 0) l
def qfit(A J:Int)(n:Nat)(T:Int->Int)(m:QM):Bool:=qfok A J m.v m.a&&(decide (0<n)&&(decide (m.v<=T m.u)&&qfl T m.u (qfu A J m.u m.v m.a)))
def win(L:LL)(i:Nat):LL:=(L.take i).drop (i-4)
def okA3(sta oga sga:Int)(pta:LL)(bla stb ogb sgb:Int)(ptb:LL)(blb stc ogc sgc:Int)(ptc:LL)(blc:Int):Prop:=okMA sta oga sga pta bla/\okMA stb ogb sgb ptb blb/\okMA stc ogc sgc ptc blc
def okPT(s0 s1 s2:Int)(sg pk:LL)(ln sa:Int):Prop:=okLen sg/\okPts s0 s1 s2 sg/\okTrk pk ln/\(0<=sa/\sa<=18014398509481984)
def okV(u:Int):Prop:= -4900000000000000000<=u/\u<=4900000000000000000
def okL3(spa aca jea spb acb jeb spc acc jec:Int):Prop:=okLi spa aca jea/\okLi spb acb jeb/\okLi spc acc jec
end U
namespace Go.Proofs.YthkoabbiiadbjaaGreat
open Go Go.HL U
def SSmo(hA:List HV)(pA:List (List HC)):SR:=match hA,pA with
 |[.agg [.int .i64 s0, .int .i64 s1, .int .i64 s2, .sl false [4,4,4,4,4,4,4] sg, .sl false [4,4,4] mk], .agg ax, .agg [.sl false [4,4,4,4,4,4,4,4,4,4] pk, .int .i64 ln, .int .i64 sa, .int .i64 d0, .int .i64 d1, .int .i64 d2], .ce (.sl false [4] w)],[]=>match ax with
  |[.int .i64 sta, .int .i64 spa, .int .i64 aca, .int .i64 jea, .int .i64 loa, .int .i64 hia, .int .i64 bla, .int .i64 oga, .int .i64 sga, .sl false [4] pta, .int .i64 stb, .int .i64 spb, .int .i64 acb, .int .i64 jeb, .int .i64 lob, .int .i64 hib, .int .i64 blb, .int .i64 ogb, .int .i64 sgb, .sl false [4] ptb, .int .i64 stc, .int .i64 spc, .int .i64 acc, .int .i64 jec, .int .i64 loc, .int .i64 hic, .int .i64 blc, .int .i64 ogc, .int .i64 sgc, .sl false [4] ptc]=> .det (okPT s0 s1 s2 sg pk ln sa/\okA3 sta oga sga pta bla stb ogb sgb ptb blb stc ogc sgc ptc blc/\okL3 spa aca jea spb acb jeb spc acc jec/\w.length<=8000/\Sm 9000000000000000000 w) ⟨.ce (.bool (wth3 spa aca jea spb acb jeb spc acc jec (qmot (mtr sta oga sga pta bla s0 sg 0 pk sa d0) (mtr stb ogb sgb ptb blb s1 sg 1 pk sa d1) (mtr stc ogc sgc ptc blc s2 sg 2 pk sa d2) ln w))),false,[],[]⟩
  |_=> .fail
 |_,_=> .fail
def anSmo:LAnn:=⟨[4,5,6,8,9,100009,12,13,14],[8],[1000004,1000005,1000006],false⟩
def LSmo(v:LV):LR:=match v with
 |([.ce (.ptr 1000004 0), .ce (.ptr 1000005 0), .ce (.ptr 1000006 0), .ce (.bool y), .ce (.sl false [4,4,4] z), .ce (.lit true), .ce (.sl false [4] w), .ce (.int .i64 len), .ce (.int .i64 k)],[[.int .i64 s0, .int .i64 s1, .int .i64 s2, .sl false [4,4,4,4,4,4,4] sg, .sl false [4,4,4] mk],ax,tr])=>match ax with
  |[.int .i64 sta, .int .i64 spa, .int .i64 aca, .int .i64 jea, .int .i64 loa, .int .i64 hia, .int .i64 bla, .int .i64 oga, .int .i64 sga, .sl false [4] pta, .int .i64 stb, .int .i64 spb, .int .i64 acb, .int .i64 jeb, .int .i64 lob, .int .i64 hib, .int .i64 blb, .int .i64 ogb, .int .i64 sgb, .sl false [4] ptb, .int .i64 stc, .int .i64 spc, .int .i64 acc, .int .i64 jec, .int .i64 loc, .int .i64 hic, .int .i64 blc, .int .i64 ogc, .int .i64 sgc, .sl false [4] ptc]=>match tr with
   |[.sl false [4,4,4,4,4,4,4,4,4,4] pk, .int .i64 ln, .int .i64 sa, .int .i64 d0, .int .i64 d1, .int .i64 d2]=> .alts (z.length=0/\len=w.length/\k=0/\okPT s0 s1 s2 sg pk ln sa/\okA3 sta oga sga pta bla stb ogb sgb ptb blb stc ogc sgc ptc blc/\okL3 spa aca jea spb acb jeb spc acc jec/\w.length<=8000/\Sm 9000000000000000000 w) [(wth3 spa aca jea spb acb jeb spc acc jec (qmot (mtr sta oga sga pta bla s0 sg 0 pk sa d0) (mtr stb ogb sgb ptb blb s1 sg 1 pk sa d1) (mtr stc ogc sgc ptc blc s2 sg 2 pk sa d2) ln w)=true, .exit 0,([.ce (.bool y)],[[I6 s0,I6 s1,I6 s2, .sl false [4,4,4,4,4,4,4] sg, .sl false [4,4,4] mk],[I6 sta,I6 spa,I6 aca,I6 jea,I6 loa,I6 hia,I6 bla,I6 oga,I6 sga, .sl false [4] pta,I6 stb,I6 spb,I6 acb,I6 jeb,I6 lob,I6 hib,I6 blb,I6 ogb,I6 sgb, .sl false [4] ptb,I6 stc,I6 spc,I6 acc,I6 jec,I6 loc,I6 hic,I6 blc,I6 ogc,I6 sgc, .sl false [4] ptc],[.sl false [4,4,4,4,4,4,4,4,4,4] pk,I6 ln,I6 sa,I6 d0,I6 d1,I6 d2]])),(wth3 spa aca jea spb acb jeb spc acc jec (qmot (mtr sta oga sga pta bla s0 sg 0 pk sa d0) (mtr stb ogb sgb ptb blb s1 sg 1 pk sa d1) (mtr stc ogc sgc ptc blc s2 sg 2 pk sa d2) ln w)=false, .ret,([.ce (.bool false)],[[I6 s0,I6 s1,I6 s2, .sl false [4,4,4,4,4,4,4] sg, .sl false [4,4,4] mk],[I6 sta,I6 spa,I6 aca,I6 jea,I6 loa,I6 hia,I6 bla,I6 oga,I6 sga, .sl false [4] pta,I6 stb,I6 spb,I6 acb,I6 jeb,I6 lob,I6 hib,I6 blb,I6 ogb,I6 sgb, .sl false [4] ptb,I6 stc,I6 spc,I6 acc,I6 jec,I6 loc,I6 hic,I6 blc,I6 ogc,I6 sgc, .sl false [4] ptc],[.sl false [4,4,4,4,4,4,4,4,4,4] pk,I6 ln,I6 sa,I6 d0,I6 d1,I6 d2]]))]
   |_=> .fail
  |_=> .fail
 |_=> .fail
def tabSmo:List (FuncId×HL.Spec):=[(77,SQUnit),(76,SMotors),(78,SAll)]
noncomputable def CSmo:Ctx:=⟨Tryz.prog,gam tabSmo,Tryz.f38.ntmps,[(3,anSmo,LSmo)],[]⟩
theorem vbSmo(s0 s1 s2 len k ln sa d0 d1 d2:Int)(y:Bool)(sg mk pk z w:LL)(sta spa aca jea loa hia bla oga sga stb spb acb jeb lob hib blb ogb sgb stc spc acc jec loc hic blc ogc sgc:Int)(pta ptb ptc:LL)(K:HEx->LV->Prop):(nbodyT true CSmo anSmo (nthLoop Tryz.f38 0) (([.ce (.ptr 1000004 0), .ce (.ptr 1000005 0), .ce (.ptr 1000006 0), .ce (.bool y), .ce (.sl false [4,4,4] z), .ce (.lit true), .ce (.sl false [4] w), .ce (I6 len), .ce (I6 k)],[[I6 s0,I6 s1,I6 s2, .sl false [4,4,4,4,4,4,4] sg, .sl false [4,4,4] mk],[I6 sta,I6 spa,I6 aca,I6 jea,I6 loa,I6 hia,I6 bla,I6 oga,I6 sga, .sl false [4] pta,I6 stb,I6 spb,I6 acb,I6 jeb,I6 lob,I6 hib,I6 blb,I6 ogb,I6 sgb, .sl false [4] ptb,I6 stc,I6 spc,I6 acc,I6 jec,I6 loc,I6 hic,I6 blc,I6 ogc,I6 sgc, .sl false [4] ptc],[.sl false [4,4,4,4,4,4,4,4,4,4] pk,I6 ln,I6 sa,I6 d0,I6 d1,I6 d2]])) K)=(Br (k<len) ((0<=k/\k<(w.length:Int))/\∀x1,x1=el w k.toNat->R6 x1/\∀x2,x2=x1/256->(okLen sg/\okPts s0 s1 s2 sg/\okTrk pk ln/\okMA sta oga sga pta bla/\okMA stb ogb sgb ptb blb/\okMA stc ogc sgc ptc blc/\0<=sa/\sa<=18014398509481984)/\∀x3,x3=tmot sta oga sga pta bla (ptAt s0 sg (0:Nat) (tplace pk sa (clamp ln x2))) pk d0 (clamp ln x2) (0:Nat)->∀x4,x4=tmot stb ogb sgb ptb blb (ptAt s1 sg (1:Nat) (tplace pk sa (clamp ln x2))) pk d1 (clamp ln x2) (1:Nat)->∀x5,x5=tmot stc ogc sgc ptc blc (ptAt s2 sg (2:Nat) (tplace pk sa (clamp ln x2))) pk d2 (clamp ln x2) (2:Nat)->((z.length+1)*24<=140737488355328/\z.length+1<=maxLen)/\Br ((((List.length (z++[[x3,x4,x5]])):Nat):Int)>4) (((0:Int)<=1/\(1:Int)<=(((List.length (z++[[x3,x4,x5]])):Nat):Int))/\(List.length (List.drop (1:Nat) (z++[[x3,x4,x5]]))<=8192/\Sm3 (1125899906842624:Int) (List.drop (1:Nat) (z++[[x3,x4,x5]]))/\okLi spa aca jea/\okLi spb acb jeb/\okLi spc acc jec)/\∀(x6:Bool),x6=wth3 spa aca jea spb acb jeb spc acc jec (List.drop (1:Nat) (z++[[x3,x4,x5]]))->Bb (!x6) (K .ret ([.ce (.bool false)],[[I6 s0,I6 s1,I6 s2, .sl false [4,4,4,4,4,4,4] sg, .sl false [4,4,4] mk],[I6 sta,I6 spa,I6 aca,I6 jea,I6 loa,I6 hia,I6 bla,I6 oga,I6 sga, .sl false [4] pta,I6 stb,I6 spb,I6 acb,I6 jeb,I6 lob,I6 hib,I6 blb,I6 ogb,I6 sgb, .sl false [4] ptb,I6 stc,I6 spc,I6 acc,I6 jec,I6 loc,I6 hic,I6 blc,I6 ogc,I6 sgc, .sl false [4] ptc],[.sl false [4,4,4,4,4,4,4,4,4,4] pk,I6 ln,I6 sa,I6 d0,I6 d1,I6 d2]])) (R6 (k+1)/\∀x7,x7=k+1->K .normal ([.ce (.ptr 1000004 0), .ce (.ptr 1000005 0), .ce (.ptr 1000006 0), .ce (.bool y), .ce (.sl false [4,4,4] (List.drop (1:Nat) (z++[[x3,x4,x5]]))), .ce (.lit true), .ce (.sl false [4] w), .ce (I6 len), .ce (I6 x7)],[[I6 s0,I6 s1,I6 s2, .sl false [4,4,4,4,4,4,4] sg, .sl false [4,4,4] mk],[I6 sta,I6 spa,I6 aca,I6 jea,I6 loa,I6 hia,I6 bla,I6 oga,I6 sga, .sl false [4] pta,I6 stb,I6 spb,I6 acb,I6 jeb,I6 lob,I6 hib,I6 blb,I6 ogb,I6 sgb, .sl false [4] ptb,I6 stc,I6 spc,I6 acc,I6 jec,I6 loc,I6 hic,I6 blc,I6 ogc,I6 sgc, .sl false [4] ptc],[.sl false [4,4,4,4,4,4,4,4,4,4] pk,I6 ln,I6 sa,I6 d0,I6 d1,I6 d2]]))) ((List.length (z++[[x3,x4,x5]])<=8192/\Sm3 (1125899906842624:Int) (z++[[x3,x4,x5]])/\okLi spa aca jea/\okLi spb acb jeb/\okLi spc acc jec)/\∀(x8:Bool),x8=wth3 spa aca jea spb acb jeb spc acc jec (z++[[x3,x4,x5]])->Bb (!x8) (K .ret ([.ce (.bool false)],[[I6 s0,I6 s1,I6 s2, .sl false [4,4,4,4,4,4,4] sg, .sl false [4,4,4] mk],[I6 sta,I6 spa,I6 aca,I6 jea,I6 loa,I6 hia,I6 bla,I6 oga,I6 sga, .sl false [4] pta,I6 stb,I6 spb,I6 acb,I6 jeb,I6 lob,I6 hib,I6 blb,I6 ogb,I6 sgb, .sl false [4] ptb,I6 stc,I6 spc,I6 acc,I6 jec,I6 loc,I6 hic,I6 blc,I6 ogc,I6 sgc, .sl false [4] ptc],[.sl false [4,4,4,4,4,4,4,4,4,4] pk,I6 ln,I6 sa,I6 d0,I6 d1,I6 d2]])) (R6 (k+1)/\∀x9,x9=k+1->K .normal ([.ce (.ptr 1000004 0), .ce (.ptr 1000005 0), .ce (.ptr 1000006 0), .ce (.bool y), .ce (.sl false [4,4,4] (z++[[x3,x4,x5]])), .ce (.lit true), .ce (.sl false [4] w), .ce (I6 len), .ce (I6 x9)],[[I6 s0,I6 s1,I6 s2, .sl false [4,4,4,4,4,4,4] sg, .sl false [4,4,4] mk],[I6 sta,I6 spa,I6 aca,I6 jea,I6 loa,I6 hia,I6 bla,I6 oga,I6 sga, .sl false [4] pta,I6 stb,I6 spb,I6 acb,I6 jeb,I6 lob,I6 hib,I6 blb,I6 ogb,I6 sgb, .sl false [4] ptb,I6 stc,I6 spc,I6 acc,I6 jec,I6 loc,I6 hic,I6 blc,I6 ogc,I6 sgc, .sl false [4] ptc],[.sl false [4,4,4,4,4,4,4,4,4,4] pk,I6 ln,I6 sa,I6 d0,I6 d1,I6 d2]])))) (K (.exit 0) ([.ce (.bool y)],[[I6 s0,I6 s1,I6 s2, .sl false [4,4,4,4,4,4,4] sg, .sl false [4,4,4] mk],[I6 sta,I6 spa,I6 aca,I6 jea,I6 loa,I6 hia,I6 bla,I6 oga,I6 sga, .sl false [4] pta,I6 stb,I6 spb,I6 acb,I6 jeb,I6 lob,I6 hib,I6 blb,I6 ogb,I6 sgb, .sl false [4] ptb,I6 stc,I6 spc,I6 acc,I6 jec,I6 loc,I6 hic,I6 blc,I6 ogc,I6 sgc, .sl false [4] ptc],[.sl false [4,4,4,4,4,4,4,4,4,4] pk,I6 ln,I6 sa,I6 d0,I6 d1,I6 d2]]))):=by kernel_rfl
theorem vcSmo(s0 s1 s2 ln sa d0 d1 d2:Int)(sg mk pk w:LL)(sta spa aca jea loa hia bla oga sga stb spb acb jeb lob hib blb ogb sgb stc spc acc jec loc hic blc ogc sgc:Int)(pta ptb ptc:LL)(Q:Res->Prop):(nfun true CSmo Tryz.f38 (bodyOf Tryz.f38) [.agg [I6 s0,I6 s1,I6 s2, .sl false [4,4,4,4,4,4,4] sg, .sl false [4,4,4] mk], .agg [I6 sta,I6 spa,I6 aca,I6 jea,I6 loa,I6 hia,I6 bla,I6 oga,I6 sga, .sl false [4] pta,I6 stb,I6 spb,I6 acb,I6 jeb,I6 lob,I6 hib,I6 blb,I6 ogb,I6 sgb, .sl false [4] ptb,I6 stc,I6 spc,I6 acc,I6 jec,I6 loc,I6 hic,I6 blc,I6 ogc,I6 sgc, .sl false [4] ptc], .agg [.sl false [4,4,4,4,4,4,4,4,4,4] pk,I6 ln,I6 sa,I6 d0,I6 d1,I6 d2], .ce (.sl false [4] w)] [] Q)=(((0:Nat)=0/\(w.length:Int)=(w.length:Int)/\(0:Int)=0/\okPT s0 s1 s2 sg pk ln sa/\okA3 sta oga sga pta bla stb ogb sgb ptb blb stc ogc sgc ptc blc/\okL3 spa aca jea spb acb jeb spc acc jec/\w.length<=8000/\Sm (9000000000000000000:Int) w)/\Bb (wth3 spa aca jea spb acb jeb spc acc jec (qmot (mtr sta oga sga pta bla s0 sg (0:Nat) pk sa d0) (mtr stb ogb sgb ptb blb s1 sg (1:Nat) pk sa d1) (mtr stc ogc sgc ptc blc s2 sg (2:Nat) pk sa d2) ln w)) (Q ⟨.ce (.bool true),false,[],[]⟩) (Q ⟨.ce (.bool false),false,[],[]⟩)):=by kernel_rfl
def SSafe(hA:List HV)(pA:List (List HC)):SR:=match hA,pA with
 |[.agg [.int .i64 s0, .int .i64 s1, .int .i64 s2, .sl false [4,4,4,4,4,4,4] sg, .sl false [4,4,4] mk], .agg ax, .agg [.sl false [4,4,4,4,4,4,4,4,4,4] pk, .int .i64 ln, .int .i64 sa, .int .i64 d0, .int .i64 d1, .int .i64 d2], .agg [.int .i64 A, .int .i64 J, .int .i64 R], .agg [.int .i64 mu, .int .i64 mv, .int .i64 ma, .int .i64 ml, .int .i64 mp, .int .i64 mb], .ce (.int .i64 lim)],[]=>match ax with
  |[.int .i64 sta, .int .i64 spa, .int .i64 aca, .int .i64 jea, .int .i64 loa, .int .i64 hia, .int .i64 bla, .int .i64 oga, .int .i64 sga, .sl false [4] pta, .int .i64 stb, .int .i64 spb, .int .i64 acb, .int .i64 jeb, .int .i64 lob, .int .i64 hib, .int .i64 blb, .int .i64 ogb, .int .i64 sgb, .sl false [4] ptb, .int .i64 stc, .int .i64 spc, .int .i64 acc, .int .i64 jec, .int .i64 loc, .int .i64 hic, .int .i64 blc, .int .i64 ogc, .int .i64 sgc, .sl false [4] ptc]=> .det ((okPT s0 s1 s2 sg pk ln sa/\okA3 sta oga sga pta bla stb ogb sgb ptb blb stc ogc sgc ptc blc/\okL3 spa aca jea spb acb jeb spc acc jec)/\okPl A J R/\(okU mu/\okU ml/\okU mp/\okU mb)/\(0<=lim/\lim<=18014398509481984)) ⟨.ce (.bool (qsafe A J (wth3 spa aca jea spb acb jeb spc acc jec) (qmot (mtr sta oga sga pta bla s0 sg 0 pk sa d0) (mtr stb ogb sgb ptb blb s1 sg 1 pk sa d1) (mtr stc ogc sgc ptc blc s2 sg 2 pk sa d2) ln) ⟨mu,mv,ma,ml,mp,mb⟩ lim)),false,[],[]⟩
  |_=> .fail
 |_,_=> .fail
def tabSafe:List (FuncId×HL.Spec):=[(37,SQFut),(38,SSmo)]
noncomputable def CSafe:Ctx:=⟨Tryz.prog,gam tabSafe,Tryz.f14.ntmps,[],[]⟩
theorem vcSafe(s0 s1 s2 ln sa d0 d1 d2 A J R mu mv ma ml mp mb lim:Int)(sg mk pk:LL)(sta spa aca jea loa hia bla oga sga stb spb acb jeb lob hib blb ogb sgb stc spc acc jec loc hic blc ogc sgc:Int)(pta ptb ptc:LL)(Q:Res->Prop):(nfun true CSafe Tryz.f14 (bodyOf Tryz.f14) [.agg [I6 s0,I6 s1,I6 s2, .sl false [4,4,4,4,4,4,4] sg, .sl false [4,4,4] mk], .agg [I6 sta,I6 spa,I6 aca,I6 jea,I6 loa,I6 hia,I6 bla,I6 oga,I6 sga, .sl false [4] pta,I6 stb,I6 spb,I6 acb,I6 jeb,I6 lob,I6 hib,I6 blb,I6 ogb,I6 sgb, .sl false [4] ptb,I6 stc,I6 spc,I6 acc,I6 jec,I6 loc,I6 hic,I6 blc,I6 ogc,I6 sgc, .sl false [4] ptc], .agg [.sl false [4,4,4,4,4,4,4,4,4,4] pk,I6 ln,I6 sa,I6 d0,I6 d1,I6 d2], .agg [I6 A,I6 J,I6 R], .agg [I6 mu,I6 mv,I6 ma,I6 ml,I6 mp,I6 mb], .ce (I6 lim)] [] Q)=((okPl A J R/\okU mu)/\(∃(x:LL×Bool),x=(qfu A J mu mv ma,qfok A J mv ma))/\∀(x:LL×Bool),x=(qfu A J mu mv ma,qfok A J mv ma)->Bb (!x.2) (Q ⟨.ce (.bool false),false,[],[]⟩) (Br ((List.length x.1:Int)>0) (R6 ((List.length x.1:Int)-1)/\∀x2,x2=(List.length x.1:Int)-1->(0<=x2/\x2<(List.length x.1:Int))/\∀x3,x3=el x.1 x2.toNat->R6 (lim*256)/\∀x4,x4=lim*256->Br (x3>x4) (Q ⟨.ce (.bool false),false,[],[]⟩) ((((4:Nat)+List.length x.1)*8<=140737488355328/\(4:Nat)+List.length x.1<=maxLen)/\((List.length ([[mb],[mp],[ml],[mu]]++x.1)+2)*8<=140737488355328/\List.length ([[mb],[mp],[ml],[mu]]++x.1)+2<=maxLen)/\(okPT s0 s1 s2 sg pk ln sa/\okA3 sta oga sga pta bla stb ogb sgb ptb blb stc ogc sgc ptc blc/\okL3 spa aca jea spb acb jeb spc acc jec/\List.length ([[mb],[mp],[ml],[mu]]++x.1++[[x3],[x3]])<=8000/\Sm (9000000000000000000:Int) ([[mb],[mp],[ml],[mu]]++x.1++[[x3],[x3]]))/\∀(x5:Bool),x5=wth3 spa aca jea spb acb jeb spc acc jec (qmot (mtr sta oga sga pta bla s0 sg (0:Nat) pk sa d0) (mtr stb ogb sgb ptb blb s1 sg (1:Nat) pk sa d1) (mtr stc ogc sgc ptc blc s2 sg (2:Nat) pk sa d2) ln ([[mb],[mp],[ml],[mu]]++x.1++[[x3],[x3]]))->Q ⟨.ce (.bool x5),false,[],[]⟩)) (R6 (lim*256)/\∀x6,x6=lim*256->Br (mu>x6) (Q ⟨.ce (.bool false),false,[],[]⟩) ((((4:Nat)+List.length x.1)*8<=140737488355328/\(4:Nat)+List.length x.1<=maxLen)/\((List.length ([[mb],[mp],[ml],[mu]]++x.1)+2)*8<=140737488355328/\List.length ([[mb],[mp],[ml],[mu]]++x.1)+2<=maxLen)/\(okPT s0 s1 s2 sg pk ln sa/\okA3 sta oga sga pta bla stb ogb sgb ptb blb stc ogc sgc ptc blc/\okL3 spa aca jea spb acb jeb spc acc jec/\List.length ([[mb],[mp],[ml],[mu]]++x.1++[[mu],[mu]])<=8000/\Sm (9000000000000000000:Int) ([[mb],[mp],[ml],[mu]]++x.1++[[mu],[mu]]))/\∀(x7:Bool),x7=wth3 spa aca jea spb acb jeb spc acc jec (qmot (mtr sta oga sga pta bla s0 sg (0:Nat) pk sa d0) (mtr stb ogb sgb ptb blb s1 sg (1:Nat) pk sa d1) (mtr stc ogc sgc ptc blc s2 sg (2:Nat) pk sa d2) ln ([[mb],[mp],[ml],[mu]]++x.1++[[mu],[mu]]))->Q ⟨.ce (.bool x7),false,[],[]⟩)))):=by kernel_rfl
def SFit(hA:List HV)(pA:List (List HC)):SR:=match hA,pA with
 |[.agg [.int .i64 s0, .int .i64 s1, .int .i64 s2, .sl false [4,4,4,4,4,4,4] sg, .sl false [4,4,4] mk], .agg [.sl false [4,4,4,4,4,4,4,4,4,4] pk, .int .i64 ln, .int .i64 sa, .int .i64 d0, .int .i64 d1, .int .i64 d2], .agg [.int .i64 A, .int .i64 J, .int .i64 R], .agg [.int .i64 fo, .int .i64 ro, .bool ho, .bool so, .bool oo], .agg [.int .i64 mu, .int .i64 mv, .int .i64 ma, .int .i64 ml, .int .i64 mp, .int .i64 mb]],[]=> .det ((okLen sg/\okTrk pk ln/\(0<=sa/\sa<=18014398509481984))/\okPl A J R/\okV mu) ⟨.ce (.bool (qfit A J sg.length (qtg ho fo ro R sg pk sa ln) ⟨mu,mv,ma,ml,mp,mb⟩)),false,[],[]⟩
 |_,_=> .fail
def anFit:LAnn:=⟨[5,6,7,8,10,13,44,45,46],[10],[1000005,1000006,1000007,1000008],false⟩
def LFit(v:LV):LR:=match v with
 |([.ce (.ptr 1000005 0), .ce (.ptr 1000006 0), .ce (.ptr 1000007 0), .ce (.ptr 1000008 0), .ce (.bool y), .ce (.int .i64 u), .ce (.sl false [4] l), .ce (.int .i64 len), .ce (.int .i64 k)],[[.int .i64 s0, .int .i64 s1, .int .i64 s2, .sl false [4,4,4,4,4,4,4] sg, .sl false [4,4,4] mk],[.sl false [4,4,4,4,4,4,4,4,4,4] pk, .int .i64 ln, .int .i64 sa, .int .i64 d0, .int .i64 d1, .int .i64 d2],[.int .i64 A, .int .i64 J, .int .i64 R],[.int .i64 fo, .int .i64 ro, .bool ho, .bool so, .bool oo]])=> .alts (len=l.length/\k=0/\(okLen sg/\okTrk pk ln/\(0<=sa/\sa<=18014398509481984))/\0<sg.length/\∃s,l=qcum u s/\okSpd s/\okV u) [(qfl (qtg ho fo ro R sg pk sa ln) u l=true, .exit 0,([.ce (.bool y)],[[I6 s0,I6 s1,I6 s2, .sl false [4,4,4,4,4,4,4] sg, .sl false [4,4,4] mk],[.sl false [4,4,4,4,4,4,4,4,4,4] pk,I6 ln,I6 sa,I6 d0,I6 d1,I6 d2],[I6 A,I6 J,I6 R],[I6 fo,I6 ro, .bool ho, .bool so, .bool oo]])),(qfl (qtg ho fo ro R sg pk sa ln) u l=false, .ret,([.ce (.bool false)],[[I6 s0,I6 s1,I6 s2, .sl false [4,4,4,4,4,4,4] sg, .sl false [4,4,4] mk],[.sl false [4,4,4,4,4,4,4,4,4,4] pk,I6 ln,I6 sa,I6 d0,I6 d1,I6 d2],[I6 A,I6 J,I6 R],[I6 fo,I6 ro, .bool ho, .bool so, .bool oo]]))]
 |_=> .fail
def tabFit:List (FuncId×HL.Spec):=[(37,SQFut),(95,SQTg)]
noncomputable def CFit:Ctx:=⟨Tryz.prog,gam tabFit,Tryz.f62.ntmps,[(6,anFit,LFit)],[]⟩
theorem vbFit(s0 s1 s2 ln sa d0 d1 d2 A J R fo ro u len k:Int)(ho so oo y:Bool)(sg mk pk l:LL)(K:HEx->LV->Prop):(nbodyT true CFit anFit (nthLoop Tryz.f62 0) (([.ce (.ptr 1000005 0), .ce (.ptr 1000006 0), .ce (.ptr 1000007 0), .ce (.ptr 1000008 0), .ce (.bool y), .ce (I6 u), .ce (.sl false [4] l), .ce (I6 len), .ce (I6 k)],[[I6 s0,I6 s1,I6 s2, .sl false [4,4,4,4,4,4,4] sg, .sl false [4,4,4] mk],[.sl false [4,4,4,4,4,4,4,4,4,4] pk,I6 ln,I6 sa,I6 d0,I6 d1,I6 d2],[I6 A,I6 J,I6 R],[I6 fo,I6 ro, .bool ho, .bool so, .bool oo]])) K)=(Br (k<len) ((0<=k/\k<(l.length:Int))/\∀x1,x1=el l k.toNat->R6 (x1-u)/\∀x2,x2=x1-u->((okLen sg/\okTrk pk ln/\0<=sa/\sa<=18014398509481984)/\(0:Nat)<sg.length/\okU x1)/\∀x3,x3=qtg ho fo ro R sg pk sa ln x1->Br (x2>x3) (K .ret ([.ce (.bool false)],[[I6 s0,I6 s1,I6 s2, .sl false [4,4,4,4,4,4,4] sg, .sl false [4,4,4] mk],[.sl false [4,4,4,4,4,4,4,4,4,4] pk,I6 ln,I6 sa,I6 d0,I6 d1,I6 d2],[I6 A,I6 J,I6 R],[I6 fo,I6 ro, .bool ho, .bool so, .bool oo]])) (R6 (k+1)/\∀x4,x4=k+1->K .normal ([.ce (.ptr 1000005 0), .ce (.ptr 1000006 0), .ce (.ptr 1000007 0), .ce (.ptr 1000008 0), .ce (.bool y), .ce (I6 x1), .ce (.sl false [4] l), .ce (I6 len), .ce (I6 x4)],[[I6 s0,I6 s1,I6 s2, .sl false [4,4,4,4,4,4,4] sg, .sl false [4,4,4] mk],[.sl false [4,4,4,4,4,4,4,4,4,4] pk,I6 ln,I6 sa,I6 d0,I6 d1,I6 d2],[I6 A,I6 J,I6 R],[I6 fo,I6 ro, .bool ho, .bool so, .bool oo]]))) (K (.exit 0) ([.ce (.bool y)],[[I6 s0,I6 s1,I6 s2, .sl false [4,4,4,4,4,4,4] sg, .sl false [4,4,4] mk],[.sl false [4,4,4,4,4,4,4,4,4,4] pk,I6 ln,I6 sa,I6 d0,I6 d1,I6 d2],[I6 A,I6 J,I6 R],[I6 fo,I6 ro, .bool ho, .bool so, .bool oo]]))):=by kernel_rfl
theorem vcFit(s0 s1 s2 ln sa d0 d1 d2 A J R fo ro mu mv ma ml mp mb:Int)(ho so oo:Bool)(sg mk pk:LL)(Q:Res->Prop):(nfun true CFit Tryz.f62 (bodyOf Tryz.f62) [.agg [I6 s0,I6 s1,I6 s2, .sl false [4,4,4,4,4,4,4] sg, .sl false [4,4,4] mk], .agg [.sl false [4,4,4,4,4,4,4,4,4,4] pk,I6 ln,I6 sa,I6 d0,I6 d1,I6 d2], .agg [I6 A,I6 J,I6 R], .agg [I6 fo,I6 ro, .bool ho, .bool so, .bool oo], .agg [I6 mu,I6 mv,I6 ma,I6 ml,I6 mp,I6 mb]] [] Q)=((okPl A J R/\okU mu)/\(∃(x:LL×Bool),x=(qfu A J mu mv ma,qfok A J mv ma))/\∀(x:LL×Bool),x=(qfu A J mu mv ma,qfok A J mv ma)->Bb (!x.2) (Q ⟨.ce (.bool false),false,[],[]⟩) (Bb ((sg.length:Int)==0) (Q ⟨.ce (.bool false),false,[],[]⟩) (((okLen sg/\okTrk pk ln/\0<=sa/\sa<=18014398509481984)/\(0:Nat)<sg.length/\okU mu)/\∀x2,x2=qtg ho fo ro R sg pk sa ln mu->Br (mv>x2) (Q ⟨.ce (.bool false),false,[],[]⟩) (((List.length x.1:Int)=(List.length x.1:Int)/\(0:Int)=0/\(okLen sg/\okTrk pk ln/\0<=sa/\sa<=18014398509481984)/\(0:Nat)<sg.length/\∃(s:LL),x.1=qcum mu s/\okSpd s/\okV mu)/\Bb (qfl (qtg ho fo ro R sg pk sa ln) mu x.1) (Q ⟨.ce (.bool true),false,[],[]⟩) (Q ⟨.ce (.bool false),false,[],[]⟩))))):=by kernel_rfl
end Go.Proofs.YthkoabbiiadbjaaGreat
namespace U
def Lm(sp ac je:Int)(f:Nat->Int)(n:Nat):Prop:=(∀j,j+1<n-> -sp<=f (j+1)-f j/\f (j+1)-f j<=sp)/\(∀j,j+2<n-> -ac<=f (j+2)-2*f (j+1)+f j/\f (j+2)-2*f (j+1)+f j<=ac)/\(∀j,j+3<n-> -je<=f (j+3)-3*f (j+2)+3*f (j+1)-f j/\f (j+3)-3*f (j+2)+3*f (j+1)-f j<=je)
theorem bdd_iff{l:LL}{m:Int}:bdd l m=true↔∀j,j<l.length-> -m<=el l j/\el l j<=m:=by
 unfold bdd bdN;rw[allN_iff];simp only[decide_eq_true_iff]
theorem wth_iff{sp ac je:Int}{l:LL}:wth sp ac je l=true↔Lm sp ac je (el l) l.length:=by
 have e2:∀j,j+2<l.length->el (dfl (dfl l)) j=el l (j+2)-2*el l (j+1)+el l j:=fun j h=>by
  rw[el_dfl (by rw[dfl_len];omega),el_dfl (by omega),el_dfl (by omega),show j+1+1=j+2 from rfl];omega
 have e3:∀j,j+3<l.length->el (dfl (dfl (dfl l))) j=el l (j+3)-3*el l (j+2)+3*el l (j+1)-el l j:=fun j h=>by
  rw[el_dfl (by rw[dfl_len,dfl_len];omega),e2 (j+1) (by omega),e2 j (by omega),show j+1+2=j+3 from rfl,show j+1+1=j+2 from rfl];omega
 unfold wth;rw[Bool.and_eq_true,Bool.and_eq_true,bdd_iff,bdd_iff,bdd_iff];simp only[dfl_len];refine⟨fun⟨a,b,c⟩=>⟨fun j h=> ?_,fun j h=> ?_,fun j h=> ?_⟩,fun⟨a,b,c⟩=>⟨fun j h=> ?_,fun j h=> ?_,fun j h=> ?_⟩⟩
 . have:=a j (by omega);rwa[el_dfl h]at this
 . have:=b j (by omega);rwa[e2 j h]at this
 . have:=c j (by omega);rwa[e3 j h]at this
 . rw[el_dfl (by omega)];exact a j (by omega)
 . rw[e2 j (by omega)];exact b j (by omega)
 . rw[e3 j (by omega)];exact c j (by omega)
theorem Lm_congr{sp ac je:Int}{f g:Nat->Int}{n:Nat}(h:∀j,j<n->f j=g j)(hf:Lm sp ac je f n):Lm sp ac je g n:=by
 obtain⟨a,b,c⟩:=hf;refine⟨fun j hj=> ?_,fun j hj=> ?_,fun j hj=> ?_⟩
 . rw[<-h j (by omega),<-h (j+1) (by omega)];exact a j hj
 . rw[<-h j (by omega),<-h (j+1) (by omega),<-h (j+2) (by omega)];exact b j hj
 . rw[<-h j (by omega),<-h (j+1) (by omega),<-h (j+2) (by omega),<-h (j+3) (by omega)];exact c j hj
theorem wth3_iff{s0 a0 j0 s1 a1 j1 s2 a2 j2:Int}{l:LL}:wth3 s0 a0 j0 s1 a1 j1 s2 a2 j2 l=true↔Lm s0 a0 j0 (fun j=>ec l j 0) l.length/\Lm s1 a1 j1 (fun j=>ec l j 1) l.length/\Lm s2 a2 j2 (fun j=>ec l j 2) l.length:=by
 have k:∀(s a j:Int)(c:Nat),Lm s a j (el (col l c)) (col l c).length↔Lm s a j (fun j=>ec l j c) l.length:=fun s a j c=>by
  rw[col_len];exact⟨Lm_congr fun j h=>el_col h,Lm_congr fun j h=>(el_col h).symm⟩
 unfold wth3;rw[Bool.and_eq_true,Bool.and_eq_true,wth_iff,wth_iff,wth_iff,k,k,k]
theorem Lm_win{sp ac je:Int}{f:Nat->Int}{n:Nat}:Lm sp ac je f (n+1)↔Lm sp ac je f n/\Lm sp ac je (fun j=>f (n+1-4+j)) (n+1-(n+1-4)):=by
 refine⟨fun⟨a,b,c⟩=>⟨⟨fun j h=>a j (by omega),fun j h=>b j (by omega),fun j h=>c j (by omega)⟩,fun j h=>a (n+1-4+j) (by omega),fun j h=>b (n+1-4+j) (by omega),fun j h=>c (n+1-4+j) (by omega)⟩,fun⟨⟨a,b,c⟩,a',b',c'⟩=>⟨fun j h=> ?_,fun j h=> ?_,fun j h=> ?_⟩⟩
 . by_cases hn:j+1<n
   . exact a j hn
   . have:=a' (j-(n+1-4)) (by omega);dsimp only at this;rwa[show n+1-4+(j-(n+1-4))=j by omega,show n+1-4+(j-(n+1-4)+1)=j+1 by omega]at this
 . by_cases hn:j+2<n
   . exact b j hn
   . have:=b' (j-(n+1-4)) (by omega);dsimp only at this;rwa[show n+1-4+(j-(n+1-4))=j by omega,show n+1-4+(j-(n+1-4)+1)=j+1 by omega,show n+1-4+(j-(n+1-4)+2)=j+2 by omega]at this
 . by_cases hn:j+3<n
   . exact c j hn
   . have:=c' (j-(n+1-4)) (by omega);dsimp only at this;rwa[show n+1-4+(j-(n+1-4))=j by omega,show n+1-4+(j-(n+1-4)+1)=j+1 by omega,show n+1-4+(j-(n+1-4)+2)=j+2 by omega,show n+1-4+(j-(n+1-4)+3)=j+3 by omega]at this
theorem Lm_pre{sp ac je:Int}{f:Nat->Int}{n m:Nat}(h:m<=n):Lm sp ac je f n->Lm sp ac je f m:=fun⟨a,b,c⟩=>⟨fun j hj=>a j (by omega),fun j hj=>b j (by omega),fun j hj=>c j (by omega)⟩
theorem win_len(L:LL){i:Nat}(h:i<=L.length):(win L i).length=i-(i-4):=by unfold win;simp;omega
theorem ec_win{L:LL}{i j c:Nat}(h:i<=L.length)(hj:j<i-(i-4)):ec (win L i) j c=ec L (i-4+j) c:=by
 have:(List.drop (i-4) (List.take i L)).getD j []=L.getD (i-4+j) []:=by
  rw[List.getD_eq_getElem?_getD,List.getElem?_drop,List.getElem?_take_of_lt (by omega),<-List.getD_eq_getElem?_getD]
 unfold win ec;rw[this]
theorem win_next{L:LL}{i:Nat}(h:i<L.length):win L i++[L.getD i []]=(L.take (i+1)).drop (i-4):=by
 unfold win;rw[take_next L h [],List.drop_append_of_le_length (by simp;omega)]
theorem ec_take{L:LL}{n j c:Nat}(h:j<n):ec (L.take n) j c=ec L j c:=by
 have:(List.take n L).getD j []=L.getD j []:=by rw[List.getD_eq_getElem?_getD,List.getElem?_take_of_lt h,<-List.getD_eq_getElem?_getD]
 unfold ec;rw[this]
theorem take_len{L:LL}{n:Nat}(h:n<=L.length):(L.take n).length=n:=by simp;omega
theorem wth3_take{s0 a0 j0 s1 a1 j1 s2 a2 j2:Int}{L:LL}{n:Nat}(h:n<=L.length):wth3 s0 a0 j0 s1 a1 j1 s2 a2 j2 (L.take n)=true↔Lm s0 a0 j0 (fun j=>ec L j 0) n/\Lm s1 a1 j1 (fun j=>ec L j 1) n/\Lm s2 a2 j2 (fun j=>ec L j 2) n:=by
 rw[wth3_iff,take_len h];exact⟨fun⟨a,b,c⟩=>⟨Lm_congr (fun j hj=>ec_take hj) a,Lm_congr (fun j hj=>ec_take hj) b,Lm_congr (fun j hj=>ec_take hj) c⟩,fun⟨a,b,c⟩=>⟨Lm_congr (fun j hj=>(ec_take hj).symm) a,Lm_congr (fun j hj=>(ec_take hj).symm) b,Lm_congr (fun j hj=>(ec_take hj).symm) c⟩⟩
theorem wth3_next{s0 a0 j0 s1 a1 j1 s2 a2 j2:Int}{L:LL}{n:Nat}(h:n<L.length):wth3 s0 a0 j0 s1 a1 j1 s2 a2 j2 (L.take (n+1))=true↔wth3 s0 a0 j0 s1 a1 j1 s2 a2 j2 (L.take n)=true/\wth3 s0 a0 j0 s1 a1 j1 s2 a2 j2 (win L (n+1))=true:=by
 rw[wth3_take (by omega),wth3_take (by omega),wth3_iff,win_len L (by omega),Lm_win,Lm_win,Lm_win];have k:∀(s a j:Int)(c:Nat),Lm s a j (fun j=>ec (win L (n+1)) j c) (n+1-(n+1-4))↔Lm s a j (fun j=>ec L (n+1-4+j) c) (n+1-(n+1-4)):=fun s a j c=>⟨Lm_congr fun j hj=>ec_win (by omega) hj,Lm_congr fun j hj=>(ec_win (by omega) hj).symm⟩;rw[k,k,k];exact⟨fun⟨⟨a,b⟩,⟨c,d⟩,e,f⟩=>⟨⟨a,c,e⟩,b,d,f⟩,fun⟨⟨a,c,e⟩,b,d,f⟩=>⟨⟨a,b⟩,⟨c,d⟩,e,f⟩⟩
theorem wth3_le{s0 a0 j0 s1 a1 j1 s2 a2 j2:Int}{L:LL}{n:Nat}(h:n<=L.length)(hf:wth3 s0 a0 j0 s1 a1 j1 s2 a2 j2 (L.take n)=false):wth3 s0 a0 j0 s1 a1 j1 s2 a2 j2 L=false:=by
 cases hw:wth3 s0 a0 j0 s1 a1 j1 s2 a2 j2 L
 . rfl
 . rw[<-List.take_length (l:=L),wth3_take (Nat.le_refl _)]at hw;have:=(wth3_take h).2 ⟨Lm_pre h hw.1,Lm_pre h hw.2.1,Lm_pre h hw.2.2⟩;rw[this]at hf;cases hf
theorem Sm3_win{B:Int}{L:LL}{i:Nat}(h:Sm3 B L)(hi:i<=L.length):Sm3 B (win L i):=fun j hj=>by
 rw[win_len L hi]at hj;rw[ec_win hi hj,ec_win hi hj,ec_win hi hj];exact h _ (by omega)
theorem qmot_len(M0 M1 M2:Int->Int)(ln:Int)(w:LL):(qmot M0 M1 M2 ln w).length=w.length:=by simp[qmot]
theorem qmot_get{M0 M1 M2:Int->Int}{ln:Int}{w:LL}{i:Nat}(h:i<w.length):(qmot M0 M1 M2 ln w).getD i []=[M0 (clamp ln (el w i/256)),M1 (clamp ln (el w i/256)),M2 (clamp ln (el w i/256))]:=by
 unfold qmot el;simp[List.getD_eq_getElem?_getD,h]
theorem Sm3_qmot{B:Int}{M0 M1 M2:Int->Int}{ln:Int}{w:LL}(h0:0<=ln)(h:∀u,0<=u/\u<=ln->(-B<=M0 u/\M0 u<=B)/\(-B<=M1 u/\M1 u<=B)/\(-B<=M2 u/\M2 u<=B)):Sm3 B (qmot M0 M1 M2 ln w):=fun j hj=>by
 rw[qmot_len]at hj;unfold ec;rw[qmot_get hj];exact h _ (clamp_bd h0)
theorem qfl_app{T:Int->Int}{u:Int}{l:LL}{i:Nat}(h:i<l.length)(last:Int):qfl T last (l.drop i)=(decide (el l i-last<=T (el l i))&&qfl T (el l i) (l.drop (i+1))):=by
 rw[drop_next l h []];rfl
theorem qend_bd{u:Int}{s:LL}(h:okSpd s):u<=qend u (qcum u s)/\qend u (qcum u s)<=u+68719476736:=by
 unfold qend;have hl:=h.1;split
 . omega
 . rename_i hn;rw[qcum_len]at hn⊢;rw[el_qcum (by omega)];have:=qsm_bd h (s.length-1+1) (by omega);omega
end U
namespace Go.Proofs.YthkoabbiiadbjaaGreat
open Go Go.HL U
attribute [local irreducible] hfun bodyT fragT
set_option maxHeartbeats 2000000 in theorem loopSmo:∀v Q,(LSmo v).wp Q->hloop CSmo anSmo (nthLoop Tryz.f38 0) v Q:=by
 intro v Q h;unfold LSmo at h;split at h;case h_2=>exact h.elim
 rename_i y z w len k s0 s1 s2 sg mk ax tr;split at h;case h_2=>exact h.elim
 rename_i sta spa aca jea loa hia bla oga sga pta stb spb acb jeb lob hib blb ogb sgb ptb stc spc acc jec loc hic blc ogc sgc ptc;split at h;case h_2=>exact h.elim
 rename_i pk ln sa d0 d1 d2;obtain⟨⟨h1,h2,h3,hp,ha,hli,hw,hs⟩,hq1,hq2⟩:=h;subst h2 h3;obtain rfl:=List.eq_nil_of_length_eq_zero h1;have hb:∀u,0<=u/\u<=ln->(-4398046511104<=mtr sta oga sga pta bla s0 sg 0 pk sa d0 u/\mtr sta oga sga pta bla s0 sg 0 pk sa d0 u<=4398046511104)/\(-4398046511104<=mtr stb ogb sgb ptb blb s1 sg 1 pk sa d1 u/\mtr stb ogb sgb ptb blb s1 sg 1 pk sa d1 u<=4398046511104)/\(-4398046511104<=mtr stc ogc sgc ptc blc s2 sg 2 pk sa d2 u/\mtr stc ogc sgc ptc blc s2 sg 2 pk sa d2 u<=4398046511104):=fun u hu=>⟨mtr_bd hp.1 hp.2.1.1 (fun j hj=>(hp.2.1.2.2.2 j hj).1) hp.2.2.1 ha.1 hu,mtr_bd hp.1 hp.2.1.2.1 (fun j hj=>(hp.2.1.2.2.2 j hj).2.1) hp.2.2.1 ha.2.1 hu,mtr_bd hp.1 hp.2.1.2.2.1 (fun j hj=>(hp.2.1.2.2.2 j hj).2.2) hp.2.2.1 ha.2.2 hu⟩;have hS:Sm3 1125899906842624 (qmot (mtr sta oga sga pta bla s0 sg 0 pk sa d0) (mtr stb ogb sgb ptb blb s1 sg 1 pk sa d1) (mtr stc ogc sgc ptc blc s2 sg 2 pk sa d2) ln w):=Sm3_qmot hp.2.2.1.2.1.1 (fun u hu=>by have:=hb u hu;omega);have hg:=fun i(hi:i<w.length)=>qmot_get (M0:=mtr sta oga sga pta bla s0 sg 0 pk sa d0) (M1:=mtr stb ogb sgb ptb blb s1 sg 1 pk sa d1) (M2:=mtr stc ogc sgc ptc blc s2 sg 2 pk sa d2) (ln:=ln) hi;have hL:=qmot_len (mtr sta oga sga pta bla s0 sg 0 pk sa d0) (mtr stb ogb sgb ptb blb s1 sg 1 pk sa d1) (mtr stc ogc sgc ptc blc s2 sg 2 pk sa d2) ln w;generalize hLe:qmot (mtr sta oga sga pta bla s0 sg 0 pk sa d0) (mtr stb ogb sgb ptb blb s1 sg 1 pk sa d1) (mtr stc ogc sgc ptc blc s2 sg 2 pk sa d2) ln w=L at*;refine hloop_rec (σ:=Nat) (fun i=>([.ce (.ptr 1000004 0), .ce (.ptr 1000005 0), .ce (.ptr 1000006 0), .ce (.bool y), .ce (.sl false [4,4,4] (win L i)), .ce (.lit true), .ce (.sl false [4] w), .ce (I6 (w.length:Int)), .ce (I6 (i:Int))],[[I6 s0,I6 s1,I6 s2, .sl false [4,4,4,4,4,4,4] sg, .sl false [4,4,4] mk],[I6 sta,I6 spa,I6 aca,I6 jea,I6 loa,I6 hia,I6 bla,I6 oga,I6 sga, .sl false [4] pta,I6 stb,I6 spb,I6 acb,I6 jeb,I6 lob,I6 hib,I6 blb,I6 ogb,I6 sgb, .sl false [4] ptb,I6 stc,I6 spc,I6 acc,I6 jec,I6 loc,I6 hic,I6 blc,I6 ogc,I6 sgc, .sl false [4] ptc],[.sl false [4,4,4,4,4,4,4,4,4,4] pk,I6 ln,I6 sa,I6 d0,I6 d1,I6 d2]])) (fun i=>w.length-i) (fun i=>i<=w.length/\wth3 spa aca jea spb acb jeb spc acc jec (L.take i)=true) ?_ 0 ⟨Nat.zero_le _,by rw[wth3_take (Nat.zero_le _)];exact⟨⟨fun j hj=>by omega,fun j hj=>by omega,fun j hj=>by omega⟩,⟨fun j hj=>by omega,fun j hj=>by omega,fun j hj=>by omega⟩,⟨fun j hj=>by omega,fun j hj=>by omega,fun j hj=>by omega⟩⟩⟩;intro i⟨hi,hI⟩K hn hx hr;refine byVB (vbSmo s0 s1 s2 w.length i ln sa d0 d1 d2 y sg mk pk (win L i) w sta spa aca jea loa hia bla oga sga stb spb acb jeb lob hib blb ogb sgb stc spc acc jec loc hic blc ogc sgc pta ptb ptc K) ⟨fun g=> ?_,fun g=> ?_⟩
 . have g:=odt g;have hil:i<w.length:=by omega
   have hb1:=hs i hil;refine⟨by omega,fun x1 e1=> ?_⟩;have e1:x1=el w i:=e1;refine⟨by omega,fun x2 e2=>⟨⟨hp.1,hp.2.1,hp.2.2.1,ha.1,ha.2.1,ha.2.2,hp.2.2.2⟩,fun x3 e3 x4 e4 x5 e5=> ?_⟩⟩;have er:[x3,x4,x5]=L.getD i []:=by rw[hg i hil,e3,e4,e5,e2,e1];rfl
   rw[er,win_next (by omega)];have wl:=win_len L (i:=i) (by omega);have dl:(List.drop (i-4) (List.take (i+1) L)).length=i+1-(i-4):=by simp;omega
   have step:∀(k:Int),k=(i:Int)+1->∀x6:Bool,x6=wth3 spa aca jea spb acb jeb spc acc jec (win L (i+1))->(((!x6)=true->K .ret ([.ce (.bool false)],[[I6 s0,I6 s1,I6 s2, .sl false [4,4,4,4,4,4,4] sg, .sl false [4,4,4] mk],[I6 sta,I6 spa,I6 aca,I6 jea,I6 loa,I6 hia,I6 bla,I6 oga,I6 sga, .sl false [4] pta,I6 stb,I6 spb,I6 acb,I6 jeb,I6 lob,I6 hib,I6 blb,I6 ogb,I6 sgb, .sl false [4] ptb,I6 stc,I6 spc,I6 acc,I6 jec,I6 loc,I6 hic,I6 blc,I6 ogc,I6 sgc, .sl false [4] ptc],[.sl false [4,4,4,4,4,4,4,4,4,4] pk,I6 ln,I6 sa,I6 d0,I6 d1,I6 d2]]))/\((!x6)=false->K .normal ([.ce (.ptr 1000004 0), .ce (.ptr 1000005 0), .ce (.ptr 1000006 0), .ce (.bool y), .ce (.sl false [4,4,4] (win L (i+1))), .ce (.lit true), .ce (.sl false [4] w), .ce (I6 (w.length:Int)), .ce (I6 k)],[[I6 s0,I6 s1,I6 s2, .sl false [4,4,4,4,4,4,4] sg, .sl false [4,4,4] mk],[I6 sta,I6 spa,I6 aca,I6 jea,I6 loa,I6 hia,I6 bla,I6 oga,I6 sga, .sl false [4] pta,I6 stb,I6 spb,I6 acb,I6 jeb,I6 lob,I6 hib,I6 blb,I6 ogb,I6 sgb, .sl false [4] ptb,I6 stc,I6 spc,I6 acc,I6 jec,I6 loc,I6 hic,I6 blc,I6 ogc,I6 sgc, .sl false [4] ptc],[.sl false [4,4,4,4,4,4,4,4,4,4] pk,I6 ln,I6 sa,I6 d0,I6 d1,I6 d2]]))):=by
    intro k ek x6 e6;have nx:=wth3_next (s0:=spa) (a0:=aca) (j0:=jea) (s1:=spb) (a1:=acb) (j1:=jeb) (s2:=spc) (a2:=acc) (j2:=jec) (L:=L) (n:=i) (by omega);refine⟨fun g6=>hr _ (hq2 (wth3_le (n:=i+1) (by omega) ?_)),fun g6=> ?_⟩
    . cases hc:wth3 spa aca jea spb acb jeb spc acc jec (L.take (i+1))
      . rfl
      . have:=(nx.1 hc).2;rw[<-e6]at this;rw[this]at g6;cases g6
    . have:=hn (i+1) ⟨hil,nx.2 ⟨hI,by rw[<-e6];cases x6<;>simp at g6⊢⟩⟩ (by omega);rw[show((i+1:Nat):Int)=k by omega]at this;exact this
   refine⟨⟨by omega,by unfold maxLen;omega⟩,fun g4=> ?_,fun g4=> ?_⟩
   . have g4:=odt g4;rw[dl]at g4;have ew:List.drop 1 (List.drop (i-4) (List.take (i+1) L))=win L (i+1):=by unfold win;rw[List.drop_drop,show i-4+1=i+1-4 by omega]
     rw[ew];refine⟨by rw[dl];omega,⟨by rw[win_len L (by omega)];omega,Sm3_win hS (by omega),hli⟩,fun x6 e6=> ?_⟩;have:=step ((i:Int)+1) rfl x6 e6;exact⟨this.1,fun g6=>⟨by omega,fun x7 e7=>by rw[e7];exact this.2 g6⟩⟩
   . have g4:=odf g4;rw[dl]at g4;have ew:List.drop (i-4) (List.take (i+1) L)=win L (i+1):=by unfold win;rw[show i-4=i+1-4 by omega]
     rw[ew];refine⟨⟨by rw[win_len L (by omega)];omega,Sm3_win hS (by omega),hli⟩,fun x6 e6=> ?_⟩;have:=step ((i:Int)+1) rfl x6 e6;exact⟨this.1,fun g6=>⟨by omega,fun x7 e7=>by rw[e7];exact this.2 g6⟩⟩
 . have g:=odf g;obtain rfl:i=w.length:=by omega
   rw[<-hL,List.take_length]at hI;exact hx _ _ (hq1 hI)
theorem sSmo:Sound Tryz.prog 38 SSmo:=by
 refine sound_of (C:=CSmo) tabSmo Tryz.func38 (by kernel_rfl) (by decide+kernel) (by kernel_rfl) rfl ⟨sQUnit,sMotors,sAll,trivial⟩ (loops1 (by kernel_rfl) (loopOK_of (an:=anSmo) (S:=LSmo) (by kernel_rfl) loopSmo)) ?_;intro hA pA R h;unfold SSmo at h;split at h;case h_2=>exfalso;exact h
 rename_i s0 s1 s2 sg mk ax pk ln sa d0 d1 d2 w;split at h;case h_2=>exact h.elim
 rename_i sta spa aca jea loa hia bla oga sga pta stb spb acb jeb lob hib blb ogb sgb ptb stc spc acc jec loc hic blc ogc sgc ptc;obtain⟨hp,hR⟩:=h;exact byVC (vcSmo s0 s1 s2 ln sa d0 d1 d2 sg mk pk w sta spa aca jea loa hia bla oga sga stb spb acb jeb lob hib blb ogb sgb stc spc acc jec loc hic blc ogc sgc pta ptb ptc R) ⟨⟨rfl,rfl,rfl,hp⟩,fun e=>by rw[e]at hR;exact hR,fun e=>by rw[e]at hR;exact hR⟩
set_option maxHeartbeats 2000000 in theorem sSafe:Sound Tryz.prog 14 SSafe:=by
 refine sound_of (C:=CSafe) tabSafe Tryz.func14 (by kernel_rfl) (by decide+kernel) (by kernel_rfl) rfl ⟨sQFut,sSmo,trivial⟩ (loops0 (by kernel_rfl)) ?_;intro hA pA R h;unfold SSafe at h;split at h;case h_2=>exfalso;exact h
 rename_i s0 s1 s2 sg mk ax pk ln sa d0 d1 d2 A J Rp mu mv ma ml mp mb lim;split at h;case h_2=>exact h.elim
 rename_i sta spa aca jea loa hia bla oga sga pta stb spb acb jeb lob hib blb ogb sgb ptb stc spc acc jec loc hic blc ogc sgc ptc;obtain⟨⟨⟨hp,ha,hli⟩,hpl,⟨hu,hml,hmp,hmb⟩,hlim⟩,hR⟩:=h;refine byVC (vcSafe s0 s1 s2 ln sa d0 d1 d2 A J Rp mu mv ma ml mp mb lim sg mk pk sta spa aca jea loa hia bla oga sga stb spb acb jeb lob hib blb ogb sgb stc spc acc jec loc hic blc ogc sgc pta ptb ptc R) ⟨⟨hpl,hu⟩,⟨_,rfl⟩,fun x e=> ?_⟩;subst e;have hs:=qsp_spd (v:=mv) (a:=ma) hpl;have hl:(qfu A J mu mv ma).length<=4096:=by unfold qfu;rw[qcum_len];exact hs.1
 have hel:∀j,j<(qfu A J mu mv ma).length-> -9000000000000000000<=el (qfu A J mu mv ma) j/\el (qfu A J mu mv ma) j<=9000000000000000000:=fun j hj=>by
  unfold qfu at hj⊢;rw[qcum_len]at hj;rw[el_qcum hj];have:=qsm_bd hs (j+1) (by omega);have:=hs.1;unfold okU at hu;omega
 have he:=qend_bd (u:=mu) hs;rw[show qcum mu (qsp A J mv ma)=qfu A J mu mv ma from rfl]at he;unfold qsafe at hR;refine⟨fun g=> ?_,fun g=> ?_⟩
 . have g:qfok A J mv ma=false:=by simpa using g
   simp only[g,Bool.false_and]at hR;exact hR
 have g:qfok A J mv ma=true:=by simpa using g
 simp only[g,Bool.true_and]at hR;have tail:∀(x3:Int),x3=qend mu (qfu A J mu mv ma)->(-9223372036854775808<=lim*256/\lim*256<=9223372036854775807)/\∀(x4:Int),x4=lim*256->(decide (x3>x4)=true->R ⟨.ce (.bool false),false,[],[]⟩)/\(decide (x3>x4)=false->((4+(qfu A J mu mv ma).length)*8<=140737488355328/\4+(qfu A J mu mv ma).length<=maxLen)/\((([[mb],[mp],[ml],[mu]]++qfu A J mu mv ma).length+2)*8<=140737488355328/\([[mb],[mp],[ml],[mu]]++qfu A J mu mv ma).length+2<=maxLen)/\(okPT s0 s1 s2 sg pk ln sa/\okA3 sta oga sga pta bla stb ogb sgb ptb blb stc ogc sgc ptc blc/\okL3 spa aca jea spb acb jeb spc acc jec/\([[mb],[mp],[ml],[mu]]++qfu A J mu mv ma++[[x3],[x3]]).length<=8000/\Sm 9000000000000000000 ([[mb],[mp],[ml],[mu]]++qfu A J mu mv ma++[[x3],[x3]]))/\∀(x5:Bool),x5=wth3 spa aca jea spb acb jeb spc acc jec (qmot (mtr sta oga sga pta bla s0 sg 0 pk sa d0) (mtr stb ogb sgb ptb blb s1 sg 1 pk sa d1) (mtr stc ogc sgc ptc blc s2 sg 2 pk sa d2) ln ([[mb],[mp],[ml],[mu]]++qfu A J mu mv ma++[[x3],[x3]]))->R ⟨.ce (.bool x5),false,[],[]⟩):=by
  intro x3 e3;refine⟨by omega,fun x4 e4=>⟨fun g3=> ?_,fun g3=>⟨⟨by omega,by unfold maxLen;omega⟩,⟨by simp;omega,by simp;unfold maxLen;omega⟩,⟨hp,ha,hli,by simp;omega,?_⟩,fun x5 e5=> ?_⟩⟩⟩
  . have g3:=odt g3;rw[decide_eq_false (by omega),Bool.false_and]at hR;exact hR
  . unfold okU at hu hml hmp hmb;intro j hj;rw[List.append_assoc,el_append];split
    . rename_i hj4;have hj4:j<4:=hj4;rcases(by omega:j=0∨j=1∨j=2∨j=3)with rfl|rfl|rfl|rfl
      . show-9000000000000000000<=mb/\mb<=9000000000000000000;omega
      . show-9000000000000000000<=mp/\mp<=9000000000000000000;omega
      . show-9000000000000000000<=ml/\ml<=9000000000000000000;omega
      . show-9000000000000000000<=mu/\mu<=9000000000000000000;omega
    . rw[el_append];split
      . rename_i h2;exact hel _ h2
      . rename_i h1 h2;simp at hj h1 h2;rcases(by omega:j-4-(qfu A J mu mv ma).length=0∨j-4-(qfu A J mu mv ma).length=1)with h5|h5
        . rw[show List.length [[mb],[mp],[ml],[mu]]=4 from rfl,h5];show-9000000000000000000<=x3/\x3<=9000000000000000000;omega
        . rw[show List.length [[mb],[mp],[ml],[mu]]=4 from rfl,h5];show-9000000000000000000<=x3/\x3<=9000000000000000000;omega
  . have g3:=odf g3;rw[decide_eq_true (by omega),Bool.true_and]at hR;rw[e5,e3];exact hR
 dsimp only;refine⟨fun g2=>⟨by omega,fun x2 e2=>⟨by have:=odt g2;omega,fun x3 e3=>tail x3 ?_⟩⟩,fun g2=>tail mu ?_⟩
 . have g2:=odt g2;unfold qend;rw[if_neg (by omega),e3,show x2.toNat=(qfu A J mu mv ma).length-1 by omega]
 . have g2:=odf g2;unfold qend;rw[if_pos (by omega)]
theorem loopFit:∀v Q,(LFit v).wp Q->hloop CFit anFit (nthLoop Tryz.f62 0) v Q:=by
 intro v Q h;unfold LFit at h;split at h;case h_2=>exact h.elim
 rename_i y u l len k s0 s1 s2 sg mk pk ln sa d0 d1 d2 A J Rp fo ro ho so oo;obtain⟨⟨h1,h2,hp,h0,s,hl,hs,hu⟩,hq1,hq2⟩:=h;subst h1 h2;have hll:l.length=s.length:=by rw[hl,qcum_len]
 have hsl:=hs.1;have ee:∀i,i<l.length->el l i=u+qsm s i+el s i:=fun i hi=>by rw[hl,el_qcum (by omega),qsm];omega
 have e0:u=u+qsm s 0:=by simp[qsm]
 refine Eq.mp (by rw[<-e0];rfl) (hloop_rec (C:=CFit) (an:=anFit) (c:=nthLoop Tryz.f62 0) (Q:=Q) (σ:=Nat) (fun i=>([.ce (.ptr 1000005 0), .ce (.ptr 1000006 0), .ce (.ptr 1000007 0), .ce (.ptr 1000008 0), .ce (.bool y), .ce (I6 (u+qsm s i)), .ce (.sl false [4] l), .ce (I6 (l.length:Int)), .ce (I6 (i:Int))],[[I6 s0,I6 s1,I6 s2, .sl false [4,4,4,4,4,4,4] sg, .sl false [4,4,4] mk],[.sl false [4,4,4,4,4,4,4,4,4,4] pk,I6 ln,I6 sa,I6 d0,I6 d1,I6 d2],[I6 A,I6 J,I6 Rp],[I6 fo,I6 ro, .bool ho, .bool so, .bool oo]])) (fun i=>l.length-i) (fun i=>i<=l.length/\qfl (qtg ho fo ro Rp sg pk sa ln) u l=qfl (qtg ho fo ro Rp sg pk sa ln) (u+qsm s i) (l.drop i)) ?_ 0 ⟨Nat.zero_le _,by rw[<-e0];rfl⟩);intro i⟨hi,hI⟩K hn hx hr;refine byVB (vbFit s0 s1 s2 ln sa d0 d1 d2 A J Rp fo ro (u+qsm s i) l.length i ho so oo y sg mk pk l K) ⟨fun g=> ?_,fun g=> ?_⟩
 . have g:=odt g;have hil:i<l.length:=by omega
   have b:=qsm_bd hs i (by omega);have c:=hs.2 i (by omega);have e:=ee i hil;rw[qfl_app (u:=u) hil]at hI;unfold okV at hu;refine⟨by omega,fun x1 e1=> ?_⟩;have e1:x1=el l i:=e1;refine⟨by omega,fun x2 e2=>⟨⟨hp,h0,by unfold okU;omega⟩,fun x3 e3=>⟨fun g2=>hr _ (hq2 ?_),fun g2=>⟨by omega,fun x4 e4=> ?_⟩⟩⟩⟩
   . have g2:=odt g2;rw[hI,<-e1,decide_eq_false (by omega),Bool.false_and]
   . have g2:=odf g2;have e9:el l i=u+qsm s (i+1):=by rw[qsm];omega
     have:=hn (i+1) ⟨hil,by rw[hI,<-e9,<-e1,decide_eq_true (by omega),Bool.true_and]⟩ (by omega);rw[<-e9,<-e1,show((i+1:Nat):Int)=x4 by omega]at this;exact this
 . have g:=odf g;obtain rfl:i=l.length:=by omega
   rw[List.drop_length]at hI;exact hx _ _ (hq1 hI)
theorem sFit:Sound Tryz.prog 62 SFit:=by
 refine sound_of (C:=CFit) tabFit Tryz.func62 (by kernel_rfl) (by decide+kernel) (by kernel_rfl) rfl ⟨sQFut,sQTg,trivial⟩ (loops1 (by kernel_rfl) (loopOK_of (an:=anFit) (S:=LFit) (by kernel_rfl) loopFit)) ?_;intro hA pA R h;unfold SFit at h;split at h;case h_2=>exfalso;exact h
 rename_i s0 s1 s2 sg mk pk ln sa d0 d1 d2 A J Rp fo ro ho so oo mu mv ma ml mp mb;obtain⟨⟨hp,hpl,hu⟩,hR⟩:=h;have hu':okU mu:=by unfold okV at hu;unfold okU;omega
 refine byVC (vcFit s0 s1 s2 ln sa d0 d1 d2 A J Rp fo ro mu mv ma ml mp mb ho so oo sg mk pk R) ⟨⟨hpl,hu'⟩,⟨_,rfl⟩,fun x e=> ?_⟩;subst e;unfold qfit at hR;refine⟨fun g=> ?_,fun g=> ?_⟩
 . have g:qfok A J mv ma=false:=by simpa using g
   simp only[g,Bool.false_and]at hR;exact hR
 have g:qfok A J mv ma=true:=by simpa using g
 simp only[g,Bool.true_and]at hR;refine⟨fun g2=> ?_,fun g2=> ?_⟩
 . have g2:sg.length=0:=by simpa using g2
   rw[decide_eq_false (by omega),Bool.false_and]at hR;exact hR
 have g2:sg.length≠0:=by simpa using g2
 rw[decide_eq_true (by omega),Bool.true_and]at hR;refine⟨⟨hp,by omega,hu'⟩,fun x2 e2=>⟨fun g3=> ?_,fun g3=>⟨⟨rfl,rfl,hp,by omega,qsp A J mv ma,rfl,qsp_spd hpl,hu⟩,fun g4=> ?_,fun g4=> ?_⟩⟩⟩
 . have g3:=odt g3;rw[decide_eq_false (by omega),Bool.false_and]at hR;exact hR
 . have g3:=odf g3;rw[decide_eq_true (by omega),Bool.true_and,g4]at hR;exact hR
 . have g3:=odf g3;rw[decide_eq_true (by omega),Bool.true_and,g4]at hR;exact hR
end Go.Proofs.YthkoabbiiadbjaaGreat
namespace U
open Go
def qok(A J:Int)(W:LL->Bool)(Mo:LL->LL)(n:Nat)(T:Int->Int)(m:QM)(lim k:Int):Bool:=decide (0<=m.v+(m.a+k))&&(qready A J (m.v+(m.a+k)) (m.a+k)&&(qfit A J n T (qmove m (m.v+(m.a+k)))&&qsafe A J W Mo (qmove m (m.v+(m.a+k))) lim))
def qpick(ok:Int->Bool):LL->Option Int
 |[]=>none
 |r::l=>if ok (r.getD 0 0)=true then some (r.getD 0 0)else qpick ok l
def qnext(A J:Int)(W:LL->Bool)(Mo:LL->LL)(n:Nat)(T:Int->Int)(m:QM)(lim:Int):QM:=match qpick (qok A J W Mo n T m lim) (chg J)with
 |some k=>qmove m (m.v+(m.a+k))
 |none=>qmove m (m.v+qbrk A J m.v m.a)
def okN(m:QM):Prop:=(-4800000000000000000<=m.u/\m.u<=4800000000000000000)/\(-549755813888<=m.v/\m.v<=549755813888)/\(-549755813888<=m.a/\m.a<=549755813888)/\okU m.l/\okU m.p
def qpk(ok:Int->Bool)(m:QM)(l:LL)(x:Bool×QM):Prop:=(∃k,qpick ok l=some k/\x=(true,qmove m (m.v+(m.a+k))))∨(qpick ok l=none/\x.1=false)
end U
namespace Go.Proofs.YthkoabbiiadbjaaGreat
open Go Go.HL U
def SPNext(hargs:List HV)(pars:List (List HC)):SR:=match hargs,pars with
 |[.agg [.int .i64 s0, .int .i64 s1, .int .i64 s2, .sl false [4,4,4,4,4,4,4] sg, .sl false [4,4,4] mk], .agg ax, .agg [.sl false [4,4,4,4,4,4,4,4,4,4] pk, .int .i64 ln, .int .i64 sa, .int .i64 d0, .int .i64 d1, .int .i64 d2], .agg [.int .i64 A, .int .i64 J, .int .i64 R], .agg [.int .i64 fo, .int .i64 ro, .bool ho, .bool so, .bool oo], .agg [.int .i64 mu, .int .i64 mv, .int .i64 ma, .int .i64 ml, .int .i64 mp, .int .i64 mb], .ce (.int .i64 lim)],[]=>match ax with
  |[.int .i64 sta, .int .i64 spa, .int .i64 aca, .int .i64 jea, .int .i64 loa, .int .i64 hia, .int .i64 bla, .int .i64 oga, .int .i64 sga, .sl false [4] pta, .int .i64 stb, .int .i64 spb, .int .i64 acb, .int .i64 jeb, .int .i64 lob, .int .i64 hib, .int .i64 blb, .int .i64 ogb, .int .i64 sgb, .sl false [4] ptb, .int .i64 stc, .int .i64 spc, .int .i64 acc, .int .i64 jec, .int .i64 loc, .int .i64 hic, .int .i64 blc, .int .i64 ogc, .int .i64 sgc, .sl false [4] ptc]=> .all ((okPT s0 s1 s2 sg pk ln sa/\okA3 sta oga sga pta bla stb ogb sgb ptb blb stc ogc sgc ptc blc/\okL3 spa aca jea spb acb jeb spc acc jec)/\okPl A J R/\okN ⟨mu,mv,ma,ml,mp,mb⟩/\(0<=lim/\lim<=18014398509481984)) QM (fun x=>x=qnext A J (wth3 spa aca jea spb acb jeb spc acc jec) (qmot (mtr sta oga sga pta bla s0 sg 0 pk sa d0) (mtr stb ogb sgb ptb blb s1 sg 1 pk sa d1) (mtr stc ogc sgc ptc blc s2 sg 2 pk sa d2) ln) sg.length (qtg ho fo ro R sg pk sa ln) ⟨mu,mv,ma,ml,mp,mb⟩ lim) (fun x=>⟨.agg [I6 x.u,I6 x.v,I6 x.a,I6 x.l,I6 x.p,I6 x.b],false,[],[]⟩)
  |_=> .fail
 |_,_=> .fail
def anNx:LAnn:=⟨[6,7,8,9,10,11,12,14,15,16,23,24,25],[10,12,14,15,16],[1000007,1000008,1000009,1000010,1000011,1000012,1000014,1000015],false⟩
set_option maxHeartbeats 4000000 in def LNx(v:LV):LR:=match v with
 |([.ce (.int .i64 lim), .ce (.ptr 1000007 0), .ce (.ptr 1000008 0), .ce (.ptr 1000009 0), .ce (.ptr 1000010 0), .ce (.ptr 1000011 0), .ce (.ptr 1000012 0), .ce (.ptr 1000014 0), .ce (.ptr 1000015 0), .ce (.bool y), .ce (.sl false [4] l), .ce (.int .i64 len), .ce (.int .i64 i)],[[.int .i64 s0, .int .i64 s1, .int .i64 s2, .sl false [4,4,4,4,4,4,4] sg, .sl false [4,4,4] mk],ax,tr,[.int .i64 A, .int .i64 J, .int .i64 R],[.int .i64 fo, .int .i64 ro, .bool ho, .bool so, .bool oo],[.int .i64 mu, .int .i64 mv, .int .i64 ma, .int .i64 ml, .int .i64 mp, .int .i64 mb],[.int .i64 z0, .int .i64 z1, .int .i64 z2, .int .i64 z3, .int .i64 z4, .int .i64 z5],[.int .i64 f0, .int .i64 f1, .int .i64 f2, .int .i64 f3, .int .i64 f4, .int .i64 f5]])=>match ax with
  |[.int .i64 sta, .int .i64 spa, .int .i64 aca, .int .i64 jea, .int .i64 loa, .int .i64 hia, .int .i64 bla, .int .i64 oga, .int .i64 sga, .sl false [4] pta, .int .i64 stb, .int .i64 spb, .int .i64 acb, .int .i64 jeb, .int .i64 lob, .int .i64 hib, .int .i64 blb, .int .i64 ogb, .int .i64 sgb, .sl false [4] ptb, .int .i64 stc, .int .i64 spc, .int .i64 acc, .int .i64 jec, .int .i64 loc, .int .i64 hic, .int .i64 blc, .int .i64 ogc, .int .i64 sgc, .sl false [4] ptc]=>match tr with
   |[.sl false [4,4,4,4,4,4,4,4,4,4] pk, .int .i64 ln, .int .i64 sa, .int .i64 d0, .int .i64 d1, .int .i64 d2]=> .all ((okPT s0 s1 s2 sg pk ln sa/\okA3 sta oga sga pta bla stb ogb sgb ptb blb stc ogc sgc ptc blc/\okL3 spa aca jea spb acb jeb spc acc jec)/\okPl A J R/\okN ⟨mu,mv,ma,ml,mp,mb⟩/\(0<=lim/\lim<=18014398509481984)/\y=false/\len=l.length/\i=0/\l.length<=200000/\Sm 65536 l) (Bool×QM) (qpk (qok A J (wth3 spa aca jea spb acb jeb spc acc jec) (qmot (mtr sta oga sga pta bla s0 sg 0 pk sa d0) (mtr stb ogb sgb ptb blb s1 sg 1 pk sa d1) (mtr stc ogc sgc ptc blc s2 sg 2 pk sa d2) ln) sg.length (qtg ho fo ro R sg pk sa ln) ⟨mu,mv,ma,ml,mp,mb⟩ lim) ⟨mu,mv,ma,ml,mp,mb⟩ l) (fun _=> .exit 0) (fun x=>([.ce (.ptr 1000010 0), .ce (.ptr 1000012 0), .ce (.ptr 1000014 0), .ce (.ptr 1000015 0), .ce (.bool x.1)],[[I6 s0,I6 s1,I6 s2, .sl false [4,4,4,4,4,4,4] sg, .sl false [4,4,4] mk],[I6 sta,I6 spa,I6 aca,I6 jea,I6 loa,I6 hia,I6 bla,I6 oga,I6 sga, .sl false [4] pta,I6 stb,I6 spb,I6 acb,I6 jeb,I6 lob,I6 hib,I6 blb,I6 ogb,I6 sgb, .sl false [4] ptb,I6 stc,I6 spc,I6 acc,I6 jec,I6 loc,I6 hic,I6 blc,I6 ogc,I6 sgc, .sl false [4] ptc],[.sl false [4,4,4,4,4,4,4,4,4,4] pk,I6 ln,I6 sa,I6 d0,I6 d1,I6 d2],[I6 A,I6 J,I6 R],[I6 fo,I6 ro, .bool ho, .bool so, .bool oo],[I6 mu,I6 mv,I6 ma,I6 ml,I6 mp,I6 mb],[I6 z0,I6 z1,I6 z2,I6 z3,I6 z4,I6 z5],[I6 x.2.u,I6 x.2.v,I6 x.2.a,I6 x.2.l,I6 x.2.p,I6 x.2.b]]))
   |_=> .fail
  |_=> .fail
 |_=> .fail
def tabNx:List (FuncId×HL.Spec):=[(60,SChg),(61,SQReady),(27,SQMove),(62,SFit),(14,SSafe),(29,SQBrake)]
noncomputable def CNx:Ctx:=⟨Tryz.prog,gam tabNx,Tryz.f30.ntmps,[(4,anNx,LNx)],[]⟩
theorem vbNx(s0 s1 s2 ln sa d0 d1 d2 A J R fo ro mu mv ma ml mp mb lim len i z0 z1 z2 z3 z4 z5 f0 f1 f2 f3 f4 f5:Int)(ho so oo y:Bool)(sg mk pk l:LL)(sta spa aca jea loa hia bla oga sga stb spb acb jeb lob hib blb ogb sgb stc spc acc jec loc hic blc ogc sgc:Int)(pta ptb ptc:LL)(K:HEx->LV->Prop):(nbodyT true CNx anNx (nthLoop Tryz.f30 0) (([.ce (I6 lim), .ce (.ptr 1000007 0), .ce (.ptr 1000008 0), .ce (.ptr 1000009 0), .ce (.ptr 1000010 0), .ce (.ptr 1000011 0), .ce (.ptr 1000012 0), .ce (.ptr 1000014 0), .ce (.ptr 1000015 0), .ce (.bool y), .ce (.sl false [4] l), .ce (I6 len), .ce (I6 i)],[[I6 s0,I6 s1,I6 s2, .sl false [4,4,4,4,4,4,4] sg, .sl false [4,4,4] mk],[I6 sta,I6 spa,I6 aca,I6 jea,I6 loa,I6 hia,I6 bla,I6 oga,I6 sga, .sl false [4] pta,I6 stb,I6 spb,I6 acb,I6 jeb,I6 lob,I6 hib,I6 blb,I6 ogb,I6 sgb, .sl false [4] ptb,I6 stc,I6 spc,I6 acc,I6 jec,I6 loc,I6 hic,I6 blc,I6 ogc,I6 sgc, .sl false [4] ptc],[.sl false [4,4,4,4,4,4,4,4,4,4] pk,I6 ln,I6 sa,I6 d0,I6 d1,I6 d2],[I6 A,I6 J,I6 R],[I6 fo,I6 ro, .bool ho, .bool so, .bool oo],[I6 mu,I6 mv,I6 ma,I6 ml,I6 mp,I6 mb],[I6 z0,I6 z1,I6 z2,I6 z3,I6 z4,I6 z5],[I6 f0,I6 f1,I6 f2,I6 f3,I6 f4,I6 f5]])) K)=(Br (i<len) ((0<=i/\i<(l.length:Int))/\∀x1,x1=el l i.toNat->R6 (ma+x1)/\∀x2,x2=ma+x1->R6 (mv+x2)/\∀x3,x3=mv+x2->Br (x3<0) (R6 (i+1)/\∀x4,x4=i+1->K .normal ([.ce (I6 lim), .ce (.ptr 1000007 0), .ce (.ptr 1000008 0), .ce (.ptr 1000009 0), .ce (.ptr 1000010 0), .ce (.ptr 1000011 0), .ce (.ptr 1000012 0), .ce (.ptr 1000014 0), .ce (.ptr 1000015 0), .ce (.bool y), .ce (.sl false [4] l), .ce (I6 len), .ce (I6 x4)],[[I6 s0,I6 s1,I6 s2, .sl false [4,4,4,4,4,4,4] sg, .sl false [4,4,4] mk],[I6 sta,I6 spa,I6 aca,I6 jea,I6 loa,I6 hia,I6 bla,I6 oga,I6 sga, .sl false [4] pta,I6 stb,I6 spb,I6 acb,I6 jeb,I6 lob,I6 hib,I6 blb,I6 ogb,I6 sgb, .sl false [4] ptb,I6 stc,I6 spc,I6 acc,I6 jec,I6 loc,I6 hic,I6 blc,I6 ogc,I6 sgc, .sl false [4] ptc],[.sl false [4,4,4,4,4,4,4,4,4,4] pk,I6 ln,I6 sa,I6 d0,I6 d1,I6 d2],[I6 A,I6 J,I6 R],[I6 fo,I6 ro, .bool ho, .bool so, .bool oo],[I6 mu,I6 mv,I6 ma,I6 ml,I6 mp,I6 mb],[I6 z0,I6 z1,I6 z2,I6 z3,I6 z4,I6 z5],[I6 f0,I6 f1,I6 f2,I6 f3,I6 f4,I6 f5]])) (R6 (mv+x2)/\∀x5,x5=mv+x2->okPl A J R/\∀(x6:Bool),x6=qready A J x5 x2->Bb (!x6) (R6 (i+1)/\∀x7,x7=i+1->K .normal ([.ce (I6 lim), .ce (.ptr 1000007 0), .ce (.ptr 1000008 0), .ce (.ptr 1000009 0), .ce (.ptr 1000010 0), .ce (.ptr 1000011 0), .ce (.ptr 1000012 0), .ce (.ptr 1000014 0), .ce (.ptr 1000015 0), .ce (.bool y), .ce (.sl false [4] l), .ce (I6 len), .ce (I6 x7)],[[I6 s0,I6 s1,I6 s2, .sl false [4,4,4,4,4,4,4] sg, .sl false [4,4,4] mk],[I6 sta,I6 spa,I6 aca,I6 jea,I6 loa,I6 hia,I6 bla,I6 oga,I6 sga, .sl false [4] pta,I6 stb,I6 spb,I6 acb,I6 jeb,I6 lob,I6 hib,I6 blb,I6 ogb,I6 sgb, .sl false [4] ptb,I6 stc,I6 spc,I6 acc,I6 jec,I6 loc,I6 hic,I6 blc,I6 ogc,I6 sgc, .sl false [4] ptc],[.sl false [4,4,4,4,4,4,4,4,4,4] pk,I6 ln,I6 sa,I6 d0,I6 d1,I6 d2],[I6 A,I6 J,I6 R],[I6 fo,I6 ro, .bool ho, .bool so, .bool oo],[I6 mu,I6 mv,I6 ma,I6 ml,I6 mp,I6 mb],[I6 z0,I6 z1,I6 z2,I6 z3,I6 z4,I6 z5],[I6 f0,I6 f1,I6 f2,I6 f3,I6 f4,I6 f5]])) (R6 (mv+x2)/\∀x8,x8=mv+x2->(okU mu/\(-2199023255552<=x8/\x8<=2199023255552)/\ -2199023255552<=mv/\mv<=2199023255552)/\(∃(x:QM),x=qmove ⟨mu,mv,ma,ml,mp,mb⟩ x8)/\∀(x:QM),x=qmove ⟨mu,mv,ma,ml,mp,mb⟩ x8->((okLen sg/\okTrk pk ln/\0<=sa/\sa<=18014398509481984)/\okPl A J R/\okV x.u)/\∀(x10:Bool),x10=qfit A J (sg.length) (qtg ho fo ro R sg pk sa ln) {u:=x.u,v:=x.v,a:=x.a,l:=x.l,p:=x.p,b:=x.b}->Bb (x10) (((okPT s0 s1 s2 sg pk ln sa/\okA3 sta oga sga pta bla stb ogb sgb ptb blb stc ogc sgc ptc blc/\okL3 spa aca jea spb acb jeb spc acc jec)/\okPl A J R/\(okU x.u/\okU x.l/\okU x.p/\okU x.b)/\0<=lim/\lim<=18014398509481984)/\∀(x11:Bool),x11=qsafe A J (wth3 spa aca jea spb acb jeb spc acc jec) (qmot (mtr sta oga sga pta bla s0 sg (0:Nat) pk sa d0) (mtr stb ogb sgb ptb blb s1 sg (1:Nat) pk sa d1) (mtr stc ogc sgc ptc blc s2 sg (2:Nat) pk sa d2) ln) {u:=x.u,v:=x.v,a:=x.a,l:=x.l,p:=x.p,b:=x.b} lim->Bb (x11) (K (.exit 0) ([.ce (.ptr 1000010 0), .ce (.ptr 1000012 0), .ce (.ptr 1000014 0), .ce (.ptr 1000015 0), .ce (.bool true)],[[I6 s0,I6 s1,I6 s2, .sl false [4,4,4,4,4,4,4] sg, .sl false [4,4,4] mk],[I6 sta,I6 spa,I6 aca,I6 jea,I6 loa,I6 hia,I6 bla,I6 oga,I6 sga, .sl false [4] pta,I6 stb,I6 spb,I6 acb,I6 jeb,I6 lob,I6 hib,I6 blb,I6 ogb,I6 sgb, .sl false [4] ptb,I6 stc,I6 spc,I6 acc,I6 jec,I6 loc,I6 hic,I6 blc,I6 ogc,I6 sgc, .sl false [4] ptc],[.sl false [4,4,4,4,4,4,4,4,4,4] pk,I6 ln,I6 sa,I6 d0,I6 d1,I6 d2],[I6 A,I6 J,I6 R],[I6 fo,I6 ro, .bool ho, .bool so, .bool oo],[I6 mu,I6 mv,I6 ma,I6 ml,I6 mp,I6 mb],[I6 z0,I6 z1,I6 z2,I6 z3,I6 z4,I6 z5],[I6 x.u,I6 x.v,I6 x.a,I6 x.l,I6 x.p,I6 x.b]])) (R6 (i+1)/\∀x12,x12=i+1->K .normal ([.ce (I6 lim), .ce (.ptr 1000007 0), .ce (.ptr 1000008 0), .ce (.ptr 1000009 0), .ce (.ptr 1000010 0), .ce (.ptr 1000011 0), .ce (.ptr 1000012 0), .ce (.ptr 1000014 0), .ce (.ptr 1000015 0), .ce (.bool y), .ce (.sl false [4] l), .ce (I6 len), .ce (I6 x12)],[[I6 s0,I6 s1,I6 s2, .sl false [4,4,4,4,4,4,4] sg, .sl false [4,4,4] mk],[I6 sta,I6 spa,I6 aca,I6 jea,I6 loa,I6 hia,I6 bla,I6 oga,I6 sga, .sl false [4] pta,I6 stb,I6 spb,I6 acb,I6 jeb,I6 lob,I6 hib,I6 blb,I6 ogb,I6 sgb, .sl false [4] ptb,I6 stc,I6 spc,I6 acc,I6 jec,I6 loc,I6 hic,I6 blc,I6 ogc,I6 sgc, .sl false [4] ptc],[.sl false [4,4,4,4,4,4,4,4,4,4] pk,I6 ln,I6 sa,I6 d0,I6 d1,I6 d2],[I6 A,I6 J,I6 R],[I6 fo,I6 ro, .bool ho, .bool so, .bool oo],[I6 mu,I6 mv,I6 ma,I6 ml,I6 mp,I6 mb],[I6 z0,I6 z1,I6 z2,I6 z3,I6 z4,I6 z5],[I6 x.u,I6 x.v,I6 x.a,I6 x.l,I6 x.p,I6 x.b]]))) (R6 (i+1)/\∀x13,x13=i+1->K .normal ([.ce (I6 lim), .ce (.ptr 1000007 0), .ce (.ptr 1000008 0), .ce (.ptr 1000009 0), .ce (.ptr 1000010 0), .ce (.ptr 1000011 0), .ce (.ptr 1000012 0), .ce (.ptr 1000014 0), .ce (.ptr 1000015 0), .ce (.bool y), .ce (.sl false [4] l), .ce (I6 len), .ce (I6 x13)],[[I6 s0,I6 s1,I6 s2, .sl false [4,4,4,4,4,4,4] sg, .sl false [4,4,4] mk],[I6 sta,I6 spa,I6 aca,I6 jea,I6 loa,I6 hia,I6 bla,I6 oga,I6 sga, .sl false [4] pta,I6 stb,I6 spb,I6 acb,I6 jeb,I6 lob,I6 hib,I6 blb,I6 ogb,I6 sgb, .sl false [4] ptb,I6 stc,I6 spc,I6 acc,I6 jec,I6 loc,I6 hic,I6 blc,I6 ogc,I6 sgc, .sl false [4] ptc],[.sl false [4,4,4,4,4,4,4,4,4,4] pk,I6 ln,I6 sa,I6 d0,I6 d1,I6 d2],[I6 A,I6 J,I6 R],[I6 fo,I6 ro, .bool ho, .bool so, .bool oo],[I6 mu,I6 mv,I6 ma,I6 ml,I6 mp,I6 mb],[I6 z0,I6 z1,I6 z2,I6 z3,I6 z4,I6 z5],[I6 x.u,I6 x.v,I6 x.a,I6 x.l,I6 x.p,I6 x.b]]))))) (K (.exit 0) ([.ce (.ptr 1000010 0), .ce (.ptr 1000012 0), .ce (.ptr 1000014 0), .ce (.ptr 1000015 0), .ce (.bool y)],[[I6 s0,I6 s1,I6 s2, .sl false [4,4,4,4,4,4,4] sg, .sl false [4,4,4] mk],[I6 sta,I6 spa,I6 aca,I6 jea,I6 loa,I6 hia,I6 bla,I6 oga,I6 sga, .sl false [4] pta,I6 stb,I6 spb,I6 acb,I6 jeb,I6 lob,I6 hib,I6 blb,I6 ogb,I6 sgb, .sl false [4] ptb,I6 stc,I6 spc,I6 acc,I6 jec,I6 loc,I6 hic,I6 blc,I6 ogc,I6 sgc, .sl false [4] ptc],[.sl false [4,4,4,4,4,4,4,4,4,4] pk,I6 ln,I6 sa,I6 d0,I6 d1,I6 d2],[I6 A,I6 J,I6 R],[I6 fo,I6 ro, .bool ho, .bool so, .bool oo],[I6 mu,I6 mv,I6 ma,I6 ml,I6 mp,I6 mb],[I6 z0,I6 z1,I6 z2,I6 z3,I6 z4,I6 z5],[I6 f0,I6 f1,I6 f2,I6 f3,I6 f4,I6 f5]]))):=by kernel_rfl
theorem vcNx(s0 s1 s2 ln sa d0 d1 d2 A J R fo ro mu mv ma ml mp mb lim:Int)(ho so oo:Bool)(sg mk pk:LL)(sta spa aca jea loa hia bla oga sga stb spb acb jeb lob hib blb ogb sgb stc spc acc jec loc hic blc ogc sgc:Int)(pta ptb ptc:LL)(Q:Res->Prop):(nfun true CNx Tryz.f30 (bodyOf Tryz.f30) [.agg [I6 s0,I6 s1,I6 s2, .sl false [4,4,4,4,4,4,4] sg, .sl false [4,4,4] mk], .agg [I6 sta,I6 spa,I6 aca,I6 jea,I6 loa,I6 hia,I6 bla,I6 oga,I6 sga, .sl false [4] pta,I6 stb,I6 spb,I6 acb,I6 jeb,I6 lob,I6 hib,I6 blb,I6 ogb,I6 sgb, .sl false [4] ptb,I6 stc,I6 spc,I6 acc,I6 jec,I6 loc,I6 hic,I6 blc,I6 ogc,I6 sgc, .sl false [4] ptc], .agg [.sl false [4,4,4,4,4,4,4,4,4,4] pk,I6 ln,I6 sa,I6 d0,I6 d1,I6 d2], .agg [I6 A,I6 J,I6 R], .agg [I6 fo,I6 ro, .bool ho, .bool so, .bool oo], .agg [I6 mu,I6 mv,I6 ma,I6 ml,I6 mp,I6 mb], .ce (I6 lim)] [] Q)=((0<=J/\J<=65536)/\(∃(x:LL),x=chg J)/\∀(x:LL),x=chg J->((okPT s0 s1 s2 sg pk ln sa/\okA3 sta oga sga pta bla stb ogb sgb ptb blb stc ogc sgc ptc blc/\okL3 spa aca jea spb acb jeb spc acc jec)/\okPl A J R/\okN ⟨mu,mv,ma,ml,mp,mb⟩/\(0<=lim/\lim<=18014398509481984)/\false=false/\(x.length:Int)=(x.length:Int)/\(0:Int)=0/\x.length<=200000/\Sm (65536:Int) x)/\∀(x_1:Bool×QM),qpk (qok A J (wth3 spa aca jea spb acb jeb spc acc jec) (qmot (mtr sta oga sga pta bla s0 sg (0:Nat) pk sa d0) (mtr stb ogb sgb ptb blb s1 sg (1:Nat) pk sa d1) (mtr stc ogc sgc ptc blc s2 sg (2:Nat) pk sa d2) ln) (sg.length) (qtg ho fo ro R sg pk sa ln) ⟨mu,mv,ma,ml,mp,mb⟩ lim) ⟨mu,mv,ma,ml,mp,mb⟩ x x_1->Bb (x_1.1) (Q ⟨.agg [I6 x_1.2.u,I6 x_1.2.v,I6 x_1.2.a,I6 x_1.2.l,I6 x_1.2.p,I6 x_1.2.b],false,[],[]⟩) ((okPl A J R/\(-1099511627776<=mv/\mv<=1099511627776)/\ -1099511627776<=ma/\ma<=1099511627776)/\∀x3,x3=qbrk A J mv ma->R6 (mv+x3)/\∀x4,x4=mv+x3->(okU mu/\(-2199023255552<=x4/\x4<=2199023255552)/\ -2199023255552<=mv/\mv<=2199023255552)/\(∃(x:QM),x=qmove ⟨mu,mv,ma,ml,mp,mb⟩ x4)/\∀(x:QM),x=qmove ⟨mu,mv,ma,ml,mp,mb⟩ x4->Q ⟨.agg [I6 x.u,I6 x.v,I6 x.a,I6 x.l,I6 x.p,I6 x.b],false,[],[]⟩)):=by kernel_rfl
end Go.Proofs.YthkoabbiiadbjaaGreat
namespace U
theorem qok_neg{A J:Int}{W:LL->Bool}{Mo:LL->LL}{n:Nat}{T:Int->Int}{m:QM}{lim k:Int}(h:m.v+(m.a+k)<0):qok A J W Mo n T m lim k=false:=by
 unfold qok;rw[decide_eq_false (by omega),Bool.false_and]
theorem qok_nr{A J:Int}{W:LL->Bool}{Mo:LL->LL}{n:Nat}{T:Int->Int}{m:QM}{lim k:Int}(h:qready A J (m.v+(m.a+k)) (m.a+k)=false):qok A J W Mo n T m lim k=false:=by
 unfold qok;rw[h,Bool.false_and,Bool.and_false]
theorem qok_nf{A J:Int}{W:LL->Bool}{Mo:LL->LL}{n:Nat}{T:Int->Int}{m:QM}{lim k:Int}(h:qfit A J n T (qmove m (m.v+(m.a+k)))=false):qok A J W Mo n T m lim k=false:=by
 unfold qok;rw[h,Bool.false_and,Bool.and_false,Bool.and_false]
theorem qok_ns{A J:Int}{W:LL->Bool}{Mo:LL->LL}{n:Nat}{T:Int->Int}{m:QM}{lim k:Int}(h:qsafe A J W Mo (qmove m (m.v+(m.a+k))) lim=false):qok A J W Mo n T m lim k=false:=by
 unfold qok;rw[h,Bool.and_false,Bool.and_false,Bool.and_false]
theorem qok_yes{A J:Int}{W:LL->Bool}{Mo:LL->LL}{n:Nat}{T:Int->Int}{m:QM}{lim k:Int}(h0:0<=m.v+(m.a+k))(h1:qready A J (m.v+(m.a+k)) (m.a+k)=true)(h2:qfit A J n T (qmove m (m.v+(m.a+k)))=true)(h3:qsafe A J W Mo (qmove m (m.v+(m.a+k))) lim=true):qok A J W Mo n T m lim k=true:=by
 unfold qok;rw[h1,h2,h3,decide_eq_true h0];rfl
theorem qpick_skip{ok:Int->Bool}{l:LL}{i:Nat}(h:i<l.length)(hk:ok (el l i)=false):qpick ok (l.drop i)=qpick ok (l.drop (i+1)):=by
 rw[drop_next l h [],qpick,if_neg (by show¬ok (el l i)=true;rw[hk];simp)]
theorem qpick_take{ok:Int->Bool}{l:LL}{i:Nat}(h:i<l.length)(hk:ok (el l i)=true):qpick ok (l.drop i)=some (el l i):=by
 rw[drop_next l h [],qpick];exact if_pos hk
theorem chg_len{J:Int}(h:0<=J/\J<=65536):(chg J).length<=200000:=by
 unfold chg ngl;have:=hlv_len J.toNat J;simp;omega
theorem el_ngl{l:LL}{j:Nat}(h:j<l.length):el (ngl l) j= -(el l j):=by
 unfold ngl el;simp[List.getD_eq_getElem?_getD,h]
theorem chg_bd{J:Int}(h:0<=J/\J<=65536):Sm 65536 (chg J):=by
 intro j hj;have hb:=hlv_bd J.toNat (k:=J) h.2;have hr:∀i,i<(hlv J.toNat J).length->∃k,k<(hlv J.toNat J).length/\el (hlv J.toNat J).reverse i=el (hlv J.toNat J) k:=fun i hi=>⟨(hlv J.toNat J).length-1-i,by omega,by
   have:(hlv J.toNat J).reverse.getD i []=(hlv J.toNat J).getD ((hlv J.toNat J).length-1-i) []:=by rw[List.getD_eq_getElem?_getD,List.getElem?_reverse hi,<-List.getD_eq_getElem?_getD]
   unfold el;rw[this]⟩;unfold chg at hj⊢;rw[List.append_assoc,el_append];split
 . rename_i h1;have:=hb j h1;omega
 . rw[el_append];split
   . rename_i h1 h2;rw[show j-(hlv J.toNat J).length=0 by simp at h2;omega];show-65536<=(0:Int)/\(0:Int)<=65536;omega
   . rename_i h1 h2;simp[ngl]at hj h1 h2;obtain⟨k,k1,k2⟩:=hr (j-(hlv J.toNat J).length-1) (by omega);rw[show List.length [[(0:Int)]]=1 from rfl,el_ngl (by simp;omega),k2];have:=hb k k1;omega
end U
namespace Go.Proofs.YthkoabbiiadbjaaGreat
open Go Go.HL U
attribute [local irreducible] hfun bodyT fragT
set_option maxHeartbeats 4000000 in theorem loopNx:∀v Q,(LNx v).wp Q->hloop CNx anNx (nthLoop Tryz.f30 0) v Q:=by
 intro v Q h;unfold LNx at h;split at h;case h_2=>exact h.elim
 rename_i lim y l len i s0 s1 s2 sg mk ax tr A J Rp fo ro ho so oo mu mv ma ml mp mb z0 z1 z2 z3 z4 z5 f0 f1 f2 f3 f4 f5;split at h;case h_2=>exact h.elim
 rename_i sta spa aca jea loa hia bla oga sga pta stb spb acb jeb lob hib blb ogb sgb ptb stc spc acc jec loc hic blc ogc sgc ptc;split at h;case h_2=>exact h.elim
 rename_i pk ln sa d0 d1 d2;obtain⟨⟨⟨hp,ha,hli⟩,hpl,hm,hlim,h1,h2,h3,h4,h5⟩,hq⟩:=h;subst h1 h2 h3;have hm':=hm;obtain⟨hu,hv,haa,hml,hmp⟩:=hm;dsimp only at hu hv haa hml hmp;have hU:okU mu:=by unfold okU;omega
 refine hloop_rec (σ:=Nat×QM) (fun s=>([.ce (I6 lim), .ce (.ptr 1000007 0), .ce (.ptr 1000008 0), .ce (.ptr 1000009 0), .ce (.ptr 1000010 0), .ce (.ptr 1000011 0), .ce (.ptr 1000012 0), .ce (.ptr 1000014 0), .ce (.ptr 1000015 0), .ce (.bool false), .ce (.sl false [4] l), .ce (I6 (l.length:Int)), .ce (I6 (s.1:Int))],[[I6 s0,I6 s1,I6 s2, .sl false [4,4,4,4,4,4,4] sg, .sl false [4,4,4] mk],[I6 sta,I6 spa,I6 aca,I6 jea,I6 loa,I6 hia,I6 bla,I6 oga,I6 sga, .sl false [4] pta,I6 stb,I6 spb,I6 acb,I6 jeb,I6 lob,I6 hib,I6 blb,I6 ogb,I6 sgb, .sl false [4] ptb,I6 stc,I6 spc,I6 acc,I6 jec,I6 loc,I6 hic,I6 blc,I6 ogc,I6 sgc, .sl false [4] ptc],[.sl false [4,4,4,4,4,4,4,4,4,4] pk,I6 ln,I6 sa,I6 d0,I6 d1,I6 d2],[I6 A,I6 J,I6 Rp],[I6 fo,I6 ro, .bool ho, .bool so, .bool oo],[I6 mu,I6 mv,I6 ma,I6 ml,I6 mp,I6 mb],[I6 z0,I6 z1,I6 z2,I6 z3,I6 z4,I6 z5],[I6 s.2.u,I6 s.2.v,I6 s.2.a,I6 s.2.l,I6 s.2.p,I6 s.2.b]])) (fun s=>l.length-s.1) (fun s=>s.1<=l.length/\qpick (qok A J (wth3 spa aca jea spb acb jeb spc acc jec) (qmot (mtr sta oga sga pta bla s0 sg 0 pk sa d0) (mtr stb ogb sgb ptb blb s1 sg 1 pk sa d1) (mtr stc ogc sgc ptc blc s2 sg 2 pk sa d2) ln) sg.length (qtg ho fo ro Rp sg pk sa ln) ⟨mu,mv,ma,ml,mp,mb⟩ lim) l=qpick (qok A J (wth3 spa aca jea spb acb jeb spc acc jec) (qmot (mtr sta oga sga pta bla s0 sg 0 pk sa d0) (mtr stb ogb sgb ptb blb s1 sg 1 pk sa d1) (mtr stc ogc sgc ptc blc s2 sg 2 pk sa d2) ln) sg.length (qtg ho fo ro Rp sg pk sa ln) ⟨mu,mv,ma,ml,mp,mb⟩ lim) (l.drop s.1)) ?_ (0,⟨f0,f1,f2,f3,f4,f5⟩) ⟨Nat.zero_le _,rfl⟩;rintro⟨i,f⟩⟨hi,hI⟩K hn hx hr;dsimp only at hi hI hn⊢;refine byVB (vbNx s0 s1 s2 ln sa d0 d1 d2 A J Rp fo ro mu mv ma ml mp mb lim l.length i z0 z1 z2 z3 z4 z5 f.u f.v f.a f.l f.p f.b ho so oo false sg mk pk l sta spa aca jea loa hia bla oga sga stb spb acb jeb lob hib blb ogb sgb stc spc acc jec loc hic blc ogc sgc pta ptb ptc K) ⟨fun g=> ?_,fun g=> ?_⟩
 . have g:=odt g;have hil:i<l.length:=by omega
   have hb:=h5 i hil;have sk:=fun(f:QM)(k:Int)(ek:k=(i:Int)+1)hk=>hn (i+1,f) ⟨hil,hI.trans (qpick_skip hil hk)⟩ (by dsimp only;omega);refine⟨by omega,fun x1 e1=> ?_⟩;have e1:x1=el l i:=e1;rw[<-e1]at hb sk;have tk:=fun hk=>hI.trans (qpick_take hil hk);rw[<-e1]at tk;clear hn;refine⟨by omega,fun x2 e2=>⟨by omega,fun x3 e3=>⟨fun g3=>⟨by omega,fun x4 e4=> ?_⟩,fun g3=>⟨by omega,fun x5 e5=>⟨hpl,fun x6 e6=>⟨fun g6=>⟨by omega,fun x7 e7=> ?_⟩,fun g6=>⟨by omega,fun x8 e8=>⟨⟨hU,by omega,by omega⟩,⟨_,rfl⟩,fun x ex=> ?_⟩⟩⟩⟩⟩⟩⟩⟩
   . have g3:=odt g3;have:=sk f x4 e4 (qok_neg (by show mv+(ma+x1)<0;omega));rw[show((i+1:Nat):Int)=x4 by omega]at this;exact this
   . have:=sk f x7 e7 (qok_nr (by show qready A J (mv+(ma+x1)) (ma+x1)=false;rw[<-e2,<-e5,<-e6];cases x6<;>simp at g6⊢));rw[show((i+1:Nat):Int)=x7 by omega]at this;exact this
   . have g3:=odf g3;have ex':qmove ⟨mu,mv,ma,ml,mp,mb⟩ (mv+(ma+x1))=x:=by rw[ex,e8,e2]
     have hvr:qready A J (mv+(ma+x1)) (ma+x1)=true:=by rw[<-e2,<-e5,<-e6];cases x6<;>simp at g6⊢
     have xu:x.u=mu+x8:=by rw[ex];rfl
     have xl:x.l=mu:=by rw[ex];rfl
     have xp:x.p=ml:=by rw[ex];rfl
     have xb:x.b=mp:=by rw[ex];rfl
     refine⟨⟨⟨hp.1,hp.2.2.1,hp.2.2.2⟩,hpl,by unfold okV;omega⟩,fun x10 e10=>⟨fun g10=>⟨⟨⟨hp,ha,hli⟩,hpl,⟨by unfold okU;omega,by rw[xl];exact hU,by rw[xp];exact hml,by rw[xb];exact hmp⟩,hlim⟩,fun x11 e11=>⟨fun g11=> ?_,fun g11=>⟨by omega,fun x12 e12=> ?_⟩⟩⟩,fun g10=>⟨by omega,fun x13 e13=> ?_⟩⟩⟩
     . have:=hq (true,x) (.inl ⟨x1,tk (qok_yes (by show 0<=mv+(ma+x1);omega) hvr (by show qfit A J sg.length _ (qmove ⟨mu,mv,ma,ml,mp,mb⟩ (mv+(ma+x1)))=true;rw[ex',<-g10,e10]) (by show qsafe A J _ _ (qmove ⟨mu,mv,ma,ml,mp,mb⟩ (mv+(ma+x1))) lim=true;rw[ex',<-g11,e11])),by rw[<-ex']⟩);exact hx 0 _ this
     . have:=sk x x12 e12 (qok_ns (by show qsafe A J _ _ (qmove ⟨mu,mv,ma,ml,mp,mb⟩ (mv+(ma+x1))) lim=false;rw[ex',<-g11,e11]));rw[show((i+1:Nat):Int)=x12 by omega]at this;exact this
     . have:=sk x x13 e13 (qok_nf (by show qfit A J sg.length _ (qmove ⟨mu,mv,ma,ml,mp,mb⟩ (mv+(ma+x1)))=false;rw[ex',<-g10,e10]));rw[show((i+1:Nat):Int)=x13 by omega]at this;exact this
 . have g:=odf g;obtain rfl:i=l.length:=by omega
   rw[List.drop_length]at hI;exact hx 0 _ (hq (false,f) (.inr ⟨hI,rfl⟩))
set_option maxHeartbeats 4000000 in theorem sNx:Sound Tryz.prog 30 SPNext:=by
 refine sound_of (C:=CNx) tabNx Tryz.func30 (by kernel_rfl) (by decide+kernel) (by kernel_rfl) rfl ⟨sChg,sQReady,sQMove,sFit,sSafe,sQBrake,trivial⟩ (loops1 (by kernel_rfl) (loopOK_of (an:=anNx) (S:=LNx) (by kernel_rfl) loopNx)) ?_;intro hargs pars R h;unfold SPNext at h;split at h;case h_2=>exfalso;exact h
 rename_i s0 s1 s2 sg mk ax pk ln sa d0 d1 d2 A J Rp fo ro ho so oo mu mv ma ml mp mb lim;split at h;case h_2=>exact h.elim
 rename_i sta spa aca jea loa hia bla oga sga pta stb spb acb jeb lob hib blb ogb sgb ptb stc spc acc jec loc hic blc ogc sgc ptc;obtain⟨⟨hpp,hpl,hm,hlim⟩,_,hR⟩:=h;have hm':=hm;obtain⟨hu,hv,haa,hml,hmp⟩:=hm;dsimp only at hu hv haa hml hmp;have hJ:0<=J/\J<=65536:=by have:=hpl.2.1;omega
 refine byVC (vcNx s0 s1 s2 ln sa d0 d1 d2 A J Rp fo ro mu mv ma ml mp mb lim ho so oo sg mk pk sta spa aca jea loa hia bla oga sga stb spb acb jeb lob hib blb ogb sgb stc spc acc jec loc hic blc ogc sgc pta ptb ptc R) ⟨hJ,⟨_,rfl⟩,fun x e=> ?_⟩;subst e;refine⟨⟨hpp,hpl,hm',hlim,rfl,rfl,rfl,chg_len hJ,chg_bd hJ⟩,fun x hx=>⟨fun g=> ?_,fun g=>⟨⟨hpl,by omega,by omega⟩,fun x3 e3=> ?_⟩⟩⟩
 . rcases hx with⟨k,hk,ex⟩|⟨_,ex⟩
   . exact hR x.2 (by unfold qnext;rw[hk,ex])
   . rw[ex]at g;cases g
 . rcases hx with⟨k,hk,ex⟩|⟨hk,_⟩
   . rw[ex]at g;cases g
   . have b:=Go.Proofs.YthkoabbiiadbjaaGreat.qb_le (J:=J) (v:=mv) (qhi A J ma-(-ma-J)).toNat (l:= -ma-J) (h:=qhi A J ma);have hA:=hpl.1;have e9:x3= -(qbs J mv (qhi A J ma-(-ma-J)).toNat (-ma-J) (qhi A J ma)):=e3;have hq9:qhi A J ma<=65536:=by unfold qhi;omega
     refine⟨by omega,fun x4 e4=>⟨⟨by unfold okU;omega,by omega,by omega⟩,⟨_,rfl⟩,fun x ex=>hR x ?_⟩⟩;unfold qnext;rw[hk,ex,e4,e3]
end Go.Proofs.YthkoabbiiadbjaaGreat
namespace U
open Go
structure ShS where
 r:RunS
 A:Int
 J:Int
 R:Int
def okShop(x:ShS):Prop:=okRun x.r/\x.r.f=0/\(1<=x.A/\x.A<=900)/\(2<=x.J/\x.J<=201)/\(1<=x.R/\x.R<=16000)
open Go.HL in
def shopC(x:ShS):List HC:=[.int .i64 x.r.s0, .int .i64 x.r.s1, .int .i64 x.r.s2, .sl false [4,4,4,4,4,4,4] x.r.sg, .sl false [4,4,4] x.r.mks, .int .i64 x.r.a.st, .int .i64 x.r.a.sp, .int .i64 x.r.a.ac, .int .i64 x.r.a.je, .int .i64 (-16777216), .int .i64 16777216, .int .i64 x.r.a.bl, .int .i64 x.r.a.og, .int .i64 x.r.a.sg, .sl false [4] x.r.a.pit, .int .i64 x.r.b.st, .int .i64 x.r.b.sp, .int .i64 x.r.b.ac, .int .i64 x.r.b.je, .int .i64 (-16777216), .int .i64 16777216, .int .i64 x.r.b.bl, .int .i64 x.r.b.og, .int .i64 x.r.b.sg, .sl false [4] x.r.b.pit, .int .i64 x.r.c.st, .int .i64 x.r.c.sp, .int .i64 x.r.c.ac, .int .i64 x.r.c.je, .int .i64 (-16777216), .int .i64 16777216, .int .i64 x.r.c.bl, .int .i64 x.r.c.og, .int .i64 x.r.c.sg, .sl false [4] x.r.c.pit, .sl false [4,4,4,4,4,4,4,4,4,4] x.r.pk, .int .i64 x.r.ln, .int .i64 x.r.f, .int .i64 x.r.d0, .int .i64 x.r.d1, .int .i64 x.r.d2, .int .i64 x.A, .int .i64 x.J, .int .i64 x.R, .int .i64 x.r.ln]
end U
namespace Go.Proofs.YthkoabbiiadbjaaGreat
open Go Go.HL U
def SPla(hA:List HV)(pA:List (List HC)):SR:=match hA,pA with
 |[.ce (.sl false [4] l)],[]=> .all (l.length<=9223372036854775807) (Int×Int×Int) (fun x=>(1<=x.1/\x.1<=900)/\(2<=x.2.1/\x.2.1<=201)/\(1<=x.2.2/\x.2.2<=16000)) (fun x=>⟨.agg [I6 x.1,I6 x.2.1,I6 x.2.2],false,[],[]⟩)
 |_,_=> .fail
def tabPla:List (FuncId×HL.Spec):=[(24,SFrom),(25,SNext)]
noncomputable def CPla:Ctx:=⟨Tryz.prog,gam tabPla,Tryz.f7.ntmps,[],[]⟩
theorem vcPla(l:LL)(Q:Res->Prop):(nfun true CPla Tryz.f7 (bodyOf Tryz.f7) [.ce (.sl false [4] l)] [] Q)=(True/\∀(x1:LL),x1=l->∀(x2:Int),x2=0->((0:Int)<900/\(900:Int)<=4611686018427387904/\inSrc x1 x2)/\(∃(x:Int×Int),drew x1 x2 (900:Int) x)/\∀(x:Int×Int),drew x1 x2 (900:Int) x->(-9223372036854775808<=1+x.1/\(1:Int)+x.1<=9223372036854775807)/\∀x4,x4=1+x.1->((0:Int)<200/\(200:Int)<=4611686018427387904/\inSrc x1 x.2)/\(∃(x_1:Int×Int),drew x1 x.2 (200:Int) x_1)/\∀(x_1:Int×Int),drew x1 x.2 (200:Int) x_1->(-9223372036854775808<=2+x_1.1/\(2:Int)+x_1.1<=9223372036854775807)/\∀x6,x6=2+x_1.1->((0:Int)<16000/\(16000:Int)<=4611686018427387904/\inSrc x1 x_1.2)/\(∃(x:Int×Int),drew x1 x_1.2 (16000:Int) x)/\∀(x:Int×Int),drew x1 x_1.2 (16000:Int) x->(-9223372036854775808<=1+x.1/\(1:Int)+x.1<=9223372036854775807)/\∀x8,x8=1+x.1->Q ⟨.agg [I6 x4,I6 x6,I6 x8],false,[],[]⟩):=by kernel_rfl
end Go.Proofs.YthkoabbiiadbjaaGreat
namespace U
theorem okB_path{x:BSt}(h:okB 355000 x):okPath x.s0 x.s1 x.s2 x.sg x.mks:=⟨h.2.1,h.2.2.1,h.2.2.2.2.2.1,h.2.2.2.2.2.2⟩
end U
namespace Go.Proofs.YthkoabbiiadbjaaGreat
open Go Go.HL U
attribute [local irreducible] hfun bodyT fragT
theorem sPla:Sound Tryz.prog 7 SPla:=by
 refine sound_of (C:=CPla) tabPla Tryz.func7 (by kernel_rfl) (by decide+kernel) (by kernel_rfl) rfl ⟨sFrom,sNext,trivial⟩ (loops0 (by kernel_rfl)) ?_;intro hA pA R h;unfold SPla at h;split at h;case h_2=>exfalso;exact h
 rename_i l;obtain⟨hl,_,hR⟩:=h;refine byVC (vcPla l R) ⟨trivial,?_⟩;intro x1 e1 x2 e2;rw[e1,e2];have s0:inSrc l 0:=⟨Int.le_refl _,hl⟩;refine⟨⟨by decide,by decide,s0⟩,drew_ex _ _ (by decide),fun y1 h1=> ?_⟩;have s1:=drew_src s0 h1;have b1:=h1.1;have b1':=h1.2.1;refine⟨by omega,fun x4 e4=>⟨⟨by decide,by decide,s1⟩,drew_ex _ _ (by decide),fun y2 h2=> ?_⟩⟩;have s2:=drew_src s1 h2;have b2:=h2.1;have b2':=h2.2.1;refine⟨by omega,fun x6 e6=>⟨⟨by decide,by decide,s2⟩,drew_ex _ _ (by decide),fun y3 h3=> ?_⟩⟩;have b3':=h3.1;have b3'':=h3.2.1;exact⟨by omega,fun x8 e8=>hR (x4,x6,x8) ⟨by dsimp only;omega,by dsimp only;omega,by dsimp only;omega⟩⟩
end Go.Proofs.YthkoabbiiadbjaaGreat
