/-
  Part 5.
  Conditions: none.
-/
import Derived.Test.YtoekmphdpepdbaaGreatPPlannerNext4
set_option maxRecDepth 100000
set_option maxHeartbeats 400000
set_option linter.unusedVariables false
set_option linter.unusedSimpArgs false
open Go
namespace Go.Proofs.YtoekmphdpepdbaaGreat
open Go Go.HL U
def SMulL(hargs:List HV)(pars:List (List HC)):SR:=match hargs,pars with
 |[.ce (.sl false [8] a), .ce (.sl false [8] b)],[]=> .det (dg a/\dg b/\a.length<=100/\b.length<=100) ⟨.ce (.sl false [8] (lim (dv a*dv b))),false,[],[]⟩
 |_,_=> .fail
def anMulO:LAnn:=⟨[0,1,5,6],[0,1,5],[1000015],false⟩
def anMulI:LAnn:=⟨[0,1,5,6,7,8],[0,1,5,6,7],[1000015],false⟩
def zer(o:LL)(n:Nat):Prop:=∀j,n<=j->j<o.length->el o j=0
def mulOK(a b o:LL):Prop:=dg a/\dg b/\dg o/\a.length<=100/\b.length<=100/\o.length=a.length+b.length
def LMulO(v:LV):LR:=match v with
 |([.ce (.sl false [8] a), .ce (.sl false [8] b), .ce (.msl 1000015 n m), .ce (.int .i64 i)],[[.arr [8] o m2]])=> .all (m2=m/\i=0/\n=o.length/\mulOK a b o/\zer o 0) (LL) (fun o'=>o'.length=o.length/\dg o'/\dv o'=dv a*dv b) (fun _=> .exit 0) (fun o'=>([.ce (.sl false [8] a), .ce (.sl false [8] b), .ce (.msl 1000015 n m)],[[.arr [8] o' m2]]))
 |_=> .fail
def LMulI(v:LV):LR:=match v with
 |([.ce (.sl false [8] a), .ce (.sl false [8] b), .ce (.msl 1000015 n m), .ce (.int .i64 i), .ce (.int .u64 c), .ce (.int .i64 k)],[[.arr [8] o m2]])=> .all (m2=m/\k=0/\c=0/\0<=i/\i<(a.length:Int)/\n=o.length/\mulOK a b o/\zer o (i.toNat+b.length)) (LL×Int) (fun x=>x.1.length=o.length/\dg x.1/\0<=x.2/\x.2<65536/\zer x.1 (i.toNat+b.length)/\dv x.1+x.2.toNat*65536^(i.toNat+b.length)=dv o+(el a i.toNat).toNat*65536^i.toNat*dv b) (fun _=> .exit 2) (fun x=>([.ce (.sl false [8] a), .ce (.sl false [8] b), .ce (.msl 1000015 n m), .ce (I6 i), .ce (.int .u64 x.2)],[[.arr [8] x.1 m2]]))
 |_=> .fail
def tabMulL:List (FuncId×HL.Spec):=[(161,SCut)]
noncomputable def CMulL:Ctx:=⟨Tryz.prog,gam tabMulL,Tryz.f153.ntmps,[(3,anMulO,LMulO),(7,anMulI,LMulI)],[70]⟩
theorem vcMulL(a b:LL)(Q:Res->Prop):(nfun true CMulL Tryz.f153 (bodyOf Tryz.f153) [.ce (.sl false [8] a), .ce (.sl false [8] b)] [] Q)=(R6 ((a.length:Int)+(b.length:Int))/\∀x1,x1=(a.length:Int)+(b.length:Int)->(0<=x1/\x1=x1/\x1<=140737488355328/\x1*8<=140737488355328)/\(x1.toNat=x1.toNat/\(0:Int)=0/\x1.toNat=List.length (List.replicate x1.toNat [(0:Int)])/\(dg a/\dg b/\dg (List.replicate x1.toNat [(0:Int)])/\a.length<=100/\b.length<=100/\List.length (List.replicate x1.toNat [(0:Int)])=a.length+b.length)/\∀(j:Nat),(0:Nat)<=j->j<List.length (List.replicate x1.toNat [(0:Int)])->el (List.replicate x1.toNat [(0:Int)]) j=0)/\∀(x:LL),x.length=List.length (List.replicate x1.toNat [(0:Int)])/\dg x/\dv x=dv a*dv b->x1.toNat=x.length/\(dg x/\x.length<=1000)/\∀(x4:LL),x4=lim (dv x)->Q ⟨.ce (.sl false [8] x4),false,[],[]⟩):=by kernel_rfl
theorem vbMulO(a b o:LL)(n m:Nat)(i:Int)(K:HEx->LV->Prop):(nbodyT true CMulL anMulO (nthLoop Tryz.f153 0) (([.ce (.sl false [8] a), .ce (.sl false [8] b), .ce (.msl 1000015 n m), .ce (I6 i)],[[.arr [8] o m]])) K)=(Br (i<(a.length:Int)) ((m=m/\(0:Int)=0/\(0:Int)=0/\0<=i/\i<(a.length:Int)/\n=o.length/\(dg a/\dg b/\dg o/\a.length<=100/\b.length<=100/\o.length=a.length+b.length)/\∀(j:Nat),i.toNat+b.length<=j->j<o.length->el o j=0)/\∀(x:LL×Int),List.length x.1=o.length/\dg x.1/\0<=x.2/\x.2<65536/\(∀(j:Nat),i.toNat+b.length<=j->j<List.length x.1->el x.1 j=0)/\dv x.1+x.2.toNat*65536^(i.toNat+b.length)=dv o+Int.toNat (el a i.toNat)*65536^i.toNat*dv b->R6 (i+(b.length:Int))/\∀x4,x4=i+(b.length:Int)->R6 (i+(b.length:Int))/\∀x5,x5=i+(b.length:Int)->(0<=x5/\x5<((n:Nat):Int))/\x5.toNat<List.length x.1/\∀x6,x6=el x.1 x5.toNat->∀x7,x7=(x6+x.2)%18446744073709551616->(0<=x4/\x4<((n:Nat):Int))/\x4.toNat<List.length x.1/\R6 (i+1)/\∀x8,x8=i+1->K .normal ([.ce (.sl false [8] a), .ce (.sl false [8] b), .ce (.msl (1000015:Nat) n m), .ce (I6 x8)],[[.arr [8] (List.set x.1 x4.toNat [bif true&&true then x7 else el x.1 x4.toNat]) m]])) (K (.exit 0) ([.ce (.sl false [8] a), .ce (.sl false [8] b), .ce (.msl (1000015:Nat) n m)],[[.arr [8] o m]]))):=by kernel_rfl
theorem vbMulI(a b o:LL)(n m:Nat)(i c k:Int)(K:HEx->LV->Prop):(nbodyT true CMulL anMulI (nthLoop Tryz.f153 1) (([.ce (.sl false [8] a), .ce (.sl false [8] b), .ce (.msl 1000015 n m), .ce (I6 i), .ce (.int .u64 c), .ce (I6 k)],[[.arr [8] o m]])) K)=(Br (k<(b.length:Int)) (R6 (i+k)/\∀x1,x1=i+k->(0<=x1/\x1<((n:Nat):Int))/\x1.toNat<o.length/\∀x2,x2=el o x1.toNat->(0<=i/\i<(a.length:Int))/\∀x3,x3=el a i.toNat->(0<=k/\k<(b.length:Int))/\∀x4,x4=el b k.toNat->∀x5,x5=x3*x4%18446744073709551616->∀x6,x6=(x2+x5)%18446744073709551616->∀x7,x7=(x6+c)%18446744073709551616->R6 (i+k)/\∀x8,x8=i+k->(0<=x7/\x7<=18446744073709551615/\(65535:Int)<=18446744073709551615)/\∀x9,x9=x7%65536->(0<=x8/\x8<((n:Nat):Int))/\x8.toNat<o.length/\(0:Int)<=16/\∀x10,x10=x7/65536->R6 (k+1)/\∀x11,x11=k+1->K .normal ([.ce (.sl false [8] a), .ce (.sl false [8] b), .ce (.msl (1000015:Nat) n m), .ce (I6 i), .ce (.int .u64 x10), .ce (I6 x11)],[[.arr [8] (List.set o x8.toNat [bif true&&true then x9 else el o x8.toNat]) m]])) (K (.exit 2) ([.ce (.sl false [8] a), .ce (.sl false [8] b), .ce (.msl (1000015:Nat) n m), .ce (I6 i), .ce (.int .u64 c)],[[.arr [8] o m]]))):=by kernel_rfl
def SProd(hargs:List HV)(pars:List (List HC)):SR:=match hargs,pars with
 |[.ce (.int .i64 a), .ce (.int .i64 b)],[]=> .det ((-9223372036854775808<=a/\a<=9223372036854775807)/\(-9223372036854775808<=b/\b<=9223372036854775807)) ⟨.ce (.sl false [8] (lim (a.natAbs*b.natAbs))),false,[],[]⟩
 |_,_=> .fail
def tabProd:List (FuncId×HL.Spec):=[(155,SMag),(154,SLimbs),(153,SMulL)]
noncomputable def CProd:Ctx:=⟨Tryz.prog,gam tabProd,Tryz.f145.ntmps,[],[]⟩
theorem vcProd(a b:Int)(Q:Res->Prop):(nfun true CProd Tryz.f145 (bodyOf Tryz.f145) [.ce (I6 a), .ce (I6 b)] [] Q)=(R6 a/\∀x1,x1=(((Int.natAbs a):Nat):Int)->(0<=x1/\x1<18446744073709551616)/\∀(x2:LL),x2=lim x1.toNat->R6 b/\∀x3,x3=(((Int.natAbs b):Nat):Int)->(0<=x3/\x3<18446744073709551616)/\∀(x4:LL),x4=lim x3.toNat->(dg x2/\dg x4/\x2.length<=100/\x4.length<=100)/\∀(x5:LL),x5=lim (dv x2*dv x4)->Q ⟨.ce (.sl false [8] x5),false,[],[]⟩):=by kernel_rfl
def SCmpP(hargs:List HV)(pars:List (List HC)):SR:=match hargs,pars with
 |[.ce (.int .i64 a), .ce (.int .i64 b), .ce (.int .i64 c), .ce (.int .i64 d)],[]=> .all ((-9223372036854775808<=a/\a<=9223372036854775807)/\(-9223372036854775808<=b/\b<=9223372036854775807)/\(-9223372036854775808<=c/\c<=9223372036854775807)/\(-9223372036854775808<=d/\d<=9223372036854775807)) Int (fun _=>True) (fun x=>⟨.ce (I6 x),false,[],[]⟩)
 |_,_=> .fail
def tabCmpP:List (FuncId×HL.Spec):=[(143,SSgn),(145,SProd),(144,SCmp)]
noncomputable def CCmpP:Ctx:=⟨Tryz.prog,gam tabCmpP,Tryz.f133.ntmps,[],[]⟩
theorem vcCmpP(a b c d:Int)(Q:Res->Prop):(nfun true CCmpP Tryz.f133 (bodyOf Tryz.f133) [.ce (I6 a), .ce (I6 b), .ce (I6 c), .ce (I6 d)] [] Q)=(True/\∀x1,x1=Int.sign a*Int.sign b->True/\∀x2,x2=Int.sign c*Int.sign d->Br (x1<x2) (Q ⟨.ce (I6 (-1)),false,[],[]⟩) (Br (x1>x2) (Q ⟨.ce (I6 1),false,[],[]⟩) ((R6 a/\ -9223372036854775808<=b/\b<=9223372036854775807)/\∀(x3:LL),x3=lim (Int.natAbs a*Int.natAbs b)->(R6 c/\ -9223372036854775808<=d/\d<=9223372036854775807)/\∀(x4:LL),x4=lim (Int.natAbs c*Int.natAbs d)->(x3=lim (dv x3)/\x4=lim (dv x4)/\x3.length<=1000/\x4.length<=1000)/\∀x5,x5=cmp3 (dv x3) (dv x4)->R6 (x1*x5)/\∀x6,x6=x1*x5->Q ⟨.ce (I6 x6),false,[],[]⟩))):=by kernel_rfl
end Go.Proofs.YtoekmphdpepdbaaGreat
namespace U
open Go
theorem dv_set:∀(o:LL)(p:Nat)(v:Int),p<o.length->dv (o.set p [v])+(el o p).toNat*65536^p=dv o+v.toNat*65536^p
 |r::o,0,v,_=>by
  show v.toNat+65536*dv o+(r.getD 0 0).toNat*65536^0=(r.getD 0 0).toNat+65536*dv o+v.toNat*65536^0;omega
 |r::o,p+1,v,h=>by
  have ih:=dv_set o p v (by simpa using h);have e:el (r::o) (p+1)=el o p:=rfl;show(r.getD 0 0).toNat+65536*dv (o.set p [v])+(el (r::o) (p+1)).toNat*65536^(p+1)=(r.getD 0 0).toNat+65536*dv o+v.toNat*65536^(p+1);rw[e,Nat.pow_succ];have h1:(el o p).toNat*(65536^p*65536)=65536*((el o p).toNat*65536^p):=by grind
  have h2:v.toNat*(65536^p*65536)=65536*(v.toNat*65536^p):=by grind
  omega
theorem el_set(o:LL)(p:Nat)(v:Int)(j:Nat)(hp:p<o.length):el (o.set p [v]) j=if j=p then v else el o j:=by
 unfold el;simp only[List.getD_eq_getElem?_getD,List.getElem?_set];by_cases h:p=j
 . subst h;simp[hp]
 . rw[if_neg h,if_neg (fun e=>h e.symm)]
theorem dg_set{o:LL}(h:dg o){p:Nat}{v:Int}(h0:0<=v)(h1:v<65536):dg (o.set p [v]):=fun r hr=>by
 rcases List.mem_or_eq_of_mem_set hr with hr|rfl
 . exact h r hr
 . exact⟨v,rfl,h0,h1⟩
theorem dg_repl(n:Nat):dg (List.replicate n [0]):=fun r hr=>by
 rw[List.mem_replicate]at hr;exact⟨0,hr.2,by omega,by omega⟩
theorem el_repl(n j:Nat):el (List.replicate n [0]) j=0:=by
 unfold el;simp only[List.getD_eq_getElem?_getD,List.getElem?_replicate];split<;>rfl
theorem dv_repl:∀n:Nat,dv (List.replicate n [0])=0
 |0=>rfl
 |n+1=>by
  rw[List.replicate_succ];show(([0]:List Int).getD 0 0).toNat+65536*dv (List.replicate n [0])=0;rw[dv_repl n];rfl
theorem mul_step{do1 do2 do3 A B k1 bk P x2 x9 x10 t c:Nat}(h:do1+c*P=do2+A*k1)(ht:t=x2+B*bk+c)(hd:65536*x10+x9=t)(hs:do3+x2*P=do1+x9*P)(hA:A*(bk*1)=A*bk)(hP:B*bk*P=A*(k1*0)+B*bk*P):do3+x10*(P*65536)=do2+A*k1+B*bk*P:=by
 have e1:x10*(P*65536)+x9*P=t*P:=by rw[<-hd];grind
 have e2:t*P=x2*P+B*bk*P+c*P:=by rw[ht];grind
 omega
end U
namespace Go.Proofs.YtoekmphdpepdbaaGreat
open Go Go.HL U
theorem loopMulI:∀v Q,(LMulI v).wp Q->hloop CMulL anMulI (nthLoop Tryz.f153 1) v Q:=by
 intro v Q h;unfold LMulI at h;split at h;case h_2=>exact h.elim
 rename_i a b n m i c k o m2;obtain⟨⟨h0,h1,h2,h3,h4,h5,⟨h6,h7,h8,h9,h10,h11⟩,h12⟩,hq⟩:=h;subst h0 h1 h2 h5;obtain⟨I,rfl⟩:=Int.eq_ofNat_of_zero_le h3;have hI:I<a.length:=by omega
 simp only[Int.toNat_natCast]at hq h12;refine hloop_rec (σ:=LL×Int×Nat) (fun s=>([.ce (.sl false [8] a), .ce (.sl false [8] b), .ce (.msl 1000015 o.length m2), .ce (I6 (I:Int)), .ce (.int .u64 s.2.1), .ce (I6 (s.2.2:Int))],[[.arr [8] s.1 m2]])) (fun s=>b.length-s.2.2) (fun s=>s.1.length=o.length/\dg s.1/\(0<=s.2.1/\s.2.1<65536)/\zer s.1 (I+b.length)/\s.2.2<=b.length/\dv s.1+s.2.1.toNat*65536^(I+s.2.2)=dv o+(el a I).toNat*65536^I*dv (b.take s.2.2)) ?_ (o,0,0) ⟨rfl,h8,⟨by dsimp only;omega,by dsimp only;omega⟩,h12,Nat.zero_le _,by simp[dv]⟩;rintro⟨p,c,k⟩⟨g1,g2,⟨g3,g3'⟩,g4,g5,g6⟩K hn he _;dsimp only at g1 g2 g3 g3' g4 g5 g6 hn;refine byVB (vbMulI a b p o.length m2 I c k K) ⟨fun hlt=> ?_,fun hge=> ?_⟩
 . have hlt:=odt hlt;have hkb:k<b.length:=by omega
   have ha:=el_dg h6 hI;have hb:=el_dg h7 hkb;have ho:=el_dg g2 (show I+k<p.length by omega);refine⟨by omega,fun x1 e1=>⟨by omega,by omega,fun x2 e2=>⟨by omega,fun x3 e3=>⟨by omega,fun x4 e4 x5 e5 x6 e6 x7 e7=> ?_⟩⟩⟩⟩;have t1:x1.toNat=I+k:=by omega
   rw[t1]at e2;have e2:x2=el p (I+k):=e2;have e3:x3=el a I:=e3;have e4:x4=el b k:=by rw[e4];rfl
   have hm:0<=x3*x4/\x3*x4<=65535*65535:=⟨Int.mul_nonneg (by omega) (by omega),Int.le_trans (Int.mul_le_mul_of_nonneg_right (show x3<=65535 by omega) (by omega)) (Int.mul_le_mul_of_nonneg_left (show x4<=65535 by omega) (by omega))⟩;have e7':x7=x2+x3*x4+c:=by omega
   refine⟨by omega,fun x8 e8=>⟨by omega,fun x9 e9=>⟨by omega,by omega,by omega,fun x10 e10=>⟨by omega,fun x11 e11=> ?_⟩⟩⟩⟩;have t8:x8.toNat=I+k:=by omega
   rw[t8,show x11=((k+1:Nat):Int)by omega];refine hn (p.set (I+k) [x9],x10,k+1) ⟨by rw[List.length_set];exact g1,dg_set g2 (by omega) (by omega),⟨by dsimp only;omega,by dsimp only;omega⟩,fun j hj hjl=> ?_,by dsimp only;omega,?_⟩ (by dsimp only;omega)
   . rw[List.length_set]at hjl;rw[el_set _ _ _ _ (by omega),if_neg (by omega)];exact g4 j hj hjl
   . dsimp only;have hs:=dv_set p (I+k) x9 (by omega);rw[dv_take_succ hkb];have hpow:(65536:Nat)^(I+(k+1))=65536^(I+k)*65536:=by rw[<-Nat.add_assoc,Nat.pow_succ]
     have hst:=mul_step (do1:=dv p) (do2:=dv o) (do3:=dv (p.set (I+k) [x9])) (A:=(el a I).toNat*65536^I) (B:=(el a I).toNat) (k1:=dv (b.take k)) (bk:=(el b k).toNat) (P:=65536^(I+k)) (x2:=(el p (I+k)).toNat) (x9:=x9.toNat) (x10:=x10.toNat) (t:=x7.toNat) (c:=c.toNat) g6 (by
       have:x7=((el p (I+k)).toNat+(el a I).toNat*(el b k).toNat+c.toNat:Nat):=by
        rw[e7',e2,e3,e4];have q1:((el p (I+k)).toNat:Int)=el p (I+k):=by omega
        have q2:((el a I).toNat:Int)=el a I:=by omega
        have q3:((el b k).toNat:Int)=el b k:=by omega
        have q4:(c.toNat:Int)=c:=by omega
        rw[Int.natCast_add,Int.natCast_add,Int.natCast_mul,q1,q2,q3,q4]
       omega) (by omega) hs (by simp) (by simp);rw[hpow,hst];have:(65536:Nat)^(I+k)=65536^I*65536^k:=Nat.pow_add _ _ _;rw[this];grind
 . have hge:=odf hge;have hk:k=b.length:=by omega
   subst hk;rw[List.take_length]at g6;exact he _ _ (hq (p,c) ⟨g1,g2,g3,g3',g4,g6⟩)
theorem loopMulO:∀v Q,(LMulO v).wp Q->hloop CMulL anMulO (nthLoop Tryz.f153 0) v Q:=by
 intro v Q h;unfold LMulO at h;split at h;case h_2=>exact h.elim
 rename_i a b n m i o m2;obtain⟨⟨h0,h1,h2,⟨h6,h7,h8,h9,h10,h11⟩,h12⟩,hq⟩:=h;subst h0 h1 h2;have hz:dv o=0:=by
  have:o=List.replicate o.length [0]:=by
   apply List.ext_getElem?;intro j;by_cases hj:j<o.length
   . have e:=(el_dg h8 hj).2.2;rw[h12 j (Nat.zero_le _) hj]at e;simp[hj,List.getD_eq_getElem?_getD]at e⊢;exact e
   . rw[List.getElem?_eq_none (by omega),List.getElem?_eq_none (by simp;omega)]
  rw[this,dv_repl]
 refine hloop_rec (σ:=LL×Nat) (fun s=>([.ce (.sl false [8] a), .ce (.sl false [8] b), .ce (.msl 1000015 o.length m2), .ce (I6 (s.2:Int))],[[.arr [8] s.1 m2]])) (fun s=>a.length-s.2) (fun s=>s.1.length=o.length/\dg s.1/\s.2<=a.length/\zer s.1 (s.2+b.length)/\dv s.1=dv (a.take s.2)*dv b) ?_ (o,0) ⟨rfl,h8,Nat.zero_le _,fun j _ hj=>h12 j (Nat.zero_le _) hj,by simp[dv,hz]⟩;rintro⟨p,i⟩⟨g1,g2,g3,g4,g5⟩K hn he _;dsimp only at g1 g2 g3 g4 g5 hn;refine byVB (vbMulO a b p o.length m2 i K) ⟨fun hlt=> ?_,fun hge=> ?_⟩
 . have hlt:=odt hlt;have hia:i<a.length:=by omega
   refine⟨⟨rfl,rfl,rfl,by omega,by omega,g1.symm,⟨h6,h7,g2,h9,h10,by omega⟩,fun j hj hjl=>g4 j (by simpa using hj) hjl⟩,fun x hx=> ?_⟩;obtain⟨q1,q2,q3,q4,q5,q6⟩:=hx;simp only[Int.toNat_natCast]at q5 q6;refine⟨by omega,fun x4 e4=>⟨by omega,fun x5 e5=>⟨by omega,by omega,fun x6 e6 x7 e7=>⟨by omega,by omega,by omega,fun x8 e8=> ?_⟩⟩⟩⟩;have t4:x4.toNat=i+b.length:=by omega
   have t5:x5.toNat=i+b.length:=by omega
   rw[t5]at e6;have e6:x6=el x.1 (i+b.length):=e6;have z6:=q5 (i+b.length) (Nat.le_refl _) (by omega);have e7:x7=x.2:=by omega
   rw[t4,show x8=((i+1:Nat):Int)by omega,e7];refine hn (x.1.set (i+b.length) [x.2],i+1) ⟨by rw[List.length_set];omega,dg_set q2 q3 q4,by dsimp only;omega,fun j hj hjl=> ?_,?_⟩ (by dsimp only;omega)
   . rw[List.length_set]at hjl;dsimp only at hj;rw[el_set _ _ _ _ (by omega),if_neg (by omega)];exact q5 j (by omega) hjl
   . dsimp only;have hs:=dv_set x.1 (i+b.length) x.2 (by omega);rw[z6]at hs;rw[dv_take_succ hia];have e0:(0:Int).toNat*65536^(i+b.length)=0:=by simp
     rw[e0,Nat.add_zero,q6,g5]at hs;rw[hs];grind
 . have hge:=odf hge;have hk:i=a.length:=by omega
   subst hk;rw[List.take_length]at g5;exact he _ _ (hq p ⟨g1,g2,g5⟩)
theorem sMulL:Sound Tryz.prog 153 SMulL:=by
 refine sound_of (C:=CMulL) tabMulL Tryz.func153 (by kernel_rfl) (by decide+kernel) (by kernel_rfl) rfl ⟨sCut,trivial⟩ (loops2 (by kernel_rfl) (loopOK_of (an:=anMulO) (S:=LMulO) (by kernel_rfl) loopMulO) (loopOK_of (an:=anMulI) (S:=LMulI) (by kernel_rfl) loopMulI)) ?_;intro hargs pars R h;unfold SMulL at h;split at h;case h_2=>exfalso;exact h
 rename_i a b;have hq:=h.2;have h:=h.1;have h1:=h.1;have h2:=h.2.1;have h3:=h.2.2.1;have h4:=h.2.2.2;refine byVC (vcMulL a b R) ⟨by omega,fun x1 e1=>⟨by omega,?_⟩⟩;have t1:x1.toNat=a.length+b.length:=by omega
 refine⟨⟨rfl,rfl,by rw[List.length_replicate],⟨h1,h2,dg_repl _,h3,h4,by rw[List.length_replicate];exact t1⟩,fun j _ _=>el_repl _ _⟩,fun x hx=> ?_⟩;obtain⟨q1,q2,q3⟩:=hx;rw[List.length_replicate]at q1;exact⟨q1.symm,⟨q2,by omega⟩,fun x4 e4=>by rw[e4,q3];exact hq⟩
end Go.Proofs.YtoekmphdpepdbaaGreat
namespace U
open Go Go.HL
theorem natAbs_lim{a:Int}(h: -9223372036854775808<=a/\a<=9223372036854775807):a.natAbs<65536^4:=by omega
theorem prod_lim{a b:Int}(ha: -9223372036854775808<=a/\a<=9223372036854775807)(hb: -9223372036854775808<=b/\b<=9223372036854775807):a.natAbs*b.natAbs<65536^8:=by
 have h1:=natAbs_lim ha;have h2:=natAbs_lim hb;have:a.natAbs*b.natAbs<65536^4*65536^4:=Nat.mul_lt_mul'' h1 h2;exact this
theorem cmp3_bd(x y:Nat): -1<=cmp3 x y/\cmp3 x y<=1:=by
 unfold cmp3;split
 . omega
 . split<;>omega
theorem sgn_bd(x:Int):x.sign= -1∨x.sign=0∨x.sign=1:=by
 rcases Int.lt_trichotomy x 0 with h|h|h
 . exact .inl (Int.sign_eq_neg_one_of_neg h)
 . subst h;exact .inr (.inl rfl)
 . exact .inr (.inr (Int.sign_eq_one_of_pos h))
theorem sgn2_bd(x y:Int):x.sign*y.sign= -1∨x.sign*y.sign=0∨x.sign*y.sign=1:=by
 rcases sgn_bd x with h|h|h<;>rcases sgn_bd y with g|g|g<;>rw[h,g]<;>decide
end U
namespace Go.Proofs.YtoekmphdpepdbaaGreat
open Go Go.HL U
theorem sProd:Sound Tryz.prog 145 SProd:=by
 refine sound_of (C:=CProd) tabProd Tryz.func145 (by kernel_rfl) (by decide+kernel) (by kernel_rfl) rfl ⟨sMag,sLimbs,sMulL,trivial⟩ (loops0 (by kernel_rfl)) ?_;intro hargs pars R h;unfold SProd at h;split at h;case h_2=>exfalso;exact h
 rename_i a b;have hq:=h.2;have h:=h.1;have l1:=lim_len 4 a.natAbs (natAbs_lim h.1);have l2:=lim_len 4 b.natAbs (natAbs_lim h.2);refine byVC (vcProd a b R) ⟨h.1,fun x1 e1=>⟨by omega,fun x2 e2=>⟨h.2,fun x3 e3=>⟨by omega,fun x4 e4=> ?_⟩⟩⟩⟩;have t1:x1.toNat=a.natAbs:=by omega
 have t3:x3.toNat=b.natAbs:=by omega
 rw[t1]at e2;rw[t3]at e4;subst e2 e4;refine⟨⟨dg_lim _,dg_lim _,by omega,by omega⟩,fun x5 e5=> ?_⟩;rw[dv_lim,dv_lim]at e5;subst e5;exact hq
theorem sCmpP:Sound Tryz.prog 133 SCmpP:=by
 refine sound_of (C:=CCmpP) tabCmpP Tryz.func133 (by kernel_rfl) (by decide+kernel) (by kernel_rfl) rfl ⟨sSgn,sProd,sCmp,trivial⟩ (loops0 (by kernel_rfl)) ?_;intro hargs pars R h;unfold SCmpP at h;split at h;case h_2=>exfalso;exact h
 rename_i a b c d;obtain⟨⟨ha,hb,hc,hd⟩,_,hR⟩:=h;refine byVC (vcCmpP a b c d R) ⟨trivial,fun x1 e1=>⟨trivial,fun x2 e2=>⟨fun _=>hR _ trivial,fun _=>⟨fun _=>hR _ trivial,fun _=>⟨⟨ha,hb⟩,fun x3 e3=>⟨⟨hc,hd⟩,fun x4 e4=> ?_⟩⟩⟩⟩⟩⟩;have l3:=lim_len 8 _ (prod_lim ha hb);have l4:=lim_len 8 _ (prod_lim hc hd);subst e3 e4;refine⟨⟨by rw[dv_lim],by rw[dv_lim],by omega,by omega⟩,fun x5 e5=> ?_⟩;have b5:=cmp3_bd (dv (lim (a.natAbs*b.natAbs))) (dv (lim (c.natAbs*d.natAbs)));rw[<-e5]at b5;have s:=sgn2_bd a b;rw[<-e1]at s;have bb: -1<=x1*x5/\x1*x5<=1:=by rcases s with h|h|h<;>rw[h]<;>omega
 exact⟨by omega,fun x6 _=>hR x6 trivial⟩
end Go.Proofs.YtoekmphdpepdbaaGreat
namespace U
open Go
def nice(k0 f0 f1 f2 t0 t1 t2 c0 c1 c2 dr fd bl:Int):Prop:=(1<=k0/\k0<=3)/\b3 256 f0 f1 f2/\b3 256 t0 t1 t2/\b3 256 c0 c1 c2/\(-1<=dr/\dr<=1)/\(0<=fd/\fd<=60000000)/\(0<=bl/\bl<=1000)
end U
namespace Go.Proofs.YtoekmphdpepdbaaGreat
open Go Go.HL U
def SMotion(hA:List HV)(pA:List (List HC)):SR:=match hA,pA with
 |[.ce (.int .i64 k)],[]=> .det (1<=k/\k<=6) ⟨.ce (.bool true),false,[],[]⟩
 |_,_=> .fail
noncomputable def CMotion:Ctx:=⟨Tryz.prog,gam [],Tryz.f66.ntmps,[],[]⟩
theorem vcMotion(k:Int)(Q:Res->Prop):(nfun true CMotion Tryz.f66 (bodyOf Tryz.f66) [.ce (I6 k)] [] Q)=(Br (k>=1) (Q ⟨.ce (.bool (decide (k<=6))),false,[],[]⟩) (Q ⟨.ce (.bool false),false,[],[]⟩)):=by kernel_rfl
def SValid(hA:List HV)(pA:List (List HC)):SR:=match hA,pA with
 |[.agg [.int .i64 k0, .int .i64 bk, .int .i64 f0, .int .i64 f1, .int .i64 f2, .int .i64 t0, .int .i64 t1, .int .i64 t2, .int .i64 pl, .int .i64 c0, .int .i64 c1, .int .i64 c2, .int .i64 dr, .bool fu, .int .i64 fd, .bool pr, .int .i64 sd, .int .i64 ra, .int .i64 bl, .int .i64 nn, .int .i64 sp, .bool on]],[]=> .all (nice k0 f0 f1 f2 t0 t1 t2 c0 c1 c2 dr fd bl) Bool (fun x=>k0≠3->x=true) (fun x=>⟨.ce (.bool x),false,[],[]⟩)
 |_,_=> .fail
def tabValid:List (FuncId×HL.Spec):=[(66,SMotion),(130,SWithin),(131,SEnd1),(132,SDot),(133,SCmpP),(134,SCross)]
def anV5:LAnn:=⟨[1,2],[1,2,55],[1000001],false⟩
def LV5(v:LV):LR:=match v with
 |([.ce (.ptr 1000001 0), .ce (.bool z)],[[.int .i64 k0, .int .i64 bk, .int .i64 f0, .int .i64 f1, .int .i64 f2, .int .i64 t0, .int .i64 t1, .int .i64 t2, .int .i64 pl, .int .i64 c0, .int .i64 c1, .int .i64 c2, .int .i64 dr, .bool fu, .int .i64 fd, .bool pr, .int .i64 sd, .int .i64 ra, .int .i64 bl, .int .i64 nn, .int .i64 sp, .bool on]])=> .all (b3 1048576 c0 c1 c2) Bool (fun _=>True) (fun _=> .normal) (fun b=>([.ce (.ptr 1000001 0), .ce (.bool z), .ce (.bool b)],[[I6 k0,I6 bk,I6 f0,I6 f1,I6 f2,I6 t0,I6 t1,I6 t2,I6 pl,I6 c0,I6 c1,I6 c2,I6 dr, .bool fu,I6 fd, .bool pr,I6 sd,I6 ra,I6 bl,I6 nn,I6 sp, .bool on]]))
 |_=> .fail
noncomputable def CValid:Ctx:=⟨Tryz.prog,gam tabValid,Tryz.f118.ntmps,[(3000005,anV5,LV5)],[]⟩
theorem vgV5(k0 bk f0 f1 f2 t0 t1 t2 pl c0 c1 c2 dr fd sd ra bl nn sp:Int)(fu pr on:Bool)(z:Bool)(K:HEx->LV->Prop):(nfragT true CValid anV5 (nthFrag CValid Tryz.f118 0) (([.ce (.ptr 1000001 0), .ce (.bool z)],[[I6 k0,I6 bk,I6 f0,I6 f1,I6 f2,I6 t0,I6 t1,I6 t2,I6 pl,I6 c0,I6 c1,I6 c2,I6 dr, .bool fu,I6 fd, .bool pr,I6 sd,I6 ra,I6 bl,I6 nn,I6 sp, .bool on]])) K)=(Bb (pl !=17) (Bb (pl !=18) (Bb (pl !=19) (K .normal ([.ce (.ptr 1000001 0), .ce (.bool z), .ce (.bool true)],[[I6 k0,I6 bk,I6 f0,I6 f1,I6 f2,I6 t0,I6 t1,I6 t2,I6 pl,I6 c0,I6 c1,I6 c2,I6 dr, .bool fu,I6 fd, .bool pr,I6 sd,I6 ra,I6 bl,I6 nn,I6 sp, .bool on]])) (Bb (dr !=1) (Bb (dr !=(-1:Int)) (K .normal ([.ce (.ptr 1000001 0), .ce (.bool z), .ce (.bool true)],[[I6 k0,I6 bk,I6 f0,I6 f1,I6 f2,I6 t0,I6 t1,I6 t2,I6 pl,I6 c0,I6 c1,I6 c2,I6 dr, .bool fu,I6 fd, .bool pr,I6 sd,I6 ra,I6 bl,I6 nn,I6 sp, .bool on]])) (b3 1048576 c0 c1 c2/\∀(x1:Bool),x1=true->K .normal ([.ce (.ptr 1000001 0), .ce (.bool z), .ce (.bool !x1)],[[I6 k0,I6 bk,I6 f0,I6 f1,I6 f2,I6 t0,I6 t1,I6 t2,I6 pl,I6 c0,I6 c1,I6 c2,I6 dr, .bool fu,I6 fd, .bool pr,I6 sd,I6 ra,I6 bl,I6 nn,I6 sp, .bool on]]))) (b3 1048576 c0 c1 c2/\∀(x2:Bool),x2=true->K .normal ([.ce (.ptr 1000001 0), .ce (.bool z), .ce (.bool !x2)],[[I6 k0,I6 bk,I6 f0,I6 f1,I6 f2,I6 t0,I6 t1,I6 t2,I6 pl,I6 c0,I6 c1,I6 c2,I6 dr, .bool fu,I6 fd, .bool pr,I6 sd,I6 ra,I6 bl,I6 nn,I6 sp, .bool on]])))) (Bb (dr !=1) (Bb (dr !=(-1:Int)) (K .normal ([.ce (.ptr 1000001 0), .ce (.bool z), .ce (.bool true)],[[I6 k0,I6 bk,I6 f0,I6 f1,I6 f2,I6 t0,I6 t1,I6 t2,I6 pl,I6 c0,I6 c1,I6 c2,I6 dr, .bool fu,I6 fd, .bool pr,I6 sd,I6 ra,I6 bl,I6 nn,I6 sp, .bool on]])) (b3 1048576 c0 c1 c2/\∀(x3:Bool),x3=true->K .normal ([.ce (.ptr 1000001 0), .ce (.bool z), .ce (.bool !x3)],[[I6 k0,I6 bk,I6 f0,I6 f1,I6 f2,I6 t0,I6 t1,I6 t2,I6 pl,I6 c0,I6 c1,I6 c2,I6 dr, .bool fu,I6 fd, .bool pr,I6 sd,I6 ra,I6 bl,I6 nn,I6 sp, .bool on]]))) (b3 1048576 c0 c1 c2/\∀(x4:Bool),x4=true->K .normal ([.ce (.ptr 1000001 0), .ce (.bool z), .ce (.bool !x4)],[[I6 k0,I6 bk,I6 f0,I6 f1,I6 f2,I6 t0,I6 t1,I6 t2,I6 pl,I6 c0,I6 c1,I6 c2,I6 dr, .bool fu,I6 fd, .bool pr,I6 sd,I6 ra,I6 bl,I6 nn,I6 sp, .bool on]])))) (Bb (dr !=1) (Bb (dr !=(-1:Int)) (K .normal ([.ce (.ptr 1000001 0), .ce (.bool z), .ce (.bool true)],[[I6 k0,I6 bk,I6 f0,I6 f1,I6 f2,I6 t0,I6 t1,I6 t2,I6 pl,I6 c0,I6 c1,I6 c2,I6 dr, .bool fu,I6 fd, .bool pr,I6 sd,I6 ra,I6 bl,I6 nn,I6 sp, .bool on]])) (b3 1048576 c0 c1 c2/\∀(x5:Bool),x5=true->K .normal ([.ce (.ptr 1000001 0), .ce (.bool z), .ce (.bool !x5)],[[I6 k0,I6 bk,I6 f0,I6 f1,I6 f2,I6 t0,I6 t1,I6 t2,I6 pl,I6 c0,I6 c1,I6 c2,I6 dr, .bool fu,I6 fd, .bool pr,I6 sd,I6 ra,I6 bl,I6 nn,I6 sp, .bool on]]))) (b3 1048576 c0 c1 c2/\∀(x6:Bool),x6=true->K .normal ([.ce (.ptr 1000001 0), .ce (.bool z), .ce (.bool !x6)],[[I6 k0,I6 bk,I6 f0,I6 f1,I6 f2,I6 t0,I6 t1,I6 t2,I6 pl,I6 c0,I6 c1,I6 c2,I6 dr, .bool fu,I6 fd, .bool pr,I6 sd,I6 ra,I6 bl,I6 nn,I6 sp, .bool on]])))):=by kernel_rfl
theorem vcValid(k0 bk f0 f1 f2 t0 t1 t2 pl c0 c1 c2 dr fd sd ra bl nn sp:Int)(fu pr on:Bool)(Q:Res->Prop):(nfun true CValid Tryz.f118 (bodyOf Tryz.f118) [.agg [I6 k0,I6 bk,I6 f0,I6 f1,I6 f2,I6 t0,I6 t1,I6 t2,I6 pl,I6 c0,I6 c1,I6 c2,I6 dr, .bool fu,I6 fd, .bool pr,I6 sd,I6 ra,I6 bl,I6 nn,I6 sp, .bool on]] [] Q)=((1<=k0/\k0<=6)/\∀(x1:Bool),x1=true->Bb (!x1) (Q ⟨.ce (.bool false),false,[],[]⟩) (b3 1048576 f0 f1 f2/\∀(x2:Bool),x2=true->Bb (!x2) (Q ⟨.ce (.bool false),false,[],[]⟩) (b3 1048576 t0 t1 t2/\∀(x3:Bool),x3=true->Bb (!x3) (Q ⟨.ce (.bool false),false,[],[]⟩) (Bb (k0 !=3) (Q ⟨.ce (.bool true),false,[],[]⟩) (b3 1048576 c0 c1 c2/\∀(x:Bool),True->Bb (x) (Q ⟨.ce (.bool false),false,[],[]⟩) ((b3 256 f0 f1 f2/\b3 256 t0 t1 t2/\b3 256 c0 c1 c2)/\(∃(x:Int×Int×Int×Int×Int×Int),b3 512 x.1 x.snd.1 x.snd.snd.snd.1/\b3 512 x.snd.snd.snd.snd.1 x.snd.snd.snd.snd.1 x.snd.snd.snd.snd.1/\b3 256 x.snd.snd.1 x.snd.snd.snd.snd.2 (0:Int))/\∀(x:Int×Int×Int×Int×Int×Int),b3 512 x.1 x.snd.1 x.snd.snd.snd.1/\b3 512 x.snd.snd.snd.snd.1 x.snd.snd.snd.snd.1 x.snd.snd.snd.snd.1/\b3 256 x.snd.snd.1 x.snd.snd.snd.snd.2 (0:Int)->(((-65536:Int)<=x.1/\x.1<=65536)/\((-65536:Int)<=x.snd.1/\x.snd.1<=65536)/\((-65536:Int)<=x.1/\x.1<=65536)/\(-65536:Int)<=x.snd.1/\x.snd.1<=65536)/\(∃(x_1:Int),x_1=x.1*x.1+x.snd.1*x.snd.1/\ -8589934592<=x_1/\x_1<=8589934592)/\∀x_1,x_1=x.1*x.1+x.snd.1*x.snd.1/\ -8589934592<=x_1/\x_1<=8589934592->(((-65536:Int)<=x.snd.snd.snd.1/\x.snd.snd.snd.1<=65536)/\((-65536:Int)<=x.snd.snd.snd.snd.1/\x.snd.snd.snd.snd.1<=65536)/\((-65536:Int)<=x.snd.snd.snd.1/\x.snd.snd.snd.1<=65536)/\(-65536:Int)<=x.snd.snd.snd.snd.1/\x.snd.snd.snd.snd.1<=65536)/\(∃(x_2:Int),x_2=x.snd.snd.snd.1*x.snd.snd.snd.1+x.snd.snd.snd.snd.1*x.snd.snd.snd.snd.1/\ -8589934592<=x_2/\x_2<=8589934592)/\∀x_2,x_2=x.snd.snd.snd.1*x.snd.snd.snd.1+x.snd.snd.snd.snd.1*x.snd.snd.snd.snd.1/\ -8589934592<=x_2/\x_2<=8589934592->Br (x_1<64) (Q ⟨.ce (.bool false),false,[],[]⟩) (Br (x_2<64) (Q ⟨.ce (.bool false),false,[],[]⟩) (R6 (x_1+x_2)/\∀x8,x8=x_1+x_2->R6 (x8-16)/\∀x9,x9=x8-16->Br (x9>0) (R6 (4*x_1)/\∀x10,x10=4*x_1->(R6 x9/\R6 x9/\R6 x10/\ -9223372036854775808<=x_2/\x_2<=9223372036854775807)/\(∃(x:Int),True)/\∀(x_3:Int),True->Br (x_3>0) (Q ⟨.ce (.bool false),false,[],[]⟩) (Bb (fu) (Bb (x.1==x.snd.snd.snd.1) (Q ⟨.ce (.bool (x.snd.1==x.snd.snd.snd.snd.1)),false,[],[]⟩) (Q ⟨.ce (.bool false),false,[],[]⟩)) ((((-65536:Int)<=x.1/\x.1<=65536)/\((-65536:Int)<=x.snd.1/\x.snd.1<=65536)/\((-65536:Int)<=x.snd.snd.snd.1/\x.snd.snd.snd.1<=65536)/\(-65536:Int)<=x.snd.snd.snd.snd.1/\x.snd.snd.snd.snd.1<=65536)/\(∃(x_4:Int),x_4=x.1*x.snd.snd.snd.snd.1-x.snd.1*x.snd.snd.snd.1/\ -8589934592<=x_4/\x_4<=8589934592)/\∀x_4,x_4=x.1*x.snd.snd.snd.snd.1-x.snd.1*x.snd.snd.snd.1/\ -8589934592<=x_4/\x_4<=8589934592->Bb (x_4 !=0) (Q ⟨.ce (.bool true),false,[],[]⟩) ((((-65536:Int)<=x.1/\x.1<=65536)/\((-65536:Int)<=x.snd.1/\x.snd.1<=65536)/\((-65536:Int)<=x.snd.snd.snd.1/\x.snd.snd.snd.1<=65536)/\(-65536:Int)<=x.snd.snd.snd.snd.1/\x.snd.snd.snd.snd.1<=65536)/\(∃(x_5:Int),x_5=x.1*x.snd.snd.snd.1+x.snd.1*x.snd.snd.snd.snd.1/\ -8589934592<=x_5/\x_5<=8589934592)/\∀x_5,x_5=x.1*x.snd.snd.snd.1+x.snd.1*x.snd.snd.snd.snd.1/\ -8589934592<=x_5/\x_5<=8589934592->Q ⟨.ce (.bool (decide (x_5<0))),false,[],[]⟩)))) (Bb (fu) (Bb (x.1==x.snd.snd.snd.1) (Q ⟨.ce (.bool (x.snd.1==x.snd.snd.snd.snd.1)),false,[],[]⟩) (Q ⟨.ce (.bool false),false,[],[]⟩)) ((((-65536:Int)<=x.1/\x.1<=65536)/\((-65536:Int)<=x.snd.1/\x.snd.1<=65536)/\((-65536:Int)<=x.snd.snd.snd.1/\x.snd.snd.snd.1<=65536)/\(-65536:Int)<=x.snd.snd.snd.snd.1/\x.snd.snd.snd.snd.1<=65536)/\(∃(x_3:Int),x_3=x.1*x.snd.snd.snd.snd.1-x.snd.1*x.snd.snd.snd.1/\ -8589934592<=x_3/\x_3<=8589934592)/\∀x_3,x_3=x.1*x.snd.snd.snd.snd.1-x.snd.1*x.snd.snd.snd.1/\ -8589934592<=x_3/\x_3<=8589934592->Bb (x_3 !=0) (Q ⟨.ce (.bool true),false,[],[]⟩) ((((-65536:Int)<=x.1/\x.1<=65536)/\((-65536:Int)<=x.snd.1/\x.snd.1<=65536)/\((-65536:Int)<=x.snd.snd.snd.1/\x.snd.snd.snd.1<=65536)/\(-65536:Int)<=x.snd.snd.snd.snd.1/\x.snd.snd.snd.snd.1<=65536)/\(∃(x_4:Int),x_4=x.1*x.snd.snd.snd.1+x.snd.1*x.snd.snd.snd.snd.1/\ -8589934592<=x_4/\x_4<=8589934592)/\∀x_4,x_4=x.1*x.snd.snd.snd.1+x.snd.1*x.snd.snd.snd.snd.1/\ -8589934592<=x_4/\x_4<=8589934592->Q ⟨.ce (.bool (decide (x_4<0))),false,[],[]⟩))))))))))):=by kernel_rfl
def SSpokes(hA:List HV)(pA:List (List HC)):SR:=match hA,pA with
 |[.agg [.int .i64 k0, .int .i64 bk, .int .i64 f0, .int .i64 f1, .int .i64 f2, .int .i64 t0, .int .i64 t1, .int .i64 t2, .int .i64 pl, .int .i64 c0, .int .i64 c1, .int .i64 c2, .int .i64 dr, .bool fu, .int .i64 fd, .bool pr, .int .i64 sd, .int .i64 ra, .int .i64 bl, .int .i64 nn, .int .i64 sp, .bool on]],[]=> .all (nice k0 f0 f1 f2 t0 t1 t2 c0 c1 c2 dr fd bl) (LL×Bool) (fun x=>(k0≠3->x.2=false)/\spks x.1/\x.1.length<=70000) (fun x=>⟨.tup [.ce (.sl false [4,4,4,4] x.1), .ce (.bool x.2)],false,[],[]⟩)
 |_,_=> .fail
def tabSpokes:List (FuncId×HL.Spec):=[(118,SValid),(135,SEnds),(136,SPcs 16)]
noncomputable def CSpokes:Ctx:=⟨Tryz.prog,gam tabSpokes,Tryz.f119.ntmps,[],[]⟩
theorem vcSpokes(k0 bk f0 f1 f2 t0 t1 t2 pl c0 c1 c2 dr fd sd ra bl nn sp:Int)(fu pr on:Bool)(Q:Res->Prop):(nfun true CSpokes Tryz.f119 (bodyOf Tryz.f119) [.agg [I6 k0,I6 bk,I6 f0,I6 f1,I6 f2,I6 t0,I6 t1,I6 t2,I6 pl,I6 c0,I6 c1,I6 c2,I6 dr, .bool fu,I6 fd, .bool pr,I6 sd,I6 ra,I6 bl,I6 nn,I6 sp, .bool on]] [] Q)=(Bb (k0 !=3) (Q ⟨.tup [.ce (.sl false [4,4,4,4] []), .ce (.bool false)],false,[],[]⟩) (nice k0 f0 f1 f2 t0 t1 t2 c0 c1 c2 dr fd bl/\(∃(x:Bool),k0≠3->x=true)/\∀(x:Bool),(k0≠3->x=true)->Bb (!x) (Q ⟨.tup [.ce (.sl false [4,4,4,4] []), .ce (.bool false)],false,[],[]⟩) ((b3 256 f0 f1 f2/\b3 256 t0 t1 t2/\b3 256 c0 c1 c2)/\(∃(x:(Int×Int×Int×Int)×Int×Int×Int×Int),spk x.fst.1 x.fst.snd.1 x.fst.snd.snd.1 x.fst.snd.snd.2/\spk x.snd.1 x.snd.snd.1 x.snd.snd.snd.1 x.snd.snd.snd.2)/\∀(x:(Int×Int×Int×Int)×Int×Int×Int×Int),spk x.fst.1 x.fst.snd.1 x.fst.snd.snd.1 x.fst.snd.snd.2/\spk x.snd.1 x.snd.snd.1 x.snd.snd.snd.1 x.snd.snd.snd.2->(((0:Int)<=16/\(16:Int)<=16)/\((0:Int)<=0/\(0:Int)<=16/\(16:Int)<=16)/\spk x.fst.1 x.fst.snd.1 x.fst.snd.snd.1 x.fst.snd.snd.2/\spk x.snd.1 x.snd.snd.1 x.snd.snd.snd.1 x.snd.snd.snd.2/\ -1<=dr/\dr<=1)/\(∃(x:LL),((1:Nat)<=x.length/\x.length<=65536)/\spks x)/\∀(x_1:LL),((1:Nat)<=x_1.length/\x_1.length<=65536)/\spks x_1->(((1:Nat)+x_1.length)*32<=140737488355328/\(1:Nat)+x_1.length<=maxLen)/\Q ⟨.tup [.ce (.sl false [4,4,4,4] ([[x.fst.1,x.fst.snd.1,x.fst.snd.snd.1,x.fst.snd.snd.2]]++x_1)), .ce (.bool true)],false,[],[]⟩))):=by kernel_rfl
def SChords(hA:List HV)(pA:List (List HC)):SR:=match hA,pA with
 |[.agg [.int .i64 k0, .int .i64 bk, .int .i64 f0, .int .i64 f1, .int .i64 f2, .int .i64 t0, .int .i64 t1, .int .i64 t2, .int .i64 pl, .int .i64 c0, .int .i64 c1, .int .i64 c2, .int .i64 dr, .bool fu, .int .i64 fd, .bool pr, .int .i64 sd, .int .i64 ra, .int .i64 bl, .int .i64 nn, .int .i64 sp, .bool on]],[]=> .all (nice k0 f0 f1 f2 t0 t1 t2 c0 c1 c2 dr fd bl) (LL×Bool) (fun x=>(k0≠3->x.1.length=2)/\ptsOK 32768 x.1/\x.1.length<=70000) (fun x=>⟨.tup [.ce (.sl false [4,4,4] x.1), .ce (.bool x.2)],false,[],[]⟩)
 |_,_=> .fail
def tabChords:List (FuncId×HL.Spec):=[(118,SValid),(119,SSpokes),(68,SFine),(115,SPlane),(117,SSpace)]
def anChords:LAnn:=⟨[1,6,7,9,100009,39,40,41],[9,100009],[1000001],false⟩
def LChords(v:LV):LR:=match v with
 |([.ce (.ptr 1000001 0), .ce (.int .i64 cu), .ce (.int .i64 cw), .ce (.sl false [4,4,4] l), .ce (.lit true), .ce (.sl false [4,4,4,4] s), .ce (.int .i64 n), .ce (.int .i64 i)],[b])=>match b with
  |[.int .i64 k0, .int .i64 bk, .int .i64 f0, .int .i64 f1, .int .i64 f2, .int .i64 t0, .int .i64 t1, .int .i64 t2, .int .i64 pl, .int .i64 c0, .int .i64 c1, .int .i64 c2, .int .i64 dr, .bool fu, .int .i64 fd, .bool pr, .int .i64 sd, .int .i64 ra, .int .i64 bl, .int .i64 nn, .int .i64 sp, .bool on]=> .all (n=s.length/\i=0/\l.length=0/\spks s/\s.length<=70000/\(-4096<=cu/\cu<=4096)/\(-4096<=cw/\cw<=4096)) (LL) (fun y=>ptsOK 32768 y/\y.length=s.length) (fun _=> .exit 0) (fun y=>([.ce (.sl false [4,4,4] y), .ce (.lit true)],[[I6 k0,I6 bk,I6 f0,I6 f1,I6 f2,I6 t0,I6 t1,I6 t2,I6 pl,I6 c0,I6 c1,I6 c2,I6 dr, .bool fu,I6 fd, .bool pr,I6 sd,I6 ra,I6 bl,I6 nn,I6 sp, .bool on]]))
  |_=> .fail
 |_=> .fail
noncomputable def CChords:Ctx:=⟨Tryz.prog,gam tabChords,Tryz.f101.ntmps,[(9,anChords,LChords)],[]⟩
theorem vbChords(k0 bk f0 f1 f2 t0 t1 t2 pl c0 c1 c2 dr fd sd ra bl nn sp:Int)(fu pr on:Bool)(cu cw n i:Int)(l s:LL)(K:HEx->LV->Prop):(nbodyT true CChords anChords (nthLoop Tryz.f101 0) (([.ce (.ptr 1000001 0), .ce (I6 cu), .ce (I6 cw), .ce (.sl false [4,4,4] l), .ce (.lit true), .ce (.sl false [4,4,4,4] s), .ce (I6 n), .ce (I6 i)],[[I6 k0,I6 bk,I6 f0,I6 f1,I6 f2,I6 t0,I6 t1,I6 t2,I6 pl,I6 c0,I6 c1,I6 c2,I6 dr, .bool fu,I6 fd, .bool pr,I6 sd,I6 ra,I6 bl,I6 nn,I6 sp, .bool on]])) K)=(Br (i<n) ((0<=i/\i<(s.length:Int))/\R6 (cu+el s i.toNat)/\∀x1,x1=cu+el s i.toNat->R6 (cw+ec s i.toNat 1)/\∀x2,x2=cw+ec s i.toNat 1->True/\(∃(x:Int×Int×Int),∀(B:Int),0<=B->b3 B x1 x2 (ec s i.toNat 3)->b3 B x.1 x.snd.1 x.snd.2)/\∀(x:Int×Int×Int),(∀(B:Int),0<=B->b3 B x1 x2 (ec s i.toNat 3)->b3 B x.1 x.snd.1 x.snd.2)->((l.length+1)*24<=140737488355328/\l.length+1<=maxLen)/\R6 (i+1)/\∀x6,x6=i+1->K .normal ([.ce (.ptr 1000001 0), .ce (I6 cu), .ce (I6 cw), .ce (.sl false [4,4,4] (l++[[x.1,x.snd.1,x.snd.2]])), .ce (.lit true), .ce (.sl false [4,4,4,4] s), .ce (I6 n), .ce (I6 x6)],[[I6 k0,I6 bk,I6 f0,I6 f1,I6 f2,I6 t0,I6 t1,I6 t2,I6 pl,I6 c0,I6 c1,I6 c2,I6 dr, .bool fu,I6 fd, .bool pr,I6 sd,I6 ra,I6 bl,I6 nn,I6 sp, .bool on]])) (K (.exit 0) ([.ce (.sl false [4,4,4] l), .ce (.lit true)],[[I6 k0,I6 bk,I6 f0,I6 f1,I6 f2,I6 t0,I6 t1,I6 t2,I6 pl,I6 c0,I6 c1,I6 c2,I6 dr, .bool fu,I6 fd, .bool pr,I6 sd,I6 ra,I6 bl,I6 nn,I6 sp, .bool on]]))):=by kernel_rfl
theorem vcChords(k0 bk f0 f1 f2 t0 t1 t2 pl c0 c1 c2 dr fd sd ra bl nn sp:Int)(fu pr on:Bool)(Q:Res->Prop):(nfun true CChords Tryz.f101 (bodyOf Tryz.f101) [.agg [I6 k0,I6 bk,I6 f0,I6 f1,I6 f2,I6 t0,I6 t1,I6 t2,I6 pl,I6 c0,I6 c1,I6 c2,I6 dr, .bool fu,I6 fd, .bool pr,I6 sd,I6 ra,I6 bl,I6 nn,I6 sp, .bool on]] [] Q)=(nice k0 f0 f1 f2 t0 t1 t2 c0 c1 c2 dr fd bl/\(∃(x:Bool),k0≠3->x=true)/\∀(x:Bool),(k0≠3->x=true)->Bb (!x) (Q ⟨.tup [.ce (.sl false [4,4,4] []), .ce (.bool false)],false,[],[]⟩) (nice k0 f0 f1 f2 t0 t1 t2 c0 c1 c2 dr fd bl/\(∃(x:LL×Bool),(k0≠3->x.2=false)/\spks x.1/\List.length x.1<=70000)/\∀(x:LL×Bool),(k0≠3->x.2=false)/\spks x.1/\List.length x.1<=70000->Bb (!x.2) (b3 1073741824 f0 f1 f2/\∀x3,x3=f0*16->∀x4,x4=f1*16->∀x5,x5=f2*16->b3 1073741824 t0 t1 t2/\∀x6,x6=t0*16->∀x7,x7=t1*16->∀x8,x8=t2*16->Q ⟨.tup [.ce (.sl false [4,4,4] [[x3,x4,x5],[x6,x7,x8]]), .ce (.bool true)],false,[],[]⟩) (b3 1073741824 c0 c1 c2/\∀x9,x9=c0*16->∀x10,x10=c1*16->∀x11,x11=c2*16->True/\(∃(x:Int×Int×Int),∀(B:Int),0<=B->b3 B x9 x10 x11->b3 B x.1 x.snd.1 x.snd.2)/\∀(x_1:Int×Int×Int),(∀(B:Int),0<=B->b3 B x9 x10 x11->b3 B x_1.1 x_1.snd.1 x_1.snd.2)->((List.length x.1:Int)=(List.length x.1:Int)/\(0:Int)=0/\(0:Nat)=0/\spks x.1/\List.length x.1<=70000/\((-4096:Int)<=x_1.1/\x_1.1<=4096)/\(-4096:Int)<=x_1.snd.1/\x_1.snd.1<=4096)/\∀(x_2:LL),ptsOK (32768:Int) x_2/\x_2.length=List.length x.1->Q ⟨.tup [.ce (.sl false [4,4,4] x_2), .ce (.bool true)],false,[],[]⟩))):=by kernel_rfl
end Go.Proofs.YtoekmphdpepdbaaGreat
namespace U
theorem dotE{a b c d:Int}(ha: -65536<=a/\a<=65536)(hb: -65536<=b/\b<=65536)(hc: -65536<=c/\c<=65536)(hd: -65536<=d/\d<=65536):∃y:Int,y=a*b+c*d/\ -8589934592<=y/\y<=8589934592:=by
 have:=prod_bd ha hb;have:=prod_bd hc hd;exact⟨_,rfl,by omega,by omega⟩
theorem crossE{a b c d:Int}(ha: -65536<=a/\a<=65536)(hb: -65536<=b/\b<=65536)(hc: -65536<=c/\c<=65536)(hd: -65536<=d/\d<=65536):∃y:Int,y=a*b-c*d/\ -8589934592<=y/\y<=8589934592:=by
 have:=prod_bd ha hb;have:=prod_bd hc hd;exact⟨_,rfl,by omega,by omega⟩
theorem spks_nil:spks []:=fun j hj=>absurd hj (Nat.not_lt_zero _)
theorem spk_ex8:∃x:(Int×Int×Int×Int)×Int×Int×Int×Int,spk x.1.1 x.1.2.1 x.1.2.2.1 x.1.2.2.2/\spk x.2.1 x.2.2.1 x.2.2.2.1 x.2.2.2.2:=⟨((0,0,0,0),0,0,0,0),by unfold spk;decide⟩
theorem end_ex:∃y:Int×Int×Int×Int×Int×Int,b3 512 y.1 y.2.1 y.2.2.2.1/\b3 512 y.2.2.2.2.1 y.2.2.2.2.1 y.2.2.2.2.1/\b3 256 y.2.2.1 y.2.2.2.2.2 0:=⟨(0,0,0,0,0,0),by unfold b3;decide⟩
end U
namespace Go.Proofs.YtoekmphdpepdbaaGreat
open Go Go.HL U
attribute [local irreducible] hfun bodyT fragT
theorem sMotion:Sound Tryz.prog 66 SMotion:=by
 refine sound_of (C:=CMotion) [] Tryz.func66 (by kernel_rfl) (by decide+kernel) (by kernel_rfl) rfl trivial (loops0 (by kernel_rfl)) ?_;intro hA pA R h;unfold SMotion at h;split at h;case h_2=>exfalso;exact h
 rename_i k;obtain⟨hk,hq⟩:=h;refine byVC (vcMotion k R) ⟨fun _=> ?_,fun g=>absurd (odf g) (by omega)⟩;rw[decide_eq_true hk.2];exact hq
theorem fragV5:∀v Q,(LV5 v).wp Q->fragT CValid anV5 (nthFrag CValid Tryz.f118 0) v Q:=by
 intro v Q h;unfold LV5 at h;split at h;case h_2=>exact h.elim
 rename_i z k0 bk f0 f1 f2 t0 t1 t2 pl c0 c1 c2 dr fu fd pr sd ra bl nn sp on;obtain⟨hc,hq⟩:=h;refine byVG (vgV5 k0 bk f0 f1 f2 t0 t1 t2 pl c0 c1 c2 dr fd sd ra bl nn sp fu pr on z Q) ?_;repeat' first
  |exact hq _ trivial
  |exact hc
  |(refine And.intro ?_ ?_)
  |intro _
set_option maxHeartbeats 2000000 in theorem sValid:Sound Tryz.prog 118 SValid:=by
 refine sound_of (C:=CValid) tabValid Tryz.func118 (by kernel_rfl) (by decide+kernel) (by kernel_rfl) rfl ⟨sMotion,sWithin,sEnd1,sDot,sCmpP,sCross,trivial⟩ (loopsG [] [nthFrag CValid Tryz.f118 0] (by kernel_rfl) (by kernel_rfl) trivial ⟨fragOK_of (an:=anV5) (S:=LV5) (by kernel_rfl) fragV5,trivial⟩) ?_;intro hA pA R h;unfold SValid at h;split at h;case h_2=>exfalso;exact h
 rename_i k0 bk f0 f1 f2 t0 t1 t2 pl c0 c1 c2 dr fu fd pr sd ra bl nn sp on;obtain⟨hn,_,hR⟩:=h;obtain⟨hk,hf,ht,hc,hd,_,_⟩:=hn;have w:∀{a b c:Int},b3 256 a b c->b3 1048576 a b c:=b3_mono (by decide);refine byVC (vcValid k0 bk f0 f1 f2 t0 t1 t2 pl c0 c1 c2 dr fd sd ra bl nn sp fu pr on R) ?_;by_cases k3:k0=3
 . have any:∀b,R ⟨.ce (.bool b),false,[],[]⟩:=fun b=>hR b fun e=>absurd k3 e;refine⟨by omega,fun _ _=>⟨fun _=>any _,fun _=>⟨w hf,fun _ _=>⟨fun _=>any _,fun _=>⟨w ht,fun _ _=>⟨fun _=>any _,fun _=>⟨fun _=>any _,fun _=> ?_⟩⟩⟩⟩⟩⟩⟩;have T:∀x:Int×Int×Int×Int×Int×Int,b3 512 x.1 x.2.1 x.2.2.2.1/\b3 512 x.2.2.2.2.1 x.2.2.2.2.1 x.2.2.2.2.1/\b3 256 x.2.2.1 x.2.2.2.2.2 0->(-65536<=x.1/\x.1<=65536)/\(-65536<=x.2.1/\x.2.1<=65536)/\(-65536<=x.2.2.2.1/\x.2.2.2.1<=65536)/\(-65536<=x.2.2.2.2.1/\x.2.2.2.2.1<=65536):=fun x hx=>by
    unfold b3 at hx;omega
   repeat' first
    |exact any _
    |exact end_ex
    |exact w hc
    |exact⟨hf,ht,hc⟩
    |exact⟨(0:Int),trivial⟩
    |exact dotE (by assumption) (by assumption) (by assumption) (by assumption)
    |exact crossE (by assumption) (by assumption) (by assumption) (by assumption)
    |assumption
    |(refine And.intro ?_ ?_)
    |(intro(x:Int×Int×Int×Int×Int×Int)hx;obtain⟨q1,q2,q3,q4⟩:=T x hx)
    |(intro hx)
    |omega
 . have hv:R ⟨.ce (.bool true),false,[],[]⟩:=hR true fun _=>rfl;refine⟨by omega,?_⟩;rintro _ rfl;refine⟨fun e=>(by cases e),fun _=>⟨w hf,?_⟩⟩;rintro _ rfl;refine⟨fun e=>(by cases e),fun _=>⟨w ht,?_⟩⟩;rintro _ rfl;refine⟨fun e=>(by cases e),fun _=>⟨fun _=>hv,fun e=> ?_⟩⟩;exact absurd (by simpa using e) k3
theorem sSpokes:Sound Tryz.prog 119 SSpokes:=by
 refine sound_of (C:=CSpokes) tabSpokes Tryz.func119 (by kernel_rfl) (by decide+kernel) (by kernel_rfl) rfl ⟨sValid,sEnds,sPcs16,trivial⟩ (loops0 (by kernel_rfl)) ?_;intro hA pA R h;unfold SSpokes at h;split at h;case h_2=>exfalso;exact h
 rename_i k0 bk f0 f1 f2 t0 t1 t2 pl c0 c1 c2 dr fu fd pr sd ra bl nn sp on;obtain⟨hn,_,hR⟩:=h;have z:R ⟨.tup [.ce (.sl false [4,4,4,4] []), .ce (.bool false)],false,[],[]⟩:=hR ([],false) ⟨fun _=>rfl,spks_nil,Nat.zero_le _⟩;refine byVC (vcSpokes k0 bk f0 f1 f2 t0 t1 t2 pl c0 c1 c2 dr fd sd ra bl nn sp fu pr on R) ⟨fun _=>z,fun g=>⟨hn,⟨true,fun _=>rfl⟩,fun x _=>⟨fun _=>z,fun _=>⟨⟨hn.2.1,hn.2.2.1,hn.2.2.2.1⟩,spk_ex8,fun y hy=>⟨⟨by decide,by decide,hy.1,hy.2,hn.2.2.2.2.1⟩,⟨[[0,0,0,0]],by decide,spks_one (by unfold spk;decide)⟩,fun l hl=>⟨⟨by omega,by unfold maxLen;omega⟩,?_⟩⟩⟩⟩⟩⟩;have k3:k0=3:=by simpa using g
 exact hR ([[y.1.1,y.1.2.1,y.1.2.2.1,y.1.2.2.2]]++l,true) ⟨fun e=>absurd k3 e,spks_app (spks_one hy.1) hl.2,by show(_++l).length<=70000;rw[List.length_append];show 1+l.length<=70000;omega⟩
theorem loopChords:∀v Q,(LChords v).wp Q->hloop CChords anChords (nthLoop Tryz.f101 0) v Q:=by
 intro v Q h;unfold LChords at h;split at h;case h_2=>exact h.elim
 split at h;case h_2=>exact h.elim
 rename_i cu cw l s n i _ k0 bk f0 f1 f2 t0 t1 t2 pl c0 c1 c2 dr fu fd pr sd ra bl nn sp on;obtain⟨⟨rfl,rfl,hl,hs,hsl,hcu,hcw⟩,hq⟩:=h;refine hloop_rec (σ:=LL×Nat) (fun z=>([.ce (.ptr 1000001 0), .ce (I6 cu), .ce (I6 cw), .ce (.sl false [4,4,4] z.1), .ce (.lit true), .ce (.sl false [4,4,4,4] s), .ce (I6 s.length), .ce (I6 (z.2:Int))],[[I6 k0,I6 bk,I6 f0,I6 f1,I6 f2,I6 t0,I6 t1,I6 t2,I6 pl,I6 c0,I6 c1,I6 c2,I6 dr, .bool fu,I6 fd, .bool pr,I6 sd,I6 ra,I6 bl,I6 nn,I6 sp, .bool on]])) (fun z=>s.length-z.2) (fun z=>z.2<=s.length/\z.1.length=z.2/\ptsOK 32768 z.1) ?_ (l,0) ⟨Nat.zero_le _,hl,fun j hj=>absurd (show j<l.length from hj) (by omega)⟩;rintro⟨l,k⟩⟨hk,hlk,hl⟩K hn hx _;dsimp only at hk hlk hl hn⊢;refine byVB (vbChords k0 bk f0 f1 f2 t0 t1 t2 pl c0 c1 c2 dr fd sd ra bl nn sp fu pr on cu cw s.length k l s K) ⟨fun g=> ?_,fun g=> ?_⟩
 . have g:=odt g;have hks:k<s.length:=by omega
   have sk:=hs k hks;have sk0: -12288<=el s k/\el s k<=12288:=sk.1;obtain⟨_,sk1,_,sk3⟩:=sk;have ht:Int.toNat (k:Int)=k:=rfl;rw[ht];refine⟨by omega,by omega,fun x1 e1=>⟨by omega,fun x2 e2=>⟨trivial,⟨(x1,x2,ec s k 3),fun B _ hB=>hB⟩,fun y hy=> ?_⟩⟩⟩;have yb:=hy 32768 (by decide) (by unfold b3;omega);refine⟨⟨show(l.length+1)*24<=140737488355328 by omega,by unfold maxLen;omega⟩,by omega,fun x6 e6=> ?_⟩;rw[show x6=((k+1:Nat):Int)by omega];exact hn (l++[[y.1,y.2.1,y.2.2]],k+1) ⟨hks,by simp;omega,ptsOK_app hl yb⟩ (by dsimp only;omega)
 . have g:=odf g;exact hx _ _ (hq l ⟨hl,by omega⟩)
theorem sChords:Sound Tryz.prog 101 SChords:=by
 refine sound_of (C:=CChords) tabChords Tryz.func101 (by kernel_rfl) (by decide+kernel) (by kernel_rfl) rfl ⟨sValid,sSpokes,sFine,sPlane,sSpace,trivial⟩ (loops1 (by kernel_rfl) (loopOK_of (an:=anChords) (S:=LChords) (by kernel_rfl) loopChords)) ?_;intro hA pA R h;unfold SChords at h;split at h;case h_2=>exfalso;exact h
 rename_i k0 bk f0 f1 f2 t0 t1 t2 pl c0 c1 c2 dr fu fd pr sd ra bl nn sp on;obtain⟨hn,_,hR⟩:=h;obtain⟨hk,hf,ht,hc,_⟩:=id hn;have w:∀{a b c:Int},b3 256 a b c->b3 1073741824 a b c:=b3_mono (by decide);refine byVC (vcChords k0 bk f0 f1 f2 t0 t1 t2 pl c0 c1 c2 dr fd sd ra bl nn sp fu pr on R) ⟨hn,⟨true,fun _=>rfl⟩,fun x hx=>⟨fun g=> ?_,fun _=>⟨hn,⟨([],false),fun _=>rfl,spks_nil,Nat.zero_le _⟩,fun y hy=>⟨fun _=>⟨w hf,fun x3 e3 x4 e4 x5 e5=>⟨w ht,fun x6 e6 x7 e7 x8 e8=> ?_⟩⟩,fun g2=>⟨w hc,fun x9 e9 x10 e10 x11 e11=>⟨trivial,⟨(x9,x10,x11),fun B _ hB=>hB⟩,fun z hz=> ?_⟩⟩⟩⟩⟩⟩
 . have xf:x=false:=by simpa using g
   refine hR ([],false) ⟨fun e=> ?_,ptsOK_nil,Nat.zero_le _⟩;rw[hx e]at xf;cases xf
 . unfold b3 at hf ht;exact hR ([[x3,x4,x5],[x6,x7,x8]],true) ⟨fun _=>rfl,ptsOK_app (l:=[[x3,x4,x5]]) (ptsOK_app ptsOK_nil (by unfold b3;omega)) (by unfold b3;omega),show(2:Nat)<=70000 by decide⟩
 . have zb:=hz 4096 (by decide) (by unfold b3 at hc⊢;omega);refine⟨⟨rfl,rfl,rfl,hy.2.1,hy.2.2,zb.1,zb.2.1⟩,fun l hl=>hR (l,true) ⟨fun e=> ?_,hl.1,?_⟩⟩
   . have:y.2=true:=by simpa using g2
     rw[hy.1 e]at this;cases this
   . show l.length<=70000;rw[hl.2];exact hy.2.2
end Go.Proofs.YtoekmphdpepdbaaGreat
namespace U
open Go
structure It where
 k0:Int
 bk:Int
 f0:Int
 f1:Int
 f2:Int
 t0:Int
 t1:Int
 t2:Int
 pl:Int
 c0:Int
 c1:Int
 c2:Int
 dr:Int
 fu:Bool
 fd:Int
 pr:Bool
 sd:Int
 ra:Int
 bl:Int
 nn:Int
 sp:Int
 on:Bool
def niceB(C:Int)(x:It):Prop:=(1<=x.k0/\x.k0<=3)/\b3 C x.f0 x.f1 x.f2/\b3 C x.t0 x.t1 x.t2/\b3 C x.c0 x.c1 x.c2/\(-1<=x.dr/\x.dr<=1)/\(0<=x.fd/\x.fd<=60000000)/\(0<=x.bl/\x.bl<=1000)
def grown(k a0 a1 a2:Int)(x:It):Prop:=x.k0=k/\∀B,0<=B->b3 B a0 a1 a2->niceB (B+40) x
def niceAt(y:LL)(j:Nat):Prop:=nice (ec y j 0) (ec y j 2) (ec y j 3) (ec y j 4) (ec y j 5) (ec y j 6) (ec y j 7) (ec y j 9) (ec y j 10) (ec y j 11) (ec y j 12) (ec y j 14) (ec y j 18)
def niceL(y:LL):Prop:=∀j,j<y.length->niceAt y j
end U
namespace Go.Proofs.YtoekmphdpepdbaaGreat
open Go Go.HL U
def SArc(hA:List HV)(pA:List (List HC)):SR:=match hA,pA with
 |[.ce (.ptr 0 0), .agg [.int .i64 a0, .int .i64 a1, .int .i64 a2], .ce (.int .i64 n)],[[.sl false [4] l, .int .i64 p]]=> .all (inSrc l p/\b3 65536 a0 a1 a2/\n=8) (It×Int) (fun x=>inSrc l x.2/\grown 3 a0 a1 a2 x.1) (fun x=>⟨.agg [I6 x.1.k0,I6 x.1.bk,I6 x.1.f0,I6 x.1.f1,I6 x.1.f2,I6 x.1.t0,I6 x.1.t1,I6 x.1.t2,I6 x.1.pl,I6 x.1.c0,I6 x.1.c1,I6 x.1.c2,I6 x.1.dr, .bool x.1.fu,I6 x.1.fd, .bool x.1.pr,I6 x.1.sd,I6 x.1.ra,I6 x.1.bl,I6 x.1.nn,I6 x.1.sp, .bool x.1.on],false,[[.sl false [4] l,I6 x.2]],[]⟩)
 |_,_=> .fail
def tabArc:List (FuncId×HL.Spec):=[(22,SNext),(115,SPlane),(116,STurned),(117,SSpace)]
noncomputable def CArc:Ctx:=⟨Tryz.prog,gam tabArc,Tryz.f98.ntmps,[],[]⟩
theorem vcArc(a0 a1 a2 n p:Int)(l:LL)(Q:Res->Prop):(nfun true CArc Tryz.f98 (bodyOf Tryz.f98) [.ce (.ptr 0 0), .agg [I6 a0,I6 a1,I6 a2], .ce (I6 n)] [[.sl false [4] l,I6 p]] Q)=(((0:Int)<3/\(3:Int)<=4611686018427387904/\inSrc l p)/\(∃(x:Int×Int),drew l p (3:Int) x)/\∀(x:Int×Int),drew l p (3:Int) x->(0<=x.1/\x.1<3)/\∀x2,x2=el [[(17:Int)],[(18:Int)],[(19:Int)]] x.1.toNat->((0:Int)<2/\(2:Int)<=4611686018427387904/\inSrc l x.2)/\(∃(x_1:Int×Int),drew l x.2 (2:Int) x_1)/\∀(x_1:Int×Int),drew l x.2 (2:Int) x_1->R6 (x_1.1*2)/\∀x4,x4=x_1.1*2->(-9223372036854775808<=1-x4/\(1:Int)-x4<=9223372036854775807)/\∀x5,x5=1-x4->(0<n/\n<=4611686018427387904/\inSrc l x_1.2)/\(∃(x:Int×Int),drew l x_1.2 n x)/\∀(x:Int×Int),drew l x_1.2 n x->(-9223372036854775808<=8+x.1/\(8:Int)+x.1<=9223372036854775807)/\∀x7,x7=8+x.1->((0:Int)<4/\(4:Int)<=4611686018427387904/\inSrc l x.2)/\(∃(x_2:Int×Int),drew l x.2 (4:Int) x_2)/\∀(x_2:Int×Int),drew l x.2 (4:Int) x_2->((0:Int)<4/\(4:Int)<=4611686018427387904/\inSrc l x_2.2)/\(∃(x:Int×Int),drew l x_2.2 (4:Int) x)/\∀(x:Int×Int),drew l x_2.2 (4:Int) x->True/\(∃(x:Int×Int×Int),∀(B:Int),0<=B->b3 B a0 a1 a2->b3 B x.1 x.snd.1 x.snd.2)/\∀(x_3:Int×Int×Int),(∀(B:Int),0<=B->b3 B a0 a1 a2->b3 B x_3.1 x_3.snd.1 x_3.snd.2)->((0<=x7/\x7<=1073741824)/\0<=x_2.1)/\(∃(x:Int×Int),(-x7<=x.1/\x.1<=x7)/\ -x7<=x.2/\x.2<=x7)/\∀(x_4:Int×Int),(-x7<=x_4.1/\x_4.1<=x7)/\ -x7<=x_4.2/\x_4.2<=x7->R6 (x_2.1+x.1)/\∀x14,x14=x_2.1+x.1->((0<=x7/\x7<=1073741824)/\0<=x14)/\(∃(x:Int×Int),(-x7<=x.1/\x.1<=x7)/\ -x7<=x.2/\x.2<=x7)/\∀(x_5:Int×Int),(-x7<=x_5.1/\x_5.1<=x7)/\ -x7<=x_5.2/\x_5.2<=x7->R6 (x_3.1-x_4.1)/\∀x16,x16=x_3.1-x_4.1->R6 (x_3.snd.1-x_4.2)/\∀x17,x17=x_3.snd.1-x_4.2->True/\(∃(x:Int×Int×Int),∀(B:Int),0<=B->b3 B x16 x17 x_3.snd.2->b3 B x.1 x.snd.1 x.snd.2)/\∀(x_6:Int×Int×Int),(∀(B:Int),0<=B->b3 B x16 x17 x_3.snd.2->b3 B x_6.1 x_6.snd.1 x_6.snd.2)->Br (x.1>0) (((0:Int)<3/\(3:Int)<=4611686018427387904/\inSrc l x.2)/\(∃(x_7:Int×Int),drew l x.2 (3:Int) x_7)/\∀(x_7:Int×Int),drew l x.2 (3:Int) x_7->Bb (x_7.1==0) (x7≠0/\R6 (Int.tdiv x_5.1 x7)/\∀x22,x22=Int.tdiv x_5.1 x7->((0:Int)<5/\(5:Int)<=4611686018427387904/\inSrc l x_7.2)/\(∃(x:Int×Int),drew l x_7.2 (5:Int) x)/\∀(x_8:Int×Int),drew l x_7.2 (5:Int) x_8->R6 (x22*x_8.1)/\∀x24,x24=x22*x_8.1->R6 (x_5.1+x24)/\∀x25,x25=x_5.1+x24->x7≠0/\R6 (Int.tdiv x_5.2 x7)/\∀x26,x26=Int.tdiv x_5.2 x7->((0:Int)<5/\(5:Int)<=4611686018427387904/\inSrc l x_8.2)/\(∃(x:Int×Int),drew l x_8.2 (5:Int) x)/\∀(x_9:Int×Int),drew l x_8.2 (5:Int) x_9->R6 (x26*x_9.1)/\∀x28,x28=x26*x_9.1->R6 (x_5.2+x28)/\∀x29,x29=x_5.2+x28->R6 (x_3.1-x_4.1)/\∀x30,x30=x_3.1-x_4.1->R6 (x30+x25)/\∀x31,x31=x30+x25->R6 (x_3.snd.1-x_4.2)/\∀x32,x32=x_3.snd.1-x_4.2->R6 (x32+x29)/\∀x33,x33=x32+x29->((0:Int)<4/\(4:Int)<=4611686018427387904/\inSrc l x_9.2)/\(∃(x:Int×Int),drew l x_9.2 (4:Int) x)/\∀(x_10:Int×Int),drew l x_9.2 (4:Int) x_10->(0<=x_10.1/\x_10.1<4)/\∀x35,x35=el [[(0:Int)],[(0:Int)],[(7:Int)],[(-12:Int)]] x_10.1.toNat->R6 (x_3.snd.2+x35)/\∀x36,x36=x_3.snd.2+x35->True/\(∃(x:Int×Int×Int),∀(B:Int),0<=B->b3 B x31 x33 x36->b3 B x.1 x.snd.1 x.snd.2)/\∀(x_11:Int×Int×Int),(∀(B:Int),0<=B->b3 B x31 x33 x36->b3 B x_11.1 x_11.snd.1 x_11.snd.2)->Q {val:= .agg [I6 3,I6 0,I6 a0,I6 a1,I6 a2,I6 x_11.1,I6 x_11.snd.1,I6 x_11.snd.2,I6 x2,I6 x_6.1,I6 x_6.snd.1,I6 x_6.snd.2,I6 x5, .bool (x.1==0),I6 0, .bool false,I6 0,I6 0,I6 0,I6 0,I6 0, .bool false],own:=false,pars:=[[.sl false [4] l,I6 x_10.2]],news:=[]}) (R6 (x_3.1-x_4.1)/\∀x40,x40=x_3.1-x_4.1->R6 (x40+x_5.1)/\∀x41,x41=x40+x_5.1->(-9223372036854775808<=x_3.snd.1-x_4.2/\x_3.snd.1-x_4.2<=9223372036854775807)/\∀x42,x42=x_3.snd.1-x_4.2->R6 (x42+x_5.2)/\∀x43,x43=x42+x_5.2->((0:Int)<4/\(4:Int)<=4611686018427387904/\inSrc l x_7.2)/\(∃(x:Int×Int),drew l x_7.2 (4:Int) x)/\∀(x_8:Int×Int),drew l x_7.2 (4:Int) x_8->(0<=x_8.1/\x_8.1<4)/\∀x45,x45=el [[(0:Int)],[(0:Int)],[(7:Int)],[(-12:Int)]] x_8.1.toNat->R6 (x_3.snd.2+x45)/\∀x46,x46=x_3.snd.2+x45->True/\(∃(x:Int×Int×Int),∀(B:Int),0<=B->b3 B x41 x43 x46->b3 B x.1 x.snd.1 x.snd.2)/\∀(x_9:Int×Int×Int),(∀(B:Int),0<=B->b3 B x41 x43 x46->b3 B x_9.1 x_9.snd.1 x_9.snd.2)->Q {val:= .agg [I6 3,I6 0,I6 a0,I6 a1,I6 a2,I6 x_9.1,I6 x_9.snd.1,I6 x_9.snd.2,I6 x2,I6 x_6.1,I6 x_6.snd.1,I6 x_6.snd.2,I6 x5, .bool (x.1==0),I6 0, .bool false,I6 0,I6 0,I6 0,I6 0,I6 0, .bool false],own:=false,pars:=[[.sl false [4] l,I6 x_8.2]],news:=[]})) (R6 (x_3.1-x_4.1)/\∀x50,x50=x_3.1-x_4.1->R6 (x50+x_5.1)/\∀x51,x51=x50+x_5.1->R6 (x_3.snd.1-x_4.2)/\∀x52,x52=x_3.snd.1-x_4.2->R6 (x52+x_5.2)/\∀x53,x53=x52+x_5.2->((0:Int)<4/\(4:Int)<=4611686018427387904/\inSrc l x.2)/\(∃(x_7:Int×Int),drew l x.2 (4:Int) x_7)/\∀(x_7:Int×Int),drew l x.2 (4:Int) x_7->(0<=x_7.1/\x_7.1<4)/\∀x55,x55=el [[(0:Int)],[(0:Int)],[(7:Int)],[(-12:Int)]] x_7.1.toNat->R6 (x_3.snd.2+x55)/\∀x56,x56=x_3.snd.2+x55->True/\(∃(x:Int×Int×Int),∀(B:Int),0<=B->b3 B x51 x53 x56->b3 B x.1 x.snd.1 x.snd.2)/\∀(x_8:Int×Int×Int),(∀(B:Int),0<=B->b3 B x51 x53 x56->b3 B x_8.1 x_8.snd.1 x_8.snd.2)->Q {val:= .agg [I6 3,I6 0,I6 a0,I6 a1,I6 a2,I6 x_8.1,I6 x_8.snd.1,I6 x_8.snd.2,I6 x2,I6 x_6.1,I6 x_6.snd.1,I6 x_6.snd.2,I6 x5, .bool (x.1==0),I6 0, .bool false,I6 0,I6 0,I6 0,I6 0,I6 0, .bool false],own:=false,pars:=[[.sl false [4] l,I6 x_7.2]],news:=[]})):=by kernel_rfl
def SMot(hA:List HV)(pA:List (List HC)):SR:=match hA,pA with
 |[.ce (.ptr 0 0), .agg [.int .i64 a0, .int .i64 a1, .int .i64 a2], .ce (.int .i64 k)],[[.sl false [4] l, .int .i64 p]]=> .all (inSrc l p/\b3 65536 a0 a1 a2/\1<=k/\k<=3) (It×Int) (fun x=>inSrc l x.2/\grown k a0 a1 a2 x.1) (fun x=>⟨.agg [I6 x.1.k0,I6 x.1.bk,I6 x.1.f0,I6 x.1.f1,I6 x.1.f2,I6 x.1.t0,I6 x.1.t1,I6 x.1.t2,I6 x.1.pl,I6 x.1.c0,I6 x.1.c1,I6 x.1.c2,I6 x.1.dr, .bool x.1.fu,I6 x.1.fd, .bool x.1.pr,I6 x.1.sd,I6 x.1.ra,I6 x.1.bl,I6 x.1.nn,I6 x.1.sp, .bool x.1.on],false,[[.sl false [4] l,I6 x.2]],[]⟩)
 |_,_=> .fail
def tabMot:List (FuncId×HL.Spec):=[(22,SNext),(98,SArc)]
noncomputable def CMot:Ctx:=⟨Tryz.prog,gam tabMot,Tryz.f64.ntmps,[],[]⟩
theorem vcMot(a0 a1 a2 k p:Int)(l:LL)(Q:Res->Prop):(nfun true CMot Tryz.f64 (bodyOf Tryz.f64) [.ce (.ptr 0 0), .agg [I6 a0,I6 a1,I6 a2], .ce (I6 k)] [[.sl false [4] l,I6 p]] Q)=(Bb (k==3) ((inSrc l p/\b3 65536 a0 a1 a2/\(8:Int)=8)/\(∃(x:It×Int),inSrc l x.2/\grown (3:Int) a0 a1 a2 x.1)/\∀(x:It×Int),inSrc l x.2/\grown (3:Int) a0 a1 a2 x.1->Bb (k==1) (Q {val:= .agg [I6 x.1.k0,I6 x.1.bk,I6 x.1.f0,I6 x.1.f1,I6 x.1.f2,I6 x.1.t0,I6 x.1.t1,I6 x.1.t2,I6 x.1.pl,I6 x.1.c0,I6 x.1.c1,I6 x.1.c2,I6 x.1.dr, .bool x.1.fu,I6 x.1.fd, .bool x.1.pr,I6 x.1.sd,I6 x.1.ra,I6 x.1.bl,I6 x.1.nn,I6 x.1.sp, .bool x.1.on],own:=false,pars:=[[.sl false [4] l,I6 x.2]],news:=[]}) (((0:Int)<5/\(5:Int)<=4611686018427387904/\inSrc l x.2)/\(∃(x_1:Int×Int),drew l x.2 (5:Int) x_1)/\∀(x_1:Int×Int),drew l x.2 (5:Int) x_1->(0<=x_1.1/\x_1.1<5)/\∀x3,x3=el [[(300000:Int)],[(1:Int)],[(60000:Int)],[(2000000:Int)],[(60000000:Int)]] x_1.1.toNat->((0:Int)<5/\(5:Int)<=4611686018427387904/\inSrc l x_1.2)/\(∃(x:Int×Int),drew l x_1.2 (5:Int) x)/\∀(x_2:Int×Int),drew l x_1.2 (5:Int) x_2->(0<=x_2.1/\x_2.1<5)/\∀x5,x5=el [[(0:Int)],[(1:Int)],[(2:Int)],[(4:Int)],[(9:Int)]] x_2.1.toNat->Bb (k==5) (((0:Int)<60/\(60:Int)<=4611686018427387904/\inSrc l x_2.2)/\(∃(x:Int×Int),drew l x_2.2 (60:Int) x)/\∀(x_3:Int×Int),drew l x_2.2 (60:Int) x_3->(-9223372036854775808<=1+x_3.1/\(1:Int)+x_3.1<=9223372036854775807)/\∀x7,x7=1+x_3.1->Bb (k==6) (((0:Int)<2/\(2:Int)<=4611686018427387904/\inSrc l x_3.2)/\(∃(x:Int×Int),drew l x_3.2 (2:Int) x)/\∀(x_4:Int×Int),drew l x_3.2 (2:Int) x_4->(-9223372036854775808<=3+x_4.1/\(3:Int)+x_4.1<=9223372036854775807)/\∀x9,x9=3+x_4.1->Q {val:= .agg [I6 x.1.k0,I6 x.1.bk,I6 x.1.f0,I6 x.1.f1,I6 x.1.f2,I6 x.1.t0,I6 x.1.t1,I6 x.1.t2,I6 x.1.pl,I6 x.1.c0,I6 x.1.c1,I6 x.1.c2,I6 x.1.dr, .bool x.1.fu,I6 x7, .bool true,I6 x.1.sd,I6 x.1.ra,I6 0,I6 x9,I6 x.1.sp, .bool x.1.on],own:=false,pars:=[[.sl false [4] l,I6 x_4.2]],news:=[]}) (Q {val:= .agg [I6 x.1.k0,I6 x.1.bk,I6 x.1.f0,I6 x.1.f1,I6 x.1.f2,I6 x.1.t0,I6 x.1.t1,I6 x.1.t2,I6 x.1.pl,I6 x.1.c0,I6 x.1.c1,I6 x.1.c2,I6 x.1.dr, .bool x.1.fu,I6 x7, .bool true,I6 x.1.sd,I6 x.1.ra,I6 0,I6 0,I6 x.1.sp, .bool x.1.on],own:=false,pars:=[[.sl false [4] l,I6 x_3.2]],news:=[]})) (Bb (k==6) (((0:Int)<60/\(60:Int)<=4611686018427387904/\inSrc l x_2.2)/\(∃(x:Int×Int),drew l x_2.2 (60:Int) x)/\∀(x_3:Int×Int),drew l x_2.2 (60:Int) x_3->(-9223372036854775808<=1+x_3.1/\(1:Int)+x_3.1<=9223372036854775807)/\∀x11,x11=1+x_3.1->Bb (k==6) (((0:Int)<2/\(2:Int)<=4611686018427387904/\inSrc l x_3.2)/\(∃(x:Int×Int),drew l x_3.2 (2:Int) x)/\∀(x_4:Int×Int),drew l x_3.2 (2:Int) x_4->(-9223372036854775808<=3+x_4.1/\(3:Int)+x_4.1<=9223372036854775807)/\∀x13,x13=3+x_4.1->Q {val:= .agg [I6 x.1.k0,I6 x.1.bk,I6 x.1.f0,I6 x.1.f1,I6 x.1.f2,I6 x.1.t0,I6 x.1.t1,I6 x.1.t2,I6 x.1.pl,I6 x.1.c0,I6 x.1.c1,I6 x.1.c2,I6 x.1.dr, .bool x.1.fu,I6 x11, .bool true,I6 x.1.sd,I6 x.1.ra,I6 0,I6 x13,I6 x.1.sp, .bool x.1.on],own:=false,pars:=[[.sl false [4] l,I6 x_4.2]],news:=[]}) (Q {val:= .agg [I6 x.1.k0,I6 x.1.bk,I6 x.1.f0,I6 x.1.f1,I6 x.1.f2,I6 x.1.t0,I6 x.1.t1,I6 x.1.t2,I6 x.1.pl,I6 x.1.c0,I6 x.1.c1,I6 x.1.c2,I6 x.1.dr, .bool x.1.fu,I6 x11, .bool true,I6 x.1.sd,I6 x.1.ra,I6 0,I6 0,I6 x.1.sp, .bool x.1.on],own:=false,pars:=[[.sl false [4] l,I6 x_3.2]],news:=[]})) (Bb (k==4) (Q {val:= .agg [I6 x.1.k0,I6 x.1.bk,I6 x.1.f0,I6 x.1.f1,I6 x.1.f2,I6 x.1.t0,I6 x.1.t1,I6 x.1.t2,I6 x.1.pl,I6 x.1.c0,I6 x.1.c1,I6 x.1.c2,I6 x.1.dr, .bool x.1.fu,I6 x3, .bool x.1.pr,I6 x.1.sd,I6 x.1.ra,I6 0,I6 x.1.nn,I6 x.1.sp, .bool x.1.on],own:=false,pars:=[[.sl false [4] l,I6 x_2.2]],news:=[]}) (Q {val:= .agg [I6 x.1.k0,I6 x.1.bk,I6 x.1.f0,I6 x.1.f1,I6 x.1.f2,I6 x.1.t0,I6 x.1.t1,I6 x.1.t2,I6 x.1.pl,I6 x.1.c0,I6 x.1.c1,I6 x.1.c2,I6 x.1.dr, .bool x.1.fu,I6 x3, .bool x.1.pr,I6 x.1.sd,I6 x.1.ra,I6 x5,I6 x.1.nn,I6 x.1.sp, .bool x.1.on],own:=false,pars:=[[.sl false [4] l,I6 x_2.2]],news:=[]}))))) (((0:Int)<25/\(25:Int)<=4611686018427387904/\inSrc l p)/\(∃(x:Int×Int),drew l p (25:Int) x)/\∀(x:Int×Int),drew l p (25:Int) x->R6 (a0+x.1)/\∀x15,x15=a0+x.1->R6 (x15-12)/\∀x16,x16=x15-12->((0:Int)<25/\(25:Int)<=4611686018427387904/\inSrc l x.2)/\(∃(x_1:Int×Int),drew l x.2 (25:Int) x_1)/\∀(x_1:Int×Int),drew l x.2 (25:Int) x_1->R6 (a1+x_1.1)/\∀x18,x18=a1+x_1.1->R6 (x18-12)/\∀x19,x19=x18-12->((0:Int)<3/\(3:Int)<=4611686018427387904/\inSrc l x_1.2)/\(∃(x:Int×Int),drew l x_1.2 (3:Int) x)/\∀(x:Int×Int),drew l x_1.2 (3:Int) x->((0:Int)<9/\(9:Int)<=4611686018427387904/\inSrc l x.2)/\(∃(x_2:Int×Int),drew l x.2 (9:Int) x_2)/\∀(x_2:Int×Int),drew l x.2 (9:Int) x_2->R6 (x.1*x_2.1)/\∀x22,x22=x.1*x_2.1->R6 (a2+x22)/\∀x23,x23=a2+x22->((0:Int)<2/\(2:Int)<=4611686018427387904/\inSrc l x_2.2)/\(∃(x:Int×Int),drew l x_2.2 (2:Int) x)/\∀(x:Int×Int),drew l x_2.2 (2:Int) x->R6 (8*x.1)/\∀x25,x25=8*x.1->R6 (x23-x25)/\∀x26,x26=x23-x25->Bb (k==1) (Q {val:= .agg [I6 k,I6 0,I6 a0,I6 a1,I6 a2,I6 x16,I6 x19,I6 x26,I6 0,I6 0,I6 0,I6 0,I6 0, .bool false,I6 0, .bool false,I6 0,I6 0,I6 0,I6 0,I6 0, .bool false],own:=false,pars:=[[.sl false [4] l,I6 x.2]],news:=[]}) (((0:Int)<5/\(5:Int)<=4611686018427387904/\inSrc l x.2)/\(∃(x_3:Int×Int),drew l x.2 (5:Int) x_3)/\∀(x_3:Int×Int),drew l x.2 (5:Int) x_3->(0<=x_3.1/\x_3.1<5)/\∀x28,x28=el [[(300000:Int)],[(1:Int)],[(60000:Int)],[(2000000:Int)],[(60000000:Int)]] x_3.1.toNat->((0:Int)<5/\(5:Int)<=4611686018427387904/\inSrc l x_3.2)/\(∃(x:Int×Int),drew l x_3.2 (5:Int) x)/\∀(x:Int×Int),drew l x_3.2 (5:Int) x->(0<=x.1/\x.1<5)/\∀x30,x30=el [[(0:Int)],[(1:Int)],[(2:Int)],[(4:Int)],[(9:Int)]] x.1.toNat->Bb (k==5) (((0:Int)<60/\(60:Int)<=4611686018427387904/\inSrc l x.2)/\(∃(x_4:Int×Int),drew l x.2 (60:Int) x_4)/\∀(x_4:Int×Int),drew l x.2 (60:Int) x_4->(-9223372036854775808<=1+x_4.1/\(1:Int)+x_4.1<=9223372036854775807)/\∀x32,x32=1+x_4.1->Bb (k==6) (((0:Int)<2/\(2:Int)<=4611686018427387904/\inSrc l x_4.2)/\(∃(x:Int×Int),drew l x_4.2 (2:Int) x)/\∀(x:Int×Int),drew l x_4.2 (2:Int) x->(-9223372036854775808<=3+x.1/\(3:Int)+x.1<=9223372036854775807)/\∀x34,x34=3+x.1->Q {val:= .agg [I6 k,I6 0,I6 a0,I6 a1,I6 a2,I6 x16,I6 x19,I6 x26,I6 0,I6 0,I6 0,I6 0,I6 0, .bool false,I6 x32, .bool true,I6 0,I6 0,I6 0,I6 x34,I6 0, .bool false],own:=false,pars:=[[.sl false [4] l,I6 x.2]],news:=[]}) (Q {val:= .agg [I6 k,I6 0,I6 a0,I6 a1,I6 a2,I6 x16,I6 x19,I6 x26,I6 0,I6 0,I6 0,I6 0,I6 0, .bool false,I6 x32, .bool true,I6 0,I6 0,I6 0,I6 0,I6 0, .bool false],own:=false,pars:=[[.sl false [4] l,I6 x_4.2]],news:=[]})) (Bb (k==6) (((0:Int)<60/\(60:Int)<=4611686018427387904/\inSrc l x.2)/\(∃(x_4:Int×Int),drew l x.2 (60:Int) x_4)/\∀(x_4:Int×Int),drew l x.2 (60:Int) x_4->(-9223372036854775808<=1+x_4.1/\(1:Int)+x_4.1<=9223372036854775807)/\∀x36,x36=1+x_4.1->Bb (k==6) (((0:Int)<2/\(2:Int)<=4611686018427387904/\inSrc l x_4.2)/\(∃(x:Int×Int),drew l x_4.2 (2:Int) x)/\∀(x:Int×Int),drew l x_4.2 (2:Int) x->(-9223372036854775808<=3+x.1/\(3:Int)+x.1<=9223372036854775807)/\∀x38,x38=3+x.1->Q {val:= .agg [I6 k,I6 0,I6 a0,I6 a1,I6 a2,I6 x16,I6 x19,I6 x26,I6 0,I6 0,I6 0,I6 0,I6 0, .bool false,I6 x36, .bool true,I6 0,I6 0,I6 0,I6 x38,I6 0, .bool false],own:=false,pars:=[[.sl false [4] l,I6 x.2]],news:=[]}) (Q {val:= .agg [I6 k,I6 0,I6 a0,I6 a1,I6 a2,I6 x16,I6 x19,I6 x26,I6 0,I6 0,I6 0,I6 0,I6 0, .bool false,I6 x36, .bool true,I6 0,I6 0,I6 0,I6 0,I6 0, .bool false],own:=false,pars:=[[.sl false [4] l,I6 x_4.2]],news:=[]})) (Bb (k==4) (Q {val:= .agg [I6 k,I6 0,I6 a0,I6 a1,I6 a2,I6 x16,I6 x19,I6 x26,I6 0,I6 0,I6 0,I6 0,I6 0, .bool false,I6 x28, .bool false,I6 0,I6 0,I6 0,I6 0,I6 0, .bool false],own:=false,pars:=[[.sl false [4] l,I6 x.2]],news:=[]}) (Q {val:= .agg [I6 k,I6 0,I6 a0,I6 a1,I6 a2,I6 x16,I6 x19,I6 x26,I6 0,I6 0,I6 0,I6 0,I6 0, .bool false,I6 x28, .bool false,I6 0,I6 0,I6 x30,I6 0,I6 0, .bool false],own:=false,pars:=[[.sl false [4] l,I6 x.2]],news:=[]})))))):=by kernel_rfl
end Go.Proofs.YtoekmphdpepdbaaGreat
namespace U
theorem tdiv_one{c r:Int}(hr:0<r)(h1: -r<=c)(h2:c<=r): -1<=c.tdiv r/\c.tdiv r<=1:=by
 rw[tdiv_ite hr];split
 . have:=Int.ediv_le_of_le_mul hr (show c<=1*r by omega);have:=Int.ediv_nonneg (show 0<=c by omega) (Int.le_of_lt hr);omega
 . have:=Int.ediv_le_of_le_mul hr (show-c<=1*r by omega);have:=Int.ediv_nonneg (show 0<= -c by omega) (Int.le_of_lt hr);omega
theorem small_mul{q v m:Int}(hq: -1<=q/\q<=1)(h0:0<=v)(h1:v<m): -m<q*v/\q*v<m:=by
 have:q= -1∨q=0∨q=1:=by omega
 rcases this with rfl|rfl|rfl<;>omega
theorem rel_ex(a b c:Int):∃x:Int×Int×Int,∀B:Int,0<=B->b3 B a b c->b3 B x.1 x.2.1 x.2.2:=⟨(a,b,c),fun _ _ h=>h⟩
theorem turn_ex{r:Int}(h:0<=r):∃x:Int×Int,(-r<=x.1/\x.1<=r)/\ -r<=x.2/\x.2<=r:=⟨(0,0),by dsimp only;omega⟩
theorem pick4{y x:Int}(h0:0<=y)(h1:y<4)(e:x=el [[0],[0],[7],[-12]] (Int.toNat y)): -12<=x/\x<=7:=by
 have:y=0∨y=1∨y=2∨y=3:=by omega
 rcases this with rfl|rfl|rfl|rfl
 . have e:x=0:=e;omega
 . have e:x=0:=e;omega
 . have e:x=7:=e;omega
 . have e:x= -12:=e;omega
theorem pickF{y x:Int}(h0:0<=y)(h1:y<5)(e:x=el [[300000],[1],[60000],[2000000],[60000000]] (Int.toNat y)):0<=x/\x<=60000000:=by
 have:y=0∨y=1∨y=2∨y=3∨y=4:=by omega
 rcases this with rfl|rfl|rfl|rfl|rfl
 . have e:x=300000:=e;omega
 . have e:x=1:=e;omega
 . have e:x=60000:=e;omega
 . have e:x=2000000:=e;omega
 . have e:x=60000000:=e;omega
theorem pickB{y x:Int}(h0:0<=y)(h1:y<5)(e:x=el [[0],[1],[2],[4],[9]] (Int.toNat y)):0<=x/\x<=1000:=by
 have:y=0∨y=1∨y=2∨y=3∨y=4:=by omega
 rcases this with rfl|rfl|rfl|rfl|rfl
 . have e:x=0:=e;omega
 . have e:x=1:=e;omega
 . have e:x=2:=e;omega
 . have e:x=4:=e;omega
 . have e:x=9:=e;omega
theorem arcTail{l:LL}{u w h a b c d q:Int}(hu: -65536<=u/\u<=65536)(hw: -65536<=w/\w<=65536)(hh: -65536<=h/\h<=65536)(ha: -15<=a/\a<=15)(hb: -15<=b/\b<=15)(hc: -19<=c/\c<=19)(hd: -19<=d/\d<=19)(hq:inSrc l q)(G:Int×Int×Int->Int×Int->Prop)(fin:∀e y,inSrc l y.2->(∀B,0<=B->b3 B u w h->b3 (B+34) e.1 e.2.1 e.2.2)->G e y):((-9223372036854775808:Int)<=u-a/\u-a<=(9223372036854775807:Int))/\∀(x30:Int),x30=u-a->((-9223372036854775808:Int)<=x30+c/\x30+c<=(9223372036854775807:Int))/\∀(x31:Int),x31=x30+c->((-9223372036854775808:Int)<=w-b/\w-b<=(9223372036854775807:Int))/\∀(x32:Int),x32=w-b->((-9223372036854775808:Int)<=x32+d/\x32+d<=(9223372036854775807:Int))/\∀(x33:Int),x33=x32+d->((0:Int)<4/\(4:Int)<=4611686018427387904/\inSrc l q)/\(∃(x:Int×Int),drew l q 4 x)/\∀(x_10:Int×Int),drew l q 4 x_10->((0:Int)<=x_10.1/\x_10.1<((4:Nat):Int))/\∀(x35:Int),x35=el [[0],[0],[7],[-12]] (Int.toNat x_10.1)->((-9223372036854775808:Int)<=h+x35/\h+x35<=(9223372036854775807:Int))/\∀(x36:Int),x36=h+x35->True/\(∃(x:Int×Int×Int),∀(B:Int),0<=B->b3 B x31 x33 x36->b3 B x.1 x.2.1 x.2.2)/\∀(x_11:Int×Int×Int),(∀(B:Int),0<=B->b3 B x31 x33 x36->b3 B x_11.1 x_11.2.1 x_11.2.2)->G x_11 x_10:=by
 refine⟨by omega,fun x30 e30=>⟨by omega,fun x31 e31=>⟨by omega,fun x32 e32=>⟨by omega,fun x33 e33=>⟨⟨by decide,by decide,hq⟩,drew_ex _ _ (by decide),fun y hy=> ?_⟩⟩⟩⟩⟩;have y0:=hy.1;have y1:=hy.2.1;refine⟨⟨y0,by omega⟩,fun x35 e35=> ?_⟩;have p:=pick4 y0 y1 e35;exact⟨by omega,fun x36 e36=>⟨trivial,rel_ex _ _ _,fun e he=>fin e y (drew_src hq hy) fun B h0 hB=>he (B+34) (by omega) (by unfold b3 at hB⊢;omega)⟩⟩
theorem niceB_mono{B C:Int}(h:B<=C){x:It}(hx:niceB B x):niceB C x:=⟨hx.1,b3_mono h hx.2.1,b3_mono h hx.2.2.1,b3_mono h hx.2.2.2.1,hx.2.2.2.2⟩
theorem grown_ex{k a0 a1 a2:Int}(hk:1<=k/\k<=3){l:LL}{p:Int}(hp:inSrc l p):∃x:It×Int,inSrc l x.2/\grown k a0 a1 a2 x.1:=⟨(⟨k,0,0,0,0,0,0,0,0,0,0,0,0,false,0,false,0,0,0,0,0,false⟩,p),hp,rfl,fun B h0 _=>by
  have z:b3 (B+40) 0 0 0:=b3_zero (by omega);exact⟨hk,z,z,z,by dsimp only;omega,by dsimp only;omega,by dsimp only;omega⟩⟩
end U
namespace Go.Proofs.YtoekmphdpepdbaaGreat
open Go Go.HL U
attribute [local irreducible] hfun bodyT fragT
set_option maxHeartbeats 1000000 in theorem sArc:Sound Tryz.prog 98 SArc:=by
 refine sound_of (C:=CArc) tabArc Tryz.func98 (by kernel_rfl) (by decide+kernel) (by kernel_rfl) rfl ⟨sNext,sPlane,sTurned,sSpace,trivial⟩ (loops0 (by kernel_rfl)) ?_;intro hA pA R h;unfold SArc at h;split at h;case h_2=>exfalso;exact h
 rename_i a0 a1 a2 n l p;obtain⟨⟨hp,ha,rfl⟩,_,hR⟩:=h;refine byVC (vcArc a0 a1 a2 8 p l R) ⟨⟨by decide,by decide,hp⟩,drew_ex _ _ (by decide),fun y1 h1=>⟨⟨h1.1,by have:=h1.2.1;omega⟩,fun x2 e2=>⟨⟨by decide,by decide,drew_src hp h1⟩,drew_ex _ _ (by decide),fun y2 h2=> ?_⟩⟩⟩;have s1:=drew_src hp h1;have s2:=drew_src s1 h2;have b2:=h2.1;have b2':=h2.2.1;refine⟨by omega,fun x4 e4=>⟨by omega,fun x5 e5=>⟨⟨by decide,by decide,s2⟩,drew_ex _ _ (by decide),fun y3 h3=> ?_⟩⟩⟩;have s3:=drew_src s2 h3;have b3':=h3.1;have b3'':=h3.2.1;refine⟨by omega,fun x7 e7=>⟨⟨by decide,by decide,s3⟩,drew_ex _ _ (by decide),fun y4 h4=> ?_⟩⟩;have s4:=drew_src s3 h4;have b4:=h4.1;have b4':=h4.2.1;refine⟨⟨by decide,by decide,s4⟩,drew_ex _ _ (by decide),fun y5 h5=>⟨trivial,rel_ex _ _ _,fun z hz=>⟨⟨by omega,b4⟩,turn_ex (by omega),fun ab hab=> ?_⟩⟩⟩;have s5:=drew_src s4 h5;have b5:=h5.1;have b5':=h5.2.1;refine⟨by omega,fun x14 e14=>⟨⟨by omega,by omega⟩,turn_ex (by omega),fun cd hcd=> ?_⟩⟩;have zb:=hz 65536 (by decide) ha;obtain⟨z0,z1,z2⟩:=zb;refine⟨by omega,fun x16 e16=>⟨by omega,fun x17 e17=>⟨trivial,rel_ex _ _ _,fun ce hce=> ?_⟩⟩⟩;have fin:∀(f:Bool)(e:Int×Int×Int)(y:Int×Int),inSrc l y.2->(∀B,0<=B->b3 B z.1 z.2.1 z.2.2->b3 (B+34) e.1 e.2.1 e.2.2)->R ⟨.agg [I6 3,I6 0,I6 a0,I6 a1,I6 a2,I6 e.1,I6 e.2.1,I6 e.2.2,I6 x2,I6 ce.1,I6 ce.2.1,I6 ce.2.2,I6 x5, .bool f,I6 0, .bool false,I6 0,I6 0,I6 0,I6 0,I6 0, .bool false],false,[[.sl false [4] l,I6 y.2]],[]⟩:=by
  intro f e y hy he;refine hR (⟨3,0,a0,a1,a2,e.1,e.2.1,e.2.2,x2,ce.1,ce.2.1,ce.2.2,x5,f,0,false,0,0,0,0,0,false⟩,y.2) ⟨hy,rfl,fun B h0 hB=> ?_⟩;have zB:=hz B h0 hB;have eB:=he B h0 zB;have cB:=hce (B+15) (by omega) (by unfold b3 at zB⊢;omega);exact⟨by dsimp only;omega,b3_mono (by omega) hB,b3_mono (by omega) eB,b3_mono (by omega) cB,by dsimp only;omega,by dsimp only;omega,by dsimp only;omega⟩
 refine⟨fun _=>⟨⟨by decide,by decide,s5⟩,drew_ex _ _ (by decide),fun y6 h6=> ?_⟩,fun _=> ?_⟩
 . have s6:=drew_src s5 h6;refine⟨fun _=> ?_,fun _=> ?_⟩
   . have q1:=tdiv_one (c:=cd.1) (r:=x7) (by omega) (by omega) (by omega);have q2:=tdiv_one (c:=cd.2) (r:=x7) (by omega) (by omega) (by omega);refine⟨by omega,by omega,fun x22 e22=>⟨⟨by decide,by decide,s6⟩,drew_ex _ _ (by decide),fun y7 h7=> ?_⟩⟩;have m1:=small_mul (q:=x22) (v:=y7.1) (m:=5) (by omega) h7.1 h7.2.1;have s7:=drew_src s6 h7;refine⟨by omega,fun x24 e24=>⟨by omega,fun x25 e25=>⟨by omega,by omega,fun x26 e26=>⟨⟨by decide,by decide,s7⟩,drew_ex _ _ (by decide),fun y8 h8=> ?_⟩⟩⟩⟩;have m2:=small_mul (q:=x26) (v:=y8.1) (m:=5) (by omega) h8.1 h8.2.1;have s8:=drew_src s7 h8;refine⟨by omega,fun x28 e28=>⟨by omega,fun x29 e29=> ?_⟩⟩;exact arcTail z0 z1 z2 (by omega) (by omega) (by omega) (by omega) s8 _ (fin _)
   . exact arcTail z0 z1 z2 (by omega) (by omega) (by omega) (by omega) s6 _ (fin _)
 . exact arcTail z0 z1 z2 (by omega) (by omega) (by omega) (by omega) s5 _ (fin _)
set_option maxHeartbeats 1000000 in theorem sMot:Sound Tryz.prog 64 SMot:=by
 refine sound_of (C:=CMot) tabMot Tryz.func64 (by kernel_rfl) (by decide+kernel) (by kernel_rfl) rfl ⟨sNext,sArc,trivial⟩ (loops0 (by kernel_rfl)) ?_;intro hA pA R h;unfold SMot at h;split at h;case h_2=>exfalso;exact h
 rename_i a0 a1 a2 k l p;obtain⟨⟨hp,ha,hk0,hk1⟩,_,hR⟩:=h;have no:∀c:Int,k≠c->(k==c)=true->False:=fun c hc e=>hc (by simpa using e);have hab:=ha;unfold b3 at hab;refine byVC (vcMot a0 a1 a2 k p l R) ⟨fun g=>⟨⟨hp,ha,rfl⟩,grown_ex (by decide) hp,fun x hx=> ?_⟩,fun g=> ?_⟩
 . have k3:k=3:=by simpa using g
   obtain⟨s0,hx0,hx1⟩:=hx;refine⟨fun g1=>(no 1 (by omega) g1).elim,fun _=>⟨⟨by decide,by decide,s0⟩,drew_ex _ _ (by decide),fun y1 h1=>⟨⟨h1.1,by have:=h1.2.1;omega⟩,fun x3 e3=>⟨⟨by decide,by decide,drew_src s0 h1⟩,drew_ex _ _ (by decide),fun y2 h2=>⟨⟨h2.1,by have:=h2.2.1;omega⟩,fun x5 e5=>⟨fun g5=>(no 5 (by omega) g5).elim,fun _=>⟨fun g6=>(no 6 (by omega) g6).elim,fun _=>⟨fun g4=>(no 4 (by omega) g4).elim,fun _=> ?_⟩⟩⟩⟩⟩⟩⟩⟩;have pf:=pickF h1.1 h1.2.1 e3;have pb:=pickB h2.1 h2.2.1 e5;refine hR ({x.1 with fd:=x3,bl:=x5},y2.2) ⟨drew_src (drew_src s0 h1) h2,by rw[k3];exact hx0,fun B h0 hB=> ?_⟩;obtain⟨n1,n2,n3,n4,n5,_,_⟩:=hx1 B h0 hB;exact⟨n1,n2,n3,n4,n5,pf,pb⟩
 . have s0:=hp;refine⟨⟨by decide,by decide,s0⟩,drew_ex _ _ (by decide),fun y1 h1=> ?_⟩;have s1:=drew_src s0 h1;have b1:=h1.1;have b1':=h1.2.1;refine⟨by omega,fun x15 e15=>⟨by omega,fun x16 e16=>⟨⟨by decide,by decide,s1⟩,drew_ex _ _ (by decide),fun y2 h2=> ?_⟩⟩⟩;have s2:=drew_src s1 h2;have b2:=h2.1;have b2':=h2.2.1;refine⟨by omega,fun x18 e18=>⟨by omega,fun x19 e19=>⟨⟨by decide,by decide,s2⟩,drew_ex _ _ (by decide),fun y3 h3=>⟨⟨by decide,by decide,drew_src s2 h3⟩,drew_ex _ _ (by decide),fun y4 h4=> ?_⟩⟩⟩⟩;have s4:=drew_src (drew_src s2 h3) h4;have m4:=mulbd h3.1 (show y3.1<=2 by have:=h3.2.1;omega) h4.1 (show y4.1<=8 by have:=h4.2.1;omega);refine⟨by omega,fun x22 e22=>⟨by omega,fun x23 e23=>⟨⟨by decide,by decide,s4⟩,drew_ex _ _ (by decide),fun y5 h5=> ?_⟩⟩⟩;have s5:=drew_src s4 h5;have b5:=h5.1;have b5':=h5.2.1;refine⟨by omega,fun x25 e25=>⟨by omega,fun x26 e26=> ?_⟩⟩;have fin:∀f b q:Int,inSrc l q->(0<=f/\f<=60000000)->(0<=b/\b<=1000)->R ⟨.agg [I6 k,I6 0,I6 a0,I6 a1,I6 a2,I6 x16,I6 x19,I6 x26,I6 0,I6 0,I6 0,I6 0,I6 0, .bool false,I6 f, .bool false,I6 0,I6 0,I6 b,I6 0,I6 0, .bool false],false,[[.sl false [4] l,I6 q]],[]⟩:=by
    intro f b q hq hf hb;refine hR (⟨k,0,a0,a1,a2,x16,x19,x26,0,0,0,0,0,false,f,false,0,0,b,0,0,false⟩,q) ⟨hq,rfl,fun B h0 hB=> ?_⟩;exact⟨⟨hk0,hk1⟩,b3_mono (by omega) hB,by unfold b3 at hB⊢;dsimp only;omega,b3_zero (by omega),by dsimp only;omega,hf,hb⟩
   refine⟨fun _=>fin 0 0 _ s5 (by decide) (by decide),fun _=>⟨⟨by decide,by decide,s5⟩,drew_ex _ _ (by decide),fun y6 h6=>⟨⟨h6.1,by have:=h6.2.1;omega⟩,fun x28 e28=>⟨⟨by decide,by decide,drew_src s5 h6⟩,drew_ex _ _ (by decide),fun y7 h7=>⟨⟨h7.1,by have:=h7.2.1;omega⟩,fun x30 e30=>⟨fun g5=>(no 5 (by omega) g5).elim,fun _=>⟨fun g6=>(no 6 (by omega) g6).elim,fun _=>⟨fun g4=>(no 4 (by omega) g4).elim,fun _=> ?_⟩⟩⟩⟩⟩⟩⟩⟩;exact fin x28 x30 _ (drew_src (drew_src s5 h6) h7) (pickF h6.1 h6.2.1 e28) (pickB h7.1 h7.2.1 e30)
end Go.Proofs.YtoekmphdpepdbaaGreat
namespace U
theorem ec_app_lt{y:LL}{r:List Int}{j c:Nat}(h:j<y.length):ec (y++[r]) j c=ec y j c:=by
 unfold ec;have e:(y++[r]).getD j []=y.getD j []:=by rw[List.getD_eq_getElem?_getD,List.getElem?_append_left h,<-List.getD_eq_getElem?_getD]
 rw[e]
theorem ec_app_eq{y:LL}{r:List Int}{c:Nat}:ec (y++[r]) y.length c=r.getD c 0:=by
 unfold ec;have:(y++[r]).getD y.length []=r:=by simp[List.getD_eq_getElem?_getD]
 rw[this]
theorem niceL_app{y:LL}(hy:niceL y){x:It}(hx:niceB 256 x){b1 b2 b3:Int}:niceL (y++[[x.k0,x.bk,x.f0,x.f1,x.f2,x.t0,x.t1,x.t2,x.pl,x.c0,x.c1,x.c2,x.dr,b1,x.fd,b2,x.sd,x.ra,x.bl,x.nn,x.sp,b3]]):=by
 intro j hj;by_cases h:j<y.length
 . have:=hy j h;unfold niceAt at this⊢;simp only[ec_app_lt h];exact this
 . have:j=y.length:=by simp at hj;omega
   subst this;unfold niceAt;simp only[ec_app_eq];exact hx
end U
namespace Go.Proofs.YtoekmphdpepdbaaGreat
open Go Go.HL U
def SSmooth(hargs:List HV)(pars:List (List HC)):SR:=match hargs,pars with
 |[.agg [.int .i64 k0, .int .i64 bk, .int .i64 f0, .int .i64 f1, .int .i64 f2, .int .i64 t0, .int .i64 t1, .int .i64 t2, .int .i64 pl, .int .i64 c0, .int .i64 c1, .int .i64 c2, .int .i64 dr, .bool fu, .int .i64 fd, .bool pr, .int .i64 sd, .int .i64 ra, .int .i64 bl, .int .i64 nn, .int .i64 sp, .bool on]],[]=> .all True Bool (fun x=>x=true->k0=2) (fun x=>⟨.ce (.bool x),false,[],[]⟩)
 |_,_=> .fail
noncomputable def CSmooth:Ctx:=⟨Tryz.prog,gam [],Tryz.f102.ntmps,[],[]⟩
theorem vcSmooth(k0 bk f0 f1 f2 t0 t1 t2 pl c0 c1 c2 dr fd sd ra bl nn sp:Int)(fu pr on:Bool)(Q:Res->Prop):(nfun true CSmooth Tryz.f102 (bodyOf Tryz.f102) [.agg [I6 k0,I6 bk,I6 f0,I6 f1,I6 f2,I6 t0,I6 t1,I6 t2,I6 pl,I6 c0,I6 c1,I6 c2,I6 dr, .bool fu,I6 fd, .bool pr,I6 sd,I6 ra,I6 bl,I6 nn,I6 sp, .bool on]] [] Q)=(Bb (k0==2) (Q ⟨.ce (.bool !(f0==t0&&(f1==t1&&(f2==t2&&true)))),false,[],[]⟩) (Q ⟨.ce (.bool false),false,[],[]⟩)):=by kernel_rfl
def SCenter(hargs:List HV)(pars:List (List HC)):SR:=match hargs,pars with
 |[.agg [.int .i64 k0, .int .i64 bk, .int .i64 f0, .int .i64 f1, .int .i64 f2, .int .i64 t0, .int .i64 t1, .int .i64 t2, .int .i64 pl, .int .i64 c0, .int .i64 c1, .int .i64 c2, .int .i64 dr, .bool fu, .int .i64 fd, .bool pr, .int .i64 sd, .int .i64 ra, .int .i64 bl, .int .i64 nn, .int .i64 sp, .bool on]],[]=> .det (b3 256 f0 f1 f2/\b3 256 t0 t1 t2) ⟨.agg [I6 ((f0+t0)*8),I6 ((f1+t1)*8),I6 ((f2+t2)*8)],false,[],[]⟩
 |_,_=> .fail
noncomputable def CCenter:Ctx:=⟨Tryz.prog,gam [],Tryz.f104.ntmps,[],[]⟩
theorem vcCenter(k0 bk f0 f1 f2 t0 t1 t2 pl c0 c1 c2 dr fd sd ra bl nn sp:Int)(fu pr on:Bool)(Q:Res->Prop):(nfun true CCenter Tryz.f104 (bodyOf Tryz.f104) [.agg [I6 k0,I6 bk,I6 f0,I6 f1,I6 f2,I6 t0,I6 t1,I6 t2,I6 pl,I6 c0,I6 c1,I6 c2,I6 dr, .bool fu,I6 fd, .bool pr,I6 sd,I6 ra,I6 bl,I6 nn,I6 sp, .bool on]] [] Q)=(R6 (f0+t0)/\∀x1,x1=f0+t0->R6 (x1*8)/\∀x2,x2=x1*8->R6 (f1+t1)/\∀x3,x3=f1+t1->R6 (x3*8)/\∀x4,x4=x3*8->R6 (f2+t2)/\∀x5,x5=f2+t2->R6 (x5*8)/\∀x6,x6=x5*8->Q ⟨.agg [I6 x2,I6 x4,I6 x6],false,[],[]⟩):=by kernel_rfl
def SRate(hargs:List HV)(pars:List (List HC)):SR:=match hargs,pars with
 |[.agg [.int .i64 k0, .int .i64 bk, .int .i64 f0, .int .i64 f1, .int .i64 f2, .int .i64 t0, .int .i64 t1, .int .i64 t2, .int .i64 pl, .int .i64 c0, .int .i64 c1, .int .i64 c2, .int .i64 dr, .bool fu, .int .i64 fd, .bool pr, .int .i64 sd, .int .i64 ra, .int .i64 bl, .int .i64 nn, .int .i64 sp, .bool on], .ce (.int .i64 s)],[]=> .all ((0<=fd/\fd<=60000000)/\s=0) Int (fun x=>0<=x/\x<=16777216) (fun x=>⟨.ce (I6 x),false,[],[]⟩)
 |_,_=> .fail
def tabRate:List (FuncId×HL.Spec):=[(100,SRnd)]
noncomputable def CRate:Ctx:=⟨Tryz.prog,gam tabRate,Tryz.f69.ntmps,[],[]⟩
theorem vcRate(s:Int)(k0 bk f0 f1 f2 t0 t1 t2 pl c0 c1 c2 dr fd sd ra bl nn sp:Int)(fu pr on:Bool)(Q:Res->Prop):(nfun true CRate Tryz.f69 (bodyOf Tryz.f69) [.agg [I6 k0,I6 bk,I6 f0,I6 f1,I6 f2,I6 t0,I6 t1,I6 t2,I6 pl,I6 c0,I6 c1,I6 c2,I6 dr, .bool fu,I6 fd, .bool pr,I6 sd,I6 ra,I6 bl,I6 nn,I6 sp, .bool on], .ce (I6 s)] [] Q)=(Bb (k0==1) (Q ⟨.ce (I6 0),false,[],[]⟩) (Bb (pr) (∀x1,x1=max s 1->R6 (fd*x1)/\∀x2,x2=fd*x1->∀x3,x3=min x2 60000000->R6 (x3*16)/\∀x4,x4=x3*16->R6 (x4*256)/\∀x5,x5=x4*256->(-2305843009213693952<=x5/\x5<=2305843009213693952/\(0:Int)<60000/\(60000:Int)<=2305843009213693952)/\∀x6,x6=rnd x5 (60000:Int)->∀x7,x7=max x6 1->Q ⟨.ce (I6 x7),false,[],[]⟩) (∀x8,x8=min fd 60000000->R6 (x8*16)/\∀x9,x9=x8*16->(-9223372036854775808<=x9*256/\x9*256<=9223372036854775807)/\∀x10,x10=x9*256->(-2305843009213693952<=x10/\x10<=2305843009213693952/\(0:Int)<60000/\(60000:Int)<=2305843009213693952)/\∀x11,x11=rnd x10 (60000:Int)->∀x12,x12=max x11 1->Q ⟨.ce (I6 x12),false,[],[]⟩))):=by kernel_rfl
def SSync(hargs:List HV)(pars:List (List HC)):SR:=match hargs,pars with
 |[.agg [.int .i64 k0, .int .i64 bk, .int .i64 f0, .int .i64 f1, .int .i64 f2, .int .i64 t0, .int .i64 t1, .int .i64 t2, .int .i64 pl, .int .i64 c0, .int .i64 c1, .int .i64 c2, .int .i64 dr, .bool fu, .int .i64 fd, .bool pr, .int .i64 sd, .int .i64 ra, .int .i64 bl, .int .i64 nn, .int .i64 sp, .bool on]],[]=> .det (1<=k0/\k0<=3) ⟨.ce (.bool false),false,[],[]⟩
 |_,_=> .fail
noncomputable def CSync:Ctx:=⟨Tryz.prog,gam [],Tryz.f70.ntmps,[],[]⟩
theorem vcSync(k0 bk f0 f1 f2 t0 t1 t2 pl c0 c1 c2 dr fd sd ra bl nn sp:Int)(fu pr on:Bool)(Q:Res->Prop):(nfun true CSync Tryz.f70 (bodyOf Tryz.f70) [.agg [I6 k0,I6 bk,I6 f0,I6 f1,I6 f2,I6 t0,I6 t1,I6 t2,I6 pl,I6 c0,I6 c1,I6 c2,I6 dr, .bool fu,I6 fd, .bool pr,I6 sd,I6 ra,I6 bl,I6 nn,I6 sp, .bool on]] [] Q)=(Bb (k0==5) (Q ⟨.ce (.bool true),false,[],[]⟩) (Q ⟨.ce (.bool (k0==6)),false,[],[]⟩)):=by kernel_rfl
def SSoft(hargs:List HV)(pars:List (List HC)):SR:=match hargs,pars with
 |[.ce (.sl false ks l), .ce (.int .i64 i)],[]=>bif ksEq ks [4,4,4,4,4,4,4,4,4,4,4,4,4,0,4,0,4,4,4,4,4,0]then .all ((0<=i/\i<(l.length:Int))/\niceL l/\l.length<=5) Int (fun x=> -1<=x/\x<(l.length:Int)) (fun x=>⟨.ce (I6 x),false,[],[]⟩)else .fail
 |_,_=> .fail
def tabSoft:List (FuncId×HL.Spec):=[(102,SSmooth)]
def anSoft:LAnn:=⟨[0,4,5],[4],[],false⟩
def LSoft(v:LV):LR:=match v with
 |([.ce (.sl false ks l), .ce (.int .i64 z), .ce (.int .i64 k)],[])=>bif ksEq ks [4,4,4,4,4,4,4,4,4,4,4,4,4,0,4,0,4,4,4,4,4,0]then .alts (0<=k/\niceL l/\l.length<=5) [(True, .exit 0,([.ce (I6 z)],[])),(True, .ret,([.ce (I6 (-1))],[])),(k<(l.length:Int), .ret,([.ce (I6 k)],[]))]else .fail
 |_=> .fail
noncomputable def CSoft:Ctx:=⟨Tryz.prog,gam tabSoft,Tryz.f73.ntmps,[(4,anSoft,LSoft)],[]⟩
theorem vbSoft(z k:Int)(l:LL)(K:HEx->LV->Prop):(nbodyT true CSoft anSoft (nthLoop Tryz.f73 0) (([.ce (.sl false [4,4,4,4,4,4,4,4,4,4,4,4,4,0,4,0,4,4,4,4,4,0] l), .ce (I6 z), .ce (I6 k)],[])) K)=(Br (k<(l.length:Int)) ((0<=k/\k<(l.length:Int))/\∀x1,x1=el l k.toNat->Bb (x1==10) (R6 (k+1)/\∀x2,x2=k+1->K .normal ([.ce (.sl false [4,4,4,4,4,4,4,4,4,4,4,4,4,0,4,0,4,4,4,4,4,0] l), .ce (I6 z), .ce (I6 x2)],[])) ((0<=k/\k<(l.length:Int))/\True/\(∃(x:Bool),x=true->el l k.toNat=2)/\∀(x:Bool),(x=true->el l k.toNat=2)->Bb (x) (K .ret ([.ce (I6 k)],[])) (K .ret ([.ce (I6 (-1))],[])))) (K (.exit 0) ([.ce (I6 z)],[]))):=by kernel_rfl
theorem vcSoft(i:Int)(l:LL)(Q:Res->Prop):(nfun true CSoft Tryz.f73 (bodyOf Tryz.f73) [.ce (.sl false [4,4,4,4,4,4,4,4,4,4,4,4,4,0,4,0,4,4,4,4,4,0] l), .ce (I6 i)] [] Q)=((0<=i/\i<(l.length:Int))/\True/\(∃(x:Bool),x=true->el l i.toNat=2)/\∀(x:Bool),(x=true->el l i.toNat=2)->Bb (!x) (Q ⟨.ce (I6 (-1)),false,[],[]⟩) ((0<=i/\i<(l.length:Int))/\∀x2,x2=ec l i.toNat 18->Bb (x2==0) (Q ⟨.ce (I6 (-1)),false,[],[]⟩) (R6 (i+1)/\∀x3,x3=i+1->(0<=x3/\niceL l/\l.length<=5)/\(True->Q ⟨.ce (I6 (-1)),false,[],[]⟩)/\(True->Q ⟨.ce (I6 (-1)),false,[],[]⟩)/\(x3<(l.length:Int)->Q ⟨.ce (I6 x3),false,[],[]⟩)))):=by kernel_rfl
def SKind(hargs:List HV)(pars:List (List HC)):SR:=match hargs,pars with
 |[.ce (.sl false ks l), .ce (.int .i64 i)],[]=>bif ksEq ks [4,4,4,4,4,4,4,4,4,4,4,4,4,0,4,0,4,4,4,4,4,0]then .all ((0<=i/\i<(l.length:Int))/\niceL l/\l.length<=5) Int (fun _=>True) (fun x=>⟨.ce (I6 x),false,[],[]⟩)else .fail
 |_,_=> .fail
def tabKind:List (FuncId×HL.Spec):=[(70,SSync),(66,SMotion)]
def LKind(v:LV):LR:=match v with
 |([.ce (.sl false ks l), .ce (.int .i64 z), .ce (.int .i64 k)],[])=>bif ksEq ks [4,4,4,4,4,4,4,4,4,4,4,4,4,0,4,0,4,4,4,4,4,0]then .det (0<=k/\niceL l/\l.length<=5) (.exit 0) ([.ce (I6 z)],[])else .fail
 |_=> .fail
noncomputable def CKind:Ctx:=⟨Tryz.prog,gam tabKind,Tryz.f74.ntmps,[(6,anSoft,LKind)],[]⟩
theorem vbKind(z k:Int)(l:LL)(K:HEx->LV->Prop):(nbodyT true CKind anSoft (nthLoop Tryz.f74 0) (([.ce (.sl false [4,4,4,4,4,4,4,4,4,4,4,4,4,0,4,0,4,4,4,4,4,0] l), .ce (I6 z), .ce (I6 k)],[])) K)=(Br (k<(l.length:Int)) ((0<=k/\k<(l.length:Int))/\∀x1,x1=el l k.toNat->(1<=x1/\x1<=6)/\∀(x2:Bool),x2=true->Bb (x2) ((0<=k/\k<(l.length:Int))/\(1<=el l k.toNat/\el l k.toNat<=3)/\∀(x3:Bool),x3=false->Bb (x3) (K .ret ([.ce (I6 1)],[])) (K (.exit 0) ([.ce (I6 z)],[]))) (R6 (k+1)/\∀x4,x4=k+1->K .normal ([.ce (.sl false [4,4,4,4,4,4,4,4,4,4,4,4,4,0,4,0,4,4,4,4,4,0] l), .ce (I6 z), .ce (I6 x4)],[]))) (K (.exit 0) ([.ce (I6 z)],[]))):=by kernel_rfl
theorem vcKind(i:Int)(l:LL)(Q:Res->Prop):(nfun true CKind Tryz.f74 (bodyOf Tryz.f74) [.ce (.sl false [4,4,4,4,4,4,4,4,4,4,4,4,4,0,4,0,4,4,4,4,4,0] l), .ce (I6 i)] [] Q)=((0<=i/\i<(l.length:Int))/\∀x1,x1=el l i.toNat->Bb (x1==4) (Q ⟨.ce (I6 6),false,[],[]⟩) ((0<=i/\i<(l.length:Int))/\∀x2,x2=ec l i.toNat 18->Bb (x2==0) (Q ⟨.ce (I6 1),false,[],[]⟩) ((0<=i/\i<(l.length:Int))/\(1<=el l i.toNat/\el l i.toNat<=3)/\∀(x3:Bool),x3=false->Bb (x3) (Q ⟨.ce (I6 1),false,[],[]⟩) (R6 (i+1)/\∀x4,x4=i+1->(0<=x4/\niceL l/\l.length<=5)/\Q ⟨.ce (I6 2),false,[],[]⟩)))):=by kernel_rfl
def SJoined(hargs:List HV)(pars:List (List HC)):SR:=match hargs,pars with
 |[.ce (.sl false ks l), .ce (.int .i64 i), .ce (.int .i64 k)],[]=>bif ksEq ks [4,4,4,4,4,4,4,4,4,4,4,4,4,0,4,0,4,4,4,4,4,0]then .all ((0<=i/\i<(l.length:Int))/\(0<=k/\k<(l.length:Int))/\niceL l) (LL) (fun x=>(1<=x.length/\x.length<=128)/\ptsOK 32768 x) (fun x=>⟨.ce (.sl false [4,4,4] x),true,[],[]⟩)else .fail
 |_,_=> .fail
def tabJoined:List (FuncId×HL.Spec):=[(104,SCenter),(68,SFine),(120,SCorner)]
noncomputable def CJoined:Ctx:=⟨Tryz.prog,gam tabJoined,Tryz.f103.ntmps,[],[]⟩
theorem vcJoined(i k:Int)(l:LL)(Q:Res->Prop):(nfun true CJoined Tryz.f103 (bodyOf Tryz.f103) [.ce (.sl false [4,4,4,4,4,4,4,4,4,4,4,4,4,0,4,0,4,4,4,4,4,0] l), .ce (I6 i), .ce (I6 k)] [] Q)=((0<=i/\i<(l.length:Int))/\(b3 256 (ec l i.toNat 2) (ec l i.toNat 3) (ec l i.toNat 4)/\b3 256 (ec l i.toNat 5) (ec l i.toNat 6) (ec l i.toNat 7))/\∀x1,x1=(ec l i.toNat 2+ec l i.toNat 5)*8->∀x2,x2=(ec l i.toNat 3+ec l i.toNat 6)*8->∀x3,x3=(ec l i.toNat 4+ec l i.toNat 7)*8->(0<=i/\i<(l.length:Int))/\b3 1073741824 (ec l i.toNat 5) (ec l i.toNat 6) (ec l i.toNat 7)/\∀x4,x4=ec l i.toNat 5*16->∀x5,x5=ec l i.toNat 6*16->∀x6,x6=ec l i.toNat 7*16->(0<=k/\k<(l.length:Int))/\(b3 256 (ec l k.toNat 2) (ec l k.toNat 3) (ec l k.toNat 4)/\b3 256 (ec l k.toNat 5) (ec l k.toNat 6) (ec l k.toNat 7))/\∀x7,x7=(ec l k.toNat 2+ec l k.toNat 5)*8->∀x8,x8=(ec l k.toNat 3+ec l k.toNat 6)*8->∀x9,x9=(ec l k.toNat 4+ec l k.toNat 7)*8->(0<=i/\i<(l.length:Int))/\∀x10,x10=ec l i.toNat 18->R6 (x10*16)/\∀x11,x11=x10*16->((b3 4096 x1 x2 x3/\b3 4096 x4 x5 x6/\b3 4096 x7 x8 x9)/\0<=x11/\x11<=65536)/\(∃(x:LL),((1:Nat)<=x.length/\x.length<=128)/\ptsOK (32768:Int) x)/\∀(x:LL),((1:Nat)<=x.length/\x.length<=128)/\ptsOK (32768:Int) x->Q ⟨.ce (.sl false [4,4,4] x),true,[],[]⟩):=by kernel_rfl
def SPoints(hargs:List HV)(pars:List (List HC)):SR:=match hargs,pars with
 |[.ce (.sl false ks l), .ce (.int .i64 i), .ce (.int .i64 f)],[]=>bif ksEq ks [4,4,4,4,4,4,4,4,4,4,4,4,4,0,4,0,4,4,4,4,4,0]then .all ((0<=i/\i<(l.length:Int))/\(-1<=f/\f<(l.length:Int))/\niceL l/\l.length<=5) (LL×Bool) (fun x=>x.1.length<=71000/\ptsOK 32768 x.1) (fun x=>⟨.ce (.sl false [4,4,4] x.1),x.2,[],[]⟩)else .fail
 |_,_=> .fail
def tabPoints:List (FuncId×HL.Spec):=[(101,SChords),(102,SSmooth),(103,SJoined),(73,SSoft),(104,SCenter)]
noncomputable def CPoints:Ctx:=⟨Tryz.prog,gam tabPoints,Tryz.f71.ntmps,[],[]⟩
theorem vcPoints(i f:Int)(l:LL)(Q:Res->Prop):(nfun true CPoints Tryz.f71 (bodyOf Tryz.f71) [.ce (.sl false [4,4,4,4,4,4,4,4,4,4,4,4,4,0,4,0,4,4,4,4,4,0] l), .ce (I6 i), .ce (I6 f)] [] Q)=((0<=i/\i<(l.length:Int))/\nice (el l i.toNat) (ec l i.toNat 2) (ec l i.toNat 3) (ec l i.toNat 4) (ec l i.toNat 5) (ec l i.toNat 6) (ec l i.toNat 7) (ec l i.toNat 9) (ec l i.toNat 10) (ec l i.toNat 11) (ec l i.toNat 12) (ec l i.toNat 14) (ec l i.toNat 18)/\(∃(x:LL×Bool),(el l i.toNat≠3->List.length x.1=2)/\ptsOK (32768:Int) x.1/\List.length x.1<=70000)/\∀(x:LL×Bool),(el l i.toNat≠3->List.length x.1=2)/\ptsOK (32768:Int) x.1/\List.length x.1<=70000->(0<=i/\i<(l.length:Int))/\True/\(∃(x:Bool),x=true->el l i.toNat=2)/\∀(x_1:Bool),(x_1=true->el l i.toNat=2)->Bb (!x_1) (Q ⟨.ce (.sl false [4,4,4] x.1),false,[],[]⟩) (((0:Int)<=1/\(1:Int)<=(List.length x.1:Int))/\((0:Int)<=1/\(1:Int)<=(List.length x.1:Int))/\Br (f>=0) (((0<=f/\f<(l.length:Int))/\(0<=i/\i<(l.length:Int))/\niceL l)/\(∃(x:LL),((1:Nat)<=x.length/\x.length<=128)/\ptsOK (32768:Int) x)/\∀(x_2:LL),((1:Nat)<=x_2.length/\x_2.length<=128)/\ptsOK (32768:Int) x_2->(2:Int)≠(0:Int)/\R6 (Int.tdiv (x_2.length:Int) (2:Int))/\∀x4,x4=Int.tdiv (x_2.length:Int) (2:Int)->(0<=x4/\x4<=(x_2.length:Int))/\((0<=i/\i<(l.length:Int))/\niceL l/\l.length<=5)/\(∃(x:Int),-1<=x/\x<(l.length:Int))/\∀(x_3:Int),-1<=x_3/\x_3<(l.length:Int)->Br (x_3>=0) (((0<=i/\i<(l.length:Int))/\(0<=x_3/\x_3<(l.length:Int))/\niceL l)/\(∃(x:LL),((1:Nat)<=x.length/\x.length<=128)/\ptsOK (32768:Int) x)/\∀(x:LL),((1:Nat)<=x.length/\x.length<=128)/\ptsOK (32768:Int) x->(2:Int)≠(0:Int)/\R6 (Int.tdiv (x.length:Int) (2:Int))/\∀x7,x7=Int.tdiv (x.length:Int) (2:Int)->R6 (x7+1)/\∀x8,x8=x7+1->(0<=x8/\x8<=(x.length:Int))/\(((0:Nat)+List.length (List.drop x4.toNat x_2))*24<=140737488355328/\(0:Nat)+List.length (List.drop x4.toNat x_2)<=maxLen)/\(0<=i/\i<(l.length:Int))/\(b3 256 (ec l i.toNat 2) (ec l i.toNat 3) (ec l i.toNat 4)/\b3 256 (ec l i.toNat 5) (ec l i.toNat 6) (ec l i.toNat 7))/\∀x9,x9=(ec l i.toNat 2+ec l i.toNat 5)*8->∀x10,x10=(ec l i.toNat (nat_lit 3)+ec l i.toNat (nat_lit 6))*8->∀x11,x11=(ec l i.toNat (nat_lit 4)+ec l i.toNat (nat_lit 7))*8->((List.length ([]++List.drop x4.toNat x_2)+1)*nat_lit 24<=140737488355328/\List.length ([]++List.drop x4.toNat x_2)+1<=maxLen)/\((List.length ([]++List.drop x4.toNat x_2++[[x9,x10,x11]])+List.length (List.take x8.toNat x))*nat_lit 24<=140737488355328/\List.length ([]++List.drop x4.toNat x_2++[[x9,x10,x11]])+List.length (List.take x8.toNat x)<=maxLen)/\Q ⟨.ce (.sl false [nat_lit 4,nat_lit 4,nat_lit 4] ([]++List.drop x4.toNat x_2++[[x9,x10,x11]]++List.take x8.toNat x)),true,[],[]⟩) ((((0:Nat)+List.length (List.drop x4.toNat x_2))*24<=140737488355328/\(0:Nat)+List.length (List.drop x4.toNat x_2)<=maxLen)/\(0<=i/\i<(l.length:Int))/\(b3 256 (ec l i.toNat 2) (ec l i.toNat 3) (ec l i.toNat 4)/\b3 256 (ec l i.toNat 5) (ec l i.toNat 6) (ec l i.toNat 7))/\∀x12,x12=(ec l i.toNat 2+ec l i.toNat 5)*8->∀x13,x13=(ec l i.toNat 3+ec l i.toNat 6)*8->∀x14,x14=(ec l i.toNat 4+ec l i.toNat 7)*8->((List.length ([]++List.drop x4.toNat x_2)+1)*24<=140737488355328/\List.length ([]++List.drop x4.toNat x_2)+1<=maxLen)/\((List.length ([]++List.drop x4.toNat x_2++[[x12,x13,x14]])+List.length (List.drop (1:Nat) x.1))*24<=140737488355328/\List.length ([]++List.drop x4.toNat x_2++[[x12,x13,x14]])+List.length (List.drop (1:Nat) x.1)<=maxLen)/\Q ⟨.ce (.sl false [4,4,4] ([]++List.drop x4.toNat x_2++[[x12,x13,x14]]++List.drop (1:Nat) x.1)),true,[],[]⟩)) (((0<=i/\i<(l.length:Int))/\niceL l/\l.length<=5)/\(∃(x:Int),-1<=x/\x<(l.length:Int))/\∀(x_2:Int),-1<=x_2/\x_2<(l.length:Int)->Br (x_2>=0) (((0<=i/\i<(l.length:Int))/\(0<=x_2/\x_2<(l.length:Int))/\niceL l)/\(∃(x:LL),((1:Nat)<=x.length/\x.length<=128)/\ptsOK (32768:Int) x)/\∀(x_3:LL),((1:Nat)<=x_3.length/\x_3.length<=128)/\ptsOK (32768:Int) x_3->(2:Int)≠(0:Int)/\R6 (Int.tdiv (x_3.length:Int) (2:Int))/\∀x17,x17=Int.tdiv (x_3.length:Int) (2:Int)->R6 (x17+1)/\∀x18,x18=x17+1->(0<=x18/\x18<=(x_3.length:Int))/\(((0:Nat)+List.length (List.take (1:Nat) x.1))*24<=140737488355328/\(0:Nat)+List.length (List.take (1:Nat) x.1)<=maxLen)/\(0<=i/\i<(l.length:Int))/\(b3 256 (ec l i.toNat 2) (ec l i.toNat 3) (ec l i.toNat 4)/\b3 256 (ec l i.toNat 5) (ec l i.toNat 6) (ec l i.toNat 7))/\∀x19,x19=(ec l i.toNat 2+ec l i.toNat 5)*8->∀x20,x20=(ec l i.toNat 3+ec l i.toNat 6)*8->∀x21,x21=(ec l i.toNat 4+ec l i.toNat 7)*8->((List.length ([]++List.take (1:Nat) x.1)+1)*24<=140737488355328/\List.length ([]++List.take (1:Nat) x.1)+1<=maxLen)/\((List.length ([]++List.take (1:Nat) x.1++[[x19,x20,x21]])+List.length (List.take x18.toNat x_3))*24<=140737488355328/\List.length ([]++List.take (1:Nat) x.1++[[x19,x20,x21]])+List.length (List.take x18.toNat x_3)<=maxLen)/\Q ⟨.ce (.sl false [4,4,4] ([]++List.take (1:Nat) x.1++[[x19,x20,x21]]++List.take x18.toNat x_3)),true,[],[]⟩) ((((0:Nat)+List.length (List.take (1:Nat) x.1))*24<=140737488355328/\(0:Nat)+List.length (List.take (1:Nat) x.1)<=maxLen)/\(0<=i/\i<(l.length:Int))/\(b3 256 (ec l i.toNat 2) (ec l i.toNat 3) (ec l i.toNat 4)/\b3 256 (ec l i.toNat 5) (ec l i.toNat 6) (ec l i.toNat 7))/\∀x22,x22=(ec l i.toNat 2+ec l i.toNat 5)*8->∀x23,x23=(ec l i.toNat 3+ec l i.toNat 6)*8->∀x24,x24=(ec l i.toNat 4+ec l i.toNat 7)*8->((List.length ([]++List.take (1:Nat) x.1)+1)*24<=140737488355328/\List.length ([]++List.take (1:Nat) x.1)+1<=maxLen)/\((List.length ([]++List.take (1:Nat) x.1++[[x22,x23,x24]])+List.length (List.drop (1:Nat) x.1))*24<=140737488355328/\List.length ([]++List.take (1:Nat) x.1++[[x22,x23,x24]])+List.length (List.drop (1:Nat) x.1)<=maxLen)/\Q ⟨.ce (.sl false [4,4,4] ([]++List.take (1:Nat) x.1++[[x22,x23,x24]]++List.drop (1:Nat) x.1)),true,[],[]⟩)))):=by kernel_rfl
def SWrong(hargs:List HV)(pars:List (List HC)):SR:=match hargs,pars with
 |[.agg [.int .i64 k0, .int .i64 bk, .int .i64 f0, .int .i64 f1, .int .i64 f2, .int .i64 t0, .int .i64 t1, .int .i64 t2, .int .i64 pl, .int .i64 c0, .int .i64 c1, .int .i64 c2, .int .i64 dr, .bool fu, .int .i64 fd, .bool pr, .int .i64 sd, .int .i64 ra, .int .i64 bl, .int .i64 nn, .int .i64 sp, .bool on]],[]=> .all (nice k0 f0 f1 f2 t0 t1 t2 c0 c1 c2 dr fd bl) Bool (fun _=>True) (fun x=>⟨.ce (.bool x),false,[],[]⟩)
 |_,_=> .fail
def tabWrong:List (FuncId×HL.Spec):=[(66,SMotion),(118,SValid)]
noncomputable def CWrong:Ctx:=⟨Tryz.prog,gam tabWrong,Tryz.f99.ntmps,[],[]⟩
theorem vcWrong(k0 bk f0 f1 f2 t0 t1 t2 pl c0 c1 c2 dr fd sd ra bl nn sp:Int)(fu pr on:Bool)(Q:Res->Prop):(nfun true CWrong Tryz.f99 (bodyOf Tryz.f99) [.agg [I6 k0,I6 bk,I6 f0,I6 f1,I6 f2,I6 t0,I6 t1,I6 t2,I6 pl,I6 c0,I6 c1,I6 c2,I6 dr, .bool fu,I6 fd, .bool pr,I6 sd,I6 ra,I6 bl,I6 nn,I6 sp, .bool on]] [] Q)=(Br (k0<1) (Q ⟨.ce (.bool true),false,[],[]⟩) (Br (k0>14) (Q ⟨.ce (.bool true),false,[],[]⟩) ((1<=k0/\k0<=6)/\∀(x1:Bool),x1=true->Bb (x1) (nice k0 f0 f1 f2 t0 t1 t2 c0 c1 c2 dr fd bl/\(∃(x:Bool),k0≠3->x=true)/\∀(x:Bool),(k0≠3->x=true)->Bb (!x) (Q ⟨.ce (.bool true),false,[],[]⟩) (Bb (k0 !=1) (Br (fd<1) (Q ⟨.ce (.bool true),false,[],[]⟩) (Br (fd>60000000) (Q ⟨.ce (.bool true),false,[],[]⟩) (Br (bl<0) (Q ⟨.ce (.bool true),false,[],[]⟩) (Q ⟨.ce (.bool (decide (bl>1000))),false,[],[]⟩)))) (Br (bl<0) (Q ⟨.ce (.bool true),false,[],[]⟩) (Q ⟨.ce (.bool (decide (bl>1000))),false,[],[]⟩)))) (Bb (k0==8) (Br (nn<3) (Q ⟨.ce (.bool true),false,[],[]⟩) (Br (nn>5) (Q ⟨.ce (.bool true),false,[],[]⟩) (Br (sp<0) (Q ⟨.ce (.bool true),false,[],[]⟩) (Q ⟨.ce (.bool (decide (sp>30000))),false,[],[]⟩)))) (Q ⟨.ce (.bool false),false,[],[]⟩))))):=by kernel_rfl
def SCheck(hargs:List HV)(pars:List (List HC)):SR:=match hargs,pars with
 |[.ce (.sl false ks l)],[]=>bif ksEq ks [4,4,4,4,4,4,4,4,4,4,4,4,4,0,4,0,4,4,4,4,4,0]then .all (niceL l/\l.length<=5) Int (fun _=>True) (fun x=>⟨.ce (I6 x),false,[],[]⟩)else .fail
 |_,_=> .fail
def tabCheck:List (FuncId×HL.Spec):=[(99,SWrong),(66,SMotion)]
def anCheck:LAnn:=⟨[0,2,3,9,10,11],[2],[],false⟩
def LCheck(v:LV):LR:=match v with
 |([.ce (.sl false ks l), .ce (.int .i64 r), .ce (.int .i64 last), .ce (.sl false ks2 l2), .ce (.int .i64 n), .ce (.int .i64 i)],[])=>bif ksEq ks [4,4,4,4,4,4,4,4,4,4,4,4,4,0,4,0,4,4,4,4,4,0]&&ksEq ks2 [4,4,4,4,4,4,4,4,4,4,4,4,4,0,4,0,4,4,4,4,4,0]then .alts (l2=l/\n=(l.length:Int)/\i=0/\last= -1/\niceL l/\l.length<=5) [(True, .exit 0,([.ce (I6 r)],[])),(True, .ret,([.ce (I6 1)],[])),(True, .ret,([.ce (I6 13)],[]))]else .fail
 |_=> .fail
noncomputable def CCheck:Ctx:=⟨Tryz.prog,gam tabCheck,Tryz.f65.ntmps,[(5,anCheck,LCheck)],[]⟩
theorem vbCheck(r last n i:Int)(l:LL)(K:HEx->LV->Prop):(nbodyT true CCheck anCheck (nthLoop Tryz.f65 0) (([.ce (.sl false [4,4,4,4,4,4,4,4,4,4,4,4,4,0,4,0,4,4,4,4,4,0] l), .ce (I6 r), .ce (I6 last), .ce (.sl false [4,4,4,4,4,4,4,4,4,4,4,4,4,0,4,0,4,4,4,4,4,0] l), .ce (I6 n), .ce (I6 i)],[])) K)=(Br (i<n) ((0<=i/\i<(l.length:Int))/\nice (el l i.toNat) (ec l i.toNat 2) (ec l i.toNat 3) (ec l i.toNat 4) (ec l i.toNat 5) (ec l i.toNat 6) (ec l i.toNat 7) (ec l i.toNat 9) (ec l i.toNat 10) (ec l i.toNat 11) (ec l i.toNat 12) (ec l i.toNat 14) (ec l i.toNat 18)/\(∃(x:Bool),True)/\∀(x:Bool),True->Bb (x) (K .ret ([.ce (I6 1)],[])) ((1<=el l i.toNat/\el l i.toNat<=6)/\∀(x2:Bool),x2=true->Bb (!x2) (R6 (i+1)/\∀x3,x3=i+1->K .normal ([.ce (.sl false [4,4,4,4,4,4,4,4,4,4,4,4,4,0,4,0,4,4,4,4,4,0] l), .ce (I6 r), .ce (I6 last), .ce (.sl false [4,4,4,4,4,4,4,4,4,4,4,4,4,0,4,0,4,4,4,4,4,0] l), .ce (I6 n), .ce (I6 x3)],[])) (Br (last>=0) ((0<=last/\last<(l.length:Int))/\Bb (!(ec l last.toNat 5==ec l i.toNat 2&&(ec l last.toNat 6==ec l i.toNat 3&&(ec l last.toNat 7==ec l i.toNat 4&&true)))) (K .ret ([.ce (I6 13)],[])) (R6 (i+1)/\∀x4,x4=i+1->K .normal ([.ce (.sl false [4,4,4,4,4,4,4,4,4,4,4,4,4,0,4,0,4,4,4,4,4,0] l), .ce (I6 r), .ce (I6 i), .ce (.sl false [4,4,4,4,4,4,4,4,4,4,4,4,4,0,4,0,4,4,4,4,4,0] l), .ce (I6 n), .ce (I6 x4)],[]))) (R6 (i+1)/\∀x5,x5=i+1->K .normal ([.ce (.sl false [4,4,4,4,4,4,4,4,4,4,4,4,4,0,4,0,4,4,4,4,4,0] l), .ce (I6 r), .ce (I6 i), .ce (.sl false [4,4,4,4,4,4,4,4,4,4,4,4,4,0,4,0,4,4,4,4,4,0] l), .ce (I6 n), .ce (I6 x5)],[]))))) (K (.exit 0) ([.ce (I6 r)],[]))):=by kernel_rfl
theorem vcCheck(l:LL)(Q:Res->Prop):(nfun true CCheck Tryz.f65 (bodyOf Tryz.f65) [.ce (.sl false [4,4,4,4,4,4,4,4,4,4,4,4,4,0,4,0,4,4,4,4,4,0] l)] [] Q)=(Br ((l.length:Int)>20000) (Q ⟨.ce (I6 10),false,[],[]⟩) ((l=l/\(l.length:Int)=(l.length:Int)/\(0:Int)=0/\(-1:Int)=(-1:Int)/\niceL l/\l.length<=5)/\(True->Q ⟨.ce (I6 0),false,[],[]⟩)/\(True->Q ⟨.ce (I6 1),false,[],[]⟩)/\(True->Q ⟨.ce (I6 13),false,[],[]⟩))):=by kernel_rfl
end Go.Proofs.YtoekmphdpepdbaaGreat
namespace U
open Go
theorem ptsOK_append{B:Int}{a b:LL}(ha:ptsOK B a)(hb:ptsOK B b):ptsOK B (a++b):=by
 intro j hj;unfold ec;by_cases h:j<a.length
 . have e:(a++b).getD j []=a.getD j []:=by rw[List.getD_eq_getElem?_getD,List.getElem?_append_left h,<-List.getD_eq_getElem?_getD]
   rw[e];exact ha j h
 . have e:(a++b).getD j []=b.getD (j-a.length) []:=by rw[List.getD_eq_getElem?_getD,List.getElem?_append_right (by omega),<-List.getD_eq_getElem?_getD]
   rw[e];exact hb _ (by rw[List.length_append]at hj;omega)
theorem ptsOK_take{B:Int}{a:LL}(n:Nat)(ha:ptsOK B a):ptsOK B (a.take n):=by
 intro j hj;rw[List.length_take]at hj;unfold ec;have e:(a.take n).getD j []=a.getD j []:=by rw[List.getD_eq_getElem?_getD,List.getElem?_take_of_lt (by omega),<-List.getD_eq_getElem?_getD]
 rw[e];exact ha j (by omega)
theorem ptsOK_drop{B:Int}{a:LL}(n:Nat)(ha:ptsOK B a):ptsOK B (a.drop n):=by
 intro j hj;rw[List.length_drop]at hj;unfold ec;have e:(a.drop n).getD j []=a.getD (n+j) []:=by rw[List.getD_eq_getElem?_getD,List.getElem?_drop,<-List.getD_eq_getElem?_getD]
 rw[e];exact ha (n+j) (by omega)
theorem ptTail{l A B:LL}{i:Int}(hi:0<=i/\i<(l.length:Int))(hn:niceL l)(hA:ptsOK 32768 A)(hB:ptsOK 32768 B)(lA:A.length<=70000)(lB:B.length<=128)(G:LL->Prop)(fin:∀y,y.length<=71000->ptsOK 32768 y->G y):((0+A.length)*24<=140737488355328/\0+A.length<=maxLen)/\((0:Int)<=i/\i<((l.length:Nat):Int))/\(b3 256 (ec l (Int.toNat i) 2) (ec l (Int.toNat i) 3) (ec l (Int.toNat i) 4)/\b3 256 (ec l (Int.toNat i) 5) (ec l (Int.toNat i) 6) (ec l (Int.toNat i) 7))/\∀(x12:Int),x12=(ec l (Int.toNat i) 2+ec l (Int.toNat i) 5)*8->∀(x13:Int),x13=(ec l (Int.toNat i) 3+ec l (Int.toNat i) 6)*8->∀(x14:Int),x14=(ec l (Int.toNat i) 4+ec l (Int.toNat i) 7)*8->((([]++A).length+1)*24<=140737488355328/\([]++A).length+1<=maxLen)/\((([]++A++[[x12,x13,x14]]).length+B.length)*24<=140737488355328/\([]++A++[[x12,x13,x14]]).length+B.length<=maxLen)/\G ([]++A++[[x12,x13,x14]]++B):=by
 obtain⟨_,hf,ht,_⟩:=hn i.toNat (by omega);have e1:([]++A).length=A.length:=by simp
 refine⟨⟨by omega,by unfold maxLen;omega⟩,hi,⟨hf,ht⟩,fun x12 e12 x13 e13 x14 e14=> ?_⟩;have e2:([]++A++[[x12,x13,x14]]).length=A.length+1:=by simp
 rw[e1,e2];refine⟨⟨by omega,by unfold maxLen;omega⟩,⟨by omega,by unfold maxLen;omega⟩,fin _ ?_ ?_⟩
 . rw[List.length_append,e2];omega
 . exact ptsOK_append (ptsOK_app (by rw[List.nil_append];exact hA) (by unfold b3 at hf ht⊢;omega)) hB
end U
namespace Go.Proofs.YtoekmphdpepdbaaGreat
open Go Go.HL U
attribute [local irreducible] hfun bodyT fragT
theorem sSmooth:Sound Tryz.prog 102 SSmooth:=by
 refine sound_of (C:=CSmooth) [] Tryz.func102 (by kernel_rfl) (by decide+kernel) (by kernel_rfl) rfl trivial (loops0 (by kernel_rfl)) ?_;intro hargs pars R h;unfold SSmooth at h;split at h;case h_2=>exfalso;exact h
 rename_i k0 bk f0 f1 f2 t0 t1 t2 pl c0 c1 c2 dr fu fd pr sd ra bl nn sp on;obtain⟨_,_,hR⟩:=h;refine byVC (vcSmooth k0 bk f0 f1 f2 t0 t1 t2 pl c0 c1 c2 dr fd sd ra bl nn sp fu pr on R) ⟨fun g=>hR _ fun _=>by simpa using g,fun _=>hR false fun e=>(by cases e)⟩
theorem sCenter:Sound Tryz.prog 104 SCenter:=by
 refine sound_of (C:=CCenter) [] Tryz.func104 (by kernel_rfl) (by decide+kernel) (by kernel_rfl) rfl trivial (loops0 (by kernel_rfl)) ?_;intro hargs pars R h;unfold SCenter at h;split at h;case h_2=>exfalso;exact h
 rename_i k0 bk f0 f1 f2 t0 t1 t2 pl c0 c1 c2 dr fu fd pr sd ra bl nn sp on;obtain⟨⟨hf,ht⟩,hq⟩:=h;unfold b3 at hf ht;refine byVC (vcCenter k0 bk f0 f1 f2 t0 t1 t2 pl c0 c1 c2 dr fd sd ra bl nn sp fu pr on R) ⟨by omega,?_⟩;rintro _ rfl;refine⟨by omega,?_⟩;rintro _ rfl;refine⟨by omega,?_⟩;rintro _ rfl;refine⟨by omega,?_⟩;rintro _ rfl;refine⟨by omega,?_⟩;rintro _ rfl;refine⟨by omega,?_⟩;rintro _ rfl;exact hq
theorem sRate:Sound Tryz.prog 69 SRate:=by
 refine sound_of (C:=CRate) tabRate Tryz.func69 (by kernel_rfl) (by decide+kernel) (by kernel_rfl) rfl ⟨sRnd,trivial⟩ (loops0 (by kernel_rfl)) ?_;intro hargs pars R h;unfold SRate at h;split at h;case h_2=>exfalso;exact h
 rename_i k0 bk f0 f1 f2 t0 t1 t2 pl c0 c1 c2 dr fu fd pr sd ra bl nn sp on s;obtain⟨⟨hfd,rfl⟩,_,hR⟩:=h;have rb:∀x y:Int,(0<=x/\x<=245760000000)->y=rnd x 60000->0<=y/\y<=4096001:=fun x y hx e=>by
  unfold rnd at e;omega
 refine byVC (vcRate 0 k0 bk f0 f1 f2 t0 t1 t2 pl c0 c1 c2 dr fd sd ra bl nn sp fu pr on R) ⟨fun _=>hR 0 (by decide),fun _=>⟨fun _ x1 e1=> ?_,fun _ x8 e8=> ?_⟩⟩
 . have:x1=1:=by omega
   subst this;refine⟨by omega,fun x2 e2 x3 e3=>⟨by omega,fun x4 e4=>⟨by omega,fun x5 e5=>⟨by omega,fun x6 e6 x7 e7=>hR x7 ?_⟩⟩⟩⟩;have:=rb x5 x6 (by omega) e6;omega
 . refine⟨by omega,fun x4 e4=>⟨by omega,fun x5 e5=>⟨by omega,fun x6 e6 x7 e7=>hR x7 ?_⟩⟩⟩;have:=rb x5 x6 (by omega) e6;omega
theorem sSync:Sound Tryz.prog 70 SSync:=by
 refine sound_of (C:=CSync) [] Tryz.func70 (by kernel_rfl) (by decide+kernel) (by kernel_rfl) rfl trivial (loops0 (by kernel_rfl)) ?_;intro hargs pars R h;unfold SSync at h;split at h;case h_2=>exfalso;exact h
 rename_i k0 bk f0 f1 f2 t0 t1 t2 pl c0 c1 c2 dr fu fd pr sd ra bl nn sp on;obtain⟨hk,hq⟩:=h;refine byVC (vcSync k0 bk f0 f1 f2 t0 t1 t2 pl c0 c1 c2 dr fd sd ra bl nn sp fu pr on R) ⟨fun g=> ?_,fun _=> ?_⟩
 . have:k0=5:=by simpa using g
   omega
 . have:(k0==6)=false:=by simp;omega
   rw[this];exact hq
theorem loopSoft:∀v Q,(LSoft v).wp Q->hloop CSoft anSoft (nthLoop Tryz.f73 0) v Q:=by
 intro v Q h;unfold LSoft at h;split at h;case h_2=>exact h.elim
 rename_i ks l z k;cases hks:ksEq ks [4,4,4,4,4,4,4,4,4,4,4,4,4,0,4,0,4,4,4,4,4,0]
 . rw[hks]at h;exact h.elim
 rw[hks]at h;obtain rfl:=ksEq_eq hks;obtain⟨⟨hk,hn,hl⟩,q0,q1,q2⟩:=h;refine hloop_rec (σ:=Unit) (fun _=>([.ce (.sl false [4,4,4,4,4,4,4,4,4,4,4,4,4,0,4,0,4,4,4,4,4,0] l), .ce (I6 z), .ce (I6 k)],[])) (fun _=>0) (fun _=>True) ?_ () trivial;intro _ _ K _ hx hr;refine byVB (vbSoft z k l K) ⟨fun g=> ?_,fun _=>hx _ _ (q0 trivial)⟩;have g:=odt g;have nk:=(hn k.toNat (by omega)).1;have nk:1<=el l k.toNat/\el l k.toNat<=3:=nk;refine⟨⟨hk,g⟩,fun x1 e1=>⟨fun g10=> ?_,fun _=>⟨⟨hk,g⟩,trivial,⟨false,fun e=>(by cases e)⟩,fun x _=>⟨fun _=> ?_,fun _=> ?_⟩⟩⟩⟩
 . have:x1=10:=by simpa using g10
   omega
 . exact hr _ (q2 g)
 . exact hr _ (q1 trivial)
theorem sSoft:Sound Tryz.prog 73 SSoft:=by
 refine sound_of (C:=CSoft) tabSoft Tryz.func73 (by kernel_rfl) (by decide+kernel) (by kernel_rfl) rfl ⟨sSmooth,trivial⟩ (loops1 (by kernel_rfl) (loopOK_of (an:=anSoft) (S:=LSoft) (by kernel_rfl) loopSoft)) ?_;intro hargs pars R h;unfold SSoft at h;split at h;case h_2=>exfalso;exact h
 rename_i ks l i;cases hks:ksEq ks [4,4,4,4,4,4,4,4,4,4,4,4,4,0,4,0,4,4,4,4,4,0]
 . rw[hks]at h;exact h.elim
 rw[hks]at h;obtain rfl:=ksEq_eq hks;obtain⟨⟨hi,hn,hl⟩,_,hR⟩:=h;have m1:R ⟨.ce (I6 (-1)),false,[],[]⟩:=hR (-1) (by omega);refine byVC (vcSoft i l R) ⟨hi,trivial,⟨false,fun e=>(by cases e)⟩,fun x _=>⟨fun _=>m1,fun _=>⟨hi,fun x2 _=>⟨fun _=>m1,fun _=>⟨by omega,fun x3 e3=>⟨⟨by omega,hn,hl⟩,fun _=>m1,fun _=>m1,fun g=>hR x3 (by omega)⟩⟩⟩⟩⟩⟩
theorem loopKind:∀v Q,(LKind v).wp Q->hloop CKind anSoft (nthLoop Tryz.f74 0) v Q:=by
 intro v Q h;unfold LKind at h;split at h;case h_2=>exact h.elim
 rename_i ks l z k;cases hks:ksEq ks [4,4,4,4,4,4,4,4,4,4,4,4,4,0,4,0,4,4,4,4,4,0]
 . rw[hks]at h;exact h.elim
 rw[hks]at h;obtain rfl:=ksEq_eq hks;obtain⟨⟨hk,hn,hl⟩,hq⟩:=h;refine hloop_rec (σ:=Unit) (fun _=>([.ce (.sl false [4,4,4,4,4,4,4,4,4,4,4,4,4,0,4,0,4,4,4,4,4,0] l), .ce (I6 z), .ce (I6 k)],[])) (fun _=>0) (fun _=>True) ?_ () trivial;intro _ _ K _ hx hr;refine byVB (vbKind z k l K) ⟨fun g=> ?_,fun _=>hx _ _ hq⟩;have g:=odt g;have nk:=(hn k.toNat (by omega)).1;have nk:1<=el l k.toNat/\el l k.toNat<=3:=nk;refine⟨⟨hk,g⟩,fun x1 e1=>⟨by omega,?_⟩⟩;rintro _ rfl;refine⟨fun _=>⟨⟨hk,g⟩,nk,?_⟩,fun e=>by cases e⟩;rintro _ rfl;exact⟨fun e=>(by cases e),fun _=>hx _ _ hq⟩
theorem sKind:Sound Tryz.prog 74 SKind:=by
 refine sound_of (C:=CKind) tabKind Tryz.func74 (by kernel_rfl) (by decide+kernel) (by kernel_rfl) rfl ⟨sSync,sMotion,trivial⟩ (loops1 (by kernel_rfl) (loopOK_of (an:=anSoft) (S:=LKind) (by kernel_rfl) loopKind)) ?_;intro hargs pars R h;unfold SKind at h;split at h;case h_2=>exfalso;exact h
 rename_i ks l i;cases hks:ksEq ks [4,4,4,4,4,4,4,4,4,4,4,4,4,0,4,0,4,4,4,4,4,0]
 . rw[hks]at h;exact h.elim
 rw[hks]at h;obtain rfl:=ksEq_eq hks;obtain⟨⟨hi,hn,hl⟩,_,hR⟩:=h;have nk:=(hn i.toNat (by omega)).1;have nk:1<=el l i.toNat/\el l i.toNat<=3:=nk;refine byVC (vcKind i l R) ⟨hi,fun x1 _=>⟨fun _=>hR 6 trivial,fun _=>⟨hi,fun x2 _=>⟨fun _=>hR 1 trivial,fun _=>⟨hi,nk,fun x3 _=>⟨fun _=>hR 1 trivial,fun _=>⟨by omega,fun x4 e4=>⟨⟨by omega,hn,hl⟩,hR 2 trivial⟩⟩⟩⟩⟩⟩⟩⟩
theorem sJoined:Sound Tryz.prog 103 SJoined:=by
 refine sound_of (C:=CJoined) tabJoined Tryz.func103 (by kernel_rfl) (by decide+kernel) (by kernel_rfl) rfl ⟨sCenter,sFine,sCorner,trivial⟩ (loops0 (by kernel_rfl)) ?_;intro hargs pars R h;unfold SJoined at h;split at h;case h_2=>exfalso;exact h
 rename_i ks l i k;cases hks:ksEq ks [4,4,4,4,4,4,4,4,4,4,4,4,4,0,4,0,4,4,4,4,4,0]
 . rw[hks]at h;exact h.elim
 rw[hks]at h;obtain rfl:=ksEq_eq hks;obtain⟨⟨hi,hk,hn⟩,_,hR⟩:=h;obtain⟨_,hf,ht,_,_,_,hb⟩:=hn i.toNat (by omega);obtain⟨_,hf2,ht2,_⟩:=hn k.toNat (by omega);refine byVC (vcJoined i k l R) ⟨hi,⟨hf,ht⟩,fun x1 e1 x2 e2 x3 e3=>⟨hi,b3_mono (by decide) ht,fun x4 e4 x5 e5 x6 e6=>⟨hk,⟨hf2,ht2⟩,fun x7 e7 x8 e8 x9 e9=>⟨hi,fun x10 e10=>⟨by omega,fun x11 e11=>⟨⟨⟨?_,?_,?_⟩,by omega,by omega⟩,⟨[[0,0,0]],⟨Nat.le_refl 1,show(1:Nat)<=128 by decide⟩,ptsOK_app ptsOK_nil (b3_zero (by decide))⟩,fun x hx=>hR x hx⟩⟩⟩⟩⟩⟩;all_goals(unfold b3 at*;omega)
theorem sPoints:Sound Tryz.prog 71 SPoints:=by
 refine sound_of (C:=CPoints) tabPoints Tryz.func71 (by kernel_rfl) (by decide+kernel) (by kernel_rfl) rfl ⟨sChords,sSmooth,sJoined,sSoft,sCenter,trivial⟩ (loops0 (by kernel_rfl)) ?_;intro hargs pars R h;unfold SPoints at h;split at h;case h_2=>exfalso;exact h
 rename_i ks l i f;cases hks:ksEq ks [4,4,4,4,4,4,4,4,4,4,4,4,4,0,4,0,4,4,4,4,4,0]
 . rw[hks]at h;exact h.elim
 rw[hks]at h;obtain rfl:=ksEq_eq hks;obtain⟨⟨hi,hf,hn,hl⟩,_,hR⟩:=h;have z0:ptsOK 32768 [[0,0,0]]:=ptsOK_app ptsOK_nil (b3_zero (by decide));have ex:∃x:LL,(1<=x.length/\x.length<=128)/\ptsOK 32768 x:=⟨[[0,0,0]],⟨Nat.le_refl 1,show(1:Nat)<=128 by decide⟩,z0⟩;have exs:∃x:Int,-1<=x/\x<(l.length:Int):=⟨-1,by omega⟩;refine byVC (vcPoints i f l R) ⟨hi,hn i.toNat (by omega),⟨([[0,0,0],[0,0,0]],false),fun _=>rfl,ptsOK_append z0 z0,show(2:Nat)<=70000 by decide⟩,fun x hx=>⟨hi,trivial,⟨false,fun e=>(by cases e)⟩,fun s hs=>⟨fun _=>hR (x.1,false) ⟨by show x.1.length<=71000;have:=hx.2.2;omega,hx.2.1⟩,fun g=> ?_⟩⟩⟩;have sT:s=true:=by simpa using g
 have k2:=hs sT;have l2:=hx.1 (by omega);have fin:∀y:LL,y.length<=71000->ptsOK 32768 y->R ⟨.ce (.sl false [4,4,4] y),true,[],[]⟩:=fun y h1 h2=>hR (y,true) ⟨h1,h2⟩;have tl:∀(y:LL)(n:Nat),(y.take n).length<=y.length:=fun y n=>by rw[List.length_take];omega
 have dl:∀(y:LL)(n:Nat),(y.drop n).length<=y.length:=fun y n=>by rw[List.length_drop];omega
 refine⟨by omega,by omega,fun gf=> ?_,fun _=> ?_⟩
 . have gf:=odt gf;refine⟨⟨by omega,hi,hn⟩,ex,fun c hc=> ?_⟩;rw[tdiv_pos (Int.natCast_nonneg _)];refine⟨by decide,by omega,fun x4 e4=>⟨by omega,⟨hi,hn,hl⟩,exs,fun k hk=>⟨fun gk=> ?_,fun _=> ?_⟩⟩⟩
   . have gk:=odt gk;refine⟨⟨hi,by omega,hn⟩,ex,fun c2 hc2=> ?_⟩;rw[tdiv_pos (Int.natCast_nonneg _)];refine⟨by decide,by omega,fun x7 e7=>⟨by omega,fun x8 e8=>⟨by omega,?_⟩⟩⟩;exact ptTail hi hn (ptsOK_drop _ hc.2) (ptsOK_take _ hc2.2) (by have:=dl c x4.toNat;omega) (by have:=tl c2 x8.toNat;omega) _ fin
   . exact ptTail hi hn (ptsOK_drop _ hc.2) (ptsOK_drop _ hx.2.1) (by have:=dl c x4.toNat;omega) (by have:=dl x.1 1;omega) _ fin
 . refine⟨⟨hi,hn,hl⟩,exs,fun k hk=>⟨fun gk=> ?_,fun _=> ?_⟩⟩
   . have gk:=odt gk;refine⟨⟨hi,by omega,hn⟩,ex,fun c2 hc2=> ?_⟩;rw[tdiv_pos (Int.natCast_nonneg _)];refine⟨by decide,by omega,fun x7 e7=>⟨by omega,fun x8 e8=>⟨by omega,?_⟩⟩⟩;exact ptTail hi hn (ptsOK_take _ hx.2.1) (ptsOK_take _ hc2.2) (by have:=tl x.1 1;omega) (by have:=tl c2 x8.toNat;omega) _ fin
   . exact ptTail hi hn (ptsOK_take _ hx.2.1) (ptsOK_drop _ hx.2.1) (by have:=tl x.1 1;omega) (by have:=dl x.1 1;omega) _ fin
theorem sWrong:Sound Tryz.prog 99 SWrong:=by
 refine sound_of (C:=CWrong) tabWrong Tryz.func99 (by kernel_rfl) (by decide+kernel) (by kernel_rfl) rfl ⟨sMotion,sValid,trivial⟩ (loops0 (by kernel_rfl)) ?_;intro hargs pars R h;unfold SWrong at h;split at h;case h_2=>exfalso;exact h
 rename_i k0 bk f0 f1 f2 t0 t1 t2 pl c0 c1 c2 dr fu fd pr sd ra bl nn sp on;obtain⟨hn,_,hR⟩:=h;have any:∀b,R ⟨.ce (.bool b),false,[],[]⟩:=fun b=>hR b trivial;have hk:=hn.1;refine byVC (vcWrong k0 bk f0 f1 f2 t0 t1 t2 pl c0 c1 c2 dr fd sd ra bl nn sp fu pr on R) ?_;repeat' first
  |exact any _
  |exact hn
  |exact⟨true,fun _=>rfl⟩
  |(refine And.intro ?_ ?_)
  |(intro hx)
  |omega
theorem loopCheck:∀v Q,(LCheck v).wp Q->hloop CCheck anCheck (nthLoop Tryz.f65 0) v Q:=by
 intro v Q h;unfold LCheck at h;split at h;case h_2=>exact h.elim
 rename_i ks l r last ks2 l2 n i;cases hks:ksEq ks [4,4,4,4,4,4,4,4,4,4,4,4,4,0,4,0,4,4,4,4,4,0]
 . rw[hks]at h;exact h.elim
 cases hks2:ksEq ks2 [4,4,4,4,4,4,4,4,4,4,4,4,4,0,4,0,4,4,4,4,4,0]
 . rw[hks,hks2]at h;exact h.elim
 rw[hks,hks2]at h;obtain rfl:=ksEq_eq hks;obtain rfl:=ksEq_eq hks2;obtain⟨⟨h1,h2,h3,h4,hn,hl⟩,q0,q1,q2⟩:=h;subst h1 h2 h3 h4;refine hloop_rec (σ:=Int×Nat) (fun s=>([.ce (.sl false [4,4,4,4,4,4,4,4,4,4,4,4,4,0,4,0,4,4,4,4,4,0] l2), .ce (I6 r), .ce (I6 s.1), .ce (.sl false [4,4,4,4,4,4,4,4,4,4,4,4,4,0,4,0,4,4,4,4,4,0] l2), .ce (I6 (l2.length:Int)), .ce (I6 (s.2:Int))],[])) (fun s=>l2.length-s.2) (fun s=>(-1<=s.1/\s.1<(l2.length:Int))/\s.2<=l2.length) ?_ (-1,0) ⟨by dsimp only;omega,Nat.zero_le _⟩;rintro⟨last,i⟩⟨hl1,hi⟩K hnx hx hr;dsimp only at hl1 hi hnx⊢;refine byVB (vbCheck r last l2.length i l2 K) ⟨fun g=> ?_,fun _=>hx _ _ (q0 trivial)⟩;have g:=odt g;have ht:Int.toNat (i:Int)=i:=rfl;rw[ht];have nk:=(hn i (by omega)).1;have nk:1<=el l2 i/\el l2 i<=3:=nk;have nx:∀t:Int,(-1<=t/\t<(l2.length:Int))->∀y:Int,y=(i:Int)+1->K .normal ([.ce (.sl false [4,4,4,4,4,4,4,4,4,4,4,4,4,0,4,0,4,4,4,4,4,0] l2), .ce (I6 r), .ce (I6 t), .ce (.sl false [4,4,4,4,4,4,4,4,4,4,4,4,4,0,4,0,4,4,4,4,4,0] l2), .ce (I6 (l2.length:Int)), .ce (I6 y)],[]):=fun t h1 y e=>by
  rw[show y=((i+1:Nat):Int)by omega];exact hnx (t,i+1) ⟨h1,by dsimp only;omega⟩ (by dsimp only;omega)
 refine⟨by omega,hn i (by omega),⟨true,trivial⟩,fun x _=>⟨fun _=>hr _ (q1 trivial),fun _=>⟨by omega,fun x2 _=>⟨fun _=>⟨by omega,fun y e=>nx last hl1 y e⟩,fun _=>⟨fun gl=>⟨?_,fun _=>hr _ (q2 trivial),fun _=>⟨by omega,fun y e=>nx i (by omega) y e⟩⟩,fun _=>⟨by omega,fun y e=>nx i (by omega) y e⟩⟩⟩⟩⟩⟩;have gl:=odt gl;omega
theorem sCheck:Sound Tryz.prog 65 SCheck:=by
 refine sound_of (C:=CCheck) tabCheck Tryz.func65 (by kernel_rfl) (by decide+kernel) (by kernel_rfl) rfl ⟨sWrong,sMotion,trivial⟩ (loops1 (by kernel_rfl) (loopOK_of (an:=anCheck) (S:=LCheck) (by kernel_rfl) loopCheck)) ?_;intro hargs pars R h;unfold SCheck at h;split at h;case h_2=>exfalso;exact h
 rename_i ks l;cases hks:ksEq ks [4,4,4,4,4,4,4,4,4,4,4,4,4,0,4,0,4,4,4,4,4,0]
 . rw[hks]at h;exact h.elim
 rw[hks]at h;obtain rfl:=ksEq_eq hks;obtain⟨⟨hn,hl⟩,_,hR⟩:=h;exact byVC (vcCheck l R) ⟨fun _=>hR 10 trivial,fun _=>⟨⟨rfl,rfl,rfl,rfl,hn,hl⟩,fun _=>hR 0 trivial,fun _=>hR 1 trivial,fun _=>hR 13 trivial⟩⟩
end Go.Proofs.YtoekmphdpepdbaaGreat
namespace U
open Go
def okSegs(s0 s1 s2:Int)(sg:LL):Prop:=∀j,j<sg.length->b3 32768 (ec sg j 0) (ec sg j 1) (ec sg j 2)/\(1<=ec sg j 3/\ec sg j 3<=131072)/\b3 (ec sg j 3) (ec sg j 0-bgn s0 sg 0 j) (ec sg j 1-bgn s1 sg 1 j) (ec sg j 2-bgn s2 sg 2 j)
def lastAt(s0 s1 s2:Int)(sg:LL)(a0 a1 a2:Int):Prop:=a0=bgn s0 sg 0 sg.length/\a1=bgn s1 sg 1 sg.length/\a2=bgn s2 sg 2 sg.length
structure BSt where
 a0:Int
 a1:Int
 a2:Int
 n:Int
 s0:Int
 s1:Int
 s2:Int
 sg:LL
 mks:LL
 fr:Int
 bg:Bool
def okB(m:Nat)(x:BSt):Prop:=b3 32768 x.a0 x.a1 x.a2/\b3 32768 x.s0 x.s1 x.s2/\okSegs x.s0 x.s1 x.s2 x.sg/\lastAt x.s0 x.s1 x.s2 x.sg x.a0 x.a1 x.a2/\x.n=plen x.sg/\x.sg.length<=m/\x.mks.length<=10
def okPath(s0 s1 s2:Int)(sg mk:LL):Prop:=b3 32768 s0 s1 s2/\okSegs s0 s1 s2 sg/\sg.length<=355000/\mk.length<=10
end U
namespace Go.Proofs.YtoekmphdpepdbaaGreat
open Go Go.HL U
def SOther(hA:List HV)(pA:List (List HC)):SR:=match hA,pA with
 |[.agg [.int .i64 k0, .int .i64 bk, .int .i64 f0, .int .i64 f1, .int .i64 f2, .int .i64 t0, .int .i64 t1, .int .i64 t2, .int .i64 pl, .int .i64 c0, .int .i64 c1, .int .i64 c2, .int .i64 dr, .bool fu, .int .i64 fd, .bool pr, .int .i64 sd, .int .i64 ra, .int .i64 bl, .int .i64 nn, .int .i64 sp, .bool on]],[]=> .all True Int (fun _=>True) (fun x=>⟨.ce (I6 x),false,[],[]⟩)
 |_,_=> .fail
noncomputable def COther:Ctx:=⟨Tryz.prog,gam [],Tryz.f67.ntmps,[],[]⟩
theorem vcOther(k0 bk f0 f1 f2 t0 t1 t2 pl c0 c1 c2 dr fd sd ra bl nn sp:Int)(fu pr on:Bool)(Q:Res->Prop):(nfun true COther Tryz.f67 (bodyOf Tryz.f67) [.agg [I6 k0,I6 bk,I6 f0,I6 f1,I6 f2,I6 t0,I6 t1,I6 t2,I6 pl,I6 c0,I6 c1,I6 c2,I6 dr, .bool fu,I6 fd, .bool pr,I6 sd,I6 ra,I6 bl,I6 nn,I6 sp, .bool on]] [] Q)=(Bb (k0==10) (Q ⟨.ce (I6 5),false,[],[]⟩) (Bb (k0==13) (Q ⟨.ce (I6 4),false,[],[]⟩) (Q ⟨.ce (I6 3),false,[],[]⟩))):=by kernel_rfl
def tabBuild:List (FuncId×HL.Spec):=[(65,SCheck),(66,SMotion),(67,SOther),(68,SFine),(69,SRate),(70,SSync),(71,SPoints),(72,SLength),(73,SSoft),(74,SKind)]
def anB0:LAnn:=⟨[0,2,3,5,6,7,8,9,10,23,24,25],[2,3,5],[1000002,1000005,1000006],false⟩
def anB1:LAnn:=⟨[0,2,3,5,6,7,8,10,11,12,13,23,24,25,83,84,85],[0,2,3,5,6,7,8,10,11,12,23,24,25],[1000002,1000005,1000006,1000012,1000013],false⟩
def LB0(v:LV):LR:=match v with
 |([.ce (.sl false ks l), .ce (.ptr 1000002 0), .ce (.int .i64 r), .ce (.ptr 1000005 0), .ce (.ptr 1000006 0), .ce (.int .i64 n), .ce (.int .i64 s), .ce (.int .i64 fr), .ce (.bool bg), .ce (.sl false ks2 l2), .ce (.int .i64 m), .ce (.int .i64 i)],[rb,pb,ab])=>bif ksEq ks [4,4,4,4,4,4,4,4,4,4,4,4,4,0,4,0,4,4,4,4,4,0]&&ksEq ks2 [4,4,4,4,4,4,4,4,4,4,4,4,4,0,4,0,4,4,4,4,4,0]then match rb with
  |[.int .i64 z0, .int .i64 z1, .int .i64 z2, .sl true [4,4,4,4,4,4,4] zs, .sl true [4,4,4] zm]=>match pb with
   |[.int .i64 s0, .int .i64 s1, .int .i64 s2, .sl true [4,4,4,4,4,4,4] sg, .sl true [4,4,4] mk]=>match ab with
    |[.int .i64 a0, .int .i64 a1, .int .i64 a2]=> .all (l2=l/\m=(l.length:Int)/\niceL l/\l.length<=5/\i=0/\s=0/\fr= -1/\bg=false/\mk.length=0/\okB 0 ⟨a0,a1,a2,n,s0,s1,s2,sg,mk,-1,false⟩) BSt (okB 355000) (fun _=> .exit 0) (fun x=>([.ce (.ptr 1000002 0), .ce (I6 r), .ce (.ptr 1000005 0)],[[I6 z0,I6 z1,I6 z2, .sl true [4,4,4,4,4,4,4] zs, .sl true [4,4,4] zm],[I6 x.s0,I6 x.s1,I6 x.s2, .sl true [4,4,4,4,4,4,4] x.sg, .sl true [4,4,4] x.mks],[I6 x.a0,I6 x.a1,I6 x.a2]]))
    |_=> .fail
   |_=> .fail
  |_=> .fail else .fail
 |_=> .fail
def LB1(v:LV):LR:=match v with
 |([.ce (.sl false ks l), .ce (.ptr 1000002 0), .ce (.int .i64 r), .ce (.ptr 1000005 0), .ce (.ptr 1000006 0), .ce (.int .i64 n), .ce (.int .i64 s), .ce (.bool bg), .ce (.int .i64 ix), .ce (.ptr 1000012 0), .ce (.ptr 1000013 0), .ce (.sl false ks2 l2), .ce (.int .i64 m), .ce (.int .i64 i), .ce (.sl false [4,4,4] q), .ce (.int .i64 qn), .ce (.int .i64 j)],[rb,pb,ab,ib,gb])=>bif ksEq ks [4,4,4,4,4,4,4,4,4,4,4,4,4,0,4,0,4,4,4,4,4,0]&&ksEq ks2 [4,4,4,4,4,4,4,4,4,4,4,4,4,0,4,0,4,4,4,4,4,0]then match rb with
  |[.int .i64 z0, .int .i64 z1, .int .i64 z2, .sl true [4,4,4,4,4,4,4] zs, .sl true [4,4,4] zm]=>match pb with
   |[.int .i64 s0, .int .i64 s1, .int .i64 s2, .sl true [4,4,4,4,4,4,4] sg, .sl true [4,4,4] mk]=>match ab with
    |[.int .i64 a0, .int .i64 a1, .int .i64 a2]=>match gb with
     |[.int .i64 g0, .int .i64 g1, .int .i64 g2, .int .i64 g3, .int .i64 g4, .int .i64 g5, .int .i64 g6]=>match ib with
      |[.int .i64 k0, .int .i64 bk, .int .i64 f0, .int .i64 f1, .int .i64 f2, .int .i64 t0, .int .i64 t1, .int .i64 t2, .int .i64 pl, .int .i64 c0, .int .i64 c1, .int .i64 c2, .int .i64 dr, .bool fu, .int .i64 fd, .bool pr, .int .i64 sd, .int .i64 ra, .int .i64 bl, .int .i64 nn, .int .i64 sp, .bool on]=> .all (qn=(q.length:Int)/\j=0/\q.length<=71000/\ptsOK 32768 q/\okB 284000 ⟨a0,a1,a2,n,s0,s1,s2,sg,mk,-1,false⟩) (BSt×Int×Int×Int×Int) (fun x=>okB (sg.length+71000) x.1/\x.1.s0=s0/\x.1.s1=s1/\x.1.s2=s2/\x.1.mks=mk) (fun _=> .exit 2) (fun x=>([.ce (.sl false [4,4,4,4,4,4,4,4,4,4,4,4,4,0,4,0,4,4,4,4,4,0] l), .ce (.ptr 1000002 0), .ce (I6 r), .ce (.ptr 1000005 0), .ce (.ptr 1000006 0), .ce (I6 x.1.n), .ce (I6 s), .ce (.bool bg), .ce (I6 ix), .ce (.ptr 1000012 0), .ce (.sl false [4,4,4,4,4,4,4,4,4,4,4,4,4,0,4,0,4,4,4,4,4,0] l2), .ce (I6 m), .ce (I6 i)],[[I6 z0,I6 z1,I6 z2, .sl true [4,4,4,4,4,4,4] zs, .sl true [4,4,4] zm],[I6 x.1.s0,I6 x.1.s1,I6 x.1.s2, .sl true [4,4,4,4,4,4,4] x.1.sg, .sl true [4,4,4] x.1.mks],[I6 x.1.a0,I6 x.1.a1,I6 x.1.a2],[I6 k0,I6 bk,I6 f0,I6 f1,I6 f2,I6 t0,I6 t1,I6 t2,I6 pl,I6 c0,I6 c1,I6 c2,I6 dr, .bool fu,I6 fd, .bool pr,I6 sd,I6 ra,I6 bl,I6 nn,I6 sp, .bool on],[I6 x.2.1,I6 x.2.2.1,I6 x.2.2.2.1,I6 x.2.2.2.2,I6 g4,I6 g5,I6 g6]]))
      |_=> .fail
     |_=> .fail
    |_=> .fail
   |_=> .fail
  |_=> .fail else .fail
 |_=> .fail
def anK8:LAnn:=⟨[0,2,3,5,6,7,8,9,10,11,12,23,24,25],[0,2,3,5,6,7,8,9,10,11,12,23,24,25,42],[1000002,1000005,1000006,1000012],fun s=>Nat.beq s 42⟩
def LK8(v:LV):LR:=match v with
 |([.ce (.sl false ks l), .ce (.ptr 1000002 0), .ce (.int .i64 r), .ce (.ptr 1000005 0), .ce (.ptr 1000006 0), .ce (.int .i64 n), .ce (.int .i64 s), .ce (.int .i64 fr), .ce (.bool bg), .ce (.int .i64 ix), .ce (.ptr 1000012 0), .ce (.sl false ks2 l2), .ce (.int .i64 m), .ce (.int .i64 i)],[rb,pb,ab,ib])=>bif ksEq ks [4,4,4,4,4,4,4,4,4,4,4,4,4,0,4,0,4,4,4,4,4,0]&&ksEq ks2 [4,4,4,4,4,4,4,4,4,4,4,4,4,0,4,0,4,4,4,4,4,0]then match rb with
  |[.int .i64 z0, .int .i64 z1, .int .i64 z2, .sl true [4,4,4,4,4,4,4] zs, .sl true [4,4,4] zm]=>match pb with
   |[.int .i64 s0, .int .i64 s1, .int .i64 s2, .sl true [4,4,4,4,4,4,4] sg, .sl true [4,4,4] mk]=>match ab with
    |[.int .i64 a0, .int .i64 a1, .int .i64 a2]=>match ib with
     |[.int .i64 k0, .int .i64 bk, .int .i64 f0, .int .i64 f1, .int .i64 f2, .int .i64 t0, .int .i64 t1, .int .i64 t2, .int .i64 pl, .int .i64 c0, .int .i64 c1, .int .i64 c2, .int .i64 dr, .bool fu, .int .i64 fd, .bool pr, .int .i64 sd, .int .i64 ra, .int .i64 bl, .int .i64 nn, .int .i64 sp, .bool on]=> .det (k0≠8) .normal ([.ce (.sl false [4,4,4,4,4,4,4,4,4,4,4,4,4,0,4,0,4,4,4,4,4,0] l), .ce (.ptr 1000002 0), .ce (I6 r), .ce (.ptr 1000005 0), .ce (.ptr 1000006 0), .ce (I6 n), .ce (I6 s), .ce (I6 fr), .ce (.bool bg), .ce (I6 ix), .ce (.ptr 1000012 0), .ce (.sl false [4,4,4,4,4,4,4,4,4,4,4,4,4,0,4,0,4,4,4,4,4,0] l2), .ce (I6 m), .ce (I6 i), .ce (.lit false)],[[I6 z0,I6 z1,I6 z2, .sl true [4,4,4,4,4,4,4] zs, .sl true [4,4,4] zm],[I6 s0,I6 s1,I6 s2, .sl true [4,4,4,4,4,4,4] sg, .sl true [4,4,4] mk],[I6 a0,I6 a1,I6 a2],[I6 k0,I6 bk,I6 f0,I6 f1,I6 f2,I6 t0,I6 t1,I6 t2,I6 pl,I6 c0,I6 c1,I6 c2,I6 dr, .bool fu,I6 fd, .bool pr,I6 sd,I6 ra,I6 bl,I6 nn,I6 sp, .bool on]])
     |_=> .fail
    |_=> .fail
   |_=> .fail
  |_=> .fail else .fail
 |_=> .fail
noncomputable def CBuild:Ctx:=⟨Tryz.prog,gam tabBuild,Tryz.f36.ntmps,[(7,anB0,LB0),(19,anB1,LB1),(3000009,anK8,LK8)],[]⟩
theorem vgK8(r n s fr m i z0 z1 z2 s0 s1 s2 a0 a1 a2 ix:Int)(bg:Bool)(k0 bk f0 f1 f2 t0 t1 t2 pl c0 c1 c2 dr fd sd ra bl nn sp:Int)(fu pr on:Bool)(l l2 zs zm sg mk:LL)(K:HEx->LV->Prop):(nfragT true CBuild anK8 (nthFrag CBuild Tryz.f36 0) (([.ce (.sl false [4,4,4,4,4,4,4,4,4,4,4,4,4,0,4,0,4,4,4,4,4,0] l), .ce (.ptr 1000002 0), .ce (I6 r), .ce (.ptr 1000005 0), .ce (.ptr 1000006 0), .ce (I6 n), .ce (I6 s), .ce (I6 fr), .ce (.bool bg), .ce (I6 ix), .ce (.ptr 1000012 0), .ce (.sl false [4,4,4,4,4,4,4,4,4,4,4,4,4,0,4,0,4,4,4,4,4,0] l2), .ce (I6 m), .ce (I6 i)],[[I6 z0,I6 z1,I6 z2, .sl true [4,4,4,4,4,4,4] zs, .sl true [4,4,4] zm],[I6 s0,I6 s1,I6 s2, .sl true [4,4,4,4,4,4,4] sg, .sl true [4,4,4] mk],[I6 a0,I6 a1,I6 a2],[I6 k0,I6 bk,I6 f0,I6 f1,I6 f2,I6 t0,I6 t1,I6 t2,I6 pl,I6 c0,I6 c1,I6 c2,I6 dr, .bool fu,I6 fd, .bool pr,I6 sd,I6 ra,I6 bl,I6 nn,I6 sp, .bool on]])) K)=(Bb (k0==8) (Bb (nn==3) (K .normal ([.ce (.sl false [4,4,4,4,4,4,4,4,4,4,4,4,4,0,4,0,4,4,4,4,4,0] l), .ce (.ptr 1000002 0), .ce (I6 r), .ce (.ptr 1000005 0), .ce (.ptr 1000006 0), .ce (I6 n), .ce (I6 s), .ce (I6 fr), .ce (.bool bg), .ce (I6 ix), .ce (.ptr 1000012 0), .ce (.sl false [4,4,4,4,4,4,4,4,4,4,4,4,4,0,4,0,4,4,4,4,4,0] l2), .ce (I6 m), .ce (I6 i), .ce (.lit true)],[[I6 z0,I6 z1,I6 z2, .sl true [4,4,4,4,4,4,4] zs, .sl true [4,4,4] zm],[I6 s0,I6 s1,I6 s2, .sl true [4,4,4,4,4,4,4] sg, .sl true [4,4,4] mk],[I6 a0,I6 a1,I6 a2],[I6 k0,I6 bk,I6 f0,I6 f1,I6 f2,I6 t0,I6 t1,I6 t2,I6 pl,I6 c0,I6 c1,I6 c2,I6 dr, .bool fu,I6 fd, .bool pr,I6 sd,I6 ra,I6 bl,I6 nn,I6 sp, .bool on]])) (K .normal ([.ce (.sl false [4,4,4,4,4,4,4,4,4,4,4,4,4,0,4,0,4,4,4,4,4,0] l), .ce (.ptr 1000002 0), .ce (I6 r), .ce (.ptr 1000005 0), .ce (.ptr 1000006 0), .ce (I6 n), .ce (I6 s), .ce (I6 fr), .ce (.bool bg), .ce (I6 ix), .ce (.ptr 1000012 0), .ce (.sl false [4,4,4,4,4,4,4,4,4,4,4,4,4,0,4,0,4,4,4,4,4,0] l2), .ce (I6 m), .ce (I6 i), .ce (.bool (nn==4))],[[I6 z0,I6 z1,I6 z2, .sl true [4,4,4,4,4,4,4] zs, .sl true [4,4,4] zm],[I6 s0,I6 s1,I6 s2, .sl true [4,4,4,4,4,4,4] sg, .sl true [4,4,4] mk],[I6 a0,I6 a1,I6 a2],[I6 k0,I6 bk,I6 f0,I6 f1,I6 f2,I6 t0,I6 t1,I6 t2,I6 pl,I6 c0,I6 c1,I6 c2,I6 dr, .bool fu,I6 fd, .bool pr,I6 sd,I6 ra,I6 bl,I6 nn,I6 sp, .bool on]]))) (K .normal ([.ce (.sl false [4,4,4,4,4,4,4,4,4,4,4,4,4,0,4,0,4,4,4,4,4,0] l), .ce (.ptr 1000002 0), .ce (I6 r), .ce (.ptr 1000005 0), .ce (.ptr 1000006 0), .ce (I6 n), .ce (I6 s), .ce (I6 fr), .ce (.bool bg), .ce (I6 ix), .ce (.ptr 1000012 0), .ce (.sl false [4,4,4,4,4,4,4,4,4,4,4,4,4,0,4,0,4,4,4,4,4,0] l2), .ce (I6 m), .ce (I6 i), .ce (.lit false)],[[I6 z0,I6 z1,I6 z2, .sl true [4,4,4,4,4,4,4] zs, .sl true [4,4,4] zm],[I6 s0,I6 s1,I6 s2, .sl true [4,4,4,4,4,4,4] sg, .sl true [4,4,4] mk],[I6 a0,I6 a1,I6 a2],[I6 k0,I6 bk,I6 f0,I6 f1,I6 f2,I6 t0,I6 t1,I6 t2,I6 pl,I6 c0,I6 c1,I6 c2,I6 dr, .bool fu,I6 fd, .bool pr,I6 sd,I6 ra,I6 bl,I6 nn,I6 sp, .bool on]]))):=by kernel_rfl
theorem vbB1(r n s ix m i qn j z0 z1 z2 s0 s1 s2 a0 a1 a2 g0 g1 g2 g3 g4 g5 g6:Int)(k0 bk f0 f1 f2 t0 t1 t2 pl c0 c1 c2 dr fd sd ra bl nn sp:Int)(fu pr on:Bool)(bg:Bool)(l l2 q zs zm sg mk:LL)(K:HEx->LV->Prop):(nbodyT true CBuild anB1 (nthLoop Tryz.f36 1) (([.ce (.sl false [4,4,4,4,4,4,4,4,4,4,4,4,4,0,4,0,4,4,4,4,4,0] l), .ce (.ptr 1000002 0), .ce (I6 r), .ce (.ptr 1000005 0), .ce (.ptr 1000006 0), .ce (I6 n), .ce (I6 s), .ce (.bool bg), .ce (I6 ix), .ce (.ptr 1000012 0), .ce (.ptr 1000013 0), .ce (.sl false [4,4,4,4,4,4,4,4,4,4,4,4,4,0,4,0,4,4,4,4,4,0] l2), .ce (I6 m), .ce (I6 i), .ce (.sl false [4,4,4] q), .ce (I6 qn), .ce (I6 j)],[[I6 z0,I6 z1,I6 z2, .sl true [4,4,4,4,4,4,4] zs, .sl true [4,4,4] zm],[I6 s0,I6 s1,I6 s2, .sl true [4,4,4,4,4,4,4] sg, .sl true [4,4,4] mk],[I6 a0,I6 a1,I6 a2],[I6 k0,I6 bk,I6 f0,I6 f1,I6 f2,I6 t0,I6 t1,I6 t2,I6 pl,I6 c0,I6 c1,I6 c2,I6 dr, .bool fu,I6 fd, .bool pr,I6 sd,I6 ra,I6 bl,I6 nn,I6 sp, .bool on],[I6 g0,I6 g1,I6 g2,I6 g3,I6 g4,I6 g5,I6 g6]])) K)=(Br (j<qn) ((0<=j/\j<(q.length:Int))/\Bb (el q j.toNat==a0&&(ec q j.toNat 1==a1&&(ec q j.toNat 2==a2&&true))) (R6 (j+1)/\∀x1,x1=j+1->K .normal ([.ce (.sl false [4,4,4,4,4,4,4,4,4,4,4,4,4,0,4,0,4,4,4,4,4,0] l), .ce (.ptr 1000002 0), .ce (I6 r), .ce (.ptr 1000005 0), .ce (.ptr 1000006 0), .ce (I6 n), .ce (I6 s), .ce (.bool bg), .ce (I6 ix), .ce (.ptr 1000012 0), .ce (.ptr 1000013 0), .ce (.sl false [4,4,4,4,4,4,4,4,4,4,4,4,4,0,4,0,4,4,4,4,4,0] l2), .ce (I6 m), .ce (I6 i), .ce (.sl false [4,4,4] q), .ce (I6 qn), .ce (I6 x1)],[[I6 z0,I6 z1,I6 z2, .sl true [4,4,4,4,4,4,4] zs, .sl true [4,4,4] zm],[I6 s0,I6 s1,I6 s2, .sl true [4,4,4,4,4,4,4] sg, .sl true [4,4,4] mk],[I6 a0,I6 a1,I6 a2],[I6 k0,I6 bk,I6 f0,I6 f1,I6 f2,I6 t0,I6 t1,I6 t2,I6 pl,I6 c0,I6 c1,I6 c2,I6 dr, .bool fu,I6 fd, .bool pr,I6 sd,I6 ra,I6 bl,I6 nn,I6 sp, .bool on],[I6 g0,I6 g1,I6 g2,I6 g3,I6 g4,I6 g5,I6 g6]])) ((b3 268435456 a0 a1 a2/\b3 268435456 (el q j.toNat) (ec q j.toNat 1) (ec q j.toNat 2))/\(∃(x:Int),isLen a0 a1 a2 (el q j.toNat) (ec q j.toNat 1) (ec q j.toNat 2) x)/\∀(x:Int),isLen a0 a1 a2 (el q j.toNat) (ec q j.toNat 1) (ec q j.toNat 2) x->((sg.length+1)*56<=140737488355328/\sg.length+1<=maxLen)/\R6 (n+x)/\∀x3,x3=n+x->Br ((((List.length (sg++[[el q j.toNat,ec q j.toNat 1,ec q j.toNat 2,x,g4,g5,g6]])):Nat):Int)>1048576) (K .ret ([.ce (.sl false [4,4,4,4,4,4,4,4,4,4,4,4,4,0,4,0,4,4,4,4,4,0] l), .ce (.ptr 1000002 0), .ce (I6 10), .ce (.ptr 1000005 0), .ce (.ptr 1000006 0), .ce (I6 x3), .ce (I6 s), .ce (.bool bg), .ce (I6 ix), .ce (.ptr 1000012 0), .ce (.sl false [4,4,4,4,4,4,4,4,4,4,4,4,4,0,4,0,4,4,4,4,4,0] l2), .ce (I6 m), .ce (I6 i)],[[I6 0,I6 0,I6 0, .sl true [4,4,4,4,4,4,4] [], .sl true [4,4,4] []],[I6 s0,I6 s1,I6 s2, .sl true [4,4,4,4,4,4,4] (sg++[[el q j.toNat,ec q j.toNat 1,ec q j.toNat 2,x,g4,g5,g6]]), .sl true [4,4,4] mk],[I6 (el q j.toNat),I6 (ec q j.toNat 1),I6 (ec q j.toNat 2)],[I6 k0,I6 bk,I6 f0,I6 f1,I6 f2,I6 t0,I6 t1,I6 t2,I6 pl,I6 c0,I6 c1,I6 c2,I6 dr, .bool fu,I6 fd, .bool pr,I6 sd,I6 ra,I6 bl,I6 nn,I6 sp, .bool on],[I6 (el q j.toNat),I6 (ec q j.toNat 1),I6 (ec q j.toNat 2),I6 x,I6 g4,I6 g5,I6 g6]])) (R6 (j+1)/\∀x4,x4=j+1->K .normal ([.ce (.sl false [4,4,4,4,4,4,4,4,4,4,4,4,4,0,4,0,4,4,4,4,4,0] l), .ce (.ptr 1000002 0), .ce (I6 r), .ce (.ptr 1000005 0), .ce (.ptr 1000006 0), .ce (I6 x3), .ce (I6 s), .ce (.bool bg), .ce (I6 ix), .ce (.ptr 1000012 0), .ce (.ptr 1000013 0), .ce (.sl false [4,4,4,4,4,4,4,4,4,4,4,4,4,0,4,0,4,4,4,4,4,0] l2), .ce (I6 m), .ce (I6 i), .ce (.sl false [4,4,4] q), .ce (I6 qn), .ce (I6 x4)],[[I6 z0,I6 z1,I6 z2, .sl true [4,4,4,4,4,4,4] zs, .sl true [4,4,4] zm],[I6 s0,I6 s1,I6 s2, .sl true [4,4,4,4,4,4,4] (sg++[[el q j.toNat,ec q j.toNat 1,ec q j.toNat 2,x,g4,g5,g6]]), .sl true [4,4,4] mk],[I6 (el q j.toNat),I6 (ec q j.toNat 1),I6 (ec q j.toNat 2)],[I6 k0,I6 bk,I6 f0,I6 f1,I6 f2,I6 t0,I6 t1,I6 t2,I6 pl,I6 c0,I6 c1,I6 c2,I6 dr, .bool fu,I6 fd, .bool pr,I6 sd,I6 ra,I6 bl,I6 nn,I6 sp, .bool on],[I6 (el q j.toNat),I6 (ec q j.toNat 1),I6 (ec q j.toNat 2),I6 x,I6 g4,I6 g5,I6 g6]])))) (K (.exit 2) ([.ce (.sl false [4,4,4,4,4,4,4,4,4,4,4,4,4,0,4,0,4,4,4,4,4,0] l), .ce (.ptr 1000002 0), .ce (I6 r), .ce (.ptr 1000005 0), .ce (.ptr 1000006 0), .ce (I6 n), .ce (I6 s), .ce (.bool bg), .ce (I6 ix), .ce (.ptr 1000012 0), .ce (.sl false [4,4,4,4,4,4,4,4,4,4,4,4,4,0,4,0,4,4,4,4,4,0] l2), .ce (I6 m), .ce (I6 i)],[[I6 z0,I6 z1,I6 z2, .sl true [4,4,4,4,4,4,4] zs, .sl true [4,4,4] zm],[I6 s0,I6 s1,I6 s2, .sl true [4,4,4,4,4,4,4] sg, .sl true [4,4,4] mk],[I6 a0,I6 a1,I6 a2],[I6 k0,I6 bk,I6 f0,I6 f1,I6 f2,I6 t0,I6 t1,I6 t2,I6 pl,I6 c0,I6 c1,I6 c2,I6 dr, .bool fu,I6 fd, .bool pr,I6 sd,I6 ra,I6 bl,I6 nn,I6 sp, .bool on],[I6 g0,I6 g1,I6 g2,I6 g3,I6 g4,I6 g5,I6 g6]]))):=by kernel_rfl
theorem vbB0(r n s fr m i z0 z1 z2 s0 s1 s2 a0 a1 a2:Int)(bg:Bool)(l zs zm sg mk:LL)(K:HEx->LV->Prop):(nbodyT true CBuild anB0 (nthLoop Tryz.f36 0) (([.ce (.sl false [4,4,4,4,4,4,4,4,4,4,4,4,4,0,4,0,4,4,4,4,4,0] l), .ce (.ptr 1000002 0), .ce (I6 r), .ce (.ptr 1000005 0), .ce (.ptr 1000006 0), .ce (I6 n), .ce (I6 s), .ce (I6 fr), .ce (.bool bg), .ce (.sl false [4,4,4,4,4,4,4,4,4,4,4,4,4,0,4,0,4,4,4,4,4,0] l), .ce (I6 m), .ce (I6 i)],[[I6 z0,I6 z1,I6 z2, .sl true [4,4,4,4,4,4,4] zs, .sl true [4,4,4] zm],[I6 s0,I6 s1,I6 s2, .sl true [4,4,4,4,4,4,4] sg, .sl true [4,4,4] mk],[I6 a0,I6 a1,I6 a2]])) K)=(Br (i<m) ((0<=i/\i<(l.length:Int))/\el l i.toNat≠8/\(1<=el l i.toNat/\el l i.toNat<=6)/\∀(x1:Bool),x1=true->Bb (!x1) (True/\(∃(x:Int),True)/\∀(x:Int),True->((mk.length+1)*24<=140737488355328/\mk.length+1<=maxLen)/\R6 (i+1)/\∀x3,x3=i+1->K .normal ([.ce (.sl false [4,4,4,4,4,4,4,4,4,4,4,4,4,0,4,0,4,4,4,4,4,0] l), .ce (.ptr 1000002 0), .ce (I6 r), .ce (.ptr 1000005 0), .ce (.ptr 1000006 0), .ce (I6 n), .ce (I6 s), .ce (I6 fr), .ce (.bool bg), .ce (.sl false [4,4,4,4,4,4,4,4,4,4,4,4,4,0,4,0,4,4,4,4,4,0] l), .ce (I6 m), .ce (I6 x3)],[[I6 z0,I6 z1,I6 z2, .sl true [4,4,4,4,4,4,4] zs, .sl true [4,4,4] zm],[I6 s0,I6 s1,I6 s2, .sl true [4,4,4,4,4,4,4] sg, .sl true [4,4,4] (mk++[[n,x,i]])],[I6 a0,I6 a1,I6 a2]])) (Bb (!bg) (b3 1073741824 (ec l i.toNat 2) (ec l i.toNat 3) (ec l i.toNat 4)/\∀x4,x4=ec l i.toNat 2*16->∀x5,x5=ec l i.toNat 3*16->∀x6,x6=ec l i.toNat 4*16->b3 1073741824 (ec l i.toNat 2) (ec l i.toNat 3) (ec l i.toNat 4)/\∀x7,x7=ec l i.toNat 2*16->∀x8,x8=ec l i.toNat 3*16->∀x9,x9=ec l i.toNat 4*16->((0<=ec l i.toNat 14/\ec l i.toNat 14<=60000000)/\s=0)/\(∃(x:Int),0<=x/\x<=16777216)/\∀(x:Int),0<=x/\x<=16777216->(1<=el l i.toNat/\el l i.toNat<=3)/\∀(x11:Bool),x11=false->Bb (x11) (R6 (ec l i.toNat 14*16)/\∀x12,x12=ec l i.toNat 14*16->∀x13,x13=min x12 16777216->((0<=i/\i<(l.length:Int))/\(-1<=fr/\fr<(l.length:Int))/\niceL l/\l.length<=5)/\(∃(x:LL×Bool),List.length x.1<=71000/\ptsOK (32768:Int) x.1)/\∀(x:LL×Bool),List.length x.1<=71000/\ptsOK (32768:Int) x.1->((List.length x.1:Int)=(List.length x.1:Int)/\(0:Int)=0/\List.length x.1<=71000/\ptsOK (32768:Int) x.1/\okB (284000:Nat) {a0:=x7,a1:=x8,a2:=x9,n:=n,s0:=x4,s1:=x5,s2:=x6,sg:=sg,mks:=mk,fr:=(-1:Int),bg:=false})/\∀(x:BSt×Int×Int×Int×Int),okB (sg.length+71000) x.1/\x.1.s0=x4/\x.1.s1=x5/\x.1.s2=x6/\x.1.mks=mk->((0<=i/\i<(l.length:Int))/\niceL l/\l.length<=5)/\(∃(x:Int),-1<=x/\x<(l.length:Int))/\∀(x_1:Int),-1<=x_1/\x_1<(l.length:Int)->Br (x_1>=0) (((0<=i/\i<(l.length:Int))/\niceL l/\l.length<=5)/\(∃(x:Int),True)/\∀(x_2:Int),True->((List.length x.1.mks+1)*nat_lit 24<=140737488355328/\List.length x.1.mks+1<=maxLen)/\R6 (i+1)/\∀x18,x18=i+1->K .normal ([.ce (.sl false [4,4,4,4,4,4,4,4,4,4,4,4,4,0,4,0,4,4,4,4,4,0] l), .ce (.ptr 1000002 0), .ce (I6 r), .ce (.ptr 1000005 0), .ce (.ptr 1000006 0), .ce (I6 x.1.n), .ce (I6 s), .ce (I6 i), .ce (.bool true), .ce (.sl false [4,4,4,4,4,4,4,4,4,4,4,4,4,0,4,0,4,4,4,4,4,0] l), .ce (I6 m), .ce (I6 x18)],[[I6 z0,I6 z1,I6 z2, .sl true [4,4,4,4,4,4,4] zs, .sl true [4,4,4] zm],[I6 x.1.s0,I6 x.1.s1,I6 x.1.s2, .sl true [4,4,4,4,4,4,4] x.1.sg, .sl true [4,4,4] (x.1.mks++[[x.1.n,x_2,i]])],[I6 x.1.a0,I6 x.1.a1,I6 x.1.a2]])) (((0<=i/\i<(l.length:Int))/\niceL l/\l.length<=5)/\(∃(x:Int),True)/\∀(x_2:Int),True->((List.length x.1.mks+1)*nat_lit 24<=140737488355328/\List.length x.1.mks+1<=maxLen)/\R6 (i+1)/\∀x20,x20=i+1->K .normal ([.ce (.sl false [4,4,4,4,4,4,4,4,4,4,4,4,4,0,4,0,4,4,4,4,4,0] l), .ce (.ptr 1000002 0), .ce (I6 r), .ce (.ptr 1000005 0), .ce (.ptr 1000006 0), .ce (I6 x.1.n), .ce (I6 s), .ce (I6 (-1)), .ce (.bool true), .ce (.sl false [4,4,4,4,4,4,4,4,4,4,4,4,4,0,4,0,4,4,4,4,4,0] l), .ce (I6 m), .ce (I6 x20)],[[I6 z0,I6 z1,I6 z2, .sl true [4,4,4,4,4,4,4] zs, .sl true [4,4,4] zm],[I6 x.1.s0,I6 x.1.s1,I6 x.1.s2, .sl true [4,4,4,4,4,4,4] x.1.sg, .sl true [4,4,4] (x.1.mks++[[x.1.n,x_2,i]])],[I6 x.1.a0,I6 x.1.a1,I6 x.1.a2]]))) (((0<=i/\i<(l.length:Int))/\(-1<=fr/\fr<(l.length:Int))/\niceL l/\l.length<=5)/\(∃(x:LL×Bool),List.length x.1<=71000/\ptsOK (32768:Int) x.1)/\∀(x:LL×Bool),List.length x.1<=71000/\ptsOK (32768:Int) x.1->((List.length x.1:Int)=(List.length x.1:Int)/\(0:Int)=0/\List.length x.1<=71000/\ptsOK (32768:Int) x.1/\okB (284000:Nat) {a0:=x7,a1:=x8,a2:=x9,n:=n,s0:=x4,s1:=x5,s2:=x6,sg:=sg,mks:=mk,fr:=(-1:Int),bg:=false})/\∀(x:BSt×Int×Int×Int×Int),okB (sg.length+71000) x.1/\x.1.s0=x4/\x.1.s1=x5/\x.1.s2=x6/\x.1.mks=mk->((0<=i/\i<(l.length:Int))/\niceL l/\l.length<=5)/\(∃(x:Int),-1<=x/\x<(l.length:Int))/\∀(x_1:Int),-1<=x_1/\x_1<(l.length:Int)->Br (x_1>=0) (((0<=i/\i<(l.length:Int))/\niceL l/\l.length<=5)/\(∃(x:Int),True)/\∀(x_2:Int),True->((List.length x.1.mks+1)*nat_lit 24<=140737488355328/\List.length x.1.mks+1<=maxLen)/\R6 (i+1)/\∀x25,x25=i+1->K .normal ([.ce (.sl false [4,4,4,4,4,4,4,4,4,4,4,4,4,0,4,0,4,4,4,4,4,0] l), .ce (.ptr 1000002 0), .ce (I6 r), .ce (.ptr 1000005 0), .ce (.ptr 1000006 0), .ce (I6 x.1.n), .ce (I6 s), .ce (I6 i), .ce (.bool true), .ce (.sl false [4,4,4,4,4,4,4,4,4,4,4,4,4,0,4,0,4,4,4,4,4,0] l), .ce (I6 m), .ce (I6 x25)],[[I6 z0,I6 z1,I6 z2, .sl true [4,4,4,4,4,4,4] zs, .sl true [4,4,4] zm],[I6 x.1.s0,I6 x.1.s1,I6 x.1.s2, .sl true [4,4,4,4,4,4,4] x.1.sg, .sl true [4,4,4] (x.1.mks++[[x.1.n,x_2,i]])],[I6 x.1.a0,I6 x.1.a1,I6 x.1.a2]])) (((0<=i/\i<(l.length:Int))/\niceL l/\l.length<=5)/\(∃(x:Int),True)/\∀(x_2:Int),True->((List.length x.1.mks+1)*nat_lit 24<=140737488355328/\List.length x.1.mks+1<=maxLen)/\R6 (i+1)/\∀x27,x27=i+1->K .normal ([.ce (.sl false [4,4,4,4,4,4,4,4,4,4,4,4,4,0,4,0,4,4,4,4,4,0] l), .ce (.ptr 1000002 0), .ce (I6 r), .ce (.ptr 1000005 0), .ce (.ptr 1000006 0), .ce (I6 x.1.n), .ce (I6 s), .ce (I6 (-1)), .ce (.bool true), .ce (.sl false [4,4,4,4,4,4,4,4,4,4,4,4,4,0,4,0,4,4,4,4,4,0] l), .ce (I6 m), .ce (I6 x27)],[[I6 z0,I6 z1,I6 z2, .sl true [4,4,4,4,4,4,4] zs, .sl true [4,4,4] zm],[I6 x.1.s0,I6 x.1.s1,I6 x.1.s2, .sl true [4,4,4,4,4,4,4] x.1.sg, .sl true [4,4,4] (x.1.mks++[[x.1.n,x_2,i]])],[I6 x.1.a0,I6 x.1.a1,I6 x.1.a2]])))) (((0<=ec l i.toNat 14/\ec l i.toNat 14<=60000000)/\s=0)/\(∃(x:Int),0<=x/\x<=16777216)/\∀(x:Int),0<=x/\x<=16777216->(1<=el l i.toNat/\el l i.toNat<=3)/\∀(x29:Bool),x29=false->Bb (x29) (R6 (ec l i.toNat 14*16)/\∀x30,x30=ec l i.toNat 14*16->∀x31,x31=min x30 16777216->((0<=i/\i<(l.length:Int))/\(-1<=fr/\fr<(l.length:Int))/\niceL l/\l.length<=5)/\(∃(x:LL×Bool),List.length x.1<=71000/\ptsOK (32768:Int) x.1)/\∀(x:LL×Bool),List.length x.1<=71000/\ptsOK (32768:Int) x.1->((List.length x.1:Int)=(List.length x.1:Int)/\(0:Int)=0/\List.length x.1<=71000/\ptsOK (32768:Int) x.1/\okB (284000:Nat) {a0:=a0,a1:=a1,a2:=a2,n:=n,s0:=s0,s1:=s1,s2:=s2,sg:=sg,mks:=mk,fr:=(-1:Int),bg:=false})/\∀(x:BSt×Int×Int×Int×Int),okB (sg.length+71000) x.1/\x.1.s0=s0/\x.1.s1=s1/\x.1.s2=s2/\x.1.mks=mk->((0<=i/\i<(l.length:Int))/\niceL l/\l.length<=5)/\(∃(x:Int),-1<=x/\x<(l.length:Int))/\∀(x_1:Int),-1<=x_1/\x_1<(l.length:Int)->Br (x_1>=0) (((0<=i/\i<(l.length:Int))/\niceL l/\l.length<=5)/\(∃(x:Int),True)/\∀(x_2:Int),True->((List.length x.1.mks+1)*24<=140737488355328/\List.length x.1.mks+1<=maxLen)/\R6 (i+1)/\∀x36,x36=i+1->K .normal ([.ce (.sl false [4,4,4,4,4,4,4,4,4,4,4,4,4,0,4,0,4,4,4,4,4,0] l), .ce (.ptr 1000002 0), .ce (I6 r), .ce (.ptr 1000005 0), .ce (.ptr 1000006 0), .ce (I6 x.1.n), .ce (I6 s), .ce (I6 i), .ce (.bool bg), .ce (.sl false [4,4,4,4,4,4,4,4,4,4,4,4,4,0,4,0,4,4,4,4,4,0] l), .ce (I6 m), .ce (I6 x36)],[[I6 z0,I6 z1,I6 z2, .sl true [4,4,4,4,4,4,4] zs, .sl true [4,4,4] zm],[I6 x.1.s0,I6 x.1.s1,I6 x.1.s2, .sl true [4,4,4,4,4,4,4] x.1.sg, .sl true [4,4,4] (x.1.mks++[[x.1.n,x_2,i]])],[I6 x.1.a0,I6 x.1.a1,I6 x.1.a2]])) (((0<=i/\i<(l.length:Int))/\niceL l/\l.length<=5)/\(∃(x:Int),True)/\∀(x_2:Int),True->((List.length x.1.mks+1)*24<=140737488355328/\List.length x.1.mks+1<=maxLen)/\R6 (i+1)/\∀x38,x38=i+1->K .normal ([.ce (.sl false [4,4,4,4,4,4,4,4,4,4,4,4,4,0,4,0,4,4,4,4,4,0] l), .ce (.ptr 1000002 0), .ce (I6 r), .ce (.ptr 1000005 0), .ce (.ptr 1000006 0), .ce (I6 x.1.n), .ce (I6 s), .ce (I6 (-1)), .ce (.bool bg), .ce (.sl false [4,4,4,4,4,4,4,4,4,4,4,4,4,0,4,0,4,4,4,4,4,0] l), .ce (I6 m), .ce (I6 x38)],[[I6 z0,I6 z1,I6 z2, .sl true [4,4,4,4,4,4,4] zs, .sl true [4,4,4] zm],[I6 x.1.s0,I6 x.1.s1,I6 x.1.s2, .sl true [4,4,4,4,4,4,4] x.1.sg, .sl true [4,4,4] (x.1.mks++[[x.1.n,x_2,i]])],[I6 x.1.a0,I6 x.1.a1,I6 x.1.a2]]))) (((0<=i/\i<(l.length:Int))/\(-1<=fr/\fr<(l.length:Int))/\niceL l/\l.length<=5)/\(∃(x:LL×Bool),List.length x.1<=71000/\ptsOK (32768:Int) x.1)/\∀(x:LL×Bool),List.length x.1<=71000/\ptsOK (32768:Int) x.1->((List.length x.1:Int)=(List.length x.1:Int)/\(0:Int)=0/\List.length x.1<=71000/\ptsOK (32768:Int) x.1/\okB (284000:Nat) {a0:=a0,a1:=a1,a2:=a2,n:=n,s0:=s0,s1:=s1,s2:=s2,sg:=sg,mks:=mk,fr:=(-1:Int),bg:=false})/\∀(x:BSt×Int×Int×Int×Int),okB (sg.length+71000) x.1/\x.1.s0=s0/\x.1.s1=s1/\x.1.s2=s2/\x.1.mks=mk->((0<=i/\i<(l.length:Int))/\niceL l/\l.length<=5)/\(∃(x:Int),-1<=x/\x<(l.length:Int))/\∀(x_1:Int),-1<=x_1/\x_1<(l.length:Int)->Br (x_1>=0) (((0<=i/\i<(l.length:Int))/\niceL l/\l.length<=5)/\(∃(x:Int),True)/\∀(x_2:Int),True->((List.length x.1.mks+1)*24<=140737488355328/\List.length x.1.mks+1<=maxLen)/\R6 (i+1)/\∀x43,x43=i+1->K .normal ([.ce (.sl false [4,4,4,4,4,4,4,4,4,4,4,4,4,0,4,0,4,4,4,4,4,0] l), .ce (.ptr 1000002 0), .ce (I6 r), .ce (.ptr 1000005 0), .ce (.ptr 1000006 0), .ce (I6 x.1.n), .ce (I6 s), .ce (I6 i), .ce (.bool bg), .ce (.sl false [4,4,4,4,4,4,4,4,4,4,4,4,4,0,4,0,4,4,4,4,4,0] l), .ce (I6 m), .ce (I6 x43)],[[I6 z0,I6 z1,I6 z2, .sl true [4,4,4,4,4,4,4] zs, .sl true [4,4,4] zm],[I6 x.1.s0,I6 x.1.s1,I6 x.1.s2, .sl true [4,4,4,4,4,4,4] x.1.sg, .sl true [4,4,4] (x.1.mks++[[x.1.n,x_2,i]])],[I6 x.1.a0,I6 x.1.a1,I6 x.1.a2]])) (((0<=i/\i<(l.length:Int))/\niceL l/\l.length<=5)/\(∃(x:Int),True)/\∀(x_2:Int),True->((List.length x.1.mks+1)*24<=140737488355328/\List.length x.1.mks+1<=maxLen)/\R6 (i+1)/\∀x45,x45=i+1->K .normal ([.ce (.sl false [4,4,4,4,4,4,4,4,4,4,4,4,4,0,4,0,4,4,4,4,4,0] l), .ce (.ptr 1000002 0), .ce (I6 r), .ce (.ptr 1000005 0), .ce (.ptr 1000006 0), .ce (I6 x.1.n), .ce (I6 s), .ce (I6 (-1)), .ce (.bool bg), .ce (.sl false [4,4,4,4,4,4,4,4,4,4,4,4,4,0,4,0,4,4,4,4,4,0] l), .ce (I6 m), .ce (I6 x45)],[[I6 z0,I6 z1,I6 z2, .sl true [4,4,4,4,4,4,4] zs, .sl true [4,4,4] zm],[I6 x.1.s0,I6 x.1.s1,I6 x.1.s2, .sl true [4,4,4,4,4,4,4] x.1.sg, .sl true [4,4,4] (x.1.mks++[[x.1.n,x_2,i]])],[I6 x.1.a0,I6 x.1.a1,I6 x.1.a2]])))))) (K (.exit 0) ([.ce (.ptr 1000002 0), .ce (I6 r), .ce (.ptr 1000005 0)],[[I6 z0,I6 z1,I6 z2, .sl true [4,4,4,4,4,4,4] zs, .sl true [4,4,4] zm],[I6 s0,I6 s1,I6 s2, .sl true [4,4,4,4,4,4,4] sg, .sl true [4,4,4] mk],[I6 a0,I6 a1,I6 a2]]))):=by kernel_rfl
theorem vcBuild(l:LL)(Q:Res->Prop):(nfun true CBuild Tryz.f36 (bodyOf Tryz.f36) [.ce (.sl false [4,4,4,4,4,4,4,4,4,4,4,4,4,0,4,0,4,4,4,4,4,0] l)] [] Q)=((niceL l/\l.length<=5)/\(∃(x:Int),True)/\∀(x:Int),True->Bb (x !=0) (Q ⟨.tup [.agg [I6 0,I6 0,I6 0, .sl false [4,4,4,4,4,4,4] [], .sl false [4,4,4] []], .ce (I6 x)],false,[],[]⟩) ((l=l/\(l.length:Int)=(l.length:Int)/\niceL l/\l.length<=5/\(0:Int)=0/\(0:Int)=0/\(-1:Int)=(-1:Int)/\false=false/\(0:Nat)=0/\okB (0:Nat) {a0:=(0:Int),a1:=(0:Int),a2:=(0:Int),n:=(0:Int),s0:=(0:Int),s1:=(0:Int),s2:=(0:Int),sg:=[],mks:=[],fr:=(-1:Int),bg:=false})/\∀(x:BSt),okB (355000:Nat) x->Q ⟨.tup [.agg [I6 x.s0,I6 x.s1,I6 x.s2, .sl false [4,4,4,4,4,4,4] x.sg, .sl false [4,4,4] x.mks], .ce (I6 0)],false,[],[]⟩)):=by kernel_rfl
end Go.Proofs.YtoekmphdpepdbaaGreat
namespace U
theorem bgn_app{s:Int}{sg:LL}{r:List Int}{c:Nat}{j:Nat}(h:j<=sg.length):bgn s (sg++[r]) c j=bgn s sg c j:=by
 unfold bgn;by_cases h0:(j:Int)<=0
 . rw[if_pos h0,if_pos h0]
 . rw[if_neg h0,if_neg h0];have:((j:Int)-1).toNat<sg.length:=by omega
   unfold ec;have e:(sg++[r]).getD ((j:Int)-1).toNat []=sg.getD ((j:Int)-1).toNat []:=by rw[List.getD_eq_getElem?_getD,List.getElem?_append_left this,<-List.getD_eq_getElem?_getD]
   rw[e]
theorem bgn_last{s:Int}{sg:LL}{r:List Int}{c:Nat}:bgn s (sg++[r]) c ((sg++[r]).length:Nat)=r.getD c 0:=by
 unfold bgn;have hl:(sg++[r]).length=sg.length+1:=by simp
 rw[hl,if_neg (by omega)];have e:(((sg.length+1:Nat):Int)-1).toNat=sg.length:=by omega
 rw[e];exact ec_app_eq
theorem okB_mono{m k:Nat}{x:BSt}(h:m<=k)(hx:okB m x):okB k x:=⟨hx.1,hx.2.1,hx.2.2.1,hx.2.2.2.1,hx.2.2.2.2.1,Nat.le_trans hx.2.2.2.2.2.1 h,hx.2.2.2.2.2.2⟩
theorem okLen_of{s0 s1 s2:Int}{sg:LL}(h:okSegs s0 s1 s2 sg)(hl:sg.length<=355000):okLen sg:=⟨by omega,fun j hj=>by have:=(h j hj).2.1;omega⟩
theorem okB_n{m:Nat}{x:BSt}(h:okB m x)(hl:x.sg.length<=355000):0<=x.n/\x.n<=4503599627370496:=by
 rw[h.2.2.2.2.1];exact plen_le (okLen_of h.2.2.1 hl)
theorem okB_step{m:Nat}{a0 a1 a2 n s0 s1 s2 fr p0 p1 p2 x g4 g5 g6:Int}{sg mk:LL}{bg:Bool}(h:okB m ⟨a0,a1,a2,n,s0,s1,s2,sg,mk,fr,bg⟩)(hp:b3 32768 p0 p1 p2)(hne:¬(p0=a0/\p1=a1/\p2=a2))(hx:isLen a0 a1 a2 p0 p1 p2 x):okB (m+1) ⟨p0,p1,p2,n+x,s0,s1,s2,sg++[[p0,p1,p2,x,g4,g5,g6]],mk,fr,bg⟩:=by
 obtain⟨ha,hs,hg,⟨l0,l1,l2⟩,hn,hm,hk⟩:=h;dsimp only at ha hs hg l0 l1 l2 hn hm hk;obtain⟨x0,x1,x2,xD⟩:=hx;have xb:=xD 65536 (by decide) (by unfold b3 at ha hp⊢;omega);refine⟨hp,hs,?_,⟨by dsimp only;rw[bgn_last];rfl,by dsimp only;rw[bgn_last];rfl,by dsimp only;rw[bgn_last];rfl⟩,?_,by dsimp only;simp;omega,hk⟩
 . intro j hj;dsimp only at hj⊢;by_cases h:j<sg.length
   . have:=hg j h;simp only[ec_app_lt h];rw[bgn_app (by omega),bgn_app (by omega),bgn_app (by omega)];exact this
   . have:j=sg.length:=by simp at hj;omega
     subst this;simp only[ec_app_eq];rw[bgn_app (Nat.le_refl _),bgn_app (Nat.le_refl _),bgn_app (Nat.le_refl _),<-l0,<-l1,<-l2];refine⟨hp,?_,?_⟩
     . show 1<=x/\x<=131072;omega
     . show b3 x (p0-a0) (p1-a1) (p2-a2);unfold b3;omega
 . dsimp only;rw[plen_append,hn];show plen sg+x=plen sg+(x+0);omega
end U
namespace Go.Proofs.YtoekmphdpepdbaaGreat
section
open Go Go.HL U
attribute [local irreducible] hfun bodyT fragT
set_option maxHeartbeats 2000000 in theorem loopB1:∀v Q,(LB1 v).wp Q->hloop CBuild anB1 (nthLoop Tryz.f36 1) v Q:=by
 intro v Q h;unfold LB1 at h;split at h;case h_2=>exact h.elim
 rename_i ks l r n s bg ix ks2 l2 m i q qn j rb pb ab ib gb;cases hks:ksEq ks [4,4,4,4,4,4,4,4,4,4,4,4,4,0,4,0,4,4,4,4,4,0]
 . rw[hks]at h;exact h.elim
 cases hks2:ksEq ks2 [4,4,4,4,4,4,4,4,4,4,4,4,4,0,4,0,4,4,4,4,4,0]
 . rw[hks,hks2]at h;exact h.elim
 rw[hks,hks2]at h;obtain rfl:=ksEq_eq hks;obtain rfl:=ksEq_eq hks2;split at h;case h_2=>exact h.elim
 split at h;case h_2=>exact h.elim
 split at h;case h_2=>exact h.elim
 split at h;case h_2=>exact h.elim
 split at h;case h_2=>exact h.elim
 rename_i z0 z1 z2 zs zm _ s0 s1 s2 sg mk _ a0 a1 a2 _ g0 g1 g2 g3 g4 g5 g6 _ k0 bk f0 f1 f2 t0 t1 t2 pl c0 c1 c2 dr fu fd pr sd ra bl nn sp on;obtain⟨⟨h1,h2,h3,h4,h5⟩,hq⟩:=h;subst h1 h2;refine hloop_rec (σ:=(BSt×Int×Int×Int×Int)×Nat) (fun x=>([.ce (.sl false [4,4,4,4,4,4,4,4,4,4,4,4,4,0,4,0,4,4,4,4,4,0] l), .ce (.ptr 1000002 0), .ce (I6 r), .ce (.ptr 1000005 0), .ce (.ptr 1000006 0), .ce (I6 x.1.1.n), .ce (I6 s), .ce (.bool bg), .ce (I6 ix), .ce (.ptr 1000012 0), .ce (.ptr 1000013 0), .ce (.sl false [4,4,4,4,4,4,4,4,4,4,4,4,4,0,4,0,4,4,4,4,4,0] l2), .ce (I6 m), .ce (I6 i), .ce (.sl false [4,4,4] q), .ce (I6 (q.length:Int)), .ce (I6 (x.2:Int))],[[I6 z0,I6 z1,I6 z2, .sl true [4,4,4,4,4,4,4] zs, .sl true [4,4,4] zm],[I6 x.1.1.s0,I6 x.1.1.s1,I6 x.1.1.s2, .sl true [4,4,4,4,4,4,4] x.1.1.sg, .sl true [4,4,4] x.1.1.mks],[I6 x.1.1.a0,I6 x.1.1.a1,I6 x.1.1.a2],[I6 k0,I6 bk,I6 f0,I6 f1,I6 f2,I6 t0,I6 t1,I6 t2,I6 pl,I6 c0,I6 c1,I6 c2,I6 dr, .bool fu,I6 fd, .bool pr,I6 sd,I6 ra,I6 bl,I6 nn,I6 sp, .bool on],[I6 x.1.2.1,I6 x.1.2.2.1,I6 x.1.2.2.2.1,I6 x.1.2.2.2.2,I6 g4,I6 g5,I6 g6]])) (fun x=>q.length-x.2) (fun x=>x.2<=q.length/\okB (sg.length+x.2) x.1.1/\x.1.1.s0=s0/\x.1.1.s1=s1/\x.1.1.s2=s2/\x.1.1.mks=mk) ?_ ((⟨a0,a1,a2,n,s0,s1,s2,sg,mk,-1,false⟩,g0,g1,g2,g3),0) ?_
 . rintro⟨⟨⟨a0,a1,a2,n,u0,u1,u2,sg',mk',fr,bg'⟩,g0,g1,g2,g3⟩,j⟩⟨hj,hok,e0,e1,e2,e3⟩K hn hx _;dsimp only at hj hok e0 e1 e2 e3 hn⊢;subst e0 e1 e2 e3;have hl:=hok.2.2.2.2.2.1;have hlen:sg'.length<=355000:=by have:=h5.2.2.2.2.2.1;dsimp only at this hl;omega
   refine byVB (vbB1 r n s ix m i q.length j z0 z1 z2 u0 u1 u2 a0 a1 a2 g0 g1 g2 g3 g4 g5 g6 k0 bk f0 f1 f2 t0 t1 t2 pl c0 c1 c2 dr fd sd ra bl nn sp fu pr on bg l l2 q zs zm sg' mk' K) ⟨fun g=> ?_,fun g=> ?_⟩
   . have g:=odt g;have hjq:j<q.length:=by omega
     have ht:Int.toNat (j:Int)=j:=rfl;rw[ht];have pj:=h4 j hjq;have pj:b3 32768 (el q j) (ec q j 1) (ec q j 2):=pj;have step:∀y:Int,y=(j:Int)+1->y=((j+1:Nat):Int):=fun y e=>by omega
     refine⟨by omega,fun _=>⟨by omega,fun x1 e1=> ?_⟩,fun gne=>⟨⟨b3_mono (by decide) hok.1,b3_mono (by decide) pj⟩,isLen_ex _ _ _ _ _ _,fun x hx2=>⟨⟨show(sg'.length+1)*56<=140737488355328 by omega,by unfold maxLen;omega⟩,?_⟩⟩⟩
     . rw[step x1 e1];exact hn ((⟨a0,a1,a2,n,u0,u1,u2,sg',mk',fr,bg'⟩,g0,g1,g2,g3),j+1) ⟨hjq,okB_mono (by omega) hok,rfl,rfl,rfl,rfl⟩ (by dsimp only;omega)
     . have ne:¬(el q j=a0/\ec q j 1=a1/\ec q j 2=a2):=fun hh=>by
        rw[hh.1,hh.2.1,hh.2.2]at gne;simp at gne
       have nb:0<=n/\n<=4503599627370496:=okB_n hok (by show sg'.length<=355000;exact hlen);have xb:=hx2.2.2.2 65536 (by decide) (by have hb:b3 32768 a0 a1 a2:=hok.1;unfold b3 at hb pj⊢;omega);have x0: -x<=x:=by have:=hx2.1;omega
       refine⟨by omega,fun x3 e3=>⟨fun gg=> ?_,fun _=>⟨by omega,fun x4 e4=> ?_⟩⟩⟩
       . have gg:=odt gg;simp at gg;omega
       . rw[step x4 e4,e3];exact hn ((⟨el q j,ec q j 1,ec q j 2,n+x,u0,u1,u2,sg'++[[el q j,ec q j 1,ec q j 2,x,g4,g5,g6]],mk',fr,bg'⟩,el q j,ec q j 1,ec q j 2,x),j+1) ⟨hjq,okB_step hok pj ne hx2,rfl,rfl,rfl,rfl⟩ (by dsimp only;omega)
   . have g:=odf g;exact hx _ _ (hq (⟨a0,a1,a2,n,u0,u1,u2,sg',mk',fr,bg'⟩,g0,g1,g2,g3) ⟨okB_mono (by omega) hok,rfl,rfl,rfl,rfl⟩)
 . exact⟨Nat.zero_le _,⟨h5.1,h5.2.1,h5.2.2.1,h5.2.2.2.1,h5.2.2.2.2.1,Nat.le_refl _,h5.2.2.2.2.2.2⟩,rfl,rfl,rfl,rfl⟩
end
open Go Go.HL U
def SBuild(hA:List HV)(pA:List (List HC)):SR:=match hA,pA with
 |[.ce (.sl false ks l)],[]=>bif ksEq ks [4,4,4,4,4,4,4,4,4,4,4,4,4,0,4,0,4,4,4,4,4,0]then .all (niceL l/\l.length<=5) (BSt×Int) (fun x=>okB 355000 x.1) (fun x=>⟨.tup [.agg [I6 x.1.s0,I6 x.1.s1,I6 x.1.s2, .sl false [4,4,4,4,4,4,4] x.1.sg, .sl false [4,4,4] x.1.mks], .ce (I6 x.2)],false,[],[]⟩)else .fail
 |_,_=> .fail
end Go.Proofs.YtoekmphdpepdbaaGreat
namespace U
open Go
theorem bTail{l:LL}{i fr a0 a1 a2 n s0 s1 s2:Int}{sg mk:LL}{j:Nat}{G1 G2:(BSt×Int×Int×Int×Int)->Int->Int->Prop}(hi:i=j)(hj:j<l.length)(hfr: -1<=fr/\fr<(l.length:Int))(hn:niceL l)(hl:l.length<=5)(hok:okB (71000*j) ⟨a0,a1,a2,n,s0,s1,s2,sg,mk,-1,false⟩)(hmk:mk.length<=j)(fin1:∀x:(BSt×Int×Int×Int×Int),okB (71000*(j+1)) x.1->x.1.mks.length<=j->∀q y:Int,y=((j+1:Nat):Int)->G1 x q y)(fin2:∀x:(BSt×Int×Int×Int×Int),okB (71000*(j+1)) x.1->x.1.mks.length<=j->∀q y:Int,y=((j+1:Nat):Int)->G2 x q y):((0<=i/\i<((l.length:Nat):Int))/\(-1<=fr/\fr<((l.length:Nat):Int))/\niceL l/\l.length<=5)/\(∃(x:LL×Bool),List.length x.1<=71000/\ptsOK 32768 x.1)/\∀(x:LL×Bool),List.length x.1<=71000/\ptsOK 32768 x.1->((((List.length x.1):Nat):Int)=(((List.length x.1):Nat):Int)/\(0:Int)=0/\List.length x.1<=71000/\ptsOK 32768 x.1/\okB 284000 {a0:=a0,a1:=a1,a2:=a2,n:=n,s0:=s0,s1:=s1,s2:=s2,sg:=sg,mks:=mk,fr:= -1,bg:=false})/\∀(x:BSt×Int×Int×Int×Int),okB (List.length sg+71000) x.1/\x.1.s0=s0/\x.1.s1=s1/\x.1.s2=s2/\x.1.mks=mk->((0<=i/\i<((l.length:Nat):Int))/\niceL l/\l.length<=5)/\(∃(x:Int),-1<=x/\x<((l.length:Nat):Int))/\∀(x_1:Int),-1<=x_1/\x_1<((l.length:Nat):Int)->(decide (x_1>=0)=true->((0<=i/\i<((l.length:Nat):Int))/\niceL l/\l.length<=5)/\(∃(x:Int),True)/\∀(x_2:Int),True->((List.length x.1.mks+1)*24<=140737488355328/\List.length x.1.mks+1<=maxLen)/\(-9223372036854775808<=i+1/\i+1<=9223372036854775807)/\∀(y:Int),y=i+1->G1 x x_2 y)/\(decide (x_1>=0)=false->((0<=i/\i<((l.length:Nat):Int))/\niceL l/\l.length<=5)/\(∃(x:Int),True)/\∀(x_2:Int),True->((List.length x.1.mks+1)*24<=140737488355328/\List.length x.1.mks+1<=maxLen)/\(-9223372036854775808<=i+1/\i+1<=9223372036854775807)/\∀(y:Int),y=i+1->G2 x x_2 y):=by
 have hsg:sg.length<=71000*j:=hok.2.2.2.2.2.1;have hi2:0<=i/\i<((l.length:Nat):Int):=by omega
 refine⟨⟨hi2,hfr,hn,hl⟩,⟨([],false),by simp,fun j hj=>by simp at hj⟩,fun x hx=>⟨⟨rfl,rfl,hx.1,hx.2,okB_mono (by omega) hok⟩,fun x⟨ho,_,_,_,em⟩=>⟨⟨hi2,hn,hl⟩,⟨0,by omega⟩,fun x1 _=> ?_⟩⟩⟩;have ho':okB (71000*(j+1)) x.1:=okB_mono (by omega) ho;have hm':x.1.mks.length<=j:=by rw[em];exact hmk
 exact⟨fun _=>⟨⟨hi2,hn,hl⟩,⟨0,trivial⟩,fun q _=>⟨⟨by omega,by unfold maxLen;omega⟩,by omega,fun y e=>fin1 x ho' hm' q y (by omega)⟩⟩,fun _=>⟨⟨hi2,hn,hl⟩,⟨0,trivial⟩,fun q _=>⟨⟨by omega,by unfold maxLen;omega⟩,by omega,fun y e=>fin2 x ho' hm' q y (by omega)⟩⟩⟩
theorem okB_mks{m:Nat}{x:BSt}{mk:LL}{fr:Int}{bg:Bool}(h:okB m x)(hm:mk.length<=10):okB m ⟨x.a0,x.a1,x.a2,x.n,x.s0,x.s1,x.s2,x.sg,mk,fr,bg⟩:=⟨h.1,h.2.1,h.2.2.1,h.2.2.2.1,h.2.2.2.2.1,h.2.2.2.2.2.1,hm⟩
theorem okSegs_nil(s0 s1 s2:Int):okSegs s0 s1 s2 []:=fun j hj=>by simp at hj
theorem okB_zero(fr:Int)(bg:Bool):okB 0 ⟨0,0,0,0,0,0,0,[],[],fr,bg⟩:=⟨(by unfold b3;decide:b3 32768 0 0 0),(by unfold b3;decide:b3 32768 0 0 0),okSegs_nil _ _ _,⟨rfl,rfl,rfl⟩,rfl,Nat.le_refl 0,(by decide:0<=10)⟩
theorem okPath_len{s0 s1 s2:Int}{sg mk:LL}(h:okPath s0 s1 s2 sg mk):okLen sg:=okLen_of h.2.1 h.2.2.1
theorem okPath_pts{s0 s1 s2:Int}{sg mk:LL}(h:okPath s0 s1 s2 sg mk):okPts s0 s1 s2 sg:=by
 obtain⟨hs,hg,_,_⟩:=h;unfold b3 at hs;refine⟨by omega,by omega,by omega,fun j hj=> ?_⟩;have:=(hg j hj).1;unfold b3 at this;omega
end U
namespace Go.Proofs.YtoekmphdpepdbaaGreat
section
open Go Go.HL U
attribute [local irreducible] hfun bodyT fragT
theorem sOther:Sound Tryz.prog 67 SOther:=by
 refine sound_of (C:=COther) [] Tryz.func67 (by kernel_rfl) (by decide+kernel) (by kernel_rfl) rfl trivial (loops0 (by kernel_rfl)) ?_;intro hA pA R h;unfold SOther at h;split at h;case h_2=>exfalso;exact h
 rename_i k0 bk f0 f1 f2 t0 t1 t2 pl c0 c1 c2 dr fu fd pr sd ra bl nn sp on;obtain⟨_,_,hR⟩:=h;exact byVC (vcOther k0 bk f0 f1 f2 t0 t1 t2 pl c0 c1 c2 dr fd sd ra bl nn sp fu pr on R) ⟨fun _=>hR _ trivial,fun _=>⟨fun _=>hR _ trivial,fun _=>hR _ trivial⟩⟩
theorem fragK8:∀v Q,(LK8 v).wp Q->fragT CBuild anK8 (nthFrag CBuild Tryz.f36 0) v Q:=by
 intro v Q h;unfold LK8 at h;split at h;case h_2=>exact h.elim
 rename_i ks l r n s fr bg ix ks2 l2 m i rb pb ab ib;cases hks:ksEq ks [4,4,4,4,4,4,4,4,4,4,4,4,4,0,4,0,4,4,4,4,4,0]
 . rw[hks]at h;exact h.elim
 cases hks2:ksEq ks2 [4,4,4,4,4,4,4,4,4,4,4,4,4,0,4,0,4,4,4,4,4,0]
 . rw[hks,hks2]at h;exact h.elim
 rw[hks,hks2]at h;obtain rfl:=ksEq_eq hks;obtain rfl:=ksEq_eq hks2;split at h;case h_2=>exact h.elim
 split at h;case h_2=>exact h.elim
 split at h;case h_2=>exact h.elim
 split at h;case h_2=>exact h.elim
 rename_i z0 z1 z2 zs zm _ s0 s1 s2 sg mk _ a0 a1 a2 _ k0 bk f0 f1 f2 t0 t1 t2 pl c0 c1 c2 dr fu fd pr sd ra bl nn sp on;obtain⟨hk,hq⟩:=h;refine byVG (vgK8 r n s fr m i z0 z1 z2 s0 s1 s2 a0 a1 a2 ix bg k0 bk f0 f1 f2 t0 t1 t2 pl c0 c1 c2 dr fd sd ra bl nn sp fu pr on l l2 zs zm sg mk Q) ⟨fun g=>(hk (by simpa using g)).elim,fun _=>hq⟩
set_option maxHeartbeats 2000000 in theorem loopB0:∀v Q,(LB0 v).wp Q->hloop CBuild anB0 (nthLoop Tryz.f36 0) v Q:=by
 intro v Q h;unfold LB0 at h;split at h;case h_2=>exact h.elim
 rename_i ks l r n s fr bg ks2 l2 m i rb pb ab;cases hks:ksEq ks [4,4,4,4,4,4,4,4,4,4,4,4,4,0,4,0,4,4,4,4,4,0]
 . rw[hks]at h;exact h.elim
 cases hks2:ksEq ks2 [4,4,4,4,4,4,4,4,4,4,4,4,4,0,4,0,4,4,4,4,4,0]
 . rw[hks,hks2]at h;exact h.elim
 rw[hks,hks2]at h;obtain rfl:=ksEq_eq hks;obtain rfl:=ksEq_eq hks2;split at h;case h_2=>exact h.elim
 split at h;case h_2=>exact h.elim
 split at h;case h_2=>exact h.elim
 rename_i z0 z1 z2 zs zm _ s0 s1 s2 sg mk _ a0 a1 a2;obtain⟨⟨h1,h2,hn,hl,h3,h4,h5,h6,h7,hok⟩,hq⟩:=h;obtain rfl:=List.eq_nil_of_length_eq_zero h7;subst h1 h2 h3 h4 h5 h6;refine hloop_rec (σ:=BSt×Nat) (fun x=>([.ce (.sl false [4,4,4,4,4,4,4,4,4,4,4,4,4,0,4,0,4,4,4,4,4,0] l2), .ce (.ptr 1000002 0), .ce (I6 r), .ce (.ptr 1000005 0), .ce (.ptr 1000006 0), .ce (I6 x.1.n), .ce (I6 0), .ce (I6 x.1.fr), .ce (.bool x.1.bg), .ce (.sl false [4,4,4,4,4,4,4,4,4,4,4,4,4,0,4,0,4,4,4,4,4,0] l2), .ce (I6 (l2.length:Int)), .ce (I6 (x.2:Int))],[[I6 z0,I6 z1,I6 z2, .sl true [4,4,4,4,4,4,4] zs, .sl true [4,4,4] zm],[I6 x.1.s0,I6 x.1.s1,I6 x.1.s2, .sl true [4,4,4,4,4,4,4] x.1.sg, .sl true [4,4,4] x.1.mks],[I6 x.1.a0,I6 x.1.a1,I6 x.1.a2]])) (fun x=>l2.length-x.2) (fun x=>x.2<=l2.length/\okB (71000*x.2) x.1/\(-1<=x.1.fr/\x.1.fr<(l2.length:Int))/\x.1.mks.length<=x.2/\(x.1.bg=false->x.1.sg=[])) ?_ (⟨a0,a1,a2,n,s0,s1,s2,sg,[],-1,false⟩,0) ?_
 . rintro⟨⟨a0,a1,a2,n,s0,s1,s2,sg,mk,fr,bg⟩,j⟩⟨hj,hok,hfr,hmk,hbg⟩K hnx hx _;dsimp only at hj hok hfr hmk hbg hnx⊢;refine byVB (vbB0 r n 0 fr l2.length j z0 z1 z2 s0 s1 s2 a0 a1 a2 bg l2 zs zm sg mk K) ⟨fun g=> ?_,fun g=> ?_⟩
   . have g:=odt g;have hjl:j<l2.length:=by omega
     have ht:Int.toNat (j:Int)=j:=rfl;rw[ht];obtain⟨nk,nf,nt,_,_,nfd,_⟩:=hn j hjl;have nk:1<=el l2 j/\el l2 j<=3:=nk;refine⟨by omega,by omega,by omega,fun x1 e1=>⟨fun e=>(by rw[e1]at e;cases e),fun _=>⟨fun gb=> ?_,fun gb=> ?_⟩⟩⟩
     . have nf':b3 1073741824 (ec l2 j 2) (ec l2 j 3) (ec l2 j 4):=b3_mono (by decide) nf;refine⟨nf',fun x4 e4 x5 e5 x6 e6=>⟨nf',fun x7 e7 x8 e8 x9 e9=>⟨⟨nfd,rfl⟩,⟨0,by decide⟩,fun y hy=>⟨nk,fun x11 e11=>⟨fun e=>(by rw[e11]at e;cases e),fun _=> ?_⟩⟩⟩⟩⟩;have hsg:=hbg (by simpa using gb);subst hsg;have ex:n=0:=hok.2.2.2.2.1;have b1:b3 32768 x4 x5 x6:=by unfold b3 at nf⊢;omega
       have b2:x7=x4/\x8=x5/\x9=x6:=by omega
       obtain⟨rfl,rfl,rfl⟩:=b2;have ho:okB (71000*j) ⟨x7,x8,x9,n,x7,x8,x9,[],mk,-1,false⟩:=⟨b1,b1,okSegs_nil _ _ _,⟨rfl,rfl,rfl⟩,ex,Nat.zero_le _,by dsimp only;omega⟩;exact bTail (fr:=fr) (l:=l2) rfl hjl hfr hn hl ho hmk (fun x ho' hm' q y e=>by rw[e];exact hnx (⟨x.1.a0,x.1.a1,x.1.a2,x.1.n,x.1.s0,x.1.s1,x.1.s2,x.1.sg,x.1.mks++[[x.1.n,q,(j:Int)]],(j:Int),true⟩,j+1) ⟨hjl,okB_mks ho' (by simp;omega),⟨by dsimp only;omega,by dsimp only;omega⟩,by simp;exact hm',fun e=>by cases e⟩ (by dsimp only;omega)) (fun x ho' hm' q y e=>by rw[e];exact hnx (⟨x.1.a0,x.1.a1,x.1.a2,x.1.n,x.1.s0,x.1.s1,x.1.s2,x.1.sg,x.1.mks++[[x.1.n,q,(j:Int)]],-1,true⟩,j+1) ⟨hjl,okB_mks ho' (by simp;omega),⟨by dsimp only;omega,by dsimp only;omega⟩,by simp;exact hm',fun e=>by cases e⟩ (by dsimp only;omega))
     . have hb:bg=true:=by simpa using gb
       subst hb;refine⟨⟨nfd,rfl⟩,⟨0,by decide⟩,fun y hy=>⟨nk,fun x11 e11=>⟨fun e=>(by rw[e11]at e;cases e),fun _=> ?_⟩⟩⟩;exact bTail (fr:=fr) (l:=l2) rfl hjl hfr hn hl hok hmk (fun x ho' hm' q y e=>by rw[e];exact hnx (⟨x.1.a0,x.1.a1,x.1.a2,x.1.n,x.1.s0,x.1.s1,x.1.s2,x.1.sg,x.1.mks++[[x.1.n,q,(j:Int)]],(j:Int),true⟩,j+1) ⟨hjl,okB_mks ho' (by simp;omega),⟨by dsimp only;omega,by dsimp only;omega⟩,by simp;exact hm',fun e=>by cases e⟩ (by dsimp only;omega)) (fun x ho' hm' q y e=>by rw[e];exact hnx (⟨x.1.a0,x.1.a1,x.1.a2,x.1.n,x.1.s0,x.1.s1,x.1.s2,x.1.sg,x.1.mks++[[x.1.n,q,(j:Int)]],-1,true⟩,j+1) ⟨hjl,okB_mks ho' (by simp;omega),⟨by dsimp only;omega,by dsimp only;omega⟩,by simp;exact hm',fun e=>by cases e⟩ (by dsimp only;omega))
   . have g:=odf g;exact hx _ _ (hq ⟨a0,a1,a2,n,s0,s1,s2,sg,mk,fr,bg⟩ (okB_mono (by omega) hok))
 . exact⟨Nat.zero_le _,hok,⟨by dsimp only;omega,by dsimp only;omega⟩,Nat.zero_le _,fun _=>by have:=hok.2.2.2.2.2.1;exact List.eq_nil_of_length_eq_zero (by dsimp only at this⊢;omega)⟩
theorem sBuild:Sound Tryz.prog 36 SBuild:=by
 refine sound_of (C:=CBuild) tabBuild Tryz.func36 (by kernel_rfl) (by decide+kernel) (by kernel_rfl) rfl ⟨sCheck,sMotion,sOther,sFine,sRate,sSync,sPoints,sLength,sSoft,sKind,trivial⟩ (loopsG [nthLoop Tryz.f36 0,nthLoop Tryz.f36 1] [nthFrag CBuild Tryz.f36 0] (by kernel_rfl) (by kernel_rfl) ⟨loopOK_of (an:=anB0) (S:=LB0) (by kernel_rfl) loopB0,loopOK_of (an:=anB1) (S:=LB1) (by kernel_rfl) loopB1,trivial⟩ ⟨fragOK_of (an:=anK8) (S:=LK8) (by kernel_rfl) fragK8,trivial⟩) ?_;intro hA pA R h;unfold SBuild at h;split at h;case h_2=>exfalso;exact h
 rename_i ks l;cases hks:ksEq ks [4,4,4,4,4,4,4,4,4,4,4,4,4,0,4,0,4,4,4,4,4,0]
 . rw[hks]at h;exact h.elim
 rw[hks]at h;obtain rfl:=ksEq_eq hks;obtain⟨⟨hn,hl⟩,_,hR⟩:=h;exact byVC (vcBuild l R) ⟨⟨hn,hl⟩,⟨0,trivial⟩,fun x _=>⟨fun _=>hR (⟨0,0,0,0,0,0,0,[],[],-1,false⟩,x) (okB_mono (by decide) (okB_zero _ _)),fun _=>⟨⟨rfl,rfl,hn,hl,rfl,rfl,rfl,rfl,rfl,okB_zero _ _⟩,fun x hx=>hR (x,0) hx⟩⟩⟩
end
open Go Go.HL U
def STrue0(hA:List HV)(pA:List (List HC)):SR:=match hA,pA with
 |[],[]=> .all True Bool (fun x=>x=true) (fun x=>⟨.ce (.bool x),false,[],[]⟩)
 |_,_=> .fail
def okR:Res:=⟨.ce (.bool true),false,[],[]⟩
end Go.Proofs.YtoekmphdpepdbaaGreat
namespace U
open Go
structure RunS where
 s0:Int
 s1:Int
 s2:Int
 sg:List (List Int)
 mks:List (List Int)
 a:AxV
 b:AxV
 c:AxV
 d0:Int
 d1:Int
 d2:Int
 f:Int
 t:Int
 pk:List (List Int)
 ln:Int
def RunS.L(x:RunS):LegS:=leg x.s0 x.s1 x.s2 x.sg x.a.bl x.b.bl x.c.bl x.d0 x.d1 x.d2 x.f x.t
def okRun(x:RunS):Prop:=okPath x.s0 x.s1 x.s2 x.sg x.mks/\okAx x.a/\okAx x.b/\okAx x.c/\(pm x.d0/\pm x.d1/\pm x.d2)/\(0<=x.f/\x.f<=plen x.sg)/\(0<=x.t/\x.t<=plen x.sg)/\x.pk=x.L.pk/\x.ln=x.L.ln
theorem okAx_MA{a:AxV}(h:okAx a):okMA a.st a.og a.sg a.pit a.bl:=by
 obtain⟨h1,h2,h3,h4,h5,h6,h7,h8,h9,h10⟩:=h;exact⟨by omega,⟨fun h=>by have:=h9 h;omega,by omega,by omega,by omega,h10.1⟩,by omega⟩
theorem tadd_ln(pk:List (List Int))(ln:Int)(q:List Int):(tadd pk ln q).2=ln+q.getD 1 0:=by unfold tadd;split<;>rfl
theorem legStep_ln{s0 s1 s2:Int}{sg:List (List Int)}{b0 b1 b2 f t m:Int}{x:LegS}{k:Nat}(hb:okB3 b0 b1 b2)(hm:m=1∨m= -1)(hk:k<sg.length)(hs:okSegs s0 s1 s2 sg):(legStep s0 s1 s2 sg b0 b1 b2 f t m x k).ln<=x.ln+135168:=by
 have hi:=legI_bd (m:=m) hk;have hl:=(hs (legI sg.length m k).toNat (by omega)).2.1;unfold legStep legSeg legPut;generalize legI sg.length m k=i at*;generalize fc1 (bgn s0 sg 0 i) (ec sg i.toNat 0) m x.a0=n0;generalize fc1 (bgn s1 sg 1 i) (ec sg i.toNat 1) m x.a1=n1;generalize fc1 (bgn s2 sg 2 i) (ec sg i.toNat 2) m x.a2=n2;have hu:=slk_bd hb x.a0 x.a1 x.a2 n0 n1 n2;have hE:legE sg m x.bg i=x.bg+m*ec sg i.toNat 3:=rfl;split
 . dsimp only;rw[tadd_ln];have h2:(legTk x.pk x.ln (slk b0 b1 b2 x.a0 x.a1 x.a2 n0 n1 n2) (legS m (legLow x.bg (legE sg m x.bg i) f t) (legHigh x.bg (legE sg m x.bg i) f t)) x.a0 x.a1 x.a2 n0 n1 n2).2<=x.ln+4096:=by
    unfold legTk;split
    . rw[tadd_ln];show x.ln+slk b0 b1 b2 x.a0 x.a1 x.a2 n0 n1 n2<=x.ln+4096;omega
    . show x.ln<=x.ln+4096;omega
   have h3:legHigh x.bg (legE sg m x.bg i) f t-legLow x.bg (legE sg m x.bg i) f t<=131072:=by
    unfold legHigh legLow;rw[hE];rcases hm with rfl|rfl
    . omega
    . omega
   show _+(legHigh x.bg (legE sg m x.bg i) f t-legLow x.bg (legE sg m x.bg i) f t)<=x.ln+135168;omega
 . show x.ln<=x.ln+135168;omega
theorem legK_ln{s0 s1 s2:Int}{sg:List (List Int)}{b0 b1 b2 f t m:Int}{x:LegS}(hb:okB3 b0 b1 b2)(hm:m=1∨m= -1)(hs:okSegs s0 s1 s2 sg):∀k,k<=sg.length->(legK s0 s1 s2 sg b0 b1 b2 f t m x k).ln<=x.ln+135168*(k:Int)
 |0,_=>by show x.ln<=x.ln+135168*((0:Nat):Int);omega
 |k+1,h=>by
  have h1:=legK_ln (x:=x) hb hm hs (f:=f) (t:=t) k (by omega);have h2:=legStep_ln (x:=legK s0 s1 s2 sg b0 b1 b2 f t m x k) (f:=f) (t:=t) hb hm (show k<sg.length by omega) hs;show(legStep s0 s1 s2 sg b0 b1 b2 f t m (legK s0 s1 s2 sg b0 b1 b2 f t m x k) k).ln<=_;omega
theorem legM_pm(f t:Int):legM f t=1∨legM f t= -1:=by unfold legM;split<;>omega
theorem leg_ln{s0 s1 s2:Int}{sg:List (List Int)}{b0 b1 b2 d0 d1 d2 f t:Int}(hb:okB3 b0 b1 b2)(hs:okSegs s0 s1 s2 sg)(hl:sg.length<=355000):(leg s0 s1 s2 sg b0 b1 b2 d0 d1 d2 f t).ln<=1099511627776:=by
 unfold leg;have:=legK_ln (x:=⟨[],0,d0,d1,d2,if legM f t<0 then plen sg else 0⟩) (f:=f) (t:=t) hb (legM_pm f t) hs sg.length (Nat.le_refl _);dsimp only at this;omega
def trkPre(x:RunS):Prop:=okLen x.sg/\okPts x.s0 x.s1 x.s2 x.sg/\okTrk x.pk x.ln/\okMA x.a.st x.a.og x.a.sg x.a.pit x.a.bl/\okMA x.b.st x.b.og x.b.sg x.b.pit x.b.bl/\okMA x.c.st x.c.og x.c.sg x.c.pit x.c.bl/\(0<=x.f/\x.f<=18014398509481984)
theorem okRun_b3{x:RunS}(h:okRun x):okB3 x.a.bl x.b.bl x.c.bl:=by
 obtain⟨_,ha,hb,hc,_⟩:=h;have:=ha.2.2.2.2.1;have:=hb.2.2.2.2.1;have:=hc.2.2.2.2.1;unfold okB3;omega
theorem okRun_pre{x:RunS}(h:okRun x):trkPre x:=by
 have hb:=okRun_b3 h;obtain⟨hp,ha,hb',hc,hd,hf,ht,h1,h2⟩:=h;have hl:=okPath_len hp;have hk:=leg_ok (s0:=x.s0) (s1:=x.s1) (s2:=x.s2) (d0:=x.d0) (d1:=x.d1) (d2:=x.d2) hl hb hf ht;have:=plen_le hl;refine⟨hl,okPath_pts hp,?_,okAx_MA ha,okAx_MA hb',okAx_MA hc,by omega⟩;rw[h1,h2];exact hk
theorem okRun_ln{x:RunS}(h:okRun x):x.ln<=1099511627776:=by
 rw[h.2.2.2.2.2.2.2.2];exact leg_ln (okRun_b3 h) h.1.2.1 h.1.2.2.1
def RunS.M0(x:RunS):Int->Int:=mtr x.a.st x.a.og x.a.sg x.a.pit x.a.bl x.s0 x.sg 0 x.pk x.f x.d0
def RunS.M1(x:RunS):Int->Int:=mtr x.b.st x.b.og x.b.sg x.b.pit x.b.bl x.s1 x.sg 1 x.pk x.f x.d1
def RunS.M2(x:RunS):Int->Int:=mtr x.c.st x.c.og x.c.sg x.c.pit x.c.bl x.s2 x.sg 2 x.pk x.f x.d2
end U
namespace Go.Proofs.YtoekmphdpepdbaaGreat
open Go Go.HL U
def SPieceR(hA:List HV)(pA:List (List HC)):SR:=match hA,pA with
 |[.agg [.sl false [4,4,4,4,4,4,4,4,4,4] pk, .int .i64 ln, .int .i64 sa, .int .i64 d0, .int .i64 d1, .int .i64 d2], .ce (.int .i64 u)],[]=> .det (okTrk pk ln) ⟨.tup [.ce (I6 (tfind pk (clamp ln u))), .ce (I6 (clamp ln u))],false,[],[]⟩
 |_,_=> .fail
def anPieceR:LAnn:=⟨[1,2,4,5,14,15,16],[1,2,4,5],[1000002],false⟩
def LPieceR(v:LV):LR:=match v with
 |([.ce (.int .i64 u), .ce (.ptr 1000002 0), .ce (.int .i64 z), .ce (.int .i64 y), .ce (.sl false [4,4,4,4,4,4,4,4,4,4] l), .ce (.int .i64 n), .ce (.int .i64 i)],[[.sl false [4,4,4,4,4,4,4,4,4,4] pk, .int .i64 ln, .int .i64 sa, .int .i64 d0, .int .i64 d1, .int .i64 d2]])=> .alts (n=(l.length:Int)/\i=0/\l=pk/\okTrk pk ln/\0<=u/\u<=ln) [(tfind pk u= -1, .exit 0,([.ce (I6 u), .ce (.ptr 1000002 0), .ce (I6 z), .ce (I6 y)],[[.sl false [4,4,4,4,4,4,4,4,4,4] pk,I6 ln,I6 sa,I6 d0,I6 d1,I6 d2]])),(0<=tfind pk u, .ret,([.ce (I6 u), .ce (.ptr 1000002 0), .ce (I6 (tfind pk u)), .ce (I6 u)],[[.sl false [4,4,4,4,4,4,4,4,4,4] pk,I6 ln,I6 sa,I6 d0,I6 d1,I6 d2]]))]
 |_=> .fail
noncomputable def CPieceR:Ctx:=⟨Tryz.prog,gam [],Tryz.f83.ntmps,[(3,anPieceR,LPieceR)],[]⟩
theorem vbPieceR(u z y n i ln sa d0 d1 d2:Int)(l pk:LL)(K:HEx->LV->Prop):(nbodyT true CPieceR anPieceR (nthLoop Tryz.f83 0) (([.ce (I6 u), .ce (.ptr 1000002 0), .ce (I6 z), .ce (I6 y), .ce (.sl false [4,4,4,4,4,4,4,4,4,4] l), .ce (I6 n), .ce (I6 i)],[[.sl false [4,4,4,4,4,4,4,4,4,4] pk,I6 ln,I6 sa,I6 d0,I6 d1,I6 d2]])) K)=(Br (i<n) ((0<=i/\i<(l.length:Int))/\R6 (el l i.toNat+ec l i.toNat 1)/\∀x1,x1=el l i.toNat+ec l i.toNat 1->Br (u<=x1) (K .ret ([.ce (I6 u), .ce (.ptr 1000002 0), .ce (I6 i), .ce (I6 u)],[[.sl false [4,4,4,4,4,4,4,4,4,4] pk,I6 ln,I6 sa,I6 d0,I6 d1,I6 d2]])) (R6 (i+1)/\∀x2,x2=i+1->K .normal ([.ce (I6 u), .ce (.ptr 1000002 0), .ce (I6 z), .ce (I6 y), .ce (.sl false [4,4,4,4,4,4,4,4,4,4] l), .ce (I6 n), .ce (I6 x2)],[[.sl false [4,4,4,4,4,4,4,4,4,4] pk,I6 ln,I6 sa,I6 d0,I6 d1,I6 d2]]))) (K (.exit 0) ([.ce (I6 u), .ce (.ptr 1000002 0), .ce (I6 z), .ce (I6 y)],[[.sl false [4,4,4,4,4,4,4,4,4,4] pk,I6 ln,I6 sa,I6 d0,I6 d1,I6 d2]]))):=by kernel_rfl
theorem vcPieceR(u ln sa d0 d1 d2:Int)(pk:LL)(Q:Res->Prop):(nfun true CPieceR Tryz.f83 (bodyOf Tryz.f83) [.agg [.sl false [4,4,4,4,4,4,4,4,4,4] pk,I6 ln,I6 sa,I6 d0,I6 d1,I6 d2], .ce (I6 u)] [] Q)=(∀x1,x1=max u 0->∀x2,x2=min x1 ln->((pk.length:Int)=(pk.length:Int)/\(0:Int)=0/\pk=pk/\okTrk pk ln/\0<=x2/\x2<=ln)/\(tfind pk x2=(-1:Int)->Q ⟨.tup [.ce (I6 (-1)), .ce (I6 x2)],false,[],[]⟩)/\(0<=tfind pk x2->Q ⟨.tup [.ce (I6 (tfind pk x2)), .ce (I6 x2)],false,[],[]⟩)):=by kernel_rfl
section
attribute [local irreducible] hfun bodyT fragT
theorem loopPieceR:∀v Q,(LPieceR v).wp Q->hloop CPieceR anPieceR (nthLoop Tryz.f83 0) v Q:=by
 intro v Q h;unfold LPieceR at h;split at h;case h_2=>exact h.elim
 rename_i u z y l n i pk ln sa d0 d1 d2;obtain⟨⟨h1,h2,h3,h4,h5,h6⟩,q0,q1⟩:=h;subst h1 h2 h3;refine hloop_rec (σ:=Nat) (fun k=>([.ce (I6 u), .ce (.ptr 1000002 0), .ce (I6 z), .ce (I6 y), .ce (.sl false [4,4,4,4,4,4,4,4,4,4] l), .ce (I6 (l.length:Int)), .ce (I6 (k:Int))],[[.sl false [4,4,4,4,4,4,4,4,4,4] l,I6 ln,I6 sa,I6 d0,I6 d1,I6 d2]])) (fun k=>l.length-k) (fun k=>k<=l.length/\∀j,j<k->endp l j<u) ?_ 0 ⟨Nat.zero_le _,fun j hj=>by omega⟩;rintro k⟨hk,hk2⟩K hn hx hr;refine byVB (vbPieceR u z y l.length k ln sa d0 d1 d2 l l K) ⟨fun g=> ?_,fun g=> ?_⟩
 . have g:=odt g;have hkl:k<l.length:=by omega
   have ht:Int.toNat (k:Int)=k:=rfl;rw[ht];have ab:=at_bd h4 hkl;have lnb:=h4.2.1;have hll:=h4.1;have ee:endp l k=el l k+ec l k 1:=rfl;refine⟨by omega,by omega,fun x1 e1=>⟨fun g1=> ?_,fun g1=>⟨by omega,fun x2 e2=> ?_⟩⟩⟩
   . have g1:=odt g1;have hf:tfind l u=k:=tfind_of hkl (by omega) hk2;have q:=q1 (by omega);rw[hf]at q;exact hr _ q
   . have g1:=odf g1;rw[show x2=((k+1:Nat):Int)by omega];refine hn (k+1) ⟨hkl,fun j hj=> ?_⟩ (by omega);by_cases hjk:j<k
     . exact hk2 j hjk
     . have:j=k:=by omega
       subst this;omega
 . have g:=odf g;refine hx _ _ (q0 ?_);rcases tfind_spec h4 h6 with⟨_,e⟩|⟨j,j1,j2,j3,_⟩
   . omega
   . have:=hk2 j (by omega);omega
theorem sPieceR:Sound Tryz.prog 83 SPieceR:=by
 refine sound_of (C:=CPieceR) [] Tryz.func83 (by kernel_rfl) (by decide+kernel) (by kernel_rfl) rfl trivial (loops1 (by kernel_rfl) (loopOK_of (an:=anPieceR) (S:=LPieceR) (by kernel_rfl) loopPieceR)) ?_;intro hA pA R h;unfold SPieceR at h;split at h;case h_2=>exfalso;exact h
 rename_i pk ln sa d0 d1 d2 u;obtain⟨ht,hq⟩:=h;have hl:=ht.2.1;refine byVC (vcPieceR u ln sa d0 d1 d2 pk R) (fun x1 e1 x2 e2=> ?_);have e:clamp ln u=x2:=by unfold clamp;omega
 rw[e]at hq;refine⟨⟨rfl,rfl,rfl,ht,by omega,by omega⟩,fun g=> ?_,fun _=>hq⟩;rw[g]at hq;exact hq
end
theorem okSegs_D{s0 s1 s2:Int}{sg:LL}(h:okSegs s0 s1 s2 sg){j:Nat}(hj:j<sg.length):(-(ec sg j 3)<=ec sg j 0-bgn s0 sg 0 j/\ec sg j 0-bgn s0 sg 0 j<=ec sg j 3)/\(-(ec sg j 3)<=ec sg j 1-bgn s1 sg 1 j/\ec sg j 1-bgn s1 sg 1 j<=ec sg j 3)/\(-(ec sg j 3)<=ec sg j 2-bgn s2 sg 2 j/\ec sg j 2-bgn s2 sg 2 j<=ec sg j 3):=(h j hj).2.2
def tabP3:List (FuncId×HL.Spec):=[(122,SCorrect),(121,SSteps)]
noncomputable def CMotor2:Ctx:=⟨Tryz.prog,gam tabP3,12,[],[]⟩
noncomputable def CCorrect2:Ctx:=⟨Tryz.prog,gam tabP1,75,[],[]⟩
noncomputable def CSteps2:Ctx:=⟨Tryz.prog,gam tabP1,14,[],[]⟩
theorem vcCorrect2(st sp ac je lo hi bl og sg p:Int)(pit:LL)(Q:Res->Prop):(nfun true CCorrect2 Tryz.f122 (bodyOf Tryz.f122) [.agg (axI st sp ac je lo hi bl og sg pit), .ce (I6 p)] [] Q)=(Bb ((pit.length:Int)==0) (Q ⟨.ce (I6 0),false,[],[]⟩) (Br (p<=og) (((0:Int)<=0/\(0:Int)<(pit.length:Int))/\∀x1,x1=el pit (0:Nat)->Q ⟨.ce (I6 x1),false,[],[]⟩) (R6 (p-og)/\∀x2,x2=p-og->sg≠0/\R6 (Int.tdiv x2 sg)/\∀x3,x3=Int.tdiv x2 sg->R6 ((pit.length:Int)-1)/\∀x4,x4=(pit.length:Int)-1->Br (x3>=x4) (R6 ((pit.length:Int)-1)/\∀x5,x5=(pit.length:Int)-1->(0<=x5/\x5<(pit.length:Int))/\∀x6,x6=el pit x5.toNat->Q ⟨.ce (I6 x6),false,[],[]⟩) (R6 (p-og)/\∀x7,x7=p-og->R6 (x3*sg)/\∀x8,x8=x3*sg->R6 (x7-x8)/\∀x9,x9=x7-x8->(0<=x3/\x3<(pit.length:Int))/\∀x10,x10=el pit x3.toNat->R6 (x3+1)/\∀x11,x11=x3+1->(0<=x11/\x11<(pit.length:Int))/\∀x12,x12=el pit x11.toNat->(0<=x3/\x3<(pit.length:Int))/\∀x13,x13=el pit x3.toNat->R6 (x12-x13)/\∀x14,x14=x12-x13->(-9223372036854775808<=2*x14/\2*x14<=9223372036854775807)/\∀x15,x15=2*x14->R6 (x15*x9)/\∀x16,x16=x15*x9->R6 (x16+sg)/\∀x17,x17=x16+sg->R6 (2*sg)/\∀x18,x18=2*sg->((-9223372036854775807<=x17/\x17<=9223372036854775807)/\0<x18)/\∀x19,x19=x17/x18->R6 (x10+x19)/\∀x20,x20=x10+x19->Q ⟨.ce (I6 x20),false,[],[]⟩)))):=by kernel_rfl
theorem vcSteps2(st sp ac je lo hi bl og sg p:Int)(pit:LL)(Q:Res->Prop):(nfun true CSteps2 Tryz.f121 (bodyOf Tryz.f121) [.agg (axI st sp ac je lo hi bl og sg pit), .ce (I6 p)] [] Q)=(R6 (2*p)/\∀x1,x1=2*p->R6 (x1+st)/\∀x2,x2=x1+st->R6 (2*st)/\∀x3,x3=2*st->((-9223372036854775807<=x2/\x2<=9223372036854775807)/\0<x3)/\∀x4,x4=x2/x3->Q ⟨.ce (I6 x4),false,[],[]⟩):=by kernel_rfl
theorem vcMotor2(st sp ac je lo hi bl og sg p:Int)(pit:LL)(Q:Res->Prop):(nfun true CMotor2 Tryz.f109 (bodyOf Tryz.f109) [.agg (axI st sp ac je lo hi bl og sg pit), .ce (I6 p)] [] Q)=((okC og sg pit/\ -1073741824<=p/\p<=1073741824)/\∀x1,x1=corr og sg pit p->R6 (p+x1)/\∀x2,x2=p+x1->((0<st/\st<=16777216)/\ -1099511627776<=x2/\x2<=1099511627776)/\∀x3,x3=stp st x2->Q ⟨.ce (I6 x3),false,[],[]⟩):=by kernel_rfl
theorem sCorrect2:Sound Tryz.prog 122 SCorrect:=by
 refine sound_of (C:=CCorrect2) tabP1 Tryz.func122 (by kernel_rfl) (by decide+kernel) (by kernel_rfl) rfl ⟨sMulDiv,sFloor,trivial⟩ (loops0 (by kernel_rfl)) ?_;intro hA pA R h;unfold SCorrect at h;split at h;case h_2=>exfalso;exact h
 rename_i st x1 x2 x3 x4 x5 x6 og sg pit p;obtain⟨⟨hc,hp1,hp2⟩,hq⟩:=h;obtain⟨h1,h2,h3,h4,h5⟩:=hc;refine byVC (vcCorrect2 st x1 x2 x3 x4 x5 x6 og sg p pit R) ⟨fun k=> ?_,fun k=> ?_⟩
 . have k:(pit.length:Int)=0:=by simpa using k
   rw[corr_empty p (by omega)]at hq;exact hq
 have k:¬(pit.length:Int)=0:=by simpa using k
 have hs:=h1 (by omega);refine⟨fun k2=> ?_,fun k2=> ?_⟩
 . have k2:=odt k2;refine⟨by omega,fun y3 e3=> ?_⟩;rw[corr_lo (by omega) hs (by omega)]at hq;rw[e3];exact hq
 have k2:=odf k2;refine⟨by omega,fun y2 e2=> ?_⟩;have ed:=ediv_bd (a:=y2) hs;have ed1:=ed.1 (by omega);have et:y2.tdiv sg=y2/sg:=Int.tdiv_eq_ediv_of_nonneg (by omega);rw[e2]at et ed1;rw[<-e2]at et;refine⟨by omega,by rw[et];omega,fun y5 e5=>⟨by omega,fun y1 e1=>⟨fun k4=> ?_,fun k4=> ?_⟩⟩⟩
 . have k4:=odt k4;refine⟨by omega,fun y1' e1'=>⟨by omega,fun y6 e6=> ?_⟩⟩;rw[corr_hi (by omega) hs (by omega) (by rw[<-e2];omega)]at hq;rw[e6,show y1'.toNat=pit.length-1 by omega];exact hq
 have k4:=odf k4;have hd:y5=(p-og)/sg:=by rw[<-e2];omega
 have hmod:=Int.mul_ediv_add_emod (p-og) sg;have r0:=Int.emod_nonneg (p-og) (show sg≠0 by omega);have r1:=Int.emod_lt_of_pos (p-og) hs;rw[corr_mid (by omega) hs (by omega) (by omega)]at hq;have bd:=corr_bd ⟨h1,h2,h3,h4,h5⟩ p;rw[corr_mid (by omega) hs (by omega) (by omega)]at bd;rw[<-hd]at hq bd hmod;generalize(p-og)%sg=r at*;have em:y5*sg=p-og-r:=by rw[Int.mul_comm];omega
 have a:=h5 y5.toNat (by omega);have b:=h5 (y5.toNat+1) (by omega);refine⟨by omega,fun y7 e7=>⟨by omega,fun y8 e8=>⟨by omega,fun y9 e9=> ?_⟩⟩⟩;have er:y9=r:=by omega
 refine⟨by omega,fun y10 e10=>⟨by omega,fun y11 e11=>⟨by omega,fun y12 e12=>⟨by omega,fun y13 e13=> ?_⟩⟩⟩⟩;rw[show y11.toNat=y5.toNat+1 by omega]at e12;rw[<-e10]at a hq bd e13;rw[<-e12]at b hq bd;refine⟨by omega,fun y14 e14=>⟨by omega,fun y15 e15=> ?_⟩⟩;rw[<-er]at hq bd r0 r1;rw[show y12-y10=y14 by omega]at hq bd;have pb:=mul_bd2 (a:=y14) (b:=y9) (A:=8192) (B:=16777216) (by omega) (by omega);have e2':y15*y9=2*(y14*y9):=by rw[e15,Int.mul_assoc]
 refine⟨by omega,fun y16 e16=>⟨by omega,fun y17 e17=>⟨by omega,fun y18 e18=>⟨by omega,fun y19 e19=> ?_⟩⟩⟩⟩;rw[<-e2',<-e16,<-e17,<-e18,<-e19]at hq bd;refine⟨by omega,fun y20 e20=> ?_⟩;rw[e20];exact hq
theorem sSteps2:Sound Tryz.prog 121 SSteps:=by
 refine sound_of (C:=CSteps2) tabP1 Tryz.func121 (by kernel_rfl) (by decide+kernel) (by kernel_rfl) rfl ⟨sMulDiv,sFloor,trivial⟩ (loops0 (by kernel_rfl)) ?_;intro hA pA R h;unfold SSteps at h;split at h;case h_2=>exfalso;exact h
 rename_i st x1 x2 x3 x4 x5 x6 og sg pit p;obtain⟨⟨h1,h2⟩,hq⟩:=h;refine byVC (vcSteps2 st x1 x2 x3 x4 x5 x6 og sg p pit R) ⟨by omega,fun y1 e1=>⟨by omega,fun y2 e2=>⟨by omega,fun y3 e3=>⟨by omega,fun y4 e4=> ?_⟩⟩⟩⟩;rw[e4,e3,e2,e1];exact hq
theorem sMotor2:Sound Tryz.prog 109 SMotor:=by
 refine sound_of (C:=CMotor2) tabP3 Tryz.func109 (by kernel_rfl) (by decide+kernel) (by kernel_rfl) rfl ⟨sCorrect2,sSteps2,trivial⟩ (loops0 (by kernel_rfl)) ?_;intro hA pA R h;unfold SMotor at h;split at h;case h_2=>exfalso;exact h
 rename_i st x1 x2 x3 x4 x5 x6 og sg pit p;obtain⟨⟨h1,h2,h3⟩,hq⟩:=h;have bd:=corr_bd h2 p;refine byVC (vcMotor2 st x1 x2 x3 x4 x5 x6 og sg p pit R) ⟨⟨h2,h3⟩,fun y1 e1=> ?_⟩;rw[<-e1]at bd;refine⟨by omega,fun y2 e2=>⟨⟨h1,by omega⟩,fun y3 e3=> ?_⟩⟩;rw[e3,e2,e1,stp_eq];exact hq
end Go.Proofs.YtoekmphdpepdbaaGreat
namespace U
open Go
def nomi(st og sg:Int)(pt:LL)(s:Int)(sgs:LL)(c:Nat)(p:Int):Int:=mot st og sg pt (ptAt s sgs c p)
end U
namespace Go.Proofs.YtoekmphdpepdbaaGreat
open Go Go.HL U
def anPFR:LAnn:=⟨[1,2,4,5,16,17,18],[2,4,5],[1000002],false⟩
def LPFR(v:LV):LR:=match v with
 |([.ce (.int .i64 p), .ce (.ptr 1000002 0), .ce (.int .i64 z), .ce (.int .i64 y), .ce (.sl false [4,4,4,4,4,4,4] l), .ce (.int .i64 n), .ce (.int .i64 i)],[[.int .i64 s0, .int .i64 s1, .int .i64 s2, .sl false [4,4,4,4,4,4,4] sg, .sl false [4,4,4] mk]])=> .alts (n=l.length/\i=0/\(0<=p/\p<=4611686018427387904)/\okLen l) [((lfA l 0 p).1<0, .exit 0,([.ce (.ptr 1000002 0), .ce (I6 z), .ce (I6 y)],[[I6 s0,I6 s1,I6 s2, .sl false [4,4,4,4,4,4,4] sg, .sl false [4,4,4] mk]])),(0<=(lfA l 0 p).1, .ret,([.ce (.ptr 1000002 0), .ce (I6 (lfA l 0 p).1), .ce (I6 (lfA l 0 p).2)],[[I6 s0,I6 s1,I6 s2, .sl false [4,4,4,4,4,4,4] sg, .sl false [4,4,4] mk]]))]
 |_=> .fail
noncomputable def CPFindR:Ctx:=⟨Tryz.prog,gam [],Tryz.f88.ntmps,[(5,anPFR,LPFR)],[]⟩
theorem vbPFindR(s0 s1 s2 p z y n i:Int)(sg mk l:LL)(K:HEx->LV->Prop):(nbodyT true CPFindR anPFR (nthLoop Tryz.f88 0) (([.ce (I6 p), .ce (.ptr 1000002 0), .ce (I6 z), .ce (I6 y), .ce (.sl false [4,4,4,4,4,4,4] l), .ce (I6 n), .ce (I6 i)],[[I6 s0,I6 s1,I6 s2, .sl false [4,4,4,4,4,4,4] sg, .sl false [4,4,4] mk]])) K)=(Br (i<n) ((0<=i/\i<(l.length:Int))/\Br (p<ec l i.toNat 3) (K .ret ([.ce (.ptr 1000002 0), .ce (I6 i), .ce (I6 p)],[[I6 s0,I6 s1,I6 s2, .sl false [4,4,4,4,4,4,4] sg, .sl false [4,4,4] mk]])) (R6 (p-ec l i.toNat 3)/\∀x1,x1=p-ec l i.toNat 3->R6 (i+1)/\∀x2,x2=i+1->K .normal ([.ce (I6 x1), .ce (.ptr 1000002 0), .ce (I6 z), .ce (I6 y), .ce (.sl false [4,4,4,4,4,4,4] l), .ce (I6 n), .ce (I6 x2)],[[I6 s0,I6 s1,I6 s2, .sl false [4,4,4,4,4,4,4] sg, .sl false [4,4,4] mk]]))) (K (.exit 0) ([.ce (.ptr 1000002 0), .ce (I6 z), .ce (I6 y)],[[I6 s0,I6 s1,I6 s2, .sl false [4,4,4,4,4,4,4] sg, .sl false [4,4,4] mk]]))):=by kernel_rfl
theorem vcPFindR(s0 s1 s2 p:Int)(sg mk:LL)(Q:Res->Prop):(nfun true CPFindR Tryz.f88 (bodyOf Tryz.f88) [.agg [I6 s0,I6 s1,I6 s2, .sl false [4,4,4,4,4,4,4] sg, .sl false [4,4,4] mk], .ce (I6 p)] [] Q)=(Bb ((sg.length:Int)==0) (Q ⟨.tup [.ce (I6 (-1)), .ce (I6 0)],false,[],[]⟩) (∀x1,x1=max p 0->((sg.length:Int)=(sg.length:Int)/\(0:Int)=0/\(0<=x1/\x1<=4611686018427387904)/\okLen sg)/\((lfA sg (0:Int) x1).1<0->R6 ((sg.length:Int)-1)/\∀x2,x2=(sg.length:Int)-1->(0<=x2/\x2<(sg.length:Int))/\∀x3,x3=ec sg x2.toNat 3->Q ⟨.tup [.ce (I6 x2), .ce (I6 x3)],false,[],[]⟩)/\((0:Int)<=(lfA sg (0:Int) x1).1->Q ⟨.tup [.ce (I6 (lfA sg (0:Int) x1).1), .ce (I6 (lfA sg (0:Int) x1).2)],false,[],[]⟩))):=by kernel_rfl
def SAtR(hA:List HV)(pA:List (List HC)):SR:=match hA,pA with
 |[.agg [.int .i64 s0, .int .i64 s1, .int .i64 s2, .sl false [4,4,4,4,4,4,4] sg, .sl false [4,4,4] mk], .ce (.int .i64 p)],[]=> .det (okPath s0 s1 s2 sg mk/\p<=4611686018427387904) ⟨.agg [I6 (ptAt s0 sg 0 p),I6 (ptAt s1 sg 1 p),I6 (ptAt s2 sg 2 p)],false,[],[]⟩
 |_,_=> .fail
def tabAtR:List (FuncId×HL.Spec):=[(88,SPFind),(107,SBegin),(100,SRnd)]
noncomputable def CAtR:Ctx:=⟨Tryz.prog,gam tabAtR,Tryz.f108.ntmps,[(4000006,unrT [1000002,1000004,1000007,1000008],fun _=> .fail)],[]⟩
theorem vcAtR(s0 s1 s2 p:Int)(sg mk:LL)(Q:Res->Prop):(nfun true CAtR Tryz.f108 (bodyOf Tryz.f108) [.agg [I6 s0,I6 s1,I6 s2, .sl false [4,4,4,4,4,4,4] sg, .sl false [4,4,4] mk], .ce (I6 p)] [] Q)=((okLen sg/\p<=4611686018427387904)/\(∃(x:Int×Int),x=pfind sg p)/\∀(x:Int×Int),x=pfind sg p->Br (x.1<0) (Q ⟨.agg [I6 s0,I6 s1,I6 s2],false,[],[]⟩) ((0<=x.1/\x.1<(sg.length:Int))/\(x.1<=(sg.length:Int)/\sg.length<=1073741824)/\∀x2,x2=bgn s0 sg (0:Nat) x.1->∀x3,x3=bgn s1 sg (1:Nat) x.1->∀x4,x4=bgn s2 sg (2:Nat) x.1->R6 (el sg x.1.toNat-x2)/\∀x5,x5=el sg x.1.toNat-x2->R6 (x5*x.2)/\∀x6,x6=x5*x.2->(-2305843009213693952<=x6/\x6<=2305843009213693952/\0<ec sg x.1.toNat 3/\ec sg x.1.toNat 3<=2305843009213693952)/\∀x7,x7=rnd x6 (ec sg x.1.toNat 3)->R6 (x2+x7)/\∀x8,x8=x2+x7->R6 (ec sg x.1.toNat 1-x3)/\∀x9,x9=ec sg x.1.toNat 1-x3->R6 (x9*x.2)/\∀x10,x10=x9*x.2->(-2305843009213693952<=x10/\x10<=2305843009213693952/\0<ec sg x.1.toNat 3/\ec sg x.1.toNat 3<=2305843009213693952)/\∀x11,x11=rnd x10 (ec sg x.1.toNat 3)->R6 (x3+x11)/\∀x12,x12=x3+x11->R6 (ec sg x.1.toNat 2-x4)/\∀x13,x13=ec sg x.1.toNat 2-x4->R6 (x13*x.2)/\∀x14,x14=x13*x.2->(-2305843009213693952<=x14/\x14<=2305843009213693952/\0<ec sg x.1.toNat 3/\ec sg x.1.toNat 3<=2305843009213693952)/\∀x15,x15=rnd x14 (ec sg x.1.toNat 3)->R6 (x4+x15)/\∀x16,x16=x4+x15->Q ⟨.agg [I6 x8,I6 x12,I6 x16],false,[],[]⟩)):=by kernel_rfl
def tabPlaceR:List (FuncId×HL.Spec):=[(83,SPieceR)]
noncomputable def CPlaceR:Ctx:=⟨Tryz.prog,gam tabPlaceR,Tryz.f82.ntmps,[],[]⟩
theorem vcPlaceR(u ln sa d0 d1 d2:Int)(pk:LL)(Q:Res->Prop):(nfun true CPlaceR Tryz.f82 (bodyOf Tryz.f82) [.agg [.sl false [4,4,4,4,4,4,4,4,4,4] pk,I6 ln,I6 sa,I6 d0,I6 d1,I6 d2], .ce (I6 u)] [] Q)=(okTrk pk ln/\∀x1,x1=tfind pk (clamp ln u)->∀x2,x2=clamp ln u->Br (x1<0) (Q ⟨.ce (I6 sa),false,[],[]⟩) ((0<=x1/\x1<(pk.length:Int))/\∀x3,x3=ec pk x1.toNat 2->(0<=x1/\x1<(pk.length:Int))/\∀x4,x4=ec pk x1.toNat 3->(0<=x1/\x1<(pk.length:Int))/\∀x5,x5=el pk x1.toNat->R6 (x2-x5)/\∀x6,x6=x2-x5->R6 (x4*x6)/\∀x7,x7=x4*x6->R6 (x3+x7)/\∀x8,x8=x3+x7->Q ⟨.ce (I6 x8),false,[],[]⟩)):=by kernel_rfl
noncomputable def CBshR:Ctx:=⟨Tryz.prog,gam [],Tryz.f84.ntmps,[],[]⟩
theorem vcBshR(sta spa aca jea loa hia bla oga sga:Int)(pta:LL)(d:Int)(Q:Res->Prop):(nfun true CBshR Tryz.f84 (bodyOf Tryz.f84) [.agg [I6 sta,I6 spa,I6 aca,I6 jea,I6 loa,I6 hia,I6 bla,I6 oga,I6 sga, .sl false [4] pta], .ce (I6 d)] [] Q)=(Bb (d==(-1:Int)) (R6 (0-bla)/\∀x1,x1=0-bla->Q ⟨.ce (I6 x1),false,[],[]⟩) (Q ⟨.ce (I6 0),false,[],[]⟩)):=by kernel_rfl
def tabTshR:List (FuncId×HL.Spec):=[(84,SBsh)]
noncomputable def CTshR:Ctx:=⟨Tryz.prog,gam tabTshR,Tryz.f85.ntmps,[],[spl 1 2 6 0]⟩
theorem vcTshR(sta spa aca jea loa hia bla oga sga:Int)(pta:LL)(q0 q1 q2 q3 q4 q5 q6 q7 q8 q9 k u:Int)(Q:Res->Prop):(nfun true CTshR Tryz.f85 (bodyOf Tryz.f85) [.agg [I6 sta,I6 spa,I6 aca,I6 jea,I6 loa,I6 hia,I6 bla,I6 oga,I6 sga, .sl false [4] pta], .agg [I6 q0,I6 q1,I6 q2,I6 q3,I6 q4,I6 q5,I6 q6,I6 q7,I6 q8,I6 q9], .ce (I6 k), .ce (I6 u)] [] Q)=((k=0->Bb (q3 !=0) ((0<=bla/\bla<=4096)/\∀x1,x1=bsh bla q7->Q ⟨.ce (I6 x1),false,[],[]⟩) (Bb (q4==q7) ((0<=bla/\bla<=4096)/\∀x2,x2=bsh bla q7->Q ⟨.ce (I6 x2),false,[],[]⟩) (R6 (u-q0)/\∀x3,x3=u-q0->∀x4,x4=min x3 bla->Bb (q7==(-1:Int)) (R6 (0-x4)/\∀x5,x5=0-x4->Q ⟨.ce (I6 x5),false,[],[]⟩) (R6 (x4-bla)/\∀x6,x6=x4-bla->Q ⟨.ce (I6 x6),false,[],[]⟩))))/\(k≠0->(k=1->Bb (q3 !=0) ((0<=bla/\bla<=4096)/\∀x7,x7=bsh bla q8->Q ⟨.ce (I6 x7),false,[],[]⟩) (Bb (q5==q8) ((0<=bla/\bla<=4096)/\∀x8,x8=bsh bla q8->Q ⟨.ce (I6 x8),false,[],[]⟩) (R6 (u-q0)/\∀x9,x9=u-q0->∀x10,x10=min x9 bla->Bb (q8==(-1:Int)) (R6 (0-x10)/\∀x11,x11=0-x10->Q ⟨.ce (I6 x11),false,[],[]⟩) (R6 (x10-bla)/\∀x12,x12=x10-bla->Q ⟨.ce (I6 x12),false,[],[]⟩))))/\(k≠1->(k=2->Bb (q3 !=0) ((0<=bla/\bla<=4096)/\∀x13,x13=bsh bla q9->Q ⟨.ce (I6 x13),false,[],[]⟩) (Bb (q6==q9) ((0<=bla/\bla<=4096)/\∀x14,x14=bsh bla q9->Q ⟨.ce (I6 x14),false,[],[]⟩) (R6 (u-q0)/\∀x15,x15=u-q0->∀x16,x16=min x15 bla->Bb (q9==(-1:Int)) (R6 (0-x16)/\∀x17,x17=0-x16->Q ⟨.ce (I6 x17),false,[],[]⟩) (R6 (x16-bla)/\∀x18,x18=x16-bla->Q ⟨.ce (I6 x18),false,[],[]⟩))))/\(k≠2->False)))):=by kernel_rfl
def SNom(hA:List HV)(pA:List (List HC)):SR:=match hA,pA with
 |[.agg [.int .i64 s0, .int .i64 s1, .int .i64 s2, .sl false [4,4,4,4,4,4,4] sg, .sl false [4,4,4] mk], .agg ax, .ce (.int .i64 p)],[]=>match ax with
  |[.int .i64 sta, .int .i64 spa, .int .i64 aca, .int .i64 jea, .int .i64 loa, .int .i64 hia, .int .i64 bla, .int .i64 oga, .int .i64 sga, .sl false [4] pta, .int .i64 stb, .int .i64 spb, .int .i64 acb, .int .i64 jeb, .int .i64 lob, .int .i64 hib, .int .i64 blb, .int .i64 ogb, .int .i64 sgb, .sl false [4] ptb, .int .i64 stc, .int .i64 spc, .int .i64 acc, .int .i64 jec, .int .i64 loc, .int .i64 hic, .int .i64 blc, .int .i64 ogc, .int .i64 sgc, .sl false [4] ptc]=> .det (okPath s0 s1 s2 sg mk/\okMA sta oga sga pta bla/\okMA stb ogb sgb ptb blb/\okMA stc ogc sgc ptc blc/\p<=4611686018427387904) ⟨.agg [I6 (nomi sta oga sga pta s0 sg 0 p),I6 (nomi stb ogb sgb ptb s1 sg 1 p),I6 (nomi stc ogc sgc ptc s2 sg 2 p)],false,[],[]⟩
  |_=> .fail
 |_,_=> .fail
def tabNom:List (FuncId×HL.Spec):=[(108,SAtR),(109,SMotor)]
noncomputable def CNom:Ctx:=⟨Tryz.prog,gam tabNom,Tryz.f81.ntmps,[(4000004,unrT [1000003,1000004,1000006,1000007,1000008],fun _=> .fail)],[]⟩
theorem vcNom(s0 s1 s2 p:Int)(sg mk:LL)(sta spa aca jea loa hia bla oga sga stb spb acb jeb lob hib blb ogb sgb stc spc acc jec loc hic blc ogc sgc:Int)(pta ptb ptc:LL)(Q:Res->Prop):(nfun true CNom Tryz.f81 (bodyOf Tryz.f81) [.agg [I6 s0,I6 s1,I6 s2, .sl false [4,4,4,4,4,4,4] sg, .sl false [4,4,4] mk], .agg [I6 sta,I6 spa,I6 aca,I6 jea,I6 loa,I6 hia,I6 bla,I6 oga,I6 sga, .sl false [4] pta,I6 stb,I6 spb,I6 acb,I6 jeb,I6 lob,I6 hib,I6 blb,I6 ogb,I6 sgb, .sl false [4] ptb,I6 stc,I6 spc,I6 acc,I6 jec,I6 loc,I6 hic,I6 blc,I6 ogc,I6 sgc, .sl false [4] ptc], .ce (I6 p)] [] Q)=((okPath s0 s1 s2 sg mk/\p<=4611686018427387904)/\∀x1,x1=ptAt s0 sg (0:Nat) p->∀x2,x2=ptAt s1 sg (1:Nat) p->∀x3,x3=ptAt s2 sg (2:Nat) p->((0<sta/\sta<=16777216)/\okC oga sga pta/\ -1073741824<=x1/\x1<=1073741824)/\∀x4,x4=mot sta oga sga pta x1->((0<stb/\stb<=16777216)/\okC ogb sgb ptb/\ -1073741824<=x2/\x2<=1073741824)/\∀x5,x5=mot stb ogb sgb ptb x2->((0<stc/\stc<=16777216)/\okC ogc sgc ptc/\ -1073741824<=x3/\x3<=1073741824)/\∀x6,x6=mot stc ogc sgc ptc x3->Q ⟨.agg [I6 x4,I6 x5,I6 x6],false,[],[]⟩):=by kernel_rfl
def SMotorsR(hA:List HV)(pA:List (List HC)):SR:=match hA,pA with
 |[.agg [.int .i64 s0, .int .i64 s1, .int .i64 s2, .sl false [4,4,4,4,4,4,4] sg, .sl false [4,4,4] mk], .agg ax, .agg [.sl false [4,4,4,4,4,4,4,4,4,4] pk, .int .i64 ln, .int .i64 sa, .int .i64 d0, .int .i64 d1, .int .i64 d2], .ce (.int .i64 u)],[]=>match ax with
  |[.int .i64 sta, .int .i64 spa, .int .i64 aca, .int .i64 jea, .int .i64 loa, .int .i64 hia, .int .i64 bla, .int .i64 oga, .int .i64 sga, .sl false [4] pta, .int .i64 stb, .int .i64 spb, .int .i64 acb, .int .i64 jeb, .int .i64 lob, .int .i64 hib, .int .i64 blb, .int .i64 ogb, .int .i64 sgb, .sl false [4] ptb, .int .i64 stc, .int .i64 spc, .int .i64 acc, .int .i64 jec, .int .i64 loc, .int .i64 hic, .int .i64 blc, .int .i64 ogc, .int .i64 sgc, .sl false [4] ptc]=> .det (okPath s0 s1 s2 sg mk/\okTrk pk ln/\okMA sta oga sga pta bla/\okMA stb ogb sgb ptb blb/\okMA stc ogc sgc ptc blc/\(0<=sa/\sa<=18014398509481984)) ⟨.agg [I6 (mtr sta oga sga pta bla s0 sg 0 pk sa d0 (clamp ln u)),I6 (mtr stb ogb sgb ptb blb s1 sg 1 pk sa d1 (clamp ln u)),I6 (mtr stc ogc sgc ptc blc s2 sg 2 pk sa d2 (clamp ln u))],false,[],[]⟩
  |_=> .fail
 |_,_=> .fail
def tabMotorsR:List (FuncId×HL.Spec):=[(82,SPlace),(81,SNom),(83,SPieceR),(84,SBsh),(85,STsh)]
noncomputable def CMotorsR:Ctx:=⟨Tryz.prog,gam tabMotorsR,Tryz.f45.ntmps,[(4000004,unrT [1000004,1000005,1000006,1000008,1000009],fun _=> .fail)],[]⟩
theorem vcMotorsR(s0 s1 s2 u ln sa d0 d1 d2:Int)(sg mk pk:LL)(sta spa aca jea loa hia bla oga sga stb spb acb jeb lob hib blb ogb sgb stc spc acc jec loc hic blc ogc sgc:Int)(pta ptb ptc:LL)(Q:Res->Prop):(nfun true CMotorsR Tryz.f45 (bodyOf Tryz.f45) [.agg [I6 s0,I6 s1,I6 s2, .sl false [4,4,4,4,4,4,4] sg, .sl false [4,4,4] mk], .agg [I6 sta,I6 spa,I6 aca,I6 jea,I6 loa,I6 hia,I6 bla,I6 oga,I6 sga, .sl false [4] pta,I6 stb,I6 spb,I6 acb,I6 jeb,I6 lob,I6 hib,I6 blb,I6 ogb,I6 sgb, .sl false [4] ptb,I6 stc,I6 spc,I6 acc,I6 jec,I6 loc,I6 hic,I6 blc,I6 ogc,I6 sgc, .sl false [4] ptc], .agg [.sl false [4,4,4,4,4,4,4,4,4,4] pk,I6 ln,I6 sa,I6 d0,I6 d1,I6 d2], .ce (I6 u)] [] Q)=(okTrk pk ln/\∀x1,x1=tplace pk sa (clamp ln u)->(okPath s0 s1 s2 sg mk/\okMA sta oga sga pta bla/\okMA stb ogb sgb ptb blb/\okMA stc ogc sgc ptc blc/\x1<=4611686018427387904)/\∀x2,x2=nomi sta oga sga pta s0 sg (0:Nat) x1->∀x3,x3=nomi stb ogb sgb ptb s1 sg (1:Nat) x1->∀x4,x4=nomi stc ogc sgc ptc s2 sg (2:Nat) x1->okTrk pk ln/\∀x5,x5=tfind pk (clamp ln u)->∀x6,x6=clamp ln u->Br (x5<0) ((0<=bla/\bla<=4096)/\∀x7,x7=bsh bla d0->R6 (x2+x7)/\∀x8,x8=x2+x7->Br (x5<0) ((0<=blb/\blb<=4096)/\∀x9,x9=bsh blb d1->R6 (x3+x9)/\∀x10,x10=x3+x9->Br (x5<0) ((0<=blc/\blc<=4096)/\∀x11,x11=bsh blc d2->R6 (x4+x11)/\∀x12,x12=x4+x11->Q ⟨.agg [I6 x8,I6 x10,I6 x12],false,[],[]⟩) ((0<=x5/\x5<(pk.length:Int))/\(((0:Int)<=2/\(2:Int)<=2)/\(0<=blc/\blc<=4096)/\(-18014398509481984<=x6/\x6<=18014398509481984)/\ -18014398509481984<=el pk x5.toNat/\el pk x5.toNat<=18014398509481984)/\∀x13,x13=tsh blc (ec pk x5.toNat 3) (sel3 (2:Int) (ec pk x5.toNat 4) (ec pk x5.toNat 5) (ec pk x5.toNat 6)) (sel3 (2:Int) (ec pk x5.toNat 7) (ec pk x5.toNat 8) (ec pk x5.toNat 9)) (el pk x5.toNat) x6->R6 (x4+x13)/\∀x14,x14=x4+x13->Q ⟨.agg [I6 x8,I6 x10,I6 x14],false,[],[]⟩)) ((0<=x5/\x5<(pk.length:Int))/\(((0:Int)<=1/\(1:Int)<=2)/\(0<=blb/\blb<=4096)/\(-18014398509481984<=x6/\x6<=18014398509481984)/\ -18014398509481984<=el pk x5.toNat/\el pk x5.toNat<=18014398509481984)/\∀x15,x15=tsh blb (ec pk x5.toNat 3) (sel3 (1:Int) (ec pk x5.toNat 4) (ec pk x5.toNat 5) (ec pk x5.toNat 6)) (sel3 (1:Int) (ec pk x5.toNat 7) (ec pk x5.toNat 8) (ec pk x5.toNat 9)) (el pk x5.toNat) x6->R6 (x3+x15)/\∀x16,x16=x3+x15->Br (x5<0) ((0<=blc/\blc<=4096)/\∀x17,x17=bsh blc d2->R6 (x4+x17)/\∀x18,x18=x4+x17->Q ⟨.agg [I6 x8,I6 x16,I6 x18],false,[],[]⟩) ((0<=x5/\x5<(pk.length:Int))/\(((0:Int)<=2/\(2:Int)<=2)/\(0<=blc/\blc<=4096)/\(-18014398509481984<=x6/\x6<=18014398509481984)/\ -18014398509481984<=el pk x5.toNat/\el pk x5.toNat<=18014398509481984)/\∀x19,x19=tsh blc (ec pk x5.toNat 3) (sel3 (2:Int) (ec pk x5.toNat 4) (ec pk x5.toNat 5) (ec pk x5.toNat 6)) (sel3 (2:Int) (ec pk x5.toNat 7) (ec pk x5.toNat 8) (ec pk x5.toNat 9)) (el pk x5.toNat) x6->R6 (x4+x19)/\∀x20,x20=x4+x19->Q ⟨.agg [I6 x8,I6 x16,I6 x20],false,[],[]⟩))) ((0<=x5/\x5<(pk.length:Int))/\(((0:Int)<=0/\(0:Int)<=2)/\(0<=bla/\bla<=4096)/\(-18014398509481984<=x6/\x6<=18014398509481984)/\ -18014398509481984<=el pk x5.toNat/\el pk x5.toNat<=18014398509481984)/\∀x21,x21=tsh bla (ec pk x5.toNat 3) (sel3 (0:Int) (ec pk x5.toNat 4) (ec pk x5.toNat 5) (ec pk x5.toNat 6)) (sel3 (0:Int) (ec pk x5.toNat 7) (ec pk x5.toNat 8) (ec pk x5.toNat 9)) (el pk x5.toNat) x6->R6 (x2+x21)/\∀x22,x22=x2+x21->Br (x5<0) ((0<=blb/\blb<=4096)/\∀x23,x23=bsh blb d1->R6 (x3+x23)/\∀x24,x24=x3+x23->Br (x5<0) ((0<=blc/\blc<=4096)/\∀x25,x25=bsh blc d2->R6 (x4+x25)/\∀x26,x26=x4+x25->Q ⟨.agg [I6 x22,I6 x24,I6 x26],false,[],[]⟩) ((0<=x5/\x5<(pk.length:Int))/\(((0:Int)<=2/\(2:Int)<=2)/\(0<=blc/\blc<=4096)/\(-18014398509481984<=x6/\x6<=18014398509481984)/\ -18014398509481984<=el pk x5.toNat/\el pk x5.toNat<=18014398509481984)/\∀x27,x27=tsh blc (ec pk x5.toNat 3) (sel3 (2:Int) (ec pk x5.toNat 4) (ec pk x5.toNat 5) (ec pk x5.toNat 6)) (sel3 (2:Int) (ec pk x5.toNat 7) (ec pk x5.toNat 8) (ec pk x5.toNat 9)) (el pk x5.toNat) x6->R6 (x4+x27)/\∀x28,x28=x4+x27->Q ⟨.agg [I6 x22,I6 x24,I6 x28],false,[],[]⟩)) ((0<=x5/\x5<(pk.length:Int))/\(((0:Int)<=1/\(1:Int)<=2)/\(0<=blb/\blb<=4096)/\(-18014398509481984<=x6/\x6<=18014398509481984)/\ -18014398509481984<=el pk x5.toNat/\el pk x5.toNat<=18014398509481984)/\∀x29,x29=tsh blb (ec pk x5.toNat 3) (sel3 (1:Int) (ec pk x5.toNat 4) (ec pk x5.toNat 5) (ec pk x5.toNat 6)) (sel3 (1:Int) (ec pk x5.toNat 7) (ec pk x5.toNat 8) (ec pk x5.toNat 9)) (el pk x5.toNat) x6->R6 (x3+x29)/\∀x30,x30=x3+x29->Br (x5<0) ((0<=blc/\blc<=4096)/\∀x31,x31=bsh blc d2->(-9223372036854775808<=x4+x31/\x4+x31<=9223372036854775807)/\∀x32,x32=x4+x31->Q ⟨.agg [I6 x22,I6 x30,I6 x32],false,[],[]⟩) ((0<=x5/\x5<(pk.length:Int))/\(((0:Int)<=2/\(2:Int)<=2)/\(0<=blc/\blc<=4096)/\(-18014398509481984<=x6/\x6<=18014398509481984)/\ -18014398509481984<=el pk x5.toNat/\el pk x5.toNat<=18014398509481984)/\∀x33,x33=tsh blc (ec pk x5.toNat 3) (sel3 (2:Int) (ec pk x5.toNat 4) (ec pk x5.toNat 5) (ec pk x5.toNat 6)) (sel3 (2:Int) (ec pk x5.toNat 7) (ec pk x5.toNat 8) (ec pk x5.toNat 9)) (el pk x5.toNat) x6->R6 (x4+x33)/\∀x34,x34=x4+x33->Q ⟨.agg [I6 x22,I6 x30,I6 x34],false,[],[]⟩)))):=by kernel_rfl
section
attribute [local irreducible] hfun bodyT fragT
theorem drop_cons{l:LL}{k:Nat}(h:k<l.length):l.drop k=l.getD k []::l.drop (k+1):=by
 rw[List.drop_eq_getElem_cons h,List.getD_eq_getElem?_getD,List.getElem?_eq_getElem h];rfl
theorem lfA_cons(r:List Int)(l:LL)(i s:Int):lfA (r::l) i s=if s<r.getD 3 0 then(i,s)else lfA l (i+1) (s-r.getD 3 0):=rfl
theorem loopPFR:∀v Q,(LPFR v).wp Q->hloop CPFindR anPFR (nthLoop Tryz.f88 0) v Q:=by
 intro v Q h;unfold LPFR at h;split at h;case h_2=>exact h.elim
 rename_i p z y l n i s0 s1 s2 sg mk;obtain⟨⟨h1,h2,h3,h4⟩,q0,q1⟩:=h;subst h1 h2;refine hloop_rec (σ:=Nat×Int) (fun x=>([.ce (I6 x.2), .ce (.ptr 1000002 0), .ce (I6 z), .ce (I6 y), .ce (.sl false [4,4,4,4,4,4,4] l), .ce (I6 (l.length:Int)), .ce (I6 (x.1:Int))],[[I6 s0,I6 s1,I6 s2, .sl false [4,4,4,4,4,4,4] sg, .sl false [4,4,4] mk]])) (fun x=>l.length-x.1) (fun x=>x.1<=l.length/\(0<=x.2/\x.2<=4611686018427387904)/\lfA l 0 p=lfA (l.drop x.1) x.1 x.2) ?_ (0,p) ⟨Nat.zero_le _,h3,rfl⟩;rintro⟨k,q⟩⟨hk,hq,he⟩K hn hx hr;dsimp only at hk hq he hn⊢;have hl:=h4.1;refine byVB (vbPFindR s0 s1 s2 q z y l.length k sg mk l K) ⟨fun g=> ?_,fun g=> ?_⟩
 . have g:=odt g;have hkl:k<l.length:=by omega
   have ht:Int.toNat (k:Int)=k:=rfl;rw[ht];have hL:=h4.2 k hkl;rw[drop_cons hkl,lfA_cons]at he;have e3:(l.getD k []).getD 3 0=ec l k 3:=rfl;rw[e3]at he;refine⟨by omega,fun g1=> ?_,fun g1=>⟨by omega,fun x1 e1=>⟨by omega,fun x2 e2=> ?_⟩⟩⟩
   . have g1:=odt g1;rw[if_pos g1]at he;have f:=q1 (by rw[he];show(0:Int)<=(k:Int);omega);rw[he]at f;exact hr _ f
   . have g1:=odf g1;rw[if_neg g1]at he;rw[show x2=((k+1:Nat):Int)by omega,e1];refine hn (k+1,q-ec l k 3) ⟨hkl,⟨by dsimp only;omega,by dsimp only;omega⟩,?_⟩ (by dsimp only;omega);dsimp only;rw[he,show((k+1:Nat):Int)=(k:Int)+1 by omega]
 . have g:=odf g;have hkl:k=l.length:=by omega
   rw[hkl,List.drop_length]at he;exact hx 0 _ (q0 (by rw[he];show(-1:Int)<0;decide))
theorem sPFindR:Sound Tryz.prog 88 SPFind:=by
 refine sound_of (C:=CPFindR) [] Tryz.func88 (by kernel_rfl) (by decide+kernel) (by kernel_rfl) rfl trivial (loops1 (by kernel_rfl) (loopOK_of (an:=anPFR) (S:=LPFR) (by kernel_rfl) loopPFR)) ?_;intro hA pA R h;unfold SPFind at h;split at h;case h_2=>exfalso;exact h
 rename_i s0 s1 s2 sg mk p;obtain⟨⟨hl,hp⟩,_,hR⟩:=h;have hl1:=hl.1;have fin:∀a b:Int,(a,b)=pfind sg p->R ⟨.tup [.ce (I6 a), .ce (I6 b)],false,[],[]⟩:=fun a b e=>hR (a,b) e;refine byVC (vcPFindR s0 s1 s2 p sg mk R) ⟨fun g=>fin _ _ ?_,fun g x1 e1=>⟨⟨rfl,rfl,by omega,hl⟩,fun g2=>⟨by omega,fun x2 e2=> ?_⟩,fun g2=>fin _ _ ?_⟩⟩
 . have g:(sg.length:Int)=0:=by simpa using g
   unfold pfind;rw[if_pos (by omega)]
 . have g:¬(sg.length:Int)=0:=by simpa using g
   refine⟨by omega,fun x3 e3=>fin _ _ ?_⟩;unfold pfind;rw[if_neg (by omega),<-e1,if_neg (by omega),e3,e2,show((sg.length:Int)-1).toNat=sg.length-1 by omega]
 . have g:¬(sg.length:Int)=0:=by simpa using g
   unfold pfind;rw[if_neg (by omega),<-e1,if_pos g2]
theorem ptAt_b3{s0 s1 s2:Int}{sg mk:LL}(h:okPath s0 s1 s2 sg mk)(p:Int):(-536870912<=ptAt s0 sg 0 p/\ptAt s0 sg 0 p<=536870912)/\(-536870912<=ptAt s1 sg 1 p/\ptAt s1 sg 1 p<=536870912)/\(-536870912<=ptAt s2 sg 2 p/\ptAt s2 sg 2 p<=536870912):=by
 have hl:=okPath_len h;obtain⟨k0,k1,k2,kk⟩:=okPath_pts h;exact⟨ptAt_bd hl k0 (fun j hj=>(kk j hj).1) p,ptAt_bd hl k1 (fun j hj=>(kk j hj).2.1) p,ptAt_bd hl k2 (fun j hj=>(kk j hj).2.2) p⟩
theorem prod_bd5{a d L:Int}(ha: -L<=a/\a<=L)(hd:0<=d/\d<=L)(hL:0<=L/\L<=131072): -17179869184<=a*d/\a*d<=17179869184:=by
 have h1:a*d<=L*L:=Int.le_trans (Int.mul_le_mul_of_nonneg_right ha.2 hd.1) (Int.mul_le_mul_of_nonneg_left hd.2 hL.1);have h2: -L*d<=a*d:=Int.mul_le_mul_of_nonneg_right ha.1 hd.1;have h3:L*d<=L*L:=Int.mul_le_mul_of_nonneg_left hd.2 hL.1;have h4:L*L<=131072*131072:=Int.mul_le_mul hL.2 hL.2 hL.1 (by decide);rw[Int.neg_mul]at h2;omega
theorem sAtR:Sound Tryz.prog 108 SAtR:=by
 refine sound_of (C:=CAtR) tabAtR Tryz.func108 (by kernel_rfl) (by decide+kernel) (by kernel_rfl) rfl ⟨sPFindR,sBegin,sRnd,trivial⟩ (loopsAll (by kernel_rfl)) ?_;intro hA pA R h;unfold SAtR at h;split at h;case h_2=>exfalso;exact h
 rename_i s0 s1 s2 sg mk p;obtain⟨⟨hp,hpp⟩,hq⟩:=h;have hl:=okPath_len hp;have hl1:=hl.1;have hb:=ptAt_b3 hp p;refine byVC (vcAtR s0 s1 s2 p sg mk R) ⟨⟨hl,hpp⟩,⟨_,rfl⟩,fun x ex=> ?_⟩;unfold ptAt at hq hb;have sp:=pfind_spec hl p;rw[<-ex]at sp hq hb;rcases sp with⟨h1,h2⟩|⟨j,h1,h2,h3,h4⟩
 . rw[h2]at hq⊢;exact⟨fun _=>hq,fun g=>absurd g (by decide)⟩
 rw[if_neg (by omega),if_neg (by omega),if_neg (by omega),h2]at hq hb;have hj:((j:Int)).toNat=j:=rfl;rw[hj]at hq hb;have D:=okSegs_D hp.2.1 h1;have L:=(hp.2.1 j h1).2.1;have P:=(hp.2.1 j h1).1;unfold b3 at P;have p0:=prod_bd5 D.1 ⟨h3,h4⟩ (by omega);have p1:=prod_bd5 D.2.1 ⟨h3,h4⟩ (by omega);have p2:=prod_bd5 D.2.2 ⟨h3,h4⟩ (by omega);rw[h2,hj];have ee:ec sg j 0=el sg j:=rfl;rw[ee]at p0 hq hb D;refine⟨fun g=>absurd (odt g) (by omega),fun _=>⟨by omega,by omega,fun x2 e2 x3 e3 x4 e4=> ?_⟩⟩;rw[<-e2]at p0 hq hb D;rw[<-e3]at p1 hq hb D;rw[<-e4]at p2 hq hb D;refine⟨by omega,fun x5 e5=> ?_⟩;rw[<-e5]at p0 hq hb;refine⟨by omega,fun x6 e6=> ?_⟩;rw[<-e6]at p0 hq hb;refine⟨by omega,fun x7 e7=> ?_⟩;rw[<-e7]at hq hb;refine⟨by omega,fun x8 e8=> ?_⟩;rw[<-e8]at hq;refine⟨by omega,fun x9 e9=> ?_⟩;rw[<-e9]at p1 hq hb;refine⟨by omega,fun x10 e10=> ?_⟩;rw[<-e10]at p1 hq hb;refine⟨by omega,fun x11 e11=> ?_⟩;rw[<-e11]at hq hb;refine⟨by omega,fun x12 e12=> ?_⟩;rw[<-e12]at hq;refine⟨by omega,fun x13 e13=> ?_⟩;rw[<-e13]at p2 hq hb;refine⟨by omega,fun x14 e14=> ?_⟩;rw[<-e14]at p2 hq hb;refine⟨by omega,fun x15 e15=> ?_⟩;rw[<-e15]at hq hb;refine⟨by omega,fun x16 e16=> ?_⟩;rw[<-e16]at hq;exact hq
theorem sPlaceR:Sound Tryz.prog 82 SPlace:=by
 refine sound_of (C:=CPlaceR) tabPlaceR Tryz.func82 (by kernel_rfl) (by decide+kernel) (by kernel_rfl) rfl ⟨sPieceR,trivial⟩ (loops0 (by kernel_rfl)) ?_;intro hA pA R h;unfold SPlace at h;split at h;case h_2=>exfalso;exact h
 rename_i pk ln sa d0 d1 d2 u;obtain⟨ht,hq⟩:=h;have hl:=ht.2.1;have hc:=clamp_bd (v:=u) hl.1;unfold tplace at hq;refine byVC (vcPlaceR u ln sa d0 d1 d2 pk R) ⟨ht,fun x1 e1 x2 e2=> ?_⟩;rw[<-e2]at hq hc e1;rw[<-e1]at hq;refine⟨fun g=> ?_,fun g=> ?_⟩
 . rw[if_pos (odt g)]at hq;exact hq
 . have g:=odf g;rw[if_neg g]at hq;rcases tfind_spec ht hc.2 with⟨h1,h2⟩|⟨j,h1,h2,h3,h4⟩
   . omega
   have hj:x1.toNat=j:=by omega
   have a:=at_bd ht h1;have b:=ht.2.2.2.2.2 j h1;rw[hj]at hq⊢;refine⟨by omega,fun x3 e3=>⟨by omega,fun x4 e4=>⟨by omega,fun x5 e5=> ?_⟩⟩⟩;have e5:x5=ec pk j 0:=e5;refine⟨by omega,fun x6 e6=> ?_⟩;have c:=mul3 (m:=x4) (x:=x6) (B:=18014398509481984) (by omega) (by omega);refine⟨by omega,fun x7 e7=>⟨by omega,fun x8 e8=> ?_⟩⟩;rw[e8,e7,e6,e5,e4,e3];exact hq
theorem sBshR:Sound Tryz.prog 84 SBsh:=by
 refine sound_of (C:=CBshR) [] Tryz.func84 (by kernel_rfl) (by decide+kernel) (by kernel_rfl) rfl trivial (loops0 (by kernel_rfl)) ?_;intro hA pA R h;unfold SBsh at h;split at h;case h_2=>exfalso;exact h
 rename_i sta spa aca jea loa hia bla oga sga pta d;obtain⟨h1,hq⟩:=h;unfold bsh at hq;refine byVC (vcBshR sta spa aca jea loa hia bla oga sga pta d R) ⟨fun g=>⟨by omega,fun x1 e1=> ?_⟩,fun g=> ?_⟩
 . rw[if_pos (by simpa using g)]at hq;rw[show x1= -bla by omega];exact hq
 . rw[if_neg (by simpa using g)]at hq;exact hq
theorem sTshR:Sound Tryz.prog 85 STsh:=by
 refine sound_of (C:=CTshR) tabTshR Tryz.func85 (by kernel_rfl) (by decide+kernel) (by kernel_rfl) rfl ⟨sBshR,trivial⟩ (loops0 (by kernel_rfl)) ?_;intro hA pA R h;unfold STsh at h;split at h;case h_2=>exfalso;exact h
 rename_i sta spa aca jea loa hia bla oga sga pta q0 q1 q2 q3 q4 q5 q6 q7 q8 q9 k u;obtain⟨⟨hk,hb,hu,ha⟩,hq⟩:=h;refine byVC (vcTshR sta spa aca jea loa hia bla oga sga pta q0 q1 q2 q3 q4 q5 q6 q7 q8 q9 k u R) ⟨fun e=> ?_,fun e=>⟨fun e2=> ?_,fun e2=>⟨fun e3=> ?_,fun e3=>by omega⟩⟩⟩
 . subst e;exact tsh_fin hb hu ha hq
 . subst e2;exact tsh_fin hb hu ha hq
 . subst e3;exact tsh_fin hb hu ha hq
theorem sNom:Sound Tryz.prog 81 SNom:=by
 refine sound_of (C:=CNom) tabNom Tryz.func81 (by kernel_rfl) (by decide+kernel) (by kernel_rfl) rfl ⟨sAtR,sMotor2,trivial⟩ (loopsAll (by kernel_rfl)) ?_;intro hA pA R h;unfold SNom at h;split at h;case h_2=>exfalso;exact h
 rename_i s0 s1 s2 sg mk ax p;split at h;case h_2=>exact h.elim
 rename_i sta spa aca jea loa hia bla oga sga pta stb spb acb jeb lob hib blb ogb sgb ptb stc spc acc jec loc hic blc ogc sgc ptc;obtain⟨⟨hp,ma,mb,mc,hpp⟩,hq⟩:=h;have hb:=ptAt_b3 hp p;unfold nomi at hq;refine byVC (vcNom s0 s1 s2 p sg mk sta spa aca jea loa hia bla oga sga stb spb acb jeb lob hib blb ogb sgb stc spc acc jec loc hic blc ogc sgc pta ptb ptc R) ⟨⟨hp,hpp⟩,fun x1 e1 x2 e2 x3 e3=> ?_⟩;rw[<-e1,<-e2,<-e3]at hq hb;refine⟨⟨ma.1,ma.2.1,by omega⟩,fun x4 e4=>⟨⟨mb.1,mb.2.1,by omega⟩,fun x5 e5=>⟨⟨mc.1,mc.2.1,by omega⟩,fun x6 e6=> ?_⟩⟩⟩;rw[e4,e5,e6];exact hq
theorem mtr_of{st og sg:Int}{pt:LL}{bl s:Int}{sgs:LL}{c:Nat}{pk:LL}{sa d u:Int}{j:Nat}(h:tfind pk u=j):mtr st og sg pt bl s sgs c pk sa d u=nomi st og sg pt s sgs c (tplace pk sa u)+tsh bl (ec pk j 3) (ec pk j (4+c)) (ec pk j (7+c)) (ec pk j 0) u:=by
 unfold mtr tmot nomi;rw[h,if_neg (by omega)];rfl
theorem mtr_no{st og sg:Int}{pt:LL}{bl s:Int}{sgs:LL}{c:Nat}{pk:LL}{sa d u:Int}(h:tfind pk u<0):mtr st og sg pt bl s sgs c pk sa d u=nomi st og sg pt s sgs c (tplace pk sa u)+bsh bl d:=by
 unfold mtr tmot nomi;rw[if_pos h]
set_option maxHeartbeats 1000000 in theorem sMotorsR:Sound Tryz.prog 45 SMotorsR:=by
 refine sound_of (C:=CMotorsR) tabMotorsR Tryz.func45 (by kernel_rfl) (by decide+kernel) (by kernel_rfl) rfl ⟨sPlaceR,sNom,sPieceR,sBshR,sTshR,trivial⟩ (loopsAll (by kernel_rfl)) ?_;intro hA pA R h;unfold SMotorsR at h;split at h;case h_2=>exfalso;exact h
 rename_i s0 s1 s2 sg mk ax pk ln sa d0 d1 d2 u;split at h;case h_2=>exact h.elim
 rename_i sta spa aca jea loa hia bla oga sga pta stb spb acb jeb lob hib blb ogb sgb ptb stc spc acc jec loc hic blc ogc sgc ptc;obtain⟨⟨hp,ht,ma,mb,mc,hsa⟩,hq⟩:=h;have hln:=ht.2.1;have hc:=clamp_bd (v:=u) hln.1;refine byVC (vcMotorsR s0 s1 s2 u ln sa d0 d1 d2 sg mk pk sta spa aca jea loa hia bla oga sga stb spb acb jeb lob hib blb ogb sgb stc spc acc jec loc hic blc ogc sgc pta ptb ptc R) ⟨ht,fun x1 e1=> ?_⟩;have hx1:=tplace_bd ht hsa hc;rw[<-e1]at hx1;have hb:=ptAt_b3 hp x1;have q0:=motr_bd ma.1.1 ma.2.1 (p:=ptAt s0 sg 0 x1) (by omega);have q1:=motr_bd mb.1.1 mb.2.1 (p:=ptAt s1 sg 1 x1) (by omega);have q2:=motr_bd mc.1.1 mc.2.1 (p:=ptAt s2 sg 2 x1) (by omega);refine⟨⟨hp,ma,mb,mc,by omega⟩,fun x2 e2 x3 e3 x4 e4=>⟨ht,fun x5 e5 x6 e6=> ?_⟩⟩;have q0: -2199023255552<=x2/\x2<=2199023255554:=by rw[e2];exact q0
 have q1: -2199023255552<=x3/\x3<=2199023255554:=by rw[e3];exact q1
 have q2: -2199023255552<=x4/\x4<=2199023255554:=by rw[e4];exact q2
 rw[<-e6]at hq hc e1 e5;rcases tfind_spec ht hc.2 with⟨h1,h2⟩|⟨j,h1,h2,h3,h4⟩
 . have hx5:x5<0:=by omega
   rw[mtr_no (by omega),mtr_no (by omega),mtr_no (by omega),<-e1,<-e2,<-e3,<-e4]at hq;have w0:=bsh_bd (d:=d0) ma.2.2;have w1:=bsh_bd (d:=d1) mb.2.2;have w2:=bsh_bd (d:=d2) mc.2.2;have no:∀{P:Prop},decide (x5<0)=false->P:=fun g=>absurd hx5 (odf g);refine⟨fun _=>⟨ma.2.2,fun x7 e7=>⟨by omega,fun x8 e8=>⟨fun _=>⟨mb.2.2,fun x9 e9=>⟨by omega,fun x10 e10=>⟨fun _=>⟨mc.2.2,fun x11 e11=>⟨by omega,fun x12 e12=> ?_⟩⟩,no⟩⟩⟩,no⟩⟩⟩,no⟩;rw[e8,e10,e12,e7,e9,e11];exact hq
 . have hx5:¬x5<0:=by omega
   rw[mtr_of h2,mtr_of h2,mtr_of h2,<-e1,<-e2,<-e3,<-e4]at hq;have hj:x5.toNat=j:=by omega
   rw[hj];have a:=at_bd ht h1;have hat:=at_le ht hc.1 h1 h4;have yes:∀{P:Prop},decide (x5<0)=true->P:=fun g=>absurd (odt g) hx5;have w0:=tsh_bd (mv:=ec pk j 3) (w:=ec pk j 4) (d:=ec pk j 7) ma.2.2 hat;have w1:=tsh_bd (mv:=ec pk j 3) (w:=ec pk j 5) (d:=ec pk j 8) mb.2.2 hat;have w2:=tsh_bd (mv:=ec pk j 3) (w:=ec pk j 6) (d:=ec pk j 9) mc.2.2 hat;have hin:0<=x5/\x5<(pk.length:Int):=by omega
   have hx6: -18014398509481984<=x6/\x6<=18014398509481984:=by omega
   have a0: -18014398509481984<=el pk j/\el pk j<=18014398509481984:=by
    have:el pk j=ec pk j 0:=rfl;omega
   refine⟨yes,fun _=>⟨hin,⟨by decide,ma.2.2,hx6,a0⟩,fun x21 f0=> ?_⟩⟩;have f0:x21=tsh bla (ec pk j 3) (ec pk j 4) (ec pk j 7) (ec pk j 0) x6:=f0;rw[<-f0]at w0;refine⟨by omega,fun x22 g0=>⟨yes,fun _=>⟨hin,⟨by decide,mb.2.2,hx6,a0⟩,fun x29 f1=> ?_⟩⟩⟩;have f1:x29=tsh blb (ec pk j 3) (ec pk j 5) (ec pk j 8) (ec pk j 0) x6:=f1;rw[<-f1]at w1;refine⟨by omega,fun x30 g1=>⟨yes,fun _=>⟨hin,⟨by decide,mc.2.2,hx6,a0⟩,fun x33 f2=> ?_⟩⟩⟩;have f2:x33=tsh blc (ec pk j 3) (ec pk j 6) (ec pk j 9) (ec pk j 0) x6:=f2;rw[<-f2]at w2;refine⟨by omega,fun x34 g2=> ?_⟩;rw[g0,g1,g2,f0,f1,f2];exact hq
end
end Go.Proofs.YtoekmphdpepdbaaGreat
namespace U
open Go
def lsh(l:LL):Bool:=match l with|_::_::_::_::_=>true|_=>false
structure ShS where
 r:RunS
 A:Int
 J:Int
 R:Int
def okShop(x:ShS):Prop:=okRun x.r/\x.r.f=0/\(1<=x.A/\x.A<=900)/\(2<=x.J/\x.J<=201)/\(1<=x.R/\x.R<=16000)
open Go.HL in
def shopC(x:ShS):List HC:=[.int .i64 x.r.s0, .int .i64 x.r.s1, .int .i64 x.r.s2, .sl false [4,4,4,4,4,4,4] x.r.sg, .sl false [4,4,4] x.r.mks, .int .i64 x.r.a.st, .int .i64 x.r.a.sp, .int .i64 x.r.a.ac, .int .i64 x.r.a.je, .int .i64 (-16777216), .int .i64 16777216, .int .i64 x.r.a.bl, .int .i64 x.r.a.og, .int .i64 x.r.a.sg, .sl false [4] x.r.a.pit, .int .i64 x.r.b.st, .int .i64 x.r.b.sp, .int .i64 x.r.b.ac, .int .i64 x.r.b.je, .int .i64 (-16777216), .int .i64 16777216, .int .i64 x.r.b.bl, .int .i64 x.r.b.og, .int .i64 x.r.b.sg, .sl false [4] x.r.b.pit, .int .i64 x.r.c.st, .int .i64 x.r.c.sp, .int .i64 x.r.c.ac, .int .i64 x.r.c.je, .int .i64 (-16777216), .int .i64 16777216, .int .i64 x.r.c.bl, .int .i64 x.r.c.og, .int .i64 x.r.c.sg, .sl false [4] x.r.c.pit, .sl false [4,4,4,4,4,4,4,4,4,4] x.r.pk, .int .i64 x.r.ln, .int .i64 x.r.f, .int .i64 x.r.d0, .int .i64 x.r.d1, .int .i64 x.r.d2, .int .i64 x.A, .int .i64 x.J, .int .i64 x.R, .int .i64 x.r.ln]
open Go.HL in
def zShop:List HC:=[.int .i64 0, .int .i64 0, .int .i64 0, .sl true [4,4,4,4,4,4,4] [], .sl true [4,4,4] [], .int .i64 0, .int .i64 0, .int .i64 0, .int .i64 0, .int .i64 0, .int .i64 0, .int .i64 0, .int .i64 0, .int .i64 0, .sl true [4] [], .int .i64 0, .int .i64 0, .int .i64 0, .int .i64 0, .int .i64 0, .int .i64 0, .int .i64 0, .int .i64 0, .int .i64 0, .sl true [4] [], .int .i64 0, .int .i64 0, .int .i64 0, .int .i64 0, .int .i64 0, .int .i64 0, .int .i64 0, .int .i64 0, .int .i64 0, .sl true [4] [], .sl true [4,4,4,4,4,4,4,4,4,4] [], .int .i64 0, .int .i64 0, .int .i64 0, .int .i64 0, .int .i64 0, .int .i64 0, .int .i64 0, .int .i64 0, .int .i64 0]
end U
namespace Go.Proofs.YtoekmphdpepdbaaGreat
open Go Go.HL U
def SMotz(hA:List HV)(pA:List (List HC)):SR:=match hA,pA with
 |[.ce (.sl false [4] l), .ce (.int .i64 m)],[]=>bif lsh l then .all (1<=m/\m<=5/\l.length<=9223372036854775807) (LL×Nat) (fun y=>niceL y.1/\(0<y.1.length/\y.1.length<=5)/\y.1.length<=y.2/\y.2<=maxLen) (fun y=>⟨.ce (.msl 500 y.1.length y.2),false,[],[[.arr [4,4,4,4,4,4,4,4,4,4,4,4,4,0,4,0,4,4,4,4,4,0] y.1 y.2]]⟩)else .det (1<=m/\m<=5/\l.length<=9223372036854775807) ⟨.ce (.sl false [4,4,4,4,4,4,4,4,4,4,4,4,4,0,4,0,4,4,4,4,4,0] []),false,[],[[]]⟩
 |_,_=> .fail
def tabMotz:List (FuncId×HL.Spec):=[(14,SFrom),(22,SNext),(21,SLeft),(64,SMot)]
def anMotz:LAnn:=⟨[1,5,6,100006,7],[6,100006],[1000010,1000007],false⟩
def LMotz(v:LV):LR:=match v with
 |([.ce (.int .i64 m), .ce (.ptr 1000010 0), .zs ks y, .ce (.lit true), .ce (.ptr 1000007 0)],[[.sl false [4] l, .int .i64 p],[.int .i64 a0, .int .i64 a1, .int .i64 a2]])=>bif ksEq ks [4,4,4,4,4,4,4,4,4,4,4,4,4,0,4,0,4,4,4,4,4,0]then .all ((1<=m/\m<=5)/\inSrc l p/\y.length=0/\b3 4 a0 a1 a2) (LL×Int×Int×Int×Int) (fun z=>niceL z.1/\z.1.length<=5/\(p<l.length->0<z.1.length)/\(¬p<l.length->z.1.length=0)) (fun _=> .exit 0) (fun z=>([.zs [4,4,4,4,4,4,4,4,4,4,4,4,4,0,4,0,4,4,4,4,4,0] z.1, .ce (.lit true)],[[.sl false [4] l,I6 z.2.1],[I6 z.2.2.1,I6 z.2.2.2.1,I6 z.2.2.2.2]]))else .fail
 |_=> .fail
noncomputable def CMotz:Ctx:=⟨Tryz.prog,gam tabMotz,Tryz.f35.ntmps,[(4,anMotz,LMotz)],[6]⟩
theorem vbMotz(m p a0 a1 a2:Int)(y l:LL)(K:HEx->LV->Prop):(nbodyT true CMotz anMotz (nthLoop Tryz.f35 0) (([.ce (I6 m), .ce (.ptr 1000010 0), .zs [4,4,4,4,4,4,4,4,4,4,4,4,4,0,4,0,4,4,4,4,4,0] y, .ce (.lit true), .ce (.ptr 1000007 0)],[[.sl false [4] l,I6 p],[I6 a0,I6 a1,I6 a2]])) K)=(Br ((y.length:Int)<m) (True/\∀(x1:Bool),x1=decide (p<(l.length:Int))->∀(x2:LL),x2=l->∀x3,x3=p->Bb (x1) (((0:Int)<5/\(5:Int)<=4611686018427387904/\inSrc x2 x3)/\(∃(x:Int×Int),drew x2 x3 (5:Int) x)/\∀(x:Int×Int),drew x2 x3 (5:Int) x->(0<=x.1/\x.1<5)/\∀x5,x5=el [[(2:Int)],[(2:Int)],[(2:Int)],[(3:Int)],[(1:Int)]] x.1.toNat->(inSrc x2 x.2/\b3 65536 a0 a1 a2/\1<=x5/\x5<=3)/\(∃(x:It×Int),inSrc x2 x.2/\grown x5 a0 a1 a2 x.1)/\∀(x:It×Int),inSrc x2 x.2/\grown x5 a0 a1 a2 x.1->((y.length+1)*176<=140737488355328/\y.length+1<=maxLen)/\K .normal ([.ce (I6 m), .ce (.ptr 1000010 0), .zs [4,4,4,4,4,4,4,4,4,4,4,4,4,0,4,0,4,4,4,4,4,0] (y++[[x.1.k0,x.1.bk,x.1.f0,x.1.f1,x.1.f2,x.1.t0,x.1.t1,x.1.t2,x.1.pl,x.1.c0,x.1.c1,x.1.c2,x.1.dr,bif x.1.fu then(1:Int)else(0:Int),x.1.fd,bif x.1.pr then(1:Int)else(0:Int),x.1.sd,x.1.ra,x.1.bl,x.1.nn,x.1.sp,bif x.1.on then(1:Int)else(0:Int)]]), .ce (.lit true), .ce (.ptr 1000007 0)],[[.sl false [4] x2,I6 x.2],[I6 x.1.t0,I6 x.1.t1,I6 x.1.t2]])) (K (.exit 0) ([.zs [4,4,4,4,4,4,4,4,4,4,4,4,4,0,4,0,4,4,4,4,4,0] y, .ce (.lit true)],[[.sl false [4] x2,I6 x3],[I6 a0,I6 a1,I6 a2]]))) (K (.exit 0) ([.zs [4,4,4,4,4,4,4,4,4,4,4,4,4,0,4,0,4,4,4,4,4,0] y, .ce (.lit true)],[[.sl false [4] l,I6 p],[I6 a0,I6 a1,I6 a2]]))):=by kernel_rfl
theorem vcMotz(l:LL)(m:Int)(Q:Res->Prop):(nfun true CMotz Tryz.f35 (bodyOf Tryz.f35) [.ce (.sl false [4] l), .ce (I6 m)] [] Q)=(True/\∀(x1:LL),x1=l->∀(x2:Int),x2=0->((0:Int)<9/\(9:Int)<=4611686018427387904/\inSrc x1 x2)/\(∃(x:Int×Int),drew x1 x2 (9:Int) x)/\∀(x:Int×Int),drew x1 x2 (9:Int) x->R6 (x.1-4)/\∀x4,x4=x.1-4->((0:Int)<9/\(9:Int)<=4611686018427387904/\inSrc x1 x.2)/\(∃(x_1:Int×Int),drew x1 x.2 (9:Int) x_1)/\∀(x_1:Int×Int),drew x1 x.2 (9:Int) x_1->R6 (x_1.1-4)/\∀x6,x6=x_1.1-4->((0:Int)<9/\(9:Int)<=4611686018427387904/\inSrc x1 x_1.2)/\(∃(x:Int×Int),drew x1 x_1.2 (9:Int) x)/\∀(x:Int×Int),drew x1 x_1.2 (9:Int) x->R6 (x.1-4)/\∀x8,x8=x.1-4->((1<=m/\m<=5)/\inSrc x1 x.2/\(0:Nat)=0/\b3 4 x4 x6 x8)/\∀(x_2:LL×Int×Int×Int×Int),niceL x_2.1/\List.length x_2.1<=5/\(x.2<(x1.length:Int)->(0:Nat)<List.length x_2.1)/\(¬x.2<(x1.length:Int)->List.length x_2.1=0)->(List.length x_2.1=0->Q {val:= .ce (.sl false [4,4,4,4,4,4,4,4,4,4,4,4,4,0,4,0,4,4,4,4,4,0] []),own:=false,pars:=[],news:=[[]]})/\((0:Nat)<List.length x_2.1->∀(cap:Nat),List.length x_2.1<=cap/\cap<=maxLen->Q {val:= .ce (.msl (500:Nat) (List.length x_2.1) cap),own:=false,pars:=[],news:=[[.arr [4,4,4,4,4,4,4,4,4,4,4,4,4,0,4,0,4,4,4,4,4,0] x_2.1 cap]]})):=by kernel_rfl
def SPan(hA:List HV)(pA:List (List HC)):SR:=match hA,pA with
 |[.ce (.ptr 0 0)],[[.sl false [4] l, .int .i64 p]]=> .all (inSrc l p) (Int×Int×Bool×Bool×Bool×Int) (fun x=>inSrc l x.2.2.2.2.2) (fun x=>⟨.agg [I6 x.1,I6 x.2.1, .bool x.2.2.1, .bool x.2.2.2.1, .bool x.2.2.2.2.1],false,[[.sl false [4] l,I6 x.2.2.2.2.2]],[]⟩)
 |_,_=> .fail
def tabNx1:List (FuncId×HL.Spec):=[(22,SNext)]
noncomputable def CPan:Ctx:=⟨Tryz.prog,gam tabNx1,Tryz.f13.ntmps,[],[]⟩
theorem vcPan(l:LL)(p:Int)(Q:Res->Prop):(nfun true CPan Tryz.f13 (bodyOf Tryz.f13) [.ce (.ptr 0 0)] [[.sl false [4] l,I6 p]] Q)=(((0:Int)<6/\(6:Int)<=4611686018427387904/\inSrc l p)/\(∃(x:Int×Int),drew l p (6:Int) x)/\∀(x:Int×Int),drew l p (6:Int) x->(0<=x.1/\x.1<6)/\∀x2,x2=el [[(100:Int)],[(0:Int)],[(1:Int)],[(50:Int)],[(200:Int)],[(137:Int)]] x.1.toNat->((0:Int)<4/\(4:Int)<=4611686018427387904/\inSrc l x.2)/\(∃(x_1:Int×Int),drew l x.2 (4:Int) x_1)/\∀(x_1:Int×Int),drew l x.2 (4:Int) x_1->(0<=x_1.1/\x_1.1<4)/\∀x4,x4=el [[(100:Int)],[(0:Int)],[(5:Int)],[(50:Int)]] x_1.1.toNat->((0:Int)<5/\(5:Int)<=4611686018427387904/\inSrc l x_1.2)/\(∃(x:Int×Int),drew l x_1.2 (5:Int) x)/\∀(x:Int×Int),drew l x_1.2 (5:Int) x->((0:Int)<4/\(4:Int)<=4611686018427387904/\inSrc l x.2)/\(∃(x_2:Int×Int),drew l x.2 (4:Int) x_2)/\∀(x_2:Int×Int),drew l x.2 (4:Int) x_2->((0:Int)<3/\(3:Int)<=4611686018427387904/\inSrc l x_2.2)/\(∃(x:Int×Int),drew l x_2.2 (3:Int) x)/\∀(x_3:Int×Int),drew l x_2.2 (3:Int) x_3->Q {val:= .agg [I6 x2,I6 x4, .bool (x.1==4), .bool (x_2.1==3), .bool (x_3.1==2)],own:=false,pars:=[[.sl false [4] l,I6 x_3.2]],news:=[]}):=by kernel_rfl
def SPla(hA:List HV)(pA:List (List HC)):SR:=match hA,pA with
 |[.ce (.sl false [4] l)],[]=> .all (l.length<=9223372036854775807) (Int×Int×Int) (fun x=>(1<=x.1/\x.1<=900)/\(2<=x.2.1/\x.2.1<=201)/\(1<=x.2.2/\x.2.2<=16000)) (fun x=>⟨.agg [I6 x.1,I6 x.2.1,I6 x.2.2],false,[],[]⟩)
 |_,_=> .fail
def tabPla:List (FuncId×HL.Spec):=[(14,SFrom),(22,SNext)]
noncomputable def CPla:Ctx:=⟨Tryz.prog,gam tabPla,Tryz.f38.ntmps,[],[]⟩
theorem vcPla(l:LL)(Q:Res->Prop):(nfun true CPla Tryz.f38 (bodyOf Tryz.f38) [.ce (.sl false [4] l)] [] Q)=(True/\∀(x1:LL),x1=l->∀(x2:Int),x2=0->((0:Int)<900/\(900:Int)<=4611686018427387904/\inSrc x1 x2)/\(∃(x:Int×Int),drew x1 x2 (900:Int) x)/\∀(x:Int×Int),drew x1 x2 (900:Int) x->(-9223372036854775808<=1+x.1/\(1:Int)+x.1<=9223372036854775807)/\∀x4,x4=1+x.1->((0:Int)<200/\(200:Int)<=4611686018427387904/\inSrc x1 x.2)/\(∃(x_1:Int×Int),drew x1 x.2 (200:Int) x_1)/\∀(x_1:Int×Int),drew x1 x.2 (200:Int) x_1->(-9223372036854775808<=2+x_1.1/\(2:Int)+x_1.1<=9223372036854775807)/\∀x6,x6=2+x_1.1->((0:Int)<16000/\(16000:Int)<=4611686018427387904/\inSrc x1 x_1.2)/\(∃(x:Int×Int),drew x1 x_1.2 (16000:Int) x)/\∀(x:Int×Int),drew x1 x_1.2 (16000:Int) x->(-9223372036854775808<=1+x.1/\(1:Int)+x.1<=9223372036854775807)/\∀x8,x8=1+x.1->Q ⟨.agg [I6 x4,I6 x6,I6 x8],false,[],[]⟩):=by kernel_rfl
def SMade(hA:List HV)(pA:List (List HC)):SR:=match hA,pA with
 |[.ce (.sl false [4] l), .ce (.sl false [4] ax), .ce (.sl false [4] pl), .ce (.int .i64 ds), .ce (.bool fa)],[]=> .all (l.length<=9223372036854775807/\ax.length<=9223372036854775807/\pl.length<=9223372036854775807) ShS okShop (fun x=>⟨.agg [I6 x.r.s0,I6 x.r.s1,I6 x.r.s2, .sl false [4,4,4,4,4,4,4] x.r.sg, .sl false [4,4,4] x.r.mks,I6 x.r.a.st,I6 x.r.a.sp,I6 x.r.a.ac,I6 x.r.a.je,I6 (-16777216),I6 16777216,I6 x.r.a.bl,I6 x.r.a.og,I6 x.r.a.sg, .sl false [4] x.r.a.pit,I6 x.r.b.st,I6 x.r.b.sp,I6 x.r.b.ac,I6 x.r.b.je,I6 (-16777216),I6 16777216,I6 x.r.b.bl,I6 x.r.b.og,I6 x.r.b.sg, .sl false [4] x.r.b.pit,I6 x.r.c.st,I6 x.r.c.sp,I6 x.r.c.ac,I6 x.r.c.je,I6 (-16777216),I6 16777216,I6 x.r.c.bl,I6 x.r.c.og,I6 x.r.c.sg, .sl false [4] x.r.c.pit, .sl false [4,4,4,4,4,4,4,4,4,4] x.r.pk,I6 x.r.ln,I6 x.r.f,I6 x.r.d0,I6 x.r.d1,I6 x.r.d2,I6 x.A,I6 x.J,I6 x.R,I6 x.r.ln],false,[],[]⟩)
 |_,_=> .fail
def tabMade:List (FuncId×HL.Spec):=[(35,SMotz),(36,SBuild),(37,SAxes),(38,SPla),(41,SPLen),(40,SDirs),(39,SLeg)]
def anMade:LAnn:=⟨[1,2,3,4,10,11,17,18],[1,2,3,10,11],[1000010,1000015],false⟩
def LMade(v:LV):LR:=match v with
 |([.ce (.sl false [4] ax), .ce (.sl false [4] pl), .ce (.int .i64 ds), .ce (.bool fa), .ce (.ptr 1000010 0),it, .ce (.int .i64 len), .ce (.int .i64 i)],[rb,ib])=>match it,ib with
  | .ce (.msl 1000015 n cap),[.arr ks rows d]=>bif ksEq ks [4,4,4,4,4,4,4,4,4,4,4,4,4,0,4,0,4,4,4,4,4,0]then .all (n=rows.length/\len=n/\i=0/\niceL rows/\rows.length<=5/\rb=zShop) (LL) (fun y=>niceL y/\y.length=rows.length) (fun _=> .exit 0) (fun y=>([.ce (.sl false [4] ax), .ce (.sl false [4] pl), .ce (I6 ds), .ce (.ptr 1000010 0), .ce (.msl 1000015 n cap)],[rb,[.arr [4,4,4,4,4,4,4,4,4,4,4,4,4,0,4,0,4,4,4,4,4,0] y d]]))else .fail
  | .ce (.sl false ks rows),[]=>bif ksEq ks [4,4,4,4,4,4,4,4,4,4,4,4,4,0,4,0,4,4,4,4,4,0]then .det (rows.length=0/\len=0/\i=0/\rb=zShop) (.exit 0) ([.ce (.sl false [4] ax), .ce (.sl false [4] pl), .ce (I6 ds), .ce (.ptr 1000010 0), .ce (.sl false [4,4,4,4,4,4,4,4,4,4,4,4,4,0,4,0,4,4,4,4,4,0] [])],[rb,[]])else .fail
  |_,_=> .fail
 |_=> .fail
noncomputable def CMade:Ctx:=⟨Tryz.prog,gam tabMade,Tryz.f12.ntmps,[(3,anMade,LMade)],[36]⟩
theorem vbMade(ax pl rows:LL)(ds len i:Int)(fa:Bool)(n cap d:Nat)(K:HEx->LV->Prop):(nbodyT true CMade anMade (nthLoop Tryz.f12 0) (([.ce (.sl false [4] ax), .ce (.sl false [4] pl), .ce (I6 ds), .ce (.bool fa), .ce (.ptr 1000010 0), .ce (.msl 1000015 n cap), .ce (I6 len), .ce (I6 i)],[[I6 0,I6 0,I6 0, .sl true [4,4,4,4,4,4,4] [], .sl true [4,4,4] [],I6 0,I6 0,I6 0,I6 0,I6 0,I6 0,I6 0,I6 0,I6 0, .sl true [4] [],I6 0,I6 0,I6 0,I6 0,I6 0,I6 0,I6 0,I6 0,I6 0, .sl true [4] [],I6 0,I6 0,I6 0,I6 0,I6 0,I6 0,I6 0,I6 0,I6 0, .sl true [4] [], .sl true [4,4,4,4,4,4,4,4,4,4] [],I6 0,I6 0,I6 0,I6 0,I6 0,I6 0,I6 0,I6 0,I6 0],[.arr [4,4,4,4,4,4,4,4,4,4,4,4,4,0,4,0,4,4,4,4,4,0] rows d]])) K)=(Br (i<len) (Bb (fa) ((0<=i/\i<((n:Nat):Int))/\i.toNat<rows.length/\∀x1,x1=el rows i.toNat->Bb (x1 !=1) ((0<=i/\i<((n:Nat):Int))/\i.toNat<rows.length/\R6 (i+1)/\∀x2,x2=i+1->K .normal ([.ce (.sl false [4] ax), .ce (.sl false [4] pl), .ce (I6 ds), .ce (.bool fa), .ce (.ptr 1000010 0), .ce (.msl (1000015:Nat) n cap), .ce (I6 len), .ce (I6 x2)],[zShop,[.arr [4,4,4,4,4,4,4,4,4,4,4,4,4,0,4,0,4,4,4,4,4,0] (List.set rows i.toNat [bif false&&true then(2000000:Int)else el rows i.toNat,bif false&&true then(2000000:Int)else ec rows i.toNat 1,bif false&&true then(2000000:Int)else ec rows i.toNat 2,bif false&&true then(2000000:Int)else ec rows i.toNat 3,bif false&&true then(2000000:Int)else ec rows i.toNat 4,bif false&&true then(2000000:Int)else ec rows i.toNat 5,bif false&&true then(2000000:Int)else ec rows i.toNat 6,bif false&&true then(2000000:Int)else ec rows i.toNat 7,bif false&&true then(2000000:Int)else ec rows i.toNat 8,bif false&&true then(2000000:Int)else ec rows i.toNat 9,bif false&&true then(2000000:Int)else ec rows i.toNat 10,bif false&&true then(2000000:Int)else ec rows i.toNat 11,bif false&&true then(2000000:Int)else ec rows i.toNat 12,bif false&&true then(2000000:Int)else ec rows i.toNat 13,bif true&&true then(2000000:Int)else ec rows i.toNat 14,bif true&&false then(0:Int)else ec rows i.toNat 15,bif true&&false then(0:Int)else ec rows i.toNat 16,bif true&&false then(0:Int)else ec rows i.toNat 17,bif true&&false then(0:Int)else ec rows i.toNat 18,bif true&&false then(0:Int)else ec rows i.toNat 19,bif true&&false then(0:Int)else ec rows i.toNat 20,bif true&&false then(0:Int)else ec rows i.toNat 21]) d]])) (R6 (i+1)/\∀x3,x3=i+1->K .normal ([.ce (.sl false [4] ax), .ce (.sl false [4] pl), .ce (I6 ds), .ce (.bool fa), .ce (.ptr 1000010 0), .ce (.msl (1000015:Nat) n cap), .ce (I6 len), .ce (I6 x3)],[zShop,[.arr [4,4,4,4,4,4,4,4,4,4,4,4,4,0,4,0,4,4,4,4,4,0] rows d]]))) (R6 (i+1)/\∀x4,x4=i+1->K .normal ([.ce (.sl false [4] ax), .ce (.sl false [4] pl), .ce (I6 ds), .ce (.bool fa), .ce (.ptr 1000010 0), .ce (.msl (1000015:Nat) n cap), .ce (I6 len), .ce (I6 x4)],[zShop,[.arr [4,4,4,4,4,4,4,4,4,4,4,4,4,0,4,0,4,4,4,4,4,0] rows d]]))) (K (.exit 0) ([.ce (.sl false [4] ax), .ce (.sl false [4] pl), .ce (I6 ds), .ce (.ptr 1000010 0), .ce (.msl (1000015:Nat) n cap)],[zShop,[.arr [4,4,4,4,4,4,4,4,4,4,4,4,4,0,4,0,4,4,4,4,4,0] rows d]]))):=by kernel_rfl
theorem vbMadeS(ax pl:LL)(ds:Int)(fa:Bool)(K:HEx->LV->Prop):(nbodyT true CMade anMade (nthLoop Tryz.f12 0) (([.ce (.sl false [4] ax), .ce (.sl false [4] pl), .ce (I6 ds), .ce (.bool fa), .ce (.ptr 1000010 0), .ce (.sl false [4,4,4,4,4,4,4,4,4,4,4,4,4,0,4,0,4,4,4,4,4,0] []), .ce (I6 0), .ce (I6 0)],[[I6 0,I6 0,I6 0, .sl true [4,4,4,4,4,4,4] [], .sl true [4,4,4] [],I6 0,I6 0,I6 0,I6 0,I6 0,I6 0,I6 0,I6 0,I6 0, .sl true [4] [],I6 0,I6 0,I6 0,I6 0,I6 0,I6 0,I6 0,I6 0,I6 0, .sl true [4] [],I6 0,I6 0,I6 0,I6 0,I6 0,I6 0,I6 0,I6 0,I6 0, .sl true [4] [], .sl true [4,4,4,4,4,4,4,4,4,4] [],I6 0,I6 0,I6 0,I6 0,I6 0,I6 0,I6 0,I6 0,I6 0],[]])) K)=(Br ((0:Int)<0) (Bb (fa) (((0:Int)<=0/\(0:Int)<0)/\∀(x1:Int),x1=0->Bb (x1 !=1) (((0:Int)<=0/\(0:Int)<0)/\False) ((-9223372036854775808<=1/\(1:Int)<=9223372036854775807)/\∀(x2:Int),x2=1->K .normal ([.ce (.sl false [4] ax), .ce (.sl false [4] pl), .ce (I6 ds), .ce (.bool fa), .ce (.ptr 1000010 0), .ce (.sl false [4,4,4,4,4,4,4,4,4,4,4,4,4,0,4,0,4,4,4,4,4,0] []), .ce (I6 0), .ce (I6 x2)],[zShop,[]]))) ((-9223372036854775808<=1/\(1:Int)<=9223372036854775807)/\∀(x3:Int),x3=1->K .normal ([.ce (.sl false [4] ax), .ce (.sl false [4] pl), .ce (I6 ds), .ce (.bool fa), .ce (.ptr 1000010 0), .ce (.sl false [4,4,4,4,4,4,4,4,4,4,4,4,4,0,4,0,4,4,4,4,4,0] []), .ce (I6 0), .ce (I6 x3)],[zShop,[]]))) (K (.exit 0) ([.ce (.sl false [4] ax), .ce (.sl false [4] pl), .ce (I6 ds), .ce (.ptr 1000010 0), .ce (.sl false [4,4,4,4,4,4,4,4,4,4,4,4,4,0,4,0,4,4,4,4,4,0] [])],[zShop,[]]))):=by kernel_rfl
theorem vcMade0(ax pl:LL)(ds:Int)(fa:Bool)(Q:Res->Prop):(nfun true CMade Tryz.f12 (bodyOf Tryz.f12) [.ce (.sl false [4] []), .ce (.sl false [4] ax), .ce (.sl false [4] pl), .ce (I6 ds), .ce (.bool fa)] [] Q)=(((1:Int)<=4/\(4:Int)<=5/\(0:Nat)<=9223372036854775807)/\∀(x1:LL),x1=[]->(x1.length=0/\(x1.length:Int)=0/\(0:Int)=0/\zShop=zShop)/\(niceL []/\(0:Nat)<=5)/\(∃(x:BSt×Int),okB (355000:Nat) x.1)/\∀(x:BSt×Int),okB (355000:Nat) x.1->ax.length<=9223372036854775807/\(∃(x:AxV×AxV×AxV),okAx x.1/\okAx x.snd.1/\okAx x.snd.2)/\∀(x_1:AxV×AxV×AxV),okAx x_1.1/\okAx x_1.snd.1/\okAx x_1.snd.2->pl.length<=9223372036854775807/\(∃(x:Int×Int×Int),(1<=x.1/\x.1<=900)/\(2<=x.snd.1/\x.snd.1<=201)/\1<=x.snd.2/\x.snd.2<=16000)/\∀(x_2:Int×Int×Int),(1<=x_2.1/\x_2.1<=900)/\(2<=x_2.snd.1/\x_2.snd.1<=201)/\1<=x_2.snd.2/\x_2.snd.2<=16000->True/\(∃(x:Int×Int×Int),pm x.1/\pm x.snd.1/\pm x.snd.2)/\∀(x_3:Int×Int×Int),pm x_3.1/\pm x_3.snd.1/\pm x_3.snd.2->okLen x.1.sg/\∀x6,x6=plen x.1.sg->(okLen x.1.sg/\okPts x.1.s0 x.1.s1 x.1.s2 x.1.sg/\okB3 x_1.1.bl x_1.snd.1.bl x_1.snd.2.bl)/\(∃(x_4:LegS),x_4=leg x.1.s0 x.1.s1 x.1.s2 x.1.sg x_1.1.bl x_1.snd.1.bl x_1.snd.2.bl x_3.1 x_3.snd.1 x_3.snd.2 (clamp (plen x.1.sg) (0:Int)) (clamp (plen x.1.sg) x6))/\∀(x_4:LegS),x_4=leg x.1.s0 x.1.s1 x.1.s2 x.1.sg x_1.1.bl x_1.snd.1.bl x_1.snd.2.bl x_3.1 x_3.snd.1 x_3.snd.2 (clamp (plen x.1.sg) (0:Int)) (clamp (plen x.1.sg) x6)->Q ⟨.agg [I6 x.1.s0,I6 x.1.s1,I6 x.1.s2, .sl false [4,4,4,4,4,4,4] x.1.sg, .sl false [4,4,4] x.1.mks,I6 x_1.1.st,I6 x_1.1.sp,I6 x_1.1.ac,I6 x_1.1.je,I6 (-16777216),I6 16777216,I6 x_1.1.bl,I6 x_1.1.og,I6 x_1.1.sg, .sl false [4] x_1.1.pit,I6 x_1.snd.1.st,I6 x_1.snd.1.sp,I6 x_1.snd.1.ac,I6 x_1.snd.1.je,I6 (-16777216),I6 16777216,I6 x_1.snd.1.bl,I6 x_1.snd.1.og,I6 x_1.snd.1.sg, .sl false [4] x_1.snd.1.pit,I6 x_1.snd.2.st,I6 x_1.snd.2.sp,I6 x_1.snd.2.ac,I6 x_1.snd.2.je,I6 (-16777216),I6 16777216,I6 x_1.snd.2.bl,I6 x_1.snd.2.og,I6 x_1.snd.2.sg, .sl false [4] x_1.snd.2.pit, .sl false [4,4,4,4,4,4,4,4,4,4] x_4.pk,I6 x_4.ln,I6 (clamp (plen x.1.sg) (0:Int)),I6 x_3.1,I6 x_3.snd.1,I6 x_3.snd.2,I6 x_2.1,I6 x_2.snd.1,I6 x_2.snd.2,I6 x_4.ln],false,[],[]⟩):=by kernel_rfl
theorem vcMade1(e1:List Int)(ax pl:LL)(ds:Int)(fa:Bool)(Q:Res->Prop):(nfun true CMade Tryz.f12 (bodyOf Tryz.f12) [.ce (.sl false [4] [e1]), .ce (.sl false [4] ax), .ce (.sl false [4] pl), .ce (I6 ds), .ce (.bool fa)] [] Q)=(((1:Int)<=4/\(4:Int)<=5/\(1:Nat)<=9223372036854775807)/\∀(x1:LL),x1=[]->(x1.length=0/\(x1.length:Int)=0/\(0:Int)=0/\zShop=zShop)/\(niceL []/\(0:Nat)<=5)/\(∃(x:BSt×Int),okB (355000:Nat) x.1)/\∀(x:BSt×Int),okB (355000:Nat) x.1->ax.length<=9223372036854775807/\(∃(x:AxV×AxV×AxV),okAx x.1/\okAx x.snd.1/\okAx x.snd.2)/\∀(x_1:AxV×AxV×AxV),okAx x_1.1/\okAx x_1.snd.1/\okAx x_1.snd.2->pl.length<=9223372036854775807/\(∃(x:Int×Int×Int),(1<=x.1/\x.1<=900)/\(2<=x.snd.1/\x.snd.1<=201)/\1<=x.snd.2/\x.snd.2<=16000)/\∀(x_2:Int×Int×Int),(1<=x_2.1/\x_2.1<=900)/\(2<=x_2.snd.1/\x_2.snd.1<=201)/\1<=x_2.snd.2/\x_2.snd.2<=16000->True/\(∃(x:Int×Int×Int),pm x.1/\pm x.snd.1/\pm x.snd.2)/\∀(x_3:Int×Int×Int),pm x_3.1/\pm x_3.snd.1/\pm x_3.snd.2->okLen x.1.sg/\∀x6,x6=plen x.1.sg->(okLen x.1.sg/\okPts x.1.s0 x.1.s1 x.1.s2 x.1.sg/\okB3 x_1.1.bl x_1.snd.1.bl x_1.snd.2.bl)/\(∃(x_4:LegS),x_4=leg x.1.s0 x.1.s1 x.1.s2 x.1.sg x_1.1.bl x_1.snd.1.bl x_1.snd.2.bl x_3.1 x_3.snd.1 x_3.snd.2 (clamp (plen x.1.sg) (0:Int)) (clamp (plen x.1.sg) x6))/\∀(x_4:LegS),x_4=leg x.1.s0 x.1.s1 x.1.s2 x.1.sg x_1.1.bl x_1.snd.1.bl x_1.snd.2.bl x_3.1 x_3.snd.1 x_3.snd.2 (clamp (plen x.1.sg) (0:Int)) (clamp (plen x.1.sg) x6)->Q ⟨.agg [I6 x.1.s0,I6 x.1.s1,I6 x.1.s2, .sl false [4,4,4,4,4,4,4] x.1.sg, .sl false [4,4,4] x.1.mks,I6 x_1.1.st,I6 x_1.1.sp,I6 x_1.1.ac,I6 x_1.1.je,I6 (-16777216),I6 16777216,I6 x_1.1.bl,I6 x_1.1.og,I6 x_1.1.sg, .sl false [4] x_1.1.pit,I6 x_1.snd.1.st,I6 x_1.snd.1.sp,I6 x_1.snd.1.ac,I6 x_1.snd.1.je,I6 (-16777216),I6 16777216,I6 x_1.snd.1.bl,I6 x_1.snd.1.og,I6 x_1.snd.1.sg, .sl false [4] x_1.snd.1.pit,I6 x_1.snd.2.st,I6 x_1.snd.2.sp,I6 x_1.snd.2.ac,I6 x_1.snd.2.je,I6 (-16777216),I6 16777216,I6 x_1.snd.2.bl,I6 x_1.snd.2.og,I6 x_1.snd.2.sg, .sl false [4] x_1.snd.2.pit, .sl false [4,4,4,4,4,4,4,4,4,4] x_4.pk,I6 x_4.ln,I6 (clamp (plen x.1.sg) (0:Int)),I6 x_3.1,I6 x_3.snd.1,I6 x_3.snd.2,I6 x_2.1,I6 x_2.snd.1,I6 x_2.snd.2,I6 x_4.ln],false,[],[]⟩):=by kernel_rfl
theorem vcMade2(e1 e2:List Int)(ax pl:LL)(ds:Int)(fa:Bool)(Q:Res->Prop):(nfun true CMade Tryz.f12 (bodyOf Tryz.f12) [.ce (.sl false [4] [e1,e2]), .ce (.sl false [4] ax), .ce (.sl false [4] pl), .ce (I6 ds), .ce (.bool fa)] [] Q)=(((1:Int)<=4/\(4:Int)<=5/\(2:Nat)<=9223372036854775807)/\∀(x1:LL),x1=[]->(x1.length=0/\(x1.length:Int)=0/\(0:Int)=0/\zShop=zShop)/\(niceL []/\(0:Nat)<=5)/\(∃(x:BSt×Int),okB (355000:Nat) x.1)/\∀(x:BSt×Int),okB (355000:Nat) x.1->ax.length<=9223372036854775807/\(∃(x:AxV×AxV×AxV),okAx x.1/\okAx x.snd.1/\okAx x.snd.2)/\∀(x_1:AxV×AxV×AxV),okAx x_1.1/\okAx x_1.snd.1/\okAx x_1.snd.2->pl.length<=9223372036854775807/\(∃(x:Int×Int×Int),(1<=x.1/\x.1<=900)/\(2<=x.snd.1/\x.snd.1<=201)/\1<=x.snd.2/\x.snd.2<=16000)/\∀(x_2:Int×Int×Int),(1<=x_2.1/\x_2.1<=900)/\(2<=x_2.snd.1/\x_2.snd.1<=201)/\1<=x_2.snd.2/\x_2.snd.2<=16000->True/\(∃(x:Int×Int×Int),pm x.1/\pm x.snd.1/\pm x.snd.2)/\∀(x_3:Int×Int×Int),pm x_3.1/\pm x_3.snd.1/\pm x_3.snd.2->okLen x.1.sg/\∀x6,x6=plen x.1.sg->(okLen x.1.sg/\okPts x.1.s0 x.1.s1 x.1.s2 x.1.sg/\okB3 x_1.1.bl x_1.snd.1.bl x_1.snd.2.bl)/\(∃(x_4:LegS),x_4=leg x.1.s0 x.1.s1 x.1.s2 x.1.sg x_1.1.bl x_1.snd.1.bl x_1.snd.2.bl x_3.1 x_3.snd.1 x_3.snd.2 (clamp (plen x.1.sg) (0:Int)) (clamp (plen x.1.sg) x6))/\∀(x_4:LegS),x_4=leg x.1.s0 x.1.s1 x.1.s2 x.1.sg x_1.1.bl x_1.snd.1.bl x_1.snd.2.bl x_3.1 x_3.snd.1 x_3.snd.2 (clamp (plen x.1.sg) (0:Int)) (clamp (plen x.1.sg) x6)->Q ⟨.agg [I6 x.1.s0,I6 x.1.s1,I6 x.1.s2, .sl false [4,4,4,4,4,4,4] x.1.sg, .sl false [4,4,4] x.1.mks,I6 x_1.1.st,I6 x_1.1.sp,I6 x_1.1.ac,I6 x_1.1.je,I6 (-16777216),I6 16777216,I6 x_1.1.bl,I6 x_1.1.og,I6 x_1.1.sg, .sl false [4] x_1.1.pit,I6 x_1.snd.1.st,I6 x_1.snd.1.sp,I6 x_1.snd.1.ac,I6 x_1.snd.1.je,I6 (-16777216),I6 16777216,I6 x_1.snd.1.bl,I6 x_1.snd.1.og,I6 x_1.snd.1.sg, .sl false [4] x_1.snd.1.pit,I6 x_1.snd.2.st,I6 x_1.snd.2.sp,I6 x_1.snd.2.ac,I6 x_1.snd.2.je,I6 (-16777216),I6 16777216,I6 x_1.snd.2.bl,I6 x_1.snd.2.og,I6 x_1.snd.2.sg, .sl false [4] x_1.snd.2.pit, .sl false [4,4,4,4,4,4,4,4,4,4] x_4.pk,I6 x_4.ln,I6 (clamp (plen x.1.sg) (0:Int)),I6 x_3.1,I6 x_3.snd.1,I6 x_3.snd.2,I6 x_2.1,I6 x_2.snd.1,I6 x_2.snd.2,I6 x_4.ln],false,[],[]⟩):=by kernel_rfl
theorem vcMade3(e1 e2 e3:List Int)(ax pl:LL)(ds:Int)(fa:Bool)(Q:Res->Prop):(nfun true CMade Tryz.f12 (bodyOf Tryz.f12) [.ce (.sl false [4] [e1,e2,e3]), .ce (.sl false [4] ax), .ce (.sl false [4] pl), .ce (I6 ds), .ce (.bool fa)] [] Q)=(((1:Int)<=4/\(4:Int)<=5/\(3:Nat)<=9223372036854775807)/\∀(x1:LL),x1=[]->(x1.length=0/\(x1.length:Int)=0/\(0:Int)=0/\zShop=zShop)/\(niceL []/\(0:Nat)<=5)/\(∃(x:BSt×Int),okB (355000:Nat) x.1)/\∀(x:BSt×Int),okB (355000:Nat) x.1->ax.length<=9223372036854775807/\(∃(x:AxV×AxV×AxV),okAx x.1/\okAx x.snd.1/\okAx x.snd.2)/\∀(x_1:AxV×AxV×AxV),okAx x_1.1/\okAx x_1.snd.1/\okAx x_1.snd.2->pl.length<=9223372036854775807/\(∃(x:Int×Int×Int),(1<=x.1/\x.1<=900)/\(2<=x.snd.1/\x.snd.1<=201)/\1<=x.snd.2/\x.snd.2<=16000)/\∀(x_2:Int×Int×Int),(1<=x_2.1/\x_2.1<=900)/\(2<=x_2.snd.1/\x_2.snd.1<=201)/\1<=x_2.snd.2/\x_2.snd.2<=16000->True/\(∃(x:Int×Int×Int),pm x.1/\pm x.snd.1/\pm x.snd.2)/\∀(x_3:Int×Int×Int),pm x_3.1/\pm x_3.snd.1/\pm x_3.snd.2->okLen x.1.sg/\∀x6,x6=plen x.1.sg->(okLen x.1.sg/\okPts x.1.s0 x.1.s1 x.1.s2 x.1.sg/\okB3 x_1.1.bl x_1.snd.1.bl x_1.snd.2.bl)/\(∃(x_4:LegS),x_4=leg x.1.s0 x.1.s1 x.1.s2 x.1.sg x_1.1.bl x_1.snd.1.bl x_1.snd.2.bl x_3.1 x_3.snd.1 x_3.snd.2 (clamp (plen x.1.sg) (0:Int)) (clamp (plen x.1.sg) x6))/\∀(x_4:LegS),x_4=leg x.1.s0 x.1.s1 x.1.s2 x.1.sg x_1.1.bl x_1.snd.1.bl x_1.snd.2.bl x_3.1 x_3.snd.1 x_3.snd.2 (clamp (plen x.1.sg) (0:Int)) (clamp (plen x.1.sg) x6)->Q ⟨.agg [I6 x.1.s0,I6 x.1.s1,I6 x.1.s2, .sl false [4,4,4,4,4,4,4] x.1.sg, .sl false [4,4,4] x.1.mks,I6 x_1.1.st,I6 x_1.1.sp,I6 x_1.1.ac,I6 x_1.1.je,I6 (-16777216),I6 16777216,I6 x_1.1.bl,I6 x_1.1.og,I6 x_1.1.sg, .sl false [4] x_1.1.pit,I6 x_1.snd.1.st,I6 x_1.snd.1.sp,I6 x_1.snd.1.ac,I6 x_1.snd.1.je,I6 (-16777216),I6 16777216,I6 x_1.snd.1.bl,I6 x_1.snd.1.og,I6 x_1.snd.1.sg, .sl false [4] x_1.snd.1.pit,I6 x_1.snd.2.st,I6 x_1.snd.2.sp,I6 x_1.snd.2.ac,I6 x_1.snd.2.je,I6 (-16777216),I6 16777216,I6 x_1.snd.2.bl,I6 x_1.snd.2.og,I6 x_1.snd.2.sg, .sl false [4] x_1.snd.2.pit, .sl false [4,4,4,4,4,4,4,4,4,4] x_4.pk,I6 x_4.ln,I6 (clamp (plen x.1.sg) (0:Int)),I6 x_3.1,I6 x_3.snd.1,I6 x_3.snd.2,I6 x_2.1,I6 x_2.snd.1,I6 x_2.snd.2,I6 x_4.ln],false,[],[]⟩):=by kernel_rfl
theorem vcMade4(e1 e2 e3 e4:List Int)(l ax pl:LL)(ds:Int)(fa:Bool)(Q:Res->Prop):(nfun true CMade Tryz.f12 (bodyOf Tryz.f12) [.ce (.sl false [4] (e1::e2::e3::e4::l)), .ce (.sl false [4] ax), .ce (.sl false [4] pl), .ce (I6 ds), .ce (.bool fa)] [] Q)=(((1:Int)<=4/\(4:Int)<=5/\List.length (e1::e2::e3::e4::l)<=9223372036854775807)/\(∃(x:LL×Nat),niceL x.1/\((0:Nat)<List.length x.1/\List.length x.1<=5)/\List.length x.1<=x.2/\x.2<=maxLen)/\∀(x:LL×Nat),niceL x.1/\((0:Nat)<List.length x.1/\List.length x.1<=5)/\List.length x.1<=x.2/\x.2<=maxLen->(List.length x.1=List.length x.1/\(List.length x.1:Int)=(List.length x.1:Int)/\(0:Int)=0/\niceL x.1/\List.length x.1<=5/\zShop=zShop)/\∀(x_1:LL),niceL x_1/\x_1.length=List.length x.1->List.length x.1=x_1.length/\(niceL x_1/\x_1.length<=5)/\(∃(x:BSt×Int),okB (355000:Nat) x.1)/\∀(x:BSt×Int),okB (355000:Nat) x.1->ax.length<=9223372036854775807/\(∃(x:AxV×AxV×AxV),okAx x.1/\okAx x.snd.1/\okAx x.snd.2)/\∀(x_2:AxV×AxV×AxV),okAx x_2.1/\okAx x_2.snd.1/\okAx x_2.snd.2->pl.length<=9223372036854775807/\(∃(x:Int×Int×Int),(1<=x.1/\x.1<=900)/\(2<=x.snd.1/\x.snd.1<=201)/\1<=x.snd.2/\x.snd.2<=16000)/\∀(x_3:Int×Int×Int),(1<=x_3.1/\x_3.1<=900)/\(2<=x_3.snd.1/\x_3.snd.1<=201)/\1<=x_3.snd.2/\x_3.snd.2<=16000->True/\(∃(x:Int×Int×Int),pm x.1/\pm x.snd.1/\pm x.snd.2)/\∀(x_4:Int×Int×Int),pm x_4.1/\pm x_4.snd.1/\pm x_4.snd.2->okLen x.1.sg/\∀x7,x7=plen x.1.sg->(okLen x.1.sg/\okPts x.1.s0 x.1.s1 x.1.s2 x.1.sg/\okB3 x_2.1.bl x_2.snd.1.bl x_2.snd.2.bl)/\(∃(x_5:LegS),x_5=leg x.1.s0 x.1.s1 x.1.s2 x.1.sg x_2.1.bl x_2.snd.1.bl x_2.snd.2.bl x_4.1 x_4.snd.1 x_4.snd.2 (clamp (plen x.1.sg) (0:Int)) (clamp (plen x.1.sg) x7))/\∀(x_5:LegS),x_5=leg x.1.s0 x.1.s1 x.1.s2 x.1.sg x_2.1.bl x_2.snd.1.bl x_2.snd.2.bl x_4.1 x_4.snd.1 x_4.snd.2 (clamp (plen x.1.sg) (0:Int)) (clamp (plen x.1.sg) x7)->Q ⟨.agg [I6 x.1.s0,I6 x.1.s1,I6 x.1.s2, .sl false [4,4,4,4,4,4,4] x.1.sg, .sl false [4,4,4] x.1.mks,I6 x_2.1.st,I6 x_2.1.sp,I6 x_2.1.ac,I6 x_2.1.je,I6 (-16777216),I6 16777216,I6 x_2.1.bl,I6 x_2.1.og,I6 x_2.1.sg, .sl false [4] x_2.1.pit,I6 x_2.snd.1.st,I6 x_2.snd.1.sp,I6 x_2.snd.1.ac,I6 x_2.snd.1.je,I6 (-16777216),I6 16777216,I6 x_2.snd.1.bl,I6 x_2.snd.1.og,I6 x_2.snd.1.sg, .sl false [4] x_2.snd.1.pit,I6 x_2.snd.2.st,I6 x_2.snd.2.sp,I6 x_2.snd.2.ac,I6 x_2.snd.2.je,I6 (-16777216),I6 16777216,I6 x_2.snd.2.bl,I6 x_2.snd.2.og,I6 x_2.snd.2.sg, .sl false [4] x_2.snd.2.pit, .sl false [4,4,4,4,4,4,4,4,4,4] x_5.pk,I6 x_5.ln,I6 (clamp (plen x.1.sg) (0:Int)),I6 x_4.1,I6 x_4.snd.1,I6 x_4.snd.2,I6 x_3.1,I6 x_3.snd.1,I6 x_3.snd.2,I6 x_5.ln],false,[],[]⟩):=by kernel_rfl
end Go.Proofs.YtoekmphdpepdbaaGreat
namespace U
theorem lsh_len{l:LL}:(lsh l=true->3<l.length)/\(lsh l=false->l.length<=3):=by
 match l with
 |[]=>exact⟨fun h=>(by cases h),fun _=>by simp⟩
 |[_]=>exact⟨fun h=>(by cases h),fun _=>by simp⟩
 |[_,_]=>exact⟨fun h=>(by cases h),fun _=>by simp⟩
 |[_,_,_]=>exact⟨fun h=>(by cases h),fun _=>by simp⟩
 |_::_::_::_::l=>exact⟨fun _=>by simp,fun h=>(by cases h)⟩
theorem ec_set_eq{L:LL}{i c:Nat}{r:List Int}(h:i<L.length):ec (L.set i r) i c=r.getD c 0:=by
 have:(L.set i r).getD i []=r:=by simp[List.getD_eq_getElem?_getD,h]
 unfold ec;rw[this]
theorem ec_set_ne{L:LL}{i j c:Nat}{r:List Int}(h:j≠i):ec (L.set i r) j c=ec L j c:=by
 have:(L.set i r).getD j []=L.getD j []:=by simp[List.getD_eq_getElem?_getD,List.getElem?_set_ne (Ne.symm h)]
 unfold ec;rw[this]
theorem nice_ex:∃x:LL×Nat,niceL x.1/\(0<x.1.length/\x.1.length<=5)/\x.1.length<=x.2/\x.2<=Go.maxLen:=by
 refine⟨([[1,0,0,0,0,0,0,0,0,0,0,0,0,0,0,0,0,0,0,0,0,0]],1),fun j hj=> ?_,by decide,by decide,by unfold Go.maxLen;decide⟩;obtain rfl:j=0:=by simp at hj;exact hj
 unfold niceAt nice b3 ec;decide
theorem okB_path{x:BSt}(h:okB 355000 x):okPath x.s0 x.s1 x.s2 x.sg x.mks:=⟨h.2.1,h.2.2.1,h.2.2.2.2.2.1,h.2.2.2.2.2.2⟩
theorem made_tail{ax pl:LL}{G:BSt->AxV×AxV×AxV->Int×Int×Int->Int×Int×Int->LegS->Prop}(ha:ax.length<=9223372036854775807)(hp:pl.length<=9223372036854775807)(fin:∀(x:BSt)(y:AxV×AxV×AxV)(p z:Int×Int×Int)(w:LegS),okShop ⟨⟨x.s0,x.s1,x.s2,x.sg,x.mks,y.1,y.2.1,y.2.2,z.1,z.2.1,z.2.2,clamp (plen x.sg) 0,clamp (plen x.sg) (plen x.sg),w.pk,w.ln⟩,p.1,p.2.1,p.2.2⟩->G x y p z w):(∃(x:BSt×Int),okB 355000 x.1)/\∀(x:BSt×Int),okB 355000 x.1->ax.length<=9223372036854775807/\(∃(x:AxV×AxV×AxV),okAx x.1/\okAx x.snd.1/\okAx x.snd.2)/\∀(y:AxV×AxV×AxV),okAx y.1/\okAx y.snd.1/\okAx y.snd.2->pl.length<=9223372036854775807/\(∃(x:Int×Int×Int),(1<=x.1/\x.1<=900)/\(2<=x.snd.1/\x.snd.1<=201)/\1<=x.snd.2/\x.snd.2<=16000)/\∀(p:Int×Int×Int),(1<=p.1/\p.1<=900)/\(2<=p.snd.1/\p.snd.1<=201)/\1<=p.snd.2/\p.snd.2<=16000->True/\(∃(x:Int×Int×Int),pm x.1/\pm x.snd.1/\pm x.snd.2)/\∀(z:Int×Int×Int),pm z.1/\pm z.snd.1/\pm z.snd.2->okLen x.1.sg/\∀(x7:Int),x7=plen x.1.sg->(okLen x.1.sg/\okPts x.1.s0 x.1.s1 x.1.s2 x.1.sg/\okB3 y.1.bl y.snd.1.bl y.snd.2.bl)/\(∃(w:LegS),w=leg x.1.s0 x.1.s1 x.1.s2 x.1.sg y.1.bl y.snd.1.bl y.snd.2.bl z.1 z.snd.1 z.snd.2 (clamp (plen x.1.sg) 0) (clamp (plen x.1.sg) x7))/\∀(w:LegS),w=leg x.1.s0 x.1.s1 x.1.s2 x.1.sg y.1.bl y.snd.1.bl y.snd.2.bl z.1 z.snd.1 z.snd.2 (clamp (plen x.1.sg) 0) (clamp (plen x.1.sg) x7)->G x.1 y p z w:=by
 refine⟨⟨(⟨0,0,0,0,0,0,0,[],[],-1,false⟩,0),okB_mono (Nat.zero_le _) (okB_zero (-1) false)⟩,fun x hx=>⟨ha,?_,fun y hy=>⟨hp,⟨(1,2,1),by decide⟩,fun p hpp=>⟨trivial,⟨(1,1,1), .inl rfl, .inl rfl, .inl rfl⟩,fun z hz=> ?_⟩⟩⟩⟩
 . obtain⟨a,h⟩:=Go.Proofs.YtoekmphdpepdbaaGreat.okAx_ex;exact⟨(a,a,a),h,h,h⟩
 . have hx:=okB_path hx;have hL:=okPath_len hx;have hpl:=plen_le hL;refine⟨hL,fun x7 e7=>⟨⟨hL,okPath_pts hx,?_⟩,⟨_,rfl⟩,fun w hw=>fin x.1 y p z w ?_⟩⟩
   . have:=hy.1.2.2.2.2.1;have:=hy.2.1.2.2.2.2.1;have:=hy.2.2.2.2.2.2.1;unfold okB3;omega
   . have c1:=clamp_bd (v:=0) hpl.1;have c2:=clamp_bd (v:=plen x.1.sg) hpl.1;subst e7;exact⟨⟨hx,hy.1,hy.2.1,hy.2.2,hz,c1,c2,by rw[hw];rfl,by rw[hw];rfl⟩,by show clamp (plen x.1.sg) 0=0;unfold clamp;omega,hpp.1,hpp.2.1,hpp.2.2⟩
end U
namespace Go.Proofs.YtoekmphdpepdbaaGreat
open Go Go.HL U
attribute [local irreducible] hfun bodyT fragT
theorem loopMotz:∀v Q,(LMotz v).wp Q->hloop CMotz anMotz (nthLoop Tryz.f35 0) v Q:=by
 intro v Q h;unfold LMotz at h;split at h;case h_2=>exact h.elim
 rename_i m ks y l p a0 a1 a2;cases hks:ksEq ks [4,4,4,4,4,4,4,4,4,4,4,4,4,0,4,0,4,4,4,4,4,0]
 . rw[hks]at h;exact h.elim
 rw[hks]at h;obtain rfl:=ksEq_eq hks;obtain⟨⟨hm,hp,hy,ha⟩,hq⟩:=h;refine hloop_rec (σ:=LL×Int×Int×Int×Int) (fun s=>([.ce (I6 m), .ce (.ptr 1000010 0), .zs [4,4,4,4,4,4,4,4,4,4,4,4,4,0,4,0,4,4,4,4,4,0] s.1, .ce (.lit true), .ce (.ptr 1000007 0)],[[.sl false [4] l,I6 s.2.1],[I6 s.2.2.1,I6 s.2.2.2.1,I6 s.2.2.2.2]])) (fun s=>5-s.1.length) (fun s=>inSrc l s.2.1/\s.1.length<=5/\niceL s.1/\b3 (4+40*(s.1.length:Int)) s.2.2.1 s.2.2.2.1 s.2.2.2.2/\(s.1.length=0->s.2.1=p)/\(0<s.1.length->p<(l.length:Int))) ?_ (y,p,a0,a1,a2) ⟨hp,by dsimp only;omega,fun j hj=>absurd (show j<y.length from hj) (by omega),b3_mono (by dsimp only;omega) ha,fun _=>rfl,fun h=>by dsimp only at h;omega⟩;rintro⟨y,q,a0,a1,a2⟩⟨hp,hy5,hy,ha,h0,h1⟩K hn hx _;dsimp only at hp hy5 hy ha h0 h1 hn⊢;refine byVB (vbMotz m q a0 a1 a2 y l K) ⟨fun g=>⟨trivial,?_⟩,fun g=>hx _ _ (hq (y,q,a0,a1,a2) ⟨hy,hy5,?_,?_⟩)⟩
 . have g:=odt g;rintro x1 ex1 _ rfl _ rfl;refine⟨fun gl=>⟨⟨by decide,by decide,hp⟩,drew_ex _ _ (by decide),fun y1 h1'=>⟨⟨h1'.1,by have:=h1'.2.1;omega⟩,fun x5 e5=> ?_⟩⟩,fun gl=>hx _ _ (hq (y,_,a0,a1,a2) ⟨hy,hy5,?_,?_⟩)⟩
   . have hlt:=odt (ex1.symm.trans gl);have k5:1<=x5/\x5<=3:=by
      have:y1.1=0∨y1.1=1∨y1.1=2∨y1.1=3∨y1.1=4:=by have:=h1'.1;have:=h1'.2.1;omega
      rcases this with h|h|h|h|h<;>rw[h]at e5
      . have e:x5=2:=e5;omega
      . have e:x5=2:=e5;omega
      . have e:x5=2:=e5;omega
      . have e:x5=3:=e5;omega
      . have e:x5=1:=e5;omega
     have s1:=drew_src hp h1';refine⟨⟨s1,b3_mono (by omega) ha,k5⟩,grown_ex k5 s1,fun x hx2=>⟨⟨show(y.length+1)*176<=140737488355328 by omega,by unfold maxLen;omega⟩,?_⟩⟩;have nb:=hx2.2.2 _ (by omega) ha;refine hn (_,x.2,x.1.t0,x.1.t1,x.1.t2) ⟨hx2.1,by simp;omega,niceL_app hy (niceB_mono (by omega) nb),b3_mono (by simp;omega) nb.2.2.1,fun e=>by simp at e,fun _=> ?_⟩ (by simp;omega);by_cases e:y.length=0
     . rw[<-h0 e];exact hlt
     . exact h1 (by omega)
   . intro hlt;have hnl:=odf (ex1.symm.trans gl);by_cases e:y.length=0
     . rw[h0 e]at hnl;omega
     . dsimp only;omega
   . intro hnl;by_cases e:y.length=0
     . exact e
     . have:=h1 (by omega);omega
 . intro _;have g:=odf g;dsimp only;omega
 . intro hnl;by_cases e:y.length=0
   . exact e
   . have:=h1 (by omega);omega
theorem sMotz:Sound Tryz.prog 35 SMotz:=by
 refine sound_of (C:=CMotz) tabMotz Tryz.func35 (by kernel_rfl) (by decide+kernel) (by kernel_rfl) rfl ⟨sFrom,sNext,sLeft,sMot,trivial⟩ (loops1 (by kernel_rfl) (loopOK_of (an:=anMotz) (S:=LMotz) (by kernel_rfl) loopMotz)) ?_;intro hA pA R h;unfold SMotz at h;split at h;case h_2=>exfalso;exact h
 rename_i l m;have hx:(1<=m/\m<=5/\l.length<=9223372036854775807)/\(l.length<=3->R ⟨.ce (.sl false [4,4,4,4,4,4,4,4,4,4,4,4,4,0,4,0,4,4,4,4,4,0] []),false,[],[[]]⟩)/\(3<l.length->∀(y:LL)(c:Nat),niceL y->0<y.length->y.length<=5->y.length<=c/\c<=maxLen->R ⟨.ce (.msl 500 y.length c),false,[],[[.arr [4,4,4,4,4,4,4,4,4,4,4,4,4,0,4,0,4,4,4,4,4,0] y c]]⟩):=by
  cases hs:lsh l with
  |true=>
   rw[hs]at h;obtain⟨hm,_,hR⟩:=h;exact⟨hm,fun e=>by have:=lsh_len.1 hs;omega,fun _ y c h1 h2 h3 h4=>hR (y,c) ⟨h1,⟨h2,h3⟩,h4⟩⟩
  |false=>
   rw[hs]at h;exact⟨h.1,fun _=>h.2,fun e=>by have:=lsh_len.2 hs;omega⟩
 obtain⟨⟨hm0,hm1,hl⟩,hR0,hR1⟩:=hx;refine byVC (vcMotz l m R) ⟨trivial,?_⟩;intro x1 e1 x2 e2;rw[e1,e2];have s0:inSrc l 0:=⟨Int.le_refl _,hl⟩;refine⟨⟨by decide,by decide,s0⟩,drew_ex _ _ (by decide),fun y1 h1=> ?_⟩;have s1:=drew_src s0 h1;have b1:=h1.1;have b1':=h1.2.1;refine⟨by omega,fun x4 e4=>⟨⟨by decide,by decide,s1⟩,drew_ex _ _ (by decide),fun y2 h2=> ?_⟩⟩;have s2:=drew_src s1 h2;have b2:=h2.1;have b2':=h2.2.1;refine⟨by omega,fun x6 e6=>⟨⟨by decide,by decide,s2⟩,drew_ex _ _ (by decide),fun y3 h3=> ?_⟩⟩;have s3:=drew_src s2 h3;have b3':=h3.1;have b3'':=h3.2.1;have ep:y3.2<(l.length:Int)↔3<l.length:=by
  rw[h3.2.2,h2.2.2,h1.2.2];unfold adv;(repeat' split)<;>omega
 refine⟨by omega,fun x8 e8=>⟨⟨⟨hm0,hm1⟩,s3,rfl,by unfold b3;omega⟩,fun z⟨z1,z2,z3,z4⟩=>⟨fun e=>hR0 ?_,fun e c hc=>hR1 ?_ z.1 c z1 e z2 hc⟩⟩⟩
 . apply Classical.byContradiction;intro hc;have:=z3 (ep.2 (by omega));omega
 . apply Classical.byContradiction;intro hc;have:=z4 (fun h=>hc (ep.1 h));omega
theorem sPan:Sound Tryz.prog 13 SPan:=by
 refine sound_of (C:=CPan) tabNx1 Tryz.func13 (by kernel_rfl) (by decide+kernel) (by kernel_rfl) rfl ⟨sNext,trivial⟩ (loops0 (by kernel_rfl)) ?_;intro hA pA R h;unfold SPan at h;split at h;case h_2=>exfalso;exact h
 rename_i l p;obtain⟨hp,_,hR⟩:=h;refine byVC (vcPan l p R) ⟨⟨by decide,by decide,hp⟩,drew_ex _ _ (by decide),fun y1 h1=>⟨⟨h1.1,h1.2.1⟩,fun x2 _=> ?_⟩⟩;have s1:=drew_src hp h1;refine⟨⟨by decide,by decide,s1⟩,drew_ex _ _ (by decide),fun y2 h2=>⟨⟨h2.1,h2.2.1⟩,fun x4 _=> ?_⟩⟩;have s2:=drew_src s1 h2;refine⟨⟨by decide,by decide,s2⟩,drew_ex _ _ (by decide),fun y3 h3=> ?_⟩;have s3:=drew_src s2 h3;refine⟨⟨by decide,by decide,s3⟩,drew_ex _ _ (by decide),fun y4 h4=> ?_⟩;have s4:=drew_src s3 h4;refine⟨⟨by decide,by decide,s4⟩,drew_ex _ _ (by decide),fun y5 h5=> ?_⟩;exact hR (x2,x4,(y3.1==4),(y4.1==3),(y5.1==2),y5.2) (drew_src s4 h5)
theorem sPla:Sound Tryz.prog 38 SPla:=by
 refine sound_of (C:=CPla) tabPla Tryz.func38 (by kernel_rfl) (by decide+kernel) (by kernel_rfl) rfl ⟨sFrom,sNext,trivial⟩ (loops0 (by kernel_rfl)) ?_;intro hA pA R h;unfold SPla at h;split at h;case h_2=>exfalso;exact h
 rename_i l;obtain⟨hl,_,hR⟩:=h;refine byVC (vcPla l R) ⟨trivial,?_⟩;intro x1 e1 x2 e2;rw[e1,e2];have s0:inSrc l 0:=⟨Int.le_refl _,hl⟩;refine⟨⟨by decide,by decide,s0⟩,drew_ex _ _ (by decide),fun y1 h1=> ?_⟩;have s1:=drew_src s0 h1;have b1:=h1.1;have b1':=h1.2.1;refine⟨by omega,fun x4 e4=>⟨⟨by decide,by decide,s1⟩,drew_ex _ _ (by decide),fun y2 h2=> ?_⟩⟩;have s2:=drew_src s1 h2;have b2:=h2.1;have b2':=h2.2.1;refine⟨by omega,fun x6 e6=>⟨⟨by decide,by decide,s2⟩,drew_ex _ _ (by decide),fun y3 h3=> ?_⟩⟩;have b3':=h3.1;have b3'':=h3.2.1;exact⟨by omega,fun x8 e8=>hR (x4,x6,x8) ⟨by dsimp only;omega,by dsimp only;omega,by dsimp only;omega⟩⟩
theorem loopMade:∀v Q,(LMade v).wp Q->hloop CMade anMade (nthLoop Tryz.f12 0) v Q:=by
 intro v Q h;unfold LMade at h;split at h;case h_2=>exact h.elim
 rename_i ax pl ds fa it len i rb ib;split at h;case h_3=>exact h.elim
 . rename_i n cap ks rows d;cases hks:ksEq ks [4,4,4,4,4,4,4,4,4,4,4,4,4,0,4,0,4,4,4,4,4,0]
   . rw[hks]at h;exact h.elim
   rw[hks]at h;obtain rfl:=ksEq_eq hks;obtain⟨⟨h1,h2,h3,h4,h5,h6⟩,hq⟩:=h;subst h1 h2 h3 h6;refine hloop_rec (σ:=LL×Nat) (fun s=>([.ce (.sl false [4] ax), .ce (.sl false [4] pl), .ce (I6 ds), .ce (.bool fa), .ce (.ptr 1000010 0), .ce (.msl 1000015 rows.length cap), .ce (I6 (rows.length:Int)), .ce (I6 (s.2:Int))],[zShop,[.arr [4,4,4,4,4,4,4,4,4,4,4,4,4,0,4,0,4,4,4,4,4,0] s.1 d]])) (fun s=>rows.length-s.2) (fun s=>s.2<=rows.length/\niceL s.1/\s.1.length=rows.length) ?_ (rows,0) ⟨Nat.zero_le _,h4,rfl⟩;rintro⟨y,i⟩⟨i1,i2,i3⟩K hn hx _;dsimp only at i1 i2 i3 hn⊢;refine byVB (vbMade ax pl y ds rows.length i fa rows.length cap d K) ⟨fun g=> ?_,fun g=>hx _ _ (hq y ⟨i2,i3⟩)⟩;have g:=odt g;have keep:∀x:Int,x=(i:Int)+1->K .normal ([.ce (.sl false [4] ax), .ce (.sl false [4] pl), .ce (I6 ds), .ce (.bool fa), .ce (.ptr 1000010 0), .ce (.msl 1000015 rows.length cap), .ce (I6 (rows.length:Int)), .ce (I6 x)],[zShop,[.arr [4,4,4,4,4,4,4,4,4,4,4,4,4,0,4,0,4,4,4,4,4,0] y d]]):=fun x ex=>by
    have:=hn (y,i+1) ⟨by dsimp only;omega,i2,i3⟩ (by dsimp only;omega);rw[show((i+1:Nat):Int)=x by omega]at this;exact this
   refine⟨fun _=>⟨by omega,by show i<y.length;omega,fun x1 e1=>⟨fun _=>⟨by omega,by show i<y.length;omega,by omega,fun x2 e2=> ?_⟩,fun _=>⟨by omega,fun x3 e3=>keep x3 e3⟩⟩⟩,fun _=>⟨by omega,fun x3 e3=>keep x3 e3⟩⟩;rw[show(i:Int).toNat=i from rfl];have key:∀r:List Int,r.getD 0 0=ec y i 0->r.getD 2 0=ec y i 2->r.getD 3 0=ec y i 3->r.getD 4 0=ec y i 4->r.getD 5 0=ec y i 5->r.getD 6 0=ec y i 6->r.getD 7 0=ec y i 7->r.getD 9 0=ec y i 9->r.getD 10 0=ec y i 10->r.getD 11 0=ec y i 11->r.getD 12 0=ec y i 12->r.getD 18 0=ec y i 18->r.getD 14 0=2000000->K .normal ([.ce (.sl false [4] ax), .ce (.sl false [4] pl), .ce (I6 ds), .ce (.bool fa), .ce (.ptr 1000010 0), .ce (.msl 1000015 rows.length cap), .ce (I6 (rows.length:Int)), .ce (I6 x2)],[zShop,[.arr [4,4,4,4,4,4,4,4,4,4,4,4,4,0,4,0,4,4,4,4,4,0] (y.set i r) d]]):=by
    intro r h0 h2 h3 h4 h5 h6 h7 h9 h10 h11 h12 h18 h14;have:=hn (y.set i r,i+1) ⟨by dsimp only;omega,?_,by simp;exact i3⟩ (by dsimp only;omega)
    . rw[show((i+1:Nat):Int)=x2 by omega]at this;exact this
    . intro j hj;rw[List.length_set]at hj;by_cases e:j=i
      . subst e;obtain⟨n1,n2,n3,n4,n5,n6,n7⟩:=i2 j hj;unfold niceAt;rw[ec_set_eq hj,ec_set_eq hj,ec_set_eq hj,ec_set_eq hj,ec_set_eq hj,ec_set_eq hj,ec_set_eq hj,ec_set_eq hj,ec_set_eq hj,ec_set_eq hj,ec_set_eq hj,ec_set_eq hj,ec_set_eq hj,h0,h2,h3,h4,h5,h6,h7,h9,h10,h11,h12,h18,h14];exact⟨n1,n2,n3,n4,n5,(by decide:(0:Int)<=2000000/\(2000000:Int)<=60000000),n7⟩
      . have:=i2 j hj;unfold niceAt at this⊢;rw[ec_set_ne e,ec_set_ne e,ec_set_ne e,ec_set_ne e,ec_set_ne e,ec_set_ne e,ec_set_ne e,ec_set_ne e,ec_set_ne e,ec_set_ne e,ec_set_ne e,ec_set_ne e,ec_set_ne e];exact this
   exact key _ rfl rfl rfl rfl rfl rfl rfl rfl rfl rfl rfl rfl rfl
 . rename_i ks rows;cases hks:ksEq ks [4,4,4,4,4,4,4,4,4,4,4,4,4,0,4,0,4,4,4,4,4,0]
   . rw[hks]at h;exact h.elim
   rw[hks]at h;obtain rfl:=ksEq_eq hks;obtain⟨⟨h1,h2,h3,h6⟩,hq⟩:=h;obtain rfl:=List.eq_nil_of_length_eq_zero h1;subst h2 h3 h6;refine hloop_rec (σ:=Unit) (fun _=>([.ce (.sl false [4] ax), .ce (.sl false [4] pl), .ce (I6 ds), .ce (.bool fa), .ce (.ptr 1000010 0), .ce (.sl false [4,4,4,4,4,4,4,4,4,4,4,4,4,0,4,0,4,4,4,4,4,0] []), .ce (I6 0), .ce (I6 0)],[zShop,[]])) (fun _=>0) (fun _=>True) ?_ () trivial;intro _ _ K _ hx _;exact byVB (vbMadeS ax pl ds fa K) ⟨fun g=>(by cases g),fun _=>hx _ _ hq⟩
theorem sMade:Sound Tryz.prog 12 SMade:=by
 refine sound_of (C:=CMade) tabMade Tryz.func12 (by kernel_rfl) (by decide+kernel) (by kernel_rfl) rfl ⟨sMotz,sBuild,sAxes,sPla,sPLen,sDirs,sLeg,trivial⟩ (loops1 (by kernel_rfl) (loopOK_of (an:=anMade) (S:=LMade) (by kernel_rfl) loopMade)) ?_;intro hA pA R h;unfold SMade at h;split at h;case h_2=>exfalso;exact h
 rename_i l ax pl ds fa;obtain⟨⟨hl,ha,hp⟩,_,hR⟩:=h;have nn:niceL []:=fun j hj=>by simp at hj
 match l,hl with
 |[],_=>exact byVC (vcMade0 ax pl ds fa R) ⟨by decide,fun x1 e1=>⟨⟨by rw[e1];rfl,by rw[e1];rfl,rfl,rfl⟩,⟨nn,by decide⟩,made_tail ha hp fun x y p z w hw=>hR _ hw⟩⟩
 |[e1],_=>exact byVC (vcMade1 e1 ax pl ds fa R) ⟨by decide,fun x1 e1=>⟨⟨by rw[e1];rfl,by rw[e1];rfl,rfl,rfl⟩,⟨nn,by decide⟩,made_tail ha hp fun x y p z w hw=>hR _ hw⟩⟩
 |[e1,e2],_=>exact byVC (vcMade2 e1 e2 ax pl ds fa R) ⟨by decide,fun x1 e1=>⟨⟨by rw[e1];rfl,by rw[e1];rfl,rfl,rfl⟩,⟨nn,by decide⟩,made_tail ha hp fun x y p z w hw=>hR _ hw⟩⟩
 |[e1,e2,e3],_=>exact byVC (vcMade3 e1 e2 e3 ax pl ds fa R) ⟨by decide,fun x1 e1=>⟨⟨by rw[e1];rfl,by rw[e1];rfl,rfl,rfl⟩,⟨nn,by decide⟩,made_tail ha hp fun x y p z w hw=>hR _ hw⟩⟩
 |e1::e2::e3::e4::l,hl=>exact byVC (vcMade4 e1 e2 e3 e4 l ax pl ds fa R) ⟨⟨by decide,by decide,hl⟩,nice_ex,fun x hx=>⟨⟨rfl,rfl,rfl,hx.1,hx.2.1.2,rfl⟩,fun y hy=>⟨hy.2.symm,⟨hy.1,by rw[hy.2];exact hx.2.1.2⟩,made_tail ha hp fun x y p z w hw=>hR _ hw⟩⟩⟩
end Go.Proofs.YtoekmphdpepdbaaGreat
namespace U
open Go
theorem Lm_tail{sp ac je:Int}{f:Nat->Int}{n:Nat}(h:Lm sp ac je f (n+1)):Lm sp ac je (fun j=>f (j+1)) n:=⟨fun j hj=>h.1 (j+1) (by omega),fun j hj=>h.2.1 (j+1) (by omega),fun j hj=>h.2.2 (j+1) (by omega)⟩
theorem wth3_tail{s0 a0 j0 s1 a1 j1 s2 a2 j2:Int}{r:List Int}{L:List (List Int)}(h:wth3 s0 a0 j0 s1 a1 j1 s2 a2 j2 (r::L)=true):wth3 s0 a0 j0 s1 a1 j1 s2 a2 j2 L=true:=by
 rw[wth3_iff]at h⊢;exact⟨Lm_tail h.1,Lm_tail h.2.1,Lm_tail h.2.2⟩
theorem Lm_same{sp ac je:Int}{f:Nat->Int}{n:Nat}(h0:0<=sp)(h1:0<=ac)(h2:0<=je)(h:Lm sp ac je f (n+3))(e1:f (n+3)=f (n+2))(e2:f (n+2)=f (n+1))(e3:f (n+1)=f n):Lm sp ac je f (n+4):=by
 obtain⟨a,b,c⟩:=h;refine⟨fun j hj=> ?_,fun j hj=> ?_,fun j hj=> ?_⟩
 . by_cases e:j=n+2
   . subst e;rw[e1];omega
   . exact a j (by omega)
 . by_cases e:j=n+1
   . subst e;rw[show n+1+2=n+3 from rfl,show n+1+1=n+2 from rfl,e1,e2];omega
   . exact b j (by omega)
 . by_cases e:j=n
   . subst e;rw[e1,e2,e3];omega
   . exact c j (by omega)
theorem qsm_cons(r:List Int)(l:List (List Int)):∀k,qsm (r::l) (k+1)=r.getD 0 0+qsm l k
 |0=>by show(0:Int)+r.getD 0 0=r.getD 0 0+0;omega
 |k+1=>by
  have e:=qsm_cons r l k;show qsm (r::l) (k+1)+el (r::l) (k+1)=r.getD 0 0+(qsm l k+el l k);rw[e,el_cons];omega
theorem qcum_cons(u:Int)(r:List Int)(l:List (List Int)):qcum u (r::l)=[u+r.getD 0 0]::qcum (u+r.getD 0 0) l:=by
 have key:∀n,qcumN u (r::l) (n+1)=[u+r.getD 0 0]::qcumN (u+r.getD 0 0) l n:=by
  intro n;induction n with
  |zero=>unfold qcumN;simp[qsm,el]
  |succ n ih=>rw[qcumN_succ,ih,qcumN_succ,qsm_cons,List.cons_append,Int.add_assoc]
 exact key l.length
theorem qend_cons(u x:Int)(f:List (List Int)):qend u ([x]::f)=qend x f:=by
 unfold qend;rw[if_neg (by simp)];cases f with
 |nil=>rfl
 |cons r f=>rw[if_neg (by simp)];rfl
theorem qfok_iff{A J v a:Int}:qfok A J v a=true↔qready A J v a=true/\qsok A J 4096 v a=true:=by unfold qfok;rw[Bool.and_eq_true]
theorem qsp_of{A J v a:Int}(h:qfok A J v a=true):qsp A J v a=qst A J 4096 v a:=by unfold qsp;rw[if_pos h]
theorem stop_next{A J R:Int}(hp:okPl A J R){m:QM}(h:qfok A J m.v m.a=true):qfok A J (m.v+qbrk A J m.v m.a) (qbrk A J m.v m.a)=true/\((0<m.v/\qfu A J m.u m.v m.a=[m.u+(m.v+qbrk A J m.v m.a)]::qfu A J (m.u+(m.v+qbrk A J m.v m.a)) (m.v+qbrk A J m.v m.a) (qbrk A J m.v m.a))∨(m.v=0/\qbrk A J m.v m.a=0/\qfu A J m.u m.v m.a=[]/\qfu A J m.u 0 0=[])):=by
 have hA:=hp.1.1;have hJ:1<=J:=by have:=hp.2.1.1;omega
 obtain⟨h1,h2⟩:=qfok_iff.1 h;have hv:=qready_v hJ h1;have hr:=qbrk_ready hA hJ h1;by_cases h0:0<m.v
 . obtain⟨t1,t2⟩:=qst_tail h0 h2;have k:=qfok_iff.2 ⟨hr,t1⟩;refine⟨k, .inl ⟨h0,?_⟩⟩;unfold qfu;rw[qsp_of h,qsp_of k,t2,qcum_cons];rfl
 . have e:m.v=0:=by omega
   rw[e]at h1 hr⊢;have b:=qbrk_rest hA hJ h1;rw[b]at hr⊢;have n1:=qst_nil (A:=A) (J:=J) (v:=0+0) (a:=0) (n:=4096) (by omega);have n0:=qst_nil (A:=A) (J:=J) (v:=0) (a:=m.a) (n:=4096) (by omega);have k:=qfok_iff.2 ⟨hr,n1.2⟩;refine⟨k, .inr ⟨rfl,rfl,?_,?_⟩⟩
   . rw[e]at h;unfold qfu;rw[qsp_of h,n0.1];rfl
   . unfold qfu;rw[qsp_of (v:=0) (a:=0) k,(qst_nil (A:=A) (J:=J) (v:=0) (a:=0) (n:=4096) (by omega)).1];rfl
theorem qmove_a(m:QM)(v:Int):(qmove m (m.v+v)).a=v:=by show m.v+v-m.v=v;omega
theorem safe_next{A J R:Int}(hp:okPl A J R){s0 a0 j0 s1 a1 j1 s2 a2 j2:Int}(hl:okL3 s0 a0 j0 s1 a1 j1 s2 a2 j2){M0 M1 M2:Int->Int}{ln:Int}{m:QM}{lim:Int}(h:qsafe A J (wth3 s0 a0 j0 s1 a1 j1 s2 a2 j2) (qmot M0 M1 M2 ln) m lim=true):qsafe A J (wth3 s0 a0 j0 s1 a1 j1 s2 a2 j2) (qmot M0 M1 M2 ln) (qmove m (m.v+qbrk A J m.v m.a)) lim=true:=by
 unfold qsafe at h⊢;rw[Bool.and_eq_true,Bool.and_eq_true,decide_eq_true_iff]at h⊢;obtain⟨h1,h2,h3⟩:=h;obtain⟨k1,k2⟩:=stop_next hp h1;rw[qmove_a];refine⟨k1,?_⟩;rcases k2 with⟨k0,k2⟩|⟨k0,kb,k2,k3⟩
 . rw[k2,qend_cons]at h2;rw[k2]at h3;refine⟨h2,?_⟩;unfold qway at h3⊢;rw[qend_cons]at h3;exact wth3_tail h3
 . rw[k2]at h2 h3;rw[kb,k0];show qend (m.u+(0+0)) (qfu A J (m.u+(0+0)) (0+0) 0)<=lim*256/\wth3 s0 a0 j0 s1 a1 j1 s2 a2 j2 (qmot M0 M1 M2 ln (qway (qmove m (0+0)) (qfu A J (m.u+(0+0)) (0+0) 0)))=true;rw[show(0:Int)+0=0 from rfl,show m.u+0=m.u by omega,k3];refine⟨h2,?_⟩;have e:qway (qmove m 0) []=[[m.p],[m.l],[m.u],[m.u],[m.u],[m.u]]:=by
    unfold qway qend qmove;simp
   have e2:qway m []=[[m.b],[m.p],[m.l],[m.u],[m.u],[m.u]]:=by unfold qway qend;simp
   rw[e2]at h3;rw[e];have h4:=wth3_tail h3;rw[wth3_iff]at h4⊢;exact⟨Lm_same (n:=2) hl.1.1.1 hl.1.2.1.1 hl.1.2.2.1 (Lm_congr (fun j hj=>by
    rcases(by omega:j=0∨j=1∨j=2∨j=3∨j=4)with rfl|rfl|rfl|rfl|rfl<;>rfl) h4.1) rfl rfl rfl,Lm_same (n:=2) hl.2.1.1.1 hl.2.1.2.1.1 hl.2.1.2.2.1 (Lm_congr (fun j hj=>by
     rcases(by omega:j=0∨j=1∨j=2∨j=3∨j=4)with rfl|rfl|rfl|rfl|rfl<;>rfl) h4.2.1) rfl rfl rfl,Lm_same (n:=2) hl.2.2.1.1 hl.2.2.2.1.1 hl.2.2.2.2.1 (Lm_congr (fun j hj=>by
     rcases(by omega:j=0∨j=1∨j=2∨j=3∨j=4)with rfl|rfl|rfl|rfl|rfl<;>rfl) h4.2.2) rfl rfl rfl⟩
theorem safe_mono{A J:Int}{W:List (List Int)->Bool}{Mo:List (List Int)->List (List Int)}{m:QM}{lim lim':Int}(hl:lim<=lim')(h:qsafe A J W Mo m lim=true):qsafe A J W Mo m lim'=true:=by
 unfold qsafe at h⊢;rw[Bool.and_eq_true,Bool.and_eq_true,decide_eq_true_iff]at h⊢;exact⟨h.1,by omega,h.2.2⟩
theorem qpick_some{ok:Int->Bool}:∀{l:List (List Int)}{k:Int},qpick ok l=some k->ok k=true/\∃j,j<l.length/\el l j=k
 |[],k,h=>by cases h
 |r::l,k,h=>by
  unfold qpick at h;by_cases hk:ok (r.getD 0 0)=true
  . rw[if_pos hk]at h;cases h;exact⟨hk,0,by simp,rfl⟩
  . rw[if_neg hk]at h;obtain⟨h1,j,h2,h3⟩:=qpick_some h;exact⟨h1,j+1,by simpa using h2,h3⟩
theorem next_cases(A J:Int)(W:List (List Int)->Bool)(Mo:List (List Int)->List (List Int))(n:Nat)(T:Int->Int)(m:QM)(lim:Int):(∃k,qpick (qok A J W Mo n T m lim) (chg J)=some k/\qnext A J W Mo n T m lim=qmove m (m.v+(m.a+k))/\0<=m.v+(m.a+k)/\qready A J (m.v+(m.a+k)) (m.a+k)=true/\qfit A J n T (qmove m (m.v+(m.a+k)))=true/\qsafe A J W Mo (qmove m (m.v+(m.a+k))) lim=true)∨(qpick (qok A J W Mo n T m lim) (chg J)=none/\qnext A J W Mo n T m lim=qmove m (m.v+qbrk A J m.v m.a)):=by
 unfold qnext;cases h:qpick (qok A J W Mo n T m lim) (chg J)with
 |none=>exact .inr ⟨rfl,rfl⟩
 |some k=>
  have ok:=(qpick_some h).1;unfold qok at ok;rw[Bool.and_eq_true,Bool.and_eq_true,Bool.and_eq_true,decide_eq_true_iff]at ok;exact .inl ⟨k,rfl,rfl,ok⟩
def qinv(A J:Int)(W:List (List Int)->Bool)(Mo:List (List Int)->List (List Int))(m:QM)(lim:Int):Prop:=qsafe A J W Mo m lim=true/\0<=m.b/\m.b<=m.p/\m.p<=m.l/\m.l<=m.u
theorem inv_next{A J R:Int}(hp:okPl A J R){s0 a0 j0 s1 a1 j1 s2 a2 j2:Int}(hl:okL3 s0 a0 j0 s1 a1 j1 s2 a2 j2){M0 M1 M2:Int->Int}{ln:Int}{n:Nat}{T:Int->Int}{m:QM}{lim lim':Int}(hm:lim<=lim')(h:qinv A J (wth3 s0 a0 j0 s1 a1 j1 s2 a2 j2) (qmot M0 M1 M2 ln) m lim):qinv A J (wth3 s0 a0 j0 s1 a1 j1 s2 a2 j2) (qmot M0 M1 M2 ln) (qnext A J (wth3 s0 a0 j0 s1 a1 j1 s2 a2 j2) (qmot M0 M1 M2 ln) n T m lim') lim':=by
 obtain⟨hs,h1,h2,h3,h4⟩:=h;rcases next_cases A J (wth3 s0 a0 j0 s1 a1 j1 s2 a2 j2) (qmot M0 M1 M2 ln) n T m lim' with⟨k,_,e,k1,_,_,k2⟩|⟨_,e⟩
 . rw[e];exact⟨k2,by show 0<=m.p;omega,h3,h4,by show m.u<=m.u+_;omega⟩
 . rw[e];have hs':=safe_mono hm hs;have hf:qfok A J m.v m.a=true:=by unfold qsafe at hs;rw[Bool.and_eq_true]at hs;exact hs.1
   have hv:=qready_v (by have:=hp.2.1.1;omega) (qfok_iff.1 (stop_next hp hf).1).1;exact⟨safe_next hp hl hs',by show 0<=m.p;omega,h3,h4,by show m.u<=m.u+_;omega⟩
theorem inv_ok{A J:Int}{W:List (List Int)->Bool}{Mo:List (List Int)->List (List Int)}{m:QM}{lim:Int}(h:qinv A J W Mo m lim):qfok A J m.v m.a=true:=by
 have:=h.1;unfold qsafe at this;rw[Bool.and_eq_true]at this;exact this.1
theorem inv_bd{A J R:Int}(hp:okPl A J R){W:List (List Int)->Bool}{Mo:List (List Int)->List (List Int)}{m:QM}{lim:Int}(h:qinv A J W Mo m lim):(0<=m.u/\m.u<=qend m.u (qfu A J m.u m.v m.a))/\qend m.u (qfu A J m.u m.v m.a)<=lim*256/\(0<=m.v/\m.v<=16777216)/\(-A<=m.a/\m.a<=A):=by
 have hf:=inv_ok h;have hr:=qready_iff.1 (qfok_iff.1 hf).1;have hv:=qready_v (by have:=hp.2.1.1;omega) (qfok_iff.1 hf).1;have he:=qend_bd (u:=m.u) (qsp_spd (v:=m.v) (a:=m.a) hp);have hs:=h.1;unfold qsafe at hs;rw[Bool.and_eq_true,Bool.and_eq_true,decide_eq_true_iff]at hs;have:=h.2;exact⟨⟨by omega,he.1⟩,hs.2.1,hv,⟨hr.1,hr.2.1⟩⟩
theorem inv_okN{A J R:Int}(hp:okPl A J R){W:List (List Int)->Bool}{Mo:List (List Int)->List (List Int)}{m:QM}{lim:Int}(hl:lim<=18014398509481984)(h:qinv A J W Mo m lim):okN m:=by
 have b:=inv_bd hp h;have:=h.2;have hA:=hp.1;exact⟨by omega,by omega,by omega,by unfold okU;omega,by unfold okU;omega⟩
theorem rest_start{A J R:Int}(hp:okPl A J R)(u:Int):qfok A J 0 0=true/\qfu A J u 0 0=[]:=by
 have hA:=hp.1;have hJ:=hp.2.1;have n1:=qst_nil (A:=A) (J:=J) (v:=0) (a:=0) (n:=4096) (by omega);have r:qready A J 0 0=true:=qready_iff.2 ⟨by omega,by omega,fun _=>by omega,by rw[qloss_le (by omega) (by omega)];omega,by rw[qloss_le (by omega) (by omega)];omega⟩;have k:=qfok_iff.2 ⟨r,n1.2⟩;exact⟨k,by unfold qfu;rw[qsp_of k,n1.1];rfl⟩
theorem Lm_const{sp ac je:Int}{f:Nat->Int}{n:Nat}(h0:0<=sp)(h1:0<=ac)(h2:0<=je)(c:Int)(h:∀j,j<n->f j=c):Lm sp ac je f n:=⟨fun j hj=>by rw[h j (by omega),h (j+1) (by omega)];omega,fun j hj=>by rw[h j (by omega),h (j+1) (by omega),h (j+2) (by omega)];omega,fun j hj=>by rw[h j (by omega),h (j+1) (by omega),h (j+2) (by omega),h (j+3) (by omega)];omega⟩
theorem six{p:Nat->Prop}(h0:p 0)(h1:p 1)(h2:p 2)(h3:p 3)(h4:p 4)(h5:p 5):∀j,j<6->p j:=fun j hj=>by
 rcases(by omega:j=0∨j=1∨j=2∨j=3∨j=4∨j=5)with rfl|rfl|rfl|rfl|rfl|rfl<;>assumption
theorem inv_start{A J R:Int}(hp:okPl A J R){s0 a0 j0 s1 a1 j1 s2 a2 j2:Int}(hl:okL3 s0 a0 j0 s1 a1 j1 s2 a2 j2){M0 M1 M2:Int->Int}{ln u lim:Int}(h0:0<=u)(h1:u<=lim):qinv A J (wth3 s0 a0 j0 s1 a1 j1 s2 a2 j2) (qmot M0 M1 M2 ln) (qstart u) lim:=by
 have r:=rest_start hp (u*256);refine⟨?_,by show 0<=u*256;omega,Int.le_refl _,Int.le_refl _,Int.le_refl _⟩;unfold qsafe;rw[Bool.and_eq_true,Bool.and_eq_true,decide_eq_true_iff];show qfok A J 0 0=true/\qend (u*256) (qfu A J (u*256) 0 0)<=lim*256/\wth3 s0 a0 j0 s1 a1 j1 s2 a2 j2 (qmot M0 M1 M2 ln (qway (qstart u) (qfu A J (u*256) 0 0)))=true;rw[r.2];refine⟨r.1,by show u*256<=lim*256;omega,?_⟩;rw[wth3_iff];exact⟨Lm_const hl.1.1.1 hl.1.2.1.1 hl.1.2.2.1 (M0 (clamp ln (u*256/256))) (six rfl rfl rfl rfl rfl rfl),Lm_const hl.2.1.1.1 hl.2.1.2.1.1 hl.2.1.2.2.1 (M1 (clamp ln (u*256/256))) (six rfl rfl rfl rfl rfl rfl),Lm_const hl.2.2.1.1 hl.2.2.2.1.1 hl.2.2.2.2.1 (M2 (clamp ln (u*256/256))) (six rfl rfl rfl rfl rfl rfl)⟩
def ShS.W(x:ShS):LL->Bool:=wth3 x.r.a.sp x.r.a.ac x.r.a.je x.r.b.sp x.r.b.ac x.r.b.je x.r.c.sp x.r.c.ac x.r.c.je
def ShS.Mo(x:ShS):LL->LL:=qmot x.r.M0 x.r.M1 x.r.M2 x.r.ln
def ShS.T(x:ShS)(ho:Bool)(fo ro:Int):Int->Int:=qtg ho fo ro x.R x.r.sg x.r.pk x.r.f x.r.ln
def ShS.nx(x:ShS)(ho:Bool)(fo ro:Int)(m:QM)(lim:Int):QM:=qnext x.A x.J x.W x.Mo x.r.sg.length (x.T ho fo ro) m lim
def xsg:LL:=[[8000,0,0,8000,0,50000,0]]
def xleg:LegS:=leg 0 0 0 xsg 0 0 0 1 1 1 0 8000
def ShS.inv(x:ShS)(m:QM)(lim:Int):Prop:=qinv x.A x.J x.W x.Mo m lim
end U
namespace Go.Proofs.YtoekmphdpepdbaaGreat
open Go Go.HL U
def SNxS(hargs:List HV)(pars:List (List HC)):SR:=match hargs,pars with
 |[.agg cs, .agg [.int .i64 fo, .int .i64 ro, .bool ho, .bool so, .bool oo], .agg [.int .i64 mu, .int .i64 mv, .int .i64 ma, .int .i64 ml, .int .i64 mp, .int .i64 mb], .ce (.int .i64 lim)],[]=> .all (∃x,(okShop x/\cs=shopC x)/\(0<=lim/\lim<=x.r.ln)/\∃l,l<=lim/\x.inv ⟨mu,mv,ma,ml,mp,mb⟩ l) QM (fun y=>∀x,cs=shopC x->y=x.nx ho fo ro ⟨mu,mv,ma,ml,mp,mb⟩ lim) (fun y=>⟨.agg [I6 y.u,I6 y.v,I6 y.a,I6 y.l,I6 y.p,I6 y.b],false,[],[]⟩)
 |_,_=> .fail
def tabNxS:List (FuncId×HL.Spec):=[(34,SPNext)]
noncomputable def CNxS:Ctx:=⟨Tryz.prog,gam tabNxS,Tryz.f23.ntmps,[],[]⟩
theorem vcNxS(x:ShS)(fo ro mu mv ma ml mp mb lim:Int)(ho so oo:Bool)(Q:Res->Prop):(nfun true CNxS Tryz.f23 (bodyOf Tryz.f23) [.agg (shopC x), .agg [I6 fo,I6 ro, .bool ho, .bool so, .bool oo], .agg [I6 mu,I6 mv,I6 ma,I6 ml,I6 mp,I6 mb], .ce (I6 lim)] [] Q)=(((okPT x.r.s0 x.r.s1 x.r.s2 x.r.sg x.r.pk x.r.ln x.r.f/\okA3 x.r.a.st x.r.a.og x.r.a.sg x.r.a.pit x.r.a.bl x.r.b.st x.r.b.og x.r.b.sg x.r.b.pit x.r.b.bl x.r.c.st x.r.c.og x.r.c.sg x.r.c.pit x.r.c.bl/\okL3 x.r.a.sp x.r.a.ac x.r.a.je x.r.b.sp x.r.b.ac x.r.b.je x.r.c.sp x.r.c.ac x.r.c.je)/\okPl x.A x.J x.R/\okN ⟨mu,mv,ma,ml,mp,mb⟩/\0<=lim/\lim<=18014398509481984)/\(∃(x_1:QM),x_1=qnext x.A x.J (wth3 x.r.a.sp x.r.a.ac x.r.a.je x.r.b.sp x.r.b.ac x.r.b.je x.r.c.sp x.r.c.ac x.r.c.je) (qmot (mtr x.r.a.st x.r.a.og x.r.a.sg x.r.a.pit x.r.a.bl x.r.s0 x.r.sg (0:Nat) x.r.pk x.r.f x.r.d0) (mtr x.r.b.st x.r.b.og x.r.b.sg x.r.b.pit x.r.b.bl x.r.s1 x.r.sg (1:Nat) x.r.pk x.r.f x.r.d1) (mtr x.r.c.st x.r.c.og x.r.c.sg x.r.c.pit x.r.c.bl x.r.s2 x.r.sg (2:Nat) x.r.pk x.r.f x.r.d2) x.r.ln) (List.length x.r.sg) (qtg ho fo ro x.R x.r.sg x.r.pk x.r.f x.r.ln) ⟨mu,mv,ma,ml,mp,mb⟩ lim)/\∀(x_1:QM),x_1=qnext x.A x.J (wth3 x.r.a.sp x.r.a.ac x.r.a.je x.r.b.sp x.r.b.ac x.r.b.je x.r.c.sp x.r.c.ac x.r.c.je) (qmot (mtr x.r.a.st x.r.a.og x.r.a.sg x.r.a.pit x.r.a.bl x.r.s0 x.r.sg (0:Nat) x.r.pk x.r.f x.r.d0) (mtr x.r.b.st x.r.b.og x.r.b.sg x.r.b.pit x.r.b.bl x.r.s1 x.r.sg (1:Nat) x.r.pk x.r.f x.r.d1) (mtr x.r.c.st x.r.c.og x.r.c.sg x.r.c.pit x.r.c.bl x.r.s2 x.r.sg (2:Nat) x.r.pk x.r.f x.r.d2) x.r.ln) (List.length x.r.sg) (qtg ho fo ro x.R x.r.sg x.r.pk x.r.f x.r.ln) ⟨mu,mv,ma,ml,mp,mb⟩ lim->Q ⟨.agg [I6 x_1.u,I6 x_1.v,I6 x_1.a,I6 x_1.l,I6 x_1.p,I6 x_1.b],false,[],[]⟩):=by kernel_rfl
def SUntR(hargs:List HV)(pars:List (List HC)):SR:=match hargs,pars with
 |[.ce (.int .i64 u)],[]=> .det (-9223372036854775808<=u/\u<=9223372036854775807) ⟨.ce (I6 (u/256)),false,[],[]⟩
 |_,_=> .fail
def SFlr(hargs:List HV)(pars:List (List HC)):SR:=match hargs,pars with
 |[.ce (.int .i64 a), .ce (.int .i64 b)],[]=> .det ((-9223372036854775808<=a/\a<=9223372036854775807)/\b=256) ⟨.ce (I6 (a/256)),false,[],[]⟩
 |_,_=> .fail
noncomputable def CFlr:Ctx:=⟨Tryz.prog,gam [],Tryz.f29.ntmps,[],[]⟩
theorem vcFlr(a b:Int)(Q:Res->Prop):(nfun true CFlr Tryz.f29 (bodyOf Tryz.f29) [.ce (I6 a), .ce (I6 b)] [] Q)=(b≠0/\R6 (Int.tdiv a b)/\∀x1,x1=Int.tdiv a b->b≠0/\∀x2,x2=Int.tmod a b->Br (x2<0) (R6 (x1-1)/\∀x3,x3=x1-1->Q ⟨.ce (I6 x3),false,[],[]⟩) (Q ⟨.ce (I6 x1),false,[],[]⟩)):=by kernel_rfl
def tabUntR:List (FuncId×HL.Spec):=[(29,SFlr)]
noncomputable def CUntR:Ctx:=⟨Tryz.prog,gam tabUntR,Tryz.f46.ntmps,[],[]⟩
theorem vcUntR(u:Int)(Q:Res->Prop):(nfun true CUntR Tryz.f46 (bodyOf Tryz.f46) [.ce (I6 u)] [] Q)=((R6 u/\(256:Int)=256)/\∀x1,x1=u/256->Q ⟨.ce (I6 x1),false,[],[]⟩):=by kernel_rfl
def SStr(hargs:List HV)(pars:List (List HC)):SR:=match hargs,pars with
 |[],[]=> .all True LegS (fun x=>x=xleg) (fun x=>⟨.tup [.agg [I6 0,I6 0,I6 0, .sl false [4,4,4,4,4,4,4] xsg, .sl false [4,4,4] []], .agg [I6 8,I6 1000,I6 1000,I6 1000,I6 (-16777216),I6 16777216,I6 0,I6 0,I6 0, .sl false [4] [],I6 8,I6 1000,I6 1000,I6 1000,I6 (-16777216),I6 16777216,I6 0,I6 0,I6 0, .sl false [4] [],I6 8,I6 1000,I6 1000,I6 1000,I6 (-16777216),I6 16777216,I6 0,I6 0,I6 0, .sl false [4] []], .agg [.sl false [4,4,4,4,4,4,4,4,4,4] x.pk,I6 x.ln,I6 0,I6 1,I6 1,I6 1]],false,[],[]⟩)
 |_,_=> .fail
def tabStr:List (FuncId×HL.Spec):=[(39,SLeg)]
noncomputable def CStr:Ctx:=⟨Tryz.prog,gam tabStr,Tryz.f33.ntmps,[],[]⟩
theorem vcStr(Q:Res->Prop):(nfun true CStr Tryz.f33 (bodyOf Tryz.f33) [] [] Q)=((okLen [[(8000:Int),(0:Int),(0:Int),(8000:Int),(0:Int),(50000:Int),(0:Int)]]/\okPts (0:Int) (0:Int) (0:Int) [[(8000:Int),(0:Int),(0:Int),(8000:Int),(0:Int),(50000:Int),(0:Int)]]/\okB3 (0:Int) (0:Int) (0:Int))/\(∃(x:LegS),x=leg (0:Int) (0:Int) (0:Int) [[(8000:Int),(0:Int),(0:Int),(8000:Int),(0:Int),(50000:Int),(0:Int)]] (0:Int) (0:Int) (0:Int) (1:Int) (1:Int) (1:Int) (0:Int) (8000:Int))/\∀(x:LegS),x=leg (0:Int) (0:Int) (0:Int) [[(8000:Int),(0:Int),(0:Int),(8000:Int),(0:Int),(50000:Int),(0:Int)]] (0:Int) (0:Int) (0:Int) (1:Int) (1:Int) (1:Int) (0:Int) (8000:Int)->Q ⟨.tup [.agg [I6 0,I6 0,I6 0, .sl false [4,4,4,4,4,4,4] [[(8000:Int),(0:Int),(0:Int),(8000:Int),(0:Int),(50000:Int),(0:Int)]], .sl false [4,4,4] []], .agg [I6 8,I6 1000,I6 1000,I6 1000,I6 (-16777216),I6 16777216,I6 0,I6 0,I6 0, .sl false [4] [],I6 8,I6 1000,I6 1000,I6 1000,I6 (-16777216),I6 16777216,I6 0,I6 0,I6 0, .sl false [4] [],I6 8,I6 1000,I6 1000,I6 1000,I6 (-16777216),I6 16777216,I6 0,I6 0,I6 0, .sl false [4] []], .agg [.sl false [4,4,4,4,4,4,4,4,4,4] x.pk,I6 x.ln,I6 0,I6 1,I6 1,I6 1]],false,[],[]⟩):=by kernel_rfl
def tabAw36:List (FuncId×HL.Spec):=[(33,SStr),(20,SQStart),(34,SPNext)]
noncomputable def CAw36:Ctx:=⟨Tryz.prog,gam tabAw36,Tryz.f11.ntmps,[],[]⟩
theorem vcAw36(Q:Res->Prop):(nfun true CAw36 Tryz.f11 (bodyOf Tryz.f11) [] [] Q)=(True/\(∃(x:LegS),x=xleg)/\∀(x:LegS),x=xleg->((-18014398509481984:Int)<=0/\(0:Int)<=18014398509481984)/\(∃(x:QM),x=qstart (0:Int))/\∀(x_1:QM),x_1=qstart (0:Int)->((okPT (0:Int) (0:Int) (0:Int) xsg x.pk x.ln (0:Int)/\okA3 (8:Int) (0:Int) (0:Int) [] (0:Int) (8:Int) (0:Int) (0:Int) [] (0:Int) (8:Int) (0:Int) (0:Int) [] (0:Int)/\okL3 (1000:Int) (1000:Int) (1000:Int) (1000:Int) (1000:Int) (1000:Int) (1000:Int) (1000:Int) (1000:Int))/\okPl (100:Int) (8:Int) (1:Int)/\okN {u:=x_1.u,v:=x_1.v,a:=x_1.a,l:=x_1.l,p:=x_1.p,b:=x_1.b}/\(0:Int)<=8000/\(8000:Int)<=18014398509481984)/\(∃(x_2:QM),x_2=qnext (100:Int) (8:Int) (wth3 (1000:Int) (1000:Int) (1000:Int) (1000:Int) (1000:Int) (1000:Int) (1000:Int) (1000:Int) (1000:Int)) (qmot (mtr (8:Int) (0:Int) (0:Int) [] (0:Int) (0:Int) xsg (0:Nat) x.pk (0:Int) (1:Int)) (mtr (8:Int) (0:Int) (0:Int) [] (0:Int) (0:Int) xsg (1:Nat) x.pk (0:Int) (1:Int)) (mtr (8:Int) (0:Int) (0:Int) [] (0:Int) (0:Int) xsg (2:Nat) x.pk (0:Int) (1:Int)) x.ln) (1:Nat) (qtg false (100:Int) (100:Int) (1:Int) xsg x.pk (0:Int) x.ln) {u:=x_1.u,v:=x_1.v,a:=x_1.a,l:=x_1.l,p:=x_1.p,b:=x_1.b} (8000:Int))/\∀(x_2:QM),x_2=qnext (100:Int) (8:Int) (wth3 (1000:Int) (1000:Int) (1000:Int) (1000:Int) (1000:Int) (1000:Int) (1000:Int) (1000:Int) (1000:Int)) (qmot (mtr (8:Int) (0:Int) (0:Int) [] (0:Int) (0:Int) xsg (0:Nat) x.pk (0:Int) (1:Int)) (mtr (8:Int) (0:Int) (0:Int) [] (0:Int) (0:Int) xsg (1:Nat) x.pk (0:Int) (1:Int)) (mtr (8:Int) (0:Int) (0:Int) [] (0:Int) (0:Int) xsg (2:Nat) x.pk (0:Int) (1:Int)) x.ln) (1:Nat) (qtg false (100:Int) (100:Int) (1:Int) xsg x.pk (0:Int) x.ln) {u:=x_1.u,v:=x_1.v,a:=x_1.a,l:=x_1.l,p:=x_1.p,b:=x_1.b} (8000:Int)->Q ⟨.ce (.bool (x_2.u==8&&(x_2.v==8&&(x_2.a==8&&(x_2.l==0&&(x_2.p==0&&(x_2.b==0&&true))))))),false,[],[]⟩):=by kernel_rfl
end Go.Proofs.YtoekmphdpepdbaaGreat
namespace U
theorem shop_pre{x:ShS}(h:okShop x):(okPT x.r.s0 x.r.s1 x.r.s2 x.r.sg x.r.pk x.r.ln x.r.f/\okA3 x.r.a.st x.r.a.og x.r.a.sg x.r.a.pit x.r.a.bl x.r.b.st x.r.b.og x.r.b.sg x.r.b.pit x.r.b.bl x.r.c.st x.r.c.og x.r.c.sg x.r.c.pit x.r.c.bl/\okL3 x.r.a.sp x.r.a.ac x.r.a.je x.r.b.sp x.r.b.ac x.r.b.je x.r.c.sp x.r.c.ac x.r.c.je)/\okPl x.A x.J x.R/\(0<=x.r.ln/\x.r.ln<=1099511627776):=by
 obtain⟨hr,hf,hA,hJ,hR⟩:=h;have P:=okRun_pre hr;have li:∀a:AxV,okAx a->okLi a.sp a.ac a.je:=fun a h=>by
  have h1:=h.2.1;have h2:=h.2.2.1;have h3:=h.2.2.2.1;exact⟨by omega,by omega,by omega⟩
 exact⟨⟨⟨P.1,P.2.1,P.2.2.1,P.2.2.2.2.2.2⟩,⟨P.2.2.2.1,P.2.2.2.2.1,P.2.2.2.2.2.1⟩,li _ hr.2.1,li _ hr.2.2.1,li _ hr.2.2.2.1⟩,⟨by omega,by omega,by omega⟩,P.2.2.1.2.1.1,okRun_ln hr⟩
theorem shopC_inj{x y:ShS}(h:shopC x=shopC y):x={y with r:={y.r with t:=x.r.t}}:=by
 obtain⟨⟨x0,x1,x2,x3,x4,⟨a0,a1,a2,a3,a4,a5,a6,a7⟩,⟨b0,b1,b2,b3,b4,b5,b6,b7⟩,⟨c0,c1,c2,c3,c4,c5,c6,c7⟩,x5,x6,x7,x8,x9,x10,x11⟩,xA,xJ,xR⟩:=x;obtain⟨⟨y0,y1,y2,y3,y4,⟨e0,e1,e2,e3,e4,e5,e6,e7⟩,⟨f0,f1,f2,f3,f4,f5,f6,f7⟩,⟨g0,g1,g2,g3,g4,g5,g6,g7⟩,y5,y6,y7,y8,y9,y10,y11⟩,yA,yJ,yR⟩:=y;unfold shopC at h;simp only[List.cons.injEq,Go.HL.HC.int.injEq,Go.HL.HC.sl.injEq,true_and,and_true]at h;simp only[h]
theorem nx_eq{x y:ShS}(h:shopC x=shopC y)(ho:Bool)(fo ro:Int)(m:QM)(lim:Int):x.nx ho fo ro m lim=y.nx ho fo ro m lim:=by
 rw[shopC_inj h];rfl
theorem okShop_ex:∃x,okShop x:=by
 obtain⟨a,ha⟩:=Go.Proofs.YtoekmphdpepdbaaGreat.okAx_ex;have hp:okPath 0 0 0 [] []:=⟨by unfold b3;decide,okSegs_nil _ _ _,by decide,by decide⟩;have h0:(0:Int)<=0/\0<=plen []:=by decide
 exact⟨⟨⟨0,0,0,[],[],a,a,a,1,1,1,0,0,_,_⟩,1,2,1⟩,⟨hp,ha,ha,ha,⟨.inl rfl, .inl rfl, .inl rfl⟩,h0,h0,rfl,rfl⟩,rfl,(by decide:(1:Int)<=1/\(1:Int)<=900),(by decide:(2:Int)<=2/\(2:Int)<=201),(by decide:(1:Int)<=1/\(1:Int)<=16000)⟩
theorem xnext:((qnext 100 8 (wth3 1000 1000 1000 1000 1000 1000 1000 1000 1000) (qmot (mtr 8 0 0 [] 0 0 xsg 0 xleg.pk 0 1) (mtr 8 0 0 [] 0 0 xsg 1 xleg.pk 0 1) (mtr 8 0 0 [] 0 0 xsg 2 xleg.pk 0 1) xleg.ln) 1 (qtg false 100 100 1 xsg xleg.pk 0 xleg.ln) (qstart 0) 8000).u=8/\(qnext 100 8 (wth3 1000 1000 1000 1000 1000 1000 1000 1000 1000) (qmot (mtr 8 0 0 [] 0 0 xsg 0 xleg.pk 0 1) (mtr 8 0 0 [] 0 0 xsg 1 xleg.pk 0 1) (mtr 8 0 0 [] 0 0 xsg 2 xleg.pk 0 1) xleg.ln) 1 (qtg false 100 100 1 xsg xleg.pk 0 xleg.ln) (qstart 0) 8000).v=8/\(qnext 100 8 (wth3 1000 1000 1000 1000 1000 1000 1000 1000 1000) (qmot (mtr 8 0 0 [] 0 0 xsg 0 xleg.pk 0 1) (mtr 8 0 0 [] 0 0 xsg 1 xleg.pk 0 1) (mtr 8 0 0 [] 0 0 xsg 2 xleg.pk 0 1) xleg.ln) 1 (qtg false 100 100 1 xsg xleg.pk 0 xleg.ln) (qstart 0) 8000).a=8)/\((qnext 100 8 (wth3 1000 1000 1000 1000 1000 1000 1000 1000 1000) (qmot (mtr 8 0 0 [] 0 0 xsg 0 xleg.pk 0 1) (mtr 8 0 0 [] 0 0 xsg 1 xleg.pk 0 1) (mtr 8 0 0 [] 0 0 xsg 2 xleg.pk 0 1) xleg.ln) 1 (qtg false 100 100 1 xsg xleg.pk 0 xleg.ln) (qstart 0) 8000).l=0/\(qnext 100 8 (wth3 1000 1000 1000 1000 1000 1000 1000 1000 1000) (qmot (mtr 8 0 0 [] 0 0 xsg 0 xleg.pk 0 1) (mtr 8 0 0 [] 0 0 xsg 1 xleg.pk 0 1) (mtr 8 0 0 [] 0 0 xsg 2 xleg.pk 0 1) xleg.ln) 1 (qtg false 100 100 1 xsg xleg.pk 0 xleg.ln) (qstart 0) 8000).p=0/\(qnext 100 8 (wth3 1000 1000 1000 1000 1000 1000 1000 1000 1000) (qmot (mtr 8 0 0 [] 0 0 xsg 0 xleg.pk 0 1) (mtr 8 0 0 [] 0 0 xsg 1 xleg.pk 0 1) (mtr 8 0 0 [] 0 0 xsg 2 xleg.pk 0 1) xleg.ln) 1 (qtg false 100 100 1 xsg xleg.pk 0 xleg.ln) (qstart 0) 8000).b=0):=by decide+kernel
end U
namespace Go.Proofs.YtoekmphdpepdbaaGreat
open Go Go.HL U
attribute [local irreducible] hfun bodyT fragT
theorem sNxS:Sound Tryz.prog 23 SNxS:=by
 refine sound_of (C:=CNxS) tabNxS Tryz.func23 (by kernel_rfl) (by decide+kernel) (by kernel_rfl) rfl ⟨sNx,trivial⟩ (loops0 (by kernel_rfl)) ?_;intro hargs pars R h;unfold SNxS at h;split at h;case h_2=>exfalso;exact h
 rename_i cs fo ro ho so oo mu mv ma ml mp mb lim;obtain⟨⟨x,⟨hx,ec⟩,hlim,l,hl,hi⟩,_,hR⟩:=h;subst ec;have P:=shop_pre hx;refine byVC (vcNxS x fo ro mu mv ma ml mp mb lim ho so oo R) ⟨⟨P.1,P.2.1,inv_okN P.2.1 (by omega) hi,by omega,by omega⟩,⟨_,rfl⟩,fun y ey=>hR y (fun x' e'=> ?_)⟩;rw[<-nx_eq e',ey];rfl
theorem sFlr:Sound Tryz.prog 29 SFlr:=by
 refine sound_of (C:=CFlr) [] Tryz.func29 (by kernel_rfl) (by decide+kernel) (by kernel_rfl) rfl trivial (loops0 (by kernel_rfl)) ?_;intro hargs pars R h;unfold SFlr at h;split at h;case h_2=>exfalso;exact h
 rename_i u b;obtain⟨⟨hu,rfl⟩,hR⟩:=h;have h1:u.tdiv 256=if 0<=u then u/256 else-((-u)/256):=tdiv_ite (by decide);have h2:u.tmod 256=if 0<=u then u%256 else-((-u)%256):=tmod_ite (by decide);refine byVC (vcFlr u 256 R) ⟨by decide,?_⟩;rw[h1,h2];by_cases h0:0<=u
 . rw[if_pos h0,if_pos h0];refine⟨by omega,fun x1 e1=>⟨by decide,fun x2 e2=>⟨fun g=>by have:=odt g;omega,fun _=> ?_⟩⟩⟩;rw[e1];exact hR
 . rw[if_neg h0,if_neg h0];refine⟨by omega,fun x1 e1=>⟨by decide,fun x2 e2=>⟨fun g=>⟨by omega,fun x3 e3=> ?_⟩,fun g=> ?_⟩⟩⟩
   . have:=odt g;rw[show x3=u/256 by omega];exact hR
   . have:=odf g;rw[show x1=u/256 by omega];exact hR
theorem sUntR:Sound Tryz.prog 46 SUntR:=by
 refine sound_of (C:=CUntR) tabUntR Tryz.func46 (by kernel_rfl) (by decide+kernel) (by kernel_rfl) rfl ⟨sFlr,trivial⟩ (loops0 (by kernel_rfl)) ?_;intro hargs pars R h;unfold SUntR at h;split at h;case h_2=>exfalso;exact h
 rename_i u;obtain⟨hu,hR⟩:=h;exact byVC (vcUntR u R) ⟨⟨hu,rfl⟩,fun x1 e1=>by rw[e1];exact hR⟩
theorem x_ok:okLen xsg/\okPts 0 0 0 xsg/\okB3 0 0 0:=by
 refine⟨⟨by decide,fun j hj=> ?_⟩,⟨by decide,by decide,by decide,fun j hj=> ?_⟩,by unfold okB3;decide⟩
 . obtain rfl:j=0:=by simp[xsg]at hj;exact hj
   decide
 . obtain rfl:j=0:=by simp[xsg]at hj;exact hj
   decide
theorem sStr:Sound Tryz.prog 33 SStr:=by
 refine sound_of (C:=CStr) tabStr Tryz.func33 (by kernel_rfl) (by decide+kernel) (by kernel_rfl) rfl ⟨sLeg,trivial⟩ (loops0 (by kernel_rfl)) ?_;intro hargs pars R h;unfold SStr at h;split at h;case h_2=>exfalso;exact h
 obtain⟨_,_,hR⟩:=h;exact byVC (vcStr R) ⟨x_ok,⟨_,rfl⟩,fun x e=>hR x e⟩
theorem sAw36:Sound Tryz.prog 11 STrue0:=by
 refine sound_of (C:=CAw36) tabAw36 Tryz.func11 (by kernel_rfl) (by decide+kernel) (by kernel_rfl) rfl ⟨sStr,sQStart,sNx,trivial⟩ (loops0 (by kernel_rfl)) ?_;intro hargs pars R h;unfold STrue0 at h;split at h;case h_2=>exfalso;exact h
 obtain⟨_,_,hR⟩:=h;have ht:okTrk xleg.pk xleg.ln:=leg_ok (d0:=1) (d1:=1) (d2:=1) x_ok.1 x_ok.2.2 (by decide) (by decide);have ma:okMA 8 0 0 [] 0:=⟨by decide,⟨fun h=>by simp at h,by decide,by decide,by decide,fun j hj=>by simp at hj⟩,by decide⟩;refine byVC (vcAw36 R) ⟨trivial,⟨_,rfl⟩,fun x ex=>⟨by decide,⟨_,rfl⟩,fun y ey=> ?_⟩⟩;subst ex ey;refine⟨⟨⟨⟨x_ok.1,x_ok.2.1,ht,by decide⟩,⟨ma,ma,ma⟩,⟨by unfold okLi;decide,by unfold okLi;decide,by unfold okLi;decide⟩⟩,⟨by decide,by decide,by decide⟩,⟨by decide,by decide,by decide,by unfold okU;decide,by unfold okU;decide⟩,by decide,by decide⟩,⟨_,rfl⟩,fun z ez=>hR _ ?_⟩;subst ez;obtain⟨⟨q1,q2,q3⟩,q4,q5,q6⟩:=xnext;simp only[Bool.and_eq_true,beq_iff_eq];exact⟨q1,q2,q3,q4,q5,q6,trivial⟩
end Go.Proofs.YtoekmphdpepdbaaGreat
