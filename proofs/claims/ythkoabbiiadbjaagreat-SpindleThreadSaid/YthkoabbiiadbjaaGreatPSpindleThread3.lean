/-
  Part 3.
  Conditions: none.
-/
import Derived.Test.YthkoabbiiadbjaaGreatPSpindleThread2
set_option maxRecDepth 100000
set_option maxHeartbeats 400000
set_option linter.unusedVariables false
set_option linter.unusedSimpArgs false
open Go
namespace U
open Go
def grw(m e:Int)(s n:Bool):Bool:=if m=0 then s&&n else if m=1 then s&& !n else decide (e>0)||(decide (e=0)&& !n)
def mdv(n c mode:Int):Int:=if mode=0 then n/c else if mode=1 then-((-n)/c)else(2*n+c)/(2*c)
end U
namespace Go.Proofs.YthkoabbiiadbjaaGreat
open Go Go.HL U
def SGrows(hA:List HV)(pA:List (List HC)):SR:=match hA,pA with
 |[.ce (.int .i64 m), .ce (.int .i64 e), .ce (.bool s), .ce (.bool n)],[]=> .det True ⟨.ce (.bool (grw m e s n)),false,[],[]⟩
 |_,_=> .fail
def SSigned(hA:List HV)(pA:List (List HC)):SR:=match hA,pA with
 |[.ce (.int .u64 n), .ce (.bool neg)],[]=> .det (0<=n/\n<=9223372036854775807) ⟨.tup [.ce (I6 (if neg then-n else n)), .ce (.bool true)],false,[],[]⟩
 |_,_=> .fail
def SMulDiv(hA:List HV)(pA:List (List HC)):SR:=match hA,pA with
 |[.ce (.int .i64 a), .ce (.int .i64 b), .ce (.int .i64 c), .ce (.int .i64 m)],[]=> .det ((-9223372036854775808<=a/\a<=9223372036854775807)/\(-9223372036854775808<=b/\b<=9223372036854775807)/\(0<c/\c<=9223372036854775807)/\(-4611686018427387904<=a*b/\a*b<=4611686018427387904)/\(0<=m/\m<=2)) ⟨.tup [.ce (I6 (mdv (a*b) c m)), .ce (.bool true)],false,[],[]⟩
 |_,_=> .fail
def tabMulDiv:List (FuncId×HL.Spec):=[(68,SKnown),(69,SProduct),(70,SSize),(71,SDiv64),(72,SSign),(73,SGrows),(74,SSigned)]
noncomputable def CMulDiv:Ctx:=⟨Tryz.prog,gam tabMulDiv,83,[],[]⟩
theorem vcMulDiv(a b c m:Int)(Q:Res->Prop):(nfun true CMulDiv Tryz.f36 (bodyOf Tryz.f36) [.ce (I6 a), .ce (I6 b), .ce (I6 c), .ce (I6 m)] [] Q)=(Bb (c==0) (Q ⟨.tup [.ce (I6 0), .ce (.bool false)],false,[],[]⟩) (True/\∀(x1:Bool),x1=decide (0<=m/\m<=2)->Bb (!x1) (Q ⟨.tup [.ce (I6 0), .ce (.bool false)],false,[],[]⟩) (R6 a/\∀x2,x2=(((Int.natAbs a):Nat):Int)->R6 b/\∀x3,x3=(((Int.natAbs b):Nat):Int)->(0<=x2/\x2<18446744073709551616/\0<=x3/\x3<18446744073709551616)/\∀x4,x4=x2*x3/18446744073709551616->∀x5,x5=x2*x3%18446744073709551616->R6 c/\∀x6,x6=(((Int.natAbs c):Nat):Int)->Br (x4>=x6) (Q ⟨.tup [.ce (I6 0), .ce (.bool false)],false,[],[]⟩) ((x4=0/\0<=x5/\x5<18446744073709551616/\0<x6/\x6<18446744073709551616)/\∀x7,x7=x5/x6->∀x8,x8=x5%x6->True/\∀x9,x9=Int.sign a*Int.sign b->Bb (!decide (x9<0)==decide (c<0)) (True/\∀x10,x10=Int.sign a*Int.sign b->∀x11,x11=(x6-x8)%18446744073709551616->Br (x8>x11) (True/\∀(x12:Bool),x12=grw m (1:Int) (decide (x8>0)) (x10 !=0)->Bb (x12) (∀x13,x13=(x7+1)%18446744073709551616->Bb (x13==0) (Q ⟨.tup [.ce (I6 0), .ce (.bool false)],false,[],[]⟩) ((0<=x13/\x13<=9223372036854775807)/\∀(x14:Int),(x14=if(x10 !=0)=true then-x13 else x13)->∀(x15:Bool),x15=true->Q ⟨.tup [.ce (I6 x14), .ce (.bool x15)],false,[],[]⟩)) ((0<=x7/\x7<=9223372036854775807)/\∀(x16:Int),(x16=if(x10 !=0)=true then-x7 else x7)->∀(x17:Bool),x17=true->Q ⟨.tup [.ce (I6 x16), .ce (.bool x17)],false,[],[]⟩)) (∀x18,x18=(x6-x8)%18446744073709551616->Br (x8<x18) (True/\∀(x19:Bool),x19=grw m (-1:Int) (decide (x8>0)) (x10 !=0)->Bb (x19) (∀x20,x20=(x7+1)%18446744073709551616->Bb (x20==0) (Q ⟨.tup [.ce (I6 0), .ce (.bool false)],false,[],[]⟩) ((0<=x20/\x20<=9223372036854775807)/\∀(x21:Int),(x21=if(x10 !=0)=true then-x20 else x20)->∀(x22:Bool),x22=true->Q ⟨.tup [.ce (I6 x21), .ce (.bool x22)],false,[],[]⟩)) ((0<=x7/\x7<=9223372036854775807)/\∀(x23:Int),(x23=if(x10 !=0)=true then-x7 else x7)->∀(x24:Bool),x24=true->Q ⟨.tup [.ce (I6 x23), .ce (.bool x24)],false,[],[]⟩)) (True/\∀(x25:Bool),x25=grw m (0:Int) (decide (x8>0)) (x10 !=0)->Bb (x25) (∀x26,x26=(x7+1)%18446744073709551616->Bb (x26==0) (Q ⟨.tup [.ce (I6 0), .ce (.bool false)],false,[],[]⟩) ((0<=x26/\x26<=9223372036854775807)/\∀(x27:Int),(x27=if(x10 !=0)=true then-x26 else x26)->∀(x28:Bool),x28=true->Q ⟨.tup [.ce (I6 x27), .ce (.bool x28)],false,[],[]⟩)) ((0<=x7/\x7<=9223372036854775807)/\∀(x29:Int),(x29=if(x10 !=0)=true then-x7 else x7)->∀(x30:Bool),x30=true->Q ⟨.tup [.ce (I6 x29), .ce (.bool x30)],false,[],[]⟩)))) (∀x31,x31=(x6-x8)%18446744073709551616->Br (x8>x31) (True/\∀(x32:Bool),x32=grw m (1:Int) (decide (x8>0)) false->Bb (x32) (∀x33,x33=(x7+1)%18446744073709551616->Bb (x33==0) (Q ⟨.tup [.ce (I6 0), .ce (.bool false)],false,[],[]⟩) ((0<=x33/\x33<=9223372036854775807)/\∀(x34:Int),(x34=if false=true then-x33 else x33)->∀(x35:Bool),x35=true->Q ⟨.tup [.ce (I6 x34), .ce (.bool x35)],false,[],[]⟩)) ((0<=x7/\x7<=9223372036854775807)/\∀(x36:Int),(x36=if false=true then-x7 else x7)->∀(x37:Bool),x37=true->Q ⟨.tup [.ce (I6 x36), .ce (.bool x37)],false,[],[]⟩)) (∀x38,x38=(x6-x8)%18446744073709551616->Br (x8<x38) (True/\∀(x39:Bool),x39=grw m (-1:Int) (decide (x8>0)) false->Bb (x39) (∀x40,x40=(x7+1)%18446744073709551616->Bb (x40==0) (Q ⟨.tup [.ce (I6 0), .ce (.bool false)],false,[],[]⟩) ((0<=x40/\x40<=9223372036854775807)/\∀(x41:Int),(x41=if false=true then-x40 else x40)->∀(x42:Bool),x42=true->Q ⟨.tup [.ce (I6 x41), .ce (.bool x42)],false,[],[]⟩)) ((0<=x7/\x7<=9223372036854775807)/\∀(x43:Int),(x43=if false=true then-x7 else x7)->∀(x44:Bool),x44=true->Q ⟨.tup [.ce (I6 x43), .ce (.bool x44)],false,[],[]⟩)) (True/\∀(x45:Bool),x45=grw m (0:Int) (decide (x8>0)) false->Bb (x45) (∀x46,x46=(x7+1)%18446744073709551616->Bb (x46==0) (Q ⟨.tup [.ce (I6 0), .ce (.bool false)],false,[],[]⟩) ((0<=x46/\x46<=9223372036854775807)/\∀(x47:Int),(x47=if false=true then-x46 else x46)->∀(x48:Bool),x48=true->Q ⟨.tup [.ce (I6 x47), .ce (.bool x48)],false,[],[]⟩)) ((0<=x7/\x7<=9223372036854775807)/\∀(x49:Int),(x49=if false=true then-x7 else x7)->∀(x50:Bool),x50=true->Q ⟨.tup [.ce (I6 x49), .ce (.bool x50)],false,[],[]⟩)))))))):=by kernel_rfl
end Go.Proofs.YthkoabbiiadbjaaGreat
namespace U
open Go
theorem ediv_of{x d k:Int}(hd:0<d)(h1:d*k<=x)(h2:x<d*k+d):x/d=k:=by
 have a1:k<=x/d:=Int.le_ediv_of_mul_le hd (by rw[Int.mul_comm];exact h1);have a2:x/d<k+1:=Int.ediv_lt_of_lt_mul hd (by rw[Int.add_mul,Int.one_mul,Int.mul_comm];exact h2);omega
theorem mdv_eq{n c m q r e:Int}{neg:Bool}(hc:0<c)(hm:0<=m/\m<=2)(hr:0<=r/\r<c)(hn:(if neg then-n else n)=c*q+r)(h0:neg=true->0<c*q+r)(he1:0<e↔c<2*r)(he0:e=0↔2*r=c):mdv n c m=if neg then-(if grw m e (decide (r>0)) neg then q+1 else q)else(if grw m e (decide (r>0)) neg then q+1 else q):=by
 have hm':m=0∨m=1∨m=2:=by omega
 unfold mdv grw;cases neg with
 |false=>
  simp only[Bool.false_eq_true,if_false]at hn;subst hn;have g:∀k,c*(q+k)=c*q+c*k:=fun k=>Int.mul_add c q k;rcases hm' with rfl|rfl|rfl
  . simp;exact ediv_of hc (by omega) (by omega)
  . simp;by_cases h:0<r
    . simp[h];have:=g 1;rw[ediv_of (k:= -(q+1)) hc (by rw[Int.mul_neg];omega) (by rw[Int.mul_neg];omega)];omega
    . simp[h];rw[ediv_of (k:= -q) hc (by rw[Int.mul_neg];omega) (by rw[Int.mul_neg];omega)];omega
  . simp;by_cases h:c<=2*r
    . have:0<e∨e=0:=by omega
      simp[this];have:=g 1;exact ediv_of (by omega) (by rw[Int.mul_assoc];omega) (by rw[Int.mul_assoc];omega)
    . have:¬(0<e∨e=0):=by omega
      simp[this];exact ediv_of (by omega) (by rw[Int.mul_assoc];omega) (by rw[Int.mul_assoc];omega)
 |true=>
  simp only[if_true]at hn;obtain rfl:n= -(c*q+r):=by omega
  have g:∀k,c*(q+k)=c*q+c*k:=fun k=>Int.mul_add c q k;rcases hm' with rfl|rfl|rfl
  . simp;by_cases h:0<r
    . simp[h];have:=g 1;exact ediv_of hc (by rw[Int.mul_neg];omega) (by rw[Int.mul_neg];omega)
    . simp[h];exact ediv_of hc (by rw[Int.mul_neg];omega) (by rw[Int.mul_neg];omega)
  . simp;rw[ediv_of (k:=q) hc (by omega) (by omega)]
  . simp;by_cases h:c<2*r
    . have:0<e:=by omega
      simp[this];have:=g 1;exact ediv_of (by omega) (by rw[Int.mul_assoc];simp only[Int.mul_neg];omega) (by rw[Int.mul_assoc];simp only[Int.mul_neg];omega)
    . have:¬0<e:=by omega
      simp[this];exact ediv_of (by omega) (by rw[Int.mul_assoc];simp only[Int.mul_neg];omega) (by rw[Int.mul_assoc];simp only[Int.mul_neg];omega)
end U
namespace Go.Proofs.YthkoabbiiadbjaaGreat
open Go Go.HL U
theorem sGrows:Sound Tryz.prog 73 SGrows:=by
 refine sound_of (C:=CGrows) [] Tryz.func73 (by kernel_rfl) (by decide+kernel) (by kernel_rfl) rfl trivial (loops0 (by kernel_rfl)) ?_;intro hA pA R h;unfold SGrows at h;split at h
 . rename_i m e s n;have hq:=h.2;unfold grw at hq;refine byVC (vcGrows m e s n R) ⟨fun e1=> ?_,fun e1=>⟨fun e2=> ?_,fun e2=>⟨fun e3=> ?_,fun e3=>⟨fun e4=> ?_,fun e4=> ?_⟩⟩⟩⟩
   . have:m=0:=by simpa using e1
     subst this;exact⟨fun k=>by subst k;simpa using hq,fun k=>by subst k;simpa using hq⟩
   . have:m=1:=by simpa using e2
     subst this;exact⟨fun k=>by subst k;simpa using hq,fun k=>by subst k;simpa using hq⟩
   . have h0:m≠0:=by simpa using e1
     have h1:m≠1:=by simpa using e2
     have h3:=odt e3;simpa[h0,h1,h3]using hq
   . have h0:m≠0:=by simpa using e1
     have h1:m≠1:=by simpa using e2
     have h4:e=0:=by simpa using e4
     subst h4;simpa[h0,h1]using hq
   . have h0:m≠0:=by simpa using e1
     have h1:m≠1:=by simpa using e2
     have h3:=odf e3;have h4:e≠0:=by simpa using e4
     simpa[h0,h1,h3,h4]using hq
 . exact h.elim
theorem sSigned:Sound Tryz.prog 74 SSigned:=by
 refine sound_of (C:=CSigned) [] Tryz.func74 (by kernel_rfl) (by decide+kernel) (by kernel_rfl) rfl trivial (loops0 (by kernel_rfl)) ?_;intro hA pA R h;unfold SSigned at h;split at h
 . rename_i n neg;obtain⟨⟨h1,h2⟩,hq⟩:=h;refine byVC (vcSigned n neg R) ⟨fun e=> ?_,fun e=> ?_⟩
   . subst e;refine⟨fun _ x1 e1 x2 e2=> ?_,fun e=>absurd (odf e) (by omega)⟩;have:x2= -n:=by
      rw[e2,e1];simp[IntKind.wrap,IntKind.signed,IntKind.bits];split<;>omega
     rw[this];exact hq
   . subst e;refine⟨fun _=>⟨fun _ x1 e1=> ?_,fun e=>absurd (odf e) (by omega)⟩,fun e=>(nomatch e)⟩;have hw:=U.wrap_small (x:=n) (by omega) (by omega);rw[e1,hw];exact hq
 . exact h.elim
theorem sMulDiv:Sound Tryz.prog 36 SMulDiv:=by
 refine sound_of (C:=CMulDiv) tabMulDiv Tryz.func36 (by kernel_rfl) (by decide+kernel) (by kernel_rfl) rfl ⟨sKnown,sProduct,sSize,sDiv64,sSign,sGrows,sSigned,trivial⟩ (loops0 (by kernel_rfl)) ?_;intro hA pA R h;unfold SMulDiv at h;split at h
 . rename_i a b c m;obtain⟨⟨ha,hb,hc,hab,hm⟩,hq⟩:=h;have hprod:((a.natAbs:Int))*(b.natAbs:Int)=((a*b).natAbs:Int):=by rw[Int.natAbs_mul];rfl
   have hsg:a.sign*b.sign=(a*b).sign:=(Int.sign_mul a b).symm;refine byVC (vcMulDiv a b c m R) ?_;generalize a*b=n at*;refine⟨fun e=>absurd e (by simp;omega),fun _=>⟨trivial,fun x1 e1=>⟨fun e=>absurd e (by rw[e1];simp;omega),fun _=>⟨ha,fun x2 e2=>⟨hb,fun x3 e3=>⟨by omega,?_⟩⟩⟩⟩⟩⟩;rw[e2,e3,hprod];intro x4 e4 x5 e5;refine⟨by omega,fun x6 e6=>⟨fun e=>absurd (odt e) (by omega),fun _=>⟨by omega,fun x7 e7 x8 e8=>⟨trivial,fun x9 e9=> ?_⟩⟩⟩⟩;have hx6:x6=c:=by omega
   subst hx6;have r0:=Int.emod_nonneg x5 (show x6≠0 by omega);have r1:=Int.emod_lt_of_pos x5 (show 0<x6 by omega);have d1:=Int.mul_ediv_add_emod x5 x6;have d2:0<=x5/x6:=Int.ediv_nonneg (by omega) (by omega);have d3:x5/x6<=x5:=Int.ediv_le_self _ (by omega);rw[<-e7]at d1 d2 d3;rw[<-e8]at d1 r0 r1;rw[hsg]at e9;have hc0:decide (x6<0)=false:=decide_eq_false (by omega);rw[hc0];have fin:∀(e:Int)(neg:Bool)(q v:Int)(w:Bool),(neg=true->n<0)->(neg=false->0<=n)->(0<e↔x6<2*x8)->(e=0↔2*x8=x6)->q=(if grw m e (decide (x8>0)) neg then x7+1 else x7)->v=(if neg=true then-q else q)->w=true->R ⟨.tup [.ce (I6 v), .ce (.bool w)],false,[],[]⟩:=by
    intro e neg q v w n1 n0 g1 g0 hqq hv hw;subst hw;have:=mdv_eq (n:=n) (c:=x6) (m:=m) (q:=x7) (r:=x8) (e:=e) (neg:=neg) (by omega) hm ⟨r0,r1⟩ (by
     cases neg with
     |false=>have:=n0 rfl;simp;omega
     |true=>have:=n1 rfl;simp;omega) (fun k=>by have:=n1 k;omega) g1 g0;rw[hv,hqq];rw[this]at hq;exact hq
   have leaf:∀(e:Int)(neg y:Bool),y=grw m e (decide (x8>0)) neg->(neg=true->n<0)->(neg=false->0<=n)->(0<e↔x6<2*x8)->(e=0↔2*x8=x6)->(y=true->∀q1:Int,q1=(x7+1)%18446744073709551616->((q1==0)=true->R ⟨.tup [.ce (I6 0), .ce (.bool false)],false,[],[]⟩)/\((q1==0)=false->(0<=q1/\q1<=9223372036854775807)/\∀v:Int,v=(if neg=true then-q1 else q1)->∀w:Bool,w=true->R ⟨.tup [.ce (I6 v), .ce (.bool w)],false,[],[]⟩))/\(y=false->(0<=x7/\x7<=9223372036854775807)/\∀v:Int,v=(if neg=true then-x7 else x7)->∀w:Bool,w=true->R ⟨.tup [.ce (I6 v), .ce (.bool w)],false,[],[]⟩):=by
    intro e neg y hy n1 n0 g1 g0;refine⟨fun u q1 eq1=> ?_,fun u=>⟨by omega,fun v hv w hw=>fin e neg x7 v w n1 n0 g1 g0 (by rw[<-hy,u];rfl) hv hw⟩⟩;have hq1:q1=x7+1:=by omega
    exact⟨fun z=>absurd z (by simp;omega),fun _=>⟨by omega,fun v hv w hw=>fin e neg q1 v w n1 n0 g1 g0 (by rw[<-hy,u,hq1];rfl) hv hw⟩⟩
   clear fin hq d1 e7 hprod;refine⟨fun en=>⟨trivial,fun x10 e10=> ?_⟩,fun en=> ?_⟩
   . rw[hsg]at e10;have hn:n<0:=by
      rcases Int.lt_trichotomy n 0 with h|h|h
      . exact h
      . subst h;simp[e9]at en
      . rw[Int.sign_eq_one_of_pos h]at e9;subst e9;simp at en
     rw[Int.sign_eq_neg_one_of_neg hn]at e10;subst e10;intro x11 e11;have s1:x11=x6-x8:=by omega
     refine⟨fun k=>⟨trivial,?_⟩,fun k x18 e18=>⟨fun k2=>⟨trivial,?_⟩,fun k2=>⟨trivial,?_⟩⟩⟩
     . have k:=odt k;exact fun y ey=>leaf 1 true y ey (fun _=>hn) (fun z=>nomatch z) (by omega) (by omega)
     . have k:=odf k;have k2:=odt k2;exact fun y ey=>leaf (-1) true y ey (fun _=>hn) (fun z=>nomatch z) (by omega) (by omega)
     . have k:=odf k;have k2:=odf k2;exact fun y ey=>leaf 0 true y ey (fun _=>hn) (fun z=>nomatch z) (by omega) (by omega)
   . have hn:0<=n:=by
      rcases Int.lt_trichotomy n 0 with h|h|h
      . rw[Int.sign_eq_neg_one_of_neg h]at e9;subst e9;simp at en
      . omega
      . omega
     intro x31 e31;have s1:x31=x6-x8:=by omega
     refine⟨fun k=>⟨trivial,?_⟩,fun k x38 e38=>⟨fun k2=>⟨trivial,?_⟩,fun k2=>⟨trivial,?_⟩⟩⟩
     . have k:=odt k;exact fun y ey=>leaf 1 false y ey (fun z=>nomatch z) (fun _=>hn) (by omega) (by omega)
     . have k:=odf k;have k2:=odt k2;exact fun y ey=>leaf (-1) false y ey (fun z=>nomatch z) (fun _=>hn) (by omega) (by omega)
     . have k:=odf k;have k2:=odf k2;exact fun y ey=>leaf 0 false y ey (fun z=>nomatch z) (fun _=>hn) (by omega) (by omega)
 . exact h.elim
end Go.Proofs.YthkoabbiiadbjaaGreat
namespace U
open Go
def cn(og sg:Int)(pit:List (List Int))(p:Int):Int:=if p<=og then el pit 0*sg else if(pit.length:Int)-1<=(p-og)/sg then el pit (pit.length-1)*sg else el pit ((p-og)/sg).toNat*sg+(el pit (((p-og)/sg).toNat+1)-el pit ((p-og)/sg).toNat)*((p-og)%sg)
def corr(og sg:Int)(pit:List (List Int))(p:Int):Int:=if pit.length=0 then 0 else(2*cn og sg pit p+sg)/(2*sg)
def mot(st og sg:Int)(pit:List (List Int))(p:Int):Int:=(2*(p+corr og sg pit p)+st)/(2*st)
theorem corr_knot{sg v:Int}(hs:0<sg):(2*(v*sg)+sg)/(2*sg)=v:=ediv_of (by omega) (by rw[Int.mul_assoc,Int.mul_comm sg v];omega) (by rw[Int.mul_assoc,Int.mul_comm sg v];omega)
end U
namespace Go.Proofs.YthkoabbiiadbjaaGreat
open Go Go.HL U
def SMod(hA:List HV)(pA:List (List HC)):SR:=match hA,pA with
 |[.ce (.int .i64 a), .ce (.int .i64 b)],[]=> .det (0<b/\b<=4611686018427387904) ⟨.ce (I6 (a%b)),false,[],[]⟩
 |_,_=> .fail
noncomputable def CMod:Ctx:=⟨Tryz.prog,gam [],12,[],[]⟩
theorem vcMod(a b:Int)(Q:Res->Prop):(nfun true CMod Tryz.f8 (bodyOf Tryz.f8) [.ce (I6 a), .ce (I6 b)] [] Q)=(b≠0/\∀x1,x1=Int.tmod a b->R6 (x1+b)/\∀x2,x2=x1+b->b≠0/\∀x3,x3=Int.tmod x2 b->Q ⟨.ce (I6 x3),false,[],[]⟩):=by kernel_rfl
theorem sMod:Sound Tryz.prog 8 SMod:=by
 refine sound_of (C:=CMod) [] Tryz.func8 (by kernel_rfl) (by decide+kernel) (by kernel_rfl) rfl trivial (loops0 (by kernel_rfl)) ?_;intro hA pA R h;unfold SMod at h;split at h
 . rename_i a b;refine byVC (vcMod a b R) ?_;obtain⟨⟨h1,h2⟩,hq⟩:=h;have:=tmod_lt (a:=a) h1;refine⟨by omega,fun x1 e1=>⟨by omega,fun x2 e2=>⟨by omega,fun x3 e3=> ?_⟩⟩⟩;subst e1 e2;rw[mod_eq h1]at e3;subst e3;exact hq
 . exact h.elim
end Go.Proofs.YthkoabbiiadbjaaGreat
namespace U
open Go
def adv(l:LL)(p:Int):Int:=if p<(l.length:Int)then p+1 else p
def inSrc(l:LL)(p:Int):Prop:=0<=p/\l.length<=9223372036854775807
def drew(l:LL)(p m:Int)(x:Int×Int):Prop:=0<=x.1/\x.1<m/\x.2=adv l p
theorem inSrc_adv{l:LL}{p:Int}(h:inSrc l p):inSrc l (adv l p):=⟨by have:=h.1;unfold adv;split<;>omega,h.2⟩
theorem drew_src{l:LL}{p m:Int}{x:Int×Int}(h:inSrc l p)(hd:drew l p m x):inSrc l x.2:=by rw[hd.2.2];exact inSrc_adv h
theorem drew_ex(l:LL)(p:Int){m:Int}(h:0<m):∃x,drew l p m x:=⟨(0,adv l p),Int.le_refl _,h,rfl⟩
end U
namespace Go.Proofs.YthkoabbiiadbjaaGreat
open Go Go.HL U
def SFrom(hA:List HV)(pA:List (List HC)):SR:=match hA,pA with
 |[.ce (.sl false [4] l)],[]=> .det True ⟨.ce (.ptr 500 0),false,[],[[.sl false [4] l,I6 0]]⟩
 |_,_=> .fail
noncomputable def CFrom:Ctx:=⟨Tryz.prog,gam [],6,[],[]⟩
theorem vcFrom(l:LL)(Q:Res->Prop):(nfun true CFrom Tryz.f24 (bodyOf Tryz.f24) [.ce (.sl false [4] l)] [] Q)=(Q {val:= .ce (.ptr 500 0),own:=false,pars:=[],news:=[[.sl false [4] l,I6 0]]}):=by kernel_rfl
def SNext(hA:List HV)(pA:List (List HC)):SR:=match hA,pA with
 |[.ce (.ptr 0 0), .ce (.int .i64 m)],[[.sl false [4] l, .int .i64 p]]=> .all (0<m/\m<=4611686018427387904/\inSrc l p) (Int×Int) (fun x=>drew l p m x) (fun x=>⟨.ce (I6 x.1),false,[[.sl false [4] l,I6 x.2]],[]⟩)
 |_,_=> .fail
def tabNext:List (FuncId×HL.Spec):=[(8,SMod)]
noncomputable def CNext:Ctx:=⟨Tryz.prog,gam tabNext,36,[],[]⟩
theorem vcNext(l:LL)(p m:Int)(Q:Res->Prop):(nfun true CNext Tryz.f25 (bodyOf Tryz.f25) [.ce (.ptr 0 0), .ce (I6 m)] [[.sl false [4] l,I6 p]] Q)=(Br (p>=(l.length:Int)) (Q {val:= .ce (I6 0),own:=false,pars:=[[.sl false [4] l,I6 p]],news:=[]}) ((0<=p/\p<(l.length:Int))/\∀x1,x1=el l p.toNat->R6 (p+1)/\∀x2,x2=p+1->(0<m/\m<=4611686018427387904)/\∀x3,x3=x1%m->Q {val:= .ce (I6 x3),own:=false,pars:=[[.sl false [4] l,I6 x2]],news:=[]})):=by kernel_rfl
theorem sFrom:Sound Tryz.prog 24 SFrom:=by
 refine sound_of (C:=CFrom) [] Tryz.func24 (by kernel_rfl) (by decide+kernel) (by kernel_rfl) rfl trivial (loops0 (by kernel_rfl)) ?_;intro hA pA R h;unfold SFrom at h;split at h
 . refine byVC (vcFrom _ R) ?_;exact h.2
 . exact h.elim
theorem sNext:Sound Tryz.prog 25 SNext:=by
 refine sound_of (C:=CNext) tabNext Tryz.func25 (by kernel_rfl) (by decide+kernel) (by kernel_rfl) rfl ⟨sMod,trivial⟩ (loops0 (by kernel_rfl)) ?_;intro hA pA R h;unfold SNext at h;split at h
 . rename_i m l p;refine byVC (vcNext l p m R) ?_;obtain⟨⟨h1,h2,h3,h4⟩,_,hq⟩:=h;refine⟨fun e=> ?_,fun e=> ?_⟩
   . have e:=odt e;exact hq (0,p) ⟨Int.le_refl _,h1,by unfold adv;rw[if_neg (by omega)]⟩
   . have e:=odf e;refine⟨by omega,fun x3 e3=>⟨by omega,fun x5 e5=>⟨⟨h1,h2⟩,fun y ey=> ?_⟩⟩⟩;subst ey;exact hq (x3%m,x5) ⟨Int.emod_nonneg _ (by omega),Int.emod_lt_of_pos _ h1,by unfold adv;rw[if_pos (by omega)];exact e5⟩
 . exact h.elim
end Go.Proofs.YthkoabbiiadbjaaGreat
namespace U
open Go
structure AxV where
 st:Int
 sp:Int
 ac:Int
 je:Int
 bl:Int
 og:Int
 sg:Int
 pit:LL
def okPit(sg:Int)(pit:LL):Prop:=(∀j,j<pit.length-> -4096<=el pit j/\el pit j<=4096)/\∀j,j+1<pit.length->el pit (j+1)-el pit j<=sg/4/\el pit j-el pit (j+1)<=sg/4
def okAx(a:AxV):Prop:=(4<=a.st/\a.st<=64)/\(1<=a.sp/\a.sp<=1000)/\(2<=a.ac/\a.ac<=1000)/\(4<=a.je/\a.je<=1000)/\(0<=a.bl/\a.bl<=6)/\(-200<=a.og/\a.og<200)/\(0<=a.sg/\a.sg<124)/\a.pit.length<=4/\(0<a.pit.length->4<=a.sg)/\okPit a.sg a.pit
end U
namespace Go.Proofs.YthkoabbiiadbjaaGreat
open Go Go.HL U
def axCells(a:AxV):List HC:=[I6 a.st,I6 a.sp,I6 a.ac,I6 a.je,I6 (-16777216),I6 16777216,I6 a.bl,I6 a.og,I6 a.sg, .sl false [4] a.pit]
def zAx:List HC:=[I6 0,I6 0,I6 0,I6 0,I6 0,I6 0,I6 0,I6 0,I6 0, .sl true [4] []]
def an22:LAnn:=⟨[0,2,3,4,5,6],[0,2,3],[0,1000002,1000003],false⟩
def L22(v:LV):LR:=match v with
 |([.ce (.ptr 0 0), .ce (.ptr 1000002 0), .ce (.ptr 1000003 0), .ce (.int .i64 n), .ce (.int .i64 v), .ce (.int .i64 k)],[[.sl false [4] l, .int .i64 p],z,[.int .i64 st, .int .i64 sp, .int .i64 ac, .int .i64 je, .int .i64 lo, .int .i64 hi, .int .i64 bl, .int .i64 og, .int .i64 sg, .sl true [4] pit]])=> .all (0<=n/\n<=4/\k=0/\ -4<=v/\v<=4/\pit.length=0/\4<=sg/\sg<124/\inSrc l p/\z=zAx) (Int×LL) (fun x=>inSrc l x.1/\x.2.length=n.toNat/\okPit sg x.2) (fun _=> .exit 0) (fun x=>([.ce (.ptr 0 0), .ce (.ptr 1000002 0), .ce (.ptr 1000003 0)],[[.sl false [4] l,I6 x.1],zAx,[I6 st,I6 sp,I6 ac,I6 je,I6 lo,I6 hi,I6 bl,I6 og,I6 sg, .sl true [4] x.2]]))
 |_=> .fail
def SAxis(hA:List HV)(pA:List (List HC)):SR:=match hA,pA with
 |[.ce (.ptr 0 0)],[[.sl false [4] l, .int .i64 p]]=> .all (inSrc l p) (Int×AxV) (fun x=>inSrc l x.1/\okAx x.2) (fun x=>⟨.agg (axCells x.2),false,[[.sl false [4] l,I6 x.1]],[]⟩)
 |_,_=> .fail
def tabAxis:List (FuncId×HL.Spec):=[(25,SNext)]
noncomputable def CAxis:Ctx:=⟨Tryz.prog,gam tabAxis,79,[(11,an22,L22)],[]⟩
theorem vbAxis(l:LL)(p n v i x0 x1 x2 x3 x4 x5 x6 x7 x8:Int)(pit:LL)(K:HEx->LV->Prop):(nbodyT true CAxis an22 (nthLoop Tryz.f54 0) ([.ce (.ptr 0 0), .ce (.ptr 1000002 0), .ce (.ptr 1000003 0), .ce (I6 n), .ce (I6 v), .ce (I6 i)],[[.sl false [4] l,I6 p],zAx,[I6 x0,I6 x1,I6 x2,I6 x3,I6 x4,I6 x5,I6 x6,I6 x7,I6 x8, .sl true [4] pit]]) K)=(Br (i<n) (((pit.length+1)*8<=140737488355328/\pit.length+1<=maxLen)/\(4:Int)≠(0:Int)/\R6 (Int.tdiv x8 4)/\∀x1_1,x1_1=Int.tdiv x8 4->R6 (2*x1_1)/\∀x2_1,x2_1=2*x1_1->R6 (x2_1+1)/\∀x3_1,x3_1=x2_1+1->(0<x3_1/\x3_1<=4611686018427387904/\inSrc l p)/\(∃(x:Int×Int),drew l p x3_1 x)/\∀(x:Int×Int),drew l p x3_1 x->R6 (v+x.1)/\∀x5_1,x5_1=v+x.1->R6 (x5_1-x1_1)/\∀x6_1,x6_1=x5_1-x1_1->∀x7_1,x7_1=max x6_1 (-4096:Int)->∀x8_1,x8_1=min x7_1 4096->R6 (i+1)/\∀x9,x9=i+1->K .normal ([.ce (.ptr 0 0), .ce (.ptr 1000002 0), .ce (.ptr 1000003 0), .ce (I6 n), .ce (I6 x8_1), .ce (I6 x9)],[[.sl false [4] l,I6 x.2],[I6 0,I6 0,I6 0,I6 0,I6 0,I6 0,I6 0,I6 0,I6 0, .sl true [4] []],[I6 x0,I6 x1,I6 x2,I6 x3,I6 x4,I6 x5,I6 x6,I6 x7,I6 x8, .sl true [4] (pit++[[v]])]])) (K (.exit 0) ([.ce (.ptr 0 0), .ce (.ptr 1000002 0), .ce (.ptr 1000003 0)],[[.sl false [4] l,I6 p],[I6 0,I6 0,I6 0,I6 0,I6 0,I6 0,I6 0,I6 0,I6 0, .sl true [4] []],[I6 x0,I6 x1,I6 x2,I6 x3,I6 x4,I6 x5,I6 x6,I6 x7,I6 x8, .sl true [4] pit]]))):=by kernel_rfl
theorem vcAxis(l:LL)(p:Int)(Q:Res->Prop):(nfun true CAxis Tryz.f54 (bodyOf Tryz.f54) [.ce (.ptr 0 0)] [[.sl false [4] l,I6 p]] Q)=(((0:Int)<6/\(6:Int)<=4611686018427387904/\inSrc l p)/\(∃(x:Int×Int),drew l p (6:Int) x)/\∀(x:Int×Int),drew l p (6:Int) x->(0<=x.1/\x.1<6)/\∀x2,x2=el [[(8:Int)],[(4:Int)],[(5:Int)],[(16:Int)],[(23:Int)],[(64:Int)]] x.1.toNat->((0:Int)<4/\(4:Int)<=4611686018427387904/\inSrc l x.2)/\(∃(x_1:Int×Int),drew l x.2 (4:Int) x_1)/\∀(x_1:Int×Int),drew l x.2 (4:Int) x_1->(0<=x_1.1/\x_1.1<4)/\∀x4,x4=el [[(0:Int)],[(1:Int)],[(3:Int)],[(6:Int)]] x_1.1.toNat->((0:Int)<5/\(5:Int)<=4611686018427387904/\inSrc l x_1.2)/\(∃(x:Int×Int),drew l x_1.2 (5:Int) x)/\∀(x:Int×Int),drew l x_1.2 (5:Int) x->(0<=x.1/\x.1<5)/\∀x6,x6=el [[(40:Int)],[(1:Int)],[(3:Int)],[(9:Int)],[(1000:Int)]] x.1.toNat->((0:Int)<5/\(5:Int)<=4611686018427387904/\inSrc l x.2)/\(∃(x_2:Int×Int),drew l x.2 (5:Int) x_2)/\∀(x_2:Int×Int),drew l x.2 (5:Int) x_2->(0<=x_2.1/\x_2.1<5)/\∀x8,x8=el [[(20:Int)],[(2:Int)],[(3:Int)],[(5:Int)],[(1000:Int)]] x_2.1.toNat->((0:Int)<5/\(5:Int)<=4611686018427387904/\inSrc l x_2.2)/\(∃(x:Int×Int),drew l x_2.2 (5:Int) x)/\∀(x:Int×Int),drew l x_2.2 (5:Int) x->(0<=x.1/\x.1<5)/\∀x10,x10=el [[(30:Int)],[(4:Int)],[(5:Int)],[(8:Int)],[(1000:Int)]] x.1.toNat->((0:Int)<5/\(5:Int)<=4611686018427387904/\inSrc l x.2)/\(∃(x_3:Int×Int),drew l x.2 (5:Int) x_3)/\∀(x_3:Int×Int),drew l x.2 (5:Int) x_3->Bb (x_3.1==0) (Q {val:= .agg [I6 x2,I6 x6,I6 x8,I6 x10,I6 (-16777216),I6 16777216,I6 x4,I6 0,I6 0, .sl false [4] []],own:=false,pars:=[[.sl false [4] l,I6 x_3.2]],news:=[]}) (((0:Int)<400/\(400:Int)<=4611686018427387904/\inSrc l x_3.2)/\(∃(x:Int×Int),drew l x_3.2 (400:Int) x)/\∀(x:Int×Int),drew l x_3.2 (400:Int) x->R6 (x.1-200)/\∀x13,x13=x.1-200->((0:Int)<120/\(120:Int)<=4611686018427387904/\inSrc l x.2)/\(∃(x_4:Int×Int),drew l x.2 (120:Int) x_4)/\∀(x_4:Int×Int),drew l x.2 (120:Int) x_4->(-9223372036854775808<=4+x_4.1/\(4:Int)+x_4.1<=9223372036854775807)/\∀x15,x15=4+x_4.1->((0:Int)<9/\(9:Int)<=4611686018427387904/\inSrc l x_4.2)/\(∃(x:Int×Int),drew l x_4.2 (9:Int) x)/\∀(x:Int×Int),drew l x_4.2 (9:Int) x->R6 (x.1-4)/\∀x17,x17=x.1-4->(0<=x_3.1/\x_3.1<=4/\(0:Int)=0/\ -4<=x17/\x17<=4/\nat_lit 0=0/\4<=x15/\x15<124/\inSrc l x.2/\[I6 0,I6 0,I6 0,I6 0,I6 0,I6 0,I6 0,I6 0,I6 0, .sl true [nat_lit 4] []]=zAx)/\∀(x:Int×LL),inSrc l x.1/\List.length x.2=x_3.1.toNat/\okPit x15 x.2->Q {val:= .agg [I6 x2,I6 x6,I6 x8,I6 x10,I6 (-16777216),I6 16777216,I6 x4,I6 x13,I6 x15, .sl false [4] x.2],own:=false,pars:=[[.sl false [4] l,I6 x.1]],news:=[]})):=by kernel_rfl
def SAxes(hA:List HV)(pA:List (List HC)):SR:=match hA,pA with
 |[.ce (.sl false [4] l)],[]=> .all (l.length<=9223372036854775807) (AxV×AxV×AxV) (fun x=>okAx x.1/\okAx x.2.1/\okAx x.2.2) (fun x=>⟨.agg (axCells x.1++axCells x.2.1++axCells x.2.2),false,[],[]⟩)
 |_,_=> .fail
def tabAxes:List (FuncId×HL.Spec):=[(24,SFrom),(54,SAxis)]
noncomputable def CAxes:Ctx:=⟨Tryz.prog,gam tabAxes,13,[],[]⟩
theorem vcAxes(l:LL)(Q:Res->Prop):(nfun true CAxes Tryz.f21 (bodyOf Tryz.f21) [.ce (.sl false [4] l)] [] Q)=(True/\∀(x1:LL),x1=l->∀(x2:Int),x2=0->inSrc x1 x2/\(∃(x:Int×AxV),inSrc x1 x.1/\okAx x.2)/\∀(x:Int×AxV),inSrc x1 x.1/\okAx x.2->inSrc x1 x.1/\(∃(x:Int×AxV),inSrc x1 x.1/\okAx x.2)/\∀(x_1:Int×AxV),inSrc x1 x_1.1/\okAx x_1.2->inSrc x1 x_1.1/\(∃(x:Int×AxV),inSrc x1 x.1/\okAx x.2)/\∀(x_2:Int×AxV),inSrc x1 x_2.1/\okAx x_2.2->Q ⟨.agg [I6 x.2.st,I6 x.2.sp,I6 x.2.ac,I6 x.2.je,I6 (-16777216),I6 16777216,I6 x.2.bl,I6 x.2.og,I6 x.2.sg, .sl false [4] x.2.pit,I6 x_1.2.st,I6 x_1.2.sp,I6 x_1.2.ac,I6 x_1.2.je,I6 (-16777216),I6 16777216,I6 x_1.2.bl,I6 x_1.2.og,I6 x_1.2.sg, .sl false [4] x_1.2.pit,I6 x_2.2.st,I6 x_2.2.sp,I6 x_2.2.ac,I6 x_2.2.je,I6 (-16777216),I6 16777216,I6 x_2.2.bl,I6 x_2.2.og,I6 x_2.2.sg, .sl false [4] x_2.2.pit],false,[],[]⟩):=by kernel_rfl
theorem okAx_ex:∃a,okAx a:=⟨⟨8,1,2,4,0,0,0,[]⟩,by unfold okAx okPit;simp⟩
theorem loopAxis:∀v Q,(L22 v).wp Q->hloop CAxis an22 (nthLoop Tryz.f54 0) v Q:=by
 intro v Q h;unfold L22 at h;split at h;case h_2=>exact h.elim
 rename_i n v k l p z st sp ac je lo hi bl og sg pit;obtain⟨⟨h1,h2,h3,h4,h5,h6,h7,h8,h9,h10⟩,hq⟩:=h;subst h3;subst h10;obtain rfl:pit=[]:=List.eq_nil_of_length_eq_zero h6;refine hloop_rec (σ:=Int×LL×Int) (fun s=>([.ce (.ptr 0 0), .ce (.ptr 1000002 0), .ce (.ptr 1000003 0), .ce (I6 n), .ce (I6 s.1), .ce (I6 (s.2.1.length:Int))],[[.sl false [4] l,I6 s.2.2],zAx,[I6 st,I6 sp,I6 ac,I6 je,I6 lo,I6 hi,I6 bl,I6 og,I6 sg, .sl true [4] s.2.1]])) (fun s=>n.toNat-s.2.1.length) (fun s=>(s.2.1.length:Int)<=n/\inSrc l s.2.2/\okPit sg s.2.1/\(-4096<=s.1/\s.1<=4096)/\(0<s.2.1.length->s.1-el s.2.1 (s.2.1.length-1)<=sg/4/\el s.2.1 (s.2.1.length-1)-s.1<=sg/4)) ?_ (v,[],p) ⟨h1,h9,by unfold okPit;simp,⟨by dsimp only;omega,by dsimp only;omega⟩,fun h=>absurd h (by simp)⟩;rintro⟨v,pit,p⟩⟨i1,i2,i3,i4,i5⟩K hn he hr;dsimp only at i1 i2 i3 i4 i5 hn⊢;refine byVB (vbAxis l p n v pit.length st sp ac je lo hi bl og sg pit K) ?_;refine⟨fun hlt=> ?_,fun hge=> ?_⟩
 . have hlt:=odt hlt;have ht:sg.tdiv 4=sg/4:=tdiv_pos (by omega);rw[ht];refine⟨⟨by omega,by unfold maxLen;omega⟩,by omega,by omega,fun y1 e1=>⟨by omega,fun y2 e2=>⟨by omega,fun y3 e3=>⟨⟨by omega,by omega,i2⟩,drew_ex _ _ (by omega),fun y d=> ?_⟩⟩⟩⟩;have d1:=d.1;have d2:=d.2.1;refine⟨by omega,fun y5 e5=>⟨by omega,fun y6 e6 y7 e7 y8 e8=>⟨by omega,fun y9 e9=> ?_⟩⟩⟩;have hl:(pit++[[v]]).length=pit.length+1:=by simp
   have:=hn (y8,pit++[[v]],y.2) ⟨by dsimp only;omega,drew_src i2 d,?_,by dsimp only;omega,fun _=> ?_⟩ (by dsimp only;omega)
   . dsimp only at this;rw[hl,show((pit.length+1:Nat):Int)=y9 by omega]at this;exact this
   . refine⟨fun j hj=> ?_,fun j hj=> ?_⟩
     . dsimp only at hj⊢;rw[el_append];split
       . rename_i hj';exact i3.1 j hj'
       . obtain rfl:j=pit.length:=by omega
         rw[Nat.sub_self,el_single];omega
     . dsimp only at hj⊢;have hjp:j<pit.length:=by omega
       have ej:el (pit++[[v]]) j=el pit j:=by rw[el_append,if_pos hjp]
       rw[ej,el_append];split
       . exact i3.2 j (by omega)
       . have hj':j+1=pit.length:=by omega
         have:=i5 (by omega);rw[hj',Nat.sub_self,el_single];rw[show pit.length-1=j by omega]at this;exact this
   . dsimp only;rw[hl,Nat.add_sub_cancel,el_append,if_neg (by omega),Nat.sub_self,el_single];omega
 . have hge:=odf hge;exact he _ _ (hq (p,pit) ⟨i2,by dsimp only;omega,i3⟩)
theorem sAxis:Sound Tryz.prog 54 SAxis:=by
 refine sound_of (C:=CAxis) tabAxis Tryz.func54 (by kernel_rfl) (by decide+kernel) (by kernel_rfl) rfl ⟨sNext,trivial⟩ (loops1 (by kernel_rfl) (loopOK_of (an:=an22) (S:=L22) (by kernel_rfl) loopAxis)) ?_;intro hA pA R h;unfold SAxis at h;split at h
 . rename_i l p;refine byVC (vcAxis l p R) ?_;obtain⟨hs,_,hq⟩:=h;refine⟨⟨by omega,by omega,hs⟩,drew_ex _ _ (by omega),fun y1 d1=>⟨⟨d1.1,d1.2.1⟩,fun x2 e2=> ?_⟩⟩;have s1:=drew_src hs d1;have b1:=el_bd (L:=[[8],[4],[5],[16],[23],[64]]) (lo:=4) (hi:=64) (by decide) d1.1 d1.2.1;refine⟨⟨by omega,by omega,s1⟩,drew_ex _ _ (by omega),fun y2 d2=>⟨⟨d2.1,d2.2.1⟩,fun x4 e4=> ?_⟩⟩;have s2:=drew_src s1 d2;have b2:=el_bd (L:=[[0],[1],[3],[6]]) (lo:=0) (hi:=6) (by decide) d2.1 d2.2.1;refine⟨⟨by omega,by omega,s2⟩,drew_ex _ _ (by omega),fun y3 d3=>⟨⟨d3.1,d3.2.1⟩,fun x6 e6=> ?_⟩⟩;have s3:=drew_src s2 d3;have b3:=el_bd (L:=[[40],[1],[3],[9],[1000]]) (lo:=1) (hi:=1000) (by decide) d3.1 d3.2.1;refine⟨⟨by omega,by omega,s3⟩,drew_ex _ _ (by omega),fun y4 d4=>⟨⟨d4.1,d4.2.1⟩,fun x8 e8=> ?_⟩⟩;have s4:=drew_src s3 d4;have b4:=el_bd (L:=[[20],[2],[3],[5],[1000]]) (lo:=2) (hi:=1000) (by decide) d4.1 d4.2.1;refine⟨⟨by omega,by omega,s4⟩,drew_ex _ _ (by omega),fun y5 d5=>⟨⟨d5.1,d5.2.1⟩,fun x10 e10=> ?_⟩⟩;have s5:=drew_src s4 d5;have b5:=el_bd (L:=[[30],[4],[5],[8],[1000]]) (lo:=4) (hi:=1000) (by decide) d5.1 d5.2.1;refine⟨⟨by omega,by omega,s5⟩,drew_ex _ _ (by omega),fun y6 d6=>⟨fun e=> ?_,fun e=> ?_⟩⟩
   . refine hq (y6.2,⟨x2,x6,x8,x10,x4,0,0,[]⟩) ⟨drew_src s5 d6,?_⟩;subst e2 e4 e6 e8 e10;unfold okAx okPit;simp;omega
   . have s6:=drew_src s5 d6;have hn:y6.1≠0:=by simpa using e
     have hn0:=d6.1;have hn5:=d6.2.1;refine⟨⟨by omega,by omega,s6⟩,drew_ex _ _ (by omega),fun y7 d7=>⟨by have:=d7.1;have:=d7.2.1;omega,fun x13 e13=> ?_⟩⟩;have s7:=drew_src s6 d7;have c7:=d7.1;have c7':=d7.2.1;refine⟨⟨by omega,by omega,s7⟩,drew_ex _ _ (by omega),fun y8 d8=>⟨by have:=d8.1;have:=d8.2.1;omega,fun x15 e15=> ?_⟩⟩;have s8:=drew_src s7 d8;have c8:=d8.1;have c8':=d8.2.1;refine⟨⟨by omega,by omega,s8⟩,drew_ex _ _ (by omega),fun y9 d9=>⟨by have:=d9.1;have:=d9.2.1;omega,fun x17 e17=> ?_⟩⟩;have s9:=drew_src s8 d9;have c9:=d9.1;have c9':=d9.2.1;refine⟨⟨by omega,by omega,rfl,by omega,by omega,rfl,by omega,by omega,s9,rfl⟩,fun y⟨g1,g2,g3⟩=> ?_⟩;refine hq (y.1,⟨x2,x6,x8,x10,x4,x13,x15,y.2⟩) ⟨g1,?_⟩;subst e2 e4 e6 e8 e10;refine⟨b1,b3,b4,b5,b2,?_,?_,?_,?_,g3⟩
     . dsimp only;omega
     . dsimp only;omega
     . dsimp only;omega
     . dsimp only;omega
 . exact h.elim
theorem sAxes:Sound Tryz.prog 21 SAxes:=by
 refine sound_of (C:=CAxes) tabAxes Tryz.func21 (by kernel_rfl) (by decide+kernel) (by kernel_rfl) rfl ⟨sFrom,sAxis,trivial⟩ (loops0 (by kernel_rfl)) ?_;intro hA pA R h;unfold SAxes at h;split at h
 . rename_i l;refine byVC (vcAxes l R) ?_;obtain⟨hs,_,hq⟩:=h;obtain⟨a,ha⟩:=okAx_ex;have i0:inSrc l 0:=⟨Int.le_refl _,hs⟩;refine⟨trivial,fun y1 e1 y2 e2=> ?_⟩;subst e1 e2;refine⟨i0,⟨(0,a),i0,ha⟩,fun x1 h1=>⟨h1.1,⟨(0,a),i0,ha⟩,fun x2 h2=>⟨h2.1,⟨(0,a),i0,ha⟩,fun x3 h3=> ?_⟩⟩⟩;exact hq (x1.2,x2.2,x3.2) ⟨h1.2,h2.2,h3.2⟩
 . exact h.elim
end Go.Proofs.YthkoabbiiadbjaaGreat
namespace U
open Go
def stp(st q:Int):Int:=(2*q+st)/(2*st)
def okC(og sg:Int)(pit:LL):Prop:=(0<pit.length->0<sg)/\(0<=sg/\sg<=16777216)/\(-16777216<=og/\og<=16777216)/\pit.length<=4096/\∀j,j<pit.length-> -4096<=el pit j/\el pit j<=4096
end U
namespace Go.Proofs.YthkoabbiiadbjaaGreat
open Go Go.HL U
def axI(st sp ac je lo hi bl og sg:Int)(pit:LL):List HC:=[I6 st,I6 sp,I6 ac,I6 je,I6 lo,I6 hi,I6 bl,I6 og,I6 sg, .sl false [4] pit]
def SFloor(hargs:List HV)(pars:List (List HC)):SR:=match hargs,pars with
 |[.ce (.int .i64 a), .ce (.int .i64 b)],[]=> .det ((-9223372036854775807<=a/\a<=9223372036854775807)/\0<b) ⟨.ce (I6 (a/b)),false,[],[]⟩
 |_,_=> .fail
noncomputable def CFloor:Ctx:=⟨Tryz.prog,gam [],16,[],[]⟩
theorem vcFloor(a b:Int)(Q:Res->Prop):(nfun true CFloor Tryz.f16 (bodyOf Tryz.f16) [.ce (I6 a), .ce (I6 b)] [] Q)=(b≠0/\R6 (Int.tdiv a b)/\∀x1,x1=Int.tdiv a b->b≠0/\∀x2,x2=Int.tmod a b->Br (x2<0) (R6 (x1-1)/\∀x3,x3=x1-1->Q ⟨.ce (I6 x3),false,[],[]⟩) (Q ⟨.ce (I6 x1),false,[],[]⟩)):=by kernel_rfl
def SCorrect(hargs:List HV)(pars:List (List HC)):SR:=match hargs,pars with
 |[.agg [.int .i64 st, .int .i64 _, .int .i64 _, .int .i64 _, .int .i64 _, .int .i64 _, .int .i64 _, .int .i64 og, .int .i64 sg, .sl false [4] pit], .ce (.int .i64 p)],[]=> .det (okC og sg pit/\ -1073741824<=p/\p<=1073741824) ⟨.ce (I6 (corr og sg pit p)),false,[],[]⟩
 |_,_=> .fail
def SSteps(hargs:List HV)(pars:List (List HC)):SR:=match hargs,pars with
 |[.agg [.int .i64 st, .int .i64 _, .int .i64 _, .int .i64 _, .int .i64 _, .int .i64 _, .int .i64 _, .int .i64 og, .int .i64 sg, .sl false [4] pit], .ce (.int .i64 p)],[]=> .det ((0<st/\st<=16777216)/\ -1099511627776<=p/\p<=1099511627776) ⟨.ce (I6 (stp st p)),false,[],[]⟩
 |_,_=> .fail
def SMotor(hargs:List HV)(pars:List (List HC)):SR:=match hargs,pars with
 |[.agg [.int .i64 st, .int .i64 _, .int .i64 _, .int .i64 _, .int .i64 _, .int .i64 _, .int .i64 _, .int .i64 og, .int .i64 sg, .sl false [4] pit], .ce (.int .i64 p)],[]=> .det ((0<st/\st<=16777216)/\okC og sg pit/\ -1073741824<=p/\p<=1073741824) ⟨.ce (I6 (mot st og sg pit p)),false,[],[]⟩
 |_,_=> .fail
def tabP1:List (FuncId×HL.Spec):=[(36,SMulDiv),(16,SFloor)]
def tabP2:List (FuncId×HL.Spec):=[(133,SCorrect),(132,SSteps)]
noncomputable def CCorrect:Ctx:=⟨Tryz.prog,gam tabP1,74,[],[]⟩
noncomputable def CSteps:Ctx:=⟨Tryz.prog,gam tabP1,31,[],[]⟩
noncomputable def CMotor:Ctx:=⟨Tryz.prog,gam tabP2,12,[],[]⟩
theorem vcCorrect(st sp ac je lo hi bl og sg p:Int)(pit:LL)(Q:Res->Prop):(nfun true CCorrect Tryz.f133 (bodyOf Tryz.f133) [.agg (axI st sp ac je lo hi bl og sg pit), .ce (I6 p)] [] Q)=(R6 ((pit.length:Int)-1)/\∀x1,x1=(pit.length:Int)-1->Br (x1<0) (Q ⟨.ce (I6 0),false,[],[]⟩) (R6 (p-og)/\∀x2,x2=p-og->Br (x2<=0) (((0:Int)<=0/\(0:Int)<(pit.length:Int))/\∀x3,x3=el pit (0:Nat)->Q ⟨.ce (I6 x3),false,[],[]⟩) (Br (sg<=0) (((0:Int)<=0/\(0:Int)<(pit.length:Int))/\∀x4,x4=el pit (0:Nat)->Q ⟨.ce (I6 x4),false,[],[]⟩) (sg≠0/\R6 (Int.tdiv x2 sg)/\∀x5,x5=Int.tdiv x2 sg->Br (x5>=x1) ((0<=x1/\x1<(pit.length:Int))/\∀x6,x6=el pit x1.toNat->Q ⟨.ce (I6 x6),false,[],[]⟩) (R6 (x5+1)/\∀x7,x7=x5+1->(0<=x7/\x7<(pit.length:Int))/\∀x8,x8=el pit x7.toNat->(0<=x5/\x5<(pit.length:Int))/\∀x9,x9=el pit x5.toNat->R6 (x8-x9)/\∀x10,x10=x8-x9->R6 (x5*sg)/\∀x11,x11=x5*sg->R6 (x2-x11)/\∀x12,x12=x2-x11->(R6 x10/\R6 x12/\(0<sg/\sg<=9223372036854775807)/\(-4611686018427387904<=x10*x12/\x10*x12<=4611686018427387904)/\(0:Int)<=2/\(2:Int)<=2)/\∀x13,x13=mdv (x10*x12) sg (2:Int)->∀(x14:Bool),x14=true->(0<=x5/\x5<(pit.length:Int))/\∀x15,x15=el pit x5.toNat->R6 (x15+x13)/\∀x16,x16=x15+x13->Q ⟨.ce (I6 x16),false,[],[]⟩))))):=by kernel_rfl
theorem vcSteps(st sp ac je lo hi bl og sg p:Int)(pit:LL)(Q:Res->Prop):(nfun true CSteps Tryz.f132 (bodyOf Tryz.f132) [.agg (axI st sp ac je lo hi bl og sg pit), .ce (I6 p)] [] Q)=(Br (st<=0) (Q ⟨.ce (I6 0),false,[],[]⟩) (R6 (2*p)/\∀x1,x1=2*p->R6 (x1+st)/\∀x2,x2=x1+st->R6 (2*st)/\∀x3,x3=2*st->Br (x3<=0) (Q ⟨.ce (I6 0),false,[],[]⟩) (x3≠0/\R6 (Int.tdiv x2 x3)/\∀x4,x4=Int.tdiv x2 x3->x3≠0/\∀x5,x5=Int.tmod x2 x3->Br (x5<0) (R6 (x4-1)/\∀x6,x6=x4-1->Q ⟨.ce (I6 x6),false,[],[]⟩) (Q ⟨.ce (I6 x4),false,[],[]⟩)))):=by kernel_rfl
theorem vcMotor(st sp ac je lo hi bl og sg p:Int)(pit:LL)(Q:Res->Prop):(nfun true CMotor Tryz.f105 (bodyOf Tryz.f105) [.agg (axI st sp ac je lo hi bl og sg pit), .ce (I6 p)] [] Q)=((okC og sg pit/\ -1073741824<=p/\p<=1073741824)/\∀x1,x1=corr og sg pit p->R6 (p+x1)/\∀x2,x2=p+x1->((0<st/\st<=16777216)/\ -1099511627776<=x2/\x2<=1099511627776)/\∀x3,x3=stp st x2->Q ⟨.ce (I6 x3),false,[],[]⟩):=by kernel_rfl
end Go.Proofs.YthkoabbiiadbjaaGreat
namespace U
theorem floor_of{a b:Int}(hb:0<b):(a.tmod b<0->a.tdiv b-1=a/b)/\(0<=a.tmod b->a.tdiv b=a/b):=by
 have e1:=Int.mul_ediv_add_emod a b;have e2:=Int.mul_tdiv_add_tmod a b;have m1:=Int.emod_nonneg a (show b≠0 by omega);have m2:=Int.emod_lt_of_pos a hb;have⟨t1,t2⟩:=tmod_lt (a:=a) hb;generalize a.tmod b=r at*;generalize a.tdiv b=q at*;generalize a%b=s at*;generalize a/b=k at*;have e3:b*(k-q)=r-s:=by rw[Int.mul_sub];omega
 refine⟨fun h=> ?_,fun h=> ?_⟩
 . have:k-q= -1:=by
    have h1:k-q<0:=by
     refine Int.not_le.1 fun hh=> ?_;have:=Int.mul_nonneg (Int.le_of_lt hb) hh;omega
    have h2: -2<k-q:=by
     refine Int.not_le.1 fun hh=> ?_;have:=Int.mul_le_mul_of_nonneg_left hh (Int.le_of_lt hb);omega
    omega
   omega
 . have:k-q=0:=by
    have h1:k-q<1:=by
     refine Int.not_le.1 fun hh=> ?_;have:=Int.mul_le_mul_of_nonneg_left hh (Int.le_of_lt hb);omega
    have h2: -1<k-q:=by
     refine Int.not_le.1 fun hh=> ?_;have:=Int.mul_le_mul_of_nonneg_left hh (Int.le_of_lt hb);omega
    omega
   omega
theorem ediv_bd{a b:Int}(hb:0<b):(0<=a->0<=a/b/\a/b<=a)/\(a<0->a<=a/b/\a/b<0):=by
 refine⟨fun h=>⟨Int.ediv_nonneg h (by omega),Int.ediv_le_self _ h⟩,fun h=>⟨?_,Int.ediv_neg_of_neg_of_pos h hb⟩⟩;exact Int.le_ediv_of_mul_le hb (by
  have:=Int.mul_nonneg (show 0<= -a by omega) (show 0<=b-1 by omega);rw[Int.mul_sub,Int.mul_one,Int.neg_mul]at this;omega)
end U
namespace Go.Proofs.YthkoabbiiadbjaaGreat
open Go Go.HL U
theorem floor_fin{a b:Int}{R:Res->Prop}(hr: -9223372036854775807<=a/\a<=9223372036854775807)(hb:0<b)(hq:R ⟨.ce (I6 (a/b)),false,[],[]⟩):b≠0/\(-9223372036854775808<=Int.tdiv a b/\Int.tdiv a b<=9223372036854775807)/\∀x1:Int,x1=Int.tdiv a b->b≠0/\∀x2:Int,x2=Int.tmod a b->(decide (x2<0)=true->(-9223372036854775808<=x1-1/\x1-1<=9223372036854775807)/\∀x3:Int,x3=x1-1->R ⟨.ce (I6 x3),false,[],[]⟩)/\(decide (x2<0)=false->R ⟨.ce (I6 x1),false,[],[]⟩):=by
 have⟨f1,f2⟩:=floor_of (a:=a) hb;have⟨g1,g2⟩:=ediv_bd (a:=a) hb;have hq1:a.tmod b<0∨0<=a.tmod b:=by omega
 have hh: -9223372036854775807<=a/b/\a/b<=9223372036854775807:=by
  by_cases ha:0<=a
  . have:=g1 ha;omega
  . have:=g2 (by omega);omega
 have ht:a.tdiv b=a/b∨a.tdiv b=a/b+1:=by omega
 have hpos:a<0->a/b<0:=fun h=>(g2 h).2;have hneg:a.tmod b<0->a<0:=fun h=>by
  refine Int.not_le.1 fun hh=> ?_;have:=Int.tmod_nonneg b hh;omega
 refine⟨by omega,by omega,fun x1 e1=>⟨by omega,fun x2 e2=>⟨fun k=> ?_,fun k=> ?_⟩⟩⟩
 . have k:=odt k;refine⟨by omega,fun x3 e3=> ?_⟩;rw[show x3=a/b by omega];exact hq
 . have k:=odf k;rw[show x1=a/b by omega];exact hq
theorem sFloor:Sound Tryz.prog 16 SFloor:=by
 refine sound_of (C:=CFloor) [] Tryz.func16 (by kernel_rfl) (by decide+kernel) (by kernel_rfl) rfl trivial (loops0 (by kernel_rfl)) ?_;intro hargs pars R h;unfold SFloor at h;split at h;case h_2=>exfalso;exact h
 rename_i a b;exact byVC (vcFloor a b R) (floor_fin h.1.1 h.1.2 h.2)
end Go.Proofs.YthkoabbiiadbjaaGreat
namespace U
theorem mul_bd2{a b A B:Int}(ha: -A<=a/\a<=A)(hb:0<=b/\b<=B): -(A*B)<=a*b/\a*b<=A*B:=by
 have hA:0<=A:=by omega
 have m1:A*b<=A*B:=Int.mul_le_mul_of_nonneg_left hb.2 hA;have m2:a*b<=A*b:=Int.mul_le_mul_of_nonneg_right ha.2 hb.1;have m3: -A*b<=a*b:=Int.mul_le_mul_of_nonneg_right ha.1 hb.1;rw[Int.neg_mul]at m3;omega
theorem stp_eq(st og sg:Int)(pit:LL)(p:Int):stp st (p+corr og sg pit p)=mot st og sg pit p:=rfl
theorem corr_empty{og sg:Int}{pit:LL}(p:Int)(h:pit.length=0):corr og sg pit p=0:=by unfold corr;rw[if_pos h]
theorem corr_lo{og sg p:Int}{pit:LL}(h:0<pit.length)(hs:0<sg)(hp:p<=og):corr og sg pit p=el pit 0:=by
 unfold corr cn;rw[if_neg (by omega),if_pos hp,corr_knot hs]
theorem corr_hi{og sg p:Int}{pit:LL}(h:0<pit.length)(hs:0<sg)(hp:og<p)(hl:(pit.length:Int)-1<=(p-og)/sg):corr og sg pit p=el pit (pit.length-1):=by
 unfold corr cn;rw[if_neg (by omega),if_neg (by omega),if_pos hl,corr_knot hs]
theorem corr_mid{og sg p:Int}{pit:LL}(h:0<pit.length)(hs:0<sg)(hp:og<p)(hl:(p-og)/sg<(pit.length:Int)-1):corr og sg pit p=el pit ((p-og)/sg).toNat+(2*((el pit (((p-og)/sg).toNat+1)-el pit ((p-og)/sg).toNat)*((p-og)%sg))+sg)/(2*sg):=by
 unfold corr cn;rw[if_neg (by omega),if_neg (by omega),if_neg (by omega)];generalize el pit ((p-og)/sg).toNat=v;generalize(el pit (((p-og)/sg).toNat+1)-v)*((p-og)%sg)=k;rw[show 2*(v*sg+k)+sg=(2*k+sg)+(2*sg)*v by grind,Int.add_mul_ediv_left _ _ (by omega),Int.add_comm]
theorem cn_bd{og sg:Int}{pit:LL}(h:okC og sg pit)(hl:0<pit.length)(p:Int): -4096*sg<=cn og sg pit p/\cn og sg pit p<=4096*sg:=by
 obtain⟨h1,h2,h3,h4,h5⟩:=h;have hs:=h1 hl;have one:∀v:Int,-4096<=v->v<=4096-> -4096*sg<=v*sg/\v*sg<=4096*sg:=fun v a b=>⟨Int.mul_le_mul_of_nonneg_right a (by omega),Int.mul_le_mul_of_nonneg_right b (by omega)⟩;unfold cn;by_cases c1:p<=og
 . rw[if_pos c1];have:=h5 0 hl;exact one _ this.1 this.2
 rw[if_neg c1];by_cases c2:(pit.length:Int)-1<=(p-og)/sg
 . rw[if_pos c2];have:=h5 (pit.length-1) (by omega);exact one _ this.1 this.2
 rw[if_neg c2];have i0:0<=(p-og)/sg:=Int.ediv_nonneg (by omega) (by omega);have a:=h5 ((p-og)/sg).toNat (by omega);have b:=h5 (((p-og)/sg).toNat+1) (by omega);have r0:=Int.emod_nonneg (p-og) (show sg≠0 by omega);have r1:=Int.emod_lt_of_pos (p-og) hs;generalize el pit ((p-og)/sg).toNat=v at*;generalize el pit (((p-og)/sg).toNat+1)=w at*;generalize(p-og)%sg=r at*;have e:v*sg+(w-v)*r=v*(sg-r)+w*r:=by grind
 rw[e];have m1: -4096*(sg-r)<=v*(sg-r):=Int.mul_le_mul_of_nonneg_right a.1 (by omega);have m2:v*(sg-r)<=4096*(sg-r):=Int.mul_le_mul_of_nonneg_right a.2 (by omega);have m3: -4096*r<=w*r:=Int.mul_le_mul_of_nonneg_right b.1 (by omega);have m4:w*r<=4096*r:=Int.mul_le_mul_of_nonneg_right b.2 (by omega);omega
theorem corr_bd{og sg:Int}{pit:LL}(h:okC og sg pit)(p:Int): -4096<=corr og sg pit p/\corr og sg pit p<=4096:=by
 unfold corr;by_cases hl:pit.length=0
 . rw[if_pos hl];omega
 rw[if_neg hl];have hs:=h.1 (by omega);have:=cn_bd h (by omega) p;generalize cn og sg pit p=a at*;refine⟨Int.le_ediv_of_mul_le (by omega) (by omega),Int.lt_add_one_iff.1 (Int.ediv_lt_of_lt_mul (by omega) (by omega))⟩
theorem stp_bd{st q:Int}(h:0<st)(hq: -1099511627776<=q/\q<=1099511627776): -2199023255552<=stp st q/\stp st q<=2199023255554:=by
 unfold stp;have e:=ediv_bd (a:=2*q+st) (b:=2*st) (by omega);by_cases hh:0<=2*q+st
 . have:=e.1 hh;refine⟨by omega,?_⟩;exact Int.lt_add_one_iff.1 (Int.ediv_lt_of_lt_mul (by omega) (by omega))
 . have:=e.2 (by omega);omega
end U
namespace Go.Proofs.YthkoabbiiadbjaaGreat
open Go Go.HL U
theorem sCorrect:Sound Tryz.prog 133 SCorrect:=by
 refine sound_of (C:=CCorrect) tabP1 Tryz.func133 (by kernel_rfl) (by decide+kernel) (by kernel_rfl) rfl ⟨sMulDiv,sFloor,trivial⟩ (loops0 (by kernel_rfl)) ?_;intro hargs pars R h;unfold SCorrect at h;split at h;case h_2=>exfalso;exact h
 rename_i st x1 x2 x3 x4 x5 x6 og sg pit p;obtain⟨⟨hc,hp1,hp2⟩,hq⟩:=h;obtain⟨h1,h2,h3,h4,h5⟩:=hc;refine byVC (vcCorrect st x1 x2 x3 x4 x5 x6 og sg p pit R) ⟨by omega,fun y1 e1=>⟨fun k=> ?_,fun k=> ?_⟩⟩
 . have k:=odt k;rw[corr_empty p (by omega)]at hq;exact hq
 have k:=odf k;have hs:=h1 (by omega);refine⟨by omega,fun y2 e2=>⟨fun k2=> ?_,fun k2=>⟨fun k3=> ?_,fun k3=> ?_⟩⟩⟩
 . have k2:=odt k2;refine⟨by omega,fun y3 e3=> ?_⟩;rw[corr_lo (by omega) hs (by omega)]at hq;rw[e3];exact hq
 . have k3:=odt k3;omega
 have k2:=odf k2;have ed:=ediv_bd (a:=y2) hs;have ed1:=ed.1 (by omega);have et:y2.tdiv sg=y2/sg:=Int.tdiv_eq_ediv_of_nonneg (by omega);rw[e2]at et ed1;rw[<-e2]at et;refine⟨by omega,by rw[et];omega,fun y5 e5=>⟨fun k4=> ?_,fun k4=> ?_⟩⟩
 . have k4:=odt k4;refine⟨by omega,fun y6 e6=> ?_⟩;rw[corr_hi (by omega) hs (by omega) (by rw[<-e2];omega)]at hq;rw[e6,show y1.toNat=pit.length-1 by omega];exact hq
 have k4:=odf k4;have hd:y5=(p-og)/sg:=by rw[<-e2];omega
 have hmod:=Int.mul_ediv_add_emod (p-og) sg;have r0:=Int.emod_nonneg (p-og) (show sg≠0 by omega);have r1:=Int.emod_lt_of_pos (p-og) hs;rw[corr_mid (by omega) hs (by omega) (by omega)]at hq;have bd:=corr_bd ⟨h1,h2,h3,h4,h5⟩ p;rw[corr_mid (by omega) hs (by omega) (by omega)]at bd;rw[<-hd]at hq bd hmod;generalize(p-og)%sg=r at*;have em:y5*sg=p-og-r:=by rw[Int.mul_comm];omega
 have a:=h5 y5.toNat (by omega);have b:=h5 (y5.toNat+1) (by omega);refine⟨by omega,fun y7 e7=>⟨by omega,fun y8 e8=>⟨by omega,fun y9 e9=> ?_⟩⟩⟩;rw[show y7.toNat=y5.toNat+1 by omega]at e8;rw[<-e9]at a hq bd;rw[<-e8]at b hq bd;refine⟨by omega,fun y10 e10=>⟨by omega,fun y11 e11=>⟨by omega,fun y12 e12=> ?_⟩⟩⟩;have er:y12=r:=by omega
 rw[<-e10]at hq bd;rw[<-er]at hq bd r0 r1;have pb:=mul_bd2 (a:=y10) (b:=y12) (A:=8192) (B:=16777216) (by omega) (by omega);refine⟨⟨by omega,by omega,by omega,by omega,by omega⟩,fun y13 e13 y14 _=>⟨by omega,fun y15 e15=> ?_⟩⟩;have e13':y13=(2*(y10*y12)+sg)/(2*sg):=by rw[e13];unfold mdv;simp
 rw[<-e13']at hq bd;rw[<-e9]at e15;refine⟨by omega,fun y16 e16=> ?_⟩;rw[e16,e15];exact hq
theorem sSteps:Sound Tryz.prog 132 SSteps:=by
 refine sound_of (C:=CSteps) tabP1 Tryz.func132 (by kernel_rfl) (by decide+kernel) (by kernel_rfl) rfl ⟨sMulDiv,sFloor,trivial⟩ (loops0 (by kernel_rfl)) ?_;intro hargs pars R h;unfold SSteps at h;split at h;case h_2=>exfalso;exact h
 rename_i st x1 x2 x3 x4 x5 x6 og sg pit p;obtain⟨⟨h1,h2⟩,hq⟩:=h;refine byVC (vcSteps st x1 x2 x3 x4 x5 x6 og sg p pit R) ⟨fun k=> ?_,fun k=> ?_⟩
 . have k:=odt k;omega
 refine⟨by omega,fun y1 e1=>⟨by omega,fun y2 e2=>⟨by omega,fun y3 e3=>⟨fun k=> ?_,fun k=> ?_⟩⟩⟩⟩
 . have k:=odt k;omega
 have hq:R ⟨.ce (I6 (y2/y3)),false,[],[]⟩:=by rw[e2,e1,e3];exact hq
 exact floor_fin (by omega) (by omega) hq
theorem sMotor:Sound Tryz.prog 105 SMotor:=by
 refine sound_of (C:=CMotor) tabP2 Tryz.func105 (by kernel_rfl) (by decide+kernel) (by kernel_rfl) rfl ⟨sCorrect,sSteps,trivial⟩ (loops0 (by kernel_rfl)) ?_;intro hargs pars R h;unfold SMotor at h;split at h;case h_2=>exfalso;exact h
 rename_i st x1 x2 x3 x4 x5 x6 og sg pit p;obtain⟨⟨h1,h2,h3⟩,hq⟩:=h;have bd:=corr_bd h2 p;refine byVC (vcMotor st x1 x2 x3 x4 x5 x6 og sg p pit R) ⟨⟨h2,h3⟩,fun y1 e1=> ?_⟩;rw[<-e1]at bd;refine⟨by omega,fun y2 e2=>⟨⟨h1,by omega⟩,fun y3 e3=> ?_⟩⟩;rw[e3,e2,e1,stp_eq];exact hq
end Go.Proofs.YthkoabbiiadbjaaGreat
namespace U
open Go
def plen:LL->Int
 |[]=>0
 |r::l=>r.getD 3 0+plen l
def lfA:LL->Int->Int->Int×Int
 |[],_,_=>(-1,0)
 |r::l,i,s=>if s<r.getD 3 0 then(i,s)else lfA l (i+1) (s-r.getD 3 0)
def pfind(sg:LL)(s:Int):Int×Int:=if sg.length=0 then(-1,0)else if 0<=(lfA sg 0 (max s 0)).1 then lfA sg 0 (max s 0)else((sg.length:Int)-1,ec sg (sg.length-1) 3)
def okLen(sg:LL):Prop:=sg.length<=1048576/\∀j,j<sg.length->1<=ec sg j 3/\ec sg j 3<=4294967296
def okPts(s0 s1 s2:Int)(sg:LL):Prop:=(-536870912<=s0/\s0<=536870912)/\(-536870912<=s1/\s1<=536870912)/\(-536870912<=s2/\s2<=536870912)/\∀j,j<sg.length->(-536870912<=ec sg j 0/\ec sg j 0<=536870912)/\(-536870912<=ec sg j 1/\ec sg j 1<=536870912)/\(-536870912<=ec sg j 2/\ec sg j 2<=536870912)
def bgn(s:Int)(sg:LL)(c:Nat)(i:Int):Int:=if i<=0 then s else ec sg (i-1).toNat c
def rnd(a b:Int):Int:=(2*a+b)/(2*b)
def ptAt(s:Int)(sg:LL)(c:Nat)(p:Int):Int:=if(pfind sg p).1<0 then s else bgn s sg c (pfind sg p).1+rnd ((ec sg (pfind sg p).1.toNat c-bgn s sg c (pfind sg p).1)*(pfind sg p).2) (ec sg (pfind sg p).1.toNat 3)
end U
namespace Go.Proofs.YthkoabbiiadbjaaGreat
open Go Go.HL U
def SPLen(hA:List HV)(pA:List (List HC)):SR:=match hA,pA with
 |[.agg [.int .i64 s0, .int .i64 s1, .int .i64 s2, .sl false [4,4,4,4,4,4,4] sg, .sl false [4,4,4] mk]],[]=> .det (okLen sg) ⟨.ce (I6 (plen sg)),false,[],[]⟩
 |_,_=> .fail
def anLen:LAnn:=⟨[1,2,3,7,8,9],[1,2,3],[1000001],false⟩
def LLen(v:LV):LR:=match v with
 |([.ce (.ptr 1000001 0), .ce (.int .i64 z), .ce (.int .i64 t), .ce (.sl false [4,4,4,4,4,4,4] l), .ce (.int .i64 n), .ce (.int .i64 i)],[[.int .i64 s0, .int .i64 s1, .int .i64 s2, .sl false [4,4,4,4,4,4,4] sg, .sl false [4,4,4] mk]])=> .det (n=l.length/\i=0/\t=0/\okLen l) (.exit 0) ([.ce (.ptr 1000001 0), .ce (I6 z), .ce (I6 (plen l))],[[I6 s0,I6 s1,I6 s2, .sl false [4,4,4,4,4,4,4] sg, .sl false [4,4,4] mk]])
 |_=> .fail
noncomputable def CPLen:Ctx:=⟨Tryz.prog,gam [],Tryz.f23.ntmps,[(3,anLen,LLen)],[]⟩
theorem vbPLen(s0 s1 s2 z t n i:Int)(sg mk l:LL)(K:HEx->LV->Prop):(nbodyT true CPLen anLen (nthLoop Tryz.f23 0) (([.ce (.ptr 1000001 0), .ce (I6 z), .ce (I6 t), .ce (.sl false [4,4,4,4,4,4,4] l), .ce (I6 n), .ce (I6 i)],[[I6 s0,I6 s1,I6 s2, .sl false [4,4,4,4,4,4,4] sg, .sl false [4,4,4] mk]])) K)=(Br (i<n) ((0<=i/\i<(l.length:Int))/\R6 (t+ec l i.toNat 3)/\∀x1,x1=t+ec l i.toNat 3->R6 (i+1)/\∀x2,x2=i+1->K .normal ([.ce (.ptr 1000001 0), .ce (I6 z), .ce (I6 x1), .ce (.sl false [4,4,4,4,4,4,4] l), .ce (I6 n), .ce (I6 x2)],[[I6 s0,I6 s1,I6 s2, .sl false [4,4,4,4,4,4,4] sg, .sl false [4,4,4] mk]])) (K (.exit 0) ([.ce (.ptr 1000001 0), .ce (I6 z), .ce (I6 t)],[[I6 s0,I6 s1,I6 s2, .sl false [4,4,4,4,4,4,4] sg, .sl false [4,4,4] mk]]))):=by kernel_rfl
theorem vcPLen(s0 s1 s2:Int)(sg mk:LL)(Q:Res->Prop):(nfun true CPLen Tryz.f23 (bodyOf Tryz.f23) [.agg [I6 s0,I6 s1,I6 s2, .sl false [4,4,4,4,4,4,4] sg, .sl false [4,4,4] mk]] [] Q)=(((sg.length:Int)=(sg.length:Int)/\(0:Int)=0/\(0:Int)=0/\okLen sg)/\Q ⟨.ce (I6 (plen sg)),false,[],[]⟩):=by kernel_rfl
def SPFind(hA:List HV)(pA:List (List HC)):SR:=match hA,pA with
 |[.agg [.int .i64 s0, .int .i64 s1, .int .i64 s2, .sl false [4,4,4,4,4,4,4] sg, .sl false [4,4,4] mk], .ce (.int .i64 p)],[]=> .all (okLen sg/\p<=4611686018427387904) (Int×Int) (fun x=>x=pfind sg p) (fun x=>⟨.tup [.ce (I6 x.1), .ce (I6 x.2)],false,[],[]⟩)
 |_,_=> .fail
def anPF:LAnn:=⟨[1,2,4,5,11,12,13],[2,4,5],[1000002],false⟩
def LPF(v:LV):LR:=match v with
 |([.ce (.int .i64 p), .ce (.ptr 1000002 0), .ce (.int .i64 z), .ce (.int .i64 y), .ce (.sl false [4,4,4,4,4,4,4] l), .ce (.int .i64 n), .ce (.int .i64 i)],[[.int .i64 s0, .int .i64 s1, .int .i64 s2, .sl false [4,4,4,4,4,4,4] sg, .sl false [4,4,4] mk]])=> .alts (n=l.length/\i=0/\(0<=p/\p<=4611686018427387904)/\l=sg/\okLen l) [(l.length=0, .exit 0,([.ce (.ptr 1000002 0), .ce (I6 z), .ce (I6 y)],[[I6 s0,I6 s1,I6 s2, .sl false [4,4,4,4,4,4,4] sg, .sl false [4,4,4] mk]])),(0<l.length, .ret,([.ce (.ptr 1000002 0), .ce (I6 (pfind l p).1), .ce (I6 (pfind l p).2)],[[I6 s0,I6 s1,I6 s2, .sl false [4,4,4,4,4,4,4] sg, .sl false [4,4,4] mk]]))]
 |_=> .fail
noncomputable def CPFind:Ctx:=⟨Tryz.prog,gam [],Tryz.f118.ntmps,[(3,anPF,LPF)],[]⟩
theorem vbPFind(s0 s1 s2 p z y n i:Int)(sg mk l:LL)(K:HEx->LV->Prop):(nbodyT true CPFind anPF (nthLoop Tryz.f118 0) (([.ce (I6 p), .ce (.ptr 1000002 0), .ce (I6 z), .ce (I6 y), .ce (.sl false [4,4,4,4,4,4,4] l), .ce (I6 n), .ce (I6 i)],[[I6 s0,I6 s1,I6 s2, .sl false [4,4,4,4,4,4,4] sg, .sl false [4,4,4] mk]])) K)=(Br (i<n) ((0<=i/\i<(l.length:Int))/\Br (p<ec l i.toNat 3) (K .ret ([.ce (.ptr 1000002 0), .ce (I6 i), .ce (I6 p)],[[I6 s0,I6 s1,I6 s2, .sl false [4,4,4,4,4,4,4] sg, .sl false [4,4,4] mk]])) (R6 ((sg.length:Int)-1)/\∀x1,x1=(sg.length:Int)-1->Bb (i==x1) (K .ret ([.ce (.ptr 1000002 0), .ce (I6 i), .ce (I6 (ec l i.toNat 3))],[[I6 s0,I6 s1,I6 s2, .sl false [4,4,4,4,4,4,4] sg, .sl false [4,4,4] mk]])) (R6 (p-ec l i.toNat 3)/\∀x2,x2=p-ec l i.toNat 3->R6 (i+1)/\∀x3,x3=i+1->K .normal ([.ce (I6 x2), .ce (.ptr 1000002 0), .ce (I6 z), .ce (I6 y), .ce (.sl false [4,4,4,4,4,4,4] l), .ce (I6 n), .ce (I6 x3)],[[I6 s0,I6 s1,I6 s2, .sl false [4,4,4,4,4,4,4] sg, .sl false [4,4,4] mk]])))) (K (.exit 0) ([.ce (.ptr 1000002 0), .ce (I6 z), .ce (I6 y)],[[I6 s0,I6 s1,I6 s2, .sl false [4,4,4,4,4,4,4] sg, .sl false [4,4,4] mk]]))):=by kernel_rfl
theorem vcPFind(s0 s1 s2 p:Int)(sg mk:LL)(Q:Res->Prop):(nfun true CPFind Tryz.f118 (bodyOf Tryz.f118) [.agg [I6 s0,I6 s1,I6 s2, .sl false [4,4,4,4,4,4,4] sg, .sl false [4,4,4] mk], .ce (I6 p)] [] Q)=(∀x1,x1=max p 0->((sg.length:Int)=(sg.length:Int)/\(0:Int)=0/\(0<=x1/\x1<=4611686018427387904)/\sg=sg/\okLen sg)/\(sg.length=0->Q ⟨.tup [.ce (I6 (-1)), .ce (I6 0)],false,[],[]⟩)/\((0:Nat)<sg.length->Q ⟨.tup [.ce (I6 (pfind sg x1).1), .ce (I6 (pfind sg x1).2)],false,[],[]⟩)):=by kernel_rfl
def SBegin(hA:List HV)(pA:List (List HC)):SR:=match hA,pA with
 |[.agg [.int .i64 s0, .int .i64 s1, .int .i64 s2, .sl false [4,4,4,4,4,4,4] sg, .sl false [4,4,4] mk], .ce (.int .i64 i)],[]=> .det (i<=sg.length/\sg.length<=1073741824) ⟨.agg [I6 (bgn s0 sg 0 i),I6 (bgn s1 sg 1 i),I6 (bgn s2 sg 2 i)],false,[],[]⟩
 |_,_=> .fail
noncomputable def CBegin:Ctx:=⟨Tryz.prog,gam [],Tryz.f94.ntmps,[],[]⟩
theorem vcBegin(s0 s1 s2 i:Int)(sg mk:LL)(Q:Res->Prop):(nfun true CBegin Tryz.f94 (bodyOf Tryz.f94) [.agg [I6 s0,I6 s1,I6 s2, .sl false [4,4,4,4,4,4,4] sg, .sl false [4,4,4] mk], .ce (I6 i)] [] Q)=(Br (i<=0) (Q ⟨.agg [I6 s0,I6 s1,I6 s2],false,[],[]⟩) (R6 (i-1)/\∀x1,x1=i-1->(0<=x1/\x1<(sg.length:Int))/\Q ⟨.agg [I6 (el sg x1.toNat),I6 (ec sg x1.toNat 1),I6 (ec sg x1.toNat 2)],false,[],[]⟩)):=by kernel_rfl
def SRnd(hA:List HV)(pA:List (List HC)):SR:=match hA,pA with
 |[.ce (.int .i64 a), .ce (.int .i64 b)],[]=> .det (-2305843009213693952<=a/\a<=2305843009213693952/\0<b/\b<=2305843009213693952) ⟨.ce (I6 (rnd a b)),false,[],[]⟩
 |_,_=> .fail
noncomputable def CRnd:Ctx:=⟨Tryz.prog,gam [],Tryz.f87.ntmps,[],[]⟩
theorem vcRnd(a b:Int)(Q:Res->Prop):(nfun true CRnd Tryz.f87 (bodyOf Tryz.f87) [.ce (I6 a), .ce (I6 b)] [] Q)=(R6 (2*a)/\∀x1,x1=2*a->R6 (x1+b)/\∀x2,x2=x1+b->R6 (2*b)/\∀x3,x3=2*b->x3≠0/\R6 (Int.tdiv x2 x3)/\∀x4,x4=Int.tdiv x2 x3->x3≠0/\∀x5,x5=Int.tmod x2 x3->Br (x5<0) (R6 (x4-1)/\∀x6,x6=x4-1->Q ⟨.ce (I6 x6),false,[],[]⟩) (Q ⟨.ce (I6 x4),false,[],[]⟩)):=by kernel_rfl
end Go.Proofs.YthkoabbiiadbjaaGreat
namespace U
theorem plen_append(a b:LL):plen (a++b)=plen a+plen b:=by
 induction a with
 |nil=>simp[plen]
 |cons r a ih=>simp only[List.cons_append,plen,ih];omega
theorem take_next{α:Type}(l:List α){k:Nat}(hk:k<l.length)(d:α):l.take (k+1)=l.take k++[l.getD k d]:=by
 rw[List.take_add_one,List.getElem?_eq_getElem hk];simp[List.getD_eq_getElem?_getD,hk]
theorem drop_next{α:Type}(l:List α){k:Nat}(hk:k<l.length)(d:α):l.drop k=l.getD k d::l.drop (k+1):=by
 rw[List.drop_eq_getElem_cons hk];simp[List.getD_eq_getElem?_getD,hk]
theorem plen_next(l:LL){k:Nat}(hk:k<l.length):plen (l.take (k+1))=plen (l.take k)+ec l k 3:=by
 rw[take_next l hk [],plen_append];simp[plen,ec]
theorem plen_bd{l:LL}(h:okLen l):∀k,k<=l.length->(k:Int)<=plen (l.take k)/\plen (l.take k)<=4294967296*(k:Int):=by
 intro k;induction k with
 |zero=>intro _;simp[plen]
 |succ k ih=>
  intro hk;have h1:=ih (by omega);have h2:=h.2 k (by omega);rw[plen_next l (by omega)];omega
theorem plen_le{l:LL}(h:okLen l):0<=plen l/\plen l<=4503599627370496:=by
 have h1:=plen_bd h l.length (Nat.le_refl _);rw[List.take_length]at h1;have:=h.1;omega
theorem lfA_cons{l:LL}{k:Nat}(hk:k<l.length)(i s:Int):lfA (l.drop k) i s=if s<ec l k 3 then(i,s)else lfA (l.drop (k+1)) (i+1) (s-ec l k 3):=by
 rw[drop_next l hk []];rfl
end U
namespace Go.Proofs.YthkoabbiiadbjaaGreat
open Go Go.HL U
attribute [local irreducible] hfun bodyT fragT
theorem loopPLen:∀v Q,(LLen v).wp Q->hloop CPLen anLen (nthLoop Tryz.f23 0) v Q:=by
 intro v Q h;unfold LLen at h;split at h;case h_2=>exact h.elim
 rename_i z t l n i s0 s1 s2 sg mk;obtain⟨⟨hn,hi,ht,hl⟩,hq⟩:=h;subst hn hi ht;refine hloop_rec (σ:=Nat) (fun k=>([.ce (.ptr 1000001 0), .ce (I6 z), .ce (I6 (plen (l.take k))), .ce (.sl false [4,4,4,4,4,4,4] l), .ce (I6 (l.length:Int)), .ce (I6 (k:Int))],[[I6 s0,I6 s1,I6 s2, .sl false [4,4,4,4,4,4,4] sg, .sl false [4,4,4] mk]])) (fun k=>l.length-k) (fun k=>k<=l.length) ?_ 0 (Nat.zero_le _);intro k hk K hn hx _;have hb:=plen_bd hl k hk;have hl1:=hl.1;refine byVB (vbPLen s0 s1 s2 z (plen (l.take k)) l.length k sg mk l K) ⟨fun g=> ?_,fun g=> ?_⟩
 . have g:=odt g;have hkl:k<l.length:=by omega
   have h2:=hl.2 k hkl;have ht:Int.toNat (k:Int)=k:=rfl;rw[ht];refine⟨by omega,by omega,fun x1 e1=>⟨by omega,fun x2 e2=> ?_⟩⟩;have:=hn (k+1) hkl (by omega);rw[plen_next l hkl]at this;rw[e1,e2];exact this
 . have g:=odf g;have hkl:k=l.length:=by omega
   have:=hx 0 _ hq;rw[hkl,List.take_length];exact this
theorem sPLen:Sound Tryz.prog 23 SPLen:=by
 refine sound_of (C:=CPLen) [] Tryz.func23 (by kernel_rfl) (by decide+kernel) (by kernel_rfl) rfl trivial (loops1 (by kernel_rfl) (loopOK_of (an:=anLen) (S:=LLen) (by kernel_rfl) loopPLen)) ?_;intro hA pA R h;unfold SPLen at h;split at h;case h_2=>exfalso;exact h
 rename_i s0 s1 s2 sg mk;exact byVC (vcPLen s0 s1 s2 sg mk R) ⟨⟨rfl,rfl,rfl,h.1⟩,h.2⟩
theorem loopPFind:∀v Q,(LPF v).wp Q->hloop CPFind anPF (nthLoop Tryz.f118 0) v Q:=by
 intro v Q h;unfold LPF at h;split at h;case h_2=>exact h.elim
 rename_i p z y l n i s0 s1 s2 sg mk;obtain⟨⟨hn,hi,⟨hp,hpu⟩,hls,hl⟩,hq0,hq1⟩:=h;subst hn hi hls;refine hloop_rec (σ:=Nat×Int) (fun s=>([.ce (I6 s.2), .ce (.ptr 1000002 0), .ce (I6 z), .ce (I6 y), .ce (.sl false [4,4,4,4,4,4,4] l), .ce (I6 (l.length:Int)), .ce (I6 (s.1:Int))],[[I6 s0,I6 s1,I6 s2, .sl false [4,4,4,4,4,4,4] l, .sl false [4,4,4] mk]])) (fun s=>l.length-s.1) (fun s=>s.1<=l.length/\(s.1=l.length->s.1=0)/\0<=s.2/\s.2<=p/\lfA l 0 p=lfA (l.drop s.1) s.1 s.2) ?_ (0,p) ⟨Nat.zero_le _,fun _=>rfl,hp,Int.le_refl _,by simp⟩;rintro⟨k,p'⟩⟨hk,hk0,hp',hpp,he⟩K hn hx hr;dsimp only at hk hk0 hp' hpp he hn⊢;have hl1:=hl.1;have hl1:=hl.1;have fnd:∀x:Int×Int,0<=x.1->lfA l 0 p=x->0<l.length->pfind l p=x:=by
  intro x h0 hx hlen;unfold pfind;rw[if_neg (by omega),show max p 0=p by omega,hx,if_pos h0]
 have lst:lfA l 0 p=(-1,0)->0<l.length->pfind l p=((l.length:Int)-1,ec l (l.length-1) 3):=by
  intro hx hlen;unfold pfind;rw[if_neg (by omega),show max p 0=p by omega,hx,if_neg (by decide)]
 have ht:Int.toNat (k:Int)=k:=rfl;refine byVB (vbPFind s0 s1 s2 p' z y l.length k l mk l K) ⟨fun g=> ?_,fun g=> ?_⟩
 . have g:=odt g;have hkl:k<l.length:=by omega
   have hh:=hl.2 k hkl;rw[ht];rw[lfA_cons hkl]at he;refine⟨by omega,fun g2=> ?_,fun g2=>⟨by omega,fun x1 e1=>⟨fun g3=> ?_,fun g3=> ?_⟩⟩⟩
   . have g2:=odt g2;rw[if_pos g2]at he;have e:=fnd _ (by dsimp only;omega) he (by omega);have:=hr _ (hq1 (by omega));rw[e]at this;exact this
   . have g2:=odf g2;have g3:(k:Int)=x1:=by simpa using g3
     rw[if_neg g2,List.drop_eq_nil_of_le (by omega)]at he;have e:=lst he (by omega);have:=hr _ (hq1 (by omega));rw[e]at this;rw[show(l.length:Int)-1=(k:Int)by omega,show l.length-1=k by omega]at this;exact this
   . have g2:=odf g2;have g3:¬(k:Int)=x1:=by simpa using g3
     rw[if_neg g2]at he;refine⟨by omega,fun x2 e2=>⟨by omega,fun x3 e3=> ?_⟩⟩;subst e2 e3;exact hn (k+1,p'-ec l k 3) ⟨hkl,fun e=>by dsimp only at e;omega,by dsimp only;omega,by dsimp only;omega,he⟩ (by dsimp only;omega)
 . have g:=odf g;have h0:=hk0 (by omega);exact hx 0 _ (hq0 (by omega))
theorem sPFind:Sound Tryz.prog 118 SPFind:=by
 refine sound_of (C:=CPFind) [] Tryz.func118 (by kernel_rfl) (by decide+kernel) (by kernel_rfl) rfl trivial (loops1 (by kernel_rfl) (loopOK_of (an:=anPF) (S:=LPF) (by kernel_rfl) loopPFind)) ?_;intro hA pA R h;unfold SPFind at h;split at h;case h_2=>exfalso;exact h
 rename_i s0 s1 s2 sg mk p;obtain⟨⟨hl,hpu⟩,_,hq⟩:=h;refine byVC (vcPFind s0 s1 s2 p sg mk R) (fun x1 e1=>⟨⟨rfl,rfl,⟨by omega,by omega⟩,rfl,hl⟩,fun h0=> ?_,fun h0=> ?_⟩)
 . have e:pfind sg p=(-1,0):=by unfold pfind;rw[if_pos h0]
   have:=hq _ rfl;rw[e]at this;exact this
 . have e:pfind sg x1=pfind sg p:=by unfold pfind;rw[e1,show max (max p 0) 0=max p 0 by omega]
   rw[e];exact hq _ rfl
theorem sBegin:Sound Tryz.prog 94 SBegin:=by
 refine sound_of (C:=CBegin) [] Tryz.func94 (by kernel_rfl) (by decide+kernel) (by kernel_rfl) rfl trivial (loops0 (by kernel_rfl)) ?_;intro hA pA R h;unfold SBegin at h;split at h;case h_2=>exfalso;exact h
 rename_i s0 s1 s2 sg mk i;obtain⟨⟨h1,h2⟩,hq⟩:=h;refine byVC (vcBegin s0 s1 s2 i sg mk R) ⟨fun g=> ?_,fun g=> ?_⟩
 . have g:=odt g;unfold bgn at hq;rw[if_pos g,if_pos g,if_pos g]at hq;exact hq
 . have g:=odf g;unfold bgn at hq;rw[if_neg g,if_neg g,if_neg g]at hq;refine⟨by omega,fun x1 e1=>⟨by omega,?_⟩⟩;rw[e1];exact hq
theorem sRnd:Sound Tryz.prog 87 SRnd:=by
 refine sound_of (C:=CRnd) [] Tryz.func87 (by kernel_rfl) (by decide+kernel) (by kernel_rfl) rfl trivial (loops0 (by kernel_rfl)) ?_;intro hA pA R h;unfold SRnd at h;split at h;case h_2=>exfalso;exact h
 rename_i a b;obtain⟨⟨h1,h2,h3,h4⟩,hq⟩:=h;refine byVC (vcRnd a b R) ⟨by omega,fun x1 e1=>⟨by omega,fun x2 e2=>⟨by omega,fun x3 e3=> ?_⟩⟩⟩;have hq:R ⟨.ce (I6 (x2/x3)),false,[],[]⟩:=by rw[e2,e1,e3];exact hq
 exact floor_fin (by omega) (by omega) hq
end Go.Proofs.YthkoabbiiadbjaaGreat
namespace U
open Go
def pm(x:Int):Prop:=x=1∨x= -1
def sq3(a0 a1 a2 b0 b1 b2:Int):Int:=(a0-b0)*(a0-b0)+(a1-b1)*(a1-b1)+(a2-b2)*(a2-b2)
def rootOK(n q b:Int):Prop:=(0<=n/\n<=1152921504606846976)/\(0<=q/\q<=2147483648)/\q*q<=n/\((b=0/\n<(q+1)*(q+1))∨∃k:Nat,k<=30/\b=2^k/\n<(q+2*b)*(q+2*b))
def b3(B a0 a1 a2:Int):Prop:=(-B<=a0/\a0<=B)/\(-B<=a1/\a1<=B)/\(-B<=a2/\a2<=B)
def isLen(a0 a1 a2 b0 b1 b2 l:Int):Prop:=(-l<=a0-b0/\a0-b0<=l)/\(-l<=a1-b1/\a1-b1<=l)/\(-l<=a2-b2/\a2-b2<=l)/\∀D,0<=D->b3 D (a0-b0) (a1-b1) (a2-b2)->l<=2*D
end U
namespace Go.Proofs.YthkoabbiiadbjaaGreat
open Go Go.HL U
def SFine(hA:List HV)(pA:List (List HC)):SR:=match hA,pA with
 |[.agg [.int .i64 p0, .int .i64 p1, .int .i64 p2]],[]=> .det (b3 1073741824 p0 p1 p2) ⟨.agg [I6 (p0*16),I6 (p1*16),I6 (p2*16)],false,[],[]⟩
 |_,_=> .fail
noncomputable def CFine:Ctx:=⟨Tryz.prog,gam [],Tryz.f47.ntmps,[],[]⟩
theorem vcFine(p0 p1 p2:Int)(Q:Res->Prop):(nfun true CFine Tryz.f47 (bodyOf Tryz.f47) [.agg [I6 p0,I6 p1,I6 p2]] [] Q)=(R6 (p0*16)/\∀x1,x1=p0*16->R6 (p1*16)/\∀x2,x2=p1*16->R6 (p2*16)/\∀x3,x3=p2*16->Q ⟨.agg [I6 x1,I6 x2,I6 x3],false,[],[]⟩):=by kernel_rfl
def SSquare(hA:List HV)(pA:List (List HC)):SR:=match hA,pA with
 |[.agg [.int .i64 a0, .int .i64 a1, .int .i64 a2], .agg [.int .i64 c0, .int .i64 c1, .int .i64 c2]],[]=> .det (b3 268435456 a0 a1 a2/\b3 268435456 c0 c1 c2) ⟨.ce (I6 (sq3 a0 a1 a2 c0 c1 c2)),false,[],[]⟩
 |_,_=> .fail
noncomputable def CSquare:Ctx:=⟨Tryz.prog,gam [],Tryz.f92.ntmps,[(4000003,⟨[],[5],[1000002,1000003],true⟩,fun _=> .fail)],[]⟩
theorem vcSquare(a0 a1 a2 c0 c1 c2:Int)(Q:Res->Prop):(nfun true CSquare Tryz.f92 (bodyOf Tryz.f92) [.agg [I6 a0,I6 a1,I6 a2], .agg [I6 c0,I6 c1,I6 c2]] [] Q)=(R6 (a0-c0)/\∀x1,x1=a0-c0->R6 (a0-c0)/\∀x2,x2=a0-c0->R6 (x1*x2)/\∀x3,x3=x1*x2->(-9223372036854775808<=0+x3/\(0:Int)+x3<=9223372036854775807)/\∀x4,x4=0+x3->R6 (a1-c1)/\∀x5,x5=a1-c1->R6 (a1-c1)/\∀x6,x6=a1-c1->R6 (x5*x6)/\∀x7,x7=x5*x6->R6 (x4+x7)/\∀x8,x8=x4+x7->R6 (a2-c2)/\∀x9,x9=a2-c2->(-9223372036854775808<=a2-c2/\a2-c2<=9223372036854775807)/\∀x10,x10=a2-c2->R6 (x9*x10)/\∀x11,x11=x9*x10->R6 (x8+x11)/\∀x12,x12=x8+x11->Q ⟨.ce (I6 x12),false,[],[]⟩):=by kernel_rfl
def SRoot(hA:List HV)(pA:List (List HC)):SR:=match hA,pA with
 |[.ce (.int .i64 n)],[]=> .all (0<=n/\n<=1152921504606846976) Int (fun q=>0<=q/\q*q<=n/\n<(q+1)*(q+1)) (fun q=>⟨.ce (I6 q),false,[],[]⟩)
 |_,_=> .fail
def anRoot:LAnn:=⟨[0,2,3,4],[2,3],[],false⟩
def LRoot(v:LV):LR:=match v with
 |([.ce (.int .i64 n), .ce (.int .i64 z), .ce (.int .i64 q), .ce (.int .i64 b)],[])=> .all (rootOK n q b) Int (fun x=>0<=x/\x*x<=n/\n<(x+1)*(x+1)) (fun _=> .exit 0) (fun x=>([.ce (I6 z), .ce (I6 x)],[]))
 |_=> .fail
noncomputable def CRoot:Ctx:=⟨Tryz.prog,gam [],Tryz.f93.ntmps,[(3,anRoot,LRoot)],[]⟩
theorem vbRoot(n z q b:Int)(K:HEx->LV->Prop):(nbodyT true CRoot anRoot (nthLoop Tryz.f93 0) (([.ce (I6 n), .ce (I6 z), .ce (I6 q), .ce (I6 b)],[])) K)=(Br (b>0) (R6 (q+b)/\∀x1,x1=q+b->R6 (q+b)/\∀x2,x2=q+b->R6 (x1*x2)/\∀x3,x3=x1*x2->Br (x3<=n) (R6 (q+b)/\∀x4,x4=q+b->(0:Int)<=1/\∀x5,x5=b/2->K .normal ([.ce (I6 n), .ce (I6 z), .ce (I6 x4), .ce (I6 x5)],[])) ((0:Int)<=1/\∀x6,x6=b/2->K .normal ([.ce (I6 n), .ce (I6 z), .ce (I6 q), .ce (I6 x6)],[]))) (K (.exit 0) ([.ce (I6 z), .ce (I6 q)],[]))):=by kernel_rfl
theorem vcRoot(n:Int)(Q:Res->Prop):(nfun true CRoot Tryz.f93 (bodyOf Tryz.f93) [.ce (I6 n)] [] Q)=(rootOK n (0:Int) (1073741824:Int)/\∀(x:Int),0<=x/\x*x<=n/\n<(x+1)*(x+1)->Q ⟨.ce (I6 x),false,[],[]⟩):=by kernel_rfl
def SLength(hA:List HV)(pA:List (List HC)):SR:=match hA,pA with
 |[.agg [.int .i64 a0, .int .i64 a1, .int .i64 a2], .agg [.int .i64 c0, .int .i64 c1, .int .i64 c2]],[]=> .all (b3 268435456 a0 a1 a2/\b3 268435456 c0 c1 c2) Int (isLen a0 a1 a2 c0 c1 c2) (fun x=>⟨.ce (I6 x),false,[],[]⟩)
 |_,_=> .fail
def tabLength:List (FuncId×HL.Spec):=[(92,SSquare),(93,SRoot)]
noncomputable def CLength:Ctx:=⟨Tryz.prog,gam tabLength,Tryz.f51.ntmps,[],[]⟩
theorem vcLength(a0 a1 a2 c0 c1 c2:Int)(Q:Res->Prop):(nfun true CLength Tryz.f51 (bodyOf Tryz.f51) [.agg [I6 a0,I6 a1,I6 a2], .agg [I6 c0,I6 c1,I6 c2]] [] Q)=((b3 268435456 a0 a1 a2/\b3 268435456 c0 c1 c2)/\∀x1,x1=sq3 a0 a1 a2 c0 c1 c2->(0<=x1/\x1<=1152921504606846976)/\(∃(x:Int),0<=x/\x*x<=x1/\x1<(x+1)*(x+1))/\∀(x:Int),0<=x/\x*x<=x1/\x1<(x+1)*(x+1)->R6 (x*x)/\∀x3,x3=x*x->Br (x3<x1) (R6 (x+1)/\∀x4,x4=x+1->Q ⟨.ce (I6 x4),false,[],[]⟩) (Q ⟨.ce (I6 x),false,[],[]⟩)):=by kernel_rfl
def SSmall(hA:List HV)(pA:List (List HC)):SR:=match hA,pA with
 |[.agg [.int .i64 p0, .int .i64 p1, .int .i64 p2], .ce (.int .i64 m)],[]=> .det (0<=m/\m<=1073741824/\b3 m p0 p1 p2) ⟨.ce (.bool true),false,[],[]⟩
 |_,_=> .fail
noncomputable def CSmall:Ctx:=⟨Tryz.prog,gam [],Tryz.f149.ntmps,[(4000002,⟨[],[4],[1000002],true⟩,fun _=> .fail)],[]⟩
theorem vcSmall(p0 p1 p2 m:Int)(Q:Res->Prop):(nfun true CSmall Tryz.f149 (bodyOf Tryz.f149) [.agg [I6 p0,I6 p1,I6 p2], .ce (I6 m)] [] Q)=(R6 (0-m)/\∀x1,x1=0-m->Br (p0<x1) (Q ⟨.ce (.bool false),false,[],[]⟩) (Br (p0>m) (Q ⟨.ce (.bool false),false,[],[]⟩) (R6 (0-m)/\∀x2,x2=0-m->Br (p1<x2) (Q ⟨.ce (.bool false),false,[],[]⟩) (Br (p1>m) (Q ⟨.ce (.bool false),false,[],[]⟩) (R6 (0-m)/\∀x3,x3=0-m->Br (p2<x3) (Q ⟨.ce (.bool false),false,[],[]⟩) (Br (p2>m) (Q ⟨.ce (.bool false),false,[],[]⟩) (Q ⟨.ce (.bool true),false,[],[]⟩))))))):=by kernel_rfl
def SWithin(hA:List HV)(pA:List (List HC)):SR:=match hA,pA with
 |[.agg [.int .i64 p0, .int .i64 p1, .int .i64 p2]],[]=> .det (b3 1048576 p0 p1 p2) ⟨.ce (.bool true),false,[],[]⟩
 |_,_=> .fail
def tabWithin:List (FuncId×HL.Spec):=[(149,SSmall)]
noncomputable def CWithin:Ctx:=⟨Tryz.prog,gam tabWithin,Tryz.f138.ntmps,[],[]⟩
theorem vcWithin(p0 p1 p2:Int)(Q:Res->Prop):(nfun true CWithin Tryz.f138 (bodyOf Tryz.f138) [.agg [I6 p0,I6 p1,I6 p2]] [] Q)=(((0:Int)<=1048576/\(1048576:Int)<=1073741824/\b3 1048576 p0 p1 p2)/\∀(x1:Bool),x1=true->Q ⟨.ce (.bool x1),false,[],[]⟩):=by kernel_rfl
end Go.Proofs.YthkoabbiiadbjaaGreat
namespace U
theorem isqrt_ex(n:Nat):∃q:Nat,q*q<=n/\n<(q+1)*(q+1):=by
 induction n with
 |zero=>exact⟨0,by decide,by decide⟩
 |succ n ih=>
  obtain⟨q,h1,h2⟩:=ih;by_cases h:(q+1)*(q+1)<=n+1
  . refine⟨q+1,h,?_⟩;have:(q+1+1)*(q+1+1)=(q+1)*(q+1)+2*q+3:=by grind
    omega
  . exact⟨q,by omega,by omega⟩
theorem isqrt_exI{n:Int}(h:0<=n):∃q:Int,0<=q/\q*q<=n/\n<(q+1)*(q+1):=by
 obtain⟨m,rfl⟩:=Int.eq_ofNat_of_zero_le h;obtain⟨q,h1,h2⟩:=isqrt_ex m;refine⟨(q:Int),Int.natCast_nonneg _,?_,?_⟩
 . have:=Int.ofNat_le.mpr h1;simpa using this
 . have:=Int.ofNat_lt.mpr h2;simpa using this
theorem sq_lt{a b:Int}(ha:0<=a)(hb:0<=b)(h:a*a<b*b):a<b:=by
 rcases Int.lt_or_le a b with h1|h1
 . exact h1
 . have:=Int.mul_le_mul h1 h1 hb ha;omega
theorem sq_le{a b:Int}(ha:0<=a)(hb:0<=b)(h:a*a<=b*b):a<=b:=by
 rcases Int.lt_or_le b a with h1|h1
 . have:=Int.mul_le_mul (Int.le_of_lt h1) (Int.le_of_lt h1) hb ha;have h2:b*b<a*a:=Int.lt_of_le_of_lt (Int.mul_le_mul_of_nonneg_right (Int.le_of_lt h1) hb) (Int.mul_lt_mul_of_pos_left h1 (by omega));omega
 . exact h1
theorem sq_nonneg(a:Int):0<=a*a:=by
 rcases Int.lt_or_le a 0 with h|h
 . have:=Int.mul_nonneg (a:= -a) (b:= -a) (by omega) (by omega);rwa[Int.neg_mul_neg]at this
 . exact Int.mul_nonneg h h
theorem sq_bd{a D:Int}(h1: -D<=a)(h2:a<=D):a*a<=D*D:=by
 rcases Int.lt_or_le a 0 with h|h
 . have:=Int.mul_le_mul (show-a<=D by omega) (show-a<=D by omega) (by omega) (by omega);rwa[Int.neg_mul_neg]at this
 . exact Int.mul_le_mul h2 h2 h (by omega)
theorem abs_of_sq{a l:Int}(hl:0<=l)(h:a*a<=l*l): -l<=a/\a<=l:=by
 rcases Int.lt_or_le a 0 with h1|h1
 . have:=sq_le (a:= -a) (b:=l) (by omega) hl (by rwa[Int.neg_mul_neg]);omega
 . have:=sq_le h1 hl h;omega
theorem isLen_of{a0 a1 a2 b0 b1 b2 l:Int}(h0:0<=l)(h1:sq3 a0 a1 a2 b0 b1 b2<=l*l)(h2:l=0∨(l-1)*(l-1)<sq3 a0 a1 a2 b0 b1 b2):isLen a0 a1 a2 b0 b1 b2 l:=by
 unfold sq3 at h1 h2;have n0:=sq_nonneg (a0-b0);have n1:=sq_nonneg (a1-b1);have n2:=sq_nonneg (a2-b2);refine⟨abs_of_sq h0 (by omega),abs_of_sq h0 (by omega),abs_of_sq h0 (by omega),?_⟩;rintro D hD⟨⟨d1,d2⟩,⟨d3,d4⟩,⟨d5,d6⟩⟩;have e0:=sq_bd d1 d2;have e1:=sq_bd d3 d4;have e2:=sq_bd d5 d6;have nD:=sq_nonneg D;rcases h2 with h2|h2
 . omega
 . rcases Int.lt_or_le (l-1) 0 with h3|h3
   . omega
   . have:(2*D)*(2*D)=4*(D*D):=by grind
     have:=sq_lt h3 (by omega:0<=2*D) (by omega);omega
theorem sq3_bd{a0 a1 a2 b0 b1 b2:Int}(ha:b3 268435456 a0 a1 a2)(hb:b3 268435456 b0 b1 b2):0<=sq3 a0 a1 a2 b0 b1 b2/\sq3 a0 a1 a2 b0 b1 b2<=864691128455135232:=by
 unfold b3 at ha hb;unfold sq3;have n0:=sq_nonneg (a0-b0);have n1:=sq_nonneg (a1-b1);have n2:=sq_nonneg (a2-b2);have e0:=sq_bd (a:=a0-b0) (D:=536870912) (by omega) (by omega);have e1:=sq_bd (a:=a1-b1) (D:=536870912) (by omega) (by omega);have e2:=sq_bd (a:=a2-b2) (D:=536870912) (by omega) (by omega);omega
end U
namespace Go.Proofs.YthkoabbiiadbjaaGreat
open Go Go.HL U
attribute [local irreducible] hfun bodyT fragT
theorem sFine:Sound Tryz.prog 47 SFine:=by
 refine sound_of (C:=CFine) [] Tryz.func47 (by kernel_rfl) (by decide+kernel) (by kernel_rfl) rfl trivial (loops0 (by kernel_rfl)) ?_;intro hA pA R h;unfold SFine at h;split at h;case h_2=>exfalso;exact h
 rename_i p0 p1 p2;obtain⟨hb,hq⟩:=h;unfold b3 at hb;refine byVC (vcFine p0 p1 p2 R) ⟨by omega,?_⟩;rintro _ rfl;refine⟨by omega,?_⟩;rintro _ rfl;refine⟨by omega,?_⟩;rintro _ rfl;exact hq
theorem sSquare:Sound Tryz.prog 92 SSquare:=by
 refine sound_of (C:=CSquare) [] Tryz.func92 (by kernel_rfl) (by decide+kernel) (by kernel_rfl) rfl trivial (loopsAll (by kernel_rfl)) ?_;intro hA pA R h;unfold SSquare at h;split at h;case h_2=>exfalso;exact h
 rename_i a0 a1 a2 c0 c1 c2;obtain⟨⟨ha,hc⟩,hq⟩:=h;unfold b3 at ha hc;unfold sq3 at hq;have n0:=sq_nonneg (a0-c0);have n1:=sq_nonneg (a1-c1);have n2:=sq_nonneg (a2-c2);have e0:=sq_bd (a:=a0-c0) (D:=536870912) (by omega) (by omega);have e1:=sq_bd (a:=a1-c1) (D:=536870912) (by omega) (by omega);have e2:=sq_bd (a:=a2-c2) (D:=536870912) (by omega) (by omega);refine byVC (vcSquare a0 a1 a2 c0 c1 c2 R) ⟨by omega,?_⟩;rintro _ rfl;refine⟨by omega,?_⟩;rintro _ rfl;refine⟨by omega,?_⟩;rintro _ rfl;refine⟨by omega,?_⟩;rintro _ rfl;refine⟨by omega,?_⟩;rintro _ rfl;refine⟨by omega,?_⟩;rintro _ rfl;refine⟨by omega,?_⟩;rintro _ rfl;refine⟨by omega,?_⟩;rintro _ rfl;refine⟨by omega,?_⟩;rintro _ rfl;refine⟨by omega,?_⟩;rintro _ rfl;refine⟨by omega,?_⟩;rintro _ rfl;refine⟨by omega,?_⟩;rintro _ rfl;rw[Int.zero_add];exact hq
theorem loopRoot:∀v Q,(LRoot v).wp Q->hloop CRoot anRoot (nthLoop Tryz.f93 0) v Q:=by
 intro v Q h;unfold LRoot at h;split at h;case h_2=>exact h.elim
 rename_i n z q b;obtain⟨hI,hq⟩:=h;refine hloop_rec (σ:=Int×Int) (fun s=>([.ce (I6 n), .ce (I6 z), .ce (I6 s.1), .ce (I6 s.2)],[])) (fun s=>s.2.toNat) (fun s=>rootOK n s.1 s.2) ?_ (q,b) hI;rintro⟨q,b⟩hI K hn hx _;dsimp only at hI hn⊢;obtain⟨h1,h2,h3,h4⟩:=hI;refine byVB (vbRoot n z q b K) ⟨fun g=> ?_,fun g=> ?_⟩
 . have g:=odt g;rcases h4 with h4|⟨k,hk,hb,h4⟩
   . omega
   have hkb:(2:Nat)^k<=2^30:=Nat.pow_le_pow_right (by omega) hk;have hb2:b<=1073741824:=by
    rw[hb];have:=Int.ofNat_le.mpr hkb;simpa using this
   have q30:q<=1073741824:=by
    rcases Int.lt_or_le 1073741824 q with hh|hh
    . have:=Int.mul_le_mul (Int.le_of_lt hh) (Int.le_of_lt hh) (by omega) (by omega);have h5:1073741824*q<q*q:=Int.mul_lt_mul_of_pos_right hh (by omega);omega
    . exact hh
   have hqb:=sq_bd (a:=q+b) (D:=2147483648) (by omega) (by omega);have nn:=sq_nonneg (q+b);have next:∀q':Int,0<=q'->q'<=2147483648->q'*q'<=n->n<(q'+b)*(q'+b)->rootOK n q' (b/2):=by
    intro q' a1 a2 a3 a4;refine⟨h1,⟨a1,a2⟩,a3,?_⟩;cases k with
    |zero=>
     left;have:b=1:=by rw[hb];rfl
     subst this;exact⟨by decide,a4⟩
    |succ k=>
     right;have hb':b=2*2^k:=by rw[hb,Int.pow_succ,Int.mul_comm]
     have e:b/2=2^k:=by rw[hb',Int.mul_ediv_cancel_left _ (by decide)]
     refine⟨k,by omega,e,?_⟩;rw[e,<-hb'];exact a4
   refine⟨by omega,?_⟩;rintro _ rfl;refine⟨by omega,?_⟩;rintro _ rfl;refine⟨by omega,fun x3 e3=>⟨fun g2=> ?_,fun g2=> ?_⟩⟩
   . have g2:=odt g2;refine⟨by omega,?_⟩;rintro _ rfl;refine⟨by omega,?_⟩;rintro _ rfl;refine hn (q+b,b/2) (next (q+b) (by omega) (by omega) (by omega) ?_) (by dsimp only;omega);rw[show q+b+b=q+2*b by omega];exact h4
   . have g2:=odf g2;refine⟨by omega,?_⟩;rintro _ rfl;exact hn (q,b/2) (next q (by omega) (by omega) h3 (by omega)) (by dsimp only;omega)
 . have g:=odf g;rcases h4 with h4|⟨k,hk,hb,h4⟩
   . exact hx _ _ (hq q ⟨h2.1,h3,h4.2⟩)
   . have:0<b:=by rw[hb];exact Int.pow_pos (by decide)
     omega
theorem sRoot:Sound Tryz.prog 93 SRoot:=by
 refine sound_of (C:=CRoot) [] Tryz.func93 (by kernel_rfl) (by decide+kernel) (by kernel_rfl) rfl trivial (loops1 (by kernel_rfl) (loopOK_of (an:=anRoot) (S:=LRoot) (by kernel_rfl) loopRoot)) ?_;intro hA pA R h;unfold SRoot at h;split at h;case h_2=>exfalso;exact h
 rename_i n;obtain⟨hn,_,hq⟩:=h;exact byVC (vcRoot n R) ⟨⟨hn,by decide,by omega, .inr ⟨30,by decide,by decide,by omega⟩⟩,fun x hx=>hq x hx⟩
theorem sLength:Sound Tryz.prog 51 SLength:=by
 refine sound_of (C:=CLength) tabLength Tryz.func51 (by kernel_rfl) (by decide+kernel) (by kernel_rfl) rfl ⟨sSquare,sRoot,trivial⟩ (loops0 (by kernel_rfl)) ?_;intro hA pA R h;unfold SLength at h;split at h;case h_2=>exfalso;exact h
 rename_i a0 a1 a2 c0 c1 c2;obtain⟨⟨ha,hc⟩,_,hq⟩:=h;refine byVC (vcLength a0 a1 a2 c0 c1 c2 R) ⟨⟨ha,hc⟩,fun x1 e1=> ?_⟩;have bd:=sq3_bd ha hc;rw[<-e1]at bd;refine⟨by omega,isqrt_exI bd.1,fun x hx=> ?_⟩;obtain⟨hx0,hx1,hx2⟩:=hx;have xx:=sq_nonneg x;refine⟨by omega,fun x3 e3=>⟨fun g=> ?_,fun g=> ?_⟩⟩
 . have g:=odt g;have:x<=1073741824:=sq_le hx0 (by decide) (by omega);refine⟨by omega,?_⟩;rintro _ rfl;refine hq _ (isLen_of (by omega) (by omega) (.inr ?_));rw[Int.add_sub_cancel];omega
 . have g:=odf g;refine hq _ (isLen_of hx0 (by omega) ?_);rcases Int.lt_or_le 0 x with h1|h1
   . right;have:(x-1)*(x-1)=x*x-2*x+1:=by grind
     omega
   . left;omega
theorem sSmall:Sound Tryz.prog 149 SSmall:=by
 refine sound_of (C:=CSmall) [] Tryz.func149 (by kernel_rfl) (by decide+kernel) (by kernel_rfl) rfl trivial (loopsAll (by kernel_rfl)) ?_;intro hA pA R h;unfold SSmall at h;split at h;case h_2=>exfalso;exact h
 rename_i p0 p1 p2 m;obtain⟨⟨hm0,hm1,hb⟩,hq⟩:=h;unfold b3 at hb;have no:∀{c:Prop} [Decidable c],¬c->decide c=true->False:=fun h e=>h (odt e);refine byVC (vcSmall p0 p1 p2 m R) ⟨by omega,fun x1 e1=>⟨fun g=>(no (by omega) g).elim,fun _=>⟨fun g=>(no (by omega) g).elim,fun _=>⟨by omega,fun x2 e2=>⟨fun g=>(no (by omega) g).elim,fun _=>⟨fun g=>(no (by omega) g).elim,fun _=>⟨by omega,fun x3 e3=>⟨fun g=>(no (by omega) g).elim,fun _=>⟨fun g=>(no (by omega) g).elim,fun _=>hq⟩⟩⟩⟩⟩⟩⟩⟩⟩
theorem sWithin:Sound Tryz.prog 138 SWithin:=by
 refine sound_of (C:=CWithin) tabWithin Tryz.func138 (by kernel_rfl) (by decide+kernel) (by kernel_rfl) rfl ⟨sSmall,trivial⟩ (loops0 (by kernel_rfl)) ?_;intro hA pA R h;unfold SWithin at h;split at h;case h_2=>exfalso;exact h
 rename_i p0 p1 p2;obtain⟨hb,hq⟩:=h;refine byVC (vcWithin p0 p1 p2 R) ⟨⟨by decide,by decide,hb⟩,?_⟩;rintro _ rfl;exact hq
end Go.Proofs.YthkoabbiiadbjaaGreat
namespace U
open Go
def ptsOK(B:Int)(l:List (List Int)):Prop:=∀j,j<l.length->b3 B (ec l j 0) (ec l j 1) (ec l j 2)
theorem isLen_ex(a0 a1 a2 b0 b1 b2:Int):∃l,isLen a0 a1 a2 b0 b1 b2 l:=by
 have h0:0<=sq3 a0 a1 a2 b0 b1 b2:=by
  unfold sq3;have:=sq_nonneg (a0-b0);have:=sq_nonneg (a1-b1);have:=sq_nonneg (a2-b2);omega
 obtain⟨x,hx0,hx1,hx2⟩:=isqrt_exI h0;rcases Int.lt_or_le (x*x) (sq3 a0 a1 a2 b0 b1 b2)with g|g
 . exact⟨x+1,isLen_of (by omega) (by omega) (.inr (by rw[Int.add_sub_cancel];exact g))⟩
 . refine⟨x,isLen_of hx0 g ?_⟩;rcases Int.lt_or_le 0 x with h1|h1
   . right;have:(x-1)*(x-1)=x*x-2*x+1:=by grind
     omega
   . left;omega
theorem b3_mono{B C a0 a1 a2:Int}(h:B<=C)(hb:b3 B a0 a1 a2):b3 C a0 a1 a2:=by unfold b3 at*;omega
theorem ptsOK_app{B:Int}{l:List (List Int)}{x y z:Int}(h:ptsOK B l)(hb:b3 B x y z):ptsOK B (l++[[x,y,z]]):=by
 intro j hj;by_cases hjl:j<l.length
 . have e:(l++[[x,y,z]]).getD j []=l.getD j []:=by
    rw[List.getD_eq_getElem?_getD,List.getElem?_append_left hjl,<-List.getD_eq_getElem?_getD]
   have:=h j hjl;unfold ec at this⊢;rw[e];exact this
 . have hj2:j=l.length:=by simp at hj;omega
   subst hj2;unfold ec;have e:(l++[[x,y,z]]).getD l.length []=[x,y,z]:=by simp[List.getD_eq_getElem?_getD]
   rw[e];exact hb
theorem ptsOK_nil{B:Int}:ptsOK B []:=fun j hj=>absurd hj (Nat.not_lt_zero _)
def lim(n:Nat):LL:=if n=0 then[]else[((n%65536:Nat):Int)]::lim (n/65536)
termination_by n
decreasing_by omega
def dv:LL->Nat
 |[]=>0
 |r::l=>(r.getD 0 0).toNat+65536*dv l
def dg(l:LL):Prop:=∀r∈l,∃d:Int,r=[d]/\0<=d/\d<65536
def cmp3(x y:Nat):Int:=if x<y then-1 else if x=y then 0 else 1
end U
namespace Go.Proofs.YthkoabbiiadbjaaGreat
open Go Go.HL U
def SLimbs(hA:List HV)(pA:List (List HC)):SR:=match hA,pA with
 |[.ce (.int .u64 n)],[]=> .det (0<=n/\n<18446744073709551616) ⟨.ce (.sl false [8] (lim n.toNat)),true,[],[]⟩
 |_,_=> .fail
def anLimbs:LAnn:=⟨[0,3,100003],[3,100003],[],false⟩
def LLimbs(v:LV):LR:=match v with
 |([.ce (.int .u64 n), .ce (.sl false [8] acc), .ce (.lit true)],[])=> .det (acc.length=0/\0<=n/\n<18446744073709551616) (.exit 0) ([.ce (.sl false [8] (lim n.toNat)), .ce (.lit true)],[])
 |_=> .fail
noncomputable def CLimbs:Ctx:=⟨Tryz.prog,gam [],Tryz.f122.ntmps,[(2,anLimbs,LLimbs)],[]⟩
theorem vcLimbs(n:Int)(Q:Res->Prop):(nfun true CLimbs Tryz.f122 (bodyOf Tryz.f122) [.ce (.int .u64 n)] [] Q)=(((0:Nat)=0/\0<=n/\n<18446744073709551616)/\Q ⟨.ce (.sl false [8] (lim n.toNat)),true,[],[]⟩):=by kernel_rfl
theorem vbLimbs(n:Int)(acc:LL)(K:HEx->LV->Prop):(nbodyT true CLimbs anLimbs (nthLoop Tryz.f122 0) (([.ce (.int .u64 n), .ce (.sl false [8] acc), .ce (.lit true)],[])) K)=(Br (n>0) ((0<=n/\n<=18446744073709551615/\(65535:Int)<=18446744073709551615)/\∀x1,x1=n%65536->((acc.length+1)*8<=140737488355328/\acc.length+1<=maxLen)/\(0:Int)<=16/\∀x2,x2=n/65536->K .normal ([.ce (.int .u64 x2), .ce (.sl false [8] (acc++[[x1]])), .ce (.lit true)],[])) (K (.exit 0) ([.ce (.sl false [8] acc), .ce (.lit true)],[]))):=by kernel_rfl
def SCut(hA:List HV)(pA:List (List HC)):SR:=match hA,pA with
 |[.ce (.sl false [8] l)],[]=> .det (dg l/\l.length<=1000) ⟨.ce (.sl false [8] (lim (dv l))),false,[],[]⟩
 |_,_=> .fail
def anCut:LAnn:=⟨[0],[0],[],false⟩
def LCut(v:LV):LR:=match v with
 |([.ce (.sl false [8] l)],[])=> .det (dg l/\l.length<=1000) (.exit 0) ([.ce (.sl false [8] (lim (dv l)))],[])
 |_=> .fail
noncomputable def CCut:Ctx:=⟨Tryz.prog,gam [],Tryz.f148.ntmps,[(1,anCut,LCut)],[]⟩
theorem vcCut(l:LL)(Q:Res->Prop):(nfun true CCut Tryz.f148 (bodyOf Tryz.f148) [.ce (.sl false [8] l)] [] Q)=((dg l/\l.length<=1000)/\Q ⟨.ce (.sl false [8] (lim (dv l))),false,[],[]⟩):=by kernel_rfl
theorem vbCut(l:LL)(K:HEx->LV->Prop):(nbodyT true CCut anCut (nthLoop Tryz.f148 0) (([.ce (.sl false [8] l)],[])) K)=(Br ((l.length:Int)>0) (R6 ((l.length:Int)-1)/\∀x1,x1=(l.length:Int)-1->(0<=x1/\x1<(l.length:Int))/\∀x2,x2=el l x1.toNat->Bb (x2==0) (R6 ((l.length:Int)-1)/\∀x3,x3=(l.length:Int)-1->(0<=x3/\x3<=(l.length:Int))/\K .normal ([.ce (.sl false [8] (List.take x3.toNat l))],[])) (K (.exit 0) ([.ce (.sl false [8] l)],[]))) (K (.exit 0) ([.ce (.sl false [8] l)],[]))):=by kernel_rfl
def SMag(hA:List HV)(pA:List (List HC)):SR:=match hA,pA with
 |[.ce (.int .i64 x)],[]=> .det (-9223372036854775808<=x/\x<=9223372036854775807) ⟨.ce (.int .u64 (x.natAbs:Int)),false,[],[]⟩
 |_,_=> .fail
noncomputable def CMag:Ctx:=⟨Tryz.prog,gam [],Tryz.f123.ntmps,[],[]⟩
theorem vcMag(x:Int)(Q:Res->Prop):(nfun true CMag Tryz.f123 (bodyOf Tryz.f123) [.ce (I6 x)] [] Q)=(Br (x<0) (R6 (x+1)/\∀x1,x1=x+1->R6 (0-x1)/\∀x2,x2=0-x1->∀x3,x3=x2%18446744073709551616->∀x4,x4=(x3+1)%18446744073709551616->Q ⟨.ce (.int .u64 x4),false,[],[]⟩) (∀x5,x5=x%18446744073709551616->Q ⟨.ce (.int .u64 x5),false,[],[]⟩)):=by kernel_rfl
def SRight(hA:List HV)(pA:List (List HC)):SR:=match hA,pA with
 |[.ce (.int .i64 x)],[]=> .det True ⟨.ce (.bool (decide (0<=x/\x<=2))),false,[],[]⟩
 |_,_=> .fail
noncomputable def CRight:Ctx:=⟨Tryz.prog,gam [],Tryz.f120.ntmps,[],[]⟩
theorem vcRight(x:Int)(Q:Res->Prop):(nfun true CRight Tryz.f120 (bodyOf Tryz.f120) [.ce (I6 x)] [] Q)=(Bb (x==0) (Q ⟨.ce (.bool true),false,[],[]⟩) (Bb (x==1) (Q ⟨.ce (.bool true),false,[],[]⟩) (Q ⟨.ce (.bool (x==2)),false,[],[]⟩))):=by kernel_rfl
def SSgn(hA:List HV)(pA:List (List HC)):SR:=match hA,pA with
 |[.ce (.int .i64 x), .ce (.int .i64 y)],[]=> .det True ⟨.ce (I6 (x.sign*y.sign)),false,[],[]⟩
 |_,_=> .fail
noncomputable def CSgn:Ctx:=⟨Tryz.prog,gam [],Tryz.f128.ntmps,[],[]⟩
theorem vcSgn(x y:Int)(Q:Res->Prop):(nfun true CSgn Tryz.f128 (bodyOf Tryz.f128) [.ce (I6 x), .ce (I6 y)] [] Q)=(Bb (x==0) (Q ⟨.ce (I6 0),false,[],[]⟩) (Bb (y==0) (Q ⟨.ce (I6 0),false,[],[]⟩) (Bb (decide (x<0)==decide (y<0)) (Q ⟨.ce (I6 1),false,[],[]⟩) (Q ⟨.ce (I6 (-1)),false,[],[]⟩)))):=by kernel_rfl
def SCmp(hA:List HV)(pA:List (List HC)):SR:=match hA,pA with
 |[.ce (.sl false [8] a), .ce (.sl false [8] b)],[]=> .det (a=lim (dv a)/\b=lim (dv b)/\a.length<=1000/\b.length<=1000) ⟨.ce (I6 (cmp3 (dv a) (dv b))),false,[],[]⟩
 |_,_=> .fail
def anCmp:LAnn:=⟨[0,1,4,5],[4],[],false⟩
def LCmp(v:LV):LR:=match v with
 |([.ce (.sl false [8] a), .ce (.sl false [8] b), .ce (.int .i64 r), .ce (.int .i64 k)],[])=> .alts (dg a/\dg b/\a.length=b.length/\k=(a.length:Int)-1/\a.length<=1000) [(dv a=dv b, .exit 0,([.ce (I6 r)],[])),(dv a≠dv b, .ret,([.ce (I6 (cmp3 (dv a) (dv b)))],[]))]
 |_=> .fail
noncomputable def CCmp:Ctx:=⟨Tryz.prog,gam [],Tryz.f124.ntmps,[(6,anCmp,LCmp)],[]⟩
theorem vcCmp(a b:LL)(Q:Res->Prop):(nfun true CCmp Tryz.f124 (bodyOf Tryz.f124) [.ce (.sl false [8] a), .ce (.sl false [8] b)] [] Q)=(Bb ((a.length:Int) !=(b.length:Int)) (Br ((a.length:Int)<(b.length:Int)) (Q ⟨.ce (I6 (-1)),false,[],[]⟩) (Q ⟨.ce (I6 1),false,[],[]⟩)) (R6 ((a.length:Int)-1)/\∀x1,x1=(a.length:Int)-1->(dg a/\dg b/\a.length=b.length/\x1=(a.length:Int)-1/\a.length<=1000)/\(dv a=dv b->Q ⟨.ce (I6 0),false,[],[]⟩)/\(dv a≠dv b->Q ⟨.ce (I6 (cmp3 (dv a) (dv b))),false,[],[]⟩))):=by kernel_rfl
theorem vbCmp(a b:LL)(r k:Int)(K:HEx->LV->Prop):(nbodyT true CCmp anCmp (nthLoop Tryz.f124 0) (([.ce (.sl false [8] a), .ce (.sl false [8] b), .ce (I6 r), .ce (I6 k)],[])) K)=(Br (k>=0) ((0<=k/\k<(a.length:Int))/\∀x1,x1=el a k.toNat->(0<=k/\k<(b.length:Int))/\∀x2,x2=el b k.toNat->Br (x1<x2) (K .ret ([.ce (I6 (-1))],[])) ((0<=k/\k<(a.length:Int))/\∀x3,x3=el a k.toNat->(0<=k/\k<(b.length:Int))/\∀x4,x4=el b k.toNat->Br (x3>x4) (K .ret ([.ce (I6 1)],[])) (R6 (k-1)/\∀x5,x5=k-1->K .normal ([.ce (.sl false [8] a), .ce (.sl false [8] b), .ce (I6 r), .ce (I6 x5)],[])))) (K (.exit 0) ([.ce (I6 r)],[]))):=by kernel_rfl
end Go.Proofs.YthkoabbiiadbjaaGreat
namespace U
open Go
theorem lim_zero:lim 0=[]:=by unfold lim;rfl
theorem lim_pos{n:Nat}(h:n≠0):lim n=[((n%65536:Nat):Int)]::lim (n/65536):=by rw[lim];rw[if_neg h]
theorem dv_lim(n:Nat):dv (lim n)=n:=by
 induction n using Nat.strongRecOn with
 |ind n ih=>
  by_cases h:n=0
  . subst h;rw[lim_zero];rfl
  . rw[lim_pos h];show(((n%65536:Nat):Int)).toNat+65536*dv (lim (n/65536))=n;rw[ih _ (by omega)];omega
theorem dg_lim(n:Nat):dg (lim n):=by
 induction n using Nat.strongRecOn with
 |ind n ih=>
  by_cases h:n=0
  . subst h;rw[lim_zero];intro r hr;cases hr
  . rw[lim_pos h];intro r hr;rcases List.mem_cons.1 hr with rfl|hr
    . exact⟨_,rfl,by omega,by omega⟩
    . exact ih _ (by omega) r hr
theorem lim_len:∀(k n:Nat),n<65536^k->(lim n).length<=k
 |0,n,h=>by
  have:n=0:=by simpa using h
  subst this;rw[lim_zero];exact Nat.le_refl _
 |k+1,n,h=>by
  by_cases h0:n=0
  . subst h0;rw[lim_zero];exact Nat.zero_le _
  . rw[lim_pos h0];have:n/65536<65536^k:=by
     rw[Nat.pow_succ]at h;exact Nat.div_lt_of_lt_mul (by rw[Nat.mul_comm];exact h)
    have:=lim_len k _ this;simpa using this
theorem lim_low(n:Nat)(h:n≠0):65536^((lim n).length-1)<=n:=by
 induction n using Nat.strongRecOn with
 |ind n ih=>
  rw[lim_pos h];by_cases h0:n/65536=0
  . rw[h0,lim_zero];simp;omega
  . have:=ih _ (by omega) h0;rw[List.length_cons,Nat.add_sub_cancel];have hl:(lim (n/65536)).length=((lim (n/65536)).length-1)+1:=by
     rw[lim_pos h0];simp
    rw[hl,Nat.pow_succ];omega
theorem dv_append(a b:LL):dv (a++b)=dv a+65536^a.length*dv b:=by
 induction a with
 |nil=>simp[dv]
 |cons r a ih=>
  show(r.getD 0 0).toNat+65536*dv (a++b)=(r.getD 0 0).toNat+65536*dv a+65536^(a.length+1)*dv b;rw[ih,Nat.pow_succ];grind
theorem dg_cons{r:List Int}{l:LL}(h:dg (r::l)):(∃d:Int,r=[d]/\0<=d/\d<65536)/\dg l:=⟨h r (by simp),fun x hx=>h x (List.mem_cons_of_mem _ hx)⟩
theorem dg_append{a b:LL}(ha:dg a)(hb:dg b):dg (a++b):=fun r hr=>by
 rcases List.mem_append.1 hr with h|h
 . exact ha r h
 . exact hb r h
theorem dg_one{d:Int}(h0:0<=d)(h1:d<65536):dg [[d]]:=fun r hr=>by simp at hr;exact⟨d,hr,h0,h1⟩
theorem dg_take{l:LL}(h:dg l)(k:Nat):dg (l.take k):=fun r hr=>h r (List.mem_of_mem_take hr)
theorem dv_lt{l:LL}(h:dg l):dv l<65536^l.length:=by
 induction l with
 |nil=>simp[dv]
 |cons r l ih=>
  obtain⟨⟨d,rfl,h0,h1⟩,hl⟩:=dg_cons h;have:=ih hl;show(([d]:List Int).getD 0 0).toNat+65536*dv l<65536^(l.length+1);have e:(([d]:List Int).getD 0 0)=d:=rfl;rw[e,Nat.pow_succ];omega
theorem el_dg{l:LL}(h:dg l){j:Nat}(hj:j<l.length):0<=el l j/\el l j<65536/\l.getD j []=[el l j]:=by
 obtain⟨d,hd,h0,h1⟩:=h (l[j]) (List.getElem_mem hj);have e:l.getD j []=[d]:=by simp[List.getD_eq_getElem?_getD,hj,hd]
 have e2:el l j=d:=by unfold el;rw[e];rfl
 rw[e2];exact⟨h0,h1,e⟩
theorem dv_drop{l:LL}{j:Nat}(hj:j<l.length):dv (l.drop j)=(el l j).toNat+65536*dv (l.drop (j+1)):=by
 rw[List.drop_eq_getElem_cons hj];have:el l j=(l[j]).getD 0 0:=by unfold el;simp[List.getD_eq_getElem?_getD,hj]
 rw[this];rfl
theorem dv_split(l:LL){j:Nat}(hj:j<=l.length):dv l=dv (l.take j)+65536^j*dv (l.drop j):=by
 have h:=dv_append (l.take j) (l.drop j);rw[List.take_append_drop]at h;rw[h,List.length_take,Nat.min_eq_left hj]
theorem dv_take_succ{l:LL}{j:Nat}(hj:j<l.length):dv (l.take (j+1))=dv (l.take j)+65536^j*(el l j).toNat:=by
 have h1:=dv_split l (Nat.le_of_lt hj);have h2:=dv_split l (show j+1<=l.length from hj);rw[dv_drop hj]at h1;rw[Nat.pow_succ]at h2;have:65536^j*((el l j).toNat+65536*dv (l.drop (j+1)))=65536^j*(el l j).toNat+65536^j*65536*dv (l.drop (j+1)):=by grind
 omega
theorem lim_of{l:LL}(h:dg l):(l=[]∨el l (l.length-1)≠0)->lim (dv l)=l:=by
 induction l with
 |nil=>intro _;exact lim_zero
 |cons r l ih=>
  intro h0;obtain⟨⟨d,rfl,h1,h2⟩,hl⟩:=dg_cons h;have h0':el ([d]::l) l.length≠0:=by
   rcases h0 with h0|h0
   . cases h0
   . simpa using h0
  have hv:dv ([d]::l)=d.toNat+65536*dv l:=rfl;by_cases hn:l=[]
  . subst hn;have hd:d≠0:=h0';rw[hv];show lim (d.toNat+65536*0)=_;rw[lim_pos (by omega)];have e1:(d.toNat+65536*0)/65536=0:=by omega
    have e2:(((d.toNat+65536*0)%65536:Nat):Int)=d:=by omega
    rw[e1,e2,lim_zero]
  . have hlp:0<l.length:=List.length_pos_iff.2 hn;have hlast:el l (l.length-1)≠0:=by
     have:el ([d]::l) l.length=el l (l.length-1):=by
      unfold el;rw[show l.length=(l.length-1)+1 by omega];rfl
     rwa[this]at h0'
    have ih':=ih hl (.inr hlast);have hpos:dv l≠0:=fun e=>by rw[e,lim_zero]at ih';exact hn ih'.symm
    rw[hv,lim_pos (by omega)];have e1:(d.toNat+65536*dv l)/65536=dv l:=by omega
    have e2:(((d.toNat+65536*dv l)%65536:Nat):Int)=d:=by omega
    rw[e1,e2,ih']
theorem lim_dv_lim(n:Nat):lim (dv (lim n))=lim n:=by rw[dv_lim]
theorem dv_cut{l:LL}(hp:0<l.length)(h:el l (l.length-1)=0):dv (l.take (l.length-1))=dv l:=by
 have h1:=dv_take_succ (l:=l) (j:=l.length-1) (by omega);rw[show l.length-1+1=l.length by omega,List.take_length,h]at h1;rw[h1];simp
theorem dv_low{a b:LL}(ha:dg a)(hb:dg b)(hl:a.length=b.length){j:Nat}(hj:j<a.length)(hd:dv (a.drop (j+1))=dv (b.drop (j+1)))(hlt:el a j<el b j):dv a<dv b:=by
 have h1:=dv_split a (Nat.le_of_lt hj);have h2:=dv_split b (show j<=b.length by omega);rw[dv_drop hj]at h1;rw[dv_drop (show j<b.length by omega)]at h2;have h3:=dv_lt (dg_take ha j);rw[List.length_take,Nat.min_eq_left (Nat.le_of_lt hj)]at h3;have h4:=el_dg ha hj;have h5:=el_dg hb (show j<b.length by omega);rw[<-hd]at h2;generalize dv (a.drop (j+1))=D at*;have h6:(el a j).toNat+1<=(el b j).toNat:=by omega
 have h7:65536^j*((el a j).toNat+65536*D)+65536^j<=65536^j*((el b j).toNat+65536*D):=by
  have:65536^j*((el a j).toNat+1+65536*D)<=65536^j*((el b j).toNat+65536*D):=Nat.mul_le_mul_left _ (by omega);have e:65536^j*((el a j).toNat+1+65536*D)=65536^j*((el a j).toNat+65536*D)+65536^j:=by grind
  omega
 omega
theorem cmp_len{x y:Nat}(h:(lim x).length<(lim y).length):x<y:=by
 have hy:y≠0:=fun e=>by subst e;rw[lim_zero]at h;exact absurd h (Nat.not_lt_zero _)
 have h1:=lim_low y hy;have h2:=dv_lt (dg_lim x);rw[dv_lim]at h2;have h3:65536^(lim x).length<=65536^((lim y).length-1):=Nat.pow_le_pow_right (by omega) (by omega);omega
end U
namespace Go.Proofs.YthkoabbiiadbjaaGreat
open Go Go.HL U
theorem loopLimbs:∀v Q,(LLimbs v).wp Q->hloop CLimbs anLimbs (nthLoop Tryz.f122 0) v Q:=by
 intro v Q h;unfold LLimbs at h;split at h;case h_2=>exact h.elim
 rename_i n acc;obtain⟨⟨h1,h2,h3⟩,hq⟩:=h;obtain rfl:acc=[]:=List.eq_nil_of_length_eq_zero h1;refine hloop_rec (σ:=Nat×LL) (fun s=>([.ce (.int .u64 (s.1:Int)), .ce (.sl false [8] s.2), .ce (.lit true)],[])) (fun s=>s.1) (fun s=>s.2++lim s.1=lim n.toNat/\s.1<18446744073709551616) ?_ (n.toNat,[]) ⟨by simp,by omega⟩|>(fun x=>by rwa[show((n.toNat:Nat):Int)=n by omega]at x);rintro⟨m,l⟩⟨hs,hm⟩K hn he _;dsimp only at hs hm hn;refine byVB (vbLimbs m l K) ⟨fun hlt=> ?_,fun hge=> ?_⟩
 . have hlt:=odt hlt;have hlen:l.length+(lim m).length<=4:=by
    rw[<-List.length_append,hs];exact lim_len 4 _ (by omega)
   refine⟨by omega,fun x1 e1=>⟨⟨by omega,by unfold maxLen;omega⟩,by omega,fun x2 e2=> ?_⟩⟩;have:=hn (m/65536,l++[[x1]]) ⟨by
    have e:x1=((m%65536:Nat):Int):=by omega
    rw[e,List.append_assoc];rw[lim_pos (by omega)]at hs;exact hs,by dsimp only;omega⟩ (by dsimp only;omega);dsimp only at this;rw[show x2=((m/65536:Nat):Int)by omega];exact this
 . have hge:=odf hge;obtain rfl:m=0:=by omega
   rw[lim_zero,List.append_nil]at hs;subst hs;exact he _ _ hq
theorem sLimbs:Sound Tryz.prog 122 SLimbs:=by
 refine sound_of (C:=CLimbs) [] Tryz.func122 (by kernel_rfl) (by decide+kernel) (by kernel_rfl) rfl trivial (loops1 (by kernel_rfl) (loopOK_of (an:=anLimbs) (S:=LLimbs) (by kernel_rfl) loopLimbs)) ?_;intro hA pA R h;unfold SLimbs at h;split at h;case h_2=>exfalso;exact h
 rename_i n;have h2:=h.2;have h1:=h.1;refine byVC (vcLimbs n R) ?_;refine⟨?_,h2⟩;exact⟨rfl,h1⟩
theorem loopCut:∀v Q,(LCut v).wp Q->hloop CCut anCut (nthLoop Tryz.f148 0) v Q:=by
 intro v Q h;unfold LCut at h;split at h;case h_2=>exact h.elim
 rename_i l;obtain⟨⟨h1,h2⟩,hq⟩:=h;refine hloop_rec (σ:=LL) (fun s=>([.ce (.sl false [8] s)],[])) (fun s=>s.length) (fun s=>dg s/\s.length<=1000/\dv s=dv l) ?_ l ⟨h1,h2,rfl⟩;rintro s⟨hs1,hs2,hs3⟩K hn he _;have done:(s=[]∨el s (s.length-1)≠0)->K (.exit 0) ([.ce (.sl false [8] s)],[]):=fun hh=>he _ _ (by
  have:=lim_of hs1 hh;rw[hs3]at this;rw[this]at hq;exact hq);refine byVB (vbCut s K) ?_;refine⟨fun hlt=> ?_,fun hge=> ?_⟩
 . have hlt:=odt hlt;refine⟨by omega,fun x1 e1=>⟨by omega,fun x2 e2=>⟨fun hz=> ?_,fun hz=> ?_⟩⟩⟩
   . refine⟨by omega,fun x3 e3=>⟨by omega,?_⟩⟩;have e4:x3.toNat=s.length-1:=by omega
     have e5:x1.toNat=s.length-1:=by omega
     have hx2:x2=0:=by simpa using hz
     have:=hn (s.take (s.length-1)) ⟨dg_take hs1 _,by rw[List.length_take];omega,by
      rw[dv_cut (by omega) (by rw[e5]at e2;unfold el;unfold el at e2;omega),hs3]⟩ (by rw[List.length_take];omega);rw[e4];exact this
   . have hx2:x2≠0:=by simpa using hz
     have e5:x1.toNat=s.length-1:=by omega
     rw[e5]at e2;exact done (.inr (by unfold el;unfold el at e2;omega))
 . have hge:=odf hge;exact done (.inl (List.eq_nil_of_length_eq_zero (by omega)))
theorem sCut:Sound Tryz.prog 148 SCut:=by
 refine sound_of (C:=CCut) [] Tryz.func148 (by kernel_rfl) (by decide+kernel) (by kernel_rfl) rfl trivial (loops1 (by kernel_rfl) (loopOK_of (an:=anCut) (S:=LCut) (by kernel_rfl) loopCut)) ?_;intro hA pA R h;unfold SCut at h;split at h;case h_2=>exfalso;exact h
 rename_i l;have h2:=h.2;have h1:=h.1;refine byVC (vcCut l R) ?_;exact⟨h1,h2⟩
theorem sMag:Sound Tryz.prog 123 SMag:=by
 refine sound_of (C:=CMag) [] Tryz.func123 (by kernel_rfl) (by decide+kernel) (by kernel_rfl) rfl trivial (loops0 (by kernel_rfl)) ?_;intro hA pA R h;unfold SMag at h;split at h;case h_2=>exfalso;exact h
 rename_i x;obtain⟨⟨h1,h2⟩,hq⟩:=h;refine byVC (vcMag x R) ⟨fun e=> ?_,fun e=> ?_⟩
 . have:=odt e;refine⟨by omega,fun x1 e1=>⟨by omega,fun x2 e2 x3 e3 x4 e4=> ?_⟩⟩;rw[show x4=(x.natAbs:Int)by omega];exact hq
 . have:=odf e;intro x5 e5;rw[show x5=(x.natAbs:Int)by omega];exact hq
theorem sRight:Sound Tryz.prog 120 SRight:=by
 refine sound_of (C:=CRight) [] Tryz.func120 (by kernel_rfl) (by decide+kernel) (by kernel_rfl) rfl trivial (loops0 (by kernel_rfl)) ?_;intro hA pA R h;unfold SRight at h;split at h;case h_2=>exfalso;exact h
 rename_i x;have hq:=h.2;refine byVC (vcRight x R) ⟨fun e=> ?_,fun e=>⟨fun e2=> ?_,fun e2=> ?_⟩⟩
 . have:x=0:=by simpa using e
   subst this;exact hq
 . have:x=1:=by simpa using e2
   subst this;exact hq
 . have h0:x≠0:=by simpa using e
   have h1:x≠1:=by simpa using e2
   have:(x==2)=decide (0<=x/\x<=2):=by
    by_cases hx:x=2
    . subst hx;rfl
    . rw[decide_eq_false (by omega)];simpa using hx
   rw[this];exact hq
theorem sSgn:Sound Tryz.prog 128 SSgn:=by
 refine sound_of (C:=CSgn) [] Tryz.func128 (by kernel_rfl) (by decide+kernel) (by kernel_rfl) rfl trivial (loops0 (by kernel_rfl)) ?_;intro hA pA R h;unfold SSgn at h;split at h;case h_2=>exfalso;exact h
 rename_i x y;have hq:=h.2;refine byVC (vcSgn x y R) ⟨fun e=> ?_,fun e=>⟨fun e2=> ?_,fun e2=>⟨fun e3=> ?_,fun e3=> ?_⟩⟩⟩
 . have:x=0:=by simpa using e
   subst this;simpa using hq
 . have:y=0:=by simpa using e2
   subst this;simpa using hq
 . have h0:x≠0:=by simpa using e
   have h1:y≠0:=by simpa using e2
   have:x.sign*y.sign=1:=by
    rcases Int.lt_or_gt_of_ne h0 with hx|hx<;>rcases Int.lt_or_gt_of_ne h1 with hy|hy
    . rw[Int.sign_eq_neg_one_of_neg hx,Int.sign_eq_neg_one_of_neg hy];rfl
    . simp[hx,Int.not_lt.2 (Int.le_of_lt hy)]at e3
    . simp[hy,Int.not_lt.2 (Int.le_of_lt hx)]at e3
    . rw[Int.sign_eq_one_of_pos hx,Int.sign_eq_one_of_pos hy];rfl
   rw[this]at hq;exact hq
 . have h0:x≠0:=by simpa using e
   have h1:y≠0:=by simpa using e2
   have:x.sign*y.sign= -1:=by
    rcases Int.lt_or_gt_of_ne h0 with hx|hx<;>rcases Int.lt_or_gt_of_ne h1 with hy|hy
    . simp[hx,hy]at e3
    . rw[Int.sign_eq_neg_one_of_neg hx,Int.sign_eq_one_of_pos hy];rfl
    . rw[Int.sign_eq_one_of_pos hx,Int.sign_eq_neg_one_of_neg hy];rfl
    . simp[Int.not_lt.2 (Int.le_of_lt hx),Int.not_lt.2 (Int.le_of_lt hy)]at e3
   rw[this]at hq;exact hq
theorem loopCmp:∀v Q,(LCmp v).wp Q->hloop CCmp anCmp (nthLoop Tryz.f124 0) v Q:=by
 intro v Q h;unfold LCmp at h;split at h;case h_2=>exact h.elim
 rename_i a b r k;obtain⟨⟨h1,h2,h3,h4,h5⟩,hq1,hq2⟩:=h;subst h4;refine hloop_rec (σ:=Nat) (fun j=>([.ce (.sl false [8] a), .ce (.sl false [8] b), .ce (I6 r), .ce (I6 ((j:Int)-1))],[])) (fun j=>j) (fun j=>j<=a.length/\dv (a.drop j)=dv (b.drop j)) ?_ a.length ⟨Nat.le_refl _,by rw[List.drop_length,h3,List.drop_length]⟩;rintro j⟨hj,hd⟩K hn he hr;refine byVB (vbCmp a b r _ K) ⟨fun hlt=> ?_,fun hge=> ?_⟩
 . have hlt:=odt hlt;have ej:((j:Int)-1).toNat=j-1:=by omega
   have hjj:j-1+1=j:=by omega
   refine⟨by omega,fun x1 e1=>⟨by omega,fun x2 e2=> ?_⟩⟩;rw[ej]at e1 e2;have e1:x1=el a (j-1):=e1;have e2:x2=el b (j-1):=e2;refine⟨fun hx=> ?_,fun hx=>⟨by omega,fun x3 e3=>⟨by omega,fun x4 e4=> ?_⟩⟩⟩
   . have hx:=odt hx;have:=dv_low h1 h2 h3 (j:=j-1) (by omega) (by rw[hjj];exact hd) (by omega);refine hr _ ?_;have:=hq2 (by omega);unfold cmp3 at this;rw[if_pos (by omega)]at this;exact this
   . have hx:=odf hx;rw[ej]at e3 e4;have e3:x3=el a (j-1):=e3;have e4:x4=el b (j-1):=e4;refine⟨fun hy=> ?_,fun hy=>⟨by omega,fun x5 e5=> ?_⟩⟩
     . have hy:=odt hy;have:=dv_low h2 h1 h3.symm (j:=j-1) (by omega) (by rw[hjj];exact hd.symm) (by omega);refine hr _ ?_;have:=hq2 (by omega);unfold cmp3 at this;rw[if_neg (by omega),if_neg (by omega)]at this;exact this
     . have hy:=odf hy;have:=hn (j-1) ⟨by omega,by
        rw[dv_drop (show j-1<a.length by omega),dv_drop (show j-1<b.length by omega),hjj,hd];have:el a (j-1)=el b (j-1):=by omega
        rw[this]⟩ (by omega);rw[show x5=((j-1:Nat):Int)-1 by omega];exact this
 . have hge:=odf hge;obtain rfl:j=0:=by omega
   exact he _ _ (hq1 (by simpa using hd))
theorem sCmp:Sound Tryz.prog 124 SCmp:=by
 refine sound_of (C:=CCmp) [] Tryz.func124 (by kernel_rfl) (by decide+kernel) (by kernel_rfl) rfl trivial (loops1 (by kernel_rfl) (loopOK_of (an:=anCmp) (S:=LCmp) (by kernel_rfl) loopCmp)) ?_;intro hA pA R h;unfold SCmp at h;split at h;case h_2=>exfalso;exact h
 rename_i a b;have hq:=h.2;have h:=h.1;have ha:=h.1;have hb:=h.2.1;have hal:=h.2.2.1;have hbl:=h.2.2.2;have hla:a.length=(lim (dv a)).length:=congrArg List.length ha;have hlb:b.length=(lim (dv b)).length:=congrArg List.length hb;refine byVC (vcCmp a b R) ⟨fun hne=>⟨fun hlt=> ?_,fun hlt=> ?_⟩,fun heq=>⟨by omega,fun x1 e1=>⟨⟨by rw[ha];exact dg_lim _,by rw[hb];exact dg_lim _,by simp at heq;omega,e1,hal⟩,fun e=> ?_,fun e=>hq⟩⟩⟩
 . have hlt:=odt hlt;have:=cmp_len (x:=dv a) (y:=dv b) (by omega);unfold cmp3 at hq;rw[if_pos this]at hq;exact hq
 . have hlt:=odf hlt;have hne:a.length≠b.length:=by simp at hne;omega
   have:=cmp_len (x:=dv b) (y:=dv a) (by omega);unfold cmp3 at hq;rw[if_neg (by omega),if_neg (by omega)]at hq;exact hq
 . unfold cmp3 at hq;rw[if_neg (by omega),if_pos e]at hq;exact hq
def SMulL(hargs:List HV)(pars:List (List HC)):SR:=match hargs,pars with
 |[.ce (.sl false [8] a), .ce (.sl false [8] b)],[]=> .det (dg a/\dg b/\a.length<=100/\b.length<=100) ⟨.ce (.sl false [8] (lim (dv a*dv b))),false,[],[]⟩
 |_,_=> .fail
def anMulO:LAnn:=⟨[0,1,5,6],[0,1,5],[1000015],false⟩
def anMulI:LAnn:=⟨[0,1,5,6,7,8],[0,1,5,6,7],[1000015],false⟩
def zer(o:LL)(n:Nat):Prop:=∀j,n<=j->j<o.length->el o j=0
def mulOK(a b o:LL):Prop:=dg a/\dg b/\dg o/\a.length<=100/\b.length<=100/\o.length=a.length+b.length
def LMulO(v:LV):LR:=match v with
 |([.ce (.sl false [8] a), .ce (.sl false [8] b), .ce (.msl 1000015 n m), .ce (.int .i64 i)],[[.arr [8] o m2]])=> .all (m2=m/\i=0/\n=o.length/\mulOK a b o/\zer o 0) (LL) (fun o'=>o'.length=o.length/\dg o'/\dv o'=dv a*dv b) (fun _=> .exit 0) (fun o'=>([.ce (.sl false [8] a), .ce (.sl false [8] b), .ce (.msl 1000015 n m)],[[.arr [8] o' m2]]))
 |_=> .fail
def LMulI(v:LV):LR:=match v with
 |([.ce (.sl false [8] a), .ce (.sl false [8] b), .ce (.msl 1000015 n m), .ce (.int .i64 i), .ce (.int .u64 c), .ce (.int .i64 k)],[[.arr [8] o m2]])=> .all (m2=m/\k=0/\c=0/\0<=i/\i<(a.length:Int)/\n=o.length/\mulOK a b o/\zer o (i.toNat+b.length)) (LL×Int) (fun x=>x.1.length=o.length/\dg x.1/\0<=x.2/\x.2<65536/\zer x.1 (i.toNat+b.length)/\dv x.1+x.2.toNat*65536^(i.toNat+b.length)=dv o+(el a i.toNat).toNat*65536^i.toNat*dv b) (fun _=> .exit 2) (fun x=>([.ce (.sl false [8] a), .ce (.sl false [8] b), .ce (.msl 1000015 n m), .ce (I6 i), .ce (.int .u64 x.2)],[[.arr [8] x.1 m2]]))
 |_=> .fail
def tabMulL:List (FuncId×HL.Spec):=[(148,SCut)]
noncomputable def CMulL:Ctx:=⟨Tryz.prog,gam tabMulL,Tryz.f125.ntmps,[(3,anMulO,LMulO),(7,anMulI,LMulI)],[70]⟩
theorem vcMulL(a b:LL)(Q:Res->Prop):(nfun true CMulL Tryz.f125 (bodyOf Tryz.f125) [.ce (.sl false [8] a), .ce (.sl false [8] b)] [] Q)=(R6 ((a.length:Int)+(b.length:Int))/\∀x1,x1=(a.length:Int)+(b.length:Int)->(0<=x1/\x1=x1/\x1<=140737488355328/\x1*8<=140737488355328)/\(x1.toNat=x1.toNat/\(0:Int)=0/\x1.toNat=List.length (List.replicate x1.toNat [(0:Int)])/\(dg a/\dg b/\dg (List.replicate x1.toNat [(0:Int)])/\a.length<=100/\b.length<=100/\List.length (List.replicate x1.toNat [(0:Int)])=a.length+b.length)/\∀(j:Nat),(0:Nat)<=j->j<List.length (List.replicate x1.toNat [(0:Int)])->el (List.replicate x1.toNat [(0:Int)]) j=0)/\∀(x:LL),x.length=List.length (List.replicate x1.toNat [(0:Int)])/\dg x/\dv x=dv a*dv b->x1.toNat=x.length/\(dg x/\x.length<=1000)/\∀(x4:LL),x4=lim (dv x)->Q ⟨.ce (.sl false [8] x4),false,[],[]⟩):=by kernel_rfl
theorem vbMulO(a b o:LL)(n m:Nat)(i:Int)(K:HEx->LV->Prop):(nbodyT true CMulL anMulO (nthLoop Tryz.f125 0) (([.ce (.sl false [8] a), .ce (.sl false [8] b), .ce (.msl 1000015 n m), .ce (I6 i)],[[.arr [8] o m]])) K)=(Br (i<(a.length:Int)) ((m=m/\(0:Int)=0/\(0:Int)=0/\0<=i/\i<(a.length:Int)/\n=o.length/\(dg a/\dg b/\dg o/\a.length<=100/\b.length<=100/\o.length=a.length+b.length)/\∀(j:Nat),i.toNat+b.length<=j->j<o.length->el o j=0)/\∀(x:LL×Int),List.length x.1=o.length/\dg x.1/\0<=x.2/\x.2<65536/\(∀(j:Nat),i.toNat+b.length<=j->j<List.length x.1->el x.1 j=0)/\dv x.1+x.2.toNat*65536^(i.toNat+b.length)=dv o+Int.toNat (el a i.toNat)*65536^i.toNat*dv b->R6 (i+(b.length:Int))/\∀x4,x4=i+(b.length:Int)->R6 (i+(b.length:Int))/\∀x5,x5=i+(b.length:Int)->(0<=x5/\x5<((n:Nat):Int))/\x5.toNat<List.length x.1/\∀x6,x6=el x.1 x5.toNat->∀x7,x7=(x6+x.2)%18446744073709551616->(0<=x4/\x4<((n:Nat):Int))/\x4.toNat<List.length x.1/\R6 (i+1)/\∀x8,x8=i+1->K .normal ([.ce (.sl false [8] a), .ce (.sl false [8] b), .ce (.msl (1000015:Nat) n m), .ce (I6 x8)],[[.arr [8] (List.set x.1 x4.toNat [bif true&&true then x7 else el x.1 x4.toNat]) m]])) (K (.exit 0) ([.ce (.sl false [8] a), .ce (.sl false [8] b), .ce (.msl (1000015:Nat) n m)],[[.arr [8] o m]]))):=by kernel_rfl
theorem vbMulI(a b o:LL)(n m:Nat)(i c k:Int)(K:HEx->LV->Prop):(nbodyT true CMulL anMulI (nthLoop Tryz.f125 1) (([.ce (.sl false [8] a), .ce (.sl false [8] b), .ce (.msl 1000015 n m), .ce (I6 i), .ce (.int .u64 c), .ce (I6 k)],[[.arr [8] o m]])) K)=(Br (k<(b.length:Int)) (R6 (i+k)/\∀x1,x1=i+k->(0<=x1/\x1<((n:Nat):Int))/\x1.toNat<o.length/\∀x2,x2=el o x1.toNat->(0<=i/\i<(a.length:Int))/\∀x3,x3=el a i.toNat->(0<=k/\k<(b.length:Int))/\∀x4,x4=el b k.toNat->∀x5,x5=x3*x4%18446744073709551616->∀x6,x6=(x2+x5)%18446744073709551616->∀x7,x7=(x6+c)%18446744073709551616->R6 (i+k)/\∀x8,x8=i+k->(0<=x7/\x7<=18446744073709551615/\(65535:Int)<=18446744073709551615)/\∀x9,x9=x7%65536->(0<=x8/\x8<((n:Nat):Int))/\x8.toNat<o.length/\(0:Int)<=16/\∀x10,x10=x7/65536->R6 (k+1)/\∀x11,x11=k+1->K .normal ([.ce (.sl false [8] a), .ce (.sl false [8] b), .ce (.msl (1000015:Nat) n m), .ce (I6 i), .ce (.int .u64 x10), .ce (I6 x11)],[[.arr [8] (List.set o x8.toNat [bif true&&true then x9 else el o x8.toNat]) m]])) (K (.exit 2) ([.ce (.sl false [8] a), .ce (.sl false [8] b), .ce (.msl (1000015:Nat) n m), .ce (I6 i), .ce (.int .u64 c)],[[.arr [8] o m]]))):=by kernel_rfl
def SAddL(hargs:List HV)(pars:List (List HC)):SR:=match hargs,pars with
 |[.ce (.sl false [8] a), .ce (.sl false [8] b)],[]=> .det (dg a/\dg b/\a.length<=100/\b.length<=100) ⟨.ce (.sl false [8] (lim (dv a+dv b))),false,[],[]⟩
 |_,_=> .fail
def anAddL:LAnn:=⟨[0,1,5,100005,6,7],[5,100005],[],false⟩
def LAddL(v:LV):LR:=match v with
 |([.ce (.sl false [8] a), .ce (.sl false [8] b), .ce (.sl false [8] o), .ce (.lit true), .ce (.int .u64 c), .ce (.int .i64 i)],[])=> .all (o.length=0/\c=0/\i=0/\dg a/\dg b/\a.length<=100/\b.length<=100) (LL) (fun o'=>dg o'/\o'.length<=200/\dv o'=dv a+dv b) (fun _=> .exit 0) (fun o'=>([.ce (.sl false [8] o'), .ce (.lit true)],[]))
 |_=> .fail
noncomputable def CAddL:Ctx:=⟨Tryz.prog,gam tabMulL,Tryz.f126.ntmps,[(4,anAddL,LAddL)],[]⟩
theorem vcAddL(a b:LL)(Q:Res->Prop):(nfun true CAddL Tryz.f126 (bodyOf Tryz.f126) [.ce (.sl false [8] a), .ce (.sl false [8] b)] [] Q)=(((0:Nat)=0/\(0:Int)=0/\(0:Int)=0/\dg a/\dg b/\a.length<=100/\b.length<=100)/\∀(x:LL),dg x/\x.length<=200/\dv x=dv a+dv b->(dg x/\x.length<=1000)/\∀(x2:LL),x2=lim (dv x)->Q ⟨.ce (.sl false [8] x2),false,[],[]⟩):=by kernel_rfl
theorem vbAddL(a b o:LL)(c i:Int)(K:HEx->LV->Prop):(nbodyT true CAddL anAddL (nthLoop Tryz.f126 0) (([.ce (.sl false [8] a), .ce (.sl false [8] b), .ce (.sl false [8] o), .ce (.lit true), .ce (.int .u64 c), .ce (I6 i)],[])) K)=(Br (i<(a.length:Int)) (Br (i<(a.length:Int)) ((0<=i/\i<(a.length:Int))/\∀x1,x1=el a i.toNat->∀x2,x2=(c+x1)%18446744073709551616->Br (i<(b.length:Int)) ((0<=i/\i<(b.length:Int))/\∀x3,x3=el b i.toNat->∀x4,x4=(x2+x3)%18446744073709551616->(0<=x4/\x4<=18446744073709551615/\(65535:Int)<=18446744073709551615)/\∀x5,x5=x4%65536->((o.length+1)*8<=140737488355328/\o.length+1<=maxLen)/\(0:Int)<=16/\∀x6,x6=x4/65536->R6 (i+1)/\∀x7,x7=i+1->K .normal ([.ce (.sl false [8] a), .ce (.sl false [8] b), .ce (.sl false [8] (o++[[x5]])), .ce (.lit true), .ce (.int .u64 x6), .ce (I6 x7)],[])) ((0<=x2/\x2<=18446744073709551615/\(65535:Int)<=18446744073709551615)/\∀x8,x8=x2%65536->((o.length+1)*8<=140737488355328/\o.length+1<=maxLen)/\(0:Int)<=16/\∀x9,x9=x2/65536->R6 (i+1)/\∀x10,x10=i+1->K .normal ([.ce (.sl false [8] a), .ce (.sl false [8] b), .ce (.sl false [8] (o++[[x8]])), .ce (.lit true), .ce (.int .u64 x9), .ce (I6 x10)],[]))) (Br (i<(b.length:Int)) ((0<=i/\i<(b.length:Int))/\∀x11,x11=el b i.toNat->∀x12,x12=(c+x11)%18446744073709551616->(0<=x12/\x12<=18446744073709551615/\(65535:Int)<=18446744073709551615)/\∀x13,x13=x12%65536->((o.length+1)*8<=140737488355328/\o.length+1<=maxLen)/\(0:Int)<=16/\∀x14,x14=x12/65536->R6 (i+1)/\∀x15,x15=i+1->K .normal ([.ce (.sl false [8] a), .ce (.sl false [8] b), .ce (.sl false [8] (o++[[x13]])), .ce (.lit true), .ce (.int .u64 x14), .ce (I6 x15)],[])) ((0<=c/\c<=18446744073709551615/\(65535:Int)<=18446744073709551615)/\∀x16,x16=c%65536->((o.length+1)*8<=140737488355328/\o.length+1<=maxLen)/\(0:Int)<=16/\∀x17,x17=c/65536->R6 (i+1)/\∀x18,x18=i+1->K .normal ([.ce (.sl false [8] a), .ce (.sl false [8] b), .ce (.sl false [8] (o++[[x16]])), .ce (.lit true), .ce (.int .u64 x17), .ce (I6 x18)],[])))) (Br (i<(b.length:Int)) (Br (i<(a.length:Int)) ((0<=i/\i<(a.length:Int))/\∀x19,x19=el a i.toNat->∀x20,x20=(c+x19)%18446744073709551616->Br (i<(b.length:Int)) ((0<=i/\i<(b.length:Int))/\∀x21,x21=el b i.toNat->∀x22,x22=(x20+x21)%18446744073709551616->(0<=x22/\x22<=18446744073709551615/\(65535:Int)<=18446744073709551615)/\∀x23,x23=x22%65536->((o.length+1)*8<=140737488355328/\o.length+1<=maxLen)/\(0:Int)<=16/\∀x24,x24=x22/65536->R6 (i+1)/\∀x25,x25=i+1->K .normal ([.ce (.sl false [8] a), .ce (.sl false [8] b), .ce (.sl false [8] (o++[[x23]])), .ce (.lit true), .ce (.int .u64 x24), .ce (I6 x25)],[])) ((0<=x20/\x20<=18446744073709551615/\(65535:Int)<=18446744073709551615)/\∀x26,x26=x20%65536->((o.length+1)*8<=140737488355328/\o.length+1<=maxLen)/\(0:Int)<=16/\∀x27,x27=x20/65536->R6 (i+1)/\∀x28,x28=i+1->K .normal ([.ce (.sl false [8] a), .ce (.sl false [8] b), .ce (.sl false [8] (o++[[x26]])), .ce (.lit true), .ce (.int .u64 x27), .ce (I6 x28)],[]))) (Br (i<(b.length:Int)) ((0<=i/\i<(b.length:Int))/\∀x29,x29=el b i.toNat->∀x30,x30=(c+x29)%18446744073709551616->(0<=x30/\x30<=18446744073709551615/\(65535:Int)<=18446744073709551615)/\∀x31,x31=x30%65536->((o.length+1)*8<=140737488355328/\o.length+1<=maxLen)/\(0:Int)<=16/\∀x32,x32=x30/65536->R6 (i+1)/\∀x33,x33=i+1->K .normal ([.ce (.sl false [8] a), .ce (.sl false [8] b), .ce (.sl false [8] (o++[[x31]])), .ce (.lit true), .ce (.int .u64 x32), .ce (I6 x33)],[])) ((0<=c/\c<=18446744073709551615/\(65535:Int)<=18446744073709551615)/\∀x34,x34=c%65536->((o.length+1)*8<=140737488355328/\o.length+1<=maxLen)/\(0:Int)<=16/\∀x35,x35=c/65536->R6 (i+1)/\∀x36,x36=i+1->K .normal ([.ce (.sl false [8] a), .ce (.sl false [8] b), .ce (.sl false [8] (o++[[x34]])), .ce (.lit true), .ce (.int .u64 x35), .ce (I6 x36)],[])))) (Br (c>0) (Br (i<(a.length:Int)) ((0<=i/\i<(a.length:Int))/\∀x37,x37=el a i.toNat->∀x38,x38=(c+x37)%18446744073709551616->Br (i<(b.length:Int)) ((0<=i/\i<(b.length:Int))/\∀x39,x39=el b i.toNat->∀x40,x40=(x38+x39)%18446744073709551616->(0<=x40/\x40<=18446744073709551615/\(65535:Int)<=18446744073709551615)/\∀x41,x41=x40%65536->((o.length+1)*8<=140737488355328/\o.length+1<=maxLen)/\(0:Int)<=16/\∀x42,x42=x40/65536->R6 (i+1)/\∀x43,x43=i+1->K .normal ([.ce (.sl false [8] a), .ce (.sl false [8] b), .ce (.sl false [8] (o++[[x41]])), .ce (.lit true), .ce (.int .u64 x42), .ce (I6 x43)],[])) ((0<=x38/\x38<=18446744073709551615/\(65535:Int)<=18446744073709551615)/\∀x44,x44=x38%65536->((o.length+1)*8<=140737488355328/\o.length+1<=maxLen)/\(0:Int)<=16/\∀x45,x45=x38/65536->(-9223372036854775808<=i+1/\i+1<=9223372036854775807)/\∀x46,x46=i+1->K .normal ([.ce (.sl false [8] a), .ce (.sl false [8] b), .ce (.sl false [8] (o++[[x44]])), .ce (.lit true), .ce (.int .u64 x45), .ce (I6 x46)],[]))) (Br (i<(b.length:Int)) ((0<=i/\i<(b.length:Int))/\∀x47,x47=el b i.toNat->∀x48,x48=(c+x47)%18446744073709551616->(0<=x48/\x48<=18446744073709551615/\(65535:Int)<=18446744073709551615)/\∀x49,x49=x48%65536->((o.length+1)*8<=140737488355328/\o.length+1<=maxLen)/\(0:Int)<=16/\∀x50,x50=x48/65536->R6 (i+1)/\∀x51,x51=i+1->K .normal ([.ce (.sl false [8] a), .ce (.sl false [8] b), .ce (.sl false [8] (o++[[x49]])), .ce (.lit true), .ce (.int .u64 x50), .ce (I6 x51)],[])) ((0<=c/\c<=18446744073709551615/\(65535:Int)<=18446744073709551615)/\∀x52,x52=c%65536->((o.length+1)*8<=140737488355328/\o.length+1<=maxLen)/\(0:Int)<=16/\∀x53,x53=c/65536->R6 (i+1)/\∀x54,x54=i+1->K .normal ([.ce (.sl false [8] a), .ce (.sl false [8] b), .ce (.sl false [8] (o++[[x52]])), .ce (.lit true), .ce (.int .u64 x53), .ce (I6 x54)],[])))) (K (.exit 0) ([.ce (.sl false [8] o), .ce (.lit true)],[]))))):=by kernel_rfl
end Go.Proofs.YthkoabbiiadbjaaGreat
namespace U
open Go
theorem dv_set:∀(o:LL)(p:Nat)(v:Int),p<o.length->dv (o.set p [v])+(el o p).toNat*65536^p=dv o+v.toNat*65536^p
 |r::o,0,v,_=>by
  show v.toNat+65536*dv o+(r.getD 0 0).toNat*65536^0=(r.getD 0 0).toNat+65536*dv o+v.toNat*65536^0;omega
 |r::o,p+1,v,h=>by
  have ih:=dv_set o p v (by simpa using h);have e:el (r::o) (p+1)=el o p:=rfl;show(r.getD 0 0).toNat+65536*dv (o.set p [v])+(el (r::o) (p+1)).toNat*65536^(p+1)=(r.getD 0 0).toNat+65536*dv o+v.toNat*65536^(p+1);rw[e,Nat.pow_succ];have h1:(el o p).toNat*(65536^p*65536)=65536*((el o p).toNat*65536^p):=by grind
  have h2:v.toNat*(65536^p*65536)=65536*(v.toNat*65536^p):=by grind
  omega
theorem el_set(o:LL)(p:Nat)(v:Int)(j:Nat)(hp:p<o.length):el (o.set p [v]) j=if j=p then v else el o j:=by
 unfold el;simp only[List.getD_eq_getElem?_getD,List.getElem?_set];by_cases h:p=j
 . subst h;simp[hp]
 . rw[if_neg h,if_neg (fun e=>h e.symm)]
theorem dg_set{o:LL}(h:dg o){p:Nat}{v:Int}(h0:0<=v)(h1:v<65536):dg (o.set p [v]):=fun r hr=>by
 rcases List.mem_or_eq_of_mem_set hr with hr|rfl
 . exact h r hr
 . exact⟨v,rfl,h0,h1⟩
theorem dg_repl(n:Nat):dg (List.replicate n [0]):=fun r hr=>by
 rw[List.mem_replicate]at hr;exact⟨0,hr.2,by omega,by omega⟩
theorem el_repl(n j:Nat):el (List.replicate n [0]) j=0:=by
 unfold el;simp only[List.getD_eq_getElem?_getD,List.getElem?_replicate];split<;>rfl
theorem dv_repl:∀n:Nat,dv (List.replicate n [0])=0
 |0=>rfl
 |n+1=>by
  rw[List.replicate_succ];show(([0]:List Int).getD 0 0).toNat+65536*dv (List.replicate n [0])=0;rw[dv_repl n];rfl
theorem mul_step{do1 do2 do3 A B k1 bk P x2 x9 x10 t c:Nat}(h:do1+c*P=do2+A*k1)(ht:t=x2+B*bk+c)(hd:65536*x10+x9=t)(hs:do3+x2*P=do1+x9*P)(hA:A*(bk*1)=A*bk)(hP:B*bk*P=A*(k1*0)+B*bk*P):do3+x10*(P*65536)=do2+A*k1+B*bk*P:=by
 have e1:x10*(P*65536)+x9*P=t*P:=by rw[<-hd];grind
 have e2:t*P=x2*P+B*bk*P+c*P:=by rw[ht];grind
 omega
end U
namespace Go.Proofs.YthkoabbiiadbjaaGreat
open Go Go.HL U
theorem loopMulI:∀v Q,(LMulI v).wp Q->hloop CMulL anMulI (nthLoop Tryz.f125 1) v Q:=by
 intro v Q h;unfold LMulI at h;split at h;case h_2=>exact h.elim
 rename_i a b n m i c k o m2;obtain⟨⟨h0,h1,h2,h3,h4,h5,⟨h6,h7,h8,h9,h10,h11⟩,h12⟩,hq⟩:=h;subst h0 h1 h2 h5;obtain⟨I,rfl⟩:=Int.eq_ofNat_of_zero_le h3;have hI:I<a.length:=by omega
 simp only[Int.toNat_natCast]at hq h12;refine hloop_rec (σ:=LL×Int×Nat) (fun s=>([.ce (.sl false [8] a), .ce (.sl false [8] b), .ce (.msl 1000015 o.length m2), .ce (I6 (I:Int)), .ce (.int .u64 s.2.1), .ce (I6 (s.2.2:Int))],[[.arr [8] s.1 m2]])) (fun s=>b.length-s.2.2) (fun s=>s.1.length=o.length/\dg s.1/\(0<=s.2.1/\s.2.1<65536)/\zer s.1 (I+b.length)/\s.2.2<=b.length/\dv s.1+s.2.1.toNat*65536^(I+s.2.2)=dv o+(el a I).toNat*65536^I*dv (b.take s.2.2)) ?_ (o,0,0) ⟨rfl,h8,⟨by dsimp only;omega,by dsimp only;omega⟩,h12,Nat.zero_le _,by simp[dv]⟩;rintro⟨p,c,k⟩⟨g1,g2,⟨g3,g3'⟩,g4,g5,g6⟩K hn he _;dsimp only at g1 g2 g3 g3' g4 g5 g6 hn;refine byVB (vbMulI a b p o.length m2 I c k K) ⟨fun hlt=> ?_,fun hge=> ?_⟩
 . have hlt:=odt hlt;have hkb:k<b.length:=by omega
   have ha:=el_dg h6 hI;have hb:=el_dg h7 hkb;have ho:=el_dg g2 (show I+k<p.length by omega);refine⟨by omega,fun x1 e1=>⟨by omega,by omega,fun x2 e2=>⟨by omega,fun x3 e3=>⟨by omega,fun x4 e4 x5 e5 x6 e6 x7 e7=> ?_⟩⟩⟩⟩;have t1:x1.toNat=I+k:=by omega
   rw[t1]at e2;have e2:x2=el p (I+k):=e2;have e3:x3=el a I:=e3;have e4:x4=el b k:=by rw[e4];rfl
   have hm:0<=x3*x4/\x3*x4<=65535*65535:=⟨Int.mul_nonneg (by omega) (by omega),Int.le_trans (Int.mul_le_mul_of_nonneg_right (show x3<=65535 by omega) (by omega)) (Int.mul_le_mul_of_nonneg_left (show x4<=65535 by omega) (by omega))⟩;have e7':x7=x2+x3*x4+c:=by omega
   refine⟨by omega,fun x8 e8=>⟨by omega,fun x9 e9=>⟨by omega,by omega,by omega,fun x10 e10=>⟨by omega,fun x11 e11=> ?_⟩⟩⟩⟩;have t8:x8.toNat=I+k:=by omega
   rw[t8,show x11=((k+1:Nat):Int)by omega];refine hn (p.set (I+k) [x9],x10,k+1) ⟨by rw[List.length_set];exact g1,dg_set g2 (by omega) (by omega),⟨by dsimp only;omega,by dsimp only;omega⟩,fun j hj hjl=> ?_,by dsimp only;omega,?_⟩ (by dsimp only;omega)
   . rw[List.length_set]at hjl;rw[el_set _ _ _ _ (by omega),if_neg (by omega)];exact g4 j hj hjl
   . dsimp only;have hs:=dv_set p (I+k) x9 (by omega);rw[dv_take_succ hkb];have hpow:(65536:Nat)^(I+(k+1))=65536^(I+k)*65536:=by rw[<-Nat.add_assoc,Nat.pow_succ]
     have hst:=mul_step (do1:=dv p) (do2:=dv o) (do3:=dv (p.set (I+k) [x9])) (A:=(el a I).toNat*65536^I) (B:=(el a I).toNat) (k1:=dv (b.take k)) (bk:=(el b k).toNat) (P:=65536^(I+k)) (x2:=(el p (I+k)).toNat) (x9:=x9.toNat) (x10:=x10.toNat) (t:=x7.toNat) (c:=c.toNat) g6 (by
       have:x7=((el p (I+k)).toNat+(el a I).toNat*(el b k).toNat+c.toNat:Nat):=by
        rw[e7',e2,e3,e4];have q1:((el p (I+k)).toNat:Int)=el p (I+k):=by omega
        have q2:((el a I).toNat:Int)=el a I:=by omega
        have q3:((el b k).toNat:Int)=el b k:=by omega
        have q4:(c.toNat:Int)=c:=by omega
        rw[Int.natCast_add,Int.natCast_add,Int.natCast_mul,q1,q2,q3,q4]
       omega) (by omega) hs (by simp) (by simp);rw[hpow,hst];have:(65536:Nat)^(I+k)=65536^I*65536^k:=Nat.pow_add _ _ _;rw[this];grind
 . have hge:=odf hge;have hk:k=b.length:=by omega
   subst hk;rw[List.take_length]at g6;exact he _ _ (hq (p,c) ⟨g1,g2,g3,g3',g4,g6⟩)
theorem loopMulO:∀v Q,(LMulO v).wp Q->hloop CMulL anMulO (nthLoop Tryz.f125 0) v Q:=by
 intro v Q h;unfold LMulO at h;split at h;case h_2=>exact h.elim
 rename_i a b n m i o m2;obtain⟨⟨h0,h1,h2,⟨h6,h7,h8,h9,h10,h11⟩,h12⟩,hq⟩:=h;subst h0 h1 h2;have hz:dv o=0:=by
  have:o=List.replicate o.length [0]:=by
   apply List.ext_getElem?;intro j;by_cases hj:j<o.length
   . have e:=(el_dg h8 hj).2.2;rw[h12 j (Nat.zero_le _) hj]at e;simp[hj,List.getD_eq_getElem?_getD]at e⊢;exact e
   . rw[List.getElem?_eq_none (by omega),List.getElem?_eq_none (by simp;omega)]
  rw[this,dv_repl]
 refine hloop_rec (σ:=LL×Nat) (fun s=>([.ce (.sl false [8] a), .ce (.sl false [8] b), .ce (.msl 1000015 o.length m2), .ce (I6 (s.2:Int))],[[.arr [8] s.1 m2]])) (fun s=>a.length-s.2) (fun s=>s.1.length=o.length/\dg s.1/\s.2<=a.length/\zer s.1 (s.2+b.length)/\dv s.1=dv (a.take s.2)*dv b) ?_ (o,0) ⟨rfl,h8,Nat.zero_le _,fun j _ hj=>h12 j (Nat.zero_le _) hj,by simp[dv,hz]⟩;rintro⟨p,i⟩⟨g1,g2,g3,g4,g5⟩K hn he _;dsimp only at g1 g2 g3 g4 g5 hn;refine byVB (vbMulO a b p o.length m2 i K) ⟨fun hlt=> ?_,fun hge=> ?_⟩
 . have hlt:=odt hlt;have hia:i<a.length:=by omega
   refine⟨⟨rfl,rfl,rfl,by omega,by omega,g1.symm,⟨h6,h7,g2,h9,h10,by omega⟩,fun j hj hjl=>g4 j (by simpa using hj) hjl⟩,fun x hx=> ?_⟩;obtain⟨q1,q2,q3,q4,q5,q6⟩:=hx;simp only[Int.toNat_natCast]at q5 q6;refine⟨by omega,fun x4 e4=>⟨by omega,fun x5 e5=>⟨by omega,by omega,fun x6 e6 x7 e7=>⟨by omega,by omega,by omega,fun x8 e8=> ?_⟩⟩⟩⟩;have t4:x4.toNat=i+b.length:=by omega
   have t5:x5.toNat=i+b.length:=by omega
   rw[t5]at e6;have e6:x6=el x.1 (i+b.length):=e6;have z6:=q5 (i+b.length) (Nat.le_refl _) (by omega);have e7:x7=x.2:=by omega
   rw[t4,show x8=((i+1:Nat):Int)by omega,e7];refine hn (x.1.set (i+b.length) [x.2],i+1) ⟨by rw[List.length_set];omega,dg_set q2 q3 q4,by dsimp only;omega,fun j hj hjl=> ?_,?_⟩ (by dsimp only;omega)
   . rw[List.length_set]at hjl;dsimp only at hj;rw[el_set _ _ _ _ (by omega),if_neg (by omega)];exact q5 j (by omega) hjl
   . dsimp only;have hs:=dv_set x.1 (i+b.length) x.2 (by omega);rw[z6]at hs;rw[dv_take_succ hia];have e0:(0:Int).toNat*65536^(i+b.length)=0:=by simp
     rw[e0,Nat.add_zero,q6,g5]at hs;rw[hs];grind
 . have hge:=odf hge;have hk:i=a.length:=by omega
   subst hk;rw[List.take_length]at g5;exact he _ _ (hq p ⟨g1,g2,g5⟩)
theorem sMulL:Sound Tryz.prog 125 SMulL:=by
 refine sound_of (C:=CMulL) tabMulL Tryz.func125 (by kernel_rfl) (by decide+kernel) (by kernel_rfl) rfl ⟨sCut,trivial⟩ (loops2 (by kernel_rfl) (loopOK_of (an:=anMulO) (S:=LMulO) (by kernel_rfl) loopMulO) (loopOK_of (an:=anMulI) (S:=LMulI) (by kernel_rfl) loopMulI)) ?_;intro hargs pars R h;unfold SMulL at h;split at h;case h_2=>exfalso;exact h
 rename_i a b;have hq:=h.2;have h:=h.1;have h1:=h.1;have h2:=h.2.1;have h3:=h.2.2.1;have h4:=h.2.2.2;refine byVC (vcMulL a b R) ⟨by omega,fun x1 e1=>⟨by omega,?_⟩⟩;have t1:x1.toNat=a.length+b.length:=by omega
 refine⟨⟨rfl,rfl,by rw[List.length_replicate],⟨h1,h2,dg_repl _,h3,h4,by rw[List.length_replicate];exact t1⟩,fun j _ _=>el_repl _ _⟩,fun x hx=> ?_⟩;obtain⟨q1,q2,q3⟩:=hx;rw[List.length_replicate]at q1;exact⟨q1.symm,⟨q2,by omega⟩,fun x4 e4=>by rw[e4,q3];exact hq⟩
theorem loopAddL:∀v Q,(LAddL v).wp Q->hloop CAddL anAddL (nthLoop Tryz.f126 0) v Q:=by
 intro v Q h;unfold LAddL at h;split at h;case h_2=>exact h.elim
 rename_i a b o c i;obtain⟨⟨h1,h2,h3,h4,h5,h6,h7⟩,hq⟩:=h;subst h2 h3;obtain rfl:o=[]:=List.eq_nil_of_length_eq_zero h1;refine hloop_rec (σ:=LL×Int×Nat) (fun s=>([.ce (.sl false [8] a), .ce (.sl false [8] b), .ce (.sl false [8] s.1), .ce (.lit true), .ce (.int .u64 s.2.1), .ce (I6 (s.2.2:Int))],[])) (fun s=>max a.length b.length+1-s.2.2) (fun s=>s.1.length=s.2.2/\dg s.1/\(0<=s.2.1/\s.2.1<=1)/\s.2.2<=max a.length b.length+1/\(s.2.2=max a.length b.length+1->s.2.1=0)/\dv s.1+s.2.1.toNat*65536^s.2.2=dv (a.take s.2.2)+dv (b.take s.2.2)) ?_ ([],0,0) ⟨rfl,(fun r hr=>by cases hr),⟨by dsimp only;omega,by dsimp only;omega⟩,Nat.zero_le _,(fun e=>by dsimp only at e;omega),by simp[dv]⟩;rintro⟨p,c,i⟩⟨g1,g2,⟨g3,g3'⟩,g4,g5,g6⟩K hn he _;dsimp only at g1 g2 g3 g3' g4 g5 g6 hn;have tk:∀(l:LL),dg l->dv (l.take (i+1))=dv (l.take i)+65536^i*(if i<l.length then(el l i).toNat else 0):=by
  intro l hl;by_cases hi:i<l.length
  . rw[if_pos hi,dv_take_succ hi]
  . rw[if_neg hi,List.take_of_length_le (by omega),List.take_of_length_le (by omega)];simp
 have ea:∀(l:LL),dg l->(if i<l.length then(el l i).toNat else 0)<65536:=by
  intro l hl;split
  . rename_i hi;have:=el_dg hl hi;omega
  . omega
 have fin:∀v:Int,v=c+((if i<a.length then(el a i).toNat else 0:Nat):Int)+((if i<b.length then(el b i).toNat else 0:Nat):Int)->(i<a.length∨i<b.length∨0<c)->(0<=v/\v<=18446744073709551615/\(65535:Int)<=18446744073709551615)/\∀x5:Int,x5=v%65536->((p.length+1)*8<=140737488355328/\p.length+1<=maxLen)/\(0:Int)<=16/\∀x6:Int,x6=v/65536->(-9223372036854775808<=(i:Int)+1/\(i:Int)+1<=9223372036854775807)/\∀x7:Int,x7=(i:Int)+1->K .normal ([.ce (.sl false [8] a), .ce (.sl false [8] b), .ce (.sl false [8] (p++[[x5]])), .ce (.lit true), .ce (.int .u64 x6), .ce (I6 x7)],[]):=by
  intro v hv hc;have b1:=ea a h4;have b2:=ea b h5;have t1:=tk a h4;have t2:=tk b h5;have hA:¬i<a.length->(if i<a.length then(el a i).toNat else 0)=0:=fun h=>if_neg h;have hB:¬i<b.length->(if i<b.length then(el b i).toNat else 0)=0:=fun h=>if_neg h;generalize(if i<a.length then(el a i).toNat else 0)=A at*;generalize(if i<b.length then(el b i).toNat else 0)=B at*;refine⟨by omega,fun x5 e5=>⟨⟨by omega,by unfold maxLen;omega⟩,by omega,fun x6 e6=>⟨by omega,fun x7 e7=> ?_⟩⟩⟩;rw[show x7=((i+1:Nat):Int)by omega];refine hn (p++[[x5]],x6,i+1) ⟨by simp[g1],dg_append g2 (dg_one (by omega) (by omega)),⟨by dsimp only;omega,by dsimp only;omega⟩,by dsimp only;omega,fun e=> ?_,?_⟩ (by dsimp only;omega)
  . dsimp only at e⊢;have:=hA (by omega);have:=hB (by omega);omega
  . dsimp only;rw[dv_append,t1,t2,g1];have e1:dv [[x5]]=x5.toNat:=by show(([x5]:List Int).getD 0 0).toNat+65536*0=_;rfl
    rw[e1,Nat.pow_succ];have e2:v.toNat=c.toNat+A+B:=by omega
    have e3:v.toNat=65536*x6.toNat+x5.toNat:=by omega
    have e4:65536^i*x5.toNat+x6.toNat*(65536^i*65536)=65536^i*v.toNat:=by rw[e3];grind
    have e5:65536^i*v.toNat=c.toNat*65536^i+65536^i*A+65536^i*B:=by rw[e2];grind
    omega
 have la:i<a.length->0<=el a i/\el a i<65536:=fun h=>⟨(el_dg h4 h).1,(el_dg h4 h).2.1⟩;have lb:i<b.length->0<=el b i/\el b i<65536:=fun h=>⟨(el_dg h5 h).1,(el_dg h5 h).2.1⟩;have fa:i<a.length->(if i<a.length then(el a i).toNat else 0)=(el a i).toNat:=fun h=>if_pos h;have fb:i<b.length->(if i<b.length then(el b i).toNat else 0)=(el b i).toNat:=fun h=>if_pos h;have na:¬i<a.length->(if i<a.length then(el a i).toNat else 0)=0:=fun h=>if_neg h;have nb:¬i<b.length->(if i<b.length then(el b i).toNat else 0)=0:=fun h=>if_neg h;generalize(if i<a.length then(el a i).toNat else 0)=A at*;generalize(if i<b.length then(el b i).toNat else 0)=B at*;refine byVB (vbAddL a b p c i K) ⟨fun p1=> ?_,fun p1=>⟨fun p2=> ?_,fun p2=>⟨fun p3=> ?_,fun p3=> ?_⟩⟩⟩;case refine_4=>
  have p1:=odf p1;have p2:=odf p2;have p3:=odf p3;obtain rfl:c=0:=by omega
  rw[List.take_of_length_le (by omega),List.take_of_length_le (by omega)]at g6;exact he _ _ (hq p ⟨g2,by omega,by simpa using g6⟩)
 all_goals
  have hc:i<a.length∨i<b.length∨0<c:=by
   first
    |exact .inl (by have:=odt p1;omega)
    |exact .inr (.inl (by have:=odt p2;omega))
    |exact .inr (.inr (by have:=odt p3;omega))
  refine⟨fun p4=>⟨?_,fun x1 e1 x2 e2=>⟨fun p5=>⟨?_,fun x3 e3 x4 e4=>fin x4 ?_ hc⟩,fun p5=>fin x2 ?_ hc⟩⟩,fun p4=>⟨fun p5=>⟨?_,fun x3 e3 x4 e4=>fin x4 ?_ hc⟩,fun p5=>fin c ?_ hc⟩⟩
  . have:=odt p4;omega
  . have:=odt p5;omega
  . have p4:=odt p4;have p5:=odt p5;have e1:x1=el a i:=by rw[e1];rfl
    have e3:x3=el b i:=by rw[e3];rfl
    have:=la (by omega);have:=lb (by omega);have:=fa (by omega);have:=fb (by omega);omega
  . have p4:=odt p4;have p5:=odf p5;have e1:x1=el a i:=by rw[e1];rfl
    have:=la (by omega);have:=fa (by omega);have:=nb (by omega);omega
  . have:=odt p5;omega
  . have p4:=odf p4;have p5:=odt p5;have e3:x3=el b i:=by rw[e3];rfl
    have:=lb (by omega);have:=fb (by omega);have:=na (by omega);omega
  . have p4:=odf p4;have p5:=odf p5;have:=na (by omega);have:=nb (by omega);omega
theorem sAddL:Sound Tryz.prog 126 SAddL:=by
 refine sound_of (C:=CAddL) tabMulL Tryz.func126 (by kernel_rfl) (by decide+kernel) (by kernel_rfl) rfl ⟨sCut,trivial⟩ (loops1 (by kernel_rfl) (loopOK_of (an:=anAddL) (S:=LAddL) (by kernel_rfl) loopAddL)) ?_;intro hargs pars R h;unfold SAddL at h;split at h;case h_2=>exfalso;exact h
 rename_i a b;have hq:=h.2;have h:=h.1;refine byVC (vcAddL a b R) ⟨⟨rfl,rfl,rfl,h⟩,fun x hx=>⟨⟨hx.1,by omega⟩,fun x2 e2=> ?_⟩⟩;rw[e2,hx.2.2];exact hq
end Go.Proofs.YthkoabbiiadbjaaGreat
namespace U
open Go
def rmo(neg exact:Bool)(half m:Int):Bool:=if m=0 then neg&& !exact else if m=1 then !neg&& !exact else(neg&&decide (half>0))||(!neg&&decide (half>=0))
def rrd(neg:Bool)(q:Int)(exact:Bool)(half m:Int):Int×Bool:=
 if q>9223372036854775808 then(0,false)else
 let v:=if rmo neg exact half m then q+1 else q
 if neg then(if v>9223372036854775808 then(0,false)else(-v,true))else(if v>9223372036854775807 then(0,false)else(v,true))
def qsat(x d:Nat):Nat:=min (x/d) 18446744073709551615
def rmd(a b c m:Int):Int×Bool:=
 if c=0∨¬(0<=m/\m<=2)then(0,false)else
 let x:=a.natAbs*b.natAbs
 let d:=c.natAbs
 let q:=qsat x d
 rrd (decide (a.sign*b.sign<0) !=decide (c<0)) q (cmp3 x (q*d)==0) (cmp3 (x+x) (q*d+q*d+d)) m
end U
namespace Go.Proofs.YthkoabbiiadbjaaGreat
open Go Go.HL U
def SProd(hA:List HV)(pA:List (List HC)):SR:=match hA,pA with
 |[.ce (.int .i64 a), .ce (.int .i64 b)],[]=> .det ((-9223372036854775808<=a/\a<=9223372036854775807)/\(-9223372036854775808<=b/\b<=9223372036854775807)) ⟨.ce (.sl false [8] (lim (a.natAbs*b.natAbs))),false,[],[]⟩
 |_,_=> .fail
def tabProd:List (FuncId×HL.Spec):=[(123,SMag),(122,SLimbs),(125,SMulL)]
noncomputable def CProd:Ctx:=⟨Tryz.prog,gam tabProd,Tryz.f121.ntmps,[],[]⟩
theorem vcProd(a b:Int)(Q:Res->Prop):(nfun true CProd Tryz.f121 (bodyOf Tryz.f121) [.ce (I6 a), .ce (I6 b)] [] Q)=(R6 a/\∀x1,x1=(((Int.natAbs a):Nat):Int)->(0<=x1/\x1<18446744073709551616)/\∀(x2:LL),x2=lim x1.toNat->R6 b/\∀x3,x3=(((Int.natAbs b):Nat):Int)->(0<=x3/\x3<18446744073709551616)/\∀(x4:LL),x4=lim x3.toNat->(dg x2/\dg x4/\x2.length<=100/\x4.length<=100)/\∀(x5:LL),x5=lim (dv x2*dv x4)->Q ⟨.ce (.sl false [8] x5),false,[],[]⟩):=by kernel_rfl
def SRounded(hA:List HV)(pA:List (List HC)):SR:=match hA,pA with
 |[.ce (.bool neg), .ce (.int .u64 q), .ce (.bool e), .ce (.int .i64 h), .ce (.int .i64 m)],[]=> .det (0<=q/\q<18446744073709551616) ⟨.tup [.ce (I6 (rrd neg q e h m).1), .ce (.bool (rrd neg q e h m).2)],false,[],[]⟩
 |_,_=> .fail
noncomputable def CRounded:Ctx:=⟨Tryz.prog,gam [],Tryz.f127.ntmps,[],[]⟩
theorem vcRounded(neg e:Bool)(q h m:Int)(Q:Res->Prop):(nfun true CRounded Tryz.f127 (bodyOf Tryz.f127) [.ce (.bool neg), .ce (.int .u64 q), .ce (.bool e), .ce (I6 h), .ce (I6 m)] [] Q)=(Bb (m==0) (Bb (neg) (Br (q>9223372036854775808) (Q ⟨.tup [.ce (I6 0), .ce (.bool false)],false,[],[]⟩) (Bb (!e) (∀x1,x1=(q+1)%18446744073709551616->Bb (neg) (Br (x1>9223372036854775808) (Q ⟨.tup [.ce (I6 0), .ce (.bool false)],false,[],[]⟩) (Bb (x1==0) (Q ⟨.tup [.ce (I6 0), .ce (.bool true)],false,[],[]⟩) (∀x2,x2=(x1-1)%18446744073709551616->R6 x2/\∀x3,x3=x2->R6 (0-x3)/\∀x4,x4=0-x3->R6 (x4-1)/\∀x5,x5=x4-1->Q ⟨.tup [.ce (I6 x5), .ce (.bool true)],false,[],[]⟩))) (Br (x1>9223372036854775807) (Q ⟨.tup [.ce (I6 0), .ce (.bool false)],false,[],[]⟩) (R6 x1/\∀x6,x6=x1->Q ⟨.tup [.ce (I6 x6), .ce (.bool true)],false,[],[]⟩))) (Bb (neg) (Br (q>9223372036854775808) (Q ⟨.tup [.ce (I6 0), .ce (.bool false)],false,[],[]⟩) (Bb (q==0) (Q ⟨.tup [.ce (I6 0), .ce (.bool true)],false,[],[]⟩) (∀x7,x7=(q-1)%18446744073709551616->R6 x7/\∀x8,x8=x7->R6 (0-x8)/\∀x9,x9=0-x8->R6 (x9-1)/\∀x10,x10=x9-1->Q ⟨.tup [.ce (I6 x10), .ce (.bool true)],false,[],[]⟩))) (Br (q>9223372036854775807) (Q ⟨.tup [.ce (I6 0), .ce (.bool false)],false,[],[]⟩) (R6 q/\∀x11,x11=q->Q ⟨.tup [.ce (I6 x11), .ce (.bool true)],false,[],[]⟩))))) (Br (q>9223372036854775808) (Q ⟨.tup [.ce (I6 0), .ce (.bool false)],false,[],[]⟩) (Bb (neg) (Br (q>9223372036854775808) (Q ⟨.tup [.ce (I6 0), .ce (.bool false)],false,[],[]⟩) (Bb (q==0) (Q ⟨.tup [.ce (I6 0), .ce (.bool true)],false,[],[]⟩) (∀x12,x12=(q-1)%18446744073709551616->R6 x12/\∀x13,x13=x12->R6 (0-x13)/\∀x14,x14=0-x13->R6 (x14-1)/\∀x15,x15=x14-1->Q ⟨.tup [.ce (I6 x15), .ce (.bool true)],false,[],[]⟩))) (Br (q>9223372036854775807) (Q ⟨.tup [.ce (I6 0), .ce (.bool false)],false,[],[]⟩) (R6 q/\∀x16,x16=q->Q ⟨.tup [.ce (I6 x16), .ce (.bool true)],false,[],[]⟩))))) (Bb (m==1) (Bb (!neg) (Br (q>9223372036854775808) (Q ⟨.tup [.ce (I6 0), .ce (.bool false)],false,[],[]⟩) (Bb (!e) (∀x17,x17=(q+1)%18446744073709551616->Bb (neg) (Br (x17>9223372036854775808) (Q ⟨.tup [.ce (I6 0), .ce (.bool false)],false,[],[]⟩) (Bb (x17==0) (Q ⟨.tup [.ce (I6 0), .ce (.bool true)],false,[],[]⟩) (∀x18,x18=(x17-1)%18446744073709551616->R6 x18/\∀x19,x19=x18->R6 (0-x19)/\∀x20,x20=0-x19->R6 (x20-1)/\∀x21,x21=x20-1->Q ⟨.tup [.ce (I6 x21), .ce (.bool true)],false,[],[]⟩))) (Br (x17>9223372036854775807) (Q ⟨.tup [.ce (I6 0), .ce (.bool false)],false,[],[]⟩) (R6 x17/\∀x22,x22=x17->Q ⟨.tup [.ce (I6 x22), .ce (.bool true)],false,[],[]⟩))) (Bb (neg) (Br (q>9223372036854775808) (Q ⟨.tup [.ce (I6 0), .ce (.bool false)],false,[],[]⟩) (Bb (q==0) (Q ⟨.tup [.ce (I6 0), .ce (.bool true)],false,[],[]⟩) (∀x23,x23=(q-1)%18446744073709551616->R6 x23/\∀x24,x24=x23->R6 (0-x24)/\∀x25,x25=0-x24->R6 (x25-1)/\∀x26,x26=x25-1->Q ⟨.tup [.ce (I6 x26), .ce (.bool true)],false,[],[]⟩))) (Br (q>9223372036854775807) (Q ⟨.tup [.ce (I6 0), .ce (.bool false)],false,[],[]⟩) (R6 q/\∀x27,x27=q->Q ⟨.tup [.ce (I6 x27), .ce (.bool true)],false,[],[]⟩))))) (Br (q>9223372036854775808) (Q ⟨.tup [.ce (I6 0), .ce (.bool false)],false,[],[]⟩) (Bb (neg) (Br (q>9223372036854775808) (Q ⟨.tup [.ce (I6 0), .ce (.bool false)],false,[],[]⟩) (Bb (q==0) (Q ⟨.tup [.ce (I6 0), .ce (.bool true)],false,[],[]⟩) (∀x28,x28=(q-1)%18446744073709551616->R6 x28/\∀x29,x29=x28->R6 (0-x29)/\∀x30,x30=0-x29->R6 (x30-1)/\∀x31,x31=x30-1->Q ⟨.tup [.ce (I6 x31), .ce (.bool true)],false,[],[]⟩))) (Br (q>9223372036854775807) (Q ⟨.tup [.ce (I6 0), .ce (.bool false)],false,[],[]⟩) (R6 q/\∀x32,x32=q->Q ⟨.tup [.ce (I6 x32), .ce (.bool true)],false,[],[]⟩))))) (Bb (neg) (Br (h>0) (Br (q>9223372036854775808) (Q ⟨.tup [.ce (I6 0), .ce (.bool false)],false,[],[]⟩) (∀x33,x33=(q+1)%18446744073709551616->Bb (neg) (Br (x33>9223372036854775808) (Q ⟨.tup [.ce (I6 0), .ce (.bool false)],false,[],[]⟩) (Bb (x33==0) (Q ⟨.tup [.ce (I6 0), .ce (.bool true)],false,[],[]⟩) (∀x34,x34=(x33-1)%18446744073709551616->R6 x34/\∀x35,x35=x34->R6 (0-x35)/\∀x36,x36=0-x35->R6 (x36-1)/\∀x37,x37=x36-1->Q ⟨.tup [.ce (I6 x37), .ce (.bool true)],false,[],[]⟩))) (Br (x33>9223372036854775807) (Q ⟨.tup [.ce (I6 0), .ce (.bool false)],false,[],[]⟩) (R6 x33/\∀x38,x38=x33->Q ⟨.tup [.ce (I6 x38), .ce (.bool true)],false,[],[]⟩)))) (Bb (!neg) (Br (q>9223372036854775808) (Q ⟨.tup [.ce (I6 0), .ce (.bool false)],false,[],[]⟩) (Br (h>=0) (∀x39,x39=(q+1)%18446744073709551616->Bb (neg) (Br (x39>9223372036854775808) (Q ⟨.tup [.ce (I6 0), .ce (.bool false)],false,[],[]⟩) (Bb (x39==0) (Q ⟨.tup [.ce (I6 0), .ce (.bool true)],false,[],[]⟩) (∀x40,x40=(x39-1)%18446744073709551616->R6 x40/\∀x41,x41=x40->R6 (0-x41)/\∀x42,x42=0-x41->R6 (x42-1)/\∀x43,x43=x42-1->Q ⟨.tup [.ce (I6 x43), .ce (.bool true)],false,[],[]⟩))) (Br (x39>9223372036854775807) (Q ⟨.tup [.ce (I6 0), .ce (.bool false)],false,[],[]⟩) (R6 x39/\∀x44,x44=x39->Q ⟨.tup [.ce (I6 x44), .ce (.bool true)],false,[],[]⟩))) (Bb (neg) (Br (q>9223372036854775808) (Q ⟨.tup [.ce (I6 0), .ce (.bool false)],false,[],[]⟩) (Bb (q==0) (Q ⟨.tup [.ce (I6 0), .ce (.bool true)],false,[],[]⟩) (∀x45,x45=(q-1)%18446744073709551616->R6 x45/\∀x46,x46=x45->R6 (0-x46)/\∀x47,x47=0-x46->R6 (x47-1)/\∀x48,x48=x47-1->Q ⟨.tup [.ce (I6 x48), .ce (.bool true)],false,[],[]⟩))) (Br (q>9223372036854775807) (Q ⟨.tup [.ce (I6 0), .ce (.bool false)],false,[],[]⟩) (R6 q/\∀x49,x49=q->Q ⟨.tup [.ce (I6 x49), .ce (.bool true)],false,[],[]⟩))))) (Br (q>9223372036854775808) (Q ⟨.tup [.ce (I6 0), .ce (.bool false)],false,[],[]⟩) (Bb (neg) (Br (q>9223372036854775808) (Q ⟨.tup [.ce (I6 0), .ce (.bool false)],false,[],[]⟩) (Bb (q==0) (Q ⟨.tup [.ce (I6 0), .ce (.bool true)],false,[],[]⟩) (∀x50,x50=(q-1)%18446744073709551616->R6 x50/\∀x51,x51=x50->R6 (0-x51)/\∀x52,x52=0-x51->R6 (x52-1)/\∀x53,x53=x52-1->Q ⟨.tup [.ce (I6 x53), .ce (.bool true)],false,[],[]⟩))) (Br (q>9223372036854775807) (Q ⟨.tup [.ce (I6 0), .ce (.bool false)],false,[],[]⟩) (R6 q/\∀x54,x54=q->Q ⟨.tup [.ce (I6 x54), .ce (.bool true)],false,[],[]⟩)))))) (Bb (!neg) (Br (q>9223372036854775808) (Q ⟨.tup [.ce (I6 0), .ce (.bool false)],false,[],[]⟩) (Br (h>=0) (∀x55,x55=(q+1)%18446744073709551616->Bb (neg) (Br (x55>9223372036854775808) (Q ⟨.tup [.ce (I6 0), .ce (.bool false)],false,[],[]⟩) (Bb (x55==0) (Q ⟨.tup [.ce (I6 0), .ce (.bool true)],false,[],[]⟩) (∀x56,x56=(x55-1)%18446744073709551616->R6 x56/\∀x57,x57=x56->R6 (0-x57)/\∀x58,x58=0-x57->R6 (x58-1)/\∀x59,x59=x58-1->Q ⟨.tup [.ce (I6 x59), .ce (.bool true)],false,[],[]⟩))) (Br (x55>9223372036854775807) (Q ⟨.tup [.ce (I6 0), .ce (.bool false)],false,[],[]⟩) (R6 x55/\∀x60,x60=x55->Q ⟨.tup [.ce (I6 x60), .ce (.bool true)],false,[],[]⟩))) (Bb (neg) (Br (q>9223372036854775808) (Q ⟨.tup [.ce (I6 0), .ce (.bool false)],false,[],[]⟩) (Bb (q==0) (Q ⟨.tup [.ce (I6 0), .ce (.bool true)],false,[],[]⟩) (∀x61,x61=(q-1)%18446744073709551616->R6 x61/\∀x62,x62=x61->R6 (0-x62)/\∀x63,x63=0-x62->R6 (x63-1)/\∀x64,x64=x63-1->Q ⟨.tup [.ce (I6 x64), .ce (.bool true)],false,[],[]⟩))) (Br (q>9223372036854775807) (Q ⟨.tup [.ce (I6 0), .ce (.bool false)],false,[],[]⟩) (R6 q/\∀x65,x65=q->Q ⟨.tup [.ce (I6 x65), .ce (.bool true)],false,[],[]⟩))))) (Br (q>9223372036854775808) (Q ⟨.tup [.ce (I6 0), .ce (.bool false)],false,[],[]⟩) (Bb (neg) (Br (q>9223372036854775808) (Q ⟨.tup [.ce (I6 0), .ce (.bool false)],false,[],[]⟩) (Bb (q==0) (Q ⟨.tup [.ce (I6 0), .ce (.bool true)],false,[],[]⟩) (∀x66,x66=(q-1)%18446744073709551616->R6 x66/\∀x67,x67=x66->R6 (0-x67)/\∀x68,x68=0-x67->R6 (x68-1)/\∀x69,x69=x68-1->Q ⟨.tup [.ce (I6 x69), .ce (.bool true)],false,[],[]⟩))) (Br (q>9223372036854775807) (Q ⟨.tup [.ce (I6 0), .ce (.bool false)],false,[],[]⟩) (R6 q/\∀x70,x70=q->Q ⟨.tup [.ce (I6 x70), .ce (.bool true)],false,[],[]⟩)))))))):=by kernel_rfl
def SRMulDiv(hA:List HV)(pA:List (List HC)):SR:=match hA,pA with
 |[.ce (.int .i64 a), .ce (.int .i64 b), .ce (.int .i64 c), .ce (.int .i64 m)],[]=> .det ((-9223372036854775808<=a/\a<=9223372036854775807)/\(-9223372036854775808<=b/\b<=9223372036854775807)/\(-9223372036854775808<=c/\c<=9223372036854775807)) ⟨.tup [.ce (I6 (rmd a b c m).1), .ce (.bool (rmd a b c m).2)],false,[],[]⟩
 |_,_=> .fail
def anRMD:LAnn:=⟨[0,1,2,3,10,11,12,13],[0,1,2,3,10,11,12],[],false⟩
def LRMD(v:LV):LR:=match v with
 |([.ce (.int .i64 a), .ce (.int .i64 b), .ce (.int .i64 c), .ce (.int .i64 m), .ce (.sl false [8] xs), .ce (.sl false [8] ds), .ce (.int .u64 q), .ce (.int .i64 i)],[])=> .det (q=0/\i=63/\xs=lim (dv xs)/\ds=lim (dv ds)/\xs.length<=8/\ds.length<=4/\0<dv ds) (.exit 0) ([.ce (I6 a), .ce (I6 b), .ce (I6 c), .ce (I6 m), .ce (.sl false [8] xs), .ce (.sl false [8] ds), .ce (.int .u64 ((qsat (dv xs) (dv ds):Nat):Int))],[])
 |_=> .fail
def tabRMD:List (FuncId×HL.Spec):=[(120,SRight),(121,SProd),(123,SMag),(122,SLimbs),(125,SMulL),(126,SAddL),(124,SCmp),(128,SSgn),(127,SRounded)]
noncomputable def CRMD:Ctx:=⟨Tryz.prog,gam tabRMD,Tryz.f96.ntmps,[(7,anRMD,LRMD)],[]⟩
theorem vcRMD(a b c m:Int)(Q:Res->Prop):(nfun true CRMD Tryz.f96 (bodyOf Tryz.f96) [.ce (I6 a), .ce (I6 b), .ce (I6 c), .ce (I6 m)] [] Q)=(Bb (c==0) (Q ⟨.tup [.ce (I6 0), .ce (.bool false)],false,[],[]⟩) (True/\∀(x1:Bool),x1=decide (0<=m/\m<=2)->Bb (!x1) (Q ⟨.tup [.ce (I6 0), .ce (.bool false)],false,[],[]⟩) ((R6 a/\ -9223372036854775808<=b/\b<=9223372036854775807)/\∀(x2:LL),x2=lim (Int.natAbs a*Int.natAbs b)->R6 c/\∀x3,x3=(((Int.natAbs c):Nat):Int)->(0<=x3/\x3<18446744073709551616)/\∀(x4:LL),x4=lim x3.toNat->((0:Int)=0/\(63:Int)=63/\x2=lim (dv x2)/\x4=lim (dv x4)/\x2.length<=8/\x4.length<=4/\(0:Nat)<dv x4)/\((0:Int)<=(((qsat (dv x2) (dv x4)):Nat):Int)/\(((qsat (dv x2) (dv x4)):Nat):Int)<18446744073709551616)/\∀(x5:LL),x5=lim (Int.toNat (((qsat (dv x2) (dv x4)):Nat):Int))->(dg x5/\dg x4/\x5.length<=100/\x4.length<=100)/\∀(x6:LL),x6=lim (dv x5*dv x4)->(dg x2/\dg x2/\x2.length<=100/\x2.length<=100)/\∀(x7:LL),x7=lim (dv x2+dv x2)->(dg x6/\dg x6/\x6.length<=100/\x6.length<=100)/\∀(x8:LL),x8=lim (dv x6+dv x6)->(dg x8/\dg x4/\x8.length<=100/\x4.length<=100)/\∀(x9:LL),x9=lim (dv x8+dv x4)->(x7=lim (dv x7)/\x9=lim (dv x9)/\x7.length<=1000/\x9.length<=1000)/\∀x10,x10=cmp3 (dv x7) (dv x9)->True/\∀x11,x11=Int.sign a*Int.sign b->(x2=lim (dv x2)/\x6=lim (dv x6)/\x2.length<=1000/\x6.length<=1000)/\∀x12,x12=cmp3 (dv x2) (dv x6)->((0:Int)<=(((qsat (dv x2) (dv x4)):Nat):Int)/\(((qsat (dv x2) (dv x4)):Nat):Int)<18446744073709551616)/\∀x13,x13=(rrd (!decide (x11<0)==decide (c<0)) ((((qsat (dv x2) (dv x4)):Nat):Int)) (x12==0) x10 m).1->∀(x14:Bool),x14=(rrd (!decide (x11<0)==decide (c<0)) ((((qsat (dv x2) (dv x4)):Nat):Int)) (x12==0) x10 m).2->Q ⟨.tup [.ce (I6 x13), .ce (.bool x14)],false,[],[]⟩))):=by kernel_rfl
theorem vbRMD(a b c m q i:Int)(xs ds:LL)(K:HEx->LV->Prop):(nbodyT true CRMD anRMD (nthLoop Tryz.f96 0) (([.ce (I6 a), .ce (I6 b), .ce (I6 c), .ce (I6 m), .ce (.sl false [8] xs), .ce (.sl false [8] ds), .ce (.int .u64 q), .ce (I6 i)],[])) K)=(Br (i>=0) (∀x1,x1=i%18446744073709551616->0<=x1/\∀x2,x2=IntKind.wrap .u64 ((1:Int)*2^min x1.toNat (64:Nat))->∀x3,x3=bor .u64 q x2->(0<=x3/\x3<18446744073709551616)/\∀(x4:LL),x4=lim x3.toNat->(dg x4/\dg ds/\x4.length<=100/\ds.length<=100)/\∀(x5:LL),x5=lim (dv x4*dv ds)->(x5=lim (dv x5)/\xs=lim (dv xs)/\x5.length<=1000/\xs.length<=1000)/\∀x6,x6=cmp3 (dv x5) (dv xs)->Br (x6<=0) (∀x7,x7=i%18446744073709551616->0<=x7/\∀x8,x8=IntKind.wrap .u64 ((1:Int)*2^min x7.toNat (64:Nat))->∀x9,x9=bor .u64 q x8->R6 (i-1)/\∀x10,x10=i-1->K .normal ([.ce (I6 a), .ce (I6 b), .ce (I6 c), .ce (I6 m), .ce (.sl false [8] xs), .ce (.sl false [8] ds), .ce (.int .u64 x9), .ce (I6 x10)],[])) (R6 (i-1)/\∀x11,x11=i-1->K .normal ([.ce (I6 a), .ce (I6 b), .ce (I6 c), .ce (I6 m), .ce (.sl false [8] xs), .ce (.sl false [8] ds), .ce (.int .u64 q), .ce (I6 x11)],[]))) (K (.exit 0) ([.ce (I6 a), .ce (I6 b), .ce (I6 c), .ce (I6 m), .ce (.sl false [8] xs), .ce (.sl false [8] ds), .ce (.int .u64 q)],[]))):=by kernel_rfl
end Go.Proofs.YthkoabbiiadbjaaGreat
namespace U
open Go Go.HL
theorem wrap_u64{x:Int}(h0:0<=x)(h1:x<18446744073709551616):IntKind.u64.wrap x=x:=by
 simp[IntKind.wrap,IntKind.signed,IntKind.bits];omega
theorem pow64{j:Nat}(h:j<64):(2:Nat)^j<18446744073709551616:=by
 have:(2:Nat)^j<2^64:=Nat.pow_lt_pow_right (by omega) h;exact this
theorem bor_pow{q j m:Nat}(hq:q=2^(j+1)*m)(hj:j<64)(hlt:q+2^j<18446744073709551616):bor .u64 (q:Int) ((2^j:Nat):Int)=((q+2^j:Nat):Int):=by
 unfold bor bitsOp;show IntKind.u64.wrap (((BitVec.ofInt 64 (q:Int))|||(BitVec.ofInt 64 ((2^j:Nat):Int))).toNat:Int)=_;rw[BitVec.ofInt_natCast,BitVec.ofInt_natCast,BitVec.toNat_or,BitVec.toNat_ofNat,BitVec.toNat_ofNat];have h1:q%2^64=q:=Nat.mod_eq_of_lt (Nat.lt_of_le_of_lt (Nat.le_add_right _ _) hlt);have h2:2^j%2^64=2^j:=Nat.mod_eq_of_lt (pow64 hj);rw[h1,h2];have h3:q+2^j=q|||2^j:=by
  rw[hq];exact Nat.two_pow_add_eq_or_of_lt (Nat.pow_lt_pow_right (by omega) (by omega)) m
 rw[<-h3];exact wrap_u64 (by omega) (by omega)
theorem shl_one{j:Nat}(h:j<64):IntKind.u64.wrap (1*2^min ((j:Int)%18446744073709551616).toNat 64)=((2^j:Nat):Int):=by
 have e:((j:Int)%18446744073709551616).toNat=j:=by omega
 rw[e,Nat.min_eq_left (by omega),Int.one_mul];have e2:(2:Int)^j=((2^j:Nat):Int):=by simp
 rw[e2];exact wrap_u64 (Int.natCast_nonneg _) (by have:=pow64 h;omega)
theorem greedy(Q j:Nat):Q/2^j*2^j=if Q/2^(j+1)*2^(j+1)+2^j<=Q then Q/2^(j+1)*2^(j+1)+2^j else Q/2^(j+1)*2^(j+1):=by
 have hp:0<2^j:=Nat.pow_pos (by omega);have h1:Q/2^(j+1)=Q/2^j/2:=by rw[Nat.pow_succ,Nat.div_div_eq_div_mul]
 rw[h1,Nat.pow_succ];have h2:=Nat.div_add_mod Q (2^j);have h3:=Nat.mod_lt Q hp;have h4:=Nat.div_add_mod (Q/2^j) 2;have h5:Q/2^j%2=0∨Q/2^j%2=1:=by omega
 generalize Q/2^j=A at*;generalize A/2=B at*;rcases h5 with h5|h5<;>rw[h5]at h4
 . subst h4;have e:B*(2^j*2)=(2*B+0)*2^j:=by grind
   have e2:2^j*(2*B+0)=(2*B+0)*2^j:=by grind
   rw[e,if_neg (by omega)]
 . subst h4;have e:(2*B+1)*2^j=B*(2^j*2)+2^j:=by grind
   have e2:2^j*(2*B+1)=B*(2^j*2)+2^j:=by grind
   rw[e,if_pos (by omega)]
theorem qsat_test{x d s:Nat}(hd:0<d)(hs:s<18446744073709551616):s*d<=x↔s<=qsat x d:=by
 unfold qsat;rw[<-Nat.le_div_iff_mul_le hd];omega
theorem cmp3_le{x y:Nat}:cmp3 x y<=0↔x<=y:=by
 unfold cmp3;split
 . omega
 . split<;>omega
theorem natAbs_lim{a:Int}(h: -9223372036854775808<=a/\a<=9223372036854775807):a.natAbs<65536^4:=by omega
theorem prod_lim{a b:Int}(ha: -9223372036854775808<=a/\a<=9223372036854775807)(hb: -9223372036854775808<=b/\b<=9223372036854775807):a.natAbs*b.natAbs<65536^8:=by
 have h1:=natAbs_lim ha;have h2:=natAbs_lim hb;have:a.natAbs*b.natAbs<65536^4*65536^4:=Nat.mul_lt_mul'' h1 h2;exact this
end U
namespace Go.Proofs.YthkoabbiiadbjaaGreat
open Go Go.HL U
theorem sProd:Sound Tryz.prog 121 SProd:=by
 refine sound_of (C:=CProd) tabProd Tryz.func121 (by kernel_rfl) (by decide+kernel) (by kernel_rfl) rfl ⟨sMag,sLimbs,sMulL,trivial⟩ (loops0 (by kernel_rfl)) ?_;intro hA pA R h;unfold SProd at h;split at h;case h_2=>exfalso;exact h
 rename_i a b;have hq:=h.2;have h:=h.1;have l1:=lim_len 4 a.natAbs (natAbs_lim h.1);have l2:=lim_len 4 b.natAbs (natAbs_lim h.2);refine byVC (vcProd a b R) ⟨h.1,fun x1 e1=>⟨by omega,fun x2 e2=>⟨h.2,fun x3 e3=>⟨by omega,fun x4 e4=> ?_⟩⟩⟩⟩;have t1:x1.toNat=a.natAbs:=by omega
 have t3:x3.toNat=b.natAbs:=by omega
 rw[t1]at e2;rw[t3]at e4;subst e2 e4;refine⟨⟨dg_lim _,dg_lim _,by omega,by omega⟩,fun x5 e5=> ?_⟩;rw[dv_lim,dv_lim]at e5;subst e5;exact hq
def rtail(neg:Bool)(v:Int)(Q:Res->Prop):Prop:=(neg=true->(decide (v>(9223372036854775808:Int))=true->Q ⟨.tup [.ce (I6 0), .ce (.bool false)],false,[],[]⟩)/\(decide (v>(9223372036854775808:Int))=false->((v==(0:Int))=true->Q ⟨.tup [.ce (I6 0), .ce (.bool true)],false,[],[]⟩)/\((v==(0:Int))=false->∀x2:Int,x2=(v-1)%(18446744073709551616:Int)->((-9223372036854775808:Int)<=x2/\x2<=(9223372036854775807:Int))/\∀x3:Int,x3=x2->((-9223372036854775808:Int)<=(0:Int)-x3/\(0:Int)-x3<=(9223372036854775807:Int))/\∀x4:Int,x4=(0:Int)-x3->((-9223372036854775808:Int)<=x4-1/\x4-1<=(9223372036854775807:Int))/\∀x5:Int,x5=x4-1->Q ⟨.tup [.ce (I6 x5), .ce (.bool true)],false,[],[]⟩)))/\(neg=false->(decide (v>(9223372036854775807:Int))=true->Q ⟨.tup [.ce (I6 0), .ce (.bool false)],false,[],[]⟩)/\(decide (v>(9223372036854775807:Int))=false->((-9223372036854775808:Int)<=v/\v<=(9223372036854775807:Int))/\∀x6:Int,x6=v->Q ⟨.tup [.ce (I6 x6), .ce (.bool true)],false,[],[]⟩))
theorem rtail_ok{neg e:Bool}{q h m:Int}{R:Res->Prop}(h0:0<=q)(hq:R ⟨.tup [.ce (I6 (rrd neg q e h m).1), .ce (.bool (rrd neg q e h m).2)],false,[],[]⟩)(v:Int)(hv:v=if rmo neg e h m then q+1 else q)(hle:q<=9223372036854775808):rtail neg v R:=by
 unfold rrd at hq;rw[if_neg (by omega)]at hq;dsimp only at hq;rw[<-hv]at hq;have hv0:0<=v:=by rw[hv];split<;>omega
 unfold rtail;refine⟨fun hn=>⟨fun k=> ?_,fun k=>⟨fun z=> ?_,fun z x2 e2=> ?_⟩⟩,fun hn=>⟨fun k=> ?_,fun k=> ?_⟩⟩
 . have k:=odt k;rw[hn,if_pos rfl,if_pos k]at hq;exact hq
 . have k:=odf k;rw[hn,if_pos rfl,if_neg k]at hq;have z:v=0:=by simpa using z
   rw[z]at hq;exact hq
 . have k:=odf k;rw[hn,if_pos rfl,if_neg k]at hq;have z:v≠0:=by simpa using z
   refine⟨by omega,fun x3 e3=>⟨by omega,fun x4 e4=>⟨by omega,fun x5 e5=> ?_⟩⟩⟩;rw[show x5= -v by omega];exact hq
 . have k:=odt k;rw[hn,if_neg (by simp),if_pos k]at hq;exact hq
 . have k:=odf k;rw[hn,if_neg (by simp),if_neg k]at hq;refine⟨by omega,fun x6 e6=> ?_⟩;rw[e6];exact hq
theorem sRounded:Sound Tryz.prog 127 SRounded:=by
 refine sound_of (C:=CRounded) [] Tryz.func127 (by kernel_rfl) (by decide+kernel) (by kernel_rfl) rfl trivial (loops0 (by kernel_rfl)) ?_;intro hA pA R h;unfold SRounded at h;split at h;case h_2=>exfalso;exact h
 rename_i neg q e hh m;have h0:=h.1;have hq:=h.2;clear h;have big:q>9223372036854775808->R ⟨.tup [.ce (I6 0), .ce (.bool false)],false,[],[]⟩:=fun k=>by
  unfold rrd at hq;rw[if_pos k]at hq;exact hq
 have tail:=rtail_ok h0.1 hq;clear hq;refine byVC (vcRounded neg e q hh m R) ?_;repeat'(first
  |exact big (by simp_all;done)
  |refine(tail _ ?_ ?_:rtail neg _ R)
  |apply And.intro
  |intro _)
 all_goals first
  |(simp_all;done)
  |(simp_all[rmo];done)
  |(simp_all[rmo];omega)
  |(simp_all;omega)
theorem loopRMD:∀v Q,(LRMD v).wp Q->hloop CRMD anRMD (nthLoop Tryz.f96 0) v Q:=by
 intro v Q h;unfold LRMD at h;split at h;case h_2=>exact h.elim
 rename_i a b c m xs ds q i;obtain⟨⟨h1,h2,h3,h4,h5,h6,h7⟩,hq⟩:=h;subst h1 h2;have hQ:qsat (dv xs) (dv ds)<18446744073709551616:=by unfold qsat;omega
 have hdg:dg ds:=by rw[h4];exact dg_lim _
 refine hloop_rec (σ:=Nat) (fun j=>([.ce (I6 a), .ce (I6 b), .ce (I6 c), .ce (I6 m), .ce (.sl false [8] xs), .ce (.sl false [8] ds), .ce (.int .u64 ((qsat (dv xs) (dv ds)/2^j*2^j:Nat):Int)), .ce (I6 ((j:Int)-1))],[])) (fun j=>j) (fun j=>j<=64) ?_ 64 (Nat.le_refl _)|>(fun x=>by rwa[show((qsat (dv xs) (dv ds)/2^64*2^64:Nat):Int)=0 by rw[Nat.div_eq_of_lt hQ];simp]at x);intro j hj K hn he _;refine byVB (vbRMD a b c m _ _ xs ds K) ⟨fun hlt x1 e1=>⟨by omega,fun x2 e2 x3 e3=> ?_⟩,fun hge=> ?_⟩
 . have hlt:=odt hlt;obtain⟨k,rfl⟩:∃k,j=k+1:=⟨j-1,by omega⟩;have hk:k<64:=by omega
   have ek:(((k+1:Nat):Int)-1)=(k:Int):=by omega
   rw[ek]at e1;rw[e1,shl_one hk]at e2;have g:=greedy (qsat (dv xs) (dv ds)) k;have ub:qsat (dv xs) (dv ds)/2^(k+1)*2^(k+1)+2^k<18446744073709551616:=by
    have hp:(2:Nat)^(k+1)=2*2^k:=by rw[Nat.pow_succ];omega
    have h64:(18446744073709551616:Nat)=2^(63-k)*2^(k+1):=by
     rw[<-Nat.pow_add,show 63-k+(k+1)=64 by omega]
    have hlt2:qsat (dv xs) (dv ds)/2^(k+1)<2^(63-k):=by
     rw[Nat.div_lt_iff_lt_mul (Nat.pow_pos (by omega)),<-h64];exact hQ
    have:(qsat (dv xs) (dv ds)/2^(k+1)+1)*2^(k+1)<=2^(63-k)*2^(k+1):=Nat.mul_le_mul_right _ hlt2;rw[Nat.add_mul,Nat.one_mul,<-h64]at this;have hpos:0<2^k:=Nat.pow_pos (by omega);omega
   have e3':x3=((qsat (dv xs) (dv ds)/2^(k+1)*2^(k+1)+2^k:Nat):Int):=by
    rw[e3,e2];exact bor_pow (m:=qsat (dv xs) (dv ds)/2^(k+1)) (Nat.mul_comm _ _) hk ub
   have htest:=qsat_test (x:=dv xs) (d:=dv ds) (s:=qsat (dv xs) (dv ds)/2^(k+1)*2^(k+1)+2^k) h7 ub;generalize hs:qsat (dv xs) (dv ds)/2^(k+1)*2^(k+1)+2^k=s at*;have t3:x3.toNat=s:=by omega
   refine⟨by omega,fun x4 e4=> ?_⟩;rw[t3]at e4;subst e4;have l4:=lim_len 4 s (by omega);refine⟨⟨dg_lim _,hdg,by omega,by omega⟩,fun x5 e5=> ?_⟩;rw[dv_lim]at e5;subst e5;have l5:(lim (s*dv ds)).length<=8:=lim_len 8 _ (by
    have d1:=dv_lt hdg;have d2:65536^ds.length<=65536^4:=Nat.pow_le_pow_right (by omega) h6;have:s*dv ds<65536^4*65536^4:=Nat.mul_lt_mul'' (by omega) (by omega);exact this);refine⟨⟨(lim_dv_lim _).symm,h3,by omega,by omega⟩,fun x6 e6=> ?_⟩;rw[dv_lim]at e6;refine⟨fun hle x7 e7=>⟨by omega,fun x8 e8 x9 e9=>⟨by omega,fun x10 e10=> ?_⟩⟩,fun hle=>⟨by omega,fun x11 e11=> ?_⟩⟩
   . have hle:=odt hle;rw[e6,cmp3_le,htest]at hle;rw[if_pos hle]at g;rw[ek]at e7;rw[e7,shl_one hk]at e8;have e9':x9=(s:Int):=by rw[e9,e8,<-e2,<-e3];exact e3'
     rw[show x10=(k:Int)-1 by omega,e9',<-g];exact hn k (by omega) (by omega)
   . have hle:=odf hle;rw[e6,cmp3_le,htest]at hle;rw[if_neg hle]at g;rw[show x11=(k:Int)-1 by omega,<-g];exact hn k (by omega) (by omega)
 . have hge:=odf hge;obtain rfl:j=0:=by omega
   have e:qsat (dv xs) (dv ds)/2^0*2^0=qsat (dv xs) (dv ds):=by simp
   rw[e];exact he _ _ hq
theorem sRMulDiv:Sound Tryz.prog 96 SRMulDiv:=by
 refine sound_of (C:=CRMD) tabRMD Tryz.func96 (by kernel_rfl) (by decide+kernel) (by kernel_rfl) rfl ⟨sRight,sProd,sMag,sLimbs,sMulL,sAddL,sCmp,sSgn,sRounded,trivial⟩ (loops1 (by kernel_rfl) (loopOK_of (an:=anRMD) (S:=LRMD) (by kernel_rfl) loopRMD)) ?_;intro hA pA R h;unfold SRMulDiv at h;split at h;case h_2=>exfalso;exact h
 rename_i a b c m;have hq:=h.2;have ha:=h.1.1;have hb:=h.1.2.1;have hc:=h.1.2.2;clear h;have l0:=lim_len 8 _ (prod_lim ha hb);have l1:=lim_len 4 _ (natAbs_lim hc);refine byVC (vcRMD a b c m R) ⟨fun z=> ?_,fun z=>⟨trivial,fun x1 e1=>⟨fun w=> ?_,fun w=>⟨⟨ha,hb⟩,fun x2 e2=>⟨hc,fun x3 e3=>⟨by omega,fun x4 e4=> ?_⟩⟩⟩⟩⟩⟩
 . have z:c=0:=by simpa using z
   unfold rmd at hq;rw[if_pos (.inl z)]at hq;exact hq
 . unfold rmd at hq;rw[if_pos (.inr (by
    rw[e1]at w;have w:m<0∨2<m:=by simpa using w
    omega))]at hq;exact hq
 . have z:c≠0:=by simpa using z
   have w:0<=m/\m<=2:=by rw[e1]at w;simpa using w
   unfold rmd at hq;rw[if_neg (by omega)]at hq;dsimp only at hq;have t3:x3.toNat=c.natAbs:=by omega
   rw[t3]at e4;subst e2 e4;simp only[dv_lim];have hQ:qsat (a.natAbs*b.natAbs) c.natAbs<18446744073709551616:=by unfold qsat;omega
   have hX:=prod_lim ha hb;have hD:=natAbs_lim hc;generalize a.natAbs*b.natAbs=X at*;have hD0:0<c.natAbs:=by omega
   generalize c.natAbs=D at*;generalize qsat X D=Q at*;refine⟨⟨trivial,trivial,trivial,trivial,l0,l1,hD0⟩,by omega,fun x5 e5=> ?_⟩;have t5:((Q:Nat):Int).toNat=Q:=by omega
   rw[t5]at e5;subst e5;have l5:=lim_len 4 Q (by omega);refine⟨⟨dg_lim _,dg_lim _,by omega,by omega⟩,fun x6 e6=> ?_⟩;rw[dv_lim]at e6;subst e6;have hQD:Q*D<65536^8:=by
    have:Q*D<65536^4*65536^4:=Nat.mul_lt_mul'' (by omega) (by omega);exact this
   generalize hY:Q*D=Y at*;have l6:=lim_len 8 Y hQD;refine⟨⟨dg_lim _,dg_lim _,by omega,by omega⟩,fun x7 e7=>⟨⟨dg_lim _,dg_lim _,by omega,by omega⟩,fun x8 e8=> ?_⟩⟩;rw[dv_lim]at e8;subst e7 e8;have l7:=lim_len 9 (X+X) (by omega);have l8:=lim_len 9 (Y+Y) (by omega);refine⟨⟨dg_lim _,dg_lim _,by omega,by omega⟩,fun x9 e9=> ?_⟩;rw[dv_lim]at e9;subst e9;have l9:=lim_len 9 (Y+Y+D) (by omega);simp only[dv_lim];refine⟨⟨trivial,trivial,by omega,by omega⟩,fun x10 e10=>⟨trivial,fun x11 e11=>⟨⟨trivial,trivial,by omega,by omega⟩,fun x12 e12=>⟨by omega,fun x13 e13 x14 e14=> ?_⟩⟩⟩⟩;subst e10 e11 e12;rw[e13,e14];exact hq
noncomputable def CMotion:Ctx:=⟨Tryz.prog,gam [],Tryz.f45.ntmps,[],[]⟩
theorem vcMotion(k:Int)(Q:Res->Prop):(nfun true CMotion Tryz.f45 (bodyOf Tryz.f45) [.ce (I6 k)] [] Q)=(Br (k>=1) (Q ⟨.ce (.bool (decide (k<=6))),false,[],[]⟩) (Q ⟨.ce (.bool false),false,[],[]⟩)):=by kernel_rfl
end Go.Proofs.YthkoabbiiadbjaaGreat
namespace U
open Go
structure It where
 k0:Int
 bk:Int
 f0:Int
 f1:Int
 f2:Int
 t0:Int
 t1:Int
 t2:Int
 pl:Int
 c0:Int
 c1:Int
 c2:Int
 dr:Int
 fu:Bool
 fd:Int
 pr:Bool
 sd:Int
 ra:Int
 bl:Int
 nn:Int
 sp:Int
 on:Bool
theorem ec_app_lt{y:List (List Int)}{r:List Int}{j c:Nat}(h:j<y.length):ec (y++[r]) j c=ec y j c:=by
 unfold ec;have e:(y++[r]).getD j []=y.getD j []:=by rw[List.getD_eq_getElem?_getD,List.getElem?_append_left h,<-List.getD_eq_getElem?_getD]
 rw[e]
theorem ec_app_eq{y:List (List Int)}{r:List Int}{c:Nat}:ec (y++[r]) y.length c=r.getD c 0:=by
 unfold ec;have:(y++[r]).getD y.length []=r:=by simp[List.getD_eq_getElem?_getD]
 rw[this]
end U
namespace Go.Proofs.YthkoabbiiadbjaaGreat
open Go Go.HL U
def SSmooth(hA:List HV)(pA:List (List HC)):SR:=match hA,pA with
 |[.agg [.int .i64 k0, .int .i64 bk, .int .i64 f0, .int .i64 f1, .int .i64 f2, .int .i64 t0, .int .i64 t1, .int .i64 t2, .int .i64 pl, .int .i64 c0, .int .i64 c1, .int .i64 c2, .int .i64 dr, .bool fu, .int .i64 fd, .bool pr, .int .i64 sd, .int .i64 ra, .int .i64 bl, .int .i64 nn, .int .i64 sp, .bool on]],[]=> .all True Bool (fun x=>x=true->k0=2) (fun x=>⟨.ce (.bool x),false,[],[]⟩)
 |_,_=> .fail
noncomputable def CSmooth:Ctx:=⟨Tryz.prog,gam [],Tryz.f89.ntmps,[],[]⟩
theorem vcSmooth(k0 bk f0 f1 f2 t0 t1 t2 pl c0 c1 c2 dr fd sd ra bl nn sp:Int)(fu pr on:Bool)(Q:Res->Prop):(nfun true CSmooth Tryz.f89 (bodyOf Tryz.f89) [.agg [I6 k0,I6 bk,I6 f0,I6 f1,I6 f2,I6 t0,I6 t1,I6 t2,I6 pl,I6 c0,I6 c1,I6 c2,I6 dr, .bool fu,I6 fd, .bool pr,I6 sd,I6 ra,I6 bl,I6 nn,I6 sp, .bool on]] [] Q)=(Bb (k0==2) (Q ⟨.ce (.bool !(f0==t0&&(f1==t1&&(f2==t2&&true)))),false,[],[]⟩) (Q ⟨.ce (.bool false),false,[],[]⟩)):=by kernel_rfl
def tabRate:List (FuncId×HL.Spec):=[(87,SRnd)]
noncomputable def CRate:Ctx:=⟨Tryz.prog,gam tabRate,Tryz.f48.ntmps,[],[]⟩
theorem vcRate(s:Int)(k0 bk f0 f1 f2 t0 t1 t2 pl c0 c1 c2 dr fd sd ra bl nn sp:Int)(fu pr on:Bool)(Q:Res->Prop):(nfun true CRate Tryz.f48 (bodyOf Tryz.f48) [.agg [I6 k0,I6 bk,I6 f0,I6 f1,I6 f2,I6 t0,I6 t1,I6 t2,I6 pl,I6 c0,I6 c1,I6 c2,I6 dr, .bool fu,I6 fd, .bool pr,I6 sd,I6 ra,I6 bl,I6 nn,I6 sp, .bool on], .ce (I6 s)] [] Q)=(Bb (k0==1) (Q ⟨.ce (I6 0),false,[],[]⟩) (Bb (pr) (∀x1,x1=max s 1->R6 (fd*x1)/\∀x2,x2=fd*x1->∀x3,x3=min x2 60000000->R6 (x3*16)/\∀x4,x4=x3*16->R6 (x4*256)/\∀x5,x5=x4*256->(-2305843009213693952<=x5/\x5<=2305843009213693952/\(0:Int)<60000/\(60000:Int)<=2305843009213693952)/\∀x6,x6=rnd x5 (60000:Int)->∀x7,x7=max x6 1->Q ⟨.ce (I6 x7),false,[],[]⟩) (∀x8,x8=min fd 60000000->R6 (x8*16)/\∀x9,x9=x8*16->(-9223372036854775808<=x9*256/\x9*256<=9223372036854775807)/\∀x10,x10=x9*256->(-2305843009213693952<=x10/\x10<=2305843009213693952/\(0:Int)<60000/\(60000:Int)<=2305843009213693952)/\∀x11,x11=rnd x10 (60000:Int)->∀x12,x12=max x11 1->Q ⟨.ce (I6 x12),false,[],[]⟩))):=by kernel_rfl
noncomputable def CSync:Ctx:=⟨Tryz.prog,gam [],Tryz.f49.ntmps,[],[]⟩
theorem vcSync(k0 bk f0 f1 f2 t0 t1 t2 pl c0 c1 c2 dr fd sd ra bl nn sp:Int)(fu pr on:Bool)(Q:Res->Prop):(nfun true CSync Tryz.f49 (bodyOf Tryz.f49) [.agg [I6 k0,I6 bk,I6 f0,I6 f1,I6 f2,I6 t0,I6 t1,I6 t2,I6 pl,I6 c0,I6 c1,I6 c2,I6 dr, .bool fu,I6 fd, .bool pr,I6 sd,I6 ra,I6 bl,I6 nn,I6 sp, .bool on]] [] Q)=(Bb (k0==5) (Q ⟨.ce (.bool true),false,[],[]⟩) (Q ⟨.ce (.bool (k0==6)),false,[],[]⟩)):=by kernel_rfl
def tabSoft:List (FuncId×HL.Spec):=[(89,SSmooth)]
def anCheck:LAnn:=⟨[0,2,3,9,10,11],[2],[],false⟩
section
attribute [local irreducible] hfun bodyT fragT
theorem sSmooth:Sound Tryz.prog 89 SSmooth:=by
 refine sound_of (C:=CSmooth) [] Tryz.func89 (by kernel_rfl) (by decide+kernel) (by kernel_rfl) rfl trivial (loops0 (by kernel_rfl)) ?_;intro hA pA R h;unfold SSmooth at h;split at h;case h_2=>exfalso;exact h
 rename_i k0 bk f0 f1 f2 t0 t1 t2 pl c0 c1 c2 dr fu fd pr sd ra bl nn sp on;obtain⟨_,_,hR⟩:=h;refine byVC (vcSmooth k0 bk f0 f1 f2 t0 t1 t2 pl c0 c1 c2 dr fd sd ra bl nn sp fu pr on R) ⟨fun g=>hR _ fun _=>by simpa using g,fun _=>hR false fun e=>(by cases e)⟩
end
end Go.Proofs.YthkoabbiiadbjaaGreat
namespace U
open Go
def okSegs(s0 s1 s2:Int)(sg:LL):Prop:=∀j,j<sg.length->b3 32768 (ec sg j 0) (ec sg j 1) (ec sg j 2)/\(1<=ec sg j 3/\ec sg j 3<=131072)/\b3 (ec sg j 3) (ec sg j 0-bgn s0 sg 0 j) (ec sg j 1-bgn s1 sg 1 j) (ec sg j 2-bgn s2 sg 2 j)
def lastAt(s0 s1 s2:Int)(sg:LL)(a0 a1 a2:Int):Prop:=a0=bgn s0 sg 0 sg.length/\a1=bgn s1 sg 1 sg.length/\a2=bgn s2 sg 2 sg.length
structure BSt where
 a0:Int
 a1:Int
 a2:Int
 n:Int
 s0:Int
 s1:Int
 s2:Int
 sg:LL
 mks:LL
 fr:Int
 bg:Bool
def okB(m:Nat)(x:BSt):Prop:=b3 32768 x.a0 x.a1 x.a2/\b3 32768 x.s0 x.s1 x.s2/\okSegs x.s0 x.s1 x.s2 x.sg/\lastAt x.s0 x.s1 x.s2 x.sg x.a0 x.a1 x.a2/\x.n=plen x.sg/\x.sg.length<=m/\x.mks.length<=10
def okPath(s0 s1 s2:Int)(sg mk:LL):Prop:=b3 32768 s0 s1 s2/\okSegs s0 s1 s2 sg/\sg.length<=355000/\mk.length<=10
end U
namespace Go.Proofs.YthkoabbiiadbjaaGreat
open Go Go.HL U
def SOther(hA:List HV)(pA:List (List HC)):SR:=match hA,pA with
 |[.agg [.int .i64 k0, .int .i64 bk, .int .i64 f0, .int .i64 f1, .int .i64 f2, .int .i64 t0, .int .i64 t1, .int .i64 t2, .int .i64 pl, .int .i64 c0, .int .i64 c1, .int .i64 c2, .int .i64 dr, .bool fu, .int .i64 fd, .bool pr, .int .i64 sd, .int .i64 ra, .int .i64 bl, .int .i64 nn, .int .i64 sp, .bool on]],[]=> .all True Int (fun _=>True) (fun x=>⟨.ce (I6 x),false,[],[]⟩)
 |_,_=> .fail
noncomputable def COther:Ctx:=⟨Tryz.prog,gam [],Tryz.f46.ntmps,[],[]⟩
theorem vcOther(k0 bk f0 f1 f2 t0 t1 t2 pl c0 c1 c2 dr fd sd ra bl nn sp:Int)(fu pr on:Bool)(Q:Res->Prop):(nfun true COther Tryz.f46 (bodyOf Tryz.f46) [.agg [I6 k0,I6 bk,I6 f0,I6 f1,I6 f2,I6 t0,I6 t1,I6 t2,I6 pl,I6 c0,I6 c1,I6 c2,I6 dr, .bool fu,I6 fd, .bool pr,I6 sd,I6 ra,I6 bl,I6 nn,I6 sp, .bool on]] [] Q)=(Bb (k0==10) (Q ⟨.ce (I6 5),false,[],[]⟩) (Bb (k0==13) (Q ⟨.ce (I6 4),false,[],[]⟩) (Q ⟨.ce (I6 3),false,[],[]⟩))):=by kernel_rfl
def anB0:LAnn:=⟨[0,2,3,5,6,7,8,9,10,23,24,25],[2,3,5],[1000002,1000005,1000006],false⟩
def anB1:LAnn:=⟨[0,2,3,5,6,7,8,10,11,12,13,23,24,25,83,84,85],[0,2,3,5,6,7,8,10,11,12,23,24,25],[1000002,1000005,1000006,1000012,1000013],false⟩
def LB1(v:LV):LR:=match v with
 |([.ce (.sl false ks l), .ce (.ptr 1000002 0), .ce (.int .i64 r), .ce (.ptr 1000005 0), .ce (.ptr 1000006 0), .ce (.int .i64 n), .ce (.int .i64 s), .ce (.bool bg), .ce (.int .i64 ix), .ce (.ptr 1000012 0), .ce (.ptr 1000013 0), .ce (.sl false ks2 l2), .ce (.int .i64 m), .ce (.int .i64 i), .ce (.sl false [4,4,4] q), .ce (.int .i64 qn), .ce (.int .i64 j)],[rb,pb,ab,ib,gb])=>bif ksEq ks [4,4,4,4,4,4,4,4,4,4,4,4,4,0,4,0,4,4,4,4,4,0]&&ksEq ks2 [4,4,4,4,4,4,4,4,4,4,4,4,4,0,4,0,4,4,4,4,4,0]then match rb with
  |[.int .i64 z0, .int .i64 z1, .int .i64 z2, .sl true [4,4,4,4,4,4,4] zs, .sl true [4,4,4] zm]=>match pb with
   |[.int .i64 s0, .int .i64 s1, .int .i64 s2, .sl true [4,4,4,4,4,4,4] sg, .sl true [4,4,4] mk]=>match ab with
    |[.int .i64 a0, .int .i64 a1, .int .i64 a2]=>match gb with
     |[.int .i64 g0, .int .i64 g1, .int .i64 g2, .int .i64 g3, .int .i64 g4, .int .i64 g5, .int .i64 g6]=>match ib with
      |[.int .i64 k0, .int .i64 bk, .int .i64 f0, .int .i64 f1, .int .i64 f2, .int .i64 t0, .int .i64 t1, .int .i64 t2, .int .i64 pl, .int .i64 c0, .int .i64 c1, .int .i64 c2, .int .i64 dr, .bool fu, .int .i64 fd, .bool pr, .int .i64 sd, .int .i64 ra, .int .i64 bl, .int .i64 nn, .int .i64 sp, .bool on]=> .all (qn=(q.length:Int)/\j=0/\q.length<=71000/\ptsOK 32768 q/\okB 284000 ⟨a0,a1,a2,n,s0,s1,s2,sg,mk,-1,false⟩) (BSt×Int×Int×Int×Int) (fun x=>okB (sg.length+71000) x.1/\x.1.s0=s0/\x.1.s1=s1/\x.1.s2=s2/\x.1.mks=mk) (fun _=> .exit 2) (fun x=>([.ce (.sl false [4,4,4,4,4,4,4,4,4,4,4,4,4,0,4,0,4,4,4,4,4,0] l), .ce (.ptr 1000002 0), .ce (I6 r), .ce (.ptr 1000005 0), .ce (.ptr 1000006 0), .ce (I6 x.1.n), .ce (I6 s), .ce (.bool bg), .ce (I6 ix), .ce (.ptr 1000012 0), .ce (.sl false [4,4,4,4,4,4,4,4,4,4,4,4,4,0,4,0,4,4,4,4,4,0] l2), .ce (I6 m), .ce (I6 i)],[[I6 z0,I6 z1,I6 z2, .sl true [4,4,4,4,4,4,4] zs, .sl true [4,4,4] zm],[I6 x.1.s0,I6 x.1.s1,I6 x.1.s2, .sl true [4,4,4,4,4,4,4] x.1.sg, .sl true [4,4,4] x.1.mks],[I6 x.1.a0,I6 x.1.a1,I6 x.1.a2],[I6 k0,I6 bk,I6 f0,I6 f1,I6 f2,I6 t0,I6 t1,I6 t2,I6 pl,I6 c0,I6 c1,I6 c2,I6 dr, .bool fu,I6 fd, .bool pr,I6 sd,I6 ra,I6 bl,I6 nn,I6 sp, .bool on],[I6 x.2.1,I6 x.2.2.1,I6 x.2.2.2.1,I6 x.2.2.2.2,I6 g4,I6 g5,I6 g6]]))
      |_=> .fail
     |_=> .fail
    |_=> .fail
   |_=> .fail
  |_=> .fail else .fail
 |_=> .fail
end Go.Proofs.YthkoabbiiadbjaaGreat
namespace U
theorem bgn_app{s:Int}{sg:LL}{r:List Int}{c:Nat}{j:Nat}(h:j<=sg.length):bgn s (sg++[r]) c j=bgn s sg c j:=by
 unfold bgn;by_cases h0:(j:Int)<=0
 . rw[if_pos h0,if_pos h0]
 . rw[if_neg h0,if_neg h0];have:((j:Int)-1).toNat<sg.length:=by omega
   unfold ec;have e:(sg++[r]).getD ((j:Int)-1).toNat []=sg.getD ((j:Int)-1).toNat []:=by rw[List.getD_eq_getElem?_getD,List.getElem?_append_left this,<-List.getD_eq_getElem?_getD]
   rw[e]
theorem bgn_last{s:Int}{sg:LL}{r:List Int}{c:Nat}:bgn s (sg++[r]) c ((sg++[r]).length:Nat)=r.getD c 0:=by
 unfold bgn;have hl:(sg++[r]).length=sg.length+1:=by simp
 rw[hl,if_neg (by omega)];have e:(((sg.length+1:Nat):Int)-1).toNat=sg.length:=by omega
 rw[e];exact ec_app_eq
theorem okB_mono{m k:Nat}{x:BSt}(h:m<=k)(hx:okB m x):okB k x:=⟨hx.1,hx.2.1,hx.2.2.1,hx.2.2.2.1,hx.2.2.2.2.1,Nat.le_trans hx.2.2.2.2.2.1 h,hx.2.2.2.2.2.2⟩
theorem okLen_of{s0 s1 s2:Int}{sg:LL}(h:okSegs s0 s1 s2 sg)(hl:sg.length<=355000):okLen sg:=⟨by omega,fun j hj=>by have:=(h j hj).2.1;omega⟩
theorem okB_n{m:Nat}{x:BSt}(h:okB m x)(hl:x.sg.length<=355000):0<=x.n/\x.n<=4503599627370496:=by
 rw[h.2.2.2.2.1];exact plen_le (okLen_of h.2.2.1 hl)
theorem okB_step{m:Nat}{a0 a1 a2 n s0 s1 s2 fr p0 p1 p2 x g4 g5 g6:Int}{sg mk:LL}{bg:Bool}(h:okB m ⟨a0,a1,a2,n,s0,s1,s2,sg,mk,fr,bg⟩)(hp:b3 32768 p0 p1 p2)(hne:¬(p0=a0/\p1=a1/\p2=a2))(hx:isLen a0 a1 a2 p0 p1 p2 x):okB (m+1) ⟨p0,p1,p2,n+x,s0,s1,s2,sg++[[p0,p1,p2,x,g4,g5,g6]],mk,fr,bg⟩:=by
 obtain⟨ha,hs,hg,⟨l0,l1,l2⟩,hn,hm,hk⟩:=h;dsimp only at ha hs hg l0 l1 l2 hn hm hk;obtain⟨x0,x1,x2,xD⟩:=hx;have xb:=xD 65536 (by decide) (by unfold b3 at ha hp⊢;omega);refine⟨hp,hs,?_,⟨by dsimp only;rw[bgn_last];rfl,by dsimp only;rw[bgn_last];rfl,by dsimp only;rw[bgn_last];rfl⟩,?_,by dsimp only;simp;omega,hk⟩
 . intro j hj;dsimp only at hj⊢;by_cases h:j<sg.length
   . have:=hg j h;simp only[ec_app_lt h];rw[bgn_app (by omega),bgn_app (by omega),bgn_app (by omega)];exact this
   . have:j=sg.length:=by simp at hj;omega
     subst this;simp only[ec_app_eq];rw[bgn_app (Nat.le_refl _),bgn_app (Nat.le_refl _),bgn_app (Nat.le_refl _),<-l0,<-l1,<-l2];refine⟨hp,?_,?_⟩
     . show 1<=x/\x<=131072;omega
     . show b3 x (p0-a0) (p1-a1) (p2-a2);unfold b3;omega
 . dsimp only;rw[plen_append,hn];show plen sg+x=plen sg+(x+0);omega
open Go
theorem okB_mks{m:Nat}{x:BSt}{mk:LL}{fr:Int}{bg:Bool}(h:okB m x)(hm:mk.length<=10):okB m ⟨x.a0,x.a1,x.a2,x.n,x.s0,x.s1,x.s2,x.sg,mk,fr,bg⟩:=⟨h.1,h.2.1,h.2.2.1,h.2.2.2.1,h.2.2.2.2.1,h.2.2.2.2.2.1,hm⟩
theorem okSegs_nil(s0 s1 s2:Int):okSegs s0 s1 s2 []:=fun j hj=>by simp at hj
theorem okB_zero(fr:Int)(bg:Bool):okB 0 ⟨0,0,0,0,0,0,0,[],[],fr,bg⟩:=⟨(by unfold b3;decide:b3 32768 0 0 0),(by unfold b3;decide:b3 32768 0 0 0),okSegs_nil _ _ _,⟨rfl,rfl,rfl⟩,rfl,Nat.le_refl 0,(by decide:0<=10)⟩
theorem okPath_len{s0 s1 s2:Int}{sg mk:LL}(h:okPath s0 s1 s2 sg mk):okLen sg:=okLen_of h.2.1 h.2.2.1
theorem okPath_pts{s0 s1 s2:Int}{sg mk:LL}(h:okPath s0 s1 s2 sg mk):okPts s0 s1 s2 sg:=by
 obtain⟨hs,hg,_,_⟩:=h;unfold b3 at hs;refine⟨by omega,by omega,by omega,fun j hj=> ?_⟩;have:=(hg j hj).1;unfold b3 at this;omega
end U
namespace Go.Proofs.YthkoabbiiadbjaaGreat
open Go Go.HL U
attribute [local irreducible] hfun bodyT fragT
theorem sOther:Sound Tryz.prog 46 SOther:=by
 refine sound_of (C:=COther) [] Tryz.func46 (by kernel_rfl) (by decide+kernel) (by kernel_rfl) rfl trivial (loops0 (by kernel_rfl)) ?_;intro hA pA R h;unfold SOther at h;split at h;case h_2=>exfalso;exact h
 rename_i k0 bk f0 f1 f2 t0 t1 t2 pl c0 c1 c2 dr fu fd pr sd ra bl nn sp on;obtain⟨_,_,hR⟩:=h;exact byVC (vcOther k0 bk f0 f1 f2 t0 t1 t2 pl c0 c1 c2 dr fd sd ra bl nn sp fu pr on R) ⟨fun _=>hR _ trivial,fun _=>⟨fun _=>hR _ trivial,fun _=>hR _ trivial⟩⟩
end Go.Proofs.YthkoabbiiadbjaaGreat
namespace U
open Go
def fc1(a b m d:Int):Int:=if(b-a)*m>0 then 1 else if(b-a)*m<0 then-1 else d
def sl1(a b m n:Int):Int:=if a≠b then max n m else n
def slk(b0 b1 b2 w0 w1 w2 d0 d1 d2:Int):Int:=sl1 w2 d2 b2 (sl1 w1 d1 b1 (sl1 w0 d0 b0 0))
def more(r:List Int)(u:Int):List Int:=[r.getD 0 0,r.getD 1 0+u,r.getD 2 0,r.getD 3 0,r.getD 4 0,r.getD 5 0,r.getD 6 0,r.getD 7 0,r.getD 8 0,r.getD 9 0]
def tadd(pk:LL)(ln:Int)(q:List Int):LL×Int:=if 0<pk.length/\q.getD 3 0≠0/\ec pk (pk.length-1) 3=q.getD 3 0/\ec pk (pk.length-1) 7=q.getD 7 0/\ec pk (pk.length-1) 8=q.getD 8 0/\ec pk (pk.length-1) 9=q.getD 9 0 then(pk.set (pk.length-1) (more (pk.getD (pk.length-1) []) (q.getD 1 0)),ln+q.getD 1 0)else(pk++[[ln,q.getD 1 0,q.getD 2 0,q.getD 3 0,q.getD 4 0,q.getD 5 0,q.getD 6 0,q.getD 7 0,q.getD 8 0,q.getD 9 0]],ln+q.getD 1 0)
end U
namespace Go.Proofs.YthkoabbiiadbjaaGreat
open Go Go.HL U
def unrT(b:List Nat):LAnn:=⟨[],[4],b,true⟩
def SFacing(hA:List HV)(pA:List (List HC)):SR:=match hA,pA with
 |[.agg [.int .i64 s0, .int .i64 s1, .int .i64 s2, .sl false [4,4,4,4,4,4,4] sg, .sl false [4,4,4] mk], .agg [.int .i64 d0, .int .i64 d1, .int .i64 d2], .ce (.int .i64 i), .ce (.int .i64 m)],[]=> .det ((0<=i/\i<sg.length)/\(m=1∨m= -1)/\okPts s0 s1 s2 sg/\sg.length<=1073741824) ⟨.agg [I6 (fc1 (bgn s0 sg 0 i) (ec sg i.toNat 0) m d0),I6 (fc1 (bgn s1 sg 1 i) (ec sg i.toNat 1) m d1),I6 (fc1 (bgn s2 sg 2 i) (ec sg i.toNat 2) m d2)],false,[],[]⟩
 |_,_=> .fail
def tabFacing:List (FuncId×HL.Spec):=[(94,SBegin)]
noncomputable def CFacing:Ctx:=⟨Tryz.prog,gam tabFacing,Tryz.f55.ntmps,[(4000003,unrT [1000004,1000005,1000008,1000009,1000010],fun _=> .fail)],[]⟩
theorem vcFacing(s0 s1 s2 d0 d1 d2 i m:Int)(sg mk:LL)(Q:Res->Prop):(nfun true CFacing Tryz.f55 (bodyOf Tryz.f55) [.agg [I6 s0,I6 s1,I6 s2, .sl false [4,4,4,4,4,4,4] sg, .sl false [4,4,4] mk], .agg [I6 d0,I6 d1,I6 d2], .ce (I6 i), .ce (I6 m)] [] Q)=((i<=(sg.length:Int)/\sg.length<=1073741824)/\∀x1,x1=bgn s0 sg (0:Nat) i->∀x2,x2=bgn s1 sg (1:Nat) i->∀x3,x3=bgn s2 sg (2:Nat) i->(0<=i/\i<(sg.length:Int))/\R6 (el sg i.toNat-x1)/\∀x4,x4=el sg i.toNat-x1->R6 (x4*m)/\∀x5,x5=x4*m->Br (x5>0) (R6 (ec sg i.toNat 1-x2)/\∀x6,x6=ec sg i.toNat 1-x2->R6 (x6*m)/\∀x7,x7=x6*m->Br (x7>0) (R6 (ec sg i.toNat 2-x3)/\∀x8,x8=ec sg i.toNat 2-x3->(-9223372036854775808<=x8*m/\x8*m<=9223372036854775807)/\∀x9,x9=x8*m->Br (x9>0) (Q ⟨.agg [I6 1,I6 1,I6 1],false,[],[]⟩) (Br (x9<0) (Q ⟨.agg [I6 1,I6 1,I6 (-1)],false,[],[]⟩) (Q ⟨.agg [I6 1,I6 1,I6 d2],false,[],[]⟩))) (Br (x7<0) (R6 (ec sg i.toNat 2-x3)/\∀x10,x10=ec sg i.toNat 2-x3->R6 (x10*m)/\∀x11,x11=x10*m->Br (x11>0) (Q ⟨.agg [I6 1,I6 (-1),I6 1],false,[],[]⟩) (Br (x11<0) (Q ⟨.agg [I6 1,I6 (-1),I6 (-1)],false,[],[]⟩) (Q ⟨.agg [I6 1,I6 (-1),I6 d2],false,[],[]⟩))) (R6 (ec sg i.toNat 2-x3)/\∀x12,x12=ec sg i.toNat 2-x3->R6 (x12*m)/\∀x13,x13=x12*m->Br (x13>0) (Q ⟨.agg [I6 1,I6 d1,I6 1],false,[],[]⟩) (Br (x13<0) (Q ⟨.agg [I6 1,I6 d1,I6 (-1)],false,[],[]⟩) (Q ⟨.agg [I6 1,I6 d1,I6 d2],false,[],[]⟩))))) (Br (x5<0) (R6 (ec sg i.toNat 1-x2)/\∀x14,x14=ec sg i.toNat 1-x2->R6 (x14*m)/\∀x15,x15=x14*m->Br (x15>0) (R6 (ec sg i.toNat 2-x3)/\∀x16,x16=ec sg i.toNat 2-x3->R6 (x16*m)/\∀x17,x17=x16*m->Br (x17>0) (Q ⟨.agg [I6 (-1),I6 1,I6 1],false,[],[]⟩) (Br (x17<0) (Q ⟨.agg [I6 (-1),I6 1,I6 (-1)],false,[],[]⟩) (Q ⟨.agg [I6 (-1),I6 1,I6 d2],false,[],[]⟩))) (Br (x15<0) (R6 (ec sg i.toNat 2-x3)/\∀x18,x18=ec sg i.toNat 2-x3->R6 (x18*m)/\∀x19,x19=x18*m->Br (x19>0) (Q ⟨.agg [I6 (-1),I6 (-1),I6 1],false,[],[]⟩) (Br (x19<0) (Q ⟨.agg [I6 (-1),I6 (-1),I6 (-1)],false,[],[]⟩) (Q ⟨.agg [I6 (-1),I6 (-1),I6 d2],false,[],[]⟩))) (R6 (ec sg i.toNat 2-x3)/\∀x20,x20=ec sg i.toNat 2-x3->R6 (x20*m)/\∀x21,x21=x20*m->Br (x21>0) (Q ⟨.agg [I6 (-1),I6 d1,I6 1],false,[],[]⟩) (Br (x21<0) (Q ⟨.agg [I6 (-1),I6 d1,I6 (-1)],false,[],[]⟩) (Q ⟨.agg [I6 (-1),I6 d1,I6 d2],false,[],[]⟩))))) (R6 (ec sg i.toNat 1-x2)/\∀x22,x22=ec sg i.toNat 1-x2->R6 (x22*m)/\∀x23,x23=x22*m->Br (x23>0) (R6 (ec sg i.toNat 2-x3)/\∀x24,x24=ec sg i.toNat 2-x3->R6 (x24*m)/\∀x25,x25=x24*m->Br (x25>0) (Q ⟨.agg [I6 d0,I6 1,I6 1],false,[],[]⟩) (Br (x25<0) (Q ⟨.agg [I6 d0,I6 1,I6 (-1)],false,[],[]⟩) (Q ⟨.agg [I6 d0,I6 1,I6 d2],false,[],[]⟩))) (Br (x23<0) ((-9223372036854775808<=ec sg i.toNat 2-x3/\ec sg i.toNat 2-x3<=9223372036854775807)/\∀x26,x26=ec sg i.toNat 2-x3->R6 (x26*m)/\∀x27,x27=x26*m->Br (x27>0) (Q ⟨.agg [I6 d0,I6 (-1),I6 1],false,[],[]⟩) (Br (x27<0) (Q ⟨.agg [I6 d0,I6 (-1),I6 (-1)],false,[],[]⟩) (Q ⟨.agg [I6 d0,I6 (-1),I6 d2],false,[],[]⟩))) (R6 (ec sg i.toNat 2-x3)/\∀x28,x28=ec sg i.toNat 2-x3->R6 (x28*m)/\∀x29,x29=x28*m->Br (x29>0) (Q ⟨.agg [I6 d0,I6 d1,I6 1],false,[],[]⟩) (Br (x29<0) (Q ⟨.agg [I6 d0,I6 d1,I6 (-1)],false,[],[]⟩) (Q ⟨.agg [I6 d0,I6 d1,I6 d2],false,[],[]⟩))))))):=by kernel_rfl
def SSlack(hA:List HV)(pA:List (List HC)):SR:=match hA,pA with
 |[.agg [.int .i64 sta, .int .i64 spa, .int .i64 aca, .int .i64 jea, .int .i64 loa, .int .i64 hia, .int .i64 bla, .int .i64 oga, .int .i64 sga, .sl false [4] pta, .int .i64 stb, .int .i64 spb, .int .i64 acb, .int .i64 jeb, .int .i64 lob, .int .i64 hib, .int .i64 blb, .int .i64 ogb, .int .i64 sgb, .sl false [4] ptb, .int .i64 stc, .int .i64 spc, .int .i64 acc, .int .i64 jec, .int .i64 loc, .int .i64 hic, .int .i64 blc, .int .i64 ogc, .int .i64 sgc, .sl false [4] ptc], .agg [.int .i64 w0, .int .i64 w1, .int .i64 w2], .agg [.int .i64 d0, .int .i64 d1, .int .i64 d2]],[]=> .det True ⟨.ce (I6 (slk bla blb blc w0 w1 w2 d0 d1 d2)),false,[],[]⟩
 |_,_=> .fail
noncomputable def CSlack:Ctx:=⟨Tryz.prog,gam [],Tryz.f56.ntmps,[(4000003,unrT [1000003,1000004,1000005],fun _=> .fail)],[]⟩
theorem vcSlack(sta spa aca jea loa hia bla oga sga stb spb acb jeb lob hib blb ogb sgb stc spc acc jec loc hic blc ogc sgc:Int)(pta ptb ptc:LL)(w0 w1 w2 d0 d1 d2:Int)(Q:Res->Prop):(nfun true CSlack Tryz.f56 (bodyOf Tryz.f56) [.agg [I6 sta,I6 spa,I6 aca,I6 jea,I6 loa,I6 hia,I6 bla,I6 oga,I6 sga, .sl false [4] pta,I6 stb,I6 spb,I6 acb,I6 jeb,I6 lob,I6 hib,I6 blb,I6 ogb,I6 sgb, .sl false [4] ptb,I6 stc,I6 spc,I6 acc,I6 jec,I6 loc,I6 hic,I6 blc,I6 ogc,I6 sgc, .sl false [4] ptc], .agg [I6 w0,I6 w1,I6 w2], .agg [I6 d0,I6 d1,I6 d2]] [] Q)=(Bb (w0 !=d0) (∀x1,x1=max (0:Int) bla->Bb (w1 !=d1) (∀x2,x2=max x1 blb->Bb (w2 !=d2) (∀x3,x3=max x2 blc->Q ⟨.ce (I6 x3),false,[],[]⟩) (Q ⟨.ce (I6 x2),false,[],[]⟩)) (Bb (w2 !=d2) (∀x4,x4=max x1 blc->Q ⟨.ce (I6 x4),false,[],[]⟩) (Q ⟨.ce (I6 x1),false,[],[]⟩))) (Bb (w1 !=d1) (∀x5,x5=max (0:Int) blb->Bb (w2 !=d2) (∀x6,x6=max x5 blc->Q ⟨.ce (I6 x6),false,[],[]⟩) (Q ⟨.ce (I6 x5),false,[],[]⟩)) (Bb (w2 !=d2) (∀x7,x7=max (0:Int) blc->Q ⟨.ce (I6 x7),false,[],[]⟩) (Q ⟨.ce (I6 0),false,[],[]⟩)))):=by kernel_rfl
def SAdd(hA:List HV)(pA:List (List HC)):SR:=match hA,pA with
 |[.ce (.ptr 0 0), .agg [.int .i64 q0, .int .i64 q1, .int .i64 q2, .int .i64 q3, .int .i64 q4, .int .i64 q5, .int .i64 q6, .int .i64 q7, .int .i64 q8, .int .i64 q9]],[[.mu [4,4,4,4,4,4,4,4,4,4] pk, .int .i64 ln, .int .i64 sa, .int .i64 d0, .int .i64 d1, .int .i64 d2]]=> .all ((-2305843009213693952<=q1/\q1<=2305843009213693952)/\(-2305843009213693952<=ln/\ln<=2305843009213693952)/\pk.length<=1000000000000/\∀j,j<pk.length-> -2305843009213693952<=ec pk j 1/\ec pk j 1<=2305843009213693952) (LL×Int) (fun x=>x=tadd pk ln [q0,q1,q2,q3,q4,q5,q6,q7,q8,q9]) (fun x=>⟨.tup [],false,[[.mu [4,4,4,4,4,4,4,4,4,4] x.1,I6 x.2,I6 sa,I6 d0,I6 d1,I6 d2]],[]⟩)
 |_,_=> .fail
noncomputable def CAdd:Ctx:=⟨Tryz.prog,gam [],Tryz.f57.ntmps,[],[71,spl 1 0 0 8,spl 6 0 0 7]⟩
theorem vcAdd(q0 q1 q2 q3 q4 q5 q6 q7 q8 q9 ln sa d0 d1 d2:Int)(pk:LL)(Q:Res->Prop):(nfun true CAdd Tryz.f57 (bodyOf Tryz.f57) [.ce (.ptr 0 0), .agg [I6 q0,I6 q1,I6 q2,I6 q3,I6 q4,I6 q5,I6 q6,I6 q7,I6 q8,I6 q9]] [[.mu [4,4,4,4,4,4,4,4,4,4] pk,I6 ln,I6 sa,I6 d0,I6 d1,I6 d2]] Q)=((pk.length=0->((1:Nat)<=1/\(1:Nat)*80<=140737488355328/\(1:Nat)<=maxLen)/\(∃(x:Nat),(1:Nat)<=x/\x<=maxLen)/\∀(x:Nat),(1:Nat)<=x/\x<=maxLen->((1:Nat)=1/\x=x/\(0:Nat)<1)/\R6 (ln+q1)/\∀x2,x2=ln+q1->Q {val:= .tup [],own:=false,pars:=[[.mu [4,4,4,4,4,4,4,4,4,4] [[ln,q1,q2,q3,q4,q5,q6,q7,q8,q9]],I6 x2,I6 sa,I6 d0,I6 d1,I6 d2]],news:=[]})/\((0:Nat)<pk.length->∀(cap:Nat),pk.length<=cap/\cap<=maxLen->Br ((pk.length:Int)>0) (Bb (q3 !=0) (R6 ((pk.length:Int)-1)/\∀x4,x4=(pk.length:Int)-1->(0<=x4/\x4<(pk.length:Int))/\x4.toNat<pk.length/\∀x5,x5=ec pk x4.toNat 3->Bb (x5==q3) (R6 ((pk.length:Int)-1)/\∀x6,x6=(pk.length:Int)-1->(0<=x6/\x6<(pk.length:Int))/\x6.toNat<pk.length/\Bb (ec pk x6.toNat 7==q7&&(ec pk x6.toNat 8==q8&&(ec pk x6.toNat 9==q9&&true))) (R6 ((pk.length:Int)-1)/\∀x7,x7=(pk.length:Int)-1->(0<=x7/\x7<(pk.length:Int))/\x7.toNat<pk.length/\∀x8,x8=ec pk x7.toNat 1->R6 (x8+q1)/\∀x9,x9=x8+q1->(0<=x7/\x7<(pk.length:Int))/\x7.toNat<pk.length/\(pk.length=List.length (List.set pk x7.toNat [bif false&&true then x9 else el pk x7.toNat,bif true&&true then x9 else ec pk x7.toNat 1,bif true&&false then(0:Int)else ec pk x7.toNat 2,bif true&&false then(0:Int)else ec pk x7.toNat 3,bif true&&false then(0:Int)else ec pk x7.toNat 4,bif true&&false then(0:Int)else ec pk x7.toNat 5,bif true&&false then(0:Int)else ec pk x7.toNat 6,bif true&&false then(0:Int)else ec pk x7.toNat 7,bif true&&false then(0:Int)else ec pk x7.toNat 8,bif true&&false then(0:Int)else ec pk x7.toNat 9])/\cap=cap/\(0:Nat)<List.length (List.set pk x7.toNat [bif false&&true then x9 else el pk x7.toNat,bif true&&true then x9 else ec pk x7.toNat 1,bif true&&false then(0:Int)else ec pk x7.toNat 2,bif true&&false then(0:Int)else ec pk x7.toNat 3,bif true&&false then(0:Int)else ec pk x7.toNat 4,bif true&&false then(0:Int)else ec pk x7.toNat 5,bif true&&false then(0:Int)else ec pk x7.toNat 6,bif true&&false then(0:Int)else ec pk x7.toNat 7,bif true&&false then(0:Int)else ec pk x7.toNat 8,bif true&&false then(0:Int)else ec pk x7.toNat 9]))/\R6 (ln+q1)/\∀x10,x10=ln+q1->Q {val:= .tup [],own:=false,pars:=[[.mu [4,4,4,4,4,4,4,4,4,4] (List.set pk x7.toNat [bif false&&true then x9 else el pk x7.toNat,bif true&&true then x9 else ec pk x7.toNat 1,bif true&&false then(0:Int)else ec pk x7.toNat 2,bif true&&false then(0:Int)else ec pk x7.toNat 3,bif true&&false then(0:Int)else ec pk x7.toNat 4,bif true&&false then(0:Int)else ec pk x7.toNat 5,bif true&&false then(0:Int)else ec pk x7.toNat 6,bif true&&false then(0:Int)else ec pk x7.toNat 7,bif true&&false then(0:Int)else ec pk x7.toNat 8,bif true&&false then(0:Int)else ec pk x7.toNat 9]),I6 x10,I6 sa,I6 d0,I6 d1,I6 d2]],news:=[]}) ((pk.length=pk.length/\cap=cap/\(pk.length+1)*80<=140737488355328/\pk.length+1<=maxLen)/\(∃(x:Nat),pk.length+1<=x/\x<=maxLen)/\∀(x:Nat),pk.length+1<=x/\x<=maxLen->(pk.length+1=List.length (pk++[[ln,q1,q2,q3,q4,q5,q6,q7,q8,q9]])/\x=x/\(0:Nat)<List.length (pk++[[ln,q1,q2,q3,q4,q5,q6,q7,q8,q9]]))/\R6 (ln+q1)/\∀x12,x12=ln+q1->Q {val:= .tup [],own:=false,pars:=[[.mu [4,4,4,4,4,4,4,4,4,4] (pk++[[ln,q1,q2,q3,q4,q5,q6,q7,q8,q9]]),I6 x12,I6 sa,I6 d0,I6 d1,I6 d2]],news:=[]})) ((pk.length=pk.length/\cap=cap/\(pk.length+1)*80<=140737488355328/\pk.length+1<=maxLen)/\(∃(x:Nat),pk.length+1<=x/\x<=maxLen)/\∀(x:Nat),pk.length+1<=x/\x<=maxLen->(pk.length+1=List.length (pk++[[ln,q1,q2,q3,q4,q5,q6,q7,q8,q9]])/\x=x/\(0:Nat)<List.length (pk++[[ln,q1,q2,q3,q4,q5,q6,q7,q8,q9]]))/\R6 (ln+q1)/\∀x14,x14=ln+q1->Q {val:= .tup [],own:=false,pars:=[[.mu [4,4,4,4,4,4,4,4,4,4] (pk++[[ln,q1,q2,q3,q4,q5,q6,q7,q8,q9]]),I6 x14,I6 sa,I6 d0,I6 d1,I6 d2]],news:=[]})) ((pk.length=pk.length/\cap=cap/\(pk.length+1)*80<=140737488355328/\pk.length+1<=maxLen)/\(∃(x:Nat),pk.length+1<=x/\x<=maxLen)/\∀(x:Nat),pk.length+1<=x/\x<=maxLen->(pk.length+1=List.length (pk++[[ln,q1,q2,q3,q4,q5,q6,q7,q8,q9]])/\x=x/\(0:Nat)<List.length (pk++[[ln,q1,q2,q3,q4,q5,q6,q7,q8,q9]]))/\R6 (ln+q1)/\∀x16,x16=ln+q1->Q {val:= .tup [],own:=false,pars:=[[.mu [4,4,4,4,4,4,4,4,4,4] (pk++[[ln,q1,q2,q3,q4,q5,q6,q7,q8,q9]]),I6 x16,I6 sa,I6 d0,I6 d1,I6 d2]],news:=[]})) ((pk.length=pk.length/\cap=cap/\(pk.length+1)*80<=140737488355328/\pk.length+1<=maxLen)/\(∃(x:Nat),pk.length+1<=x/\x<=maxLen)/\∀(x:Nat),pk.length+1<=x/\x<=maxLen->(pk.length+1=List.length (pk++[[ln,q1,q2,q3,q4,q5,q6,q7,q8,q9]])/\x=x/\(0:Nat)<List.length (pk++[[ln,q1,q2,q3,q4,q5,q6,q7,q8,q9]]))/\R6 (ln+q1)/\∀x18,x18=ln+q1->Q {val:= .tup [],own:=false,pars:=[[.mu [4,4,4,4,4,4,4,4,4,4] (pk++[[ln,q1,q2,q3,q4,q5,q6,q7,q8,q9]]),I6 x18,I6 sa,I6 d0,I6 d1,I6 d2]],news:=[]}))):=by kernel_rfl
end Go.Proofs.YthkoabbiiadbjaaGreat
namespace U
theorem bgn_bd{s i:Int}{sg:LL}{c:Nat}(h0: -536870912<=s/\s<=536870912)(h:∀j,j<sg.length-> -536870912<=ec sg j c/\ec sg j c<=536870912)(hi:i<=sg.length): -536870912<=bgn s sg c i/\bgn s sg c i<=536870912:=by
 unfold bgn;by_cases hh:i<=0
 . rw[if_pos hh];exact h0
 . rw[if_neg hh];exact h _ (by omega)
theorem sl1_t{a b m n:Int}(h:(a !=b)=true):max n m=sl1 a b m n:=by unfold sl1;rw[if_pos (by simpa using h)]
theorem sl1_f{a b m n:Int}(h:(a !=b)=false):n=sl1 a b m n:=by unfold sl1;rw[if_neg (by simpa using h)]
theorem tadd_app{pk:LL}{ln q0 q1 q2 q3 q4 q5 q6 q7 q8 q9:Int}(h:¬(0<pk.length/\q3≠0/\ec pk (pk.length-1) 3=q3/\ec pk (pk.length-1) 7=q7/\ec pk (pk.length-1) 8=q8/\ec pk (pk.length-1) 9=q9)):tadd pk ln [q0,q1,q2,q3,q4,q5,q6,q7,q8,q9]=(pk++[[ln,q1,q2,q3,q4,q5,q6,q7,q8,q9]],ln+q1):=if_neg h
theorem tadd_more{pk:LL}{ln q0 q1 q2 q3 q4 q5 q6 q7 q8 q9:Int}(h:0<pk.length/\q3≠0/\ec pk (pk.length-1) 3=q3/\ec pk (pk.length-1) 7=q7/\ec pk (pk.length-1) 8=q8/\ec pk (pk.length-1) 9=q9):tadd pk ln [q0,q1,q2,q3,q4,q5,q6,q7,q8,q9]=(pk.set (pk.length-1) (more (pk.getD (pk.length-1) []) q1),ln+q1):=if_pos h
end U
namespace Go.Proofs.YthkoabbiiadbjaaGreat
open Go Go.HL U
attribute [local irreducible] hfun bodyT fragT
theorem sFacing:Sound Tryz.prog 55 SFacing:=by
 refine sound_of (C:=CFacing) tabFacing Tryz.func55 (by kernel_rfl) (by decide+kernel) (by kernel_rfl) rfl ⟨sBegin,trivial⟩ (loopsAll (by kernel_rfl)) ?_;intro hA pA R h;unfold SFacing at h;split at h;case h_2=>exfalso;exact h
 rename_i s0 s1 s2 sg mk d0 d1 d2 i m;obtain⟨⟨⟨hi0,hi1⟩,hm,⟨k0,k1,k2,kk⟩,hlen⟩,hq⟩:=h;have hq:∀e0 e1 e2,e0=fc1 (bgn s0 sg 0 i) (ec sg i.toNat 0) m d0->e1=fc1 (bgn s1 sg 1 i) (ec sg i.toNat 1) m d1->e2=fc1 (bgn s2 sg 2 i) (ec sg i.toNat 2) m d2->R ⟨.agg [I6 e0,I6 e1,I6 e2],false,[],[]⟩:=fun e0 e1 e2 h0 h1 h2=>by rw[h0,h1,h2];exact hq
 have b0:=bgn_bd (i:=i) k0 (fun j hj=>(kk j hj).1) (by omega);have b1:=bgn_bd (i:=i) k1 (fun j hj=>(kk j hj).2.1) (by omega);have b2:=bgn_bd (i:=i) k2 (fun j hj=>(kk j hj).2.2) (by omega);obtain⟨c0,c1,c2⟩:=kk i.toNat (by omega);have c0: -536870912<=el sg i.toNat/\el sg i.toNat<=536870912:=c0;refine byVC (vcFacing s0 s1 s2 d0 d1 d2 i m sg mk R) ?_;clear kk k0 k1 k2;refine⟨⟨by omega,hlen⟩,?_⟩;rintro _ rfl _ rfl _ rfl;have hq:∀e0 e1 e2,e0=fc1 (bgn s0 sg 0 i) (el sg i.toNat) m d0->e1=fc1 (bgn s1 sg 1 i) (ec sg i.toNat 1) m d1->e2=fc1 (bgn s2 sg 2 i) (ec sg i.toNat 2) m d2->R ⟨.agg [I6 e0,I6 e1,I6 e2],false,[],[]⟩:=hq;generalize bgn s0 sg 0 i=A0 at*;generalize bgn s1 sg 1 i=A1 at*;generalize bgn s2 sg 2 i=A2 at*;generalize el sg i.toNat=B0 at*;generalize ec sg i.toNat 1=B1 at*;generalize ec sg i.toNat 2=B2 at*;have n0: -1073741824<=(B0-A0)*m/\(B0-A0)*m<=1073741824:=by rcases hm with rfl|rfl<;>omega
 have n1: -1073741824<=(B1-A1)*m/\(B1-A1)*m<=1073741824:=by rcases hm with rfl|rfl<;>omega
 have n2: -1073741824<=(B2-A2)*m/\(B2-A2)*m<=1073741824:=by rcases hm with rfl|rfl<;>omega
 refine⟨⟨hi0,hi1⟩,by omega,?_⟩;rintro _ rfl;refine⟨by omega,?_⟩;rintro _ rfl;unfold fc1 at hq;generalize(B0-A0)*m=V0 at*;have t1:∀e0,e0=(if V0>0 then 1 else if V0<0 then-1 else d0)->((-9223372036854775808<=B1-A1/\B1-A1<=9223372036854775807)/\∀x:Int,x=B1-A1->(-9223372036854775808<=x*m/\x*m<=9223372036854775807)/\∀y:Int,y=x*m->(decide (y>0)=true->((-9223372036854775808<=B2-A2/\B2-A2<=9223372036854775807)/\∀x:Int,x=B2-A2->(-9223372036854775808<=x*m/\x*m<=9223372036854775807)/\∀y:Int,y=x*m->(decide (y>0)=true->R ⟨.agg [I6 e0,I6 1,I6 1],false,[],[]⟩)/\(decide (y>0)=false->(decide (y<0)=true->R ⟨.agg [I6 e0,I6 1,I6 (-1)],false,[],[]⟩)/\(decide (y<0)=false->R ⟨.agg [I6 e0,I6 1,I6 d2],false,[],[]⟩))))/\(decide (y>0)=false->(decide (y<0)=true->((-9223372036854775808<=B2-A2/\B2-A2<=9223372036854775807)/\∀x:Int,x=B2-A2->(-9223372036854775808<=x*m/\x*m<=9223372036854775807)/\∀y:Int,y=x*m->(decide (y>0)=true->R ⟨.agg [I6 e0,I6 (-1),I6 1],false,[],[]⟩)/\(decide (y>0)=false->(decide (y<0)=true->R ⟨.agg [I6 e0,I6 (-1),I6 (-1)],false,[],[]⟩)/\(decide (y<0)=false->R ⟨.agg [I6 e0,I6 (-1),I6 d2],false,[],[]⟩))))/\(decide (y<0)=false->((-9223372036854775808<=B2-A2/\B2-A2<=9223372036854775807)/\∀x:Int,x=B2-A2->(-9223372036854775808<=x*m/\x*m<=9223372036854775807)/\∀y:Int,y=x*m->(decide (y>0)=true->R ⟨.agg [I6 e0,I6 d1,I6 1],false,[],[]⟩)/\(decide (y>0)=false->(decide (y<0)=true->R ⟨.agg [I6 e0,I6 d1,I6 (-1)],false,[],[]⟩)/\(decide (y<0)=false->R ⟨.agg [I6 e0,I6 d1,I6 d2],false,[],[]⟩)))))):=by
  intro e0 h0;refine⟨by omega,?_⟩;rintro _ rfl;refine⟨by omega,?_⟩;rintro _ rfl;generalize(B1-A1)*m=V1 at*;have t2:∀e1,e1=(if V1>0 then 1 else if V1<0 then-1 else d1)->((-9223372036854775808<=B2-A2/\B2-A2<=9223372036854775807)/\∀x:Int,x=B2-A2->(-9223372036854775808<=x*m/\x*m<=9223372036854775807)/\∀y:Int,y=x*m->(decide (y>0)=true->R ⟨.agg [I6 e0,I6 e1,I6 1],false,[],[]⟩)/\(decide (y>0)=false->(decide (y<0)=true->R ⟨.agg [I6 e0,I6 e1,I6 (-1)],false,[],[]⟩)/\(decide (y<0)=false->R ⟨.agg [I6 e0,I6 e1,I6 d2],false,[],[]⟩))):=by
   intro e1 h1;refine⟨by omega,?_⟩;rintro _ rfl;refine⟨by omega,?_⟩;rintro _ rfl;generalize(B2-A2)*m=V2 at*;refine⟨fun g=>hq _ _ _ h0 h1 ?_,fun g=>⟨fun g2=>hq _ _ _ h0 h1 ?_,fun g2=>hq _ _ _ h0 h1 ?_⟩⟩
   . rw[if_pos (odt g)]
   . rw[if_neg (odf g),if_pos (odt g2)]
   . rw[if_neg (odf g),if_neg (odf g2)]
  refine⟨fun g=>t2 _ ?_,fun g=>⟨fun g2=>t2 _ ?_,fun g2=>t2 _ ?_⟩⟩
  . rw[if_pos (odt g)]
  . rw[if_neg (odf g),if_pos (odt g2)]
  . rw[if_neg (odf g),if_neg (odf g2)]
 refine⟨fun g=>t1 _ ?_,fun g=>⟨fun g2=>t1 _ ?_,fun g2=>t1 _ ?_⟩⟩
 . rw[if_pos (odt g)]
 . rw[if_neg (odf g),if_pos (odt g2)]
 . rw[if_neg (odf g),if_neg (odf g2)]
theorem sSlack:Sound Tryz.prog 56 SSlack:=by
 refine sound_of (C:=CSlack) [] Tryz.func56 (by kernel_rfl) (by decide+kernel) (by kernel_rfl) rfl trivial (loopsAll (by kernel_rfl)) ?_;intro hA pA R h;unfold SSlack at h;split at h;case h_2=>exfalso;exact h
 rename_i sta spa aca jea loa hia bla oga sga pta stb spb acb jeb lob hib blb ogb sgb ptb stc spc acc jec loc hic blc ogc sgc ptc w0 w1 w2 d0 d1 d2;obtain⟨_,hq⟩:=h;have hq:∀e0 e1 e2,e0=sl1 w0 d0 bla 0->e1=sl1 w1 d1 blb e0->e2=sl1 w2 d2 blc e1->R ⟨.ce (I6 e2),false,[],[]⟩:=fun e0 e1 e2 h0 h1 h2=>by rw[h2,h1,h0];exact hq
 refine byVC (vcSlack sta spa aca jea loa hia bla oga sga stb spb acb jeb lob hib blb ogb sgb stc spc acc jec loc hic blc ogc sgc pta ptb ptc w0 w1 w2 d0 d1 d2 R) ?_;repeat' first|apply And.intro|(rintro _ rfl)|intro _
 all_goals first
  |exact hq _ _ _ (by first|exact sl1_t (by assumption)|exact sl1_f (by assumption)) (by first|exact sl1_t (by assumption)|exact sl1_f (by assumption)) (by first|exact sl1_t (by assumption)|exact sl1_f (by assumption))
  |omega
theorem sAdd:Sound Tryz.prog 57 SAdd:=by
 refine sound_of (C:=CAdd) [] Tryz.func57 (by kernel_rfl) (by decide+kernel) (by kernel_rfl) rfl trivial (loops0 (by kernel_rfl)) ?_;intro hA pA R h;unfold SAdd at h;split at h;case h_2=>exfalso;exact h
 rename_i q0 q1 q2 q3 q4 q5 q6 q7 q8 q9 pk ln sa d0 d1 d2;obtain⟨⟨hq1,hln,hlen,hpk⟩,_,hq⟩:=h;have app:¬(0<pk.length/\q3≠0/\ec pk (pk.length-1) 3=q3/\ec pk (pk.length-1) 7=q7/\ec pk (pk.length-1) 8=q8/\ec pk (pk.length-1) 9=q9)->∀x:Int,x=ln+q1->R ⟨.tup [],false,[[.mu [4,4,4,4,4,4,4,4,4,4] (pk++[[ln,q1,q2,q3,q4,q5,q6,q7,q8,q9]]),I6 x,I6 sa,I6 d0,I6 d1,I6 d2]],[]⟩:=by
  intro hh x e;have:=hq _ rfl;rw[tadd_app hh]at this;rw[e];exact this
 have grow:∀cap:Nat,pk.length<=cap->(pk.length=pk.length/\cap=cap/\(pk.length+1)*80<=140737488355328/\pk.length+1<=maxLen)/\(∃x:Nat,pk.length+1<=x/\x<=maxLen):=fun cap _=>⟨⟨rfl,rfl,by omega,by unfold maxLen;omega⟩,⟨pk.length+1,Nat.le_refl _,by unfold maxLen;omega⟩⟩;have room:∀x:Nat,(pk.length+1=(pk++[[ln,q1,q2,q3,q4,q5,q6,q7,q8,q9]]).length/\x=x/\0<(pk++[[ln,q1,q2,q3,q4,q5,q6,q7,q8,q9]]).length):=fun x=>by simp
 refine byVC (vcAdd q0 q1 q2 q3 q4 q5 q6 q7 q8 q9 ln sa d0 d1 d2 pk R) ⟨fun h0=> ?_,fun h0 cap hcap=>⟨fun g1=>⟨fun g2=>⟨by omega,fun x4 e4=>⟨by omega,by omega,fun x5 e5=>⟨fun g3=>⟨by omega,fun x6 e6=>⟨by omega,by omega,fun g4=> ?_,fun g4=> ?_⟩⟩,fun g3=> ?_⟩⟩⟩,fun g2=> ?_⟩,fun g1=> ?_⟩⟩
 . obtain rfl:pk=[]:=List.eq_nil_of_length_eq_zero h0;refine⟨⟨by decide,by decide,by unfold maxLen;decide⟩,⟨1,by decide,by unfold maxLen;decide⟩,fun x hx=>⟨⟨rfl,rfl,by decide⟩,by omega,fun x2 e2=> ?_⟩⟩;exact app (fun hh=>absurd hh.1 (by decide)) x2 e2
 . have g2:q3≠0:=by simpa using g2
   have g3:x5=q3:=by simpa using g3
   have ht:x4.toNat=pk.length-1:=by omega
   have ht6:x6.toNat=pk.length-1:=by omega
   rw[ht]at e5;rw[ht6]at g4;have g4:ec pk (pk.length-1) 7=q7/\ec pk (pk.length-1) 8=q8/\ec pk (pk.length-1) 9=q9:=by simpa using g4
   have hb:=hpk (pk.length-1) (by omega);refine⟨by omega,fun x7 e7=> ?_⟩;have ht7:x7.toNat=pk.length-1:=by omega
   rw[ht7];refine⟨by omega,by omega,fun x8 e8=>⟨by omega,fun x9 e9=>⟨by omega,by omega,⟨by rw[List.length_set],rfl,by rw[List.length_set];exact h0⟩,by omega,fun x10 e10=> ?_⟩⟩⟩;have:=hq _ rfl;rw[tadd_more ⟨h0,g2,by rw[<-e5];exact g3,g4⟩]at this;rw[e10,e9,e8];exact this
 . have no:¬(ec pk (pk.length-1) 7=q7/\ec pk (pk.length-1) 8=q8/\ec pk (pk.length-1) 9=q9):=fun hh=>by
    have ht6:x6.toNat=pk.length-1:=by omega
    rw[ht6,hh.1,hh.2.1,hh.2.2]at g4;simp at g4
   exact⟨(grow cap hcap.1).1,(grow cap hcap.1).2,fun x hx=>⟨room x,by omega,fun x12 e12=>app (fun hh=>no hh.2.2.2) x12 e12⟩⟩
 . have no:¬ec pk (pk.length-1) 3=q3:=fun hh=>by
    have ht:x4.toNat=pk.length-1:=by omega
    rw[ht,hh]at e5;rw[e5]at g3;simp at g3
   exact⟨(grow cap hcap.1).1,(grow cap hcap.1).2,fun x hx=>⟨room x,by omega,fun x12 e12=>app (fun hh=>no hh.2.2.1) x12 e12⟩⟩
 . have no:¬q3≠0:=by simpa using g2
   exact⟨(grow cap hcap.1).1,(grow cap hcap.1).2,fun x hx=>⟨room x,by omega,fun x12 e12=>app (fun hh=>no hh.2.1) x12 e12⟩⟩
 . have g1:=odf g1;omega
end Go.Proofs.YthkoabbiiadbjaaGreat
namespace U
open Go
structure LegS where
 pk:LL
 ln:Int
 a0:Int
 a1:Int
 a2:Int
 bg:Int
def legI(n:Nat)(m:Int)(k:Nat):Int:=if m<0 then(n:Int)-1-(k:Int)else(k:Int)
def legTk(pk:LL)(ln u s a0 a1 a2 n0 n1 n2:Int):LL×Int:=if u>0 then tadd pk ln [0,u,s,0,a0,a1,a2,n0,n1,n2]else(pk,ln)
def legS(m low high:Int):Int:=if m<0 then high else low
def legPut(b0 b1 b2 m low high e n0 n1 n2:Int)(x:LegS):LegS:=if low<high then⟨(tadd (legTk x.pk x.ln (slk b0 b1 b2 x.a0 x.a1 x.a2 n0 n1 n2) (legS m low high) x.a0 x.a1 x.a2 n0 n1 n2).1 (legTk x.pk x.ln (slk b0 b1 b2 x.a0 x.a1 x.a2 n0 n1 n2) (legS m low high) x.a0 x.a1 x.a2 n0 n1 n2).2 [0,high-low,legS m low high,m,n0,n1,n2,n0,n1,n2]).1,(tadd (legTk x.pk x.ln (slk b0 b1 b2 x.a0 x.a1 x.a2 n0 n1 n2) (legS m low high) x.a0 x.a1 x.a2 n0 n1 n2).1 (legTk x.pk x.ln (slk b0 b1 b2 x.a0 x.a1 x.a2 n0 n1 n2) (legS m low high) x.a0 x.a1 x.a2 n0 n1 n2).2 [0,high-low,legS m low high,m,n0,n1,n2,n0,n1,n2]).2,n0,n1,n2,e⟩else⟨x.pk,x.ln,x.a0,x.a1,x.a2,e⟩
def legE(sg:LL)(m bg i:Int):Int:=bg+m*ec sg i.toNat 3
def legLow(bg e f t:Int):Int:=max (min bg e) (min f t)
def legHigh(bg e f t:Int):Int:=min (max bg e) (max f t)
def legSeg(s0 s1 s2:Int)(sg:LL)(b0 b1 b2 f t m:Int)(x:LegS)(i:Int):LegS:=legPut b0 b1 b2 m (legLow x.bg (legE sg m x.bg i) f t) (legHigh x.bg (legE sg m x.bg i) f t) (legE sg m x.bg i) (fc1 (bgn s0 sg 0 i) (ec sg i.toNat 0) m x.a0) (fc1 (bgn s1 sg 1 i) (ec sg i.toNat 1) m x.a1) (fc1 (bgn s2 sg 2 i) (ec sg i.toNat 2) m x.a2) x
def legStep(s0 s1 s2:Int)(sg:LL)(b0 b1 b2 f t m:Int)(x:LegS)(k:Nat):LegS:=legSeg s0 s1 s2 sg b0 b1 b2 f t m x (legI sg.length m k)
def legK(s0 s1 s2:Int)(sg:LL)(b0 b1 b2 f t m:Int)(x:LegS):Nat->LegS
 |0=>x
 |k+1=>legStep s0 s1 s2 sg b0 b1 b2 f t m (legK s0 s1 s2 sg b0 b1 b2 f t m x k) k
def clamp(n v:Int):Int:=min (max v 0) n
def legM(f t:Int):Int:=if t<f then-1 else 1
def leg(s0 s1 s2:Int)(sg:LL)(b0 b1 b2 d0 d1 d2 f t:Int):LegS:=legK s0 s1 s2 sg b0 b1 b2 f t (legM f t) ⟨[],0,d0,d1,d2,if legM f t<0 then plen sg else 0⟩ sg.length
def okB3(b0 b1 b2:Int):Prop:=(0<=b0/\b0<=4096)/\(0<=b1/\b1<=4096)/\(0<=b2/\b2<=4096)
end U
namespace Go.Proofs.YthkoabbiiadbjaaGreat
open Go Go.HL U
def SLeg(hA:List HV)(pA:List (List HC)):SR:=match hA,pA with
 |[.agg [.int .i64 s0, .int .i64 s1, .int .i64 s2, .sl false [4,4,4,4,4,4,4] sg, .sl false [4,4,4] mk], .agg ax, .agg [.int .i64 d0, .int .i64 d1, .int .i64 d2], .ce (.int .i64 f), .ce (.int .i64 t)],[]=>match ax with
  |[.int .i64 sta, .int .i64 spa, .int .i64 aca, .int .i64 jea, .int .i64 loa, .int .i64 hia, .int .i64 bla, .int .i64 oga, .int .i64 sga, .sl false [4] pta, .int .i64 stb, .int .i64 spb, .int .i64 acb, .int .i64 jeb, .int .i64 lob, .int .i64 hib, .int .i64 blb, .int .i64 ogb, .int .i64 sgb, .sl false [4] ptb, .int .i64 stc, .int .i64 spc, .int .i64 acc, .int .i64 jec, .int .i64 loc, .int .i64 hic, .int .i64 blc, .int .i64 ogc, .int .i64 sgc, .sl false [4] ptc]=> .all (okLen sg/\okPts s0 s1 s2 sg/\okB3 bla blb blc) LegS (fun x=>x=leg s0 s1 s2 sg bla blb blc d0 d1 d2 (clamp (plen sg) f) (clamp (plen sg) t)) (fun x=>⟨.agg [.sl false [4,4,4,4,4,4,4,4,4,4] x.pk,I6 x.ln,I6 (clamp (plen sg) f),I6 d0,I6 d1,I6 d2],false,[],[]⟩)
  |_=> .fail
 |_,_=> .fail
def tabLeg:List (FuncId×HL.Spec):=[(23,SPLen),(55,SFacing),(56,SSlack),(57,SAdd)]
def anLeg:LAnn:=⟨[3,4,5,6,10,12,13,14,15,45,46,47],[10,12],[1000005,1000006,1000010,1000012,1000014],false⟩
def LLeg(v:LV):LR:=match v with
 |([.ce (.int .i64 f), .ce (.int .i64 t), .ce (.ptr 1000005 0), .ce (.ptr 1000006 0), .ce (.ptr 1000010 0), .ce (.ptr 1000012 0), .ce (.int .i64 m), .ce (.ptr 1000014 0), .ce (.int .i64 bg), .ce (.sl false [4,4,4,4,4,4,4] l), .ce (.int .i64 n), .ce (.int .i64 k)],[[.int .i64 s0, .int .i64 s1, .int .i64 s2, .sl false [4,4,4,4,4,4,4] sg, .sl false [4,4,4] mk],ax,bz,bt,[.int .i64 a0, .int .i64 a1, .int .i64 a2]])=>match ax with
  |[.int .i64 sta, .int .i64 spa, .int .i64 aca, .int .i64 jea, .int .i64 loa, .int .i64 hia, .int .i64 bla, .int .i64 oga, .int .i64 sga, .sl false [4] pta, .int .i64 stb, .int .i64 spb, .int .i64 acb, .int .i64 jeb, .int .i64 lob, .int .i64 hib, .int .i64 blb, .int .i64 ogb, .int .i64 sgb, .sl false [4] ptb, .int .i64 stc, .int .i64 spc, .int .i64 acc, .int .i64 jec, .int .i64 loc, .int .i64 hic, .int .i64 blc, .int .i64 ogc, .int .i64 sgc, .sl false [4] ptc]=>match bz,bt with
   |[.sl true [4,4,4,4,4,4,4,4,4,4] zz, .int .i64 z1, .int .i64 z2, .int .i64 z3, .int .i64 z4, .int .i64 z5],[.mu [4,4,4,4,4,4,4,4,4,4] pk, .int .i64 ln, .int .i64 sa, .int .i64 d0, .int .i64 d1, .int .i64 d2]=> .all (n=l.length/\k=0/\l=sg/\(m=1/\bg=0∨m= -1/\bg=plen sg)/\(0<=f/\f<=plen sg)/\(0<=t/\t<=plen sg)/\pk.length=0/\ln=0/\okLen sg/\okPts s0 s1 s2 sg/\okB3 bla blb blc) LegS (fun x=>x=legK s0 s1 s2 sg bla blb blc f t m ⟨[],0,a0,a1,a2,bg⟩ sg.length) (fun _=> .exit 0) (fun x=>([.ce (.ptr 1000010 0), .ce (.ptr 1000012 0)],[[I6 s0,I6 s1,I6 s2, .sl false [4,4,4,4,4,4,4] sg, .sl false [4,4,4] mk],[I6 sta,I6 spa,I6 aca,I6 jea,I6 loa,I6 hia,I6 bla,I6 oga,I6 sga, .sl false [4] pta,I6 stb,I6 spb,I6 acb,I6 jeb,I6 lob,I6 hib,I6 blb,I6 ogb,I6 sgb, .sl false [4] ptb,I6 stc,I6 spc,I6 acc,I6 jec,I6 loc,I6 hic,I6 blc,I6 ogc,I6 sgc, .sl false [4] ptc],[.sl true [4,4,4,4,4,4,4,4,4,4] zz,I6 z1,I6 z2,I6 z3,I6 z4,I6 z5],[.mu [4,4,4,4,4,4,4,4,4,4] x.pk,I6 x.ln,I6 sa,I6 d0,I6 d1,I6 d2],[I6 x.a0,I6 x.a1,I6 x.a2]]))
   |_,_=> .fail
  |_=> .fail
 |_=> .fail
noncomputable def CLeg:Ctx:=⟨Tryz.prog,gam tabLeg,Tryz.f22.ntmps,[(11,anLeg,LLeg)],[119,spl 10 1000012 0 9]⟩
theorem vbLeg(s0 s1 s2 f t m bg n k a0 a1 a2 z1 z2 z3 z4 z5 ln sa d0 d1 d2:Int)(sg mk l zz pk:LL)(sta spa aca jea loa hia bla oga sga stb spb acb jeb lob hib blb ogb sgb stc spc acc jec loc hic blc ogc sgc:Int)(pta ptb ptc:LL)(K:HEx->LV->Prop):(nbodyT true CLeg anLeg (nthLoop Tryz.f22 0) (([.ce (I6 f), .ce (I6 t), .ce (.ptr 1000005 0), .ce (.ptr 1000006 0), .ce (.ptr 1000010 0), .ce (.ptr 1000012 0), .ce (I6 m), .ce (.ptr 1000014 0), .ce (I6 bg), .ce (.sl false [4,4,4,4,4,4,4] l), .ce (I6 n), .ce (I6 k)],[[I6 s0,I6 s1,I6 s2, .sl false [4,4,4,4,4,4,4] sg, .sl false [4,4,4] mk],[I6 sta,I6 spa,I6 aca,I6 jea,I6 loa,I6 hia,I6 bla,I6 oga,I6 sga, .sl false [4] pta,I6 stb,I6 spb,I6 acb,I6 jeb,I6 lob,I6 hib,I6 blb,I6 ogb,I6 sgb, .sl false [4] ptb,I6 stc,I6 spc,I6 acc,I6 jec,I6 loc,I6 hic,I6 blc,I6 ogc,I6 sgc, .sl false [4] ptc],[.sl true [4,4,4,4,4,4,4,4,4,4] zz,I6 z1,I6 z2,I6 z3,I6 z4,I6 z5],[.mu [4,4,4,4,4,4,4,4,4,4] pk,I6 ln,I6 sa,I6 d0,I6 d1,I6 d2],[I6 a0,I6 a1,I6 a2]])) K)=(Br (k<n) (Br (m<0) (R6 ((sg.length:Int)-1)/\∀x1,x1=(sg.length:Int)-1->R6 (x1-k)/\∀x2,x2=x1-k->(0<=x2/\x2<(sg.length:Int))/\∀x3,x3=ec sg x2.toNat 3->R6 (m*x3)/\∀x4,x4=m*x3->R6 (bg+x4)/\∀x5,x5=bg+x4->∀x6,x6=min bg x5->∀x7,x7=min f t->∀x8,x8=max x6 x7->∀x9,x9=max bg x5->∀x10,x10=max f t->∀x11,x11=min x9 x10->Br (x8<x11) (((0<=x2/\x2<(sg.length:Int))/\(m=1∨m=(-1:Int))/\okPts s0 s1 s2 sg/\sg.length<=1073741824)/\∀x12,x12=fc1 (bgn s0 sg (0:Nat) x2) (ec sg x2.toNat 0) m a0->∀x13,x13=fc1 (bgn s1 sg (1:Nat) x2) (ec sg x2.toNat 1) m a1->∀x14,x14=fc1 (bgn s2 sg (2:Nat) x2) (ec sg x2.toNat 2) m a2->Br (m<0) (True/\∀x15,x15=slk bla blb blc a0 a1 a2 x12 x13 x14->Br (x15>0) (((-2305843009213693952<=x15/\x15<=2305843009213693952)/\(-2305843009213693952<=ln/\ln<=2305843009213693952)/\pk.length<=1000000000000/\∀(j:Nat),j<pk.length-> -2305843009213693952<=ec pk j 1/\ec pk j 1<=2305843009213693952)/\(∃(x:LL×Int),x=tadd pk ln [(0:Int),x15,x11,(0:Int),a0,a1,a2,x12,x13,x14])/\∀(x:LL×Int),x=tadd pk ln [(0:Int),x15,x11,(0:Int),a0,a1,a2,x12,x13,x14]->R6 (x11-x8)/\∀x18,x18=x11-x8->((-2305843009213693952<=x18/\x18<=2305843009213693952)/\((-2305843009213693952:Int)<=x.2/\x.2<=2305843009213693952)/\List.length x.1<=1000000000000/\∀(j:Nat),j<List.length x.1-> -2305843009213693952<=ec x.1 j 1/\ec x.1 j 1<=2305843009213693952)/\(∃(x_1:LL×Int),x_1=tadd x.1 x.2 [(0:Int),x18,x11,m,x12,x13,x14,x12,x13,x14])/\∀(x_1:LL×Int),x_1=tadd x.1 x.2 [(0:Int),x18,x11,m,x12,x13,x14,x12,x13,x14]->R6 (k+1)/\∀x21,x21=k+1->K .normal ([.ce (I6 f), .ce (I6 t), .ce (.ptr 1000005 0), .ce (.ptr 1000006 0), .ce (.ptr 1000010 0), .ce (.ptr 1000012 0), .ce (I6 m), .ce (.ptr 1000014 0), .ce (I6 x5), .ce (.sl false [4,4,4,4,4,4,4] l), .ce (I6 n), .ce (I6 x21)],[[I6 s0,I6 s1,I6 s2, .sl false [4,4,4,4,4,4,4] sg, .sl false [4,4,4] mk],[I6 sta,I6 spa,I6 aca,I6 jea,I6 loa,I6 hia,I6 bla,I6 oga,I6 sga, .sl false [4] pta,I6 stb,I6 spb,I6 acb,I6 jeb,I6 lob,I6 hib,I6 blb,I6 ogb,I6 sgb, .sl false [4] ptb,I6 stc,I6 spc,I6 acc,I6 jec,I6 loc,I6 hic,I6 blc,I6 ogc,I6 sgc, .sl false [4] ptc],[.sl true [4,4,4,4,4,4,4,4,4,4] zz,I6 z1,I6 z2,I6 z3,I6 z4,I6 z5],[.mu [4,4,4,4,4,4,4,4,4,4] x_1.1,I6 x_1.2,I6 sa,I6 d0,I6 d1,I6 d2],[I6 x12,I6 x13,I6 x14]])) (R6 (x11-x8)/\∀x22,x22=x11-x8->((-2305843009213693952<=x22/\x22<=2305843009213693952)/\(-2305843009213693952<=ln/\ln<=2305843009213693952)/\pk.length<=1000000000000/\∀(j:Nat),j<pk.length-> -2305843009213693952<=ec pk j 1/\ec pk j 1<=2305843009213693952)/\(∃(x:LL×Int),x=tadd pk ln [(0:Int),x22,x11,m,x12,x13,x14,x12,x13,x14])/\∀(x:LL×Int),x=tadd pk ln [(0:Int),x22,x11,m,x12,x13,x14,x12,x13,x14]->R6 (k+1)/\∀x25,x25=k+1->K .normal ([.ce (I6 f), .ce (I6 t), .ce (.ptr 1000005 0), .ce (.ptr 1000006 0), .ce (.ptr 1000010 0), .ce (.ptr 1000012 0), .ce (I6 m), .ce (.ptr 1000014 0), .ce (I6 x5), .ce (.sl false [4,4,4,4,4,4,4] l), .ce (I6 n), .ce (I6 x25)],[[I6 s0,I6 s1,I6 s2, .sl false [4,4,4,4,4,4,4] sg, .sl false [4,4,4] mk],[I6 sta,I6 spa,I6 aca,I6 jea,I6 loa,I6 hia,I6 bla,I6 oga,I6 sga, .sl false [4] pta,I6 stb,I6 spb,I6 acb,I6 jeb,I6 lob,I6 hib,I6 blb,I6 ogb,I6 sgb, .sl false [4] ptb,I6 stc,I6 spc,I6 acc,I6 jec,I6 loc,I6 hic,I6 blc,I6 ogc,I6 sgc, .sl false [4] ptc],[.sl true [4,4,4,4,4,4,4,4,4,4] zz,I6 z1,I6 z2,I6 z3,I6 z4,I6 z5],[.mu [4,4,4,4,4,4,4,4,4,4] x.1,I6 x.2,I6 sa,I6 d0,I6 d1,I6 d2],[I6 x12,I6 x13,I6 x14]]))) (True/\∀x26,x26=slk bla blb blc a0 a1 a2 x12 x13 x14->Br (x26>0) (((-2305843009213693952<=x26/\x26<=2305843009213693952)/\(-2305843009213693952<=ln/\ln<=2305843009213693952)/\pk.length<=1000000000000/\∀(j:Nat),j<pk.length-> -2305843009213693952<=ec pk j 1/\ec pk j 1<=2305843009213693952)/\(∃(x:LL×Int),x=tadd pk ln [(0:Int),x26,x8,(0:Int),a0,a1,a2,x12,x13,x14])/\∀(x:LL×Int),x=tadd pk ln [(0:Int),x26,x8,(0:Int),a0,a1,a2,x12,x13,x14]->R6 (x11-x8)/\∀x29,x29=x11-x8->((-2305843009213693952<=x29/\x29<=2305843009213693952)/\((-2305843009213693952:Int)<=x.2/\x.2<=2305843009213693952)/\List.length x.1<=1000000000000/\∀(j:Nat),j<List.length x.1-> -2305843009213693952<=ec x.1 j 1/\ec x.1 j 1<=2305843009213693952)/\(∃(x_1:LL×Int),x_1=tadd x.1 x.2 [(0:Int),x29,x8,m,x12,x13,x14,x12,x13,x14])/\∀(x_1:LL×Int),x_1=tadd x.1 x.2 [(0:Int),x29,x8,m,x12,x13,x14,x12,x13,x14]->R6 (k+1)/\∀x32,x32=k+1->K .normal ([.ce (I6 f), .ce (I6 t), .ce (.ptr 1000005 0), .ce (.ptr 1000006 0), .ce (.ptr 1000010 0), .ce (.ptr 1000012 0), .ce (I6 m), .ce (.ptr 1000014 0), .ce (I6 x5), .ce (.sl false [4,4,4,4,4,4,4] l), .ce (I6 n), .ce (I6 x32)],[[I6 s0,I6 s1,I6 s2, .sl false [4,4,4,4,4,4,4] sg, .sl false [4,4,4] mk],[I6 sta,I6 spa,I6 aca,I6 jea,I6 loa,I6 hia,I6 bla,I6 oga,I6 sga, .sl false [4] pta,I6 stb,I6 spb,I6 acb,I6 jeb,I6 lob,I6 hib,I6 blb,I6 ogb,I6 sgb, .sl false [4] ptb,I6 stc,I6 spc,I6 acc,I6 jec,I6 loc,I6 hic,I6 blc,I6 ogc,I6 sgc, .sl false [4] ptc],[.sl true [4,4,4,4,4,4,4,4,4,4] zz,I6 z1,I6 z2,I6 z3,I6 z4,I6 z5],[.mu [4,4,4,4,4,4,4,4,4,4] x_1.1,I6 x_1.2,I6 sa,I6 d0,I6 d1,I6 d2],[I6 x12,I6 x13,I6 x14]])) (R6 (x11-x8)/\∀x33,x33=x11-x8->((-2305843009213693952<=x33/\x33<=2305843009213693952)/\(-2305843009213693952<=ln/\ln<=2305843009213693952)/\pk.length<=1000000000000/\∀(j:Nat),j<pk.length-> -2305843009213693952<=ec pk j 1/\ec pk j 1<=2305843009213693952)/\(∃(x:LL×Int),x=tadd pk ln [(0:Int),x33,x8,m,x12,x13,x14,x12,x13,x14])/\∀(x:LL×Int),x=tadd pk ln [(0:Int),x33,x8,m,x12,x13,x14,x12,x13,x14]->R6 (k+1)/\∀x36,x36=k+1->K .normal ([.ce (I6 f), .ce (I6 t), .ce (.ptr 1000005 0), .ce (.ptr 1000006 0), .ce (.ptr 1000010 0), .ce (.ptr 1000012 0), .ce (I6 m), .ce (.ptr 1000014 0), .ce (I6 x5), .ce (.sl false [4,4,4,4,4,4,4] l), .ce (I6 n), .ce (I6 x36)],[[I6 s0,I6 s1,I6 s2, .sl false [4,4,4,4,4,4,4] sg, .sl false [4,4,4] mk],[I6 sta,I6 spa,I6 aca,I6 jea,I6 loa,I6 hia,I6 bla,I6 oga,I6 sga, .sl false [4] pta,I6 stb,I6 spb,I6 acb,I6 jeb,I6 lob,I6 hib,I6 blb,I6 ogb,I6 sgb, .sl false [4] ptb,I6 stc,I6 spc,I6 acc,I6 jec,I6 loc,I6 hic,I6 blc,I6 ogc,I6 sgc, .sl false [4] ptc],[.sl true [4,4,4,4,4,4,4,4,4,4] zz,I6 z1,I6 z2,I6 z3,I6 z4,I6 z5],[.mu [4,4,4,4,4,4,4,4,4,4] x.1,I6 x.2,I6 sa,I6 d0,I6 d1,I6 d2],[I6 x12,I6 x13,I6 x14]])))) (R6 (k+1)/\∀x37,x37=k+1->K .normal ([.ce (I6 f), .ce (I6 t), .ce (.ptr 1000005 0), .ce (.ptr 1000006 0), .ce (.ptr 1000010 0), .ce (.ptr 1000012 0), .ce (I6 m), .ce (.ptr 1000014 0), .ce (I6 x5), .ce (.sl false [4,4,4,4,4,4,4] l), .ce (I6 n), .ce (I6 x37)],[[I6 s0,I6 s1,I6 s2, .sl false [4,4,4,4,4,4,4] sg, .sl false [4,4,4] mk],[I6 sta,I6 spa,I6 aca,I6 jea,I6 loa,I6 hia,I6 bla,I6 oga,I6 sga, .sl false [4] pta,I6 stb,I6 spb,I6 acb,I6 jeb,I6 lob,I6 hib,I6 blb,I6 ogb,I6 sgb, .sl false [4] ptb,I6 stc,I6 spc,I6 acc,I6 jec,I6 loc,I6 hic,I6 blc,I6 ogc,I6 sgc, .sl false [4] ptc],[.sl true [4,4,4,4,4,4,4,4,4,4] zz,I6 z1,I6 z2,I6 z3,I6 z4,I6 z5],[.mu [4,4,4,4,4,4,4,4,4,4] pk,I6 ln,I6 sa,I6 d0,I6 d1,I6 d2],[I6 a0,I6 a1,I6 a2]]))) ((0<=k/\k<(sg.length:Int))/\∀x38,x38=ec sg k.toNat 3->R6 (m*x38)/\∀x39,x39=m*x38->R6 (bg+x39)/\∀x40,x40=bg+x39->∀x41,x41=min bg x40->∀x42,x42=min f t->∀x43,x43=max x41 x42->∀x44,x44=max bg x40->∀x45,x45=max f t->∀x46,x46=min x44 x45->Br (x43<x46) (((0<=k/\k<(sg.length:Int))/\(m=1∨m=(-1:Int))/\okPts s0 s1 s2 sg/\sg.length<=1073741824)/\∀x47,x47=fc1 (bgn s0 sg (0:Nat) k) (ec sg k.toNat 0) m a0->∀x48,x48=fc1 (bgn s1 sg (1:Nat) k) (ec sg k.toNat 1) m a1->∀x49,x49=fc1 (bgn s2 sg (2:Nat) k) (ec sg k.toNat 2) m a2->Br (m<0) (True/\∀x50,x50=slk bla blb blc a0 a1 a2 x47 x48 x49->Br (x50>0) (((-2305843009213693952<=x50/\x50<=2305843009213693952)/\(-2305843009213693952<=ln/\ln<=2305843009213693952)/\pk.length<=1000000000000/\∀(j:Nat),j<pk.length-> -2305843009213693952<=ec pk j 1/\ec pk j 1<=2305843009213693952)/\(∃(x:LL×Int),x=tadd pk ln [(0:Int),x50,x46,(0:Int),a0,a1,a2,x47,x48,x49])/\∀(x:LL×Int),x=tadd pk ln [(0:Int),x50,x46,(0:Int),a0,a1,a2,x47,x48,x49]->R6 (x46-x43)/\∀x53,x53=x46-x43->((-2305843009213693952<=x53/\x53<=2305843009213693952)/\((-2305843009213693952:Int)<=x.2/\x.2<=2305843009213693952)/\List.length x.1<=1000000000000/\∀(j:Nat),j<List.length x.1-> -2305843009213693952<=ec x.1 j 1/\ec x.1 j 1<=2305843009213693952)/\(∃(x_1:LL×Int),x_1=tadd x.1 x.2 [(0:Int),x53,x46,m,x47,x48,x49,x47,x48,x49])/\∀(x_1:LL×Int),x_1=tadd x.1 x.2 [(0:Int),x53,x46,m,x47,x48,x49,x47,x48,x49]->R6 (k+1)/\∀x56,x56=k+1->K .normal ([.ce (I6 f), .ce (I6 t), .ce (.ptr 1000005 0), .ce (.ptr 1000006 0), .ce (.ptr 1000010 0), .ce (.ptr 1000012 0), .ce (I6 m), .ce (.ptr 1000014 0), .ce (I6 x40), .ce (.sl false [4,4,4,4,4,4,4] l), .ce (I6 n), .ce (I6 x56)],[[I6 s0,I6 s1,I6 s2, .sl false [4,4,4,4,4,4,4] sg, .sl false [4,4,4] mk],[I6 sta,I6 spa,I6 aca,I6 jea,I6 loa,I6 hia,I6 bla,I6 oga,I6 sga, .sl false [4] pta,I6 stb,I6 spb,I6 acb,I6 jeb,I6 lob,I6 hib,I6 blb,I6 ogb,I6 sgb, .sl false [4] ptb,I6 stc,I6 spc,I6 acc,I6 jec,I6 loc,I6 hic,I6 blc,I6 ogc,I6 sgc, .sl false [4] ptc],[.sl true [4,4,4,4,4,4,4,4,4,4] zz,I6 z1,I6 z2,I6 z3,I6 z4,I6 z5],[.mu [4,4,4,4,4,4,4,4,4,4] x_1.1,I6 x_1.2,I6 sa,I6 d0,I6 d1,I6 d2],[I6 x47,I6 x48,I6 x49]])) (R6 (x46-x43)/\∀x57,x57=x46-x43->((-2305843009213693952<=x57/\x57<=2305843009213693952)/\(-2305843009213693952<=ln/\ln<=2305843009213693952)/\pk.length<=1000000000000/\∀(j:Nat),j<pk.length-> -2305843009213693952<=ec pk j 1/\ec pk j 1<=2305843009213693952)/\(∃(x:LL×Int),x=tadd pk ln [(0:Int),x57,x46,m,x47,x48,x49,x47,x48,x49])/\∀(x:LL×Int),x=tadd pk ln [(0:Int),x57,x46,m,x47,x48,x49,x47,x48,x49]->R6 (k+1)/\∀x60,x60=k+1->K .normal ([.ce (I6 f), .ce (I6 t), .ce (.ptr 1000005 0), .ce (.ptr 1000006 0), .ce (.ptr 1000010 0), .ce (.ptr 1000012 0), .ce (I6 m), .ce (.ptr 1000014 0), .ce (I6 x40), .ce (.sl false [4,4,4,4,4,4,4] l), .ce (I6 n), .ce (I6 x60)],[[I6 s0,I6 s1,I6 s2, .sl false [4,4,4,4,4,4,4] sg, .sl false [4,4,4] mk],[I6 sta,I6 spa,I6 aca,I6 jea,I6 loa,I6 hia,I6 bla,I6 oga,I6 sga, .sl false [4] pta,I6 stb,I6 spb,I6 acb,I6 jeb,I6 lob,I6 hib,I6 blb,I6 ogb,I6 sgb, .sl false [4] ptb,I6 stc,I6 spc,I6 acc,I6 jec,I6 loc,I6 hic,I6 blc,I6 ogc,I6 sgc, .sl false [4] ptc],[.sl true [4,4,4,4,4,4,4,4,4,4] zz,I6 z1,I6 z2,I6 z3,I6 z4,I6 z5],[.mu [4,4,4,4,4,4,4,4,4,4] x.1,I6 x.2,I6 sa,I6 d0,I6 d1,I6 d2],[I6 x47,I6 x48,I6 x49]]))) (True/\∀x61,x61=slk bla blb blc a0 a1 a2 x47 x48 x49->Br (x61>0) (((-2305843009213693952<=x61/\x61<=2305843009213693952)/\(-2305843009213693952<=ln/\ln<=2305843009213693952)/\pk.length<=1000000000000/\∀(j:Nat),j<pk.length-> -2305843009213693952<=ec pk j 1/\ec pk j 1<=2305843009213693952)/\(∃(x:LL×Int),x=tadd pk ln [(0:Int),x61,x43,(0:Int),a0,a1,a2,x47,x48,x49])/\∀(x:LL×Int),x=tadd pk ln [(0:Int),x61,x43,(0:Int),a0,a1,a2,x47,x48,x49]->R6 (x46-x43)/\∀x64,x64=x46-x43->((-2305843009213693952<=x64/\x64<=2305843009213693952)/\((-2305843009213693952:Int)<=x.2/\x.2<=2305843009213693952)/\List.length x.1<=1000000000000/\∀(j:Nat),j<List.length x.1-> -2305843009213693952<=ec x.1 j 1/\ec x.1 j 1<=2305843009213693952)/\(∃(x_1:LL×Int),x_1=tadd x.1 x.2 [(0:Int),x64,x43,m,x47,x48,x49,x47,x48,x49])/\∀(x_1:LL×Int),x_1=tadd x.1 x.2 [(0:Int),x64,x43,m,x47,x48,x49,x47,x48,x49]->R6 (k+1)/\∀x67,x67=k+1->K .normal ([.ce (I6 f), .ce (I6 t), .ce (.ptr 1000005 0), .ce (.ptr 1000006 0), .ce (.ptr 1000010 0), .ce (.ptr 1000012 0), .ce (I6 m), .ce (.ptr 1000014 0), .ce (I6 x40), .ce (.sl false [4,4,4,4,4,4,4] l), .ce (I6 n), .ce (I6 x67)],[[I6 s0,I6 s1,I6 s2, .sl false [4,4,4,4,4,4,4] sg, .sl false [4,4,4] mk],[I6 sta,I6 spa,I6 aca,I6 jea,I6 loa,I6 hia,I6 bla,I6 oga,I6 sga, .sl false [4] pta,I6 stb,I6 spb,I6 acb,I6 jeb,I6 lob,I6 hib,I6 blb,I6 ogb,I6 sgb, .sl false [4] ptb,I6 stc,I6 spc,I6 acc,I6 jec,I6 loc,I6 hic,I6 blc,I6 ogc,I6 sgc, .sl false [4] ptc],[.sl true [4,4,4,4,4,4,4,4,4,4] zz,I6 z1,I6 z2,I6 z3,I6 z4,I6 z5],[.mu [4,4,4,4,4,4,4,4,4,4] x_1.1,I6 x_1.2,I6 sa,I6 d0,I6 d1,I6 d2],[I6 x47,I6 x48,I6 x49]])) (R6 (x46-x43)/\∀x68,x68=x46-x43->((-2305843009213693952<=x68/\x68<=2305843009213693952)/\(-2305843009213693952<=ln/\ln<=2305843009213693952)/\pk.length<=1000000000000/\∀(j:Nat),j<pk.length-> -2305843009213693952<=ec pk j 1/\ec pk j 1<=2305843009213693952)/\(∃(x:LL×Int),x=tadd pk ln [(0:Int),x68,x43,m,x47,x48,x49,x47,x48,x49])/\∀(x:LL×Int),x=tadd pk ln [(0:Int),x68,x43,m,x47,x48,x49,x47,x48,x49]->R6 (k+1)/\∀x71,x71=k+1->K .normal ([.ce (I6 f), .ce (I6 t), .ce (.ptr 1000005 0), .ce (.ptr 1000006 0), .ce (.ptr 1000010 0), .ce (.ptr 1000012 0), .ce (I6 m), .ce (.ptr 1000014 0), .ce (I6 x40), .ce (.sl false [4,4,4,4,4,4,4] l), .ce (I6 n), .ce (I6 x71)],[[I6 s0,I6 s1,I6 s2, .sl false [4,4,4,4,4,4,4] sg, .sl false [4,4,4] mk],[I6 sta,I6 spa,I6 aca,I6 jea,I6 loa,I6 hia,I6 bla,I6 oga,I6 sga, .sl false [4] pta,I6 stb,I6 spb,I6 acb,I6 jeb,I6 lob,I6 hib,I6 blb,I6 ogb,I6 sgb, .sl false [4] ptb,I6 stc,I6 spc,I6 acc,I6 jec,I6 loc,I6 hic,I6 blc,I6 ogc,I6 sgc, .sl false [4] ptc],[.sl true [4,4,4,4,4,4,4,4,4,4] zz,I6 z1,I6 z2,I6 z3,I6 z4,I6 z5],[.mu [4,4,4,4,4,4,4,4,4,4] x.1,I6 x.2,I6 sa,I6 d0,I6 d1,I6 d2],[I6 x47,I6 x48,I6 x49]])))) (R6 (k+1)/\∀x72,x72=k+1->K .normal ([.ce (I6 f), .ce (I6 t), .ce (.ptr 1000005 0), .ce (.ptr 1000006 0), .ce (.ptr 1000010 0), .ce (.ptr 1000012 0), .ce (I6 m), .ce (.ptr 1000014 0), .ce (I6 x40), .ce (.sl false [4,4,4,4,4,4,4] l), .ce (I6 n), .ce (I6 x72)],[[I6 s0,I6 s1,I6 s2, .sl false [4,4,4,4,4,4,4] sg, .sl false [4,4,4] mk],[I6 sta,I6 spa,I6 aca,I6 jea,I6 loa,I6 hia,I6 bla,I6 oga,I6 sga, .sl false [4] pta,I6 stb,I6 spb,I6 acb,I6 jeb,I6 lob,I6 hib,I6 blb,I6 ogb,I6 sgb, .sl false [4] ptb,I6 stc,I6 spc,I6 acc,I6 jec,I6 loc,I6 hic,I6 blc,I6 ogc,I6 sgc, .sl false [4] ptc],[.sl true [4,4,4,4,4,4,4,4,4,4] zz,I6 z1,I6 z2,I6 z3,I6 z4,I6 z5],[.mu [4,4,4,4,4,4,4,4,4,4] pk,I6 ln,I6 sa,I6 d0,I6 d1,I6 d2],[I6 a0,I6 a1,I6 a2]])))) (K (.exit 0) ([.ce (.ptr 1000010 0), .ce (.ptr 1000012 0)],[[I6 s0,I6 s1,I6 s2, .sl false [4,4,4,4,4,4,4] sg, .sl false [4,4,4] mk],[I6 sta,I6 spa,I6 aca,I6 jea,I6 loa,I6 hia,I6 bla,I6 oga,I6 sga, .sl false [4] pta,I6 stb,I6 spb,I6 acb,I6 jeb,I6 lob,I6 hib,I6 blb,I6 ogb,I6 sgb, .sl false [4] ptb,I6 stc,I6 spc,I6 acc,I6 jec,I6 loc,I6 hic,I6 blc,I6 ogc,I6 sgc, .sl false [4] ptc],[.sl true [4,4,4,4,4,4,4,4,4,4] zz,I6 z1,I6 z2,I6 z3,I6 z4,I6 z5],[.mu [4,4,4,4,4,4,4,4,4,4] pk,I6 ln,I6 sa,I6 d0,I6 d1,I6 d2],[I6 a0,I6 a1,I6 a2]]))):=by kernel_rfl
theorem vcLeg(s0 s1 s2 f t d0 d1 d2:Int)(sg mk:LL)(sta spa aca jea loa hia bla oga sga stb spb acb jeb lob hib blb ogb sgb stc spc acc jec loc hic blc ogc sgc:Int)(pta ptb ptc:LL)(Q:Res->Prop):(nfun true CLeg Tryz.f22 (bodyOf Tryz.f22) [.agg [I6 s0,I6 s1,I6 s2, .sl false [4,4,4,4,4,4,4] sg, .sl false [4,4,4] mk], .agg [I6 sta,I6 spa,I6 aca,I6 jea,I6 loa,I6 hia,I6 bla,I6 oga,I6 sga, .sl false [4] pta,I6 stb,I6 spb,I6 acb,I6 jeb,I6 lob,I6 hib,I6 blb,I6 ogb,I6 sgb, .sl false [4] ptb,I6 stc,I6 spc,I6 acc,I6 jec,I6 loc,I6 hic,I6 blc,I6 ogc,I6 sgc, .sl false [4] ptc], .agg [I6 d0,I6 d1,I6 d2], .ce (I6 f), .ce (I6 t)] [] Q)=(okLen sg/\∀x1,x1=plen sg->∀x2,x2=max f 0->∀x3,x3=min x2 x1->∀x4,x4=max t 0->∀x5,x5=min x4 x1->Br (x5<x3) (((sg.length:Int)=(sg.length:Int)/\(0:Int)=0/\sg=sg/\((-1:Int)=1/\x1=0∨(-1:Int)=(-1:Int)/\x1=plen sg)/\(0<=x3/\x3<=plen sg)/\(0<=x5/\x5<=plen sg)/\(0:Nat)=0/\(0:Int)=0/\okLen sg/\okPts s0 s1 s2 sg/\okB3 bla blb blc)/\∀(x:LegS),x=legK s0 s1 s2 sg bla blb blc x3 x5 (-1:Int) {pk:=[],ln:=(0:Int),a0:=d0,a1:=d1,a2:=d2,bg:=x1} (sg.length)->Q ⟨.agg [.sl false [4,4,4,4,4,4,4,4,4,4] x.pk,I6 x.ln,I6 x3,I6 d0,I6 d1,I6 d2],false,[],[]⟩) (((sg.length:Int)=(sg.length:Int)/\(0:Int)=0/\sg=sg/\((1:Int)=1/\(0:Int)=0∨(1:Int)=(-1:Int)/\(0:Int)=plen sg)/\(0<=x3/\x3<=plen sg)/\(0<=x5/\x5<=plen sg)/\(0:Nat)=0/\(0:Int)=0/\okLen sg/\okPts s0 s1 s2 sg/\okB3 bla blb blc)/\∀(x:LegS),x=legK s0 s1 s2 sg bla blb blc x3 x5 (1:Int) {pk:=[],ln:=(0:Int),a0:=d0,a1:=d1,a2:=d2,bg:=(0:Int)} (sg.length)->Q ⟨.agg [.sl false [4,4,4,4,4,4,4,4,4,4] x.pk,I6 x.ln,I6 x3,I6 d0,I6 d1,I6 d2],false,[],[]⟩)):=by kernel_rfl
end Go.Proofs.YthkoabbiiadbjaaGreat
namespace U
theorem slk_bd{b0 b1 b2:Int}(h:okB3 b0 b1 b2)(w0 w1 w2 d0 d1 d2:Int):0<=slk b0 b1 b2 w0 w1 w2 d0 d1 d2/\slk b0 b1 b2 w0 w1 w2 d0 d1 d2<=4096:=by
 unfold okB3 at h;unfold slk sl1;split<;>split<;>split<;>omega
def unitsOK(pk:LL)(ln:Int):Prop:=∀j,j<pk.length->0<=ec pk j 1/\ec pk j 1<=ln
theorem ec_set(pk:LL)(i j c:Nat)(r:List Int)(hi:i<pk.length):ec (pk.set i r) j c=if i=j then r.getD c 0 else ec pk j c:=by
 unfold ec;simp only[List.getD_eq_getElem?_getD,List.getElem?_set];split
 . rename_i e;subst e;rfl
 . rfl
theorem ec_app(a b:LL)(j c:Nat):ec (a++b) j c=if j<a.length then ec a j c else ec b (j-a.length) c:=by
 unfold ec;simp only[List.getD_eq_getElem?_getD,List.getElem?_append];split<;>rfl
theorem tadd_inv{pk:LL}{ln:Int}{q:List Int}(hl:0<=ln)(hu:unitsOK pk ln)(h1:0<=q.getD 1 0):(tadd pk ln q).2=ln+q.getD 1 0/\(tadd pk ln q).1.length<=pk.length+1/\unitsOK (tadd pk ln q).1 (ln+q.getD 1 0):=by
 unfold tadd;split
 . rename_i h;refine⟨rfl,by simp,fun j hj=> ?_⟩;dsimp only at hj⊢;rw[List.length_set]at hj;rw[ec_set _ _ _ _ _ (by omega)];split
   . have:=hu (pk.length-1) (by omega);have e:(more (pk.getD (pk.length-1) []) (q.getD 1 0)).getD 1 0=ec pk (pk.length-1) 1+q.getD 1 0:=rfl;rw[e];omega
   . have:=hu j hj;omega
 . refine⟨rfl,by simp,fun j hj=> ?_⟩;dsimp only at hj⊢;rw[List.length_append]at hj;rw[ec_app];split
   . rename_i h;have:=hu j h;omega
   . rename_i h;have:j-pk.length=0:=by simp at hj;omega
     rw[this];have e:ec [[ln,q.getD 1 0,q.getD 2 0,q.getD 3 0,q.getD 4 0,q.getD 5 0,q.getD 6 0,q.getD 7 0,q.getD 8 0,q.getD 9 0]] 0 1=q.getD 1 0:=rfl;rw[e];omega
def legJ(sg:LL)(m:Int)(k:Nat)(x:LegS):Prop:=(0<=x.ln/\x.ln<=8589934592*(k:Int))/\x.pk.length<=2*k/\unitsOK x.pk x.ln/\(m=1->x.bg=plen (sg.take k))/\(m= -1->x.bg=plen (sg.take (sg.length-k)))
theorem legI_bd{n:Nat}{m:Int}{k:Nat}(hk:k<n):0<=legI n m k/\legI n m k<n:=by unfold legI;split<;>omega
theorem legE_next{sg:LL}{m bg:Int}{k:Nat}(hk:k<sg.length)(h1:m=1->bg=plen (sg.take k))(h2:m= -1->bg=plen (sg.take (sg.length-k))):(m=1->legE sg m bg (legI sg.length m k)=plen (sg.take (k+1)))/\(m= -1->legE sg m bg (legI sg.length m k)=plen (sg.take (sg.length-(k+1)))):=by
 unfold legE legI;refine⟨fun e=> ?_,fun e=> ?_⟩
 . rw[h1 e,e,if_neg (by decide),plen_next sg hk];have:((k:Int)).toNat=k:=rfl;rw[this];omega
 . rw[h2 e,e,if_pos (by decide)];have e1:((sg.length:Int)-1-(k:Int)).toNat=sg.length-(k+1):=by omega
   rw[e1,show sg.length-k=sg.length-(k+1)+1 by omega,plen_next sg (by omega)];omega
theorem legJ_seg{s0 s1 s2:Int}{sg:LL}{b0 b1 b2 f t m:Int}{x:LegS}{k:Nat}(hl:okLen sg)(hb:okB3 b0 b1 b2)(hm:m=1∨m= -1)(hk:k<sg.length)(h:legJ sg m k x):legJ sg m (k+1) (legStep s0 s1 s2 sg b0 b1 b2 f t m x k):=by
 obtain⟨h1,h2,h3,h4,h5⟩:=h;have hE:=legE_next (m:=m) hk h4 h5;have hi:=legI_bd (m:=m) hk;have hlen:=hl.2 (legI sg.length m k).toNat (by omega);have hd:legHigh x.bg (legE sg m x.bg (legI sg.length m k)) f t-legLow x.bg (legE sg m x.bg (legI sg.length m k)) f t<=4294967296:=by
  unfold legHigh legLow legE;rcases hm with rfl|rfl<;>omega
 unfold legStep legSeg;generalize legLow x.bg (legE sg m x.bg (legI sg.length m k)) f t=low at*;generalize legHigh x.bg (legE sg m x.bg (legI sg.length m k)) f t=high at*;generalize legE sg m x.bg (legI sg.length m k)=e at*;generalize fc1 (bgn s0 sg 0 (legI sg.length m k)) (ec sg (legI sg.length m k).toNat 0) m x.a0=n0;generalize fc1 (bgn s1 sg 1 (legI sg.length m k)) (ec sg (legI sg.length m k).toNat 1) m x.a1=n1;generalize fc1 (bgn s2 sg 2 (legI sg.length m k)) (ec sg (legI sg.length m k).toNat 2) m x.a2=n2;unfold legPut;split
 . rename_i hlh;have hs:=slk_bd hb x.a0 x.a1 x.a2 n0 n1 n2;have htk:0<=(legTk x.pk x.ln (slk b0 b1 b2 x.a0 x.a1 x.a2 n0 n1 n2) (legS m low high) x.a0 x.a1 x.a2 n0 n1 n2).2/\(legTk x.pk x.ln (slk b0 b1 b2 x.a0 x.a1 x.a2 n0 n1 n2) (legS m low high) x.a0 x.a1 x.a2 n0 n1 n2).2<=x.ln+4096/\(legTk x.pk x.ln (slk b0 b1 b2 x.a0 x.a1 x.a2 n0 n1 n2) (legS m low high) x.a0 x.a1 x.a2 n0 n1 n2).1.length<=x.pk.length+1/\unitsOK (legTk x.pk x.ln (slk b0 b1 b2 x.a0 x.a1 x.a2 n0 n1 n2) (legS m low high) x.a0 x.a1 x.a2 n0 n1 n2).1 (legTk x.pk x.ln (slk b0 b1 b2 x.a0 x.a1 x.a2 n0 n1 n2) (legS m low high) x.a0 x.a1 x.a2 n0 n1 n2).2:=by
    generalize slk b0 b1 b2 x.a0 x.a1 x.a2 n0 n1 n2=u at*;unfold legTk;split
    . obtain⟨a1,a2,a3⟩:=tadd_inv (q:=[0,u,legS m low high,0,x.a0,x.a1,x.a2,n0,n1,n2]) h1.1 h3 hs.1;rw[<-a1]at a3;have a1:(tadd x.pk x.ln [0,u,legS m low high,0,x.a0,x.a1,x.a2,n0,n1,n2]).2=x.ln+u:=a1;exact⟨by omega,by omega,a2,a3⟩
    . exact⟨h1.1,by dsimp only;omega,by dsimp only;omega,h3⟩
   generalize legTk x.pk x.ln (slk b0 b1 b2 x.a0 x.a1 x.a2 n0 n1 n2) (legS m low high) x.a0 x.a1 x.a2 n0 n1 n2=y at*;obtain⟨y1,y2,y3,y4⟩:=htk;obtain⟨a1,a2,a3⟩:=tadd_inv (q:=[0,high-low,legS m low high,m,n0,n1,n2,n0,n1,n2]) y1 y4 (by show 0<=high-low;omega);rw[<-a1]at a3;have a1:(tadd y.1 y.2 [0,high-low,legS m low high,m,n0,n1,n2,n0,n1,n2]).2=y.2+(high-low):=a1;refine⟨⟨by dsimp only;omega,by dsimp only;omega⟩,by dsimp only;omega,a3,hE.1,hE.2⟩
 . exact⟨⟨h1.1,by dsimp only;omega⟩,by dsimp only;omega,h3,hE.1,hE.2⟩
theorem legJ_all{s0 s1 s2:Int}{sg:LL}{b0 b1 b2 f t m:Int}{x:LegS}(hl:okLen sg)(hb:okB3 b0 b1 b2)(hm:m=1∨m= -1)(h:legJ sg m 0 x):∀k,k<=sg.length->legJ sg m k (legK s0 s1 s2 sg b0 b1 b2 f t m x k):=by
 intro k;induction k with
 |zero=>intro _;exact h
 |succ k ih=>intro hk;exact legJ_seg hl hb hm (by omega) (ih (by omega))
end U
namespace Go.Proofs.YthkoabbiiadbjaaGreat
open Go Go.HL U
attribute [local irreducible] hfun bodyT fragT
set_option maxHeartbeats 4000000 in theorem legMain(s0 s1 s2 f t m bg n k i a0 a1 a2 z1 z2 z3 z4 z5 ln sa d0 d1 d2:Int)(sg mk l zz pk:LL)(sta spa aca jea loa hia bla oga sga stb spb acb jeb lob hib blb ogb sgb stc spc acc jec loc hic blc ogc sgc:Int)(pta ptb ptc:LL)(K:HEx->LV->Prop)(hi:0<=i/\i<sg.length)(hl:okLen sg)(hp:okPts s0 s1 s2 sg)(hb:okB3 bla blb blc)(hm:m=1∨m= -1)(hk:0<=k/\k<=1048576)(hbg:0<=bg/\bg<=4503599627370496)(hE:0<=legE sg m bg i/\legE sg m bg i<=4503599627370496)(J1:0<=ln/\ln<=9007199254740992)(J2:pk.length<=4194304)(J3:unitsOK pk ln)(fin:∀y:LegS,y=legSeg s0 s1 s2 sg bla blb blc f t m ⟨pk,ln,a0,a1,a2,bg⟩ i->∀z:Int,z=k+1->K .normal ([.ce (I6 f), .ce (I6 t), .ce (.ptr 1000005 0), .ce (.ptr 1000006 0), .ce (.ptr 1000010 0), .ce (.ptr 1000012 0), .ce (I6 m), .ce (.ptr 1000014 0), .ce (I6 y.bg), .ce (.sl false [4,4,4,4,4,4,4] l), .ce (I6 n), .ce (I6 z)],[[I6 s0,I6 s1,I6 s2, .sl false [4,4,4,4,4,4,4] sg, .sl false [4,4,4] mk],[I6 sta,I6 spa,I6 aca,I6 jea,I6 loa,I6 hia,I6 bla,I6 oga,I6 sga, .sl false [4] pta,I6 stb,I6 spb,I6 acb,I6 jeb,I6 lob,I6 hib,I6 blb,I6 ogb,I6 sgb, .sl false [4] ptb,I6 stc,I6 spc,I6 acc,I6 jec,I6 loc,I6 hic,I6 blc,I6 ogc,I6 sgc, .sl false [4] ptc],[.sl true [4,4,4,4,4,4,4,4,4,4] zz,I6 z1,I6 z2,I6 z3,I6 z4,I6 z5],[.mu [4,4,4,4,4,4,4,4,4,4] y.pk,I6 y.ln,I6 sa,I6 d0,I6 d1,I6 d2],[I6 y.a0,I6 y.a1,I6 y.a2]])):((0:Int)<=i/\i<(((List.length sg):Nat):Int))/\∀(x38:Int),x38=ec sg (Int.toNat i) ((3:Nat))->((-9223372036854775808:Int)<=m*x38/\m*x38<=(9223372036854775807:Int))/\∀(x39:Int),x39=m*x38->((-9223372036854775808:Int)<=bg+x39/\bg+x39<=(9223372036854775807:Int))/\∀(x40:Int),x40=bg+x39->∀(x41:Int),x41=min bg x40->∀(x42:Int),x42=min f t->∀(x43:Int),x43=max x41 x42->∀(x44:Int),x44=max bg x40->∀(x45:Int),x45=max f t->∀(x46:Int),x46=min x44 x45->(decide (x43<x46)=true->(((0:Int)<=i/\i<(((List.length sg):Nat):Int))/\(m=(1:Int)∨m=(-1:Int))/\okPts s0 s1 s2 sg/\List.length sg<=(1073741824:Nat))/\∀(x47:Int),x47=fc1 (bgn s0 sg (0:Nat) i) (ec sg (Int.toNat i) (0:Nat)) m a0->∀(x48:Int),x48=fc1 (bgn s1 sg (1:Nat) i) (ec sg (Int.toNat i) (1:Nat)) m a1->∀(x49:Int),x49=fc1 (bgn s2 sg (2:Nat) i) (ec sg (Int.toNat i) (2:Nat)) m a2->(decide (m<(0:Int))=true->True/\∀(x50:Int),x50=slk bla blb blc a0 a1 a2 x47 x48 x49->(decide (x50>(0:Int))=true->(((-2305843009213693952:Int)<=x50/\x50<=(2305843009213693952:Int))/\((-2305843009213693952:Int)<=ln/\ln<=(2305843009213693952:Int))/\List.length pk<=(1000000000000:Nat)/\∀(j:Nat),j<List.length pk->(-2305843009213693952:Int)<=ec pk j (1:Nat)/\ec pk j (1:Nat)<=(2305843009213693952:Int))/\(∃(x:LL×Int),x=tadd pk ln [(0:Int),x50,x46,(0:Int),a0,a1,a2,x47,x48,x49])/\∀(x:LL×Int),x=tadd pk ln [(0:Int),x50,x46,(0:Int),a0,a1,a2,x47,x48,x49]->((-9223372036854775808:Int)<=x46-x43/\x46-x43<=(9223372036854775807:Int))/\∀(x53:Int),x53=x46-x43->(((-2305843009213693952:Int)<=x53/\x53<=(2305843009213693952:Int))/\((-2305843009213693952:Int)<=x.2/\x.2<=(2305843009213693952:Int))/\List.length x.1<=(1000000000000:Nat)/\∀(j:Nat),j<List.length x.1->(-2305843009213693952:Int)<=ec x.1 j (1:Nat)/\ec x.1 j (1:Nat)<=(2305843009213693952:Int))/\(∃(x_1:LL×Int),x_1=tadd x.1 x.2 [(0:Int),x53,x46,m,x47,x48,x49,x47,x48,x49])/\∀(x_1:LL×Int),x_1=tadd x.1 x.2 [(0:Int),x53,x46,m,x47,x48,x49,x47,x48,x49]->((-9223372036854775808:Int)<=k+(1:Int)/\k+(1:Int)<=(9223372036854775807:Int))/\∀(x56:Int),x56=k+(1:Int)->K HEx.normal ([HV.ce (HC.int IntKind.i64 f),HV.ce (HC.int IntKind.i64 t),HV.ce (HC.ptr (1000005:Nat) (0:Nat)),HV.ce (HC.ptr (1000006:Nat) (0:Nat)),HV.ce (HC.ptr (1000010:Nat) (0:Nat)),HV.ce (HC.ptr (1000012:Nat) (0:Nat)),HV.ce (HC.int IntKind.i64 m),HV.ce (HC.ptr (1000014:Nat) (0:Nat)),HV.ce (HC.int IntKind.i64 x40),HV.ce (HC.sl false [(4:Nat),(4:Nat),(4:Nat),(4:Nat),(4:Nat),(4:Nat),(4:Nat)] l),HV.ce (HC.int IntKind.i64 n),HV.ce (HC.int IntKind.i64 x56)],[[HC.int IntKind.i64 s0,HC.int IntKind.i64 s1,HC.int IntKind.i64 s2,HC.sl false [(4:Nat),(4:Nat),(4:Nat),(4:Nat),(4:Nat),(4:Nat),(4:Nat)] sg,HC.sl false [(4:Nat),(4:Nat),(4:Nat)] mk],[HC.int IntKind.i64 sta,HC.int IntKind.i64 spa,HC.int IntKind.i64 aca,HC.int IntKind.i64 jea,HC.int IntKind.i64 loa,HC.int IntKind.i64 hia,HC.int IntKind.i64 bla,HC.int IntKind.i64 oga,HC.int IntKind.i64 sga,HC.sl false [(4:Nat)] pta,HC.int IntKind.i64 stb,HC.int IntKind.i64 spb,HC.int IntKind.i64 acb,HC.int IntKind.i64 jeb,HC.int IntKind.i64 lob,HC.int IntKind.i64 hib,HC.int IntKind.i64 blb,HC.int IntKind.i64 ogb,HC.int IntKind.i64 sgb,HC.sl false [(4:Nat)] ptb,HC.int IntKind.i64 stc,HC.int IntKind.i64 spc,HC.int IntKind.i64 acc,HC.int IntKind.i64 jec,HC.int IntKind.i64 loc,HC.int IntKind.i64 hic,HC.int IntKind.i64 blc,HC.int IntKind.i64 ogc,HC.int IntKind.i64 sgc,HC.sl false [(4:Nat)] ptc],[HC.sl true [(4:Nat),(4:Nat),(4:Nat),(4:Nat),(4:Nat),(4:Nat),(4:Nat),(4:Nat),(4:Nat),(4:Nat)] zz,HC.int IntKind.i64 z1,HC.int IntKind.i64 z2,HC.int IntKind.i64 z3,HC.int IntKind.i64 z4,HC.int IntKind.i64 z5],[HC.mu [(4:Nat),(4:Nat),(4:Nat),(4:Nat),(4:Nat),(4:Nat),(4:Nat),(4:Nat),(4:Nat),(4:Nat)] x_1.1,HC.int IntKind.i64 x_1.2,HC.int IntKind.i64 sa,HC.int IntKind.i64 d0,HC.int IntKind.i64 d1,HC.int IntKind.i64 d2],[HC.int IntKind.i64 x47,HC.int IntKind.i64 x48,HC.int IntKind.i64 x49]]))/\(decide (x50>(0:Int))=false->((-9223372036854775808:Int)<=x46-x43/\x46-x43<=(9223372036854775807:Int))/\∀(x57:Int),x57=x46-x43->(((-2305843009213693952:Int)<=x57/\x57<=(2305843009213693952:Int))/\((-2305843009213693952:Int)<=ln/\ln<=(2305843009213693952:Int))/\List.length pk<=(1000000000000:Nat)/\∀(j:Nat),j<List.length pk->(-2305843009213693952:Int)<=ec pk j (1:Nat)/\ec pk j (1:Nat)<=(2305843009213693952:Int))/\(∃(x:LL×Int),x=tadd pk ln [(0:Int),x57,x46,m,x47,x48,x49,x47,x48,x49])/\∀(x:LL×Int),x=tadd pk ln [(0:Int),x57,x46,m,x47,x48,x49,x47,x48,x49]->((-9223372036854775808:Int)<=k+(1:Int)/\k+(1:Int)<=(9223372036854775807:Int))/\∀(x60:Int),x60=k+(1:Int)->K HEx.normal ([HV.ce (HC.int IntKind.i64 f),HV.ce (HC.int IntKind.i64 t),HV.ce (HC.ptr (1000005:Nat) (0:Nat)),HV.ce (HC.ptr (1000006:Nat) (0:Nat)),HV.ce (HC.ptr (1000010:Nat) (0:Nat)),HV.ce (HC.ptr (1000012:Nat) (0:Nat)),HV.ce (HC.int IntKind.i64 m),HV.ce (HC.ptr (1000014:Nat) (0:Nat)),HV.ce (HC.int IntKind.i64 x40),HV.ce (HC.sl false [(4:Nat),(4:Nat),(4:Nat),(4:Nat),(4:Nat),(4:Nat),(4:Nat)] l),HV.ce (HC.int IntKind.i64 n),HV.ce (HC.int IntKind.i64 x60)],[[HC.int IntKind.i64 s0,HC.int IntKind.i64 s1,HC.int IntKind.i64 s2,HC.sl false [(4:Nat),(4:Nat),(4:Nat),(4:Nat),(4:Nat),(4:Nat),(4:Nat)] sg,HC.sl false [(4:Nat),(4:Nat),(4:Nat)] mk],[HC.int IntKind.i64 sta,HC.int IntKind.i64 spa,HC.int IntKind.i64 aca,HC.int IntKind.i64 jea,HC.int IntKind.i64 loa,HC.int IntKind.i64 hia,HC.int IntKind.i64 bla,HC.int IntKind.i64 oga,HC.int IntKind.i64 sga,HC.sl false [(4:Nat)] pta,HC.int IntKind.i64 stb,HC.int IntKind.i64 spb,HC.int IntKind.i64 acb,HC.int IntKind.i64 jeb,HC.int IntKind.i64 lob,HC.int IntKind.i64 hib,HC.int IntKind.i64 blb,HC.int IntKind.i64 ogb,HC.int IntKind.i64 sgb,HC.sl false [(4:Nat)] ptb,HC.int IntKind.i64 stc,HC.int IntKind.i64 spc,HC.int IntKind.i64 acc,HC.int IntKind.i64 jec,HC.int IntKind.i64 loc,HC.int IntKind.i64 hic,HC.int IntKind.i64 blc,HC.int IntKind.i64 ogc,HC.int IntKind.i64 sgc,HC.sl false [(4:Nat)] ptc],[HC.sl true [(4:Nat),(4:Nat),(4:Nat),(4:Nat),(4:Nat),(4:Nat),(4:Nat),(4:Nat),(4:Nat),(4:Nat)] zz,HC.int IntKind.i64 z1,HC.int IntKind.i64 z2,HC.int IntKind.i64 z3,HC.int IntKind.i64 z4,HC.int IntKind.i64 z5],[HC.mu [(4:Nat),(4:Nat),(4:Nat),(4:Nat),(4:Nat),(4:Nat),(4:Nat),(4:Nat),(4:Nat),(4:Nat)] x.1,HC.int IntKind.i64 x.2,HC.int IntKind.i64 sa,HC.int IntKind.i64 d0,HC.int IntKind.i64 d1,HC.int IntKind.i64 d2],[HC.int IntKind.i64 x47,HC.int IntKind.i64 x48,HC.int IntKind.i64 x49]])))/\(decide (m<(0:Int))=false->True/\∀(x61:Int),x61=slk bla blb blc a0 a1 a2 x47 x48 x49->(decide (x61>(0:Int))=true->(((-2305843009213693952:Int)<=x61/\x61<=(2305843009213693952:Int))/\((-2305843009213693952:Int)<=ln/\ln<=(2305843009213693952:Int))/\List.length pk<=(1000000000000:Nat)/\∀(j:Nat),j<List.length pk->(-2305843009213693952:Int)<=ec pk j (1:Nat)/\ec pk j (1:Nat)<=(2305843009213693952:Int))/\(∃(x:LL×Int),x=tadd pk ln [(0:Int),x61,x43,(0:Int),a0,a1,a2,x47,x48,x49])/\∀(x:LL×Int),x=tadd pk ln [(0:Int),x61,x43,(0:Int),a0,a1,a2,x47,x48,x49]->((-9223372036854775808:Int)<=x46-x43/\x46-x43<=(9223372036854775807:Int))/\∀(x64:Int),x64=x46-x43->(((-2305843009213693952:Int)<=x64/\x64<=(2305843009213693952:Int))/\((-2305843009213693952:Int)<=x.2/\x.2<=(2305843009213693952:Int))/\List.length x.1<=(1000000000000:Nat)/\∀(j:Nat),j<List.length x.1->(-2305843009213693952:Int)<=ec x.1 j (1:Nat)/\ec x.1 j (1:Nat)<=(2305843009213693952:Int))/\(∃(x_1:LL×Int),x_1=tadd x.1 x.2 [(0:Int),x64,x43,m,x47,x48,x49,x47,x48,x49])/\∀(x_1:LL×Int),x_1=tadd x.1 x.2 [(0:Int),x64,x43,m,x47,x48,x49,x47,x48,x49]->((-9223372036854775808:Int)<=k+(1:Int)/\k+(1:Int)<=(9223372036854775807:Int))/\∀(x67:Int),x67=k+(1:Int)->K HEx.normal ([HV.ce (HC.int IntKind.i64 f),HV.ce (HC.int IntKind.i64 t),HV.ce (HC.ptr (1000005:Nat) (0:Nat)),HV.ce (HC.ptr (1000006:Nat) (0:Nat)),HV.ce (HC.ptr (1000010:Nat) (0:Nat)),HV.ce (HC.ptr (1000012:Nat) (0:Nat)),HV.ce (HC.int IntKind.i64 m),HV.ce (HC.ptr (1000014:Nat) (0:Nat)),HV.ce (HC.int IntKind.i64 x40),HV.ce (HC.sl false [(4:Nat),(4:Nat),(4:Nat),(4:Nat),(4:Nat),(4:Nat),(4:Nat)] l),HV.ce (HC.int IntKind.i64 n),HV.ce (HC.int IntKind.i64 x67)],[[HC.int IntKind.i64 s0,HC.int IntKind.i64 s1,HC.int IntKind.i64 s2,HC.sl false [(4:Nat),(4:Nat),(4:Nat),(4:Nat),(4:Nat),(4:Nat),(4:Nat)] sg,HC.sl false [(4:Nat),(4:Nat),(4:Nat)] mk],[HC.int IntKind.i64 sta,HC.int IntKind.i64 spa,HC.int IntKind.i64 aca,HC.int IntKind.i64 jea,HC.int IntKind.i64 loa,HC.int IntKind.i64 hia,HC.int IntKind.i64 bla,HC.int IntKind.i64 oga,HC.int IntKind.i64 sga,HC.sl false [(4:Nat)] pta,HC.int IntKind.i64 stb,HC.int IntKind.i64 spb,HC.int IntKind.i64 acb,HC.int IntKind.i64 jeb,HC.int IntKind.i64 lob,HC.int IntKind.i64 hib,HC.int IntKind.i64 blb,HC.int IntKind.i64 ogb,HC.int IntKind.i64 sgb,HC.sl false [(4:Nat)] ptb,HC.int IntKind.i64 stc,HC.int IntKind.i64 spc,HC.int IntKind.i64 acc,HC.int IntKind.i64 jec,HC.int IntKind.i64 loc,HC.int IntKind.i64 hic,HC.int IntKind.i64 blc,HC.int IntKind.i64 ogc,HC.int IntKind.i64 sgc,HC.sl false [(4:Nat)] ptc],[HC.sl true [(4:Nat),(4:Nat),(4:Nat),(4:Nat),(4:Nat),(4:Nat),(4:Nat),(4:Nat),(4:Nat),(4:Nat)] zz,HC.int IntKind.i64 z1,HC.int IntKind.i64 z2,HC.int IntKind.i64 z3,HC.int IntKind.i64 z4,HC.int IntKind.i64 z5],[HC.mu [(4:Nat),(4:Nat),(4:Nat),(4:Nat),(4:Nat),(4:Nat),(4:Nat),(4:Nat),(4:Nat),(4:Nat)] x_1.1,HC.int IntKind.i64 x_1.2,HC.int IntKind.i64 sa,HC.int IntKind.i64 d0,HC.int IntKind.i64 d1,HC.int IntKind.i64 d2],[HC.int IntKind.i64 x47,HC.int IntKind.i64 x48,HC.int IntKind.i64 x49]]))/\(decide (x61>(0:Int))=false->((-9223372036854775808:Int)<=x46-x43/\x46-x43<=(9223372036854775807:Int))/\∀(x68:Int),x68=x46-x43->(((-2305843009213693952:Int)<=x68/\x68<=(2305843009213693952:Int))/\((-2305843009213693952:Int)<=ln/\ln<=(2305843009213693952:Int))/\List.length pk<=(1000000000000:Nat)/\∀(j:Nat),j<List.length pk->(-2305843009213693952:Int)<=ec pk j (1:Nat)/\ec pk j (1:Nat)<=(2305843009213693952:Int))/\(∃(x:LL×Int),x=tadd pk ln [(0:Int),x68,x43,m,x47,x48,x49,x47,x48,x49])/\∀(x:LL×Int),x=tadd pk ln [(0:Int),x68,x43,m,x47,x48,x49,x47,x48,x49]->((-9223372036854775808:Int)<=k+(1:Int)/\k+(1:Int)<=(9223372036854775807:Int))/\∀(x71:Int),x71=k+(1:Int)->K HEx.normal ([HV.ce (HC.int IntKind.i64 f),HV.ce (HC.int IntKind.i64 t),HV.ce (HC.ptr (1000005:Nat) (0:Nat)),HV.ce (HC.ptr (1000006:Nat) (0:Nat)),HV.ce (HC.ptr (1000010:Nat) (0:Nat)),HV.ce (HC.ptr (1000012:Nat) (0:Nat)),HV.ce (HC.int IntKind.i64 m),HV.ce (HC.ptr (1000014:Nat) (0:Nat)),HV.ce (HC.int IntKind.i64 x40),HV.ce (HC.sl false [(4:Nat),(4:Nat),(4:Nat),(4:Nat),(4:Nat),(4:Nat),(4:Nat)] l),HV.ce (HC.int IntKind.i64 n),HV.ce (HC.int IntKind.i64 x71)],[[HC.int IntKind.i64 s0,HC.int IntKind.i64 s1,HC.int IntKind.i64 s2,HC.sl false [(4:Nat),(4:Nat),(4:Nat),(4:Nat),(4:Nat),(4:Nat),(4:Nat)] sg,HC.sl false [(4:Nat),(4:Nat),(4:Nat)] mk],[HC.int IntKind.i64 sta,HC.int IntKind.i64 spa,HC.int IntKind.i64 aca,HC.int IntKind.i64 jea,HC.int IntKind.i64 loa,HC.int IntKind.i64 hia,HC.int IntKind.i64 bla,HC.int IntKind.i64 oga,HC.int IntKind.i64 sga,HC.sl false [(4:Nat)] pta,HC.int IntKind.i64 stb,HC.int IntKind.i64 spb,HC.int IntKind.i64 acb,HC.int IntKind.i64 jeb,HC.int IntKind.i64 lob,HC.int IntKind.i64 hib,HC.int IntKind.i64 blb,HC.int IntKind.i64 ogb,HC.int IntKind.i64 sgb,HC.sl false [(4:Nat)] ptb,HC.int IntKind.i64 stc,HC.int IntKind.i64 spc,HC.int IntKind.i64 acc,HC.int IntKind.i64 jec,HC.int IntKind.i64 loc,HC.int IntKind.i64 hic,HC.int IntKind.i64 blc,HC.int IntKind.i64 ogc,HC.int IntKind.i64 sgc,HC.sl false [(4:Nat)] ptc],[HC.sl true [(4:Nat),(4:Nat),(4:Nat),(4:Nat),(4:Nat),(4:Nat),(4:Nat),(4:Nat),(4:Nat),(4:Nat)] zz,HC.int IntKind.i64 z1,HC.int IntKind.i64 z2,HC.int IntKind.i64 z3,HC.int IntKind.i64 z4,HC.int IntKind.i64 z5],[HC.mu [(4:Nat),(4:Nat),(4:Nat),(4:Nat),(4:Nat),(4:Nat),(4:Nat),(4:Nat),(4:Nat),(4:Nat)] x.1,HC.int IntKind.i64 x.2,HC.int IntKind.i64 sa,HC.int IntKind.i64 d0,HC.int IntKind.i64 d1,HC.int IntKind.i64 d2],[HC.int IntKind.i64 x47,HC.int IntKind.i64 x48,HC.int IntKind.i64 x49]]))))/\(decide (x43<x46)=false->((-9223372036854775808:Int)<=k+(1:Int)/\k+(1:Int)<=(9223372036854775807:Int))/\∀(x72:Int),x72=k+(1:Int)->K HEx.normal ([HV.ce (HC.int IntKind.i64 f),HV.ce (HC.int IntKind.i64 t),HV.ce (HC.ptr (1000005:Nat) (0:Nat)),HV.ce (HC.ptr (1000006:Nat) (0:Nat)),HV.ce (HC.ptr (1000010:Nat) (0:Nat)),HV.ce (HC.ptr (1000012:Nat) (0:Nat)),HV.ce (HC.int IntKind.i64 m),HV.ce (HC.ptr (1000014:Nat) (0:Nat)),HV.ce (HC.int IntKind.i64 x40),HV.ce (HC.sl false [(4:Nat),(4:Nat),(4:Nat),(4:Nat),(4:Nat),(4:Nat),(4:Nat)] l),HV.ce (HC.int IntKind.i64 n),HV.ce (HC.int IntKind.i64 x72)],[[HC.int IntKind.i64 s0,HC.int IntKind.i64 s1,HC.int IntKind.i64 s2,HC.sl false [(4:Nat),(4:Nat),(4:Nat),(4:Nat),(4:Nat),(4:Nat),(4:Nat)] sg,HC.sl false [(4:Nat),(4:Nat),(4:Nat)] mk],[HC.int IntKind.i64 sta,HC.int IntKind.i64 spa,HC.int IntKind.i64 aca,HC.int IntKind.i64 jea,HC.int IntKind.i64 loa,HC.int IntKind.i64 hia,HC.int IntKind.i64 bla,HC.int IntKind.i64 oga,HC.int IntKind.i64 sga,HC.sl false [(4:Nat)] pta,HC.int IntKind.i64 stb,HC.int IntKind.i64 spb,HC.int IntKind.i64 acb,HC.int IntKind.i64 jeb,HC.int IntKind.i64 lob,HC.int IntKind.i64 hib,HC.int IntKind.i64 blb,HC.int IntKind.i64 ogb,HC.int IntKind.i64 sgb,HC.sl false [(4:Nat)] ptb,HC.int IntKind.i64 stc,HC.int IntKind.i64 spc,HC.int IntKind.i64 acc,HC.int IntKind.i64 jec,HC.int IntKind.i64 loc,HC.int IntKind.i64 hic,HC.int IntKind.i64 blc,HC.int IntKind.i64 ogc,HC.int IntKind.i64 sgc,HC.sl false [(4:Nat)] ptc],[HC.sl true [(4:Nat),(4:Nat),(4:Nat),(4:Nat),(4:Nat),(4:Nat),(4:Nat),(4:Nat),(4:Nat),(4:Nat)] zz,HC.int IntKind.i64 z1,HC.int IntKind.i64 z2,HC.int IntKind.i64 z3,HC.int IntKind.i64 z4,HC.int IntKind.i64 z5],[HC.mu [(4:Nat),(4:Nat),(4:Nat),(4:Nat),(4:Nat),(4:Nat),(4:Nat),(4:Nat),(4:Nat),(4:Nat)] pk,HC.int IntKind.i64 ln,HC.int IntKind.i64 sa,HC.int IntKind.i64 d0,HC.int IntKind.i64 d1,HC.int IntKind.i64 d2],[HC.int IntKind.i64 a0,HC.int IntKind.i64 a1,HC.int IntKind.i64 a2]])):=by
 have hlen:=hl.2 i.toNat (by omega);have hl1:=hl.1;have units:∀(p:LL)(c:Int),unitsOK p c->c<=2305843009213693952->∀j,j<p.length-> -2305843009213693952<=ec p j 1/\ec p j 1<=2305843009213693952:=fun p c hu hc j hj=>by
  have:=hu j hj;omega
 have hd:legHigh bg (legE sg m bg i) f t-legLow bg (legE sg m bg i) f t<=4294967296:=by
  unfold legHigh legLow legE;rcases hm with rfl|rfl<;>omega
 have hmul: -4294967296<=m*ec sg i.toNat 3/\m*ec sg i.toNat 3<=4294967296:=by rcases hm with rfl|rfl<;>omega
 unfold legE at hE;refine⟨hi,?_⟩;rintro _ rfl;refine⟨by omega,?_⟩;rintro _ rfl;refine⟨by omega,?_⟩;intro e he _ rfl _ rfl low hlow _ rfl _ rfl high hhigh;have heE:legE sg m bg i=e:=he.symm;have hlowE:legLow bg (legE sg m bg i) f t=low:=by rw[heE];exact hlow.symm
 have hhighE:legHigh bg (legE sg m bg i) f t=high:=by rw[heE];exact hhigh.symm
 unfold legSeg at fin;rw[hlowE,hhighE,heE]at fin;rw[hlowE,hhighE]at hd;unfold legPut at fin;refine⟨fun gl=> ?_,fun gl=>⟨by omega,fun z ez=> ?_⟩⟩
 . have gl:=odt gl;rw[if_pos gl]at fin;refine⟨⟨hi,hm,hp,by omega⟩,fun n0 h0 n1 h1 n2 h2=> ?_⟩;rw[<-h0,<-h1,<-h2]at fin;dsimp only at fin;have hs:=slk_bd hb a0 a1 a2 n0 n1 n2;refine⟨fun gm=>⟨trivial,fun u hu=> ?_⟩,fun gm=>⟨trivial,fun u hu=> ?_⟩⟩
   . have gm:=odt gm;unfold legS at fin;rw[if_pos gm]at fin;rw[<-hu]at fin hs;unfold legTk at fin;refine⟨fun gu=> ?_,fun gu=> ?_⟩
     . rw[if_pos (odt gu)]at fin;refine⟨⟨by omega,by omega,by omega,units _ _ J3 (by omega)⟩,⟨_,rfl⟩,fun y ey=>⟨by omega,fun d ed=> ?_⟩⟩;obtain⟨c1,c2,c3⟩:=tadd_inv (q:=[0,u,high,0,a0,a1,a2,n0,n1,n2]) J1.1 J3 hs.1;have c1:(tadd pk ln [0,u,high,0,a0,a1,a2,n0,n1,n2]).2=ln+u:=c1;have c3:unitsOK (tadd pk ln [0,u,high,0,a0,a1,a2,n0,n1,n2]).1 (ln+u):=c3;rw[<-ey]at c1 c2 c3 fin;rw[<-ed]at fin;refine⟨⟨by omega,by omega,by omega,units _ _ c3 (by omega)⟩,⟨_,rfl⟩,fun w ew=>⟨by omega,fun z ez=> ?_⟩⟩;rw[<-ew]at fin;exact fin _ rfl z ez
     . rw[if_neg (odf gu)]at fin;refine⟨by omega,fun d ed=>⟨⟨by omega,by omega,by omega,units _ _ J3 (by omega)⟩,⟨_,rfl⟩,fun w ew=>⟨by omega,fun z ez=> ?_⟩⟩⟩;rw[<-ed]at fin;dsimp only at fin;rw[<-ew]at fin;exact fin _ rfl z ez
   . have gm:=odf gm;unfold legS at fin;rw[if_neg gm]at fin;rw[<-hu]at fin hs;unfold legTk at fin;refine⟨fun gu=> ?_,fun gu=> ?_⟩
     . rw[if_pos (odt gu)]at fin;refine⟨⟨by omega,by omega,by omega,units _ _ J3 (by omega)⟩,⟨_,rfl⟩,fun y ey=>⟨by omega,fun d ed=> ?_⟩⟩;obtain⟨c1,c2,c3⟩:=tadd_inv (q:=[0,u,low,0,a0,a1,a2,n0,n1,n2]) J1.1 J3 hs.1;have c1:(tadd pk ln [0,u,low,0,a0,a1,a2,n0,n1,n2]).2=ln+u:=c1;have c3:unitsOK (tadd pk ln [0,u,low,0,a0,a1,a2,n0,n1,n2]).1 (ln+u):=c3;rw[<-ey]at c1 c2 c3 fin;rw[<-ed]at fin;refine⟨⟨by omega,by omega,by omega,units _ _ c3 (by omega)⟩,⟨_,rfl⟩,fun w ew=>⟨by omega,fun z ez=> ?_⟩⟩;rw[<-ew]at fin;exact fin _ rfl z ez
     . rw[if_neg (odf gu)]at fin;refine⟨by omega,fun d ed=>⟨⟨by omega,by omega,by omega,units _ _ J3 (by omega)⟩,⟨_,rfl⟩,fun w ew=>⟨by omega,fun z ez=> ?_⟩⟩⟩;rw[<-ed]at fin;dsimp only at fin;rw[<-ew]at fin;exact fin _ rfl z ez
 . rw[if_neg (odf gl)]at fin;exact fin _ rfl z ez
set_option maxHeartbeats 4000000 in theorem loopLeg:∀v Q,(LLeg v).wp Q->hloop CLeg anLeg (nthLoop Tryz.f22 0) v Q:=by
 intro v Q h;unfold LLeg at h;split at h;case h_2=>exact h.elim
 rename_i f t m bg l n k s0 s1 s2 sg mk ax bz bt a0 a1 a2;split at h;case h_2=>exact h.elim
 rename_i sta spa aca jea loa hia bla oga sga pta stb spb acb jeb lob hib blb ogb sgb ptb stc spc acc jec loc hic blc ogc sgc ptc;split at h;case h_2=>exact h.elim
 rename_i zz z1 z2 z3 z4 z5 pk ln sa d0 d1 d2;obtain⟨⟨hn,hk0,hls,hm,hf,ht,hpk,hln,hl,hp,hb⟩,hq⟩:=h;subst hn hk0 hls hln;obtain rfl:pk=[]:=List.eq_nil_of_length_eq_zero hpk;have hm2:m=1∨m= -1:=by rcases hm with h|h;exact .inl h.1;exact .inr h.1
 have j0:legJ l m 0 ⟨[],0,a0,a1,a2,bg⟩:=by
  refine⟨⟨Int.le_refl _,by dsimp only;omega⟩,by simp,fun j hj=>by simp at hj,fun e=> ?_,fun e=> ?_⟩
  . rcases hm with h|h
    . rw[h.2];rfl
    . omega
  . rcases hm with h|h
    . omega
    . rw[h.2];simp
 have hJ:=legJ_all (s0:=s0) (s1:=s1) (s2:=s2) (f:=f) (t:=t) hl hb hm2 j0;refine hloop_rec (σ:=LegS×Nat) (fun s=>([.ce (I6 f), .ce (I6 t), .ce (.ptr 1000005 0), .ce (.ptr 1000006 0), .ce (.ptr 1000010 0), .ce (.ptr 1000012 0), .ce (I6 m), .ce (.ptr 1000014 0), .ce (I6 s.1.bg), .ce (.sl false [4,4,4,4,4,4,4] l), .ce (I6 (l.length:Int)), .ce (I6 (s.2:Int))],[[I6 s0,I6 s1,I6 s2, .sl false [4,4,4,4,4,4,4] l, .sl false [4,4,4] mk],[I6 sta,I6 spa,I6 aca,I6 jea,I6 loa,I6 hia,I6 bla,I6 oga,I6 sga, .sl false [4] pta,I6 stb,I6 spb,I6 acb,I6 jeb,I6 lob,I6 hib,I6 blb,I6 ogb,I6 sgb, .sl false [4] ptb,I6 stc,I6 spc,I6 acc,I6 jec,I6 loc,I6 hic,I6 blc,I6 ogc,I6 sgc, .sl false [4] ptc],[.sl true [4,4,4,4,4,4,4,4,4,4] zz,I6 z1,I6 z2,I6 z3,I6 z4,I6 z5],[.mu [4,4,4,4,4,4,4,4,4,4] s.1.pk,I6 s.1.ln,I6 sa,I6 d0,I6 d1,I6 d2],[I6 s.1.a0,I6 s.1.a1,I6 s.1.a2]])) (fun s=>l.length-s.2) (fun s=>s.2<=l.length/\s.1=legK s0 s1 s2 l bla blb blc f t m ⟨[],0,a0,a1,a2,bg⟩ s.2) ?_ (⟨[],0,a0,a1,a2,bg⟩,0) ⟨Nat.zero_le _,rfl⟩;rintro⟨x,k⟩⟨hk,he⟩K hn hx _;dsimp only at hk he hn⊢;have J:=hJ k hk;rw[<-he]at J;have hl1:=hl.1;have hpl:=plen_le hl;refine byVB (vbLeg s0 s1 s2 f t m x.bg l.length k x.a0 x.a1 x.a2 z1 z2 z3 z4 z5 x.ln sa d0 d1 d2 l mk l zz x.pk sta spa aca jea loa hia bla oga sga stb spb acb jeb lob hib blb ogb sgb stc spc acc jec loc hic blc ogc sgc pta ptb ptc K) ⟨fun g=> ?_,fun g=> ?_⟩
 . have g:=odt g;have hkl:k<l.length:=by omega
   obtain⟨J1,J2,J3,J4,J5⟩:=J;have fin:∀y:LegS,y=legStep s0 s1 s2 l bla blb blc f t m x k->∀z:Int,z=(k:Int)+1->K .normal ([.ce (I6 f), .ce (I6 t), .ce (.ptr 1000005 0), .ce (.ptr 1000006 0), .ce (.ptr 1000010 0), .ce (.ptr 1000012 0), .ce (I6 m), .ce (.ptr 1000014 0), .ce (I6 y.bg), .ce (.sl false [4,4,4,4,4,4,4] l), .ce (I6 (l.length:Int)), .ce (I6 z)],[[I6 s0,I6 s1,I6 s2, .sl false [4,4,4,4,4,4,4] l, .sl false [4,4,4] mk],[I6 sta,I6 spa,I6 aca,I6 jea,I6 loa,I6 hia,I6 bla,I6 oga,I6 sga, .sl false [4] pta,I6 stb,I6 spb,I6 acb,I6 jeb,I6 lob,I6 hib,I6 blb,I6 ogb,I6 sgb, .sl false [4] ptb,I6 stc,I6 spc,I6 acc,I6 jec,I6 loc,I6 hic,I6 blc,I6 ogc,I6 sgc, .sl false [4] ptc],[.sl true [4,4,4,4,4,4,4,4,4,4] zz,I6 z1,I6 z2,I6 z3,I6 z4,I6 z5],[.mu [4,4,4,4,4,4,4,4,4,4] y.pk,I6 y.ln,I6 sa,I6 d0,I6 d1,I6 d2],[I6 y.a0,I6 y.a1,I6 y.a2]]):=by
    intro y ey z ez;have:=hn (y,k+1) ⟨hkl,by rw[ey,he];rfl⟩ (by dsimp only;omega);rw[ez];exact this
   have hEn:=legE_next (m:=m) hkl J4 J5;have hbd:∀q,0<=plen (l.take q)/\plen (l.take q)<=4503599627370496:=fun q=>by
    have:=plen_le (l:=l.take q) ⟨by rw[List.length_take];omega,fun j hj=>by
     rw[List.length_take]at hj;have:=hl.2 j (by omega);unfold ec at this⊢;simp only[List.getD_eq_getElem?_getD,List.getElem?_take]at this⊢;rw[if_pos (by omega)];exact this⟩;exact this
   have hbg:0<=x.bg/\x.bg<=4503599627370496:=by
    rcases hm2 with e|e
    . rw[J4 e];exact hbd _
    . rw[J5 e];exact hbd _
   have hE:0<=legE l m x.bg (legI l.length m k)/\legE l m x.bg (legI l.length m k)<=4503599627370496:=by
    rcases hm2 with e|e
    . rw[hEn.1 e];exact hbd _
    . rw[hEn.2 e];exact hbd _
   have hi:=legI_bd (m:=m) hkl;have hkk:(k:Int)<=1048576:=by omega
   refine⟨fun gm=>⟨by omega,fun x1 e1=>⟨by omega,fun x2 e2=> ?_⟩⟩,fun gm=> ?_⟩
   . have hx2:legI l.length m k=x2:=by unfold legI;rw[if_pos (odt gm),e2,e1]
     have fin2:=fin;unfold legStep at fin2;rw[hx2]at fin2 hE hi;exact legMain s0 s1 s2 f t m x.bg l.length k x2 x.a0 x.a1 x.a2 z1 z2 z3 z4 z5 x.ln sa d0 d1 d2 l mk l zz x.pk sta spa aca jea loa hia bla oga sga stb spb acb jeb lob hib blb ogb sgb stc spc acc jec loc hic blc ogc sgc pta ptb ptc K hi hl hp hb hm2 (by omega) hbg hE (by omega) (by omega) J3 fin2
   . have hx2:legI l.length m k=(k:Int):=by unfold legI;rw[if_neg (odf gm)]
     have fin2:=fin;unfold legStep at fin2;rw[hx2]at fin2 hE hi;exact legMain s0 s1 s2 f t m x.bg l.length k k x.a0 x.a1 x.a2 z1 z2 z3 z4 z5 x.ln sa d0 d1 d2 l mk l zz x.pk sta spa aca jea loa hia bla oga sga stb spb acb jeb lob hib blb ogb sgb stc spc acc jec loc hic blc ogc sgc pta ptb ptc K hi hl hp hb hm2 (by omega) hbg hE (by omega) (by omega) J3 fin2
 . have g:=odf g;have hkl:k=l.length:=by omega
   exact hx 0 _ (hq x (by rw[he,hkl]))
theorem sLeg:Sound Tryz.prog 22 SLeg:=by
 refine sound_of (C:=CLeg) tabLeg Tryz.func22 (by kernel_rfl) (by decide+kernel) (by kernel_rfl) rfl ⟨sPLen,sFacing,sSlack,sAdd,trivial⟩ (loops1 (by kernel_rfl) (loopOK_of (an:=anLeg) (S:=LLeg) (by kernel_rfl) loopLeg)) ?_;intro hA pA R h;unfold SLeg at h;split at h;case h_2=>exfalso;exact h
 rename_i s0 s1 s2 sg mk ax d0 d1 d2 f t;split at h;case h_2=>exact h.elim
 rename_i sta spa aca jea loa hia bla oga sga pta stb spb acb jeb lob hib blb ogb sgb ptb stc spc acc jec loc hic blc ogc sgc ptc;obtain⟨⟨hl,hp,hb⟩,_,hq⟩:=h;have hpl:=plen_le hl;refine byVC (vcLeg s0 s1 s2 f t d0 d1 d2 sg mk sta spa aca jea loa hia bla oga sga stb spb acb jeb lob hib blb ogb sgb stc spc acc jec loc hic blc ogc sgc pta ptb ptc R) ⟨hl,?_⟩;rintro x1 e1 _ rfl x3 e3 _ rfl x5 e5;have c3:clamp (plen sg) f=x3:=by rw[e3,e1];rfl
 have c5:clamp (plen sg) t=x5:=by rw[e5,e1];rfl
 rw[c3,c5]at hq;refine⟨fun g=>⟨⟨rfl,rfl,rfl, .inr ⟨rfl,e1⟩,by omega,by omega,rfl,rfl,hl,hp,hb⟩,fun x ex=> ?_⟩,fun g=>⟨⟨rfl,rfl,rfl, .inl ⟨rfl,rfl⟩,by omega,by omega,rfl,rfl,hl,hp,hb⟩,fun x ex=> ?_⟩⟩
 . have g:=odt g;refine hq x ?_;rw[ex,e1];unfold leg legM;rw[if_pos g,if_pos (by decide)]
 . have g:=odf g;refine hq x ?_;rw[ex];unfold leg legM;rw[if_neg g,if_neg (by decide)]
end Go.Proofs.YthkoabbiiadbjaaGreat
