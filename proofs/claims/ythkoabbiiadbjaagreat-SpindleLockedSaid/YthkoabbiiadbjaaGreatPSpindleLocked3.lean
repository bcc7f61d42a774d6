/-
  Part 3.
  Conditions: none.
-/
import Derived.Test.YthkoabbiiadbjaaGreatPSpindleLocked2
set_option maxRecDepth 100000
set_option maxHeartbeats 400000
set_option linter.unusedVariables false
set_option linter.unusedSimpArgs false
open Go
namespace U
open Go
def grw(m e:Int)(s n:Bool):Bool:=if m=0 then s&&n else if m=1 then s&& !n else decide (e>0)||(decide (e=0)&& !n)
def mdv(n c mode:Int):Int:=if mode=0 then n/c else if mode=1 then-((-n)/c)else(2*n+c)/(2*c)
end U
namespace Go.Proofs.YthkoabbiiadbjaaGreat
open Go Go.HL U
def SGrows(hA:List HV)(pA:List (List HC)):SR:=match hA,pA with
 |[.ce (.int .i64 m), .ce (.int .i64 e), .ce (.bool s), .ce (.bool n)],[]=> .det True ⟨.ce (.bool (grw m e s n)),false,[],[]⟩
 |_,_=> .fail
def SSigned(hA:List HV)(pA:List (List HC)):SR:=match hA,pA with
 |[.ce (.int .u64 n), .ce (.bool neg)],[]=> .det (0<=n/\n<=9223372036854775807) ⟨.tup [.ce (I6 (if neg then-n else n)), .ce (.bool true)],false,[],[]⟩
 |_,_=> .fail
def SMulDiv(hA:List HV)(pA:List (List HC)):SR:=match hA,pA with
 |[.ce (.int .i64 a), .ce (.int .i64 b), .ce (.int .i64 c), .ce (.int .i64 m)],[]=> .det ((-9223372036854775808<=a/\a<=9223372036854775807)/\(-9223372036854775808<=b/\b<=9223372036854775807)/\(0<c/\c<=9223372036854775807)/\(-4611686018427387904<=a*b/\a*b<=4611686018427387904)/\(0<=m/\m<=2)) ⟨.tup [.ce (I6 (mdv (a*b) c m)), .ce (.bool true)],false,[],[]⟩
 |_,_=> .fail
def tabMulDiv:List (FuncId×HL.Spec):=[(68,SKnown),(69,SProduct),(70,SSize),(71,SDiv64),(72,SSign),(73,SGrows),(74,SSigned)]
noncomputable def CMulDiv:Ctx:=⟨Tryz.prog,gam tabMulDiv,83,[],[]⟩
theorem vcMulDiv(a b c m:Int)(Q:Res->Prop):(nfun true CMulDiv Tryz.f36 (bodyOf Tryz.f36) [.ce (I6 a), .ce (I6 b), .ce (I6 c), .ce (I6 m)] [] Q)=(Bb (c==0) (Q ⟨.tup [.ce (I6 0), .ce (.bool false)],false,[],[]⟩) (True/\∀(x1:Bool),x1=decide (0<=m/\m<=2)->Bb (!x1) (Q ⟨.tup [.ce (I6 0), .ce (.bool false)],false,[],[]⟩) (R6 a/\∀x2,x2=(((Int.natAbs a):Nat):Int)->R6 b/\∀x3,x3=(((Int.natAbs b):Nat):Int)->(0<=x2/\x2<18446744073709551616/\0<=x3/\x3<18446744073709551616)/\∀x4,x4=x2*x3/18446744073709551616->∀x5,x5=x2*x3%18446744073709551616->R6 c/\∀x6,x6=(((Int.natAbs c):Nat):Int)->Br (x4>=x6) (Q ⟨.tup [.ce (I6 0), .ce (.bool false)],false,[],[]⟩) ((x4=0/\0<=x5/\x5<18446744073709551616/\0<x6/\x6<18446744073709551616)/\∀x7,x7=x5/x6->∀x8,x8=x5%x6->True/\∀x9,x9=Int.sign a*Int.sign b->Bb (!decide (x9<0)==decide (c<0)) (True/\∀x10,x10=Int.sign a*Int.sign b->∀x11,x11=(x6-x8)%18446744073709551616->Br (x8>x11) (True/\∀(x12:Bool),x12=grw m (1:Int) (decide (x8>0)) (x10 !=0)->Bb (x12) (∀x13,x13=(x7+1)%18446744073709551616->Bb (x13==0) (Q ⟨.tup [.ce (I6 0), .ce (.bool false)],false,[],[]⟩) ((0<=x13/\x13<=9223372036854775807)/\∀(x14:Int),(x14=if(x10 !=0)=true then-x13 else x13)->∀(x15:Bool),x15=true->Q ⟨.tup [.ce (I6 x14), .ce (.bool x15)],false,[],[]⟩)) ((0<=x7/\x7<=9223372036854775807)/\∀(x16:Int),(x16=if(x10 !=0)=true then-x7 else x7)->∀(x17:Bool),x17=true->Q ⟨.tup [.ce (I6 x16), .ce (.bool x17)],false,[],[]⟩)) (∀x18,x18=(x6-x8)%18446744073709551616->Br (x8<x18) (True/\∀(x19:Bool),x19=grw m (-1:Int) (decide (x8>0)) (x10 !=0)->Bb (x19) (∀x20,x20=(x7+1)%18446744073709551616->Bb (x20==0) (Q ⟨.tup [.ce (I6 0), .ce (.bool false)],false,[],[]⟩) ((0<=x20/\x20<=9223372036854775807)/\∀(x21:Int),(x21=if(x10 !=0)=true then-x20 else x20)->∀(x22:Bool),x22=true->Q ⟨.tup [.ce (I6 x21), .ce (.bool x22)],false,[],[]⟩)) ((0<=x7/\x7<=9223372036854775807)/\∀(x23:Int),(x23=if(x10 !=0)=true then-x7 else x7)->∀(x24:Bool),x24=true->Q ⟨.tup [.ce (I6 x23), .ce (.bool x24)],false,[],[]⟩)) (True/\∀(x25:Bool),x25=grw m (0:Int) (decide (x8>0)) (x10 !=0)->Bb (x25) (∀x26,x26=(x7+1)%18446744073709551616->Bb (x26==0) (Q ⟨.tup [.ce (I6 0), .ce (.bool false)],false,[],[]⟩) ((0<=x26/\x26<=9223372036854775807)/\∀(x27:Int),(x27=if(x10 !=0)=true then-x26 else x26)->∀(x28:Bool),x28=true->Q ⟨.tup [.ce (I6 x27), .ce (.bool x28)],false,[],[]⟩)) ((0<=x7/\x7<=9223372036854775807)/\∀(x29:Int),(x29=if(x10 !=0)=true then-x7 else x7)->∀(x30:Bool),x30=true->Q ⟨.tup [.ce (I6 x29), .ce (.bool x30)],false,[],[]⟩)))) (∀x31,x31=(x6-x8)%18446744073709551616->Br (x8>x31) (True/\∀(x32:Bool),x32=grw m (1:Int) (decide (x8>0)) false->Bb (x32) (∀x33,x33=(x7+1)%18446744073709551616->Bb (x33==0) (Q ⟨.tup [.ce (I6 0), .ce (.bool false)],false,[],[]⟩) ((0<=x33/\x33<=9223372036854775807)/\∀(x34:Int),(x34=if false=true then-x33 else x33)->∀(x35:Bool),x35=true->Q ⟨.tup [.ce (I6 x34), .ce (.bool x35)],false,[],[]⟩)) ((0<=x7/\x7<=9223372036854775807)/\∀(x36:Int),(x36=if false=true then-x7 else x7)->∀(x37:Bool),x37=true->Q ⟨.tup [.ce (I6 x36), .ce (.bool x37)],false,[],[]⟩)) (∀x38,x38=(x6-x8)%18446744073709551616->Br (x8<x38) (True/\∀(x39:Bool),x39=grw m (-1:Int) (decide (x8>0)) false->Bb (x39) (∀x40,x40=(x7+1)%18446744073709551616->Bb (x40==0) (Q ⟨.tup [.ce (I6 0), .ce (.bool false)],false,[],[]⟩) ((0<=x40/\x40<=9223372036854775807)/\∀(x41:Int),(x41=if false=true then-x40 else x40)->∀(x42:Bool),x42=true->Q ⟨.tup [.ce (I6 x41), .ce (.bool x42)],false,[],[]⟩)) ((0<=x7/\x7<=9223372036854775807)/\∀(x43:Int),(x43=if false=true then-x7 else x7)->∀(x44:Bool),x44=true->Q ⟨.tup [.ce (I6 x43), .ce (.bool x44)],false,[],[]⟩)) (True/\∀(x45:Bool),x45=grw m (0:Int) (decide (x8>0)) false->Bb (x45) (∀x46,x46=(x7+1)%18446744073709551616->Bb (x46==0) (Q ⟨.tup [.ce (I6 0), .ce (.bool false)],false,[],[]⟩) ((0<=x46/\x46<=9223372036854775807)/\∀(x47:Int),(x47=if false=true then-x46 else x46)->∀(x48:Bool),x48=true->Q ⟨.tup [.ce (I6 x47), .ce (.bool x48)],false,[],[]⟩)) ((0<=x7/\x7<=9223372036854775807)/\∀(x49:Int),(x49=if false=true then-x7 else x7)->∀(x50:Bool),x50=true->Q ⟨.tup [.ce (I6 x49), .ce (.bool x50)],false,[],[]⟩)))))))):=by kernel_rfl
end Go.Proofs.YthkoabbiiadbjaaGreat
namespace U
open Go
theorem ediv_of{x d k:Int}(hd:0<d)(h1:d*k<=x)(h2:x<d*k+d):x/d=k:=by
 have a1:k<=x/d:=Int.le_ediv_of_mul_le hd (by rw[Int.mul_comm];exact h1);have a2:x/d<k+1:=Int.ediv_lt_of_lt_mul hd (by rw[Int.add_mul,Int.one_mul,Int.mul_comm];exact h2);omega
theorem mdv_eq{n c m q r e:Int}{neg:Bool}(hc:0<c)(hm:0<=m/\m<=2)(hr:0<=r/\r<c)(hn:(if neg then-n else n)=c*q+r)(h0:neg=true->0<c*q+r)(he1:0<e↔c<2*r)(he0:e=0↔2*r=c):mdv n c m=if neg then-(if grw m e (decide (r>0)) neg then q+1 else q)else(if grw m e (decide (r>0)) neg then q+1 else q):=by
 have hm':m=0∨m=1∨m=2:=by omega
 unfold mdv grw;cases neg with
 |false=>
  simp only[Bool.false_eq_true,if_false]at hn;subst hn;have g:∀k,c*(q+k)=c*q+c*k:=fun k=>Int.mul_add c q k;rcases hm' with rfl|rfl|rfl
  . simp;exact ediv_of hc (by omega) (by omega)
  . simp;by_cases h:0<r
    . simp[h];have:=g 1;rw[ediv_of (k:= -(q+1)) hc (by rw[Int.mul_neg];omega) (by rw[Int.mul_neg];omega)];omega
    . simp[h];rw[ediv_of (k:= -q) hc (by rw[Int.mul_neg];omega) (by rw[Int.mul_neg];omega)];omega
  . simp;by_cases h:c<=2*r
    . have:0<e∨e=0:=by omega
      simp[this];have:=g 1;exact ediv_of (by omega) (by rw[Int.mul_assoc];omega) (by rw[Int.mul_assoc];omega)
    . have:¬(0<e∨e=0):=by omega
      simp[this];exact ediv_of (by omega) (by rw[Int.mul_assoc];omega) (by rw[Int.mul_assoc];omega)
 |true=>
  simp only[if_true]at hn;obtain rfl:n= -(c*q+r):=by omega
  have g:∀k,c*(q+k)=c*q+c*k:=fun k=>Int.mul_add c q k;rcases hm' with rfl|rfl|rfl
  . simp;by_cases h:0<r
    . simp[h];have:=g 1;exact ediv_of hc (by rw[Int.mul_neg];omega) (by rw[Int.mul_neg];omega)
    . simp[h];exact ediv_of hc (by rw[Int.mul_neg];omega) (by rw[Int.mul_neg];omega)
  . simp;rw[ediv_of (k:=q) hc (by omega) (by omega)]
  . simp;by_cases h:c<2*r
    . have:0<e:=by omega
      simp[this];have:=g 1;exact ediv_of (by omega) (by rw[Int.mul_assoc];simp only[Int.mul_neg];omega) (by rw[Int.mul_assoc];simp only[Int.mul_neg];omega)
    . have:¬0<e:=by omega
      simp[this];exact ediv_of (by omega) (by rw[Int.mul_assoc];simp only[Int.mul_neg];omega) (by rw[Int.mul_assoc];simp only[Int.mul_neg];omega)
end U
namespace Go.Proofs.YthkoabbiiadbjaaGreat
open Go Go.HL U
theorem sGrows:Sound Tryz.prog 73 SGrows:=by
 refine sound_of (C:=CGrows) [] Tryz.func73 (by kernel_rfl) (by decide+kernel) (by kernel_rfl) rfl trivial (loops0 (by kernel_rfl)) ?_;intro hA pA R h;unfold SGrows at h;split at h
 . rename_i m e s n;have hq:=h.2;unfold grw at hq;refine byVC (vcGrows m e s n R) ⟨fun e1=> ?_,fun e1=>⟨fun e2=> ?_,fun e2=>⟨fun e3=> ?_,fun e3=>⟨fun e4=> ?_,fun e4=> ?_⟩⟩⟩⟩
   . have:m=0:=by simpa using e1
     subst this;exact⟨fun k=>by subst k;simpa using hq,fun k=>by subst k;simpa using hq⟩
   . have:m=1:=by simpa using e2
     subst this;exact⟨fun k=>by subst k;simpa using hq,fun k=>by subst k;simpa using hq⟩
   . have h0:m≠0:=by simpa using e1
     have h1:m≠1:=by simpa using e2
     have h3:=odt e3;simpa[h0,h1,h3]using hq
   . have h0:m≠0:=by simpa using e1
     have h1:m≠1:=by simpa using e2
     have h4:e=0:=by simpa using e4
     subst h4;simpa[h0,h1]using hq
   . have h0:m≠0:=by simpa using e1
     have h1:m≠1:=by simpa using e2
     have h3:=odf e3;have h4:e≠0:=by simpa using e4
     simpa[h0,h1,h3,h4]using hq
 . exact h.elim
theorem sSigned:Sound Tryz.prog 74 SSigned:=by
 refine sound_of (C:=CSigned) [] Tryz.func74 (by kernel_rfl) (by decide+kernel) (by kernel_rfl) rfl trivial (loops0 (by kernel_rfl)) ?_;intro hA pA R h;unfold SSigned at h;split at h
 . rename_i n neg;obtain⟨⟨h1,h2⟩,hq⟩:=h;refine byVC (vcSigned n neg R) ⟨fun e=> ?_,fun e=> ?_⟩
   . subst e;refine⟨fun _ x1 e1 x2 e2=> ?_,fun e=>absurd (odf e) (by omega)⟩;have:x2= -n:=by
      rw[e2,e1];simp[IntKind.wrap,IntKind.signed,IntKind.bits];split<;>omega
     rw[this];exact hq
   . subst e;refine⟨fun _=>⟨fun _ x1 e1=> ?_,fun e=>absurd (odf e) (by omega)⟩,fun e=>(nomatch e)⟩;have hw:=U.wrap_small (x:=n) (by omega) (by omega);rw[e1,hw];exact hq
 . exact h.elim
theorem sMulDiv:Sound Tryz.prog 36 SMulDiv:=by
 refine sound_of (C:=CMulDiv) tabMulDiv Tryz.func36 (by kernel_rfl) (by decide+kernel) (by kernel_rfl) rfl ⟨sKnown,sProduct,sSize,sDiv64,sSign,sGrows,sSigned,trivial⟩ (loops0 (by kernel_rfl)) ?_;intro hA pA R h;unfold SMulDiv at h;split at h
 . rename_i a b c m;obtain⟨⟨ha,hb,hc,hab,hm⟩,hq⟩:=h;have hprod:((a.natAbs:Int))*(b.natAbs:Int)=((a*b).natAbs:Int):=by rw[Int.natAbs_mul];rfl
   have hsg:a.sign*b.sign=(a*b).sign:=(Int.sign_mul a b).symm;refine byVC (vcMulDiv a b c m R) ?_;generalize a*b=n at*;refine⟨fun e=>absurd e (by simp;omega),fun _=>⟨trivial,fun x1 e1=>⟨fun e=>absurd e (by rw[e1];simp;omega),fun _=>⟨ha,fun x2 e2=>⟨hb,fun x3 e3=>⟨by omega,?_⟩⟩⟩⟩⟩⟩;rw[e2,e3,hprod];intro x4 e4 x5 e5;refine⟨by omega,fun x6 e6=>⟨fun e=>absurd (odt e) (by omega),fun _=>⟨by omega,fun x7 e7 x8 e8=>⟨trivial,fun x9 e9=> ?_⟩⟩⟩⟩;have hx6:x6=c:=by omega
   subst hx6;have r0:=Int.emod_nonneg x5 (show x6≠0 by omega);have r1:=Int.emod_lt_of_pos x5 (show 0<x6 by omega);have d1:=Int.mul_ediv_add_emod x5 x6;have d2:0<=x5/x6:=Int.ediv_nonneg (by omega) (by omega);have d3:x5/x6<=x5:=Int.ediv_le_self _ (by omega);rw[<-e7]at d1 d2 d3;rw[<-e8]at d1 r0 r1;rw[hsg]at e9;have hc0:decide (x6<0)=false:=decide_eq_false (by omega);rw[hc0];have fin:∀(e:Int)(neg:Bool)(q v:Int)(w:Bool),(neg=true->n<0)->(neg=false->0<=n)->(0<e↔x6<2*x8)->(e=0↔2*x8=x6)->q=(if grw m e (decide (x8>0)) neg then x7+1 else x7)->v=(if neg=true then-q else q)->w=true->R ⟨.tup [.ce (I6 v), .ce (.bool w)],false,[],[]⟩:=by
    intro e neg q v w n1 n0 g1 g0 hqq hv hw;subst hw;have:=mdv_eq (n:=n) (c:=x6) (m:=m) (q:=x7) (r:=x8) (e:=e) (neg:=neg) (by omega) hm ⟨r0,r1⟩ (by
     cases neg with
     |false=>have:=n0 rfl;simp;omega
     |true=>have:=n1 rfl;simp;omega) (fun k=>by have:=n1 k;omega) g1 g0;rw[hv,hqq];rw[this]at hq;exact hq
   have leaf:∀(e:Int)(neg y:Bool),y=grw m e (decide (x8>0)) neg->(neg=true->n<0)->(neg=false->0<=n)->(0<e↔x6<2*x8)->(e=0↔2*x8=x6)->(y=true->∀q1:Int,q1=(x7+1)%18446744073709551616->((q1==0)=true->R ⟨.tup [.ce (I6 0), .ce (.bool false)],false,[],[]⟩)/\((q1==0)=false->(0<=q1/\q1<=9223372036854775807)/\∀v:Int,v=(if neg=true then-q1 else q1)->∀w:Bool,w=true->R ⟨.tup [.ce (I6 v), .ce (.bool w)],false,[],[]⟩))/\(y=false->(0<=x7/\x7<=9223372036854775807)/\∀v:Int,v=(if neg=true then-x7 else x7)->∀w:Bool,w=true->R ⟨.tup [.ce (I6 v), .ce (.bool w)],false,[],[]⟩):=by
    intro e neg y hy n1 n0 g1 g0;refine⟨fun u q1 eq1=> ?_,fun u=>⟨by omega,fun v hv w hw=>fin e neg x7 v w n1 n0 g1 g0 (by rw[<-hy,u];rfl) hv hw⟩⟩;have hq1:q1=x7+1:=by omega
    exact⟨fun z=>absurd z (by simp;omega),fun _=>⟨by omega,fun v hv w hw=>fin e neg q1 v w n1 n0 g1 g0 (by rw[<-hy,u,hq1];rfl) hv hw⟩⟩
   clear fin hq d1 e7 hprod;refine⟨fun en=>⟨trivial,fun x10 e10=> ?_⟩,fun en=> ?_⟩
   . rw[hsg]at e10;have hn:n<0:=by
      rcases Int.lt_trichotomy n 0 with h|h|h
      . exact h
      . subst h;simp[e9]at en
      . rw[Int.sign_eq_one_of_pos h]at e9;subst e9;simp at en
     rw[Int.sign_eq_neg_one_of_neg hn]at e10;subst e10;intro x11 e11;have s1:x11=x6-x8:=by omega
     refine⟨fun k=>⟨trivial,?_⟩,fun k x18 e18=>⟨fun k2=>⟨trivial,?_⟩,fun k2=>⟨trivial,?_⟩⟩⟩
     . have k:=odt k;exact fun y ey=>leaf 1 true y ey (fun _=>hn) (fun z=>nomatch z) (by omega) (by omega)
     . have k:=odf k;have k2:=odt k2;exact fun y ey=>leaf (-1) true y ey (fun _=>hn) (fun z=>nomatch z) (by omega) (by omega)
     . have k:=odf k;have k2:=odf k2;exact fun y ey=>leaf 0 true y ey (fun _=>hn) (fun z=>nomatch z) (by omega) (by omega)
   . have hn:0<=n:=by
      rcases Int.lt_trichotomy n 0 with h|h|h
      . rw[Int.sign_eq_neg_one_of_neg h]at e9;subst e9;simp at en
      . omega
      . omega
     intro x31 e31;have s1:x31=x6-x8:=by omega
     refine⟨fun k=>⟨trivial,?_⟩,fun k x38 e38=>⟨fun k2=>⟨trivial,?_⟩,fun k2=>⟨trivial,?_⟩⟩⟩
     . have k:=odt k;exact fun y ey=>leaf 1 false y ey (fun z=>nomatch z) (fun _=>hn) (by omega) (by omega)
     . have k:=odf k;have k2:=odt k2;exact fun y ey=>leaf (-1) false y ey (fun z=>nomatch z) (fun _=>hn) (by omega) (by omega)
     . have k:=odf k;have k2:=odf k2;exact fun y ey=>leaf 0 false y ey (fun z=>nomatch z) (fun _=>hn) (by omega) (by omega)
 . exact h.elim
end Go.Proofs.YthkoabbiiadbjaaGreat
namespace U
open Go
def cn(og sg:Int)(pit:List (List Int))(p:Int):Int:=if p<=og then el pit 0*sg else if(pit.length:Int)-1<=(p-og)/sg then el pit (pit.length-1)*sg else el pit ((p-og)/sg).toNat*sg+(el pit (((p-og)/sg).toNat+1)-el pit ((p-og)/sg).toNat)*((p-og)%sg)
def corr(og sg:Int)(pit:List (List Int))(p:Int):Int:=if pit.length=0 then 0 else(2*cn og sg pit p+sg)/(2*sg)
def mot(st og sg:Int)(pit:List (List Int))(p:Int):Int:=(2*(p+corr og sg pit p)+st)/(2*st)
theorem corr_knot{sg v:Int}(hs:0<sg):(2*(v*sg)+sg)/(2*sg)=v:=ediv_of (by omega) (by rw[Int.mul_assoc,Int.mul_comm sg v];omega) (by rw[Int.mul_assoc,Int.mul_comm sg v];omega)
end U
namespace Go.Proofs.YthkoabbiiadbjaaGreat
open Go Go.HL U
def SMod(hA:List HV)(pA:List (List HC)):SR:=match hA,pA with
 |[.ce (.int .i64 a), .ce (.int .i64 b)],[]=> .det (0<b/\b<=4611686018427387904) ⟨.ce (I6 (a%b)),false,[],[]⟩
 |_,_=> .fail
noncomputable def CMod:Ctx:=⟨Tryz.prog,gam [],12,[],[]⟩
theorem vcMod(a b:Int)(Q:Res->Prop):(nfun true CMod Tryz.f8 (bodyOf Tryz.f8) [.ce (I6 a), .ce (I6 b)] [] Q)=(b≠0/\∀x1,x1=Int.tmod a b->R6 (x1+b)/\∀x2,x2=x1+b->b≠0/\∀x3,x3=Int.tmod x2 b->Q ⟨.ce (I6 x3),false,[],[]⟩):=by kernel_rfl
theorem sMod:Sound Tryz.prog 8 SMod:=by
 refine sound_of (C:=CMod) [] Tryz.func8 (by kernel_rfl) (by decide+kernel) (by kernel_rfl) rfl trivial (loops0 (by kernel_rfl)) ?_;intro hA pA R h;unfold SMod at h;split at h
 . rename_i a b;refine byVC (vcMod a b R) ?_;obtain⟨⟨h1,h2⟩,hq⟩:=h;have:=tmod_lt (a:=a) h1;refine⟨by omega,fun x1 e1=>⟨by omega,fun x2 e2=>⟨by omega,fun x3 e3=> ?_⟩⟩⟩;subst e1 e2;rw[mod_eq h1]at e3;subst e3;exact hq
 . exact h.elim
end Go.Proofs.YthkoabbiiadbjaaGreat
namespace U
open Go
def adv(l:LL)(p:Int):Int:=if p<(l.length:Int)then p+1 else p
def inSrc(l:LL)(p:Int):Prop:=0<=p/\l.length<=9223372036854775807
def drew(l:LL)(p m:Int)(x:Int×Int):Prop:=0<=x.1/\x.1<m/\x.2=adv l p
theorem inSrc_adv{l:LL}{p:Int}(h:inSrc l p):inSrc l (adv l p):=⟨by have:=h.1;unfold adv;split<;>omega,h.2⟩
theorem drew_src{l:LL}{p m:Int}{x:Int×Int}(h:inSrc l p)(hd:drew l p m x):inSrc l x.2:=by rw[hd.2.2];exact inSrc_adv h
theorem drew_ex(l:LL)(p:Int){m:Int}(h:0<m):∃x,drew l p m x:=⟨(0,adv l p),Int.le_refl _,h,rfl⟩
end U
namespace Go.Proofs.YthkoabbiiadbjaaGreat
open Go Go.HL U
def SFrom(hA:List HV)(pA:List (List HC)):SR:=match hA,pA with
 |[.ce (.sl false [4] l)],[]=> .det True ⟨.ce (.ptr 500 0),false,[],[[.sl false [4] l,I6 0]]⟩
 |_,_=> .fail
noncomputable def CFrom:Ctx:=⟨Tryz.prog,gam [],6,[],[]⟩
theorem vcFrom(l:LL)(Q:Res->Prop):(nfun true CFrom Tryz.f24 (bodyOf Tryz.f24) [.ce (.sl false [4] l)] [] Q)=(Q {val:= .ce (.ptr 500 0),own:=false,pars:=[],news:=[[.sl false [4] l,I6 0]]}):=by kernel_rfl
def SNext(hA:List HV)(pA:List (List HC)):SR:=match hA,pA with
 |[.ce (.ptr 0 0), .ce (.int .i64 m)],[[.sl false [4] l, .int .i64 p]]=> .all (0<m/\m<=4611686018427387904/\inSrc l p) (Int×Int) (fun x=>drew l p m x) (fun x=>⟨.ce (I6 x.1),false,[[.sl false [4] l,I6 x.2]],[]⟩)
 |_,_=> .fail
def tabNext:List (FuncId×HL.Spec):=[(8,SMod)]
noncomputable def CNext:Ctx:=⟨Tryz.prog,gam tabNext,36,[],[]⟩
theorem vcNext(l:LL)(p m:Int)(Q:Res->Prop):(nfun true CNext Tryz.f25 (bodyOf Tryz.f25) [.ce (.ptr 0 0), .ce (I6 m)] [[.sl false [4] l,I6 p]] Q)=(Br (p>=(l.length:Int)) (Q {val:= .ce (I6 0),own:=false,pars:=[[.sl false [4] l,I6 p]],news:=[]}) ((0<=p/\p<(l.length:Int))/\∀x1,x1=el l p.toNat->R6 (p+1)/\∀x2,x2=p+1->(0<m/\m<=4611686018427387904)/\∀x3,x3=x1%m->Q {val:= .ce (I6 x3),own:=false,pars:=[[.sl false [4] l,I6 x2]],news:=[]})):=by kernel_rfl
theorem sFrom:Sound Tryz.prog 24 SFrom:=by
 refine sound_of (C:=CFrom) [] Tryz.func24 (by kernel_rfl) (by decide+kernel) (by kernel_rfl) rfl trivial (loops0 (by kernel_rfl)) ?_;intro hA pA R h;unfold SFrom at h;split at h
 . refine byVC (vcFrom _ R) ?_;exact h.2
 . exact h.elim
theorem sNext:Sound Tryz.prog 25 SNext:=by
 refine sound_of (C:=CNext) tabNext Tryz.func25 (by kernel_rfl) (by decide+kernel) (by kernel_rfl) rfl ⟨sMod,trivial⟩ (loops0 (by kernel_rfl)) ?_;intro hA pA R h;unfold SNext at h;split at h
 . rename_i m l p;refine byVC (vcNext l p m R) ?_;obtain⟨⟨h1,h2,h3,h4⟩,_,hq⟩:=h;refine⟨fun e=> ?_,fun e=> ?_⟩
   . have e:=odt e;exact hq (0,p) ⟨Int.le_refl _,h1,by unfold adv;rw[if_neg (by omega)]⟩
   . have e:=odf e;refine⟨by omega,fun x3 e3=>⟨by omega,fun x5 e5=>⟨⟨h1,h2⟩,fun y ey=> ?_⟩⟩⟩;subst ey;exact hq (x3%m,x5) ⟨Int.emod_nonneg _ (by omega),Int.emod_lt_of_pos _ h1,by unfold adv;rw[if_pos (by omega)];exact e5⟩
 . exact h.elim
end Go.Proofs.YthkoabbiiadbjaaGreat
namespace U
open Go
structure AxV where
 st:Int
 sp:Int
 ac:Int
 je:Int
 bl:Int
 og:Int
 sg:Int
 pit:LL
def okPit(sg:Int)(pit:LL):Prop:=(∀j,j<pit.length-> -4096<=el pit j/\el pit j<=4096)/\∀j,j+1<pit.length->el pit (j+1)-el pit j<=sg/4/\el pit j-el pit (j+1)<=sg/4
def okAx(a:AxV):Prop:=(4<=a.st/\a.st<=64)/\(1<=a.sp/\a.sp<=1000)/\(2<=a.ac/\a.ac<=1000)/\(4<=a.je/\a.je<=1000)/\(0<=a.bl/\a.bl<=6)/\(-200<=a.og/\a.og<200)/\(0<=a.sg/\a.sg<124)/\a.pit.length<=4/\(0<a.pit.length->4<=a.sg)/\okPit a.sg a.pit
end U
namespace Go.Proofs.YthkoabbiiadbjaaGreat
open Go Go.HL U
def axCells(a:AxV):List HC:=[I6 a.st,I6 a.sp,I6 a.ac,I6 a.je,I6 (-16777216),I6 16777216,I6 a.bl,I6 a.og,I6 a.sg, .sl false [4] a.pit]
def zAx:List HC:=[I6 0,I6 0,I6 0,I6 0,I6 0,I6 0,I6 0,I6 0,I6 0, .sl true [4] []]
def an22:LAnn:=⟨[0,2,3,4,5,6],[0,2,3],[0,1000002,1000003],false⟩
def L22(v:LV):LR:=match v with
 |([.ce (.ptr 0 0), .ce (.ptr 1000002 0), .ce (.ptr 1000003 0), .ce (.int .i64 n), .ce (.int .i64 v), .ce (.int .i64 k)],[[.sl false [4] l, .int .i64 p],z,[.int .i64 st, .int .i64 sp, .int .i64 ac, .int .i64 je, .int .i64 lo, .int .i64 hi, .int .i64 bl, .int .i64 og, .int .i64 sg, .sl true [4] pit]])=> .all (0<=n/\n<=4/\k=0/\ -4<=v/\v<=4/\pit.length=0/\4<=sg/\sg<124/\inSrc l p/\z=zAx) (Int×LL) (fun x=>inSrc l x.1/\x.2.length=n.toNat/\okPit sg x.2) (fun _=> .exit 0) (fun x=>([.ce (.ptr 0 0), .ce (.ptr 1000002 0), .ce (.ptr 1000003 0)],[[.sl false [4] l,I6 x.1],zAx,[I6 st,I6 sp,I6 ac,I6 je,I6 lo,I6 hi,I6 bl,I6 og,I6 sg, .sl true [4] x.2]]))
 |_=> .fail
def SAxis(hA:List HV)(pA:List (List HC)):SR:=match hA,pA with
 |[.ce (.ptr 0 0)],[[.sl false [4] l, .int .i64 p]]=> .all (inSrc l p) (Int×AxV) (fun x=>inSrc l x.1/\okAx x.2) (fun x=>⟨.agg (axCells x.2),false,[[.sl false [4] l,I6 x.1]],[]⟩)
 |_,_=> .fail
def tabAxis:List (FuncId×HL.Spec):=[(25,SNext)]
noncomputable def CAxis:Ctx:=⟨Tryz.prog,gam tabAxis,79,[(11,an22,L22)],[]⟩
theorem vbAxis(l:LL)(p n v i x0 x1 x2 x3 x4 x5 x6 x7 x8:Int)(pit:LL)(K:HEx->LV->Prop):(nbodyT true CAxis an22 (nthLoop Tryz.f54 0) ([.ce (.ptr 0 0), .ce (.ptr 1000002 0), .ce (.ptr 1000003 0), .ce (I6 n), .ce (I6 v), .ce (I6 i)],[[.sl false [4] l,I6 p],zAx,[I6 x0,I6 x1,I6 x2,I6 x3,I6 x4,I6 x5,I6 x6,I6 x7,I6 x8, .sl true [4] pit]]) K)=(Br (i<n) (((pit.length+1)*8<=140737488355328/\pit.length+1<=maxLen)/\(4:Int)≠(0:Int)/\R6 (Int.tdiv x8 4)/\∀x1_1,x1_1=Int.tdiv x8 4->R6 (2*x1_1)/\∀x2_1,x2_1=2*x1_1->R6 (x2_1+1)/\∀x3_1,x3_1=x2_1+1->(0<x3_1/\x3_1<=4611686018427387904/\inSrc l p)/\(∃(x:Int×Int),drew l p x3_1 x)/\∀(x:Int×Int),drew l p x3_1 x->R6 (v+x.1)/\∀x5_1,x5_1=v+x.1->R6 (x5_1-x1_1)/\∀x6_1,x6_1=x5_1-x1_1->∀x7_1,x7_1=max x6_1 (-4096:Int)->∀x8_1,x8_1=min x7_1 4096->R6 (i+1)/\∀x9,x9=i+1->K .normal ([.ce (.ptr 0 0), .ce (.ptr 1000002 0), .ce (.ptr 1000003 0), .ce (I6 n), .ce (I6 x8_1), .ce (I6 x9)],[[.sl false [4] l,I6 x.2],[I6 0,I6 0,I6 0,I6 0,I6 0,I6 0,I6 0,I6 0,I6 0, .sl true [4] []],[I6 x0,I6 x1,I6 x2,I6 x3,I6 x4,I6 x5,I6 x6,I6 x7,I6 x8, .sl true [4] (pit++[[v]])]])) (K (.exit 0) ([.ce (.ptr 0 0), .ce (.ptr 1000002 0), .ce (.ptr 1000003 0)],[[.sl false [4] l,I6 p],[I6 0,I6 0,I6 0,I6 0,I6 0,I6 0,I6 0,I6 0,I6 0, .sl true [4] []],[I6 x0,I6 x1,I6 x2,I6 x3,I6 x4,I6 x5,I6 x6,I6 x7,I6 x8, .sl true [4] pit]]))):=by kernel_rfl
theorem vcAxis(l:LL)(p:Int)(Q:Res->Prop):(nfun true CAxis Tryz.f54 (bodyOf Tryz.f54) [.ce (.ptr 0 0)] [[.sl false [4] l,I6 p]] Q)=(((0:Int)<6/\(6:Int)<=4611686018427387904/\inSrc l p)/\(∃(x:Int×Int),drew l p (6:Int) x)/\∀(x:Int×Int),drew l p (6:Int) x->(0<=x.1/\x.1<6)/\∀x2,x2=el [[(8:Int)],[(4:Int)],[(5:Int)],[(16:Int)],[(23:Int)],[(64:Int)]] x.1.toNat->((0:Int)<4/\(4:Int)<=4611686018427387904/\inSrc l x.2)/\(∃(x_1:Int×Int),drew l x.2 (4:Int) x_1)/\∀(x_1:Int×Int),drew l x.2 (4:Int) x_1->(0<=x_1.1/\x_1.1<4)/\∀x4,x4=el [[(0:Int)],[(1:Int)],[(3:Int)],[(6:Int)]] x_1.1.toNat->((0:Int)<5/\(5:Int)<=4611686018427387904/\inSrc l x_1.2)/\(∃(x:Int×Int),drew l x_1.2 (5:Int) x)/\∀(x:Int×Int),drew l x_1.2 (5:Int) x->(0<=x.1/\x.1<5)/\∀x6,x6=el [[(40:Int)],[(1:Int)],[(3:Int)],[(9:Int)],[(1000:Int)]] x.1.toNat->((0:Int)<5/\(5:Int)<=4611686018427387904/\inSrc l x.2)/\(∃(x_2:Int×Int),drew l x.2 (5:Int) x_2)/\∀(x_2:Int×Int),drew l x.2 (5:Int) x_2->(0<=x_2.1/\x_2.1<5)/\∀x8,x8=el [[(20:Int)],[(2:Int)],[(3:Int)],[(5:Int)],[(1000:Int)]] x_2.1.toNat->((0:Int)<5/\(5:Int)<=4611686018427387904/\inSrc l x_2.2)/\(∃(x:Int×Int),drew l x_2.2 (5:Int) x)/\∀(x:Int×Int),drew l x_2.2 (5:Int) x->(0<=x.1/\x.1<5)/\∀x10,x10=el [[(30:Int)],[(4:Int)],[(5:Int)],[(8:Int)],[(1000:Int)]] x.1.toNat->((0:Int)<5/\(5:Int)<=4611686018427387904/\inSrc l x.2)/\(∃(x_3:Int×Int),drew l x.2 (5:Int) x_3)/\∀(x_3:Int×Int),drew l x.2 (5:Int) x_3->Bb (x_3.1==0) (Q {val:= .agg [I6 x2,I6 x6,I6 x8,I6 x10,I6 (-16777216),I6 16777216,I6 x4,I6 0,I6 0, .sl false [4] []],own:=false,pars:=[[.sl false [4] l,I6 x_3.2]],news:=[]}) (((0:Int)<400/\(400:Int)<=4611686018427387904/\inSrc l x_3.2)/\(∃(x:Int×Int),drew l x_3.2 (400:Int) x)/\∀(x:Int×Int),drew l x_3.2 (400:Int) x->R6 (x.1-200)/\∀x13,x13=x.1-200->((0:Int)<120/\(120:Int)<=4611686018427387904/\inSrc l x.2)/\(∃(x_4:Int×Int),drew l x.2 (120:Int) x_4)/\∀(x_4:Int×Int),drew l x.2 (120:Int) x_4->(-9223372036854775808<=4+x_4.1/\(4:Int)+x_4.1<=9223372036854775807)/\∀x15,x15=4+x_4.1->((0:Int)<9/\(9:Int)<=4611686018427387904/\inSrc l x_4.2)/\(∃(x:Int×Int),drew l x_4.2 (9:Int) x)/\∀(x:Int×Int),drew l x_4.2 (9:Int) x->R6 (x.1-4)/\∀x17,x17=x.1-4->(0<=x_3.1/\x_3.1<=4/\(0:Int)=0/\ -4<=x17/\x17<=4/\nat_lit 0=0/\4<=x15/\x15<124/\inSrc l x.2/\[I6 0,I6 0,I6 0,I6 0,I6 0,I6 0,I6 0,I6 0,I6 0, .sl true [nat_lit 4] []]=zAx)/\∀(x:Int×LL),inSrc l x.1/\List.length x.2=x_3.1.toNat/\okPit x15 x.2->Q {val:= .agg [I6 x2,I6 x6,I6 x8,I6 x10,I6 (-16777216),I6 16777216,I6 x4,I6 x13,I6 x15, .sl false [4] x.2],own:=false,pars:=[[.sl false [4] l,I6 x.1]],news:=[]})):=by kernel_rfl
def SAxes(hA:List HV)(pA:List (List HC)):SR:=match hA,pA with
 |[.ce (.sl false [4] l)],[]=> .all (l.length<=9223372036854775807) (AxV×AxV×AxV) (fun x=>okAx x.1/\okAx x.2.1/\okAx x.2.2) (fun x=>⟨.agg (axCells x.1++axCells x.2.1++axCells x.2.2),false,[],[]⟩)
 |_,_=> .fail
def tabAxes:List (FuncId×HL.Spec):=[(24,SFrom),(54,SAxis)]
noncomputable def CAxes:Ctx:=⟨Tryz.prog,gam tabAxes,13,[],[]⟩
theorem vcAxes(l:LL)(Q:Res->Prop):(nfun true CAxes Tryz.f21 (bodyOf Tryz.f21) [.ce (.sl false [4] l)] [] Q)=(True/\∀(x1:LL),x1=l->∀(x2:Int),x2=0->inSrc x1 x2/\(∃(x:Int×AxV),inSrc x1 x.1/\okAx x.2)/\∀(x:Int×AxV),inSrc x1 x.1/\okAx x.2->inSrc x1 x.1/\(∃(x:Int×AxV),inSrc x1 x.1/\okAx x.2)/\∀(x_1:Int×AxV),inSrc x1 x_1.1/\okAx x_1.2->inSrc x1 x_1.1/\(∃(x:Int×AxV),inSrc x1 x.1/\okAx x.2)/\∀(x_2:Int×AxV),inSrc x1 x_2.1/\okAx x_2.2->Q ⟨.agg [I6 x.2.st,I6 x.2.sp,I6 x.2.ac,I6 x.2.je,I6 (-16777216),I6 16777216,I6 x.2.bl,I6 x.2.og,I6 x.2.sg, .sl false [4] x.2.pit,I6 x_1.2.st,I6 x_1.2.sp,I6 x_1.2.ac,I6 x_1.2.je,I6 (-16777216),I6 16777216,I6 x_1.2.bl,I6 x_1.2.og,I6 x_1.2.sg, .sl false [4] x_1.2.pit,I6 x_2.2.st,I6 x_2.2.sp,I6 x_2.2.ac,I6 x_2.2.je,I6 (-16777216),I6 16777216,I6 x_2.2.bl,I6 x_2.2.og,I6 x_2.2.sg, .sl false [4] x_2.2.pit],false,[],[]⟩):=by kernel_rfl
theorem okAx_ex:∃a,okAx a:=⟨⟨8,1,2,4,0,0,0,[]⟩,by unfold okAx okPit;simp⟩
theorem loopAxis:∀v Q,(L22 v).wp Q->hloop CAxis an22 (nthLoop Tryz.f54 0) v Q:=by
 intro v Q h;unfold L22 at h;split at h;case h_2=>exact h.elim
 rename_i n v k l p z st sp ac je lo hi bl og sg pit;obtain⟨⟨h1,h2,h3,h4,h5,h6,h7,h8,h9,h10⟩,hq⟩:=h;subst h3;subst h10;obtain rfl:pit=[]:=List.eq_nil_of_length_eq_zero h6;refine hloop_rec (σ:=Int×LL×Int) (fun s=>([.ce (.ptr 0 0), .ce (.ptr 1000002 0), .ce (.ptr 1000003 0), .ce (I6 n), .ce (I6 s.1), .ce (I6 (s.2.1.length:Int))],[[.sl false [4] l,I6 s.2.2],zAx,[I6 st,I6 sp,I6 ac,I6 je,I6 lo,I6 hi,I6 bl,I6 og,I6 sg, .sl true [4] s.2.1]])) (fun s=>n.toNat-s.2.1.length) (fun s=>(s.2.1.length:Int)<=n/\inSrc l s.2.2/\okPit sg s.2.1/\(-4096<=s.1/\s.1<=4096)/\(0<s.2.1.length->s.1-el s.2.1 (s.2.1.length-1)<=sg/4/\el s.2.1 (s.2.1.length-1)-s.1<=sg/4)) ?_ (v,[],p) ⟨h1,h9,by unfold okPit;simp,⟨by dsimp only;omega,by dsimp only;omega⟩,fun h=>absurd h (by simp)⟩;rintro⟨v,pit,p⟩⟨i1,i2,i3,i4,i5⟩K hn he hr;dsimp only at i1 i2 i3 i4 i5 hn⊢;refine byVB (vbAxis l p n v pit.length st sp ac je lo hi bl og sg pit K) ?_;refine⟨fun hlt=> ?_,fun hge=> ?_⟩
 . have hlt:=odt hlt;have ht:sg.tdiv 4=sg/4:=tdiv_pos (by omega);rw[ht];refine⟨⟨by omega,by unfold maxLen;omega⟩,by omega,by omega,fun y1 e1=>⟨by omega,fun y2 e2=>⟨by omega,fun y3 e3=>⟨⟨by omega,by omega,i2⟩,drew_ex _ _ (by omega),fun y d=> ?_⟩⟩⟩⟩;have d1:=d.1;have d2:=d.2.1;refine⟨by omega,fun y5 e5=>⟨by omega,fun y6 e6 y7 e7 y8 e8=>⟨by omega,fun y9 e9=> ?_⟩⟩⟩;have hl:(pit++[[v]]).length=pit.length+1:=by simp
   have:=hn (y8,pit++[[v]],y.2) ⟨by dsimp only;omega,drew_src i2 d,?_,by dsimp only;omega,fun _=> ?_⟩ (by dsimp only;omega)
   . dsimp only at this;rw[hl,show((pit.length+1:Nat):Int)=y9 by omega]at this;exact this
   . refine⟨fun j hj=> ?_,fun j hj=> ?_⟩
     . dsimp only at hj⊢;rw[el_append];split
       . rename_i hj';exact i3.1 j hj'
       . obtain rfl:j=pit.length:=by omega
         rw[Nat.sub_self,el_single];omega
     . dsimp only at hj⊢;have hjp:j<pit.length:=by omega
       have ej:el (pit++[[v]]) j=el pit j:=by rw[el_append,if_pos hjp]
       rw[ej,el_append];split
       . exact i3.2 j (by omega)
       . have hj':j+1=pit.length:=by omega
         have:=i5 (by omega);rw[hj',Nat.sub_self,el_single];rw[show pit.length-1=j by omega]at this;exact this
   . dsimp only;rw[hl,Nat.add_sub_cancel,el_append,if_neg (by omega),Nat.sub_self,el_single];omega
 . have hge:=odf hge;exact he _ _ (hq (p,pit) ⟨i2,by dsimp only;omega,i3⟩)
theorem sAxis:Sound Tryz.prog 54 SAxis:=by
 refine sound_of (C:=CAxis) tabAxis Tryz.func54 (by kernel_rfl) (by decide+kernel) (by kernel_rfl) rfl ⟨sNext,trivial⟩ (loops1 (by kernel_rfl) (loopOK_of (an:=an22) (S:=L22) (by kernel_rfl) loopAxis)) ?_;intro hA pA R h;unfold SAxis at h;split at h
 . rename_i l p;refine byVC (vcAxis l p R) ?_;obtain⟨hs,_,hq⟩:=h;refine⟨⟨by omega,by omega,hs⟩,drew_ex _ _ (by omega),fun y1 d1=>⟨⟨d1.1,d1.2.1⟩,fun x2 e2=> ?_⟩⟩;have s1:=drew_src hs d1;have b1:=el_bd (L:=[[8],[4],[5],[16],[23],[64]]) (lo:=4) (hi:=64) (by decide) d1.1 d1.2.1;refine⟨⟨by omega,by omega,s1⟩,drew_ex _ _ (by omega),fun y2 d2=>⟨⟨d2.1,d2.2.1⟩,fun x4 e4=> ?_⟩⟩;have s2:=drew_src s1 d2;have b2:=el_bd (L:=[[0],[1],[3],[6]]) (lo:=0) (hi:=6) (by decide) d2.1 d2.2.1;refine⟨⟨by omega,by omega,s2⟩,drew_ex _ _ (by omega),fun y3 d3=>⟨⟨d3.1,d3.2.1⟩,fun x6 e6=> ?_⟩⟩;have s3:=drew_src s2 d3;have b3:=el_bd (L:=[[40],[1],[3],[9],[1000]]) (lo:=1) (hi:=1000) (by decide) d3.1 d3.2.1;refine⟨⟨by omega,by omega,s3⟩,drew_ex _ _ (by omega),fun y4 d4=>⟨⟨d4.1,d4.2.1⟩,fun x8 e8=> ?_⟩⟩;have s4:=drew_src s3 d4;have b4:=el_bd (L:=[[20],[2],[3],[5],[1000]]) (lo:=2) (hi:=1000) (by decide) d4.1 d4.2.1;refine⟨⟨by omega,by omega,s4⟩,drew_ex _ _ (by omega),fun y5 d5=>⟨⟨d5.1,d5.2.1⟩,fun x10 e10=> ?_⟩⟩;have s5:=drew_src s4 d5;have b5:=el_bd (L:=[[30],[4],[5],[8],[1000]]) (lo:=4) (hi:=1000) (by decide) d5.1 d5.2.1;refine⟨⟨by omega,by omega,s5⟩,drew_ex _ _ (by omega),fun y6 d6=>⟨fun e=> ?_,fun e=> ?_⟩⟩
   . refine hq (y6.2,⟨x2,x6,x8,x10,x4,0,0,[]⟩) ⟨drew_src s5 d6,?_⟩;subst e2 e4 e6 e8 e10;unfold okAx okPit;simp;omega
   . have s6:=drew_src s5 d6;have hn:y6.1≠0:=by simpa using e
     have hn0:=d6.1;have hn5:=d6.2.1;refine⟨⟨by omega,by omega,s6⟩,drew_ex _ _ (by omega),fun y7 d7=>⟨by have:=d7.1;have:=d7.2.1;omega,fun x13 e13=> ?_⟩⟩;have s7:=drew_src s6 d7;have c7:=d7.1;have c7':=d7.2.1;refine⟨⟨by omega,by omega,s7⟩,drew_ex _ _ (by omega),fun y8 d8=>⟨by have:=d8.1;have:=d8.2.1;omega,fun x15 e15=> ?_⟩⟩;have s8:=drew_src s7 d8;have c8:=d8.1;have c8':=d8.2.1;refine⟨⟨by omega,by omega,s8⟩,drew_ex _ _ (by omega),fun y9 d9=>⟨by have:=d9.1;have:=d9.2.1;omega,fun x17 e17=> ?_⟩⟩;have s9:=drew_src s8 d9;have c9:=d9.1;have c9':=d9.2.1;refine⟨⟨by omega,by omega,rfl,by omega,by omega,rfl,by omega,by omega,s9,rfl⟩,fun y⟨g1,g2,g3⟩=> ?_⟩;refine hq (y.1,⟨x2,x6,x8,x10,x4,x13,x15,y.2⟩) ⟨g1,?_⟩;subst e2 e4 e6 e8 e10;refine⟨b1,b3,b4,b5,b2,?_,?_,?_,?_,g3⟩
     . dsimp only;omega
     . dsimp only;omega
     . dsimp only;omega
     . dsimp only;omega
 . exact h.elim
theorem sAxes:Sound Tryz.prog 21 SAxes:=by
 refine sound_of (C:=CAxes) tabAxes Tryz.func21 (by kernel_rfl) (by decide+kernel) (by kernel_rfl) rfl ⟨sFrom,sAxis,trivial⟩ (loops0 (by kernel_rfl)) ?_;intro hA pA R h;unfold SAxes at h;split at h
 . rename_i l;refine byVC (vcAxes l R) ?_;obtain⟨hs,_,hq⟩:=h;obtain⟨a,ha⟩:=okAx_ex;have i0:inSrc l 0:=⟨Int.le_refl _,hs⟩;refine⟨trivial,fun y1 e1 y2 e2=> ?_⟩;subst e1 e2;refine⟨i0,⟨(0,a),i0,ha⟩,fun x1 h1=>⟨h1.1,⟨(0,a),i0,ha⟩,fun x2 h2=>⟨h2.1,⟨(0,a),i0,ha⟩,fun x3 h3=> ?_⟩⟩⟩;exact hq (x1.2,x2.2,x3.2) ⟨h1.2,h2.2,h3.2⟩
 . exact h.elim
end Go.Proofs.YthkoabbiiadbjaaGreat
namespace U
open Go
def stp(st q:Int):Int:=(2*q+st)/(2*st)
def okC(og sg:Int)(pit:LL):Prop:=(0<pit.length->0<sg)/\(0<=sg/\sg<=16777216)/\(-16777216<=og/\og<=16777216)/\pit.length<=4096/\∀j,j<pit.length-> -4096<=el pit j/\el pit j<=4096
end U
namespace Go.Proofs.YthkoabbiiadbjaaGreat
open Go Go.HL U
def axI(st sp ac je lo hi bl og sg:Int)(pit:LL):List HC:=[I6 st,I6 sp,I6 ac,I6 je,I6 lo,I6 hi,I6 bl,I6 og,I6 sg, .sl false [4] pit]
def SFloor(hargs:List HV)(pars:List (List HC)):SR:=match hargs,pars with
 |[.ce (.int .i64 a), .ce (.int .i64 b)],[]=> .det ((-9223372036854775807<=a/\a<=9223372036854775807)/\0<b) ⟨.ce (I6 (a/b)),false,[],[]⟩
 |_,_=> .fail
noncomputable def CFloor:Ctx:=⟨Tryz.prog,gam [],16,[],[]⟩
theorem vcFloor(a b:Int)(Q:Res->Prop):(nfun true CFloor Tryz.f16 (bodyOf Tryz.f16) [.ce (I6 a), .ce (I6 b)] [] Q)=(b≠0/\R6 (Int.tdiv a b)/\∀x1,x1=Int.tdiv a b->b≠0/\∀x2,x2=Int.tmod a b->Br (x2<0) (R6 (x1-1)/\∀x3,x3=x1-1->Q ⟨.ce (I6 x3),false,[],[]⟩) (Q ⟨.ce (I6 x1),false,[],[]⟩)):=by kernel_rfl
def SCorrect(hargs:List HV)(pars:List (List HC)):SR:=match hargs,pars with
 |[.agg [.int .i64 st, .int .i64 _, .int .i64 _, .int .i64 _, .int .i64 _, .int .i64 _, .int .i64 _, .int .i64 og, .int .i64 sg, .sl false [4] pit], .ce (.int .i64 p)],[]=> .det (okC og sg pit/\ -1073741824<=p/\p<=1073741824) ⟨.ce (I6 (corr og sg pit p)),false,[],[]⟩
 |_,_=> .fail
def SSteps(hargs:List HV)(pars:List (List HC)):SR:=match hargs,pars with
 |[.agg [.int .i64 st, .int .i64 _, .int .i64 _, .int .i64 _, .int .i64 _, .int .i64 _, .int .i64 _, .int .i64 og, .int .i64 sg, .sl false [4] pit], .ce (.int .i64 p)],[]=> .det ((0<st/\st<=16777216)/\ -1099511627776<=p/\p<=1099511627776) ⟨.ce (I6 (stp st p)),false,[],[]⟩
 |_,_=> .fail
def SMotor(hargs:List HV)(pars:List (List HC)):SR:=match hargs,pars with
 |[.agg [.int .i64 st, .int .i64 _, .int .i64 _, .int .i64 _, .int .i64 _, .int .i64 _, .int .i64 _, .int .i64 og, .int .i64 sg, .sl false [4] pit], .ce (.int .i64 p)],[]=> .det ((0<st/\st<=16777216)/\okC og sg pit/\ -1073741824<=p/\p<=1073741824) ⟨.ce (I6 (mot st og sg pit p)),false,[],[]⟩
 |_,_=> .fail
def tabP1:List (FuncId×HL.Spec):=[(36,SMulDiv),(16,SFloor)]
def tabP2:List (FuncId×HL.Spec):=[(133,SCorrect),(132,SSteps)]
noncomputable def CCorrect:Ctx:=⟨Tryz.prog,gam tabP1,74,[],[]⟩
noncomputable def CSteps:Ctx:=⟨Tryz.prog,gam tabP1,31,[],[]⟩
noncomputable def CMotor:Ctx:=⟨Tryz.prog,gam tabP2,12,[],[]⟩
theorem vcCorrect(st sp ac je lo hi bl og sg p:Int)(pit:LL)(Q:Res->Prop):(nfun true CCorrect Tryz.f133 (bodyOf Tryz.f133) [.agg (axI st sp ac je lo hi bl og sg pit), .ce (I6 p)] [] Q)=(R6 ((pit.length:Int)-1)/\∀x1,x1=(pit.length:Int)-1->Br (x1<0) (Q ⟨.ce (I6 0),false,[],[]⟩) (R6 (p-og)/\∀x2,x2=p-og->Br (x2<=0) (((0:Int)<=0/\(0:Int)<(pit.length:Int))/\∀x3,x3=el pit (0:Nat)->Q ⟨.ce (I6 x3),false,[],[]⟩) (Br (sg<=0) (((0:Int)<=0/\(0:Int)<(pit.length:Int))/\∀x4,x4=el pit (0:Nat)->Q ⟨.ce (I6 x4),false,[],[]⟩) (sg≠0/\R6 (Int.tdiv x2 sg)/\∀x5,x5=Int.tdiv x2 sg->Br (x5>=x1) ((0<=x1/\x1<(pit.length:Int))/\∀x6,x6=el pit x1.toNat->Q ⟨.ce (I6 x6),false,[],[]⟩) (R6 (x5+1)/\∀x7,x7=x5+1->(0<=x7/\x7<(pit.length:Int))/\∀x8,x8=el pit x7.toNat->(0<=x5/\x5<(pit.length:Int))/\∀x9,x9=el pit x5.toNat->R6 (x8-x9)/\∀x10,x10=x8-x9->R6 (x5*sg)/\∀x11,x11=x5*sg->R6 (x2-x11)/\∀x12,x12=x2-x11->(R6 x10/\R6 x12/\(0<sg/\sg<=9223372036854775807)/\(-4611686018427387904<=x10*x12/\x10*x12<=4611686018427387904)/\(0:Int)<=2/\(2:Int)<=2)/\∀x13,x13=mdv (x10*x12) sg (2:Int)->∀(x14:Bool),x14=true->(0<=x5/\x5<(pit.length:Int))/\∀x15,x15=el pit x5.toNat->R6 (x15+x13)/\∀x16,x16=x15+x13->Q ⟨.ce (I6 x16),false,[],[]⟩))))):=by kernel_rfl
theorem vcSteps(st sp ac je lo hi bl og sg p:Int)(pit:LL)(Q:Res->Prop):(nfun true CSteps Tryz.f132 (bodyOf Tryz.f132) [.agg (axI st sp ac je lo hi bl og sg pit), .ce (I6 p)] [] Q)=(Br (st<=0) (Q ⟨.ce (I6 0),false,[],[]⟩) (R6 (2*p)/\∀x1,x1=2*p->R6 (x1+st)/\∀x2,x2=x1+st->R6 (2*st)/\∀x3,x3=2*st->Br (x3<=0) (Q ⟨.ce (I6 0),false,[],[]⟩) (x3≠0/\R6 (Int.tdiv x2 x3)/\∀x4,x4=Int.tdiv x2 x3->x3≠0/\∀x5,x5=Int.tmod x2 x3->Br (x5<0) (R6 (x4-1)/\∀x6,x6=x4-1->Q ⟨.ce (I6 x6),false,[],[]⟩) (Q ⟨.ce (I6 x4),false,[],[]⟩)))):=by kernel_rfl
theorem vcMotor(st sp ac je lo hi bl og sg p:Int)(pit:LL)(Q:Res->Prop):(nfun true CMotor Tryz.f105 (bodyOf Tryz.f105) [.agg (axI st sp ac je lo hi bl og sg pit), .ce (I6 p)] [] Q)=((okC og sg pit/\ -1073741824<=p/\p<=1073741824)/\∀x1,x1=corr og sg pit p->R6 (p+x1)/\∀x2,x2=p+x1->((0<st/\st<=16777216)/\ -1099511627776<=x2/\x2<=1099511627776)/\∀x3,x3=stp st x2->Q ⟨.ce (I6 x3),false,[],[]⟩):=by kernel_rfl
end Go.Proofs.YthkoabbiiadbjaaGreat
namespace U
theorem floor_of{a b:Int}(hb:0<b):(a.tmod b<0->a.tdiv b-1=a/b)/\(0<=a.tmod b->a.tdiv b=a/b):=by
 have e1:=Int.mul_ediv_add_emod a b;have e2:=Int.mul_tdiv_add_tmod a b;have m1:=Int.emod_nonneg a (show b≠0 by omega);have m2:=Int.emod_lt_of_pos a hb;have⟨t1,t2⟩:=tmod_lt (a:=a) hb;generalize a.tmod b=r at*;generalize a.tdiv b=q at*;generalize a%b=s at*;generalize a/b=k at*;have e3:b*(k-q)=r-s:=by rw[Int.mul_sub];omega
 refine⟨fun h=> ?_,fun h=> ?_⟩
 . have:k-q= -1:=by
    have h1:k-q<0:=by
     refine Int.not_le.1 fun hh=> ?_;have:=Int.mul_nonneg (Int.le_of_lt hb) hh;omega
    have h2: -2<k-q:=by
     refine Int.not_le.1 fun hh=> ?_;have:=Int.mul_le_mul_of_nonneg_left hh (Int.le_of_lt hb);omega
    omega
   omega
 . have:k-q=0:=by
    have h1:k-q<1:=by
     refine Int.not_le.1 fun hh=> ?_;have:=Int.mul_le_mul_of_nonneg_left hh (Int.le_of_lt hb);omega
    have h2: -1<k-q:=by
     refine Int.not_le.1 fun hh=> ?_;have:=Int.mul_le_mul_of_nonneg_left hh (Int.le_of_lt hb);omega
    omega
   omega
theorem ediv_bd{a b:Int}(hb:0<b):(0<=a->0<=a/b/\a/b<=a)/\(a<0->a<=a/b/\a/b<0):=by
 refine⟨fun h=>⟨Int.ediv_nonneg h (by omega),Int.ediv_le_self _ h⟩,fun h=>⟨?_,Int.ediv_neg_of_neg_of_pos h hb⟩⟩;exact Int.le_ediv_of_mul_le hb (by
  have:=Int.mul_nonneg (show 0<= -a by omega) (show 0<=b-1 by omega);rw[Int.mul_sub,Int.mul_one,Int.neg_mul]at this;omega)
end U
namespace Go.Proofs.YthkoabbiiadbjaaGreat
open Go Go.HL U
theorem floor_fin{a b:Int}{R:Res->Prop}(hr: -9223372036854775807<=a/\a<=9223372036854775807)(hb:0<b)(hq:R ⟨.ce (I6 (a/b)),false,[],[]⟩):b≠0/\(-9223372036854775808<=Int.tdiv a b/\Int.tdiv a b<=9223372036854775807)/\∀x1:Int,x1=Int.tdiv a b->b≠0/\∀x2:Int,x2=Int.tmod a b->(decide (x2<0)=true->(-9223372036854775808<=x1-1/\x1-1<=9223372036854775807)/\∀x3:Int,x3=x1-1->R ⟨.ce (I6 x3),false,[],[]⟩)/\(decide (x2<0)=false->R ⟨.ce (I6 x1),false,[],[]⟩):=by
 have⟨f1,f2⟩:=floor_of (a:=a) hb;have⟨g1,g2⟩:=ediv_bd (a:=a) hb;have hq1:a.tmod b<0∨0<=a.tmod b:=by omega
 have hh: -9223372036854775807<=a/b/\a/b<=9223372036854775807:=by
  by_cases ha:0<=a
  . have:=g1 ha;omega
  . have:=g2 (by omega);omega
 have ht:a.tdiv b=a/b∨a.tdiv b=a/b+1:=by omega
 have hpos:a<0->a/b<0:=fun h=>(g2 h).2;have hneg:a.tmod b<0->a<0:=fun h=>by
  refine Int.not_le.1 fun hh=> ?_;have:=Int.tmod_nonneg b hh;omega
 refine⟨by omega,by omega,fun x1 e1=>⟨by omega,fun x2 e2=>⟨fun k=> ?_,fun k=> ?_⟩⟩⟩
 . have k:=odt k;refine⟨by omega,fun x3 e3=> ?_⟩;rw[show x3=a/b by omega];exact hq
 . have k:=odf k;rw[show x1=a/b by omega];exact hq
theorem sFloor:Sound Tryz.prog 16 SFloor:=by
 refine sound_of (C:=CFloor) [] Tryz.func16 (by kernel_rfl) (by decide+kernel) (by kernel_rfl) rfl trivial (loops0 (by kernel_rfl)) ?_;intro hargs pars R h;unfold SFloor at h;split at h;case h_2=>exfalso;exact h
 rename_i a b;exact byVC (vcFloor a b R) (floor_fin h.1.1 h.1.2 h.2)
end Go.Proofs.YthkoabbiiadbjaaGreat
namespace U
theorem mul_bd2{a b A B:Int}(ha: -A<=a/\a<=A)(hb:0<=b/\b<=B): -(A*B)<=a*b/\a*b<=A*B:=by
 have hA:0<=A:=by omega
 have m1:A*b<=A*B:=Int.mul_le_mul_of_nonneg_left hb.2 hA;have m2:a*b<=A*b:=Int.mul_le_mul_of_nonneg_right ha.2 hb.1;have m3: -A*b<=a*b:=Int.mul_le_mul_of_nonneg_right ha.1 hb.1;rw[Int.neg_mul]at m3;omega
theorem stp_eq(st og sg:Int)(pit:LL)(p:Int):stp st (p+corr og sg pit p)=mot st og sg pit p:=rfl
theorem corr_empty{og sg:Int}{pit:LL}(p:Int)(h:pit.length=0):corr og sg pit p=0:=by unfold corr;rw[if_pos h]
theorem corr_lo{og sg p:Int}{pit:LL}(h:0<pit.length)(hs:0<sg)(hp:p<=og):corr og sg pit p=el pit 0:=by
 unfold corr cn;rw[if_neg (by omega),if_pos hp,corr_knot hs]
theorem corr_hi{og sg p:Int}{pit:LL}(h:0<pit.length)(hs:0<sg)(hp:og<p)(hl:(pit.length:Int)-1<=(p-og)/sg):corr og sg pit p=el pit (pit.length-1):=by
 unfold corr cn;rw[if_neg (by omega),if_neg (by omega),if_pos hl,corr_knot hs]
theorem corr_mid{og sg p:Int}{pit:LL}(h:0<pit.length)(hs:0<sg)(hp:og<p)(hl:(p-og)/sg<(pit.length:Int)-1):corr og sg pit p=el pit ((p-og)/sg).toNat+(2*((el pit (((p-og)/sg).toNat+1)-el pit ((p-og)/sg).toNat)*((p-og)%sg))+sg)/(2*sg):=by
 unfold corr cn;rw[if_neg (by omega),if_neg (by omega),if_neg (by omega)];generalize el pit ((p-og)/sg).toNat=v;generalize(el pit (((p-og)/sg).toNat+1)-v)*((p-og)%sg)=k;rw[show 2*(v*sg+k)+sg=(2*k+sg)+(2*sg)*v by grind,Int.add_mul_ediv_left _ _ (by omega),Int.add_comm]
theorem cn_bd{og sg:Int}{pit:LL}(h:okC og sg pit)(hl:0<pit.length)(p:Int): -4096*sg<=cn og sg pit p/\cn og sg pit p<=4096*sg:=by
 obtain⟨h1,h2,h3,h4,h5⟩:=h;have hs:=h1 hl;have one:∀v:Int,-4096<=v->v<=4096-> -4096*sg<=v*sg/\v*sg<=4096*sg:=fun v a b=>⟨Int.mul_le_mul_of_nonneg_right a (by omega),Int.mul_le_mul_of_nonneg_right b (by omega)⟩;unfold cn;by_cases c1:p<=og
 . rw[if_pos c1];have:=h5 0 hl;exact one _ this.1 this.2
 rw[if_neg c1];by_cases c2:(pit.length:Int)-1<=(p-og)/sg
 . rw[if_pos c2];have:=h5 (pit.length-1) (by omega);exact one _ this.1 this.2
 rw[if_neg c2];have i0:0<=(p-og)/sg:=Int.ediv_nonneg (by omega) (by omega);have a:=h5 ((p-og)/sg).toNat (by omega);have b:=h5 (((p-og)/sg).toNat+1) (by omega);have r0:=Int.emod_nonneg (p-og) (show sg≠0 by omega);have r1:=Int.emod_lt_of_pos (p-og) hs;generalize el pit ((p-og)/sg).toNat=v at*;generalize el pit (((p-og)/sg).toNat+1)=w at*;generalize(p-og)%sg=r at*;have e:v*sg+(w-v)*r=v*(sg-r)+w*r:=by grind
 rw[e];have m1: -4096*(sg-r)<=v*(sg-r):=Int.mul_le_mul_of_nonneg_right a.1 (by omega);have m2:v*(sg-r)<=4096*(sg-r):=Int.mul_le_mul_of_nonneg_right a.2 (by omega);have m3: -4096*r<=w*r:=Int.mul_le_mul_of_nonneg_right b.1 (by omega);have m4:w*r<=4096*r:=Int.mul_le_mul_of_nonneg_right b.2 (by omega);omega
theorem corr_bd{og sg:Int}{pit:LL}(h:okC og sg pit)(p:Int): -4096<=corr og sg pit p/\corr og sg pit p<=4096:=by
 unfold corr;by_cases hl:pit.length=0
 . rw[if_pos hl];omega
 rw[if_neg hl];have hs:=h.1 (by omega);have:=cn_bd h (by omega) p;generalize cn og sg pit p=a at*;refine⟨Int.le_ediv_of_mul_le (by omega) (by omega),Int.lt_add_one_iff.1 (Int.ediv_lt_of_lt_mul (by omega) (by omega))⟩
theorem stp_bd{st q:Int}(h:0<st)(hq: -1099511627776<=q/\q<=1099511627776): -2199023255552<=stp st q/\stp st q<=2199023255554:=by
 unfold stp;have e:=ediv_bd (a:=2*q+st) (b:=2*st) (by omega);by_cases hh:0<=2*q+st
 . have:=e.1 hh;refine⟨by omega,?_⟩;exact Int.lt_add_one_iff.1 (Int.ediv_lt_of_lt_mul (by omega) (by omega))
 . have:=e.2 (by omega);omega
end U
namespace Go.Proofs.YthkoabbiiadbjaaGreat
open Go Go.HL U
theorem sCorrect:Sound Tryz.prog 133 SCorrect:=by
 refine sound_of (C:=CCorrect) tabP1 Tryz.func133 (by kernel_rfl) (by decide+kernel) (by kernel_rfl) rfl ⟨sMulDiv,sFloor,trivial⟩ (loops0 (by kernel_rfl)) ?_;intro hargs pars R h;unfold SCorrect at h;split at h;case h_2=>exfalso;exact h
 rename_i st x1 x2 x3 x4 x5 x6 og sg pit p;obtain⟨⟨hc,hp1,hp2⟩,hq⟩:=h;obtain⟨h1,h2,h3,h4,h5⟩:=hc;refine byVC (vcCorrect st x1 x2 x3 x4 x5 x6 og sg p pit R) ⟨by omega,fun y1 e1=>⟨fun k=> ?_,fun k=> ?_⟩⟩
 . have k:=odt k;rw[corr_empty p (by omega)]at hq;exact hq
 have k:=odf k;have hs:=h1 (by omega);refine⟨by omega,fun y2 e2=>⟨fun k2=> ?_,fun k2=>⟨fun k3=> ?_,fun k3=> ?_⟩⟩⟩
 . have k2:=odt k2;refine⟨by omega,fun y3 e3=> ?_⟩;rw[corr_lo (by omega) hs (by omega)]at hq;rw[e3];exact hq
 . have k3:=odt k3;omega
 have k2:=odf k2;have ed:=ediv_bd (a:=y2) hs;have ed1:=ed.1 (by omega);have et:y2.tdiv sg=y2/sg:=Int.tdiv_eq_ediv_of_nonneg (by omega);rw[e2]at et ed1;rw[<-e2]at et;refine⟨by omega,by rw[et];omega,fun y5 e5=>⟨fun k4=> ?_,fun k4=> ?_⟩⟩
 . have k4:=odt k4;refine⟨by omega,fun y6 e6=> ?_⟩;rw[corr_hi (by omega) hs (by omega) (by rw[<-e2];omega)]at hq;rw[e6,show y1.toNat=pit.length-1 by omega];exact hq
 have k4:=odf k4;have hd:y5=(p-og)/sg:=by rw[<-e2];omega
 have hmod:=Int.mul_ediv_add_emod (p-og) sg;have r0:=Int.emod_nonneg (p-og) (show sg≠0 by omega);have r1:=Int.emod_lt_of_pos (p-og) hs;rw[corr_mid (by omega) hs (by omega) (by omega)]at hq;have bd:=corr_bd ⟨h1,h2,h3,h4,h5⟩ p;rw[corr_mid (by omega) hs (by omega) (by omega)]at bd;rw[<-hd]at hq bd hmod;generalize(p-og)%sg=r at*;have em:y5*sg=p-og-r:=by rw[Int.mul_comm];omega
 have a:=h5 y5.toNat (by omega);have b:=h5 (y5.toNat+1) (by omega);refine⟨by omega,fun y7 e7=>⟨by omega,fun y8 e8=>⟨by omega,fun y9 e9=> ?_⟩⟩⟩;rw[show y7.toNat=y5.toNat+1 by omega]at e8;rw[<-e9]at a hq bd;rw[<-e8]at b hq bd;refine⟨by omega,fun y10 e10=>⟨by omega,fun y11 e11=>⟨by omega,fun y12 e12=> ?_⟩⟩⟩;have er:y12=r:=by omega
 rw[<-e10]at hq bd;rw[<-er]at hq bd r0 r1;have pb:=mul_bd2 (a:=y10) (b:=y12) (A:=8192) (B:=16777216) (by omega) (by omega);refine⟨⟨by omega,by omega,by omega,by omega,by omega⟩,fun y13 e13 y14 _=>⟨by omega,fun y15 e15=> ?_⟩⟩;have e13':y13=(2*(y10*y12)+sg)/(2*sg):=by rw[e13];unfold mdv;simp
 rw[<-e13']at hq bd;rw[<-e9]at e15;refine⟨by omega,fun y16 e16=> ?_⟩;rw[e16,e15];exact hq
theorem sSteps:Sound Tryz.prog 132 SSteps:=by
 refine sound_of (C:=CSteps) tabP1 Tryz.func132 (by kernel_rfl) (by decide+kernel) (by kernel_rfl) rfl ⟨sMulDiv,sFloor,trivial⟩ (loops0 (by kernel_rfl)) ?_;intro hargs pars R h;unfold SSteps at h;split at h;case h_2=>exfalso;exact h
 rename_i st x1 x2 x3 x4 x5 x6 og sg pit p;obtain⟨⟨h1,h2⟩,hq⟩:=h;refine byVC (vcSteps st x1 x2 x3 x4 x5 x6 og sg p pit R) ⟨fun k=> ?_,fun k=> ?_⟩
 . have k:=odt k;omega
 refine⟨by omega,fun y1 e1=>⟨by omega,fun y2 e2=>⟨by omega,fun y3 e3=>⟨fun k=> ?_,fun k=> ?_⟩⟩⟩⟩
 . have k:=odt k;omega
 have hq:R ⟨.ce (I6 (y2/y3)),false,[],[]⟩:=by rw[e2,e1,e3];exact hq
 exact floor_fin (by omega) (by omega) hq
theorem sMotor:Sound Tryz.prog 105 SMotor:=by
 refine sound_of (C:=CMotor) tabP2 Tryz.func105 (by kernel_rfl) (by decide+kernel) (by kernel_rfl) rfl ⟨sCorrect,sSteps,trivial⟩ (loops0 (by kernel_rfl)) ?_;intro hargs pars R h;unfold SMotor at h;split at h;case h_2=>exfalso;exact h
 rename_i st x1 x2 x3 x4 x5 x6 og sg pit p;obtain⟨⟨h1,h2,h3⟩,hq⟩:=h;have bd:=corr_bd h2 p;refine byVC (vcMotor st x1 x2 x3 x4 x5 x6 og sg p pit R) ⟨⟨h2,h3⟩,fun y1 e1=> ?_⟩;rw[<-e1]at bd;refine⟨by omega,fun y2 e2=>⟨⟨h1,by omega⟩,fun y3 e3=> ?_⟩⟩;rw[e3,e2,e1,stp_eq];exact hq
end Go.Proofs.YthkoabbiiadbjaaGreat
namespace U
open Go
def plen:LL->Int
 |[]=>0
 |r::l=>r.getD 3 0+plen l
def lfA:LL->Int->Int->Int×Int
 |[],_,_=>(-1,0)
 |r::l,i,s=>if s<r.getD 3 0 then(i,s)else lfA l (i+1) (s-r.getD 3 0)
def pfind(sg:LL)(s:Int):Int×Int:=if sg.length=0 then(-1,0)else if 0<=(lfA sg 0 (max s 0)).1 then lfA sg 0 (max s 0)else((sg.length:Int)-1,ec sg (sg.length-1) 3)
def okLen(sg:LL):Prop:=sg.length<=1048576/\∀j,j<sg.length->1<=ec sg j 3/\ec sg j 3<=4294967296
def okPts(s0 s1 s2:Int)(sg:LL):Prop:=(-536870912<=s0/\s0<=536870912)/\(-536870912<=s1/\s1<=536870912)/\(-536870912<=s2/\s2<=536870912)/\∀j,j<sg.length->(-536870912<=ec sg j 0/\ec sg j 0<=536870912)/\(-536870912<=ec sg j 1/\ec sg j 1<=536870912)/\(-536870912<=ec sg j 2/\ec sg j 2<=536870912)
def bgn(s:Int)(sg:LL)(c:Nat)(i:Int):Int:=if i<=0 then s else ec sg (i-1).toNat c
def rnd(a b:Int):Int:=(2*a+b)/(2*b)
def ptAt(s:Int)(sg:LL)(c:Nat)(p:Int):Int:=if(pfind sg p).1<0 then s else bgn s sg c (pfind sg p).1+rnd ((ec sg (pfind sg p).1.toNat c-bgn s sg c (pfind sg p).1)*(pfind sg p).2) (ec sg (pfind sg p).1.toNat 3)
end U
namespace Go.Proofs.YthkoabbiiadbjaaGreat
open Go Go.HL U
def SPLen(hA:List HV)(pA:List (List HC)):SR:=match hA,pA with
 |[.agg [.int .i64 s0, .int .i64 s1, .int .i64 s2, .sl false [4,4,4,4,4,4,4] sg, .sl false [4,4,4] mk]],[]=> .det (okLen sg) ⟨.ce (I6 (plen sg)),false,[],[]⟩
 |_,_=> .fail
def anLen:LAnn:=⟨[1,2,3,7,8,9],[1,2,3],[1000001],false⟩
def LLen(v:LV):LR:=match v with
 |([.ce (.ptr 1000001 0), .ce (.int .i64 z), .ce (.int .i64 t), .ce (.sl false [4,4,4,4,4,4,4] l), .ce (.int .i64 n), .ce (.int .i64 i)],[[.int .i64 s0, .int .i64 s1, .int .i64 s2, .sl false [4,4,4,4,4,4,4] sg, .sl false [4,4,4] mk]])=> .det (n=l.length/\i=0/\t=0/\okLen l) (.exit 0) ([.ce (.ptr 1000001 0), .ce (I6 z), .ce (I6 (plen l))],[[I6 s0,I6 s1,I6 s2, .sl false [4,4,4,4,4,4,4] sg, .sl false [4,4,4] mk]])
 |_=> .fail
noncomputable def CPLen:Ctx:=⟨Tryz.prog,gam [],Tryz.f23.ntmps,[(3,anLen,LLen)],[]⟩
theorem vbPLen(s0 s1 s2 z t n i:Int)(sg mk l:LL)(K:HEx->LV->Prop):(nbodyT true CPLen anLen (nthLoop Tryz.f23 0) (([.ce (.ptr 1000001 0), .ce (I6 z), .ce (I6 t), .ce (.sl false [4,4,4,4,4,4,4] l), .ce (I6 n), .ce (I6 i)],[[I6 s0,I6 s1,I6 s2, .sl false [4,4,4,4,4,4,4] sg, .sl false [4,4,4] mk]])) K)=(Br (i<n) ((0<=i/\i<(l.length:Int))/\R6 (t+ec l i.toNat 3)/\∀x1,x1=t+ec l i.toNat 3->R6 (i+1)/\∀x2,x2=i+1->K .normal ([.ce (.ptr 1000001 0), .ce (I6 z), .ce (I6 x1), .ce (.sl false [4,4,4,4,4,4,4] l), .ce (I6 n), .ce (I6 x2)],[[I6 s0,I6 s1,I6 s2, .sl false [4,4,4,4,4,4,4] sg, .sl false [4,4,4] mk]])) (K (.exit 0) ([.ce (.ptr 1000001 0), .ce (I6 z), .ce (I6 t)],[[I6 s0,I6 s1,I6 s2, .sl false [4,4,4,4,4,4,4] sg, .sl false [4,4,4] mk]]))):=by kernel_rfl
theorem vcPLen(s0 s1 s2:Int)(sg mk:LL)(Q:Res->Prop):(nfun true CPLen Tryz.f23 (bodyOf Tryz.f23) [.agg [I6 s0,I6 s1,I6 s2, .sl false [4,4,4,4,4,4,4] sg, .sl false [4,4,4] mk]] [] Q)=(((sg.length:Int)=(sg.length:Int)/\(0:Int)=0/\(0:Int)=0/\okLen sg)/\Q ⟨.ce (I6 (plen sg)),false,[],[]⟩):=by kernel_rfl
def SPFind(hA:List HV)(pA:List (List HC)):SR:=match hA,pA with
 |[.agg [.int .i64 s0, .int .i64 s1, .int .i64 s2, .sl false [4,4,4,4,4,4,4] sg, .sl false [4,4,4] mk], .ce (.int .i64 p)],[]=> .all (okLen sg/\p<=4611686018427387904) (Int×Int) (fun x=>x=pfind sg p) (fun x=>⟨.tup [.ce (I6 x.1), .ce (I6 x.2)],false,[],[]⟩)
 |_,_=> .fail
def anPF:LAnn:=⟨[1,2,4,5,11,12,13],[2,4,5],[1000002],false⟩
def LPF(v:LV):LR:=match v with
 |([.ce (.int .i64 p), .ce (.ptr 1000002 0), .ce (.int .i64 z), .ce (.int .i64 y), .ce (.sl false [4,4,4,4,4,4,4] l), .ce (.int .i64 n), .ce (.int .i64 i)],[[.int .i64 s0, .int .i64 s1, .int .i64 s2, .sl false [4,4,4,4,4,4,4] sg, .sl false [4,4,4] mk]])=> .alts (n=l.length/\i=0/\(0<=p/\p<=4611686018427387904)/\l=sg/\okLen l) [(l.length=0, .exit 0,([.ce (.ptr 1000002 0), .ce (I6 z), .ce (I6 y)],[[I6 s0,I6 s1,I6 s2, .sl false [4,4,4,4,4,4,4] sg, .sl false [4,4,4] mk]])),(0<l.length, .ret,([.ce (.ptr 1000002 0), .ce (I6 (pfind l p).1), .ce (I6 (pfind l p).2)],[[I6 s0,I6 s1,I6 s2, .sl false [4,4,4,4,4,4,4] sg, .sl false [4,4,4] mk]]))]
 |_=> .fail
noncomputable def CPFind:Ctx:=⟨Tryz.prog,gam [],Tryz.f118.ntmps,[(3,anPF,LPF)],[]⟩
theorem vbPFind(s0 s1 s2 p z y n i:Int)(sg mk l:LL)(K:HEx->LV->Prop):(nbodyT true CPFind anPF (nthLoop Tryz.f118 0) (([.ce (I6 p), .ce (.ptr 1000002 0), .ce (I6 z), .ce (I6 y), .ce (.sl false [4,4,4,4,4,4,4] l), .ce (I6 n), .ce (I6 i)],[[I6 s0,I6 s1,I6 s2, .sl false [4,4,4,4,4,4,4] sg, .sl false [4,4,4] mk]])) K)=(Br (i<n) ((0<=i/\i<(l.length:Int))/\Br (p<ec l i.toNat 3) (K .ret ([.ce (.ptr 1000002 0), .ce (I6 i), .ce (I6 p)],[[I6 s0,I6 s1,I6 s2, .sl false [4,4,4,4,4,4,4] sg, .sl false [4,4,4] mk]])) (R6 ((sg.length:Int)-1)/\∀x1,x1=(sg.length:Int)-1->Bb (i==x1) (K .ret ([.ce (.ptr 1000002 0), .ce (I6 i), .ce (I6 (ec l i.toNat 3))],[[I6 s0,I6 s1,I6 s2, .sl false [4,4,4,4,4,4,4] sg, .sl false [4,4,4] mk]])) (R6 (p-ec l i.toNat 3)/\∀x2,x2=p-ec l i.toNat 3->R6 (i+1)/\∀x3,x3=i+1->K .normal ([.ce (I6 x2), .ce (.ptr 1000002 0), .ce (I6 z), .ce (I6 y), .ce (.sl false [4,4,4,4,4,4,4] l), .ce (I6 n), .ce (I6 x3)],[[I6 s0,I6 s1,I6 s2, .sl false [4,4,4,4,4,4,4] sg, .sl false [4,4,4] mk]])))) (K (.exit 0) ([.ce (.ptr 1000002 0), .ce (I6 z), .ce (I6 y)],[[I6 s0,I6 s1,I6 s2, .sl false [4,4,4,4,4,4,4] sg, .sl false [4,4,4] mk]]))):=by kernel_rfl
theorem vcPFind(s0 s1 s2 p:Int)(sg mk:LL)(Q:Res->Prop):(nfun true CPFind Tryz.f118 (bodyOf Tryz.f118) [.agg [I6 s0,I6 s1,I6 s2, .sl false [4,4,4,4,4,4,4] sg, .sl false [4,4,4] mk], .ce (I6 p)] [] Q)=(∀x1,x1=max p 0->((sg.length:Int)=(sg.length:Int)/\(0:Int)=0/\(0<=x1/\x1<=4611686018427387904)/\sg=sg/\okLen sg)/\(sg.length=0->Q ⟨.tup [.ce (I6 (-1)), .ce (I6 0)],false,[],[]⟩)/\((0:Nat)<sg.length->Q ⟨.tup [.ce (I6 (pfind sg x1).1), .ce (I6 (pfind sg x1).2)],false,[],[]⟩)):=by kernel_rfl
def SBegin(hA:List HV)(pA:List (List HC)):SR:=match hA,pA with
 |[.agg [.int .i64 s0, .int .i64 s1, .int .i64 s2, .sl false [4,4,4,4,4,4,4] sg, .sl false [4,4,4] mk], .ce (.int .i64 i)],[]=> .det (i<=sg.length/\sg.length<=1073741824) ⟨.agg [I6 (bgn s0 sg 0 i),I6 (bgn s1 sg 1 i),I6 (bgn s2 sg 2 i)],false,[],[]⟩
 |_,_=> .fail
noncomputable def CBegin:Ctx:=⟨Tryz.prog,gam [],Tryz.f94.ntmps,[],[]⟩
theorem vcBegin(s0 s1 s2 i:Int)(sg mk:LL)(Q:Res->Prop):(nfun true CBegin Tryz.f94 (bodyOf Tryz.f94) [.agg [I6 s0,I6 s1,I6 s2, .sl false [4,4,4,4,4,4,4] sg, .sl false [4,4,4] mk], .ce (I6 i)] [] Q)=(Br (i<=0) (Q ⟨.agg [I6 s0,I6 s1,I6 s2],false,[],[]⟩) (R6 (i-1)/\∀x1,x1=i-1->(0<=x1/\x1<(sg.length:Int))/\Q ⟨.agg [I6 (el sg x1.toNat),I6 (ec sg x1.toNat 1),I6 (ec sg x1.toNat 2)],false,[],[]⟩)):=by kernel_rfl
def SRnd(hA:List HV)(pA:List (List HC)):SR:=match hA,pA with
 |[.ce (.int .i64 a), .ce (.int .i64 b)],[]=> .det (-2305843009213693952<=a/\a<=2305843009213693952/\0<b/\b<=2305843009213693952) ⟨.ce (I6 (rnd a b)),false,[],[]⟩
 |_,_=> .fail
noncomputable def CRnd:Ctx:=⟨Tryz.prog,gam [],Tryz.f87.ntmps,[],[]⟩
theorem vcRnd(a b:Int)(Q:Res->Prop):(nfun true CRnd Tryz.f87 (bodyOf Tryz.f87) [.ce (I6 a), .ce (I6 b)] [] Q)=(R6 (2*a)/\∀x1,x1=2*a->R6 (x1+b)/\∀x2,x2=x1+b->R6 (2*b)/\∀x3,x3=2*b->x3≠0/\R6 (Int.tdiv x2 x3)/\∀x4,x4=Int.tdiv x2 x3->x3≠0/\∀x5,x5=Int.tmod x2 x3->Br (x5<0) (R6 (x4-1)/\∀x6,x6=x4-1->Q ⟨.ce (I6 x6),false,[],[]⟩) (Q ⟨.ce (I6 x4),false,[],[]⟩)):=by kernel_rfl
end Go.Proofs.YthkoabbiiadbjaaGreat
namespace U
theorem plen_append(a b:LL):plen (a++b)=plen a+plen b:=by
 induction a with
 |nil=>simp[plen]
 |cons r a ih=>simp only[List.cons_append,plen,ih];omega
theorem take_next{α:Type}(l:List α){k:Nat}(hk:k<l.length)(d:α):l.take (k+1)=l.take k++[l.getD k d]:=by
 rw[List.take_add_one,List.getElem?_eq_getElem hk];simp[List.getD_eq_getElem?_getD,hk]
theorem drop_next{α:Type}(l:List α){k:Nat}(hk:k<l.length)(d:α):l.drop k=l.getD k d::l.drop (k+1):=by
 rw[List.drop_eq_getElem_cons hk];simp[List.getD_eq_getElem?_getD,hk]
theorem plen_next(l:LL){k:Nat}(hk:k<l.length):plen (l.take (k+1))=plen (l.take k)+ec l k 3:=by
 rw[take_next l hk [],plen_append];simp[plen,ec]
theorem plen_bd{l:LL}(h:okLen l):∀k,k<=l.length->(k:Int)<=plen (l.take k)/\plen (l.take k)<=4294967296*(k:Int):=by
 intro k;induction k with
 |zero=>intro _;simp[plen]
 |succ k ih=>
  intro hk;have h1:=ih (by omega);have h2:=h.2 k (by omega);rw[plen_next l (by omega)];omega
theorem plen_le{l:LL}(h:okLen l):0<=plen l/\plen l<=4503599627370496:=by
 have h1:=plen_bd h l.length (Nat.le_refl _);rw[List.take_length]at h1;have:=h.1;omega
theorem lfA_cons{l:LL}{k:Nat}(hk:k<l.length)(i s:Int):lfA (l.drop k) i s=if s<ec l k 3 then(i,s)else lfA (l.drop (k+1)) (i+1) (s-ec l k 3):=by
 rw[drop_next l hk []];rfl
end U
namespace Go.Proofs.YthkoabbiiadbjaaGreat
open Go Go.HL U
attribute [local irreducible] hfun bodyT fragT
theorem loopPLen:∀v Q,(LLen v).wp Q->hloop CPLen anLen (nthLoop Tryz.f23 0) v Q:=by
 intro v Q h;unfold LLen at h;split at h;case h_2=>exact h.elim
 rename_i z t l n i s0 s1 s2 sg mk;obtain⟨⟨hn,hi,ht,hl⟩,hq⟩:=h;subst hn hi ht;refine hloop_rec (σ:=Nat) (fun k=>([.ce (.ptr 1000001 0), .ce (I6 z), .ce (I6 (plen (l.take k))), .ce (.sl false [4,4,4,4,4,4,4] l), .ce (I6 (l.length:Int)), .ce (I6 (k:Int))],[[I6 s0,I6 s1,I6 s2, .sl false [4,4,4,4,4,4,4] sg, .sl false [4,4,4] mk]])) (fun k=>l.length-k) (fun k=>k<=l.length) ?_ 0 (Nat.zero_le _);intro k hk K hn hx _;have hb:=plen_bd hl k hk;have hl1:=hl.1;refine byVB (vbPLen s0 s1 s2 z (plen (l.take k)) l.length k sg mk l K) ⟨fun g=> ?_,fun g=> ?_⟩
 . have g:=odt g;have hkl:k<l.length:=by omega
   have h2:=hl.2 k hkl;have ht:Int.toNat (k:Int)=k:=rfl;rw[ht];refine⟨by omega,by omega,fun x1 e1=>⟨by omega,fun x2 e2=> ?_⟩⟩;have:=hn (k+1) hkl (by omega);rw[plen_next l hkl]at this;rw[e1,e2];exact this
 . have g:=odf g;have hkl:k=l.length:=by omega
   have:=hx 0 _ hq;rw[hkl,List.take_length];exact this
theorem sPLen:Sound Tryz.prog 23 SPLen:=by
 refine sound_of (C:=CPLen) [] Tryz.func23 (by kernel_rfl) (by decide+kernel) (by kernel_rfl) rfl trivial (loops1 (by kernel_rfl) (loopOK_of (an:=anLen) (S:=LLen) (by kernel_rfl) loopPLen)) ?_;intro hA pA R h;unfold SPLen at h;split at h;case h_2=>exfalso;exact h
 rename_i s0 s1 s2 sg mk;exact byVC (vcPLen s0 s1 s2 sg mk R) ⟨⟨rfl,rfl,rfl,h.1⟩,h.2⟩
theorem loopPFind:∀v Q,(LPF v).wp Q->hloop CPFind anPF (nthLoop Tryz.f118 0) v Q:=by
 intro v Q h;unfold LPF at h;split at h;case h_2=>exact h.elim
 rename_i p z y l n i s0 s1 s2 sg mk;obtain⟨⟨hn,hi,⟨hp,hpu⟩,hls,hl⟩,hq0,hq1⟩:=h;subst hn hi hls;refine hloop_rec (σ:=Nat×Int) (fun s=>([.ce (I6 s.2), .ce (.ptr 1000002 0), .ce (I6 z), .ce (I6 y), .ce (.sl false [4,4,4,4,4,4,4] l), .ce (I6 (l.length:Int)), .ce (I6 (s.1:Int))],[[I6 s0,I6 s1,I6 s2, .sl false [4,4,4,4,4,4,4] l, .sl false [4,4,4] mk]])) (fun s=>l.length-s.1) (fun s=>s.1<=l.length/\(s.1=l.length->s.1=0)/\0<=s.2/\s.2<=p/\lfA l 0 p=lfA (l.drop s.1) s.1 s.2) ?_ (0,p) ⟨Nat.zero_le _,fun _=>rfl,hp,Int.le_refl _,by simp⟩;rintro⟨k,p'⟩⟨hk,hk0,hp',hpp,he⟩K hn hx hr;dsimp only at hk hk0 hp' hpp he hn⊢;have hl1:=hl.1;have hl1:=hl.1;have fnd:∀x:Int×Int,0<=x.1->lfA l 0 p=x->0<l.length->pfind l p=x:=by
  intro x h0 hx hlen;unfold pfind;rw[if_neg (by omega),show max p 0=p by omega,hx,if_pos h0]
 have lst:lfA l 0 p=(-1,0)->0<l.length->pfind l p=((l.length:Int)-1,ec l (l.length-1) 3):=by
  intro hx hlen;unfold pfind;rw[if_neg (by omega),show max p 0=p by omega,hx,if_neg (by decide)]
 have ht:Int.toNat (k:Int)=k:=rfl;refine byVB (vbPFind s0 s1 s2 p' z y l.length k l mk l K) ⟨fun g=> ?_,fun g=> ?_⟩
 . have g:=odt g;have hkl:k<l.length:=by omega
   have hh:=hl.2 k hkl;rw[ht];rw[lfA_cons hkl]at he;refine⟨by omega,fun g2=> ?_,fun g2=>⟨by omega,fun x1 e1=>⟨fun g3=> ?_,fun g3=> ?_⟩⟩⟩
   . have g2:=odt g2;rw[if_pos g2]at he;have e:=fnd _ (by dsimp only;omega) he (by omega);have:=hr _ (hq1 (by omega));rw[e]at this;exact this
   . have g2:=odf g2;have g3:(k:Int)=x1:=by simpa using g3
     rw[if_neg g2,List.drop_eq_nil_of_le (by omega)]at he;have e:=lst he (by omega);have:=hr _ (hq1 (by omega));rw[e]at this;rw[show(l.length:Int)-1=(k:Int)by omega,show l.length-1=k by omega]at this;exact this
   . have g2:=odf g2;have g3:¬(k:Int)=x1:=by simpa using g3
     rw[if_neg g2]at he;refine⟨by omega,fun x2 e2=>⟨by omega,fun x3 e3=> ?_⟩⟩;subst e2 e3;exact hn (k+1,p'-ec l k 3) ⟨hkl,fun e=>by dsimp only at e;omega,by dsimp only;omega,by dsimp only;omega,he⟩ (by dsimp only;omega)
 . have g:=odf g;have h0:=hk0 (by omega);exact hx 0 _ (hq0 (by omega))
theorem sPFind:Sound Tryz.prog 118 SPFind:=by
 refine sound_of (C:=CPFind) [] Tryz.func118 (by kernel_rfl) (by decide+kernel) (by kernel_rfl) rfl trivial (loops1 (by kernel_rfl) (loopOK_of (an:=anPF) (S:=LPF) (by kernel_rfl) loopPFind)) ?_;intro hA pA R h;unfold SPFind at h;split at h;case h_2=>exfalso;exact h
 rename_i s0 s1 s2 sg mk p;obtain⟨⟨hl,hpu⟩,_,hq⟩:=h;refine byVC (vcPFind s0 s1 s2 p sg mk R) (fun x1 e1=>⟨⟨rfl,rfl,⟨by omega,by omega⟩,rfl,hl⟩,fun h0=> ?_,fun h0=> ?_⟩)
 . have e:pfind sg p=(-1,0):=by unfold pfind;rw[if_pos h0]
   have:=hq _ rfl;rw[e]at this;exact this
 . have e:pfind sg x1=pfind sg p:=by unfold pfind;rw[e1,show max (max p 0) 0=max p 0 by omega]
   rw[e];exact hq _ rfl
theorem sBegin:Sound Tryz.prog 94 SBegin:=by
 refine sound_of (C:=CBegin) [] Tryz.func94 (by kernel_rfl) (by decide+kernel) (by kernel_rfl) rfl trivial (loops0 (by kernel_rfl)) ?_;intro hA pA R h;unfold SBegin at h;split at h;case h_2=>exfalso;exact h
 rename_i s0 s1 s2 sg mk i;obtain⟨⟨h1,h2⟩,hq⟩:=h;refine byVC (vcBegin s0 s1 s2 i sg mk R) ⟨fun g=> ?_,fun g=> ?_⟩
 . have g:=odt g;unfold bgn at hq;rw[if_pos g,if_pos g,if_pos g]at hq;exact hq
 . have g:=odf g;unfold bgn at hq;rw[if_neg g,if_neg g,if_neg g]at hq;refine⟨by omega,fun x1 e1=>⟨by omega,?_⟩⟩;rw[e1];exact hq
theorem sRnd:Sound Tryz.prog 87 SRnd:=by
 refine sound_of (C:=CRnd) [] Tryz.func87 (by kernel_rfl) (by decide+kernel) (by kernel_rfl) rfl trivial (loops0 (by kernel_rfl)) ?_;intro hA pA R h;unfold SRnd at h;split at h;case h_2=>exfalso;exact h
 rename_i a b;obtain⟨⟨h1,h2,h3,h4⟩,hq⟩:=h;refine byVC (vcRnd a b R) ⟨by omega,fun x1 e1=>⟨by omega,fun x2 e2=>⟨by omega,fun x3 e3=> ?_⟩⟩⟩;have hq:R ⟨.ce (I6 (x2/x3)),false,[],[]⟩:=by rw[e2,e1,e3];exact hq
 exact floor_fin (by omega) (by omega) hq
end Go.Proofs.YthkoabbiiadbjaaGreat
namespace U
open Go
def pm(x:Int):Prop:=x=1∨x= -1
def sq3(a0 a1 a2 b0 b1 b2:Int):Int:=(a0-b0)*(a0-b0)+(a1-b1)*(a1-b1)+(a2-b2)*(a2-b2)
def rootOK(n q b:Int):Prop:=(0<=n/\n<=1152921504606846976)/\(0<=q/\q<=2147483648)/\q*q<=n/\((b=0/\n<(q+1)*(q+1))∨∃k:Nat,k<=30/\b=2^k/\n<(q+2*b)*(q+2*b))
def b3(B a0 a1 a2:Int):Prop:=(-B<=a0/\a0<=B)/\(-B<=a1/\a1<=B)/\(-B<=a2/\a2<=B)
def isLen(a0 a1 a2 b0 b1 b2 l:Int):Prop:=(-l<=a0-b0/\a0-b0<=l)/\(-l<=a1-b1/\a1-b1<=l)/\(-l<=a2-b2/\a2-b2<=l)/\∀D,0<=D->b3 D (a0-b0) (a1-b1) (a2-b2)->l<=2*D
end U
namespace Go.Proofs.YthkoabbiiadbjaaGreat
open Go Go.HL U
def SFine(hA:List HV)(pA:List (List HC)):SR:=match hA,pA with
 |[.agg [.int .i64 p0, .int .i64 p1, .int .i64 p2]],[]=> .det (b3 1073741824 p0 p1 p2) ⟨.agg [I6 (p0*16),I6 (p1*16),I6 (p2*16)],false,[],[]⟩
 |_,_=> .fail
noncomputable def CFine:Ctx:=⟨Tryz.prog,gam [],Tryz.f47.ntmps,[],[]⟩
theorem vcFine(p0 p1 p2:Int)(Q:Res->Prop):(nfun true CFine Tryz.f47 (bodyOf Tryz.f47) [.agg [I6 p0,I6 p1,I6 p2]] [] Q)=(R6 (p0*16)/\∀x1,x1=p0*16->R6 (p1*16)/\∀x2,x2=p1*16->R6 (p2*16)/\∀x3,x3=p2*16->Q ⟨.agg [I6 x1,I6 x2,I6 x3],false,[],[]⟩):=by kernel_rfl
def SSquare(hA:List HV)(pA:List (List HC)):SR:=match hA,pA with
 |[.agg [.int .i64 a0, .int .i64 a1, .int .i64 a2], .agg [.int .i64 c0, .int .i64 c1, .int .i64 c2]],[]=> .det (b3 268435456 a0 a1 a2/\b3 268435456 c0 c1 c2) ⟨.ce (I6 (sq3 a0 a1 a2 c0 c1 c2)),false,[],[]⟩
 |_,_=> .fail
noncomputable def CSquare:Ctx:=⟨Tryz.prog,gam [],Tryz.f92.ntmps,[(4000003,⟨[],[5],[1000002,1000003],true⟩,fun _=> .fail)],[]⟩
theorem vcSquare(a0 a1 a2 c0 c1 c2:Int)(Q:Res->Prop):(nfun true CSquare Tryz.f92 (bodyOf Tryz.f92) [.agg [I6 a0,I6 a1,I6 a2], .agg [I6 c0,I6 c1,I6 c2]] [] Q)=(R6 (a0-c0)/\∀x1,x1=a0-c0->R6 (a0-c0)/\∀x2,x2=a0-c0->R6 (x1*x2)/\∀x3,x3=x1*x2->(-9223372036854775808<=0+x3/\(0:Int)+x3<=9223372036854775807)/\∀x4,x4=0+x3->R6 (a1-c1)/\∀x5,x5=a1-c1->R6 (a1-c1)/\∀x6,x6=a1-c1->R6 (x5*x6)/\∀x7,x7=x5*x6->R6 (x4+x7)/\∀x8,x8=x4+x7->R6 (a2-c2)/\∀x9,x9=a2-c2->(-9223372036854775808<=a2-c2/\a2-c2<=9223372036854775807)/\∀x10,x10=a2-c2->R6 (x9*x10)/\∀x11,x11=x9*x10->R6 (x8+x11)/\∀x12,x12=x8+x11->Q ⟨.ce (I6 x12),false,[],[]⟩):=by kernel_rfl
def SRoot(hA:List HV)(pA:List (List HC)):SR:=match hA,pA with
 |[.ce (.int .i64 n)],[]=> .all (0<=n/\n<=1152921504606846976) Int (fun q=>0<=q/\q*q<=n/\n<(q+1)*(q+1)) (fun q=>⟨.ce (I6 q),false,[],[]⟩)
 |_,_=> .fail
def anRoot:LAnn:=⟨[0,2,3,4],[2,3],[],false⟩
def LRoot(v:LV):LR:=match v with
 |([.ce (.int .i64 n), .ce (.int .i64 z), .ce (.int .i64 q), .ce (.int .i64 b)],[])=> .all (rootOK n q b) Int (fun x=>0<=x/\x*x<=n/\n<(x+1)*(x+1)) (fun _=> .exit 0) (fun x=>([.ce (I6 z), .ce (I6 x)],[]))
 |_=> .fail
noncomputable def CRoot:Ctx:=⟨Tryz.prog,gam [],Tryz.f93.ntmps,[(3,anRoot,LRoot)],[]⟩
theorem vbRoot(n z q b:Int)(K:HEx->LV->Prop):(nbodyT true CRoot anRoot (nthLoop Tryz.f93 0) (([.ce (I6 n), .ce (I6 z), .ce (I6 q), .ce (I6 b)],[])) K)=(Br (b>0) (R6 (q+b)/\∀x1,x1=q+b->R6 (q+b)/\∀x2,x2=q+b->R6 (x1*x2)/\∀x3,x3=x1*x2->Br (x3<=n) (R6 (q+b)/\∀x4,x4=q+b->(0:Int)<=1/\∀x5,x5=b/2->K .normal ([.ce (I6 n), .ce (I6 z), .ce (I6 x4), .ce (I6 x5)],[])) ((0:Int)<=1/\∀x6,x6=b/2->K .normal ([.ce (I6 n), .ce (I6 z), .ce (I6 q), .ce (I6 x6)],[]))) (K (.exit 0) ([.ce (I6 z), .ce (I6 q)],[]))):=by kernel_rfl
theorem vcRoot(n:Int)(Q:Res->Prop):(nfun true CRoot Tryz.f93 (bodyOf Tryz.f93) [.ce (I6 n)] [] Q)=(rootOK n (0:Int) (1073741824:Int)/\∀(x:Int),0<=x/\x*x<=n/\n<(x+1)*(x+1)->Q ⟨.ce (I6 x),false,[],[]⟩):=by kernel_rfl
def SLength(hA:List HV)(pA:List (List HC)):SR:=match hA,pA with
 |[.agg [.int .i64 a0, .int .i64 a1, .int .i64 a2], .agg [.int .i64 c0, .int .i64 c1, .int .i64 c2]],[]=> .all (b3 268435456 a0 a1 a2/\b3 268435456 c0 c1 c2) Int (isLen a0 a1 a2 c0 c1 c2) (fun x=>⟨.ce (I6 x),false,[],[]⟩)
 |_,_=> .fail
def tabLength:List (FuncId×HL.Spec):=[(92,SSquare),(93,SRoot)]
noncomputable def CLength:Ctx:=⟨Tryz.prog,gam tabLength,Tryz.f51.ntmps,[],[]⟩
theorem vcLength(a0 a1 a2 c0 c1 c2:Int)(Q:Res->Prop):(nfun true CLength Tryz.f51 (bodyOf Tryz.f51) [.agg [I6 a0,I6 a1,I6 a2], .agg [I6 c0,I6 c1,I6 c2]] [] Q)=((b3 268435456 a0 a1 a2/\b3 268435456 c0 c1 c2)/\∀x1,x1=sq3 a0 a1 a2 c0 c1 c2->(0<=x1/\x1<=1152921504606846976)/\(∃(x:Int),0<=x/\x*x<=x1/\x1<(x+1)*(x+1))/\∀(x:Int),0<=x/\x*x<=x1/\x1<(x+1)*(x+1)->R6 (x*x)/\∀x3,x3=x*x->Br (x3<x1) (R6 (x+1)/\∀x4,x4=x+1->Q ⟨.ce (I6 x4),false,[],[]⟩) (Q ⟨.ce (I6 x),false,[],[]⟩)):=by kernel_rfl
def SSmall(hA:List HV)(pA:List (List HC)):SR:=match hA,pA with
 |[.agg [.int .i64 p0, .int .i64 p1, .int .i64 p2], .ce (.int .i64 m)],[]=> .det (0<=m/\m<=1073741824/\b3 m p0 p1 p2) ⟨.ce (.bool true),false,[],[]⟩
 |_,_=> .fail
noncomputable def CSmall:Ctx:=⟨Tryz.prog,gam [],Tryz.f149.ntmps,[(4000002,⟨[],[4],[1000002],true⟩,fun _=> .fail)],[]⟩
theorem vcSmall(p0 p1 p2 m:Int)(Q:Res->Prop):(nfun true CSmall Tryz.f149 (bodyOf Tryz.f149) [.agg [I6 p0,I6 p1,I6 p2], .ce (I6 m)] [] Q)=(R6 (0-m)/\∀x1,x1=0-m->Br (p0<x1) (Q ⟨.ce (.bool false),false,[],[]⟩) (Br (p0>m) (Q ⟨.ce (.bool false),false,[],[]⟩) (R6 (0-m)/\∀x2,x2=0-m->Br (p1<x2) (Q ⟨.ce (.bool false),false,[],[]⟩) (Br (p1>m) (Q ⟨.ce (.bool false),false,[],[]⟩) (R6 (0-m)/\∀x3,x3=0-m->Br (p2<x3) (Q ⟨.ce (.bool false),false,[],[]⟩) (Br (p2>m) (Q ⟨.ce (.bool false),false,[],[]⟩) (Q ⟨.ce (.bool true),false,[],[]⟩))))))):=by kernel_rfl
def SWithin(hA:List HV)(pA:List (List HC)):SR:=match hA,pA with
 |[.agg [.int .i64 p0, .int .i64 p1, .int .i64 p2]],[]=> .det (b3 1048576 p0 p1 p2) ⟨.ce (.bool true),false,[],[]⟩
 |_,_=> .fail
def tabWithin:List (FuncId×HL.Spec):=[(149,SSmall)]
noncomputable def CWithin:Ctx:=⟨Tryz.prog,gam tabWithin,Tryz.f138.ntmps,[],[]⟩
theorem vcWithin(p0 p1 p2:Int)(Q:Res->Prop):(nfun true CWithin Tryz.f138 (bodyOf Tryz.f138) [.agg [I6 p0,I6 p1,I6 p2]] [] Q)=(((0:Int)<=1048576/\(1048576:Int)<=1073741824/\b3 1048576 p0 p1 p2)/\∀(x1:Bool),x1=true->Q ⟨.ce (.bool x1),false,[],[]⟩):=by kernel_rfl
end Go.Proofs.YthkoabbiiadbjaaGreat
namespace U
theorem isqrt_ex(n:Nat):∃q:Nat,q*q<=n/\n<(q+1)*(q+1):=by
 induction n with
 |zero=>exact⟨0,by decide,by decide⟩
 |succ n ih=>
  obtain⟨q,h1,h2⟩:=ih;by_cases h:(q+1)*(q+1)<=n+1
  . refine⟨q+1,h,?_⟩;have:(q+1+1)*(q+1+1)=(q+1)*(q+1)+2*q+3:=by grind
    omega
  . exact⟨q,by omega,by omega⟩
theorem isqrt_exI{n:Int}(h:0<=n):∃q:Int,0<=q/\q*q<=n/\n<(q+1)*(q+1):=by
 obtain⟨m,rfl⟩:=Int.eq_ofNat_of_zero_le h;obtain⟨q,h1,h2⟩:=isqrt_ex m;refine⟨(q:Int),Int.natCast_nonneg _,?_,?_⟩
 . have:=Int.ofNat_le.mpr h1;simpa using this
 . have:=Int.ofNat_lt.mpr h2;simpa using this
theorem sq_lt{a b:Int}(ha:0<=a)(hb:0<=b)(h:a*a<b*b):a<b:=by
 rcases Int.lt_or_le a b with h1|h1
 . exact h1
 . have:=Int.mul_le_mul h1 h1 hb ha;omega
theorem sq_le{a b:Int}(ha:0<=a)(hb:0<=b)(h:a*a<=b*b):a<=b:=by
 rcases Int.lt_or_le b a with h1|h1
 . have:=Int.mul_le_mul (Int.le_of_lt h1) (Int.le_of_lt h1) hb ha;have h2:b*b<a*a:=Int.lt_of_le_of_lt (Int.mul_le_mul_of_nonneg_right (Int.le_of_lt h1) hb) (Int.mul_lt_mul_of_pos_left h1 (by omega));omega
 . exact h1
theorem sq_nonneg(a:Int):0<=a*a:=by
 rcases Int.lt_or_le a 0 with h|h
 . have:=Int.mul_nonneg (a:= -a) (b:= -a) (by omega) (by omega);rwa[Int.neg_mul_neg]at this
 . exact Int.mul_nonneg h h
theorem sq_bd{a D:Int}(h1: -D<=a)(h2:a<=D):a*a<=D*D:=by
 rcases Int.lt_or_le a 0 with h|h
 . have:=Int.mul_le_mul (show-a<=D by omega) (show-a<=D by omega) (by omega) (by omega);rwa[Int.neg_mul_neg]at this
 . exact Int.mul_le_mul h2 h2 h (by omega)
theorem abs_of_sq{a l:Int}(hl:0<=l)(h:a*a<=l*l): -l<=a/\a<=l:=by
 rcases Int.lt_or_le a 0 with h1|h1
 . have:=sq_le (a:= -a) (b:=l) (by omega) hl (by rwa[Int.neg_mul_neg]);omega
 . have:=sq_le h1 hl h;omega
theorem isLen_of{a0 a1 a2 b0 b1 b2 l:Int}(h0:0<=l)(h1:sq3 a0 a1 a2 b0 b1 b2<=l*l)(h2:l=0∨(l-1)*(l-1)<sq3 a0 a1 a2 b0 b1 b2):isLen a0 a1 a2 b0 b1 b2 l:=by
 unfold sq3 at h1 h2;have n0:=sq_nonneg (a0-b0);have n1:=sq_nonneg (a1-b1);have n2:=sq_nonneg (a2-b2);refine⟨abs_of_sq h0 (by omega),abs_of_sq h0 (by omega),abs_of_sq h0 (by omega),?_⟩;rintro D hD⟨⟨d1,d2⟩,⟨d3,d4⟩,⟨d5,d6⟩⟩;have e0:=sq_bd d1 d2;have e1:=sq_bd d3 d4;have e2:=sq_bd d5 d6;have nD:=sq_nonneg D;rcases h2 with h2|h2
 . omega
 . rcases Int.lt_or_le (l-1) 0 with h3|h3
   . omega
   . have:(2*D)*(2*D)=4*(D*D):=by grind
     have:=sq_lt h3 (by omega:0<=2*D) (by omega);omega
theorem sq3_bd{a0 a1 a2 b0 b1 b2:Int}(ha:b3 268435456 a0 a1 a2)(hb:b3 268435456 b0 b1 b2):0<=sq3 a0 a1 a2 b0 b1 b2/\sq3 a0 a1 a2 b0 b1 b2<=864691128455135232:=by
 unfold b3 at ha hb;unfold sq3;have n0:=sq_nonneg (a0-b0);have n1:=sq_nonneg (a1-b1);have n2:=sq_nonneg (a2-b2);have e0:=sq_bd (a:=a0-b0) (D:=536870912) (by omega) (by omega);have e1:=sq_bd (a:=a1-b1) (D:=536870912) (by omega) (by omega);have e2:=sq_bd (a:=a2-b2) (D:=536870912) (by omega) (by omega);omega
end U
namespace Go.Proofs.YthkoabbiiadbjaaGreat
open Go Go.HL U
attribute [local irreducible] hfun bodyT fragT
theorem sFine:Sound Tryz.prog 47 SFine:=by
 refine sound_of (C:=CFine) [] Tryz.func47 (by kernel_rfl) (by decide+kernel) (by kernel_rfl) rfl trivial (loops0 (by kernel_rfl)) ?_;intro hA pA R h;unfold SFine at h;split at h;case h_2=>exfalso;exact h
 rename_i p0 p1 p2;obtain⟨hb,hq⟩:=h;unfold b3 at hb;refine byVC (vcFine p0 p1 p2 R) ⟨by omega,?_⟩;rintro _ rfl;refine⟨by omega,?_⟩;rintro _ rfl;refine⟨by omega,?_⟩;rintro _ rfl;exact hq
theorem sSquare:Sound Tryz.prog 92 SSquare:=by
 refine sound_of (C:=CSquare) [] Tryz.func92 (by kernel_rfl) (by decide+kernel) (by kernel_rfl) rfl trivial (loopsAll (by kernel_rfl)) ?_;intro hA pA R h;unfold SSquare at h;split at h;case h_2=>exfalso;exact h
 rename_i a0 a1 a2 c0 c1 c2;obtain⟨⟨ha,hc⟩,hq⟩:=h;unfold b3 at ha hc;unfold sq3 at hq;have n0:=sq_nonneg (a0-c0);have n1:=sq_nonneg (a1-c1);have n2:=sq_nonneg (a2-c2);have e0:=sq_bd (a:=a0-c0) (D:=536870912) (by omega) (by omega);have e1:=sq_bd (a:=a1-c1) (D:=536870912) (by omega) (by omega);have e2:=sq_bd (a:=a2-c2) (D:=536870912) (by omega) (by omega);refine byVC (vcSquare a0 a1 a2 c0 c1 c2 R) ⟨by omega,?_⟩;rintro _ rfl;refine⟨by omega,?_⟩;rintro _ rfl;refine⟨by omega,?_⟩;rintro _ rfl;refine⟨by omega,?_⟩;rintro _ rfl;refine⟨by omega,?_⟩;rintro _ rfl;refine⟨by omega,?_⟩;rintro _ rfl;refine⟨by omega,?_⟩;rintro _ rfl;refine⟨by omega,?_⟩;rintro _ rfl;refine⟨by omega,?_⟩;rintro _ rfl;refine⟨by omega,?_⟩;rintro _ rfl;refine⟨by omega,?_⟩;rintro _ rfl;refine⟨by omega,?_⟩;rintro _ rfl;rw[Int.zero_add];exact hq
theorem loopRoot:∀v Q,(LRoot v).wp Q->hloop CRoot anRoot (nthLoop Tryz.f93 0) v Q:=by
 intro v Q h;unfold LRoot at h;split at h;case h_2=>exact h.elim
 rename_i n z q b;obtain⟨hI,hq⟩:=h;refine hloop_rec (σ:=Int×Int) (fun s=>([.ce (I6 n), .ce (I6 z), .ce (I6 s.1), .ce (I6 s.2)],[])) (fun s=>s.2.toNat) (fun s=>rootOK n s.1 s.2) ?_ (q,b) hI;rintro⟨q,b⟩hI K hn hx _;dsimp only at hI hn⊢;obtain⟨h1,h2,h3,h4⟩:=hI;refine byVB (vbRoot n z q b K) ⟨fun g=> ?_,fun g=> ?_⟩
 . have g:=odt g;rcases h4 with h4|⟨k,hk,hb,h4⟩
   . omega
   have hkb:(2:Nat)^k<=2^30:=Nat.pow_le_pow_right (by omega) hk;have hb2:b<=1073741824:=by
    rw[hb];have:=Int.ofNat_le.mpr hkb;simpa using this
   have q30:q<=1073741824:=by
    rcases Int.lt_or_le 1073741824 q with hh|hh
    . have:=Int.mul_le_mul (Int.le_of_lt hh) (Int.le_of_lt hh) (by omega) (by omega);have h5:1073741824*q<q*q:=Int.mul_lt_mul_of_pos_right hh (by omega);omega
    . exact hh
   have hqb:=sq_bd (a:=q+b) (D:=2147483648) (by omega) (by omega);have nn:=sq_nonneg (q+b);have next:∀q':Int,0<=q'->q'<=2147483648->q'*q'<=n->n<(q'+b)*(q'+b)->rootOK n q' (b/2):=by
    intro q' a1 a2 a3 a4;refine⟨h1,⟨a1,a2⟩,a3,?_⟩;cases k with
    |zero=>
     left;have:b=1:=by rw[hb];rfl
     subst this;exact⟨by decide,a4⟩
    |succ k=>
     right;have hb':b=2*2^k:=by rw[hb,Int.pow_succ,Int.mul_comm]
     have e:b/2=2^k:=by rw[hb',Int.mul_ediv_cancel_left _ (by decide)]
     refine⟨k,by omega,e,?_⟩;rw[e,<-hb'];exact a4
   refine⟨by omega,?_⟩;rintro _ rfl;refine⟨by omega,?_⟩;rintro _ rfl;refine⟨by omega,fun x3 e3=>⟨fun g2=> ?_,fun g2=> ?_⟩⟩
   . have g2:=odt g2;refine⟨by omega,?_⟩;rintro _ rfl;refine⟨by omega,?_⟩;rintro _ rfl;refine hn (q+b,b/2) (next (q+b) (by omega) (by omega) (by omega) ?_) (by dsimp only;omega);rw[show q+b+b=q+2*b by omega];exact h4
   . have g2:=odf g2;refine⟨by omega,?_⟩;rintro _ rfl;exact hn (q,b/2) (next q (by omega) (by omega) h3 (by omega)) (by dsimp only;omega)
 . have g:=odf g;rcases h4 with h4|⟨k,hk,hb,h4⟩
   . exact hx _ _ (hq q ⟨h2.1,h3,h4.2⟩)
   . have:0<b:=by rw[hb];exact Int.pow_pos (by decide)
     omega
theorem sRoot:Sound Tryz.prog 93 SRoot:=by
 refine sound_of (C:=CRoot) [] Tryz.func93 (by kernel_rfl) (by decide+kernel) (by kernel_rfl) rfl trivial (loops1 (by kernel_rfl) (loopOK_of (an:=anRoot) (S:=LRoot) (by kernel_rfl) loopRoot)) ?_;intro hA pA R h;unfold SRoot at h;split at h;case h_2=>exfalso;exact h
 rename_i n;obtain⟨hn,_,hq⟩:=h;exact byVC (vcRoot n R) ⟨⟨hn,by decide,by omega, .inr ⟨30,by decide,by decide,by omega⟩⟩,fun x hx=>hq x hx⟩
theorem sLength:Sound Tryz.prog 51 SLength:=by
 refine sound_of (C:=CLength) tabLength Tryz.func51 (by kernel_rfl) (by decide+kernel) (by kernel_rfl) rfl ⟨sSquare,sRoot,trivial⟩ (loops0 (by kernel_rfl)) ?_;intro hA pA R h;unfold SLength at h;split at h;case h_2=>exfalso;exact h
 rename_i a0 a1 a2 c0 c1 c2;obtain⟨⟨ha,hc⟩,_,hq⟩:=h;refine byVC (vcLength a0 a1 a2 c0 c1 c2 R) ⟨⟨ha,hc⟩,fun x1 e1=> ?_⟩;have bd:=sq3_bd ha hc;rw[<-e1]at bd;refine⟨by omega,isqrt_exI bd.1,fun x hx=> ?_⟩;obtain⟨hx0,hx1,hx2⟩:=hx;have xx:=sq_nonneg x;refine⟨by omega,fun x3 e3=>⟨fun g=> ?_,fun g=> ?_⟩⟩
 . have g:=odt g;have:x<=1073741824:=sq_le hx0 (by decide) (by omega);refine⟨by omega,?_⟩;rintro _ rfl;refine hq _ (isLen_of (by omega) (by omega) (.inr ?_));rw[Int.add_sub_cancel];omega
 . have g:=odf g;refine hq _ (isLen_of hx0 (by omega) ?_);rcases Int.lt_or_le 0 x with h1|h1
   . right;have:(x-1)*(x-1)=x*x-2*x+1:=by grind
     omega
   . left;omega
theorem sSmall:Sound Tryz.prog 149 SSmall:=by
 refine sound_of (C:=CSmall) [] Tryz.func149 (by kernel_rfl) (by decide+kernel) (by kernel_rfl) rfl trivial (loopsAll (by kernel_rfl)) ?_;intro hA pA R h;unfold SSmall at h;split at h;case h_2=>exfalso;exact h
 rename_i p0 p1 p2 m;obtain⟨⟨hm0,hm1,hb⟩,hq⟩:=h;unfold b3 at hb;have no:∀{c:Prop} [Decidable c],¬c->decide c=true->False:=fun h e=>h (odt e);refine byVC (vcSmall p0 p1 p2 m R) ⟨by omega,fun x1 e1=>⟨fun g=>(no (by omega) g).elim,fun _=>⟨fun g=>(no (by omega) g).elim,fun _=>⟨by omega,fun x2 e2=>⟨fun g=>(no (by omega) g).elim,fun _=>⟨fun g=>(no (by omega) g).elim,fun _=>⟨by omega,fun x3 e3=>⟨fun g=>(no (by omega) g).elim,fun _=>⟨fun g=>(no (by omega) g).elim,fun _=>hq⟩⟩⟩⟩⟩⟩⟩⟩⟩
theorem sWithin:Sound Tryz.prog 138 SWithin:=by
 refine sound_of (C:=CWithin) tabWithin Tryz.func138 (by kernel_rfl) (by decide+kernel) (by kernel_rfl) rfl ⟨sSmall,trivial⟩ (loops0 (by kernel_rfl)) ?_;intro hA pA R h;unfold SWithin at h;split at h;case h_2=>exfalso;exact h
 rename_i p0 p1 p2;obtain⟨hb,hq⟩:=h;refine byVC (vcWithin p0 p1 p2 R) ⟨⟨by decide,by decide,hb⟩,?_⟩;rintro _ rfl;exact hq
end Go.Proofs.YthkoabbiiadbjaaGreat
namespace U
open Go
def ptsOK(B:Int)(l:List (List Int)):Prop:=∀j,j<l.length->b3 B (ec l j 0) (ec l j 1) (ec l j 2)
theorem isLen_ex(a0 a1 a2 b0 b1 b2:Int):∃l,isLen a0 a1 a2 b0 b1 b2 l:=by
 have h0:0<=sq3 a0 a1 a2 b0 b1 b2:=by
  unfold sq3;have:=sq_nonneg (a0-b0);have:=sq_nonneg (a1-b1);have:=sq_nonneg (a2-b2);omega
 obtain⟨x,hx0,hx1,hx2⟩:=isqrt_exI h0;rcases Int.lt_or_le (x*x) (sq3 a0 a1 a2 b0 b1 b2)with g|g
 . exact⟨x+1,isLen_of (by omega) (by omega) (.inr (by rw[Int.add_sub_cancel];exact g))⟩
 . refine⟨x,isLen_of hx0 g ?_⟩;rcases Int.lt_or_le 0 x with h1|h1
   . right;have:(x-1)*(x-1)=x*x-2*x+1:=by grind
     omega
   . left;omega
theorem b3_mono{B C a0 a1 a2:Int}(h:B<=C)(hb:b3 B a0 a1 a2):b3 C a0 a1 a2:=by unfold b3 at*;omega
theorem ptsOK_app{B:Int}{l:List (List Int)}{x y z:Int}(h:ptsOK B l)(hb:b3 B x y z):ptsOK B (l++[[x,y,z]]):=by
 intro j hj;by_cases hjl:j<l.length
 . have e:(l++[[x,y,z]]).getD j []=l.getD j []:=by
    rw[List.getD_eq_getElem?_getD,List.getElem?_append_left hjl,<-List.getD_eq_getElem?_getD]
   have:=h j hjl;unfold ec at this⊢;rw[e];exact this
 . have hj2:j=l.length:=by simp at hj;omega
   subst hj2;unfold ec;have e:(l++[[x,y,z]]).getD l.length []=[x,y,z]:=by simp[List.getD_eq_getElem?_getD]
   rw[e];exact hb
theorem ptsOK_nil{B:Int}:ptsOK B []:=fun j hj=>absurd hj (Nat.not_lt_zero _)
def lim(n:Nat):List (List Int):=if n=0 then[]else[((n%65536:Nat):Int)]::lim (n/65536)
termination_by n
decreasing_by omega
end U
namespace Go.Proofs.YthkoabbiiadbjaaGreat
open Go Go.HL U
noncomputable def CMotion:Ctx:=⟨Tryz.prog,gam [],Tryz.f45.ntmps,[],[]⟩
theorem vcMotion(k:Int)(Q:Res->Prop):(nfun true CMotion Tryz.f45 (bodyOf Tryz.f45) [.ce (I6 k)] [] Q)=(Br (k>=1) (Q ⟨.ce (.bool (decide (k<=6))),false,[],[]⟩) (Q ⟨.ce (.bool false),false,[],[]⟩)):=by kernel_rfl
end Go.Proofs.YthkoabbiiadbjaaGreat
namespace U
open Go
structure It where
 k0:Int
 bk:Int
 f0:Int
 f1:Int
 f2:Int
 t0:Int
 t1:Int
 t2:Int
 pl:Int
 c0:Int
 c1:Int
 c2:Int
 dr:Int
 fu:Bool
 fd:Int
 pr:Bool
 sd:Int
 ra:Int
 bl:Int
 nn:Int
 sp:Int
 on:Bool
theorem ec_app_lt{y:List (List Int)}{r:List Int}{j c:Nat}(h:j<y.length):ec (y++[r]) j c=ec y j c:=by
 unfold ec;have e:(y++[r]).getD j []=y.getD j []:=by rw[List.getD_eq_getElem?_getD,List.getElem?_append_left h,<-List.getD_eq_getElem?_getD]
 rw[e]
theorem ec_app_eq{y:List (List Int)}{r:List Int}{c:Nat}:ec (y++[r]) y.length c=r.getD c 0:=by
 unfold ec;have:(y++[r]).getD y.length []=r:=by simp[List.getD_eq_getElem?_getD]
 rw[this]
end U
namespace Go.Proofs.YthkoabbiiadbjaaGreat
open Go Go.HL U
def SSmooth(hA:List HV)(pA:List (List HC)):SR:=match hA,pA with
 |[.agg [.int .i64 k0, .int .i64 bk, .int .i64 f0, .int .i64 f1, .int .i64 f2, .int .i64 t0, .int .i64 t1, .int .i64 t2, .int .i64 pl, .int .i64 c0, .int .i64 c1, .int .i64 c2, .int .i64 dr, .bool fu, .int .i64 fd, .bool pr, .int .i64 sd, .int .i64 ra, .int .i64 bl, .int .i64 nn, .int .i64 sp, .bool on]],[]=> .all True Bool (fun x=>x=true->k0=2) (fun x=>⟨.ce (.bool x),false,[],[]⟩)
 |_,_=> .fail
noncomputable def CSmooth:Ctx:=⟨Tryz.prog,gam [],Tryz.f89.ntmps,[],[]⟩
theorem vcSmooth(k0 bk f0 f1 f2 t0 t1 t2 pl c0 c1 c2 dr fd sd ra bl nn sp:Int)(fu pr on:Bool)(Q:Res->Prop):(nfun true CSmooth Tryz.f89 (bodyOf Tryz.f89) [.agg [I6 k0,I6 bk,I6 f0,I6 f1,I6 f2,I6 t0,I6 t1,I6 t2,I6 pl,I6 c0,I6 c1,I6 c2,I6 dr, .bool fu,I6 fd, .bool pr,I6 sd,I6 ra,I6 bl,I6 nn,I6 sp, .bool on]] [] Q)=(Bb (k0==2) (Q ⟨.ce (.bool !(f0==t0&&(f1==t1&&(f2==t2&&true)))),false,[],[]⟩) (Q ⟨.ce (.bool false),false,[],[]⟩)):=by kernel_rfl
def tabRate:List (FuncId×HL.Spec):=[(87,SRnd)]
noncomputable def CRate:Ctx:=⟨Tryz.prog,gam tabRate,Tryz.f48.ntmps,[],[]⟩
theorem vcRate(s:Int)(k0 bk f0 f1 f2 t0 t1 t2 pl c0 c1 c2 dr fd sd ra bl nn sp:Int)(fu pr on:Bool)(Q:Res->Prop):(nfun true CRate Tryz.f48 (bodyOf Tryz.f48) [.agg [I6 k0,I6 bk,I6 f0,I6 f1,I6 f2,I6 t0,I6 t1,I6 t2,I6 pl,I6 c0,I6 c1,I6 c2,I6 dr, .bool fu,I6 fd, .bool pr,I6 sd,I6 ra,I6 bl,I6 nn,I6 sp, .bool on], .ce (I6 s)] [] Q)=(Bb (k0==1) (Q ⟨.ce (I6 0),false,[],[]⟩) (Bb (pr) (∀x1,x1=max s 1->R6 (fd*x1)/\∀x2,x2=fd*x1->∀x3,x3=min x2 60000000->R6 (x3*16)/\∀x4,x4=x3*16->R6 (x4*256)/\∀x5,x5=x4*256->(-2305843009213693952<=x5/\x5<=2305843009213693952/\(0:Int)<60000/\(60000:Int)<=2305843009213693952)/\∀x6,x6=rnd x5 (60000:Int)->∀x7,x7=max x6 1->Q ⟨.ce (I6 x7),false,[],[]⟩) (∀x8,x8=min fd 60000000->R6 (x8*16)/\∀x9,x9=x8*16->(-9223372036854775808<=x9*256/\x9*256<=9223372036854775807)/\∀x10,x10=x9*256->(-2305843009213693952<=x10/\x10<=2305843009213693952/\(0:Int)<60000/\(60000:Int)<=2305843009213693952)/\∀x11,x11=rnd x10 (60000:Int)->∀x12,x12=max x11 1->Q ⟨.ce (I6 x12),false,[],[]⟩))):=by kernel_rfl
noncomputable def CSync:Ctx:=⟨Tryz.prog,gam [],Tryz.f49.ntmps,[],[]⟩
theorem vcSync(k0 bk f0 f1 f2 t0 t1 t2 pl c0 c1 c2 dr fd sd ra bl nn sp:Int)(fu pr on:Bool)(Q:Res->Prop):(nfun true CSync Tryz.f49 (bodyOf Tryz.f49) [.agg [I6 k0,I6 bk,I6 f0,I6 f1,I6 f2,I6 t0,I6 t1,I6 t2,I6 pl,I6 c0,I6 c1,I6 c2,I6 dr, .bool fu,I6 fd, .bool pr,I6 sd,I6 ra,I6 bl,I6 nn,I6 sp, .bool on]] [] Q)=(Bb (k0==5) (Q ⟨.ce (.bool true),false,[],[]⟩) (Q ⟨.ce (.bool (k0==6)),false,[],[]⟩)):=by kernel_rfl
def tabSoft:List (FuncId×HL.Spec):=[(89,SSmooth)]
def anCheck:LAnn:=⟨[0,2,3,9,10,11],[2],[],false⟩
section
attribute [local irreducible] hfun bodyT fragT
theorem sSmooth:Sound Tryz.prog 89 SSmooth:=by
 refine sound_of (C:=CSmooth) [] Tryz.func89 (by kernel_rfl) (by decide+kernel) (by kernel_rfl) rfl trivial (loops0 (by kernel_rfl)) ?_;intro hA pA R h;unfold SSmooth at h;split at h;case h_2=>exfalso;exact h
 rename_i k0 bk f0 f1 f2 t0 t1 t2 pl c0 c1 c2 dr fu fd pr sd ra bl nn sp on;obtain⟨_,_,hR⟩:=h;refine byVC (vcSmooth k0 bk f0 f1 f2 t0 t1 t2 pl c0 c1 c2 dr fd sd ra bl nn sp fu pr on R) ⟨fun g=>hR _ fun _=>by simpa using g,fun _=>hR false fun e=>(by cases e)⟩
end
end Go.Proofs.YthkoabbiiadbjaaGreat
namespace U
open Go
def okSegs(s0 s1 s2:Int)(sg:LL):Prop:=∀j,j<sg.length->b3 32768 (ec sg j 0) (ec sg j 1) (ec sg j 2)/\(1<=ec sg j 3/\ec sg j 3<=131072)/\b3 (ec sg j 3) (ec sg j 0-bgn s0 sg 0 j) (ec sg j 1-bgn s1 sg 1 j) (ec sg j 2-bgn s2 sg 2 j)
def lastAt(s0 s1 s2:Int)(sg:LL)(a0 a1 a2:Int):Prop:=a0=bgn s0 sg 0 sg.length/\a1=bgn s1 sg 1 sg.length/\a2=bgn s2 sg 2 sg.length
structure BSt where
 a0:Int
 a1:Int
 a2:Int
 n:Int
 s0:Int
 s1:Int
 s2:Int
 sg:LL
 mks:LL
 fr:Int
 bg:Bool
def okB(m:Nat)(x:BSt):Prop:=b3 32768 x.a0 x.a1 x.a2/\b3 32768 x.s0 x.s1 x.s2/\okSegs x.s0 x.s1 x.s2 x.sg/\lastAt x.s0 x.s1 x.s2 x.sg x.a0 x.a1 x.a2/\x.n=plen x.sg/\x.sg.length<=m/\x.mks.length<=10
def okPath(s0 s1 s2:Int)(sg mk:LL):Prop:=b3 32768 s0 s1 s2/\okSegs s0 s1 s2 sg/\sg.length<=355000/\mk.length<=10
end U
namespace Go.Proofs.YthkoabbiiadbjaaGreat
open Go Go.HL U
def SOther(hA:List HV)(pA:List (List HC)):SR:=match hA,pA with
 |[.agg [.int .i64 k0, .int .i64 bk, .int .i64 f0, .int .i64 f1, .int .i64 f2, .int .i64 t0, .int .i64 t1, .int .i64 t2, .int .i64 pl, .int .i64 c0, .int .i64 c1, .int .i64 c2, .int .i64 dr, .bool fu, .int .i64 fd, .bool pr, .int .i64 sd, .int .i64 ra, .int .i64 bl, .int .i64 nn, .int .i64 sp, .bool on]],[]=> .all True Int (fun _=>True) (fun x=>⟨.ce (I6 x),false,[],[]⟩)
 |_,_=> .fail
noncomputable def COther:Ctx:=⟨Tryz.prog,gam [],Tryz.f46.ntmps,[],[]⟩
theorem vcOther(k0 bk f0 f1 f2 t0 t1 t2 pl c0 c1 c2 dr fd sd ra bl nn sp:Int)(fu pr on:Bool)(Q:Res->Prop):(nfun true COther Tryz.f46 (bodyOf Tryz.f46) [.agg [I6 k0,I6 bk,I6 f0,I6 f1,I6 f2,I6 t0,I6 t1,I6 t2,I6 pl,I6 c0,I6 c1,I6 c2,I6 dr, .bool fu,I6 fd, .bool pr,I6 sd,I6 ra,I6 bl,I6 nn,I6 sp, .bool on]] [] Q)=(Bb (k0==10) (Q ⟨.ce (I6 5),false,[],[]⟩) (Bb (k0==13) (Q ⟨.ce (I6 4),false,[],[]⟩) (Q ⟨.ce (I6 3),false,[],[]⟩))):=by kernel_rfl
def anB0:LAnn:=⟨[0,2,3,5,6,7,8,9,10,23,24,25],[2,3,5],[1000002,1000005,1000006],false⟩
def anB1:LAnn:=⟨[0,2,3,5,6,7,8,10,11,12,13,23,24,25,83,84,85],[0,2,3,5,6,7,8,10,11,12,23,24,25],[1000002,1000005,1000006,1000012,1000013],false⟩
def LB1(v:LV):LR:=match v with
 |([.ce (.sl false ks l), .ce (.ptr 1000002 0), .ce (.int .i64 r), .ce (.ptr 1000005 0), .ce (.ptr 1000006 0), .ce (.int .i64 n), .ce (.int .i64 s), .ce (.bool bg), .ce (.int .i64 ix), .ce (.ptr 1000012 0), .ce (.ptr 1000013 0), .ce (.sl false ks2 l2), .ce (.int .i64 m), .ce (.int .i64 i), .ce (.sl false [4,4,4] q), .ce (.int .i64 qn), .ce (.int .i64 j)],[rb,pb,ab,ib,gb])=>bif ksEq ks [4,4,4,4,4,4,4,4,4,4,4,4,4,0,4,0,4,4,4,4,4,0]&&ksEq ks2 [4,4,4,4,4,4,4,4,4,4,4,4,4,0,4,0,4,4,4,4,4,0]then match rb with
  |[.int .i64 z0, .int .i64 z1, .int .i64 z2, .sl true [4,4,4,4,4,4,4] zs, .sl true [4,4,4] zm]=>match pb with
   |[.int .i64 s0, .int .i64 s1, .int .i64 s2, .sl true [4,4,4,4,4,4,4] sg, .sl true [4,4,4] mk]=>match ab with
    |[.int .i64 a0, .int .i64 a1, .int .i64 a2]=>match gb with
     |[.int .i64 g0, .int .i64 g1, .int .i64 g2, .int .i64 g3, .int .i64 g4, .int .i64 g5, .int .i64 g6]=>match ib with
      |[.int .i64 k0, .int .i64 bk, .int .i64 f0, .int .i64 f1, .int .i64 f2, .int .i64 t0, .int .i64 t1, .int .i64 t2, .int .i64 pl, .int .i64 c0, .int .i64 c1, .int .i64 c2, .int .i64 dr, .bool fu, .int .i64 fd, .bool pr, .int .i64 sd, .int .i64 ra, .int .i64 bl, .int .i64 nn, .int .i64 sp, .bool on]=> .all (qn=(q.length:Int)/\j=0/\q.length<=71000/\ptsOK 32768 q/\okB 284000 ⟨a0,a1,a2,n,s0,s1,s2,sg,mk,-1,false⟩) (BSt×Int×Int×Int×Int) (fun x=>okB (sg.length+71000) x.1/\x.1.s0=s0/\x.1.s1=s1/\x.1.s2=s2/\x.1.mks=mk) (fun _=> .exit 2) (fun x=>([.ce (.sl false [4,4,4,4,4,4,4,4,4,4,4,4,4,0,4,0,4,4,4,4,4,0] l), .ce (.ptr 1000002 0), .ce (I6 r), .ce (.ptr 1000005 0), .ce (.ptr 1000006 0), .ce (I6 x.1.n), .ce (I6 s), .ce (.bool bg), .ce (I6 ix), .ce (.ptr 1000012 0), .ce (.sl false [4,4,4,4,4,4,4,4,4,4,4,4,4,0,4,0,4,4,4,4,4,0] l2), .ce (I6 m), .ce (I6 i)],[[I6 z0,I6 z1,I6 z2, .sl true [4,4,4,4,4,4,4] zs, .sl true [4,4,4] zm],[I6 x.1.s0,I6 x.1.s1,I6 x.1.s2, .sl true [4,4,4,4,4,4,4] x.1.sg, .sl true [4,4,4] x.1.mks],[I6 x.1.a0,I6 x.1.a1,I6 x.1.a2],[I6 k0,I6 bk,I6 f0,I6 f1,I6 f2,I6 t0,I6 t1,I6 t2,I6 pl,I6 c0,I6 c1,I6 c2,I6 dr, .bool fu,I6 fd, .bool pr,I6 sd,I6 ra,I6 bl,I6 nn,I6 sp, .bool on],[I6 x.2.1,I6 x.2.2.1,I6 x.2.2.2.1,I6 x.2.2.2.2,I6 g4,I6 g5,I6 g6]]))
      |_=> .fail
     |_=> .fail
    |_=> .fail
   |_=> .fail
  |_=> .fail else .fail
 |_=> .fail
end Go.Proofs.YthkoabbiiadbjaaGreat
namespace U
theorem bgn_app{s:Int}{sg:LL}{r:List Int}{c:Nat}{j:Nat}(h:j<=sg.length):bgn s (sg++[r]) c j=bgn s sg c j:=by
 unfold bgn;by_cases h0:(j:Int)<=0
 . rw[if_pos h0,if_pos h0]
 . rw[if_neg h0,if_neg h0];have:((j:Int)-1).toNat<sg.length:=by omega
   unfold ec;have e:(sg++[r]).getD ((j:Int)-1).toNat []=sg.getD ((j:Int)-1).toNat []:=by rw[List.getD_eq_getElem?_getD,List.getElem?_append_left this,<-List.getD_eq_getElem?_getD]
   rw[e]
theorem bgn_last{s:Int}{sg:LL}{r:List Int}{c:Nat}:bgn s (sg++[r]) c ((sg++[r]).length:Nat)=r.getD c 0:=by
 unfold bgn;have hl:(sg++[r]).length=sg.length+1:=by simp
 rw[hl,if_neg (by omega)];have e:(((sg.length+1:Nat):Int)-1).toNat=sg.length:=by omega
 rw[e];exact ec_app_eq
theorem okB_mono{m k:Nat}{x:BSt}(h:m<=k)(hx:okB m x):okB k x:=⟨hx.1,hx.2.1,hx.2.2.1,hx.2.2.2.1,hx.2.2.2.2.1,Nat.le_trans hx.2.2.2.2.2.1 h,hx.2.2.2.2.2.2⟩
theorem okLen_of{s0 s1 s2:Int}{sg:LL}(h:okSegs s0 s1 s2 sg)(hl:sg.length<=355000):okLen sg:=⟨by omega,fun j hj=>by have:=(h j hj).2.1;omega⟩
theorem okB_n{m:Nat}{x:BSt}(h:okB m x)(hl:x.sg.length<=355000):0<=x.n/\x.n<=4503599627370496:=by
 rw[h.2.2.2.2.1];exact plen_le (okLen_of h.2.2.1 hl)
theorem okB_step{m:Nat}{a0 a1 a2 n s0 s1 s2 fr p0 p1 p2 x g4 g5 g6:Int}{sg mk:LL}{bg:Bool}(h:okB m ⟨a0,a1,a2,n,s0,s1,s2,sg,mk,fr,bg⟩)(hp:b3 32768 p0 p1 p2)(hne:¬(p0=a0/\p1=a1/\p2=a2))(hx:isLen a0 a1 a2 p0 p1 p2 x):okB (m+1) ⟨p0,p1,p2,n+x,s0,s1,s2,sg++[[p0,p1,p2,x,g4,g5,g6]],mk,fr,bg⟩:=by
 obtain⟨ha,hs,hg,⟨l0,l1,l2⟩,hn,hm,hk⟩:=h;dsimp only at ha hs hg l0 l1 l2 hn hm hk;obtain⟨x0,x1,x2,xD⟩:=hx;have xb:=xD 65536 (by decide) (by unfold b3 at ha hp⊢;omega);refine⟨hp,hs,?_,⟨by dsimp only;rw[bgn_last];rfl,by dsimp only;rw[bgn_last];rfl,by dsimp only;rw[bgn_last];rfl⟩,?_,by dsimp only;simp;omega,hk⟩
 . intro j hj;dsimp only at hj⊢;by_cases h:j<sg.length
   . have:=hg j h;simp only[ec_app_lt h];rw[bgn_app (by omega),bgn_app (by omega),bgn_app (by omega)];exact this
   . have:j=sg.length:=by simp at hj;omega
     subst this;simp only[ec_app_eq];rw[bgn_app (Nat.le_refl _),bgn_app (Nat.le_refl _),bgn_app (Nat.le_refl _),<-l0,<-l1,<-l2];refine⟨hp,?_,?_⟩
     . show 1<=x/\x<=131072;omega
     . show b3 x (p0-a0) (p1-a1) (p2-a2);unfold b3;omega
 . dsimp only;rw[plen_append,hn];show plen sg+x=plen sg+(x+0);omega
open Go
theorem okB_mks{m:Nat}{x:BSt}{mk:LL}{fr:Int}{bg:Bool}(h:okB m x)(hm:mk.length<=10):okB m ⟨x.a0,x.a1,x.a2,x.n,x.s0,x.s1,x.s2,x.sg,mk,fr,bg⟩:=⟨h.1,h.2.1,h.2.2.1,h.2.2.2.1,h.2.2.2.2.1,h.2.2.2.2.2.1,hm⟩
theorem okSegs_nil(s0 s1 s2:Int):okSegs s0 s1 s2 []:=fun j hj=>by simp at hj
theorem okB_zero(fr:Int)(bg:Bool):okB 0 ⟨0,0,0,0,0,0,0,[],[],fr,bg⟩:=⟨(by unfold b3;decide:b3 32768 0 0 0),(by unfold b3;decide:b3 32768 0 0 0),okSegs_nil _ _ _,⟨rfl,rfl,rfl⟩,rfl,Nat.le_refl 0,(by decide:0<=10)⟩
theorem okPath_len{s0 s1 s2:Int}{sg mk:LL}(h:okPath s0 s1 s2 sg mk):okLen sg:=okLen_of h.2.1 h.2.2.1
theorem okPath_pts{s0 s1 s2:Int}{sg mk:LL}(h:okPath s0 s1 s2 sg mk):okPts s0 s1 s2 sg:=by
 obtain⟨hs,hg,_,_⟩:=h;unfold b3 at hs;refine⟨by omega,by omega,by omega,fun j hj=> ?_⟩;have:=(hg j hj).1;unfold b3 at this;omega
end U
namespace Go.Proofs.YthkoabbiiadbjaaGreat
open Go Go.HL U
attribute [local irreducible] hfun bodyT fragT
theorem sOther:Sound Tryz.prog 46 SOther:=by
 refine sound_of (C:=COther) [] Tryz.func46 (by kernel_rfl) (by decide+kernel) (by kernel_rfl) rfl trivial (loops0 (by kernel_rfl)) ?_;intro hA pA R h;unfold SOther at h;split at h;case h_2=>exfalso;exact h
 rename_i k0 bk f0 f1 f2 t0 t1 t2 pl c0 c1 c2 dr fu fd pr sd ra bl nn sp on;obtain⟨_,_,hR⟩:=h;exact byVC (vcOther k0 bk f0 f1 f2 t0 t1 t2 pl c0 c1 c2 dr fd sd ra bl nn sp fu pr on R) ⟨fun _=>hR _ trivial,fun _=>⟨fun _=>hR _ trivial,fun _=>hR _ trivial⟩⟩
end Go.Proofs.YthkoabbiiadbjaaGreat
namespace U
open Go
def fc1(a b m d:Int):Int:=if(b-a)*m>0 then 1 else if(b-a)*m<0 then-1 else d
def sl1(a b m n:Int):Int:=if a≠b then max n m else n
def slk(b0 b1 b2 w0 w1 w2 d0 d1 d2:Int):Int:=sl1 w2 d2 b2 (sl1 w1 d1 b1 (sl1 w0 d0 b0 0))
def more(r:List Int)(u:Int):List Int:=[r.getD 0 0,r.getD 1 0+u,r.getD 2 0,r.getD 3 0,r.getD 4 0,r.getD 5 0,r.getD 6 0,r.getD 7 0,r.getD 8 0,r.getD 9 0]
def tadd(pk:LL)(ln:Int)(q:List Int):LL×Int:=if 0<pk.length/\q.getD 3 0≠0/\ec pk (pk.length-1) 3=q.getD 3 0/\ec pk (pk.length-1) 7=q.getD 7 0/\ec pk (pk.length-1) 8=q.getD 8 0/\ec pk (pk.length-1) 9=q.getD 9 0 then(pk.set (pk.length-1) (more (pk.getD (pk.length-1) []) (q.getD 1 0)),ln+q.getD 1 0)else(pk++[[ln,q.getD 1 0,q.getD 2 0,q.getD 3 0,q.getD 4 0,q.getD 5 0,q.getD 6 0,q.getD 7 0,q.getD 8 0,q.getD 9 0]],ln+q.getD 1 0)
end U
namespace Go.Proofs.YthkoabbiiadbjaaGreat
open Go Go.HL U
def unrT(b:List Nat):LAnn:=⟨[],[4],b,true⟩
def SFacing(hA:List HV)(pA:List (List HC)):SR:=match hA,pA with
 |[.agg [.int .i64 s0, .int .i64 s1, .int .i64 s2, .sl false [4,4,4,4,4,4,4] sg, .sl false [4,4,4] mk], .agg [.int .i64 d0, .int .i64 d1, .int .i64 d2], .ce (.int .i64 i), .ce (.int .i64 m)],[]=> .det ((0<=i/\i<sg.length)/\(m=1∨m= -1)/\okPts s0 s1 s2 sg/\sg.length<=1073741824) ⟨.agg [I6 (fc1 (bgn s0 sg 0 i) (ec sg i.toNat 0) m d0),I6 (fc1 (bgn s1 sg 1 i) (ec sg i.toNat 1) m d1),I6 (fc1 (bgn s2 sg 2 i) (ec sg i.toNat 2) m d2)],false,[],[]⟩
 |_,_=> .fail
def tabFacing:List (FuncId×HL.Spec):=[(94,SBegin)]
noncomputable def CFacing:Ctx:=⟨Tryz.prog,gam tabFacing,Tryz.f55.ntmps,[(4000003,unrT [1000004,1000005,1000008,1000009,1000010],fun _=> .fail)],[]⟩
theorem vcFacing(s0 s1 s2 d0 d1 d2 i m:Int)(sg mk:LL)(Q:Res->Prop):(nfun true CFacing Tryz.f55 (bodyOf Tryz.f55) [.agg [I6 s0,I6 s1,I6 s2, .sl false [4,4,4,4,4,4,4] sg, .sl false [4,4,4] mk], .agg [I6 d0,I6 d1,I6 d2], .ce (I6 i), .ce (I6 m)] [] Q)=((i<=(sg.length:Int)/\sg.length<=1073741824)/\∀x1,x1=bgn s0 sg (0:Nat) i->∀x2,x2=bgn s1 sg (1:Nat) i->∀x3,x3=bgn s2 sg (2:Nat) i->(0<=i/\i<(sg.length:Int))/\R6 (el sg i.toNat-x1)/\∀x4,x4=el sg i.toNat-x1->R6 (x4*m)/\∀x5,x5=x4*m->Br (x5>0) (R6 (ec sg i.toNat 1-x2)/\∀x6,x6=ec sg i.toNat 1-x2->R6 (x6*m)/\∀x7,x7=x6*m->Br (x7>0) (R6 (ec sg i.toNat 2-x3)/\∀x8,x8=ec sg i.toNat 2-x3->(-9223372036854775808<=x8*m/\x8*m<=9223372036854775807)/\∀x9,x9=x8*m->Br (x9>0) (Q ⟨.agg [I6 1,I6 1,I6 1],false,[],[]⟩) (Br (x9<0) (Q ⟨.agg [I6 1,I6 1,I6 (-1)],false,[],[]⟩) (Q ⟨.agg [I6 1,I6 1,I6 d2],false,[],[]⟩))) (Br (x7<0) (R6 (ec sg i.toNat 2-x3)/\∀x10,x10=ec sg i.toNat 2-x3->R6 (x10*m)/\∀x11,x11=x10*m->Br (x11>0) (Q ⟨.agg [I6 1,I6 (-1),I6 1],false,[],[]⟩) (Br (x11<0) (Q ⟨.agg [I6 1,I6 (-1),I6 (-1)],false,[],[]⟩) (Q ⟨.agg [I6 1,I6 (-1),I6 d2],false,[],[]⟩))) (R6 (ec sg i.toNat 2-x3)/\∀x12,x12=ec sg i.toNat 2-x3->R6 (x12*m)/\∀x13,x13=x12*m->Br (x13>0) (Q ⟨.agg [I6 1,I6 d1,I6 1],false,[],[]⟩) (Br (x13<0) (Q ⟨.agg [I6 1,I6 d1,I6 (-1)],false,[],[]⟩) (Q ⟨.agg [I6 1,I6 d1,I6 d2],false,[],[]⟩))))) (Br (x5<0) (R6 (ec sg i.toNat 1-x2)/\∀x14,x14=ec sg i.toNat 1-x2->R6 (x14*m)/\∀x15,x15=x14*m->Br (x15>0) (R6 (ec sg i.toNat 2-x3)/\∀x16,x16=ec sg i.toNat 2-x3->R6 (x16*m)/\∀x17,x17=x16*m->Br (x17>0) (Q ⟨.agg [I6 (-1),I6 1,I6 1],false,[],[]⟩) (Br (x17<0) (Q ⟨.agg [I6 (-1),I6 1,I6 (-1)],false,[],[]⟩) (Q ⟨.agg [I6 (-1),I6 1,I6 d2],false,[],[]⟩))) (Br (x15<0) (R6 (ec sg i.toNat 2-x3)/\∀x18,x18=ec sg i.toNat 2-x3->R6 (x18*m)/\∀x19,x19=x18*m->Br (x19>0) (Q ⟨.agg [I6 (-1),I6 (-1),I6 1],false,[],[]⟩) (Br (x19<0) (Q ⟨.agg [I6 (-1),I6 (-1),I6 (-1)],false,[],[]⟩) (Q ⟨.agg [I6 (-1),I6 (-1),I6 d2],false,[],[]⟩))) (R6 (ec sg i.toNat 2-x3)/\∀x20,x20=ec sg i.toNat 2-x3->R6 (x20*m)/\∀x21,x21=x20*m->Br (x21>0) (Q ⟨.agg [I6 (-1),I6 d1,I6 1],false,[],[]⟩) (Br (x21<0) (Q ⟨.agg [I6 (-1),I6 d1,I6 (-1)],false,[],[]⟩) (Q ⟨.agg [I6 (-1),I6 d1,I6 d2],false,[],[]⟩))))) (R6 (ec sg i.toNat 1-x2)/\∀x22,x22=ec sg i.toNat 1-x2->R6 (x22*m)/\∀x23,x23=x22*m->Br (x23>0) (R6 (ec sg i.toNat 2-x3)/\∀x24,x24=ec sg i.toNat 2-x3->R6 (x24*m)/\∀x25,x25=x24*m->Br (x25>0) (Q ⟨.agg [I6 d0,I6 1,I6 1],false,[],[]⟩) (Br (x25<0) (Q ⟨.agg [I6 d0,I6 1,I6 (-1)],false,[],[]⟩) (Q ⟨.agg [I6 d0,I6 1,I6 d2],false,[],[]⟩))) (Br (x23<0) ((-9223372036854775808<=ec sg i.toNat 2-x3/\ec sg i.toNat 2-x3<=9223372036854775807)/\∀x26,x26=ec sg i.toNat 2-x3->R6 (x26*m)/\∀x27,x27=x26*m->Br (x27>0) (Q ⟨.agg [I6 d0,I6 (-1),I6 1],false,[],[]⟩) (Br (x27<0) (Q ⟨.agg [I6 d0,I6 (-1),I6 (-1)],false,[],[]⟩) (Q ⟨.agg [I6 d0,I6 (-1),I6 d2],false,[],[]⟩))) (R6 (ec sg i.toNat 2-x3)/\∀x28,x28=ec sg i.toNat 2-x3->R6 (x28*m)/\∀x29,x29=x28*m->Br (x29>0) (Q ⟨.agg [I6 d0,I6 d1,I6 1],false,[],[]⟩) (Br (x29<0) (Q ⟨.agg [I6 d0,I6 d1,I6 (-1)],false,[],[]⟩) (Q ⟨.agg [I6 d0,I6 d1,I6 d2],false,[],[]⟩))))))):=by kernel_rfl
def SSlack(hA:List HV)(pA:List (List HC)):SR:=match hA,pA with
 |[.agg [.int .i64 sta, .int .i64 spa, .int .i64 aca, .int .i64 jea, .int .i64 loa, .int .i64 hia, .int .i64 bla, .int .i64 oga, .int .i64 sga, .sl false [4] pta, .int .i64 stb, .int .i64 spb, .int .i64 acb, .int .i64 jeb, .int .i64 lob, .int .i64 hib, .int .i64 blb, .int .i64 ogb, .int .i64 sgb, .sl false [4] ptb, .int .i64 stc, .int .i64 spc, .int .i64 acc, .int .i64 jec, .int .i64 loc, .int .i64 hic, .int .i64 blc, .int .i64 ogc, .int .i64 sgc, .sl false [4] ptc], .agg [.int .i64 w0, .int .i64 w1, .int .i64 w2], .agg [.int .i64 d0, .int .i64 d1, .int .i64 d2]],[]=> .det True ⟨.ce (I6 (slk bla blb blc w0 w1 w2 d0 d1 d2)),false,[],[]⟩
 |_,_=> .fail
noncomputable def CSlack:Ctx:=⟨Tryz.prog,gam [],Tryz.f56.ntmps,[(4000003,unrT [1000003,1000004,1000005],fun _=> .fail)],[]⟩
theorem vcSlack(sta spa aca jea loa hia bla oga sga stb spb acb jeb lob hib blb ogb sgb stc spc acc jec loc hic blc ogc sgc:Int)(pta ptb ptc:LL)(w0 w1 w2 d0 d1 d2:Int)(Q:Res->Prop):(nfun true CSlack Tryz.f56 (bodyOf Tryz.f56) [.agg [I6 sta,I6 spa,I6 aca,I6 jea,I6 loa,I6 hia,I6 bla,I6 oga,I6 sga, .sl false [4] pta,I6 stb,I6 spb,I6 acb,I6 jeb,I6 lob,I6 hib,I6 blb,I6 ogb,I6 sgb, .sl false [4] ptb,I6 stc,I6 spc,I6 acc,I6 jec,I6 loc,I6 hic,I6 blc,I6 ogc,I6 sgc, .sl false [4] ptc], .agg [I6 w0,I6 w1,I6 w2], .agg [I6 d0,I6 d1,I6 d2]] [] Q)=(Bb (w0 !=d0) (∀x1,x1=max (0:Int) bla->Bb (w1 !=d1) (∀x2,x2=max x1 blb->Bb (w2 !=d2) (∀x3,x3=max x2 blc->Q ⟨.ce (I6 x3),false,[],[]⟩) (Q ⟨.ce (I6 x2),false,[],[]⟩)) (Bb (w2 !=d2) (∀x4,x4=max x1 blc->Q ⟨.ce (I6 x4),false,[],[]⟩) (Q ⟨.ce (I6 x1),false,[],[]⟩))) (Bb (w1 !=d1) (∀x5,x5=max (0:Int) blb->Bb (w2 !=d2) (∀x6,x6=max x5 blc->Q ⟨.ce (I6 x6),false,[],[]⟩) (Q ⟨.ce (I6 x5),false,[],[]⟩)) (Bb (w2 !=d2) (∀x7,x7=max (0:Int) blc->Q ⟨.ce (I6 x7),false,[],[]⟩) (Q ⟨.ce (I6 0),false,[],[]⟩)))):=by kernel_rfl
def SAdd(hA:List HV)(pA:List (List HC)):SR:=match hA,pA with
 |[.ce (.ptr 0 0), .agg [.int .i64 q0, .int .i64 q1, .int .i64 q2, .int .i64 q3, .int .i64 q4, .int .i64 q5, .int .i64 q6, .int .i64 q7, .int .i64 q8, .int .i64 q9]],[[.mu [4,4,4,4,4,4,4,4,4,4] pk, .int .i64 ln, .int .i64 sa, .int .i64 d0, .int .i64 d1, .int .i64 d2]]=> .all ((-2305843009213693952<=q1/\q1<=2305843009213693952)/\(-2305843009213693952<=ln/\ln<=2305843009213693952)/\pk.length<=1000000000000/\∀j,j<pk.length-> -2305843009213693952<=ec pk j 1/\ec pk j 1<=2305843009213693952) (LL×Int) (fun x=>x=tadd pk ln [q0,q1,q2,q3,q4,q5,q6,q7,q8,q9]) (fun x=>⟨.tup [],false,[[.mu [4,4,4,4,4,4,4,4,4,4] x.1,I6 x.2,I6 sa,I6 d0,I6 d1,I6 d2]],[]⟩)
 |_,_=> .fail
noncomputable def CAdd:Ctx:=⟨Tryz.prog,gam [],Tryz.f57.ntmps,[],[71,spl 1 0 0 8,spl 6 0 0 7]⟩
theorem vcAdd(q0 q1 q2 q3 q4 q5 q6 q7 q8 q9 ln sa d0 d1 d2:Int)(pk:LL)(Q:Res->Prop):(nfun true CAdd Tryz.f57 (bodyOf Tryz.f57) [.ce (.ptr 0 0), .agg [I6 q0,I6 q1,I6 q2,I6 q3,I6 q4,I6 q5,I6 q6,I6 q7,I6 q8,I6 q9]] [[.mu [4,4,4,4,4,4,4,4,4,4] pk,I6 ln,I6 sa,I6 d0,I6 d1,I6 d2]] Q)=((pk.length=0->((1:Nat)<=1/\(1:Nat)*80<=140737488355328/\(1:Nat)<=maxLen)/\(∃(x:Nat),(1:Nat)<=x/\x<=maxLen)/\∀(x:Nat),(1:Nat)<=x/\x<=maxLen->((1:Nat)=1/\x=x/\(0:Nat)<1)/\R6 (ln+q1)/\∀x2,x2=ln+q1->Q {val:= .tup [],own:=false,pars:=[[.mu [4,4,4,4,4,4,4,4,4,4] [[ln,q1,q2,q3,q4,q5,q6,q7,q8,q9]],I6 x2,I6 sa,I6 d0,I6 d1,I6 d2]],news:=[]})/\((0:Nat)<pk.length->∀(cap:Nat),pk.length<=cap/\cap<=maxLen->Br ((pk.length:Int)>0) (Bb (q3 !=0) (R6 ((pk.length:Int)-1)/\∀x4,x4=(pk.length:Int)-1->(0<=x4/\x4<(pk.length:Int))/\x4.toNat<pk.length/\∀x5,x5=ec pk x4.toNat 3->Bb (x5==q3) (R6 ((pk.length:Int)-1)/\∀x6,x6=(pk.length:Int)-1->(0<=x6/\x6<(pk.length:Int))/\x6.toNat<pk.length/\Bb (ec pk x6.toNat 7==q7&&(ec pk x6.toNat 8==q8&&(ec pk x6.toNat 9==q9&&true))) (R6 ((pk.length:Int)-1)/\∀x7,x7=(pk.length:Int)-1->(0<=x7/\x7<(pk.length:Int))/\x7.toNat<pk.length/\∀x8,x8=ec pk x7.toNat 1->R6 (x8+q1)/\∀x9,x9=x8+q1->(0<=x7/\x7<(pk.length:Int))/\x7.toNat<pk.length/\(pk.length=List.length (List.set pk x7.toNat [bif false&&true then x9 else el pk x7.toNat,bif true&&true then x9 else ec pk x7.toNat 1,bif true&&false then(0:Int)else ec pk x7.toNat 2,bif true&&false then(0:Int)else ec pk x7.toNat 3,bif true&&false then(0:Int)else ec pk x7.toNat 4,bif true&&false then(0:Int)else ec pk x7.toNat 5,bif true&&false then(0:Int)else ec pk x7.toNat 6,bif true&&false then(0:Int)else ec pk x7.toNat 7,bif true&&false then(0:Int)else ec pk x7.toNat 8,bif true&&false then(0:Int)else ec pk x7.toNat 9])/\cap=cap/\(0:Nat)<List.length (List.set pk x7.toNat [bif false&&true then x9 else el pk x7.toNat,bif true&&true then x9 else ec pk x7.toNat 1,bif true&&false then(0:Int)else ec pk x7.toNat 2,bif true&&false then(0:Int)else ec pk x7.toNat 3,bif true&&false then(0:Int)else ec pk x7.toNat 4,bif true&&false then(0:Int)else ec pk x7.toNat 5,bif true&&false then(0:Int)else ec pk x7.toNat 6,bif true&&false then(0:Int)else ec pk x7.toNat 7,bif true&&false then(0:Int)else ec pk x7.toNat 8,bif true&&false then(0:Int)else ec pk x7.toNat 9]))/\R6 (ln+q1)/\∀x10,x10=ln+q1->Q {val:= .tup [],own:=false,pars:=[[.mu [4,4,4,4,4,4,4,4,4,4] (List.set pk x7.toNat [bif false&&true then x9 else el pk x7.toNat,bif true&&true then x9 else ec pk x7.toNat 1,bif true&&false then(0:Int)else ec pk x7.toNat 2,bif true&&false then(0:Int)else ec pk x7.toNat 3,bif true&&false then(0:Int)else ec pk x7.toNat 4,bif true&&false then(0:Int)else ec pk x7.toNat 5,bif true&&false then(0:Int)else ec pk x7.toNat 6,bif true&&false then(0:Int)else ec pk x7.toNat 7,bif true&&false then(0:Int)else ec pk x7.toNat 8,bif true&&false then(0:Int)else ec pk x7.toNat 9]),I6 x10,I6 sa,I6 d0,I6 d1,I6 d2]],news:=[]}) ((pk.length=pk.length/\cap=cap/\(pk.length+1)*80<=140737488355328/\pk.length+1<=maxLen)/\(∃(x:Nat),pk.length+1<=x/\x<=maxLen)/\∀(x:Nat),pk.length+1<=x/\x<=maxLen->(pk.length+1=List.length (pk++[[ln,q1,q2,q3,q4,q5,q6,q7,q8,q9]])/\x=x/\(0:Nat)<List.length (pk++[[ln,q1,q2,q3,q4,q5,q6,q7,q8,q9]]))/\R6 (ln+q1)/\∀x12,x12=ln+q1->Q {val:= .tup [],own:=false,pars:=[[.mu [4,4,4,4,4,4,4,4,4,4] (pk++[[ln,q1,q2,q3,q4,q5,q6,q7,q8,q9]]),I6 x12,I6 sa,I6 d0,I6 d1,I6 d2]],news:=[]})) ((pk.length=pk.length/\cap=cap/\(pk.length+1)*80<=140737488355328/\pk.length+1<=maxLen)/\(∃(x:Nat),pk.length+1<=x/\x<=maxLen)/\∀(x:Nat),pk.length+1<=x/\x<=maxLen->(pk.length+1=List.length (pk++[[ln,q1,q2,q3,q4,q5,q6,q7,q8,q9]])/\x=x/\(0:Nat)<List.length (pk++[[ln,q1,q2,q3,q4,q5,q6,q7,q8,q9]]))/\R6 (ln+q1)/\∀x14,x14=ln+q1->Q {val:= .tup [],own:=false,pars:=[[.mu [4,4,4,4,4,4,4,4,4,4] (pk++[[ln,q1,q2,q3,q4,q5,q6,q7,q8,q9]]),I6 x14,I6 sa,I6 d0,I6 d1,I6 d2]],news:=[]})) ((pk.length=pk.length/\cap=cap/\(pk.length+1)*80<=140737488355328/\pk.length+1<=maxLen)/\(∃(x:Nat),pk.length+1<=x/\x<=maxLen)/\∀(x:Nat),pk.length+1<=x/\x<=maxLen->(pk.length+1=List.length (pk++[[ln,q1,q2,q3,q4,q5,q6,q7,q8,q9]])/\x=x/\(0:Nat)<List.length (pk++[[ln,q1,q2,q3,q4,q5,q6,q7,q8,q9]]))/\R6 (ln+q1)/\∀x16,x16=ln+q1->Q {val:= .tup [],own:=false,pars:=[[.mu [4,4,4,4,4,4,4,4,4,4] (pk++[[ln,q1,q2,q3,q4,q5,q6,q7,q8,q9]]),I6 x16,I6 sa,I6 d0,I6 d1,I6 d2]],news:=[]})) ((pk.length=pk.length/\cap=cap/\(pk.length+1)*80<=140737488355328/\pk.length+1<=maxLen)/\(∃(x:Nat),pk.length+1<=x/\x<=maxLen)/\∀(x:Nat),pk.length+1<=x/\x<=maxLen->(pk.length+1=List.length (pk++[[ln,q1,q2,q3,q4,q5,q6,q7,q8,q9]])/\x=x/\(0:Nat)<List.length (pk++[[ln,q1,q2,q3,q4,q5,q6,q7,q8,q9]]))/\R6 (ln+q1)/\∀x18,x18=ln+q1->Q {val:= .tup [],own:=false,pars:=[[.mu [4,4,4,4,4,4,4,4,4,4] (pk++[[ln,q1,q2,q3,q4,q5,q6,q7,q8,q9]]),I6 x18,I6 sa,I6 d0,I6 d1,I6 d2]],news:=[]}))):=by kernel_rfl
end Go.Proofs.YthkoabbiiadbjaaGreat
namespace U
theorem bgn_bd{s i:Int}{sg:LL}{c:Nat}(h0: -536870912<=s/\s<=536870912)(h:∀j,j<sg.length-> -536870912<=ec sg j c/\ec sg j c<=536870912)(hi:i<=sg.length): -536870912<=bgn s sg c i/\bgn s sg c i<=536870912:=by
 unfold bgn;by_cases hh:i<=0
 . rw[if_pos hh];exact h0
 . rw[if_neg hh];exact h _ (by omega)
theorem sl1_t{a b m n:Int}(h:(a !=b)=true):max n m=sl1 a b m n:=by unfold sl1;rw[if_pos (by simpa using h)]
theorem sl1_f{a b m n:Int}(h:(a !=b)=false):n=sl1 a b m n:=by unfold sl1;rw[if_neg (by simpa using h)]
theorem tadd_app{pk:LL}{ln q0 q1 q2 q3 q4 q5 q6 q7 q8 q9:Int}(h:¬(0<pk.length/\q3≠0/\ec pk (pk.length-1) 3=q3/\ec pk (pk.length-1) 7=q7/\ec pk (pk.length-1) 8=q8/\ec pk (pk.length-1) 9=q9)):tadd pk ln [q0,q1,q2,q3,q4,q5,q6,q7,q8,q9]=(pk++[[ln,q1,q2,q3,q4,q5,q6,q7,q8,q9]],ln+q1):=if_neg h
theorem tadd_more{pk:LL}{ln q0 q1 q2 q3 q4 q5 q6 q7 q8 q9:Int}(h:0<pk.length/\q3≠0/\ec pk (pk.length-1) 3=q3/\ec pk (pk.length-1) 7=q7/\ec pk (pk.length-1) 8=q8/\ec pk (pk.length-1) 9=q9):tadd pk ln [q0,q1,q2,q3,q4,q5,q6,q7,q8,q9]=(pk.set (pk.length-1) (more (pk.getD (pk.length-1) []) q1),ln+q1):=if_pos h
end U
namespace Go.Proofs.YthkoabbiiadbjaaGreat
open Go Go.HL U
attribute [local irreducible] hfun bodyT fragT
theorem sFacing:Sound Tryz.prog 55 SFacing:=by
 refine sound_of (C:=CFacing) tabFacing Tryz.func55 (by kernel_rfl) (by decide+kernel) (by kernel_rfl) rfl ⟨sBegin,trivial⟩ (loopsAll (by kernel_rfl)) ?_;intro hA pA R h;unfold SFacing at h;split at h;case h_2=>exfalso;exact h
 rename_i s0 s1 s2 sg mk d0 d1 d2 i m;obtain⟨⟨⟨hi0,hi1⟩,hm,⟨k0,k1,k2,kk⟩,hlen⟩,hq⟩:=h;have hq:∀e0 e1 e2,e0=fc1 (bgn s0 sg 0 i) (ec sg i.toNat 0) m d0->e1=fc1 (bgn s1 sg 1 i) (ec sg i.toNat 1) m d1->e2=fc1 (bgn s2 sg 2 i) (ec sg i.toNat 2) m d2->R ⟨.agg [I6 e0,I6 e1,I6 e2],false,[],[]⟩:=fun e0 e1 e2 h0 h1 h2=>by rw[h0,h1,h2];exact hq
 have b0:=bgn_bd (i:=i) k0 (fun j hj=>(kk j hj).1) (by omega);have b1:=bgn_bd (i:=i) k1 (fun j hj=>(kk j hj).2.1) (by omega);have b2:=bgn_bd (i:=i) k2 (fun j hj=>(kk j hj).2.2) (by omega);obtain⟨c0,c1,c2⟩:=kk i.toNat (by omega);have c0: -536870912<=el sg i.toNat/\el sg i.toNat<=536870912:=c0;refine byVC (vcFacing s0 s1 s2 d0 d1 d2 i m sg mk R) ?_;clear kk k0 k1 k2;refine⟨⟨by omega,hlen⟩,?_⟩;rintro _ rfl _ rfl _ rfl;have hq:∀e0 e1 e2,e0=fc1 (bgn s0 sg 0 i) (el sg i.toNat) m d0->e1=fc1 (bgn s1 sg 1 i) (ec sg i.toNat 1) m d1->e2=fc1 (bgn s2 sg 2 i) (ec sg i.toNat 2) m d2->R ⟨.agg [I6 e0,I6 e1,I6 e2],false,[],[]⟩:=hq;generalize bgn s0 sg 0 i=A0 at*;generalize bgn s1 sg 1 i=A1 at*;generalize bgn s2 sg 2 i=A2 at*;generalize el sg i.toNat=B0 at*;generalize ec sg i.toNat 1=B1 at*;generalize ec sg i.toNat 2=B2 at*;have n0: -1073741824<=(B0-A0)*m/\(B0-A0)*m<=1073741824:=by rcases hm with rfl|rfl<;>omega
 have n1: -1073741824<=(B1-A1)*m/\(B1-A1)*m<=1073741824:=by rcases hm with rfl|rfl<;>omega
 have n2: -1073741824<=(B2-A2)*m/\(B2-A2)*m<=1073741824:=by rcases hm with rfl|rfl<;>omega
 refine⟨⟨hi0,hi1⟩,by omega,?_⟩;rintro _ rfl;refine⟨by omega,?_⟩;rintro _ rfl;unfold fc1 at hq;generalize(B0-A0)*m=V0 at*;have t1:∀e0,e0=(if V0>0 then 1 else if V0<0 then-1 else d0)->((-9223372036854775808<=B1-A1/\B1-A1<=9223372036854775807)/\∀x:Int,x=B1-A1->(-9223372036854775808<=x*m/\x*m<=9223372036854775807)/\∀y:Int,y=x*m->(decide (y>0)=true->((-9223372036854775808<=B2-A2/\B2-A2<=9223372036854775807)/\∀x:Int,x=B2-A2->(-9223372036854775808<=x*m/\x*m<=9223372036854775807)/\∀y:Int,y=x*m->(decide (y>0)=true->R ⟨.agg [I6 e0,I6 1,I6 1],false,[],[]⟩)/\(decide (y>0)=false->(decide (y<0)=true->R ⟨.agg [I6 e0,I6 1,I6 (-1)],false,[],[]⟩)/\(decide (y<0)=false->R ⟨.agg [I6 e0,I6 1,I6 d2],false,[],[]⟩))))/\(decide (y>0)=false->(decide (y<0)=true->((-9223372036854775808<=B2-A2/\B2-A2<=9223372036854775807)/\∀x:Int,x=B2-A2->(-9223372036854775808<=x*m/\x*m<=9223372036854775807)/\∀y:Int,y=x*m->(decide (y>0)=true->R ⟨.agg [I6 e0,I6 (-1),I6 1],false,[],[]⟩)/\(decide (y>0)=false->(decide (y<0)=true->R ⟨.agg [I6 e0,I6 (-1),I6 (-1)],false,[],[]⟩)/\(decide (y<0)=false->R ⟨.agg [I6 e0,I6 (-1),I6 d2],false,[],[]⟩))))/\(decide (y<0)=false->((-9223372036854775808<=B2-A2/\B2-A2<=9223372036854775807)/\∀x:Int,x=B2-A2->(-9223372036854775808<=x*m/\x*m<=9223372036854775807)/\∀y:Int,y=x*m->(decide (y>0)=true->R ⟨.agg [I6 e0,I6 d1,I6 1],false,[],[]⟩)/\(decide (y>0)=false->(decide (y<0)=true->R ⟨.agg [I6 e0,I6 d1,I6 (-1)],false,[],[]⟩)/\(decide (y<0)=false->R ⟨.agg [I6 e0,I6 d1,I6 d2],false,[],[]⟩)))))):=by
  intro e0 h0;refine⟨by omega,?_⟩;rintro _ rfl;refine⟨by omega,?_⟩;rintro _ rfl;generalize(B1-A1)*m=V1 at*;have t2:∀e1,e1=(if V1>0 then 1 else if V1<0 then-1 else d1)->((-9223372036854775808<=B2-A2/\B2-A2<=9223372036854775807)/\∀x:Int,x=B2-A2->(-9223372036854775808<=x*m/\x*m<=9223372036854775807)/\∀y:Int,y=x*m->(decide (y>0)=true->R ⟨.agg [I6 e0,I6 e1,I6 1],false,[],[]⟩)/\(decide (y>0)=false->(decide (y<0)=true->R ⟨.agg [I6 e0,I6 e1,I6 (-1)],false,[],[]⟩)/\(decide (y<0)=false->R ⟨.agg [I6 e0,I6 e1,I6 d2],false,[],[]⟩))):=by
   intro e1 h1;refine⟨by omega,?_⟩;rintro _ rfl;refine⟨by omega,?_⟩;rintro _ rfl;generalize(B2-A2)*m=V2 at*;refine⟨fun g=>hq _ _ _ h0 h1 ?_,fun g=>⟨fun g2=>hq _ _ _ h0 h1 ?_,fun g2=>hq _ _ _ h0 h1 ?_⟩⟩
   . rw[if_pos (odt g)]
   . rw[if_neg (odf g),if_pos (odt g2)]
   . rw[if_neg (odf g),if_neg (odf g2)]
  refine⟨fun g=>t2 _ ?_,fun g=>⟨fun g2=>t2 _ ?_,fun g2=>t2 _ ?_⟩⟩
  . rw[if_pos (odt g)]
  . rw[if_neg (odf g),if_pos (odt g2)]
  . rw[if_neg (odf g),if_neg (odf g2)]
 refine⟨fun g=>t1 _ ?_,fun g=>⟨fun g2=>t1 _ ?_,fun g2=>t1 _ ?_⟩⟩
 . rw[if_pos (odt g)]
 . rw[if_neg (odf g),if_pos (odt g2)]
 . rw[if_neg (odf g),if_neg (odf g2)]
theorem sSlack:Sound Tryz.prog 56 SSlack:=by
 refine sound_of (C:=CSlack) [] Tryz.func56 (by kernel_rfl) (by decide+kernel) (by kernel_rfl) rfl trivial (loopsAll (by kernel_rfl)) ?_;intro hA pA R h;unfold SSlack at h;split at h;case h_2=>exfalso;exact h
 rename_i sta spa aca jea loa hia bla oga sga pta stb spb acb jeb lob hib blb ogb sgb ptb stc spc acc jec loc hic blc ogc sgc ptc w0 w1 w2 d0 d1 d2;obtain⟨_,hq⟩:=h;have hq:∀e0 e1 e2,e0=sl1 w0 d0 bla 0->e1=sl1 w1 d1 blb e0->e2=sl1 w2 d2 blc e1->R ⟨.ce (I6 e2),false,[],[]⟩:=fun e0 e1 e2 h0 h1 h2=>by rw[h2,h1,h0];exact hq
 refine byVC (vcSlack sta spa aca jea loa hia bla oga sga stb spb acb jeb lob hib blb ogb sgb stc spc acc jec loc hic blc ogc sgc pta ptb ptc w0 w1 w2 d0 d1 d2 R) ?_;repeat' first|apply And.intro|(rintro _ rfl)|intro _
 all_goals first
  |exact hq _ _ _ (by first|exact sl1_t (by assumption)|exact sl1_f (by assumption)) (by first|exact sl1_t (by assumption)|exact sl1_f (by assumption)) (by first|exact sl1_t (by assumption)|exact sl1_f (by assumption))
  |omega
theorem sAdd:Sound Tryz.prog 57 SAdd:=by
 refine sound_of (C:=CAdd) [] Tryz.func57 (by kernel_rfl) (by decide+kernel) (by kernel_rfl) rfl trivial (loops0 (by kernel_rfl)) ?_;intro hA pA R h;unfold SAdd at h;split at h;case h_2=>exfalso;exact h
 rename_i q0 q1 q2 q3 q4 q5 q6 q7 q8 q9 pk ln sa d0 d1 d2;obtain⟨⟨hq1,hln,hlen,hpk⟩,_,hq⟩:=h;have app:¬(0<pk.length/\q3≠0/\ec pk (pk.length-1) 3=q3/\ec pk (pk.length-1) 7=q7/\ec pk (pk.length-1) 8=q8/\ec pk (pk.length-1) 9=q9)->∀x:Int,x=ln+q1->R ⟨.tup [],false,[[.mu [4,4,4,4,4,4,4,4,4,4] (pk++[[ln,q1,q2,q3,q4,q5,q6,q7,q8,q9]]),I6 x,I6 sa,I6 d0,I6 d1,I6 d2]],[]⟩:=by
  intro hh x e;have:=hq _ rfl;rw[tadd_app hh]at this;rw[e];exact this
 have grow:∀cap:Nat,pk.length<=cap->(pk.length=pk.length/\cap=cap/\(pk.length+1)*80<=140737488355328/\pk.length+1<=maxLen)/\(∃x:Nat,pk.length+1<=x/\x<=maxLen):=fun cap _=>⟨⟨rfl,rfl,by omega,by unfold maxLen;omega⟩,⟨pk.length+1,Nat.le_refl _,by unfold maxLen;omega⟩⟩;have room:∀x:Nat,(pk.length+1=(pk++[[ln,q1,q2,q3,q4,q5,q6,q7,q8,q9]]).length/\x=x/\0<(pk++[[ln,q1,q2,q3,q4,q5,q6,q7,q8,q9]]).length):=fun x=>by simp
 refine byVC (vcAdd q0 q1 q2 q3 q4 q5 q6 q7 q8 q9 ln sa d0 d1 d2 pk R) ⟨fun h0=> ?_,fun h0 cap hcap=>⟨fun g1=>⟨fun g2=>⟨by omega,fun x4 e4=>⟨by omega,by omega,fun x5 e5=>⟨fun g3=>⟨by omega,fun x6 e6=>⟨by omega,by omega,fun g4=> ?_,fun g4=> ?_⟩⟩,fun g3=> ?_⟩⟩⟩,fun g2=> ?_⟩,fun g1=> ?_⟩⟩
 . obtain rfl:pk=[]:=List.eq_nil_of_length_eq_zero h0;refine⟨⟨by decide,by decide,by unfold maxLen;decide⟩,⟨1,by decide,by unfold maxLen;decide⟩,fun x hx=>⟨⟨rfl,rfl,by decide⟩,by omega,fun x2 e2=> ?_⟩⟩;exact app (fun hh=>absurd hh.1 (by decide)) x2 e2
 . have g2:q3≠0:=by simpa using g2
   have g3:x5=q3:=by simpa using g3
   have ht:x4.toNat=pk.length-1:=by omega
   have ht6:x6.toNat=pk.length-1:=by omega
   rw[ht]at e5;rw[ht6]at g4;have g4:ec pk (pk.length-1) 7=q7/\ec pk (pk.length-1) 8=q8/\ec pk (pk.length-1) 9=q9:=by simpa using g4
   have hb:=hpk (pk.length-1) (by omega);refine⟨by omega,fun x7 e7=> ?_⟩;have ht7:x7.toNat=pk.length-1:=by omega
   rw[ht7];refine⟨by omega,by omega,fun x8 e8=>⟨by omega,fun x9 e9=>⟨by omega,by omega,⟨by rw[List.length_set],rfl,by rw[List.length_set];exact h0⟩,by omega,fun x10 e10=> ?_⟩⟩⟩;have:=hq _ rfl;rw[tadd_more ⟨h0,g2,by rw[<-e5];exact g3,g4⟩]at this;rw[e10,e9,e8];exact this
 . have no:¬(ec pk (pk.length-1) 7=q7/\ec pk (pk.length-1) 8=q8/\ec pk (pk.length-1) 9=q9):=fun hh=>by
    have ht6:x6.toNat=pk.length-1:=by omega
    rw[ht6,hh.1,hh.2.1,hh.2.2]at g4;simp at g4
   exact⟨(grow cap hcap.1).1,(grow cap hcap.1).2,fun x hx=>⟨room x,by omega,fun x12 e12=>app (fun hh=>no hh.2.2.2) x12 e12⟩⟩
 . have no:¬ec pk (pk.length-1) 3=q3:=fun hh=>by
    have ht:x4.toNat=pk.length-1:=by omega
    rw[ht,hh]at e5;rw[e5]at g3;simp at g3
   exact⟨(grow cap hcap.1).1,(grow cap hcap.1).2,fun x hx=>⟨room x,by omega,fun x12 e12=>app (fun hh=>no hh.2.2.1) x12 e12⟩⟩
 . have no:¬q3≠0:=by simpa using g2
   exact⟨(grow cap hcap.1).1,(grow cap hcap.1).2,fun x hx=>⟨room x,by omega,fun x12 e12=>app (fun hh=>no hh.2.1) x12 e12⟩⟩
 . have g1:=odf g1;omega
end Go.Proofs.YthkoabbiiadbjaaGreat
namespace U
open Go
structure LegS where
 pk:LL
 ln:Int
 a0:Int
 a1:Int
 a2:Int
 bg:Int
def legI(n:Nat)(m:Int)(k:Nat):Int:=if m<0 then(n:Int)-1-(k:Int)else(k:Int)
def legTk(pk:LL)(ln u s a0 a1 a2 n0 n1 n2:Int):LL×Int:=if u>0 then tadd pk ln [0,u,s,0,a0,a1,a2,n0,n1,n2]else(pk,ln)
def legS(m low high:Int):Int:=if m<0 then high else low
def legPut(b0 b1 b2 m low high e n0 n1 n2:Int)(x:LegS):LegS:=if low<high then⟨(tadd (legTk x.pk x.ln (slk b0 b1 b2 x.a0 x.a1 x.a2 n0 n1 n2) (legS m low high) x.a0 x.a1 x.a2 n0 n1 n2).1 (legTk x.pk x.ln (slk b0 b1 b2 x.a0 x.a1 x.a2 n0 n1 n2) (legS m low high) x.a0 x.a1 x.a2 n0 n1 n2).2 [0,high-low,legS m low high,m,n0,n1,n2,n0,n1,n2]).1,(tadd (legTk x.pk x.ln (slk b0 b1 b2 x.a0 x.a1 x.a2 n0 n1 n2) (legS m low high) x.a0 x.a1 x.a2 n0 n1 n2).1 (legTk x.pk x.ln (slk b0 b1 b2 x.a0 x.a1 x.a2 n0 n1 n2) (legS m low high) x.a0 x.a1 x.a2 n0 n1 n2).2 [0,high-low,legS m low high,m,n0,n1,n2,n0,n1,n2]).2,n0,n1,n2,e⟩else⟨x.pk,x.ln,x.a0,x.a1,x.a2,e⟩
def legE(sg:LL)(m bg i:Int):Int:=bg+m*ec sg i.toNat 3
def legLow(bg e f t:Int):Int:=max (min bg e) (min f t)
def legHigh(bg e f t:Int):Int:=min (max bg e) (max f t)
def legSeg(s0 s1 s2:Int)(sg:LL)(b0 b1 b2 f t m:Int)(x:LegS)(i:Int):LegS:=legPut b0 b1 b2 m (legLow x.bg (legE sg m x.bg i) f t) (legHigh x.bg (legE sg m x.bg i) f t) (legE sg m x.bg i) (fc1 (bgn s0 sg 0 i) (ec sg i.toNat 0) m x.a0) (fc1 (bgn s1 sg 1 i) (ec sg i.toNat 1) m x.a1) (fc1 (bgn s2 sg 2 i) (ec sg i.toNat 2) m x.a2) x
def legStep(s0 s1 s2:Int)(sg:LL)(b0 b1 b2 f t m:Int)(x:LegS)(k:Nat):LegS:=legSeg s0 s1 s2 sg b0 b1 b2 f t m x (legI sg.length m k)
def legK(s0 s1 s2:Int)(sg:LL)(b0 b1 b2 f t m:Int)(x:LegS):Nat->LegS
 |0=>x
 |k+1=>legStep s0 s1 s2 sg b0 b1 b2 f t m (legK s0 s1 s2 sg b0 b1 b2 f t m x k) k
def clamp(n v:Int):Int:=min (max v 0) n
def legM(f t:Int):Int:=if t<f then-1 else 1
def leg(s0 s1 s2:Int)(sg:LL)(b0 b1 b2 d0 d1 d2 f t:Int):LegS:=legK s0 s1 s2 sg b0 b1 b2 f t (legM f t) ⟨[],0,d0,d1,d2,if legM f t<0 then plen sg else 0⟩ sg.length
def okB3(b0 b1 b2:Int):Prop:=(0<=b0/\b0<=4096)/\(0<=b1/\b1<=4096)/\(0<=b2/\b2<=4096)
end U
namespace Go.Proofs.YthkoabbiiadbjaaGreat
open Go Go.HL U
def SLeg(hA:List HV)(pA:List (List HC)):SR:=match hA,pA with
 |[.agg [.int .i64 s0, .int .i64 s1, .int .i64 s2, .sl false [4,4,4,4,4,4,4] sg, .sl false [4,4,4] mk], .agg ax, .agg [.int .i64 d0, .int .i64 d1, .int .i64 d2], .ce (.int .i64 f), .ce (.int .i64 t)],[]=>match ax with
  |[.int .i64 sta, .int .i64 spa, .int .i64 aca, .int .i64 jea, .int .i64 loa, .int .i64 hia, .int .i64 bla, .int .i64 oga, .int .i64 sga, .sl false [4] pta, .int .i64 stb, .int .i64 spb, .int .i64 acb, .int .i64 jeb, .int .i64 lob, .int .i64 hib, .int .i64 blb, .int .i64 ogb, .int .i64 sgb, .sl false [4] ptb, .int .i64 stc, .int .i64 spc, .int .i64 acc, .int .i64 jec, .int .i64 loc, .int .i64 hic, .int .i64 blc, .int .i64 ogc, .int .i64 sgc, .sl false [4] ptc]=> .all (okLen sg/\okPts s0 s1 s2 sg/\okB3 bla blb blc) LegS (fun x=>x=leg s0 s1 s2 sg bla blb blc d0 d1 d2 (clamp (plen sg) f) (clamp (plen sg) t)) (fun x=>⟨.agg [.sl false [4,4,4,4,4,4,4,4,4,4] x.pk,I6 x.ln,I6 (clamp (plen sg) f),I6 d0,I6 d1,I6 d2],false,[],[]⟩)
  |_=> .fail
 |_,_=> .fail
def tabLeg:List (FuncId×HL.Spec):=[(23,SPLen),(55,SFacing),(56,SSlack),(57,SAdd)]
def anLeg:LAnn:=⟨[3,4,5,6,10,12,13,14,15,45,46,47],[10,12],[1000005,1000006,1000010,1000012,1000014],false⟩
def LLeg(v:LV):LR:=match v with
 |([.ce (.int .i64 f), .ce (.int .i64 t), .ce (.ptr 1000005 0), .ce (.ptr 1000006 0), .ce (.ptr 1000010 0), .ce (.ptr 1000012 0), .ce (.int .i64 m), .ce (.ptr 1000014 0), .ce (.int .i64 bg), .ce (.sl false [4,4,4,4,4,4,4] l), .ce (.int .i64 n), .ce (.int .i64 k)],[[.int .i64 s0, .int .i64 s1, .int .i64 s2, .sl false [4,4,4,4,4,4,4] sg, .sl false [4,4,4] mk],ax,bz,bt,[.int .i64 a0, .int .i64 a1, .int .i64 a2]])=>match ax with
  |[.int .i64 sta, .int .i64 spa, .int .i64 aca, .int .i64 jea, .int .i64 loa, .int .i64 hia, .int .i64 bla, .int .i64 oga, .int .i64 sga, .sl false [4] pta, .int .i64 stb, .int .i64 spb, .int .i64 acb, .int .i64 jeb, .int .i64 lob, .int .i64 hib, .int .i64 blb, .int .i64 ogb, .int .i64 sgb, .sl false [4] ptb, .int .i64 stc, .int .i64 spc, .int .i64 acc, .int .i64 jec, .int .i64 loc, .int .i64 hic, .int .i64 blc, .int .i64 ogc, .int .i64 sgc, .sl false [4] ptc]=>match bz,bt with
   |[.sl true [4,4,4,4,4,4,4,4,4,4] zz, .int .i64 z1, .int .i64 z2, .int .i64 z3, .int .i64 z4, .int .i64 z5],[.mu [4,4,4,4,4,4,4,4,4,4] pk, .int .i64 ln, .int .i64 sa, .int .i64 d0, .int .i64 d1, .int .i64 d2]=> .all (n=l.length/\k=0/\l=sg/\(m=1/\bg=0∨m= -1/\bg=plen sg)/\(0<=f/\f<=plen sg)/\(0<=t/\t<=plen sg)/\pk.length=0/\ln=0/\okLen sg/\okPts s0 s1 s2 sg/\okB3 bla blb blc) LegS (fun x=>x=legK s0 s1 s2 sg bla blb blc f t m ⟨[],0,a0,a1,a2,bg⟩ sg.length) (fun _=> .exit 0) (fun x=>([.ce (.ptr 1000010 0), .ce (.ptr 1000012 0)],[[I6 s0,I6 s1,I6 s2, .sl false [4,4,4,4,4,4,4] sg, .sl false [4,4,4] mk],[I6 sta,I6 spa,I6 aca,I6 jea,I6 loa,I6 hia,I6 bla,I6 oga,I6 sga, .sl false [4] pta,I6 stb,I6 spb,I6 acb,I6 jeb,I6 lob,I6 hib,I6 blb,I6 ogb,I6 sgb, .sl false [4] ptb,I6 stc,I6 spc,I6 acc,I6 jec,I6 loc,I6 hic,I6 blc,I6 ogc,I6 sgc, .sl false [4] ptc],[.sl true [4,4,4,4,4,4,4,4,4,4] zz,I6 z1,I6 z2,I6 z3,I6 z4,I6 z5],[.mu [4,4,4,4,4,4,4,4,4,4] x.pk,I6 x.ln,I6 sa,I6 d0,I6 d1,I6 d2],[I6 x.a0,I6 x.a1,I6 x.a2]]))
   |_,_=> .fail
  |_=> .fail
 |_=> .fail
noncomputable def CLeg:Ctx:=⟨Tryz.prog,gam tabLeg,Tryz.f22.ntmps,[(11,anLeg,LLeg)],[119,spl 10 1000012 0 9]⟩
theorem vbLeg(s0 s1 s2 f t m bg n k a0 a1 a2 z1 z2 z3 z4 z5 ln sa d0 d1 d2:Int)(sg mk l zz pk:LL)(sta spa aca jea loa hia bla oga sga stb spb acb jeb lob hib blb ogb sgb stc spc acc jec loc hic blc ogc sgc:Int)(pta ptb ptc:LL)(K:HEx->LV->Prop):(nbodyT true CLeg anLeg (nthLoop Tryz.f22 0) (([.ce (I6 f), .ce (I6 t), .ce (.ptr 1000005 0), .ce (.ptr 1000006 0), .ce (.ptr 1000010 0), .ce (.ptr 1000012 0), .ce (I6 m), .ce (.ptr 1000014 0), .ce (I6 bg), .ce (.sl false [4,4,4,4,4,4,4] l), .ce (I6 n), .ce (I6 k)],[[I6 s0,I6 s1,I6 s2, .sl false [4,4,4,4,4,4,4] sg, .sl false [4,4,4] mk],[I6 sta,I6 spa,I6 aca,I6 jea,I6 loa,I6 hia,I6 bla,I6 oga,I6 sga, .sl false [4] pta,I6 stb,I6 spb,I6 acb,I6 jeb,I6 lob,I6 hib,I6 blb,I6 ogb,I6 sgb, .sl false [4] ptb,I6 stc,I6 spc,I6 acc,I6 jec,I6 loc,I6 hic,I6 blc,I6 ogc,I6 sgc, .sl false [4] ptc],[.sl true [4,4,4,4,4,4,4,4,4,4] zz,I6 z1,I6 z2,I6 z3,I6 z4,I6 z5],[.mu [4,4,4,4,4,4,4,4,4,4] pk,I6 ln,I6 sa,I6 d0,I6 d1,I6 d2],[I6 a0,I6 a1,I6 a2]])) K)=(Br (k<n) (Br (m<0) (R6 ((sg.length:Int)-1)/\∀x1,x1=(sg.length:Int)-1->R6 (x1-k)/\∀x2,x2=x1-k->(0<=x2/\x2<(sg.length:Int))/\∀x3,x3=ec sg x2.toNat 3->R6 (m*x3)/\∀x4,x4=m*x3->R6 (bg+x4)/\∀x5,x5=bg+x4->∀x6,x6=min bg x5->∀x7,x7=min f t->∀x8,x8=max x6 x7->∀x9,x9=max bg x5->∀x10,x10=max f t->∀x11,x11=min x9 x10->Br (x8<x11) (((0<=x2/\x2<(sg.length:Int))/\(m=1∨m=(-1:Int))/\okPts s0 s1 s2 sg/\sg.length<=1073741824)/\∀x12,x12=fc1 (bgn s0 sg (0:Nat) x2) (ec sg x2.toNat 0) m a0->∀x13,x13=fc1 (bgn s1 sg (1:Nat) x2) (ec sg x2.toNat 1) m a1->∀x14,x14=fc1 (bgn s2 sg (2:Nat) x2) (ec sg x2.toNat 2) m a2->Br (m<0) (True/\∀x15,x15=slk bla blb blc a0 a1 a2 x12 x13 x14->Br (x15>0) (((-2305843009213693952<=x15/\x15<=2305843009213693952)/\(-2305843009213693952<=ln/\ln<=2305843009213693952)/\pk.length<=1000000000000/\∀(j:Nat),j<pk.length-> -2305843009213693952<=ec pk j 1/\ec pk j 1<=2305843009213693952)/\(∃(x:LL×Int),x=tadd pk ln [(0:Int),x15,x11,(0:Int),a0,a1,a2,x12,x13,x14])/\∀(x:LL×Int),x=tadd pk ln [(0:Int),x15,x11,(0:Int),a0,a1,a2,x12,x13,x14]->R6 (x11-x8)/\∀x18,x18=x11-x8->((-2305843009213693952<=x18/\x18<=2305843009213693952)/\((-2305843009213693952:Int)<=x.2/\x.2<=2305843009213693952)/\List.length x.1<=1000000000000/\∀(j:Nat),j<List.length x.1-> -2305843009213693952<=ec x.1 j 1/\ec x.1 j 1<=2305843009213693952)/\(∃(x_1:LL×Int),x_1=tadd x.1 x.2 [(0:Int),x18,x11,m,x12,x13,x14,x12,x13,x14])/\∀(x_1:LL×Int),x_1=tadd x.1 x.2 [(0:Int),x18,x11,m,x12,x13,x14,x12,x13,x14]->R6 (k+1)/\∀x21,x21=k+1->K .normal ([.ce (I6 f), .ce (I6 t), .ce (.ptr 1000005 0), .ce (.ptr 1000006 0), .ce (.ptr 1000010 0), .ce (.ptr 1000012 0), .ce (I6 m), .ce (.ptr 1000014 0), .ce (I6 x5), .ce (.sl false [4,4,4,4,4,4,4] l), .ce (I6 n), .ce (I6 x21)],[[I6 s0,I6 s1,I6 s2, .sl false [4,4,4,4,4,4,4] sg, .sl false [4,4,4] mk],[I6 sta,I6 spa,I6 aca,I6 jea,I6 loa,I6 hia,I6 bla,I6 oga,I6 sga, .sl false [4] pta,I6 stb,I6 spb,I6 acb,I6 jeb,I6 lob,I6 hib,I6 blb,I6 ogb,I6 sgb, .sl false [4] ptb,I6 stc,I6 spc,I6 acc,I6 jec,I6 loc,I6 hic,I6 blc,I6 ogc,I6 sgc, .sl false [4] ptc],[.sl true [4,4,4,4,4,4,4,4,4,4] zz,I6 z1,I6 z2,I6 z3,I6 z4,I6 z5],[.mu [4,4,4,4,4,4,4,4,4,4] x_1.1,I6 x_1.2,I6 sa,I6 d0,I6 d1,I6 d2],[I6 x12,I6 x13,I6 x14]])) (R6 (x11-x8)/\∀x22,x22=x11-x8->((-2305843009213693952<=x22/\x22<=2305843009213693952)/\(-2305843009213693952<=ln/\ln<=2305843009213693952)/\pk.length<=1000000000000/\∀(j:Nat),j<pk.length-> -2305843009213693952<=ec pk j 1/\ec pk j 1<=2305843009213693952)/\(∃(x:LL×Int),x=tadd pk ln [(0:Int),x22,x11,m,x12,x13,x14,x12,x13,x14])/\∀(x:LL×Int),x=tadd pk ln [(0:Int),x22,x11,m,x12,x13,x14,x12,x13,x14]->R6 (k+1)/\∀x25,x25=k+1->K .normal ([.ce (I6 f), .ce (I6 t), .ce (.ptr 1000005 0), .ce (.ptr 1000006 0), .ce (.ptr 1000010 0), .ce (.ptr 1000012 0), .ce (I6 m), .ce (.ptr 1000014 0), .ce (I6 x5), .ce (.sl false [4,4,4,4,4,4,4] l), .ce (I6 n), .ce (I6 x25)],[[I6 s0,I6 s1,I6 s2, .sl false [4,4,4,4,4,4,4] sg, .sl false [4,4,4] mk],[I6 sta,I6 spa,I6 aca,I6 jea,I6 loa,I6 hia,I6 bla,I6 oga,I6 sga, .sl false [4] pta,I6 stb,I6 spb,I6 acb,I6 jeb,I6 lob,I6 hib,I6 blb,I6 ogb,I6 sgb, .sl false [4] ptb,I6 stc,I6 spc,I6 acc,I6 jec,I6 loc,I6 hic,I6 blc,I6 ogc,I6 sgc, .sl false [4] ptc],[.sl true [4,4,4,4,4,4,4,4,4,4] zz,I6 z1,I6 z2,I6 z3,I6 z4,I6 z5],[.mu [4,4,4,4,4,4,4,4,4,4] x.1,I6 x.2,I6 sa,I6 d0,I6 d1,I6 d2],[I6 x12,I6 x13,I6 x14]]))) (True/\∀x26,x26=slk bla blb blc a0 a1 a2 x12 x13 x14->Br (x26>0) (((-2305843009213693952<=x26/\x26<=2305843009213693952)/\(-2305843009213693952<=ln/\ln<=2305843009213693952)/\pk.length<=1000000000000/\∀(j:Nat),j<pk.length-> -2305843009213693952<=ec pk j 1/\ec pk j 1<=2305843009213693952)/\(∃(x:LL×Int),x=tadd pk ln [(0:Int),x26,x8,(0:Int),a0,a1,a2,x12,x13,x14])/\∀(x:LL×Int),x=tadd pk ln [(0:Int),x26,x8,(0:Int),a0,a1,a2,x12,x13,x14]->R6 (x11-x8)/\∀x29,x29=x11-x8->((-2305843009213693952<=x29/\x29<=2305843009213693952)/\((-2305843009213693952:Int)<=x.2/\x.2<=2305843009213693952)/\List.length x.1<=1000000000000/\∀(j:Nat),j<List.length x.1-> -2305843009213693952<=ec x.1 j 1/\ec x.1 j 1<=2305843009213693952)/\(∃(x_1:LL×Int),x_1=tadd x.1 x.2 [(0:Int),x29,x8,m,x12,x13,x14,x12,x13,x14])/\∀(x_1:LL×Int),x_1=tadd x.1 x.2 [(0:Int),x29,x8,m,x12,x13,x14,x12,x13,x14]->R6 (k+1)/\∀x32,x32=k+1->K .normal ([.ce (I6 f), .ce (I6 t), .ce (.ptr 1000005 0), .ce (.ptr 1000006 0), .ce (.ptr 1000010 0), .ce (.ptr 1000012 0), .ce (I6 m), .ce (.ptr 1000014 0), .ce (I6 x5), .ce (.sl false [4,4,4,4,4,4,4] l), .ce (I6 n), .ce (I6 x32)],[[I6 s0,I6 s1,I6 s2, .sl false [4,4,4,4,4,4,4] sg, .sl false [4,4,4] mk],[I6 sta,I6 spa,I6 aca,I6 jea,I6 loa,I6 hia,I6 bla,I6 oga,I6 sga, .sl false [4] pta,I6 stb,I6 spb,I6 acb,I6 jeb,I6 lob,I6 hib,I6 blb,I6 ogb,I6 sgb, .sl false [4] ptb,I6 stc,I6 spc,I6 acc,I6 jec,I6 loc,I6 hic,I6 blc,I6 ogc,I6 sgc, .sl false [4] ptc],[.sl true [4,4,4,4,4,4,4,4,4,4] zz,I6 z1,I6 z2,I6 z3,I6 z4,I6 z5],[.mu [4,4,4,4,4,4,4,4,4,4] x_1.1,I6 x_1.2,I6 sa,I6 d0,I6 d1,I6 d2],[I6 x12,I6 x13,I6 x14]])) (R6 (x11-x8)/\∀x33,x33=x11-x8->((-2305843009213693952<=x33/\x33<=2305843009213693952)/\(-2305843009213693952<=ln/\ln<=2305843009213693952)/\pk.length<=1000000000000/\∀(j:Nat),j<pk.length-> -2305843009213693952<=ec pk j 1/\ec pk j 1<=2305843009213693952)/\(∃(x:LL×Int),x=tadd pk ln [(0:Int),x33,x8,m,x12,x13,x14,x12,x13,x14])/\∀(x:LL×Int),x=tadd pk ln [(0:Int),x33,x8,m,x12,x13,x14,x12,x13,x14]->R6 (k+1)/\∀x36,x36=k+1->K .normal ([.ce (I6 f), .ce (I6 t), .ce (.ptr 1000005 0), .ce (.ptr 1000006 0), .ce (.ptr 1000010 0), .ce (.ptr 1000012 0), .ce (I6 m), .ce (.ptr 1000014 0), .ce (I6 x5), .ce (.sl false [4,4,4,4,4,4,4] l), .ce (I6 n), .ce (I6 x36)],[[I6 s0,I6 s1,I6 s2, .sl false [4,4,4,4,4,4,4] sg, .sl false [4,4,4] mk],[I6 sta,I6 spa,I6 aca,I6 jea,I6 loa,I6 hia,I6 bla,I6 oga,I6 sga, .sl false [4] pta,I6 stb,I6 spb,I6 acb,I6 jeb,I6 lob,I6 hib,I6 blb,I6 ogb,I6 sgb, .sl false [4] ptb,I6 stc,I6 spc,I6 acc,I6 jec,I6 loc,I6 hic,I6 blc,I6 ogc,I6 sgc, .sl false [4] ptc],[.sl true [4,4,4,4,4,4,4,4,4,4] zz,I6 z1,I6 z2,I6 z3,I6 z4,I6 z5],[.mu [4,4,4,4,4,4,4,4,4,4] x.1,I6 x.2,I6 sa,I6 d0,I6 d1,I6 d2],[I6 x12,I6 x13,I6 x14]])))) (R6 (k+1)/\∀x37,x37=k+1->K .normal ([.ce (I6 f), .ce (I6 t), .ce (.ptr 1000005 0), .ce (.ptr 1000006 0), .ce (.ptr 1000010 0), .ce (.ptr 1000012 0), .ce (I6 m), .ce (.ptr 1000014 0), .ce (I6 x5), .ce (.sl false [4,4,4,4,4,4,4] l), .ce (I6 n), .ce (I6 x37)],[[I6 s0,I6 s1,I6 s2, .sl false [4,4,4,4,4,4,4] sg, .sl false [4,4,4] mk],[I6 sta,I6 spa,I6 aca,I6 jea,I6 loa,I6 hia,I6 bla,I6 oga,I6 sga, .sl false [4] pta,I6 stb,I6 spb,I6 acb,I6 jeb,I6 lob,I6 hib,I6 blb,I6 ogb,I6 sgb, .sl false [4] ptb,I6 stc,I6 spc,I6 acc,I6 jec,I6 loc,I6 hic,I6 blc,I6 ogc,I6 sgc, .sl false [4] ptc],[.sl true [4,4,4,4,4,4,4,4,4,4] zz,I6 z1,I6 z2,I6 z3,I6 z4,I6 z5],[.mu [4,4,4,4,4,4,4,4,4,4] pk,I6 ln,I6 sa,I6 d0,I6 d1,I6 d2],[I6 a0,I6 a1,I6 a2]]))) ((0<=k/\k<(sg.length:Int))/\∀x38,x38=ec sg k.toNat 3->R6 (m*x38)/\∀x39,x39=m*x38->R6 (bg+x39)/\∀x40,x40=bg+x39->∀x41,x41=min bg x40->∀x42,x42=min f t->∀x43,x43=max x41 x42->∀x44,x44=max bg x40->∀x45,x45=max f t->∀x46,x46=min x44 x45->Br (x43<x46) (((0<=k/\k<(sg.length:Int))/\(m=1∨m=(-1:Int))/\okPts s0 s1 s2 sg/\sg.length<=1073741824)/\∀x47,x47=fc1 (bgn s0 sg (0:Nat) k) (ec sg k.toNat 0) m a0->∀x48,x48=fc1 (bgn s1 sg (1:Nat) k) (ec sg k.toNat 1) m a1->∀x49,x49=fc1 (bgn s2 sg (2:Nat) k) (ec sg k.toNat 2) m a2->Br (m<0) (True/\∀x50,x50=slk bla blb blc a0 a1 a2 x47 x48 x49->Br (x50>0) (((-2305843009213693952<=x50/\x50<=2305843009213693952)/\(-2305843009213693952<=ln/\ln<=2305843009213693952)/\pk.length<=1000000000000/\∀(j:Nat),j<pk.length-> -2305843009213693952<=ec pk j 1/\ec pk j 1<=2305843009213693952)/\(∃(x:LL×Int),x=tadd pk ln [(0:Int),x50,x46,(0:Int),a0,a1,a2,x47,x48,x49])/\∀(x:LL×Int),x=tadd pk ln [(0:Int),x50,x46,(0:Int),a0,a1,a2,x47,x48,x49]->R6 (x46-x43)/\∀x53,x53=x46-x43->((-2305843009213693952<=x53/\x53<=2305843009213693952)/\((-2305843009213693952:Int)<=x.2/\x.2<=2305843009213693952)/\List.length x.1<=1000000000000/\∀(j:Nat),j<List.length x.1-> -2305843009213693952<=ec x.1 j 1/\ec x.1 j 1<=2305843009213693952)/\(∃(x_1:LL×Int),x_1=tadd x.1 x.2 [(0:Int),x53,x46,m,x47,x48,x49,x47,x48,x49])/\∀(x_1:LL×Int),x_1=tadd x.1 x.2 [(0:Int),x53,x46,m,x47,x48,x49,x47,x48,x49]->R6 (k+1)/\∀x56,x56=k+1->K .normal ([.ce (I6 f), .ce (I6 t), .ce (.ptr 1000005 0), .ce (.ptr 1000006 0), .ce (.ptr 1000010 0), .ce (.ptr 1000012 0), .ce (I6 m), .ce (.ptr 1000014 0), .ce (I6 x40), .ce (.sl false [4,4,4,4,4,4,4] l), .ce (I6 n), .ce (I6 x56)],[[I6 s0,I6 s1,I6 s2, .sl false [4,4,4,4,4,4,4] sg, .sl false [4,4,4] mk],[I6 sta,I6 spa,I6 aca,I6 jea,I6 loa,I6 hia,I6 bla,I6 oga,I6 sga, .sl false [4] pta,I6 stb,I6 spb,I6 acb,I6 jeb,I6 lob,I6 hib,I6 blb,I6 ogb,I6 sgb, .sl false [4] ptb,I6 stc,I6 spc,I6 acc,I6 jec,I6 loc,I6 hic,I6 blc,I6 ogc,I6 sgc, .sl false [4] ptc],[.sl true [4,4,4,4,4,4,4,4,4,4] zz,I6 z1,I6 z2,I6 z3,I6 z4,I6 z5],[.mu [4,4,4,4,4,4,4,4,4,4] x_1.1,I6 x_1.2,I6 sa,I6 d0,I6 d1,I6 d2],[I6 x47,I6 x48,I6 x49]])) (R6 (x46-x43)/\∀x57,x57=x46-x43->((-2305843009213693952<=x57/\x57<=2305843009213693952)/\(-2305843009213693952<=ln/\ln<=2305843009213693952)/\pk.length<=1000000000000/\∀(j:Nat),j<pk.length-> -2305843009213693952<=ec pk j 1/\ec pk j 1<=2305843009213693952)/\(∃(x:LL×Int),x=tadd pk ln [(0:Int),x57,x46,m,x47,x48,x49,x47,x48,x49])/\∀(x:LL×Int),x=tadd pk ln [(0:Int),x57,x46,m,x47,x48,x49,x47,x48,x49]->R6 (k+1)/\∀x60,x60=k+1->K .normal ([.ce (I6 f), .ce (I6 t), .ce (.ptr 1000005 0), .ce (.ptr 1000006 0), .ce (.ptr 1000010 0), .ce (.ptr 1000012 0), .ce (I6 m), .ce (.ptr 1000014 0), .ce (I6 x40), .ce (.sl false [4,4,4,4,4,4,4] l), .ce (I6 n), .ce (I6 x60)],[[I6 s0,I6 s1,I6 s2, .sl false [4,4,4,4,4,4,4] sg, .sl false [4,4,4] mk],[I6 sta,I6 spa,I6 aca,I6 jea,I6 loa,I6 hia,I6 bla,I6 oga,I6 sga, .sl false [4] pta,I6 stb,I6 spb,I6 acb,I6 jeb,I6 lob,I6 hib,I6 blb,I6 ogb,I6 sgb, .sl false [4] ptb,I6 stc,I6 spc,I6 acc,I6 jec,I6 loc,I6 hic,I6 blc,I6 ogc,I6 sgc, .sl false [4] ptc],[.sl true [4,4,4,4,4,4,4,4,4,4] zz,I6 z1,I6 z2,I6 z3,I6 z4,I6 z5],[.mu [4,4,4,4,4,4,4,4,4,4] x.1,I6 x.2,I6 sa,I6 d0,I6 d1,I6 d2],[I6 x47,I6 x48,I6 x49]]))) (True/\∀x61,x61=slk bla blb blc a0 a1 a2 x47 x48 x49->Br (x61>0) (((-2305843009213693952<=x61/\x61<=2305843009213693952)/\(-2305843009213693952<=ln/\ln<=2305843009213693952)/\pk.length<=1000000000000/\∀(j:Nat),j<pk.length-> -2305843009213693952<=ec pk j 1/\ec pk j 1<=2305843009213693952)/\(∃(x:LL×Int),x=tadd pk ln [(0:Int),x61,x43,(0:Int),a0,a1,a2,x47,x48,x49])/\∀(x:LL×Int),x=tadd pk ln [(0:Int),x61,x43,(0:Int),a0,a1,a2,x47,x48,x49]->R6 (x46-x43)/\∀x64,x64=x46-x43->((-2305843009213693952<=x64/\x64<=2305843009213693952)/\((-2305843009213693952:Int)<=x.2/\x.2<=2305843009213693952)/\List.length x.1<=1000000000000/\∀(j:Nat),j<List.length x.1-> -2305843009213693952<=ec x.1 j 1/\ec x.1 j 1<=2305843009213693952)/\(∃(x_1:LL×Int),x_1=tadd x.1 x.2 [(0:Int),x64,x43,m,x47,x48,x49,x47,x48,x49])/\∀(x_1:LL×Int),x_1=tadd x.1 x.2 [(0:Int),x64,x43,m,x47,x48,x49,x47,x48,x49]->R6 (k+1)/\∀x67,x67=k+1->K .normal ([.ce (I6 f), .ce (I6 t), .ce (.ptr 1000005 0), .ce (.ptr 1000006 0), .ce (.ptr 1000010 0), .ce (.ptr 1000012 0), .ce (I6 m), .ce (.ptr 1000014 0), .ce (I6 x40), .ce (.sl false [4,4,4,4,4,4,4] l), .ce (I6 n), .ce (I6 x67)],[[I6 s0,I6 s1,I6 s2, .sl false [4,4,4,4,4,4,4] sg, .sl false [4,4,4] mk],[I6 sta,I6 spa,I6 aca,I6 jea,I6 loa,I6 hia,I6 bla,I6 oga,I6 sga, .sl false [4] pta,I6 stb,I6 spb,I6 acb,I6 jeb,I6 lob,I6 hib,I6 blb,I6 ogb,I6 sgb, .sl false [4] ptb,I6 stc,I6 spc,I6 acc,I6 jec,I6 loc,I6 hic,I6 blc,I6 ogc,I6 sgc, .sl false [4] ptc],[.sl true [4,4,4,4,4,4,4,4,4,4] zz,I6 z1,I6 z2,I6 z3,I6 z4,I6 z5],[.mu [4,4,4,4,4,4,4,4,4,4] x_1.1,I6 x_1.2,I6 sa,I6 d0,I6 d1,I6 d2],[I6 x47,I6 x48,I6 x49]])) (R6 (x46-x43)/\∀x68,x68=x46-x43->((-2305843009213693952<=x68/\x68<=2305843009213693952)/\(-2305843009213693952<=ln/\ln<=2305843009213693952)/\pk.length<=1000000000000/\∀(j:Nat),j<pk.length-> -2305843009213693952<=ec pk j 1/\ec pk j 1<=2305843009213693952)/\(∃(x:LL×Int),x=tadd pk ln [(0:Int),x68,x43,m,x47,x48,x49,x47,x48,x49])/\∀(x:LL×Int),x=tadd pk ln [(0:Int),x68,x43,m,x47,x48,x49,x47,x48,x49]->R6 (k+1)/\∀x71,x71=k+1->K .normal ([.ce (I6 f), .ce (I6 t), .ce (.ptr 1000005 0), .ce (.ptr 1000006 0), .ce (.ptr 1000010 0), .ce (.ptr 1000012 0), .ce (I6 m), .ce (.ptr 1000014 0), .ce (I6 x40), .ce (.sl false [4,4,4,4,4,4,4] l), .ce (I6 n), .ce (I6 x71)],[[I6 s0,I6 s1,I6 s2, .sl false [4,4,4,4,4,4,4] sg, .sl false [4,4,4] mk],[I6 sta,I6 spa,I6 aca,I6 jea,I6 loa,I6 hia,I6 bla,I6 oga,I6 sga, .sl false [4] pta,I6 stb,I6 spb,I6 acb,I6 jeb,I6 lob,I6 hib,I6 blb,I6 ogb,I6 sgb, .sl false [4] ptb,I6 stc,I6 spc,I6 acc,I6 jec,I6 loc,I6 hic,I6 blc,I6 ogc,I6 sgc, .sl false [4] ptc],[.sl true [4,4,4,4,4,4,4,4,4,4] zz,I6 z1,I6 z2,I6 z3,I6 z4,I6 z5],[.mu [4,4,4,4,4,4,4,4,4,4] x.1,I6 x.2,I6 sa,I6 d0,I6 d1,I6 d2],[I6 x47,I6 x48,I6 x49]])))) (R6 (k+1)/\∀x72,x72=k+1->K .normal ([.ce (I6 f), .ce (I6 t), .ce (.ptr 1000005 0), .ce (.ptr 1000006 0), .ce (.ptr 1000010 0), .ce (.ptr 1000012 0), .ce (I6 m), .ce (.ptr 1000014 0), .ce (I6 x40), .ce (.sl false [4,4,4,4,4,4,4] l), .ce (I6 n), .ce (I6 x72)],[[I6 s0,I6 s1,I6 s2, .sl false [4,4,4,4,4,4,4] sg, .sl false [4,4,4] mk],[I6 sta,I6 spa,I6 aca,I6 jea,I6 loa,I6 hia,I6 bla,I6 oga,I6 sga, .sl false [4] pta,I6 stb,I6 spb,I6 acb,I6 jeb,I6 lob,I6 hib,I6 blb,I6 ogb,I6 sgb, .sl false [4] ptb,I6 stc,I6 spc,I6 acc,I6 jec,I6 loc,I6 hic,I6 blc,I6 ogc,I6 sgc, .sl false [4] ptc],[.sl true [4,4,4,4,4,4,4,4,4,4] zz,I6 z1,I6 z2,I6 z3,I6 z4,I6 z5],[.mu [4,4,4,4,4,4,4,4,4,4] pk,I6 ln,I6 sa,I6 d0,I6 d1,I6 d2],[I6 a0,I6 a1,I6 a2]])))) (K (.exit 0) ([.ce (.ptr 1000010 0), .ce (.ptr 1000012 0)],[[I6 s0,I6 s1,I6 s2, .sl false [4,4,4,4,4,4,4] sg, .sl false [4,4,4] mk],[I6 sta,I6 spa,I6 aca,I6 jea,I6 loa,I6 hia,I6 bla,I6 oga,I6 sga, .sl false [4] pta,I6 stb,I6 spb,I6 acb,I6 jeb,I6 lob,I6 hib,I6 blb,I6 ogb,I6 sgb, .sl false [4] ptb,I6 stc,I6 spc,I6 acc,I6 jec,I6 loc,I6 hic,I6 blc,I6 ogc,I6 sgc, .sl false [4] ptc],[.sl true [4,4,4,4,4,4,4,4,4,4] zz,I6 z1,I6 z2,I6 z3,I6 z4,I6 z5],[.mu [4,4,4,4,4,4,4,4,4,4] pk,I6 ln,I6 sa,I6 d0,I6 d1,I6 d2],[I6 a0,I6 a1,I6 a2]]))):=by kernel_rfl
theorem vcLeg(s0 s1 s2 f t d0 d1 d2:Int)(sg mk:LL)(sta spa aca jea loa hia bla oga sga stb spb acb jeb lob hib blb ogb sgb stc spc acc jec loc hic blc ogc sgc:Int)(pta ptb ptc:LL)(Q:Res->Prop):(nfun true CLeg Tryz.f22 (bodyOf Tryz.f22) [.agg [I6 s0,I6 s1,I6 s2, .sl false [4,4,4,4,4,4,4] sg, .sl false [4,4,4] mk], .agg [I6 sta,I6 spa,I6 aca,I6 jea,I6 loa,I6 hia,I6 bla,I6 oga,I6 sga, .sl false [4] pta,I6 stb,I6 spb,I6 acb,I6 jeb,I6 lob,I6 hib,I6 blb,I6 ogb,I6 sgb, .sl false [4] ptb,I6 stc,I6 spc,I6 acc,I6 jec,I6 loc,I6 hic,I6 blc,I6 ogc,I6 sgc, .sl false [4] ptc], .agg [I6 d0,I6 d1,I6 d2], .ce (I6 f), .ce (I6 t)] [] Q)=(okLen sg/\∀x1,x1=plen sg->∀x2,x2=max f 0->∀x3,x3=min x2 x1->∀x4,x4=max t 0->∀x5,x5=min x4 x1->Br (x5<x3) (((sg.length:Int)=(sg.length:Int)/\(0:Int)=0/\sg=sg/\((-1:Int)=1/\x1=0∨(-1:Int)=(-1:Int)/\x1=plen sg)/\(0<=x3/\x3<=plen sg)/\(0<=x5/\x5<=plen sg)/\(0:Nat)=0/\(0:Int)=0/\okLen sg/\okPts s0 s1 s2 sg/\okB3 bla blb blc)/\∀(x:LegS),x=legK s0 s1 s2 sg bla blb blc x3 x5 (-1:Int) {pk:=[],ln:=(0:Int),a0:=d0,a1:=d1,a2:=d2,bg:=x1} (sg.length)->Q ⟨.agg [.sl false [4,4,4,4,4,4,4,4,4,4] x.pk,I6 x.ln,I6 x3,I6 d0,I6 d1,I6 d2],false,[],[]⟩) (((sg.length:Int)=(sg.length:Int)/\(0:Int)=0/\sg=sg/\((1:Int)=1/\(0:Int)=0∨(1:Int)=(-1:Int)/\(0:Int)=plen sg)/\(0<=x3/\x3<=plen sg)/\(0<=x5/\x5<=plen sg)/\(0:Nat)=0/\(0:Int)=0/\okLen sg/\okPts s0 s1 s2 sg/\okB3 bla blb blc)/\∀(x:LegS),x=legK s0 s1 s2 sg bla blb blc x3 x5 (1:Int) {pk:=[],ln:=(0:Int),a0:=d0,a1:=d1,a2:=d2,bg:=(0:Int)} (sg.length)->Q ⟨.agg [.sl false [4,4,4,4,4,4,4,4,4,4] x.pk,I6 x.ln,I6 x3,I6 d0,I6 d1,I6 d2],false,[],[]⟩)):=by kernel_rfl
end Go.Proofs.YthkoabbiiadbjaaGreat
namespace U
theorem slk_bd{b0 b1 b2:Int}(h:okB3 b0 b1 b2)(w0 w1 w2 d0 d1 d2:Int):0<=slk b0 b1 b2 w0 w1 w2 d0 d1 d2/\slk b0 b1 b2 w0 w1 w2 d0 d1 d2<=4096:=by
 unfold okB3 at h;unfold slk sl1;split<;>split<;>split<;>omega
def unitsOK(pk:LL)(ln:Int):Prop:=∀j,j<pk.length->0<=ec pk j 1/\ec pk j 1<=ln
theorem ec_set(pk:LL)(i j c:Nat)(r:List Int)(hi:i<pk.length):ec (pk.set i r) j c=if i=j then r.getD c 0 else ec pk j c:=by
 unfold ec;simp only[List.getD_eq_getElem?_getD,List.getElem?_set];split
 . rename_i e;subst e;rfl
 . rfl
theorem ec_app(a b:LL)(j c:Nat):ec (a++b) j c=if j<a.length then ec a j c else ec b (j-a.length) c:=by
 unfold ec;simp only[List.getD_eq_getElem?_getD,List.getElem?_append];split<;>rfl
theorem tadd_inv{pk:LL}{ln:Int}{q:List Int}(hl:0<=ln)(hu:unitsOK pk ln)(h1:0<=q.getD 1 0):(tadd pk ln q).2=ln+q.getD 1 0/\(tadd pk ln q).1.length<=pk.length+1/\unitsOK (tadd pk ln q).1 (ln+q.getD 1 0):=by
 unfold tadd;split
 . rename_i h;refine⟨rfl,by simp,fun j hj=> ?_⟩;dsimp only at hj⊢;rw[List.length_set]at hj;rw[ec_set _ _ _ _ _ (by omega)];split
   . have:=hu (pk.length-1) (by omega);have e:(more (pk.getD (pk.length-1) []) (q.getD 1 0)).getD 1 0=ec pk (pk.length-1) 1+q.getD 1 0:=rfl;rw[e];omega
   . have:=hu j hj;omega
 . refine⟨rfl,by simp,fun j hj=> ?_⟩;dsimp only at hj⊢;rw[List.length_append]at hj;rw[ec_app];split
   . rename_i h;have:=hu j h;omega
   . rename_i h;have:j-pk.length=0:=by simp at hj;omega
     rw[this];have e:ec [[ln,q.getD 1 0,q.getD 2 0,q.getD 3 0,q.getD 4 0,q.getD 5 0,q.getD 6 0,q.getD 7 0,q.getD 8 0,q.getD 9 0]] 0 1=q.getD 1 0:=rfl;rw[e];omega
def legJ(sg:LL)(m:Int)(k:Nat)(x:LegS):Prop:=(0<=x.ln/\x.ln<=8589934592*(k:Int))/\x.pk.length<=2*k/\unitsOK x.pk x.ln/\(m=1->x.bg=plen (sg.take k))/\(m= -1->x.bg=plen (sg.take (sg.length-k)))
theorem legI_bd{n:Nat}{m:Int}{k:Nat}(hk:k<n):0<=legI n m k/\legI n m k<n:=by unfold legI;split<;>omega
theorem legE_next{sg:LL}{m bg:Int}{k:Nat}(hk:k<sg.length)(h1:m=1->bg=plen (sg.take k))(h2:m= -1->bg=plen (sg.take (sg.length-k))):(m=1->legE sg m bg (legI sg.length m k)=plen (sg.take (k+1)))/\(m= -1->legE sg m bg (legI sg.length m k)=plen (sg.take (sg.length-(k+1)))):=by
 unfold legE legI;refine⟨fun e=> ?_,fun e=> ?_⟩
 . rw[h1 e,e,if_neg (by decide),plen_next sg hk];have:((k:Int)).toNat=k:=rfl;rw[this];omega
 . rw[h2 e,e,if_pos (by decide)];have e1:((sg.length:Int)-1-(k:Int)).toNat=sg.length-(k+1):=by omega
   rw[e1,show sg.length-k=sg.length-(k+1)+1 by omega,plen_next sg (by omega)];omega
theorem legJ_seg{s0 s1 s2:Int}{sg:LL}{b0 b1 b2 f t m:Int}{x:LegS}{k:Nat}(hl:okLen sg)(hb:okB3 b0 b1 b2)(hm:m=1∨m= -1)(hk:k<sg.length)(h:legJ sg m k x):legJ sg m (k+1) (legStep s0 s1 s2 sg b0 b1 b2 f t m x k):=by
 obtain⟨h1,h2,h3,h4,h5⟩:=h;have hE:=legE_next (m:=m) hk h4 h5;have hi:=legI_bd (m:=m) hk;have hlen:=hl.2 (legI sg.length m k).toNat (by omega);have hd:legHigh x.bg (legE sg m x.bg (legI sg.length m k)) f t-legLow x.bg (legE sg m x.bg (legI sg.length m k)) f t<=4294967296:=by
  unfold legHigh legLow legE;rcases hm with rfl|rfl<;>omega
 unfold legStep legSeg;generalize legLow x.bg (legE sg m x.bg (legI sg.length m k)) f t=low at*;generalize legHigh x.bg (legE sg m x.bg (legI sg.length m k)) f t=high at*;generalize legE sg m x.bg (legI sg.length m k)=e at*;generalize fc1 (bgn s0 sg 0 (legI sg.length m k)) (ec sg (legI sg.length m k).toNat 0) m x.a0=n0;generalize fc1 (bgn s1 sg 1 (legI sg.length m k)) (ec sg (legI sg.length m k).toNat 1) m x.a1=n1;generalize fc1 (bgn s2 sg 2 (legI sg.length m k)) (ec sg (legI sg.length m k).toNat 2) m x.a2=n2;unfold legPut;split
 . rename_i hlh;have hs:=slk_bd hb x.a0 x.a1 x.a2 n0 n1 n2;have htk:0<=(legTk x.pk x.ln (slk b0 b1 b2 x.a0 x.a1 x.a2 n0 n1 n2) (legS m low high) x.a0 x.a1 x.a2 n0 n1 n2).2/\(legTk x.pk x.ln (slk b0 b1 b2 x.a0 x.a1 x.a2 n0 n1 n2) (legS m low high) x.a0 x.a1 x.a2 n0 n1 n2).2<=x.ln+4096/\(legTk x.pk x.ln (slk b0 b1 b2 x.a0 x.a1 x.a2 n0 n1 n2) (legS m low high) x.a0 x.a1 x.a2 n0 n1 n2).1.length<=x.pk.length+1/\unitsOK (legTk x.pk x.ln (slk b0 b1 b2 x.a0 x.a1 x.a2 n0 n1 n2) (legS m low high) x.a0 x.a1 x.a2 n0 n1 n2).1 (legTk x.pk x.ln (slk b0 b1 b2 x.a0 x.a1 x.a2 n0 n1 n2) (legS m low high) x.a0 x.a1 x.a2 n0 n1 n2).2:=by
    generalize slk b0 b1 b2 x.a0 x.a1 x.a2 n0 n1 n2=u at*;unfold legTk;split
    . obtain⟨a1,a2,a3⟩:=tadd_inv (q:=[0,u,legS m low high,0,x.a0,x.a1,x.a2,n0,n1,n2]) h1.1 h3 hs.1;rw[<-a1]at a3;have a1:(tadd x.pk x.ln [0,u,legS m low high,0,x.a0,x.a1,x.a2,n0,n1,n2]).2=x.ln+u:=a1;exact⟨by omega,by omega,a2,a3⟩
    . exact⟨h1.1,by dsimp only;omega,by dsimp only;omega,h3⟩
   generalize legTk x.pk x.ln (slk b0 b1 b2 x.a0 x.a1 x.a2 n0 n1 n2) (legS m low high) x.a0 x.a1 x.a2 n0 n1 n2=y at*;obtain⟨y1,y2,y3,y4⟩:=htk;obtain⟨a1,a2,a3⟩:=tadd_inv (q:=[0,high-low,legS m low high,m,n0,n1,n2,n0,n1,n2]) y1 y4 (by show 0<=high-low;omega);rw[<-a1]at a3;have a1:(tadd y.1 y.2 [0,high-low,legS m low high,m,n0,n1,n2,n0,n1,n2]).2=y.2+(high-low):=a1;refine⟨⟨by dsimp only;omega,by dsimp only;omega⟩,by dsimp only;omega,a3,hE.1,hE.2⟩
 . exact⟨⟨h1.1,by dsimp only;omega⟩,by dsimp only;omega,h3,hE.1,hE.2⟩
theorem legJ_all{s0 s1 s2:Int}{sg:LL}{b0 b1 b2 f t m:Int}{x:LegS}(hl:okLen sg)(hb:okB3 b0 b1 b2)(hm:m=1∨m= -1)(h:legJ sg m 0 x):∀k,k<=sg.length->legJ sg m k (legK s0 s1 s2 sg b0 b1 b2 f t m x k):=by
 intro k;induction k with
 |zero=>intro _;exact h
 |succ k ih=>intro hk;exact legJ_seg hl hb hm (by omega) (ih (by omega))
end U
namespace Go.Proofs.YthkoabbiiadbjaaGreat
open Go Go.HL U
attribute [local irreducible] hfun bodyT fragT
set_option maxHeartbeats 4000000 in theorem legMain(s0 s1 s2 f t m bg n k i a0 a1 a2 z1 z2 z3 z4 z5 ln sa d0 d1 d2:Int)(sg mk l zz pk:LL)(sta spa aca jea loa hia bla oga sga stb spb acb jeb lob hib blb ogb sgb stc spc acc jec loc hic blc ogc sgc:Int)(pta ptb ptc:LL)(K:HEx->LV->Prop)(hi:0<=i/\i<sg.length)(hl:okLen sg)(hp:okPts s0 s1 s2 sg)(hb:okB3 bla blb blc)(hm:m=1∨m= -1)(hk:0<=k/\k<=1048576)(hbg:0<=bg/\bg<=4503599627370496)(hE:0<=legE sg m bg i/\legE sg m bg i<=4503599627370496)(J1:0<=ln/\ln<=9007199254740992)(J2:pk.length<=4194304)(J3:unitsOK pk ln)(fin:∀y:LegS,y=legSeg s0 s1 s2 sg bla blb blc f t m ⟨pk,ln,a0,a1,a2,bg⟩ i->∀z:Int,z=k+1->K .normal ([.ce (I6 f), .ce (I6 t), .ce (.ptr 1000005 0), .ce (.ptr 1000006 0), .ce (.ptr 1000010 0), .ce (.ptr 1000012 0), .ce (I6 m), .ce (.ptr 1000014 0), .ce (I6 y.bg), .ce (.sl false [4,4,4,4,4,4,4] l), .ce (I6 n), .ce (I6 z)],[[I6 s0,I6 s1,I6 s2, .sl false [4,4,4,4,4,4,4] sg, .sl false [4,4,4] mk],[I6 sta,I6 spa,I6 aca,I6 jea,I6 loa,I6 hia,I6 bla,I6 oga,I6 sga, .sl false [4] pta,I6 stb,I6 spb,I6 acb,I6 jeb,I6 lob,I6 hib,I6 blb,I6 ogb,I6 sgb, .sl false [4] ptb,I6 stc,I6 spc,I6 acc,I6 jec,I6 loc,I6 hic,I6 blc,I6 ogc,I6 sgc, .sl false [4] ptc],[.sl true [4,4,4,4,4,4,4,4,4,4] zz,I6 z1,I6 z2,I6 z3,I6 z4,I6 z5],[.mu [4,4,4,4,4,4,4,4,4,4] y.pk,I6 y.ln,I6 sa,I6 d0,I6 d1,I6 d2],[I6 y.a0,I6 y.a1,I6 y.a2]])):((0:Int)<=i/\i<(((List.length sg):Nat):Int))/\∀(x38:Int),x38=ec sg (Int.toNat i) ((3:Nat))->((-9223372036854775808:Int)<=m*x38/\m*x38<=(9223372036854775807:Int))/\∀(x39:Int),x39=m*x38->((-9223372036854775808:Int)<=bg+x39/\bg+x39<=(9223372036854775807:Int))/\∀(x40:Int),x40=bg+x39->∀(x41:Int),x41=min bg x40->∀(x42:Int),x42=min f t->∀(x43:Int),x43=max x41 x42->∀(x44:Int),x44=max bg x40->∀(x45:Int),x45=max f t->∀(x46:Int),x46=min x44 x45->(decide (x43<x46)=true->(((0:Int)<=i/\i<(((List.length sg):Nat):Int))/\(m=(1:Int)∨m=(-1:Int))/\okPts s0 s1 s2 sg/\List.length sg<=(1073741824:Nat))/\∀(x47:Int),x47=fc1 (bgn s0 sg (0:Nat) i) (ec sg (Int.toNat i) (0:Nat)) m a0->∀(x48:Int),x48=fc1 (bgn s1 sg (1:Nat) i) (ec sg (Int.toNat i) (1:Nat)) m a1->∀(x49:Int),x49=fc1 (bgn s2 sg (2:Nat) i) (ec sg (Int.toNat i) (2:Nat)) m a2->(decide (m<(0:Int))=true->True/\∀(x50:Int),x50=slk bla blb blc a0 a1 a2 x47 x48 x49->(decide (x50>(0:Int))=true->(((-2305843009213693952:Int)<=x50/\x50<=(2305843009213693952:Int))/\((-2305843009213693952:Int)<=ln/\ln<=(2305843009213693952:Int))/\List.length pk<=(1000000000000:Nat)/\∀(j:Nat),j<List.length pk->(-2305843009213693952:Int)<=ec pk j (1:Nat)/\ec pk j (1:Nat)<=(2305843009213693952:Int))/\(∃(x:LL×Int),x=tadd pk ln [(0:Int),x50,x46,(0:Int),a0,a1,a2,x47,x48,x49])/\∀(x:LL×Int),x=tadd pk ln [(0:Int),x50,x46,(0:Int),a0,a1,a2,x47,x48,x49]->((-9223372036854775808:Int)<=x46-x43/\x46-x43<=(9223372036854775807:Int))/\∀(x53:Int),x53=x46-x43->(((-2305843009213693952:Int)<=x53/\x53<=(2305843009213693952:Int))/\((-2305843009213693952:Int)<=x.2/\x.2<=(2305843009213693952:Int))/\List.length x.1<=(1000000000000:Nat)/\∀(j:Nat),j<List.length x.1->(-2305843009213693952:Int)<=ec x.1 j (1:Nat)/\ec x.1 j (1:Nat)<=(2305843009213693952:Int))/\(∃(x_1:LL×Int),x_1=tadd x.1 x.2 [(0:Int),x53,x46,m,x47,x48,x49,x47,x48,x49])/\∀(x_1:LL×Int),x_1=tadd x.1 x.2 [(0:Int),x53,x46,m,x47,x48,x49,x47,x48,x49]->((-9223372036854775808:Int)<=k+(1:Int)/\k+(1:Int)<=(9223372036854775807:Int))/\∀(x56:Int),x56=k+(1:Int)->K HEx.normal ([HV.ce (HC.int IntKind.i64 f),HV.ce (HC.int IntKind.i64 t),HV.ce (HC.ptr (1000005:Nat) (0:Nat)),HV.ce (HC.ptr (1000006:Nat) (0:Nat)),HV.ce (HC.ptr (1000010:Nat) (0:Nat)),HV.ce (HC.ptr (1000012:Nat) (0:Nat)),HV.ce (HC.int IntKind.i64 m),HV.ce (HC.ptr (1000014:Nat) (0:Nat)),HV.ce (HC.int IntKind.i64 x40),HV.ce (HC.sl false [(4:Nat),(4:Nat),(4:Nat),(4:Nat),(4:Nat),(4:Nat),(4:Nat)] l),HV.ce (HC.int IntKind.i64 n),HV.ce (HC.int IntKind.i64 x56)],[[HC.int IntKind.i64 s0,HC.int IntKind.i64 s1,HC.int IntKind.i64 s2,HC.sl false [(4:Nat),(4:Nat),(4:Nat),(4:Nat),(4:Nat),(4:Nat),(4:Nat)] sg,HC.sl false [(4:Nat),(4:Nat),(4:Nat)] mk],[HC.int IntKind.i64 sta,HC.int IntKind.i64 spa,HC.int IntKind.i64 aca,HC.int IntKind.i64 jea,HC.int IntKind.i64 loa,HC.int IntKind.i64 hia,HC.int IntKind.i64 bla,HC.int IntKind.i64 oga,HC.int IntKind.i64 sga,HC.sl false [(4:Nat)] pta,HC.int IntKind.i64 stb,HC.int IntKind.i64 spb,HC.int IntKind.i64 acb,HC.int IntKind.i64 jeb,HC.int IntKind.i64 lob,HC.int IntKind.i64 hib,HC.int IntKind.i64 blb,HC.int IntKind.i64 ogb,HC.int IntKind.i64 sgb,HC.sl false [(4:Nat)] ptb,HC.int IntKind.i64 stc,HC.int IntKind.i64 spc,HC.int IntKind.i64 acc,HC.int IntKind.i64 jec,HC.int IntKind.i64 loc,HC.int IntKind.i64 hic,HC.int IntKind.i64 blc,HC.int IntKind.i64 ogc,HC.int IntKind.i64 sgc,HC.sl false [(4:Nat)] ptc],[HC.sl true [(4:Nat),(4:Nat),(4:Nat),(4:Nat),(4:Nat),(4:Nat),(4:Nat),(4:Nat),(4:Nat),(4:Nat)] zz,HC.int IntKind.i64 z1,HC.int IntKind.i64 z2,HC.int IntKind.i64 z3,HC.int IntKind.i64 z4,HC.int IntKind.i64 z5],[HC.mu [(4:Nat),(4:Nat),(4:Nat),(4:Nat),(4:Nat),(4:Nat),(4:Nat),(4:Nat),(4:Nat),(4:Nat)] x_1.1,HC.int IntKind.i64 x_1.2,HC.int IntKind.i64 sa,HC.int IntKind.i64 d0,HC.int IntKind.i64 d1,HC.int IntKind.i64 d2],[HC.int IntKind.i64 x47,HC.int IntKind.i64 x48,HC.int IntKind.i64 x49]]))/\(decide (x50>(0:Int))=false->((-9223372036854775808:Int)<=x46-x43/\x46-x43<=(9223372036854775807:Int))/\∀(x57:Int),x57=x46-x43->(((-2305843009213693952:Int)<=x57/\x57<=(2305843009213693952:Int))/\((-2305843009213693952:Int)<=ln/\ln<=(2305843009213693952:Int))/\List.length pk<=(1000000000000:Nat)/\∀(j:Nat),j<List.length pk->(-2305843009213693952:Int)<=ec pk j (1:Nat)/\ec pk j (1:Nat)<=(2305843009213693952:Int))/\(∃(x:LL×Int),x=tadd pk ln [(0:Int),x57,x46,m,x47,x48,x49,x47,x48,x49])/\∀(x:LL×Int),x=tadd pk ln [(0:Int),x57,x46,m,x47,x48,x49,x47,x48,x49]->((-9223372036854775808:Int)<=k+(1:Int)/\k+(1:Int)<=(9223372036854775807:Int))/\∀(x60:Int),x60=k+(1:Int)->K HEx.normal ([HV.ce (HC.int IntKind.i64 f),HV.ce (HC.int IntKind.i64 t),HV.ce (HC.ptr (1000005:Nat) (0:Nat)),HV.ce (HC.ptr (1000006:Nat) (0:Nat)),HV.ce (HC.ptr (1000010:Nat) (0:Nat)),HV.ce (HC.ptr (1000012:Nat) (0:Nat)),HV.ce (HC.int IntKind.i64 m),HV.ce (HC.ptr (1000014:Nat) (0:Nat)),HV.ce (HC.int IntKind.i64 x40),HV.ce (HC.sl false [(4:Nat),(4:Nat),(4:Nat),(4:Nat),(4:Nat),(4:Nat),(4:Nat)] l),HV.ce (HC.int IntKind.i64 n),HV.ce (HC.int IntKind.i64 x60)],[[HC.int IntKind.i64 s0,HC.int IntKind.i64 s1,HC.int IntKind.i64 s2,HC.sl false [(4:Nat),(4:Nat),(4:Nat),(4:Nat),(4:Nat),(4:Nat),(4:Nat)] sg,HC.sl false [(4:Nat),(4:Nat),(4:Nat)] mk],[HC.int IntKind.i64 sta,HC.int IntKind.i64 spa,HC.int IntKind.i64 aca,HC.int IntKind.i64 jea,HC.int IntKind.i64 loa,HC.int IntKind.i64 hia,HC.int IntKind.i64 bla,HC.int IntKind.i64 oga,HC.int IntKind.i64 sga,HC.sl false [(4:Nat)] pta,HC.int IntKind.i64 stb,HC.int IntKind.i64 spb,HC.int IntKind.i64 acb,HC.int IntKind.i64 jeb,HC.int IntKind.i64 lob,HC.int IntKind.i64 hib,HC.int IntKind.i64 blb,HC.int IntKind.i64 ogb,HC.int IntKind.i64 sgb,HC.sl false [(4:Nat)] ptb,HC.int IntKind.i64 stc,HC.int IntKind.i64 spc,HC.int IntKind.i64 acc,HC.int IntKind.i64 jec,HC.int IntKind.i64 loc,HC.int IntKind.i64 hic,HC.int IntKind.i64 blc,HC.int IntKind.i64 ogc,HC.int IntKind.i64 sgc,HC.sl false [(4:Nat)] ptc],[HC.sl true [(4:Nat),(4:Nat),(4:Nat),(4:Nat),(4:Nat),(4:Nat),(4:Nat),(4:Nat),(4:Nat),(4:Nat)] zz,HC.int IntKind.i64 z1,HC.int IntKind.i64 z2,HC.int IntKind.i64 z3,HC.int IntKind.i64 z4,HC.int IntKind.i64 z5],[HC.mu [(4:Nat),(4:Nat),(4:Nat),(4:Nat),(4:Nat),(4:Nat),(4:Nat),(4:Nat),(4:Nat),(4:Nat)] x.1,HC.int IntKind.i64 x.2,HC.int IntKind.i64 sa,HC.int IntKind.i64 d0,HC.int IntKind.i64 d1,HC.int IntKind.i64 d2],[HC.int IntKind.i64 x47,HC.int IntKind.i64 x48,HC.int IntKind.i64 x49]])))/\(decide (m<(0:Int))=false->True/\∀(x61:Int),x61=slk bla blb blc a0 a1 a2 x47 x48 x49->(decide (x61>(0:Int))=true->(((-2305843009213693952:Int)<=x61/\x61<=(2305843009213693952:Int))/\((-2305843009213693952:Int)<=ln/\ln<=(2305843009213693952:Int))/\List.length pk<=(1000000000000:Nat)/\∀(j:Nat),j<List.length pk->(-2305843009213693952:Int)<=ec pk j (1:Nat)/\ec pk j (1:Nat)<=(2305843009213693952:Int))/\(∃(x:LL×Int),x=tadd pk ln [(0:Int),x61,x43,(0:Int),a0,a1,a2,x47,x48,x49])/\∀(x:LL×Int),x=tadd pk ln [(0:Int),x61,x43,(0:Int),a0,a1,a2,x47,x48,x49]->((-9223372036854775808:Int)<=x46-x43/\x46-x43<=(9223372036854775807:Int))/\∀(x64:Int),x64=x46-x43->(((-2305843009213693952:Int)<=x64/\x64<=(2305843009213693952:Int))/\((-2305843009213693952:Int)<=x.2/\x.2<=(2305843009213693952:Int))/\List.length x.1<=(1000000000000:Nat)/\∀(j:Nat),j<List.length x.1->(-2305843009213693952:Int)<=ec x.1 j (1:Nat)/\ec x.1 j (1:Nat)<=(2305843009213693952:Int))/\(∃(x_1:LL×Int),x_1=tadd x.1 x.2 [(0:Int),x64,x43,m,x47,x48,x49,x47,x48,x49])/\∀(x_1:LL×Int),x_1=tadd x.1 x.2 [(0:Int),x64,x43,m,x47,x48,x49,x47,x48,x49]->((-9223372036854775808:Int)<=k+(1:Int)/\k+(1:Int)<=(9223372036854775807:Int))/\∀(x67:Int),x67=k+(1:Int)->K HEx.normal ([HV.ce (HC.int IntKind.i64 f),HV.ce (HC.int IntKind.i64 t),HV.ce (HC.ptr (1000005:Nat) (0:Nat)),HV.ce (HC.ptr (1000006:Nat) (0:Nat)),HV.ce (HC.ptr (1000010:Nat) (0:Nat)),HV.ce (HC.ptr (1000012:Nat) (0:Nat)),HV.ce (HC.int IntKind.i64 m),HV.ce (HC.ptr (1000014:Nat) (0:Nat)),HV.ce (HC.int IntKind.i64 x40),HV.ce (HC.sl false [(4:Nat),(4:Nat),(4:Nat),(4:Nat),(4:Nat),(4:Nat),(4:Nat)] l),HV.ce (HC.int IntKind.i64 n),HV.ce (HC.int IntKind.i64 x67)],[[HC.int IntKind.i64 s0,HC.int IntKind.i64 s1,HC.int IntKind.i64 s2,HC.sl false [(4:Nat),(4:Nat),(4:Nat),(4:Nat),(4:Nat),(4:Nat),(4:Nat)] sg,HC.sl false [(4:Nat),(4:Nat),(4:Nat)] mk],[HC.int IntKind.i64 sta,HC.int IntKind.i64 spa,HC.int IntKind.i64 aca,HC.int IntKind.i64 jea,HC.int IntKind.i64 loa,HC.int IntKind.i64 hia,HC.int IntKind.i64 bla,HC.int IntKind.i64 oga,HC.int IntKind.i64 sga,HC.sl false [(4:Nat)] pta,HC.int IntKind.i64 stb,HC.int IntKind.i64 spb,HC.int IntKind.i64 acb,HC.int IntKind.i64 jeb,HC.int IntKind.i64 lob,HC.int IntKind.i64 hib,HC.int IntKind.i64 blb,HC.int IntKind.i64 ogb,HC.int IntKind.i64 sgb,HC.sl false [(4:Nat)] ptb,HC.int IntKind.i64 stc,HC.int IntKind.i64 spc,HC.int IntKind.i64 acc,HC.int IntKind.i64 jec,HC.int IntKind.i64 loc,HC.int IntKind.i64 hic,HC.int IntKind.i64 blc,HC.int IntKind.i64 ogc,HC.int IntKind.i64 sgc,HC.sl false [(4:Nat)] ptc],[HC.sl true [(4:Nat),(4:Nat),(4:Nat),(4:Nat),(4:Nat),(4:Nat),(4:Nat),(4:Nat),(4:Nat),(4:Nat)] zz,HC.int IntKind.i64 z1,HC.int IntKind.i64 z2,HC.int IntKind.i64 z3,HC.int IntKind.i64 z4,HC.int IntKind.i64 z5],[HC.mu [(4:Nat),(4:Nat),(4:Nat),(4:Nat),(4:Nat),(4:Nat),(4:Nat),(4:Nat),(4:Nat),(4:Nat)] x_1.1,HC.int IntKind.i64 x_1.2,HC.int IntKind.i64 sa,HC.int IntKind.i64 d0,HC.int IntKind.i64 d1,HC.int IntKind.i64 d2],[HC.int IntKind.i64 x47,HC.int IntKind.i64 x48,HC.int IntKind.i64 x49]]))/\(decide (x61>(0:Int))=false->((-9223372036854775808:Int)<=x46-x43/\x46-x43<=(9223372036854775807:Int))/\∀(x68:Int),x68=x46-x43->(((-2305843009213693952:Int)<=x68/\x68<=(2305843009213693952:Int))/\((-2305843009213693952:Int)<=ln/\ln<=(2305843009213693952:Int))/\List.length pk<=(1000000000000:Nat)/\∀(j:Nat),j<List.length pk->(-2305843009213693952:Int)<=ec pk j (1:Nat)/\ec pk j (1:Nat)<=(2305843009213693952:Int))/\(∃(x:LL×Int),x=tadd pk ln [(0:Int),x68,x43,m,x47,x48,x49,x47,x48,x49])/\∀(x:LL×Int),x=tadd pk ln [(0:Int),x68,x43,m,x47,x48,x49,x47,x48,x49]->((-9223372036854775808:Int)<=k+(1:Int)/\k+(1:Int)<=(9223372036854775807:Int))/\∀(x71:Int),x71=k+(1:Int)->K HEx.normal ([HV.ce (HC.int IntKind.i64 f),HV.ce (HC.int IntKind.i64 t),HV.ce (HC.ptr (1000005:Nat) (0:Nat)),HV.ce (HC.ptr (1000006:Nat) (0:Nat)),HV.ce (HC.ptr (1000010:Nat) (0:Nat)),HV.ce (HC.ptr (1000012:Nat) (0:Nat)),HV.ce (HC.int IntKind.i64 m),HV.ce (HC.ptr (1000014:Nat) (0:Nat)),HV.ce (HC.int IntKind.i64 x40),HV.ce (HC.sl false [(4:Nat),(4:Nat),(4:Nat),(4:Nat),(4:Nat),(4:Nat),(4:Nat)] l),HV.ce (HC.int IntKind.i64 n),HV.ce (HC.int IntKind.i64 x71)],[[HC.int IntKind.i64 s0,HC.int IntKind.i64 s1,HC.int IntKind.i64 s2,HC.sl false [(4:Nat),(4:Nat),(4:Nat),(4:Nat),(4:Nat),(4:Nat),(4:Nat)] sg,HC.sl false [(4:Nat),(4:Nat),(4:Nat)] mk],[HC.int IntKind.i64 sta,HC.int IntKind.i64 spa,HC.int IntKind.i64 aca,HC.int IntKind.i64 jea,HC.int IntKind.i64 loa,HC.int IntKind.i64 hia,HC.int IntKind.i64 bla,HC.int IntKind.i64 oga,HC.int IntKind.i64 sga,HC.sl false [(4:Nat)] pta,HC.int IntKind.i64 stb,HC.int IntKind.i64 spb,HC.int IntKind.i64 acb,HC.int IntKind.i64 jeb,HC.int IntKind.i64 lob,HC.int IntKind.i64 hib,HC.int IntKind.i64 blb,HC.int IntKind.i64 ogb,HC.int IntKind.i64 sgb,HC.sl false [(4:Nat)] ptb,HC.int IntKind.i64 stc,HC.int IntKind.i64 spc,HC.int IntKind.i64 acc,HC.int IntKind.i64 jec,HC.int IntKind.i64 loc,HC.int IntKind.i64 hic,HC.int IntKind.i64 blc,HC.int IntKind.i64 ogc,HC.int IntKind.i64 sgc,HC.sl false [(4:Nat)] ptc],[HC.sl true [(4:Nat),(4:Nat),(4:Nat),(4:Nat),(4:Nat),(4:Nat),(4:Nat),(4:Nat),(4:Nat),(4:Nat)] zz,HC.int IntKind.i64 z1,HC.int IntKind.i64 z2,HC.int IntKind.i64 z3,HC.int IntKind.i64 z4,HC.int IntKind.i64 z5],[HC.mu [(4:Nat),(4:Nat),(4:Nat),(4:Nat),(4:Nat),(4:Nat),(4:Nat),(4:Nat),(4:Nat),(4:Nat)] x.1,HC.int IntKind.i64 x.2,HC.int IntKind.i64 sa,HC.int IntKind.i64 d0,HC.int IntKind.i64 d1,HC.int IntKind.i64 d2],[HC.int IntKind.i64 x47,HC.int IntKind.i64 x48,HC.int IntKind.i64 x49]]))))/\(decide (x43<x46)=false->((-9223372036854775808:Int)<=k+(1:Int)/\k+(1:Int)<=(9223372036854775807:Int))/\∀(x72:Int),x72=k+(1:Int)->K HEx.normal ([HV.ce (HC.int IntKind.i64 f),HV.ce (HC.int IntKind.i64 t),HV.ce (HC.ptr (1000005:Nat) (0:Nat)),HV.ce (HC.ptr (1000006:Nat) (0:Nat)),HV.ce (HC.ptr (1000010:Nat) (0:Nat)),HV.ce (HC.ptr (1000012:Nat) (0:Nat)),HV.ce (HC.int IntKind.i64 m),HV.ce (HC.ptr (1000014:Nat) (0:Nat)),HV.ce (HC.int IntKind.i64 x40),HV.ce (HC.sl false [(4:Nat),(4:Nat),(4:Nat),(4:Nat),(4:Nat),(4:Nat),(4:Nat)] l),HV.ce (HC.int IntKind.i64 n),HV.ce (HC.int IntKind.i64 x72)],[[HC.int IntKind.i64 s0,HC.int IntKind.i64 s1,HC.int IntKind.i64 s2,HC.sl false [(4:Nat),(4:Nat),(4:Nat),(4:Nat),(4:Nat),(4:Nat),(4:Nat)] sg,HC.sl false [(4:Nat),(4:Nat),(4:Nat)] mk],[HC.int IntKind.i64 sta,HC.int IntKind.i64 spa,HC.int IntKind.i64 aca,HC.int IntKind.i64 jea,HC.int IntKind.i64 loa,HC.int IntKind.i64 hia,HC.int IntKind.i64 bla,HC.int IntKind.i64 oga,HC.int IntKind.i64 sga,HC.sl false [(4:Nat)] pta,HC.int IntKind.i64 stb,HC.int IntKind.i64 spb,HC.int IntKind.i64 acb,HC.int IntKind.i64 jeb,HC.int IntKind.i64 lob,HC.int IntKind.i64 hib,HC.int IntKind.i64 blb,HC.int IntKind.i64 ogb,HC.int IntKind.i64 sgb,HC.sl false [(4:Nat)] ptb,HC.int IntKind.i64 stc,HC.int IntKind.i64 spc,HC.int IntKind.i64 acc,HC.int IntKind.i64 jec,HC.int IntKind.i64 loc,HC.int IntKind.i64 hic,HC.int IntKind.i64 blc,HC.int IntKind.i64 ogc,HC.int IntKind.i64 sgc,HC.sl false [(4:Nat)] ptc],[HC.sl true [(4:Nat),(4:Nat),(4:Nat),(4:Nat),(4:Nat),(4:Nat),(4:Nat),(4:Nat),(4:Nat),(4:Nat)] zz,HC.int IntKind.i64 z1,HC.int IntKind.i64 z2,HC.int IntKind.i64 z3,HC.int IntKind.i64 z4,HC.int IntKind.i64 z5],[HC.mu [(4:Nat),(4:Nat),(4:Nat),(4:Nat),(4:Nat),(4:Nat),(4:Nat),(4:Nat),(4:Nat),(4:Nat)] pk,HC.int IntKind.i64 ln,HC.int IntKind.i64 sa,HC.int IntKind.i64 d0,HC.int IntKind.i64 d1,HC.int IntKind.i64 d2],[HC.int IntKind.i64 a0,HC.int IntKind.i64 a1,HC.int IntKind.i64 a2]])):=by
 have hlen:=hl.2 i.toNat (by omega);have hl1:=hl.1;have units:∀(p:LL)(c:Int),unitsOK p c->c<=2305843009213693952->∀j,j<p.length-> -2305843009213693952<=ec p j 1/\ec p j 1<=2305843009213693952:=fun p c hu hc j hj=>by
  have:=hu j hj;omega
 have hd:legHigh bg (legE sg m bg i) f t-legLow bg (legE sg m bg i) f t<=4294967296:=by
  unfold legHigh legLow legE;rcases hm with rfl|rfl<;>omega
 have hmul: -4294967296<=m*ec sg i.toNat 3/\m*ec sg i.toNat 3<=4294967296:=by rcases hm with rfl|rfl<;>omega
 unfold legE at hE;refine⟨hi,?_⟩;rintro _ rfl;refine⟨by omega,?_⟩;rintro _ rfl;refine⟨by omega,?_⟩;intro e he _ rfl _ rfl low hlow _ rfl _ rfl high hhigh;have heE:legE sg m bg i=e:=he.symm;have hlowE:legLow bg (legE sg m bg i) f t=low:=by rw[heE];exact hlow.symm
 have hhighE:legHigh bg (legE sg m bg i) f t=high:=by rw[heE];exact hhigh.symm
 unfold legSeg at fin;rw[hlowE,hhighE,heE]at fin;rw[hlowE,hhighE]at hd;unfold legPut at fin;refine⟨fun gl=> ?_,fun gl=>⟨by omega,fun z ez=> ?_⟩⟩
 . have gl:=odt gl;rw[if_pos gl]at fin;refine⟨⟨hi,hm,hp,by omega⟩,fun n0 h0 n1 h1 n2 h2=> ?_⟩;rw[<-h0,<-h1,<-h2]at fin;dsimp only at fin;have hs:=slk_bd hb a0 a1 a2 n0 n1 n2;refine⟨fun gm=>⟨trivial,fun u hu=> ?_⟩,fun gm=>⟨trivial,fun u hu=> ?_⟩⟩
   . have gm:=odt gm;unfold legS at fin;rw[if_pos gm]at fin;rw[<-hu]at fin hs;unfold legTk at fin;refine⟨fun gu=> ?_,fun gu=> ?_⟩
     . rw[if_pos (odt gu)]at fin;refine⟨⟨by omega,by omega,by omega,units _ _ J3 (by omega)⟩,⟨_,rfl⟩,fun y ey=>⟨by omega,fun d ed=> ?_⟩⟩;obtain⟨c1,c2,c3⟩:=tadd_inv (q:=[0,u,high,0,a0,a1,a2,n0,n1,n2]) J1.1 J3 hs.1;have c1:(tadd pk ln [0,u,high,0,a0,a1,a2,n0,n1,n2]).2=ln+u:=c1;have c3:unitsOK (tadd pk ln [0,u,high,0,a0,a1,a2,n0,n1,n2]).1 (ln+u):=c3;rw[<-ey]at c1 c2 c3 fin;rw[<-ed]at fin;refine⟨⟨by omega,by omega,by omega,units _ _ c3 (by omega)⟩,⟨_,rfl⟩,fun w ew=>⟨by omega,fun z ez=> ?_⟩⟩;rw[<-ew]at fin;exact fin _ rfl z ez
     . rw[if_neg (odf gu)]at fin;refine⟨by omega,fun d ed=>⟨⟨by omega,by omega,by omega,units _ _ J3 (by omega)⟩,⟨_,rfl⟩,fun w ew=>⟨by omega,fun z ez=> ?_⟩⟩⟩;rw[<-ed]at fin;dsimp only at fin;rw[<-ew]at fin;exact fin _ rfl z ez
   . have gm:=odf gm;unfold legS at fin;rw[if_neg gm]at fin;rw[<-hu]at fin hs;unfold legTk at fin;refine⟨fun gu=> ?_,fun gu=> ?_⟩
     . rw[if_pos (odt gu)]at fin;refine⟨⟨by omega,by omega,by omega,units _ _ J3 (by omega)⟩,⟨_,rfl⟩,fun y ey=>⟨by omega,fun d ed=> ?_⟩⟩;obtain⟨c1,c2,c3⟩:=tadd_inv (q:=[0,u,low,0,a0,a1,a2,n0,n1,n2]) J1.1 J3 hs.1;have c1:(tadd pk ln [0,u,low,0,a0,a1,a2,n0,n1,n2]).2=ln+u:=c1;have c3:unitsOK (tadd pk ln [0,u,low,0,a0,a1,a2,n0,n1,n2]).1 (ln+u):=c3;rw[<-ey]at c1 c2 c3 fin;rw[<-ed]at fin;refine⟨⟨by omega,by omega,by omega,units _ _ c3 (by omega)⟩,⟨_,rfl⟩,fun w ew=>⟨by omega,fun z ez=> ?_⟩⟩;rw[<-ew]at fin;exact fin _ rfl z ez
     . rw[if_neg (odf gu)]at fin;refine⟨by omega,fun d ed=>⟨⟨by omega,by omega,by omega,units _ _ J3 (by omega)⟩,⟨_,rfl⟩,fun w ew=>⟨by omega,fun z ez=> ?_⟩⟩⟩;rw[<-ed]at fin;dsimp only at fin;rw[<-ew]at fin;exact fin _ rfl z ez
 . rw[if_neg (odf gl)]at fin;exact fin _ rfl z ez
set_option maxHeartbeats 4000000 in theorem loopLeg:∀v Q,(LLeg v).wp Q->hloop CLeg anLeg (nthLoop Tryz.f22 0) v Q:=by
 intro v Q h;unfold LLeg at h;split at h;case h_2=>exact h.elim
 rename_i f t m bg l n k s0 s1 s2 sg mk ax bz bt a0 a1 a2;split at h;case h_2=>exact h.elim
 rename_i sta spa aca jea loa hia bla oga sga pta stb spb acb jeb lob hib blb ogb sgb ptb stc spc acc jec loc hic blc ogc sgc ptc;split at h;case h_2=>exact h.elim
 rename_i zz z1 z2 z3 z4 z5 pk ln sa d0 d1 d2;obtain⟨⟨hn,hk0,hls,hm,hf,ht,hpk,hln,hl,hp,hb⟩,hq⟩:=h;subst hn hk0 hls hln;obtain rfl:pk=[]:=List.eq_nil_of_length_eq_zero hpk;have hm2:m=1∨m= -1:=by rcases hm with h|h;exact .inl h.1;exact .inr h.1
 have j0:legJ l m 0 ⟨[],0,a0,a1,a2,bg⟩:=by
  refine⟨⟨Int.le_refl _,by dsimp only;omega⟩,by simp,fun j hj=>by simp at hj,fun e=> ?_,fun e=> ?_⟩
  . rcases hm with h|h
    . rw[h.2];rfl
    . omega
  . rcases hm with h|h
    . omega
    . rw[h.2];simp
 have hJ:=legJ_all (s0:=s0) (s1:=s1) (s2:=s2) (f:=f) (t:=t) hl hb hm2 j0;refine hloop_rec (σ:=LegS×Nat) (fun s=>([.ce (I6 f), .ce (I6 t), .ce (.ptr 1000005 0), .ce (.ptr 1000006 0), .ce (.ptr 1000010 0), .ce (.ptr 1000012 0), .ce (I6 m), .ce (.ptr 1000014 0), .ce (I6 s.1.bg), .ce (.sl false [4,4,4,4,4,4,4] l), .ce (I6 (l.length:Int)), .ce (I6 (s.2:Int))],[[I6 s0,I6 s1,I6 s2, .sl false [4,4,4,4,4,4,4] l, .sl false [4,4,4] mk],[I6 sta,I6 spa,I6 aca,I6 jea,I6 loa,I6 hia,I6 bla,I6 oga,I6 sga, .sl false [4] pta,I6 stb,I6 spb,I6 acb,I6 jeb,I6 lob,I6 hib,I6 blb,I6 ogb,I6 sgb, .sl false [4] ptb,I6 stc,I6 spc,I6 acc,I6 jec,I6 loc,I6 hic,I6 blc,I6 ogc,I6 sgc, .sl false [4] ptc],[.sl true [4,4,4,4,4,4,4,4,4,4] zz,I6 z1,I6 z2,I6 z3,I6 z4,I6 z5],[.mu [4,4,4,4,4,4,4,4,4,4] s.1.pk,I6 s.1.ln,I6 sa,I6 d0,I6 d1,I6 d2],[I6 s.1.a0,I6 s.1.a1,I6 s.1.a2]])) (fun s=>l.length-s.2) (fun s=>s.2<=l.length/\s.1=legK s0 s1 s2 l bla blb blc f t m ⟨[],0,a0,a1,a2,bg⟩ s.2) ?_ (⟨[],0,a0,a1,a2,bg⟩,0) ⟨Nat.zero_le _,rfl⟩;rintro⟨x,k⟩⟨hk,he⟩K hn hx _;dsimp only at hk he hn⊢;have J:=hJ k hk;rw[<-he]at J;have hl1:=hl.1;have hpl:=plen_le hl;refine byVB (vbLeg s0 s1 s2 f t m x.bg l.length k x.a0 x.a1 x.a2 z1 z2 z3 z4 z5 x.ln sa d0 d1 d2 l mk l zz x.pk sta spa aca jea loa hia bla oga sga stb spb acb jeb lob hib blb ogb sgb stc spc acc jec loc hic blc ogc sgc pta ptb ptc K) ⟨fun g=> ?_,fun g=> ?_⟩
 . have g:=odt g;have hkl:k<l.length:=by omega
   obtain⟨J1,J2,J3,J4,J5⟩:=J;have fin:∀y:LegS,y=legStep s0 s1 s2 l bla blb blc f t m x k->∀z:Int,z=(k:Int)+1->K .normal ([.ce (I6 f), .ce (I6 t), .ce (.ptr 1000005 0), .ce (.ptr 1000006 0), .ce (.ptr 1000010 0), .ce (.ptr 1000012 0), .ce (I6 m), .ce (.ptr 1000014 0), .ce (I6 y.bg), .ce (.sl false [4,4,4,4,4,4,4] l), .ce (I6 (l.length:Int)), .ce (I6 z)],[[I6 s0,I6 s1,I6 s2, .sl false [4,4,4,4,4,4,4] l, .sl false [4,4,4] mk],[I6 sta,I6 spa,I6 aca,I6 jea,I6 loa,I6 hia,I6 bla,I6 oga,I6 sga, .sl false [4] pta,I6 stb,I6 spb,I6 acb,I6 jeb,I6 lob,I6 hib,I6 blb,I6 ogb,I6 sgb, .sl false [4] ptb,I6 stc,I6 spc,I6 acc,I6 jec,I6 loc,I6 hic,I6 blc,I6 ogc,I6 sgc, .sl false [4] ptc],[.sl true [4,4,4,4,4,4,4,4,4,4] zz,I6 z1,I6 z2,I6 z3,I6 z4,I6 z5],[.mu [4,4,4,4,4,4,4,4,4,4] y.pk,I6 y.ln,I6 sa,I6 d0,I6 d1,I6 d2],[I6 y.a0,I6 y.a1,I6 y.a2]]):=by
    intro y ey z ez;have:=hn (y,k+1) ⟨hkl,by rw[ey,he];rfl⟩ (by dsimp only;omega);rw[ez];exact this
   have hEn:=legE_next (m:=m) hkl J4 J5;have hbd:∀q,0<=plen (l.take q)/\plen (l.take q)<=4503599627370496:=fun q=>by
    have:=plen_le (l:=l.take q) ⟨by rw[List.length_take];omega,fun j hj=>by
     rw[List.length_take]at hj;have:=hl.2 j (by omega);unfold ec at this⊢;simp only[List.getD_eq_getElem?_getD,List.getElem?_take]at this⊢;rw[if_pos (by omega)];exact this⟩;exact this
   have hbg:0<=x.bg/\x.bg<=4503599627370496:=by
    rcases hm2 with e|e
    . rw[J4 e];exact hbd _
    . rw[J5 e];exact hbd _
   have hE:0<=legE l m x.bg (legI l.length m k)/\legE l m x.bg (legI l.length m k)<=4503599627370496:=by
    rcases hm2 with e|e
    . rw[hEn.1 e];exact hbd _
    . rw[hEn.2 e];exact hbd _
   have hi:=legI_bd (m:=m) hkl;have hkk:(k:Int)<=1048576:=by omega
   refine⟨fun gm=>⟨by omega,fun x1 e1=>⟨by omega,fun x2 e2=> ?_⟩⟩,fun gm=> ?_⟩
   . have hx2:legI l.length m k=x2:=by unfold legI;rw[if_pos (odt gm),e2,e1]
     have fin2:=fin;unfold legStep at fin2;rw[hx2]at fin2 hE hi;exact legMain s0 s1 s2 f t m x.bg l.length k x2 x.a0 x.a1 x.a2 z1 z2 z3 z4 z5 x.ln sa d0 d1 d2 l mk l zz x.pk sta spa aca jea loa hia bla oga sga stb spb acb jeb lob hib blb ogb sgb stc spc acc jec loc hic blc ogc sgc pta ptb ptc K hi hl hp hb hm2 (by omega) hbg hE (by omega) (by omega) J3 fin2
   . have hx2:legI l.length m k=(k:Int):=by unfold legI;rw[if_neg (odf gm)]
     have fin2:=fin;unfold legStep at fin2;rw[hx2]at fin2 hE hi;exact legMain s0 s1 s2 f t m x.bg l.length k k x.a0 x.a1 x.a2 z1 z2 z3 z4 z5 x.ln sa d0 d1 d2 l mk l zz x.pk sta spa aca jea loa hia bla oga sga stb spb acb jeb lob hib blb ogb sgb stc spc acc jec loc hic blc ogc sgc pta ptb ptc K hi hl hp hb hm2 (by omega) hbg hE (by omega) (by omega) J3 fin2
 . have g:=odf g;have hkl:k=l.length:=by omega
   exact hx 0 _ (hq x (by rw[he,hkl]))
theorem sLeg:Sound Tryz.prog 22 SLeg:=by
 refine sound_of (C:=CLeg) tabLeg Tryz.func22 (by kernel_rfl) (by decide+kernel) (by kernel_rfl) rfl ⟨sPLen,sFacing,sSlack,sAdd,trivial⟩ (loops1 (by kernel_rfl) (loopOK_of (an:=anLeg) (S:=LLeg) (by kernel_rfl) loopLeg)) ?_;intro hA pA R h;unfold SLeg at h;split at h;case h_2=>exfalso;exact h
 rename_i s0 s1 s2 sg mk ax d0 d1 d2 f t;split at h;case h_2=>exact h.elim
 rename_i sta spa aca jea loa hia bla oga sga pta stb spb acb jeb lob hib blb ogb sgb ptb stc spc acc jec loc hic blc ogc sgc ptc;obtain⟨⟨hl,hp,hb⟩,_,hq⟩:=h;have hpl:=plen_le hl;refine byVC (vcLeg s0 s1 s2 f t d0 d1 d2 sg mk sta spa aca jea loa hia bla oga sga stb spb acb jeb lob hib blb ogb sgb stc spc acc jec loc hic blc ogc sgc pta ptb ptc R) ⟨hl,?_⟩;rintro x1 e1 _ rfl x3 e3 _ rfl x5 e5;have c3:clamp (plen sg) f=x3:=by rw[e3,e1];rfl
 have c5:clamp (plen sg) t=x5:=by rw[e5,e1];rfl
 rw[c3,c5]at hq;refine⟨fun g=>⟨⟨rfl,rfl,rfl, .inr ⟨rfl,e1⟩,by omega,by omega,rfl,rfl,hl,hp,hb⟩,fun x ex=> ?_⟩,fun g=>⟨⟨rfl,rfl,rfl, .inl ⟨rfl,rfl⟩,by omega,by omega,rfl,rfl,hl,hp,hb⟩,fun x ex=> ?_⟩⟩
 . have g:=odt g;refine hq x ?_;rw[ex,e1];unfold leg legM;rw[if_pos g,if_pos (by decide)]
 . have g:=odf g;refine hq x ?_;rw[ex];unfold leg legM;rw[if_neg g,if_neg (by decide)]
end Go.Proofs.YthkoabbiiadbjaaGreat
namespace U
open Go
def endp(pk:LL)(j:Nat):Int:=ec pk j 0+ec pk j 1
def okTrk(pk:LL)(ln:Int):Prop:=pk.length<=4194304/\(0<=ln/\ln<=18014398509481984)/\(pk.length=0->ln=0)/\(0<pk.length->ec pk 0 0=0/\endp pk (pk.length-1)=ln)/\(∀j,j+1<pk.length->ec pk (j+1) 0=endp pk j)/\∀j,j<pk.length->1<=ec pk j 1/\(0<=ec pk j 2/\ec pk j 2<=18014398509481984)/\(-1<=ec pk j 3/\ec pk j 3<=1)
def tpcA:LL->Int->Int->Int
 |[],_,_=> -1
 |r::l,i,u=>if u<=r.getD 0 0+r.getD 1 0 then i else tpcA l (i+1) u
def tfind(pk:LL)(u:Int):Int:=tpcA pk 0 u
def tplace(pk:LL)(sa u:Int):Int:=if tfind pk u<0 then sa else ec pk (tfind pk u).toNat 2+ec pk (tfind pk u).toNat 3*(u-ec pk (tfind pk u).toNat 0)
def bsh(bl d:Int):Int:=if d= -1 then-bl else 0
def sel3(k a b c:Int):Int:=if k=0 then a else if k=1 then b else c
def tsh(bl mv w d at_ u:Int):Int:=if mv≠0∨w=d then bsh bl d else if d= -1 then-(min (u-at_) bl)else min (u-at_) bl-bl
def tmot(st og sg:Int)(pt:LL)(bl pos:Int)(pk:LL)(d u:Int)(c:Nat):Int:=mot st og sg pt pos+(if tfind pk u<0 then bsh bl d else tsh bl (ec pk (tfind pk u).toNat 3) (ec pk (tfind pk u).toNat (4+c)) (ec pk (tfind pk u).toNat (7+c)) (ec pk (tfind pk u).toNat 0) u)
def okMA(st og sg:Int)(pit:LL)(bl:Int):Prop:=(0<st/\st<=16777216)/\okC og sg pit/\(0<=bl/\bl<=4096)
end U
namespace Go.Proofs.YthkoabbiiadbjaaGreat
open Go Go.HL U
def SClamp(hA:List HV)(pA:List (List HC)):SR:=match hA,pA with
 |[.ce (.int .i64 v), .ce (.int .i64 n)],[]=> .det (0<=n) ⟨.ce (I6 (clamp n v)),false,[],[]⟩
 |_,_=> .fail
noncomputable def CClamp:Ctx:=⟨Tryz.prog,gam [],Tryz.f101.ntmps,[],[]⟩
theorem vcClamp(v n:Int)(Q:Res->Prop):(nfun true CClamp Tryz.f101 (bodyOf Tryz.f101) [.ce (I6 v), .ce (I6 n)] [] Q)=(∀x1,x1=min v n->∀x2,x2=max (0:Int) x1->Q ⟨.ce (I6 x2),false,[],[]⟩):=by kernel_rfl
def SAt(hA:List HV)(pA:List (List HC)):SR:=match hA,pA with
 |[.agg [.int .i64 s0, .int .i64 s1, .int .i64 s2, .sl false [4,4,4,4,4,4,4] sg, .sl false [4,4,4] mk], .ce (.int .i64 p)],[]=> .det (okLen sg/\okPts s0 s1 s2 sg/\p<=4611686018427387904) ⟨.agg [I6 (ptAt s0 sg 0 p),I6 (ptAt s1 sg 1 p),I6 (ptAt s2 sg 2 p)],false,[],[]⟩
 |_,_=> .fail
def tabAt:List (FuncId×HL.Spec):=[(118,SPFind),(36,SMulDiv)]
noncomputable def CAt:Ctx:=⟨Tryz.prog,gam tabAt,Tryz.f102.ntmps,[(4000009,unrT [1000002,1000004,1000007,1000008],fun _=> .fail)],[]⟩
theorem vcAt(s0 s1 s2 p:Int)(sg mk:LL)(Q:Res->Prop):(nfun true CAt Tryz.f102 (bodyOf Tryz.f102) [.agg [I6 s0,I6 s1,I6 s2, .sl false [4,4,4,4,4,4,4] sg, .sl false [4,4,4] mk], .ce (I6 p)] [] Q)=((okLen sg/\p<=4611686018427387904)/\(∃(x:Int×Int),x=pfind sg p)/\∀(x:Int×Int),x=pfind sg p->Br (x.1<0) (Q ⟨.agg [I6 s0,I6 s1,I6 s2],false,[],[]⟩) (Br (x.1>0) (R6 (x.1-1)/\∀x2,x2=x.1-1->(0<=x2/\x2<(sg.length:Int))/\(0<=x.1/\x.1<(sg.length:Int))/\R6 (el sg x.1.toNat-el sg x2.toNat)/\∀x3,x3=el sg x.1.toNat-el sg x2.toNat->(R6 x3/\R6 x.2/\(0<ec sg x.1.toNat 3/\ec sg x.1.toNat 3<=9223372036854775807)/\(-4611686018427387904<=x3*x.2/\x3*x.2<=4611686018427387904)/\(0:Int)<=2/\(2:Int)<=2)/\∀x4,x4=mdv (x3*x.2) (ec sg x.1.toNat 3) (2:Int)->∀(x5:Bool),x5=true->R6 (el sg x2.toNat+x4)/\∀x6,x6=el sg x2.toNat+x4->R6 (ec sg x.1.toNat 1-ec sg x2.toNat 1)/\∀x7,x7=ec sg x.1.toNat 1-ec sg x2.toNat 1->(R6 x7/\R6 x.2/\(0<ec sg x.1.toNat 3/\ec sg x.1.toNat 3<=9223372036854775807)/\(-4611686018427387904<=x7*x.2/\x7*x.2<=4611686018427387904)/\(0:Int)<=2/\(2:Int)<=2)/\∀x8,x8=mdv (x7*x.2) (ec sg x.1.toNat 3) (2:Int)->∀(x9:Bool),x9=true->R6 (ec sg x2.toNat 1+x8)/\∀x10,x10=ec sg x2.toNat 1+x8->R6 (ec sg x.1.toNat 2-ec sg x2.toNat 2)/\∀x11,x11=ec sg x.1.toNat 2-ec sg x2.toNat 2->(R6 x11/\R6 x.2/\(0<ec sg x.1.toNat 3/\ec sg x.1.toNat 3<=9223372036854775807)/\(-4611686018427387904<=x11*x.2/\x11*x.2<=4611686018427387904)/\(0:Int)<=2/\(2:Int)<=2)/\∀x12,x12=mdv (x11*x.2) (ec sg x.1.toNat 3) (2:Int)->∀(x13:Bool),x13=true->R6 (ec sg x2.toNat 2+x12)/\∀x14,x14=ec sg x2.toNat 2+x12->Q ⟨.agg [I6 x6,I6 x10,I6 x14],false,[],[]⟩) ((0<=x.1/\x.1<(sg.length:Int))/\R6 (el sg x.1.toNat-s0)/\∀x15,x15=el sg x.1.toNat-s0->(R6 x15/\R6 x.2/\(0<ec sg x.1.toNat 3/\ec sg x.1.toNat 3<=9223372036854775807)/\(-4611686018427387904<=x15*x.2/\x15*x.2<=4611686018427387904)/\(0:Int)<=2/\(2:Int)<=2)/\∀x16,x16=mdv (x15*x.2) (ec sg x.1.toNat 3) (2:Int)->∀(x17:Bool),x17=true->R6 (s0+x16)/\∀x18,x18=s0+x16->R6 (ec sg x.1.toNat 1-s1)/\∀x19,x19=ec sg x.1.toNat 1-s1->(R6 x19/\R6 x.2/\(0<ec sg x.1.toNat 3/\ec sg x.1.toNat 3<=9223372036854775807)/\(-4611686018427387904<=x19*x.2/\x19*x.2<=4611686018427387904)/\(0:Int)<=2/\(2:Int)<=2)/\∀x20,x20=mdv (x19*x.2) (ec sg x.1.toNat 3) (2:Int)->∀(x21:Bool),x21=true->R6 (s1+x20)/\∀x22,x22=s1+x20->R6 (ec sg x.1.toNat 2-s2)/\∀x23,x23=ec sg x.1.toNat 2-s2->(R6 x23/\R6 x.2/\(0<ec sg x.1.toNat 3/\ec sg x.1.toNat 3<=9223372036854775807)/\(-4611686018427387904<=x23*x.2/\x23*x.2<=4611686018427387904)/\(0:Int)<=2/\(2:Int)<=2)/\∀x24,x24=mdv (x23*x.2) (ec sg x.1.toNat 3) (2:Int)->∀(x25:Bool),x25=true->R6 (s2+x24)/\∀x26,x26=s2+x24->Q ⟨.agg [I6 x18,I6 x22,I6 x26],false,[],[]⟩))):=by kernel_rfl
def STFind(hA:List HV)(pA:List (List HC)):SR:=match hA,pA with
 |[.agg [.sl false [4,4,4,4,4,4,4,4,4,4] pk, .int .i64 ln, .int .i64 sa, .int .i64 d0, .int .i64 d1, .int .i64 d2], .ce (.int .i64 u)],[]=> .det (okTrk pk ln/\0<=u/\u<=ln) ⟨.ce (I6 (tfind pk u)),false,[],[]⟩
 |_,_=> .fail
def anTF:LAnn:=⟨[1,2,4,5,6],[6],[1000002],false⟩
def LTF(v:LV):LR:=match v with
 |([.ce (.int .i64 u), .ce (.ptr 1000002 0), .ce (.int .i64 z), .ce (.int .i64 lo), .ce (.int .i64 hi)],[[.sl false [4,4,4,4,4,4,4,4,4,4] pk, .int .i64 ln, .int .i64 sa, .int .i64 d0, .int .i64 d1, .int .i64 d2]])=> .det (lo=0/\hi=(pk.length:Int)-1/\okTrk pk ln/\0<=u/\u<=ln) (.exit 0) ([.ce (I6 (tfind pk u))],[[.sl false [4,4,4,4,4,4,4,4,4,4] pk,I6 ln,I6 sa,I6 d0,I6 d1,I6 d2]])
 |_=> .fail
noncomputable def CTF:Ctx:=⟨Tryz.prog,gam [],Tryz.f104.ntmps,[(2,anTF,LTF)],[]⟩
theorem vbTF(u z lo hi ln sa d0 d1 d2:Int)(pk:LL)(K:HEx->LV->Prop):(nbodyT true CTF anTF (nthLoop Tryz.f104 0) (([.ce (I6 u), .ce (.ptr 1000002 0), .ce (I6 z), .ce (I6 lo), .ce (I6 hi)],[[.sl false [4,4,4,4,4,4,4,4,4,4] pk,I6 ln,I6 sa,I6 d0,I6 d1,I6 d2]])) K)=(Br (lo<hi) (R6 (lo+hi)/\∀x1,x1=lo+hi->(2:Int)≠(0:Int)/\R6 (Int.tdiv x1 2)/\∀x2,x2=Int.tdiv x1 2->(0<=x2/\x2<(pk.length:Int))/\R6 (el pk x2.toNat+ec pk x2.toNat 1)/\∀x3,x3=el pk x2.toNat+ec pk x2.toNat 1->Br (u<=x3) (K .normal ([.ce (I6 u), .ce (.ptr 1000002 0), .ce (I6 z), .ce (I6 lo), .ce (I6 x2)],[[.sl false [4,4,4,4,4,4,4,4,4,4] pk,I6 ln,I6 sa,I6 d0,I6 d1,I6 d2]])) (R6 (x2+1)/\∀x4,x4=x2+1->K .normal ([.ce (I6 u), .ce (.ptr 1000002 0), .ce (I6 z), .ce (I6 x4), .ce (I6 hi)],[[.sl false [4,4,4,4,4,4,4,4,4,4] pk,I6 ln,I6 sa,I6 d0,I6 d1,I6 d2]]))) (K (.exit 0) ([.ce (I6 hi)],[[.sl false [4,4,4,4,4,4,4,4,4,4] pk,I6 ln,I6 sa,I6 d0,I6 d1,I6 d2]]))):=by kernel_rfl
theorem vcTF(u ln sa d0 d1 d2:Int)(pk:LL)(Q:Res->Prop):(nfun true CTF Tryz.f104 (bodyOf Tryz.f104) [.agg [.sl false [4,4,4,4,4,4,4,4,4,4] pk,I6 ln,I6 sa,I6 d0,I6 d1,I6 d2], .ce (I6 u)] [] Q)=(R6 ((pk.length:Int)-1)/\∀x1,x1=(pk.length:Int)-1->((0:Int)=0/\x1=(pk.length:Int)-1/\okTrk pk ln/\0<=u/\u<=ln)/\Q ⟨.ce (I6 (tfind pk u)),false,[],[]⟩):=by kernel_rfl
def SPlace(hA:List HV)(pA:List (List HC)):SR:=match hA,pA with
 |[.agg [.sl false [4,4,4,4,4,4,4,4,4,4] pk, .int .i64 ln, .int .i64 sa, .int .i64 d0, .int .i64 d1, .int .i64 d2], .ce (.int .i64 u)],[]=> .det (okTrk pk ln) ⟨.ce (I6 (tplace pk sa (clamp ln u))),false,[],[]⟩
 |_,_=> .fail
def tabTF:List (FuncId×HL.Spec):=[(101,SClamp),(104,STFind)]
noncomputable def CPlace:Ctx:=⟨Tryz.prog,gam tabTF,Tryz.f103.ntmps,[],[]⟩
theorem vcPlace(u ln sa d0 d1 d2:Int)(pk:LL)(Q:Res->Prop):(nfun true CPlace Tryz.f103 (bodyOf Tryz.f103) [.agg [.sl false [4,4,4,4,4,4,4,4,4,4] pk,I6 ln,I6 sa,I6 d0,I6 d1,I6 d2], .ce (I6 u)] [] Q)=(0<=ln/\∀x1,x1=clamp ln u->(okTrk pk ln/\0<=x1/\x1<=ln)/\∀x2,x2=tfind pk x1->Br (x2<0) (Q ⟨.ce (I6 sa),false,[],[]⟩) ((0<=x2/\x2<(pk.length:Int))/\∀x3,x3=ec pk x2.toNat 2->(0<=x2/\x2<(pk.length:Int))/\∀x4,x4=ec pk x2.toNat 3->(0<=x2/\x2<(pk.length:Int))/\∀x5,x5=el pk x2.toNat->R6 (x1-x5)/\∀x6,x6=x1-x5->R6 (x4*x6)/\∀x7,x7=x4*x6->R6 (x3+x7)/\∀x8,x8=x3+x7->Q ⟨.ce (I6 x8),false,[],[]⟩)):=by kernel_rfl
def SBsh(hA:List HV)(pA:List (List HC)):SR:=match hA,pA with
 |[.agg [.int .i64 sta, .int .i64 spa, .int .i64 aca, .int .i64 jea, .int .i64 loa, .int .i64 hia, .int .i64 bla, .int .i64 oga, .int .i64 sga, .sl false [4] pta], .ce (.int .i64 d)],[]=> .det (0<=bla/\bla<=4096) ⟨.ce (I6 (bsh bla d)),false,[],[]⟩
 |_,_=> .fail
noncomputable def CBsh:Ctx:=⟨Tryz.prog,gam [],Tryz.f106.ntmps,[],[]⟩
theorem vcBsh(sta spa aca jea loa hia bla oga sga:Int)(pta:LL)(d:Int)(Q:Res->Prop):(nfun true CBsh Tryz.f106 (bodyOf Tryz.f106) [.agg [I6 sta,I6 spa,I6 aca,I6 jea,I6 loa,I6 hia,I6 bla,I6 oga,I6 sga, .sl false [4] pta], .ce (I6 d)] [] Q)=(Bb (d==(-1:Int)) (R6 (0-bla)/\∀x1,x1=0-bla->Q ⟨.ce (I6 x1),false,[],[]⟩) (Q ⟨.ce (I6 0),false,[],[]⟩)):=by kernel_rfl
def STsh(hA:List HV)(pA:List (List HC)):SR:=match hA,pA with
 |[.agg [.int .i64 sta, .int .i64 spa, .int .i64 aca, .int .i64 jea, .int .i64 loa, .int .i64 hia, .int .i64 bla, .int .i64 oga, .int .i64 sga, .sl false [4] pta], .agg [.int .i64 q0, .int .i64 q1, .int .i64 q2, .int .i64 q3, .int .i64 q4, .int .i64 q5, .int .i64 q6, .int .i64 q7, .int .i64 q8, .int .i64 q9], .ce (.int .i64 k), .ce (.int .i64 u)],[]=> .det ((0<=k/\k<=2)/\(0<=bla/\bla<=4096)/\(-18014398509481984<=u/\u<=18014398509481984)/\(-18014398509481984<=q0/\q0<=18014398509481984)) ⟨.ce (I6 (tsh bla q3 (sel3 k q4 q5 q6) (sel3 k q7 q8 q9) q0 u)),false,[],[]⟩
 |_,_=> .fail
def tabTsh:List (FuncId×HL.Spec):=[(106,SBsh)]
noncomputable def CTsh:Ctx:=⟨Tryz.prog,gam tabTsh,Tryz.f107.ntmps,[],[spl 1 2 6 0]⟩
theorem vcTsh(sta spa aca jea loa hia bla oga sga:Int)(pta:LL)(q0 q1 q2 q3 q4 q5 q6 q7 q8 q9 k u:Int)(Q:Res->Prop):(nfun true CTsh Tryz.f107 (bodyOf Tryz.f107) [.agg [I6 sta,I6 spa,I6 aca,I6 jea,I6 loa,I6 hia,I6 bla,I6 oga,I6 sga, .sl false [4] pta], .agg [I6 q0,I6 q1,I6 q2,I6 q3,I6 q4,I6 q5,I6 q6,I6 q7,I6 q8,I6 q9], .ce (I6 k), .ce (I6 u)] [] Q)=((k=0->Bb (q3 !=0) ((0<=bla/\bla<=4096)/\∀x1,x1=bsh bla q7->Q ⟨.ce (I6 x1),false,[],[]⟩) (Bb (q4==q7) ((0<=bla/\bla<=4096)/\∀x2,x2=bsh bla q7->Q ⟨.ce (I6 x2),false,[],[]⟩) (R6 (u-q0)/\∀x3,x3=u-q0->∀x4,x4=min x3 bla->Bb (q7==(-1:Int)) (R6 (0-x4)/\∀x5,x5=0-x4->Q ⟨.ce (I6 x5),false,[],[]⟩) (R6 (x4-bla)/\∀x6,x6=x4-bla->Q ⟨.ce (I6 x6),false,[],[]⟩))))/\(k≠0->(k=1->Bb (q3 !=0) ((0<=bla/\bla<=4096)/\∀x7,x7=bsh bla q8->Q ⟨.ce (I6 x7),false,[],[]⟩) (Bb (q5==q8) ((0<=bla/\bla<=4096)/\∀x8,x8=bsh bla q8->Q ⟨.ce (I6 x8),false,[],[]⟩) (R6 (u-q0)/\∀x9,x9=u-q0->∀x10,x10=min x9 bla->Bb (q8==(-1:Int)) (R6 (0-x10)/\∀x11,x11=0-x10->Q ⟨.ce (I6 x11),false,[],[]⟩) (R6 (x10-bla)/\∀x12,x12=x10-bla->Q ⟨.ce (I6 x12),false,[],[]⟩))))/\(k≠1->(k=2->Bb (q3 !=0) ((0<=bla/\bla<=4096)/\∀x13,x13=bsh bla q9->Q ⟨.ce (I6 x13),false,[],[]⟩) (Bb (q6==q9) ((0<=bla/\bla<=4096)/\∀x14,x14=bsh bla q9->Q ⟨.ce (I6 x14),false,[],[]⟩) (R6 (u-q0)/\∀x15,x15=u-q0->∀x16,x16=min x15 bla->Bb (q9==(-1:Int)) (R6 (0-x16)/\∀x17,x17=0-x16->Q ⟨.ce (I6 x17),false,[],[]⟩) (R6 (x16-bla)/\∀x18,x18=x16-bla->Q ⟨.ce (I6 x18),false,[],[]⟩))))/\(k≠2->False)))):=by kernel_rfl
def SMotors(hA:List HV)(pA:List (List HC)):SR:=match hA,pA with
 |[.agg [.int .i64 s0, .int .i64 s1, .int .i64 s2, .sl false [4,4,4,4,4,4,4] sg, .sl false [4,4,4] mk], .agg ax, .agg [.sl false [4,4,4,4,4,4,4,4,4,4] pk, .int .i64 ln, .int .i64 sa, .int .i64 d0, .int .i64 d1, .int .i64 d2], .ce (.int .i64 u)],[]=>match ax with
  |[.int .i64 sta, .int .i64 spa, .int .i64 aca, .int .i64 jea, .int .i64 loa, .int .i64 hia, .int .i64 bla, .int .i64 oga, .int .i64 sga, .sl false [4] pta, .int .i64 stb, .int .i64 spb, .int .i64 acb, .int .i64 jeb, .int .i64 lob, .int .i64 hib, .int .i64 blb, .int .i64 ogb, .int .i64 sgb, .sl false [4] ptb, .int .i64 stc, .int .i64 spc, .int .i64 acc, .int .i64 jec, .int .i64 loc, .int .i64 hic, .int .i64 blc, .int .i64 ogc, .int .i64 sgc, .sl false [4] ptc]=> .det (okLen sg/\okPts s0 s1 s2 sg/\okTrk pk ln/\okMA sta oga sga pta bla/\okMA stb ogb sgb ptb blb/\okMA stc ogc sgc ptc blc/\(0<=sa/\sa<=18014398509481984)) ⟨.agg [I6 (tmot sta oga sga pta bla (ptAt s0 sg 0 (tplace pk sa (clamp ln u))) pk d0 (clamp ln u) 0),I6 (tmot stb ogb sgb ptb blb (ptAt s1 sg 1 (tplace pk sa (clamp ln u))) pk d1 (clamp ln u) 1),I6 (tmot stc ogc sgc ptc blc (ptAt s2 sg 2 (tplace pk sa (clamp ln u))) pk d2 (clamp ln u) 2)],false,[],[]⟩
  |_=> .fail
 |_,_=> .fail
def tabMotors:List (FuncId×HL.Spec):=[(101,SClamp),(103,SPlace),(102,SAt),(104,STFind),(105,SMotor),(106,SBsh),(107,STsh)]
noncomputable def CMotors:Ctx:=⟨Tryz.prog,gam tabMotors,Tryz.f76.ntmps,[(4000006,unrT [1000004,1000005,1000006,1000008,1000009,1000011],fun _=> .fail)],[]⟩
theorem vcMotors(s0 s1 s2 u ln sa d0 d1 d2:Int)(sg mk pk:LL)(sta spa aca jea loa hia bla oga sga stb spb acb jeb lob hib blb ogb sgb stc spc acc jec loc hic blc ogc sgc:Int)(pta ptb ptc:LL)(Q:Res->Prop):(nfun true CMotors Tryz.f76 (bodyOf Tryz.f76) [.agg [I6 s0,I6 s1,I6 s2, .sl false [4,4,4,4,4,4,4] sg, .sl false [4,4,4] mk], .agg [I6 sta,I6 spa,I6 aca,I6 jea,I6 loa,I6 hia,I6 bla,I6 oga,I6 sga, .sl false [4] pta,I6 stb,I6 spb,I6 acb,I6 jeb,I6 lob,I6 hib,I6 blb,I6 ogb,I6 sgb, .sl false [4] ptb,I6 stc,I6 spc,I6 acc,I6 jec,I6 loc,I6 hic,I6 blc,I6 ogc,I6 sgc, .sl false [4] ptc], .agg [.sl false [4,4,4,4,4,4,4,4,4,4] pk,I6 ln,I6 sa,I6 d0,I6 d1,I6 d2], .ce (I6 u)] [] Q)=(0<=ln/\∀x1,x1=clamp ln u->okTrk pk ln/\∀x2,x2=tplace pk sa (clamp ln x1)->(okLen sg/\okPts s0 s1 s2 sg/\x2<=4611686018427387904)/\∀x3,x3=ptAt s0 sg (0:Nat) x2->∀x4,x4=ptAt s1 sg (1:Nat) x2->∀x5,x5=ptAt s2 sg (2:Nat) x2->(okTrk pk ln/\0<=x1/\x1<=ln)/\∀x6,x6=tfind pk x1->((0<sta/\sta<=16777216)/\okC oga sga pta/\ -1073741824<=x3/\x3<=1073741824)/\∀x7,x7=mot sta oga sga pta x3->Br (x6<0) ((0<=bla/\bla<=4096)/\∀x8,x8=bsh bla d0->R6 (x7+x8)/\∀x9,x9=x7+x8->((0<stb/\stb<=16777216)/\okC ogb sgb ptb/\ -1073741824<=x4/\x4<=1073741824)/\∀x10,x10=mot stb ogb sgb ptb x4->Br (x6<0) ((0<=blb/\blb<=4096)/\∀x11,x11=bsh blb d1->R6 (x10+x11)/\∀x12,x12=x10+x11->((0<stc/\stc<=16777216)/\okC ogc sgc ptc/\ -1073741824<=x5/\x5<=1073741824)/\∀x13,x13=mot stc ogc sgc ptc x5->Br (x6<0) ((0<=blc/\blc<=4096)/\∀x14,x14=bsh blc d2->R6 (x13+x14)/\∀x15,x15=x13+x14->Q ⟨.agg [I6 x9,I6 x12,I6 x15],false,[],[]⟩) ((0<=x6/\x6<(pk.length:Int))/\(((0:Int)<=2/\(2:Int)<=2)/\(0<=blc/\blc<=4096)/\(-18014398509481984<=x1/\x1<=18014398509481984)/\ -18014398509481984<=el pk x6.toNat/\el pk x6.toNat<=18014398509481984)/\∀x16,x16=tsh blc (ec pk x6.toNat 3) (sel3 (2:Int) (ec pk x6.toNat 4) (ec pk x6.toNat 5) (ec pk x6.toNat 6)) (sel3 (2:Int) (ec pk x6.toNat 7) (ec pk x6.toNat 8) (ec pk x6.toNat 9)) (el pk x6.toNat) x1->R6 (x13+x16)/\∀x17,x17=x13+x16->Q ⟨.agg [I6 x9,I6 x12,I6 x17],false,[],[]⟩)) ((0<=x6/\x6<(pk.length:Int))/\(((0:Int)<=1/\(1:Int)<=2)/\(0<=blb/\blb<=4096)/\(-18014398509481984<=x1/\x1<=18014398509481984)/\ -18014398509481984<=el pk x6.toNat/\el pk x6.toNat<=18014398509481984)/\∀x18,x18=tsh blb (ec pk x6.toNat 3) (sel3 (1:Int) (ec pk x6.toNat 4) (ec pk x6.toNat 5) (ec pk x6.toNat 6)) (sel3 (1:Int) (ec pk x6.toNat 7) (ec pk x6.toNat 8) (ec pk x6.toNat 9)) (el pk x6.toNat) x1->R6 (x10+x18)/\∀x19,x19=x10+x18->((0<stc/\stc<=16777216)/\okC ogc sgc ptc/\ -1073741824<=x5/\x5<=1073741824)/\∀x20,x20=mot stc ogc sgc ptc x5->Br (x6<0) ((0<=blc/\blc<=4096)/\∀x21,x21=bsh blc d2->R6 (x20+x21)/\∀x22,x22=x20+x21->Q ⟨.agg [I6 x9,I6 x19,I6 x22],false,[],[]⟩) ((0<=x6/\x6<(pk.length:Int))/\(((0:Int)<=2/\(2:Int)<=2)/\(0<=blc/\blc<=4096)/\(-18014398509481984<=x1/\x1<=18014398509481984)/\ -18014398509481984<=el pk x6.toNat/\el pk x6.toNat<=18014398509481984)/\∀x23,x23=tsh blc (ec pk x6.toNat 3) (sel3 (2:Int) (ec pk x6.toNat 4) (ec pk x6.toNat 5) (ec pk x6.toNat 6)) (sel3 (2:Int) (ec pk x6.toNat 7) (ec pk x6.toNat 8) (ec pk x6.toNat 9)) (el pk x6.toNat) x1->R6 (x20+x23)/\∀x24,x24=x20+x23->Q ⟨.agg [I6 x9,I6 x19,I6 x24],false,[],[]⟩))) ((0<=x6/\x6<(pk.length:Int))/\(((0:Int)<=0/\(0:Int)<=2)/\(0<=bla/\bla<=4096)/\(-18014398509481984<=x1/\x1<=18014398509481984)/\ -18014398509481984<=el pk x6.toNat/\el pk x6.toNat<=18014398509481984)/\∀x25,x25=tsh bla (ec pk x6.toNat 3) (sel3 (0:Int) (ec pk x6.toNat 4) (ec pk x6.toNat 5) (ec pk x6.toNat 6)) (sel3 (0:Int) (ec pk x6.toNat 7) (ec pk x6.toNat 8) (ec pk x6.toNat 9)) (el pk x6.toNat) x1->R6 (x7+x25)/\∀x26,x26=x7+x25->((0<stb/\stb<=16777216)/\okC ogb sgb ptb/\ -1073741824<=x4/\x4<=1073741824)/\∀x27,x27=mot stb ogb sgb ptb x4->Br (x6<0) ((0<=blb/\blb<=4096)/\∀x28,x28=bsh blb d1->R6 (x27+x28)/\∀x29,x29=x27+x28->((0<stc/\stc<=16777216)/\okC ogc sgc ptc/\ -1073741824<=x5/\x5<=1073741824)/\∀x30,x30=mot stc ogc sgc ptc x5->Br (x6<0) ((0<=blc/\blc<=4096)/\∀x31,x31=bsh blc d2->R6 (x30+x31)/\∀x32,x32=x30+x31->Q ⟨.agg [I6 x26,I6 x29,I6 x32],false,[],[]⟩) ((0<=x6/\x6<(pk.length:Int))/\(((0:Int)<=2/\(2:Int)<=2)/\(0<=blc/\blc<=4096)/\(-18014398509481984<=x1/\x1<=18014398509481984)/\ -18014398509481984<=el pk x6.toNat/\el pk x6.toNat<=18014398509481984)/\∀x33,x33=tsh blc (ec pk x6.toNat 3) (sel3 (2:Int) (ec pk x6.toNat 4) (ec pk x6.toNat 5) (ec pk x6.toNat 6)) (sel3 (2:Int) (ec pk x6.toNat 7) (ec pk x6.toNat 8) (ec pk x6.toNat 9)) (el pk x6.toNat) x1->R6 (x30+x33)/\∀x34,x34=x30+x33->Q ⟨.agg [I6 x26,I6 x29,I6 x34],false,[],[]⟩)) ((0<=x6/\x6<(pk.length:Int))/\(((0:Int)<=1/\(1:Int)<=2)/\(0<=blb/\blb<=4096)/\(-18014398509481984<=x1/\x1<=18014398509481984)/\ -18014398509481984<=el pk x6.toNat/\el pk x6.toNat<=18014398509481984)/\∀x35,x35=tsh blb (ec pk x6.toNat 3) (sel3 (1:Int) (ec pk x6.toNat 4) (ec pk x6.toNat 5) (ec pk x6.toNat 6)) (sel3 (1:Int) (ec pk x6.toNat 7) (ec pk x6.toNat 8) (ec pk x6.toNat 9)) (el pk x6.toNat) x1->R6 (x27+x35)/\∀x36,x36=x27+x35->((0<stc/\stc<=16777216)/\okC ogc sgc ptc/\ -1073741824<=x5/\x5<=1073741824)/\∀x37,x37=mot stc ogc sgc ptc x5->Br (x6<0) ((0<=blc/\blc<=4096)/\∀x38,x38=bsh blc d2->R6 (x37+x38)/\∀x39,x39=x37+x38->Q ⟨.agg [I6 x26,I6 x36,I6 x39],false,[],[]⟩) ((0<=x6/\x6<(pk.length:Int))/\(((0:Int)<=2/\(2:Int)<=2)/\(0<=blc/\blc<=4096)/\(-18014398509481984<=x1/\x1<=18014398509481984)/\ -18014398509481984<=el pk x6.toNat/\el pk x6.toNat<=18014398509481984)/\∀x40,x40=tsh blc (ec pk x6.toNat 3) (sel3 (2:Int) (ec pk x6.toNat 4) (ec pk x6.toNat 5) (ec pk x6.toNat 6)) (sel3 (2:Int) (ec pk x6.toNat 7) (ec pk x6.toNat 8) (ec pk x6.toNat 9)) (el pk x6.toNat) x1->R6 (x37+x40)/\∀x41,x41=x37+x40->Q ⟨.agg [I6 x26,I6 x36,I6 x41],false,[],[]⟩)))):=by kernel_rfl
end Go.Proofs.YthkoabbiiadbjaaGreat
namespace U
theorem lfA_spec:∀(l:LL)(i s:Int),0<=s->(lfA l i s).1= -1∨∃j:Nat,j<l.length/\(lfA l i s).1=i+j/\0<=(lfA l i s).2/\(lfA l i s).2<ec l j 3
 |[],i,s,_=> .inl rfl
 |r::l,i,s,hs=>by
  unfold lfA;by_cases h:s<r.getD 3 0
  . rw[if_pos h];exact .inr ⟨0,by simp,by simp,hs,h⟩
  . rw[if_neg h];rcases lfA_spec l (i+1) (s-r.getD 3 0) (by omega)with h1|⟨j,h1,h2,h3,h4⟩
    . exact .inl h1
    . exact .inr ⟨j+1,by simp;exact h1,by rw[h2];omega,h3,h4⟩
theorem pfind_spec{sg:LL}(h:okLen sg)(p:Int):(sg.length=0/\pfind sg p=(-1,0))∨∃j:Nat,j<sg.length/\(pfind sg p).1=j/\0<=(pfind sg p).2/\(pfind sg p).2<=ec sg j 3:=by
 unfold pfind;by_cases h0:sg.length=0
 . rw[if_pos h0];exact .inl ⟨h0,rfl⟩
 . rw[if_neg h0];right;by_cases h1:0<=(lfA sg 0 (max p 0)).1
   . rw[if_pos h1];rcases lfA_spec sg 0 (max p 0) (by omega)with h2|⟨j,h2,h3,h4,h5⟩
     . omega
     . exact⟨j,h2,by omega,h4,by omega⟩
   . rw[if_neg h1];have:=h.2 (sg.length-1) (by omega);exact⟨sg.length-1,by omega,by dsimp only;omega,by dsimp only;omega,Int.le_refl _⟩
theorem rnd_hull{a d L:Int}(hd:0<=d/\d<=L)(hL:0<L):(0<=a->0<=rnd (a*d) L/\rnd (a*d) L<=a)/\(a<=0->a<=rnd (a*d) L/\rnd (a*d) L<=0):=by
 unfold rnd;refine⟨fun ha=> ?_,fun ha=> ?_⟩
 . have h1:=Int.mul_nonneg ha hd.1;have h2:a*d<=a*L:=Int.mul_le_mul_of_nonneg_left hd.2 ha;refine⟨Int.ediv_nonneg (by omega) (by omega),Int.lt_add_one_iff.1 (Int.ediv_lt_of_lt_mul (by omega) ?_)⟩;have:(a+1)*(2*L)=2*(a*L)+2*L:=by grind
   omega
 . have h1:a*d<=0:=Int.mul_nonpos_of_nonpos_of_nonneg ha hd.1;have h2:a*L<=a*d:=Int.mul_le_mul_of_nonpos_left ha hd.2;refine⟨Int.le_ediv_of_mul_le (by omega) ?_,Int.lt_add_one_iff.1 (Int.ediv_lt_of_lt_mul (by omega) (by omega))⟩;have:a*(2*L)=2*(a*L):=by grind
   omega
theorem mul_bd3{a d:Int}(ha: -1073741824<=a/\a<=1073741824)(hd:0<=d/\d<=4294967296): -4611686018427387904<=a*d/\a*d<=4611686018427387904:=by
 have:=mul_bd2 (a:=a) (b:=d) (A:=1073741824) (B:=4294967296) ha hd;omega
theorem coord_bd{s:Int}{sg:LL}{c:Nat}{j:Nat}{d:Int}(hl:okLen sg)(h0: -536870912<=s/\s<=536870912)(h:∀j,j<sg.length-> -536870912<=ec sg j c/\ec sg j c<=536870912)(hj:j<sg.length)(hd:0<=d/\d<=ec sg j 3):(-1073741824<=ec sg j c-bgn s sg c j/\ec sg j c-bgn s sg c j<=1073741824)/\(-4611686018427387904<=(ec sg j c-bgn s sg c j)*d/\(ec sg j c-bgn s sg c j)*d<=4611686018427387904)/\(-536870912<=bgn s sg c j+rnd ((ec sg j c-bgn s sg c j)*d) (ec sg j 3)/\bgn s sg c j+rnd ((ec sg j c-bgn s sg c j)*d) (ec sg j 3)<=536870912):=by
 have b:=bgn_bd (i:=(j:Int)) h0 h (by omega);have e:=h j hj;have len:=hl.2 j hj;have m:=mul_bd3 (a:=ec sg j c-bgn s sg c j) (d:=d) (by omega) (by omega);have hu:=rnd_hull (a:=ec sg j c-bgn s sg c j) hd (by omega);refine⟨by omega,m,?_⟩;by_cases hs:0<=ec sg j c-bgn s sg c j
 . have:=hu.1 hs;omega
 . have:=hu.2 (by omega);omega
theorem ptAt_bd{s:Int}{sg:LL}{c:Nat}(hl:okLen sg)(h0: -536870912<=s/\s<=536870912)(h:∀j,j<sg.length-> -536870912<=ec sg j c/\ec sg j c<=536870912)(p:Int): -536870912<=ptAt s sg c p/\ptAt s sg c p<=536870912:=by
 unfold ptAt;rcases pfind_spec hl p with⟨h1,h2⟩|⟨j,h1,h2,h3,h4⟩
 . rw[h2];exact h0
 . rw[if_neg (by omega),h2];exact(coord_bd hl h0 h h1 ⟨h3,h4⟩).2.2
theorem clamp_bd{n v:Int}(h:0<=n):0<=clamp n v/\clamp n v<=n:=by unfold clamp;omega
theorem clamp_idem{n v:Int}(h:0<=n):clamp n (clamp n v)=clamp n v:=by unfold clamp;omega
theorem tpcA_of(u:Int):∀(l:LL)(i:Int)(j:Nat),j<l.length->u<=endp l j->(∀k,k<j->endp l k<u)->tpcA l i u=i+j
 |[],i,j,h,_,_=>absurd h (Nat.not_lt_zero _)
 |r::l,i,0,_,h,_=>by
  unfold tpcA;have h:u<=r.getD 0 0+r.getD 1 0:=h;rw[if_pos h];simp
 |r::l,i,j+1,hj,h,hk=>by
  unfold tpcA;have h0:=hk 0 (by omega);have h0:r.getD 0 0+r.getD 1 0<u:=h0;rw[if_neg (by omega),tpcA_of u l (i+1) j (by simpa using hj) h (fun k hk'=>hk (k+1) (by omega))];omega
theorem tpcA_spec(u:Int):∀(l:LL)(i:Int),(tpcA l i u= -1/\∀j,j<l.length->endp l j<u)∨∃j:Nat,j<l.length/\tpcA l i u=i+j/\u<=endp l j/\∀k,k<j->endp l k<u
 |[],i=> .inl ⟨rfl,fun j hj=>absurd hj (Nat.not_lt_zero _)⟩
 |r::l,i=>by
  unfold tpcA;by_cases h:u<=r.getD 0 0+r.getD 1 0
  . rw[if_pos h];exact .inr ⟨0,by simp,by simp,h,fun k hk=>absurd hk (Nat.not_lt_zero _)⟩
  . rw[if_neg h];have h0:endp (r::l) 0<u:=by show r.getD 0 0+r.getD 1 0<u;omega
    rcases tpcA_spec u l (i+1)with⟨h1,h2⟩|⟨j,h1,h2,h3,h4⟩
    . refine .inl ⟨h1,fun j hj=> ?_⟩;cases j with
      |zero=>exact h0
      |succ j=>exact h2 j (by simpa using hj)
    . refine .inr ⟨j+1,by simp;exact h1,by rw[h2];omega,h3,fun k hk=> ?_⟩;cases k with
      |zero=>exact h0
      |succ k=>exact h4 k (by omega)
theorem tfind_of{pk:LL}{u:Int}{j:Nat}(h:j<pk.length)(h1:u<=endp pk j)(h2:∀k,k<j->endp pk k<u):tfind pk u=j:=by
 unfold tfind;rw[tpcA_of u pk 0 j h h1 h2];omega
theorem endp_step{pk:LL}{ln:Int}(h:okTrk pk ln){j:Nat}(hj:j+1<pk.length):endp pk j<endp pk (j+1):=by
 obtain⟨_,_,_,_,h5,h6⟩:=h;have a:=h5 j hj;have b:=(h6 (j+1) hj).1;unfold endp at*;omega
theorem endp_mono{pk:LL}{ln:Int}(h:okTrk pk ln){i:Nat}:∀k:Nat,i+k<pk.length->endp pk i<=endp pk (i+k)
 |0,_=>Int.le_refl _
 |k+1,hk=>by
  have h1:=endp_mono h (i:=i) k (by omega);have h2:=endp_step h (j:=i+k) (by omega);have:i+(k+1)=i+k+1:=rfl;rw[this];omega
theorem endp_le{pk:LL}{ln:Int}(h:okTrk pk ln){i j:Nat}(hij:i<=j)(hj:j<pk.length):endp pk i<=endp pk j:=by
 have:=endp_mono h (i:=i) (j-i) (by omega);rw[show i+(j-i)=j by omega]at this;exact this
theorem at_bd{pk:LL}{ln:Int}(h:okTrk pk ln){j:Nat}(hj:j<pk.length):0<=ec pk j 0/\ec pk j 0<endp pk j/\endp pk j<=ln:=by
 have hu:=(h.2.2.2.2.2 j hj).1;have h4:=h.2.2.2.1 (by omega);have hl:=endp_le h (i:=j) (j:=pk.length-1) (by omega) (by omega);have e:endp pk j=ec pk j 0+ec pk j 1:=rfl;refine⟨?_,by omega,by omega⟩;cases j with
 |zero=>omega
 |succ i=>
  have h5:=h.2.2.2.2.1 i hj;have h0:=endp_le h (i:=0) (j:=i) (by omega) (by omega);have hu0:=(h.2.2.2.2.2 0 (by omega)).1;have e0:endp pk 0=ec pk 0 0+ec pk 0 1:=rfl;omega
theorem tfind_spec{pk:LL}{ln u:Int}(h:okTrk pk ln)(hu:u<=ln):(pk.length=0/\tfind pk u= -1)∨∃j:Nat,j<pk.length/\tfind pk u=j/\u<=endp pk j/\∀k,k<j->endp pk k<u:=by
 unfold tfind;rcases tpcA_spec u pk 0 with⟨h1,h2⟩|⟨j,h1,h2,h3,h4⟩
 . left;refine⟨?_,h1⟩;by_cases h0:pk.length=0
   . exact h0
   . have a:=h2 (pk.length-1) (by omega);have b:=h.2.2.2.1 (by omega);omega
 . exact .inr ⟨j,h1,by omega,h3,h4⟩
theorem mul3{m x B:Int}(hm: -1<=m/\m<=1)(hx: -B<=x/\x<=B): -B<=m*x/\m*x<=B:=by
 have:m= -1∨m=0∨m=1:=by omega
 rcases this with rfl|rfl|rfl<;>omega
theorem tplace_bd{pk:LL}{ln sa u:Int}(h:okTrk pk ln)(hsa:0<=sa/\sa<=18014398509481984)(hu:0<=u/\u<=ln): -36028797018963968<=tplace pk sa u/\tplace pk sa u<=36028797018963968:=by
 unfold tplace;rcases tfind_spec h hu.2 with⟨h1,h2⟩|⟨j,h1,h2,h3,h4⟩
 . rw[h2,if_pos (by decide)];omega
 . rw[if_neg (by omega),h2];have hj:((j:Int)).toNat=j:=rfl;rw[hj];have a:=at_bd h h1;have b:=h.2.2.2.2.2 j h1;have hl:=h.2.1;have c:=mul3 (x:=u-ec pk j 0) (B:=18014398509481984) b.2.2 (by omega);omega
end U
namespace Go.Proofs.YthkoabbiiadbjaaGreat
open Go Go.HL U
attribute [local irreducible] hfun bodyT fragT
theorem sClamp:Sound Tryz.prog 101 SClamp:=by
 refine sound_of (C:=CClamp) [] Tryz.func101 (by kernel_rfl) (by decide+kernel) (by kernel_rfl) rfl trivial (loops0 (by kernel_rfl)) ?_;intro hA pA R h;unfold SClamp at h;split at h;case h_2=>exfalso;exact h
 rename_i v n;refine byVC (vcClamp v n R) ?_;rintro _ rfl x2 e2;have:=h.1;have e:clamp n v=x2:=by unfold clamp;omega
 rw[<-e];exact h.2
theorem loopTF:∀v Q,(LTF v).wp Q->hloop CTF anTF (nthLoop Tryz.f104 0) v Q:=by
 intro v Q h;unfold LTF at h;split at h;case h_2=>exact h.elim
 rename_i u z lo hi pk ln sa d0 d1 d2;obtain⟨⟨hlo,hhi,ht,hu0,hu1⟩,hq⟩:=h;subst hlo hhi;refine hloop_rec (σ:=Int×Int) (fun s=>([.ce (I6 u), .ce (.ptr 1000002 0), .ce (I6 z), .ce (I6 s.1), .ce (I6 s.2)],[[.sl false [4,4,4,4,4,4,4,4,4,4] pk,I6 ln,I6 sa,I6 d0,I6 d1,I6 d2]])) (fun s=>(s.2-s.1).toNat) (fun s=>(pk.length=0/\s=(0,-1))∨((0<=s.1/\s.1<=s.2/\s.2<pk.length)/\u<=endp pk s.2.toNat/\∀k:Nat,(k:Int)<s.1->endp pk k<u)) ?_ (0,(pk.length:Int)-1) ?_
 . rintro⟨lo,hi⟩hI K hn hx _;dsimp only at hI hn⊢;have hl1:=ht.1;refine byVB (vbTF u z lo hi ln sa d0 d1 d2 pk K) ⟨fun g=> ?_,fun g=> ?_⟩
   . have g:=odt g;rcases hI with⟨h1,h2⟩|⟨⟨h1,h2,h3⟩,h4,h5⟩
     . cases h2;omega
     refine⟨by omega,fun x1 e1=>⟨by decide,?_⟩⟩;have hd:x1.tdiv 2=x1/2:=Int.tdiv_eq_ediv_of_nonneg (by omega);rw[hd];refine⟨by omega,fun x2 e2=>⟨by omega,?_⟩⟩;have hb:=at_bd ht (j:=x2.toNat) (by omega);have hln:=ht.2.1;have ee:el pk x2.toNat+ec pk x2.toNat 1=endp pk x2.toNat:=rfl;rw[ee];refine⟨by omega,fun x3 e3=>⟨fun g2=> ?_,fun g2=>⟨by omega,fun x4 e4=> ?_⟩⟩⟩
     . have g2:=odt g2;exact hn (lo,x2) (.inr ⟨⟨h1,by dsimp only;omega,by dsimp only;omega⟩,by dsimp only;omega,h5⟩) (by dsimp only;omega)
     . have g2:=odf g2;refine hn (x4,hi) (.inr ⟨⟨by dsimp only;omega,by dsimp only;omega,h3⟩,h4,fun k hk=> ?_⟩) (by dsimp only;omega);have:=endp_le ht (i:=k) (j:=x2.toNat) (by dsimp only at hk;omega) (by omega);omega
   . have g:=odf g;have e:tfind pk u=hi:=by
      rcases hI with⟨h1,h2⟩|⟨⟨h1,h2,h3⟩,h4,h5⟩
      . cases h2;have:pk=[]:=List.eq_nil_of_length_eq_zero h1;subst this;rfl
      . have:=tfind_of (pk:=pk) (u:=u) (j:=hi.toNat) (by omega) h4 (fun k hk=>h5 k (by omega));omega
     rw[e]at hq;exact hx 0 _ hq
 . by_cases h0:pk.length=0
   . exact .inl ⟨h0,by rw[h0];rfl⟩
   . have h4:=ht.2.2.2.1 (by omega);refine .inr ⟨⟨Int.le_refl _,by dsimp only;omega,by dsimp only;omega⟩,?_,fun k hk=>by dsimp only at hk;omega⟩;dsimp only;rw[show((pk.length:Int)-1).toNat=pk.length-1 by omega];omega
theorem sTFind:Sound Tryz.prog 104 STFind:=by
 refine sound_of (C:=CTF) [] Tryz.func104 (by kernel_rfl) (by decide+kernel) (by kernel_rfl) rfl trivial (loops1 (by kernel_rfl) (loopOK_of (an:=anTF) (S:=LTF) (by kernel_rfl) loopTF)) ?_;intro hA pA R h;unfold STFind at h;split at h;case h_2=>exfalso;exact h
 rename_i pk ln sa d0 d1 d2 u;obtain⟨⟨h1,h2,h3⟩,hq⟩:=h;have:=h1.1;exact byVC (vcTF u ln sa d0 d1 d2 pk R) ⟨by omega,fun x1 e1=>⟨⟨rfl,e1,h1,h2,h3⟩,hq⟩⟩
theorem sPlace:Sound Tryz.prog 103 SPlace:=by
 refine sound_of (C:=CPlace) tabTF Tryz.func103 (by kernel_rfl) (by decide+kernel) (by kernel_rfl) rfl ⟨sClamp,sTFind,trivial⟩ (loops0 (by kernel_rfl)) ?_;intro hA pA R h;unfold SPlace at h;split at h;case h_2=>exfalso;exact h
 rename_i pk ln sa d0 d1 d2 u;obtain⟨ht,hq⟩:=h;have hl:=ht.2.1;have hc:=clamp_bd (v:=u) hl.1;unfold tplace at hq;refine byVC (vcPlace u ln sa d0 d1 d2 pk R) ⟨hl.1,fun x1 e1=> ?_⟩;rw[<-e1]at hq hc;refine⟨⟨ht,hc⟩,fun x2 e2=> ?_⟩;rw[<-e2]at hq;refine⟨fun g=> ?_,fun g=> ?_⟩
 . rw[if_pos (odt g)]at hq;exact hq
 . have g:=odf g;rw[if_neg g]at hq;rcases tfind_spec ht hc.2 with⟨h1,h2⟩|⟨j,h1,h2,h3,h4⟩
   . omega
   have hj:x2.toNat=j:=by omega
   have a:=at_bd ht h1;have b:=ht.2.2.2.2.2 j h1;rw[hj]at hq⊢;refine⟨by omega,fun x3 e3=>⟨by omega,fun x4 e4=>⟨by omega,fun x5 e5=> ?_⟩⟩⟩;have e5:x5=ec pk j 0:=e5;have c:=mul3 (m:=x4) (x:=x1-x5) (B:=18014398509481984) (by omega) (by omega);refine⟨by omega,fun x6 e6=> ?_⟩;rw[<-e6]at c;refine⟨by omega,fun x7 e7=>⟨by omega,fun x8 e8=> ?_⟩⟩;rw[e8,e7,e6,e5,e4,e3];exact hq
theorem sBsh:Sound Tryz.prog 106 SBsh:=by
 refine sound_of (C:=CBsh) [] Tryz.func106 (by kernel_rfl) (by decide+kernel) (by kernel_rfl) rfl trivial (loops0 (by kernel_rfl)) ?_;intro hA pA R h;unfold SBsh at h;split at h;case h_2=>exfalso;exact h
 rename_i sta spa aca jea loa hia bla oga sga pta d;obtain⟨h1,hq⟩:=h;unfold bsh at hq;refine byVC (vcBsh sta spa aca jea loa hia bla oga sga pta d R) ⟨fun g=>⟨by omega,fun x1 e1=> ?_⟩,fun g=> ?_⟩
 . rw[if_pos (by simpa using g)]at hq;rw[show x1= -bla by omega];exact hq
 . rw[if_neg (by simpa using g)]at hq;exact hq
theorem mdv2(n c:Int):mdv n c 2=rnd n c:=by unfold mdv rnd;simp
theorem sAt:Sound Tryz.prog 102 SAt:=by
 refine sound_of (C:=CAt) tabAt Tryz.func102 (by kernel_rfl) (by decide+kernel) (by kernel_rfl) rfl ⟨sPFind,sMulDiv,trivial⟩ (loopsAll (by kernel_rfl)) ?_;intro hA pA R h;unfold SAt at h;split at h;case h_2=>exfalso;exact h
 rename_i s0 s1 s2 sg mk p;obtain⟨⟨hl,⟨k0,k1,k2,kk⟩,hp⟩,hq⟩:=h;unfold ptAt at hq;refine byVC (vcAt s0 s1 s2 p sg mk R) ⟨⟨hl,hp⟩,⟨_,rfl⟩,fun x ex=> ?_⟩;have sp:=pfind_spec hl p;rw[<-ex]at sp hq;rcases sp with⟨h1,h2⟩|⟨j,h1,h2,h3,h4⟩
 . rw[h2]at hq⊢;exact⟨fun _=>hq,fun g=>absurd g (by decide)⟩
 rw[if_neg (by omega),if_neg (by omega),if_neg (by omega),h2]at hq;have hj:((j:Int)).toNat=j:=rfl;rw[hj]at hq;have hlen:=hl.2 j h1;have hl1:=hl.1;have c0:=coord_bd hl k0 (fun j hj=>(kk j hj).1) h1 ⟨h3,h4⟩;have c1:=coord_bd hl k1 (fun j hj=>(kk j hj).2.1) h1 ⟨h3,h4⟩;have c2:=coord_bd hl k2 (fun j hj=>(kk j hj).2.2) h1 ⟨h3,h4⟩;have hx1:x.1.toNat=j:=by omega
 rw[hx1];refine⟨fun g=> ?_,fun g=>⟨fun g2=> ?_,fun g2=> ?_⟩⟩
 . have g:=odt g;omega
 . have g2:=odt g2;refine⟨by omega,fun x2 e2=>⟨by omega,by omega,?_⟩⟩;have hx2:x2.toNat=j-1:=by omega
   rw[hx2];have b:∀s c,bgn s sg c (j:Int)=ec sg (j-1) c:=fun s c=>by
    unfold bgn;rw[if_neg (by omega),show((j:Int)-1).toNat=j-1 by omega]
   rw[b,b,b]at hq;rw[b]at c0 c1 c2;have c0:(-1073741824<=el sg j-el sg (j-1)/\el sg j-el sg (j-1)<=1073741824)/\(-4611686018427387904<=(el sg j-el sg (j-1))*x.2/\(el sg j-el sg (j-1))*x.2<=4611686018427387904)/\(-536870912<=el sg (j-1)+rnd ((el sg j-el sg (j-1))*x.2) (ec sg j 3)/\el sg (j-1)+rnd ((el sg j-el sg (j-1))*x.2) (ec sg j 3)<=536870912):=c0;refine⟨by omega,?_⟩;rintro _ rfl;refine⟨⟨by omega,by omega,by omega,c0.2.1,by decide,by decide⟩,?_⟩;rw[mdv2];rintro _ rfl _ _;refine⟨by omega,?_⟩;rintro _ rfl;refine⟨by omega,?_⟩;rintro _ rfl;refine⟨⟨by omega,by omega,by omega,c1.2.1,by decide,by decide⟩,?_⟩;rw[mdv2];rintro _ rfl _ _;refine⟨by omega,?_⟩;rintro _ rfl;refine⟨by omega,?_⟩;rintro _ rfl;refine⟨⟨by omega,by omega,by omega,c2.2.1,by decide,by decide⟩,?_⟩;rw[mdv2];rintro _ rfl _ _;refine⟨by omega,?_⟩;rintro _ rfl;exact hq
 . have g2:=odf g2;refine⟨by omega,?_⟩;have b:∀s c,bgn s sg c (j:Int)=s:=fun s c=>by
    unfold bgn;rw[if_pos (by omega)]
   rw[b,b,b]at hq;rw[b]at c0 c1 c2;have c0:(-1073741824<=el sg j-s0/\el sg j-s0<=1073741824)/\(-4611686018427387904<=(el sg j-s0)*x.2/\(el sg j-s0)*x.2<=4611686018427387904)/\(-536870912<=s0+rnd ((el sg j-s0)*x.2) (ec sg j 3)/\s0+rnd ((el sg j-s0)*x.2) (ec sg j 3)<=536870912):=c0;refine⟨by omega,?_⟩;rintro _ rfl;refine⟨⟨by omega,by omega,by omega,c0.2.1,by decide,by decide⟩,?_⟩;rw[mdv2];rintro _ rfl _ _;refine⟨by omega,?_⟩;rintro _ rfl;refine⟨by omega,?_⟩;rintro _ rfl;refine⟨⟨by omega,by omega,by omega,c1.2.1,by decide,by decide⟩,?_⟩;rw[mdv2];rintro _ rfl _ _;refine⟨by omega,?_⟩;rintro _ rfl;refine⟨by omega,?_⟩;rintro _ rfl;refine⟨⟨by omega,by omega,by omega,c2.2.1,by decide,by decide⟩,?_⟩;rw[mdv2];rintro _ rfl _ _;refine⟨by omega,?_⟩;rintro _ rfl;exact hq
theorem tsh_fin{bl mv w d at_ u:Int}{R:Res->Prop}(hb:0<=bl/\bl<=4096)(hu: -18014398509481984<=u/\u<=18014398509481984)(ha: -18014398509481984<=at_/\at_<=18014398509481984)(hq:R ⟨.ce (I6 (tsh bl mv w d at_ u)),false,[],[]⟩):((mv !=0)=true->(0<=bl/\bl<=4096)/\∀x1:Int,x1=bsh bl d->R ⟨.ce (I6 x1),false,[],[]⟩)/\((mv !=0)=false->((w==d)=true->(0<=bl/\bl<=4096)/\∀x2:Int,x2=bsh bl d->R ⟨.ce (I6 x2),false,[],[]⟩)/\((w==d)=false->(-9223372036854775808<=u-at_/\u-at_<=9223372036854775807)/\∀x3:Int,x3=u-at_->∀x4:Int,x4=min x3 bl->((d== -1)=true->(-9223372036854775808<=0-x4/\0-x4<=9223372036854775807)/\∀x5:Int,x5=0-x4->R ⟨.ce (I6 x5),false,[],[]⟩)/\((d== -1)=false->(-9223372036854775808<=x4-bl/\x4-bl<=9223372036854775807)/\∀x6:Int,x6=x4-bl->R ⟨.ce (I6 x6),false,[],[]⟩))):=by
 unfold tsh at hq;refine⟨fun g=>⟨hb,fun x e=> ?_⟩,fun g=>⟨fun g2=>⟨hb,fun x e=> ?_⟩,fun g2=>⟨by omega,fun x3 e3 x4 e4=>⟨fun g3=>⟨by omega,fun x e=> ?_⟩,fun g3=>⟨by omega,fun x e=> ?_⟩⟩⟩⟩⟩
 . have g:mv≠0:=by simpa using g
   rw[if_pos (.inl g)]at hq;rw[e];exact hq
 . have g2:w=d:=by simpa using g2
   rw[if_pos (.inr g2)]at hq;rw[e];exact hq
 . have g:mv=0:=by simpa using g
   have g2:w≠d:=by simpa using g2
   have g3:d= -1:=by simpa using g3
   rw[if_neg (by intro hh;rcases hh with h|h;exact h g;exact g2 h),if_pos g3]at hq;rw[show x= -(min (u-at_) bl)by omega];exact hq
 . have g:mv=0:=by simpa using g
   have g2:w≠d:=by simpa using g2
   have g3:d≠ -1:=by simpa using g3
   rw[if_neg (by intro hh;rcases hh with h|h;exact h g;exact g2 h),if_neg g3]at hq;rw[show x=min (u-at_) bl-bl by omega];exact hq
theorem sTsh:Sound Tryz.prog 107 STsh:=by
 refine sound_of (C:=CTsh) tabTsh Tryz.func107 (by kernel_rfl) (by decide+kernel) (by kernel_rfl) rfl ⟨sBsh,trivial⟩ (loops0 (by kernel_rfl)) ?_;intro hA pA R h;unfold STsh at h;split at h;case h_2=>exfalso;exact h
 rename_i sta spa aca jea loa hia bla oga sga pta q0 q1 q2 q3 q4 q5 q6 q7 q8 q9 k u;obtain⟨⟨hk,hb,hu,ha⟩,hq⟩:=h;refine byVC (vcTsh sta spa aca jea loa hia bla oga sga pta q0 q1 q2 q3 q4 q5 q6 q7 q8 q9 k u R) ⟨fun e=> ?_,fun e=>⟨fun e2=> ?_,fun e2=>⟨fun e3=> ?_,fun e3=>by omega⟩⟩⟩
 . subst e;exact tsh_fin hb hu ha hq
 . subst e2;exact tsh_fin hb hu ha hq
 . subst e3;exact tsh_fin hb hu ha hq
theorem bsh_bd{bl d:Int}(h:0<=bl/\bl<=4096): -4096<=bsh bl d/\bsh bl d<=0:=by unfold bsh;split<;>omega
theorem tsh_bd{bl mv w d at_ u:Int}(h:0<=bl/\bl<=4096)(hu:at_<=u): -4096<=tsh bl mv w d at_ u/\tsh bl mv w d at_ u<=0:=by
 have:=bsh_bd (d:=d) h;unfold tsh;split
 . exact this
 . split<;>omega
theorem motr_bd{st og sg p:Int}{pit:LL}(h:0<st)(hc:okC og sg pit)(hp: -1073741824<=p/\p<=1073741824): -2199023255552<=mot st og sg pit p/\mot st og sg pit p<=2199023255554:=by
 have hb:=corr_bd hc p;rw[<-stp_eq];exact stp_bd h (by omega)
theorem sMotors:Sound Tryz.prog 76 SMotors:=by
 refine sound_of (C:=CMotors) tabMotors Tryz.func76 (by kernel_rfl) (by decide+kernel) (by kernel_rfl) rfl ⟨sClamp,sPlace,sAt,sTFind,sMotor,sBsh,sTsh,trivial⟩ (loopsAll (by kernel_rfl)) ?_;intro hA pA R h;unfold SMotors at h;split at h;case h_2=>exfalso;exact h
 rename_i s0 s1 s2 sg mk ax pk ln sa d0 d1 d2 u;split at h;case h_2=>exact h.elim
 rename_i sta spa aca jea loa hia bla oga sga pta stb spb acb jeb lob hib blb ogb sgb ptb stc spc acc jec loc hic blc ogc sgc ptc;obtain⟨⟨hl,⟨k0,k1,k2,kk⟩,ht,ma,mb,mc,hsa⟩,hq⟩:=h;have hln:=ht.2.1;have hc:=clamp_bd (v:=u) hln.1;unfold tmot at hq;refine byVC (vcMotors s0 s1 s2 u ln sa d0 d1 d2 sg mk pk sta spa aca jea loa hia bla oga sga stb spb acb jeb lob hib blb ogb sgb stc spc acc jec loc hic blc ogc sgc pta ptb ptc R) ⟨hln.1,fun x1 e1=>⟨ht,fun x2 e2=> ?_⟩⟩;have hci:=clamp_idem (v:=u) hln.1;rw[<-e1]at hq hc hci;rw[hci]at e2;have hx2:=tplace_bd ht hsa hc;rw[<-e2]at hq hx2;refine⟨⟨hl,⟨k0,k1,k2,kk⟩,by omega⟩,fun x3 e3 x4 e4 x5 e5=> ?_⟩;have p0:=ptAt_bd hl k0 (fun j hj=>(kk j hj).1) x2;have p1:=ptAt_bd hl k1 (fun j hj=>(kk j hj).2.1) x2;have p2:=ptAt_bd hl k2 (fun j hj=>(kk j hj).2.2) x2;rw[<-e3]at hq p0;rw[<-e4]at hq p1;rw[<-e5]at hq p2;refine⟨⟨ht,hc⟩,fun x6 e6=> ?_⟩;rw[<-e6]at hq;have q0:=motr_bd ma.1.1 ma.2.1 (p:=x3) (by omega);have q1:=motr_bd mb.1.1 mb.2.1 (p:=x4) (by omega);have q2:=motr_bd mc.1.1 mc.2.1 (p:=x5) (by omega);refine⟨⟨ma.1,ma.2.1,by omega⟩,fun x7 e7=> ?_⟩;rw[<-e7]at hq q0;rcases tfind_spec ht hc.2 with⟨h1,h2⟩|⟨j,h1,h2,h3,h4⟩
 . have hx6:x6<0:=by omega
   rw[if_pos hx6,if_pos hx6,if_pos hx6]at hq;have w0:=bsh_bd (d:=d0) ma.2.2;have w1:=bsh_bd (d:=d1) mb.2.2;have w2:=bsh_bd (d:=d2) mc.2.2;have no:∀{P:Prop},decide (x6<0)=false->P:=fun g=>absurd hx6 (odf g);refine⟨fun _=>⟨ma.2.2,fun x8 e8=>⟨by omega,fun x9 e9=>⟨⟨mb.1,mb.2.1,by omega⟩,fun x10 e10=>⟨fun _=>⟨mb.2.2,fun x11 e11=>⟨by omega,fun x12 e12=>⟨⟨mc.1,mc.2.1,by omega⟩,fun x13 e13=>⟨fun _=>⟨mc.2.2,fun x14 e14=>⟨by omega,fun x15 e15=> ?_⟩⟩,no⟩⟩⟩⟩,no⟩⟩⟩⟩,no⟩;rw[<-e8,<-e10,<-e11,<-e13,<-e14,<-e9,<-e12,<-e15]at hq;exact hq
 . have hx6:¬x6<0:=by omega
   rw[if_neg hx6,if_neg hx6,if_neg hx6]at hq;have hj:x6.toNat=j:=by omega
   rw[hj]at hq⊢;have a:=at_bd ht h1;have hat:ec pk j 0<=x1:=by
    cases j with
    |zero=>have:=(ht.2.2.2.1 (by omega)).1;omega
    |succ i=>
     have:=h4 i (by omega);have:=ht.2.2.2.2.1 i h1;omega
   have a0: -18014398509481984<=el pk j/\el pk j<=18014398509481984:=by
    have:el pk j=ec pk j 0:=rfl;omega
   have yes:∀{P:Prop},decide (x6<0)=true->P:=fun g=>absurd (odt g) hx6;have w0:=tsh_bd (mv:=ec pk j 3) (w:=ec pk j 4) (d:=ec pk j 7) ma.2.2 hat;have w1:=tsh_bd (mv:=ec pk j 3) (w:=ec pk j 5) (d:=ec pk j 8) mb.2.2 hat;have w2:=tsh_bd (mv:=ec pk j 3) (w:=ec pk j 6) (d:=ec pk j 9) mc.2.2 hat;have hin:0<=x6/\x6<(pk.length:Int):=by omega
   have hx1: -18014398509481984<=x1/\x1<=18014398509481984:=by omega
   refine⟨yes,fun _=>⟨hin,⟨by decide,ma.2.2,hx1,a0⟩,fun y0 f0=> ?_⟩⟩;have f0:y0=tsh bla (ec pk j 3) (ec pk j 4) (ec pk j 7) (ec pk j 0) x1:=f0;rw[<-f0]at w0;refine⟨by omega,fun z0 g0=>⟨⟨mb.1,mb.2.1,by omega⟩,fun x10 e10=>⟨yes,fun _=>⟨hin,⟨by decide,mb.2.2,hx1,a0⟩,fun y1 f1=> ?_⟩⟩⟩⟩;have f1:y1=tsh blb (ec pk j 3) (ec pk j 5) (ec pk j 8) (ec pk j 0) x1:=f1;rw[<-f1]at w1;refine⟨by omega,fun z1 g1=>⟨⟨mc.1,mc.2.1,by omega⟩,fun x20 e20=>⟨yes,fun _=>⟨hin,⟨by decide,mc.2.2,hx1,a0⟩,fun y2 f2=> ?_⟩⟩⟩⟩;have f2:y2=tsh blc (ec pk j 3) (ec pk j 6) (ec pk j 9) (ec pk j 0) x1:=f2;rw[<-f2]at w2;refine⟨by omega,fun z2 g2=> ?_⟩;rw[g0,g1,g2,f0,f1,f2,e10,e20];exact hq
end Go.Proofs.YthkoabbiiadbjaaGreat
namespace U
open Go
def mtr(st og sg:Int)(pt:LL)(bl s:Int)(sgs:LL)(c:Nat)(pk:LL)(sa d:Int)(u:Int):Int:=tmot st og sg pt bl (ptAt s sgs c (tplace pk sa u)) pk d u c
def okT(pk:LL)(ln:Int):Prop:=(pk.length=0->ln=0)/\(0<pk.length->ec pk 0 0=0/\endp pk (pk.length-1)=ln)/\(∀j,j+1<pk.length->ec pk (j+1) 0=endp pk j)/\∀j,j<pk.length->1<=ec pk j 1/\(0<=ec pk j 2/\ec pk j 2<=18014398509481984)/\(-1<=ec pk j 3/\ec pk j 3<=1)
theorem tadd_okT{pk:LL}{ln q0 q1 q2 q3 q4 q5 q6 q7 q8 q9:Int}(h:okT pk ln)(h1:1<=q1)(h2:0<=q2/\q2<=18014398509481984)(h3: -1<=q3/\q3<=1):okT (tadd pk ln [q0,q1,q2,q3,q4,q5,q6,q7,q8,q9]).1 (tadd pk ln [q0,q1,q2,q3,q4,q5,q6,q7,q8,q9]).2:=by
 obtain⟨a1,a2,a3,a4⟩:=h;by_cases hc:0<pk.length/\q3≠0/\ec pk (pk.length-1) 3=q3/\ec pk (pk.length-1) 7=q7/\ec pk (pk.length-1) 8=q8/\ec pk (pk.length-1) 9=q9
 . rw[tadd_more hc];have hp:=hc.1;have es:∀j c,ec (pk.set (pk.length-1) (more (pk.getD (pk.length-1) []) q1)) j c=if pk.length-1=j then(more (pk.getD (pk.length-1) []) q1).getD c 0 else ec pk j c:=fun j c=>ec_set _ _ _ _ _ (by omega);have m0:(more (pk.getD (pk.length-1) []) q1).getD 0 0=ec pk (pk.length-1) 0:=rfl;have m1:(more (pk.getD (pk.length-1) []) q1).getD 1 0=ec pk (pk.length-1) 1+q1:=rfl;have m2:(more (pk.getD (pk.length-1) []) q1).getD 2 0=ec pk (pk.length-1) 2:=rfl;have m3:(more (pk.getD (pk.length-1) []) q1).getD 3 0=ec pk (pk.length-1) 3:=rfl;have b2:=a2 hp;refine⟨fun h=> ?_,fun _=>⟨?_,?_⟩,fun j hj=> ?_,fun j hj=> ?_⟩
   . dsimp only at h;rw[List.length_set]at h;omega
   . dsimp only;rw[es];split
     . rename_i e;rw[m0,e];exact b2.1
     . exact b2.1
   . dsimp only;rw[List.length_set];unfold endp at b2⊢;rw[es,es,if_pos rfl,if_pos rfl,m0,m1];omega
   . dsimp only at hj⊢;rw[List.length_set]at hj;unfold endp;rw[es,es,es,if_neg (show¬pk.length-1=j by omega),if_neg (show¬pk.length-1=j by omega)];have:=a3 j hj;unfold endp at this;split
     . rename_i e;rw[m0,e];exact this
     . exact this
   . dsimp only at hj⊢;rw[List.length_set]at hj;rw[es,es,es];have:=a4 j hj;split
     . rename_i e;subst e;rw[m1,m2,m3];omega
     . exact this
 . rw[tadd_app hc];have es:∀j c,ec (pk++[[ln,q1,q2,q3,q4,q5,q6,q7,q8,q9]]) j c=if j<pk.length then ec pk j c else ec [[ln,q1,q2,q3,q4,q5,q6,q7,q8,q9]] (j-pk.length) c:=fun j c=>ec_app _ _ _ _;refine⟨fun h=> ?_,fun _=>⟨?_,?_⟩,fun j hj=> ?_,fun j hj=> ?_⟩
   . simp at h
   . dsimp only;rw[es];split
     . rename_i e;exact(a2 e).1
     . rename_i e;have e0:pk.length=0:=by omega
       rw[e0];show ln=0;exact a1 e0
   . dsimp only;rw[List.length_append];have e0:pk.length+([[ln,q1,q2,q3,q4,q5,q6,q7,q8,q9]]:LL).length-1=pk.length:=by simp
     rw[e0];unfold endp;rw[es,es,if_neg (by omega),if_neg (by omega),Nat.sub_self];show ln+q1=ln+q1;rfl
   . dsimp only at hj⊢;rw[List.length_append]at hj;have hj:j+1<pk.length+1:=hj;unfold endp;rw[es,es,es,if_pos (show j<pk.length by omega),if_pos (show j<pk.length by omega)];split
     . rename_i e;have:=a3 j e;unfold endp at this;exact this
     . rename_i e;have hjl:j=pk.length-1:=by omega
       have b2:=(a2 (by omega)).2;unfold endp at b2;rw[show j+1-pk.length=0 by omega,hjl,b2];rfl
   . dsimp only at hj⊢;rw[List.length_append]at hj;have hj:j<pk.length+1:=hj;rw[es,es,es];split
     . rename_i e;exact a4 j e
     . rw[show j-pk.length=0 by omega];exact⟨h1,h2,h3⟩
theorem okT_seg{s0 s1 s2:Int}{sg:LL}{b0 b1 b2 f t m:Int}{x:LegS}{i:Int}(hf:0<=f/\f<=18014398509481984)(ht:0<=t/\t<=18014398509481984)(hm:m=1∨m= -1)(h:okT x.pk x.ln):okT (legSeg s0 s1 s2 sg b0 b1 b2 f t m x i).pk (legSeg s0 s1 s2 sg b0 b1 b2 f t m x i).ln:=by
 unfold legSeg;have hlow:0<=legLow x.bg (legE sg m x.bg i) f t:=by unfold legLow;omega
 have hhigh:legHigh x.bg (legE sg m x.bg i) f t<=18014398509481984:=by unfold legHigh;omega
 generalize legLow x.bg (legE sg m x.bg i) f t=low at*;generalize legHigh x.bg (legE sg m x.bg i) f t=high at*;unfold legPut;split
 . rename_i hlh;dsimp only;have hs:0<=legS m low high/\legS m low high<=18014398509481984:=by unfold legS;split<;>omega
   refine tadd_okT ?_ (by omega) hs (by omega);unfold legTk;split
   . exact tadd_okT h (by omega) hs (by omega)
   . exact h
 . exact h
theorem okT_all{s0 s1 s2:Int}{sg:LL}{b0 b1 b2 f t m:Int}{x:LegS}(hf:0<=f/\f<=18014398509481984)(ht:0<=t/\t<=18014398509481984)(hm:m=1∨m= -1)(h:okT x.pk x.ln):∀k,okT (legK s0 s1 s2 sg b0 b1 b2 f t m x k).pk (legK s0 s1 s2 sg b0 b1 b2 f t m x k).ln
 |0=>h
 |k+1=>okT_seg hf ht hm (okT_all hf ht hm h k)
theorem leg_ok{s0 s1 s2:Int}{sg:LL}{b0 b1 b2 d0 d1 d2 f t:Int}(hl:okLen sg)(hb:okB3 b0 b1 b2)(hf:0<=f/\f<=plen sg)(ht:0<=t/\t<=plen sg):okTrk (leg s0 s1 s2 sg b0 b1 b2 d0 d1 d2 f t).pk (leg s0 s1 s2 sg b0 b1 b2 d0 d1 d2 f t).ln:=by
 have hp:=plen_le hl;have hl1:=hl.1;unfold leg;have hm:legM f t=1∨legM f t= -1:=by unfold legM;split<;>omega
 have hbg:(legM f t=1->(if legM f t<0 then plen sg else 0)=plen (sg.take 0))/\(legM f t= -1->(if legM f t<0 then plen sg else 0)=plen (sg.take (sg.length-0))):=by
  refine⟨fun e=> ?_,fun e=> ?_⟩
  . rw[e];rfl
  . rw[e,if_pos (by decide)];simp
 generalize legM f t=m at*;generalize(if m<0 then plen sg else 0)=bg at*;have J:=legJ_all (s0:=s0) (s1:=s1) (s2:=s2) (f:=f) (t:=t) (x:=⟨[],0,d0,d1,d2,bg⟩) hl hb hm ⟨⟨Int.le_refl _,by dsimp only;omega⟩,by simp,fun j hj=>by simp at hj,hbg.1,hbg.2⟩ sg.length (Nat.le_refl _);have T:=okT_all (s0:=s0) (s1:=s1) (s2:=s2) (sg:=sg) (b0:=b0) (b1:=b1) (b2:=b2) (f:=f) (t:=t) (m:=m) (x:=⟨[],0,d0,d1,d2,bg⟩) (by omega) (by omega) hm ⟨fun _=>rfl,fun h=>by simp at h,fun j hj=>by simp at hj,fun j hj=>by simp at hj⟩ sg.length;exact⟨by have:=J.2.1;omega,by have:=J.1;omega,T.1,T.2.1,T.2.2.1,T.2.2.2⟩
theorem at_le{pk:LL}{ln u:Int}(h:okTrk pk ln)(hu:0<=u){j:Nat}(hj:j<pk.length)(hk:∀k,k<j->endp pk k<u):ec pk j 0<=u:=by
 cases j with
 |zero=>have:=(h.2.2.2.1 (by omega)).1;omega
 |succ i=>
  have:=hk i (by omega);have:=h.2.2.2.2.1 i hj;omega
end U
namespace Go.Proofs.YthkoabbiiadbjaaGreat
open Go Go.HL U
attribute [local irreducible] hfun bodyT fragT
theorem mtr_bd{st og sg:Int}{pt:LL}{bl s:Int}{sgs:LL}{c:Nat}{pk:LL}{ln sa d u:Int}(hl:okLen sgs)(h0: -536870912<=s/\s<=536870912)(hp:∀j,j<sgs.length-> -536870912<=ec sgs j c/\ec sgs j c<=536870912)(ht:okTrk pk ln)(hm:okMA st og sg pt bl)(hu:0<=u/\u<=ln): -4398046511104<=mtr st og sg pt bl s sgs c pk sa d u/\mtr st og sg pt bl s sgs c pk sa d u<=4398046511104:=by
 have p:=ptAt_bd hl h0 hp (tplace pk sa u);have q:=motr_bd hm.1.1 hm.2.1 (p:=ptAt s sgs c (tplace pk sa u)) (by omega);unfold mtr tmot;split
 . have:=bsh_bd (d:=d) hm.2.2;omega
 . rcases tfind_spec ht hu.2 with⟨h1,h2⟩|⟨j,h1,h2,h3,h4⟩
   . omega
   . have hj:(tfind pk u).toNat=j:=by omega
     rw[hj];have:=tsh_bd (mv:=ec pk j 3) (w:=ec pk j (4+c)) (d:=ec pk j (7+c)) hm.2.2 (at_le ht hu.1 h1 h4);omega
end Go.Proofs.YthkoabbiiadbjaaGreat
namespace U
open Go
def spr(s:Int):Int:=(2*(s*1048576)+60000)/120000
def spi(p d:Int):Int:=if d= -1 then p/1048576*1048576 else-((-p)/1048576)*1048576
end U
namespace Go.Proofs.YthkoabbiiadbjaaGreat
open Go Go.HL U
theorem vcFloor2(a b:Int)(Q:Res->Prop):(nfun true CFloor Tryz.f43 (bodyOf Tryz.f43) [.ce (I6 a), .ce (I6 b)] [] Q)=(b≠0/\R6 (Int.tdiv a b)/\∀x1,x1=Int.tdiv a b->b≠0/\∀x2,x2=Int.tmod a b->Br (x2<0) (R6 (x1-1)/\∀x3,x3=x1-1->Q ⟨.ce (I6 x3),false,[],[]⟩) (Q ⟨.ce (I6 x1),false,[],[]⟩)):=by kernel_rfl
def SSpR(hA:List HV)(pA:List (List HC)):SR:=match hA,pA with
 |[.ce (.int .i64 a)],[]=> .det (0<=a/\a<=1000000) ⟨.ce (I6 (spr a)),false,[],[]⟩
 |_,_=> .fail
def tabYs:List (FuncId×HL.Spec):=[(36,SMulDiv),(16,SFloor),(43,SFloor)]
noncomputable def CSpR:Ctx:=⟨Tryz.prog,gam tabYs,11,[],[]⟩
theorem vcSpR(a:Int)(Q:Res->Prop):(nfun true CSpR Tryz.f17 (bodyOf Tryz.f17) [.ce (I6 a)] [] Q)=((R6 a/\(-9223372036854775808<=1048576/\(1048576:Int)<=9223372036854775807)/\((0:Int)<60000/\(60000:Int)<=9223372036854775807)/\(-4611686018427387904<=a*1048576/\a*1048576<=4611686018427387904)/\(0:Int)<=2/\(2:Int)<=2)/\∀x1,x1=mdv (a*1048576) (60000:Int) (2:Int)->∀(x2:Bool),x2=true->Q ⟨.ce (I6 x1),false,[],[]⟩):=by kernel_rfl
def SIndex(hA:List HV)(pA:List (List HC)):SR:=match hA,pA with
 |[.ce (.int .i64 p), .ce (.int .i64 d)],[]=> .det (-1125899906842624<=p/\p<=1125899906842624) ⟨.ce (I6 (spi p d)),false,[],[]⟩
 |_,_=> .fail
noncomputable def CIndex:Ctx:=⟨Tryz.prog,gam tabYs,15,[],[]⟩
theorem vcIndex(p d:Int)(Q:Res->Prop):(nfun true CIndex Tryz.f18 (bodyOf Tryz.f18) [.ce (I6 p), .ce (I6 d)] [] Q)=(Bb (d==(-1:Int)) (((-9223372036854775807<=p/\p<=9223372036854775807)/\(0:Int)<1048576)/\∀x1,x1=p/1048576->R6 (x1*1048576)/\∀x2,x2=x1*1048576->Q ⟨.ce (I6 x2),false,[],[]⟩) (R6 (0-p)/\∀x3,x3=0-p->((-9223372036854775807<=x3/\x3<=9223372036854775807)/\(0:Int)<1048576)/\∀x4,x4=x3/1048576->R6 (0-x4)/\∀x5,x5=0-x4->R6 (x5*1048576)/\∀x6,x6=x5*1048576->Q ⟨.ce (I6 x6),false,[],[]⟩)):=by kernel_rfl
def SFollow(hA:List HV)(pA:List (List HC)):SR:=match hA,pA with
 |[.ce (.int .i64 l), .ce (.int .i64 w)],[]=> .det ((0<=l/\l<=1048576)/\0<=w/\w<=1099511627776) ⟨.ce (I6 (l*w/4096)),false,[],[]⟩
 |_,_=> .fail
noncomputable def CFollow:Ctx:=⟨Tryz.prog,gam tabYs,14,[],[]⟩
theorem vcFollow(l w:Int)(Q:Res->Prop):(nfun true CFollow Tryz.f13 (bodyOf Tryz.f13) [.ce (I6 l), .ce (I6 w)] [] Q)=((R6 l/\R6 w/\((0:Int)<4096/\(4096:Int)<=9223372036854775807)/\(-4611686018427387904<=l*w/\l*w<=4611686018427387904)/\(0:Int)<=0/\(0:Int)<=2)/\∀x1,x1=mdv (l*w) (4096:Int) (0:Int)->∀(x2:Bool),x2=true->Q ⟨.ce (I6 x1),false,[],[]⟩):=by kernel_rfl
def SAngle(hA:List HV)(pA:List (List HC)):SR:=match hA,pA with
 |[.ce (.int .i64 l), .ce (.int .i64 w)],[]=> .det ((0<l/\l<=9223372036854775807)/\0<=w/\w<=1099511627776) ⟨.ce (I6 (4096*w/l)),false,[],[]⟩
 |_,_=> .fail
theorem vcAngle(l w:Int)(Q:Res->Prop):(nfun true CFollow Tryz.f19 (bodyOf Tryz.f19) [.ce (I6 l), .ce (I6 w)] [] Q)=(((-9223372036854775808<=4096/\(4096:Int)<=9223372036854775807)/\R6 w/\(0<l/\l<=9223372036854775807)/\((-4611686018427387904:Int)<=4096*w/\4096*w<=4611686018427387904)/\(0:Int)<=0/\(0:Int)<=2)/\∀x1,x1=mdv (4096*w) l (0:Int)->∀(x2:Bool),x2=true->Q ⟨.ce (I6 x1),false,[],[]⟩):=by kernel_rfl
theorem sFloor2:Sound Tryz.prog 43 SFloor:=by
 refine sound_of (C:=CFloor) [] Tryz.func43 (by kernel_rfl) (by decide+kernel) (by kernel_rfl) rfl trivial (loops0 (by kernel_rfl)) ?_;intro hA pA R h;unfold SFloor at h;split at h;case h_2=>exfalso;exact h
 rename_i a b;exact byVC (vcFloor2 a b R) (floor_fin h.1.1 h.1.2 h.2)
theorem sSpR:Sound Tryz.prog 17 SSpR:=by
 refine sound_of (C:=CSpR) tabYs Tryz.func17 (by kernel_rfl) (by decide+kernel) (by kernel_rfl) rfl ⟨sMulDiv,sFloor,sFloor2,trivial⟩ (loops0 (by kernel_rfl)) ?_;intro hA pA R h;unfold SSpR at h;split at h;case h_2=>exfalso;exact h
 rename_i a;obtain⟨h1,hq⟩:=h;refine byVC (vcSpR a R) ⟨by omega,fun x1 e1 x2 _=> ?_⟩;have:x1=spr a:=by rw[e1];unfold mdv spr;simp
 rw[this];exact hq
theorem sIndex:Sound Tryz.prog 18 SIndex:=by
 refine sound_of (C:=CIndex) tabYs Tryz.func18 (by kernel_rfl) (by decide+kernel) (by kernel_rfl) rfl ⟨sMulDiv,sFloor,sFloor2,trivial⟩ (loops0 (by kernel_rfl)) ?_;intro hA pA R h;unfold SIndex at h;split at h;case h_2=>exfalso;exact h
 rename_i p d;obtain⟨h1,hq⟩:=h;unfold spi at hq;refine byVC (vcIndex p d R) ⟨fun e=> ?_,fun e=> ?_⟩
 . have:d= -1:=by simpa using e
   rw[if_pos this]at hq;refine⟨by omega,fun x1 e1=>⟨by omega,fun x2 e2=> ?_⟩⟩;rw[e2,e1];exact hq
 . have:d≠ -1:=by simpa using e
   rw[if_neg this]at hq;refine⟨by omega,fun x3 e3=>⟨by omega,fun x4 e4=>⟨by omega,fun x5 e5=>⟨by omega,fun x6 e6=> ?_⟩⟩⟩⟩;rw[show x6= -((-p)/1048576)*1048576 by omega];exact hq
theorem sFollow:Sound Tryz.prog 13 SFollow:=by
 refine sound_of (C:=CFollow) tabYs Tryz.func13 (by kernel_rfl) (by decide+kernel) (by kernel_rfl) rfl ⟨sMulDiv,sFloor,sFloor2,trivial⟩ (loops0 (by kernel_rfl)) ?_;intro hA pA R h;unfold SFollow at h;split at h;case h_2=>exfalso;exact h
 rename_i l w;obtain⟨⟨h1,h2⟩,hq⟩:=h;have hb:=mul_bd (a:=l) (b:=w) (A:=1048576) (B:=1099511627776) (by omega) (by omega) (by omega) (by omega);refine byVC (vcFollow l w R) ⟨by omega,fun x1 e1 x2 _=> ?_⟩;have:x1=l*w/4096:=by rw[e1];rfl
 rw[this];exact hq
theorem sAngle:Sound Tryz.prog 19 SAngle:=by
 refine sound_of (C:=CFollow) tabYs Tryz.func19 (by kernel_rfl) (by decide+kernel) (by kernel_rfl) rfl ⟨sMulDiv,sFloor,sFloor2,trivial⟩ (loops0 (by kernel_rfl)) ?_;intro hA pA R h;unfold SAngle at h;split at h;case h_2=>exfalso;exact h
 rename_i l w;obtain⟨⟨h1,h2⟩,hq⟩:=h;refine byVC (vcAngle l w R) ⟨by omega,fun x1 e1 x2 _=> ?_⟩;have:x1=4096*w/l:=by rw[e1];rfl
 rw[this];exact hq
end Go.Proofs.YthkoabbiiadbjaaGreat
namespace U
open Go
def ntc(k0 f0 f1 f2 t0 t1 t2 fd sp:Int):Prop:=(k0=5∨k0=8)/\b3 256 f0 f1 f2/\b3 256 t0 t1 t2/\(0<=fd/\fd<=200)/\(0<=sp/\sp<=3000)
def ntAt(y:LL)(j:Nat):Prop:=ntc (ec y j 0) (ec y j 2) (ec y j 3) (ec y j 4) (ec y j 5) (ec y j 6) (ec y j 7) (ec y j 14) (ec y j 20)
def ntL(y:LL):Prop:=∀j,j<y.length->ntAt y j
end U
namespace Go.Proofs.YthkoabbiiadbjaaGreat
open Go Go.HL U
def SMotE(hA:List HV)(pA:List (List HC)):SR:=match hA,pA with
 |[.ce (.int .i64 k)],[]=> .det True ⟨.ce (.bool (decide (1<=k/\k<=6))),false,[],[]⟩
 |_,_=> .fail
def SSynE(hA:List HV)(pA:List (List HC)):SR:=match hA,pA with
 |[.agg [.int .i64 k0, .int .i64 bk, .int .i64 f0, .int .i64 f1, .int .i64 f2, .int .i64 t0, .int .i64 t1, .int .i64 t2, .int .i64 pl, .int .i64 c0, .int .i64 c1, .int .i64 c2, .int .i64 dr, .bool fu, .int .i64 fd, .bool pr, .int .i64 sd, .int .i64 ra, .int .i64 bl, .int .i64 nn, .int .i64 sp, .bool on]],[]=> .det True ⟨.ce (.bool (decide (k0=5∨k0=6))),false,[],[]⟩
 |_,_=> .fail
def SValT(hA:List HV)(pA:List (List HC)):SR:=match hA,pA with
 |[.agg [.int .i64 k0, .int .i64 bk, .int .i64 f0, .int .i64 f1, .int .i64 f2, .int .i64 t0, .int .i64 t1, .int .i64 t2, .int .i64 pl, .int .i64 c0, .int .i64 c1, .int .i64 c2, .int .i64 dr, .bool fu, .int .i64 fd, .bool pr, .int .i64 sd, .int .i64 ra, .int .i64 bl, .int .i64 nn, .int .i64 sp, .bool on]],[]=> .all (k0≠3/\b3 256 f0 f1 f2/\b3 256 t0 t1 t2) Bool (fun _=>True) (fun x=>⟨.ce (.bool x),false,[],[]⟩)
 |_,_=> .fail
def tabValT:List (FuncId×HL.Spec):=[(45,SMotE),(138,SWithin)]
noncomputable def CValT:Ctx:=⟨Tryz.prog,gam tabValT,Tryz.f113.ntmps,[],[]⟩
theorem vcValT(k0 bk f0 f1 f2 t0 t1 t2 pl c0 c1 c2 dr fd sd ra bl nn sp:Int)(fu pr on:Bool)(Q:Res->Prop):(nfun true CValT Tryz.f113 (bodyOf Tryz.f113) [.agg [I6 k0,I6 bk,I6 f0,I6 f1,I6 f2,I6 t0,I6 t1,I6 t2,I6 pl,I6 c0,I6 c1,I6 c2,I6 dr, .bool fu,I6 fd, .bool pr,I6 sd,I6 ra,I6 bl,I6 nn,I6 sp, .bool on]] [] Q)=(True/\∀(x1:Bool),x1=decide (1<=k0/\k0<=6)->Bb (!x1) (Q ⟨.ce (.bool false),false,[],[]⟩) (b3 1048576 f0 f1 f2/\∀(x2:Bool),x2=true->Bb (!x2) (Q ⟨.ce (.bool false),false,[],[]⟩) (b3 1048576 t0 t1 t2/\∀(x3:Bool),x3=true->Bb (!x3) (Q ⟨.ce (.bool false),false,[],[]⟩) (Bb (k0 !=3) (Q ⟨.ce (.bool true),false,[],[]⟩) (Bb (pl !=17) (Bb (pl !=18) (Bb (pl !=19) (Q ⟨.ce (.bool false),false,[],[]⟩) (Bb (dr !=1) (Bb (dr !=(-1:Int)) (Q ⟨.ce (.bool false),false,[],[]⟩) (b3 1048576 c0 c1 c2/\∀(x4:Bool),x4=true->Bb (!x4) (Q ⟨.ce (.bool false),false,[],[]⟩) (False))) (b3 1048576 c0 c1 c2/\∀(x5:Bool),x5=true->Bb (!x5) (Q ⟨.ce (.bool false),false,[],[]⟩) (False)))) (Bb (dr !=1) (Bb (dr !=(-1:Int)) (Q ⟨.ce (.bool false),false,[],[]⟩) (b3 1048576 c0 c1 c2/\∀(x6:Bool),x6=true->Bb (!x6) (Q ⟨.ce (.bool false),false,[],[]⟩) (False))) (b3 1048576 c0 c1 c2/\∀(x7:Bool),x7=true->Bb (!x7) (Q ⟨.ce (.bool false),false,[],[]⟩) (False)))) (Bb (dr !=1) (Bb (dr !=(-1:Int)) (Q ⟨.ce (.bool false),false,[],[]⟩) (b3 1048576 c0 c1 c2/\∀(x8:Bool),x8=true->Bb (!x8) (Q ⟨.ce (.bool false),false,[],[]⟩) (False))) (b3 1048576 c0 c1 c2/\∀(x9:Bool),x9=true->Bb (!x9) (Q ⟨.ce (.bool false),false,[],[]⟩) (False)))))))):=by kernel_rfl
def SSpkT(hA:List HV)(pA:List (List HC)):SR:=match hA,pA with
 |[.agg [.int .i64 k0, .int .i64 bk, .int .i64 f0, .int .i64 f1, .int .i64 f2, .int .i64 t0, .int .i64 t1, .int .i64 t2, .int .i64 pl, .int .i64 c0, .int .i64 c1, .int .i64 c2, .int .i64 dr, .bool fu, .int .i64 fd, .bool pr, .int .i64 sd, .int .i64 ra, .int .i64 bl, .int .i64 nn, .int .i64 sp, .bool on]],[]=> .det (k0≠3) ⟨.tup [.ce (.sl false [4,4,4,4] []), .ce (.bool false)],false,[],[]⟩
 |_,_=> .fail
noncomputable def CSpkT:Ctx:=⟨Tryz.prog,gam [],Tryz.f114.ntmps,[],[]⟩
theorem vcSpkT(k0 bk f0 f1 f2 t0 t1 t2 pl c0 c1 c2 dr fd sd ra bl nn sp:Int)(fu pr on:Bool)(Q:Res->Prop):(nfun true CSpkT Tryz.f114 (bodyOf Tryz.f114) [.agg [I6 k0,I6 bk,I6 f0,I6 f1,I6 f2,I6 t0,I6 t1,I6 t2,I6 pl,I6 c0,I6 c1,I6 c2,I6 dr, .bool fu,I6 fd, .bool pr,I6 sd,I6 ra,I6 bl,I6 nn,I6 sp, .bool on]] [] Q)=(Bb (k0 !=3) (Q ⟨.tup [.ce (.sl false [4,4,4,4] []), .ce (.bool false)],false,[],[]⟩) (False)):=by kernel_rfl
def SChT(hA:List HV)(pA:List (List HC)):SR:=match hA,pA with
 |[.agg [.int .i64 k0, .int .i64 bk, .int .i64 f0, .int .i64 f1, .int .i64 f2, .int .i64 t0, .int .i64 t1, .int .i64 t2, .int .i64 pl, .int .i64 c0, .int .i64 c1, .int .i64 c2, .int .i64 dr, .bool fu, .int .i64 fd, .bool pr, .int .i64 sd, .int .i64 ra, .int .i64 bl, .int .i64 nn, .int .i64 sp, .bool on]],[]=> .all (k0≠3/\b3 256 f0 f1 f2/\b3 256 t0 t1 t2) (LL×Bool) (fun x=>ptsOK 32768 x.1/\x.1.length<=2) (fun x=>⟨.tup [.ce (.sl false [4,4,4] x.1), .ce (.bool x.2)],false,[],[]⟩)
 |_,_=> .fail
def tabChT:List (FuncId×HL.Spec):=[(113,SValT),(114,SSpkT),(47,SFine)]
noncomputable def CChT:Ctx:=⟨Tryz.prog,gam tabChT,Tryz.f88.ntmps,[],[]⟩
theorem vcChT(k0 bk f0 f1 f2 t0 t1 t2 pl c0 c1 c2 dr fd sd ra bl nn sp:Int)(fu pr on:Bool)(Q:Res->Prop):(nfun true CChT Tryz.f88 (bodyOf Tryz.f88) [.agg [I6 k0,I6 bk,I6 f0,I6 f1,I6 f2,I6 t0,I6 t1,I6 t2,I6 pl,I6 c0,I6 c1,I6 c2,I6 dr, .bool fu,I6 fd, .bool pr,I6 sd,I6 ra,I6 bl,I6 nn,I6 sp, .bool on]] [] Q)=((k0≠3/\b3 256 f0 f1 f2/\b3 256 t0 t1 t2)/\(∃(x:Bool),True)/\∀(x:Bool),True->Bb (!x) (Q ⟨.tup [.ce (.sl false [4,4,4] []), .ce (.bool false)],false,[],[]⟩) (k0≠3/\∀(x2:LL),x2=[]->∀(x3:Bool),x3=false->Bb (!x3) (b3 1073741824 f0 f1 f2/\∀x4,x4=f0*16->∀x5,x5=f1*16->∀x6,x6=f2*16->b3 1073741824 t0 t1 t2/\∀x7,x7=t0*16->∀x8,x8=t1*16->∀x9,x9=t2*16->Q ⟨.tup [.ce (.sl false [4,4,4] [[x4,x5,x6],[x7,x8,x9]]), .ce (.bool true)],false,[],[]⟩) (b3 1073741824 c0 c1 c2/\∀x10,x10=c0*16->∀x11,x11=c1*16->∀x12,x12=c2*16->False))):=by kernel_rfl
def SRtT(hA:List HV)(pA:List (List HC)):SR:=match hA,pA with
 |[.agg [.int .i64 k0, .int .i64 bk, .int .i64 f0, .int .i64 f1, .int .i64 f2, .int .i64 t0, .int .i64 t1, .int .i64 t2, .int .i64 pl, .int .i64 c0, .int .i64 c1, .int .i64 c2, .int .i64 dr, .bool fu, .int .i64 fd, .bool pr, .int .i64 sd, .int .i64 ra, .int .i64 bl, .int .i64 nn, .int .i64 sp, .bool on], .ce (.int .i64 s)],[]=> .all ((0<=fd/\fd<=200)/\0<=s/\s<=3000) Int (fun x=>0<=x/\x<=16777216) (fun x=>⟨.ce (I6 x),false,[],[]⟩)
 |_,_=> .fail
def SSofT(hA:List HV)(pA:List (List HC)):SR:=match hA,pA with
 |[.ce (.sl false ks l), .ce (.int .i64 i)],[]=>bif ksEq ks [4,4,4,4,4,4,4,4,4,4,4,4,4,0,4,0,4,4,4,4,4,0]then .det ((0<=i/\i<(l.length:Int))/\ntL l) ⟨.ce (I6 (-1)),false,[],[]⟩else .fail
 |_,_=> .fail
noncomputable def CSofT:Ctx:=⟨Tryz.prog,gam tabSoft,Tryz.f52.ntmps,[],[]⟩
theorem vcSofT(i:Int)(l:LL)(Q:Res->Prop):(nfun true CSofT Tryz.f52 (bodyOf Tryz.f52) [.ce (.sl false [4,4,4,4,4,4,4,4,4,4,4,4,4,0,4,0,4,4,4,4,4,0] l), .ce (I6 i)] [] Q)=((0<=i/\i<(l.length:Int))/\True/\(∃(x:Bool),x=true->el l i.toNat=2)/\∀(x:Bool),(x=true->el l i.toNat=2)->Bb (!x) (Q ⟨.ce (I6 (-1)),false,[],[]⟩) ((0<=i/\i<(l.length:Int))/\∀x2,x2=ec l i.toNat 18->Bb (x2==0) (Q ⟨.ce (I6 (-1)),false,[],[]⟩) (R6 (i+1)/\∀x3,x3=i+1->False))):=by kernel_rfl
def SKndT(hA:List HV)(pA:List (List HC)):SR:=match hA,pA with
 |[.ce (.sl false ks l), .ce (.int .i64 i)],[]=>bif ksEq ks [4,4,4,4,4,4,4,4,4,4,4,4,4,0,4,0,4,4,4,4,4,0]then .all ((0<=i/\i<(l.length:Int))/\ntL l/\ec l i.toNat 0=5) Int (fun _=>True) (fun x=>⟨.ce (I6 x),false,[],[]⟩)else .fail
 |_,_=> .fail
def tabKndT:List (FuncId×HL.Spec):=[(49,SSynE)]
noncomputable def CKndT:Ctx:=⟨Tryz.prog,gam tabKndT,Tryz.f53.ntmps,[],[]⟩
theorem vcKndT(i:Int)(l:LL)(Q:Res->Prop):(nfun true CKndT Tryz.f53 (bodyOf Tryz.f53) [.ce (.sl false [4,4,4,4,4,4,4,4,4,4,4,4,4,0,4,0,4,4,4,4,4,0] l), .ce (I6 i)] [] Q)=((0<=i/\i<(l.length:Int))/\∀x1,x1=el l i.toNat->Bb (x1==4) (Q ⟨.ce (I6 6),false,[],[]⟩) ((0<=i/\i<(l.length:Int))/\∀x2,x2=ec l i.toNat 18->Bb (x2==0) (Q ⟨.ce (I6 1),false,[],[]⟩) ((0<=i/\i<(l.length:Int))/\True/\∀(x3:Bool),x3=decide (el l i.toNat=5∨el l i.toNat=6)->Bb (x3) (Q ⟨.ce (I6 1),false,[],[]⟩) (R6 (i+1)/\∀x4,x4=i+1->False)))):=by kernel_rfl
def SPtsT(hA:List HV)(pA:List (List HC)):SR:=match hA,pA with
 |[.ce (.sl false ks l), .ce (.int .i64 i), .ce (.int .i64 f)],[]=>bif ksEq ks [4,4,4,4,4,4,4,4,4,4,4,4,4,0,4,0,4,4,4,4,4,0]then .all ((0<=i/\i<(l.length:Int))/\ntL l) (LL) (fun x=>x.length<=2/\ptsOK 32768 x) (fun x=>⟨.ce (.sl false [4,4,4] x),false,[],[]⟩)else .fail
 |_,_=> .fail
def tabPtsT:List (FuncId×HL.Spec):=[(88,SChT),(89,SSmooth)]
noncomputable def CPtsT:Ctx:=⟨Tryz.prog,gam tabPtsT,Tryz.f50.ntmps,[],[]⟩
theorem vcPtsT(i f:Int)(l:LL)(Q:Res->Prop):(nfun true CPtsT Tryz.f50 (bodyOf Tryz.f50) [.ce (.sl false [4,4,4,4,4,4,4,4,4,4,4,4,4,0,4,0,4,4,4,4,4,0] l), .ce (I6 i), .ce (I6 f)] [] Q)=((0<=i/\i<(l.length:Int))/\(el l i.toNat≠3/\b3 256 (ec l i.toNat 2) (ec l i.toNat 3) (ec l i.toNat 4)/\b3 256 (ec l i.toNat 5) (ec l i.toNat 6) (ec l i.toNat 7))/\(∃(x:LL×Bool),ptsOK (32768:Int) x.1/\List.length x.1<=2)/\∀(x:LL×Bool),ptsOK (32768:Int) x.1/\List.length x.1<=2->(0<=i/\i<(l.length:Int))/\True/\(∃(x:Bool),x=true->el l i.toNat=2)/\∀(x_1:Bool),(x_1=true->el l i.toNat=2)->Bb (!x_1) (Q ⟨.ce (.sl false [4,4,4] x.1),false,[],[]⟩) (((0:Int)<=1/\(1:Int)<=(List.length x.1:Int))/\((0:Int)<=1/\(1:Int)<=(List.length x.1:Int))/\Br (f>=0) (False) (False))):=by kernel_rfl
def SWrgT(hA:List HV)(pA:List (List HC)):SR:=match hA,pA with
 |[.agg [.int .i64 k0, .int .i64 bk, .int .i64 f0, .int .i64 f1, .int .i64 f2, .int .i64 t0, .int .i64 t1, .int .i64 t2, .int .i64 pl, .int .i64 c0, .int .i64 c1, .int .i64 c2, .int .i64 dr, .bool fu, .int .i64 fd, .bool pr, .int .i64 sd, .int .i64 ra, .int .i64 bl, .int .i64 nn, .int .i64 sp, .bool on]],[]=> .all (ntc k0 f0 f1 f2 t0 t1 t2 fd sp) Bool (fun _=>True) (fun x=>⟨.ce (.bool x),false,[],[]⟩)
 |_,_=> .fail
def tabWrgT:List (FuncId×HL.Spec):=[(45,SMotE),(113,SValT)]
noncomputable def CWrgT:Ctx:=⟨Tryz.prog,gam tabWrgT,Tryz.f86.ntmps,[],[]⟩
theorem vcWrgT(k0 bk f0 f1 f2 t0 t1 t2 pl c0 c1 c2 dr fd sd ra bl nn sp:Int)(fu pr on:Bool)(Q:Res->Prop):(nfun true CWrgT Tryz.f86 (bodyOf Tryz.f86) [.agg [I6 k0,I6 bk,I6 f0,I6 f1,I6 f2,I6 t0,I6 t1,I6 t2,I6 pl,I6 c0,I6 c1,I6 c2,I6 dr, .bool fu,I6 fd, .bool pr,I6 sd,I6 ra,I6 bl,I6 nn,I6 sp, .bool on]] [] Q)=(Br (k0<1) (Q ⟨.ce (.bool true),false,[],[]⟩) (Br (k0>14) (Q ⟨.ce (.bool true),false,[],[]⟩) (True/\∀(x1:Bool),x1=decide (1<=k0/\k0<=6)->Bb (x1) ((k0≠3/\b3 256 f0 f1 f2/\b3 256 t0 t1 t2)/\(∃(x:Bool),True)/\∀(x:Bool),True->Bb (!x) (Q ⟨.ce (.bool true),false,[],[]⟩) (Bb (k0 !=1) (Br (fd<1) (Q ⟨.ce (.bool true),false,[],[]⟩) (Br (fd>60000000) (Q ⟨.ce (.bool true),false,[],[]⟩) (Br (bl<0) (Q ⟨.ce (.bool true),false,[],[]⟩) (Q ⟨.ce (.bool (decide (bl>1000))),false,[],[]⟩)))) (Br (bl<0) (Q ⟨.ce (.bool true),false,[],[]⟩) (Q ⟨.ce (.bool (decide (bl>1000))),false,[],[]⟩)))) (Bb (k0==8) (Br (nn<3) (Q ⟨.ce (.bool true),false,[],[]⟩) (Br (nn>5) (Q ⟨.ce (.bool true),false,[],[]⟩) (Br (sp<0) (Q ⟨.ce (.bool true),false,[],[]⟩) (Q ⟨.ce (.bool (decide (sp>30000))),false,[],[]⟩)))) (Q ⟨.ce (.bool false),false,[],[]⟩))))):=by kernel_rfl
def SChkT(hA:List HV)(pA:List (List HC)):SR:=match hA,pA with
 |[.ce (.sl false ks l)],[]=>bif ksEq ks [4,4,4,4,4,4,4,4,4,4,4,4,4,0,4,0,4,4,4,4,4,0]then .all (ntL l/\l.length<=5) Int (fun _=>True) (fun x=>⟨.ce (I6 x),false,[],[]⟩)else .fail
 |_,_=> .fail
def LChkT(v:LV):LR:=match v with
 |([.ce (.sl false ks l), .ce (.int .i64 r), .ce (.int .i64 last), .ce (.sl false ks2 l2), .ce (.int .i64 n), .ce (.int .i64 i)],[])=>bif ksEq ks [4,4,4,4,4,4,4,4,4,4,4,4,4,0,4,0,4,4,4,4,4,0]&&ksEq ks2 [4,4,4,4,4,4,4,4,4,4,4,4,4,0,4,0,4,4,4,4,4,0]then .alts (l2=l/\n=(l.length:Int)/\i=0/\last= -1/\ntL l/\l.length<=5) [(True, .exit 0,([.ce (I6 r)],[])),(True, .ret,([.ce (I6 1)],[])),(True, .ret,([.ce (I6 13)],[]))]else .fail
 |_=> .fail
def tabChkT:List (FuncId×HL.Spec):=[(86,SWrgT),(45,SMotE)]
noncomputable def CChkT:Ctx:=⟨Tryz.prog,gam tabChkT,Tryz.f44.ntmps,[(5,anCheck,LChkT)],[]⟩
theorem vbChkT(r last n i:Int)(l:LL)(K:HEx->LV->Prop):(nbodyT true CChkT anCheck (nthLoop Tryz.f44 0) (([.ce (.sl false [4,4,4,4,4,4,4,4,4,4,4,4,4,0,4,0,4,4,4,4,4,0] l), .ce (I6 r), .ce (I6 last), .ce (.sl false [4,4,4,4,4,4,4,4,4,4,4,4,4,0,4,0,4,4,4,4,4,0] l), .ce (I6 n), .ce (I6 i)],[])) K)=(Br (i<n) ((0<=i/\i<(l.length:Int))/\ntc (el l i.toNat) (ec l i.toNat 2) (ec l i.toNat 3) (ec l i.toNat 4) (ec l i.toNat 5) (ec l i.toNat 6) (ec l i.toNat 7) (ec l i.toNat 14) (ec l i.toNat 20)/\(∃(x:Bool),True)/\∀(x:Bool),True->Bb (x) (K .ret ([.ce (I6 1)],[])) (True/\∀(x2:Bool),x2=decide (1<=el l i.toNat/\el l i.toNat<=6)->Bb (!x2) (R6 (i+1)/\∀x3,x3=i+1->K .normal ([.ce (.sl false [4,4,4,4,4,4,4,4,4,4,4,4,4,0,4,0,4,4,4,4,4,0] l), .ce (I6 r), .ce (I6 last), .ce (.sl false [4,4,4,4,4,4,4,4,4,4,4,4,4,0,4,0,4,4,4,4,4,0] l), .ce (I6 n), .ce (I6 x3)],[])) (Br (last>=0) ((0<=last/\last<(l.length:Int))/\Bb (!(ec l last.toNat 5==ec l i.toNat 2&&(ec l last.toNat 6==ec l i.toNat 3&&(ec l last.toNat 7==ec l i.toNat 4&&true)))) (K .ret ([.ce (I6 13)],[])) (R6 (i+1)/\∀x4,x4=i+1->K .normal ([.ce (.sl false [4,4,4,4,4,4,4,4,4,4,4,4,4,0,4,0,4,4,4,4,4,0] l), .ce (I6 r), .ce (I6 i), .ce (.sl false [4,4,4,4,4,4,4,4,4,4,4,4,4,0,4,0,4,4,4,4,4,0] l), .ce (I6 n), .ce (I6 x4)],[]))) (R6 (i+1)/\∀x5,x5=i+1->K .normal ([.ce (.sl false [4,4,4,4,4,4,4,4,4,4,4,4,4,0,4,0,4,4,4,4,4,0] l), .ce (I6 r), .ce (I6 i), .ce (.sl false [4,4,4,4,4,4,4,4,4,4,4,4,4,0,4,0,4,4,4,4,4,0] l), .ce (I6 n), .ce (I6 x5)],[]))))) (K (.exit 0) ([.ce (I6 r)],[]))):=by kernel_rfl
theorem vcChkT(l:LL)(Q:Res->Prop):(nfun true CChkT Tryz.f44 (bodyOf Tryz.f44) [.ce (.sl false [4,4,4,4,4,4,4,4,4,4,4,4,4,0,4,0,4,4,4,4,4,0] l)] [] Q)=(Br ((l.length:Int)>20000) (Q ⟨.ce (I6 10),false,[],[]⟩) ((l=l/\(l.length:Int)=(l.length:Int)/\(0:Int)=0/\(-1:Int)=(-1:Int)/\ntL l/\l.length<=5)/\(True->Q ⟨.ce (I6 0),false,[],[]⟩)/\(True->Q ⟨.ce (I6 1),false,[],[]⟩)/\(True->Q ⟨.ce (I6 13),false,[],[]⟩))):=by kernel_rfl
section
attribute [local irreducible] hfun bodyT fragT
theorem sMotE:Sound Tryz.prog 45 SMotE:=by
 refine sound_of (C:=CMotion) [] Tryz.func45 (by kernel_rfl) (by decide+kernel) (by kernel_rfl) rfl trivial (loops0 (by kernel_rfl)) ?_;intro hA pA R h;unfold SMotE at h;split at h;case h_2=>exfalso;exact h
 rename_i k;have hq:=h.2;refine byVC (vcMotion k R) ⟨fun g=> ?_,fun g=> ?_⟩
 . have g:=odt g;rw[show decide (1<=k/\k<=6)=decide (k<=6)from decide_eq_decide.2 (by omega)]at hq;exact hq
 . have g:=odf g;rw[decide_eq_false (by omega)]at hq;exact hq
theorem sSynE:Sound Tryz.prog 49 SSynE:=by
 refine sound_of (C:=CSync) [] Tryz.func49 (by kernel_rfl) (by decide+kernel) (by kernel_rfl) rfl trivial (loops0 (by kernel_rfl)) ?_;intro hA pA R h;unfold SSynE at h;split at h;case h_2=>exfalso;exact h
 rename_i k0 bk f0 f1 f2 t0 t1 t2 pl c0 c1 c2 dr fu fd pr sd ra bl nn sp on;have hq:=h.2;refine byVC (vcSync k0 bk f0 f1 f2 t0 t1 t2 pl c0 c1 c2 dr fd sd ra bl nn sp fu pr on R) ⟨fun g=> ?_,fun g=> ?_⟩
 . have:k0=5:=by simpa using g
   rw[decide_eq_true (by omega)]at hq;exact hq
 . have g:k0≠5:=by simpa using g
   have:(k0==6)=decide (k0=5∨k0=6):=by
    by_cases h6:k0=6
    . subst h6;rfl
    . rw[decide_eq_false (by omega)];simpa using h6
   rw[this];exact hq
theorem sValT:Sound Tryz.prog 113 SValT:=by
 refine sound_of (C:=CValT) tabValT Tryz.func113 (by kernel_rfl) (by decide+kernel) (by kernel_rfl) rfl ⟨sMotE,sWithin,trivial⟩ (loops0 (by kernel_rfl)) ?_;intro hA pA R h;unfold SValT at h;split at h;case h_2=>exfalso;exact h
 rename_i k0 bk f0 f1 f2 t0 t1 t2 pl c0 c1 c2 dr fu fd pr sd ra bl nn sp on;obtain⟨⟨hk,hf,ht⟩,_,hR⟩:=h;have any:∀b,R ⟨.ce (.bool b),false,[],[]⟩:=fun b=>hR b trivial;have w:∀{a b c:Int},b3 256 a b c->b3 1048576 a b c:=b3_mono (by decide);refine byVC (vcValT k0 bk f0 f1 f2 t0 t1 t2 pl c0 c1 c2 dr fd sd ra bl nn sp fu pr on R) ⟨trivial,fun x1 _=>⟨fun _=>any _,fun _=>⟨w hf,fun x2 _=>⟨fun _=>any _,fun _=>⟨w ht,fun x3 _=>⟨fun _=>any _,fun _=>⟨fun _=>any _,fun g=>absurd (by simpa using g) hk⟩⟩⟩⟩⟩⟩⟩
theorem sSpkT:Sound Tryz.prog 114 SSpkT:=by
 refine sound_of (C:=CSpkT) [] Tryz.func114 (by kernel_rfl) (by decide+kernel) (by kernel_rfl) rfl trivial (loops0 (by kernel_rfl)) ?_;intro hA pA R h;unfold SSpkT at h;split at h;case h_2=>exfalso;exact h
 rename_i k0 bk f0 f1 f2 t0 t1 t2 pl c0 c1 c2 dr fu fd pr sd ra bl nn sp on;obtain⟨hk,hq⟩:=h;exact byVC (vcSpkT k0 bk f0 f1 f2 t0 t1 t2 pl c0 c1 c2 dr fd sd ra bl nn sp fu pr on R) ⟨fun _=>hq,fun g=>hk (by simpa using g)⟩
theorem sChT:Sound Tryz.prog 88 SChT:=by
 refine sound_of (C:=CChT) tabChT Tryz.func88 (by kernel_rfl) (by decide+kernel) (by kernel_rfl) rfl ⟨sValT,sSpkT,sFine,trivial⟩ (loops1 (by kernel_rfl) (fun _ _ h=>nomatch(Eq.trans (Eq.symm (show(firstReg (nthLoop Tryz.f88 0)).bind (findAnn CChT.loops)=none by kernel_rfl)) h))) ?_;intro hA pA R h;unfold SChT at h;split at h;case h_2=>exfalso;exact h
 rename_i k0 bk f0 f1 f2 t0 t1 t2 pl c0 c1 c2 dr fu fd pr sd ra bl nn sp on;obtain⟨⟨hk,hf,ht⟩,_,hR⟩:=h;refine byVC (vcChT k0 bk f0 f1 f2 t0 t1 t2 pl c0 c1 c2 dr fd sd ra bl nn sp fu pr on R) ⟨⟨hk,hf,ht⟩,⟨true,trivial⟩,fun x _=>⟨fun _=>hR ([],false) ⟨ptsOK_nil,by decide⟩,fun _=>⟨hk,fun x2 _ x3 e3=>⟨fun _=>⟨b3_mono (by decide) hf,fun x4 e4 x5 e5 x6 e6=>⟨b3_mono (by decide) ht,fun x7 e7 x8 e8 x9 e9=> ?_⟩⟩,fun g=>by rw[e3]at g;cases g⟩⟩⟩⟩;refine hR ([[x4,x5,x6],[x7,x8,x9]],true) ⟨?_,Nat.le_refl 2⟩;have h1:b3 32768 x4 x5 x6:=by unfold b3 at hf⊢;omega
 have h2:b3 32768 x7 x8 x9:=by unfold b3 at ht⊢;omega
 exact ptsOK_app (ptsOK_app ptsOK_nil h1) h2
theorem sRtT:Sound Tryz.prog 48 SRtT:=by
 refine sound_of (C:=CRate) tabRate Tryz.func48 (by kernel_rfl) (by decide+kernel) (by kernel_rfl) rfl ⟨sRnd,trivial⟩ (loops0 (by kernel_rfl)) ?_;intro hA pA R h;unfold SRtT at h;split at h;case h_2=>exfalso;exact h
 rename_i k0 bk f0 f1 f2 t0 t1 t2 pl c0 c1 c2 dr fu fd pr sd ra bl nn sp on s;obtain⟨⟨hfd,hs⟩,_,hR⟩:=h;have rb:∀x y:Int,(0<=x/\x<=245760000000)->y=rnd x 60000->0<=y/\y<=4096001:=fun x y hx e=>by
  unfold rnd at e;omega
 refine byVC (vcRate s k0 bk f0 f1 f2 t0 t1 t2 pl c0 c1 c2 dr fd sd ra bl nn sp fu pr on R) ⟨fun _=>hR 0 (by decide),fun _=>⟨fun _ x1 e1=> ?_,fun _ x8 e8=> ?_⟩⟩
 . have hx1:1<=x1/\x1<=3000:=by omega
   have hm:0<=fd*x1/\fd*x1<=200*3000:=mul_bd hfd.1 hfd.2 (by omega) hx1.2;refine⟨by omega,fun x2 e2 x3 e3=>⟨by omega,fun x4 e4=>⟨by omega,fun x5 e5=>⟨by omega,fun x6 e6 x7 e7=>hR x7 ?_⟩⟩⟩⟩;have:=rb x5 x6 (by omega) e6;omega
 . refine⟨by omega,fun x4 e4=>⟨by omega,fun x5 e5=>⟨by omega,fun x6 e6 x7 e7=>hR x7 ?_⟩⟩⟩;have:=rb x5 x6 (by omega) e6;omega
theorem sSofT:Sound Tryz.prog 52 SSofT:=by
 refine sound_of (C:=CSofT) tabSoft Tryz.func52 (by kernel_rfl) (by decide+kernel) (by kernel_rfl) rfl ⟨sSmooth,trivial⟩ (loops1 (by kernel_rfl) (fun _ _ h=>nomatch(Eq.trans (Eq.symm (show(firstReg (nthLoop Tryz.f52 0)).bind (findAnn CSofT.loops)=none by kernel_rfl)) h))) ?_;intro hA pA R h;unfold SSofT at h;split at h;case h_2=>exfalso;exact h
 rename_i ks l i;cases hks:ksEq ks [4,4,4,4,4,4,4,4,4,4,4,4,4,0,4,0,4,4,4,4,4,0]
 . rw[hks]at h;exact h.elim
 rw[hks]at h;obtain rfl:=ksEq_eq hks;obtain⟨⟨hi,hn⟩,hq⟩:=h;have n2:=(hn i.toNat (by omega)).1;refine byVC (vcSofT i l R) ⟨hi,trivial,⟨false,fun e=>(by cases e)⟩,fun x hx=>⟨fun _=>hq,fun g=> ?_⟩⟩;exfalso;have h2:ec l i.toNat 0=2:=hx (by simpa using g);omega
theorem sKndT:Sound Tryz.prog 53 SKndT:=by
 refine sound_of (C:=CKndT) tabKndT Tryz.func53 (by kernel_rfl) (by decide+kernel) (by kernel_rfl) rfl ⟨sSynE,trivial⟩ (loops1 (by kernel_rfl) (fun _ _ h=>nomatch(Eq.trans (Eq.symm (show(firstReg (nthLoop Tryz.f53 0)).bind (findAnn CKndT.loops)=none by kernel_rfl)) h))) ?_;intro hA pA R h;unfold SKndT at h;split at h;case h_2=>exfalso;exact h
 rename_i ks l i;cases hks:ksEq ks [4,4,4,4,4,4,4,4,4,4,4,4,4,0,4,0,4,4,4,4,4,0]
 . rw[hks]at h;exact h.elim
 rw[hks]at h;obtain rfl:=ksEq_eq hks;obtain⟨⟨hi,hn,h5⟩,_,hR⟩:=h;refine byVC (vcKndT i l R) ⟨hi,fun x1 e1=>⟨fun _=>hR 6 trivial,fun _=>⟨hi,fun x2 _=>⟨fun _=>hR 1 trivial,fun _=>⟨hi,trivial,fun x3 e3=>⟨fun _=>hR 1 trivial,fun g=> ?_⟩⟩⟩⟩⟩⟩;rw[e3,decide_eq_true (Or.inl (show el l i.toNat=5 from h5))]at g;cases g
theorem sPtsT:Sound Tryz.prog 50 SPtsT:=by
 refine sound_of (C:=CPtsT) tabPtsT Tryz.func50 (by kernel_rfl) (by decide+kernel) (by kernel_rfl) rfl ⟨sChT,sSmooth,trivial⟩ (loops0 (by kernel_rfl)) ?_;intro hA pA R h;unfold SPtsT at h;split at h;case h_2=>exfalso;exact h
 rename_i ks l i f;cases hks:ksEq ks [4,4,4,4,4,4,4,4,4,4,4,4,4,0,4,0,4,4,4,4,4,0]
 . rw[hks]at h;exact h.elim
 rw[hks]at h;obtain rfl:=ksEq_eq hks;obtain⟨⟨hi,hn⟩,_,hR⟩:=h;have hn:=hn i.toNat (by omega);have n0:=hn.1;refine byVC (vcPtsT i f l R) ⟨hi,⟨?_,hn.2.1,hn.2.2.1⟩,⟨([],false),ptsOK_nil,by decide⟩,fun x hx=>⟨hi,trivial,⟨false,fun e=>(by cases e)⟩,fun s hs=>⟨fun _=>hR x.1 ⟨hx.2,hx.1⟩,fun g=> ?_⟩⟩⟩
 . show ec l i.toNat 0≠3;omega
 . exfalso;have h2:ec l i.toNat 0=2:=hs (by simpa using g);omega
theorem sWrgT:Sound Tryz.prog 86 SWrgT:=by
 refine sound_of (C:=CWrgT) tabWrgT Tryz.func86 (by kernel_rfl) (by decide+kernel) (by kernel_rfl) rfl ⟨sMotE,sValT,trivial⟩ (loops0 (by kernel_rfl)) ?_;intro hA pA R h;unfold SWrgT at h;split at h;case h_2=>exfalso;exact h
 rename_i k0 bk f0 f1 f2 t0 t1 t2 pl c0 c1 c2 dr fu fd pr sd ra bl nn sp on;obtain⟨hn,_,hR⟩:=h;have any:∀b,R ⟨.ce (.bool b),false,[],[]⟩:=fun b=>hR b trivial;have hk:=hn.1;have hv:k0≠3/\b3 256 f0 f1 f2/\b3 256 t0 t1 t2:=⟨by omega,hn.2.1,hn.2.2.1⟩;refine byVC (vcWrgT k0 bk f0 f1 f2 t0 t1 t2 pl c0 c1 c2 dr fd sd ra bl nn sp fu pr on R) ?_;repeat' first
  |exact any _
  |exact hv
  |exact⟨true,trivial⟩
  |exact trivial
  |(refine And.intro ?_ ?_)
  |(intro hx)
  |omega
theorem loopChkT:∀v Q,(LChkT v).wp Q->hloop CChkT anCheck (nthLoop Tryz.f44 0) v Q:=by
 intro v Q h;unfold LChkT at h;split at h;case h_2=>exact h.elim
 rename_i ks l r last ks2 l2 n i;cases hks:ksEq ks [4,4,4,4,4,4,4,4,4,4,4,4,4,0,4,0,4,4,4,4,4,0]
 . rw[hks]at h;exact h.elim
 cases hks2:ksEq ks2 [4,4,4,4,4,4,4,4,4,4,4,4,4,0,4,0,4,4,4,4,4,0]
 . rw[hks,hks2]at h;exact h.elim
 rw[hks,hks2]at h;obtain rfl:=ksEq_eq hks;obtain rfl:=ksEq_eq hks2;obtain⟨⟨h1,h2,h3,h4,hn,hl⟩,q0,q1,q2⟩:=h;subst h1 h2 h3 h4;refine hloop_rec (σ:=Int×Nat) (fun s=>([.ce (.sl false [4,4,4,4,4,4,4,4,4,4,4,4,4,0,4,0,4,4,4,4,4,0] l2), .ce (I6 r), .ce (I6 s.1), .ce (.sl false [4,4,4,4,4,4,4,4,4,4,4,4,4,0,4,0,4,4,4,4,4,0] l2), .ce (I6 (l2.length:Int)), .ce (I6 (s.2:Int))],[])) (fun s=>l2.length-s.2) (fun s=>(-1<=s.1/\s.1<(l2.length:Int))/\s.2<=l2.length) ?_ (-1,0) ⟨by dsimp only;omega,Nat.zero_le _⟩;rintro⟨last,i⟩⟨hl1,hi⟩K hnx hx hr;dsimp only at hl1 hi hnx⊢;refine byVB (vbChkT r last l2.length i l2 K) ⟨fun g=> ?_,fun _=>hx _ _ (q0 trivial)⟩;have g:=odt g;have ht:Int.toNat (i:Int)=i:=rfl;rw[ht];have nx:∀t:Int,(-1<=t/\t<(l2.length:Int))->∀y:Int,y=(i:Int)+1->K .normal ([.ce (.sl false [4,4,4,4,4,4,4,4,4,4,4,4,4,0,4,0,4,4,4,4,4,0] l2), .ce (I6 r), .ce (I6 t), .ce (.sl false [4,4,4,4,4,4,4,4,4,4,4,4,4,0,4,0,4,4,4,4,4,0] l2), .ce (I6 (l2.length:Int)), .ce (I6 y)],[]):=fun t h1 y e=>by
  rw[show y=((i+1:Nat):Int)by omega];exact hnx (t,i+1) ⟨h1,by dsimp only;omega⟩ (by dsimp only;omega)
 refine⟨by omega,hn i (by omega),⟨true,trivial⟩,fun x _=>⟨fun _=>hr _ (q1 trivial),fun _=>⟨trivial,fun x2 _=>⟨fun _=>⟨by omega,fun y e=>nx last hl1 y e⟩,fun _=>⟨fun gl=>⟨?_,fun _=>hr _ (q2 trivial),fun _=>⟨by omega,fun y e=>nx i (by omega) y e⟩⟩,fun _=>⟨by omega,fun y e=>nx i (by omega) y e⟩⟩⟩⟩⟩⟩;have gl:=odt gl;omega
theorem sChkT:Sound Tryz.prog 44 SChkT:=by
 refine sound_of (C:=CChkT) tabChkT Tryz.func44 (by kernel_rfl) (by decide+kernel) (by kernel_rfl) rfl ⟨sWrgT,sMotE,trivial⟩ (loops1 (by kernel_rfl) (loopOK_of (an:=anCheck) (S:=LChkT) (by kernel_rfl) loopChkT)) ?_;intro hA pA R h;unfold SChkT at h;split at h;case h_2=>exfalso;exact h
 rename_i ks l;cases hks:ksEq ks [4,4,4,4,4,4,4,4,4,4,4,4,4,0,4,0,4,4,4,4,4,0]
 . rw[hks]at h;exact h.elim
 rw[hks]at h;obtain rfl:=ksEq_eq hks;obtain⟨⟨hn,hl⟩,_,hR⟩:=h;exact byVC (vcChkT l R) ⟨fun _=>hR 10 trivial,fun _=>⟨⟨rfl,rfl,rfl,rfl,hn,hl⟩,fun _=>hR 0 trivial,fun _=>hR 1 trivial,fun _=>hR 13 trivial⟩⟩
end
end Go.Proofs.YthkoabbiiadbjaaGreat
namespace U
open Go
structure RunS where
 s0:Int
 s1:Int
 s2:Int
 sg:List (List Int)
 mks:List (List Int)
 a:AxV
 b:AxV
 c:AxV
 d0:Int
 d1:Int
 d2:Int
 f:Int
 t:Int
 pk:List (List Int)
 ln:Int
def RunS.L(x:RunS):LegS:=leg x.s0 x.s1 x.s2 x.sg x.a.bl x.b.bl x.c.bl x.d0 x.d1 x.d2 x.f x.t
def okRun(x:RunS):Prop:=okPath x.s0 x.s1 x.s2 x.sg x.mks/\okAx x.a/\okAx x.b/\okAx x.c/\(pm x.d0/\pm x.d1/\pm x.d2)/\(0<=x.f/\x.f<=plen x.sg)/\(0<=x.t/\x.t<=plen x.sg)/\x.pk=x.L.pk/\x.ln=x.L.ln
theorem okAx_MA{a:AxV}(h:okAx a):okMA a.st a.og a.sg a.pit a.bl:=by
 obtain⟨h1,h2,h3,h4,h5,h6,h7,h8,h9,h10⟩:=h;exact⟨by omega,⟨fun h=>by have:=h9 h;omega,by omega,by omega,by omega,h10.1⟩,by omega⟩
theorem tadd_ln(pk:List (List Int))(ln:Int)(q:List Int):(tadd pk ln q).2=ln+q.getD 1 0:=by unfold tadd;split<;>rfl
theorem legStep_ln{s0 s1 s2:Int}{sg:List (List Int)}{b0 b1 b2 f t m:Int}{x:LegS}{k:Nat}(hb:okB3 b0 b1 b2)(hm:m=1∨m= -1)(hk:k<sg.length)(hs:okSegs s0 s1 s2 sg):(legStep s0 s1 s2 sg b0 b1 b2 f t m x k).ln<=x.ln+135168:=by
 have hi:=legI_bd (m:=m) hk;have hl:=(hs (legI sg.length m k).toNat (by omega)).2.1;unfold legStep legSeg legPut;generalize legI sg.length m k=i at*;generalize fc1 (bgn s0 sg 0 i) (ec sg i.toNat 0) m x.a0=n0;generalize fc1 (bgn s1 sg 1 i) (ec sg i.toNat 1) m x.a1=n1;generalize fc1 (bgn s2 sg 2 i) (ec sg i.toNat 2) m x.a2=n2;have hu:=slk_bd hb x.a0 x.a1 x.a2 n0 n1 n2;have hE:legE sg m x.bg i=x.bg+m*ec sg i.toNat 3:=rfl;split
 . dsimp only;rw[tadd_ln];have h2:(legTk x.pk x.ln (slk b0 b1 b2 x.a0 x.a1 x.a2 n0 n1 n2) (legS m (legLow x.bg (legE sg m x.bg i) f t) (legHigh x.bg (legE sg m x.bg i) f t)) x.a0 x.a1 x.a2 n0 n1 n2).2<=x.ln+4096:=by
    unfold legTk;split
    . rw[tadd_ln];show x.ln+slk b0 b1 b2 x.a0 x.a1 x.a2 n0 n1 n2<=x.ln+4096;omega
    . show x.ln<=x.ln+4096;omega
   have h3:legHigh x.bg (legE sg m x.bg i) f t-legLow x.bg (legE sg m x.bg i) f t<=131072:=by
    unfold legHigh legLow;rw[hE];rcases hm with rfl|rfl
    . omega
    . omega
   show _+(legHigh x.bg (legE sg m x.bg i) f t-legLow x.bg (legE sg m x.bg i) f t)<=x.ln+135168;omega
 . show x.ln<=x.ln+135168;omega
theorem legK_ln{s0 s1 s2:Int}{sg:List (List Int)}{b0 b1 b2 f t m:Int}{x:LegS}(hb:okB3 b0 b1 b2)(hm:m=1∨m= -1)(hs:okSegs s0 s1 s2 sg):∀k,k<=sg.length->(legK s0 s1 s2 sg b0 b1 b2 f t m x k).ln<=x.ln+135168*(k:Int)
 |0,_=>by show x.ln<=x.ln+135168*((0:Nat):Int);omega
 |k+1,h=>by
  have h1:=legK_ln (x:=x) hb hm hs (f:=f) (t:=t) k (by omega);have h2:=legStep_ln (x:=legK s0 s1 s2 sg b0 b1 b2 f t m x k) (f:=f) (t:=t) hb hm (show k<sg.length by omega) hs;show(legStep s0 s1 s2 sg b0 b1 b2 f t m (legK s0 s1 s2 sg b0 b1 b2 f t m x k) k).ln<=_;omega
theorem legM_pm(f t:Int):legM f t=1∨legM f t= -1:=by unfold legM;split<;>omega
theorem leg_ln{s0 s1 s2:Int}{sg:List (List Int)}{b0 b1 b2 d0 d1 d2 f t:Int}(hb:okB3 b0 b1 b2)(hs:okSegs s0 s1 s2 sg)(hl:sg.length<=355000):(leg s0 s1 s2 sg b0 b1 b2 d0 d1 d2 f t).ln<=1099511627776:=by
 unfold leg;have:=legK_ln (x:=⟨[],0,d0,d1,d2,if legM f t<0 then plen sg else 0⟩) (f:=f) (t:=t) hb (legM_pm f t) hs sg.length (Nat.le_refl _);dsimp only at this;omega
def trkPre(x:RunS):Prop:=okLen x.sg/\okPts x.s0 x.s1 x.s2 x.sg/\okTrk x.pk x.ln/\okMA x.a.st x.a.og x.a.sg x.a.pit x.a.bl/\okMA x.b.st x.b.og x.b.sg x.b.pit x.b.bl/\okMA x.c.st x.c.og x.c.sg x.c.pit x.c.bl/\(0<=x.f/\x.f<=18014398509481984)
theorem okRun_b3{x:RunS}(h:okRun x):okB3 x.a.bl x.b.bl x.c.bl:=by
 obtain⟨_,ha,hb,hc,_⟩:=h;have:=ha.2.2.2.2.1;have:=hb.2.2.2.2.1;have:=hc.2.2.2.2.1;unfold okB3;omega
theorem okRun_pre{x:RunS}(h:okRun x):trkPre x:=by
 have hb:=okRun_b3 h;obtain⟨hp,ha,hb',hc,hd,hf,ht,h1,h2⟩:=h;have hl:=okPath_len hp;have hk:=leg_ok (s0:=x.s0) (s1:=x.s1) (s2:=x.s2) (d0:=x.d0) (d1:=x.d1) (d2:=x.d2) hl hb hf ht;have:=plen_le hl;refine⟨hl,okPath_pts hp,?_,okAx_MA ha,okAx_MA hb',okAx_MA hc,by omega⟩;rw[h1,h2];exact hk
theorem okRun_ln{x:RunS}(h:okRun x):x.ln<=1099511627776:=by
 rw[h.2.2.2.2.2.2.2.2];exact leg_ln (okRun_b3 h) h.1.2.1 h.1.2.2.1
def qloss(J b:Int):Int:=if b<=0 then 0 else(b-1)/J*b-J*((b-1)/J*((b-1)/J+1)/2)
def qready(A J v a:Int):Bool:=decide (-A<=a/\a<=A/\(v=0->a<=J)/\qloss J (-a)<=v/\v<=16777216-qloss J a)
def qbs(J v:Int):Nat->Int->Int->Int
 |0,l,_=>l
 |n+1,l,h=>if l<h then(if qloss J (h-(h-l)/2)<=v-(h-(h-l)/2)then qbs J v n (h-(h-l)/2) h else qbs J v n l (h-(h-l)/2-1))else l
def qhi(A J a:Int):Int:=min (J-a) A
def qbrk(A J v a:Int):Int:= -(qbs J v (qhi A J a-(-a-J)).toNat (-a-J) (qhi A J a))
def qst(A J:Int):Nat->Int->Int->List (List Int)
 |0,_,_=>[]
 |n+1,v,a=>if 0<v then[v+qbrk A J v a]::qst A J n (v+qbrk A J v a) (qbrk A J v a)else[]
def qsok(A J:Int):Nat->Int->Int->Bool
 |0,v,_=>decide (v<=0)
 |n+1,v,a=>if 0<v then qsok A J n (v+qbrk A J v a) (qbrk A J v a)else true
def okPl(A J R:Int):Prop:=(1<=A/\A<=65536)/\(2<=J/\J<=65536)/\(1<=R/\R<=16777216)
theorem tri(m:Int):(m+1)*(m+1+1)/2=m*(m+1)/2+(m+1):=by
 have:(m+1)*(m+1+1)=m*(m+1)+(m+1)*2:=by
  rw[Int.mul_add (m+1),Int.mul_one,Int.mul_comm (m+1) (m+1),Int.mul_add,Int.add_mul];rw[Int.mul_add];omega
 rw[this,Int.add_mul_ediv_right _ _ (by omega)]
theorem qloss_le{J b:Int}(hJ:1<=J)(h:b<=J):qloss J b=0:=by
 unfold qloss;by_cases h0:b<=0
 . rw[if_pos h0]
 . rw[if_neg h0,Int.ediv_eq_zero_of_lt (by omega) (by omega)];simp
theorem qloss_rec{J b:Int}(hJ:1<=J)(h:J<b):qloss J b=(b-J)+qloss J (b-J):=by
 have e:(b-1)/J=(b-J-1)/J+1:=by
  rw[show b-1=(b-J-1)+J*1 by omega,Int.add_mul_ediv_left _ _ (by omega)]
 unfold qloss;rw[if_neg (by omega),if_neg (by omega),e,tri];generalize(b-J-1)/J=m;generalize m*(m+1)/2=t;rw[Int.mul_add,Int.mul_add,Int.add_mul,Int.mul_sub,Int.mul_one,Int.mul_comm J m];omega
theorem qloss_mono{J:Int}(hJ:1<=J):∀(n:Nat){b c:Int},c<=n->b<=c->0<=qloss J b/\qloss J b<=qloss J c:=by
 intro n;induction n using Nat.strongRecOn with
 |_ n ih=>
  intro b c hc hb;by_cases h1:b<=J
  . rw[qloss_le hJ h1];by_cases h2:c<=J
    . rw[qloss_le hJ h2];omega
    . rw[qloss_rec hJ (by omega)];have:=ih (c-J).toNat (by omega) (b:=0) (c:=c-J) (by omega) (by omega);omega
  . rw[qloss_rec hJ (b:=b) (by omega),qloss_rec hJ (b:=c) (by omega)];have:=ih (c-J).toNat (by omega) (b:=b-J) (c:=c-J) (by omega) (by omega);omega
theorem qloss_nn{J:Int}(hJ:1<=J)(b:Int):0<=qloss J b:=(qloss_mono hJ b.toNat (b:=b) (c:=b) (by omega) (by omega)).1
theorem qloss_m{J b c:Int}(hJ:1<=J)(h:b<=c):qloss J b<=qloss J c:=(qloss_mono hJ c.toNat (by omega) h).2
theorem qloss_bd{J:Int}(hJ:1<=J):∀(n:Nat){b:Int},0<=b->b<=n->qloss J b<=b*b:=by
 intro n;induction n using Nat.strongRecOn with
 |_ n ih=>
  intro b h0 hn;by_cases h1:b<=J
  . rw[qloss_le hJ h1];exact Int.mul_nonneg h0 h0
  . rw[qloss_rec hJ (by omega)];have a1:=ih (b-J).toNat (by omega) (b:=b-J) (by omega) (by omega);have a2:(b-J)*(b-J)<=(b-J)*b:=Int.mul_le_mul_of_nonneg_left (by omega) (by omega);have a3:(b-J)*b=b*b-J*b:=Int.sub_mul _ _ _;have a4:1*b<=J*b:=Int.mul_le_mul_of_nonneg_right hJ h0;omega
theorem qbs_spec{J v:Int}(hJ:1<=J):∀(n:Nat){l h:Int},h-l<=n->l<=h->qloss J l<=v-l->l<=qbs J v n l h/\qbs J v n l h<=h/\qloss J (qbs J v n l h)<=v-qbs J v n l h/\∀x,qbs J v n l h<x->x<=h->¬qloss J x<=v-x:=by
 intro n;induction n with
 |zero=>
  intro l h h1 h2 h3;have:l=h:=by omega
  unfold qbs;exact⟨by omega,by omega,h3,fun x _ _=>by omega⟩
 |succ n ih=>
  intro l h h1 h2 h3;unfold qbs;by_cases hl:l<h
  . rw[if_pos hl];generalize hm:h-(h-l)/2=m;have m1:l<m:=by omega
    have m2:m<=h:=by omega
    by_cases hp:qloss J m<=v-m
    . rw[if_pos hp];have:=ih (l:=m) (h:=h) (by omega) m2 hp;exact⟨by omega,this.2⟩
    . rw[if_neg hp];have g:=ih (l:=l) (h:=m-1) (by omega) (by omega) h3;refine⟨g.1,by omega,g.2.2.1,fun x hx hxh=> ?_⟩;by_cases hxm:x<=m-1
      . exact g.2.2.2 x hx hxm
      . intro hc;have:=qloss_m hJ (b:=m) (c:=x) (by omega);omega
  . rw[if_neg hl];exact⟨by omega,by omega,h3,fun x _ _=>by omega⟩
theorem qbs_fuel{J v:Int}:∀(n k:Nat){l h:Int},h-l<=n->h-l<=k->qbs J v n l h=qbs J v k l h:=by
 intro n;induction n with
 |zero=>
  intro k l h h1 _;cases k with
  |zero=>rfl
  |succ k=>unfold qbs;rw[if_neg (by omega)]
 |succ n ih=>
  intro k l h h1 h2;cases k with
  |zero=>unfold qbs;rw[if_neg (by omega)]
  |succ k=>
   unfold qbs;by_cases hl:l<h
   . rw[if_pos hl,if_pos hl,ih k (by omega) (by omega),ih k (by omega) (by omega)]
   . rw[if_neg hl,if_neg hl]
theorem qready_iff{A J v a:Int}:qready A J v a=true↔(-A<=a/\a<=A/\(v=0->a<=J)/\qloss J (-a)<=v/\v<=16777216-qloss J a):=by
 unfold qready;rw[decide_eq_true_iff]
theorem qbrk_spec{A J v a:Int}(hA:1<=A)(hJ:1<=J)(h:qready A J v a=true):(-a-J<= -qbrk A J v a/\ -qbrk A J v a<=J-a/\ -qbrk A J v a<=A)/\qloss J (-qbrk A J v a)<=v+qbrk A J v a/\∀x,-qbrk A J v a<x->x<=J-a->x<=A->¬qloss J x<=v-x:=by
 obtain⟨h1,h2,h3,h4,h5⟩:=qready_iff.mp h;have n1:=qloss_nn hJ (-a);have p:qloss J (-a-J)<=v-(-a-J):=by
  by_cases hb:J< -a
  . rw[qloss_rec hJ hb]at h4;omega
  . rw[qloss_le hJ (by omega)];omega
 have g:=qbs_spec (v:=v) hJ (qhi A J a-(-a-J)).toNat (l:= -a-J) (h:=qhi A J a) (by omega) (by unfold qhi;omega) p;unfold qbrk;generalize hr:qbs J v (qhi A J a-(-a-J)).toNat (-a-J) (qhi A J a)=r at g⊢;unfold qhi at g;rw[Int.neg_neg];exact⟨⟨by omega,by omega,by omega⟩,by have:=g.2.2.1;omega,fun x x1 x2 x3=>g.2.2.2 x x1 (by omega)⟩
theorem qbrk_ready{A J v a:Int}(hA:1<=A)(hJ:1<=J)(h:qready A J v a=true):qready A J (v+qbrk A J v a) (qbrk A J v a)=true:=by
 obtain⟨⟨s1,s2,s3⟩,s4,s5⟩:=qbrk_spec hA hJ h;obtain⟨h1,h2,h3,h4,h5⟩:=qready_iff.mp h;have nn:=qloss_nn hJ (-qbrk A J v a);have na:=qloss_nn hJ (-a);have nb:=qloss_nn hJ a;have nc:=qloss_nn hJ (qbrk A J v a);generalize qbrk A J v a=c at*;have key:c<=0∨(J<a/\c<=a-J):=by
  by_cases ha:J<a
  . refine .inr ⟨ha,?_⟩;apply Classical.byContradiction;intro hc;exact s5 (J-a) (by omega) (by omega) (by omega) (by rw[qloss_le hJ (by omega)];omega)
  . left;apply Classical.byContradiction;intro hc;exact s5 0 (by omega) (by omega) (by omega) (by rw[qloss_le hJ (by omega)];omega)
 refine qready_iff.mpr ⟨by omega,?_,?_,s4,?_⟩
 . omega
 . intro hv;omega
 . rcases key with k|⟨k1,k2⟩
   . rw[qloss_le (b:=c) hJ (by omega)];omega
   . rw[qloss_rec hJ k1]at h5;have:=qloss_m hJ k2;omega
theorem qbrk_rest{A J a:Int}(hA:1<=A)(hJ:1<=J)(h:qready A J 0 a=true):qbrk A J 0 a=0:=by
 obtain⟨⟨s1,s2,s3⟩,s4,s5⟩:=qbrk_spec hA hJ h;obtain⟨h1,h2,h3,h4,h5⟩:=qready_iff.mp h;have nn:=qloss_nn hJ (-qbrk A J 0 a);have h3:=h3 rfl;have ha: -a<=J:=by
  apply Classical.byContradiction;intro hc;rw[qloss_rec hJ (by omega)]at h4;have:=qloss_nn hJ (-a-J);omega
 apply Classical.byContradiction;intro hc;exact s5 0 (by omega) (by omega) (by omega) (by rw[qloss_le hJ (by omega)];omega)
theorem qready_v{A J v a:Int}(hJ:1<=J)(h:qready A J v a=true):0<=v/\v<=16777216:=by
 obtain⟨h1,h2,h3,h4,h5⟩:=qready_iff.mp h;have n1:=qloss_nn hJ (-a);have n2:=qloss_nn hJ a;omega
theorem qst_fuel{A J:Int}:∀(n:Nat){v a:Int},qsok A J n v a=true->qsok A J (n+1) v a=true/\qst A J (n+1) v a=qst A J n v a:=by
 intro n;induction n with
 |zero=>
  intro v a h;have h:v<=0:=by simpa[qsok]using h
  unfold qsok qst;rw[if_neg (by omega),if_neg (by omega)];exact⟨rfl,rfl⟩
 |succ n ih=>
  intro v a h;unfold qsok at h;by_cases hv:0<v
  . rw[if_pos hv]at h;have g:=ih h;unfold qsok;rw[if_pos hv];refine⟨g.1,?_⟩;rw[show qst A J (n+1+1) v a=if 0<v then[v+qbrk A J v a]::qst A J (n+1) (v+qbrk A J v a) (qbrk A J v a)else[]from rfl,if_pos hv,g.2];rw[show qst A J (n+1) v a=if 0<v then[v+qbrk A J v a]::qst A J n (v+qbrk A J v a) (qbrk A J v a)else[]from rfl,if_pos hv]
  . rw[show qsok A J (n+1+1) v a=if 0<v then _ else true from rfl,if_neg hv];rw[show qst A J (n+1+1) v a=if 0<v then _ else[]from rfl,if_neg hv];rw[show qst A J (n+1) v a=if 0<v then _ else[]from rfl,if_neg hv];exact⟨rfl,rfl⟩
theorem qst_tail{A J v a:Int}{n:Nat}(hv:0<v)(h:qsok A J n v a=true):qsok A J n (v+qbrk A J v a) (qbrk A J v a)=true/\qst A J n v a=[v+qbrk A J v a]::qst A J n (v+qbrk A J v a) (qbrk A J v a):=by
 cases n with
 |zero=>simp[qsok]at h;omega
 |succ n=>
  unfold qsok at h;rw[if_pos hv]at h;have g:=qst_fuel n h;refine⟨g.1,?_⟩;rw[g.2,show qst A J (n+1) v a=if 0<v then[v+qbrk A J v a]::qst A J n (v+qbrk A J v a) (qbrk A J v a)else[]from rfl,if_pos hv]
theorem qst_nil{A J v a:Int}{n:Nat}(hv:¬0<v):qst A J n v a=[]/\qsok A J n v a=true:=by
 cases n with
 |zero=>exact⟨rfl,by simp[qsok];omega⟩
 |succ n=>unfold qst qsok;rw[if_neg hv,if_neg hv];exact⟨rfl,rfl⟩
theorem qst_len{A J:Int}:∀(n:Nat)(v a:Int),(qst A J n v a).length<=n:=by
 intro n;induction n with
 |zero=>intro v a;simp[qst]
 |succ n ih=>
  intro v a;unfold qst;split
  . rw[List.length_cons];have:=ih (v+qbrk A J v a) (qbrk A J v a);omega
  . simp
end U
