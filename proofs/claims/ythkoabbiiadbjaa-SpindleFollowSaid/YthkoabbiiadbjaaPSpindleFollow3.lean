/-
  Part 3.
  Conditions: none.
-/
import Derived.Test.YthkoabbiiadbjaaPSpindleFollow2
set_option maxRecDepth 100000
set_option maxHeartbeats 400000
set_option linter.unusedVariables false
set_option linter.unusedSimpArgs false
namespace U
open Go
def grw(m e:Int)(s n:Bool):Bool:=if m=0 then s&&n else if m=1 then s&& !n else decide (e>0)||(decide (e=0)&& !n)
def mdv(n c mode:Int):Int:=if mode=0 then n/c else if mode=1 then-((-n)/c)else(2*n+c)/(2*c)
end U
namespace Go.Proofs.Ythkoabbiiadbjaa
open Go Go.HL U
def SGrows(hA:List HV)(pA:List (List HC)):SR:=match hA,pA with
 |[.ce (.int .i64 m), .ce (.int .i64 e), .ce (.bool s), .ce (.bool n)],[]=> .det True ⟨.ce (.bool (grw m e s n)),false,[],[]⟩
 |_,_=> .fail
def SSigned(hA:List HV)(pA:List (List HC)):SR:=match hA,pA with
 |[.ce (.int .u64 n), .ce (.bool neg)],[]=> .det (0<=n/\n<=9223372036854775807) ⟨.tup [.ce (.int .i64 (if neg then-n else n)), .ce (.bool true)],false,[],[]⟩
 |_,_=> .fail
def SMulDiv(hA:List HV)(pA:List (List HC)):SR:=match hA,pA with
 |[.ce (.int .i64 a), .ce (.int .i64 b), .ce (.int .i64 c), .ce (.int .i64 m)],[]=> .det ((-9223372036854775808<=a/\a<=9223372036854775807)/\(-9223372036854775808<=b/\b<=9223372036854775807)/\(0<c/\c<=9223372036854775807)/\(-4611686018427387904<=a*b/\a*b<=4611686018427387904)/\(0<=m/\m<=2)) ⟨.tup [.ce (.int .i64 (mdv (a*b) c m)), .ce (.bool true)],false,[],[]⟩
 |_,_=> .fail
def tabMulDiv:List (FuncId×HL.Spec):=[(30,SKnown),(31,SProduct),(32,SSize),(33,SDiv64),(34,SSign),(35,SGrows),(36,SSigned)]
noncomputable def CMulDiv:Ctx:=⟨Try.prog,gam tabMulDiv,83,[],[]⟩
theorem vcMulDiv(a b c m:Int)(Q:Res->Prop):(nfun true CMulDiv Try.f24 (bodyOf Try.f24) [.ce (.int .i64 a), .ce (.int .i64 b), .ce (.int .i64 c), .ce (.int .i64 m)] [] Q)=(((c==0)=true->Q ⟨.tup [.ce (.int .i64 0), .ce (.bool false)],false,[],[]⟩)/\((c==0)=false->True/\∀(x1:Bool),x1=decide (0<=m/\m<=2)->((!x1)=true->Q ⟨.tup [.ce (.int .i64 0), .ce (.bool false)],false,[],[]⟩)/\((!x1)=false->(-9223372036854775808<=a/\a<=9223372036854775807)/\∀(x2:Int),x2=(((Int.natAbs a):Nat):Int)->(-9223372036854775808<=b/\b<=9223372036854775807)/\∀(x3:Int),x3=(((Int.natAbs b):Nat):Int)->(0<=x2/\x2<18446744073709551616/\0<=x3/\x3<18446744073709551616)/\∀(x4:Int),x4=x2*x3/18446744073709551616->∀(x5:Int),x5=x2*x3%18446744073709551616->(-9223372036854775808<=c/\c<=9223372036854775807)/\∀(x6:Int),x6=(((Int.natAbs c):Nat):Int)->(decide (x4>=x6)=true->Q ⟨.tup [.ce (.int .i64 0), .ce (.bool false)],false,[],[]⟩)/\(decide (x4>=x6)=false->(x4=0/\0<=x5/\x5<18446744073709551616/\0<x6/\x6<18446744073709551616)/\∀(x7:Int),x7=x5/x6->∀(x8:Int),x8=x5%x6->True/\∀(x9:Int),x9=Int.sign a*Int.sign b->((!decide (x9<0)==decide (c<0))=true->True/\∀(x10:Int),x10=Int.sign a*Int.sign b->∀(x11:Int),x11=(x6-x8)%18446744073709551616->(decide (x8>x11)=true->True/\∀(x12:Bool),x12=grw m (1:Int) (decide (x8>0)) (x10 !=0)->(x12=true->∀(x13:Int),x13=(x7+1)%18446744073709551616->((x13==0)=true->Q ⟨.tup [.ce (.int .i64 0), .ce (.bool false)],false,[],[]⟩)/\((x13==0)=false->(0<=x13/\x13<=9223372036854775807)/\∀(x14:Int),(x14=if(x10 !=0)=true then-x13 else x13)->∀(x15:Bool),x15=true->Q ⟨.tup [.ce (.int .i64 x14), .ce (.bool x15)],false,[],[]⟩))/\(x12=false->(0<=x7/\x7<=9223372036854775807)/\∀(x16:Int),(x16=if(x10 !=0)=true then-x7 else x7)->∀(x17:Bool),x17=true->Q ⟨.tup [.ce (.int .i64 x16), .ce (.bool x17)],false,[],[]⟩))/\(decide (x8>x11)=false->∀(x18:Int),x18=(x6-x8)%18446744073709551616->(decide (x8<x18)=true->True/\∀(x19:Bool),x19=grw m (-1:Int) (decide (x8>0)) (x10 !=0)->(x19=true->∀(x20:Int),x20=(x7+1)%18446744073709551616->((x20==0)=true->Q ⟨.tup [.ce (.int .i64 0), .ce (.bool false)],false,[],[]⟩)/\((x20==0)=false->(0<=x20/\x20<=9223372036854775807)/\∀(x21:Int),(x21=if(x10 !=0)=true then-x20 else x20)->∀(x22:Bool),x22=true->Q ⟨.tup [.ce (.int .i64 x21), .ce (.bool x22)],false,[],[]⟩))/\(x19=false->(0<=x7/\x7<=9223372036854775807)/\∀(x23:Int),(x23=if(x10 !=0)=true then-x7 else x7)->∀(x24:Bool),x24=true->Q ⟨.tup [.ce (.int .i64 x23), .ce (.bool x24)],false,[],[]⟩))/\(decide (x8<x18)=false->True/\∀(x25:Bool),x25=grw m (0:Int) (decide (x8>0)) (x10 !=0)->(x25=true->∀(x26:Int),x26=(x7+1)%18446744073709551616->((x26==0)=true->Q ⟨.tup [.ce (.int .i64 0), .ce (.bool false)],false,[],[]⟩)/\((x26==0)=false->(0<=x26/\x26<=9223372036854775807)/\∀(x27:Int),(x27=if(x10 !=0)=true then-x26 else x26)->∀(x28:Bool),x28=true->Q ⟨.tup [.ce (.int .i64 x27), .ce (.bool x28)],false,[],[]⟩))/\(x25=false->(0<=x7/\x7<=9223372036854775807)/\∀(x29:Int),(x29=if(x10 !=0)=true then-x7 else x7)->∀(x30:Bool),x30=true->Q ⟨.tup [.ce (.int .i64 x29), .ce (.bool x30)],false,[],[]⟩))))/\((!decide (x9<0)==decide (c<0))=false->∀(x31:Int),x31=(x6-x8)%18446744073709551616->(decide (x8>x31)=true->True/\∀(x32:Bool),x32=grw m (1:Int) (decide (x8>0)) false->(x32=true->∀(x33:Int),x33=(x7+1)%18446744073709551616->((x33==0)=true->Q ⟨.tup [.ce (.int .i64 0), .ce (.bool false)],false,[],[]⟩)/\((x33==0)=false->(0<=x33/\x33<=9223372036854775807)/\∀(x34:Int),(x34=if false=true then-x33 else x33)->∀(x35:Bool),x35=true->Q ⟨.tup [.ce (.int .i64 x34), .ce (.bool x35)],false,[],[]⟩))/\(x32=false->(0<=x7/\x7<=9223372036854775807)/\∀(x36:Int),(x36=if false=true then-x7 else x7)->∀(x37:Bool),x37=true->Q ⟨.tup [.ce (.int .i64 x36), .ce (.bool x37)],false,[],[]⟩))/\(decide (x8>x31)=false->∀(x38:Int),x38=(x6-x8)%18446744073709551616->(decide (x8<x38)=true->True/\∀(x39:Bool),x39=grw m (-1:Int) (decide (x8>0)) false->(x39=true->∀(x40:Int),x40=(x7+1)%18446744073709551616->((x40==0)=true->Q ⟨.tup [.ce (.int .i64 0), .ce (.bool false)],false,[],[]⟩)/\((x40==0)=false->(0<=x40/\x40<=9223372036854775807)/\∀(x41:Int),(x41=if false=true then-x40 else x40)->∀(x42:Bool),x42=true->Q ⟨.tup [.ce (.int .i64 x41), .ce (.bool x42)],false,[],[]⟩))/\(x39=false->(0<=x7/\x7<=9223372036854775807)/\∀(x43:Int),(x43=if false=true then-x7 else x7)->∀(x44:Bool),x44=true->Q ⟨.tup [.ce (.int .i64 x43), .ce (.bool x44)],false,[],[]⟩))/\(decide (x8<x38)=false->True/\∀(x45:Bool),x45=grw m (0:Int) (decide (x8>0)) false->(x45=true->∀(x46:Int),x46=(x7+1)%18446744073709551616->((x46==0)=true->Q ⟨.tup [.ce (.int .i64 0), .ce (.bool false)],false,[],[]⟩)/\((x46==0)=false->(0<=x46/\x46<=9223372036854775807)/\∀(x47:Int),(x47=if false=true then-x46 else x46)->∀(x48:Bool),x48=true->Q ⟨.tup [.ce (.int .i64 x47), .ce (.bool x48)],false,[],[]⟩))/\(x45=false->(0<=x7/\x7<=9223372036854775807)/\∀(x49:Int),(x49=if false=true then-x7 else x7)->∀(x50:Bool),x50=true->Q ⟨.tup [.ce (.int .i64 x49), .ce (.bool x50)],false,[],[]⟩)))))))):=by kernel_rfl
end Go.Proofs.Ythkoabbiiadbjaa
namespace U
open Go
theorem ediv_of{x d k:Int}(hd:0<d)(h1:d*k<=x)(h2:x<d*k+d):x/d=k:=by
 have a1:k<=x/d:=Int.le_ediv_of_mul_le hd (by rw[Int.mul_comm];exact h1);have a2:x/d<k+1:=Int.ediv_lt_of_lt_mul hd (by rw[Int.add_mul,Int.one_mul,Int.mul_comm];exact h2);omega
theorem mdv_eq{n c m q r e:Int}{neg:Bool}(hc:0<c)(hm:0<=m/\m<=2)(hr:0<=r/\r<c)(hn:(if neg then-n else n)=c*q+r)(h0:neg=true->0<c*q+r)(he1:0<e↔c<2*r)(he0:e=0↔2*r=c):mdv n c m=if neg then-(if grw m e (decide (r>0)) neg then q+1 else q)else(if grw m e (decide (r>0)) neg then q+1 else q):=by
 have hm':m=0∨m=1∨m=2:=by omega
 unfold mdv grw;cases neg with
 |false=>
  simp only[Bool.false_eq_true,if_false]at hn;subst hn;have g:∀k,c*(q+k)=c*q+c*k:=fun k=>Int.mul_add c q k;rcases hm' with rfl|rfl|rfl
  . simp;exact ediv_of hc (by omega) (by omega)
  . simp;by_cases h:0<r
    . simp[h];have:=g 1;rw[ediv_of (k:= -(q+1)) hc (by rw[Int.mul_neg];omega) (by rw[Int.mul_neg];omega)];omega
    . simp[h];rw[ediv_of (k:= -q) hc (by rw[Int.mul_neg];omega) (by rw[Int.mul_neg];omega)];omega
  . simp;by_cases h:c<=2*r
    . have:0<e∨e=0:=by omega
      simp[this];have:=g 1;exact ediv_of (by omega) (by rw[Int.mul_assoc];omega) (by rw[Int.mul_assoc];omega)
    . have:¬(0<e∨e=0):=by omega
      simp[this];exact ediv_of (by omega) (by rw[Int.mul_assoc];omega) (by rw[Int.mul_assoc];omega)
 |true=>
  simp only[if_true]at hn;obtain rfl:n= -(c*q+r):=by omega
  have g:∀k,c*(q+k)=c*q+c*k:=fun k=>Int.mul_add c q k;rcases hm' with rfl|rfl|rfl
  . simp;by_cases h:0<r
    . simp[h];have:=g 1;exact ediv_of hc (by rw[Int.mul_neg];omega) (by rw[Int.mul_neg];omega)
    . simp[h];exact ediv_of hc (by rw[Int.mul_neg];omega) (by rw[Int.mul_neg];omega)
  . simp;rw[ediv_of (k:=q) hc (by omega) (by omega)]
  . simp;by_cases h:c<2*r
    . have:0<e:=by omega
      simp[this];have:=g 1;exact ediv_of (by omega) (by rw[Int.mul_assoc];simp only[Int.mul_neg];omega) (by rw[Int.mul_assoc];simp only[Int.mul_neg];omega)
    . have:¬0<e:=by omega
      simp[this];exact ediv_of (by omega) (by rw[Int.mul_assoc];simp only[Int.mul_neg];omega) (by rw[Int.mul_assoc];simp only[Int.mul_neg];omega)
end U
namespace Go.Proofs.Ythkoabbiiadbjaa
open Go Go.HL U
theorem sGrows:Sound Try.prog 35 SGrows:=by
 refine sound_of (C:=CGrows) [] Try.func35 (by kernel_rfl) (by decide+kernel) (by kernel_rfl) rfl trivial (loops0 (by kernel_rfl)) ?_;intro hA pA R h;unfold SGrows at h;split at h
 . rename_i m e s n;have hq:=h.2;unfold grw at hq;refine byVC (vcGrows m e s n R) ⟨fun e1=> ?_,fun e1=>⟨fun e2=> ?_,fun e2=>⟨fun e3=> ?_,fun e3=>⟨fun e4=> ?_,fun e4=> ?_⟩⟩⟩⟩
   . have:m=0:=by simpa using e1
     subst this;exact⟨fun k=>by subst k;simpa using hq,fun k=>by subst k;simpa using hq⟩
   . have:m=1:=by simpa using e2
     subst this;exact⟨fun k=>by subst k;simpa using hq,fun k=>by subst k;simpa using hq⟩
   . have h0:m≠0:=by simpa using e1
     have h1:m≠1:=by simpa using e2
     have h3:=of_decide_eq_true e3;simpa[h0,h1,h3]using hq
   . have h0:m≠0:=by simpa using e1
     have h1:m≠1:=by simpa using e2
     have h4:e=0:=by simpa using e4
     subst h4;simpa[h0,h1]using hq
   . have h0:m≠0:=by simpa using e1
     have h1:m≠1:=by simpa using e2
     have h3:=of_decide_eq_false e3;have h4:e≠0:=by simpa using e4
     simpa[h0,h1,h3,h4]using hq
 . exact h.elim
theorem sSigned:Sound Try.prog 36 SSigned:=by
 refine sound_of (C:=CSigned) [] Try.func36 (by kernel_rfl) (by decide+kernel) (by kernel_rfl) rfl trivial (loops0 (by kernel_rfl)) ?_;intro hA pA R h;unfold SSigned at h;split at h
 . rename_i n neg;obtain⟨⟨h1,h2⟩,hq⟩:=h;refine byVC (vcSigned n neg R) ⟨fun e=> ?_,fun e=> ?_⟩
   . subst e;refine⟨fun _ x1 e1 x2 e2=> ?_,fun e=>absurd (of_decide_eq_false e) (by omega)⟩;have:x2= -n:=by
      rw[e2,e1];simp[IntKind.wrap,IntKind.signed,IntKind.bits];split<;>omega
     rw[this];exact hq
   . subst e;refine⟨fun _=>⟨fun _ x1 e1=> ?_,fun e=>absurd (of_decide_eq_false e) (by omega)⟩,fun e=>(nomatch e)⟩;have hw:=U.wrap_small (x:=n) (by omega) (by omega);rw[e1,hw];exact hq
 . exact h.elim
theorem sMulDiv:Sound Try.prog 24 SMulDiv:=by
 refine sound_of (C:=CMulDiv) tabMulDiv Try.func24 (by kernel_rfl) (by decide+kernel) (by kernel_rfl) rfl ⟨sKnown,sProduct,sSize,sDiv64,sSign,sGrows,sSigned,trivial⟩ (loops0 (by kernel_rfl)) ?_;intro hA pA R h;unfold SMulDiv at h;split at h
 . rename_i a b c m;obtain⟨⟨ha,hb,hc,hab,hm⟩,hq⟩:=h;have hprod:((a.natAbs:Int))*(b.natAbs:Int)=((a*b).natAbs:Int):=by rw[Int.natAbs_mul];rfl
   have hsg:a.sign*b.sign=(a*b).sign:=(Int.sign_mul a b).symm;refine byVC (vcMulDiv a b c m R) ?_;generalize a*b=n at*;refine⟨fun e=>absurd e (by simp;omega),fun _=>⟨trivial,fun x1 e1=>⟨fun e=>absurd e (by rw[e1];simp;omega),fun _=>⟨ha,fun x2 e2=>⟨hb,fun x3 e3=>⟨by omega,?_⟩⟩⟩⟩⟩⟩;rw[e2,e3,hprod];intro x4 e4 x5 e5;refine⟨by omega,fun x6 e6=>⟨fun e=>absurd (of_decide_eq_true e) (by omega),fun _=>⟨by omega,fun x7 e7 x8 e8=>⟨trivial,fun x9 e9=> ?_⟩⟩⟩⟩;have hx6:x6=c:=by omega
   subst hx6;have r0:=Int.emod_nonneg x5 (show x6≠0 by omega);have r1:=Int.emod_lt_of_pos x5 (show 0<x6 by omega);have d1:=Int.mul_ediv_add_emod x5 x6;have d2:0<=x5/x6:=Int.ediv_nonneg (by omega) (by omega);have d3:x5/x6<=x5:=Int.ediv_le_self _ (by omega);rw[<-e7]at d1 d2 d3;rw[<-e8]at d1 r0 r1;rw[hsg]at e9;have hc0:decide (x6<0)=false:=decide_eq_false (by omega);rw[hc0];have fin:∀(e:Int)(neg:Bool)(q v:Int)(w:Bool),(neg=true->n<0)->(neg=false->0<=n)->(0<e↔x6<2*x8)->(e=0↔2*x8=x6)->q=(if grw m e (decide (x8>0)) neg then x7+1 else x7)->v=(if neg=true then-q else q)->w=true->R ⟨.tup [.ce (.int .i64 v), .ce (.bool w)],false,[],[]⟩:=by
    intro e neg q v w n1 n0 g1 g0 hqq hv hw;subst hw;have:=mdv_eq (n:=n) (c:=x6) (m:=m) (q:=x7) (r:=x8) (e:=e) (neg:=neg) (by omega) hm ⟨r0,r1⟩ (by
     cases neg with
     |false=>have:=n0 rfl;simp;omega
     |true=>have:=n1 rfl;simp;omega) (fun k=>by have:=n1 k;omega) g1 g0;rw[hv,hqq];rw[this]at hq;exact hq
   have leaf:∀(e:Int)(neg y:Bool),y=grw m e (decide (x8>0)) neg->(neg=true->n<0)->(neg=false->0<=n)->(0<e↔x6<2*x8)->(e=0↔2*x8=x6)->(y=true->∀q1:Int,q1=(x7+1)%18446744073709551616->((q1==0)=true->R ⟨.tup [.ce (.int .i64 0), .ce (.bool false)],false,[],[]⟩)/\((q1==0)=false->(0<=q1/\q1<=9223372036854775807)/\∀v:Int,v=(if neg=true then-q1 else q1)->∀w:Bool,w=true->R ⟨.tup [.ce (.int .i64 v), .ce (.bool w)],false,[],[]⟩))/\(y=false->(0<=x7/\x7<=9223372036854775807)/\∀v:Int,v=(if neg=true then-x7 else x7)->∀w:Bool,w=true->R ⟨.tup [.ce (.int .i64 v), .ce (.bool w)],false,[],[]⟩):=by
    intro e neg y hy n1 n0 g1 g0;refine⟨fun u q1 eq1=> ?_,fun u=>⟨by omega,fun v hv w hw=>fin e neg x7 v w n1 n0 g1 g0 (by rw[<-hy,u];rfl) hv hw⟩⟩;have hq1:q1=x7+1:=by omega
    exact⟨fun z=>absurd z (by simp;omega),fun _=>⟨by omega,fun v hv w hw=>fin e neg q1 v w n1 n0 g1 g0 (by rw[<-hy,u,hq1];rfl) hv hw⟩⟩
   clear fin hq d1 e7 hprod;refine⟨fun en=>⟨trivial,fun x10 e10=> ?_⟩,fun en=> ?_⟩
   . rw[hsg]at e10;have hn:n<0:=by
      rcases Int.lt_trichotomy n 0 with h|h|h
      . exact h
      . subst h;simp[e9]at en
      . rw[Int.sign_eq_one_of_pos h]at e9;subst e9;simp at en
     rw[Int.sign_eq_neg_one_of_neg hn]at e10;subst e10;intro x11 e11;have s1:x11=x6-x8:=by omega
     refine⟨fun k=>⟨trivial,?_⟩,fun k x18 e18=>⟨fun k2=>⟨trivial,?_⟩,fun k2=>⟨trivial,?_⟩⟩⟩
     . have k:=of_decide_eq_true k;exact fun y ey=>leaf 1 true y ey (fun _=>hn) (fun z=>nomatch z) (by omega) (by omega)
     . have k:=of_decide_eq_false k;have k2:=of_decide_eq_true k2;exact fun y ey=>leaf (-1) true y ey (fun _=>hn) (fun z=>nomatch z) (by omega) (by omega)
     . have k:=of_decide_eq_false k;have k2:=of_decide_eq_false k2;exact fun y ey=>leaf 0 true y ey (fun _=>hn) (fun z=>nomatch z) (by omega) (by omega)
   . have hn:0<=n:=by
      rcases Int.lt_trichotomy n 0 with h|h|h
      . rw[Int.sign_eq_neg_one_of_neg h]at e9;subst e9;simp at en
      . omega
      . omega
     intro x31 e31;have s1:x31=x6-x8:=by omega
     refine⟨fun k=>⟨trivial,?_⟩,fun k x38 e38=>⟨fun k2=>⟨trivial,?_⟩,fun k2=>⟨trivial,?_⟩⟩⟩
     . have k:=of_decide_eq_true k;exact fun y ey=>leaf 1 false y ey (fun z=>nomatch z) (fun _=>hn) (by omega) (by omega)
     . have k:=of_decide_eq_false k;have k2:=of_decide_eq_true k2;exact fun y ey=>leaf (-1) false y ey (fun z=>nomatch z) (fun _=>hn) (by omega) (by omega)
     . have k:=of_decide_eq_false k;have k2:=of_decide_eq_false k2;exact fun y ey=>leaf 0 false y ey (fun z=>nomatch z) (fun _=>hn) (by omega) (by omega)
 . exact h.elim
def SMod(hA:List HV)(pA:List (List HC)):SR:=match hA,pA with
 |[.ce (.int .i64 a), .ce (.int .i64 b)],[]=> .det (0<b/\b<=4611686018427387904) ⟨.ce (.int .i64 (a%b)),false,[],[]⟩
 |_,_=> .fail
noncomputable def CMod:Ctx:=⟨Try.prog,gam [],12,[],[]⟩
theorem vcMod(a b:Int)(Q:Res->Prop):(nfun true CMod Try.f9 (bodyOf Try.f9) [.ce (.int .i64 a), .ce (.int .i64 b)] [] Q)=(b≠0/\∀(x1:Int),x1=Int.tmod a b->(-9223372036854775808<=x1+b/\x1+b<=9223372036854775807)/\∀(x2:Int),x2=x1+b->b≠0/\∀(x3:Int),x3=Int.tmod x2 b->Q ⟨.ce (.int .i64 x3),false,[],[]⟩):=by kernel_rfl
theorem sMod:Sound Try.prog 9 SMod:=by
 refine sound_of (C:=CMod) [] Try.func9 (by kernel_rfl) (by decide+kernel) (by kernel_rfl) rfl trivial (loops0 (by kernel_rfl)) ?_;intro hA pA R h;unfold SMod at h;split at h
 . rename_i a b;refine byVC (vcMod a b R) ?_;obtain⟨⟨h1,h2⟩,hq⟩:=h;have:=tmod_lt (a:=a) h1;refine⟨by omega,fun x1 e1=>⟨by omega,fun x2 e2=>⟨by omega,fun x3 e3=> ?_⟩⟩⟩;subst e1 e2;rw[mod_eq h1]at e3;subst e3;exact hq
 . exact h.elim
end Go.Proofs.Ythkoabbiiadbjaa
namespace U
open Go
def rate(s:Int):Int:=(2*(s*1048576)+60000)/120000
def idx(p d:Int):Int:=if d= -1 then p/1048576*1048576 else-((-p)/1048576)*1048576
def dirOf(n:Int):Int:=if n=3 then 1 else if n=4 then-1 else 0
end U
namespace Go.Proofs.Ythkoabbiiadbjaa
open Go Go.HL U
def SFloor(hA:List HV)(pA:List (List HC)):SR:=match hA,pA with
 |[.ce (.int .i64 a), .ce (.int .i64 b)],[]=> .det ((-9223372036854775807<=a/\a<=9223372036854775807)/\0<b) ⟨.ce (.int .i64 (a/b)),false,[],[]⟩
 |_,_=> .fail
noncomputable def CFloor:Ctx:=⟨Try.prog,gam [],16,[],[]⟩
theorem vcFloor(a b:Int)(Q:Res->Prop):(nfun true CFloor Try.f25 (bodyOf Try.f25) [.ce (.int .i64 a), .ce (.int .i64 b)] [] Q)=(b≠0/\(-9223372036854775808<=Int.tdiv a b/\Int.tdiv a b<=9223372036854775807)/\∀(x1:Int),x1=Int.tdiv a b->b≠0/\∀(x2:Int),x2=Int.tmod a b->(decide (x2<0)=true->(-9223372036854775808<=x1-1/\x1-1<=9223372036854775807)/\∀(x3:Int),x3=x1-1->Q ⟨.ce (.int .i64 x3),false,[],[]⟩)/\(decide (x2<0)=false->Q ⟨.ce (.int .i64 x1),false,[],[]⟩)):=by kernel_rfl
theorem vcFloor2(a b:Int)(Q:Res->Prop):(nfun true CFloor Try.f26 (bodyOf Try.f26) [.ce (.int .i64 a), .ce (.int .i64 b)] [] Q)=(b≠0/\(-9223372036854775808<=Int.tdiv a b/\Int.tdiv a b<=9223372036854775807)/\∀(x1:Int),x1=Int.tdiv a b->b≠0/\∀(x2:Int),x2=Int.tmod a b->(decide (x2<0)=true->(-9223372036854775808<=x1-1/\x1-1<=9223372036854775807)/\∀(x3:Int),x3=x1-1->Q ⟨.ce (.int .i64 x3),false,[],[]⟩)/\(decide (x2<0)=false->Q ⟨.ce (.int .i64 x1),false,[],[]⟩)):=by kernel_rfl
def SRate(hA:List HV)(pA:List (List HC)):SR:=match hA,pA with
 |[.ce (.int .i64 a)],[]=> .det (0<=a/\a<=1000000) ⟨.ce (.int .i64 (rate a)),false,[],[]⟩
 |_,_=> .fail
def tabS1:List (FuncId×HL.Spec):=[(24,SMulDiv),(25,SFloor),(26,SFloor)]
noncomputable def CRate:Ctx:=⟨Try.prog,gam tabS1,11,[],[]⟩
noncomputable def CRate2:Ctx:=⟨Try.prog,gam tabS1,9,[],[]⟩
theorem vcRate(a:Int)(Q:Res->Prop):(nfun true CRate Try.f10 (bodyOf Try.f10) [.ce (.int .i64 a)] [] Q)=(((-9223372036854775808<=a/\a<=9223372036854775807)/\(-9223372036854775808<=1048576/\(1048576:Int)<=9223372036854775807)/\((0:Int)<60000/\(60000:Int)<=9223372036854775807)/\(-4611686018427387904<=a*1048576/\a*1048576<=4611686018427387904)/\(0:Int)<=2/\(2:Int)<=2)/\∀(x1:Int),x1=mdv (a*1048576) (60000:Int) (2:Int)->∀(x2:Bool),x2=true->Q ⟨.ce (.int .i64 x1),false,[],[]⟩):=by kernel_rfl
theorem vcRate2(a:Int)(Q:Res->Prop):(nfun true CRate2 Try.f11 (bodyOf Try.f11) [.ce (.int .i64 a)] [] Q)=((-9223372036854775808<=2*a/\2*a<=9223372036854775807)/\∀(x1:Int),x1=2*a->(-9223372036854775808<=x1*4096/\x1*4096<=9223372036854775807)/\∀(x2:Int),x2=x1*4096->(-9223372036854775808<=x2*256/\x2*256<=9223372036854775807)/\∀(x3:Int),x3=x2*256->(-9223372036854775808<=x3+60000/\x3+60000<=9223372036854775807)/\∀(x4:Int),x4=x3+60000->((-9223372036854775807<=x4/\x4<=9223372036854775807)/\(0:Int)<120000)/\∀(x5:Int),x5=x4/120000->Q ⟨.ce (.int .i64 x5),false,[],[]⟩):=by kernel_rfl
def SIndex(hA:List HV)(pA:List (List HC)):SR:=match hA,pA with
 |[.ce (.int .i64 p), .ce (.int .i64 d)],[]=> .det (-1125899906842624<=p/\p<=1125899906842624) ⟨.ce (.int .i64 (idx p d)),false,[],[]⟩
 |_,_=> .fail
noncomputable def CIndex:Ctx:=⟨Try.prog,gam tabS1,15,[],[]⟩
theorem vcIndex(p d:Int)(Q:Res->Prop):(nfun true CIndex Try.f12 (bodyOf Try.f12) [.ce (.int .i64 p), .ce (.int .i64 d)] [] Q)=(((d==(-1:Int))=true->((-9223372036854775807<=p/\p<=9223372036854775807)/\(0:Int)<1048576)/\∀(x1:Int),x1=p/1048576->(-9223372036854775808<=x1*1048576/\x1*1048576<=9223372036854775807)/\∀(x2:Int),x2=x1*1048576->Q ⟨.ce (.int .i64 x2),false,[],[]⟩)/\((d==(-1:Int))=false->(-9223372036854775808<=0-p/\0-p<=9223372036854775807)/\∀(x3:Int),x3=0-p->((-9223372036854775807<=x3/\x3<=9223372036854775807)/\(0:Int)<1048576)/\∀(x4:Int),x4=x3/1048576->(-9223372036854775808<=0-x4/\0-x4<=9223372036854775807)/\∀(x5:Int),x5=0-x4->(-9223372036854775808<=x5*1048576/\x5*1048576<=9223372036854775807)/\∀(x6:Int),x6=x5*1048576->Q ⟨.ce (.int .i64 x6),false,[],[]⟩)):=by kernel_rfl
def SFollow(hA:List HV)(pA:List (List HC)):SR:=match hA,pA with
 |[.ce (.int .i64 l), .ce (.int .i64 w)],[]=> .det ((0<=l/\l<=1048576)/\0<=w/\w<=1099511627776) ⟨.ce (.int .i64 (l*w/4096)),false,[],[]⟩
 |_,_=> .fail
noncomputable def CFollow:Ctx:=⟨Try.prog,gam tabS1,14,[],[]⟩
theorem vcFollow(l w:Int)(Q:Res->Prop):(nfun true CFollow Try.f13 (bodyOf Try.f13) [.ce (.int .i64 l), .ce (.int .i64 w)] [] Q)=(((-9223372036854775808<=l/\l<=9223372036854775807)/\(-9223372036854775808<=w/\w<=9223372036854775807)/\((0:Int)<4096/\(4096:Int)<=9223372036854775807)/\(-4611686018427387904<=l*w/\l*w<=4611686018427387904)/\(0:Int)<=0/\(0:Int)<=2)/\∀(x1:Int),x1=mdv (l*w) (4096:Int) (0:Int)->∀(x2:Bool),x2=true->Q ⟨.ce (.int .i64 x1),false,[],[]⟩):=by kernel_rfl
def SAngle(hA:List HV)(pA:List (List HC)):SR:=match hA,pA with
 |[.ce (.int .i64 l), .ce (.int .i64 w)],[]=> .det ((0<l/\l<=9223372036854775807)/\0<=w/\w<=1099511627776) ⟨.ce (.int .i64 (4096*w/l)),false,[],[]⟩
 |_,_=> .fail
theorem vcAngle(l w:Int)(Q:Res->Prop):(nfun true CFollow Try.f14 (bodyOf Try.f14) [.ce (.int .i64 l), .ce (.int .i64 w)] [] Q)=(((-9223372036854775808<=4096/\(4096:Int)<=9223372036854775807)/\(-9223372036854775808<=w/\w<=9223372036854775807)/\(0<l/\l<=9223372036854775807)/\((-4611686018427387904:Int)<=4096*w/\4096*w<=4611686018427387904)/\(0:Int)<=0/\(0:Int)<=2)/\∀(x1:Int),x1=mdv (4096*w) l (0:Int)->∀(x2:Bool),x2=true->Q ⟨.ce (.int .i64 x1),false,[],[]⟩):=by kernel_rfl
def SDirection(hA:List HV)(pA:List (List HC)):SR:=match hA,pA with
 |[.ce (.int .i64 n)],[]=> .det True ⟨.ce (.int .i64 (dirOf n)),false,[],[]⟩
 |_,_=> .fail
noncomputable def CDirection:Ctx:=⟨Try.prog,gam [],8,[],[]⟩
theorem vcDirection(n:Int)(Q:Res->Prop):(nfun true CDirection Try.f28 (bodyOf Try.f28) [.ce (.int .i64 n)] [] Q)=(((n==3)=true->Q ⟨.ce (.int .i64 1),false,[],[]⟩)/\((n==3)=false->((n==4)=true->Q ⟨.ce (.int .i64 (-1)),false,[],[]⟩)/\((n==4)=false->Q ⟨.ce (.int .i64 0),false,[],[]⟩))):=by kernel_rfl
theorem vcDirection2(n:Int)(Q:Res->Prop):(nfun true CDirection Try.f29 (bodyOf Try.f29) [.ce (.int .i64 n)] [] Q)=(((n==3)=true->Q ⟨.ce (.int .i64 1),false,[],[]⟩)/\((n==3)=false->((n==4)=true->Q ⟨.ce (.int .i64 (-1)),false,[],[]⟩)/\((n==4)=false->Q ⟨.ce (.int .i64 0),false,[],[]⟩))):=by kernel_rfl
end Go.Proofs.Ythkoabbiiadbjaa
namespace U
theorem floor_of{a b:Int}(hb:0<b):(a.tmod b<0->a.tdiv b-1=a/b)/\(0<=a.tmod b->a.tdiv b=a/b):=by
 have e1:=Int.mul_ediv_add_emod a b;have e2:=Int.mul_tdiv_add_tmod a b;have m1:=Int.emod_nonneg a (show b≠0 by omega);have m2:=Int.emod_lt_of_pos a hb;have⟨t1,t2⟩:=tmod_lt (a:=a) hb;generalize a.tmod b=r at*;generalize a.tdiv b=q at*;generalize a%b=s at*;generalize a/b=k at*;have e3:b*(k-q)=r-s:=by rw[Int.mul_sub];omega
 refine⟨fun h=> ?_,fun h=> ?_⟩
 . have:k-q= -1:=by
    have h1:k-q<0:=by
     refine Int.not_le.1 fun hh=> ?_;have:=Int.mul_nonneg (Int.le_of_lt hb) hh;omega
    have h2: -2<k-q:=by
     refine Int.not_le.1 fun hh=> ?_;have:=Int.mul_le_mul_of_nonneg_left hh (Int.le_of_lt hb);omega
    omega
   omega
 . have:k-q=0:=by
    have h1:k-q<1:=by
     refine Int.not_le.1 fun hh=> ?_;have:=Int.mul_le_mul_of_nonneg_left hh (Int.le_of_lt hb);omega
    have h2: -1<k-q:=by
     refine Int.not_le.1 fun hh=> ?_;have:=Int.mul_le_mul_of_nonneg_left hh (Int.le_of_lt hb);omega
    omega
   omega
theorem ediv_bd{a b:Int}(hb:0<b):(0<=a->0<=a/b/\a/b<=a)/\(a<0->a<=a/b/\a/b<0):=by
 refine⟨fun h=>⟨Int.ediv_nonneg h (by omega),Int.ediv_le_self _ h⟩,fun h=>⟨?_,Int.ediv_neg_of_neg_of_pos h hb⟩⟩;exact Int.le_ediv_of_mul_le hb (by
  have:=Int.mul_nonneg (show 0<= -a by omega) (show 0<=b-1 by omega);rw[Int.mul_sub,Int.mul_one,Int.neg_mul]at this;omega)
end U
namespace Go.Proofs.Ythkoabbiiadbjaa
open Go Go.HL U
theorem floor_fin{a b:Int}{R:Res->Prop}(hr: -9223372036854775807<=a/\a<=9223372036854775807)(hb:0<b)(hq:R ⟨.ce (.int .i64 (a/b)),false,[],[]⟩):b≠0/\(-9223372036854775808<=Int.tdiv a b/\Int.tdiv a b<=9223372036854775807)/\∀x1:Int,x1=Int.tdiv a b->b≠0/\∀x2:Int,x2=Int.tmod a b->(decide (x2<0)=true->(-9223372036854775808<=x1-1/\x1-1<=9223372036854775807)/\∀x3:Int,x3=x1-1->R ⟨.ce (.int .i64 x3),false,[],[]⟩)/\(decide (x2<0)=false->R ⟨.ce (.int .i64 x1),false,[],[]⟩):=by
 have⟨f1,f2⟩:=floor_of (a:=a) hb;have⟨g1,g2⟩:=ediv_bd (a:=a) hb;have hq1:a.tmod b<0∨0<=a.tmod b:=by omega
 have hh: -9223372036854775807<=a/b/\a/b<=9223372036854775807:=by
  by_cases ha:0<=a
  . have:=g1 ha;omega
  . have:=g2 (by omega);omega
 have ht:a.tdiv b=a/b∨a.tdiv b=a/b+1:=by omega
 have hpos:a<0->a/b<0:=fun h=>(g2 h).2;have hneg:a.tmod b<0->a<0:=fun h=>by
  refine Int.not_le.1 fun hh=> ?_;have:=Int.tmod_nonneg b hh;omega
 refine⟨by omega,by omega,fun x1 e1=>⟨by omega,fun x2 e2=>⟨fun k=> ?_,fun k=> ?_⟩⟩⟩
 . have k:=of_decide_eq_true k;refine⟨by omega,fun x3 e3=> ?_⟩;rw[show x3=a/b by omega];exact hq
 . have k:=of_decide_eq_false k;rw[show x1=a/b by omega];exact hq
theorem sFloor:Sound Try.prog 25 SFloor:=by
 refine sound_of (C:=CFloor) [] Try.func25 (by kernel_rfl) (by decide+kernel) (by kernel_rfl) rfl trivial (loops0 (by kernel_rfl)) ?_;intro hA pA R h;unfold SFloor at h;split at h;case h_2=>exfalso;exact h
 rename_i a b;exact byVC (vcFloor a b R) (floor_fin h.1.1 h.1.2 h.2)
theorem sFloor2:Sound Try.prog 26 SFloor:=by
 refine sound_of (C:=CFloor) [] Try.func26 (by kernel_rfl) (by decide+kernel) (by kernel_rfl) rfl trivial (loops0 (by kernel_rfl)) ?_;intro hA pA R h;unfold SFloor at h;split at h;case h_2=>exfalso;exact h
 rename_i a b;exact byVC (vcFloor2 a b R) (floor_fin h.1.1 h.1.2 h.2)
theorem sRate:Sound Try.prog 10 SRate:=by
 refine sound_of (C:=CRate) tabS1 Try.func10 (by kernel_rfl) (by decide+kernel) (by kernel_rfl) rfl ⟨sMulDiv,sFloor,sFloor2,trivial⟩ (loops0 (by kernel_rfl)) ?_;intro hA pA R h;unfold SRate at h;split at h;case h_2=>exfalso;exact h
 rename_i a;obtain⟨h1,hq⟩:=h;refine byVC (vcRate a R) ⟨by omega,fun x1 e1 x2 _=> ?_⟩;have:x1=rate a:=by rw[e1];unfold mdv rate;simp
 rw[this];exact hq
theorem sRate2:Sound Try.prog 11 SRate:=by
 refine sound_of (C:=CRate2) tabS1 Try.func11 (by kernel_rfl) (by decide+kernel) (by kernel_rfl) rfl ⟨sMulDiv,sFloor,sFloor2,trivial⟩ (loops0 (by kernel_rfl)) ?_;intro hA pA R h;unfold SRate at h;split at h;case h_2=>exfalso;exact h
 rename_i a;obtain⟨h1,hq⟩:=h;refine byVC (vcRate2 a R) ⟨by omega,fun x1 e1=>⟨by omega,fun x2 e2=>⟨by omega,fun x3 e3=>⟨by omega,fun x4 e4=>⟨by omega,fun x5 e5=> ?_⟩⟩⟩⟩⟩;have:x5=rate a:=by unfold rate;omega
 rw[this];exact hq
theorem sIndex:Sound Try.prog 12 SIndex:=by
 refine sound_of (C:=CIndex) tabS1 Try.func12 (by kernel_rfl) (by decide+kernel) (by kernel_rfl) rfl ⟨sMulDiv,sFloor,sFloor2,trivial⟩ (loops0 (by kernel_rfl)) ?_;intro hA pA R h;unfold SIndex at h;split at h;case h_2=>exfalso;exact h
 rename_i p d;obtain⟨h1,hq⟩:=h;unfold idx at hq;refine byVC (vcIndex p d R) ⟨fun e=> ?_,fun e=> ?_⟩
 . have:d= -1:=by simpa using e
   rw[if_pos this]at hq;refine⟨by omega,fun x1 e1=>⟨by omega,fun x2 e2=> ?_⟩⟩;rw[e2,e1];exact hq
 . have:d≠ -1:=by simpa using e
   rw[if_neg this]at hq;refine⟨by omega,fun x3 e3=>⟨by omega,fun x4 e4=>⟨by omega,fun x5 e5=>⟨by omega,fun x6 e6=> ?_⟩⟩⟩⟩;rw[show x6= -((-p)/1048576)*1048576 by omega];exact hq
theorem sFollow:Sound Try.prog 13 SFollow:=by
 refine sound_of (C:=CFollow) tabS1 Try.func13 (by kernel_rfl) (by decide+kernel) (by kernel_rfl) rfl ⟨sMulDiv,sFloor,sFloor2,trivial⟩ (loops0 (by kernel_rfl)) ?_;intro hA pA R h;unfold SFollow at h;split at h;case h_2=>exfalso;exact h
 rename_i l w;obtain⟨⟨h1,h2⟩,hq⟩:=h;have hb:=mul_bd (a:=l) (b:=w) (A:=1048576) (B:=1099511627776) (by omega) (by omega) (by omega) (by omega);refine byVC (vcFollow l w R) ⟨by omega,fun x1 e1 x2 _=> ?_⟩;have:x1=l*w/4096:=by rw[e1];rfl
 rw[this];exact hq
theorem sAngle:Sound Try.prog 14 SAngle:=by
 refine sound_of (C:=CFollow) tabS1 Try.func14 (by kernel_rfl) (by decide+kernel) (by kernel_rfl) rfl ⟨sMulDiv,sFloor,sFloor2,trivial⟩ (loops0 (by kernel_rfl)) ?_;intro hA pA R h;unfold SAngle at h;split at h;case h_2=>exfalso;exact h
 rename_i l w;obtain⟨⟨h1,h2⟩,hq⟩:=h;refine byVC (vcAngle l w R) ⟨by omega,fun x1 e1 x2 _=> ?_⟩;have:x1=4096*w/l:=by rw[e1];rfl
 rw[this];exact hq
theorem sDirection:Sound Try.prog 28 SDirection:=by
 refine sound_of (C:=CDirection) [] Try.func28 (by kernel_rfl) (by decide+kernel) (by kernel_rfl) rfl trivial (loops0 (by kernel_rfl)) ?_;intro hA pA R h;unfold SDirection at h;split at h;case h_2=>exfalso;exact h
 rename_i n;have hq:=h.2;unfold dirOf at hq;refine byVC (vcDirection n R) ⟨fun e=> ?_,fun e=>⟨fun e2=> ?_,fun e2=> ?_⟩⟩
 . have:n=3:=by simpa using e
   rw[if_pos this]at hq;exact hq
 . have h3:n≠3:=by simpa using e
   have h4:n=4:=by simpa using e2
   rw[if_neg h3,if_pos h4]at hq;exact hq
 . have h3:n≠3:=by simpa using e
   have h4:n≠4:=by simpa using e2
   rw[if_neg h3,if_neg h4]at hq;exact hq
theorem sDirection2:Sound Try.prog 29 SDirection:=by
 refine sound_of (C:=CDirection) [] Try.func29 (by kernel_rfl) (by decide+kernel) (by kernel_rfl) rfl trivial (loops0 (by kernel_rfl)) ?_;intro hA pA R h;unfold SDirection at h;split at h;case h_2=>exfalso;exact h
 rename_i n;have hq:=h.2;unfold dirOf at hq;refine byVC (vcDirection2 n R) ⟨fun e=> ?_,fun e=>⟨fun e2=> ?_,fun e2=> ?_⟩⟩
 . have:n=3:=by simpa using e
   rw[if_pos this]at hq;exact hq
 . have h3:n≠3:=by simpa using e
   have h4:n=4:=by simpa using e2
   rw[if_neg h3,if_pos h4]at hq;exact hq
 . have h3:n≠3:=by simpa using e
   have h4:n≠4:=by simpa using e2
   rw[if_neg h3,if_neg h4]at hq;exact hq
def tabS2:List (FuncId×HL.Spec):=[(9,SMod),(10,SRate),(11,SRate),(12,SIndex),(13,SFollow),(14,SAngle),(28,SDirection),(29,SDirection)]
def SAwake(hA:List HV)(pA:List (List HC)):SR:=match hA,pA with
 |[],[]=> .det True ⟨.ce (.bool true),false,[],[]⟩
 |_,_=> .fail
noncomputable def CAwake:Ctx:=⟨Try.prog,gam tabS2,Try.f8.ntmps,[],[]⟩
theorem vcAwake(Q:Res->Prop):(nfun true CAwake Try.f8 (bodyOf Try.f8) [] [] Q)=(((0:Int)<=60/\(60:Int)<=1000000)/\∀(x1:Int),x1=1049->((x1==1049)=true->((-1125899906842624:Int)<=1/\(1:Int)<=1125899906842624)/\∀(x2:Int),x2=1048576->((x2==1048576)=true->(((0:Int)<=16/\(16:Int)<=1048576)/\(0:Int)<=1048576/\(1048576:Int)<=1099511627776)/\∀(x3:Int),x3=4096->((x3==4096)=true->(((0:Int)<16/\(16:Int)<=9223372036854775807)/\(0:Int)<=8/\(8:Int)<=1099511627776)/\∀(x4:Int),x4=2048->Q ⟨.ce (.bool (x4==2048)),false,[],[]⟩)/\((x3==4096)=false->Q ⟨.ce (.bool false),false,[],[]⟩))/\((x2==1048576)=false->Q ⟨.ce (.bool false),false,[],[]⟩))/\((x1==1049)=false->Q ⟨.ce (.bool false),false,[],[]⟩)):=by kernel_rfl
theorem sAwake:Sound Try.prog 8 SAwake:=by
 refine sound_of (C:=CAwake) tabS2 Try.func8 (by kernel_rfl) (by decide+kernel) (by kernel_rfl) rfl ⟨sMod,sRate,sRate2,sIndex,sFollow,sAngle,sDirection,sDirection2,trivial⟩ (loops0 (by kernel_rfl)) ?_;intro hA pA R h;unfold SAwake at h;split at h;case h_2=>exfalso;exact h
 have hq:=h.2;refine byVC (vcAwake R) ?_;repeat'(first|(intro _)|(apply And.intro))
 all_goals first
  |omega
  |(subst_vars;exact hq)
  |(subst_vars;contradiction)
end Go.Proofs.Ythkoabbiiadbjaa
namespace U
open Go
def lim(n:Nat):List (List Int):=if n=0 then[]else[((n%65536:Nat):Int)]::lim (n/65536)
termination_by n
decreasing_by omega
def dv:List (List Int)->Nat
 |[]=>0
 |r::l=>(r.getD 0 0).toNat+65536*dv l
def dg(l:List (List Int)):Prop:=∀r∈l,∃d:Int,r=[d]/\0<=d/\d<65536
def cmp3(x y:Nat):Int:=if x<y then-1 else if x=y then 0 else 1
end U
namespace Go.Proofs.Ythkoabbiiadbjaa
open Go Go.HL U
def SLimbs(hA:List HV)(pA:List (List HC)):SR:=match hA,pA with
 |[.ce (.int .u64 n)],[]=> .det (0<=n/\n<18446744073709551616) ⟨.ce (.sl false [8] (lim n.toNat)),true,[],[]⟩
 |_,_=> .fail
def anLimbs:LAnn:=⟨[0,3,100003],[3,100003],[],false⟩
def LLimbs(v:LV):LR:=match v with
 |([.ce (.int .u64 n), .ce (.sl false [8] acc), .ce (.lit true)],[])=> .det (acc.length=0/\0<=n/\n<18446744073709551616) (.exit 0) ([.ce (.sl false [8] (lim n.toNat)), .ce (.lit true)],[])
 |_=> .fail
noncomputable def CLimbs:Ctx:=⟨Try.prog,gam [],Try.f39.ntmps,[(2,anLimbs,LLimbs)],[]⟩
theorem vcLimbs(n:Int)(Q:Res->Prop):(nfun true CLimbs Try.f39 (bodyOf Try.f39) [.ce (.int .u64 n)] [] Q)=(((0:Nat)=0/\0<=n/\n<18446744073709551616)/\Q ⟨.ce (.sl false [8] (lim n.toNat)),true,[],[]⟩):=by kernel_rfl
theorem vbLimbs(n:Int)(acc:List (List Int))(K:HEx->LV->Prop):(nbodyT true CLimbs anLimbs (nthLoop Try.f39 0) (([.ce (.int .u64 n), .ce (.sl false [8] acc), .ce (.lit true)],[])) K)=((decide (n>0)=true->(0<=n/\n<=18446744073709551615/\(65535:Int)<=18446744073709551615)/\∀(x1:Int),x1=n%65536->((acc.length+1)*8<=140737488355328/\acc.length+1<=maxLen)/\(0:Int)<=16/\∀(x2:Int),x2=n/65536->K .normal ([.ce (.int .u64 x2), .ce (.sl false [8] (acc++[[x1]])), .ce (.lit true)],[]))/\(decide (n>0)=false->K (.exit 0) ([.ce (.sl false [8] acc), .ce (.lit true)],[]))):=by kernel_rfl
def SCut(hA:List HV)(pA:List (List HC)):SR:=match hA,pA with
 |[.ce (.sl false [8] l)],[]=> .det (dg l/\l.length<=1000) ⟨.ce (.sl false [8] (lim (dv l))),false,[],[]⟩
 |_,_=> .fail
def anCut:LAnn:=⟨[0],[0],[],false⟩
def LCut(v:LV):LR:=match v with
 |([.ce (.sl false [8] l)],[])=> .det (dg l/\l.length<=1000) (.exit 0) ([.ce (.sl false [8] (lim (dv l)))],[])
 |_=> .fail
noncomputable def CCut:Ctx:=⟨Try.prog,gam [],Try.f48.ntmps,[(1,anCut,LCut)],[]⟩
theorem vcCut(l:List (List Int))(Q:Res->Prop):(nfun true CCut Try.f48 (bodyOf Try.f48) [.ce (.sl false [8] l)] [] Q)=((dg l/\l.length<=1000)/\Q ⟨.ce (.sl false [8] (lim (dv l))),false,[],[]⟩):=by kernel_rfl
theorem vbCut(l:List (List Int))(K:HEx->LV->Prop):(nbodyT true CCut anCut (nthLoop Try.f48 0) (([.ce (.sl false [8] l)],[])) K)=((decide ((l.length:Int)>0)=true->(-9223372036854775808<=(l.length:Int)-1/\(l.length:Int)-1<=9223372036854775807)/\∀(x1:Int),x1=(l.length:Int)-1->(0<=x1/\x1<(l.length:Int))/\∀(x2:Int),x2=el l x1.toNat->((x2==0)=true->(-9223372036854775808<=(l.length:Int)-1/\(l.length:Int)-1<=9223372036854775807)/\∀(x3:Int),x3=(l.length:Int)-1->(0<=x3/\x3<=(l.length:Int))/\K .normal ([.ce (.sl false [8] (List.take x3.toNat l))],[]))/\((x2==0)=false->K (.exit 0) ([.ce (.sl false [8] l)],[])))/\(decide ((l.length:Int)>0)=false->K (.exit 0) ([.ce (.sl false [8] l)],[]))):=by kernel_rfl
def SMag(hA:List HV)(pA:List (List HC)):SR:=match hA,pA with
 |[.ce (.int .i64 x)],[]=> .det (-9223372036854775808<=x/\x<=9223372036854775807) ⟨.ce (.int .u64 (x.natAbs:Int)),false,[],[]⟩
 |_,_=> .fail
noncomputable def CMag:Ctx:=⟨Try.prog,gam [],Try.f40.ntmps,[],[]⟩
theorem vcMag(x:Int)(Q:Res->Prop):(nfun true CMag Try.f40 (bodyOf Try.f40) [.ce (.int .i64 x)] [] Q)=((decide (x<0)=true->(-9223372036854775808<=x+1/\x+1<=9223372036854775807)/\∀(x1:Int),x1=x+1->(-9223372036854775808<=0-x1/\0-x1<=9223372036854775807)/\∀(x2:Int),x2=0-x1->∀(x3:Int),x3=x2%18446744073709551616->∀(x4:Int),x4=(x3+1)%18446744073709551616->Q ⟨.ce (.int .u64 x4),false,[],[]⟩)/\(decide (x<0)=false->∀(x5:Int),x5=x%18446744073709551616->Q ⟨.ce (.int .u64 x5),false,[],[]⟩)):=by kernel_rfl
def SRight(hA:List HV)(pA:List (List HC)):SR:=match hA,pA with
 |[.ce (.int .i64 x)],[]=> .det True ⟨.ce (.bool (decide (0<=x/\x<=2))),false,[],[]⟩
 |_,_=> .fail
noncomputable def CRight:Ctx:=⟨Try.prog,gam [],Try.f37.ntmps,[],[]⟩
theorem vcRight(x:Int)(Q:Res->Prop):(nfun true CRight Try.f37 (bodyOf Try.f37) [.ce (.int .i64 x)] [] Q)=(((x==0)=true->Q ⟨.ce (.bool true),false,[],[]⟩)/\((x==0)=false->((x==1)=true->Q ⟨.ce (.bool true),false,[],[]⟩)/\((x==1)=false->Q ⟨.ce (.bool (x==2)),false,[],[]⟩))):=by kernel_rfl
def SSgn(hA:List HV)(pA:List (List HC)):SR:=match hA,pA with
 |[.ce (.int .i64 x), .ce (.int .i64 y)],[]=> .det True ⟨.ce (.int .i64 (x.sign*y.sign)),false,[],[]⟩
 |_,_=> .fail
noncomputable def CSgn:Ctx:=⟨Try.prog,gam [],Try.f45.ntmps,[],[]⟩
theorem vcSgn(x y:Int)(Q:Res->Prop):(nfun true CSgn Try.f45 (bodyOf Try.f45) [.ce (.int .i64 x), .ce (.int .i64 y)] [] Q)=(((x==0)=true->Q ⟨.ce (.int .i64 0),false,[],[]⟩)/\((x==0)=false->((y==0)=true->Q ⟨.ce (.int .i64 0),false,[],[]⟩)/\((y==0)=false->((decide (x<0)==decide (y<0))=true->Q ⟨.ce (.int .i64 1),false,[],[]⟩)/\((decide (x<0)==decide (y<0))=false->Q ⟨.ce (.int .i64 (-1)),false,[],[]⟩)))):=by kernel_rfl
def SCmp(hA:List HV)(pA:List (List HC)):SR:=match hA,pA with
 |[.ce (.sl false [8] a), .ce (.sl false [8] b)],[]=> .det (a=lim (dv a)/\b=lim (dv b)/\a.length<=1000/\b.length<=1000) ⟨.ce (.int .i64 (cmp3 (dv a) (dv b))),false,[],[]⟩
 |_,_=> .fail
def anCmp:LAnn:=⟨[0,1,4,5],[4],[],false⟩
def LCmp(v:LV):LR:=match v with
 |([.ce (.sl false [8] a), .ce (.sl false [8] b), .ce (.int .i64 r), .ce (.int .i64 k)],[])=> .alts (dg a/\dg b/\a.length=b.length/\k=(a.length:Int)-1/\a.length<=1000) [(dv a=dv b, .exit 0,([.ce (.int .i64 r)],[])),(dv a≠dv b, .ret,([.ce (.int .i64 (cmp3 (dv a) (dv b)))],[]))]
 |_=> .fail
noncomputable def CCmp:Ctx:=⟨Try.prog,gam [],Try.f41.ntmps,[(6,anCmp,LCmp)],[]⟩
theorem vcCmp(a b:List (List Int))(Q:Res->Prop):(nfun true CCmp Try.f41 (bodyOf Try.f41) [.ce (.sl false [8] a), .ce (.sl false [8] b)] [] Q)=((((a.length:Int) !=(b.length:Int))=true->(decide ((a.length:Int)<(b.length:Int))=true->Q ⟨.ce (.int .i64 (-1)),false,[],[]⟩)/\(decide ((a.length:Int)<(b.length:Int))=false->Q ⟨.ce (.int .i64 1),false,[],[]⟩))/\(((a.length:Int) !=(b.length:Int))=false->(-9223372036854775808<=(a.length:Int)-1/\(a.length:Int)-1<=9223372036854775807)/\∀(x1:Int),x1=(a.length:Int)-1->(dg a/\dg b/\a.length=b.length/\x1=(a.length:Int)-1/\a.length<=1000)/\(dv a=dv b->Q ⟨.ce (.int .i64 0),false,[],[]⟩)/\(dv a≠dv b->Q ⟨.ce (.int .i64 (cmp3 (dv a) (dv b))),false,[],[]⟩))):=by kernel_rfl
theorem vbCmp(a b:List (List Int))(r k:Int)(K:HEx->LV->Prop):(nbodyT true CCmp anCmp (nthLoop Try.f41 0) (([.ce (.sl false [8] a), .ce (.sl false [8] b), .ce (.int .i64 r), .ce (.int .i64 k)],[])) K)=((decide (k>=0)=true->(0<=k/\k<(a.length:Int))/\∀(x1:Int),x1=el a k.toNat->(0<=k/\k<(b.length:Int))/\∀(x2:Int),x2=el b k.toNat->(decide (x1<x2)=true->K .ret ([.ce (.int .i64 (-1))],[]))/\(decide (x1<x2)=false->(0<=k/\k<(a.length:Int))/\∀(x3:Int),x3=el a k.toNat->(0<=k/\k<(b.length:Int))/\∀(x4:Int),x4=el b k.toNat->(decide (x3>x4)=true->K .ret ([.ce (.int .i64 1)],[]))/\(decide (x3>x4)=false->(-9223372036854775808<=k-1/\k-1<=9223372036854775807)/\∀(x5:Int),x5=k-1->K .normal ([.ce (.sl false [8] a), .ce (.sl false [8] b), .ce (.int .i64 r), .ce (.int .i64 x5)],[]))))/\(decide (k>=0)=false->K (.exit 0) ([.ce (.int .i64 r)],[]))):=by kernel_rfl
end Go.Proofs.Ythkoabbiiadbjaa
namespace U
open Go
theorem lim_zero:lim 0=[]:=by unfold lim;rfl
theorem lim_pos{n:Nat}(h:n≠0):lim n=[((n%65536:Nat):Int)]::lim (n/65536):=by rw[lim];rw[if_neg h]
theorem dv_lim(n:Nat):dv (lim n)=n:=by
 induction n using Nat.strongRecOn with
 |ind n ih=>
  by_cases h:n=0
  . subst h;rw[lim_zero];rfl
  . rw[lim_pos h];show(((n%65536:Nat):Int)).toNat+65536*dv (lim (n/65536))=n;rw[ih _ (by omega)];omega
theorem dg_lim(n:Nat):dg (lim n):=by
 induction n using Nat.strongRecOn with
 |ind n ih=>
  by_cases h:n=0
  . subst h;rw[lim_zero];intro r hr;cases hr
  . rw[lim_pos h];intro r hr;rcases List.mem_cons.1 hr with rfl|hr
    . exact⟨_,rfl,by omega,by omega⟩
    . exact ih _ (by omega) r hr
theorem lim_len:∀(k n:Nat),n<65536^k->(lim n).length<=k
 |0,n,h=>by
  have:n=0:=by simpa using h
  subst this;rw[lim_zero];exact Nat.le_refl _
 |k+1,n,h=>by
  by_cases h0:n=0
  . subst h0;rw[lim_zero];exact Nat.zero_le _
  . rw[lim_pos h0];have:n/65536<65536^k:=by
     rw[Nat.pow_succ]at h;exact Nat.div_lt_of_lt_mul (by rw[Nat.mul_comm];exact h)
    have:=lim_len k _ this;simpa using this
theorem lim_low(n:Nat)(h:n≠0):65536^((lim n).length-1)<=n:=by
 induction n using Nat.strongRecOn with
 |ind n ih=>
  rw[lim_pos h];by_cases h0:n/65536=0
  . rw[h0,lim_zero];simp;omega
  . have:=ih _ (by omega) h0;rw[List.length_cons,Nat.add_sub_cancel];have hl:(lim (n/65536)).length=((lim (n/65536)).length-1)+1:=by
     rw[lim_pos h0];simp
    rw[hl,Nat.pow_succ];omega
theorem dv_append(a b:List (List Int)):dv (a++b)=dv a+65536^a.length*dv b:=by
 induction a with
 |nil=>simp[dv]
 |cons r a ih=>
  show(r.getD 0 0).toNat+65536*dv (a++b)=(r.getD 0 0).toNat+65536*dv a+65536^(a.length+1)*dv b;rw[ih,Nat.pow_succ];grind
theorem dg_cons{r:List Int}{l:List (List Int)}(h:dg (r::l)):(∃d:Int,r=[d]/\0<=d/\d<65536)/\dg l:=⟨h r (by simp),fun x hx=>h x (List.mem_cons_of_mem _ hx)⟩
theorem dg_append{a b:List (List Int)}(ha:dg a)(hb:dg b):dg (a++b):=fun r hr=>by
 rcases List.mem_append.1 hr with h|h
 . exact ha r h
 . exact hb r h
theorem dg_one{d:Int}(h0:0<=d)(h1:d<65536):dg [[d]]:=fun r hr=>by simp at hr;exact⟨d,hr,h0,h1⟩
theorem dg_take{l:List (List Int)}(h:dg l)(k:Nat):dg (l.take k):=fun r hr=>h r (List.mem_of_mem_take hr)
theorem dv_lt{l:List (List Int)}(h:dg l):dv l<65536^l.length:=by
 induction l with
 |nil=>simp[dv]
 |cons r l ih=>
  obtain⟨⟨d,rfl,h0,h1⟩,hl⟩:=dg_cons h;have:=ih hl;show(([d]:List Int).getD 0 0).toNat+65536*dv l<65536^(l.length+1);have e:(([d]:List Int).getD 0 0)=d:=rfl;rw[e,Nat.pow_succ];omega
theorem el_dg{l:List (List Int)}(h:dg l){j:Nat}(hj:j<l.length):0<=el l j/\el l j<65536/\l.getD j []=[el l j]:=by
 obtain⟨d,hd,h0,h1⟩:=h (l[j]) (List.getElem_mem hj);have e:l.getD j []=[d]:=by simp[List.getD_eq_getElem?_getD,hj,hd]
 have e2:el l j=d:=by unfold el;rw[e];rfl
 rw[e2];exact⟨h0,h1,e⟩
theorem dv_drop{l:List (List Int)}{j:Nat}(hj:j<l.length):dv (l.drop j)=(el l j).toNat+65536*dv (l.drop (j+1)):=by
 rw[List.drop_eq_getElem_cons hj];have:el l j=(l[j]).getD 0 0:=by unfold el;simp[List.getD_eq_getElem?_getD,hj]
 rw[this];rfl
theorem dv_split(l:List (List Int)){j:Nat}(hj:j<=l.length):dv l=dv (l.take j)+65536^j*dv (l.drop j):=by
 have h:=dv_append (l.take j) (l.drop j);rw[List.take_append_drop]at h;rw[h,List.length_take,Nat.min_eq_left hj]
theorem dv_take_succ{l:List (List Int)}{j:Nat}(hj:j<l.length):dv (l.take (j+1))=dv (l.take j)+65536^j*(el l j).toNat:=by
 have h1:=dv_split l (Nat.le_of_lt hj);have h2:=dv_split l (show j+1<=l.length from hj);rw[dv_drop hj]at h1;rw[Nat.pow_succ]at h2;have:65536^j*((el l j).toNat+65536*dv (l.drop (j+1)))=65536^j*(el l j).toNat+65536^j*65536*dv (l.drop (j+1)):=by grind
 omega
theorem lim_of{l:List (List Int)}(h:dg l):(l=[]∨el l (l.length-1)≠0)->lim (dv l)=l:=by
 induction l with
 |nil=>intro _;exact lim_zero
 |cons r l ih=>
  intro h0;obtain⟨⟨d,rfl,h1,h2⟩,hl⟩:=dg_cons h;have h0':el ([d]::l) l.length≠0:=by
   rcases h0 with h0|h0
   . cases h0
   . simpa using h0
  have hv:dv ([d]::l)=d.toNat+65536*dv l:=rfl;by_cases hn:l=[]
  . subst hn;have hd:d≠0:=h0';rw[hv];show lim (d.toNat+65536*0)=_;rw[lim_pos (by omega)];have e1:(d.toNat+65536*0)/65536=0:=by omega
    have e2:(((d.toNat+65536*0)%65536:Nat):Int)=d:=by omega
    rw[e1,e2,lim_zero]
  . have hlp:0<l.length:=List.length_pos_iff.2 hn;have hlast:el l (l.length-1)≠0:=by
     have:el ([d]::l) l.length=el l (l.length-1):=by
      unfold el;rw[show l.length=(l.length-1)+1 by omega];rfl
     rwa[this]at h0'
    have ih':=ih hl (.inr hlast);have hpos:dv l≠0:=fun e=>by rw[e,lim_zero]at ih';exact hn ih'.symm
    rw[hv,lim_pos (by omega)];have e1:(d.toNat+65536*dv l)/65536=dv l:=by omega
    have e2:(((d.toNat+65536*dv l)%65536:Nat):Int)=d:=by omega
    rw[e1,e2,ih']
theorem lim_dv_lim(n:Nat):lim (dv (lim n))=lim n:=by rw[dv_lim]
theorem dv_cut{l:List (List Int)}(hp:0<l.length)(h:el l (l.length-1)=0):dv (l.take (l.length-1))=dv l:=by
 have h1:=dv_take_succ (l:=l) (j:=l.length-1) (by omega);rw[show l.length-1+1=l.length by omega,List.take_length,h]at h1;rw[h1];simp
theorem dv_low{a b:List (List Int)}(ha:dg a)(hb:dg b)(hl:a.length=b.length){j:Nat}(hj:j<a.length)(hd:dv (a.drop (j+1))=dv (b.drop (j+1)))(hlt:el a j<el b j):dv a<dv b:=by
 have h1:=dv_split a (Nat.le_of_lt hj);have h2:=dv_split b (show j<=b.length by omega);rw[dv_drop hj]at h1;rw[dv_drop (show j<b.length by omega)]at h2;have h3:=dv_lt (dg_take ha j);rw[List.length_take,Nat.min_eq_left (Nat.le_of_lt hj)]at h3;have h4:=el_dg ha hj;have h5:=el_dg hb (show j<b.length by omega);rw[<-hd]at h2;generalize dv (a.drop (j+1))=D at*;have h6:(el a j).toNat+1<=(el b j).toNat:=by omega
 have h7:65536^j*((el a j).toNat+65536*D)+65536^j<=65536^j*((el b j).toNat+65536*D):=by
  have:65536^j*((el a j).toNat+1+65536*D)<=65536^j*((el b j).toNat+65536*D):=Nat.mul_le_mul_left _ (by omega);have e:65536^j*((el a j).toNat+1+65536*D)=65536^j*((el a j).toNat+65536*D)+65536^j:=by grind
  omega
 omega
theorem cmp_len{x y:Nat}(h:(lim x).length<(lim y).length):x<y:=by
 have hy:y≠0:=fun e=>by subst e;rw[lim_zero]at h;exact absurd h (Nat.not_lt_zero _)
 have h1:=lim_low y hy;have h2:=dv_lt (dg_lim x);rw[dv_lim]at h2;have h3:65536^(lim x).length<=65536^((lim y).length-1):=Nat.pow_le_pow_right (by omega) (by omega);omega
end U
namespace Go.Proofs.Ythkoabbiiadbjaa
open Go Go.HL U
theorem loopLimbs:∀v Q,(LLimbs v).wp Q->hloop CLimbs anLimbs (nthLoop Try.f39 0) v Q:=by
 intro v Q h;unfold LLimbs at h;split at h;case h_2=>exact h.elim
 rename_i n acc;obtain⟨⟨h1,h2,h3⟩,hq⟩:=h;obtain rfl:acc=[]:=List.eq_nil_of_length_eq_zero h1;refine hloop_rec (σ:=Nat×List (List Int)) (fun s=>([.ce (.int .u64 (s.1:Int)), .ce (.sl false [8] s.2), .ce (.lit true)],[])) (fun s=>s.1) (fun s=>s.2++lim s.1=lim n.toNat/\s.1<18446744073709551616) ?_ (n.toNat,[]) ⟨by simp,by omega⟩|>(fun x=>by rwa[show((n.toNat:Nat):Int)=n by omega]at x);rintro⟨m,l⟩⟨hs,hm⟩K hn he _;dsimp only at hs hm hn;refine byVB (vbLimbs m l K) ⟨fun hlt=> ?_,fun hge=> ?_⟩
 . have hlt:=of_decide_eq_true hlt;have hlen:l.length+(lim m).length<=4:=by
    rw[<-List.length_append,hs];exact lim_len 4 _ (by omega)
   refine⟨by omega,fun x1 e1=>⟨⟨by omega,by unfold maxLen;omega⟩,by omega,fun x2 e2=> ?_⟩⟩;have:=hn (m/65536,l++[[x1]]) ⟨by
    have e:x1=((m%65536:Nat):Int):=by omega
    rw[e,List.append_assoc];rw[lim_pos (by omega)]at hs;exact hs,by dsimp only;omega⟩ (by dsimp only;omega);dsimp only at this;rw[show x2=((m/65536:Nat):Int)by omega];exact this
 . have hge:=of_decide_eq_false hge;obtain rfl:m=0:=by omega
   rw[lim_zero,List.append_nil]at hs;subst hs;exact he _ _ hq
theorem sLimbs:Sound Try.prog 39 SLimbs:=by
 refine sound_of (C:=CLimbs) [] Try.func39 (by kernel_rfl) (by decide+kernel) (by kernel_rfl) rfl trivial (loops1 (by kernel_rfl) (loopOK_of (an:=anLimbs) (S:=LLimbs) (by kernel_rfl) loopLimbs)) ?_;intro hA pA R h;unfold SLimbs at h;split at h;case h_2=>exfalso;exact h
 rename_i n;have h2:=h.2;have h1:=h.1;refine byVC (vcLimbs n R) ?_;refine⟨?_,h2⟩;exact⟨rfl,h1⟩
theorem loopCut:∀v Q,(LCut v).wp Q->hloop CCut anCut (nthLoop Try.f48 0) v Q:=by
 intro v Q h;unfold LCut at h;split at h;case h_2=>exact h.elim
 rename_i l;obtain⟨⟨h1,h2⟩,hq⟩:=h;refine hloop_rec (σ:=List (List Int)) (fun s=>([.ce (.sl false [8] s)],[])) (fun s=>s.length) (fun s=>dg s/\s.length<=1000/\dv s=dv l) ?_ l ⟨h1,h2,rfl⟩;rintro s⟨hs1,hs2,hs3⟩K hn he _;have done:(s=[]∨el s (s.length-1)≠0)->K (.exit 0) ([.ce (.sl false [8] s)],[]):=fun hh=>he _ _ (by
  have:=lim_of hs1 hh;rw[hs3]at this;rw[this]at hq;exact hq);refine byVB (vbCut s K) ?_;refine⟨fun hlt=> ?_,fun hge=> ?_⟩
 . have hlt:=of_decide_eq_true hlt;refine⟨by omega,fun x1 e1=>⟨by omega,fun x2 e2=>⟨fun hz=> ?_,fun hz=> ?_⟩⟩⟩
   . refine⟨by omega,fun x3 e3=>⟨by omega,?_⟩⟩;have e4:x3.toNat=s.length-1:=by omega
     have e5:x1.toNat=s.length-1:=by omega
     have hx2:x2=0:=by simpa using hz
     have:=hn (s.take (s.length-1)) ⟨dg_take hs1 _,by rw[List.length_take];omega,by
      rw[dv_cut (by omega) (by rw[e5]at e2;unfold el;unfold el at e2;omega),hs3]⟩ (by rw[List.length_take];omega);rw[e4];exact this
   . have hx2:x2≠0:=by simpa using hz
     have e5:x1.toNat=s.length-1:=by omega
     rw[e5]at e2;exact done (.inr (by unfold el;unfold el at e2;omega))
 . have hge:=of_decide_eq_false hge;exact done (.inl (List.eq_nil_of_length_eq_zero (by omega)))
theorem sCut:Sound Try.prog 48 SCut:=by
 refine sound_of (C:=CCut) [] Try.func48 (by kernel_rfl) (by decide+kernel) (by kernel_rfl) rfl trivial (loops1 (by kernel_rfl) (loopOK_of (an:=anCut) (S:=LCut) (by kernel_rfl) loopCut)) ?_;intro hA pA R h;unfold SCut at h;split at h;case h_2=>exfalso;exact h
 rename_i l;have h2:=h.2;have h1:=h.1;refine byVC (vcCut l R) ?_;exact⟨h1,h2⟩
theorem sMag:Sound Try.prog 40 SMag:=by
 refine sound_of (C:=CMag) [] Try.func40 (by kernel_rfl) (by decide+kernel) (by kernel_rfl) rfl trivial (loops0 (by kernel_rfl)) ?_;intro hA pA R h;unfold SMag at h;split at h;case h_2=>exfalso;exact h
 rename_i x;obtain⟨⟨h1,h2⟩,hq⟩:=h;refine byVC (vcMag x R) ⟨fun e=> ?_,fun e=> ?_⟩
 . have:=of_decide_eq_true e;refine⟨by omega,fun x1 e1=>⟨by omega,fun x2 e2 x3 e3 x4 e4=> ?_⟩⟩;rw[show x4=(x.natAbs:Int)by omega];exact hq
 . have:=of_decide_eq_false e;intro x5 e5;rw[show x5=(x.natAbs:Int)by omega];exact hq
theorem sRight:Sound Try.prog 37 SRight:=by
 refine sound_of (C:=CRight) [] Try.func37 (by kernel_rfl) (by decide+kernel) (by kernel_rfl) rfl trivial (loops0 (by kernel_rfl)) ?_;intro hA pA R h;unfold SRight at h;split at h;case h_2=>exfalso;exact h
 rename_i x;have hq:=h.2;refine byVC (vcRight x R) ⟨fun e=> ?_,fun e=>⟨fun e2=> ?_,fun e2=> ?_⟩⟩
 . have:x=0:=by simpa using e
   subst this;exact hq
 . have:x=1:=by simpa using e2
   subst this;exact hq
 . have h0:x≠0:=by simpa using e
   have h1:x≠1:=by simpa using e2
   have:(x==2)=decide (0<=x/\x<=2):=by
    by_cases hx:x=2
    . subst hx;rfl
    . rw[decide_eq_false (by omega)];simpa using hx
   rw[this];exact hq
theorem sSgn:Sound Try.prog 45 SSgn:=by
 refine sound_of (C:=CSgn) [] Try.func45 (by kernel_rfl) (by decide+kernel) (by kernel_rfl) rfl trivial (loops0 (by kernel_rfl)) ?_;intro hA pA R h;unfold SSgn at h;split at h;case h_2=>exfalso;exact h
 rename_i x y;have hq:=h.2;refine byVC (vcSgn x y R) ⟨fun e=> ?_,fun e=>⟨fun e2=> ?_,fun e2=>⟨fun e3=> ?_,fun e3=> ?_⟩⟩⟩
 . have:x=0:=by simpa using e
   subst this;simpa using hq
 . have:y=0:=by simpa using e2
   subst this;simpa using hq
 . have h0:x≠0:=by simpa using e
   have h1:y≠0:=by simpa using e2
   have:x.sign*y.sign=1:=by
    rcases Int.lt_or_gt_of_ne h0 with hx|hx<;>rcases Int.lt_or_gt_of_ne h1 with hy|hy
    . rw[Int.sign_eq_neg_one_of_neg hx,Int.sign_eq_neg_one_of_neg hy];rfl
    . simp[hx,Int.not_lt.2 (Int.le_of_lt hy)]at e3
    . simp[hy,Int.not_lt.2 (Int.le_of_lt hx)]at e3
    . rw[Int.sign_eq_one_of_pos hx,Int.sign_eq_one_of_pos hy];rfl
   rw[this]at hq;exact hq
 . have h0:x≠0:=by simpa using e
   have h1:y≠0:=by simpa using e2
   have:x.sign*y.sign= -1:=by
    rcases Int.lt_or_gt_of_ne h0 with hx|hx<;>rcases Int.lt_or_gt_of_ne h1 with hy|hy
    . simp[hx,hy]at e3
    . rw[Int.sign_eq_neg_one_of_neg hx,Int.sign_eq_one_of_pos hy];rfl
    . rw[Int.sign_eq_one_of_pos hx,Int.sign_eq_neg_one_of_neg hy];rfl
    . simp[Int.not_lt.2 (Int.le_of_lt hx),Int.not_lt.2 (Int.le_of_lt hy)]at e3
   rw[this]at hq;exact hq
theorem loopCmp:∀v Q,(LCmp v).wp Q->hloop CCmp anCmp (nthLoop Try.f41 0) v Q:=by
 intro v Q h;unfold LCmp at h;split at h;case h_2=>exact h.elim
 rename_i a b r k;obtain⟨⟨h1,h2,h3,h4,h5⟩,hq1,hq2⟩:=h;subst h4;refine hloop_rec (σ:=Nat) (fun j=>([.ce (.sl false [8] a), .ce (.sl false [8] b), .ce (.int .i64 r), .ce (.int .i64 ((j:Int)-1))],[])) (fun j=>j) (fun j=>j<=a.length/\dv (a.drop j)=dv (b.drop j)) ?_ a.length ⟨Nat.le_refl _,by rw[List.drop_length,h3,List.drop_length]⟩;rintro j⟨hj,hd⟩K hn he hr;refine byVB (vbCmp a b r _ K) ⟨fun hlt=> ?_,fun hge=> ?_⟩
 . have hlt:=of_decide_eq_true hlt;have ej:((j:Int)-1).toNat=j-1:=by omega
   have hjj:j-1+1=j:=by omega
   refine⟨by omega,fun x1 e1=>⟨by omega,fun x2 e2=> ?_⟩⟩;rw[ej]at e1 e2;have e1:x1=el a (j-1):=e1;have e2:x2=el b (j-1):=e2;refine⟨fun hx=> ?_,fun hx=>⟨by omega,fun x3 e3=>⟨by omega,fun x4 e4=> ?_⟩⟩⟩
   . have hx:=of_decide_eq_true hx;have:=dv_low h1 h2 h3 (j:=j-1) (by omega) (by rw[hjj];exact hd) (by omega);refine hr _ ?_;have:=hq2 (by omega);unfold cmp3 at this;rw[if_pos (by omega)]at this;exact this
   . have hx:=of_decide_eq_false hx;rw[ej]at e3 e4;have e3:x3=el a (j-1):=e3;have e4:x4=el b (j-1):=e4;refine⟨fun hy=> ?_,fun hy=>⟨by omega,fun x5 e5=> ?_⟩⟩
     . have hy:=of_decide_eq_true hy;have:=dv_low h2 h1 h3.symm (j:=j-1) (by omega) (by rw[hjj];exact hd.symm) (by omega);refine hr _ ?_;have:=hq2 (by omega);unfold cmp3 at this;rw[if_neg (by omega),if_neg (by omega)]at this;exact this
     . have hy:=of_decide_eq_false hy;have:=hn (j-1) ⟨by omega,by
        rw[dv_drop (show j-1<a.length by omega),dv_drop (show j-1<b.length by omega),hjj,hd];have:el a (j-1)=el b (j-1):=by omega
        rw[this]⟩ (by omega);rw[show x5=((j-1:Nat):Int)-1 by omega];exact this
 . have hge:=of_decide_eq_false hge;obtain rfl:j=0:=by omega
   exact he _ _ (hq1 (by simpa using hd))
theorem sCmp:Sound Try.prog 41 SCmp:=by
 refine sound_of (C:=CCmp) [] Try.func41 (by kernel_rfl) (by decide+kernel) (by kernel_rfl) rfl trivial (loops1 (by kernel_rfl) (loopOK_of (an:=anCmp) (S:=LCmp) (by kernel_rfl) loopCmp)) ?_;intro hA pA R h;unfold SCmp at h;split at h;case h_2=>exfalso;exact h
 rename_i a b;have hq:=h.2;have h:=h.1;have ha:=h.1;have hb:=h.2.1;have hal:=h.2.2.1;have hbl:=h.2.2.2;have hla:a.length=(lim (dv a)).length:=congrArg List.length ha;have hlb:b.length=(lim (dv b)).length:=congrArg List.length hb;refine byVC (vcCmp a b R) ⟨fun hne=>⟨fun hlt=> ?_,fun hlt=> ?_⟩,fun heq=>⟨by omega,fun x1 e1=>⟨⟨by rw[ha];exact dg_lim _,by rw[hb];exact dg_lim _,by simp at heq;omega,e1,hal⟩,fun e=> ?_,fun e=>hq⟩⟩⟩
 . have hlt:=of_decide_eq_true hlt;have:=cmp_len (x:=dv a) (y:=dv b) (by omega);unfold cmp3 at hq;rw[if_pos this]at hq;exact hq
 . have hlt:=of_decide_eq_false hlt;have hne:a.length≠b.length:=by simp at hne;omega
   have:=cmp_len (x:=dv b) (y:=dv a) (by omega);unfold cmp3 at hq;rw[if_neg (by omega),if_neg (by omega)]at hq;exact hq
 . unfold cmp3 at hq;rw[if_neg (by omega),if_pos e]at hq;exact hq
def SMulL(hargs:List HV)(pars:List (List HC)):SR:=match hargs,pars with
 |[.ce (.sl false [8] a), .ce (.sl false [8] b)],[]=> .det (dg a/\dg b/\a.length<=100/\b.length<=100) ⟨.ce (.sl false [8] (lim (dv a*dv b))),false,[],[]⟩
 |_,_=> .fail
def anMulO:LAnn:=⟨[0,1,5,6],[0,1,5],[1000015],false⟩
def anMulI:LAnn:=⟨[0,1,5,6,7,8],[0,1,5,6,7],[1000015],false⟩
def zer(o:List (List Int))(n:Nat):Prop:=∀j,n<=j->j<o.length->el o j=0
def mulOK(a b o:List (List Int)):Prop:=dg a/\dg b/\dg o/\a.length<=100/\b.length<=100/\o.length=a.length+b.length
def LMulO(v:LV):LR:=match v with
 |([.ce (.sl false [8] a), .ce (.sl false [8] b), .ce (.msl 1000015 n m), .ce (.int .i64 i)],[[.arr [8] o m2]])=> .all (m2=m/\i=0/\n=o.length/\mulOK a b o/\zer o 0) (List (List Int)) (fun o'=>o'.length=o.length/\dg o'/\dv o'=dv a*dv b) (fun _=> .exit 0) (fun o'=>([.ce (.sl false [8] a), .ce (.sl false [8] b), .ce (.msl 1000015 n m)],[[.arr [8] o' m2]]))
 |_=> .fail
def LMulI(v:LV):LR:=match v with
 |([.ce (.sl false [8] a), .ce (.sl false [8] b), .ce (.msl 1000015 n m), .ce (.int .i64 i), .ce (.int .u64 c), .ce (.int .i64 k)],[[.arr [8] o m2]])=> .all (m2=m/\k=0/\c=0/\0<=i/\i<(a.length:Int)/\n=o.length/\mulOK a b o/\zer o (i.toNat+b.length)) (List (List Int)×Int) (fun x=>x.1.length=o.length/\dg x.1/\0<=x.2/\x.2<65536/\zer x.1 (i.toNat+b.length)/\dv x.1+x.2.toNat*65536^(i.toNat+b.length)=dv o+(el a i.toNat).toNat*65536^i.toNat*dv b) (fun _=> .exit 2) (fun x=>([.ce (.sl false [8] a), .ce (.sl false [8] b), .ce (.msl 1000015 n m), .ce (.int .i64 i), .ce (.int .u64 x.2)],[[.arr [8] x.1 m2]]))
 |_=> .fail
def tabMulL:List (FuncId×HL.Spec):=[(48,SCut)]
noncomputable def CMulL:Ctx:=⟨Try.prog,gam tabMulL,Try.f42.ntmps,[(3,anMulO,LMulO),(7,anMulI,LMulI)],[70]⟩
theorem vcMulL(a b:List (List Int))(Q:Res->Prop):(nfun true CMulL Try.f42 (bodyOf Try.f42) [.ce (.sl false [8] a), .ce (.sl false [8] b)] [] Q)=((-9223372036854775808<=(a.length:Int)+(b.length:Int)/\(a.length:Int)+(b.length:Int)<=9223372036854775807)/\∀(x1:Int),x1=(a.length:Int)+(b.length:Int)->(0<=x1/\x1=x1/\x1<=140737488355328/\x1*8<=140737488355328)/\(x1.toNat=x1.toNat/\(0:Int)=0/\x1.toNat=List.length (List.replicate x1.toNat [(0:Int)])/\(dg a/\dg b/\dg (List.replicate x1.toNat [(0:Int)])/\a.length<=100/\b.length<=100/\List.length (List.replicate x1.toNat [(0:Int)])=a.length+b.length)/\∀(j:Nat),(0:Nat)<=j->j<List.length (List.replicate x1.toNat [(0:Int)])->el (List.replicate x1.toNat [(0:Int)]) j=0)/\∀(x:List (List Int)),x.length=List.length (List.replicate x1.toNat [(0:Int)])/\dg x/\dv x=dv a*dv b->x1.toNat=x.length/\(dg x/\x.length<=1000)/\∀(x4:List (List Int)),x4=lim (dv x)->Q ⟨.ce (.sl false [8] x4),false,[],[]⟩):=by kernel_rfl
theorem vbMulO(a b o:List (List Int))(n m:Nat)(i:Int)(K:HEx->LV->Prop):(nbodyT true CMulL anMulO (nthLoop Try.f42 0) (([.ce (.sl false [8] a), .ce (.sl false [8] b), .ce (.msl 1000015 n m), .ce (.int .i64 i)],[[.arr [8] o m]])) K)=((decide (i<(a.length:Int))=true->(m=m/\(0:Int)=0/\(0:Int)=0/\0<=i/\i<(a.length:Int)/\n=o.length/\(dg a/\dg b/\dg o/\a.length<=100/\b.length<=100/\o.length=a.length+b.length)/\∀(j:Nat),i.toNat+b.length<=j->j<o.length->el o j=0)/\∀(x:List (List Int)×Int),List.length x.1=o.length/\dg x.1/\0<=x.2/\x.2<65536/\(∀(j:Nat),i.toNat+b.length<=j->j<List.length x.1->el x.1 j=0)/\dv x.1+x.2.toNat*65536^(i.toNat+b.length)=dv o+Int.toNat (el a i.toNat)*65536^i.toNat*dv b->(-9223372036854775808<=i+(b.length:Int)/\i+(b.length:Int)<=9223372036854775807)/\∀(x4:Int),x4=i+(b.length:Int)->(-9223372036854775808<=i+(b.length:Int)/\i+(b.length:Int)<=9223372036854775807)/\∀(x5:Int),x5=i+(b.length:Int)->(0<=x5/\x5<((n:Nat):Int))/\x5.toNat<List.length x.1/\∀(x6:Int),x6=el x.1 x5.toNat->∀(x7:Int),x7=(x6+x.2)%18446744073709551616->(0<=x4/\x4<((n:Nat):Int))/\x4.toNat<List.length x.1/\(-9223372036854775808<=i+1/\i+1<=9223372036854775807)/\∀(x8:Int),x8=i+1->K .normal ([.ce (.sl false [8] a), .ce (.sl false [8] b), .ce (.msl (1000015:Nat) n m), .ce (.int .i64 x8)],[[.arr [8] (List.set x.1 x4.toNat [bif true&&true then x7 else el x.1 x4.toNat]) m]]))/\(decide (i<(a.length:Int))=false->K (.exit 0) ([.ce (.sl false [8] a), .ce (.sl false [8] b), .ce (.msl (1000015:Nat) n m)],[[.arr [8] o m]]))):=by kernel_rfl
theorem vbMulI(a b o:List (List Int))(n m:Nat)(i c k:Int)(K:HEx->LV->Prop):(nbodyT true CMulL anMulI (nthLoop Try.f42 1) (([.ce (.sl false [8] a), .ce (.sl false [8] b), .ce (.msl 1000015 n m), .ce (.int .i64 i), .ce (.int .u64 c), .ce (.int .i64 k)],[[.arr [8] o m]])) K)=((decide (k<(b.length:Int))=true->(-9223372036854775808<=i+k/\i+k<=9223372036854775807)/\∀(x1:Int),x1=i+k->(0<=x1/\x1<((n:Nat):Int))/\x1.toNat<o.length/\∀(x2:Int),x2=el o x1.toNat->(0<=i/\i<(a.length:Int))/\∀(x3:Int),x3=el a i.toNat->(0<=k/\k<(b.length:Int))/\∀(x4:Int),x4=el b k.toNat->∀(x5:Int),x5=x3*x4%18446744073709551616->∀(x6:Int),x6=(x2+x5)%18446744073709551616->∀(x7:Int),x7=(x6+c)%18446744073709551616->(-9223372036854775808<=i+k/\i+k<=9223372036854775807)/\∀(x8:Int),x8=i+k->(0<=x7/\x7<=18446744073709551615/\(65535:Int)<=18446744073709551615)/\∀(x9:Int),x9=x7%65536->(0<=x8/\x8<((n:Nat):Int))/\x8.toNat<o.length/\(0:Int)<=16/\∀(x10:Int),x10=x7/65536->(-9223372036854775808<=k+1/\k+1<=9223372036854775807)/\∀(x11:Int),x11=k+1->K .normal ([.ce (.sl false [8] a), .ce (.sl false [8] b), .ce (.msl (1000015:Nat) n m), .ce (.int .i64 i), .ce (.int .u64 x10), .ce (.int .i64 x11)],[[.arr [8] (List.set o x8.toNat [bif true&&true then x9 else el o x8.toNat]) m]]))/\(decide (k<(b.length:Int))=false->K (.exit 2) ([.ce (.sl false [8] a), .ce (.sl false [8] b), .ce (.msl (1000015:Nat) n m), .ce (.int .i64 i), .ce (.int .u64 c)],[[.arr [8] o m]]))):=by kernel_rfl
def SAddL(hargs:List HV)(pars:List (List HC)):SR:=match hargs,pars with
 |[.ce (.sl false [8] a), .ce (.sl false [8] b)],[]=> .det (dg a/\dg b/\a.length<=100/\b.length<=100) ⟨.ce (.sl false [8] (lim (dv a+dv b))),false,[],[]⟩
 |_,_=> .fail
def anAddL:LAnn:=⟨[0,1,5,100005,6,7],[5,100005],[],false⟩
def LAddL(v:LV):LR:=match v with
 |([.ce (.sl false [8] a), .ce (.sl false [8] b), .ce (.sl false [8] o), .ce (.lit true), .ce (.int .u64 c), .ce (.int .i64 i)],[])=> .all (o.length=0/\c=0/\i=0/\dg a/\dg b/\a.length<=100/\b.length<=100) (List (List Int)) (fun o'=>dg o'/\o'.length<=200/\dv o'=dv a+dv b) (fun _=> .exit 0) (fun o'=>([.ce (.sl false [8] o'), .ce (.lit true)],[]))
 |_=> .fail
noncomputable def CAddL:Ctx:=⟨Try.prog,gam tabMulL,Try.f43.ntmps,[(4,anAddL,LAddL)],[]⟩
theorem vcAddL(a b:List (List Int))(Q:Res->Prop):(nfun true CAddL Try.f43 (bodyOf Try.f43) [.ce (.sl false [8] a), .ce (.sl false [8] b)] [] Q)=(((0:Nat)=0/\(0:Int)=0/\(0:Int)=0/\dg a/\dg b/\a.length<=100/\b.length<=100)/\∀(x:List (List Int)),dg x/\x.length<=200/\dv x=dv a+dv b->(dg x/\x.length<=1000)/\∀(x2:List (List Int)),x2=lim (dv x)->Q ⟨.ce (.sl false [8] x2),false,[],[]⟩):=by kernel_rfl
theorem vbAddL(a b o:List (List Int))(c i:Int)(K:HEx->LV->Prop):(nbodyT true CAddL anAddL (nthLoop Try.f43 0) (([.ce (.sl false [8] a), .ce (.sl false [8] b), .ce (.sl false [8] o), .ce (.lit true), .ce (.int .u64 c), .ce (.int .i64 i)],[])) K)=((decide (i<(a.length:Int))=true->(decide (i<(a.length:Int))=true->(0<=i/\i<(a.length:Int))/\∀(x1:Int),x1=el a i.toNat->∀(x2:Int),x2=(c+x1)%18446744073709551616->(decide (i<(b.length:Int))=true->(0<=i/\i<(b.length:Int))/\∀(x3:Int),x3=el b i.toNat->∀(x4:Int),x4=(x2+x3)%18446744073709551616->(0<=x4/\x4<=18446744073709551615/\(65535:Int)<=18446744073709551615)/\∀(x5:Int),x5=x4%65536->((o.length+1)*8<=140737488355328/\o.length+1<=maxLen)/\(0:Int)<=16/\∀(x6:Int),x6=x4/65536->(-9223372036854775808<=i+1/\i+1<=9223372036854775807)/\∀(x7:Int),x7=i+1->K .normal ([.ce (.sl false [8] a), .ce (.sl false [8] b), .ce (.sl false [8] (o++[[x5]])), .ce (.lit true), .ce (.int .u64 x6), .ce (.int .i64 x7)],[]))/\(decide (i<(b.length:Int))=false->(0<=x2/\x2<=18446744073709551615/\(65535:Int)<=18446744073709551615)/\∀(x8:Int),x8=x2%65536->((o.length+1)*8<=140737488355328/\o.length+1<=maxLen)/\(0:Int)<=16/\∀(x9:Int),x9=x2/65536->(-9223372036854775808<=i+1/\i+1<=9223372036854775807)/\∀(x10:Int),x10=i+1->K .normal ([.ce (.sl false [8] a), .ce (.sl false [8] b), .ce (.sl false [8] (o++[[x8]])), .ce (.lit true), .ce (.int .u64 x9), .ce (.int .i64 x10)],[])))/\(decide (i<(a.length:Int))=false->(decide (i<(b.length:Int))=true->(0<=i/\i<(b.length:Int))/\∀(x11:Int),x11=el b i.toNat->∀(x12:Int),x12=(c+x11)%18446744073709551616->(0<=x12/\x12<=18446744073709551615/\(65535:Int)<=18446744073709551615)/\∀(x13:Int),x13=x12%65536->((o.length+1)*8<=140737488355328/\o.length+1<=maxLen)/\(0:Int)<=16/\∀(x14:Int),x14=x12/65536->(-9223372036854775808<=i+1/\i+1<=9223372036854775807)/\∀(x15:Int),x15=i+1->K .normal ([.ce (.sl false [8] a), .ce (.sl false [8] b), .ce (.sl false [8] (o++[[x13]])), .ce (.lit true), .ce (.int .u64 x14), .ce (.int .i64 x15)],[]))/\(decide (i<(b.length:Int))=false->(0<=c/\c<=18446744073709551615/\(65535:Int)<=18446744073709551615)/\∀(x16:Int),x16=c%65536->((o.length+1)*8<=140737488355328/\o.length+1<=maxLen)/\(0:Int)<=16/\∀(x17:Int),x17=c/65536->(-9223372036854775808<=i+1/\i+1<=9223372036854775807)/\∀(x18:Int),x18=i+1->K .normal ([.ce (.sl false [8] a), .ce (.sl false [8] b), .ce (.sl false [8] (o++[[x16]])), .ce (.lit true), .ce (.int .u64 x17), .ce (.int .i64 x18)],[]))))/\(decide (i<(a.length:Int))=false->(decide (i<(b.length:Int))=true->(decide (i<(a.length:Int))=true->(0<=i/\i<(a.length:Int))/\∀(x19:Int),x19=el a i.toNat->∀(x20:Int),x20=(c+x19)%18446744073709551616->(decide (i<(b.length:Int))=true->(0<=i/\i<(b.length:Int))/\∀(x21:Int),x21=el b i.toNat->∀(x22:Int),x22=(x20+x21)%18446744073709551616->(0<=x22/\x22<=18446744073709551615/\(65535:Int)<=18446744073709551615)/\∀(x23:Int),x23=x22%65536->((o.length+1)*8<=140737488355328/\o.length+1<=maxLen)/\(0:Int)<=16/\∀(x24:Int),x24=x22/65536->(-9223372036854775808<=i+1/\i+1<=9223372036854775807)/\∀(x25:Int),x25=i+1->K .normal ([.ce (.sl false [8] a), .ce (.sl false [8] b), .ce (.sl false [8] (o++[[x23]])), .ce (.lit true), .ce (.int .u64 x24), .ce (.int .i64 x25)],[]))/\(decide (i<(b.length:Int))=false->(0<=x20/\x20<=18446744073709551615/\(65535:Int)<=18446744073709551615)/\∀(x26:Int),x26=x20%65536->((o.length+1)*8<=140737488355328/\o.length+1<=maxLen)/\(0:Int)<=16/\∀(x27:Int),x27=x20/65536->(-9223372036854775808<=i+1/\i+1<=9223372036854775807)/\∀(x28:Int),x28=i+1->K .normal ([.ce (.sl false [8] a), .ce (.sl false [8] b), .ce (.sl false [8] (o++[[x26]])), .ce (.lit true), .ce (.int .u64 x27), .ce (.int .i64 x28)],[])))/\(decide (i<(a.length:Int))=false->(decide (i<(b.length:Int))=true->(0<=i/\i<(b.length:Int))/\∀(x29:Int),x29=el b i.toNat->∀(x30:Int),x30=(c+x29)%18446744073709551616->(0<=x30/\x30<=18446744073709551615/\(65535:Int)<=18446744073709551615)/\∀(x31:Int),x31=x30%65536->((o.length+1)*8<=140737488355328/\o.length+1<=maxLen)/\(0:Int)<=16/\∀(x32:Int),x32=x30/65536->(-9223372036854775808<=i+1/\i+1<=9223372036854775807)/\∀(x33:Int),x33=i+1->K .normal ([.ce (.sl false [8] a), .ce (.sl false [8] b), .ce (.sl false [8] (o++[[x31]])), .ce (.lit true), .ce (.int .u64 x32), .ce (.int .i64 x33)],[]))/\(decide (i<(b.length:Int))=false->(0<=c/\c<=18446744073709551615/\(65535:Int)<=18446744073709551615)/\∀(x34:Int),x34=c%65536->((o.length+1)*8<=140737488355328/\o.length+1<=maxLen)/\(0:Int)<=16/\∀(x35:Int),x35=c/65536->(-9223372036854775808<=i+1/\i+1<=9223372036854775807)/\∀(x36:Int),x36=i+1->K .normal ([.ce (.sl false [8] a), .ce (.sl false [8] b), .ce (.sl false [8] (o++[[x34]])), .ce (.lit true), .ce (.int .u64 x35), .ce (.int .i64 x36)],[]))))/\(decide (i<(b.length:Int))=false->(decide (c>0)=true->(decide (i<(a.length:Int))=true->(0<=i/\i<(a.length:Int))/\∀(x37:Int),x37=el a i.toNat->∀(x38:Int),x38=(c+x37)%18446744073709551616->(decide (i<(b.length:Int))=true->(0<=i/\i<(b.length:Int))/\∀(x39:Int),x39=el b i.toNat->∀(x40:Int),x40=(x38+x39)%18446744073709551616->(0<=x40/\x40<=18446744073709551615/\(65535:Int)<=18446744073709551615)/\∀(x41:Int),x41=x40%65536->((o.length+1)*8<=140737488355328/\o.length+1<=maxLen)/\(0:Int)<=16/\∀(x42:Int),x42=x40/65536->(-9223372036854775808<=i+1/\i+1<=9223372036854775807)/\∀(x43:Int),x43=i+1->K .normal ([.ce (.sl false [8] a), .ce (.sl false [8] b), .ce (.sl false [8] (o++[[x41]])), .ce (.lit true), .ce (.int .u64 x42), .ce (.int .i64 x43)],[]))/\(decide (i<(b.length:Int))=false->(0<=x38/\x38<=18446744073709551615/\(65535:Int)<=18446744073709551615)/\∀(x44:Int),x44=x38%65536->((o.length+1)*8<=140737488355328/\o.length+1<=maxLen)/\(0:Int)<=16/\∀(x45:Int),x45=x38/65536->(-9223372036854775808<=i+1/\i+1<=9223372036854775807)/\∀(x46:Int),x46=i+1->K .normal ([.ce (.sl false [8] a), .ce (.sl false [8] b), .ce (.sl false [8] (o++[[x44]])), .ce (.lit true), .ce (.int .u64 x45), .ce (.int .i64 x46)],[])))/\(decide (i<(a.length:Int))=false->(decide (i<(b.length:Int))=true->(0<=i/\i<(b.length:Int))/\∀(x47:Int),x47=el b i.toNat->∀(x48:Int),x48=(c+x47)%18446744073709551616->(0<=x48/\x48<=18446744073709551615/\(65535:Int)<=18446744073709551615)/\∀(x49:Int),x49=x48%65536->((o.length+1)*8<=140737488355328/\o.length+1<=maxLen)/\(0:Int)<=16/\∀(x50:Int),x50=x48/65536->(-9223372036854775808<=i+1/\i+1<=9223372036854775807)/\∀(x51:Int),x51=i+1->K .normal ([.ce (.sl false [8] a), .ce (.sl false [8] b), .ce (.sl false [8] (o++[[x49]])), .ce (.lit true), .ce (.int .u64 x50), .ce (.int .i64 x51)],[]))/\(decide (i<(b.length:Int))=false->(0<=c/\c<=18446744073709551615/\(65535:Int)<=18446744073709551615)/\∀(x52:Int),x52=c%65536->((o.length+1)*8<=140737488355328/\o.length+1<=maxLen)/\(0:Int)<=16/\∀(x53:Int),x53=c/65536->(-9223372036854775808<=i+1/\i+1<=9223372036854775807)/\∀(x54:Int),x54=i+1->K .normal ([.ce (.sl false [8] a), .ce (.sl false [8] b), .ce (.sl false [8] (o++[[x52]])), .ce (.lit true), .ce (.int .u64 x53), .ce (.int .i64 x54)],[]))))/\(decide (c>0)=false->K (.exit 0) ([.ce (.sl false [8] o), .ce (.lit true)],[]))))):=by kernel_rfl
end Go.Proofs.Ythkoabbiiadbjaa
namespace U
open Go
theorem dv_set:∀(o:List (List Int))(p:Nat)(v:Int),p<o.length->dv (o.set p [v])+(el o p).toNat*65536^p=dv o+v.toNat*65536^p
 |r::o,0,v,_=>by
  show v.toNat+65536*dv o+(r.getD 0 0).toNat*65536^0=(r.getD 0 0).toNat+65536*dv o+v.toNat*65536^0;omega
 |r::o,p+1,v,h=>by
  have ih:=dv_set o p v (by simpa using h);have e:el (r::o) (p+1)=el o p:=rfl;show(r.getD 0 0).toNat+65536*dv (o.set p [v])+(el (r::o) (p+1)).toNat*65536^(p+1)=(r.getD 0 0).toNat+65536*dv o+v.toNat*65536^(p+1);rw[e,Nat.pow_succ];have h1:(el o p).toNat*(65536^p*65536)=65536*((el o p).toNat*65536^p):=by grind
  have h2:v.toNat*(65536^p*65536)=65536*(v.toNat*65536^p):=by grind
  omega
theorem el_set(o:List (List Int))(p:Nat)(v:Int)(j:Nat)(hp:p<o.length):el (o.set p [v]) j=if j=p then v else el o j:=by
 unfold el;simp only[List.getD_eq_getElem?_getD,List.getElem?_set];by_cases h:p=j
 . subst h;simp[hp]
 . rw[if_neg h,if_neg (fun e=>h e.symm)]
theorem dg_set{o:List (List Int)}(h:dg o){p:Nat}{v:Int}(h0:0<=v)(h1:v<65536):dg (o.set p [v]):=fun r hr=>by
 rcases List.mem_or_eq_of_mem_set hr with hr|rfl
 . exact h r hr
 . exact⟨v,rfl,h0,h1⟩
theorem dg_repl(n:Nat):dg (List.replicate n [0]):=fun r hr=>by
 rw[List.mem_replicate]at hr;exact⟨0,hr.2,by omega,by omega⟩
theorem el_repl(n j:Nat):el (List.replicate n [0]) j=0:=by
 unfold el;simp only[List.getD_eq_getElem?_getD,List.getElem?_replicate];split<;>rfl
theorem dv_repl:∀n:Nat,dv (List.replicate n [0])=0
 |0=>rfl
 |n+1=>by
  rw[List.replicate_succ];show(([0]:List Int).getD 0 0).toNat+65536*dv (List.replicate n [0])=0;rw[dv_repl n];rfl
theorem mul_step{do1 do2 do3 A B k1 bk P x2 x9 x10 t c:Nat}(h:do1+c*P=do2+A*k1)(ht:t=x2+B*bk+c)(hd:65536*x10+x9=t)(hs:do3+x2*P=do1+x9*P)(hA:A*(bk*1)=A*bk)(hP:B*bk*P=A*(k1*0)+B*bk*P):do3+x10*(P*65536)=do2+A*k1+B*bk*P:=by
 have e1:x10*(P*65536)+x9*P=t*P:=by rw[<-hd];grind
 have e2:t*P=x2*P+B*bk*P+c*P:=by rw[ht];grind
 omega
end U
namespace Go.Proofs.Ythkoabbiiadbjaa
open Go Go.HL U
theorem loopMulI:∀v Q,(LMulI v).wp Q->hloop CMulL anMulI (nthLoop Try.f42 1) v Q:=by
 intro v Q h;unfold LMulI at h;split at h;case h_2=>exact h.elim
 rename_i a b n m i c k o m2;obtain⟨⟨h0,h1,h2,h3,h4,h5,⟨h6,h7,h8,h9,h10,h11⟩,h12⟩,hq⟩:=h;subst h0 h1 h2 h5;obtain⟨I,rfl⟩:=Int.eq_ofNat_of_zero_le h3;have hI:I<a.length:=by omega
 simp only[Int.toNat_natCast]at hq h12;refine hloop_rec (σ:=List (List Int)×Int×Nat) (fun s=>([.ce (.sl false [8] a), .ce (.sl false [8] b), .ce (.msl 1000015 o.length m2), .ce (.int .i64 (I:Int)), .ce (.int .u64 s.2.1), .ce (.int .i64 (s.2.2:Int))],[[.arr [8] s.1 m2]])) (fun s=>b.length-s.2.2) (fun s=>s.1.length=o.length/\dg s.1/\(0<=s.2.1/\s.2.1<65536)/\zer s.1 (I+b.length)/\s.2.2<=b.length/\dv s.1+s.2.1.toNat*65536^(I+s.2.2)=dv o+(el a I).toNat*65536^I*dv (b.take s.2.2)) ?_ (o,0,0) ⟨rfl,h8,⟨by dsimp only;omega,by dsimp only;omega⟩,h12,Nat.zero_le _,by simp[dv]⟩;rintro⟨p,c,k⟩⟨g1,g2,⟨g3,g3'⟩,g4,g5,g6⟩K hn he _;dsimp only at g1 g2 g3 g3' g4 g5 g6 hn;refine byVB (vbMulI a b p o.length m2 I c k K) ⟨fun hlt=> ?_,fun hge=> ?_⟩
 . have hlt:=of_decide_eq_true hlt;have hkb:k<b.length:=by omega
   have ha:=el_dg h6 hI;have hb:=el_dg h7 hkb;have ho:=el_dg g2 (show I+k<p.length by omega);refine⟨by omega,fun x1 e1=>⟨by omega,by omega,fun x2 e2=>⟨by omega,fun x3 e3=>⟨by omega,fun x4 e4 x5 e5 x6 e6 x7 e7=> ?_⟩⟩⟩⟩;have t1:x1.toNat=I+k:=by omega
   rw[t1]at e2;have e2:x2=el p (I+k):=e2;have e3:x3=el a I:=e3;have e4:x4=el b k:=by rw[e4];rfl
   have hm:0<=x3*x4/\x3*x4<=65535*65535:=⟨Int.mul_nonneg (by omega) (by omega),Int.le_trans (Int.mul_le_mul_of_nonneg_right (show x3<=65535 by omega) (by omega)) (Int.mul_le_mul_of_nonneg_left (show x4<=65535 by omega) (by omega))⟩;have e7':x7=x2+x3*x4+c:=by omega
   refine⟨by omega,fun x8 e8=>⟨by omega,fun x9 e9=>⟨by omega,by omega,by omega,fun x10 e10=>⟨by omega,fun x11 e11=> ?_⟩⟩⟩⟩;have t8:x8.toNat=I+k:=by omega
   rw[t8,show x11=((k+1:Nat):Int)by omega];refine hn (p.set (I+k) [x9],x10,k+1) ⟨by rw[List.length_set];exact g1,dg_set g2 (by omega) (by omega),⟨by dsimp only;omega,by dsimp only;omega⟩,fun j hj hjl=> ?_,by dsimp only;omega,?_⟩ (by dsimp only;omega)
   . rw[List.length_set]at hjl;rw[el_set _ _ _ _ (by omega),if_neg (by omega)];exact g4 j hj hjl
   . dsimp only;have hs:=dv_set p (I+k) x9 (by omega);rw[dv_take_succ hkb];have hpow:(65536:Nat)^(I+(k+1))=65536^(I+k)*65536:=by rw[<-Nat.add_assoc,Nat.pow_succ]
     have hst:=mul_step (do1:=dv p) (do2:=dv o) (do3:=dv (p.set (I+k) [x9])) (A:=(el a I).toNat*65536^I) (B:=(el a I).toNat) (k1:=dv (b.take k)) (bk:=(el b k).toNat) (P:=65536^(I+k)) (x2:=(el p (I+k)).toNat) (x9:=x9.toNat) (x10:=x10.toNat) (t:=x7.toNat) (c:=c.toNat) g6 (by
       have:x7=((el p (I+k)).toNat+(el a I).toNat*(el b k).toNat+c.toNat:Nat):=by
        rw[e7',e2,e3,e4];have q1:((el p (I+k)).toNat:Int)=el p (I+k):=by omega
        have q2:((el a I).toNat:Int)=el a I:=by omega
        have q3:((el b k).toNat:Int)=el b k:=by omega
        have q4:(c.toNat:Int)=c:=by omega
        rw[Int.natCast_add,Int.natCast_add,Int.natCast_mul,q1,q2,q3,q4]
       omega) (by omega) hs (by simp) (by simp);rw[hpow,hst];have:(65536:Nat)^(I+k)=65536^I*65536^k:=Nat.pow_add _ _ _;rw[this];grind
 . have hge:=of_decide_eq_false hge;have hk:k=b.length:=by omega
   subst hk;rw[List.take_length]at g6;exact he _ _ (hq (p,c) ⟨g1,g2,g3,g3',g4,g6⟩)
theorem loopMulO:∀v Q,(LMulO v).wp Q->hloop CMulL anMulO (nthLoop Try.f42 0) v Q:=by
 intro v Q h;unfold LMulO at h;split at h;case h_2=>exact h.elim
 rename_i a b n m i o m2;obtain⟨⟨h0,h1,h2,⟨h6,h7,h8,h9,h10,h11⟩,h12⟩,hq⟩:=h;subst h0 h1 h2;have hz:dv o=0:=by
  have:o=List.replicate o.length [0]:=by
   apply List.ext_getElem?;intro j;by_cases hj:j<o.length
   . have e:=(el_dg h8 hj).2.2;rw[h12 j (Nat.zero_le _) hj]at e;simp[hj,List.getD_eq_getElem?_getD]at e⊢;exact e
   . rw[List.getElem?_eq_none (by omega),List.getElem?_eq_none (by simp;omega)]
  rw[this,dv_repl]
 refine hloop_rec (σ:=List (List Int)×Nat) (fun s=>([.ce (.sl false [8] a), .ce (.sl false [8] b), .ce (.msl 1000015 o.length m2), .ce (.int .i64 (s.2:Int))],[[.arr [8] s.1 m2]])) (fun s=>a.length-s.2) (fun s=>s.1.length=o.length/\dg s.1/\s.2<=a.length/\zer s.1 (s.2+b.length)/\dv s.1=dv (a.take s.2)*dv b) ?_ (o,0) ⟨rfl,h8,Nat.zero_le _,fun j _ hj=>h12 j (Nat.zero_le _) hj,by simp[dv,hz]⟩;rintro⟨p,i⟩⟨g1,g2,g3,g4,g5⟩K hn he _;dsimp only at g1 g2 g3 g4 g5 hn;refine byVB (vbMulO a b p o.length m2 i K) ⟨fun hlt=> ?_,fun hge=> ?_⟩
 . have hlt:=of_decide_eq_true hlt;have hia:i<a.length:=by omega
   refine⟨⟨rfl,rfl,rfl,by omega,by omega,g1.symm,⟨h6,h7,g2,h9,h10,by omega⟩,fun j hj hjl=>g4 j (by simpa using hj) hjl⟩,fun x hx=> ?_⟩;obtain⟨q1,q2,q3,q4,q5,q6⟩:=hx;simp only[Int.toNat_natCast]at q5 q6;refine⟨by omega,fun x4 e4=>⟨by omega,fun x5 e5=>⟨by omega,by omega,fun x6 e6 x7 e7=>⟨by omega,by omega,by omega,fun x8 e8=> ?_⟩⟩⟩⟩;have t4:x4.toNat=i+b.length:=by omega
   have t5:x5.toNat=i+b.length:=by omega
   rw[t5]at e6;have e6:x6=el x.1 (i+b.length):=e6;have z6:=q5 (i+b.length) (Nat.le_refl _) (by omega);have e7:x7=x.2:=by omega
   rw[t4,show x8=((i+1:Nat):Int)by omega,e7];refine hn (x.1.set (i+b.length) [x.2],i+1) ⟨by rw[List.length_set];omega,dg_set q2 q3 q4,by dsimp only;omega,fun j hj hjl=> ?_,?_⟩ (by dsimp only;omega)
   . rw[List.length_set]at hjl;dsimp only at hj;rw[el_set _ _ _ _ (by omega),if_neg (by omega)];exact q5 j (by omega) hjl
   . dsimp only;have hs:=dv_set x.1 (i+b.length) x.2 (by omega);rw[z6]at hs;rw[dv_take_succ hia];have e0:(0:Int).toNat*65536^(i+b.length)=0:=by simp
     rw[e0,Nat.add_zero,q6,g5]at hs;rw[hs];grind
 . have hge:=of_decide_eq_false hge;have hk:i=a.length:=by omega
   subst hk;rw[List.take_length]at g5;exact he _ _ (hq p ⟨g1,g2,g5⟩)
theorem sMulL:Sound Try.prog 42 SMulL:=by
 refine sound_of (C:=CMulL) tabMulL Try.func42 (by kernel_rfl) (by decide+kernel) (by kernel_rfl) rfl ⟨sCut,trivial⟩ (loops2 (by kernel_rfl) (loopOK_of (an:=anMulO) (S:=LMulO) (by kernel_rfl) loopMulO) (loopOK_of (an:=anMulI) (S:=LMulI) (by kernel_rfl) loopMulI)) ?_;intro hargs pars R h;unfold SMulL at h;split at h;case h_2=>exfalso;exact h
 rename_i a b;have hq:=h.2;have h:=h.1;have h1:=h.1;have h2:=h.2.1;have h3:=h.2.2.1;have h4:=h.2.2.2;refine byVC (vcMulL a b R) ⟨by omega,fun x1 e1=>⟨by omega,?_⟩⟩;have t1:x1.toNat=a.length+b.length:=by omega
 refine⟨⟨rfl,rfl,by rw[List.length_replicate],⟨h1,h2,dg_repl _,h3,h4,by rw[List.length_replicate];exact t1⟩,fun j _ _=>el_repl _ _⟩,fun x hx=> ?_⟩;obtain⟨q1,q2,q3⟩:=hx;rw[List.length_replicate]at q1;exact⟨q1.symm,⟨q2,by omega⟩,fun x4 e4=>by rw[e4,q3];exact hq⟩
theorem loopAddL:∀v Q,(LAddL v).wp Q->hloop CAddL anAddL (nthLoop Try.f43 0) v Q:=by
 intro v Q h;unfold LAddL at h;split at h;case h_2=>exact h.elim
 rename_i a b o c i;obtain⟨⟨h1,h2,h3,h4,h5,h6,h7⟩,hq⟩:=h;subst h2 h3;obtain rfl:o=[]:=List.eq_nil_of_length_eq_zero h1;refine hloop_rec (σ:=List (List Int)×Int×Nat) (fun s=>([.ce (.sl false [8] a), .ce (.sl false [8] b), .ce (.sl false [8] s.1), .ce (.lit true), .ce (.int .u64 s.2.1), .ce (.int .i64 (s.2.2:Int))],[])) (fun s=>max a.length b.length+1-s.2.2) (fun s=>s.1.length=s.2.2/\dg s.1/\(0<=s.2.1/\s.2.1<=1)/\s.2.2<=max a.length b.length+1/\(s.2.2=max a.length b.length+1->s.2.1=0)/\dv s.1+s.2.1.toNat*65536^s.2.2=dv (a.take s.2.2)+dv (b.take s.2.2)) ?_ ([],0,0) ⟨rfl,(fun r hr=>by cases hr),⟨by dsimp only;omega,by dsimp only;omega⟩,Nat.zero_le _,(fun e=>by dsimp only at e;omega),by simp[dv]⟩;rintro⟨p,c,i⟩⟨g1,g2,⟨g3,g3'⟩,g4,g5,g6⟩K hn he _;dsimp only at g1 g2 g3 g3' g4 g5 g6 hn;have tk:∀(l:List (List Int)),dg l->dv (l.take (i+1))=dv (l.take i)+65536^i*(if i<l.length then(el l i).toNat else 0):=by
  intro l hl;by_cases hi:i<l.length
  . rw[if_pos hi,dv_take_succ hi]
  . rw[if_neg hi,List.take_of_length_le (by omega),List.take_of_length_le (by omega)];simp
 have ea:∀(l:List (List Int)),dg l->(if i<l.length then(el l i).toNat else 0)<65536:=by
  intro l hl;split
  . rename_i hi;have:=el_dg hl hi;omega
  . omega
 have fin:∀v:Int,v=c+((if i<a.length then(el a i).toNat else 0:Nat):Int)+((if i<b.length then(el b i).toNat else 0:Nat):Int)->(i<a.length∨i<b.length∨0<c)->(0<=v/\v<=18446744073709551615/\(65535:Int)<=18446744073709551615)/\∀x5:Int,x5=v%65536->((p.length+1)*8<=140737488355328/\p.length+1<=maxLen)/\(0:Int)<=16/\∀x6:Int,x6=v/65536->(-9223372036854775808<=(i:Int)+1/\(i:Int)+1<=9223372036854775807)/\∀x7:Int,x7=(i:Int)+1->K .normal ([.ce (.sl false [8] a), .ce (.sl false [8] b), .ce (.sl false [8] (p++[[x5]])), .ce (.lit true), .ce (.int .u64 x6), .ce (.int .i64 x7)],[]):=by
  intro v hv hc;have b1:=ea a h4;have b2:=ea b h5;have t1:=tk a h4;have t2:=tk b h5;have hA:¬i<a.length->(if i<a.length then(el a i).toNat else 0)=0:=fun h=>if_neg h;have hB:¬i<b.length->(if i<b.length then(el b i).toNat else 0)=0:=fun h=>if_neg h;generalize(if i<a.length then(el a i).toNat else 0)=A at*;generalize(if i<b.length then(el b i).toNat else 0)=B at*;refine⟨by omega,fun x5 e5=>⟨⟨by omega,by unfold maxLen;omega⟩,by omega,fun x6 e6=>⟨by omega,fun x7 e7=> ?_⟩⟩⟩;rw[show x7=((i+1:Nat):Int)by omega];refine hn (p++[[x5]],x6,i+1) ⟨by simp[g1],dg_append g2 (dg_one (by omega) (by omega)),⟨by dsimp only;omega,by dsimp only;omega⟩,by dsimp only;omega,fun e=> ?_,?_⟩ (by dsimp only;omega)
  . dsimp only at e⊢;have:=hA (by omega);have:=hB (by omega);omega
  . dsimp only;rw[dv_append,t1,t2,g1];have e1:dv [[x5]]=x5.toNat:=by show(([x5]:List Int).getD 0 0).toNat+65536*0=_;rfl
    rw[e1,Nat.pow_succ];have e2:v.toNat=c.toNat+A+B:=by omega
    have e3:v.toNat=65536*x6.toNat+x5.toNat:=by omega
    have e4:65536^i*x5.toNat+x6.toNat*(65536^i*65536)=65536^i*v.toNat:=by rw[e3];grind
    have e5:65536^i*v.toNat=c.toNat*65536^i+65536^i*A+65536^i*B:=by rw[e2];grind
    omega
 have la:i<a.length->0<=el a i/\el a i<65536:=fun h=>⟨(el_dg h4 h).1,(el_dg h4 h).2.1⟩;have lb:i<b.length->0<=el b i/\el b i<65536:=fun h=>⟨(el_dg h5 h).1,(el_dg h5 h).2.1⟩;have fa:i<a.length->(if i<a.length then(el a i).toNat else 0)=(el a i).toNat:=fun h=>if_pos h;have fb:i<b.length->(if i<b.length then(el b i).toNat else 0)=(el b i).toNat:=fun h=>if_pos h;have na:¬i<a.length->(if i<a.length then(el a i).toNat else 0)=0:=fun h=>if_neg h;have nb:¬i<b.length->(if i<b.length then(el b i).toNat else 0)=0:=fun h=>if_neg h;generalize(if i<a.length then(el a i).toNat else 0)=A at*;generalize(if i<b.length then(el b i).toNat else 0)=B at*;refine byVB (vbAddL a b p c i K) ⟨fun p1=> ?_,fun p1=>⟨fun p2=> ?_,fun p2=>⟨fun p3=> ?_,fun p3=> ?_⟩⟩⟩;case refine_4=>
  have p1:=of_decide_eq_false p1;have p2:=of_decide_eq_false p2;have p3:=of_decide_eq_false p3;obtain rfl:c=0:=by omega
  rw[List.take_of_length_le (by omega),List.take_of_length_le (by omega)]at g6;exact he _ _ (hq p ⟨g2,by omega,by simpa using g6⟩)
 all_goals
  have hc:i<a.length∨i<b.length∨0<c:=by
   first
    |exact .inl (by have:=of_decide_eq_true p1;omega)
    |exact .inr (.inl (by have:=of_decide_eq_true p2;omega))
    |exact .inr (.inr (by have:=of_decide_eq_true p3;omega))
  refine⟨fun p4=>⟨?_,fun x1 e1 x2 e2=>⟨fun p5=>⟨?_,fun x3 e3 x4 e4=>fin x4 ?_ hc⟩,fun p5=>fin x2 ?_ hc⟩⟩,fun p4=>⟨fun p5=>⟨?_,fun x3 e3 x4 e4=>fin x4 ?_ hc⟩,fun p5=>fin c ?_ hc⟩⟩
  . have:=of_decide_eq_true p4;omega
  . have:=of_decide_eq_true p5;omega
  . have p4:=of_decide_eq_true p4;have p5:=of_decide_eq_true p5;have e1:x1=el a i:=by rw[e1];rfl
    have e3:x3=el b i:=by rw[e3];rfl
    have:=la (by omega);have:=lb (by omega);have:=fa (by omega);have:=fb (by omega);omega
  . have p4:=of_decide_eq_true p4;have p5:=of_decide_eq_false p5;have e1:x1=el a i:=by rw[e1];rfl
    have:=la (by omega);have:=fa (by omega);have:=nb (by omega);omega
  . have:=of_decide_eq_true p5;omega
  . have p4:=of_decide_eq_false p4;have p5:=of_decide_eq_true p5;have e3:x3=el b i:=by rw[e3];rfl
    have:=lb (by omega);have:=fb (by omega);have:=na (by omega);omega
  . have p4:=of_decide_eq_false p4;have p5:=of_decide_eq_false p5;have:=na (by omega);have:=nb (by omega);omega
theorem sAddL:Sound Try.prog 43 SAddL:=by
 refine sound_of (C:=CAddL) tabMulL Try.func43 (by kernel_rfl) (by decide+kernel) (by kernel_rfl) rfl ⟨sCut,trivial⟩ (loops1 (by kernel_rfl) (loopOK_of (an:=anAddL) (S:=LAddL) (by kernel_rfl) loopAddL)) ?_;intro hargs pars R h;unfold SAddL at h;split at h;case h_2=>exfalso;exact h
 rename_i a b;have hq:=h.2;have h:=h.1;refine byVC (vcAddL a b R) ⟨⟨rfl,rfl,rfl,h⟩,fun x hx=>⟨⟨hx.1,by omega⟩,fun x2 e2=> ?_⟩⟩;rw[e2,hx.2.2];exact hq
end Go.Proofs.Ythkoabbiiadbjaa
namespace U
open Go
def more(neg exact:Bool)(half m:Int):Bool:=if m=0 then neg&& !exact else if m=1 then !neg&& !exact else(neg&&decide (half>0))||(!neg&&decide (half>=0))
def rnd(neg:Bool)(q:Int)(exact:Bool)(half m:Int):Int×Bool:=
 if q>9223372036854775808 then(0,false)else
 let v:=if more neg exact half m then q+1 else q
 if neg then(if v>9223372036854775808 then(0,false)else(-v,true))else(if v>9223372036854775807 then(0,false)else(v,true))
def qsat(x d:Nat):Nat:=min (x/d) 18446744073709551615
def rmd(a b c m:Int):Int×Bool:=
 if c=0∨¬(0<=m/\m<=2)then(0,false)else
 let x:=a.natAbs*b.natAbs
 let d:=c.natAbs
 let q:=qsat x d
 rnd (decide (a.sign*b.sign<0) !=decide (c<0)) q (cmp3 x (q*d)==0) (cmp3 (x+x) (q*d+q*d+d)) m
end U
namespace Go.Proofs.Ythkoabbiiadbjaa
open Go Go.HL U
def SProd(hA:List HV)(pA:List (List HC)):SR:=match hA,pA with
 |[.ce (.int .i64 a), .ce (.int .i64 b)],[]=> .det ((-9223372036854775808<=a/\a<=9223372036854775807)/\(-9223372036854775808<=b/\b<=9223372036854775807)) ⟨.ce (.sl false [8] (lim (a.natAbs*b.natAbs))),false,[],[]⟩
 |_,_=> .fail
def tabProd:List (FuncId×HL.Spec):=[(40,SMag),(39,SLimbs),(42,SMulL)]
noncomputable def CProd:Ctx:=⟨Try.prog,gam tabProd,Try.f38.ntmps,[],[]⟩
theorem vcProd(a b:Int)(Q:Res->Prop):(nfun true CProd Try.f38 (bodyOf Try.f38) [.ce (.int .i64 a), .ce (.int .i64 b)] [] Q)=((-9223372036854775808<=a/\a<=9223372036854775807)/\∀(x1:Int),x1=(((Int.natAbs a):Nat):Int)->(0<=x1/\x1<18446744073709551616)/\∀(x2:List (List Int)),x2=lim x1.toNat->(-9223372036854775808<=b/\b<=9223372036854775807)/\∀(x3:Int),x3=(((Int.natAbs b):Nat):Int)->(0<=x3/\x3<18446744073709551616)/\∀(x4:List (List Int)),x4=lim x3.toNat->(dg x2/\dg x4/\x2.length<=100/\x4.length<=100)/\∀(x5:List (List Int)),x5=lim (dv x2*dv x4)->Q ⟨.ce (.sl false [8] x5),false,[],[]⟩):=by kernel_rfl
def SRounded(hA:List HV)(pA:List (List HC)):SR:=match hA,pA with
 |[.ce (.bool neg), .ce (.int .u64 q), .ce (.bool e), .ce (.int .i64 h), .ce (.int .i64 m)],[]=> .det (0<=q/\q<18446744073709551616) ⟨.tup [.ce (.int .i64 (rnd neg q e h m).1), .ce (.bool (rnd neg q e h m).2)],false,[],[]⟩
 |_,_=> .fail
noncomputable def CRounded:Ctx:=⟨Try.prog,gam [],Try.f44.ntmps,[],[]⟩
theorem vcRounded(neg e:Bool)(q h m:Int)(Q:Res->Prop):(nfun true CRounded Try.f44 (bodyOf Try.f44) [.ce (.bool neg), .ce (.int .u64 q), .ce (.bool e), .ce (.int .i64 h), .ce (.int .i64 m)] [] Q)=(((m==0)=true->(neg=true->(decide (q>9223372036854775808)=true->Q ⟨.tup [.ce (.int .i64 0), .ce (.bool false)],false,[],[]⟩)/\(decide (q>9223372036854775808)=false->((!e)=true->∀(x1:Int),x1=(q+1)%18446744073709551616->(neg=true->(decide (x1>9223372036854775808)=true->Q ⟨.tup [.ce (.int .i64 0), .ce (.bool false)],false,[],[]⟩)/\(decide (x1>9223372036854775808)=false->((x1==0)=true->Q ⟨.tup [.ce (.int .i64 0), .ce (.bool true)],false,[],[]⟩)/\((x1==0)=false->∀(x2:Int),x2=(x1-1)%18446744073709551616->(-9223372036854775808<=x2/\x2<=9223372036854775807)/\∀(x3:Int),x3=x2->(-9223372036854775808<=0-x3/\0-x3<=9223372036854775807)/\∀(x4:Int),x4=0-x3->(-9223372036854775808<=x4-1/\x4-1<=9223372036854775807)/\∀(x5:Int),x5=x4-1->Q ⟨.tup [.ce (.int .i64 x5), .ce (.bool true)],false,[],[]⟩)))/\(neg=false->(decide (x1>9223372036854775807)=true->Q ⟨.tup [.ce (.int .i64 0), .ce (.bool false)],false,[],[]⟩)/\(decide (x1>9223372036854775807)=false->(-9223372036854775808<=x1/\x1<=9223372036854775807)/\∀(x6:Int),x6=x1->Q ⟨.tup [.ce (.int .i64 x6), .ce (.bool true)],false,[],[]⟩)))/\((!e)=false->(neg=true->(decide (q>9223372036854775808)=true->Q ⟨.tup [.ce (.int .i64 0), .ce (.bool false)],false,[],[]⟩)/\(decide (q>9223372036854775808)=false->((q==0)=true->Q ⟨.tup [.ce (.int .i64 0), .ce (.bool true)],false,[],[]⟩)/\((q==0)=false->∀(x7:Int),x7=(q-1)%18446744073709551616->(-9223372036854775808<=x7/\x7<=9223372036854775807)/\∀(x8:Int),x8=x7->(-9223372036854775808<=0-x8/\0-x8<=9223372036854775807)/\∀(x9:Int),x9=0-x8->(-9223372036854775808<=x9-1/\x9-1<=9223372036854775807)/\∀(x10:Int),x10=x9-1->Q ⟨.tup [.ce (.int .i64 x10), .ce (.bool true)],false,[],[]⟩)))/\(neg=false->(decide (q>9223372036854775807)=true->Q ⟨.tup [.ce (.int .i64 0), .ce (.bool false)],false,[],[]⟩)/\(decide (q>9223372036854775807)=false->(-9223372036854775808<=q/\q<=9223372036854775807)/\∀(x11:Int),x11=q->Q ⟨.tup [.ce (.int .i64 x11), .ce (.bool true)],false,[],[]⟩)))))/\(neg=false->(decide (q>9223372036854775808)=true->Q ⟨.tup [.ce (.int .i64 0), .ce (.bool false)],false,[],[]⟩)/\(decide (q>9223372036854775808)=false->(neg=true->(decide (q>9223372036854775808)=true->Q ⟨.tup [.ce (.int .i64 0), .ce (.bool false)],false,[],[]⟩)/\(decide (q>9223372036854775808)=false->((q==0)=true->Q ⟨.tup [.ce (.int .i64 0), .ce (.bool true)],false,[],[]⟩)/\((q==0)=false->∀(x12:Int),x12=(q-1)%18446744073709551616->(-9223372036854775808<=x12/\x12<=9223372036854775807)/\∀(x13:Int),x13=x12->(-9223372036854775808<=0-x13/\0-x13<=9223372036854775807)/\∀(x14:Int),x14=0-x13->(-9223372036854775808<=x14-1/\x14-1<=9223372036854775807)/\∀(x15:Int),x15=x14-1->Q ⟨.tup [.ce (.int .i64 x15), .ce (.bool true)],false,[],[]⟩)))/\(neg=false->(decide (q>9223372036854775807)=true->Q ⟨.tup [.ce (.int .i64 0), .ce (.bool false)],false,[],[]⟩)/\(decide (q>9223372036854775807)=false->(-9223372036854775808<=q/\q<=9223372036854775807)/\∀(x16:Int),x16=q->Q ⟨.tup [.ce (.int .i64 x16), .ce (.bool true)],false,[],[]⟩)))))/\((m==0)=false->((m==1)=true->((!neg)=true->(decide (q>9223372036854775808)=true->Q ⟨.tup [.ce (.int .i64 0), .ce (.bool false)],false,[],[]⟩)/\(decide (q>9223372036854775808)=false->((!e)=true->∀(x17:Int),x17=(q+1)%18446744073709551616->(neg=true->(decide (x17>9223372036854775808)=true->Q ⟨.tup [.ce (.int .i64 0), .ce (.bool false)],false,[],[]⟩)/\(decide (x17>9223372036854775808)=false->((x17==0)=true->Q ⟨.tup [.ce (.int .i64 0), .ce (.bool true)],false,[],[]⟩)/\((x17==0)=false->∀(x18:Int),x18=(x17-1)%18446744073709551616->(-9223372036854775808<=x18/\x18<=9223372036854775807)/\∀(x19:Int),x19=x18->(-9223372036854775808<=0-x19/\0-x19<=9223372036854775807)/\∀(x20:Int),x20=0-x19->(-9223372036854775808<=x20-1/\x20-1<=9223372036854775807)/\∀(x21:Int),x21=x20-1->Q ⟨.tup [.ce (.int .i64 x21), .ce (.bool true)],false,[],[]⟩)))/\(neg=false->(decide (x17>9223372036854775807)=true->Q ⟨.tup [.ce (.int .i64 0), .ce (.bool false)],false,[],[]⟩)/\(decide (x17>9223372036854775807)=false->(-9223372036854775808<=x17/\x17<=9223372036854775807)/\∀(x22:Int),x22=x17->Q ⟨.tup [.ce (.int .i64 x22), .ce (.bool true)],false,[],[]⟩)))/\((!e)=false->(neg=true->(decide (q>9223372036854775808)=true->Q ⟨.tup [.ce (.int .i64 0), .ce (.bool false)],false,[],[]⟩)/\(decide (q>9223372036854775808)=false->((q==0)=true->Q ⟨.tup [.ce (.int .i64 0), .ce (.bool true)],false,[],[]⟩)/\((q==0)=false->∀(x23:Int),x23=(q-1)%18446744073709551616->(-9223372036854775808<=x23/\x23<=9223372036854775807)/\∀(x24:Int),x24=x23->(-9223372036854775808<=0-x24/\0-x24<=9223372036854775807)/\∀(x25:Int),x25=0-x24->(-9223372036854775808<=x25-1/\x25-1<=9223372036854775807)/\∀(x26:Int),x26=x25-1->Q ⟨.tup [.ce (.int .i64 x26), .ce (.bool true)],false,[],[]⟩)))/\(neg=false->(decide (q>9223372036854775807)=true->Q ⟨.tup [.ce (.int .i64 0), .ce (.bool false)],false,[],[]⟩)/\(decide (q>9223372036854775807)=false->(-9223372036854775808<=q/\q<=9223372036854775807)/\∀(x27:Int),x27=q->Q ⟨.tup [.ce (.int .i64 x27), .ce (.bool true)],false,[],[]⟩)))))/\((!neg)=false->(decide (q>9223372036854775808)=true->Q ⟨.tup [.ce (.int .i64 0), .ce (.bool false)],false,[],[]⟩)/\(decide (q>9223372036854775808)=false->(neg=true->(decide (q>9223372036854775808)=true->Q ⟨.tup [.ce (.int .i64 0), .ce (.bool false)],false,[],[]⟩)/\(decide (q>9223372036854775808)=false->((q==0)=true->Q ⟨.tup [.ce (.int .i64 0), .ce (.bool true)],false,[],[]⟩)/\((q==0)=false->∀(x28:Int),x28=(q-1)%18446744073709551616->(-9223372036854775808<=x28/\x28<=9223372036854775807)/\∀(x29:Int),x29=x28->(-9223372036854775808<=0-x29/\0-x29<=9223372036854775807)/\∀(x30:Int),x30=0-x29->(-9223372036854775808<=x30-1/\x30-1<=9223372036854775807)/\∀(x31:Int),x31=x30-1->Q ⟨.tup [.ce (.int .i64 x31), .ce (.bool true)],false,[],[]⟩)))/\(neg=false->(decide (q>9223372036854775807)=true->Q ⟨.tup [.ce (.int .i64 0), .ce (.bool false)],false,[],[]⟩)/\(decide (q>9223372036854775807)=false->(-9223372036854775808<=q/\q<=9223372036854775807)/\∀(x32:Int),x32=q->Q ⟨.tup [.ce (.int .i64 x32), .ce (.bool true)],false,[],[]⟩)))))/\((m==1)=false->(neg=true->(decide (h>0)=true->(decide (q>9223372036854775808)=true->Q ⟨.tup [.ce (.int .i64 0), .ce (.bool false)],false,[],[]⟩)/\(decide (q>9223372036854775808)=false->∀(x33:Int),x33=(q+1)%18446744073709551616->(neg=true->(decide (x33>9223372036854775808)=true->Q ⟨.tup [.ce (.int .i64 0), .ce (.bool false)],false,[],[]⟩)/\(decide (x33>9223372036854775808)=false->((x33==0)=true->Q ⟨.tup [.ce (.int .i64 0), .ce (.bool true)],false,[],[]⟩)/\((x33==0)=false->∀(x34:Int),x34=(x33-1)%18446744073709551616->(-9223372036854775808<=x34/\x34<=9223372036854775807)/\∀(x35:Int),x35=x34->(-9223372036854775808<=0-x35/\0-x35<=9223372036854775807)/\∀(x36:Int),x36=0-x35->(-9223372036854775808<=x36-1/\x36-1<=9223372036854775807)/\∀(x37:Int),x37=x36-1->Q ⟨.tup [.ce (.int .i64 x37), .ce (.bool true)],false,[],[]⟩)))/\(neg=false->(decide (x33>9223372036854775807)=true->Q ⟨.tup [.ce (.int .i64 0), .ce (.bool false)],false,[],[]⟩)/\(decide (x33>9223372036854775807)=false->(-9223372036854775808<=x33/\x33<=9223372036854775807)/\∀(x38:Int),x38=x33->Q ⟨.tup [.ce (.int .i64 x38), .ce (.bool true)],false,[],[]⟩))))/\(decide (h>0)=false->((!neg)=true->(decide (q>9223372036854775808)=true->Q ⟨.tup [.ce (.int .i64 0), .ce (.bool false)],false,[],[]⟩)/\(decide (q>9223372036854775808)=false->(decide (h>=0)=true->∀(x39:Int),x39=(q+1)%18446744073709551616->(neg=true->(decide (x39>9223372036854775808)=true->Q ⟨.tup [.ce (.int .i64 0), .ce (.bool false)],false,[],[]⟩)/\(decide (x39>9223372036854775808)=false->((x39==0)=true->Q ⟨.tup [.ce (.int .i64 0), .ce (.bool true)],false,[],[]⟩)/\((x39==0)=false->∀(x40:Int),x40=(x39-1)%18446744073709551616->(-9223372036854775808<=x40/\x40<=9223372036854775807)/\∀(x41:Int),x41=x40->(-9223372036854775808<=0-x41/\0-x41<=9223372036854775807)/\∀(x42:Int),x42=0-x41->(-9223372036854775808<=x42-1/\x42-1<=9223372036854775807)/\∀(x43:Int),x43=x42-1->Q ⟨.tup [.ce (.int .i64 x43), .ce (.bool true)],false,[],[]⟩)))/\(neg=false->(decide (x39>9223372036854775807)=true->Q ⟨.tup [.ce (.int .i64 0), .ce (.bool false)],false,[],[]⟩)/\(decide (x39>9223372036854775807)=false->(-9223372036854775808<=x39/\x39<=9223372036854775807)/\∀(x44:Int),x44=x39->Q ⟨.tup [.ce (.int .i64 x44), .ce (.bool true)],false,[],[]⟩)))/\(decide (h>=0)=false->(neg=true->(decide (q>9223372036854775808)=true->Q ⟨.tup [.ce (.int .i64 0), .ce (.bool false)],false,[],[]⟩)/\(decide (q>9223372036854775808)=false->((q==0)=true->Q ⟨.tup [.ce (.int .i64 0), .ce (.bool true)],false,[],[]⟩)/\((q==0)=false->∀(x45:Int),x45=(q-1)%18446744073709551616->(-9223372036854775808<=x45/\x45<=9223372036854775807)/\∀(x46:Int),x46=x45->(-9223372036854775808<=0-x46/\0-x46<=9223372036854775807)/\∀(x47:Int),x47=0-x46->(-9223372036854775808<=x47-1/\x47-1<=9223372036854775807)/\∀(x48:Int),x48=x47-1->Q ⟨.tup [.ce (.int .i64 x48), .ce (.bool true)],false,[],[]⟩)))/\(neg=false->(decide (q>9223372036854775807)=true->Q ⟨.tup [.ce (.int .i64 0), .ce (.bool false)],false,[],[]⟩)/\(decide (q>9223372036854775807)=false->(-9223372036854775808<=q/\q<=9223372036854775807)/\∀(x49:Int),x49=q->Q ⟨.tup [.ce (.int .i64 x49), .ce (.bool true)],false,[],[]⟩)))))/\((!neg)=false->(decide (q>9223372036854775808)=true->Q ⟨.tup [.ce (.int .i64 0), .ce (.bool false)],false,[],[]⟩)/\(decide (q>9223372036854775808)=false->(neg=true->(decide (q>9223372036854775808)=true->Q ⟨.tup [.ce (.int .i64 0), .ce (.bool false)],false,[],[]⟩)/\(decide (q>9223372036854775808)=false->((q==0)=true->Q ⟨.tup [.ce (.int .i64 0), .ce (.bool true)],false,[],[]⟩)/\((q==0)=false->∀(x50:Int),x50=(q-1)%18446744073709551616->(-9223372036854775808<=x50/\x50<=9223372036854775807)/\∀(x51:Int),x51=x50->(-9223372036854775808<=0-x51/\0-x51<=9223372036854775807)/\∀(x52:Int),x52=0-x51->(-9223372036854775808<=x52-1/\x52-1<=9223372036854775807)/\∀(x53:Int),x53=x52-1->Q ⟨.tup [.ce (.int .i64 x53), .ce (.bool true)],false,[],[]⟩)))/\(neg=false->(decide (q>9223372036854775807)=true->Q ⟨.tup [.ce (.int .i64 0), .ce (.bool false)],false,[],[]⟩)/\(decide (q>9223372036854775807)=false->(-9223372036854775808<=q/\q<=9223372036854775807)/\∀(x54:Int),x54=q->Q ⟨.tup [.ce (.int .i64 x54), .ce (.bool true)],false,[],[]⟩))))))/\(neg=false->((!neg)=true->(decide (q>9223372036854775808)=true->Q ⟨.tup [.ce (.int .i64 0), .ce (.bool false)],false,[],[]⟩)/\(decide (q>9223372036854775808)=false->(decide (h>=0)=true->∀(x55:Int),x55=(q+1)%18446744073709551616->(neg=true->(decide (x55>9223372036854775808)=true->Q ⟨.tup [.ce (.int .i64 0), .ce (.bool false)],false,[],[]⟩)/\(decide (x55>9223372036854775808)=false->((x55==0)=true->Q ⟨.tup [.ce (.int .i64 0), .ce (.bool true)],false,[],[]⟩)/\((x55==0)=false->∀(x56:Int),x56=(x55-1)%18446744073709551616->(-9223372036854775808<=x56/\x56<=9223372036854775807)/\∀(x57:Int),x57=x56->(-9223372036854775808<=0-x57/\0-x57<=9223372036854775807)/\∀(x58:Int),x58=0-x57->(-9223372036854775808<=x58-1/\x58-1<=9223372036854775807)/\∀(x59:Int),x59=x58-1->Q ⟨.tup [.ce (.int .i64 x59), .ce (.bool true)],false,[],[]⟩)))/\(neg=false->(decide (x55>9223372036854775807)=true->Q ⟨.tup [.ce (.int .i64 0), .ce (.bool false)],false,[],[]⟩)/\(decide (x55>9223372036854775807)=false->(-9223372036854775808<=x55/\x55<=9223372036854775807)/\∀(x60:Int),x60=x55->Q ⟨.tup [.ce (.int .i64 x60), .ce (.bool true)],false,[],[]⟩)))/\(decide (h>=0)=false->(neg=true->(decide (q>9223372036854775808)=true->Q ⟨.tup [.ce (.int .i64 0), .ce (.bool false)],false,[],[]⟩)/\(decide (q>9223372036854775808)=false->((q==0)=true->Q ⟨.tup [.ce (.int .i64 0), .ce (.bool true)],false,[],[]⟩)/\((q==0)=false->∀(x61:Int),x61=(q-1)%18446744073709551616->(-9223372036854775808<=x61/\x61<=9223372036854775807)/\∀(x62:Int),x62=x61->(-9223372036854775808<=0-x62/\0-x62<=9223372036854775807)/\∀(x63:Int),x63=0-x62->(-9223372036854775808<=x63-1/\x63-1<=9223372036854775807)/\∀(x64:Int),x64=x63-1->Q ⟨.tup [.ce (.int .i64 x64), .ce (.bool true)],false,[],[]⟩)))/\(neg=false->(decide (q>9223372036854775807)=true->Q ⟨.tup [.ce (.int .i64 0), .ce (.bool false)],false,[],[]⟩)/\(decide (q>9223372036854775807)=false->(-9223372036854775808<=q/\q<=9223372036854775807)/\∀(x65:Int),x65=q->Q ⟨.tup [.ce (.int .i64 x65), .ce (.bool true)],false,[],[]⟩)))))/\((!neg)=false->(decide (q>9223372036854775808)=true->Q ⟨.tup [.ce (.int .i64 0), .ce (.bool false)],false,[],[]⟩)/\(decide (q>9223372036854775808)=false->(neg=true->(decide (q>9223372036854775808)=true->Q ⟨.tup [.ce (.int .i64 0), .ce (.bool false)],false,[],[]⟩)/\(decide (q>9223372036854775808)=false->((q==0)=true->Q ⟨.tup [.ce (.int .i64 0), .ce (.bool true)],false,[],[]⟩)/\((q==0)=false->∀(x66:Int),x66=(q-1)%18446744073709551616->(-9223372036854775808<=x66/\x66<=9223372036854775807)/\∀(x67:Int),x67=x66->(-9223372036854775808<=0-x67/\0-x67<=9223372036854775807)/\∀(x68:Int),x68=0-x67->(-9223372036854775808<=x68-1/\x68-1<=9223372036854775807)/\∀(x69:Int),x69=x68-1->Q ⟨.tup [.ce (.int .i64 x69), .ce (.bool true)],false,[],[]⟩)))/\(neg=false->(decide (q>9223372036854775807)=true->Q ⟨.tup [.ce (.int .i64 0), .ce (.bool false)],false,[],[]⟩)/\(decide (q>9223372036854775807)=false->(-9223372036854775808<=q/\q<=9223372036854775807)/\∀(x70:Int),x70=q->Q ⟨.tup [.ce (.int .i64 x70), .ce (.bool true)],false,[],[]⟩)))))))):=by kernel_rfl
def SRMulDiv(hA:List HV)(pA:List (List HC)):SR:=match hA,pA with
 |[.ce (.int .i64 a), .ce (.int .i64 b), .ce (.int .i64 c), .ce (.int .i64 m)],[]=> .det ((-9223372036854775808<=a/\a<=9223372036854775807)/\(-9223372036854775808<=b/\b<=9223372036854775807)/\(-9223372036854775808<=c/\c<=9223372036854775807)) ⟨.tup [.ce (.int .i64 (rmd a b c m).1), .ce (.bool (rmd a b c m).2)],false,[],[]⟩
 |_,_=> .fail
def anRMD:LAnn:=⟨[0,1,2,3,10,11,12,13],[0,1,2,3,10,11,12],[],false⟩
def LRMD(v:LV):LR:=match v with
 |([.ce (.int .i64 a), .ce (.int .i64 b), .ce (.int .i64 c), .ce (.int .i64 m), .ce (.sl false [8] xs), .ce (.sl false [8] ds), .ce (.int .u64 q), .ce (.int .i64 i)],[])=> .det (q=0/\i=63/\xs=lim (dv xs)/\ds=lim (dv ds)/\xs.length<=8/\ds.length<=4/\0<dv ds) (.exit 0) ([.ce (.int .i64 a), .ce (.int .i64 b), .ce (.int .i64 c), .ce (.int .i64 m), .ce (.sl false [8] xs), .ce (.sl false [8] ds), .ce (.int .u64 ((qsat (dv xs) (dv ds):Nat):Int))],[])
 |_=> .fail
def tabRMD:List (FuncId×HL.Spec):=[(37,SRight),(38,SProd),(40,SMag),(39,SLimbs),(42,SMulL),(43,SAddL),(41,SCmp),(45,SSgn),(44,SRounded)]
noncomputable def CRMD:Ctx:=⟨Try.prog,gam tabRMD,Try.f27.ntmps,[(7,anRMD,LRMD)],[]⟩
theorem vcRMD(a b c m:Int)(Q:Res->Prop):(nfun true CRMD Try.f27 (bodyOf Try.f27) [.ce (.int .i64 a), .ce (.int .i64 b), .ce (.int .i64 c), .ce (.int .i64 m)] [] Q)=(((c==0)=true->Q ⟨.tup [.ce (.int .i64 0), .ce (.bool false)],false,[],[]⟩)/\((c==0)=false->True/\∀(x1:Bool),x1=decide (0<=m/\m<=2)->((!x1)=true->Q ⟨.tup [.ce (.int .i64 0), .ce (.bool false)],false,[],[]⟩)/\((!x1)=false->((-9223372036854775808<=a/\a<=9223372036854775807)/\ -9223372036854775808<=b/\b<=9223372036854775807)/\∀(x2:List (List Int)),x2=lim (Int.natAbs a*Int.natAbs b)->(-9223372036854775808<=c/\c<=9223372036854775807)/\∀(x3:Int),x3=(((Int.natAbs c):Nat):Int)->(0<=x3/\x3<18446744073709551616)/\∀(x4:List (List Int)),x4=lim x3.toNat->((0:Int)=0/\(63:Int)=63/\x2=lim (dv x2)/\x4=lim (dv x4)/\x2.length<=8/\x4.length<=4/\(0:Nat)<dv x4)/\((0:Int)<=(((qsat (dv x2) (dv x4)):Nat):Int)/\(((qsat (dv x2) (dv x4)):Nat):Int)<18446744073709551616)/\∀(x5:List (List Int)),x5=lim (Int.toNat (((qsat (dv x2) (dv x4)):Nat):Int))->(dg x5/\dg x4/\x5.length<=100/\x4.length<=100)/\∀(x6:List (List Int)),x6=lim (dv x5*dv x4)->(dg x2/\dg x2/\x2.length<=100/\x2.length<=100)/\∀(x7:List (List Int)),x7=lim (dv x2+dv x2)->(dg x6/\dg x6/\x6.length<=100/\x6.length<=100)/\∀(x8:List (List Int)),x8=lim (dv x6+dv x6)->(dg x8/\dg x4/\x8.length<=100/\x4.length<=100)/\∀(x9:List (List Int)),x9=lim (dv x8+dv x4)->(x7=lim (dv x7)/\x9=lim (dv x9)/\x7.length<=1000/\x9.length<=1000)/\∀(x10:Int),x10=cmp3 (dv x7) (dv x9)->True/\∀(x11:Int),x11=Int.sign a*Int.sign b->(x2=lim (dv x2)/\x6=lim (dv x6)/\x2.length<=1000/\x6.length<=1000)/\∀(x12:Int),x12=cmp3 (dv x2) (dv x6)->((0:Int)<=(((qsat (dv x2) (dv x4)):Nat):Int)/\(((qsat (dv x2) (dv x4)):Nat):Int)<18446744073709551616)/\∀(x13:Int),x13=(rnd (!decide (x11<0)==decide (c<0)) ((((qsat (dv x2) (dv x4)):Nat):Int)) (x12==0) x10 m).1->∀(x14:Bool),x14=(rnd (!decide (x11<0)==decide (c<0)) ((((qsat (dv x2) (dv x4)):Nat):Int)) (x12==0) x10 m).2->Q ⟨.tup [.ce (.int .i64 x13), .ce (.bool x14)],false,[],[]⟩))):=by kernel_rfl
theorem vbRMD(a b c m q i:Int)(xs ds:List (List Int))(K:HEx->LV->Prop):(nbodyT true CRMD anRMD (nthLoop Try.f27 0) (([.ce (.int .i64 a), .ce (.int .i64 b), .ce (.int .i64 c), .ce (.int .i64 m), .ce (.sl false [8] xs), .ce (.sl false [8] ds), .ce (.int .u64 q), .ce (.int .i64 i)],[])) K)=((decide (i>=0)=true->∀(x1:Int),x1=i%18446744073709551616->0<=x1/\∀(x2:Int),x2=IntKind.wrap .u64 ((1:Int)*2^min x1.toNat (64:Nat))->∀(x3:Int),x3=bor .u64 q x2->(0<=x3/\x3<18446744073709551616)/\∀(x4:List (List Int)),x4=lim x3.toNat->(dg x4/\dg ds/\x4.length<=100/\ds.length<=100)/\∀(x5:List (List Int)),x5=lim (dv x4*dv ds)->(x5=lim (dv x5)/\xs=lim (dv xs)/\x5.length<=1000/\xs.length<=1000)/\∀(x6:Int),x6=cmp3 (dv x5) (dv xs)->(decide (x6<=0)=true->∀(x7:Int),x7=i%18446744073709551616->0<=x7/\∀(x8:Int),x8=IntKind.wrap .u64 ((1:Int)*2^min x7.toNat (64:Nat))->∀(x9:Int),x9=bor .u64 q x8->(-9223372036854775808<=i-1/\i-1<=9223372036854775807)/\∀(x10:Int),x10=i-1->K .normal ([.ce (.int .i64 a), .ce (.int .i64 b), .ce (.int .i64 c), .ce (.int .i64 m), .ce (.sl false [8] xs), .ce (.sl false [8] ds), .ce (.int .u64 x9), .ce (.int .i64 x10)],[]))/\(decide (x6<=0)=false->(-9223372036854775808<=i-1/\i-1<=9223372036854775807)/\∀(x11:Int),x11=i-1->K .normal ([.ce (.int .i64 a), .ce (.int .i64 b), .ce (.int .i64 c), .ce (.int .i64 m), .ce (.sl false [8] xs), .ce (.sl false [8] ds), .ce (.int .u64 q), .ce (.int .i64 x11)],[])))/\(decide (i>=0)=false->K (.exit 0) ([.ce (.int .i64 a), .ce (.int .i64 b), .ce (.int .i64 c), .ce (.int .i64 m), .ce (.sl false [8] xs), .ce (.sl false [8] ds), .ce (.int .u64 q)],[]))):=by kernel_rfl
end Go.Proofs.Ythkoabbiiadbjaa
namespace U
open Go Go.HL
theorem wrap_u64{x:Int}(h0:0<=x)(h1:x<18446744073709551616):IntKind.u64.wrap x=x:=by
 simp[IntKind.wrap,IntKind.signed,IntKind.bits];omega
theorem pow64{j:Nat}(h:j<64):(2:Nat)^j<18446744073709551616:=by
 have:(2:Nat)^j<2^64:=Nat.pow_lt_pow_right (by omega) h;exact this
theorem bor_pow{q j m:Nat}(hq:q=2^(j+1)*m)(hj:j<64)(hlt:q+2^j<18446744073709551616):bor .u64 (q:Int) ((2^j:Nat):Int)=((q+2^j:Nat):Int):=by
 unfold bor bitsOp;show IntKind.u64.wrap (((BitVec.ofInt 64 (q:Int))|||(BitVec.ofInt 64 ((2^j:Nat):Int))).toNat:Int)=_;rw[BitVec.ofInt_natCast,BitVec.ofInt_natCast,BitVec.toNat_or,BitVec.toNat_ofNat,BitVec.toNat_ofNat];have h1:q%2^64=q:=Nat.mod_eq_of_lt (Nat.lt_of_le_of_lt (Nat.le_add_right _ _) hlt);have h2:2^j%2^64=2^j:=Nat.mod_eq_of_lt (pow64 hj);rw[h1,h2];have h3:q+2^j=q|||2^j:=by
  rw[hq];exact Nat.two_pow_add_eq_or_of_lt (Nat.pow_lt_pow_right (by omega) (by omega)) m
 rw[<-h3];exact wrap_u64 (by omega) (by omega)
theorem shl_one{j:Nat}(h:j<64):IntKind.u64.wrap (1*2^min ((j:Int)%18446744073709551616).toNat 64)=((2^j:Nat):Int):=by
 have e:((j:Int)%18446744073709551616).toNat=j:=by omega
 rw[e,Nat.min_eq_left (by omega),Int.one_mul];have e2:(2:Int)^j=((2^j:Nat):Int):=by simp
 rw[e2];exact wrap_u64 (Int.natCast_nonneg _) (by have:=pow64 h;omega)
theorem greedy(Q j:Nat):Q/2^j*2^j=if Q/2^(j+1)*2^(j+1)+2^j<=Q then Q/2^(j+1)*2^(j+1)+2^j else Q/2^(j+1)*2^(j+1):=by
 have hp:0<2^j:=Nat.pow_pos (by omega);have h1:Q/2^(j+1)=Q/2^j/2:=by rw[Nat.pow_succ,Nat.div_div_eq_div_mul]
 rw[h1,Nat.pow_succ];have h2:=Nat.div_add_mod Q (2^j);have h3:=Nat.mod_lt Q hp;have h4:=Nat.div_add_mod (Q/2^j) 2;have h5:Q/2^j%2=0∨Q/2^j%2=1:=by omega
 generalize Q/2^j=A at*;generalize A/2=B at*;rcases h5 with h5|h5<;>rw[h5]at h4
 . subst h4;have e:B*(2^j*2)=(2*B+0)*2^j:=by grind
   have e2:2^j*(2*B+0)=(2*B+0)*2^j:=by grind
   rw[e,if_neg (by omega)]
 . subst h4;have e:(2*B+1)*2^j=B*(2^j*2)+2^j:=by grind
   have e2:2^j*(2*B+1)=B*(2^j*2)+2^j:=by grind
   rw[e,if_pos (by omega)]
theorem qsat_test{x d s:Nat}(hd:0<d)(hs:s<18446744073709551616):s*d<=x↔s<=qsat x d:=by
 unfold qsat;rw[<-Nat.le_div_iff_mul_le hd];omega
theorem cmp3_le{x y:Nat}:cmp3 x y<=0↔x<=y:=by
 unfold cmp3;split
 . omega
 . split<;>omega
theorem natAbs_lim{a:Int}(h: -9223372036854775808<=a/\a<=9223372036854775807):a.natAbs<65536^4:=by omega
theorem prod_lim{a b:Int}(ha: -9223372036854775808<=a/\a<=9223372036854775807)(hb: -9223372036854775808<=b/\b<=9223372036854775807):a.natAbs*b.natAbs<65536^8:=by
 have h1:=natAbs_lim ha;have h2:=natAbs_lim hb;have:a.natAbs*b.natAbs<65536^4*65536^4:=Nat.mul_lt_mul'' h1 h2;exact this
end U
namespace Go.Proofs.Ythkoabbiiadbjaa
open Go Go.HL U
theorem sProd:Sound Try.prog 38 SProd:=by
 refine sound_of (C:=CProd) tabProd Try.func38 (by kernel_rfl) (by decide+kernel) (by kernel_rfl) rfl ⟨sMag,sLimbs,sMulL,trivial⟩ (loops0 (by kernel_rfl)) ?_;intro hA pA R h;unfold SProd at h;split at h;case h_2=>exfalso;exact h
 rename_i a b;have hq:=h.2;have h:=h.1;have l1:=lim_len 4 a.natAbs (natAbs_lim h.1);have l2:=lim_len 4 b.natAbs (natAbs_lim h.2);refine byVC (vcProd a b R) ⟨h.1,fun x1 e1=>⟨by omega,fun x2 e2=>⟨h.2,fun x3 e3=>⟨by omega,fun x4 e4=> ?_⟩⟩⟩⟩;have t1:x1.toNat=a.natAbs:=by omega
 have t3:x3.toNat=b.natAbs:=by omega
 rw[t1]at e2;rw[t3]at e4;subst e2 e4;refine⟨⟨dg_lim _,dg_lim _,by omega,by omega⟩,fun x5 e5=> ?_⟩;rw[dv_lim,dv_lim]at e5;subst e5;exact hq
def rtail(neg:Bool)(v:Int)(Q:Res->Prop):Prop:=(neg=true->(decide (v>(9223372036854775808:Int))=true->Q ⟨.tup [.ce (.int .i64 0), .ce (.bool false)],false,[],[]⟩)/\(decide (v>(9223372036854775808:Int))=false->((v==(0:Int))=true->Q ⟨.tup [.ce (.int .i64 0), .ce (.bool true)],false,[],[]⟩)/\((v==(0:Int))=false->∀x2:Int,x2=(v-1)%(18446744073709551616:Int)->((-9223372036854775808:Int)<=x2/\x2<=(9223372036854775807:Int))/\∀x3:Int,x3=x2->((-9223372036854775808:Int)<=(0:Int)-x3/\(0:Int)-x3<=(9223372036854775807:Int))/\∀x4:Int,x4=(0:Int)-x3->((-9223372036854775808:Int)<=x4-1/\x4-1<=(9223372036854775807:Int))/\∀x5:Int,x5=x4-1->Q ⟨.tup [.ce (.int .i64 x5), .ce (.bool true)],false,[],[]⟩)))/\(neg=false->(decide (v>(9223372036854775807:Int))=true->Q ⟨.tup [.ce (.int .i64 0), .ce (.bool false)],false,[],[]⟩)/\(decide (v>(9223372036854775807:Int))=false->((-9223372036854775808:Int)<=v/\v<=(9223372036854775807:Int))/\∀x6:Int,x6=v->Q ⟨.tup [.ce (.int .i64 x6), .ce (.bool true)],false,[],[]⟩))
theorem rtail_ok{neg e:Bool}{q h m:Int}{R:Res->Prop}(h0:0<=q)(hq:R ⟨.tup [.ce (.int .i64 (rnd neg q e h m).1), .ce (.bool (rnd neg q e h m).2)],false,[],[]⟩)(v:Int)(hv:v=if more neg e h m then q+1 else q)(hle:q<=9223372036854775808):rtail neg v R:=by
 unfold rnd at hq;rw[if_neg (by omega)]at hq;dsimp only at hq;rw[<-hv]at hq;have hv0:0<=v:=by rw[hv];split<;>omega
 unfold rtail;refine⟨fun hn=>⟨fun k=> ?_,fun k=>⟨fun z=> ?_,fun z x2 e2=> ?_⟩⟩,fun hn=>⟨fun k=> ?_,fun k=> ?_⟩⟩
 . have k:=of_decide_eq_true k;rw[hn,if_pos rfl,if_pos k]at hq;exact hq
 . have k:=of_decide_eq_false k;rw[hn,if_pos rfl,if_neg k]at hq;have z:v=0:=by simpa using z
   rw[z]at hq;exact hq
 . have k:=of_decide_eq_false k;rw[hn,if_pos rfl,if_neg k]at hq;have z:v≠0:=by simpa using z
   refine⟨by omega,fun x3 e3=>⟨by omega,fun x4 e4=>⟨by omega,fun x5 e5=> ?_⟩⟩⟩;rw[show x5= -v by omega];exact hq
 . have k:=of_decide_eq_true k;rw[hn,if_neg (by simp),if_pos k]at hq;exact hq
 . have k:=of_decide_eq_false k;rw[hn,if_neg (by simp),if_neg k]at hq;refine⟨by omega,fun x6 e6=> ?_⟩;rw[e6];exact hq
theorem sRounded:Sound Try.prog 44 SRounded:=by
 refine sound_of (C:=CRounded) [] Try.func44 (by kernel_rfl) (by decide+kernel) (by kernel_rfl) rfl trivial (loops0 (by kernel_rfl)) ?_;intro hA pA R h;unfold SRounded at h;split at h;case h_2=>exfalso;exact h
 rename_i neg q e hh m;have h0:=h.1;have hq:=h.2;clear h;have big:q>9223372036854775808->R ⟨.tup [.ce (.int .i64 0), .ce (.bool false)],false,[],[]⟩:=fun k=>by
  unfold rnd at hq;rw[if_pos k]at hq;exact hq
 have tail:=rtail_ok h0.1 hq;clear hq;refine byVC (vcRounded neg e q hh m R) ?_;repeat'(first
  |exact big (by simp_all;done)
  |refine(tail _ ?_ ?_:rtail neg _ R)
  |apply And.intro
  |intro _)
 all_goals first
  |(simp_all;done)
  |(simp_all[more];done)
  |(simp_all[more];omega)
  |(simp_all;omega)
theorem loopRMD:∀v Q,(LRMD v).wp Q->hloop CRMD anRMD (nthLoop Try.f27 0) v Q:=by
 intro v Q h;unfold LRMD at h;split at h;case h_2=>exact h.elim
 rename_i a b c m xs ds q i;obtain⟨⟨h1,h2,h3,h4,h5,h6,h7⟩,hq⟩:=h;subst h1 h2;have hQ:qsat (dv xs) (dv ds)<18446744073709551616:=by unfold qsat;omega
 have hdg:dg ds:=by rw[h4];exact dg_lim _
 refine hloop_rec (σ:=Nat) (fun j=>([.ce (.int .i64 a), .ce (.int .i64 b), .ce (.int .i64 c), .ce (.int .i64 m), .ce (.sl false [8] xs), .ce (.sl false [8] ds), .ce (.int .u64 ((qsat (dv xs) (dv ds)/2^j*2^j:Nat):Int)), .ce (.int .i64 ((j:Int)-1))],[])) (fun j=>j) (fun j=>j<=64) ?_ 64 (Nat.le_refl _)|>(fun x=>by rwa[show((qsat (dv xs) (dv ds)/2^64*2^64:Nat):Int)=0 by rw[Nat.div_eq_of_lt hQ];simp]at x);intro j hj K hn he _;refine byVB (vbRMD a b c m _ _ xs ds K) ⟨fun hlt x1 e1=>⟨by omega,fun x2 e2 x3 e3=> ?_⟩,fun hge=> ?_⟩
 . have hlt:=of_decide_eq_true hlt;obtain⟨k,rfl⟩:∃k,j=k+1:=⟨j-1,by omega⟩;have hk:k<64:=by omega
   have ek:(((k+1:Nat):Int)-1)=(k:Int):=by omega
   rw[ek]at e1;rw[e1,shl_one hk]at e2;have g:=greedy (qsat (dv xs) (dv ds)) k;have ub:qsat (dv xs) (dv ds)/2^(k+1)*2^(k+1)+2^k<18446744073709551616:=by
    have hp:(2:Nat)^(k+1)=2*2^k:=by rw[Nat.pow_succ];omega
    have h64:(18446744073709551616:Nat)=2^(63-k)*2^(k+1):=by
     rw[<-Nat.pow_add,show 63-k+(k+1)=64 by omega]
    have hlt2:qsat (dv xs) (dv ds)/2^(k+1)<2^(63-k):=by
     rw[Nat.div_lt_iff_lt_mul (Nat.pow_pos (by omega)),<-h64];exact hQ
    have:(qsat (dv xs) (dv ds)/2^(k+1)+1)*2^(k+1)<=2^(63-k)*2^(k+1):=Nat.mul_le_mul_right _ hlt2;rw[Nat.add_mul,Nat.one_mul,<-h64]at this;have hpos:0<2^k:=Nat.pow_pos (by omega);omega
   have e3':x3=((qsat (dv xs) (dv ds)/2^(k+1)*2^(k+1)+2^k:Nat):Int):=by
    rw[e3,e2];exact bor_pow (m:=qsat (dv xs) (dv ds)/2^(k+1)) (Nat.mul_comm _ _) hk ub
   have htest:=qsat_test (x:=dv xs) (d:=dv ds) (s:=qsat (dv xs) (dv ds)/2^(k+1)*2^(k+1)+2^k) h7 ub;generalize hs:qsat (dv xs) (dv ds)/2^(k+1)*2^(k+1)+2^k=s at*;have t3:x3.toNat=s:=by omega
   refine⟨by omega,fun x4 e4=> ?_⟩;rw[t3]at e4;subst e4;have l4:=lim_len 4 s (by omega);refine⟨⟨dg_lim _,hdg,by omega,by omega⟩,fun x5 e5=> ?_⟩;rw[dv_lim]at e5;subst e5;have l5:(lim (s*dv ds)).length<=8:=lim_len 8 _ (by
    have d1:=dv_lt hdg;have d2:65536^ds.length<=65536^4:=Nat.pow_le_pow_right (by omega) h6;have:s*dv ds<65536^4*65536^4:=Nat.mul_lt_mul'' (by omega) (by omega);exact this);refine⟨⟨(lim_dv_lim _).symm,h3,by omega,by omega⟩,fun x6 e6=> ?_⟩;rw[dv_lim]at e6;refine⟨fun hle x7 e7=>⟨by omega,fun x8 e8 x9 e9=>⟨by omega,fun x10 e10=> ?_⟩⟩,fun hle=>⟨by omega,fun x11 e11=> ?_⟩⟩
   . have hle:=of_decide_eq_true hle;rw[e6,cmp3_le,htest]at hle;rw[if_pos hle]at g;rw[ek]at e7;rw[e7,shl_one hk]at e8;have e9':x9=(s:Int):=by rw[e9,e8,<-e2,<-e3];exact e3'
     rw[show x10=(k:Int)-1 by omega,e9',<-g];exact hn k (by omega) (by omega)
   . have hle:=of_decide_eq_false hle;rw[e6,cmp3_le,htest]at hle;rw[if_neg hle]at g;rw[show x11=(k:Int)-1 by omega,<-g];exact hn k (by omega) (by omega)
 . have hge:=of_decide_eq_false hge;obtain rfl:j=0:=by omega
   have e:qsat (dv xs) (dv ds)/2^0*2^0=qsat (dv xs) (dv ds):=by simp
   rw[e];exact he _ _ hq
theorem sRMulDiv:Sound Try.prog 27 SRMulDiv:=by
 refine sound_of (C:=CRMD) tabRMD Try.func27 (by kernel_rfl) (by decide+kernel) (by kernel_rfl) rfl ⟨sRight,sProd,sMag,sLimbs,sMulL,sAddL,sCmp,sSgn,sRounded,trivial⟩ (loops1 (by kernel_rfl) (loopOK_of (an:=anRMD) (S:=LRMD) (by kernel_rfl) loopRMD)) ?_;intro hA pA R h;unfold SRMulDiv at h;split at h;case h_2=>exfalso;exact h
 rename_i a b c m;have hq:=h.2;have ha:=h.1.1;have hb:=h.1.2.1;have hc:=h.1.2.2;clear h;have l0:=lim_len 8 _ (prod_lim ha hb);have l1:=lim_len 4 _ (natAbs_lim hc);refine byVC (vcRMD a b c m R) ⟨fun z=> ?_,fun z=>⟨trivial,fun x1 e1=>⟨fun w=> ?_,fun w=>⟨⟨ha,hb⟩,fun x2 e2=>⟨hc,fun x3 e3=>⟨by omega,fun x4 e4=> ?_⟩⟩⟩⟩⟩⟩
 . have z:c=0:=by simpa using z
   unfold rmd at hq;rw[if_pos (.inl z)]at hq;exact hq
 . unfold rmd at hq;rw[if_pos (.inr (by
    rw[e1]at w;have w:m<0∨2<m:=by simpa using w
    omega))]at hq;exact hq
 . have z:c≠0:=by simpa using z
   have w:0<=m/\m<=2:=by rw[e1]at w;simpa using w
   unfold rmd at hq;rw[if_neg (by omega)]at hq;dsimp only at hq;have t3:x3.toNat=c.natAbs:=by omega
   rw[t3]at e4;subst e2 e4;simp only[dv_lim];have hQ:qsat (a.natAbs*b.natAbs) c.natAbs<18446744073709551616:=by unfold qsat;omega
   have hX:=prod_lim ha hb;have hD:=natAbs_lim hc;generalize a.natAbs*b.natAbs=X at*;have hD0:0<c.natAbs:=by omega
   generalize c.natAbs=D at*;generalize qsat X D=Q at*;refine⟨⟨trivial,trivial,trivial,trivial,l0,l1,hD0⟩,by omega,fun x5 e5=> ?_⟩;have t5:((Q:Nat):Int).toNat=Q:=by omega
   rw[t5]at e5;subst e5;have l5:=lim_len 4 Q (by omega);refine⟨⟨dg_lim _,dg_lim _,by omega,by omega⟩,fun x6 e6=> ?_⟩;rw[dv_lim]at e6;subst e6;have hQD:Q*D<65536^8:=by
    have:Q*D<65536^4*65536^4:=Nat.mul_lt_mul'' (by omega) (by omega);exact this
   generalize hY:Q*D=Y at*;have l6:=lim_len 8 Y hQD;refine⟨⟨dg_lim _,dg_lim _,by omega,by omega⟩,fun x7 e7=>⟨⟨dg_lim _,dg_lim _,by omega,by omega⟩,fun x8 e8=> ?_⟩⟩;rw[dv_lim]at e8;subst e7 e8;have l7:=lim_len 9 (X+X) (by omega);have l8:=lim_len 9 (Y+Y) (by omega);refine⟨⟨dg_lim _,dg_lim _,by omega,by omega⟩,fun x9 e9=> ?_⟩;rw[dv_lim]at e9;subst e9;have l9:=lim_len 9 (Y+Y+D) (by omega);simp only[dv_lim];refine⟨⟨trivial,trivial,by omega,by omega⟩,fun x10 e10=>⟨trivial,fun x11 e11=>⟨⟨trivial,trivial,by omega,by omega⟩,fun x12 e12=>⟨by omega,fun x13 e13 x14 e14=> ?_⟩⟩⟩⟩;subst e10 e11 e12;rw[e13,e14];exact hq
end Go.Proofs.Ythkoabbiiadbjaa
namespace U
def tab8:ByteArray:=⟨List.toArray (List.append (List.append (List.append [0,1,2,2,3,3,3,3] (List.append (List.replicate 8 4) (List.append (List.replicate 16 5) (List.replicate 32 6)))) (List.replicate 64 7)) (List.append (List.replicate 64 8) (List.replicate 64 8)))⟩
end U
namespace Go.Proofs.Ythkoabbiiadbjaa
open Go Go.HL U
def SLen(hA:List HV)(pA:List (List HC)):SR:=match hA,pA with
 |[.ce (.int .u64 x)],[]=> .det (x=4096) ⟨.ce (.int .i64 13),false,[],[]⟩
 |_,_=> .fail
noncomputable def CLen:Ctx:=⟨Try.prog,gam [],Try.f49.ntmps,[],[]⟩
theorem vcLen(x:Int)(Q:Res->Prop):(nfun true CLen Try.f49 (bodyOf Try.f49) [.ce (.int .u64 x)] [] Q)=((decide (x>=4294967296)=true->(0:Int)<=32/\∀(x1:Int),x1=x/4294967296->(decide (x1>=65536)=true->(0:Int)<=16/\∀(x2:Int),x2=x1/65536->(decide (x2>=256)=true->(0:Int)<=8/\∀(x3:Int),x3=x2/256->∀(x4:Int),x4=x3%256->(0<=x4/\x4<256)/\(-9223372036854775808<=strAt tab8 x4.toNat/\strAt tab8 x4.toNat<=9223372036854775807)/\∀(x5:Int),x5=strAt tab8 x4.toNat->(-9223372036854775808<=56+x5/\(56:Int)+x5<=9223372036854775807)/\∀(x6:Int),x6=56+x5->Q ⟨.ce (.int .i64 x6),false,[],[]⟩)/\(decide (x2>=256)=false->∀(x7:Int),x7=x2%256->(0<=x7/\x7<256)/\(-9223372036854775808<=strAt tab8 x7.toNat/\strAt tab8 x7.toNat<=9223372036854775807)/\∀(x8:Int),x8=strAt tab8 x7.toNat->(-9223372036854775808<=48+x8/\(48:Int)+x8<=9223372036854775807)/\∀(x9:Int),x9=48+x8->Q ⟨.ce (.int .i64 x9),false,[],[]⟩))/\(decide (x1>=65536)=false->(decide (x1>=256)=true->(0:Int)<=8/\∀(x10:Int),x10=x1/256->∀(x11:Int),x11=x10%256->(0<=x11/\x11<256)/\(-9223372036854775808<=strAt tab8 x11.toNat/\strAt tab8 x11.toNat<=9223372036854775807)/\∀(x12:Int),x12=strAt tab8 x11.toNat->(-9223372036854775808<=40+x12/\(40:Int)+x12<=9223372036854775807)/\∀(x13:Int),x13=40+x12->Q ⟨.ce (.int .i64 x13),false,[],[]⟩)/\(decide (x1>=256)=false->∀(x14:Int),x14=x1%256->(0<=x14/\x14<256)/\(-9223372036854775808<=strAt tab8 x14.toNat/\strAt tab8 x14.toNat<=9223372036854775807)/\∀(x15:Int),x15=strAt tab8 x14.toNat->(-9223372036854775808<=32+x15/\(32:Int)+x15<=9223372036854775807)/\∀(x16:Int),x16=32+x15->Q ⟨.ce (.int .i64 x16),false,[],[]⟩)))/\(decide (x>=4294967296)=false->(decide (x>=65536)=true->(0:Int)<=16/\∀(x17:Int),x17=x/65536->(decide (x17>=256)=true->(0:Int)<=8/\∀(x18:Int),x18=x17/256->∀(x19:Int),x19=x18%256->(0<=x19/\x19<256)/\(-9223372036854775808<=strAt tab8 x19.toNat/\strAt tab8 x19.toNat<=9223372036854775807)/\∀(x20:Int),x20=strAt tab8 x19.toNat->(-9223372036854775808<=24+x20/\(24:Int)+x20<=9223372036854775807)/\∀(x21:Int),x21=24+x20->Q ⟨.ce (.int .i64 x21),false,[],[]⟩)/\(decide (x17>=256)=false->∀(x22:Int),x22=x17%256->(0<=x22/\x22<256)/\(-9223372036854775808<=strAt tab8 x22.toNat/\strAt tab8 x22.toNat<=9223372036854775807)/\∀(x23:Int),x23=strAt tab8 x22.toNat->(-9223372036854775808<=16+x23/\(16:Int)+x23<=9223372036854775807)/\∀(x24:Int),x24=16+x23->Q ⟨.ce (.int .i64 x24),false,[],[]⟩))/\(decide (x>=65536)=false->(decide (x>=256)=true->(0:Int)<=8/\∀(x25:Int),x25=x/256->∀(x26:Int),x26=x25%256->(0<=x26/\x26<256)/\(-9223372036854775808<=strAt tab8 x26.toNat/\strAt tab8 x26.toNat<=9223372036854775807)/\∀(x27:Int),x27=strAt tab8 x26.toNat->(-9223372036854775808<=8+x27/\(8:Int)+x27<=9223372036854775807)/\∀(x28:Int),x28=8+x27->Q ⟨.ce (.int .i64 x28),false,[],[]⟩)/\(decide (x>=256)=false->∀(x29:Int),x29=x%256->(0<=x29/\x29<256)/\(-9223372036854775808<=strAt tab8 x29.toNat/\strAt tab8 x29.toNat<=9223372036854775807)/\∀(x30:Int),x30=strAt tab8 x29.toNat->(-9223372036854775808<=0+x30/\(0:Int)+x30<=9223372036854775807)/\∀(x31:Int),x31=0+x30->Q ⟨.ce (.int .i64 x31),false,[],[]⟩)))):=by kernel_rfl
def SLz(hA:List HV)(pA:List (List HC)):SR:=match hA,pA with
 |[.ce (.int .u64 x)],[]=> .det (x=4096) ⟨.ce (.int .i64 51),false,[],[]⟩
 |_,_=> .fail
def tabLz:List (FuncId×HL.Spec):=[(49,SLen)]
noncomputable def CLz:Ctx:=⟨Try.prog,gam tabLz,Try.f47.ntmps,[],[]⟩
theorem vcLz(x:Int)(Q:Res->Prop):(nfun true CLz Try.f47 (bodyOf Try.f47) [.ce (.int .u64 x)] [] Q)=(x=4096/\∀(x1:Int),x1=13->(-9223372036854775808<=64-x1/\(64:Int)-x1<=9223372036854775807)/\∀(x2:Int),x2=64-x1->Q ⟨.ce (.int .i64 x2),false,[],[]⟩):=by kernel_rfl
def SDivW(hA:List HV)(pA:List (List HC)):SR:=match hA,pA with
 |[.ce (.int .u64 h), .ce (.int .u64 x), .ce (.int .u64 y)],[]=> .det (y=4096/\(0<=h/\h<4096)/\(0<=x/\x<18446744073709551616)) ⟨.tup [.ce (.int .u64 ((h*18446744073709551616+x)/4096)), .ce (.int .u64 ((h*18446744073709551616+x)%4096))],false,[],[]⟩
 |_,_=> .fail
def anD0:LAnn:=⟨[2,8,9,10,11,13,14,15,16],[2,8,9,10,11,13,14,15],[],false⟩
def LD0(v:LV):LR:=match v with
 |([.ce (.int .u64 y), .ce (.int .u64 s), .ce (.int .u64 a), .ce (.int .u64 b), .ce (.int .u64 n), .ce (.int .u64 c), .ce (.int .u64 d), .ce (.int .u64 q), .ce (.int .u64 r)],[])=> .det (b=0/\(0<=q/\q<4294967296)/\(0<=r/\r<2147483648)/\0<=c/\c<4294967296) (.exit 0) ([.ce (.int .u64 y), .ce (.int .u64 s), .ce (.int .u64 a), .ce (.int .u64 b), .ce (.int .u64 n), .ce (.int .u64 c), .ce (.int .u64 d), .ce (.int .u64 q)],[])
 |_=> .fail
def anD2:LAnn:=⟨[2,8,9,10,14,15,16,17,18],[2,8,14,15,17,18],[],false⟩
def LD2(v:LV):LR:=match v with
 |([.ce (.int .u64 y), .ce (.int .u64 s), .ce (.int .u64 a), .ce (.int .u64 b), .ce (.int .u64 d), .ce (.int .u64 p), .ce (.int .u64 r), .ce (.int .u64 n), .ce (.int .u64 q)],[])=> .det (b=0/\(0<=q/\q<4294967296)/\(0<=r/\r<2147483648)/\0<=d/\d<4294967296) (.exit 2) ([.ce (.int .u64 y), .ce (.int .u64 s), .ce (.int .u64 d), .ce (.int .u64 p), .ce (.int .u64 n), .ce (.int .u64 q)],[])
 |_=> .fail
def tabDivW:List (FuncId×HL.Spec):=[(47,SLz)]
noncomputable def CDivW:Ctx:=⟨Try.prog,gam tabDivW,Try.f33.ntmps,[(17,anD0,LD0),(24,anD2,LD2)],[]⟩
theorem vbD0(y s a b n c d q r:Int)(K:HEx->LV->Prop):(nbodyT true CDivW anD0 (nthLoop Try.f33 0) (([.ce (.int .u64 y), .ce (.int .u64 s), .ce (.int .u64 a), .ce (.int .u64 b), .ce (.int .u64 n), .ce (.int .u64 c), .ce (.int .u64 d), .ce (.int .u64 q), .ce (.int .u64 r)],[])) K)=((decide (q>=4294967296)=true->∀(x1:Int),x1=(q-1)%18446744073709551616->∀(x2:Int),x2=(r+a)%18446744073709551616->(decide (x2>=4294967296)=true->K (.exit 0) ([.ce (.int .u64 y), .ce (.int .u64 s), .ce (.int .u64 a), .ce (.int .u64 b), .ce (.int .u64 n), .ce (.int .u64 c), .ce (.int .u64 d), .ce (.int .u64 x1)],[]))/\(decide (x2>=4294967296)=false->K .normal ([.ce (.int .u64 y), .ce (.int .u64 s), .ce (.int .u64 a), .ce (.int .u64 b), .ce (.int .u64 n), .ce (.int .u64 c), .ce (.int .u64 d), .ce (.int .u64 x1), .ce (.int .u64 x2)],[])))/\(decide (q>=4294967296)=false->∀(x3:Int),x3=q*b%18446744073709551616->∀(x4:Int),x4=4294967296*r%18446744073709551616->∀(x5:Int),x5=(x4+c)%18446744073709551616->(decide (x3>x5)=true->∀(x6:Int),x6=(q-1)%18446744073709551616->∀(x7:Int),x7=(r+a)%18446744073709551616->(decide (x7>=4294967296)=true->K (.exit 0) ([.ce (.int .u64 y), .ce (.int .u64 s), .ce (.int .u64 a), .ce (.int .u64 b), .ce (.int .u64 n), .ce (.int .u64 c), .ce (.int .u64 d), .ce (.int .u64 x6)],[]))/\(decide (x7>=4294967296)=false->K .normal ([.ce (.int .u64 y), .ce (.int .u64 s), .ce (.int .u64 a), .ce (.int .u64 b), .ce (.int .u64 n), .ce (.int .u64 c), .ce (.int .u64 d), .ce (.int .u64 x6), .ce (.int .u64 x7)],[])))/\(decide (x3>x5)=false->K (.exit 0) ([.ce (.int .u64 y), .ce (.int .u64 s), .ce (.int .u64 a), .ce (.int .u64 b), .ce (.int .u64 n), .ce (.int .u64 c), .ce (.int .u64 d), .ce (.int .u64 q)],[])))):=by kernel_rfl
theorem vbD2(y s a b d p r n q:Int)(K:HEx->LV->Prop):(nbodyT true CDivW anD2 (nthLoop Try.f33 1) (([.ce (.int .u64 y), .ce (.int .u64 s), .ce (.int .u64 a), .ce (.int .u64 b), .ce (.int .u64 d), .ce (.int .u64 p), .ce (.int .u64 r), .ce (.int .u64 n), .ce (.int .u64 q)],[])) K)=((decide (q>=4294967296)=true->∀(x1:Int),x1=(q-1)%18446744073709551616->∀(x2:Int),x2=(r+a)%18446744073709551616->(decide (x2>=4294967296)=true->K (.exit 2) ([.ce (.int .u64 y), .ce (.int .u64 s), .ce (.int .u64 d), .ce (.int .u64 p), .ce (.int .u64 n), .ce (.int .u64 x1)],[]))/\(decide (x2>=4294967296)=false->K .normal ([.ce (.int .u64 y), .ce (.int .u64 s), .ce (.int .u64 a), .ce (.int .u64 b), .ce (.int .u64 d), .ce (.int .u64 p), .ce (.int .u64 x2), .ce (.int .u64 n), .ce (.int .u64 x1)],[])))/\(decide (q>=4294967296)=false->∀(x3:Int),x3=q*b%18446744073709551616->∀(x4:Int),x4=4294967296*r%18446744073709551616->∀(x5:Int),x5=(x4+d)%18446744073709551616->(decide (x3>x5)=true->∀(x6:Int),x6=(q-1)%18446744073709551616->∀(x7:Int),x7=(r+a)%18446744073709551616->(decide (x7>=4294967296)=true->K (.exit 2) ([.ce (.int .u64 y), .ce (.int .u64 s), .ce (.int .u64 d), .ce (.int .u64 p), .ce (.int .u64 n), .ce (.int .u64 x6)],[]))/\(decide (x7>=4294967296)=false->K .normal ([.ce (.int .u64 y), .ce (.int .u64 s), .ce (.int .u64 a), .ce (.int .u64 b), .ce (.int .u64 d), .ce (.int .u64 p), .ce (.int .u64 x7), .ce (.int .u64 n), .ce (.int .u64 x6)],[])))/\(decide (x3>x5)=false->K (.exit 2) ([.ce (.int .u64 y), .ce (.int .u64 s), .ce (.int .u64 d), .ce (.int .u64 p), .ce (.int .u64 n), .ce (.int .u64 q)],[])))):=by kernel_rfl
theorem vcDivW(h x y:Int)(Q:Res->Prop):(nfun true CDivW Try.f33 (bodyOf Try.f33) [.ce (.int .u64 h), .ce (.int .u64 x), .ce (.int .u64 y)] [] Q)=(((y==0)=true->False)/\((y==0)=false->(decide (y<=h)=true->False)/\(decide (y<=h)=false->((h==0)=true->y≠0/\∀(x1:Int),x1=Int.tdiv x y%18446744073709551616->y≠0/\∀(x2:Int),x2=Int.tmod x y->Q ⟨.tup [.ce (.int .u64 x1), .ce (.int .u64 x2)],false,[],[]⟩)/\((h==0)=false->y=4096/\∀(x3:Int),x3=51->∀(x4:Int),x4=x3%18446744073709551616->0<=x4/\∀(x5:Int),x5=IntKind.wrap .u64 (y*2^min x4.toNat (64:Nat))->(0:Int)<=32/\∀(x6:Int),x6=x5/4294967296->(0<=x5/\x5<=18446744073709551615/\(4294967295:Int)<=18446744073709551615)/\∀(x7:Int),x7=x5%4294967296->0<=x4/\∀(x8:Int),x8=IntKind.wrap .u64 (h*2^min x4.toNat (64:Nat))->∀(x9:Int),x9=((64:Int)-x4)%18446744073709551616->0<=x9/\∀(x10:Int),x10=Int.fdiv x ((2:Int)^min x9.toNat (64:Nat))->∀(x11:Int),x11=bor .u64 x8 x10->0<=x4/\∀(x12:Int),x12=IntKind.wrap .u64 (x*2^min x4.toNat (64:Nat))->(0:Int)<=32/\∀(x13:Int),x13=x12/4294967296->(0<=x12/\x12<=18446744073709551615/\(4294967295:Int)<=18446744073709551615)/\∀(x14:Int),x14=x12%4294967296->x6≠0/\∀(x15:Int),x15=Int.tdiv x11 x6%18446744073709551616->∀(x16:Int),x16=x15*x6%18446744073709551616->∀(x17:Int),x17=(x11-x16)%18446744073709551616->(x7=0/\(0<=x15/\x15<4294967296)/\(0<=x17/\x17<2147483648)/\0<=x13/\x13<4294967296)/\∀(x18:Int),x18=x11*4294967296%18446744073709551616->∀(x19:Int),x19=(x18+x13)%18446744073709551616->∀(x20:Int),x20=x15*x5%18446744073709551616->∀(x21:Int),x21=(x19-x20)%18446744073709551616->x6≠0/\∀(x22:Int),x22=Int.tdiv x21 x6%18446744073709551616->∀(x23:Int),x23=x22*x6%18446744073709551616->∀(x24:Int),x24=(x21-x23)%18446744073709551616->(x7=0/\(0<=x22/\x22<4294967296)/\(0<=x24/\x24<2147483648)/\0<=x14/\x14<4294967296)/\∀(x25:Int),x25=x15*4294967296%18446744073709551616->∀(x26:Int),x26=(x25+x22)%18446744073709551616->∀(x27:Int),x27=x21*4294967296%18446744073709551616->∀(x28:Int),x28=(x27+x14)%18446744073709551616->∀(x29:Int),x29=x22*x5%18446744073709551616->∀(x30:Int),x30=(x28-x29)%18446744073709551616->0<=x4/\∀(x31:Int),x31=Int.fdiv x30 ((2:Int)^min x4.toNat (nat_lit 64))->Q ⟨.tup [.ce (.int .u64 x26), .ce (.int .u64 x31)],false,[],[]⟩)))):=by kernel_rfl
def SMulDivW(hA:List HV)(pA:List (List HC)):SR:=match hA,pA with
 |[.ce (.int .i64 a), .ce (.int .i64 b), .ce (.int .i64 c), .ce (.int .i64 m)],[]=> .det ((0<=a/\a<=9223372036854775807)/\(0<=b/\b<=9223372036854775807)/\c=4096/\m=0/\a*b<=36893488147419103232) ⟨.tup [.ce (.int .i64 (a*b/4096)), .ce (.bool true)],false,[],[]⟩
 |_,_=> .fail
def tabMulDivW:List (FuncId×HL.Spec):=[(30,SKnown),(31,SProduct),(32,SSize),(33,SDivW),(34,SSign),(35,SGrows),(36,SSigned)]
noncomputable def CMulDivW:Ctx:=⟨Try.prog,gam tabMulDivW,Try.f24.ntmps,[],[]⟩
theorem vcMulDivW(a b c m:Int)(Q:Res->Prop):(nfun true CMulDivW Try.f24 (bodyOf Try.f24) [.ce (.int .i64 a), .ce (.int .i64 b), .ce (.int .i64 c), .ce (.int .i64 m)] [] Q)=(((c==0)=true->Q ⟨.tup [.ce (.int .i64 0), .ce (.bool false)],false,[],[]⟩)/\((c==0)=false->True/\∀(x1:Bool),x1=decide (0<=m/\m<=2)->((!x1)=true->Q ⟨.tup [.ce (.int .i64 0), .ce (.bool false)],false,[],[]⟩)/\((!x1)=false->(-9223372036854775808<=a/\a<=9223372036854775807)/\∀(x2:Int),x2=(((Int.natAbs a):Nat):Int)->(-9223372036854775808<=b/\b<=9223372036854775807)/\∀(x3:Int),x3=(((Int.natAbs b):Nat):Int)->(0<=x2/\x2<18446744073709551616/\0<=x3/\x3<18446744073709551616)/\∀(x4:Int),x4=x2*x3/18446744073709551616->∀(x5:Int),x5=x2*x3%18446744073709551616->(-9223372036854775808<=c/\c<=9223372036854775807)/\∀(x6:Int),x6=(((Int.natAbs c):Nat):Int)->(decide (x4>=x6)=true->Q ⟨.tup [.ce (.int .i64 0), .ce (.bool false)],false,[],[]⟩)/\(decide (x4>=x6)=false->(x6=4096/\(0<=x4/\x4<4096)/\0<=x5/\x5<18446744073709551616)/\∀(x7:Int),x7=(x4*18446744073709551616+x5)/4096->∀(x8:Int),x8=(x4*18446744073709551616+x5)%4096->True/\∀(x9:Int),x9=Int.sign a*Int.sign b->((!decide (x9<0)==decide (c<0))=true->True/\∀(x10:Int),x10=Int.sign a*Int.sign b->∀(x11:Int),x11=(x6-x8)%18446744073709551616->(decide (x8>x11)=true->True/\∀(x12:Bool),x12=grw m (1:Int) (decide (x8>0)) (x10 !=0)->(x12=true->∀(x13:Int),x13=(x7+1)%18446744073709551616->((x13==0)=true->Q ⟨.tup [.ce (.int .i64 0), .ce (.bool false)],false,[],[]⟩)/\((x13==0)=false->(0<=x13/\x13<=9223372036854775807)/\∀(x14:Int),(x14=if(x10 !=0)=true then-x13 else x13)->∀(x15:Bool),x15=true->Q ⟨.tup [.ce (.int .i64 x14), .ce (.bool x15)],false,[],[]⟩))/\(x12=false->(0<=x7/\x7<=9223372036854775807)/\∀(x16:Int),(x16=if(x10 !=0)=true then-x7 else x7)->∀(x17:Bool),x17=true->Q ⟨.tup [.ce (.int .i64 x16), .ce (.bool x17)],false,[],[]⟩))/\(decide (x8>x11)=false->∀(x18:Int),x18=(x6-x8)%18446744073709551616->(decide (x8<x18)=true->True/\∀(x19:Bool),x19=grw m (-1:Int) (decide (x8>0)) (x10 !=0)->(x19=true->∀(x20:Int),x20=(x7+1)%18446744073709551616->((x20==0)=true->Q ⟨.tup [.ce (.int .i64 0), .ce (.bool false)],false,[],[]⟩)/\((x20==0)=false->(0<=x20/\x20<=9223372036854775807)/\∀(x21:Int),(x21=if(x10 !=0)=true then-x20 else x20)->∀(x22:Bool),x22=true->Q ⟨.tup [.ce (.int .i64 x21), .ce (.bool x22)],false,[],[]⟩))/\(x19=false->(0<=x7/\x7<=9223372036854775807)/\∀(x23:Int),(x23=if(x10 !=0)=true then-x7 else x7)->∀(x24:Bool),x24=true->Q ⟨.tup [.ce (.int .i64 x23), .ce (.bool x24)],false,[],[]⟩))/\(decide (x8<x18)=false->True/\∀(x25:Bool),x25=grw m (0:Int) (decide (x8>0)) (x10 !=0)->(x25=true->∀(x26:Int),x26=(x7+1)%18446744073709551616->((x26==0)=true->Q ⟨.tup [.ce (.int .i64 0), .ce (.bool false)],false,[],[]⟩)/\((x26==0)=false->(0<=x26/\x26<=9223372036854775807)/\∀(x27:Int),(x27=if(x10 !=0)=true then-x26 else x26)->∀(x28:Bool),x28=true->Q ⟨.tup [.ce (.int .i64 x27), .ce (.bool x28)],false,[],[]⟩))/\(x25=false->(0<=x7/\x7<=9223372036854775807)/\∀(x29:Int),(x29=if(x10 !=0)=true then-x7 else x7)->∀(x30:Bool),x30=true->Q ⟨.tup [.ce (.int .i64 x29), .ce (.bool x30)],false,[],[]⟩))))/\((!decide (x9<0)==decide (c<0))=false->∀(x31:Int),x31=(x6-x8)%18446744073709551616->(decide (x8>x31)=true->True/\∀(x32:Bool),x32=grw m (1:Int) (decide (x8>0)) false->(x32=true->∀(x33:Int),x33=(x7+1)%18446744073709551616->((x33==0)=true->Q ⟨.tup [.ce (.int .i64 0), .ce (.bool false)],false,[],[]⟩)/\((x33==0)=false->(0<=x33/\x33<=9223372036854775807)/\∀(x34:Int),(x34=if false=true then-x33 else x33)->∀(x35:Bool),x35=true->Q ⟨.tup [.ce (.int .i64 x34), .ce (.bool x35)],false,[],[]⟩))/\(x32=false->(0<=x7/\x7<=9223372036854775807)/\∀(x36:Int),(x36=if false=true then-x7 else x7)->∀(x37:Bool),x37=true->Q ⟨.tup [.ce (.int .i64 x36), .ce (.bool x37)],false,[],[]⟩))/\(decide (x8>x31)=false->∀(x38:Int),x38=(x6-x8)%18446744073709551616->(decide (x8<x38)=true->True/\∀(x39:Bool),x39=grw m (-1:Int) (decide (x8>0)) false->(x39=true->∀(x40:Int),x40=(x7+1)%18446744073709551616->((x40==0)=true->Q ⟨.tup [.ce (.int .i64 0), .ce (.bool false)],false,[],[]⟩)/\((x40==0)=false->(0<=x40/\x40<=9223372036854775807)/\∀(x41:Int),(x41=if false=true then-x40 else x40)->∀(x42:Bool),x42=true->Q ⟨.tup [.ce (.int .i64 x41), .ce (.bool x42)],false,[],[]⟩))/\(x39=false->(0<=x7/\x7<=9223372036854775807)/\∀(x43:Int),(x43=if false=true then-x7 else x7)->∀(x44:Bool),x44=true->Q ⟨.tup [.ce (.int .i64 x43), .ce (.bool x44)],false,[],[]⟩))/\(decide (x8<x38)=false->True/\∀(x45:Bool),x45=grw m (0:Int) (decide (x8>0)) false->(x45=true->∀(x46:Int),x46=(x7+1)%18446744073709551616->((x46==0)=true->Q ⟨.tup [.ce (.int .i64 0), .ce (.bool false)],false,[],[]⟩)/\((x46==0)=false->(0<=x46/\x46<=9223372036854775807)/\∀(x47:Int),(x47=if false=true then-x46 else x46)->∀(x48:Bool),x48=true->Q ⟨.tup [.ce (.int .i64 x47), .ce (.bool x48)],false,[],[]⟩))/\(x45=false->(0<=x7/\x7<=9223372036854775807)/\∀(x49:Int),(x49=if false=true then-x7 else x7)->∀(x50:Bool),x50=true->Q ⟨.tup [.ce (.int .i64 x49), .ce (.bool x50)],false,[],[]⟩)))))))):=by kernel_rfl
def SFolW(hA:List HV)(pA:List (List HC)):SR:=match hA,pA with
 |[.ce (.int .i64 l), .ce (.int .i64 w)],[]=> .det ((0<=l/\l<=16777216)/\0<=w/\w<=2199023255552) ⟨.ce (.int .i64 (l*w/4096)),false,[],[]⟩
 |_,_=> .fail
def tabFolW:List (FuncId×HL.Spec):=[(24,SMulDivW)]
noncomputable def CFolW:Ctx:=⟨Try.prog,gam tabFolW,Try.f13.ntmps,[],[]⟩
theorem vcFolW(l w:Int)(Q:Res->Prop):(nfun true CFolW Try.f13 (bodyOf Try.f13) [.ce (.int .i64 l), .ce (.int .i64 w)] [] Q)=(((0<=l/\l<=9223372036854775807)/\(0<=w/\w<=9223372036854775807)/\(4096:Int)=4096/\(0:Int)=0/\l*w<=36893488147419103232)/\∀(x1:Int),x1=l*w/4096->∀(x2:Bool),x2=true->Q ⟨.ce (.int .i64 x1),false,[],[]⟩):=by kernel_rfl
def tabFolR:List (FuncId×HL.Spec):=[(27,SRMulDiv)]
noncomputable def CFolR:Ctx:=⟨Try.prog,gam tabFolR,Try.f15.ntmps,[],[]⟩
theorem vcFolR(l w:Int)(Q:Res->Prop):(nfun true CFolR Try.f15 (bodyOf Try.f15) [.ce (.int .i64 l), .ce (.int .i64 w)] [] Q)=(((-9223372036854775808<=l/\l<=9223372036854775807)/\(-9223372036854775808<=w/\w<=9223372036854775807)/\ -9223372036854775808<=4096/\(4096:Int)<=9223372036854775807)/\∀(x1:Int),x1=(rmd l w (4096:Int) (0:Int)).1->∀(x2:Bool),x2=(rmd l w (4096:Int) (0:Int)).2->Q ⟨.ce (.int .i64 x1),false,[],[]⟩):=by kernel_rfl
def SAngW(hA:List HV)(pA:List (List HC)):SR:=match hA,pA with
 |[.ce (.int .i64 l), .ce (.int .i64 w)],[]=> .det ((0<l/\l<=9223372036854775807)/\0<=w/\w<=1099511627776) ⟨.ce (.int .i64 (4096*w/l)),false,[],[]⟩
 |_,_=> .fail
def tabAngR:List (FuncId×HL.Spec):=[(25,SFloor)]
noncomputable def CAngR:Ctx:=⟨Try.prog,gam tabAngR,Try.f16.ntmps,[],[]⟩
theorem vcAngR(l w:Int)(Q:Res->Prop):(nfun true CAngR Try.f16 (bodyOf Try.f16) [.ce (.int .i64 l), .ce (.int .i64 w)] [] Q)=((-9223372036854775808<=4096*w/\4096*w<=9223372036854775807)/\∀(x1:Int),x1=4096*w->((-9223372036854775807<=x1/\x1<=9223372036854775807)/\0<l)/\∀(x2:Int),x2=x1/l->Q ⟨.ce (.int .i64 x2),false,[],[]⟩):=by kernel_rfl
def SLFollow(hA:List HV)(pA:List (List HC)):SR:=match hA,pA with
 |[.ce (.int .i64 _), .ce (.int .i64 _), .ce (.int .i64 _)],[]=> .det True ⟨.ce (.bool true),false,[],[]⟩
 |_,_=> .fail
def tabLFollow:List (FuncId×HL.Spec):=[(8,SAwake),(9,SMod),(13,SFolW),(14,SAngle),(15,SFolW),(16,SAngW)]
noncomputable def CLFollow:Ctx:=⟨Try.prog,gam tabLFollow,Try.f5.ntmps,[],[]⟩
theorem vcLFollow(l w m:Int)(Q:Res->Prop):(nfun true CLFollow Try.f5 (bodyOf Try.f5) [.ce (.int .i64 l), .ce (.int .i64 w), .ce (.int .i64 m)] [] Q)=(True/\∀(x1:Bool),x1=true->((!x1)=true->Q ⟨.ce (.bool false),false,[],[]⟩)/\((!x1)=false->((0:Int)<16777216/\(16777216:Int)<=4611686018427387904)/\∀(x2:Int),x2=l%16777216->(-9223372036854775808<=1+x2/\(1:Int)+x2<=9223372036854775807)/\∀(x3:Int),x3=1+x2->((0:Int)<1099511627776/\(1099511627776:Int)<=4611686018427387904)/\∀(x4:Int),x4=w%1099511627776->((0:Int)<1073741824/\(1073741824:Int)<=4611686018427387904)/\∀(x5:Int),x5=m%1073741824->((0<=x3/\x3<=16777216)/\0<=x4/\x4<=2199023255552)/\∀(x6:Int),x6=x3*x4/4096->(-9223372036854775808<=x4+x5/\x4+x5<=9223372036854775807)/\∀(x7:Int),x7=x4+x5->((0<=x3/\x3<=16777216)/\0<=x7/\x7<=2199023255552)/\∀(x8:Int),x8=x3*x7/4096->(1073741824:Int)≠(0:Int)/\∀(x9:Int),x9=Int.tmod x4 1073741824->((0<x3/\x3<=9223372036854775807)/\0<=x9/\x9<=1099511627776)/\∀(x10:Int),x10=4096*x9/x3->(1073741824:Int)≠(0:Int)/\∀(x11:Int),x11=Int.tmod x4 1073741824->(-9223372036854775808<=x11+x3/\x11+x3<=9223372036854775807)/\∀(x12:Int),x12=x11+x3->((0<x3/\x3<=9223372036854775807)/\0<=x12/\x12<=1099511627776)/\∀(x13:Int),x13=4096*x12/x3->((0<=x3/\x3<=16777216)/\0<=x4/\x4<=2199023255552)/\∀(x14:Int),x14=x3*x4/4096->((x6==x14)=true->(1073741824:Int)≠(0:Int)/\∀(x15:Int),x15=Int.tmod x4 1073741824->((0<x3/\x3<=9223372036854775807)/\0<=x15/\x15<=1099511627776)/\∀(x16:Int),x16=4096*x15/x3->((x10==x16)=true->(decide (x6<=x8)=true->(-9223372036854775808<=x13-x10/\x13-x10<=9223372036854775807)/\∀(x17:Int),x17=x13-x10->((x17==4096)=true->(-9223372036854775808<=x4+4096/\x4+4096<=9223372036854775807)/\∀(x18:Int),x18=x4+4096->((0<=x3/\x3<=16777216)/\0<=x18/\x18<=2199023255552)/\∀(x19:Int),x19=x3*x18/4096->(-9223372036854775808<=x6+x3/\x6+x3<=9223372036854775807)/\∀(x20:Int),x20=x6+x3->Q ⟨.ce (.bool (x19==x20)),false,[],[]⟩)/\((x17==4096)=false->Q ⟨.ce (.bool false),false,[],[]⟩))/\(decide (x6<=x8)=false->Q ⟨.ce (.bool false),false,[],[]⟩))/\((x10==x16)=false->Q ⟨.ce (.bool false),false,[],[]⟩))/\((x6==x14)=false->Q ⟨.ce (.bool false),false,[],[]⟩))):=by kernel_rfl
end Go.Proofs.Ythkoabbiiadbjaa
namespace U
open Go Go.HL
theorem wrap_mod(x:Int):IntKind.u64.wrap x=x%18446744073709551616:=by
 simp[IntKind.wrap,IntKind.signed,IntKind.bits]
theorem p51:(2:Int)^min (51:Int).toNat 64=2251799813685248:=by decide+kernel
theorem p13:(2:Int)^min (13:Int).toNat 64=8192:=by decide+kernel
theorem bor_hi{k b:Nat}(hk:k<4096)(hb:b<2251799813685248):bor .u64 ((2251799813685248*k:Nat):Int) (b:Int)=((2251799813685248*k+b:Nat):Int):=by
 unfold bor bitsOp;show IntKind.u64.wrap (((BitVec.ofInt 64 ((2251799813685248*k:Nat):Int))|||(BitVec.ofInt 64 ((b:Nat):Int))).toNat:Int)=_;rw[BitVec.ofInt_natCast,BitVec.ofInt_natCast,BitVec.toNat_or,BitVec.toNat_ofNat,BitVec.toNat_ofNat];have h1:(2251799813685248*k)%2^64=2251799813685248*k:=Nat.mod_eq_of_lt (by omega);have h2:b%2^64=b:=Nat.mod_eq_of_lt (by omega);rw[h1,h2];have h3:2251799813685248*k+b=2251799813685248*k|||b:=Nat.two_pow_add_eq_or_of_lt (i:=51) hb k;rw[<-h3,wrap_mod];omega
theorem rmdW{a b:Int}(ha:0<=a)(hb:0<=b)(h:a*b<=36893488147419103232):rmd a b 4096 0=(a*b/4096,true):=by
 unfold rmd;rw[if_neg (by omega)];dsimp only;have hX:(a.natAbs*b.natAbs:Nat)=(a*b).natAbs:=(Int.natAbs_mul a b).symm;have hsg:a.sign*b.sign=(a*b).sign:=(Int.sign_mul a b).symm;have hn:=Int.mul_nonneg ha hb;rw[hX,hsg];generalize a*b=n at*;have h1:(decide (n.sign<0) !=decide ((4096:Int)<0))=false:=by
  have:¬n.sign<0:=by
   rcases Int.lt_or_eq_of_le hn with h|h
   . rw[Int.sign_eq_one_of_pos h];decide
   . rw[<-h];decide
  rw[decide_eq_false this];rfl
 rw[h1];have hq:qsat n.natAbs (4096:Int).natAbs=n.natAbs/4096:=by
  unfold qsat;show min (n.natAbs/4096) _=_;omega
 rw[hq];unfold rnd more;rw[if_neg (by omega)];simp only[if_true,Bool.false_and,Bool.false_eq_true,if_false];rw[if_neg (by omega)];congr 1;omega
end U
namespace Go.Proofs.Ythkoabbiiadbjaa
open Go Go.HL U
theorem sLen:Sound Try.prog 49 SLen:=by
 refine sound_of (C:=CLen) [] Try.func49 (by kernel_rfl) (by decide+kernel) (by kernel_rfl) rfl trivial (loops0 (by kernel_rfl)) ?_;intro hA pA R h;unfold SLen at h;split at h;case h_2=>exfalso;exact h
 rename_i x;obtain⟨rfl,hq⟩:=h;refine byVC (vcLen 4096 R) ⟨fun g=>absurd (of_decide_eq_true g) (by omega),fun _=>⟨fun g=>absurd (of_decide_eq_true g) (by omega),fun _=>⟨fun _=>⟨by decide,fun x25 e25 x26 e26=> ?_⟩,fun g=>absurd (of_decide_eq_false g) (by omega)⟩⟩⟩;obtain rfl:x26=16:=by omega
 refine⟨by omega,by decide+kernel,fun x27 e27=> ?_⟩;have e27':x27=5:=e27.trans (by decide+kernel);subst e27';exact⟨by omega,fun x28 e28=>by subst e28;exact hq⟩
theorem sLz:Sound Try.prog 47 SLz:=by
 refine sound_of (C:=CLz) tabLz Try.func47 (by kernel_rfl) (by decide+kernel) (by kernel_rfl) rfl ⟨sLen,trivial⟩ (loops0 (by kernel_rfl)) ?_;intro hA pA R h;unfold SLz at h;split at h;case h_2=>exfalso;exact h
 rename_i x;obtain⟨rfl,hq⟩:=h;exact byVC (vcLz 4096 R) ⟨rfl,fun x1 e1=>⟨by omega,fun x2 e2=>by subst e1 e2;exact hq⟩⟩
theorem loopD0:∀v Q,(LD0 v).wp Q->hloop CDivW anD0 (nthLoop Try.f33 0) v Q:=by
 intro v Q h;unfold LD0 at h;split at h;case h_2=>exact h.elim
 rename_i y s a b n c d q r;obtain⟨⟨rfl,hq,hr,hc⟩,hQ⟩:=h;refine hloop_rec (σ:=Unit) (fun _=>([.ce (.int .u64 y), .ce (.int .u64 s), .ce (.int .u64 a), .ce (.int .u64 0), .ce (.int .u64 n), .ce (.int .u64 c), .ce (.int .u64 d), .ce (.int .u64 q), .ce (.int .u64 r)],[])) (fun _=>0) (fun _=>True) ?_ () trivial;intro _ _ K hn he _;refine byVB (vbD0 y s a 0 n c d q r K) ⟨fun g=>absurd (of_decide_eq_true g) (by omega),fun _ x3 e3 x4 e4 x5 e5=>⟨fun g=>absurd (of_decide_eq_true g) (by omega),fun _=>he _ _ hQ⟩⟩
theorem loopD2:∀v Q,(LD2 v).wp Q->hloop CDivW anD2 (nthLoop Try.f33 1) v Q:=by
 intro v Q h;unfold LD2 at h;split at h;case h_2=>exact h.elim
 rename_i y s a b d p r n q;obtain⟨⟨rfl,hq,hr,hc⟩,hQ⟩:=h;refine hloop_rec (σ:=Unit) (fun _=>([.ce (.int .u64 y), .ce (.int .u64 s), .ce (.int .u64 a), .ce (.int .u64 0), .ce (.int .u64 d), .ce (.int .u64 p), .ce (.int .u64 r), .ce (.int .u64 n), .ce (.int .u64 q)],[])) (fun _=>0) (fun _=>True) ?_ () trivial;intro _ _ K hn he _;refine byVB (vbD2 y s a 0 d p r n q K) ⟨fun g=>absurd (of_decide_eq_true g) (by omega),fun _ x3 e3 x4 e4 x5 e5=>⟨fun g=>absurd (of_decide_eq_true g) (by omega),fun _=>he _ _ hQ⟩⟩
theorem sDivW:Sound Try.prog 33 SDivW:=by
 refine sound_of (C:=CDivW) tabDivW Try.func33 (by kernel_rfl) (by decide+kernel) (by kernel_rfl) rfl ⟨sLz,trivial⟩ (loops2 (by kernel_rfl) (loopOK_of (an:=anD0) (S:=LD0) (by kernel_rfl) loopD0) (loopOK_of (an:=anD2) (S:=LD2) (by kernel_rfl) loopD2)) ?_;intro hA pA R h;unfold SDivW at h;split at h;case h_2=>exfalso;exact h
 rename_i hi x y;obtain⟨⟨rfl,hh,hx⟩,hq⟩:=h;have key:∀a b:Int,a=(hi*18446744073709551616+x)/4096->b=(hi*18446744073709551616+x)%4096->R ⟨.tup [.ce (.int .u64 a), .ce (.int .u64 b)],false,[],[]⟩:=fun a b e1 e2=>by subst e1 e2;exact hq
 refine byVC (vcDivW hi x 4096 R) ⟨fun g=>by simp at g,fun _=>⟨fun g=>absurd (of_decide_eq_true g) (by omega),fun _=>⟨fun g=> ?_,fun g=>⟨rfl,fun x3 e3 x4 e4=> ?_⟩⟩⟩⟩
 . have g:hi=0:=by simpa using g
   subst g;refine⟨by decide,fun x1 e1=>⟨by decide,fun x2 e2=>key _ _ ?_ ?_⟩⟩
   . rw[tdiv_pos hx.1]at e1;omega
   . rw[tmod_pos hx.1]at e2;omega
 obtain rfl:x4=51:=by omega
 refine⟨by decide,fun x5 e5=> ?_⟩;obtain rfl:x5=9223372036854775808:=e5.trans (by decide+kernel);refine⟨by decide,fun x6 e6=>⟨by decide,fun x7 e7=>⟨by decide,fun x8 e8 x9 e9=> ?_⟩⟩⟩;obtain rfl:x6=2147483648:=by omega
 obtain rfl:x7=0:=by omega
 obtain rfl:x9=13:=by omega
 rw[p51,wrap_mod]at e8;refine⟨by decide,fun x10 e10 x11 e11=>⟨by decide,fun x12 e12=> ?_⟩⟩;rw[p13,Int.fdiv_eq_ediv_of_nonneg _ (by decide)]at e10;rw[p51,wrap_mod]at e12;have e11':x11=hi*2251799813685248+x10:=by
  rw[e11,show x8=((2251799813685248*hi.toNat:Nat):Int)by omega,show x10=(x10.toNat:Int)by omega,bor_hi (by omega) (by omega)];omega
 clear e11 e5 e6 e7;refine⟨by decide,fun x13 e13=>⟨⟨by omega,by omega,by decide⟩,fun x14 e14=>⟨by decide,fun x15 e15 x16 e16 x17 e17=> ?_⟩⟩⟩;rw[tdiv_pos (by omega)]at e15;have f15:x15=x11/2147483648:=by omega
 have f17:x17=x11%2147483648:=by omega
 have f12:x12=(x%8192)*2251799813685248:=by omega
 have f13:x13=(x%8192)*524288:=by omega
 have f14:x14=0:=by omega
 clear e15 e16 e17 e12 e13 e14;refine⟨⟨rfl,by omega,by omega,by omega,by omega⟩,fun x18 e18 x19 e19 x20 e20 x21 e21=>⟨by decide,fun x22 e22 x23 e23 x24 e24=> ?_⟩⟩;have f21:x21=x17*4294967296+x13:=by omega
 clear e18 e19 e20 e21;rw[tdiv_pos (by omega)]at e22;have f22:x22=x21/2147483648:=by omega
 have f24:x24=x21%2147483648:=by omega
 clear e22 e23 e24;have g22:x22=(x17*8192+x%8192)/4096:=by omega
 have g24:x24=((x17*8192+x%8192)%4096)*524288:=by omega
 refine⟨⟨rfl,by omega,by omega,by omega,by omega⟩,fun x25 e25 x26 e26 x27 e27 x28 e28 x29 e29 x30 e30=>⟨by decide,fun x31 e31=> ?_⟩⟩;have e31':x31=x30/2251799813685248:=by
  rw[e31,show(2:Int)^min (51:Int).toNat (nat_lit 64)=2251799813685248 from p51,Int.fdiv_eq_ediv_of_nonneg _ (by decide)]
 have f30:x30=x24*4294967296:=by omega
 clear e31 e27 e28 e29 e30;have N:hi*18446744073709551616+x=17592186044416*x15+(x17*8192+x%8192):=by omega
 refine key _ _ ?_ ?_
 . rw[N];omega
 . rw[N];omega
theorem sMulDivW:Sound Try.prog 24 SMulDivW:=by
 refine sound_of (C:=CMulDivW) tabMulDivW Try.func24 (by kernel_rfl) (by decide+kernel) (by kernel_rfl) rfl ⟨sKnown,sProduct,sSize,sDivW,sSign,sGrows,sSigned,trivial⟩ (loops0 (by kernel_rfl)) ?_;intro hA pA R h;unfold SMulDivW at h;split at h;case h_2=>exfalso;exact h
 rename_i a b c m;obtain⟨⟨ha,hb,rfl,rfl,hab⟩,hq⟩:=h;have hprod:((a.natAbs:Int))*(b.natAbs:Int)=a*b:=by rw[show(a.natAbs:Int)=a by omega,show(b.natAbs:Int)=b by omega]
 have hsg:a.sign*b.sign=(a*b).sign:=(Int.sign_mul a b).symm;have hn:=Int.mul_nonneg ha.1 hb.1;refine byVC (vcMulDivW a b 4096 0 R) ?_;refine⟨fun e=>absurd e (by decide),fun _=>⟨trivial,fun x1 e1=>⟨fun e=>absurd e (by rw[e1];decide),fun _=>⟨by omega,fun x2 e2=>⟨by omega,fun x3 e3=>⟨by omega,?_⟩⟩⟩⟩⟩⟩;rw[e2,e3,hprod];generalize a*b=n at*;have hs:¬n.sign<0:=by
  rcases Int.lt_or_eq_of_le hn with h|h
  . rw[Int.sign_eq_one_of_pos h];decide
  . rw[<-h];decide
 intro x4 e4 x5 e5;refine⟨by omega,fun x6 e6=>⟨fun e=>absurd (of_decide_eq_true e) (by omega),fun _=>⟨by omega,fun x7 e7 x8 e8=>⟨trivial,fun x9 e9=> ?_⟩⟩⟩⟩;obtain rfl:x6=4096:=by omega
 rw[hsg]at e9;have f7:x7=n/4096:=by omega
 have fin:∀(v:Int)(w:Bool),v=x7->w=true->R ⟨.tup [.ce (.int .i64 v), .ce (.bool w)],false,[],[]⟩:=fun v w h1 h2=>by rw[h1,h2,f7];exact hq
 have hg:∀e s,grw 0 e s false=false:=fun e s=>by unfold grw;simp
 refine⟨fun en=>absurd en (by rw[e9,decide_eq_false hs];decide),fun _ x31 e31=>⟨fun _=>⟨trivial,fun y ey=>⟨fun u=> ?_,fun u=>⟨by omega,fun v hv w hw=>fin v w (by simpa using hv) hw⟩⟩⟩,fun _ x38 e38=>⟨fun _=>⟨trivial,fun y ey=>⟨fun u=> ?_,fun u=>⟨by omega,fun v hv w hw=>fin v w (by simpa using hv) hw⟩⟩⟩,fun _=>⟨trivial,fun y ey=>⟨fun u=> ?_,fun u=>⟨by omega,fun v hv w hw=>fin v w (by simpa using hv) hw⟩⟩⟩⟩⟩⟩;all_goals
  rw[hg]at ey;rw[ey]at u;cases u
theorem sFolW:Sound Try.prog 13 SFolW:=by
 refine sound_of (C:=CFolW) tabFolW Try.func13 (by kernel_rfl) (by decide+kernel) (by kernel_rfl) rfl ⟨sMulDivW,trivial⟩ (loops0 (by kernel_rfl)) ?_;intro hA pA R h;unfold SFolW at h;split at h;case h_2=>exfalso;exact h
 rename_i l w;obtain⟨⟨h1,h2⟩,hq⟩:=h;have hb:=mul_bd (a:=l) (b:=w) (A:=16777216) (B:=2199023255552) (by omega) (by omega) (by omega) (by omega);refine byVC (vcFolW l w R) ⟨⟨by omega,by omega,rfl,rfl,by omega⟩,fun x1 e1 x2 _=> ?_⟩;rw[e1];exact hq
theorem sFolR:Sound Try.prog 15 SFolW:=by
 refine sound_of (C:=CFolR) tabFolR Try.func15 (by kernel_rfl) (by decide+kernel) (by kernel_rfl) rfl ⟨sRMulDiv,trivial⟩ (loops0 (by kernel_rfl)) ?_;intro hA pA R h;unfold SFolW at h;split at h;case h_2=>exfalso;exact h
 rename_i l w;obtain⟨⟨h1,h2⟩,hq⟩:=h;have hb:=mul_bd (a:=l) (b:=w) (A:=16777216) (B:=2199023255552) (by omega) (by omega) (by omega) (by omega);have e:=rmdW (a:=l) (b:=w) h1.1 h2.1 (by omega);refine byVC (vcFolR l w R) ⟨by omega,fun x1 e1 x2 _=> ?_⟩;rw[e]at e1;rw[e1];exact hq
theorem sAngR:Sound Try.prog 16 SAngW:=by
 refine sound_of (C:=CAngR) tabAngR Try.func16 (by kernel_rfl) (by decide+kernel) (by kernel_rfl) rfl ⟨sFloor,trivial⟩ (loops0 (by kernel_rfl)) ?_;intro hA pA R h;unfold SAngW at h;split at h;case h_2=>exfalso;exact h
 rename_i l w;obtain⟨⟨h1,h2⟩,hq⟩:=h;exact byVC (vcAngR l w R) ⟨by omega,fun x1 e1=>by subst e1;exact⟨by omega,fun x2 e2=>by rw[e2];exact hq⟩⟩
theorem sLFollow:Sound Try.prog 5 SLFollow:=by
 refine sound_of (C:=CLFollow) tabLFollow Try.func5 (by kernel_rfl) (by decide+kernel) (by kernel_rfl) rfl ⟨sAwake,sMod,sFolW,sAngle,sFolR,sAngR,trivial⟩ (loops0 (by kernel_rfl)) ?_;intro hA pA R h;unfold SLFollow at h;split at h;case h_2=>exfalso;exact h
 rename_i l w m;refine byVC (vcLFollow l w m R) ⟨trivial,fun x1 e1=>⟨fun e=>absurd e (by rw[e1];simp),fun _=>⟨by omega,fun x2 e2=> ?_⟩⟩⟩;have b1:=Int.emod_nonneg l (show(16777216:Int)≠0 by omega);have b2:=Int.emod_lt_of_pos l (show(0:Int)<16777216 by omega);have b3:=Int.emod_nonneg w (show(1099511627776:Int)≠0 by omega);have b4:=Int.emod_lt_of_pos w (show(0:Int)<1099511627776 by omega);have b5:=Int.emod_nonneg m (show(1073741824:Int)≠0 by omega);have b6:=Int.emod_lt_of_pos m (show(0:Int)<1073741824 by omega);rw[<-e2]at b1 b2;refine⟨by omega,fun x3 e3=>⟨by omega,fun x4 e4=>⟨by omega,fun x5 e5=> ?_⟩⟩⟩;rw[<-e4]at b3 b4;rw[<-e5]at b5 b6;refine⟨by omega,fun x6 e6=>⟨by omega,fun x7 e7=>⟨by omega,fun x8 e8=>⟨by omega,fun x9 e9=> ?_⟩⟩⟩⟩;have m9:0<=x9/\x9<1073741824:=by rw[tmod_pos b3]at e9;omega
 refine⟨by omega,fun x10 e10=>⟨by omega,fun x11 e11=> ?_⟩⟩;have e11:x11=x9:=by rw[e11,e9]
 refine⟨by omega,fun x12 e12=>⟨by omega,fun x13 e13=>⟨by omega,fun x14 e14=>⟨fun _=>⟨by omega,fun x15 e15=> ?_⟩,fun k=>by rw[e6,e14]at k;simp at k⟩⟩⟩⟩;have e15:x15=x9:=by rw[e15,e9]
 have f13:x13=x10+4096:=by
  rw[e13,e10,e12,e11,Int.mul_add];exact Int.add_mul_ediv_right _ _ (by omega)
 have g0:=mul_bd (a:=x3) (b:=x4) (A:=16777216) (B:=1099511627776) (by omega) (by omega) (by omega) (by omega);have g1:0<=4096*x9/x3:=Int.ediv_nonneg (by omega) (by omega);have g2:4096*x9/x3<=4096*x9:=Int.ediv_le_self _ (by omega);have hle:x6<=x8:=by
  rw[e6,e8,e7];refine Int.ediv_le_ediv (by decide) (Int.mul_le_mul_of_nonneg_left (by omega) (by omega))
 refine⟨by omega,fun x16 e16=>⟨fun _=>⟨fun _=>⟨by omega,fun x17 e17=>⟨fun _=>⟨by omega,fun x18 e18=>⟨by omega,fun x19 e19=>⟨by omega,fun x20 e20=> ?_⟩⟩⟩,fun k=>by simp at k;omega⟩⟩,fun k=>absurd (of_decide_eq_false k) (by omega)⟩,fun k=>by rw[e10,e16,e15]at k;simp at k⟩⟩;have:x19=x20:=by
  rw[e19,e18,e20,e6,Int.mul_add];exact Int.add_mul_ediv_right _ _ (by decide)
 rw[this,beq_self_eq_true];exact h.2
end Go.Proofs.Ythkoabbiiadbjaa
