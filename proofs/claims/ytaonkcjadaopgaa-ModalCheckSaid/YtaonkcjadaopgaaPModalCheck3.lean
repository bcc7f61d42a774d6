/-
  Part 3.
  Conditions: none.
-/
import Derived.Test.YtaonkcjadaopgaaPModalCheck2
set_option maxRecDepth 100000
set_option maxHeartbeats 400000
set_option linter.unusedVariables false
set_option linter.unusedSimpArgs false
namespace Go.HL
open Go Go.ChangeShapes Go.WideShapes Go.ChangeAt Go.RowKit
def fieldsK(P:Program)(rec:TypeId->Option (List Nat)):List Field->Nat->Option (List Nat)
 |[],_=>some []
 |fl::r,off=>match rec fl.type with
  |some a=>bif Nat.beq fl.offset off&&Nat.beq (P.cellsOf fl.type) a.length then(match fieldsK P rec r (off+a.length)with
   |some b=>some (a++b)
   |none=>none)else none
  |none=>none
def repK:Nat->List Nat->List Nat
 |0,_=>[]
 |n+1,a=>a++repK n a
def kindsOf(P:Program):Nat->TypeId->Option (List Nat)
 |0,_=>none
 |f+1,t=>match P.underlying t with
  |some .bool=>some [0]
  |some (.int k)=>some [kcode k]
  |some (.struct fs)=>match fieldsK P (kindsOf P f) fs.toList 0 with
   |some ks=>bif Nat.beq ks.length (P.cellsOf t)then some ks else none
   |none=>none
  |some (.array n e)=>match kindsOf P f e with
   |some a=>bif Nat.beq (P.cellsOf e) a.length&&Nat.beq (P.cellsOf t) (n*a.length)then some (repK n a)else none
   |none=>none
  |_=>none
def InK:Nat->Int->Prop
 |0,n=>n=0∨n=1
 |k+1,n=>kLo (kk k)<=n/\n<=kHi (kk k)
def zipK:List Nat->List Int->List Value
 |k::ks,n::r=>kval k n::zipK ks r
 |_,_=>[]
def AllIn:List Nat->List Int->Prop
 |k::ks,n::r=>InK k n/\AllIn ks r
 |[],[]=>True
 |_,_=>False
def Flat(ks:List Nat)(cs:List Value):Prop:=∃row,AllIn ks row/\cs=zipK ks row
theorem AllIn.len:∀{ks:List Nat}{row:List Int},AllIn ks row->row.length=ks.length
 |[],[],_=>rfl
 |_::_,_::_,h=>by simp[AllIn.len h.2]
 |[],_::_,h=>h.elim
 |_::_,[],h=>h.elim
theorem AllIn.cons{k:Nat}{ks:List Nat}{row:List Int}(h:AllIn (k::ks) row):∃n l,row=n::l:=by
 cases row with
 |nil=>exact h.elim
 |cons n l=>exact⟨n,l,rfl⟩
theorem AllIn.nil{row:List Int}(h:AllIn [] row):row=[]:=by
 cases row with
 |nil=>rfl
 |cons n l=>exact h.elim
theorem AllIn.append:∀{a b:List Nat}{r s:List Int},AllIn a r->AllIn b s->AllIn (a++b) (r++s)/\zipK (a++b) (r++s)=zipK a r++zipK b s
 |[],b,[],s,_,h=>⟨h,rfl⟩
 |_::a,b,_::r,s,h,h'=>by
  obtain⟨h1,h2⟩:=AllIn.append (a:=a) (r:=r) h.2 h';exact⟨⟨h.1,h1⟩,by simp[zipK,h2]⟩
 |[],_,_::_,_,h,_=>h.elim
 |_::_,_,[],_,h,_=>h.elim
theorem Flat.append{a b:List Nat}{cs ds:List Value}(h:Flat a cs)(h':Flat b ds):Flat (a++b) (cs++ds):=by
 obtain⟨r,h1,rfl⟩:=h;obtain⟨s,h2,rfl⟩:=h';exact⟨r++s,(AllIn.append h1 h2).1,(AllIn.append h1 h2).2.symm⟩
theorem zipK_get:∀{ks:List Nat}{row:List Int}{j:Nat},AllIn ks row->j<ks.length->(zipK ks row)[j]?=some (kval (ks.getD j 0) (row.getD j 0))/\InK (ks.getD j 0) (row.getD j 0)
 |_::_,_::_,0,h,_=>⟨rfl,h.1⟩
 |_::ks,_::r,j+1,h,hj=>by
  have:=zipK_get (j:=j) h.2 (by simpa using hj);simpa[zipK]using this
 |[],_,_,_,hj=>by simp at hj
 |_::_,[],_,h,_=>h.elim
section
variable {H : Type} {enc : TypeId × Value -> H} {P : Program} {w : World} {base : Nat} {spare : Nat -> Bool} {held : Bool}
theorem wf_in{k:IntKind}{n:Int}(h:(Lit.int k n).wf=true):InK (kcode k) n/\kval (kcode k) n= .int k n:=by
 simp only[Lit.wf,Bool.and_eq_true,decide_eq_true_eq]at h;cases k<;>simp[IntKind.min,IntKind.max,IntKind.signed,IntKind.bits]at h<;>exact⟨by simp[InK,kcode,kk,kLo,kHi];omega,rfl⟩
theorem fields_flat{rec:TypeId->Option (List Nat)}{cs:List Value}{n:Nat}(hrec:∀t ks,rec t=some ks->∀cs x,DataW.trod enc P w base spare held n t cs=some x->Flat ks cs):∀(fs:List Field)(off:Nat)(ks:List Nat),fieldsK P rec fs off=some ks->off+ks.length=cs.length->(∀f,f∈fs->∃x,DataW.trod enc P w base spare held n f.type ((cs.drop f.offset).take (P.cellsOf f.type))=some x)->Flat ks (cs.drop off)
 |[],off,ks,h,hl,_=>by
  cases h;have:cs.drop off=[]:=List.drop_eq_nil_of_le (by simp at hl;omega);rw[this];exact⟨[],trivial,rfl⟩
 |fl::r,off,ks,h,hl,hf=>by
  unfold fieldsK at h;split at h;case h_2=>cases h
  rename_i a ha;cases hb:(Nat.beq fl.offset off&&Nat.beq (P.cellsOf fl.type) a.length)with
  |false=>rw[hb]at h;cases h
  |true=>
   rw[hb]at h;simp only[cond_true]at h;rw[Bool.and_eq_true]at hb;have e1:=Nat.eq_of_beq_eq_true hb.1;have e2:=Nat.eq_of_beq_eq_true hb.2;split at h;case h_2=>cases h
   rename_i b hbb;cases h;obtain⟨x,hx⟩:=hf fl (List.mem_cons_self ..);rw[e1,e2]at hx;have f1:=hrec _ _ ha _ _ hx;have f2:=fields_flat hrec r (off+a.length) b hbb (by simp at hl;omega) (fun f hm=>hf f (List.mem_cons_of_mem _ hm));have:cs.drop off=(cs.drop off).take a.length++cs.drop (off+a.length):=by
    rw[<-List.drop_drop,List.take_append_drop]
   rw[this];exact f1.append f2
theorem elems_flat{a:List Nat}{cs:List Value}:∀(n i:Nat),i*a.length+n*a.length=cs.length->(∀j,i<=j->j<i+n->Flat a ((cs.drop (j*a.length)).take a.length))->Flat (repK n a) (cs.drop (i*a.length))
 |0,i,hl,_=>by
  have:cs.drop (i*a.length)=[]:=List.drop_eq_nil_of_le (by omega);rw[this];exact⟨[],trivial,rfl⟩
 |n+1,i,hl,h=>by
  have e:(n+1)*a.length=n*a.length+a.length:=Nat.succ_mul _ _;have e2:(i+1)*a.length=i*a.length+a.length:=Nat.succ_mul _ _;have f1:=h i (Nat.le_refl _) (by omega);have f2:=elems_flat n (i+1) (by omega) (fun j h1 h2=>h j (by omega) (by omega));have:cs.drop (i*a.length)=(cs.drop (i*a.length)).take a.length++cs.drop ((i+1)*a.length):=by
   rw[e2,<-List.drop_drop,List.take_append_drop]
  rw[this];exact f1.append f2
theorem trod_flat:∀(f:Nat)(t:TypeId)(ks:List Nat),kindsOf P f t=some ks->∀fuel cs x,DataW.trod enc P w base spare held fuel t cs=some x->Flat ks cs
 |0,_,_,h,_,_,_,_=>by cases h
 |f+1,t,ks,h,fuel,cs,x,hx=>by
  unfold kindsOf at h;split at h
  . rename_i ht;cases h;obtain⟨b,rfl,_⟩:=DataW.trod_bool ht hx;refine⟨[if b then 1 else 0],⟨by cases b<;>simp[InK],trivial⟩,?_⟩;cases b<;>rfl
  . rename_i k ht;cases h;obtain⟨n,rfl,_,hw⟩:=DataW.trod_int ht hx;exact⟨[n],⟨(wf_in hw).1,trivial⟩,by simp[zipK,(wf_in hw).2]⟩
  . rename_i fs ht;obtain⟨xs,n,_,_,hl,hxl,hf⟩:=DataW.trod_struct ht hx;split at h;case h_2=>cases h
    rename_i ks' hk;cases hb:Nat.beq ks'.length (P.cellsOf t)with
    |false=>rw[hb]at h;cases h
    |true=>
     rw[hb]at h;cases h;have e:=Nat.eq_of_beq_eq_true hb;have:=fields_flat (cs:=cs) (n:=n) (fun t ks h cs x hx=>trod_flat f t ks h n cs x hx) fs.toList 0 ks hk (by omega) (fun fl hm=>by
      obtain⟨i,hi,he⟩:=List.mem_iff_getElem.1 hm;have hi':i<fs.size:=by simpa using hi
      have h1:=hf i fl (by rw[Array.getElem?_eq_getElem hi'];simp at he;rw[he]);rw[List.getElem?_eq_getElem (by omega)]at h1;exact⟨_,h1⟩);simpa using this
  . rename_i n e ht;obtain⟨xs,m,_,_,hl,hxl,hf⟩:=DataW.trod_array ht hx;split at h;case h_2=>cases h
    rename_i a ha;cases hb:(Nat.beq (P.cellsOf e) a.length&&Nat.beq (P.cellsOf t) (n*a.length))with
    |false=>rw[hb]at h;cases h
    |true=>
     rw[hb]at h;cases h;rw[Bool.and_eq_true]at hb;have e1:=Nat.eq_of_beq_eq_true hb.1;have e2:=Nat.eq_of_beq_eq_true hb.2;have:=elems_flat (a:=a) (cs:=cs) n 0 (by omega) (fun j _ hj=>by
      have h1:=hf j (by omega);rw[List.getElem?_eq_getElem (by omega),e1]at h1;exact trod_flat f e a ha m _ _ h1);simpa using this
  . cases h
theorem cells_flat{ks:List Nat}{a:Addr}{cs:List Value}(h1:∀i,i<ks.length->w.cell? (a.add i)=cs[i]?)(hf:Flat ks cs):∃row:List Int,AllIn ks row/\∀j,j<ks.length->w.cell? (a.add j)=some (kval (ks.getD j 0) (row.getD j 0)):=by
 obtain⟨row,hr,rfl⟩:=hf;exact⟨row,hr,fun j hj=>by rw[h1 j hj];exact(zipK_get hr hj).1⟩
theorem in_slice_sz{r:Reach}{b0:Nat}{t e:TypeId}{ks:List Nat}{v:Value}{d:DataW H}{ps:List MemPlace}(ht:P.underlying t=some (.slice e))(hk:kindsOf P 12 e=some ks)(hC:P.cellsOf e=ks.length)(hpos:0<ks.length)(hval:Value.okWide P w r b0 t v)(hd:DataW.Trod enc P w base (fun _=>true) held t v d ps):∃rows:List (List Int),rows.length<=maxLen/\(∀i,i<rows.length->AllIn ks (rows.getD i []))/\VRel (G0 w) w none (.ce (.sl false ks rows)) v/\∀R B:Nat,(∀es sp,d= .slice es sp->(es.length+sp.length)*B<=R)->rows.length*B<=R:=by
 obtain⟨fuel,hd⟩:=hd;obtain⟨ad,len,cap,rfl⟩:=okWide_slice ht hval;have hc:(Value.slice ad len cap).cells.toList=[.slice ad len cap]:=by simp[Value.cells]
 rw[hc]at hd;rcases DataW.trod_slice ht hd with⟨he,_⟩|⟨a,len',cap',elems,rest,n,_,he,hxd,hb,hl,hm,hlen,hel,hsp,_⟩
 . simp at he;obtain⟨rfl,rfl,rfl⟩:=he;exact⟨[],Nat.zero_le _,fun i hi=>by simp at hi,⟨none,0,rfl,Nat.le_refl _,Nat.zero_le _, .inl ⟨.inl rfl,rfl,rfl⟩⟩,fun R B _=>by simp⟩
 . simp at he;obtain⟨rfl,rfl,rfl⟩:=he;obtain⟨hrl,hrest⟩:=hsp rfl;have hall:∀i,i<cap->∃row:List Int,AllIn ks row/\∀j,j<ks.length->w.cell? ((a.add (i*ks.length)).add j)=some (kval (ks.getD j 0) (row.getD j 0)):=by
    intro i hi;have key:∀y,(w.cells? base (a.add (i*P.cellsOf e)) (P.cellsOf e)).bind (DataW.trod enc P w base (fun _=>true) held n e)=some y->∃row:List Int,AllIn ks row/\∀j,j<ks.length->w.cell? ((a.add (i*ks.length)).add j)=some (kval (ks.getD j 0) (row.getD j 0)):=by
     intro y hy;rw[Option.bind_eq_some_iff]at hy;obtain⟨cs,h1,h2⟩:=hy;obtain⟨_,_,h3⟩:=World.cells?_some h1;rw[hC]at h3;exact cells_flat h3 (trod_flat 12 e ks hk n cs y h2)
    by_cases hi2:i<len
    . have:=hel i hi2;rw[List.getElem?_eq_getElem (by omega)]at this;exact key _ this
    . have:=hrest (i-len) (by omega);rw[List.getElem?_eq_getElem (by omega),show len+(i-len)=i by omega]at this;exact key _ this
   have hch:∀i,∃row:List Int,i<cap->AllIn ks row/\∀j,j<ks.length->w.cell? ((a.add (i*ks.length)).add j)=some (kval (ks.getD j 0) (row.getD j 0)):=by
    intro i;by_cases hi:i<cap
    . obtain⟨row,h⟩:=hall i hi;exact⟨row,fun _=>h⟩
    . exact⟨[],fun h=>absurd h hi⟩
   obtain⟨f,hrows⟩:∃f:Nat->List Int,∀i,i<cap->AllIn ks (f i)/\∀j,j<ks.length->w.cell? ((a.add (i*ks.length)).add j)=some (kval (ks.getD j 0) ((f i).getD j 0)):=⟨fun i=>Classical.choose (hch i),fun i=>Classical.choose_spec (hch i)⟩;clear hch;refine⟨(List.range len).map f,by simp;omega,fun i hi=> ?_,?_,fun R B hs=> ?_⟩
   . simp at hi;have:((List.range len).map f).getD i []=f i:=by simp[List.getD_eq_getElem?_getD,hi]
     rw[this];exact(hrows i (by omega)).1
   . have hll:((List.range len).map f).length=len:=by simp
     refine⟨some a,cap,by rw[hll],by rw[hll];exact hl,hm,?_⟩;rw[hll];by_cases hc0:cap=0
     . exact .inl ⟨.inl rfl,by omega,hc0⟩
     . have h0:=(hrows 0 (by omega)).2 0 hpos;have hx0:(a.add (0*ks.length)).add 0=a:=by simp[Addr.add]
       rw[hx0]at h0;obtain⟨hbk,hs⟩:=cell_lt h0;have hx:a=at_ a.block a.off:=by
        cases a with
        |mk b o s=>dsimp only at hs;subst hs;rfl
       refine .inr ⟨a.block,a.off,by rw[<-hx],fun i j hi hj=>⟨hbk,?_⟩,fun _ e=>nomatch e⟩;have h1:=(hrows i (by omega)).2 j hj;rw[hx,at_add,at_add,show a.off+i*ks.length+j=a.off+(i*ks.length+j)by omega]at h1;have hg:((List.range len).map f).getD i []=f i:=by simp[List.getD_eq_getElem?_getD,hi]
       rw[hg];exact h1
   . have:=hs (elems.map (·.1)) (rest.map (·.1)) (congrArg Prod.fst hxd);simp only[List.length_map,List.length_range]at this⊢;rw[hlen,Nat.add_mul]at this;omega
theorem in_slice{r:Reach}{b0:Nat}{t e:TypeId}{ks:List Nat}{v:Value}{d:DataW H}{ps:List MemPlace}(ht:P.underlying t=some (.slice e))(hk:kindsOf P 12 e=some ks)(hC:P.cellsOf e=ks.length)(hpos:0<ks.length)(hval:Value.okWide P w r b0 t v)(hd:DataW.Trod enc P w base (fun _=>true) held t v d ps):∃rows:List (List Int),rows.length<=maxLen/\(∀i,i<rows.length->AllIn ks (rows.getD i []))/\VRel (G0 w) w none (.ce (.sl false ks rows)) v:=by
 obtain⟨rows,h1,h2,h3,_⟩:=in_slice_sz ht hk hC hpos hval hd;exact⟨rows,h1,h2,h3⟩
end
end Go.HL
namespace U
open Go
def ec(l:List (List Int))(j k:Nat):Int:=(l.getD j []).getD k 0
def el(l:List (List Int))(j:Nat):Int:=(l.getD j []).getD 0 0
theorem wrap_small{x:Int}(h1: -9223372036854775808<=x)(h2:x<9223372036854775808):IntKind.i64.wrap x=x:=by
 simp[IntKind.wrap,IntKind.signed,IntKind.bits];split<;>omega
theorem tdiv_pos{a b:Int}(h:0<=a):a.tdiv b=a/b:=Int.tdiv_eq_ediv_of_nonneg h
theorem tmod_pos{a b:Int}(h:0<=a):a.tmod b=a%b:=Int.tmod_eq_emod_of_nonneg h
theorem tmod_lt{a b:Int}(hb:0<b): -b<a.tmod b/\a.tmod b<b:=⟨by have:=Int.lt_tmod_of_pos a hb;omega,Int.tmod_lt_of_pos a hb⟩
theorem tdiv_ite{a b:Int}(hb:0<b):a.tdiv b=if 0<=a then a/b else-((-a)/b):=by
 split
 . rename_i h;exact Int.tdiv_eq_ediv_of_nonneg h
 . rename_i h;have:=Int.neg_tdiv (-a) b;rw[Int.neg_neg]at this;rw[this,Int.tdiv_eq_ediv_of_nonneg (by omega)]
end U
namespace Go.Proofs.Ytaonkcjadaopgaa
open Go Go.HL U
def SMul64(hargs:List HV)(pars:List (List HC)):SR:=match hargs,pars with
 |[.ce (.int .u64 x), .ce (.int .u64 y)],[]=> .det (0<=x/\x<18446744073709551616/\0<=y/\y<18446744073709551616) ⟨.tup [.ce (.int .u64 (x*y/18446744073709551616)), .ce (.int .u64 (x*y%18446744073709551616))],false,[],[]⟩
 |_,_=> .fail
noncomputable def CMul64:Ctx:=⟨Try.prog,gam [],51,[],[]⟩
theorem vcMul64(x y:Int)(Q:Res->Prop):(nfun true CMul64 Try.f42 (bodyOf Try.f42) [.ce (.int .u64 x), .ce (.int .u64 y)] [] Q)=((0<=x/\x<=18446744073709551615/\(4294967295:Int)<=18446744073709551615)/\∀(x1:Int),x1=x%4294967296->(0:Int)<=32/\∀(x2:Int),x2=x/4294967296->(0<=y/\y<=18446744073709551615/\(4294967295:Int)<=18446744073709551615)/\∀(x3:Int),x3=y%4294967296->(0:Int)<=32/\∀(x4:Int),x4=y/4294967296->∀(x5:Int),x5=x1*x3%18446744073709551616->∀(x6:Int),x6=x2*x3%18446744073709551616->(0:Int)<=32/\∀(x7:Int),x7=x5/4294967296->∀(x8:Int),x8=(x6+x7)%18446744073709551616->(0<=x8/\x8<=18446744073709551615/\(4294967295:Int)<=18446744073709551615)/\∀(x9:Int),x9=x8%4294967296->(0:Int)<=32/\∀(x10:Int),x10=x8/4294967296->∀(x11:Int),x11=x1*x4%18446744073709551616->∀(x12:Int),x12=(x9+x11)%18446744073709551616->∀(x13:Int),x13=x2*x4%18446744073709551616->∀(x14:Int),x14=(x13+x10)%18446744073709551616->(0:Int)<=32/\∀(x15:Int),x15=x12/4294967296->∀(x16:Int),x16=(x14+x15)%18446744073709551616->∀(x17:Int),x17=x*y%18446744073709551616->Q ⟨.tup [.ce (.int .u64 x16), .ce (.int .u64 x17)],false,[],[]⟩):=by kernel_rfl
def SDiv64(hargs:List HV)(pars:List (List HC)):SR:=match hargs,pars with
 |[.ce (.int .u64 h), .ce (.int .u64 x), .ce (.int .u64 y)],[]=> .det (h=0/\0<=x/\x<18446744073709551616/\0<y/\y<18446744073709551616) ⟨.tup [.ce (.int .u64 (x/y)), .ce (.int .u64 (x%y))],false,[],[]⟩
 |_,_=> .fail
noncomputable def CDiv64:Ctx:=⟨Try.prog,gam [],135,[],[]⟩
theorem vcDiv64(h x y:Int)(Q:Res->Prop):(nfun true CDiv64 Try.f38 (bodyOf Try.f38) [.ce (.int .u64 h), .ce (.int .u64 x), .ce (.int .u64 y)] [] Q)=(((y==0)=true->False)/\((y==0)=false->(decide (y<=h)=true->False)/\(decide (y<=h)=false->((h==0)=true->y≠0/\∀(x1:Int),x1=Int.tdiv x y%18446744073709551616->y≠0/\∀(x2:Int),x2=Int.tmod x y->Q ⟨.tup [.ce (.int .u64 x1), .ce (.int .u64 x2)],false,[],[]⟩)/\((h==0)=false->False)))):=by kernel_rfl
def SSize(hargs:List HV)(pars:List (List HC)):SR:=match hargs,pars with
 |[.ce (.int .i64 x)],[]=> .det (-9223372036854775808<=x/\x<=9223372036854775807) ⟨.ce (.int .u64 (x.natAbs:Int)),false,[],[]⟩
 |_,_=> .fail
noncomputable def CSize:Ctx:=⟨Try.prog,gam [],12,[],[]⟩
theorem vcSize(x:Int)(Q:Res->Prop):(nfun true CSize Try.f37 (bodyOf Try.f37) [.ce (.int .i64 x)] [] Q)=((decide (x<0)=true->(-9223372036854775808<=x+1/\x+1<=9223372036854775807)/\∀(x1:Int),x1=x+1->(-9223372036854775808<=0-x1/\0-x1<=9223372036854775807)/\∀(x2:Int),x2=0-x1->∀(x3:Int),x3=x2%18446744073709551616->∀(x4:Int),x4=(x3+1)%18446744073709551616->Q ⟨.ce (.int .u64 x4),false,[],[]⟩)/\(decide (x<0)=false->∀(x5:Int),x5=x%18446744073709551616->Q ⟨.ce (.int .u64 x5),false,[],[]⟩)):=by kernel_rfl
def SProduct(hargs:List HV)(pars:List (List HC)):SR:=match hargs,pars with
 |[.ce (.int .u64 x), .ce (.int .u64 y)],[]=> .det (0<=x/\x<18446744073709551616/\0<=y/\y<18446744073709551616) ⟨.agg [.int .u64 (x*y/18446744073709551616), .int .u64 (x*y%18446744073709551616)],false,[],[]⟩
 |_,_=> .fail
def tabProduct:List (FuncId×HL.Spec):=[(42,SMul64)]
noncomputable def CProduct:Ctx:=⟨Try.prog,gam tabProduct,16,[],[]⟩
theorem vcProduct(x y:Int)(Q:Res->Prop):(nfun true CProduct Try.f36 (bodyOf Try.f36) [.ce (.int .u64 x), .ce (.int .u64 y)] [] Q)=((0<=x/\x<18446744073709551616/\0<=y/\y<18446744073709551616)/\∀(x1:Int),x1=x*y/18446744073709551616->∀(x2:Int),x2=x*y%18446744073709551616->Q ⟨.agg [.int .u64 x1, .int .u64 x2],false,[],[]⟩):=by kernel_rfl
def SKnown(hargs:List HV)(pars:List (List HC)):SR:=match hargs,pars with
 |[.ce (.int .i64 x)],[]=> .det True ⟨.ce (.bool (decide (0<=x/\x<=2))),false,[],[]⟩
 |_,_=> .fail
noncomputable def CKnown:Ctx:=⟨Try.prog,gam [],13,[],[]⟩
theorem vcKnown(x:Int)(Q:Res->Prop):(nfun true CKnown Try.f35 (bodyOf Try.f35) [.ce (.int .i64 x)] [] Q)=(((x==0)=true->Q ⟨.ce (.bool true),false,[],[]⟩)/\((x==0)=false->((x==1)=true->Q ⟨.ce (.bool true),false,[],[]⟩)/\((x==1)=false->Q ⟨.ce (.bool (x==2)),false,[],[]⟩))):=by kernel_rfl
def SSign(hargs:List HV)(pars:List (List HC)):SR:=match hargs,pars with
 |[.ce (.int .i64 x), .ce (.int .i64 y)],[]=> .det True ⟨.ce (.int .i64 (x.sign*y.sign)),false,[],[]⟩
 |_,_=> .fail
noncomputable def CSign:Ctx:=⟨Try.prog,gam [],18,[],[]⟩
theorem vcSign(x y:Int)(Q:Res->Prop):(nfun true CSign Try.f39 (bodyOf Try.f39) [.ce (.int .i64 x), .ce (.int .i64 y)] [] Q)=(((x==0)=true->Q ⟨.ce (.int .i64 0),false,[],[]⟩)/\((x==0)=false->((y==0)=true->Q ⟨.ce (.int .i64 0),false,[],[]⟩)/\((y==0)=false->((decide (x<0)==decide (y<0))=true->Q ⟨.ce (.int .i64 1),false,[],[]⟩)/\((decide (x<0)==decide (y<0))=false->Q ⟨.ce (.int .i64 (-1)),false,[],[]⟩)))):=by kernel_rfl
noncomputable def CGrows:Ctx:=⟨Try.prog,gam [],33,[],[]⟩
theorem vcGrows(m e:Int)(s n:Bool)(Q:Res->Prop):(nfun true CGrows Try.f40 (bodyOf Try.f40) [.ce (.int .i64 m), .ce (.int .i64 e), .ce (.bool s), .ce (.bool n)] [] Q)=(((m==0)=true->(s=true->Q ⟨.ce (.bool n),false,[],[]⟩)/\(s=false->Q ⟨.ce (.bool false),false,[],[]⟩))/\((m==0)=false->((m==1)=true->(s=true->Q ⟨.ce (.bool !n),false,[],[]⟩)/\(s=false->Q ⟨.ce (.bool false),false,[],[]⟩))/\((m==1)=false->(decide (e>0)=true->Q ⟨.ce (.bool true),false,[],[]⟩)/\(decide (e>0)=false->((e==0)=true->Q ⟨.ce (.bool !n),false,[],[]⟩)/\((e==0)=false->Q ⟨.ce (.bool false),false,[],[]⟩))))):=by kernel_rfl
noncomputable def CSigned:Ctx:=⟨Try.prog,gam [],24,[],[]⟩
theorem vcSigned(n:Int)(neg:Bool)(Q:Res->Prop):(nfun false CSigned Try.f41 (bodyOf Try.f41) [.ce (.int .u64 n), .ce (.bool neg)] [] Q)=((neg=true->(decide (n<=9223372036854775808)=true->∀(x1:Int),x1=IntKind.wrap .u64 (0-n)->∀(x2:Int),x2=IntKind.wrap .i64 x1->Q ⟨.tup [.ce (.int .i64 x2), .ce (.bool true)],false,[],[]⟩)/\(decide (n<=9223372036854775808)=false->((!neg)=true->(decide (n<9223372036854775808)=true->∀(x3:Int),x3=IntKind.wrap .i64 n->Q ⟨.tup [.ce (.int .i64 x3), .ce (.bool true)],false,[],[]⟩)/\(decide (n<9223372036854775808)=false->Q ⟨.tup [.ce (.int .i64 0), .ce (.bool false)],false,[],[]⟩))/\((!neg)=false->Q ⟨.tup [.ce (.int .i64 0), .ce (.bool false)],false,[],[]⟩)))/\(neg=false->((!neg)=true->(decide (n<9223372036854775808)=true->∀(x4:Int),x4=IntKind.wrap .i64 n->Q ⟨.tup [.ce (.int .i64 x4), .ce (.bool true)],false,[],[]⟩)/\(decide (n<9223372036854775808)=false->Q ⟨.tup [.ce (.int .i64 0), .ce (.bool false)],false,[],[]⟩))/\((!neg)=false->Q ⟨.tup [.ce (.int .i64 0), .ce (.bool false)],false,[],[]⟩))):=by kernel_rfl
theorem mul_bd{a b A B:Int}(ha:0<=a)(hA:a<=A)(hb:0<=b)(hB:b<=B):0<=a*b/\a*b<=A*B:=⟨Int.mul_nonneg ha hb,Int.le_trans (Int.mul_le_mul_of_nonneg_right hA hb) (Int.mul_le_mul_of_nonneg_left hB (Int.le_trans ha hA))⟩
theorem sMul64:Sound Try.prog 42 SMul64:=by
 refine sound_of (C:=CMul64) [] Try.func42 (by kernel_rfl) (by decide+kernel) (by kernel_rfl) rfl trivial (loops0 (by kernel_rfl)) ?_;intro hargs pars R h;unfold SMul64 at h;split at h
 . rename_i x y;obtain⟨⟨h1,h2,h3,h4⟩,hq⟩:=h;refine byVC (vcMul64 x y R) ?_;refine⟨by omega,fun x1 e1=>⟨by omega,fun x2 e2=>⟨by omega,fun x3 e3=>⟨by omega,fun x4 e4=> ?_⟩⟩⟩⟩;have b1:=mul_bd (a:=x1) (b:=x3) (A:=4294967295) (B:=4294967295) (by omega) (by omega) (by omega) (by omega);have b2:=mul_bd (a:=x2) (b:=x3) (A:=4294967295) (B:=4294967295) (by omega) (by omega) (by omega) (by omega);have b3:=mul_bd (a:=x1) (b:=x4) (A:=4294967295) (B:=4294967295) (by omega) (by omega) (by omega) (by omega);have b4:=mul_bd (a:=x2) (b:=x4) (A:=4294967295) (B:=4294967295) (by omega) (by omega) (by omega) (by omega);have hx:x=4294967296*x2+x1:=by omega
   have hy:y=4294967296*x4+x3:=by omega
   have e:x*y=18446744073709551616*(x2*x4)+4294967296*(x1*x4)+4294967296*(x2*x3)+x1*x3:=by
    rw[hx,hy];grind
   rw[e]at hq;rw[e];clear e hx hy;generalize x1*x3=p at*;generalize x2*x3=q at*;generalize x1*x4=r at*;generalize x2*x4=t at*;intro x5 e5 x6 e6;refine⟨by omega,fun x7 e7 x8 e8=>⟨by omega,fun x9 e9=>⟨by omega,fun x10 e10 x11 e11 x12 e12 x13 e13 x14 e14=>⟨by omega,fun x15 e15 x16 e16 x17 e17=> ?_⟩⟩⟩⟩;rw[show x16=(18446744073709551616*t+4294967296*r+4294967296*q+p)/18446744073709551616 by omega,e17];exact hq
 . exact h.elim
theorem sDiv64:Sound Try.prog 38 SDiv64:=by
 refine sound_of (C:=CDiv64) [] Try.func38 (by kernel_rfl) (by decide+kernel) (by kernel_rfl) rfl trivial (loops2 (by kernel_rfl) ?_ ?_) ?_
 . intro an S h;rw[show(firstReg (nthLoop Try.f38 0)).bind (findAnn CDiv64.loops)=none by kernel_rfl]at h;cases h
 . intro an S h;rw[show(firstReg (nthLoop Try.f38 1)).bind (findAnn CDiv64.loops)=none by kernel_rfl]at h;cases h
 intro hargs pars R h;unfold SDiv64 at h;split at h
 . rename_i hi x y;obtain⟨⟨h1,h2,h3,h4,h5⟩,hq⟩:=h;subst h1;refine byVC (vcDiv64 0 x y R) ?_;refine⟨fun e=> ?_,fun _=>⟨fun e=> ?_,fun _=>⟨fun _=>⟨by omega,fun x1 e1=>⟨by omega,fun x2 e2=> ?_⟩⟩,fun e=>(nomatch e)⟩⟩⟩
   . have:y=0:=by simpa using e
     omega
   . have:=of_decide_eq_true e;omega
   . have hd:0<=x/y:=Int.ediv_nonneg h2 (by omega);have hd2:x/y<=x:=Int.ediv_le_self _ h2;rw[tdiv_pos h2]at e1;rw[tmod_pos h2]at e2;rw[e1,e2,Int.emod_eq_of_lt hd (by omega)];exact hq
 . exact h.elim
theorem sSize:Sound Try.prog 37 SSize:=by
 refine sound_of (C:=CSize) [] Try.func37 (by kernel_rfl) (by decide+kernel) (by kernel_rfl) rfl trivial (loops0 (by kernel_rfl)) ?_;intro hargs pars R h;unfold SSize at h;split at h
 . rename_i x;obtain⟨⟨h1,h2⟩,hq⟩:=h;refine byVC (vcSize x R) ⟨fun e=> ?_,fun e=> ?_⟩
   . have:=of_decide_eq_true e;refine⟨by omega,fun x1 e1=>⟨by omega,fun x2 e2 x3 e3 x4 e4=> ?_⟩⟩;rw[show x4=(x.natAbs:Int)by omega];exact hq
   . have:=of_decide_eq_false e;intro x5 e5;rw[show x5=(x.natAbs:Int)by omega];exact hq
 . exact h.elim
theorem sProduct:Sound Try.prog 36 SProduct:=by
 refine sound_of (C:=CProduct) tabProduct Try.func36 (by kernel_rfl) (by decide+kernel) (by kernel_rfl) rfl ⟨sMul64,trivial⟩ (loops0 (by kernel_rfl)) ?_;intro hargs pars R h;unfold SProduct at h;split at h
 . exact byVC (vcProduct _ _ R) ⟨h.1,fun x1 e1 x2 e2=>by subst e1 e2;exact h.2⟩
 . exact h.elim
theorem sKnown:Sound Try.prog 35 SKnown:=by
 refine sound_of (C:=CKnown) [] Try.func35 (by kernel_rfl) (by decide+kernel) (by kernel_rfl) rfl trivial (loops0 (by kernel_rfl)) ?_;intro hargs pars R h;unfold SKnown at h;split at h
 . rename_i x;have hq:=h.2;refine byVC (vcKnown x R) ⟨fun e=> ?_,fun e=>⟨fun e2=> ?_,fun e2=> ?_⟩⟩
   . have:x=0:=by simpa using e
     subst this;exact hq
   . have:x=1:=by simpa using e2
     subst this;exact hq
   . have h0:x≠0:=by simpa using e
     have h1:x≠1:=by simpa using e2
     have:(x==2)=decide (0<=x/\x<=2):=by
      by_cases hx:x=2
      . subst hx;rfl
      . rw[decide_eq_false (by omega)];simpa using hx
     rw[this];exact hq
 . exact h.elim
theorem sSign:Sound Try.prog 39 SSign:=by
 refine sound_of (C:=CSign) [] Try.func39 (by kernel_rfl) (by decide+kernel) (by kernel_rfl) rfl trivial (loops0 (by kernel_rfl)) ?_;intro hargs pars R h;unfold SSign at h;split at h
 . rename_i x y;have hq:=h.2;refine byVC (vcSign x y R) ⟨fun e=> ?_,fun e=>⟨fun e2=> ?_,fun e2=>⟨fun e3=> ?_,fun e3=> ?_⟩⟩⟩
   . have:x=0:=by simpa using e
     subst this;simpa using hq
   . have:y=0:=by simpa using e2
     subst this;simpa using hq
   . have h0:x≠0:=by simpa using e
     have h1:y≠0:=by simpa using e2
     have:x.sign*y.sign=1:=by
      rcases Int.lt_or_gt_of_ne h0 with hx|hx<;>rcases Int.lt_or_gt_of_ne h1 with hy|hy
      . rw[Int.sign_eq_neg_one_of_neg hx,Int.sign_eq_neg_one_of_neg hy];rfl
      . simp[hx,Int.not_lt.2 (Int.le_of_lt hy)]at e3
      . simp[hy,Int.not_lt.2 (Int.le_of_lt hx)]at e3
      . rw[Int.sign_eq_one_of_pos hx,Int.sign_eq_one_of_pos hy];rfl
     rw[this]at hq;exact hq
   . have h0:x≠0:=by simpa using e
     have h1:y≠0:=by simpa using e2
     have:x.sign*y.sign= -1:=by
      rcases Int.lt_or_gt_of_ne h0 with hx|hx<;>rcases Int.lt_or_gt_of_ne h1 with hy|hy
      . simp[hx,hy]at e3
      . rw[Int.sign_eq_neg_one_of_neg hx,Int.sign_eq_one_of_pos hy];rfl
      . rw[Int.sign_eq_one_of_pos hx,Int.sign_eq_neg_one_of_neg hy];rfl
      . simp[Int.not_lt.2 (Int.le_of_lt hx),Int.not_lt.2 (Int.le_of_lt hy)]at e3
     rw[this]at hq;exact hq
 . exact h.elim
end Go.Proofs.Ytaonkcjadaopgaa
namespace U
open Go
def grw(m e:Int)(s n:Bool):Bool:=if m=0 then s&&n else if m=1 then s&& !n else decide (e>0)||(decide (e=0)&& !n)
def mdv(n c mode:Int):Int:=if mode=0 then n/c else if mode=1 then-((-n)/c)else(2*n+c)/(2*c)
end U
namespace Go.Proofs.Ytaonkcjadaopgaa
open Go Go.HL U
def SGrows(hA:List HV)(pA:List (List HC)):SR:=match hA,pA with
 |[.ce (.int .i64 m), .ce (.int .i64 e), .ce (.bool s), .ce (.bool n)],[]=> .det True ⟨.ce (.bool (grw m e s n)),false,[],[]⟩
 |_,_=> .fail
def SSigned(hA:List HV)(pA:List (List HC)):SR:=match hA,pA with
 |[.ce (.int .u64 n), .ce (.bool neg)],[]=> .det (0<=n/\n<=9223372036854775807) ⟨.tup [.ce (.int .i64 (if neg then-n else n)), .ce (.bool true)],false,[],[]⟩
 |_,_=> .fail
def SMulDiv(hA:List HV)(pA:List (List HC)):SR:=match hA,pA with
 |[.ce (.int .i64 a), .ce (.int .i64 b), .ce (.int .i64 c), .ce (.int .i64 m)],[]=> .det ((-9223372036854775808<=a/\a<=9223372036854775807)/\(-9223372036854775808<=b/\b<=9223372036854775807)/\(0<c/\c<=9223372036854775807)/\(-4611686018427387904<=a*b/\a*b<=4611686018427387904)/\(0<=m/\m<=2)) ⟨.tup [.ce (.int .i64 (mdv (a*b) c m)), .ce (.bool true)],false,[],[]⟩
 |_,_=> .fail
def tabMulDiv:List (FuncId×HL.Spec):=[(35,SKnown),(36,SProduct),(37,SSize),(38,SDiv64),(39,SSign),(40,SGrows),(41,SSigned)]
noncomputable def CMulDiv:Ctx:=⟨Try.prog,gam tabMulDiv,83,[],[]⟩
theorem vcMulDiv(a b c m:Int)(Q:Res->Prop):(nfun true CMulDiv Try.f34 (bodyOf Try.f34) [.ce (.int .i64 a), .ce (.int .i64 b), .ce (.int .i64 c), .ce (.int .i64 m)] [] Q)=(((c==0)=true->Q ⟨.tup [.ce (.int .i64 0), .ce (.bool false)],false,[],[]⟩)/\((c==0)=false->True/\∀(x1:Bool),x1=decide (0<=m/\m<=2)->((!x1)=true->Q ⟨.tup [.ce (.int .i64 0), .ce (.bool false)],false,[],[]⟩)/\((!x1)=false->(-9223372036854775808<=a/\a<=9223372036854775807)/\∀(x2:Int),x2=(((Int.natAbs a):Nat):Int)->(-9223372036854775808<=b/\b<=9223372036854775807)/\∀(x3:Int),x3=(((Int.natAbs b):Nat):Int)->(0<=x2/\x2<18446744073709551616/\0<=x3/\x3<18446744073709551616)/\∀(x4:Int),x4=x2*x3/18446744073709551616->∀(x5:Int),x5=x2*x3%18446744073709551616->(-9223372036854775808<=c/\c<=9223372036854775807)/\∀(x6:Int),x6=(((Int.natAbs c):Nat):Int)->(decide (x4>=x6)=true->Q ⟨.tup [.ce (.int .i64 0), .ce (.bool false)],false,[],[]⟩)/\(decide (x4>=x6)=false->(x4=0/\0<=x5/\x5<18446744073709551616/\0<x6/\x6<18446744073709551616)/\∀(x7:Int),x7=x5/x6->∀(x8:Int),x8=x5%x6->True/\∀(x9:Int),x9=Int.sign a*Int.sign b->((!decide (x9<0)==decide (c<0))=true->True/\∀(x10:Int),x10=Int.sign a*Int.sign b->∀(x11:Int),x11=(x6-x8)%18446744073709551616->(decide (x8>x11)=true->True/\∀(x12:Bool),x12=grw m (1:Int) (decide (x8>0)) (x10 !=0)->(x12=true->∀(x13:Int),x13=(x7+1)%18446744073709551616->((x13==0)=true->Q ⟨.tup [.ce (.int .i64 0), .ce (.bool false)],false,[],[]⟩)/\((x13==0)=false->(0<=x13/\x13<=9223372036854775807)/\∀(x14:Int),(x14=if(x10 !=0)=true then-x13 else x13)->∀(x15:Bool),x15=true->Q ⟨.tup [.ce (.int .i64 x14), .ce (.bool x15)],false,[],[]⟩))/\(x12=false->(0<=x7/\x7<=9223372036854775807)/\∀(x16:Int),(x16=if(x10 !=0)=true then-x7 else x7)->∀(x17:Bool),x17=true->Q ⟨.tup [.ce (.int .i64 x16), .ce (.bool x17)],false,[],[]⟩))/\(decide (x8>x11)=false->∀(x18:Int),x18=(x6-x8)%18446744073709551616->(decide (x8<x18)=true->True/\∀(x19:Bool),x19=grw m (-1:Int) (decide (x8>0)) (x10 !=0)->(x19=true->∀(x20:Int),x20=(x7+1)%18446744073709551616->((x20==0)=true->Q ⟨.tup [.ce (.int .i64 0), .ce (.bool false)],false,[],[]⟩)/\((x20==0)=false->(0<=x20/\x20<=9223372036854775807)/\∀(x21:Int),(x21=if(x10 !=0)=true then-x20 else x20)->∀(x22:Bool),x22=true->Q ⟨.tup [.ce (.int .i64 x21), .ce (.bool x22)],false,[],[]⟩))/\(x19=false->(0<=x7/\x7<=9223372036854775807)/\∀(x23:Int),(x23=if(x10 !=0)=true then-x7 else x7)->∀(x24:Bool),x24=true->Q ⟨.tup [.ce (.int .i64 x23), .ce (.bool x24)],false,[],[]⟩))/\(decide (x8<x18)=false->True/\∀(x25:Bool),x25=grw m (0:Int) (decide (x8>0)) (x10 !=0)->(x25=true->∀(x26:Int),x26=(x7+1)%18446744073709551616->((x26==0)=true->Q ⟨.tup [.ce (.int .i64 0), .ce (.bool false)],false,[],[]⟩)/\((x26==0)=false->(0<=x26/\x26<=9223372036854775807)/\∀(x27:Int),(x27=if(x10 !=0)=true then-x26 else x26)->∀(x28:Bool),x28=true->Q ⟨.tup [.ce (.int .i64 x27), .ce (.bool x28)],false,[],[]⟩))/\(x25=false->(0<=x7/\x7<=9223372036854775807)/\∀(x29:Int),(x29=if(x10 !=0)=true then-x7 else x7)->∀(x30:Bool),x30=true->Q ⟨.tup [.ce (.int .i64 x29), .ce (.bool x30)],false,[],[]⟩))))/\((!decide (x9<0)==decide (c<0))=false->∀(x31:Int),x31=(x6-x8)%18446744073709551616->(decide (x8>x31)=true->True/\∀(x32:Bool),x32=grw m (1:Int) (decide (x8>0)) false->(x32=true->∀(x33:Int),x33=(x7+1)%18446744073709551616->((x33==0)=true->Q ⟨.tup [.ce (.int .i64 0), .ce (.bool false)],false,[],[]⟩)/\((x33==0)=false->(0<=x33/\x33<=9223372036854775807)/\∀(x34:Int),(x34=if false=true then-x33 else x33)->∀(x35:Bool),x35=true->Q ⟨.tup [.ce (.int .i64 x34), .ce (.bool x35)],false,[],[]⟩))/\(x32=false->(0<=x7/\x7<=9223372036854775807)/\∀(x36:Int),(x36=if false=true then-x7 else x7)->∀(x37:Bool),x37=true->Q ⟨.tup [.ce (.int .i64 x36), .ce (.bool x37)],false,[],[]⟩))/\(decide (x8>x31)=false->∀(x38:Int),x38=(x6-x8)%18446744073709551616->(decide (x8<x38)=true->True/\∀(x39:Bool),x39=grw m (-1:Int) (decide (x8>0)) false->(x39=true->∀(x40:Int),x40=(x7+1)%18446744073709551616->((x40==0)=true->Q ⟨.tup [.ce (.int .i64 0), .ce (.bool false)],false,[],[]⟩)/\((x40==0)=false->(0<=x40/\x40<=9223372036854775807)/\∀(x41:Int),(x41=if false=true then-x40 else x40)->∀(x42:Bool),x42=true->Q ⟨.tup [.ce (.int .i64 x41), .ce (.bool x42)],false,[],[]⟩))/\(x39=false->(0<=x7/\x7<=9223372036854775807)/\∀(x43:Int),(x43=if false=true then-x7 else x7)->∀(x44:Bool),x44=true->Q ⟨.tup [.ce (.int .i64 x43), .ce (.bool x44)],false,[],[]⟩))/\(decide (x8<x38)=false->True/\∀(x45:Bool),x45=grw m (0:Int) (decide (x8>0)) false->(x45=true->∀(x46:Int),x46=(x7+1)%18446744073709551616->((x46==0)=true->Q ⟨.tup [.ce (.int .i64 0), .ce (.bool false)],false,[],[]⟩)/\((x46==0)=false->(0<=x46/\x46<=9223372036854775807)/\∀(x47:Int),(x47=if false=true then-x46 else x46)->∀(x48:Bool),x48=true->Q ⟨.tup [.ce (.int .i64 x47), .ce (.bool x48)],false,[],[]⟩))/\(x45=false->(0<=x7/\x7<=9223372036854775807)/\∀(x49:Int),(x49=if false=true then-x7 else x7)->∀(x50:Bool),x50=true->Q ⟨.tup [.ce (.int .i64 x49), .ce (.bool x50)],false,[],[]⟩)))))))):=by kernel_rfl
end Go.Proofs.Ytaonkcjadaopgaa
namespace U
open Go
theorem ediv_of{x d k:Int}(hd:0<d)(h1:d*k<=x)(h2:x<d*k+d):x/d=k:=by
 have a1:k<=x/d:=Int.le_ediv_of_mul_le hd (by rw[Int.mul_comm];exact h1);have a2:x/d<k+1:=Int.ediv_lt_of_lt_mul hd (by rw[Int.add_mul,Int.one_mul,Int.mul_comm];exact h2);omega
theorem mdv_eq{n c m q r e:Int}{neg:Bool}(hc:0<c)(hm:0<=m/\m<=2)(hr:0<=r/\r<c)(hn:(if neg then-n else n)=c*q+r)(h0:neg=true->0<c*q+r)(he1:0<e↔c<2*r)(he0:e=0↔2*r=c):mdv n c m=if neg then-(if grw m e (decide (r>0)) neg then q+1 else q)else(if grw m e (decide (r>0)) neg then q+1 else q):=by
 have hm':m=0∨m=1∨m=2:=by omega
 unfold mdv grw;cases neg with
 |false=>
  simp only[Bool.false_eq_true,if_false]at hn;subst hn;have g:∀k,c*(q+k)=c*q+c*k:=fun k=>Int.mul_add c q k;rcases hm' with rfl|rfl|rfl
  . simp;exact ediv_of hc (by omega) (by omega)
  . simp;by_cases h:0<r
    . simp[h];have:=g 1;rw[ediv_of (k:= -(q+1)) hc (by rw[Int.mul_neg];omega) (by rw[Int.mul_neg];omega)];omega
    . simp[h];rw[ediv_of (k:= -q) hc (by rw[Int.mul_neg];omega) (by rw[Int.mul_neg];omega)];omega
  . simp;by_cases h:c<=2*r
    . have:0<e∨e=0:=by omega
      simp[this];have:=g 1;exact ediv_of (by omega) (by rw[Int.mul_assoc];omega) (by rw[Int.mul_assoc];omega)
    . have:¬(0<e∨e=0):=by omega
      simp[this];exact ediv_of (by omega) (by rw[Int.mul_assoc];omega) (by rw[Int.mul_assoc];omega)
 |true=>
  simp only[if_true]at hn;obtain rfl:n= -(c*q+r):=by omega
  have g:∀k,c*(q+k)=c*q+c*k:=fun k=>Int.mul_add c q k;rcases hm' with rfl|rfl|rfl
  . simp;by_cases h:0<r
    . simp[h];have:=g 1;exact ediv_of hc (by rw[Int.mul_neg];omega) (by rw[Int.mul_neg];omega)
    . simp[h];exact ediv_of hc (by rw[Int.mul_neg];omega) (by rw[Int.mul_neg];omega)
  . simp;rw[ediv_of (k:=q) hc (by omega) (by omega)]
  . simp;by_cases h:c<2*r
    . have:0<e:=by omega
      simp[this];have:=g 1;exact ediv_of (by omega) (by rw[Int.mul_assoc];simp only[Int.mul_neg];omega) (by rw[Int.mul_assoc];simp only[Int.mul_neg];omega)
    . have:¬0<e:=by omega
      simp[this];exact ediv_of (by omega) (by rw[Int.mul_assoc];simp only[Int.mul_neg];omega) (by rw[Int.mul_assoc];simp only[Int.mul_neg];omega)
end U
namespace Go.Proofs.Ytaonkcjadaopgaa
open Go Go.HL U
theorem sGrows:Sound Try.prog 40 SGrows:=by
 refine sound_of (C:=CGrows) [] Try.func40 (by kernel_rfl) (by decide+kernel) (by kernel_rfl) rfl trivial (loops0 (by kernel_rfl)) ?_;intro hA pA R h;unfold SGrows at h;split at h
 . rename_i m e s n;have hq:=h.2;unfold grw at hq;refine byVC (vcGrows m e s n R) ⟨fun e1=> ?_,fun e1=>⟨fun e2=> ?_,fun e2=>⟨fun e3=> ?_,fun e3=>⟨fun e4=> ?_,fun e4=> ?_⟩⟩⟩⟩
   . have:m=0:=by simpa using e1
     subst this;exact⟨fun k=>by subst k;simpa using hq,fun k=>by subst k;simpa using hq⟩
   . have:m=1:=by simpa using e2
     subst this;exact⟨fun k=>by subst k;simpa using hq,fun k=>by subst k;simpa using hq⟩
   . have h0:m≠0:=by simpa using e1
     have h1:m≠1:=by simpa using e2
     have h3:=of_decide_eq_true e3;simpa[h0,h1,h3]using hq
   . have h0:m≠0:=by simpa using e1
     have h1:m≠1:=by simpa using e2
     have h4:e=0:=by simpa using e4
     subst h4;simpa[h0,h1]using hq
   . have h0:m≠0:=by simpa using e1
     have h1:m≠1:=by simpa using e2
     have h3:=of_decide_eq_false e3;have h4:e≠0:=by simpa using e4
     simpa[h0,h1,h3,h4]using hq
 . exact h.elim
theorem sSigned:Sound Try.prog 41 SSigned:=by
 refine sound_of (C:=CSigned) [] Try.func41 (by kernel_rfl) (by decide+kernel) (by kernel_rfl) rfl trivial (loops0 (by kernel_rfl)) ?_;intro hA pA R h;unfold SSigned at h;split at h
 . rename_i n neg;obtain⟨⟨h1,h2⟩,hq⟩:=h;refine byVC (vcSigned n neg R) ⟨fun e=> ?_,fun e=> ?_⟩
   . subst e;refine⟨fun _ x1 e1 x2 e2=> ?_,fun e=>absurd (of_decide_eq_false e) (by omega)⟩;have:x2= -n:=by
      rw[e2,e1];simp[IntKind.wrap,IntKind.signed,IntKind.bits];split<;>omega
     rw[this];exact hq
   . subst e;refine⟨fun _=>⟨fun _ x1 e1=> ?_,fun e=>absurd (of_decide_eq_false e) (by omega)⟩,fun e=>(nomatch e)⟩;have hw:=U.wrap_small (x:=n) (by omega) (by omega);rw[e1,hw];exact hq
 . exact h.elim
theorem sMulDiv:Sound Try.prog 34 SMulDiv:=by
 refine sound_of (C:=CMulDiv) tabMulDiv Try.func34 (by kernel_rfl) (by decide+kernel) (by kernel_rfl) rfl ⟨sKnown,sProduct,sSize,sDiv64,sSign,sGrows,sSigned,trivial⟩ (loops0 (by kernel_rfl)) ?_;intro hA pA R h;unfold SMulDiv at h;split at h
 . rename_i a b c m;obtain⟨⟨ha,hb,hc,hab,hm⟩,hq⟩:=h;have hprod:((a.natAbs:Int))*(b.natAbs:Int)=((a*b).natAbs:Int):=by rw[Int.natAbs_mul];rfl
   have hsg:a.sign*b.sign=(a*b).sign:=(Int.sign_mul a b).symm;refine byVC (vcMulDiv a b c m R) ?_;generalize a*b=n at*;refine⟨fun e=>absurd e (by simp;omega),fun _=>⟨trivial,fun x1 e1=>⟨fun e=>absurd e (by rw[e1];simp;omega),fun _=>⟨ha,fun x2 e2=>⟨hb,fun x3 e3=>⟨by omega,?_⟩⟩⟩⟩⟩⟩;rw[e2,e3,hprod];intro x4 e4 x5 e5;refine⟨by omega,fun x6 e6=>⟨fun e=>absurd (of_decide_eq_true e) (by omega),fun _=>⟨by omega,fun x7 e7 x8 e8=>⟨trivial,fun x9 e9=> ?_⟩⟩⟩⟩;have hx6:x6=c:=by omega
   subst hx6;have r0:=Int.emod_nonneg x5 (show x6≠0 by omega);have r1:=Int.emod_lt_of_pos x5 (show 0<x6 by omega);have d1:=Int.mul_ediv_add_emod x5 x6;have d2:0<=x5/x6:=Int.ediv_nonneg (by omega) (by omega);have d3:x5/x6<=x5:=Int.ediv_le_self _ (by omega);rw[<-e7]at d1 d2 d3;rw[<-e8]at d1 r0 r1;rw[hsg]at e9;have hc0:decide (x6<0)=false:=decide_eq_false (by omega);rw[hc0];have fin:∀(e:Int)(neg:Bool)(q v:Int)(w:Bool),(neg=true->n<0)->(neg=false->0<=n)->(0<e↔x6<2*x8)->(e=0↔2*x8=x6)->q=(if grw m e (decide (x8>0)) neg then x7+1 else x7)->v=(if neg=true then-q else q)->w=true->R ⟨.tup [.ce (.int .i64 v), .ce (.bool w)],false,[],[]⟩:=by
    intro e neg q v w n1 n0 g1 g0 hqq hv hw;subst hw;have:=mdv_eq (n:=n) (c:=x6) (m:=m) (q:=x7) (r:=x8) (e:=e) (neg:=neg) (by omega) hm ⟨r0,r1⟩ (by
     cases neg with
     |false=>have:=n0 rfl;simp;omega
     |true=>have:=n1 rfl;simp;omega) (fun k=>by have:=n1 k;omega) g1 g0;rw[hv,hqq];rw[this]at hq;exact hq
   have leaf:∀(e:Int)(neg y:Bool),y=grw m e (decide (x8>0)) neg->(neg=true->n<0)->(neg=false->0<=n)->(0<e↔x6<2*x8)->(e=0↔2*x8=x6)->(y=true->∀q1:Int,q1=(x7+1)%18446744073709551616->((q1==0)=true->R ⟨.tup [.ce (.int .i64 0), .ce (.bool false)],false,[],[]⟩)/\((q1==0)=false->(0<=q1/\q1<=9223372036854775807)/\∀v:Int,v=(if neg=true then-q1 else q1)->∀w:Bool,w=true->R ⟨.tup [.ce (.int .i64 v), .ce (.bool w)],false,[],[]⟩))/\(y=false->(0<=x7/\x7<=9223372036854775807)/\∀v:Int,v=(if neg=true then-x7 else x7)->∀w:Bool,w=true->R ⟨.tup [.ce (.int .i64 v), .ce (.bool w)],false,[],[]⟩):=by
    intro e neg y hy n1 n0 g1 g0;refine⟨fun u q1 eq1=> ?_,fun u=>⟨by omega,fun v hv w hw=>fin e neg x7 v w n1 n0 g1 g0 (by rw[<-hy,u];rfl) hv hw⟩⟩;have hq1:q1=x7+1:=by omega
    exact⟨fun z=>absurd z (by simp;omega),fun _=>⟨by omega,fun v hv w hw=>fin e neg q1 v w n1 n0 g1 g0 (by rw[<-hy,u,hq1];rfl) hv hw⟩⟩
   clear fin hq d1 e7 hprod;refine⟨fun en=>⟨trivial,fun x10 e10=> ?_⟩,fun en=> ?_⟩
   . rw[hsg]at e10;have hn:n<0:=by
      rcases Int.lt_trichotomy n 0 with h|h|h
      . exact h
      . subst h;simp[e9]at en
      . rw[Int.sign_eq_one_of_pos h]at e9;subst e9;simp at en
     rw[Int.sign_eq_neg_one_of_neg hn]at e10;subst e10;intro x11 e11;have s1:x11=x6-x8:=by omega
     refine⟨fun k=>⟨trivial,?_⟩,fun k x18 e18=>⟨fun k2=>⟨trivial,?_⟩,fun k2=>⟨trivial,?_⟩⟩⟩
     . have k:=of_decide_eq_true k;exact fun y ey=>leaf 1 true y ey (fun _=>hn) (fun z=>nomatch z) (by omega) (by omega)
     . have k:=of_decide_eq_false k;have k2:=of_decide_eq_true k2;exact fun y ey=>leaf (-1) true y ey (fun _=>hn) (fun z=>nomatch z) (by omega) (by omega)
     . have k:=of_decide_eq_false k;have k2:=of_decide_eq_false k2;exact fun y ey=>leaf 0 true y ey (fun _=>hn) (fun z=>nomatch z) (by omega) (by omega)
   . have hn:0<=n:=by
      rcases Int.lt_trichotomy n 0 with h|h|h
      . rw[Int.sign_eq_neg_one_of_neg h]at e9;subst e9;simp at en
      . omega
      . omega
     intro x31 e31;have s1:x31=x6-x8:=by omega
     refine⟨fun k=>⟨trivial,?_⟩,fun k x38 e38=>⟨fun k2=>⟨trivial,?_⟩,fun k2=>⟨trivial,?_⟩⟩⟩
     . have k:=of_decide_eq_true k;exact fun y ey=>leaf 1 false y ey (fun z=>nomatch z) (fun _=>hn) (by omega) (by omega)
     . have k:=of_decide_eq_false k;have k2:=of_decide_eq_true k2;exact fun y ey=>leaf (-1) false y ey (fun z=>nomatch z) (fun _=>hn) (by omega) (by omega)
     . have k:=of_decide_eq_false k;have k2:=of_decide_eq_false k2;exact fun y ey=>leaf 0 false y ey (fun z=>nomatch z) (fun _=>hn) (by omega) (by omega)
 . exact h.elim
end Go.Proofs.Ytaonkcjadaopgaa
namespace U
open Go
def vl(n:Int):Bool:=decide (n>= -1000000000000000)&&decide (n<=1000000000000000)
def isw(n:Int):Bool:=vl n&&(n.tmod 1000000==0)
def wv(n:Int):Int:=if isw n then n.tdiv 1000000 else 0
def lt(r:List Int):Int:=r.getD 0 0
def nm(r:List Int):Int:=r.getD 1 0
def isc(r:List Int):Bool:=isw (nm r)&&(lt r==71||lt r==77)
def amg(n:Int):List (List Int)->Bool
 |[]=>false
 |r::l=>(n==r.getD 0 0)||amg n l
def scn(c:Int):List (List (List Int))->Int->Int
 |[],_=>0
 |g::r,i=>if amg c g then i else scn c r (i+1)
def glit:List (List (List Int)):=[[[0],[1],[2],[3],[33],[73],[74],[80],[81],[82],[83],[84],[85],[86],[89]],[[17],[18],[19]],[[90],[91]],[[20],[21]],[[94],[95]],[[40],[41],[42]],[[43],[44],[49]],[[98],[99]],[[54],[55],[56],[57],[58],[59]],[[61],[64]],[[15],[16]],[[68],[69]],[[53]],[[4],[10],[12],[13],[31],[52],[92]]]
def prep(c:Int):Int:=scn c glit 1
def misc(c:Int):Int:=if amg c [[0],[1],[2],[30]]then 21 else if amg c [[3],[4],[5]]then 22 else if c=6 then 23 else if amg c [[7],[8],[9]]then 24 else if c=62∨c=63 then 25 else 0
def grp(l c:Int):Int:=if l=71 then prep c else if l=77 then misc c else 0
def has(c n:Int):List (List Int)->Bool
 |[]=>false
 |r::l=>(isc r&&(lt r==c)&&(wv (nm r)==n))||has c n l
def fnd(c:Int):List (List Int)->Option Int
 |[]=>none
 |r::l=>if lt r=c then some (nm r)else fnd c l
def fndN(c:Int)(l:List (List Int)):Int:=match fnd c l with|some x=>x|none=>0
def fndB(c:Int)(l:List (List Int)):Bool:=match fnd c l with|some _=>true|none=>false
def gof(g:Int):List (List Int)->Int
 |[]=> -1
 |r::l=>if isw (nm r)&&(grp (lt r) (wv (nm r))==g)then wv (nm r)else gof g l
end U
namespace Go.Proofs.Ytaonkcjadaopgaa
open Go Go.HL U
def SVl(hA:List HV)(pA:List (List HC)):SR:=match hA,pA with
 |[.ce (.int .i64 n)],[]=> .det True ⟨.ce (.bool (vl n)),false,[],[]⟩
 |_,_=> .fail
noncomputable def CVl:Ctx:=⟨Try.prog,gam [],Try.f16.ntmps,[],[]⟩
theorem vcVl(n:Int)(Q:Res->Prop):(nfun true CVl Try.f16 (bodyOf Try.f16) [.ce (.int .i64 n)] [] Q)=((decide (n>=(-1000000000000000:Int))=true->Q ⟨.ce (.bool (decide (n<=1000000000000000))),false,[],[]⟩)/\(decide (n>=(-1000000000000000:Int))=false->Q ⟨.ce (.bool false),false,[],[]⟩)):=by kernel_rfl
theorem vcVl2(n:Int)(Q:Res->Prop):(nfun true CVl Try.f18 (bodyOf Try.f18) [.ce (.int .i64 n)] [] Q)=((decide (n>=(-1000000000000000:Int))=true->Q ⟨.ce (.bool (decide (n<=1000000000000000))),false,[],[]⟩)/\(decide (n>=(-1000000000000000:Int))=false->Q ⟨.ce (.bool false),false,[],[]⟩)):=by kernel_rfl
def SWhole(hA:List HV)(pA:List (List HC)):SR:=match hA,pA with
 |[.ce (.int .i64 n)],[]=> .det True ⟨.tup [.ce (.int .i64 (wv n)), .ce (.bool (isw n))],false,[],[]⟩
 |_,_=> .fail
def tabVl:List (FuncId×HL.Spec):=[(16,SVl),(18,SVl)]
noncomputable def CWhole:Ctx:=⟨Try.prog,gam tabVl,Try.f31.ntmps,[],[]⟩
theorem vcWhole(n:Int)(Q:Res->Prop):(nfun true CWhole Try.f31 (bodyOf Try.f31) [.ce (.int .i64 n)] [] Q)=(True/\∀(x1:Bool),x1=vl n->((!x1)=true->Q ⟨.tup [.ce (.int .i64 0), .ce (.bool false)],false,[],[]⟩)/\((!x1)=false->(1000000:Int)≠(0:Int)/\∀(x2:Int),x2=Int.tmod n 1000000->((x2 !=0)=true->Q ⟨.tup [.ce (.int .i64 0), .ce (.bool false)],false,[],[]⟩)/\((x2 !=0)=false->(1000000:Int)≠(0:Int)/\(-9223372036854775808<=Int.tdiv n 1000000/\Int.tdiv n 1000000<=9223372036854775807)/\∀(x3:Int),x3=Int.tdiv n 1000000->Q ⟨.tup [.ce (.int .i64 x3), .ce (.bool true)],false,[],[]⟩))):=by kernel_rfl
theorem vcWhole2(n:Int)(Q:Res->Prop):(nfun true CWhole Try.f20 (bodyOf Try.f20) [.ce (.int .i64 n)] [] Q)=(True/\∀(x1:Bool),x1=vl n->((!x1)=true->Q ⟨.tup [.ce (.int .i64 0), .ce (.bool false)],false,[],[]⟩)/\((!x1)=false->(1000000:Int)≠(0:Int)/\∀(x2:Int),x2=Int.tmod n 1000000->((x2 !=0)=true->Q ⟨.tup [.ce (.int .i64 0), .ce (.bool false)],false,[],[]⟩)/\((x2 !=0)=false->(1000000:Int)≠(0:Int)/\(-9223372036854775808<=Int.tdiv n 1000000/\Int.tdiv n 1000000<=9223372036854775807)/\∀(x3:Int),x3=Int.tdiv n 1000000->Q ⟨.tup [.ce (.int .i64 x3), .ce (.bool true)],false,[],[]⟩))):=by kernel_rfl
def SCode(hA:List HV)(pA:List (List HC)):SR:=match hA,pA with
 |[.agg [.int .i64 a, .int .i64 n]],[]=> .det True ⟨.tup [.ce (.int .i64 (wv n)), .ce (.bool (isc [a,n]))],false,[],[]⟩
 |_,_=> .fail
def tabW:List (FuncId×HL.Spec):=[(31,SWhole),(20,SWhole)]
noncomputable def CCode:Ctx:=⟨Try.prog,gam tabW,Try.f17.ntmps,[],[]⟩
theorem vcCode(a n:Int)(Q:Res->Prop):(nfun true CCode Try.f17 (bodyOf Try.f17) [.agg [.int .i64 a, .int .i64 n]] [] Q)=(True/\∀(x1:Int),x1=wv n->∀(x2:Bool),x2=isw n->(x2=true->((a==71)=true->Q ⟨.tup [.ce (.int .i64 x1), .ce (.bool true)],false,[],[]⟩)/\((a==71)=false->Q ⟨.tup [.ce (.int .i64 x1), .ce (.bool (a==77))],false,[],[]⟩))/\(x2=false->Q ⟨.tup [.ce (.int .i64 x1), .ce (.bool false)],false,[],[]⟩)):=by kernel_rfl
def SPrep(hA:List HV)(pA:List (List HC)):SR:=match hA,pA with
 |[.ce (.int .i64 c)],[]=> .det True ⟨.ce (.int .i64 (prep c)),false,[],[]⟩
 |_,_=> .fail
noncomputable def CPrep:Ctx:=⟨Try.prog,gam [],Try.f28.ntmps,[],[]⟩
theorem vcPrep(c:Int)(Q:Res->Prop):(nfun true CPrep Try.f28 (bodyOf Try.f28) [.ce (.int .i64 c)] [] Q)=(((c==0)=true->Q ⟨.ce (.int .i64 1),false,[],[]⟩)/\((c==0)=false->((c==1)=true->Q ⟨.ce (.int .i64 1),false,[],[]⟩)/\((c==1)=false->((c==2)=true->Q ⟨.ce (.int .i64 1),false,[],[]⟩)/\((c==2)=false->((c==3)=true->Q ⟨.ce (.int .i64 1),false,[],[]⟩)/\((c==3)=false->((c==33)=true->Q ⟨.ce (.int .i64 1),false,[],[]⟩)/\((c==33)=false->((c==73)=true->Q ⟨.ce (.int .i64 1),false,[],[]⟩)/\((c==73)=false->((c==74)=true->Q ⟨.ce (.int .i64 1),false,[],[]⟩)/\((c==74)=false->((c==80)=true->Q ⟨.ce (.int .i64 1),false,[],[]⟩)/\((c==80)=false->((c==81)=true->Q ⟨.ce (.int .i64 1),false,[],[]⟩)/\((c==81)=false->((c==82)=true->Q ⟨.ce (.int .i64 1),false,[],[]⟩)/\((c==82)=false->((c==83)=true->Q ⟨.ce (.int .i64 1),false,[],[]⟩)/\((c==83)=false->((c==84)=true->Q ⟨.ce (.int .i64 1),false,[],[]⟩)/\((c==84)=false->((c==85)=true->Q ⟨.ce (.int .i64 1),false,[],[]⟩)/\((c==85)=false->((c==86)=true->Q ⟨.ce (.int .i64 1),false,[],[]⟩)/\((c==86)=false->((c==89)=true->Q ⟨.ce (.int .i64 1),false,[],[]⟩)/\((c==89)=false->((c==17)=true->Q ⟨.ce (.int .i64 2),false,[],[]⟩)/\((c==17)=false->((c==18)=true->Q ⟨.ce (.int .i64 2),false,[],[]⟩)/\((c==18)=false->((c==19)=true->Q ⟨.ce (.int .i64 2),false,[],[]⟩)/\((c==19)=false->((c==90)=true->Q ⟨.ce (.int .i64 3),false,[],[]⟩)/\((c==90)=false->((c==91)=true->Q ⟨.ce (.int .i64 3),false,[],[]⟩)/\((c==91)=false->((c==20)=true->Q ⟨.ce (.int .i64 4),false,[],[]⟩)/\((c==20)=false->((c==21)=true->Q ⟨.ce (.int .i64 4),false,[],[]⟩)/\((c==21)=false->((c==94)=true->Q ⟨.ce (.int .i64 5),false,[],[]⟩)/\((c==94)=false->((c==95)=true->Q ⟨.ce (.int .i64 5),false,[],[]⟩)/\((c==95)=false->((c==40)=true->Q ⟨.ce (.int .i64 6),false,[],[]⟩)/\((c==40)=false->((c==41)=true->Q ⟨.ce (.int .i64 6),false,[],[]⟩)/\((c==41)=false->((c==42)=true->Q ⟨.ce (.int .i64 6),false,[],[]⟩)/\((c==42)=false->((c==43)=true->Q ⟨.ce (.int .i64 7),false,[],[]⟩)/\((c==43)=false->((c==44)=true->Q ⟨.ce (.int .i64 7),false,[],[]⟩)/\((c==44)=false->((c==49)=true->Q ⟨.ce (.int .i64 7),false,[],[]⟩)/\((c==49)=false->((c==98)=true->Q ⟨.ce (.int .i64 8),false,[],[]⟩)/\((c==98)=false->((c==99)=true->Q ⟨.ce (.int .i64 8),false,[],[]⟩)/\((c==99)=false->((c==54)=true->Q ⟨.ce (.int .i64 9),false,[],[]⟩)/\((c==54)=false->((c==55)=true->Q ⟨.ce (.int .i64 9),false,[],[]⟩)/\((c==55)=false->((c==56)=true->Q ⟨.ce (.int .i64 9),false,[],[]⟩)/\((c==56)=false->((c==57)=true->Q ⟨.ce (.int .i64 9),false,[],[]⟩)/\((c==57)=false->((c==58)=true->Q ⟨.ce (.int .i64 9),false,[],[]⟩)/\((c==58)=false->((c==59)=true->Q ⟨.ce (.int .i64 9),false,[],[]⟩)/\((c==59)=false->((c==61)=true->Q ⟨.ce (.int .i64 10),false,[],[]⟩)/\((c==61)=false->((c==64)=true->Q ⟨.ce (.int .i64 10),false,[],[]⟩)/\((c==64)=false->((c==15)=true->Q ⟨.ce (.int .i64 11),false,[],[]⟩)/\((c==15)=false->((c==16)=true->Q ⟨.ce (.int .i64 11),false,[],[]⟩)/\((c==16)=false->((c==68)=true->Q ⟨.ce (.int .i64 12),false,[],[]⟩)/\((c==68)=false->((c==69)=true->Q ⟨.ce (.int .i64 12),false,[],[]⟩)/\((c==69)=false->((c==53)=true->Q ⟨.ce (.int .i64 13),false,[],[]⟩)/\((c==53)=false->((c==4)=true->Q ⟨.ce (.int .i64 14),false,[],[]⟩)/\((c==4)=false->((c==10)=true->Q ⟨.ce (.int .i64 14),false,[],[]⟩)/\((c==10)=false->((c==12)=true->Q ⟨.ce (.int .i64 14),false,[],[]⟩)/\((c==12)=false->((c==13)=true->Q ⟨.ce (.int .i64 14),false,[],[]⟩)/\((c==13)=false->((c==31)=true->Q ⟨.ce (.int .i64 14),false,[],[]⟩)/\((c==31)=false->((c==52)=true->Q ⟨.ce (.int .i64 14),false,[],[]⟩)/\((c==52)=false->((c==92)=true->Q ⟨.ce (.int .i64 14),false,[],[]⟩)/\((c==92)=false->Q ⟨.ce (.int .i64 0),false,[],[]⟩))))))))))))))))))))))))))))))))))))))))))))))))))))):=by kernel_rfl
def SMisc(hA:List HV)(pA:List (List HC)):SR:=match hA,pA with
 |[.ce (.int .i64 c)],[]=> .det True ⟨.ce (.int .i64 (misc c)),false,[],[]⟩
 |_,_=> .fail
noncomputable def CMisc:Ctx:=⟨Try.prog,gam [],Try.f29.ntmps,[],[]⟩
theorem vcMisc(c:Int)(Q:Res->Prop):(nfun true CMisc Try.f29 (bodyOf Try.f29) [.ce (.int .i64 c)] [] Q)=(((c==0)=true->Q ⟨.ce (.int .i64 21),false,[],[]⟩)/\((c==0)=false->((c==1)=true->Q ⟨.ce (.int .i64 21),false,[],[]⟩)/\((c==1)=false->((c==2)=true->Q ⟨.ce (.int .i64 21),false,[],[]⟩)/\((c==2)=false->((c==30)=true->Q ⟨.ce (.int .i64 21),false,[],[]⟩)/\((c==30)=false->((c==3)=true->Q ⟨.ce (.int .i64 22),false,[],[]⟩)/\((c==3)=false->((c==4)=true->Q ⟨.ce (.int .i64 22),false,[],[]⟩)/\((c==4)=false->((c==5)=true->Q ⟨.ce (.int .i64 22),false,[],[]⟩)/\((c==5)=false->((c==6)=true->Q ⟨.ce (.int .i64 23),false,[],[]⟩)/\((c==6)=false->((c==7)=true->Q ⟨.ce (.int .i64 24),false,[],[]⟩)/\((c==7)=false->((c==8)=true->Q ⟨.ce (.int .i64 24),false,[],[]⟩)/\((c==8)=false->((c==9)=true->Q ⟨.ce (.int .i64 24),false,[],[]⟩)/\((c==9)=false->((c==62)=true->Q ⟨.ce (.int .i64 25),false,[],[]⟩)/\((c==62)=false->((c==63)=true->Q ⟨.ce (.int .i64 25),false,[],[]⟩)/\((c==63)=false->Q ⟨.ce (.int .i64 0),false,[],[]⟩)))))))))))))):=by kernel_rfl
def SGroup(hA:List HV)(pA:List (List HC)):SR:=match hA,pA with
 |[.ce (.int .i64 l), .ce (.int .i64 c)],[]=> .det True ⟨.ce (.int .i64 (grp l c)),false,[],[]⟩
 |_,_=> .fail
def tabGr:List (FuncId×HL.Spec):=[(28,SPrep),(29,SMisc)]
noncomputable def CGroup:Ctx:=⟨Try.prog,gam tabGr,Try.f13.ntmps,[],[]⟩
theorem vcGroup(l c:Int)(Q:Res->Prop):(nfun true CGroup Try.f13 (bodyOf Try.f13) [.ce (.int .i64 l), .ce (.int .i64 c)] [] Q)=(((l==71)=true->True/\∀(x1:Int),x1=prep c->Q ⟨.ce (.int .i64 x1),false,[],[]⟩)/\((l==71)=false->((l==77)=true->True/\∀(x2:Int),x2=misc c->Q ⟨.ce (.int .i64 x2),false,[],[]⟩)/\((l==77)=false->Q ⟨.ce (.int .i64 0),false,[],[]⟩))):=by kernel_rfl
def SAmong(hA:List HV)(pA:List (List HC)):SR:=match hA,pA with
 |[.ce (.int .i64 n), .ce (.sl false [4] l)],[]=> .det (l.length<=1000) ⟨.ce (.bool (amg n l)),false,[],[]⟩
 |_,_=> .fail
def anAmong:LAnn:=⟨[0,1,4,5],[4],[],false⟩
def LAmong(v:LV):LR:=match v with
 |([.ce (.int .i64 n), .ce (.sl false [4] l), .ce (.bool r), .ce (.int .i64 k)],[])=> .alts (k=0/\l.length<=1000) [(amg n l=false, .exit 0,([.ce (.bool r)],[])),(amg n l=true, .ret,([.ce (.bool true)],[]))]
 |_=> .fail
noncomputable def CAmong:Ctx:=⟨Try.prog,gam [],Try.f32.ntmps,[(2,anAmong,LAmong)],[]⟩
theorem vcAmong(n:Int)(l:List (List Int))(Q:Res->Prop):(nfun true CAmong Try.f32 (bodyOf Try.f32) [.ce (.int .i64 n), .ce (.sl false [4] l)] [] Q)=(((0:Int)=0/\l.length<=1000)/\(amg n l=false->Q ⟨.ce (.bool false),false,[],[]⟩)/\(amg n l=true->Q ⟨.ce (.bool true),false,[],[]⟩)):=by kernel_rfl
theorem vbAmong(n k:Int)(r:Bool)(l:List (List Int))(K:HEx->LV->Prop):(nbodyT true CAmong anAmong (nthLoop Try.f32 0) (([.ce (.int .i64 n), .ce (.sl false [4] l), .ce (.bool r), .ce (.int .i64 k)],[])) K)=((decide (k<(l.length:Int))=true->(0<=k/\k<(l.length:Int))/\∀(x1:Int),x1=el l k.toNat->((x1==n)=true->K .ret ([.ce (.bool true)],[]))/\((x1==n)=false->(-9223372036854775808<=k+1/\k+1<=9223372036854775807)/\∀(x2:Int),x2=k+1->K .normal ([.ce (.int .i64 n), .ce (.sl false [4] l), .ce (.bool r), .ce (.int .i64 x2)],[])))/\(decide (k<(l.length:Int))=false->K (.exit 0) ([.ce (.bool r)],[]))):=by kernel_rfl
def anGroup2:LAnn:=⟨[1,4,5,6],[4],[],false⟩
def LGroup2(v:LV):LR:=match v with
 |([.ce (.int .i64 c), .ce (.int .i64 r), .ce (.nsls [4] ll), .ce (.int .i64 k)],[])=> .alts (k=1/\1<=ll.length/\ll.length<=100/\∀g,g∈ll->g.length<=100) [(scn c (ll.drop 1) 1=0, .exit 1,([.ce (.int .i64 r)],[])),(scn c (ll.drop 1) 1≠0, .ret,([.ce (.int .i64 (scn c (ll.drop 1) 1))],[]))]
 |_=> .fail
def tabAm:List (FuncId×HL.Spec):=[(32,SAmong)]
noncomputable def CGroup2:Ctx:=⟨Try.prog,gam tabAm,Try.f21.ntmps,[(17,anGroup2,LGroup2)],[]⟩
theorem vcGroup2(l c:Int)(Q:Res->Prop):(nfun true CGroup2 Try.f21 (bodyOf Try.f21) [.ce (.int .i64 l), .ce (.int .i64 c)] [] Q)=(((l==77)=true->(4:Nat)<=1000/\∀(x1:Bool),x1=amg c [[(0:Int)],[(1:Int)],[(2:Int)],[(30:Int)]]->(x1=true->Q ⟨.ce (.int .i64 21),false,[],[]⟩)/\(x1=false->(3:Nat)<=1000/\∀(x2:Bool),x2=amg c [[(3:Int)],[(4:Int)],[(5:Int)]]->(x2=true->Q ⟨.ce (.int .i64 22),false,[],[]⟩)/\(x2=false->((c==6)=true->Q ⟨.ce (.int .i64 23),false,[],[]⟩)/\((c==6)=false->(3:Nat)<=1000/\∀(x3:Bool),x3=amg c [[(7:Int)],[(8:Int)],[(9:Int)]]->(x3=true->Q ⟨.ce (.int .i64 24),false,[],[]⟩)/\(x3=false->((c==62)=true->Q ⟨.ce (.int .i64 25),false,[],[]⟩)/\((c==62)=false->((c==63)=true->Q ⟨.ce (.int .i64 25),false,[],[]⟩)/\((c==63)=false->Q ⟨.ce (.int .i64 0),false,[],[]⟩)))))))/\((l==77)=false->((l !=71)=true->Q ⟨.ce (.int .i64 0),false,[],[]⟩)/\((l !=71)=false->((1:Int)=1/\(1:Nat)<=15/\(15:Nat)<=100/\∀(g:List (List Int)),List.Mem g [[],[[(0:Int)],[(1:Int)],[(2:Int)],[(3:Int)],[(33:Int)],[(73:Int)],[(74:Int)],[(80:Int)],[(81:Int)],[(82:Int)],[(83:Int)],[(84:Int)],[(85:Int)],[(86:Int)],[(89:Int)]],[[(17:Int)],[(18:Int)],[(19:Int)]],[[(90:Int)],[(91:Int)]],[[(20:Int)],[(21:Int)]],[[(94:Int)],[(95:Int)]],[[(40:Int)],[(41:Int)],[(42:Int)]],[[(43:Int)],[(44:Int)],[(49:Int)]],[[(98:Int)],[(99:Int)]],[[(54:Int)],[(55:Int)],[(56:Int)],[(57:Int)],[(58:Int)],[(59:Int)]],[[(61:Int)],[(64:Int)]],[[(15:Int)],[(16:Int)]],[[(68:Int)],[(69:Int)]],[[(53:Int)]],[[(4:Int)],[(10:Int)],[(12:Int)],[(13:Int)],[(31:Int)],[(52:Int)],[(92:Int)]]]->g.length<=100)/\(scn c (List.drop (1:Nat) [[],[[(0:Int)],[(1:Int)],[(2:Int)],[(3:Int)],[(33:Int)],[(73:Int)],[(74:Int)],[(80:Int)],[(81:Int)],[(82:Int)],[(83:Int)],[(84:Int)],[(85:Int)],[(86:Int)],[(89:Int)]],[[(17:Int)],[(18:Int)],[(19:Int)]],[[(90:Int)],[(91:Int)]],[[(20:Int)],[(21:Int)]],[[(94:Int)],[(95:Int)]],[[(40:Int)],[(41:Int)],[(42:Int)]],[[(43:Int)],[(44:Int)],[(49:Int)]],[[(98:Int)],[(99:Int)]],[[(54:Int)],[(55:Int)],[(56:Int)],[(57:Int)],[(58:Int)],[(59:Int)]],[[(61:Int)],[(64:Int)]],[[(15:Int)],[(16:Int)]],[[(68:Int)],[(69:Int)]],[[(53:Int)]],[[(4:Int)],[(10:Int)],[(12:Int)],[(13:Int)],[(31:Int)],[(52:Int)],[(92:Int)]]]) (1:Int)=0->Q ⟨.ce (.int .i64 0),false,[],[]⟩)/\(scn c (List.drop (1:Nat) [[],[[(0:Int)],[(1:Int)],[(2:Int)],[(3:Int)],[(33:Int)],[(73:Int)],[(74:Int)],[(80:Int)],[(81:Int)],[(82:Int)],[(83:Int)],[(84:Int)],[(85:Int)],[(86:Int)],[(89:Int)]],[[(17:Int)],[(18:Int)],[(19:Int)]],[[(90:Int)],[(91:Int)]],[[(20:Int)],[(21:Int)]],[[(94:Int)],[(95:Int)]],[[(40:Int)],[(41:Int)],[(42:Int)]],[[(43:Int)],[(44:Int)],[(49:Int)]],[[(98:Int)],[(99:Int)]],[[(54:Int)],[(55:Int)],[(56:Int)],[(57:Int)],[(58:Int)],[(59:Int)]],[[(61:Int)],[(64:Int)]],[[(15:Int)],[(16:Int)]],[[(68:Int)],[(69:Int)]],[[(53:Int)]],[[(4:Int)],[(10:Int)],[(12:Int)],[(13:Int)],[(31:Int)],[(52:Int)],[(92:Int)]]]) (1:Int)≠(0:Int)->Q ⟨.ce (.int .i64 (scn c (List.drop (1:Nat) [[],[[(0:Int)],[(1:Int)],[(2:Int)],[(3:Int)],[(33:Int)],[(73:Int)],[(74:Int)],[(80:Int)],[(81:Int)],[(82:Int)],[(83:Int)],[(84:Int)],[(85:Int)],[(86:Int)],[(89:Int)]],[[(17:Int)],[(18:Int)],[(19:Int)]],[[(90:Int)],[(91:Int)]],[[(20:Int)],[(21:Int)]],[[(94:Int)],[(95:Int)]],[[(40:Int)],[(41:Int)],[(42:Int)]],[[(43:Int)],[(44:Int)],[(49:Int)]],[[(98:Int)],[(99:Int)]],[[(54:Int)],[(55:Int)],[(56:Int)],[(57:Int)],[(58:Int)],[(59:Int)]],[[(61:Int)],[(64:Int)]],[[(15:Int)],[(16:Int)]],[[(68:Int)],[(69:Int)]],[[(53:Int)]],[[(4:Int)],[(10:Int)],[(12:Int)],[(13:Int)],[(31:Int)],[(52:Int)],[(92:Int)]]]) (1:Int))),false,[],[]⟩)))):=by kernel_rfl
theorem vbGroup2(c r k:Int)(ll:List (List (List Int)))(K:HEx->LV->Prop):(nbodyT true CGroup2 anGroup2 (nthLoop Try.f21 0) (([.ce (.int .i64 c), .ce (.int .i64 r), .ce (.nsls [4] ll), .ce (.int .i64 k)],[])) K)=((decide (k<(ll.length:Int))=true->(0<=k/\k<(ll.length:Int))/\List.length (List.getD ll k.toNat [])<=1000/\∀(x1:Bool),x1=amg c (List.getD ll k.toNat [])->(x1=true->K .ret ([.ce (.int .i64 k)],[]))/\(x1=false->(-9223372036854775808<=k+1/\k+1<=9223372036854775807)/\∀(x2:Int),x2=k+1->K .normal ([.ce (.int .i64 c), .ce (.int .i64 r), .ce (.nsls [4] ll), .ce (.int .i64 x2)],[])))/\(decide (k<(ll.length:Int))=false->K (.exit 1) ([.ce (.int .i64 r)],[]))):=by kernel_rfl
def SFind(hA:List HV)(pA:List (List HC)):SR:=match hA,pA with
 |[.ce (.sl false [4,4] l), .ce (.int .i64 c)],[]=> .det (l.length<=1000) ⟨.tup [.ce (.int .i64 (fndN c l)), .ce (.bool (fndB c l))],false,[],[]⟩
 |_,_=> .fail
def anFind:LAnn:=⟨[1,4,5,8,9,10],[4,5],[],false⟩
def LFind(v:LV):LR:=match v with
 |([.ce (.int .i64 c), .ce (.int .i64 r), .ce (.bool s), .ce (.sl false [4,4] l), .ce (.int .i64 len), .ce (.int .i64 k)],[])=> .alts (k=0/\len=(l.length:Int)/\l.length<=1000) [(fndB c l=false, .exit 0,([.ce (.int .i64 r), .ce (.bool s)],[])),(fndB c l=true, .ret,([.ce (.int .i64 (fndN c l)), .ce (.bool true)],[]))]
 |_=> .fail
noncomputable def CFind:Ctx:=⟨Try.prog,gam [],Try.f26.ntmps,[(2,anFind,LFind)],[]⟩
theorem vcFind(l:List (List Int))(c:Int)(Q:Res->Prop):(nfun true CFind Try.f26 (bodyOf Try.f26) [.ce (.sl false [4,4] l), .ce (.int .i64 c)] [] Q)=(((0:Int)=0/\(l.length:Int)=(l.length:Int)/\l.length<=1000)/\(fndB c l=false->Q ⟨.tup [.ce (.int .i64 0), .ce (.bool false)],false,[],[]⟩)/\(fndB c l=true->Q ⟨.tup [.ce (.int .i64 (fndN c l)), .ce (.bool true)],false,[],[]⟩)):=by kernel_rfl
theorem vbFind(c r len k:Int)(s:Bool)(l:List (List Int))(K:HEx->LV->Prop):(nbodyT true CFind anFind (nthLoop Try.f26 0) (([.ce (.int .i64 c), .ce (.int .i64 r), .ce (.bool s), .ce (.sl false [4,4] l), .ce (.int .i64 len), .ce (.int .i64 k)],[])) K)=((decide (k<len)=true->(0<=k/\k<(l.length:Int))/\((el l k.toNat==c)=true->K .ret ([.ce (.int .i64 (ec l k.toNat 1)), .ce (.bool true)],[]))/\((el l k.toNat==c)=false->(-9223372036854775808<=k+1/\k+1<=9223372036854775807)/\∀(x1:Int),x1=k+1->K .normal ([.ce (.int .i64 c), .ce (.int .i64 r), .ce (.bool s), .ce (.sl false [4,4] l), .ce (.int .i64 len), .ce (.int .i64 x1)],[])))/\(decide (k<len)=false->K (.exit 0) ([.ce (.int .i64 r), .ce (.bool s)],[]))):=by kernel_rfl
def anFind2:LAnn:=⟨[0,1,4,5,6],[4,5],[],false⟩
def LFind2(v:LV):LR:=match v with
 |([.ce (.sl false [4,4] l), .ce (.int .i64 c), .ce (.int .i64 r), .ce (.bool s), .ce (.int .i64 k)],[])=> .alts (k=0/\l.length<=1000) [(fndB c l=false, .exit 0,([.ce (.int .i64 r), .ce (.bool s)],[])),(fndB c l=true, .ret,([.ce (.int .i64 (fndN c l)), .ce (.bool true)],[]))]
 |_=> .fail
noncomputable def CFind2:Ctx:=⟨Try.prog,gam [],Try.f19.ntmps,[(2,anFind2,LFind2)],[]⟩
theorem vcFind2(l:List (List Int))(c:Int)(Q:Res->Prop):(nfun true CFind2 Try.f19 (bodyOf Try.f19) [.ce (.sl false [4,4] l), .ce (.int .i64 c)] [] Q)=(((0:Int)=0/\l.length<=1000)/\(fndB c l=false->Q ⟨.tup [.ce (.int .i64 0), .ce (.bool false)],false,[],[]⟩)/\(fndB c l=true->Q ⟨.tup [.ce (.int .i64 (fndN c l)), .ce (.bool true)],false,[],[]⟩)):=by kernel_rfl
theorem vbFind2(c r k:Int)(s:Bool)(l:List (List Int))(K:HEx->LV->Prop):(nbodyT true CFind2 anFind2 (nthLoop Try.f19 0) (([.ce (.sl false [4,4] l), .ce (.int .i64 c), .ce (.int .i64 r), .ce (.bool s), .ce (.int .i64 k)],[])) K)=((decide (k<(l.length:Int))=true->(0<=k/\k<(l.length:Int))/\∀(x1:Int),x1=el l k.toNat->((x1==c)=true->(0<=k/\k<(l.length:Int))/\∀(x2:Int),x2=ec l k.toNat 1->K .ret ([.ce (.int .i64 x2), .ce (.bool true)],[]))/\((x1==c)=false->(-9223372036854775808<=k+1/\k+1<=9223372036854775807)/\∀(x3:Int),x3=k+1->K .normal ([.ce (.sl false [4,4] l), .ce (.int .i64 c), .ce (.int .i64 r), .ce (.bool s), .ce (.int .i64 x3)],[])))/\(decide (k<(l.length:Int))=false->K (.exit 0) ([.ce (.int .i64 r), .ce (.bool s)],[]))):=by kernel_rfl
def SGof(hA:List HV)(pA:List (List HC)):SR:=match hA,pA with
 |[.ce (.sl false [4,4] l), .ce (.int .i64 g)],[]=> .det (l.length<=1000) ⟨.ce (.int .i64 (gof g l)),false,[],[]⟩
 |_,_=> .fail
def anGof:LAnn:=⟨[0,1,4,5],[4],[],false⟩
def LGof(v:LV):LR:=match v with
 |([.ce (.sl false [4,4] l), .ce (.int .i64 g), .ce (.int .i64 r), .ce (.int .i64 k)],[])=> .alts (k=0/\l.length<=1000) [(gof g l= -1, .exit 0,([.ce (.int .i64 r)],[])),(True, .ret,([.ce (.int .i64 (gof g l))],[]))]
 |_=> .fail
def tabGof:List (FuncId×HL.Spec):=[(20,SWhole),(21,SGroup)]
noncomputable def CGof:Ctx:=⟨Try.prog,gam tabGof,Try.f22.ntmps,[(2,anGof,LGof)],[]⟩
theorem vcGof(l:List (List Int))(g:Int)(Q:Res->Prop):(nfun true CGof Try.f22 (bodyOf Try.f22) [.ce (.sl false [4,4] l), .ce (.int .i64 g)] [] Q)=(((0:Int)=0/\l.length<=1000)/\(gof g l=(-1:Int)->Q ⟨.ce (.int .i64 (-1)),false,[],[]⟩)/\(True->Q ⟨.ce (.int .i64 (gof g l)),false,[],[]⟩)):=by kernel_rfl
theorem vbGof(g r k:Int)(l:List (List Int))(K:HEx->LV->Prop):(nbodyT true CGof anGof (nthLoop Try.f22 0) (([.ce (.sl false [4,4] l), .ce (.int .i64 g), .ce (.int .i64 r), .ce (.int .i64 k)],[])) K)=((decide (k<(l.length:Int))=true->(0<=k/\k<(l.length:Int))/\∀(x1:Int),x1=ec l k.toNat 1->True/\∀(x2:Int),x2=wv x1->∀(x3:Bool),x3=isw x1->(x3=true->(0<=k/\k<(l.length:Int))/\∀(x4:Int),x4=el l k.toNat->True/\∀(x5:Int),x5=grp x4 x2->((x5==g)=true->K .ret ([.ce (.int .i64 x2)],[]))/\((x5==g)=false->(-9223372036854775808<=k+1/\k+1<=9223372036854775807)/\∀(x6:Int),x6=k+1->K .normal ([.ce (.sl false [4,4] l), .ce (.int .i64 g), .ce (.int .i64 r), .ce (.int .i64 x6)],[])))/\(x3=false->(-9223372036854775808<=k+1/\k+1<=9223372036854775807)/\∀(x7:Int),x7=k+1->K .normal ([.ce (.sl false [4,4] l), .ce (.int .i64 g), .ce (.int .i64 r), .ce (.int .i64 x7)],[])))/\(decide (k<(l.length:Int))=false->K (.exit 0) ([.ce (.int .i64 r)],[]))):=by kernel_rfl
end Go.Proofs.Ytaonkcjadaopgaa
namespace U
open Go
theorem drop_cons(l:List (List Int)){j:Nat}(h:j<l.length):l.drop j=l.getD j []::l.drop (j+1):=by
 rw[List.drop_eq_getElem_cons h];congr 1;simp[List.getD_eq_getElem?_getD,h]
theorem dropn_cons(l:List (List (List Int))){j:Nat}(h:j<l.length):l.drop j=l.getD j []::l.drop (j+1):=by
 rw[List.drop_eq_getElem_cons h];congr 1;simp[List.getD_eq_getElem?_getD,h]
theorem lt_el(l:List (List Int))(j:Nat):lt (l.getD j [])=el l j:=rfl
theorem nm_ec(l:List (List Int))(j:Nat):nm (l.getD j [])=ec l j 1:=rfl
theorem isc_row(a n:Int):isc [a,n]=(isw n&&(a==71||a==77)):=rfl
theorem amg_cons(n:Int)(r:List Int)(l:List (List Int)):amg n (r::l)=((r.getD 0 0==n)||amg n l):=by
 show((n==r.getD 0 0)||amg n l)=_;rw[BEq.comm]
theorem scn_cons(c:Int)(g:List (List Int))(r:List (List (List Int)))(i:Int):scn c (g::r) i=if amg c g then i else scn c r (i+1):=rfl
theorem gof_cons(g:Int)(r:List Int)(l:List (List Int)):gof g (r::l)=if isw (nm r)&&(grp (lt r) (wv (nm r))==g)then wv (nm r)else gof g l:=rfl
theorem vl_iff{n:Int}:vl n=true↔ -1000000000000000<=n/\n<=1000000000000000:=by
 unfold vl;simp
end U
namespace Go.Proofs.Ytaonkcjadaopgaa
open Go Go.HL U
theorem sVl:Sound Try.prog 16 SVl:=by
 refine sound_of (C:=CVl) [] Try.func16 (by kernel_rfl) (by decide+kernel) (by kernel_rfl) rfl trivial (loops0 (by kernel_rfl)) ?_;intro hA pA R h;unfold SVl at h;split at h;case h_2=>exfalso;exact h
 rename_i n;have hq:=h.2;unfold vl at hq;refine byVC (vcVl n R) ⟨fun e=> ?_,fun e=> ?_⟩<;>rw[e]at hq<;>exact hq
theorem sVl2:Sound Try.prog 18 SVl:=by
 refine sound_of (C:=CVl) [] Try.func18 (by kernel_rfl) (by decide+kernel) (by kernel_rfl) rfl trivial (loops0 (by kernel_rfl)) ?_;intro hA pA R h;unfold SVl at h;split at h;case h_2=>exfalso;exact h
 rename_i n;have hq:=h.2;unfold vl at hq;refine byVC (vcVl2 n R) ⟨fun e=> ?_,fun e=> ?_⟩<;>rw[e]at hq<;>exact hq
theorem whole_fin{n:Int}{R:Res->Prop}(hq:R ⟨.tup [.ce (.int .i64 (wv n)), .ce (.bool (isw n))],false,[],[]⟩):True/\∀(x1:Bool),x1=vl n->((!x1)=true->R ⟨.tup [.ce (.int .i64 0), .ce (.bool false)],false,[],[]⟩)/\((!x1)=false->(1000000:Int)≠0/\∀(x2:Int),x2=Int.tmod n 1000000->((x2 !=0)=true->R ⟨.tup [.ce (.int .i64 0), .ce (.bool false)],false,[],[]⟩)/\((x2 !=0)=false->(1000000:Int)≠0/\(-9223372036854775808<=Int.tdiv n 1000000/\Int.tdiv n 1000000<=9223372036854775807)/\∀(x3:Int),x3=Int.tdiv n 1000000->R ⟨.tup [.ce (.int .i64 x3), .ce (.bool true)],false,[],[]⟩)):=by
  refine⟨trivial,fun x1 e1=>⟨fun e=> ?_,fun e=>⟨by omega,fun x2 e2=>⟨fun k=> ?_,fun k=> ?_⟩⟩⟩⟩
  . have hv:vl n=false:=by rw[<-e1];simpa using e
    have hi:isw n=false:=by unfold isw;rw[hv];rfl
    unfold wv at hq;rw[hi]at hq;exact hq
  . have hi:isw n=false:=by
     unfold isw;have:(n.tmod 1000000==0)=false:=by rw[<-e2];simpa using k
     rw[this];simp
    unfold wv at hq;rw[hi]at hq;exact hq
  . have hv:vl n=true:=by rw[<-e1];simpa using e
    have hi:isw n=true:=by
     unfold isw;have:(n.tmod 1000000==0)=true:=by rw[<-e2];simpa using k
     rw[this,hv];rfl
    have hb:=vl_iff.1 hv;unfold wv at hq;rw[hi]at hq;refine⟨by omega,by rw[tdiv_ite (by omega)];split<;>omega,fun x3 e3=> ?_⟩;rw[e3];exact hq
theorem sWhole:Sound Try.prog 31 SWhole:=by
 refine sound_of (C:=CWhole) tabVl Try.func31 (by kernel_rfl) (by decide+kernel) (by kernel_rfl) rfl ⟨sVl,sVl2,trivial⟩ (loops0 (by kernel_rfl)) ?_;intro hA pA R h;unfold SWhole at h;split at h;case h_2=>exfalso;exact h
 exact byVC (vcWhole _ R) (whole_fin h.2)
theorem sWhole2:Sound Try.prog 20 SWhole:=by
 refine sound_of (C:=CWhole) tabVl Try.func20 (by kernel_rfl) (by decide+kernel) (by kernel_rfl) rfl ⟨sVl,sVl2,trivial⟩ (loops0 (by kernel_rfl)) ?_;intro hA pA R h;unfold SWhole at h;split at h;case h_2=>exfalso;exact h
 exact byVC (vcWhole2 _ R) (whole_fin h.2)
theorem sCode:Sound Try.prog 17 SCode:=by
 refine sound_of (C:=CCode) tabW Try.func17 (by kernel_rfl) (by decide+kernel) (by kernel_rfl) rfl ⟨sWhole,sWhole2,trivial⟩ (loops0 (by kernel_rfl)) ?_;intro hA pA R h;unfold SCode at h;split at h;case h_2=>exfalso;exact h
 rename_i a n;have hq:=h.2;rw[isc_row]at hq;refine byVC (vcCode a n R) ⟨trivial,fun x1 e1 x2 e2=>⟨fun k=>⟨fun k2=> ?_,fun k2=> ?_⟩,fun k=> ?_⟩⟩
 . rw[e1];rw[<-e2,k,k2]at hq;exact hq
 . rw[e1];rw[<-e2,k,k2]at hq;exact hq
 . rw[e1];rw[<-e2,k]at hq;exact hq
theorem sPrep : Sound Try.prog 28 SPrep := by
 refine sound_of (C := CPrep) [] Try.func28 (by kernel_rfl) (by decide +kernel) (by kernel_rfl) rfl trivial (loops0 (by kernel_rfl)) ?_
 intro hA pA R h
 unfold SPrep at h
 split at h
 case h_2 => exfalso; exact h
 rename_i c
 have hq := h.2
 clear h
 have leaf : ∀ k v : Int, (c == k) = true -> prep k = v -> R ⟨.ce (.int .i64 v), false, [], []⟩ := by
  intro k v e1 e2
  have e1 : c = k := by simpa using e1
  rw [e1, e2] at hq
  exact hq
 refine byVC (vcPrep c R) ?_
 repeat' (first
  | exact leaf _ _ (by assumption) (by decide)
  | apply And.intro
  | intro _)
 have : prep c = 0 := by
  simp only [prep, glit, scn, amg, List.getD_cons_zero, Bool.or_self, Bool.false_eq_true, if_false, *]
 rw [this] at hq
 exact hq
theorem sMisc : Sound Try.prog 29 SMisc := by
 refine sound_of (C := CMisc) [] Try.func29 (by kernel_rfl) (by decide +kernel) (by kernel_rfl) rfl trivial (loops0 (by kernel_rfl)) ?_
 intro hA pA R h
 unfold SMisc at h
 split at h
 case h_2 => exfalso; exact h
 rename_i c
 have hq := h.2
 clear h
 have leaf : ∀ k v : Int, (c == k) = true -> misc k = v -> R ⟨.ce (.int .i64 v), false, [], []⟩ := by
  intro k v e1 e2
  have e1 : c = k := by simpa using e1
  rw [e1, e2] at hq
  exact hq
 refine byVC (vcMisc c R) ?_
 repeat' (first
  | exact leaf _ _ (by assumption) (by decide)
  | apply And.intro
  | intro _)
 have : misc c = 0 := by
  have n6 : ¬ c = 6 := by simp_all
  have n62 : ¬ (c = 62 ∨ c = 63) := by simp_all
  simp only [misc, amg, List.getD_cons_zero, Bool.or_self, Bool.false_eq_true, if_false, *]
 rw [this] at hq
 exact hq
theorem sGroup:Sound Try.prog 13 SGroup:=by
 refine sound_of (C:=CGroup) tabGr Try.func13 (by kernel_rfl) (by decide+kernel) (by kernel_rfl) rfl ⟨sPrep,sMisc,trivial⟩ (loops0 (by kernel_rfl)) ?_;intro hA pA R h;unfold SGroup at h;split at h;case h_2=>exfalso;exact h
 rename_i l c;have hq:=h.2;unfold grp at hq;refine byVC (vcGroup l c R) ⟨fun e=>⟨trivial,fun x1 e1=> ?_⟩,fun e=>⟨fun k=>⟨trivial,fun x2 e2=> ?_⟩,fun k=> ?_⟩⟩
 . have e:l=71:=by simpa using e
   rw[if_pos e]at hq;rw[e1];exact hq
 . have e:l≠71:=by simpa using e
   have k:l=77:=by simpa using k
   rw[if_neg e,if_pos k]at hq;rw[e2];exact hq
 . have e:l≠71:=by simpa using e
   have k:l≠77:=by simpa using k
   rw[if_neg e,if_neg k]at hq;exact hq
theorem loopAmong:∀v Q,(LAmong v).wp Q->hloop CAmong anAmong (nthLoop Try.f32 0) v Q:=by
 intro v Q h;unfold LAmong at h;split at h;case h_2=>exact h.elim
 rename_i n l r k;obtain⟨⟨h1,h2⟩,hq1,hq2⟩:=h;subst h1;refine hloop_rec (σ:=Nat) (fun j=>([.ce (.int .i64 n), .ce (.sl false [4] l), .ce (.bool r), .ce (.int .i64 (j:Int))],[])) (fun j=>l.length-j) (fun j=>j<=l.length/\amg n l=amg n (l.drop j)) ?_ 0 ⟨Nat.zero_le _,rfl⟩;rintro j⟨hj,hp⟩K hn he hr;refine byVB (vbAmong n j r l K) ⟨fun hlt=>⟨by have:=of_decide_eq_true hlt;omega,fun x1 e1=> ?_⟩,fun hge=> ?_⟩
 . have hlt:=of_decide_eq_true hlt;have hjl:j<l.length:=by omega
   have hp2:=hp;rw[drop_cons l hjl]at hp2;have e1:x1=(l.getD j []).getD 0 0:=e1;rw[amg_cons,<-e1]at hp2;refine⟨fun k=>hr _ (hq2 (by rw[hp2,k];rfl)),fun k=>⟨by omega,fun x2 e2=> ?_⟩⟩;rw[show x2=((j+1:Nat):Int)by omega];exact hn (j+1) ⟨by omega,by rw[hp2,k];rfl⟩ (by omega)
 . have hge:=of_decide_eq_false hge;have:j=l.length:=by omega
   subst this;rw[List.drop_length]at hp;exact he _ _ (hq1 hp)
theorem sAmong:Sound Try.prog 32 SAmong:=by
 refine sound_of (C:=CAmong) [] Try.func32 (by kernel_rfl) (by decide+kernel) (by kernel_rfl) rfl trivial (loops1 (by kernel_rfl) (loopOK_of (an:=anAmong) (S:=LAmong) (by kernel_rfl) loopAmong)) ?_;intro hA pA R h;unfold SAmong at h;split at h;case h_2=>exfalso;exact h
 rename_i n l;have hq:=h.2;exact byVC (vcAmong n l R) ⟨⟨rfl,h.1⟩,fun e=>by rw[e]at hq;exact hq,fun e=>by rw[e]at hq;exact hq⟩
theorem loopGroup2:∀v Q,(LGroup2 v).wp Q->hloop CGroup2 anGroup2 (nthLoop Try.f21 0) v Q:=by
 intro v Q h;unfold LGroup2 at h;split at h;case h_2=>exact h.elim
 rename_i c r ll k;obtain⟨⟨h1,h2,h3,h4⟩,hq1,hq2⟩:=h;subst h1;refine hloop_rec (σ:=Nat) (fun j=>([.ce (.int .i64 c), .ce (.int .i64 r), .ce (.nsls [4] ll), .ce (.int .i64 ((j+1:Nat):Int))],[])) (fun j=>ll.length-j) (fun j=>j+1<=ll.length/\scn c (ll.drop 1) 1=scn c (ll.drop (j+1)) ((j+1:Nat):Int)) ?_ 0 ⟨h2,rfl⟩;rintro j⟨hj,hp⟩K hn he hr;refine byVB (vbGroup2 c r _ ll K) ⟨fun hlt=>⟨by have:=of_decide_eq_true hlt;omega,?_⟩,fun hge=> ?_⟩
 . have hlt:=of_decide_eq_true hlt;have hjl:j+1<ll.length:=by omega
   have hp2:=hp;rw[dropn_cons ll hjl]at hp2;rw[scn_cons]at hp2;have et:(((j+1:Nat):Int)).toNat=j+1:=by omega
   rw[et];refine⟨by
    have:ll.getD (j+1) []∈ll:=by simp[List.getD_eq_getElem?_getD,hjl]
    have:=h4 _ this;omega,fun x1 e1=>⟨fun k=> ?_,fun k=>⟨by omega,fun x2 e2=> ?_⟩⟩⟩
   . rw[<-e1,k,if_pos rfl]at hp2;refine hr _ ?_;have:=hq2 (by rw[hp2];omega);rw[hp2]at this;exact this
   . rw[<-e1,k,if_neg (by simp)]at hp2;rw[show x2=((j+1+1:Nat):Int)by omega];exact hn (j+1) ⟨by omega,by rw[hp2];rfl⟩ (by omega)
 . have hge:=of_decide_eq_false hge;have hl:j+1=ll.length:=by omega
   rw[hl,List.drop_length]at hp;exact he _ _ (hq1 hp)
theorem sGroup2:Sound Try.prog 21 SGroup:=by
 refine sound_of (C:=CGroup2) tabAm Try.func21 (by kernel_rfl) (by decide+kernel) (by kernel_rfl) rfl ⟨sAmong,trivial⟩ (loops1 (by kernel_rfl) (loopOK_of (an:=anGroup2) (S:=LGroup2) (by kernel_rfl) loopGroup2)) ?_;intro hA pA R h;unfold SGroup at h;split at h;case h_2=>exfalso;exact h
 rename_i l c;have hq:=h.2;clear h;unfold grp at hq;refine byVC (vcGroup2 l c R) ⟨fun e=> ?_,fun e=>⟨fun k=> ?_,fun k=>⟨⟨rfl,by omega,by omega,?_⟩,fun z=> ?_,fun z=> ?_⟩⟩⟩
 . have e:l=77:=by simpa using e
   rw[if_neg (by omega),if_pos e]at hq;unfold misc at hq;refine⟨by omega,fun x1 e1=>⟨fun k=> ?_,fun k=>⟨by omega,fun x2 e2=>⟨fun k2=> ?_,fun k2=>⟨fun k3=> ?_,fun k3=>⟨by omega,fun x3 e3=>⟨fun k4=> ?_,fun k4=>⟨fun k5=> ?_,fun k5=>⟨fun k6=> ?_,fun k6=> ?_⟩⟩⟩⟩⟩⟩⟩⟩⟩;all_goals
    simp_all
 . have e:l≠77:=by simpa using e
   have k:l≠71:=by simpa using k
   rw[if_neg k,if_neg e]at hq;exact hq
 . intro g hg;have:∀g∈([[],[[0],[1],[2],[3],[33],[73],[74],[80],[81],[82],[83],[84],[85],[86],[89]],[[17],[18],[19]],[[90],[91]],[[20],[21]],[[94],[95]],[[40],[41],[42]],[[43],[44],[49]],[[98],[99]],[[54],[55],[56],[57],[58],[59]],[[61],[64]],[[15],[16]],[[68],[69]],[[53]],[[4],[10],[12],[13],[31],[52],[92]]]:List (List (List Int))),g.length<=100:=by decide
   exact this g hg
 . have k:l=71:=by simpa using k
   rw[if_pos k]at hq;have z:prep c=0:=z;rw[z]at hq;exact hq
 . have k:l=71:=by simpa using k
   rw[if_pos k]at hq;exact hq
theorem fnd_cons(c:Int)(r:List Int)(l:List (List Int)):fndN c (r::l)=(if lt r=c then nm r else fndN c l)/\fndB c (r::l)=(if lt r=c then true else fndB c l):=by
 unfold fndN fndB;rw[show fnd c (r::l)=(if lt r=c then some (nm r)else fnd c l)from rfl];by_cases h:lt r=c
 . rw[if_pos h,if_pos h,if_pos h];exact⟨rfl,rfl⟩
 . rw[if_neg h,if_neg h,if_neg h];exact⟨rfl,rfl⟩
theorem loopFind:∀v Q,(LFind v).wp Q->hloop CFind anFind (nthLoop Try.f26 0) v Q:=by
 intro v Q h;unfold LFind at h;split at h;case h_2=>exact h.elim
 rename_i c r s l len k;obtain⟨⟨h1,h2,h3⟩,hq1,hq2⟩:=h;subst h1 h2;refine hloop_rec (σ:=Nat) (fun j=>([.ce (.int .i64 c), .ce (.int .i64 r), .ce (.bool s), .ce (.sl false [4,4] l), .ce (.int .i64 (l.length:Int)), .ce (.int .i64 (j:Int))],[])) (fun j=>l.length-j) (fun j=>j<=l.length/\fndN c l=fndN c (l.drop j)/\fndB c l=fndB c (l.drop j)) ?_ 0 ⟨Nat.zero_le _,rfl,rfl⟩;rintro j⟨hj,hp,hp'⟩K hn he hr;refine byVB (vbFind c r _ j s l K) ⟨fun hlt=>⟨by have:=of_decide_eq_true hlt;omega,?_⟩,fun hge=> ?_⟩
 . have hlt:=of_decide_eq_true hlt;have hjl:j<l.length:=by omega
   rw[drop_cons l hjl,(fnd_cons c _ _).1,lt_el,nm_ec]at hp;rw[drop_cons l hjl,(fnd_cons c _ _).2,lt_el]at hp';have ej:((j:Nat):Int).toNat=j:=by omega
   rw[ej];refine⟨fun k=> ?_,fun k=>⟨by omega,fun x e=> ?_⟩⟩
   . have k:el l j=c:=by simpa using k
     rw[if_pos k]at hp hp';have:=hq2 hp';rw[hp]at this;exact hr _ this
   . have k:el l j≠c:=by simpa using k
     rw[if_neg k]at hp hp';rw[show x=((j+1:Nat):Int)by omega];exact hn (j+1) ⟨by omega,hp,hp'⟩ (by omega)
 . have hge:=of_decide_eq_false hge;have:j=l.length:=by omega
   subst this;rw[List.drop_length]at hp';exact he _ _ (hq1 hp')
theorem fndN_none{c:Int}{l:List (List Int)}(h:fndB c l=false):fndN c l=0:=by
 unfold fndB at h;unfold fndN;split at h
 . cases h
 . rfl
theorem sFind:Sound Try.prog 26 SFind:=by
 refine sound_of (C:=CFind) [] Try.func26 (by kernel_rfl) (by decide+kernel) (by kernel_rfl) rfl trivial (loops1 (by kernel_rfl) (loopOK_of (an:=anFind) (S:=LFind) (by kernel_rfl) loopFind)) ?_;intro hA pA R h;unfold SFind at h;split at h;case h_2=>exfalso;exact h
 rename_i l c;have hq:=h.2;exact byVC (vcFind l c R) ⟨⟨rfl,rfl,h.1⟩,fun e=>by rw[fndN_none e,e]at hq;exact hq,fun e=>by rw[e]at hq;exact hq⟩
theorem loopFind2:∀v Q,(LFind2 v).wp Q->hloop CFind2 anFind2 (nthLoop Try.f19 0) v Q:=by
 intro v Q h;unfold LFind2 at h;split at h;case h_2=>exact h.elim
 rename_i l c r s k;obtain⟨⟨h1,h3⟩,hq1,hq2⟩:=h;subst h1;refine hloop_rec (σ:=Nat) (fun j=>([.ce (.sl false [4,4] l), .ce (.int .i64 c), .ce (.int .i64 r), .ce (.bool s), .ce (.int .i64 (j:Int))],[])) (fun j=>l.length-j) (fun j=>j<=l.length/\fndN c l=fndN c (l.drop j)/\fndB c l=fndB c (l.drop j)) ?_ 0 ⟨Nat.zero_le _,rfl,rfl⟩;rintro j⟨hj,hp,hp'⟩K hn he hr;refine byVB (vbFind2 c r j s l K) ⟨fun hlt=>⟨by have:=of_decide_eq_true hlt;omega,fun x1 e1=> ?_⟩,fun hge=> ?_⟩
 . have hlt:=of_decide_eq_true hlt;have hjl:j<l.length:=by omega
   have ej:((j:Nat):Int).toNat=j:=by omega
   rw[ej]at e1⊢;rw[drop_cons l hjl,(fnd_cons c _ _).1,lt_el,nm_ec,<-e1]at hp;rw[drop_cons l hjl,(fnd_cons c _ _).2,lt_el,<-e1]at hp';refine⟨fun k=>⟨by omega,fun x2 e2=> ?_⟩,fun k=>⟨by omega,fun x e=> ?_⟩⟩
   . have k:x1=c:=by simpa using k
     rw[if_pos k]at hp hp';have:=hq2 hp';rw[hp,<-e2]at this;exact hr _ this
   . have k:x1≠c:=by simpa using k
     rw[if_neg k]at hp hp';rw[show x=((j+1:Nat):Int)by omega];exact hn (j+1) ⟨by omega,hp,hp'⟩ (by omega)
 . have hge:=of_decide_eq_false hge;have:j=l.length:=by omega
   subst this;rw[List.drop_length]at hp';exact he _ _ (hq1 hp')
theorem sFind2:Sound Try.prog 19 SFind:=by
 refine sound_of (C:=CFind2) [] Try.func19 (by kernel_rfl) (by decide+kernel) (by kernel_rfl) rfl trivial (loops1 (by kernel_rfl) (loopOK_of (an:=anFind2) (S:=LFind2) (by kernel_rfl) loopFind2)) ?_;intro hA pA R h;unfold SFind at h;split at h;case h_2=>exfalso;exact h
 rename_i l c;have hq:=h.2;exact byVC (vcFind2 l c R) ⟨⟨rfl,h.1⟩,fun e=>by rw[fndN_none e,e]at hq;exact hq,fun e=>by rw[e]at hq;exact hq⟩
theorem loopGof:∀v Q,(LGof v).wp Q->hloop CGof anGof (nthLoop Try.f22 0) v Q:=by
 intro v Q h;unfold LGof at h;split at h;case h_2=>exact h.elim
 rename_i l g r k;obtain⟨⟨h1,h3⟩,hq1,hq2⟩:=h;subst h1;refine hloop_rec (σ:=Nat) (fun j=>([.ce (.sl false [4,4] l), .ce (.int .i64 g), .ce (.int .i64 r), .ce (.int .i64 (j:Int))],[])) (fun j=>l.length-j) (fun j=>j<=l.length/\gof g l=gof g (l.drop j)) ?_ 0 ⟨Nat.zero_le _,rfl⟩;rintro j⟨hj,hp⟩K hn he hr;refine byVB (vbGof g r j l K) ⟨fun hlt=>⟨by have:=of_decide_eq_true hlt;omega,fun x1 e1=>⟨trivial,fun x2 e2 x3 e3=> ?_⟩⟩,fun hge=> ?_⟩
 . have hlt:=of_decide_eq_true hlt;have hjl:j<l.length:=by omega
   have ej:((j:Nat):Int).toNat=j:=by omega
   rw[ej]at e1;rw[drop_cons l hjl]at hp;rw[gof_cons,lt_el,nm_ec,<-e1,<-e2,<-e3]at hp;have nx:∀x:Int,(x3&&grp (el l j) x2==g)=false->x=(j:Int)+1->K .normal ([.ce (.sl false [4,4] l), .ce (.int .i64 g), .ce (.int .i64 r), .ce (.int .i64 x)],[]):=by
    intro x hf e;rw[show x=((j+1:Nat):Int)by omega];exact hn (j+1) ⟨by omega,by rw[hp,hf];rfl⟩ (by omega)
   refine⟨fun k1=>⟨by omega,fun x4 e4=>⟨trivial,fun x5 e5=> ?_⟩⟩,fun k1=>⟨by omega,fun x e=>nx x (by rw[k1];rfl) e⟩⟩;rw[ej]at e4;rw[e4]at e5;refine⟨fun k=> ?_,fun k=>⟨by omega,fun x e=>nx x (by rw[<-e5,k];simp) e⟩⟩;have:=hq2 trivial;rw[hp,<-e5,k1,k]at this;exact hr _ this
 . have hge:=of_decide_eq_false hge;have:j=l.length:=by omega
   subst this;rw[List.drop_length]at hp;exact he _ _ (hq1 hp)
theorem sGof:Sound Try.prog 22 SGof:=by
 refine sound_of (C:=CGof) tabGof Try.func22 (by kernel_rfl) (by decide+kernel) (by kernel_rfl) rfl ⟨sWhole2,sGroup2,trivial⟩ (loops1 (by kernel_rfl) (loopOK_of (an:=anGof) (S:=LGof) (by kernel_rfl) loopGof)) ?_;intro hA pA R h;unfold SGof at h;split at h;case h_2=>exfalso;exact h
 rename_i l g;have hq:=h.2;exact byVC (vcGof l g R) ⟨⟨rfl,h.1⟩,fun e=>by rw[e]at hq;exact hq,fun _=>hq⟩
end Go.Proofs.Ytaonkcjadaopgaa
namespace U
open Go
theorem el_set(o:List (List Int))(p:Nat)(v:Int)(j:Nat)(hp:p<o.length):el (o.set p [v]) j=if j=p then v else el o j:=by
 unfold el;simp only[List.getD_eq_getElem?_getD,List.getElem?_set];by_cases h:p=j
 . subst h;simp[hp]
 . rw[if_neg h,if_neg (fun e=>h e.symm)]
theorem el_repl(n j:Nat):el (List.replicate n [0]) j=0:=by
 unfold el;simp only[List.getD_eq_getElem?_getD,List.getElem?_replicate];split<;>rfl
def geta(L:List (List Int))(i:Int):Bool:=el L i.toNat !=0
def seta(L:List (List Int))(i:Int):List (List Int):=L.set i.toNat [1]
def bad(r:List Int):Bool:= !(decide (65<=lt r/\lt r<=90)&&vl (nm r))
def cl(r:List Int):Bool:=lt r==71||lt r==77
def chk:List (List Int)->List (List Int)->List (List Int)->Int×(List (List Int)×List (List Int))
 |[],L,G=>(0,L,G)
 |r::l,L,G=>if bad r then(1,L,G)else if !cl r then(if geta L (lt r-65)then(7,L,G)else chk l (seta L (lt r-65)) G)else if !isw (nm r)||(grp (lt r) (wv (nm r))==0)then(6,L,G)else if geta G (grp (lt r) (wv (nm r)))then(8,L,G)else chk l L (seta G (grp (lt r) (wv (nm r))))
def z26:List (List Int):=List.replicate 26 [0]
def ckk(l:List (List Int)):Int:=
 let x:=chk l z26 z26
 if x.1≠0 then x.1 else if geta x.2.2 14&&(geta x.2.2 1||geta x.2.2 13)then 8 else 0
def rchk:List (List Int)->List (List Int)->Int
 |_,[]=>0
 |p,r::l=>if bad r then 1 else if !cl r then(if fndB (lt r) p then 7 else rchk (p++[r]) l)else if !isw (nm r)||(grp (lt r) (wv (nm r))==0)then 6 else if decide (gof (grp (lt r) (wv (nm r))) p>=0)then 8 else rchk (p++[r]) l
def rck(l:List (List Int)):Int:=if rchk [] l≠0 then rchk [] l else if decide (gof 14 l>=0)&&(decide (gof 1 l>=0)||decide (gof 13 l>=0))then 8 else 0
end U
namespace Go.Proofs.Ytaonkcjadaopgaa
open Go Go.HL U
def SCheck(hA:List HV)(pA:List (List HC)):SR:=match hA,pA with
 |[.ce (.sl false [4,4] l)],[]=> .det (l.length<=1000) ⟨.ce (.int .i64 (ckk l)),false,[],[]⟩
 |_,_=> .fail
def anCheck:LAnn:=⟨[2,3,4,10,11,12],[2,3],[1000003,1000004],false⟩
def LCheck(v:LV):LR:=match v with
 |([.ce (.int .i64 r), .ce (.ptr 1000003 0), .ce (.ptr 1000004 0), .ce (.sl false [4,4] l), .ce (.int .i64 len), .ce (.int .i64 k)],[[.arr [0] G cG],[.arr [0] L cL]])=> .alts (k=0/\len=(l.length:Int)/\l.length<=1000/\G.length=26/\L.length=26) [((chk l L G).1=0/\(chk l L G).2.2.length=26, .exit 0,([.ce (.int .i64 r), .ce (.ptr 1000003 0)],[[.arr [0] (chk l L G).2.2 cG],[.arr [0] (chk l L G).2.1 cL]])),((chk l L G).1≠0, .ret,([.ce (.int .i64 (chk l L G).1), .ce (.ptr 1000003 0)],[[.arr [0] (chk l L G).2.2 cG],[.arr [0] (chk l L G).2.1 cL]]))]
 |_=> .fail
def tabCheck:List (FuncId×HL.Spec):=[(16,SVl),(17,SCode),(13,SGroup)]
noncomputable def CCheck:Ctx:=⟨Try.prog,gam tabCheck,Try.f9.ntmps,[(4,anCheck,LCheck)],[3,4]⟩
theorem vcCheck(l:List (List Int))(Q:Res->Prop):(nfun true CCheck Try.f9 (bodyOf Try.f9) [.ce (.sl false [4,4] l)] [] Q)=(((0:Int)=0/\(l.length:Int)=(l.length:Int)/\l.length<=1000/\(26:Nat)=26/\(26:Nat)=26)/\((chk l (List.replicate (26:Nat) (zrow [0])) (List.replicate (26:Nat) (zrow [0]))).1=0/\List.length (chk l (List.replicate (26:Nat) (zrow [0])) (List.replicate (26:Nat) (zrow [0]))).snd.2=26->((0:Int)<=14/\(14:Int)<26)/\(14:Nat)<List.length (chk l (List.replicate (26:Nat) (zrow [0])) (List.replicate (26:Nat) (zrow [0]))).snd.2/\((el (chk l (List.replicate (26:Nat) (zrow [0])) (List.replicate (26:Nat) (zrow [0]))).snd.2 (14:Nat) !=0)=true->((0:Int)<=1/\(1:Int)<26)/\(1:Nat)<List.length (chk l (List.replicate (26:Nat) (zrow [0])) (List.replicate (26:Nat) (zrow [0]))).snd.2/\((el (chk l (List.replicate (26:Nat) (zrow [0])) (List.replicate (26:Nat) (zrow [0]))).snd.2 (1:Nat) !=0)=true->Q ⟨.ce (.int .i64 8),false,[],[]⟩)/\((el (chk l (List.replicate (26:Nat) (zrow [0])) (List.replicate (26:Nat) (zrow [0]))).snd.2 (1:Nat) !=0)=false->((0:Int)<=13/\(13:Int)<26)/\(13:Nat)<List.length (chk l (List.replicate (26:Nat) (zrow [0])) (List.replicate (26:Nat) (zrow [0]))).snd.2/\((el (chk l (List.replicate (26:Nat) (zrow [0])) (List.replicate (26:Nat) (zrow [0]))).snd.2 (13:Nat) !=0)=true->Q ⟨.ce (.int .i64 8),false,[],[]⟩)/\((el (chk l (List.replicate (26:Nat) (zrow [0])) (List.replicate (26:Nat) (zrow [0]))).snd.2 (13:Nat) !=0)=false->Q ⟨.ce (.int .i64 0),false,[],[]⟩)))/\((el (chk l (List.replicate (26:Nat) (zrow [0])) (List.replicate (26:Nat) (zrow [0]))).snd.2 (14:Nat) !=0)=false->Q ⟨.ce (.int .i64 0),false,[],[]⟩))/\((chk l (List.replicate (26:Nat) (zrow [0])) (List.replicate (26:Nat) (zrow [0]))).1≠(0:Int)->Q ⟨.ce (.int .i64 (chk l (List.replicate (26:Nat) (zrow [0])) (List.replicate (26:Nat) (zrow [0]))).1),false,[],[]⟩)):=by kernel_rfl
theorem vbCheck(r len k:Int)(l G L:List (List Int))(cG cL:Nat)(K:HEx->LV->Prop):(nbodyT true CCheck anCheck (nthLoop Try.f9 0) (([.ce (.int .i64 r), .ce (.ptr 1000003 0), .ce (.ptr 1000004 0), .ce (.sl false [4,4] l), .ce (.int .i64 len), .ce (.int .i64 k)],[[.arr [0] G cG],[.arr [0] L cL]])) K)=((decide (k<len)=true->(0<=k/\k<(l.length:Int))/\(decide (el l k.toNat<65)=true->K .ret ([.ce (.int .i64 1), .ce (.ptr 1000003 0)],[[.arr [0] G cG],[.arr [0] L cL]]))/\(decide (el l k.toNat<65)=false->(decide (el l k.toNat>90)=true->K .ret ([.ce (.int .i64 1), .ce (.ptr 1000003 0)],[[.arr [0] G cG],[.arr [0] L cL]]))/\(decide (el l k.toNat>90)=false->True/\∀(x1:Bool),x1=vl (ec l k.toNat 1)->((!x1)=true->K .ret ([.ce (.int .i64 1), .ce (.ptr 1000003 0)],[[.arr [0] G cG],[.arr [0] L cL]]))/\((!x1)=false->((el l k.toNat !=71)=true->((el l k.toNat !=77)=true->(-9223372036854775808<=el l k.toNat-65/\el l k.toNat-65<=9223372036854775807)/\∀(x2:Int),x2=el l k.toNat-65->(0<=x2/\x2<26)/\x2.toNat<List.length L/\((el L x2.toNat !=0)=true->K .ret ([.ce (.int .i64 7), .ce (.ptr 1000003 0)],[[.arr [0] G cG],[.arr [0] L cL]]))/\((el L x2.toNat !=0)=false->(-9223372036854775808<=el l k.toNat-65/\el l k.toNat-65<=9223372036854775807)/\∀(x3:Int),x3=el l k.toNat-65->(0<=x3/\x3<26)/\x3.toNat<List.length L/\(-9223372036854775808<=k+1/\k+1<=9223372036854775807)/\∀(x4:Int),x4=k+1->K .normal ([.ce (.int .i64 r), .ce (.ptr 1000003 0), .ce (.ptr 1000004 0), .ce (.sl false [4,4] l), .ce (.int .i64 len), .ce (.int .i64 x4)],[[.arr [0] G cG],[.arr [0] (List.set L x3.toNat [bif true&&true then(1:Int)else el L x3.toNat]) cL]])))/\((el l k.toNat !=77)=false->True/\∀(x5:Int),x5=wv (ec l k.toNat 1)->∀(x6:Bool),x6=isc [el l k.toNat,ec l k.toNat 1]->True/\∀(x7:Int),x7=grp (el l k.toNat) x5->((!x6)=true->K .ret ([.ce (.int .i64 6), .ce (.ptr 1000003 0)],[[.arr [0] G cG],[.arr [0] L cL]]))/\((!x6)=false->((x7==0)=true->K .ret ([.ce (.int .i64 6), .ce (.ptr 1000003 0)],[[.arr [0] G cG],[.arr [0] L cL]]))/\((x7==0)=false->(0<=x7/\x7<26)/\x7.toNat<List.length G/\((el G x7.toNat !=0)=true->K .ret ([.ce (.int .i64 8), .ce (.ptr 1000003 0)],[[.arr [0] G cG],[.arr [0] L cL]]))/\((el G x7.toNat !=0)=false->(0<=x7/\x7<26)/\x7.toNat<List.length G/\(-9223372036854775808<=k+1/\k+1<=9223372036854775807)/\∀(x8:Int),x8=k+1->K .normal ([.ce (.int .i64 r), .ce (.ptr 1000003 0), .ce (.ptr 1000004 0), .ce (.sl false [4,4] l), .ce (.int .i64 len), .ce (.int .i64 x8)],[[.arr [0] (List.set G x7.toNat [bif true&&true then(1:Int)else el G x7.toNat]) cG],[.arr [0] L cL]]))))))/\((el l k.toNat !=71)=false->True/\∀(x9:Int),x9=wv (ec l k.toNat 1)->∀(x10:Bool),x10=isc [el l k.toNat,ec l k.toNat 1]->True/\∀(x11:Int),x11=grp (el l k.toNat) x9->((!x10)=true->K .ret ([.ce (.int .i64 6), .ce (.ptr 1000003 0)],[[.arr [0] G cG],[.arr [0] L cL]]))/\((!x10)=false->((x11==0)=true->K .ret ([.ce (.int .i64 6), .ce (.ptr 1000003 0)],[[.arr [0] G cG],[.arr [0] L cL]]))/\((x11==0)=false->(0<=x11/\x11<26)/\x11.toNat<List.length G/\((el G x11.toNat !=0)=true->K .ret ([.ce (.int .i64 8), .ce (.ptr 1000003 0)],[[.arr [0] G cG],[.arr [0] L cL]]))/\((el G x11.toNat !=0)=false->(0<=x11/\x11<26)/\x11.toNat<List.length G/\(-9223372036854775808<=k+1/\k+1<=9223372036854775807)/\∀(x12:Int),x12=k+1->K .normal ([.ce (.int .i64 r), .ce (.ptr 1000003 0), .ce (.ptr 1000004 0), .ce (.sl false [4,4] l), .ce (.int .i64 len), .ce (.int .i64 x12)],[[.arr [0] (List.set G x11.toNat [bif true&&true then(1:Int)else el G x11.toNat]) cG],[.arr [0] L cL]])))))))))/\(decide (k<len)=false->K (.exit 0) ([.ce (.int .i64 r), .ce (.ptr 1000003 0)],[[.arr [0] G cG],[.arr [0] L cL]]))):=by kernel_rfl
def anCheck2:LAnn:=⟨[0,2,3],[0,2],[],false⟩
def LCheck2(v:LV):LR:=match v with
 |([.ce (.sl false [4,4] l), .ce (.int .i64 r), .ce (.int .i64 k)],[])=> .alts (k=0/\l.length<=1000) [(rchk [] l=0, .exit 0,([.ce (.sl false [4,4] l), .ce (.int .i64 r)],[])),(rchk [] l≠0, .ret,([.ce (.sl false [4,4] l), .ce (.int .i64 (rchk [] l))],[]))]
 |_=> .fail
def tabCheck2:List (FuncId×HL.Spec):=[(18,SVl),(20,SWhole),(21,SGroup),(19,SFind),(22,SGof)]
noncomputable def CCheck2:Ctx:=⟨Try.prog,gam tabCheck2,Try.f10.ntmps,[(2,anCheck2,LCheck2)],[]⟩
theorem vcCheck2(l:List (List Int))(Q:Res->Prop):(nfun true CCheck2 Try.f10 (bodyOf Try.f10) [.ce (.sl false [4,4] l)] [] Q)=(((0:Int)=0/\l.length<=1000)/\(rchk [] l=0->l.length<=1000/\∀(x1:Int),x1=gof (14:Int) l->(decide (x1>=0)=true->l.length<=1000/\∀(x2:Int),x2=gof (1:Int) l->(decide (x2>=0)=true->Q ⟨.ce (.int .i64 8),false,[],[]⟩)/\(decide (x2>=0)=false->l.length<=1000/\∀(x3:Int),x3=gof (13:Int) l->(decide (x3>=0)=true->Q ⟨.ce (.int .i64 8),false,[],[]⟩)/\(decide (x3>=0)=false->Q ⟨.ce (.int .i64 0),false,[],[]⟩)))/\(decide (x1>=0)=false->Q ⟨.ce (.int .i64 0),false,[],[]⟩))/\(rchk [] l≠0->Q ⟨.ce (.int .i64 (rchk [] l)),false,[],[]⟩)):=by kernel_rfl
theorem vbCheck2(r k:Int)(l:List (List Int))(K:HEx->LV->Prop):(nbodyT true CCheck2 anCheck2 (nthLoop Try.f10 0) (([.ce (.sl false [4,4] l), .ce (.int .i64 r), .ce (.int .i64 k)],[])) K)=((decide (k<(l.length:Int))=true->(0<=k/\k<(l.length:Int))/\∀(x1:Int),x1=el l k.toNat->(decide (x1<65)=true->K .ret ([.ce (.sl false [4,4] l), .ce (.int .i64 1)],[]))/\(decide (x1<65)=false->(decide (x1>90)=true->K .ret ([.ce (.sl false [4,4] l), .ce (.int .i64 1)],[]))/\(decide (x1>90)=false->(0<=k/\k<(l.length:Int))/\∀(x2:Int),x2=ec l k.toNat 1->True/\∀(x3:Bool),x3=vl x2->((!x3)=true->K .ret ([.ce (.sl false [4,4] l), .ce (.int .i64 1)],[]))/\((!x3)=false->((x1 !=71)=true->((x1 !=77)=true->(0<=k/\k<=(l.length:Int))/\List.length (List.take k.toNat l)<=1000/\∀(x4:Int),x4=fndN x1 (List.take k.toNat l)->∀(x5:Bool),x5=fndB x1 (List.take k.toNat l)->(x5=true->K .ret ([.ce (.sl false [4,4] l), .ce (.int .i64 7)],[]))/\(x5=false->(-9223372036854775808<=k+1/\k+1<=9223372036854775807)/\∀(x6:Int),x6=k+1->K .normal ([.ce (.sl false [4,4] l), .ce (.int .i64 r), .ce (.int .i64 x6)],[])))/\((x1 !=77)=false->(0<=k/\k<(l.length:Int))/\∀(x7:Int),x7=ec l k.toNat 1->True/\∀(x8:Int),x8=wv x7->∀(x9:Bool),x9=isw x7->((!x9)=true->K .ret ([.ce (.sl false [4,4] l), .ce (.int .i64 6)],[]))/\((!x9)=false->True/\∀(x10:Int),x10=grp x1 x8->((x10==0)=true->K .ret ([.ce (.sl false [4,4] l), .ce (.int .i64 6)],[]))/\((x10==0)=false->(0<=k/\k<=(l.length:Int))/\True/\∀(x11:Int),x11=grp x1 x8->List.length (List.take k.toNat l)<=1000/\∀(x12:Int),x12=gof x11 (List.take k.toNat l)->(decide (x12>=0)=true->K .ret ([.ce (.sl false [4,4] l), .ce (.int .i64 8)],[]))/\(decide (x12>=0)=false->(-9223372036854775808<=k+1/\k+1<=9223372036854775807)/\∀(x13:Int),x13=k+1->K .normal ([.ce (.sl false [4,4] l), .ce (.int .i64 r), .ce (.int .i64 x13)],[]))))))/\((x1 !=71)=false->(0<=k/\k<(l.length:Int))/\∀(x14:Int),x14=ec l k.toNat 1->True/\∀(x15:Int),x15=wv x14->∀(x16:Bool),x16=isw x14->((!x16)=true->K .ret ([.ce (.sl false [4,4] l), .ce (.int .i64 6)],[]))/\((!x16)=false->True/\∀(x17:Int),x17=grp x1 x15->((x17==0)=true->K .ret ([.ce (.sl false [4,4] l), .ce (.int .i64 6)],[]))/\((x17==0)=false->(0<=k/\k<=(l.length:Int))/\True/\∀(x18:Int),x18=grp x1 x15->List.length (List.take k.toNat l)<=1000/\∀(x19:Int),x19=gof x18 (List.take k.toNat l)->(decide (x19>=0)=true->K .ret ([.ce (.sl false [4,4] l), .ce (.int .i64 8)],[]))/\(decide (x19>=0)=false->(-9223372036854775808<=k+1/\k+1<=9223372036854775807)/\∀(x20:Int),x20=k+1->K .normal ([.ce (.sl false [4,4] l), .ce (.int .i64 r), .ce (.int .i64 x20)],[])))))))))/\(decide (k<(l.length:Int))=false->K (.exit 0) ([.ce (.sl false [4,4] l), .ce (.int .i64 r)],[]))):=by kernel_rfl
end Go.Proofs.Ytaonkcjadaopgaa
namespace U
open Go
theorem scn_le(c:Int):∀(l:List (List (List Int)))(i:Int),scn c l i=0∨(i<=scn c l i/\scn c l i<i+(l.length:Int))
 |[],i=> .inl rfl
 |g::r,i=>by
  rw[scn_cons];rw[List.length_cons];split
  . right;omega
  . rcases scn_le c r (i+1)with h|h
    . exact .inl h
    . right;omega
theorem prep_bd(c:Int):0<=prep c/\prep c<=14:=by
 have h:=scn_le c glit 1;have e:glit.length=14:=rfl;rw[e]at h;unfold prep;omega
theorem misc_bd(c:Int):0<=misc c/\misc c<=25:=by
 unfold misc;repeat' split
 all_goals omega
theorem grp_bd(l c:Int):0<=grp l c/\grp l c<=25:=by
 unfold grp;split
 . have:=prep_bd c;omega
 . split
   . exact misc_bd c
   . omega
theorem chk_cons{r:List Int}{l L G:List (List Int)}{a n:Int}(ha:lt r=a)(hn:nm r=n):chk (r::l) L G=(if !(decide (65<=a/\a<=90)&&vl n)then(1,L,G)else if !(a==71||a==77)then(if geta L (a-65)then(7,L,G)else chk l (seta L (a-65)) G)else if !isw n||(grp a (wv n)==0)then(6,L,G)else if geta G (grp a (wv n))then(8,L,G)else chk l L (seta G (grp a (wv n)))):=by subst ha hn;rfl
theorem rchk_cons{r:List Int}{p l:List (List Int)}{a n:Int}(ha:lt r=a)(hn:nm r=n):rchk p (r::l)=(if !(decide (65<=a/\a<=90)&&vl n)then 1 else if !(a==71||a==77)then(if fndB a p then 7 else rchk (p++[r]) l)else if !isw n||(grp a (wv n)==0)then 6 else if decide (gof (grp a (wv n)) p>=0)then 8 else rchk (p++[r]) l):=by subst ha hn;rfl
end U
namespace Go.Proofs.Ytaonkcjadaopgaa
open Go Go.HL U
theorem loopCheck:∀v Q,(LCheck v).wp Q->hloop CCheck anCheck (nthLoop Try.f9 0) v Q:=by
 intro v Q h;unfold LCheck at h;split at h;case h_2=>exact h.elim
 rename_i r l len k G0 cG L0 cL;obtain⟨⟨h1,h2,h3,h4,h5⟩,hq1,hq2⟩:=h;subst h1 h2;refine hloop_rec (σ:=Nat×List (List Int)×List (List Int)) (fun s=>([.ce (.int .i64 r), .ce (.ptr 1000003 0), .ce (.ptr 1000004 0), .ce (.sl false [4,4] l), .ce (.int .i64 (l.length:Int)), .ce (.int .i64 (s.1:Int))],[[.arr [0] s.2.2 cG],[.arr [0] s.2.1 cL]])) (fun s=>l.length-s.1) (fun s=>s.1<=l.length/\chk l L0 G0=chk (l.drop s.1) s.2.1 s.2.2/\s.2.1.length=26/\s.2.2.length=26) ?_ (0,L0,G0) ⟨Nat.zero_le _,rfl,h5,h4⟩;rintro⟨j,L,G⟩⟨hj,hp,hL,hG⟩K hn he hr;dsimp only at hj hp hL hG hn;refine byVB (vbCheck r _ j l G L cG cL K) ⟨fun hlt=>⟨by have:=of_decide_eq_true hlt;omega,?_⟩,fun hge=> ?_⟩
 . have hlt:=of_decide_eq_true hlt;have hjl:j<l.length:=by omega
   rw[drop_cons l hjl]at hp;rw[chk_cons (lt_el l j) (nm_ec l j)]at hp;have ej:((j:Nat):Int).toNat=j:=by omega
   rw[ej];have hrow:∀a n:Int,isc [a,n]=(isw n&&(a==71||a==77)):=fun a n=>rfl;generalize el l j=a at*;generalize ec l j 1=n at*;have ret:∀e:Int,chk l L0 G0=(e,L,G)->e≠0->K .ret ([.ce (.int .i64 e), .ce (.ptr 1000003 0)],[[.arr [0] G cG],[.arr [0] L cL]]):=by
    intro e h1 h2;have:=hq2 (by rw[h1];exact h2);rw[h1]at this;exact hr _ this
   have next:∀(L' G':List (List Int))(x:Int),x=(j:Int)+1->chk l L0 G0=chk (l.drop (j+1)) L' G'->L'.length=26->G'.length=26->K .normal ([.ce (.int .i64 r), .ce (.ptr 1000003 0), .ce (.ptr 1000004 0), .ce (.sl false [4,4] l), .ce (.int .i64 (l.length:Int)), .ce (.int .i64 x)],[[.arr [0] G' cG],[.arr [0] L' cL]]):=by
    intro L' G' x hx h1 h2 h3;rw[show x=((j+1:Nat):Int)by omega];exact hn (j+1,L',G') ⟨by dsimp only;omega,h1,h2,h3⟩ (by dsimp only;omega)
   clear hn he hr hq1 hq2;refine⟨fun k1=>ret 1 ?_ (by omega),fun k1=>⟨fun k2=>ret 1 ?_ (by omega),fun k2=>⟨trivial,fun x1 e1=>⟨fun k3=>ret 1 ?_ (by omega),fun k3=> ?_⟩⟩⟩⟩
   . have k1:=of_decide_eq_true k1;rw[hp,decide_eq_false (by omega)];rfl
   . have k2:=of_decide_eq_true k2;rw[hp,decide_eq_false (by omega)];rfl
   . have k3:vl n=false:=by rw[<-e1];simpa using k3
     rw[hp,k3,Bool.and_false];rfl
   have k1:=of_decide_eq_false k1;have k2:=of_decide_eq_false k2;have k3:vl n=true:=by rw[<-e1];simpa using k3
   rw[decide_eq_true (by omega),k3]at hp;simp only[Bool.true_and,Bool.not_true,Bool.false_eq_true,if_false]at hp;have gb:=grp_bd a (wv n);have code:(a==71||a==77)=true->True/\∀x5:Int,x5=wv n->∀x6:Bool,x6=isc [a,n]->True/\∀x7:Int,x7=grp a x5->((!x6)=true->K .ret ([.ce (.int .i64 6), .ce (.ptr 1000003 0)],[[.arr [0] G cG],[.arr [0] L cL]]))/\((!x6)=false->((x7==0)=true->K .ret ([.ce (.int .i64 6), .ce (.ptr 1000003 0)],[[.arr [0] G cG],[.arr [0] L cL]]))/\((x7==0)=false->(0<=x7/\x7<26)/\x7.toNat<G.length/\((el G x7.toNat !=0)=true->K .ret ([.ce (.int .i64 8), .ce (.ptr 1000003 0)],[[.arr [0] G cG],[.arr [0] L cL]]))/\((el G x7.toNat !=0)=false->(0<=x7/\x7<26)/\x7.toNat<G.length/\(-9223372036854775808<=(j:Int)+1/\(j:Int)+1<=9223372036854775807)/\∀x8:Int,x8=(j:Int)+1->K .normal ([.ce (.int .i64 r), .ce (.ptr 1000003 0), .ce (.ptr 1000004 0), .ce (.sl false [4,4] l), .ce (.int .i64 (l.length:Int)), .ce (.int .i64 x8)],[[.arr [0] (List.set G x7.toNat [1]) cG],[.arr [0] L cL]])))):=by
    intro hc;rw[hc]at hp;simp only[Bool.not_true,Bool.false_eq_true,if_false]at hp;refine⟨trivial,fun x5 e5 x6 e6=>⟨trivial,fun x7 e7=> ?_⟩⟩;rw[hrow,hc,Bool.and_true]at e6;rw[<-e6]at hp;rw[<-e5,<-e7]at hp;rw[<-e5,<-e7]at gb;refine⟨fun q1=>ret 6 (by rw[hp,q1];rfl) (by omega),fun q1=>⟨fun q2=>ret 6 (by rw[hp,q2,Bool.or_true];rfl) (by omega),fun q2=>⟨by omega,by omega,fun q3=>ret 8 ?_ (by omega),fun q3=>⟨by omega,by omega,by omega,fun x8 e8=>next L _ x8 e8 ?_ hL (by rw[List.length_set];exact hG)⟩⟩⟩⟩
    . rw[hp,q1,q2,show geta G x7=true from q3];rfl
    . rw[hp,q1,q2,show geta G x7=false from q3];rfl
   refine⟨fun k4=>⟨fun k5=>⟨by omega,fun x2 e2=>⟨by omega,by omega,fun q=>ret 7 ?_ (by omega),fun q=>⟨by omega,fun x3 e3=>⟨by omega,by omega,by omega,fun x4 e4=>next _ G x4 e4 ?_ (by rw[List.length_set];exact hL) hG⟩⟩⟩⟩,fun k5=>code ?_⟩,fun k4=>code ?_⟩
   . have:(a==71||a==77)=false:=by simp_all
     rw[this]at hp;rw[hp,<-e2,show geta L x2=true from q];rfl
   . have:(a==71||a==77)=false:=by simp_all
     rw[this]at hp;rw[hp,<-e2,show geta L x2=false from q];rw[show x3=x2 by omega];rfl
   . simp_all
   . simp_all
 . have hge:=of_decide_eq_false hge;have:j=l.length:=by omega
   subst this;rw[List.drop_length]at hp;have:=hq1 ⟨by rw[hp];rfl,by rw[hp];exact hG⟩;rw[hp]at this;exact he _ _ this
theorem sCheck:Sound Try.prog 9 SCheck:=by
 refine sound_of (C:=CCheck) tabCheck Try.func9 (by kernel_rfl) (by decide+kernel) (by kernel_rfl) rfl ⟨sVl,sCode,sGroup,trivial⟩ (loops1 (by kernel_rfl) (loopOK_of (an:=anCheck) (S:=LCheck) (by kernel_rfl) loopCheck)) ?_;intro hA pA R h;unfold SCheck at h;split at h;case h_2=>exfalso;exact h
 rename_i l;have hq:=h.2;have h:=h.1;unfold ckk at hq;dsimp only at hq;refine byVC (vcCheck l R) ⟨⟨rfl,rfl,h,rfl,rfl⟩,?_,?_⟩
 . show(chk l z26 z26).1=0/\(chk l z26 z26).2.2.length=26->_;rintro⟨a1,a2⟩;rw[if_neg (by omega)]at hq;refine⟨by omega,by rw[show(List.replicate 26 (zrow [0]))=z26 from rfl];omega,fun q1=>⟨by omega,by rw[show(List.replicate 26 (zrow [0]))=z26 from rfl];omega,fun q2=> ?_,fun q2=>⟨by omega,by rw[show(List.replicate 26 (zrow [0]))=z26 from rfl];omega,fun q3=> ?_,fun q3=> ?_⟩⟩,fun q1=> ?_⟩
   . rw[show geta (chk l z26 z26).2.2 14=true from q1,show geta (chk l z26 z26).2.2 1=true from q2]at hq;exact hq
   . rw[show geta (chk l z26 z26).2.2 14=true from q1,show geta (chk l z26 z26).2.2 1=false from q2,show geta (chk l z26 z26).2.2 13=true from q3]at hq;exact hq
   . rw[show geta (chk l z26 z26).2.2 14=true from q1,show geta (chk l z26 z26).2.2 1=false from q2,show geta (chk l z26 z26).2.2 13=false from q3]at hq;exact hq
   . rw[show geta (chk l z26 z26).2.2 14=false from q1]at hq;exact hq
 . show(chk l z26 z26).1≠0->R ⟨.ce (.int .i64 (chk l z26 z26).1),false,[],[]⟩;intro a1;rw[if_pos a1]at hq;exact hq
theorem loopCheck2:∀v Q,(LCheck2 v).wp Q->hloop CCheck2 anCheck2 (nthLoop Try.f10 0) v Q:=by
 intro v Q h;unfold LCheck2 at h;split at h;case h_2=>exact h.elim
 rename_i l r k;obtain⟨⟨h1,h3⟩,hq1,hq2⟩:=h;subst h1;refine hloop_rec (σ:=Nat) (fun j=>([.ce (.sl false [4,4] l), .ce (.int .i64 r), .ce (.int .i64 (j:Int))],[])) (fun j=>l.length-j) (fun j=>j<=l.length/\rchk [] l=rchk (l.take j) (l.drop j)) ?_ 0 ⟨Nat.zero_le _,rfl⟩;rintro j⟨hj,hp⟩K hn he hr;refine byVB (vbCheck2 r j l K) ⟨fun hlt=>⟨by have:=of_decide_eq_true hlt;omega,fun x1 e1=> ?_⟩,fun hge=> ?_⟩
 . have hlt:=of_decide_eq_true hlt;have hjl:j<l.length:=by omega
   rw[drop_cons l hjl]at hp;rw[rchk_cons (lt_el l j) (nm_ec l j)]at hp;have ej:((j:Nat):Int).toNat=j:=by omega
   rw[ej]at e1⊢;have e1:x1=el l j:=e1;rw[<-e1]at hp;have htk:l.take j++[l.getD j []]=l.take (j+1):=by
    rw[List.take_add_one];congr 1;simp[List.getD_eq_getElem?_getD,hjl]
   rw[htk]at hp;have ret:∀e:Int,rchk [] l=e->e≠0->K .ret ([.ce (.sl false [4,4] l), .ce (.int .i64 e)],[]):=by
    intro e h1 h2;have:=hq2 (by rw[h1];exact h2);rw[h1]at this;exact hr _ this
   have next:∀x:Int,x=(j:Int)+1->rchk [] l=rchk (l.take (j+1)) (l.drop (j+1))->K .normal ([.ce (.sl false [4,4] l), .ce (.int .i64 r), .ce (.int .i64 x)],[]):=by
    intro x hx h1;rw[show x=((j+1:Nat):Int)by omega];exact hn (j+1) ⟨by omega,h1⟩ (by omega)
   have hlen:(l.take j).length<=1000:=by rw[List.length_take];omega
   clear hn he hr hq1 hq2;refine⟨fun k1=>ret 1 ?_ (by omega),fun k1=>⟨fun k2=>ret 1 ?_ (by omega),fun k2=>⟨by omega,fun x2 e2=>⟨trivial,fun x3 e3=>⟨fun k3=>ret 1 ?_ (by omega),fun k3=> ?_⟩⟩⟩⟩⟩
   . have k1:=of_decide_eq_true k1;rw[hp,decide_eq_false (by omega)];rfl
   . have k2:=of_decide_eq_true k2;rw[hp,decide_eq_false (by omega)];rfl
   . have k3:vl (ec l j 1)=false:=by rw[<-e2,<-e3];simpa using k3
     rw[hp,k3,Bool.and_false];rfl
   have k1:=of_decide_eq_false k1;have k2:=of_decide_eq_false k2;have k3:vl (ec l j 1)=true:=by rw[<-e2,<-e3];simpa using k3
   rw[decide_eq_true (by omega),k3]at hp;simp only[Bool.true_and,Bool.not_true,Bool.false_eq_true,if_false]at hp;have code:(x1==71||x1==77)=true->(0<=(j:Int)/\(j:Int)<(l.length:Int))/\∀x7:Int,x7=ec l j 1->True/\∀x8:Int,x8=wv x7->∀x9:Bool,x9=isw x7->((!x9)=true->K .ret ([.ce (.sl false [4,4] l), .ce (.int .i64 6)],[]))/\((!x9)=false->True/\∀x10:Int,x10=grp x1 x8->((x10==0)=true->K .ret ([.ce (.sl false [4,4] l), .ce (.int .i64 6)],[]))/\((x10==0)=false->(0<=(j:Int)/\(j:Int)<=(l.length:Int))/\True/\∀x11:Int,x11=grp x1 x8->(l.take j).length<=1000/\∀x12:Int,x12=gof x11 (l.take j)->(decide (x12>=0)=true->K .ret ([.ce (.sl false [4,4] l), .ce (.int .i64 8)],[]))/\(decide (x12>=0)=false->(-9223372036854775808<=(j:Int)+1/\(j:Int)+1<=9223372036854775807)/\∀x13:Int,x13=(j:Int)+1->K .normal ([.ce (.sl false [4,4] l), .ce (.int .i64 r), .ce (.int .i64 x13)],[])))):=by
    intro hc;rw[hc]at hp;simp only[Bool.not_true,Bool.false_eq_true,if_false]at hp;refine⟨by omega,fun x7 e7=>⟨trivial,fun x8 e8 x9 e9=> ?_⟩⟩;rw[<-e7,<-e8,<-e9]at hp;refine⟨fun q1=>ret 6 (by rw[hp,q1];rfl) (by omega),fun q1=>⟨trivial,fun x10 e10=> ?_⟩⟩;rw[<-e10]at hp;refine⟨fun q2=>ret 6 (by rw[hp,q2,Bool.or_true];rfl) (by omega),fun q2=>⟨by omega,trivial,fun x11 e11=>⟨hlen,fun x12 e12=> ?_⟩⟩⟩;rw[<-e10]at e11;subst e11;rw[<-e12]at hp;refine⟨fun q3=>ret 8 (by rw[hp,q1,q2,q3];rfl) (by omega),fun q3=>⟨by omega,fun x13 e13=>next x13 e13 (by rw[hp,q1,q2,q3];rfl)⟩⟩
   refine⟨fun k4=>⟨fun k5=>⟨by omega,hlen,fun x4 e4 x5 e5=>⟨fun q=>ret 7 ?_ (by omega),fun q=>⟨by omega,fun x6 e6=>next x6 e6 ?_⟩⟩⟩,fun k5=>code ?_⟩,fun k4=>code ?_⟩
   . have:(x1==71||x1==77)=false:=by simp_all
     rw[this]at hp;rw[hp,<-e5,q];rfl
   . have:(x1==71||x1==77)=false:=by simp_all
     rw[this]at hp;rw[hp,<-e5,q];rfl
   . simp_all
   . simp_all
 . have hge:=of_decide_eq_false hge;have:j=l.length:=by omega
   subst this;rw[List.drop_length]at hp;exact he _ _ (hq1 hp)
end Go.Proofs.Ytaonkcjadaopgaa
namespace U
open Go
theorem amg_nonneg{c:Int}{l:List (List Int)}(hl:∀r∈l,(0:Int)<=r.getD 0 0)(h:amg c l=true):0<=c:=by
 induction l with
 |nil=>cases h
 |cons r l ih=>
  rw[amg_cons]at h;rcases Bool.or_eq_true_iff.1 h with h|h
  . have:=hl r (by simp);have e:r.getD 0 0=c:=by simpa using h
    omega
  . exact ih (fun r hr=>hl r (List.mem_cons_of_mem _ hr)) h
theorem scn_nonneg{c:Int}:∀(l:List (List (List Int)))(i:Int),(∀g∈l,∀r∈g,(0:Int)<=r.getD 0 0)->scn c l i≠0->0<=c
 |[],i,_,h=>absurd rfl h
 |g::l,i,hl,h=>by
  rw[scn_cons]at h;split at h
  . rename_i ha;exact amg_nonneg (hl g (by simp)) ha
  . exact scn_nonneg l (i+1) (fun g hg=>hl g (List.mem_cons_of_mem _ hg)) h
theorem grp_nonneg{l c:Int}(h:grp l c≠0):0<=c:=by
 unfold grp at h;split at h
 . exact scn_nonneg glit 1 (by decide) h
 . split at h
   . unfold misc at h;split at h
     . rename_i ha;exact amg_nonneg (by decide) ha
     . split at h
       . rename_i ha;exact amg_nonneg (by decide) ha
       . split at h
         . omega
         . split at h
           . rename_i ha;exact amg_nonneg (by decide) ha
           . split at h
             . omega
             . exact absurd rfl h
   . exact absurd rfl h
def fdg(g:Int)(l:List (List Int)):Bool:=l.any fun r=>isw (nm r)&&(grp (lt r) (wv (nm r))==g)
theorem gof_fdg{g:Int}(hg:1<=g):∀l:List (List Int),decide (gof g l>=0)=fdg g l
 |[]=>rfl
 |r::l=>by
  rw[gof_cons];unfold fdg;rw[List.any_cons];cases hm:(isw (nm r)&&(grp (lt r) (wv (nm r))==g))with
  |true=>
   rw[if_pos rfl,Bool.true_or];rw[Bool.and_eq_true]at hm;have e:grp (lt r) (wv (nm r))=g:=by simpa using hm.2
   exact decide_eq_true (grp_nonneg (l:=lt r) (by rw[e];omega))
  |false=>
   rw[if_neg (by simp),Bool.false_or];exact gof_fdg hg l
theorem fdg_append(g:Int)(a b:List (List Int)):fdg g (a++b)=(fdg g a||fdg g b):=by unfold fdg;rw[List.any_append]
theorem fndB_append(c:Int):∀a b:List (List Int),fndB c (a++b)=(fndB c a||fndB c b)
 |[],b=>by unfold fndB;rfl
 |r::a,b=>by
  rw[List.cons_append];have h1:∀l,fndB c (r::l)=(if lt r=c then true else fndB c l):=fun l=>by
   unfold fndB;rw[show fnd c (r::l)=(if lt r=c then some (nm r)else fnd c l)from rfl];by_cases h:lt r=c
   . rw[if_pos h,if_pos h]
   . rw[if_neg h,if_neg h]
  rw[h1,h1];by_cases h:lt r=c
  . rw[if_pos h,if_pos h];rfl
  . rw[if_neg h,if_neg h];exact fndB_append c a b
theorem fndB_one(c:Int)(r:List Int):fndB c [r]=(lt r==c):=by
 unfold fndB;rw[show fnd c [r]=(if lt r=c then some (nm r)else none)from rfl];by_cases h:lt r=c
 . rw[if_pos h];simp[h]
 . rw[if_neg h];simp[h]
theorem geta_seta{L:List (List Int)}{i j:Int}(hi:0<=i)(hl:i<(L.length:Int))(hj:0<=j):geta (seta L i) j=((i==j)||geta L j):=by
 unfold geta seta;rw[el_set _ _ _ _ (by omega)];by_cases h:i=j
 . subst h;simp
 . rw[if_neg (by omega)];have:(i==j)=false:=by simpa using h
   rw[this,Bool.false_or]
structure CInv(p L G:List (List Int)):Prop where
 l1:L.length=26
 l2:G.length=26
 hlet:∀c:Int,65<=c->c<=90->(c==71||c==77)=false->geta L (c-65)=fndB c p
 hgrp:∀g:Int,1<=g->g<=25->geta G g=fdg g p
theorem chk_rchk:∀(l p L G:List (List Int)),CInv p L G->(chk l L G).1=rchk p l/\(rchk p l=0->CInv (p++l) (chk l L G).2.1 (chk l L G).2.2)
 |[],p,L,G,h=>⟨rfl,fun _=>by rw[List.append_nil];exact h⟩
 |r::l,p,L,G,h=>by
  have e1:p++r::l=(p++[r])++l:=by simp
  rw[chk_cons (L:=L) (G:=G) (a:=lt r) (n:=nm r) rfl rfl,rchk_cons (p:=p) (a:=lt r) (n:=nm r) rfl rfl,e1];have gb:=grp_bd (lt r) (wv (nm r));cases hb:(!(decide (65<=lt r/\lt r<=90)&&vl (nm r)))with
  |true=>exact⟨rfl,fun e=>by simp at e⟩
  |false=>
  simp only[Bool.false_eq_true,if_false];have hab:65<=lt r/\lt r<=90:=by
   rw[Bool.not_eq_false',Bool.and_eq_true]at hb;exact of_decide_eq_true hb.1
  cases hc:(lt r==71||lt r==77)with
  |false=>
   simp only[Bool.not_false,if_true];rw[h.hlet (lt r) hab.1 hab.2 hc];cases hf:fndB (lt r) p with
   |true=>exact⟨rfl,fun e=>by simp at e⟩
   |false=>
    simp only[Bool.false_eq_true,if_false];have hl1:=h.l1;refine chk_rchk l (p++[r]) _ G ⟨by unfold seta;rw[List.length_set];exact h.l1,h.l2,fun c h1 h2 h3=> ?_,fun g h1 h2=> ?_⟩
    . rw[geta_seta (by omega) (by omega) (by omega),h.hlet c h1 h2 h3,fndB_append,fndB_one,Bool.or_comm];congr 1;apply Bool.eq_iff_iff.2;rw[beq_iff_eq,beq_iff_eq];omega
    . rw[h.hgrp g h1 h2,fdg_append];have:fdg g [r]=false:=by
       unfold fdg;rw[List.any_cons];have:grp (lt r) (wv (nm r))=0:=by
        unfold U.grp;rw[if_neg (by simp at hc;exact hc.1),if_neg (by simp at hc;exact hc.2)]
       rw[this];have:((0:Int)==g)=false:=by simp;omega
       rw[this,Bool.and_false];rfl
      rw[this,Bool.or_false]
  |true=>
   simp only[Bool.not_true,Bool.false_eq_true,if_false];cases hw:(!isw (nm r)||(U.grp (lt r) (wv (nm r))==0))with
   |true=>exact⟨rfl,fun e=>by simp at e⟩
   |false=>
    simp only[Bool.false_eq_true,if_false];rw[Bool.or_eq_false_iff]at hw;have hw1:isw (nm r)=true:=by simpa using hw.1
    have hg0:U.grp (lt r) (wv (nm r))≠0:=by simpa using hw.2
    rw[h.hgrp _ (by omega) (by omega),gof_fdg (by omega)];cases hf:fdg (U.grp (lt r) (wv (nm r))) p with
    |true=>exact⟨rfl,fun e=>by simp at e⟩
    |false=>
     simp only[Bool.false_eq_true,if_false];have hl2:=h.l2;refine chk_rchk l (p++[r]) L _ ⟨h.l1,by unfold seta;rw[List.length_set];exact h.l2,fun c h1 h2 h3=> ?_,fun g h1 h2=> ?_⟩
     . rw[h.hlet c h1 h2 h3,fndB_append,fndB_one];have:(lt r==c)=false:=by
        simp at h3;simp at hc;simp;omega
       rw[this,Bool.or_false]
     . rw[geta_seta (by omega) (by omega) (by omega),h.hgrp g h1 h2,fdg_append,Bool.or_comm];congr 1;unfold fdg;rw[List.any_cons,hw1];simp
theorem rck_ckk(l:List (List Int)):rck l=ckk l:=by
 obtain⟨h1,h2⟩:=chk_rchk l [] z26 z26 ⟨rfl,rfl,fun c _ _ _=>by
  show geta (List.replicate 26 [0]) _=_;unfold geta;rw[el_repl];rfl,fun g _ _=>by
  show geta (List.replicate 26 [0]) _=_;unfold geta;rw[el_repl];rfl⟩;unfold rck ckk;dsimp only;rw[h1];by_cases h:rchk [] l=0
 . have hi:=h2 h;simp only[h,ne_eq,not_true_eq_false,if_false];rw[List.nil_append]at hi;rw[hi.hgrp 14 (by omega) (by omega),hi.hgrp 1 (by omega) (by omega),hi.hgrp 13 (by omega) (by omega),gof_fdg (g:=14) (by omega),gof_fdg (g:=1) (by omega),gof_fdg (g:=13) (by omega)]
 . rw[if_pos h,if_pos h]
end U
namespace Go.Proofs.Ytaonkcjadaopgaa
open Go Go.HL U
theorem sCheck2:Sound Try.prog 10 SCheck:=by
 refine sound_of (C:=CCheck2) tabCheck2 Try.func10 (by kernel_rfl) (by decide+kernel) (by kernel_rfl) rfl ⟨sVl2,sWhole2,sGroup2,sFind2,sGof,trivial⟩ (loops1 (by kernel_rfl) (loopOK_of (an:=anCheck2) (S:=LCheck2) (by kernel_rfl) loopCheck2)) ?_;intro hA pA R h;unfold SCheck at h;split at h;case h_2=>exfalso;exact h
 rename_i l;have hq:=h.2;have h:=h.1;rw[<-rck_ckk]at hq;unfold rck at hq;refine byVC (vcCheck2 l R) ⟨⟨rfl,h⟩,fun z=>⟨h,fun x1 e1=>⟨fun q1=>⟨h,fun x2 e2=>⟨fun q2=> ?_,fun q2=>⟨h,fun x3 e3=>⟨fun q3=> ?_,fun q3=> ?_⟩⟩⟩⟩,fun q1=> ?_⟩⟩,fun z=> ?_⟩
 . rw[if_neg (by omega),<-e1,<-e2,q1,q2]at hq;exact hq
 . rw[if_neg (by omega),<-e1,<-e2,<-e3,q1,q2,q3]at hq;exact hq
 . rw[if_neg (by omega),<-e1,<-e2,<-e3,q1,q2,q3]at hq;exact hq
 . rw[if_neg (by omega),<-e1,q1]at hq;exact hq
 . rw[if_pos z]at hq;exact hq
end Go.Proofs.Ytaonkcjadaopgaa
namespace U
open Go Go.HL
structure M where
 m0:Int
 m1:Int
 m2:Int
 m3:Int
 m4:Int
 m5:Int
 m6:Int
 m7:Int
 m8:Int
 m9:Int
 m10:Int
 m11:Int
 m12:Int
 m13:Bool
 m14:Bool
 m15:Int
 m16:Int
 m17:Int
 m18:Int
 m19:Int
 m20:Int
 m21:Int
def cM(m:M):List HC:=[.int .i64 m.m0, .int .i64 m.m1, .int .i64 m.m2, .int .i64 m.m3, .int .i64 m.m4, .int .i64 m.m5, .int .i64 m.m6, .int .i64 m.m7, .int .i64 m.m8, .int .i64 m.m9, .int .i64 m.m10, .int .i64 m.m11, .int .i64 m.m12, .bool m.m13, .bool m.m14, .int .i64 m.m15, .int .i64 m.m16, .int .i64 m.m17, .int .i64 m.m18, .int .i64 m.m19, .int .i64 m.m20, .int .i64 m.m21]
def getM(m:M)(i:Nat):Int:=match i with
 |0=>m.m0
 |1=>m.m1
 |2=>m.m2
 |3=>m.m3
 |4=>m.m4
 |5=>m.m5
 |6=>m.m6
 |7=>m.m7
 |8=>m.m8
 |9=>m.m9
 |10=>m.m10
 |_=>m.m11
def setM(m:M)(i:Nat)(v:Int):M:=match i with
 |0=>{m with m0:=v}
 |1=>{m with m1:=v}
 |2=>{m with m2:=v}
 |3=>{m with m3:=v}
 |4=>{m with m4:=v}
 |5=>{m with m5:=v}
 |6=>{m with m6:=v}
 |7=>{m with m7:=v}
 |8=>{m with m8:=v}
 |9=>{m with m9:=v}
 |10=>{m with m10:=v}
 |_=>{m with m11:=v}
def pk(f:Int->Option Int)(k:Int)(old:Int):Int:=match f k with|some x=>x|none=>old
def cds:List (List Int)->(Int->Option Int)->(Int->Option Int)
 |[],f=>f
 |r::l,f=>cds l (if isc r&&decide (grp (lt r) (wv (nm r))>0)then mput f (grp (lt r) (wv (nm r))) (wv (nm r))else f)
def selL(f:Int->Option Int):Nat->Nat->M->M
 |0,_,m=>m
 |n+1,i,m=>selL f n (i+1) (setM m i (pk f ((i:Int)+1) (getM m i)))
def selM(f:Int->Option Int)(m:M):M:=
 let a:=selL f 12 0 m
 {a with m12:=pk f 22 a.m12,m20:=if optD (f 7)=49 then 0 else a.m20,m21:=if optD (f 6)=40 then 0 else a.m21}
def nOK(l:List (List Int))(c most:Int):Bool:= !fndB c l||(isw (fndN c l)&&decide (0<=wv (fndN c l)/\wv (fndN c l)<=most))
def nV(l:List (List Int))(c old:Int):Int:=if fndB c l then wv (fndN c l)else old
def lnV(n u:Int):Int:=if u=20 then mdv (n*254) 10000 2 else mdv (n*1) 1000 2
def okU(n u:Int):Bool:=vl n&&(u==20||u==21)
def rtE(n u:Int):Int:=if okU n u then(if lnV n u<1∨lnV n u>60000000 then 3 else 0)else 1
def rtN(n u:Int):Int:=if rtE n u=0 then lnV n u else 0
def lnE(n u:Int):Int:=if okU n u then(if lnV n u< -1048576∨lnV n u>1048576 then 3 else 0)else 1
def lnN(n u:Int):Int:=if lnE n u=0 then lnV n u else 0
def fld(i:Nat):Int:=match i with|0=>83|1=>84|2=>72|_=>68
def lmt(i:Nat):Int:=match i with|0=>30000|_=>32
def getN(m:M)(i:Nat):Int:=match i with|0=>m.m17|1=>m.m18|2=>m.m20|_=>m.m21
def setN(m:M)(i:Nat)(v:Int):M:=match i with|0=>{m with m17:=v}|1=>{m with m18:=v}|2=>{m with m20:=v}|_=>{m with m21:=v}
def numL(l:List (List Int)):Nat->Nat->M->Int×M
 |0,_,m=>(0,m)
 |n+1,i,m=>if nOK l (fld i) (lmt i)then numL l n (i+1) (setN m i (nV l (fld i) (getN m i)))else(1,m)
def numM(l:List (List Int))(m:M):Int×M:=if fndB 70 l then(if rtE (fndN 70 l) m.m3≠0 then(rtE (fndN 70 l) m.m3,m)else numL l 4 0 {m with m16:=rtN (fndN 70 l) m.m3})else numL l 4 0 m
end U
namespace Go.Proofs.Ytaonkcjadaopgaa
open Go Go.HL U
def SRate(hA:List HV)(pA:List (List HC)):SR:=match hA,pA with
 |[.ce (.int .i64 n), .ce (.int .i64 u)],[]=> .det True ⟨.tup [.ce (.int .i64 (rtN n u)), .ce (.int .i64 (rtE n u))],false,[],[]⟩
 |_,_=> .fail
def tabRate:List (FuncId×HL.Spec):=[(16,SVl),(34,SMulDiv)]
noncomputable def CRate:Ctx:=⟨Try.prog,gam tabRate,Try.f33.ntmps,[],[]⟩
theorem vcRate(n u:Int)(Q:Res->Prop):(nfun true CRate Try.f33 (bodyOf Try.f33) [.ce (.int .i64 n), .ce (.int .i64 u)] [] Q)=(True/\∀(x1:Bool),x1=vl n->((!x1)=true->Q ⟨.tup [.ce (.int .i64 0), .ce (.int .i64 1)],false,[],[]⟩)/\((!x1)=false->((u !=20)=true->((u !=21)=true->Q ⟨.tup [.ce (.int .i64 0), .ce (.int .i64 1)],false,[],[]⟩)/\((u !=21)=false->((-9223372036854775808<=n/\n<=9223372036854775807)/\(-9223372036854775808<=1/\(1:Int)<=9223372036854775807)/\((0:Int)<1000/\(1000:Int)<=9223372036854775807)/\(-4611686018427387904<=n*1/\n*1<=4611686018427387904)/\(0:Int)<=2/\(2:Int)<=2)/\∀(x2:Int),x2=mdv (n*1) (1000:Int) (2:Int)->∀(x3:Bool),x3=true->((u==20)=true->((-9223372036854775808<=n/\n<=9223372036854775807)/\(-9223372036854775808<=254/\(254:Int)<=9223372036854775807)/\((0:Int)<10000/\(10000:Int)<=9223372036854775807)/\(-4611686018427387904<=n*254/\n*254<=4611686018427387904)/\(0:Int)<=2/\(2:Int)<=2)/\∀(x4:Int),x4=mdv (n*254) (10000:Int) (2:Int)->∀(x5:Bool),x5=true->(decide (x4<1)=true->Q ⟨.tup [.ce (.int .i64 0), .ce (.int .i64 3)],false,[],[]⟩)/\(decide (x4<1)=false->(decide (x4>60000000)=true->Q ⟨.tup [.ce (.int .i64 0), .ce (.int .i64 3)],false,[],[]⟩)/\(decide (x4>60000000)=false->Q ⟨.tup [.ce (.int .i64 x4), .ce (.int .i64 0)],false,[],[]⟩)))/\((u==20)=false->(decide (x2<1)=true->Q ⟨.tup [.ce (.int .i64 0), .ce (.int .i64 3)],false,[],[]⟩)/\(decide (x2<1)=false->(decide (x2>60000000)=true->Q ⟨.tup [.ce (.int .i64 0), .ce (.int .i64 3)],false,[],[]⟩)/\(decide (x2>60000000)=false->Q ⟨.tup [.ce (.int .i64 x2), .ce (.int .i64 0)],false,[],[]⟩)))))/\((u !=20)=false->((-9223372036854775808<=n/\n<=9223372036854775807)/\(-9223372036854775808<=1/\(1:Int)<=9223372036854775807)/\((0:Int)<1000/\(1000:Int)<=9223372036854775807)/\(-4611686018427387904<=n*1/\n*1<=4611686018427387904)/\(0:Int)<=2/\(2:Int)<=2)/\∀(x6:Int),x6=mdv (n*1) (1000:Int) (2:Int)->∀(x7:Bool),x7=true->((u==20)=true->((-9223372036854775808<=n/\n<=9223372036854775807)/\(-9223372036854775808<=254/\(254:Int)<=9223372036854775807)/\((0:Int)<10000/\(10000:Int)<=9223372036854775807)/\(-4611686018427387904<=n*254/\n*254<=4611686018427387904)/\(0:Int)<=2/\(2:Int)<=2)/\∀(x8:Int),x8=mdv (n*254) (10000:Int) (2:Int)->∀(x9:Bool),x9=true->(decide (x8<1)=true->Q ⟨.tup [.ce (.int .i64 0), .ce (.int .i64 3)],false,[],[]⟩)/\(decide (x8<1)=false->(decide (x8>60000000)=true->Q ⟨.tup [.ce (.int .i64 0), .ce (.int .i64 3)],false,[],[]⟩)/\(decide (x8>60000000)=false->Q ⟨.tup [.ce (.int .i64 x8), .ce (.int .i64 0)],false,[],[]⟩)))/\((u==20)=false->(decide (x6<1)=true->Q ⟨.tup [.ce (.int .i64 0), .ce (.int .i64 3)],false,[],[]⟩)/\(decide (x6<1)=false->(decide (x6>60000000)=true->Q ⟨.tup [.ce (.int .i64 0), .ce (.int .i64 3)],false,[],[]⟩)/\(decide (x6>60000000)=false->Q ⟨.tup [.ce (.int .i64 x6), .ce (.int .i64 0)],false,[],[]⟩)))))):=by kernel_rfl
def SLen(hA:List HV)(pA:List (List HC)):SR:=match hA,pA with
 |[.ce (.int .i64 n), .ce (.int .i64 u)],[]=> .det True ⟨.tup [.ce (.int .i64 (lnN n u)), .ce (.int .i64 (lnE n u))],false,[],[]⟩
 |_,_=> .fail
noncomputable def CLen:Ctx:=⟨Try.prog,gam tabRate,Try.f27.ntmps,[],[]⟩
theorem vcLen(n u:Int)(Q:Res->Prop):(nfun true CLen Try.f27 (bodyOf Try.f27) [.ce (.int .i64 n), .ce (.int .i64 u)] [] Q)=(True/\∀(x1:Bool),x1=vl n->((!x1)=true->Q ⟨.tup [.ce (.int .i64 0), .ce (.int .i64 1)],false,[],[]⟩)/\((!x1)=false->((u !=20)=true->((u !=21)=true->Q ⟨.tup [.ce (.int .i64 0), .ce (.int .i64 1)],false,[],[]⟩)/\((u !=21)=false->((-9223372036854775808<=n/\n<=9223372036854775807)/\(-9223372036854775808<=1/\(1:Int)<=9223372036854775807)/\((0:Int)<1000/\(1000:Int)<=9223372036854775807)/\(-4611686018427387904<=n*1/\n*1<=4611686018427387904)/\(0:Int)<=2/\(2:Int)<=2)/\∀(x2:Int),x2=mdv (n*1) (1000:Int) (2:Int)->∀(x3:Bool),x3=true->((u==20)=true->((-9223372036854775808<=n/\n<=9223372036854775807)/\(-9223372036854775808<=254/\(254:Int)<=9223372036854775807)/\((0:Int)<10000/\(10000:Int)<=9223372036854775807)/\(-4611686018427387904<=n*254/\n*254<=4611686018427387904)/\(0:Int)<=2/\(2:Int)<=2)/\∀(x4:Int),x4=mdv (n*254) (10000:Int) (2:Int)->∀(x5:Bool),x5=true->((!x5)=true->Q ⟨.tup [.ce (.int .i64 0), .ce (.int .i64 3)],false,[],[]⟩)/\((!x5)=false->(decide (x4<(-1048576:Int))=true->Q ⟨.tup [.ce (.int .i64 0), .ce (.int .i64 3)],false,[],[]⟩)/\(decide (x4<(-1048576:Int))=false->(decide (x4>1048576)=true->Q ⟨.tup [.ce (.int .i64 0), .ce (.int .i64 3)],false,[],[]⟩)/\(decide (x4>1048576)=false->Q ⟨.tup [.ce (.int .i64 x4), .ce (.int .i64 0)],false,[],[]⟩))))/\((u==20)=false->((!x3)=true->Q ⟨.tup [.ce (.int .i64 0), .ce (.int .i64 3)],false,[],[]⟩)/\((!x3)=false->(decide (x2<(-1048576:Int))=true->Q ⟨.tup [.ce (.int .i64 0), .ce (.int .i64 3)],false,[],[]⟩)/\(decide (x2<(-1048576:Int))=false->(decide (x2>1048576)=true->Q ⟨.tup [.ce (.int .i64 0), .ce (.int .i64 3)],false,[],[]⟩)/\(decide (x2>1048576)=false->Q ⟨.tup [.ce (.int .i64 x2), .ce (.int .i64 0)],false,[],[]⟩))))))/\((u !=20)=false->((-9223372036854775808<=n/\n<=9223372036854775807)/\(-9223372036854775808<=1/\(1:Int)<=9223372036854775807)/\((0:Int)<1000/\(1000:Int)<=9223372036854775807)/\(-4611686018427387904<=n*1/\n*1<=4611686018427387904)/\(0:Int)<=2/\(2:Int)<=2)/\∀(x6:Int),x6=mdv (n*1) (1000:Int) (2:Int)->∀(x7:Bool),x7=true->((u==20)=true->((-9223372036854775808<=n/\n<=9223372036854775807)/\(-9223372036854775808<=254/\(254:Int)<=9223372036854775807)/\((0:Int)<10000/\(10000:Int)<=9223372036854775807)/\(-4611686018427387904<=n*254/\n*254<=4611686018427387904)/\(0:Int)<=2/\(2:Int)<=2)/\∀(x8:Int),x8=mdv (n*254) (10000:Int) (2:Int)->∀(x9:Bool),x9=true->((!x9)=true->Q ⟨.tup [.ce (.int .i64 0), .ce (.int .i64 3)],false,[],[]⟩)/\((!x9)=false->(decide (x8<(-1048576:Int))=true->Q ⟨.tup [.ce (.int .i64 0), .ce (.int .i64 3)],false,[],[]⟩)/\(decide (x8<(-1048576:Int))=false->(decide (x8>1048576)=true->Q ⟨.tup [.ce (.int .i64 0), .ce (.int .i64 3)],false,[],[]⟩)/\(decide (x8>1048576)=false->Q ⟨.tup [.ce (.int .i64 x8), .ce (.int .i64 0)],false,[],[]⟩))))/\((u==20)=false->((!x7)=true->Q ⟨.tup [.ce (.int .i64 0), .ce (.int .i64 3)],false,[],[]⟩)/\((!x7)=false->(decide (x6<(-1048576:Int))=true->Q ⟨.tup [.ce (.int .i64 0), .ce (.int .i64 3)],false,[],[]⟩)/\(decide (x6<(-1048576:Int))=false->(decide (x6>1048576)=true->Q ⟨.tup [.ce (.int .i64 0), .ce (.int .i64 3)],false,[],[]⟩)/\(decide (x6>1048576)=false->Q ⟨.tup [.ce (.int .i64 x6), .ce (.int .i64 0)],false,[],[]⟩))))))):=by kernel_rfl
def SCodes(hA:List HV)(pA:List (List HC)):SR:=match hA,pA with
 |[.ce (.sl false [4,4] l)],[]=> .det (l.length<=1000) ⟨.ce (.mapv 500),false,[],[[.mpb (cds l mnil)]]⟩
 |_,_=> .fail
def anCodes:LAnn:=⟨[3,10,11,12],[3],[1000009],false⟩
def LCodes(v:LV):LR:=match v with
 |([.ce (.mapv 1000009), .ce (.sl false [4,4] l), .ce (.int .i64 len), .ce (.int .i64 k)],[[.mpb f]])=> .det (k=0/\len=(l.length:Int)/\l.length<=1000) (.exit 0) ([.ce (.mapv 1000009)],[[.mpb (cds l f)]])
 |_=> .fail
def tabCodes:List (FuncId×HL.Spec):=[(17,SCode),(13,SGroup)]
noncomputable def CCodes:Ctx:=⟨Try.prog,gam tabCodes,Try.f23.ntmps,[(3,anCodes,LCodes)],[]⟩
theorem vcCodes(l:List (List Int))(Q:Res->Prop):(nfun true CCodes Try.f23 (bodyOf Try.f23) [.ce (.sl false [4,4] l)] [] Q)=(((0:Int)=0/\(l.length:Int)=(l.length:Int)/\l.length<=1000)/\Q {val:= .ce (.mapv 500),own:=false,pars:=[],news:=[[.mpb (cds l mnil)]]}):=by kernel_rfl
theorem vbCodes(len k:Int)(l:List (List Int))(f:Int->Option Int)(K:HEx->LV->Prop):(nbodyT true CCodes anCodes (nthLoop Try.f23 0) (([.ce (.mapv 1000009), .ce (.sl false [4,4] l), .ce (.int .i64 len), .ce (.int .i64 k)],[[.mpb f]])) K)=((decide (k<len)=true->(0<=k/\k<(l.length:Int))/\True/\∀(x1:Int),x1=wv (ec l k.toNat 1)->∀(x2:Bool),x2=isc [el l k.toNat,ec l k.toNat 1]->(x2=true->True/\∀(x3:Int),x3=grp (el l k.toNat) x1->(decide (x3>0)=true->(-9223372036854775808<=k+1/\k+1<=9223372036854775807)/\∀(x4:Int),x4=k+1->K .normal ([.ce (.mapv 1000009), .ce (.sl false [4,4] l), .ce (.int .i64 len), .ce (.int .i64 x4)],[[.mpb (mput f x3 x1)]]))/\(decide (x3>0)=false->(-9223372036854775808<=k+1/\k+1<=9223372036854775807)/\∀(x5:Int),x5=k+1->K .normal ([.ce (.mapv 1000009), .ce (.sl false [4,4] l), .ce (.int .i64 len), .ce (.int .i64 x5)],[[.mpb f]])))/\(x2=false->(-9223372036854775808<=k+1/\k+1<=9223372036854775807)/\∀(x6:Int),x6=k+1->K .normal ([.ce (.mapv 1000009), .ce (.sl false [4,4] l), .ce (.int .i64 len), .ce (.int .i64 x6)],[[.mpb f]])))/\(decide (k<len)=false->K (.exit 0) ([.ce (.mapv 1000009)],[[.mpb f]]))):=by kernel_rfl
def SSel(hA:List HV)(pA:List (List HC)):SR:=match hA,pA with
 |[.ce (.ptr 0 0), .ce (.mapv 1)],[b,[.mpb f]]=>(match b with
  |[.int .i64 m0, .int .i64 m1, .int .i64 m2, .int .i64 m3, .int .i64 m4, .int .i64 m5, .int .i64 m6, .int .i64 m7, .int .i64 m8, .int .i64 m9, .int .i64 m10, .int .i64 m11, .int .i64 m12, .bool m13, .bool m14, .int .i64 m15, .int .i64 m16, .int .i64 m17, .int .i64 m18, .int .i64 m19, .int .i64 m20, .int .i64 m21]=> .det True ⟨.tup [],false,[cM (selM f (M.mk m0 m1 m2 m3 m4 m5 m6 m7 m8 m9 m10 m11 m12 m13 m14 m15 m16 m17 m18 m19 m20 m21)),[.mpb f]],[]⟩
  |_=> .fail)
 |_,_=> .fail
def hSel:Nat->Bool:=fun s=>Nat.beq s 49
def anSel:LAnn:=⟨[0,1,48,49],[0,1],[0,1],hSel⟩
def LSel(v:LV):LR:=match v with
 |([.ce (.ptr 0 0), .ce (.mapv 1), .agg [.ptr 0 0, .ptr 0 1, .ptr 0 2, .ptr 0 3, .ptr 0 4, .ptr 0 5, .ptr 0 6, .ptr 0 7, .ptr 0 8, .ptr 0 9, .ptr 0 10, .ptr 0 11], .ce (.num .i64 0)],[b,[.mpb f]])=>(match b with
  |[.int .i64 m0, .int .i64 m1, .int .i64 m2, .int .i64 m3, .int .i64 m4, .int .i64 m5, .int .i64 m6, .int .i64 m7, .int .i64 m8, .int .i64 m9, .int .i64 m10, .int .i64 m11, .int .i64 m12, .bool m13, .bool m14, .int .i64 m15, .int .i64 m16, .int .i64 m17, .int .i64 m18, .int .i64 m19, .int .i64 m20, .int .i64 m21]=> .det True (.exit 0) ([.ce (.ptr 0 0), .ce (.mapv 1)],[cM (selL f 12 0 (M.mk m0 m1 m2 m3 m4 m5 m6 m7 m8 m9 m10 m11 m12 m13 m14 m15 m16 m17 m18 m19 m20 m21)),[.mpb f]])
  |_=> .fail)
 |_=> .fail
noncomputable def CSel:Ctx:=⟨Try.prog,gam [],Try.f24.ntmps,[(2,anSel,LSel)],[]⟩
theorem vcSel(m0 m1 m2 m3 m4 m5 m6 m7 m8 m9 m10 m11 m12 m15 m16 m17 m18 m19 m20 m21:Int)(m13 m14:Bool)(f:Int->Option Int)(Q:Res->Prop):(nfun true CSel Try.f24 (bodyOf Try.f24) [.ce (.ptr 0 0), .ce (.mapv 1)] [[.int .i64 m0, .int .i64 m1, .int .i64 m2, .int .i64 m3, .int .i64 m4, .int .i64 m5, .int .i64 m6, .int .i64 m7, .int .i64 m8, .int .i64 m9, .int .i64 m10, .int .i64 m11, .int .i64 m12, .bool m13, .bool m14, .int .i64 m15, .int .i64 m16, .int .i64 m17, .int .i64 m18, .int .i64 m19, .int .i64 m20, .int .i64 m21],[.mpb f]] Q)=(True/\(optB (f (22:Int))=true->((optD (f (7:Int))==49)=true->((optD (f (6:Int))==40)=true->Q {val:= .tup [],own:=false,pars:=[[.int .i64 (selL f (12:Nat) (0:Nat) {m0:=m0,m1:=m1,m2:=m2,m3:=m3,m4:=m4,m5:=m5,m6:=m6,m7:=m7,m8:=m8,m9:=m9,m10:=m10,m11:=m11,m12:=m12,m13:=m13,m14:=m14,m15:=m15,m16:=m16,m17:=m17,m18:=m18,m19:=m19,m20:=m20,m21:=m21}).m0, .int .i64 (selL f (12:Nat) (0:Nat) {m0:=m0,m1:=m1,m2:=m2,m3:=m3,m4:=m4,m5:=m5,m6:=m6,m7:=m7,m8:=m8,m9:=m9,m10:=m10,m11:=m11,m12:=m12,m13:=m13,m14:=m14,m15:=m15,m16:=m16,m17:=m17,m18:=m18,m19:=m19,m20:=m20,m21:=m21}).m1, .int .i64 (selL f (12:Nat) (0:Nat) {m0:=m0,m1:=m1,m2:=m2,m3:=m3,m4:=m4,m5:=m5,m6:=m6,m7:=m7,m8:=m8,m9:=m9,m10:=m10,m11:=m11,m12:=m12,m13:=m13,m14:=m14,m15:=m15,m16:=m16,m17:=m17,m18:=m18,m19:=m19,m20:=m20,m21:=m21}).m2, .int .i64 (selL f (12:Nat) (0:Nat) {m0:=m0,m1:=m1,m2:=m2,m3:=m3,m4:=m4,m5:=m5,m6:=m6,m7:=m7,m8:=m8,m9:=m9,m10:=m10,m11:=m11,m12:=m12,m13:=m13,m14:=m14,m15:=m15,m16:=m16,m17:=m17,m18:=m18,m19:=m19,m20:=m20,m21:=m21}).m3, .int .i64 (selL f (12:Nat) (0:Nat) {m0:=m0,m1:=m1,m2:=m2,m3:=m3,m4:=m4,m5:=m5,m6:=m6,m7:=m7,m8:=m8,m9:=m9,m10:=m10,m11:=m11,m12:=m12,m13:=m13,m14:=m14,m15:=m15,m16:=m16,m17:=m17,m18:=m18,m19:=m19,m20:=m20,m21:=m21}).m4, .int .i64 (selL f (12:Nat) (0:Nat) {m0:=m0,m1:=m1,m2:=m2,m3:=m3,m4:=m4,m5:=m5,m6:=m6,m7:=m7,m8:=m8,m9:=m9,m10:=m10,m11:=m11,m12:=m12,m13:=m13,m14:=m14,m15:=m15,m16:=m16,m17:=m17,m18:=m18,m19:=m19,m20:=m20,m21:=m21}).m5, .int .i64 (selL f (12:Nat) (0:Nat) {m0:=m0,m1:=m1,m2:=m2,m3:=m3,m4:=m4,m5:=m5,m6:=m6,m7:=m7,m8:=m8,m9:=m9,m10:=m10,m11:=m11,m12:=m12,m13:=m13,m14:=m14,m15:=m15,m16:=m16,m17:=m17,m18:=m18,m19:=m19,m20:=m20,m21:=m21}).m6, .int .i64 (selL f (12:Nat) (0:Nat) {m0:=m0,m1:=m1,m2:=m2,m3:=m3,m4:=m4,m5:=m5,m6:=m6,m7:=m7,m8:=m8,m9:=m9,m10:=m10,m11:=m11,m12:=m12,m13:=m13,m14:=m14,m15:=m15,m16:=m16,m17:=m17,m18:=m18,m19:=m19,m20:=m20,m21:=m21}).m7, .int .i64 (selL f (12:Nat) (0:Nat) {m0:=m0,m1:=m1,m2:=m2,m3:=m3,m4:=m4,m5:=m5,m6:=m6,m7:=m7,m8:=m8,m9:=m9,m10:=m10,m11:=m11,m12:=m12,m13:=m13,m14:=m14,m15:=m15,m16:=m16,m17:=m17,m18:=m18,m19:=m19,m20:=m20,m21:=m21}).m8, .int .i64 (selL f (12:Nat) (0:Nat) {m0:=m0,m1:=m1,m2:=m2,m3:=m3,m4:=m4,m5:=m5,m6:=m6,m7:=m7,m8:=m8,m9:=m9,m10:=m10,m11:=m11,m12:=m12,m13:=m13,m14:=m14,m15:=m15,m16:=m16,m17:=m17,m18:=m18,m19:=m19,m20:=m20,m21:=m21}).m9, .int .i64 (selL f (12:Nat) (0:Nat) {m0:=m0,m1:=m1,m2:=m2,m3:=m3,m4:=m4,m5:=m5,m6:=m6,m7:=m7,m8:=m8,m9:=m9,m10:=m10,m11:=m11,m12:=m12,m13:=m13,m14:=m14,m15:=m15,m16:=m16,m17:=m17,m18:=m18,m19:=m19,m20:=m20,m21:=m21}).m10, .int .i64 (selL f (12:Nat) (0:Nat) {m0:=m0,m1:=m1,m2:=m2,m3:=m3,m4:=m4,m5:=m5,m6:=m6,m7:=m7,m8:=m8,m9:=m9,m10:=m10,m11:=m11,m12:=m12,m13:=m13,m14:=m14,m15:=m15,m16:=m16,m17:=m17,m18:=m18,m19:=m19,m20:=m20,m21:=m21}).m11, .int .i64 (optD (f (22:Int))), .bool (selL f (12:Nat) (0:Nat) {m0:=m0,m1:=m1,m2:=m2,m3:=m3,m4:=m4,m5:=m5,m6:=m6,m7:=m7,m8:=m8,m9:=m9,m10:=m10,m11:=m11,m12:=m12,m13:=m13,m14:=m14,m15:=m15,m16:=m16,m17:=m17,m18:=m18,m19:=m19,m20:=m20,m21:=m21}).m13, .bool (selL f (12:Nat) (0:Nat) {m0:=m0,m1:=m1,m2:=m2,m3:=m3,m4:=m4,m5:=m5,m6:=m6,m7:=m7,m8:=m8,m9:=m9,m10:=m10,m11:=m11,m12:=m12,m13:=m13,m14:=m14,m15:=m15,m16:=m16,m17:=m17,m18:=m18,m19:=m19,m20:=m20,m21:=m21}).m14, .int .i64 (selL f (12:Nat) (0:Nat) {m0:=m0,m1:=m1,m2:=m2,m3:=m3,m4:=m4,m5:=m5,m6:=m6,m7:=m7,m8:=m8,m9:=m9,m10:=m10,m11:=m11,m12:=m12,m13:=m13,m14:=m14,m15:=m15,m16:=m16,m17:=m17,m18:=m18,m19:=m19,m20:=m20,m21:=m21}).m15, .int .i64 (selL f (12:Nat) (0:Nat) {m0:=m0,m1:=m1,m2:=m2,m3:=m3,m4:=m4,m5:=m5,m6:=m6,m7:=m7,m8:=m8,m9:=m9,m10:=m10,m11:=m11,m12:=m12,m13:=m13,m14:=m14,m15:=m15,m16:=m16,m17:=m17,m18:=m18,m19:=m19,m20:=m20,m21:=m21}).m16, .int .i64 (selL f (12:Nat) (0:Nat) {m0:=m0,m1:=m1,m2:=m2,m3:=m3,m4:=m4,m5:=m5,m6:=m6,m7:=m7,m8:=m8,m9:=m9,m10:=m10,m11:=m11,m12:=m12,m13:=m13,m14:=m14,m15:=m15,m16:=m16,m17:=m17,m18:=m18,m19:=m19,m20:=m20,m21:=m21}).m17, .int .i64 (selL f (12:Nat) (0:Nat) {m0:=m0,m1:=m1,m2:=m2,m3:=m3,m4:=m4,m5:=m5,m6:=m6,m7:=m7,m8:=m8,m9:=m9,m10:=m10,m11:=m11,m12:=m12,m13:=m13,m14:=m14,m15:=m15,m16:=m16,m17:=m17,m18:=m18,m19:=m19,m20:=m20,m21:=m21}).m18, .int .i64 (selL f (12:Nat) (0:Nat) {m0:=m0,m1:=m1,m2:=m2,m3:=m3,m4:=m4,m5:=m5,m6:=m6,m7:=m7,m8:=m8,m9:=m9,m10:=m10,m11:=m11,m12:=m12,m13:=m13,m14:=m14,m15:=m15,m16:=m16,m17:=m17,m18:=m18,m19:=m19,m20:=m20,m21:=m21}).m19, .int .i64 0, .int .i64 0],[.mpb f]],news:=[]})/\((optD (f (6:Int))==40)=false->Q {val:= .tup [],own:=false,pars:=[[.int .i64 (selL f (12:Nat) (0:Nat) {m0:=m0,m1:=m1,m2:=m2,m3:=m3,m4:=m4,m5:=m5,m6:=m6,m7:=m7,m8:=m8,m9:=m9,m10:=m10,m11:=m11,m12:=m12,m13:=m13,m14:=m14,m15:=m15,m16:=m16,m17:=m17,m18:=m18,m19:=m19,m20:=m20,m21:=m21}).m0, .int .i64 (selL f (12:Nat) (0:Nat) {m0:=m0,m1:=m1,m2:=m2,m3:=m3,m4:=m4,m5:=m5,m6:=m6,m7:=m7,m8:=m8,m9:=m9,m10:=m10,m11:=m11,m12:=m12,m13:=m13,m14:=m14,m15:=m15,m16:=m16,m17:=m17,m18:=m18,m19:=m19,m20:=m20,m21:=m21}).m1, .int .i64 (selL f (12:Nat) (0:Nat) {m0:=m0,m1:=m1,m2:=m2,m3:=m3,m4:=m4,m5:=m5,m6:=m6,m7:=m7,m8:=m8,m9:=m9,m10:=m10,m11:=m11,m12:=m12,m13:=m13,m14:=m14,m15:=m15,m16:=m16,m17:=m17,m18:=m18,m19:=m19,m20:=m20,m21:=m21}).m2, .int .i64 (selL f (12:Nat) (0:Nat) {m0:=m0,m1:=m1,m2:=m2,m3:=m3,m4:=m4,m5:=m5,m6:=m6,m7:=m7,m8:=m8,m9:=m9,m10:=m10,m11:=m11,m12:=m12,m13:=m13,m14:=m14,m15:=m15,m16:=m16,m17:=m17,m18:=m18,m19:=m19,m20:=m20,m21:=m21}).m3, .int .i64 (selL f (12:Nat) (0:Nat) {m0:=m0,m1:=m1,m2:=m2,m3:=m3,m4:=m4,m5:=m5,m6:=m6,m7:=m7,m8:=m8,m9:=m9,m10:=m10,m11:=m11,m12:=m12,m13:=m13,m14:=m14,m15:=m15,m16:=m16,m17:=m17,m18:=m18,m19:=m19,m20:=m20,m21:=m21}).m4, .int .i64 (selL f (12:Nat) (0:Nat) {m0:=m0,m1:=m1,m2:=m2,m3:=m3,m4:=m4,m5:=m5,m6:=m6,m7:=m7,m8:=m8,m9:=m9,m10:=m10,m11:=m11,m12:=m12,m13:=m13,m14:=m14,m15:=m15,m16:=m16,m17:=m17,m18:=m18,m19:=m19,m20:=m20,m21:=m21}).m5, .int .i64 (selL f (12:Nat) (0:Nat) {m0:=m0,m1:=m1,m2:=m2,m3:=m3,m4:=m4,m5:=m5,m6:=m6,m7:=m7,m8:=m8,m9:=m9,m10:=m10,m11:=m11,m12:=m12,m13:=m13,m14:=m14,m15:=m15,m16:=m16,m17:=m17,m18:=m18,m19:=m19,m20:=m20,m21:=m21}).m6, .int .i64 (selL f (12:Nat) (0:Nat) {m0:=m0,m1:=m1,m2:=m2,m3:=m3,m4:=m4,m5:=m5,m6:=m6,m7:=m7,m8:=m8,m9:=m9,m10:=m10,m11:=m11,m12:=m12,m13:=m13,m14:=m14,m15:=m15,m16:=m16,m17:=m17,m18:=m18,m19:=m19,m20:=m20,m21:=m21}).m7, .int .i64 (selL f (12:Nat) (0:Nat) {m0:=m0,m1:=m1,m2:=m2,m3:=m3,m4:=m4,m5:=m5,m6:=m6,m7:=m7,m8:=m8,m9:=m9,m10:=m10,m11:=m11,m12:=m12,m13:=m13,m14:=m14,m15:=m15,m16:=m16,m17:=m17,m18:=m18,m19:=m19,m20:=m20,m21:=m21}).m8, .int .i64 (selL f (12:Nat) (0:Nat) {m0:=m0,m1:=m1,m2:=m2,m3:=m3,m4:=m4,m5:=m5,m6:=m6,m7:=m7,m8:=m8,m9:=m9,m10:=m10,m11:=m11,m12:=m12,m13:=m13,m14:=m14,m15:=m15,m16:=m16,m17:=m17,m18:=m18,m19:=m19,m20:=m20,m21:=m21}).m9, .int .i64 (selL f (12:Nat) (0:Nat) {m0:=m0,m1:=m1,m2:=m2,m3:=m3,m4:=m4,m5:=m5,m6:=m6,m7:=m7,m8:=m8,m9:=m9,m10:=m10,m11:=m11,m12:=m12,m13:=m13,m14:=m14,m15:=m15,m16:=m16,m17:=m17,m18:=m18,m19:=m19,m20:=m20,m21:=m21}).m10, .int .i64 (selL f (12:Nat) (0:Nat) {m0:=m0,m1:=m1,m2:=m2,m3:=m3,m4:=m4,m5:=m5,m6:=m6,m7:=m7,m8:=m8,m9:=m9,m10:=m10,m11:=m11,m12:=m12,m13:=m13,m14:=m14,m15:=m15,m16:=m16,m17:=m17,m18:=m18,m19:=m19,m20:=m20,m21:=m21}).m11, .int .i64 (optD (f (22:Int))), .bool (selL f (12:Nat) (0:Nat) {m0:=m0,m1:=m1,m2:=m2,m3:=m3,m4:=m4,m5:=m5,m6:=m6,m7:=m7,m8:=m8,m9:=m9,m10:=m10,m11:=m11,m12:=m12,m13:=m13,m14:=m14,m15:=m15,m16:=m16,m17:=m17,m18:=m18,m19:=m19,m20:=m20,m21:=m21}).m13, .bool (selL f (12:Nat) (0:Nat) {m0:=m0,m1:=m1,m2:=m2,m3:=m3,m4:=m4,m5:=m5,m6:=m6,m7:=m7,m8:=m8,m9:=m9,m10:=m10,m11:=m11,m12:=m12,m13:=m13,m14:=m14,m15:=m15,m16:=m16,m17:=m17,m18:=m18,m19:=m19,m20:=m20,m21:=m21}).m14, .int .i64 (selL f (12:Nat) (0:Nat) {m0:=m0,m1:=m1,m2:=m2,m3:=m3,m4:=m4,m5:=m5,m6:=m6,m7:=m7,m8:=m8,m9:=m9,m10:=m10,m11:=m11,m12:=m12,m13:=m13,m14:=m14,m15:=m15,m16:=m16,m17:=m17,m18:=m18,m19:=m19,m20:=m20,m21:=m21}).m15, .int .i64 (selL f (12:Nat) (0:Nat) {m0:=m0,m1:=m1,m2:=m2,m3:=m3,m4:=m4,m5:=m5,m6:=m6,m7:=m7,m8:=m8,m9:=m9,m10:=m10,m11:=m11,m12:=m12,m13:=m13,m14:=m14,m15:=m15,m16:=m16,m17:=m17,m18:=m18,m19:=m19,m20:=m20,m21:=m21}).m16, .int .i64 (selL f (12:Nat) (0:Nat) {m0:=m0,m1:=m1,m2:=m2,m3:=m3,m4:=m4,m5:=m5,m6:=m6,m7:=m7,m8:=m8,m9:=m9,m10:=m10,m11:=m11,m12:=m12,m13:=m13,m14:=m14,m15:=m15,m16:=m16,m17:=m17,m18:=m18,m19:=m19,m20:=m20,m21:=m21}).m17, .int .i64 (selL f (12:Nat) (0:Nat) {m0:=m0,m1:=m1,m2:=m2,m3:=m3,m4:=m4,m5:=m5,m6:=m6,m7:=m7,m8:=m8,m9:=m9,m10:=m10,m11:=m11,m12:=m12,m13:=m13,m14:=m14,m15:=m15,m16:=m16,m17:=m17,m18:=m18,m19:=m19,m20:=m20,m21:=m21}).m18, .int .i64 (selL f (12:Nat) (0:Nat) {m0:=m0,m1:=m1,m2:=m2,m3:=m3,m4:=m4,m5:=m5,m6:=m6,m7:=m7,m8:=m8,m9:=m9,m10:=m10,m11:=m11,m12:=m12,m13:=m13,m14:=m14,m15:=m15,m16:=m16,m17:=m17,m18:=m18,m19:=m19,m20:=m20,m21:=m21}).m19, .int .i64 0, .int .i64 (selL f (12:Nat) (0:Nat) {m0:=m0,m1:=m1,m2:=m2,m3:=m3,m4:=m4,m5:=m5,m6:=m6,m7:=m7,m8:=m8,m9:=m9,m10:=m10,m11:=m11,m12:=m12,m13:=m13,m14:=m14,m15:=m15,m16:=m16,m17:=m17,m18:=m18,m19:=m19,m20:=m20,m21:=m21}).m21],[.mpb f]],news:=[]}))/\((optD (f (7:Int))==49)=false->((optD (f (6:Int))==40)=true->Q {val:= .tup [],own:=false,pars:=[[.int .i64 (selL f (12:Nat) (0:Nat) {m0:=m0,m1:=m1,m2:=m2,m3:=m3,m4:=m4,m5:=m5,m6:=m6,m7:=m7,m8:=m8,m9:=m9,m10:=m10,m11:=m11,m12:=m12,m13:=m13,m14:=m14,m15:=m15,m16:=m16,m17:=m17,m18:=m18,m19:=m19,m20:=m20,m21:=m21}).m0, .int .i64 (selL f (12:Nat) (0:Nat) {m0:=m0,m1:=m1,m2:=m2,m3:=m3,m4:=m4,m5:=m5,m6:=m6,m7:=m7,m8:=m8,m9:=m9,m10:=m10,m11:=m11,m12:=m12,m13:=m13,m14:=m14,m15:=m15,m16:=m16,m17:=m17,m18:=m18,m19:=m19,m20:=m20,m21:=m21}).m1, .int .i64 (selL f (12:Nat) (0:Nat) {m0:=m0,m1:=m1,m2:=m2,m3:=m3,m4:=m4,m5:=m5,m6:=m6,m7:=m7,m8:=m8,m9:=m9,m10:=m10,m11:=m11,m12:=m12,m13:=m13,m14:=m14,m15:=m15,m16:=m16,m17:=m17,m18:=m18,m19:=m19,m20:=m20,m21:=m21}).m2, .int .i64 (selL f (12:Nat) (0:Nat) {m0:=m0,m1:=m1,m2:=m2,m3:=m3,m4:=m4,m5:=m5,m6:=m6,m7:=m7,m8:=m8,m9:=m9,m10:=m10,m11:=m11,m12:=m12,m13:=m13,m14:=m14,m15:=m15,m16:=m16,m17:=m17,m18:=m18,m19:=m19,m20:=m20,m21:=m21}).m3, .int .i64 (selL f (12:Nat) (0:Nat) {m0:=m0,m1:=m1,m2:=m2,m3:=m3,m4:=m4,m5:=m5,m6:=m6,m7:=m7,m8:=m8,m9:=m9,m10:=m10,m11:=m11,m12:=m12,m13:=m13,m14:=m14,m15:=m15,m16:=m16,m17:=m17,m18:=m18,m19:=m19,m20:=m20,m21:=m21}).m4, .int .i64 (selL f (12:Nat) (0:Nat) {m0:=m0,m1:=m1,m2:=m2,m3:=m3,m4:=m4,m5:=m5,m6:=m6,m7:=m7,m8:=m8,m9:=m9,m10:=m10,m11:=m11,m12:=m12,m13:=m13,m14:=m14,m15:=m15,m16:=m16,m17:=m17,m18:=m18,m19:=m19,m20:=m20,m21:=m21}).m5, .int .i64 (selL f (12:Nat) (0:Nat) {m0:=m0,m1:=m1,m2:=m2,m3:=m3,m4:=m4,m5:=m5,m6:=m6,m7:=m7,m8:=m8,m9:=m9,m10:=m10,m11:=m11,m12:=m12,m13:=m13,m14:=m14,m15:=m15,m16:=m16,m17:=m17,m18:=m18,m19:=m19,m20:=m20,m21:=m21}).m6, .int .i64 (selL f (12:Nat) (0:Nat) {m0:=m0,m1:=m1,m2:=m2,m3:=m3,m4:=m4,m5:=m5,m6:=m6,m7:=m7,m8:=m8,m9:=m9,m10:=m10,m11:=m11,m12:=m12,m13:=m13,m14:=m14,m15:=m15,m16:=m16,m17:=m17,m18:=m18,m19:=m19,m20:=m20,m21:=m21}).m7, .int .i64 (selL f (12:Nat) (0:Nat) {m0:=m0,m1:=m1,m2:=m2,m3:=m3,m4:=m4,m5:=m5,m6:=m6,m7:=m7,m8:=m8,m9:=m9,m10:=m10,m11:=m11,m12:=m12,m13:=m13,m14:=m14,m15:=m15,m16:=m16,m17:=m17,m18:=m18,m19:=m19,m20:=m20,m21:=m21}).m8, .int .i64 (selL f (12:Nat) (0:Nat) {m0:=m0,m1:=m1,m2:=m2,m3:=m3,m4:=m4,m5:=m5,m6:=m6,m7:=m7,m8:=m8,m9:=m9,m10:=m10,m11:=m11,m12:=m12,m13:=m13,m14:=m14,m15:=m15,m16:=m16,m17:=m17,m18:=m18,m19:=m19,m20:=m20,m21:=m21}).m9, .int .i64 (selL f (12:Nat) (0:Nat) {m0:=m0,m1:=m1,m2:=m2,m3:=m3,m4:=m4,m5:=m5,m6:=m6,m7:=m7,m8:=m8,m9:=m9,m10:=m10,m11:=m11,m12:=m12,m13:=m13,m14:=m14,m15:=m15,m16:=m16,m17:=m17,m18:=m18,m19:=m19,m20:=m20,m21:=m21}).m10, .int .i64 (selL f (12:Nat) (0:Nat) {m0:=m0,m1:=m1,m2:=m2,m3:=m3,m4:=m4,m5:=m5,m6:=m6,m7:=m7,m8:=m8,m9:=m9,m10:=m10,m11:=m11,m12:=m12,m13:=m13,m14:=m14,m15:=m15,m16:=m16,m17:=m17,m18:=m18,m19:=m19,m20:=m20,m21:=m21}).m11, .int .i64 (optD (f (22:Int))), .bool (selL f (12:Nat) (0:Nat) {m0:=m0,m1:=m1,m2:=m2,m3:=m3,m4:=m4,m5:=m5,m6:=m6,m7:=m7,m8:=m8,m9:=m9,m10:=m10,m11:=m11,m12:=m12,m13:=m13,m14:=m14,m15:=m15,m16:=m16,m17:=m17,m18:=m18,m19:=m19,m20:=m20,m21:=m21}).m13, .bool (selL f (12:Nat) (0:Nat) {m0:=m0,m1:=m1,m2:=m2,m3:=m3,m4:=m4,m5:=m5,m6:=m6,m7:=m7,m8:=m8,m9:=m9,m10:=m10,m11:=m11,m12:=m12,m13:=m13,m14:=m14,m15:=m15,m16:=m16,m17:=m17,m18:=m18,m19:=m19,m20:=m20,m21:=m21}).m14, .int .i64 (selL f (12:Nat) (0:Nat) {m0:=m0,m1:=m1,m2:=m2,m3:=m3,m4:=m4,m5:=m5,m6:=m6,m7:=m7,m8:=m8,m9:=m9,m10:=m10,m11:=m11,m12:=m12,m13:=m13,m14:=m14,m15:=m15,m16:=m16,m17:=m17,m18:=m18,m19:=m19,m20:=m20,m21:=m21}).m15, .int .i64 (selL f (12:Nat) (0:Nat) {m0:=m0,m1:=m1,m2:=m2,m3:=m3,m4:=m4,m5:=m5,m6:=m6,m7:=m7,m8:=m8,m9:=m9,m10:=m10,m11:=m11,m12:=m12,m13:=m13,m14:=m14,m15:=m15,m16:=m16,m17:=m17,m18:=m18,m19:=m19,m20:=m20,m21:=m21}).m16, .int .i64 (selL f (12:Nat) (0:Nat) {m0:=m0,m1:=m1,m2:=m2,m3:=m3,m4:=m4,m5:=m5,m6:=m6,m7:=m7,m8:=m8,m9:=m9,m10:=m10,m11:=m11,m12:=m12,m13:=m13,m14:=m14,m15:=m15,m16:=m16,m17:=m17,m18:=m18,m19:=m19,m20:=m20,m21:=m21}).m17, .int .i64 (selL f (12:Nat) (0:Nat) {m0:=m0,m1:=m1,m2:=m2,m3:=m3,m4:=m4,m5:=m5,m6:=m6,m7:=m7,m8:=m8,m9:=m9,m10:=m10,m11:=m11,m12:=m12,m13:=m13,m14:=m14,m15:=m15,m16:=m16,m17:=m17,m18:=m18,m19:=m19,m20:=m20,m21:=m21}).m18, .int .i64 (selL f (12:Nat) (0:Nat) {m0:=m0,m1:=m1,m2:=m2,m3:=m3,m4:=m4,m5:=m5,m6:=m6,m7:=m7,m8:=m8,m9:=m9,m10:=m10,m11:=m11,m12:=m12,m13:=m13,m14:=m14,m15:=m15,m16:=m16,m17:=m17,m18:=m18,m19:=m19,m20:=m20,m21:=m21}).m19, .int .i64 (selL f (12:Nat) (0:Nat) {m0:=m0,m1:=m1,m2:=m2,m3:=m3,m4:=m4,m5:=m5,m6:=m6,m7:=m7,m8:=m8,m9:=m9,m10:=m10,m11:=m11,m12:=m12,m13:=m13,m14:=m14,m15:=m15,m16:=m16,m17:=m17,m18:=m18,m19:=m19,m20:=m20,m21:=m21}).m20, .int .i64 0],[.mpb f]],news:=[]})/\((optD (f (6:Int))==40)=false->Q {val:= .tup [],own:=false,pars:=[[.int .i64 (selL f (12:Nat) (0:Nat) {m0:=m0,m1:=m1,m2:=m2,m3:=m3,m4:=m4,m5:=m5,m6:=m6,m7:=m7,m8:=m8,m9:=m9,m10:=m10,m11:=m11,m12:=m12,m13:=m13,m14:=m14,m15:=m15,m16:=m16,m17:=m17,m18:=m18,m19:=m19,m20:=m20,m21:=m21}).m0, .int .i64 (selL f (12:Nat) (0:Nat) {m0:=m0,m1:=m1,m2:=m2,m3:=m3,m4:=m4,m5:=m5,m6:=m6,m7:=m7,m8:=m8,m9:=m9,m10:=m10,m11:=m11,m12:=m12,m13:=m13,m14:=m14,m15:=m15,m16:=m16,m17:=m17,m18:=m18,m19:=m19,m20:=m20,m21:=m21}).m1, .int .i64 (selL f (12:Nat) (0:Nat) {m0:=m0,m1:=m1,m2:=m2,m3:=m3,m4:=m4,m5:=m5,m6:=m6,m7:=m7,m8:=m8,m9:=m9,m10:=m10,m11:=m11,m12:=m12,m13:=m13,m14:=m14,m15:=m15,m16:=m16,m17:=m17,m18:=m18,m19:=m19,m20:=m20,m21:=m21}).m2, .int .i64 (selL f (12:Nat) (0:Nat) {m0:=m0,m1:=m1,m2:=m2,m3:=m3,m4:=m4,m5:=m5,m6:=m6,m7:=m7,m8:=m8,m9:=m9,m10:=m10,m11:=m11,m12:=m12,m13:=m13,m14:=m14,m15:=m15,m16:=m16,m17:=m17,m18:=m18,m19:=m19,m20:=m20,m21:=m21}).m3, .int .i64 (selL f (12:Nat) (0:Nat) {m0:=m0,m1:=m1,m2:=m2,m3:=m3,m4:=m4,m5:=m5,m6:=m6,m7:=m7,m8:=m8,m9:=m9,m10:=m10,m11:=m11,m12:=m12,m13:=m13,m14:=m14,m15:=m15,m16:=m16,m17:=m17,m18:=m18,m19:=m19,m20:=m20,m21:=m21}).m4, .int .i64 (selL f (12:Nat) (0:Nat) {m0:=m0,m1:=m1,m2:=m2,m3:=m3,m4:=m4,m5:=m5,m6:=m6,m7:=m7,m8:=m8,m9:=m9,m10:=m10,m11:=m11,m12:=m12,m13:=m13,m14:=m14,m15:=m15,m16:=m16,m17:=m17,m18:=m18,m19:=m19,m20:=m20,m21:=m21}).m5, .int .i64 (selL f (12:Nat) (0:Nat) {m0:=m0,m1:=m1,m2:=m2,m3:=m3,m4:=m4,m5:=m5,m6:=m6,m7:=m7,m8:=m8,m9:=m9,m10:=m10,m11:=m11,m12:=m12,m13:=m13,m14:=m14,m15:=m15,m16:=m16,m17:=m17,m18:=m18,m19:=m19,m20:=m20,m21:=m21}).m6, .int .i64 (selL f (12:Nat) (0:Nat) {m0:=m0,m1:=m1,m2:=m2,m3:=m3,m4:=m4,m5:=m5,m6:=m6,m7:=m7,m8:=m8,m9:=m9,m10:=m10,m11:=m11,m12:=m12,m13:=m13,m14:=m14,m15:=m15,m16:=m16,m17:=m17,m18:=m18,m19:=m19,m20:=m20,m21:=m21}).m7, .int .i64 (selL f (12:Nat) (0:Nat) {m0:=m0,m1:=m1,m2:=m2,m3:=m3,m4:=m4,m5:=m5,m6:=m6,m7:=m7,m8:=m8,m9:=m9,m10:=m10,m11:=m11,m12:=m12,m13:=m13,m14:=m14,m15:=m15,m16:=m16,m17:=m17,m18:=m18,m19:=m19,m20:=m20,m21:=m21}).m8, .int .i64 (selL f (12:Nat) (0:Nat) {m0:=m0,m1:=m1,m2:=m2,m3:=m3,m4:=m4,m5:=m5,m6:=m6,m7:=m7,m8:=m8,m9:=m9,m10:=m10,m11:=m11,m12:=m12,m13:=m13,m14:=m14,m15:=m15,m16:=m16,m17:=m17,m18:=m18,m19:=m19,m20:=m20,m21:=m21}).m9, .int .i64 (selL f (12:Nat) (0:Nat) {m0:=m0,m1:=m1,m2:=m2,m3:=m3,m4:=m4,m5:=m5,m6:=m6,m7:=m7,m8:=m8,m9:=m9,m10:=m10,m11:=m11,m12:=m12,m13:=m13,m14:=m14,m15:=m15,m16:=m16,m17:=m17,m18:=m18,m19:=m19,m20:=m20,m21:=m21}).m10, .int .i64 (selL f (12:Nat) (0:Nat) {m0:=m0,m1:=m1,m2:=m2,m3:=m3,m4:=m4,m5:=m5,m6:=m6,m7:=m7,m8:=m8,m9:=m9,m10:=m10,m11:=m11,m12:=m12,m13:=m13,m14:=m14,m15:=m15,m16:=m16,m17:=m17,m18:=m18,m19:=m19,m20:=m20,m21:=m21}).m11, .int .i64 (optD (f (22:Int))), .bool (selL f (12:Nat) (0:Nat) {m0:=m0,m1:=m1,m2:=m2,m3:=m3,m4:=m4,m5:=m5,m6:=m6,m7:=m7,m8:=m8,m9:=m9,m10:=m10,m11:=m11,m12:=m12,m13:=m13,m14:=m14,m15:=m15,m16:=m16,m17:=m17,m18:=m18,m19:=m19,m20:=m20,m21:=m21}).m13, .bool (selL f (12:Nat) (0:Nat) {m0:=m0,m1:=m1,m2:=m2,m3:=m3,m4:=m4,m5:=m5,m6:=m6,m7:=m7,m8:=m8,m9:=m9,m10:=m10,m11:=m11,m12:=m12,m13:=m13,m14:=m14,m15:=m15,m16:=m16,m17:=m17,m18:=m18,m19:=m19,m20:=m20,m21:=m21}).m14, .int .i64 (selL f (12:Nat) (0:Nat) {m0:=m0,m1:=m1,m2:=m2,m3:=m3,m4:=m4,m5:=m5,m6:=m6,m7:=m7,m8:=m8,m9:=m9,m10:=m10,m11:=m11,m12:=m12,m13:=m13,m14:=m14,m15:=m15,m16:=m16,m17:=m17,m18:=m18,m19:=m19,m20:=m20,m21:=m21}).m15, .int .i64 (selL f (12:Nat) (0:Nat) {m0:=m0,m1:=m1,m2:=m2,m3:=m3,m4:=m4,m5:=m5,m6:=m6,m7:=m7,m8:=m8,m9:=m9,m10:=m10,m11:=m11,m12:=m12,m13:=m13,m14:=m14,m15:=m15,m16:=m16,m17:=m17,m18:=m18,m19:=m19,m20:=m20,m21:=m21}).m16, .int .i64 (selL f (12:Nat) (0:Nat) {m0:=m0,m1:=m1,m2:=m2,m3:=m3,m4:=m4,m5:=m5,m6:=m6,m7:=m7,m8:=m8,m9:=m9,m10:=m10,m11:=m11,m12:=m12,m13:=m13,m14:=m14,m15:=m15,m16:=m16,m17:=m17,m18:=m18,m19:=m19,m20:=m20,m21:=m21}).m17, .int .i64 (selL f (12:Nat) (0:Nat) {m0:=m0,m1:=m1,m2:=m2,m3:=m3,m4:=m4,m5:=m5,m6:=m6,m7:=m7,m8:=m8,m9:=m9,m10:=m10,m11:=m11,m12:=m12,m13:=m13,m14:=m14,m15:=m15,m16:=m16,m17:=m17,m18:=m18,m19:=m19,m20:=m20,m21:=m21}).m18, .int .i64 (selL f (12:Nat) (0:Nat) {m0:=m0,m1:=m1,m2:=m2,m3:=m3,m4:=m4,m5:=m5,m6:=m6,m7:=m7,m8:=m8,m9:=m9,m10:=m10,m11:=m11,m12:=m12,m13:=m13,m14:=m14,m15:=m15,m16:=m16,m17:=m17,m18:=m18,m19:=m19,m20:=m20,m21:=m21}).m19, .int .i64 (selL f (12:Nat) (0:Nat) {m0:=m0,m1:=m1,m2:=m2,m3:=m3,m4:=m4,m5:=m5,m6:=m6,m7:=m7,m8:=m8,m9:=m9,m10:=m10,m11:=m11,m12:=m12,m13:=m13,m14:=m14,m15:=m15,m16:=m16,m17:=m17,m18:=m18,m19:=m19,m20:=m20,m21:=m21}).m20, .int .i64 (selL f (12:Nat) (0:Nat) {m0:=m0,m1:=m1,m2:=m2,m3:=m3,m4:=m4,m5:=m5,m6:=m6,m7:=m7,m8:=m8,m9:=m9,m10:=m10,m11:=m11,m12:=m12,m13:=m13,m14:=m14,m15:=m15,m16:=m16,m17:=m17,m18:=m18,m19:=m19,m20:=m20,m21:=m21}).m21],[.mpb f]],news:=[]})))/\(optB (f (22:Int))=false->((optD (f (7:Int))==49)=true->((optD (f (6:Int))==40)=true->Q {val:= .tup [],own:=false,pars:=[[.int .i64 (selL f (12:Nat) (0:Nat) {m0:=m0,m1:=m1,m2:=m2,m3:=m3,m4:=m4,m5:=m5,m6:=m6,m7:=m7,m8:=m8,m9:=m9,m10:=m10,m11:=m11,m12:=m12,m13:=m13,m14:=m14,m15:=m15,m16:=m16,m17:=m17,m18:=m18,m19:=m19,m20:=m20,m21:=m21}).m0, .int .i64 (selL f (12:Nat) (0:Nat) {m0:=m0,m1:=m1,m2:=m2,m3:=m3,m4:=m4,m5:=m5,m6:=m6,m7:=m7,m8:=m8,m9:=m9,m10:=m10,m11:=m11,m12:=m12,m13:=m13,m14:=m14,m15:=m15,m16:=m16,m17:=m17,m18:=m18,m19:=m19,m20:=m20,m21:=m21}).m1, .int .i64 (selL f (12:Nat) (0:Nat) {m0:=m0,m1:=m1,m2:=m2,m3:=m3,m4:=m4,m5:=m5,m6:=m6,m7:=m7,m8:=m8,m9:=m9,m10:=m10,m11:=m11,m12:=m12,m13:=m13,m14:=m14,m15:=m15,m16:=m16,m17:=m17,m18:=m18,m19:=m19,m20:=m20,m21:=m21}).m2, .int .i64 (selL f (12:Nat) (0:Nat) {m0:=m0,m1:=m1,m2:=m2,m3:=m3,m4:=m4,m5:=m5,m6:=m6,m7:=m7,m8:=m8,m9:=m9,m10:=m10,m11:=m11,m12:=m12,m13:=m13,m14:=m14,m15:=m15,m16:=m16,m17:=m17,m18:=m18,m19:=m19,m20:=m20,m21:=m21}).m3, .int .i64 (selL f (12:Nat) (0:Nat) {m0:=m0,m1:=m1,m2:=m2,m3:=m3,m4:=m4,m5:=m5,m6:=m6,m7:=m7,m8:=m8,m9:=m9,m10:=m10,m11:=m11,m12:=m12,m13:=m13,m14:=m14,m15:=m15,m16:=m16,m17:=m17,m18:=m18,m19:=m19,m20:=m20,m21:=m21}).m4, .int .i64 (selL f (12:Nat) (0:Nat) {m0:=m0,m1:=m1,m2:=m2,m3:=m3,m4:=m4,m5:=m5,m6:=m6,m7:=m7,m8:=m8,m9:=m9,m10:=m10,m11:=m11,m12:=m12,m13:=m13,m14:=m14,m15:=m15,m16:=m16,m17:=m17,m18:=m18,m19:=m19,m20:=m20,m21:=m21}).m5, .int .i64 (selL f (12:Nat) (0:Nat) {m0:=m0,m1:=m1,m2:=m2,m3:=m3,m4:=m4,m5:=m5,m6:=m6,m7:=m7,m8:=m8,m9:=m9,m10:=m10,m11:=m11,m12:=m12,m13:=m13,m14:=m14,m15:=m15,m16:=m16,m17:=m17,m18:=m18,m19:=m19,m20:=m20,m21:=m21}).m6, .int .i64 (selL f (12:Nat) (0:Nat) {m0:=m0,m1:=m1,m2:=m2,m3:=m3,m4:=m4,m5:=m5,m6:=m6,m7:=m7,m8:=m8,m9:=m9,m10:=m10,m11:=m11,m12:=m12,m13:=m13,m14:=m14,m15:=m15,m16:=m16,m17:=m17,m18:=m18,m19:=m19,m20:=m20,m21:=m21}).m7, .int .i64 (selL f (12:Nat) (0:Nat) {m0:=m0,m1:=m1,m2:=m2,m3:=m3,m4:=m4,m5:=m5,m6:=m6,m7:=m7,m8:=m8,m9:=m9,m10:=m10,m11:=m11,m12:=m12,m13:=m13,m14:=m14,m15:=m15,m16:=m16,m17:=m17,m18:=m18,m19:=m19,m20:=m20,m21:=m21}).m8, .int .i64 (selL f (12:Nat) (0:Nat) {m0:=m0,m1:=m1,m2:=m2,m3:=m3,m4:=m4,m5:=m5,m6:=m6,m7:=m7,m8:=m8,m9:=m9,m10:=m10,m11:=m11,m12:=m12,m13:=m13,m14:=m14,m15:=m15,m16:=m16,m17:=m17,m18:=m18,m19:=m19,m20:=m20,m21:=m21}).m9, .int .i64 (selL f (12:Nat) (0:Nat) {m0:=m0,m1:=m1,m2:=m2,m3:=m3,m4:=m4,m5:=m5,m6:=m6,m7:=m7,m8:=m8,m9:=m9,m10:=m10,m11:=m11,m12:=m12,m13:=m13,m14:=m14,m15:=m15,m16:=m16,m17:=m17,m18:=m18,m19:=m19,m20:=m20,m21:=m21}).m10, .int .i64 (selL f (12:Nat) (0:Nat) {m0:=m0,m1:=m1,m2:=m2,m3:=m3,m4:=m4,m5:=m5,m6:=m6,m7:=m7,m8:=m8,m9:=m9,m10:=m10,m11:=m11,m12:=m12,m13:=m13,m14:=m14,m15:=m15,m16:=m16,m17:=m17,m18:=m18,m19:=m19,m20:=m20,m21:=m21}).m11, .int .i64 (selL f (12:Nat) (0:Nat) {m0:=m0,m1:=m1,m2:=m2,m3:=m3,m4:=m4,m5:=m5,m6:=m6,m7:=m7,m8:=m8,m9:=m9,m10:=m10,m11:=m11,m12:=m12,m13:=m13,m14:=m14,m15:=m15,m16:=m16,m17:=m17,m18:=m18,m19:=m19,m20:=m20,m21:=m21}).m12, .bool (selL f (12:Nat) (0:Nat) {m0:=m0,m1:=m1,m2:=m2,m3:=m3,m4:=m4,m5:=m5,m6:=m6,m7:=m7,m8:=m8,m9:=m9,m10:=m10,m11:=m11,m12:=m12,m13:=m13,m14:=m14,m15:=m15,m16:=m16,m17:=m17,m18:=m18,m19:=m19,m20:=m20,m21:=m21}).m13, .bool (selL f (12:Nat) (0:Nat) {m0:=m0,m1:=m1,m2:=m2,m3:=m3,m4:=m4,m5:=m5,m6:=m6,m7:=m7,m8:=m8,m9:=m9,m10:=m10,m11:=m11,m12:=m12,m13:=m13,m14:=m14,m15:=m15,m16:=m16,m17:=m17,m18:=m18,m19:=m19,m20:=m20,m21:=m21}).m14, .int .i64 (selL f (12:Nat) (0:Nat) {m0:=m0,m1:=m1,m2:=m2,m3:=m3,m4:=m4,m5:=m5,m6:=m6,m7:=m7,m8:=m8,m9:=m9,m10:=m10,m11:=m11,m12:=m12,m13:=m13,m14:=m14,m15:=m15,m16:=m16,m17:=m17,m18:=m18,m19:=m19,m20:=m20,m21:=m21}).m15, .int .i64 (selL f (12:Nat) (0:Nat) {m0:=m0,m1:=m1,m2:=m2,m3:=m3,m4:=m4,m5:=m5,m6:=m6,m7:=m7,m8:=m8,m9:=m9,m10:=m10,m11:=m11,m12:=m12,m13:=m13,m14:=m14,m15:=m15,m16:=m16,m17:=m17,m18:=m18,m19:=m19,m20:=m20,m21:=m21}).m16, .int .i64 (selL f (12:Nat) (0:Nat) {m0:=m0,m1:=m1,m2:=m2,m3:=m3,m4:=m4,m5:=m5,m6:=m6,m7:=m7,m8:=m8,m9:=m9,m10:=m10,m11:=m11,m12:=m12,m13:=m13,m14:=m14,m15:=m15,m16:=m16,m17:=m17,m18:=m18,m19:=m19,m20:=m20,m21:=m21}).m17, .int .i64 (selL f (12:Nat) (0:Nat) {m0:=m0,m1:=m1,m2:=m2,m3:=m3,m4:=m4,m5:=m5,m6:=m6,m7:=m7,m8:=m8,m9:=m9,m10:=m10,m11:=m11,m12:=m12,m13:=m13,m14:=m14,m15:=m15,m16:=m16,m17:=m17,m18:=m18,m19:=m19,m20:=m20,m21:=m21}).m18, .int .i64 (selL f (12:Nat) (0:Nat) {m0:=m0,m1:=m1,m2:=m2,m3:=m3,m4:=m4,m5:=m5,m6:=m6,m7:=m7,m8:=m8,m9:=m9,m10:=m10,m11:=m11,m12:=m12,m13:=m13,m14:=m14,m15:=m15,m16:=m16,m17:=m17,m18:=m18,m19:=m19,m20:=m20,m21:=m21}).m19, .int .i64 0, .int .i64 0],[.mpb f]],news:=[]})/\((optD (f (6:Int))==40)=false->Q {val:= .tup [],own:=false,pars:=[[.int .i64 (selL f (12:Nat) (0:Nat) {m0:=m0,m1:=m1,m2:=m2,m3:=m3,m4:=m4,m5:=m5,m6:=m6,m7:=m7,m8:=m8,m9:=m9,m10:=m10,m11:=m11,m12:=m12,m13:=m13,m14:=m14,m15:=m15,m16:=m16,m17:=m17,m18:=m18,m19:=m19,m20:=m20,m21:=m21}).m0, .int .i64 (selL f (12:Nat) (0:Nat) {m0:=m0,m1:=m1,m2:=m2,m3:=m3,m4:=m4,m5:=m5,m6:=m6,m7:=m7,m8:=m8,m9:=m9,m10:=m10,m11:=m11,m12:=m12,m13:=m13,m14:=m14,m15:=m15,m16:=m16,m17:=m17,m18:=m18,m19:=m19,m20:=m20,m21:=m21}).m1, .int .i64 (selL f (12:Nat) (0:Nat) {m0:=m0,m1:=m1,m2:=m2,m3:=m3,m4:=m4,m5:=m5,m6:=m6,m7:=m7,m8:=m8,m9:=m9,m10:=m10,m11:=m11,m12:=m12,m13:=m13,m14:=m14,m15:=m15,m16:=m16,m17:=m17,m18:=m18,m19:=m19,m20:=m20,m21:=m21}).m2, .int .i64 (selL f (12:Nat) (0:Nat) {m0:=m0,m1:=m1,m2:=m2,m3:=m3,m4:=m4,m5:=m5,m6:=m6,m7:=m7,m8:=m8,m9:=m9,m10:=m10,m11:=m11,m12:=m12,m13:=m13,m14:=m14,m15:=m15,m16:=m16,m17:=m17,m18:=m18,m19:=m19,m20:=m20,m21:=m21}).m3, .int .i64 (selL f (12:Nat) (0:Nat) {m0:=m0,m1:=m1,m2:=m2,m3:=m3,m4:=m4,m5:=m5,m6:=m6,m7:=m7,m8:=m8,m9:=m9,m10:=m10,m11:=m11,m12:=m12,m13:=m13,m14:=m14,m15:=m15,m16:=m16,m17:=m17,m18:=m18,m19:=m19,m20:=m20,m21:=m21}).m4, .int .i64 (selL f (12:Nat) (0:Nat) {m0:=m0,m1:=m1,m2:=m2,m3:=m3,m4:=m4,m5:=m5,m6:=m6,m7:=m7,m8:=m8,m9:=m9,m10:=m10,m11:=m11,m12:=m12,m13:=m13,m14:=m14,m15:=m15,m16:=m16,m17:=m17,m18:=m18,m19:=m19,m20:=m20,m21:=m21}).m5, .int .i64 (selL f (12:Nat) (0:Nat) {m0:=m0,m1:=m1,m2:=m2,m3:=m3,m4:=m4,m5:=m5,m6:=m6,m7:=m7,m8:=m8,m9:=m9,m10:=m10,m11:=m11,m12:=m12,m13:=m13,m14:=m14,m15:=m15,m16:=m16,m17:=m17,m18:=m18,m19:=m19,m20:=m20,m21:=m21}).m6, .int .i64 (selL f (12:Nat) (0:Nat) {m0:=m0,m1:=m1,m2:=m2,m3:=m3,m4:=m4,m5:=m5,m6:=m6,m7:=m7,m8:=m8,m9:=m9,m10:=m10,m11:=m11,m12:=m12,m13:=m13,m14:=m14,m15:=m15,m16:=m16,m17:=m17,m18:=m18,m19:=m19,m20:=m20,m21:=m21}).m7, .int .i64 (selL f (12:Nat) (0:Nat) {m0:=m0,m1:=m1,m2:=m2,m3:=m3,m4:=m4,m5:=m5,m6:=m6,m7:=m7,m8:=m8,m9:=m9,m10:=m10,m11:=m11,m12:=m12,m13:=m13,m14:=m14,m15:=m15,m16:=m16,m17:=m17,m18:=m18,m19:=m19,m20:=m20,m21:=m21}).m8, .int .i64 (selL f (12:Nat) (0:Nat) {m0:=m0,m1:=m1,m2:=m2,m3:=m3,m4:=m4,m5:=m5,m6:=m6,m7:=m7,m8:=m8,m9:=m9,m10:=m10,m11:=m11,m12:=m12,m13:=m13,m14:=m14,m15:=m15,m16:=m16,m17:=m17,m18:=m18,m19:=m19,m20:=m20,m21:=m21}).m9, .int .i64 (selL f (12:Nat) (0:Nat) {m0:=m0,m1:=m1,m2:=m2,m3:=m3,m4:=m4,m5:=m5,m6:=m6,m7:=m7,m8:=m8,m9:=m9,m10:=m10,m11:=m11,m12:=m12,m13:=m13,m14:=m14,m15:=m15,m16:=m16,m17:=m17,m18:=m18,m19:=m19,m20:=m20,m21:=m21}).m10, .int .i64 (selL f (12:Nat) (0:Nat) {m0:=m0,m1:=m1,m2:=m2,m3:=m3,m4:=m4,m5:=m5,m6:=m6,m7:=m7,m8:=m8,m9:=m9,m10:=m10,m11:=m11,m12:=m12,m13:=m13,m14:=m14,m15:=m15,m16:=m16,m17:=m17,m18:=m18,m19:=m19,m20:=m20,m21:=m21}).m11, .int .i64 (selL f (12:Nat) (0:Nat) {m0:=m0,m1:=m1,m2:=m2,m3:=m3,m4:=m4,m5:=m5,m6:=m6,m7:=m7,m8:=m8,m9:=m9,m10:=m10,m11:=m11,m12:=m12,m13:=m13,m14:=m14,m15:=m15,m16:=m16,m17:=m17,m18:=m18,m19:=m19,m20:=m20,m21:=m21}).m12, .bool (selL f (12:Nat) (0:Nat) {m0:=m0,m1:=m1,m2:=m2,m3:=m3,m4:=m4,m5:=m5,m6:=m6,m7:=m7,m8:=m8,m9:=m9,m10:=m10,m11:=m11,m12:=m12,m13:=m13,m14:=m14,m15:=m15,m16:=m16,m17:=m17,m18:=m18,m19:=m19,m20:=m20,m21:=m21}).m13, .bool (selL f (12:Nat) (0:Nat) {m0:=m0,m1:=m1,m2:=m2,m3:=m3,m4:=m4,m5:=m5,m6:=m6,m7:=m7,m8:=m8,m9:=m9,m10:=m10,m11:=m11,m12:=m12,m13:=m13,m14:=m14,m15:=m15,m16:=m16,m17:=m17,m18:=m18,m19:=m19,m20:=m20,m21:=m21}).m14, .int .i64 (selL f (12:Nat) (0:Nat) {m0:=m0,m1:=m1,m2:=m2,m3:=m3,m4:=m4,m5:=m5,m6:=m6,m7:=m7,m8:=m8,m9:=m9,m10:=m10,m11:=m11,m12:=m12,m13:=m13,m14:=m14,m15:=m15,m16:=m16,m17:=m17,m18:=m18,m19:=m19,m20:=m20,m21:=m21}).m15, .int .i64 (selL f (12:Nat) (0:Nat) {m0:=m0,m1:=m1,m2:=m2,m3:=m3,m4:=m4,m5:=m5,m6:=m6,m7:=m7,m8:=m8,m9:=m9,m10:=m10,m11:=m11,m12:=m12,m13:=m13,m14:=m14,m15:=m15,m16:=m16,m17:=m17,m18:=m18,m19:=m19,m20:=m20,m21:=m21}).m16, .int .i64 (selL f (12:Nat) (0:Nat) {m0:=m0,m1:=m1,m2:=m2,m3:=m3,m4:=m4,m5:=m5,m6:=m6,m7:=m7,m8:=m8,m9:=m9,m10:=m10,m11:=m11,m12:=m12,m13:=m13,m14:=m14,m15:=m15,m16:=m16,m17:=m17,m18:=m18,m19:=m19,m20:=m20,m21:=m21}).m17, .int .i64 (selL f (12:Nat) (0:Nat) {m0:=m0,m1:=m1,m2:=m2,m3:=m3,m4:=m4,m5:=m5,m6:=m6,m7:=m7,m8:=m8,m9:=m9,m10:=m10,m11:=m11,m12:=m12,m13:=m13,m14:=m14,m15:=m15,m16:=m16,m17:=m17,m18:=m18,m19:=m19,m20:=m20,m21:=m21}).m18, .int .i64 (selL f (12:Nat) (0:Nat) {m0:=m0,m1:=m1,m2:=m2,m3:=m3,m4:=m4,m5:=m5,m6:=m6,m7:=m7,m8:=m8,m9:=m9,m10:=m10,m11:=m11,m12:=m12,m13:=m13,m14:=m14,m15:=m15,m16:=m16,m17:=m17,m18:=m18,m19:=m19,m20:=m20,m21:=m21}).m19, .int .i64 0, .int .i64 (selL f (12:Nat) (0:Nat) {m0:=m0,m1:=m1,m2:=m2,m3:=m3,m4:=m4,m5:=m5,m6:=m6,m7:=m7,m8:=m8,m9:=m9,m10:=m10,m11:=m11,m12:=m12,m13:=m13,m14:=m14,m15:=m15,m16:=m16,m17:=m17,m18:=m18,m19:=m19,m20:=m20,m21:=m21}).m21],[.mpb f]],news:=[]}))/\((optD (f (7:Int))==49)=false->((optD (f (6:Int))==40)=true->Q {val:= .tup [],own:=false,pars:=[[.int .i64 (selL f (12:Nat) (0:Nat) {m0:=m0,m1:=m1,m2:=m2,m3:=m3,m4:=m4,m5:=m5,m6:=m6,m7:=m7,m8:=m8,m9:=m9,m10:=m10,m11:=m11,m12:=m12,m13:=m13,m14:=m14,m15:=m15,m16:=m16,m17:=m17,m18:=m18,m19:=m19,m20:=m20,m21:=m21}).m0, .int .i64 (selL f (12:Nat) (0:Nat) {m0:=m0,m1:=m1,m2:=m2,m3:=m3,m4:=m4,m5:=m5,m6:=m6,m7:=m7,m8:=m8,m9:=m9,m10:=m10,m11:=m11,m12:=m12,m13:=m13,m14:=m14,m15:=m15,m16:=m16,m17:=m17,m18:=m18,m19:=m19,m20:=m20,m21:=m21}).m1, .int .i64 (selL f (12:Nat) (0:Nat) {m0:=m0,m1:=m1,m2:=m2,m3:=m3,m4:=m4,m5:=m5,m6:=m6,m7:=m7,m8:=m8,m9:=m9,m10:=m10,m11:=m11,m12:=m12,m13:=m13,m14:=m14,m15:=m15,m16:=m16,m17:=m17,m18:=m18,m19:=m19,m20:=m20,m21:=m21}).m2, .int .i64 (selL f (12:Nat) (0:Nat) {m0:=m0,m1:=m1,m2:=m2,m3:=m3,m4:=m4,m5:=m5,m6:=m6,m7:=m7,m8:=m8,m9:=m9,m10:=m10,m11:=m11,m12:=m12,m13:=m13,m14:=m14,m15:=m15,m16:=m16,m17:=m17,m18:=m18,m19:=m19,m20:=m20,m21:=m21}).m3, .int .i64 (selL f (12:Nat) (0:Nat) {m0:=m0,m1:=m1,m2:=m2,m3:=m3,m4:=m4,m5:=m5,m6:=m6,m7:=m7,m8:=m8,m9:=m9,m10:=m10,m11:=m11,m12:=m12,m13:=m13,m14:=m14,m15:=m15,m16:=m16,m17:=m17,m18:=m18,m19:=m19,m20:=m20,m21:=m21}).m4, .int .i64 (selL f (12:Nat) (0:Nat) {m0:=m0,m1:=m1,m2:=m2,m3:=m3,m4:=m4,m5:=m5,m6:=m6,m7:=m7,m8:=m8,m9:=m9,m10:=m10,m11:=m11,m12:=m12,m13:=m13,m14:=m14,m15:=m15,m16:=m16,m17:=m17,m18:=m18,m19:=m19,m20:=m20,m21:=m21}).m5, .int .i64 (selL f (12:Nat) (0:Nat) {m0:=m0,m1:=m1,m2:=m2,m3:=m3,m4:=m4,m5:=m5,m6:=m6,m7:=m7,m8:=m8,m9:=m9,m10:=m10,m11:=m11,m12:=m12,m13:=m13,m14:=m14,m15:=m15,m16:=m16,m17:=m17,m18:=m18,m19:=m19,m20:=m20,m21:=m21}).m6, .int .i64 (selL f (12:Nat) (0:Nat) {m0:=m0,m1:=m1,m2:=m2,m3:=m3,m4:=m4,m5:=m5,m6:=m6,m7:=m7,m8:=m8,m9:=m9,m10:=m10,m11:=m11,m12:=m12,m13:=m13,m14:=m14,m15:=m15,m16:=m16,m17:=m17,m18:=m18,m19:=m19,m20:=m20,m21:=m21}).m7, .int .i64 (selL f (12:Nat) (0:Nat) {m0:=m0,m1:=m1,m2:=m2,m3:=m3,m4:=m4,m5:=m5,m6:=m6,m7:=m7,m8:=m8,m9:=m9,m10:=m10,m11:=m11,m12:=m12,m13:=m13,m14:=m14,m15:=m15,m16:=m16,m17:=m17,m18:=m18,m19:=m19,m20:=m20,m21:=m21}).m8, .int .i64 (selL f (12:Nat) (0:Nat) {m0:=m0,m1:=m1,m2:=m2,m3:=m3,m4:=m4,m5:=m5,m6:=m6,m7:=m7,m8:=m8,m9:=m9,m10:=m10,m11:=m11,m12:=m12,m13:=m13,m14:=m14,m15:=m15,m16:=m16,m17:=m17,m18:=m18,m19:=m19,m20:=m20,m21:=m21}).m9, .int .i64 (selL f (12:Nat) (0:Nat) {m0:=m0,m1:=m1,m2:=m2,m3:=m3,m4:=m4,m5:=m5,m6:=m6,m7:=m7,m8:=m8,m9:=m9,m10:=m10,m11:=m11,m12:=m12,m13:=m13,m14:=m14,m15:=m15,m16:=m16,m17:=m17,m18:=m18,m19:=m19,m20:=m20,m21:=m21}).m10, .int .i64 (selL f (12:Nat) (0:Nat) {m0:=m0,m1:=m1,m2:=m2,m3:=m3,m4:=m4,m5:=m5,m6:=m6,m7:=m7,m8:=m8,m9:=m9,m10:=m10,m11:=m11,m12:=m12,m13:=m13,m14:=m14,m15:=m15,m16:=m16,m17:=m17,m18:=m18,m19:=m19,m20:=m20,m21:=m21}).m11, .int .i64 (selL f (12:Nat) (0:Nat) {m0:=m0,m1:=m1,m2:=m2,m3:=m3,m4:=m4,m5:=m5,m6:=m6,m7:=m7,m8:=m8,m9:=m9,m10:=m10,m11:=m11,m12:=m12,m13:=m13,m14:=m14,m15:=m15,m16:=m16,m17:=m17,m18:=m18,m19:=m19,m20:=m20,m21:=m21}).m12, .bool (selL f (12:Nat) (0:Nat) {m0:=m0,m1:=m1,m2:=m2,m3:=m3,m4:=m4,m5:=m5,m6:=m6,m7:=m7,m8:=m8,m9:=m9,m10:=m10,m11:=m11,m12:=m12,m13:=m13,m14:=m14,m15:=m15,m16:=m16,m17:=m17,m18:=m18,m19:=m19,m20:=m20,m21:=m21}).m13, .bool (selL f (12:Nat) (0:Nat) {m0:=m0,m1:=m1,m2:=m2,m3:=m3,m4:=m4,m5:=m5,m6:=m6,m7:=m7,m8:=m8,m9:=m9,m10:=m10,m11:=m11,m12:=m12,m13:=m13,m14:=m14,m15:=m15,m16:=m16,m17:=m17,m18:=m18,m19:=m19,m20:=m20,m21:=m21}).m14, .int .i64 (selL f (12:Nat) (0:Nat) {m0:=m0,m1:=m1,m2:=m2,m3:=m3,m4:=m4,m5:=m5,m6:=m6,m7:=m7,m8:=m8,m9:=m9,m10:=m10,m11:=m11,m12:=m12,m13:=m13,m14:=m14,m15:=m15,m16:=m16,m17:=m17,m18:=m18,m19:=m19,m20:=m20,m21:=m21}).m15, .int .i64 (selL f (12:Nat) (0:Nat) {m0:=m0,m1:=m1,m2:=m2,m3:=m3,m4:=m4,m5:=m5,m6:=m6,m7:=m7,m8:=m8,m9:=m9,m10:=m10,m11:=m11,m12:=m12,m13:=m13,m14:=m14,m15:=m15,m16:=m16,m17:=m17,m18:=m18,m19:=m19,m20:=m20,m21:=m21}).m16, .int .i64 (selL f (12:Nat) (0:Nat) {m0:=m0,m1:=m1,m2:=m2,m3:=m3,m4:=m4,m5:=m5,m6:=m6,m7:=m7,m8:=m8,m9:=m9,m10:=m10,m11:=m11,m12:=m12,m13:=m13,m14:=m14,m15:=m15,m16:=m16,m17:=m17,m18:=m18,m19:=m19,m20:=m20,m21:=m21}).m17, .int .i64 (selL f (12:Nat) (0:Nat) {m0:=m0,m1:=m1,m2:=m2,m3:=m3,m4:=m4,m5:=m5,m6:=m6,m7:=m7,m8:=m8,m9:=m9,m10:=m10,m11:=m11,m12:=m12,m13:=m13,m14:=m14,m15:=m15,m16:=m16,m17:=m17,m18:=m18,m19:=m19,m20:=m20,m21:=m21}).m18, .int .i64 (selL f (12:Nat) (0:Nat) {m0:=m0,m1:=m1,m2:=m2,m3:=m3,m4:=m4,m5:=m5,m6:=m6,m7:=m7,m8:=m8,m9:=m9,m10:=m10,m11:=m11,m12:=m12,m13:=m13,m14:=m14,m15:=m15,m16:=m16,m17:=m17,m18:=m18,m19:=m19,m20:=m20,m21:=m21}).m19, .int .i64 (selL f (12:Nat) (0:Nat) {m0:=m0,m1:=m1,m2:=m2,m3:=m3,m4:=m4,m5:=m5,m6:=m6,m7:=m7,m8:=m8,m9:=m9,m10:=m10,m11:=m11,m12:=m12,m13:=m13,m14:=m14,m15:=m15,m16:=m16,m17:=m17,m18:=m18,m19:=m19,m20:=m20,m21:=m21}).m20, .int .i64 0],[.mpb f]],news:=[]})/\((optD (f (6:Int))==40)=false->Q {val:= .tup [],own:=false,pars:=[[.int .i64 (selL f (12:Nat) (0:Nat) {m0:=m0,m1:=m1,m2:=m2,m3:=m3,m4:=m4,m5:=m5,m6:=m6,m7:=m7,m8:=m8,m9:=m9,m10:=m10,m11:=m11,m12:=m12,m13:=m13,m14:=m14,m15:=m15,m16:=m16,m17:=m17,m18:=m18,m19:=m19,m20:=m20,m21:=m21}).m0, .int .i64 (selL f (12:Nat) (0:Nat) {m0:=m0,m1:=m1,m2:=m2,m3:=m3,m4:=m4,m5:=m5,m6:=m6,m7:=m7,m8:=m8,m9:=m9,m10:=m10,m11:=m11,m12:=m12,m13:=m13,m14:=m14,m15:=m15,m16:=m16,m17:=m17,m18:=m18,m19:=m19,m20:=m20,m21:=m21}).m1, .int .i64 (selL f (12:Nat) (0:Nat) {m0:=m0,m1:=m1,m2:=m2,m3:=m3,m4:=m4,m5:=m5,m6:=m6,m7:=m7,m8:=m8,m9:=m9,m10:=m10,m11:=m11,m12:=m12,m13:=m13,m14:=m14,m15:=m15,m16:=m16,m17:=m17,m18:=m18,m19:=m19,m20:=m20,m21:=m21}).m2, .int .i64 (selL f (12:Nat) (0:Nat) {m0:=m0,m1:=m1,m2:=m2,m3:=m3,m4:=m4,m5:=m5,m6:=m6,m7:=m7,m8:=m8,m9:=m9,m10:=m10,m11:=m11,m12:=m12,m13:=m13,m14:=m14,m15:=m15,m16:=m16,m17:=m17,m18:=m18,m19:=m19,m20:=m20,m21:=m21}).m3, .int .i64 (selL f (12:Nat) (0:Nat) {m0:=m0,m1:=m1,m2:=m2,m3:=m3,m4:=m4,m5:=m5,m6:=m6,m7:=m7,m8:=m8,m9:=m9,m10:=m10,m11:=m11,m12:=m12,m13:=m13,m14:=m14,m15:=m15,m16:=m16,m17:=m17,m18:=m18,m19:=m19,m20:=m20,m21:=m21}).m4, .int .i64 (selL f (12:Nat) (0:Nat) {m0:=m0,m1:=m1,m2:=m2,m3:=m3,m4:=m4,m5:=m5,m6:=m6,m7:=m7,m8:=m8,m9:=m9,m10:=m10,m11:=m11,m12:=m12,m13:=m13,m14:=m14,m15:=m15,m16:=m16,m17:=m17,m18:=m18,m19:=m19,m20:=m20,m21:=m21}).m5, .int .i64 (selL f (12:Nat) (0:Nat) {m0:=m0,m1:=m1,m2:=m2,m3:=m3,m4:=m4,m5:=m5,m6:=m6,m7:=m7,m8:=m8,m9:=m9,m10:=m10,m11:=m11,m12:=m12,m13:=m13,m14:=m14,m15:=m15,m16:=m16,m17:=m17,m18:=m18,m19:=m19,m20:=m20,m21:=m21}).m6, .int .i64 (selL f (12:Nat) (0:Nat) {m0:=m0,m1:=m1,m2:=m2,m3:=m3,m4:=m4,m5:=m5,m6:=m6,m7:=m7,m8:=m8,m9:=m9,m10:=m10,m11:=m11,m12:=m12,m13:=m13,m14:=m14,m15:=m15,m16:=m16,m17:=m17,m18:=m18,m19:=m19,m20:=m20,m21:=m21}).m7, .int .i64 (selL f (12:Nat) (0:Nat) {m0:=m0,m1:=m1,m2:=m2,m3:=m3,m4:=m4,m5:=m5,m6:=m6,m7:=m7,m8:=m8,m9:=m9,m10:=m10,m11:=m11,m12:=m12,m13:=m13,m14:=m14,m15:=m15,m16:=m16,m17:=m17,m18:=m18,m19:=m19,m20:=m20,m21:=m21}).m8, .int .i64 (selL f (12:Nat) (0:Nat) {m0:=m0,m1:=m1,m2:=m2,m3:=m3,m4:=m4,m5:=m5,m6:=m6,m7:=m7,m8:=m8,m9:=m9,m10:=m10,m11:=m11,m12:=m12,m13:=m13,m14:=m14,m15:=m15,m16:=m16,m17:=m17,m18:=m18,m19:=m19,m20:=m20,m21:=m21}).m9, .int .i64 (selL f (12:Nat) (0:Nat) {m0:=m0,m1:=m1,m2:=m2,m3:=m3,m4:=m4,m5:=m5,m6:=m6,m7:=m7,m8:=m8,m9:=m9,m10:=m10,m11:=m11,m12:=m12,m13:=m13,m14:=m14,m15:=m15,m16:=m16,m17:=m17,m18:=m18,m19:=m19,m20:=m20,m21:=m21}).m10, .int .i64 (selL f (12:Nat) (0:Nat) {m0:=m0,m1:=m1,m2:=m2,m3:=m3,m4:=m4,m5:=m5,m6:=m6,m7:=m7,m8:=m8,m9:=m9,m10:=m10,m11:=m11,m12:=m12,m13:=m13,m14:=m14,m15:=m15,m16:=m16,m17:=m17,m18:=m18,m19:=m19,m20:=m20,m21:=m21}).m11, .int .i64 (selL f (12:Nat) (0:Nat) {m0:=m0,m1:=m1,m2:=m2,m3:=m3,m4:=m4,m5:=m5,m6:=m6,m7:=m7,m8:=m8,m9:=m9,m10:=m10,m11:=m11,m12:=m12,m13:=m13,m14:=m14,m15:=m15,m16:=m16,m17:=m17,m18:=m18,m19:=m19,m20:=m20,m21:=m21}).m12, .bool (selL f (12:Nat) (0:Nat) {m0:=m0,m1:=m1,m2:=m2,m3:=m3,m4:=m4,m5:=m5,m6:=m6,m7:=m7,m8:=m8,m9:=m9,m10:=m10,m11:=m11,m12:=m12,m13:=m13,m14:=m14,m15:=m15,m16:=m16,m17:=m17,m18:=m18,m19:=m19,m20:=m20,m21:=m21}).m13, .bool (selL f (12:Nat) (0:Nat) {m0:=m0,m1:=m1,m2:=m2,m3:=m3,m4:=m4,m5:=m5,m6:=m6,m7:=m7,m8:=m8,m9:=m9,m10:=m10,m11:=m11,m12:=m12,m13:=m13,m14:=m14,m15:=m15,m16:=m16,m17:=m17,m18:=m18,m19:=m19,m20:=m20,m21:=m21}).m14, .int .i64 (selL f (12:Nat) (0:Nat) {m0:=m0,m1:=m1,m2:=m2,m3:=m3,m4:=m4,m5:=m5,m6:=m6,m7:=m7,m8:=m8,m9:=m9,m10:=m10,m11:=m11,m12:=m12,m13:=m13,m14:=m14,m15:=m15,m16:=m16,m17:=m17,m18:=m18,m19:=m19,m20:=m20,m21:=m21}).m15, .int .i64 (selL f (12:Nat) (0:Nat) {m0:=m0,m1:=m1,m2:=m2,m3:=m3,m4:=m4,m5:=m5,m6:=m6,m7:=m7,m8:=m8,m9:=m9,m10:=m10,m11:=m11,m12:=m12,m13:=m13,m14:=m14,m15:=m15,m16:=m16,m17:=m17,m18:=m18,m19:=m19,m20:=m20,m21:=m21}).m16, .int .i64 (selL f (12:Nat) (0:Nat) {m0:=m0,m1:=m1,m2:=m2,m3:=m3,m4:=m4,m5:=m5,m6:=m6,m7:=m7,m8:=m8,m9:=m9,m10:=m10,m11:=m11,m12:=m12,m13:=m13,m14:=m14,m15:=m15,m16:=m16,m17:=m17,m18:=m18,m19:=m19,m20:=m20,m21:=m21}).m17, .int .i64 (selL f (12:Nat) (0:Nat) {m0:=m0,m1:=m1,m2:=m2,m3:=m3,m4:=m4,m5:=m5,m6:=m6,m7:=m7,m8:=m8,m9:=m9,m10:=m10,m11:=m11,m12:=m12,m13:=m13,m14:=m14,m15:=m15,m16:=m16,m17:=m17,m18:=m18,m19:=m19,m20:=m20,m21:=m21}).m18, .int .i64 (selL f (12:Nat) (0:Nat) {m0:=m0,m1:=m1,m2:=m2,m3:=m3,m4:=m4,m5:=m5,m6:=m6,m7:=m7,m8:=m8,m9:=m9,m10:=m10,m11:=m11,m12:=m12,m13:=m13,m14:=m14,m15:=m15,m16:=m16,m17:=m17,m18:=m18,m19:=m19,m20:=m20,m21:=m21}).m19, .int .i64 (selL f (12:Nat) (0:Nat) {m0:=m0,m1:=m1,m2:=m2,m3:=m3,m4:=m4,m5:=m5,m6:=m6,m7:=m7,m8:=m8,m9:=m9,m10:=m10,m11:=m11,m12:=m12,m13:=m13,m14:=m14,m15:=m15,m16:=m16,m17:=m17,m18:=m18,m19:=m19,m20:=m20,m21:=m21}).m20, .int .i64 (selL f (12:Nat) (0:Nat) {m0:=m0,m1:=m1,m2:=m2,m3:=m3,m4:=m4,m5:=m5,m6:=m6,m7:=m7,m8:=m8,m9:=m9,m10:=m10,m11:=m11,m12:=m12,m13:=m13,m14:=m14,m15:=m15,m16:=m16,m17:=m17,m18:=m18,m19:=m19,m20:=m20,m21:=m21}).m21],[.mpb f]],news:=[]})))):=by kernel_rfl
theorem vbSel0(m0 m1 m2 m3 m4 m5 m6 m7 m8 m9 m10 m11 m12 m15 m16 m17 m18 m19 m20 m21:Int)(m13 m14:Bool)(f:Int->Option Int)(K:HEx->LV->Prop):(nbodyT true CSel anSel (nthLoop Try.f24 0) (([.ce (.ptr 0 0), .ce (.mapv 1), .agg [.ptr 0 0, .ptr 0 1, .ptr 0 2, .ptr 0 3, .ptr 0 4, .ptr 0 5, .ptr 0 6, .ptr 0 7, .ptr 0 8, .ptr 0 9, .ptr 0 10, .ptr 0 11], .ce (.num .i64 0)],[[.int .i64 m0, .int .i64 m1, .int .i64 m2, .int .i64 m3, .int .i64 m4, .int .i64 m5, .int .i64 m6, .int .i64 m7, .int .i64 m8, .int .i64 m9, .int .i64 m10, .int .i64 m11, .int .i64 m12, .bool m13, .bool m14, .int .i64 m15, .int .i64 m16, .int .i64 m17, .int .i64 m18, .int .i64 m19, .int .i64 m20, .int .i64 m21],[.mpb f]])) K)=((optB (f (1:Int))=true->K .normal ([.ce (.ptr 0 0), .ce (.mapv 1), .agg [.ptr 0 0, .ptr 0 1, .ptr 0 2, .ptr 0 3, .ptr 0 4, .ptr 0 5, .ptr 0 6, .ptr 0 7, .ptr 0 8, .ptr 0 9, .ptr 0 10, .ptr 0 11], .ce (.num .i64 1)],[[.int .i64 (optD (f (1:Int))), .int .i64 m1, .int .i64 m2, .int .i64 m3, .int .i64 m4, .int .i64 m5, .int .i64 m6, .int .i64 m7, .int .i64 m8, .int .i64 m9, .int .i64 m10, .int .i64 m11, .int .i64 m12, .bool m13, .bool m14, .int .i64 m15, .int .i64 m16, .int .i64 m17, .int .i64 m18, .int .i64 m19, .int .i64 m20, .int .i64 m21],[.mpb f]]))/\(optB (f (1:Int))=false->K .normal ([.ce (.ptr 0 0), .ce (.mapv 1), .agg [.ptr 0 0, .ptr 0 1, .ptr 0 2, .ptr 0 3, .ptr 0 4, .ptr 0 5, .ptr 0 6, .ptr 0 7, .ptr 0 8, .ptr 0 9, .ptr 0 10, .ptr 0 11], .ce (.num .i64 1)],[[.int .i64 m0, .int .i64 m1, .int .i64 m2, .int .i64 m3, .int .i64 m4, .int .i64 m5, .int .i64 m6, .int .i64 m7, .int .i64 m8, .int .i64 m9, .int .i64 m10, .int .i64 m11, .int .i64 m12, .bool m13, .bool m14, .int .i64 m15, .int .i64 m16, .int .i64 m17, .int .i64 m18, .int .i64 m19, .int .i64 m20, .int .i64 m21],[.mpb f]]))):=by kernel_rfl
theorem vbSel1(m0 m1 m2 m3 m4 m5 m6 m7 m8 m9 m10 m11 m12 m15 m16 m17 m18 m19 m20 m21:Int)(m13 m14:Bool)(f:Int->Option Int)(K:HEx->LV->Prop):(nbodyT true CSel anSel (nthLoop Try.f24 0) (([.ce (.ptr 0 0), .ce (.mapv 1), .agg [.ptr 0 0, .ptr 0 1, .ptr 0 2, .ptr 0 3, .ptr 0 4, .ptr 0 5, .ptr 0 6, .ptr 0 7, .ptr 0 8, .ptr 0 9, .ptr 0 10, .ptr 0 11], .ce (.num .i64 1)],[[.int .i64 m0, .int .i64 m1, .int .i64 m2, .int .i64 m3, .int .i64 m4, .int .i64 m5, .int .i64 m6, .int .i64 m7, .int .i64 m8, .int .i64 m9, .int .i64 m10, .int .i64 m11, .int .i64 m12, .bool m13, .bool m14, .int .i64 m15, .int .i64 m16, .int .i64 m17, .int .i64 m18, .int .i64 m19, .int .i64 m20, .int .i64 m21],[.mpb f]])) K)=((optB (f (2:Int))=true->K .normal ([.ce (.ptr 0 0), .ce (.mapv 1), .agg [.ptr 0 0, .ptr 0 1, .ptr 0 2, .ptr 0 3, .ptr 0 4, .ptr 0 5, .ptr 0 6, .ptr 0 7, .ptr 0 8, .ptr 0 9, .ptr 0 10, .ptr 0 11], .ce (.num .i64 2)],[[.int .i64 m0, .int .i64 (optD (f (2:Int))), .int .i64 m2, .int .i64 m3, .int .i64 m4, .int .i64 m5, .int .i64 m6, .int .i64 m7, .int .i64 m8, .int .i64 m9, .int .i64 m10, .int .i64 m11, .int .i64 m12, .bool m13, .bool m14, .int .i64 m15, .int .i64 m16, .int .i64 m17, .int .i64 m18, .int .i64 m19, .int .i64 m20, .int .i64 m21],[.mpb f]]))/\(optB (f (2:Int))=false->K .normal ([.ce (.ptr 0 0), .ce (.mapv 1), .agg [.ptr 0 0, .ptr 0 1, .ptr 0 2, .ptr 0 3, .ptr 0 4, .ptr 0 5, .ptr 0 6, .ptr 0 7, .ptr 0 8, .ptr 0 9, .ptr 0 10, .ptr 0 11], .ce (.num .i64 2)],[[.int .i64 m0, .int .i64 m1, .int .i64 m2, .int .i64 m3, .int .i64 m4, .int .i64 m5, .int .i64 m6, .int .i64 m7, .int .i64 m8, .int .i64 m9, .int .i64 m10, .int .i64 m11, .int .i64 m12, .bool m13, .bool m14, .int .i64 m15, .int .i64 m16, .int .i64 m17, .int .i64 m18, .int .i64 m19, .int .i64 m20, .int .i64 m21],[.mpb f]]))):=by kernel_rfl
theorem vbSel2(m0 m1 m2 m3 m4 m5 m6 m7 m8 m9 m10 m11 m12 m15 m16 m17 m18 m19 m20 m21:Int)(m13 m14:Bool)(f:Int->Option Int)(K:HEx->LV->Prop):(nbodyT true CSel anSel (nthLoop Try.f24 0) (([.ce (.ptr 0 0), .ce (.mapv 1), .agg [.ptr 0 0, .ptr 0 1, .ptr 0 2, .ptr 0 3, .ptr 0 4, .ptr 0 5, .ptr 0 6, .ptr 0 7, .ptr 0 8, .ptr 0 9, .ptr 0 10, .ptr 0 11], .ce (.num .i64 2)],[[.int .i64 m0, .int .i64 m1, .int .i64 m2, .int .i64 m3, .int .i64 m4, .int .i64 m5, .int .i64 m6, .int .i64 m7, .int .i64 m8, .int .i64 m9, .int .i64 m10, .int .i64 m11, .int .i64 m12, .bool m13, .bool m14, .int .i64 m15, .int .i64 m16, .int .i64 m17, .int .i64 m18, .int .i64 m19, .int .i64 m20, .int .i64 m21],[.mpb f]])) K)=((optB (f (3:Int))=true->K .normal ([.ce (.ptr 0 0), .ce (.mapv 1), .agg [.ptr 0 0, .ptr 0 1, .ptr 0 2, .ptr 0 3, .ptr 0 4, .ptr 0 5, .ptr 0 6, .ptr 0 7, .ptr 0 8, .ptr 0 9, .ptr 0 10, .ptr 0 11], .ce (.num .i64 3)],[[.int .i64 m0, .int .i64 m1, .int .i64 (optD (f (3:Int))), .int .i64 m3, .int .i64 m4, .int .i64 m5, .int .i64 m6, .int .i64 m7, .int .i64 m8, .int .i64 m9, .int .i64 m10, .int .i64 m11, .int .i64 m12, .bool m13, .bool m14, .int .i64 m15, .int .i64 m16, .int .i64 m17, .int .i64 m18, .int .i64 m19, .int .i64 m20, .int .i64 m21],[.mpb f]]))/\(optB (f (3:Int))=false->K .normal ([.ce (.ptr 0 0), .ce (.mapv 1), .agg [.ptr 0 0, .ptr 0 1, .ptr 0 2, .ptr 0 3, .ptr 0 4, .ptr 0 5, .ptr 0 6, .ptr 0 7, .ptr 0 8, .ptr 0 9, .ptr 0 10, .ptr 0 11], .ce (.num .i64 3)],[[.int .i64 m0, .int .i64 m1, .int .i64 m2, .int .i64 m3, .int .i64 m4, .int .i64 m5, .int .i64 m6, .int .i64 m7, .int .i64 m8, .int .i64 m9, .int .i64 m10, .int .i64 m11, .int .i64 m12, .bool m13, .bool m14, .int .i64 m15, .int .i64 m16, .int .i64 m17, .int .i64 m18, .int .i64 m19, .int .i64 m20, .int .i64 m21],[.mpb f]]))):=by kernel_rfl
theorem vbSel3(m0 m1 m2 m3 m4 m5 m6 m7 m8 m9 m10 m11 m12 m15 m16 m17 m18 m19 m20 m21:Int)(m13 m14:Bool)(f:Int->Option Int)(K:HEx->LV->Prop):(nbodyT true CSel anSel (nthLoop Try.f24 0) (([.ce (.ptr 0 0), .ce (.mapv 1), .agg [.ptr 0 0, .ptr 0 1, .ptr 0 2, .ptr 0 3, .ptr 0 4, .ptr 0 5, .ptr 0 6, .ptr 0 7, .ptr 0 8, .ptr 0 9, .ptr 0 10, .ptr 0 11], .ce (.num .i64 3)],[[.int .i64 m0, .int .i64 m1, .int .i64 m2, .int .i64 m3, .int .i64 m4, .int .i64 m5, .int .i64 m6, .int .i64 m7, .int .i64 m8, .int .i64 m9, .int .i64 m10, .int .i64 m11, .int .i64 m12, .bool m13, .bool m14, .int .i64 m15, .int .i64 m16, .int .i64 m17, .int .i64 m18, .int .i64 m19, .int .i64 m20, .int .i64 m21],[.mpb f]])) K)=((optB (f (4:Int))=true->K .normal ([.ce (.ptr 0 0), .ce (.mapv 1), .agg [.ptr 0 0, .ptr 0 1, .ptr 0 2, .ptr 0 3, .ptr 0 4, .ptr 0 5, .ptr 0 6, .ptr 0 7, .ptr 0 8, .ptr 0 9, .ptr 0 10, .ptr 0 11], .ce (.num .i64 4)],[[.int .i64 m0, .int .i64 m1, .int .i64 m2, .int .i64 (optD (f (4:Int))), .int .i64 m4, .int .i64 m5, .int .i64 m6, .int .i64 m7, .int .i64 m8, .int .i64 m9, .int .i64 m10, .int .i64 m11, .int .i64 m12, .bool m13, .bool m14, .int .i64 m15, .int .i64 m16, .int .i64 m17, .int .i64 m18, .int .i64 m19, .int .i64 m20, .int .i64 m21],[.mpb f]]))/\(optB (f (4:Int))=false->K .normal ([.ce (.ptr 0 0), .ce (.mapv 1), .agg [.ptr 0 0, .ptr 0 1, .ptr 0 2, .ptr 0 3, .ptr 0 4, .ptr 0 5, .ptr 0 6, .ptr 0 7, .ptr 0 8, .ptr 0 9, .ptr 0 10, .ptr 0 11], .ce (.num .i64 4)],[[.int .i64 m0, .int .i64 m1, .int .i64 m2, .int .i64 m3, .int .i64 m4, .int .i64 m5, .int .i64 m6, .int .i64 m7, .int .i64 m8, .int .i64 m9, .int .i64 m10, .int .i64 m11, .int .i64 m12, .bool m13, .bool m14, .int .i64 m15, .int .i64 m16, .int .i64 m17, .int .i64 m18, .int .i64 m19, .int .i64 m20, .int .i64 m21],[.mpb f]]))):=by kernel_rfl
theorem vbSel4(m0 m1 m2 m3 m4 m5 m6 m7 m8 m9 m10 m11 m12 m15 m16 m17 m18 m19 m20 m21:Int)(m13 m14:Bool)(f:Int->Option Int)(K:HEx->LV->Prop):(nbodyT true CSel anSel (nthLoop Try.f24 0) (([.ce (.ptr 0 0), .ce (.mapv 1), .agg [.ptr 0 0, .ptr 0 1, .ptr 0 2, .ptr 0 3, .ptr 0 4, .ptr 0 5, .ptr 0 6, .ptr 0 7, .ptr 0 8, .ptr 0 9, .ptr 0 10, .ptr 0 11], .ce (.num .i64 4)],[[.int .i64 m0, .int .i64 m1, .int .i64 m2, .int .i64 m3, .int .i64 m4, .int .i64 m5, .int .i64 m6, .int .i64 m7, .int .i64 m8, .int .i64 m9, .int .i64 m10, .int .i64 m11, .int .i64 m12, .bool m13, .bool m14, .int .i64 m15, .int .i64 m16, .int .i64 m17, .int .i64 m18, .int .i64 m19, .int .i64 m20, .int .i64 m21],[.mpb f]])) K)=((optB (f (5:Int))=true->K .normal ([.ce (.ptr 0 0), .ce (.mapv 1), .agg [.ptr 0 0, .ptr 0 1, .ptr 0 2, .ptr 0 3, .ptr 0 4, .ptr 0 5, .ptr 0 6, .ptr 0 7, .ptr 0 8, .ptr 0 9, .ptr 0 10, .ptr 0 11], .ce (.num .i64 5)],[[.int .i64 m0, .int .i64 m1, .int .i64 m2, .int .i64 m3, .int .i64 (optD (f (5:Int))), .int .i64 m5, .int .i64 m6, .int .i64 m7, .int .i64 m8, .int .i64 m9, .int .i64 m10, .int .i64 m11, .int .i64 m12, .bool m13, .bool m14, .int .i64 m15, .int .i64 m16, .int .i64 m17, .int .i64 m18, .int .i64 m19, .int .i64 m20, .int .i64 m21],[.mpb f]]))/\(optB (f (5:Int))=false->K .normal ([.ce (.ptr 0 0), .ce (.mapv 1), .agg [.ptr 0 0, .ptr 0 1, .ptr 0 2, .ptr 0 3, .ptr 0 4, .ptr 0 5, .ptr 0 6, .ptr 0 7, .ptr 0 8, .ptr 0 9, .ptr 0 10, .ptr 0 11], .ce (.num .i64 5)],[[.int .i64 m0, .int .i64 m1, .int .i64 m2, .int .i64 m3, .int .i64 m4, .int .i64 m5, .int .i64 m6, .int .i64 m7, .int .i64 m8, .int .i64 m9, .int .i64 m10, .int .i64 m11, .int .i64 m12, .bool m13, .bool m14, .int .i64 m15, .int .i64 m16, .int .i64 m17, .int .i64 m18, .int .i64 m19, .int .i64 m20, .int .i64 m21],[.mpb f]]))):=by kernel_rfl
theorem vbSel5(m0 m1 m2 m3 m4 m5 m6 m7 m8 m9 m10 m11 m12 m15 m16 m17 m18 m19 m20 m21:Int)(m13 m14:Bool)(f:Int->Option Int)(K:HEx->LV->Prop):(nbodyT true CSel anSel (nthLoop Try.f24 0) (([.ce (.ptr 0 0), .ce (.mapv 1), .agg [.ptr 0 0, .ptr 0 1, .ptr 0 2, .ptr 0 3, .ptr 0 4, .ptr 0 5, .ptr 0 6, .ptr 0 7, .ptr 0 8, .ptr 0 9, .ptr 0 10, .ptr 0 11], .ce (.num .i64 5)],[[.int .i64 m0, .int .i64 m1, .int .i64 m2, .int .i64 m3, .int .i64 m4, .int .i64 m5, .int .i64 m6, .int .i64 m7, .int .i64 m8, .int .i64 m9, .int .i64 m10, .int .i64 m11, .int .i64 m12, .bool m13, .bool m14, .int .i64 m15, .int .i64 m16, .int .i64 m17, .int .i64 m18, .int .i64 m19, .int .i64 m20, .int .i64 m21],[.mpb f]])) K)=((optB (f (6:Int))=true->K .normal ([.ce (.ptr 0 0), .ce (.mapv 1), .agg [.ptr 0 0, .ptr 0 1, .ptr 0 2, .ptr 0 3, .ptr 0 4, .ptr 0 5, .ptr 0 6, .ptr 0 7, .ptr 0 8, .ptr 0 9, .ptr 0 10, .ptr 0 11], .ce (.num .i64 6)],[[.int .i64 m0, .int .i64 m1, .int .i64 m2, .int .i64 m3, .int .i64 m4, .int .i64 (optD (f (6:Int))), .int .i64 m6, .int .i64 m7, .int .i64 m8, .int .i64 m9, .int .i64 m10, .int .i64 m11, .int .i64 m12, .bool m13, .bool m14, .int .i64 m15, .int .i64 m16, .int .i64 m17, .int .i64 m18, .int .i64 m19, .int .i64 m20, .int .i64 m21],[.mpb f]]))/\(optB (f (6:Int))=false->K .normal ([.ce (.ptr 0 0), .ce (.mapv 1), .agg [.ptr 0 0, .ptr 0 1, .ptr 0 2, .ptr 0 3, .ptr 0 4, .ptr 0 5, .ptr 0 6, .ptr 0 7, .ptr 0 8, .ptr 0 9, .ptr 0 10, .ptr 0 11], .ce (.num .i64 6)],[[.int .i64 m0, .int .i64 m1, .int .i64 m2, .int .i64 m3, .int .i64 m4, .int .i64 m5, .int .i64 m6, .int .i64 m7, .int .i64 m8, .int .i64 m9, .int .i64 m10, .int .i64 m11, .int .i64 m12, .bool m13, .bool m14, .int .i64 m15, .int .i64 m16, .int .i64 m17, .int .i64 m18, .int .i64 m19, .int .i64 m20, .int .i64 m21],[.mpb f]]))):=by kernel_rfl
theorem vbSel6(m0 m1 m2 m3 m4 m5 m6 m7 m8 m9 m10 m11 m12 m15 m16 m17 m18 m19 m20 m21:Int)(m13 m14:Bool)(f:Int->Option Int)(K:HEx->LV->Prop):(nbodyT true CSel anSel (nthLoop Try.f24 0) (([.ce (.ptr 0 0), .ce (.mapv 1), .agg [.ptr 0 0, .ptr 0 1, .ptr 0 2, .ptr 0 3, .ptr 0 4, .ptr 0 5, .ptr 0 6, .ptr 0 7, .ptr 0 8, .ptr 0 9, .ptr 0 10, .ptr 0 11], .ce (.num .i64 6)],[[.int .i64 m0, .int .i64 m1, .int .i64 m2, .int .i64 m3, .int .i64 m4, .int .i64 m5, .int .i64 m6, .int .i64 m7, .int .i64 m8, .int .i64 m9, .int .i64 m10, .int .i64 m11, .int .i64 m12, .bool m13, .bool m14, .int .i64 m15, .int .i64 m16, .int .i64 m17, .int .i64 m18, .int .i64 m19, .int .i64 m20, .int .i64 m21],[.mpb f]])) K)=((optB (f (7:Int))=true->K .normal ([.ce (.ptr 0 0), .ce (.mapv 1), .agg [.ptr 0 0, .ptr 0 1, .ptr 0 2, .ptr 0 3, .ptr 0 4, .ptr 0 5, .ptr 0 6, .ptr 0 7, .ptr 0 8, .ptr 0 9, .ptr 0 10, .ptr 0 11], .ce (.num .i64 7)],[[.int .i64 m0, .int .i64 m1, .int .i64 m2, .int .i64 m3, .int .i64 m4, .int .i64 m5, .int .i64 (optD (f (7:Int))), .int .i64 m7, .int .i64 m8, .int .i64 m9, .int .i64 m10, .int .i64 m11, .int .i64 m12, .bool m13, .bool m14, .int .i64 m15, .int .i64 m16, .int .i64 m17, .int .i64 m18, .int .i64 m19, .int .i64 m20, .int .i64 m21],[.mpb f]]))/\(optB (f (7:Int))=false->K .normal ([.ce (.ptr 0 0), .ce (.mapv 1), .agg [.ptr 0 0, .ptr 0 1, .ptr 0 2, .ptr 0 3, .ptr 0 4, .ptr 0 5, .ptr 0 6, .ptr 0 7, .ptr 0 8, .ptr 0 9, .ptr 0 10, .ptr 0 11], .ce (.num .i64 7)],[[.int .i64 m0, .int .i64 m1, .int .i64 m2, .int .i64 m3, .int .i64 m4, .int .i64 m5, .int .i64 m6, .int .i64 m7, .int .i64 m8, .int .i64 m9, .int .i64 m10, .int .i64 m11, .int .i64 m12, .bool m13, .bool m14, .int .i64 m15, .int .i64 m16, .int .i64 m17, .int .i64 m18, .int .i64 m19, .int .i64 m20, .int .i64 m21],[.mpb f]]))):=by kernel_rfl
theorem vbSel7(m0 m1 m2 m3 m4 m5 m6 m7 m8 m9 m10 m11 m12 m15 m16 m17 m18 m19 m20 m21:Int)(m13 m14:Bool)(f:Int->Option Int)(K:HEx->LV->Prop):(nbodyT true CSel anSel (nthLoop Try.f24 0) (([.ce (.ptr 0 0), .ce (.mapv 1), .agg [.ptr 0 0, .ptr 0 1, .ptr 0 2, .ptr 0 3, .ptr 0 4, .ptr 0 5, .ptr 0 6, .ptr 0 7, .ptr 0 8, .ptr 0 9, .ptr 0 10, .ptr 0 11], .ce (.num .i64 7)],[[.int .i64 m0, .int .i64 m1, .int .i64 m2, .int .i64 m3, .int .i64 m4, .int .i64 m5, .int .i64 m6, .int .i64 m7, .int .i64 m8, .int .i64 m9, .int .i64 m10, .int .i64 m11, .int .i64 m12, .bool m13, .bool m14, .int .i64 m15, .int .i64 m16, .int .i64 m17, .int .i64 m18, .int .i64 m19, .int .i64 m20, .int .i64 m21],[.mpb f]])) K)=((optB (f (8:Int))=true->K .normal ([.ce (.ptr 0 0), .ce (.mapv 1), .agg [.ptr 0 0, .ptr 0 1, .ptr 0 2, .ptr 0 3, .ptr 0 4, .ptr 0 5, .ptr 0 6, .ptr 0 7, .ptr 0 8, .ptr 0 9, .ptr 0 10, .ptr 0 11], .ce (.num .i64 8)],[[.int .i64 m0, .int .i64 m1, .int .i64 m2, .int .i64 m3, .int .i64 m4, .int .i64 m5, .int .i64 m6, .int .i64 (optD (f (8:Int))), .int .i64 m8, .int .i64 m9, .int .i64 m10, .int .i64 m11, .int .i64 m12, .bool m13, .bool m14, .int .i64 m15, .int .i64 m16, .int .i64 m17, .int .i64 m18, .int .i64 m19, .int .i64 m20, .int .i64 m21],[.mpb f]]))/\(optB (f (8:Int))=false->K .normal ([.ce (.ptr 0 0), .ce (.mapv 1), .agg [.ptr 0 0, .ptr 0 1, .ptr 0 2, .ptr 0 3, .ptr 0 4, .ptr 0 5, .ptr 0 6, .ptr 0 7, .ptr 0 8, .ptr 0 9, .ptr 0 10, .ptr 0 11], .ce (.num .i64 8)],[[.int .i64 m0, .int .i64 m1, .int .i64 m2, .int .i64 m3, .int .i64 m4, .int .i64 m5, .int .i64 m6, .int .i64 m7, .int .i64 m8, .int .i64 m9, .int .i64 m10, .int .i64 m11, .int .i64 m12, .bool m13, .bool m14, .int .i64 m15, .int .i64 m16, .int .i64 m17, .int .i64 m18, .int .i64 m19, .int .i64 m20, .int .i64 m21],[.mpb f]]))):=by kernel_rfl
theorem vbSel8(m0 m1 m2 m3 m4 m5 m6 m7 m8 m9 m10 m11 m12 m15 m16 m17 m18 m19 m20 m21:Int)(m13 m14:Bool)(f:Int->Option Int)(K:HEx->LV->Prop):(nbodyT true CSel anSel (nthLoop Try.f24 0) (([.ce (.ptr 0 0), .ce (.mapv 1), .agg [.ptr 0 0, .ptr 0 1, .ptr 0 2, .ptr 0 3, .ptr 0 4, .ptr 0 5, .ptr 0 6, .ptr 0 7, .ptr 0 8, .ptr 0 9, .ptr 0 10, .ptr 0 11], .ce (.num .i64 8)],[[.int .i64 m0, .int .i64 m1, .int .i64 m2, .int .i64 m3, .int .i64 m4, .int .i64 m5, .int .i64 m6, .int .i64 m7, .int .i64 m8, .int .i64 m9, .int .i64 m10, .int .i64 m11, .int .i64 m12, .bool m13, .bool m14, .int .i64 m15, .int .i64 m16, .int .i64 m17, .int .i64 m18, .int .i64 m19, .int .i64 m20, .int .i64 m21],[.mpb f]])) K)=((optB (f (9:Int))=true->K .normal ([.ce (.ptr 0 0), .ce (.mapv 1), .agg [.ptr 0 0, .ptr 0 1, .ptr 0 2, .ptr 0 3, .ptr 0 4, .ptr 0 5, .ptr 0 6, .ptr 0 7, .ptr 0 8, .ptr 0 9, .ptr 0 10, .ptr 0 11], .ce (.num .i64 9)],[[.int .i64 m0, .int .i64 m1, .int .i64 m2, .int .i64 m3, .int .i64 m4, .int .i64 m5, .int .i64 m6, .int .i64 m7, .int .i64 (optD (f (9:Int))), .int .i64 m9, .int .i64 m10, .int .i64 m11, .int .i64 m12, .bool m13, .bool m14, .int .i64 m15, .int .i64 m16, .int .i64 m17, .int .i64 m18, .int .i64 m19, .int .i64 m20, .int .i64 m21],[.mpb f]]))/\(optB (f (9:Int))=false->K .normal ([.ce (.ptr 0 0), .ce (.mapv 1), .agg [.ptr 0 0, .ptr 0 1, .ptr 0 2, .ptr 0 3, .ptr 0 4, .ptr 0 5, .ptr 0 6, .ptr 0 7, .ptr 0 8, .ptr 0 9, .ptr 0 10, .ptr 0 11], .ce (.num .i64 9)],[[.int .i64 m0, .int .i64 m1, .int .i64 m2, .int .i64 m3, .int .i64 m4, .int .i64 m5, .int .i64 m6, .int .i64 m7, .int .i64 m8, .int .i64 m9, .int .i64 m10, .int .i64 m11, .int .i64 m12, .bool m13, .bool m14, .int .i64 m15, .int .i64 m16, .int .i64 m17, .int .i64 m18, .int .i64 m19, .int .i64 m20, .int .i64 m21],[.mpb f]]))):=by kernel_rfl
theorem vbSel9(m0 m1 m2 m3 m4 m5 m6 m7 m8 m9 m10 m11 m12 m15 m16 m17 m18 m19 m20 m21:Int)(m13 m14:Bool)(f:Int->Option Int)(K:HEx->LV->Prop):(nbodyT true CSel anSel (nthLoop Try.f24 0) (([.ce (.ptr 0 0), .ce (.mapv 1), .agg [.ptr 0 0, .ptr 0 1, .ptr 0 2, .ptr 0 3, .ptr 0 4, .ptr 0 5, .ptr 0 6, .ptr 0 7, .ptr 0 8, .ptr 0 9, .ptr 0 10, .ptr 0 11], .ce (.num .i64 9)],[[.int .i64 m0, .int .i64 m1, .int .i64 m2, .int .i64 m3, .int .i64 m4, .int .i64 m5, .int .i64 m6, .int .i64 m7, .int .i64 m8, .int .i64 m9, .int .i64 m10, .int .i64 m11, .int .i64 m12, .bool m13, .bool m14, .int .i64 m15, .int .i64 m16, .int .i64 m17, .int .i64 m18, .int .i64 m19, .int .i64 m20, .int .i64 m21],[.mpb f]])) K)=((optB (f (10:Int))=true->K .normal ([.ce (.ptr 0 0), .ce (.mapv 1), .agg [.ptr 0 0, .ptr 0 1, .ptr 0 2, .ptr 0 3, .ptr 0 4, .ptr 0 5, .ptr 0 6, .ptr 0 7, .ptr 0 8, .ptr 0 9, .ptr 0 10, .ptr 0 11], .ce (.num .i64 10)],[[.int .i64 m0, .int .i64 m1, .int .i64 m2, .int .i64 m3, .int .i64 m4, .int .i64 m5, .int .i64 m6, .int .i64 m7, .int .i64 m8, .int .i64 (optD (f (10:Int))), .int .i64 m10, .int .i64 m11, .int .i64 m12, .bool m13, .bool m14, .int .i64 m15, .int .i64 m16, .int .i64 m17, .int .i64 m18, .int .i64 m19, .int .i64 m20, .int .i64 m21],[.mpb f]]))/\(optB (f (10:Int))=false->K .normal ([.ce (.ptr 0 0), .ce (.mapv 1), .agg [.ptr 0 0, .ptr 0 1, .ptr 0 2, .ptr 0 3, .ptr 0 4, .ptr 0 5, .ptr 0 6, .ptr 0 7, .ptr 0 8, .ptr 0 9, .ptr 0 10, .ptr 0 11], .ce (.num .i64 10)],[[.int .i64 m0, .int .i64 m1, .int .i64 m2, .int .i64 m3, .int .i64 m4, .int .i64 m5, .int .i64 m6, .int .i64 m7, .int .i64 m8, .int .i64 m9, .int .i64 m10, .int .i64 m11, .int .i64 m12, .bool m13, .bool m14, .int .i64 m15, .int .i64 m16, .int .i64 m17, .int .i64 m18, .int .i64 m19, .int .i64 m20, .int .i64 m21],[.mpb f]]))):=by kernel_rfl
theorem vbSel10(m0 m1 m2 m3 m4 m5 m6 m7 m8 m9 m10 m11 m12 m15 m16 m17 m18 m19 m20 m21:Int)(m13 m14:Bool)(f:Int->Option Int)(K:HEx->LV->Prop):(nbodyT true CSel anSel (nthLoop Try.f24 0) (([.ce (.ptr 0 0), .ce (.mapv 1), .agg [.ptr 0 0, .ptr 0 1, .ptr 0 2, .ptr 0 3, .ptr 0 4, .ptr 0 5, .ptr 0 6, .ptr 0 7, .ptr 0 8, .ptr 0 9, .ptr 0 10, .ptr 0 11], .ce (.num .i64 10)],[[.int .i64 m0, .int .i64 m1, .int .i64 m2, .int .i64 m3, .int .i64 m4, .int .i64 m5, .int .i64 m6, .int .i64 m7, .int .i64 m8, .int .i64 m9, .int .i64 m10, .int .i64 m11, .int .i64 m12, .bool m13, .bool m14, .int .i64 m15, .int .i64 m16, .int .i64 m17, .int .i64 m18, .int .i64 m19, .int .i64 m20, .int .i64 m21],[.mpb f]])) K)=((optB (f (11:Int))=true->K .normal ([.ce (.ptr 0 0), .ce (.mapv 1), .agg [.ptr 0 0, .ptr 0 1, .ptr 0 2, .ptr 0 3, .ptr 0 4, .ptr 0 5, .ptr 0 6, .ptr 0 7, .ptr 0 8, .ptr 0 9, .ptr 0 10, .ptr 0 11], .ce (.num .i64 11)],[[.int .i64 m0, .int .i64 m1, .int .i64 m2, .int .i64 m3, .int .i64 m4, .int .i64 m5, .int .i64 m6, .int .i64 m7, .int .i64 m8, .int .i64 m9, .int .i64 (optD (f (11:Int))), .int .i64 m11, .int .i64 m12, .bool m13, .bool m14, .int .i64 m15, .int .i64 m16, .int .i64 m17, .int .i64 m18, .int .i64 m19, .int .i64 m20, .int .i64 m21],[.mpb f]]))/\(optB (f (11:Int))=false->K .normal ([.ce (.ptr 0 0), .ce (.mapv 1), .agg [.ptr 0 0, .ptr 0 1, .ptr 0 2, .ptr 0 3, .ptr 0 4, .ptr 0 5, .ptr 0 6, .ptr 0 7, .ptr 0 8, .ptr 0 9, .ptr 0 10, .ptr 0 11], .ce (.num .i64 11)],[[.int .i64 m0, .int .i64 m1, .int .i64 m2, .int .i64 m3, .int .i64 m4, .int .i64 m5, .int .i64 m6, .int .i64 m7, .int .i64 m8, .int .i64 m9, .int .i64 m10, .int .i64 m11, .int .i64 m12, .bool m13, .bool m14, .int .i64 m15, .int .i64 m16, .int .i64 m17, .int .i64 m18, .int .i64 m19, .int .i64 m20, .int .i64 m21],[.mpb f]]))):=by kernel_rfl
theorem vbSel11(m0 m1 m2 m3 m4 m5 m6 m7 m8 m9 m10 m11 m12 m15 m16 m17 m18 m19 m20 m21:Int)(m13 m14:Bool)(f:Int->Option Int)(K:HEx->LV->Prop):(nbodyT true CSel anSel (nthLoop Try.f24 0) (([.ce (.ptr 0 0), .ce (.mapv 1), .agg [.ptr 0 0, .ptr 0 1, .ptr 0 2, .ptr 0 3, .ptr 0 4, .ptr 0 5, .ptr 0 6, .ptr 0 7, .ptr 0 8, .ptr 0 9, .ptr 0 10, .ptr 0 11], .ce (.num .i64 11)],[[.int .i64 m0, .int .i64 m1, .int .i64 m2, .int .i64 m3, .int .i64 m4, .int .i64 m5, .int .i64 m6, .int .i64 m7, .int .i64 m8, .int .i64 m9, .int .i64 m10, .int .i64 m11, .int .i64 m12, .bool m13, .bool m14, .int .i64 m15, .int .i64 m16, .int .i64 m17, .int .i64 m18, .int .i64 m19, .int .i64 m20, .int .i64 m21],[.mpb f]])) K)=((optB (f (12:Int))=true->K .normal ([.ce (.ptr 0 0), .ce (.mapv 1), .agg [.ptr 0 0, .ptr 0 1, .ptr 0 2, .ptr 0 3, .ptr 0 4, .ptr 0 5, .ptr 0 6, .ptr 0 7, .ptr 0 8, .ptr 0 9, .ptr 0 10, .ptr 0 11], .ce (.num .i64 12)],[[.int .i64 m0, .int .i64 m1, .int .i64 m2, .int .i64 m3, .int .i64 m4, .int .i64 m5, .int .i64 m6, .int .i64 m7, .int .i64 m8, .int .i64 m9, .int .i64 m10, .int .i64 (optD (f (12:Int))), .int .i64 m12, .bool m13, .bool m14, .int .i64 m15, .int .i64 m16, .int .i64 m17, .int .i64 m18, .int .i64 m19, .int .i64 m20, .int .i64 m21],[.mpb f]]))/\(optB (f (12:Int))=false->K .normal ([.ce (.ptr 0 0), .ce (.mapv 1), .agg [.ptr 0 0, .ptr 0 1, .ptr 0 2, .ptr 0 3, .ptr 0 4, .ptr 0 5, .ptr 0 6, .ptr 0 7, .ptr 0 8, .ptr 0 9, .ptr 0 10, .ptr 0 11], .ce (.num .i64 12)],[[.int .i64 m0, .int .i64 m1, .int .i64 m2, .int .i64 m3, .int .i64 m4, .int .i64 m5, .int .i64 m6, .int .i64 m7, .int .i64 m8, .int .i64 m9, .int .i64 m10, .int .i64 m11, .int .i64 m12, .bool m13, .bool m14, .int .i64 m15, .int .i64 m16, .int .i64 m17, .int .i64 m18, .int .i64 m19, .int .i64 m20, .int .i64 m21],[.mpb f]]))):=by kernel_rfl
theorem vbSel12(m0 m1 m2 m3 m4 m5 m6 m7 m8 m9 m10 m11 m12 m15 m16 m17 m18 m19 m20 m21:Int)(m13 m14:Bool)(f:Int->Option Int)(K:HEx->LV->Prop):(nbodyT true CSel anSel (nthLoop Try.f24 0) (([.ce (.ptr 0 0), .ce (.mapv 1), .agg [.ptr 0 0, .ptr 0 1, .ptr 0 2, .ptr 0 3, .ptr 0 4, .ptr 0 5, .ptr 0 6, .ptr 0 7, .ptr 0 8, .ptr 0 9, .ptr 0 10, .ptr 0 11], .ce (.num .i64 12)],[[.int .i64 m0, .int .i64 m1, .int .i64 m2, .int .i64 m3, .int .i64 m4, .int .i64 m5, .int .i64 m6, .int .i64 m7, .int .i64 m8, .int .i64 m9, .int .i64 m10, .int .i64 m11, .int .i64 m12, .bool m13, .bool m14, .int .i64 m15, .int .i64 m16, .int .i64 m17, .int .i64 m18, .int .i64 m19, .int .i64 m20, .int .i64 m21],[.mpb f]])) K)=(K (.exit 0) ([.ce (.ptr 0 0), .ce (.mapv 1)],[[.int .i64 m0, .int .i64 m1, .int .i64 m2, .int .i64 m3, .int .i64 m4, .int .i64 m5, .int .i64 m6, .int .i64 m7, .int .i64 m8, .int .i64 m9, .int .i64 m10, .int .i64 m11, .int .i64 m12, .bool m13, .bool m14, .int .i64 m15, .int .i64 m16, .int .i64 m17, .int .i64 m18, .int .i64 m19, .int .i64 m20, .int .i64 m21],[.mpb f]])):=by kernel_rfl
def SNums(hA:List HV)(pA:List (List HC)):SR:=match hA,pA with
 |[.ce (.ptr 0 0), .ce (.sl false [4,4] l)],[b]=>(match b with
  |[.int .i64 m0, .int .i64 m1, .int .i64 m2, .int .i64 m3, .int .i64 m4, .int .i64 m5, .int .i64 m6, .int .i64 m7, .int .i64 m8, .int .i64 m9, .int .i64 m10, .int .i64 m11, .int .i64 m12, .bool m13, .bool m14, .int .i64 m15, .int .i64 m16, .int .i64 m17, .int .i64 m18, .int .i64 m19, .int .i64 m20, .int .i64 m21]=> .det (l.length<=1000) ⟨.ce (.int .i64 (numM l (M.mk m0 m1 m2 m3 m4 m5 m6 m7 m8 m9 m10 m11 m12 m13 m14 m15 m16 m17 m18 m19 m20 m21)).1),false,[cM (numM l (M.mk m0 m1 m2 m3 m4 m5 m6 m7 m8 m9 m10 m11 m12 m13 m14 m15 m16 m17 m18 m19 m20 m21)).2],[]⟩
  |_=> .fail)
 |_,_=> .fail
def hNums:Nat->Bool:=fun s=>Nat.beq s 54||Nat.beq s 1000000
def anNums:LAnn:=⟨[1,4,9,10,53,54],[4],[0,1000009,1000010],hNums⟩
def LNums(v:LV):LR:=match v with
 |([.ce (.sl false [4,4] l), .ce (.int .i64 r), .ce (.ptr 1000009 0), .ce (.ptr 1000010 0), .agg [.ptr 0 17, .ptr 0 18, .ptr 0 20, .ptr 0 21], .ce (.num .i64 0)],[b,[.num .i64 83, .num .i64 84, .num .i64 72, .num .i64 68],[.num .i64 30000, .num .i64 32, .num .i64 32, .num .i64 32]])=>(match b with
  |[.int .i64 m0, .int .i64 m1, .int .i64 m2, .int .i64 m3, .int .i64 m4, .int .i64 m5, .int .i64 m6, .int .i64 m7, .int .i64 m8, .int .i64 m9, .int .i64 m10, .int .i64 m11, .int .i64 m12, .bool m13, .bool m14, .int .i64 m15, .int .i64 m16, .int .i64 m17, .int .i64 m18, .int .i64 m19, .int .i64 m20, .int .i64 m21]=> .alts (l.length<=1000) [((numL l 4 0 (M.mk m0 m1 m2 m3 m4 m5 m6 m7 m8 m9 m10 m11 m12 m13 m14 m15 m16 m17 m18 m19 m20 m21)).1=0, .exit 0,([.ce (.int .i64 r)],[cM (numL l 4 0 (M.mk m0 m1 m2 m3 m4 m5 m6 m7 m8 m9 m10 m11 m12 m13 m14 m15 m16 m17 m18 m19 m20 m21)).2,[.num .i64 83, .num .i64 84, .num .i64 72, .num .i64 68],[.num .i64 30000, .num .i64 32, .num .i64 32, .num .i64 32]])),((numL l 4 0 (M.mk m0 m1 m2 m3 m4 m5 m6 m7 m8 m9 m10 m11 m12 m13 m14 m15 m16 m17 m18 m19 m20 m21)).1≠0, .ret,([.ce (.int .i64 (numL l 4 0 (M.mk m0 m1 m2 m3 m4 m5 m6 m7 m8 m9 m10 m11 m12 m13 m14 m15 m16 m17 m18 m19 m20 m21)).1)],[cM (numL l 4 0 (M.mk m0 m1 m2 m3 m4 m5 m6 m7 m8 m9 m10 m11 m12 m13 m14 m15 m16 m17 m18 m19 m20 m21)).2,[.num .i64 83, .num .i64 84, .num .i64 72, .num .i64 68],[.num .i64 30000, .num .i64 32, .num .i64 32, .num .i64 32]]))]
  |_=> .fail)
 |_=> .fail
def tabNums:List (FuncId×HL.Spec):=[(26,SFind),(33,SRate),(31,SWhole)]
noncomputable def CNums:Ctx:=⟨Try.prog,gam tabNums,Try.f25.ntmps,[(10,anNums,LNums)],[]⟩
theorem vcNums(m0 m1 m2 m3 m4 m5 m6 m7 m8 m9 m10 m11 m12 m15 m16 m17 m18 m19 m20 m21:Int)(m13 m14:Bool)(l:List (List Int))(Q:Res->Prop):(nfun true CNums Try.f25 (bodyOf Try.f25) [.ce (.ptr 0 0), .ce (.sl false [4,4] l)] [[.int .i64 m0, .int .i64 m1, .int .i64 m2, .int .i64 m3, .int .i64 m4, .int .i64 m5, .int .i64 m6, .int .i64 m7, .int .i64 m8, .int .i64 m9, .int .i64 m10, .int .i64 m11, .int .i64 m12, .bool m13, .bool m14, .int .i64 m15, .int .i64 m16, .int .i64 m17, .int .i64 m18, .int .i64 m19, .int .i64 m20, .int .i64 m21]] Q)=(l.length<=1000/\∀(x1:Int),x1=fndN (70:Int) l->∀(x2:Bool),x2=fndB (70:Int) l->(x2=true->True/\∀(x3:Int),x3=rtN x1 m3->∀(x4:Int),x4=rtE x1 m3->((x4 !=0)=true->Q {val:= .ce (.int .i64 x4),own:=false,pars:=[[.int .i64 m0, .int .i64 m1, .int .i64 m2, .int .i64 m3, .int .i64 m4, .int .i64 m5, .int .i64 m6, .int .i64 m7, .int .i64 m8, .int .i64 m9, .int .i64 m10, .int .i64 m11, .int .i64 m12, .bool m13, .bool m14, .int .i64 m15, .int .i64 m16, .int .i64 m17, .int .i64 m18, .int .i64 m19, .int .i64 m20, .int .i64 m21]],news:=[]})/\((x4 !=0)=false->l.length<=1000/\((numL l (4:Nat) (0:Nat) {m0:=m0,m1:=m1,m2:=m2,m3:=m3,m4:=m4,m5:=m5,m6:=m6,m7:=m7,m8:=m8,m9:=m9,m10:=m10,m11:=m11,m12:=m12,m13:=m13,m14:=m14,m15:=m15,m16:=x3,m17:=m17,m18:=m18,m19:=m19,m20:=m20,m21:=m21}).1=0->Q {val:= .ce (.int .i64 0),own:=false,pars:=[[.int .i64 (numL l (4:Nat) (0:Nat) {m0:=m0,m1:=m1,m2:=m2,m3:=m3,m4:=m4,m5:=m5,m6:=m6,m7:=m7,m8:=m8,m9:=m9,m10:=m10,m11:=m11,m12:=m12,m13:=m13,m14:=m14,m15:=m15,m16:=x3,m17:=m17,m18:=m18,m19:=m19,m20:=m20,m21:=m21}).2.m0, .int .i64 (numL l (4:Nat) (0:Nat) {m0:=m0,m1:=m1,m2:=m2,m3:=m3,m4:=m4,m5:=m5,m6:=m6,m7:=m7,m8:=m8,m9:=m9,m10:=m10,m11:=m11,m12:=m12,m13:=m13,m14:=m14,m15:=m15,m16:=x3,m17:=m17,m18:=m18,m19:=m19,m20:=m20,m21:=m21}).2.m1, .int .i64 (numL l (4:Nat) (0:Nat) {m0:=m0,m1:=m1,m2:=m2,m3:=m3,m4:=m4,m5:=m5,m6:=m6,m7:=m7,m8:=m8,m9:=m9,m10:=m10,m11:=m11,m12:=m12,m13:=m13,m14:=m14,m15:=m15,m16:=x3,m17:=m17,m18:=m18,m19:=m19,m20:=m20,m21:=m21}).2.m2, .int .i64 (numL l (4:Nat) (0:Nat) {m0:=m0,m1:=m1,m2:=m2,m3:=m3,m4:=m4,m5:=m5,m6:=m6,m7:=m7,m8:=m8,m9:=m9,m10:=m10,m11:=m11,m12:=m12,m13:=m13,m14:=m14,m15:=m15,m16:=x3,m17:=m17,m18:=m18,m19:=m19,m20:=m20,m21:=m21}).2.m3, .int .i64 (numL l (4:Nat) (0:Nat) {m0:=m0,m1:=m1,m2:=m2,m3:=m3,m4:=m4,m5:=m5,m6:=m6,m7:=m7,m8:=m8,m9:=m9,m10:=m10,m11:=m11,m12:=m12,m13:=m13,m14:=m14,m15:=m15,m16:=x3,m17:=m17,m18:=m18,m19:=m19,m20:=m20,m21:=m21}).2.m4, .int .i64 (numL l (4:Nat) (0:Nat) {m0:=m0,m1:=m1,m2:=m2,m3:=m3,m4:=m4,m5:=m5,m6:=m6,m7:=m7,m8:=m8,m9:=m9,m10:=m10,m11:=m11,m12:=m12,m13:=m13,m14:=m14,m15:=m15,m16:=x3,m17:=m17,m18:=m18,m19:=m19,m20:=m20,m21:=m21}).2.m5, .int .i64 (numL l (4:Nat) (0:Nat) {m0:=m0,m1:=m1,m2:=m2,m3:=m3,m4:=m4,m5:=m5,m6:=m6,m7:=m7,m8:=m8,m9:=m9,m10:=m10,m11:=m11,m12:=m12,m13:=m13,m14:=m14,m15:=m15,m16:=x3,m17:=m17,m18:=m18,m19:=m19,m20:=m20,m21:=m21}).2.m6, .int .i64 (numL l (4:Nat) (0:Nat) {m0:=m0,m1:=m1,m2:=m2,m3:=m3,m4:=m4,m5:=m5,m6:=m6,m7:=m7,m8:=m8,m9:=m9,m10:=m10,m11:=m11,m12:=m12,m13:=m13,m14:=m14,m15:=m15,m16:=x3,m17:=m17,m18:=m18,m19:=m19,m20:=m20,m21:=m21}).2.m7, .int .i64 (numL l (4:Nat) (0:Nat) {m0:=m0,m1:=m1,m2:=m2,m3:=m3,m4:=m4,m5:=m5,m6:=m6,m7:=m7,m8:=m8,m9:=m9,m10:=m10,m11:=m11,m12:=m12,m13:=m13,m14:=m14,m15:=m15,m16:=x3,m17:=m17,m18:=m18,m19:=m19,m20:=m20,m21:=m21}).2.m8, .int .i64 (numL l (4:Nat) (0:Nat) {m0:=m0,m1:=m1,m2:=m2,m3:=m3,m4:=m4,m5:=m5,m6:=m6,m7:=m7,m8:=m8,m9:=m9,m10:=m10,m11:=m11,m12:=m12,m13:=m13,m14:=m14,m15:=m15,m16:=x3,m17:=m17,m18:=m18,m19:=m19,m20:=m20,m21:=m21}).2.m9, .int .i64 (numL l (4:Nat) (0:Nat) {m0:=m0,m1:=m1,m2:=m2,m3:=m3,m4:=m4,m5:=m5,m6:=m6,m7:=m7,m8:=m8,m9:=m9,m10:=m10,m11:=m11,m12:=m12,m13:=m13,m14:=m14,m15:=m15,m16:=x3,m17:=m17,m18:=m18,m19:=m19,m20:=m20,m21:=m21}).2.m10, .int .i64 (numL l (4:Nat) (0:Nat) {m0:=m0,m1:=m1,m2:=m2,m3:=m3,m4:=m4,m5:=m5,m6:=m6,m7:=m7,m8:=m8,m9:=m9,m10:=m10,m11:=m11,m12:=m12,m13:=m13,m14:=m14,m15:=m15,m16:=x3,m17:=m17,m18:=m18,m19:=m19,m20:=m20,m21:=m21}).2.m11, .int .i64 (numL l (4:Nat) (0:Nat) {m0:=m0,m1:=m1,m2:=m2,m3:=m3,m4:=m4,m5:=m5,m6:=m6,m7:=m7,m8:=m8,m9:=m9,m10:=m10,m11:=m11,m12:=m12,m13:=m13,m14:=m14,m15:=m15,m16:=x3,m17:=m17,m18:=m18,m19:=m19,m20:=m20,m21:=m21}).2.m12, .bool (numL l (4:Nat) (0:Nat) {m0:=m0,m1:=m1,m2:=m2,m3:=m3,m4:=m4,m5:=m5,m6:=m6,m7:=m7,m8:=m8,m9:=m9,m10:=m10,m11:=m11,m12:=m12,m13:=m13,m14:=m14,m15:=m15,m16:=x3,m17:=m17,m18:=m18,m19:=m19,m20:=m20,m21:=m21}).2.m13, .bool (numL l (4:Nat) (0:Nat) {m0:=m0,m1:=m1,m2:=m2,m3:=m3,m4:=m4,m5:=m5,m6:=m6,m7:=m7,m8:=m8,m9:=m9,m10:=m10,m11:=m11,m12:=m12,m13:=m13,m14:=m14,m15:=m15,m16:=x3,m17:=m17,m18:=m18,m19:=m19,m20:=m20,m21:=m21}).2.m14, .int .i64 (numL l (4:Nat) (0:Nat) {m0:=m0,m1:=m1,m2:=m2,m3:=m3,m4:=m4,m5:=m5,m6:=m6,m7:=m7,m8:=m8,m9:=m9,m10:=m10,m11:=m11,m12:=m12,m13:=m13,m14:=m14,m15:=m15,m16:=x3,m17:=m17,m18:=m18,m19:=m19,m20:=m20,m21:=m21}).2.m15, .int .i64 (numL l (4:Nat) (0:Nat) {m0:=m0,m1:=m1,m2:=m2,m3:=m3,m4:=m4,m5:=m5,m6:=m6,m7:=m7,m8:=m8,m9:=m9,m10:=m10,m11:=m11,m12:=m12,m13:=m13,m14:=m14,m15:=m15,m16:=x3,m17:=m17,m18:=m18,m19:=m19,m20:=m20,m21:=m21}).2.m16, .int .i64 (numL l (4:Nat) (0:Nat) {m0:=m0,m1:=m1,m2:=m2,m3:=m3,m4:=m4,m5:=m5,m6:=m6,m7:=m7,m8:=m8,m9:=m9,m10:=m10,m11:=m11,m12:=m12,m13:=m13,m14:=m14,m15:=m15,m16:=x3,m17:=m17,m18:=m18,m19:=m19,m20:=m20,m21:=m21}).2.m17, .int .i64 (numL l (4:Nat) (0:Nat) {m0:=m0,m1:=m1,m2:=m2,m3:=m3,m4:=m4,m5:=m5,m6:=m6,m7:=m7,m8:=m8,m9:=m9,m10:=m10,m11:=m11,m12:=m12,m13:=m13,m14:=m14,m15:=m15,m16:=x3,m17:=m17,m18:=m18,m19:=m19,m20:=m20,m21:=m21}).2.m18, .int .i64 (numL l (4:Nat) (0:Nat) {m0:=m0,m1:=m1,m2:=m2,m3:=m3,m4:=m4,m5:=m5,m6:=m6,m7:=m7,m8:=m8,m9:=m9,m10:=m10,m11:=m11,m12:=m12,m13:=m13,m14:=m14,m15:=m15,m16:=x3,m17:=m17,m18:=m18,m19:=m19,m20:=m20,m21:=m21}).2.m19, .int .i64 (numL l (4:Nat) (0:Nat) {m0:=m0,m1:=m1,m2:=m2,m3:=m3,m4:=m4,m5:=m5,m6:=m6,m7:=m7,m8:=m8,m9:=m9,m10:=m10,m11:=m11,m12:=m12,m13:=m13,m14:=m14,m15:=m15,m16:=x3,m17:=m17,m18:=m18,m19:=m19,m20:=m20,m21:=m21}).2.m20, .int .i64 (numL l (4:Nat) (0:Nat) {m0:=m0,m1:=m1,m2:=m2,m3:=m3,m4:=m4,m5:=m5,m6:=m6,m7:=m7,m8:=m8,m9:=m9,m10:=m10,m11:=m11,m12:=m12,m13:=m13,m14:=m14,m15:=m15,m16:=x3,m17:=m17,m18:=m18,m19:=m19,m20:=m20,m21:=m21}).2.m21]],news:=[]})/\((numL l (4:Nat) (0:Nat) {m0:=m0,m1:=m1,m2:=m2,m3:=m3,m4:=m4,m5:=m5,m6:=m6,m7:=m7,m8:=m8,m9:=m9,m10:=m10,m11:=m11,m12:=m12,m13:=m13,m14:=m14,m15:=m15,m16:=x3,m17:=m17,m18:=m18,m19:=m19,m20:=m20,m21:=m21}).1≠(0:Int)->Q {val:= .ce (.int .i64 (numL l (4:Nat) (0:Nat) {m0:=m0,m1:=m1,m2:=m2,m3:=m3,m4:=m4,m5:=m5,m6:=m6,m7:=m7,m8:=m8,m9:=m9,m10:=m10,m11:=m11,m12:=m12,m13:=m13,m14:=m14,m15:=m15,m16:=x3,m17:=m17,m18:=m18,m19:=m19,m20:=m20,m21:=m21}).1),own:=false,pars:=[[.int .i64 (numL l (4:Nat) (0:Nat) {m0:=m0,m1:=m1,m2:=m2,m3:=m3,m4:=m4,m5:=m5,m6:=m6,m7:=m7,m8:=m8,m9:=m9,m10:=m10,m11:=m11,m12:=m12,m13:=m13,m14:=m14,m15:=m15,m16:=x3,m17:=m17,m18:=m18,m19:=m19,m20:=m20,m21:=m21}).2.m0, .int .i64 (numL l (4:Nat) (0:Nat) {m0:=m0,m1:=m1,m2:=m2,m3:=m3,m4:=m4,m5:=m5,m6:=m6,m7:=m7,m8:=m8,m9:=m9,m10:=m10,m11:=m11,m12:=m12,m13:=m13,m14:=m14,m15:=m15,m16:=x3,m17:=m17,m18:=m18,m19:=m19,m20:=m20,m21:=m21}).2.m1, .int .i64 (numL l (4:Nat) (0:Nat) {m0:=m0,m1:=m1,m2:=m2,m3:=m3,m4:=m4,m5:=m5,m6:=m6,m7:=m7,m8:=m8,m9:=m9,m10:=m10,m11:=m11,m12:=m12,m13:=m13,m14:=m14,m15:=m15,m16:=x3,m17:=m17,m18:=m18,m19:=m19,m20:=m20,m21:=m21}).2.m2, .int .i64 (numL l (4:Nat) (0:Nat) {m0:=m0,m1:=m1,m2:=m2,m3:=m3,m4:=m4,m5:=m5,m6:=m6,m7:=m7,m8:=m8,m9:=m9,m10:=m10,m11:=m11,m12:=m12,m13:=m13,m14:=m14,m15:=m15,m16:=x3,m17:=m17,m18:=m18,m19:=m19,m20:=m20,m21:=m21}).2.m3, .int .i64 (numL l (4:Nat) (0:Nat) {m0:=m0,m1:=m1,m2:=m2,m3:=m3,m4:=m4,m5:=m5,m6:=m6,m7:=m7,m8:=m8,m9:=m9,m10:=m10,m11:=m11,m12:=m12,m13:=m13,m14:=m14,m15:=m15,m16:=x3,m17:=m17,m18:=m18,m19:=m19,m20:=m20,m21:=m21}).2.m4, .int .i64 (numL l (4:Nat) (0:Nat) {m0:=m0,m1:=m1,m2:=m2,m3:=m3,m4:=m4,m5:=m5,m6:=m6,m7:=m7,m8:=m8,m9:=m9,m10:=m10,m11:=m11,m12:=m12,m13:=m13,m14:=m14,m15:=m15,m16:=x3,m17:=m17,m18:=m18,m19:=m19,m20:=m20,m21:=m21}).2.m5, .int .i64 (numL l (4:Nat) (0:Nat) {m0:=m0,m1:=m1,m2:=m2,m3:=m3,m4:=m4,m5:=m5,m6:=m6,m7:=m7,m8:=m8,m9:=m9,m10:=m10,m11:=m11,m12:=m12,m13:=m13,m14:=m14,m15:=m15,m16:=x3,m17:=m17,m18:=m18,m19:=m19,m20:=m20,m21:=m21}).2.m6, .int .i64 (numL l (4:Nat) (0:Nat) {m0:=m0,m1:=m1,m2:=m2,m3:=m3,m4:=m4,m5:=m5,m6:=m6,m7:=m7,m8:=m8,m9:=m9,m10:=m10,m11:=m11,m12:=m12,m13:=m13,m14:=m14,m15:=m15,m16:=x3,m17:=m17,m18:=m18,m19:=m19,m20:=m20,m21:=m21}).2.m7, .int .i64 (numL l (4:Nat) (0:Nat) {m0:=m0,m1:=m1,m2:=m2,m3:=m3,m4:=m4,m5:=m5,m6:=m6,m7:=m7,m8:=m8,m9:=m9,m10:=m10,m11:=m11,m12:=m12,m13:=m13,m14:=m14,m15:=m15,m16:=x3,m17:=m17,m18:=m18,m19:=m19,m20:=m20,m21:=m21}).2.m8, .int .i64 (numL l (4:Nat) (0:Nat) {m0:=m0,m1:=m1,m2:=m2,m3:=m3,m4:=m4,m5:=m5,m6:=m6,m7:=m7,m8:=m8,m9:=m9,m10:=m10,m11:=m11,m12:=m12,m13:=m13,m14:=m14,m15:=m15,m16:=x3,m17:=m17,m18:=m18,m19:=m19,m20:=m20,m21:=m21}).2.m9, .int .i64 (numL l (4:Nat) (0:Nat) {m0:=m0,m1:=m1,m2:=m2,m3:=m3,m4:=m4,m5:=m5,m6:=m6,m7:=m7,m8:=m8,m9:=m9,m10:=m10,m11:=m11,m12:=m12,m13:=m13,m14:=m14,m15:=m15,m16:=x3,m17:=m17,m18:=m18,m19:=m19,m20:=m20,m21:=m21}).2.m10, .int .i64 (numL l (4:Nat) (0:Nat) {m0:=m0,m1:=m1,m2:=m2,m3:=m3,m4:=m4,m5:=m5,m6:=m6,m7:=m7,m8:=m8,m9:=m9,m10:=m10,m11:=m11,m12:=m12,m13:=m13,m14:=m14,m15:=m15,m16:=x3,m17:=m17,m18:=m18,m19:=m19,m20:=m20,m21:=m21}).2.m11, .int .i64 (numL l (4:Nat) (0:Nat) {m0:=m0,m1:=m1,m2:=m2,m3:=m3,m4:=m4,m5:=m5,m6:=m6,m7:=m7,m8:=m8,m9:=m9,m10:=m10,m11:=m11,m12:=m12,m13:=m13,m14:=m14,m15:=m15,m16:=x3,m17:=m17,m18:=m18,m19:=m19,m20:=m20,m21:=m21}).2.m12, .bool (numL l (4:Nat) (0:Nat) {m0:=m0,m1:=m1,m2:=m2,m3:=m3,m4:=m4,m5:=m5,m6:=m6,m7:=m7,m8:=m8,m9:=m9,m10:=m10,m11:=m11,m12:=m12,m13:=m13,m14:=m14,m15:=m15,m16:=x3,m17:=m17,m18:=m18,m19:=m19,m20:=m20,m21:=m21}).2.m13, .bool (numL l (4:Nat) (0:Nat) {m0:=m0,m1:=m1,m2:=m2,m3:=m3,m4:=m4,m5:=m5,m6:=m6,m7:=m7,m8:=m8,m9:=m9,m10:=m10,m11:=m11,m12:=m12,m13:=m13,m14:=m14,m15:=m15,m16:=x3,m17:=m17,m18:=m18,m19:=m19,m20:=m20,m21:=m21}).2.m14, .int .i64 (numL l (4:Nat) (0:Nat) {m0:=m0,m1:=m1,m2:=m2,m3:=m3,m4:=m4,m5:=m5,m6:=m6,m7:=m7,m8:=m8,m9:=m9,m10:=m10,m11:=m11,m12:=m12,m13:=m13,m14:=m14,m15:=m15,m16:=x3,m17:=m17,m18:=m18,m19:=m19,m20:=m20,m21:=m21}).2.m15, .int .i64 (numL l (4:Nat) (0:Nat) {m0:=m0,m1:=m1,m2:=m2,m3:=m3,m4:=m4,m5:=m5,m6:=m6,m7:=m7,m8:=m8,m9:=m9,m10:=m10,m11:=m11,m12:=m12,m13:=m13,m14:=m14,m15:=m15,m16:=x3,m17:=m17,m18:=m18,m19:=m19,m20:=m20,m21:=m21}).2.m16, .int .i64 (numL l (4:Nat) (0:Nat) {m0:=m0,m1:=m1,m2:=m2,m3:=m3,m4:=m4,m5:=m5,m6:=m6,m7:=m7,m8:=m8,m9:=m9,m10:=m10,m11:=m11,m12:=m12,m13:=m13,m14:=m14,m15:=m15,m16:=x3,m17:=m17,m18:=m18,m19:=m19,m20:=m20,m21:=m21}).2.m17, .int .i64 (numL l (4:Nat) (0:Nat) {m0:=m0,m1:=m1,m2:=m2,m3:=m3,m4:=m4,m5:=m5,m6:=m6,m7:=m7,m8:=m8,m9:=m9,m10:=m10,m11:=m11,m12:=m12,m13:=m13,m14:=m14,m15:=m15,m16:=x3,m17:=m17,m18:=m18,m19:=m19,m20:=m20,m21:=m21}).2.m18, .int .i64 (numL l (4:Nat) (0:Nat) {m0:=m0,m1:=m1,m2:=m2,m3:=m3,m4:=m4,m5:=m5,m6:=m6,m7:=m7,m8:=m8,m9:=m9,m10:=m10,m11:=m11,m12:=m12,m13:=m13,m14:=m14,m15:=m15,m16:=x3,m17:=m17,m18:=m18,m19:=m19,m20:=m20,m21:=m21}).2.m19, .int .i64 (numL l (4:Nat) (0:Nat) {m0:=m0,m1:=m1,m2:=m2,m3:=m3,m4:=m4,m5:=m5,m6:=m6,m7:=m7,m8:=m8,m9:=m9,m10:=m10,m11:=m11,m12:=m12,m13:=m13,m14:=m14,m15:=m15,m16:=x3,m17:=m17,m18:=m18,m19:=m19,m20:=m20,m21:=m21}).2.m20, .int .i64 (numL l (4:Nat) (0:Nat) {m0:=m0,m1:=m1,m2:=m2,m3:=m3,m4:=m4,m5:=m5,m6:=m6,m7:=m7,m8:=m8,m9:=m9,m10:=m10,m11:=m11,m12:=m12,m13:=m13,m14:=m14,m15:=m15,m16:=x3,m17:=m17,m18:=m18,m19:=m19,m20:=m20,m21:=m21}).2.m21]],news:=[]})))/\(x2=false->l.length<=1000/\((numL l (4:Nat) (0:Nat) {m0:=m0,m1:=m1,m2:=m2,m3:=m3,m4:=m4,m5:=m5,m6:=m6,m7:=m7,m8:=m8,m9:=m9,m10:=m10,m11:=m11,m12:=m12,m13:=m13,m14:=m14,m15:=m15,m16:=m16,m17:=m17,m18:=m18,m19:=m19,m20:=m20,m21:=m21}).1=0->Q {val:= .ce (.int .i64 0),own:=false,pars:=[[.int .i64 (numL l (4:Nat) (0:Nat) {m0:=m0,m1:=m1,m2:=m2,m3:=m3,m4:=m4,m5:=m5,m6:=m6,m7:=m7,m8:=m8,m9:=m9,m10:=m10,m11:=m11,m12:=m12,m13:=m13,m14:=m14,m15:=m15,m16:=m16,m17:=m17,m18:=m18,m19:=m19,m20:=m20,m21:=m21}).2.m0, .int .i64 (numL l (4:Nat) (0:Nat) {m0:=m0,m1:=m1,m2:=m2,m3:=m3,m4:=m4,m5:=m5,m6:=m6,m7:=m7,m8:=m8,m9:=m9,m10:=m10,m11:=m11,m12:=m12,m13:=m13,m14:=m14,m15:=m15,m16:=m16,m17:=m17,m18:=m18,m19:=m19,m20:=m20,m21:=m21}).2.m1, .int .i64 (numL l (4:Nat) (0:Nat) {m0:=m0,m1:=m1,m2:=m2,m3:=m3,m4:=m4,m5:=m5,m6:=m6,m7:=m7,m8:=m8,m9:=m9,m10:=m10,m11:=m11,m12:=m12,m13:=m13,m14:=m14,m15:=m15,m16:=m16,m17:=m17,m18:=m18,m19:=m19,m20:=m20,m21:=m21}).2.m2, .int .i64 (numL l (4:Nat) (0:Nat) {m0:=m0,m1:=m1,m2:=m2,m3:=m3,m4:=m4,m5:=m5,m6:=m6,m7:=m7,m8:=m8,m9:=m9,m10:=m10,m11:=m11,m12:=m12,m13:=m13,m14:=m14,m15:=m15,m16:=m16,m17:=m17,m18:=m18,m19:=m19,m20:=m20,m21:=m21}).2.m3, .int .i64 (numL l (4:Nat) (0:Nat) {m0:=m0,m1:=m1,m2:=m2,m3:=m3,m4:=m4,m5:=m5,m6:=m6,m7:=m7,m8:=m8,m9:=m9,m10:=m10,m11:=m11,m12:=m12,m13:=m13,m14:=m14,m15:=m15,m16:=m16,m17:=m17,m18:=m18,m19:=m19,m20:=m20,m21:=m21}).2.m4, .int .i64 (numL l (4:Nat) (0:Nat) {m0:=m0,m1:=m1,m2:=m2,m3:=m3,m4:=m4,m5:=m5,m6:=m6,m7:=m7,m8:=m8,m9:=m9,m10:=m10,m11:=m11,m12:=m12,m13:=m13,m14:=m14,m15:=m15,m16:=m16,m17:=m17,m18:=m18,m19:=m19,m20:=m20,m21:=m21}).2.m5, .int .i64 (numL l (4:Nat) (0:Nat) {m0:=m0,m1:=m1,m2:=m2,m3:=m3,m4:=m4,m5:=m5,m6:=m6,m7:=m7,m8:=m8,m9:=m9,m10:=m10,m11:=m11,m12:=m12,m13:=m13,m14:=m14,m15:=m15,m16:=m16,m17:=m17,m18:=m18,m19:=m19,m20:=m20,m21:=m21}).2.m6, .int .i64 (numL l (4:Nat) (0:Nat) {m0:=m0,m1:=m1,m2:=m2,m3:=m3,m4:=m4,m5:=m5,m6:=m6,m7:=m7,m8:=m8,m9:=m9,m10:=m10,m11:=m11,m12:=m12,m13:=m13,m14:=m14,m15:=m15,m16:=m16,m17:=m17,m18:=m18,m19:=m19,m20:=m20,m21:=m21}).2.m7, .int .i64 (numL l (4:Nat) (0:Nat) {m0:=m0,m1:=m1,m2:=m2,m3:=m3,m4:=m4,m5:=m5,m6:=m6,m7:=m7,m8:=m8,m9:=m9,m10:=m10,m11:=m11,m12:=m12,m13:=m13,m14:=m14,m15:=m15,m16:=m16,m17:=m17,m18:=m18,m19:=m19,m20:=m20,m21:=m21}).2.m8, .int .i64 (numL l (4:Nat) (0:Nat) {m0:=m0,m1:=m1,m2:=m2,m3:=m3,m4:=m4,m5:=m5,m6:=m6,m7:=m7,m8:=m8,m9:=m9,m10:=m10,m11:=m11,m12:=m12,m13:=m13,m14:=m14,m15:=m15,m16:=m16,m17:=m17,m18:=m18,m19:=m19,m20:=m20,m21:=m21}).2.m9, .int .i64 (numL l (4:Nat) (0:Nat) {m0:=m0,m1:=m1,m2:=m2,m3:=m3,m4:=m4,m5:=m5,m6:=m6,m7:=m7,m8:=m8,m9:=m9,m10:=m10,m11:=m11,m12:=m12,m13:=m13,m14:=m14,m15:=m15,m16:=m16,m17:=m17,m18:=m18,m19:=m19,m20:=m20,m21:=m21}).2.m10, .int .i64 (numL l (4:Nat) (0:Nat) {m0:=m0,m1:=m1,m2:=m2,m3:=m3,m4:=m4,m5:=m5,m6:=m6,m7:=m7,m8:=m8,m9:=m9,m10:=m10,m11:=m11,m12:=m12,m13:=m13,m14:=m14,m15:=m15,m16:=m16,m17:=m17,m18:=m18,m19:=m19,m20:=m20,m21:=m21}).2.m11, .int .i64 (numL l (4:Nat) (0:Nat) {m0:=m0,m1:=m1,m2:=m2,m3:=m3,m4:=m4,m5:=m5,m6:=m6,m7:=m7,m8:=m8,m9:=m9,m10:=m10,m11:=m11,m12:=m12,m13:=m13,m14:=m14,m15:=m15,m16:=m16,m17:=m17,m18:=m18,m19:=m19,m20:=m20,m21:=m21}).2.m12, .bool (numL l (4:Nat) (0:Nat) {m0:=m0,m1:=m1,m2:=m2,m3:=m3,m4:=m4,m5:=m5,m6:=m6,m7:=m7,m8:=m8,m9:=m9,m10:=m10,m11:=m11,m12:=m12,m13:=m13,m14:=m14,m15:=m15,m16:=m16,m17:=m17,m18:=m18,m19:=m19,m20:=m20,m21:=m21}).2.m13, .bool (numL l (4:Nat) (0:Nat) {m0:=m0,m1:=m1,m2:=m2,m3:=m3,m4:=m4,m5:=m5,m6:=m6,m7:=m7,m8:=m8,m9:=m9,m10:=m10,m11:=m11,m12:=m12,m13:=m13,m14:=m14,m15:=m15,m16:=m16,m17:=m17,m18:=m18,m19:=m19,m20:=m20,m21:=m21}).2.m14, .int .i64 (numL l (4:Nat) (0:Nat) {m0:=m0,m1:=m1,m2:=m2,m3:=m3,m4:=m4,m5:=m5,m6:=m6,m7:=m7,m8:=m8,m9:=m9,m10:=m10,m11:=m11,m12:=m12,m13:=m13,m14:=m14,m15:=m15,m16:=m16,m17:=m17,m18:=m18,m19:=m19,m20:=m20,m21:=m21}).2.m15, .int .i64 (numL l (4:Nat) (0:Nat) {m0:=m0,m1:=m1,m2:=m2,m3:=m3,m4:=m4,m5:=m5,m6:=m6,m7:=m7,m8:=m8,m9:=m9,m10:=m10,m11:=m11,m12:=m12,m13:=m13,m14:=m14,m15:=m15,m16:=m16,m17:=m17,m18:=m18,m19:=m19,m20:=m20,m21:=m21}).2.m16, .int .i64 (numL l (4:Nat) (0:Nat) {m0:=m0,m1:=m1,m2:=m2,m3:=m3,m4:=m4,m5:=m5,m6:=m6,m7:=m7,m8:=m8,m9:=m9,m10:=m10,m11:=m11,m12:=m12,m13:=m13,m14:=m14,m15:=m15,m16:=m16,m17:=m17,m18:=m18,m19:=m19,m20:=m20,m21:=m21}).2.m17, .int .i64 (numL l (4:Nat) (0:Nat) {m0:=m0,m1:=m1,m2:=m2,m3:=m3,m4:=m4,m5:=m5,m6:=m6,m7:=m7,m8:=m8,m9:=m9,m10:=m10,m11:=m11,m12:=m12,m13:=m13,m14:=m14,m15:=m15,m16:=m16,m17:=m17,m18:=m18,m19:=m19,m20:=m20,m21:=m21}).2.m18, .int .i64 (numL l (4:Nat) (0:Nat) {m0:=m0,m1:=m1,m2:=m2,m3:=m3,m4:=m4,m5:=m5,m6:=m6,m7:=m7,m8:=m8,m9:=m9,m10:=m10,m11:=m11,m12:=m12,m13:=m13,m14:=m14,m15:=m15,m16:=m16,m17:=m17,m18:=m18,m19:=m19,m20:=m20,m21:=m21}).2.m19, .int .i64 (numL l (4:Nat) (0:Nat) {m0:=m0,m1:=m1,m2:=m2,m3:=m3,m4:=m4,m5:=m5,m6:=m6,m7:=m7,m8:=m8,m9:=m9,m10:=m10,m11:=m11,m12:=m12,m13:=m13,m14:=m14,m15:=m15,m16:=m16,m17:=m17,m18:=m18,m19:=m19,m20:=m20,m21:=m21}).2.m20, .int .i64 (numL l (4:Nat) (0:Nat) {m0:=m0,m1:=m1,m2:=m2,m3:=m3,m4:=m4,m5:=m5,m6:=m6,m7:=m7,m8:=m8,m9:=m9,m10:=m10,m11:=m11,m12:=m12,m13:=m13,m14:=m14,m15:=m15,m16:=m16,m17:=m17,m18:=m18,m19:=m19,m20:=m20,m21:=m21}).2.m21]],news:=[]})/\((numL l (4:Nat) (0:Nat) {m0:=m0,m1:=m1,m2:=m2,m3:=m3,m4:=m4,m5:=m5,m6:=m6,m7:=m7,m8:=m8,m9:=m9,m10:=m10,m11:=m11,m12:=m12,m13:=m13,m14:=m14,m15:=m15,m16:=m16,m17:=m17,m18:=m18,m19:=m19,m20:=m20,m21:=m21}).1≠(0:Int)->Q {val:= .ce (.int .i64 (numL l (4:Nat) (0:Nat) {m0:=m0,m1:=m1,m2:=m2,m3:=m3,m4:=m4,m5:=m5,m6:=m6,m7:=m7,m8:=m8,m9:=m9,m10:=m10,m11:=m11,m12:=m12,m13:=m13,m14:=m14,m15:=m15,m16:=m16,m17:=m17,m18:=m18,m19:=m19,m20:=m20,m21:=m21}).1),own:=false,pars:=[[.int .i64 (numL l (4:Nat) (0:Nat) {m0:=m0,m1:=m1,m2:=m2,m3:=m3,m4:=m4,m5:=m5,m6:=m6,m7:=m7,m8:=m8,m9:=m9,m10:=m10,m11:=m11,m12:=m12,m13:=m13,m14:=m14,m15:=m15,m16:=m16,m17:=m17,m18:=m18,m19:=m19,m20:=m20,m21:=m21}).2.m0, .int .i64 (numL l (4:Nat) (0:Nat) {m0:=m0,m1:=m1,m2:=m2,m3:=m3,m4:=m4,m5:=m5,m6:=m6,m7:=m7,m8:=m8,m9:=m9,m10:=m10,m11:=m11,m12:=m12,m13:=m13,m14:=m14,m15:=m15,m16:=m16,m17:=m17,m18:=m18,m19:=m19,m20:=m20,m21:=m21}).2.m1, .int .i64 (numL l (4:Nat) (0:Nat) {m0:=m0,m1:=m1,m2:=m2,m3:=m3,m4:=m4,m5:=m5,m6:=m6,m7:=m7,m8:=m8,m9:=m9,m10:=m10,m11:=m11,m12:=m12,m13:=m13,m14:=m14,m15:=m15,m16:=m16,m17:=m17,m18:=m18,m19:=m19,m20:=m20,m21:=m21}).2.m2, .int .i64 (numL l (4:Nat) (0:Nat) {m0:=m0,m1:=m1,m2:=m2,m3:=m3,m4:=m4,m5:=m5,m6:=m6,m7:=m7,m8:=m8,m9:=m9,m10:=m10,m11:=m11,m12:=m12,m13:=m13,m14:=m14,m15:=m15,m16:=m16,m17:=m17,m18:=m18,m19:=m19,m20:=m20,m21:=m21}).2.m3, .int .i64 (numL l (4:Nat) (0:Nat) {m0:=m0,m1:=m1,m2:=m2,m3:=m3,m4:=m4,m5:=m5,m6:=m6,m7:=m7,m8:=m8,m9:=m9,m10:=m10,m11:=m11,m12:=m12,m13:=m13,m14:=m14,m15:=m15,m16:=m16,m17:=m17,m18:=m18,m19:=m19,m20:=m20,m21:=m21}).2.m4, .int .i64 (numL l (4:Nat) (0:Nat) {m0:=m0,m1:=m1,m2:=m2,m3:=m3,m4:=m4,m5:=m5,m6:=m6,m7:=m7,m8:=m8,m9:=m9,m10:=m10,m11:=m11,m12:=m12,m13:=m13,m14:=m14,m15:=m15,m16:=m16,m17:=m17,m18:=m18,m19:=m19,m20:=m20,m21:=m21}).2.m5, .int .i64 (numL l (4:Nat) (0:Nat) {m0:=m0,m1:=m1,m2:=m2,m3:=m3,m4:=m4,m5:=m5,m6:=m6,m7:=m7,m8:=m8,m9:=m9,m10:=m10,m11:=m11,m12:=m12,m13:=m13,m14:=m14,m15:=m15,m16:=m16,m17:=m17,m18:=m18,m19:=m19,m20:=m20,m21:=m21}).2.m6, .int .i64 (numL l (4:Nat) (0:Nat) {m0:=m0,m1:=m1,m2:=m2,m3:=m3,m4:=m4,m5:=m5,m6:=m6,m7:=m7,m8:=m8,m9:=m9,m10:=m10,m11:=m11,m12:=m12,m13:=m13,m14:=m14,m15:=m15,m16:=m16,m17:=m17,m18:=m18,m19:=m19,m20:=m20,m21:=m21}).2.m7, .int .i64 (numL l (4:Nat) (0:Nat) {m0:=m0,m1:=m1,m2:=m2,m3:=m3,m4:=m4,m5:=m5,m6:=m6,m7:=m7,m8:=m8,m9:=m9,m10:=m10,m11:=m11,m12:=m12,m13:=m13,m14:=m14,m15:=m15,m16:=m16,m17:=m17,m18:=m18,m19:=m19,m20:=m20,m21:=m21}).2.m8, .int .i64 (numL l (4:Nat) (0:Nat) {m0:=m0,m1:=m1,m2:=m2,m3:=m3,m4:=m4,m5:=m5,m6:=m6,m7:=m7,m8:=m8,m9:=m9,m10:=m10,m11:=m11,m12:=m12,m13:=m13,m14:=m14,m15:=m15,m16:=m16,m17:=m17,m18:=m18,m19:=m19,m20:=m20,m21:=m21}).2.m9, .int .i64 (numL l (4:Nat) (0:Nat) {m0:=m0,m1:=m1,m2:=m2,m3:=m3,m4:=m4,m5:=m5,m6:=m6,m7:=m7,m8:=m8,m9:=m9,m10:=m10,m11:=m11,m12:=m12,m13:=m13,m14:=m14,m15:=m15,m16:=m16,m17:=m17,m18:=m18,m19:=m19,m20:=m20,m21:=m21}).2.m10, .int .i64 (numL l (4:Nat) (0:Nat) {m0:=m0,m1:=m1,m2:=m2,m3:=m3,m4:=m4,m5:=m5,m6:=m6,m7:=m7,m8:=m8,m9:=m9,m10:=m10,m11:=m11,m12:=m12,m13:=m13,m14:=m14,m15:=m15,m16:=m16,m17:=m17,m18:=m18,m19:=m19,m20:=m20,m21:=m21}).2.m11, .int .i64 (numL l (4:Nat) (0:Nat) {m0:=m0,m1:=m1,m2:=m2,m3:=m3,m4:=m4,m5:=m5,m6:=m6,m7:=m7,m8:=m8,m9:=m9,m10:=m10,m11:=m11,m12:=m12,m13:=m13,m14:=m14,m15:=m15,m16:=m16,m17:=m17,m18:=m18,m19:=m19,m20:=m20,m21:=m21}).2.m12, .bool (numL l (4:Nat) (0:Nat) {m0:=m0,m1:=m1,m2:=m2,m3:=m3,m4:=m4,m5:=m5,m6:=m6,m7:=m7,m8:=m8,m9:=m9,m10:=m10,m11:=m11,m12:=m12,m13:=m13,m14:=m14,m15:=m15,m16:=m16,m17:=m17,m18:=m18,m19:=m19,m20:=m20,m21:=m21}).2.m13, .bool (numL l (4:Nat) (0:Nat) {m0:=m0,m1:=m1,m2:=m2,m3:=m3,m4:=m4,m5:=m5,m6:=m6,m7:=m7,m8:=m8,m9:=m9,m10:=m10,m11:=m11,m12:=m12,m13:=m13,m14:=m14,m15:=m15,m16:=m16,m17:=m17,m18:=m18,m19:=m19,m20:=m20,m21:=m21}).2.m14, .int .i64 (numL l (4:Nat) (0:Nat) {m0:=m0,m1:=m1,m2:=m2,m3:=m3,m4:=m4,m5:=m5,m6:=m6,m7:=m7,m8:=m8,m9:=m9,m10:=m10,m11:=m11,m12:=m12,m13:=m13,m14:=m14,m15:=m15,m16:=m16,m17:=m17,m18:=m18,m19:=m19,m20:=m20,m21:=m21}).2.m15, .int .i64 (numL l (4:Nat) (0:Nat) {m0:=m0,m1:=m1,m2:=m2,m3:=m3,m4:=m4,m5:=m5,m6:=m6,m7:=m7,m8:=m8,m9:=m9,m10:=m10,m11:=m11,m12:=m12,m13:=m13,m14:=m14,m15:=m15,m16:=m16,m17:=m17,m18:=m18,m19:=m19,m20:=m20,m21:=m21}).2.m16, .int .i64 (numL l (4:Nat) (0:Nat) {m0:=m0,m1:=m1,m2:=m2,m3:=m3,m4:=m4,m5:=m5,m6:=m6,m7:=m7,m8:=m8,m9:=m9,m10:=m10,m11:=m11,m12:=m12,m13:=m13,m14:=m14,m15:=m15,m16:=m16,m17:=m17,m18:=m18,m19:=m19,m20:=m20,m21:=m21}).2.m17, .int .i64 (numL l (4:Nat) (0:Nat) {m0:=m0,m1:=m1,m2:=m2,m3:=m3,m4:=m4,m5:=m5,m6:=m6,m7:=m7,m8:=m8,m9:=m9,m10:=m10,m11:=m11,m12:=m12,m13:=m13,m14:=m14,m15:=m15,m16:=m16,m17:=m17,m18:=m18,m19:=m19,m20:=m20,m21:=m21}).2.m18, .int .i64 (numL l (4:Nat) (0:Nat) {m0:=m0,m1:=m1,m2:=m2,m3:=m3,m4:=m4,m5:=m5,m6:=m6,m7:=m7,m8:=m8,m9:=m9,m10:=m10,m11:=m11,m12:=m12,m13:=m13,m14:=m14,m15:=m15,m16:=m16,m17:=m17,m18:=m18,m19:=m19,m20:=m20,m21:=m21}).2.m19, .int .i64 (numL l (4:Nat) (0:Nat) {m0:=m0,m1:=m1,m2:=m2,m3:=m3,m4:=m4,m5:=m5,m6:=m6,m7:=m7,m8:=m8,m9:=m9,m10:=m10,m11:=m11,m12:=m12,m13:=m13,m14:=m14,m15:=m15,m16:=m16,m17:=m17,m18:=m18,m19:=m19,m20:=m20,m21:=m21}).2.m20, .int .i64 (numL l (4:Nat) (0:Nat) {m0:=m0,m1:=m1,m2:=m2,m3:=m3,m4:=m4,m5:=m5,m6:=m6,m7:=m7,m8:=m8,m9:=m9,m10:=m10,m11:=m11,m12:=m12,m13:=m13,m14:=m14,m15:=m15,m16:=m16,m17:=m17,m18:=m18,m19:=m19,m20:=m20,m21:=m21}).2.m21]],news:=[]}))):=by kernel_rfl
theorem vbNums0(m0 m1 m2 m3 m4 m5 m6 m7 m8 m9 m10 m11 m12 m15 m16 m17 m18 m19 m20 m21:Int)(m13 m14:Bool)(r:Int)(l:List (List Int))(K:HEx->LV->Prop):(nbodyT true CNums anNums (nthLoop Try.f25 0) (([.ce (.sl false [4,4] l), .ce (.int .i64 r), .ce (.ptr 1000009 0), .ce (.ptr 1000010 0), .agg [.ptr 0 17, .ptr 0 18, .ptr 0 20, .ptr 0 21], .ce (.num .i64 0)],[[.int .i64 m0, .int .i64 m1, .int .i64 m2, .int .i64 m3, .int .i64 m4, .int .i64 m5, .int .i64 m6, .int .i64 m7, .int .i64 m8, .int .i64 m9, .int .i64 m10, .int .i64 m11, .int .i64 m12, .bool m13, .bool m14, .int .i64 m15, .int .i64 m16, .int .i64 m17, .int .i64 m18, .int .i64 m19, .int .i64 m20, .int .i64 m21],[.num .i64 83, .num .i64 84, .num .i64 72, .num .i64 68],[.num .i64 30000, .num .i64 32, .num .i64 32, .num .i64 32]])) K)=(l.length<=1000/\∀(x1:Int),x1=fndN (83:Int) l->∀(x2:Bool),x2=fndB (83:Int) l->((!x2)=true->K .normal ([.ce (.sl false [4,4] l), .ce (.int .i64 r), .ce (.ptr 1000009 0), .ce (.ptr 1000010 0), .agg [.ptr 0 17, .ptr 0 18, .ptr 0 20, .ptr 0 21], .ce (.num .i64 1)],[[.int .i64 m0, .int .i64 m1, .int .i64 m2, .int .i64 m3, .int .i64 m4, .int .i64 m5, .int .i64 m6, .int .i64 m7, .int .i64 m8, .int .i64 m9, .int .i64 m10, .int .i64 m11, .int .i64 m12, .bool m13, .bool m14, .int .i64 m15, .int .i64 m16, .int .i64 m17, .int .i64 m18, .int .i64 m19, .int .i64 m20, .int .i64 m21],[.num .i64 83, .num .i64 84, .num .i64 72, .num .i64 68],[.num .i64 30000, .num .i64 32, .num .i64 32, .num .i64 32]]))/\((!x2)=false->True/\∀(x3:Int),x3=wv x1->∀(x4:Bool),x4=isw x1->((!x4)=true->K .ret ([.ce (.int .i64 1)],[[.int .i64 m0, .int .i64 m1, .int .i64 m2, .int .i64 m3, .int .i64 m4, .int .i64 m5, .int .i64 m6, .int .i64 m7, .int .i64 m8, .int .i64 m9, .int .i64 m10, .int .i64 m11, .int .i64 m12, .bool m13, .bool m14, .int .i64 m15, .int .i64 m16, .int .i64 m17, .int .i64 m18, .int .i64 m19, .int .i64 m20, .int .i64 m21],[.num .i64 83, .num .i64 84, .num .i64 72, .num .i64 68],[.num .i64 30000, .num .i64 32, .num .i64 32, .num .i64 32]]))/\((!x4)=false->(decide (x3<0)=true->K .ret ([.ce (.int .i64 1)],[[.int .i64 m0, .int .i64 m1, .int .i64 m2, .int .i64 m3, .int .i64 m4, .int .i64 m5, .int .i64 m6, .int .i64 m7, .int .i64 m8, .int .i64 m9, .int .i64 m10, .int .i64 m11, .int .i64 m12, .bool m13, .bool m14, .int .i64 m15, .int .i64 m16, .int .i64 m17, .int .i64 m18, .int .i64 m19, .int .i64 m20, .int .i64 m21],[.num .i64 83, .num .i64 84, .num .i64 72, .num .i64 68],[.num .i64 30000, .num .i64 32, .num .i64 32, .num .i64 32]]))/\(decide (x3<0)=false->(decide (x3>30000)=true->K .ret ([.ce (.int .i64 1)],[[.int .i64 m0, .int .i64 m1, .int .i64 m2, .int .i64 m3, .int .i64 m4, .int .i64 m5, .int .i64 m6, .int .i64 m7, .int .i64 m8, .int .i64 m9, .int .i64 m10, .int .i64 m11, .int .i64 m12, .bool m13, .bool m14, .int .i64 m15, .int .i64 m16, .int .i64 m17, .int .i64 m18, .int .i64 m19, .int .i64 m20, .int .i64 m21],[.num .i64 83, .num .i64 84, .num .i64 72, .num .i64 68],[.num .i64 30000, .num .i64 32, .num .i64 32, .num .i64 32]]))/\(decide (x3>30000)=false->K .normal ([.ce (.sl false [4,4] l), .ce (.int .i64 r), .ce (.ptr 1000009 0), .ce (.ptr 1000010 0), .agg [.ptr 0 17, .ptr 0 18, .ptr 0 20, .ptr 0 21], .ce (.num .i64 1)],[[.int .i64 m0, .int .i64 m1, .int .i64 m2, .int .i64 m3, .int .i64 m4, .int .i64 m5, .int .i64 m6, .int .i64 m7, .int .i64 m8, .int .i64 m9, .int .i64 m10, .int .i64 m11, .int .i64 m12, .bool m13, .bool m14, .int .i64 m15, .int .i64 m16, .int .i64 x3, .int .i64 m18, .int .i64 m19, .int .i64 m20, .int .i64 m21],[.num .i64 83, .num .i64 84, .num .i64 72, .num .i64 68],[.num .i64 30000, .num .i64 32, .num .i64 32, .num .i64 32]])))))):=by kernel_rfl
theorem vbNums1(m0 m1 m2 m3 m4 m5 m6 m7 m8 m9 m10 m11 m12 m15 m16 m17 m18 m19 m20 m21:Int)(m13 m14:Bool)(r:Int)(l:List (List Int))(K:HEx->LV->Prop):(nbodyT true CNums anNums (nthLoop Try.f25 0) (([.ce (.sl false [4,4] l), .ce (.int .i64 r), .ce (.ptr 1000009 0), .ce (.ptr 1000010 0), .agg [.ptr 0 17, .ptr 0 18, .ptr 0 20, .ptr 0 21], .ce (.num .i64 1)],[[.int .i64 m0, .int .i64 m1, .int .i64 m2, .int .i64 m3, .int .i64 m4, .int .i64 m5, .int .i64 m6, .int .i64 m7, .int .i64 m8, .int .i64 m9, .int .i64 m10, .int .i64 m11, .int .i64 m12, .bool m13, .bool m14, .int .i64 m15, .int .i64 m16, .int .i64 m17, .int .i64 m18, .int .i64 m19, .int .i64 m20, .int .i64 m21],[.num .i64 83, .num .i64 84, .num .i64 72, .num .i64 68],[.num .i64 30000, .num .i64 32, .num .i64 32, .num .i64 32]])) K)=(l.length<=1000/\∀(x1:Int),x1=fndN (84:Int) l->∀(x2:Bool),x2=fndB (84:Int) l->((!x2)=true->K .normal ([.ce (.sl false [4,4] l), .ce (.int .i64 r), .ce (.ptr 1000009 0), .ce (.ptr 1000010 0), .agg [.ptr 0 17, .ptr 0 18, .ptr 0 20, .ptr 0 21], .ce (.num .i64 2)],[[.int .i64 m0, .int .i64 m1, .int .i64 m2, .int .i64 m3, .int .i64 m4, .int .i64 m5, .int .i64 m6, .int .i64 m7, .int .i64 m8, .int .i64 m9, .int .i64 m10, .int .i64 m11, .int .i64 m12, .bool m13, .bool m14, .int .i64 m15, .int .i64 m16, .int .i64 m17, .int .i64 m18, .int .i64 m19, .int .i64 m20, .int .i64 m21],[.num .i64 83, .num .i64 84, .num .i64 72, .num .i64 68],[.num .i64 30000, .num .i64 32, .num .i64 32, .num .i64 32]]))/\((!x2)=false->True/\∀(x3:Int),x3=wv x1->∀(x4:Bool),x4=isw x1->((!x4)=true->K .ret ([.ce (.int .i64 1)],[[.int .i64 m0, .int .i64 m1, .int .i64 m2, .int .i64 m3, .int .i64 m4, .int .i64 m5, .int .i64 m6, .int .i64 m7, .int .i64 m8, .int .i64 m9, .int .i64 m10, .int .i64 m11, .int .i64 m12, .bool m13, .bool m14, .int .i64 m15, .int .i64 m16, .int .i64 m17, .int .i64 m18, .int .i64 m19, .int .i64 m20, .int .i64 m21],[.num .i64 83, .num .i64 84, .num .i64 72, .num .i64 68],[.num .i64 30000, .num .i64 32, .num .i64 32, .num .i64 32]]))/\((!x4)=false->(decide (x3<0)=true->K .ret ([.ce (.int .i64 1)],[[.int .i64 m0, .int .i64 m1, .int .i64 m2, .int .i64 m3, .int .i64 m4, .int .i64 m5, .int .i64 m6, .int .i64 m7, .int .i64 m8, .int .i64 m9, .int .i64 m10, .int .i64 m11, .int .i64 m12, .bool m13, .bool m14, .int .i64 m15, .int .i64 m16, .int .i64 m17, .int .i64 m18, .int .i64 m19, .int .i64 m20, .int .i64 m21],[.num .i64 83, .num .i64 84, .num .i64 72, .num .i64 68],[.num .i64 30000, .num .i64 32, .num .i64 32, .num .i64 32]]))/\(decide (x3<0)=false->(decide (x3>32)=true->K .ret ([.ce (.int .i64 1)],[[.int .i64 m0, .int .i64 m1, .int .i64 m2, .int .i64 m3, .int .i64 m4, .int .i64 m5, .int .i64 m6, .int .i64 m7, .int .i64 m8, .int .i64 m9, .int .i64 m10, .int .i64 m11, .int .i64 m12, .bool m13, .bool m14, .int .i64 m15, .int .i64 m16, .int .i64 m17, .int .i64 m18, .int .i64 m19, .int .i64 m20, .int .i64 m21],[.num .i64 83, .num .i64 84, .num .i64 72, .num .i64 68],[.num .i64 30000, .num .i64 32, .num .i64 32, .num .i64 32]]))/\(decide (x3>32)=false->K .normal ([.ce (.sl false [4,4] l), .ce (.int .i64 r), .ce (.ptr 1000009 0), .ce (.ptr 1000010 0), .agg [.ptr 0 17, .ptr 0 18, .ptr 0 20, .ptr 0 21], .ce (.num .i64 2)],[[.int .i64 m0, .int .i64 m1, .int .i64 m2, .int .i64 m3, .int .i64 m4, .int .i64 m5, .int .i64 m6, .int .i64 m7, .int .i64 m8, .int .i64 m9, .int .i64 m10, .int .i64 m11, .int .i64 m12, .bool m13, .bool m14, .int .i64 m15, .int .i64 m16, .int .i64 m17, .int .i64 x3, .int .i64 m19, .int .i64 m20, .int .i64 m21],[.num .i64 83, .num .i64 84, .num .i64 72, .num .i64 68],[.num .i64 30000, .num .i64 32, .num .i64 32, .num .i64 32]])))))):=by kernel_rfl
theorem vbNums2(m0 m1 m2 m3 m4 m5 m6 m7 m8 m9 m10 m11 m12 m15 m16 m17 m18 m19 m20 m21:Int)(m13 m14:Bool)(r:Int)(l:List (List Int))(K:HEx->LV->Prop):(nbodyT true CNums anNums (nthLoop Try.f25 0) (([.ce (.sl false [4,4] l), .ce (.int .i64 r), .ce (.ptr 1000009 0), .ce (.ptr 1000010 0), .agg [.ptr 0 17, .ptr 0 18, .ptr 0 20, .ptr 0 21], .ce (.num .i64 2)],[[.int .i64 m0, .int .i64 m1, .int .i64 m2, .int .i64 m3, .int .i64 m4, .int .i64 m5, .int .i64 m6, .int .i64 m7, .int .i64 m8, .int .i64 m9, .int .i64 m10, .int .i64 m11, .int .i64 m12, .bool m13, .bool m14, .int .i64 m15, .int .i64 m16, .int .i64 m17, .int .i64 m18, .int .i64 m19, .int .i64 m20, .int .i64 m21],[.num .i64 83, .num .i64 84, .num .i64 72, .num .i64 68],[.num .i64 30000, .num .i64 32, .num .i64 32, .num .i64 32]])) K)=(l.length<=1000/\∀(x1:Int),x1=fndN (72:Int) l->∀(x2:Bool),x2=fndB (72:Int) l->((!x2)=true->K .normal ([.ce (.sl false [4,4] l), .ce (.int .i64 r), .ce (.ptr 1000009 0), .ce (.ptr 1000010 0), .agg [.ptr 0 17, .ptr 0 18, .ptr 0 20, .ptr 0 21], .ce (.num .i64 3)],[[.int .i64 m0, .int .i64 m1, .int .i64 m2, .int .i64 m3, .int .i64 m4, .int .i64 m5, .int .i64 m6, .int .i64 m7, .int .i64 m8, .int .i64 m9, .int .i64 m10, .int .i64 m11, .int .i64 m12, .bool m13, .bool m14, .int .i64 m15, .int .i64 m16, .int .i64 m17, .int .i64 m18, .int .i64 m19, .int .i64 m20, .int .i64 m21],[.num .i64 83, .num .i64 84, .num .i64 72, .num .i64 68],[.num .i64 30000, .num .i64 32, .num .i64 32, .num .i64 32]]))/\((!x2)=false->True/\∀(x3:Int),x3=wv x1->∀(x4:Bool),x4=isw x1->((!x4)=true->K .ret ([.ce (.int .i64 1)],[[.int .i64 m0, .int .i64 m1, .int .i64 m2, .int .i64 m3, .int .i64 m4, .int .i64 m5, .int .i64 m6, .int .i64 m7, .int .i64 m8, .int .i64 m9, .int .i64 m10, .int .i64 m11, .int .i64 m12, .bool m13, .bool m14, .int .i64 m15, .int .i64 m16, .int .i64 m17, .int .i64 m18, .int .i64 m19, .int .i64 m20, .int .i64 m21],[.num .i64 83, .num .i64 84, .num .i64 72, .num .i64 68],[.num .i64 30000, .num .i64 32, .num .i64 32, .num .i64 32]]))/\((!x4)=false->(decide (x3<0)=true->K .ret ([.ce (.int .i64 1)],[[.int .i64 m0, .int .i64 m1, .int .i64 m2, .int .i64 m3, .int .i64 m4, .int .i64 m5, .int .i64 m6, .int .i64 m7, .int .i64 m8, .int .i64 m9, .int .i64 m10, .int .i64 m11, .int .i64 m12, .bool m13, .bool m14, .int .i64 m15, .int .i64 m16, .int .i64 m17, .int .i64 m18, .int .i64 m19, .int .i64 m20, .int .i64 m21],[.num .i64 83, .num .i64 84, .num .i64 72, .num .i64 68],[.num .i64 30000, .num .i64 32, .num .i64 32, .num .i64 32]]))/\(decide (x3<0)=false->(decide (x3>32)=true->K .ret ([.ce (.int .i64 1)],[[.int .i64 m0, .int .i64 m1, .int .i64 m2, .int .i64 m3, .int .i64 m4, .int .i64 m5, .int .i64 m6, .int .i64 m7, .int .i64 m8, .int .i64 m9, .int .i64 m10, .int .i64 m11, .int .i64 m12, .bool m13, .bool m14, .int .i64 m15, .int .i64 m16, .int .i64 m17, .int .i64 m18, .int .i64 m19, .int .i64 m20, .int .i64 m21],[.num .i64 83, .num .i64 84, .num .i64 72, .num .i64 68],[.num .i64 30000, .num .i64 32, .num .i64 32, .num .i64 32]]))/\(decide (x3>32)=false->K .normal ([.ce (.sl false [4,4] l), .ce (.int .i64 r), .ce (.ptr 1000009 0), .ce (.ptr 1000010 0), .agg [.ptr 0 17, .ptr 0 18, .ptr 0 20, .ptr 0 21], .ce (.num .i64 3)],[[.int .i64 m0, .int .i64 m1, .int .i64 m2, .int .i64 m3, .int .i64 m4, .int .i64 m5, .int .i64 m6, .int .i64 m7, .int .i64 m8, .int .i64 m9, .int .i64 m10, .int .i64 m11, .int .i64 m12, .bool m13, .bool m14, .int .i64 m15, .int .i64 m16, .int .i64 m17, .int .i64 m18, .int .i64 m19, .int .i64 x3, .int .i64 m21],[.num .i64 83, .num .i64 84, .num .i64 72, .num .i64 68],[.num .i64 30000, .num .i64 32, .num .i64 32, .num .i64 32]])))))):=by kernel_rfl
theorem vbNums3(m0 m1 m2 m3 m4 m5 m6 m7 m8 m9 m10 m11 m12 m15 m16 m17 m18 m19 m20 m21:Int)(m13 m14:Bool)(r:Int)(l:List (List Int))(K:HEx->LV->Prop):(nbodyT true CNums anNums (nthLoop Try.f25 0) (([.ce (.sl false [4,4] l), .ce (.int .i64 r), .ce (.ptr 1000009 0), .ce (.ptr 1000010 0), .agg [.ptr 0 17, .ptr 0 18, .ptr 0 20, .ptr 0 21], .ce (.num .i64 3)],[[.int .i64 m0, .int .i64 m1, .int .i64 m2, .int .i64 m3, .int .i64 m4, .int .i64 m5, .int .i64 m6, .int .i64 m7, .int .i64 m8, .int .i64 m9, .int .i64 m10, .int .i64 m11, .int .i64 m12, .bool m13, .bool m14, .int .i64 m15, .int .i64 m16, .int .i64 m17, .int .i64 m18, .int .i64 m19, .int .i64 m20, .int .i64 m21],[.num .i64 83, .num .i64 84, .num .i64 72, .num .i64 68],[.num .i64 30000, .num .i64 32, .num .i64 32, .num .i64 32]])) K)=(l.length<=1000/\∀(x1:Int),x1=fndN (68:Int) l->∀(x2:Bool),x2=fndB (68:Int) l->((!x2)=true->K .normal ([.ce (.sl false [4,4] l), .ce (.int .i64 r), .ce (.ptr 1000009 0), .ce (.ptr 1000010 0), .agg [.ptr 0 17, .ptr 0 18, .ptr 0 20, .ptr 0 21], .ce (.num .i64 4)],[[.int .i64 m0, .int .i64 m1, .int .i64 m2, .int .i64 m3, .int .i64 m4, .int .i64 m5, .int .i64 m6, .int .i64 m7, .int .i64 m8, .int .i64 m9, .int .i64 m10, .int .i64 m11, .int .i64 m12, .bool m13, .bool m14, .int .i64 m15, .int .i64 m16, .int .i64 m17, .int .i64 m18, .int .i64 m19, .int .i64 m20, .int .i64 m21],[.num .i64 83, .num .i64 84, .num .i64 72, .num .i64 68],[.num .i64 30000, .num .i64 32, .num .i64 32, .num .i64 32]]))/\((!x2)=false->True/\∀(x3:Int),x3=wv x1->∀(x4:Bool),x4=isw x1->((!x4)=true->K .ret ([.ce (.int .i64 1)],[[.int .i64 m0, .int .i64 m1, .int .i64 m2, .int .i64 m3, .int .i64 m4, .int .i64 m5, .int .i64 m6, .int .i64 m7, .int .i64 m8, .int .i64 m9, .int .i64 m10, .int .i64 m11, .int .i64 m12, .bool m13, .bool m14, .int .i64 m15, .int .i64 m16, .int .i64 m17, .int .i64 m18, .int .i64 m19, .int .i64 m20, .int .i64 m21],[.num .i64 83, .num .i64 84, .num .i64 72, .num .i64 68],[.num .i64 30000, .num .i64 32, .num .i64 32, .num .i64 32]]))/\((!x4)=false->(decide (x3<0)=true->K .ret ([.ce (.int .i64 1)],[[.int .i64 m0, .int .i64 m1, .int .i64 m2, .int .i64 m3, .int .i64 m4, .int .i64 m5, .int .i64 m6, .int .i64 m7, .int .i64 m8, .int .i64 m9, .int .i64 m10, .int .i64 m11, .int .i64 m12, .bool m13, .bool m14, .int .i64 m15, .int .i64 m16, .int .i64 m17, .int .i64 m18, .int .i64 m19, .int .i64 m20, .int .i64 m21],[.num .i64 83, .num .i64 84, .num .i64 72, .num .i64 68],[.num .i64 30000, .num .i64 32, .num .i64 32, .num .i64 32]]))/\(decide (x3<0)=false->(decide (x3>32)=true->K .ret ([.ce (.int .i64 1)],[[.int .i64 m0, .int .i64 m1, .int .i64 m2, .int .i64 m3, .int .i64 m4, .int .i64 m5, .int .i64 m6, .int .i64 m7, .int .i64 m8, .int .i64 m9, .int .i64 m10, .int .i64 m11, .int .i64 m12, .bool m13, .bool m14, .int .i64 m15, .int .i64 m16, .int .i64 m17, .int .i64 m18, .int .i64 m19, .int .i64 m20, .int .i64 m21],[.num .i64 83, .num .i64 84, .num .i64 72, .num .i64 68],[.num .i64 30000, .num .i64 32, .num .i64 32, .num .i64 32]]))/\(decide (x3>32)=false->K .normal ([.ce (.sl false [4,4] l), .ce (.int .i64 r), .ce (.ptr 1000009 0), .ce (.ptr 1000010 0), .agg [.ptr 0 17, .ptr 0 18, .ptr 0 20, .ptr 0 21], .ce (.num .i64 4)],[[.int .i64 m0, .int .i64 m1, .int .i64 m2, .int .i64 m3, .int .i64 m4, .int .i64 m5, .int .i64 m6, .int .i64 m7, .int .i64 m8, .int .i64 m9, .int .i64 m10, .int .i64 m11, .int .i64 m12, .bool m13, .bool m14, .int .i64 m15, .int .i64 m16, .int .i64 m17, .int .i64 m18, .int .i64 m19, .int .i64 m20, .int .i64 x3],[.num .i64 83, .num .i64 84, .num .i64 72, .num .i64 68],[.num .i64 30000, .num .i64 32, .num .i64 32, .num .i64 32]])))))):=by kernel_rfl
theorem vbNums4(m0 m1 m2 m3 m4 m5 m6 m7 m8 m9 m10 m11 m12 m15 m16 m17 m18 m19 m20 m21:Int)(m13 m14:Bool)(r:Int)(l:List (List Int))(K:HEx->LV->Prop):(nbodyT true CNums anNums (nthLoop Try.f25 0) (([.ce (.sl false [4,4] l), .ce (.int .i64 r), .ce (.ptr 1000009 0), .ce (.ptr 1000010 0), .agg [.ptr 0 17, .ptr 0 18, .ptr 0 20, .ptr 0 21], .ce (.num .i64 4)],[[.int .i64 m0, .int .i64 m1, .int .i64 m2, .int .i64 m3, .int .i64 m4, .int .i64 m5, .int .i64 m6, .int .i64 m7, .int .i64 m8, .int .i64 m9, .int .i64 m10, .int .i64 m11, .int .i64 m12, .bool m13, .bool m14, .int .i64 m15, .int .i64 m16, .int .i64 m17, .int .i64 m18, .int .i64 m19, .int .i64 m20, .int .i64 m21],[.num .i64 83, .num .i64 84, .num .i64 72, .num .i64 68],[.num .i64 30000, .num .i64 32, .num .i64 32, .num .i64 32]])) K)=(K (.exit 0) ([.ce (.int .i64 r)],[[.int .i64 m0, .int .i64 m1, .int .i64 m2, .int .i64 m3, .int .i64 m4, .int .i64 m5, .int .i64 m6, .int .i64 m7, .int .i64 m8, .int .i64 m9, .int .i64 m10, .int .i64 m11, .int .i64 m12, .bool m13, .bool m14, .int .i64 m15, .int .i64 m16, .int .i64 m17, .int .i64 m18, .int .i64 m19, .int .i64 m20, .int .i64 m21],[.num .i64 83, .num .i64 84, .num .i64 72, .num .i64 68],[.num .i64 30000, .num .i64 32, .num .i64 32, .num .i64 32]])):=by kernel_rfl
end Go.Proofs.Ytaonkcjadaopgaa
namespace U
open Go Go.HL
theorem pk_true{f:Int->Option Int}{k old:Int}(h:optB (f k)=true):pk f k old=optD (f k):=by
 unfold pk optD;unfold optB at h;split at h
 . rename_i x hx;rw[hx]
 . cases h
theorem pk_false{f:Int->Option Int}{k old:Int}(h:optB (f k)=false):pk f k old=old:=by
 unfold pk;unfold optB at h;split at h
 . cases h
 . rename_i hx;rw[hx]
theorem nV_true{l:List (List Int)}{c old:Int}(h:fndB c l=true):nV l c old=wv (fndN c l):=by unfold nV;rw[h];rfl
theorem nV_false{l:List (List Int)}{c old:Int}(h:fndB c l=false):nV l c old=old:=by unfold nV;rw[h];rfl
end U
namespace Go.Proofs.Ytaonkcjadaopgaa
open Go Go.HL U
theorem ok_20{n:Int}(h:vl n=true):okU n 20=true:=by unfold okU;rw[h];rfl
theorem ok_21{n:Int}(h:vl n=true):okU n 21=true:=by unfold okU;rw[h];rfl
theorem ok_vl{n u:Int}(h:vl n=false):okU n u=false:=by unfold okU;rw[h];rfl
theorem ok_u{n u:Int}(h:u≠20)(h2:u≠21):okU n u=false:=by
 unfold okU;have e1:(u==20)=false:=by simpa using h
 have e2:(u==21)=false:=by simpa using h2
 rw[e1,e2];simp
theorem rt_bad{n u:Int}{R:Res->Prop}(hq:R ⟨.tup [.ce (.int .i64 (rtN n u)), .ce (.int .i64 (rtE n u))],false,[],[]⟩)(h:okU n u=false):R ⟨.tup [.ce (.int .i64 0), .ce (.int .i64 1)],false,[],[]⟩:=by
 have e:rtE n u=1:=by unfold rtE;rw[h];rfl
 unfold rtN at hq;rw[e]at hq;exact hq
theorem rt_out{n u:Int}{R:Res->Prop}(hq:R ⟨.tup [.ce (.int .i64 (rtN n u)), .ce (.int .i64 (rtE n u))],false,[],[]⟩)(h:okU n u=true)(h2:lnV n u<1∨lnV n u>60000000):R ⟨.tup [.ce (.int .i64 0), .ce (.int .i64 3)],false,[],[]⟩:=by
 have e:rtE n u=3:=by unfold rtE;rw[h,if_pos rfl,if_pos h2]
 unfold rtN at hq;rw[e]at hq;exact hq
theorem rt_ok{n u:Int}{R:Res->Prop}(hq:R ⟨.tup [.ce (.int .i64 (rtN n u)), .ce (.int .i64 (rtE n u))],false,[],[]⟩)(h:okU n u=true)(h2:¬(lnV n u<1∨lnV n u>60000000)){x:Int}(hx:x=lnV n u):R ⟨.tup [.ce (.int .i64 x), .ce (.int .i64 0)],false,[],[]⟩:=by
 have e:rtE n u=0:=by unfold rtE;rw[h,if_pos rfl,if_neg h2]
 unfold rtN at hq;rw[e]at hq;rw[hx];exact hq
theorem ln_bad{n u:Int}{R:Res->Prop}(hq:R ⟨.tup [.ce (.int .i64 (lnN n u)), .ce (.int .i64 (lnE n u))],false,[],[]⟩)(h:okU n u=false):R ⟨.tup [.ce (.int .i64 0), .ce (.int .i64 1)],false,[],[]⟩:=by
 have e:lnE n u=1:=by unfold lnE;rw[h];rfl
 unfold lnN at hq;rw[e]at hq;exact hq
theorem ln_out{n u:Int}{R:Res->Prop}(hq:R ⟨.tup [.ce (.int .i64 (lnN n u)), .ce (.int .i64 (lnE n u))],false,[],[]⟩)(h:okU n u=true)(h2:lnV n u< -1048576∨lnV n u>1048576):R ⟨.tup [.ce (.int .i64 0), .ce (.int .i64 3)],false,[],[]⟩:=by
 have e:lnE n u=3:=by unfold lnE;rw[h,if_pos rfl,if_pos h2]
 unfold lnN at hq;rw[e]at hq;exact hq
theorem ln_ok{n u:Int}{R:Res->Prop}(hq:R ⟨.tup [.ce (.int .i64 (lnN n u)), .ce (.int .i64 (lnE n u))],false,[],[]⟩)(h:okU n u=true)(h2:¬(lnV n u< -1048576∨lnV n u>1048576)){x:Int}(hx:x=lnV n u):R ⟨.tup [.ce (.int .i64 x), .ce (.int .i64 0)],false,[],[]⟩:=by
 have e:lnE n u=0:=by unfold lnE;rw[h,if_pos rfl,if_neg h2]
 unfold lnN at hq;rw[e]at hq;rw[hx];exact hq
theorem lnV20(n:Int):lnV n 20=mdv (n*254) 10000 2:=rfl
theorem lnV21(n:Int):lnV n 21=mdv (n*1) 1000 2:=rfl
theorem sRate:Sound Try.prog 33 SRate:=by
 refine sound_of (C:=CRate) tabRate Try.func33 (by kernel_rfl) (by decide+kernel) (by kernel_rfl) rfl ⟨sVl,sMulDiv,trivial⟩ (loops0 (by kernel_rfl)) ?_;intro hA pA R h;unfold SRate at h;split at h;case h_2=>exfalso;exact h
 rename_i n u;have hq:=h.2;clear h;refine byVC (vcRate n u R) ⟨trivial,fun x1 e1=>⟨fun k=>rt_bad hq (ok_vl (by rw[<-e1];simpa using k)),fun k=> ?_⟩⟩;have hv:vl n=true:=by rw[<-e1];simpa using k
 have hb:=vl_iff.1 hv;refine⟨fun k1=>⟨fun k2=>rt_bad hq (ok_u (by simpa using k1) (by simpa using k2)),fun k2=> ?_⟩,fun k1=> ?_⟩
 . have k1:u≠20:=by simpa using k1
   have k2:u=21:=by simpa using k2
   subst k2;have h21:=ok_21 hv;have hl:=lnV21 n;refine⟨⟨by omega,by omega,by omega,by omega,by omega⟩,fun x2 e2 x3 e3=>⟨fun z=>absurd z (by simp),fun z=>⟨fun a=>rt_out hq h21 (.inl ?_),fun a=>⟨fun b=>rt_out hq h21 (.inr ?_),fun b=>rt_ok hq h21 ?_ (by omega)⟩⟩⟩⟩;all_goals
    simp only[decide_eq_true_eq,decide_eq_false_iff_not]at*;omega
 . have k1:u=20:=by simpa using k1
   subst k1;have h20:=ok_20 hv;have hl:=lnV20 n;refine⟨⟨by omega,by omega,by omega,by omega,by omega⟩,fun x2 e2 x3 e3=>⟨fun z=>⟨⟨by omega,by omega,by omega,by omega,by omega⟩,fun x4 e4 x5 e5=>⟨fun a=>rt_out hq h20 (.inl ?_),fun a=>⟨fun b=>rt_out hq h20 (.inr ?_),fun b=>rt_ok hq h20 ?_ (by omega)⟩⟩⟩,fun z=>absurd z (by simp)⟩⟩;all_goals
    simp only[decide_eq_true_eq,decide_eq_false_iff_not]at*;omega
theorem sLen:Sound Try.prog 27 SLen:=by
 refine sound_of (C:=CLen) tabRate Try.func27 (by kernel_rfl) (by decide+kernel) (by kernel_rfl) rfl ⟨sVl,sMulDiv,trivial⟩ (loops0 (by kernel_rfl)) ?_;intro hA pA R h;unfold SLen at h;split at h;case h_2=>exfalso;exact h
 rename_i n u;have hq:=h.2;clear h;refine byVC (vcLen n u R) ⟨trivial,fun x1 e1=>⟨fun k=>ln_bad hq (ok_vl (by rw[<-e1];simpa using k)),fun k=> ?_⟩⟩;have hv:vl n=true:=by rw[<-e1];simpa using k
 have hb:=vl_iff.1 hv;refine⟨fun k1=>⟨fun k2=>ln_bad hq (ok_u (by simpa using k1) (by simpa using k2)),fun k2=> ?_⟩,fun k1=> ?_⟩
 . have k1:u≠20:=by simpa using k1
   have k2:u=21:=by simpa using k2
   subst k2;have h21:=ok_21 hv;have hl:=lnV21 n;refine⟨⟨by omega,by omega,by omega,by omega,by omega⟩,fun x2 e2 x3 e3=>⟨fun z=>absurd z (by simp),fun z=>⟨fun y=>absurd y (by simp[e3]),fun y=>⟨fun a=>ln_out hq h21 (.inl ?_),fun a=>⟨fun b=>ln_out hq h21 (.inr ?_),fun b=>ln_ok hq h21 ?_ (by omega)⟩⟩⟩⟩⟩;all_goals
    simp only[decide_eq_true_eq,decide_eq_false_iff_not]at*;omega
 . have k1:u=20:=by simpa using k1
   subst k1;have h20:=ok_20 hv;have hl:=lnV20 n;refine⟨⟨by omega,by omega,by omega,by omega,by omega⟩,fun x2 e2 x3 e3=>⟨fun z=>⟨⟨by omega,by omega,by omega,by omega,by omega⟩,fun x4 e4 x5 e5=>⟨fun y=>absurd y (by simp[e5]),fun y=>⟨fun a=>ln_out hq h20 (.inl ?_),fun a=>⟨fun b=>ln_out hq h20 (.inr ?_),fun b=>ln_ok hq h20 ?_ (by omega)⟩⟩⟩⟩,fun z=>absurd z (by simp)⟩⟩;all_goals
    simp only[decide_eq_true_eq,decide_eq_false_iff_not]at*;omega
theorem loopCodes:∀v Q,(LCodes v).wp Q->hloop CCodes anCodes (nthLoop Try.f23 0) v Q:=by
 intro v Q h;unfold LCodes at h;split at h;case h_2=>exfalso;exact h
 rename_i l len k f0;obtain⟨⟨h1,h2,h3⟩,hq⟩:=h;subst h1 h2;refine hloop_rec (σ:=Nat×(Int->Option Int)) (fun s=>([.ce (.mapv 1000009), .ce (.sl false [4,4] l), .ce (.int .i64 (l.length:Int)), .ce (.int .i64 (s.1:Int))],[[.mpb s.2]])) (fun s=>l.length-s.1) (fun s=>s.1<=l.length/\cds l f0=cds (l.drop s.1) s.2) ?_ (0,f0) ⟨Nat.zero_le _,rfl⟩;rintro⟨j,f⟩⟨hj,hp⟩K hn he _;dsimp only at hj hp hn;refine byVB (vbCodes _ j l f K) ⟨fun hlt=>⟨by have:=of_decide_eq_true hlt;omega,trivial,fun x1 e1 x2 e2=> ?_⟩,fun hge=> ?_⟩
 . have hlt:=of_decide_eq_true hlt;have hjl:j<l.length:=by omega
   rw[drop_cons l hjl]at hp;have ej:((j:Nat):Int).toNat=j:=by omega
   rw[ej]at e1 e2⊢;have hc:cds (l.getD j []::l.drop (j+1)) f=cds (l.drop (j+1)) (if x2&&decide (grp (el l j) x1>0)then mput f (grp (el l j) x1) x1 else f):=by rw[e1,e2];rfl
   rw[hc]at hp;have next:∀(f':Int->Option Int)(x:Int),x=(j:Int)+1->cds l f0=cds (l.drop (j+1)) f'->K .normal ([.ce (.mapv 1000009), .ce (.sl false [4,4] l), .ce (.int .i64 (l.length:Int)), .ce (.int .i64 x)],[[.mpb f']]):=by
    intro f' x hx h1;rw[show x=((j+1:Nat):Int)by omega];exact hn (j+1,f') ⟨by dsimp only;omega,h1⟩ (by dsimp only;omega)
   refine⟨fun k1=>⟨trivial,fun x3 e3=>⟨fun k2=>⟨by omega,fun x e=>next _ x e ?_⟩,fun k2=>⟨by omega,fun x e=>next _ x e ?_⟩⟩⟩,fun k1=>⟨by omega,fun x e=>next _ x e ?_⟩⟩
   . rw[hp,k1,<-e3,k2];rfl
   . rw[hp,k1,<-e3,k2];rfl
   . rw[hp,k1];rfl
 . have hge:=of_decide_eq_false hge;have:j=l.length:=by omega
   subst this;rw[List.drop_length]at hp;have hp:cds l f0=f:=hp;rw[hp]at hq;exact he _ _ hq
theorem sCodes:Sound Try.prog 23 SCodes:=by
 refine sound_of (C:=CCodes) tabCodes Try.func23 (by kernel_rfl) (by decide+kernel) (by kernel_rfl) rfl ⟨sCode,sGroup,trivial⟩ (loops1 (by kernel_rfl) (loopOK_of (an:=anCodes) (S:=LCodes) (by kernel_rfl) loopCodes)) ?_;intro hA pA R h;unfold SCodes at h;split at h;case h_2=>exfalso;exact h
 rename_i l;have hq:=h.2;exact byVC (vcCodes l R) ⟨⟨rfl,rfl,h.1⟩,hq⟩
def encSel(f:Int->Option Int)(s:Nat×M):LV:=([.ce (.ptr 0 0), .ce (.mapv 1), .agg [.ptr 0 0, .ptr 0 1, .ptr 0 2, .ptr 0 3, .ptr 0 4, .ptr 0 5, .ptr 0 6, .ptr 0 7, .ptr 0 8, .ptr 0 9, .ptr 0 10, .ptr 0 11], .ce (.num .i64 (s.1:Int))],[cM s.2,[.mpb f]])
theorem selL_succ(f:Int->Option Int)(n i:Nat)(m:M):selL f (n+1) i m=selL f n (i+1) (setM m i (pk f ((i:Int)+1) (getM m i))):=rfl
theorem setM_get(m:M):∀i:Nat,setM m i (getM m i)=m
 |0=>rfl
 |1=>rfl
 |2=>rfl
 |3=>rfl
 |4=>rfl
 |5=>rfl
 |6=>rfl
 |7=>rfl
 |8=>rfl
 |9=>rfl
 |10=>rfl
 |_+11=>rfl
theorem pick_step{f:Int->Option Int}{k:Int}{i:Nat}{m:M}{K:M->Prop}(h:K (setM m i (pk f k (getM m i)))):(optB (f k)=true->K (setM m i (optD (f k))))/\(optB (f k)=false->K m):=by
 constructor
 . intro e;rw[pk_true e]at h;exact h
 . intro e;rw[pk_false e,setM_get]at h;exact h
theorem loopSel:∀v Q,(LSel v).wp Q->hloop CSel anSel (nthLoop Try.f24 0) v Q:=by
 intro v Q h;unfold LSel at h;split at h;case h_2=>exfalso;exact h
 rename_i b f;split at h;case h_2=>exfalso;exact h
 rename_i m0 m1 m2 m3 m4 m5 m6 m7 m8 m9 m10 m11 m12 m13 m14 m15 m16 m17 m18 m19 m20 m21;have hq:=h.2;clear h;generalize hfin:selL f 12 0 (M.mk m0 m1 m2 m3 m4 m5 m6 m7 m8 m9 m10 m11 m12 m13 m14 m15 m16 m17 m18 m19 m20 m21)=fin at hq;refine hloop_rec (σ:=Nat×M) (encSel f) (fun s=>12-s.1) (fun s=>s.1<=12/\selL f (12-s.1) s.1 s.2=fin) ?_ (0,(M.mk m0 m1 m2 m3 m4 m5 m6 m7 m8 m9 m10 m11 m12 m13 m14 m15 m16 m17 m18 m19 m20 m21)) ⟨Nat.zero_le _,hfin⟩;clear hfin;rintro⟨j,m⟩⟨hj,hp⟩K hn he _;dsimp only at hj hp hn;obtain⟨m0,m1,m2,m3,m4,m5,m6,m7,m8,m9,m10,m11,m12,m13,m14,m15,m16,m17,m18,m19,m20,m21⟩:=m;have hst:∀i:Nat,i<12->j=i->K .normal (encSel f (i+1,setM (M.mk m0 m1 m2 m3 m4 m5 m6 m7 m8 m9 m10 m11 m12 m13 m14 m15 m16 m17 m18 m19 m20 m21) i (pk f ((i:Int)+1) (getM (M.mk m0 m1 m2 m3 m4 m5 m6 m7 m8 m9 m10 m11 m12 m13 m14 m15 m16 m17 m18 m19 m20 m21) i)))):=by
  intro i hi e;subst e;refine hn (j+1,_) ⟨by dsimp only;omega,?_⟩ (by dsimp only;omega);dsimp only;rw[show 12-j=(12-(j+1))+1 by omega,selL_succ]at hp;exact hp
 have hcases:j=0∨j=1∨j=2∨j=3∨j=4∨j=5∨j=6∨j=7∨j=8∨j=9∨j=10∨j=11∨j=12:=by omega
 rcases hcases with rfl|rfl|rfl|rfl|rfl|rfl|rfl|rfl|rfl|rfl|rfl|rfl|rfl
 . refine byVB (vbSel0 m0 m1 m2 m3 m4 m5 m6 m7 m8 m9 m10 m11 m12 m15 m16 m17 m18 m19 m20 m21 m13 m14 f K) ?_;exact pick_step (i:=0) (m:=(M.mk m0 m1 m2 m3 m4 m5 m6 m7 m8 m9 m10 m11 m12 m13 m14 m15 m16 m17 m18 m19 m20 m21)) (K:=fun m'=>K .normal (encSel f (1,m'))) (hst 0 (by omega) rfl)
 . refine byVB (vbSel1 m0 m1 m2 m3 m4 m5 m6 m7 m8 m9 m10 m11 m12 m15 m16 m17 m18 m19 m20 m21 m13 m14 f K) ?_;exact pick_step (i:=1) (m:=(M.mk m0 m1 m2 m3 m4 m5 m6 m7 m8 m9 m10 m11 m12 m13 m14 m15 m16 m17 m18 m19 m20 m21)) (K:=fun m'=>K .normal (encSel f (2,m'))) (hst 1 (by omega) rfl)
 . refine byVB (vbSel2 m0 m1 m2 m3 m4 m5 m6 m7 m8 m9 m10 m11 m12 m15 m16 m17 m18 m19 m20 m21 m13 m14 f K) ?_;exact pick_step (i:=2) (m:=(M.mk m0 m1 m2 m3 m4 m5 m6 m7 m8 m9 m10 m11 m12 m13 m14 m15 m16 m17 m18 m19 m20 m21)) (K:=fun m'=>K .normal (encSel f (3,m'))) (hst 2 (by omega) rfl)
 . refine byVB (vbSel3 m0 m1 m2 m3 m4 m5 m6 m7 m8 m9 m10 m11 m12 m15 m16 m17 m18 m19 m20 m21 m13 m14 f K) ?_;exact pick_step (i:=3) (m:=(M.mk m0 m1 m2 m3 m4 m5 m6 m7 m8 m9 m10 m11 m12 m13 m14 m15 m16 m17 m18 m19 m20 m21)) (K:=fun m'=>K .normal (encSel f (4,m'))) (hst 3 (by omega) rfl)
 . refine byVB (vbSel4 m0 m1 m2 m3 m4 m5 m6 m7 m8 m9 m10 m11 m12 m15 m16 m17 m18 m19 m20 m21 m13 m14 f K) ?_;exact pick_step (i:=4) (m:=(M.mk m0 m1 m2 m3 m4 m5 m6 m7 m8 m9 m10 m11 m12 m13 m14 m15 m16 m17 m18 m19 m20 m21)) (K:=fun m'=>K .normal (encSel f (5,m'))) (hst 4 (by omega) rfl)
 . refine byVB (vbSel5 m0 m1 m2 m3 m4 m5 m6 m7 m8 m9 m10 m11 m12 m15 m16 m17 m18 m19 m20 m21 m13 m14 f K) ?_;exact pick_step (i:=5) (m:=(M.mk m0 m1 m2 m3 m4 m5 m6 m7 m8 m9 m10 m11 m12 m13 m14 m15 m16 m17 m18 m19 m20 m21)) (K:=fun m'=>K .normal (encSel f (6,m'))) (hst 5 (by omega) rfl)
 . refine byVB (vbSel6 m0 m1 m2 m3 m4 m5 m6 m7 m8 m9 m10 m11 m12 m15 m16 m17 m18 m19 m20 m21 m13 m14 f K) ?_;exact pick_step (i:=6) (m:=(M.mk m0 m1 m2 m3 m4 m5 m6 m7 m8 m9 m10 m11 m12 m13 m14 m15 m16 m17 m18 m19 m20 m21)) (K:=fun m'=>K .normal (encSel f (7,m'))) (hst 6 (by omega) rfl)
 . refine byVB (vbSel7 m0 m1 m2 m3 m4 m5 m6 m7 m8 m9 m10 m11 m12 m15 m16 m17 m18 m19 m20 m21 m13 m14 f K) ?_;exact pick_step (i:=7) (m:=(M.mk m0 m1 m2 m3 m4 m5 m6 m7 m8 m9 m10 m11 m12 m13 m14 m15 m16 m17 m18 m19 m20 m21)) (K:=fun m'=>K .normal (encSel f (8,m'))) (hst 7 (by omega) rfl)
 . refine byVB (vbSel8 m0 m1 m2 m3 m4 m5 m6 m7 m8 m9 m10 m11 m12 m15 m16 m17 m18 m19 m20 m21 m13 m14 f K) ?_;exact pick_step (i:=8) (m:=(M.mk m0 m1 m2 m3 m4 m5 m6 m7 m8 m9 m10 m11 m12 m13 m14 m15 m16 m17 m18 m19 m20 m21)) (K:=fun m'=>K .normal (encSel f (9,m'))) (hst 8 (by omega) rfl)
 . refine byVB (vbSel9 m0 m1 m2 m3 m4 m5 m6 m7 m8 m9 m10 m11 m12 m15 m16 m17 m18 m19 m20 m21 m13 m14 f K) ?_;exact pick_step (i:=9) (m:=(M.mk m0 m1 m2 m3 m4 m5 m6 m7 m8 m9 m10 m11 m12 m13 m14 m15 m16 m17 m18 m19 m20 m21)) (K:=fun m'=>K .normal (encSel f (10,m'))) (hst 9 (by omega) rfl)
 . refine byVB (vbSel10 m0 m1 m2 m3 m4 m5 m6 m7 m8 m9 m10 m11 m12 m15 m16 m17 m18 m19 m20 m21 m13 m14 f K) ?_;exact pick_step (i:=10) (m:=(M.mk m0 m1 m2 m3 m4 m5 m6 m7 m8 m9 m10 m11 m12 m13 m14 m15 m16 m17 m18 m19 m20 m21)) (K:=fun m'=>K .normal (encSel f (11,m'))) (hst 10 (by omega) rfl)
 . refine byVB (vbSel11 m0 m1 m2 m3 m4 m5 m6 m7 m8 m9 m10 m11 m12 m15 m16 m17 m18 m19 m20 m21 m13 m14 f K) ?_;exact pick_step (i:=11) (m:=(M.mk m0 m1 m2 m3 m4 m5 m6 m7 m8 m9 m10 m11 m12 m13 m14 m15 m16 m17 m18 m19 m20 m21)) (K:=fun m'=>K .normal (encSel f (12,m'))) (hst 11 (by omega) rfl)
 . refine byVB (vbSel12 m0 m1 m2 m3 m4 m5 m6 m7 m8 m9 m10 m11 m12 m15 m16 m17 m18 m19 m20 m21 m13 m14 f K) ?_;have hp:(M.mk m0 m1 m2 m3 m4 m5 m6 m7 m8 m9 m10 m11 m12 m13 m14 m15 m16 m17 m18 m19 m20 m21)=fin:=hp;subst hp;exact he _ _ hq
def encNums(l:List (List Int))(r:Int)(s:Nat×M):LV:=([.ce (.sl false [4,4] l), .ce (.int .i64 r), .ce (.ptr 1000009 0), .ce (.ptr 1000010 0), .agg [.ptr 0 17, .ptr 0 18, .ptr 0 20, .ptr 0 21], .ce (.num .i64 (s.1:Int))],[cM s.2,[.num .i64 83, .num .i64 84, .num .i64 72, .num .i64 68],[.num .i64 30000, .num .i64 32, .num .i64 32, .num .i64 32]])
theorem numL_succ(l:List (List Int))(n i:Nat)(m:M):numL l (n+1) i m=if nOK l (fld i) (lmt i)then numL l n (i+1) (setN m i (nV l (fld i) (getN m i)))else(1,m):=rfl
theorem setN_get(m:M):∀i:Nat,setN m i (getN m i)=m
 |0=>rfl
 |1=>rfl
 |2=>rfl
 |_+3=>rfl
theorem num_step{l:List (List Int)}{c lim:Int}{i:Nat}{m:M}{K:M->Prop}{E:Prop}(hl:l.length<=1000)(hn:nOK l c lim=true->K (setN m i (nV l c (getN m i))))(hr:nOK l c lim=false->E):l.length<=1000/\∀x1:Int,x1=fndN c l->∀x2:Bool,x2=fndB c l->((!x2)=true->K m)/\((!x2)=false->True/\∀x3:Int,x3=wv x1->∀x4:Bool,x4=isw x1->((!x4)=true->E)/\((!x4)=false->(decide (x3<0)=true->E)/\(decide (x3<0)=false->(decide (x3>lim)=true->E)/\(decide (x3>lim)=false->K (setN m i x3))))):=by
 refine⟨hl,fun x1 e1 x2 e2=>⟨fun k=> ?_,fun k=>⟨trivial,fun x3 e3 x4 e4=>⟨fun q=>hr ?_,fun q=>⟨fun q2=>hr ?_,fun q2=>⟨fun q3=>hr ?_,fun q3=> ?_⟩⟩⟩⟩⟩⟩
 . have hb:fndB c l=false:=by rw[<-e2];simpa using k
   have:=hn (by unfold nOK;rw[hb];rfl);rw[nV_false hb,setN_get]at this;exact this
 all_goals
  have hb:fndB c l=true:=by rw[<-e2];simpa using k
 . unfold nOK;rw[hb,<-e1,<-e4,show x4=false by simpa using q];rfl
 . have q2:=of_decide_eq_true q2;unfold nOK;rw[hb,<-e1,<-e3,decide_eq_false (by omega),Bool.and_false];rfl
 . have q3:=of_decide_eq_true q3;unfold nOK;rw[hb,<-e1,<-e3,decide_eq_false (by omega),Bool.and_false];rfl
 . have q2:=of_decide_eq_false q2;have q3:=of_decide_eq_false q3;have:=hn (by unfold nOK;rw[hb,<-e1,<-e3,<-e4,show x4=true by simpa using q,decide_eq_true (by omega)];rfl);rw[nV_true hb,<-e1,<-e3]at this;exact this
theorem loopNums:∀v Q,(LNums v).wp Q->hloop CNums anNums (nthLoop Try.f25 0) v Q:=by
 intro v Q h;unfold LNums at h;split at h;case h_2=>exfalso;exact h
 rename_i l r b;split at h;case h_2=>exfalso;exact h
 rename_i m0 m1 m2 m3 m4 m5 m6 m7 m8 m9 m10 m11 m12 m13 m14 m15 m16 m17 m18 m19 m20 m21;have hl:=h.1;have hq:=h.2;clear h;generalize hfin:numL l 4 0 (M.mk m0 m1 m2 m3 m4 m5 m6 m7 m8 m9 m10 m11 m12 m13 m14 m15 m16 m17 m18 m19 m20 m21)=fin at hq;obtain⟨hq1,hq2⟩:=hq;refine hloop_rec (σ:=Nat×M) (encNums l r) (fun s=>4-s.1) (fun s=>s.1<=4/\numL l (4-s.1) s.1 s.2=fin) ?_ (0,(M.mk m0 m1 m2 m3 m4 m5 m6 m7 m8 m9 m10 m11 m12 m13 m14 m15 m16 m17 m18 m19 m20 m21)) ⟨Nat.zero_le _,hfin⟩;clear hfin;rintro⟨j,m⟩⟨hj,hp⟩K hn he hr;dsimp only at hj hp hn;obtain⟨m0,m1,m2,m3,m4,m5,m6,m7,m8,m9,m10,m11,m12,m13,m14,m15,m16,m17,m18,m19,m20,m21⟩:=m;have hst:∀i:Nat,i<4->j=i->nOK l (fld i) (lmt i)=true->K .normal (encNums l r (i+1,setN (M.mk m0 m1 m2 m3 m4 m5 m6 m7 m8 m9 m10 m11 m12 m13 m14 m15 m16 m17 m18 m19 m20 m21) i (nV l (fld i) (getN (M.mk m0 m1 m2 m3 m4 m5 m6 m7 m8 m9 m10 m11 m12 m13 m14 m15 m16 m17 m18 m19 m20 m21) i)))):=by
  intro i hi e ho;subst e;refine hn (j+1,_) ⟨by dsimp only;omega,?_⟩ (by dsimp only;omega);dsimp only;rw[show 4-j=(4-(j+1))+1 by omega,numL_succ,ho]at hp;exact hp
 have hbad:∀i:Nat,i<4->j=i->nOK l (fld i) (lmt i)=false->K .ret ([.ce (.int .i64 1)],[cM (M.mk m0 m1 m2 m3 m4 m5 m6 m7 m8 m9 m10 m11 m12 m13 m14 m15 m16 m17 m18 m19 m20 m21),[.num .i64 83, .num .i64 84, .num .i64 72, .num .i64 68],[.num .i64 30000, .num .i64 32, .num .i64 32, .num .i64 32]]):=by
  intro i hi e ho;subst e;rw[show 4-j=(4-(j+1))+1 by omega,numL_succ,ho]at hp;have hp:((1:Int),(M.mk m0 m1 m2 m3 m4 m5 m6 m7 m8 m9 m10 m11 m12 m13 m14 m15 m16 m17 m18 m19 m20 m21))=fin:=hp;subst hp;exact hr _ (hq2 (by intro h;exact absurd (show(1:Int)=0 from h) (by decide)))
 have hcases:j=0∨j=1∨j=2∨j=3∨j=4:=by omega
 rcases hcases with rfl|rfl|rfl|rfl|rfl
 . refine byVB (vbNums0 m0 m1 m2 m3 m4 m5 m6 m7 m8 m9 m10 m11 m12 m15 m16 m17 m18 m19 m20 m21 m13 m14 r l K) ?_;exact num_step (c:=fld 0) (lim:=lmt 0) (i:=0) (m:=(M.mk m0 m1 m2 m3 m4 m5 m6 m7 m8 m9 m10 m11 m12 m13 m14 m15 m16 m17 m18 m19 m20 m21)) (K:=fun m'=>K .normal (encNums l r (1,m'))) hl (hst 0 (by omega) rfl) (hbad 0 (by omega) rfl)
 . refine byVB (vbNums1 m0 m1 m2 m3 m4 m5 m6 m7 m8 m9 m10 m11 m12 m15 m16 m17 m18 m19 m20 m21 m13 m14 r l K) ?_;exact num_step (c:=fld 1) (lim:=lmt 1) (i:=1) (m:=(M.mk m0 m1 m2 m3 m4 m5 m6 m7 m8 m9 m10 m11 m12 m13 m14 m15 m16 m17 m18 m19 m20 m21)) (K:=fun m'=>K .normal (encNums l r (2,m'))) hl (hst 1 (by omega) rfl) (hbad 1 (by omega) rfl)
 . refine byVB (vbNums2 m0 m1 m2 m3 m4 m5 m6 m7 m8 m9 m10 m11 m12 m15 m16 m17 m18 m19 m20 m21 m13 m14 r l K) ?_;exact num_step (c:=fld 2) (lim:=lmt 2) (i:=2) (m:=(M.mk m0 m1 m2 m3 m4 m5 m6 m7 m8 m9 m10 m11 m12 m13 m14 m15 m16 m17 m18 m19 m20 m21)) (K:=fun m'=>K .normal (encNums l r (3,m'))) hl (hst 2 (by omega) rfl) (hbad 2 (by omega) rfl)
 . refine byVB (vbNums3 m0 m1 m2 m3 m4 m5 m6 m7 m8 m9 m10 m11 m12 m15 m16 m17 m18 m19 m20 m21 m13 m14 r l K) ?_;exact num_step (c:=fld 3) (lim:=lmt 3) (i:=3) (m:=(M.mk m0 m1 m2 m3 m4 m5 m6 m7 m8 m9 m10 m11 m12 m13 m14 m15 m16 m17 m18 m19 m20 m21)) (K:=fun m'=>K .normal (encNums l r (4,m'))) hl (hst 3 (by omega) rfl) (hbad 3 (by omega) rfl)
 . refine byVB (vbNums4 m0 m1 m2 m3 m4 m5 m6 m7 m8 m9 m10 m11 m12 m15 m16 m17 m18 m19 m20 m21 m13 m14 r l K) ?_;have hp:((0:Int),(M.mk m0 m1 m2 m3 m4 m5 m6 m7 m8 m9 m10 m11 m12 m13 m14 m15 m16 m17 m18 m19 m20 m21))=fin:=hp;subst hp;exact he _ _ (hq1 rfl)
theorem sNums:Sound Try.prog 25 SNums:=by
 refine sound_of (C:=CNums) tabNums Try.func25 (by kernel_rfl) (by decide+kernel) (by kernel_rfl) rfl ⟨sFind,sRate,sWhole,trivial⟩ (loops1 (by kernel_rfl) (loopOK_of (an:=anNums) (S:=LNums) (by kernel_rfl) loopNums)) ?_;intro hA pA R h;unfold SNums at h;split at h;case h_2=>exfalso;exact h
 rename_i l b;split at h;case h_2=>exfalso;exact h
 rename_i m0 m1 m2 m3 m4 m5 m6 m7 m8 m9 m10 m11 m12 m13 m14 m15 m16 m17 m18 m19 m20 m21;have hl:=h.1;have hq:=h.2;clear h;unfold numM at hq;dsimp only at hq;refine byVC (vcNums m0 m1 m2 m3 m4 m5 m6 m7 m8 m9 m10 m11 m12 m15 m16 m17 m18 m19 m20 m21 m13 m14 l R) ⟨hl,fun x1 e1 x2 e2=>⟨fun k=>⟨trivial,fun x3 e3 x4 e4=>⟨fun z=> ?_,fun z=>⟨hl,?_⟩⟩⟩,fun k=>⟨hl,?_⟩⟩⟩
 . rw[<-e2,k,if_pos rfl,<-e1,<-e4]at hq;have z:x4≠0:=by simpa using z
   rw[if_pos z]at hq;exact hq
 . rw[<-e2,k,if_pos rfl,<-e1,<-e4,<-e3]at hq;have z:x4=0:=by simpa using z
   rw[if_neg (fun h=>h z)]at hq;generalize numL l 4 0 _=fin at*;obtain⟨fe,⟨m0,m1,m2,m3,m4,m5,m6,m7,m8,m9,m10,m11,m12,m13,m14,m15,m16,m17,m18,m19,m20,m21⟩⟩:=fin;refine⟨fun y=> ?_,fun y=> ?_⟩
   . have y:fe=0:=y;subst y;exact hq
   . exact hq
 . rw[<-e2,k,if_neg (by simp)]at hq;generalize numL l 4 0 _=fin at*;obtain⟨fe,⟨m0,m1,m2,m3,m4,m5,m6,m7,m8,m9,m10,m11,m12,m13,m14,m15,m16,m17,m18,m19,m20,m21⟩⟩:=fin;refine⟨fun y=> ?_,fun y=> ?_⟩
   . have y:fe=0:=y;subst y;exact hq
   . exact hq
section
attribute [local irreducible] hfun
theorem sSel:Sound Try.prog 24 SSel:=by
 refine sound_of (C:=CSel) [] Try.func24 (by kernel_rfl) (by decide+kernel) (by kernel_rfl) rfl trivial (loops1 (by kernel_rfl) (loopOK_of (an:=anSel) (S:=LSel) (by kernel_rfl) loopSel)) ?_;intro hA pA R h;unfold SSel at h;split at h;case h_2=>exfalso;exact h
 rename_i b f;split at h;case h_2=>exact h.elim
 rename_i m0 m1 m2 m3 m4 m5 m6 m7 m8 m9 m10 m11 m12 m13 m14 m15 m16 m17 m18 m19 m20 m21;have h:True/\R ⟨.tup [],false,[cM (selM f (M.mk m0 m1 m2 m3 m4 m5 m6 m7 m8 m9 m10 m11 m12 m13 m14 m15 m16 m17 m18 m19 m20 m21)),[.mpb f]],[]⟩:=h;have hq:=h.2;clear h;unfold selM at hq;dsimp only at hq;refine byVC (vcSel m0 m1 m2 m3 m4 m5 m6 m7 m8 m9 m10 m11 m12 m15 m16 m17 m18 m19 m20 m21 m13 m14 f R) ⟨trivial,?_⟩;generalize selL f 12 0 (M.mk m0 m1 m2 m3 m4 m5 m6 m7 m8 m9 m10 m11 m12 m13 m14 m15 m16 m17 m18 m19 m20 m21)=a at*;obtain⟨m0,m1,m2,m3,m4,m5,m6,m7,m8,m9,m10,m11,m12,m13,m14,m15,m16,m17,m18,m19,m20,m21⟩:=a;dsimp only at hq⊢;refine⟨fun k1=> ?_,fun k1=> ?_⟩
 . rw[pk_true k1]at hq;refine⟨fun k2=>⟨fun k3=> ?_,fun k3=> ?_⟩,fun k2=>⟨fun k3=> ?_,fun k3=> ?_⟩⟩;all_goals
    simp only[beq_iff_eq,beq_eq_false_iff_ne,ne_eq]at k2 k3;simp only[k2,k3,if_true,if_false]at hq;exact hq
 . rw[pk_false k1]at hq;refine⟨fun k2=>⟨fun k3=> ?_,fun k3=> ?_⟩,fun k2=>⟨fun k3=> ?_,fun k3=> ?_⟩⟩;all_goals
    simp only[beq_iff_eq,beq_eq_false_iff_ne,ne_eq]at k2 k3;simp only[k2,k3,if_true,if_false]at hq;exact hq
end
end Go.Proofs.Ytaonkcjadaopgaa
