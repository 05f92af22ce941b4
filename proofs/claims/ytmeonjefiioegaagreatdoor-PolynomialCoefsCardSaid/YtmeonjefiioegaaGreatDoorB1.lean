/- Helpers for the statements: facts about numbers, fractions and polynomials as lists, and the proofs of the conditions. Condition: none. -/
import Derived.Test.YtmeonjefiioegaaGreatDoorB0
section
namespace ab
open Go Go.al Go.Sort
theorem BP:∀x y:List Int,ez y x=-ez x y
 |[],[]=>rfl
 |[],_::_=>rfl
 |_::_,[]=>rfl
 |a::x,b::y=>by
  have bF:=BP x y;unfold ez
  by_cases h:b<a
  ·rw[aoy h,aox (show ¬a<b by omega),aoy h]
  ·rw[aox h]
   by_cases aa:a<b
   ·rw[aoy aa,aoy aa];rfl
   ·rw[aox aa,aox aa,aox h];exact bF
theorem HY:∀x y z:List Int,ez x y<=0->ez y z<=0->ez x z<=0
 |[],_,[]=>fun _ _=>Int.le_refl _
 |[],_,_::_=>fun _ _=>by simp[ez]
 |a::x,[],_=>fun h=>by simp[ez]at h
 |a::x,b::y,[]=>fun _ h=>by simp[ez]at h
 |a::x,b::y,c::z=>fun U aa=>by
  have bF:=HY x y z;unfold ez at U aa⊢
  by_cases aA:a<b
  ·by_cases aL:b<c
   ·rw[aoy (by omega)];decide
   ·rw[aox aL]at aa
    by_cases b3:c<b
    ·rw[aoy b3]at aa;cases aa
    ·rw[aoy (by omega)];decide
  ·rw[aox aA]at U
   by_cases b3:b<a
   ·rw[aoy b3]at U;cases U
   ·rw[aox b3]at U;have:a=b:=by omega
    subst this
    by_cases cX:a<c
    ·rw[aoy cX];decide
    ·rw[aox cX]at aa⊢
     by_cases hn:c<a
     ·rw[aoy hn]at aa;cases aa
     ·rw[aox hn]at aa⊢;exact bF U aa
theorem adB (a b:Row):bk a b=true↔0<ez (dq a) (dq b):=by
 unfold bk gH;rw[aoD];omega
theorem Rr (a b:Row):bk a b=false↔ez (dq a) (dq b)<=0:=by
 unfold bk gH;rw[aoC];omega
theorem q5:SWO bk where
 irrefl x:=by
  rw[Rr];have:=BP (dq x) (dq x);omega
 trans x y z U aa:=by
  rw[adB]at U aa⊢;refine Int.not_le.1 fun h=> ?_;have az:=BP (dq y) (dq z);have:=HY (dq x) (dq z) (dq y) h (by omega);omega
 ntrans x y z U aa:=by
  rw[Rr]at U aa⊢;exact HY _ _ _ U aa
theorem tY {l:Rows}{d:Array Row}{a b:Nat}(ax:c7 l)(ag:b<=l.length)(aE:PermIn a b l.toArray d):c7 d.toList/\d.toList.length=l.length:=by
 have ay:d.size=l.length:=by rw[aE.1];simp
 refine⟨fun r an=> ?_,by simpa using ay⟩;obtain⟨i,hi,rfl⟩:=aqu an;have eL:i<d.size:=by simpa using hi
 have e:d.toList[i]=d[i]! :=by simp[eL]
 rw[e]
 by_cases h:a<=i/\i<b
 ·refine permIn_all l.toArray d a b eP (by simpa using ag) aE (fun j U aa=> ?_) i h.1 h.2;rw[wF];exact ax.get (by omega)
 ·rw[aE.2.1 i (by omega),wF];exact ax.get (by omega)
theorem Xp (x:Int)(K:J->Prop)(h:wP.T [.d (.int .u64 x)] K):Mk x K:=by
 obtain⟨ai,ae⟩:=h
 obtain⟨n,rfl⟩:∃n:Nat,x=n:=⟨x.toNat,by omega⟩
 rw[aoB]at ae;unfold Mk ah;refine⟨fun v s=>∃m k:Nat,v=m/\s=k/\m<4294967296/\k<=32/\c4 n=c4 m+k,⟨fun h=> ?_,fun h=> ?_⟩, ?_⟩
 ·simp only[aoD]at h;have:=yv (n:=n) (k:=32) (by omega);refine⟨n/4294967296,32, ?_,rfl,by omega,by omega,this⟩;rw[apg _ (by omega)];omega
 ·simp only[aoC]at h;exact⟨n,0,rfl,rfl,by omega,by omega,rfl⟩
 rintro v s ⟨m,k,rfl,rfl,hm,EX,he⟩;refine⟨fun v s=>∃m k:Nat,v=m/\s=k/\m<65536/\k<=48/\c4 n=c4 m+k,⟨fun h=> ?_,fun h=> ?_⟩, ?_⟩
 ·simp only[aoD]at h;have:=yv (n:=m) (k:=16) (by omega);rw[bR (x:=(k:Int)+16) (by omega)];refine⟨m/65536,k+16, ?_,by omega,by omega,by omega,by rw[he,this];show c4 (m/65536)+16+k=_;omega⟩;rw[apg _ (by omega)];omega
 ·simp only[aoC]at h;exact⟨m,k,rfl,rfl,by omega,by omega,he⟩
 clear hm EX he;rintro v s ⟨m,k,rfl,rfl,hm,anR,he⟩
 have fin:∀(q c:Nat),q<256->c<=56->c4 n=c4 q+c->K (.d (.int .i64 (IntKind.wrap .i64 ((c:Int)+IntKind.wrap .i64 (tab.getD q 0))))):=fun q c a_ aC e=>by
  have ag:=wE (n:=q) (k:=8) (by omega);rw[Qz q a_,bR (x:=(c4 q:Int)) (by omega),bR (by omega)];rw[show(c:Int)+(c4 q:Int)=((c4 n:Nat):Int) by omega];exact ae
 refine⟨fun h=> ?_,fun h=> ?_⟩
 ·simp only[aoD]at h
  have a8:IntKind.wrap .u8 (Int.fdiv (m:Int) 256)=((m/256:Nat):Int):=by
   rw[apg _ (by omega),z8 (by omega)];omega
  rw[a8,bR (x:=(k:Int)+8) (by omega),aoB];have:=yv (n:=m) (k:=8) (by omega);exact⟨by omega,by omega,fin (m/256) (k+8) (by omega) (by omega) (by rw[he,this];show c4 (m/256)+8+k=_;omega)⟩
 ·simp only[aoC]at h;rw[z8 (x:=(m:Int)) (by omega),aoB];exact⟨by omega,by omega,fin m k (by omega) (by omega) he⟩
theorem YY (x:Int)(K:J->Prop)(h:wP.T [.d (.int .u64 x)] K):XT x K:=by
 obtain⟨ai,ae⟩:=h;refine⟨ai, ?_⟩;rintro _ rfl;exact ae
theorem adC (n:Nat):n<2^c4 n:=by
 by_cases h:n=0
 ·subst h;exact apw _
 ·exact(vU h).2.1
theorem ab4 {n:Nat}(h:0<n):2^c4 n<=2*n:=by
 obtain⟨cZ,_,jd⟩:=vU (n:=n) (by omega)
 obtain⟨k,ae⟩:∃k,c4 n=k+1:=⟨c4 n-1,by omega⟩
 rw[ae]at cZ⊢;rw[ao2];simp at cZ;omega
theorem VE (x:Int)(K:J->Prop)(h:EP.T [.d (.int .i64 x)] K):Lz x K:=by
 obtain⟨ai,ae⟩:=h;unfold Lz aT;rw[cP (x:=x) (by omega)];refine⟨by omega, ?_⟩;rintro _ rfl;refine⟨by omega, ?_⟩;have U:=wE (n:=x.toNat) (k:=62) (by omega);have aa:(2:Nat)^c4 x.toNat<=2^62:=apf (by decide) U;rw[show(2:Nat)^62=4611686018427387904 from rfl]at aa;rw[aoB,aqW (by omega),Int.one_mul];have e:((2:Int)^c4 x.toNat)=((2^c4 x.toNat:Nat):Int):=by simp
 rw[e];generalize 2^c4 x.toNat=q at aa ae;rw[cP (by omega)];exact ae
end ab
end
section
namespace ab
open Go Go.al
theorem HZ:∀x y:List Int,ez x y=0↔x=y
 |[],[]=>by simp[ez]
 |[],_::_=>by simp[ez]
 |_::_,[]=>by simp[ez]
 |a::x,b::y=>by
  have bF:=HZ x y;unfold ez
  by_cases h:a<b
  ·rw[aoy h];exact⟨fun e=>by simp at e,fun e=>by injection e;omega⟩
  ·rw[aox h]
   by_cases aa:b<a
   ·rw[aoy aa];exact⟨fun e=>by simp at e,fun e=>by injection e;omega⟩
   ·rw[aox aa,bF,show a=b by omega];simp
theorem PB:∀x y:List Int,ez x y=-1\/ez x y=0\/ez x y=1
 |[],[]=> .inr (.inl rfl)
 |[],_::_=> .inl rfl
 |_::_,[]=> .inr (.inr rfl)
 |a::x,b::y=>by
  have bF:=PB x y;unfold ez
  by_cases h:a<b
  ·rw[aoy h];exact .inl rfl
  ·rw[aox h]
   by_cases aa:b<a
   ·rw[aoy aa];exact .inr (.inr rfl)
   ·rw[aox aa];exact bF
theorem vZ:∀x y z:List Int,ez x y=1->ez y z=1->ez x z=1
 |[],[],_=>fun h=>by simp[ez]at h
 |[],_::_,_=>fun h=>by simp[ez]at h
 |_::_,_,[]=>fun _ _=>rfl
 |a::x,[],_::_=>fun _ h=>by simp[ez]at h
 |a::x,b::y,c::z=>fun U aa=>by
  have bF:=vZ x y z;unfold ez at U aa⊢
  by_cases aA:a<b
  ·rw[aoy aA]at U;simp at U
  ·rw[aox aA]at U
   by_cases aL:b<c
   ·rw[aoy aL]at aa;simp at aa
   ·rw[aox aL]at aa;rw[aox (by omega)]
    by_cases b3:c<a
    ·rw[aoy b3]
    ·rw[aox b3];rw[aox (by omega)]at U aa;exact bF U aa
abbrev jr (x y:List Int):Prop:=ez x y=1
theorem OE (x:List Int):¬jr x x:=fun h=>by
 have:=(HZ x x).2 rfl;unfold jr at h;omega
theorem ID {x y:List Int}(h:jr x y):x≠y:=fun e=>OE y (e▸h)
theorem Cc {x y:List Int}(h:x≠y):jr x y\/jr y x:=by
 have U:=PB x y;have aa:=BP x y;have az:ez x y≠0:=fun e=>h ((HZ x y).1 e);unfold jr;omega
def hC (p:List ba):Prop:=p.Pairwise (fun t u=>jr t.1 u.1)/\∀t∈p,t.2≠0
theorem hC.tail {t:ba}{p:List ba}(h:hC (t::p)):hC p:=⟨(aqv.1 h.1).2,fun u hu=>h.2 u (by simp[hu])⟩
theorem H0 {t u:ba}:∀{p:List ba},u∈ins t p->u.1=t.1\/∃v∈p,v.1=u.1
 |[],h=>by
  unfold ins at h;split at h
  ·simp at h
  ·simp at h;exact .inl (by rw[h])
 |x::p,h=>by
  unfold ins at h;split at h
  ·split at h
   ·exact .inr ⟨u,by simp[h],rfl⟩
   ·rcases ao7.1 h with rfl|h
    ·exact .inr ⟨x,by simp,rfl⟩
    ·exact .inr ⟨u,by simp[h],rfl⟩
  ·split at h
   ·split at h
    ·exact .inr ⟨u,h,rfl⟩
    ·rcases ao7.1 h with rfl|h
     ·exact .inl rfl
     ·exact .inr ⟨u,h,rfl⟩
   ·rcases ao7.1 h with rfl|h
    ·exact .inr ⟨u,by simp,rfl⟩
    ·rcases H0 h with h|⟨v,aP,e⟩
     ·exact .inl h
     ·exact .inr ⟨v,by simp[aP],e⟩
theorem H2 (t:ba):∀{p:List ba},hC p->hC (ins t p)
 |[],_=>by
  unfold ins;split
  ·exact⟨List.Pairwise.nil,fun u hu=>absurd hu apR⟩
  ·rename_i h;exact⟨List.pairwise_singleton _ _,fun _ hu=>by rw[apo.1 hu];exact h⟩
 |x::p,h=>by
  have bF:=H2 t h.tail;obtain⟨U,aa⟩:=aqv.1 h.1;unfold ins;split
  ·split
   ·exact h.tail
   ·rename_i e ne
    exact⟨aqv.2 ⟨U,aa⟩,fun u hu=>by
     rcases ao7.1 hu with rfl|hu
     ·exact ne
     ·exact h.2 u (by simp[hu])⟩
  ·rename_i ne;split
   ·rename_i g;split
    ·exact h
    ·rename_i FQ;refine⟨aqv.2 ⟨fun u hu=> ?_,h.1⟩,fun u hu=> ?_⟩
     ·rcases ao7.1 hu with rfl|hu
      ·exact g
      ·exact vZ _ _ _ g (U u hu)
     ·rcases ao7.1 hu with rfl|hu
      ·exact FQ
      ·exact h.2 u hu
   ·rename_i g;have vu:jr x.1 t.1:=(Cc ne).resolve_left g;refine⟨aqv.2 ⟨fun u hu=> ?_,bF.1⟩,fun u hu=> ?_⟩
    ·rcases H0 hu with e|⟨v,aP,e⟩
     ·rw[e];exact vu
     ·rw[<-e];exact U v aP
    ·rcases ao7.1 hu with rfl|hu
     ·exact h.2 _ (by simp)
     ·exact bF.2 u hu
theorem ih:∀p:List ba,hC (nrm p)
 |[]=>⟨List.Pairwise.nil,fun u hu=>absurd hu apR⟩
 |t::p=>H2 t (ih p)
def dU (f:List Int->Rat):List ba->Rat
 |[]=>0
 |t::p=>t.2*f t.1+dU f p
theorem Cd (f:List Int->Rat):∀p q:List ba,dU f (p++q)=dU f p+dU f q
 |[],q=>by rw[List.nil_append,dU,aqh]
 |t::p,q=>by rw[apO,dU,dU,Cd f p q,apH]
theorem HG (f:List Int->Rat)(t:ba):∀p:List ba,dU f (ins t p)=t.2*f t.1+dU f p
 |[]=>by
  unfold ins;split
  ·rename_i h;rw[h,Rat.zero_mul,aqh]
  ·rfl
 |x::p=>by
  have bF:=HG f t p;unfold ins;split
  ·rename_i e;split
   ·rename_i bc;rw[dU,e,<-apH,<-Rat.add_mul,Rat.add_comm t.2,bc,Rat.zero_mul,aqh]
   ·rw[dU,dU,e,Rat.add_mul,<-apH,Rat.add_comm (x.2*f x.1)]
  ·split
   ·split
    ·rename_i bc;rw[bc,Rat.zero_mul,aqh]
    ·rfl
   ·rw[dU,dU,bF,<-apH,<-apH,Rat.add_comm (x.2*f x.1)]
theorem Ce (f:List Int->Rat):∀p:List ba,dU f (nrm p)=dU f p
 |[]=>rfl
 |t::p=>by rw[nrm,HG,Ce f p,dU]
def dl (m:List Int):List Int->Rat:=fun x=>if x=m then 1 else 0
theorem jQ (m:List Int):∀p:List ba,c2 p m=dU (dl m) p
 |[]=>rfl
 |t::p=>by
  rw[c2,dU,jQ m p];unfold dl;split
  ·rw[Rat.mul_one]
  ·rw[Rat.mul_zero]
theorem mM (p:List ba)(m:List Int):c2 (nrm p) m=c2 p m:=by rw[jQ,jQ,Ce]
theorem mN (p q:List ba)(m:List Int):c2 (p++q) m=c2 p m+c2 q m:=by rw[jQ,jQ,jQ,Cd]
theorem H3 {x:List Int}:∀{p:List ba},(∀t∈p,jr x t.1)->c2 p x=0
 |[],_=>rfl
 |t::p,h=>by
  rw[c2,aox fun e=>ID (h t (by simp)) e.symm,H3 fun u hu=>h u (by simp[hu]),aqh]
theorem yj {t:ba}{p:List ba}(h:hC (t::p)):c2 (t::p) t.1=t.2:=by
 rw[c2,aoy rfl,H3 (aqv.1 h.1).1,Rat.add_zero]
theorem NQ:∀{p q:List ba},hC p->hC q->(∀m,c2 p m=c2 q m)->p=q
 |[],[],_,_,_=>rfl
 |[],u::q,_,a_,h=>by
  have:=h u.1;rw[yj a_]at this;exact absurd this.symm (a_.2 u (by simp))
 |t::p,[],aE,_,h=>by
  have:=h t.1;rw[yj aE]at this;exact absurd this (aE.2 t (by simp))
 |t::p,u::q,aE,a_,h=>by
  have up:∀{t u:ba} {p q:List ba},hC (t::p)->hC (u::q)->(∀m,c2 (t::p) m=c2 (u::q) m)->¬jr t.1 u.1:=fun{t u p q} aE a_ h g=>by
   have U:=h t.1
   rw[yj aE,H3 (fun v aP=>by
    rcases ao7.1 aP with rfl|aP
    ·exact g
    ·exact vZ _ _ _ g ((aqv.1 a_.1).1 v aP))]at U
   exact aE.2 t (by simp) U
  have aA:t.1=u.1:=Classical.byContradiction fun ne=>(Cc ne).elim (up aE a_ h) (up a_ aE fun m=>(h m).symm)
  have aL:t.2=u.2:=by
   have:=h t.1;rw[yj aE]at this;rw[this,aA,yj a_]
  have e:t=u:=Prod.ext aA aL;subst e
  have:p=q:=NQ aE.tail a_.tail fun m=>by
   have:=h m;rw[c2,c2]at this;exact(Rat.add_left_cancel _ this)
  rw[this]
theorem DA {p q:List ba}(a_:hC q)(h:∀m,c2 q m=c2 p m):q=nrm p:=NQ a_ (ih p) fun m=>by rw[h,mM]
theorem oO {p q:List ba}(h:∀m,c2 p m=c2 q m):nrm p=nrm q:=DA (ih p) fun m=>by rw[mM,h]
theorem DB {p:List ba}(h:hC p):nrm p=p:=(DA h fun _=>rfl).symm
theorem NR {p q:List ba}(h:∀m,c2 p m=c2 q m)(f:List Int->Rat):dU f p=dU f q:=by
 rw[<-Ce f p,<-Ce f q,oO h]
theorem PC (f:List Int->Rat)(c:Rat):∀p:List ba,dU (fun x=>c*f x) p=c*dU f p
 |[]=>by rw[dU,dU,Rat.mul_zero]
 |t::p=>by rw[dU,dU,PC f c p,Rat.mul_add,<-Rat.mul_assoc,<-Rat.mul_assoc,Rat.mul_comm t.2 c]
theorem PD (f g:List Int->Rat):∀p:List ba,dU (fun x=>f x+g x) p=dU f p+dU g p
 |[]=>by rw[dU,dU,dU,Rat.add_zero]
 |t::p=>by
  rw[dU,dU,dU,PD f g p,Rat.mul_add,apH,apH,<-apH (t.2*g t.1),Rat.add_comm (t.2*g t.1),apH]
theorem OF:∀p:List ba,dU (fun _=>0) p=0
 |[]=>rfl
 |t::p=>by rw[dU,OF p,Rat.mul_zero,Rat.add_zero]
theorem OG (g:List Int->List Int->Rat):∀p q:List ba,dU (fun a=>dU (fun b=>g a b) q) p=dU (fun b=>dU (fun a=>g a b) p) q
 |[],q=>by rw[dU];exact(OF q).symm
 |t::p,q=>by
  rw[dU,OG g p q];have:(fun b=>dU (fun a=>g a b) (t::p))=fun b=>t.2*g t.1 b+dU (fun a=>g a b) p:=rfl;rw[this,PD,PC]
def gv (s:ba)(q:List ba):List ba:=q.map fun t=>(gi s.1 t.1,s.2*t.2)
def da:List ba->List ba->List ba
 |[],_=>[]
 |s::p,q=>gv s q++da p q
theorem Hi (f:List Int->Rat)(s:ba):∀q:List ba,dU f (gv s q)=s.2*dU (fun b=>f (gi s.1 b)) q
 |[]=>by rw[dU,Rat.mul_zero];rfl
 |t::q=>by
  have bF:=Hi f s q;show s.2*t.2*f (gi s.1 t.1)+dU f (gv s q)=_;rw[bF,dU,Rat.mul_add,Rat.mul_assoc]
theorem qS (f:List Int->Rat):∀p q:List ba,dU f (da p q)=dU (fun a=>dU (fun b=>f (gi a b)) q) p
 |[],q=>rfl
 |s::p,q=>by rw[da,Cd,Hi,qS f p q,dU]
theorem Hj:∀a b:List Int,gi a b=gi b a
 |[],[]=>rfl
 |[],_::_=>rfl
 |_::_,[]=>rfl
 |a::x,b::y=>by rw[gi,gi,Int.add_comm,Hj x y]
theorem OH (p q:List ba)(m:List Int):c2 (da p q) m=c2 (da q p) m:=by
 rw[jQ,jQ,qS,qS,OG]
 congr 1;funext b;congr 1;funext a;rw[Hj]
theorem NS {p F8 q nH:List ba}(U:∀m,c2 p m=c2 F8 m)(aa:∀m,c2 q m=c2 nH m)(m:List Int):c2 (da p q) m=c2 (da F8 nH) m:=by
 rw[jQ,jQ,qS,qS,NR U]
 congr 1;funext a;rw[NR aa]
def eN (c:Rat)(p:List ba):List ba:=p.map fun t=>(t.1,t.2*c)
theorem NT (f:List Int->Rat)(c:Rat):∀p:List ba,dU f (eN c p)=c*dU f p
 |[]=>by rw[dU,Rat.mul_zero];rfl
 |t::p=>by
  show t.2*c*f t.1+dU f (eN c p)=_;rw[NT f c p,dU,Rat.mul_add,Rat.mul_comm t.2 c,Rat.mul_assoc]
theorem BA (c:Rat)(p:List ba)(m:List Int):c2 (eN c p) m=c*c2 p m:=by rw[jQ,jQ,NT]
def iF:List ba->ba->List ba
 |[],t=>[t]
 |u::p,t=>if u.1=t.1 then(u.1,u.2+t.2)::p else u::iF p t
theorem Hk {t:ba}:∀{p:List ba},(∀u∈p,u.1≠t.1)->iF p t=p++[t]
 |[],_=>rfl
 |u::p,h=>by rw[iF,aox (h u (by simp)),Hk fun v aP=>h v (by simp[aP])];rfl
theorem QK {t:ba}:∀{p:List ba} {j:Nat} {u:ba},(p.map Prod.fst).Nodup->p[j]? =some u->u.1=t.1->iF p t=p.set j (u.1,u.2+t.2)
 |[],j,u,_,h,_=>by simp at h
 |x::p,0,u,_,h,e=>by
  obtain rfl:x=u:=by simpa using h
  rw[iF,aoy e];rfl
 |x::p,j+1,u,a8,h,e=>by
  have h:p[j]? =some u:=by simpa using h
  simp only[aoX,List.nodup_cons]at a8;have ai:x.1≠t.1:=fun ex=>a8.1 (aoQ.2 ⟨u,ap2 h,by rw[e,ex]⟩);rw[iF,aox ai,QK a8.2 h e];rfl
theorem OI (t:ba)(m:List Int):∀p:List ba,c2 (iF p t) m=c2 p m+(if t.1=m then t.2 else 0)
 |[]=>by rw[iF,c2,c2,c2,Rat.add_zero,aqh]
 |u::p=>by
  have bF:=OI t m p;rw[iF];split
  ·rename_i e;rw[c2,c2];simp only;rw[e];split
   ·rw[apH,Rat.add_comm t.2,<-apH]
   ·rw[Rat.add_zero]
  ·rw[c2,c2,bF,apH]
theorem PE (t:ba):∀p:List ba,(iF p t).map Prod.fst=p.map Prod.fst/\t.1∈p.map Prod.fst\/(iF p t).map Prod.fst=p.map Prod.fst++[t.1]/\t.1∉p.map Prod.fst
 |[]=> .inr ⟨rfl,by simp⟩
 |u::p=>by
  rw[iF];split
  ·rename_i e;exact .inl ⟨rfl,by simp[e]⟩
  ·rename_i ne;rcases PE t p with⟨U,aa⟩|⟨U,aa⟩
   ·refine .inl ⟨by rw[aoX,aoX,U], ?_⟩;rw[aoX];exact apQ _ aa
   ·refine .inr ⟨by rw[aoX,aoX,U];rfl, ?_⟩;rw[aoX];intro hm;rcases ao7.1 hm with e|hm
    ·exact ne e.symm
    ·exact aa hm
theorem NU {t:ba}{p:List ba}(h:(p.map Prod.fst).Nodup):((iF p t).map Prod.fst).Nodup:=by
 rcases PE t p with⟨U,_⟩|⟨U,aa⟩
 ·rw[U];exact h
 ·rw[U,List.nodup_append]
  exact⟨h,by simp,fun a aR b ag=>by
   rw[apo.1 ag]
   rintro rfl;exact aa aR⟩
theorem aaD {p q:List ba}(h:p.Perm q)(m:List Int):c2 p m=c2 q m:=by
 induction h with
 |nil=>rfl
 |cons x _ bF=>rw[c2,c2,bF]
 |swap x y l=>rw[c2,c2,c2,c2,<-apH,<-apH,Rat.add_comm (if y.1=m then y.2 else 0)]
 |trans _ _ ajE ajF=>rw[ajE,ajF]
theorem Bu (m:List Int):∀p:List ba,c2 (p.filter fun t=> !decide (t.2=0)) m=c2 p m
 |[]=>rfl
 |t::p=>by
  rw[apW];split
  ·rw[c2,c2,Bu m p]
  ·rename_i h;have bc:t.2=0:=by simpa using h
   rw[c2,Bu m p,bc];split<;>rw[aqh]
theorem YZ {p acc q:List ba}(aC:∀m,c2 acc m=c2 p m)(a8:(acc.map Prod.fst).Nodup)(aE:q.Perm (acc.filter fun t=> !decide (t.2=0)))(ay:q.Pairwise fun t u=>¬jr u.1 t.1):q=nrm p:=by
 refine DA ⟨?_,fun t au=> ?_⟩ fun m=>by rw[aaD aE,Bu,aC]
 ·have av:(q.map Prod.fst).Nodup:=by
   rw[(aE.map Prod.fst).nodup_iff];exact a8.sublist ((List.filter_sublist).map _)
  have mA:q.Pairwise fun t u=>t.1≠u.1:=List.pairwise_map.1 av;exact(ay.and mA).imp fun⟨U,aa⟩=>(Cc aa).resolve_right U
 ·have:=aE.mem_iff.1 au;rw[apn]at this;simpa using this.2
theorem NV (m:List Int):∀(p acc:List ba),c2 (p.foldl iF acc) m=c2 acc m+c2 p m
 |[],acc=>by rw[List.foldl_nil,c2,Rat.add_zero]
 |t::p,acc=>by rw[aqS,NV m p,OI,c2,apH]
end ab
end
section
open Go Go.al
namespace ab
def MS:List Int->List Int->Int->(af->J->Prop)->Prop:=
 fun u v j K=>0<=ah (j+↑v.length)/\ah (j+↑v.length)<↑u.length/\0<=ah (ah (j+↑v.length)-1)/\ah (ah (j+↑v.length)-1)<↑u.length/\0<=ah (↑v.length-1)/\ah (↑v.length-1)<↑v.length/\¬aT (v.getD (ah (↑v.length-1)).toNat 0)=0/\0<=ah (↑v.length-1)/\ah (↑v.length-1)<↑v.length/\¬aT (v.getD (ah (↑v.length-1)).toNat 0)=0/\∃(bm:Int->Prop),(∃(aK:Int->Int->Prop),∃(m:Int->Int->Nat),((false,af.ad .u32 u)=(false,af.ad .u32 u)/\aK (aT ((cL BinOp.or .u64 (aT (aT (u.getD (ah (j+↑v.length)).toNat 0)*4294967296)) (aT (u.getD (ah (ah (j+↑v.length)-1)).toNat 0))).tdiv (aT (v.getD (ah (↑v.length-1)).toNat 0)))) ((cL BinOp.or .u64 (aT (aT (u.getD (ah (j+↑v.length)).toNat 0)*4294967296)) (aT (u.getD (ah (ah (j+↑v.length)-1)).toNat 0))).tmod (aT (v.getD (ah (↑v.length-1)).toNat 0))))/\∀(v9 v10:Int),aK v9 v10->(decide (4294967296<=v9)=true->0<=ah (↑v.length-1)/\ah (↑v.length-1)<↑v.length/\(decide (4294967296<=aT (v10+aT (v.getD (ah (↑v.length-1)).toNat 0)))=true->(false,af.ad .u32 u)=(false,af.ad .u32 u)/\bm (aT (v9-1)))/\(decide (4294967296<=aT (v10+aT (v.getD (ah (↑v.length-1)).toNat 0)))=false->(false,af.ad .u32 u)=(false,af.ad .u32 u)/\aK (aT (v9-1)) (aT (v10+aT (v.getD (ah (↑v.length-1)).toNat 0)))/\m (aT (v9-1)) (aT (v10+aT (v.getD (ah (↑v.length-1)).toNat 0)))<m v9 v10))/\(decide (4294967296<=v9)=false->(decide (v10<4294967296)=true->0<=ah (↑v.length-2)/\ah (↑v.length-2)<↑v.length/\0<=ah (ah (j+↑v.length)-2)/\ah (ah (j+↑v.length)-2)<↑u.length/\(decide (cL BinOp.or .u64 (aT (v10*4294967296)) (aT (u.getD (ah (ah (j+↑v.length)-2)).toNat 0))<aT (v9*aT (v.getD (ah (↑v.length-2)).toNat 0)))=true->0<=ah (↑v.length-1)/\ah (↑v.length-1)<↑v.length/\(decide (4294967296<=aT (v10+aT (v.getD (ah (↑v.length-1)).toNat 0)))=true->(false,af.ad .u32 u)=(false,af.ad .u32 u)/\bm (aT (v9-1)))/\(decide (4294967296<=aT (v10+aT (v.getD (ah (↑v.length-1)).toNat 0)))=false->(false,af.ad .u32 u)=(false,af.ad .u32 u)/\aK (aT (v9-1)) (aT (v10+aT (v.getD (ah (↑v.length-1)).toNat 0)))/\m (aT (v9-1)) (aT (v10+aT (v.getD (ah (↑v.length-1)).toNat 0)))<m v9 v10))/\(decide (cL BinOp.or .u64 (aT (v10*4294967296)) (aT (u.getD (ah (ah (j+↑v.length)-2)).toNat 0))<aT (v9*aT (v.getD (ah (↑v.length-2)).toNat 0)))=false->(false,af.ad .u32 u)=(false,af.ad .u32 u)/\bm v9))/\(decide (v10<4294967296)=false->(false,af.ad .u32 u)=(false,af.ad .u32 u)/\bm v9)))/\∀(v9:Int),bm v9->∃(aK:Int->Int->Int->List Int->Prop),∃(m:Int->Int->Int->List Int->Nat),aK 0 0 0 u/\∀(v11 v12 b4:Int) (aq:List Int),aK v11 v12 b4 aq->(decide (b4<=↑v.length)=true->∃(bm:Int->Prop),((decide (b4<↑v.length)=true->0<=b4/\b4<↑v.length/\(false,af.ad .u32 aq)=(false,af.ad .u32 aq)/\bm (aT (v12+aT (v9*aT (v.getD b4.toNat 0)))))/\(decide (b4<↑v.length)=false->(false,af.ad .u32 aq)=(false,af.ad .u32 aq)/\bm v12))/\∀(cV:Int),bm cV->0<=ah (j+b4)/\ah (j+b4)<↑aq.length/\∃(bm:Int->Int->Prop),((decide (aT (aq.getD (ah (j+b4)).toNat 0)<aT (cL BinOp.and .u64 cV 4294967295+v11))=true->(false,af.ad .u32 aq)=(false,af.ad .u32 aq)/\bm 1 (aT (aT (aq.getD (ah (j+b4)).toNat 0)+4294967296)))/\(decide (aT (aq.getD (ah (j+b4)).toNat 0)<aT (cL BinOp.and .u64 cV 4294967295+v11))=false->(false,af.ad .u32 aq)=(false,af.ad .u32 aq)/\bm 0 (aT (aq.getD (ah (j+b4)).toNat 0))))/\∀(iW m9:Int),bm iW m9->0<=ah (j+b4)/\ah (j+b4)<↑aq.length/\aK iW (cV.fdiv 4294967296) (ah (b4+1)) (aq.set (ah (j+b4)).toNat (bX (aT (m9-aT (cL BinOp.and .u64 cV 4294967295+v11)))))/\m iW (cV.fdiv 4294967296) (ah (b4+1)) (aq.set (ah (j+b4)).toNat (bX (aT (m9-aT (cL BinOp.and .u64 cV 4294967295+v11)))))<m v11 v12 b4 aq)/\(decide (b4<=↑v.length)=false->(decide (v11=0)=true->K (af.ad .u32 aq) (J.d (R.int .u32 (bX v9))))/\(decide (v11=0)=false->∃(aK:Int->Int->List Int->Prop),∃(m:Int->Int->List Int->Nat),aK 0 0 aq/\∀(v12 fD:Int) (aq:List Int),aK v12 fD aq->(decide (fD<=↑v.length)=true->0<=ah (j+fD)/\ah (j+fD)<↑aq.length/\∃(bm:Int->Prop),((decide (fD<↑v.length)=true->0<=fD/\fD<↑v.length/\(false,af.ad .u32 aq)=(false,af.ad .u32 aq)/\bm (aT (aT (aT (aq.getD (ah (j+fD)).toNat 0)+v12)+aT (v.getD fD.toNat 0))))/\(decide (fD<↑v.length)=false->(false,af.ad .u32 aq)=(false,af.ad .u32 aq)/\bm (aT (aT (aq.getD (ah (j+fD)).toNat 0)+v12))))/\∀(lT:Int),bm lT->0<=ah (j+fD)/\ah (j+fD)<↑aq.length/\aK (lT.fdiv 4294967296) (ah (fD+1)) (aq.set (ah (j+fD)).toNat (bX lT))/\m (lT.fdiv 4294967296) (ah (fD+1)) (aq.set (ah (j+fD)).toNat (bX lT))<m v12 fD aq)/\(decide (fD<=↑v.length)=false->K (af.ad .u32 aq) (J.d (R.int .u32 (bX (aT (v9-1))))))))
end ab
end
section
open Go Go.al
namespace ab
theorem ab5 {v2 gm w G V dz l D:Nat}(az:v2+dz*(G*V)=gm+w)(aa:v2<w)(oo:gm=l+dz*D)(z_:G*V<=D+V):
 1<=G/\gm<dz*(G*V)/\dz*((G-1)*V)<=gm/\dz*(G*V)=dz*((G-1)*V)+dz*V/\(G-1)*V<=D:=by
 have ia:1<=G:=by
  rcases ap6 G with bc|bc
  ·rw[bc,apT,ao4]at az;omega
  ·exact bc
 have aW:G*V=(G-1)*V+V:=by rw[<-Nat.succ_mul];congr 1;omega
 have bA:dz*(G*V)=dz*((G-1)*V)+dz*V:=by rw[aW,aoO]
 have bZ:(G-1)*V<=D:=by omega
 refine⟨ia,by omega, ?_,bA,bZ⟩;have:=apc dz bZ;omega
theorem ab6 {v2 v3 gm w C G V dz:Nat}(aR:v3+w*C=v2+dz*V)(az:v2+dz*(G*V)=gm+w)(bA:dz*(G*V)=dz*((G-1)*V)+dz*V)(bZ:dz*((G-1)*V)<=gm)(fo:gm<dz*(G*V))(aP:v3<w)(hw:dz*V<=w):
 v3+dz*((G-1)*V)=gm:=by
 rcases aqp C 1 with h|h
 ·obtain rfl:C=0:=by omega
  rw[ao4]at aR;omega
 ·rcases aqp C 2 with aa|aa
  ·obtain rfl:C=1:=by omega
   rw[ao6]at aR;omega
  ·have:=apc w aa;omega
theorem Rs {v:List Int}{i:Nat}(h:v.length<=i):lm v i=0:=by unfold lm;rw[yw h];rfl
set_option maxHeartbeats 1000000 in
theorem XZ (u v:List Int)(j:Int)(K:af->J->Prop)(h:BO.T (.vec 0) (.ad .u32 u) [.d (.ad .u32 v), .d (.int .i64 j)] K):MS u v j K:=by
 obtain⟨⟨jn,qm,oh,xi,TH,pr,bG⟩,ae⟩:=h
 obtain⟨j,rfl⟩:∃i:Nat,j=i:=⟨j.toNat,by omega⟩
 simp only[aoB]at TH bG ae;have zu:=jn.2;have agv:=qm.2;have hu:=jn.1;have oq:=qm.1
 obtain⟨n,nG⟩:∃n,v.length=n:=⟨_,rfl⟩
 rw[nG]at oh TH pr agv;have tr:val v<4294967296^n:=nG▸iD oq
 have fin:∀(cY:List Int) (Q:Nat),bK cY->cY.length=u.length->val cY+4294967296^j*(Q*val v)=val u->Q*val v<=ew u j->ew u j<(Q+1)*val v->Q<4294967296->K (.ad .u32 cY) (.d (.int .u32 (IntKind.wrap .u32 (Q:Int)))):=fun cY Q U aa az aW bA bZ=>by
  have a_:val u/4294967296^j/val v=Q:=by rw[Im hu];exact Nat.div_eq_of_lt_le aW bA
  rw[a_]at ae;have jy:val u-4294967296^j*(Q*val v)=val cY:=by omega
  rw[jy,<-aa,HV _ U rfl]at ae;rw[h1 (by omega)];exact ae
 unfold MS ah aT bX;rw[nG];have cX:IntKind.wrap .i64 ((n:Int)-1)=((n-1:Nat):Int):=by rw[bR (by omega)];omega
 have hn:IntKind.wrap .i64 ((n:Int)-2)=((n-2:Nat):Int):=by rw[bR (by omega)];omega
 have mE:IntKind.wrap .i64 ((j:Int)+(n:Int))=((j+n:Nat):Int):=by rw[bR (by omega)];omega
 have lZ:IntKind.wrap .i64 (((j+n:Nat):Int)-1)=((j+n-1:Nat):Int):=by rw[bR (by omega)];omega
 have qz:IntKind.wrap .i64 (((j+n:Nat):Int)-2)=((j+n-2:Nat):Int):=by rw[bR (by omega)];omega
 simp only[cX,hn,mE,lZ,qz,aoB];obtain⟨p,lv,l0,a8⟩:=QA (j:=j) hu oq nG oh rfl pr bG;simp only[ik hu,ik oq,Iz (fO hu (j+n)) (fO hu (j+n-1))];have Fz:IntKind.wrap .u64 ((lm v (n-1):Nat):Int)=((lm v (n-1):Nat):Int):=cP (by have:=a8.s_;omega);have FA:IntKind.wrap .u64 ((lm v (n-2):Nat):Int)=((lm v (n-2):Nat):Int):=cP (by have:=a8.ay;omega);simp only[Fz,FA]
 obtain⟨F,Ab⟩:∃F,lm u (j+n)*4294967296+lm u (j+n-1)=F:=⟨_,rfl⟩
 rw[Ab]at a8;simp only[Ab]
 obtain⟨D,Ac⟩:∃D,ew u j=D:=⟨_,rfl⟩
 rw[Ac]at a8 fin
 obtain⟨t,rW⟩:∃t,lm v (n-1)=t:=⟨_,rfl⟩
 obtain⟨s,qv⟩:∃s,lm v (n-2)=s:=⟨_,rfl⟩
 obtain⟨iO,zt⟩:∃s,lm u (j+n-2)=s:=⟨_,rfl⟩
 rw[rW,qv,zt]at a8;simp only[rW,qv,zt];obtain⟨jN,pw,rU,qu,au,s_,ay,vi,xB,nM⟩:=a8;have Kn:Int.tdiv (F:Int) (t:Int)=((F/t:Nat):Int):=by rw[aqY (by omega),aqr]
 have Ko:Int.tmod (F:Int) (t:Int)=((F%t:Nat):Int):=by rw[aqL (by omega),aqM]
 simp only[Kn,Ko];have ajv:F<18446744073709551616:=by omega
 have JK:F/t<=F:=aqZ _ _;have ajw:F%t<t:=aph _ au
 have AO:∀r6:Nat,r6<=F->IntKind.wrap .u64 (r6:Int)=(r6:Int):=fun r6 h=>cP (by omega)
 simp only[AO _ JK];refine⟨by omega,by omega,by omega,by omega,by omega,by omega,by omega,by omega,by omega,by omega,fun g=>∃G:Nat,g=G/\G<4294967296/\D<(G+1)*val v/\G*val v<=D+val v, ?_, ?_⟩
 ·refine⟨fun g r=>∃G bD:Nat,g=G/\r=bD/\t*G+bD=F/\bD<4294967296/\D<(G+1)*val v,fun g r=>g.toNat,⟨by first|rfl|trivial,F/t,F%t,rfl,rfl,aqe F t,by omega, ?_⟩, ?_⟩
  ·rw[pw,jN];exact(Pw (lv:=lv) (s:=s) rfl rfl au qu vi).1
  rintro g r ⟨G,bD,rfl,rfl,Ad,dH,rV⟩
  have ajx:G<=F:=by
   have:1*G<=t*G:=aoP _ au;omega
  have JL:IntKind.wrap .u64 ((bD:Int)+(t:Int))=((bD+t:Nat):Int):=by rw[cP (by omega)];omega
  simp only[JL];refine⟨fun ia=>⟨by omega,by omega, ?_⟩,fun ia=>⟨fun TI=>⟨by omega,by omega,by omega,by omega, ?_⟩,fun TI=> ?_⟩⟩
  ·simp only[aoD]at ia;have jW:D<G*val v:=aoV xB (aoP _ (by omega))
   have JM:1<=G:=by
    rcases ap6 G with bc|bc
    ·rw[bc,apT]at jW;omega
    ·exact bc
   have pF:IntKind.wrap .u64 ((G:Int)-1)=((G-1:Nat):Int):=by rw[cP (by omega)];omega
   have o8:t*(G-1)+(bD+t)=F:=by
    have:t*G=t*(G-1)+t:=by rw[<-Nat.mul_succ];exact apb (t*·) (show G=(G-1)+1 by omega)
    omega
   have o9:D<(G-1+1)*val v:=by rw[show G-1+1=G by omega];exact jW
   simp only[pF];refine⟨fun an=>⟨by first|rfl|trivial,G-1,rfl, ?_,o9, ?_⟩,fun an=>⟨by first|rfl|trivial,⟨G-1,bD+t,rfl,rfl,o8, ?_,o9⟩, ?_⟩⟩
   ·simp only[aoD]at an;refine apX (a:=t) ?_;omega
   ·simp only[aoD]at an
    have lS:G-1<4294967296:=by
     refine apX (a:=t) ?_;omega
    have j0:(G-1)*s<=(bD+t)*4294967296+iO:=by
     have U:(G-1)*s<=4294967296*4294967296:=ap7 (by omega) (by omega);have aa:4294967296*4294967296<=(bD+t)*4294967296:=aoP _ (by omega);omega
    rw[pw,jN];exact wj o8 au rU lS j0
   ·simp only[aoC]at an;omega
   ·show((G-1:Nat):Int).toNat<(G:Int).toNat;omega
  ·simp only[aoC]at ia
   have Kp:IntKind.wrap .u64 ((G:Int)*(s:Int))=((G*s:Nat):Int):=by
    have:G*s<=4294967295*4294967295:=ap7 (by omega) (by omega);rw[<-apK,cP ⟨apx _,by omega⟩]
   have Kq:=Io (h:=bD) (l:=iO) dH vi;simp only[Kp,Kq];refine⟨fun aC=>⟨by omega,by omega, ?_⟩,fun aC=>⟨by first|rfl|trivial,G,rfl,by omega,rV, ?_⟩⟩
   ·simp only[aoD,ap8]at aC;have jW:D<G*val v:=by rw[pw,jN];exact Px Ad qu aC
    have JM:1<=G:=by
     rcases ap6 G with bc|bc
     ·rw[bc,apT]at jW;omega
     ·exact bc
    have pF:IntKind.wrap .u64 ((G:Int)-1)=((G-1:Nat):Int):=by rw[cP (by omega)];omega
    have o8:t*(G-1)+(bD+t)=F:=by
     have:t*G=t*(G-1)+t:=by rw[<-Nat.mul_succ];exact apb (t*·) (show G=(G-1)+1 by omega)
     omega
    have o9:D<(G-1+1)*val v:=by rw[show G-1+1=G by omega];exact jW
    simp only[pF];refine⟨fun an=>⟨by first|rfl|trivial,G-1,rfl, ?_,o9, ?_⟩,fun an=>⟨by first|rfl|trivial,⟨G-1,bD+t,rfl,rfl,o8, ?_,o9⟩, ?_⟩⟩
    ·simp only[aoD]at an;refine apX (a:=t) ?_;omega
    ·simp only[aoD]at an
     have lS:G-1<4294967296:=by
      refine apX (a:=t) ?_;omega
     have j0:(G-1)*s<=(bD+t)*4294967296+iO:=by
      have U:(G-1)*s<=4294967296*4294967296:=ap7 (by omega) (by omega);have aa:4294967296*4294967296<=(bD+t)*4294967296:=aoP _ (by omega);omega
     rw[pw,jN];exact wj o8 au rU lS j0
    ·simp only[aoC]at an;omega
    ·show((G-1:Nat):Int).toNat<(G:Int).toNat;omega
   ·simp only[aoC,ap8]at aC;rw[pw,jN];exact wj Ad au rU (by omega) (by omega)
  ·simp only[aoC]at TI;omega
 ·rintro g ⟨G,rfl,tt,rV,z_⟩
  obtain⟨l,oo,ax⟩:∃l,val u=l+4294967296^j*D/\l<4294967296^j:=⟨dt u j,by rw[<-Ac];exact mn u j,rp hu j⟩
  have ajG:4294967296^j*val v<=4294967296^(j+(n+1)):=by
   rw[api];exact apc _ (aoS (Nat.le_of_lt tr) (apf (by decide) (by omega)))
  have bq:∀p,j+n<p->u.getD p 0=0:=fun p aE=>by
   refine Qy hu (m:=j+n+1) ?_ p (by omega);rw[show j+n+1=j+1+n by omega,api];exact aoV bG (apc _ (Nat.le_of_lt tr))
  refine⟨fun AP c i cY=>bK cY/\cY.length=u.length/\∃C B i0:Nat,AP=B/\c=C/\i=i0/\i0<=n+1/\B<=1/\C<4294967296/\(n<i0->C=0)/\val cY+4294967296^j*(G*dt v i0)=val u+4294967296^(j+i0)*(C+B)/\∀p,j+n<p->cY.getD p 0=0,
   fun _ _ i _=>n+1-i.toNat,⟨hu,rfl,0,0,0,rfl,rfl,rfl,by omega,by omega,by omega,fun _=>rfl,by rw[iC,ao4,ao4,ao4],bq⟩, ?_⟩
  rintro AP c i cY ⟨jn,uZ,C,B,i,rfl,rfl,rfl,ff,ey,l1,ajH,jy,dr⟩;refine⟨fun h=> ?_,fun h=> ?_⟩
  ·simp only[aoD]at h;have Kr:IntKind.wrap .i64 ((j:Int)+(i:Int))=((j+i:Nat):Int):=by rw[bR (by omega)];omega
   have Ae:IntKind.wrap .i64 ((i:Int)+1)=((i+1:Nat):Int):=by rw[bR (by omega)];omega
   simp only[Kr,Ae,aoB,ik jn];have po:=fO oq i;have D7:=fO jn (j+i);have xD:¬i<n->lm v i=0:=fun h=>Rs (by omega)
   obtain⟨d,kt⟩:∃d,lm v i=d:=⟨_,rfl⟩
   obtain⟨fl,mz⟩:∃d,lm cY (j+i)=d:=⟨_,rfl⟩
   rw[kt]at po xD;rw[mz]at D7;simp only[kt,mz];obtain⟨t1,lo,tK,st,ng,I2,FB,hJ,t2,cN,zn,tu,ot,t4⟩:=OA (g:=G) (d:=d) (c:=C) (b:=B) (u:=fl) tt po l1 ey D7;have ajA:=QF tt po;have w1:IntKind.wrap .u64 (d:Int)=(d:Int):=cP (by omega);have db:IntKind.wrap .u64 ((G:Int)*(d:Int))=((G*d:Nat):Int):=by rw[<-apK,cP ⟨apx _,by omega⟩]
   have bX:IntKind.wrap .u64 ((C:Int)+((G*d:Nat):Int))=((C+G*d:Nat):Int):=by rw[<-aqT,cP ⟨apx _,by omega⟩]
   simp only[w1,db,bX];refine⟨fun x=>x=((C+G*d:Nat):Int),⟨fun U=> ?_,fun U=> ?_⟩, ?_⟩
   ·simp only[aoD]at U;exact⟨by omega,U,by first|rfl|trivial,rfl⟩
   ·simp only[aoC]at U;refine⟨by first|rfl|trivial, ?_⟩;rw[xD (by omega),ao4,aoW]
   rintro x rfl;have j_:=Rq t1;rw[I2]at j_
   have xS:((C+G*d:Nat):Int).fdiv 4294967296=(tK:Int):=by
    have e:∀q:Nat,(q:Int).fdiv 4294967296=((q/4294967296:Nat):Int):=fun q=>by rw[apg _ (by omega)];omega
    rw[e,FB]
   have ah:IntKind.wrap .u64 ((lo:Int)+(B:Int))=((lo+B:Nat):Int):=by rw[cP (by omega)];omega
   have aT:IntKind.wrap .u64 (fl:Int)=(fl:Int):=cP (by omega);have amo:IntKind.wrap .u64 ((fl:Int)+4294967296)=((fl+4294967296:Nat):Int):=by rw[cP (by omega)];omega
   simp only[j_,xS,ah,aT,amo];refine⟨by omega,by omega,fun b x=>b=(ng:Int)/\IntKind.wrap .u32 (IntKind.wrap .u64 (x-((lo+B:Nat):Int)))=(st:Int),⟨fun aa=>⟨by first|rfl|trivial, ?_, ?_⟩,fun aa=>⟨by first|rfl|trivial, ?_, ?_⟩⟩, ?_⟩
   ·simp only[aoD,ap8]at aa;rw[aoy (by omega)]at tu;exact tu
   ·simp only[aoD,ap8]at aa;rw[cP (by omega),ke];omega
   ·simp only[aoC,ap8]at aa;rw[aox (by omega)]at tu;exact tu
   ·simp only[aoC,ap8]at aa;rw[cP (by omega),ke];omega
   rintro b x ⟨rfl,ai⟩;simp only[ai];have ks:=l_ cY (j+i) (st:Int) (by omega);rw[show(cY.getD (j+i) 0).toNat=fl from mz,aoB]at ks;have nB:dt v (i+1)=dt v i+4294967296^i*d:=by rw[gr,show(v.getD i 0).toNat=d from kt]
   have kj:=QB ks jy t4;refine⟨by omega,by omega,⟨jn.set _ ⟨by omega,by omega⟩,by rw[aoI];exact uZ,tK,ng,i+1,rfl,rfl,rfl,by omega,ot,t2,fun hi=> ?_, ?_,fun p aE=> ?_⟩,by show n+1-((i+1:Nat):Int).toNat<n+1-(i:Int).toNat;omega⟩
   ·rw[xD (by omega),ao4,aoW]at FB;omega
   ·have pk:4294967296^j*(G*dt v (i+1))=4294967296^j*(G*dt v i)+4294967296^(j+i)*(G*d):=by
     rw[nB,aoO,aoO,api,apC G,apa]
    have vk:4294967296^(j+(i+1))*(tK+ng)=4294967296^(j+i)*(4294967296*(tK+ng)):=by
     rw[<-apy,ao2,apa]
    rw[pk,vk];exact kj
   ·rw[eu,aox (by omega)];exact dr p aE
  ·simp only[aoC]at h;obtain rfl:i=n+1:=by omega
   have Ai:=ajH (by omega);subst Ai;rw[ht v (by omega),ao8]at jy;have mx:val cY<4294967296^(j+(n+1)):=Dz jn fun p aE=>dr p (by omega);refine⟨fun ag=> ?_,fun ag=> ?_⟩
   ·simp only[aoD]at ag;obtain rfl:B=0:=by omega
    rw[ao4,aoW]at jy;refine fin cY G jn uZ jy ?_ rV tt;refine Nat.le_of_lt_succ (apX (a:=4294967296^j) ?_);rw[Nat.mul_succ];omega
   ·simp only[aoC]at ag;obtain rfl:B=1:=by omega
    rw[ao6]at jy;obtain⟨g1,g7,g6,g5,g4⟩:=ab5 jy mx oo z_;have pF:IntKind.wrap .u64 ((G:Int)-1)=((G-1:Nat):Int):=by rw[cP (by omega)];omega
    simp only[pF]
    refine⟨fun c i3 ej=>bK ej/\ej.length=u.length/\∃hp i0:Nat,c=hp/\i3=i0/\i0<=n+1/\hp<=1/\val ej+4294967296^(j+i0)*hp=val cY+4294967296^j*dt v i0/\∀p,j+n<p->ej.getD p 0=0,fun _ i3 _=>n+1-i3.toNat,
     ⟨jn,uZ,0,0,rfl,rfl,by omega,by omega,by rw[iC,ao4,ao4],dr⟩, ?_⟩
    rintro c i3 ej ⟨m_,zv,hp,i3,rfl,rfl,ajB,TA,uN,Af⟩;refine⟨fun az=> ?_,fun az=> ?_⟩
    ·simp only[aoD]at az;have tG:IntKind.wrap .i64 ((j:Int)+(i3:Int))=((j+i3:Nat):Int):=by rw[bR (by omega)];omega
     have JQ:IntKind.wrap .i64 ((i3:Int)+1)=((i3+1:Nat):Int):=by rw[bR (by omega)];omega
     simp only[tG,JQ,aoB,ik m_];have po:=fO oq i3;have D7:=fO m_ (j+i3);have xD:¬i3<n->lm v i3=0:=fun h=>Rs (by omega)
     obtain⟨d,kt⟩:∃d,lm v i3=d:=⟨_,rfl⟩
     obtain⟨fl,mz⟩:∃d,lm ej (j+i3)=d:=⟨_,rfl⟩
     rw[kt]at po xD;rw[mz]at D7;simp only[kt,mz];have er:IntKind.wrap .u64 (IntKind.wrap .u64 (fl:Int)+(hp:Int))=((fl+hp:Nat):Int):=by rw[cP (x:=(fl:Int)) (by omega),cP (by omega)];omega
     have w1:IntKind.wrap .u64 (((fl+hp:Nat):Int)+IntKind.wrap .u64 (d:Int))=((fl+hp+d:Nat):Int):=by rw[cP (x:=(d:Int)) (by omega),cP (by omega)];omega
     simp only[er,w1];refine⟨by omega,by omega,fun x=>x=((fl+hp+d:Nat):Int),⟨fun U=> ?_,fun U=> ?_⟩, ?_⟩
     ·simp only[aoD]at U;exact⟨by omega,U,by first|rfl|trivial,rfl⟩
     ·simp only[aoC]at U;refine⟨by first|rfl|trivial, ?_⟩;rw[xD (by omega),aoW]
     rintro x rfl
     obtain⟨S,h7⟩:∃S,fl+hp+d=S:=⟨_,rfl⟩
     simp only[h7];have db:IntKind.wrap .u32 (S:Int)=((S%4294967296:Nat):Int):=by rw[ke];omega
     have bX:Int.fdiv (S:Int) 4294967296=((S/4294967296:Nat):Int):=by rw[apg _ (by omega)];omega
     simp only[db,bX];have zw:=l_ ej (j+i3) ((S%4294967296:Nat):Int) (by omega);rw[show(ej.getD (j+i3) 0).toNat=fl from mz,aoB]at zw;have nB:dt v (i3+1)=dt v i3+4294967296^i3*d:=by rw[gr,show(v.getD i3 0).toNat=d from kt]
     have kj:=QC (T:=S/4294967296) (d:=d) zw uN (by omega);refine⟨by omega,by omega,⟨m_.set _ ⟨by omega,by omega⟩,by rw[aoI];exact zv,S/4294967296,i3+1,rfl,rfl,by omega,by omega, ?_,fun p aE=> ?_⟩,by show n+1-((i3+1:Nat):Int).toNat<n+1-(i3:Int).toNat;omega⟩
     ·have pk:4294967296^j*dt v (i3+1)=4294967296^j*dt v i3+4294967296^(j+i3)*d:=by
       rw[nB,aoO,api,apa]
      have vk:4294967296^(j+(i3+1))*(S/4294967296)=4294967296^(j+i3)*(4294967296*(S/4294967296)):=by
       rw[<-apy,ao2,apa]
      rw[pk,vk];exact kj
     ·rw[eu,aox (by omega)];exact Af p aE
    ·simp only[aoC]at az;obtain rfl:i3=n+1:=by omega
     rw[ht v (by omega)]at uN;have Jl:val ej<4294967296^(j+(n+1)):=Dz m_ fun p aE=>Af p (by omega);have zj:=ab6 uN jy g5 g6 g7 Jl ajG;refine fin ej (G-1) m_ zv zj g4 ?_ (by omega);rw[show G-1+1=G by omega];refine apX (a:=4294967296^j) ?_;omega
end ab
end
section
open Go Go.al
namespace ab
def L5:List Int->List Int->(J->Prop)->Prop:=
 fun a b K=>bC a/\∀x,x=aQ (val a)->bC b/\∀aV,aV=aQ (val b)->(decide (↑aV.length=(0:Int))=true->K (J.tup [J.d (R.ad .u32 []),J.d (R.ad .u32 []),J.d (R.int .i64 (3:Int))]))/\(decide (↑aV.length=(0:Int))=false->(bC x/\bC aV)/\∀aS,aS=cmp (val x) (val aV)->(decide (aS<(0:Int))=true->K (J.tup [J.d (R.ad .u32 []),J.d (R.ad .u32 x),J.d (R.int .i64 (0:Int))]))/\(decide (aS<(0:Int))=false->(decide (↑aV.length=(1:Int))=true->(0:Int)<=(0:Int)/\(0:Int)<↑aV.length/\(bC x/\L (aV.getD (0:Nat) (0:Int))/\(0:Int)<aV.getD (0:Nat) (0:Int))/\∀bo,bo=aQ (val x/(aV.getD (0:Nat) (0:Int)).toNat)->∀cp,cp=↑(val x%(aV.getD (0:Nat) (0:Int)).toNat)->bC [cp]/\∀x,x=aQ (val [cp])->K (J.tup [J.d (R.ad .u32 bo),J.d (R.ad .u32 x),J.d (R.int .i64 (0:Int))]))/\(decide (↑aV.length=(1:Int))=false->∃(aK:Int->Prop),∃(m:Int->Nat),((true,af.ad .u32 x)=(true,af.ad .u32 x)/\(true,af.ad .u32 aV)=(true,af.ad .u32 aV)/\aK (0:Int))/\∀(v9:Int),aK v9->(0:Int)<=ah (↑aV.length-(1:Int))/\ah (↑aV.length-(1:Int))<↑aV.length/\(0:Int)<=aT v9/\(decide (bX (aV.getD (ah (↑aV.length-(1:Int))).toNat (0:Int)*(2:Int)^min (aT v9).toNat (32:Nat))<(2147483648:Int))=true->(true,af.ad .u32 x)=(true,af.ad .u32 x)/\(true,af.ad .u32 aV)=(true,af.ad .u32 aV)/\aK (ah (v9+(1:Int)))/\m (ah (v9+(1:Int)))<m v9)/\(decide (bX (aV.getD (ah (↑aV.length-(1:Int))).toNat (0:Int)*(2:Int)^min (aT v9).toNat (32:Nat))<(2147483648:Int))=false->(bC x/\(0:Int)<=v9/\v9<(32:Int))/\∀bo,bo=kh (val x*(2:Nat)^v9.toNat) (x.length+(1:Nat))->(bC aV/\(0:Int)<=v9/\v9<(32:Int))/\∀cp,cp=kh (val aV*(2:Nat)^v9.toNat) (aV.length+(1:Nat))->bC cp/\∀c8,c8=aQ (val cp)->(0:Int)<=ah (ah (↑x.length-↑aV.length)+(1:Int))/\ah (ah (↑x.length-↑aV.length)+(1:Int))<=ah (ah (↑x.length-↑aV.length)+(1:Int))/\ah (ah (↑x.length-↑aV.length)+(1:Int))*(4:Int)<=(281474976710656:Int)/\∃(aK:List Int->Int->List Int->List Int->Prop),∃(m:List Int->Int->List Int->List Int->Nat),((true,af.ad .u32 x)=(true,af.ad .u32 x)/\(true,af.ad .u32 aV)=(true,af.ad .u32 aV)/\(true,af.ad .u32 cp)=(true,af.ad .u32 cp)/\(true,af.ad .u32 c8)=(true,af.ad .u32 c8)/\aK c8 (ah (↑(List.replicate (ah (ah (↑x.length-↑aV.length)+(1:Int))).toNat (0:Int)).length-(1:Int))) bo (List.replicate (ah (ah (↑x.length-↑aV.length)+(1:Int))).toNat (0:Int)))/\∀(v11:List Int) (b4:Int) (bl h_:List Int),aK v11 b4 bl h_->(decide ((0:Int)<=b4)=true->(0:Nat)<bl.length/\(bC bl/\bC v11/\(2:Nat)<=v11.length/\(0:Int)<=b4/\b4.toNat+v11.length<bl.length/\(2147483648:Nat)*(4294967296:Nat)^(v11.length-(1:Nat))<=val v11/\val bl<(4294967296:Nat)^(b4.toNat+(1:Nat))*val v11)/\(0:Int)<=b4/\b4<↑h_.length/\(true,af.ad .u32 x)=(true,af.ad .u32 x)/\(true,af.ad .u32 aV)=(true,af.ad .u32 aV)/\(true,af.ad .u32 cp)=(true,af.ad .u32 cp)/\(true,af.ad .u32 c8)=(true,af.ad .u32 c8)/\aK v11 (ah (b4-(1:Int))) (kh (val bl-(4294967296:Nat)^b4.toNat*(val bl/(4294967296:Nat)^b4.toNat/val v11*val v11)) bl.length) (h_.set b4.toNat ↑(val bl/(4294967296:Nat)^b4.toNat/val v11))/\m v11 (ah (b4-(1:Int))) (kh (val bl-(4294967296:Nat)^b4.toNat*(val bl/(4294967296:Nat)^b4.toNat/val v11*val v11)) bl.length) (h_.set b4.toNat ↑(val bl/(4294967296:Nat)^b4.toNat/val v11))<m v11 b4 bl h_)/\(decide ((0:Int)<=b4)=false->bC h_/\∀x,x=aQ (val h_)->(bC bl/\(0:Int)<=v9/\v9<(32:Int))/\∀c5,c5=aQ (val bl/(2:Nat)^v9.toNat)->K (J.tup [J.d (R.ad .u32 x),J.d (R.ad .u32 c5),J.d (R.int .i64 (0:Int))]))))))
def Nb:List Int->List Int->(J->Prop)->Prop:=
 fun a b K=>bC a/\∀x,x=aQ (val a)->bC b/\∀aV,aV=aQ (val b)->∃(aK:List Int->List Int->Prop),∃(m:List Int->List Int->Nat),((true,af.ad .u32 x)=(true,af.ad .u32 x)/\(true,af.ad .u32 aV)=(true,af.ad .u32 aV)/\aK x aV)/\∀(v0 v1:List Int),aK v0 v1->(decide ((0:Int)<↑v1.length)=true->(bK v0/\v0.length<=(90000000:Nat)/\bK v1/\v1.length<=(90000000:Nat))/\∀aS,(aS=if val v1=(0:Nat)then[]else aQ (val v0/val v1))->∀bo,(bo=if val v1=(0:Nat)then[]else aQ (val v0%val v1))->∀cp,(cp=if val v1=(0:Nat)then(3:Int)else(0:Int))->(true,af.ad .u32 x)=(true,af.ad .u32 x)/\(true,af.ad .u32 aV)=(true,af.ad .u32 aV)/\aK v1 bo/\m v1 bo<m v0 v1)/\(decide ((0:Int)<↑v1.length)=false->K (J.d (R.ad .u32 v0)))
end ab
end
section
open Go Go.al
namespace ab
theorem ab7 {gm l dz D V Q:Nat}(oo:gm=dz*D+l)(ax:l<dz)(iP:D/V=Q)(jN:0<V):dz*(Q*V)<=gm/\gm-dz*(Q*V)<dz*V:=by
 have U:=aqe D V;rw[iP]at U;have aa:=aph D jN;have az:dz*D=dz*(Q*V)+dz*(D%V):=by rw[<-aoO,ao9 Q V,U]
 have aW:=apc dz (show D%V+1<=V from aa);rw[aoO,ao6]at aW;omega
set_option maxHeartbeats 1000000 in
theorem WD (a b:List Int)(K:J->Prop)(h:By.T [.d (.ad .u32 a), .d (.ad .u32 b)] K):L5 a b K:=by
 obtain⟨⟨aR,hb,ag,k2⟩,ae⟩:=h;have xE:bC a:=⟨aR,by omega⟩;have xF:bC b:=⟨ag,by omega⟩;have TJ:=ju xE;have TK:=ju xF;unfold L5 ah aT bX;refine⟨xE, ?_⟩;rintro x ai;refine⟨xF, ?_⟩;rintro y bp;have fX:bC x:=ai▸⟨gq _,by omega⟩;have xU:bC y:=bp▸⟨gq _,by omega⟩;have JV:val x=val a:=by rw[ai,ef]
 have JW:val y=val b:=by rw[bp,ef]
 have xl:x.length<=90000000:=by rw[ai];omega
 have zU:y.length<=90000000:=by rw[bp];omega
 have ajI:Norm y:=bp▸G3 _;have nD:aQ (val x)=x:=by rw[JV,ai]
 rw[<-JV,<-JW]at ae;clear ai TJ TK xE xF aR ag hb k2
 have TL:y.length=0↔val y=0:=⟨fun h=>by rw[apl.1 h];rfl,fun h=>by
  have e:y=[]:=by rw[bp,<-JW,h,kD]
  rw[e];rfl⟩
 clear bp JV JW a b;refine⟨fun h=> ?_,fun h=>⟨⟨fX,xU⟩, ?_⟩⟩
 ·simp only[aoD]at h;have bc:val y=0:=TL.1 (by omega);simp only[bc,ao_]at ae;exact ae
 rintro c rfl;simp only[aoC]at h;have bc:val y≠0:=fun e=>h (by rw[TL.2 e];rfl);simp only[aox bc]at ae;refine⟨fun U=> ?_,fun U=>⟨fun aa=> ?_,fun aa=> ?_⟩⟩
 ·simp only[aoD]at U
  have bG:val x<val y:=by
   unfold cmp at U;split at U
   ·assumption
   ·split at U<;>omega
  rw[aqf bG,apv bG,kD,nD]at ae;exact ae
 ·simp only[aoD]at aa
  have ey:(y.getD 0 0).toNat=val y:=by
   have:=ht y (i:=1) (by omega);rw[gr,iC,aqg,apM,ao8]at this;exact this
  have JS:=xU.1 0;rw[ey];have hm:val x%val y<val y:=aph _ (by omega);refine⟨by omega,by omega,⟨fX,JS,by omega⟩, ?_⟩;rintro q rfl r rfl;refine⟨EV (by omega), ?_⟩;rintro t rfl;have aP:val [((val x%val y:Nat):Int)]=val x%val y:=by simp only[val,ao4,aoW,aoB]
  rw[aP];exact ae
 ·simp only[aoC]at U aa
  have ja:val y<=val x:=by
   unfold cmp at U;split at U
   ·exact absurd (by decide) U
   ·omega
  have ep:2<=y.length:=by omega
  obtain⟨e9,hM,xR,ni,oI⟩:=Pz xU.1 ajI ep;have aA:IntKind.wrap .i64 ((Nat.cast:Nat->Int) y.length-1)=((y.length-1:Nat):Int):=by rw[bR (by omega)];omega
  simp only[aA,aoB,ik xU.1];have JI:=fO xU.1 (y.length-1)
  obtain⟨t,rW⟩:∃t,lm y (y.length-1)=t:=⟨_,rfl⟩
  rw[rW]at e9 hM xR ni oI JI;simp only[rW];obtain⟨ajJ,TM,_⟩:=vU (n:=t) (by omega);refine⟨fun i=>∃k:Nat,i=k/\k<=32-c4 t,fun i=>32-i.toNat,⟨by first|rfl|trivial,by first|rfl|trivial,0,rfl,by omega⟩, ?_⟩;rintro i ⟨k,rfl,Jf⟩;have bV:IntKind.wrap .u64 (k:Int)=(k:Int):=cP (by omega);have ajK:IntKind.wrap .i64 ((k:Int)+1)=((k+1:Nat):Int):=by rw[bR (by omega)];omega
  have je:(2:Int)^k=((2^k:Nat):Int):=by simp
  have anC:t*2^k<4294967296:=by
   have az:t*2^k<2^c4 t*2^k:=aqO TM (apw k);rw[<-api]at az;have aW:=apf (show 0<2 by decide) (show c4 t+k<=32 by omega);have tn:(2:Nat)^32=4294967296:=rfl;omega
  have AO:IntKind.wrap .u32 ((t:Int)*(2:Int)^k)=((t*2^k:Nat):Int):=by
   rw[je,<-apK,h1 ⟨apx _,by omega⟩]
  simp only[bV,ajK,aoB,show min k 32=k by omega,AO];have JJ:(2:Nat)^31=2147483648:=rfl;refine⟨by omega,by omega,by omega,fun az=> ?_,fun az=> ?_⟩
  ·simp only[aoD]at az
   have xr:k≠32-c4 t:=by
    rintro rfl;have aW:=aoP (2^(32-c4 t)) ajJ;rw[<-api,show c4 t-1+(32-c4 t)=31 by omega,JJ]at aW;omega
   exact⟨by first|rfl|trivial,by first|rfl|trivial,⟨k+1,rfl,by omega⟩,by show 32-((k+1:Nat):Int).toNat<32-(k:Int).toNat;omega⟩
  ·simp only[aoC]at az
   have tp:32-c4 t=k:=by
    rcases aqp k (32-c4 t)with aW|aW
    ·exfalso;have bA:t*2^k<2^c4 t*2^k:=aqO TM (apw k);rw[<-api]at bA;have bZ:=apf (show 0<2 by decide) (show c4 t+k<=31 by omega);omega
    ·omega
   rw[tp]at ni oI;have EX:k<32:=by omega
   have agw:2^k<=2147483648:=by
    have:=apf (show 0<2 by decide) (show k<=31 by omega);omega
   have IA:4294967296^(y.length-1)<=val y:=by
    have U:=mn y (y.length-1);rw[mo]at U;have aa:=apc (4294967296^(y.length-1)) (show 1<=lm y (y.length-1)+4294967296*ew y (y.length-1+1) by omega);omega
   have hlen:y.length<=x.length:=by
    have U:=iD fX.1;have aa:4294967296^(y.length-1)<4294967296^x.length:=by omega
    have:=(Nat.pow_lt_pow_iff_right (by decide:1<4294967296)).1 aa;omega
   refine⟨⟨fX,by omega,by omega⟩, ?_⟩;rintro ib tq;refine⟨⟨xU,by omega,by omega⟩, ?_⟩;rintro v0 jb
   have xc:val v0=val y*2^k:=by
    rw[jb];refine yu _ _ (aoV ni (apf (by decide) (by omega)))
   have s3:val ib=val x*2^k:=by
    rw[tq];refine yu _ _ ?_;rw[ao2];exact Nat.mul_lt_mul'' (iD fX.1) (by omega)
   have I1:bK ib:=tq▸yt _ _;have EY:bK v0:=jb▸yt _ _;have SA:ib.length=x.length+1:=by rw[tq,wk]
   have SB:v0.length=y.length+1:=by rw[jb,wk]
   refine⟨⟨EY,by omega⟩, ?_⟩;rintro v aP;have pv:val v=val y*2^k:=by rw[aP,ef,xc]
   have oq:bK v:=aP▸gq _
   have nG:v.length=y.length:=by
    rw[aP,xc];refine Nat.le_antisymm (hQ.2 ni) ?_;refine Nat.le_of_not_lt fun ai=> ?_;have U:=hQ.1 (show(aQ (val y*2^k)).length<=y.length-1 by omega);have aa:1*4294967296^(y.length-1)<=2147483648*4294967296^(y.length-1):=aoP _ (by decide);omega
   have jZ:val x/val y=val ib/val v:=by rw[s3,pv,Nat.mul_div_mul_right _ _ (apw k)]
   have h5:(val x%val y)*2^k=val ib%val v:=by rw[s3,pv,Nat.mul_mod_mul_right]
   have pr:2147483648*4294967296^(y.length-1)<=val v:=by rw[pv];exact oI
   have tr:val v<4294967296^y.length:=by rw[pv];exact ni
   have Fv:0<val v:=by rw[pv];exact Nat.mul_pos (by omega) (apw k)
   have AN:val ib<4294967296^(x.length+1-y.length)*val v:=by
    rw[s3];have U:val x*2^k<4294967296^x.length*2147483648:=aoV (aqO (iD fX.1) (apw k)) (apc _ agw);have aa:=apc (4294967296^(x.length+1-y.length)) pr;rw[apC,<-api,show x.length+1-y.length+(y.length-1)=x.length by omega,ao9 2147483648]at aa;exact aoV U aa
   obtain⟨m,hm⟩:∃m,x.length+1-y.length=m:=⟨_,rfl⟩
   obtain⟨n,av⟩:∃n,y.length=n:=⟨_,rfl⟩
   have aju:1<=m:=by omega
   rw[hm]at AN;rw[av]at pr tr nG ep hlen zU⊢
   have j6:IntKind.wrap .i64 (IntKind.wrap .i64 ((Nat.cast:Nat->Int) x.length-(n:Int))+1)=(m:Int):=by
    rw[bR (x:=(Nat.cast:Nat->Int) x.length-(n:Int)) (by omega),bR (by omega)];omega
   rw[j6];simp only[aoB,aql]
   refine⟨by omega,by omega,by omega,fun c6 j u q=>c6=v/\-1<=j/\j<m/\bK u/\u.length=m+n/\bK q/\q.length=m/\val ib=val q*val v+val u/\val u<4294967296^(j+1).toNat*val v/\∀p:Nat,(p:Int)<=j->q.getD p 0=0,
    fun c6 j u q=>(j+1).toNat,⟨by first|rfl|trivial,by first|rfl|trivial,by first|rfl|trivial,by first|rfl|trivial, ?_⟩, ?_⟩
   ·rw[bR (by omega)];refine⟨rfl,by omega,by omega,I1,by omega,bK.nm _,by simp,by rw[yg,apT,ao8], ?_,fun p _=>by simp[aoA,ap1];split<;>rfl⟩;rw[show((m:Int)-1+1).toNat=m by omega];exact AN
   rintro c6 j u q ⟨rfl,xi,kq,hu,nx,a_,u6,heq,bG,Aa⟩;refine⟨fun aI=> ?_,fun aI=> ?_⟩
   ·simp only[aoD]at aI
    obtain⟨j,rfl⟩:∃i:Nat,j=i:=⟨j.toNat,by omega⟩
    rw[show((j:Int)+1).toNat=j+1 by omega]at bG;simp only[aoB];have dz:IntKind.wrap .i64 ((j:Int)-1)=(j:Int)-1:=bR (by omega);rw[dz]
    obtain⟨D,oF⟩:∃D,val u/4294967296^j=D:=⟨_,rfl⟩
    obtain⟨Q,iP⟩:∃Q,D/val c6=Q:=⟨_,rfl⟩
    simp only[oF,iP];have oo:val u=4294967296^j*D+val u%4294967296^j:=by rw[<-oF,aqe]
    obtain⟨f1,f2⟩:=ab7 oo (aph _ (Nat.pow_pos (by decide))) iP Fv
    have an5:Q<4294967296:=by
     rw[<-iP,<-oF];refine aqm (aqm ?_);rw[ao2,apa]at bG;rw[ao9 (val c6)];exact bG
    have SE:val (kh (val u-4294967296^j*(Q*val c6)) u.length)=val u-4294967296^j*(Q*val c6):=
     yu _ _ (ap4 (Nat.sub_le _ _) (iD hu))
    have xC:=Aa j (by omega);have Ah:=l_ q j (Q:Int) (by omega);rw[xC,show Int.toNat 0=0 from rfl,ao4,aoW,aoB]at Ah
    refine⟨by omega,⟨⟨hu,by omega⟩,⟨oq,by omega⟩,by omega,by omega,by omega,by rw[nG];exact pr,bG⟩,by omega,by omega,by first|rfl|trivial,by first|rfl|trivial,by first|rfl|trivial,by first|rfl|trivial,
     ⟨by first|rfl|trivial,by omega,by omega,yt _ _,by rw[wk];exact nx,a_.set _ ⟨by omega,by omega⟩,by rw[aoI];exact u6, ?_, ?_,fun p aE=> ?_⟩, ?_⟩
    ·rw[Ah,SE,heq,aoT,apa];omega
    ·rw[SE,show((j:Int)-1+1).toNat=j by omega];exact f2
    ·rw[eu,aox (by omega)];exact Aa p (by omega)
    ·show((j:Int)-1+1).toNat<((j:Int)+1).toNat;omega
   ·simp only[aoC]at aI;obtain rfl:j=-1:=by omega
    rw[show((-1:Int)+1).toNat=0 from rfl,aqg,apM]at bG
    have zW:val ib/val c6=val q:=by
     rw[heq,ao9,Nat.mul_add_div (by omega),aqf bG,aoW]
    have xj:val ib%val c6=val u:=by
     rw[heq,ao9,aqC,apv bG]
    have dH:val u/2^k=val x%val y:=by rw[<-xj,<-h5,Nat.mul_div_cancel _ (apw k)]
    refine⟨⟨a_,by omega⟩, ?_⟩;rintro r rfl;refine⟨⟨⟨hu,by omega⟩,by omega,by omega⟩, ?_⟩;rintro s rfl;rw[dH,<-zW,<-jZ];exact ae
theorem Y0 (a b:List Int)(K:J->Prop)(h:CG.T [.d (.ad .u32 a), .d (.ad .u32 b)] K):Nb a b K:=by
 obtain⟨⟨aR,hb,ag,k2⟩,ae⟩:=h;have xE:bC a:=⟨aR,by omega⟩;have xF:bC b:=⟨ag,by omega⟩;have TJ:=ju xE;have TK:=ju xF;unfold Nb
 obtain⟨G,ia⟩:∃G,Nat.gcd (val a) (val b)=G:=⟨_,rfl⟩
 rw[ia]at ae;refine⟨xE, ?_⟩;rintro x rfl;refine⟨xF, ?_⟩;rintro y rfl;refine⟨fun u v=>∃A B:Nat,u=aQ A/\v=aQ B/\Nat.gcd A B=G/\(aQ A).length<=90000000/\(aQ B).length<=90000000,fun u v=>val v,⟨by first|rfl|trivial,by first|rfl|trivial,val a,val b,rfl,rfl,ia,by omega,by omega⟩, ?_⟩;rintro u v ⟨A,B,rfl,rfl,rX,dE,ey⟩;simp only[ef];refine⟨fun h=>⟨⟨gq _,dE,gq _,ey⟩, ?_⟩,fun h=> ?_⟩
 ·simp only[aoD]at h
  have px:B≠0:=fun e=>by
   subst e;rw[kD]at h;simp at h
  have bG:A%B<B:=aph _ (by omega);rintro q rfl r rfl e rfl;rw[aox px];refine⟨by first|rfl|trivial,by first|rfl|trivial,⟨B,A%B,rfl,rfl,by rw[Cb];exact rX,ey, ?_⟩,by rw[ef];exact bG⟩;refine aoS (hQ.2 ?_) ey;exact Nat.lt_trans bG (hQ.1 (aoE _))
 ·simp only[aoC]at h;have px:B=0:=yZ (by omega);subst px;rw[Nat.gcd_zero_right]at rX;rw[rX];exact ae
end ab
end
section
open Go Go.al
namespace ab
end ab
end
section
open Go Go.al
namespace ab
end ab
end
section
namespace ab
open Go Go.al
theorem wb (s:Bool)(n:Nat):(dL s n).natAbs=n:=by unfold dL;split<;>omega
theorem QL (s:Bool):dL s 0=0:=by unfold dL;split<;>rfl
theorem Rt (s:Bool)(n m:Nat):dL s n+dL s m=dL s (n+m):=by unfold dL;split<;>omega
theorem wI (n:Int):dL (decide (n<0)) n.natAbs=n:=by
 unfold dL
 by_cases h:n<0
 ·simp only[h,decide_true,ao_];omega
 ·simp only[h,decide_false,apP,if_false];omega
theorem Ru (s t:Bool)(n m:Nat):dL s n*dL t m=dL (s !=t) (n*m):=by
 unfold dL;cases s<;>cases t<;>simp[apK,Int.neg_mul,Int.mul_neg]
theorem BQ {s t:Bool}{n m:Nat}(h:s≠t)(hm:m<=n):dL s n+dL t m=dL s (n-m):=by
 unfold dL;cases s<;>cases t<;>simp at h⊢<;>omega
theorem Rv {s:Bool}{n d:Nat}(a8:d≠0):(mkRat (dL s n) d).num.natAbs=n/Nat.gcd n d:=by
 rw[Rat.num_mkRat,aox a8,wb,Nat.gcd_comm,Int.natAbs_ediv_of_dvd,wb]
 ·rfl
 ·rw[<-Int.dvd_natAbs,wb];exact Int.natCast_dvd_natCast.2 (Nat.gcd_dvd_left n d)
theorem Rw {s:Bool}{n d:Nat}(a8:d≠0):(mkRat (dL s n) d).den=d/Nat.gcd n d:=by
 rw[Rat.den_mkRat,aox a8,wb,Nat.gcd_comm]
theorem aev {s:Bool}{n d:Nat}(a8:d≠0):cl (mkRat (dL s n) d)=(s&&decide (n≠0)):=by
 unfold cl;rw[Rat.num_mkRat,aox a8,wb];have bh:0<d.gcd n:=Nat.gcd_pos_of_pos_left _ (by omega)
 cases s with
 |false=>
  have:¬dL false n/(d.gcd n:Int)<0:=by
   have:0<=dL false n/(d.gcd n:Int):=Int.ediv_nonneg (by unfold dL;simp) (by omega);omega
  simp[this]
 |true=>
  by_cases bc:n=0
  ·subst bc;simp[QL]
  ·have:dL true n/(d.gcd n:Int)<0:=Int.ediv_neg_of_neg_of_pos (by unfold dL;simp;omega) (by omega);simp[this,bc]
theorem Rx {s:Bool}{a b:List Int}(h:val b≠0):cj (bb s a b)=aQ (val a/Nat.gcd (val a) (val b)):=by unfold cj bb;rw[Rv h]
theorem Ry {s:Bool}{a b:List Int}(h:val b≠0):ca (bb s a b)=aQ (val b/Nat.gcd (val a) (val b)):=by unfold ca bb;rw[Rw h]
theorem Rz {s:Bool}{a b:List Int}(h:val b≠0):cl (bb s a b)=(s&&decide (val a≠0)):=aev h
theorem QM {s:Bool}{a b:List Int}(h:val b=0):bb s a b=0:=by unfold bb;rw[h,Rat.mkRat_zero]
theorem HH {s:Bool}{a b:List Int}(h:val a=0):bb s a b=0:=by unfold bb;rw[h,QL,Rat.zero_mkRat]
theorem R9:cl 0=false:=rfl
theorem pN:aQ 1=[1]:=by
 rw[wa (by decide),show 1/4294967296=0 by decide,kD];rfl
theorem R_:cj 0=[]:=by unfold cj;exact kD
theorem Sa:ca 0=[1]:=by unfold ca;exact pN
theorem val_one:val [1]=1:=by rw[<-pN,ef]
theorem lp (r:Rat):bb (cl r) (cj r) (ca r)=r:=by
 unfold bb cl cj ca;rw[ef,ef,wI,Rat.mkRat_self]
theorem ab8 (r:Rat):bK (cj r):=gq _
theorem ab9 (r:Rat):bK (ca r):=gq _
theorem wm (r:Rat):val (cj r)=r.num.natAbs:=ef _
theorem pV (r:Rat):val (ca r)=r.den:=ef _
theorem q6 (r:Rat):val (ca r)≠0:=by rw[pV];exact r.den_nz
theorem HI (r:Rat):ca r=[1]↔r.den=1:=by rw[<-pN];exact Hg
theorem PF (r:Rat):cj r=[]↔r=0:=by
 unfold cj;rw[qR,Int.natAbs_eq_zero,Rat.num_eq_zero]
theorem bO.cI {k:Nat}{a:List Int}(h:bO k a)(ae:k<=100000000:=by decide):bC a:=⟨h.1,by have:=h.2;omega⟩
theorem bO.mono {k j:Nat}{a:List Int}(h:bO k a)(ae:k<=j):bO j a:=⟨h.1,by have:=h.2;omega⟩
def dp (k:Nat)(r:Rat):Prop:=r.num.natAbs<4294967296^k/\r.den<4294967296^k
theorem dp.num {k:Nat}{r:Rat}(h:dp k r):bO k (cj r):=⟨ab8 r,hQ.2 h.1⟩
theorem dp.den {k:Nat}{r:Rat}(h:dp k r):bO k (ca r):=⟨ab9 r,hQ.2 h.2⟩
theorem dp.mono {k j:Nat}{r:Rat}(h:dp k r)(ae:k<=j):dp j r:=⟨aoV h.1 (apf (by decide) ae),aoV h.2 (apf (by decide) ae)⟩
theorem dp.mk {k:Nat}{n:Int}{d:Nat}(U:n.natAbs<4294967296^k)(aa:d<4294967296^k)(ae:1<=k:=by omega):dp k (mkRat n d):=by
 by_cases a8:d=0
 ·subst a8;rw[Rat.mkRat_zero];have:(4294967296:Nat)^1<=4294967296^k:=apf (by decide) ae;exact⟨by show 0<_;omega,by show 1<_;omega⟩
 ·rw[show n=dL (decide (n<0)) n.natAbs from(wI n).symm];exact⟨by rw[Rv a8];exact ap4 (aqZ _ _) U,by rw[Rw a8];exact ap4 (aqZ _ _) aa⟩
theorem bO.val {k:Nat}{a:List Int}(h:bO k a):val a<4294967296^k:=aoV (iD h.1) (apf (by decide) h.2)
theorem dp.of {k:Nat}{s:Bool}{a b:List Int}(aR:bO k a)(ag:bO k b)(ae:1<=k:=by omega):dp k (bb s a b):= .mk (by rw[wb];exact aR.val) ag.val ae
theorem dp.neg {k:Nat}{r:Rat}(h:dp k r):dp k (-r):=⟨by rw[Rat.neg_num,Int.natAbs_neg];exact h.1,h.2⟩
theorem vV {k j:Nat}{x y:Nat}(ai:x<4294967296^k)(bp:y<4294967296^j):x*y<4294967296^(k+j):=by
 rw[api];exact Nat.mul_lt_mul'' ai bp
theorem dp.mul {k j:Nat}{r q:Rat}(h:dp k r)(g:dp j q)(ae:1<=k+j:=by omega):dp (k+j) (r*q):=by
 rw[Rat.mul_def'];exact .mk (by rw[Int.natAbs_mul];exact vV h.1 g.1) (vV h.2 g.2) ae
theorem dp.add {k j:Nat}{r q:Rat}(h:dp k r)(g:dp j q):dp (k+j+1) (r+q):=by
 rw[Rat.add_def'];refine .mk ?_ ?_
 ·have U:=vV h.1 g.2;have aa:=vV g.1 h.2;rw[Nat.add_comm j k]at aa;have az:=Int.natAbs_add_le (r.num*q.den) (q.num*r.den);rw[Int.natAbs_mul,Int.natAbs_mul]at az;have aA:(q.den:Int).natAbs=q.den:=rfl;have aL:(r.den:Int).natAbs=r.den:=rfl;rw[aA,aL]at az;rw[ao2];generalize (4294967296:Nat)^(k+j)=W at*;omega
 ·have U:=vV h.2 g.2;rw[ao2];generalize (4294967296:Nat)^(k+j)=W at*;omega
theorem dp.sub {k j:Nat}{r q:Rat}(h:dp k r)(g:dp j q):dp (k+j+1) (r-q):=by rw[Rat.sub_eq_add_neg];exact h.add g.neg
theorem dp.zero:dp 1 0:=⟨by decide,by decide⟩
theorem dp.one:dp 1 1:=⟨by decide,by decide⟩
theorem dp.pow {k:Nat}{r:Rat}(h:dp k r)(ae:1<=k:=by omega):∀n,dp (k*n+1) (r^n)
 |0=>by rw[Rat.pow_zero];exact dp.one.mono (by omega)
 |n+1=>by
  rw[Rat.pow_succ];exact((dp.pow h ae n).mul h).mono (by rw[Nat.mul_succ];omega)
theorem Cf (r:Rat):cl r=true↔r<0:=by
 unfold cl;rw[ao1,Rat.lt_iff];simp
theorem sq {r:Rat}:k1 r=0↔r=0:=by
 unfold k1;split
 ·simp_all
 ·split<;>simp_all
end ab
end
section
open Go Go.al
namespace ab
def Nc:Bool->List Int->List Int->(J->Prop)->Prop:=
 fun s a b K=>bC a/\∀x,x=aQ (val a)->bC b/\∀aV,aV=aQ (val b)->(decide (↑x.length=(0:Int))=true->K (J.agg [J.d (R.bool false),J.d (R.ad .u32 []),J.d (R.ad .u32 [(1:Int)])]))/\(decide (↑x.length=(0:Int))=false->(bC x/\bC aV)/\∀aS,aS=aQ ((val x).gcd (val aV))->((!decide (↑aS.length=(1:Int)))=true->(bC x/\bC aS)/\∀bo,(bo=if val aS=(0:Nat)then[]else aQ (val x/val aS))->∀cp,(cp=if val aS=(0:Nat)then[]else aQ (val x%val aS))->∀x,(x=if val aS=(0:Nat)then(3:Int)else(0:Int))->(bC aV/\bC aS)/\∀x,(x=if val aS=(0:Nat)then[]else aQ (val aV/val aS))->∀c8,(c8=if val aS=(0:Nat)then[]else aQ (val aV%val aS))->∀c5,(c5=if val aS=(0:Nat)then(3:Int)else(0:Int))->K (J.agg [J.d (R.bool s),J.d (R.ad .u32 bo),J.d (R.ad .u32 x)]))/\((!decide (↑aS.length=(1:Int)))=false->(0:Int)<=(0:Int)/\(0:Int)<↑aS.length/\((!decide (aS.getD (0:Nat) (0:Int)=(1:Int)))=true->(bC x/\bC aS)/\∀bo,(bo=if val aS=(0:Nat)then[]else aQ (val x/val aS))->∀cp,(cp=if val aS=(0:Nat)then[]else aQ (val x%val aS))->∀x,(x=if val aS=(0:Nat)then(3:Int)else(0:Int))->(bC aV/\bC aS)/\∀x,(x=if val aS=(0:Nat)then[]else aQ (val aV/val aS))->∀c8,(c8=if val aS=(0:Nat)then[]else aQ (val aV%val aS))->∀c5,(c5=if val aS=(0:Nat)then(3:Int)else(0:Int))->K (J.agg [J.d (R.bool s),J.d (R.ad .u32 bo),J.d (R.ad .u32 x)]))/\((!decide (aS.getD (0:Nat) (0:Int)=(1:Int)))=false->K (J.agg [J.d (R.bool s),J.d (R.ad .u32 x),J.d (R.ad .u32 aV)]))))
def Nd:List Int->(J->Prop)->Prop:=
 fun a K=>(bC a/\bC [])/\∀x,x=cmp (val a) 0->K (J.d (R.bool (decide (x=0))))
def Nf:Bool->List Int->List Int->(J->Prop)->Prop:=
 fun s a b K=>bC b/\∀x,x=decide (val b=0)->(x=true->(bC []/\bC [1]/\¬1=0)/\∀x,x=cl (bb false [] [1])->∀aV,aV=cj (bb false [] [1])->∀aS,aS=ca (bb false [] [1])->K (J.agg [J.d (R.bool x),J.d (R.ad .u32 aV),J.d (R.ad .u32 aS)]))/\(x=false->(bC a/\bC b/\¬val b=0)/\∀x,x=cl (bb s a b)->∀aV,aV=cj (bb s a b)->∀aS,aS=ca (bb s a b)->K (J.agg [J.d (R.bool x),J.d (R.ad .u32 aV),J.d (R.ad .u32 aS)]))
def PG:List Int->(J->Prop)->Prop:=
 fun a K=>(decide (↑a.length=(1:Int))=true->(0:Int)<=(0:Int)/\(0:Int)<↑a.length/\K (J.d (R.bool (decide (a.getD (0:Nat) (0:Int)=(1:Int))))))/\(decide (↑a.length=(1:Int))=false->K (J.d (R.bool false)))
def VF:Bool->List Int->List Int->(J->Prop)->Prop:=
 fun s a b K=>K (J.agg [J.d (R.bool s),J.d (R.ad .u32 a),J.d (R.ad .u32 b)])
def OJ:Bool->List Int->List Int->(J->Prop)->Prop:=
 fun s a b K=>(bC a/\bC b)/\∀x,x=cl (bb s a b)->∀aV,aV=cj (bb s a b)->∀aS,aS=ca (bb s a b)->True/\∀bo,bo=x->∀x,x=aV->∀cp,cp=aS->K (J.agg [J.d (R.bool bo),J.d (R.ad .u32 x),J.d (R.ad .u32 cp)])
def L6:Int->(J->Prop)->Prop:=
 fun n K=>∃(bm:Int->Prop),((decide (n<0)=true->bm (aT (0-aT n)))/\(decide (n<0)=false->bm (aT n)))/\∀(v4:Int),bm v4->bC [bX v4,bX (v4.fdiv 4294967296)]/\∀x,x=aQ (val [bX v4,bX (v4.fdiv 4294967296)])->K (J.tup [J.d (R.bool (decide (n<0))),J.d (R.ad .u32 x)])
def PH:Int->(J->Prop)->Prop:=
 fun n K=>i64 n/\∀x,x=decide (n<0)->∀aV,aV=aQ n.natAbs->(bC aV/\bC [1]/\¬1=0)/\∀aS,aS=cl (bb x aV [1])->∀bo,bo=cj (bb x aV [1])->∀cp,cp=ca (bb x aV [1])->True/\∀x,x=aS->∀c8,c8=bo->∀c5,c5=cp->K (J.agg [J.d (R.bool x),J.d (R.ad .u32 c8),J.d (R.ad .u32 c5)])
def MT:Bool->List Int->Bool->List Int->List Int->(J->Prop)->Prop:=
 fun s a t b d K=>((s==t)=true->(bC a/\bC b)/\∀x,x=aQ (val a+val b)->(bC x/\bC d/\¬val d=(0:Nat))/\∀aV,aV=cl (bb s x d)->∀aS,aS=cj (bb s x d)->∀bo,bo=ca (bb s x d)->K (J.agg [J.d (R.bool aV),J.d (R.ad .u32 aS),J.d (R.ad .u32 bo)]))/\((s==t)=false->∃(bm:Bool->List Int->List Int->Prop),((bC a/\bC b)/\∀x,x=cmp (val a) (val b)->(decide (x<(0:Int))=true->(false,af.cells [J.d (R.bool false),J.emp,J.emp])=(false,af.cells [J.d (R.bool false),J.emp,J.emp])/\bm t b a)/\(decide (x<(0:Int))=false->(false,af.cells [J.d (R.bool false),J.emp,J.emp])=(false,af.cells [J.d (R.bool false),J.emp,J.emp])/\bm s a b))/\∀(v0:Bool) (v1 v3:List Int),bm v0 v1 v3->(bC v1/\bC v3)/\∀x,(x=if val v1<val v3 then[]else aQ (val v1-val v3))->∀aV,(aV=if val v1<val v3 then(1:Int)else(0:Int))->(bC x/\bC d/\¬val d=(0:Nat))/\∀aS,aS=cl (bb v0 x d)->∀bo,bo=cj (bb v0 x d)->∀cp,cp=ca (bb v0 x d)->K (J.agg [J.d (R.bool aS),J.d (R.ad .u32 bo),J.d (R.ad .u32 cp)]))
def PI:Bool->List Int->List Int->Bool->List Int->List Int->(J->Prop)->Prop:=
 fun s a b t c d K=>(bC a/\bC b)/\∀x,x=cl (bb s a b)->∀aV,aV=cj (bb s a b)->∀aS,aS=ca (bb s a b)->(bC c/\bC d)/\∀bo,bo=cl (bb t c d)->∀cp,cp=cj (bb t c d)->∀c8,c8=ca (bb t c d)->True/\∀c5,c5=decide (aS=[1])->(c5=true->True/\∀dm,dm=decide (c8=[1])->(dm=true->(bO 50000000 aV/\bO 50000000 cp/\bC aS/\¬val aS=0)/\∀dx,dx=cl (mkRat (dL x (val aV)+dL bo (val cp)) (val aS))->∀dN,dN=cj (mkRat (dL x (val aV)+dL bo (val cp)) (val aS))->∀eK,eK=ca (mkRat (dL x (val aV)+dL bo (val cp)) (val aS))->True/\∀x,x=dx->∀fQ,fQ=dN->∀fC,fC=eK->K (J.agg [J.d (R.bool x),J.d (R.ad .u32 fQ),J.d (R.ad .u32 fC)]))/\(dm=false->(bC aV/\bC c8)/\∀dx,dx=aQ (val aV*val c8)->(bC cp/\bC aS)/\∀dN,dN=aQ (val cp*val aS)->(bC aS/\bC c8)/\∀eK,eK=aQ (val aS*val c8)->(bO 50000000 dx/\bO 50000000 dN/\bC eK/\¬val eK=0)/\∀fQ,fQ=cl (mkRat (dL x (val dx)+dL bo (val dN)) (val eK))->∀fC,fC=cj (mkRat (dL x (val dx)+dL bo (val dN)) (val eK))->∀im,im=ca (mkRat (dL x (val dx)+dL bo (val dN)) (val eK))->True/\∀x,x=fQ->∀h2,h2=fC->∀lK,lK=im->K (J.agg [J.d (R.bool x),J.d (R.ad .u32 h2),J.d (R.ad .u32 lK)])))/\(c5=false->(bC aV/\bC c8)/\∀dm,dm=aQ (val aV*val c8)->(bC cp/\bC aS)/\∀dx,dx=aQ (val cp*val aS)->(bC aS/\bC c8)/\∀dN,dN=aQ (val aS*val c8)->(bO 50000000 dm/\bO 50000000 dx/\bC dN/\¬val dN=0)/\∀eK,eK=cl (mkRat (dL x (val dm)+dL bo (val dx)) (val dN))->∀fQ,fQ=cj (mkRat (dL x (val dm)+dL bo (val dx)) (val dN))->∀fC,fC=ca (mkRat (dL x (val dm)+dL bo (val dx)) (val dN))->True/\∀x,x=eK->∀im,im=fQ->∀h2,h2=fC->K (J.agg [J.d (R.bool x),J.d (R.ad .u32 im),J.d (R.ad .u32 h2)]))
def PJ:Bool->List Int->List Int->(J->Prop)->Prop:=
 fun s a b K=>(bC a/\bC b)/\∀x,x=cl (bb s a b)->∀aV,aV=cj (bb s a b)->∀aS,aS=ca (bb s a b)->((!x)=true->True/\∀x,x=decide ((0:Int)<↑aV.length)->∀bo,bo=aV->∀cp,cp=aS->K (J.agg [J.d (R.bool x),J.d (R.ad .u32 bo),J.d (R.ad .u32 cp)]))/\((!x)=false->True/\∀x,x=false->∀bo,bo=aV->∀cp,cp=aS->K (J.agg [J.d (R.bool x),J.d (R.ad .u32 bo),J.d (R.ad .u32 cp)]))
def PK:Bool->List Int->List Int->Bool->List Int->List Int->(J->Prop)->Prop:=
 fun s a b t c d K=>(bO 1000000 c/\bO 1000000 d)/\∀x,x=cl (-bb t c d)->∀aV,aV=cj (-bb t c d)->∀aS,aS=ca (-bb t c d)->(bO 1000000 a/\bO 1000000 b/\bO 1000000 aV/\bO 1000000 aS)/\∀bo,bo=cl (bb s a b+bb x aV aS)->∀cp,cp=cj (bb s a b+bb x aV aS)->∀c8,c8=ca (bb s a b+bb x aV aS)->K (J.agg [J.d (R.bool bo),J.d (R.ad .u32 cp),J.d (R.ad .u32 c8)])
def PL:Bool->List Int->List Int->Bool->List Int->List Int->(J->Prop)->Prop:=
 fun s a b t c d K=>(bC a/\bC b)/\∀x,x=cl (bb s a b)->∀aV,aV=cj (bb s a b)->∀aS,aS=ca (bb s a b)->(bC c/\bC d)/\∀bo,bo=cl (bb t c d)->∀cp,cp=cj (bb t c d)->∀c8,c8=ca (bb t c d)->(bC aV/\bC cp)/\∀c5,c5=aQ (val aV*val cp)->(bC aS/\bC c8)/\∀dm,dm=aQ (val aS*val c8)->(bC c5/\bC dm/\¬val dm=0)/\∀dx,dx=cl (bb (!x==bo) c5 dm)->∀dN,dN=cj (bb (!x==bo) c5 dm)->∀eK,eK=ca (bb (!x==bo) c5 dm)->True/\∀x,x=dx->∀fQ,fQ=dN->∀fC,fC=eK->K (J.agg [J.d (R.bool x),J.d (R.ad .u32 fQ),J.d (R.ad .u32 fC)])
def OK:Bool->List Int->List Int->(J->Prop)->Prop:=
 fun s a b K=>(bC a/\bC b)/\∀x,x=cl (bb s a b)->∀aV,aV=cj (bb s a b)->∀aS,aS=ca (bb s a b)->(decide (↑aV.length=(0:Int))=true->K (J.d (R.int .i64 0)))/\(decide (↑aV.length=(0:Int))=false->(x=true->K (J.d (R.int .i64 (-1))))/\(x=false->K (J.d (R.int .i64 1))))
def PM:Bool->List Int->List Int->Bool->List Int->List Int->(J->Prop)->Prop:=
 fun s a b t c d K=>(bO 1000000 a/\bO 1000000 b/\bO 1000000 c/\bO 1000000 d)/\∀x,x=cl (bb s a b-bb t c d)->∀aV,aV=cj (bb s a b-bb t c d)->∀aS,aS=ca (bb s a b-bb t c d)->(bC aV/\bC aS)/\∀bo,bo=k1 (bb x aV aS)->K (J.d (R.int .i64 bo))
def NW:Bool->List Int->List Int->Bool->List Int->List Int->(J->Prop)->Prop:=
 fun s a b t c d K=>(bO 1000000 a/\bO 1000000 b/\bO 1000000 c/\bO 1000000 d)/\∀x,x=k1 (bb s a b-bb t c d)->K (J.d (R.bool (decide (x=0))))
def Ng:Bool->List Int->List Int->(J->Prop)->Prop:=
 fun s a b K=>(bC a/\bC b)/\∀x,x=cl (bb s a b)->∀aV,aV=cj (bb s a b)->∀aS,aS=ca (bb s a b)->bC aV/\∀bo,bo=dec (val aV)->∃(bm:List Int->Prop),((x=true->(1:Int)+↑bo.length<=(9223372036854775807:Int)/\(false,af.cells [J.d (R.bool s),J.d (R.ad .u32 a),J.d (R.ad .u32 b)])=(false,af.cells [J.d (R.bool s),J.d (R.ad .u32 a),J.d (R.ad .u32 b)])/\(false,af.cells [J.d (R.bool x),J.d (R.ad .u32 aV),J.d (R.ad .u32 aS)])=(false,af.cells [J.d (R.bool x),J.d (R.ad .u32 aV),J.d (R.ad .u32 aS)])/\bm ([(45:Int)]++bo))/\(x=false->(false,af.cells [J.d (R.bool s),J.d (R.ad .u32 a),J.d (R.ad .u32 b)])=(false,af.cells [J.d (R.bool s),J.d (R.ad .u32 a),J.d (R.ad .u32 b)])/\(false,af.cells [J.d (R.bool x),J.d (R.ad .u32 aV),J.d (R.ad .u32 aS)])=(false,af.cells [J.d (R.bool x),J.d (R.ad .u32 aV),J.d (R.ad .u32 aS)])/\bm bo))/\∀(v4:List Int),bm v4->True/\∀x,x=decide (aS=[(1:Int)])->((!x)=true->bC aS/\∀x,x=dec (val aS)->(1:Int)+↑x.length<=(9223372036854775807:Int)/\↑v4.length+↑([(47:Int)]++x).length<=(9223372036854775807:Int)/\K (J.d (R.str (v4++([(47:Int)]++x)))))/\((!x)=false->K (J.d (R.str v4)))
end ab
end
section
open Go Go.al
namespace ab
theorem E0 {a:List Int}:decide (((a.length:Nat):Int)=0)=true↔a=[]:=by
 rw[ao1];constructor
 ·intro h;exact apl.1 (by omega)
 ·rintro rfl;rfl
theorem wc {a:List Int}(h:bC a):bC (aQ (val a)):=⟨gq _,aoS (ju h) h.2⟩
theorem ug {k n:Nat}(h:n<4294967296^k):bO k (aQ n):=⟨gq _,hQ.2 h⟩
theorem Y1 {n:Nat}:aQ n=[1]↔n=1:=by rw[<-pN];exact Hg
theorem gcd_le_right {a b:Nat}(h:b≠0):Nat.gcd a b<=b:=Nat.le_of_dvd (aqJ h) (Nat.gcd_dvd_right a b)
theorem Hl {n:Nat}{b:List Int}(ag:bC b)(h:n<=val b):bC (aQ n):=⟨gq _,aoS (hQ.2 (ap4 h (iD ag.1))) ag.2⟩
theorem adD {n:Nat}:(aQ n).length=1/\(aQ n).getD 0 0=1↔n=1:=by
 constructor
 ·rintro⟨U,aa⟩;rw[<-Y1]
  match aQ n,U,aa with
  |[x],_,aa=>simp at aa;rw[aa]
 ·rintro rfl;rw[pN];simp
theorem ae9 {s:Bool}{a b:List Int}(h:val b≠0)(bc:val a≠0):cl (bb s a b)=s:=by rw[Rz h];simp[bc]
theorem Y2 (s:Bool)(a b:List Int)(K:J->Prop)(h:CI.T [.d (.bool s), .d (.ad .u32 a), .d (.ad .u32 b)] K):Nc s a b K:=by
 obtain⟨⟨aR,ag,ov⟩,ae⟩:=h;unfold Nc;refine⟨aR, ?_⟩;rintro _ rfl;refine⟨ag, ?_⟩;rintro _ rfl;refine⟨fun h=> ?_,fun h=> ?_⟩
 ·have bc:val a=0:=qR.1 (E0.1 h);rw[HH bc,R9,R_,Sa]at ae;exact ae
 ·have bc:val a≠0:=fun e=>by
   rw[E0.2 (qR.2 e)]at h;cases h
  have bh:Nat.gcd (val a) (val b)≠0:=fun e=>ov (Nat.gcd_eq_zero_iff.1 e).2;rw[ae9 ov bc,Rx ov,Ry ov]at ae;refine⟨⟨wc aR,wc ag⟩, ?_⟩;rintro _ rfl;simp only[ef];have r7:bC (aQ (Nat.gcd (val a) (val b))):=Hl ag (gcd_le_right ov);refine⟨fun _=>⟨⟨wc aR,r7⟩, ?_⟩,fun U=>⟨by omega, ?_,fun _=>⟨⟨wc aR,r7⟩, ?_⟩,fun aa=> ?_⟩⟩
  ·rintro _ rfl _ rfl _ rfl;refine⟨⟨wc ag,r7⟩, ?_⟩;rintro _ rfl _ rfl _ rfl;rw[aox bh,aox bh];exact ae
  ·have:(((aQ (Nat.gcd (val a) (val b))).length:Nat):Int)=1:=by simpa using U
   omega
  ·rintro _ rfl _ rfl _ rfl;refine⟨⟨wc ag,r7⟩, ?_⟩;rintro _ rfl _ rfl _ rfl;rw[aox bh,aox bh];exact ae
  ·have hG:(((aQ (Nat.gcd (val a) (val b))).length:Nat):Int)=1:=by simpa using U
   have aA:(aQ (Nat.gcd (val a) (val b))).length=1:=by omega
   have aL:(aQ (Nat.gcd (val a) (val b))).getD 0 0=1:=by simpa using aa
   have e:=adD.1 ⟨aA,aL⟩;rw[e,Nat.div_one,Nat.div_one]at ae;exact ae
theorem ab_ {n:Nat}:(decide (cmp n 0=0))=decide (n=0):=by
 unfold cmp
 by_cases h:n=0
 ·subst h;rfl
 ·simp[h]
theorem QN:bC []:=⟨.nil,by simp⟩
theorem H4:bC [1]:=⟨.mk (by decide) .nil,by simp⟩
theorem Y3 (a:List Int)(K:J->Prop)(h:CJ.T [.d (.ad .u32 a)] K):Nd a K:=by
 obtain⟨aR,ae⟩:=h;unfold Nd;refine⟨⟨aR,QN⟩, ?_⟩;rintro _ rfl;rw[ab_];exact ae
theorem Y4 (s:Bool)(a b:List Int)(K:J->Prop)(h:wC.T [dR s a b] K):Nf s a b K:=by
 obtain⟨⟨aR,ag⟩,ae⟩:=h;unfold Nf;refine⟨ag, ?_⟩;rintro _ rfl;refine⟨fun bc=>⟨⟨QN,H4,by decide⟩, ?_⟩,fun bc=>⟨⟨aR,ag,by simpa using bc⟩, ?_⟩⟩
 ·rintro _ rfl _ rfl _ rfl;have bc:val b=0:=by simpa using bc
  rw[QM bc]at ae;rw[HH (a:=[]) rfl];exact ae
 ·rintro _ rfl _ rfl _ rfl;exact ae
theorem adE (a:List Int)(K:J->Prop)(h:EM.T [.d (.ad .u32 a)] K):PG a K:=by
 obtain⟨_,ae⟩:=h;unfold PG;refine⟨fun h=> ?_,fun h=> ?_⟩
 ·have U:a.length=1:=by
   have:=aoJ h;omega
  refine⟨by omega,by omega, ?_⟩
  match a,U with
  |[x],_=>
   have e:decide ([x]=[1])=decide (([x]:List Int).getD 0 0=1):=by simp
   rw[e]at ae;exact ae
 ·have U:a≠[1]:=by
   rintro rfl;simp at h
  have e:decide (a=[1])=false:=by simpa using U
  rw[e]at ae;exact ae
theorem VM (s:Bool)(a b:List Int)(K:J->Prop)(h:EL.T [dR s a b] K):VF s a b K:=h.2
theorem aca (s:Bool)(a b:List Int)(K:J->Prop)(h:wC.T [dR s a b] K):OJ s a b K:=by
 obtain⟨aE,ae⟩:=h;unfold OJ;refine⟨aE, ?_⟩;rintro _ rfl _ rfl _ rfl;refine⟨trivial, ?_⟩;rintro _ rfl _ rfl _ rfl;exact ae
theorem SF (n:Int)(h:i64 n):IntKind.wrap .u64 n=if n<0 then n+18446744073709551616 else n:=by
 unfold i64 at h;have e:IntKind.wrap .u64 n=n%18446744073709551616:=rfl;rw[e];split<;>omega
theorem WE (n:Int)(K:J->Prop)(h:Bz.T [.d (.int .i64 n)] K):L6 n K:=by
 obtain⟨av,ae⟩:=h;unfold L6 aT bX;have mA:=av;unfold i64 at mA;refine⟨fun v=>v=(n.natAbs:Int),⟨fun h=> ?_,fun h=> ?_⟩, ?_⟩
 ·have h:=aoJ h;rw[SF n av,aoy h];have e:IntKind.wrap .u64 (0-(n+18446744073709551616))=(0-(n+18446744073709551616))%18446744073709551616:=rfl;rw[e];omega
 ·have h:=aoN h;rw[SF n av,aox h];omega
 ·rintro v rfl;have aA:IntKind.wrap .u32 (n.natAbs:Int)=(n.natAbs:Int)%4294967296:=rfl;have aL:IntKind.wrap .u32 (Int.fdiv (n.natAbs:Int) 4294967296)=(Int.fdiv (n.natAbs:Int) 4294967296)%4294967296:=rfl;have b3:Int.fdiv (n.natAbs:Int) 4294967296=(n.natAbs:Int)/4294967296:=apg _ (by decide);rw[aA,aL,b3];refine⟨⟨.mk ⟨by omega,by omega⟩ (.mk ⟨by omega,by omega⟩ .nil),by simp⟩, ?_⟩;rintro _ rfl
  have aY:val [(n.natAbs:Int)%4294967296,(n.natAbs:Int)/4294967296%4294967296]=n.natAbs:=by
   simp only[val];omega
  rw[aY];exact ae
theorem aew (n:Int):bb (decide (n<0)) (aQ n.natAbs) [1]=(n:Rat):=by
 unfold bb;rw[ef,val_one,wI,Rat.mkRat_one]
theorem adF {n:Int}(h:i64 n):bC (aQ n.natAbs):=by
 unfold i64 at h;exact⟨gq _,aoS ((hQ (k:=2)).2 (by omega)) (by decide)⟩
theorem adG (n:Int)(K:J->Prop)(h:sU.T [.d (.int .i64 n)] K):PH n K:=by
 obtain⟨av,ae⟩:=h;unfold PH;refine⟨av, ?_⟩;rintro _ rfl _ rfl;refine⟨⟨adF av,H4,by decide⟩, ?_⟩;rw[aew];rintro _ rfl _ rfl _ rfl;refine⟨trivial, ?_⟩;rintro _ rfl _ rfl _ rfl;exact ae
theorem aaE (n d:Int)(a8:d≠0):mkRat (dL (decide (n<0) !=decide (d<0)) n.natAbs) d.natAbs=Rat.divInt n d:=by
 rw[<-Rat.divInt_ofNat];rw[Rat.divInt_eq_divInt_iff (by omega) a8];unfold dL
 by_cases U:n<0<;>by_cases aa:d<0
 ·rw[show((n.natAbs:Nat):Int)=-n by omega,show((d.natAbs:Nat):Int)=-d by omega];simp[U,aa,Int.neg_mul,Int.mul_neg]
 ·rw[show((n.natAbs:Nat):Int)=-n by omega,show((d.natAbs:Nat):Int)=d by omega];simp[U,aa]
 ·rw[show((n.natAbs:Nat):Int)=n by omega,show((d.natAbs:Nat):Int)=-d by omega];simp[U,aa,Int.neg_mul,Int.mul_neg]
 ·rw[show((n.natAbs:Nat):Int)=n by omega,show((d.natAbs:Nat):Int)=d by omega];simp[U,aa]
theorem RA {k:Nat}{x y:Nat}(ai:x<4294967296^k)(bp:y<4294967296^k):x+y<4294967296^(k+1):=by
 rw[ao2];generalize (4294967296:Nat)^k=W at*;omega
theorem adH {a b:Nat}:decide (cmp a b<0)=decide (a<b):=by
 unfold cmp
 by_cases h:a<b
 ·simp[h]
 ·by_cases aa:a=b
  ·simp[aa]
  ·simp[h,aa]
theorem X0 (s:Bool)(a:List Int)(t:Bool)(b d:List Int)(K:J->Prop)(h:B5.T [.d (.bool s), .d (.ad .u32 a), .d (.bool t), .d (.ad .u32 b), .d (.ad .u32 d)] K):MT s a t b d K:=by
 obtain⟨⟨aR,ag,a8,th⟩,ae⟩:=h;unfold MT;have pf:bC a:=aR.cI;have Al:bC b:=ag.cI;refine⟨fun h=>⟨⟨pf,Al⟩, ?_⟩,fun h=>⟨fun v0 v1 v3=>v0=(if val a<val b then t else s)/\v1=(if val a<val b then b else a)/\v3=(if val a<val b then a else b),⟨⟨pf,Al⟩, ?_⟩, ?_⟩⟩
 ·obtain rfl:s=t:=by simpa using h
  rintro _ rfl;refine⟨⟨(ug (RA aR.val ag.val)).cI,a8,th⟩, ?_⟩;rw[Rt]at ae;unfold bb;rw[ef];rintro _ rfl _ rfl _ rfl;exact ae
 ·rintro _ rfl;rw[adH];refine⟨fun h=>⟨rfl, ?_⟩,fun h=>⟨rfl, ?_⟩⟩
  ·have h:=aoJ h;simp[aoy h]
  ·have h:=aoN h;simp[aox h]
 ·have cN:s≠t:=by intro e;subst e;simp at h
  rintro _ _ _ ⟨rfl,rfl,rfl⟩
  by_cases bG:val a<val b
  ·simp only[aoy bG];refine⟨⟨Al,pf⟩, ?_⟩;rw[aox (by omega),aox (by omega)];rintro _ rfl _ rfl;refine⟨⟨Hl Al (Nat.sub_le _ _),a8,th⟩, ?_⟩;rw[Int.add_comm,BQ (apk cN) (Nat.le_of_lt bG)]at ae;unfold bb;rw[ef];rintro _ rfl _ rfl _ rfl;exact ae
  ·simp only[aox bG];refine⟨⟨pf,Al⟩, ?_⟩;rintro _ rfl _ rfl;refine⟨⟨Hl pf (Nat.sub_le _ _),a8,th⟩, ?_⟩;rw[BQ cN (by omega)]at ae;unfold bb;rw[ef];rintro _ rfl _ rfl _ rfl;exact ae
theorem n_ {k:Nat}{s:Bool}{a b:List Int}(aR:bO k a)(ag:bO k b)(ae:1<=k:=by decide):dp k (bb s a b):= .of aR ag ae
theorem HJ (r q:Rat):mkRat (dL (cl r) (val (cj r)*val (ca q))+dL (cl q) (val (cj q)*val (ca r))) (val (ca r)*val (ca q))=r+q:=by
 rw[wm,pV,wm,pV,Rat.add_def']
 have e:∀(x:Rat) (n:Nat),dL (cl x) (x.num.natAbs*n)=x.num*n:=fun x n=>by
  have h:=Ru (cl x) false x.num.natAbs n;have aa:dL (cl x) x.num.natAbs=x.num:=wI x.num;rw[aa]at h;have az:dL false n=(n:Int):=rfl;rw[az,Bool.bne_false]at h;exact h.symm
 rw[e,e]
theorem aaF {r q:Rat}(an:r.den=1)(a_:q.den=1):mkRat (dL (cl r) (val (cj r))+dL (cl q) (val (cj q))) (val (ca r))=r+q:=by
 have h:=HJ r q;rw[pV,pV,an,a_]at h;rw[pV,an];simpa using h
theorem PN (r q:Rat):bb (cl r !=cl q) (aQ (val (cj r)*val (cj q))) (aQ (val (ca r)*val (ca q)))=r*q:=by
 unfold bb;rw[ef,ef,<-Ru,wm,wm,pV,pV,Rat.mul_def'];have U:dL (cl r) r.num.natAbs=r.num:=wI r.num;have aa:dL (cl q) q.num.natAbs=q.num:=wI q.num;rw[U,aa]
theorem p5 {k j:Nat}{a b:List Int}(aR:bO k a)(ag:bO j b):bO (k+j) (aQ (val a*val b)):=ug (vV aR.val ag.val)
theorem adI (s:Bool)(a b:List Int)(t:Bool)(c d:List Int)(K:J->Prop)(h:wY.T [dR s a b,dR t c d] K):PI s a b t c d K:=by
 obtain⟨⟨aR,ag,aC,a8⟩,ae⟩:=h;unfold PI;have an:=n_ (s:=s) aR ag;have a_:=n_ (s:=t) aC a8;refine⟨⟨aR.cI,ag.cI⟩, ?_⟩;generalize bb s a b=r at*;rintro _ rfl _ rfl _ rfl;refine⟨⟨aC.cI,a8.cI⟩, ?_⟩;generalize bb t c d=q at*;rintro _ rfl _ rfl _ rfl;have fT:=p5 an.num a_.den;have fZ:=p5 a_.num an.den;have hV:=p5 an.den a_.den
 have jB:(bC (cj r)/\bC (ca q))/\∀x,x=aQ (val (cj r)*val (ca q))->(bC (cj q)/\bC (ca r))/\∀y,y=aQ (val (cj q)*val (ca r))->(bC (ca r)/\bC (ca q))/\∀z,z=aQ (val (ca r)*val (ca q))->
  (bO 50000000 x/\bO 50000000 y/\bC z/\¬val z=0)/\mkRat (dL (cl r) (val x)+dL (cl q) (val y)) (val z)=r+q:=by
  refine⟨⟨an.num.cI,a_.den.cI⟩, ?_⟩;rintro _ rfl;refine⟨⟨a_.num.cI,an.den.cI⟩, ?_⟩;rintro _ rfl;refine⟨⟨an.den.cI,a_.den.cI⟩, ?_⟩;rintro _ rfl;refine⟨⟨fT.mono (by decide),fZ.mono (by decide),hV.cI, ?_⟩, ?_⟩
  ·rw[ef];exact Nat.mul_ne_zero (q6 r) (q6 q)
  ·rw[ef,ef,ef];exact HJ r q
 refine⟨trivial, ?_⟩;rintro _ rfl;refine⟨fun U=>⟨trivial, ?_⟩,fun U=> ?_⟩
 ·have U:=aoJ U;rintro _ rfl;refine⟨fun aa=> ?_,fun aa=> ?_⟩
  ·have aa:=aoJ aa;refine⟨⟨an.num.mono (by decide),a_.num.mono (by decide),an.den.cI,q6 r⟩, ?_⟩;rw[aaF ((HI r).1 U) ((HI q).1 aa)];rintro _ rfl _ rfl _ rfl;refine⟨trivial, ?_⟩;rintro _ rfl _ rfl _ rfl;exact ae
  ·obtain⟨je,cZ⟩:=jB;refine⟨je,fun x ai=> ?_⟩;obtain⟨lW,di⟩:=cZ x ai;refine⟨lW,fun y bp=> ?_⟩;obtain⟨tD,jd⟩:=di y bp;refine⟨tD,fun z bq=> ?_⟩;obtain⟨xV,vv⟩:=jd z bq;refine⟨xV, ?_⟩;rw[vv];rintro _ rfl _ rfl _ rfl;refine⟨trivial, ?_⟩;rintro _ rfl _ rfl _ rfl;exact ae
 ·obtain⟨je,cZ⟩:=jB;refine⟨je,fun x ai=> ?_⟩;obtain⟨lW,di⟩:=cZ x ai;refine⟨lW,fun y bp=> ?_⟩;obtain⟨tD,jd⟩:=di y bp;refine⟨tD,fun z bq=> ?_⟩;obtain⟨xV,vv⟩:=jd z bq;refine⟨xV, ?_⟩;rw[vv];rintro _ rfl _ rfl _ rfl;refine⟨trivial, ?_⟩;rintro _ rfl _ rfl _ rfl;exact ae
theorem neg_num (r:Rat):cj (-r)=cj r:=by unfold cj;rw[Rat.neg_num,Int.natAbs_neg]
theorem neg_den (r:Rat):ca (-r)=ca r:=rfl
theorem acb (r:Rat):cl (-r)=(!cl r&&decide (0<((cj r).length:Int))):=by
 have h:0<((cj r).length:Int)↔r≠0:=by
  rw[Ne,<-PF r];constructor
  ·intro h e;rw[e]at h;simp at h
  ·intro h;have:(cj r).length≠0:=fun e=>h (apl.1 e);omega
 unfold cl;rw[Rat.neg_num];have bc:r=0↔r.num=0:=Rat.num_eq_zero.symm
 by_cases U:r.num<0
 ·simp[U];omega
 ·by_cases aa:r.num=0
  ·have:¬0<((cj r).length:Int):=fun b6=>(h.1 b6) (bc.2 aa);rw[ap5 this];simp[aa]
  ·have:0<((cj r).length:Int):=h.2 fun e=>aa (bc.1 e);rw[ap_ this];simp[U];omega
theorem adJ (s:Bool)(a b:List Int)(K:J->Prop)(h:DX.T [dR s a b] K):PJ s a b K:=by
 obtain⟨⟨aR,ag⟩,ae⟩:=h;unfold PJ;refine⟨⟨aR.cI,ag.cI⟩, ?_⟩;rw[neg_num,neg_den,acb]at ae;generalize bb s a b=r at*;rintro _ rfl _ rfl _ rfl;refine⟨fun h=>⟨trivial, ?_⟩,fun h=>⟨trivial, ?_⟩⟩
 ·rintro _ rfl _ rfl _ rfl;rw[h,aqK]at ae;exact ae
 ·rintro _ rfl _ rfl _ rfl;rw[h,Bool.false_and]at ae;exact ae
theorem adK (s:Bool)(a b:List Int)(t:Bool)(c d:List Int)(K:J->Prop)(h:DY.T [dR s a b,dR t c d] K):PK s a b t c d K:=by
 obtain⟨⟨aR,ag,aC,a8⟩,ae⟩:=h;unfold PK;refine⟨⟨aC,a8⟩, ?_⟩;have a_:=(n_ (s:=t) aC a8).neg;rw[Rat.sub_eq_add_neg]at ae;generalize bb t c d=q at*;rintro _ rfl _ rfl _ rfl;refine⟨⟨aR,ag,a_.num,a_.den⟩, ?_⟩;rw[lp];rintro _ rfl _ rfl _ rfl;exact ae
theorem adL (s:Bool)(a b:List Int)(t:Bool)(c d:List Int)(K:J->Prop)(h:wZ.T [dR s a b,dR t c d] K):PL s a b t c d K:=by
 obtain⟨⟨aR,ag,aC,a8⟩,ae⟩:=h;unfold PL;have an:=n_ (s:=s) aR ag;have a_:=n_ (s:=t) aC a8;refine⟨⟨aR.cI,ag.cI⟩, ?_⟩;generalize bb s a b=r at*;rintro _ rfl _ rfl _ rfl;refine⟨⟨aC.cI,a8.cI⟩, ?_⟩;generalize bb t c d=q at*;rintro _ rfl _ rfl _ rfl;refine⟨⟨an.num.cI,a_.num.cI⟩, ?_⟩;rintro _ rfl;refine⟨⟨an.den.cI,a_.den.cI⟩, ?_⟩;rintro _ rfl;refine⟨⟨(p5 an.num a_.num).cI,(p5 an.den a_.den).cI,by rw[ef];exact Nat.mul_ne_zero (q6 r) (q6 q)⟩, ?_⟩;rw[show(!cl r==cl q)=(cl r !=cl q)from rfl,PN];rintro _ rfl _ rfl _ rfl;refine⟨trivial, ?_⟩;rintro _ rfl _ rfl _ rfl;exact ae
theorem RB (r:Rat):xQ r=decide ((((cj r).length:Nat):Int)=0):=by
 unfold xQ
 have h:r=0↔(((cj r).length:Nat):Int)=0:=by
  rw[<-PF r];constructor
  ·intro h;rw[h];rfl
  ·intro h;exact apl.1 (by omega)
 exact aqs.2 h
theorem acd (s:Bool)(a b:List Int)(K:J->Prop)(h:wM.T [dR s a b] K):OK s a b K:=by
 obtain⟨⟨aR,ag⟩,ae⟩:=h;unfold OK;refine⟨⟨aR,ag⟩, ?_⟩;generalize bb s a b=r at*;rintro _ rfl _ rfl _ rfl;rw[<-RB];unfold k1 at ae;refine⟨fun h=> ?_,fun h=>⟨fun U=> ?_,fun U=> ?_⟩⟩
 ·rw[aoy (aoJ h)]at ae;exact ae
 ·rw[aox (aoN h),aoy ((Cf r).1 U)]at ae;exact ae
 ·rw[aox (aoN h),aox (fun e=>by rw[(Cf r).2 e]at U;cases U)]at ae;exact ae
theorem adM (s:Bool)(a b:List Int)(t:Bool)(c d:List Int)(K:J->Prop)(h:DZ.T [dR s a b,dR t c d] K):PM s a b t c d K:=by
 obtain⟨⟨aR,ag,aC,a8⟩,ae⟩:=h;unfold PM;refine⟨⟨aR,ag,aC,a8⟩, ?_⟩;have ay:=(n_ (s:=s) aR ag).sub (n_ (s:=t) aC a8);generalize bb s a b-bb t c d=r at*;rintro _ rfl _ rfl _ rfl;refine⟨⟨ay.num.cI,ay.den.cI⟩, ?_⟩;rw[lp];rintro _ rfl;exact ae
theorem aaG (s:Bool)(a b:List Int)(t:Bool)(c d:List Int)(K:J->Prop)(h:wD.T [dR s a b,dR t c d] K):NW s a b t c d K:=by
 obtain⟨aE,ae⟩:=h;unfold NW;refine⟨aE, ?_⟩;rintro _ rfl;have e:decide (k1 (bb s a b-bb t c d)=0)=decide (bb s a b=bb t c d):=aqs.2 (by rw[sq];grind);rw[e];exact ae
theorem PO {k:Nat}{a:List Int}(h:bO k a):(dec (val a)).length<=10*k+1:=by
 have:=Qt h.1;have aa:=h.2;unfold dec;split
 ·simp
 ·rw[List.length_reverse];omega
theorem ace {r:Rat}{k:Nat}(h:dp k r):(dec r.num.natAbs).length<=10*k+1/\(dec r.den).length<=10*k+1:=by
 have U:=PO h.num;have aa:=PO h.den;rw[wm]at U;rw[pV]at aa;exact⟨U,aa⟩
theorem Y5 (s:Bool)(a b:List Int)(K:J->Prop)(h:B6.T [dR s a b] K):Ng s a b K:=by
 obtain⟨⟨aR,ag⟩,ae⟩:=h;unfold Ng;have an:=n_ (s:=s) aR ag;refine⟨⟨aR.cI,ag.cI⟩, ?_⟩;generalize bb s a b=r at*;obtain⟨dh,l2⟩:=ace an;rintro _ rfl _ rfl _ rfl;refine⟨an.num.cI, ?_⟩;rintro _ rfl;rw[wm,pV];refine⟨fun v=>v=(if cl r then[45]else[])++dec r.num.natAbs,⟨fun h=>⟨by omega,rfl,rfl,by rw[h];rfl⟩,fun h=>⟨rfl,rfl,by rw[h];rfl⟩⟩, ?_⟩;rintro _ rfl;refine⟨trivial, ?_⟩;rintro _ rfl;have a8:decide (ca r=[1])=decide (r.den=1):=aqs.2 (HI r);rw[a8];unfold Sv at ae;refine⟨fun h=>⟨an.den.cI, ?_⟩,fun h=> ?_⟩
 ·have h:r.den≠1:=by simpa using h
  rintro _ rfl;rw[aox h]at ae;refine⟨by omega, ?_,ae⟩;simp only[ao0,apq,List.length_nil];have:(if cl r then[45]else[]:List Int).length<=1:=by split<;>simp
  omega
 ·have h:r.den=1:=by simpa using h
  rw[aoy h,aqa]at ae;exact ae
end ab
end
section
open Go Go.al
namespace ab
def Nh:Bool->List Int->List Int->(J->Prop)->Prop:=
 fun s a b K=>(bK a/\a.length<=(90000000:Nat)/\bK b/\b.length<=(90000000:Nat))/\∀x,x=aQ ((val a).gcd (val b))->(bK a/\a.length<=(90000000:Nat)/\bK x/\x.length<=(90000000:Nat))/\∀aV,(aV=if val x=(0:Nat)then[]else aQ (val a/val x))->∀aS,(aS=if val x=(0:Nat)then[]else aQ (val a%val x))->∀bo,(bo=if val x=(0:Nat)then(3:Int)else(0:Int))->(bK b/\b.length<=(90000000:Nat)/\bK x/\x.length<=(90000000:Nat))/\∀cp,(cp=if val x=(0:Nat)then[]else aQ (val b/val x))->∀c8,(c8=if val x=(0:Nat)then[]else aQ (val b%val x))->∀c5,(c5=if val x=(0:Nat)then(3:Int)else(0:Int))->(s=true->K (J.agg [J.d (R.bool (decide ((0:Int)<↑aV.length))),J.d (R.ad .u32 aV),J.d (R.ad .u32 cp)]))/\(s=false->K (J.agg [J.d (R.bool false),J.d (R.ad .u32 aV),J.d (R.ad .u32 cp)]))
def OL:Bool->List Int->List Int->(J->Prop)->Prop:=
 fun s a b K=>bC b/\∀x,x=aQ (val b)->(decide (↑x.length=(0:Int))=true->K (J.agg [J.d (R.bool false),J.d (R.ad .u32 []),J.d (R.ad .u32 [1])]))/\(decide (↑x.length=(0:Int))=false->(bO 90000000 a/\bO 90000000 b/\¬val b=0)/\∀x,x=cl (bb s a b)->∀aV,aV=cj (bb s a b)->∀aS,aS=ca (bb s a b)->K (J.agg [J.d (R.bool x),J.d (R.ad .u32 aV),J.d (R.ad .u32 aS)]))
def PQ:Int->(J->Prop)->Prop:=
 fun n K=>(decide ((0:Int)<=n)=true->((-9223372036854775808:Int)<=n/\n<(9223372036854775808:Int))/\∀x,(x=if n<(0:Int)then[]else aQ n.toNat)->∀aV,(aV=if n<(0:Int)then(1:Int)else(0:Int))->K (J.agg [J.d (R.bool false),J.d (R.ad .u32 x),J.d (R.ad .u32 [(1:Int)])]))/\(decide ((0:Int)<=n)=false->((-9223372036854775808:Int)<=ah ((0:Int)-ah (n+(1:Int)))/\ah ((0:Int)-ah (n+(1:Int)))<(9223372036854775808:Int))/\∀x,(x=if ah ((0:Int)-ah (n+(1:Int)))<(0:Int)then[]else aQ (ah ((0:Int)-ah (n+(1:Int)))).toNat)->∀aV,(aV=if ah ((0:Int)-ah (n+(1:Int)))<(0:Int)then(1:Int)else(0:Int))->(bK x/\bK [(1:Int)]/\x.length<=(90000000:Nat)/\(1:Nat)<=(90000000:Nat))/\∀aS,aS=aQ (val x+(1:Nat))->K (J.agg [J.d (R.bool true),J.d (R.ad .u32 aS),J.d (R.ad .u32 [(1:Int)])]))
def PR:Int->Int->(J->Prop)->Prop:=
 fun n d K=>(decide (d=0)=true->K (J.tup [J.agg [J.d (R.bool false),J.d (R.ad .u32 []),J.d (R.ad .u32 [])],J.d (R.int .i64 3)]))/\(decide (d=0)=false->i64 n/\∀x,x=cl (IntCast.intCast n)->∀aV,aV=cj (IntCast.intCast n)->∀aS,aS=ca (IntCast.intCast n)->i64 d/\∀bo,bo=cl (IntCast.intCast d)->∀cp,cp=cj (IntCast.intCast d)->∀c8,c8=ca (IntCast.intCast d)->(bO 90000000 aV/\bO 90000000 cp/\¬val cp=0)/\∀c5,c5=cl (bb (!x==bo) aV cp)->∀dm,dm=cj (bb (!x==bo) aV cp)->∀dx,dx=ca (bb (!x==bo) aV cp)->K (J.tup [J.agg [J.d (R.bool c5),J.d (R.ad .u32 dm),J.d (R.ad .u32 dx)],J.d (R.int .i64 0)]))
def PS:Bool->List Int->List Int->Bool->List Int->List Int->(J->Prop)->Prop:=
 fun s a b t c d K=>(bO (90000000:Nat) a/\bO (90000000:Nat) b)/\∀x,x=cl (bb s a b)->∀aV,aV=cj (bb s a b)->∀aS,aS=ca (bb s a b)->(bO (90000000:Nat) c/\bO (90000000:Nat) d)/\∀bo,bo=cl (bb t c d)->∀cp,cp=cj (bb t c d)->∀c8,c8=ca (bb t c d)->(bK aV/\bK c8/\aV.length<=(40000000:Nat)/\c8.length<=(40000000:Nat))/\∀c5,c5=aQ (val aV*val c8)->(bK cp/\bK aS/\cp.length<=(40000000:Nat)/\aS.length<=(40000000:Nat))/\∀dm,dm=aQ (val cp*val aS)->(bK aS/\bK c8/\aS.length<=(40000000:Nat)/\c8.length<=(40000000:Nat))/\∀dx,dx=aQ (val aS*val c8)->((x==bo)=true->(bK c5/\bK dm/\c5.length<=(90000000:Nat)/\dm.length<=(90000000:Nat))/\∀dN,dN=aQ (val c5+val dm)->(bO (90000000:Nat) dN/\bO (90000000:Nat) dx/\¬val dx=(0:Nat))/\∀eK,eK=cl (bb x dN dx)->∀fQ,fQ=cj (bb x dN dx)->∀fC,fC=ca (bb x dN dx)->K (J.agg [J.d (R.bool eK),J.d (R.ad .u32 fQ),J.d (R.ad .u32 fC)]))/\((x==bo)=false->(bC c5/\bC dm)/\∀dN,(dN=if val c5<val dm then[]else aQ (val c5-val dm))->∀eK,(eK=if val c5<val dm then(1:Int)else(0:Int))->(decide (eK=(0:Int))=true->(bO (90000000:Nat) dN/\bO (90000000:Nat) dx/\¬val dx=(0:Nat))/\∀fQ,fQ=cl (bb x dN dx)->∀fC,fC=cj (bb x dN dx)->∀im,im=ca (bb x dN dx)->K (J.agg [J.d (R.bool fQ),J.d (R.ad .u32 fC),J.d (R.ad .u32 im)]))/\(decide (eK=(0:Int))=false->(bC dm/\bC c5)/\∀x,(x=if val dm<val c5 then[]else aQ (val dm-val c5))->∀fQ,(fQ=if val dm<val c5 then(1:Int)else(0:Int))->(bO (90000000:Nat) x/\bO (90000000:Nat) dx/\¬val dx=(0:Nat))/\∀fC,fC=cl (bb bo x dx)->∀im,im=cj (bb bo x dx)->∀h2,h2=ca (bb bo x dx)->K (J.agg [J.d (R.bool fC),J.d (R.ad .u32 im),J.d (R.ad .u32 h2)])))
def PT:Bool->List Int->List Int->Bool->List Int->List Int->(J->Prop)->Prop:=
 fun s a b t c d K=>(bO 90000000 a/\bO 90000000 b)/\∀x,x=cl (bb s a b)->∀aV,aV=cj (bb s a b)->∀aS,aS=ca (bb s a b)->(bO 90000000 c/\bO 90000000 d)/\∀bo,bo=cl (bb t c d)->∀cp,cp=cj (bb t c d)->∀c8,c8=ca (bb t c d)->(bK aV/\bK cp/\aV.length<=40000000/\cp.length<=40000000)/\∀c5,c5=aQ (val aV*val cp)->(bK aS/\bK c8/\aS.length<=40000000/\c8.length<=40000000)/\∀dm,dm=aQ (val aS*val c8)->(bO 90000000 c5/\bO 90000000 dm/\¬val dm=0)/\∀dx,dx=cl (bb (!x==bo) c5 dm)->∀dN,dN=cj (bb (!x==bo) c5 dm)->∀eK,eK=ca (bb (!x==bo) c5 dm)->K (J.agg [J.d (R.bool dx),J.d (R.ad .u32 dN),J.d (R.ad .u32 eK)])
def OM:Bool->List Int->List Int->(J->Prop)->Prop:=
 fun s a b K=>(bO 90000000 a/\bO 90000000 b)/\∀x,x=cl (bb s a b)->∀aV,aV=cj (bb s a b)->∀aS,aS=ca (bb s a b)->(decide (↑aV.length=(0:Int))=true->K (J.d (R.int .i64 0)))/\(decide (↑aV.length=(0:Int))=false->(x=true->K (J.d (R.int .i64 (-1))))/\(x=false->K (J.d (R.int .i64 1))))
def ON:Bool->List Int->List Int->Bool->List Int->List Int->(J->Prop)->Prop:=
 fun s a b t c d K=>((s==t)=true->(a.length<=1000000000/\c.length<=1000000000)/\∀x,x=decide (a=c)->(x=true->(b.length<=1000000000/\d.length<=1000000000)/\∀x,x=decide (b=d)->K (J.d (R.bool x)))/\(x=false->K (J.d (R.bool false))))/\((s==t)=false->K (J.d (R.bool false)))
end ab
end
section
open Go Go.al
namespace ab
theorem Xq (n:Nat):decide (0<((aQ n).length:Int))=decide (n≠0):=by
 refine aqs.2 ?_;rw[Ne,<-qR];constructor
 ·intro h e;rw[e]at h;simp at h
 ·intro h;have:(aQ n).length≠0:=fun e=>h (apl.1 e);omega
theorem Y6 {a b:Nat}(ag:b≠0):decide (a/Nat.gcd a b≠0)=decide (a≠0):=by
 refine aqs.2 ?_;have bh:0<Nat.gcd a b:=Nat.gcd_pos_of_pos_right _ (by omega);constructor
 ·rintro h rfl;simp at h
 ·intro h e;have:=Nat.div_mul_cancel (Nat.gcd_dvd_left a b);rw[e]at this;omega
theorem acf {k n:Nat}{b:List Int}(ag:bO k b)(h:n<=val b):bO k (aQ n):=ug (ap4 h ag.val)
theorem Y7 (s:Bool)(a b:List Int)(K:J->Prop)(h:CK.T [.d (.bool s), .d (.ad .u32 a), .d (.ad .u32 b)] K):Nh s a b K:=by
 obtain⟨⟨aR,ag,ov⟩,ae⟩:=h;unfold Nh;refine⟨⟨aR.1,aR.2,ag.1,ag.2⟩, ?_⟩;have bh:Nat.gcd (val a) (val b)≠0:=fun e=>ov (Nat.gcd_eq_zero_iff.1 e).2;rintro _ rfl;have r7:bO 90000000 (aQ (Nat.gcd (val a) (val b))):=acf ag (gcd_le_right ov);refine⟨⟨aR.1,aR.2,r7.1,r7.2⟩, ?_⟩;simp only[ef,aox bh];rintro _ rfl _ rfl _ rfl;refine⟨⟨ag.1,ag.2,r7.1,r7.2⟩, ?_⟩;rintro _ rfl _ rfl _ rfl;rw[Rx ov,Ry ov,Rz ov]at ae;refine⟨fun h=> ?_,fun h=> ?_⟩
 ·rw[Xq,Y6 ov];rw[h,aqK]at ae;exact ae
 ·rw[h,Bool.false_and]at ae;exact ae
theorem acg (s:Bool)(a b:List Int)(K:J->Prop)(h:B7.T [dR s a b] K):OL s a b K:=by
 obtain⟨⟨aR,ag⟩,ae⟩:=h;unfold OL;refine⟨ag.cI, ?_⟩;rintro _ rfl;refine⟨fun h=> ?_,fun h=>⟨⟨aR,ag,fun e=> ?_⟩, ?_⟩⟩
 ·have bc:=qR.1 (E0.1 h);rw[QM bc,R9,R_,Sa]at ae;exact ae
 ·rw[E0.2 (qR.2 e)]at h;cases h
 ·rintro _ rfl _ rfl _ rfl;exact ae
theorem Hm (n:Int):cl (n:Rat)=decide (n<0)/\cj (n:Rat)=aQ n.natAbs/\ca (n:Rat)=[1]:=by
 refine⟨rfl,rfl, ?_⟩;exact pN
theorem adN (n:Int)(K:J->Prop)(h:sU.T [.d (.int .i64 n)] K):PQ n K:=by
 obtain⟨av,ae⟩:=h;obtain⟨aA,aL,b3⟩:=Hm n;rw[aA,aL,b3]at ae;unfold PQ ah;unfold i64 at av;refine⟨fun h=>⟨av, ?_⟩,fun h=> ?_⟩
 ·have h:=aoJ h;rw[aox (by omega),aox (by omega),show n.toNat=n.natAbs by omega];rintro _ rfl _ rfl;rw[ap5 (by omega)]at ae;exact ae
 ·have h:=aoN h;have w1:IntKind.wrap .i64 (n+1)=n+1:=bR (by omega);rw[w1];have db:IntKind.wrap .i64 (0-(n+1))=0-(n+1):=bR (by omega);rw[db,aox (by omega),aox (by omega)];refine⟨by omega, ?_⟩;rintro _ rfl _ rfl;have ay:bO 2 (aQ (0-(n+1)).toNat):=ug (by omega);refine⟨⟨ay.1,H4.1,aoS ay.2 (by decide),by decide⟩, ?_⟩;rw[ef,show(0-(n+1)).toNat+1=n.natAbs by omega];rintro _ rfl;rw[ap_ (by omega)]at ae;exact ae
theorem RC {n:Int}(h:i64 n):bO 2 (aQ n.natAbs):=by
 unfold i64 at h;exact ug (by omega)
theorem adO (n d:Int)(K:J->Prop)(h:DW.T [.d (.int .i64 n), .d (.int .i64 d)] K):PR n d K:=by
 obtain⟨⟨av,a8⟩,ae⟩:=h;unfold PR;unfold ry rz rA at ae;refine⟨fun h=> ?_,fun h=>⟨av, ?_⟩⟩
 ·obtain rfl:=aoJ h;exact ae
 ·have bc:=aoN h;obtain⟨a1,a2,a3⟩:=Hm n;obtain⟨cZ,di,jd⟩:=Hm d
  have e:bb (decide (n<0) !=decide (d<0)) (aQ n.natAbs) (aQ d.natAbs)=Rat.divInt n d:=by
   unfold bb;rw[ef,ef,aaE n d bc]
  rintro _ rfl _ rfl _ rfl;refine⟨a8, ?_⟩;rintro _ rfl _ rfl _ rfl;have s1:=RC av;have s2:=RC a8;have bq:val (aQ d.natAbs)≠0:=by rw[ef];omega
  have goal:∀(x:Bool),x=cl (Rat.divInt n d)->∀y,y=cj (Rat.divInt n d)->∀z,z=ca (Rat.divInt n d)->K (.tup [.agg [.d (.bool x), .d (.ad .u32 y), .d (.ad .u32 z)], .d (.int .i64 0)]):=by
   rintro _ rfl _ rfl _ rfl;rw[h,aox bc]at ae;exact ae
  rw[<-e]at goal;exact⟨⟨s1.mono (by decide),s2.mono (by decide),bq⟩,goal⟩
theorem adP (s:Bool)(a b:List Int)(t:Bool)(c d:List Int)(K:J->Prop)(h:wY.T [dR s a b,dR t c d] K):PS s a b t c d K:=by
 obtain⟨⟨aR,ag,aC,a8⟩,ae⟩:=h;unfold PS;have an:=n_ (s:=s) aR ag;have a_:=n_ (s:=t) aC a8;refine⟨⟨aR.mono (by decide),ag.mono (by decide)⟩, ?_⟩;generalize bb s a b=r at*;rintro _ rfl _ rfl _ rfl;refine⟨⟨aC.mono (by decide),a8.mono (by decide)⟩, ?_⟩;generalize bb t c d=q at*;rintro _ rfl _ rfl _ rfl;have fT:=p5 an.num a_.den;have fZ:=p5 a_.num an.den;have hV:=p5 an.den a_.den
 have xG:∀{x y:List Int},bO 1000000 x->bO 1000000 y->bK x/\bK y/\x.length<=40000000/\y.length<=40000000:=fun ai bp=>⟨ai.1,bp.1,aoS ai.2 (by decide),aoS bp.2 (by decide)⟩
 have fX:=HJ r q
 have d0:¬val (aQ (val (ca r)*val (ca q)))=0:=by
  rw[ef];exact Nat.mul_ne_zero (q6 r) (q6 q)
 refine⟨xG an.num a_.den, ?_⟩;rintro _ rfl;refine⟨xG a_.num an.den, ?_⟩;rintro _ rfl;refine⟨xG an.den a_.den, ?_⟩;rintro _ rfl;have JX:=fT.val;have JY:=fZ.val;rw[ef]at JX JY
 have kj:∀(g:Bool) (x:List Int),bb g x (aQ (val (ca r)*val (ca q)))=r+q->bO 90000000 x->(bO 90000000 x/\bO 90000000 (aQ (val (ca r)*val (ca q)))/\¬val (aQ (val (ca r)*val (ca q)))=0)/\
  ∀y,y=cl (bb g x (aQ (val (ca r)*val (ca q))))->∀z,z=cj (bb g x (aQ (val (ca r)*val (ca q))))->∀w,w=ca (bb g x (aQ (val (ca r)*val (ca q))))->K (dR y z w):=by
  intro g x e ai;refine⟨⟨ai,hV.mono (by decide),d0⟩, ?_⟩;rw[e];rintro _ rfl _ rfl _ rfl;exact ae
 have zl:∀{k x y:Nat},k<=90000000->x<4294967296^k->bO 90000000 (aQ (x-y)):=fun ae ai=>(ug (ap4 (Nat.sub_le _ _) ai)).mono ae
 refine⟨fun h=>⟨⟨fT.1,fZ.1,aoS fT.2 (by decide),aoS fZ.2 (by decide)⟩, ?_⟩,fun h=>⟨⟨fT.cI,fZ.cI⟩, ?_⟩⟩
 ·have h:cl r=cl q:=by simpa using h
  rintro _ rfl;rw[ef (val (cj r)*_),ef (val (cj q)*_)];refine kj _ _ ?_ ((ug (RA JX JY)).mono (by decide));rw[<-fX];unfold bb;rw[ef,ef,<-h,Rt]
 ·have h:cl r≠cl q:=by simpa using h
  rw[ef (val (cj r)*_),ef (val (cj q)*_)];rintro _ rfl _ rfl;refine⟨fun aa=> ?_,fun aa=>⟨⟨fZ.cI,fT.cI⟩, ?_⟩⟩
  ·have bG:¬val (cj r)*val (ca q)<val (cj q)*val (ca r):=by
    intro bG;rw[aoy bG]at aa;cases aa
   rw[aox bG];refine kj _ _ ?_ (zl (by decide) JX);rw[<-fX];unfold bb;rw[ef,ef,BQ h (by omega)]
  ·have bG:val (cj r)*val (ca q)<val (cj q)*val (ca r):=by
    false_or_by_contra
    rename_i bG;rw[aox bG]at aa;cases aa
   rw[aox (by omega),aox (by omega)];rintro _ rfl _ rfl;refine kj _ _ ?_ (zl (by decide) JY);rw[<-fX];unfold bb;rw[ef,ef,Int.add_comm (dL (cl r) _),BQ (apk h) (by omega)]
theorem adQ (s:Bool)(a b:List Int)(t:Bool)(c d:List Int)(K:J->Prop)(h:wZ.T [dR s a b,dR t c d] K):PT s a b t c d K:=by
 obtain⟨⟨aR,ag,aC,a8⟩,ae⟩:=h;unfold PT;have an:=n_ (s:=s) aR ag;have a_:=n_ (s:=t) aC a8;refine⟨⟨aR.mono (by decide),ag.mono (by decide)⟩, ?_⟩;generalize bb s a b=r at*;rintro _ rfl _ rfl _ rfl;refine⟨⟨aC.mono (by decide),a8.mono (by decide)⟩, ?_⟩;generalize bb t c d=q at*;rintro _ rfl _ rfl _ rfl
 have xG:∀{x y:List Int},bO 1000000 x->bO 1000000 y->bK x/\bK y/\x.length<=40000000/\y.length<=40000000:=fun ai bp=>⟨ai.1,bp.1,aoS ai.2 (by decide),aoS bp.2 (by decide)⟩
 refine⟨xG an.num a_.num, ?_⟩;rintro _ rfl;refine⟨xG an.den a_.den, ?_⟩;rintro _ rfl;refine⟨⟨(p5 an.num a_.num).mono (by decide),(p5 an.den a_.den).mono (by decide),by rw[ef];exact Nat.mul_ne_zero (q6 r) (q6 q)⟩, ?_⟩;rw[show(!cl r==cl q)=(cl r !=cl q)from rfl,PN];rintro _ rfl _ rfl _ rfl;exact ae
theorem ach (s:Bool)(a b:List Int)(K:J->Prop)(h:Dn.T [dR s a b] K):OM s a b K:=by
 obtain⟨⟨aR,ag⟩,ae⟩:=h;unfold OM;refine⟨⟨aR,ag⟩, ?_⟩;generalize bb s a b=r at*;rintro _ rfl _ rfl _ rfl;rw[<-RB];unfold k1 at ae;refine⟨fun h=> ?_,fun h=>⟨fun U=> ?_,fun U=> ?_⟩⟩
 ·rw[aoy (aoJ h)]at ae;exact ae
 ·rw[aox (aoN h),aoy ((Cf r).1 U)]at ae;exact ae
 ·rw[aox (aoN h),aox (fun e=>by rw[(Cf r).2 e]at U;cases U)]at ae;exact ae
theorem aci (s:Bool)(a b:List Int)(t:Bool)(c d:List Int)(K:J->Prop)(h:Dm.T [dR s a b,dR t c d] K):ON s a b t c d K:=by
 obtain⟨⟨aR,ag,aC,a8⟩,ae⟩:=h;unfold ON;refine⟨fun h=>⟨⟨aR,aC⟩, ?_⟩,fun h=> ?_⟩
 ·obtain rfl:s=t:=by simpa using h
  rintro _ rfl;refine⟨fun aa=>⟨⟨ag,a8⟩, ?_⟩,fun aa=> ?_⟩
  ·rintro _ rfl;obtain rfl:=aoJ aa;have e:decide (s=s/\a=a/\b=d)=decide (b=d):=aqs.2 (by simp);rw[e]at ae;exact ae
  ·have aa:=aoN aa;have e:decide (s=s/\a=c/\b=d)=false:=ap5 fun b6=>aa b6.2.1;rw[e]at ae;exact ae
 ·have h:s≠t:=by simpa using h
  have e:decide (s=t/\a=c/\b=d)=false:=ap5 fun b6=>h b6.1;rw[e]at ae;exact ae
end ab
end
section
open Go Go.al
namespace ab
def LH:List Int->Int->Int->Int->Int->(af->J->Prop)->Prop:=
 fun l a s x y K=>(dQ l a/\i64 (ah (ah (y-x)+1)))/\K (af.cells [J.d (R.ad .i64 l),J.d (R.int .i64 (c0 l a (ah (ah (y-x)+1)))),J.d (R.int .i64 s)]) (J.d (R.int .i64 (ah (x+fr l a (ah (ah (y-x)+1))))))
def LU:List Int->Int->Int->(af->J->Prop)->Prop:=
 fun l a s K=>(dQ l a/\(-1000000000:Int)<=(-6:Int)/\(-6:Int)<=(6:Int)/\(6:Int)<=(1000000000:Int))/\∀x,x=l->∀aV,aV=c0 l a (13:Int)->∀aS,aS=s->∀bo,bo=kJ l a (-6:Int) (6:Int)->(dQ x aV/\(-1000000000:Int)<=(1:Int)/\(1:Int)<=(5:Int)/\(5:Int)<=(1000000000:Int))/\∀cp,cp=x->∀c8,c8=c0 x aV (5:Int)->∀c5,c5=aS->∀dm,dm=kJ x aV (1:Int) (5:Int)->(i64 bo/\i64 dm)/\∀x,x=ry (!decide (dm=(0:Int))) (Rat.divInt bo dm)->∀dx,dx=rz (!decide (dm=(0:Int))) (Rat.divInt bo dm)->∀dN,dN=rA (!decide (dm=(0:Int))) (Rat.divInt bo dm)->∀eK,(eK=if dm=(0:Int)then(3:Int)else(0:Int))->K (af.cells [J.d (R.ad .i64 cp),J.d (R.int .i64 c8),J.d (R.int .i64 c5)]) (J.agg [J.d (R.bool x),J.d (R.ad .u32 dx),J.d (R.ad .u32 dN)])
def LI:List Int->Int->Int->(af->J->Prop)->Prop:=
 fun l a s K=>(dQ l a/\i64 (4:Int))/\∀x,x=l->∀aV,aV=c0 l a (4:Int)->∀aS,aS=s->∀bo,bo=fr l a (4:Int)->(decide (bo=(0:Int))=true->dQ x aV/\∀cp,cp=x->∀c8,c8=kR x aV->∀c5,c5=aS->∀dm,dm=cl (iG x aV)->∀dx,dx=cj (iG x aV)->∀dN,dN=ca (iG x aV)->K (af.cells [J.d (R.ad .i64 cp),J.d (R.int .i64 c8),J.d (R.int .i64 c5)]) (J.agg [J.d (R.bool dm),J.d (R.ad .u32 dx),J.d (R.ad .u32 dN)]))/\(decide (bo=(0:Int))=false->(decide (bo=(1:Int))=true->(dQ x aV/\i64 (2:Int))/\∀cp,cp=x->∀c8,c8=c0 x aV (2:Int)->∀c5,c5=aS->∀dm,dm=fr x aV (2:Int)->dQ cp c8/\∀x,x=cp->∀dx,dx=(lB cp c8).snd->∀dN,dN=c5->∀eK,eK=(lB cp c8).fst->dQ x dx/\∀fQ,fQ=x->∀fC,fC=(lB x dx).snd->∀im,im=dN->∀h2,h2=(lB x dx).fst->K (af.cells [J.d (R.ad .i64 fQ),J.d (R.int .i64 fC),J.d (R.int .i64 im)]) (J.agg [J.d (R.bool (decide (dm=(0:Int)))),J.d (R.ad .u32 eK),J.d (R.ad .u32 h2)]))/\(decide (bo=(1:Int))=false->(dQ x aV/\(-1000000000:Int)<=(1:Int)/\(1:Int)<=(6:Int)/\(6:Int)<=(1000000000:Int))/\∀cp,cp=x->∀c8,c8=c0 x aV (6:Int)->∀c5,c5=aS->∀dm,dm=kJ x aV (1:Int) (6:Int)->(dQ cp c8/\i64 (2:Int))/\∀x,x=cp->∀dx,dx=c0 cp c8 (2:Int)->∀dN,dN=c5->∀eK,eK=fr cp c8 (2:Int)->(dQ x dx/\i64 (9:Int))/\∀fQ,fQ=x->∀fC,fC=c0 x dx (9:Int)->∀im,im=dN->∀h2,h2=fr x dx (9:Int)->(dQ fQ fC/\i64 (6:Int))/\∀x,x=fQ->∀lK,lK=c0 fQ fC (6:Int)->∀zy,zy=im->∀zz,zz=fr fQ fC (6:Int)->K (af.cells [J.d (R.ad .i64 x),J.d (R.int .i64 lK),J.d (R.int .i64 zy)]) (J.agg [J.d (R.bool (decide (eK=(0:Int)))),J.d (R.ad .u32 [bX (bX dm*bX h2),(0:Int)]),J.d (R.ad .u32 [bX (bX dm*bX zz)])])))
end ab
end
section
open Go Go.al
namespace ab
def OO:List Int->(af->Prop)->Prop:=
 fun l K=>(decide ((1000:Int)<↑l.length)=true->(0:Int)<=(1000:Int)/\(1000:Int)<=↑l.length/\K (af.cells [J.d (R.ad .i64 (List.take (1000:Nat) l)),J.d (R.int .i64 (0:Int)),J.d (R.int .i64 (0:Int))]))/\(decide ((1000:Int)<↑l.length)=false->K (af.cells [J.d (R.ad .i64 l),J.d (R.int .i64 (0:Int)),J.d (R.int .i64 (0:Int))]))
def LV:List Int->Int->Int->(af->J->Prop)->Prop:=
 fun l a s K=>(decide (↑l.length<=a)=true->K (af.cells [J.d (R.ad .i64 l),J.d (R.int .i64 a),J.d (R.int .i64 s)]) (J.d (R.int .i64 0)))/\(decide (↑l.length<=a)=false->0<=ah (ah (a+1)-1)/\ah (ah (a+1)-1)<↑l.length/\K (af.cells [J.d (R.ad .i64 l),J.d (R.int .i64 (ah (a+1))),J.d (R.int .i64 s)]) (J.d (R.int .i64 (l.getD (ah (ah (a+1)-1)).toNat 0))))
def L7:List Int->Int->Int->Int->(af->J->Prop)->Prop:=
 fun l a s n K=>(decide (n<1)=true->K (af.cells [J.d (R.ad .i64 l),J.d (R.int .i64 a),J.d (R.int .i64 s)]) (J.d (R.int .i64 0)))/\(decide (n<1)=false->dQ l a/\¬n=0/\(decide ((qe l a).tmod n<0)=true->K (af.cells [J.d (R.ad .i64 l),J.d (R.int .i64 (uX l a)),J.d (R.int .i64 s)]) (J.d (R.int .i64 (ah ((qe l a).tmod n+n)))))/\(decide ((qe l a).tmod n<0)=false->K (af.cells [J.d (R.ad .i64 l),J.d (R.int .i64 (uX l a)),J.d (R.int .i64 s)]) (J.d (R.int .i64 ((qe l a).tmod n)))))
def LO:List Int->Int->Int->List Int->(af->J->Prop)->Prop:=
 fun l a s m K=>(dQ l a/\i64 ↑m.length)/\0<=fr l a ↑m.length/\fr l a ↑m.length<↑m.length/\K (af.cells [J.d (R.ad .i64 l),J.d (R.int .i64 (c0 l a ↑m.length)),J.d (R.int .i64 s)]) (J.d (R.int .i64 (m.getD (fr l a ↑m.length).toNat 0)))
def LJ:List Int->Int->Int->(af->J->Prop)->Prop:=
 fun l a s K=>(dQ l a/\i64 5)/\∃(aK:Int->List Int->Int->Int->List Int->Prop),∃(m:Int->List Int->Int->Int->List Int->Nat),aK (fr l a 5) l (c0 l a 5) s []/\∀(v4:Int) (l:List Int) (a s:Int) (bz:List Int),aK v4 l a s bz->(decide (0<v4)=true->(dQ l a/\0<12/\12<=1000)/\((bz.length:Int)+↑[bX (mX l a [0,1,2,3,10,97,65536,2147483648,4294967295,4294967291,123456789,4000000007])].length)*4<=70368744177664/\aK (ah (v4-1)) l (c0 l a 12) s (bz++[bX (mX l a [0,1,2,3,10,97,65536,2147483648,4294967295,4294967291,123456789,4000000007])])/\m (ah (v4-1)) l (c0 l a 12) s (bz++[bX (mX l a [0,1,2,3,10,97,65536,2147483648,4294967295,4294967291,123456789,4000000007])])<m v4 l a s bz)/\(decide (0<v4)=false->K (af.cells [J.d (R.ad .i64 l),J.d (R.int .i64 a),J.d (R.int .i64 s)]) (J.d (R.ad .u32 bz)))
end ab
end
section
open Go Go.al
theorem ab.aaH {args:List J}{K:af->Prop}(aX:ab.Dk.T args K):∃l,args=[.d (.ad .i64 l)]:=by unfold ab.Dk.T mW at aX;grind [Go.al.aq4]
theorem ab.aaI {a0:J}{cb:af}{args:List J}{K:af->J->Prop}(aX:ab.Dl.T a0 cb args K):∃l a s,a0= .ptr 0 0/\cb= .cells [.d (.ad .i64 l), .d (.int .i64 a), .d (.int .i64 s)]/\args=[]:=by unfold ab.Dl.T fm at aX;grind [Go.al.aq4]
theorem ab.adR {a0:J}{cb:af}{args:List J}{K:af->J->Prop}(aX:ab.EI.T a0 cb args K):∃l a s n,a0= .ptr 0 0/\cb= .cells [.d (.ad .i64 l), .d (.int .i64 a), .d (.int .i64 s)]/\args=[.d (.int .i64 n)]:=by unfold ab.EI.T fm at aX;grind [Go.al.aq4]
theorem ab.Y8 {a0:J}{cb:af}{args:List J}{K:af->J->Prop}(aX:ab.CH.T a0 cb args K):∃l a s m,a0= .ptr 0 0/\cb= .cells [.d (.ad .i64 l), .d (.int .i64 a), .d (.int .i64 s)]/\args=[.d (.ad .i64 m)]:=by unfold ab.CH.T fm at aX;grind [Go.al.aq4]
theorem ab.X1 {a0:J}{cb:af}{args:List J}{K:af->J->Prop}(aX:ab.B4.T a0 cb args K):∃l a s,a0= .ptr 0 0/\cb= .cells [.d (.ad .i64 l), .d (.int .i64 a), .d (.int .i64 s)]/\args=[]:=by unfold ab.B4.T fm at aX;grind [Go.al.aq4]
end
section
open Go Go.al
namespace ab
theorem dQ.getD {l:List Int}{a:Int}(h:dQ l a)(n:Nat):i64 (l.getD n 0):=by
 rw[aoA]
 cases e:l[n]? with
 |none=>simp[i64]
 |some x=>exact h.2.2 x (ap2 e)
theorem dQ.raw {l:List Int}{a:Int}(h:dQ l a):dQ l (uX l a)/\i64 (qe l a):=by
 refine⟨⟨?_,h.2⟩, ?_⟩
 ·have:=h.1;unfold uX;split<;>omega
 ·unfold qe;split
  ·simp[i64]
  ·exact h.getD _
theorem dQ.num {l:List Int}{a:Int}(h:dQ l a)(n:Int):dQ l (c0 l a n)/\0<=fr l a n/\(1<=n->fr l a n<n)/\(n<1->fr l a n=0):=by
 unfold c0 fr;split
 ·exact⟨h,by omega,by omega,by omega⟩
 ·exact⟨h.raw.1,Int.emod_nonneg _ (by omega),fun _=>Int.emod_lt_of_pos _ (by omega),by omega⟩
theorem acj (l:List Int)(K:af->Prop)(h:Dk.T [.d (.ad .i64 l)] K):OO l K:=by
 obtain⟨_,ae⟩:=h;unfold OO;refine⟨fun h=> ?_,fun h=> ?_⟩
 ·simp only[aoD]at h;exact⟨by omega,by omega,ae⟩
 ·simp only[aoC]at h;rw[aqB (by omega)]at ae;exact ae
theorem V1 (l:List Int)(a s:Int)(K:af->J->Prop)(h:Dl.T (.ptr 0 0) (st l a s) [] K):LV l a s K:=by
 obtain⟨aF,ae⟩:=h;unfold LV ah;unfold uX qe at ae;have bc:=aF.1;have U:=aF.2.1;refine⟨fun h=> ?_,fun h=> ?_⟩
 ·simp only[aoD]at h;rw[aoy h,aoy h]at ae;exact ae
 ·simp only[aoC]at h;rw[aox h,aox h]at ae;rw[bR (x:=a+1) (by omega),bR (by omega)];refine⟨by omega,by omega, ?_⟩;rw[Int.add_sub_cancel];exact ae
theorem ack {x n:Int}(h:1<=n):(x.tmod n<0->x.tmod n+n=x%n)/\(¬x.tmod n<0->x.tmod n=x%n)/\-n<x.tmod n/\x.tmod n<n:=by
 have U:-n<x.tmod n:=by have:=Int.lt_tmod_of_pos x (show 0<n by omega);omega
 have aa:x.tmod n<n:=Int.tmod_lt_of_pos x (by omega);have az:(x.tmod n)%n=x%n:=by rw[Int.tmod_def,Int.sub_mul_emod_self_left]
 refine⟨fun h=> ?_,fun h=> ?_,U,aa⟩
 ·rw[<-az,<-Int.add_emod_right];exact(aqX (by omega) (by omega)).symm
 ·rw[<-az];exact(aqX (by omega) (by omega)).symm
theorem WG (l:List Int)(a s n:Int)(K:af->J->Prop)(h:EI.T (.ptr 0 0) (st l a s) [.d (.int .i64 n)] K):L7 l a s n K:=by
 obtain⟨⟨aF,av⟩,ae⟩:=h;unfold L7 ah;unfold c0 fr at ae;refine⟨fun h=> ?_,fun h=> ?_⟩
 ·simp only[aoD]at h;rw[aoy h,aoy h]at ae;exact ae
 ·simp only[aoC]at h;rw[aox h,aox h]at ae;obtain⟨t1,t2,t3,t4⟩:=ack (x:=qe l a) (n:=n) (by omega);unfold i64 at av;refine⟨aF,by omega,fun h=> ?_,fun h=> ?_⟩
  ·simp only[aoD]at h;rw[bR (by omega),t1 h];exact ae
  ·simp only[aoC]at h;rw[t2 h];exact ae
theorem VX (l:List Int)(a s:Int)(m:List Int)(K:af->J->Prop)(h:CH.T (.ptr 0 0) (st l a s) [.d (.ad .i64 m)] K):LO l a s m K:=by
 obtain⟨⟨aF,hm,rQ⟩,ae⟩:=h;unfold LO;obtain⟨_,U,aa,_⟩:=aF.num (m.length:Int);exact⟨⟨aF,by unfold i64;omega⟩,U,aa (by omega),ae⟩
theorem Y9 (n:Nat):0<=qM.getD n 0/\qM.getD n 0<4294967296:=by
 have:∀x∈qM,0<=x/\x<4294967296:=by decide
 rw[aoA]
 cases e:qM[n]? with
 |none=>simp
 |some x=>exact this x (ap2 e)
theorem PU (l:List Int)(a:Int):0<=mX l a qM/\mX l a qM<4294967296:=Y9 _
theorem VN (l:List Int)(a s:Int)(K:af->J->Prop)(h:B4.T (.ptr 0 0) (st l a s) [] K):LJ l a s K:=by
 obtain⟨aF,ae⟩:=h;unfold LJ ah bX;obtain⟨h_,v1,v2,_⟩:=aF.num 5;have v2:=v2 (by decide)
 refine⟨⟨aF,by unfold i64;decide⟩,fun i ch b5 fL o=>ch=l/\fL=s/\0<=i/\i<=4/\dQ l b5/\(o.length:Int)+i<=4/\q4 l i.toNat b5 o=lB l a,fun i _ _ _ _=>i.toNat,
  ⟨rfl,rfl,v1,by omega,h_,by simp;omega,rfl⟩, ?_⟩
 rintro i ch b5 fL o ⟨rfl,rfl,i0,i4,hT,ax,ou⟩;refine⟨fun h=> ?_,fun h=> ?_⟩
 ·simp only[aoD]at h;obtain⟨ajL,_,_,_⟩:=hT.num 12;rw[bR (by omega)];refine⟨⟨hT,by decide,by decide⟩,by simp;omega,⟨rfl,rfl,by omega,by omega,ajL,by show((o++[_]).length:Int)+_<=4;simp;omega, ?_⟩,by show(i-1).toNat<i.toNat;omega⟩;rw[<-ou]
  obtain⟨n,av⟩:∃n:Nat,i.toNat=n+1:=⟨i.toNat-1,by omega⟩
  rw[show(i-1).toNat=n by omega,av];show q4 ch n _ (o++[IntKind.wrap .u32 (mX ch b5 qM)])=q4 ch n _ (o++[_]);rw[h1 (PU ch b5)]
 ·simp only[aoC]at h;rw[show i.toNat=0 by omega]at ou;rw[<-ou]at ae;exact ae
theorem NX {l:List Int}:∀(n:Nat) (a:Int) (o:List Int),dQ l a->bK o->dQ l (q4 l n a o).2/\bK (q4 l n a o).1/\(q4 l n a o).1.length=o.length+n
 |0,a,o,h,aF=>⟨h,aF,rfl⟩
 |n+1,a,o,h,aF=>by
  have:=NX n (c0 l a 12) (o++[mX l a qM]) (h.num 12).1 (aF.append (.mk (PU l a) .nil));refine⟨this.1,this.2.1, ?_⟩;have az:=this.2.2;rw[ao0,apL]at az;show(q4 l n _ _).1.length=_;rw[az];omega
theorem dQ.aQ {l:List Int}{a:Int}(h:dQ l a):dQ l (lB l a).2/\bK (lB l a).1/\(lB l a).1.length<=4:=by
 obtain⟨h_,v1,v2,_⟩:=h.num 5;have v2:=v2 (by decide);obtain⟨U,aa,az⟩:=NX (fr l a 5).toNat (c0 l a 5) [] h_ .nil;exact⟨U,aa,by unfold lB;rw[az];simp;omega⟩
theorem dQ.new {l:List Int}(h:∀x∈l,i64 x):dQ (l.take 1000) 0:=⟨by omega,by simp;omega,fun x ai=>h x (List.mem_of_mem_take ai)⟩
theorem adS {l:List Int}(h:∀n∈l,IntKind.min .i64<=n/\n<=IntKind.max .i64):∀x∈l,i64 x:=fun x ai=>by
 have h:=h x ai;have aA:IntKind.i64.min=-9223372036854775808:=by decide
 have aL:IntKind.i64.max=9223372036854775807:=by decide
 unfold i64;omega
end ab
end
section
open Go Go.al
namespace ab
theorem qT {l:List Int}{a lo hi:Int}(h:dQ l a)(U:lo<=hi):lo<=kJ l a lo hi/\kJ l a lo hi<=hi:=by
 obtain⟨_,g1,g2,_⟩:=h.num (hi-lo+1);have:=g2 (by omega);unfold kJ;omega
theorem VO (l:List Int)(a s x y:Int)(K:af->J->Prop)(h:B8.T (.ptr 0 0) (st l a s) [.d (.int .i64 x), .d (.int .i64 y)] K):LH l a s x y K:=by
 obtain⟨⟨aF,U,aa,az⟩,ae⟩:=h;have an:=qT aF aa;unfold kJ at an ae;unfold LH ah;rw[bR (x:=y-x) (by omega),bR (x:=y-x+1) (by omega),bR (x:=x+_) (by omega)];exact⟨⟨aF,by unfold i64;omega⟩,ae⟩
theorem V2 (l:List Int)(a s:Int)(K:af->J->Prop)(h:Dp.T (.ptr 0 0) (st l a s) [] K):LU l a s K:=by
 obtain⟨aF,ae⟩:=h;unfold LU;refine⟨⟨aF,by decide,by decide,by decide⟩, ?_⟩;have bz:=(aF.num 13).1;have dC:=qT (lo:=-6) (hi:=6) aF (by decide);have dD:=qT (lo:=1) (hi:=5) bz (by decide);rintro _ rfl _ rfl _ rfl _ rfl;refine⟨⟨bz,by decide,by decide,by decide⟩, ?_⟩;rintro _ rfl _ rfl _ rfl x ai;have kZ:x≠0:=by omega
 refine⟨⟨by unfold i64;omega,by unfold i64;omega⟩, ?_⟩;unfold ry rz rA;rw[ap5 kZ,ai];rintro _ rfl _ rfl _ rfl _ _;exact ae
theorem CO {l:List Int}{a:Int}(h:dQ l a)(n:Int)(av:1<=n:=by decide):0<=fr l a n/\fr l a n<n:=⟨(h.num n).2.1,(h.num n).2.2.1 av⟩
theorem SG {bD N:Int}(U:1<=bD)(aa:bD<=6)(az:0<=N)(aW:N<=8):IntKind.wrap .u32 (IntKind.wrap .u32 bD*IntKind.wrap .u32 N)=bD*N:=by
 have JZ:∀{x:Int},0<=x->x<4294967296->IntKind.wrap .u32 x=x:=fun U aa=>aqX U aa
 have amp:0<=bD*N/\bD*N<=6*8:=⟨Int.mul_nonneg (by omega) (by omega),Int.mul_le_mul (by omega) (by omega) (by omega) (by omega)⟩;rw[JZ (x:=bD) (by omega) (by omega),JZ (x:=N) (by omega) (by omega),JZ (x:=bD*N) (by omega) (by omega)]
theorem VP (l:List Int)(a s:Int)(K:af->J->Prop)(h:B9.T (.ptr 0 0) (st l a s) [] K):LI l a s K:=by
 obtain⟨aF,ae⟩:=h;unfold LI bX;unfold wN sH sI wO p4 at ae;refine⟨⟨aF,by unfold i64;decide⟩, ?_⟩;have bz:=(aF.num 4).1;rintro _ rfl _ rfl _ rfl v rfl;refine⟨fun h=>⟨bz, ?_⟩,fun h=>⟨fun aa=>⟨⟨bz,by unfold i64;decide⟩, ?_⟩,fun aa=>⟨⟨bz,by decide,by decide,by decide⟩, ?_⟩⟩⟩
 ·have h:=aoJ h;rintro _ rfl _ rfl _ rfl _ rfl _ rfl _ rfl;simp only[h,ao_]at ae;exact ae
 ·have h:=aoN h;have aa:=aoJ aa;simp only[aa,show ¬(1:Int)=0 by decide,ao_,if_false]at ae;have bl:=(bz.num 2).1;have cO:=bl.aQ.1;rintro _ rfl _ rfl _ rfl _ rfl;refine⟨bl, ?_⟩;rintro _ rfl _ rfl _ rfl _ rfl;refine⟨cO, ?_⟩;rintro _ rfl _ rfl _ rfl _ rfl;exact ae
 ·have h:=aoN h;have aa:=aoN aa;simp only[h,aa,if_false]at ae;have bl:=(bz.num 6).1;have cO:=(bl.num 2).1;have jJ:=(cO.num 9).1;have r:=qT (lo:=1) (hi:=6) bz (by decide);have UR:=CO cO 9;have AR:=CO jJ 6;have ajM:=SG r.1 r.2 UR.1 (by omega);have ajN:=SG r.1 r.2 AR.1 (by omega);rintro _ rfl _ rfl _ rfl _ rfl;refine⟨⟨bl,by unfold i64;decide⟩, ?_⟩;rintro _ rfl _ rfl _ rfl _ rfl;refine⟨⟨cO,by unfold i64;decide⟩, ?_⟩;rintro _ rfl _ rfl _ rfl _ rfl;refine⟨⟨jJ,by unfold i64;decide⟩, ?_⟩;rintro _ rfl _ rfl _ rfl _ rfl;rw[ajM,ajN];exact ae
theorem HK {l:List Int}{a:Int}(aF:dQ l a):dQ l (wO l a)/\bO 4 (sH l a)/\bO 4 (sI l a):=by
 have bz:=(aF.num 4).1;unfold sH sI wO p4
 by_cases h:fr l a 4=0
 ·simp only[h,ao_];have bl:=(bz.num 13).1;have dC:=qT (lo:=-6) (hi:=6) bz (by decide);have dD:=qT (lo:=1) (hi:=5) bl (by decide)
  have an:dp 4 (iG l (c0 l a 4)):=by
   unfold iG IX IY;have a8:kJ l (c0 l (c0 l a 4) 13) 1 5=((kJ l (c0 l (c0 l a 4) 13) 1 5).toNat:Int):=by omega
   rw[a8,Rat.divInt_ofNat];exact .mk (by omega) (by omega)
  exact⟨(bl.num 5).1,an.num,an.den⟩
 ·simp only[h,if_false]
  by_cases U:fr l a 4=1
  ·simp only[U,ao_];have bl:=(bz.num 2).1;have cO:=bl.aQ;have jJ:=cO.1.aQ;exact⟨jJ.1,cO.2,jJ.2⟩
  ·simp only[U,if_false];have bl:=(bz.num 6).1;have cO:=(bl.num 2).1;have jJ:=(cO.num 9).1;have r:=qT (lo:=1) (hi:=6) bz (by decide);have UR:=CO cO 9;have AR:=CO jJ 6;generalize kJ l (c0 l a 4) 1 6=bD at*;generalize fr l (c0 l (c0 l (c0 l a 4) 6) 2) 9=US at*;generalize fr l (c0 l (c0 l (c0 l (c0 l a 4) 6) 2) 9) 6=UT at*;have amp:0<=bD*US/\bD*US<=6*8:=⟨Int.mul_nonneg (by omega) (by omega),Int.mul_le_mul (by omega) (by omega) (by omega) (by omega)⟩;have oH:0<=bD*UT/\bD*UT<=6*5:=⟨Int.mul_nonneg (by omega) (by omega),Int.mul_le_mul (by omega) (by omega) (by omega) (by omega)⟩;exact⟨(jJ.num 6).1,⟨.mk ⟨by omega,by omega⟩ (.mk ⟨by omega,by omega⟩ .nil),by simp⟩,⟨.mk ⟨by omega,by omega⟩ .nil,by simp⟩⟩
theorem AS {P:Prop}:(false=true->P)=True:=by simp
theorem dC {P:Prop}:(true=true->P)=P:=by simp
theorem dD {P:Prop}:(true=false->P)=True:=by simp
end ab
end
section
open Go Go.al
namespace ab
theorem VQ (a:Int)(K:J->Prop)(h:Ds.T [.d (.int .i64 a)] K):LF a K:=by
 obtain⟨_,ae⟩:=h;unfold LF;simpa using ae
theorem VG (a b:Int)(K:J->Prop)(h:D6.T [.d (.int .i64 a), .d (.int .i64 b)] K):Lw a b K:=by
 obtain⟨_,ae⟩:=h;unfold Lw;refine⟨trivial, ?_⟩;rintro _ rfl;refine⟨trivial, ?_⟩;rintro _ rfl;refine⟨fun h=>by simp at h,fun _=>⟨fun h=>by simp at h,fun _=>⟨fun h=> ?_,fun h=>⟨fun aa=> ?_,fun aa=> ?_⟩⟩⟩⟩
 ·rw[aoy (aoJ h)]at ae;exact ae
 ·rw[aox (aoN h),aoy (aoJ aa)]at ae;exact ae
 ·rw[aox (aoN h),aox (aoN aa)]at ae;exact ae
theorem dX {n:Int}(bc:0<=n)(U:n<9223372036854775808):IntKind.wrap .i64 n=n:=
 bR (by omega)
theorem we {a b:List Int}:∀(i:Nat),i<=a.length->i<=b.length->(∀j,j<i->a.getD j 0=b.getD j 0)->ez a b=ez (a.drop i) (b.drop i)
 |0,_,_,_=>by simp
 |i+1,aR,ag,h=>by
  rw[we i (by omega) (by omega) fun j aI=>h j (by omega)];have e:=h i (by omega);rw[apU (i:=i) (by omega),apU (i:=i) (l:=b) (by omega),ez];rw[aoA,aoA,aoM (by omega),aoM (by omega)]at e;simp only[apA]at e;rw[e,aox (Int.lt_irrefl _),aox (Int.lt_irrefl _)]
theorem Vj (a b:List Int)(K:J->Prop)(h:Ca.T [.d (.ad .i64 a), .d (.ad .i64 b)] K):Le a b K:=by
 obtain⟨⟨dE,ey⟩,ae⟩:=h;unfold Le ah aO;refine⟨fun v=>∃i:Nat,v=i/\i<=a.length/\i<=b.length/\∀j,j<i->a.getD j 0=b.getD j 0,fun v=>a.length-v.toNat,⟨0,rfl,by omega,by omega,fun j aI=>by omega⟩, ?_⟩;rintro _ ⟨i,rfl,U,aa,az⟩;simp only[ao1,aoC,aoB];refine⟨fun aW=>⟨by omega,aW,fun bA=> ?_,fun bA=>⟨by omega,by omega,trivial, ?_⟩⟩,fun aW=>⟨fun bA=> ?_,fun bA=> ?_⟩⟩
 ·have aR:i<a.length:=by omega
  rw[we i U aa az,aqw (show b.length<=i by omega),apU (i:=i) aR,ez]at ae
  ·exact ae
  ·simp;exact aR
 ·have aR:i<a.length:=by omega
  have ag:i<b.length:=by omega
  have e:=we i U aa az;rw[apU (i:=i) aR,apU (i:=i) (l:=b) ag,ez]at e;have g1:a.getD i 0=a[i]:=by simp[aoA,aR]
  have g2:b.getD i 0=b[i]:=by simp[aoA,ag]
  simp only[g1,g2];rintro _ rfl;refine⟨fun bZ=> ?_,fun bZ=> ?_⟩
  ·have:ez a b=if a[i]<b[i]then-1 else if b[i]<a[i]then 1 else 0:=by
    rw[e];split
    ·rfl
    ·split
     ·rfl
     ·exfalso;rename_i a6 bj;simp[a6,bj]at bZ
   rw[this]at ae;exact ae
  ·have jD:a[i]=b[i]:=by
    have bZ:(if a[i]<b[i]then(-1:Int)else if b[i]<a[i]then 1 else 0)=0:=by simpa using bZ
    split at bZ
    ·cases bZ
    ·split at bZ
     ·cases bZ
     ·omega
   rw[dX (by omega) (by omega)];refine⟨⟨i+1,rfl,by omega,by omega,fun j aI=> ?_⟩,by omega⟩
   by_cases Am:j=i
   ·subst Am;rw[g1,g2,jD]
   ·exact az j (by omega)
 ·have:a.drop i=[]:=aqw (by omega);have ag:i<b.length:=by omega
  rw[we i U aa az,this,apU (i:=i) (l:=b) ag,ez]at ae
  ·exact ae
  ·simp;exact ag
 ·rw[we i U aa az,aqw (show a.length<=i by omega),aqw (show b.length<=i by omega),ez]at ae;exact ae
theorem eP.vl {r:Row}(h:eP r):∀x∈r.take 8,x.dd .i64:=by
 obtain⟨oG,fT,fZ,hV,jG,jH,oH,r5,s,a,b,rfl⟩:=h;simp[R.dd]
theorem OP (a b:List Int):ez a b=-1\/ez a b=0\/ez a b=1:=by
 induction a generalizing b with
 |nil=>cases b<;>simp[ez]
 |cons x a bF=>
  cases b with
  |nil=>simp[ez]
  |cons y b=>
   rw[ez];split
   ·exact .inl rfl
   ·split
    ·exact .inr (.inr rfl)
    ·exact bF b
theorem PV (a b:List Int):IntKind.wrap .i64 (0-ez a b)=-ez a b:=by
 rcases OP a b with e|e|e<;>rw[e]<;>rfl
theorem Vb (q:ee)(a_:q.desc=false)(a b:Row)(K:J->Prop)(h:qf.T q [.agg [.d (.int .i64 8)], .rw 11 a, .rw 11 b] K):K8 a b K:=by
 unfold qf.T bg at h;simp only[a_]at h;obtain⟨⟨dE,ey⟩,ae⟩:=h;unfold K8 ah;have aA:(List.take 8 (List.map R.toInt (List.take 8 a)))=dq a:=by rw[<-aqA,List.take_take];rfl
 have aL:(List.take 8 (List.map R.toInt (List.take 8 b)))=dq b:=by rw[<-aqA,List.take_take];rfl
 have dh:(dq a).length=8:=by simp[dq,dE.len]
 have l2:(dq b).length=8:=by simp[dq,ey.len]
 refine⟨dE.len,dE.vl,by omega,by omega,ey.len,ey.vl,by omega,by omega,⟨by rw[aA];omega,by rw[aL];omega⟩, ?_⟩;rintro _ rfl;rw[aA,aL,PV];exact ae
theorem U7 (q:ee)(a_:q.desc=true)(a b:Row)(K:J->Prop)(h:qf.T q [.agg [.d (.bool true)], .rw 11 a, .rw 11 b] K):KR a b K:=by
 unfold qf.T bg at h;simp only[a_]at h;obtain⟨⟨dE,ey⟩,ae⟩:=h;unfold KR ah;have aA:(List.map R.toInt (List.take 8 a))=dq a:=rfl;have aL:(List.map R.toInt (List.take 8 b))=dq b:=rfl;have dh:(dq a).length=8:=by simp[dq,dE.len]
 have l2:(dq b).length=8:=by simp[dq,ey.len]
 refine⟨dE.len,dE.vl,ey.len,ey.vl,⟨by rw[aA];omega,by rw[aL];omega⟩, ?_⟩;rintro _ rfl;refine⟨fun _=> ?_,fun h=>by cases h⟩;rw[aA,aL,PV];exact ae
theorem PW:∀(l:List Int) (a x:Int),lJ a (l++[x])=if x>lJ a l then x else lJ a l
 |[],a,x=>rfl
 |y::l,a,x=>by rw[apO,lJ,PW l,lJ]
theorem VH (a:List Int)(K:J->Prop)(h:EU.T [.d (.ad .i64 a)] K):Lx a K:=by
 obtain⟨⟨bc,U⟩,ae⟩:=h;unfold Lx ah;refine⟨True,⟨fun h=>by simp at h;omega,fun _=>trivial⟩,fun _=>⟨by omega,by omega,fun x v=>∃i:Nat,v=i/\1<=i/\i<=a.length/\x=lJ (a.getD 0 0) ((a.take i).drop 1),fun _ v=>a.length-v.toNat,⟨1,rfl,by omega,by omega, ?_⟩, ?_⟩⟩
 ·rw[aqw (by simp;omega),lJ]
 ·rintro _ _ ⟨i,rfl,aa,az,rfl⟩;simp only[ao1,aoC,aoB];refine⟨fun aW=>⟨by omega,aW,⟨i+1, ?_,by omega,by omega, ?_⟩, ?_⟩,fun aW=> ?_⟩
  ·rw[dX (by omega) (by omega)];rfl
  ·have hi:i<a.length:=by omega
   have e:a.getD i 0=a[i]:=by simp[aoA,hi]
   rw[aqP,aoM hi,Option.toList_some,List.drop_append_of_le_length (by simp;omega),PW,e]
  ·rw[dX (by omega) (by omega)];omega
  ·have:i=a.length:=by omega
   rw[this,apG];exact ae
theorem kb (m:List Int):(dZ m).length=m.length:=aoF ..
theorem qX (m:List Int):jC (dZ m)=m:=by
 rw[jC,dZ,ap0];exact List.map_id' _
theorem yx (m:List Int)(i:Nat)(h:i<m.length):(dZ m).getD i .undef= .int .i64 (m.getD i 0):=by
 simp[dZ,aoA,h]
theorem HL (m:List Int)(i:Nat)(x:Int):(dZ m).set i (.int .i64 x)=dZ (m.set i x):=by rw[dZ,dZ,aqn]
theorem yy:∀(m n:List Int),m.length=n.length->(gi m n).length=m.length
 |[],[],_=>rfl
 |[],_::_,h=>by cases h
 |_::_,[],h=>by cases h
 |a::m,b::n,h=>by simp only[gi,apq]at h⊢;rw[yy m n (by omega)]
theorem yz:∀(m n:List Int) (i:Nat),i<m.length->i<n.length->(gi m n).getD i 0=m.getD i 0+n.getD i 0
 |a::m,b::n,0,_,_=>rfl
 |a::m,b::n,i+1,h,k=>yz m n i (Nat.lt_of_succ_lt_succ h) (Nat.lt_of_succ_lt_succ k)
theorem zA {m n:List Int}(h:m.length=n.length)(k:∀i,i<m.length->m.getD i 0=n.getD i 0):m=n:=by
 refine aqF h fun i U aa=> ?_;have:=k i U;rw[aoA,aoA,aoM U,aoM aa]at this;exact this
theorem ln {m:List Int}{i:Nat}(h:i<m.length):m.getD i 0∈m:=by
 rw[aoA,aoM h];exact apF h
theorem V3 (a b:Row)(K:J->Prop)(h:Dt.T [.rw 8 a, .rw 8 b] K):LS a b K:=by
 obtain⟨⟨⟨m,rfl,hm,hU⟩,n,rfl,av,tg⟩,ae⟩:=h;rw[qX,qX]at ae;unfold LS ah
 refine⟨fun v aq bz bl=>∃(i:Nat) (x:List Int) (r:Row),v=i/\i<=8/\aq=[dZ x]/\bz=[dZ n]/\bl=[r]/\x.length=8/\(∀j,j<i->x.getD j 0=m.getD j 0+n.getD j 0)/\∀j,i<=j->x.getD j 0=m.getD j 0,
  fun v _ _ _=>8-v.toNat,⟨0,m,_,rfl,by omega,rfl,rfl,rfl,hm,fun j aI=>by omega,fun j aI=>rfl⟩, ?_⟩
 rintro _ _ _ _ ⟨i,x,r,rfl,U,rfl,rfl,rfl,ai,aa,az⟩;have hG:List.getD [dZ x] 0 []=dZ x:=rfl;have aA:List.getD [dZ n] 0 []=dZ n:=rfl;simp only[ao1,aoC,aoB,hG,aA];refine⟨fun aW=> ?_,fun aW=> ?_⟩
 ·have hi:i<8:=by omega
  have cZ:=hU _ (ln (m:=m) (i:=i) (by omega));have di:=tg _ (ln (m:=n) (i:=i) (by omega));rw[yx x i (by omega),yx n i (by omega)]
  have amq:IntKind.wrap .i64 (R.toInt (.int .i64 (x.getD i 0))+R.toInt (.int .i64 (n.getD i 0)))=m.getD i 0+n.getD i 0:=by
   show IntKind.wrap .i64 (x.getD i 0+n.getD i 0)=_;rw[az i (aoE _),bR (by omega)]
  rw[amq,HL];refine⟨by omega,aW,rfl,by omega,aW,rfl,by omega,aW,⟨i+1,_,r,dX (by omega) (by omega),by omega,rfl,trivial,rfl,by simp[ai],fun j aI=> ?_,fun j aI=> ?_⟩,by rw[dX (by omega) (by omega)];omega⟩
  ·rw[eu]
   by_cases e:i=j
   ·subst e;rw[aoy ⟨rfl,by omega⟩]
   ·rw[aox (fun h=>e h.1),aa j (by omega)]
  ·rw[eu,aox (fun h=>by omega),az j (by omega)]
 ·have hi:i=8:=by omega
  subst hi;have ex:x=gi m n:=zA (by rw[yy m n (by omega)];omega) fun j aI=>by rw[aa j (by omega),yz m n j (by omega) (by omega)]
  subst ex;refine⟨by rw[kb,ai], ?_, ?_⟩
  ·show(dZ (gi m n)).length=8;rw[kb,ai]
  ·exact ae
theorem Gt {l ch:List R}{i:Nat}{d:R}(h:l.length<=i):(l++ch).getD i d=ch.getD (i-l.length) d:=by
 rw[aoA,apJ h,aoA]
def et (m:List Int)(s:Bool)(a b:List Int):Row:=dZ m++[.bool s, .ad .u32 a, .ad .u32 b]
section
variable {m:List Int} {s:Bool} {a b:List Int}
theorem jT (h:m.length=8):(et m s a b).length=11:=by rw[et,ao0,kb,h];rfl
theorem n3 (h:m.length=8):(et m s a b).take 8=dZ m:=by rw[et,List.take_left'];rw[kb,h]
theorem jj (h:m.length=8):(et m s a b).getD 8 .undef= .bool s:=by
 rw[et,Gt (by rw[kb,h];omega),kb,h];rfl
theorem jk (h:m.length=8):(et m s a b).getD 9 .undef= .ad .u32 a:=by
 rw[et,Gt (by rw[kb,h];omega),kb,h];rfl
theorem jh (h:m.length=8):(et m s a b).getD 10 .undef= .ad .u32 b:=by
 rw[et,Gt (by rw[kb,h];omega),kb,h];rfl
theorem wQ (h:m.length=8)(fL:Bool)(b5 ed:List Int):setRow (et m s a b) 8 [.bool fL, .ad .u32 b5, .ad .u32 ed]=et m fL b5 ed:=by
 have l:(dZ m).length=8:=by rw[kb,h]
 simp only[setRow,et];rw[List.set_append_right _ _ (by omega),List.set_append_right _ _ (by omega),List.set_append_right _ _ (by omega),l];rfl
theorem q7 (h:m.length=8):dq (et m s a b)=m:=by rw[dq,n3 h];exact qX m
theorem D8 (h:m.length=8):tl (et m s a b)=bb s a b:=by rw[tl,jj h,jk h,jh h];rfl
theorem kO (h:m.length=8):aM (et m s a b)=(m,bb s a b):=by rw[aM,q7 h,D8 h]
end
theorem nS (m:List Int):(dZ m).map R.toInt=m:=qX m
theorem yJ (t:ba):hS t=et t.1 (cl t.2) (cj t.2) (ca t.2):=rfl
theorem CP {t:ba}(h:t.1.length=8):aM (hS t)=t:=by rw[yJ,kO h,lp]
theorem pW {m:List Int}(h:∀x∈m,-4000000000000000000<=x/\x<=4000000000000000000):kc (dZ m):=fun x ai=>by
 obtain⟨y,bp,rfl⟩:=aoQ.1 ai;have:=h y bp;exact⟨rfl,by show _<=y;omega,by show y<=_;omega⟩
theorem fg.bP {k:Nat}{r:Row}(h:fg k r):∃(m:List Int) (s:Bool) (a b:List Int),r=et m s a b/\m.length=8/\(∀x∈m,-4000000000000000000<=x/\x<=4000000000000000000)/\bO k a/\bO k b:=h
theorem fg.row {k:Nat}{r:Row}(h:fg k r):eP r:=by
 obtain⟨m,s,a,b,rfl,hm,_⟩:=h
 match m,hm with
 |[oG,fT,fZ,hV,jG,jH,oH,r5],_=>exact⟨oG,fT,fZ,hV,jG,jH,oH,r5,s,a,b,rfl⟩
theorem fg.mono {k j:Nat}{r:Row}(h:fg k r)(ae:k<=j):fg j r:=by
 obtain⟨m,s,a,b,rfl,hm,U,aa,az⟩:=h;exact⟨m,s,a,b,rfl,hm,U,aa.mono ae,az.mono ae⟩
theorem Sb {m:List Int}{s:Bool}{a b:List Int}(h:m.length=8):jL (et m s a b)=decide (k1 (bb s a b)=0):=by rw[jL,D8 h]
theorem VI (r:Row)(K:J->Prop)(h:Dv.T [.rw 11 r] K):Ly r K:=by
 obtain⟨an,ae⟩:=h;obtain⟨m,s,a,b,rfl,hm,_,aa,az⟩:=an.bP;unfold Ly;simp only[jj hm,jk hm,jh hm];refine⟨trivial,rfl,rfl,⟨aa.cI (by decide),az.cI (by decide)⟩, ?_⟩;rintro _ rfl;rw[Sb hm]at ae;exact ae
theorem jR {l:Rows}{i:Nat}(h:i<l.length):l.getD i []∈l:=by
 rw[aoA,aoM h];exact apF h
theorem QO:∀(l:Rows) (k:Int) (i:Nat),i<=l.length->(∀j,j<i->jL (l.getD j [])=false)->o7 l k=o7 (l.drop i) (k+i)
 |l,k,0,_,_=>by simp
 |r::l,k,i+1,h,bq=>by
  have bc:=bq 0 (by omega);simp only[aqz]at bc;rw[o7,bc,List.drop_succ_cons,aox (by decide),QO l (k+1) i (by simpa using h) fun j aI=>by simpa using bq (j+1) (by omega)]
  congr 1;omega
theorem U8 (g:Nat)(l:Rows)(K:J->Prop)(h:(yI.T g) [.d (.ar 11 l), .fn g] K):KS l K:=by
 unfold yI.T bg at h;simp only[apz]at h;obtain⟨⟨bs,ax⟩,ae⟩:=h;unfold KS ah aO List.aG;refine⟨fun v=>∃i:Nat,v=i/\i<=l.length/\∀j,j<i->jL (l.getD j [])=false,fun v=>l.length-v.toNat,⟨0,rfl,by omega,fun j aI=>by omega⟩, ?_⟩;rintro _ ⟨i,rfl,U,aa⟩;have e:=QO l 0 i U aa;rw[Int.zero_add]at e;simp only[ao1,aoC,aoB];refine⟨fun aW=> ?_,fun aW=> ?_⟩
 ·have hi:i<l.length:=by omega
  have nN:l.getD i []=l[i]:=by simp[aoA,hi]
  refine⟨by omega,aW,(bs _ (jR hi)).row.len,bs _ (jR hi), ?_⟩;rintro _ rfl;refine⟨fun bA=> ?_,fun bA=>⟨⟨i+1,dX (by omega) (by omega),by omega,fun j aI=> ?_⟩,by rw[dX (by omega) (by omega)];omega⟩⟩
  ·rw[e,apU hi,o7,<-nN,bA,aoy rfl]at ae;exact ae
  ·by_cases Am:j=i
   ·subst Am;exact bA
   ·exact aa j (by omega)
 ·rw[e,aqw (by omega),o7]at ae;exact ae
theorem Wj:∀(l:Rows) (i:Nat),(∀j,j<i->j<l.length->jL (l.getD j [])=false)->(l.take i).filter (fun r=> !jL r)=l.take i:=fun l i h=>by
 refine List.filter_eq_self.2 fun r an=> ?_;obtain⟨j,aI,rfl⟩:=aqu an;have hB:j<i/\j<l.length:=by rw[ao3]at aI;omega
 have:=h j hB.1 hB.2;rw[List.getElem_take];rw[aoA,aoM hB.2]at this;simpa using this
theorem NY:∀(l:Rows) (k:Int),0<=k->(o7 l k=-1/\∀r∈l,jL r=false)\/∃i:Nat,i<l.length/\o7 l k=k+i/\jL (l.getD i [])=true/\∀j,j<i->jL (l.getD j [])=false
 |[],k,_=> .inl ⟨rfl,by simp⟩
 |r::l,k,ae=>by
  rw[o7]
  cases bq:jL r with
  |true=>exact .inr ⟨0,by simp,by simp,by simpa using bq,fun j aI=>by omega⟩
  |false=>
   rw[aox (by decide)];rcases NY l (k+1) (by omega)with⟨U,aa⟩|⟨i,U,aa,az,aW⟩
   ·refine .inl ⟨U,fun x ai=> ?_⟩;rcases ao7.1 ai with rfl|ai
    ·exact bq
    ·exact aa x ai
   ·refine .inr ⟨i+1,by simpa using U,by rw[aa];omega,by simpa using az,fun j aI=> ?_⟩
    cases j with
    |zero=>simpa using bq
    |succ j=>simpa using aW j (by omega)
theorem U6 (g:Nat)(l:Rows)(K:af->Prop)(h:(za.T g) (.ar 11 l) [.fn g] K):KO l K:=by
 unfold za.T w0 at h;simp only[apz]at h;obtain⟨⟨bs,ax⟩,ae⟩:=h;unfold KO ah List.aG;refine⟨⟨bs,ax⟩, ?_⟩;rintro _ rfl;rcases NY l 0 (Int.le_refl _)with⟨U,aa⟩|⟨i0,U,aa,az,aW⟩
 ·rw[U];refine⟨fun _=> ?_,fun h=>by cases h⟩;rw[List.filter_eq_self.2 fun r an=>by rw[aa r an];rfl]at ae;exact ae
 ·rw[aa,Int.zero_add];refine⟨fun h=>by have:=aoJ h;omega,fun _=> ?_⟩;refine⟨fun a v o=>∃i j:Nat,a=i/\v=j/\i<j/\j<=l.length/\o.length=l.length/\(∀r∈o,fg 1000000 r)/\o.take i=(l.take j).filter (fun r=> !jL r)/\o.drop j=l.drop j,fun _ v _=>l.length-v.toNat,⟨i0,i0+1,rfl, ?_,by omega,by omega,rfl,bs, ?_,rfl⟩, ?_⟩
  ·rw[dX (by omega) (by omega)];rfl
  ·rw[aqP,aqq,Wj l i0 fun j aI _=>aW j aI,aoM U]
   have:jL l[i0]=true:=by
    rw[aoA,aoM U]at az;exact az
   simp[this]
  ·rintro _ _ o ⟨i,j,rfl,rfl,a6,bj,bH,dO,fi,ho⟩;simp only[ao1,aoC,aoB];refine⟨fun bA=> ?_,fun bA=> ?_⟩
   ·have aI:j<l.length:=by omega
    have ajO:j<o.length:=by omega
    have hm:fg 1000000 (o.getD j []):=dO _ (jR ajO)
    have UU:o.getD j []=l[j]:=by
     have:=apb (fun x:Rows=>x.getD 0 []) ho;simp only[aoA,apZ,aoW]at this;rw[aoA,this,aoM aI];rfl
    have w1:IntKind.wrap .i64 ((j:Int)+1)=((j+1:Nat):Int):=dX (by omega) (by omega);have db:IntKind.wrap .i64 ((i:Int)+1)=((i+1:Nat):Int):=dX (by omega) (by omega);refine⟨by omega,bA,hm.row.len,hm.row.len,hm, ?_⟩;rintro _ rfl;rw[w1,db];refine⟨fun bZ=>⟨hm.row.len,by omega,by omega,⟨i+1,j+1,rfl,rfl,by omega,by omega,by simpa using bH,fun r an=> ?_, ?_, ?_⟩,by omega⟩,fun bZ=>⟨⟨i,j+1,rfl,rfl,by omega,by omega,bH,dO, ?_, ?_⟩,by omega⟩⟩
    ·rcases ap9 an with an|rfl
     ·exact dO r an
     ·exact hm
    ·rw[aqP,apj,aoy rfl,aoy (show i<o.length by omega),List.take_set_of_le (aoE _),fi,aqP,aqq,aoM aI];rw[UU]at bZ⊢;simp[bZ]
    ·rw[List.drop_set_of_lt (by omega)];have:=apb (List.drop 1) ho;rwa [List.drop_drop,List.drop_drop]at this
    ·rw[fi,aqP,aqq,aoM aI];rw[UU]at bZ;simp[bZ]
    ·have:=apb (List.drop 1) ho;rwa [List.drop_drop,List.drop_drop]at this
   ·have aI:j=l.length:=by omega
    have an6:i<=o.length:=by omega
    have e:(o.take i++List.replicate (o.length-i) ([R.int IntKind.i64 0,R.int IntKind.i64 0,R.int IntKind.i64 0,R.int IntKind.i64 0,R.int IntKind.i64 0,R.int IntKind.i64 0,R.int IntKind.i64 0,R.int IntKind.i64 0,R.bool false,R.ad IntKind.u32 [],R.ad IntKind.u32 []]:Row)).take i=o.take i:=by
     rw[List.take_append_of_le_length (by simp;omega),List.take_take,Nat.min_self]
    refine⟨by omega,by omega,by omega,by simp;omega, ?_⟩;rw[e,fi,aI,apG];exact ae
theorem U_ (l:Rows)(K:af->Prop)(h:Du.T [.d (.ar 11 l)] K):K5 l K:=by
 obtain⟨ax,ae⟩:=h;unfold K5 aO;intro b ag;refine⟨fun h=> ?_,fun h=>⟨by omega,ae⟩⟩;rw[ag h]at ae;exact ae
theorem uh (m:List Int):∀(a b:Rows),fw m (a++b)=fw m a+fw m b
 |[],b=>by rw[List.nil_append,fw,ao8]
 |r::a,b=>by rw[apO,fw,fw,uh m a b,apy]
theorem aaJ (m:List Int)(l:Rows)(i:Nat):fw m (l.take i)<=fw m l:=by
 have:=uh m (l.take i) (l.drop i);rw[List.take_append_drop]at this;omega
theorem mJ {l:Rows}{i:Nat}(h:i<l.length):l.take (i+1)=l.take i++[l.getD i []]:=by
 rw[aqP,aoM h,aoA,aoM h];rfl
theorem OQ {l:Rows}{i:Nat}(h:i<l.length)(m:List Int):fw m (l.take (i+1))=fw m (l.take i)+if dq (l.getD i [])=m then 1 else 0:=by
 rw[mJ h,uh,fw,fw,aoW]
def l4 (m:List Int):Prop:=m.length=8/\∀x∈m,-4000000000000000000<=x/\x<=4000000000000000000
def kT:Nat->List ba->Rows
 |_,[]=>[]
 |k,t::p=>(dZ t.1++[.int .i64 k])::kT (k+1) p
theorem PX:∀(k:Nat) (p:List ba) (t:ba),kT k (p++[t])=kT k p++[dZ t.1++[.int .i64 ((k+p.length:Nat):Int)]]
 |k,[],t=>rfl
 |k,u::p,t=>by
  rw[apO,kT,kT,PX (k+1) p t,apO,apq,show k+1+p.length=k+(p.length+1) by omega]
theorem NZ:∀(k:Nat) (p q:List ba),p.map Prod.fst=q.map Prod.fst->kT k p=kT k q
 |k,[],[],_=>rfl
 |k,[],_::_,h=>by cases h
 |k,_::_,[],h=>by cases h
 |k,t::p,u::q,h=>by
  simp only[aoX,aqc]at h;rw[kT,kT,h.1,NZ (k+1) p q h.2]
theorem PY:∀(k:Nat) (p:List ba) (j:Nat) (t:ba),p[j]? =some t->(kT k p)[j]? =some (dZ t.1++[.int .i64 ((k+j:Nat):Int)])
 |k,[],j,t,h=>by simp at h
 |k,u::p,0,t,h=>by
  obtain rfl:u=t:=by simpa using h
  rfl
 |k,u::p,j+1,t,h=>by
  have:=PY (k+1) p j t (by simpa using h);rw[kT,List.getElem?_cons_succ,this,show k+1+j=k+(j+1) by omega]
theorem BB {m:List Int}(h:m.length=8)(x:List R):jf 8 (dZ m++x)=m:=by
 rw[jf,List.take_left' (by rw[kb,h]),nS]
theorem OR:∀(k:Nat) (p:List ba),(∀t∈p,t.1.length=8)->(kT k p).map (jf 8)=p.map Prod.fst
 |_,[],_=>rfl
 |k,t::p,h=>by rw[kT,aoX,aoX,BB (h t (by simp)),OR (k+1) p fun u hu=>h u (by simp[hu])]
theorem acm {k:Nat}{p:List ba}{r:Row}(h:r∈kT k p):∃t∈p,∃j:Int,r=dZ t.1++[.int .i64 j]:=by
 induction p generalizing k with
 |nil=>cases h
 |cons t p bF=>
  rw[kT]at h;rcases ao7.1 h with rfl|h
  ·exact⟨t,by simp,_,rfl⟩
  ·obtain⟨u,hu,j,e⟩:=bF h;exact⟨u,by simp[hu],j,e⟩
theorem PZ {m:List Int}(h:m.length=8)(x:List R):(dZ m++x).drop 8=x:=List.drop_left' (by rw[kb,h])
theorem adT {t:ba}(h:t.1.length=8):jL (hS t)=decide (t.2=0):=by simp only[yJ,Sb h,lp,sq]
theorem Ni:∀{p:List ba},(∀t∈p,t.1.length=8)->(br p).filter (fun r=> !jL r)=br (p.filter fun t=> !decide (t.2=0))
 |[],_=>rfl
 |t::p,h=>by
  have bF:=Ni (p:=p) fun u hu=>h u (by simp[hu]);show List.filter _ (hS t::br p)=_;rw[apW,apW,adT (h t (by simp))];split
  ·rw[bF];rfl
  ·exact bF
theorem fI (p:List ba):(br p).length=p.length:=aoF ..
theorem P0 {p:List ba}{j:Nat}{t:ba}(h:p[j]? =some t):(br p).getD j []=hS t:=by
 rw[aoA,br,apu,h];rfl
theorem QP {k:Nat}{t:ba}(h:l4 t.1)(ay:dp k t.2):fg k (hS t):=⟨_,_,_,_,rfl,h.1,h.2,ay.num,ay.den⟩
theorem QQ:∀{l:Rows},(∀r∈l,∃t:ba,r=hS t/\t.1.length=8)->br (l.map aM)=l
 |[],_=>rfl
 |r::l,h=>by
  obtain⟨t,e,au⟩:=h r (by simp);show hS (aM r)::br (l.map aM)=_;rw[QQ fun u hu=>h u (by simp[hu]),e,CP au]
theorem fb {p:List ba}(h:∀t∈p,t.1.length=8):(br p).map aM=p:=by
 induction p with
 |nil=>rfl
 |cons t p bF=>
  show aM (hS t)::(br p).map aM=_;rw[CP (h t (by simp)),bF fun u hu=>h u (by simp[hu])]
def og (k:Nat)(l:Rows)(i:Nat)(acc:List ba):Prop:=
 acc=((l.take i).map aM).foldl iF []/\(acc.map Prod.fst).Nodup/\(∀t∈acc,l4 t.1/\dp (fw t.1 (l.take i)*(k+1)) t.2)/\acc.length<=i
theorem og.none {k:Nat}{l:Rows}{i:Nat}{acc:List ba}(h:og k l i acc)(hi:i<l.length){m:List Int}{s:Bool}{a b:List Int}(e:l.getD i []=et m s a b)(hm:l4 m)
 (aR:bO k a) (ag:bO k b) (iN:1<=k) (av:∀u∈acc,u.1≠m):og k l (i+1) (acc++[(m,bb s a b)]):=by
 obtain⟨U,aa,az,aW⟩:=h;have hw:=OQ hi;have an:dp k (bb s a b):=dp.of aR ag;refine⟨?_, ?_,fun t au=> ?_, ?_⟩
 ·rw[mJ hi,e,apd,List.foldl_append,<-U];show _=iF acc (aM (et m s a b));rw[kO hm.1,Hk av]
 ·rw[<-Hk (t:=(m,bb s a b)) av];exact NU aa
 ·rcases apV.1 au with au|au
  ·exact⟨(az t au).1,(az t au).2.mono (aoP _ (by rw[hw];omega))⟩
  ·obtain rfl:=apo.1 au;refine⟨hm,an.mono ?_⟩;have U:1<=fw m (l.take (i+1)):=by rw[hw,e,aoy (q7 hm.1)];omega
   have:=aoP (k+1) U;show k<=fw m (l.take (i+1))*(k+1);omega
 ·rw[ao0];exact Nat.succ_le_succ aW
theorem og.at {k:Nat}{l:Rows}{i:Nat}{acc:List ba}(h:og k l i acc)(hi:i<l.length){m:List Int}{s:Bool}{a b:List Int}(e:l.getD i []=et m s a b)(hm:l4 m)
 (aR:bO k a) (ag:bO k b) (iN:1<=k) {j:Nat} {u:ba} (aI:acc[j]? =some u) (hu:u.1=m):og k l (i+1) (acc.set j (m,u.2+bb s a b)):=by
 obtain⟨U,aa,az,aW⟩:=h;have hw:=OQ hi;have an:dp k (bb s a b):=dp.of aR ag;have FV:iF acc (m,bb s a b)=acc.set j (m,u.2+bb s a b):=by rw[QK aa aI hu,hu]
 refine⟨?_, ?_,fun t au=> ?_, ?_⟩
 ·rw[mJ hi,e,apd,List.foldl_append,<-U];show _=iF acc (aM (et m s a b));rw[kO hm.1,FV]
 ·rw[<-FV];exact NU aa
 ·rcases ap9 au with au|rfl
  ·exact⟨(az t au).1,(az t au).2.mono (aoP _ (by rw[hw];omega))⟩
  ·refine⟨hm,((az u (ap2 aI)).2.add an).mono ?_⟩;show _<=fw m (l.take (i+1))*(k+1);rw[hw,e,aoy (q7 hm.1),hu,aoT,apM];omega
 ·rw[aoI];omega
theorem og.AT {k c:Nat}{l:Rows}{i:Nat}{acc:List ba}(h:og k l i acc)(aC:∀m,fw m l<=c)(ae:c*(2*k+2)<=900000){t:ba}(au:t∈acc):dp 900000 t.2:=
 (h.2.2.1 t au).2.mono (by
   have U:=aoS (aaJ t.1 l i) (aC t.1);have aa:=aoP (k+1) U;have e:c*(2*k+2)=2*(c*(k+1)):=by rw[show 2*k+2=2*(k+1) by omega,apC]
   omega)
theorem Nj {l:Rows}{n:Nat}(h:n=l.length):(l.toArray.extract 0 n).toList=l:=by
 subst h;simp
theorem P1 {l:Rows}{i:Nat}(h:i<l.length):l.toArray[i]! =l.getD i []:=by
 simp[aoA,h]
theorem aex {a b:Row}:bk a b=decide (jr (dq a) (dq b)):=by
 unfold bk gH jr;rcases OP (dq a) (dq b)with e|e|e<;>rw[e]<;>decide
theorem OS {p acc:List ba}{x o:Rows}(dc:∀t∈acc,t.1.length=8)(aC:∀m,c2 acc m=c2 p m)(a8:(acc.map Prod.fst).Nodup)
 (ai:x=br (acc.filter fun t=> !decide (t.2=0))) (ay:lD x 0 (x.length:Int) o):o=br (nrm p):=by
 obtain⟨⟨_,U,_,az⟩,aW⟩:=ay;have hlen:o.length=x.length:=by simpa using U
 simp only[aoB]at az aW;rw[show(0:Int).toNat=0 from rfl,Nj hlen.symm,Nj rfl]at az
 have lH:∀r∈o,∃t:ba,r=hS t/\t.1.length=8:=fun r an=>by
  have:=az.mem_iff.1 an;rw[ai,br]at this;obtain⟨t,au,rfl⟩:=aoQ.1 this;exact⟨t,rfl,dc t (apn.1 au).1⟩
 rw[<-QQ lH]
 congr 1
 refine YZ aC a8 ?_ ?_
 ·have:=az.map aM;rw[ai,fb fun t au=>dc t (apn.1 au).1]at this;exact this
 ·rw[List.pairwise_map,List.pairwise_iff_getElem];intro i j hi aI vb;have:=aW i j (by simp) vb (by omega);rw[P1 aI,P1 hi,aex]at this;have bh:=aoN this;rw[aoA,aoA,aoM hi,aoM aI]at bh;exact bh
theorem og.end {k:Nat}{l:Rows}{acc:List ba}(h:og k l l.length acc):∀m,c2 acc m=c2 (l.map aM) m:=fun m=>by
 rw[h.1,apG,NV,c2,aqh]
theorem VR (l:Rows)(K:J->Prop)(h:so.T [.d (.ar 11 l)] K):LG l K:=by
 obtain⟨⟨k,c,iN,bs,jM,xH,An,ax⟩,ae⟩:=h;unfold LG ah aO List.aG List.eV List.eb List.ec
 refine⟨by omega,by omega,by omega,fun v aq bz=>∃(i:Nat) (acc:List ba),v=i/\i<=l.length/\og k l i acc/\aq=kT 0 acc/\bz=br acc,fun v _ _=>l.length-v.toNat,
  ⟨0,[],rfl,by omega,⟨rfl, .nil,by simp,by simp⟩,rfl,rfl⟩, ?_⟩
 rintro _ _ _ ⟨i,acc,rfl,U,fs,rfl,rfl⟩
 have dc:∀t∈acc,t.1.length=8:=fun t au=>(fs.2.2.1 t au).1.1
 have hb:=fs.2.2.2;simp only[ao1,aoC,aoB];refine⟨fun aW=> ?_,fun aW=> ?_⟩
 ·have hi:i<l.length:=by omega
  obtain⟨m,s,a,b,e,hm,hU,aR,ag⟩:=(bs _ (jR hi)).bP;simp only[e,jT hm,n3 hm,nS,jj hm,jk hm,jh hm];have F0:IntKind.wrap .i64 ((i:Int)+1)=((i+1:Nat):Int):=dX (by omega) (by omega);rw[F0];have rY:l4 m:=⟨hm,hU⟩
  by_cases ai:∃u∈acc,u.1=m
  ·obtain⟨u,hu,mB⟩:=ai;obtain⟨j,aI,rfl⟩:=aqu hu;have hB:acc[j]? =some acc[j]:=aoM aI;have m1:=PY 0 acc j _ hB;obtain⟨q1,cE,_⟩:=v8 (z:=[R.int IntKind.i64 0]) (by rw[OR 0 acc dc];exact fs.2.1) m1 (by rw[BB (dc _ hu)]);rw[mB]at q1 cE;rw[q1,cE,PZ hm];have tG:R.toInt (List.getD [R.int .i64 ((0+j:Nat):Int)] 0 .undef)=(j:Int):=by rw[ao8];rfl
   rw[tG];have gd:=fs.AT jM xH hu;simp only[aoB,P0 hB,yJ,mB,jj hm,jk hm,jh hm,fI];have cF:=fs.at hi e rY aR ag iN hB mB;refine⟨by omega,by omega,trivial,trivial,pW hU,rfl,fun _=>⟨by omega,by omega,trivial,rfl,rfl,trivial,rfl,rfl,⟨gd.num.mono (by decide),gd.den.mono (by decide),aR.mono (by omega),ag.mono (by omega)⟩, ?_⟩,fun h=>by cases h⟩;simp only[R.toBool,R.b2,lp];rintro _ rfl _ rfl _ rfl;rw[wQ hm];refine⟨by omega,by omega,⟨i+1,_,rfl,by omega,cF, ?_, ?_⟩,by omega⟩
   ·refine NZ 0 _ _ ?_
    have qv:(acc.map Prod.fst).set j acc[j].1=acc.map Prod.fst:=by
     have h:= @List.set_getElem_self _ (acc.map Prod.fst) j (by simpa using aI);simpa using h
    rw[aqn,<-mB];exact qv.symm
   ·rw[br,br,aqn];rfl
  ·have av:∀u∈acc,u.1≠m:=fun u hu e=>ai ⟨u,hu,e⟩
   obtain⟨q1,cE,cS⟩:=x0 (n:=8) (z:=[R.int IntKind.i64 0]) (k:=m) (l:=kT 0 acc) fun r an=>by
    obtain⟨t,au,j,rfl⟩:=acm an;rw[BB (dc t au)];exact av t au
   rw[q1,cE];have jl:=fs.none hi e rY aR ag iN av;refine⟨by omega,by omega,trivial,trivial,pW hU,rfl,(fun h=>by cases h),fun _=>⟨trivial,pW hU,trivial,trivial,rfl,rfl,⟨aR.cI (by omega),ag.cI (by omega)⟩, ?_⟩⟩;simp only[R.toBool,R.b2];rintro _ rfl _ rfl _ rfl;rw[cS _ _ (nS m),fI];refine⟨by rw[apL];omega,⟨i+1,_,rfl,by omega,jl, ?_, ?_⟩,by omega⟩
   ·rw[PX,ao8]
   ·rw[br,br,apd];rfl
 ·have hi:i=l.length:=by omega
  subst hi
  have j3:∀r∈br acc,fg 1000000 r:=fun r an=>by
   obtain⟨t,au,rfl⟩:=aoQ.1 an;exact QP (fs.2.2.1 t au).1 ((fs.AT jM xH au).mono (by decide))
  refine⟨⟨j3,by rw[fI];omega⟩, ?_⟩;intro x ai;rw[Ni dc]at ai
  have ajP:∀r∈x,fg 1000000 r:=fun r an=>by
   rw[ai]at an;obtain⟨t,au,rfl⟩:=aoQ.1 an;exact j3 _ (aqQ (apn.1 au).1)
  refine⟨⟨fun r an=>(ajP r an).row, ?_⟩,fun o aF=> ?_⟩
  ·rw[ai,fI];have:=aqi (fun t:ba=> !decide (t.2=0)) acc;omega
  ·rw[OS dc fs.end fs.2.1 ai aF];exact ae
theorem Cg {t:ba}(h:t.1.length=8):jf 8 (hS t)=t.1:=BB h _
theorem OT {t:ba}(h:t.1.length=8):(hS t).drop 8=[.bool (cl t.2), .ad .u32 (cj t.2), .ad .u32 (ca t.2)]:=PZ h _
theorem OU {p:List ba}(h:∀t∈p,t.1.length=8):(br p).map (jf 8)=p.map Prod.fst:=by
 rw[br,ap0];exact aqD fun t au=>Cg (h t au)
theorem aey:bb false [] []=0:=HH rfl
theorem qY (p q:List ba):br (p++q)=br p++br q:=apd
theorem Vz (l:Rows)(K:J->Prop)(h:so.T [.d (.ar 11 l)] K):Ls l K:=by
 obtain⟨⟨k,c,iN,bs,jM,xH,An,ax⟩,ae⟩:=h;unfold Ls ah aO List.aG List.eV List.eb List.ec
 refine⟨fun v aq bz=>∃(i:Nat) (acc:List ba),v=i/\i<=l.length/\og k l i acc/\aq=br acc/\bz=acc.map (fun t=>dZ t.1),fun v _ _=>l.length-v.toNat,
  ⟨0,[],rfl,by omega,⟨rfl, .nil,by simp,by simp⟩,rfl,rfl⟩, ?_⟩
 rintro _ _ _ ⟨i,acc,rfl,U,fs,rfl,rfl⟩
 have dc:∀t∈acc,t.1.length=8:=fun t au=>(fs.2.2.1 t au).1.1
 have hb:=fs.2.2.2;simp only[ao1,aoC,aoB];refine⟨fun aW=> ?_,fun aW=> ?_⟩
 ·have hi:i<l.length:=by omega
  obtain⟨m,s,a,b,e,hm,hU,aR,ag⟩:=(bs _ (jR hi)).bP;simp only[e,jT hm,n3 hm,nS];have F0:IntKind.wrap .i64 ((i:Int)+1)=((i+1:Nat):Int):=dX (by omega) (by omega);rw[F0];have rY:l4 m:=⟨hm,hU⟩
  have bq:(∃(j:Nat) (u:ba),acc[j]? =some u/\u.1=m/\du 8 [.bool false, .ad .u32 [], .ad .u32 []] (br acc) m=[.bool (cl u.2), .ad .u32 (cj u.2), .ad .u32 (ca u.2)]/\mR 8 (br acc) m=true/\
   ∀v,mb 8 (dZ m) v (br acc)=(br acc).set j (dZ m++v))\/
   ((∀u∈acc,u.1≠m)/\du 8 [.bool false, .ad .u32 [], .ad .u32 []] (br acc) m=[.bool false, .ad .u32 [], .ad .u32 []]/\mR 8 (br acc) m=false/\
     ∀v,mb 8 (dZ m) v (br acc)=br acc++[dZ m++v]):=by
   by_cases ai:∃u∈acc,u.1=m
   ·obtain⟨u,hu,mB⟩:=ai;obtain⟨j,aI,rfl⟩:=aqu hu;have hB:acc[j]? =some acc[j]:=aoM aI;have m1:(br acc)[j]? =some (hS acc[j]):=by rw[br,apu,hB];rfl
    obtain⟨q1,cE,cS⟩:=v8 (z:=[R.bool false, .ad .u32 [], .ad .u32 []]) (by rw[OU dc];exact fs.2.1) m1 (by rw[Cg (dc _ hu)]);rw[mB]at q1 cE cS;rw[OT (dc _ hu)]at q1;exact .inl ⟨j,_,hB,mB,q1,cE,fun v=>cS _ _ (nS m)⟩
   ·have av:∀u∈acc,u.1≠m:=fun u hu e=>ai ⟨u,hu,e⟩
    obtain⟨q1,cE,cS⟩:=x0 (n:=8) (z:=[R.bool false, .ad .u32 [], .ad .u32 []]) (k:=m) (l:=br acc) fun r an=>by
     obtain⟨t,au,rfl⟩:=aoQ.1 an;rw[Cg (dc t au)];exact av t au
    exact .inr ⟨av,q1,cE,fun v=>cS _ _ (nS m)⟩
  refine⟨by omega,by omega,trivial,fun aq bz bl=>aq=br acc/\bl=[et m s a b]/\((∃u∈acc,u.1=m)/\bz=acc.map (fun t=>dZ t.1)\/(∀u∈acc,u.1≠m)/\bz=acc.map (fun t=>dZ t.1)++[dZ m]),⟨trivial,pW hU, ?_⟩, ?_⟩
  ·rcases bq with⟨j,u,aI,mB,q1,cE,cS⟩|⟨av,q1,cE,cS⟩
   ·rw[q1,cE];exact⟨trivial,rfl,rfl,(fun h=>by cases h),fun _=>⟨rfl,rfl, .inl ⟨⟨u,ap2 aI,mB⟩,rfl⟩⟩⟩
   ·rw[q1,cE];refine⟨trivial,rfl,rfl,fun _=>⟨trivial, ?_,rfl,rfl, .inr ⟨av,rfl⟩⟩,(fun h=>by cases h)⟩;rw[apL,aoF];omega
  ·rintro _ bz _ ⟨rfl,rfl,aF⟩;have hG:List.getD [et m s a b] 0 []=et m s a b:=rfl;simp only[hG,jT hm,n3 hm,nS,jj hm,jk hm,jh hm];rcases bq with⟨j,u,aI,mB,q1,cE,cS⟩|⟨av,q1,cE,cS⟩
   ·rw[q1];rcases aF with⟨_,rfl⟩|⟨jl,_⟩;rotate_left
    ·exact absurd mB (jl u (ap2 aI))
    have gd:=fs.AT jM xH (ap2 aI);have cF:=fs.at hi e rY aR ag iN aI mB;refine⟨trivial,trivial,pW hU,trivial,rfl,rfl,trivial,rfl,rfl,⟨gd.num.mono (by decide),gd.den.mono (by decide),aR.mono (by omega),ag.mono (by omega)⟩, ?_⟩
    have nN:∀(x y z:R),[x,y,z].getD 0 .undef=x/\[x,y,z].getD 1 .undef=y/\[x,y,z].getD 2 .undef=z:=fun _ _ _=>⟨rfl,rfl,rfl⟩
    simp only[(nN _ _ _).1,(nN _ _ _).2.1,(nN _ _ _).2.2,R.toBool,R.b2,lp];rintro _ rfl _ rfl _ rfl;rw[cS];refine⟨pW hU,⟨i+1,_,rfl,by omega,cF, ?_, ?_⟩,by omega⟩
    ·rw[br,br,aqn];rfl
    ·have iH:j<acc.length:=(apr.1 aI).1
     have qv:(acc.map fun t=>dZ t.1).set j (dZ m)=acc.map fun t=>dZ t.1:=by
      have h:= @List.set_getElem_self _ (acc.map fun t=>dZ t.1) j (by simpa using iH);rw[List.getElem_map]at h
      have aL:acc[j]=u:=by
       rw[aoM iH]at aI;exact aoK aI
      rw[aL,mB]at h;exact h
     rw[aqn];exact qv.symm
   ·rw[q1];rcases aF with⟨⟨u,hu,mB⟩,_⟩|⟨_,rfl⟩
    ·exact absurd mB (av u hu)
    have jl:=fs.none hi e rY aR ag iN av;refine⟨trivial,trivial,pW hU,trivial,rfl,rfl,trivial,rfl,rfl,⟨⟨.nil,apS _⟩,⟨.nil,apS _⟩,aR.mono (by omega),ag.mono (by omega)⟩, ?_⟩
    have nN:∀(x y z:R),[x,y,z].getD 0 .undef=x/\[x,y,z].getD 1 .undef=y/\[x,y,z].getD 2 .undef=z:=fun _ _ _=>⟨rfl,rfl,rfl⟩
    simp only[(nN _ _ _).1,(nN _ _ _).2.1,(nN _ _ _).2.2,R.toBool,R.b2,aey,aqh];rintro _ rfl _ rfl _ rfl;rw[cS];refine⟨pW hU,⟨i+1,_,rfl,by omega,jl, ?_, ?_⟩,by omega⟩
    ·rw[qY];rfl
    ·rw[apd];rfl
 ·have hi:i=l.length:=by omega
  subst hi
  have j3:∀t∈acc,fg 1000000 (hS t):=fun t au=>QP (fs.2.2.1 t au).1 ((fs.AT jM xH au).mono (by decide))
  refine⟨fun v aq bz bl=>∃j:Nat,v=j/\j<=acc.length/\aq=br acc/\bz=acc.map (fun t=>dZ t.1)/\bl=br ((acc.take j).filter fun t=> !decide (t.2=0)),fun v _ _ _=>acc.length-v.toNat,
   ⟨0,rfl,by omega,rfl,rfl,rfl⟩, ?_⟩
  rintro _ _ _ _ ⟨j,rfl,aI,rfl,rfl,rfl⟩;simp only[ao1,aoC,aoB,aoF];refine⟨fun bA=> ?_,fun bA=> ?_⟩
  ·have TN:j<acc.length:=by omega
   have hB:acc[j]? =some acc[j]:=aoM TN;have hu:acc[j]∈acc:=apF TN;have rY:=(fs.2.2.1 _ hu).1;have ay:=fs.AT jM xH hu
   have nN:List.getD (acc.map fun t=>dZ t.1) j []=dZ acc[j].1:=by
    rw[aoA,apu,hB];rfl
   have m1:(br acc)[j]? =some (hS acc[j]):=by rw[br,apu,hB];rfl
   obtain⟨q1,cE,cS⟩:=v8 (z:=[R.bool false, .ad .u32 [], .ad .u32 []]) (by rw[OU dc];exact fs.2.1) m1 (by rw[Cg (dc _ hu)]);rw[OT (dc _ hu)]at q1;have dz:IntKind.wrap .i64 ((j:Int)+1)=((j+1:Nat):Int):=dX (by omega) (by omega)
   have xN:(acc.take (j+1)).filter (fun t=> !decide (t.2=0))=(acc.take j).filter (fun t=> !decide (t.2=0))++(if acc[j].2=0 then[]else[acc[j]]):=by
    rw[aqP,aqq,hB,Option.toList_some]
    by_cases bc:acc[j].2=0<;>simp[bc]
   have J0:∀(x y z:R),[x,y,z].getD 0 .undef=x/\[x,y,z].getD 1 .undef=y/\[x,y,z].getD 2 .undef=z:=fun _ _ _=>⟨rfl,rfl,rfl⟩
   simp only[nN,nS,q1,kb,rY.1,dz,(J0 _ _ _).1,(J0 _ _ _).2.1,(J0 _ _ _).2.2,R.toBool,R.b2,lp];refine⟨by omega,bA,trivial,trivial,pW rY.2,trivial,rfl,rfl,⟨ay.num.cI (by decide),ay.den.cI (by decide)⟩, ?_⟩;rintro _ rfl
   have hlen:(br ((acc.take j).filter fun t=> !decide (t.2=0))).length<=1000000000:=by
    rw[fI];have:=aqi (fun t:ba=> !decide (t.2=0)) (acc.take j);rw[ao3]at this;omega
   refine⟨fun bZ=>⟨trivial,trivial,pW rY.2,trivial,rfl,rfl, ?_,⟨j+1,rfl,by omega,trivial,trivial, ?_⟩,by omega⟩,fun bZ=>⟨⟨j+1,rfl,by omega,trivial,trivial, ?_⟩,by omega⟩⟩
   ·rw[apL];omega
   ·have bc:acc[j].2≠0:=by simpa[sq]using bZ
    rw[xN,aox bc,qY];rfl
   ·have bc:acc[j].2=0:=by simpa[sq]using bZ
    rw[xN,aoy bc,aqa]
  ·have aI:j=acc.length:=by omega
   subst aI;rw[apG];refine⟨⟨fun r an=> ?_, ?_⟩,fun o aF=> ?_⟩
   ·obtain⟨t,au,rfl⟩:=aoQ.1 an;exact(j3 t (apn.1 au).1).row
   ·rw[fI];have:=aqi (fun t:ba=> !decide (t.2=0)) acc;omega
   ·rw[OS dc fs.end fs.2.1 rfl aF];exact ae
end ab
end
section
namespace ab
open Go Go.al
def df:List Int:=[0,0,0,0,0,0,0,0]
def gF (k:Nat)(r:Row):Prop:=∃(m:List Int) (s:Bool) (a b:List Int),r=et m s a b/\m.length=8/\bO k a/\bO k b
def dA (k:Nat)(p:List ba):Prop:=∀t∈p,dp k t.2
def Raw (K n:Nat)(l:Rows):Prop:=∃k c:Nat,1<=k/\(∀r∈l,gF k r)/\(∀m,fw m l<=c)/\c*(k+1)<=K/\k<=K/\l.length<=n
def de (e:Int)(p:List ba):Prop:=∀t∈p,t.1.length=8/\∀x∈t.1,0<=x/\x<=e
def jq (v:Nat):Int->List ba->Int
 |d,[]=>d
 |d,t::p=>jq v (if t.1.getD v 0>d then t.1.getD v 0 else d) p
def fG (p:List ba)(v:Nat):Int:=jq v (-1) p
def jE:Int->List ba->Int
 |d,[]=>d
 |d,t::p=>jE (if lJ (t.1.getD 0 0) (t.1.drop 1)>d then lJ (t.1.getD 0 0) (t.1.drop 1)else d) p
def tw (m:List Int):Bool:=m.all fun x=>decide (0<=x)&&decide (x<=1024)
def hK (l:Rows):Bool:=l.all fun r=>tw (dq r)
def u0 (v:Nat)(p:List ba):List ba:=(p.filter fun t=>decide (0<t.1.getD v 0)).map fun t=>(t.1.set v (t.1.getD v 0-1),t.2*((t.1.getD v 0:Int):Rat))
def ow (n:Int)(p q:List ba)(v:Nat):Bool:=decide (1024<n*max (fG p v) 0+max (fG q v) 0)
def hi (n:Int)(p q:List ba):Bool:=ow n p q 0||ow n p q 1||ow n p q 2||ow n p q 3||ow n p q 4||ow n p q 5||ow n p q 6||ow n p q 7
def eT (p q:Rows):Bool:=hK p&&hK q
def cI (l:Rows):Prop:=c7 l/\l.length<1000000000
def DC.T:=bg fun|[.agg [.d (.bool s), .d (.ad .u32 a), .d (.ad .u32 b)]]=>some (bO 400000 a/\bO 400000 b, .d (.ar 11 (br (nrm [(df,bb s a b)]))))|_=>none
def anD.T:=bg fun|[.d (.int .i64 n)]=>some (i64 n, .d (.ar 11 (br (nrm [(df,(n:Rat))]))))|_=>none
def D9.T:=bg fun|[.d (.ar ak p), .d (.ar gV q)]=>(match Nat.beq ak 11,Nat.beq gV 11 with|true,true=>some (iZ (p++q), .d (.ar 11 (br (nrm (p.map aM++q.map aM)))))|_,_=>none)|_=>none
def CQ.T:=bg fun
 |[.d (.ar ak p), .agg [.d (.bool s), .d (.ad .u32 a), .d (.ad .u32 b)]]=>(match Nat.beq ak 11 with
  |true=>some (∃k c j,1<=k/\1<=j/\(∀r∈p,fg k r)/\(∀m,fw m p<=c)/\bO j a/\bO j b/\c*(2*(k+j)+2)<=900000/\k+j<=900000/\p.length<=1000000000, .d (.ar 11 (br (nrm (eN (bb s a b) (p.map aM))))))
  |false=>none)
 |_=>none
def D_.T:=bg fun|[.d (.ar ak p)]=>(match Nat.beq ak 11 with|true=>some (∃k c,1<=k/\(∀r∈p,fg k r)/\(∀m,fw m p<=c)/\c*(2*(k+1)+2)<=900000/\k+1<=900000/\p.length<=1000000000, .d (.ar 11 (br (nrm (eN (-1) (p.map aM))))))|false=>none)|_=>none
def Ea.T:=bg fun
 |[.d (.ar ak p), .d (.ar gV q)]=>(match Nat.beq ak 11,Nat.beq gV 11 with
  |true,true=>some (∃k c j d,1<=k/\1<=j/\(∀r∈p,fg k r)/\(∀r∈q,fg j r)/\(∀m,fw m p<=c)/\(∀m,fw m q<=d)/\1<=d/\(c+1)*(2*(k+d*(j+2))+2)<=900000/\p.length+q.length<=1000000000, .d (.ar 11 (br (nrm (p.map aM++eN (-1) (q.map aM))))))
  |_,_=>none)
 |_=>none
def xd (p q:Rows):Prop:=(∀r∈p,de 2000000000000000000 [aM r]/\eP r)/\(∀r∈q,de 2000000000000000000 [aM r]/\eP r)/\
 ∃k j c,1<=k/\1<=j/\(∀r∈p,gF k r)/\(∀r∈q,gF j r)/\(p.length<=c/\(∀m,fw m q<=1)\/q.length<=c/\∀m,fw m p<=1)/\c*(2*(k+j)+2)<=900000/\k+j<=900000/\
  p.length*q.length<=1000000000/\p.length<=1000000000/\q.length<=1000000000
def Eb.T:=bg fun
 |[.d (.ar ak p), .d (.ar gV q)]=>(match Nat.beq ak 11,Nat.beq gV 11 with
  |true,true=>some (xd p q, .d (.ar 11 (br (nrm (da (p.map aM) (q.map aM))))))
  |_,_=>none)
 |_=>none
def Ec.T:=bg fun|[.d (.ar ak p), .d (.int .i64 v)]=>(match Nat.beq ak 11 with|true=>some (cI p/\0<=v/\v<8, .d (.int .i64 (fG (p.map aM) v.toNat)))|false=>none)|_=>none
def Ed.T:=bg fun|[.d (.ar ak p)]=>(match Nat.beq ak 11 with|true=>some (cI p, .d (.int .i64 (jE 0 (p.map aM))))|false=>none)|_=>none
def anE.T:=bg fun
 |[.d (.ar ak p), .d (.int .i64 v)]=>(match Nat.beq ak 11 with
  |true=>some ((0<=v/\v<8)/\de 1000000000 (p.map aM)/\∃k c,1<=k/\(∀r∈p,fg k r)/\(∀m,fw m p<=c)/\c*(2*(k+1)+2)<=900000/\k+1<=900000/\p.length<=1000000000, .d (.ar 11 (br (nrm (u0 v.toNat (p.map aM))))))
  |false=>none)
 |_=>none
def wR.T:=bg fun|[.d (.ar ak p)]=>(match Nat.beq ak 11 with|true=>some (cI p, .d (.bool (hK p)))|false=>none)|_=>none
def Ch.T:=bg fun|[.d (.ar ak p)]=>(match Nat.beq ak 11 with|true=>some (cI p, .tup [.d (.ar 11 (if jE 0 (p.map aM)>1024 then[]else p)), .d (.int .i64 (if jE 0 (p.map aM)>1024 then 9 else 0))])|false=>none)|_=>none
def ant.T:=bg fun|[.d (.ar ak p)]=>(match Nat.beq ak 11 with|true=>some (cI p/\Raw 400000 1000000000 p, .tup [.d (.ar 11 (br (if hK p then nrm (p.map aM)else[]))), .d (.int .i64 (if hK p then 0 else 2))])|false=>none)|_=>none
def kk:Rat:=1
def Ee.T:=bg fun|[.d (.int .i64 v)]=>some (True, .tup [.d (.ar 11 (br (if 0<=v/\v<8 then[(df.set v.toNat 1,kk)]else[]))), .d (.int .i64 (if 0<=v/\v<8 then 0 else 1))])|_=>none
def o4 (p q:Rows):Prop:=(cI p/\cI q)/\∃K bm n m,Raw K n p/\Raw bm m q/\4*(K+bm)+20<=900000/\n+m<=999999999
def Ef.T:=bg fun
 |[.d (.ar ak p), .d (.ar gV q)]=>(match Nat.beq ak 11,Nat.beq gV 11 with
  |true,true=>some (o4 p q, .tup [.d (.ar 11 (br (if eT p q=true then nrm (p.map aM++q.map aM)else[]))), .d (.int .i64 (if eT p q=true then 0 else 2))])
  |_,_=>none)
 |_=>none
def Eg.T:=bg fun
 |[.d (.ar ak p), .d (.ar gV q)]=>(match Nat.beq ak 11,Nat.beq gV 11 with
  |true,true=>some (o4 p q, .tup [.d (.ar 11 (br (if eT p q=true then nrm (p.map aM++eN (-1) (q.map aM))else[]))), .d (.int .i64 (if eT p q=true then 0 else 2))])
  |_,_=>none)
 |_=>none
def zc.T (g:Nat):=bg fun
 |[.d (.ar ak p), .d (.ar gV q), .fn f]=>(match Nat.beq ak 11,Nat.beq gV 11,Nat.beq f g with
  |true,true,true=>some (o4 p q, .tup [.d (.ar 11 (br (if eT p q=true then nrm (p.map aM++q.map aM)else[]))), .d (.int .i64 (if eT p q=true then 0 else 2))])
  |_,_,_=>none)
 |_=>none
def zd.T (g:Nat):=bg fun
 |[.d (.ar ak p), .d (.ar gV q), .fn f]=>(match Nat.beq ak 11,Nat.beq gV 11,Nat.beq f g with
  |true,true,true=>some (o4 p q, .tup [.d (.ar 11 (br (if eT p q=true then nrm (p.map aM++eN (-1) (q.map aM))else[]))), .d (.int .i64 (if eT p q=true then 0 else 2))])
  |_,_,_=>none)
 |_=>none
def xe (l:Rows):Prop:=∀r∈l,∀x∈dq r,-1000000000000<=x/\x<=1000000000000
def Eh.T:=bg fun
 |[.d (.ar ak p), .d (.int .i64 n), .d (.ar gV q)]=>(match Nat.beq ak 11,Nat.beq gV 11 with
  |true,true=>some ((cI p/\cI q)/\(xe p/\xe q)/\0<=n/\n<=1000, .d (.bool (hi n (p.map aM) (q.map aM))))
  |_,_=>none)
 |_=>none
def na (p q:List ba):Bool:= !decide (p=[])&& !decide (q=[])&&hi 1 p q
def Ei (p q:Rows):Prop:=(cI p/\cI q)/\∃K bm n m,Raw K n p/\Raw bm m q/\(n*(2*(K+bm)+2)<=900000\/m*(2*(K+bm)+2)<=900000)/\n*m<=999999999/\K<=400000/\bm<=400000
def rB (p q:Rows):Bool:=eT p q&& !na (nrm (p.map aM)) (nrm (q.map aM))
def Ej.T:=bg fun
 |[.d (.ar ak p), .d (.ar gV q)]=>(match Nat.beq ak 11,Nat.beq gV 11 with
  |true,true=>some (Ei p q, .tup [.d (.ar 11 (br (if rB p q=true then nrm (da (p.map aM) (q.map aM))else[]))), .d (.int .i64 (if eT p q=true then(if na (nrm (p.map aM)) (nrm (q.map aM))then 9 else 0)else 2))])
  |_,_=>none)
 |_=>none
def gI (p:Rows)(v:Int):Int:=if hK p then(if 0<=v/\v<8 then 0 else 1)else 2
def DD.T:=bg fun
 |[.d (.ar ak p), .d (.int .i64 v)]=>(match Nat.beq ak 11 with
  |true=>some (cI p/\Raw 400000 1000000000 p, .tup [.d (.ar 11 (br (if gI p v=0 then nrm (p.map aM)else[]))), .d (.int .i64 (gI p v))])
  |false=>none)
 |_=>none
def Ek.T:=bg fun
 |[.d (.ar ak p), .d (.int .i64 v)]=>(match Nat.beq ak 11 with
  |true=>some (cI p/\Raw 400000 1000000000 p, .tup [.d (.int .i64 (if gI p v=0 then fG (nrm (p.map aM)) v.toNat else 0)), .d (.int .i64 (gI p v))])
  |false=>none)
 |_=>none
def anF.T:=bg fun
 |[.d (.ar ak p), .d (.int .i64 v)]=>(match Nat.beq ak 11 with
  |true=>some (cI p/\Raw 400000 1000000000 p, .tup [.d (.ar 11 (br (if gI p v=0 then nrm (u0 v.toNat (p.map aM))else[]))), .d (.int .i64 (gI p v))])
  |false=>none)
 |_=>none
def iq (r:Row):List Int×Bool×List Int×List Int:=(dq r,(r.getD 8 .undef).toBool,(r.getD 9 .undef).b2,(r.getD 10 .undef).b2)
def DE.T:=bg fun
 |[.d (.ar ak p), .d (.ar gV q)]=>(match Nat.beq ak 11,Nat.beq gV 11 with
  |true,true=>some ((∀r∈p,gF 1000000 r)/\(∀r∈q,gF 1000000 r)/\p.length<1000000000/\q.length<1000000000, .d (.bool (decide (p.map iq=q.map iq))))
  |_,_=>none)
 |_=>none
end ab
end
section
namespace ab
open Go Go.al
abbrev gK:Row:=[.int .i64 2, .int .i64 0, .int .i64 0, .int .i64 0, .int .i64 0, .int .i64 0, .int .i64 0, .int .i64 0, .bool false, .ad .u32 [1], .ad .u32 [1]]
abbrev gL:Row:=[.int .i64 0, .int .i64 2, .int .i64 0, .int .i64 0, .int .i64 0, .int .i64 0, .int .i64 0, .int .i64 0, .bool true, .ad .u32 [1], .ad .u32 [1]]
abbrev qi:Rows:=[gK,gL]
abbrev zD:Rows:=[[.str [112]],[.str [113]]]
def yK.T:=bg fun|[.d (.ar ak p)]=>(match Nat.beq ak 11 with|true=>some (p=qi, .d (.bool true))|false=>none)|_=>none
def yA.T:=bg fun|[.d (.ar ak p)]=>(match Nat.beq ak 11 with|true=>some (p=qi, .d (.ar 11 qi))|false=>none)|_=>none
def y0.T:=bg fun|[.agg [.d (.bool s), .d (.ad .u32 a), .d (.ad .u32 b)]]=>some (a=[1]/\b=[1], .d (.int .i64 (match s with|true=>-1|false=>1)))|_=>none
def ze.T:=bg fun|[.d (.int .i64 n)]=>some (n=1, .agg [.d (.bool false), .d (.ad .u32 [1]), .d (.ad .u32 [1])])|_=>none
def yL.T:=bg fun|[.agg [.d (.bool s), .d (.ad .u32 a), .d (.ad .u32 b)], .agg [.d (.bool t), .d (.ad .u32 c), .d (.ad .u32 d)]]=>some ((s=false/\t=false)/\a=[1]/\b=[1]/\c=[1]/\d=[1], .d (.bool true))|_=>none
def rh.T:=bg fun|[.d (.int .i64 n)]=>some (n=2, .d (.str [50]))|_=>none
def yB.T:=bg fun|[.d (.int .i64 n), .d (.int .i64 b)]=>some (n=2/\b=10, .d (.str [50]))|_=>none
def y1.T:=bg fun|[.d (.ar ak l), .d (.str AM)]=>(match Nat.beq ak 1,l with|true,[[.str x]]=>some (True, .d (.str x))|_,_=>none)|_=>none
def yC.T:=bg fun
 |[.d (.ar ak p), .d (.ar gV n)]=>(match Nat.beq ak 11,Nat.beq gV 1 with
  |true,true=>some (p=qi/\n=zD, .tup [.d (.str [112,94,50,32,45,32,113,94,50]), .d (.int .i64 0)])
  |_,_=>none)
 |_=>none
end ab
end
section
namespace ab
open Go Go.al
def xW:List Int:=[0,0,1,1,2]
def mh (l:List Int)(a:Int):Nat->List Int×Int
 |0=>(df,a)
 |k+1=>((mh l a k).1.set k (mX l (mh l a k).2 xW),c0 l (mh l a k).2 5)
def oy (l:List Int)(a:Int):Bool:=decide (fr l (kR l a) 8=7)
def qw (l:List Int)(a:Int):Int:=if oy l a then wO l (c0 l (kR l a) 8)else c0 l (kR l a) 8
def zf (l:List Int)(a:Int)(v:Nat):Row:=
 et (mh l (qw l a) v).1 (if oy l a then wN l (c0 l (kR l a) 8)else cl (iG l a)) (if oy l a then sH l (c0 l (kR l a) 8)else cj (iG l a)) (if oy l a then sI l (c0 l (kR l a) 8)else ca (iG l a))
def TS (l:List Int)(a:Int)(v:Nat):Int:=(mh l (qw l a) v).2
def o0 (l:List Int)(a:Int)(v:Nat):Nat->Rows×Int
 |0=>([],a)
 |k+1=>((o0 l a v k).1++[zf l (o0 l a v k).2 v],TS l (o0 l a v k).2 v)
def oa (l:List Int)(a:Int)(v n:Int):Rows×Int:=o0 l (c0 l a (n+1)) v.toNat (fr l a (n+1)).toNat
def CR.T:=fm fun
 | .ptr z o, .cells [.d (.ad .i64 l), .d (.int .i64 a), .d (.int .i64 s)],[.d (.int .i64 v), .d (.int .i64 n)]=>(match Nat.beq z 0,Nat.beq o 0 with
  |true,true=>some (dQ l a/\(0<=v/\v<=8)/\0<=n/\n<=1000, .cells [.d (.ad .i64 l), .d (.int .i64 (oa l a v n).2), .d (.int .i64 s)], .d (.ar 11 (oa l a v n).1))
  |_,_=>none)
 |_,_,_=>none
end ab
end
section
open Go Go.al
namespace ab
theorem gF.mono {k j:Nat}{r:Row}(h:gF k r)(ae:k<=j):gF j r:=by
 obtain⟨m,s,a,b,rfl,hm,U,aa⟩:=h;exact⟨m,s,a,b,rfl,hm,U.mono ae,aa.mono ae⟩
theorem gF.row {k:Nat}{r:Row}(h:gF k r):eP r:=by
 obtain⟨m,s,a,b,rfl,hm,_⟩:=h
 match m,hm with
 |[oG,fT,fZ,hV,jG,jH,oH,r5],_=>exact⟨oG,fT,fZ,hV,jG,jH,oH,r5,s,a,b,rfl⟩
theorem gF.len {k:Nat}{r:Row}(h:gF k r):(aM r).1.length=8:=by
 obtain⟨m,s,a,b,rfl,hm,_⟩:=h;rw[kO hm];exact hm
theorem gF.TT {k:Nat}{r:Row}(h:gF k r)(hm:l4 (aM r).1):fg k r:=by
 obtain⟨m,s,a,b,rfl,dc,U,aa⟩:=h;rw[kO dc]at hm;exact⟨m,s,a,b,rfl,dc,hm.2,U,aa⟩
theorem fg.xI {k:Nat}{r:Row}(h:fg k r):gF k r:=by
 obtain⟨m,s,a,b,rfl,dc,_,U,aa⟩:=h;exact⟨m,s,a,b,rfl,dc,U,aa⟩
theorem fg.oK {k:Nat}{r:Row}(h:fg k r):l4 (aM r).1:=by
 obtain⟨m,s,a,b,rfl,dc,bc,U,aa⟩:=h;show l4 (aM (et m s a b)).1;rw[kO dc];exact⟨dc,bc⟩
theorem wJ:∀{p:List ba} {t:ba},t∈nrm p->∃u∈p,u.1=t.1
 |[],t,h=>by cases h
 |x::p,t,h=>by
  rcases H0 h with h|⟨v,aP,e⟩
  ·exact⟨x,by simp,h.symm⟩
  ·obtain⟨u,hu,aL⟩:=wJ aP;exact⟨u,by simp[hu],by rw[aL,e]⟩
theorem QR (t:ba):∀p:List ba,(ins t p).length<=p.length+1
 |[]=>by unfold ab.ins;split<;>simp
 |u::p=>by
  have bF:=QR t p;unfold ab.ins;split
  ·split
   ·rw[apq];omega
   ·rw[apq,apq];omega
  ·split
   ·split
    ·omega
    ·rw[apq];omega
   ·rw[apq,apq];omega
theorem sy:∀p:List ba,(nrm p).length<=p.length
 |[]=>aoE _
 |t::p=>by
  have:=QR t (nrm p);have:=sy p;rw[nrm,apq];omega
def ea (m:List Int):List ba->Nat
 |[]=>0
 |t::p=>(if t.1=m then 1 else 0)+ea m p
theorem sz (m:List Int):∀l:Rows,fw m l=ea m (l.map aM)
 |[]=>rfl
 |r::l=>by rw[fw,aoX,ea,sz m l];rfl
theorem wo (m:List Int):∀a b:List ba,ea m (a++b)=ea m a+ea m b
 |[],b=>by rw[List.nil_append,ea,ao8]
 |r::a,b=>by rw[apO,ea,ea,wo m a b,apy]
theorem Hn {m:List Int}:∀{p:List ba},(∀t∈p,t.1≠m)->ea m p=0
 |[],_=>rfl
 |t::p,h=>by rw[ea,aox (h t (by simp)),Hn fun u hu=>h u (by simp[hu])]
theorem yM (m:List Int):∀p:List ba,ea m p<=p.length
 |[]=>aoE _
 |t::p=>by have:=yM m p;rw[ea,apq];split<;>omega
theorem QS {m:List Int}:∀{p:List ba},p.Pairwise (fun t u=>t.1≠u.1)->ea m p<=1
 |[],_=>apS _
 |t::p,h=>by
  obtain⟨U,aa⟩:=aqv.1 h;rw[ea];split
  ·rename_i e;rw[Hn fun u hu=>e▸(U u hu).symm];exact aoE _
  ·have:=QS (m:=m) aa;omega
theorem hC.ku {p:List ba}(h:hC p)(m:List Int):ea m p<=1:=QS (h.1.imp fun g=>ID g)
theorem N1 {m:List Int}:∀{p q:List ba},p.map Prod.fst=q.map Prod.fst->ea m p=ea m q
 |[],[],_=>rfl
 |[],_::_,h=>by simp at h
 |_::_,[],h=>by simp at h
 |t::p,u::q,h=>by
  simp only[aoX,aqc]at h;rw[ea,ea,h.1,N1 h.2]
theorem BC (m:List Int)(c:Rat)(p:List ba):ea m (eN c p)=ea m p:=N1 (by rw[eN,ap0];rfl)
theorem RD {k:Nat}:∀{p:List ba},dA k p->∀t∈nrm p,dp (ea t.1 p*(k+1)) t.2
 |[],_,t,h=>by cases h
 |x::p,h,t,au=>by
  have bF:=RD (p:=p) fun u hu=>h u (by simp[hu]);have ai:=h x (by simp)
  have key:∀{q:List ba},(∀t∈q,dp (ea t.1 p*(k+1)) t.2)->∀t∈ins x q,dp (ea t.1 (x::p)*(k+1)) t.2:=by
   intro q
   have up:∀{u:ba},dp (ea u.1 p*(k+1)) u.2->dp (ea u.1 (x::p)*(k+1)) u.2:=fun{u} hu=>hu.mono (aoP _ (by rw[ea];omega))
   have I:dp (ea x.1 (x::p)*(k+1)) x.2:=ai.mono (by rw[ea,aoy rfl,aoT];omega)
   induction q with
   |nil=>
    intro _ t au;unfold ab.ins at au;split at au
    ·cases au
    ·rw[apo.1 au];exact I
   |cons u q Ga=>
    intro a_ t au;have hu:=a_ u (by simp)
    have pc:∀t∈q,dp (ea t.1 p*(k+1)) t.2:=fun t au=>a_ t (by simp[au])
    unfold ab.ins at au;split at au
    ·rename_i e;split at au
     ·exact up (pc t au)
     ·rcases ao7.1 au with rfl|au
      ·refine(hu.add ai).mono ?_;show _<=ea u.1 (x::p)*(k+1);rw[ea,aoy e,aoT,apM];omega
      ·exact up (pc t au)
    ·split at au
     ·split at au
      ·exact up (a_ t au)
      ·rcases ao7.1 au with rfl|au
       ·exact I
       ·exact up (a_ t au)
     ·rcases ao7.1 au with rfl|au
      ·exact up hu
      ·exact Ga pc t au
  exact key bF t au
theorem dA.mono {k j:Nat}{p:List ba}(h:dA k p)(ae:k<=j):dA j p:=fun t au=>(h t au).mono ae
theorem dA.app {k:Nat}{p q:List ba}(h:dA k p)(g:dA k q):dA k (p++q):=fun t au=>(apV.1 au).elim (h t) (g t)
theorem dA.nrm {k c:Nat}{p:List ba}(h:dA k p)(aC:∀m,ea m p<=c):dA (c*(k+1)) (nrm p):=fun t au=>(RD h t au).mono (aoP _ (aC _))
theorem dA.scale {k j:Nat}{c:Rat}(aC:dp j c)(aI:1<=j){p:List ba}(h:dA k p):dA (k+j) (eN c p):=fun t au=>by
 obtain⟨u,hu,rfl⟩:=aoQ.1 au;exact(h u hu).mul aC (by omega)
theorem dA.mul {k j:Nat}(ae:1<=k):∀{p q:List ba},dA k p->dA j q->dA (k+j) (da p q)
 |[],_,_,_=>fun t au=>by cases au
 |s::p,q,h,g=>fun t au=>by
  rcases apV.1 au with au|au
  ·obtain⟨u,hu,rfl⟩:=aoQ.1 au;exact(h s (by simp)).mul (g u hu) (by omega)
  ·exact dA.mul ae (fun u hu=>h u (by simp[hu])) g t au
theorem gF.rs {k:Nat}{r:Row}(h:gF k r)(ae:1<=k):dp k (aM r).2:=by
 obtain⟨m,s,a,b,rfl,hm,U,aa⟩:=h;rw[kO hm];exact dp.of U aa ae
theorem ux {k:Nat}{l:Rows}(h:∀r∈l,gF k r)(ae:1<=k):dA k (l.map aM):=fun t au=>by
 obtain⟨r,an,rfl⟩:=aoQ.1 au;exact(h r an).rs ae
theorem acq {k:Nat}{t:ba}(dc:t.1.length=8)(h:dp k t.2):gF k (hS t):=⟨_,_,_,_,rfl,dc,h.num,h.den⟩
theorem l9 {k:Nat}{p:List ba}(h:dA k p)(dc:∀t∈p,t.1.length=8):∀r∈br p,gF k r:=fun r an=>by
 obtain⟨t,au,rfl⟩:=aoQ.1 an;exact acq (dc t au) (h t au)
theorem oP {p:List ba}(dc:∀t∈p,t.1.length=8)(m:List Int):fw m (br p)=ea m p:=by rw[sz,fb dc]
theorem Raw.mono {K bm n m:Nat}{l:Rows}(h:Raw K n l)(gM:K<=bm)(av:n<=m):Raw bm m l:=by
 obtain⟨k,c,U,aa,az,aW,bA,bZ⟩:=h;exact⟨k,c,U,aa,az,by omega,by omega,by omega⟩
theorem Raw.ar {K n:Nat}{l:Rows}(h:Raw K n l):∀r∈l,gF K r:=fun r an=>by
 obtain⟨k,c,U,aa,az,aW,bA,bZ⟩:=h;exact(aa r an).mono bA
theorem Raw.len {K n:Nat}{l:Rows}(h:Raw K n l):l.length<=n:=by obtain⟨k,c,U,aa,az,aW,bA,bZ⟩:=h;exact bZ
theorem Raw.gn {K n:Nat}{l:Rows}(h:Raw K n l):dA K (nrm (l.map aM)):=by
 obtain⟨k,c,U,aa,az,aW,bA,bZ⟩:=h;exact((ux aa U).nrm fun m=>by rw[<-sz];exact az m).mono aW
theorem wq {p:List ba}{n:Nat}(h:p.length<=n):(nrm p).length<=n:=aoS (sy p) h
theorem Raw.m2 {K n:Nat}{l:Rows}(h:Raw K n l):(nrm (l.map aM)).length<=n:=wq (by rw[aoF];exact h.len)
theorem acr {k n:Nat}{p:List ba}(h:dA k p)(ae:1<=k)(dc:∀t∈p,t.1.length=8)(aC:∀m,ea m p<=1)(av:p.length<=n):Raw (k+1) n (br p):=
 ⟨k,1,ae,l9 h dc,fun m=>by rw[oP dc];exact aC m,by omega,by omega,by rw[fI];exact av⟩
theorem H5 {k n:Nat}{l:Rows}(h:∀r∈l,gF k r)(ae:1<=k)(av:l.length<=n)(U:1<=n):Raw (n*(k+1)) n l:=
 ⟨k,n,ae,h,fun m=>by rw[sz];exact aoS (yM m _) (by rw[aoF];exact av),aoE _,by have:=aoP (k+1) U;omega,av⟩
theorem X2 {c k:Nat}(K:Nat)(h:c*(k+1)<=K):c*(2*k+2)<=2*K:=by
 rw[show 2*k+2=2*(k+1) by omega,apC];omega
theorem P3:∀{a b c:List Int},b.length=a.length->c.length=a.length->gi a b=gi a c->b=c
 |[],[],[],_,_,_=>rfl
 |a::p,b::q,c::r,U,aa,h=>by
  simp only[gi,aqc]at h;rw[show b=c by omega,P3 (by simpa using U) (by simpa using aa) h.2]
 |[],_::_,_,h,_,_=>by simp at h
 |[],[],_::_,_,h,_=>by simp at h
 |_::_,[],_,h,_,_=>by simp at h
 |_::_,_::_,[],_,h,_=>by simp at h
theorem OW {s:ba}(ay:s.1.length=8)(m:List Int):∀{q:List ba},(∀t∈q,t.1.length=8)->(∀x,ea x q<=1)->ea m (gv s q)<=1:=fun{q} dc a_=>by
 by_cases ai:∃u∈q,gi s.1 u.1=m
 ·obtain⟨u,hu,e⟩:=ai
  have key:∀{q:List ba},(∀t∈q,t.1.length=8)->ea m (gv s q)<=ea u.1 q:=by
   intro q
   induction q with
   |nil=>intro _;exact aoE _
   |cons t q bF=>
    intro h;show(if gi s.1 t.1=m then 1 else 0)+ea m (gv s q)<=(if t.1=u.1 then 1 else 0)+ea u.1 q;have:=bF fun v aP=>h v (by simp[aP]);split
    ·rename_i aL;rw[aoy (P3 (by rw[h t (by simp),ay]) (by rw[dc u hu,ay]) (aL.trans e.symm))];omega
    ·omega
  exact aoS (key dc) (a_ _)
 ·rw[Hn fun t au=>by
   obtain⟨u,hu,rfl⟩:=aoQ.1 au
   exact fun e=>ai ⟨u,hu,e⟩]
  exact apS _
theorem yk (m:List Int){q:List ba}(dc:∀t∈q,t.1.length=8)(a_:∀x,ea x q<=1):∀{p:List ba},(∀t∈p,t.1.length=8)->ea m (da p q)<=p.length
 |[],_=>apS _
 |s::p,h=>by
  have U:=OW (h s (by simp)) m dc a_;have aa:=yk m dc a_ (p:=p) fun t au=>h t (by simp[au]);rw[da,wo,apq];omega
def lL (p:List ba):List ba:=p.map fun t=>(t.1,1)
theorem Ho (m:List Int):∀p:List ba,((ea m p:Nat):Rat)=c2 (lL p) m
 |[]=>rfl
 |t::p=>by
  show(((if t.1=m then 1 else 0)+ea m p:Nat):Rat)=(if t.1=m then 1 else 0)+c2 (lL p) m;rw[<-Ho m p];split
  ·grind
  ·grind
theorem Hp (q:List ba):∀p:List ba,lL (da p q)=da (lL p) (lL q)
 |[]=>rfl
 |s::p=>by
  have e:lL (gv s q)=gv (s.1,1) (lL q):=by
   rw[lL,lL,gv,gv,ap0,ap0];refine aqD fun t _=> ?_;show(gi s.1 t.1,(1:Rat))=(gi s.1 t.1,1*1);rw[Rat.mul_one]
  have aL:lL (gv s q++da p q)=lL (gv s q)++lL (da p q):=apd;show lL (gv s q++da p q)=gv (s.1,1) (lL q)++da (lL p) (lL q);rw[aL,e,Hp q p]
theorem aaO (p q:List ba)(m:List Int):ea m (da p q)=ea m (da q p):=by
 have h:((ea m (da p q):Nat):Rat)=((ea m (da q p):Nat):Rat):=by rw[Ho,Ho,Hp,Hp,OH]
 exact Rat.natCast_inj.1 h
theorem Zd (m:List Int){p q:List ba}(dc:∀t∈p,t.1.length=8)(aE:∀x,ea x p<=1)(g8:∀t∈q,t.1.length=8):ea m (da p q)<=q.length:=by
 rw[aaO];exact yk m dc aE g8
theorem de.mono {e f:Int}{p:List ba}(h:de e p)(aU:e<=f):de f p:=fun t au=>⟨(h t au).1,fun x ai=>⟨((h t au).2 x ai).1,apY ((h t au).2 x ai).2 aU⟩⟩
theorem de.oK {e:Int}{p:List ba}(h:de e p)(he:e<=4000000000000000000):∀t∈p,l4 t.1:=fun t au=>⟨(h t au).1,fun x ai=>by have:=(h t au).2 x ai;omega⟩
theorem de.len {e:Int}{p:List ba}(h:de e p):∀t∈p,t.1.length=8:=fun t au=>(h t au).1
theorem de.app {e:Int}{p q:List ba}(h:de e p)(g:de e q):de e (p++q):=fun t au=>by
 rcases apV.1 au with au|au
 ·exact h t au
 ·exact g t au
theorem de.sub {e:Int}{p q:List ba}(h:de e p)(a_:∀t∈q,∃u∈p,u.1=t.1):de e q:=fun t au=>by
 obtain⟨u,hu,e⟩:=a_ t au;rw[<-e];exact h u hu
theorem de.nrm {e:Int}{p:List ba}(h:de e p):de e (nrm p):=h.sub fun _=>wJ
theorem de.scale {e:Int}{p:List ba}(h:de e p)(c:Rat):de e (eN c p):=h.sub fun t au=>by
 obtain⟨u,hu,rfl⟩:=aoQ.1 au;exact⟨u,hu,rfl⟩
theorem HM:∀{a b:List Int} {x:Int},x∈gi a b->∃y∈a,∃z∈b,x=y+z
 |a::p,b::q,x,h=>by
  rcases ao7.1 h with rfl|h
  ·exact⟨a,by simp,b,by simp,rfl⟩
  ·obtain⟨y,bp,z,bq,e⟩:=HM h;exact⟨y,by simp[bp],z,by simp[bq],e⟩
 |[],_,x,h=>by simp[gi]at h
 |_::_,[],x,h=>by simp[gi]at h
theorem Ci:∀{p q:List ba} {t:ba},t∈da p q->∃u∈p,∃v∈q,t=(gi u.1 v.1,u.2*v.2)
 |[],_,t,h=>by cases h
 |s::p,q,t,h=>by
  rcases apV.1 h with h|h
  ·obtain⟨v,aP,rfl⟩:=aoQ.1 h;exact⟨s,by simp,v,aP,rfl⟩
  ·obtain⟨u,hu,v,aP,e⟩:=Ci h;exact⟨u,by simp[hu],v,aP,e⟩
theorem de.mul {e f:Int}{p q:List ba}(h:de e p)(g:de f q):de (e+f) (da p q):=fun t au=>by
 obtain⟨u,hu,v,aP,rfl⟩:=Ci au;refine⟨by rw[yy _ _ (by rw[(h u hu).1,(g v aP).1])];exact(h u hu).1,fun x ai=> ?_⟩;obtain⟨y,bp,z,bq,rfl⟩:=HM ai;have:=(h u hu).2 y bp;have:=(g v aP).2 z bq;omega
theorem cI.ar {l:Rows}(h:cI l):c7 l:=h.1
theorem nk {l:Rows}(h:hK l=true)(an:c7 l):de 1024 (l.map aM):=fun t au=>by
 obtain⟨r,hm,rfl⟩:=aoQ.1 au;have U:=aoR.1 h r hm;unfold tw at U;refine⟨by simp[aM,dq,(an r hm).len],fun x ai=> ?_⟩;have:=aoR.1 U x ai;simpa using this
theorem ui {k:Nat}{p:List ba}(h:dA k p)(he:∀t∈p,t.1.length=8)(av:p.length<1000000000):cI (br p):=
 ⟨fun r an=>(l9 h he r an).row,by rw[fI];omega⟩
theorem adW {p:List ba}(h:∀t∈p,l4 t.1):∀r∈br p,l4 (aM r).1:=fun r an=>by
 obtain⟨t,au,rfl⟩:=aoQ.1 an;rw[CP (h t au).1];exact h t au
theorem wu {k:Nat}{p:List ba}(h:dA k p)(he:∀t∈p,l4 t.1):∀r∈br p,fg k r:=fun r an=>
 (l9 h (fun t au=>(he t au).1) r an).TT (adW he r an)
theorem yl {k c:Nat}{p:List ba}(h:dA k p)(ae:1<=k)(he:∀t∈p,l4 t.1)(aC:∀m,ea m p<=c)(qc:c*(2*k+2)<=900000)(An:k<=900000)(av:p.length<=1000000000):iZ (br p):=
 ⟨k,c,ae,wu h he,fun m=>by rw[oP fun t au=>(he t au).1];exact aC m,qc,An,by rw[fI];exact av⟩
theorem aaP (p q:List ba):br p++br q=br (p++q):=(qY p q).symm
theorem uj {l:Rows}{K n:Nat}(h:hK l=true)(aU:cI l)(hw:Raw K n l)(gM:K<=400000):iZ l:=by
 obtain⟨k,c,U,aa,az,aW,bA,bZ⟩:=hw;refine⟨k,c,U,fun r an=>(aa r an).TT ((nk h aU.1).oK (by decide) _ (aqQ an)),az, ?_,by omega,by have:=aU.2;omega⟩;have:=X2 K aW;omega
theorem H6 (p q:List ba):nrm (nrm p++nrm q)=nrm (p++q):=oO fun m=>by rw[mN,mN,mM,mM]
theorem aaQ (p q:List ba):nrm (p++nrm q)=nrm (p++q):=oO fun m=>by rw[mN,mN,mM]
theorem H7 (p q:List ba):nrm (da (nrm p) (nrm q))=nrm (da p q):=oO (NS (mM p) (mM q))
theorem adX (p:List ba):nrm (nrm p)=nrm p:=DB (ih p)
end ab
end
section
namespace ab
open Go Go.al
def mq (v:Nat)(p:List ba):List (List ba):=(List.range (fG p v+1).toNat).map fun(i:Nat)=>nrm ((p.filter fun t=>decide (t.1.getD v 0=(i:Int))).map fun t=>(t.1.set v 0,t.2))
def np (l:List (List ba)):List (List R):=l.map fun q=>[.ar 11 (br q)]
def DF.T:=bg fun
 |[.d (.ar ak p), .d (.int .i64 v)]=>(match Nat.beq ak 11 with
  |true=>some ((0<=v/\v<8)/\cI p/\de 100000000 (p.map aM)/\iZ p, .d (.ar 1 (np (mq v.toNat (p.map aM)))))
  |false=>none)
 |_=>none
def Gb (r:Row):Prop:=∃m:List Int,r=dZ m/\m.length=8
def pI (p:Rows):Prop:=∃P:List ba,p=br P/\hC P/\(∀t∈P,t.1.length=8)/\dA 900000 P/\P.length<1000000000
def Cj.T:=bg fun
 |[.rw m a, .rw n b]=>(match Nat.beq m 8,Nat.beq n 8 with
  |true,true=>some (Gb a/\Gb b, .d (.bool (decide (ez (jC a) (jC b)=1))))
  |_,_=>none)
 |_=>none
def CS.T:=bg fun
 |[.d (.ar ak p), .rw n t]=>(match Nat.beq ak 11,Nat.beq n 11 with
  |true,true=>some (pI p/\gF 900000 t, .d (.ar 11 (br (ins (aM t) (p.map aM)))))
  |_,_=>none)
 |_=>none
def Ck.T:=bg fun|[.d (.ar ak p)]=>(match Nat.beq ak 11 with|true=>some (Raw 900000 999999999 p, .d (.ar 11 (br (nrm (p.map aM)))))|false=>none)|_=>none
def Em.T:=bg fun
 |[.d (.ar ak p), .d (.ar gV q)]=>(match Nat.beq ak 11,Nat.beq gV 11 with
  |true,true=>some (pI p/\Raw 900000 999999999 (p++q), .d (.ar 11 (br (nrm (p.map aM++q.map aM)))))
  |_,_=>none)
 |_=>none
def kv (t:ba)(p:List ba):List ba:=(p.map fun u=>(gi u.1 t.1,u.2*t.2)).filter fun u=> !decide (u.2=0)
def CT.T:=bg fun
 |[.d (.ar ak p), .rw n t]=>(match Nat.beq ak 11,Nat.beq n 11 with
  |true,true=>some ((∀r∈p,fg 400000 r)/\fg 400000 t/\de 1000000000000000000 (p.map aM)/\(∀x∈(aM t).1,-1000000000000000000<=x/\x<=1000000000000000000)/\p.length<1000000000, .d (.ar 11 (br (kv (aM t) (p.map aM)))))
  |_,_=>none)
 |_=>none
def En.T:=bg fun|[.d (.ar ak p), .d (.int .i64 v)]=>(match Nat.beq ak 11 with|true=>some (cI p/\0<=v/\v<8, .d (.int .i64 (fG (p.map aM) v.toNat)))|false=>none)|_=>none
def CU.T:=bg fun|[.d (.ar ak p)]=>(match Nat.beq ak 11 with|true=>some (cI p, .d (.bool (hK p)))|false=>none)|_=>none
def Eo.T:=bg fun|[.d (.int .i64 v)]=>some (True, .tup [.d (.ar 11 (br (if 0<=v/\v<8 then[(df.set v.toNat 1,kk)]else[]))), .d (.int .i64 (if 0<=v/\v<8 then 0 else 1))])|_=>none
def nu (p q:Rows):Prop:=∃k j,1<=k/\1<=j/\(∀r∈p,fg k r)/\(∀r∈q,fg j r)/\de 1000000000000000000 (p.map aM)/\de 1000000000000000000 (q.map aM)/\(∀m,ea m (p.map aM)<=1)/\
 (q.length+1)*(k+j+2)<=400000/\p.length*(q.length+1)<1000000000
def DG.T:=bg fun
 |[.d (.ar ak p), .d (.ar gV q)]=>(match Nat.beq ak 11,Nat.beq gV 11 with
  |true,true=>some (nu p q, .d (.ar 11 (br (nrm (da (p.map aM) (q.map aM))))))
  |_,_=>none)
 |_=>none
def nv (p:List ba):Nat->List ba
 |0=>nrm [(df,1)]
 |n+1=>nrm (da (nv p n) p)
def CV.T:=bg fun|[.d (.ar ak p), .d (.int .i64 n)]=>(match Nat.beq ak 11 with|true=>some (n<=1000/\∀i,i<n.toNat->nu (br (nv (p.map aM) i)) p, .d (.ar 11 (br (nv (p.map aM) n.toNat))))|false=>none)|_=>none
def zE (p:Rows):Bool:=hK p&&decide (p.map iq=(br (nrm (p.map aM))).map iq)
def BR.T:=bg fun|[.d (.ar ak p)]=>(match Nat.beq ak 11 with|true=>some (cI p/\Raw 900000 999999999 p, .d (.bool (zE p)))|false=>none)|_=>none
def ajU (p q:Rows):Bool:=eT p q&&decide ((br (nrm (p.map aM))).map iq=(br (nrm (q.map aM))).map iq)
def anm.T:=bg fun
 |[.d (.ar ak p), .d (.ar gV q)]=>(match Nat.beq ak 11,Nat.beq gV 11 with
  |true,true=>some ((cI p/\Raw 900000 999999999 p)/\cI q/\Raw 900000 999999999 q, .d (.bool (ajU p q)))
  |_,_=>none)
 |_=>none
def CW.T:=bg fun
 |[.d (.ar ak p), .d (.int .i64 v)]=>(match Nat.beq ak 11 with
  |true=>some (cI p/\Raw 400000 999999999 p, .tup [.d (.ar 1 (if gI p v=0 then np (mq v.toNat (nrm (p.map aM)))else[])), .d (.int .i64 (gI p v))])
  |false=>none)
 |_=>none
def Ao:List Int->List Int->Bool
 |a::x,b::y=>decide (b<=a)&&Ao x y
 |_,_=>true
def I7:List Int->List Int->List Int
 |a::x,b::y=>(a-b)::I7 x y
 |_,_=>[]
def xf (m:List Int):Prop:=m.length=8/\∀x∈m,-1000000000000000000<=x/\x<=1000000000000000000
def ang.T:=bg fun
 |[.rw m a, .rw n b]=>(match Nat.beq m 8,Nat.beq n 8 with
  |true,true=>some ((∃x,a=dZ x/\xf x)/\∃y,b=dZ y/\xf y, .tup [.rw 8 (dZ (if Ao (jC a) (jC b)then I7 (jC a) (jC b)else df)), .d (.bool (Ao (jC a) (jC b)))])
  |_,_=>none)
 |_=>none
def nb (p:List ba):ba:=p.getD 0 (df,0)
def AV (p q:List ba):ba:=(I7 (nb p).1 (nb q).1,(nb p).2/(nb q).2)
def TU (p q:List ba):List ba:=nrm (p++eN (-1) (nrm (da [AV p q] q)))
def TV (q:List ba):Nat->List ba->Option (List ba×Bool)
 |0,_=>none
 |n+1,p=>if p=[]then some ([],true)else if Ao (nb p).1 (nb q).1 then(TV q n (TU p q)).map fun r=>(AV p q::r.1,r.2)else some ([],false)
open Classical in
noncomputable def vm (p q:List ba):List ba×Bool:=if h:∃n r,TV q n p=some r then Classical.choose (Classical.choose_spec h)else([],false)
def aeA (p q:List ba):Prop:=dp 400000 (nb p).2/\dp 400000 (nb q).2/\xf (nb p).1/\xf (nb q).1/\xd (br [AV p q]) (br q)/\
 (∃k j,1<=k/\1<=j/\(∀r∈br p,fg k r)/\(∀r∈br (nrm (da [AV p q] q)),fg j r)/\2*(2*(k+1*(j+2))+2)<=900000/\p.length+(nrm (da [AV p q] q)).length<=1000000000)
def TW (q:List ba):Nat->List ba->Prop
 |0,_=>False
 |n+1,p=>p≠[]->(xf (nb p).1/\xf (nb q).1)/\(Ao (nb p).1 (nb q).1=true->aeA p q/\TW q n (TU p q))
def Sc (p q:List ba):Prop:=q≠[]/\(∃n,n<=1000000000/\TW q n p)/\((vm p q).2=true->iZ (br (vm p q).1))
def SI (p:Rows):Prop:=∃P:List ba,p=br P/\hC P/\∀t∈P,t.1.length=8
noncomputable def ajV (p q:List ba):List ba:=if(vm p q).2 then nrm (vm p q).1 else[]
noncomputable def ann.T:=bg fun
 |[.d (.ar ak p), .d (.ar gV q)]=>(match Nat.beq ak 11,Nat.beq gV 11 with
  |true,true=>some (SI p/\SI q/\Sc (p.map aM) (q.map aM), .tup [.d (.ar 11 (br (ajV (p.map aM) (q.map aM)))), .d (.bool (vm (p.map aM) (q.map aM)).2)])
  |_,_=>none)
 |_=>none
open Classical in
noncomputable def TX (p q:Rows):Int:=if eT p q then(if nrm (q.map aM)=[]then 3 else if(vm (nrm (p.map aM)) (nrm (q.map aM))).2 then 0 else 16)else 2
noncomputable def anG.T:=bg fun
 |[.d (.ar ak p), .d (.ar gV q)]=>(match Nat.beq ak 11,Nat.beq gV 11 with
  |true,true=>some ((cI p/\Raw 400000 999999999 p)/\(cI q/\Raw 400000 999999999 q)/\(nrm (q.map aM)≠[]->eT p q=true->Sc (nrm (p.map aM)) (nrm (q.map aM))),
   .tup [.d (.ar 11 (br (if TX p q=0 then nrm (vm (nrm (p.map aM)) (nrm (q.map aM))).1 else[]))), .d (.int .i64 (TX p q))])
  |_,_=>none)
 |_=>none
end ab
end
section
namespace ab
open Go Go.al
def Cl.T:=bg fun|[]=>some (True, .d (.bool true))|_=>none
def am_.T:=bg fun|[.d (.int .u8 v)]=>some (0<=v/\v<256, .d (.bool true))|_=>none
def ano.T:=bg fun|[.d (.ad .i64 l)]=>some (∀x∈l,i64 x, .d (.bool true))|_=>none
def am5.T:=bg fun|[.d (.ad .i64 l), .d (.int .u8 v), .d (.int .u8 w)]=>some ((∀x∈l,i64 x)/\(0<=v/\v<256)/\0<=w/\w<256, .d (.bool true))|_=>none
def Cm.T:=bg fun|[.d (.ad .i64 l), .d (.int .u8 v)]=>some ((∀x∈l,i64 x)/\0<=v/\v<256, .d (.bool true))|_=>none
def am6.T:=bg fun|[.d (.ad .i64 l)]=>some (∀x∈l,i64 x, .d (.bool true))|_=>none
def amW.T:=bg fun|[.d (.ad .i64 l), .d (.int .u8 v)]=>some ((∀x∈l,i64 x)/\0<=v/\v<256, .d (.bool true))|_=>none
end ab
end
section
open Go Go.al
namespace ab
end ab
end
section
open Go Go.al
namespace ab
def LP:List Int->Int->Int->Int->Int->(af->J->Prop)->Prop:=
 fun l a s v n K=>(dQ l a/\i64 (ah (n+1)))/\∀x,x=l->∀aV,aV=c0 l a (ah (n+1))->∀aS,aS=s->∀bo,bo=fr l a (ah (n+1))->∃(aK:Int->List Int->Int->Int->List (List R)->Prop),∃(m:Int->List Int->Int->Int->List (List R)->Nat),aK bo x aV aS []/\∀(bn:Int) (l:List Int) (a s:Int) (bz:List (List R)),aK bn l a s bz->(decide (0<bn)=true->dQ l a/\∀x,x=l->∀cp,cp=kR l a->∀c8,c8=s->∀c5,c5=cl (iG l a)->∀dm,dm=cj (iG l a)->∀dx,dx=ca (iG l a)->∃(bm:List Int->Int->Int->List (List R)->List (List R)->Prop),((dQ x cp/\i64 8)/\∀dN,dN=x->∀eK,eK=c0 x cp 8->∀fQ,fQ=c8->∀fC,fC=fr x cp 8->(decide (fC=7)=true->dQ dN eK/\∀x,x=dN->∀im,im=wO dN eK->∀h2,h2=fQ->∀lK,lK=wN dN eK->∀zy,zy=sH dN eK->∀zz,zz=sI dN eK->bm x im h2 bz [setRow ([R.int .i64 0,R.int .i64 0,R.int .i64 0,R.int .i64 0,R.int .i64 0,R.int .i64 0,R.int .i64 0,R.int .i64 0]++[R.bool c5,R.ad .u32 dm,R.ad .u32 dx]) 8 [R.bool lK,R.ad .u32 zy,R.ad .u32 zz]])/\(decide (fC=7)=false->bm dN eK fQ bz [[R.int .i64 0,R.int .i64 0,R.int .i64 0,R.int .i64 0,R.int .i64 0,R.int .i64 0,R.int .i64 0,R.int .i64 0]++[R.bool c5,R.ad .u32 dm,R.ad .u32 dx]]))/\∀(TY:List Int) (SJ TZ:Int) (eG bl:List (List R)),bm TY SJ TZ eG bl->∃(fk:Int->List Int->Int->Int->List (List R)->List (List R)->Prop),∃(fh:Int->List Int->Int->Int->List (List R)->List (List R)->Nat),fk 0 TY SJ TZ eG bl/\∀(v10:Int) (tz:List Int) (u1 Ap:Int) (u2 bl:List (List R)),fk v10 tz u1 Ap u2 bl->(decide (v10<v)=true->(dQ tz u1/\0<5/\5<=1000)/\∀x,x=tz->∀dN,dN=c0 tz u1 5->∀eK,eK=Ap->∀fQ,fQ=mX tz u1 [0,0,1,1,2]->0<=v10/\v10<8/\fk (ah (v10+1)) x dN eK u2 (bl.set 0 ((bl.getD 0 []).set v10.toNat (R.int .i64 fQ)))/\fh (ah (v10+1)) x dN eK u2 (bl.set 0 ((bl.getD 0 []).set v10.toNat (R.int .i64 fQ)))<fh v10 tz u1 Ap u2 bl)/\(decide (v10<v)=false->(bl.getD 0 []).length=11/\((u2.length:Int)+↑[bl.getD 0 []].length)*120<=70368744177664/\aK (ah (bn-1)) tz u1 Ap (u2++[bl.getD 0 []])/\m (ah (bn-1)) tz u1 Ap (u2++[bl.getD 0 []])<m bn l a s bz))/\(decide (0<bn)=false->K (af.cells [J.d (R.ad .i64 l),J.d (R.int .i64 a),J.d (R.int .i64 s)]) (J.d (R.ar 11 bz)))
end ab
end
section
open Go Go.al
namespace ab
end ab
end
section
open Go Go.al
namespace ab
end ab
end
section
open Go Go.al
namespace ab
end ab
end
section
namespace ab
open Go Go.al
theorem wK {l:List Int}{a:Int}(aF:dQ l a):dQ l (kR l a)/\dp 1 (iG l a):=by
 have bl:=(aF.num 13).1;have dC:=qT (lo:=-6) (hi:=6) aF (by decide);have dD:=qT (lo:=1) (hi:=5) bl (by decide);refine⟨(bl.num 5).1, ?_⟩;unfold iG IX IY;have a8:kJ l (c0 l a 13) 1 5=((kJ l (c0 l a 13) 1 5).toNat:Int):=by omega
 rw[a8,Rat.divInt_ofNat];exact .mk (by omega) (by omega)
end ab
end
section
open Go Go.al
namespace ab
theorem adY (l:List Int)(a:Int):0<=mX l a xW/\mX l a xW<=2:=by
 unfold mX
 have:∀x∈xW,0<=x/\x<=2:=by decide
 rw[aoA]
 cases h:xW[(fr l a xW.length).toNat]? with
 |none=>decide
 |some x=>exact this x (ap2 h)
theorem H8 {l:List Int}{a:Int}(h:dQ l a):∀k,dQ l (mh l a k).2/\(mh l a k).1.length=8/\(∀x∈(mh l a k).1,0<=x/\x<=2)/\∀i,k<=i->(mh l a k).1.getD i 0=0
 |0=>⟨h,rfl,by show∀x∈df,_;decide,fun i _=>by
  show df.getD i 0=0;rw[aoA]
  cases e:df[i]? with
  |none=>rfl
  |some x=>exact(by decide:∀x∈df,x=0) x (ap2 e)⟩
 |k+1=>by
  obtain⟨U,aa,az,aW⟩:=H8 h k;refine⟨(U.num 5).1,by rw[mh,aoI];exact aa,fun x ai=> ?_,fun i hi=> ?_⟩
  ·rcases ap9 ai with ai|rfl
   ·exact az x ai
   ·exact adY _ _
  ·rw[mh];rw[aoA,List.getElem?_set_ne (by omega),<-aoA];exact aW i (by omega)
theorem RE {l:List Int}{a:Int}(h:dQ l a):dQ l (qw l a):=by
 have U:=(wK h).1;have aa:=(U.num 8).1;unfold qw;split
 ·exact(HK aa).1
 ·exact aa
def sW (v:Nat)(r:Row):Prop:=∃(m:List Int) (s:Bool) (a b:List Int),r=et m s a b/\m.length=8/\(∀x∈m,0<=x/\x<=2)/\(∀i,v<=i->m.getD i 0=0)/\bO 4 a/\bO 4 b
theorem acs {l:List Int}{a:Int}(h:dQ l a)(v:Nat):dQ l (TS l a v)/\sW v (zf l a v):=by
 obtain⟨fT,fZ,hV,jG⟩:=H8 (RE h) v;refine⟨fT,_,_,_,_,rfl,fZ,hV,jG, ?_, ?_⟩
 ·split
  ·exact(HK ((wK h).1.num 8).1).2.1
  ·exact(wK h).2.num.mono (by decide)
 ·split
  ·exact(HK ((wK h).1.num 8).1).2.2
  ·exact(wK h).2.den.mono (by decide)
theorem Hq {l:List Int}{a:Int}(h:dQ l a)(v:Nat):∀k,dQ l (o0 l a v k).2/\(o0 l a v k).1.length=k/\∀r∈(o0 l a v k).1,sW v r
 |0=>⟨h,rfl,fun r an=>by cases an⟩
 |k+1=>by
  obtain⟨U,aa,az⟩:=Hq h v k;obtain⟨t1,t2⟩:=acs U v;refine⟨t1,by rw[o0,ao0,aa];rfl,fun r an=> ?_⟩;rw[o0]at an;rcases apV.1 an with an|an
  ·exact az r an
  ·rw[apo.1 an];exact t2
theorem acu {l:List Int}{a v n:Int}(h:dQ l a)(av:0<=n):dQ l (oa l a v n).2/\((oa l a v n).1.length:Int)<=n/\∀r∈(oa l a v n).1,sW v.toNat r:=by
 have bc:=h.num (n+1);obtain⟨U,aa,az⟩:=Hq bc.1 v.toNat (fr l a (n+1)).toNat;refine⟨U, ?_,az⟩;have:=bc.2.2.1 (by omega);unfold oa;rw[aa];omega
theorem VY (l:List Int)(a s v n:Int)(K:af->J->Prop)(h:CR.T (.ptr 0 0) (st l a s) [.d (.int .i64 v), .d (.int .i64 n)] K):LP l a s v n K:=by
 obtain⟨⟨aF,⟨jb,T0⟩,Fy,Fx⟩,ae⟩:=h;unfold LP ah;rw[bR (x:=n+1) (by omega)];refine⟨⟨aF,by unfold i64;omega⟩, ?_⟩;rintro l rfl _ rfl s rfl _ rfl;have fM:=aF.num (n+1);have an7:=fM.2.2.1 (by omega);refine⟨fun bn ch b5 fL o=>ch=l/\fL=s/\0<=bn/\bn<=fr l a (n+1)/\o0 l (c0 l a (n+1)) v.toNat (fr l a (n+1)-bn).toNat=(o,b5),fun bn _ _ _ _=>bn.toNat,⟨rfl,rfl,fM.2.1,Int.le_refl _, ?_⟩, ?_⟩
 ·rw[Int.sub_self];rfl
 rintro bn ch b5 fL o ⟨rfl,rfl,U,aa,az⟩;have fs:=Hq fM.1 v.toNat (fr ch a (n+1)-bn).toNat;rw[az]at fs;obtain⟨dE,ax,an⟩:=fs;simp only at dE ax an;refine⟨fun aC=> ?_,fun aC=> ?_⟩
 ·have aC:=aoJ aC;have hm:=wK dE;refine⟨dE, ?_⟩;rintro ch rfl _ rfl fL rfl _ rfl _ rfl _ rfl;refine⟨fun l2 a2 s2 bz bl=>l2=ch/\s2=fL/\bz=o/\a2=qw ch b5/\bl=[et df (if oy ch b5 then wN ch (c0 ch (kR ch b5) 8)else cl (iG ch b5)) (if oy ch b5 then sH ch (c0 ch (kR ch b5) 8)else cj (iG ch b5)) (if oy ch b5 then sI ch (c0 ch (kR ch b5) 8)else ca (iG ch b5))],⟨⟨⟨hm.1,by unfold i64;decide⟩, ?_⟩, ?_⟩⟩
  ·rintro ch rfl _ rfl fL rfl _ rfl;refine⟨fun ag=>⟨(hm.1.num 8).1, ?_⟩,fun ag=> ?_⟩
   ·rintro ch rfl _ rfl fL rfl _ rfl _ rfl _ rfl;have e:oy ch b5=true:=ag;refine⟨rfl,rfl,rfl,by rw[qw,e];rfl, ?_⟩;rw[e];exact apb (fun x=>[x]) (wQ (m:=df) rfl _ _ _)
   ·have e:oy ch b5=false:=ag;refine⟨rfl,rfl,rfl,by rw[qw,e];rfl, ?_⟩;rw[e];rfl
  ·rintro l2 a2 s2 bz bl ⟨rfl,rfl,rfl,rfl,rfl⟩;generalize h7:(if oy l2 b5 then wN l2 (c0 l2 (kR l2 b5) 8)else cl (iG l2 b5))=S;generalize tL:(if oy l2 b5 then sH l2 (c0 l2 (kR l2 b5) 8)else cj (iG l2 b5))=P;generalize iP:(if oy l2 b5 then sI l2 (c0 l2 (kR l2 b5) 8)else ca (iG l2 b5))=Q;refine⟨fun j l5 a3 k7 cO jJ=>l5=l2/\k7=s2/\cO=bz/\0<=j/\j<=v/\a3=(mh l2 (qw l2 b5) j.toNat).2/\jJ=[et (mh l2 (qw l2 b5) j.toNat).1 S P Q],fun j _ _ _ _ _=>(v-j).toNat,⟨rfl,rfl,rfl,Int.le_refl _,jb,rfl,rfl⟩, ?_⟩;rintro j l5 a3 k7 cO jJ ⟨rfl,rfl,rfl,amr,tE,rfl,rfl⟩;obtain⟨fT,fZ,hV,jG⟩:=H8 (RE dE) j.toNat;refine⟨fun aI=> ?_,fun aI=> ?_⟩
   ·have aI:=aoJ aI;refine⟨⟨fT,by decide,by decide⟩, ?_⟩;rintro l5 rfl _ rfl k7 rfl _ rfl;rw[bR (x:=j+1) (by omega)];refine⟨amr,by omega,⟨rfl,rfl,rfl,by omega,by omega, ?_, ?_⟩,by show(v-(j+1)).toNat<(v-j).toNat;omega⟩
    ·rw[show(j+1).toNat=j.toNat+1 by omega];rfl
    ·rw[show(j+1).toNat=j.toNat+1 by omega];show[(et _ S P Q).set j.toNat _]=_;rw[mh];show[(dZ _++_).set j.toNat _]=[dZ _++_];rw[List.set_append_left _ _ (by rw[kb,fZ];omega),dZ,dZ,aqn]
     rfl
   ·have aI:=aoN aI;obtain rfl:j=v:=by omega
    have lH:et (mh l5 (qw l5 b5) j.toNat).1 S P Q=zf l5 b5 j.toNat:=by rw[zf,h7,tL,iP]
    refine⟨jT fZ, ?_, ?_⟩
    ·have:((cO.length:Nat):Int)<=1000:=by rw[ax];omega
     simp only[apL];omega
    rw[bR (x:=bn-1) (by omega)];refine⟨⟨rfl,rfl,by omega,by omega, ?_⟩,by show(bn-1).toNat<bn.toNat;omega⟩;rw[show(fr l5 a (n+1)-(bn-1)).toNat=(fr l5 a (n+1)-bn).toNat+1 by omega,o0,az];show(cO++[zf l5 b5 j.toNat],_)=(cO++[et _ S P Q],_);rw[lH];rfl
 ·have aC:=aoN aC;obtain rfl:bn=0:=by omega
  have e:oa ch a v n=(o,b5):=by rw[oa,<-az,Int.sub_zero]
  rw[e]at ae;exact ae
end ab
end
section
open Go Go.al
namespace ab
def L8:ab.Rows->ab.Rows->(J->Prop)->Prop:=
 fun p q K=>List.length p<100000000000/\∀x,x=p->((x.length:Int)+(aO q))*120<=70368744177664/\iZ (x++q)/\∀aV,aV=br (nrm (List.map aM (x++q)))->K (J.d (R.ar 11 aV))
def LQ:ab.Rows->Int->(J->Prop)->Prop:=
 fun p v K=>∃(aK:Int->Int->Prop),∃(m:Int->Int->Nat),aK (-1) 0/\∀(v5 v10:Int),aK v5 v10->(decide (v10<(aO p))=true->0<=v10/\v10<(aO p)/\(List.aG p v10).length=11/\0<=v/\v<8/\((List.aG p v10).getD v.toNat R.undef).dd .i64/\aK (if v5<((List.aG p v10).getD v.toNat R.undef).toInt then((List.aG p v10).getD v.toNat R.undef).toInt else v5) (ah (v10+1))/\m (if v5<((List.aG p v10).getD v.toNat R.undef).toInt then((List.aG p v10).getD v.toNat R.undef).toInt else v5) (ah (v10+1))<m v5 v10)/\(decide (v10<(aO p))=false->K (J.d (R.int .i64 v5)))
def L9:ab.Rows->(J->Prop)->Prop:=
 fun p K=>∃(aK:Int->Int->Prop),∃(m:Int->Int->Nat),aK 0 0/\∀(v3 bn:Int),aK v3 bn->(decide (bn<(aO p))=true->0<=bn/\bn<(aO p)/\(List.aG p bn).length=11/\(List.aG p bn).length=11/\(∀(x:R),x∈List.take 8 (List.aG p bn)->x.dd .i64)/\(0<(List.map R.toInt (List.take 8 (List.aG p bn))).length/\(List.map R.toInt (List.take 8 (List.aG p bn))).length<1000000000)/\∀x,x=lJ ((List.map R.toInt (List.take 8 (List.aG p bn))).getD 0 0) (List.drop 1 (List.map R.toInt (List.take 8 (List.aG p bn))))->aK (if v3<x then x else v3) (ah (bn+1))/\m (if v3<x then x else v3) (ah (bn+1))<m v3 bn)/\(decide (bn<(aO p))=false->K (J.d (R.int .i64 v3)))
def LA:ab.Rows->(J->Prop)->Prop:=
 fun p K=>∃(aK:Int->Prop),∃(m:Int->Nat),aK 0/\∀(v9:Int),aK v9->(decide (v9<(aO p))=true->0<=v9/\v9<(aO p)/\(List.aG p v9).length=11/\(List.aG p v9).length=11/\∃(fk:Int->Prop),∃(fh:Int->Nat),((false,af.ar 11 [List.aG p v9])=(false,af.ar 11 [List.aG p v9])/\fk 0)/\∀(bW:Int),fk bW->(decide (bW<8)=true->0<=bW/\bW<8/\((List.take 8 (List.aG p v9)).getD bW.toNat R.undef).dd .i64/\(decide (((List.take 8 (List.aG p v9)).getD bW.toNat R.undef).toInt<0)=true->K (J.d (R.bool false)))/\(decide (((List.take 8 (List.aG p v9)).getD bW.toNat R.undef).toInt<0)=false->(decide (1024<((List.take 8 (List.aG p v9)).getD bW.toNat R.undef).toInt)=true->K (J.d (R.bool false)))/\(decide (1024<((List.take 8 (List.aG p v9)).getD bW.toNat R.undef).toInt)=false->(false,af.ar 11 [List.aG p v9])=(false,af.ar 11 [List.aG p v9])/\fk (ah (bW+1))/\fh (ah (bW+1))<fh bW)))/\(decide (bW<8)=false->aK (ah (v9+1))/\m (ah (v9+1))<m v9))/\(decide (v9<(aO p))=false->K (J.d (R.bool true)))
def LW:ab.Rows->Bool->List Int->List Int->(J->Prop)->Prop:=
 fun p s a b K=>List.length p<100000000000/\∀x,x=p->∃(aK:Int->List (List R)->Prop),∃(m:Int->List (List R)->Nat),((false,af.cells [J.d (R.bool s),J.d (R.ad .u32 a),J.d (R.ad .u32 b)])=(false,af.cells [J.d (R.bool s),J.d (R.ad .u32 a),J.d (R.ad .u32 b)])/\aK 0 x)/\∀(v11:Int) (bz:List (List R)),aK v11 bz->(decide (v11<↑x.length)=true->0<=v11/\v11<↑bz.length/\((bz.aG v11).eV).isBool/\((bz.aG v11).eb).eJ .u32/\((bz.aG v11).ec).eJ .u32/\(bO 1000000 ((bz.aG v11).eb).b2/\bO 1000000 ((bz.aG v11).ec).b2/\bO 1000000 a/\bO 1000000 b)/\∀x,x=cl (bb ((bz.aG v11).eV).toBool ((bz.aG v11).eb).b2 ((bz.aG v11).ec).b2*bb s a b)->∀aV,aV=cj (bb ((bz.aG v11).eV).toBool ((bz.aG v11).eb).b2 ((bz.aG v11).ec).b2*bb s a b)->∀aS,aS=ca (bb ((bz.aG v11).eV).toBool ((bz.aG v11).eb).b2 ((bz.aG v11).ec).b2*bb s a b)->0<=v11/\v11<↑bz.length/\(false,af.cells [J.d (R.bool s),J.d (R.ad .u32 a),J.d (R.ad .u32 b)])=(false,af.cells [J.d (R.bool s),J.d (R.ad .u32 a),J.d (R.ad .u32 b)])/\aK (ah (v11+1)) (bz.set v11.toNat (setRow (bz.aG v11) 8 [R.bool x,R.ad .u32 aV,R.ad .u32 aS]))/\m (ah (v11+1)) (bz.set v11.toNat (setRow (bz.aG v11) 8 [R.bool x,R.ad .u32 aV,R.ad .u32 aS]))<m v11 bz)/\(decide (v11<↑x.length)=false->iZ bz/\∀x,x=br (nrm (List.map aM bz))->K (J.d (R.ar 11 x)))
def L_:ab.Rows->(J->Prop)->Prop:=
 fun p K=>i64 (-1)/\∀x,x=cl (IntCast.intCast (-1))->∀aV,aV=cj (IntCast.intCast (-1))->∀aS,aS=ca (IntCast.intCast (-1))->(∃(k:Nat),∃(c:Nat),∃(j:Nat),1<=k/\1<=j/\(∀(r:List R),r∈p->fg k r)/\(∀(m:List Int),fw m p<=c)/\bO j aV/\bO j aS/\c*(2*(k+j)+2)<=900000/\k+j<=900000/\List.length p<=1000000000)/\∀bo,bo=br (nrm (eN (bb x aV aS) (List.map aM p)))->K (J.d (R.ar 11 bo))
def Ma:ab.Rows->ab.Rows->(J->Prop)->Prop:=
 fun p q K=>(∃(k:Nat),∃(c:Nat),1<=k/\(∀(r:List R),r∈q->fg k r)/\(∀(m:List Int),fw m q<=c)/\c*(2*(k+1)+2)<=900000/\k+1<=900000/\List.length q<=1000000000)/\∀x,x=br (nrm (eN (-1) (List.map aM q)))->iZ (p++x)/\∀aV,aV=br (nrm (List.map aM p++List.map aM x))->K (J.d (R.ar 11 aV))
def Mb:ab.Rows->ab.Rows->(J->Prop)->Prop:=
 fun p q K=>(0:Int)<=(0:Int)/\(0:Int)<=ah ((aO p)*(aO q))/\ah ((aO p)*(aO q))*(120:Int)<=(281474976710656:Int)/\∃(aK:Int->List (List R)->Prop),∃(m:Int->List (List R)->Nat),aK (0:Int) (List.replicate (0:Nat) [R.int .i64 (0:Int),R.int .i64 (0:Int),R.int .i64 (0:Int),R.int .i64 (0:Int),R.int .i64 (0:Int),R.int .i64 (0:Int),R.int .i64 (0:Int),R.int .i64 (0:Int),R.bool false,R.ad .u32 [],R.ad .u32 []])/\∀(lT:Int) (aq:List (List R)),aK lT aq->(decide (lT<(aO p))=true->(0:Int)<=lT/\lT<(aO p)/\(List.aG p lT).length=(11:Nat)/\∃(fk:Int->List (List R)->List (List R)->Prop),∃(fh:Int->List (List R)->List (List R)->Nat),fk (0:Int) aq [List.aG p lT]/\∀(v24:Int) (bJ bz:List (List R)),fk v24 bJ bz->(decide (v24<(aO q))=true->(0:Int)<=v24/\v24<(aO q)/\(List.aG q v24).length=(11:Nat)/\(bz.getD (0:Nat) []).length=(11:Nat)/\(List.aG q v24).length=(11:Nat)/\(ET (List.take (8:Nat) (bz.getD (0:Nat) []))/\ET (List.take (8:Nat) (List.aG q v24)))/\((bz.getD (0:Nat) []).eV).isBool/\((bz.getD (0:Nat) []).eb).eJ .u32/\((bz.getD (0:Nat) []).ec).eJ .u32/\((List.aG q v24).eV).isBool/\((List.aG q v24).eb).eJ .u32/\((List.aG q v24).ec).eJ .u32/\(bO (1000000:Nat) ((bz.getD (0:Nat) []).eb).b2/\bO (1000000:Nat) ((bz.getD (0:Nat) []).ec).b2/\bO (1000000:Nat) ((List.aG q v24).eb).b2/\bO (1000000:Nat) ((List.aG q v24).ec).b2)/\∀x,x=cl (bb ((bz.getD (0:Nat) []).eV).toBool ((bz.getD (0:Nat) []).eb).b2 ((bz.getD (0:Nat) []).ec).b2*bb ((List.aG q v24).eV).toBool ((List.aG q v24).eb).b2 ((List.aG q v24).ec).b2)->∀aV,aV=cj (bb ((bz.getD (0:Nat) []).eV).toBool ((bz.getD (0:Nat) []).eb).b2 ((bz.getD (0:Nat) []).ec).b2*bb ((List.aG q v24).eV).toBool ((List.aG q v24).eb).b2 ((List.aG q v24).ec).b2)->∀aS,aS=ca (bb ((bz.getD (0:Nat) []).eV).toBool ((bz.getD (0:Nat) []).eb).b2 ((bz.getD (0:Nat) []).ec).b2*bb ((List.aG q v24).eV).toBool ((List.aG q v24).eb).b2 ((List.aG q v24).ec).b2)->(↑bJ.length+↑[dZ (gi (jC (List.take (8:Nat) (bz.getD (0:Nat) []))) (jC (List.take (8:Nat) (List.aG q v24))))++[R.bool x,R.ad .u32 aV,R.ad .u32 aS]].length)*(120:Int)<=(70368744177664:Int)/\fk (ah (v24+(1:Int))) (bJ++[dZ (gi (jC (List.take (8:Nat) (bz.getD (0:Nat) []))) (jC (List.take (8:Nat) (List.aG q v24))))++[R.bool x,R.ad .u32 aV,R.ad .u32 aS]]) bz/\fh (ah (v24+(1:Int))) (bJ++[dZ (gi (jC (List.take (8:Nat) (bz.getD (0:Nat) []))) (jC (List.take (8:Nat) (List.aG q v24))))++[R.bool x,R.ad .u32 aV,R.ad .u32 aS]]) bz<fh v24 bJ bz)/\(decide (v24<(aO q))=false->aK (ah (lT+(1:Int))) bJ/\m (ah (lT+(1:Int))) bJ<m lT aq))/\(decide (lT<(aO p))=false->iZ aq/\∀x,x=br (nrm (List.map aM aq))->K (J.d (R.ar (11:Nat) x)))
def Lp:ab.Rows->(J->Prop)->Prop:=
 fun p K=>cI p/\∀x,x=jE 0 (List.map aM p)->(decide (1024<x)=true->K (J.tup [J.d (R.ar 11 []),J.d (R.int .i64 9)]))/\(decide (1024<x)=false->K (J.tup [J.d (R.ar 11 p),J.d (R.int .i64 0)]))
def LK:Int->(J->Prop)->Prop:=
 fun v K=>(decide (v<0)=true->K (J.tup [J.d (R.ar 11 []),J.d (R.int .i64 1)]))/\(decide (v<0)=false->(decide (8<=v)=true->K (J.tup [J.d (R.ar 11 []),J.d (R.int .i64 1)]))/\(decide (8<=v)=false->i64 1/\∀x,x=cl (IntCast.intCast 1)->∀aV,aV=cj (IntCast.intCast 1)->∀aS,aS=ca (IntCast.intCast 1)->0<=v/\v<8/\(([R.int .i64 0,R.int .i64 0,R.int .i64 0,R.int .i64 0,R.int .i64 0,R.int .i64 0,R.int .i64 0,R.int .i64 0]++[R.bool x,R.ad .u32 aV,R.ad .u32 aS]).set v.toNat (R.int .i64 1)).length=11/\K (J.tup [J.d (R.ar 11 [([R.int .i64 0,R.int .i64 0,R.int .i64 0,R.int .i64 0,R.int .i64 0,R.int .i64 0,R.int .i64 0,R.int .i64 0]++[R.bool x,R.ad .u32 aV,R.ad .u32 aS]).set v.toNat (R.int .i64 1)]),J.d (R.int .i64 0)])))
def Lh:ab.Rows->ab.Rows->(J->Prop)->Prop:=
 fun p q K=>cI p/\∀x,x=hK p->((!x)=true->K (J.tup [J.d (R.ar 11 []),J.d (R.int .i64 2)]))/\((!x)=false->cI q/\∀x,x=hK q->((!x)=true->K (J.tup [J.d (R.ar 11 []),J.d (R.int .i64 2)]))/\((!x)=false->iZ p/\∀x,x=br (nrm (List.map aM p))->iZ q/\∀aV,aV=br (nrm (List.map aM q))->iZ (x++aV)/\∀aS,aS=br (nrm (List.map aM x++List.map aM aV))->cI aS/\∀x,(x=if 1024<jE 0 (List.map aM aS)then[]else aS)->∀bo,(bo=if 1024<jE 0 (List.map aM aS)then 9 else 0)->K (J.tup [J.d (R.ar 11 x),J.d (R.int .i64 bo)])))
def Li:ab.Rows->ab.Rows->(J->Prop)->Prop:=
 fun p q K=>cI p/\∀x,x=hK p->((!x)=true->K (J.tup [J.d (R.ar 11 []),J.d (R.int .i64 2)]))/\((!x)=false->cI q/\∀x,x=hK q->((!x)=true->K (J.tup [J.d (R.ar 11 []),J.d (R.int .i64 2)]))/\((!x)=false->iZ p/\∀x,x=br (nrm (List.map aM p))->iZ q/\∀aV,aV=br (nrm (List.map aM q))->(∃(k:Nat),∃(c:Nat),∃(j:Nat),∃(d:Nat),1<=k/\1<=j/\(∀(r:List R),r∈x->fg k r)/\(∀(r:List R),r∈aV->fg j r)/\(∀(m:List Int),fw m x<=c)/\(∀(m:List Int),fw m aV<=d)/\1<=d/\(c+1)*(2*(k+d*(j+2))+2)<=900000/\x.length+aV.length<=1000000000)/\∀aS,aS=br (nrm (List.map aM x++eN (-1) (List.map aM aV)))->cI aS/\∀x,(x=if 1024<jE 0 (List.map aM aS)then[]else aS)->∀bo,(bo=if 1024<jE 0 (List.map aM aS)then 9 else 0)->K (J.tup [J.d (R.ar 11 x),J.d (R.int .i64 bo)])))
def LL:ab.Rows->ab.Rows->(J->Prop)->Prop:=
 fun p q K=>o4 p q/\∀x,x=br (if eT p q=true then nrm (List.map aM p++List.map aM q)else[])->∀aV,(aV=if eT p q=true then 0 else 2)->K (J.tup [J.d (R.ar 11 x),J.d (R.int .i64 aV)])
def LM:ab.Rows->ab.Rows->(J->Prop)->Prop:=
 fun p q K=>o4 p q/\∀x,x=br (if eT p q=true then nrm (List.map aM p++eN (-1) (List.map aM q))else[])->∀aV,(aV=if eT p q=true then 0 else 2)->K (J.tup [J.d (R.ar 11 x),J.d (R.int .i64 aV)])
def Lq:ab.Rows->Int->ab.Rows->(J->Prop)->Prop:=
 fun p n q K=>∃(aK:Int->Prop),∃(m:Int->Nat),aK 0/\∀(bn:Int),aK bn->(decide (bn<8)=true->(cI p/\0<=bn/\bn<8)/\∀x,x=fG (List.map aM p) bn.toNat->(cI q/\0<=bn/\bn<8)/\∀aV,aV=fG (List.map aM q) bn.toNat->(decide (1024<ah (ah (n*if x<0 then 0 else x)+if aV<0 then 0 else aV))=true->K (J.d (R.bool true)))/\(decide (1024<ah (ah (n*if x<0 then 0 else x)+if aV<0 then 0 else aV))=false->aK (ah (bn+1))/\m (ah (bn+1))<m bn))/\(decide (bn<8)=false->K (J.d (R.bool false)))
def LN:ab.Rows->ab.Rows->(J->Prop)->Prop:=
 fun p q K=>cI p/\∀x,x=hK p->((!x)=true->K (J.tup [J.d (R.ar (11:Nat) []),J.d (R.int .i64 (2:Int))]))/\((!x)=false->cI q/\∀x,x=hK q->((!x)=true->K (J.tup [J.d (R.ar (11:Nat) []),J.d (R.int .i64 (2:Int))]))/\((!x)=false->iZ p/\∀x,x=br (nrm (List.map aM p))->iZ q/\∀aV,aV=br (nrm (List.map aM q))->(decide ((0:Int)<↑x.length)=true->(decide ((0:Int)<↑aV.length)=true->((cI x/\cI aV)/\(xe x/\xe aV)/\(0:Int)<=(1:Int)/\(1:Int)<=(1000:Int))/\∀aS,aS=hi (1:Int) (List.map aM x) (List.map aM aV)->(aS=true->K (J.tup [J.d (R.ar (11:Nat) []),J.d (R.int .i64 (9:Int))]))/\(aS=false->xd x aV/\∀bo,bo=br (nrm (da (List.map aM x) (List.map aM aV)))->K (J.tup [J.d (R.ar (11:Nat) bo),J.d (R.int .i64 (0:Int))])))/\(decide ((0:Int)<↑aV.length)=false->xd x aV/\∀aS,aS=br (nrm (da (List.map aM x) (List.map aM aV)))->K (J.tup [J.d (R.ar (11:Nat) aS),J.d (R.int .i64 (0:Int))])))/\(decide ((0:Int)<↑x.length)=false->xd x aV/\∀aS,aS=br (nrm (da (List.map aM x) (List.map aM aV)))->K (J.tup [J.d (R.ar (11:Nat) aS),J.d (R.int .i64 (0:Int))]))))
def La:ab.Rows->Int->(J->Prop)->Prop:=
 fun p v K=>cI p/\∀x,x=hK p->((!x)=true->K (J.tup [J.d (R.ar 11 []),J.d (R.int .i64 2)]))/\((!x)=false->(decide (v<0)=true->K (J.tup [J.d (R.ar 11 []),J.d (R.int .i64 1)]))/\(decide (v<0)=false->(decide (8<=v)=true->K (J.tup [J.d (R.ar 11 []),J.d (R.int .i64 1)]))/\(decide (8<=v)=false->iZ p/\∀x,x=br (nrm (List.map aM p))->K (J.tup [J.d (R.ar 11 x),J.d (R.int .i64 0)]))))
def Lt:ab.Rows->Int->(J->Prop)->Prop:=
 fun p v K=>(cI p/\Raw 400000 1000000000 p)/\∀x,x=br (if gI p v=0 then nrm (List.map aM p)else[])->∀aV,aV=gI p v->((!decide (aV=0))=true->K (J.tup [J.d (R.int .i64 0),J.d (R.int .i64 aV)]))/\((!decide (aV=0))=false->(cI x/\0<=v/\v<8)/\∀aS,aS=fG (List.map aM x) v.toNat->K (J.tup [J.d (R.int .i64 aS),J.d (R.int .i64 0)]))
def Lr:ab.Rows->ab.Rows->(J->Prop)->Prop:=
 fun(p q:ab.Rows) (K:J->Prop)=>((!decide (aO p=aO q))=true->K (J.d (R.bool false)))/\((!decide (aO p=aO q))=false->∃(aK:Int->Prop),∃(m:Int->Nat),aK (0:Int)/\∀(v5:Int),aK v5->(decide (v5<aO p)=true->(0:Int)<=v5/\v5<aO p/\List.length (List.aG p v5)=(11:Nat)/\(0:Int)<=v5/\v5<aO q/\List.length (List.aG q v5)=(11:Nat)/\(∀(x:R),x∈List.take (8:Nat) (List.aG p v5)->R.dd x IntKind.i64)/\(∀(x:R),x∈List.take (8:Nat) (List.aG q v5)->R.dd x IntKind.i64)/\((!decide (List.map R.toInt (List.take (8:Nat) (List.aG p v5))=List.map R.toInt (List.take (8:Nat) (List.aG q v5))))=true->K (J.d (R.bool false)))/\((!decide (List.map R.toInt (List.take (8:Nat) (List.aG p v5))=List.map R.toInt (List.take (8:Nat) (List.aG q v5))))=false->(0:Int)<=v5/\v5<aO p/\R.isBool (List.getD (List.aG p v5) (8:Nat) R.undef)/\R.eJ (List.getD (List.aG p v5) (9:Nat) R.undef) IntKind.u32/\R.eJ (List.getD (List.aG p v5) (10:Nat) R.undef) IntKind.u32/\(0:Int)<=v5/\v5<aO q/\R.isBool (List.getD (List.aG q v5) (8:Nat) R.undef)/\R.eJ (List.getD (List.aG q v5) (9:Nat) R.undef) IntKind.u32/\R.eJ (List.getD (List.aG q v5) (10:Nat) R.undef) IntKind.u32/\(List.length (R.b2 (List.getD (List.aG p v5) (9:Nat) R.undef))<=(1000000000:Nat)/\List.length (R.b2 (List.getD (List.aG p v5) (10:Nat) R.undef))<=(1000000000:Nat)/\List.length (R.b2 (List.getD (List.aG q v5) (9:Nat) R.undef))<=(1000000000:Nat)/\List.length (R.b2 (List.getD (List.aG q v5) (10:Nat) R.undef))<=(1000000000:Nat))/\∀(x:Bool),x=decide (R.toBool (List.getD (List.aG p v5) (8:Nat) R.undef)=R.toBool (List.getD (List.aG q v5) (8:Nat) R.undef)/\R.b2 (List.getD (List.aG p v5) (9:Nat) R.undef)=R.b2 (List.getD (List.aG q v5) (9:Nat) R.undef)/\R.b2 (List.getD (List.aG p v5) (10:Nat) R.undef)=R.b2 (List.getD (List.aG q v5) (10:Nat) R.undef))->((!x)=true->K (J.d (R.bool false)))/\((!x)=false->aK (ah (v5+(1:Int)))/\m (ah (v5+(1:Int)))<m v5)))/\(decide (v5<aO p)=false->K (J.d (R.bool true))))
end ab
end
section
open Go Go.al
namespace ab
theorem Ip:df.length=8:=rfl
theorem RF (s:Bool)(a b:List Int):([R.int IntKind.i64 (0:Int),R.int IntKind.i64 (0:Int),R.int IntKind.i64 (0:Int),R.int IntKind.i64 (0:Int),R.int IntKind.i64 (0:Int),R.int IntKind.i64 (0:Int),R.int IntKind.i64 (0:Int),R.int IntKind.i64 (0:Int)]++[R.bool s,R.ad IntKind.u32 a,R.ad IntKind.u32 b]:Row)=et df s a b:=rfl
theorem WH (p q:Rows)(K:J->Prop)(h:D9.T [.d (.ar 11 p), .d (.ar 11 q)] K):L8 p q K:=by
 obtain⟨ay,ae⟩:=h;unfold L8 aO;have ax:(p++q).length<=1000000000:=by obtain⟨_,_,_,_,_,_,_,h⟩:=ay;exact h
 rw[ao0]at ax;refine⟨by omega, ?_⟩;rintro _ rfl;refine⟨by omega,ay, ?_⟩;rintro _ rfl;rw[apd];exact ae
theorem H9 (v:Nat):∀(p:List ba) (d:Int) (t:ba),jq v d (p++[t])=(if t.1.getD v 0>jq v d p then t.1.getD v 0 else jq v d p)
 |[],d,t=>rfl
 |u::p,d,t=>by rw[apO,jq,H9 v p,jq]
theorem QT:∀(p:List ba) (d:Int) (t:ba),jE d (p++[t])=(if lJ (t.1.getD 0 0) (t.1.drop 1)>jE d p then lJ (t.1.getD 0 0) (t.1.drop 1)else jE d p)
 |[],d,t=>rfl
 |u::p,d,t=>by rw[apO,jE,QT p,jE]
theorem eP.at {r:Row}(h:eP r){v:Nat}(aP:v<8):r.getD v .undef= .int .i64 ((dq r).getD v 0):=by
 obtain⟨oG,fT,fZ,hV,jG,jH,oH,r5,s,a,b,rfl⟩:=h
 match v,aP with
 |0,_=>rfl
 |1,_=>rfl
 |2,_=>rfl
 |3,_=>rfl
 |4,_=>rfl
 |5,_=>rfl
 |6,_=>rfl
 |7,_=>rfl
theorem VZ (p:Rows)(v:Int)(K:J->Prop)(h:Ec.T [.d (.ar 11 p), .d (.int .i64 v)] K):LQ p v K:=by
 obtain⟨⟨⟨bs,ax⟩,jb,ny⟩,ae⟩:=h;unfold LQ ah aO List.aG;refine⟨fun d w=>∃i:Nat,w=i/\i<=p.length/\d=jq v.toNat (-1) ((p.take i).map aM),fun _ w=>p.length-w.toNat,⟨0,rfl,by omega,rfl⟩, ?_⟩;rintro _ _ ⟨i,rfl,U,rfl⟩;simp only[ao1,aoC,aoB];refine⟨fun aW=> ?_,fun aW=> ?_⟩
 ·have hi:i<p.length:=by omega
  have an:=bs.get hi;rw[an.at (by omega)];refine⟨by omega,aW,an.len,jb,ny,rfl,⟨i+1,dX (by omega) (by omega),by omega, ?_⟩,by rw[dX (by omega) (by omega)];omega⟩;rw[mJ hi,apd];exact(H9 v.toNat ((p.take i).map aM) (-1) (aM (p.getD i []))).symm
 ·have:i=p.length:=by omega
  rw[this,apG];exact ae
theorem WI (p:Rows)(K:J->Prop)(h:Ed.T [.d (.ar 11 p)] K):L9 p K:=by
 obtain⟨⟨bs,ax⟩,ae⟩:=h;unfold L9 ah aO List.aG;refine⟨fun d w=>∃i:Nat,w=i/\i<=p.length/\d=jE 0 ((p.take i).map aM),fun _ w=>p.length-w.toNat,⟨0,rfl,by omega,rfl⟩, ?_⟩;rintro _ _ ⟨i,rfl,U,rfl⟩;simp only[ao1,aoC,aoB];refine⟨fun aW=> ?_,fun aW=> ?_⟩
 ·have hi:i<p.length:=by omega
  have an:=bs.get hi;have ams:(List.map R.toInt (List.take 8 (p.getD i []))).length=8:=by rw[aoF,ao3,an.len];rfl
  refine⟨by omega,aW,an.len,an.len,an.vl,⟨by omega,by omega⟩, ?_⟩;rintro _ rfl;refine⟨⟨i+1,dX (by omega) (by omega),by omega, ?_⟩,by rw[dX (by omega) (by omega)];omega⟩;rw[mJ hi,apd];exact(QT ((p.take i).map aM) 0 (aM (p.getD i []))).symm
 ·have:i=p.length:=by omega
  rw[this,apG];exact ae
theorem Ze (c:Rat)(p q:List ba):eN c (p++q)=eN c p++eN c q:=apd
theorem V4 (p:Rows)(s:Bool)(a b:List Int)(K:J->Prop)(h:CQ.T [.d (.ar 11 p), .agg [.d (.bool s), .d (.ad .u32 a), .d (.ad .u32 b)]] K):LW p s a b K:=by
 obtain⟨⟨k,c,j,iN,aI,bs,Aq,aR,ag,hle,FF,hlen⟩,ae⟩:=h;unfold LW ah List.aG List.eV List.eb List.ec;have aC:dp j (bb s a b):=dp.of aR ag aI;refine⟨by omega,fun x ai=> ?_⟩;have ai:=ai.symm;subst ai;refine⟨fun v o=>∃i:Nat,v=i/\i<=p.length/\o=br (eN (bb s a b) ((p.take i).map aM))++p.drop i,fun v _=>p.length-v.toNat,⟨rfl,0,rfl,by omega,rfl⟩, ?_⟩;rintro _ _ ⟨i,rfl,U,rfl⟩;have hJ:(br (eN (bb s a b) ((p.take i).map aM))).length=i:=by rw[fI,eN,aoF,aoF,ao3];omega
 simp only[ao1,aoC,aoB];refine⟨fun aW=> ?_,fun aW=> ?_⟩
 ·have hi:i<p.length:=by omega
  obtain⟨m,t,FR,d,e,hm,hU,aa,az⟩:=(bs _ (jR hi)).bP
  have nN:(br (eN (bb s a b) ((p.take i).map aM))++p.drop i).getD i []=et m t FR d:=by
   rw[aoA,apJ (by omega),hJ,Nat.sub_self,apZ,aoW,<-aoA,e]
  simp only[nN,jj hm,jk hm,jh hm,R.toBool,R.b2];refine⟨by omega,by rw[ao0,hJ,apI];omega,trivial,rfl,rfl,⟨aa.mono (by omega),az.mono (by omega),aR.mono (by omega),ag.mono (by omega)⟩, ?_⟩;rintro _ rfl _ rfl _ rfl;rw[wQ hm,dX (by omega) (by omega)];refine⟨by omega,by rw[ao0,hJ,apI];omega,trivial,⟨i+1,rfl,by omega, ?_⟩,by omega⟩;rw[List.set_append_right _ _ (by omega),hJ,Nat.sub_self,apU hi,List.set_cons_zero,mJ hi,e,apd,aqG,kO hm,Ze,qY,aqk];rfl
 ·have hi:i=p.length:=by omega
  have he:br (eN (bb s a b) ((p.take i).map aM))++p.drop i=br (eN (bb s a b) (p.map aM)):=by
   rw[hi,apG,List.drop_length,aqa]
  rw[he]
  have hU:∀t∈eN (bb s a b) (p.map aM),l4 t.1:=fun t au=>by
   obtain⟨u,hu,rfl⟩:=aoQ.1 au;obtain⟨r,an,rfl⟩:=aoQ.1 hu;exact(bs r an).oK
  have hw:=dA.scale aC aI (ux (fun r an=>(bs r an).xI) iN);refine⟨yl hw (by omega) hU (fun m=>by rw[BC,<-sz];exact Aq m) hle FF (by rw[eN,aoF,aoF];exact hlen), ?_⟩;rintro _ rfl;rw[fb fun t au=>(hU t au).1];exact ae
theorem w2:dp 1 (-1):=dp.one.neg
theorem adZ:(IntCast.intCast (-1:Int):Rat)=-1:=rfl
theorem WJ (p:Rows)(K:J->Prop)(h:D_.T [.d (.ar 11 p)] K):L_ p K:=by
 obtain⟨⟨k,c,iN,bs,Aq,hle,An,hlen⟩,ae⟩:=h;unfold L_;refine⟨⟨by decide,by decide⟩, ?_⟩;rintro _ rfl _ rfl _ rfl;rw[adZ];refine⟨⟨k,c,1,iN,aoE _,bs,Aq,w2.num,w2.den,hle,An,hlen⟩, ?_⟩;rintro _ rfl;rw[lp];exact ae
theorem WK (p q:Rows)(K:J->Prop)(h:Ea.T [.d (.ar 11 p), .d (.ar 11 q)] K):Ma p q K:=by
 obtain⟨⟨k,c,j,d,iN,aI,tL,iP,ajW,T1,a8,hle,hlen⟩,ae⟩:=h;unfold Ma;have U:1*(2*(k+d*(j+2))+2)<=(c+1)*(2*(k+d*(j+2))+2):=aoP _ (by omega);have aa:d*(2*(j+1)+2)=2*(d*(j+2)):=by rw[show 2*(j+1)+2=2*(j+2) by omega,apC]
 have az:1*(j+2)<=d*(j+2):=aoP _ a8;refine⟨⟨j,d,aI,iP,T1,by omega,by omega,by omega⟩, ?_⟩;rintro _ rfl
 have hU:∀t∈nrm (eN (-1) (q.map aM)),l4 t.1:=fun t au=>by
  obtain⟨u,hu,e⟩:=wJ au;obtain⟨x,ai,rfl⟩:=aoQ.1 hu;obtain⟨r,an,rfl⟩:=aoQ.1 ai;rw[<-e];exact(iP r an).oK
 have dc:=fun t au=>(hU t au).1
 have hw:dA (d*(j+2)) (nrm (eN (-1) (q.map aM))):=(dA.scale w2 (aoE _) (ux (fun r an=>(iP r an).xI) aI)).nrm fun m=>by
  rw[BC,<-sz];exact T1 m
 refine⟨?_, ?_⟩
 ·refine⟨k+d*(j+2),c+1,by omega,fun r an=> ?_,fun m=> ?_,hle,by omega, ?_⟩
  ·rcases apV.1 an with an|an
   ·exact(tL r an).mono (by omega)
   ·exact(wu hw hU r an).mono (by omega)
  ·rw[uh,oP dc];have:=ajW m;have:=(ih (eN (-1) (q.map aM))).ku m;omega
  ·have:=sy (eN (-1) (q.map aM));rw[eN,aoF,aoF,<-eN]at this;rw[ao0,fI];omega
 ·rintro _ rfl;rw[fb dc,aaQ];exact ae
theorem OX (s:ba)(q:List ba):∀p:List ba,da (p++[s]) q=da p q++gv s q
 |[]=>by show gv s q++[]=[]++gv s q;simp
 |t::p=>by show gv t q++da (p++[s]) q=(gv t q++da p q)++gv s q;rw[OX s q p,aqk]
theorem aaR (s t:ba)(q:List ba):gv s (q++[t])=gv s q++[(gi s.1 t.1,s.2*t.2)]:=apd
theorem yD (q:List ba):∀p:List ba,(da p q).length=p.length*q.length
 |[]=>by simp[da]
 |t::p=>by rw[da,ao0,yD q p,gv,aoF,apq,aoT,apM,Nat.add_comm]
theorem aeB {e:Int}{m:List Int}{c:Rat}(h:de e [(m,c)]):m.length=8/\∀x∈m,0<=x/\x<=e:=h (m,c) (by simp)
theorem QU {r:Row}{W:Nat}(h:gF W r)(he:de 2000000000000000000 [aM r]):∃(m:List Int) (s:Bool) (a b:List Int),r=et m s a b/\m.length=8/\(∀x∈m,-4000000000000000000<=x/\x<=4000000000000000000)/\bO W a/\bO W b:=by
 obtain⟨m,s,a,b,rfl,hm,U,aa⟩:=h;rw[kO hm]at he;exact⟨m,s,a,b,rfl,hm,fun x ai=>by have:=(aeB he).2 x ai;omega,U,aa⟩
theorem WL (p q:Rows)(K:J->Prop)(h:Eb.T [.d (.ar 11 p), .d (.ar 11 q)] K):Mb p q K:=by
 obtain⟨⟨tL,iP,k,j,c,iN,kq,T2,T3,agx,hle,FF,qp,Gc,j8⟩,ae⟩:=h;unfold Mb ah aO List.aG List.eV List.eb List.ec;have aC:((p.length:Nat):Int)*((q.length:Nat):Int)=((p.length*q.length:Nat):Int):=(apK _ _).symm;have Jh:IntKind.wrap .i64 (((p.length:Nat):Int)*((q.length:Nat):Int))=((p.length*q.length:Nat):Int):=by rw[aC];exact dX (by omega) (by omega)
 rw[Jh];refine⟨by omega,by omega,by omega,fun v o=>∃i:Nat,v=i/\i<=p.length/\o=br (da ((p.take i).map aM) (q.map aM)),fun v _=>p.length-v.toNat,⟨0,rfl,by omega,rfl⟩, ?_⟩;rintro _ _ ⟨i,rfl,U,rfl⟩;simp only[ao1,aoC,aoB];refine⟨fun aW=> ?_,fun aW=> ?_⟩
 ·have hi:i<p.length:=by omega
  have Ar:=jR hi;obtain⟨m,s,a,b,e,hm,hU,aR,ag⟩:=QU (T2 _ Ar) (tL _ Ar).1;have oi:(i+1)*q.length<=p.length*q.length:=aoP _ hi;rw[aoT,apM]at oi;rw[e];refine⟨by omega,by omega,jT hm,fun v o bz=>∃j:Nat,v=j/\j<=q.length/\o=br (da ((p.take i).map aM) (q.map aM)++gv (m,bb s a b) ((q.take j).map aM))/\bz=[et m s a b],fun v _ _=>q.length-v.toNat,⟨0,rfl,by omega,by simp[gv],rfl⟩, ?_⟩;rintro _ _ _ ⟨j,rfl,a6,rfl,rfl⟩;have hG:List.getD [et m s a b] 0 []=et m s a b:=rfl;simp only[ao1,aoC,aoB,hG];refine⟨fun bA=> ?_,fun bA=> ?_⟩
  ·have aI:j<q.length:=by omega
   have xC:=jR aI;obtain⟨n,t,FR,d,f,av,tg,j1,a8⟩:=QU (T3 _ xC) (iP _ xC).1;simp only[f,jT hm,jT av,n3 hm,n3 av,jj hm,jk hm,jh hm,jj av,jk av,jh av,qX,R.toBool,R.b2];refine⟨by omega,by omega,trivial,trivial,trivial,⟨⟨m,rfl,hm,hU⟩,⟨n,rfl,av,tg⟩⟩,trivial,rfl,rfl,trivial,rfl,rfl,⟨aR.mono (by omega),ag.mono (by omega),j1.mono (by omega),a8.mono (by omega)⟩, ?_⟩;rintro _ rfl _ rfl _ rfl;rw[dX (by omega) (by omega)];refine⟨?_,⟨j+1,rfl,by omega, ?_,trivial⟩,by omega⟩
   ·rw[fI,ao0,yD,gv,aoF,aoF,aoF,ao3,aoF,ao3,apL,aqW U,aqW a6];generalize i*q.length=z at*;omega
   ·rw[mJ aI,f,apd,aqG,kO av,aaR,<-aqk,qY _ [_]];rfl
  ·have aI:j=q.length:=by omega
   rw[dX (by omega) (by omega)];refine⟨⟨i+1,rfl,by omega, ?_⟩,by omega⟩;rw[mJ hi,e,apd,aqG,kO hm,OX,aI,apG]
 ·have hi:i=p.length:=by omega
  rw[hi,apG]
  have J2:de 2000000000000000000 (p.map aM):=fun t au=>by
   obtain⟨r,an,rfl⟩:=aoQ.1 au;exact(tL r an).1 _ (by simp)
  have J3:de 2000000000000000000 (q.map aM):=fun t au=>by
   obtain⟨r,an,rfl⟩:=aoQ.1 au;exact(iP r an).1 _ (by simp)
  have hU:=(J2.mul J3).oK (by decide);have hw:=dA.mul iN (ux T2 iN) (ux T3 kq)
  have Aq:∀m,ea m (da (p.map aM) (q.map aM))<=c:=fun m=>by
   rcases agx with⟨U,aa⟩|⟨U,aa⟩
   ·have:=yk m J3.len (fun x=>by rw[<-sz];exact aa x) J2.len;rw[aoF]at this;omega
   ·have:=Zd m J2.len (fun x=>by rw[<-sz];exact aa x) J3.len;rw[aoF]at this;omega
  refine⟨yl hw (by omega) hU Aq hle FF (by rw[yD,aoF,aoF];exact qp), ?_⟩;rintro _ rfl;rw[fb fun t au=>(hU t au).1];exact ae
theorem Vv (p:Rows)(K:J->Prop)(h:Ch.T [.d (.ar 11 p)] K):Lp p K:=by
 obtain⟨aU,ae⟩:=h;unfold Lp;refine⟨aU, ?_⟩;rintro _ rfl;refine⟨fun h=> ?_,fun h=> ?_⟩
 ·have h:=aoJ h;rw[aoy h,aoy h]at ae;exact ae
 ·have h:=aoN h;rw[aox h,aox h]at ae;exact ae
theorem sX {b:Bool}(h:(!b)=true):b=false:=by simpa using h
theorem p_ {b:Bool}(h:(!b)=false):b=true:=by simpa using h
theorem VS (v:Int)(K:J->Prop)(h:Ee.T [.d (.int .i64 v)] K):LK v K:=by
 obtain⟨_,ae⟩:=h;unfold LK;simp only[ao1,aoC];refine⟨fun h=> ?_,fun U=>⟨fun h=> ?_,fun aa=>⟨⟨by decide,by decide⟩, ?_⟩⟩⟩
 ·rw[aox (by omega),aox (by omega)]at ae;exact ae
 ·rw[aox (by omega),aox (by omega)]at ae;exact ae
 ·rintro _ rfl _ rfl _ rfl;rw[RF];refine⟨by omega,by omega,by rw[aoI];exact jT Ip, ?_⟩;rw[aoy (by omega),aoy (by omega)]at ae
  have e:(et df (cl ((1:Int):Rat)) (cj ((1:Int):Rat)) (ca ((1:Int):Rat))).set v.toNat (.int .i64 1)=hS (df.set v.toNat 1,kk):=by
   rw[et,List.set_append_left _ _ (by rw[kb];show v.toNat<8;omega),HL];rfl
  show K (.tup [.d (.ar 11 [(et df (cl ((1:Int):Rat)) (cj ((1:Int):Rat)) (ca ((1:Int):Rat))).set v.toNat (.int .i64 1)]), .d (.int .i64 0)]);rw[e];exact ae
theorem RG {e:Int}:∀{p:List ba} {d:Int},de e p->d<=e->jE d p<=e
 |[],_,_,a8=>a8
 |t::p,d,h,a8=>by
  rw[jE];refine RG (fun u hu=>h u (by simp[hu])) ?_;split
  ·have au:=h t (by simp)
   have:∀(l:List Int) (a:Int),a<=e->(∀x∈l,x<=e)->lJ a l<=e:=by
    intro l
    induction l with
    |nil=>intro a aR _;exact aR
    |cons x l bF=>
     intro a aR ax;rw[lJ];refine bF _ ?_ fun y bp=>ax y (by simp[bp]);split
     ·exact ax x (by simp)
     ·exact aR
   refine this _ _ ?_ fun x ai=>(au.2 x (List.mem_of_mem_drop ai)).2;have dc:=au.1;exact(au.2 _ (ln (by omega))).2
  ·exact a8
theorem N3 {P:List ba}{k:Nat}(hw:dA k P)(he:de 1024 P)(av:P.length<1000000000){K:J->Prop}(ae:K (.tup [.d (.ar 11 (br P)), .d (.int .i64 0)])):
 cI (br P)/\∀x:List (List R),(x=if(1024:Int)<jE 0 ((br P).map aM)then[]else br P)->∀y:Int,(y=if(1024:Int)<jE 0 ((br P).map aM)then 9 else 0)->K (.tup [.d (.ar 11 x), .d (.int .i64 y)]):=by
 refine⟨ui hw he.len av, ?_⟩
 have h:¬(1024:Int)<jE 0 ((br P).map aM):=by
  rw[fb he.len];have:=RG he (show(0:Int)<=1024 by decide);omega
 rintro _ rfl _ rfl;rw[aox h,aox h];exact ae
theorem Vn (g:Nat)(p q:Rows)(K:J->Prop)(h:(zc.T g) [.d (.ar 11 p), .d (.ar 11 q), .fn g] K):Lh p q K:=by
 unfold zc.T bg at h;simp only[apz]at h;obtain⟨⟨⟨hP,lf⟩,A,B,n,m,dE,ey,hle,mw⟩,ae⟩:=h;unfold Lh;refine⟨hP, ?_⟩;rintro _ rfl;refine⟨fun h=> ?_,fun U=>⟨lf, ?_⟩⟩
 ·have e:eT p q=false:=by rw[eT,sX h];rfl
  rw[e]at ae;exact ae
 ·rintro _ rfl;refine⟨fun h=> ?_,fun aa=> ?_⟩
  ·have e:eT p q=false:=by rw[eT,sX h,Bool.and_false]
   rw[e]at ae;exact ae
  ·have U:=p_ U;have aa:=p_ aa;have e:eT p q=true:=by rw[eT,U,aa];rfl
   rw[aoy e,aoy e]at ae;have ix:=(nk U hP.1).nrm;have eq:=(nk aa lf.1).nrm;have wp:=dE.gn;have tM:=ey.gn;have dh:=dE.m2;have l2:=ey.m2;refine⟨uj U hP dE (by omega), ?_⟩;rintro _ rfl;refine⟨uj aa lf ey (by omega), ?_⟩;rintro _ rfl;have Kj:dA (A+B+1) (nrm (p.map aM)++nrm (q.map aM)):=(wp.mono (by omega)).app (tM.mono (by omega))
   have xO:∀x,ea x (nrm (p.map aM)++nrm (q.map aM))<=2:=fun x=>by
    have:=(ih (p.map aM)).ku x;have:=(ih (q.map aM)).ku x;rw[wo];omega
   refine⟨?_, ?_⟩
   ·rw[aaP];exact yl Kj (by omega) ((ix.app eq).oK (by decide)) xO (by omega) (by omega) (by rw[ao0];omega)
   ·rintro _ rfl;have db:=Kj.nrm xO;rw[H6]at db;have l5:=sy (p.map aM++q.map aM);rw[ao0,aoF,aoF]at l5;have:=dE.len;have:=ey.len;rw[fb ix.len,fb eq.len,H6];exact N3 db ((nk U hP.1).app (nk aa lf.1)).nrm (by omega) ae
theorem Vo (g:Nat)(p q:Rows)(K:J->Prop)(h:(zd.T g) [.d (.ar 11 p), .d (.ar 11 q), .fn g] K):Li p q K:=by
 unfold zd.T bg at h;simp only[apz]at h;obtain⟨⟨⟨hP,lf⟩,A,B,n,m,dE,ey,hle,mw⟩,ae⟩:=h;unfold Li;refine⟨hP, ?_⟩;rintro _ rfl;refine⟨fun h=> ?_,fun U=>⟨lf, ?_⟩⟩
 ·have e:eT p q=false:=by rw[eT,sX h];rfl
  rw[e]at ae;exact ae
 ·rintro _ rfl;refine⟨fun h=> ?_,fun aa=> ?_⟩
  ·have e:eT p q=false:=by rw[eT,sX h,Bool.and_false]
   rw[e]at ae;exact ae
  ·have U:=p_ U;have aa:=p_ aa;have e:eT p q=true:=by rw[eT,U,aa];rfl
   rw[aoy e,aoy e]at ae;have ix:=(nk U hP.1).nrm;have eq:=(nk aa lf.1).nrm;have wp:=dE.gn;have tM:=ey.gn;have dh:=dE.m2;have l2:=ey.m2;refine⟨uj U hP dE (by omega), ?_⟩;rintro _ rfl;refine⟨uj aa lf ey (by omega), ?_⟩;rintro _ rfl;have w1:dA (A+1) (nrm (p.map aM)):=wp.mono (by omega);have db:dA (B+1) (nrm (q.map aM)):=tM.mono (by omega);have Gd:=fun x=>(ih (p.map aM)).ku x;have Ge:=fun x=>(ih (q.map aM)).ku x;refine⟨⟨A+1,1,B+1,1,by omega,by omega,wu w1 (ix.oK (by decide)),wu db (eq.oK (by decide)),fun x=>by rw[oP ix.len];exact Gd x,fun x=>by rw[oP eq.len];exact Ge x,by omega,by omega,by rw[fI,fI];omega⟩, ?_⟩;rintro _ rfl;rw[fb ix.len,fb eq.len];have b3:nrm (nrm (p.map aM)++eN (-1) (nrm (q.map aM)))=nrm (p.map aM++eN (-1) (q.map aM)):=oO fun m=>by rw[mN,mN,BA,BA,mM,mM]
   have bX:dA (A+B+2) (nrm (p.map aM)++eN (-1) (nrm (q.map aM))):=(wp.mono (by omega)).app ((tM.scale w2 (aoE _)).mono (by omega))
   have j_:=bX.nrm (c:=2) fun x=>by
    have:=Gd x;have:=Ge x;rw[wo,BC];omega
   rw[b3]at j_⊢;have l5:=sy (p.map aM++eN (-1) (q.map aM));rw[ao0,eN,aoF,aoF,aoF,<-eN]at l5;have:=dE.len;have:=ey.len;exact N3 j_ ((nk U hP.1).app ((nk aa lf.1).scale _)).nrm (by omega) ae
theorem VT (p q:Rows)(K:J->Prop)(h:Ef.T [.d (.ar 11 p), .d (.ar 11 q)] K):LL p q K:=by
 obtain⟨U,ae⟩:=h;unfold LL;refine⟨U, ?_⟩;rintro _ rfl _ rfl;exact ae
theorem VU (p q:Rows)(K:J->Prop)(h:Eg.T [.d (.ar 11 p), .d (.ar 11 q)] K):LM p q K:=by
 obtain⟨U,ae⟩:=h;unfold LM;refine⟨U, ?_⟩;rintro _ rfl _ rfl;exact ae
theorem IE {n:Int}{p q:List ba}:hi n p q=true↔∃v:Nat,v<8/\ow n p q v=true:=by
 unfold hi;simp only[ap3];constructor
 ·rintro(((((((h|h)|h)|h)|h)|h)|h)|h)
  ·exact⟨0,by omega,h⟩
  ·exact⟨1,by omega,h⟩
  ·exact⟨2,by omega,h⟩
  ·exact⟨3,by omega,h⟩
  ·exact⟨4,by omega,h⟩
  ·exact⟨5,by omega,h⟩
  ·exact⟨6,by omega,h⟩
  ·exact⟨7,by omega,h⟩
 ·rintro⟨v,aP,h⟩
  match v,aP with
  |0,_=>simp[h]
  |1,_=>simp[h]
  |2,_=>simp[h]
  |3,_=>simp[h]
  |4,_=>simp[h]
  |5,_=>simp[h]
  |6,_=>simp[h]
  |7,_=>simp[h]
theorem DH {a b:Int}{v:Nat}:∀{p:List ba} {d:Int},(∀t∈p,a<=t.1.getD v 0/\t.1.getD v 0<=b)->a<=d->d<=b->a<=jq v d p/\jq v d p<=b
 |[],d,_,U,aa=>⟨U,aa⟩
 |t::p,d,h,U,aa=>by
  rw[jq];have au:=h t (by simp);refine DH (fun u hu=>h u (by simp[hu])) ?_ ?_
  ·split
   ·exact au.1
   ·exact U
  ·split
   ·exact au.2
   ·exact aa
theorem QV {p:Rows}(h:xe p)(bs:c7 p){v:Nat}(aP:v<8):-1000000000000<=fG (p.map aM) v/\fG (p.map aM) v<=1000000000000:=by
 refine DH (fun t au=> ?_) (by decide) (by decide);obtain⟨r,an,rfl⟩:=aoQ.1 au;exact h r an _ (ln (by rw[dq,aoF,ao3,(bs r an).len];omega))
theorem RH (x:Int):(if x<0 then(0:Int)else x)=max x 0:=by omega
theorem Vw (p:Rows)(n:Int)(q:Rows)(K:J->Prop)(h:Eh.T [.d (.ar 11 p), .d (.int .i64 n), .d (.ar 11 q)] K):Lq p n q K:=by
 obtain⟨⟨⟨hP,lf⟩,⟨mp,amt⟩,Fy,Fx⟩,ae⟩:=h;unfold Lq ah;refine⟨fun v=>∃i:Nat,v=i/\i<=8/\∀j,j<i->ow n (p.map aM) (q.map aM) j=false,fun v=>8-v.toNat,⟨0,rfl,by omega,fun j aI=>by omega⟩, ?_⟩;rintro _ ⟨i,rfl,U,aa⟩;simp only[ao1,aoC,aoB];refine⟨fun aW=>⟨⟨hP,by omega,by omega⟩, ?_⟩,fun aW=> ?_⟩
 ·rintro _ rfl;refine⟨⟨lf,by omega,by omega⟩, ?_⟩;rintro _ rfl;have cZ:=QV mp hP.1 (v:=i) (by omega);have di:=QV amt lf.1 (v:=i) (by omega);rw[RH,RH];have e:ow n (p.map aM) (q.map aM) i=decide (1024<n*max (fG (p.map aM) i) 0+max (fG (q.map aM) i) 0):=rfl;generalize fG (p.map aM) i=x at*;generalize fG (q.map aM) i=y at*;have oG:0<=max x 0:=by omega
  have fT:max x 0<=1000000000000:=by omega
  have UX:0<=n*max x 0:=Int.mul_nonneg Fy oG;have je:n*max x 0<=1000*1000000000000:=Int.mul_le_mul Fx fT oG (by decide);have w1:IntKind.wrap .i64 (n*max x 0)=n*max x 0:=bR (by omega);rw[w1,bR (by omega)];refine⟨fun bA=> ?_,fun bA=>⟨⟨i+1,dX (by omega) (by omega),by omega,fun j aI=> ?_⟩,by rw[dX (by omega) (by omega)];omega⟩⟩
  ·have:hi n (p.map aM) (q.map aM)=true:=IE.2 ⟨i,by omega,by rw[e];exact ap_ bA⟩;rw[this]at ae;exact ae
  ·by_cases Am:j=i
   ·rw[Am,e];exact ap5 bA
   ·exact aa j (by omega)
 ·have:hi n (p.map aM) (q.map aM)=false:=by
   cases b6:hi n (p.map aM) (q.map aM)with
   |false=>rfl
   |true=>
    obtain⟨v,aP,mx⟩:=IE.1 b6;rw[aa v (by omega)]at mx;cases mx
  rw[this]at ae;exact ae
theorem de.oz {e:Int}{p:List ba}(h:de e p)(he:e<=1000000000000):xe (br p):=fun r an x ai=>by
 obtain⟨t,au,rfl⟩:=aoQ.1 an;have aA:dq (hS t)=t.1:=q7 (h t au).1;rw[aA]at ai;have:=(h t au).2 x ai;omega
theorem de.SK {e:Int}{p:List ba}{k:Nat}(h:de e p)(he:e<=2000000000000000000)(hw:dA k p):∀r∈br p,de 2000000000000000000 [aM r]/\eP r:=fun r an=>by
 refine⟨?_,(l9 hw h.len r an).row⟩;obtain⟨t,au,rfl⟩:=aoQ.1 an;rw[CP (h t au).1];intro u hu;rw[apo.1 hu];exact h.mono he t au
theorem VV (p q:Rows)(K:J->Prop)(h:Ej.T [.d (.ar 11 p), .d (.ar 11 q)] K):LN p q K:=by
 obtain⟨⟨⟨hP,lf⟩,A,B,n,m,dE,ey,hle,mw,ajX,ajY⟩,ae⟩:=h;unfold LN;refine⟨hP, ?_⟩;rintro _ rfl;refine⟨fun h=> ?_,fun U=>⟨lf, ?_⟩⟩
 ·have e:eT p q=false:=by rw[eT,sX h];rfl
  rw[rB,e]at ae;exact ae
 ·rintro _ rfl;refine⟨fun h=> ?_,fun aa=> ?_⟩
  ·have e:eT p q=false:=by rw[eT,sX h,Bool.and_false]
   rw[rB,e]at ae;exact ae
  ·have U:=p_ U;have aa:=p_ aa;have e:eT p q=true:=by rw[eT,U,aa];rfl
   rw[rB,e,aqK,aoy rfl]at ae;have ix:=(nk U hP.1).nrm;have eq:=(nk aa lf.1).nrm;have wp:=dE.gn;have tM:=ey.gn;refine⟨uj U hP dE ajX, ?_⟩;rintro _ rfl;refine⟨uj aa lf ey ajY, ?_⟩;rintro _ rfl;have Gc:=dE.m2;have j8:=ey.m2;have a6:1<=A:=by obtain⟨_,_,g1,_,_,_,g2,_⟩:=dE;omega
   have bj:1<=B:=by obtain⟨_,_,g1,_,_,_,g2,_⟩:=ey;omega
   have Gd:=fun x=>(ih (p.map aM)).ku x;have Ge:=fun x=>(ih (q.map aM)).ku x;have ajZ:=sy (p.map aM);have aj0:=sy (q.map aM);rw[aoF]at ajZ aj0;have an8:=hP.2;have an9:=lf.2
   have hW:xd (br (nrm (p.map aM))) (br (nrm (q.map aM))):=by
    refine⟨ix.SK (by decide) wp,eq.SK (by decide) tM,A,B,if n*(2*(A+B)+2)<=900000 then n else m,a6,bj,l9 wp ix.len,l9 tM eq.len, ?_, ?_,by omega, ?_,by rw[fI];omega,by rw[fI];omega⟩
    ·split
     ·exact .inl ⟨by rw[fI];exact Gc,fun x=>by rw[oP eq.len];exact Ge x⟩
     ·exact .inr ⟨by rw[fI];exact j8,fun x=>by rw[oP ix.len];exact Gd x⟩
    ·split
     ·assumption
     ·rename_i h;exact hle.resolve_left h
    ·rw[fI,fI];have:=ap7 Gc j8;omega
   have fin:∀x:List (List R),x=br (nrm (da ((br (nrm (p.map aM))).map aM) ((br (nrm (q.map aM))).map aM)))->x=br (nrm (da (p.map aM) (q.map aM))):=by
    rintro _ rfl;rw[fb ix.len,fb eq.len,H7]
   rw[fI,fI]
   have SL:∀l:List ba,decide ((0:Int)<((l.length:Nat):Int))= !decide (l=[]):=fun l=>by
    cases l with
    |nil=>rfl
    |cons t l=>simp
   rw[SL,SL];refine⟨fun g1=>⟨fun g2=>⟨⟨⟨ui wp ix.len (by omega),ui tM eq.len (by omega)⟩,⟨ix.oz (by decide),eq.oz (by decide)⟩,by decide,by decide⟩, ?_⟩,fun g2=>⟨hW, ?_⟩⟩,fun g1=>⟨hW, ?_⟩⟩
   ·rintro _ rfl;rw[fb ix.len,fb eq.len];have AW:na (nrm (p.map aM)) (nrm (q.map aM))=hi 1 (nrm (p.map aM)) (nrm (q.map aM)):=by rw[na,g1,g2,aqK,aqK]
    rw[AW]at ae;refine⟨fun h=> ?_,fun h=>⟨hW, ?_⟩⟩
    ·rw[h]at ae;exact ae
    ·rw[h]at ae;intro x ai;rw[fb ix.len,fb eq.len]at fin;rw[fin x ai];exact ae
   ·have AW:na (nrm (p.map aM)) (nrm (q.map aM))=false:=by rw[na,g2,Bool.and_false];rfl
    rw[AW]at ae;intro x ai;rw[fin x ai];exact ae
   ·have AW:na (nrm (p.map aM)) (nrm (q.map aM))=false:=by rw[na,g1];rfl
    rw[AW]at ae;intro x ai;rw[fin x ai];exact ae
theorem Vf (p:Rows)(v:Int)(K:J->Prop)(h:DD.T [.d (.ar 11 p), .d (.int .i64 v)] K):La p v K:=by
 obtain⟨⟨hP,jM⟩,ae⟩:=h;unfold La;refine⟨hP, ?_⟩;rintro _ rfl;simp only[ao1,aoC];refine⟨fun h=> ?_,fun U=>⟨fun h=> ?_,fun aa=>⟨fun h=> ?_,fun az=>⟨uj (p_ U) hP jM (aoE _), ?_⟩⟩⟩⟩
 ·have e:gI p v=2:=by rw[gI,sX h];rfl
  rw[e]at ae;exact ae
 ·have e:gI p v=1:=by rw[gI,aoy (p_ U),aox (by omega)]
  rw[e]at ae;exact ae
 ·have e:gI p v=1:=by rw[gI,aoy (p_ U),aox (by omega)]
  rw[e]at ae;exact ae
 ·rintro _ rfl;have e:gI p v=0:=by rw[gI,aoy (p_ U),aoy (by omega)]
  rw[e]at ae;exact ae
theorem RI {p:Rows}{v:Int}(h:gI p v=0):hK p=true/\0<=v/\v<8:=by
 unfold gI at h;split at h
 ·split at h
  ·rename_i U aa;exact⟨U,aa⟩
  ·cases h
 ·cases h
theorem VA (p:Rows)(v:Int)(K:J->Prop)(h:Ek.T [.d (.ar 11 p), .d (.int .i64 v)] K):Lt p v K:=by
 obtain⟨⟨hP,jM⟩,ae⟩:=h;unfold Lt;refine⟨⟨hP,jM⟩, ?_⟩;rintro _ rfl _ rfl;refine⟨fun h=> ?_,fun h=> ?_⟩
 ·have h:¬gI p v=0:=by simpa using h
  rw[aox h]at ae;exact ae
 ·have h:gI p v=0:=by simpa using h
  obtain⟨U,aa,az⟩:=RI h;rw[aoy h,h]at ae;rw[aoy h];have ix:=(nk U hP.1).nrm;refine⟨⟨ui jM.gn ix.len (by have:=sy (p.map aM);rw[aoF]at this;have:=hP.2;omega),aa,az⟩, ?_⟩;rintro _ rfl;rw[fb ix.len];exact ae
theorem acv {v:Nat}{p:List ba}{t:ba}(h:t∈u0 v p):∃u∈p,0<u.1.getD v 0/\t=(u.1.set v (u.1.getD v 0-1),u.2*((u.1.getD v 0:Int):Rat)):=by
 obtain⟨u,hu,rfl⟩:=aoQ.1 h;rw[apn]at hu;exact⟨u,hu.1,aoJ hu.2,rfl⟩
theorem de.u0 {e:Int}{p:List ba}(h:de e p){v:Nat}:de e (u0 v p):=fun t au=>by
 obtain⟨u,hu,bc,rfl⟩:=acv au;refine⟨by rw[aoI];exact(h u hu).1,fun x ai=> ?_⟩;rcases ap9 ai with ai|rfl
 ·exact(h u hu).2 x ai
 ·by_cases ax:v<u.1.length
  ·have:=(h u hu).2 _ (ln ax);omega
  ·rw[aoA,ape (by omega)]at bc;simp at bc
theorem acw {n:Int}(h:n.natAbs<4294967296):dp 1 (n:Rat):=by
 refine⟨by rw[Rat.num_intCast];simpa using h,by rw[Rat.den_intCast];decide⟩
theorem dA.u0 {k:Nat}{e:Int}(he:e<4294967296){v:Nat}(aP:v<8){p:List ba}(cW:de e p)(h:dA k p):dA (k+1) (u0 v p):=fun t au=>by
 obtain⟨u,hu,rfl⟩:=aoQ.1 au;have hu:=(apn.1 hu).1;have ai:=cW u hu;have ag:=ai.2 _ (ln (m:=u.1) (i:=v) (by have:=ai.1;omega));exact(h u hu).mul (acw (by omega)) (by omega)
theorem Sd {m:List Int}{s:Bool}{a b:List Int}(hm:m.length=8){v:Nat}(aP:v<8):(et m s a b).getD v .undef= .int .i64 (m.getD v 0):=by
 rw[et,aoA,apt (by rw[kb];omega),<-aoA,yx _ _ (by omega)]
theorem CX {m:List Int}{s:Bool}{a b:List Int}(hm:m.length=8){v:Nat}(aP:v<8)(x:Int):(et m s a b).set v (.int .i64 x)=et (m.set v x) s a b:=by
 rw[et,List.set_append_left _ _ (by rw[kb];omega),HL];rfl
theorem eP.at' {r:Row}(h:eP r){v:Nat}(aP:v<8):(r.take 8).getD v .undef= .int .i64 ((dq r).getD v 0):=by
 rw[<-h.at aP,aoA,aps,aoy aP,<-aoA]
theorem BS {p:Rows}{r:Row}(an:r∈p){x:Int}(ai:x∈dq r)(h:x<0\/1024<x):hK p=false:=by
 cases aP:hK p with
 |false=>rfl
 |true=>
  have U:=aoR.1 aP r an;have:=aoR.1 U x ai;simp at this;omega
theorem VJ (p:Rows)(K:J->Prop)(h:wR.T [.d (.ar 11 p)] K):LA p K:=by
 obtain⟨⟨bs,ax⟩,ae⟩:=h;unfold LA ah aO List.aG;refine⟨fun w=>∃i:Nat,w=i/\i<=p.length/\∀j,j<i->tw (dq (p.getD j []))=true,fun w=>p.length-w.toNat,⟨0,rfl,by omega,fun j aI=>by omega⟩, ?_⟩;rintro _ ⟨i,rfl,U,aa⟩;simp only[ao1,aoC,aoB];refine⟨fun aW=> ?_,fun aW=> ?_⟩
 ·have hi:i<p.length:=by omega
  have an:=bs.get hi;have ams:(dq (p.getD i [])).length=8:=by rw[dq,aoF,ao3,an.len];rfl
  refine⟨by omega,aW,an.len,an.len,fun w=>∃j:Nat,w=j/\j<=8/\∀k,k<j->0<=(dq (p.getD i [])).getD k 0/\(dq (p.getD i [])).getD k 0<=1024,fun w=>8-w.toNat,⟨trivial,0,rfl,by omega,fun j aI=>by omega⟩, ?_⟩;rintro _ ⟨j,rfl,a6,bj⟩;simp only[ao1,aoC,aoB];refine⟨fun bA=> ?_,fun bA=> ?_⟩
  ·have aI:j<8:=by omega
   simp only[an.at' aI,R.toInt];have hm:=ln (m:=dq (p.getD i [])) (i:=j) (by omega);refine⟨by omega,bA,rfl,fun bZ=> ?_,fun bZ=>⟨fun fo=> ?_,fun fo=>⟨trivial,⟨j+1,dX (by omega) (by omega),by omega,fun k ae=> ?_⟩,by rw[dX (by omega) (by omega)];omega⟩⟩⟩
   ·rw[BS (jR hi) hm (.inl bZ)]at ae;exact ae
   ·rw[BS (jR hi) hm (.inr fo)]at ae;exact ae
   ·by_cases e:k=j
    ·rw[e];omega
    ·exact bj k (by omega)
  ·refine⟨⟨i+1,dX (by omega) (by omega),by omega,fun k ae=> ?_⟩,by rw[dX (by omega) (by omega)];omega⟩
   by_cases e:k=i
   ·rw[e,tw,aoR];intro x ai;obtain⟨n,av,rfl⟩:=aqu ai;have:=bj n (by omega);rw[aoA,aoM av]at this;simpa using this
   ·exact aa k (by omega)
 ·have aP:hK p=true:=aoR.2 fun r an=>by
   obtain⟨n,av,rfl⟩:=aqu an;have:=aa n (by omega);rwa [aoA,aoM av]at this
  rw[aP]at ae;exact ae
theorem Vx (p q:Rows)(K:J->Prop)(h:DE.T [.d (.ar 11 p), .d (.ar 11 q)] K):Lr p q K:=by
 obtain⟨⟨tL,iP,Gc,j8⟩,ae⟩:=h;unfold Lr ah aO List.aG;refine⟨fun h=> ?_,fun h=> ?_⟩
 ·have h:¬(p.length:Int)=q.length:=by simpa using h
  rw[ap5 fun e=>h (by have:=apb List.length e;simp only[aoF]at this;omega)]at ae;exact ae
 ·have ax:(p.length:Int)=q.length:=by simpa using h
  refine⟨fun w=>∃i:Nat,w=i/\i<=p.length/\∀j,j<i->iq (p.getD j [])=iq (q.getD j []),fun w=>p.length-w.toNat,⟨0,rfl,by omega,fun j aI=>by omega⟩, ?_⟩;rintro _ ⟨i,rfl,U,aa⟩;simp only[ao1,aoC,aoB];refine⟨fun aW=> ?_,fun aW=> ?_⟩
  ·have hi:i<p.length:=by omega
   have eL:i<q.length:=by omega
   have dg:iq (p.getD i [])≠iq (q.getD i [])->decide (p.map iq=q.map iq)=false:=fun av=>ap5 fun e=>av (by
    have:=apb (fun l:List (List Int×Bool×List Int×List Int)=>l[i]?) e;simp only[apu,aoM hi,aoM eL,apE,aoU]at this
    rw[aoA,aoA,aoM hi,aoM eL];exact this)
   have UY:=tL _ (jR hi);have UZ:=iP _ (jR eL);have ip:=UY.row;have Ga:=UZ.row;obtain⟨m,s,a,b,e,hm,aR,ag⟩:=UY;obtain⟨n,t,c,d,f,av,aC,a8⟩:=UZ;rw[e,f]at dg;rw[e]at ip;rw[f]at Ga;have a6:iq (et m s a b)=(m,s,a,b):=by rw[iq,q7 hm,jj hm,jk hm,jh hm];rfl
   have bj:iq (et n t c d)=(n,t,c,d):=by rw[iq,q7 av,jj av,jk av,jh av];rfl
   rw[a6,bj]at dg;have tE:=ip.vl;have eS:=Ga.vl;simp only[jT hm,jT av,n3 hm,n3 av,jj hm,jk hm,jh hm,jj av,jk av,jh av,nS,R.toBool,R.b2]at tE eS;simp only[e,f,jT hm,jT av,n3 hm,n3 av,jj hm,jk hm,jh hm,jj av,jk av,jh av,nS,R.toBool,R.b2];refine⟨by omega,aW,trivial,by omega,by omega,trivial,tE,eS,fun bA=> ?_,fun bA=> ?_⟩
   ·have bA:m≠n:=by simpa using bA
    rw[dg fun e=>bA (apb Prod.fst e)]at ae;exact ae
   ·have bA:m=n:=by simpa using bA
    have:=aR.2;have:=ag.2;have:=aC.2;have:=a8.2;refine⟨by omega,aW,trivial,rfl,rfl,by omega,by omega,trivial,rfl,rfl,⟨by omega,by omega,by omega,by omega⟩, ?_⟩;rintro _ rfl;refine⟨fun bZ=> ?_,fun bZ=>⟨⟨i+1,dX (by omega) (by omega),by omega,fun j aI=> ?_⟩,by rw[dX (by omega) (by omega)];omega⟩⟩
    ·have bZ:¬(s=t/\a=c/\b=d):=aoN (sX bZ);rw[dg fun e=>bZ (by simp only[aoZ]at e;exact e.2)]at ae;exact ae
    ·by_cases aL:j=i
     ·have bZ:s=t/\a=c/\b=d:=by simpa using bZ
      rw[aL,e,f,a6,bj,bA,bZ.1,bZ.2.1,bZ.2.2]
     ·exact aa j (by omega)
  ·have:decide (p.map iq=q.map iq)=true:=ap_ (aqF (by simp;omega) fun n av mA=>by
    have:=aa n (by rw[aoF]at av;omega);rw[aoF]at av mA;rw[aoA,aoA,aoM av,aoM mA]at this
    rw[List.getElem_map,List.getElem_map];exact this)
   rw[this]at ae;exact ae
end ab
end
section
open Go Go.al
namespace ab
def T4 (x:Nat->Rat):Nat->List Int->Rat
 |_,[]=>1
 |i,a::m=>x i^a.toNat*T4 x (i+1) m
def aY (x:Nat->Rat)(p:List ba):Rat:=dU (T4 x 0) p
def lg (p:List ba):Prop:=∀t∈p,t.1.length=8/\∀y∈t.1,0<=y
theorem lg.app {p q:List ba}(h:lg p)(g:lg q):lg (p++q):=fun t au=>(apV.1 au).elim (h t) (g t)
theorem lg.nrm {p:List ba}(h:lg p):lg (nrm p):=fun t au=>by
 obtain⟨u,hu,e⟩:=wJ au;rw[<-e];exact h u hu
theorem lg.scale {p:List ba}(h:lg p)(c:Rat):lg (eN c p):=fun t au=>by
 obtain⟨u,hu,rfl⟩:=aoQ.1 au;exact h u hu
theorem lg.mul {p q:List ba}(h:lg p)(g:lg q):lg (da p q):=fun t au=>by
 obtain⟨u,hu,v,aP,rfl⟩:=Ci au;refine⟨by rw[yy _ _ (by rw[(h u hu).1,(g v aP).1])];exact(h u hu).1,fun x ai=> ?_⟩;obtain⟨y,bp,z,bq,rfl⟩:=HM ai;have:=(h u hu).2 y bp;have:=(g v aP).2 z bq;omega
theorem lg.cons {t:ba}{p:List ba}(h:lg (t::p)):lg p:=fun u hu=>h u (by simp[hu])
def code (N:Nat):List Int->Nat
 |[]=>0
 |a::m=>a.toNat*N^m.length+code N m
def pt (T:Rat)(N n:Nat):Nat->Rat:=fun i=>T^N^(n-1-i)
end ab
end
section
open Go Go.al
namespace ab
theorem Cn {p:List ba}(h:de 1024 p):hK (br p)=true:=aoR.2 fun r an=>by
 obtain⟨t,au,rfl⟩:=aoQ.1 an;have e:dq (hS t)=t.1:=q7 (h t au).1;rw[e,tw,aoR];intro x ai;have:=(h t au).2 x ai;simp;omega
theorem yN {k:Nat}{p:List ba}(h:dA k p)(he:de 1024 p)(av:p.length<1000000000):cI (br p):=ui h he.len av
theorem CY {p:List ba}(h:dA 1 p)(dc:∀t∈p,t.1.length=8)(av:p.length<=2):Raw 4 2 (br p):=
 H5 (n:=2) (l9 h dc) (aoE _) (by rw[fI];exact av) (by decide)
theorem QW {p q:List ba}(h:dA 1 p)(he:de 1024 p)(g:dA 1 q)(ge:de 1024 q)(aE:p.length<=2)(a_:q.length<=2):o4 (br p) (br q):=
 ⟨⟨yN h he (by omega),yN g ge (by omega)⟩,4,4,2,2,CY h he.len aE,CY g ge.len a_,by decide,by decide⟩
theorem ad0 {p q:List ba}(h:dA 1 p)(he:de 1024 p)(g:dA 1 q)(ge:de 1024 q)(aE:p.length<=2)(a_:q.length<=2):Ei (br p) (br q):=
 ⟨⟨yN h he (by omega),yN g ge (by omega)⟩,4,4,2,2,CY h he.len aE,CY g ge.len a_, .inl (by decide),by decide,by decide,by decide⟩
theorem QX {p q:List ba}(h:de 1024 p)(g:de 1024 q):eT (br p) (br q)=true:=by rw[eT,Cn h,Cn g];rfl
theorem zg {e:Int}{p:List ba}(h:(p.all fun t=>decide (t.1.length=8)&&t.1.all fun x=>decide (0<=x)&&decide (x<=e))=true):de e p:=fun t au=>by
 have:=aoR.1 h t au;rw[aoL]at this;refine⟨aoJ this.1,fun x ai=> ?_⟩;have:=aoR.1 this.2 x ai;simpa using this
theorem yO {p:List ba}(h:∀t∈p,t.2=1\/t.2=-1):dA 1 p:=fun t au=>by
 rcases h t au with e|e<;>rw[e]
 ·exact dp.one
 ·exact w2
structure fp (e:Int)(K n:Nat)(l:Rows):Prop where
 raw:Raw K n l
 hF:de e (l.map aM)
theorem fp.ar {e:Int}{K n:Nat}{l:Rows}(h:fp e K n l):c7 l:=fun r an=>(h.raw.ar r an).row
theorem fp.aU {e:Int}{K n:Nat}{l:Rows}(h:fp e K n l)(av:n<1000000000):cI l:=⟨h.ar,by have:=h.raw.len;omega⟩
theorem fp.a8 {e:Int}{K n:Nat}{l:Rows}(h:fp e K n l)(he:e<=1024):hK l=true:=aoR.2 fun r an=>by
 rw[tw,aoR];intro x ai;have:=(h.hF (aM r) (aqQ an)).2 x ai;simp;omega
theorem fp.aP {e f:Int}{K bm n m:Nat}{p q:Rows}(h:fp e K n p)(g:fp f bm m q)(he:e<=1024)(aU:f<=1024):eT p q=true:=by rw[eT,h.a8 he,g.a8 aU];rfl
theorem fp.mono {e f:Int}{K bm n m:Nat}{l:Rows}(h:fp e K n l)(he:e<=f)(gM:K<=bm)(av:n<=m):fp f bm m l:=⟨h.raw.mono gM av,h.hF.mono he⟩
theorem fp.of {e:Int}{k n:Nat}{p:List ba}(h:dA k (nrm p))(ae:1<=k)(he:de e p)(av:(nrm p).length<=n):fp e (k+1) n (br (nrm p)):=
 ⟨acr h ae he.nrm.len (fun m=>(ih p).ku m) av,by rw[fb he.nrm.len];exact he.nrm⟩
theorem Raw.pos {K n:Nat}{l:Rows}(h:Raw K n l):1<=K:=by obtain⟨_,_,g1,_,_,_,g2,_⟩:=h;omega
theorem Ep {e:Int}(bc:0<=e){v:Nat}:∀{p:List ba} {d:Int},de e p->d<=e->v<8->jq v d p<=e
 |[],d,_,a8,_=>a8
 |t::p,d,h,a8,aP=>by
  have au:=h t (by simp);have:=au.2 _ (ln (m:=t.1) (i:=v) (by have:=au.1;omega));rw[jq];exact Ep bc (fun u hu=>h u (by simp[hu])) (by split<;>omega) aP
theorem aeC {e f:Int}{p q:List ba}(aE:de e p)(a_:de f q)(bc:0<=e)(f0:0<=f)(h:e+f<=1024):na p q=false:=by
 cases b6:na p q with
 |false=>rfl
 |true=>
  unfold na at b6;simp only[aoL]at b6;obtain⟨v,aP,ai⟩:=IE.1 b6.2;unfold ow at ai;have ai:=aoJ ai;have U:=Ep bc (d:=-1) aE (by omega) aP;have aa:=Ep f0 (d:=-1) a_ (by omega) aP;unfold fG at ai;omega
theorem fp.mul {e f:Int}{K bm n m:Nat}{p q:Rows}(h:fp e K n p)(g:fp f bm m q)(he:0<=e/\0<=f/\e+f<=1024)(aC:(n*(2*(K+bm)+2)<=900000\/m*(2*(K+bm)+2)<=900000)/\n*m<=999999999/\n<1000000000/\m<1000000000/\K<=400000/\bm<=400000/\1<=n):
 Ei p q/\∀{x:Rows} {c:Int},x=br (if rB p q=true then nrm (da (p.map aM) (q.map aM))else[])->(c=if eT p q=true then(if na (nrm (p.map aM)) (nrm (q.map aM))=true then 9 else 0)else 2)->
  c=0/\x=br (nrm (da (p.map aM) (q.map aM)))/\fp (e+f) (n*(K+bm+1)+1) (n*m) x/\x.map aM=nrm (da (p.map aM) (q.map aM)):=by
 obtain⟨U,aa,az⟩:=he;obtain⟨e3,eY,j7,pD,pE,tH,AX⟩:=aC;refine⟨⟨⟨h.aU j7,g.aU pD⟩,K,bm,n,m,h.raw,g.raw,e3,eY,pE,tH⟩, ?_⟩;have aP:=h.aP g (by omega) (by omega);have b6:=aeC h.hF.nrm g.hF.nrm U aa az;have hm:rB p q=true:=by rw[rB,aP,b6];rfl
 intro x c ai lQ;rw[aoy hm]at ai;rw[aoy aP,b6]at lQ;have hF:=h.hF.mul g.hF;have a6:=h.raw.pos;have bj:=g.raw.pos;have er:=dA.mul a6 h.raw.gn g.raw.gn
 have w1:dA (n*(K+bm+1)) (nrm (da (nrm (p.map aM)) (nrm (q.map aM)))):=er.nrm fun y=>
  aoS (yk y g.hF.nrm.len (fun z=>(ih (q.map aM)).ku z) h.hF.nrm.len) h.raw.m2
 rw[H7]at w1
 have len:(nrm (da (p.map aM) (q.map aM))).length<=n*m:=by
  rw[<-H7];refine wq ?_;rw[yD];exact ap7 h.raw.m2 g.raw.m2
 have ae:1<=n*(K+bm+1):=Nat.mul_pos AX (by omega);refine⟨lQ,ai, ?_, ?_⟩
 ·rw[ai];exact fp.of w1 ae hF len
 ·rw[ai,fb hF.nrm.len]
theorem fp.core {e:Int}{K bm n m:Nat}{p q:Rows}(h:fp e K n p)(g:fp e bm m q):fp e (2*(K+bm+1)+1) (n+m) (br (nrm (p.map aM++q.map aM)))/\(br (nrm (p.map aM++q.map aM))).map aM=nrm (p.map aM++q.map aM):=by
 have hF:=h.hF.app g.hF;have er:dA (K+bm) (nrm (p.map aM)++nrm (q.map aM)):=(h.raw.gn.mono (by omega)).app (g.raw.gn.mono (by omega))
 have w1:=er.nrm (c:=2) fun y=>by
  have:=(ih (p.map aM)).ku y;have:=(ih (q.map aM)).ku y;rw[wo];omega
 rw[H6]at w1;have len:(nrm (p.map aM++q.map aM)).length<=n+m:=wq (by rw[ao0,aoF,aoF];have:=h.raw.len;have:=g.raw.len;omega);exact⟨fp.of w1 (by omega) hF len,fb hF.nrm.len⟩
theorem fp.add {e:Int}{K bm n m:Nat}{p q:Rows}(h:fp e K n p)(g:fp e bm m q)(he:e<=1024)(aC:4*(K+bm)+20<=900000/\n+m<=999999999):
 o4 p q/\∀{x:Rows} {c:Int},x=br (if eT p q=true then nrm (p.map aM++q.map aM)else[])->(c=if eT p q=true then 0 else 2)->
  c=0/\x=br (nrm (p.map aM++q.map aM))/\fp e (2*(K+bm+1)+1) (n+m) x/\x.map aM=nrm (p.map aM++q.map aM):=by
 refine⟨⟨⟨h.aU (by omega),g.aU (by omega)⟩,K,bm,n,m,h.raw,g.raw,aC.1,aC.2⟩, ?_⟩;have aP:=h.aP g he he;intro x c ai lQ;rw[aoy aP]at ai lQ;obtain⟨a1,a2⟩:=h.core g;subst ai;exact⟨lQ,rfl,a1,a2⟩
theorem fp.sub {e:Int}{K bm n m:Nat}{p q:Rows}(h:fp e K n p)(g:fp e bm m q)(he:e<=1024)(aC:4*(K+bm)+20<=900000/\n+m<=999999999):
 o4 p q/\∀{x:Rows} {c:Int},x=br (if eT p q=true then nrm (p.map aM++eN (-1) (q.map aM))else[])->(c=if eT p q=true then 0 else 2)->
  c=0/\x=br (nrm (p.map aM++eN (-1) (q.map aM)))/\fp e (2*(K+bm+2)+1) (n+m) x/\x.map aM=nrm (p.map aM++eN (-1) (q.map aM)):=by
 refine⟨⟨⟨h.aU (by omega),g.aU (by omega)⟩,K,bm,n,m,h.raw,g.raw,aC.1,aC.2⟩, ?_⟩;have aP:=h.aP g he he;intro x c ai lQ;rw[aoy aP]at ai lQ;have hF:=h.hF.app (g.hF.scale (-1));have er:dA (K+bm+1) (nrm (p.map aM)++eN (-1) (nrm (q.map aM))):=(h.raw.gn.mono (by omega)).app ((g.raw.gn.scale w2 (aoE _)).mono (by omega))
 have w1:=er.nrm (c:=2) fun y=>by
  have:=(ih (p.map aM)).ku y;have:=(ih (q.map aM)).ku y;rw[wo,BC];omega
 have b3:nrm (nrm (p.map aM)++eN (-1) (nrm (q.map aM)))=nrm (p.map aM++eN (-1) (q.map aM)):=oO fun m=>by rw[mN,mN,BA,BA,mM,mM]
 rw[b3]at w1
 have len:(nrm (p.map aM++eN (-1) (q.map aM))).length<=n+m:=wq (by
  rw[ao0,eN,aoF,aoF,aoF];have:=h.raw.len;have:=g.raw.len;omega)
 subst ai;exact⟨lQ,rfl,fp.of w1 (by omega) hF len,fb hF.nrm.len⟩
theorem fp.norm {e:Int}{K n:Nat}{p:Rows}(h:fp e K n p)(he:e<=1024)(aC:K<=400000/\n<1000000000):
 (cI p/\Raw 400000 1000000000 p)/\∀{x:Rows} {c:Int},x=br (if hK p=true then nrm (p.map aM)else[])->(c=if hK p=true then 0 else 2)->
   c=0/\x=br (nrm (p.map aM))/\fp e (K+1) n x/\x.map aM=nrm (p.map aM):=by
 refine⟨⟨h.aU aC.2,h.raw.mono aC.1 (by omega)⟩, ?_⟩;have aP:=h.a8 he;intro x c ai lQ;rw[aoy aP]at ai lQ;subst ai;exact⟨lQ,rfl,fp.of h.raw.gn h.raw.pos h.hF h.raw.m2,fb h.hF.nrm.len⟩
end ab
end
section
open Go Go.al
namespace ab
theorem T5 {c:Int}(h:c=0){P Q:Prop}(q:Q):((!decide (c=0))=true->P)/\((!decide (c=0))=false->Q):=⟨fun e=>by simp[h]at e,fun _=>q⟩
theorem okB {b:Bool}(h:b=true){P Q:Prop}(q:Q):((!b)=true->P)/\((!b)=false->Q):=⟨fun e=>by simp[h]at e,fun _=>q⟩
theorem aj1 {b:Bool}(h:b=true){P Q:Prop}(q:Q):(b=true->Q)/\(b=false->P):=⟨fun _=>q,fun e=>by simp[h]at e⟩
theorem fp.same {e f:Int}{K bm n m:Nat}{x y:Rows}(h:fp e K n x)(g:fp f bm m y)(aC:K<=1000000/\bm<=1000000/\n<1000000000/\m<1000000000)(e:x=y):
 ((∀r∈x,gF 1000000 r)/\(∀r∈y,gF 1000000 r)/\x.length<1000000000/\y.length<1000000000)/\∀{b:Bool},b=decide (x.map iq=y.map iq)->b=true:=
 ⟨⟨fun r an=>(h.raw.ar r an).mono aC.1,fun r an=>(g.raw.ar r an).mono aC.2.1,by have:=h.raw.len;omega,by have:=g.raw.len;omega⟩,fun ag=>by rw[ag,e];simp⟩
theorem sW.xI {v:Nat}{r:Row}(h:sW v r):gF 4 r:=by
 obtain⟨m,s,a,b,rfl,hm,_,_,aR,ag⟩:=h;exact⟨m,s,a,b,rfl,hm,aR,ag⟩
theorem sW.hF {v:Nat}{l:Rows}(h:∀r∈l,sW v r):de 2 (l.map aM):=fun t au=>by
 obtain⟨r,an,rfl⟩:=aoQ.1 au;obtain⟨m,s,a,b,rfl,hm,ai,_⟩:=h r an;rw[kO hm];exact⟨hm,ai⟩
theorem fp.drawn {l:List Int}{a v n:Int}(h:dQ l a){k:Nat}(av:n=k)(U:1<=k):dQ l (oa l a v n).2/\fp 2 (k*(4+1)) k (oa l a v n).1:=by
 obtain⟨aa,az,aW⟩:=acu (v:=v) h (show 0<=n by omega);exact⟨aa,H5 (fun r an=>(aW r an).xI) (by decide) (by omega) U,sW.hF aW⟩
end ab
end
section
open Go Go.al
namespace ab
end ab
end
section
open Go Go.al
namespace ab
end ab
end
section
open Go Go.al
namespace ab
def LX:ab.Rows->Int->(J->Prop)->Prop:=
 fun(p:ab.Rows) (v:Int) (K:J->Prop)=>(ab.cI p/\(0:Int)<=v/\v<(8:Int))/\∀(x:Int),x=ab.fG (List.map ab.aM p) (Int.toNat v)->(0:Int)<=ah (x+(1:Int))/\ah (x+(1:Int))<=(1000000000:Int)/\∃(aK:Int->List (List (List R))->Prop),∃(m:Int->List (List (List R))->Nat),aK (0:Int) (List.replicate (Int.toNat (ah (x+(1:Int)))) [])/\∀(jF:Int) (l:List (List (List R))),aK jF l->(decide (jF<aO p)=true->(0:Int)<=jF/\jF<aO p/\List.length (List.aG p jF)=(11:Nat)/\(0:Int)<=v/\v<(8:Int)/\R.dd (List.getD (List.aG p jF) (Int.toNat v) R.undef) IntKind.i64/\(0:Int)<=v/\v<(8:Int)/\List.length (List.set (List.aG p jF) (Int.toNat v) (R.int IntKind.i64 (0:Int)))=(11:Nat)/\(0:Int)<=R.toInt (List.getD (List.aG p jF) (Int.toNat v) R.undef)/\R.toInt (List.getD (List.aG p jF) (Int.toNat v) R.undef)<aO l/\(aO (List.getD l (Int.toNat (R.toInt (List.getD (List.aG p jF) (Int.toNat v) R.undef))) [])+(1:Int))*(120:Int)<=(70368744177664:Int)/\aK (ah (jF+(1:Int))) (List.set l (Int.toNat (R.toInt (List.getD (List.aG p jF) (Int.toNat v) R.undef))) (HAppend.hAppend (List.getD l (Int.toNat (R.toInt (List.getD (List.aG p jF) (Int.toNat v) R.undef))) []) [List.set (List.aG p jF) (Int.toNat v) (R.int IntKind.i64 (0:Int))]))/\m (ah (jF+(1:Int))) (List.set l (Int.toNat (R.toInt (List.getD (List.aG p jF) (Int.toNat v) R.undef))) (HAppend.hAppend (List.getD l (Int.toNat (R.toInt (List.getD (List.aG p jF) (Int.toNat v) R.undef))) []) [List.set (List.aG p jF) (Int.toNat v) (R.int IntKind.i64 (0:Int))]))<m jF l)/\(decide (jF<aO p)=false->(0:Int)<=aO (List.map (fun(l:List (List R))=>[R.ar (11:Nat) l]) l)/\aO (List.map (fun(l:List (List R))=>[R.ar (11:Nat) l]) l)<=aO (List.map (fun(l:List (List R))=>[R.ar (11:Nat) l]) l)/\aO (List.map (fun(l:List (List R))=>[R.ar (11:Nat) l]) l)*(24:Int)<=(281474976710656:Int)/\∃(aK:Int->List (List R)->Prop),∃(m:Int->List (List R)->Nat),aK (0:Int) (List.replicate (Int.toNat (aO (List.map (fun(l:List (List R))=>[R.ar (11:Nat) l]) l))) [R.ar (11:Nat) []])/\∀(v46:Int) (aq:List (List R)),aK v46 aq->(decide (v46<aO (List.map (fun(l:List (List R))=>[R.ar (11:Nat) l]) l))=true->(0:Int)<=v46/\v46<aO (List.map (fun(l:List (List R))=>[R.ar (11:Nat) l]) l)/\R.q8 (List.getD (List.getD (List.map (fun(l:List (List R))=>[R.ar (11:Nat) l]) l) (Int.toNat v46) []) (0:Nat) R.undef) (11:Nat)/\ab.iZ (R.lr (List.getD (List.getD (List.map (fun(l:List (List R))=>[R.ar (11:Nat) l]) l) (Int.toNat v46) []) (0:Nat) R.undef))/\∀(x:List (List R)),x=ab.br (ab.nrm (List.map ab.aM (R.lr (List.getD (List.getD (List.map (fun(l:List (List R))=>[R.ar (11:Nat) l]) l) (Int.toNat v46) []) (0:Nat) R.undef))))->(0:Int)<=v46/\v46<aO aq/\aK (ah (v46+(1:Int))) (List.set aq (Int.toNat v46) (setRow (List.aG aq v46) (0:Nat) [R.ar (11:Nat) x]))/\m (ah (v46+(1:Int))) (List.set aq (Int.toNat v46) (setRow (List.aG aq v46) (0:Nat) [R.ar (11:Nat) x]))<m v46 aq)/\(decide (v46<aO (List.map (fun(l:List (List R))=>[R.ar (11:Nat) l]) l))=false->K (J.d (R.ar (1:Nat) aq))))
def Lb:ab.Row->ab.Row->(J->Prop)->Prop:=
 fun a b K=>∃(aK:Int->Prop),∃(m:Int->Nat),((false,af.ar 8 [a])=(false,af.ar 8 [a])/\(false,af.ar 8 [b])=(false,af.ar 8 [b])/\aK 0)/\∀(v5:Int),aK v5->(decide (v5<8)=true->0<=v5/\v5<8/\(List.getD a v5.toNat R.undef).dd .i64/\0<=v5/\v5<8/\(List.getD b v5.toNat R.undef).dd .i64/\((!decide ((List.getD a v5.toNat R.undef).toInt=(List.getD b v5.toNat R.undef).toInt))=true->0<=v5/\v5<8/\(List.getD a v5.toNat R.undef).dd .i64/\0<=v5/\v5<8/\(List.getD b v5.toNat R.undef).dd .i64/\K (J.d (R.bool (decide ((List.getD b v5.toNat R.undef).toInt<(List.getD a v5.toNat R.undef).toInt)))))/\((!decide ((List.getD a v5.toNat R.undef).toInt=(List.getD b v5.toNat R.undef).toInt))=false->(false,af.ar 8 [a])=(false,af.ar 8 [a])/\(false,af.ar 8 [b])=(false,af.ar 8 [b])/\aK (ah (v5+1))/\m (ah (v5+1))<m v5))/\(decide (v5<8)=false->K (J.d (R.bool false)))
def Lf:ab.Rows->ab.Row->(J->Prop)->Prop:=
 fun p t K=>∃(aK:Int->Int->Prop),∃(m:Int->Int->Nat),((false,af.ar (11:Nat) [t])=(false,af.ar (11:Nat) [t])/\aK (0:Int) (aO p))/\∀(v5 v6:Int),aK v5 v6->(decide (v5<v6)=true->(0:Int)<=ah ((ah (v5+v6)).tdiv (2:Int))/\ah ((ah (v5+v6)).tdiv (2:Int))<(aO p)/\(List.getD p (ah ((ah (v5+v6)).tdiv (2:Int))).toNat []).length=(11:Nat)/\List.length t=(11:Nat)/\(Gb (List.take (8:Nat) (List.getD p (ah ((ah (v5+v6)).tdiv (2:Int))).toNat []))/\Gb (List.take (8:Nat) t))/\∀x,x=decide (ez (jC (List.take (8:Nat) (List.getD p (ah ((ah (v5+v6)).tdiv (2:Int))).toNat []))) (jC (List.take (8:Nat) t))=(1:Int))->(x=true->(false,af.ar (11:Nat) [t])=(false,af.ar (11:Nat) [t])/\aK (ah (ah ((ah (v5+v6)).tdiv (2:Int))+(1:Int))) v6/\m (ah (ah ((ah (v5+v6)).tdiv (2:Int))+(1:Int))) v6<m v5 v6)/\(x=false->(false,af.ar (11:Nat) [t])=(false,af.ar (11:Nat) [t])/\aK v5 (ah ((ah (v5+v6)).tdiv (2:Int)))/\m v5 (ah ((ah (v5+v6)).tdiv (2:Int)))<m v5 v6))/\(decide (v5<v6)=false->(0:Int)<=v5/\v5<=(aO p)/\↑(List.take v5.toNat p).length*(120:Int)<=(70368744177664:Int)/\∃(bm:Int->List (List R)->List (List R)->Prop),((decide (v5<(aO p))=true->(0:Int)<=v5/\v5<(aO p)/\(List.aG p v5).length=(11:Nat)/\List.length t=(11:Nat)/\(∀(x:R),x∈List.take (8:Nat) (List.aG p v5)->x.dd .i64)/\(∀(x:R),x∈List.take (8:Nat) t->x.dd .i64)/\(decide (List.map R.toInt (List.take (8:Nat) (List.aG p v5))=List.map R.toInt (List.take (8:Nat) t))=true->(List.getD t (8:Nat) R.undef).isBool/\(List.getD t (9:Nat) R.undef).eJ .u32/\(List.getD t (10:Nat) R.undef).eJ .u32/\(0:Int)<=v5/\v5<(aO p)/\((List.aG p v5).eV).isBool/\((List.aG p v5).eb).eJ .u32/\((List.aG p v5).ec).eJ .u32/\(bO (1000000:Nat) (List.getD t (9:Nat) R.undef).b2/\bO (1000000:Nat) (List.getD t (10:Nat) R.undef).b2/\bO (1000000:Nat) ((List.aG p v5).eb).b2/\bO (1000000:Nat) ((List.aG p v5).ec).b2)/\∀x,x=cl (bb (List.getD t (8:Nat) R.undef).toBool (List.getD t (9:Nat) R.undef).b2 (List.getD t (10:Nat) R.undef).b2+bb ((List.aG p v5).eV).toBool ((List.aG p v5).eb).b2 ((List.aG p v5).ec).b2)->∀aV,aV=cj (bb (List.getD t (8:Nat) R.undef).toBool (List.getD t (9:Nat) R.undef).b2 (List.getD t (10:Nat) R.undef).b2+bb ((List.aG p v5).eV).toBool ((List.aG p v5).eb).b2 ((List.aG p v5).ec).b2)->∀aS,aS=ca (bb (List.getD t (8:Nat) R.undef).toBool (List.getD t (9:Nat) R.undef).b2 (List.getD t (10:Nat) R.undef).b2+bb ((List.aG p v5).eV).toBool ((List.aG p v5).eb).b2 ((List.aG p v5).ec).b2)->bm (ah (v6+(1:Int))) [setRow t (8:Nat) [R.bool x,R.ad .u32 aV,R.ad .u32 aS]] (List.take v5.toNat p))/\(decide (List.map R.toInt (List.take (8:Nat) (List.aG p v5))=List.map R.toInt (List.take (8:Nat) t))=false->bm v6 [t] (List.take v5.toNat p)))/\(decide (v5<(aO p))=false->bm v6 [t] (List.take v5.toNat p)))/\∀(v6:Int) (aq bz:List (List R)),bm v6 aq bz->((aq.getD (0:Nat) []).eV).isBool/\((aq.getD (0:Nat) []).eb).eJ .u32/\((aq.getD (0:Nat) []).ec).eJ .u32/\(bO (90000000:Nat) ((aq.getD (0:Nat) []).eb).b2/\bO (90000000:Nat) ((aq.getD (0:Nat) []).ec).b2)/\∀x,x=cl (bb ((aq.getD (0:Nat) []).eV).toBool ((aq.getD (0:Nat) []).eb).b2 ((aq.getD (0:Nat) []).ec).b2)->∀aV,aV=cj (bb ((aq.getD (0:Nat) []).eV).toBool ((aq.getD (0:Nat) []).eb).b2 ((aq.getD (0:Nat) []).ec).b2)->∀aS,aS=ca (bb ((aq.getD (0:Nat) []).eV).toBool ((aq.getD (0:Nat) []).eb).b2 ((aq.getD (0:Nat) []).ec).b2)->(((aq.set (0:Nat) (setRow (aq.getD (0:Nat) []) (8:Nat) [R.bool x,R.ad .u32 aV,R.ad .u32 aS])).getD (0:Nat) []).eV).isBool/\(((aq.set (0:Nat) (setRow (aq.getD (0:Nat) []) (8:Nat) [R.bool x,R.ad .u32 aV,R.ad .u32 aS])).getD (0:Nat) []).eb).eJ .u32/\(((aq.set (0:Nat) (setRow (aq.getD (0:Nat) []) (8:Nat) [R.bool x,R.ad .u32 aV,R.ad .u32 aS])).getD (0:Nat) []).ec).eJ .u32/\(bO (90000000:Nat) (((aq.set (0:Nat) (setRow (aq.getD (0:Nat) []) (8:Nat) [R.bool x,R.ad .u32 aV,R.ad .u32 aS])).getD (0:Nat) []).eb).b2/\bO (90000000:Nat) (((aq.set (0:Nat) (setRow (aq.getD (0:Nat) []) (8:Nat) [R.bool x,R.ad .u32 aV,R.ad .u32 aS])).getD (0:Nat) []).ec).b2)/\∀bo,bo=k1 (bb (((aq.set (0:Nat) (setRow (aq.getD (0:Nat) []) (8:Nat) [R.bool x,R.ad .u32 aV,R.ad .u32 aS])).getD (0:Nat) []).eV).toBool (((aq.set (0:Nat) (setRow (aq.getD (0:Nat) []) (8:Nat) [R.bool x,R.ad .u32 aV,R.ad .u32 aS])).getD (0:Nat) []).eb).b2 (((aq.set (0:Nat) (setRow (aq.getD (0:Nat) []) (8:Nat) [R.bool x,R.ad .u32 aV,R.ad .u32 aS])).getD (0:Nat) []).ec).b2)->((!decide (bo=(0:Int)))=true->((aq.set (0:Nat) (setRow (aq.getD (0:Nat) []) (8:Nat) [R.bool x,R.ad .u32 aV,R.ad .u32 aS])).getD (0:Nat) []).length=(11:Nat)/\(↑bz.length+↑[(aq.set (0:Nat) (setRow (aq.getD (0:Nat) []) (8:Nat) [R.bool x,R.ad .u32 aV,R.ad .u32 aS])).getD (0:Nat) []].length)*(120:Int)<=(70368744177664:Int)/\(0:Int)<=v6/\v6<=(aO p)/\(↑(bz++[(aq.set (0:Nat) (setRow (aq.getD (0:Nat) []) (8:Nat) [R.bool x,R.ad .u32 aV,R.ad .u32 aS])).getD (0:Nat) []]).length+↑(List.drop v6.toNat p).length)*(120:Int)<=(70368744177664:Int)/\K (J.d (R.ar (11:Nat) (bz++[(aq.set (0:Nat) (setRow (aq.getD (0:Nat) []) (8:Nat) [R.bool x,R.ad .u32 aV,R.ad .u32 aS])).getD (0:Nat) []]++List.drop v6.toNat p))))/\((!decide (bo=(0:Int)))=false->(0:Int)<=v6/\v6<=(aO p)/\(↑bz.length+↑(List.drop v6.toNat p).length)*(120:Int)<=(70368744177664:Int)/\K (J.d (R.ar (11:Nat) (bz++List.drop v6.toNat p)))))
def Lg:ab.Rows->(J->Prop)->Prop:=
 fun p K=>∃(aK:List (List R)->Int->Prop),∃(m:List (List R)->Int->Nat),aK [] 0/\∀(v3:List (List R)) (v4:Int),aK v3 v4->(decide (v4<(aO p))=true->0<=v4/\v4<(aO p)/\(List.aG p v4).length=11/\(pI v3/\gF 900000 (List.aG p v4))/\∀x,x=br (ins (aM (List.aG p v4)) (List.map aM v3))->aK x (ah (v4+1))/\m x (ah (v4+1))<m v3 v4)/\(decide (v4<(aO p))=false->K (J.d (R.ar 11 v3)))
def Lu:ab.Rows->ab.Rows->(J->Prop)->Prop:=
 fun p q K=>∃(aK:List (List R)->Int->Prop),∃(m:List (List R)->Int->Nat),aK p 0/\∀(v5:List (List R)) (v6:Int),aK v5 v6->(decide (v6<(aO q))=true->0<=v6/\v6<(aO q)/\(List.aG q v6).length=11/\(pI v5/\gF 900000 (List.aG q v6))/\∀x,x=br (ins (aM (List.aG q v6)) (List.map aM v5))->aK x (ah (v6+1))/\m x (ah (v6+1))<m v5 v6)/\(decide (v6<(aO q))=false->K (J.d (R.ar 11 v5)))
def Lj:ab.Rows->ab.Row->(J->Prop)->Prop:=
 fun p t K=>∃(aK:Int->List (List R)->Prop),∃(m:Int->List (List R)->Nat),((false,af.ar 11 [t])=(false,af.ar 11 [t])/\aK 0 [])/\∀(v6:Int) (bz:List (List R)),aK v6 bz->(decide (v6<(aO p))=true->0<=v6/\v6<(aO p)/\(List.aG p v6).length=11/\∃(fk:Int->List (List R)->List (List R)->Prop),∃(fh:Int->List (List R)->List (List R)->Nat),((false,af.ar 11 [t])=(false,af.ar 11 [t])/\fk 0 bz [List.aG p v6])/\∀(bn:Int) (eG bl:List (List R)),fk bn eG bl->(decide (bn<8)=true->0<=bn/\bn<8/\((bl.getD 0 []).getD bn.toNat R.undef).dd .i64/\0<=bn/\bn<8/\(List.getD t bn.toNat R.undef).dd .i64/\0<=bn/\bn<8/\(false,af.ar 11 [t])=(false,af.ar 11 [t])/\fk (ah (bn+1)) eG (bl.set 0 ((bl.getD 0 []).set bn.toNat (R.int .i64 (ah (((bl.getD 0 []).getD bn.toNat R.undef).toInt+(List.getD t bn.toNat R.undef).toInt)))))/\fh (ah (bn+1)) eG (bl.set 0 ((bl.getD 0 []).set bn.toNat (R.int .i64 (ah (((bl.getD 0 []).getD bn.toNat R.undef).toInt+(List.getD t bn.toNat R.undef).toInt)))))<fh bn eG bl)/\(decide (bn<8)=false->((bl.getD 0 []).eV).isBool/\((bl.getD 0 []).eb).eJ .u32/\((bl.getD 0 []).ec).eJ .u32/\(List.getD t 8 R.undef).isBool/\(List.getD t 9 R.undef).eJ .u32/\(List.getD t 10 R.undef).eJ .u32/\(bO 1000000 ((bl.getD 0 []).eb).b2/\bO 1000000 ((bl.getD 0 []).ec).b2/\bO 1000000 (List.getD t 9 R.undef).b2/\bO 1000000 (List.getD t 10 R.undef).b2)/\∀x,x=cl (bb ((bl.getD 0 []).eV).toBool ((bl.getD 0 []).eb).b2 ((bl.getD 0 []).ec).b2*bb (List.getD t 8 R.undef).toBool (List.getD t 9 R.undef).b2 (List.getD t 10 R.undef).b2)->∀aV,aV=cj (bb ((bl.getD 0 []).eV).toBool ((bl.getD 0 []).eb).b2 ((bl.getD 0 []).ec).b2*bb (List.getD t 8 R.undef).toBool (List.getD t 9 R.undef).b2 (List.getD t 10 R.undef).b2)->∀aS,aS=ca (bb ((bl.getD 0 []).eV).toBool ((bl.getD 0 []).eb).b2 ((bl.getD 0 []).ec).b2*bb (List.getD t 8 R.undef).toBool (List.getD t 9 R.undef).b2 (List.getD t 10 R.undef).b2)->(((bl.set 0 (setRow (bl.getD 0 []) 8 [R.bool x,R.ad .u32 aV,R.ad .u32 aS])).getD 0 []).eV).isBool/\(((bl.set 0 (setRow (bl.getD 0 []) 8 [R.bool x,R.ad .u32 aV,R.ad .u32 aS])).getD 0 []).eb).eJ .u32/\(((bl.set 0 (setRow (bl.getD 0 []) 8 [R.bool x,R.ad .u32 aV,R.ad .u32 aS])).getD 0 []).ec).eJ .u32/\(bO 90000000 (((bl.set 0 (setRow (bl.getD 0 []) 8 [R.bool x,R.ad .u32 aV,R.ad .u32 aS])).getD 0 []).eb).b2/\bO 90000000 (((bl.set 0 (setRow (bl.getD 0 []) 8 [R.bool x,R.ad .u32 aV,R.ad .u32 aS])).getD 0 []).ec).b2)/\∀bo,bo=k1 (bb (((bl.set 0 (setRow (bl.getD 0 []) 8 [R.bool x,R.ad .u32 aV,R.ad .u32 aS])).getD 0 []).eV).toBool (((bl.set 0 (setRow (bl.getD 0 []) 8 [R.bool x,R.ad .u32 aV,R.ad .u32 aS])).getD 0 []).eb).b2 (((bl.set 0 (setRow (bl.getD 0 []) 8 [R.bool x,R.ad .u32 aV,R.ad .u32 aS])).getD 0 []).ec).b2)->((!decide (bo=0))=true->((bl.set 0 (setRow (bl.getD 0 []) 8 [R.bool x,R.ad .u32 aV,R.ad .u32 aS])).getD 0 []).length=11/\((eG.length:Int)+↑[(bl.set 0 (setRow (bl.getD 0 []) 8 [R.bool x,R.ad .u32 aV,R.ad .u32 aS])).getD 0 []].length)*120<=70368744177664/\(false,af.ar 11 [t])=(false,af.ar 11 [t])/\aK (ah (v6+1)) (eG++[(bl.set 0 (setRow (bl.getD 0 []) 8 [R.bool x,R.ad .u32 aV,R.ad .u32 aS])).getD 0 []])/\m (ah (v6+1)) (eG++[(bl.set 0 (setRow (bl.getD 0 []) 8 [R.bool x,R.ad .u32 aV,R.ad .u32 aS])).getD 0 []])<m v6 bz)/\((!decide (bo=0))=false->(false,af.ar 11 [t])=(false,af.ar 11 [t])/\aK (ah (v6+1)) eG/\m (ah (v6+1)) eG<m v6 bz)))/\(decide (v6<(aO p))=false->K (J.d (R.ar 11 bz)))
def K9:ab.Rows->Int->(J->Prop)->Prop:=
 fun p v K=>∃(aK:Int->Int->Prop),∃(m:Int->Int->Nat),aK (-1) 0/\∀(v5 v6:Int),aK v5 v6->(decide (v6<(aO p))=true->0<=v6/\v6<(aO p)/\0<=v/\v<8/\((List.aG p v6).getD v.toNat R.undef).dd .i64/\aK (if v5<((List.aG p v6).getD v.toNat R.undef).toInt then((List.aG p v6).getD v.toNat R.undef).toInt else v5) (ah (v6+1))/\m (if v5<((List.aG p v6).getD v.toNat R.undef).toInt then((List.aG p v6).getD v.toNat R.undef).toInt else v5) (ah (v6+1))<m v5 v6)/\(decide (v6<(aO p))=false->K (J.d (R.int .i64 v5)))
def Lk:ab.Rows->(J->Prop)->Prop:=
 fun p K=>∃(aK:Int->Prop),∃(m:Int->Nat),aK 0/\∀(v3:Int),aK v3->(decide (v3<(aO p))=true->∃(fk:Int->Prop),∃(fh:Int->Nat),fk 0/\∀(v4:Int),fk v4->(decide (v4<8)=true->0<=v3/\v3<(aO p)/\0<=v4/\v4<8/\((List.aG p v3).getD v4.toNat R.undef).dd .i64/\(decide (((List.aG p v3).getD v4.toNat R.undef).toInt<0)=true->K (J.d (R.bool false)))/\(decide (((List.aG p v3).getD v4.toNat R.undef).toInt<0)=false->0<=v3/\v3<(aO p)/\0<=v4/\v4<8/\((List.aG p v3).getD v4.toNat R.undef).dd .i64/\(decide (1024<((List.aG p v3).getD v4.toNat R.undef).toInt)=true->K (J.d (R.bool false)))/\(decide (1024<((List.aG p v3).getD v4.toNat R.undef).toInt)=false->fk (ah (v4+1))/\fh (ah (v4+1))<fh v4)))/\(decide (v4<8)=false->aK (ah (v3+1))/\m (ah (v3+1))<m v3))/\(decide (v3<(aO p))=false->K (J.d (R.bool true)))
def Lv:Int->(J->Prop)->Prop:=
 fun v K=>(decide (v<0)=true->K (J.tup [J.d (R.ar 11 []),J.d (R.int .i64 1)]))/\(decide (v<0)=false->(decide (8<=v)=true->K (J.tup [J.d (R.ar 11 []),J.d (R.int .i64 1)]))/\(decide (8<=v)=false->i64 1/\∀x,x=cl (IntCast.intCast 1)->∀aV,aV=cj (IntCast.intCast 1)->∀aS,aS=ca (IntCast.intCast 1)->0<=v/\v<8/\(([R.int .i64 0,R.int .i64 0,R.int .i64 0,R.int .i64 0,R.int .i64 0,R.int .i64 0,R.int .i64 0,R.int .i64 0]++[R.bool x,R.ad .u32 aV,R.ad .u32 aS]).set v.toNat (R.int .i64 1)).length=11/\K (J.tup [J.d (R.ar 11 [([R.int .i64 0,R.int .i64 0,R.int .i64 0,R.int .i64 0,R.int .i64 0,R.int .i64 0,R.int .i64 0,R.int .i64 0]++[R.bool x,R.ad .u32 aV,R.ad .u32 aS]).set v.toNat (R.int .i64 1)]),J.d (R.int .i64 0)])))
def Lc:ab.Rows->ab.Rows->(J->Prop)->Prop:=
 fun p q K=>∃(aK:List (List R)->Int->Prop),∃(m:List (List R)->Int->Nat),aK [] 0/\∀(v5:List (List R)) (v6:Int),aK v5 v6->(decide (v6<(aO q))=true->0<=v6/\v6<(aO q)/\(List.aG q v6).length=11/\((∀(r:List R),r∈p->fg 400000 r)/\fg 400000 (List.aG q v6)/\de 1000000000000000000 (List.map aM p)/\(∀(x:Int),x∈(aM (List.aG q v6)).fst->-1000000000000000000<=x/\x<=1000000000000000000)/\List.length p<1000000000)/\∀x,x=br (kv (aM (List.aG q v6)) (List.map aM p))->(pI v5/\Raw 900000 999999999 (v5++x))/\∀aV,aV=br (nrm (List.map aM v5++List.map aM x))->aK aV (ah (v6+1))/\m aV (ah (v6+1))<m v5 v6)/\(decide (v6<(aO q))=false->K (J.d (R.ar 11 v5)))
def Ll:Bool->List Int->List Int->(J->Prop)->Prop:=
 fun s a b K=>Raw 900000 999999999 [[R.int .i64 0,R.int .i64 0,R.int .i64 0,R.int .i64 0,R.int .i64 0,R.int .i64 0,R.int .i64 0,R.int .i64 0]++[R.bool s,R.ad .u32 a,R.ad .u32 b]]/\∀x,x=br (nrm (List.map aM [[R.int .i64 0,R.int .i64 0,R.int .i64 0,R.int .i64 0,R.int .i64 0,R.int .i64 0,R.int .i64 0,R.int .i64 0]++[R.bool s,R.ad .u32 a,R.ad .u32 b]]))->K (J.d (R.ar 11 x))
def Lm:ab.Rows->Int->(J->Prop)->Prop:=
 fun p n K=>i64 1/\∀x,x=cl (IntCast.intCast 1)->∀aV,aV=cj (IntCast.intCast 1)->∀aS,aS=ca (IntCast.intCast 1)->(bO 400000 aV/\bO 400000 aS)/\∀bo,bo=br (nrm [(df,bb x aV aS)])->∃(aK:List (List R)->Int->Prop),∃(m:List (List R)->Int->Nat),aK bo 0/\∀(v5:List (List R)) (v6:Int),aK v5 v6->(decide (v6<n)=true->nu v5 p/\∀x,x=br (nrm (da (List.map aM v5) (List.map aM p)))->aK x (ah (v6+1))/\m x (ah (v6+1))<m v5 v6)/\(decide (v6<n)=false->K (J.d (R.ar 11 v5)))
def K_:ab.Rows->(J->Prop)->Prop:=
 fun p K=>cI p/\∀x,x=hK p->(x=true->Raw 900000 999999999 p/\∀x,x=br (nrm (List.map aM p))->((∀(r:List R),r∈p->gF 1000000 r)/\(∀(r:List R),r∈x->gF 1000000 r)/\List.length p<1000000000/\x.length<1000000000)/\∀aV,aV=decide (List.map iq p=List.map iq x)->K (J.d (R.bool aV)))/\(x=false->K (J.d (R.bool false)))
def LB:ab.Rows->Int->(J->Prop)->Prop:=
 fun p v K=>(cI p/\Raw 400000 1000000000 p)/\∀x,x=br (if gI p v=0 then nrm (List.map aM p)else[])->∀aV,aV=gI p v->((!decide (aV=0))=true->K (J.tup [J.d (R.ar 1 []),J.d (R.int .i64 aV)]))/\((!decide (aV=0))=false->((0<=v/\v<8)/\cI x/\de 100000000 (List.map aM x)/\iZ x)/\∀aS,aS=np (mq v.toNat (List.map aM x))->K (J.tup [J.d (R.ar 1 aS),J.d (R.int .i64 0)]))
end ab
end
section
open Go Go.al
namespace ab
def kU (v:Nat)(i:Int)(p:Rows):Rows:=(p.filter fun r=>decide ((dq r).getD v 0=i)).map fun r=>r.set v (.int .i64 0)
theorem eP.E2 {r:Row}(h:eP r){v:Nat}(aP:v<8):dq (r.set v (.int .i64 0))=(dq r).set v 0/\tl (r.set v (.int .i64 0))=tl r/\(r.set v (.int .i64 0)).length=11/\(dq r).length=8:=by
 obtain⟨oG,fT,fZ,hV,jG,jH,oH,r5,s,a,b,rfl⟩:=h
 have e:∀m:List Int,m.length=8->∀s a b,dq ((et m s a b).set v (.int .i64 0))=(dq (et m s a b)).set v 0/\tl ((et m s a b).set v (.int .i64 0))=tl (et m s a b)/\((et m s a b).set v (.int .i64 0)).length=11/\(dq (et m s a b)).length=8:=fun m hm s a b=>by
  have rQ:(m.set v 0).length=8:=by rw[aoI,hm]
  rw[CX hm aP,q7 hm,q7 rQ,D8 hm,D8 rQ,jT rQ];exact⟨rfl,rfl,rfl,hm⟩
 exact e [oG,fT,fZ,hV,jG,jH,oH,r5] rfl s a b
theorem aaS {v:Nat}{i:Int}{p:Rows}{k:Nat}(ae:k<p.length):kU v i (p.take (k+1))=if(dq (p.getD k [])).getD v 0=i then kU v i (p.take k)++[(p.getD k []).set v (.int .i64 0)]else kU v i (p.take k):=by
 rw[mJ ae,kU,kU,aqq,apd]
 by_cases e:(dq (p.getD k [])).getD v 0=i
 ·rw[aoy e,apW,aoy (by simpa using e)];rfl
 ·rw[aox e,apW,aox (by simpa using e)];simp
theorem QY {v:Nat}(aP:v<8){i:Int}:∀{p:Rows},c7 p->(kU v i p).map aM=((p.map aM).filter fun t=>decide (t.1.getD v 0=i)).map fun t=>(t.1.set v 0,t.2)
 |[],_=>rfl
 |r::p,h=>by
  have bF:=QY aP (i:=i) fun q a_=>h q (apQ _ a_);obtain⟨U,aa,_⟩:=(h r (by simp)).E2 aP;unfold kU at bF⊢;rw[aoX,apW,apW]
  by_cases e:(dq r).getD v 0=i
  ·rw[aoy (by simpa using e),aoy (by simpa[aM]using e),aoX,aoX,aoX,bF,aM,U,aa];rfl
  ·rw[aox (by simpa using e),aox (by simpa[aM]using e),bF]
theorem QZ {v:Nat}(aP:v<8){i:Int}(m:List Int):∀{p:Rows},c7 p->fw m (kU v i p)<=fw (m.set v i) p
 |[],_=>aoE _
 |r::p,h=>by
  have bF:=QZ aP (i:=i) m fun q a_=>h q (apQ _ a_);obtain⟨U,_,_,aW⟩:=(h r (by simp)).E2 aP;unfold kU at bF⊢;rw[apW]
  by_cases e:(dq r).getD v 0=i
  ·rw[aoy (by simpa using e),aoX,fw,fw,U]
   by_cases q:(dq r).set v 0=m
   ·have:dq r=m.set v i:=by
     rw[<-q,List.set_set,<-e];simp[aoA,show v<(dq r).length by omega]
    rw[aoy q,aoy this];omega
   ·rw[aox q];omega
  ·rw[aox (by simpa using e),fw];omega
theorem acx {v:Nat}(aP:v<8){i:Int}{p:Rows}(h:iZ p):iZ (kU v i p):=by
 obtain⟨k,c,U,aa,az,aW,bA,bZ⟩:=h;refine⟨k,c,U,fun r an=> ?_,fun m=>aoS (QZ aP m fun r an=>(aa r an).row) (az _),aW,bA, ?_⟩
 ·obtain⟨q,a_,rfl⟩:=aoQ.1 an;obtain⟨m,s,a,b,rfl,g1,g2,g3⟩:=(aa q (apn.1 a_).1).bP;rw[CX g1 aP];refine⟨m.set v 0,s,a,b,rfl,by rw[aoI,g1],fun x ai=> ?_,g3⟩;rcases ap9 ai with h|rfl
  ·exact g2 x h
  ·omega
 ·rw[kU,aoF];exact aoS (aqi _ _) bZ
theorem DI {v:Nat}:∀{p:List ba} {d:Int},d<=jq v d p/\∀t∈p,t.1.getD v 0<=jq v d p
 |[],d=>⟨Int.le_refl _,fun t h=>by cases h⟩
 |t::p,d=>by
  rw[jq];obtain⟨U,aa⟩:=DI (v:=v) (p:=p) (d:=if t.1.getD v 0>d then t.1.getD v 0 else d);refine⟨?_,fun u hu=> ?_⟩
  ·split at U<;>split<;>omega
  ·rcases ao7.1 hu with rfl|hu
   ·split at U<;>split<;>omega
   ·exact aa u hu
theorem ext_get {α:Type}{a b:List α}(d:α)(ax:a.length=b.length)(h:∀i,i<a.length->a.getD i d=b.getD i d):a=b:=aqF ax fun i U aa=>by
 have:=h i U;rwa [aoA,aoA,aoM U,aoM aa]at this
theorem V5 (p:Rows)(v:Int)(K:J->Prop)(h:DF.T [.d (.ar 11 p), .d (.int .i64 v)] K):LX p v K:=by
 obtain⟨⟨⟨jb,ny⟩,hw,he,ay⟩,ae⟩:=h;have gd:=ay;obtain⟨k,c,s1,s2,k7,mD,aop,tN⟩:=gd;have bs:c7 p:=fun r an=>(s2 r an).row;have aP:v.toNat<8:=by omega
 obtain⟨d1,d2⟩:=DI (v:=v.toNat) (p:=p.map aM) (d:=-1)
 have d3:=(DH (a:=-1) (b:=100000000) (v:=v.toNat) (p:=p.map aM) (d:=-1) (fun t au=>by
  have:=(he t au).2 _ (ln (m:=t.1) (i:=v.toNat) (by rw[(he t au).1];omega));omega) (by omega) (by omega)).2
 have F7:fG (p.map aM) v.toNat=jq v.toNat (-1) (p.map aM):=rfl;unfold LX ah aO List.aG;refine⟨⟨hw,jb,ny⟩, ?_⟩;rintro _ rfl;rw[dX (by omega) (by omega)]
 refine⟨by omega,by omega,fun w l=>∃i:Nat,w=i/\i<=p.length/\l.length=(fG (p.map aM) v.toNat+1).toNat/\∀j,j<l.length->l.getD j []=kU v.toNat j (p.take i),fun w _=>p.length-w.toNat,
  ⟨0,rfl,by omega,by simp,fun j aI=> ?_⟩, ?_⟩
 ·simp at aI;simp[aoA,aI,kU]
 rintro _ l ⟨i,rfl,U,aa,az⟩;simp only[ao1,aoC,aoB];refine⟨fun aW=> ?_,fun aW=> ?_⟩
 ·have hi:i<p.length:=by omega
  have an:=bs.get hi;have hm:aM (p.getD i [])∈p.map aM:=aqQ (jR hi);obtain⟨g1,g2⟩:=he _ hm;have g3:=g2 _ (ln (m:=(aM (p.getD i [])).1) (i:=v.toNat) (by omega));have g4:=d2 _ hm;have g5:(aM (p.getD i [])).1=dq (p.getD i []):=rfl;rw[g5]at g3 g4;rw[an.at aP];simp only[R.toInt];have bG:((dq (p.getD i [])).getD v.toNat 0).toNat<l.length:=by omega
  have hlen:(l.getD ((dq (p.getD i [])).getD v.toNat 0).toNat []).length<=1000000000:=by
   rw[az _ bG,kU,aoF];refine aoS (aqi _ _) ?_;rw[ao3];omega
  refine⟨by omega,aW,an.len,jb,ny,rfl,jb,ny,(an.E2 aP).2.2.1,by omega,by omega,by omega,⟨i+1,dX (by omega) (by omega),by omega,by rw[aoI];exact aa,fun j aI=> ?_⟩,by rw[dX (by omega) (by omega)];omega⟩;rw[aoI]at aI;rw[eu,aaS hi]
  by_cases e:((dq (p.getD i [])).getD v.toNat 0).toNat=j
  ·rw[aoy ⟨e,by omega⟩,aoy (by omega),<-az j aI,e]
  ·rw[aox (fun x=>e x.1),aox (by omega),az j aI]
 ·obtain rfl:i=p.length:=by omega
  simp only[aoF]
  have az:∀j,j<l.length->l.getD j []=kU v.toNat j p:=fun j aI=>by rw[az j aI,apG]
  refine⟨by omega,by omega,by omega,fun w o=>∃i:Nat,w=i/\i<=l.length/\o.length=l.length/\∀j,j<l.length->o.getD j []=[.ar 11 (if j<i then br (nrm ((kU v.toNat j p).map aM))else[])],fun w _=>l.length-w.toNat,
   ⟨0,rfl,by omega,by simp,fun j aI=> ?_⟩, ?_⟩
  ·simp[aoA,aI]
  rintro _ o ⟨i,rfl,a6,bj,bH⟩;simp only[ao1,aoC,aoB];refine⟨fun aW=> ?_,fun aW=> ?_⟩
  ·have hi:i<l.length:=by omega
   have aA:(l.map fun l:List (List R)=>[R.ar 11 l]).getD i []=[R.ar 11 (kU v.toNat i p)]:=by
    rw[<-az i hi];simp[aoA,hi]
   rw[aA];refine⟨by omega,by omega,rfl,acx aP ay, ?_⟩;rintro _ rfl;refine⟨by omega,by omega,⟨i+1,dX (by omega) (by omega),by omega,by rw[aoI];exact bj,fun j aI=> ?_⟩,by rw[dX (by omega) (by omega)];omega⟩;rw[eu]
   by_cases e:i=j
   ·subst e;rw[aoy ⟨rfl,by omega⟩,aoy (by omega),bH i hi];rfl
   ·rw[aox (fun x=>e x.1),bH j aI]
    by_cases q:j<i
    ·rw[aoy q,aoy (by omega)]
    ·rw[aox q,aox (by omega)]
  ·obtain rfl:i=l.length:=by omega
   have:o=np (mq v.toNat (p.map aM)):=by
    refine ext_get [] (by rw[bj,aa,np,mq];simp) fun j aI=> ?_;rw[bj]at aI;rw[bH j aI,aoy aI,QY aP bs];have hB:j<(fG (p.map aM) v.toNat+1).toNat:=by omega
    simp[np,mq,aoA,hB]
   rw[this];exact ae
end ab
end
