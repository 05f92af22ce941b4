/- Helpers for the statements: facts about numbers, fractions and polynomials as lists, and the proofs of the conditions. Condition: none. -/
import Derived.Test.YtmeonjefiioegaaGreatDoorB0
section
namespace ab
open Go Go.aj Go.Sort
theorem BY:∀x y:List Int,dT y x=-dT x y
 |[],[]=>rfl
 |[],_::_=>rfl
 |_::_,[]=>rfl
 |a::x,b::y=>by
  have bM:=BY x y;unfold dT
  by_cases h:b<a
  ·rw[aoB h,aoA (show ¬a<b by omega),aoB h]
  ·rw[aoA h]
   by_cases ad:a<b
   ·rw[aoB ad,aoB ad];rfl
   ·rw[aoA ad,aoA ad,aoA h];exact bM
theorem HY:∀x y z:List Int,dT x y<=0->dT y z<=0->dT x z<=0
 |[],_,[]=>fun _ _=>Int.le_refl _
 |[],_,_::_=>fun _ _=>by simp[dT]
 |a::x,[],_=>fun h=>by simp[dT]at h
 |a::x,b::y,[]=>fun _ h=>by simp[dT]at h
 |a::x,b::y,c::z=>fun aa ad=>by
  have bM:=HY x y z;unfold dT at aa ad⊢
  by_cases aA:a<b
  ·by_cases aG:b<c
   ·rw[aoB (by omega)];decide
   ·rw[aoA aG]at ad
    by_cases bR:c<b
    ·rw[aoB bR]at ad;cases ad
    ·rw[aoB (by omega)];decide
  ·rw[aoA aA]at aa
   by_cases bR:b<a
   ·rw[aoB bR]at aa;cases aa
   ·rw[aoA bR]at aa;have:a=b:=by omega
    subst this
    by_cases cY:a<c
    ·rw[aoB cY];decide
    ·rw[aoA cY]at ad⊢
     by_cases hO:c<a
     ·rw[aoB hO]at ad;cases ad
     ·rw[aoA hO]at ad⊢;exact bM aa ad
theorem adt (a b:Row):bk a b=true↔0<dT (ek a) (ek b):=by
 unfold bk gQ;rw[aoG];omega
theorem RI (a b:Row):bk a b=false↔dT (ek a) (ek b)<=0:=by
 unfold bk gQ;rw[aoF];omega
theorem q9:SWO bk where
 irrefl x:=by
  rw[RI];have:=BY (ek x) (ek x);omega
 trans x y z aa ad:=by
  rw[adt]at aa ad⊢;refine Int.not_le.1 fun h=> ?_;have ax:=BY (ek y) (ek z);have:=HY (ek x) (ek z) (ek y) h (by omega);omega
 ntrans x y z aa ad:=by
  rw[RI]at aa ad⊢;exact HY _ _ _ aa ad
theorem ub {l:Rows}{d:Array Row}{a b:Nat}(az:dh l)(ah:b<=l.length)(aD:PermIn a b l.toArray d):dh d.toList/\d.toList.length=l.length:=by
 have ay:d.size=l.length:=by rw[aD.1];simp
 refine⟨fun r ao=> ?_,by simpa using ay⟩;obtain⟨i,hi,rfl⟩:=aqj ao;have eJ:i<d.size:=by simpa using hi
 have e:d.toList[i]=d[i]! :=by simp[eJ]
 rw[e]
 by_cases h:a<=i/\i<b
 ·refine permIn_all l.toArray d a b eO (by simpa using ah) aD (fun j aa ad=> ?_) i h.1 h.2;rw[wX];exact az.get (by omega)
 ·rw[aD.2.1 i (by omega),wX];exact az.get (by omega)
theorem Xx (x:Int)(K:R->Prop)(h:w6.T [.d (.int .u64 x)] K):Mu x K:=by
 obtain⟨ak,ae⟩:=h
 obtain⟨n,rfl⟩:∃n:Nat,x=n:=⟨x.toNat,by omega⟩
 rw[aoD]at ae;unfold Mu ai;refine⟨fun v s=>∃m k:Nat,v=m/\s=k/\m<4294967296/\k<=32/\db n=db m+k,⟨fun h=> ?_,fun h=> ?_⟩, ?_⟩
 ·simp only[aoG]at h;have:=yR (n:=n) (k:=32) (by omega);refine⟨n/4294967296,32, ?_,rfl,by omega,by omega,this⟩;rw[apk _ (by omega)];omega
 ·simp only[aoF]at h;exact⟨n,0,rfl,rfl,by omega,by omega,rfl⟩
 rintro v s ⟨m,k,rfl,rfl,hm,ET,he⟩;refine⟨fun v s=>∃m k:Nat,v=m/\s=k/\m<65536/\k<=48/\db n=db m+k,⟨fun h=> ?_,fun h=> ?_⟩, ?_⟩
 ·simp only[aoG]at h;have:=yR (n:=m) (k:=16) (by omega);rw[bP (x:=(k:Int)+16) (by omega)];refine⟨m/65536,k+16, ?_,by omega,by omega,by omega,by rw[he,this];show db (m/65536)+16+k=_;omega⟩;rw[apk _ (by omega)];omega
 ·simp only[aoF]at h;exact⟨m,k,rfl,rfl,by omega,by omega,he⟩
 clear hm ET he;rintro v s ⟨m,k,rfl,rfl,hm,anZ,he⟩
 have fin:∀(q c:Nat),q<256->c<=56->db n=db q+c->K (.d (.int .i64 (IntKind.wrap .i64 ((c:Int)+IntKind.wrap .i64 (tab.getD q 0))))):=fun q c aZ aC e=>by
  have ah:=wW (n:=q) (k:=8) (by omega);rw[QM q aZ,bP (x:=(db q:Int)) (by omega),bP (by omega)];rw[show(c:Int)+(db q:Int)=((db n:Nat):Int) by omega];exact ae
 refine⟨fun h=> ?_,fun h=> ?_⟩
 ·simp only[aoG]at h
  have aY:IntKind.wrap .u8 (Int.fdiv (m:Int) 256)=((m/256:Nat):Int):=by
   rw[apk _ (by omega),As (by omega)];omega
  rw[aY,bP (x:=(k:Int)+8) (by omega),aoD];have:=yR (n:=m) (k:=8) (by omega);exact⟨by omega,by omega,fin (m/256) (k+8) (by omega) (by omega) (by rw[he,this];show db (m/256)+8+k=_;omega)⟩
 ·simp only[aoF]at h;rw[As (x:=(m:Int)) (by omega),aoD];exact⟨by omega,by omega,fin m k (by omega) (by omega) he⟩
theorem Y4 (x:Int)(K:R->Prop)(h:w6.T [.d (.int .u64 x)] K):X0 x K:=by
 obtain⟨ak,ae⟩:=h;refine⟨ak, ?_⟩;rintro _ rfl;exact ae
theorem adu (n:Nat):n<2^db n:=by
 by_cases h:n=0
 ·subst h;exact apx _
 ·exact(wi h).2.1
theorem ab0 {n:Nat}(h:0<n):2^db n<=2*n:=by
 obtain⟨cW,_,iM⟩:=wi (n:=n) (by omega)
 obtain⟨k,ae⟩:∃k,db n=k+1:=⟨db n-1,by omega⟩
 rw[ae]at cW⊢;rw[ao2];simp at cW;omega
theorem VM (x:Int)(K:R->Prop)(h:EM.T [.d (.int .i64 x)] K):LK x K:=by
 obtain⟨ak,ae⟩:=h;unfold LK aW;rw[cS (x:=x) (by omega)];refine⟨by omega, ?_⟩;rintro _ rfl;refine⟨by omega, ?_⟩;have aa:=wW (n:=x.toNat) (k:=62) (by omega);have ad:(2:Nat)^db x.toNat<=2^62:=apd (by decide) aa;rw[show(2:Nat)^62=4611686018427387904 from rfl]at ad;rw[aoD,aqV (by omega),Int.one_mul];have e:((2:Int)^db x.toNat)=((2^db x.toNat:Nat):Int):=by simp
 rw[e];generalize 2^db x.toNat=q at ad ae;rw[cS (by omega)];exact ae
end ab
end
section
namespace ab
open Go Go.aj
theorem HZ:∀x y:List Int,dT x y=0↔x=y
 |[],[]=>by simp[dT]
 |[],_::_=>by simp[dT]
 |_::_,[]=>by simp[dT]
 |a::x,b::y=>by
  have bM:=HZ x y;unfold dT
  by_cases h:a<b
  ·rw[aoB h];exact⟨fun e=>by simp at e,fun e=>by injection e;omega⟩
  ·rw[aoA h]
   by_cases ad:b<a
   ·rw[aoB ad];exact⟨fun e=>by simp at e,fun e=>by injection e;omega⟩
   ·rw[aoA ad,bM,show a=b by omega];simp
theorem PK:∀x y:List Int,dT x y=-1\/dT x y=0\/dT x y=1
 |[],[]=> .inr (.inl rfl)
 |[],_::_=> .inl rfl
 |_::_,[]=> .inr (.inr rfl)
 |a::x,b::y=>by
  have bM:=PK x y;unfold dT
  by_cases h:a<b
  ·rw[aoB h];exact .inl rfl
  ·rw[aoA h]
   by_cases ad:b<a
   ·rw[aoB ad];exact .inr (.inr rfl)
   ·rw[aoA ad];exact bM
theorem sj:∀x y z:List Int,dT x y=1->dT y z=1->dT x z=1
 |[],[],_=>fun h=>by simp[dT]at h
 |[],_::_,_=>fun h=>by simp[dT]at h
 |_::_,_,[]=>fun _ _=>rfl
 |a::x,[],_::_=>fun _ h=>by simp[dT]at h
 |a::x,b::y,c::z=>fun aa ad=>by
  have bM:=sj x y z;unfold dT at aa ad⊢
  by_cases aA:a<b
  ·rw[aoB aA]at aa;simp at aa
  ·rw[aoA aA]at aa
   by_cases aG:b<c
   ·rw[aoB aG]at ad;simp at ad
   ·rw[aoA aG]at ad;rw[aoA (by omega)]
    by_cases bR:c<a
    ·rw[aoB bR]
    ·rw[aoA bR];rw[aoA (by omega)]at aa ad;exact bM aa ad
abbrev fT (x y:List Int):Prop:=dT x y=1
theorem BZ (x:List Int):¬fT x x:=fun h=>by
 have:=(HZ x x).2 rfl;unfold fT at h;omega
theorem xf {x y:List Int}(h:fT x y):x≠y:=fun e=>BZ y (e▸h)
theorem Cl {x y:List Int}(h:x≠y):fT x y\/fT y x:=by
 have aa:=PK x y;have ad:=BY x y;have ax:dT x y≠0:=fun e=>h ((HZ x y).1 e);unfold fT;omega
def fw (p:List ba):Prop:=p.Pairwise (fun t u=>fT t.1 u.1)/\∀t∈p,t.2≠0
theorem fw.tail {t:ba}{p:List ba}(h:fw (t::p)):fw p:=⟨(apT.1 h.1).2,fun u hu=>h.2 u (by simp[hu])⟩
theorem H0 {t u:ba}:∀{p:List ba},u∈ins t p->u.1=t.1\/∃v∈p,v.1=u.1
 |[],h=>by
  unfold ins at h;split at h
  ·simp at h
  ·simp at h;exact .inl (by rw[h])
 |x::p,h=>by
  unfold ins at h;split at h
  ·split at h
   ·exact .inr ⟨u,by simp[h],rfl⟩
   ·rcases aoW.1 h with rfl|h
    ·exact .inr ⟨x,by simp,rfl⟩
    ·exact .inr ⟨u,by simp[h],rfl⟩
  ·split at h
   ·split at h
    ·exact .inr ⟨u,h,rfl⟩
    ·rcases aoW.1 h with rfl|h
     ·exact .inl rfl
     ·exact .inr ⟨u,h,rfl⟩
   ·rcases aoW.1 h with rfl|h
    ·exact .inr ⟨u,by simp,rfl⟩
    ·rcases H0 h with h|⟨v,aM,e⟩
     ·exact .inl h
     ·exact .inr ⟨v,by simp[aM],e⟩
theorem H2 (t:ba):∀{p:List ba},fw p->fw (ins t p)
 |[],_=>by
  unfold ins;split
  ·exact⟨List.Pairwise.nil,fun u hu=>absurd hu apV⟩
  ·rename_i h;exact⟨List.pairwise_singleton _ _,fun _ hu=>by rw[apr.1 hu];exact h⟩
 |x::p,h=>by
  have bM:=H2 t h.tail;obtain⟨aa,ad⟩:=apT.1 h.1;unfold ins;split
  ·split
   ·exact h.tail
   ·rename_i e ne
    exact⟨apT.2 ⟨aa,ad⟩,fun u hu=>by
     rcases aoW.1 hu with rfl|hu
     ·exact ne
     ·exact h.2 u (by simp[hu])⟩
  ·rename_i ne;split
   ·rename_i g;split
    ·exact h
    ·rename_i xY;refine⟨apT.2 ⟨fun u hu=> ?_,h.1⟩,fun u hu=> ?_⟩
     ·rcases aoW.1 hu with rfl|hu
      ·exact g
      ·exact sj _ _ _ g (aa u hu)
     ·rcases aoW.1 hu with rfl|hu
      ·exact xY
      ·exact h.2 u hu
   ·rename_i g;have vE:fT x.1 t.1:=(Cl ne).resolve_left g;refine⟨apT.2 ⟨fun u hu=> ?_,bM.1⟩,fun u hu=> ?_⟩
    ·rcases H0 hu with e|⟨v,aM,e⟩
     ·rw[e];exact vE
     ·rw[<-e];exact aa v aM
    ·rcases aoW.1 hu with rfl|hu
     ·exact h.2 _ (by simp)
     ·exact bM.2 u hu
theorem gI:∀p:List ba,fw (nrm p)
 |[]=>⟨List.Pairwise.nil,fun u hu=>absurd hu apV⟩
 |t::p=>H2 t (gI p)
def dW (f:List Int->Rat):List ba->Rat
 |[]=>0
 |t::p=>t.2*f t.1+dW f p
theorem Cm (f:List Int->Rat):∀p q:List ba,dW f (p++q)=dW f p+dW f q
 |[],q=>by rw[List.nil_append,dW,aqk]
 |t::p,q=>by rw[ap0,dW,dW,Cm f p q,apO]
theorem HF (f:List Int->Rat)(t:ba):∀p:List ba,dW f (ins t p)=t.2*f t.1+dW f p
 |[]=>by
  unfold ins;split
  ·rename_i h;rw[h,Rat.zero_mul,aqk]
  ·rfl
 |x::p=>by
  have bM:=HF f t p;unfold ins;split
  ·rename_i e;split
   ·rename_i bc;rw[dW,e,<-apO,<-Rat.add_mul,Rat.add_comm t.2,bc,Rat.zero_mul,aqk]
   ·rw[dW,dW,e,Rat.add_mul,<-apO,Rat.add_comm (x.2*f x.1)]
  ·split
   ·split
    ·rename_i bc;rw[bc,Rat.zero_mul,aqk]
    ·rfl
   ·rw[dW,dW,bM,<-apO,<-apO,Rat.add_comm (x.2*f x.1)]
theorem Cn (f:List Int->Rat):∀p:List ba,dW f (nrm p)=dW f p
 |[]=>rfl
 |t::p=>by rw[nrm,HF,Cn f p,dW]
def dl (m:List Int):List Int->Rat:=fun x=>if x=m then 1 else 0
theorem jT (m:List Int):∀p:List ba,cG p m=dW (dl m) p
 |[]=>rfl
 |t::p=>by
  rw[cG,dW,jT m p];unfold dl;split
  ·rw[Rat.mul_one]
  ·rw[Rat.mul_zero]
theorem ju (p:List ba)(m:List Int):cG (nrm p) m=cG p m:=by rw[jT,jT,Cn]
theorem mb (p q:List ba)(m:List Int):cG (p++q) m=cG p m+cG q m:=by rw[jT,jT,jT,Cm]
theorem H3 {x:List Int}:∀{p:List ba},(∀t∈p,fT x t.1)->cG p x=0
 |[],_=>rfl
 |t::p,h=>by
  rw[cG,aoA fun e=>xf (h t (by simp)) e.symm,H3 fun u hu=>h u (by simp[hu]),aqk]
theorem wz {t:ba}{p:List ba}(h:fw (t::p)):cG (t::p) t.1=t.2:=by
 rw[cG,aoB rfl,H3 (apT.1 h.1).1,Rat.add_zero]
theorem N1:∀{p q:List ba},fw p->fw q->(∀m,cG p m=cG q m)->p=q
 |[],[],_,_,_=>rfl
 |[],u::q,_,aZ,h=>by
  have:=h u.1;rw[wz aZ]at this;exact absurd this.symm (aZ.2 u (by simp))
 |t::p,[],aD,_,h=>by
  have:=h t.1;rw[wz aD]at this;exact absurd this (aD.2 t (by simp))
 |t::p,u::q,aD,aZ,h=>by
  have up:∀{t u:ba} {p q:List ba},fw (t::p)->fw (u::q)->(∀m,cG (t::p) m=cG (u::q) m)->¬fT t.1 u.1:=fun{t u p q} aD aZ h g=>by
   have aa:=h t.1
   rw[wz aD,H3 (fun v aM=>by
    rcases aoW.1 aM with rfl|aM
    ·exact g
    ·exact sj _ _ _ g ((apT.1 aZ.1).1 v aM))]at aa
   exact aD.2 t (by simp) aa
  have aA:t.1=u.1:=Classical.byContradiction fun ne=>(Cl ne).elim (up aD aZ h) (up aZ aD fun m=>(h m).symm)
  have aG:t.2=u.2:=by
   have:=h t.1;rw[wz aD]at this;rw[this,aA,wz aZ]
  have e:t=u:=Prod.ext aA aG;subst e
  have:p=q:=N1 aD.tail aZ.tail fun m=>by
   have:=h m;rw[cG,cG]at this;exact(Rat.add_left_cancel _ this)
  rw[this]
theorem Io {p q:List ba}(aZ:fw q)(h:∀m,cG q m=cG p m):q=nrm p:=N1 aZ (gI p) fun m=>by rw[h,ju]
theorem pK {p q:List ba}(h:∀m,cG p m=cG q m):nrm p=nrm q:=Io (gI p) fun m=>by rw[ju,h]
theorem p0 {p:List ba}(h:fw p):nrm p=p:=(Io h fun _=>rfl).symm
theorem N2 {p q:List ba}(h:∀m,cG p m=cG q m)(f:List Int->Rat):dW f p=dW f q:=by
 rw[<-Cn f p,<-Cn f q,pK h]
theorem PL (f:List Int->Rat)(c:Rat):∀p:List ba,dW (fun x=>c*f x) p=c*dW f p
 |[]=>by rw[dW,dW,Rat.mul_zero]
 |t::p=>by rw[dW,dW,PL f c p,Rat.mul_add,<-aql,<-aql,Rat.mul_comm t.2 c]
theorem PM (f g:List Int->Rat):∀p:List ba,dW (fun x=>f x+g x) p=dW f p+dW g p
 |[]=>by rw[dW,dW,dW,Rat.add_zero]
 |t::p=>by
  rw[dW,dW,dW,PM f g p,Rat.mul_add,apO,apO,<-apO (t.2*g t.1),Rat.add_comm (t.2*g t.1),apO]
theorem OQ:∀p:List ba,dW (fun _=>0) p=0
 |[]=>rfl
 |t::p=>by rw[dW,OQ p,Rat.mul_zero,Rat.add_zero]
theorem OR (g:List Int->List Int->Rat):∀p q:List ba,dW (fun a=>dW (fun b=>g a b) q) p=dW (fun b=>dW (fun a=>g a b) p) q
 |[],q=>by rw[dW];exact(OQ q).symm
 |t::p,q=>by
  rw[dW,OR g p q];have:(fun b=>dW (fun a=>g a b) (t::p))=fun b=>t.2*g t.1 b+dW (fun a=>g a b) p:=rfl;rw[this,PM,PL]
def gX (s:ba)(q:List ba):List ba:=q.map fun t=>(ds s.1 t.1,s.2*t.2)
def c3:List ba->List ba->List ba
 |[],_=>[]
 |s::p,q=>gX s q++c3 p q
theorem Hi (f:List Int->Rat)(s:ba):∀q:List ba,dW f (gX s q)=s.2*dW (fun b=>f (ds s.1 b)) q
 |[]=>by rw[dW,Rat.mul_zero];rfl
 |t::q=>by
  have bM:=Hi f s q;show s.2*t.2*f (ds s.1 t.1)+dW f (gX s q)=_;rw[bM,dW,Rat.mul_add,aql]
theorem qV (f:List Int->Rat):∀p q:List ba,dW f (c3 p q)=dW (fun a=>dW (fun b=>f (ds a b)) q) p
 |[],q=>rfl
 |s::p,q=>by rw[c3,Cm,Hi,qV f p q,dW]
theorem B0:∀a b:List Int,ds a b=ds b a
 |[],[]=>rfl
 |[],_::_=>rfl
 |_::_,[]=>rfl
 |a::x,b::y=>by rw[ds,ds,Int.add_comm,B0 x y]
theorem aaH (p q:List ba)(m:List Int):cG (c3 p q) m=cG (c3 q p) m:=by
 rw[jT,jT,qV,qV,OR]
 congr 1;funext b;congr 1;funext a;rw[B0]
theorem N3 {p FZ q nK:List ba}(aa:∀m,cG p m=cG FZ m)(ad:∀m,cG q m=cG nK m)(m:List Int):cG (c3 p q) m=cG (c3 FZ nK) m:=by
 rw[jT,jT,qV,qV,N2 aa]
 congr 1;funext a;rw[N2 ad]
def eM (c:Rat)(p:List ba):List ba:=p.map fun t=>(t.1,t.2*c)
theorem N4 (f:List Int->Rat)(c:Rat):∀p:List ba,dW f (eM c p)=c*dW f p
 |[]=>by rw[dW,Rat.mul_zero];rfl
 |t::p=>by
  show t.2*c*f t.1+dW f (eM c p)=_;rw[N4 f c p,dW,Rat.mul_add,Rat.mul_comm t.2 c,aql]
theorem wq (c:Rat)(p:List ba)(m:List Int):cG (eM c p) m=c*cG p m:=by rw[jT,jT,N4]
def iG:List ba->ba->List ba
 |[],t=>[t]
 |u::p,t=>if u.1=t.1 then(u.1,u.2+t.2)::p else u::iG p t
theorem Hj {t:ba}:∀{p:List ba},(∀u∈p,u.1≠t.1)->iG p t=p++[t]
 |[],_=>rfl
 |u::p,h=>by rw[iG,aoA (h u (by simp)),Hj fun v aM=>h v (by simp[aM])];rfl
theorem QX {t:ba}:∀{p:List ba} {j:Nat} {u:ba},(p.map Prod.fst).Nodup->p[j]? =some u->u.1=t.1->iG p t=p.set j (u.1,u.2+t.2)
 |[],j,u,_,h,_=>by simp at h
 |x::p,0,u,_,h,e=>by
  obtain rfl:x=u:=by simpa using h
  rw[iG,aoB e];rfl
 |x::p,j+1,u,aY,h,e=>by
  have h:p[j]? =some u:=by simpa using h
  simp only[ape,aqR]at aY;have ak:x.1≠t.1:=fun ex=>aY.1 (aoO.2 ⟨u,ap7 h,by rw[e,ex]⟩);rw[iG,aoA ak,QX aY.2 h e];rfl
theorem OS (t:ba)(m:List Int):∀p:List ba,cG (iG p t) m=cG p m+(if t.1=m then t.2 else 0)
 |[]=>by rw[iG,cG,cG,cG,Rat.add_zero,aqk]
 |u::p=>by
  have bM:=OS t m p;rw[iG];split
  ·rename_i e;rw[cG,cG];simp only;rw[e];split
   ·rw[apO,Rat.add_comm t.2,<-apO]
   ·rw[Rat.add_zero]
  ·rw[cG,cG,bM,apO]
theorem PN (t:ba):∀p:List ba,(iG p t).map Prod.fst=p.map Prod.fst/\t.1∈p.map Prod.fst\/(iG p t).map Prod.fst=p.map Prod.fst++[t.1]/\t.1∉p.map Prod.fst
 |[]=> .inr ⟨rfl,by simp⟩
 |u::p=>by
  rw[iG];split
  ·rename_i e;exact .inl ⟨rfl,by simp[e]⟩
  ·rename_i ne;rcases PN t p with⟨aa,ad⟩|⟨aa,ad⟩
   ·refine .inl ⟨by rw[ape,ape,aa], ?_⟩;rw[ape];exact aqa _ ad
   ·refine .inr ⟨by rw[ape,ape,aa];rfl, ?_⟩;rw[ape];intro hm;rcases aoW.1 hm with e|hm
    ·exact ne e.symm
    ·exact ad hm
theorem N5 {t:ba}{p:List ba}(h:(p.map Prod.fst).Nodup):((iG p t).map Prod.fst).Nodup:=by
 rcases PN t p with⟨aa,_⟩|⟨aa,ad⟩
 ·rw[aa];exact h
 ·rw[aa,List.nodup_append]
  exact⟨h,by simp,fun a aS b ah=>by
   rw[apr.1 ah]
   rintro rfl;exact ad aS⟩
theorem aaI {p q:List ba}(h:p.Perm q)(m:List Int):cG p m=cG q m:=by
 induction h with
 |nil=>rfl
 |cons x _ bM=>rw[cG,cG,bM]
 |swap x y l=>rw[cG,cG,cG,cG,<-apO,<-apO,Rat.add_comm (if y.1=m then y.2 else 0)]
 |trans _ _ ajS ajT=>rw[ajS,ajT]
theorem GM (m:List Int):∀p:List ba,cG (p.filter fun t=> !decide (t.2=0)) m=cG p m
 |[]=>rfl
 |t::p=>by
  rw[List.filter_cons];split
  ·rw[cG,cG,GM m p]
  ·rename_i h;have bc:t.2=0:=by simpa using h
   rw[cG,GM m p,bc];split<;>rw[aqk]
theorem Y5 {p acc q:List ba}(aC:∀m,cG acc m=cG p m)(aY:(acc.map Prod.fst).Nodup)(aD:q.Perm (acc.filter fun t=> !decide (t.2=0)))(ay:q.Pairwise fun t u=>¬fT u.1 t.1):q=nrm p:=by
 refine Io ⟨?_,fun t au=> ?_⟩ fun m=>by rw[aaI aD,GM,aC]
 ·have aB:(q.map Prod.fst).Nodup:=by
   rw[(aD.map Prod.fst).nodup_iff];exact aY.sublist ((List.filter_sublist).map _)
  have mC:q.Pairwise fun t u=>t.1≠u.1:=List.pairwise_map.1 aB;exact(ay.and mC).imp fun⟨aa,ad⟩=>(Cl ad).resolve_right aa
 ·have:=aD.mem_iff.1 au;rw[apW]at this;simpa using this.2
theorem N6 (m:List Int):∀(p acc:List ba),cG (p.foldl iG acc) m=cG acc m+cG p m
 |[],acc=>by rw[List.foldl_nil,cG,Rat.add_zero]
 |t::p,acc=>by rw[aqM,N6 m p,OS,cG,apO]
end ab
end
section
open Go Go.aj
namespace ab
def M4:List Int->List Int->Int->(ag->R->Prop)->Prop:=
 fun u v j K=>0<=ai (j+↑v.length)/\ai (j+↑v.length)<↑u.length/\0<=ai (ai (j+↑v.length)-1)/\ai (ai (j+↑v.length)-1)<↑u.length/\0<=ai (↑v.length-1)/\ai (↑v.length-1)<↑v.length/\¬aW (v.getD (ai (↑v.length-1)).toNat 0)=0/\0<=ai (↑v.length-1)/\ai (↑v.length-1)<↑v.length/\¬aW (v.getD (ai (↑v.length-1)).toNat 0)=0/\∃(J:Int->Prop),(∃(aQ:Int->Int->Prop),∃(m:Int->Int->Nat),((false,ag.af .u32 u)=(false,ag.af .u32 u)/\aQ (aW ((cP BinOp.or .u64 (aW (aW (u.getD (ai (j+↑v.length)).toNat 0)*4294967296)) (aW (u.getD (ai (ai (j+↑v.length)-1)).toNat 0))).tdiv (aW (v.getD (ai (↑v.length-1)).toNat 0)))) ((cP BinOp.or .u64 (aW (aW (u.getD (ai (j+↑v.length)).toNat 0)*4294967296)) (aW (u.getD (ai (ai (j+↑v.length)-1)).toNat 0))).tmod (aW (v.getD (ai (↑v.length-1)).toNat 0))))/\∀(v9 v10:Int),aQ v9 v10->(decide (4294967296<=v9)=true->0<=ai (↑v.length-1)/\ai (↑v.length-1)<↑v.length/\(decide (4294967296<=aW (v10+aW (v.getD (ai (↑v.length-1)).toNat 0)))=true->(false,ag.af .u32 u)=(false,ag.af .u32 u)/\J (aW (v9-1)))/\(decide (4294967296<=aW (v10+aW (v.getD (ai (↑v.length-1)).toNat 0)))=false->(false,ag.af .u32 u)=(false,ag.af .u32 u)/\aQ (aW (v9-1)) (aW (v10+aW (v.getD (ai (↑v.length-1)).toNat 0)))/\m (aW (v9-1)) (aW (v10+aW (v.getD (ai (↑v.length-1)).toNat 0)))<m v9 v10))/\(decide (4294967296<=v9)=false->(decide (v10<4294967296)=true->0<=ai (↑v.length-2)/\ai (↑v.length-2)<↑v.length/\0<=ai (ai (j+↑v.length)-2)/\ai (ai (j+↑v.length)-2)<↑u.length/\(decide (cP BinOp.or .u64 (aW (v10*4294967296)) (aW (u.getD (ai (ai (j+↑v.length)-2)).toNat 0))<aW (v9*aW (v.getD (ai (↑v.length-2)).toNat 0)))=true->0<=ai (↑v.length-1)/\ai (↑v.length-1)<↑v.length/\(decide (4294967296<=aW (v10+aW (v.getD (ai (↑v.length-1)).toNat 0)))=true->(false,ag.af .u32 u)=(false,ag.af .u32 u)/\J (aW (v9-1)))/\(decide (4294967296<=aW (v10+aW (v.getD (ai (↑v.length-1)).toNat 0)))=false->(false,ag.af .u32 u)=(false,ag.af .u32 u)/\aQ (aW (v9-1)) (aW (v10+aW (v.getD (ai (↑v.length-1)).toNat 0)))/\m (aW (v9-1)) (aW (v10+aW (v.getD (ai (↑v.length-1)).toNat 0)))<m v9 v10))/\(decide (cP BinOp.or .u64 (aW (v10*4294967296)) (aW (u.getD (ai (ai (j+↑v.length)-2)).toNat 0))<aW (v9*aW (v.getD (ai (↑v.length-2)).toNat 0)))=false->(false,ag.af .u32 u)=(false,ag.af .u32 u)/\J v9))/\(decide (v10<4294967296)=false->(false,ag.af .u32 u)=(false,ag.af .u32 u)/\J v9)))/\∀(v9:Int),J v9->∃(aQ:Int->Int->Int->List Int->Prop),∃(m:Int->Int->Int->List Int->Nat),aQ 0 0 0 u/\∀(v11 v12 b7:Int) (aq:List Int),aQ v11 v12 b7 aq->(decide (b7<=↑v.length)=true->∃(J:Int->Prop),((decide (b7<↑v.length)=true->0<=b7/\b7<↑v.length/\(false,ag.af .u32 aq)=(false,ag.af .u32 aq)/\J (aW (v12+aW (v9*aW (v.getD b7.toNat 0)))))/\(decide (b7<↑v.length)=false->(false,ag.af .u32 aq)=(false,ag.af .u32 aq)/\J v12))/\∀(fa:Int),J fa->0<=ai (j+b7)/\ai (j+b7)<↑aq.length/\∃(J:Int->Int->Prop),((decide (aW (aq.getD (ai (j+b7)).toNat 0)<aW (cP BinOp.and .u64 fa 4294967295+v11))=true->(false,ag.af .u32 aq)=(false,ag.af .u32 aq)/\J 1 (aW (aW (aq.getD (ai (j+b7)).toNat 0)+4294967296)))/\(decide (aW (aq.getD (ai (j+b7)).toNat 0)<aW (cP BinOp.and .u64 fa 4294967295+v11))=false->(false,ag.af .u32 aq)=(false,ag.af .u32 aq)/\J 0 (aW (aq.getD (ai (j+b7)).toNat 0))))/\∀(iW nd:Int),J iW nd->0<=ai (j+b7)/\ai (j+b7)<↑aq.length/\aQ iW (fa.fdiv 4294967296) (ai (b7+1)) (aq.set (ai (j+b7)).toNat (bY (aW (nd-aW (cP BinOp.and .u64 fa 4294967295+v11)))))/\m iW (fa.fdiv 4294967296) (ai (b7+1)) (aq.set (ai (j+b7)).toNat (bY (aW (nd-aW (cP BinOp.and .u64 fa 4294967295+v11)))))<m v11 v12 b7 aq)/\(decide (b7<=↑v.length)=false->(decide (v11=0)=true->K (ag.af .u32 aq) (R.d (U.int .u32 (bY v9))))/\(decide (v11=0)=false->∃(aQ:Int->Int->List Int->Prop),∃(m:Int->Int->List Int->Nat),aQ 0 0 aq/\∀(v12 fL:Int) (aq:List Int),aQ v12 fL aq->(decide (fL<=↑v.length)=true->0<=ai (j+fL)/\ai (j+fL)<↑aq.length/\∃(J:Int->Prop),((decide (fL<↑v.length)=true->0<=fL/\fL<↑v.length/\(false,ag.af .u32 aq)=(false,ag.af .u32 aq)/\J (aW (aW (aW (aq.getD (ai (j+fL)).toNat 0)+v12)+aW (v.getD fL.toNat 0))))/\(decide (fL<↑v.length)=false->(false,ag.af .u32 aq)=(false,ag.af .u32 aq)/\J (aW (aW (aq.getD (ai (j+fL)).toNat 0)+v12))))/\∀(lV:Int),J lV->0<=ai (j+fL)/\ai (j+fL)<↑aq.length/\aQ (lV.fdiv 4294967296) (ai (fL+1)) (aq.set (ai (j+fL)).toNat (bY lV))/\m (lV.fdiv 4294967296) (ai (fL+1)) (aq.set (ai (j+fL)).toNat (bY lV))<m v12 fL aq)/\(decide (fL<=↑v.length)=false->K (ag.af .u32 aq) (R.d (U.int .u32 (bY (aW (v9-1))))))))
end ab
end
section
open Go Go.aj
namespace ab
theorem ab1 {v2 gw w G V dE l D:Nat}(ax:v2+dE*(G*V)=gw+w)(ad:v2<w)(ov:gw=l+dE*D)(At:G*V<=D+V):
 1<=G/\gw<dE*(G*V)/\dE*((G-1)*V)<=gw/\dE*(G*V)=dE*((G-1)*V)+dE*V/\(G-1)*V<=D:=by
 have il:1<=G:=by
  rcases ap9 G with bc|bc
  ·rw[bc,apY,ao6]at ax;omega
  ·exact bc
 have aV:G*V=(G-1)*V+V:=by rw[<-Nat.succ_mul];congr 1;omega
 have bp:dE*(G*V)=dE*((G-1)*V)+dE*V:=by rw[aV,aoS]
 have b1:(G-1)*V<=D:=by omega
 refine⟨il,by omega, ?_,bp,b1⟩;have:=ao3 dE b1;omega
theorem ab2 {v2 v3 gw w C G V dE:Nat}(aS:v3+w*C=v2+dE*V)(ax:v2+dE*(G*V)=gw+w)(bp:dE*(G*V)=dE*((G-1)*V)+dE*V)(b1:dE*((G-1)*V)<=gw)(fM:gw<dE*(G*V))(aM:v3<w)(hw:dE*V<=w):
 v3+dE*((G-1)*V)=gw:=by
 rcases aqg C 1 with h|h
 ·obtain rfl:C=0:=by omega
  rw[ao6]at aS;omega
 ·rcases aqg C 2 with ad|ad
  ·obtain rfl:C=1:=by omega
   rw[ao_]at aS;omega
  ·have:=ao3 w ad;omega
theorem RJ {v:List Int}{i:Nat}(h:v.length<=i):lm v i=0:=by unfold lm;rw[yS h];rfl
set_option maxHeartbeats 1000000 in
theorem X6 (u v:List Int)(j:Int)(K:ag->R->Prop)(h:BX.T (.vec 0) (.af .u32 u) [.d (.af .u32 v), .d (.int .i64 j)] K):M4 u v j K:=by
 obtain⟨⟨jn,qj,oq,xx,TX,pq,bG⟩,ae⟩:=h
 obtain⟨j,rfl⟩:∃i:Nat,j=i:=⟨j.toNat,by omega⟩
 simp only[aoD]at TX bG ae;have zR:=jn.2;have agy:=qj.2;have hu:=jn.1;have ow:=qj.1
 obtain⟨n,nI⟩:∃n,v.length=n:=⟨_,rfl⟩
 rw[nI]at oq TX pq agy;have tw:val v<4294967296^n:=nI▸iE ow
 have fin:∀(c2:List Int) (Q:Nat),bL c2->c2.length=u.length->val c2+4294967296^j*(Q*val v)=val u->Q*val v<=er u j->er u j<(Q+1)*val v->Q<4294967296->K (.af .u32 c2) (.d (.int .u32 (IntKind.wrap .u32 (Q:Int)))):=fun c2 Q aa ad ax aV bp b1=>by
  have aZ:val u/4294967296^j/val v=Q:=by rw[Il hu];exact Nat.div_eq_of_lt_le aV bp
  rw[aZ]at ae;have jZ:val u-4294967296^j*(Q*val v)=val c2:=by omega
  rw[jZ,<-ad,HV _ aa rfl]at ae;rw[ia (by omega)];exact ae
 unfold M4 ai aW bY;rw[nI];have cY:IntKind.wrap .i64 ((n:Int)-1)=((n-1:Nat):Int):=by rw[bP (by omega)];omega
 have hO:IntKind.wrap .i64 ((n:Int)-2)=((n-2:Nat):Int):=by rw[bP (by omega)];omega
 have mF:IntKind.wrap .i64 ((j:Int)+(n:Int))=((j+n:Nat):Int):=by rw[bP (by omega)];omega
 have l2:IntKind.wrap .i64 (((j+n:Nat):Int)-1)=((j+n-1:Nat):Int):=by rw[bP (by omega)];omega
 have qy:IntKind.wrap .i64 (((j+n:Nat):Int)-2)=((j+n-2:Nat):Int):=by rw[bP (by omega)];omega
 simp only[cY,hO,mF,l2,qy,aoD];obtain⟨p,lv,l3,aY⟩:=QN (j:=j) hu ow nI oq rfl pq bG;simp only[iu hu,iu ow,Iz (fV hu (j+n)) (fV hu (j+n-1))];have Fv:IntKind.wrap .u64 ((lm v (n-1):Nat):Int)=((lm v (n-1):Nat):Int):=cS (by have:=aY.tg;omega);have Fw:IntKind.wrap .u64 ((lm v (n-2):Nat):Int)=((lm v (n-2):Nat):Int):=cS (by have:=aY.ay;omega);simp only[Fv,Fw]
 obtain⟨F,Av⟩:∃F,lm u (j+n)*4294967296+lm u (j+n-1)=F:=⟨_,rfl⟩
 rw[Av]at aY;simp only[Av]
 obtain⟨D,Aw⟩:∃D,er u j=D:=⟨_,rfl⟩
 rw[Aw]at aY fin
 obtain⟨t,rW⟩:∃t,lm v (n-1)=t:=⟨_,rfl⟩
 obtain⟨s,qt⟩:∃s,lm v (n-2)=s:=⟨_,rfl⟩
 obtain⟨iO,zQ⟩:∃s,lm u (j+n-2)=s:=⟨_,rfl⟩
 rw[rW,qt,zQ]at aY;simp only[rW,qt,zQ];obtain⟨jP,pv,rU,qs,au,tg,ay,vt,xP,tR⟩:=aY;have Kt:Int.tdiv (F:Int) (t:Int)=((F/t:Nat):Int):=by rw[aqX (by omega),aqu]
 have Ku:Int.tmod (F:Int) (t:Int)=((F%t:Nat):Int):=by rw[aqY (by omega),aqH]
 simp only[Kt,Ku];have ajJ:F<18446744073709551616:=by omega
 have JQ:F/t<=F:=aqZ _ _;have ajK:F%t<t:=apm _ au
 have A2:∀r8:Nat,r8<=F->IntKind.wrap .u64 (r8:Int)=(r8:Int):=fun r8 h=>cS (by omega)
 simp only[A2 _ JQ];refine⟨by omega,by omega,by omega,by omega,by omega,by omega,by omega,by omega,by omega,by omega,fun g=>∃G:Nat,g=G/\G<4294967296/\D<(G+1)*val v/\G*val v<=D+val v, ?_, ?_⟩
 ·refine⟨fun g r=>∃G bC:Nat,g=G/\r=bC/\t*G+bC=F/\bC<4294967296/\D<(G+1)*val v,fun g r=>g.toNat,⟨by first|rfl|trivial,F/t,F%t,rfl,rfl,aqe F t,by omega, ?_⟩, ?_⟩
  ·rw[pv,jP];exact(PF (lv:=lv) (s:=s) rfl rfl au qs vt).1
  rintro g r ⟨G,bC,rfl,rfl,Ax,dS,rV⟩
  have ajL:G<=F:=by
   have:1*G<=t*G:=aoR _ au;omega
  have JR:IntKind.wrap .u64 ((bC:Int)+(t:Int))=((bC+t:Nat):Int):=by rw[cS (by omega)];omega
  simp only[JR];refine⟨fun il=>⟨by omega,by omega, ?_⟩,fun il=>⟨fun TY=>⟨by omega,by omega,by omega,by omega, ?_⟩,fun TY=> ?_⟩⟩
  ·simp only[aoG]at il;have jY:D<G*val v:=aoZ xP (aoR _ (by omega))
   have JS:1<=G:=by
    rcases ap9 G with bc|bc
    ·rw[bc,apY]at jY;omega
    ·exact bc
   have pB:IntKind.wrap .u64 ((G:Int)-1)=((G-1:Nat):Int):=by rw[cS (by omega)];omega
   have o4:t*(G-1)+(bC+t)=F:=by
    have:t*G=t*(G-1)+t:=by rw[<-Nat.mul_succ];exact apg (t*·) (show G=(G-1)+1 by omega)
    omega
   have o5:D<(G-1+1)*val v:=by rw[show G-1+1=G by omega];exact jY
   simp only[pB];refine⟨fun ao=>⟨by first|rfl|trivial,G-1,rfl, ?_,o5, ?_⟩,fun ao=>⟨by first|rfl|trivial,⟨G-1,bC+t,rfl,rfl,o4, ?_,o5⟩, ?_⟩⟩
   ·simp only[aoG]at ao;refine ap1 (a:=t) ?_;omega
   ·simp only[aoG]at ao
    have lU:G-1<4294967296:=by
     refine ap1 (a:=t) ?_;omega
    have j2:(G-1)*s<=(bC+t)*4294967296+iO:=by
     have aa:(G-1)*s<=4294967296*4294967296:=apG (by omega) (by omega);have ad:4294967296*4294967296<=(bC+t)*4294967296:=aoR _ (by omega);omega
    rw[pv,jP];exact wG o4 au rU lU j2
   ·simp only[aoF]at ao;omega
   ·show((G-1:Nat):Int).toNat<(G:Int).toNat;omega
  ·simp only[aoF]at il
   have Kv:IntKind.wrap .u64 ((G:Int)*(s:Int))=((G*s:Nat):Int):=by
    have:G*s<=4294967295*4294967295:=apG (by omega) (by omega);rw[<-apK,cS ⟨apz _,by omega⟩]
   have Kw:=Im (h:=bC) (l:=iO) dS vt;simp only[Kv,Kw];refine⟨fun aC=>⟨by omega,by omega, ?_⟩,fun aC=>⟨by first|rfl|trivial,G,rfl,by omega,rV, ?_⟩⟩
   ·simp only[aoG,ap_]at aC;have jY:D<G*val v:=by rw[pv,jP];exact PG Ax qs aC
    have JS:1<=G:=by
     rcases ap9 G with bc|bc
     ·rw[bc,apY]at jY;omega
     ·exact bc
    have pB:IntKind.wrap .u64 ((G:Int)-1)=((G-1:Nat):Int):=by rw[cS (by omega)];omega
    have o4:t*(G-1)+(bC+t)=F:=by
     have:t*G=t*(G-1)+t:=by rw[<-Nat.mul_succ];exact apg (t*·) (show G=(G-1)+1 by omega)
     omega
    have o5:D<(G-1+1)*val v:=by rw[show G-1+1=G by omega];exact jY
    simp only[pB];refine⟨fun ao=>⟨by first|rfl|trivial,G-1,rfl, ?_,o5, ?_⟩,fun ao=>⟨by first|rfl|trivial,⟨G-1,bC+t,rfl,rfl,o4, ?_,o5⟩, ?_⟩⟩
    ·simp only[aoG]at ao;refine ap1 (a:=t) ?_;omega
    ·simp only[aoG]at ao
     have lU:G-1<4294967296:=by
      refine ap1 (a:=t) ?_;omega
     have j2:(G-1)*s<=(bC+t)*4294967296+iO:=by
      have aa:(G-1)*s<=4294967296*4294967296:=apG (by omega) (by omega);have ad:4294967296*4294967296<=(bC+t)*4294967296:=aoR _ (by omega);omega
     rw[pv,jP];exact wG o4 au rU lU j2
    ·simp only[aoF]at ao;omega
    ·show((G-1:Nat):Int).toNat<(G:Int).toNat;omega
   ·simp only[aoF,ap_]at aC;rw[pv,jP];exact wG Ax au rU (by omega) (by omega)
  ·simp only[aoF]at TY;omega
 ·rintro g ⟨G,rfl,tx,rV,At⟩
  obtain⟨l,ov,az⟩:∃l,val u=l+4294967296^j*D/\l<4294967296^j:=⟨dw u j,by rw[<-Aw];exact mr u j,ru hu j⟩
  have ajU:4294967296^j*val v<=4294967296^(j+(n+1)):=by
   rw[aph];exact ao3 _ (aoV (aqh tw) (apd (by decide) (by omega)))
  have bm:∀p,j+n<p->u.getD p 0=0:=fun p aD=>by
   refine QL hu (m:=j+n+1) ?_ p (by omega);rw[show j+n+1=j+1+n by omega,aph];exact aoZ bG (ao3 _ (aqh tw))
  refine⟨fun A3 c i c2=>bL c2/\c2.length=u.length/\∃C B i0:Nat,A3=B/\c=C/\i=i0/\i0<=n+1/\B<=1/\C<4294967296/\(n<i0->C=0)/\val c2+4294967296^j*(G*dw v i0)=val u+4294967296^(j+i0)*(C+B)/\∀p,j+n<p->c2.getD p 0=0,
   fun _ _ i _=>n+1-i.toNat,⟨hu,rfl,0,0,0,rfl,rfl,rfl,by omega,by omega,by omega,fun _=>rfl,by rw[iD,ao6,ao6,ao6],bm⟩, ?_⟩
  rintro A3 c i c2 ⟨jn,u2,C,B,i,rfl,rfl,rfl,fh,eu,l4,ajV,jZ,dn⟩;refine⟨fun h=> ?_,fun h=> ?_⟩
  ·simp only[aoG]at h;have Kx:IntKind.wrap .i64 ((j:Int)+(i:Int))=((j+i:Nat):Int):=by rw[bP (by omega)];omega
   have Ay:IntKind.wrap .i64 ((i:Int)+1)=((i+1:Nat):Int):=by rw[bP (by omega)];omega
   simp only[Kx,Ay,aoD,iu jn];have pn:=fV ow i;have Ea:=fV jn (j+i);have xR:¬i<n->lm v i=0:=fun h=>RJ (by omega)
   obtain⟨d,ku⟩:∃d,lm v i=d:=⟨_,rfl⟩
   obtain⟨fo,mB⟩:∃d,lm c2 (j+i)=d:=⟨_,rfl⟩
   rw[ku]at pn xR;rw[mB]at Ea;simp only[ku,mB];obtain⟨t1,lo,tS,st,ni,I2,Fx,hV,t2,cR,zK,tz,ox,t4⟩:=OM (g:=G) (d:=d) (c:=C) (b:=B) (u:=fo) tx pn l4 eu Ea;have ajO:=QS tx pn;have w1:IntKind.wrap .u64 (d:Int)=(d:Int):=cS (by omega);have dq:IntKind.wrap .u64 ((G:Int)*(d:Int))=((G*d:Nat):Int):=by rw[<-apK,cS ⟨apz _,by omega⟩]
   have bY:IntKind.wrap .u64 ((C:Int)+((G*d:Nat):Int))=((C+G*d:Nat):Int):=by rw[<-aqN,cS ⟨apz _,by omega⟩]
   simp only[w1,dq,bY];refine⟨fun x=>x=((C+G*d:Nat):Int),⟨fun aa=> ?_,fun aa=> ?_⟩, ?_⟩
   ·simp only[aoG]at aa;exact⟨by omega,aa,by first|rfl|trivial,rfl⟩
   ·simp only[aoF]at aa;refine⟨by first|rfl|trivial, ?_⟩;rw[xR (by omega),ao6,ao0]
   rintro x rfl;have kA:=RH t1;rw[I2]at kA
   have x7:((C+G*d:Nat):Int).fdiv 4294967296=(tS:Int):=by
    have e:∀q:Nat,(q:Int).fdiv 4294967296=((q/4294967296:Nat):Int):=fun q=>by rw[apk _ (by omega)];omega
    rw[e,Fx]
   have ai:IntKind.wrap .u64 ((lo:Int)+(B:Int))=((lo+B:Nat):Int):=by rw[cS (by omega)];omega
   have aW:IntKind.wrap .u64 (fo:Int)=(fo:Int):=cS (by omega);have F0:IntKind.wrap .u64 ((fo:Int)+4294967296)=((fo+4294967296:Nat):Int):=by rw[cS (by omega)];omega
   simp only[kA,x7,ai,aW,F0];refine⟨by omega,by omega,fun b x=>b=(ni:Int)/\IntKind.wrap .u32 (IntKind.wrap .u64 (x-((lo+B:Nat):Int)))=(st:Int),⟨fun ad=>⟨by first|rfl|trivial, ?_, ?_⟩,fun ad=>⟨by first|rfl|trivial, ?_, ?_⟩⟩, ?_⟩
   ·simp only[aoG,ap_]at ad;rw[aoB (by omega)]at tz;exact tz
   ·simp only[aoG,ap_]at ad;rw[cS (by omega),kf];omega
   ·simp only[aoF,ap_]at ad;rw[aoA (by omega)]at tz;exact tz
   ·simp only[aoF,ap_]at ad;rw[cS (by omega),kf];omega
   rintro b x ⟨rfl,ak⟩;simp only[ak];have kt:=me c2 (j+i) (st:Int) (by omega);rw[show(c2.getD (j+i) 0).toNat=fo from mB,aoD]at kt;have nD:dw v (i+1)=dw v i+4294967296^i*d:=by rw[gy,show(v.getD i 0).toNat=d from ku]
   have kk:=QO kt jZ t4;refine⟨by omega,by omega,⟨jn.set _ ⟨by omega,by omega⟩,by rw[aoT];exact u2,tS,ni,i+1,rfl,rfl,rfl,by omega,ox,t2,fun hi=> ?_, ?_,fun p aD=> ?_⟩,by show n+1-((i+1:Nat):Int).toNat<n+1-(i:Int).toNat;omega⟩
   ·rw[xR (by omega),ao6,ao0]at Fx;omega
   ·have pj:4294967296^j*(G*dw v (i+1))=4294967296^j*(G*dw v i)+4294967296^(j+i)*(G*d):=by
     rw[nD,aoS,aoS,aph,apF G,ao4]
    have vv:4294967296^(j+(i+1))*(tS+ni)=4294967296^(j+i)*(4294967296*(tS+ni)):=by
     rw[<-apA,ao2,ao4]
    rw[pj,vv];exact kk
   ·rw[e1,aoA (by omega)];exact dn p aD
  ·simp only[aoF]at h;obtain rfl:i=n+1:=by omega
   have AD:=ajV (by omega);subst AD;rw[hE v (by omega),ao8]at jZ;have mA:val c2<4294967296^(j+(n+1)):=DI jn fun p aD=>dn p (by omega);refine⟨fun ah=> ?_,fun ah=> ?_⟩
   ·simp only[aoG]at ah;obtain rfl:B=0:=by omega
    rw[ao6,ao0]at jZ;refine fin c2 G jn u2 jZ ?_ rV tx;refine Nat.le_of_lt_succ (ap1 (a:=4294967296^j) ?_);rw[Nat.mul_succ];omega
   ·simp only[aoF]at ah;obtain rfl:B=1:=by omega
    rw[ao_]at jZ;obtain⟨g1,g7,g6,g5,g4⟩:=ab1 jZ mA ov At;have pB:IntKind.wrap .u64 ((G:Int)-1)=((G-1:Nat):Int):=by rw[cS (by omega)];omega
    simp only[pB]
    refine⟨fun c i3 ej=>bL ej/\ej.length=u.length/\∃hB i0:Nat,c=hB/\i3=i0/\i0<=n+1/\hB<=1/\val ej+4294967296^(j+i0)*hB=val c2+4294967296^j*dw v i0/\∀p,j+n<p->ej.getD p 0=0,fun _ i3 _=>n+1-i3.toNat,
     ⟨jn,u2,0,0,rfl,rfl,by omega,by omega,by rw[iD,ao6,ao6],dn⟩, ?_⟩
    rintro c i3 ej ⟨nf,zS,hB,i3,rfl,rfl,ajP,TP,uQ,Az⟩;refine⟨fun ax=> ?_,fun ax=> ?_⟩
    ·simp only[aoG]at ax;have tN:IntKind.wrap .i64 ((j:Int)+(i3:Int))=((j+i3:Nat):Int):=by rw[bP (by omega)];omega
     have JW:IntKind.wrap .i64 ((i3:Int)+1)=((i3+1:Nat):Int):=by rw[bP (by omega)];omega
     simp only[tN,JW,aoD,iu nf];have pn:=fV ow i3;have Ea:=fV nf (j+i3);have xR:¬i3<n->lm v i3=0:=fun h=>RJ (by omega)
     obtain⟨d,ku⟩:∃d,lm v i3=d:=⟨_,rfl⟩
     obtain⟨fo,mB⟩:∃d,lm ej (j+i3)=d:=⟨_,rfl⟩
     rw[ku]at pn xR;rw[mB]at Ea;simp only[ku,mB];have eo:IntKind.wrap .u64 (IntKind.wrap .u64 (fo:Int)+(hB:Int))=((fo+hB:Nat):Int):=by rw[cS (x:=(fo:Int)) (by omega),cS (by omega)];omega
     have w1:IntKind.wrap .u64 (((fo+hB:Nat):Int)+IntKind.wrap .u64 (d:Int))=((fo+hB+d:Nat):Int):=by rw[cS (x:=(d:Int)) (by omega),cS (by omega)];omega
     simp only[eo,w1];refine⟨by omega,by omega,fun x=>x=((fo+hB+d:Nat):Int),⟨fun aa=> ?_,fun aa=> ?_⟩, ?_⟩
     ·simp only[aoG]at aa;exact⟨by omega,aa,by first|rfl|trivial,rfl⟩
     ·simp only[aoF]at aa;refine⟨by first|rfl|trivial, ?_⟩;rw[xR (by omega),ao0]
     rintro x rfl
     obtain⟨S,gh⟩:∃S,fo+hB+d=S:=⟨_,rfl⟩
     simp only[gh];have dq:IntKind.wrap .u32 (S:Int)=((S%4294967296:Nat):Int):=by rw[kf];omega
     have bY:Int.fdiv (S:Int) 4294967296=((S/4294967296:Nat):Int):=by rw[apk _ (by omega)];omega
     simp only[dq,bY];have zT:=me ej (j+i3) ((S%4294967296:Nat):Int) (by omega);rw[show(ej.getD (j+i3) 0).toNat=fo from mB,aoD]at zT;have nD:dw v (i3+1)=dw v i3+4294967296^i3*d:=by rw[gy,show(v.getD i3 0).toNat=d from ku]
     have kk:=QP (T:=S/4294967296) (d:=d) zT uQ (by omega);refine⟨by omega,by omega,⟨nf.set _ ⟨by omega,by omega⟩,by rw[aoT];exact zS,S/4294967296,i3+1,rfl,rfl,by omega,by omega, ?_,fun p aD=> ?_⟩,by show n+1-((i3+1:Nat):Int).toNat<n+1-(i3:Int).toNat;omega⟩
     ·have pj:4294967296^j*dw v (i3+1)=4294967296^j*dw v i3+4294967296^(j+i3)*d:=by
       rw[nD,aoS,aph,ao4]
      have vv:4294967296^(j+(i3+1))*(S/4294967296)=4294967296^(j+i3)*(4294967296*(S/4294967296)):=by
       rw[<-apA,ao2,ao4]
      rw[pj,vv];exact kk
     ·rw[e1,aoA (by omega)];exact Az p aD
    ·simp only[aoF]at ax;obtain rfl:i3=n+1:=by omega
     rw[hE v (by omega)]at uQ;have Jp:val ej<4294967296^(j+(n+1)):=DI nf fun p aD=>Az p (by omega);have zF:=ab2 uQ jZ g5 g6 g7 Jp ajU;refine fin ej (G-1) nf zS zF g4 ?_ (by omega);rw[show G-1+1=G by omega];refine ap1 (a:=4294967296^j) ?_;omega
end ab
end
section
open Go Go.aj
namespace ab
def Me:List Int->List Int->(R->Prop)->Prop:=
 fun a b K=>bw a/\∀x,x=aO (val a)->bw b/\∀aX,aX=aO (val b)->(decide (↑aX.length=(0:Int))=true->K (R.tup [R.d (U.af .u32 []),R.d (U.af .u32 []),R.d (U.int .i64 (3:Int))]))/\(decide (↑aX.length=(0:Int))=false->(bw x/\bw aX)/\∀aU,aU=cmp (val x) (val aX)->(decide (aU<(0:Int))=true->K (R.tup [R.d (U.af .u32 []),R.d (U.af .u32 x),R.d (U.int .i64 (0:Int))]))/\(decide (aU<(0:Int))=false->(decide (↑aX.length=(1:Int))=true->(0:Int)<=(0:Int)/\(0:Int)<↑aX.length/\(bw x/\L (aX.getD (0:Nat) (0:Int))/\(0:Int)<aX.getD (0:Nat) (0:Int))/\∀bo,bo=aO (val x/(aX.getD (0:Nat) (0:Int)).toNat)->∀ck,ck=↑(val x%(aX.getD (0:Nat) (0:Int)).toNat)->bw [ck]/\∀x,x=aO (val [ck])->K (R.tup [R.d (U.af .u32 bo),R.d (U.af .u32 x),R.d (U.int .i64 (0:Int))]))/\(decide (↑aX.length=(1:Int))=false->∃(aQ:Int->Prop),∃(m:Int->Nat),((true,ag.af .u32 x)=(true,ag.af .u32 x)/\(true,ag.af .u32 aX)=(true,ag.af .u32 aX)/\aQ (0:Int))/\∀(v9:Int),aQ v9->(0:Int)<=ai (↑aX.length-(1:Int))/\ai (↑aX.length-(1:Int))<↑aX.length/\(0:Int)<=aW v9/\(decide (bY (aX.getD (ai (↑aX.length-(1:Int))).toNat (0:Int)*(2:Int)^min (aW v9).toNat (32:Nat))<(2147483648:Int))=true->(true,ag.af .u32 x)=(true,ag.af .u32 x)/\(true,ag.af .u32 aX)=(true,ag.af .u32 aX)/\aQ (ai (v9+(1:Int)))/\m (ai (v9+(1:Int)))<m v9)/\(decide (bY (aX.getD (ai (↑aX.length-(1:Int))).toNat (0:Int)*(2:Int)^min (aW v9).toNat (32:Nat))<(2147483648:Int))=false->(bw x/\(0:Int)<=v9/\v9<(32:Int))/\∀bo,bo=ki (val x*(2:Nat)^v9.toNat) (x.length+(1:Nat))->(bw aX/\(0:Int)<=v9/\v9<(32:Int))/\∀ck,ck=ki (val aX*(2:Nat)^v9.toNat) (aX.length+(1:Nat))->bw ck/\∀de,de=aO (val ck)->(0:Int)<=ai (ai (↑x.length-↑aX.length)+(1:Int))/\ai (ai (↑x.length-↑aX.length)+(1:Int))<=ai (ai (↑x.length-↑aX.length)+(1:Int))/\ai (ai (↑x.length-↑aX.length)+(1:Int))*(4:Int)<=(281474976710656:Int)/\∃(aQ:List Int->Int->List Int->List Int->Prop),∃(m:List Int->Int->List Int->List Int->Nat),((true,ag.af .u32 x)=(true,ag.af .u32 x)/\(true,ag.af .u32 aX)=(true,ag.af .u32 aX)/\(true,ag.af .u32 ck)=(true,ag.af .u32 ck)/\(true,ag.af .u32 de)=(true,ag.af .u32 de)/\aQ de (ai (↑(List.replicate (ai (ai (↑x.length-↑aX.length)+(1:Int))).toNat (0:Int)).length-(1:Int))) bo (List.replicate (ai (ai (↑x.length-↑aX.length)+(1:Int))).toNat (0:Int)))/\∀(v11:List Int) (b7:Int) (br jf:List Int),aQ v11 b7 br jf->(decide ((0:Int)<=b7)=true->(0:Nat)<br.length/\(bw br/\bw v11/\(2:Nat)<=v11.length/\(0:Int)<=b7/\b7.toNat+v11.length<br.length/\(2147483648:Nat)*(4294967296:Nat)^(v11.length-(1:Nat))<=val v11/\val br<(4294967296:Nat)^(b7.toNat+(1:Nat))*val v11)/\(0:Int)<=b7/\b7<↑jf.length/\(true,ag.af .u32 x)=(true,ag.af .u32 x)/\(true,ag.af .u32 aX)=(true,ag.af .u32 aX)/\(true,ag.af .u32 ck)=(true,ag.af .u32 ck)/\(true,ag.af .u32 de)=(true,ag.af .u32 de)/\aQ v11 (ai (b7-(1:Int))) (ki (val br-(4294967296:Nat)^b7.toNat*(val br/(4294967296:Nat)^b7.toNat/val v11*val v11)) br.length) (jf.set b7.toNat ↑(val br/(4294967296:Nat)^b7.toNat/val v11))/\m v11 (ai (b7-(1:Int))) (ki (val br-(4294967296:Nat)^b7.toNat*(val br/(4294967296:Nat)^b7.toNat/val v11*val v11)) br.length) (jf.set b7.toNat ↑(val br/(4294967296:Nat)^b7.toNat/val v11))<m v11 b7 br jf)/\(decide ((0:Int)<=b7)=false->bw jf/\∀x,x=aO (val jf)->(bw br/\(0:Int)<=v9/\v9<(32:Int))/\∀di,di=aO (val br/(2:Nat)^v9.toNat)->K (R.tup [R.d (U.af .u32 x),R.d (U.af .u32 di),R.d (U.int .i64 (0:Int))]))))))
def Np:List Int->List Int->(R->Prop)->Prop:=
 fun a b K=>bw a/\∀x,x=aO (val a)->bw b/\∀aX,aX=aO (val b)->∃(aQ:List Int->List Int->Prop),∃(m:List Int->List Int->Nat),((true,ag.af .u32 x)=(true,ag.af .u32 x)/\(true,ag.af .u32 aX)=(true,ag.af .u32 aX)/\aQ x aX)/\∀(v0 v1:List Int),aQ v0 v1->(decide ((0:Int)<↑v1.length)=true->(bL v0/\v0.length<=(90000000:Nat)/\bL v1/\v1.length<=(90000000:Nat))/\∀aU,(aU=if val v1=(0:Nat)then[]else aO (val v0/val v1))->∀bo,(bo=if val v1=(0:Nat)then[]else aO (val v0%val v1))->∀ck,(ck=if val v1=(0:Nat)then(3:Int)else(0:Int))->(true,ag.af .u32 x)=(true,ag.af .u32 x)/\(true,ag.af .u32 aX)=(true,ag.af .u32 aX)/\aQ v1 bo/\m v1 bo<m v0 v1)/\(decide ((0:Int)<↑v1.length)=false->K (R.d (U.af .u32 v0)))
end ab
end
section
open Go Go.aj
namespace ab
theorem ab3 {gw l dE D V Q:Nat}(ov:gw=dE*D+l)(az:l<dE)(dH:D/V=Q)(jP:0<V):dE*(Q*V)<=gw/\gw-dE*(Q*V)<dE*V:=by
 have aa:=aqe D V;rw[dH]at aa;have ad:=apm D jP;have ax:dE*D=dE*(Q*V)+dE*(D%V):=by rw[<-aoS,apa Q V,aa]
 have aV:=ao3 dE (show D%V+1<=V from ad);rw[aoS,ao_]at aV;omega
set_option maxHeartbeats 1000000 in
theorem WM (a b:List Int)(K:R->Prop)(h:BK.T [.d (.af .u32 a), .d (.af .u32 b)] K):Me a b K:=by
 obtain⟨⟨aS,hk,ah,k1⟩,ae⟩:=h;have xS:bw a:=⟨aS,by omega⟩;have xT:bw b:=⟨ah,by omega⟩;have TZ:=jx xS;have T0:=jx xT;unfold Me ai aW bY;refine⟨xS, ?_⟩;rintro x ak;refine⟨xT, ?_⟩;rintro y bn;have gf:bw x:=ak▸⟨gx _,by omega⟩;have x9:bw y:=bn▸⟨gx _,by omega⟩;have J1:val x=val a:=by rw[ak,dV]
 have J2:val y=val b:=by rw[bn,dV]
 have xA:x.length<=90000000:=by rw[ak];omega
 have Ai:y.length<=90000000:=by rw[bn];omega
 have ajW:Norm y:=bn▸G2 _;have nF:aO (val x)=x:=by rw[J1,ak]
 rw[<-J1,<-J2]at ae;clear ak TZ T0 xS xT aS ah hk k1
 have T1:y.length=0↔val y=0:=⟨fun h=>by rw[apl.1 h];rfl,fun h=>by
  have e:y=[]:=by rw[bn,<-J2,h,kC]
  rw[e];rfl⟩
 clear bn J1 J2 a b;refine⟨fun h=> ?_,fun h=>⟨⟨gf,x9⟩, ?_⟩⟩
 ·simp only[aoG]at h;have bc:val y=0:=T1.1 (by omega);simp only[bc,apc]at ae;exact ae
 rintro c rfl;simp only[aoF]at h;have bc:val y≠0:=fun e=>h (by rw[T1.2 e];rfl);simp only[aoA bc]at ae;refine⟨fun aa=> ?_,fun aa=>⟨fun ad=> ?_,fun ad=> ?_⟩⟩
 ·simp only[aoG]at aa
  have bG:val x<val y:=by
   unfold cmp at aa;split at aa
   ·assumption
   ·split at aa<;>omega
  rw[aqf bG,apw bG,kC,nF]at ae;exact ae
 ·simp only[aoG]at ad
  have eu:(y.getD 0 0).toNat=val y:=by
   have:=hE y (i:=1) (by omega);rw[gy,iD,aqb,apX,ao8]at this;exact this
  have JY:=x9.1 0;rw[eu];have hm:val x%val y<val y:=apm _ (by omega);refine⟨by omega,by omega,⟨gf,JY,by omega⟩, ?_⟩;rintro q rfl r rfl;refine⟨agv (by omega), ?_⟩;rintro t rfl;have aM:val [((val x%val y:Nat):Int)]=val x%val y:=by simp only[val,ao6,ao0,aoD]
  rw[aM];exact ae
 ·simp only[aoF]at aa ad
  have jc:val y<=val x:=by
   unfold cmp at aa;split at aa
   ·exact absurd (by decide) aa
   ·omega
  have et:2<=y.length:=by omega
  obtain⟨eY,hy,vQ,nQ,r7⟩:=PI x9.1 ajW et;have aA:IntKind.wrap .i64 ((Nat.cast:Nat->Int) y.length-1)=((y.length-1:Nat):Int):=by rw[bP (by omega)];omega
  simp only[aA,aoD,iu x9.1];have JO:=fV x9.1 (y.length-1)
  obtain⟨t,rW⟩:∃t,lm y (y.length-1)=t:=⟨_,rfl⟩
  rw[rW]at eY hy vQ nQ r7 JO;simp only[rW];obtain⟨ajX,T2,_⟩:=wi (n:=t) (by omega);refine⟨fun i=>∃k:Nat,i=k/\k<=32-db t,fun i=>32-i.toNat,⟨by first|rfl|trivial,by first|rfl|trivial,0,rfl,by omega⟩, ?_⟩;rintro i ⟨k,rfl,Ji⟩;have bZ:IntKind.wrap .u64 (k:Int)=(k:Int):=cS (by omega);have ajY:IntKind.wrap .i64 ((k:Int)+1)=((k+1:Nat):Int):=by rw[bP (by omega)];omega
  have jo:(2:Int)^k=((2^k:Nat):Int):=by simp
  have anI:t*2^k<4294967296:=by
   have ax:t*2^k<2^db t*2^k:=aqJ T2 (apx k);rw[<-aph]at ax;have aV:=apd (show 0<2 by decide) (show db t+k<=32 by omega);have tt:(2:Nat)^32=4294967296:=rfl;omega
  have A2:IntKind.wrap .u32 ((t:Int)*(2:Int)^k)=((t*2^k:Nat):Int):=by
   rw[jo,<-apK,ia ⟨apz _,by omega⟩]
  simp only[bZ,ajY,aoD,show min k 32=k by omega,A2];have JP:(2:Nat)^31=2147483648:=rfl;refine⟨by omega,by omega,by omega,fun ax=> ?_,fun ax=> ?_⟩
  ·simp only[aoG]at ax
   have xF:k≠32-db t:=by
    rintro rfl;have aV:=aoR (2^(32-db t)) ajX;rw[<-aph,show db t-1+(32-db t)=31 by omega,JP]at aV;omega
   exact⟨by first|rfl|trivial,by first|rfl|trivial,⟨k+1,rfl,by omega⟩,by show 32-((k+1:Nat):Int).toNat<32-(k:Int).toNat;omega⟩
  ·simp only[aoF]at ax
   have tu:32-db t=k:=by
    rcases aqg k (32-db t)with aV|aV
    ·exfalso;have bp:t*2^k<2^db t*2^k:=aqJ T2 (apx k);rw[<-aph]at bp;have b1:=apd (show 0<2 by decide) (show db t+k<=31 by omega);omega
    ·omega
   rw[tu]at nQ r7;have ET:k<32:=by omega
   have agz:2^k<=2147483648:=by
    have:=apd (show 0<2 by decide) (show k<=31 by omega);omega
   have IA:4294967296^(y.length-1)<=val y:=by
    have aa:=mr y (y.length-1);rw[mu]at aa;have ad:=ao3 (4294967296^(y.length-1)) (show 1<=lm y (y.length-1)+4294967296*er y (y.length-1+1) by omega);omega
   have hlen:y.length<=x.length:=by
    have aa:=iE gf.1;have ad:4294967296^(y.length-1)<4294967296^x.length:=by omega
    have:=(Nat.pow_lt_pow_iff_right (by decide:1<4294967296)).1 ad;omega
   refine⟨⟨gf,by omega,by omega⟩, ?_⟩;rintro im tv;refine⟨⟨x9,by omega,by omega⟩, ?_⟩;rintro v0 lR
   have xt:val v0=val y*2^k:=by
    rw[lR];refine yQ _ _ (aoZ nQ (apd (by decide) (by omega)))
   have s8:val im=val x*2^k:=by
    rw[tv];refine yQ _ _ ?_;rw[ao2];exact Nat.mul_lt_mul'' (iE gf.1) (by omega)
   have I1:bL im:=tv▸yP _ _;have EU:bL v0:=lR▸yP _ _;have SP:im.length=x.length+1:=by rw[tv,wH]
   have SQ:v0.length=y.length+1:=by rw[lR,wH]
   refine⟨⟨EU,by omega⟩, ?_⟩;rintro v aM;have pr:val v=val y*2^k:=by rw[aM,dV,xt]
   have ow:bL v:=aM▸gx _
   have nI:v.length=y.length:=by
    rw[aM,xt];refine Nat.le_antisymm (hZ.2 nQ) ?_;refine Nat.le_of_not_lt fun ak=> ?_;have aa:=hZ.1 (show(aO (val y*2^k)).length<=y.length-1 by omega);have ad:1*4294967296^(y.length-1)<=2147483648*4294967296^(y.length-1):=aoR _ (by decide);omega
   have j1:val x/val y=val im/val v:=by rw[s8,pr,Nat.mul_div_mul_right _ _ (apx k)]
   have ic:(val x%val y)*2^k=val im%val v:=by rw[s8,pr,Nat.mul_mod_mul_right]
   have pq:2147483648*4294967296^(y.length-1)<=val v:=by rw[pr];exact r7
   have tw:val v<4294967296^y.length:=by rw[pr];exact nQ
   have Fs:0<val v:=by rw[pr];exact Nat.mul_pos (by omega) (apx k)
   have A1:val im<4294967296^(x.length+1-y.length)*val v:=by
    rw[s8];have aa:val x*2^k<4294967296^x.length*2147483648:=aoZ (aqJ (iE gf.1) (apx k)) (ao3 _ agz);have ad:=ao3 (4294967296^(x.length+1-y.length)) pq;rw[apF,<-aph,show x.length+1-y.length+(y.length-1)=x.length by omega,apa 2147483648]at ad;exact aoZ aa ad
   obtain⟨m,hm⟩:∃m,x.length+1-y.length=m:=⟨_,rfl⟩
   obtain⟨n,aB⟩:∃n,y.length=n:=⟨_,rfl⟩
   have ajI:1<=m:=by omega
   rw[hm]at A1;rw[aB]at pq tw nI et hlen Ai⊢
   have jK:IntKind.wrap .i64 (IntKind.wrap .i64 ((Nat.cast:Nat->Int) x.length-(n:Int))+1)=(m:Int):=by
    rw[bP (x:=(Nat.cast:Nat->Int) x.length-(n:Int)) (by omega),bP (by omega)];omega
   rw[jK];simp only[aoD,List.length_replicate]
   refine⟨by omega,by omega,by omega,fun c7 j u q=>c7=v/\-1<=j/\j<m/\bL u/\u.length=m+n/\bL q/\q.length=m/\val im=val q*val v+val u/\val u<4294967296^(j+1).toNat*val v/\∀p:Nat,(p:Int)<=j->q.getD p 0=0,
    fun c7 j u q=>(j+1).toNat,⟨by first|rfl|trivial,by first|rfl|trivial,by first|rfl|trivial,by first|rfl|trivial, ?_⟩, ?_⟩
   ·rw[bP (by omega)];refine⟨rfl,by omega,by omega,I1,by omega,bL.nt _,by simp,by rw[yD,apY,ao8], ?_,fun p _=>by simp[aoC,ap6];split<;>rfl⟩;rw[show((m:Int)-1+1).toNat=m by omega];exact A1
   rintro c7 j u q ⟨rfl,xx,kq,hu,nB,aZ,vf,heq,bG,Au⟩;refine⟨fun aK=> ?_,fun aK=> ?_⟩
   ·simp only[aoG]at aK
    obtain⟨j,rfl⟩:∃i:Nat,j=i:=⟨j.toNat,by omega⟩
    rw[show((j:Int)+1).toNat=j+1 by omega]at bG;simp only[aoD];have dE:IntKind.wrap .i64 ((j:Int)-1)=(j:Int)-1:=bP (by omega);rw[dE]
    obtain⟨D,j_⟩:∃D,val u/4294967296^j=D:=⟨_,rfl⟩
    obtain⟨Q,dH⟩:∃Q,D/val c7=Q:=⟨_,rfl⟩
    simp only[j_,dH];have ov:val u=4294967296^j*D+val u%4294967296^j:=by rw[<-j_,aqe]
    obtain⟨f1,f2⟩:=ab3 ov (apm _ (Nat.pow_pos (by decide))) dH Fs
    have an_:Q<4294967296:=by
     rw[<-dH,<-j_];refine aqr (aqr ?_);rw[ao2,ao4]at bG;rw[apa (val c7)];exact bG
    have SU:val (ki (val u-4294967296^j*(Q*val c7)) u.length)=val u-4294967296^j*(Q*val c7):=
     yQ _ _ (apN (Nat.sub_le _ _) (iE hu))
    have xQ:=Au j (by omega);have AB:=me q j (Q:Int) (by omega);rw[xQ,show Int.toNat 0=0 from rfl,ao6,ao0,aoD]at AB
    refine⟨by omega,⟨⟨hu,by omega⟩,⟨ow,by omega⟩,by omega,by omega,by omega,by rw[nI];exact pq,bG⟩,by omega,by omega,by first|rfl|trivial,by first|rfl|trivial,by first|rfl|trivial,by first|rfl|trivial,
     ⟨by first|rfl|trivial,by omega,by omega,yP _ _,by rw[wH];exact nB,aZ.set _ ⟨by omega,by omega⟩,by rw[aoT];exact vf, ?_, ?_,fun p aD=> ?_⟩, ?_⟩
    ·rw[AB,SU,heq,aoX,ao4];omega
    ·rw[SU,show((j:Int)-1+1).toNat=j by omega];exact f2
    ·rw[e1,aoA (by omega)];exact Au p (by omega)
    ·show((j:Int)-1+1).toNat<((j:Int)+1).toNat;omega
   ·simp only[aoF]at aK;obtain rfl:j=-1:=by omega
    rw[show((-1:Int)+1).toNat=0 from rfl,aqb,apX]at bG
    have Ak:val im/val c7=val q:=by
     rw[heq,apa,Nat.mul_add_div (by omega),aqf bG,ao0]
    have xy:val im%val c7=val u:=by
     rw[heq,apa,aqC,apw bG]
    have dS:val u/2^k=val x%val y:=by rw[<-xy,<-ic,Nat.mul_div_cancel _ (apx k)]
    refine⟨⟨aZ,by omega⟩, ?_⟩;rintro r rfl;refine⟨⟨⟨hu,by omega⟩,by omega,by omega⟩, ?_⟩;rintro s rfl;rw[dS,<-Ak,<-j1];exact ae
theorem Y6 (a b:List Int)(K:R->Prop)(h:CQ.T [.d (.af .u32 a), .d (.af .u32 b)] K):Np a b K:=by
 obtain⟨⟨aS,hk,ah,k1⟩,ae⟩:=h;have xS:bw a:=⟨aS,by omega⟩;have xT:bw b:=⟨ah,by omega⟩;have TZ:=jx xS;have T0:=jx xT;unfold Np
 obtain⟨G,il⟩:∃G,Nat.gcd (val a) (val b)=G:=⟨_,rfl⟩
 rw[il]at ae;refine⟨xS, ?_⟩;rintro x rfl;refine⟨xT, ?_⟩;rintro y rfl;refine⟨fun u v=>∃A B:Nat,u=aO A/\v=aO B/\Nat.gcd A B=G/\(aO A).length<=90000000/\(aO B).length<=90000000,fun u v=>val v,⟨by first|rfl|trivial,by first|rfl|trivial,val a,val b,rfl,rfl,il,by omega,by omega⟩, ?_⟩;rintro u v ⟨A,B,rfl,rfl,rX,dM,eu⟩;simp only[dV];refine⟨fun h=>⟨⟨gx _,dM,gx _,eu⟩, ?_⟩,fun h=> ?_⟩
 ·simp only[aoG]at h
  have pw:B≠0:=fun e=>by
   subst e;rw[kC]at h;simp at h
  have bG:A%B<B:=apm _ (by omega);rintro q rfl r rfl e rfl;rw[aoA pw];refine⟨by first|rfl|trivial,by first|rfl|trivial,⟨B,A%B,rfl,rfl,by rw[Ck];exact rX,eu, ?_⟩,by rw[dV];exact bG⟩;refine aoV (hZ.2 ?_) eu;exact Nat.lt_trans bG (hZ.1 (aoH _))
 ·simp only[aoF]at h;have pw:B=0:=zl (by omega);subst pw;rw[Nat.gcd_zero_right]at rX;rw[rX];exact ae
end ab
end
section
open Go Go.aj
namespace ab
end ab
end
section
open Go Go.aj
namespace ab
end ab
end
section
namespace ab
open Go Go.aj
theorem wA (s:Bool)(n:Nat):(dx s n).natAbs=n:=by unfold dx;split<;>omega
theorem QY (s:Bool):dx s 0=0:=by unfold dx;split<;>rfl
theorem RK (s:Bool)(n m:Nat):dx s n+dx s m=dx s (n+m):=by unfold dx;split<;>omega
theorem sC (n:Int):dx (decide (n<0)) n.natAbs=n:=by
 unfold dx
 by_cases h:n<0
 ·simp only[h,decide_true,apc];omega
 ·simp only[h,decide_false,apU,if_false];omega
theorem Ip (s t:Bool)(n m:Nat):dx s n*dx t m=dx (s !=t) (n*m):=by
 unfold dx;cases s<;>cases t<;>simp[apK,Int.neg_mul,Int.mul_neg]
theorem B1 {s t:Bool}{n m:Nat}(h:s≠t)(hm:m<=n):dx s n+dx t m=dx s (n-m):=by
 unfold dx;cases s<;>cases t<;>simp at h⊢<;>omega
theorem RL {s:Bool}{n d:Nat}(aY:d≠0):(mkRat (dx s n) d).num.natAbs=n/Nat.gcd n d:=by
 rw[Rat.num_mkRat,aoA aY,wA,Nat.gcd_comm,Int.natAbs_ediv_of_dvd,wA]
 ·rfl
 ·rw[<-Int.dvd_natAbs,wA];exact Int.natCast_dvd_natCast.2 (Nat.gcd_dvd_left n d)
theorem RM {s:Bool}{n d:Nat}(aY:d≠0):(mkRat (dx s n) d).den=d/Nat.gcd n d:=by
 rw[Rat.den_mkRat,aoA aY,wA,Nat.gcd_comm]
theorem aet {s:Bool}{n d:Nat}(aY:d≠0):cj (mkRat (dx s n) d)=(s&&decide (n≠0)):=by
 unfold cj;rw[Rat.num_mkRat,aoA aY,wA];have bg:0<d.gcd n:=Nat.gcd_pos_of_pos_left _ (by omega)
 cases s with
 |false=>
  have:¬dx false n/(d.gcd n:Int)<0:=by
   have:0<=dx false n/(d.gcd n:Int):=Int.ediv_nonneg (by unfold dx;simp) (by omega);omega
  simp[this]
 |true=>
  by_cases bc:n=0
  ·subst bc;simp[QY]
  ·have:dx true n/(d.gcd n:Int)<0:=Int.ediv_neg_of_neg_of_pos (by unfold dx;simp;omega) (by omega);simp[this,bc]
theorem RN {s:Bool}{a b:List Int}(h:val b≠0):cm (bd s a b)=aO (val a/Nat.gcd (val a) (val b)):=by unfold cm bd;rw[RL h]
theorem RO {s:Bool}{a b:List Int}(h:val b≠0):cc (bd s a b)=aO (val b/Nat.gcd (val a) (val b)):=by unfold cc bd;rw[RM h]
theorem RP {s:Bool}{a b:List Int}(h:val b≠0):cj (bd s a b)=(s&&decide (val a≠0)):=aet h
theorem QZ {s:Bool}{a b:List Int}(h:val b=0):bd s a b=0:=by unfold bd;rw[h,Rat.mkRat_zero]
theorem HG {s:Bool}{a b:List Int}(h:val a=0):bd s a b=0:=by unfold bd;rw[h,QY,Rat.zero_mkRat]
theorem Sl:cj 0=false:=rfl
theorem pL:aO 1=[1]:=by
 rw[wy (by decide),show 1/4294967296=0 by decide,kC];rfl
theorem Sm:cm 0=[]:=by unfold cm;exact kC
theorem Sn:cc 0=[1]:=by unfold cc;exact pL
theorem val_one:val [1]=1:=by rw[<-pL,dV]
theorem mc (r:Rat):bd (cj r) (cm r) (cc r)=r:=by
 unfold bd cj cm cc;rw[dV,dV,sC,Rat.mkRat_self]
theorem ab4 (r:Rat):bL (cm r):=gx _
theorem ab5 (r:Rat):bL (cc r):=gx _
theorem q0 (r:Rat):val (cm r)=r.num.natAbs:=dV _
theorem n1 (r:Rat):val (cc r)=r.den:=dV _
theorem sD (r:Rat):val (cc r)≠0:=by rw[n1];exact r.den_nz
theorem HH (r:Rat):cc r=[1]↔r.den=1:=by rw[<-pL];exact Hg
theorem PO (r:Rat):cm r=[]↔r=0:=by
 unfold cm;rw[qU,Int.natAbs_eq_zero,Rat.num_eq_zero]
theorem bS.cx {k:Nat}{a:List Int}(h:bS k a)(ae:k<=100000000:=by decide):bw a:=⟨h.1,by have:=h.2;omega⟩
theorem bS.mono {k j:Nat}{a:List Int}(h:bS k a)(ae:k<=j):bS j a:=⟨h.1,by have:=h.2;omega⟩
def dd (k:Nat)(r:Rat):Prop:=r.num.natAbs<4294967296^k/\r.den<4294967296^k
theorem dd.num {k:Nat}{r:Rat}(h:dd k r):bS k (cm r):=⟨ab4 r,hZ.2 h.1⟩
theorem dd.den {k:Nat}{r:Rat}(h:dd k r):bS k (cc r):=⟨ab5 r,hZ.2 h.2⟩
theorem dd.mono {k j:Nat}{r:Rat}(h:dd k r)(ae:k<=j):dd j r:=⟨aoZ h.1 (apd (by decide) ae),aoZ h.2 (apd (by decide) ae)⟩
theorem dd.mk {k:Nat}{n:Int}{d:Nat}(aa:n.natAbs<4294967296^k)(ad:d<4294967296^k)(ae:1<=k:=by omega):dd k (mkRat n d):=by
 by_cases aY:d=0
 ·subst aY;rw[Rat.mkRat_zero];have:(4294967296:Nat)^1<=4294967296^k:=apd (by decide) ae;exact⟨by show 0<_;omega,by show 1<_;omega⟩
 ·rw[show n=dx (decide (n<0)) n.natAbs from(sC n).symm];exact⟨by rw[RL aY];exact apN (aqZ _ _) aa,by rw[RM aY];exact apN (aqZ _ _) ad⟩
theorem bS.val {k:Nat}{a:List Int}(h:bS k a):val a<4294967296^k:=aoZ (iE h.1) (apd (by decide) h.2)
theorem dd.of {k:Nat}{s:Bool}{a b:List Int}(aS:bS k a)(ah:bS k b)(ae:1<=k:=by omega):dd k (bd s a b):= .mk (by rw[wA];exact aS.val) ah.val ae
theorem dd.neg {k:Nat}{r:Rat}(h:dd k r):dd k (-r):=⟨by rw[Rat.neg_num,Int.natAbs_neg];exact h.1,h.2⟩
theorem wj {k j:Nat}{x y:Nat}(ak:x<4294967296^k)(bn:y<4294967296^j):x*y<4294967296^(k+j):=by
 rw[aph];exact Nat.mul_lt_mul'' ak bn
theorem dd.mul {k j:Nat}{r q:Rat}(h:dd k r)(g:dd j q)(ae:1<=k+j:=by omega):dd (k+j) (r*q):=by
 rw[Rat.mul_def'];exact .mk (by rw[aqm];exact wj h.1 g.1) (wj h.2 g.2) ae
theorem dd.add {k j:Nat}{r q:Rat}(h:dd k r)(g:dd j q):dd (k+j+1) (r+q):=by
 rw[Rat.add_def'];refine .mk ?_ ?_
 ·have aa:=wj h.1 g.2;have ad:=wj g.1 h.2;rw[Nat.add_comm j k]at ad;have ax:=Int.natAbs_add_le (r.num*q.den) (q.num*r.den);rw[aqm,aqm]at ax;have aA:(q.den:Int).natAbs=q.den:=rfl;have aG:(r.den:Int).natAbs=r.den:=rfl;rw[aA,aG]at ax;rw[ao2];generalize (4294967296:Nat)^(k+j)=W at*;omega
 ·have aa:=wj h.2 g.2;rw[ao2];generalize (4294967296:Nat)^(k+j)=W at*;omega
theorem dd.sub {k j:Nat}{r q:Rat}(h:dd k r)(g:dd j q):dd (k+j+1) (r-q):=by rw[Rat.sub_eq_add_neg];exact h.add g.neg
theorem dd.inv {k:Nat}{r:Rat}(h:dd k r)(ae:1<=k:=by omega):dd k r⁻¹:=by
 refine⟨?_, ?_⟩
 ·rw[Rat.num_inv,aqm];have:r.num.sign.natAbs<=1:=by rw[Int.natAbs_sign];split<;>omega
  have ad:=h.2;have aG:(r.den:Int).natAbs=r.den:=rfl;rw[aG]
  calc _<=1*r.den:=aoR _ this
   _<_:=by omega
 ·rw[Rat.den_inv];split
  ·have:(4294967296:Nat)^1<=4294967296^k:=apd (by decide) ae;omega
  ·exact h.1
theorem dd.div {k j:Nat}{r q:Rat}(h:dd k r)(g:dd j q)(ae:1<=j:=by omega):dd (k+j) (r/q):=by rw[Rat.div_def];exact h.mul (g.inv ae) (by omega)
theorem dd.zero:dd 1 0:=⟨by decide,by decide⟩
theorem dd.one:dd 1 1:=⟨by decide,by decide⟩
theorem dd.pow {k:Nat}{r:Rat}(h:dd k r)(ae:1<=k:=by omega):∀n,dd (k*n+1) (r^n)
 |0=>by rw[Rat.pow_zero];exact dd.one.mono (by omega)
 |n+1=>by
  rw[Rat.pow_succ];exact((dd.pow h ae n).mul h).mono (by rw[Nat.mul_succ];omega)
theorem Co (r:Rat):cj r=true↔r<0:=by
 unfold cj;rw[apb,Rat.lt_iff];simp
theorem wI {r:Rat}:lS r=0↔r=0:=by
 unfold lS;split
 ·simp_all
 ·split<;>simp_all
end ab
end
section
open Go Go.aj
namespace ab
def Nq:Bool->List Int->List Int->(R->Prop)->Prop:=
 fun s a b K=>bw a/\∀x,x=aO (val a)->bw b/\∀aX,aX=aO (val b)->(decide (↑x.length=(0:Int))=true->K (R.agg [R.d (U.bool false),R.d (U.af .u32 []),R.d (U.af .u32 [(1:Int)])]))/\(decide (↑x.length=(0:Int))=false->(bw x/\bw aX)/\∀aU,aU=aO ((val x).gcd (val aX))->((!decide (↑aU.length=(1:Int)))=true->(bw x/\bw aU)/\∀bo,(bo=if val aU=(0:Nat)then[]else aO (val x/val aU))->∀ck,(ck=if val aU=(0:Nat)then[]else aO (val x%val aU))->∀x,(x=if val aU=(0:Nat)then(3:Int)else(0:Int))->(bw aX/\bw aU)/\∀x,(x=if val aU=(0:Nat)then[]else aO (val aX/val aU))->∀de,(de=if val aU=(0:Nat)then[]else aO (val aX%val aU))->∀di,(di=if val aU=(0:Nat)then(3:Int)else(0:Int))->K (R.agg [R.d (U.bool s),R.d (U.af .u32 bo),R.d (U.af .u32 x)]))/\((!decide (↑aU.length=(1:Int)))=false->(0:Int)<=(0:Int)/\(0:Int)<↑aU.length/\((!decide (aU.getD (0:Nat) (0:Int)=(1:Int)))=true->(bw x/\bw aU)/\∀bo,(bo=if val aU=(0:Nat)then[]else aO (val x/val aU))->∀ck,(ck=if val aU=(0:Nat)then[]else aO (val x%val aU))->∀x,(x=if val aU=(0:Nat)then(3:Int)else(0:Int))->(bw aX/\bw aU)/\∀x,(x=if val aU=(0:Nat)then[]else aO (val aX/val aU))->∀de,(de=if val aU=(0:Nat)then[]else aO (val aX%val aU))->∀di,(di=if val aU=(0:Nat)then(3:Int)else(0:Int))->K (R.agg [R.d (U.bool s),R.d (U.af .u32 bo),R.d (U.af .u32 x)]))/\((!decide (aU.getD (0:Nat) (0:Int)=(1:Int)))=false->K (R.agg [R.d (U.bool s),R.d (U.af .u32 x),R.d (U.af .u32 aX)]))))
def Nr:List Int->(R->Prop)->Prop:=
 fun a K=>(bw a/\bw [])/\∀x,x=cmp (val a) 0->K (R.d (U.bool (decide (x=0))))
def Ns:Bool->List Int->List Int->(R->Prop)->Prop:=
 fun s a b K=>bw b/\∀x,x=decide (val b=0)->(x=true->(bw []/\bw [1]/\¬1=0)/\∀x,x=cj (bd false [] [1])->∀aX,aX=cm (bd false [] [1])->∀aU,aU=cc (bd false [] [1])->K (R.agg [R.d (U.bool x),R.d (U.af .u32 aX),R.d (U.af .u32 aU)]))/\(x=false->(bw a/\bw b/\¬val b=0)/\∀x,x=cj (bd s a b)->∀aX,aX=cm (bd s a b)->∀aU,aU=cc (bd s a b)->K (R.agg [R.d (U.bool x),R.d (U.af .u32 aX),R.d (U.af .u32 aU)]))
def PQ:List Int->(R->Prop)->Prop:=
 fun a K=>(decide (↑a.length=(1:Int))=true->(0:Int)<=(0:Int)/\(0:Int)<↑a.length/\K (R.d (U.bool (decide (a.getD (0:Nat) (0:Int)=(1:Int))))))/\(decide (↑a.length=(1:Int))=false->K (R.d (U.bool false)))
def VN:Bool->List Int->List Int->(R->Prop)->Prop:=
 fun s a b K=>K (R.agg [R.d (U.bool s),R.d (U.af .u32 a),R.d (U.af .u32 b)])
def OT:Bool->List Int->List Int->(R->Prop)->Prop:=
 fun s a b K=>(bw a/\bw b)/\∀x,x=cj (bd s a b)->∀aX,aX=cm (bd s a b)->∀aU,aU=cc (bd s a b)->True/\∀bo,bo=x->∀x,x=aX->∀ck,ck=aU->K (R.agg [R.d (U.bool bo),R.d (U.af .u32 x),R.d (U.af .u32 ck)])
def Mf:Int->(R->Prop)->Prop:=
 fun n K=>∃(J:Int->Prop),((decide (n<0)=true->J (aW (0-aW n)))/\(decide (n<0)=false->J (aW n)))/\∀(v4:Int),J v4->bw [bY v4,bY (v4.fdiv 4294967296)]/\∀x,x=aO (val [bY v4,bY (v4.fdiv 4294967296)])->K (R.tup [R.d (U.bool (decide (n<0))),R.d (U.af .u32 x)])
def PR:Int->(R->Prop)->Prop:=
 fun n K=>i64 n/\∀x,x=decide (n<0)->∀aX,aX=aO n.natAbs->(bw aX/\bw [1]/\¬1=0)/\∀aU,aU=cj (bd x aX [1])->∀bo,bo=cm (bd x aX [1])->∀ck,ck=cc (bd x aX [1])->True/\∀x,x=aU->∀de,de=bo->∀di,di=ck->K (R.agg [R.d (U.bool x),R.d (U.af .u32 de),R.d (U.af .u32 di)])
def M5:Bool->List Int->Bool->List Int->List Int->(R->Prop)->Prop:=
 fun s a t b d K=>((s==t)=true->(bw a/\bw b)/\∀x,x=aO (val a+val b)->(bw x/\bw d/\¬val d=(0:Nat))/\∀aX,aX=cj (bd s x d)->∀aU,aU=cm (bd s x d)->∀bo,bo=cc (bd s x d)->K (R.agg [R.d (U.bool aX),R.d (U.af .u32 aU),R.d (U.af .u32 bo)]))/\((s==t)=false->∃(J:Bool->List Int->List Int->Prop),((bw a/\bw b)/\∀x,x=cmp (val a) (val b)->(decide (x<(0:Int))=true->(false,ag.cells [R.d (U.bool false),R.emp,R.emp])=(false,ag.cells [R.d (U.bool false),R.emp,R.emp])/\J t b a)/\(decide (x<(0:Int))=false->(false,ag.cells [R.d (U.bool false),R.emp,R.emp])=(false,ag.cells [R.d (U.bool false),R.emp,R.emp])/\J s a b))/\∀(v0:Bool) (v1 v3:List Int),J v0 v1 v3->(bw v1/\bw v3)/\∀x,(x=if val v1<val v3 then[]else aO (val v1-val v3))->∀aX,(aX=if val v1<val v3 then(1:Int)else(0:Int))->(bw x/\bw d/\¬val d=(0:Nat))/\∀aU,aU=cj (bd v0 x d)->∀bo,bo=cm (bd v0 x d)->∀ck,ck=cc (bd v0 x d)->K (R.agg [R.d (U.bool aU),R.d (U.af .u32 bo),R.d (U.af .u32 ck)]))
def PS:Bool->List Int->List Int->Bool->List Int->List Int->(R->Prop)->Prop:=
 fun s a b t c d K=>(bw a/\bw b)/\∀x,x=cj (bd s a b)->∀aX,aX=cm (bd s a b)->∀aU,aU=cc (bd s a b)->(bw c/\bw d)/\∀bo,bo=cj (bd t c d)->∀ck,ck=cm (bd t c d)->∀de,de=cc (bd t c d)->True/\∀di,di=decide (aU=[1])->(di=true->True/\∀dp,dp=decide (de=[1])->(dp=true->(bS 50000000 aX/\bS 50000000 ck/\bw aU/\¬val aU=0)/\∀dK,dK=cj (mkRat (dx x (val aX)+dx bo (val ck)) (val aU))->∀cX,cX=cm (mkRat (dx x (val aX)+dx bo (val ck)) (val aU))->∀e6,e6=cc (mkRat (dx x (val aX)+dx bo (val ck)) (val aU))->True/\∀x,x=dK->∀fB,fB=cX->∀gb,gb=e6->K (R.agg [R.d (U.bool x),R.d (U.af .u32 fB),R.d (U.af .u32 gb)]))/\(dp=false->(bw aX/\bw de)/\∀dK,dK=aO (val aX*val de)->(bw ck/\bw aU)/\∀cX,cX=aO (val ck*val aU)->(bw aU/\bw de)/\∀e6,e6=aO (val aU*val de)->(bS 50000000 dK/\bS 50000000 cX/\bw e6/\¬val e6=0)/\∀fB,fB=cj (mkRat (dx x (val dK)+dx bo (val cX)) (val e6))->∀gb,gb=cm (mkRat (dx x (val dK)+dx bo (val cX)) (val e6))->∀iw,iw=cc (mkRat (dx x (val dK)+dx bo (val cX)) (val e6))->True/\∀x,x=fB->∀jl,jl=gb->∀ny,ny=iw->K (R.agg [R.d (U.bool x),R.d (U.af .u32 jl),R.d (U.af .u32 ny)])))/\(di=false->(bw aX/\bw de)/\∀dp,dp=aO (val aX*val de)->(bw ck/\bw aU)/\∀dK,dK=aO (val ck*val aU)->(bw aU/\bw de)/\∀cX,cX=aO (val aU*val de)->(bS 50000000 dp/\bS 50000000 dK/\bw cX/\¬val cX=0)/\∀e6,e6=cj (mkRat (dx x (val dp)+dx bo (val dK)) (val cX))->∀fB,fB=cm (mkRat (dx x (val dp)+dx bo (val dK)) (val cX))->∀gb,gb=cc (mkRat (dx x (val dp)+dx bo (val dK)) (val cX))->True/\∀x,x=e6->∀iw,iw=fB->∀jl,jl=gb->K (R.agg [R.d (U.bool x),R.d (U.af .u32 iw),R.d (U.af .u32 jl)]))
def PT:Bool->List Int->List Int->(R->Prop)->Prop:=
 fun s a b K=>(bw a/\bw b)/\∀x,x=cj (bd s a b)->∀aX,aX=cm (bd s a b)->∀aU,aU=cc (bd s a b)->((!x)=true->True/\∀x,x=decide ((0:Int)<↑aX.length)->∀bo,bo=aX->∀ck,ck=aU->K (R.agg [R.d (U.bool x),R.d (U.af .u32 bo),R.d (U.af .u32 ck)]))/\((!x)=false->True/\∀x,x=false->∀bo,bo=aX->∀ck,ck=aU->K (R.agg [R.d (U.bool x),R.d (U.af .u32 bo),R.d (U.af .u32 ck)]))
def PU:Bool->List Int->List Int->Bool->List Int->List Int->(R->Prop)->Prop:=
 fun s a b t c d K=>(bS 1000000 c/\bS 1000000 d)/\∀x,x=cj (-bd t c d)->∀aX,aX=cm (-bd t c d)->∀aU,aU=cc (-bd t c d)->(bS 1000000 a/\bS 1000000 b/\bS 1000000 aX/\bS 1000000 aU)/\∀bo,bo=cj (bd s a b+bd x aX aU)->∀ck,ck=cm (bd s a b+bd x aX aU)->∀de,de=cc (bd s a b+bd x aX aU)->K (R.agg [R.d (U.bool bo),R.d (U.af .u32 ck),R.d (U.af .u32 de)])
def PV:Bool->List Int->List Int->Bool->List Int->List Int->(R->Prop)->Prop:=
 fun s a b t c d K=>(bw a/\bw b)/\∀x,x=cj (bd s a b)->∀aX,aX=cm (bd s a b)->∀aU,aU=cc (bd s a b)->(bw c/\bw d)/\∀bo,bo=cj (bd t c d)->∀ck,ck=cm (bd t c d)->∀de,de=cc (bd t c d)->(bw aX/\bw ck)/\∀di,di=aO (val aX*val ck)->(bw aU/\bw de)/\∀dp,dp=aO (val aU*val de)->(bw di/\bw dp/\¬val dp=0)/\∀dK,dK=cj (bd (!x==bo) di dp)->∀cX,cX=cm (bd (!x==bo) di dp)->∀e6,e6=cc (bd (!x==bo) di dp)->True/\∀x,x=dK->∀fB,fB=cX->∀gb,gb=e6->K (R.agg [R.d (U.bool x),R.d (U.af .u32 fB),R.d (U.af .u32 gb)])
def PW:Bool->List Int->List Int->Bool->List Int->List Int->(R->Prop)->Prop:=
 fun s a b t c d K=>(bw a/\bw b)/\∀x,x=cj (bd s a b)->∀aX,aX=cm (bd s a b)->∀aU,aU=cc (bd s a b)->(bw c/\bw d)/\∀bo,bo=cj (bd t c d)->∀ck,ck=cm (bd t c d)->∀de,de=cc (bd t c d)->(decide (↑ck.length=(0:Int))=true->K (R.tup [R.agg [R.d (U.bool false),R.d (U.af .u32 []),R.d (U.af .u32 [])],R.d (U.int .i64 3)]))/\(decide (↑ck.length=(0:Int))=false->(bw aX/\bw de)/\∀di,di=aO (val aX*val de)->(bw aU/\bw ck)/\∀dp,dp=aO (val aU*val ck)->(bw di/\bw dp/\¬val dp=0)/\∀dK,dK=cj (bd (!x==bo) di dp)->∀cX,cX=cm (bd (!x==bo) di dp)->∀e6,e6=cc (bd (!x==bo) di dp)->True/\∀x,x=dK->∀fB,fB=cX->∀gb,gb=e6->K (R.tup [R.agg [R.d (U.bool x),R.d (U.af .u32 fB),R.d (U.af .u32 gb)],R.d (U.int .i64 0)]))
def OU:Bool->List Int->List Int->(R->Prop)->Prop:=
 fun s a b K=>(bw a/\bw b)/\∀x,x=cj (bd s a b)->∀aX,aX=cm (bd s a b)->∀aU,aU=cc (bd s a b)->(decide (↑aX.length=(0:Int))=true->K (R.d (U.int .i64 0)))/\(decide (↑aX.length=(0:Int))=false->(x=true->K (R.d (U.int .i64 (-1))))/\(x=false->K (R.d (U.int .i64 1))))
def PX:Bool->List Int->List Int->Bool->List Int->List Int->(R->Prop)->Prop:=
 fun s a b t c d K=>(bS 1000000 a/\bS 1000000 b/\bS 1000000 c/\bS 1000000 d)/\∀x,x=cj (bd s a b-bd t c d)->∀aX,aX=cm (bd s a b-bd t c d)->∀aU,aU=cc (bd s a b-bd t c d)->(bw aX/\bw aU)/\∀bo,bo=lS (bd x aX aU)->K (R.d (U.int .i64 bo))
def N7:Bool->List Int->List Int->Bool->List Int->List Int->(R->Prop)->Prop:=
 fun s a b t c d K=>(bS 1000000 a/\bS 1000000 b/\bS 1000000 c/\bS 1000000 d)/\∀x,x=lS (bd s a b-bd t c d)->K (R.d (U.bool (decide (x=0))))
def Nt:Bool->List Int->List Int->(R->Prop)->Prop:=
 fun s a b K=>(bw a/\bw b)/\∀x,x=cj (bd s a b)->∀aX,aX=cm (bd s a b)->∀aU,aU=cc (bd s a b)->bw aX/\∀bo,bo=dec (val aX)->∃(J:List Int->Prop),((x=true->(1:Int)+↑bo.length<=(9223372036854775807:Int)/\(false,ag.cells [R.d (U.bool s),R.d (U.af .u32 a),R.d (U.af .u32 b)])=(false,ag.cells [R.d (U.bool s),R.d (U.af .u32 a),R.d (U.af .u32 b)])/\(false,ag.cells [R.d (U.bool x),R.d (U.af .u32 aX),R.d (U.af .u32 aU)])=(false,ag.cells [R.d (U.bool x),R.d (U.af .u32 aX),R.d (U.af .u32 aU)])/\J ([(45:Int)]++bo))/\(x=false->(false,ag.cells [R.d (U.bool s),R.d (U.af .u32 a),R.d (U.af .u32 b)])=(false,ag.cells [R.d (U.bool s),R.d (U.af .u32 a),R.d (U.af .u32 b)])/\(false,ag.cells [R.d (U.bool x),R.d (U.af .u32 aX),R.d (U.af .u32 aU)])=(false,ag.cells [R.d (U.bool x),R.d (U.af .u32 aX),R.d (U.af .u32 aU)])/\J bo))/\∀(v4:List Int),J v4->True/\∀x,x=decide (aU=[(1:Int)])->((!x)=true->bw aU/\∀x,x=dec (val aU)->(1:Int)+↑x.length<=(9223372036854775807:Int)/\↑v4.length+↑([(47:Int)]++x).length<=(9223372036854775807:Int)/\K (R.d (U.str (v4++([(47:Int)]++x)))))/\((!x)=false->K (R.d (U.str v4)))
end ab
end
section
open Go Go.aj
namespace ab
theorem EW {a:List Int}:decide (((a.length:Nat):Int)=0)=true↔a=[]:=by
 rw[apb];constructor
 ·intro h;exact apl.1 (by omega)
 ·rintro rfl;rfl
theorem wB {a:List Int}(h:bw a):bw (aO (val a)):=⟨gx _,aoV (jx h) h.2⟩
theorem um {k n:Nat}(h:n<4294967296^k):bS k (aO n):=⟨gx _,hZ.2 h⟩
theorem Y7 {n:Nat}:aO n=[1]↔n=1:=by rw[<-pL];exact Hg
theorem gcd_le_right {a b:Nat}(h:b≠0):Nat.gcd a b<=b:=Nat.le_of_dvd (aqG h) (Nat.gcd_dvd_right a b)
theorem Hk {n:Nat}{b:List Int}(ah:bw b)(h:n<=val b):bw (aO n):=⟨gx _,aoV (hZ.2 (apN h (iE ah.1))) ah.2⟩
theorem adv {n:Nat}:(aO n).length=1/\(aO n).getD 0 0=1↔n=1:=by
 constructor
 ·rintro⟨aa,ad⟩;rw[<-Y7]
  match aO n,aa,ad with
  |[x],_,ad=>simp at ad;rw[ad]
 ·rintro rfl;rw[pL];simp
theorem ae5 {s:Bool}{a b:List Int}(h:val b≠0)(bc:val a≠0):cj (bd s a b)=s:=by rw[RP h];simp[bc]
theorem Y8 (s:Bool)(a b:List Int)(K:R->Prop)(h:CS.T [.d (.bool s), .d (.af .u32 a), .d (.af .u32 b)] K):Nq s a b K:=by
 obtain⟨⟨aS,ah,oz⟩,ae⟩:=h;unfold Nq;refine⟨aS, ?_⟩;rintro _ rfl;refine⟨ah, ?_⟩;rintro _ rfl;refine⟨fun h=> ?_,fun h=> ?_⟩
 ·have bc:val a=0:=qU.1 (EW.1 h);rw[HG bc,Sl,Sm,Sn]at ae;exact ae
 ·have bc:val a≠0:=fun e=>by
   rw[EW.2 (qU.2 e)]at h;cases h
  have bg:Nat.gcd (val a) (val b)≠0:=fun e=>oz (Nat.gcd_eq_zero_iff.1 e).2;rw[ae5 oz bc,RN oz,RO oz]at ae;refine⟨⟨wB aS,wB ah⟩, ?_⟩;rintro _ rfl;simp only[dV];have r9:bw (aO (Nat.gcd (val a) (val b))):=Hk ah (gcd_le_right oz);refine⟨fun _=>⟨⟨wB aS,r9⟩, ?_⟩,fun aa=>⟨by omega, ?_,fun _=>⟨⟨wB aS,r9⟩, ?_⟩,fun ad=> ?_⟩⟩
  ·rintro _ rfl _ rfl _ rfl;refine⟨⟨wB ah,r9⟩, ?_⟩;rintro _ rfl _ rfl _ rfl;rw[aoA bg,aoA bg];exact ae
  ·have:(((aO (Nat.gcd (val a) (val b))).length:Nat):Int)=1:=by simpa using aa
   omega
  ·rintro _ rfl _ rfl _ rfl;refine⟨⟨wB ah,r9⟩, ?_⟩;rintro _ rfl _ rfl _ rfl;rw[aoA bg,aoA bg];exact ae
  ·have hz:(((aO (Nat.gcd (val a) (val b))).length:Nat):Int)=1:=by simpa using aa
   have aA:(aO (Nat.gcd (val a) (val b))).length=1:=by omega
   have aG:(aO (Nat.gcd (val a) (val b))).getD 0 0=1:=by simpa using ad
   have e:=adv.1 ⟨aA,aG⟩;rw[e,Nat.div_one,Nat.div_one]at ae;exact ae
theorem ab6 {n:Nat}:(decide (cmp n 0=0))=decide (n=0):=by
 unfold cmp
 by_cases h:n=0
 ·subst h;rfl
 ·simp[h]
theorem Q0:bw []:=⟨.nil,by simp⟩
theorem H4:bw [1]:=⟨.mk (by decide) .nil,by simp⟩
theorem Y9 (a:List Int)(K:R->Prop)(h:CT.T [.d (.af .u32 a)] K):Nr a K:=by
 obtain⟨aS,ae⟩:=h;unfold Nr;refine⟨⟨aS,Q0⟩, ?_⟩;rintro _ rfl;rw[ab6];exact ae
theorem Y_ (s:Bool)(a b:List Int)(K:R->Prop)(h:wU.T [ei s a b] K):Ns s a b K:=by
 obtain⟨⟨aS,ah⟩,ae⟩:=h;unfold Ns;refine⟨ah, ?_⟩;rintro _ rfl;refine⟨fun bc=>⟨⟨Q0,H4,by decide⟩, ?_⟩,fun bc=>⟨⟨aS,ah,by simpa using bc⟩, ?_⟩⟩
 ·rintro _ rfl _ rfl _ rfl;have bc:val b=0:=by simpa using bc
  rw[QZ bc]at ae;rw[HG (a:=[]) rfl];exact ae
 ·rintro _ rfl _ rfl _ rfl;exact ae
theorem adw (a:List Int)(K:R->Prop)(h:EJ.T [.d (.af .u32 a)] K):PQ a K:=by
 obtain⟨_,ae⟩:=h;unfold PQ;refine⟨fun h=> ?_,fun h=> ?_⟩
 ·have aa:a.length=1:=by
   have:=aoN h;omega
  refine⟨by omega,by omega, ?_⟩
  match a,aa with
  |[x],_=>
   have e:decide ([x]=[1])=decide (([x]:List Int).getD 0 0=1):=by simp
   rw[e]at ae;exact ae
 ·have aa:a≠[1]:=by
   rintro rfl;simp at h
  have e:decide (a=[1])=false:=by simpa using aa
  rw[e]at ae;exact ae
theorem VT (s:Bool)(a b:List Int)(K:R->Prop)(h:EI.T [ei s a b] K):VN s a b K:=h.2
theorem ab7 (s:Bool)(a b:List Int)(K:R->Prop)(h:wU.T [ei s a b] K):OT s a b K:=by
 obtain⟨aD,ae⟩:=h;unfold OT;refine⟨aD, ?_⟩;rintro _ rfl _ rfl _ rfl;refine⟨trivial, ?_⟩;rintro _ rfl _ rfl _ rfl;exact ae
theorem SV (n:Int)(h:i64 n):IntKind.wrap .u64 n=if n<0 then n+18446744073709551616 else n:=by
 unfold i64 at h;have e:IntKind.wrap .u64 n=n%18446744073709551616:=rfl;rw[e];split<;>omega
theorem WN (n:Int)(K:R->Prop)(h:BL.T [.d (.int .i64 n)] K):Mf n K:=by
 obtain⟨aB,ae⟩:=h;unfold Mf aW bY;have mC:=aB;unfold i64 at mC;refine⟨fun v=>v=(n.natAbs:Int),⟨fun h=> ?_,fun h=> ?_⟩, ?_⟩
 ·have h:=aoN h;rw[SV n aB,aoB h];have e:IntKind.wrap .u64 (0-(n+18446744073709551616))=(0-(n+18446744073709551616))%18446744073709551616:=rfl;rw[e];omega
 ·have h:=aoP h;rw[SV n aB,aoA h];omega
 ·rintro v rfl;have aA:IntKind.wrap .u32 (n.natAbs:Int)=(n.natAbs:Int)%4294967296:=rfl;have aG:IntKind.wrap .u32 (Int.fdiv (n.natAbs:Int) 4294967296)=(Int.fdiv (n.natAbs:Int) 4294967296)%4294967296:=rfl;have bR:Int.fdiv (n.natAbs:Int) 4294967296=(n.natAbs:Int)/4294967296:=apk _ (by decide);rw[aA,aG,bR];refine⟨⟨.mk ⟨by omega,by omega⟩ (.mk ⟨by omega,by omega⟩ .nil),by simp⟩, ?_⟩;rintro _ rfl
  have a_:val [(n.natAbs:Int)%4294967296,(n.natAbs:Int)/4294967296%4294967296]=n.natAbs:=by
   simp only[val];omega
  rw[a_];exact ae
theorem aeu (n:Int):bd (decide (n<0)) (aO n.natAbs) [1]=(n:Rat):=by
 unfold bd;rw[dV,val_one,sC,Rat.mkRat_one]
theorem adx {n:Int}(h:i64 n):bw (aO n.natAbs):=by
 unfold i64 at h;exact⟨gx _,aoV ((hZ (k:=2)).2 (by omega)) (by decide)⟩
theorem ady (n:Int)(K:R->Prop)(h:s0.T [.d (.int .i64 n)] K):PR n K:=by
 obtain⟨aB,ae⟩:=h;unfold PR;refine⟨aB, ?_⟩;rintro _ rfl _ rfl;refine⟨⟨adx aB,H4,by decide⟩, ?_⟩;rw[aeu];rintro _ rfl _ rfl _ rfl;refine⟨trivial, ?_⟩;rintro _ rfl _ rfl _ rfl;exact ae
theorem aaJ (n d:Int)(aY:d≠0):mkRat (dx (decide (n<0) !=decide (d<0)) n.natAbs) d.natAbs=Rat.divInt n d:=by
 rw[<-Rat.divInt_ofNat];rw[Rat.divInt_eq_divInt_iff (by omega) aY];unfold dx
 by_cases aa:n<0<;>by_cases ad:d<0
 ·rw[show((n.natAbs:Nat):Int)=-n by omega,show((d.natAbs:Nat):Int)=-d by omega];simp[aa,ad,Int.neg_mul,Int.mul_neg]
 ·rw[show((n.natAbs:Nat):Int)=-n by omega,show((d.natAbs:Nat):Int)=d by omega];simp[aa,ad]
 ·rw[show((n.natAbs:Nat):Int)=n by omega,show((d.natAbs:Nat):Int)=-d by omega];simp[aa,ad,Int.neg_mul,Int.mul_neg]
 ·rw[show((n.natAbs:Nat):Int)=n by omega,show((d.natAbs:Nat):Int)=d by omega];simp[aa,ad]
theorem RQ {k:Nat}{x y:Nat}(ak:x<4294967296^k)(bn:y<4294967296^k):x+y<4294967296^(k+1):=by
 rw[ao2];generalize (4294967296:Nat)^k=W at*;omega
theorem adz {a b:Nat}:decide (cmp a b<0)=decide (a<b):=by
 unfold cmp
 by_cases h:a<b
 ·simp[h]
 ·by_cases ad:a=b
  ·simp[ad]
  ·simp[h,ad]
theorem X7 (s:Bool)(a:List Int)(t:Bool)(b d:List Int)(K:R->Prop)(h:Cd.T [.d (.bool s), .d (.af .u32 a), .d (.bool t), .d (.af .u32 b), .d (.af .u32 d)] K):M5 s a t b d K:=by
 obtain⟨⟨aS,ah,aY,qp⟩,ae⟩:=h;unfold M5;have pd:bw a:=aS.cx;have AG:bw b:=ah.cx;refine⟨fun h=>⟨⟨pd,AG⟩, ?_⟩,fun h=>⟨fun v0 v1 v3=>v0=(if val a<val b then t else s)/\v1=(if val a<val b then b else a)/\v3=(if val a<val b then a else b),⟨⟨pd,AG⟩, ?_⟩, ?_⟩⟩
 ·obtain rfl:s=t:=by simpa using h
  rintro _ rfl;refine⟨⟨(um (RQ aS.val ah.val)).cx,aY,qp⟩, ?_⟩;rw[RK]at ae;unfold bd;rw[dV];rintro _ rfl _ rfl _ rfl;exact ae
 ·rintro _ rfl;rw[adz];refine⟨fun h=>⟨rfl, ?_⟩,fun h=>⟨rfl, ?_⟩⟩
  ·have h:=aoN h;simp[aoB h]
  ·have h:=aoP h;simp[aoA h]
 ·have cR:s≠t:=by intro e;subst e;simp at h
  rintro _ _ _ ⟨rfl,rfl,rfl⟩
  by_cases bG:val a<val b
  ·simp only[aoB bG];refine⟨⟨AG,pd⟩, ?_⟩;rw[aoA (by omega),aoA (by omega)];rintro _ rfl _ rfl;refine⟨⟨Hk AG (Nat.sub_le _ _),aY,qp⟩, ?_⟩;rw[Int.add_comm,B1 (apq cR) (aqh bG)]at ae;unfold bd;rw[dV];rintro _ rfl _ rfl _ rfl;exact ae
  ·simp only[aoA bG];refine⟨⟨pd,AG⟩, ?_⟩;rintro _ rfl _ rfl;refine⟨⟨Hk pd (Nat.sub_le _ _),aY,qp⟩, ?_⟩;rw[B1 cR (by omega)]at ae;unfold bd;rw[dV];rintro _ rfl _ rfl _ rfl;exact ae
theorem oe {k:Nat}{s:Bool}{a b:List Int}(aS:bS k a)(ah:bS k b)(ae:1<=k:=by decide):dd k (bd s a b):= .of aS ah ae
theorem HI (r q:Rat):mkRat (dx (cj r) (val (cm r)*val (cc q))+dx (cj q) (val (cm q)*val (cc r))) (val (cc r)*val (cc q))=r+q:=by
 rw[q0,n1,q0,n1,Rat.add_def']
 have e:∀(x:Rat) (n:Nat),dx (cj x) (x.num.natAbs*n)=x.num*n:=fun x n=>by
  have h:=Ip (cj x) false x.num.natAbs n;have ad:dx (cj x) x.num.natAbs=x.num:=sC x.num;rw[ad]at h;have ax:dx false n=(n:Int):=rfl;rw[ax,Bool.bne_false]at h;exact h.symm
 rw[e,e]
theorem aaK {r q:Rat}(ao:r.den=1)(aZ:q.den=1):mkRat (dx (cj r) (val (cm r))+dx (cj q) (val (cm q))) (val (cc r))=r+q:=by
 have h:=HI r q;rw[n1,n1,ao,aZ]at h;rw[n1,ao];simpa using h
theorem ab8 (r q:Rat):bd (cj r !=cj q) (aO (val (cm r)*val (cm q))) (aO (val (cc r)*val (cc q)))=r*q:=by
 unfold bd;rw[dV,dV,<-Ip,q0,q0,n1,n1,Rat.mul_def'];have aa:dx (cj r) r.num.natAbs=r.num:=sC r.num;have ad:dx (cj q) q.num.natAbs=q.num:=sC q.num;rw[aa,ad]
theorem p1 {k j:Nat}{a b:List Int}(aS:bS k a)(ah:bS j b):bS (k+j) (aO (val a*val b)):=um (wj aS.val ah.val)
theorem adA (s:Bool)(a b:List Int)(t:Bool)(c d:List Int)(K:R->Prop)(h:xd.T [ei s a b,ei t c d] K):PS s a b t c d K:=by
 obtain⟨⟨aS,ah,aC,aY⟩,ae⟩:=h;unfold PS;have ao:=oe (s:=s) aS ah;have aZ:=oe (s:=t) aC aY;refine⟨⟨aS.cx,ah.cx⟩, ?_⟩;generalize bd s a b=r at*;rintro _ rfl _ rfl _ rfl;refine⟨⟨aC.cx,aY.cx⟩, ?_⟩;generalize bd t c d=q at*;rintro _ rfl _ rfl _ rfl;have fS:=p1 ao.num aZ.den;have gi:=p1 aZ.num ao.den;have iy:=p1 ao.den aZ.den
 have ja:(bw (cm r)/\bw (cc q))/\∀x,x=aO (val (cm r)*val (cc q))->(bw (cm q)/\bw (cc r))/\∀y,y=aO (val (cm q)*val (cc r))->(bw (cc r)/\bw (cc q))/\∀z,z=aO (val (cc r)*val (cc q))->
  (bS 50000000 x/\bS 50000000 y/\bw z/\¬val z=0)/\mkRat (dx (cj r) (val x)+dx (cj q) (val y)) (val z)=r+q:=by
  refine⟨⟨ao.num.cx,aZ.den.cx⟩, ?_⟩;rintro _ rfl;refine⟨⟨aZ.num.cx,ao.den.cx⟩, ?_⟩;rintro _ rfl;refine⟨⟨ao.den.cx,aZ.den.cx⟩, ?_⟩;rintro _ rfl;refine⟨⟨fS.mono (by decide),gi.mono (by decide),iy.cx, ?_⟩, ?_⟩
  ·rw[dV];exact aq0 (sD r) (sD q)
  ·rw[dV,dV,dV];exact HI r q
 refine⟨trivial, ?_⟩;rintro _ rfl;refine⟨fun aa=>⟨trivial, ?_⟩,fun aa=> ?_⟩
 ·have aa:=aoN aa;rintro _ rfl;refine⟨fun ad=> ?_,fun ad=> ?_⟩
  ·have ad:=aoN ad;refine⟨⟨ao.num.mono (by decide),aZ.num.mono (by decide),ao.den.cx,sD r⟩, ?_⟩;rw[aaK ((HH r).1 aa) ((HH q).1 ad)];rintro _ rfl _ rfl _ rfl;refine⟨trivial, ?_⟩;rintro _ rfl _ rfl _ rfl;exact ae
  ·obtain⟨jo,cW⟩:=ja;refine⟨jo,fun x ak=> ?_⟩;obtain⟨ky,c9⟩:=cW x ak;refine⟨ky,fun y bn=> ?_⟩;obtain⟨tK,iM⟩:=c9 y bn;refine⟨tK,fun z bm=> ?_⟩;obtain⟨x_,vF⟩:=iM z bm;refine⟨x_, ?_⟩;rw[vF];rintro _ rfl _ rfl _ rfl;refine⟨trivial, ?_⟩;rintro _ rfl _ rfl _ rfl;exact ae
 ·obtain⟨jo,cW⟩:=ja;refine⟨jo,fun x ak=> ?_⟩;obtain⟨ky,c9⟩:=cW x ak;refine⟨ky,fun y bn=> ?_⟩;obtain⟨tK,iM⟩:=c9 y bn;refine⟨tK,fun z bm=> ?_⟩;obtain⟨x_,vF⟩:=iM z bm;refine⟨x_, ?_⟩;rw[vF];rintro _ rfl _ rfl _ rfl;refine⟨trivial, ?_⟩;rintro _ rfl _ rfl _ rfl;exact ae
theorem neg_num (r:Rat):cm (-r)=cm r:=by unfold cm;rw[Rat.neg_num,Int.natAbs_neg]
theorem neg_den (r:Rat):cc (-r)=cc r:=rfl
theorem ab9 (r:Rat):cj (-r)=(!cj r&&decide (0<((cm r).length:Int))):=by
 have h:0<((cm r).length:Int)↔r≠0:=by
  rw[Ne,<-PO r];constructor
  ·intro h e;rw[e]at h;simp at h
  ·intro h;have:(cm r).length≠0:=fun e=>h (apl.1 e);omega
 unfold cj;rw[Rat.neg_num];have bc:r=0↔r.num=0:=Rat.num_eq_zero.symm
 by_cases aa:r.num<0
 ·simp[aa];omega
 ·by_cases ad:r.num=0
  ·have:¬0<((cm r).length:Int):=fun ca=>(h.1 ca) (bc.2 ad);rw[apS this];simp[ad]
  ·have:0<((cm r).length:Int):=h.2 fun e=>ad (bc.1 e);rw[aqi this];simp[aa];omega
theorem adB (s:Bool)(a b:List Int)(K:R->Prop)(h:DZ.T [ei s a b] K):PT s a b K:=by
 obtain⟨⟨aS,ah⟩,ae⟩:=h;unfold PT;refine⟨⟨aS.cx,ah.cx⟩, ?_⟩;rw[neg_num,neg_den,ab9]at ae;generalize bd s a b=r at*;rintro _ rfl _ rfl _ rfl;refine⟨fun h=>⟨trivial, ?_⟩,fun h=>⟨trivial, ?_⟩⟩
 ·rintro _ rfl _ rfl _ rfl;rw[h,aqt]at ae;exact ae
 ·rintro _ rfl _ rfl _ rfl;rw[h,Bool.false_and]at ae;exact ae
theorem adC (s:Bool)(a b:List Int)(t:Bool)(c d:List Int)(K:R->Prop)(h:D0.T [ei s a b,ei t c d] K):PU s a b t c d K:=by
 obtain⟨⟨aS,ah,aC,aY⟩,ae⟩:=h;unfold PU;refine⟨⟨aC,aY⟩, ?_⟩;have aZ:=(oe (s:=t) aC aY).neg;rw[Rat.sub_eq_add_neg]at ae;generalize bd t c d=q at*;rintro _ rfl _ rfl _ rfl;refine⟨⟨aS,ah,aZ.num,aZ.den⟩, ?_⟩;rw[mc];rintro _ rfl _ rfl _ rfl;exact ae
theorem adD (s:Bool)(a b:List Int)(t:Bool)(c d:List Int)(K:R->Prop)(h:D1.T [ei s a b,ei t c d] K):PV s a b t c d K:=by
 obtain⟨⟨aS,ah,aC,aY⟩,ae⟩:=h;unfold PV;have ao:=oe (s:=s) aS ah;have aZ:=oe (s:=t) aC aY;refine⟨⟨aS.cx,ah.cx⟩, ?_⟩;generalize bd s a b=r at*;rintro _ rfl _ rfl _ rfl;refine⟨⟨aC.cx,aY.cx⟩, ?_⟩;generalize bd t c d=q at*;rintro _ rfl _ rfl _ rfl;refine⟨⟨ao.num.cx,aZ.num.cx⟩, ?_⟩;rintro _ rfl;refine⟨⟨ao.den.cx,aZ.den.cx⟩, ?_⟩;rintro _ rfl;refine⟨⟨(p1 ao.num aZ.num).cx,(p1 ao.den aZ.den).cx,by rw[dV];exact aq0 (sD r) (sD q)⟩, ?_⟩;rw[show(!cj r==cj q)=(cj r !=cj q)from rfl,ab8];rintro _ rfl _ rfl _ rfl;refine⟨trivial, ?_⟩;rintro _ rfl _ rfl _ rfl;exact ae
theorem Iq (r:Rat):pA r=decide ((((cm r).length:Nat):Int)=0):=by
 unfold pA
 have h:r=0↔(((cm r).length:Nat):Int)=0:=by
  rw[<-PO r];constructor
  ·intro h;rw[h];rfl
  ·intro h;exact apl.1 (by omega)
 exact aqv.2 h
theorem ab_ {r q:Rat}(h:q≠0):bd (cj r !=cj q) (aO (val (cm r)*val (cc q))) (aO (val (cc r)*val (cm q)))=r/q:=by
 unfold bd;rw[dV,dV,q0,q0,n1,n1];have aZ:q.num≠0:=fun e=>h (Rat.num_eq_zero.1 e);have aB:q.num.natAbs≠0:=by omega
 have key:mkRat (dx (cj r !=cj q) (r.num.natAbs*q.den)) (r.den*q.num.natAbs)*q=r:=by
  rw[<-Ip];have aa:dx (cj r) r.num.natAbs=r.num:=sC r.num;rw[aa]
  conv=>lhs;rhs;rw[<-Rat.mkRat_self q]
  rw[Rat.mkRat_mul_mkRat]
  conv=>rhs;rw[<-Rat.mkRat_self r]
  rw[Rat.mkRat_eq_iff (aq0 (aq0 r.den_nz aB) q.den_nz) r.den_nz]
  have ad:dx (cj q) q.den*q.num=(q.den:Int)*q.num.natAbs:=by
   have e:=sC q.num;unfold cj
   by_cases ay:q.num<0
   ·simp only[ay,decide_true]at e⊢;unfold dx at e⊢;simp only[apc]at e⊢;rw[show((q.num.natAbs:Nat):Int)=-q.num by omega,Int.neg_mul,Int.mul_neg]
   ·simp only[ay,decide_false]at e⊢;unfold dx at e⊢;simp only[apU,if_false]at e⊢;rw[e]
  rw[Int.mul_assoc r.num,ad,apK,apK]
  ac_rfl
 rw[Rat.div_def]
 conv=>rhs;rw[<-key]
 rw[aql,Rat.mul_inv_cancel q h,Rat.mul_one]
theorem adE (s:Bool)(a b:List Int)(t:Bool)(c d:List Int)(K:R->Prop)(h:D2.T [ei s a b,ei t c d] K):PW s a b t c d K:=by
 obtain⟨⟨aS,ah,aC,aY⟩,ae⟩:=h;unfold PW;have ao:=oe (s:=s) aS ah;have aZ:=oe (s:=t) aC aY;refine⟨⟨aS.cx,ah.cx⟩, ?_⟩;generalize bd s a b=r at*;rintro _ rfl _ rfl _ rfl;refine⟨⟨aC.cx,aY.cx⟩, ?_⟩;generalize bd t c d=q at*;rintro _ rfl _ rfl _ rfl;rw[<-Iq];refine⟨fun h=> ?_,fun h=>⟨⟨ao.num.cx,aZ.den.cx⟩, ?_⟩⟩
 ·unfold m3 m4 m5 at ae;rw[h]at ae;exact ae
 ·have vm:q≠0:=aoP h;rintro _ rfl;refine⟨⟨ao.den.cx,aZ.num.cx⟩, ?_⟩;rintro _ rfl;refine⟨⟨(p1 ao.num aZ.den).cx,(p1 ao.den aZ.num).cx, ?_⟩, ?_⟩
  ·rw[dV];refine aq0 (sD r) ?_;rw[q0];exact fun e=>vm (Rat.num_eq_zero.1 (by omega))
  rw[show(!cj r==cj q)=(cj r !=cj q)from rfl,ab_ vm];rintro _ rfl _ rfl _ rfl;refine⟨trivial, ?_⟩;rintro _ rfl _ rfl _ rfl;unfold m3 m4 m5 at ae;rw[h]at ae;exact ae
theorem aca (s:Bool)(a b:List Int)(K:R->Prop)(h:w3.T [ei s a b] K):OU s a b K:=by
 obtain⟨⟨aS,ah⟩,ae⟩:=h;unfold OU;refine⟨⟨aS,ah⟩, ?_⟩;generalize bd s a b=r at*;rintro _ rfl _ rfl _ rfl;rw[<-Iq];unfold lS at ae;refine⟨fun h=> ?_,fun h=>⟨fun aa=> ?_,fun aa=> ?_⟩⟩
 ·rw[aoB (aoN h)]at ae;exact ae
 ·rw[aoA (aoP h),aoB ((Co r).1 aa)]at ae;exact ae
 ·rw[aoA (aoP h),aoA (fun e=>by rw[(Co r).2 e]at aa;cases aa)]at ae;exact ae
theorem adF (s:Bool)(a b:List Int)(t:Bool)(c d:List Int)(K:R->Prop)(h:D3.T [ei s a b,ei t c d] K):PX s a b t c d K:=by
 obtain⟨⟨aS,ah,aC,aY⟩,ae⟩:=h;unfold PX;refine⟨⟨aS,ah,aC,aY⟩, ?_⟩;have ay:=(oe (s:=s) aS ah).sub (oe (s:=t) aC aY);generalize bd s a b-bd t c d=r at*;rintro _ rfl _ rfl _ rfl;refine⟨⟨ay.num.cx,ay.den.cx⟩, ?_⟩;rw[mc];rintro _ rfl;exact ae
theorem aaL (s:Bool)(a b:List Int)(t:Bool)(c d:List Int)(K:R->Prop)(h:wV.T [ei s a b,ei t c d] K):N7 s a b t c d K:=by
 obtain⟨aD,ae⟩:=h;unfold N7;refine⟨aD, ?_⟩;rintro _ rfl;have e:decide (lS (bd s a b-bd t c d)=0)=decide (bd s a b=bd t c d):=aqv.2 (by rw[wI];grind);rw[e];exact ae
theorem PY {k:Nat}{a:List Int}(h:bS k a):(dec (val a)).length<=10*k+1:=by
 have:=QG h.1;have ad:=h.2;unfold dec;split
 ·simp
 ·rw[List.length_reverse];omega
theorem acb {r:Rat}{k:Nat}(h:dd k r):(dec r.num.natAbs).length<=10*k+1/\(dec r.den).length<=10*k+1:=by
 have aa:=PY h.num;have ad:=PY h.den;rw[q0]at aa;rw[n1]at ad;exact⟨aa,ad⟩
theorem Za (s:Bool)(a b:List Int)(K:R->Prop)(h:Ce.T [ei s a b] K):Nt s a b K:=by
 obtain⟨⟨aS,ah⟩,ae⟩:=h;unfold Nt;have ao:=oe (s:=s) aS ah;refine⟨⟨aS.cx,ah.cx⟩, ?_⟩;generalize bd s a b=r at*;obtain⟨dj,df⟩:=acb ao;rintro _ rfl _ rfl _ rfl;refine⟨ao.num.cx, ?_⟩;rintro _ rfl;rw[q0,n1];refine⟨fun v=>v=(if cj r then[45]else[])++dec r.num.natAbs,⟨fun h=>⟨by omega,rfl,rfl,by rw[h];rfl⟩,fun h=>⟨rfl,rfl,by rw[h];rfl⟩⟩, ?_⟩;rintro _ rfl;refine⟨trivial, ?_⟩;rintro _ rfl;have aY:decide (cc r=[1])=decide (r.den=1):=aqv.2 (HH r);rw[aY];unfold SK at ae;refine⟨fun h=>⟨ao.den.cx, ?_⟩,fun h=> ?_⟩
 ·have h:r.den≠1:=by simpa using h
  rintro _ rfl;rw[aoA h]at ae;refine⟨by omega, ?_,ae⟩;simp only[ao1,apj,List.length_nil];have:(if cj r then[45]else[]:List Int).length<=1:=by split<;>simp
  omega
 ·have h:r.den=1:=by simpa using h
  rw[aoB h,aqc]at ae;exact ae
end ab
end
section
open Go Go.aj
namespace ab
def Nu:Bool->List Int->List Int->(R->Prop)->Prop:=
 fun s a b K=>(bL a/\a.length<=(90000000:Nat)/\bL b/\b.length<=(90000000:Nat))/\∀x,x=aO ((val a).gcd (val b))->(bL a/\a.length<=(90000000:Nat)/\bL x/\x.length<=(90000000:Nat))/\∀aX,(aX=if val x=(0:Nat)then[]else aO (val a/val x))->∀aU,(aU=if val x=(0:Nat)then[]else aO (val a%val x))->∀bo,(bo=if val x=(0:Nat)then(3:Int)else(0:Int))->(bL b/\b.length<=(90000000:Nat)/\bL x/\x.length<=(90000000:Nat))/\∀ck,(ck=if val x=(0:Nat)then[]else aO (val b/val x))->∀de,(de=if val x=(0:Nat)then[]else aO (val b%val x))->∀di,(di=if val x=(0:Nat)then(3:Int)else(0:Int))->(s=true->K (R.agg [R.d (U.bool (decide ((0:Int)<↑aX.length))),R.d (U.af .u32 aX),R.d (U.af .u32 ck)]))/\(s=false->K (R.agg [R.d (U.bool false),R.d (U.af .u32 aX),R.d (U.af .u32 ck)]))
def OV:Bool->List Int->List Int->(R->Prop)->Prop:=
 fun s a b K=>bw b/\∀x,x=aO (val b)->(decide (↑x.length=(0:Int))=true->K (R.agg [R.d (U.bool false),R.d (U.af .u32 []),R.d (U.af .u32 [1])]))/\(decide (↑x.length=(0:Int))=false->(bS 90000000 a/\bS 90000000 b/\¬val b=0)/\∀x,x=cj (bd s a b)->∀aX,aX=cm (bd s a b)->∀aU,aU=cc (bd s a b)->K (R.agg [R.d (U.bool x),R.d (U.af .u32 aX),R.d (U.af .u32 aU)]))
def PZ:Int->(R->Prop)->Prop:=
 fun n K=>(decide ((0:Int)<=n)=true->((-9223372036854775808:Int)<=n/\n<(9223372036854775808:Int))/\∀x,(x=if n<(0:Int)then[]else aO n.toNat)->∀aX,(aX=if n<(0:Int)then(1:Int)else(0:Int))->K (R.agg [R.d (U.bool false),R.d (U.af .u32 x),R.d (U.af .u32 [(1:Int)])]))/\(decide ((0:Int)<=n)=false->((-9223372036854775808:Int)<=ai ((0:Int)-ai (n+(1:Int)))/\ai ((0:Int)-ai (n+(1:Int)))<(9223372036854775808:Int))/\∀x,(x=if ai ((0:Int)-ai (n+(1:Int)))<(0:Int)then[]else aO (ai ((0:Int)-ai (n+(1:Int)))).toNat)->∀aX,(aX=if ai ((0:Int)-ai (n+(1:Int)))<(0:Int)then(1:Int)else(0:Int))->(bL x/\bL [(1:Int)]/\x.length<=(90000000:Nat)/\(1:Nat)<=(90000000:Nat))/\∀aU,aU=aO (val x+(1:Nat))->K (R.agg [R.d (U.bool true),R.d (U.af .u32 aU),R.d (U.af .u32 [(1:Int)])]))
def P0:Int->Int->(R->Prop)->Prop:=
 fun n d K=>(decide (d=0)=true->K (R.tup [R.agg [R.d (U.bool false),R.d (U.af .u32 []),R.d (U.af .u32 [])],R.d (U.int .i64 3)]))/\(decide (d=0)=false->i64 n/\∀x,x=cj (IntCast.intCast n)->∀aX,aX=cm (IntCast.intCast n)->∀aU,aU=cc (IntCast.intCast n)->i64 d/\∀bo,bo=cj (IntCast.intCast d)->∀ck,ck=cm (IntCast.intCast d)->∀de,de=cc (IntCast.intCast d)->(bS 90000000 aX/\bS 90000000 ck/\¬val ck=0)/\∀di,di=cj (bd (!x==bo) aX ck)->∀dp,dp=cm (bd (!x==bo) aX ck)->∀dK,dK=cc (bd (!x==bo) aX ck)->K (R.tup [R.agg [R.d (U.bool di),R.d (U.af .u32 dp),R.d (U.af .u32 dK)],R.d (U.int .i64 0)]))
def P1:Bool->List Int->List Int->Bool->List Int->List Int->(R->Prop)->Prop:=
 fun s a b t c d K=>(bS (90000000:Nat) a/\bS (90000000:Nat) b)/\∀x,x=cj (bd s a b)->∀aX,aX=cm (bd s a b)->∀aU,aU=cc (bd s a b)->(bS (90000000:Nat) c/\bS (90000000:Nat) d)/\∀bo,bo=cj (bd t c d)->∀ck,ck=cm (bd t c d)->∀de,de=cc (bd t c d)->(bL aX/\bL de/\aX.length<=(40000000:Nat)/\de.length<=(40000000:Nat))/\∀di,di=aO (val aX*val de)->(bL ck/\bL aU/\ck.length<=(40000000:Nat)/\aU.length<=(40000000:Nat))/\∀dp,dp=aO (val ck*val aU)->(bL aU/\bL de/\aU.length<=(40000000:Nat)/\de.length<=(40000000:Nat))/\∀dK,dK=aO (val aU*val de)->((x==bo)=true->(bL di/\bL dp/\di.length<=(90000000:Nat)/\dp.length<=(90000000:Nat))/\∀cX,cX=aO (val di+val dp)->(bS (90000000:Nat) cX/\bS (90000000:Nat) dK/\¬val dK=(0:Nat))/\∀e6,e6=cj (bd x cX dK)->∀fB,fB=cm (bd x cX dK)->∀gb,gb=cc (bd x cX dK)->K (R.agg [R.d (U.bool e6),R.d (U.af .u32 fB),R.d (U.af .u32 gb)]))/\((x==bo)=false->(bw di/\bw dp)/\∀cX,(cX=if val di<val dp then[]else aO (val di-val dp))->∀e6,(e6=if val di<val dp then(1:Int)else(0:Int))->(decide (e6=(0:Int))=true->(bS (90000000:Nat) cX/\bS (90000000:Nat) dK/\¬val dK=(0:Nat))/\∀fB,fB=cj (bd x cX dK)->∀gb,gb=cm (bd x cX dK)->∀iw,iw=cc (bd x cX dK)->K (R.agg [R.d (U.bool fB),R.d (U.af .u32 gb),R.d (U.af .u32 iw)]))/\(decide (e6=(0:Int))=false->(bw dp/\bw di)/\∀x,(x=if val dp<val di then[]else aO (val dp-val di))->∀fB,(fB=if val dp<val di then(1:Int)else(0:Int))->(bS (90000000:Nat) x/\bS (90000000:Nat) dK/\¬val dK=(0:Nat))/\∀gb,gb=cj (bd bo x dK)->∀iw,iw=cm (bd bo x dK)->∀jl,jl=cc (bd bo x dK)->K (R.agg [R.d (U.bool gb),R.d (U.af .u32 iw),R.d (U.af .u32 jl)])))
def OW:Bool->List Int->List Int->(R->Prop)->Prop:=
 fun s a b K=>(bS 90000000 a/\bS 90000000 b)/\∀x,x=cj (bd s a b)->∀aX,aX=cm (bd s a b)->∀aU,aU=cc (bd s a b)->(decide (↑aX.length=(0:Int))=true->K (R.d (U.int .i64 0)))/\(decide (↑aX.length=(0:Int))=false->(x=true->K (R.d (U.int .i64 (-1))))/\(x=false->K (R.d (U.int .i64 1))))
def OX:Bool->List Int->List Int->Bool->List Int->List Int->(R->Prop)->Prop:=
 fun s a b t c d K=>((s==t)=true->(a.length<=1000000000/\c.length<=1000000000)/\∀x,x=decide (a=c)->(x=true->(b.length<=1000000000/\d.length<=1000000000)/\∀x,x=decide (b=d)->K (R.d (U.bool x)))/\(x=false->K (R.d (U.bool false))))/\((s==t)=false->K (R.d (U.bool false)))
end ab
end
section
open Go Go.aj
namespace ab
theorem Xy (n:Nat):decide (0<((aO n).length:Int))=decide (n≠0):=by
 refine aqv.2 ?_;rw[Ne,<-qU];constructor
 ·intro h e;rw[e]at h;simp at h
 ·intro h;have:(aO n).length≠0:=fun e=>h (apl.1 e);omega
theorem Zb {a b:Nat}(ah:b≠0):decide (a/Nat.gcd a b≠0)=decide (a≠0):=by
 refine aqv.2 ?_;have bg:0<Nat.gcd a b:=Nat.gcd_pos_of_pos_right _ (by omega);constructor
 ·rintro h rfl;simp at h
 ·intro h e;have:=Nat.div_mul_cancel (Nat.gcd_dvd_left a b);rw[e]at this;omega
theorem acd {k n:Nat}{b:List Int}(ah:bS k b)(h:n<=val b):bS k (aO n):=um (apN h ah.val)
theorem Zc (s:Bool)(a b:List Int)(K:R->Prop)(h:CU.T [.d (.bool s), .d (.af .u32 a), .d (.af .u32 b)] K):Nu s a b K:=by
 obtain⟨⟨aS,ah,oz⟩,ae⟩:=h;unfold Nu;refine⟨⟨aS.1,aS.2,ah.1,ah.2⟩, ?_⟩;have bg:Nat.gcd (val a) (val b)≠0:=fun e=>oz (Nat.gcd_eq_zero_iff.1 e).2;rintro _ rfl;have r9:bS 90000000 (aO (Nat.gcd (val a) (val b))):=acd ah (gcd_le_right oz);refine⟨⟨aS.1,aS.2,r9.1,r9.2⟩, ?_⟩;simp only[dV,aoA bg];rintro _ rfl _ rfl _ rfl;refine⟨⟨ah.1,ah.2,r9.1,r9.2⟩, ?_⟩;rintro _ rfl _ rfl _ rfl;rw[RN oz,RO oz,RP oz]at ae;refine⟨fun h=> ?_,fun h=> ?_⟩
 ·rw[Xy,Zb oz];rw[h,aqt]at ae;exact ae
 ·rw[h,Bool.false_and]at ae;exact ae
theorem ace (s:Bool)(a b:List Int)(K:R->Prop)(h:Cf.T [ei s a b] K):OV s a b K:=by
 obtain⟨⟨aS,ah⟩,ae⟩:=h;unfold OV;refine⟨ah.cx, ?_⟩;rintro _ rfl;refine⟨fun h=> ?_,fun h=>⟨⟨aS,ah,fun e=> ?_⟩, ?_⟩⟩
 ·have bc:=qU.1 (EW.1 h);rw[QZ bc,Sl,Sm,Sn]at ae;exact ae
 ·rw[EW.2 (qU.2 e)]at h;cases h
 ·rintro _ rfl _ rfl _ rfl;exact ae
theorem Hl (n:Int):cj (n:Rat)=decide (n<0)/\cm (n:Rat)=aO n.natAbs/\cc (n:Rat)=[1]:=by
 refine⟨rfl,rfl, ?_⟩;exact pL
theorem adG (n:Int)(K:R->Prop)(h:s0.T [.d (.int .i64 n)] K):PZ n K:=by
 obtain⟨aB,ae⟩:=h;obtain⟨aA,aG,bR⟩:=Hl n;rw[aA,aG,bR]at ae;unfold PZ ai;unfold i64 at aB;refine⟨fun h=>⟨aB, ?_⟩,fun h=> ?_⟩
 ·have h:=aoN h;rw[aoA (by omega),aoA (by omega),show n.toNat=n.natAbs by omega];rintro _ rfl _ rfl;rw[apS (by omega)]at ae;exact ae
 ·have h:=aoP h;have w1:IntKind.wrap .i64 (n+1)=n+1:=bP (by omega);rw[w1];have dq:IntKind.wrap .i64 (0-(n+1))=0-(n+1):=bP (by omega);rw[dq,aoA (by omega),aoA (by omega)];refine⟨by omega, ?_⟩;rintro _ rfl _ rfl;have ay:bS 2 (aO (0-(n+1)).toNat):=um (by omega);refine⟨⟨ay.1,H4.1,aoV ay.2 (by decide),by decide⟩, ?_⟩;rw[dV,show(0-(n+1)).toNat+1=n.natAbs by omega];rintro _ rfl;rw[aqi (by omega)]at ae;exact ae
theorem RR {n:Int}(h:i64 n):bS 2 (aO n.natAbs):=by
 unfold i64 at h;exact um (by omega)
theorem adH (n d:Int)(K:R->Prop)(h:DY.T [.d (.int .i64 n), .d (.int .i64 d)] K):P0 n d K:=by
 obtain⟨⟨aB,aY⟩,ae⟩:=h;unfold P0;unfold m3 m4 m5 at ae;refine⟨fun h=> ?_,fun h=>⟨aB, ?_⟩⟩
 ·obtain rfl:=aoN h;exact ae
 ·have bc:=aoP h;obtain⟨a1,a2,a3⟩:=Hl n;obtain⟨cW,c9,iM⟩:=Hl d
  have e:bd (decide (n<0) !=decide (d<0)) (aO n.natAbs) (aO d.natAbs)=Rat.divInt n d:=by
   unfold bd;rw[dV,dV,aaJ n d bc]
  rintro _ rfl _ rfl _ rfl;refine⟨aY, ?_⟩;rintro _ rfl _ rfl _ rfl;have s1:=RR aB;have s2:=RR aY;have bm:val (aO d.natAbs)≠0:=by rw[dV];omega
  have goal:∀(x:Bool),x=cj (Rat.divInt n d)->∀y,y=cm (Rat.divInt n d)->∀z,z=cc (Rat.divInt n d)->K (.tup [.agg [.d (.bool x), .d (.af .u32 y), .d (.af .u32 z)], .d (.int .i64 0)]):=by
   rintro _ rfl _ rfl _ rfl;rw[h,aoA bc]at ae;exact ae
  rw[<-e]at goal;exact⟨⟨s1.mono (by decide),s2.mono (by decide),bm⟩,goal⟩
theorem adI (s:Bool)(a b:List Int)(t:Bool)(c d:List Int)(K:R->Prop)(h:xd.T [ei s a b,ei t c d] K):P1 s a b t c d K:=by
 obtain⟨⟨aS,ah,aC,aY⟩,ae⟩:=h;unfold P1;have ao:=oe (s:=s) aS ah;have aZ:=oe (s:=t) aC aY;refine⟨⟨aS.mono (by decide),ah.mono (by decide)⟩, ?_⟩;generalize bd s a b=r at*;rintro _ rfl _ rfl _ rfl;refine⟨⟨aC.mono (by decide),aY.mono (by decide)⟩, ?_⟩;generalize bd t c d=q at*;rintro _ rfl _ rfl _ rfl;have fS:=p1 ao.num aZ.den;have gi:=p1 aZ.num ao.den;have iy:=p1 ao.den aZ.den
 have J3:∀{x y:List Int},bS 1000000 x->bS 1000000 y->bL x/\bL y/\x.length<=40000000/\y.length<=40000000:=fun ak bn=>⟨ak.1,bn.1,aoV ak.2 (by decide),aoV bn.2 (by decide)⟩
 have gf:=HI r q
 have d0:¬val (aO (val (cc r)*val (cc q)))=0:=by
  rw[dV];exact aq0 (sD r) (sD q)
 refine⟨J3 ao.num aZ.den, ?_⟩;rintro _ rfl;refine⟨J3 aZ.num ao.den, ?_⟩;rintro _ rfl;refine⟨J3 ao.den aZ.den, ?_⟩;rintro _ rfl;have J4:=fS.val;have J5:=gi.val;rw[dV]at J4 J5
 have kk:∀(g:Bool) (x:List Int),bd g x (aO (val (cc r)*val (cc q)))=r+q->bS 90000000 x->(bS 90000000 x/\bS 90000000 (aO (val (cc r)*val (cc q)))/\¬val (aO (val (cc r)*val (cc q)))=0)/\
  ∀y,y=cj (bd g x (aO (val (cc r)*val (cc q))))->∀z,z=cm (bd g x (aO (val (cc r)*val (cc q))))->∀w,w=cc (bd g x (aO (val (cc r)*val (cc q))))->K (ei y z w):=by
  intro g x e ak;refine⟨⟨ak,iy.mono (by decide),d0⟩, ?_⟩;rw[e];rintro _ rfl _ rfl _ rfl;exact ae
 have zI:∀{k x y:Nat},k<=90000000->x<4294967296^k->bS 90000000 (aO (x-y)):=fun ae ak=>(um (apN (Nat.sub_le _ _) ak)).mono ae
 refine⟨fun h=>⟨⟨fS.1,gi.1,aoV fS.2 (by decide),aoV gi.2 (by decide)⟩, ?_⟩,fun h=>⟨⟨fS.cx,gi.cx⟩, ?_⟩⟩
 ·have h:cj r=cj q:=by simpa using h
  rintro _ rfl;rw[dV (val (cm r)*_),dV (val (cm q)*_)];refine kk _ _ ?_ ((um (RQ J4 J5)).mono (by decide));rw[<-gf];unfold bd;rw[dV,dV,<-h,RK]
 ·have h:cj r≠cj q:=by simpa using h
  rw[dV (val (cm r)*_),dV (val (cm q)*_)];rintro _ rfl _ rfl;refine⟨fun ad=> ?_,fun ad=>⟨⟨gi.cx,fS.cx⟩, ?_⟩⟩
  ·have bG:¬val (cm r)*val (cc q)<val (cm q)*val (cc r):=by
    intro bG;rw[aoB bG]at ad;cases ad
   rw[aoA bG];refine kk _ _ ?_ (zI (by decide) J4);rw[<-gf];unfold bd;rw[dV,dV,B1 h (by omega)]
  ·have bG:val (cm r)*val (cc q)<val (cm q)*val (cc r):=by
    false_or_by_contra
    rename_i bG;rw[aoA bG]at ad;cases ad
   rw[aoA (by omega),aoA (by omega)];rintro _ rfl _ rfl;refine kk _ _ ?_ (zI (by decide) J5);rw[<-gf];unfold bd;rw[dV,dV,Int.add_comm (dx (cj r) _),B1 (apq h) (by omega)]
theorem acf (s:Bool)(a b:List Int)(K:R->Prop)(h:Dx.T [ei s a b] K):OW s a b K:=by
 obtain⟨⟨aS,ah⟩,ae⟩:=h;unfold OW;refine⟨⟨aS,ah⟩, ?_⟩;generalize bd s a b=r at*;rintro _ rfl _ rfl _ rfl;rw[<-Iq];unfold lS at ae;refine⟨fun h=> ?_,fun h=>⟨fun aa=> ?_,fun aa=> ?_⟩⟩
 ·rw[aoB (aoN h)]at ae;exact ae
 ·rw[aoA (aoP h),aoB ((Co r).1 aa)]at ae;exact ae
 ·rw[aoA (aoP h),aoA (fun e=>by rw[(Co r).2 e]at aa;cases aa)]at ae;exact ae
theorem acg (s:Bool)(a b:List Int)(t:Bool)(c d:List Int)(K:R->Prop)(h:Dw.T [ei s a b,ei t c d] K):OX s a b t c d K:=by
 obtain⟨⟨aS,ah,aC,aY⟩,ae⟩:=h;unfold OX;refine⟨fun h=>⟨⟨aS,aC⟩, ?_⟩,fun h=> ?_⟩
 ·obtain rfl:s=t:=by simpa using h
  rintro _ rfl;refine⟨fun ad=>⟨⟨ah,aY⟩, ?_⟩,fun ad=> ?_⟩
  ·rintro _ rfl;obtain rfl:=aoN ad;have e:decide (s=s/\a=a/\b=d)=decide (b=d):=aqv.2 (by simp);rw[e]at ae;exact ae
  ·have ad:=aoP ad;have e:decide (s=s/\a=c/\b=d)=false:=apS fun ca=>ad ca.2.1;rw[e]at ae;exact ae
 ·have h:s≠t:=by simpa using h
  have e:decide (s=t/\a=c/\b=d)=false:=apS fun ca=>h ca.1;rw[e]at ae;exact ae
end ab
end
section
open Go Go.aj
namespace ab
def LQ:List Int->Int->Int->Int->Int->(ag->R->Prop)->Prop:=
 fun l a s x y K=>(dI l a/\i64 (ai (ai (y-x)+1)))/\K (ag.cells [R.d (U.af .i64 l),R.d (U.int .i64 (c5 l a (ai (ai (y-x)+1)))),R.d (U.int .i64 s)]) (R.d (U.int .i64 (ai (x+fu l a (ai (ai (y-x)+1))))))
def L5:List Int->Int->Int->(ag->R->Prop)->Prop:=
 fun l a s K=>(dI l a/\(-1000000000:Int)<=(-6:Int)/\(-6:Int)<=(6:Int)/\(6:Int)<=(1000000000:Int))/\∀x,x=l->∀aX,aX=c5 l a (13:Int)->∀aU,aU=s->∀bo,bo=kJ l a (-6:Int) (6:Int)->(dI x aX/\(-1000000000:Int)<=(1:Int)/\(1:Int)<=(5:Int)/\(5:Int)<=(1000000000:Int))/\∀ck,ck=x->∀de,de=c5 x aX (5:Int)->∀di,di=aU->∀dp,dp=kJ x aX (1:Int) (5:Int)->(i64 bo/\i64 dp)/\∀x,x=m3 (!decide (dp=(0:Int))) (Rat.divInt bo dp)->∀dK,dK=m4 (!decide (dp=(0:Int))) (Rat.divInt bo dp)->∀cX,cX=m5 (!decide (dp=(0:Int))) (Rat.divInt bo dp)->∀e6,(e6=if dp=(0:Int)then(3:Int)else(0:Int))->K (ag.cells [R.d (U.af .i64 ck),R.d (U.int .i64 de),R.d (U.int .i64 di)]) (R.agg [R.d (U.bool x),R.d (U.af .u32 dK),R.d (U.af .u32 cX)])
def LR:List Int->Int->Int->(ag->R->Prop)->Prop:=
 fun l a s K=>(dI l a/\i64 (4:Int))/\∀x,x=l->∀aX,aX=c5 l a (4:Int)->∀aU,aU=s->∀bo,bo=fu l a (4:Int)->(decide (bo=(0:Int))=true->dI x aX/\∀ck,ck=x->∀de,de=kS x aX->∀di,di=aU->∀dp,dp=cj (iH x aX)->∀dK,dK=cm (iH x aX)->∀cX,cX=cc (iH x aX)->K (ag.cells [R.d (U.af .i64 ck),R.d (U.int .i64 de),R.d (U.int .i64 di)]) (R.agg [R.d (U.bool dp),R.d (U.af .u32 dK),R.d (U.af .u32 cX)]))/\(decide (bo=(0:Int))=false->(decide (bo=(1:Int))=true->(dI x aX/\i64 (2:Int))/\∀ck,ck=x->∀de,de=c5 x aX (2:Int)->∀di,di=aU->∀dp,dp=fu x aX (2:Int)->dI ck de/\∀x,x=ck->∀dK,dK=(lA ck de).snd->∀cX,cX=di->∀e6,e6=(lA ck de).fst->dI x dK/\∀fB,fB=x->∀gb,gb=(lA x dK).snd->∀iw,iw=cX->∀jl,jl=(lA x dK).fst->K (ag.cells [R.d (U.af .i64 fB),R.d (U.int .i64 gb),R.d (U.int .i64 iw)]) (R.agg [R.d (U.bool (decide (dp=(0:Int)))),R.d (U.af .u32 e6),R.d (U.af .u32 jl)]))/\(decide (bo=(1:Int))=false->(dI x aX/\(-1000000000:Int)<=(1:Int)/\(1:Int)<=(6:Int)/\(6:Int)<=(1000000000:Int))/\∀ck,ck=x->∀de,de=c5 x aX (6:Int)->∀di,di=aU->∀dp,dp=kJ x aX (1:Int) (6:Int)->(dI ck de/\i64 (2:Int))/\∀x,x=ck->∀dK,dK=c5 ck de (2:Int)->∀cX,cX=di->∀e6,e6=fu ck de (2:Int)->(dI x dK/\i64 (9:Int))/\∀fB,fB=x->∀gb,gb=c5 x dK (9:Int)->∀iw,iw=cX->∀jl,jl=fu x dK (9:Int)->(dI fB gb/\i64 (6:Int))/\∀x,x=fB->∀ny,ny=c5 fB gb (6:Int)->∀o6,o6=iw->∀rA,rA=fu fB gb (6:Int)->K (ag.cells [R.d (U.af .i64 x),R.d (U.int .i64 ny),R.d (U.int .i64 o6)]) (R.agg [R.d (U.bool (decide (e6=(0:Int)))),R.d (U.af .u32 [bY (bY dp*bY jl),(0:Int)]),R.d (U.af .u32 [bY (bY dp*bY rA)])])))
end ab
end
section
open Go Go.aj
namespace ab
def OY:List Int->(ag->Prop)->Prop:=
 fun l K=>(decide ((1000:Int)<↑l.length)=true->(0:Int)<=(1000:Int)/\(1000:Int)<=↑l.length/\K (ag.cells [R.d (U.af .i64 (List.take (1000:Nat) l)),R.d (U.int .i64 (0:Int)),R.d (U.int .i64 (0:Int))]))/\(decide ((1000:Int)<↑l.length)=false->K (ag.cells [R.d (U.af .i64 l),R.d (U.int .i64 (0:Int)),R.d (U.int .i64 (0:Int))]))
def L6:List Int->Int->Int->(ag->R->Prop)->Prop:=
 fun l a s K=>(decide (↑l.length<=a)=true->K (ag.cells [R.d (U.af .i64 l),R.d (U.int .i64 a),R.d (U.int .i64 s)]) (R.d (U.int .i64 0)))/\(decide (↑l.length<=a)=false->0<=ai (ai (a+1)-1)/\ai (ai (a+1)-1)<↑l.length/\K (ag.cells [R.d (U.af .i64 l),R.d (U.int .i64 (ai (a+1))),R.d (U.int .i64 s)]) (R.d (U.int .i64 (l.getD (ai (ai (a+1)-1)).toNat 0))))
def Mg:List Int->Int->Int->Int->(ag->R->Prop)->Prop:=
 fun l a s n K=>(decide (n<1)=true->K (ag.cells [R.d (U.af .i64 l),R.d (U.int .i64 a),R.d (U.int .i64 s)]) (R.d (U.int .i64 0)))/\(decide (n<1)=false->dI l a/\¬n=0/\(decide ((qb l a).tmod n<0)=true->K (ag.cells [R.d (U.af .i64 l),R.d (U.int .i64 (u0 l a)),R.d (U.int .i64 s)]) (R.d (U.int .i64 (ai ((qb l a).tmod n+n)))))/\(decide ((qb l a).tmod n<0)=false->K (ag.cells [R.d (U.af .i64 l),R.d (U.int .i64 (u0 l a)),R.d (U.int .i64 s)]) (R.d (U.int .i64 ((qb l a).tmod n)))))
def LZ:List Int->Int->Int->List Int->(ag->R->Prop)->Prop:=
 fun l a s m K=>(dI l a/\i64 ↑m.length)/\0<=fu l a ↑m.length/\fu l a ↑m.length<↑m.length/\K (ag.cells [R.d (U.af .i64 l),R.d (U.int .i64 (c5 l a ↑m.length)),R.d (U.int .i64 s)]) (R.d (U.int .i64 (m.getD (fu l a ↑m.length).toNat 0)))
def LS:List Int->Int->Int->(ag->R->Prop)->Prop:=
 fun l a s K=>(dI l a/\i64 5)/\∃(aQ:Int->List Int->Int->Int->List Int->Prop),∃(m:Int->List Int->Int->Int->List Int->Nat),aQ (fu l a 5) l (c5 l a 5) s []/\∀(v4:Int) (l:List Int) (a s:Int) (bu:List Int),aQ v4 l a s bu->(decide (0<v4)=true->(dI l a/\0<12/\12<=1000)/\((bu.length:Int)+↑[bY (mX l a [0,1,2,3,10,97,65536,2147483648,4294967295,4294967291,123456789,4000000007])].length)*4<=70368744177664/\aQ (ai (v4-1)) l (c5 l a 12) s (bu++[bY (mX l a [0,1,2,3,10,97,65536,2147483648,4294967295,4294967291,123456789,4000000007])])/\m (ai (v4-1)) l (c5 l a 12) s (bu++[bY (mX l a [0,1,2,3,10,97,65536,2147483648,4294967295,4294967291,123456789,4000000007])])<m v4 l a s bu)/\(decide (0<v4)=false->K (ag.cells [R.d (U.af .i64 l),R.d (U.int .i64 a),R.d (U.int .i64 s)]) (R.d (U.af .u32 bu)))
end ab
end
section
open Go Go.aj
theorem ab.aaM {args:List R}{K:ag->Prop}(a8:ab.Du.T args K):∃l,args=[.d (.af .i64 l)]:=by unfold ab.Du.T mW at a8;grind [Go.aj.cd]
theorem ab.aaN {a0:R}{b9:ag}{args:List R}{K:ag->R->Prop}(a8:ab.Dv.T a0 b9 args K):∃l a s,a0= .ptr 0 0/\b9= .cells [.d (.af .i64 l), .d (.int .i64 a), .d (.int .i64 s)]/\args=[]:=by unfold ab.Dv.T fq at a8;grind [Go.aj.cd]
theorem ab.adJ {a0:R}{b9:ag}{args:List R}{K:ag->R->Prop}(a8:ab.EF.T a0 b9 args K):∃l a s n,a0= .ptr 0 0/\b9= .cells [.d (.af .i64 l), .d (.int .i64 a), .d (.int .i64 s)]/\args=[.d (.int .i64 n)]:=by unfold ab.EF.T fq at a8;grind [Go.aj.cd]
theorem ab.Zd {a0:R}{b9:ag}{args:List R}{K:ag->R->Prop}(a8:ab.CR.T a0 b9 args K):∃l a s m,a0= .ptr 0 0/\b9= .cells [.d (.af .i64 l), .d (.int .i64 a), .d (.int .i64 s)]/\args=[.d (.af .i64 m)]:=by unfold ab.CR.T fq at a8;grind [Go.aj.cd]
theorem ab.X8 {a0:R}{b9:ag}{args:List R}{K:ag->R->Prop}(a8:ab.Cc.T a0 b9 args K):∃l a s,a0= .ptr 0 0/\b9= .cells [.d (.af .i64 l), .d (.int .i64 a), .d (.int .i64 s)]/\args=[]:=by unfold ab.Cc.T fq at a8;grind [Go.aj.cd]
end
section
open Go Go.aj
namespace ab
theorem dI.getD {l:List Int}{a:Int}(h:dI l a)(n:Nat):i64 (l.getD n 0):=by
 rw[aoC]
 cases e:l[n]? with
 |none=>simp[i64]
 |some x=>exact h.2.2 x (ap7 e)
theorem dI.raw {l:List Int}{a:Int}(h:dI l a):dI l (u0 l a)/\i64 (qb l a):=by
 refine⟨⟨?_,h.2⟩, ?_⟩
 ·have:=h.1;unfold u0;split<;>omega
 ·unfold qb;split
  ·simp[i64]
  ·exact h.getD _
theorem dI.num {l:List Int}{a:Int}(h:dI l a)(n:Int):dI l (c5 l a n)/\0<=fu l a n/\(1<=n->fu l a n<n)/\(n<1->fu l a n=0):=by
 unfold c5 fu;split
 ·exact⟨h,by omega,by omega,by omega⟩
 ·exact⟨h.raw.1,Int.emod_nonneg _ (by omega),fun _=>Int.emod_lt_of_pos _ (by omega),by omega⟩
theorem ach (l:List Int)(K:ag->Prop)(h:Du.T [.d (.af .i64 l)] K):OY l K:=by
 obtain⟨_,ae⟩:=h;unfold OY;refine⟨fun h=> ?_,fun h=> ?_⟩
 ·simp only[aoG]at h;exact⟨by omega,by omega,ae⟩
 ·simp only[aoF]at h;rw[aqB (by omega)]at ae;exact ae
theorem V_ (l:List Int)(a s:Int)(K:ag->R->Prop)(h:Dv.T (.ptr 0 0) (st l a s) [] K):L6 l a s K:=by
 obtain⟨aH,ae⟩:=h;unfold L6 ai;unfold u0 qb at ae;have bc:=aH.1;have aa:=aH.2.1;refine⟨fun h=> ?_,fun h=> ?_⟩
 ·simp only[aoG]at h;rw[aoB h,aoB h]at ae;exact ae
 ·simp only[aoF]at h;rw[aoA h,aoA h]at ae;rw[bP (x:=a+1) (by omega),bP (by omega)];refine⟨by omega,by omega, ?_⟩;rw[Int.add_sub_cancel];exact ae
theorem aci {x n:Int}(h:1<=n):(x.tmod n<0->x.tmod n+n=x%n)/\(¬x.tmod n<0->x.tmod n=x%n)/\-n<x.tmod n/\x.tmod n<n:=by
 have aa:-n<x.tmod n:=by have:=Int.lt_tmod_of_pos x (show 0<n by omega);omega
 have ad:x.tmod n<n:=Int.tmod_lt_of_pos x (by omega);have ax:(x.tmod n)%n=x%n:=by rw[Int.tmod_def,Int.sub_mul_emod_self_left]
 refine⟨fun h=> ?_,fun h=> ?_,aa,ad⟩
 ·rw[<-ax,<-Int.add_emod_right];exact(aqW (by omega) (by omega)).symm
 ·rw[<-ax];exact(aqW (by omega) (by omega)).symm
theorem WO (l:List Int)(a s n:Int)(K:ag->R->Prop)(h:EF.T (.ptr 0 0) (st l a s) [.d (.int .i64 n)] K):Mg l a s n K:=by
 obtain⟨⟨aH,aB⟩,ae⟩:=h;unfold Mg ai;unfold c5 fu at ae;refine⟨fun h=> ?_,fun h=> ?_⟩
 ·simp only[aoG]at h;rw[aoB h,aoB h]at ae;exact ae
 ·simp only[aoF]at h;rw[aoA h,aoA h]at ae;obtain⟨t1,t2,t3,t4⟩:=aci (x:=qb l a) (n:=n) (by omega);unfold i64 at aB;refine⟨aH,by omega,fun h=> ?_,fun h=> ?_⟩
  ·simp only[aoG]at h;rw[bP (by omega),t1 h];exact ae
  ·simp only[aoF]at h;rw[t2 h];exact ae
theorem V5 (l:List Int)(a s:Int)(m:List Int)(K:ag->R->Prop)(h:CR.T (.ptr 0 0) (st l a s) [.d (.af .i64 m)] K):LZ l a s m K:=by
 obtain⟨⟨aH,hm,rQ⟩,ae⟩:=h;unfold LZ;obtain⟨_,aa,ad,_⟩:=aH.num (m.length:Int);exact⟨⟨aH,by unfold i64;omega⟩,aa,ad (by omega),ae⟩
theorem Ze (n:Nat):0<=qP.getD n 0/\qP.getD n 0<4294967296:=by
 have:∀x∈qP,0<=x/\x<4294967296:=by decide
 rw[aoC]
 cases e:qP[n]? with
 |none=>simp
 |some x=>exact this x (ap7 e)
theorem P2 (l:List Int)(a:Int):0<=mX l a qP/\mX l a qP<4294967296:=Ze _
theorem VU (l:List Int)(a s:Int)(K:ag->R->Prop)(h:Cc.T (.ptr 0 0) (st l a s) [] K):LS l a s K:=by
 obtain⟨aH,ae⟩:=h;unfold LS ai bY;obtain⟨jf,v1,v2,_⟩:=aH.num 5;have v2:=v2 (by decide)
 refine⟨⟨aH,by unfold i64;decide⟩,fun i cy b5 gT o=>cy=l/\gT=s/\0<=i/\i<=4/\dI l b5/\(o.length:Int)+i<=4/\q8 l i.toNat b5 o=lA l a,fun i _ _ _ _=>i.toNat,
  ⟨rfl,rfl,v1,by omega,jf,by simp;omega,rfl⟩, ?_⟩
 rintro i cy b5 gT o ⟨rfl,rfl,i0,i4,h0,az,oy⟩;refine⟨fun h=> ?_,fun h=> ?_⟩
 ·simp only[aoG]at h;obtain⟨ajZ,_,_,_⟩:=h0.num 12;rw[bP (by omega)];refine⟨⟨h0,by decide,by decide⟩,by simp;omega,⟨rfl,rfl,by omega,by omega,ajZ,by show((o++[_]).length:Int)+_<=4;simp;omega, ?_⟩,by show(i-1).toNat<i.toNat;omega⟩;rw[<-oy]
  obtain⟨n,aB⟩:∃n:Nat,i.toNat=n+1:=⟨i.toNat-1,by omega⟩
  rw[show(i-1).toNat=n by omega,aB];show q8 cy n _ (o++[IntKind.wrap .u32 (mX cy b5 qP)])=q8 cy n _ (o++[_]);rw[ia (P2 cy b5)]
 ·simp only[aoF]at h;rw[show i.toNat=0 by omega]at oy;rw[<-oy]at ae;exact ae
theorem N8 {l:List Int}:∀(n:Nat) (a:Int) (o:List Int),dI l a->bL o->dI l (q8 l n a o).2/\bL (q8 l n a o).1/\(q8 l n a o).1.length=o.length+n
 |0,a,o,h,aH=>⟨h,aH,rfl⟩
 |n+1,a,o,h,aH=>by
  have:=N8 n (c5 l a 12) (o++[mX l a qP]) (h.num 12).1 (aH.append (.mk (P2 l a) .nil));refine⟨this.1,this.2.1, ?_⟩;have ax:=this.2.2;rw[ao1,apL]at ax;show(q8 l n _ _).1.length=_;rw[ax];omega
theorem dI.aO {l:List Int}{a:Int}(h:dI l a):dI l (lA l a).2/\bL (lA l a).1/\(lA l a).1.length<=4:=by
 obtain⟨jf,v1,v2,_⟩:=h.num 5;have v2:=v2 (by decide);obtain⟨aa,ad,ax⟩:=N8 (fu l a 5).toNat (c5 l a 5) [] jf .nil;exact⟨aa,ad,by unfold lA;rw[ax];simp;omega⟩
theorem dI.new {l:List Int}(h:∀x∈l,i64 x):dI (l.take 1000) 0:=⟨by omega,by simp;omega,fun x ak=>h x (List.mem_of_mem_take ak)⟩
theorem adK {l:List Int}(h:∀n∈l,IntKind.min .i64<=n/\n<=IntKind.max .i64):∀x∈l,i64 x:=fun x ak=>by
 have h:=h x ak;have aA:IntKind.i64.min=-9223372036854775808:=by decide
 have aG:IntKind.i64.max=9223372036854775807:=by decide
 unfold i64;omega
end ab
end
section
open Go Go.aj
namespace ab
theorem qW {l:List Int}{a lo hi:Int}(h:dI l a)(aa:lo<=hi):lo<=kJ l a lo hi/\kJ l a lo hi<=hi:=by
 obtain⟨_,g1,g2,_⟩:=h.num (hi-lo+1);have:=g2 (by omega);unfold kJ;omega
theorem VV (l:List Int)(a s x y:Int)(K:ag->R->Prop)(h:Cg.T (.ptr 0 0) (st l a s) [.d (.int .i64 x), .d (.int .i64 y)] K):LQ l a s x y K:=by
 obtain⟨⟨aH,aa,ad,ax⟩,ae⟩:=h;have ao:=qW aH ad;unfold kJ at ao ae;unfold LQ ai;rw[bP (x:=y-x) (by omega),bP (x:=y-x+1) (by omega),bP (x:=x+_) (by omega)];exact⟨⟨aH,by unfold i64;omega⟩,ae⟩
theorem Wa (l:List Int)(a s:Int)(K:ag->R->Prop)(h:Dy.T (.ptr 0 0) (st l a s) [] K):L5 l a s K:=by
 obtain⟨aH,ae⟩:=h;unfold L5;refine⟨⟨aH,by decide,by decide,by decide⟩, ?_⟩;have bu:=(aH.num 13).1;have dG:=qW (lo:=-6) (hi:=6) aH (by decide);have dD:=qW (lo:=1) (hi:=5) bu (by decide);rintro _ rfl _ rfl _ rfl _ rfl;refine⟨⟨bu,by decide,by decide,by decide⟩, ?_⟩;rintro _ rfl _ rfl _ rfl x ak;have kX:x≠0:=by omega
 refine⟨⟨by unfold i64;omega,by unfold i64;omega⟩, ?_⟩;unfold m3 m4 m5;rw[apS kX,ak];rintro _ rfl _ rfl _ rfl _ _;exact ae
theorem CY {l:List Int}{a:Int}(h:dI l a)(n:Int)(aB:1<=n:=by decide):0<=fu l a n/\fu l a n<n:=⟨(h.num n).2.1,(h.num n).2.2.1 aB⟩
theorem SW {bC N:Int}(aa:1<=bC)(ad:bC<=6)(ax:0<=N)(aV:N<=8):IntKind.wrap .u32 (IntKind.wrap .u32 bC*IntKind.wrap .u32 N)=bC*N:=by
 have J6:∀{x:Int},0<=x->x<4294967296->IntKind.wrap .u32 x=x:=fun aa ad=>aqW aa ad
 have amm:0<=bC*N/\bC*N<=6*8:=⟨Int.mul_nonneg (by omega) (by omega),Int.mul_le_mul (by omega) (by omega) (by omega) (by omega)⟩;rw[J6 (x:=bC) (by omega) (by omega),J6 (x:=N) (by omega) (by omega),J6 (x:=bC*N) (by omega) (by omega)]
theorem VW (l:List Int)(a s:Int)(K:ag->R->Prop)(h:Ch.T (.ptr 0 0) (st l a s) [] K):LR l a s K:=by
 obtain⟨aH,ae⟩:=h;unfold LR bY;unfold w4 sN sO w5 pZ at ae;refine⟨⟨aH,by unfold i64;decide⟩, ?_⟩;have bu:=(aH.num 4).1;rintro _ rfl _ rfl _ rfl v rfl;refine⟨fun h=>⟨bu, ?_⟩,fun h=>⟨fun ad=>⟨⟨bu,by unfold i64;decide⟩, ?_⟩,fun ad=>⟨⟨bu,by decide,by decide,by decide⟩, ?_⟩⟩⟩
 ·have h:=aoN h;rintro _ rfl _ rfl _ rfl _ rfl _ rfl _ rfl;simp only[h,apc]at ae;exact ae
 ·have h:=aoP h;have ad:=aoN ad;simp only[ad,show ¬(1:Int)=0 by decide,apc,if_false]at ae;have br:=(bu.num 2).1;have cQ:=br.aO.1;rintro _ rfl _ rfl _ rfl _ rfl;refine⟨br, ?_⟩;rintro _ rfl _ rfl _ rfl _ rfl;refine⟨cQ, ?_⟩;rintro _ rfl _ rfl _ rfl _ rfl;exact ae
 ·have h:=aoP h;have ad:=aoP ad;simp only[h,ad,if_false]at ae;have br:=(bu.num 6).1;have cQ:=(br.num 2).1;have ld:=(cQ.num 9).1;have r:=qW (lo:=1) (hi:=6) bu (by decide);have UZ:=CY cQ 9;have U0:=CY ld 6;have aj0:=SW r.1 r.2 UZ.1 (by omega);have aj1:=SW r.1 r.2 U0.1 (by omega);rintro _ rfl _ rfl _ rfl _ rfl;refine⟨⟨br,by unfold i64;decide⟩, ?_⟩;rintro _ rfl _ rfl _ rfl _ rfl;refine⟨⟨cQ,by unfold i64;decide⟩, ?_⟩;rintro _ rfl _ rfl _ rfl _ rfl;refine⟨⟨ld,by unfold i64;decide⟩, ?_⟩;rintro _ rfl _ rfl _ rfl _ rfl;rw[aj0,aj1];exact ae
theorem HJ {l:List Int}{a:Int}(aH:dI l a):dI l (w5 l a)/\bS 4 (sN l a)/\bS 4 (sO l a):=by
 have bu:=(aH.num 4).1;unfold sN sO w5 pZ
 by_cases h:fu l a 4=0
 ·simp only[h,apc];have br:=(bu.num 13).1;have dG:=qW (lo:=-6) (hi:=6) bu (by decide);have dD:=qW (lo:=1) (hi:=5) br (by decide)
  have ao:dd 4 (iH l (c5 l a 4)):=by
   unfold iH IX IY;have aY:kJ l (c5 l (c5 l a 4) 13) 1 5=((kJ l (c5 l (c5 l a 4) 13) 1 5).toNat:Int):=by omega
   rw[aY,Rat.divInt_ofNat];exact .mk (by omega) (by omega)
  exact⟨(br.num 5).1,ao.num,ao.den⟩
 ·simp only[h,if_false]
  by_cases aa:fu l a 4=1
  ·simp only[aa,apc];have br:=(bu.num 2).1;have cQ:=br.aO;have ld:=cQ.1.aO;exact⟨ld.1,cQ.2,ld.2⟩
  ·simp only[aa,if_false];have br:=(bu.num 6).1;have cQ:=(br.num 2).1;have ld:=(cQ.num 9).1;have r:=qW (lo:=1) (hi:=6) bu (by decide);have UZ:=CY cQ 9;have U0:=CY ld 6;generalize kJ l (c5 l a 4) 1 6=bC at*;generalize fu l (c5 l (c5 l (c5 l a 4) 6) 2) 9=U1 at*;generalize fu l (c5 l (c5 l (c5 l (c5 l a 4) 6) 2) 9) 6=U2 at*;have amm:0<=bC*U1/\bC*U1<=6*8:=⟨Int.mul_nonneg (by omega) (by omega),Int.mul_le_mul (by omega) (by omega) (by omega) (by omega)⟩;have oJ:0<=bC*U2/\bC*U2<=6*5:=⟨Int.mul_nonneg (by omega) (by omega),Int.mul_le_mul (by omega) (by omega) (by omega) (by omega)⟩;exact⟨(ld.num 6).1,⟨.mk ⟨by omega,by omega⟩ (.mk ⟨by omega,by omega⟩ .nil),by simp⟩,⟨.mk ⟨by omega,by omega⟩ .nil,by simp⟩⟩
theorem A5 {P:Prop}:(false=true->P)=True:=by simp
theorem dG {P:Prop}:(true=true->P)=P:=by simp
theorem dD {P:Prop}:(true=false->P)=True:=by simp
end ab
end
section
open Go Go.aj
namespace ab
theorem VX (a:Int)(K:R->Prop)(h:DB.T [.d (.int .i64 a)] K):LO a K:=by
 obtain⟨_,ae⟩:=h;unfold LO;simpa using ae
theorem VO (a b:Int)(K:R->Prop)(h:D_.T [.d (.int .i64 a), .d (.int .i64 b)] K):LH a b K:=by
 obtain⟨_,ae⟩:=h;unfold LH;refine⟨trivial, ?_⟩;rintro _ rfl;refine⟨trivial, ?_⟩;rintro _ rfl;refine⟨fun h=>by simp at h,fun _=>⟨fun h=>by simp at h,fun _=>⟨fun h=> ?_,fun h=>⟨fun ad=> ?_,fun ad=> ?_⟩⟩⟩⟩
 ·rw[aoB (aoN h)]at ae;exact ae
 ·rw[aoA (aoP h),aoB (aoN ad)]at ae;exact ae
 ·rw[aoA (aoP h),aoA (aoP ad)]at ae;exact ae
theorem fg {n:Int}(bc:0<=n)(aa:n<9223372036854775808):IntKind.wrap .i64 n=n:=
 bP (by omega)
theorem wC {a b:List Int}:∀(i:Nat),i<=a.length->i<=b.length->(∀j,j<i->a.getD j 0=b.getD j 0)->dT a b=dT (a.drop i) (b.drop i)
 |0,_,_,_=>by simp
 |i+1,aS,ah,h=>by
  rw[wC i (by omega) (by omega) fun j aK=>h j (by omega)];have e:=h i (by omega);rw[apZ (i:=i) (by omega),apZ (i:=i) (l:=b) (by omega),dT];rw[aoC,aoC,aoQ (by omega),aoQ (by omega)]at e;simp only[apC]at e;rw[e,aoA (Int.lt_irrefl _),aoA (Int.lt_irrefl _)]
theorem Vu (a b:List Int)(K:R->Prop)(h:Cj.T [.d (.af .i64 a), .d (.af .i64 b)] K):Lr a b K:=by
 obtain⟨⟨dM,eu⟩,ae⟩:=h;unfold Lr ai aP;refine⟨fun v=>∃i:Nat,v=i/\i<=a.length/\i<=b.length/\∀j,j<i->a.getD j 0=b.getD j 0,fun v=>a.length-v.toNat,⟨0,rfl,by omega,by omega,fun j aK=>by omega⟩, ?_⟩;rintro _ ⟨i,rfl,aa,ad,ax⟩;simp only[apb,aoF,aoD];refine⟨fun aV=>⟨by omega,aV,fun bp=> ?_,fun bp=>⟨by omega,by omega,trivial, ?_⟩⟩,fun aV=>⟨fun bp=> ?_,fun bp=> ?_⟩⟩
 ·have aS:i<a.length:=by omega
  rw[wC i aa ad ax,aqx (show b.length<=i by omega),apZ (i:=i) aS,dT]at ae
  ·exact ae
  ·simp;exact aS
 ·have aS:i<a.length:=by omega
  have ah:i<b.length:=by omega
  have e:=wC i aa ad ax;rw[apZ (i:=i) aS,apZ (i:=i) (l:=b) ah,dT]at e;have g1:a.getD i 0=a[i]:=by simp[aoC,aS]
  have g2:b.getD i 0=b[i]:=by simp[aoC,ah]
  simp only[g1,g2];rintro _ rfl;refine⟨fun b1=> ?_,fun b1=> ?_⟩
  ·have:dT a b=if a[i]<b[i]then-1 else if b[i]<a[i]then 1 else 0:=by
    rw[e];split
    ·rfl
    ·split
     ·rfl
     ·exfalso;rename_i a7 bl;simp[a7,bl]at b1
   rw[this]at ae;exact ae
  ·have jH:a[i]=b[i]:=by
    have b1:(if a[i]<b[i]then(-1:Int)else if b[i]<a[i]then 1 else 0)=0:=by simpa using b1
    split at b1
    ·cases b1
    ·split at b1
     ·cases b1
     ·omega
   rw[fg (by omega) (by omega)];refine⟨⟨i+1,rfl,by omega,by omega,fun j aK=> ?_⟩,by omega⟩
   by_cases AH:j=i
   ·subst AH;rw[g1,g2,jH]
   ·exact ax j (by omega)
 ·have:a.drop i=[]:=aqx (by omega);have ah:i<b.length:=by omega
  rw[wC i aa ad ax,this,apZ (i:=i) (l:=b) ah,dT]at ae
  ·exact ae
  ·simp;exact ah
 ·rw[wC i aa ad ax,aqx (show a.length<=i by omega),aqx (show b.length<=i by omega),dT]at ae;exact ae
theorem eO.vw {r:Row}(h:eO r):∀x∈r.take 8,x.dg .i64:=by
 obtain⟨oI,fS,gi,iy,jL,jM,oJ,r6,s,a,b,rfl⟩:=h;simp[U.dg]
theorem OZ (a b:List Int):dT a b=-1\/dT a b=0\/dT a b=1:=by
 induction a generalizing b with
 |nil=>cases b<;>simp[dT]
 |cons x a bM=>
  cases b with
  |nil=>simp[dT]
  |cons y b=>
   rw[dT];split
   ·exact .inl rfl
   ·split
    ·exact .inr (.inr rfl)
    ·exact bM b
theorem P3 (a b:List Int):IntKind.wrap .i64 (0-dT a b)=-dT a b:=by
 rcases OZ a b with e|e|e<;>rw[e]<;>rfl
theorem Vq (q:ed)(aZ:q.desc=false)(a b:Row)(K:R->Prop)(h:qc.T q [.agg [.d (.int .i64 8)], .rw 11 a, .rw 11 b] K):Lo a b K:=by
 unfold qc.T bj at h;simp only[aZ]at h;obtain⟨⟨dM,eu⟩,ae⟩:=h;unfold Lo ai;have aA:(List.take 8 (List.map U.toInt (List.take 8 a)))=ek a:=by rw[<-aqA,List.take_take];rfl
 have aG:(List.take 8 (List.map U.toInt (List.take 8 b)))=ek b:=by rw[<-aqA,List.take_take];rfl
 have dj:(ek a).length=8:=by simp[ek,dM.len]
 have df:(ek b).length=8:=by simp[ek,eu.len]
 refine⟨dM.len,dM.vw,by omega,by omega,eu.len,eu.vw,by omega,by omega,⟨by rw[aA];omega,by rw[aG];omega⟩, ?_⟩;rintro _ rfl;rw[aA,aG,P3];exact ae
theorem Vm (q:ed)(aZ:q.desc=true)(a b:Row)(K:R->Prop)(h:qc.T q [.agg [.d (.bool true)], .rw 11 a, .rw 11 b] K):K9 a b K:=by
 unfold qc.T bj at h;simp only[aZ]at h;obtain⟨⟨dM,eu⟩,ae⟩:=h;unfold K9 ai;have aA:(List.map U.toInt (List.take 8 a))=ek a:=rfl;have aG:(List.map U.toInt (List.take 8 b))=ek b:=rfl;have dj:(ek a).length=8:=by simp[ek,dM.len]
 have df:(ek b).length=8:=by simp[ek,eu.len]
 refine⟨dM.len,dM.vw,eu.len,eu.vw,⟨by rw[aA];omega,by rw[aG];omega⟩, ?_⟩;rintro _ rfl;refine⟨fun _=> ?_,fun h=>by cases h⟩;rw[aA,aG,P3];exact ae
theorem P4:∀(l:List Int) (a x:Int),lH a (l++[x])=if x>lH a l then x else lH a l
 |[],a,x=>rfl
 |y::l,a,x=>by rw[ap0,lH,P4 l,lH]
theorem VP (a:List Int)(K:R->Prop)(h:ER.T [.d (.af .i64 a)] K):LI a K:=by
 obtain⟨⟨bc,aa⟩,ae⟩:=h;unfold LI ai;refine⟨True,⟨fun h=>by simp at h;omega,fun _=>trivial⟩,fun _=>⟨by omega,by omega,fun x v=>∃i:Nat,v=i/\1<=i/\i<=a.length/\x=lH (a.getD 0 0) ((a.take i).drop 1),fun _ v=>a.length-v.toNat,⟨1,rfl,by omega,by omega, ?_⟩, ?_⟩⟩
 ·rw[aqx (by simp;omega),lH]
 ·rintro _ _ ⟨i,rfl,ad,ax,rfl⟩;simp only[apb,aoF,aoD];refine⟨fun aV=>⟨by omega,aV,⟨i+1, ?_,by omega,by omega, ?_⟩, ?_⟩,fun aV=> ?_⟩
  ·rw[fg (by omega) (by omega)];rfl
  ·have hi:i<a.length:=by omega
   have e:a.getD i 0=a[i]:=by simp[aoC,hi]
   rw[aqK,aoQ hi,Option.toList_some,List.drop_append_of_le_length (by simp;omega),P4,e]
  ·rw[fg (by omega) (by omega)];omega
  ·have:i=a.length:=by omega
   rw[this,ap2];exact ae
theorem jv (m:List Int):(c8 m).length=m.length:=aoK ..
theorem nn (m:List Int):eI (c8 m)=m:=by
 rw[eI,c8,ap5];exact List.map_id' _
theorem wJ (m:List Int)(i:Nat)(h:i<m.length):(c8 m).getD i .undef= .int .i64 (m.getD i 0):=by
 simp[c8,aoC,h]
theorem Cp (m:List Int)(i:Nat)(x:Int):(c8 m).set i (.int .i64 x)=c8 (m.set i x):=by rw[c8,c8,aqs]
theorem wK:∀(m n:List Int),m.length=n.length->(ds m n).length=m.length
 |[],[],_=>rfl
 |[],_::_,h=>by cases h
 |_::_,[],h=>by cases h
 |a::m,b::n,h=>by simp only[ds,apj]at h⊢;rw[wK m n (by omega)]
theorem uo:∀(m n:List Int) (i:Nat),i<m.length->i<n.length->(ds m n).getD i 0=m.getD i 0+n.getD i 0
 |a::m,b::n,0,_,_=>rfl
 |a::m,b::n,i+1,h,k=>uo m n i (Nat.lt_of_succ_lt_succ h) (Nat.lt_of_succ_lt_succ k)
theorem SX {m n:List Int}(h:m.length=n.length)(k:∀i,i<m.length->m.getD i 0=n.getD i 0):m=n:=by
 refine aqQ h fun i aa ad=> ?_;have:=k i aa;rw[aoC,aoC,aoQ aa,aoQ ad]at this;exact this
theorem jU {m:List Int}{i:Nat}(h:i<m.length):m.getD i 0∈m:=by
 rw[aoC,aoQ h];exact apJ h
theorem Wb (a b:Row)(K:R->Prop)(h:DC.T [.rw 8 a, .rw 8 b] K):L4 a b K:=by
 obtain⟨⟨⟨m,rfl,hm,hX⟩,n,rfl,aB,rO⟩,ae⟩:=h;rw[nn,nn]at ae;unfold L4 ai
 refine⟨fun v aq bu br=>∃(i:Nat) (x:List Int) (r:Row),v=i/\i<=8/\aq=[c8 x]/\bu=[c8 n]/\br=[r]/\x.length=8/\(∀j,j<i->x.getD j 0=m.getD j 0+n.getD j 0)/\∀j,i<=j->x.getD j 0=m.getD j 0,
  fun v _ _ _=>8-v.toNat,⟨0,m,_,rfl,by omega,rfl,rfl,rfl,hm,fun j aK=>by omega,fun j aK=>rfl⟩, ?_⟩
 rintro _ _ _ _ ⟨i,x,r,rfl,aa,rfl,rfl,rfl,ak,ad,ax⟩;have hz:List.getD [c8 x] 0 []=c8 x:=rfl;have aA:List.getD [c8 n] 0 []=c8 n:=rfl;simp only[apb,aoF,aoD,hz,aA];refine⟨fun aV=> ?_,fun aV=> ?_⟩
 ·have hi:i<8:=by omega
  have cW:=hX _ (jU (m:=m) (i:=i) (by omega));have c9:=rO _ (jU (m:=n) (i:=i) (by omega));rw[wJ x i (by omega),wJ n i (by omega)]
  have KA:IntKind.wrap .i64 (U.toInt (.int .i64 (x.getD i 0))+U.toInt (.int .i64 (n.getD i 0)))=m.getD i 0+n.getD i 0:=by
   show IntKind.wrap .i64 (x.getD i 0+n.getD i 0)=_;rw[ax i (aoH _),bP (by omega)]
  rw[KA,Cp];refine⟨by omega,aV,rfl,by omega,aV,rfl,by omega,aV,⟨i+1,_,r,fg (by omega) (by omega),by omega,rfl,trivial,rfl,by simp[ak],fun j aK=> ?_,fun j aK=> ?_⟩,by rw[fg (by omega) (by omega)];omega⟩
  ·rw[e1]
   by_cases e:i=j
   ·subst e;rw[aoB ⟨rfl,by omega⟩]
   ·rw[aoA (fun h=>e h.1),ad j (by omega)]
  ·rw[e1,aoA (fun h=>by omega),ax j (by omega)]
 ·have hi:i=8:=by omega
  subst hi;have ex:x=ds m n:=SX (by rw[wK m n (by omega)];omega) fun j aK=>by rw[ad j (by omega),uo m n j (by omega) (by omega)]
  subst ex;refine⟨by rw[jv,ak], ?_, ?_⟩
  ·show(c8 (ds m n)).length=8;rw[jv,ak]
  ·exact ae
theorem Gt {l cy:List U}{i:Nat}{d:U}(h:l.length<=i):(l++cy).getD i d=cy.getD (i-l.length) d:=by
 rw[aoC,apQ h,aoC]
def ez (m:List Int)(s:Bool)(a b:List Int):Row:=c8 m++[.bool s, .af .u32 a, .af .u32 b]
section
variable {m:List Int} {s:Bool} {a b:List Int}
theorem kc (h:m.length=8):(ez m s a b).length=11:=by rw[ez,ao1,jv,h];rfl
theorem mQ (h:m.length=8):(ez m s a b).take 8=c8 m:=by rw[ez,List.take_left'];rw[jv,h]
theorem jE (h:m.length=8):(ez m s a b).getD 8 .undef= .bool s:=by
 rw[ez,Gt (by rw[jv,h];omega),jv,h];rfl
theorem jF (h:m.length=8):(ez m s a b).getD 9 .undef= .af .u32 a:=by
 rw[ez,Gt (by rw[jv,h];omega),jv,h];rfl
theorem jA (h:m.length=8):(ez m s a b).getD 10 .undef= .af .u32 b:=by
 rw[ez,Gt (by rw[jv,h];omega),jv,h];rfl
theorem zm (h:m.length=8)(gT:Bool)(b5 ey:List Int):setRow (ez m s a b) 8 [.bool gT, .af .u32 b5, .af .u32 ey]=ez m gT b5 ey:=by
 have l:(c8 m).length=8:=by rw[jv,h]
 simp only[setRow,ez];rw[List.set_append_right _ _ (by omega),List.set_append_right _ _ (by omega),List.set_append_right _ _ (by omega),l];rfl
theorem q_ (h:m.length=8):ek (ez m s a b)=m:=by rw[ek,mQ h];exact nn m
theorem Eb (h:m.length=8):tr (ez m s a b)=bd s a b:=by rw[tr,jE h,jF h,jA h];rfl
theorem mY (h:m.length=8):aN (ez m s a b)=(m,bd s a b):=by rw[aN,q_ h,Eb h]
end
theorem nV (m:List Int):(c8 m).map U.toInt=m:=nn m
theorem y5 (t:ba):hS t=ez t.1 (cj t.2) (cm t.2) (cc t.2):=rfl
theorem y6 {t:ba}(h:t.1.length=8):aN (hS t)=t:=by rw[y5,mY h,mc]
theorem pT {m:List Int}(h:∀x∈m,-4000000000000000000<=x/\x<=4000000000000000000):kd (c8 m):=fun x ak=>by
 obtain⟨y,bn,rfl⟩:=aoO.1 ak;have:=h y bn;exact⟨rfl,by show _<=y;omega,by show y<=_;omega⟩
theorem fm.bN {k:Nat}{r:Row}(h:fm k r):∃(m:List Int) (s:Bool) (a b:List Int),r=ez m s a b/\m.length=8/\(∀x∈m,-4000000000000000000<=x/\x<=4000000000000000000)/\bS k a/\bS k b:=h
theorem fm.row {k:Nat}{r:Row}(h:fm k r):eO r:=by
 obtain⟨m,s,a,b,rfl,hm,_⟩:=h
 match m,hm with
 |[oI,fS,gi,iy,jL,jM,oJ,r6],_=>exact⟨oI,fS,gi,iy,jL,jM,oJ,r6,s,a,b,rfl⟩
theorem fm.mono {k j:Nat}{r:Row}(h:fm k r)(ae:k<=j):fm j r:=by
 obtain⟨m,s,a,b,rfl,hm,aa,ad,ax⟩:=h;exact⟨m,s,a,b,rfl,hm,aa,ad.mono ae,ax.mono ae⟩
theorem So {m:List Int}{s:Bool}{a b:List Int}(h:m.length=8):jO (ez m s a b)=decide (lS (bd s a b)=0):=by rw[jO,Eb h]
theorem VQ (r:Row)(K:R->Prop)(h:DE.T [.rw 11 r] K):LJ r K:=by
 obtain⟨ao,ae⟩:=h;obtain⟨m,s,a,b,rfl,hm,_,ad,ax⟩:=ao.bN;unfold LJ;simp only[jE hm,jF hm,jA hm];refine⟨trivial,rfl,rfl,⟨ad.cx (by decide),ax.cx (by decide)⟩, ?_⟩;rintro _ rfl;rw[So hm]at ae;exact ae
theorem ll {l:Rows}{i:Nat}(h:i<l.length):l.getD i []∈l:=by
 rw[aoC,aoQ h];exact apJ h
theorem Q1:∀(l:Rows) (k:Int) (i:Nat),i<=l.length->(∀j,j<i->jO (l.getD j [])=false)->o3 l k=o3 (l.drop i) (k+i)
 |l,k,0,_,_=>by simp
 |r::l,k,i+1,h,bm=>by
  have bc:=bm 0 (by omega);simp only[aq1]at bc;rw[o3,bc,List.drop_succ_cons,aoA (by decide),Q1 l (k+1) i (by simpa using h) fun j aK=>by simpa using bm (j+1) (by omega)]
  congr 1;omega
theorem Vn (g:Nat)(l:Rows)(K:R->Prop)(h:(y4.T g) [.d (.av 11 l), .fn g] K):K_ l K:=by
 unfold y4.T bj at h;simp only[apB]at h;obtain⟨⟨bs,az⟩,ae⟩:=h;unfold K_ ai aP List.aR;refine⟨fun v=>∃i:Nat,v=i/\i<=l.length/\∀j,j<i->jO (l.getD j [])=false,fun v=>l.length-v.toNat,⟨0,rfl,by omega,fun j aK=>by omega⟩, ?_⟩;rintro _ ⟨i,rfl,aa,ad⟩;have e:=Q1 l 0 i aa ad;rw[Int.zero_add]at e;simp only[apb,aoF,aoD];refine⟨fun aV=> ?_,fun aV=> ?_⟩
 ·have hi:i<l.length:=by omega
  have mI:l.getD i []=l[i]:=by simp[aoC,hi]
  refine⟨by omega,aV,(bs _ (ll hi)).row.len,bs _ (ll hi), ?_⟩;rintro _ rfl;refine⟨fun bp=> ?_,fun bp=>⟨⟨i+1,fg (by omega) (by omega),by omega,fun j aK=> ?_⟩,by rw[fg (by omega) (by omega)];omega⟩⟩
  ·rw[e,apZ hi,o3,<-mI,bp,aoB rfl]at ae;exact ae
  ·by_cases AH:j=i
   ·subst AH;exact bp
   ·exact ad j (by omega)
 ·rw[e,aqx (by omega),o3]at ae;exact ae
theorem Wr:∀(l:Rows) (i:Nat),(∀j,j<i->j<l.length->jO (l.getD j [])=false)->(l.take i).filter (fun r=> !jO r)=l.take i:=fun l i h=>by
 refine List.filter_eq_self.2 fun r ao=> ?_;obtain⟨j,aK,rfl⟩:=aqj ao;have h1:j<i/\j<l.length:=by rw[apf]at aK;omega
 have:=h j h1.1 h1.2;rw[List.getElem_take];rw[aoC,aoQ h1.2]at this;simpa using this
theorem N9:∀(l:Rows) (k:Int),0<=k->(o3 l k=-1/\∀r∈l,jO r=false)\/∃i:Nat,i<l.length/\o3 l k=k+i/\jO (l.getD i [])=true/\∀j,j<i->jO (l.getD j [])=false
 |[],k,_=> .inl ⟨rfl,by simp⟩
 |r::l,k,ae=>by
  rw[o3]
  cases bm:jO r with
  |true=>exact .inr ⟨0,by simp,by simp,by simpa using bm,fun j aK=>by omega⟩
  |false=>
   rw[aoA (by decide)];rcases N9 l (k+1) (by omega)with⟨aa,ad⟩|⟨i,aa,ad,ax,aV⟩
   ·refine .inl ⟨aa,fun x ak=> ?_⟩;rcases aoW.1 ak with rfl|ak
    ·exact bm
    ·exact ad x ak
   ·refine .inr ⟨i+1,by simpa using aa,by rw[ad];omega,by simpa using ax,fun j aK=> ?_⟩
    cases j with
    |zero=>simpa using bm
    |succ j=>simpa using aV j (by omega)
theorem Vk (g:Nat)(l:Rows)(K:ag->Prop)(h:(zx.T g) (.av 11 l) [.fn g] K):K5 l K:=by
 unfold zx.T xe at h;simp only[apB]at h;obtain⟨⟨bs,az⟩,ae⟩:=h;unfold K5 ai List.aR;refine⟨⟨bs,az⟩, ?_⟩;rintro _ rfl;rcases N9 l 0 (Int.le_refl _)with⟨aa,ad⟩|⟨i0,aa,ad,ax,aV⟩
 ·rw[aa];refine⟨fun _=> ?_,fun h=>by cases h⟩;rw[List.filter_eq_self.2 fun r ao=>by rw[ad r ao];rfl]at ae;exact ae
 ·rw[ad,Int.zero_add];refine⟨fun h=>by have:=aoN h;omega,fun _=> ?_⟩;refine⟨fun a v o=>∃i j:Nat,a=i/\v=j/\i<j/\j<=l.length/\o.length=l.length/\(∀r∈o,fm 1000000 r)/\o.take i=(l.take j).filter (fun r=> !jO r)/\o.drop j=l.drop j,fun _ v _=>l.length-v.toNat,⟨i0,i0+1,rfl, ?_,by omega,by omega,rfl,bs, ?_,rfl⟩, ?_⟩
  ·rw[fg (by omega) (by omega)];rfl
  ·rw[aqK,aqT,Wr l i0 fun j aK _=>aV j aK,aoQ aa]
   have:jO l[i0]=true:=by
    rw[aoC,aoQ aa]at ax;exact ax
   simp[this]
  ·rintro _ _ o ⟨i,j,rfl,rfl,a7,bl,bH,dJ,eZ,gE⟩;simp only[apb,aoF,aoD];refine⟨fun bp=> ?_,fun bp=> ?_⟩
   ·have aK:j<l.length:=by omega
    have aj2:j<o.length:=by omega
    have hm:fm 1000000 (o.getD j []):=dJ _ (ll aj2)
    have U3:o.getD j []=l[j]:=by
     have:=apg (fun x:Rows=>x.getD 0 []) gE;simp only[aoC,ap4,ao0]at this;rw[aoC,this,aoQ aK];rfl
    have w1:IntKind.wrap .i64 ((j:Int)+1)=((j+1:Nat):Int):=fg (by omega) (by omega);have dq:IntKind.wrap .i64 ((i:Int)+1)=((i+1:Nat):Int):=fg (by omega) (by omega);refine⟨by omega,bp,hm.row.len,hm.row.len,hm, ?_⟩;rintro _ rfl;rw[w1,dq];refine⟨fun b1=>⟨hm.row.len,by omega,by omega,⟨i+1,j+1,rfl,rfl,by omega,by omega,by simpa using bH,fun r ao=> ?_, ?_, ?_⟩,by omega⟩,fun b1=>⟨⟨i,j+1,rfl,rfl,by omega,by omega,bH,dJ, ?_, ?_⟩,by omega⟩⟩
    ·rcases aqU ao with ao|rfl
     ·exact dJ r ao
     ·exact hm
    ·rw[aqK,apo,aoB rfl,aoB (show i<o.length by omega),List.take_set_of_le (aoH _),eZ,aqK,aqT,aoQ aK];rw[U3]at b1⊢;simp[b1]
    ·rw[List.drop_set_of_lt (by omega)];have:=apg (List.drop 1) gE;rwa [List.drop_drop,List.drop_drop]at this
    ·rw[eZ,aqK,aqT,aoQ aK];rw[U3]at b1;simp[b1]
    ·have:=apg (List.drop 1) gE;rwa [List.drop_drop,List.drop_drop]at this
   ·have aK:j=l.length:=by omega
    have aoa:i<=o.length:=by omega
    have e:(o.take i++List.replicate (o.length-i) ([U.int IntKind.i64 0,U.int IntKind.i64 0,U.int IntKind.i64 0,U.int IntKind.i64 0,U.int IntKind.i64 0,U.int IntKind.i64 0,U.int IntKind.i64 0,U.int IntKind.i64 0,U.bool false,U.af IntKind.u32 [],U.af IntKind.u32 []]:Row)).take i=o.take i:=by
     rw[List.take_append_of_le_length (by simp;omega),List.take_take,Nat.min_self]
    refine⟨by omega,by omega,by omega,by simp;omega, ?_⟩;rw[e,eZ,aK,ap2];exact ae
theorem Vo (l:Rows)(K:ag->Prop)(h:DD.T [.d (.av 11 l)] K):Ll l K:=by
 obtain⟨az,ae⟩:=h;unfold Ll aP;intro b ah;refine⟨fun h=> ?_,fun h=>⟨by omega,ae⟩⟩;rw[ah h]at ae;exact ae
theorem yT (m:List Int):∀(a b:Rows),gm m (a++b)=gm m a+gm m b
 |[],b=>by rw[List.nil_append,gm,ao8]
 |r::a,b=>by rw[ap0,gm,gm,yT m a b,apA]
theorem aaO (m:List Int)(l:Rows)(i:Nat):gm m (l.take i)<=gm m l:=by
 have:=yT m (l.take i) (l.drop i);rw[List.take_append_drop]at this;omega
theorem pJ {l:Rows}{i:Nat}(h:i<l.length):l.take (i+1)=l.take i++[l.getD i []]:=by
 rw[aqK,aoQ h,aoC,aoQ h];rfl
theorem O0 {l:Rows}{i:Nat}(h:i<l.length)(m:List Int):gm m (l.take (i+1))=gm m (l.take i)+if ek (l.getD i [])=m then 1 else 0:=by
 rw[pJ h,yT,gm,gm,ao0]
def l5 (m:List Int):Prop:=m.length=8/\∀x∈m,-4000000000000000000<=x/\x<=4000000000000000000
def kU:Nat->List ba->Rows
 |_,[]=>[]
 |k,t::p=>(c8 t.1++[.int .i64 k])::kU (k+1) p
theorem P5:∀(k:Nat) (p:List ba) (t:ba),kU k (p++[t])=kU k p++[c8 t.1++[.int .i64 ((k+p.length:Nat):Int)]]
 |k,[],t=>rfl
 |k,u::p,t=>by
  rw[ap0,kU,kU,P5 (k+1) p t,ap0,apj,show k+1+p.length=k+(p.length+1) by omega]
theorem N_:∀(k:Nat) (p q:List ba),p.map Prod.fst=q.map Prod.fst->kU k p=kU k q
 |k,[],[],_=>rfl
 |k,[],_::_,h=>by cases h
 |k,_::_,[],h=>by cases h
 |k,t::p,u::q,h=>by
  simp only[ape,aqn]at h;rw[kU,kU,h.1,N_ (k+1) p q h.2]
theorem P6:∀(k:Nat) (p:List ba) (j:Nat) (t:ba),p[j]? =some t->(kU k p)[j]? =some (c8 t.1++[.int .i64 ((k+j:Nat):Int)])
 |k,[],j,t,h=>by simp at h
 |k,u::p,0,t,h=>by
  obtain rfl:u=t:=by simpa using h
  rfl
 |k,u::p,j+1,t,h=>by
  have:=P6 (k+1) p j t (by simpa using h);rw[kU,List.getElem?_cons_succ,this,show k+1+j=k+(j+1) by omega]
theorem BM {m:List Int}(h:m.length=8)(x:List U):ji 8 (c8 m++x)=m:=by
 rw[ji,List.take_left' (by rw[jv,h]),nV]
theorem O1:∀(k:Nat) (p:List ba),(∀t∈p,t.1.length=8)->(kU k p).map (ji 8)=p.map Prod.fst
 |_,[],_=>rfl
 |k,t::p,h=>by rw[kU,ape,ape,BM (h t (by simp)),O1 (k+1) p fun u hu=>h u (by simp[hu])]
theorem acj {k:Nat}{p:List ba}{r:Row}(h:r∈kU k p):∃t∈p,∃j:Int,r=c8 t.1++[.int .i64 j]:=by
 induction p generalizing k with
 |nil=>cases h
 |cons t p bM=>
  rw[kU]at h;rcases aoW.1 h with rfl|h
  ·exact⟨t,by simp,_,rfl⟩
  ·obtain⟨u,hu,j,e⟩:=bM h;exact⟨u,by simp[hu],j,e⟩
theorem P7 {m:List Int}(h:m.length=8)(x:List U):(c8 m++x).drop 8=x:=List.drop_left' (by rw[jv,h])
theorem adL {t:ba}(h:t.1.length=8):jO (hS t)=decide (t.2=0):=by simp only[y5,So h,mc,wI]
theorem Nv:∀{p:List ba},(∀t∈p,t.1.length=8)->(bB p).filter (fun r=> !jO r)=bB (p.filter fun t=> !decide (t.2=0))
 |[],_=>rfl
 |t::p,h=>by
  have bM:=Nv (p:=p) fun u hu=>h u (by simp[hu]);show List.filter _ (hS t::bB p)=_;rw[List.filter_cons,List.filter_cons,adL (h t (by simp))];split
  ·rw[bM];rfl
  ·exact bM
theorem ff (p:List ba):(bB p).length=p.length:=aoK ..
theorem P8 {p:List ba}{j:Nat}{t:ba}(h:p[j]? =some t):(bB p).getD j []=hS t:=by
 rw[aoC,bB,apv,h];rfl
theorem Q2 {k:Nat}{t:ba}(h:l5 t.1)(ay:dd k t.2):fm k (hS t):=⟨_,_,_,_,rfl,h.1,h.2,ay.num,ay.den⟩
theorem Q3:∀{l:Rows},(∀r∈l,∃t:ba,r=hS t/\t.1.length=8)->bB (l.map aN)=l
 |[],_=>rfl
 |r::l,h=>by
  obtain⟨t,e,au⟩:=h r (by simp);show hS (aN r)::bB (l.map aN)=_;rw[Q3 fun u hu=>h u (by simp[hu]),e,y6 au]
theorem fp {p:List ba}(h:∀t∈p,t.1.length=8):(bB p).map aN=p:=by
 induction p with
 |nil=>rfl
 |cons t p bM=>
  show aN (hS t)::(bB p).map aN=_;rw[y6 (h t (by simp)),bM fun u hu=>h u (by simp[hu])]
def om (k:Nat)(l:Rows)(i:Nat)(acc:List ba):Prop:=
 acc=((l.take i).map aN).foldl iG []/\(acc.map Prod.fst).Nodup/\(∀t∈acc,l5 t.1/\dd (gm t.1 (l.take i)*(k+1)) t.2)/\acc.length<=i
theorem om.none {k:Nat}{l:Rows}{i:Nat}{acc:List ba}(h:om k l i acc)(hi:i<l.length){m:List Int}{s:Bool}{a b:List Int}(e:l.getD i []=ez m s a b)(hm:l5 m)
 (aS:bS k a) (ah:bS k b) (j6:1<=k) (aB:∀u∈acc,u.1≠m):om k l (i+1) (acc++[(m,bd s a b)]):=by
 obtain⟨aa,ad,ax,aV⟩:=h;have hw:=O0 hi;have ao:dd k (bd s a b):=dd.of aS ah;refine⟨?_, ?_,fun t au=> ?_, ?_⟩
 ·rw[pJ hi,e,apn,List.foldl_append,<-aa];show _=iG acc (aN (ez m s a b));rw[mY hm.1,Hj aB]
 ·rw[<-Hj (t:=(m,bd s a b)) aB];exact N5 ad
 ·rcases apM.1 au with au|au
  ·exact⟨(ax t au).1,(ax t au).2.mono (aoR _ (by rw[hw];omega))⟩
  ·obtain rfl:=apr.1 au;refine⟨hm,ao.mono ?_⟩;have aa:1<=gm m (l.take (i+1)):=by rw[hw,e,aoB (q_ hm.1)];omega
   have:=aoR (k+1) aa;show k<=gm m (l.take (i+1))*(k+1);omega
 ·rw[ao1];exact Nat.succ_le_succ aV
theorem om.at {k:Nat}{l:Rows}{i:Nat}{acc:List ba}(h:om k l i acc)(hi:i<l.length){m:List Int}{s:Bool}{a b:List Int}(e:l.getD i []=ez m s a b)(hm:l5 m)
 (aS:bS k a) (ah:bS k b) (j6:1<=k) {j:Nat} {u:ba} (aK:acc[j]? =some u) (hu:u.1=m):om k l (i+1) (acc.set j (m,u.2+bd s a b)):=by
 obtain⟨aa,ad,ax,aV⟩:=h;have hw:=O0 hi;have ao:dd k (bd s a b):=dd.of aS ah;have FM:iG acc (m,bd s a b)=acc.set j (m,u.2+bd s a b):=by rw[QX ad aK hu,hu]
 refine⟨?_, ?_,fun t au=> ?_, ?_⟩
 ·rw[pJ hi,e,apn,List.foldl_append,<-aa];show _=iG acc (aN (ez m s a b));rw[mY hm.1,FM]
 ·rw[<-FM];exact N5 ad
 ·rcases aqU au with au|rfl
  ·exact⟨(ax t au).1,(ax t au).2.mono (aoR _ (by rw[hw];omega))⟩
  ·refine⟨hm,((ax u (ap7 aK)).2.add ao).mono ?_⟩;show _<=gm m (l.take (i+1))*(k+1);rw[hw,e,aoB (q_ hm.1),hu,aoX,apX];omega
 ·rw[aoT];omega
theorem om.A6 {k c:Nat}{l:Rows}{i:Nat}{acc:List ba}(h:om k l i acc)(aC:∀m,gm m l<=c)(ae:c*(2*k+2)<=900000){t:ba}(au:t∈acc):dd 900000 t.2:=
 (h.2.2.1 t au).2.mono (by
   have aa:=aoV (aaO t.1 l i) (aC t.1);have ad:=aoR (k+1) aa;have e:c*(2*k+2)=2*(c*(k+1)):=by rw[show 2*k+2=2*(k+1) by omega,apF]
   omega)
theorem Nw {l:Rows}{n:Nat}(h:n=l.length):(l.toArray.extract 0 n).toList=l:=by
 subst h;simp
theorem P9 {l:Rows}{i:Nat}(h:i<l.length):l.toArray[i]! =l.getD i []:=by
 simp[aoC,h]
theorem aev {a b:Row}:bk a b=decide (fT (ek a) (ek b)):=by
 unfold bk gQ fT;rcases OZ (ek a) (ek b)with e|e|e<;>rw[e]<;>decide
theorem O2 {p acc:List ba}{x o:Rows}(c6:∀t∈acc,t.1.length=8)(aC:∀m,cG acc m=cG p m)(aY:(acc.map Prod.fst).Nodup)
 (ak:x=bB (acc.filter fun t=> !decide (t.2=0))) (ay:lC x 0 (x.length:Int) o):o=bB (nrm p):=by
 obtain⟨⟨_,aa,_,ax⟩,aV⟩:=ay;have hlen:o.length=x.length:=by simpa using aa
 simp only[aoD]at ax aV;rw[show(0:Int).toNat=0 from rfl,Nw hlen.symm,Nw rfl]at ax
 have lG:∀r∈o,∃t:ba,r=hS t/\t.1.length=8:=fun r ao=>by
  have:=ax.mem_iff.1 ao;rw[ak,bB]at this;obtain⟨t,au,rfl⟩:=aoO.1 this;exact⟨t,rfl,c6 t (apW.1 au).1⟩
 rw[<-Q3 lG]
 congr 1
 refine Y5 aC aY ?_ ?_
 ·have:=ax.map aN;rw[ak,fp fun t au=>c6 t (apW.1 au).1]at this;exact this
 ·rw[List.pairwise_map,List.pairwise_iff_getElem];intro i j hi aK vj;have:=aV i j (by simp) vj (by omega);rw[P9 aK,P9 hi,aev]at this;have bg:=aoP this;rw[aoC,aoC,aoQ hi,aoQ aK]at bg;exact bg
theorem om.end {k:Nat}{l:Rows}{acc:List ba}(h:om k l l.length acc):∀m,cG acc m=cG (l.map aN) m:=fun m=>by
 rw[h.1,ap2,N6,cG,aqk]
theorem VY (l:Rows)(K:R->Prop)(h:sv.T [.d (.av 11 l)] K):LP l K:=by
 obtain⟨⟨k,c,j6,bs,qF,xU,AI,az⟩,ae⟩:=h;unfold LP ai aP List.aR List.fs List.eK List.eL
 refine⟨by omega,by omega,by omega,fun v aq bu=>∃(i:Nat) (acc:List ba),v=i/\i<=l.length/\om k l i acc/\aq=kU 0 acc/\bu=bB acc,fun v _ _=>l.length-v.toNat,
  ⟨0,[],rfl,by omega,⟨rfl, .nil,by simp,by simp⟩,rfl,rfl⟩, ?_⟩
 rintro _ _ _ ⟨i,acc,rfl,aa,fO,rfl,rfl⟩
 have c6:∀t∈acc,t.1.length=8:=fun t au=>(fO.2.2.1 t au).1.1
 have hk:=fO.2.2.2;simp only[apb,aoF,aoD];refine⟨fun aV=> ?_,fun aV=> ?_⟩
 ·have hi:i<l.length:=by omega
  obtain⟨m,s,a,b,e,hm,hX,aS,ah⟩:=(bs _ (ll hi)).bN;simp only[e,kc hm,mQ hm,nV,jE hm,jF hm,jA hm];have FR:IntKind.wrap .i64 ((i:Int)+1)=((i+1:Nat):Int):=fg (by omega) (by omega);rw[FR];have rY:l5 m:=⟨hm,hX⟩
  by_cases ak:∃u∈acc,u.1=m
  ·obtain⟨u,hu,mD⟩:=ak;obtain⟨j,aK,rfl⟩:=aqj hu;have h1:acc[j]? =some acc[j]:=aoQ aK;have m2:=P6 0 acc j _ h1;obtain⟨q1,cI,_⟩:=wv (z:=[U.int IntKind.i64 0]) (by rw[O1 0 acc c6];exact fO.2.1) m2 (by rw[BM (c6 _ hu)]);rw[mD]at q1 cI;rw[q1,cI,P7 hm];have tN:U.toInt (List.getD [U.int .i64 ((0+j:Nat):Int)] 0 .undef)=(j:Int):=by rw[ao8];rfl
   rw[tN];have gB:=fO.A6 qF xU hu;simp only[aoD,P8 h1,y5,mD,jE hm,jF hm,jA hm,ff];have cK:=fO.at hi e rY aS ah j6 h1 mD;refine⟨by omega,by omega,trivial,trivial,pT hX,rfl,fun _=>⟨by omega,by omega,trivial,rfl,rfl,trivial,rfl,rfl,⟨gB.num.mono (by decide),gB.den.mono (by decide),aS.mono (by omega),ah.mono (by omega)⟩, ?_⟩,fun h=>by cases h⟩;simp only[U.toBool,U.bX,mc];rintro _ rfl _ rfl _ rfl;rw[zm hm];refine⟨by omega,by omega,⟨i+1,_,rfl,by omega,cK, ?_, ?_⟩,by omega⟩
   ·refine N_ 0 _ _ ?_
    have qt:(acc.map Prod.fst).set j acc[j].1=acc.map Prod.fst:=by
     have h:= @List.set_getElem_self _ (acc.map Prod.fst) j (by simpa using aK);simpa using h
    rw[aqs,<-mD];exact qt.symm
   ·rw[bB,bB,aqs];rfl
  ·have aB:∀u∈acc,u.1≠m:=fun u hu e=>ak ⟨u,hu,e⟩
   obtain⟨q1,cI,cV⟩:=yl (n:=8) (z:=[U.int IntKind.i64 0]) (k:=m) (l:=kU 0 acc) fun r ao=>by
    obtain⟨t,au,j,rfl⟩:=acj ao;rw[BM (c6 t au)];exact aB t au
   rw[q1,cI];have iK:=fO.none hi e rY aS ah j6 aB;refine⟨by omega,by omega,trivial,trivial,pT hX,rfl,(fun h=>by cases h),fun _=>⟨trivial,pT hX,trivial,trivial,rfl,rfl,⟨aS.cx (by omega),ah.cx (by omega)⟩, ?_⟩⟩;simp only[U.toBool,U.bX];rintro _ rfl _ rfl _ rfl;rw[cV _ _ (nV m),ff];refine⟨by rw[apL];omega,⟨i+1,_,rfl,by omega,iK, ?_, ?_⟩,by omega⟩
   ·rw[P5,ao8]
   ·rw[bB,bB,apn];rfl
 ·have hi:i=l.length:=by omega
  subst hi
  have kY:∀r∈bB acc,fm 1000000 r:=fun r ao=>by
   obtain⟨t,au,rfl⟩:=aoO.1 ao;exact Q2 (fO.2.2.1 t au).1 ((fO.A6 qF xU au).mono (by decide))
  refine⟨⟨kY,by rw[ff];omega⟩, ?_⟩;intro x ak;rw[Nv c6]at ak
  have aj3:∀r∈x,fm 1000000 r:=fun r ao=>by
   rw[ak]at ao;obtain⟨t,au,rfl⟩:=aoO.1 ao;exact kY _ (aq4 (apW.1 au).1)
  refine⟨⟨fun r ao=>(aj3 r ao).row, ?_⟩,fun o aH=> ?_⟩
  ·rw[ak,ff];have:=List.length_filter_le (fun t:ba=> !decide (t.2=0)) acc;omega
  ·rw[O2 c6 fO.end fO.2.1 ak aH];exact ae
theorem Cq {t:ba}(h:t.1.length=8):ji 8 (hS t)=t.1:=BM h _
theorem O3 {t:ba}(h:t.1.length=8):(hS t).drop 8=[.bool (cj t.2), .af .u32 (cm t.2), .af .u32 (cc t.2)]:=P7 h _
theorem O4 {p:List ba}(h:∀t∈p,t.1.length=8):(bB p).map (ji 8)=p.map Prod.fst:=by
 rw[bB,ap5];exact aqO fun t au=>Cq (h t au)
theorem aew:bd false [] []=0:=HG rfl
theorem q2 (p q:List ba):bB (p++q)=bB p++bB q:=apn
theorem VI (l:Rows)(K:R->Prop)(h:sv.T [.d (.av 11 l)] K):LD l K:=by
 obtain⟨⟨k,c,j6,bs,qF,xU,AI,az⟩,ae⟩:=h;unfold LD ai aP List.aR List.fs List.eK List.eL
 refine⟨fun v aq bu=>∃(i:Nat) (acc:List ba),v=i/\i<=l.length/\om k l i acc/\aq=bB acc/\bu=acc.map (fun t=>c8 t.1),fun v _ _=>l.length-v.toNat,
  ⟨0,[],rfl,by omega,⟨rfl, .nil,by simp,by simp⟩,rfl,rfl⟩, ?_⟩
 rintro _ _ _ ⟨i,acc,rfl,aa,fO,rfl,rfl⟩
 have c6:∀t∈acc,t.1.length=8:=fun t au=>(fO.2.2.1 t au).1.1
 have hk:=fO.2.2.2;simp only[apb,aoF,aoD];refine⟨fun aV=> ?_,fun aV=> ?_⟩
 ·have hi:i<l.length:=by omega
  obtain⟨m,s,a,b,e,hm,hX,aS,ah⟩:=(bs _ (ll hi)).bN;simp only[e,kc hm,mQ hm,nV];have FR:IntKind.wrap .i64 ((i:Int)+1)=((i+1:Nat):Int):=fg (by omega) (by omega);rw[FR];have rY:l5 m:=⟨hm,hX⟩
  have bm:(∃(j:Nat) (u:ba),acc[j]? =some u/\u.1=m/\dy 8 [.bool false, .af .u32 [], .af .u32 []] (bB acc) m=[.bool (cj u.2), .af .u32 (cm u.2), .af .u32 (cc u.2)]/\mR 8 (bB acc) m=true/\
   ∀v,mg 8 (c8 m) v (bB acc)=(bB acc).set j (c8 m++v))\/
   ((∀u∈acc,u.1≠m)/\dy 8 [.bool false, .af .u32 [], .af .u32 []] (bB acc) m=[.bool false, .af .u32 [], .af .u32 []]/\mR 8 (bB acc) m=false/\
     ∀v,mg 8 (c8 m) v (bB acc)=bB acc++[c8 m++v]):=by
   by_cases ak:∃u∈acc,u.1=m
   ·obtain⟨u,hu,mD⟩:=ak;obtain⟨j,aK,rfl⟩:=aqj hu;have h1:acc[j]? =some acc[j]:=aoQ aK;have m2:(bB acc)[j]? =some (hS acc[j]):=by rw[bB,apv,h1];rfl
    obtain⟨q1,cI,cV⟩:=wv (z:=[U.bool false, .af .u32 [], .af .u32 []]) (by rw[O4 c6];exact fO.2.1) m2 (by rw[Cq (c6 _ hu)]);rw[mD]at q1 cI cV;rw[O3 (c6 _ hu)]at q1;exact .inl ⟨j,_,h1,mD,q1,cI,fun v=>cV _ _ (nV m)⟩
   ·have aB:∀u∈acc,u.1≠m:=fun u hu e=>ak ⟨u,hu,e⟩
    obtain⟨q1,cI,cV⟩:=yl (n:=8) (z:=[U.bool false, .af .u32 [], .af .u32 []]) (k:=m) (l:=bB acc) fun r ao=>by
     obtain⟨t,au,rfl⟩:=aoO.1 ao;rw[Cq (c6 t au)];exact aB t au
    exact .inr ⟨aB,q1,cI,fun v=>cV _ _ (nV m)⟩
  refine⟨by omega,by omega,trivial,fun aq bu br=>aq=bB acc/\br=[ez m s a b]/\((∃u∈acc,u.1=m)/\bu=acc.map (fun t=>c8 t.1)\/(∀u∈acc,u.1≠m)/\bu=acc.map (fun t=>c8 t.1)++[c8 m]),⟨trivial,pT hX, ?_⟩, ?_⟩
  ·rcases bm with⟨j,u,aK,mD,q1,cI,cV⟩|⟨aB,q1,cI,cV⟩
   ·rw[q1,cI];exact⟨trivial,rfl,rfl,(fun h=>by cases h),fun _=>⟨rfl,rfl, .inl ⟨⟨u,ap7 aK,mD⟩,rfl⟩⟩⟩
   ·rw[q1,cI];refine⟨trivial,rfl,rfl,fun _=>⟨trivial, ?_,rfl,rfl, .inr ⟨aB,rfl⟩⟩,(fun h=>by cases h)⟩;rw[apL,aoK];omega
  ·rintro _ bu _ ⟨rfl,rfl,aH⟩;have hz:List.getD [ez m s a b] 0 []=ez m s a b:=rfl;simp only[hz,kc hm,mQ hm,nV,jE hm,jF hm,jA hm];rcases bm with⟨j,u,aK,mD,q1,cI,cV⟩|⟨aB,q1,cI,cV⟩
   ·rw[q1];rcases aH with⟨_,rfl⟩|⟨iK,_⟩;rotate_left
    ·exact absurd mD (iK u (ap7 aK))
    have gB:=fO.A6 qF xU (ap7 aK);have cK:=fO.at hi e rY aS ah j6 aK mD;refine⟨trivial,trivial,pT hX,trivial,rfl,rfl,trivial,rfl,rfl,⟨gB.num.mono (by decide),gB.den.mono (by decide),aS.mono (by omega),ah.mono (by omega)⟩, ?_⟩
    have mI:∀(x y z:U),[x,y,z].getD 0 .undef=x/\[x,y,z].getD 1 .undef=y/\[x,y,z].getD 2 .undef=z:=fun _ _ _=>⟨rfl,rfl,rfl⟩
    simp only[(mI _ _ _).1,(mI _ _ _).2.1,(mI _ _ _).2.2,U.toBool,U.bX,mc];rintro _ rfl _ rfl _ rfl;rw[cV];refine⟨pT hX,⟨i+1,_,rfl,by omega,cK, ?_, ?_⟩,by omega⟩
    ·rw[bB,bB,aqs];rfl
    ·have iI:j<acc.length:=(apt.1 aK).1
     have qt:(acc.map fun t=>c8 t.1).set j (c8 m)=acc.map fun t=>c8 t.1:=by
      have h:= @List.set_getElem_self _ (acc.map fun t=>c8 t.1) j (by simpa using iI);rw[List.getElem_map]at h
      have aG:acc[j]=u:=by
       rw[aoQ iI]at aK;exact aoL aK
      rw[aG,mD]at h;exact h
     rw[aqs];exact qt.symm
   ·rw[q1];rcases aH with⟨⟨u,hu,mD⟩,_⟩|⟨_,rfl⟩
    ·exact absurd mD (aB u hu)
    have iK:=fO.none hi e rY aS ah j6 aB;refine⟨trivial,trivial,pT hX,trivial,rfl,rfl,trivial,rfl,rfl,⟨⟨.nil,apR _⟩,⟨.nil,apR _⟩,aS.mono (by omega),ah.mono (by omega)⟩, ?_⟩
    have mI:∀(x y z:U),[x,y,z].getD 0 .undef=x/\[x,y,z].getD 1 .undef=y/\[x,y,z].getD 2 .undef=z:=fun _ _ _=>⟨rfl,rfl,rfl⟩
    simp only[(mI _ _ _).1,(mI _ _ _).2.1,(mI _ _ _).2.2,U.toBool,U.bX,aew,aqk];rintro _ rfl _ rfl _ rfl;rw[cV];refine⟨pT hX,⟨i+1,_,rfl,by omega,iK, ?_, ?_⟩,by omega⟩
    ·rw[q2];rfl
    ·rw[apn];rfl
 ·have hi:i=l.length:=by omega
  subst hi
  have kY:∀t∈acc,fm 1000000 (hS t):=fun t au=>Q2 (fO.2.2.1 t au).1 ((fO.A6 qF xU au).mono (by decide))
  refine⟨fun v aq bu br=>∃j:Nat,v=j/\j<=acc.length/\aq=bB acc/\bu=acc.map (fun t=>c8 t.1)/\br=bB ((acc.take j).filter fun t=> !decide (t.2=0)),fun v _ _ _=>acc.length-v.toNat,
   ⟨0,rfl,by omega,rfl,rfl,rfl⟩, ?_⟩
  rintro _ _ _ _ ⟨j,rfl,aK,rfl,rfl,rfl⟩;simp only[apb,aoF,aoD,aoK];refine⟨fun bp=> ?_,fun bp=> ?_⟩
  ·have T3:j<acc.length:=by omega
   have h1:acc[j]? =some acc[j]:=aoQ T3;have hu:acc[j]∈acc:=apJ T3;have rY:=(fO.2.2.1 _ hu).1;have ay:=fO.A6 qF xU hu
   have mI:List.getD (acc.map fun t=>c8 t.1) j []=c8 acc[j].1:=by
    rw[aoC,apv,h1];rfl
   have m2:(bB acc)[j]? =some (hS acc[j]):=by rw[bB,apv,h1];rfl
   obtain⟨q1,cI,cV⟩:=wv (z:=[U.bool false, .af .u32 [], .af .u32 []]) (by rw[O4 c6];exact fO.2.1) m2 (by rw[Cq (c6 _ hu)]);rw[O3 (c6 _ hu)]at q1;have dE:IntKind.wrap .i64 ((j:Int)+1)=((j+1:Nat):Int):=fg (by omega) (by omega)
   have x3:(acc.take (j+1)).filter (fun t=> !decide (t.2=0))=(acc.take j).filter (fun t=> !decide (t.2=0))++(if acc[j].2=0 then[]else[acc[j]]):=by
    rw[aqK,aqT,h1,Option.toList_some]
    by_cases bc:acc[j].2=0<;>simp[bc]
   have J7:∀(x y z:U),[x,y,z].getD 0 .undef=x/\[x,y,z].getD 1 .undef=y/\[x,y,z].getD 2 .undef=z:=fun _ _ _=>⟨rfl,rfl,rfl⟩
   simp only[mI,nV,q1,jv,rY.1,dE,(J7 _ _ _).1,(J7 _ _ _).2.1,(J7 _ _ _).2.2,U.toBool,U.bX,mc];refine⟨by omega,bp,trivial,trivial,pT rY.2,trivial,rfl,rfl,⟨ay.num.cx (by decide),ay.den.cx (by decide)⟩, ?_⟩;rintro _ rfl
   have hlen:(bB ((acc.take j).filter fun t=> !decide (t.2=0))).length<=1000000000:=by
    rw[ff];have:=List.length_filter_le (fun t:ba=> !decide (t.2=0)) (acc.take j);rw[apf]at this;omega
   refine⟨fun b1=>⟨trivial,trivial,pT rY.2,trivial,rfl,rfl, ?_,⟨j+1,rfl,by omega,trivial,trivial, ?_⟩,by omega⟩,fun b1=>⟨⟨j+1,rfl,by omega,trivial,trivial, ?_⟩,by omega⟩⟩
   ·rw[apL];omega
   ·have bc:acc[j].2≠0:=by simpa[wI]using b1
    rw[x3,aoA bc,q2];rfl
   ·have bc:acc[j].2=0:=by simpa[wI]using b1
    rw[x3,aoB bc,aqc]
  ·have aK:j=acc.length:=by omega
   subst aK;rw[ap2];refine⟨⟨fun r ao=> ?_, ?_⟩,fun o aH=> ?_⟩
   ·obtain⟨t,au,rfl⟩:=aoO.1 ao;exact(kY t (apW.1 au).1).row
   ·rw[ff];have:=List.length_filter_le (fun t:ba=> !decide (t.2=0)) acc;omega
   ·rw[O2 c6 fO.end fO.2.1 rfl aH];exact ae
end ab
end
section
namespace ab
open Go Go.aj
def dt:List Int:=[0,0,0,0,0,0,0,0]
def gZ (k:Nat)(r:Row):Prop:=∃(m:List Int) (s:Bool) (a b:List Int),r=ez m s a b/\m.length=8/\bS k a/\bS k b
def dz (k:Nat)(p:List ba):Prop:=∀t∈p,dd k t.2
def Raw (K n:Nat)(l:Rows):Prop:=∃k c:Nat,1<=k/\(∀r∈l,gZ k r)/\(∀m,gm m l<=c)/\c*(k+1)<=K/\k<=K/\l.length<=n
def da (e:Int)(p:List ba):Prop:=∀t∈p,t.1.length=8/\∀x∈t.1,0<=x/\x<=e
def nJ (v:Nat):Int->List ba->Int
 |d,[]=>d
 |d,t::p=>nJ v (if t.1.getD v 0>d then t.1.getD v 0 else d) p
def mJ (p:List ba)(v:Nat):Int:=nJ v (-1) p
def jI:Int->List ba->Int
 |d,[]=>d
 |d,t::p=>jI (if lH (t.1.getD 0 0) (t.1.drop 1)>d then lH (t.1.getD 0 0) (t.1.drop 1)else d) p
def tB (m:List Int):Bool:=m.all fun x=>decide (0<=x)&&decide (x<=1024)
def hM (l:Rows):Bool:=l.all fun r=>tB (ek r)
def u3 (v:Nat)(p:List ba):List ba:=(p.filter fun t=>decide (0<t.1.getD v 0)).map fun t=>(t.1.set v (t.1.getD v 0-1),t.2*((t.1.getD v 0:Int):Rat))
def oA (n:Int)(p q:List ba)(v:Nat):Bool:=decide (1024<n*max (mJ p v) 0+max (mJ q v) 0)
def hi (n:Int)(p q:List ba):Bool:=oA n p q 0||oA n p q 1||oA n p q 2||oA n p q 3||oA n p q 4||oA n p q 5||oA n p q 6||oA n p q 7
def ec (p q:Rows):Bool:=hM p&&hM q
def cx (l:Rows):Prop:=dh l/\l.length<1000000000
def anv.T:=bj fun|[.agg [.d (.bool s), .d (.af .u32 a), .d (.af .u32 b)]]=>some (bS 400000 a/\bS 400000 b, .d (.av 11 (bB (nrm [(dt,bd s a b)]))))|_=>none
def anJ.T:=bj fun|[.d (.int .i64 n)]=>some (i64 n, .d (.av 11 (bB (nrm [(dt,(n:Rat))]))))|_=>none
def Ec.T:=bj fun|[.d (.av an p), .d (.av hd q)]=>(match Nat.beq an 11,Nat.beq hd 11 with|true,true=>some (jC (p++q), .d (.av 11 (bB (nrm (p.map aN++q.map aN)))))|_,_=>none)|_=>none
def CZ.T:=bj fun
 |[.d (.av an p), .agg [.d (.bool s), .d (.af .u32 a), .d (.af .u32 b)]]=>(match Nat.beq an 11 with
  |true=>some (∃k c j,1<=k/\1<=j/\(∀r∈p,fm k r)/\(∀m,gm m p<=c)/\bS j a/\bS j b/\c*(2*(k+j)+2)<=900000/\k+j<=900000/\p.length<=1000000000, .d (.av 11 (bB (nrm (eM (bd s a b) (p.map aN))))))
  |false=>none)
 |_=>none
def Ed.T:=bj fun|[.d (.av an p)]=>(match Nat.beq an 11 with|true=>some (∃k c,1<=k/\(∀r∈p,fm k r)/\(∀m,gm m p<=c)/\c*(2*(k+1)+2)<=900000/\k+1<=900000/\p.length<=1000000000, .d (.av 11 (bB (nrm (eM (-1) (p.map aN))))))|false=>none)|_=>none
def Ee.T:=bj fun
 |[.d (.av an p), .d (.av hd q)]=>(match Nat.beq an 11,Nat.beq hd 11 with
  |true,true=>some (∃k c j d,1<=k/\1<=j/\(∀r∈p,fm k r)/\(∀r∈q,fm j r)/\(∀m,gm m p<=c)/\(∀m,gm m q<=d)/\1<=d/\(c+1)*(2*(k+d*(j+2))+2)<=900000/\p.length+q.length<=1000000000, .d (.av 11 (bB (nrm (p.map aN++eM (-1) (q.map aN))))))
  |_,_=>none)
 |_=>none
def u4 (p q:Rows):Prop:=(∀r∈p,da 2000000000000000000 [aN r]/\eO r)/\(∀r∈q,da 2000000000000000000 [aN r]/\eO r)/\
 ∃k j c,1<=k/\1<=j/\(∀r∈p,gZ k r)/\(∀r∈q,gZ j r)/\(p.length<=c/\(∀m,gm m q<=1)\/q.length<=c/\∀m,gm m p<=1)/\c*(2*(k+j)+2)<=900000/\k+j<=900000/\
  p.length*q.length<=1000000000/\p.length<=1000000000/\q.length<=1000000000
def Ef.T:=bj fun
 |[.d (.av an p), .d (.av hd q)]=>(match Nat.beq an 11,Nat.beq hd 11 with
  |true,true=>some (u4 p q, .d (.av 11 (bB (nrm (c3 (p.map aN) (q.map aN))))))
  |_,_=>none)
 |_=>none
def Eg.T:=bj fun|[.d (.av an p), .d (.int .i64 v)]=>(match Nat.beq an 11 with|true=>some (cx p/\0<=v/\v<8, .d (.int .i64 (mJ (p.map aN) v.toNat)))|false=>none)|_=>none
def Eh.T:=bj fun|[.d (.av an p)]=>(match Nat.beq an 11 with|true=>some (cx p, .d (.int .i64 (jI 0 (p.map aN))))|false=>none)|_=>none
def anK.T:=bj fun
 |[.d (.av an p), .d (.int .i64 v)]=>(match Nat.beq an 11 with
  |true=>some ((0<=v/\v<8)/\da 1000000000 (p.map aN)/\∃k c,1<=k/\(∀r∈p,fm k r)/\(∀m,gm m p<=c)/\c*(2*(k+1)+2)<=900000/\k+1<=900000/\p.length<=1000000000, .d (.av 11 (bB (nrm (u3 v.toNat (p.map aN))))))
  |false=>none)
 |_=>none
def w7.T:=bj fun|[.d (.av an p)]=>(match Nat.beq an 11 with|true=>some (cx p, .d (.bool (hM p)))|false=>none)|_=>none
def Cr.T:=bj fun|[.d (.av an p)]=>(match Nat.beq an 11 with|true=>some (cx p, .tup [.d (.av 11 (if jI 0 (p.map aN)>1024 then[]else p)), .d (.int .i64 (if jI 0 (p.map aN)>1024 then 9 else 0))])|false=>none)|_=>none
def anw.T:=bj fun|[.d (.av an p)]=>(match Nat.beq an 11 with|true=>some (cx p/\Raw 400000 1000000000 p, .tup [.d (.av 11 (bB (if hM p then nrm (p.map aN)else[]))), .d (.int .i64 (if hM p then 0 else 2))])|false=>none)|_=>none
def nz:Rat:=1
def Ei.T:=bj fun|[.d (.int .i64 v)]=>some (True, .tup [.d (.av 11 (bB (if 0<=v/\v<8 then[(dt.set v.toNat 1,nz)]else[]))), .d (.int .i64 (if 0<=v/\v<8 then 0 else 1))])|_=>none
def o0 (p q:Rows):Prop:=(cx p/\cx q)/\∃K J n m,Raw K n p/\Raw J m q/\4*(K+J)+20<=900000/\n+m<=999999999
def Ej.T:=bj fun
 |[.d (.av an p), .d (.av hd q)]=>(match Nat.beq an 11,Nat.beq hd 11 with
  |true,true=>some (o0 p q, .tup [.d (.av 11 (bB (if ec p q=true then nrm (p.map aN++q.map aN)else[]))), .d (.int .i64 (if ec p q=true then 0 else 2))])
  |_,_=>none)
 |_=>none
def Ek.T:=bj fun
 |[.d (.av an p), .d (.av hd q)]=>(match Nat.beq an 11,Nat.beq hd 11 with
  |true,true=>some (o0 p q, .tup [.d (.av 11 (bB (if ec p q=true then nrm (p.map aN++eM (-1) (q.map aN))else[]))), .d (.int .i64 (if ec p q=true then 0 else 2))])
  |_,_=>none)
 |_=>none
def zz.T (g:Nat):=bj fun
 |[.d (.av an p), .d (.av hd q), .fn f]=>(match Nat.beq an 11,Nat.beq hd 11,Nat.beq f g with
  |true,true,true=>some (o0 p q, .tup [.d (.av 11 (bB (if ec p q=true then nrm (p.map aN++q.map aN)else[]))), .d (.int .i64 (if ec p q=true then 0 else 2))])
  |_,_,_=>none)
 |_=>none
def zA.T (g:Nat):=bj fun
 |[.d (.av an p), .d (.av hd q), .fn f]=>(match Nat.beq an 11,Nat.beq hd 11,Nat.beq f g with
  |true,true,true=>some (o0 p q, .tup [.d (.av 11 (bB (if ec p q=true then nrm (p.map aN++eM (-1) (q.map aN))else[]))), .d (.int .i64 (if ec p q=true then 0 else 2))])
  |_,_,_=>none)
 |_=>none
def xu (l:Rows):Prop:=∀r∈l,∀x∈ek r,-1000000000000<=x/\x<=1000000000000
def El.T:=bj fun
 |[.d (.av an p), .d (.int .i64 n), .d (.av hd q)]=>(match Nat.beq an 11,Nat.beq hd 11 with
  |true,true=>some ((cx p/\cx q)/\(xu p/\xu q)/\0<=n/\n<=1000, .d (.bool (hi n (p.map aN) (q.map aN))))
  |_,_=>none)
 |_=>none
def lW (p q:List ba):Bool:= !decide (p=[])&& !decide (q=[])&&hi 1 p q
def xg (p q:Rows):Prop:=(cx p/\cx q)/\∃K J n m,Raw K n p/\Raw J m q/\(n*(2*(K+J)+2)<=900000\/m*(2*(K+J)+2)<=900000)/\n*m<=999999999/\K<=400000/\J<=400000
def o7 (p q:Rows):Bool:=ec p q&& !lW (nrm (p.map aN)) (nrm (q.map aN))
def Em.T:=bj fun
 |[.d (.av an p), .d (.av hd q)]=>(match Nat.beq an 11,Nat.beq hd 11 with
  |true,true=>some (xg p q, .tup [.d (.av 11 (bB (if o7 p q=true then nrm (c3 (p.map aN) (q.map aN))else[]))), .d (.int .i64 (if ec p q=true then(if lW (nrm (p.map aN)) (nrm (q.map aN))then 9 else 0)else 2))])
  |_,_=>none)
 |_=>none
def s9 (p:Rows)(v:Int):Int:=if hM p then(if 0<=v/\v<8 then 0 else 1)else 2
def anx.T:=bj fun
 |[.d (.av an p), .d (.int .i64 v)]=>(match Nat.beq an 11 with
  |true=>some (cx p/\Raw 400000 1000000000 p, .tup [.d (.av 11 (bB (if s9 p v=0 then nrm (p.map aN)else[]))), .d (.int .i64 (s9 p v))])
  |false=>none)
 |_=>none
def anL.T:=bj fun
 |[.d (.av an p), .d (.int .i64 v)]=>(match Nat.beq an 11 with
  |true=>some (cx p/\Raw 400000 1000000000 p, .tup [.d (.int .i64 (if s9 p v=0 then mJ (nrm (p.map aN)) v.toNat else 0)), .d (.int .i64 (s9 p v))])
  |false=>none)
 |_=>none
def anM.T:=bj fun
 |[.d (.av an p), .d (.int .i64 v)]=>(match Nat.beq an 11 with
  |true=>some (cx p/\Raw 400000 1000000000 p, .tup [.d (.av 11 (bB (if s9 p v=0 then nrm (u3 v.toNat (p.map aN))else[]))), .d (.int .i64 (s9 p v))])
  |false=>none)
 |_=>none
def i_ (r:Row):List Int×Bool×List Int×List Int:=(ek r,(r.getD 8 .undef).toBool,(r.getD 9 .undef).bX,(r.getD 10 .undef).bX)
def DJ.T:=bj fun
 |[.d (.av an p), .d (.av hd q)]=>(match Nat.beq an 11,Nat.beq hd 11 with
  |true,true=>some ((∀r∈p,gZ 1000000 r)/\(∀r∈q,gZ 1000000 r)/\p.length<1000000000/\q.length<1000000000, .d (.bool (decide (p.map i_=q.map i_))))
  |_,_=>none)
 |_=>none
end ab
end
section
namespace ab
open Go Go.aj
abbrev gR:Row:=[.int .i64 2, .int .i64 0, .int .i64 0, .int .i64 0, .int .i64 0, .int .i64 0, .int .i64 0, .int .i64 0, .bool false, .af .u32 [1], .af .u32 [1]]
abbrev gS:Row:=[.int .i64 0, .int .i64 2, .int .i64 0, .int .i64 0, .int .i64 0, .int .i64 0, .int .i64 0, .int .i64 0, .bool true, .af .u32 [1], .af .u32 [1]]
abbrev qf:Rows:=[gR,gS]
abbrev zX:Rows:=[[.str [112]],[.str [113]]]
def y7.T:=bj fun|[.d (.av an p)]=>(match Nat.beq an 11 with|true=>some (p=qf, .d (.bool true))|false=>none)|_=>none
def yU.T:=bj fun|[.d (.av an p)]=>(match Nat.beq an 11 with|true=>some (p=qf, .d (.av 11 qf))|false=>none)|_=>none
def zn.T:=bj fun|[.agg [.d (.bool s), .d (.af .u32 a), .d (.af .u32 b)]]=>some (a=[1]/\b=[1], .d (.int .i64 (match s with|true=>-1|false=>1)))|_=>none
def zB.T:=bj fun|[.d (.int .i64 n)]=>some (n=1, .agg [.d (.bool false), .d (.af .u32 [1]), .d (.af .u32 [1])])|_=>none
def y8.T:=bj fun|[.agg [.d (.bool s), .d (.af .u32 a), .d (.af .u32 b)], .agg [.d (.bool t), .d (.af .u32 c), .d (.af .u32 d)]]=>some ((s=false/\t=false)/\a=[1]/\b=[1]/\c=[1]/\d=[1], .d (.bool true))|_=>none
def rj.T:=bj fun|[.d (.int .i64 n)]=>some (n=2, .d (.str [50]))|_=>none
def yV.T:=bj fun|[.d (.int .i64 n), .d (.int .i64 b)]=>some (n=2/\b=10, .d (.str [50]))|_=>none
def zo.T:=bj fun|[.d (.av an l), .d (.str A0)]=>(match Nat.beq an 1,l with|true,[[.str x]]=>some (True, .d (.str x))|_,_=>none)|_=>none
def yW.T:=bj fun
 |[.d (.av an p), .d (.av hd n)]=>(match Nat.beq an 11,Nat.beq hd 1 with
  |true,true=>some (p=qf/\n=zX, .tup [.d (.str [112,94,50,32,45,32,113,94,50]), .d (.int .i64 0)])
  |_,_=>none)
 |_=>none
end ab
end
section
namespace ab
open Go Go.aj
def ya:List Int:=[0,0,1,1,2]
def mm (l:List Int)(a:Int):Nat->List Int×Int
 |0=>(dt,a)
 |k+1=>((mm l a k).1.set k (mX l (mm l a k).2 ya),c5 l (mm l a k).2 5)
def oC (l:List Int)(a:Int):Bool:=decide (fu l (kS l a) 8=7)
def qu (l:List Int)(a:Int):Int:=if oC l a then w5 l (c5 l (kS l a) 8)else c5 l (kS l a) 8
def zC (l:List Int)(a:Int)(v:Nat):Row:=
 ez (mm l (qu l a) v).1 (if oC l a then w4 l (c5 l (kS l a) 8)else cj (iH l a)) (if oC l a then sN l (c5 l (kS l a) 8)else cm (iH l a)) (if oC l a then sO l (c5 l (kS l a) 8)else cc (iH l a))
def T8 (l:List Int)(a:Int)(v:Nat):Int:=(mm l (qu l a) v).2
def oX (l:List Int)(a:Int)(v:Nat):Nat->Rows×Int
 |0=>([],a)
 |k+1=>((oX l a v k).1++[zC l (oX l a v k).2 v],T8 l (oX l a v k).2 v)
def kP (l:List Int)(a:Int)(v n:Int):Rows×Int:=oX l (c5 l a (n+1)) v.toNat (fu l a (n+1)).toNat
def C0.T:=fq fun
 | .ptr z o, .cells [.d (.af .i64 l), .d (.int .i64 a), .d (.int .i64 s)],[.d (.int .i64 v), .d (.int .i64 n)]=>(match Nat.beq z 0,Nat.beq o 0 with
  |true,true=>some (dI l a/\(0<=v/\v<=8)/\0<=n/\n<=1000, .cells [.d (.af .i64 l), .d (.int .i64 (kP l a v n).2), .d (.int .i64 s)], .d (.av 11 (kP l a v n).1))
  |_,_=>none)
 |_,_,_=>none
end ab
end
section
open Go Go.aj
namespace ab
theorem gZ.mono {k j:Nat}{r:Row}(h:gZ k r)(ae:k<=j):gZ j r:=by
 obtain⟨m,s,a,b,rfl,hm,aa,ad⟩:=h;exact⟨m,s,a,b,rfl,hm,aa.mono ae,ad.mono ae⟩
theorem gZ.row {k:Nat}{r:Row}(h:gZ k r):eO r:=by
 obtain⟨m,s,a,b,rfl,hm,_⟩:=h
 match m,hm with
 |[oI,fS,gi,iy,jL,jM,oJ,r6],_=>exact⟨oI,fS,gi,iy,jL,jM,oJ,r6,s,a,b,rfl⟩
theorem gZ.len {k:Nat}{r:Row}(h:gZ k r):(aN r).1.length=8:=by
 obtain⟨m,s,a,b,rfl,hm,_⟩:=h;rw[mY hm];exact hm
theorem gZ.T9 {k:Nat}{r:Row}(h:gZ k r)(hm:l5 (aN r).1):fm k r:=by
 obtain⟨m,s,a,b,rfl,c6,aa,ad⟩:=h;rw[mY c6]at hm;exact⟨m,s,a,b,rfl,c6,hm.2,aa,ad⟩
theorem fm.FA {k:Nat}{r:Row}(h:fm k r):gZ k r:=by
 obtain⟨m,s,a,b,rfl,c6,_,aa,ad⟩:=h;exact⟨m,s,a,b,rfl,c6,aa,ad⟩
theorem fm.nk {k:Nat}{r:Row}(h:fm k r):l5 (aN r).1:=by
 obtain⟨m,s,a,b,rfl,c6,bc,aa,ad⟩:=h;show l5 (aN (ez m s a b)).1;rw[mY c6];exact⟨c6,bc⟩
theorem oQ:∀{p:List ba} {t:ba},t∈nrm p->∃u∈p,u.1=t.1
 |[],t,h=>by cases h
 |x::p,t,h=>by
  rcases H0 h with h|⟨v,aM,e⟩
  ·exact⟨x,by simp,h.symm⟩
  ·obtain⟨u,hu,aG⟩:=oQ aM;exact⟨u,by simp[hu],by rw[aG,e]⟩
theorem Q4 (t:ba):∀p:List ba,(ins t p).length<=p.length+1
 |[]=>by unfold ab.ins;split<;>simp
 |u::p=>by
  have bM:=Q4 t p;unfold ab.ins;split
  ·split
   ·rw[apj];omega
   ·rw[apj,apj];omega
  ·split
   ·split
    ·omega
    ·rw[apj];omega
   ·rw[apj,apj];omega
theorem uB:∀p:List ba,(nrm p).length<=p.length
 |[]=>aoH _
 |t::p=>by
  have:=Q4 t (nrm p);have:=uB p;rw[nrm,apj];omega
def eB (m:List Int):List ba->Nat
 |[]=>0
 |t::p=>(if t.1=m then 1 else 0)+eB m p
theorem sF (m:List Int):∀l:Rows,gm m l=eB m (l.map aN)
 |[]=>rfl
 |r::l=>by rw[gm,ape,eB,sF m l];rfl
theorem wL (m:List Int):∀a b:List ba,eB m (a++b)=eB m a+eB m b
 |[],b=>by rw[List.nil_append,eB,ao8]
 |r::a,b=>by rw[ap0,eB,eB,wL m a b,apA]
theorem Hm {m:List Int}:∀{p:List ba},(∀t∈p,t.1≠m)->eB m p=0
 |[],_=>rfl
 |t::p,h=>by rw[eB,aoA (h t (by simp)),Hm fun u hu=>h u (by simp[hu])]
theorem H5 (m:List Int):∀p:List ba,eB m p<=p.length
 |[]=>aoH _
 |t::p=>by have:=H5 m p;rw[eB,apj];split<;>omega
theorem Q5 {m:List Int}:∀{p:List ba},p.Pairwise (fun t u=>t.1≠u.1)->eB m p<=1
 |[],_=>apR _
 |t::p,h=>by
  obtain⟨aa,ad⟩:=apT.1 h;rw[eB];split
  ·rename_i e;rw[Hm fun u hu=>e▸(aa u hu).symm];exact aoH _
  ·have:=Q5 (m:=m) ad;omega
theorem fw.kv {p:List ba}(h:fw p)(m:List Int):eB m p<=1:=Q5 (h.1.imp fun g=>xf g)
theorem Ob {m:List Int}:∀{p q:List ba},p.map Prod.fst=q.map Prod.fst->eB m p=eB m q
 |[],[],_=>rfl
 |[],_::_,h=>by simp at h
 |_::_,[],h=>by simp at h
 |t::p,u::q,h=>by
  simp only[ape,aqn]at h;rw[eB,eB,h.1,Ob h.2]
theorem BN (m:List Int)(c:Rat)(p:List ba):eB m (eM c p)=eB m p:=Ob (by rw[eM,ap5];rfl)
theorem RS {k:Nat}:∀{p:List ba},dz k p->∀t∈nrm p,dd (eB t.1 p*(k+1)) t.2
 |[],_,t,h=>by cases h
 |x::p,h,t,au=>by
  have bM:=RS (p:=p) fun u hu=>h u (by simp[hu]);have ak:=h x (by simp)
  have key:∀{q:List ba},(∀t∈q,dd (eB t.1 p*(k+1)) t.2)->∀t∈ins x q,dd (eB t.1 (x::p)*(k+1)) t.2:=by
   intro q
   have up:∀{u:ba},dd (eB u.1 p*(k+1)) u.2->dd (eB u.1 (x::p)*(k+1)) u.2:=fun{u} hu=>hu.mono (aoR _ (by rw[eB];omega))
   have I:dd (eB x.1 (x::p)*(k+1)) x.2:=ak.mono (by rw[eB,aoB rfl,aoX];omega)
   induction q with
   |nil=>
    intro _ t au;unfold ab.ins at au;split at au
    ·cases au
    ·rw[apr.1 au];exact I
   |cons u q F4=>
    intro aZ t au;have hu:=aZ u (by simp)
    have th:∀t∈q,dd (eB t.1 p*(k+1)) t.2:=fun t au=>aZ t (by simp[au])
    unfold ab.ins at au;split at au
    ·rename_i e;split at au
     ·exact up (th t au)
     ·rcases aoW.1 au with rfl|au
      ·refine(hu.add ak).mono ?_;show _<=eB u.1 (x::p)*(k+1);rw[eB,aoB e,aoX,apX];omega
      ·exact up (th t au)
    ·split at au
     ·split at au
      ·exact up (aZ t au)
      ·rcases aoW.1 au with rfl|au
       ·exact I
       ·exact up (aZ t au)
     ·rcases aoW.1 au with rfl|au
      ·exact up hu
      ·exact F4 th t au
  exact key bM t au
theorem dz.mono {k j:Nat}{p:List ba}(h:dz k p)(ae:k<=j):dz j p:=fun t au=>(h t au).mono ae
theorem dz.app {k:Nat}{p q:List ba}(h:dz k p)(g:dz k q):dz k (p++q):=fun t au=>(apM.1 au).elim (h t) (g t)
theorem dz.nrm {k c:Nat}{p:List ba}(h:dz k p)(aC:∀m,eB m p<=c):dz (c*(k+1)) (nrm p):=fun t au=>(RS h t au).mono (aoR _ (aC _))
theorem dz.scale {k j:Nat}{c:Rat}(aC:dd j c)(aK:1<=j){p:List ba}(h:dz k p):dz (k+j) (eM c p):=fun t au=>by
 obtain⟨u,hu,rfl⟩:=aoO.1 au;exact(h u hu).mul aC (by omega)
theorem dz.mul {k j:Nat}(ae:1<=k):∀{p q:List ba},dz k p->dz j q->dz (k+j) (c3 p q)
 |[],_,_,_=>fun t au=>by cases au
 |s::p,q,h,g=>fun t au=>by
  rcases apM.1 au with au|au
  ·obtain⟨u,hu,rfl⟩:=aoO.1 au;exact(h s (by simp)).mul (g u hu) (by omega)
  ·exact dz.mul ae (fun u hu=>h u (by simp[hu])) g t au
theorem gZ.rs {k:Nat}{r:Row}(h:gZ k r)(ae:1<=k):dd k (aN r).2:=by
 obtain⟨m,s,a,b,rfl,hm,aa,ad⟩:=h;rw[mY hm];exact dd.of aa ad ae
theorem y9 {k:Nat}{l:Rows}(h:∀r∈l,gZ k r)(ae:1<=k):dz k (l.map aN):=fun t au=>by
 obtain⟨r,ao,rfl⟩:=aoO.1 au;exact(h r ao).rs ae
theorem aco {k:Nat}{t:ba}(c6:t.1.length=8)(h:dd k t.2):gZ k (hS t):=⟨_,_,_,_,rfl,c6,h.num,h.den⟩
theorem n2 {k:Nat}{p:List ba}(h:dz k p)(c6:∀t∈p,t.1.length=8):∀r∈bB p,gZ k r:=fun r ao=>by
 obtain⟨t,au,rfl⟩:=aoO.1 ao;exact aco (c6 t au) (h t au)
theorem pM {p:List ba}(c6:∀t∈p,t.1.length=8)(m:List Int):gm m (bB p)=eB m p:=by rw[sF,fp c6]
theorem Raw.mono {K J n m:Nat}{l:Rows}(h:Raw K n l)(fF:K<=J)(aB:n<=m):Raw J m l:=by
 obtain⟨k,c,aa,ad,ax,aV,bp,b1⟩:=h;exact⟨k,c,aa,ad,ax,by omega,by omega,by omega⟩
theorem Raw.av {K n:Nat}{l:Rows}(h:Raw K n l):∀r∈l,gZ K r:=fun r ao=>by
 obtain⟨k,c,aa,ad,ax,aV,bp,b1⟩:=h;exact(ad r ao).mono bp
theorem Raw.len {K n:Nat}{l:Rows}(h:Raw K n l):l.length<=n:=by obtain⟨k,c,aa,ad,ax,aV,bp,b1⟩:=h;exact b1
theorem Raw.gq {K n:Nat}{l:Rows}(h:Raw K n l):dz K (nrm (l.map aN)):=by
 obtain⟨k,c,aa,ad,ax,aV,bp,b1⟩:=h;exact((y9 ad aa).nrm fun m=>by rw[<-sF];exact ax m).mono aV
theorem yX {p:List ba}{n:Nat}(h:p.length<=n):(nrm p).length<=n:=aoV (uB p) h
theorem Raw.km {K n:Nat}{l:Rows}(h:Raw K n l):(nrm (l.map aN)).length<=n:=yX (by rw[aoK];exact h.len)
theorem acp {k n:Nat}{p:List ba}(h:dz k p)(ae:1<=k)(c6:∀t∈p,t.1.length=8)(aC:∀m,eB m p<=1)(aB:p.length<=n):Raw (k+1) n (bB p):=
 ⟨k,1,ae,n2 h c6,fun m=>by rw[pM c6];exact aC m,by omega,by omega,by rw[ff];exact aB⟩
theorem H6 {k n:Nat}{l:Rows}(h:∀r∈l,gZ k r)(ae:1<=k)(aB:l.length<=n)(aa:1<=n):Raw (n*(k+1)) n l:=
 ⟨k,n,ae,h,fun m=>by rw[sF];exact aoV (H5 m _) (by rw[aoK];exact aB),aoH _,by have:=aoR (k+1) aa;omega,aB⟩
theorem X9 {c k:Nat}(K:Nat)(h:c*(k+1)<=K):c*(2*k+2)<=2*K:=by
 rw[show 2*k+2=2*(k+1) by omega,apF];omega
theorem HK:∀{a b c:List Int},b.length=a.length->c.length=a.length->ds a b=ds a c->b=c
 |[],[],[],_,_,_=>rfl
 |a::p,b::q,c::r,aa,ad,h=>by
  simp only[ds,aqn]at h;rw[show b=c by omega,HK (by simpa using aa) (by simpa using ad) h.2]
 |[],_::_,_,h,_,_=>by simp at h
 |[],[],_::_,_,h,_=>by simp at h
 |_::_,[],_,h,_,_=>by simp at h
 |_::_,_::_,[],_,h,_=>by simp at h
theorem aaT {s:ba}(ay:s.1.length=8)(m:List Int):∀{q:List ba},(∀t∈q,t.1.length=8)->(∀x,eB x q<=1)->eB m (gX s q)<=1:=fun{q} c6 aZ=>by
 by_cases ak:∃u∈q,ds s.1 u.1=m
 ·obtain⟨u,hu,e⟩:=ak
  have key:∀{q:List ba},(∀t∈q,t.1.length=8)->eB m (gX s q)<=eB u.1 q:=by
   intro q
   induction q with
   |nil=>intro _;exact aoH _
   |cons t q bM=>
    intro h;show(if ds s.1 t.1=m then 1 else 0)+eB m (gX s q)<=(if t.1=u.1 then 1 else 0)+eB u.1 q;have:=bM fun v aM=>h v (by simp[aM]);split
    ·rename_i aG;rw[aoB (HK (by rw[h t (by simp),ay]) (by rw[c6 u hu,ay]) (aG.trans e.symm))];omega
    ·omega
  exact aoV (key c6) (aZ _)
 ·rw[Hm fun t au=>by
   obtain⟨u,hu,rfl⟩:=aoO.1 au
   exact fun e=>ak ⟨u,hu,e⟩]
  exact apR _
theorem yG (m:List Int){q:List ba}(c6:∀t∈q,t.1.length=8)(aZ:∀x,eB x q<=1):∀{p:List ba},(∀t∈p,t.1.length=8)->eB m (c3 p q)<=p.length
 |[],_=>apR _
 |s::p,h=>by
  have aa:=aaT (h s (by simp)) m c6 aZ;have ad:=yG m c6 aZ (p:=p) fun t au=>h t (by simp[au]);rw[c3,wL,apj];omega
def lI (p:List ba):List ba:=p.map fun t=>(t.1,1)
theorem Hn (m:List Int):∀p:List ba,((eB m p:Nat):Rat)=cG (lI p) m
 |[]=>rfl
 |t::p=>by
  show(((if t.1=m then 1 else 0)+eB m p:Nat):Rat)=(if t.1=m then 1 else 0)+cG (lI p) m;rw[<-Hn m p];split
  ·grind
  ·grind
theorem Ho (q:List ba):∀p:List ba,lI (c3 p q)=c3 (lI p) (lI q)
 |[]=>rfl
 |s::p=>by
  have e:lI (gX s q)=gX (s.1,1) (lI q):=by
   rw[lI,lI,gX,gX,ap5,ap5];refine aqO fun t _=> ?_;show(ds s.1 t.1,(1:Rat))=(ds s.1 t.1,1*1);rw[Rat.mul_one]
  have aG:lI (gX s q++c3 p q)=lI (gX s q)++lI (c3 p q):=apn;show lI (gX s q++c3 p q)=gX (s.1,1) (lI q)++c3 (lI p) (lI q);rw[aG,e,Ho q p]
theorem aaU (p q:List ba)(m:List Int):eB m (c3 p q)=eB m (c3 q p):=by
 have h:((eB m (c3 p q):Nat):Rat)=((eB m (c3 q p):Nat):Rat):=by rw[Hn,Hn,Ho,Ho,aaH]
 exact Rat.natCast_inj.1 h
theorem Zj (m:List Int){p q:List ba}(c6:∀t∈p,t.1.length=8)(aD:∀x,eB x p<=1)(g8:∀t∈q,t.1.length=8):eB m (c3 p q)<=q.length:=by
 rw[aaU];exact yG m c6 aD g8
theorem da.mono {e f:Int}{p:List ba}(h:da e p)(aT:e<=f):da f p:=fun t au=>⟨(h t au).1,fun x ak=>⟨((h t au).2 x ak).1,ap3 ((h t au).2 x ak).2 aT⟩⟩
theorem da.nk {e:Int}{p:List ba}(h:da e p)(he:e<=4000000000000000000):∀t∈p,l5 t.1:=fun t au=>⟨(h t au).1,fun x ak=>by have:=(h t au).2 x ak;omega⟩
theorem da.len {e:Int}{p:List ba}(h:da e p):∀t∈p,t.1.length=8:=fun t au=>(h t au).1
theorem da.app {e:Int}{p q:List ba}(h:da e p)(g:da e q):da e (p++q):=fun t au=>by
 rcases apM.1 au with au|au
 ·exact h t au
 ·exact g t au
theorem da.sub {e:Int}{p q:List ba}(h:da e p)(aZ:∀t∈q,∃u∈p,u.1=t.1):da e q:=fun t au=>by
 obtain⟨u,hu,e⟩:=aZ t au;rw[<-e];exact h u hu
theorem da.nrm {e:Int}{p:List ba}(h:da e p):da e (nrm p):=h.sub fun _=>oQ
theorem da.scale {e:Int}{p:List ba}(h:da e p)(c:Rat):da e (eM c p):=h.sub fun t au=>by
 obtain⟨u,hu,rfl⟩:=aoO.1 au;exact⟨u,hu,rfl⟩
theorem Cs:∀{a b:List Int} {x:Int},x∈ds a b->∃y∈a,∃z∈b,x=y+z
 |a::p,b::q,x,h=>by
  rcases aoW.1 h with rfl|h
  ·exact⟨a,by simp,b,by simp,rfl⟩
  ·obtain⟨y,bn,z,bm,e⟩:=Cs h;exact⟨y,by simp[bn],z,by simp[bm],e⟩
 |[],_,x,h=>by simp[ds]at h
 |_::_,[],x,h=>by simp[ds]at h
theorem uq:∀{p q:List ba} {t:ba},t∈c3 p q->∃u∈p,∃v∈q,t=(ds u.1 v.1,u.2*v.2)
 |[],_,t,h=>by cases h
 |s::p,q,t,h=>by
  rcases apM.1 h with h|h
  ·obtain⟨v,aM,rfl⟩:=aoO.1 h;exact⟨s,by simp,v,aM,rfl⟩
  ·obtain⟨u,hu,v,aM,e⟩:=uq h;exact⟨u,by simp[hu],v,aM,e⟩
theorem da.mul {e f:Int}{p q:List ba}(h:da e p)(g:da f q):da (e+f) (c3 p q):=fun t au=>by
 obtain⟨u,hu,v,aM,rfl⟩:=uq au;refine⟨by rw[wK _ _ (by rw[(h u hu).1,(g v aM).1])];exact(h u hu).1,fun x ak=> ?_⟩;obtain⟨y,bn,z,bm,rfl⟩:=Cs ak;have:=(h u hu).2 y bn;have:=(g v aM).2 z bm;omega
theorem cx.av {l:Rows}(h:cx l):dh l:=h.1
theorem nr {l:Rows}(h:hM l=true)(ao:dh l):da 1024 (l.map aN):=fun t au=>by
 obtain⟨r,hm,rfl⟩:=aoO.1 au;have aa:=aoU.1 h r hm;unfold tB at aa;refine⟨by simp[aN,ek,(ao r hm).len],fun x ak=> ?_⟩;have:=aoU.1 aa x ak;simpa using this
theorem Ct {k:Nat}{p:List ba}(h:dz k p)(he:∀t∈p,t.1.length=8)(aB:p.length<1000000000):cx (bB p):=
 ⟨fun r ao=>(n2 h he r ao).row,by rw[ff];omega⟩
theorem adO {p:List ba}(h:∀t∈p,l5 t.1):∀r∈bB p,l5 (aN r).1:=fun r ao=>by
 obtain⟨t,au,rfl⟩:=aoO.1 ao;rw[y6 (h t au).1];exact h t au
theorem wM {k:Nat}{p:List ba}(h:dz k p)(he:∀t∈p,l5 t.1):∀r∈bB p,fm k r:=fun r ao=>
 (n2 h (fun t au=>(he t au).1) r ao).T9 (adO he r ao)
theorem yH {k c:Nat}{p:List ba}(h:dz k p)(ae:1<=k)(he:∀t∈p,l5 t.1)(aC:∀m,eB m p<=c)(p_:c*(2*k+2)<=900000)(AI:k<=900000)(aB:p.length<=1000000000):jC (bB p):=
 ⟨k,c,ae,wM h he,fun m=>by rw[pM fun t au=>(he t au).1];exact aC m,p_,AI,by rw[ff];exact aB⟩
theorem aaV (p q:List ba):bB p++bB q=bB (p++q):=(q2 p q).symm
theorem sx {l:Rows}{K n:Nat}(h:hM l=true)(aT:cx l)(hw:Raw K n l)(fF:K<=400000):jC l:=by
 obtain⟨k,c,aa,ad,ax,aV,bp,b1⟩:=hw;refine⟨k,c,aa,fun r ao=>(ad r ao).T9 ((nr h aT.1).nk (by decide) _ (aq4 ao)),ax, ?_,by omega,by have:=aT.2;omega⟩;have:=X9 K aV;omega
theorem H7 (p q:List ba):nrm (nrm p++nrm q)=nrm (p++q):=pK fun m=>by rw[mb,mb,ju,ju]
theorem aaW (p q:List ba):nrm (p++nrm q)=nrm (p++q):=pK fun m=>by rw[mb,mb,ju]
theorem C1 (p q:List ba):nrm (c3 (nrm p) (nrm q))=nrm (c3 p q):=pK (N3 (ju p) (ju q))
end ab
end
section
namespace ab
open Go Go.aj
def Sp (v:Nat)(p:List ba):List (List ba):=(List.range (mJ p v+1).toNat).map fun(i:Nat)=>nrm ((p.filter fun t=>decide (t.1.getD v 0=(i:Int))).map fun t=>(t.1.set v 0,t.2))
def Sq (l:List (List ba)):List (List U):=l.map fun q=>[.av 11 (bB q)]
def anz.T:=bj fun
 |[.d (.av an p), .d (.int .i64 v)]=>(match Nat.beq an 11 with
  |true=>some ((0<=v/\v<8)/\cx p/\da 100000000 (p.map aN)/\jC p, .d (.av 1 (Sq (Sp v.toNat (p.map aN)))))
  |false=>none)
 |_=>none
def F5 (r:Row):Prop:=∃m:List Int,r=c8 m/\m.length=8
def vT (p:Rows):Prop:=∃P:List ba,p=bB P/\fw P/\(∀t∈P,t.1.length=8)/\dz 900000 P/\P.length<1000000000
def Cu.T:=bj fun
 |[.rw m a, .rw n b]=>(match Nat.beq m 8,Nat.beq n 8 with
  |true,true=>some (F5 a/\F5 b, .d (.bool (decide (dT (eI a) (eI b)=1))))
  |_,_=>none)
 |_=>none
def C2.T:=bj fun
 |[.d (.av an p), .rw n t]=>(match Nat.beq an 11,Nat.beq n 11 with
  |true,true=>some (vT p/\gZ 900000 t, .d (.av 11 (bB (ins (aN t) (p.map aN)))))
  |_,_=>none)
 |_=>none
def Cv.T:=bj fun|[.d (.av an p)]=>(match Nat.beq an 11 with|true=>some (Raw 900000 999999999 p, .d (.av 11 (bB (nrm (p.map aN)))))|false=>none)|_=>none
def Eo.T:=bj fun
 |[.d (.av an p), .d (.av hd q)]=>(match Nat.beq an 11,Nat.beq hd 11 with
  |true,true=>some (vT p/\Raw 900000 999999999 (p++q), .d (.av 11 (bB (nrm (p.map aN++q.map aN)))))
  |_,_=>none)
 |_=>none
def aj8 (t:ba)(p:List ba):List ba:=(p.map fun u=>(ds u.1 t.1,u.2*t.2)).filter fun u=> !decide (u.2=0)
def ann.T:=bj fun
 |[.d (.av an p), .rw n t]=>(match Nat.beq an 11,Nat.beq n 11 with
  |true,true=>some ((∀r∈p,fm 400000 r)/\fm 400000 t/\da 1000000000000000000 (p.map aN)/\(∀x∈(aN t).1,-1000000000000000000<=x/\x<=1000000000000000000)/\p.length<1000000000, .d (.av 11 (bB (aj8 (aN t) (p.map aN)))))
  |_,_=>none)
 |_=>none
def anN.T:=bj fun|[.d (.av an p), .d (.int .i64 v)]=>(match Nat.beq an 11 with|true=>some (cx p/\0<=v/\v<8, .d (.int .i64 (mJ (p.map aN) v.toNat)))|false=>none)|_=>none
def C3.T:=bj fun|[.d (.av an p)]=>(match Nat.beq an 11 with|true=>some (cx p, .d (.bool (hM p)))|false=>none)|_=>none
def anO.T:=bj fun|[.d (.int .i64 v)]=>some (True, .tup [.d (.av 11 (bB (if 0<=v/\v<8 then[(dt.set v.toNat 1,nz)]else[]))), .d (.int .i64 (if 0<=v/\v<8 then 0 else 1))])|_=>none
def SZ (p q:Rows):Prop:=∃k j,1<=k/\1<=j/\(∀r∈p,fm k r)/\(∀r∈q,fm j r)/\da 1000000000000000000 (p.map aN)/\da 1000000000000000000 (q.map aN)/\(∀m,eB m (p.map aN)<=1)/\
 (q.length+1)*(k+j+2)<=400000/\p.length*(q.length+1)<1000000000
def anA.T:=bj fun
 |[.d (.av an p), .d (.av hd q)]=>(match Nat.beq an 11,Nat.beq hd 11 with
  |true,true=>some (SZ p q, .d (.av 11 (bB (nrm (c3 (p.map aN) (q.map aN))))))
  |_,_=>none)
 |_=>none
def I7 (p:List ba):Nat->List ba
 |0=>nrm [(dt,1)]
 |n+1=>nrm (c3 (I7 p n) p)
def ano.T:=bj fun|[.d (.av an p), .d (.int .i64 n)]=>(match Nat.beq an 11 with|true=>some (n<=1000/\∀i,i<n.toNat->SZ (bB (I7 (p.map aN) i)) p, .d (.av 11 (bB (I7 (p.map aN) n.toNat))))|false=>none)|_=>none
def agA (p:Rows):Bool:=hM p&&decide (p.map i_=(bB (nrm (p.map aN))).map i_)
def am_.T:=bj fun|[.d (.av an p)]=>(match Nat.beq an 11 with|true=>some (cx p/\Raw 900000 999999999 p, .d (.bool (agA p)))|false=>none)|_=>none
def xV (p q:Rows):Bool:=ec p q&&decide ((bB (nrm (p.map aN))).map i_=(bB (nrm (q.map aN))).map i_)
def C4.T:=bj fun
 |[.d (.av an p), .d (.av hd q)]=>(match Nat.beq an 11,Nat.beq hd 11 with
  |true,true=>some ((cx p/\Raw 900000 999999999 p)/\cx q/\Raw 900000 999999999 q, .d (.bool (xV p q)))
  |_,_=>none)
 |_=>none
def anp.T:=bj fun
 |[.d (.av an p), .d (.int .i64 v)]=>(match Nat.beq an 11 with
  |true=>some (cx p/\Raw 400000 999999999 p, .tup [.d (.av 1 (if s9 p v=0 then Sq (Sp v.toNat (nrm (p.map aN)))else[])), .d (.int .i64 (s9 p v))])
  |false=>none)
 |_=>none
def g_:List Int->List Int->Bool
 |a::x,b::y=>decide (b<=a)&&g_ x y
 |_,_=>true
def hs:List Int->List Int->List Int
 |a::x,b::y=>(a-b)::hs x y
 |_,_=>[]
def qg (m:List Int):Prop:=m.length=8/\∀x∈m,-1000000000000000000<=x/\x<=1000000000000000000
def Cw.T:=bj fun
 |[.rw m a, .rw n b]=>(match Nat.beq m 8,Nat.beq n 8 with
  |true,true=>some ((∃x,a=c8 x/\qg x)/\∃y,b=c8 y/\qg y, .tup [.rw 8 (c8 (if g_ (eI a) (eI b)then hs (eI a) (eI b)else dt)), .d (.bool (g_ (eI a) (eI b)))])
  |_,_=>none)
 |_=>none
def cu (p:List ba):ba:=p.getD 0 (dt,0)
def eC (p q:List ba):ba:=(hs (cu p).1 (cu q).1,(cu p).2/(cu q).2)
def k2 (p q:List ba):List ba:=nrm (p++eM (-1) (nrm (c3 [eC p q] q)))
def kx (q:List ba):Nat->List ba->Option (List ba×Bool)
 |0,_=>none
 |n+1,p=>if p=[]then some ([],true)else if g_ (cu p).1 (cu q).1 then(kx q n (k2 p q)).map fun r=>(eC p q::r.1,r.2)else some ([],false)
open Classical in
noncomputable def jJ (p q:List ba):List ba×Bool:=if h:∃n r,kx q n p=some r then Classical.choose (aq3 h)else([],false)
def RT (p q:List ba):Prop:=dd 400000 (cu p).2/\dd 400000 (cu q).2/\qg (cu p).1/\qg (cu q).1/\u4 (bB [eC p q]) (bB q)/\
 (∃k j,1<=k/\1<=j/\(∀r∈bB p,fm k r)/\(∀r∈bB (nrm (c3 [eC p q] q)),fm j r)/\2*(2*(k+1*(j+2))+2)<=900000/\p.length+(nrm (c3 [eC p q] q)).length<=1000000000)
def tD (q:List ba):Nat->List ba->Prop
 |0,_=>False
 |n+1,p=>p≠[]->(qg (cu p).1/\qg (cu q).1)/\(g_ (cu p).1 (cu q).1=true->RT p q/\tD q n (k2 p q))
def uR (p q:List ba):Prop:=q≠[]/\(∃n,n<=1000000000/\tD q n p)/\((jJ p q).2=true->jC (bB (jJ p q).1))
def EY (p:Rows):Prop:=∃P:List ba,p=bB P/\fw P/\∀t∈P,t.1.length=8
noncomputable def FB (p q:List ba):List ba:=if(jJ p q).2 then nrm (jJ p q).1 else[]
noncomputable def C5.T:=bj fun
 |[.d (.av an p), .d (.av hd q)]=>(match Nat.beq an 11,Nat.beq hd 11 with
  |true,true=>some (EY p/\EY q/\uR (p.map aN) (q.map aN), .tup [.d (.av 11 (bB (FB (p.map aN) (q.map aN)))), .d (.bool (jJ (p.map aN) (q.map aN)).2)])
  |_,_=>none)
 |_=>none
open Classical in
noncomputable def lX (p q:Rows):Int:=if ec p q then(if nrm (q.map aN)=[]then 3 else if(jJ (nrm (p.map aN)) (nrm (q.map aN))).2 then 0 else 16)else 2
noncomputable def Ep.T:=bj fun
 |[.d (.av an p), .d (.av hd q)]=>(match Nat.beq an 11,Nat.beq hd 11 with
  |true,true=>some ((cx p/\Raw 400000 999999999 p)/\(cx q/\Raw 400000 999999999 q)/\(nrm (q.map aN)≠[]->ec p q=true->uR (nrm (p.map aN)) (nrm (q.map aN))),
   .tup [.d (.av 11 (bB (if lX p q=0 then nrm (jJ (nrm (p.map aN)) (nrm (q.map aN))).1 else[]))), .d (.int .i64 (lX p q))])
  |_,_=>none)
 |_=>none
end ab
end
section
namespace ab
open Go Go.aj
def Cx.T:=bj fun|[]=>some (True, .d (.bool true))|_=>none
def ana.T:=bj fun|[.d (.int .u8 v)]=>some (0<=v/\v<256, .d (.bool true))|_=>none
def anq.T:=bj fun|[.d (.af .i64 l)]=>some (∀x∈l,i64 x, .d (.bool true))|_=>none
def am6.T:=bj fun|[.d (.af .i64 l), .d (.int .u8 v), .d (.int .u8 w)]=>some ((∀x∈l,i64 x)/\(0<=v/\v<256)/\0<=w/\w<256, .d (.bool true))|_=>none
def anh.T:=bj fun|[.d (.af .i64 l), .d (.int .u8 v)]=>some ((∀x∈l,i64 x)/\0<=v/\v<256, .d (.bool true))|_=>none
def BO.T:=bj fun|[.d (.af .i64 l)]=>some (∀x∈l,i64 x, .d (.bool true))|_=>none
def amX.T:=bj fun|[.d (.af .i64 l), .d (.int .u8 v)]=>some ((∀x∈l,i64 x)/\0<=v/\v<256, .d (.bool true))|_=>none
end ab
end
section
open Go Go.aj
namespace ab
end ab
end
section
open Go Go.aj
namespace ab
def L0:List Int->Int->Int->Int->Int->(ag->R->Prop)->Prop:=
 fun l a s v n K=>(dI l a/\i64 (ai (n+1)))/\∀x,x=l->∀aX,aX=c5 l a (ai (n+1))->∀aU,aU=s->∀bo,bo=fu l a (ai (n+1))->∃(aQ:Int->List Int->Int->Int->List (List U)->Prop),∃(m:Int->List Int->Int->Int->List (List U)->Nat),aQ bo x aX aU []/\∀(bq:Int) (l:List Int) (a s:Int) (bu:List (List U)),aQ bq l a s bu->(decide (0<bq)=true->dI l a/\∀x,x=l->∀ck,ck=kS l a->∀de,de=s->∀di,di=cj (iH l a)->∀dp,dp=cm (iH l a)->∀dK,dK=cc (iH l a)->∃(J:List Int->Int->Int->List (List U)->List (List U)->Prop),((dI x ck/\i64 8)/\∀cX,cX=x->∀e6,e6=c5 x ck 8->∀fB,fB=de->∀gb,gb=fu x ck 8->(decide (gb=7)=true->dI cX e6/\∀x,x=cX->∀iw,iw=w5 cX e6->∀jl,jl=fB->∀ny,ny=w4 cX e6->∀o6,o6=sN cX e6->∀rA,rA=sO cX e6->J x iw jl bu [setRow ([U.int .i64 0,U.int .i64 0,U.int .i64 0,U.int .i64 0,U.int .i64 0,U.int .i64 0,U.int .i64 0,U.int .i64 0]++[U.bool di,U.af .u32 dp,U.af .u32 dK]) 8 [U.bool ny,U.af .u32 o6,U.af .u32 rA]])/\(decide (gb=7)=false->J cX e6 fB bu [[U.int .i64 0,U.int .i64 0,U.int .i64 0,U.int .i64 0,U.int .i64 0,U.int .i64 0,U.int .i64 0,U.int .i64 0]++[U.bool di,U.af .u32 dp,U.af .u32 dK]]))/\∀(T_:List Int) (S0 Ua:Int) (fl br:List (List U)),J T_ S0 Ua fl br->∃(fK:Int->List Int->Int->Int->List (List U)->List (List U)->Prop),∃(fv:Int->List Int->Int->Int->List (List U)->List (List U)->Nat),fK 0 T_ S0 Ua fl br/\∀(v10:Int) (tE:List Int) (u5 AJ:Int) (u6 br:List (List U)),fK v10 tE u5 AJ u6 br->(decide (v10<v)=true->(dI tE u5/\0<5/\5<=1000)/\∀x,x=tE->∀cX,cX=c5 tE u5 5->∀e6,e6=AJ->∀fB,fB=mX tE u5 [0,0,1,1,2]->0<=v10/\v10<8/\fK (ai (v10+1)) x cX e6 u6 (br.set 0 ((br.getD 0 []).set v10.toNat (U.int .i64 fB)))/\fv (ai (v10+1)) x cX e6 u6 (br.set 0 ((br.getD 0 []).set v10.toNat (U.int .i64 fB)))<fv v10 tE u5 AJ u6 br)/\(decide (v10<v)=false->(br.getD 0 []).length=11/\((u6.length:Int)+↑[br.getD 0 []].length)*120<=70368744177664/\aQ (ai (bq-1)) tE u5 AJ (u6++[br.getD 0 []])/\m (ai (bq-1)) tE u5 AJ (u6++[br.getD 0 []])<m bq l a s bu))/\(decide (0<bq)=false->K (ag.cells [R.d (U.af .i64 l),R.d (U.int .i64 a),R.d (U.int .i64 s)]) (R.d (U.av 11 bu)))
end ab
end
section
open Go Go.aj
namespace ab
end ab
end
section
open Go Go.aj
namespace ab
end ab
end
section
open Go Go.aj
namespace ab
end ab
end
section
namespace ab
open Go Go.aj
theorem w0 {l:List Int}{a:Int}(aH:dI l a):dI l (kS l a)/\dd 1 (iH l a):=by
 have br:=(aH.num 13).1;have dG:=qW (lo:=-6) (hi:=6) aH (by decide);have dD:=qW (lo:=1) (hi:=5) br (by decide);refine⟨(br.num 5).1, ?_⟩;unfold iH IX IY;have aY:kJ l (c5 l a 13) 1 5=((kJ l (c5 l a 13) 1 5).toNat:Int):=by omega
 rw[aY,Rat.divInt_ofNat];exact .mk (by omega) (by omega)
end ab
end
section
open Go Go.aj
namespace ab
theorem adP (l:List Int)(a:Int):0<=mX l a ya/\mX l a ya<=2:=by
 unfold mX
 have:∀x∈ya,0<=x/\x<=2:=by decide
 rw[aoC]
 cases h:ya[(fu l a ya.length).toNat]? with
 |none=>decide
 |some x=>exact this x (ap7 h)
theorem H8 {l:List Int}{a:Int}(h:dI l a):∀k,dI l (mm l a k).2/\(mm l a k).1.length=8/\(∀x∈(mm l a k).1,0<=x/\x<=2)/\∀i,k<=i->(mm l a k).1.getD i 0=0
 |0=>⟨h,rfl,by show∀x∈dt,_;decide,fun i _=>by
  show dt.getD i 0=0;rw[aoC]
  cases e:dt[i]? with
  |none=>rfl
  |some x=>exact(by decide:∀x∈dt,x=0) x (ap7 e)⟩
 |k+1=>by
  obtain⟨aa,ad,ax,aV⟩:=H8 h k;refine⟨(aa.num 5).1,by rw[mm,aoT];exact ad,fun x ak=> ?_,fun i hi=> ?_⟩
  ·rcases aqU ak with ak|rfl
   ·exact ax x ak
   ·exact adP _ _
  ·rw[mm];rw[aoC,List.getElem?_set_ne (by omega),<-aoC];exact aV i (by omega)
theorem RU {l:List Int}{a:Int}(h:dI l a):dI l (qu l a):=by
 have aa:=(w0 h).1;have ad:=(aa.num 8).1;unfold qu;split
 ·exact(HJ ad).1
 ·exact ad
def s4 (v:Nat)(r:Row):Prop:=∃(m:List Int) (s:Bool) (a b:List Int),r=ez m s a b/\m.length=8/\(∀x∈m,0<=x/\x<=2)/\(∀i,v<=i->m.getD i 0=0)/\bS 4 a/\bS 4 b
theorem acq {l:List Int}{a:Int}(h:dI l a)(v:Nat):dI l (T8 l a v)/\s4 v (zC l a v):=by
 obtain⟨fS,gi,iy,jL⟩:=H8 (RU h) v;refine⟨fS,_,_,_,_,rfl,gi,iy,jL, ?_, ?_⟩
 ·split
  ·exact(HJ ((w0 h).1.num 8).1).2.1
  ·exact(w0 h).2.num.mono (by decide)
 ·split
  ·exact(HJ ((w0 h).1.num 8).1).2.2
  ·exact(w0 h).2.den.mono (by decide)
theorem Hp {l:List Int}{a:Int}(h:dI l a)(v:Nat):∀k,dI l (oX l a v k).2/\(oX l a v k).1.length=k/\∀r∈(oX l a v k).1,s4 v r
 |0=>⟨h,rfl,fun r ao=>by cases ao⟩
 |k+1=>by
  obtain⟨aa,ad,ax⟩:=Hp h v k;obtain⟨t1,t2⟩:=acq aa v;refine⟨t1,by rw[oX,ao1,ad];rfl,fun r ao=> ?_⟩;rw[oX]at ao;rcases apM.1 ao with ao|ao
  ·exact ax r ao
  ·rw[apr.1 ao];exact t2
theorem Qa {l:List Int}{a v n:Int}(h:dI l a)(aB:0<=n):dI l (kP l a v n).2/\((kP l a v n).1.length:Int)<=n/\∀r∈(kP l a v n).1,s4 v.toNat r:=by
 have bc:=h.num (n+1);obtain⟨aa,ad,ax⟩:=Hp bc.1 v.toNat (fu l a (n+1)).toNat;refine⟨aa, ?_,ax⟩;have:=bc.2.2.1 (by omega);unfold kP;rw[ad];omega
theorem V6 (l:List Int)(a s v n:Int)(K:ag->R->Prop)(h:C0.T (.ptr 0 0) (st l a s) [.d (.int .i64 v), .d (.int .i64 n)] K):L0 l a s v n K:=by
 obtain⟨⟨aH,⟨lR,Ub⟩,xO,Fu⟩,ae⟩:=h;unfold L0 ai;rw[bP (x:=n+1) (by omega)];refine⟨⟨aH,by unfold i64;omega⟩, ?_⟩;rintro l rfl _ rfl s rfl _ rfl;have hn:=aH.num (n+1);have aob:=hn.2.2.1 (by omega);refine⟨fun bq cy b5 gT o=>cy=l/\gT=s/\0<=bq/\bq<=fu l a (n+1)/\oX l (c5 l a (n+1)) v.toNat (fu l a (n+1)-bq).toNat=(o,b5),fun bq _ _ _ _=>bq.toNat,⟨rfl,rfl,hn.2.1,Int.le_refl _, ?_⟩, ?_⟩
 ·rw[Int.sub_self];rfl
 rintro bq cy b5 gT o ⟨rfl,rfl,aa,ad,ax⟩;have fO:=Hp hn.1 v.toNat (fu cy a (n+1)-bq).toNat;rw[ax]at fO;obtain⟨dM,az,ao⟩:=fO;simp only at dM az ao;refine⟨fun aC=> ?_,fun aC=> ?_⟩
 ·have aC:=aoN aC;have hm:=w0 dM;refine⟨dM, ?_⟩;rintro cy rfl _ rfl gT rfl _ rfl _ rfl _ rfl;refine⟨fun df a2 s2 bu br=>df=cy/\s2=gT/\bu=o/\a2=qu cy b5/\br=[ez dt (if oC cy b5 then w4 cy (c5 cy (kS cy b5) 8)else cj (iH cy b5)) (if oC cy b5 then sN cy (c5 cy (kS cy b5) 8)else cm (iH cy b5)) (if oC cy b5 then sO cy (c5 cy (kS cy b5) 8)else cc (iH cy b5))],⟨⟨⟨hm.1,by unfold i64;decide⟩, ?_⟩, ?_⟩⟩
  ·rintro cy rfl _ rfl gT rfl _ rfl;refine⟨fun ah=>⟨(hm.1.num 8).1, ?_⟩,fun ah=> ?_⟩
   ·rintro cy rfl _ rfl gT rfl _ rfl _ rfl _ rfl;have e:oC cy b5=true:=ah;refine⟨rfl,rfl,rfl,by rw[qu,e];rfl, ?_⟩;rw[e];exact apg (fun x=>[x]) (zm (m:=dt) rfl _ _ _)
   ·have e:oC cy b5=false:=ah;refine⟨rfl,rfl,rfl,by rw[qu,e];rfl, ?_⟩;rw[e];rfl
  ·rintro df a2 s2 bu br ⟨rfl,rfl,rfl,rfl,rfl⟩;generalize gh:(if oC df b5 then w4 df (c5 df (kS df b5) 8)else cj (iH df b5))=S;generalize gG:(if oC df b5 then sN df (c5 df (kS df b5) 8)else cm (iH df b5))=P;generalize dH:(if oC df b5 then sO df (c5 df (kS df b5) 8)else cc (iH df b5))=Q;refine⟨fun j nm a3 k9 cQ ld=>nm=df/\k9=s2/\cQ=bu/\0<=j/\j<=v/\a3=(mm df (qu df b5) j.toNat).2/\ld=[ez (mm df (qu df b5) j.toNat).1 S P Q],fun j _ _ _ _ _=>(v-j).toNat,⟨rfl,rfl,rfl,Int.le_refl _,lR,rfl,rfl⟩, ?_⟩;rintro j nm a3 k9 cQ ld ⟨rfl,rfl,rfl,amn,vG,rfl,rfl⟩;obtain⟨fS,gi,iy,jL⟩:=H8 (RU dM) j.toNat;refine⟨fun aK=> ?_,fun aK=> ?_⟩
   ·have aK:=aoN aK;refine⟨⟨fS,by decide,by decide⟩, ?_⟩;rintro nm rfl _ rfl k9 rfl _ rfl;rw[bP (x:=j+1) (by omega)];refine⟨amn,by omega,⟨rfl,rfl,rfl,by omega,by omega, ?_, ?_⟩,by show(v-(j+1)).toNat<(v-j).toNat;omega⟩
    ·rw[show(j+1).toNat=j.toNat+1 by omega];rfl
    ·rw[show(j+1).toNat=j.toNat+1 by omega];show[(ez _ S P Q).set j.toNat _]=_;rw[mm];show[(c8 _++_).set j.toNat _]=[c8 _++_];rw[List.set_append_left _ _ (by rw[jv,gi];omega),c8,c8,aqs]
     rfl
   ·have aK:=aoP aK;obtain rfl:j=v:=by omega
    have lG:ez (mm nm (qu nm b5) j.toNat).1 S P Q=zC nm b5 j.toNat:=by rw[zC,gh,gG,dH]
    refine⟨kc gi, ?_, ?_⟩
    ·have:((cQ.length:Nat):Int)<=1000:=by rw[az];omega
     simp only[apL];omega
    rw[bP (x:=bq-1) (by omega)];refine⟨⟨rfl,rfl,by omega,by omega, ?_⟩,by show(bq-1).toNat<bq.toNat;omega⟩;rw[show(fu nm a (n+1)-(bq-1)).toNat=(fu nm a (n+1)-bq).toNat+1 by omega,oX,ax];show(cQ++[zC nm b5 j.toNat],_)=(cQ++[ez _ S P Q],_);rw[lG];rfl
 ·have aC:=aoP aC;obtain rfl:bq=0:=by omega
  have e:kP cy a v n=(o,b5):=by rw[kP,<-ax,Int.sub_zero]
  rw[e]at ae;exact ae
end ab
end
section
open Go Go.aj
namespace ab
def Mh:ab.Rows->ab.Rows->(R->Prop)->Prop:=
 fun p q K=>List.length p<100000000000/\∀x,x=p->((x.length:Int)+(aP q))*120<=70368744177664/\jC (x++q)/\∀aX,aX=bB (nrm (List.map aN (x++q)))->K (R.d (U.av 11 aX))
def L1:ab.Rows->Int->(R->Prop)->Prop:=
 fun p v K=>∃(aQ:Int->Int->Prop),∃(m:Int->Int->Nat),aQ (-1) 0/\∀(v5 v10:Int),aQ v5 v10->(decide (v10<(aP p))=true->0<=v10/\v10<(aP p)/\(List.aR p v10).length=11/\0<=v/\v<8/\((List.aR p v10).getD v.toNat U.undef).dg .i64/\aQ (if v5<((List.aR p v10).getD v.toNat U.undef).toInt then((List.aR p v10).getD v.toNat U.undef).toInt else v5) (ai (v10+1))/\m (if v5<((List.aR p v10).getD v.toNat U.undef).toInt then((List.aR p v10).getD v.toNat U.undef).toInt else v5) (ai (v10+1))<m v5 v10)/\(decide (v10<(aP p))=false->K (R.d (U.int .i64 v5)))
def Mi:ab.Rows->(R->Prop)->Prop:=
 fun p K=>∃(aQ:Int->Int->Prop),∃(m:Int->Int->Nat),aQ 0 0/\∀(v3 bq:Int),aQ v3 bq->(decide (bq<(aP p))=true->0<=bq/\bq<(aP p)/\(List.aR p bq).length=11/\(List.aR p bq).length=11/\(∀(x:U),x∈List.take 8 (List.aR p bq)->x.dg .i64)/\(0<(List.map U.toInt (List.take 8 (List.aR p bq))).length/\(List.map U.toInt (List.take 8 (List.aR p bq))).length<1000000000)/\∀x,x=lH ((List.map U.toInt (List.take 8 (List.aR p bq))).getD 0 0) (List.drop 1 (List.map U.toInt (List.take 8 (List.aR p bq))))->aQ (if v3<x then x else v3) (ai (bq+1))/\m (if v3<x then x else v3) (ai (bq+1))<m v3 bq)/\(decide (bq<(aP p))=false->K (R.d (U.int .i64 v3)))
def LL:ab.Rows->(R->Prop)->Prop:=
 fun p K=>∃(aQ:Int->Prop),∃(m:Int->Nat),aQ 0/\∀(v9:Int),aQ v9->(decide (v9<(aP p))=true->0<=v9/\v9<(aP p)/\(List.aR p v9).length=11/\(List.aR p v9).length=11/\∃(fK:Int->Prop),∃(fv:Int->Nat),((false,ag.av 11 [List.aR p v9])=(false,ag.av 11 [List.aR p v9])/\fK 0)/\∀(bU:Int),fK bU->(decide (bU<8)=true->0<=bU/\bU<8/\((List.take 8 (List.aR p v9)).getD bU.toNat U.undef).dg .i64/\(decide (((List.take 8 (List.aR p v9)).getD bU.toNat U.undef).toInt<0)=true->K (R.d (U.bool false)))/\(decide (((List.take 8 (List.aR p v9)).getD bU.toNat U.undef).toInt<0)=false->(decide (1024<((List.take 8 (List.aR p v9)).getD bU.toNat U.undef).toInt)=true->K (R.d (U.bool false)))/\(decide (1024<((List.take 8 (List.aR p v9)).getD bU.toNat U.undef).toInt)=false->(false,ag.av 11 [List.aR p v9])=(false,ag.av 11 [List.aR p v9])/\fK (ai (bU+1))/\fv (ai (bU+1))<fv bU)))/\(decide (bU<8)=false->aQ (ai (v9+1))/\m (ai (v9+1))<m v9))/\(decide (v9<(aP p))=false->K (R.d (U.bool true)))
def L7:ab.Rows->Bool->List Int->List Int->(R->Prop)->Prop:=
 fun p s a b K=>List.length p<100000000000/\∀x,x=p->∃(aQ:Int->List (List U)->Prop),∃(m:Int->List (List U)->Nat),((false,ag.cells [R.d (U.bool s),R.d (U.af .u32 a),R.d (U.af .u32 b)])=(false,ag.cells [R.d (U.bool s),R.d (U.af .u32 a),R.d (U.af .u32 b)])/\aQ 0 x)/\∀(v11:Int) (bu:List (List U)),aQ v11 bu->(decide (v11<↑x.length)=true->0<=v11/\v11<↑bu.length/\((bu.aR v11).fs).isBool/\((bu.aR v11).eK).eQ .u32/\((bu.aR v11).eL).eQ .u32/\(bS 1000000 ((bu.aR v11).eK).bX/\bS 1000000 ((bu.aR v11).eL).bX/\bS 1000000 a/\bS 1000000 b)/\∀x,x=cj (bd ((bu.aR v11).fs).toBool ((bu.aR v11).eK).bX ((bu.aR v11).eL).bX*bd s a b)->∀aX,aX=cm (bd ((bu.aR v11).fs).toBool ((bu.aR v11).eK).bX ((bu.aR v11).eL).bX*bd s a b)->∀aU,aU=cc (bd ((bu.aR v11).fs).toBool ((bu.aR v11).eK).bX ((bu.aR v11).eL).bX*bd s a b)->0<=v11/\v11<↑bu.length/\(false,ag.cells [R.d (U.bool s),R.d (U.af .u32 a),R.d (U.af .u32 b)])=(false,ag.cells [R.d (U.bool s),R.d (U.af .u32 a),R.d (U.af .u32 b)])/\aQ (ai (v11+1)) (bu.set v11.toNat (setRow (bu.aR v11) 8 [U.bool x,U.af .u32 aX,U.af .u32 aU]))/\m (ai (v11+1)) (bu.set v11.toNat (setRow (bu.aR v11) 8 [U.bool x,U.af .u32 aX,U.af .u32 aU]))<m v11 bu)/\(decide (v11<↑x.length)=false->jC bu/\∀x,x=bB (nrm (List.map aN bu))->K (R.d (U.av 11 x)))
def Mj:ab.Rows->(R->Prop)->Prop:=
 fun p K=>i64 (-1)/\∀x,x=cj (IntCast.intCast (-1))->∀aX,aX=cm (IntCast.intCast (-1))->∀aU,aU=cc (IntCast.intCast (-1))->(∃(k:Nat),∃(c:Nat),∃(j:Nat),1<=k/\1<=j/\(∀(r:List U),r∈p->fm k r)/\(∀(m:List Int),gm m p<=c)/\bS j aX/\bS j aU/\c*(2*(k+j)+2)<=900000/\k+j<=900000/\List.length p<=1000000000)/\∀bo,bo=bB (nrm (eM (bd x aX aU) (List.map aN p)))->K (R.d (U.av 11 bo))
def Mk:ab.Rows->ab.Rows->(R->Prop)->Prop:=
 fun p q K=>(∃(k:Nat),∃(c:Nat),1<=k/\(∀(r:List U),r∈q->fm k r)/\(∀(m:List Int),gm m q<=c)/\c*(2*(k+1)+2)<=900000/\k+1<=900000/\List.length q<=1000000000)/\∀x,x=bB (nrm (eM (-1) (List.map aN q)))->jC (p++x)/\∀aX,aX=bB (nrm (List.map aN p++List.map aN x))->K (R.d (U.av 11 aX))
def Ml:ab.Rows->ab.Rows->(R->Prop)->Prop:=
 fun p q K=>(0:Int)<=(0:Int)/\(0:Int)<=ai ((aP p)*(aP q))/\ai ((aP p)*(aP q))*(120:Int)<=(281474976710656:Int)/\∃(aQ:Int->List (List U)->Prop),∃(m:Int->List (List U)->Nat),aQ (0:Int) (List.replicate (0:Nat) [U.int .i64 (0:Int),U.int .i64 (0:Int),U.int .i64 (0:Int),U.int .i64 (0:Int),U.int .i64 (0:Int),U.int .i64 (0:Int),U.int .i64 (0:Int),U.int .i64 (0:Int),U.bool false,U.af .u32 [],U.af .u32 []])/\∀(lV:Int) (aq:List (List U)),aQ lV aq->(decide (lV<(aP p))=true->(0:Int)<=lV/\lV<(aP p)/\(List.aR p lV).length=(11:Nat)/\∃(fK:Int->List (List U)->List (List U)->Prop),∃(fv:Int->List (List U)->List (List U)->Nat),fK (0:Int) aq [List.aR p lV]/\∀(v24:Int) (bJ bu:List (List U)),fK v24 bJ bu->(decide (v24<(aP q))=true->(0:Int)<=v24/\v24<(aP q)/\(List.aR q v24).length=(11:Nat)/\(bu.getD (0:Nat) []).length=(11:Nat)/\(List.aR q v24).length=(11:Nat)/\(EP (List.take (8:Nat) (bu.getD (0:Nat) []))/\EP (List.take (8:Nat) (List.aR q v24)))/\((bu.getD (0:Nat) []).fs).isBool/\((bu.getD (0:Nat) []).eK).eQ .u32/\((bu.getD (0:Nat) []).eL).eQ .u32/\((List.aR q v24).fs).isBool/\((List.aR q v24).eK).eQ .u32/\((List.aR q v24).eL).eQ .u32/\(bS (1000000:Nat) ((bu.getD (0:Nat) []).eK).bX/\bS (1000000:Nat) ((bu.getD (0:Nat) []).eL).bX/\bS (1000000:Nat) ((List.aR q v24).eK).bX/\bS (1000000:Nat) ((List.aR q v24).eL).bX)/\∀x,x=cj (bd ((bu.getD (0:Nat) []).fs).toBool ((bu.getD (0:Nat) []).eK).bX ((bu.getD (0:Nat) []).eL).bX*bd ((List.aR q v24).fs).toBool ((List.aR q v24).eK).bX ((List.aR q v24).eL).bX)->∀aX,aX=cm (bd ((bu.getD (0:Nat) []).fs).toBool ((bu.getD (0:Nat) []).eK).bX ((bu.getD (0:Nat) []).eL).bX*bd ((List.aR q v24).fs).toBool ((List.aR q v24).eK).bX ((List.aR q v24).eL).bX)->∀aU,aU=cc (bd ((bu.getD (0:Nat) []).fs).toBool ((bu.getD (0:Nat) []).eK).bX ((bu.getD (0:Nat) []).eL).bX*bd ((List.aR q v24).fs).toBool ((List.aR q v24).eK).bX ((List.aR q v24).eL).bX)->(↑bJ.length+↑[c8 (ds (eI (List.take (8:Nat) (bu.getD (0:Nat) []))) (eI (List.take (8:Nat) (List.aR q v24))))++[U.bool x,U.af .u32 aX,U.af .u32 aU]].length)*(120:Int)<=(70368744177664:Int)/\fK (ai (v24+(1:Int))) (bJ++[c8 (ds (eI (List.take (8:Nat) (bu.getD (0:Nat) []))) (eI (List.take (8:Nat) (List.aR q v24))))++[U.bool x,U.af .u32 aX,U.af .u32 aU]]) bu/\fv (ai (v24+(1:Int))) (bJ++[c8 (ds (eI (List.take (8:Nat) (bu.getD (0:Nat) []))) (eI (List.take (8:Nat) (List.aR q v24))))++[U.bool x,U.af .u32 aX,U.af .u32 aU]]) bu<fv v24 bJ bu)/\(decide (v24<(aP q))=false->aQ (ai (lV+(1:Int))) bJ/\m (ai (lV+(1:Int))) bJ<m lV aq))/\(decide (lV<(aP p))=false->jC aq/\∀x,x=bB (nrm (List.map aN aq))->K (R.d (U.av (11:Nat) x)))
def LA:ab.Rows->(R->Prop)->Prop:=
 fun p K=>cx p/\∀x,x=jI 0 (List.map aN p)->(decide (1024<x)=true->K (R.tup [R.d (U.av 11 []),R.d (U.int .i64 9)]))/\(decide (1024<x)=false->K (R.tup [R.d (U.av 11 p),R.d (U.int .i64 0)]))
def LU:Int->(R->Prop)->Prop:=
 fun v K=>(decide (v<0)=true->K (R.tup [R.d (U.av 11 []),R.d (U.int .i64 1)]))/\(decide (v<0)=false->(decide (8<=v)=true->K (R.tup [R.d (U.av 11 []),R.d (U.int .i64 1)]))/\(decide (8<=v)=false->i64 1/\∀x,x=cj (IntCast.intCast 1)->∀aX,aX=cm (IntCast.intCast 1)->∀aU,aU=cc (IntCast.intCast 1)->0<=v/\v<8/\(([U.int .i64 0,U.int .i64 0,U.int .i64 0,U.int .i64 0,U.int .i64 0,U.int .i64 0,U.int .i64 0,U.int .i64 0]++[U.bool x,U.af .u32 aX,U.af .u32 aU]).set v.toNat (U.int .i64 1)).length=11/\K (R.tup [R.d (U.av 11 [([U.int .i64 0,U.int .i64 0,U.int .i64 0,U.int .i64 0,U.int .i64 0,U.int .i64 0,U.int .i64 0,U.int .i64 0]++[U.bool x,U.af .u32 aX,U.af .u32 aU]).set v.toNat (U.int .i64 1)]),R.d (U.int .i64 0)])))
def Lu:ab.Rows->ab.Rows->(R->Prop)->Prop:=
 fun p q K=>cx p/\∀x,x=hM p->((!x)=true->K (R.tup [R.d (U.av 11 []),R.d (U.int .i64 2)]))/\((!x)=false->cx q/\∀x,x=hM q->((!x)=true->K (R.tup [R.d (U.av 11 []),R.d (U.int .i64 2)]))/\((!x)=false->jC p/\∀x,x=bB (nrm (List.map aN p))->jC q/\∀aX,aX=bB (nrm (List.map aN q))->jC (x++aX)/\∀aU,aU=bB (nrm (List.map aN x++List.map aN aX))->cx aU/\∀x,(x=if 1024<jI 0 (List.map aN aU)then[]else aU)->∀bo,(bo=if 1024<jI 0 (List.map aN aU)then 9 else 0)->K (R.tup [R.d (U.av 11 x),R.d (U.int .i64 bo)])))
def Lv:ab.Rows->ab.Rows->(R->Prop)->Prop:=
 fun p q K=>cx p/\∀x,x=hM p->((!x)=true->K (R.tup [R.d (U.av 11 []),R.d (U.int .i64 2)]))/\((!x)=false->cx q/\∀x,x=hM q->((!x)=true->K (R.tup [R.d (U.av 11 []),R.d (U.int .i64 2)]))/\((!x)=false->jC p/\∀x,x=bB (nrm (List.map aN p))->jC q/\∀aX,aX=bB (nrm (List.map aN q))->(∃(k:Nat),∃(c:Nat),∃(j:Nat),∃(d:Nat),1<=k/\1<=j/\(∀(r:List U),r∈x->fm k r)/\(∀(r:List U),r∈aX->fm j r)/\(∀(m:List Int),gm m x<=c)/\(∀(m:List Int),gm m aX<=d)/\1<=d/\(c+1)*(2*(k+d*(j+2))+2)<=900000/\x.length+aX.length<=1000000000)/\∀aU,aU=bB (nrm (List.map aN x++eM (-1) (List.map aN aX)))->cx aU/\∀x,(x=if 1024<jI 0 (List.map aN aU)then[]else aU)->∀bo,(bo=if 1024<jI 0 (List.map aN aU)then 9 else 0)->K (R.tup [R.d (U.av 11 x),R.d (U.int .i64 bo)])))
def LV:ab.Rows->ab.Rows->(R->Prop)->Prop:=
 fun p q K=>o0 p q/\∀x,x=bB (if ec p q=true then nrm (List.map aN p++List.map aN q)else[])->∀aX,(aX=if ec p q=true then 0 else 2)->K (R.tup [R.d (U.av 11 x),R.d (U.int .i64 aX)])
def LW:ab.Rows->ab.Rows->(R->Prop)->Prop:=
 fun p q K=>o0 p q/\∀x,x=bB (if ec p q=true then nrm (List.map aN p++eM (-1) (List.map aN q))else[])->∀aX,(aX=if ec p q=true then 0 else 2)->K (R.tup [R.d (U.av 11 x),R.d (U.int .i64 aX)])
def LB:ab.Rows->Int->ab.Rows->(R->Prop)->Prop:=
 fun p n q K=>∃(aQ:Int->Prop),∃(m:Int->Nat),aQ 0/\∀(bq:Int),aQ bq->(decide (bq<8)=true->(cx p/\0<=bq/\bq<8)/\∀x,x=mJ (List.map aN p) bq.toNat->(cx q/\0<=bq/\bq<8)/\∀aX,aX=mJ (List.map aN q) bq.toNat->(decide (1024<ai (ai (n*if x<0 then 0 else x)+if aX<0 then 0 else aX))=true->K (R.d (U.bool true)))/\(decide (1024<ai (ai (n*if x<0 then 0 else x)+if aX<0 then 0 else aX))=false->aQ (ai (bq+1))/\m (ai (bq+1))<m bq))/\(decide (bq<8)=false->K (R.d (U.bool false)))
def LX:ab.Rows->ab.Rows->(R->Prop)->Prop:=
 fun p q K=>cx p/\∀x,x=hM p->((!x)=true->K (R.tup [R.d (U.av (11:Nat) []),R.d (U.int .i64 (2:Int))]))/\((!x)=false->cx q/\∀x,x=hM q->((!x)=true->K (R.tup [R.d (U.av (11:Nat) []),R.d (U.int .i64 (2:Int))]))/\((!x)=false->jC p/\∀x,x=bB (nrm (List.map aN p))->jC q/\∀aX,aX=bB (nrm (List.map aN q))->(decide ((0:Int)<↑x.length)=true->(decide ((0:Int)<↑aX.length)=true->((cx x/\cx aX)/\(xu x/\xu aX)/\(0:Int)<=(1:Int)/\(1:Int)<=(1000:Int))/\∀aU,aU=hi (1:Int) (List.map aN x) (List.map aN aX)->(aU=true->K (R.tup [R.d (U.av (11:Nat) []),R.d (U.int .i64 (9:Int))]))/\(aU=false->u4 x aX/\∀bo,bo=bB (nrm (c3 (List.map aN x) (List.map aN aX)))->K (R.tup [R.d (U.av (11:Nat) bo),R.d (U.int .i64 (0:Int))])))/\(decide ((0:Int)<↑aX.length)=false->u4 x aX/\∀aU,aU=bB (nrm (c3 (List.map aN x) (List.map aN aX)))->K (R.tup [R.d (U.av (11:Nat) aU),R.d (U.int .i64 (0:Int))])))/\(decide ((0:Int)<↑x.length)=false->u4 x aX/\∀aU,aU=bB (nrm (c3 (List.map aN x) (List.map aN aX)))->K (R.tup [R.d (U.av (11:Nat) aU),R.d (U.int .i64 (0:Int))]))))
def LC:ab.Rows->ab.Rows->(R->Prop)->Prop:=
 fun(p q:ab.Rows) (K:R->Prop)=>((!decide (aP p=aP q))=true->K (R.d (U.bool false)))/\((!decide (aP p=aP q))=false->∃(aQ:Int->Prop),∃(m:Int->Nat),aQ (0:Int)/\∀(v5:Int),aQ v5->(decide (v5<aP p)=true->(0:Int)<=v5/\v5<aP p/\List.length (List.aR p v5)=(11:Nat)/\(0:Int)<=v5/\v5<aP q/\List.length (List.aR q v5)=(11:Nat)/\(∀(x:U),x∈List.take (8:Nat) (List.aR p v5)->U.dg x IntKind.i64)/\(∀(x:U),x∈List.take (8:Nat) (List.aR q v5)->U.dg x IntKind.i64)/\((!decide (List.map U.toInt (List.take (8:Nat) (List.aR p v5))=List.map U.toInt (List.take (8:Nat) (List.aR q v5))))=true->K (R.d (U.bool false)))/\((!decide (List.map U.toInt (List.take (8:Nat) (List.aR p v5))=List.map U.toInt (List.take (8:Nat) (List.aR q v5))))=false->(0:Int)<=v5/\v5<aP p/\U.isBool (List.getD (List.aR p v5) (8:Nat) U.undef)/\U.eQ (List.getD (List.aR p v5) (9:Nat) U.undef) IntKind.u32/\U.eQ (List.getD (List.aR p v5) (10:Nat) U.undef) IntKind.u32/\(0:Int)<=v5/\v5<aP q/\U.isBool (List.getD (List.aR q v5) (8:Nat) U.undef)/\U.eQ (List.getD (List.aR q v5) (9:Nat) U.undef) IntKind.u32/\U.eQ (List.getD (List.aR q v5) (10:Nat) U.undef) IntKind.u32/\(List.length (U.bX (List.getD (List.aR p v5) (9:Nat) U.undef))<=(1000000000:Nat)/\List.length (U.bX (List.getD (List.aR p v5) (10:Nat) U.undef))<=(1000000000:Nat)/\List.length (U.bX (List.getD (List.aR q v5) (9:Nat) U.undef))<=(1000000000:Nat)/\List.length (U.bX (List.getD (List.aR q v5) (10:Nat) U.undef))<=(1000000000:Nat))/\∀(x:Bool),x=decide (U.toBool (List.getD (List.aR p v5) (8:Nat) U.undef)=U.toBool (List.getD (List.aR q v5) (8:Nat) U.undef)/\U.bX (List.getD (List.aR p v5) (9:Nat) U.undef)=U.bX (List.getD (List.aR q v5) (9:Nat) U.undef)/\U.bX (List.getD (List.aR p v5) (10:Nat) U.undef)=U.bX (List.getD (List.aR q v5) (10:Nat) U.undef))->((!x)=true->K (R.d (U.bool false)))/\((!x)=false->aQ (ai (v5+(1:Int)))/\m (ai (v5+(1:Int)))<m v5)))/\(decide (v5<aP p)=false->K (R.d (U.bool true))))
end ab
end
section
open Go Go.aj
namespace ab
theorem aey:dt.length=8:=rfl
theorem aez (s:Bool)(a b:List Int):([U.int IntKind.i64 (0:Int),U.int IntKind.i64 (0:Int),U.int IntKind.i64 (0:Int),U.int IntKind.i64 (0:Int),U.int IntKind.i64 (0:Int),U.int IntKind.i64 (0:Int),U.int IntKind.i64 (0:Int),U.int IntKind.i64 (0:Int)]++[U.bool s,U.af IntKind.u32 a,U.af IntKind.u32 b]:Row)=ez dt s a b:=rfl
theorem WQ (p q:Rows)(K:R->Prop)(h:Ec.T [.d (.av 11 p), .d (.av 11 q)] K):Mh p q K:=by
 obtain⟨ay,ae⟩:=h;unfold Mh aP;have az:(p++q).length<=1000000000:=by obtain⟨_,_,_,_,_,_,_,h⟩:=ay;exact h
 rw[ao1]at az;refine⟨by omega, ?_⟩;rintro _ rfl;refine⟨by omega,ay, ?_⟩;rintro _ rfl;rw[apn];exact ae
theorem Q6 (v:Nat):∀(p:List ba) (d:Int) (t:ba),nJ v d (p++[t])=(if t.1.getD v 0>nJ v d p then t.1.getD v 0 else nJ v d p)
 |[],d,t=>rfl
 |u::p,d,t=>by rw[ap0,nJ,Q6 v p,nJ]
theorem Q7:∀(p:List ba) (d:Int) (t:ba),jI d (p++[t])=(if lH (t.1.getD 0 0) (t.1.drop 1)>jI d p then lH (t.1.getD 0 0) (t.1.drop 1)else jI d p)
 |[],d,t=>rfl
 |u::p,d,t=>by rw[ap0,jI,Q7 p,jI]
theorem eO.at {r:Row}(h:eO r){v:Nat}(aM:v<8):r.getD v .undef= .int .i64 ((ek r).getD v 0):=by
 obtain⟨oI,fS,gi,iy,jL,jM,oJ,r6,s,a,b,rfl⟩:=h
 match v,aM with
 |0,_=>rfl
 |1,_=>rfl
 |2,_=>rfl
 |3,_=>rfl
 |4,_=>rfl
 |5,_=>rfl
 |6,_=>rfl
 |7,_=>rfl
theorem V7 (p:Rows)(v:Int)(K:R->Prop)(h:Eg.T [.d (.av 11 p), .d (.int .i64 v)] K):L1 p v K:=by
 obtain⟨⟨⟨bs,az⟩,lR,ve⟩,ae⟩:=h;unfold L1 ai aP List.aR;refine⟨fun d w=>∃i:Nat,w=i/\i<=p.length/\d=nJ v.toNat (-1) ((p.take i).map aN),fun _ w=>p.length-w.toNat,⟨0,rfl,by omega,rfl⟩, ?_⟩;rintro _ _ ⟨i,rfl,aa,rfl⟩;simp only[apb,aoF,aoD];refine⟨fun aV=> ?_,fun aV=> ?_⟩
 ·have hi:i<p.length:=by omega
  have ao:=bs.get hi;rw[ao.at (by omega)];refine⟨by omega,aV,ao.len,lR,ve,rfl,⟨i+1,fg (by omega) (by omega),by omega, ?_⟩,by rw[fg (by omega) (by omega)];omega⟩;rw[pJ hi,apn];exact(Q6 v.toNat ((p.take i).map aN) (-1) (aN (p.getD i []))).symm
 ·have:i=p.length:=by omega
  rw[this,ap2];exact ae
theorem WR (p:Rows)(K:R->Prop)(h:Eh.T [.d (.av 11 p)] K):Mi p K:=by
 obtain⟨⟨bs,az⟩,ae⟩:=h;unfold Mi ai aP List.aR;refine⟨fun d w=>∃i:Nat,w=i/\i<=p.length/\d=jI 0 ((p.take i).map aN),fun _ w=>p.length-w.toNat,⟨0,rfl,by omega,rfl⟩, ?_⟩;rintro _ _ ⟨i,rfl,aa,rfl⟩;simp only[apb,aoF,aoD];refine⟨fun aV=> ?_,fun aV=> ?_⟩
 ·have hi:i<p.length:=by omega
  have ao:=bs.get hi;have amo:(List.map U.toInt (List.take 8 (p.getD i []))).length=8:=by rw[aoK,apf,ao.len];rfl
  refine⟨by omega,aV,ao.len,ao.len,ao.vw,⟨by omega,by omega⟩, ?_⟩;rintro _ rfl;refine⟨⟨i+1,fg (by omega) (by omega),by omega, ?_⟩,by rw[fg (by omega) (by omega)];omega⟩;rw[pJ hi,apn];exact(Q7 ((p.take i).map aN) 0 (aN (p.getD i []))).symm
 ·have:i=p.length:=by omega
  rw[this,ap2];exact ae
theorem Zk (c:Rat)(p q:List ba):eM c (p++q)=eM c p++eM c q:=apn
theorem Wc (p:Rows)(s:Bool)(a b:List Int)(K:R->Prop)(h:CZ.T [.d (.av 11 p), .agg [.d (.bool s), .d (.af .u32 a), .d (.af .u32 b)]] K):L7 p s a b K:=by
 obtain⟨⟨k,c,j,j6,aK,bs,AK,aS,ah,hle,J9,hlen⟩,ae⟩:=h;unfold L7 ai List.aR List.fs List.eK List.eL;have aC:dd j (bd s a b):=dd.of aS ah aK;refine⟨by omega,fun x ak=> ?_⟩;have ak:=ak.symm;subst ak;refine⟨fun v o=>∃i:Nat,v=i/\i<=p.length/\o=bB (eM (bd s a b) ((p.take i).map aN))++p.drop i,fun v _=>p.length-v.toNat,⟨rfl,0,rfl,by omega,rfl⟩, ?_⟩;rintro _ _ ⟨i,rfl,aa,rfl⟩;have hV:(bB (eM (bd s a b) ((p.take i).map aN))).length=i:=by rw[ff,eM,aoK,aoK,apf];omega
 simp only[apb,aoF,aoD];refine⟨fun aV=> ?_,fun aV=> ?_⟩
 ·have hi:i<p.length:=by omega
  obtain⟨m,t,x0,d,e,hm,hX,ad,ax⟩:=(bs _ (ll hi)).bN
  have mI:(bB (eM (bd s a b) ((p.take i).map aN))++p.drop i).getD i []=ez m t x0 d:=by
   rw[aoC,apQ (by omega),hV,Nat.sub_self,ap4,ao0,<-aoC,e]
  simp only[mI,jE hm,jF hm,jA hm,U.toBool,U.bX];refine⟨by omega,by rw[ao1,hV,apP];omega,trivial,rfl,rfl,⟨ad.mono (by omega),ax.mono (by omega),aS.mono (by omega),ah.mono (by omega)⟩, ?_⟩;rintro _ rfl _ rfl _ rfl;rw[zm hm,fg (by omega) (by omega)];refine⟨by omega,by rw[ao1,hV,apP];omega,trivial,⟨i+1,rfl,by omega, ?_⟩,by omega⟩;rw[List.set_append_right _ _ (by omega),hV,Nat.sub_self,apZ hi,List.set_cons_zero,pJ hi,e,apn,List.map_singleton,mY hm,Zk,q2,aqq];rfl
 ·have hi:i=p.length:=by omega
  have he:bB (eM (bd s a b) ((p.take i).map aN))++p.drop i=bB (eM (bd s a b) (p.map aN)):=by
   rw[hi,ap2,List.drop_length,aqc]
  rw[he]
  have hX:∀t∈eM (bd s a b) (p.map aN),l5 t.1:=fun t au=>by
   obtain⟨u,hu,rfl⟩:=aoO.1 au;obtain⟨r,ao,rfl⟩:=aoO.1 hu;exact(bs r ao).nk
  have hw:=dz.scale aC aK (y9 (fun r ao=>(bs r ao).FA) j6);refine⟨yH hw (by omega) hX (fun m=>by rw[BN,<-sF];exact AK m) hle J9 (by rw[eM,aoK,aoK];exact hlen), ?_⟩;rintro _ rfl;rw[fp fun t au=>(hX t au).1];exact ae
theorem xh:dd 1 (-1):=dd.one.neg
theorem adQ:(IntCast.intCast (-1:Int):Rat)=-1:=rfl
theorem WS (p:Rows)(K:R->Prop)(h:Ed.T [.d (.av 11 p)] K):Mj p K:=by
 obtain⟨⟨k,c,j6,bs,AK,hle,AI,hlen⟩,ae⟩:=h;unfold Mj;refine⟨⟨by decide,by decide⟩, ?_⟩;rintro _ rfl _ rfl _ rfl;rw[adQ];refine⟨⟨k,c,1,j6,aoH _,bs,AK,xh.num,xh.den,hle,AI,hlen⟩, ?_⟩;rintro _ rfl;rw[mc];exact ae
theorem WT (p q:Rows)(K:R->Prop)(h:Ee.T [.d (.av 11 p), .d (.av 11 q)] K):Mk p q K:=by
 obtain⟨⟨k,c,j,d,j6,aK,gG,dH,aj9,Uc,aY,hle,hlen⟩,ae⟩:=h;unfold Mk;have aa:1*(2*(k+d*(j+2))+2)<=(c+1)*(2*(k+d*(j+2))+2):=aoR _ (by omega);have ad:d*(2*(j+1)+2)=2*(d*(j+2)):=by rw[show 2*(j+1)+2=2*(j+2) by omega,apF]
 have ax:1*(j+2)<=d*(j+2):=aoR _ aY;refine⟨⟨j,d,aK,dH,Uc,by omega,by omega,by omega⟩, ?_⟩;rintro _ rfl
 have hX:∀t∈nrm (eM (-1) (q.map aN)),l5 t.1:=fun t au=>by
  obtain⟨u,hu,e⟩:=oQ au;obtain⟨x,ak,rfl⟩:=aoO.1 hu;obtain⟨r,ao,rfl⟩:=aoO.1 ak;rw[<-e];exact(dH r ao).nk
 have c6:=fun t au=>(hX t au).1
 have hw:dz (d*(j+2)) (nrm (eM (-1) (q.map aN))):=(dz.scale xh (aoH _) (y9 (fun r ao=>(dH r ao).FA) aK)).nrm fun m=>by
  rw[BN,<-sF];exact Uc m
 refine⟨?_, ?_⟩
 ·refine⟨k+d*(j+2),c+1,by omega,fun r ao=> ?_,fun m=> ?_,hle,by omega, ?_⟩
  ·rcases apM.1 ao with ao|ao
   ·exact(gG r ao).mono (by omega)
   ·exact(wM hw hX r ao).mono (by omega)
  ·rw[yT,pM c6];have:=aj9 m;have:=(gI (eM (-1) (q.map aN))).kv m;omega
  ·have:=uB (eM (-1) (q.map aN));rw[eM,aoK,aoK,<-eM]at this;rw[ao1,ff];omega
 ·rintro _ rfl;rw[fp c6,aaW];exact ae
theorem O6 (s:ba)(q:List ba):∀p:List ba,c3 (p++[s]) q=c3 p q++gX s q
 |[]=>by show gX s q++[]=[]++gX s q;simp
 |t::p=>by show gX t q++c3 (p++[s]) q=(gX t q++c3 p q)++gX s q;rw[O6 s q p,aqq]
theorem aaX (s t:ba)(q:List ba):gX s (q++[t])=gX s q++[(ds s.1 t.1,s.2*t.2)]:=apn
theorem yY (q:List ba):∀p:List ba,(c3 p q).length=p.length*q.length
 |[]=>by simp[c3]
 |t::p=>by rw[c3,ao1,yY q p,gX,aoK,apj,aoX,apX,Nat.add_comm]
theorem aeA {e:Int}{m:List Int}{c:Rat}(h:da e [(m,c)]):m.length=8/\∀x∈m,0<=x/\x<=e:=h (m,c) (by simp)
theorem Q8 {r:Row}{W:Nat}(h:gZ W r)(he:da 2000000000000000000 [aN r]):∃(m:List Int) (s:Bool) (a b:List Int),r=ez m s a b/\m.length=8/\(∀x∈m,-4000000000000000000<=x/\x<=4000000000000000000)/\bS W a/\bS W b:=by
 obtain⟨m,s,a,b,rfl,hm,aa,ad⟩:=h;rw[mY hm]at he;exact⟨m,s,a,b,rfl,hm,fun x ak=>by have:=(aeA he).2 x ak;omega,aa,ad⟩
theorem WU (p q:Rows)(K:R->Prop)(h:Ef.T [.d (.av 11 p), .d (.av 11 q)] K):Ml p q K:=by
 obtain⟨⟨gG,dH,k,j,c,j6,kq,Ud,Ue,agB,hle,J9,ql,A7,h3⟩,ae⟩:=h;unfold Ml ai aP List.aR List.fs List.eK List.eL;have aC:((p.length:Nat):Int)*((q.length:Nat):Int)=((p.length*q.length:Nat):Int):=(apK _ _).symm;have Jk:IntKind.wrap .i64 (((p.length:Nat):Int)*((q.length:Nat):Int))=((p.length*q.length:Nat):Int):=by rw[aC];exact fg (by omega) (by omega)
 rw[Jk];refine⟨by omega,by omega,by omega,fun v o=>∃i:Nat,v=i/\i<=p.length/\o=bB (c3 ((p.take i).map aN) (q.map aN)),fun v _=>p.length-v.toNat,⟨0,rfl,by omega,rfl⟩, ?_⟩;rintro _ _ ⟨i,rfl,aa,rfl⟩;simp only[apb,aoF,aoD];refine⟨fun aV=> ?_,fun aV=> ?_⟩
 ·have hi:i<p.length:=by omega
  have Uf:=ll hi;obtain⟨m,s,a,b,e,hm,hX,aS,ah⟩:=Q8 (Ud _ Uf) (gG _ Uf).1;have ot:(i+1)*q.length<=p.length*q.length:=aoR _ hi;rw[aoX,apX]at ot;rw[e];refine⟨by omega,by omega,kc hm,fun v o bu=>∃j:Nat,v=j/\j<=q.length/\o=bB (c3 ((p.take i).map aN) (q.map aN)++gX (m,bd s a b) ((q.take j).map aN))/\bu=[ez m s a b],fun v _ _=>q.length-v.toNat,⟨0,rfl,by omega,by simp[gX],rfl⟩, ?_⟩;rintro _ _ _ ⟨j,rfl,a7,rfl,rfl⟩;have hz:List.getD [ez m s a b] 0 []=ez m s a b:=rfl;simp only[apb,aoF,aoD,hz];refine⟨fun bp=> ?_,fun bp=> ?_⟩
  ·have aK:j<q.length:=by omega
   have xQ:=ll aK;obtain⟨n,t,x0,d,f,aB,rO,j3,aY⟩:=Q8 (Ue _ xQ) (dH _ xQ).1;simp only[f,kc hm,kc aB,mQ hm,mQ aB,jE hm,jF hm,jA hm,jE aB,jF aB,jA aB,nn,U.toBool,U.bX];refine⟨by omega,by omega,trivial,trivial,trivial,⟨⟨m,rfl,hm,hX⟩,⟨n,rfl,aB,rO⟩⟩,trivial,rfl,rfl,trivial,rfl,rfl,⟨aS.mono (by omega),ah.mono (by omega),j3.mono (by omega),aY.mono (by omega)⟩, ?_⟩;rintro _ rfl _ rfl _ rfl;rw[fg (by omega) (by omega)];refine⟨?_,⟨j+1,rfl,by omega, ?_,trivial⟩,by omega⟩
   ·rw[ff,ao1,yY,gX,aoK,aoK,aoK,apf,aoK,apf,apL,aqV aa,aqV a7];generalize i*q.length=z at*;omega
   ·rw[pJ aK,f,apn,List.map_singleton,mY aB,aaX,<-aqq,q2 _ [_]];rfl
  ·have aK:j=q.length:=by omega
   rw[fg (by omega) (by omega)];refine⟨⟨i+1,rfl,by omega, ?_⟩,by omega⟩;rw[pJ hi,e,apn,List.map_singleton,mY hm,O6,aK,ap2]
 ·have hi:i=p.length:=by omega
  rw[hi,ap2]
  have J_:da 2000000000000000000 (p.map aN):=fun t au=>by
   obtain⟨r,ao,rfl⟩:=aoO.1 au;exact(gG r ao).1 _ (by simp)
  have Ka:da 2000000000000000000 (q.map aN):=fun t au=>by
   obtain⟨r,ao,rfl⟩:=aoO.1 au;exact(dH r ao).1 _ (by simp)
  have hX:=(J_.mul Ka).nk (by decide);have hw:=dz.mul j6 (y9 Ud j6) (y9 Ue kq)
  have AK:∀m,eB m (c3 (p.map aN) (q.map aN))<=c:=fun m=>by
   rcases agB with⟨aa,ad⟩|⟨aa,ad⟩
   ·have:=yG m Ka.len (fun x=>by rw[<-sF];exact ad x) J_.len;rw[aoK]at this;omega
   ·have:=Zj m J_.len (fun x=>by rw[<-sF];exact ad x) Ka.len;rw[aoK]at this;omega
  refine⟨yH hw (by omega) hX AK hle J9 (by rw[yY,aoK,aoK];exact ql), ?_⟩;rintro _ rfl;rw[fp fun t au=>(hX t au).1];exact ae
theorem VE (p:Rows)(K:R->Prop)(h:Cr.T [.d (.av 11 p)] K):LA p K:=by
 obtain⟨aT,ae⟩:=h;unfold LA;refine⟨aT, ?_⟩;rintro _ rfl;refine⟨fun h=> ?_,fun h=> ?_⟩
 ·have h:=aoN h;rw[aoB h,aoB h]at ae;exact ae
 ·have h:=aoP h;rw[aoA h,aoA h]at ae;exact ae
theorem p7 {b:Bool}(h:(!b)=true):b=false:=by simpa using h
theorem p8 {b:Bool}(h:(!b)=false):b=true:=by simpa using h
theorem VZ (v:Int)(K:R->Prop)(h:Ei.T [.d (.int .i64 v)] K):LU v K:=by
 obtain⟨_,ae⟩:=h;unfold LU;simp only[apb,aoF];refine⟨fun h=> ?_,fun aa=>⟨fun h=> ?_,fun ad=>⟨⟨by decide,by decide⟩, ?_⟩⟩⟩
 ·rw[aoA (by omega),aoA (by omega)]at ae;exact ae
 ·rw[aoA (by omega),aoA (by omega)]at ae;exact ae
 ·rintro _ rfl _ rfl _ rfl;rw[aez];refine⟨by omega,by omega,by rw[aoT];exact kc aey, ?_⟩;rw[aoB (by omega),aoB (by omega)]at ae
  have e:(ez dt (cj ((1:Int):Rat)) (cm ((1:Int):Rat)) (cc ((1:Int):Rat))).set v.toNat (.int .i64 1)=hS (dt.set v.toNat 1,nz):=by
   rw[ez,List.set_append_left _ _ (by rw[jv];show v.toNat<8;omega),Cp];rfl
  show K (.tup [.d (.av 11 [(ez dt (cj ((1:Int):Rat)) (cm ((1:Int):Rat)) (cc ((1:Int):Rat))).set v.toNat (.int .i64 1)]), .d (.int .i64 0)]);rw[e];exact ae
theorem RV {e:Int}:∀{p:List ba} {d:Int},da e p->d<=e->jI d p<=e
 |[],_,_,aY=>aY
 |t::p,d,h,aY=>by
  rw[jI];refine RV (fun u hu=>h u (by simp[hu])) ?_;split
  ·have au:=h t (by simp)
   have:∀(l:List Int) (a:Int),a<=e->(∀x∈l,x<=e)->lH a l<=e:=by
    intro l
    induction l with
    |nil=>intro a aS _;exact aS
    |cons x l bM=>
     intro a aS az;rw[lH];refine bM _ ?_ fun y bn=>az y (by simp[bn]);split
     ·exact az x (by simp)
     ·exact aS
   refine this _ _ ?_ fun x ak=>(au.2 x (List.mem_of_mem_drop ak)).2;have c6:=au.1;exact(au.2 _ (jU (by omega))).2
  ·exact aY
theorem Oc {P:List ba}{k:Nat}(hw:dz k P)(he:da 1024 P)(aB:P.length<1000000000){K:R->Prop}(ae:K (.tup [.d (.av 11 (bB P)), .d (.int .i64 0)])):
 cx (bB P)/\∀x:List (List U),(x=if(1024:Int)<jI 0 ((bB P).map aN)then[]else bB P)->∀y:Int,(y=if(1024:Int)<jI 0 ((bB P).map aN)then 9 else 0)->K (.tup [.d (.av 11 x), .d (.int .i64 y)]):=by
 refine⟨Ct hw he.len aB, ?_⟩
 have h:¬(1024:Int)<jI 0 ((bB P).map aN):=by
  rw[fp he.len];have:=RV he (show(0:Int)<=1024 by decide);omega
 rintro _ rfl _ rfl;rw[aoA h,aoA h];exact ae
theorem Vy (g:Nat)(p q:Rows)(K:R->Prop)(h:(zz.T g) [.d (.av 11 p), .d (.av 11 q), .fn g] K):Lu p q K:=by
 unfold zz.T bj at h;simp only[apB]at h;obtain⟨⟨⟨jr,js⟩,A,B,n,m,dM,eu,hle,mz⟩,ae⟩:=h;unfold Lu;refine⟨jr, ?_⟩;rintro _ rfl;refine⟨fun h=> ?_,fun aa=>⟨js, ?_⟩⟩
 ·have e:ec p q=false:=by rw[ec,p7 h];rfl
  rw[e]at ae;exact ae
 ·rintro _ rfl;refine⟨fun h=> ?_,fun ad=> ?_⟩
  ·have e:ec p q=false:=by rw[ec,p7 h,Bool.and_false]
   rw[e]at ae;exact ae
  ·have aa:=p8 aa;have ad:=p8 ad;have e:ec p q=true:=by rw[ec,aa,ad];rfl
   rw[aoB e,aoB e]at ae;have jQ:=(nr aa jr.1).nrm;have eq:=(nr ad js.1).nrm;have wp:=dM.gq;have qG:=eu.gq;have dj:=dM.km;have df:=eu.km;refine⟨sx aa jr dM (by omega), ?_⟩;rintro _ rfl;refine⟨sx ad js eu (by omega), ?_⟩;rintro _ rfl;have Ko:dz (A+B+1) (nrm (p.map aN)++nrm (q.map aN)):=(wp.mono (by omega)).app (qG.mono (by omega))
   have x4:∀x,eB x (nrm (p.map aN)++nrm (q.map aN))<=2:=fun x=>by
    have:=(gI (p.map aN)).kv x;have:=(gI (q.map aN)).kv x;rw[wL];omega
   refine⟨?_, ?_⟩
   ·rw[aaV];exact yH Ko (by omega) ((jQ.app eq).nk (by decide)) x4 (by omega) (by omega) (by rw[ao1];omega)
   ·rintro _ rfl;have dq:=Ko.nrm x4;rw[H7]at dq;have nm:=uB (p.map aN++q.map aN);rw[ao1,aoK,aoK]at nm;have:=dM.len;have:=eu.len;rw[fp jQ.len,fp eq.len,H7];exact Oc dq ((nr aa jr.1).app (nr ad js.1)).nrm (by omega) ae
theorem Vz (g:Nat)(p q:Rows)(K:R->Prop)(h:(zA.T g) [.d (.av 11 p), .d (.av 11 q), .fn g] K):Lv p q K:=by
 unfold zA.T bj at h;simp only[apB]at h;obtain⟨⟨⟨jr,js⟩,A,B,n,m,dM,eu,hle,mz⟩,ae⟩:=h;unfold Lv;refine⟨jr, ?_⟩;rintro _ rfl;refine⟨fun h=> ?_,fun aa=>⟨js, ?_⟩⟩
 ·have e:ec p q=false:=by rw[ec,p7 h];rfl
  rw[e]at ae;exact ae
 ·rintro _ rfl;refine⟨fun h=> ?_,fun ad=> ?_⟩
  ·have e:ec p q=false:=by rw[ec,p7 h,Bool.and_false]
   rw[e]at ae;exact ae
  ·have aa:=p8 aa;have ad:=p8 ad;have e:ec p q=true:=by rw[ec,aa,ad];rfl
   rw[aoB e,aoB e]at ae;have jQ:=(nr aa jr.1).nrm;have eq:=(nr ad js.1).nrm;have wp:=dM.gq;have qG:=eu.gq;have dj:=dM.km;have df:=eu.km;refine⟨sx aa jr dM (by omega), ?_⟩;rintro _ rfl;refine⟨sx ad js eu (by omega), ?_⟩;rintro _ rfl;have w1:dz (A+1) (nrm (p.map aN)):=wp.mono (by omega);have dq:dz (B+1) (nrm (q.map aN)):=qG.mono (by omega);have yb:=fun x=>(gI (p.map aN)).kv x;have F6:=fun x=>(gI (q.map aN)).kv x;refine⟨⟨A+1,1,B+1,1,by omega,by omega,wM w1 (jQ.nk (by decide)),wM dq (eq.nk (by decide)),fun x=>by rw[pM jQ.len];exact yb x,fun x=>by rw[pM eq.len];exact F6 x,by omega,by omega,by rw[ff,ff];omega⟩, ?_⟩;rintro _ rfl;rw[fp jQ.len,fp eq.len];have bR:nrm (nrm (p.map aN)++eM (-1) (nrm (q.map aN)))=nrm (p.map aN++eM (-1) (q.map aN)):=pK fun m=>by rw[mb,mb,wq,wq,ju,ju]
   have bY:dz (A+B+2) (nrm (p.map aN)++eM (-1) (nrm (q.map aN))):=(wp.mono (by omega)).app ((qG.scale xh (aoH _)).mono (by omega))
   have kA:=bY.nrm (c:=2) fun x=>by
    have:=yb x;have:=F6 x;rw[wL,BN];omega
   rw[bR]at kA⊢;have nm:=uB (p.map aN++eM (-1) (q.map aN));rw[ao1,eM,aoK,aoK,aoK,<-eM]at nm;have:=dM.len;have:=eu.len;exact Oc kA ((nr aa jr.1).app ((nr ad js.1).scale _)).nrm (by omega) ae
theorem V0 (p q:Rows)(K:R->Prop)(h:Ej.T [.d (.av 11 p), .d (.av 11 q)] K):LV p q K:=by
 obtain⟨aa,ae⟩:=h;unfold LV;refine⟨aa, ?_⟩;rintro _ rfl _ rfl;exact ae
theorem V1 (p q:Rows)(K:R->Prop)(h:Ek.T [.d (.av 11 p), .d (.av 11 q)] K):LW p q K:=by
 obtain⟨aa,ae⟩:=h;unfold LW;refine⟨aa, ?_⟩;rintro _ rfl _ rfl;exact ae
theorem ID {n:Int}{p q:List ba}:hi n p q=true↔∃v:Nat,v<8/\oA n p q v=true:=by
 unfold hi;simp only[ap8];constructor
 ·rintro(((((((h|h)|h)|h)|h)|h)|h)|h)
  ·exact⟨0,by omega,h⟩
  ·exact⟨1,by omega,h⟩
  ·exact⟨2,by omega,h⟩
  ·exact⟨3,by omega,h⟩
  ·exact⟨4,by omega,h⟩
  ·exact⟨5,by omega,h⟩
  ·exact⟨6,by omega,h⟩
  ·exact⟨7,by omega,h⟩
 ·rintro⟨v,aM,h⟩
  match v,aM with
  |0,_=>simp[h]
  |1,_=>simp[h]
  |2,_=>simp[h]
  |3,_=>simp[h]
  |4,_=>simp[h]
  |5,_=>simp[h]
  |6,_=>simp[h]
  |7,_=>simp[h]
theorem RW {a b:Int}{v:Nat}:∀{p:List ba} {d:Int},(∀t∈p,a<=t.1.getD v 0/\t.1.getD v 0<=b)->a<=d->d<=b->a<=nJ v d p/\nJ v d p<=b
 |[],d,_,aa,ad=>⟨aa,ad⟩
 |t::p,d,h,aa,ad=>by
  rw[nJ];have au:=h t (by simp);refine RW (fun u hu=>h u (by simp[hu])) ?_ ?_
  ·split
   ·exact au.1
   ·exact aa
  ·split
   ·exact au.2
   ·exact ad
theorem Q9 {p:Rows}(h:xu p)(bs:dh p){v:Nat}(aM:v<8):-1000000000000<=mJ (p.map aN) v/\mJ (p.map aN) v<=1000000000000:=by
 refine RW (fun t au=> ?_) (by decide) (by decide);obtain⟨r,ao,rfl⟩:=aoO.1 au;exact h r ao _ (jU (by rw[ek,aoK,apf,(bs r ao).len];omega))
theorem RX (x:Int):(if x<0 then(0:Int)else x)=max x 0:=by omega
theorem VF (p:Rows)(n:Int)(q:Rows)(K:R->Prop)(h:El.T [.d (.av 11 p), .d (.int .i64 n), .d (.av 11 q)] K):LB p n q K:=by
 obtain⟨⟨⟨jr,js⟩,⟨mp,amp⟩,xO,Fu⟩,ae⟩:=h;unfold LB ai;refine⟨fun v=>∃i:Nat,v=i/\i<=8/\∀j,j<i->oA n (p.map aN) (q.map aN) j=false,fun v=>8-v.toNat,⟨0,rfl,by omega,fun j aK=>by omega⟩, ?_⟩;rintro _ ⟨i,rfl,aa,ad⟩;simp only[apb,aoF,aoD];refine⟨fun aV=>⟨⟨jr,by omega,by omega⟩, ?_⟩,fun aV=> ?_⟩
 ·rintro _ rfl;refine⟨⟨js,by omega,by omega⟩, ?_⟩;rintro _ rfl;have cW:=Q9 mp jr.1 (v:=i) (by omega);have c9:=Q9 amp js.1 (v:=i) (by omega);rw[RX,RX];have e:oA n (p.map aN) (q.map aN) i=decide (1024<n*max (mJ (p.map aN) i) 0+max (mJ (q.map aN) i) 0):=rfl;generalize mJ (p.map aN) i=x at*;generalize mJ (q.map aN) i=y at*;have oI:0<=max x 0:=by omega
  have fS:max x 0<=1000000000000:=by omega
  have pE:0<=n*max x 0:=Int.mul_nonneg xO oI;have jo:n*max x 0<=1000*1000000000000:=Int.mul_le_mul Fu fS oI (by decide);have w1:IntKind.wrap .i64 (n*max x 0)=n*max x 0:=bP (by omega);rw[w1,bP (by omega)];refine⟨fun bp=> ?_,fun bp=>⟨⟨i+1,fg (by omega) (by omega),by omega,fun j aK=> ?_⟩,by rw[fg (by omega) (by omega)];omega⟩⟩
  ·have:hi n (p.map aN) (q.map aN)=true:=ID.2 ⟨i,by omega,by rw[e];exact aqi bp⟩;rw[this]at ae;exact ae
  ·by_cases AH:j=i
   ·rw[AH,e];exact apS bp
   ·exact ad j (by omega)
 ·have:hi n (p.map aN) (q.map aN)=false:=by
   cases ca:hi n (p.map aN) (q.map aN)with
   |false=>rfl
   |true=>
    obtain⟨v,aM,mA⟩:=ID.1 ca;rw[ad v (by omega)]at mA;cases mA
  rw[this]at ae;exact ae
theorem da.oD {e:Int}{p:List ba}(h:da e p)(he:e<=1000000000000):xu (bB p):=fun r ao x ak=>by
 obtain⟨t,au,rfl⟩:=aoO.1 ao;have aA:ek (hS t)=t.1:=q_ (h t au).1;rw[aA]at ak;have:=(h t au).2 x ak;omega
theorem da.S1 {e:Int}{p:List ba}{k:Nat}(h:da e p)(he:e<=2000000000000000000)(hw:dz k p):∀r∈bB p,da 2000000000000000000 [aN r]/\eO r:=fun r ao=>by
 refine⟨?_,(n2 hw h.len r ao).row⟩;obtain⟨t,au,rfl⟩:=aoO.1 ao;rw[y6 (h t au).1];intro u hu;rw[apr.1 hu];exact h.mono he t au
theorem V2 (p q:Rows)(K:R->Prop)(h:Em.T [.d (.av 11 p), .d (.av 11 q)] K):LX p q K:=by
 obtain⟨⟨⟨jr,js⟩,A,B,n,m,dM,eu,hle,mz,aj_,aka⟩,ae⟩:=h;unfold LX;refine⟨jr, ?_⟩;rintro _ rfl;refine⟨fun h=> ?_,fun aa=>⟨js, ?_⟩⟩
 ·have e:ec p q=false:=by rw[ec,p7 h];rfl
  rw[o7,e]at ae;exact ae
 ·rintro _ rfl;refine⟨fun h=> ?_,fun ad=> ?_⟩
  ·have e:ec p q=false:=by rw[ec,p7 h,Bool.and_false]
   rw[o7,e]at ae;exact ae
  ·have aa:=p8 aa;have ad:=p8 ad;have e:ec p q=true:=by rw[ec,aa,ad];rfl
   rw[o7,e,aqt,aoB rfl]at ae;have jQ:=(nr aa jr.1).nrm;have eq:=(nr ad js.1).nrm;have wp:=dM.gq;have qG:=eu.gq;refine⟨sx aa jr dM aj_, ?_⟩;rintro _ rfl;refine⟨sx ad js eu aka, ?_⟩;rintro _ rfl;have A7:=dM.km;have h3:=eu.km;have a7:1<=A:=by obtain⟨_,_,g1,_,_,_,g2,_⟩:=dM;omega
   have bl:1<=B:=by obtain⟨_,_,g1,_,_,_,g2,_⟩:=eu;omega
   have yb:=fun x=>(gI (p.map aN)).kv x;have F6:=fun x=>(gI (q.map aN)).kv x;have akb:=uB (p.map aN);have akc:=uB (q.map aN);rw[aoK]at akb akc;have aoc:=jr.2;have aod:=js.2
   have iN:u4 (bB (nrm (p.map aN))) (bB (nrm (q.map aN))):=by
    refine⟨jQ.S1 (by decide) wp,eq.S1 (by decide) qG,A,B,if n*(2*(A+B)+2)<=900000 then n else m,a7,bl,n2 wp jQ.len,n2 qG eq.len, ?_, ?_,by omega, ?_,by rw[ff];omega,by rw[ff];omega⟩
    ·split
     ·exact .inl ⟨by rw[ff];exact A7,fun x=>by rw[pM eq.len];exact F6 x⟩
     ·exact .inr ⟨by rw[ff];exact h3,fun x=>by rw[pM jQ.len];exact yb x⟩
    ·split
     ·assumption
     ·rename_i h;exact hle.resolve_left h
    ·rw[ff,ff];have:=apG A7 h3;omega
   have fin:∀x:List (List U),x=bB (nrm (c3 ((bB (nrm (p.map aN))).map aN) ((bB (nrm (q.map aN))).map aN)))->x=bB (nrm (c3 (p.map aN) (q.map aN))):=by
    rintro _ rfl;rw[fp jQ.len,fp eq.len,C1]
   rw[ff,ff]
   have S2:∀l:List ba,decide ((0:Int)<((l.length:Nat):Int))= !decide (l=[]):=fun l=>by
    cases l with
    |nil=>rfl
    |cons t l=>simp
   rw[S2,S2];refine⟨fun g1=>⟨fun g2=>⟨⟨⟨Ct wp jQ.len (by omega),Ct qG eq.len (by omega)⟩,⟨jQ.oD (by decide),eq.oD (by decide)⟩,by decide,by decide⟩, ?_⟩,fun g2=>⟨iN, ?_⟩⟩,fun g1=>⟨iN, ?_⟩⟩
   ·rintro _ rfl;rw[fp jQ.len,fp eq.len];have tU:lW (nrm (p.map aN)) (nrm (q.map aN))=hi 1 (nrm (p.map aN)) (nrm (q.map aN)):=by rw[lW,g1,g2,aqt,aqt]
    rw[tU]at ae;refine⟨fun h=> ?_,fun h=>⟨iN, ?_⟩⟩
    ·rw[h]at ae;exact ae
    ·rw[h]at ae;intro x ak;rw[fp jQ.len,fp eq.len]at fin;rw[fin x ak];exact ae
   ·have tU:lW (nrm (p.map aN)) (nrm (q.map aN))=false:=by rw[lW,g2,Bool.and_false];rfl
    rw[tU]at ae;intro x ak;rw[fin x ak];exact ae
   ·have tU:lW (nrm (p.map aN)) (nrm (q.map aN))=false:=by rw[lW,g1];rfl
    rw[tU]at ae;intro x ak;rw[fin x ak];exact ae
theorem acr {v:Nat}{p:List ba}{t:ba}(h:t∈u3 v p):∃u∈p,0<u.1.getD v 0/\t=(u.1.set v (u.1.getD v 0-1),u.2*((u.1.getD v 0:Int):Rat)):=by
 obtain⟨u,hu,rfl⟩:=aoO.1 h;rw[apW]at hu;exact⟨u,hu.1,aoN hu.2,rfl⟩
theorem da.u3 {e:Int}{p:List ba}(h:da e p){v:Nat}:da e (u3 v p):=fun t au=>by
 obtain⟨u,hu,bc,rfl⟩:=acr au;refine⟨by rw[aoT];exact(h u hu).1,fun x ak=> ?_⟩;rcases aqU ak with ak|rfl
 ·exact(h u hu).2 x ak
 ·by_cases az:v<u.1.length
  ·have:=(h u hu).2 _ (jU az);omega
  ·rw[aoC,api (by omega)]at bc;simp at bc
theorem acs {n:Int}(h:n.natAbs<4294967296):dd 1 (n:Rat):=by
 refine⟨by rw[Rat.num_intCast];simpa using h,by rw[Rat.den_intCast];decide⟩
theorem dz.u3 {k:Nat}{e:Int}(he:e<4294967296){v:Nat}(aM:v<8){p:List ba}(dO:da e p)(h:dz k p):dz (k+1) (u3 v p):=fun t au=>by
 obtain⟨u,hu,rfl⟩:=aoO.1 au;have hu:=(apW.1 hu).1;have ak:=dO u hu;have ah:=ak.2 _ (jU (m:=u.1) (i:=v) (by have:=ak.1;omega));exact(h u hu).mul (acs (by omega)) (by omega)
theorem adR {m:List Int}{s:Bool}{a b:List Int}(hm:m.length=8){v:Nat}(aM:v<8)(x:Int):(ez m s a b).set v (.int .i64 x)=ez (m.set v x) s a b:=by
 rw[ez,List.set_append_left _ _ (by rw[jv];omega),Cp];rfl
theorem eO.at' {r:Row}(h:eO r){v:Nat}(aM:v<8):(r.take 8).getD v .undef= .int .i64 ((ek r).getD v 0):=by
 rw[<-h.at aM,aoC,apu,aoB aM,<-aoC]
theorem B2 {p:Rows}{r:Row}(ao:r∈p){x:Int}(ak:x∈ek r)(h:x<0\/1024<x):hM p=false:=by
 cases aM:hM p with
 |false=>rfl
 |true=>
  have aa:=aoU.1 aM r ao;have:=aoU.1 aa x ak;simp at this;omega
theorem VR (p:Rows)(K:R->Prop)(h:w7.T [.d (.av 11 p)] K):LL p K:=by
 obtain⟨⟨bs,az⟩,ae⟩:=h;unfold LL ai aP List.aR;refine⟨fun w=>∃i:Nat,w=i/\i<=p.length/\∀j,j<i->tB (ek (p.getD j []))=true,fun w=>p.length-w.toNat,⟨0,rfl,by omega,fun j aK=>by omega⟩, ?_⟩;rintro _ ⟨i,rfl,aa,ad⟩;simp only[apb,aoF,aoD];refine⟨fun aV=> ?_,fun aV=> ?_⟩
 ·have hi:i<p.length:=by omega
  have ao:=bs.get hi;have amo:(ek (p.getD i [])).length=8:=by rw[ek,aoK,apf,ao.len];rfl
  refine⟨by omega,aV,ao.len,ao.len,fun w=>∃j:Nat,w=j/\j<=8/\∀k,k<j->0<=(ek (p.getD i [])).getD k 0/\(ek (p.getD i [])).getD k 0<=1024,fun w=>8-w.toNat,⟨trivial,0,rfl,by omega,fun j aK=>by omega⟩, ?_⟩;rintro _ ⟨j,rfl,a7,bl⟩;simp only[apb,aoF,aoD];refine⟨fun bp=> ?_,fun bp=> ?_⟩
  ·have aK:j<8:=by omega
   simp only[ao.at' aK,U.toInt];have hm:=jU (m:=ek (p.getD i [])) (i:=j) (by omega);refine⟨by omega,bp,rfl,fun b1=> ?_,fun b1=>⟨fun fM=> ?_,fun fM=>⟨trivial,⟨j+1,fg (by omega) (by omega),by omega,fun k ae=> ?_⟩,by rw[fg (by omega) (by omega)];omega⟩⟩⟩
   ·rw[B2 (ll hi) hm (.inl b1)]at ae;exact ae
   ·rw[B2 (ll hi) hm (.inr fM)]at ae;exact ae
   ·by_cases e:k=j
    ·rw[e];omega
    ·exact bl k (by omega)
  ·refine⟨⟨i+1,fg (by omega) (by omega),by omega,fun k ae=> ?_⟩,by rw[fg (by omega) (by omega)];omega⟩
   by_cases e:k=i
   ·rw[e,tB,aoU];intro x ak;obtain⟨n,aB,rfl⟩:=aqj ak;have:=bl n (by omega);rw[aoC,aoQ aB]at this;simpa using this
   ·exact ad k (by omega)
 ·have aM:hM p=true:=aoU.2 fun r ao=>by
   obtain⟨n,aB,rfl⟩:=aqj ao;have:=ad n (by omega);rwa [aoC,aoQ aB]at this
  rw[aM]at ae;exact ae
theorem VG (p q:Rows)(K:R->Prop)(h:DJ.T [.d (.av 11 p), .d (.av 11 q)] K):LC p q K:=by
 obtain⟨⟨gG,dH,A7,h3⟩,ae⟩:=h;unfold LC ai aP List.aR;refine⟨fun h=> ?_,fun h=> ?_⟩
 ·have h:¬(p.length:Int)=q.length:=by simpa using h
  rw[apS fun e=>h (by have:=apg List.length e;simp only[aoK]at this;omega)]at ae;exact ae
 ·have az:(p.length:Int)=q.length:=by simpa using h
  refine⟨fun w=>∃i:Nat,w=i/\i<=p.length/\∀j,j<i->i_ (p.getD j [])=i_ (q.getD j []),fun w=>p.length-w.toNat,⟨0,rfl,by omega,fun j aK=>by omega⟩, ?_⟩;rintro _ ⟨i,rfl,aa,ad⟩;simp only[apb,aoF,aoD];refine⟨fun aV=> ?_,fun aV=> ?_⟩
  ·have hi:i<p.length:=by omega
   have eJ:i<q.length:=by omega
   have cT:i_ (p.getD i [])≠i_ (q.getD i [])->decide (p.map i_=q.map i_)=false:=fun aB=>apS fun e=>aB (by
    have:=apg (fun l:List (List Int×Bool×List Int×List Int)=>l[i]?) e;simp only[apv,aoQ hi,aoQ eJ,apI,aoY]at this
    rw[aoC,aoC,aoQ hi,aoQ eJ];exact this)
   have U5:=gG _ (ll hi);have U6:=dH _ (ll eJ);have ip:=U5.row;have F4:=U6.row;obtain⟨m,s,a,b,e,hm,aS,ah⟩:=U5;obtain⟨n,t,c,d,f,aB,aC,aY⟩:=U6;rw[e,f]at cT;rw[e]at ip;rw[f]at F4;have a7:i_ (ez m s a b)=(m,s,a,b):=by rw[i_,q_ hm,jE hm,jF hm,jA hm];rfl
   have bl:i_ (ez n t c d)=(n,t,c,d):=by rw[i_,q_ aB,jE aB,jF aB,jA aB];rfl
   rw[a7,bl]at cT;have vG:=ip.vw;have eU:=F4.vw;simp only[kc hm,kc aB,mQ hm,mQ aB,jE hm,jF hm,jA hm,jE aB,jF aB,jA aB,nV,U.toBool,U.bX]at vG eU;simp only[e,f,kc hm,kc aB,mQ hm,mQ aB,jE hm,jF hm,jA hm,jE aB,jF aB,jA aB,nV,U.toBool,U.bX];refine⟨by omega,aV,trivial,by omega,by omega,trivial,vG,eU,fun bp=> ?_,fun bp=> ?_⟩
   ·have bp:m≠n:=by simpa using bp
    rw[cT fun e=>bp (apg Prod.fst e)]at ae;exact ae
   ·have bp:m=n:=by simpa using bp
    have:=aS.2;have:=ah.2;have:=aC.2;have:=aY.2;refine⟨by omega,aV,trivial,rfl,rfl,by omega,by omega,trivial,rfl,rfl,⟨by omega,by omega,by omega,by omega⟩, ?_⟩;rintro _ rfl;refine⟨fun b1=> ?_,fun b1=>⟨⟨i+1,fg (by omega) (by omega),by omega,fun j aK=> ?_⟩,by rw[fg (by omega) (by omega)];omega⟩⟩
    ·have b1:¬(s=t/\a=c/\b=d):=aoP (p7 b1);rw[cT fun e=>b1 (by simp only[ao5]at e;exact e.2)]at ae;exact ae
    ·by_cases aG:j=i
     ·have b1:s=t/\a=c/\b=d:=by simpa using b1
      rw[aG,e,f,a7,bl,bp,b1.1,b1.2.1,b1.2.2]
     ·exact ad j (by omega)
  ·have:decide (p.map i_=q.map i_)=true:=aqi (aqQ (by simp;omega) fun n aB mC=>by
    have:=ad n (by rw[aoK]at aB;omega);rw[aoK]at aB mC;rw[aoC,aoC,aoQ aB,aoQ mC]at this
    rw[List.getElem_map,List.getElem_map];exact this)
   rw[this]at ae;exact ae
end ab
end
section
open Go Go.aj
namespace ab
def Ug (x:Nat->Rat):Nat->List Int->Rat
 |_,[]=>1
 |i,a::m=>x i^a.toNat*Ug x (i+1) m
def a_ (x:Nat->Rat)(p:List ba):Rat:=dW (Ug x 0) p
def lj (p:List ba):Prop:=∀t∈p,t.1.length=8/\∀y∈t.1,0<=y
theorem lj.app {p q:List ba}(h:lj p)(g:lj q):lj (p++q):=fun t au=>(apM.1 au).elim (h t) (g t)
theorem lj.nrm {p:List ba}(h:lj p):lj (nrm p):=fun t au=>by
 obtain⟨u,hu,e⟩:=oQ au;rw[<-e];exact h u hu
theorem lj.scale {p:List ba}(h:lj p)(c:Rat):lj (eM c p):=fun t au=>by
 obtain⟨u,hu,rfl⟩:=aoO.1 au;exact h u hu
theorem lj.mul {p q:List ba}(h:lj p)(g:lj q):lj (c3 p q):=fun t au=>by
 obtain⟨u,hu,v,aM,rfl⟩:=uq au;refine⟨by rw[wK _ _ (by rw[(h u hu).1,(g v aM).1])];exact(h u hu).1,fun x ak=> ?_⟩;obtain⟨y,bn,z,bm,rfl⟩:=Cs ak;have:=(h u hu).2 y bn;have:=(g v aM).2 z bm;omega
theorem lj.cons {t:ba}{p:List ba}(h:lj (t::p)):lj p:=fun u hu=>h u (by simp[hu])
def code (N:Nat):List Int->Nat
 |[]=>0
 |a::m=>a.toNat*N^m.length+code N m
def pt (T:Rat)(N n:Nat):Nat->Rat:=fun i=>T^N^(n-1-i)
end ab
end
section
open Go Go.aj
namespace ab
theorem HL {p:List ba}(h:da 1024 p):hM (bB p)=true:=aoU.2 fun r ao=>by
 obtain⟨t,au,rfl⟩:=aoO.1 ao;have e:ek (hS t)=t.1:=q_ (h t au).1;rw[e,tB,aoU];intro x ak;have:=(h t au).2 x ak;simp;omega
theorem y_ {k:Nat}{p:List ba}(h:dz k p)(he:da 1024 p)(aB:p.length<1000000000):cx (bB p):=Ct h he.len aB
theorem C6 {p:List ba}(h:dz 1 p)(c6:∀t∈p,t.1.length=8)(aB:p.length<=2):Raw 4 2 (bB p):=
 H6 (n:=2) (n2 h c6) (aoH _) (by rw[ff];exact aB) (by decide)
theorem Q_ {p q:List ba}(h:dz 1 p)(he:da 1024 p)(g:dz 1 q)(ge:da 1024 q)(aD:p.length<=2)(aZ:q.length<=2):o0 (bB p) (bB q):=
 ⟨⟨y_ h he (by omega),y_ g ge (by omega)⟩,4,4,2,2,C6 h he.len aD,C6 g ge.len aZ,by decide,by decide⟩
theorem adS {p q:List ba}(h:dz 1 p)(he:da 1024 p)(g:dz 1 q)(ge:da 1024 q)(aD:p.length<=2)(aZ:q.length<=2):xg (bB p) (bB q):=
 ⟨⟨y_ h he (by omega),y_ g ge (by omega)⟩,4,4,2,2,C6 h he.len aD,C6 g ge.len aZ, .inl (by decide),by decide,by decide,by decide⟩
theorem Ra {p q:List ba}(h:da 1024 p)(g:da 1024 q):ec (bB p) (bB q)=true:=by rw[ec,HL h,HL g];rfl
theorem zD {e:Int}{p:List ba}(h:(p.all fun t=>decide (t.1.length=8)&&t.1.all fun x=>decide (0<=x)&&decide (x<=e))=true):da e p:=fun t au=>by
 have:=aoU.1 h t au;rw[aoM]at this;refine⟨aoN this.1,fun x ak=> ?_⟩;have:=aoU.1 this.2 x ak;simpa using this
theorem za {p:List ba}(h:∀t∈p,t.2=1\/t.2=-1):dz 1 p:=fun t au=>by
 rcases h t au with e|e<;>rw[e]
 ·exact dd.one
 ·exact xh
structure eD (e:Int)(K n:Nat)(l:Rows):Prop where
 raw:Raw K n l
 eP:da e (l.map aN)
theorem eD.av {e:Int}{K n:Nat}{l:Rows}(h:eD e K n l):dh l:=fun r ao=>(h.raw.av r ao).row
theorem eD.aT {e:Int}{K n:Nat}{l:Rows}(h:eD e K n l)(aB:n<1000000000):cx l:=⟨h.av,by have:=h.raw.len;omega⟩
theorem eD.aY {e:Int}{K n:Nat}{l:Rows}(h:eD e K n l)(he:e<=1024):hM l=true:=aoU.2 fun r ao=>by
 rw[tB,aoU];intro x ak;have:=(h.eP (aN r) (aq4 ao)).2 x ak;simp;omega
theorem eD.aM {e f:Int}{K J n m:Nat}{p q:Rows}(h:eD e K n p)(g:eD f J m q)(he:e<=1024)(aT:f<=1024):ec p q=true:=by rw[ec,h.aY he,g.aY aT];rfl
theorem eD.mono {e f:Int}{K J n m:Nat}{l:Rows}(h:eD e K n l)(he:e<=f)(fF:K<=J)(aB:n<=m):eD f J m l:=⟨h.raw.mono fF aB,h.eP.mono he⟩
theorem eD.of {e:Int}{k n:Nat}{p:List ba}(h:dz k (nrm p))(ae:1<=k)(he:da e p)(aB:(nrm p).length<=n):eD e (k+1) n (bB (nrm p)):=
 ⟨acp h ae he.nrm.len (fun m=>(gI p).kv m) aB,by rw[fp he.nrm.len];exact he.nrm⟩
theorem Raw.pos {K n:Nat}{l:Rows}(h:Raw K n l):1<=K:=by obtain⟨_,_,g1,_,_,_,g2,_⟩:=h;omega
theorem IE {e:Int}(bc:0<=e){v:Nat}:∀{p:List ba} {d:Int},da e p->d<=e->v<8->nJ v d p<=e
 |[],d,_,aY,_=>aY
 |t::p,d,h,aY,aM=>by
  have au:=h t (by simp);have:=au.2 _ (jU (m:=t.1) (i:=v) (by have:=au.1;omega));rw[nJ];exact IE bc (fun u hu=>h u (by simp[hu])) (by split<;>omega) aM
theorem aeB {e f:Int}{p q:List ba}(aD:da e p)(aZ:da f q)(bc:0<=e)(f0:0<=f)(h:e+f<=1024):lW p q=false:=by
 cases ca:lW p q with
 |false=>rfl
 |true=>
  unfold lW at ca;simp only[aoM]at ca;obtain⟨v,aM,ak⟩:=ID.1 ca.2;unfold oA at ak;have ak:=aoN ak;have aa:=IE bc (d:=-1) aD (by omega) aM;have ad:=IE f0 (d:=-1) aZ (by omega) aM;unfold mJ at ak;omega
theorem eD.mul {e f:Int}{K J n m:Nat}{p q:Rows}(h:eD e K n p)(g:eD f J m q)(he:0<=e/\0<=f/\e+f<=1024)(aC:(n*(2*(K+J)+2)<=900000\/m*(2*(K+J)+2)<=900000)/\n*m<=999999999/\n<1000000000/\m<1000000000/\K<=400000/\J<=400000/\1<=n):
 xg p q/\∀{x:Rows} {c:Int},x=bB (if o7 p q=true then nrm (c3 (p.map aN) (q.map aN))else[])->(c=if ec p q=true then(if lW (nrm (p.map aN)) (nrm (q.map aN))=true then 9 else 0)else 2)->
  c=0/\x=bB (nrm (c3 (p.map aN) (q.map aN)))/\eD (e+f) (n*(K+J+1)+1) (n*m) x/\x.map aN=nrm (c3 (p.map aN) (q.map aN)):=by
 obtain⟨aa,ad,ax⟩:=he;obtain⟨fi,fb,k7,r4,r5,x6,KB⟩:=aC;refine⟨⟨⟨h.aT k7,g.aT r4⟩,K,J,n,m,h.raw,g.raw,fi,fb,r5,x6⟩, ?_⟩;have aM:=h.aM g (by omega) (by omega);have ca:=aeB h.eP.nrm g.eP.nrm aa ad ax;have hm:o7 p q=true:=by rw[o7,aM,ca];rfl
 intro x c ak lQ;rw[aoB hm]at ak;rw[aoB aM,ca]at lQ;have eP:=h.eP.mul g.eP;have a7:=h.raw.pos;have bl:=g.raw.pos;have eo:=dz.mul a7 h.raw.gq g.raw.gq
 have w1:dz (n*(K+J+1)) (nrm (c3 (nrm (p.map aN)) (nrm (q.map aN)))):=eo.nrm fun y=>
  aoV (yG y g.eP.nrm.len (fun z=>(gI (q.map aN)).kv z) h.eP.nrm.len) h.raw.km
 rw[C1]at w1
 have len:(nrm (c3 (p.map aN) (q.map aN))).length<=n*m:=by
  rw[<-C1];refine yX ?_;rw[yY];exact apG h.raw.km g.raw.km
 have ae:1<=n*(K+J+1):=Nat.mul_pos KB (by omega);refine⟨lQ,ak, ?_, ?_⟩
 ·rw[ak];exact eD.of w1 ae eP len
 ·rw[ak,fp eP.nrm.len]
theorem eD.core {e:Int}{K J n m:Nat}{p q:Rows}(h:eD e K n p)(g:eD e J m q):eD e (2*(K+J+1)+1) (n+m) (bB (nrm (p.map aN++q.map aN)))/\(bB (nrm (p.map aN++q.map aN))).map aN=nrm (p.map aN++q.map aN):=by
 have eP:=h.eP.app g.eP;have eo:dz (K+J) (nrm (p.map aN)++nrm (q.map aN)):=(h.raw.gq.mono (by omega)).app (g.raw.gq.mono (by omega))
 have w1:=eo.nrm (c:=2) fun y=>by
  have:=(gI (p.map aN)).kv y;have:=(gI (q.map aN)).kv y;rw[wL];omega
 rw[H7]at w1;have len:(nrm (p.map aN++q.map aN)).length<=n+m:=yX (by rw[ao1,aoK,aoK];have:=h.raw.len;have:=g.raw.len;omega);exact⟨eD.of w1 (by omega) eP len,fp eP.nrm.len⟩
theorem eD.add {e:Int}{K J n m:Nat}{p q:Rows}(h:eD e K n p)(g:eD e J m q)(he:e<=1024)(aC:4*(K+J)+20<=900000/\n+m<=999999999):
 o0 p q/\∀{x:Rows} {c:Int},x=bB (if ec p q=true then nrm (p.map aN++q.map aN)else[])->(c=if ec p q=true then 0 else 2)->
  c=0/\x=bB (nrm (p.map aN++q.map aN))/\eD e (2*(K+J+1)+1) (n+m) x/\x.map aN=nrm (p.map aN++q.map aN):=by
 refine⟨⟨⟨h.aT (by omega),g.aT (by omega)⟩,K,J,n,m,h.raw,g.raw,aC.1,aC.2⟩, ?_⟩;have aM:=h.aM g he he;intro x c ak lQ;rw[aoB aM]at ak lQ;obtain⟨a1,a2⟩:=h.core g;subst ak;exact⟨lQ,rfl,a1,a2⟩
theorem eD.sub {e:Int}{K J n m:Nat}{p q:Rows}(h:eD e K n p)(g:eD e J m q)(he:e<=1024)(aC:4*(K+J)+20<=900000/\n+m<=999999999):
 o0 p q/\∀{x:Rows} {c:Int},x=bB (if ec p q=true then nrm (p.map aN++eM (-1) (q.map aN))else[])->(c=if ec p q=true then 0 else 2)->
  c=0/\x=bB (nrm (p.map aN++eM (-1) (q.map aN)))/\eD e (2*(K+J+2)+1) (n+m) x/\x.map aN=nrm (p.map aN++eM (-1) (q.map aN)):=by
 refine⟨⟨⟨h.aT (by omega),g.aT (by omega)⟩,K,J,n,m,h.raw,g.raw,aC.1,aC.2⟩, ?_⟩;have aM:=h.aM g he he;intro x c ak lQ;rw[aoB aM]at ak lQ;have eP:=h.eP.app (g.eP.scale (-1));have eo:dz (K+J+1) (nrm (p.map aN)++eM (-1) (nrm (q.map aN))):=(h.raw.gq.mono (by omega)).app ((g.raw.gq.scale xh (aoH _)).mono (by omega))
 have w1:=eo.nrm (c:=2) fun y=>by
  have:=(gI (p.map aN)).kv y;have:=(gI (q.map aN)).kv y;rw[wL,BN];omega
 have bR:nrm (nrm (p.map aN)++eM (-1) (nrm (q.map aN)))=nrm (p.map aN++eM (-1) (q.map aN)):=pK fun m=>by rw[mb,mb,wq,wq,ju,ju]
 rw[bR]at w1
 have len:(nrm (p.map aN++eM (-1) (q.map aN))).length<=n+m:=yX (by
  rw[ao1,eM,aoK,aoK,aoK];have:=h.raw.len;have:=g.raw.len;omega)
 subst ak;exact⟨lQ,rfl,eD.of w1 (by omega) eP len,fp eP.nrm.len⟩
theorem eD.norm {e:Int}{K n:Nat}{p:Rows}(h:eD e K n p)(he:e<=1024)(aC:K<=400000/\n<1000000000):
 (cx p/\Raw 400000 1000000000 p)/\∀{x:Rows} {c:Int},x=bB (if hM p=true then nrm (p.map aN)else[])->(c=if hM p=true then 0 else 2)->
   c=0/\x=bB (nrm (p.map aN))/\eD e (K+1) n x/\x.map aN=nrm (p.map aN):=by
 refine⟨⟨h.aT aC.2,h.raw.mono aC.1 (by omega)⟩, ?_⟩;have aM:=h.aY he;intro x c ak lQ;rw[aoB aM]at ak lQ;subst ak;exact⟨lQ,rfl,eD.of h.raw.gq h.raw.pos h.eP h.raw.km,fp h.eP.nrm.len⟩
end ab
end
section
open Go Go.aj
namespace ab
theorem Kb {c:Int}(h:c=0){P Q:Prop}(q:Q):((!decide (c=0))=true->P)/\((!decide (c=0))=false->Q):=⟨fun e=>by simp[h]at e,fun _=>q⟩
theorem akd {c:Int}(h:c=0){P Q:Prop}(q:Q):(decide (c=0)=true->Q)/\(decide (c=0)=false->P):=⟨fun _=>q,fun e=>by simp[h]at e⟩
theorem okB {b:Bool}(h:b=true){P Q:Prop}(q:Q):((!b)=true->P)/\((!b)=false->Q):=⟨fun e=>by simp[h]at e,fun _=>q⟩
theorem ake {b:Bool}(h:b=true){P Q:Prop}(q:Q):(b=true->Q)/\(b=false->P):=⟨fun _=>q,fun e=>by simp[h]at e⟩
theorem eD.same {e f:Int}{K J n m:Nat}{x y:Rows}(h:eD e K n x)(g:eD f J m y)(aC:K<=1000000/\J<=1000000/\n<1000000000/\m<1000000000)(e:x=y):
 ((∀r∈x,gZ 1000000 r)/\(∀r∈y,gZ 1000000 r)/\x.length<1000000000/\y.length<1000000000)/\∀{b:Bool},b=decide (x.map i_=y.map i_)->b=true:=
 ⟨⟨fun r ao=>(h.raw.av r ao).mono aC.1,fun r ao=>(g.raw.av r ao).mono aC.2.1,by have:=h.raw.len;omega,by have:=g.raw.len;omega⟩,fun ah=>by rw[ah,e];simp⟩
theorem s4.FA {v:Nat}{r:Row}(h:s4 v r):gZ 4 r:=by
 obtain⟨m,s,a,b,rfl,hm,_,_,aS,ah⟩:=h;exact⟨m,s,a,b,rfl,hm,aS,ah⟩
theorem s4.eP {v:Nat}{l:Rows}(h:∀r∈l,s4 v r):da 2 (l.map aN):=fun t au=>by
 obtain⟨r,ao,rfl⟩:=aoO.1 au;obtain⟨m,s,a,b,rfl,hm,ak,_⟩:=h r ao;rw[mY hm];exact⟨hm,ak⟩
theorem eD.drawn {l:List Int}{a v n:Int}(h:dI l a){k:Nat}(aB:n=k)(aa:1<=k):dI l (kP l a v n).2/\eD 2 (k*(4+1)) k (kP l a v n).1:=by
 obtain⟨ad,ax,aV⟩:=Qa (v:=v) h (show 0<=n by omega);exact⟨ad,H6 (fun r ao=>(aV r ao).FA) (by decide) (by omega) aa,s4.eP aV⟩
end ab
end
section
open Go Go.aj
namespace ab
end ab
end
section
open Go Go.aj
namespace ab
end ab
end
section
open Go Go.aj
namespace ab
def Lp:ab.Row->ab.Row->(R->Prop)->Prop:=
 fun a b K=>∃(aQ:Int->Prop),∃(m:Int->Nat),((false,ag.av 8 [a])=(false,ag.av 8 [a])/\(false,ag.av 8 [b])=(false,ag.av 8 [b])/\aQ 0)/\∀(v5:Int),aQ v5->(decide (v5<8)=true->0<=v5/\v5<8/\(List.getD a v5.toNat U.undef).dg .i64/\0<=v5/\v5<8/\(List.getD b v5.toNat U.undef).dg .i64/\((!decide ((List.getD a v5.toNat U.undef).toInt=(List.getD b v5.toNat U.undef).toInt))=true->0<=v5/\v5<8/\(List.getD a v5.toNat U.undef).dg .i64/\0<=v5/\v5<8/\(List.getD b v5.toNat U.undef).dg .i64/\K (R.d (U.bool (decide ((List.getD b v5.toNat U.undef).toInt<(List.getD a v5.toNat U.undef).toInt)))))/\((!decide ((List.getD a v5.toNat U.undef).toInt=(List.getD b v5.toNat U.undef).toInt))=false->(false,ag.av 8 [a])=(false,ag.av 8 [a])/\(false,ag.av 8 [b])=(false,ag.av 8 [b])/\aQ (ai (v5+1))/\m (ai (v5+1))<m v5))/\(decide (v5<8)=false->K (R.d (U.bool false)))
def Ls:ab.Rows->ab.Row->(R->Prop)->Prop:=
 fun p t K=>∃(aQ:Int->Int->Prop),∃(m:Int->Int->Nat),((false,ag.av (11:Nat) [t])=(false,ag.av (11:Nat) [t])/\aQ (0:Int) (aP p))/\∀(v5 v6:Int),aQ v5 v6->(decide (v5<v6)=true->(0:Int)<=ai ((ai (v5+v6)).tdiv (2:Int))/\ai ((ai (v5+v6)).tdiv (2:Int))<(aP p)/\(List.getD p (ai ((ai (v5+v6)).tdiv (2:Int))).toNat []).length=(11:Nat)/\List.length t=(11:Nat)/\(F5 (List.take (8:Nat) (List.getD p (ai ((ai (v5+v6)).tdiv (2:Int))).toNat []))/\F5 (List.take (8:Nat) t))/\∀x,x=decide (dT (eI (List.take (8:Nat) (List.getD p (ai ((ai (v5+v6)).tdiv (2:Int))).toNat []))) (eI (List.take (8:Nat) t))=(1:Int))->(x=true->(false,ag.av (11:Nat) [t])=(false,ag.av (11:Nat) [t])/\aQ (ai (ai ((ai (v5+v6)).tdiv (2:Int))+(1:Int))) v6/\m (ai (ai ((ai (v5+v6)).tdiv (2:Int))+(1:Int))) v6<m v5 v6)/\(x=false->(false,ag.av (11:Nat) [t])=(false,ag.av (11:Nat) [t])/\aQ v5 (ai ((ai (v5+v6)).tdiv (2:Int)))/\m v5 (ai ((ai (v5+v6)).tdiv (2:Int)))<m v5 v6))/\(decide (v5<v6)=false->(0:Int)<=v5/\v5<=(aP p)/\↑(List.take v5.toNat p).length*(120:Int)<=(70368744177664:Int)/\∃(J:Int->List (List U)->List (List U)->Prop),((decide (v5<(aP p))=true->(0:Int)<=v5/\v5<(aP p)/\(List.aR p v5).length=(11:Nat)/\List.length t=(11:Nat)/\(∀(x:U),x∈List.take (8:Nat) (List.aR p v5)->x.dg .i64)/\(∀(x:U),x∈List.take (8:Nat) t->x.dg .i64)/\(decide (List.map U.toInt (List.take (8:Nat) (List.aR p v5))=List.map U.toInt (List.take (8:Nat) t))=true->(List.getD t (8:Nat) U.undef).isBool/\(List.getD t (9:Nat) U.undef).eQ .u32/\(List.getD t (10:Nat) U.undef).eQ .u32/\(0:Int)<=v5/\v5<(aP p)/\((List.aR p v5).fs).isBool/\((List.aR p v5).eK).eQ .u32/\((List.aR p v5).eL).eQ .u32/\(bS (1000000:Nat) (List.getD t (9:Nat) U.undef).bX/\bS (1000000:Nat) (List.getD t (10:Nat) U.undef).bX/\bS (1000000:Nat) ((List.aR p v5).eK).bX/\bS (1000000:Nat) ((List.aR p v5).eL).bX)/\∀x,x=cj (bd (List.getD t (8:Nat) U.undef).toBool (List.getD t (9:Nat) U.undef).bX (List.getD t (10:Nat) U.undef).bX+bd ((List.aR p v5).fs).toBool ((List.aR p v5).eK).bX ((List.aR p v5).eL).bX)->∀aX,aX=cm (bd (List.getD t (8:Nat) U.undef).toBool (List.getD t (9:Nat) U.undef).bX (List.getD t (10:Nat) U.undef).bX+bd ((List.aR p v5).fs).toBool ((List.aR p v5).eK).bX ((List.aR p v5).eL).bX)->∀aU,aU=cc (bd (List.getD t (8:Nat) U.undef).toBool (List.getD t (9:Nat) U.undef).bX (List.getD t (10:Nat) U.undef).bX+bd ((List.aR p v5).fs).toBool ((List.aR p v5).eK).bX ((List.aR p v5).eL).bX)->J (ai (v6+(1:Int))) [setRow t (8:Nat) [U.bool x,U.af .u32 aX,U.af .u32 aU]] (List.take v5.toNat p))/\(decide (List.map U.toInt (List.take (8:Nat) (List.aR p v5))=List.map U.toInt (List.take (8:Nat) t))=false->J v6 [t] (List.take v5.toNat p)))/\(decide (v5<(aP p))=false->J v6 [t] (List.take v5.toNat p)))/\∀(v6:Int) (aq bu:List (List U)),J v6 aq bu->((aq.getD (0:Nat) []).fs).isBool/\((aq.getD (0:Nat) []).eK).eQ .u32/\((aq.getD (0:Nat) []).eL).eQ .u32/\(bS (90000000:Nat) ((aq.getD (0:Nat) []).eK).bX/\bS (90000000:Nat) ((aq.getD (0:Nat) []).eL).bX)/\∀x,x=cj (bd ((aq.getD (0:Nat) []).fs).toBool ((aq.getD (0:Nat) []).eK).bX ((aq.getD (0:Nat) []).eL).bX)->∀aX,aX=cm (bd ((aq.getD (0:Nat) []).fs).toBool ((aq.getD (0:Nat) []).eK).bX ((aq.getD (0:Nat) []).eL).bX)->∀aU,aU=cc (bd ((aq.getD (0:Nat) []).fs).toBool ((aq.getD (0:Nat) []).eK).bX ((aq.getD (0:Nat) []).eL).bX)->(((aq.set (0:Nat) (setRow (aq.getD (0:Nat) []) (8:Nat) [U.bool x,U.af .u32 aX,U.af .u32 aU])).getD (0:Nat) []).fs).isBool/\(((aq.set (0:Nat) (setRow (aq.getD (0:Nat) []) (8:Nat) [U.bool x,U.af .u32 aX,U.af .u32 aU])).getD (0:Nat) []).eK).eQ .u32/\(((aq.set (0:Nat) (setRow (aq.getD (0:Nat) []) (8:Nat) [U.bool x,U.af .u32 aX,U.af .u32 aU])).getD (0:Nat) []).eL).eQ .u32/\(bS (90000000:Nat) (((aq.set (0:Nat) (setRow (aq.getD (0:Nat) []) (8:Nat) [U.bool x,U.af .u32 aX,U.af .u32 aU])).getD (0:Nat) []).eK).bX/\bS (90000000:Nat) (((aq.set (0:Nat) (setRow (aq.getD (0:Nat) []) (8:Nat) [U.bool x,U.af .u32 aX,U.af .u32 aU])).getD (0:Nat) []).eL).bX)/\∀bo,bo=lS (bd (((aq.set (0:Nat) (setRow (aq.getD (0:Nat) []) (8:Nat) [U.bool x,U.af .u32 aX,U.af .u32 aU])).getD (0:Nat) []).fs).toBool (((aq.set (0:Nat) (setRow (aq.getD (0:Nat) []) (8:Nat) [U.bool x,U.af .u32 aX,U.af .u32 aU])).getD (0:Nat) []).eK).bX (((aq.set (0:Nat) (setRow (aq.getD (0:Nat) []) (8:Nat) [U.bool x,U.af .u32 aX,U.af .u32 aU])).getD (0:Nat) []).eL).bX)->((!decide (bo=(0:Int)))=true->((aq.set (0:Nat) (setRow (aq.getD (0:Nat) []) (8:Nat) [U.bool x,U.af .u32 aX,U.af .u32 aU])).getD (0:Nat) []).length=(11:Nat)/\(↑bu.length+↑[(aq.set (0:Nat) (setRow (aq.getD (0:Nat) []) (8:Nat) [U.bool x,U.af .u32 aX,U.af .u32 aU])).getD (0:Nat) []].length)*(120:Int)<=(70368744177664:Int)/\(0:Int)<=v6/\v6<=(aP p)/\(↑(bu++[(aq.set (0:Nat) (setRow (aq.getD (0:Nat) []) (8:Nat) [U.bool x,U.af .u32 aX,U.af .u32 aU])).getD (0:Nat) []]).length+↑(List.drop v6.toNat p).length)*(120:Int)<=(70368744177664:Int)/\K (R.d (U.av (11:Nat) (bu++[(aq.set (0:Nat) (setRow (aq.getD (0:Nat) []) (8:Nat) [U.bool x,U.af .u32 aX,U.af .u32 aU])).getD (0:Nat) []]++List.drop v6.toNat p))))/\((!decide (bo=(0:Int)))=false->(0:Int)<=v6/\v6<=(aP p)/\(↑bu.length+↑(List.drop v6.toNat p).length)*(120:Int)<=(70368744177664:Int)/\K (R.d (U.av (11:Nat) (bu++List.drop v6.toNat p)))))
def Lt:ab.Rows->(R->Prop)->Prop:=
 fun p K=>∃(aQ:List (List U)->Int->Prop),∃(m:List (List U)->Int->Nat),aQ [] 0/\∀(v3:List (List U)) (v4:Int),aQ v3 v4->(decide (v4<(aP p))=true->0<=v4/\v4<(aP p)/\(List.aR p v4).length=11/\(vT v3/\gZ 900000 (List.aR p v4))/\∀x,x=bB (ins (aN (List.aR p v4)) (List.map aN v3))->aQ x (ai (v4+1))/\m x (ai (v4+1))<m v3 v4)/\(decide (v4<(aP p))=false->K (R.d (U.av 11 v3)))
def LF:ab.Rows->ab.Rows->(R->Prop)->Prop:=
 fun p q K=>∃(aQ:List (List U)->Int->Prop),∃(m:List (List U)->Int->Nat),aQ p 0/\∀(v5:List (List U)) (v6:Int),aQ v5 v6->(decide (v6<(aP q))=true->0<=v6/\v6<(aP q)/\(List.aR q v6).length=11/\(vT v5/\gZ 900000 (List.aR q v6))/\∀x,x=bB (ins (aN (List.aR q v6)) (List.map aN v5))->aQ x (ai (v6+1))/\m x (ai (v6+1))<m v5 v6)/\(decide (v6<(aP q))=false->K (R.d (U.av 11 v5)))
def Lw:ab.Rows->(R->Prop)->Prop:=
 fun p K=>∃(aQ:Int->Prop),∃(m:Int->Nat),aQ 0/\∀(v3:Int),aQ v3->(decide (v3<(aP p))=true->∃(fK:Int->Prop),∃(fv:Int->Nat),fK 0/\∀(v4:Int),fK v4->(decide (v4<8)=true->0<=v3/\v3<(aP p)/\0<=v4/\v4<8/\((List.aR p v3).getD v4.toNat U.undef).dg .i64/\(decide (((List.aR p v3).getD v4.toNat U.undef).toInt<0)=true->K (R.d (U.bool false)))/\(decide (((List.aR p v3).getD v4.toNat U.undef).toInt<0)=false->0<=v3/\v3<(aP p)/\0<=v4/\v4<8/\((List.aR p v3).getD v4.toNat U.undef).dg .i64/\(decide (1024<((List.aR p v3).getD v4.toNat U.undef).toInt)=true->K (R.d (U.bool false)))/\(decide (1024<((List.aR p v3).getD v4.toNat U.undef).toInt)=false->fK (ai (v4+1))/\fv (ai (v4+1))<fv v4)))/\(decide (v4<8)=false->aQ (ai (v3+1))/\m (ai (v3+1))<m v3))/\(decide (v3<(aP p))=false->K (R.d (U.bool true)))
def Lx:ab.Rows->ab.Rows->(R->Prop)->Prop:=
 fun p q K=>cx p/\∀x,x=hM p->(x=true->cx q/\∀x,x=hM q->(x=true->Raw 900000 999999999 p/\∀x,x=bB (nrm (List.map aN p))->Raw 900000 999999999 q/\∀aX,aX=bB (nrm (List.map aN q))->((∀(r:List U),r∈x->gZ 1000000 r)/\(∀(r:List U),r∈aX->gZ 1000000 r)/\x.length<1000000000/\aX.length<1000000000)/\∀aU,aU=decide (List.map i_ x=List.map i_ aX)->K (R.d (U.bool aU)))/\(x=false->K (R.d (U.bool false))))/\(x=false->K (R.d (U.bool false)))
end ab
end
section
open Go Go.aj
namespace ab
theorem eO.agC {r:Row}(h:eO r){v:Nat}(aM:v<8):ek (r.set v (.int .i64 0))=(ek r).set v 0/\tr (r.set v (.int .i64 0))=tr r/\(r.set v (.int .i64 0)).length=11/\(ek r).length=8:=by
 obtain⟨oI,fS,gi,iy,jL,jM,oJ,r6,s,a,b,rfl⟩:=h
 have e:∀m:List Int,m.length=8->∀s a b,ek ((ez m s a b).set v (.int .i64 0))=(ek (ez m s a b)).set v 0/\tr ((ez m s a b).set v (.int .i64 0))=tr (ez m s a b)/\((ez m s a b).set v (.int .i64 0)).length=11/\(ek (ez m s a b)).length=8:=fun m hm s a b=>by
  have rQ:(m.set v 0).length=8:=by rw[aoT,hm]
  rw[adR hm aM,q_ hm,q_ rQ,Eb hm,Eb rQ,kc rQ];exact⟨rfl,rfl,rfl,hm⟩
 exact e [oI,fS,gi,iy,jL,jM,oJ,r6] rfl s a b
end ab
end
section
open Go Go.aj
namespace ab
theorem Vs (a b:Row)(K:R->Prop)(h:Cu.T [.rw 8 a, .rw 8 b] K):Lp a b K:=by
 obtain⟨⟨⟨m,rfl,hm⟩,n,rfl,aB⟩,ae⟩:=h;unfold Lp ai;rw[nn,nn]at ae;refine⟨fun v=>∃i:Nat,v=i/\i<=8/\∀j,j<i->m.getD j 0=n.getD j 0,fun v=>8-v.toNat,⟨rfl,rfl,0,rfl,by omega,fun j aK=>by omega⟩, ?_⟩;rintro _ ⟨i,rfl,aa,ad⟩;simp only[apb,aoF,aoD];have e:=wC i (by omega:i<=m.length) (by omega:i<=n.length) ad;refine⟨fun aV=> ?_,fun aV=> ?_⟩
 ·have hi:i<8:=by omega
  simp only[wJ m i (by omega),wJ n i (by omega),U.toInt];have aS:i<m.length:=by omega
  have ah:i<n.length:=by omega
  rw[apZ (i:=i) aS,apZ (i:=i) (l:=n) ah,dT]at e;have g1:m.getD i 0=m[i]:=by simp[aoC,aS]
  have g2:n.getD i 0=n[i]:=by simp[aoC,ah]
  rw[<-g1,<-g2]at e;refine⟨by omega,by omega,rfl,by omega,by omega,rfl,fun bp=>⟨by omega,by omega,rfl,by omega,by omega,rfl, ?_⟩,fun bp=> ?_⟩
  ·have bp:¬m.getD i 0=n.getD i 0:=by simpa using bp
   have:decide (dT m n=1)=decide (n.getD i 0<m.getD i 0):=by
    rw[aqv,e];split
    ·omega
    ·split<;>omega
   rw[<-this];exact ae
  ·have bp:m.getD i 0=n.getD i 0:=by simpa using bp
   rw[fg (by omega) (by omega)];refine⟨trivial,trivial,⟨i+1,rfl,by omega,fun j aK=> ?_⟩,by omega⟩
   by_cases q:j=i
   ·rw[q];exact bp
   ·exact ad j (by omega)
 ·rw[aqx (by omega:m.length<=i),aqx (by omega:n.length<=i),dT]at e;rw[e]at ae;exact ae
theorem VA (p:Rows)(K:R->Prop)(h:C3.T [.d (.av 11 p)] K):Lw p K:=by
 obtain⟨⟨bs,az⟩,ae⟩:=h;unfold Lw ai aP List.aR;refine⟨fun w=>∃i:Nat,w=i/\i<=p.length/\∀j,j<i->tB (ek (p.getD j []))=true,fun w=>p.length-w.toNat,⟨0,rfl,by omega,fun j aK=>by omega⟩, ?_⟩;rintro _ ⟨i,rfl,aa,ad⟩;simp only[apb,aoF,aoD];refine⟨fun aV=> ?_,fun aV=> ?_⟩
 ·have hi:i<p.length:=by omega
  have ao:=bs.get hi;have c6:=(ao.agC (v:=0) (by omega)).2.2.2;refine⟨fun w=>∃k:Nat,w=k/\k<=8/\∀j,j<k->0<=(ek (p.getD i [])).getD j 0/\(ek (p.getD i [])).getD j 0<=1024,fun w=>8-w.toNat,⟨0,rfl,by omega,fun j aK=>by omega⟩, ?_⟩;rintro _ ⟨k,rfl,a7,bl⟩;simp only[aoD];refine⟨fun bp=> ?_,fun bp=> ?_⟩
  ·have akf:k<8:=by omega
   have hH:=jU (m:=ek (p.getD i [])) (i:=k) (by omega);rw[ao.at akf];simp only[U.toInt];refine⟨by omega,by omega,by omega,by omega,rfl,fun b1=> ?_,fun b1=>⟨by omega,by omega,by omega,by omega,rfl,fun fM=> ?_,fun fM=>⟨⟨k+1,fg (by omega) (by omega),by omega,fun j aK=> ?_⟩,by rw[fg (by omega) (by omega)];omega⟩⟩⟩
   ·rw[B2 (ll hi) hH (.inl b1)]at ae;exact ae
   ·rw[B2 (ll hi) hH (.inr fM)]at ae;exact ae
   ·by_cases q:j=k
    ·rw[q];omega
    ·exact bl j (by omega)
  ·obtain rfl:k=8:=by omega
   refine⟨⟨i+1,fg (by omega) (by omega),by omega,fun j aK=> ?_⟩,by rw[fg (by omega) (by omega)];omega⟩
   by_cases q:j=i
   ·rw[q,tB,aoU];intro x ak;obtain⟨n,aB,rfl⟩:=aqj ak;have:=bl n (by omega);rw[aoC,aoQ aB]at this;simpa using this
   ·exact ad j (by omega)
 ·have:hM p=true:=aoU.2 fun r ao=>by
   obtain⟨n,aB,rfl⟩:=aqj ao;have:=ad n (by omega);rwa [aoC,aoQ aB]at this
  rw[this]at ae;exact ae
def mK:ba:=([],0)
theorem O7 {P:List ba}{j:Nat}(h:j<P.length):(bB P).getD j []=hS (P.getD j mK):=by
 rw[P8 (t:=P.getD j mK)];rw[aoQ h,aoC,aoQ h];rfl
theorem Hq {P:List ba}{j:Nat}(h:j<P.length):P.getD j mK∈P:=by
 rw[aoC,aoQ h];exact apJ h
theorem Qb {x y:List Int}(h:fT x y)(g:fT y x):False:=BZ _ (sj _ _ _ h g)
theorem RY {t:ba}:∀{P:List ba} {lo:Nat},fw P->lo<=P.length->(∀j,j<lo->fT (P.getD j mK).1 t.1)->(∀j,lo<=j->j<P.length->¬fT (P.getD j mK).1 t.1)->
 ins t P=if lo<P.length/\(P.getD lo mK).1=t.1 then P.take lo++((if t.2+(P.getD lo mK).2=0 then[]else[(t.1,t.2+(P.getD lo mK).2)])++P.drop (lo+1))else P.take lo++((if t.2=0 then[]else[t])++P.drop lo)
 |[],lo,_,h,_,_=>by
  have:lo=0:=by simpa using h
  subst this;rw[aoA (by simp),ins];split<;>rfl
 |u::P,0,aB,_,_,ad=>by
  have h:=ad 0 (by omega) (by simp);simp only[aq1]at h⊢;rw[ins]
  by_cases e:t.1=u.1
  ·rw[aoB e,aoB (show 0<(u::P).length/\u.1=t.1 from⟨by simp,e.symm⟩),Rat.add_comm u.2 t.2,e];split<;>simp
  ·have g:dT t.1 u.1=1:=(Cl e).resolve_right h;rw[aoA e,aoB g,aoA (show ¬(0<(u::P).length/\u.1=t.1)from fun x=>e x.2.symm)];split<;>simp
 |u::P,lo+1,aB,az,aa,ad=>by
  have g:fT u.1 t.1:=by simpa using aa 0 (by omega)
  have bM:=RY (t:=t) (P:=P) (lo:=lo) aB.tail (by simpa using az) (fun j aK=>by simpa using aa (j+1) (by omega)) fun j aK h1=>by simpa using ad (j+1) (by omega) (by simpa using h1)
  rw[ins,aoA fun e=>xf g e.symm,aoA fun e=>Qb g e,bM];simp only[List.getD_cons_succ,apj,Nat.add_lt_add_iff_right,List.take_succ_cons,List.drop_succ_cons,ap0];split<;>rfl
theorem RZ {P:List ba}(h:fw P){i j:Nat}(vj:i<j)(aK:j<P.length):fT (P.getD i mK).1 (P.getD j mK).1:=by
 have:=List.pairwise_iff_getElem.1 h.1 i j (by omega) aK vj;rwa [aoC,aoC,aoQ (by omega:i<P.length),aoQ aK]
theorem R0 {t:ba}(h:t.1.length=8):(hS t).getD 8 .undef= .bool (cj t.2)/\(hS t).getD 9 .undef= .af .u32 (cm t.2)/\(hS t).getD 10 .undef= .af .u32 (cc t.2)/\(hS t).length=11/\(hS t).take 8=c8 t.1:=by
 rw[y5];exact⟨jE h,jF h,jA h,kc h,mQ h⟩
theorem Vv (p:Rows)(t:Row)(K:R->Prop)(h:C2.T [.d (.av 11 p), .rw 11 t] K):Ls p t K:=by
 obtain⟨⟨⟨P,rfl,hn,c6,l4,lZ⟩,m,s,a,b,rfl,hm,aS,ah⟩,ae⟩:=h;rw[fp c6,mY hm]at ae;unfold Ls ai aP List.aR List.fs List.eK List.eL;simp only[ff,kc hm,mQ hm,nn,jE hm,jF hm,jA hm,U.toBool,U.bX]
 refine⟨fun v w=>∃lo hi:Nat,v=lo/\w=hi/\lo<=hi/\hi<=P.length/\(∀j,j<lo->fT (P.getD j mK).1 m)/\∀j,hi<=j->j<P.length->¬fT (P.getD j mK).1 m,fun v w=>(w-v).toNat,
  ⟨trivial,0,P.length,rfl,rfl,by omega,by omega,fun j aK=>by omega,fun j aK h1=>by omega⟩, ?_⟩
 rintro _ _ ⟨lo,hi,rfl,rfl,aa,ad,ax,aV⟩;simp only[apb,aoF,aoD];refine⟨fun bp=> ?_,fun bp=> ?_⟩
 ·have bG:lo<hi:=by omega
  have aA:IntKind.wrap .i64 ((lo:Int)+hi)=((lo+hi:Nat):Int):=by rw[fg (by omega) (by omega)];omega
  have aG:IntKind.wrap .i64 (((lo+hi:Nat):Int).tdiv 2)=(((lo+hi)/2:Nat):Int):=by
   rw[aqX (by omega),fg (by omega) (by omega)];omega
  rw[aA,aG];simp only[aoD];generalize an0:(lo+hi)/2=oD;have q1:lo<=oD/\oD<hi:=by omega
  have FC:oD<P.length:=by omega
  obtain⟨dG,dD,ei,lf,A8⟩:=R0 (c6 _ (Hq FC));simp only[O7 FC,lf,A8,nn];refine⟨by omega,by omega,trivial,trivial,⟨⟨_,rfl,c6 _ (Hq FC)⟩,m,rfl,hm⟩, ?_⟩;rintro _ rfl;simp only[apb,aoF]
  refine⟨fun b1=>⟨trivial,⟨oD+1,hi,fg (by omega) (by omega),rfl,by omega,ad,fun j aK=> ?_,aV⟩,by rw[fg (by omega) (by omega)];omega⟩,
   fun b1=>⟨trivial,⟨lo,oD,rfl,rfl,by omega,by omega,ax,fun j aK h1 g=> ?_⟩,by omega⟩⟩
  ·by_cases q:j=oD
   ·rw[q];exact b1
   ·exact sj _ _ _ (RZ hn (by omega:j<oD) FC) b1
  ·by_cases q:j=oD
   ·rw[q]at g;exact b1 g
   ·exact b1 (sj _ _ _ (RZ hn (by omega:oD<j) h1) g)
 ·obtain rfl:lo=hi:=by omega
  have cK:=RY (t:=(m,bd s a b)) hn ad ax aV;have Fz:((bB P).take lo).length=lo:=by rw[apf,ff];omega
  have xJ:dd 900000 (bd s a b):= .of aS ah (by omega);rw[Fz]
  refine⟨by omega,by omega,by omega,fun v o bu=>∃(H:Nat) (gT:Bool) (b5 ey:List Int),v=H/\H<=P.length/\o=[ez m gT b5 ey]/\bu=(bB P).take lo/\bS 2000000 b5/\bS 2000000 ey/\dd 2000000 (bd gT b5 ey)/\
   ins (m,bd s a b) P=P.take lo++((if bd gT b5 ey=0 then[]else[(m,bd gT b5 ey)])++P.drop H), ?_, ?_⟩
  ·refine⟨fun b1=> ?_,fun b1=>⟨lo,s,a,b,rfl,ad,by simp,by simp,aS.mono (by decide),ah.mono (by decide),xJ.mono (by decide),by rw[cK,aoA (by omega)]⟩⟩;have hV:lo<P.length:=by omega
   have rD:=Hq hV;obtain⟨dG,dD,ei,lf,A8⟩:=R0 (c6 _ rD);have hu:=l4 _ rD;rw[O7 hV,lf,A8,nV,nV];simp only[dG,dD,ei,U.toBool,U.bX,mc];refine⟨by omega,by omega,trivial,trivial,fun x ak=> ?_,fun x ak=> ?_,fun fM=> ?_,fun fM=>⟨lo,s,a,b,rfl,ad,by simp,by simp,aS.mono (by decide),ah.mono (by decide),xJ.mono (by decide),by rw[cK,aoA fun q=>fM q.2]⟩⟩
   ·obtain⟨y,_,rfl⟩:=aoO.1 ak;rfl
   ·obtain⟨y,_,rfl⟩:=aoO.1 ak;rfl
   ·refine⟨trivial,rfl,rfl,by omega,by omega,trivial,rfl,rfl,⟨aS.mono (by decide),ah.mono (by decide),hu.num.mono (by decide),hu.den.mono (by decide)⟩, ?_⟩;rintro _ rfl _ rfl _ rfl;have ay:=xJ.add hu;rw[zm hm];refine⟨lo+1,cj (bd s a b+(P.getD lo mK).2),cm (bd s a b+(P.getD lo mK).2),cc (bd s a b+(P.getD lo mK).2),fg (by omega) (by omega),by omega,by simp,by simp,ay.num.mono (by decide),ay.den.mono (by decide),by rw[mc];exact ay.mono (by decide), ?_⟩;rw[cK,aoB ⟨hV,fM⟩,mc]
  ·rintro _ _ _ ⟨H,gT,b5,ey,rfl,g1,rfl,rfl,g2,g3,g4,g5⟩;simp only[aq1,List.set_cons_zero,jE hm,jF hm,jA hm,U.toBool,U.bX,aoD];refine⟨trivial,rfl,rfl,⟨g2.mono (by decide),g3.mono (by decide)⟩, ?_⟩;rintro _ rfl _ rfl _ rfl;rw[zm hm,Fz];simp only[jE hm,jF hm,jA hm,U.toBool,U.bX,mc,kc hm,apL];have aY:((bB P).drop H).length=P.length-H:=by rw[apP,ff]
   refine⟨trivial,rfl,rfl,⟨g4.num.mono (by decide),g4.den.mono (by decide)⟩, ?_⟩;rintro _ rfl;rw[g5]at ae;refine⟨fun b1=> ?_,fun b1=> ?_⟩
   ·have b1:¬bd gT b5 ey=0:=fun e=>by rw[e]at b1;simp[wI.2 rfl]at b1
    rw[aoA b1,q2,q2]at ae;refine⟨trivial,by omega,by omega,by omega,by rw[ao1,Fz,aY,apL];omega, ?_⟩;rw[aqq];simpa[bB,y5,aqA,List.map_drop]using ae
   ·have b1:bd gT b5 ey=0:=by
     have:lS (bd gT b5 ey)=0:=by simpa using b1
     exact wI.1 this
    rw[aoB b1,List.nil_append,q2]at ae;refine⟨by omega,by omega,by rw[aY];omega, ?_⟩;simpa[bB,aqA,List.map_drop]using ae
theorem O8:∀(p acc:List ba),fw acc->p.foldl (fun a t=>ins t a) acc=nrm (acc++p)
 |[],acc,h=>by rw[aqc,p0 h];rfl
 |t::p,acc,h=>by
  rw[aqM,O8 p _ (H2 t h)];refine pK fun m=> ?_;rw[mb,mb,jT,HF,<-jT];rw[cG,dl];split<;>grind
theorem Qc (p:List ba)(t:ba):ins t (nrm p)=nrm (p++[t]):=by
 have:=O8 [t] (nrm p) (gI p);rw[aqM,List.foldl_nil]at this;rw[this];exact pK fun m=>by rw[mb,mb,ju]
theorem Raw.part {K n:Nat}{a b:Rows}(h:Raw K n (a++b)):Raw K n a:=by
 obtain⟨k,c,aa,ad,ax,aV,bp,b1⟩:=h;exact⟨k,c,aa,fun r ao=>ad r (by simp[ao]),fun m=>by have:=ax m;rw[yT]at this;omega,aV,bp,by rw[ao1]at b1;omega⟩
theorem Raw.s_ {K n:Nat}{a:Rows}(h:Raw K n a):∀t∈a.map aN,t.1.length=8:=fun t au=>by
 obtain⟨r,ao,rfl⟩:=aoO.1 au;exact(h.av r ao).len
theorem yZ {p:List ba}(h:∀t∈p,t.1.length=8):∀t∈nrm p,t.1.length=8:=fun t au=>by
 obtain⟨u,hu,e⟩:=oQ au;rw[<-e];exact h u hu
theorem Raw.KC {n:Nat}{a:Rows}(h:Raw 900000 n a)(aB:n<1000000000):vT (bB (nrm (a.map aN))):=
 ⟨_,rfl,gI _,yZ h.s_,h.gq,by have:=h.km;omega⟩
theorem Vw (p:Rows)(K:R->Prop)(h:Cv.T [.d (.av 11 p)] K):Lt p K:=by
 obtain⟨dS,ae⟩:=h;have az:=dS.len;unfold Lt ai aP List.aR;refine⟨fun o v=>∃i:Nat,v=i/\i<=p.length/\o=bB (nrm ((p.take i).map aN)),fun _ v=>p.length-v.toNat,⟨0,rfl,by omega,rfl⟩, ?_⟩;rintro _ _ ⟨i,rfl,aa,rfl⟩;simp only[apb,aoF,aoD];refine⟨fun aV=> ?_,fun aV=> ?_⟩
 ·have hi:i<p.length:=by omega
  have ao:=dS.av _ (ll hi);have aD:Raw 900000 999999999 (p.take i):=Raw.part (b:=p.drop i) (by rw[List.take_append_drop];exact dS);refine⟨by omega,by omega,ao.row.len,⟨aD.KC (by decide),ao⟩, ?_⟩;rintro _ rfl;refine⟨⟨i+1,fg (by omega) (by omega),by omega, ?_⟩,by rw[fg (by omega) (by omega)];omega⟩;rw[fp (yZ aD.s_),Qc,pJ hi,apn];rfl
 ·obtain rfl:i=p.length:=by omega
  rw[ap2];exact ae
theorem VJ (p q:Rows)(K:R->Prop)(h:Eo.T [.d (.av 11 p), .d (.av 11 q)] K):LF p q K:=by
 obtain⟨⟨⟨P,rfl,hn,c6,l4,lZ⟩,dS⟩,ae⟩:=h;have az:=dS.len;rw[ao1]at az;unfold LF ai aP List.aR;refine⟨fun o v=>∃i:Nat,v=i/\i<=q.length/\o=bB (nrm ((bB P++q.take i).map aN)),fun _ v=>q.length-v.toNat,⟨0,rfl,by omega,by rw[List.take_zero,aqc,fp c6,p0 hn]⟩, ?_⟩;rintro _ _ ⟨i,rfl,aa,rfl⟩;simp only[apb,aoF,aoD];refine⟨fun aV=> ?_,fun aV=> ?_⟩
 ·have hi:i<q.length:=by omega
  have ao:=dS.av _ (List.mem_append_right _ (ll hi));have aD:Raw 900000 999999999 (bB P++q.take i):=Raw.part (b:=q.drop i) (by rw[aqq,List.take_append_drop];exact dS);refine⟨by omega,by omega,ao.row.len,⟨aD.KC (by decide),ao⟩, ?_⟩;rintro _ rfl;refine⟨⟨i+1,fg (by omega) (by omega),by omega, ?_⟩,by rw[fg (by omega) (by omega)];omega⟩;rw[fp (yZ aD.s_),Qc,pJ hi,<-aqq,apn (l₂:=[q.getD i []])];rfl
 ·obtain rfl:i=q.length:=by omega
  rw[ap2,apn];exact ae
theorem IF {a b:List Int}(aS:a.length=8)(ah:b.length=8):(ds a b).length=8:=by rw[wK _ _ (by omega)];exact aS
theorem VB (p q:Rows)(K:R->Prop)(h:C4.T [.d (.av 11 p), .d (.av 11 q)] K):Lx p q K:=by
 obtain⟨⟨⟨aT,dS⟩,amq,F7⟩,ae⟩:=h;unfold Lx;rw[xV,ec]at ae;refine⟨aT, ?_⟩;rintro _ rfl;refine⟨fun h=>⟨amq, ?_⟩,fun h=> ?_⟩
 ·rw[h,aqt]at ae;rintro _ rfl;refine⟨fun ad=>⟨dS, ?_⟩,fun ad=> ?_⟩
  ·rw[ad,aqt]at ae;rintro _ rfl;refine⟨F7, ?_⟩;rintro _ rfl;refine⟨⟨fun r ao=>(n2 dS.gq (yZ dS.s_) r ao).mono (by decide),fun r ao=>(n2 F7.gq (yZ F7.s_) r ao).mono (by decide),by rw[ff];have:=dS.km;omega,by rw[ff];have:=F7.km;omega⟩, ?_⟩;rintro _ rfl;exact ae
  ·rw[ad,Bool.false_and]at ae;exact ae
 ·rw[h,Bool.false_and,Bool.false_and]at ae;exact ae
theorem Qd (t:ba)(q:List ba)(m:List Int):cG (c3 [t] q) m=cG (gX t q) m:=by rw[jT,jT,qV,Hi,dW,dW];grind
theorem Od (p r q:List ba)(m:List Int):cG (c3 (p++r) q) m=cG (c3 p q) m+cG (c3 r q) m:=by
 rw[jT,jT,jT,qV,qV,qV,Cm]
end ab
end
section
open Go Go.aj
namespace ab
end ab
end
section
open Go Go.aj
namespace ab
def l6 (v k:Nat):ba:=(dt.set v (k:Int),1)
theorem fw.filter {p:List ba}(h:fw p)(f:ba->Bool):fw (p.filter f):=⟨h.1.sublist List.filter_sublist,fun t au=>h.2 t (apW.1 au).1⟩
end ab
end
section
open Go Go.aj
namespace ab
def LY:ab.Row->ab.Row->(R->Prop)->Prop:=
 fun(a b:ab.Row) (K:R->Prop)=>∃(aQ:Int->List (List U)->List (List U)->List (List U)->Prop),∃(m:Int->List (List U)->List (List U)->List (List U)->Nat),aQ (0:Int) [a] [b] [[U.int IntKind.i64 (0:Int),U.int IntKind.i64 (0:Int),U.int IntKind.i64 (0:Int),U.int IntKind.i64 (0:Int),U.int IntKind.i64 (0:Int),U.int IntKind.i64 (0:Int),U.int IntKind.i64 (0:Int),U.int IntKind.i64 (0:Int)]]/\∀(cp:Int) (aq bu br:List (List U)),aQ cp aq bu br->(decide (cp<(8:Int))=true->(0:Int)<=cp/\cp<(8:Int)/\U.dg (List.getD (List.getD aq (0:Nat) []) (Int.toNat cp) U.undef) IntKind.i64/\(0:Int)<=cp/\cp<(8:Int)/\U.dg (List.getD (List.getD bu (0:Nat) []) (Int.toNat cp) U.undef) IntKind.i64/\(decide (U.toInt (List.getD (List.getD aq (0:Nat) []) (Int.toNat cp) U.undef)<U.toInt (List.getD (List.getD bu (0:Nat) []) (Int.toNat cp) U.undef))=true->List.length (List.getD (List.set br (0:Nat) [U.int IntKind.i64 (0:Int),U.int IntKind.i64 (0:Int),U.int IntKind.i64 (0:Int),U.int IntKind.i64 (0:Int),U.int IntKind.i64 (0:Int),U.int IntKind.i64 (0:Int),U.int IntKind.i64 (0:Int),U.int IntKind.i64 (0:Int)]) (0:Nat) [])=(8:Nat)/\K (R.tup [R.rw (8:Nat) (List.getD (List.set br (0:Nat) [U.int IntKind.i64 (0:Int),U.int IntKind.i64 (0:Int),U.int IntKind.i64 (0:Int),U.int IntKind.i64 (0:Int),U.int IntKind.i64 (0:Int),U.int IntKind.i64 (0:Int),U.int IntKind.i64 (0:Int),U.int IntKind.i64 (0:Int)]) (0:Nat) []),R.d (U.bool false)]))/\(decide (U.toInt (List.getD (List.getD aq (0:Nat) []) (Int.toNat cp) U.undef)<U.toInt (List.getD (List.getD bu (0:Nat) []) (Int.toNat cp) U.undef))=false->(0:Int)<=cp/\cp<(8:Int)/\U.dg (List.getD (List.getD aq (0:Nat) []) (Int.toNat cp) U.undef) IntKind.i64/\(0:Int)<=cp/\cp<(8:Int)/\U.dg (List.getD (List.getD bu (0:Nat) []) (Int.toNat cp) U.undef) IntKind.i64/\(0:Int)<=cp/\cp<(8:Int)/\aQ (ai (cp+(1:Int))) (List.set aq (0:Nat) (List.set (List.getD aq (0:Nat) []) (Int.toNat cp) (U.int IntKind.i64 (ai (U.toInt (List.getD (List.getD aq (0:Nat) []) (Int.toNat cp) U.undef)-U.toInt (List.getD (List.getD bu (0:Nat) []) (Int.toNat cp) U.undef)))))) bu br/\m (ai (cp+(1:Int))) (List.set aq (0:Nat) (List.set (List.getD aq (0:Nat) []) (Int.toNat cp) (U.int IntKind.i64 (ai (U.toInt (List.getD (List.getD aq (0:Nat) []) (Int.toNat cp) U.undef)-U.toInt (List.getD (List.getD bu (0:Nat) []) (Int.toNat cp) U.undef)))))) bu br<m cp aq bu br))/\(decide (cp<(8:Int))=false->List.length (List.getD aq (0:Nat) [])=(8:Nat)/\List.length (List.getD (List.set br (0:Nat) (List.getD aq (0:Nat) [])) (0:Nat) [])=(8:Nat)/\K (R.tup [R.rw (8:Nat) (List.getD (List.set br (0:Nat) (List.getD aq (0:Nat) [])) (0:Nat) []),R.d (U.bool true)]))
def L2:ab.Rows->ab.Rows->(R->Prop)->Prop:=
 fun(p q:ab.Rows) (K:R->Prop)=>∃(aQ:List (List U)->List (List U)->Prop),∃(m:List (List U)->List (List U)->Nat),aQ p []/\∀(v0 aq:List (List U)),aQ v0 aq->(decide ((0:Int)<aP v0)=true->(0:Int)<=(0:Int)/\(0:Int)<aP v0/\List.length (List.getD v0 (0:Nat) [])=(11:Nat)/\(0:Int)<=(0:Int)/\(0:Int)<aP q/\List.length (List.getD q (0:Nat) [])=(11:Nat)/\((∃(x:List Int),List.take (8:Nat) (List.getD v0 (0:Nat) [])=ab.c8 x/\ab.qg x)/\∃(y:List Int),List.take (8:Nat) (List.getD q (0:Nat) [])=ab.c8 y/\ab.qg y)/\∀(x:Bool),x=ab.g_ (ab.eI (List.take (8:Nat) (List.getD v0 (0:Nat) []))) (ab.eI (List.take (8:Nat) (List.getD q (0:Nat) [])))->((!x)=true->K (R.tup [R.d (U.av (11:Nat) []),R.d (U.bool false)]))/\((!x)=false->(0:Int)<=(0:Int)/\(0:Int)<aP v0/\U.isBool (List.getD (List.getD v0 (0:Nat) []) (8:Nat) U.undef)/\U.eQ (List.getD (List.getD v0 (0:Nat) []) (9:Nat) U.undef) IntKind.u32/\U.eQ (List.getD (List.getD v0 (0:Nat) []) (10:Nat) U.undef) IntKind.u32/\(0:Int)<=(0:Int)/\(0:Int)<aP q/\U.isBool (List.getD (List.getD q (0:Nat) []) (8:Nat) U.undef)/\U.eQ (List.getD (List.getD q (0:Nat) []) (9:Nat) U.undef) IntKind.u32/\U.eQ (List.getD (List.getD q (0:Nat) []) (10:Nat) U.undef) IntKind.u32/\(ab.bS (1000000:Nat) (U.bX (List.getD (List.getD v0 (0:Nat) []) (9:Nat) U.undef))/\ab.bS (1000000:Nat) (U.bX (List.getD (List.getD v0 (0:Nat) []) (10:Nat) U.undef))/\ab.bS (1000000:Nat) (U.bX (List.getD (List.getD q (0:Nat) []) (9:Nat) U.undef))/\ab.bS (1000000:Nat) (U.bX (List.getD (List.getD q (0:Nat) []) (10:Nat) U.undef)))/\∀(x:Bool),x=ab.m3 (!ab.pA (ab.bd (U.toBool (List.getD (List.getD q (0:Nat) []) (8:Nat) U.undef)) (U.bX (List.getD (List.getD q (0:Nat) []) (9:Nat) U.undef)) (U.bX (List.getD (List.getD q (0:Nat) []) (10:Nat) U.undef)))) (ab.bd (U.toBool (List.getD (List.getD v0 (0:Nat) []) (8:Nat) U.undef)) (U.bX (List.getD (List.getD v0 (0:Nat) []) (9:Nat) U.undef)) (U.bX (List.getD (List.getD v0 (0:Nat) []) (10:Nat) U.undef))/ab.bd (U.toBool (List.getD (List.getD q (0:Nat) []) (8:Nat) U.undef)) (U.bX (List.getD (List.getD q (0:Nat) []) (9:Nat) U.undef)) (U.bX (List.getD (List.getD q (0:Nat) []) (10:Nat) U.undef)))->∀(aX:List Int),aX=ab.m4 (!ab.pA (ab.bd (U.toBool (List.getD (List.getD q (0:Nat) []) (8:Nat) U.undef)) (U.bX (List.getD (List.getD q (0:Nat) []) (9:Nat) U.undef)) (U.bX (List.getD (List.getD q (0:Nat) []) (10:Nat) U.undef)))) (ab.bd (U.toBool (List.getD (List.getD v0 (0:Nat) []) (8:Nat) U.undef)) (U.bX (List.getD (List.getD v0 (0:Nat) []) (9:Nat) U.undef)) (U.bX (List.getD (List.getD v0 (0:Nat) []) (10:Nat) U.undef))/ab.bd (U.toBool (List.getD (List.getD q (0:Nat) []) (8:Nat) U.undef)) (U.bX (List.getD (List.getD q (0:Nat) []) (9:Nat) U.undef)) (U.bX (List.getD (List.getD q (0:Nat) []) (10:Nat) U.undef)))->∀(aU:List Int),aU=ab.m5 (!ab.pA (ab.bd (U.toBool (List.getD (List.getD q (0:Nat) []) (8:Nat) U.undef)) (U.bX (List.getD (List.getD q (0:Nat) []) (9:Nat) U.undef)) (U.bX (List.getD (List.getD q (0:Nat) []) (10:Nat) U.undef)))) (ab.bd (U.toBool (List.getD (List.getD v0 (0:Nat) []) (8:Nat) U.undef)) (U.bX (List.getD (List.getD v0 (0:Nat) []) (9:Nat) U.undef)) (U.bX (List.getD (List.getD v0 (0:Nat) []) (10:Nat) U.undef))/ab.bd (U.toBool (List.getD (List.getD q (0:Nat) []) (8:Nat) U.undef)) (U.bX (List.getD (List.getD q (0:Nat) []) (9:Nat) U.undef)) (U.bX (List.getD (List.getD q (0:Nat) []) (10:Nat) U.undef)))->∀(bo:Int),(bo=if ab.pA (ab.bd (U.toBool (List.getD (List.getD q (0:Nat) []) (8:Nat) U.undef)) (U.bX (List.getD (List.getD q (0:Nat) []) (9:Nat) U.undef)) (U.bX (List.getD (List.getD q (0:Nat) []) (10:Nat) U.undef)))=true then(3:Int)else(0:Int))->List.length (ab.c8 (if ab.g_ (ab.eI (List.take (8:Nat) (List.getD v0 (0:Nat) []))) (ab.eI (List.take (8:Nat) (List.getD q (0:Nat) [])))=true then ab.hs (ab.eI (List.take (8:Nat) (List.getD v0 (0:Nat) []))) (ab.eI (List.take (8:Nat) (List.getD q (0:Nat) [])))else ab.dt))=(8:Nat)/\(0:Int)<=(0:Int)/\(0:Int)<aP ([HAppend.hAppend (ab.c8 (if ab.g_ (ab.eI (List.take (8:Nat) (List.getD v0 (0:Nat) []))) (ab.eI (List.take (8:Nat) (List.getD q (0:Nat) [])))=true then ab.hs (ab.eI (List.take (8:Nat) (List.getD v0 (0:Nat) []))) (ab.eI (List.take (8:Nat) (List.getD q (0:Nat) [])))else ab.dt)) [U.bool x,U.af IntKind.u32 aX,U.af IntKind.u32 aU]])/\List.length (HAppend.hAppend (ab.c8 (if ab.g_ (ab.eI (List.take (8:Nat) (List.getD v0 (0:Nat) []))) (ab.eI (List.take (8:Nat) (List.getD q (0:Nat) [])))=true then ab.hs (ab.eI (List.take (8:Nat) (List.getD v0 (0:Nat) []))) (ab.eI (List.take (8:Nat) (List.getD q (0:Nat) [])))else ab.dt)) [U.bool x,U.af IntKind.u32 aX,U.af IntKind.u32 aU])=(11:Nat)/\(aP aq+aP ([HAppend.hAppend (ab.c8 (if ab.g_ (ab.eI (List.take (8:Nat) (List.getD v0 (0:Nat) []))) (ab.eI (List.take (8:Nat) (List.getD q (0:Nat) [])))=true then ab.hs (ab.eI (List.take (8:Nat) (List.getD v0 (0:Nat) []))) (ab.eI (List.take (8:Nat) (List.getD q (0:Nat) [])))else ab.dt)) [U.bool x,U.af IntKind.u32 aX,U.af IntKind.u32 aU]]))*(120:Int)<=(70368744177664:Int)/\ab.u4 [HAppend.hAppend (ab.c8 (if ab.g_ (ab.eI (List.take (8:Nat) (List.getD v0 (0:Nat) []))) (ab.eI (List.take (8:Nat) (List.getD q (0:Nat) [])))=true then ab.hs (ab.eI (List.take (8:Nat) (List.getD v0 (0:Nat) []))) (ab.eI (List.take (8:Nat) (List.getD q (0:Nat) [])))else ab.dt)) [U.bool x,U.af IntKind.u32 aX,U.af IntKind.u32 aU]] q/\∀(ck:List (List U)),ck=ab.bB (ab.nrm (ab.c3 (List.map ab.aN [HAppend.hAppend (ab.c8 (if ab.g_ (ab.eI (List.take (8:Nat) (List.getD v0 (0:Nat) []))) (ab.eI (List.take (8:Nat) (List.getD q (0:Nat) [])))=true then ab.hs (ab.eI (List.take (8:Nat) (List.getD v0 (0:Nat) []))) (ab.eI (List.take (8:Nat) (List.getD q (0:Nat) [])))else ab.dt)) [U.bool x,U.af IntKind.u32 aX,U.af IntKind.u32 aU]]) (List.map ab.aN q)))->(∃(k:Nat),∃(c:Nat),∃(j:Nat),∃(d:Nat),(1:Nat)<=k/\(1:Nat)<=j/\(∀(r:List U),r∈v0->ab.fm k r)/\(∀(r:List U),r∈ck->ab.fm j r)/\(∀(m:List Int),ab.gm m v0<=c)/\(∀(m:List Int),ab.gm m ck<=d)/\(1:Nat)<=d/\(c+(1:Nat))*((2:Nat)*(k+d*(j+(2:Nat)))+(2:Nat))<=(900000:Nat)/\List.length v0+List.length ck<=(1000000000:Nat))/\∀(de:List (List U)),de=ab.bB (ab.nrm (HAppend.hAppend (List.map ab.aN v0) (ab.eM (-1:Rat) (List.map ab.aN ck))))->aQ de (HAppend.hAppend aq [HAppend.hAppend (ab.c8 (if ab.g_ (ab.eI (List.take (8:Nat) (List.getD v0 (0:Nat) []))) (ab.eI (List.take (8:Nat) (List.getD q (0:Nat) [])))=true then ab.hs (ab.eI (List.take (8:Nat) (List.getD v0 (0:Nat) []))) (ab.eI (List.take (8:Nat) (List.getD q (0:Nat) [])))else ab.dt)) [U.bool x,U.af IntKind.u32 aX,U.af IntKind.u32 aU]])/\m de (HAppend.hAppend aq [HAppend.hAppend (ab.c8 (if ab.g_ (ab.eI (List.take (8:Nat) (List.getD v0 (0:Nat) []))) (ab.eI (List.take (8:Nat) (List.getD q (0:Nat) [])))=true then ab.hs (ab.eI (List.take (8:Nat) (List.getD v0 (0:Nat) []))) (ab.eI (List.take (8:Nat) (List.getD q (0:Nat) [])))else ab.dt)) [U.bool x,U.af IntKind.u32 aX,U.af IntKind.u32 aU]])<m v0 aq))/\(decide ((0:Int)<aP v0)=false->ab.jC aq/\∀(x:List (List U)),x=ab.bB (ab.nrm (List.map ab.aN aq))->K (R.tup [R.d (U.av (11:Nat) x),R.d (U.bool true)]))
def LG:ab.Rows->ab.Rows->(R->Prop)->Prop:=
 fun(p q:ab.Rows) (K:R->Prop)=>ab.cx p/\∀(x:Bool),x=ab.hM p->((!x)=true->K (R.tup [R.d (U.av (11:Nat) []),R.d (U.int IntKind.i64 (2:Int))]))/\((!x)=false->ab.cx q/\∀(x:Bool),x=ab.hM q->((!x)=true->K (R.tup [R.d (U.av (11:Nat) []),R.d (U.int IntKind.i64 (2:Int))]))/\((!x)=false->ab.jC p/\∀(x:List (List U)),x=ab.bB (ab.nrm (List.map ab.aN p))->ab.jC q/\∀(aX:List (List U)),aX=ab.bB (ab.nrm (List.map ab.aN q))->(decide (aP aX=(0:Int))=true->K (R.tup [R.d (U.av (11:Nat) []),R.d (U.int IntKind.i64 (3:Int))]))/\(decide (aP aX=(0:Int))=false->(ab.EY x/\ab.EY aX/\ab.uR (List.map ab.aN x) (List.map ab.aN aX))/\∀(aU:List (List U)),aU=ab.bB (ab.FB (List.map ab.aN x) (List.map ab.aN aX))->∀(bo:Bool),bo=(ab.jJ (List.map ab.aN x) (List.map ab.aN aX)).2->((!bo)=true->K (R.tup [R.d (U.av (11:Nat) []),R.d (U.int IntKind.i64 (16:Int))]))/\((!bo)=false->K (R.tup [R.d (U.av (11:Nat) aU),R.d (U.int IntKind.i64 (0:Int))])))))
def K7:List Int->(R->Prop)->Prop:=
 fun(l:List Int) (K:R->Prop)=>True/\∀(x:List Int),x=List.take (1000:Nat) l->∀(aX:Int),aX=(0:Int)->∀(aU:Int),aU=(0:Int)->(ab.dI x aX/\((0:Int)<=(3:Int)/\(3:Int)<=(8:Int))/\(0:Int)<=(4:Int)/\(4:Int)<=(1000:Int))/\∀(bo:List Int),bo=x->∀(ck:Int),ck=(ab.kP x aX (3:Int) (4:Int)).2->∀(de:Int),de=aU->∀(di:List (List U)),di=(ab.kP x aX (3:Int) (4:Int)).1->(ab.dI bo ck/\((0:Int)<=(3:Int)/\(3:Int)<=(8:Int))/\(0:Int)<=(3:Int)/\(3:Int)<=(1000:Int))/\∀(x:List Int),x=bo->∀(dp:Int),dp=(ab.kP bo ck (3:Int) (3:Int)).2->∀(dK:Int),dK=de->∀(cX:List (List U)),cX=(ab.kP bo ck (3:Int) (3:Int)).1->(ab.dI x dp/\((0:Int)<=(3:Int)/\(3:Int)<=(8:Int))/\(0:Int)<=(1:Int)/\(1:Int)<=(1000:Int))/\∀(e6:List Int),e6=x->∀(fB:Int),fB=(ab.kP x dp (3:Int) (1:Int)).2->∀(gb:Int),gb=dK->∀(iw:List (List U)),iw=(ab.kP x dp (3:Int) (1:Int)).1->ab.xg di cX/\∀(x:List (List U)),x=ab.bB (if ab.o7 di cX=true then ab.nrm (ab.c3 (List.map ab.aN di) (List.map ab.aN cX))else[])->∀(jl:Int),(jl=if ab.ec di cX=true then if ab.lW (ab.nrm (List.map ab.aN di)) (ab.nrm (List.map ab.aN cX))=true then(9:Int)else(0:Int)else(2:Int))->((!decide (jl=(0:Int)))=true->K (R.d (U.bool false)))/\((!decide (jl=(0:Int)))=false->((ab.cx x/\ab.Raw (400000:Nat) (999999999:Nat) x)/\(ab.cx cX/\ab.Raw (400000:Nat) (999999999:Nat) cX)/\(¬ab.nrm (List.map ab.aN cX)=[]->ab.ec x cX=true->ab.uR (ab.nrm (List.map ab.aN x)) (ab.nrm (List.map ab.aN cX))))/\∀(ny:List (List U)),ny=ab.bB (if ab.lX x cX=(0:Int)then ab.nrm (ab.jJ (ab.nrm (List.map ab.aN x)) (ab.nrm (List.map ab.aN cX))).1 else[])->∀(o6:Int),o6=ab.lX x cX->ab.Raw (900000:Nat) (999999999:Nat) cX/\∀(rA:List (List U)),rA=ab.bB (ab.nrm (List.map ab.aN cX))->(decide (aP rA=(0:Int))=true->(decide (o6=(3:Int))=true->True/\∀(x:Bool),x=true->K (R.d (U.bool x)))/\(decide (o6=(3:Int))=false->K (R.d (U.bool false))))/\(decide (aP rA=(0:Int))=false->((!decide (o6=(0:Int)))=true->K (R.d (U.bool false)))/\((!decide (o6=(0:Int)))=false->((ab.cx ny/\ab.Raw (900000:Nat) (999999999:Nat) ny)/\ab.cx di/\ab.Raw (900000:Nat) (999999999:Nat) di)/\∀(I8:Bool),I8=ab.xV ny di->((!I8)=true->K (R.d (U.bool false)))/\((!I8)=false->ab.Raw (900000:Nat) (999999999:Nat) iw/\∀(I9:List (List U)),I9=ab.bB (ab.nrm (List.map ab.aN iw))->(ab.vT x/\ab.Raw (900000:Nat) (999999999:Nat) (HAppend.hAppend x I9))/\∀(o8:List (List U)),o8=ab.bB (ab.nrm (HAppend.hAppend (List.map ab.aN x) (List.map ab.aN I9)))->((ab.cx o8/\ab.Raw (400000:Nat) (999999999:Nat) o8)/\(ab.cx cX/\ab.Raw (400000:Nat) (999999999:Nat) cX)/\(¬ab.nrm (List.map ab.aN cX)=[]->ab.ec o8 cX=true->ab.uR (ab.nrm (List.map ab.aN o8)) (ab.nrm (List.map ab.aN cX))))/\∀(x:List (List U)),x=ab.bB (if ab.lX o8 cX=(0:Int)then ab.nrm (ab.jJ (ab.nrm (List.map ab.aN o8)) (ab.nrm (List.map ab.aN cX))).1 else[])->∀(zY:Int),zY=ab.lX o8 cX->((!decide (zY=(0:Int)))=true->(decide (zY=(16:Int))=true->(decide (aP x=(0:Int))=true->True/\∀(x:Bool),x=true->K (R.d (U.bool x)))/\(decide (aP x=(0:Int))=false->K (R.d (U.bool false))))/\(decide (zY=(16:Int))=false->K (R.d (U.bool false))))/\((!decide (zY=(0:Int)))=false->ab.xg x cX/\∀(EZ:List (List U)),EZ=ab.bB (if ab.o7 x cX=true then ab.nrm (ab.c3 (List.map ab.aN x) (List.map ab.aN cX))else[])->∀(I_:Int),(I_=if ab.ec x cX=true then if ab.lW (ab.nrm (List.map ab.aN x)) (ab.nrm (List.map ab.aN cX))=true then(9:Int)else(0:Int)else(2:Int))->(decide (I_=(0:Int))=true->((ab.cx EZ/\ab.Raw (900000:Nat) (999999999:Nat) EZ)/\ab.cx o8/\ab.Raw (900000:Nat) (999999999:Nat) o8)/\∀(x:Bool),x=ab.xV EZ o8->(x=true->True/\∀(x:Bool),x=true->K (R.d (U.bool x)))/\(x=false->K (R.d (U.bool false))))/\(decide (I_=(0:Int))=false->K (R.d (U.bool false))))))))
end ab
end
