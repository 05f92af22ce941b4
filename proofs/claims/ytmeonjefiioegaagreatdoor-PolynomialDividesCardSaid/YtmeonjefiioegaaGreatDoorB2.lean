/- Helpers for the statements: facts about numbers, fractions and polynomials as lists, and the proofs of the conditions. Condition: none. -/
import Derived.Test.YtmeonjefiioegaaGreatDoorB1
section
open Go Go.aj
namespace ab
theorem Hr:∀{a b c:List Int},a.length=b.length->c.length=a.length->dT (ds a c) (ds b c)=dT a b
 |[],[],[],_,_=>rfl
 |[],[],_::_,_,h=>by simp at h
 |[],_::_,_,h,_=>by simp at h
 |_::_,[],_,h,_=>by simp at h
 |_::_,_::_,[],_,h=>by simp at h
 |a::x,b::y,c::z,h,g=>by
  rw[ds,ds,dT,dT,Hr (by simpa using h) (by simpa using g)]
  by_cases aa:a<b
  ·rw[aoB aa,aoB (by omega)]
  ·rw[aoA aa,aoA (by omega)]
   by_cases ad:b<a
   ·rw[aoB ad,aoB (by omega)]
   ·rw[aoA ad,aoA (by omega)]
theorem Rb {a b c:List Int}(aS:a.length=8)(ah:b.length=8)(aC:c.length=8)(h:fT a b):fT (ds a c) (ds b c):=by
 unfold fT;rw[Hr (by omega) (by omega)];exact h
theorem HM {a b c:List Int}(aS:a.length=8)(ah:b.length=8)(aC:c.length=8)(h:fT a b):fT (ds c a) (ds c b):=by
 rw[B0 c a,B0 c b];exact Rb aS ah aC h
theorem yI {m:List Int}:∀{p:List ba},(∀t∈p,t.1≠m)->cG p m=0
 |[],_=>rfl
 |t::p,h=>by rw[cG,aoA (h t (by simp)),yI fun u hu=>h u (by simp[hu])];grind
theorem Qe {p:List ba}{m:List Int}(h:cG p m≠0):∃t∈p,t.1=m:=by
 refine Classical.byContradiction fun aB=>h (yI fun t au e=>aB ⟨t,au,e⟩)
theorem sg {p:List ba}(h:fw p){t:ba}(au:t∈p):cG p t.1=t.2:=by
 induction p with
 |nil=>cases au
 |cons u p bM=>
  rcases aoW.1 au with rfl|Uh
  ·exact wz h
  ·have bg:fT u.1 t.1:=(apT.1 h.1).1 t Uh;rw[cG,aoA (xf bg),bM h.tail Uh];grind
theorem C7 {p:List ba}(h:fw p){t:ba}(au:t∈p):t.1=(cu p).1\/fT (cu p).1 t.1:=by
 cases p with
 |nil=>cases au
 |cons u p=>
  rcases aoW.1 au with rfl|au
  ·exact .inl rfl
  ·exact .inr ((apT.1 h.1).1 t au)
theorem kL {p:List ba}(h:p≠[]):cu p∈p:=by
 cases p with
 |nil=>exact absurd rfl h
 |cons u p=>simp[cu]
theorem acu {p:List ba}(h:fw p){m:List Int}(bc:cG p m≠0)(aa:∀t∈p,t.1=m\/fT m t.1):p≠[]/\cu p=(m,cG p m):=by
 obtain⟨t,au,e⟩:=Qe bc;have cT:p≠[]:=fun e=>by rw[e]at au;cases au
 refine⟨cT, ?_⟩;have hm:=kL cT
 have aG:(cu p).1=m:=by
  rcases C7 h au with g|g
  ·rw[<-e,g]
  ·rcases aa _ hm with k|k
   ·exact k
   ·rw[e]at g;exact(Qb g k).elim
 have:=sg h hm;rw[aG]at this;rw[this,<-aG]
theorem lead {S Q:List ba}(gh:fw S)(dH:fw Q)(vU:∀t∈S,t.1.length=8)(fx:∀t∈Q,t.1.length=8)(vC:S≠[])(gj:Q≠[]):
 nrm (c3 S Q)≠[]/\cu (nrm (c3 S Q))=(ds (cu S).1 (cu Q).1,(cu S).2*(cu Q).2):=by
 obtain⟨s,S',rfl⟩:∃s S',S=s::S':=by cases S with|nil=>exact absurd rfl vC|cons s S'=>exact⟨s,S',rfl⟩
 obtain⟨q,jg,rfl⟩:∃q jg,Q=q::jg:=by cases Q with|nil=>exact absurd rfl gj|cons s S'=>exact⟨s,S',rfl⟩
 have aA:cu (s::S')=s:=rfl;have aG:cu (q::jg)=q:=rfl;have ls:=vU s (by simp);have h3:=fx q (by simp);rw[aA,aG];obtain⟨U7,_⟩:=apT.1 gh.1;obtain⟨KD,_⟩:=apT.1 dH.1
 have low:∀u∈s::S',∀v∈q::jg,(u≠s\/v≠q)->fT (ds s.1 q.1) (ds u.1 v.1):=fun u hu v aM cT=>by
  have amr:=vU u hu;have lv:=fx v aM;rcases aoW.1 hu with rfl|hu
  ·rcases aoW.1 aM with rfl|aM
   ·rcases cT with h|h<;>exact absurd rfl h
   ·exact HM h3 lv ls (KD v aM)
  ·have g1:=Rb ls amr lv (U7 u hu);rcases aoW.1 aM with rfl|aM
   ·exact g1
   ·exact sj _ _ _ (HM h3 lv ls (KD v aM)) g1
 have aC:cG (c3 (s::S') (q::jg)) (ds s.1 q.1)=s.2*q.2:=by
  rw[c3,gX,ape,mb,cG,aoB rfl]
  have eY:cG (List.map (fun t=>(ds s.1 t.1,s.2*t.2)) jg) (ds s.1 q.1)=0:=yI fun t au=>by
   obtain⟨v,aM,rfl⟩:=aoO.1 au;have cT:v≠q:=fun e=>BZ _ (e▸KD v aM);exact fun e=>xf (low s (by simp) v (by simp[aM]) (.inr cT)) e.symm
  have hy:cG (c3 S' (q::jg)) (ds s.1 q.1)=0:=yI fun t au=>by
   obtain⟨u,hu,v,aM,rfl⟩:=uq au;have cT:u≠s:=fun e=>BZ _ (e▸U7 u hu);exact fun e=>xf (low u (by simp[hu]) v aM (.inl cT)) e.symm
  rw[eY,hy];grind
 have cT:s.2*q.2≠0:=fun e=>by
  have a1:=gh.2 s (by simp);have a2:=dH.2 q (by simp);exact(Rat.mul_eq_zero.1 e).elim a1 a2
 obtain⟨dG,dD⟩:=acu (gI (c3 (s::S') (q::jg))) (m:=ds s.1 q.1) (by rw[ju,aC];exact cT) (fun t au=>by
  obtain⟨w,hw,e⟩:=oQ au;obtain⟨u,hu,v,aM,rfl⟩:=uq hw;rw[<-e]
  by_cases aa:u=s
  ·by_cases ad:v=q
   ·rw[aa,ad];exact .inl rfl
   ·exact .inr (low u hu v aM (.inr ad))
  ·exact .inr (low u hu v aM (.inl aa)))
 rw[ju,aC]at dD;exact⟨dG,dD⟩
theorem O9:∀{a b:List Int},a.length=b.length->hs (ds a b) b=a
 |[],[],_=>rfl
 |[],_::_,h=>by simp at h
 |_::_,[],h=>by simp at h
 |a::x,b::y,h=>by
  rw[ds,hs,O9 (by simpa using h)]
  congr 1;omega
theorem Qf:∀{a b:List Int},(∀x∈a,0<=x)->g_ (ds a b) b=true
 |[],_,_=>rfl
 |_::_,[],_=>rfl
 |a::x,b::y,h=>by
  rw[ds,g_,Qf fun z bm=>h z (by simp[bm])];have:=h a (by simp);simp;omega
theorem adT {s:ba}{S Q:List ba}(gh:fw (s::S))(dH:fw Q)(vU:∀t∈s::S,t.1.length=8)(sp:∀x∈s.1,0<=x)(fx:∀t∈Q,t.1.length=8)(gj:Q≠[]):
 g_ (cu (nrm (c3 (s::S) Q))).1 (cu Q).1=true/\eC (nrm (c3 (s::S) Q)) Q=s/\k2 (nrm (c3 (s::S) Q)) Q=nrm (c3 S Q):=by
 obtain⟨_,h⟩:=lead gh dH vU fx (by simp) gj;have aA:cu (s::S)=s:=rfl;rw[aA]at h;have ls:=vU s (by simp);have h3:=fx _ (kL gj);have aZ:(cu Q).2≠0:=dH.2 _ (kL gj)
 have aG:eC (nrm (c3 (s::S) Q)) Q=s:=by
  rw[eC,h,O9 (by omega)];have:s.2*(cu Q).2/(cu Q).2=s.2:=by rw[Rat.div_def,aql,Rat.mul_inv_cancel _ aZ,Rat.mul_one]
  rw[this]
 refine⟨by rw[h];exact Qf sp,aG, ?_⟩;rw[k2,aG];refine pK fun m=> ?_;rw[mb,wq,ju,ju,show s::S=[s]++S from rfl,Od];grind
theorem Rc {Q:List ba}(dH:fw Q)(fx:∀t∈Q,t.1.length=8)(gj:Q≠[]):∀{S:List ba},fw S->(∀t∈S,t.1.length=8/\∀x∈t.1,0<=x)->kx Q (S.length+1) (nrm (c3 S Q))=some (S,true)
 |[],_,_=>rfl
 |s::S,gh,h=>by
  obtain⟨aA,aG,bR⟩:=adT gh dH (fun t au=>(h t au).1) (h s (by simp)).2 fx gj;have cT:=(lead gh dH (fun t au=>(h t au).1) fx (by simp) gj).1;rw[apj,kx,aoA cT,aoB aA,bR,Rc dH fx gj gh.tail fun t au=>h t (by simp[au]),aG];rfl
theorem HN {q:List ba}:∀{n m:Nat} {p:List ba} {r:List ba×Bool},kx q n p=some r->n<=m->kx q m p=some r
 |0,_,_,_,h,_=>by cases h
 |n+1,0,_,_,_,hm=>by omega
 |n+1,m+1,p,r,h,hm=>by
  rw[kx]at h⊢;split
  ·rename_i e;rw[aoB e]at h;exact h
  ·rename_i e;rw[aoA e]at h;split
   ·rename_i aG;rw[aoB aG]at h
    cases aZ:kx q n (k2 p q)with
    |none=>rw[aZ]at h;cases h
    |some l0=>rw[HN aZ (by omega)];rw[aZ]at h;exact h
   ·rename_i aG;rw[aoA aG]at h;exact h
theorem DK {q p:List ba}{n:Nat}{r:List ba×Bool}(h:kx q n p=some r):jJ p q=r:=by
 have hex:∃n r,kx q n p=some r:=⟨n,r,h⟩
 rw[jJ,dif_pos hex];have ad:=aq3 (aq3 hex);have a1:=HN h (Nat.le_max_left n (Classical.choose hex));have a2:=HN ad (Nat.le_max_right n (Classical.choose hex));rw[a1]at a2;exact(aoL a2).symm
theorem M6 {t:ba}(au:t.1.length=8){m:List Int}(hm:m.length=8):∀{Q:List ba},(∀u∈Q,u.1.length=8)->cG (gX t Q) (ds t.1 m)=t.2*cG Q m
 |[],_=>by simp[gX,cG]
 |u::Q,h=>by
  have bM:=M6 au hm fun v aM=>h v (aqa _ aM);have hu:=h u (by simp);unfold gX at bM⊢;rw[ape,cG,cG,bM]
  by_cases e:u.1=m
  ·rw[aoB (by rw[e]),aoB e];grind
  ·rw[aoA fun q=>e (HK (by omega) (by omega) q),aoA e];grind
theorem O_:∀{a b:List Int},a.length=b.length->ds (hs a b) b=a
 |[],[],_=>rfl
 |[],_::_,h=>by simp at h
 |_::_,[],h=>by simp at h
 |a::x,b::y,h=>by
  rw[hs,ds,O_ (by simpa using h)]
  congr 1;omega
theorem wN:∀{a b:List Int},a.length=b.length->(hs a b).length=a.length
 |[],[],_=>rfl
 |[],_::_,h=>by simp at h
 |_::_,[],h=>by simp at h
 |a::x,b::y,h=>by rw[hs,apj,apj,wN (by simpa using h)]
theorem H9:∀{a b:List Int},a.length=b.length->g_ a b=true->∀x∈hs a b,0<=x
 |[],[],_,_,x,h=>by cases h
 |[],_::_,h,_,_,_=>by simp at h
 |_::_,[],h,_,_,_=>by simp at h
 |a::p,b::q,h,g,x,ak=>by
  rw[g_]at g;simp only[aoM,apb]at g;rcases aoW.1 ak with rfl|ak
  ·omega
  ·exact H9 (by simpa using h) g.2 x ak
theorem Cy:∀{a b:List Int} (i:Nat),a.length=b.length->(hs a b).getD i 0=a.getD i 0-b.getD i 0
 |[],[],_,_=>by simp[hs]
 |[],_::_,_,h=>by simp at h
 |_::_,[],_,h=>by simp at h
 |a::p,b::q,0,_=>by simp[hs]
 |a::p,b::q,i+1,h=>by simpa[hs]using Cy i (show p.length=q.length by simpa using h)
def gD (m:List Int):Nat:=(9*m.getD 0 0+3*m.getD 1 0+m.getD 2 0).toNat
def xW (m:List Int):Nat:=(2809*m.getD 0 0+53*m.getD 1 0+m.getD 2 0).toNat
def iA (m:List Int):Prop:=m.length=8/\(∀x∈m,0<=x)/\(∀i,3<=i->m.getD i 0=0)/\gD m<=52
theorem iA.get {m:List Int}(h:iA m)(i:Nat)(hi:i<8):0<=m.getD i 0:=h.2.1 _ (jU (by rw[h.1];exact hi))
theorem s_ {m:List Int}(h:m.length=8):∃a b c d e f g k:Int,m=[a,b,c,d,e,f,g,k]:=by
 match m,h with
 |[a,b,c,d,e,f,g,k],_=>exact⟨a,b,c,d,e,f,g,k,rfl⟩
theorem iA.form {m:List Int}(h:iA m):∃a b c:Int,m=[a,b,c,0,0,0,0,0]/\0<=a/\0<=b/\0<=c/\9*a+3*b+c<=52:=by
 obtain⟨aa,ad,ax,aV⟩:=h;obtain⟨a,b,c,d,e,f,g,k,rfl⟩:=s_ aa;obtain rfl:d=0:=ax 3 (by omega);obtain rfl:e=0:=ax 4 (by omega);obtain rfl:f=0:=ax 5 (by omega);obtain rfl:g=0:=ax 6 (by omega);obtain rfl:k=0:=ax 7 (by omega);have a0:=ad a (by simp);have b9:=ad b (by simp);have tT:=ad c (by simp);have aV:(9*a+3*b+c).toNat<=52:=aV;exact⟨a,b,c,rfl,a0,b9,tT,by omega⟩
theorem S3 {a b c d e f:Int}(h:dT [a,b,c,0,0,0,0,0] [d,e,f,0,0,0,0,0]=1):d<a\/a=d/\(e<b\/b=e/\f<c):=by
 have bc:dT [a,b,c,0,0,0,0,0] [d,e,f,0,0,0,0,0]=if a<d then-1 else if d<a then 1 else if b<e then-1 else if e<b then 1 else if c<f then-1 else if f<c then 1 else 0:=rfl
 rw[bc]at h
 by_cases aa:a<d
 ·rw[aoB aa]at h;cases h
 rw[aoA aa]at h
 by_cases ad:d<a
 ·exact .inl ad
 rw[aoA ad]at h
 by_cases ax:b<e
 ·rw[aoB ax]at h;cases h
 rw[aoA ax]at h
 by_cases aV:e<b
 ·exact .inr ⟨by omega, .inl aV⟩
 rw[aoA aV]at h
 by_cases bp:c<f
 ·rw[aoB bp]at h;cases h
 rw[aoA bp]at h
 by_cases b1:f<c
 ·exact .inr ⟨by omega, .inr ⟨by omega,b1⟩⟩
 rw[aoA b1]at h;cases h
theorem Sr {m n:List Int}(hm:iA m)(aB:iA n)(h:fT m n):xW n<xW m:=by
 obtain⟨a,b,c,rfl,a0,b9,tT,aa⟩:=hm.form;obtain⟨d,e,f,rfl,d0,hz,f0,ad⟩:=aB.form;show(2809*d+53*e+f).toNat<(2809*a+53*b+c).toNat;have h:=S3 h;omega
theorem IG {m:List Int}(hm:iA m):xW m<150000:=by
 obtain⟨a,b,c,rfl,a0,b9,tT,aa⟩:=hm.form;show(2809*a+53*b+c).toNat<150000;omega
structure tF (Q:List ba)(w B:Nat):Prop where
 nrm:fw Q
 ne:Q≠[]
 eP:da 2 Q
 v3:∀t∈Q,∀i,3<=i->t.1.getD i 0=0
 w1:1<=w/\w<=B
 ratio:∀u∈Q,∃z:Int,u.2/(cu Q).2*(w:Rat)=(z:Rat)/\z.natAbs<=B
theorem Rd {a b:List Int}(aS:a.length=8)(ah:b.length=8)(aa:∀x∈a,0<=x)(ad:∀x∈b,0<=x):gD (ds a b)=gD a+gD b:=by
 have g:∀i,i<8->0<=a.getD i 0/\0<=b.getD i 0:=fun i hi=>⟨aa _ (jU (by omega)),ad _ (jU (by omega))⟩
 have g0:=g 0 (by omega);have g1:=g 1 (by omega);have g2:=g 2 (by omega);rw[gD,uo _ _ _ (by omega) (by omega),uo _ _ _ (by omega) (by omega),uo _ _ _ (by omega) (by omega),gD,gD];omega
theorem tF.drop {Q:List ba}{w B:Nat}(h:tF Q w B){u:ba}(hu:u∈Q):u.1=(cu Q).1\/gD u.1+1<=gD (cu Q).1:=by
 rcases C7 h.nrm hu with e|g
 ·exact .inl e
 ·right;have aZ:=kL h.ne;have cW:=h.eP u hu;have c9:=h.eP _ aZ
  have f:∀m:List Int,m.length=8->(∀i,3<=i->m.getD i 0=0)->(∀x∈m,0<=x/\x<=2)->∃a b c:Int,m=[a,b,c,0,0,0,0,0]/\(0<=a/\a<=2)/\(0<=b/\b<=2)/\0<=c/\c<=2:=fun m aa ax ad=>by
   obtain⟨a,b,c,d,e,f,g,k,rfl⟩:=s_ aa;obtain rfl:d=0:=ax 3 (by omega);obtain rfl:e=0:=ax 4 (by omega);obtain rfl:f=0:=ax 5 (by omega);obtain rfl:g=0:=ax 6 (by omega);obtain rfl:k=0:=ax 7 (by omega);exact⟨a,b,c,rfl,ad a (by simp),ad b (by simp),ad c (by simp)⟩
  obtain⟨a,b,c,aA,a0,b9,tT,fi⟩:=f u.1 cW.1 (h.v3 u hu) cW.2;obtain⟨b5,ey,x0,aG,a1,cW,fb,k7⟩:=f (cu Q).1 c9.1 (h.v3 _ aZ) c9.2;rw[aA,aG]at g⊢;show(9*a+3*b+c).toNat+1<=(9*b5+3*ey+x0).toNat;have g:=S3 g;omega
structure qH (w B A D k:Nat)(P:List ba):Prop where
 nrm:fw P
 g3:∀t∈P,iA t.1
 co:∀m,iA m->∃X:Int,cG P m*((D*w^(52-gD m):Nat):Rat)=(X:Rat)/\X.natAbs<=A*2^k*B^(52-gD m)
theorem Qg {Q P:List ba}{w B A D k:Nat}(dH:tF Q w B)(gG:qH w B A D k P)(cT:P≠[])(aY:g_ (cu P).1 (cu Q).1=true):
 (eC P Q).1.length=8/\(∀x∈(eC P Q).1,0<=x)/\(∀i,3<=i->(eC P Q).1.getD i 0=0)/\ds (eC P Q).1 (cu Q).1=(cu P).1/\(eC P Q).2*(cu Q).2=(cu P).2/\(eC P Q).2≠0/\gD (cu P).1=gD (eC P Q).1+gD (cu Q).1/\iA (cu P).1:=by
 have aD:=kL cT;have aZ:=kL dH.ne;have A9:=gG.g3 _ aD;have h3:=(dH.eP _ aZ).1;have r_:(cu P).1.length=(cu Q).1.length:=by rw[A9.1,h3]
 have cI:(cu Q).2≠0:=dH.nrm.2 _ aZ;have ky:(cu P).2≠0:=gG.nrm.2 _ aD;have eY:=H9 r_ aY;have aA:=O_ r_;refine⟨(wN r_).trans A9.1,eY,fun i hi=> ?_,aA,by show(cu P).2/(cu Q).2*(cu Q).2=_;grind,fun e=> ?_, ?_,A9⟩
 ·show(hs (cu P).1 (cu Q).1).getD i 0=0;rw[Cy i r_,A9.2.2.1 i hi,dH.v3 _ aZ i hi];rfl
 ·have e:(cu P).2/(cu Q).2=0:=e;exact ky (by grind)
 ·show gD (cu P).1=gD (hs (cu P).1 (cu Q).1)+_;rw[<-Rd ((wN r_).trans A9.1) h3 eY fun x ak=>((dH.eP _ aZ).2 x ak).1,aA]
theorem qH.next {Q P:List ba}{w B A D k:Nat}(dH:tF Q w B)(gG:qH w B A D k P)(cT:P≠[])(aY:g_ (cu P).1 (cu Q).1=true):
 qH w B A D (k+1) (k2 P Q)/\(∀t∈k2 P Q,fT (cu P).1 t.1)/\∀m,cG P m=cG (k2 P Q) m+cG (c3 [eC P Q] Q) m:=by
 obtain⟨t8,F8,t3,aA,aG,_,tU,py⟩:=Qg dH gG cT aY;have aD:=kL cT;have aZ:=kL dH.ne
 have fx:∀u∈Q,u.1.length=8:=dH.eP.len
 have F9:∀m,cG (k2 P Q) m=cG P m-cG (c3 [eC P Q] Q) m:=fun m=>by rw[k2,ju,mb,wq,ju];grind
 have up:∀u∈Q,cG (c3 [eC P Q] Q) (ds (eC P Q).1 u.1)=(eC P Q).2*u.2:=fun u hu=>by rw[Qd,M6 t8 (fx u hu) fx,sg dH.nrm hu]
 have no:∀m,(∀u∈Q,ds (eC P Q).1 u.1≠m)->cG (c3 [eC P Q] Q) m=0:=fun m h=>by
  rw[Qd];refine yI fun t au=> ?_;obtain⟨u,hu,rfl⟩:=aoO.1 au;exact h u hu
 have lm:cG P (cu P).1=(cu P).2:=sg gG.nrm aD
 have U8:∀u∈Q,iA (ds (eC P Q).1 u.1)/\gD (ds (eC P Q).1 u.1)=gD (eC P Q).1+gD u.1:=fun u hu=>by
  have un:∀x∈u.1,0<=x:=fun x ak=>((dH.eP u hu).2 x ak).1
  have ca:=Rd t8 (fx u hu) F8 un;refine⟨⟨IF t8 (fx u hu),fun x ak=> ?_,fun i hi=> ?_, ?_⟩,ca⟩
  ·obtain⟨y,bn,z,bm,rfl⟩:=Cs ak;have:=F8 y bn;have:=un z bm;omega
  ·by_cases c6:i<8
   ·rw[uo _ _ _ (by rw[t8];exact c6) (by rw[fx u hu];exact c6),t3 i hi,dH.v3 u hu i hi];rfl
   ·rw[aoC,api (by rw[IF t8 (fx u hu)];omega)];rfl
  ·rw[ca];have:=py.2.2.2;rcases dH.drop hu with e|e
   ·rw[e,<-tU];exact this
   ·omega
 have mono:∀t∈k2 P Q,iA t.1/\fT (cu P).1 t.1:=fun t au=>by
  have aC:cG (k2 P Q) t.1≠0:=by rw[sg (p:=k2 P Q) (gI _) au];exact(gI _).2 t au
  have jG:t.1≠(cu P).1:=fun e=>by
   apply aC;rw[e,F9,lm,<-aA,up _ aZ,aG];grind
  obtain⟨u,hu,e⟩:=oQ au;rcases apM.1 hu with hu|hu
  ·rw[<-e];rcases C7 gG.nrm hu with g|g
   ·exact absurd (e.symm.trans g) jG
   ·exact⟨gG.g3 u hu,g⟩
  ·obtain⟨v,aM,rfl⟩:=aoO.1 hu;obtain⟨x,ak,ex⟩:=oQ aM;obtain⟨y,bn,z,bm,rfl⟩:=uq ak;rw[apr.1 bn]at ex;have tV:t.1=ds (eC P Q).1 z.1:=e.symm.trans ex.symm;rw[tV];refine⟨(U8 z bm).1, ?_⟩;rcases C7 dH.nrm bm with g|g
   ·exact absurd (tV.trans (by rw[g,aA])) jG
   ·rw[<-aA];exact HM (fx _ aZ) (fx z bm) t8 g
 refine⟨⟨gI _,fun t au=>(mono t au).1,fun m hm=> ?_⟩,fun t au=>(mono t au).2,fun m=>by rw[F9];grind⟩;obtain⟨X,jq,ah⟩:=gG.co m hm;have ad:A*2^k*B^(52-gD m)<=A*2^(k+1)*B^(52-gD m):=aoR _ (ao3 _ (apd (by omega) (by omega)));rcases Classical.em (∃u∈Q,ds (eC P Q).1 u.1=m)with⟨u,hu,rfl⟩|iK
 ·rw[F9,up u hu];have ca:=(U8 u hu).2;rcases dH.drop hu with e|e
  ·have:cG P (ds (eC P Q).1 u.1)-(eC P Q).2*u.2=0:=by
    have F_:u=cu Q:=by
     have aa:=sg dH.nrm hu;rw[e,sg dH.nrm aZ]at aa;exact Prod.ext e aa.symm
    rw[F_,aA,lm,aG];grind
   rw[this];exact⟨0,by simp,by simp⟩
  ·obtain⟨Y,U9,akg⟩:=gG.co _ py;obtain⟨z,bm,akh⟩:=dH.ratio u hu;have bg:=py.2.2.2
   obtain⟨g,mI⟩:∃g,52-gD (ds (eC P Q).1 u.1)=(52-gD (cu P).1)+1+g:=⟨gD (cu P).1-gD (ds (eC P Q).1 u.1)-1,by omega⟩
   rw[lm]at U9;rw[mI]at jq ah ad⊢;generalize 52-gD (cu P).1=aa at*
   have ams:((D*w^(aa+1+g):Nat):Rat)=((D*w^aa:Nat):Rat)*(w:Rat)*((w^g:Nat):Rat):=by
    rw[<-Rat.natCast_mul,<-Rat.natCast_mul]
    congr 1
    rw[aph,ao2];simp only[ao4]
   have amt:(eC P Q).2*u.2=(cu P).2*(u.2/(cu Q).2):=by
    have cI:(cu Q).2≠0:=dH.nrm.2 _ aZ;show(cu P).2/(cu Q).2*u.2=_;grind
   refine⟨X-Y*z*((w^g:Nat):Int), ?_, ?_⟩
   ·rw[Rat.intCast_sub,Rat.intCast_mul,Rat.intCast_mul,Rat.intCast_natCast,<-jq,<-U9,<-bm,amt,ams];grind
   ·have cW:(Y*z*((w^g:Nat):Int)).natAbs<=A*2^k*B^(aa+1+g):=by
     rw[aqm,aqm,Int.natAbs_natCast,aph,ao2];have a1:=apG akg akh;have a2:=apG a1 (Nat.pow_le_pow_left dH.w1.2 g);simpa[ao4]using a2
    have c9:A*2^(k+1)*B^(aa+1+g)=A*2^k*B^(aa+1+g)+A*2^k*B^(aa+1+g):=by
     rw[ao2,<-ao4,ao4 (A*2^k) 2,apa 2,<-ao4,Nat.mul_two]
    have iM:=Int.natAbs_sub_le X (Y*z*((w^g:Nat):Int));omega
 ·rw[F9,no m fun u hu e=>iK ⟨u,hu,e⟩];refine⟨X,by rw[<-jq];grind,aoV ah ad⟩
theorem qH.gq {w B A D k:Nat}{P:List ba}(h:qH w B A D k P)(hw:1<=w)(Ui:w<=B)(j_:1<=D){K:Nat}(fF:1<=K)(aa:A*2^k*B^52<4294967296^K)(ad:D*B^52<4294967296^K):dz K P:=fun t au=>by
 have bg:=h.g3 t au;obtain⟨X,jq,ah⟩:=h.co t.1 bg;rw[sg h.nrm au]at jq;have eu:1<=B:=aoV hw Ui;have aD:B^(52-gD t.1)<=B^52:=apd eu (by omega);have aY:D*w^(52-gD t.1)<=D*B^52:=ao3 _ (aoV (Nat.pow_le_pow_left Ui _) aD);have qp:D*w^(52-gD t.1)≠0:=Nat.ne_of_gt (Nat.mul_pos j_ (Nat.pow_pos hw));have cT:((D*w^(52-gD t.1):Nat):Rat)≠0:=fun e=>qp (by exact_mod_cast e)
 have e:t.2=mkRat X (D*w^(52-gD t.1)):=by
  rw[Rat.mkRat_eq_div,<-jq];generalize ((D*w^(52-gD t.1):Nat):Rat)=d at cT;grind
 rw[e];exact dd.mk (apN (aoV ah (ao3 _ aD)) aa) (apN aY ad) fF
theorem iA.eP {P:List ba}(h:∀t∈P,iA t.1):da 52 P:=fun t au=>by
 obtain⟨a,b,c,e,a0,b9,tT,aa⟩:=(h t au).form;rw[e];refine⟨rfl,fun x ak=> ?_⟩;simp at ak;omega
theorem aeC {P Q:List ba}{K J:Nat}{e:Int}(gG:fw P)(sa:da e P)(sb:dz K P)(A_:P.length<=400000000)(dH:fw Q)(l7:da e Q)(nR:dz J Q)(yc:Q.length<=400000000)(he:0<=e/\e<=100000000000000000)(fF:1<=K)(yd:1<=J)(Uj:K+J<=100000)
 (pE:P≠[]) (gj:Q≠[]) (aY:g_ (cu P).1 (cu Q).1=true):RT P Q/\dd (K+J) (eC P Q).2/\(eC P Q).1.length=8/\∀x∈(eC P Q).1,0<=x/\x<=e:=by
 have aD:=kL pE;have aZ:=kL gj;have Ba:=sa _ aD;have Ga:=l7 _ aZ;have r_:(cu P).1.length=(cu Q).1.length:=by rw[Ba.1,Ga.1]
 have t8:(eC P Q).1.length=8:=(wN r_).trans Ba.1;have U_:dd (K+J) (eC P Q).2:=(sb _ aD).div (nR _ aZ) yd
 have tb:∀x∈(eC P Q).1,0<=x/\x<=e:=fun x ak=>by
  have bc:=H9 r_ aY x ak;obtain⟨i,hi,rfl⟩:=aqj ak;have bg:=Cy i r_
  have aA:(hs (cu P).1 (cu Q).1).getD i 0=(eC P Q).1[i]:=by
   rw[aoC];show(eC P Q).1[i]?.getD 0=_;rw[aoQ hi];rfl
  rw[aA]at bg;have g1:=Ba.2 _ (jU (m:=(cu P).1) (i:=i) (by omega));have g2:=Ga.2 _ (jU (m:=(cu Q).1) (i:=i) (by omega));omega
 have vx:∀m:List Int,m.length=8->(∀x∈m,0<=x/\x<=e)->qg m:=fun m aa ad=>⟨aa,fun x ak=>by have:=ad x ak;omega⟩
 have tV:da e [eC P Q]:=fun t au=>by rw[apr.1 au];exact⟨t8,tb⟩
 have KE:dz (K+J) [eC P Q]:=fun t au=>by rw[apr.1 au];exact U_
 have aoe:=tV.nk (by omega);have aof:=l7.nk (by omega)
 have S4:∀{L:List ba} {k:Nat},da e L->dz k L->∀r∈bB L,da 2000000000000000000 [aN r]/\eO r:=fun{L k} lZ ae r ao=>by
  obtain⟨t,au,rfl⟩:=aoO.1 ao;refine⟨fun u hu=> ?_,(n2 ae lZ.len _ ao).row⟩;rw[apr.1 hu];have Kn:aN (hS t)=t:=y6 (lZ t au).1;rw[Kn];exact⟨(lZ t au).1,fun x ak=>by have:=(lZ t au).2 x ak;omega⟩
 have jQ:=tV.mul l7
 have yb:dz (K+J+J+1) (nrm (c3 [eC P Q] Q)):=by
  have w:dz (K+J+J) (c3 [eC P Q] Q):=dz.mul (by omega) KE nR;have:=w.nrm (c:=1) fun m=>yG m l7.len dH.kv tV.len;exact this.mono (by omega)
 have A7:(nrm (c3 [eC P Q] Q)).length<=Q.length:=yX (by rw[yY];simp)
 refine⟨⟨(sb _ aD).mono (by omega),(nR _ aZ).mono (by omega),vx _ Ba.1 Ba.2,vx _ Ga.1 Ga.2,⟨S4 tV KE,S4 l7 nR,K+J,J,1,by omega,yd,n2 KE tV.len,n2 nR l7.len, .inl ⟨by simp[ff],fun m=>by rw[pM l7.len];exact dH.kv m⟩,by omega,by omega, ?_,by simp[ff],by rw[ff];omega⟩,
  K,K+J+J+1,fF,by omega,wM sb (sa.nk (by omega)),wM yb (jQ.nrm.nk (by omega)),by omega,by omega⟩,U_,t8,tb⟩
 rw[ff,ff,apL];omega
end ab
end
section
open Go Go.aj
namespace ab
theorem Qh:∀{m n:List Int},m.length=n.length->(∀i,i<m.length->n.getD i 0<=m.getD i 0)->g_ m n=true
 |[],[],_,_=>rfl
 |[],_::_,h,_=>by cases h
 |_::_,[],h,_=>by cases h
 |a::m,b::n,h,k=>by
  rw[g_,Qh (Nat.succ.inj h) fun i hi=>k (i+1) (Nat.succ_lt_succ hi),Bool.and_true];exact aqi (k 0 (Nat.succ_pos _))
theorem Re:∀{m n:List Int},m.length=n.length->g_ m n=true->∀i,i<m.length->n.getD i 0<=m.getD i 0
 |[],_,_,_,i,hi=>by cases hi
 |_::_,[],h,_,_,_=>by cases h
 |a::m,b::n,h,k,i,hi=>by
  rw[g_,aoM,apb]at k
  cases i with
  |zero=>exact k.1
  |succ i=>exact Re (Nat.succ.inj h) k.2 i (Nat.lt_of_succ_lt_succ hi)
theorem V3 (a b:Row)(K:R->Prop)(h:Cw.T [.rw 8 a, .rw 8 b] K):LY a b K:=by
 obtain⟨⟨⟨m,rfl,hm,hX⟩,n,rfl,aB,rO⟩,ae⟩:=h;rw[nn,nn]at ae;unfold LY ai
 refine⟨fun v aq bu br=>∃(i:Nat) (x:List Int) (r:Row),v=i/\i<=8/\aq=[c8 x]/\bu=[c8 n]/\br=[r]/\x.length=8/\(∀j,j<i->x.getD j 0=m.getD j 0-n.getD j 0/\n.getD j 0<=m.getD j 0)/\∀j,i<=j->x.getD j 0=m.getD j 0,
  fun v _ _ _=>8-v.toNat,⟨0,m,_,rfl,by omega,rfl,rfl,rfl,hm,fun j aK=>by omega,fun j aK=>rfl⟩, ?_⟩
 rintro _ _ _ _ ⟨i,x,r,rfl,aa,rfl,rfl,rfl,ak,ad,ax⟩;have hz:List.getD [c8 x] 0 []=c8 x:=rfl;have aA:List.getD [c8 n] 0 []=c8 n:=rfl;simp only[apb,aoF,aoD,hz,aA];refine⟨fun aV=> ?_,fun aV=> ?_⟩
 ·have hi:i<8:=by omega
  have cW:=hX _ (jU (m:=m) (i:=i) (by omega));have c9:=rO _ (jU (m:=n) (i:=i) (by omega));rw[wJ x i (by omega),wJ n i (by omega)]
  have KA:IntKind.wrap .i64 (U.toInt (.int .i64 (x.getD i 0))-U.toInt (.int .i64 (n.getD i 0)))=m.getD i 0-n.getD i 0:=by
   show IntKind.wrap .i64 (x.getD i 0-n.getD i 0)=_;rw[ax i (aoH _),bP (by omega)]
  rw[KA,Cp];refine⟨by omega,aV,rfl,by omega,aV,rfl,fun bp=>⟨rfl, ?_⟩,fun bp=>⟨by omega,aV,rfl,by omega,aV,rfl,by omega,aV,⟨i+1,_,r,fg (by omega) (by omega),by omega,rfl,trivial,rfl,by simp[ak],fun j aK=> ?_,fun j aK=> ?_⟩,by rw[fg (by omega) (by omega)];omega⟩⟩
  ·have bp:x.getD i 0<n.getD i 0:=bp;rw[ax i (aoH _)]at bp
   have aT:g_ m n=false:=Bool.eq_false_iff.2 fun au=>by
    have:=Re (by omega) au i (by omega);omega
   rw[aT]at ae;exact ae
  ·have bp:¬x.getD i 0<n.getD i 0:=bp;rw[ax i (aoH _)]at bp;rw[e1]
   by_cases e:i=j
   ·subst e;rw[aoB ⟨rfl,by omega⟩];exact⟨rfl,by omega⟩
   ·rw[aoA (fun h=>e h.1)];exact ad j (by omega)
  ·rw[e1,aoA (fun h=>by omega),ax j (by omega)]
 ·have hi:i=8:=by omega
  subst hi;have au:g_ m n=true:=Qh (by omega) fun j aK=>(ad j (by omega)).2;rw[au,aoB rfl]at ae;have ex:x=hs m n:=SX (by rw[wN (by omega)];omega) fun j aK=>by rw[(ad j (by omega)).1,Cy j (by omega)]
  subst ex;have az:(c8 (hs m n)).length=8:=by rw[jv,ak]
  exact⟨az,az,ae⟩
theorem tD.run {q:List ba}:∀{n:Nat} {p:List ba},tD q n p->∃r,kx q n p=some r
 |0,_,h=>h.elim
 |n+1,p,h=>by
  rw[kx];split
  ·exact⟨_,rfl⟩
  ·rename_i aD;split
   ·rename_i aY;obtain⟨r,ao⟩:=tD.run (((h aD).2 aY).2);exact⟨_,by rw[ao];rfl⟩
   ·exact⟨_,rfl⟩
theorem R1 {P:List ba}(h:P≠[]):(bB P).getD 0 []=ez (cu P).1 (cj (cu P).2) (cm (cu P).2) (cc (cu P).2):=by
 cases P with
 |nil=>exact absurd rfl h
 |cons t P=>rfl
theorem Rf {t:ba}{Q:List ba}(h:t.1.length=8)(fx:∀t∈Q,t.1.length=8):∀u∈nrm (c3 [t] Q),u.1.length=8:=fun u hu=>by
 obtain⟨v,aM,e⟩:=oQ hu;rw[c3,c3,aqc]at aM;obtain⟨x,ak,rfl⟩:=aoO.1 aM;rw[<-e,wK _ _ (by rw[h,fx x ak]),h]
theorem ae6 {P Q:List ba}(h:∀t∈P,t.1.length=8)(aZ:(eC P Q).1.length=8)(fx:∀t∈Q,t.1.length=8):∀u∈k2 P Q,u.1.length=8:=fun u hu=>by
 obtain⟨v,aM,e⟩:=oQ hu;rw[<-e];rcases apM.1 aM with aM|aM
 ·exact h v aM
 ·obtain⟨x,ak,rfl⟩:=aoO.1 aM;exact Rf aZ fx x ak
theorem V8 (p q:Rows)(K:R->Prop)(h:C5.T [.d (.av 11 p), .d (.av 11 q)] K):L2 p q K:=by
 obtain⟨⟨⟨amu,rfl,ye,Gb⟩,⟨Q,rfl,Bb,fx⟩,fr⟩,ae⟩:=h;rw[fp Gb,fp fx]at fr ae;obtain⟨gj,⟨xY,xO,j_⟩,kh⟩:=fr;obtain⟨A5,rC⟩:=j_.run;rw[FB,DK rC]at ae;rw[DK rC]at kh;unfold L2 aP
 refine⟨fun v o=>∃(P O:List ba) (n:Nat) (r:List ba×Bool),v=bB P/\o=bB O/\fw P/\(∀t∈P,t.1.length=8)/\(∀t∈O,t.1.length=8)/\n+O.length<=1000000000/\tD Q n P/\kx Q n P=some r/\A5=(O++r.1,r.2),
  fun _ o=>1000000000-o.length,⟨amu,[],xY,A5,rfl,rfl,ye,Gb,fun t au=>absurd au (apV),by simpa using xO,j_,rC,rfl⟩, ?_⟩
 rintro _ _ ⟨P,O,n,r,rfl,rfl,gG,c6,vV,aB,aY,ao,he⟩;simp only[apb,aoF]
 cases n with
 |zero=>exact aY.elim
 |succ n=>
 refine⟨fun aV=> ?_,fun aV=> ?_⟩
 ·have yf:P≠[]:=fun e=>by rw[e]at aV;exact absurd aV (by decide)
  rw[kx,aoA yf]at ao;have tG:=c6 _ (kL yf);have vy:=fx _ (kL gj);have vf:0<Q.length:=List.length_pos_iff.2 gj;obtain⟨⟨fS,gi⟩,ay⟩:=aY yf;have aki:pA (cu Q).2=false:=apS (Bb.2 _ (kL gj));rw[R1 yf,R1 gj,mQ tG,mQ vy,nn,nn,jE tG,jF tG,jA tG,jE vy,jF vy,jA vy];simp only[U.toBool,U.bX,mc,aki,kc tG,kc vy];refine⟨by omega,aV,trivial,by omega,by rw[ff];omega,trivial,⟨⟨_,rfl,fS⟩,⟨_,rfl,gi⟩⟩, ?_⟩;rintro _ rfl;refine⟨fun bp=> ?_,fun bp=> ?_⟩
  ·have bp:g_ (cu P).1 (cu Q).1=false:=by simpa using bp
   rw[aoA (by rw[bp];exact apD)]at ao;obtain rfl:=aoL ao;rw[he]at ae;exact ae
  ·have bp:g_ (cu P).1 (cu Q).1=true:=by simpa using bp
   rw[aoB bp]at ao;obtain⟨⟨s1,s2,_,_,amv,k,j,a7,vG,Gc,KF,vU,amw⟩,akj⟩:=ay bp;obtain⟨dG,ie,rK⟩:=Option.map_eq_some_iff.1 ao;refine⟨by omega,aV,trivial,rfl,rfl,by omega,by rw[ff];omega,trivial,rfl,rfl,⟨s1.num.mono (by omega),s1.den.mono (by omega),s2.num.mono (by omega),s2.den.mono (by omega)⟩, ?_⟩;rintro _ rfl _ rfl _ rfl _ rfl;rw[aoB bp];have e0:(eC P Q).1.length=8:=(wN (by omega)).trans tG;have agD:[c8 (hs (cu P).1 (cu Q).1)++[U.bool (m3 (!false) ((cu P).2/(cu Q).2)),U.af .u32 (m4 (!false) ((cu P).2/(cu Q).2)),U.af .u32 (m5 (!false) ((cu P).2/(cu Q).2))]]=bB [eC P Q]:=rfl
   have agE:(c8 (hs (cu P).1 (cu Q).1)++[U.bool (m3 (!false) ((cu P).2/(cu Q).2)),U.af .u32 (m4 (!false) ((cu P).2/(cu Q).2)),U.af .u32 (m5 (!false) ((cu P).2/(cu Q).2))]).length=11:=by
    rw[ao1,jv];show(eC P Q).1.length+3=11;rw[e0]
   rw[agD];refine⟨by rw[jv];exact e0,by omega,Int.natCast_pos.2 (Nat.succ_pos _),agE,by rw[ff,ff,apL];omega,amv, ?_⟩;rw[fp fx,fp (p:=[eC P Q]) (fun t au=>by rw[apr.1 au];exact e0)];rintro _ rfl
   have F0:∀t∈nrm (c3 [eC P Q] Q),t.1.length=8:=Rf e0 fx
   refine⟨⟨k,1,j,1,a7,vG,Gc,KF,fun m=>by rw[pM c6];exact gG.kv m,fun m=>by rw[pM F0];exact(gI _).kv m,by omega,vU,by rw[ff,ff];exact amw⟩, ?_⟩;rw[fp c6,fp F0];rintro _ rfl;have on:(bB O++bB [eC P Q]).length=O.length+1:=by rw[ao1,ff,ff];rfl
   refine⟨⟨k2 P Q,O++[eC P Q],n,dG,rfl,(q2 _ _).symm,gI _,ae6 c6 e0 fx, ?_,by rw[ao1,apL];omega,akj,ie,by rw[he,<-rK];simp⟩,by rw[on,ff];omega⟩;intro t au;rcases apM.1 au with au|au
   ·exact vV t au
   ·rw[apr.1 au];exact e0
 ·have yf:P=[]:=apl.1 (by rw[ff]at aV;omega);rw[kx,aoB yf]at ao;obtain rfl:=aoL ao;rw[aqc]at he;rw[he]at ae kh;refine⟨kh rfl, ?_⟩;rintro _ rfl;rw[fp vV];exact ae
theorem VK (p q:Rows)(K:R->Prop)(h:Ep.T [.d (.av 11 p), .d (.av 11 q)] K):LG p q K:=by
 obtain⟨⟨⟨jr,wp⟩,⟨js,qG⟩,fr⟩,ae⟩:=h;unfold LG aP;refine⟨jr, ?_⟩;rintro _ rfl;refine⟨fun h=> ?_,fun aa=>⟨js, ?_⟩⟩
 ·have e:lX p q=2:=by rw[lX,ec,p7 h];rfl
  rw[e]at ae;exact ae
 rintro _ rfl;refine⟨fun h=> ?_,fun ad=> ?_⟩
 ·have e:lX p q=2:=by rw[lX,ec,p7 h,Bool.and_false];rfl
  rw[e]at ae;exact ae
 have aa:=p8 aa;have ad:=p8 ad;have e:ec p q=true:=by rw[ec,aa,ad];rfl
 have jQ:=(nr aa jr.1).nrm;have eq:=(nr ad js.1).nrm;refine⟨sx aa jr wp (aoH _), ?_⟩;rintro _ rfl;refine⟨sx ad js qG (aoH _), ?_⟩;rintro _ rfl;rw[ff,fp jQ.len,fp eq.len]
 have z:decide (((nrm (q.map aN)).length:Int)=0)=decide (nrm (q.map aN)=[]):=by
  cases nrm (q.map aN)with
  |nil=>rfl
  |cons t l=>rw[apS (by rw[apj];omega),apS (by simp)]
 rw[z];simp only[apb,aoF];refine⟨fun ax=> ?_,fun ax=> ?_⟩
 ·have e:lX p q=3:=by rw[lX,e,aoB rfl,aoB ax]
  rw[e]at ae;exact ae
 ·have bR:lX p q=if(jJ (nrm (p.map aN)) (nrm (q.map aN))).2 then 0 else 16:=by rw[lX,e,aoB rfl,aoA ax]
  refine⟨⟨⟨_,rfl,gI _,jQ.len⟩,⟨_,rfl,gI _,eq.len⟩,fr ax e⟩, ?_⟩;rintro _ rfl _ rfl;refine⟨fun h=> ?_,fun h=> ?_⟩
  ·rw[bR,p7 h]at ae;exact ae
  ·rw[bR,p8 h]at ae;rw[FB,p8 h];exact ae
end ab
end
section
open Go Go.aj
namespace ab
theorem Ir:∀{P:List ba} {N:Nat},P.Pairwise (fun t u=>fT t.1 u.1)->(∀t∈P,iA t.1)->(∀t∈P,xW t.1<N)->P.length<=N
 |[],_,_,_,_=>apR _
 |t::P,N,aD,bg,aB=>by
  obtain⟨aa,ad⟩:=apT.1 aD;have:=Ir (N:=xW t.1) ad (fun u hu=>bg u (by simp[hu])) fun u hu=>Sr (bg t (by simp)) (bg u (by simp[hu])) (aa u hu);have:=aB t (by simp);rw[apj];omega
theorem adU {a b c:List Int}(aS:a.length=8)(ah:b.length=8)(aC:c.length=8)(h:fT (ds a c) (ds b c)):fT a b:=by
 unfold fT at h⊢;rwa [Hr (by omega) (by omega)]at h
structure Kc (Q P:List ba)(M:Nat)(r:List ba×Bool):Prop where
 nrm:fw r.1
 g3:∀t∈r.1,iA t.1
 rs:∀t∈r.1,dd M t.2
 le:∀t∈r.1,ds t.1 (cu Q).1=(cu P).1\/fT (cu P).1 (ds t.1 (cu Q).1)
 id:r.2=true->∀m,cG P m=cG (c3 r.1 Q) m
theorem adV {Q:List ba}{w B A D K J T:Nat}(dH:tF Q w B)(nR:dz J Q)(yc:Q.length<=400000000)(j_:1<=D)(fF:1<=K)(yd:1<=J)(Uj:K+J<=100000)
 (aa:A*2^T*B^52<4294967296^K) (ad:D*B^52<4294967296^K):
 ∀(n k:Nat) (P:List ba),qH w B A D k P->(∀t∈P,xW t.1<n)->k+n<=T->tD Q (n+1) P/\∃r,kx Q (n+1) P=some r/\Kc Q P (K+J) r:=by
 intro n
 induction n with
 |zero=>
  intro k P gG ao _
  cases P with
  |nil=>exact⟨fun h=>absurd rfl h,([],true),rfl,⟨.nil,fun t au=>by cases au⟩,fun t au=>(by cases au),fun t au=>(by cases au),fun t au=>(by cases au),fun _ m=>rfl⟩
  |cons t P=>exact absurd (ao t (by simp)) (Nat.not_lt_zero _)
 |succ n bM=>
  intro k P gG ao ae
  by_cases pE:P=[]
  ·subst pE;exact⟨fun h=>absurd rfl h,([],true),rfl,⟨.nil,fun t au=>by cases au⟩,fun t au=>(by cases au),fun t au=>(by cases au),fun t au=>(by cases au),fun _ m=>rfl⟩
  have aD:=kL pE;have aZ:=kL dH.ne;have l7:da 52 Q:=dH.eP.mono (by decide);have sa:da 52 P:=iA.eP gG.g3
  have vx:∀{L:List ba},da 52 L->∀t∈L,qg t.1:=fun lZ t au=>⟨(lZ t au).1,fun x ak=>by have:=(lZ t au).2 x ak;omega⟩
  rw[tD,kx,aoA pE]
  cases aY:g_ (cu P).1 (cu Q).1 with
  |false=>exact⟨fun _=>⟨⟨vx sa _ aD,vx l7 _ aZ⟩,fun h=>absurd h apD⟩,([],false),rfl,⟨.nil,fun t au=>by cases au⟩,fun t au=>(by cases au),fun t au=>(by cases au),fun t au=>(by cases au),fun h=>absurd h apD⟩
  |true=>
   have sb:dz K P:=gG.gq dH.w1.1 dH.w1.2 j_ fF (apN (aoR _ (ao3 _ (apd (by decide) (by omega)))) aa) ad;have A_:P.length<=150000:=Ir gG.nrm.1 gG.g3 fun t au=>IG (gG.g3 t au);obtain⟨s1,s2,k9,mE⟩:=aeC gG.nrm sa sb (by omega) dH.nrm l7 nR yc (by omega) fF yd Uj pE dH.ne aY;obtain⟨eY,hy,vQ⟩:=gG.next dH pE aY
   obtain⟨t8,F8,t3,aA,aG,bR,tU,py⟩:=Qg dH gG pE aY
   obtain⟨i1,r,i2,i3⟩:=bM (k+1) (k2 P Q) eY (fun t au=>by
    have:=Sr py (eY.g3 t au) (hy t au);have:=ao _ aD
    omega) (by omega)
   refine⟨fun _=>⟨⟨vx sa _ aD,vx l7 _ aZ⟩,fun _=>⟨s1,i1⟩⟩,(eC P Q::r.1,r.2),by rw[aoB rfl,i2];rfl, ?_⟩;have vy:=(l7 _ aZ).1;have amx:iA (eC P Q).1:=⟨t8,F8,t3,by have:=py.2.2.2;omega⟩
   have below:∀t∈r.1,fT (cu P).1 (ds t.1 (cu Q).1):=fun t au=>by
    have Va:k2 P Q≠[]:=fun e=>by
     rw[e,kx,aoB rfl]at i2;obtain rfl:=aoL i2;cases au
    have bg:=hy _ (kL Va);rcases i3.le t au with h|h
    ·rw[h];exact bg
    ·exact sj _ _ _ bg h
   refine⟨⟨apT.2 ⟨fun t au=>adU t8 (i3.g3 t au).1 vy (by rw[aA];exact below t au),i3.nrm.1⟩,fun t au=> ?_⟩,fun t au=> ?_,fun t au=> ?_,fun t au=> ?_,fun au m=> ?_⟩
   ·rcases aoW.1 au with rfl|au
    ·exact bR
    ·exact i3.nrm.2 t au
   ·rcases aoW.1 au with rfl|au
    ·exact amx
    ·exact i3.g3 t au
   ·rcases aoW.1 au with rfl|au
    ·exact s2
    ·exact i3.rs t au
   ·rcases aoW.1 au with rfl|au
    ·exact .inl aA
    ·exact .inr (below t au)
   ·rw[vQ,i3.id au m];show _=cG (c3 ([eC P Q]++r.1) Q) m;rw[Od];grind
theorem Is:∀{L:List Rat} {K:Nat},(∀c∈L,dd K c)->∃D:Nat,1<=D/\D<=4294967296^(K*L.length)/\∀c∈L,∃X:Int,c*(D:Rat)=(X:Rat)/\X.natAbs<=4294967296^(K*L.length)
 |[],K,_=>⟨1,aoH _,by simp,fun c aC=>by cases aC⟩
 |c::L,K,h=>by
  obtain⟨D,aa,ad,ax⟩:=Is (L:=L) (K:=K) fun d aY=>h d (by simp[aY]);have aC:=h c (by simp);have e:4294967296^(K*(c::L).length)=4294967296^K*4294967296^(K*L.length):=by rw[apj,Nat.mul_succ,Nat.add_comm,aph]
  have aY:1<=c.den:=c.den_pos
  have akk:c*(c.den:Rat)=(c.num:Rat):=by
   have:=Rat.mkRat_self c;rw[Rat.mkRat_eq_div]at this;have bc:(c.den:Rat)≠0:=fun e=>c.den_nz (by exact_mod_cast e);generalize (c.den:Rat)=d at*;generalize (c.num:Rat)=n at*;grind
  refine⟨c.den*D,Nat.mul_pos aY aa,by rw[e];exact apG (aqh aC.2) ad,fun d hU=> ?_⟩;rw[e];rcases aoW.1 hU with rfl|hU
  ·refine⟨d.num*D, ?_, ?_⟩
   ·rw[Rat.natCast_mul,<-aql,akk,Rat.intCast_mul];rfl
   ·rw[aqm,Int.natAbs_natCast];exact apG (aqh aC.1) ad
  ·obtain⟨X,aV,bp⟩:=ax d hU;refine⟨c.den*X, ?_, ?_⟩
   ·rw[Rat.natCast_mul,Rat.mul_comm (c.den:Rat),<-aql,aV,Rat.intCast_mul,Rat.mul_comm];rfl
   ·rw[aqm,Int.natAbs_natCast];exact apG (aqh aC.2) bp
theorem iA.of {m:List Int}(h:m.length=8)(aa:∀x∈m,0<=x/\x<=4)(ad:∀i,3<=i->m.getD i 0=0):iA m:=by
 refine⟨h,fun x ak=>(aa x ak).1,ad, ?_⟩
 have g:∀i,i<8->0<=m.getD i 0/\m.getD i 0<=4:=fun i hi=>aa _ (jU (by omega))
 have g0:=g 0 (by omega);have g1:=g 1 (by omega);have g2:=g 2 (by omega);rw[gD];omega
theorem tF.of {Q:List ba}(Bb:fw Q)(gj:Q≠[])(l7:da 2 Q)(KG:∀t∈Q,∀i,3<=i->t.1.getD i 0=0){J n:Nat}(yd:1<=J)(nR:dz J Q)(yc:Q.length<=n):∃w,tF Q w (4294967296^((J+J)*n)):=by
 obtain⟨D,aa,ad,ax⟩:=Is (L:=Q.map fun u=>u.2/(cu Q).2) (K:=J+J) fun c aC=>by
  obtain⟨u,hu,rfl⟩:=aoO.1 aC;exact(nR u hu).div (nR _ (kL gj)) yd
 rw[aoK]at ad ax;have hm:4294967296^((J+J)*Q.length)<=4294967296^((J+J)*n):=apd (by decide) (ao3 _ yc);refine⟨D,Bb,gj,l7,KG,⟨aa,aoV ad hm⟩,fun u hu=> ?_⟩;obtain⟨X,aV,bp⟩:=ax _ (aq4 hu);exact⟨X,aV,aoV bp hm⟩
theorem qH.of {P:List ba}(ye:fw P)(Gd:∀t∈P,iA t.1){K n w B:Nat}(sb:dz K P)(A_:P.length<=n)(hw:w<=B):∃D,1<=D/\D<=4294967296^(K*n)/\qH w B (4294967296^(K*n)) D 0 P:=by
 obtain⟨D,aa,ad,ax⟩:=Is (L:=P.map (·.2)) (K:=K) fun c aC=>by
  obtain⟨u,hu,rfl⟩:=aoO.1 aC;exact sb u hu
 rw[aoK]at ad ax;have hm:4294967296^(K*P.length)<=4294967296^(K*n):=apd (by decide) (ao3 _ A_);refine⟨D,aa,aoV ad hm,ye,Gd,fun m _=> ?_⟩
 by_cases bc:cG P m=0
 ·exact⟨0,by rw[bc,Rat.zero_mul];rfl,apR _⟩
 ·obtain⟨t,au,rfl⟩:=Qe bc;obtain⟨X,aV,bp⟩:=ax _ (aq4 au);rw[sg ye au];refine⟨X*((w^(52-gD t.1):Nat):Int), ?_, ?_⟩
  ·rw[Rat.natCast_mul,<-aql,aV,Rat.intCast_mul];rfl
  ·rw[aqm,Int.natAbs_natCast,aqb,ao_];exact apG (aoV bp hm) (Nat.pow_le_pow_left hw _)
theorem ae7 (a n:Nat)(h:a<=32*n):2^a<=4294967296^n:=by
 rw[show(4294967296:Nat)=2^32 from rfl,<-Nat.pow_mul];exact apd (by decide) h
theorem ae8 (a b c d e:Nat){x y:Nat}(bn:y<=4294967296^b)(h:a+b+c*d<e)(ak:x<=4294967296^a*y*(4294967296^c)^d):x<4294967296^e:=by
 have aa:4294967296^a*y*(4294967296^c)^d<=4294967296^a*4294967296^b*4294967296^(c*d):=by
  rw[<-Nat.pow_mul 4294967296 c d];exact aoR _ (ao3 _ bn)
 rw[<-aph,<-aph]at aa;exact apN (aoV ak aa) (Nat.pow_lt_pow_right (by decide) h)
theorem ae9 {A D n:Nat}(h:D<=A):D<=A*2^n:=aoV h (Nat.le_mul_of_pos_right _ (Nat.pow_pos (by decide)))
theorem adW {Q P:List ba}(Bb:fw Q)(gj:Q≠[])(l7:da 2 Q)(KG:∀t∈Q,∀i,3<=i->t.1.getD i 0=0)(nR:dz 15 Q)(yc:Q.length<=3)
 (ye:fw P) (sa:da 4 P) (amy:∀t∈P,∀i,3<=i->t.1.getD i 0=0) (sb:dz 310 P) (A_:P.length<=13):uR P Q/\Kc Q P 13415 (jJ P Q)/\(jJ P Q).1.length<=150000:=by
 have Gd:∀t∈P,iA t.1:=fun t au=> .of (sa t au).1 (sa t au).2 (amy t au)
 obtain⟨w,dH⟩:=tF.of Bb gj l7 KG (by decide) nR yc;obtain⟨D,d1,d2,gG⟩:=qH.of ye Gd sb A_ dH.w1.2;generalize dM:310*13=a at d2 gG
 obtain⟨T,bs⟩:∃T,T=150000:=⟨_,rfl⟩
 have key:=fun x=>ae8 a 4688 ((15+15)*3) 52 13400 (x:=x) (ae7 T 4688 (by omega)) (by omega)
 obtain⟨aa,r,ad,ax⟩:=adV dH nR (by omega) d1 (by decide) (by decide) (show 13400+15<=100000 by decide) (key _ (aoH _))
  (key _ (aoR _ (ae9 d2))) 150000 0 P gG (fun t au=>IG (Gd t au)) (by omega)
 have ao:=DK ad;rw[ao];have amz:r.1.length<=150000:=Ir ax.nrm.1 ax.g3 fun t au=>IG (ax.g3 t au);refine⟨⟨gj,⟨150001,by decide,aa⟩,fun _=> ?_⟩,ax,amz⟩;rw[ao];exact yH (k:=13415) (c:=1) ax.rs (by decide) ((iA.eP ax.g3).nk (by decide)) ax.nrm.kv (by decide) (by decide) (by omega)
end ab
end
section
open Go Go.aj
namespace ab
def iP (p:List ba):Prop:=∀t∈p,∀i,3<=i->t.1.getD i 0=0
theorem iP.nrm {p:List ba}(h:iP p):iP (nrm p):=fun t au i hi=>by
 obtain⟨u,hu,e⟩:=oQ au;rw[<-e];exact h u hu i hi
theorem iP.app {p q:List ba}(h:iP p)(g:iP q):iP (p++q):=fun t au=>by
 rcases apM.1 au with au|au
 ·exact h t au
 ·exact g t au
theorem iP.mul {p q:List ba}(h:iP p)(g:iP q)(c6:∀t∈p,t.1.length=8)(g8:∀t∈q,t.1.length=8):iP (c3 p q):=fun t au i hi=>by
 obtain⟨u,hu,v,aM,rfl⟩:=uq au;have dj:=c6 u hu;have df:=g8 v aM;rcases aqg i 8 with k6|k6
 ·rw[uo _ _ _ (by omega) (by omega),h u hu i hi,g v aM i hi];rfl
 ·have:(ds u.1 v.1).length=8:=IF dj df;show(ds u.1 v.1).getD i 0=0;rw[aoC,api (by omega)];rfl
theorem iP.drawn {l:List Int}{a n:Int}(h:dI l a)(aB:0<=n):iP ((kP l a 3 n).1.map aN):=fun t au i hi=>by
 obtain⟨r,ao,rfl⟩:=aoO.1 au;obtain⟨m,s,c,d,rfl,hm,_,bm,_⟩:=(Qa (v:=3) h aB).2.2 r ao;rw[mY hm];exact bm i (by exact hi)
theorem Qi {p q:Rows}(h:ec p q=true)(e:nrm (p.map aN)=nrm (q.map aN)):xV p q=true:=by
 rw[xV,h,e];simp
theorem eD.div {e:Int}{K n:Nat}{m q:Rows}(h:eD 4 K n m)(g:eD 2 15 3 q)(fF:K<=310)(aB:n<=13)(Ge:iP (m.map aN))(yg:iP (q.map aN)):
 ((cx m/\Raw 400000 999999999 m)/\(cx q/\Raw 400000 999999999 q)/\(¬nrm (q.map aN)=[]->ec m q=true->uR (nrm (m.map aN)) (nrm (q.map aN))))/\
 (¬nrm (q.map aN)=[]->Kc (nrm (q.map aN)) (nrm (m.map aN)) 13415 (jJ (nrm (m.map aN)) (nrm (q.map aN)))/\(jJ (nrm (m.map aN)) (nrm (q.map aN))).1.length<=150000)/\
 (lX m q=if nrm (q.map aN)=[]then 3 else if(jJ (nrm (m.map aN)) (nrm (q.map aN))).2 then 0 else 16):=by
 have key:=fun gj:¬nrm (q.map aN)=[]=>adW (gI _) gj g.eP.nrm yg.nrm g.raw.gq g.raw.km (gI (m.map aN)) h.eP.nrm Ge.nrm (h.raw.gq.mono fF) (aoV h.raw.km aB);refine⟨⟨⟨h.aT (by omega),h.raw.mono (by omega) (by omega)⟩,⟨g.aT (by decide),g.raw.mono (by decide) (by decide)⟩,fun gj _=>(key gj).1⟩,fun gj=>(key gj).2, ?_⟩;rw[lX,aoB (h.aM g (by decide) (by decide))]
theorem Vl (l:List Int)(K:R->Prop)(h:BO.T [.d (.af .i64 l)] K):K7 l K:=by
 obtain⟨az,ae⟩:=h;unfold K7 aP;refine⟨trivial, ?_⟩;rintro L rfl _ rfl _ rfl;have aq:=dI.new az;obtain⟨bu,aD⟩:=eD.drawn (v:=3) (n:=4) (k:=4) aq rfl (by decide);have Vb:=iP.drawn (n:=4) aq (by decide);obtain⟨br,aZ⟩:=eD.drawn (v:=3) (n:=3) (k:=3) bu rfl (by decide);have yg:=iP.drawn (n:=3) bu (by decide);obtain⟨cQ,ao⟩:=eD.drawn (v:=3) (n:=1) (k:=1) br rfl (by decide);have Vc:=iP.drawn (n:=1) br (by decide);refine⟨⟨aq,by decide,by decide⟩, ?_⟩;rintro _ rfl _ rfl _ rfl p rI;refine⟨⟨bu,by decide,by decide⟩, ?_⟩;rintro _ rfl _ rfl _ rfl q akl;refine⟨⟨br,by decide,by decide⟩, ?_⟩;rintro _ rfl _ rfl _ rfl r akm;rw[<-rI]at aD Vb;rw[<-akl]at aZ yg;rw[<-akm]at ao Vc;have Vd:=aD.mul aZ (by decide) (by decide);refine⟨Vd.1,fun m hm em akn=> ?_⟩;obtain⟨em,hm,Bc,KH⟩:=Vd.2 hm akn;have Ge:iP (m.map aN):=by rw[KH];exact(Vb.mul yg aD.eP.len aZ.eP.len).nrm
 obtain⟨d1,d2,d3⟩:=Bc.div (e:=0) aZ (by decide) (by decide) Ge yg;refine Kb em ⟨d1, ?_⟩;rintro x ak _ rfl;refine⟨aZ.raw.mono (by decide) (by decide), ?_⟩;rintro _ rfl;rw[ff]
 by_cases gj:nrm (q.map aN)=[]
 ·rw[aoB gj]at d3;rw[gj,d3];exact⟨fun _=>⟨fun _=>⟨trivial,by rintro _ rfl;exact ae⟩,fun h=>absurd h (by decide)⟩,fun h=>absurd h (by decide)⟩
 have amA:¬((nrm (q.map aN)).length:Int)=0:=fun e=>gj (apl.1 (by omega));rw[aoA gj]at d3;have gh:=gI (p.map aN)
 have hex:jJ (nrm (m.map aN)) (nrm (q.map aN))=(nrm (p.map aN),true):=by
  refine DK (n:=(nrm (p.map aN)).length+1) ?_;rw[KH,p0 (gI _),<-C1];exact Rc (gI _) aZ.eP.nrm.len gj gh fun t au=>⟨(aD.eP.nrm t au).1,fun x ak=>((aD.eP.nrm t au).2 x ak).1⟩
 rw[hex,aoB rfl]at d3;rw[d3,hex,aoB rfl,p0 gh]at ak;refine⟨fun h=>absurd (aoN h) amA,fun _=>Kb d3 ?_⟩;have KI:eD 2 21 4 x:=by rw[ak];exact eD.of aD.raw.gq (by decide) aD.eP aD.raw.km
 have amB:x.map aN=nrm (p.map aN):=by rw[ak];exact fp aD.eP.nrm.len
 refine⟨⟨⟨KI.aT (by decide),KI.raw.mono (by decide) (by decide)⟩,aD.aT (by decide),aD.raw.mono (by decide) (by decide)⟩, ?_⟩;rintro b rfl;refine okB (Qi (KI.aM aD (by decide) (by decide)) (by rw[amB,p0 gh])) ⟨ao.raw.mono (by decide) (by decide), ?_⟩;rintro bC rfl;have KJ:eD 4 6 1 (bB (nrm (r.map aN))):=(eD.of ao.raw.gq (by decide) ao.eP ao.raw.km).mono (by decide) (by decide) (by decide);have amC:(bB (nrm (r.map aN))).map aN=nrm (r.map aN):=fp ao.eP.nrm.len;obtain⟨sc,Ve⟩:=Bc.core KJ;have aI:iP ((bB (nrm (m.map aN++(bB (nrm (r.map aN))).map aN))).map aN):=by rw[Ve,amC];exact(Ge.app Vc.nrm).nrm
 have ako:vT m:=by
  have:=Raw.KC (Bc.raw.mono (J:=900000) (m:=12) (by decide) (by decide)) (by decide);rw[KH,p0 (gI _),<-hm]at this;exact this
 have agF:Raw 900000 999999999 (m++bB (nrm (r.map aN))):=by
  refine(H6 (k:=145) (n:=13) (fun t au=> ?_) (by decide) ?_ (by decide)).mono (by decide) (by decide)
  ·rcases apM.1 au with au|au
   ·exact Bc.raw.av t au|>.mono (by decide)
   ·exact KJ.raw.av t au|>.mono (by decide)
  ·rw[ao1];have:=Bc.raw.len;have:=KJ.raw.len;omega
 refine⟨⟨ako,agF⟩, ?_⟩;intro z akp;rw[<-akp]at sc Ve aI;obtain⟨aA,aG,bR⟩:=sc.div (e:=0) aZ (by decide) (by decide) aI yg;obtain⟨aG,cY⟩:=aG gj;rw[aoA gj]at bR;refine⟨aA, ?_⟩;rintro y bn _ rfl;generalize jJ (nrm (z.map aN)) (nrm (q.map aN))=w at*
 cases hw:w.2 with
 |false=>
  rw[hw,aoA apD]at bR;rw[bR,aoA (by decide)]at bn;rw[bR,bn];exact⟨fun _=>⟨fun _=>⟨fun _=>⟨trivial,by rintro _ rfl;exact ae⟩,fun h=>absurd h (by decide)⟩,fun h=>absurd h (by decide)⟩,fun h=>absurd h (by decide)⟩
 |true=>
  rw[hw,aoB rfl]at bR;rw[bR,aoB rfl]at bn;refine Kb bR ?_;have Vf:da 52 w.1:=iA.eP aG.g3;have bh:eD 52 13416 150000 y:=by rw[bn];exact eD.of (by rw[p0 aG.nrm];exact aG.rs) (by decide) Vf (by rw[p0 aG.nrm];exact cY)
  have amD:y.map aN=w.1:=by rw[bn,fp Vf.nrm.len,p0 aG.nrm]
  have Vg:=bh.mul aZ (by decide) (by decide);refine⟨Vg.1,fun u hu F_ akq=> ?_⟩;obtain⟨F_,hu,_,_⟩:=Vg.2 hu akq
  have bm:u=bB (nrm (z.map aN)):=by
   rw[hu,amD];refine apg bB (pK fun x=> ?_);rw[<-ju (z.map aN),aG.id hw x];exact N3 (fun _=>rfl) (fun y=>(ju _ y).symm) x
  have KK:eD 4 306 13 (bB (nrm (z.map aN))):=eD.of (sc.raw.gq.mono (by decide)) (by decide) sc.eP sc.raw.km;refine akd F_ ⟨⟨⟨?_, ?_⟩,sc.aT (by decide),sc.raw.mono (by decide) (by decide)⟩, ?_⟩
  ·rw[bm];exact KK.aT (by decide)
  ·rw[bm];exact KK.raw.mono (by decide) (by decide)
  rintro b rfl;refine ake (Qi ?_ ?_) ⟨trivial,by rintro _ rfl;exact ae⟩
  ·rw[bm];exact KK.aM sc (by decide) (by decide)
  ·rw[bm,fp sc.eP.nrm.len,p0 (gI _)]
end ab
end
section
open Go Go.aj
theorem ab.ad2 {args:List R}{K:R->Prop}(a8:ab.EI.T args K):∃s a b,args=[.agg [.d (.bool s), .d (.af .u32 a), .d (.af .u32 b)]]:=by unfold ab.EI.T bj at a8;grind [Go.aj.cd]
theorem ab.Zn {args:List R}{K:R->Prop}(a8:ab.CS.T args K):∃s a b,args=[.d (.bool s), .d (.af .u32 a), .d (.af .u32 b)]:=by unfold ab.CS.T bj at a8;grind [Go.aj.cd]
theorem ab.Zo {args:List R}{K:R->Prop}(a8:ab.CT.T args K):∃a,args=[.d (.af .u32 a)]:=by unfold ab.CT.T bj at a8;grind [Go.aj.cd]
theorem ab.Og {args:List R}{K:R->Prop}(a8:ab.wU.T args K):∃s a b,args=[.agg [.d (.bool s), .d (.af .u32 a), .d (.af .u32 b)]]:=by unfold ab.wU.T bj at a8;grind [Go.aj.cd]
theorem ab.ad3 {args:List R}{K:R->Prop}(a8:ab.EJ.T args K):∃a,args=[.d (.af .u32 a)]:=by unfold ab.EJ.T bj at a8;grind [Go.aj.cd]
theorem ab.WV {args:List R}{K:R->Prop}(a8:ab.BL.T args K):∃n,args=[.d (.int .i64 n)]:=by unfold ab.BL.T bj at a8;grind [Go.aj.cd]
theorem ab.Qk {args:List R}{K:R->Prop}(a8:ab.s0.T args K):∃n,args=[.d (.int .i64 n)]:=by unfold ab.s0.T bj at a8;grind [Go.aj.cd]
theorem ab.acv {args:List R}{K:R->Prop}(a8:ab.DY.T args K):∃n d,args=[.d (.int .i64 n), .d (.int .i64 d)]:=by unfold ab.DY.T bj at a8;grind [Go.aj.cd]
theorem ab.X_ {args:List R}{K:R->Prop}(a8:ab.Cd.T args K):∃s a t b d,args=[.d (.bool s), .d (.af .u32 a), .d (.bool t), .d (.af .u32 b), .d (.af .u32 d)]:=by unfold ab.Cd.T bj at a8;grind [Go.aj.cd]
theorem ab.Ql {args:List R}{K:R->Prop}(a8:ab.xd.T args K):∃s a b t c d,args=[.agg [.d (.bool s), .d (.af .u32 a), .d (.af .u32 b)], .agg [.d (.bool t), .d (.af .u32 c), .d (.af .u32 d)]]:=by unfold ab.xd.T bj at a8;grind [Go.aj.cd]
theorem ab.acw {args:List R}{K:R->Prop}(a8:ab.DZ.T args K):∃s a b,args=[.agg [.d (.bool s), .d (.af .u32 a), .d (.af .u32 b)]]:=by unfold ab.DZ.T bj at a8;grind [Go.aj.cd]
theorem ab.acx {args:List R}{K:R->Prop}(a8:ab.D0.T args K):∃s a b t c d,args=[.agg [.d (.bool s), .d (.af .u32 a), .d (.af .u32 b)], .agg [.d (.bool t), .d (.af .u32 c), .d (.af .u32 d)]]:=by unfold ab.D0.T bj at a8;grind [Go.aj.cd]
theorem ab.acy {args:List R}{K:R->Prop}(a8:ab.D1.T args K):∃s a b t c d,args=[.agg [.d (.bool s), .d (.af .u32 a), .d (.af .u32 b)], .agg [.d (.bool t), .d (.af .u32 c), .d (.af .u32 d)]]:=by unfold ab.D1.T bj at a8;grind [Go.aj.cd]
theorem ab.acz {args:List R}{K:R->Prop}(a8:ab.D2.T args K):∃s a b t c d,args=[.agg [.d (.bool s), .d (.af .u32 a), .d (.af .u32 b)], .agg [.d (.bool t), .d (.af .u32 c), .d (.af .u32 d)]]:=by unfold ab.D2.T bj at a8;grind [Go.aj.cd]
theorem ab.aa0 {args:List R}{K:R->Prop}(a8:ab.w3.T args K):∃s a b,args=[.agg [.d (.bool s), .d (.af .u32 a), .d (.af .u32 b)]]:=by unfold ab.w3.T bj at a8;grind [Go.aj.cd]
theorem ab.acA {args:List R}{K:R->Prop}(a8:ab.D3.T args K):∃s a b t c d,args=[.agg [.d (.bool s), .d (.af .u32 a), .d (.af .u32 b)], .agg [.d (.bool t), .d (.af .u32 c), .d (.af .u32 d)]]:=by unfold ab.D3.T bj at a8;grind [Go.aj.cd]
theorem ab.Zp {args:List R}{K:R->Prop}(a8:ab.wV.T args K):∃s a b t c d,args=[.agg [.d (.bool s), .d (.af .u32 a), .d (.af .u32 b)], .agg [.d (.bool t), .d (.af .u32 c), .d (.af .u32 d)]]:=by unfold ab.wV.T bj at a8;grind [Go.aj.cd]
theorem ab.Ya {args:List R}{K:R->Prop}(a8:ab.Ce.T args K):∃s a b,args=[.agg [.d (.bool s), .d (.af .u32 a), .d (.af .u32 b)]]:=by unfold ab.Ce.T bj at a8;grind [Go.aj.cd]
theorem ab.Zq {args:List R}{K:R->Prop}(a8:ab.CU.T args K):∃s a b,args=[.d (.bool s), .d (.af .u32 a), .d (.af .u32 b)]:=by unfold ab.CU.T bj at a8;grind [Go.aj.cd]
theorem ab.Yb {args:List R}{K:R->Prop}(a8:ab.Cf.T args K):∃s a b,args=[.agg [.d (.bool s), .d (.af .u32 a), .d (.af .u32 b)]]:=by unfold ab.Cf.T bj at a8;grind [Go.aj.cd]
theorem ab.aa1 {args:List R}{K:R->Prop}(a8:ab.Dx.T args K):∃s a b,args=[.agg [.d (.bool s), .d (.af .u32 a), .d (.af .u32 b)]]:=by unfold ab.Dx.T bj at a8;grind [Go.aj.cd]
theorem ab.aa2 {args:List R}{K:R->Prop}(a8:ab.Dw.T args K):∃s a b t c d,args=[.agg [.d (.bool s), .d (.af .u32 a), .d (.af .u32 b)], .agg [.d (.bool t), .d (.af .u32 c), .d (.af .u32 d)]]:=by unfold ab.Dw.T bj at a8;grind [Go.aj.cd]
theorem ab.Yc {a0:R}{b9:ag}{args:List R}{K:ag->R->Prop}(a8:ab.Cg.T a0 b9 args K):∃l a s x y,a0= .ptr 0 0/\b9= .cells [.d (.af .i64 l), .d (.int .i64 a), .d (.int .i64 s)]/\args=[.d (.int .i64 x), .d (.int .i64 y)]:=by unfold ab.Cg.T fq at a8;grind [Go.aj.cd]
theorem ab.aa3 {a0:R}{b9:ag}{args:List R}{K:ag->R->Prop}(a8:ab.Dy.T a0 b9 args K):∃l a s,a0= .ptr 0 0/\b9= .cells [.d (.af .i64 l), .d (.int .i64 a), .d (.int .i64 s)]/\args=[]:=by unfold ab.Dy.T fq at a8;grind [Go.aj.cd]
theorem ab.Yd {a0:R}{b9:ag}{args:List R}{K:ag->R->Prop}(a8:ab.Ch.T a0 b9 args K):∃l a s,a0= .ptr 0 0/\b9= .cells [.d (.af .i64 l), .d (.int .i64 a), .d (.int .i64 s)]/\args=[]:=by unfold ab.Ch.T fq at a8;grind [Go.aj.cd]
end
section
namespace ab
open Go Go.aj
end ab
end
section
open Go Go.aj
namespace ab
end ab
end
section
open Go Go.aj
namespace ab
end ab
end
section
open Go Go.aj
namespace ab
theorem WW (n:Int)(K:R->Prop)(h:BF.T [.d (.int .i64 n)] K):Md n K:=by
 obtain⟨⟨aa,ad⟩,ae⟩:=h;unfold Md bY;refine⟨fun h=> ?_,fun h=> ?_⟩
 ·simp only[aoG]at h;rw[aoB h,aoB h]at ae;exact ae
 ·simp only[aoF]at h;rw[aoA h,aoA h]at ae
  obtain⟨q,rfl⟩:∃q:Nat,n=q:=⟨n.toNat,by omega⟩
  have e:cP .and .i64 (q:Int) 4294967295=((q%4294967296:Nat):Int):=ae1 q 32 (by omega) (by decide);have aG:Int.fdiv (q:Int) 4294967296=((q/4294967296:Nat):Int):=by rw[apk _ (by omega)];omega
  rw[e,aG,ia (x:=((q%4294967296:Nat):Int)) (by omega),ia (x:=((q/4294967296:Nat):Int)) (by omega)];have az:bL [((q%4294967296:Nat):Int),((q/4294967296:Nat):Int)]:= .mk (by omega) (.mk (by omega) .nil);refine⟨⟨az,by simp⟩, ?_⟩;rw[SM az,aoD,aoD,Nat.mod_add_div];rw[aoD]at ae;exact ae
theorem aa4 (a b:List Int)(K:R->Prop)(h:CP.T [.d (.af .u32 a), .d (.af .u32 b)] K):N0 a b K:=by
 obtain⟨⟨aS,ah⟩,ae⟩:=h;have hk:=jx aS;have k1:=jx ah;have lL:=aS.2;have et:=ah.2;unfold N0 ai aW bY
 have po:cmp (val a) (val b)<0↔val a<val b:=by
  unfold cmp;split
  ·simp[*]
  ·split<;>simp[*]
 refine⟨⟨aS,ah⟩,fun h=> ?_,fun h=>⟨aS,ah, ?_⟩⟩
 ·simp only[aoG]at h;rw[aoB (po.1 h),aoB (po.1 h)]at ae;exact ae
 ·simp only[aoF]at h;have jc:¬val a<val b:=fun ak=>h (po.2 ak);rw[aoA jc,aoA jc]at ae
  have JL:(aO (val b)).length<=(aO (val a)).length:=by
   rw[hZ];have:=hZ.1 (aoH (aO (val a)).length);omega
  have dM:=gx (val a);have eu:=gx (val b);have nG:=dV (val a);have nc:=dV (val b);rw[<-nG,<-nc]at ae jc;generalize aO (val a)=A at*;generalize aO (val b)=B at*;refine⟨fun c i o bu=>bu=B/\bL o/\o.length=A.length/\∃C i0:Nat,c=C/\i=i0/\i0<=A.length/\C<=1/\val o+dw B i0=val A+4294967296^i0*C,fun c i o bu=>A.length-i.toNat,⟨rfl,dM,rfl,0,0,rfl,rfl,by omega,by omega,by rw[iD,ao6]⟩, ?_⟩;rintro c i o bu ⟨rfl,aH,gp,C,n,rfl,rfl,aB,l4,ay⟩;rw[gp];refine⟨fun h=> ?_,fun h=> ?_⟩
  ·simp only[aoG]at h;have aA:IntKind.wrap .i64 ((n:Int)+1)=((n+1:Nat):Int):=by rw[bP (by omega)];omega
   simp only[aA,aoD,iu eu,iu aH];have ak:=fV aH n;have bn:=fV eu n;have AN:¬n<bu.length->lm bu n=0:=fun h=>by unfold lm;rw[yS (by omega)];rfl
   obtain⟨x,hv⟩:∃x,lm o n=x:=⟨_,rfl⟩
   obtain⟨y,nH⟩:∃x,lm bu n=x:=⟨_,rfl⟩
   rw[hv]at ak;rw[nH]at bn AN;simp only[hv,nH];refine⟨fun v=>v=((C+y:Nat):Int),⟨fun aa=> ?_,fun aa=> ?_⟩, ?_⟩
   ·simp only[aoG]at aa;refine⟨by omega,aa,by first|rfl|trivial,by first|rfl|trivial, ?_⟩;rw[cS (x:=(y:Int)) (by omega),cS (by omega)];omega
   ·simp only[aoF]at aa;refine⟨by first|rfl|trivial,by first|rfl|trivial, ?_⟩;rw[AN (by omega)];rfl
   rintro v rfl;have w1:IntKind.wrap .u64 (x:Int)=(x:Int):=cS (by omega);have dq:IntKind.wrap .u64 ((x:Int)+4294967296)=(x:Int)+4294967296:=cS (by omega);simp only[w1,dq]
   have key:∀st ni:Nat,st<4294967296->ni<=1->st+y+C=x+4294967296*ni->
    val (o.set n (st:Int))+dw bu (n+1)=val A+4294967296^(n+1)*ni:=fun st ni aa ad ax=>by
    have kt:=me o n (st:Int) (by omega);rw[show(o.getD n 0).toNat=x from hv,aoD]at kt;have aV:=apg (4294967296^n*·) ax;simp only[aoS]at aV;rw[gy,show(bu.getD n 0).toNat=y from nH,ao2,ao4];omega
   refine⟨by omega,by omega,fun ad=>⟨by omega,by omega, ?_, ?_⟩,fun ad=>⟨by omega,by omega, ?_, ?_⟩⟩
   ·simp only[aoG]at ad
    have bY:IntKind.wrap .u32 (IntKind.wrap .u64 ((x:Int)+4294967296-((C+y:Nat):Int)))=((x+4294967296-C-y:Nat):Int):=by
     rw[cS (by omega),ia (by omega)];omega
    rw[bY];exact⟨by first|rfl|trivial,aH.set _ ⟨by omega,by omega⟩,by rw[aoT];exact gp,1,n+1,rfl,rfl,by omega,by omega,key _ 1 (by omega) (by omega) (by omega)⟩
   ·show A.length-((n+1:Nat):Int).toNat<A.length-(n:Int).toNat;omega
   ·simp only[aoF]at ad
    have bY:IntKind.wrap .u32 (IntKind.wrap .u64 ((x:Int)-((C+y:Nat):Int)))=((x-C-y:Nat):Int):=by
     rw[cS (by omega),ia (by omega)];omega
    rw[bY];exact⟨by first|rfl|trivial,aH.set _ ⟨by omega,by omega⟩,by rw[aoT];exact gp,0,n+1,rfl,rfl,by omega,by omega,key _ 0 (by omega) (by omega) (by omega)⟩
   ·show A.length-((n+1:Nat):Int).toNat<A.length-(n:Int).toNat;omega
  ·simp only[aoF]at h;obtain rfl:n=A.length:=by omega
   refine⟨⟨aH,by omega⟩, ?_⟩;rw[hE bu JL]at ay;have bG:=iE aH;rw[gp]at bG
   have AD:C=0:=by
    rcases ap9 C with bc|bc
    ·exact bc
    ·obtain rfl:C=1:=by omega
     rw[ao_]at ay;omega
   rw[AD,ao6,ao0]at ay;have:val o=val A-val bu:=by omega
   rw[this];exact ae
theorem afc (p q s:Nat)(aZ:q<2^s)(h:p*2^s+q<18446744073709551616):cP .or .u64 ((p*2^s:Nat):Int) (q:Int)=((p*2^s+q:Nat):Int):=IZ p q s aZ h
theorem Ye (a:List Int)(k:Int)(K:ag->Prop)(h:BW.T [.d (.af .u32 a), .d (.int .i64 k)] K):M3 a k K:=by
 obtain⟨⟨aS,tu,j6⟩,ae⟩:=h;have hk:=aS.2
 obtain⟨s,rfl⟩:∃n:Nat,k=n:=⟨k.toNat,by omega⟩
 rw[aoD]at ae;unfold M3 ai aW bY aP;have hz:IntKind.wrap .i64 ((Nat.cast:Nat->Int) a.length+1)=((a.length+1:Nat):Int):=by rw[bP (by omega)];omega
 have bZ:IntKind.wrap .u64 (s:Int)=(s:Int):=cS (by omega);rw[hz];simp only[bZ,aoD,show min s 64=s by omega];have Ft:2^s<=2147483648:=apd (show 0<2 by decide) (show s<=31 by omega);have aD:=apx s;refine⟨by omega,by omega,by omega,fun c i o=>bL o/\o.length=a.length+1/\∃C n:Nat,c=C/\i=n/\n<=a.length/\C<2^s/\dw o n+4294967296^n*C=dw a n*2^s,fun c i o=>a.length-i.toNat,⟨bL.nt _,by simp,0,0,rfl,rfl,by omega,aD,by rw[iD,iD,ao6,apY]⟩, ?_⟩;rintro c i o ⟨aH,gp,C,n,rfl,rfl,aB,l4,ay⟩;refine⟨fun h=> ?_,fun h=> ?_⟩
 ·simp only[aoG]at h;have aA:IntKind.wrap .i64 ((n:Int)+1)=((n+1:Nat):Int):=by rw[bP (by omega)];omega
  simp only[aA,aoD,iu aS.1];have aY:=fV aS.1 n;have ku:(a.getD n 0).toNat=lm a n:=rfl
  obtain⟨d,hU⟩:∃d,lm a n=d:=⟨_,rfl⟩
  rw[hU]at aY ku;simp only[hU];have bG:d*2^s<4294967296*2^s:=aqJ aY aD;have jo:(2:Int)^s=((2^s:Nat):Int):=by simp
  have kh:d*2^s+C<4294967296*2^s:=by
   have:=aoR (2^s) (show d+1<=4294967296 by omega);rw[aoX,apX]at this;omega
  have w1:cP .or .u64 (IntKind.wrap .u64 (IntKind.wrap .u64 (d:Int)*(2:Int)^s)) (C:Int)=((d*2^s+C:Nat):Int):=by
   rw[cS (x:=(d:Int)) (by omega),jo,<-apK,cS ⟨apz _,by omega⟩];exact afc d C s l4 (by omega)
  simp only[w1]
  obtain⟨S,gh,TV⟩:∃S,d*2^s+C=S/\S<4294967296*2^s:=⟨_,rfl,kh⟩
  simp only[gh];have dq:IntKind.wrap .u32 (S:Int)=((S%4294967296:Nat):Int):=by rw[kf];omega
  have bY:Int.fdiv (S:Int) 4294967296=((S/4294967296:Nat):Int):=by rw[apk _ (by omega)];omega
  simp only[dq,bY];have bs:S/4294967296<2^s:=aqr TV;refine⟨by omega,by omega,by omega,by omega,by omega,⟨aH.set _ ⟨by omega,by omega⟩,by rw[aoT];exact gp,S/4294967296,n+1,rfl,rfl,by omega,bs, ?_⟩,by show a.length-((n+1:Nat):Int).toNat<a.length-(n:Int).toNat;omega⟩;rw[gy,ri _ _ _ _ (aoH _),e1,aoB ⟨rfl,by omega⟩,aoD,gy,ku,aoX,<-ay,ao4,ao2,ao4]
  have bp:4294967296^n*(d*2^s)+4294967296^n*C=4294967296^n*(S%4294967296)+4294967296^n*(4294967296*(S/4294967296)):=by
   rw[<-aoS,<-aoS,gh,Nat.mod_add_div]
  omega
 ·simp only[aoF]at h;obtain rfl:n=a.length:=by omega
  have dq:IntKind.wrap .u32 (C:Int)=(C:Int):=ia (by omega);simp only[dq,aoD];rw[hE a (aoH _)]at ay
  have aM:val (o.set a.length (C:Int))=val a*2^s:=by
   rw[<-hE (o.set a.length (C:Int)) (i:=a.length+1) (by rw[aoT];omega),gy,ri _ _ _ _ (aoH _),e1,aoB ⟨rfl,by omega⟩,aoD];exact ay
  have az:(o.set a.length (C:Int)).length=a.length+1:=by rw[aoT];exact gp
  rw[<-aM,<-az,HV _ (aH.set _ ⟨by omega,by omega⟩) rfl]at ae;exact⟨by omega,by omega,ae⟩
theorem afd (p q s:Nat)(aZ:q<2^s)(h:p*2^s+q<18446744073709551616):cP .or .u64 (q:Int) ((p*2^s:Nat):Int)=((p*2^s+q:Nat):Int):=by
 rw[OL];exact IZ p q s aZ h
theorem WX (a:List Int)(k:Int)(K:R->Prop)(h:BG.T [.d (.af .u32 a), .d (.int .i64 k)] K):Mc a k K:=by
 obtain⟨⟨pd,tu,j6⟩,ae⟩:=h;have aS:=pd.1;have hk:=pd.2
 obtain⟨s,rfl⟩:∃n:Nat,k=n:=⟨k.toNat,by omega⟩
 rw[aoD]at ae;unfold Mc ai aW bY aP;have bZ:IntKind.wrap .u64 (s:Int)=(s:Int):=cS (by omega);have agN:s<32:=by omega
 simp only[bZ,aoD,show min s 64=s by omega,iu aS];refine⟨by omega,by omega,by omega,fun i o=>bL o/\o.length=a.length/\∃n:Nat,i=n/\n<=a.length/\dw o n=val a/2^s%4294967296^n,fun i o=>a.length-i.toNat,⟨bL.nt _,by simp,0,rfl,by omega,by rw[iD,aqb,Nat.mod_one]⟩, ?_⟩;rintro i o ⟨aH,gp,n,rfl,aB,aM⟩;refine⟨fun h=> ?_,fun h=> ?_⟩
 ·simp only[aoG]at h;have aA:IntKind.wrap .i64 ((n:Int)+1)=((n+1:Nat):Int):=by rw[bP (by omega)];omega
  simp only[aA,aoD];have ak:=fV aS n;have bn:=fV aS (n+1);have AN:¬n+1<a.length->lm a (n+1)=0:=fun h=>by unfold lm;rw[yS (by omega)];rfl
  have Kf:er a n=lm a n+4294967296*(lm a (n+1)+4294967296*er a (n+2)):=by rw[mu a n,mu a (n+1)]
  obtain⟨x,hv⟩:∃x,lm a n=x:=⟨_,rfl⟩
  obtain⟨y,nH⟩:∃x,lm a (n+1)=x:=⟨_,rfl⟩
  rw[hv]at ak Kf;rw[nH]at bn AN Kf;simp only[hv,nH];have eo:IntKind.wrap .u64 (x:Int)=(x:Int):=cS (by omega)
  have w1:IntKind.wrap .u64 (IntKind.wrap .u64 (y:Int)*4294967296)=((y*2^32:Nat):Int):=by
   have tt:(2:Nat)^32=4294967296:=rfl;rw[cS (x:=(y:Int)) (by omega),cS (by omega),tt];omega
  have dq:cP .or .u64 (x:Int) ((y*2^32:Nat):Int)=((y*4294967296+x:Nat):Int):=afd y x 32 (by have tt:(2:Nat)^32=4294967296:=rfl;omega) (by have tt:(2:Nat)^32=4294967296:=rfl;omega);simp only[eo,w1,dq];refine⟨by omega,by omega,fun v=>v=((y*4294967296+x:Nat):Int),⟨fun aa=> ?_,fun aa=> ?_⟩, ?_⟩
  ·simp only[aoG]at aa;exact⟨by omega,aa,by first|rfl|trivial,rfl⟩
  ·simp only[aoF]at aa;refine⟨by first|rfl|trivial, ?_⟩;rw[AN (by omega),apY,ao8]
  rintro v rfl;have jo:(2:Int)^s=((2^s:Nat):Int):=by simp
  have bY:Int.fdiv ((y*4294967296+x:Nat):Int) ((2:Int)^s)=(((y*4294967296+x)/2^s:Nat):Int):=by
   rw[jo,apk _ (apz _),aqu]
  have kA:IntKind.wrap .u32 (((y*4294967296+x)/2^s:Nat):Int)=(((y*4294967296+x)/2^s%4294967296:Nat):Int):=by
   rw[kf,aqH];rfl
  simp only[bY,kA]
  have IB:(y*4294967296+x)/2^s%4294967296=val a/2^s/4294967296^n%4294967296:=by
   rw[M0 (A:=er a (n+2)) agN,<-Kf,<-Il aS n,Nat.div_div_eq_div_mul,Nat.div_div_eq_div_mul,apa]
  rw[IB];have jq:val a/2^s/4294967296^n%4294967296<4294967296:=apm _ (by decide);refine⟨by omega,by omega,by omega,⟨aH.set _ ⟨apz _,by omega⟩,by rw[aoT];exact gp,n+1,rfl,by omega, ?_⟩,by show a.length-((n+1:Nat):Int).toNat<a.length-(n:Int).toNat;omega⟩;rw[gy,ri _ _ _ _ (aoH _),e1,aoB ⟨rfl,by omega⟩,aoD,aM,ao2,Nat.mod_mul]
 ·simp only[aoF]at h;obtain rfl:n=a.length:=by omega
  rw[hE o (by omega),apw (apN (aqZ _ _) (iE aS))]at aM;refine⟨⟨aH,by omega⟩, ?_⟩;rw[aM];exact ae
end ab
end
section
open Go Go.aj
namespace ab
def Ly:(R->Prop)->Prop:=
 fun K=>True/\∀x,x=bB (if(0:Int)<=(0:Int)/\(0:Int)<(8:Int)then[(dt.set (0:Nat) (1:Int),nz)]else[])->∀aX,aX=(0:Int)->True/\∀aU,aU=bB (if(0:Int)<=(1:Int)/\(1:Int)<(8:Int)then[(dt.set (1:Nat) (1:Int),nz)]else[])->∀bo,bo=(0:Int)->o0 x aU/\∀ck,ck=bB (if ec x aU=true then nrm (List.map aN x++List.map aN aU)else[])->∀de,(de=if ec x aU=true then(0:Int)else(2:Int))->o0 x aU/\∀di,di=bB (if ec x aU=true then nrm (List.map aN x++eM (-1:Rat) (List.map aN aU))else[])->∀dp,(dp=if ec x aU=true then(0:Int)else(2:Int))->xg ck di/\∀x,x=bB (if o7 ck di=true then nrm (c3 (List.map aN ck) (List.map aN di))else[])->∀dK,(dK=if ec ck di=true then if lW (nrm (List.map aN ck)) (nrm (List.map aN di))=true then(9:Int)else(0:Int)else(2:Int))->(x=[[U.int .i64 (2:Int),U.int .i64 (0:Int),U.int .i64 (0:Int),U.int .i64 (0:Int),U.int .i64 (0:Int),U.int .i64 (0:Int),U.int .i64 (0:Int),U.int .i64 (0:Int),U.bool false,U.af .u32 [(1:Int)],U.af .u32 [(1:Int)]],[U.int .i64 (0:Int),U.int .i64 (2:Int),U.int .i64 (0:Int),U.int .i64 (0:Int),U.int .i64 (0:Int),U.int .i64 (0:Int),U.int .i64 (0:Int),U.int .i64 (0:Int),U.bool true,U.af .u32 [(1:Int)],U.af .u32 [(1:Int)]]]/\[[U.str [(112:Int)]],[U.str [(113:Int)]]]=[[U.str [(112:Int)]],[U.str [(113:Int)]]])/\∀x,x=[(112:Int),(94:Int),(50:Int),(32:Int),(45:Int),(32:Int),(113:Int),(94:Int),(50:Int)]->∀cX,cX=(0:Int)->(decide (aX=(0:Int))=true->(decide (bo=(0:Int))=true->(decide (de=(0:Int))=true->(decide (dp=(0:Int))=true->(decide (dK=(0:Int))=true->(decide (cX=(0:Int))=true->K (R.d (U.bool (decide (x=[(112:Int),(94:Int),(50:Int),(32:Int),(45:Int),(32:Int),(113:Int),(94:Int),(50:Int)])))))/\(decide (cX=(0:Int))=false->K (R.d (U.bool false))))/\(decide (dK=(0:Int))=false->K (R.d (U.bool false))))/\(decide (dp=(0:Int))=false->K (R.d (U.bool false))))/\(decide (de=(0:Int))=false->K (R.d (U.bool false))))/\(decide (bo=(0:Int))=false->K (R.d (U.bool false))))/\(decide (aX=(0:Int))=false->K (R.d (U.bool false)))
end ab
end
section
open Go Go.aj
namespace ab
def Gm:(R->Prop)->Prop:=
 fun K=>(0:Int)<=(2:Int)/\(2:Int)<=(3:Int)/\(3:Int)<=(36:Int)/\K (R.d (U.str (List.drop (2:Nat) (List.take (3:Nat) (have y:=have y:=have y:=[(118:Int),(119:Int),(120:Int),(121:Int),(122:Int)];(114:Int)::(115:Int)::(116:Int)::(117:Int)::y;have y:=(109:Int)::(110:Int)::(111:Int)::(112:Int)::(113:Int)::y;(105:Int)::(106:Int)::(107:Int)::(108:Int)::y;have y:=have y:=(100:Int)::(101:Int)::(102:Int)::(103:Int)::(104:Int)::y;(57:Int)::(97:Int)::(98:Int)::(99:Int)::y;have y:=(52:Int)::(53:Int)::(54:Int)::(55:Int)::(56:Int)::y;(48:Int)::(49:Int)::(50:Int)::(51:Int)::y)))))
def L8:(R->Prop)->Prop:=
 fun K=>(2:Int)=(2:Int)/\K (R.d (U.str [(50:Int)]))
def Lq:(R->Prop)->Prop:=
 fun K=>((2:Int)=(2:Int)/\(10:Int)=(10:Int))/\K (R.d (U.str [(50:Int)]))
def Gl:(R->Prop)->Prop:=
 fun K=>(2:Int)=(2:Int)/\K (R.d (U.str [(50:Int)]))
def Gp:List Int->List Int->(R->Prop)->Prop:=
 fun x s K=>(0:Int)<=(0:Int)/\(0:Int)<↑[[U.str x]].length/\([U.str x].getD (0:Nat) U.undef).isStr/\K (R.d (U.str x))
def Gn:(R->Prop)->Prop:=
 fun K=>[gR,gS]=[gR,gS]/\[gR,gS]=[gR,gS]/\(0:Int)<=(0:Int)/\(0:Int)<(2:Int)/\(11:Nat)=(11:Nat)/\(List.getD gR (8:Nat) U.undef).isBool/\(List.getD gR (9:Nat) U.undef).eQ .u32/\(List.getD gR (10:Nat) U.undef).eQ .u32/\([(1:Int)]=[(1:Int)]/\[(1:Int)]=[(1:Int)])/\(List.getD gR (8:Nat) U.undef).isBool/\(List.getD gR (9:Nat) U.undef).eQ .u32/\(List.getD gR (10:Nat) U.undef).eQ .u32/\(11:Nat)=(11:Nat)/\(∀(x:U),x∈List.take (8:Nat) gR->x.dg .i64)/\(∀(x:U),x∈[U.int .i64 (0:Int),U.int .i64 (0:Int),U.int .i64 (0:Int),U.int .i64 (0:Int),U.int .i64 (0:Int),U.int .i64 (0:Int),U.int .i64 (0:Int),U.int .i64 (0:Int)]->x.dg .i64)/\(decide (List.map U.toInt (List.take (8:Nat) gR)=List.map U.toInt [U.int .i64 (0:Int),U.int .i64 (0:Int),U.int .i64 (0:Int),U.int .i64 (0:Int),U.int .i64 (0:Int),U.int .i64 (0:Int),U.int .i64 (0:Int),U.int .i64 (0:Int)])=true->(bS (1000000:Nat) [(1:Int)]/\bS (1000000:Nat) [(1:Int)])/\(16:Int)<=(70368744177664:Int)/\(11:Nat)=(11:Nat)/\(0:Int)<=(0:Int)/\(0:Int)<(8:Int)/\((List.take (8:Nat) gR).getD (0:Nat) U.undef).dg .i64/\(0:Int)<=(0:Int)/\(0:Int)<(2:Int)/\([U.str [(112:Int)]].getD (0:Nat) U.undef).isStr/\((List.take (8:Nat) gR).getD (0:Nat) U.undef).toInt=(2:Int)/\(2:Int)<=(9223372036854775807:Int)/\(3:Int)<=(9223372036854775807:Int)/\(32:Int)<=(70368744177664:Int)/\(0:Int)<=(1:Int)/\(1:Int)<(8:Int)/\((List.take (8:Nat) gR).getD (1:Nat) U.undef).dg .i64/\(0:Int)<=(2:Int)/\(2:Int)<(8:Int)/\((List.take (8:Nat) gR).getD (2:Nat) U.undef).dg .i64/\(0:Int)<=(3:Int)/\(3:Int)<(8:Int)/\((List.take (8:Nat) gR).getD (3:Nat) U.undef).dg .i64/\(0:Int)<=(4:Int)/\(4:Int)<(8:Int)/\((List.take (8:Nat) gR).getD (4:Nat) U.undef).dg .i64/\(0:Int)<=(5:Int)/\(5:Int)<(8:Int)/\((List.take (8:Nat) gR).getD (5:Nat) U.undef).dg .i64/\(0:Int)<=(6:Int)/\(6:Int)<(8:Int)/\((List.take (8:Nat) gR).getD (6:Nat) U.undef).dg .i64/\(0:Int)<=(7:Int)/\(7:Int)<(8:Int)/\((List.take (8:Nat) gR).getD (7:Nat) U.undef).dg .i64/\False)/\(decide (List.map U.toInt (List.take (8:Nat) gR)=List.map U.toInt [U.int .i64 (0:Int),U.int .i64 (0:Int),U.int .i64 (0:Int),U.int .i64 (0:Int),U.int .i64 (0:Int),U.int .i64 (0:Int),U.int .i64 (0:Int),U.int .i64 (0:Int)])=false->(1:Int)=(1:Int)/\((false=false/\false=false)/\[(1:Int)]=[(1:Int)]/\[(1:Int)]=[(1:Int)]/\[(1:Int)]=[(1:Int)]/\[(1:Int)]=[(1:Int)])/\(11:Nat)=(11:Nat)/\(0:Int)<=(0:Int)/\(0:Int)<(8:Int)/\((List.take (8:Nat) gR).getD (0:Nat) U.undef).dg .i64/\(0:Int)<=(0:Int)/\(0:Int)<(2:Int)/\([U.str [(112:Int)]].getD (0:Nat) U.undef).isStr/\((List.take (8:Nat) gR).getD (0:Nat) U.undef).toInt=(2:Int)/\(2:Int)<=(9223372036854775807:Int)/\(3:Int)<=(9223372036854775807:Int)/\(16:Int)<=(70368744177664:Int)/\(0:Int)<=(1:Int)/\(1:Int)<(8:Int)/\((List.take (8:Nat) gR).getD (1:Nat) U.undef).dg .i64/\(0:Int)<=(2:Int)/\(2:Int)<(8:Int)/\((List.take (8:Nat) gR).getD (2:Nat) U.undef).dg .i64/\(0:Int)<=(3:Int)/\(3:Int)<(8:Int)/\((List.take (8:Nat) gR).getD (3:Nat) U.undef).dg .i64/\(0:Int)<=(4:Int)/\(4:Int)<(8:Int)/\((List.take (8:Nat) gR).getD (4:Nat) U.undef).dg .i64/\(0:Int)<=(5:Int)/\(5:Int)<(8:Int)/\((List.take (8:Nat) gR).getD (5:Nat) U.undef).dg .i64/\(0:Int)<=(6:Int)/\(6:Int)<(8:Int)/\((List.take (8:Nat) gR).getD (6:Nat) U.undef).dg .i64/\(0:Int)<=(7:Int)/\(7:Int)<(8:Int)/\((List.take (8:Nat) gR).getD (7:Nat) U.undef).dg .i64/\True/\(3:Nat)<=(1000000000:Nat)/\(0:Int)<=(1:Int)/\(1:Int)<(2:Int)/\(11:Nat)=(11:Nat)/\(List.getD gS (8:Nat) U.undef).isBool/\(List.getD gS (9:Nat) U.undef).eQ .u32/\(List.getD gS (10:Nat) U.undef).eQ .u32/\([(1:Int)]=[(1:Int)]/\[(1:Int)]=[(1:Int)])/\(6:Nat)<=(1000000000:Nat)/\(List.getD gS (8:Nat) U.undef).isBool/\(List.getD gS (9:Nat) U.undef).eQ .u32/\(List.getD gS (10:Nat) U.undef).eQ .u32/\(11:Nat)=(11:Nat)/\(∀(x:U),x∈List.take (8:Nat) gS->x.dg .i64)/\(∀(x:U),x∈[U.int .i64 (0:Int),U.int .i64 (0:Int),U.int .i64 (0:Int),U.int .i64 (0:Int),U.int .i64 (0:Int),U.int .i64 (0:Int),U.int .i64 (0:Int),U.int .i64 (0:Int)]->x.dg .i64)/\(decide (List.map U.toInt (List.take (8:Nat) gS)=List.map U.toInt [U.int .i64 (0:Int),U.int .i64 (0:Int),U.int .i64 (0:Int),U.int .i64 (0:Int),U.int .i64 (0:Int),U.int .i64 (0:Int),U.int .i64 (0:Int),U.int .i64 (0:Int)])=true->(bS (1000000:Nat) [(1:Int)]/\bS (1000000:Nat) [(1:Int)])/\(16:Int)<=(70368744177664:Int)/\(11:Nat)=(11:Nat)/\(0:Int)<=(0:Int)/\(0:Int)<(8:Int)/\((List.take (8:Nat) gS).getD (0:Nat) U.undef).dg .i64/\(0:Int)<=(1:Int)/\(1:Int)<(8:Int)/\((List.take (8:Nat) gS).getD (1:Nat) U.undef).dg .i64/\(0:Int)<=(1:Int)/\(1:Int)<(2:Int)/\([U.str [(113:Int)]].getD (0:Nat) U.undef).isStr/\((List.take (8:Nat) gS).getD (1:Nat) U.undef).toInt=(2:Int)/\(2:Int)<=(9223372036854775807:Int)/\(3:Int)<=(9223372036854775807:Int)/\(32:Int)<=(70368744177664:Int)/\(0:Int)<=(2:Int)/\(2:Int)<(8:Int)/\((List.take (8:Nat) gS).getD (2:Nat) U.undef).dg .i64/\(0:Int)<=(3:Int)/\(3:Int)<(8:Int)/\((List.take (8:Nat) gS).getD (3:Nat) U.undef).dg .i64/\(0:Int)<=(4:Int)/\(4:Int)<(8:Int)/\((List.take (8:Nat) gS).getD (4:Nat) U.undef).dg .i64/\(0:Int)<=(5:Int)/\(5:Int)<(8:Int)/\((List.take (8:Nat) gS).getD (5:Nat) U.undef).dg .i64/\(0:Int)<=(6:Int)/\(6:Int)<(8:Int)/\((List.take (8:Nat) gS).getD (6:Nat) U.undef).dg .i64/\(0:Int)<=(7:Int)/\(7:Int)<(8:Int)/\((List.take (8:Nat) gS).getD (7:Nat) U.undef).dg .i64/\False)/\(decide (List.map U.toInt (List.take (8:Nat) gS)=List.map U.toInt [U.int .i64 (0:Int),U.int .i64 (0:Int),U.int .i64 (0:Int),U.int .i64 (0:Int),U.int .i64 (0:Int),U.int .i64 (0:Int),U.int .i64 (0:Int),U.int .i64 (0:Int)])=false->(1:Int)=(1:Int)/\((false=false/\false=false)/\[(1:Int)]=[(1:Int)]/\[(1:Int)]=[(1:Int)]/\[(1:Int)]=[(1:Int)]/\[(1:Int)]=[(1:Int)])/\(11:Nat)=(11:Nat)/\(0:Int)<=(0:Int)/\(0:Int)<(8:Int)/\((List.take (8:Nat) gS).getD (0:Nat) U.undef).dg .i64/\(0:Int)<=(1:Int)/\(1:Int)<(8:Int)/\((List.take (8:Nat) gS).getD (1:Nat) U.undef).dg .i64/\(0:Int)<=(1:Int)/\(1:Int)<(2:Int)/\([U.str [(113:Int)]].getD (0:Nat) U.undef).isStr/\((List.take (8:Nat) gS).getD (1:Nat) U.undef).toInt=(2:Int)/\(2:Int)<=(9223372036854775807:Int)/\(3:Int)<=(9223372036854775807:Int)/\(16:Int)<=(70368744177664:Int)/\(0:Int)<=(2:Int)/\(2:Int)<(8:Int)/\((List.take (8:Nat) gS).getD (2:Nat) U.undef).dg .i64/\(0:Int)<=(3:Int)/\(3:Int)<(8:Int)/\((List.take (8:Nat) gS).getD (3:Nat) U.undef).dg .i64/\(0:Int)<=(4:Int)/\(4:Int)<(8:Int)/\((List.take (8:Nat) gS).getD (4:Nat) U.undef).dg .i64/\(0:Int)<=(5:Int)/\(5:Int)<(8:Int)/\((List.take (8:Nat) gS).getD (5:Nat) U.undef).dg .i64/\(0:Int)<=(6:Int)/\(6:Int)<(8:Int)/\((List.take (8:Nat) gS).getD (6:Nat) U.undef).dg .i64/\(0:Int)<=(7:Int)/\(7:Int)<(8:Int)/\((List.take (8:Nat) gS).getD (7:Nat) U.undef).dg .i64/\True/\(9:Nat)<=(1000000000:Nat)/\¬[]++([(112:Int)]++([(94:Int)]++[(50:Int)]))++[(32:Int),(45:Int),(32:Int)]++([(113:Int)]++([(94:Int)]++[(50:Int)]))=[]/\K (R.tup [R.d (U.str ([]++([(112:Int)]++([(94:Int)]++[(50:Int)]))++[(32:Int),(45:Int),(32:Int)]++([(113:Int)]++([(94:Int)]++[(50:Int)])))),R.d (U.int .i64 (0:Int))])))
end ab
end
section
open Go Go.aj
namespace ab
theorem Vr (K:R->Prop)(h:rj.T [.d (.int .i64 2)] K):Gm K:=by
 obtain⟨_,ae⟩:=h;unfold Gm;exact⟨by decide,by decide,by decide,ae⟩
theorem Wd (K:R->Prop)(h:rj.T [.d (.int .i64 2)] K):L8 K:=h
theorem Vt (K:R->Prop)(h:rj.T [.d (.int .i64 2)] K):Lq K:=⟨⟨rfl,rfl⟩,h.2⟩
theorem Vp (K:R->Prop)(h:yV.T [.d (.int .i64 2), .d (.int .i64 10)] K):Gl K:=by
 obtain⟨_,ae⟩:=h;unfold Gl;simpa using ae
theorem We (x s:List Int)(K:R->Prop)(h:zo.T [.d (.av 1 [[.str x]]), .d (.str s)] K):Gp x s K:=by
 obtain⟨_,ae⟩:=h;unfold Gp;simpa[U.isStr]using ae
theorem VL (K:R->Prop)(h:yW.T [.d (.av 11 qf), .d (.av 1 zX)] K):Gn K:=by
 obtain⟨_,ae⟩:=h;unfold Gn;simp[U.dg,U.isBool,U.eQ,U.isStr,U.toInt];exact ae
end ab
end
section
open Go Go.aj
namespace ab
theorem Cz:cm 1=[1]:=by unfold cm;exact pL
theorem DM:cc 1=[1]:=by unfold cc;exact pL
theorem H_:cm (-1)=[1]:=by unfold cm;exact pL
theorem Ia:cc (-1)=[1]:=by unfold cc;exact pL
theorem VC (K:R->Prop)(h:Cx.T [] K):Ly K:=by
 obtain⟨_,ae⟩:=h;unfold Ly;rw[aoB (show(0:Int)<=0/\(0:Int)<8 by decide),aoB (show(0:Int)<=1/\(1:Int)<8 by decide)];refine⟨trivial, ?_⟩;rintro _ rfl _ rfl;refine⟨trivial, ?_⟩;rintro _ rfl _ rfl;have eo:dz 1 [(dt.set 0 1,nz)]:=za (by decide);have w1:dz 1 [(dt.set 1 1,nz)]:=za (by decide);have hz:da 1024 [(dt.set 0 1,nz)]:=zD (by decide);have aA:da 1024 [(dt.set 1 1,nz)]:=zD (by decide);have eY:nrm ([(dt.set 0 1,nz)]++[(dt.set 1 1,nz)])=[(dt.set 0 1,1),(dt.set 1 1,1)]:=by decide+kernel
 have hy:nrm ([(dt.set 0 1,nz)]++eM (-1) [(dt.set 1 1,nz)])=[(dt.set 0 1,1),(dt.set 1 1,-1)]:=by decide+kernel
 have vQ:nrm (c3 [(dt.set 0 1,(1:Rat)),(dt.set 1 1,1)] [(dt.set 0 1,1),(dt.set 1 1,-1)])=[(dt.set 0 2,1),(dt.set 1 2,-1)]:=by decide+kernel
 have nQ:nrm [(dt.set 0 1,(1:Rat)),(dt.set 1 1,1)]=[(dt.set 0 1,1),(dt.set 1 1,1)]:=by decide+kernel
 have r7:nrm [(dt.set 0 1,(1:Rat)),(dt.set 1 1,-1)]=[(dt.set 0 1,1),(dt.set 1 1,-1)]:=by decide+kernel
 have dq:dz 1 [(dt.set 0 1,(1:Rat)),(dt.set 1 1,1)]:=za (by decide);have bY:dz 1 [(dt.set 0 1,(1:Rat)),(dt.set 1 1,-1)]:=za (by decide);have aG:da 1024 [(dt.set 0 1,(1:Rat)),(dt.set 1 1,1)]:=zD (by decide);have bR:da 1024 [(dt.set 0 1,(1:Rat)),(dt.set 1 1,-1)]:=zD (by decide);have v1:=Ra hz aA;have v2:=Ra aG bR;have a0:=fp hz.len;have a1:=fp aA.len;have a2:=fp aG.len;have a3:=fp bR.len;have ca:lW [(dt.set 0 1,(1:Rat)),(dt.set 1 1,1)] [(dt.set 0 1,1),(dt.set 1 1,-1)]=false:=by decide+kernel
 refine⟨Q_ eo hz w1 aA (by decide) (by decide), ?_⟩;simp only[v1,apc,a0,a1,eY,hy];rintro _ rfl _ rfl;refine⟨Q_ eo hz w1 aA (by decide) (by decide), ?_⟩;rintro _ rfl _ rfl;refine⟨adS dq aG bY bR (by decide) (by decide), ?_⟩;simp only[o7,v2,a2,a3,nQ,r7,ca,vQ,Bool.not_false,Bool.and_true,apc]
 have x3:bB [(dt.set 0 2,(1:Rat)),(dt.set 1 2,-1)]=qf:=by
  show[c8 (dt.set 0 2)++[.bool (cj 1), .af .u32 (cm 1), .af .u32 (cc 1)],c8 (dt.set 1 2)++[.bool (cj (-1)), .af .u32 (cm (-1)), .af .u32 (cc (-1))]]=_;rw[Cz,DM,H_,Ia];rfl
 rintro x ak _ rfl;refine⟨⟨ak.trans x3,trivial⟩, ?_⟩;rintro _ rfl _ rfl;simpa using ae
def Gj (i:Nat)(x:Int):List Int:=dt.set i x
end ab
end
section
namespace ab
open Go Go.aj Go.Sort
theorem S6 (v:BitVec 64):(0:Int)<=(v.toNat:Int)/\(v.toNat:Int)<18446744073709551616:=by have:=v.isLt;omega
theorem agO (a b:Int):cP .xor .u64 a b=((BitVec.ofInt 64 a^^^BitVec.ofInt 64 b).toNat:Int):=cS (S6 _)
theorem agP (a b:Int):cP .and .u64 a b=((BitVec.ofInt 64 a&&&BitVec.ofInt 64 b).toNat:Int):=cS (S6 _)
theorem ad4 (a b:Int):0<=cP .xor .u64 a b/\cP .xor .u64 a b<18446744073709551616:=by
 rw[agO];have:=(BitVec.ofInt 64 a^^^BitVec.ofInt 64 b).isLt;omega
theorem ad5 (a:Int){b:Nat}(ah:b<18446744073709551616):0<=cP .and .u64 a b/\cP .and .u64 a b<=b:=by
 rw[agP,BitVec.toNat_and]
 have h:(BitVec.ofInt 64 (b:Int)).toNat=b:=by
  rw[aqw,aqI];exact apw ah
 rw[h];have:= @Nat.and_le_right (BitVec.ofInt 64 a).toNat b;omega
theorem VH (x:Int)(K:ag->R->Prop)(h:(0<=x/\x<18446744073709551616)/\∀y:Int,(0<=y/\y<18446744073709551616)->K (.cells [.d (.int .u64 y)]) (.d (.int .u64 y))):Vx x K:=
 h.2 _ (ad4 _ _)
theorem Lm (l:Rows)(a b s:Int)(K:ag->R->Prop)
 (h:(dh l/\0<=a/\a<(l.length:Int)/\0<=b/\b<(l.length:Int)/\0<=s/\s<1000)/\
   K (.cells [.d (.int .i64 (Go.Sort.order2 bk l.toArray a.toNat b.toNat s.toNat).2.2)]) (.tup [.d (.int .i64 (Go.Sort.order2 bk l.toArray a.toNat b.toNat s.toNat).1), .d (.int .i64 (Go.Sort.order2 bk l.toArray a.toNat b.toNat s.toNat).2.1)])):Li l a b s K:=by
 obtain⟨⟨az,aS,FJ,ah,hJ,ay,gB⟩,ae⟩:=h;obtain⟨A,rfl⟩:=aoI aS;obtain⟨B,rfl⟩:=aoI ah;obtain⟨S,rfl⟩:=aoI ay;simp only[aoD]at ae;unfold Li ai aP List.aR;rw[bP (x:=(S:Int)+1) (by omega)];simp only[aoD];refine⟨ah,hJ,az.len (by omega),aS,FJ,az.len (by omega),⟨az.get (by omega),az.get (by omega)⟩, ?_⟩;rintro _ rfl;unfold order2 at ae;rw[jD]at ae;refine⟨fun h=> ?_,fun h=> ?_⟩
 ·rw[h]at ae;exact ae
 ·rw[h]at ae;exact ae
theorem S7 (l:Array Row){a b s n:Nat}(aS:a<n)(ah:b<n):(order2 bk l a b s).1<n/\(order2 bk l a b s).2.1<n:=by
 rcases order2_mem bk l a b s with⟨aa,ad⟩|⟨aa,ad⟩<;>rw[aa,ad]<;>exact⟨by omega,by omega⟩
theorem Ln (l:Rows)(a b e s:Int)(K:ag->R->Prop)
 (h:(dh l/\(0<=a/\a<(l.length:Int))/\(0<=b/\b<(l.length:Int))/\(0<=e/\e<(l.length:Int))/\0<=s/\s<900)/\
   K (.cells [.d (.int .i64 (Go.Sort.median bk l.toArray a.toNat b.toNat e.toNat s.toNat).2)]) (.d (.int .i64 (Go.Sort.median bk l.toArray a.toNat b.toNat e.toNat s.toNat).1))):Lj l a b e s K:=by
 obtain⟨⟨az,⟨aS,FJ⟩,⟨ah,hJ⟩,⟨he,JE⟩,ay,gB⟩,ae⟩:=h;obtain⟨A,rfl⟩:=aoI aS;obtain⟨B,rfl⟩:=aoI ah;obtain⟨E,rfl⟩:=aoI he;obtain⟨S,rfl⟩:=aoI ay;simp only[aoD]at ae;unfold median at ae;unfold Lj aP;simp only[aoD];have fi:=order2_count bk l.toArray A B S;have dG:= @S7 l.toArray A B S l.length (by omega) (by omega);refine⟨⟨az,aS,FJ,ah,hJ,ay,by omega⟩, ?_⟩;rintro _ rfl _ rfl _ rfl;simp only[aoD];show(dh l/\0<=(((order2 bk l.toArray A B S).2.1:Nat):Int)/\_)/\_;have fb:=order2_count bk l.toArray (order2 bk l.toArray A B S).2.1 E (order2 bk l.toArray A B S).2.2;have dD:= @S7 l.toArray (order2 bk l.toArray A B S).2.1 E (order2 bk l.toArray A B S).2.2 l.length dG.2 (by omega);refine⟨⟨az,by omega, ?_,he,JE,by omega, ?_⟩, ?_⟩
 ·exact ap_.2 dG.2
 ·show(((order2 bk l.toArray A B S).2.2:Nat):Int)<1000;omega
 rintro _ rfl _ rfl _ rfl;simp only[aoD];refine⟨⟨az,by omega,ap_.2 dG.1,by omega,ap_.2 dD.1,by omega, ?_⟩, ?_⟩
 ·show(((order2 bk l.toArray (order2 bk l.toArray A B S).2.1 E (order2 bk l.toArray A B S).2.2).2.2:Nat):Int)<1000;omega
 rintro _ rfl _ rfl _ rfl;exact ae
theorem KZ (l:Rows)(a s:Int)(K:ag->R->Prop)
 (h:(dh l/\0<a/\a+1<(l.length:Int)/\l.length<1000000000000000/\0<=s/\s<900)/\
   K (.cells [.d (.int .i64 (Go.Sort.medianAdjacent bk l.toArray a.toNat s.toNat).2)]) (.d (.int .i64 (Go.Sort.medianAdjacent bk l.toArray a.toNat s.toNat).1))):KU l a s K:=by
 obtain⟨⟨az,aS,FJ,aB,ay,gB⟩,ae⟩:=h;obtain⟨A,rfl⟩:=aoI (Int.le_of_lt aS);obtain⟨S,rfl⟩:=aoI ay;simp only[aoD]at ae;unfold medianAdjacent at ae;unfold KU ai aP;rw[bP (x:=(A:Int)-1) (by omega),bP (x:=(A:Int)+1) (by omega)];rw[show(A:Int)-1=((A-1:Nat):Int) by omega,show(A:Int)+1=((A+1:Nat):Int) by omega];simp only[aoD];refine⟨⟨az,⟨by omega,by omega⟩,⟨by omega,by omega⟩,⟨by omega,by omega⟩,ay,gB⟩, ?_⟩;rintro _ rfl _ rfl;exact ae
theorem IH (l:Array Row){a s n:Nat}(aS:a+1<n):(medianAdjacent bk l a s).1<n:=by
 rcases medianAdjacent_mem bk l a s with h|h|h<;>omega
theorem aeD {K:R->Prop}{p s:Nat}(h:K (.tup [.d (.int .i64 p), .d (.int .i64 (hintCode (hintOf s)))])):
 (decide ((s:Int)=0)=true->K (.tup [.d (.int .i64 p), .d (.int .i64 1)]))/\(decide ((s:Int)=0)=false->
   (decide ((s:Int)=12)=true->K (.tup [.d (.int .i64 p), .d (.int .i64 2)]))/\(decide ((s:Int)=12)=false->K (.tup [.d (.int .i64 p), .d (.int .i64 0)]))):=by
 unfold hintOf at h;refine⟨fun aa=> ?_,fun aa=>⟨fun ad=> ?_,fun ad=> ?_⟩⟩<;>simp only[aoG,aoF]at*
 ·rw[aoB (by omega)]at h;exact h
 ·rw[aoA (by omega),aoB (by omega)]at h;exact h
 ·rw[aoA (by omega),aoA (by omega)]at h;exact h
theorem K8 (l:Rows)(a b:Int)(K:R->Prop)
 (h:(fW l a b/\a<b)/\K (.tup [.d (.int .i64 (Go.Sort.choosePivot bk l.toArray a.toNat b.toNat).1), .d (.int .i64 (Go.Sort.hintCode (Go.Sort.choosePivot bk l.toArray a.toNat b.toNat).2))])):K3 l a b K:=by
 obtain⟨⟨⟨az,aS,-,ah,aB⟩,jH⟩,ae⟩:=h;obtain⟨A,rfl⟩:=aoI aS;obtain⟨B,rfl⟩:=aoI (ap3 aS (Int.le_of_lt jH));simp only[aoD]at ae;rw[choosePivot_eq]at ae;unfold K3 ai aP;rw[bP (x:=(B:Int)-A) (by omega)]
 have cY:Int.tdiv ((B:Int)-A) 4=(((B-A)/4:Nat):Int):=by
  rw[show(B:Int)-A=((B-A:Nat):Int) by omega];rfl
 rw[cY,bP (x:=(((B-A)/4:Nat):Int)) (by omega),bP (x:=(((B-A)/4:Nat):Int)*1) (by omega),bP (x:=(((B-A)/4:Nat):Int)*2) (by omega),bP (x:=(((B-A)/4:Nat):Int)*3) (by omega)];rw[bP (x:=(A:Int)+(((B-A)/4:Nat):Int)*1) (by omega),bP (x:=(A:Int)+(((B-A)/4:Nat):Int)*2) (by omega),bP (x:=(A:Int)+(((B-A)/4:Nat):Int)*3) (by omega)];rw[show(A:Int)+(((B-A)/4:Nat):Int)*1=((A+(B-A)/4*1:Nat):Int) by omega,show(A:Int)+(((B-A)/4:Nat):Int)*2=((A+(B-A)/4*2:Nat):Int) by omega,show(A:Int)+(((B-A)/4:Nat):Int)*3=((A+(B-A)/4*3:Nat):Int) by omega];have q1:8<=B-A->A<A+(B-A)/4*1/\A+(B-A)/4*3+1<B:=fun h=>by omega
 have cI:A+(B-A)/4*1<=A+(B-A)/4*2:=by omega
 have cV:A+(B-A)/4*2<=A+(B-A)/4*3:=by omega
 refine⟨fun p s=>∃gT:Nat,s=gT/\rawPivot bk l.toArray A B=(p.toNat,gT)/\0<=p, ?_, ?_⟩
 ·generalize E5:A+(B-A)/4*1=i1 at*;generalize Kg:A+(B-A)/4*2=i2 at*;generalize Up:A+(B-A)/4*3=i3 at*;refine⟨fun h=> ?_,fun h=> ?_⟩
  ·have h:=aoN h;obtain⟨q1,gF⟩:=q1 (by omega);refine⟨fun i j k s=>∃qA fX cz gT:Nat,i=qA/\j=fX/\k=cz/\s=gT/\qA<l.length/\fX<l.length/\cz<l.length/\gT<10/\rawPivot bk l.toArray A B=median bk l.toArray qA fX cz gT,⟨fun bp=> ?_,fun bp=> ?_⟩, ?_⟩
   ·have bp:=aoN bp;have fi:=medianAdjacent_count bk l.toArray i1 0;refine⟨⟨az,by omega,by omega,aB,by omega,by omega⟩, ?_⟩;rintro _ rfl _ rfl;simp only[aoD];have fb:=medianAdjacent_count bk l.toArray i2 (medianAdjacent bk l.toArray i1 0).2;have k7:=medianAdjacent_count bk l.toArray i3 (medianAdjacent bk l.toArray i2 (medianAdjacent bk l.toArray i1 0).2).2;refine⟨⟨az,by omega,by omega,aB,by omega, ?_⟩, ?_⟩
    ·show(((medianAdjacent bk l.toArray i1 0).2:Nat):Int)<900;omega
    rintro _ rfl _ rfl;simp only[aoD];refine⟨⟨az,by omega,by omega,aB,by omega, ?_⟩, ?_⟩
    ·show(((medianAdjacent bk l.toArray i2 (medianAdjacent bk l.toArray i1 0).2).2:Nat):Int)<900;omega
    rintro _ rfl _ rfl;refine⟨_,_,_,_,rfl,rfl,rfl,rfl,IH _ (by omega),IH _ (by omega),IH _ (by omega), ?_, ?_⟩
    ·show(medianAdjacent bk l.toArray i3 (medianAdjacent bk l.toArray i2 (medianAdjacent bk l.toArray i1 0).2).2).2<10;omega
    unfold rawPivot;rw[E5,Kg,Up,aoB (by omega),aoB (by omega)]
   ·have bp:=aoP bp;refine⟨_,_,_,0,rfl,rfl,rfl,rfl,by omega,by omega,by omega,by omega, ?_⟩;unfold rawPivot;rw[E5,Kg,Up,aoB (by omega),aoA (by omega)]
   rintro _ _ _ _ ⟨qA,fX,cz,gT,rfl,rfl,rfl,rfl,la,z2,z3,z4,z5⟩;refine⟨⟨az,⟨by omega,by omega⟩,⟨by omega,by omega⟩,⟨by omega,by omega⟩,by omega,by omega⟩, ?_⟩;rintro _ rfl _ rfl;simp only[aoD];exact⟨_,rfl,z5,apz _⟩
  ·have h:=aoP h;refine⟨0,rfl, ?_,by omega⟩;unfold rawPivot;rw[aoA (by omega),Kg,aoD]
 ·rintro p _ ⟨s,rfl,e,aD⟩;obtain⟨P,rfl⟩:=aoI aD;rw[e,aoD]at ae;exact aeD ae
end ab
end
section
namespace ab
open Go Go.aj Go.Sort
theorem ad6 {l:Rows}{A B i j:Nat}(ah:B<=l.length)(aa:A<=i)(ad:i<B)(ax:A<=j)(aV:j<B):PermIn A B l.toArray (dZ l i j).toArray:=by
 rw[<-kK];exact swp_permIn l.toArray A B i j aa ad ax aV (by simpa using ah)
theorem K2 (l:Rows)(a b:Int)(K:ag->R->Prop)(h:fW l a b/\∀i,D8 l a b i->K (.av 11 i) (.tup [])):KW l a b K:=by
 obtain⟨⟨az,aS,jH,ah,aB⟩,ae⟩:=h;obtain⟨A,rfl⟩:=aoI aS;obtain⟨B,rfl⟩:=aoI (ap3 aS jH);unfold KW ai aW List.aR;rw[bP (x:=(B:Int)-A) (by omega),show(B:Int)-A=((B-A:Nat):Int) by omega];refine⟨fun h=> ?_,fun h=>ae l ⟨az,permIn_refl _ _ _⟩⟩;have h:=aoN h;refine⟨by omega, ?_⟩;rw[aoD];have jo:=ab0 (n:=B-A) (by omega);have ky:=adu (B-A);rintro _ rfl;generalize 2^db (B-A)=M at jo ky;have cY:Int.tdiv ((B-A:Nat):Int) 4=(((B-A)/4:Nat):Int):=rfl;rw[cY,bP (x:=(((B-A)/4:Nat):Int)) (by omega),bP (x:=(((B-A)/4:Nat):Int)*2) (by omega),bP (x:=(A:Int)+(((B-A)/4:Nat):Int)*2) (by omega)];rw[bP (x:=(A:Int)+(((B-A)/4:Nat):Int)*2-1) (by omega),bP (x:=(A:Int)+(((B-A)/4:Nat):Int)*2+1) (by omega),cS (x:=(M:Int)-1) (by omega),cS (x:=((B-A:Nat):Int)) (by omega)];have hV:A<A+(B-A)/4*2:=by omega
 have my:A+(B-A)/4*2+1<B:=by omega
 rw[show(A:Int)+(((B-A)/4:Nat):Int)*2=((A+(B-A)/4*2:Nat):Int) by omega];generalize A+(B-A)/4*2=C at hV my;refine⟨fun v o r=>(A:Int)<=v/\v<=(C:Int)+2/\0<=r/\r<18446744073709551616/\dh o/\o.length=l.length/\PermIn A B l.toArray o.toArray,fun v _ _=>((C:Int)+2-v).toNat,⟨by omega,by omega,by omega,by omega,az,rfl,permIn_refl _ _ _⟩, ?_⟩;rintro v o r ⟨g1,g2,g3,g4,g5,g6,g7⟩;obtain⟨V,rfl⟩:=aoI (a:=v) (by omega);refine⟨fun h=> ?_,fun h=>ae o ⟨g5,g7⟩⟩;have h:=aoN h;refine⟨⟨g3,g4⟩,fun i hi=> ?_⟩;have aS:=ad5 i (b:=M-1) (by omega);rw[show((M-1:Nat):Int)=(M:Int)-1 by omega]at aS;generalize cP .and .u64 i ((M:Int)-1)=q at aS;rw[bP (x:=q) (by omega)];refine⟨fun c7 cg=>cg=o/\0<=c7/\c7<((B-A:Nat):Int),⟨fun ad=> ?_,fun ad=> ?_⟩, ?_⟩
 ·have ad:=aoN ad;rw[bP (x:=q-((B-A:Nat):Int)) (by omega)];exact⟨rfl,rfl,by omega,by omega⟩
 ·have ad:=aoP ad;exact⟨rfl,rfl,by omega,by omega⟩
 rintro c7 cg ⟨rfl,kz,lg⟩;obtain⟨W,rfl⟩:=aoI kz;rw[bP (x:=(A:Int)+W) (by omega),bP (x:=(V:Int)+1) (by omega),show(A:Int)+W=((A+W:Nat):Int) by omega];simp only[aoD,aoT];rw[show(cg.set V (cg.getD (A+W) [])).set (A+W) (cg.getD V [])=dZ cg V (A+W)from rfl];have cW:V<cg.length:=by omega
 have c9:A+W<cg.length:=by omega
 exact⟨by omega,by omega,g5.len c9,by omega,by omega,g5.len cW,by omega,by omega,by omega,by omega,
  ⟨by omega,by omega,hi.1,hi.2,g5.dZ cW c9,by simpa using g6,permIn_trans _ _ _ _ _ g7 (ad6 (by omega) (by omega) (by omega) (by omega) (by omega))⟩,by omega⟩
theorem Rh {n:Nat}{l o cQ:Rows}{A B dA dU P:Nat}{v3:Int}{aQ:Int->Int->Int->Bool->Bool->Rows->Prop}{m:Int->Int->Int->Bool->Bool->Rows->Nat}{K:ag->R->Prop}
 (fO:∀v1 v2 v3 w p o,((A:Int)<=v1/\v1<=v2/\v2<=B/\0<=v3/\v3<=64/\dh o/\o.length=l.length/\Below bk v1.toNat v2.toNat o.toArray/\
   ∀bC:Rows,dh bC->PermIn v1.toNat v2.toNat o.toArray bC.toArray->SortedIn bk v1.toNat v2.toNat bC.toArray->K (.av 11 bC) (.tup []))->aQ v1 v2 v3 w p o)
 (hm:∀v1 v2 v3 w p o,m v1 v2 v3 w p o=(v2-v1:Int).toNat)
 (dM:A<=dA) (eu:dU<=B) (aoi:B<=l.length) (aB:l.length<1000000000000000) (hn:B-A<n+1) (vz:dA<=P) (vA:P<dU) (aM:0<=v3/\v3<=64)
 (ax:dh cQ) (hlen:cQ.length=l.length) (ox:Below bk dA dU cQ.toArray)
 (kk:∀bC:Rows,dh bC->PermIn dA dU cQ.toArray bC.toArray->SortedIn bk dA dU bC.toArray->K (.av 11 bC) (.tup [])) (w' FZ:Bool) (Uq:Int) (k:Nat) (ae:k=m dA dU Uq w' FZ o):
 0<cQ.length/\(fW cQ dA dU/\(dA:Int)<=P/\(P:Int)<dU)/\∀x:Rows,x=(partition bk cQ.toArray dA dU P).2.2.toList->∀cA:Int,cA=(partition bk cQ.toArray dA dU P).1->∀dY:Bool,dY=(partition bk cQ.toArray dA dU P).2.1->
  (decide (IntKind.wrap .i64 (cA-dA)<IntKind.wrap .i64 ((dU:Int)-cA))=true->(fW x dA cA/\cA-dA<(n:Int)/\(0<=v3/\v3<=64)/\Below bk dA cA.toNat x.toArray)/\
    ∀i,lC x dA cA i->aQ (IntKind.wrap .i64 (cA+1)) dU v3 (decide (IntKind.wrap .i64 (Int.tdiv (IntKind.wrap .i64 ((dU:Int)-dA)) 8)<=IntKind.wrap .i64 (cA-dA))) dY i/\
     m (IntKind.wrap .i64 (cA+1)) dU v3 (decide (IntKind.wrap .i64 (Int.tdiv (IntKind.wrap .i64 ((dU:Int)-dA)) 8)<=IntKind.wrap .i64 (cA-dA))) dY i<k)/\
  (decide (IntKind.wrap .i64 (cA-dA)<IntKind.wrap .i64 ((dU:Int)-cA))=false->(fW x (IntKind.wrap .i64 (cA+1)) dU/\(dU:Int)-IntKind.wrap .i64 (cA+1)<(n:Int)/\(0<=v3/\v3<=64)/\Below bk (IntKind.wrap .i64 (cA+1)).toNat dU x.toArray)/\
    ∀i,lC x (IntKind.wrap .i64 (cA+1)) dU i->aQ dA cA v3 (decide (IntKind.wrap .i64 (Int.tdiv (IntKind.wrap .i64 ((dU:Int)-dA)) 8)<=IntKind.wrap .i64 ((dU:Int)-cA))) dY i/\
     m dA cA v3 (decide (IntKind.wrap .i64 (Int.tdiv (IntKind.wrap .i64 ((dU:Int)-dA)) 8)<=IntKind.wrap .i64 ((dU:Int)-cA))) dY i<k):=by
 refine⟨by omega,⟨⟨ax,by omega,by omega,by omega,by omega⟩,by omega,by omega⟩, ?_⟩;obtain⟨fi,fb,k7,r4,r5,x6,KB⟩:= @round_part Row _ bk q9 (partition_holds bk) cQ.toArray (partition bk cQ.toArray dA dU P).2.2 dA dU P (partition bk cQ.toArray dA dU P).1 (partition bk cQ.toArray dA dU P).2.1 vz vA (by simp;omega) ox rfl;have vZ:=(partition_holds bk q9 cQ.toArray dA dU P vz vA (by simp;omega)).2.2.1;have yh:=ub ax (by omega) vZ;generalize (partition bk cQ.toArray dA dU P).2.2=d4 at*;generalize (partition bk cQ.toArray dA dU P).1=Bg at*;have Ur:d4.toList.length=l.length:=yh.2.trans hlen;rintro _ rfl _ rfl dY-;rw[bP (x:=(Bg:Int)+1) (by omega),show(Bg:Int)+1=((Bg+1:Nat):Int) by omega];subst ae;simp only[hm,aoD];refine⟨fun _=>⟨⟨⟨yh.1,by omega,by omega,by omega,by omega⟩,by omega,aM,r4⟩, ?_⟩,fun _=>⟨⟨⟨yh.1,by omega,by omega,by omega,by omega⟩,by omega,aM,r5⟩, ?_⟩⟩
 ·rintro i ⟨⟨i1,i2⟩,i3⟩;simp only[aoD]at i2 i3;obtain⟨a7,bl⟩:=x6 i.toArray i2 i3;have bH:i.length=l.length:=(show i.length=d4.toList.length by have:=i2.1;simpa using this).trans Ur;refine⟨fO _ _ _ _ _ _ ⟨by omega,by omega,by omega,aM.1,aM.2,i1,bH,a7,fun bC dG dD ei=> ?_⟩,by omega⟩;obtain⟨qB,r3⟩:=bl bC.toArray dD ei;exact kk bC dG qB r3
 ·rintro i ⟨⟨i1,i2⟩,i3⟩;simp only[aoD]at i2 i3;obtain⟨a7,bl⟩:=KB i.toArray i2 i3;have bH:i.length=l.length:=(show i.length=d4.toList.length by have:=i2.1;simpa using this).trans Ur;refine⟨fO _ _ _ _ _ _ ⟨by omega,by omega,by omega,aM.1,aM.2,i1,bH,a7,fun bC dG dD ei=> ?_⟩,by omega⟩;obtain⟨qB,r3⟩:=bl bC.toArray dD ei;exact kk bC dG qB r3
theorem Lk (n:Nat)(l:Rows)(a b m:Int)(K:ag->R->Prop)
 (h:(fW l a b/\b-a<((n+1:Nat):Int)/\(0<=m/\m<=64)/\Below bk a.toNat b.toNat l.toArray)/\∀i,lC l a b i->K (.av 11 i) (.tup [])):Lf n l a b m K:=by
 obtain⟨⟨⟨az,aS,jH,ah,aB⟩,E_,hm,eu⟩,ae⟩:=h;obtain⟨A,rfl⟩:=aoI aS;obtain⟨B,rfl⟩:=aoI (ap3 aS jH);unfold Lf ai List.aR
 refine⟨fun v1 v2 v3 _ _ o=>(A:Int)<=v1/\v1<=v2/\v2<=B/\0<=v3/\v3<=64/\dh o/\o.length=l.length/\Below bk v1.toNat v2.toNat o.toArray/\
  ∀bC:Rows,dh bC->PermIn v1.toNat v2.toNat o.toArray bC.toArray->SortedIn bk v1.toNat v2.toNat bC.toArray->K (.av 11 bC) (.tup []),fun v1 v2 _ _ _ _=>(v2-v1:Int).toNat,
  ⟨by omega,jH,by omega,hm.1,hm.2,az,rfl,eu,fun bC aa ad ax=>ae bC ⟨⟨aa,ad⟩,ax⟩⟩, ?_⟩
 rintro v1 v2 v3 w p o ⟨q1,cI,cV,gF,dX,ij,hb,fx,yi⟩;obtain⟨dA,rfl⟩:=aoI (a:=v1) (by omega);obtain⟨dU,rfl⟩:=aoI (a:=v2) (by omega);have fx:Below bk dA dU o.toArray:=fx
 have yi:∀bC:Rows,dh bC->PermIn dA dU o.toArray bC.toArray->SortedIn bk dA dU bC.toArray->K (.av 11 bC) (.tup []):=yi
 simp only[aoD];have fy:dU<=o.toArray.size:=by simp;omega
 have cr:∀{x y:Rows},PermIn dA dU x.toArray y.toArray->y.length=x.length:=fun h=>by have:=h.1;simpa using this
 refine⟨fun h=> ?_,fun h=> ?_⟩
 ·refine⟨⟨ij,by omega,by omega,by omega,by omega⟩, ?_⟩;rintro _ rfl;obtain⟨aA,aG⟩:=insertionSort_holds q9 o.toArray dA dU (by omega) fy;exact yi _ (ub ij (by omega) aA).1 aA aG
 have h:=aoP h;rw[bP (x:=(dU:Int)-dA) (by omega)]at h;refine⟨fun bc=> ?_,fun bc=> ?_⟩
 ·refine⟨by omega,⟨⟨ij,by omega,by omega,by omega,by omega⟩,by omega⟩, ?_⟩;rintro _ rfl;obtain⟨aA,aG⟩:=heapSort_holds q9 o.toArray dA dU (by omega) fy;exact yi _ (ub ij (by omega) aA).1 aA aG
 have bc:=aoP bc;refine⟨fun v bu=>0<=v/\v<=64/\dh bu/\PermIn dA dU o.toArray bu.toArray,⟨fun _=> ?_,fun _=> ?_⟩, ?_⟩
 ·rw[bP (x:=v3-1) (by omega)];exact⟨by omega,⟨ij,by omega,by omega,by omega,by omega⟩,fun i hi=>⟨by omega,by omega,hi.1,hi.2⟩⟩
 ·exact⟨gF,dX,ij,permIn_refl _ _ _⟩
 rintro Uq bu ⟨kz,lg,ej,KR⟩;have dj:=cr KR;refine⟨⟨⟨ej,by omega,by omega,by omega,by omega⟩,by omega⟩, ?_⟩;have aC:=choosePivot_holds bk bu.toArray dA dU (by omega);rintro _ rfl cM-
 show∃J:Int->Int->Rows->Prop,_
 generalize (choosePivot bk bu.toArray dA dU).1=C at aC;refine⟨fun vO _ br=>(dA:Int)<=vO/\vO<dU/\dh br/\PermIn dA dU o.toArray br.toArray,⟨fun _=> ?_,fun _=> ?_⟩, ?_⟩
 ·refine⟨by omega,⟨ej,by omega,by omega,by omega,by omega⟩, ?_⟩;rintro _ rfl;rw[bP (x:=(dU:Int)-1) (by omega),bP (x:=(C:Int)-dA) (by omega),bP (x:=(dU:Int)-1-((C:Int)-dA)) (by omega)];have aA:=reverseRange_holds bu.toArray dA dU (by omega) (by simp;omega);exact⟨by omega,by omega,(ub ej (by omega) aA).1,permIn_trans _ _ _ _ _ KR aA⟩
 ·exact⟨by omega,by omega,ej,KR⟩
 rintro vO cM br ⟨la,z2,z3,z4⟩;obtain⟨P,rfl⟩:=aoI (a:=vO) (by omega);have df:=cr z4;refine⟨fun cQ=>dh cQ/\PermIn dA dU o.toArray cQ.toArray,⟨fun _=>⟨fun _=>⟨fun _=> ?_,fun _=>⟨z3,z4⟩⟩,fun _=>⟨z3,z4⟩⟩,fun _=>⟨z3,z4⟩⟩, ?_⟩
 ·refine⟨by omega,⟨⟨z3,by omega,by omega,by omega,by omega⟩,by omega⟩, ?_⟩;rintro _ rfl cA rfl;obtain⟨aA,aG⟩:=partialInsertionSort_holds q9 br.toArray dA dU (by omega) (by simp;omega) (fx.perm fy z4);have bR:=permIn_trans _ _ _ _ _ z4 aA;have cY:=(ub z3 (by omega) aA).1;exact⟨fun h=>yi _ cY bR (aG h),fun _=>⟨cY,bR⟩⟩
 rintro cQ ⟨t1,t2⟩;have nm:=cr t2;have ox:=fx.perm fy t2;have vz:dA<=P:=by omega
 have vA:P<dU:=by omega
 have kk:∀bC:Rows,dh bC->PermIn dA dU cQ.toArray bC.toArray->SortedIn bk dA dU bC.toArray->K (.av 11 bC) (.tup []):=fun bC dG dD ei=>yi bC dG (permIn_trans _ _ _ _ _ t2 dD) ei
 simp only[aoD];refine⟨fun pe=> ?_,fun _=> ?pt⟩
 case pt=>exact Rh (l:=l) (A:=A) (B:=B) (o:=o) (fun _ _ _ _ _ _ h=>h) (fun _ _ _ _ _ _=>rfl) (by omega) (by omega) (by omega) aB (by omega) vz vA ⟨kz,lg⟩ t1 (by omega) ox kk w p v3 _ rfl
 have pe:=aoN pe;rw[bP (x:=(dA:Int)-1) (by omega),show(dA:Int)-1=((dA-1:Nat):Int) by omega];simp only[aoD];have cW:dA-1<cQ.length:=by omega
 have c9:P<cQ.length:=by omega
 refine⟨by omega,by omega,t1.len cW,by omega,by omega,t1.len c9,⟨t1.get cW,t1.get c9⟩, ?_⟩;rintro _ rfl;refine⟨fun rF=> ?_,fun _=> ?pt2⟩
 case pt2=>exact Rh (l:=l) (A:=A) (B:=B) (o:=o) (fun _ _ _ _ _ _ h=>h) (fun _ _ _ _ _ _=>rfl) (by omega) (by omega) (by omega) aB (by omega) vz vA ⟨kz,lg⟩ t1 (by omega) ox kk w p v3 _ rfl
 have jG:bk cQ.toArray[dA-1]! cQ.toArray[P]! =false:=by rw[jD];simpa using rF
 refine⟨by omega,⟨⟨t1,by omega,by omega,by omega,by omega⟩,by omega,by omega⟩, ?_⟩;rintro _ rfl _ rfl;obtain⟨fi,fb,k7,r4,r5⟩:= @round_eq Row _ bk q9 (partitionEqual_holds bk) cQ.toArray (partitionEqual bk cQ.toArray dA dU P).2 dA dU P (partitionEqual bk cQ.toArray dA dU P).1 (by omega) vz vA (by simp;omega) ox jG rfl;have x6:=permIn_all cQ.toArray cQ.toArray dA dU (fun _=>True) (by simp;omega) (permIn_refl _ _ _) (fun _ _ _=>trivial)
 have jc:∀i,dA<=i->i<dU->bk cQ.toArray[i]! cQ.toArray[P]! =false:=fun i hi eJ=>by
  rcases ox with bc|ox
  ·omega
  ·exact q9.ntrans _ _ _ (ox i hi eJ) jG
 have vZ:=(partitionEqual_holds bk q9 cQ.toArray dA dU P vz vA (by simp;omega) jc).2.2.1;have yh:=ub t1 (by omega) vZ;generalize (partitionEqual bk cQ.toArray dA dU P).2=d4 at*;generalize (partitionEqual bk cQ.toArray dA dU P).1=Bg at*;refine⟨⟨by omega,by omega,by omega,kz,lg,yh.1,yh.2.trans (by omega),r4,fun bC dG dD ei=> ?_⟩, ?_⟩
 ·obtain⟨qB,r3⟩:=r5 bC.toArray dD ei;exact kk bC dG qB r3
 ·show((dU:Int)-Bg).toNat<((dU:Int)-dA).toNat;omega
theorem Lb (l:Rows)(K:ag->R->Prop)(h:(dh l/\l.length<1000000000000000)/\∀i,lC l 0 l.length i->K (.av 11 i) (.tup [])):K6 l K:=by
 obtain⟨⟨az,aB⟩,ae⟩:=h;unfold K6 aW aP;rw[cS (x:=(l.length:Int)) (by omega)];refine⟨by omega, ?_⟩;rintro _ rfl;have:=wW (n:=(l.length:Int).toNat) (k:=64) (by omega);exact⟨⟨⟨az,by omega,by omega,by omega,aB⟩,by omega, .inl rfl⟩,ae⟩
end ab
end
section
open Go Go.aj
namespace ab
def ed.cap (q:ed):List R:=match q.desc with|true=>[.agg [.bt]]|false=>[.agg [.d (.int .i64 8)]]
theorem ed.mv {q:ed}{g:Nat}{c:List R}(h:q.is g c=true):g=q.g/\c=q.cap:=by
 unfold ed.is at h;unfold ed.cap;split at h
 ·rename_i aa ad;exact⟨aoE aa,by rw[ad]⟩
 ·rename_i aa ad;exact⟨aoE aa,by rw[ad]⟩
 ·cases h
theorem Ri (q:ed){a0:R}{b9:ag}{args:List R}{K:ag->R->Prop}(a8:EK.T q a0 b9 args K):∃l a b,a0= .vec 0/\b9= .av 11 l/\args=[.d (.int .i64 a), .d (.int .i64 b), .cls q.g q.cap]:=by unfold EK.T fq at a8;grind [Go.aj.cd,ed.mv]
theorem Qm (q:ed){a0:R}{b9:ag}{args:List R}{K:ag->R->Prop}(a8:D4.T q a0 b9 args K):∃l lo hi f,a0= .vec 0/\b9= .av 11 l/\args=[.d (.int .i64 lo), .d (.int .i64 hi), .d (.int .i64 f), .cls q.g q.cap]:=by unfold D4.T fq at a8;grind [Go.aj.cd,ed.mv]
theorem Qn (q:ed){a0:R}{b9:ag}{args:List R}{K:ag->R->Prop}(a8:D5.T q a0 b9 args K):∃l a b,a0= .vec 0/\b9= .av 11 l/\args=[.d (.int .i64 a), .d (.int .i64 b), .cls q.g q.cap]:=by unfold D5.T fq at a8;grind [Go.aj.cd,ed.mv]
theorem Qo (q:ed){a0:R}{b9:ag}{args:List R}{K:ag->R->Prop}(a8:D6.T q a0 b9 args K):∃l a b p,a0= .vec 0/\b9= .av 11 l/\args=[.d (.int .i64 a), .d (.int .i64 b), .d (.int .i64 p), .cls q.g q.cap]:=by unfold D6.T fq at a8;grind [Go.aj.cd,ed.mv]
theorem Oh (q:ed){a0:R}{b9:ag}{args:List R}{K:ag->R->Prop}(a8:CV.T q a0 b9 args K):∃l a b p,a0= .vec 0/\b9= .av 11 l/\args=[.d (.int .i64 a), .d (.int .i64 b), .d (.int .i64 p), .cls q.g q.cap]:=by unfold CV.T fq at a8;grind [Go.aj.cd,ed.mv]
theorem Nx (q:ed){a0:R}{b9:ag}{args:List R}{K:ag->R->Prop}(a8:Ci.T q a0 b9 args K):∃l a b,a0= .vec 0/\b9= .av 11 l/\args=[.d (.int .i64 a), .d (.int .i64 b), .cls q.g q.cap]:=by unfold Ci.T fq at a8;grind [Go.aj.cd,ed.mv]
theorem Rj (q:ed){a0:R}{b9:ag}{args:List R}{K:ag->R->Prop}(a8:EL.T q a0 b9 args K):∃l a b,a0= .vec 0/\b9= .av 11 l/\args=[.d (.int .i64 a), .d (.int .i64 b), .cls q.g q.cap]:=by unfold EL.T fq at a8;grind [Go.aj.cd,ed.mv]
theorem Qp (q:ed){a0:R}{b9:ag}{args:List R}{K:ag->R->Prop}(a8:D7.T q a0 b9 args K):∃l a b s,a0= .ptr 0 0/\b9= .cells [.d (.int .i64 s)]/\args=[.d (.av 11 l), .d (.int .i64 a), .d (.int .i64 b), .cls q.g q.cap]:=by unfold D7.T fq at a8;grind [Go.aj.cd,ed.mv]
theorem Rk (q:ed){a0:R}{b9:ag}{args:List R}{K:ag->R->Prop}(a8:EO.T q a0 b9 args K):∃l a b e s,a0= .ptr 0 0/\b9= .cells [.d (.int .i64 s)]/\args=[.d (.av 11 l), .d (.int .i64 a), .d (.int .i64 b), .d (.int .i64 e), .cls q.g q.cap]:=by unfold EO.T fq at a8;grind [Go.aj.cd,ed.mv]
theorem Oi (q:ed){a0:R}{b9:ag}{args:List R}{K:ag->R->Prop}(a8:CW.T q a0 b9 args K):∃l a s,a0= .ptr 0 0/\b9= .cells [.d (.int .i64 s)]/\args=[.d (.av 11 l), .d (.int .i64 a), .cls q.g q.cap]:=by unfold CW.T fq at a8;grind [Go.aj.cd,ed.mv]
theorem Pa (q:ed){args:List R}{K:R->Prop}(a8:Dz.T q args K):∃l a b,args=[.d (.av 11 l), .d (.int .i64 a), .d (.int .i64 b), .cls q.g q.cap]:=by unfold Dz.T bj at a8;grind [Go.aj.cd,ed.mv]
theorem Pb (q:ed){a0:R}{b9:ag}{args:List R}{K:ag->R->Prop}(a8:zj.T q a0 b9 args K):∃l a b,a0= .vec 0/\b9= .av 11 l/\args=[.d (.int .i64 a), .d (.int .i64 b), .cls q.g q.cap]:=by unfold zj.T lB at a8;grind [Go.aj.cd,ed.mv]
theorem Ib (q:ed)(n:Nat){a0:R}{b9:ag}{args:List R}{K:ag->R->Prop}(a8:kT.T q n a0 b9 args K):∃l a b m,a0= .vec 0/\b9= .av 11 l/\args=[.d (.int .i64 a), .d (.int .i64 b), .d (.int .i64 m), .cls q.g q.cap]:=by unfold kT.T lB at a8;grind [Go.aj.cd,ed.mv]
theorem acB (q:ed){a0:R}{b9:ag}{args:List R}{K:ag->R->Prop}(a8:s3.T q a0 b9 args K):∃l a b m,a0= .vec 0/\b9= .av 11 l/\args=[.d (.int .i64 a), .d (.int .i64 b), .d (.int .i64 m), .cls q.g q.cap]:=by unfold s3.T lB at a8;grind [Go.aj.cd,ed.mv]
theorem Qq (q:ed){a0:R}{b9:ag}{args:List R}{K:ag->R->Prop}(a8:zw.T q a0 b9 args K):∃l,a0= .vec 0/\b9= .av 11 l/\args=[.cls q.g q.cap]:=by unfold zw.T lB at a8;grind [Go.aj.cd,ed.mv]
theorem Pc {args:List R}{K:R->Prop}(a8:w6.T args K):∃x,args=[.d (.int .u64 x)]:=by unfold w6.T bj at a8;grind [Go.aj.cd]
theorem ad7 {args:List R}{K:R->Prop}(a8:EM.T args K):∃x,args=[.d (.int .i64 x)]:=by unfold EM.T bj at a8;grind [Go.aj.cd]
theorem ad8 {a0:R}{b9:ag}{args:List R}{K:ag->R->Prop}(a8:EN.T a0 b9 args K):∃x,a0= .ptr 0 0/\b9= .cells [.d (.int .u64 x)]/\args=[]:=by unfold EN.T lB at a8;grind [Go.aj.cd]
theorem acC {args:List R}{K:R->Prop}(a8:D_.T args K):∃a b,args=[.d (.int .i64 a), .d (.int .i64 b)]:=by unfold D_.T bj at a8;grind [Go.aj.cd]
theorem aa5 {args:List R}{K:R->Prop}(a8:DB.T args K):∃a,args=[.d (.int .i64 a)]:=by unfold DB.T bj at a8;grind [Go.aj.cd]
theorem Yf {args:List R}{K:R->Prop}(a8:Cj.T args K):∃a b,args=[.d (.af .i64 a), .d (.af .i64 b)]:=by unfold Cj.T bj at a8;grind [Go.aj.cd]
theorem ad9 {args:List R}{K:R->Prop}(a8:ER.T args K):∃a,args=[.d (.af .i64 a)]:=by unfold ER.T bj at a8;grind [Go.aj.cd]
theorem aa6 {args:List R}{K:R->Prop}(a8:DC.T args K):∃a b,args=[.rw 8 a, .rw 8 b]:=by unfold DC.T bj at a8;grind [Go.aj.cd]
theorem aa7 {args:List R}{K:R->Prop}(a8:DE.T args K):∃r,args=[.rw 11 r]:=by unfold DE.T bj at a8;grind [Go.aj.cd]
theorem Zr (g:Nat){args:List R}{K:R->Prop}(a8:y4.T g args K):∃l,args=[.d (.av 11 l), .fn g]:=by unfold y4.T bj at a8;grind [Go.aj.cd]
theorem acD (g:Nat){b9:ag}{args:List R}{K:ag->Prop}(a8:zx.T g b9 args K):∃l,b9= .av 11 l/\args=[.fn g]:=by unfold zx.T xe at a8;grind [Go.aj.cd]
theorem aa8 {args:List R}{K:ag->Prop}(a8:DD.T args K):∃l,args=[.d (.av 11 l)]:=by unfold DD.T mW at a8;grind [Go.aj.cd]
theorem Ny {args:List R}{K:R->Prop}(a8:sv.T args K):∃l,args=[.d (.av 11 l)]:=by unfold sv.T bj at a8;grind [Go.aj.cd]
theorem acE {args:List R}{K:R->Prop}(a8:Ec.T args K):∃p q,args=[.d (.av 11 p), .d (.av 11 q)]:=by unfold Ec.T bj at a8;grind [Go.aj.cd]
theorem Zs {args:List R}{K:R->Prop}(a8:CZ.T args K):∃p s a b,args=[.d (.av 11 p), .agg [.d (.bool s), .d (.af .u32 a), .d (.af .u32 b)]]:=by unfold CZ.T bj at a8;grind [Go.aj.cd]
theorem acF {args:List R}{K:R->Prop}(a8:Ed.T args K):∃p,args=[.d (.av 11 p)]:=by unfold Ed.T bj at a8;grind [Go.aj.cd]
theorem acG {args:List R}{K:R->Prop}(a8:Ee.T args K):∃p q,args=[.d (.av 11 p), .d (.av 11 q)]:=by unfold Ee.T bj at a8;grind [Go.aj.cd]
theorem acH {args:List R}{K:R->Prop}(a8:Ef.T args K):∃p q,args=[.d (.av 11 p), .d (.av 11 q)]:=by unfold Ef.T bj at a8;grind [Go.aj.cd]
theorem acI {args:List R}{K:R->Prop}(a8:Eg.T args K):∃p v,args=[.d (.av 11 p), .d (.int .i64 v)]:=by unfold Eg.T bj at a8;grind [Go.aj.cd]
theorem acJ {args:List R}{K:R->Prop}(a8:Eh.T args K):∃p,args=[.d (.av 11 p)]:=by unfold Eh.T bj at a8;grind [Go.aj.cd]
theorem aa9 {args:List R}{K:R->Prop}(a8:w7.T args K):∃p,args=[.d (.av 11 p)]:=by unfold w7.T bj at a8;grind [Go.aj.cd]
theorem Yg {args:List R}{K:R->Prop}(a8:Cr.T args K):∃p,args=[.d (.av 11 p)]:=by unfold Cr.T bj at a8;grind [Go.aj.cd]
theorem acK {args:List R}{K:R->Prop}(a8:Ei.T args K):∃v,args=[.d (.int .i64 v)]:=by unfold Ei.T bj at a8;grind [Go.aj.cd]
theorem acL (g:Nat){args:List R}{K:R->Prop}(a8:zz.T g args K):∃p q,args=[.d (.av 11 p), .d (.av 11 q), .fn g]:=by unfold zz.T bj at a8;grind [Go.aj.cd]
theorem acM (g:Nat){args:List R}{K:R->Prop}(a8:zA.T g args K):∃p q,args=[.d (.av 11 p), .d (.av 11 q), .fn g]:=by unfold zA.T bj at a8;grind [Go.aj.cd]
theorem acN {args:List R}{K:R->Prop}(a8:Ej.T args K):∃p q,args=[.d (.av 11 p), .d (.av 11 q)]:=by unfold Ej.T bj at a8;grind [Go.aj.cd]
theorem acO {args:List R}{K:R->Prop}(a8:Ek.T args K):∃p q,args=[.d (.av 11 p), .d (.av 11 q)]:=by unfold Ek.T bj at a8;grind [Go.aj.cd]
theorem acP {args:List R}{K:R->Prop}(a8:El.T args K):∃p n q,args=[.d (.av 11 p), .d (.int .i64 n), .d (.av 11 q)]:=by unfold El.T bj at a8;grind [Go.aj.cd]
theorem acQ {args:List R}{K:R->Prop}(a8:Em.T args K):∃p q,args=[.d (.av 11 p), .d (.av 11 q)]:=by unfold Em.T bj at a8;grind [Go.aj.cd]
theorem aa_ {args:List R}{K:R->Prop}(a8:DJ.T args K):∃p q,args=[.d (.av 11 p), .d (.av 11 q)]:=by unfold DJ.T bj at a8;grind [Go.aj.cd]
theorem Zt {args:List R}{K:R->Prop}(a8:y7.T args K):∃p,args=[.d (.av 11 p)]:=by unfold y7.T bj at a8;grind [Go.aj.cd]
theorem Yh {args:List R}{K:R->Prop}(a8:yU.T args K):∃p,args=[.d (.av 11 p)]:=by unfold yU.T bj at a8;grind [Go.aj.cd]
theorem aba {args:List R}{K:R->Prop}(a8:zn.T args K):∃s a b,args=[.agg [.d (.bool s), .d (.af .u32 a), .d (.af .u32 b)]]:=by unfold zn.T bj at a8;grind [Go.aj.cd]
theorem acR {args:List R}{K:R->Prop}(a8:zB.T args K):∃n,args=[.d (.int .i64 n)]:=by unfold zB.T bj at a8;grind [Go.aj.cd]
theorem Zu {args:List R}{K:R->Prop}(a8:y8.T args K):∃s a b t c d,args=[.agg [.d (.bool s), .d (.af .u32 a), .d (.af .u32 b)], .agg [.d (.bool t), .d (.af .u32 c), .d (.af .u32 d)]]:=by unfold y8.T bj at a8;grind [Go.aj.cd]
theorem Yi {args:List R}{K:R->Prop}(a8:Cx.T args K):args=[]:=by unfold Cx.T bj at a8;grind [Go.aj.cd]
theorem Zv {a0:R}{b9:ag}{args:List R}{K:ag->R->Prop}(a8:C0.T a0 b9 args K):∃l a s v n,a0= .ptr 0 0/\b9= .cells [.d (.af .i64 l), .d (.int .i64 a), .d (.int .i64 s)]/\args=[.d (.int .i64 v), .d (.int .i64 n)]:=by unfold C0.T fq at a8;grind [Go.aj.cd]
theorem WY {args:List R}{K:R->Prop}(a8:BO.T args K):∃l,args=[.d (.af .i64 l)]:=by unfold BO.T bj at a8;grind [Go.aj.cd]
theorem Yj {args:List R}{K:R->Prop}(a8:Cw.T args K):∃a b,args=[.rw 8 a, .rw 8 b]:=by unfold Cw.T bj at a8;grind [Go.aj.cd]
theorem Zw {args:List R}{K:R->Prop}(a8:C5.T args K):∃p q,args=[.d (.av 11 p), .d (.av 11 q)]:=by unfold C5.T bj at a8;grind [Go.aj.cd]
theorem acS {args:List R}{K:R->Prop}(a8:Ep.T args K):∃p q,args=[.d (.av 11 p), .d (.av 11 q)]:=by unfold Ep.T bj at a8;grind [Go.aj.cd]
theorem Yk {args:List R}{K:R->Prop}(a8:Cu.T args K):∃a b,args=[.rw 8 a, .rw 8 b]:=by unfold Cu.T bj at a8;grind [Go.aj.cd]
theorem Zx {args:List R}{K:R->Prop}(a8:C2.T args K):∃p t,args=[.d (.av 11 p), .rw 11 t]:=by unfold C2.T bj at a8;grind [Go.aj.cd]
theorem Yl {args:List R}{K:R->Prop}(a8:Cv.T args K):∃p,args=[.d (.av 11 p)]:=by unfold Cv.T bj at a8;grind [Go.aj.cd]
theorem acT {args:List R}{K:R->Prop}(a8:Eo.T args K):∃p q,args=[.d (.av 11 p), .d (.av 11 q)]:=by unfold Eo.T bj at a8;grind [Go.aj.cd]
theorem Zy {args:List R}{K:R->Prop}(a8:C4.T args K):∃p q,args=[.d (.av 11 p), .d (.av 11 q)]:=by unfold C4.T bj at a8;grind [Go.aj.cd]
theorem Zz {args:List R}{K:R->Prop}(a8:C3.T args K):∃p,args=[.d (.av 11 p)]:=by unfold C3.T bj at a8;grind [Go.aj.cd]
theorem CA {l:Rows}{a b:Int}(h:fW l a b):∃o,lC l a b o:=by
 obtain⟨aa,ad,ax,aV,bp⟩:=h;obtain⟨aA,aG⟩:=Go.Sort.insertionSort_holds q9 l.toArray a.toNat b.toNat (by omega) (by simp;omega);exact⟨(Go.Sort.insertionSort bk l.toArray a.toNat b.toNat).toList,⟨(ub aa (by omega) aA).1,by simpa using aA⟩,by simpa using aG⟩
theorem Qr (q:ed):kr (zj.T q):=yF _ fun a o args p bC f g h aD=>by
 split at h
 ·split at h
  ·simp only[aoY,ao5]at h;obtain⟨rfl,rfl,rfl,rfl⟩:=h;obtain⟨o,aa,ad⟩:=CA aD;exact⟨o,aa⟩
  ·cases h
 ·cases h
theorem DN (q:ed)(n:Nat):kr (kT.T q n):=yF _ fun a o args p bC f g h aD=>by
 split at h
 ·split at h
  ·simp only[aoY,ao5]at h;obtain⟨rfl,rfl,rfl,rfl⟩:=h;exact CA aD.1
  ·cases h
 ·cases h
theorem Rl (q:ed):kr (s3.T q):=yF _ fun a o args p bC f g h aD=>by
 split at h
 ·split at h
  ·simp only[aoY,ao5]at h;obtain⟨rfl,rfl,rfl,rfl⟩:=h;exact CA aD.1
  ·cases h
 ·cases h
theorem Rm (q:ed):kr (zw.T q):=yF _ fun a o args p bC f g h aD=>by
 split at h
 ·split at h
  ·simp only[aoY,ao5]at h;obtain⟨rfl,rfl,rfl,rfl⟩:=h;exact CA ⟨aD.1,Int.le_refl _,by omega,by omega,aD.2⟩
  ·cases h
 ·cases h
theorem aeE:kr EN.T:=yF _ fun a o args p bC f g h aD=>by
 split at h
 ·split at h
  ·simp only[aoY,ao5]at h;obtain⟨rfl,rfl,rfl,rfl⟩:=h;exact⟨0,by decide,by decide⟩
  ·cases h
 ·cases h
theorem acU (g:Nat){args:List R}{K:R->Prop}(a8:qc.T ⟨g,true⟩ args K):∃a b,args=[.agg [.d (.bool true)], .rw 11 a, .rw 11 b]:=by unfold qc.T bj at a8;grind [Go.aj.cd]
theorem acV (g:Nat){args:List R}{K:R->Prop}(a8:qc.T ⟨g,false⟩ args K):∃a b,args=[.agg [.d (.int .i64 8)], .rw 11 a, .rw 11 b]:=by unfold qc.T bj at a8;grind [Go.aj.cd]
theorem zp {P:Program}{f:FuncId}{ps:List bb}{T Bh:List R->(R->Prop)->Prop}(h:iC P f (iU ps T))(bs:∀args K,Bh args K->T args K):iC P f (iU ps Bh):=by
 refine⟨h.1,fun N ρ I w args cq K aC=>h.2 N ρ I w args cq K ?_⟩;unfold iU at aC⊢;split
 ·rename_i aa ad;rw[aa,ad]at aC;exact bs _ _ aC
 ·rename_i aB;split at aC
  ·rename_i aa ad;exact(aB aa ad).elim
  ·exact aC
theorem Qs {P:Program}{f:FuncId}{m:Nat}{ps:List bb}{T:Nat->R->ag->List R->(ag->R->Prop)->Prop}{Bh:R->ag->List R->(ag->R->Prop)->Prop}(h:∀n,iC P f (l9 m ps (T n)))
 (bs:∀a o args K,Bh a o args K->∃n,T n a o args K):iC P f (l9 m ps Bh):=by
 refine⟨(h 0).1,fun N ρ I w args cq K aC=> ?_⟩
 have aB:∃n,l9 m ps (T n) args I K:=by
  unfold l9 at aC;split at aC;rotate_left
  ·exact aC.elim
  rename_i ah;unfold oO at aC;split at aC
  ·exact aC.elim
  ·rename_i a0 bQ aS;split at aC
   ·exact aC.elim
   ·rename_i id dR;split at aC;rotate_left
    ·exact aC.elim
    rename_i aa ad ax aV;obtain⟨n,aB⟩:=bs _ _ _ _ aC;refine⟨n, ?_⟩;unfold l9;rw[ah];show oO ps (T n) (zh m args) I K;unfold oO;rw[aS];simp only[dR,aa,ad,ax,aV];exact aB
 obtain⟨n,aB⟩:=aB;exact(h n).2 N ρ I w args cq K aB
theorem Qt {P:Program}{f:FuncId}{m:Nat}{ps:List bb}(q:ed)(aT:∃fn,P.funcs[f]? =some fn/\fn.body.isNone=false/\(fn.name== "runtime.NumGoroutine")=false):iC P f (l9 m ps (kT.T q 0)):=by
 refine⟨aT,fun N ρ I w args cq K aC=> ?_⟩;exfalso;unfold l9 at aC;split at aC;rotate_left
 ·exact aC
 unfold oO at aC;split at aC
 ·exact aC
 split at aC
 ·exact aC
 split at aC;rotate_left
 ·exact aC
 refine nb (T:=kT.T q 0) (Ib q 0) (M:=fun _ _ _ _=>False) (fun l a b m K h=> ?_) _ _ _ _ aC
 have h:(fW l a b/\b-a<((0:Nat):Int)/\(0<=m/\m<=64)/\Go.Sort.Below bk a.toNat b.toNat l.toArray)/\True:=by
  unfold kT.T lB at h;simp only[apB]at h;split at h
  ·rename_i he;split at he
   ·simp only[aoY,ao5]at he;obtain⟨rfl,_⟩:=he;exact⟨h.1,True.intro⟩
   ·cases he
  ·exact h.elim
 have aa:=h.1.1.2.2.1;have ad:=h.1.2.1;omega
theorem Rn (q:ed)(a0:R)(b9:ag)(args:List R)(K:ag->R->Prop)(a8:s3.T q a0 b9 args K):∃n,kT.T q n a0 b9 args K:=by
 refine nb (T:=s3.T q) (acB q) (M:=fun a0 b9 args K=>∃n,kT.T q n a0 b9 args K) (fun l a b m K h=> ?_) a0 b9 args K a8;refine⟨(b-a).toNat+1, ?_⟩;unfold s3.T lB at h;unfold kT.T lB;simp only[apB]at h⊢;split at h
 ·rename_i he;split at he
  ·rename_i ax;simp only[aoY,ao5]at he;obtain⟨rfl,rfl,rfl,rfl⟩:=he;exact⟨⟨h.1.1,by omega,h.1.2⟩,h.2⟩
  ·cases he
 ·exact h.elim
def z6:List ba:=[(Gj 0 2,1),(Gj 1 2,-1)]
theorem Ro:bB z6=qf:=by
 show[c8 (Gj 0 2)++[.bool (cj 1), .af .u32 (cm 1), .af .u32 (cc 1)],c8 (Gj 1 2)++[.bool (cj (-1)), .af .u32 (cm (-1)), .af .u32 (cc (-1))]]=_;rw[Cz,DM,H_,Ia];rfl
theorem DO:da 1024 z6:=zD (by decide+kernel)
theorem R4:dz 1 z6:=za (by decide)
theorem aeF:bd false [1] [1]=1:=by
 have:=mc 1;rwa [Cz,DM]at this
theorem afe:bd true [1] [1]=-1:=by
 have:=mc (-1);rwa [H_,Ia]at this
theorem DP:bS 1000000 [1]:=⟨.mk (by decide) .nil,by decide⟩
theorem St:bw [1]:=⟨.mk (by decide) .nil,by decide⟩
theorem aeG (args:List R)(K:R->Prop)(a8:y7.T args K):w7.T args K:=by
 refine gC (T:=y7.T) Zt (M:=w7.T) (fun p K h=> ?_) args K a8;obtain⟨rfl,ae⟩:=h;rw[<-Ro];refine⟨y_ R4 DO (by decide), ?_⟩;rw[HL DO];exact ae
theorem ad_ (args:List R)(K:R->Prop)(a8:yU.T args K):sv.T args K:=by
 refine gC (T:=yU.T) Yh (M:=sv.T) (fun p K h=> ?_) args K a8;obtain⟨rfl,ae⟩:=h;rw[<-Ro]at ae⊢;refine⟨yH (c:=2) R4 (aoH _) (DO.nk (by decide)) (fun m=>H5 m _) (by decide) (by decide) (by decide), ?_⟩;rw[fp DO.len,show nrm z6=z6 by decide+kernel];exact ae
theorem aff (args:List R)(K:R->Prop)(a8:zn.T args K):w3.T args K:=by
 refine kZ (T:=zn.T) aba (M:=w3.T) (fun s a b K h=> ?_) args K a8;obtain⟨⟨rfl,rfl⟩,ae⟩:=h;refine⟨⟨St,St⟩, ?_⟩;cases s
 ·rw[aeF];exact ae
 ·rw[afe];exact ae
theorem agQ (args:List R)(K:R->Prop)(a8:zB.T args K):s0.T args K:=by
 refine gC (T:=zB.T) acR (M:=s0.T) (fun n K h=> ?_) args K a8;obtain⟨rfl,ae⟩:=h;refine⟨⟨by decide,by decide⟩, ?_⟩;show K (.agg [.d (.bool (cj 1)), .d (.af .u32 (cm 1)), .d (.af .u32 (cc 1))]);rw[Cz,DM];exact ae
theorem aeH (args:List R)(K:R->Prop)(a8:y8.T args K):wV.T args K:=by
 refine rT (T:=y8.T) Zu (M:=wV.T) (fun s a b t c d K h=> ?_) args K a8;obtain⟨⟨⟨rfl,rfl⟩,rfl,rfl,rfl,rfl⟩,ae⟩:=h;refine⟨⟨DP,DP,DP,DP⟩, ?_⟩;rw[aqi rfl];exact ae
theorem Ic (args:List R)(K:R->Prop)(a8:rj.T args K):args=[.d (.int .i64 2)]/\rj.T [.d (.int .i64 2)] K:=by
 have e:∃n,args=[.d (.int .i64 n)]:=by
  unfold rj.T bj at a8;split at a8
  ·rename_i he;simp only at he;split at he
   ·exact⟨_,rfl⟩
   ·cases he
  ·exact a8.elim
 obtain⟨n,rfl⟩:=e;obtain⟨rfl,ae⟩:=a8;exact⟨rfl,rfl,ae⟩
theorem abb (args:List R)(K:R->Prop)(a8:yV.T args K):args=[.d (.int .i64 2), .d (.int .i64 10)]/\yV.T [.d (.int .i64 2), .d (.int .i64 10)] K:=by
 have e:∃n b,args=[.d (.int .i64 n), .d (.int .i64 b)]:=by
  unfold yV.T bj at a8;split at a8
  ·rename_i he;simp only at he;split at he
   ·exact⟨_,_,rfl⟩
   ·cases he
  ·exact a8.elim
 obtain⟨n,b,rfl⟩:=e;obtain⟨⟨rfl,rfl⟩,ae⟩:=a8;exact⟨rfl,⟨rfl,rfl⟩,ae⟩
theorem aea (args:List R)(K:R->Prop)(a8:zo.T args K):∃x s,args=[.d (.av 1 [[.str x]]), .d (.str s)]/\zo.T [.d (.av 1 [[.str x]]), .d (.str s)] K:=by
 have e:∃x s,args=[.d (.av 1 [[.str x]]), .d (.str s)]:=by
  unfold zo.T bj at a8;split at a8
  ·rename_i he;simp only at he;split at he
   ·split at he
    ·rename_i bc;obtain rfl:=aoE bc;exact⟨_,_,rfl⟩
    ·cases he
   ·cases he
  ·exact a8.elim
 obtain⟨x,s,rfl⟩:=e;exact⟨x,s,rfl,a8⟩
theorem abc (args:List R)(K:R->Prop)(a8:yW.T args K):args=[.d (.av 11 qf), .d (.av 1 zX)]/\yW.T [.d (.av 11 qf), .d (.av 1 zX)] K:=by
 have e:∃p n,args=[.d (.av 11 p), .d (.av 1 n)]:=by
  unfold yW.T bj at a8;split at a8
  ·rename_i he;simp only at he;split at he
   ·split at he
    ·rename_i bc aa;obtain rfl:=aoE bc;obtain rfl:=aoE aa;exact⟨_,_,rfl⟩
    ·cases he
   ·cases he
  ·exact a8.elim
 obtain⟨p,n,rfl⟩:=e;obtain⟨⟨rfl,rfl⟩,ae⟩:=a8;exact⟨rfl,⟨rfl,rfl⟩,ae⟩
end ab
end
