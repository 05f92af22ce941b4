/- Helpers for the statements: facts about numbers, fractions and polynomials as lists, and the proofs of the conditions. Condition: none. -/
import Derived.Test.YtmeonjefiioegaaGreatDoorB0
section
namespace aa
open Go Go.ak Go.Sort
theorem Cx:∀x y:List Int,eM y x=-eM x y
 |[],[]=>rfl
 |[],_::_=>rfl
 |_::_,[]=>rfl
 |a::x,b::y=>by
  have bI:=Cx x y;unfold eM
  by_cases h:b<a
  ·rw[apz h,apy (show ¬a<b by omega),apz h]
  ·rw[apy h]
   by_cases ad:a<b
   ·rw[apz ad,apz ad];rfl
   ·rw[apy ad,apy ad,apy h];exact bI
theorem Iw:∀x y z:List Int,eM x y<=0->eM y z<=0->eM x z<=0
 |[],_,[]=>fun _ _=>Int.le_refl _
 |[],_,_::_=>fun _ _=>by simp[eM]
 |a::x,[],_=>fun h=>by simp[eM]at h
 |a::x,b::y,[]=>fun _ h=>by simp[eM]at h
 |a::x,b::y,c::z=>fun ab ad=>by
  have bI:=Iw x y z;unfold eM at ab ad⊢
  by_cases az:a<b
  ·by_cases aJ:b<c
   ·rw[apz (by omega)];decide
   ·rw[apy aJ]at ad
    by_cases bX:c<b
    ·rw[apz bX]at ad;cases ad
    ·rw[apz (by omega)];decide
  ·rw[apy az]at ab
   by_cases bX:b<a
   ·rw[apz bX]at ab;cases ab
   ·rw[apy bX]at ab;have:a=b:=by omega
    subst this
    by_cases cW:a<c
    ·rw[apz cW];decide
    ·rw[apy cW]at ad⊢
     by_cases gY:c<a
     ·rw[apz gY]at ad;cases ad
     ·rw[apy gY]at ad⊢;exact bI ab ad
theorem aen (a b:Row):bl a b=true↔0<eM (dI a) (dI b):=by
 unfold bl gS;rw[apE];omega
theorem Sx (a b:Row):bl a b=false↔eM (dI a) (dI b)<=0:=by
 unfold bl gS;rw[apD];omega
theorem rp:SWO bl where
 irrefl x:=by
  rw[Sx];have:=Cx (dI x) (dI x);omega
 trans x y z ab ad:=by
  rw[aen]at ab ad⊢;refine Int.not_le.1 fun h=> ?_;have aA:=Cx (dI y) (dI z);have:=Iw (dI x) (dI z) (dI y) h (by omega);omega
 ntrans x y z ab ad:=by
  rw[Sx]at ab ad⊢;exact Iw _ _ _ ab ad
theorem uo {l:Rows}{d:Array Row}{a b:Nat}(ax:c9 l)(ah:b<=l.length)(aE:PermIn a b l.toArray d):c9 d.toList/\d.toList.length=l.length:=by
 have ay:d.size=l.length:=by rw[aE.1];simp
 refine⟨fun r ao=> ?_,by simpa using ay⟩;obtain⟨i,hi,rfl⟩:=ar0 ao;have eY:i<d.size:=by simpa using hi
 have e:d.toList[i]=d[i]! :=by simp[eY]
 rw[e]
 by_cases h:a<=i/\i<b
 ·refine permIn_all l.toArray d a b eT (by simpa using ah) aE (fun j ab ad=> ?_) i h.1 h.2;rw[w5];exact ax.get (by omega)
 ·rw[aE.2.1 i (by omega),w5];exact ax.get (by omega)
theorem Yo (x:Int)(K:R->Prop)(h:xd.T [.d (.int .u64 x)] K):Nb x K:=by
 obtain⟨aj,ag⟩:=h
 obtain⟨n,rfl⟩:∃n:Nat,x=n:=⟨x.toNat,by omega⟩
 rw[apB]at ag;unfold Nb ai;refine⟨fun v s=>∃m k:Nat,v=m/\s=k/\m<4294967296/\k<=32/\da n=da m+k,⟨fun h=> ?_,fun h=> ?_⟩, ?_⟩
 ·simp only[apE]at h;have:=y5 (n:=n) (k:=32) (by omega);refine⟨n/4294967296,32, ?_,rfl,by omega,by omega,this⟩;rw[aqf _ (by omega)];omega
 ·simp only[apD]at h;exact⟨n,0,rfl,rfl,by omega,by omega,rfl⟩
 rintro v s ⟨m,k,rfl,rfl,hm,Fs,he⟩;refine⟨fun v s=>∃m k:Nat,v=m/\s=k/\m<65536/\k<=48/\da n=da m+k,⟨fun h=> ?_,fun h=> ?_⟩, ?_⟩
 ·simp only[apE]at h;have:=y5 (n:=m) (k:=16) (by omega);rw[bQ (x:=(k:Int)+16) (by omega)];refine⟨m/65536,k+16, ?_,by omega,by omega,by omega,by rw[he,this];show da (m/65536)+16+k=_;omega⟩;rw[aqf _ (by omega)];omega
 ·simp only[apD]at h;exact⟨m,k,rfl,rfl,by omega,by omega,he⟩
 clear hm Fs he;rintro v s ⟨m,k,rfl,rfl,hm,aoU,he⟩
 have fin:∀(q c:Nat),q<256->c<=56->da n=da q+c->K (.d (.int .i64 (IntKind.wrap .i64 ((c:Int)+IntKind.wrap .i64 (tab.getD q 0))))):=fun q c a6 aC e=>by
  have ah:=w4 (n:=q) (k:=8) (by omega);rw[Ry q a6,bQ (x:=(da q:Int)) (by omega),bQ (by omega)];rw[show(c:Int)+(da q:Int)=((da n:Nat):Int) by omega];exact ag
 refine⟨fun h=> ?_,fun h=> ?_⟩
 ·simp only[apE]at h
  have a_:IntKind.wrap .u8 (Int.fdiv (m:Int) 256)=((m/256:Nat):Int):=by
   rw[aqf _ (by omega),AT (by omega)];omega
  rw[a_,bQ (x:=(k:Int)+8) (by omega),apB];have:=y5 (n:=m) (k:=8) (by omega);exact⟨by omega,by omega,fin (m/256) (k+8) (by omega) (by omega) (by rw[he,this];show da (m/256)+8+k=_;omega)⟩
 ·simp only[apD]at h;rw[AT (x:=(m:Int)) (by omega),apB];exact⟨by omega,by omega,fin m k (by omega) (by omega) he⟩
theorem ZW (x:Int)(K:R->Prop)(h:xd.T [.d (.int .u64 x)] K):YT x K:=by
 obtain⟨aj,ag⟩:=h;refine⟨aj, ?_⟩;rintro _ rfl;exact ag
theorem aeo (n:Nat):n<2^da n:=by
 by_cases h:n=0
 ·subst h;exact aqu _
 ·exact(wA h).2.1
theorem ac5 {n:Nat}(h:0<n):2^da n<=2*n:=by
 obtain⟨ch,_,iD⟩:=wA (n:=n) (by omega)
 obtain⟨k,ag⟩:∃k,da n=k+1:=⟨da n-1,by omega⟩
 rw[ag]at ch⊢;rw[ap6];simp at ch;omega
theorem WC (x:Int)(K:R->Prop)(h:Fk.T [.d (.int .i64 x)] K):Mo x K:=by
 obtain⟨aj,ag⟩:=h;unfold Mo aX;rw[cT (x:=x) (by omega)];refine⟨by omega, ?_⟩;rintro _ rfl;refine⟨by omega, ?_⟩;have ab:=w4 (n:=x.toNat) (k:=62) (by omega);have ad:(2:Nat)^da x.toNat<=2^62:=aqg (by decide) ab;rw[show(2:Nat)^62=4611686018427387904 from rfl]at ad;rw[apB,arJ (by omega),Int.one_mul];have e:((2:Int)^da x.toNat)=((2^da x.toNat:Nat):Int):=by simp
 rw[e];generalize 2^da x.toNat=q at ad ag;rw[cT (by omega)];exact ag
end aa
end
section
namespace aa
open Go Go.ak
theorem Ix:∀x y:List Int,eM x y=0↔x=y
 |[],[]=>by simp[eM]
 |[],_::_=>by simp[eM]
 |_::_,[]=>by simp[eM]
 |a::x,b::y=>by
  have bI:=Ix x y;unfold eM
  by_cases h:a<b
  ·rw[apz h];exact⟨fun e=>by simp at e,fun e=>by injection e;omega⟩
  ·rw[apy h]
   by_cases ad:b<a
   ·rw[apz ad];exact⟨fun e=>by simp at e,fun e=>by injection e;omega⟩
   ·rw[apy ad,bI,show a=b by omega];simp
theorem Qu:∀x y:List Int,eM x y=-1\/eM x y=0\/eM x y=1
 |[],[]=> .inr (.inl rfl)
 |[],_::_=> .inl rfl
 |_::_,[]=> .inr (.inr rfl)
 |a::x,b::y=>by
  have bI:=Qu x y;unfold eM
  by_cases h:a<b
  ·rw[apz h];exact .inl rfl
  ·rw[apy h]
   by_cases ad:b<a
   ·rw[apz ad];exact .inr (.inr rfl)
   ·rw[apy ad];exact bI
theorem Hx:∀x y z:List Int,eM x y=1->eM y z=1->eM x z=1
 |[],[],_=>fun h=>by simp[eM]at h
 |[],_::_,_=>fun h=>by simp[eM]at h
 |_::_,_,[]=>fun _ _=>rfl
 |a::x,[],_::_=>fun _ h=>by simp[eM]at h
 |a::x,b::y,c::z=>fun ab ad=>by
  have bI:=Hx x y z;unfold eM at ab ad⊢
  by_cases az:a<b
  ·rw[apz az]at ab;simp at ab
  ·rw[apy az]at ab
   by_cases aJ:b<c
   ·rw[apz aJ]at ad;simp at ad
   ·rw[apy aJ]at ad;rw[apy (by omega)]
    by_cases bX:c<a
    ·rw[apz bX]
    ·rw[apy bX];rw[apy (by omega)]at ab ad;exact bI ab ad
abbrev nW (x y:List Int):Prop:=eM x y=1
theorem aby (x:List Int):¬nW x x:=fun h=>by
 have:=(Ix x x).2 rfl;unfold nW at h;omega
theorem Td {x y:List Int}(h:nW x y):x≠y:=fun e=>aby y (e▸h)
theorem H8 {x y:List Int}(h:x≠y):nW x y\/nW y x:=by
 have ab:=Qu x y;have ad:=Cx x y;have aA:eM x y≠0:=fun e=>h ((Ix x y).1 e);unfold nW;omega
def h5 (p:List bd):Prop:=p.Pairwise (fun t u=>nW t.1 u.1)/\∀t∈p,t.2≠0
theorem h5.tail {t:bd}{p:List bd}(h:h5 (t::p)):h5 p:=⟨(arx.1 h.1).2,fun u hu=>h.2 u (by simp[hu])⟩
theorem Iy {t u:bd}:∀{p:List bd},u∈ins t p->u.1=t.1\/∃v∈p,v.1=u.1
 |[],h=>by
  unfold ins at h;split at h
  ·simp at h
  ·simp at h;exact .inl (by rw[h])
 |x::p,h=>by
  unfold ins at h;split at h
  ·split at h
   ·exact .inr ⟨u,by simp[h],rfl⟩
   ·rcases ap9.1 h with rfl|h
    ·exact .inr ⟨x,by simp,rfl⟩
    ·exact .inr ⟨u,by simp[h],rfl⟩
  ·split at h
   ·split at h
    ·exact .inr ⟨u,h,rfl⟩
    ·rcases ap9.1 h with rfl|h
     ·exact .inl rfl
     ·exact .inr ⟨u,h,rfl⟩
   ·rcases ap9.1 h with rfl|h
    ·exact .inr ⟨u,by simp,rfl⟩
    ·rcases Iy h with h|⟨v,aO,e⟩
     ·exact .inl h
     ·exact .inr ⟨v,by simp[aO],e⟩
theorem RJ (t:bd):∀{p:List bd},h5 p->h5 (ins t p)
 |[],_=>by
  unfold ins;split
  ·exact⟨List.Pairwise.nil,fun u hu=>absurd hu aqS⟩
  ·rename_i h;exact⟨List.pairwise_singleton _ _,fun _ hu=>by rw[aqy.1 hu];exact h⟩
 |x::p,h=>by
  have bI:=RJ t h.tail;obtain⟨ab,ad⟩:=arx.1 h.1;unfold ins;split
  ·split
   ·exact h.tail
   ·rename_i e ne
    exact⟨arx.2 ⟨ab,ad⟩,fun u hu=>by
     rcases ap9.1 hu with rfl|hu
     ·exact ne
     ·exact h.2 u (by simp[hu])⟩
  ·rename_i ne;split
   ·rename_i g;split
    ·exact h
    ·rename_i ye;refine⟨arx.2 ⟨fun u hu=> ?_,h.1⟩,fun u hu=> ?_⟩
     ·rcases ap9.1 hu with rfl|hu
      ·exact g
      ·exact Hx _ _ _ g (ab u hu)
     ·rcases ap9.1 hu with rfl|hu
      ·exact ye
      ·exact h.2 u hu
   ·rename_i g;have vS:nW x.1 t.1:=(H8 ne).resolve_left g;refine⟨arx.2 ⟨fun u hu=> ?_,bI.1⟩,fun u hu=> ?_⟩
    ·rcases Iy hu with e|⟨v,aO,e⟩
     ·rw[e];exact vS
     ·rw[<-e];exact ab v aO
    ·rcases ap9.1 hu with rfl|hu
     ·exact h.2 _ (by simp)
     ·exact bI.2 u hu
theorem iL:∀p:List bd,h5 (nrm p)
 |[]=>⟨List.Pairwise.nil,fun u hu=>absurd hu aqS⟩
 |t::p=>RJ t (iL p)
def dx (f:List Int->Rat):List bd->Rat
 |[]=>0
 |t::p=>t.2*f t.1+dx f p
theorem CU (f:List Int->Rat):∀p q:List bd,dx f (p++q)=dx f p+dx f q
 |[],q=>by rw[List.nil_append,dx,ari]
 |t::p,q=>by rw[aqW,dx,dx,CU f p q,aqH]
theorem Qv (f:List Int->Rat)(t:bd):∀p:List bd,dx f (ins t p)=t.2*f t.1+dx f p
 |[]=>by
  unfold ins;split
  ·rename_i h;rw[h,Rat.zero_mul,ari]
  ·rfl
 |x::p=>by
  have bI:=Qv f t p;unfold ins;split
  ·rename_i e;split
   ·rename_i bc;rw[dx,e,<-aqH,<-Rat.add_mul,Rat.add_comm t.2,bc,Rat.zero_mul,ari]
   ·rw[dx,dx,e,Rat.add_mul,<-aqH,Rat.add_comm (x.2*f x.1)]
  ·split
   ·split
    ·rename_i bc;rw[bc,Rat.zero_mul,ari]
    ·rfl
   ·rw[dx,dx,bI,<-aqH,<-aqH,Rat.add_comm (x.2*f x.1)]
theorem y7 (f:List Int->Rat):∀p:List bd,dx f (nrm p)=dx f p
 |[]=>rfl
 |t::p=>by rw[nrm,Qv,y7 f p,dx]
def dl (m:List Int):List Int->Rat:=fun x=>if x=m then 1 else 0
theorem n4 (m:List Int):∀p:List bd,dA p m=dx (dl m) p
 |[]=>rfl
 |t::p=>by
  rw[dA,dx,n4 m p];unfold dl;split
  ·rw[ara]
  ·rw[ary]
theorem oZ (p:List bd)(m:List Int):dA (nrm p) m=dA p m:=by rw[n4,n4,y7]
theorem sF (p q:List bd)(m:List Int):dA (p++q) m=dA p m+dA q m:=by rw[n4,n4,n4,CU]
theorem Iz {x:List Int}:∀{p:List bd},(∀t∈p,nW x t.1)->dA p x=0
 |[],_=>rfl
 |t::p,h=>by
  rw[dA,apy fun e=>Td (h t (by simp)) e.symm,Iz fun u hu=>h u (by simp[hu]),ari]
theorem yV {t:bd}{p:List bd}(h:h5 (t::p)):dA (t::p) t.1=t.2:=by
 rw[dA,apz rfl,Iz (arx.1 h.1).1,arz]
theorem OM:∀{p q:List bd},h5 p->h5 q->(∀m,dA p m=dA q m)->p=q
 |[],[],_,_,_=>rfl
 |[],u::q,_,a6,h=>by
  have:=h u.1;rw[yV a6]at this;exact absurd this.symm (a6.2 u (by simp))
 |t::p,[],aE,_,h=>by
  have:=h t.1;rw[yV aE]at this;exact absurd this (aE.2 t (by simp))
 |t::p,u::q,aE,a6,h=>by
  have up:∀{t u:bd} {p q:List bd},h5 (t::p)->h5 (u::q)->(∀m,dA (t::p) m=dA (u::q) m)->¬nW t.1 u.1:=fun{t u p q} aE a6 h g=>by
   have ab:=h t.1
   rw[yV aE,Iz (fun v aO=>by
    rcases ap9.1 aO with rfl|aO
    ·exact g
    ·exact Hx _ _ _ g ((arx.1 a6.1).1 v aO))]at ab
   exact aE.2 t (by simp) ab
  have az:t.1=u.1:=Classical.byContradiction fun ne=>(H8 ne).elim (up aE a6 h) (up a6 aE fun m=>(h m).symm)
  have aJ:t.2=u.2:=by
   have:=h t.1;rw[yV aE]at this;rw[this,az,yV a6]
  have e:t=u:=Prod.ext az aJ;subst e
  have:p=q:=OM aE.tail a6.tail fun m=>by
   have:=h m;rw[dA,dA]at this;exact(Rat.add_left_cancel _ this)
  rw[this]
theorem Sy {p q:List bd}(a6:h5 q)(h:∀m,dA q m=dA p m):q=nrm p:=OM a6 (iL p) fun m=>by rw[h,oZ]
theorem wJ {p q:List bd}(h:∀m,dA p m=dA q m):nrm p=nrm q:=Sy (iL p) fun m=>by rw[oZ,h]
theorem ON {p q:List bd}(h:∀m,dA p m=dA q m)(f:List Int->Rat):dx f p=dx f q:=by
 rw[<-y7 f p,<-y7 f q,wJ h]
theorem CV (f:List Int->Rat)(c:Rat):∀p:List bd,dx (fun x=>c*f x) p=c*dx f p
 |[]=>by rw[dx,dx,ary]
 |t::p=>by rw[dx,dx,CV f c p,Rat.mul_add,<-arA,<-arA,Rat.mul_comm t.2 c]
theorem Qw (f g:List Int->Rat):∀p:List bd,dx (fun x=>f x+g x) p=dx f p+dx g p
 |[]=>by rw[dx,dx,dx,arz]
 |t::p=>by
  rw[dx,dx,dx,Qw f g p,Rat.mul_add,aqH,aqH,<-aqH (t.2*g t.1),Rat.add_comm (t.2*g t.1),aqH]
theorem Pz:∀p:List bd,dx (fun _=>0) p=0
 |[]=>rfl
 |t::p=>by rw[dx,Pz p,ary,arz]
theorem PA (g:List Int->List Int->Rat):∀p q:List bd,dx (fun a=>dx (fun b=>g a b) q) p=dx (fun b=>dx (fun a=>g a b) p) q
 |[],q=>by rw[dx];exact(Pz q).symm
 |t::p,q=>by
  rw[dx,PA g p q];have:(fun b=>dx (fun a=>g a b) (t::p))=fun b=>t.2*g t.1 b+dx (fun a=>g a b) p:=rfl;rw[this,Qw,CV]
def h3 (s:bd)(q:List bd):List bd:=q.map fun t=>(ga s.1 t.1,s.2*t.2)
def dJ:List bd->List bd->List bd
 |[],_=>[]
 |s::p,q=>h3 s q++dJ p q
theorem PB (f:List Int->Rat)(s:bd):∀q:List bd,dx f (h3 s q)=s.2*dx (fun b=>f (ga s.1 b)) q
 |[]=>by rw[dx,ary];rfl
 |t::q=>by
  have bI:=PB f s q;show s.2*t.2*f (ga s.1 t.1)+dx f (h3 s q)=_;rw[bI,dx,Rat.mul_add,arA]
theorem wK (f:List Int->Rat):∀p q:List bd,dx f (dJ p q)=dx (fun a=>dx (fun b=>f (ga a b)) q) p
 |[],q=>rfl
 |s::p,q=>by rw[dJ,CU,PB,wK f p q,dx]
theorem PC:∀a b:List Int,ga a b=ga b a
 |[],[]=>rfl
 |[],_::_=>rfl
 |_::_,[]=>rfl
 |a::x,b::y=>by rw[ga,ga,Int.add_comm,PC x y]
theorem abz (p q:List bd)(m:List Int):dA (dJ p q) m=dA (dJ q p) m:=by
 rw[n4,n4,wK,wK,PA]
 congr 1;funext b;congr 1;funext a;rw[PC]
theorem ZX {p GB q nQ:List bd}(ab:∀m,dA p m=dA GB m)(ad:∀m,dA q m=dA nQ m)(m:List Int):dA (dJ p q) m=dA (dJ GB nQ) m:=by
 rw[n4,n4,wK,wK,ON ab]
 congr 1;funext a;rw[ON ad]
def eS (c:Rat)(p:List bd):List bd:=p.map fun t=>(t.1,t.2*c)
theorem OO (f:List Int->Rat)(c:Rat):∀p:List bd,dx f (eS c p)=c*dx f p
 |[]=>by rw[dx,ary];rfl
 |t::p=>by
  show t.2*c*f t.1+dx f (eS c p)=_;rw[OO f c p,dx,Rat.mul_add,Rat.mul_comm t.2 c,arA]
theorem Ch (c:Rat)(p:List bd)(m:List Int):dA (eS c p) m=c*dA p m:=by rw[n4,n4,OO]
def iQ:List bd->bd->List bd
 |[],t=>[t]
 |u::p,t=>if u.1=t.1 then(u.1,u.2+t.2)::p else u::iQ p t
theorem HM {t:bd}:∀{p:List bd},(∀u∈p,u.1≠t.1)->iQ p t=p++[t]
 |[],_=>rfl
 |u::p,h=>by rw[iQ,apy (h u (by simp)),HM fun v aO=>h v (by simp[aO])];rfl
theorem RK {t:bd}:∀{p:List bd} {j:Nat} {u:bd},(p.map Prod.fst).Nodup->p[j]? =some u->u.1=t.1->iQ p t=p.set j (u.1,u.2+t.2)
 |[],j,u,_,h,_=>by simp at h
 |x::p,0,u,_,h,e=>by
  obtain rfl:x=u:=by simpa using h
  rw[iQ,apz e];rfl
 |x::p,j+1,u,a_,h,e=>by
  have h:p[j]? =some u:=by simpa using h
  simp only[ap2,arV]at a_;have aj:x.1≠t.1:=fun ex=>a_.1 (apQ.2 ⟨u,aq4 h,by rw[e,ex]⟩);rw[iQ,apy aj,RK a_.2 h e];rfl
theorem PD (t:bd)(m:List Int):∀p:List bd,dA (iQ p t) m=dA p m+(if t.1=m then t.2 else 0)
 |[]=>by rw[iQ,dA,dA,dA,arz,ari]
 |u::p=>by
  have bI:=PD t m p;rw[iQ];split
  ·rename_i e;rw[dA,dA];simp only;rw[e];split
   ·rw[aqH,Rat.add_comm t.2,<-aqH]
   ·rw[arz]
  ·rw[dA,dA,bI,aqH]
theorem Qx (t:bd):∀p:List bd,(iQ p t).map Prod.fst=p.map Prod.fst/\t.1∈p.map Prod.fst\/(iQ p t).map Prod.fst=p.map Prod.fst++[t.1]/\t.1∉p.map Prod.fst
 |[]=> .inr ⟨rfl,by simp⟩
 |u::p=>by
  rw[iQ];split
  ·rename_i e;exact .inl ⟨rfl,by simp[e]⟩
  ·rename_i ne;rcases Qx t p with⟨ab,ad⟩|⟨ab,ad⟩
   ·refine .inl ⟨by rw[ap2,ap2,ab], ?_⟩;rw[ap2];exact aqR _ ad
   ·refine .inr ⟨by rw[ap2,ap2,ab];rfl, ?_⟩;rw[ap2];intro hm;rcases ap9.1 hm with e|hm
    ·exact ne e.symm
    ·exact ad hm
theorem OP {t:bd}{p:List bd}(h:(p.map Prod.fst).Nodup):((iQ p t).map Prod.fst).Nodup:=by
 rcases Qx t p with⟨ab,_⟩|⟨ab,ad⟩
 ·rw[ab];exact h
 ·rw[ab,List.nodup_append]
  exact⟨h,by simp,fun a aR b ah=>by
   rw[aqy.1 ah]
   rintro rfl;exact ad aR⟩
theorem abA {p q:List bd}(h:p.Perm q)(m:List Int):dA p m=dA q m:=by
 induction h with
 |nil=>rfl
 |cons x _ bI=>rw[dA,dA,bI]
 |swap x y l=>rw[dA,dA,dA,dA,<-aqH,<-aqH,Rat.add_comm (if y.1=m then y.2 else 0)]
 |trans _ _ akD akE=>rw[akD,akE]
theorem Hh (m:List Int):∀p:List bd,dA (p.filter fun t=> !decide (t.2=0)) m=dA p m
 |[]=>rfl
 |t::p=>by
  rw[aqK];split
  ·rw[dA,dA,Hh m p]
  ·rename_i h;have bc:t.2=0:=by simpa using h
   rw[dA,Hh m p,bc];split<;>rw[ari]
theorem ZY {p acc q:List bd}(aC:∀m,dA acc m=dA p m)(a_:(acc.map Prod.fst).Nodup)(aE:q.Perm (acc.filter fun t=> !decide (t.2=0)))(ay:q.Pairwise fun t u=>¬nW u.1 t.1):q=nrm p:=by
 refine Sy ⟨?_,fun t aw=> ?_⟩ fun m=>by rw[abA aE,Hh,aC]
 ·have aB:(q.map Prod.fst).Nodup:=by
   rw[(aE.map Prod.fst).nodup_iff];exact a_.sublist ((List.filter_sublist).map _)
  have oE:q.Pairwise fun t u=>t.1≠u.1:=List.pairwise_map.1 aB;exact(ay.and oE).imp fun⟨ab,ad⟩=>(H8 ad).resolve_right ab
 ·have:=aE.mem_iff.1 aw;rw[aqE]at this;simpa using this.2
theorem OQ (m:List Int):∀(p acc:List bd),dA (p.foldl iQ acc) m=dA acc m+dA p m
 |[],acc=>by rw[List.foldl_nil,dA,arz]
 |t::p,acc=>by rw[List.foldl_cons,OQ m p,PD,dA,aqH]
end aa
end
section
open Go Go.ak
namespace aa
def NP:List Int->List Int->Int->(ae->R->Prop)->Prop:=
 fun u v j K=>0<=ai (j+↑v.length)/\ai (j+↑v.length)<↑u.length/\0<=ai (ai (j+↑v.length)-1)/\ai (ai (j+↑v.length)-1)<↑u.length/\0<=ai (↑v.length-1)/\ai (↑v.length-1)<↑v.length/\¬aX (v.getD (ai (↑v.length-1)).toNat 0)=0/\0<=ai (↑v.length-1)/\ai (↑v.length-1)<↑v.length/\¬aX (v.getD (ai (↑v.length-1)).toNat 0)=0/\∃(J:Int->Prop),(∃(aQ:Int->Int->Prop),∃(m:Int->Int->Nat),((false,ae.af .u32 u)=(false,ae.af .u32 u)/\aQ (aX ((cN BinOp.or .u64 (aX (aX (u.getD (ai (j+↑v.length)).toNat 0)*4294967296)) (aX (u.getD (ai (ai (j+↑v.length)-1)).toNat 0))).tdiv (aX (v.getD (ai (↑v.length-1)).toNat 0)))) ((cN BinOp.or .u64 (aX (aX (u.getD (ai (j+↑v.length)).toNat 0)*4294967296)) (aX (u.getD (ai (ai (j+↑v.length)-1)).toNat 0))).tmod (aX (v.getD (ai (↑v.length-1)).toNat 0))))/\∀(v9 v10:Int),aQ v9 v10->(decide (4294967296<=v9)=true->0<=ai (↑v.length-1)/\ai (↑v.length-1)<↑v.length/\(decide (4294967296<=aX (v10+aX (v.getD (ai (↑v.length-1)).toNat 0)))=true->(false,ae.af .u32 u)=(false,ae.af .u32 u)/\J (aX (v9-1)))/\(decide (4294967296<=aX (v10+aX (v.getD (ai (↑v.length-1)).toNat 0)))=false->(false,ae.af .u32 u)=(false,ae.af .u32 u)/\aQ (aX (v9-1)) (aX (v10+aX (v.getD (ai (↑v.length-1)).toNat 0)))/\m (aX (v9-1)) (aX (v10+aX (v.getD (ai (↑v.length-1)).toNat 0)))<m v9 v10))/\(decide (4294967296<=v9)=false->(decide (v10<4294967296)=true->0<=ai (↑v.length-2)/\ai (↑v.length-2)<↑v.length/\0<=ai (ai (j+↑v.length)-2)/\ai (ai (j+↑v.length)-2)<↑u.length/\(decide (cN BinOp.or .u64 (aX (v10*4294967296)) (aX (u.getD (ai (ai (j+↑v.length)-2)).toNat 0))<aX (v9*aX (v.getD (ai (↑v.length-2)).toNat 0)))=true->0<=ai (↑v.length-1)/\ai (↑v.length-1)<↑v.length/\(decide (4294967296<=aX (v10+aX (v.getD (ai (↑v.length-1)).toNat 0)))=true->(false,ae.af .u32 u)=(false,ae.af .u32 u)/\J (aX (v9-1)))/\(decide (4294967296<=aX (v10+aX (v.getD (ai (↑v.length-1)).toNat 0)))=false->(false,ae.af .u32 u)=(false,ae.af .u32 u)/\aQ (aX (v9-1)) (aX (v10+aX (v.getD (ai (↑v.length-1)).toNat 0)))/\m (aX (v9-1)) (aX (v10+aX (v.getD (ai (↑v.length-1)).toNat 0)))<m v9 v10))/\(decide (cN BinOp.or .u64 (aX (v10*4294967296)) (aX (u.getD (ai (ai (j+↑v.length)-2)).toNat 0))<aX (v9*aX (v.getD (ai (↑v.length-2)).toNat 0)))=false->(false,ae.af .u32 u)=(false,ae.af .u32 u)/\J v9))/\(decide (v10<4294967296)=false->(false,ae.af .u32 u)=(false,ae.af .u32 u)/\J v9)))/\∀(v9:Int),J v9->∃(aQ:Int->Int->Int->List Int->Prop),∃(m:Int->Int->Int->List Int->Nat),aQ 0 0 0 u/\∀(v11 v12 cc:Int) (au:List Int),aQ v11 v12 cc au->(decide (cc<=↑v.length)=true->∃(J:Int->Prop),((decide (cc<↑v.length)=true->0<=cc/\cc<↑v.length/\(false,ae.af .u32 au)=(false,ae.af .u32 au)/\J (aX (v12+aX (v9*aX (v.getD cc.toNat 0)))))/\(decide (cc<↑v.length)=false->(false,ae.af .u32 au)=(false,ae.af .u32 au)/\J v12))/\∀(dr:Int),J dr->0<=ai (j+cc)/\ai (j+cc)<↑au.length/\∃(J:Int->Int->Prop),((decide (aX (au.getD (ai (j+cc)).toNat 0)<aX (cN BinOp.and .u64 dr 4294967295+v11))=true->(false,ae.af .u32 au)=(false,ae.af .u32 au)/\J 1 (aX (aX (au.getD (ai (j+cc)).toNat 0)+4294967296)))/\(decide (aX (au.getD (ai (j+cc)).toNat 0)<aX (cN BinOp.and .u64 dr 4294967295+v11))=false->(false,ae.af .u32 au)=(false,ae.af .u32 au)/\J 0 (aX (au.getD (ai (j+cc)).toNat 0))))/\∀(jd nh:Int),J jd nh->0<=ai (j+cc)/\ai (j+cc)<↑au.length/\aQ jd (dr.fdiv 4294967296) (ai (cc+1)) (au.set (ai (j+cc)).toNat (bY (aX (nh-aX (cN BinOp.and .u64 dr 4294967295+v11)))))/\m jd (dr.fdiv 4294967296) (ai (cc+1)) (au.set (ai (j+cc)).toNat (bY (aX (nh-aX (cN BinOp.and .u64 dr 4294967295+v11)))))<m v11 v12 cc au)/\(decide (cc<=↑v.length)=false->(decide (v11=0)=true->K (ae.af .u32 au) (R.d (U.int .u32 (bY v9))))/\(decide (v11=0)=false->∃(aQ:Int->Int->List Int->Prop),∃(m:Int->Int->List Int->Nat),aQ 0 0 au/\∀(v12 fG:Int) (au:List Int),aQ v12 fG au->(decide (fG<=↑v.length)=true->0<=ai (j+fG)/\ai (j+fG)<↑au.length/\∃(J:Int->Prop),((decide (fG<↑v.length)=true->0<=fG/\fG<↑v.length/\(false,ae.af .u32 au)=(false,ae.af .u32 au)/\J (aX (aX (aX (au.getD (ai (j+fG)).toNat 0)+v12)+aX (v.getD fG.toNat 0))))/\(decide (fG<↑v.length)=false->(false,ae.af .u32 au)=(false,ae.af .u32 au)/\J (aX (aX (au.getD (ai (j+fG)).toNat 0)+v12))))/\∀(lV:Int),J lV->0<=ai (j+fG)/\ai (j+fG)<↑au.length/\aQ (lV.fdiv 4294967296) (ai (fG+1)) (au.set (ai (j+fG)).toNat (bY lV))/\m (lV.fdiv 4294967296) (ai (fG+1)) (au.set (ai (j+fG)).toNat (bY lV))<m v12 fG au)/\(decide (fG<=↑v.length)=false->K (ae.af .u32 au) (R.d (U.int .u32 (bY (aX (v9-1))))))))
end aa
end
section
open Go Go.ak
namespace aa
theorem ac6 {v2 gw w G V dD l D:Nat}(aA:v2+dD*(G*V)=gw+w)(ad:v2<w)(oA:gw=l+dD*D)(AU:G*V<=D+V):
 1<=G/\gw<dD*(G*V)/\dD*((G-1)*V)<=gw/\dD*(G*V)=dD*((G-1)*V)+dD*V/\(G-1)*V<=D:=by
 have ir:1<=G:=by
  rcases aq7 G with bc|bc
  ·rw[bc,aqI,ap0]at aA;omega
  ·exact bc
 have ba:G*V=(G-1)*V+V:=by rw[<-Nat.succ_mul];congr 1;omega
 have bJ:dD*(G*V)=dD*((G-1)*V)+dD*V:=by rw[ba,apN]
 have cu:(G-1)*V<=D:=by omega
 refine⟨ir,by omega, ?_,bJ,cu⟩;have:=apY dD cu;omega
theorem ac7 {v2 v3 gw w C G V dD:Nat}(aR:v3+w*C=v2+dD*V)(aA:v2+dD*(G*V)=gw+w)(bJ:dD*(G*V)=dD*((G-1)*V)+dD*V)(cu:dD*((G-1)*V)<=gw)(gO:gw<dD*(G*V))(aO:v3<w)(hw:dD*V<=w):
 v3+dD*((G-1)*V)=gw:=by
 rcases aq5 C 1 with h|h
 ·obtain rfl:C=0:=by omega
  rw[ap0]at aR;omega
 ·rcases aq5 C 2 with ad|ad
  ·obtain rfl:C=1:=by omega
   rw[ap8]at aR;omega
  ·have:=apY w ad;omega
theorem Sz {v:List Int}{i:Nat}(h:v.length<=i):lm v i=0:=by unfold lm;rw[y6 h];rfl
set_option maxHeartbeats 1000000 in
theorem YZ (u v:List Int)(j:Int)(K:ae->R->Prop)(h:Cw.T (.vec 0) (.af .u32 u) [.d (.af .u32 v), .d (.int .i64 j)] K):NP u v j K:=by
 obtain⟨⟨jz,qD,ow,xK,UP,pH,bL⟩,ag⟩:=h
 obtain⟨j,rfl⟩:∃i:Nat,j=i:=⟨j.toNat,by omega⟩
 simp only[apB]at UP bL ag;have Ah:=jz.2;have aho:=qD.2;have hu:=jz.1;have oB:=qD.1
 obtain⟨n,nP⟩:∃n,v.length=n:=⟨_,rfl⟩
 rw[nP]at ow UP pH aho;have tJ:val v<4294967296^n:=nP▸iM oB
 have fin:∀(c2:List Int) (Q:Nat),bN c2->c2.length=u.length->val c2+4294967296^j*(Q*val v)=val u->Q*val v<=eu u j->eu u j<(Q+1)*val v->Q<4294967296->K (.af .u32 c2) (.d (.int .u32 (IntKind.wrap .u32 (Q:Int)))):=fun c2 Q ab ad aA ba bJ cu=>by
  have a6:val u/4294967296^j/val v=Q:=by rw[IT hu];exact Nat.div_eq_of_lt_le ba bJ
  rw[a6]at ag;have jL:val u-4294967296^j*(Q*val v)=val c2:=by omega
  rw[jL,<-ad,It _ ab rfl]at ag;rw[ia (by omega)];exact ag
 unfold NP ai aX bY;rw[nP];have cW:IntKind.wrap .i64 ((n:Int)-1)=((n-1:Nat):Int):=by rw[bQ (by omega)];omega
 have gY:IntKind.wrap .i64 ((n:Int)-2)=((n-2:Nat):Int):=by rw[bQ (by omega)];omega
 have mI:IntKind.wrap .i64 ((j:Int)+(n:Int))=((j+n:Nat):Int):=by rw[bQ (by omega)];omega
 have l0:IntKind.wrap .i64 (((j+n:Nat):Int)-1)=((j+n-1:Nat):Int):=by rw[bQ (by omega)];omega
 have qS:IntKind.wrap .i64 (((j+n:Nat):Int)-2)=((j+n-2:Nat):Int):=by rw[bQ (by omega)];omega
 simp only[cW,gY,mI,l0,qS,apB];obtain⟨p,lv,l1,a_⟩:=Rz (j:=j) hu oB nP ow rfl pH bL;simp only[ix hu,ix oB,I4 (fT hu (j+n)) (fT hu (j+n-1))];have F7:IntKind.wrap .u64 ((lm v (n-1):Nat):Int)=((lm v (n-1):Nat):Int):=cT (by have:=a_.tv;omega);have F8:IntKind.wrap .u64 ((lm v (n-2):Nat):Int)=((lm v (n-2):Nat):Int):=cT (by have:=a_.ay;omega);simp only[F7,F8]
 obtain⟨F,AW⟩:∃F,lm u (j+n)*4294967296+lm u (j+n-1)=F:=⟨_,rfl⟩
 rw[AW]at a_;simp only[AW]
 obtain⟨D,AX⟩:∃D,eu u j=D:=⟨_,rfl⟩
 rw[AX]at a_ fin
 obtain⟨t,r9⟩:∃t,lm v (n-1)=t:=⟨_,rfl⟩
 obtain⟨s,qO⟩:∃s,lm v (n-2)=s:=⟨_,rfl⟩
 obtain⟨iZ,Ag⟩:∃s,lm u (j+n-2)=s:=⟨_,rfl⟩
 rw[r9,qO,Ag]at a_;simp only[r9,qO,Ag];obtain⟨hE,pJ,r7,qN,aw,tv,ay,vH,x1,ua⟩:=a_;have Lh:Int.tdiv (F:Int) (t:Int)=((F/t:Nat):Int):=by rw[ar4 (by omega),aru]
 have Li:Int.tmod (F:Int) (t:Int)=((F%t:Nat):Int):=by rw[arL (by omega),arM]
 simp only[Lh,Li];have aku:F<18446744073709551616:=by omega
 have KB:F/t<=F:=arZ _ _;have akv:F%t<t:=aqh _ aw
 have ub:∀si:Nat,si<=F->IntKind.wrap .u64 (si:Int)=(si:Int):=fun si h=>cT (by omega)
 simp only[ub _ KB];refine⟨by omega,by omega,by omega,by omega,by omega,by omega,by omega,by omega,by omega,by omega,fun g=>∃G:Nat,g=G/\G<4294967296/\D<(G+1)*val v/\G*val v<=D+val v, ?_, ?_⟩
 ·refine⟨fun g r=>∃G bC:Nat,g=G/\r=bC/\t*G+bC=F/\bC<4294967296/\D<(G+1)*val v,fun g r=>g.toNat,⟨by first|rfl|trivial,F/t,F%t,rfl,rfl,arc F t,by omega, ?_⟩, ?_⟩
  ·rw[pJ,hE];exact(Qp (lv:=lv) (s:=s) rfl rfl aw qN vH).1
  rintro g r ⟨G,bC,rfl,rfl,AY,eD,r8⟩
  have akw:G<=F:=by
   have:1*G<=t*G:=apP _ aw;omega
  have KC:IntKind.wrap .u64 ((bC:Int)+(t:Int))=((bC+t:Nat):Int):=by rw[cT (by omega)];omega
  simp only[KC];refine⟨fun ir=>⟨by omega,by omega, ?_⟩,fun ir=>⟨fun UQ=>⟨by omega,by omega,by omega,by omega, ?_⟩,fun UQ=> ?_⟩⟩
  ·simp only[apE]at ir;have j1:D<G*val v:=apW x1 (apP _ (by omega))
   have KD:1<=G:=by
    rcases aq7 G with bc|bc
    ·rw[bc,aqI]at j1;omega
    ·exact bc
   have pS:IntKind.wrap .u64 ((G:Int)-1)=((G-1:Nat):Int):=by rw[cT (by omega)];omega
   have pg:t*(G-1)+(bC+t)=F:=by
    have:t*G=t*(G-1)+t:=by rw[<-aq8];exact aqd (t*·) (show G=(G-1)+1 by omega)
    omega
   have ph:D<(G-1+1)*val v:=by rw[show G-1+1=G by omega];exact j1
   simp only[pS];refine⟨fun ao=>⟨by first|rfl|trivial,G-1,rfl, ?_,ph, ?_⟩,fun ao=>⟨by first|rfl|trivial,⟨G-1,bC+t,rfl,rfl,pg, ?_,ph⟩, ?_⟩⟩
   ·simp only[apE]at ao;refine aqY (a:=t) ?_;omega
   ·simp only[apE]at ao
    have lU:G-1<4294967296:=by
     refine aqY (a:=t) ?_;omega
    have j5:(G-1)*s<=(bC+t)*4294967296+iZ:=by
     have ab:(G-1)*s<=4294967296*4294967296:=aqP (by omega) (by omega);have ad:4294967296*4294967296<=(bC+t)*4294967296:=apP _ (by omega);omega
    rw[pJ,hE];exact wR pg aw r7 lU j5
   ·simp only[apD]at ao;omega
   ·show((G-1:Nat):Int).toNat<(G:Int).toNat;omega
  ·simp only[apD]at ir
   have Lj:IntKind.wrap .u64 ((G:Int)*(s:Int))=((G*s:Nat):Int):=by
    have:G*s<=4294967295*4294967295:=aqP (by omega) (by omega);rw[<-aqJ,cT ⟨aqw _,by omega⟩]
   have Lk:=IU (h:=bC) (l:=iZ) eD vH;simp only[Lj,Lk];refine⟨fun aC=>⟨by omega,by omega, ?_⟩,fun aC=>⟨by first|rfl|trivial,G,rfl,by omega,r8, ?_⟩⟩
   ·simp only[apE,aq9]at aC;have j1:D<G*val v:=by rw[pJ,hE];exact Qq AY qN aC
    have KD:1<=G:=by
     rcases aq7 G with bc|bc
     ·rw[bc,aqI]at j1;omega
     ·exact bc
    have pS:IntKind.wrap .u64 ((G:Int)-1)=((G-1:Nat):Int):=by rw[cT (by omega)];omega
    have pg:t*(G-1)+(bC+t)=F:=by
     have:t*G=t*(G-1)+t:=by rw[<-aq8];exact aqd (t*·) (show G=(G-1)+1 by omega)
     omega
    have ph:D<(G-1+1)*val v:=by rw[show G-1+1=G by omega];exact j1
    simp only[pS];refine⟨fun ao=>⟨by first|rfl|trivial,G-1,rfl, ?_,ph, ?_⟩,fun ao=>⟨by first|rfl|trivial,⟨G-1,bC+t,rfl,rfl,pg, ?_,ph⟩, ?_⟩⟩
    ·simp only[apE]at ao;refine aqY (a:=t) ?_;omega
    ·simp only[apE]at ao
     have lU:G-1<4294967296:=by
      refine aqY (a:=t) ?_;omega
     have j5:(G-1)*s<=(bC+t)*4294967296+iZ:=by
      have ab:(G-1)*s<=4294967296*4294967296:=aqP (by omega) (by omega);have ad:4294967296*4294967296<=(bC+t)*4294967296:=apP _ (by omega);omega
     rw[pJ,hE];exact wR pg aw r7 lU j5
    ·simp only[apD]at ao;omega
    ·show((G-1:Nat):Int).toNat<(G:Int).toNat;omega
   ·simp only[apD,aq9]at aC;rw[pJ,hE];exact wR AY aw r7 (by omega) (by omega)
  ·simp only[apD]at UQ;omega
 ·rintro g ⟨G,rfl,tK,r8,AU⟩
  obtain⟨l,oA,ax⟩:∃l,val u=l+4294967296^j*D/\l<4294967296^j:=⟨du u j,by rw[<-AX];exact ml u j,rH hu j⟩
  have akF:4294967296^j*val v<=4294967296^(j+(n+1)):=by
   rw[aqi];exact apY _ (apS (Nat.le_of_lt tJ) (aqg (by decide) (by omega)))
  have bm:∀p,j+n<p->u.getD p 0=0:=fun p aE=>by
   refine Rx hu (m:=j+n+1) ?_ p (by omega);rw[show j+n+1=j+1+n by omega,aqi];exact apW bL (apY _ (Nat.le_of_lt tJ))
  refine⟨fun Bu c i c2=>bN c2/\c2.length=u.length/\∃C B i0:Nat,Bu=B/\c=C/\i=i0/\i0<=n+1/\B<=1/\C<4294967296/\(n<i0->C=0)/\val c2+4294967296^j*(G*du v i0)=val u+4294967296^(j+i0)*(C+B)/\∀p,j+n<p->c2.getD p 0=0,
   fun _ _ i _=>n+1-i.toNat,⟨hu,rfl,0,0,0,rfl,rfl,rfl,by omega,by omega,by omega,fun _=>rfl,by rw[iK,ap0,ap0,ap0],bm⟩, ?_⟩
  rintro Bu c i c2 ⟨jz,vk,C,B,i,rfl,rfl,rfl,ff,eH,mK,akG,jL,db⟩;refine⟨fun h=> ?_,fun h=> ?_⟩
  ·simp only[apE]at h;have Ll:IntKind.wrap .i64 ((j:Int)+(i:Int))=((j+i:Nat):Int):=by rw[bQ (by omega)];omega
   have AZ:IntKind.wrap .i64 ((i:Int)+1)=((i+1:Nat):Int):=by rw[bQ (by omega)];omega
   simp only[Ll,AZ,apB,ix jz];have nM:=fT oB i;have EG:=fT jz (j+i);have x4:¬i<n->lm v i=0:=fun h=>Sz (by omega)
   obtain⟨d,ky⟩:∃d,lm v i=d:=⟨_,rfl⟩
   obtain⟨fm,mD⟩:∃d,lm c2 (j+i)=d:=⟨_,rfl⟩
   rw[ky]at nM x4;rw[mD]at EG;simp only[ky,mD];obtain⟨t1,lo,uc,st,np,Jx,F9,iU,t2,cS,Ab,tL,oC,t4⟩:=Pv (g:=G) (d:=d) (c:=C) (b:=B) (u:=fm) tK nM mK eH EG;have akz:=RE tK nM;have w1:IntKind.wrap .u64 (d:Int)=(d:Int):=cT (by omega);have dd:IntKind.wrap .u64 ((G:Int)*(d:Int))=((G*d:Nat):Int):=by rw[<-aqJ,cT ⟨aqw _,by omega⟩]
   have bY:IntKind.wrap .u64 ((C:Int)+((G*d:Nat):Int))=((C+G*d:Nat):Int):=by rw[<-arR,cT ⟨aqw _,by omega⟩]
   simp only[w1,dd,bY];refine⟨fun x=>x=((C+G*d:Nat):Int),⟨fun ab=> ?_,fun ab=> ?_⟩, ?_⟩
   ·simp only[apE]at ab;exact⟨by omega,ab,by first|rfl|trivial,rfl⟩
   ·simp only[apD]at ab;refine⟨by first|rfl|trivial, ?_⟩;rw[x4 (by omega),ap0,apV]
   rintro x rfl;have kc:=Sw t1;rw[Jx]at kc
   have yn:((C+G*d:Nat):Int).fdiv 4294967296=(uc:Int):=by
    have e:∀q:Nat,(q:Int).fdiv 4294967296=((q/4294967296:Nat):Int):=fun q=>by rw[aqf _ (by omega)];omega
    rw[e,F9]
   have ai:IntKind.wrap .u64 ((lo:Int)+(B:Int))=((lo+B:Nat):Int):=by rw[cT (by omega)];omega
   have aX:IntKind.wrap .u64 (fm:Int)=(fm:Int):=cT (by omega);have Lo:IntKind.wrap .u64 ((fm:Int)+4294967296)=((fm+4294967296:Nat):Int):=by rw[cT (by omega)];omega
   simp only[kc,yn,ai,aX,Lo];refine⟨by omega,by omega,fun b x=>b=(np:Int)/\IntKind.wrap .u32 (IntKind.wrap .u64 (x-((lo+B:Nat):Int)))=(st:Int),⟨fun ad=>⟨by first|rfl|trivial, ?_, ?_⟩,fun ad=>⟨by first|rfl|trivial, ?_, ?_⟩⟩, ?_⟩
   ·simp only[apE,aq9]at ad;rw[apz (by omega)]at tL;exact tL
   ·simp only[apE,aq9]at ad;rw[cT (by omega),kg];omega
   ·simp only[apD,aq9]at ad;rw[apy (by omega)]at tL;exact tL
   ·simp only[apD,aq9]at ad;rw[cT (by omega),kg];omega
   rintro b x ⟨rfl,aj⟩;simp only[aj];have kv:=l9 c2 (j+i) (st:Int) (by omega);rw[show(c2.getD (j+i) 0).toNat=fm from mD,apB]at kv;have nJ:du v (i+1)=du v i+4294967296^i*d:=by rw[gA,show(v.getD i 0).toNat=d from ky]
   have km:=RA kv jL t4;refine⟨by omega,by omega,⟨jz.set _ ⟨by omega,by omega⟩,by rw[apL];exact vk,uc,np,i+1,rfl,rfl,rfl,by omega,oC,t2,fun hi=> ?_, ?_,fun p aE=> ?_⟩,by show n+1-((i+1:Nat):Int).toNat<n+1-(i:Int).toNat;omega⟩
   ·rw[x4 (by omega),ap0,apV]at F9;omega
   ·have pE:4294967296^j*(G*du v (i+1))=4294967296^j*(G*du v i)+4294967296^(j+i)*(G*d):=by
     rw[nJ,apN,apN,aqi,aqC G,aqb]
    have vJ:4294967296^(j+(i+1))*(uc+np)=4294967296^(j+i)*(4294967296*(uc+np)):=by
     rw[<-aqs,ap6,aqb]
    rw[pE,vJ];exact km
   ·rw[eR,apy (by omega)];exact db p aE
  ·simp only[apD]at h;obtain rfl:i=n+1:=by omega
   have A4:=akG (by omega);subst A4;rw[hI v (by omega),ap3]at jL;have mB:val c2<4294967296^(j+(n+1)):=D_ jz fun p aE=>db p (by omega);refine⟨fun ah=> ?_,fun ah=> ?_⟩
   ·simp only[apE]at ah;obtain rfl:B=0:=by omega
    rw[ap0,apV]at jL;refine fin c2 G jz vk jL ?_ r8 tK;refine Nat.le_of_lt_succ (aqY (a:=4294967296^j) ?_);rw[aq8];omega
   ·simp only[apD]at ah;obtain rfl:B=1:=by omega
    rw[ap8]at jL;obtain⟨g1,g7,g6,g5,g4⟩:=ac6 jL mB oA AU;have pS:IntKind.wrap .u64 ((G:Int)-1)=((G-1:Nat):Int):=by rw[cT (by omega)];omega
    simp only[pS]
    refine⟨fun c i3 en=>bN en/\en.length=u.length/\∃hF i0:Nat,c=hF/\i3=i0/\i0<=n+1/\hF<=1/\val en+4294967296^(j+i0)*hF=val c2+4294967296^j*du v i0/\∀p,j+n<p->en.getD p 0=0,fun _ i3 _=>n+1-i3.toNat,
     ⟨jz,vk,0,0,rfl,rfl,by omega,by omega,by rw[iK,ap0,ap0],db⟩, ?_⟩
    rintro c i3 en ⟨ni,Ai,hF,i3,rfl,rfl,akA,UI,u7,A1⟩;refine⟨fun aA=> ?_,fun aA=> ?_⟩
    ·simp only[apE]at aA;have tW:IntKind.wrap .i64 ((j:Int)+(i3:Int))=((j+i3:Nat):Int):=by rw[bQ (by omega)];omega
     have KG:IntKind.wrap .i64 ((i3:Int)+1)=((i3+1:Nat):Int):=by rw[bQ (by omega)];omega
     simp only[tW,KG,apB,ix ni];have nM:=fT oB i3;have EG:=fT ni (j+i3);have x4:¬i3<n->lm v i3=0:=fun h=>Sz (by omega)
     obtain⟨d,ky⟩:∃d,lm v i3=d:=⟨_,rfl⟩
     obtain⟨fm,mD⟩:∃d,lm en (j+i3)=d:=⟨_,rfl⟩
     rw[ky]at nM x4;rw[mD]at EG;simp only[ky,mD];have er:IntKind.wrap .u64 (IntKind.wrap .u64 (fm:Int)+(hF:Int))=((fm+hF:Nat):Int):=by rw[cT (x:=(fm:Int)) (by omega),cT (by omega)];omega
     have w1:IntKind.wrap .u64 (((fm+hF:Nat):Int)+IntKind.wrap .u64 (d:Int))=((fm+hF+d:Nat):Int):=by rw[cT (x:=(d:Int)) (by omega),cT (by omega)];omega
     simp only[er,w1];refine⟨by omega,by omega,fun x=>x=((fm+hF+d:Nat):Int),⟨fun ab=> ?_,fun ab=> ?_⟩, ?_⟩
     ·simp only[apE]at ab;exact⟨by omega,ab,by first|rfl|trivial,rfl⟩
     ·simp only[apD]at ab;refine⟨by first|rfl|trivial, ?_⟩;rw[x4 (by omega),apV]
     rintro x rfl
     obtain⟨S,hC⟩:∃S,fm+hF+d=S:=⟨_,rfl⟩
     simp only[hC];have dd:IntKind.wrap .u32 (S:Int)=((S%4294967296:Nat):Int):=by rw[kg];omega
     have bY:Int.fdiv (S:Int) 4294967296=((S/4294967296:Nat):Int):=by rw[aqf _ (by omega)];omega
     simp only[dd,bY];have Aj:=l9 en (j+i3) ((S%4294967296:Nat):Int) (by omega);rw[show(en.getD (j+i3) 0).toNat=fm from mD,apB]at Aj;have nJ:du v (i3+1)=du v i3+4294967296^i3*d:=by rw[gA,show(v.getD i3 0).toNat=d from ky]
     have km:=RB (T:=S/4294967296) (d:=d) Aj u7 (by omega);refine⟨by omega,by omega,⟨ni.set _ ⟨by omega,by omega⟩,by rw[apL];exact Ai,S/4294967296,i3+1,rfl,rfl,by omega,by omega, ?_,fun p aE=> ?_⟩,by show n+1-((i3+1:Nat):Int).toNat<n+1-(i3:Int).toNat;omega⟩
     ·have pE:4294967296^j*du v (i3+1)=4294967296^j*du v i3+4294967296^(j+i3)*d:=by
       rw[nJ,apN,aqi,aqb]
      have vJ:4294967296^(j+(i3+1))*(S/4294967296)=4294967296^(j+i3)*(4294967296*(S/4294967296)):=by
       rw[<-aqs,ap6,aqb]
      rw[pE,vJ];exact km
     ·rw[eR,apy (by omega)];exact A1 p aE
    ·simp only[apD]at aA;obtain rfl:i3=n+1:=by omega
     rw[hI v (by omega)]at u7;have Kb:val en<4294967296^(j+(n+1)):=D_ ni fun p aE=>A1 p (by omega);have z7:=ac7 u7 jL g5 g6 g7 Kb akF;refine fin en (G-1) ni Ai z7 g4 ?_ (by omega);rw[show G-1+1=G by omega];refine aqY (a:=4294967296^j) ?_;omega
end aa
end
section
open Go Go.ak
namespace aa
def MV:List Int->List Int->(R->Prop)->Prop:=
 fun a b K=>bF a/\∀x,x=aP (val a)->bF b/\∀a7,a7=aP (val b)->(decide (↑a7.length=(0:Int))=true->K (R.tup [R.d (U.af .u32 []),R.d (U.af .u32 []),R.d (U.int .i64 (3:Int))]))/\(decide (↑a7.length=(0:Int))=false->(bF x/\bF a7)/\∀aW,aW=cmp (val x) (val a7)->(decide (aW<(0:Int))=true->K (R.tup [R.d (U.af .u32 []),R.d (U.af .u32 x),R.d (U.int .i64 (0:Int))]))/\(decide (aW<(0:Int))=false->(decide (↑a7.length=(1:Int))=true->(0:Int)<=(0:Int)/\(0:Int)<↑a7.length/\(bF x/\L (a7.getD (0:Nat) (0:Int))/\(0:Int)<a7.getD (0:Nat) (0:Int))/\∀bn,bn=aP (val x/(a7.getD (0:Nat) (0:Int)).toNat)->∀b9,b9=↑(val x%(a7.getD (0:Nat) (0:Int)).toNat)->bF [b9]/\∀x,x=aP (val [b9])->K (R.tup [R.d (U.af .u32 bn),R.d (U.af .u32 x),R.d (U.int .i64 (0:Int))]))/\(decide (↑a7.length=(1:Int))=false->∃(aQ:Int->Prop),∃(m:Int->Nat),((true,ae.af .u32 x)=(true,ae.af .u32 x)/\(true,ae.af .u32 a7)=(true,ae.af .u32 a7)/\aQ (0:Int))/\∀(v9:Int),aQ v9->(0:Int)<=ai (↑a7.length-(1:Int))/\ai (↑a7.length-(1:Int))<↑a7.length/\(0:Int)<=aX v9/\(decide (bY (a7.getD (ai (↑a7.length-(1:Int))).toNat (0:Int)*(2:Int)^min (aX v9).toNat (32:Nat))<(2147483648:Int))=true->(true,ae.af .u32 x)=(true,ae.af .u32 x)/\(true,ae.af .u32 a7)=(true,ae.af .u32 a7)/\aQ (ai (v9+(1:Int)))/\m (ai (v9+(1:Int)))<m v9)/\(decide (bY (a7.getD (ai (↑a7.length-(1:Int))).toNat (0:Int)*(2:Int)^min (aX v9).toNat (32:Nat))<(2147483648:Int))=false->(bF x/\(0:Int)<=v9/\v9<(32:Int))/\∀bn,bn=kk (val x*(2:Nat)^v9.toNat) (x.length+(1:Nat))->(bF a7/\(0:Int)<=v9/\v9<(32:Int))/\∀b9,b9=kk (val a7*(2:Nat)^v9.toNat) (a7.length+(1:Nat))->bF b9/\∀cU,cU=aP (val b9)->(0:Int)<=ai (ai (↑x.length-↑a7.length)+(1:Int))/\ai (ai (↑x.length-↑a7.length)+(1:Int))<=ai (ai (↑x.length-↑a7.length)+(1:Int))/\ai (ai (↑x.length-↑a7.length)+(1:Int))*(4:Int)<=(281474976710656:Int)/\∃(aQ:List Int->Int->List Int->List Int->Prop),∃(m:List Int->Int->List Int->List Int->Nat),((true,ae.af .u32 x)=(true,ae.af .u32 x)/\(true,ae.af .u32 a7)=(true,ae.af .u32 a7)/\(true,ae.af .u32 b9)=(true,ae.af .u32 b9)/\(true,ae.af .u32 cU)=(true,ae.af .u32 cU)/\aQ cU (ai (↑(List.replicate (ai (ai (↑x.length-↑a7.length)+(1:Int))).toNat (0:Int)).length-(1:Int))) bn (List.replicate (ai (ai (↑x.length-↑a7.length)+(1:Int))).toNat (0:Int)))/\∀(v11:List Int) (cc:Int) (bx im:List Int),aQ v11 cc bx im->(decide ((0:Int)<=cc)=true->(0:Nat)<bx.length/\(bF bx/\bF v11/\(2:Nat)<=v11.length/\(0:Int)<=cc/\cc.toNat+v11.length<bx.length/\(2147483648:Nat)*(4294967296:Nat)^(v11.length-(1:Nat))<=val v11/\val bx<(4294967296:Nat)^(cc.toNat+(1:Nat))*val v11)/\(0:Int)<=cc/\cc<↑im.length/\(true,ae.af .u32 x)=(true,ae.af .u32 x)/\(true,ae.af .u32 a7)=(true,ae.af .u32 a7)/\(true,ae.af .u32 b9)=(true,ae.af .u32 b9)/\(true,ae.af .u32 cU)=(true,ae.af .u32 cU)/\aQ v11 (ai (cc-(1:Int))) (kk (val bx-(4294967296:Nat)^cc.toNat*(val bx/(4294967296:Nat)^cc.toNat/val v11*val v11)) bx.length) (im.set cc.toNat ↑(val bx/(4294967296:Nat)^cc.toNat/val v11))/\m v11 (ai (cc-(1:Int))) (kk (val bx-(4294967296:Nat)^cc.toNat*(val bx/(4294967296:Nat)^cc.toNat/val v11*val v11)) bx.length) (im.set cc.toNat ↑(val bx/(4294967296:Nat)^cc.toNat/val v11))<m v11 cc bx im)/\(decide ((0:Int)<=cc)=false->bF im/\∀x,x=aP (val im)->(bF bx/\(0:Int)<=v9/\v9<(32:Int))/\∀cB,cB=aP (val bx/(2:Nat)^v9.toNat)->K (R.tup [R.d (U.af .u32 x),R.d (U.af .u32 cB),R.d (U.int .i64 (0:Int))]))))))
def N8:List Int->List Int->(R->Prop)->Prop:=
 fun a b K=>bF a/\∀x,x=aP (val a)->bF b/\∀a7,a7=aP (val b)->∃(aQ:List Int->List Int->Prop),∃(m:List Int->List Int->Nat),((true,ae.af .u32 x)=(true,ae.af .u32 x)/\(true,ae.af .u32 a7)=(true,ae.af .u32 a7)/\aQ x a7)/\∀(v0 v1:List Int),aQ v0 v1->(decide ((0:Int)<↑v1.length)=true->(bN v0/\v0.length<=(90000000:Nat)/\bN v1/\v1.length<=(90000000:Nat))/\∀aW,(aW=if val v1=(0:Nat)then[]else aP (val v0/val v1))->∀bn,(bn=if val v1=(0:Nat)then[]else aP (val v0%val v1))->∀b9,(b9=if val v1=(0:Nat)then(3:Int)else(0:Int))->(true,ae.af .u32 x)=(true,ae.af .u32 x)/\(true,ae.af .u32 a7)=(true,ae.af .u32 a7)/\aQ v1 bn/\m v1 bn<m v0 v1)/\(decide ((0:Int)<↑v1.length)=false->K (R.d (U.af .u32 v0)))
end aa
end
section
open Go Go.ak
namespace aa
theorem ac8 {gw l dD D V Q:Nat}(oA:gw=dD*D+l)(ax:l<dD)(jB:D/V=Q)(hE:0<V):dD*(Q*V)<=gw/\gw-dD*(Q*V)<dD*V:=by
 have ab:=arc D V;rw[jB]at ab;have ad:=aqh D hE;have aA:dD*D=dD*(Q*V)+dD*(D%V):=by rw[<-apN,aqa Q V,ab]
 have ba:=apY dD (show D%V+1<=V from ad);rw[apN,ap8]at ba;omega
set_option maxHeartbeats 1000000 in
theorem XH (a b:List Int)(K:R->Prop)(h:Cf.T [.d (.af .u32 a), .d (.af .u32 b)] K):MV a b K:=by
 obtain⟨⟨aR,gM,ah,k_⟩,ag⟩:=h;have x5:bF a:=⟨aR,by omega⟩;have x6:bF b:=⟨ah,by omega⟩;have UR:=jG x5;have US:=jG x6;unfold MV ai aX bY;refine⟨x5, ?_⟩;rintro x aj;refine⟨x6, ?_⟩;rintro y bo;have gd:bF x:=aj▸⟨gz _,by omega⟩;have yp:bF y:=bo▸⟨gz _,by omega⟩;have KL:val x=val a:=by rw[aj,eh]
 have KM:val y=val b:=by rw[bo,eh]
 have xO:x.length<=90000000:=by rw[aj];omega
 have AI:y.length<=90000000:=by rw[bo];omega
 have akH:Norm y:=bo▸Hw _;have nL:aP (val x)=x:=by rw[KL,aj]
 rw[<-KL,<-KM]at ag;clear aj UR US x5 x6 aR ah gM k_
 have UT:y.length=0↔val y=0:=⟨fun h=>by rw[aqm.1 h];rfl,fun h=>by
  have e:y=[]:=by rw[bo,<-KM,h,kH]
  rw[e];rfl⟩
 clear bo KL KM a b;refine⟨fun h=> ?_,fun h=>⟨⟨gd,yp⟩, ?_⟩⟩
 ·simp only[apE]at h;have bc:val y=0:=UT.1 (by omega);simp only[bc,ap1]at ag;exact ag
 rintro c rfl;simp only[apD]at h;have bc:val y≠0:=fun e=>h (by rw[UT.2 e];rfl);simp only[apy bc]at ag;refine⟨fun ab=> ?_,fun ab=>⟨fun ad=> ?_,fun ad=> ?_⟩⟩
 ·simp only[apE]at ab
  have bL:val x<val y:=by
   unfold cmp at ab;split at ab
   ·assumption
   ·split at ab<;>omega
  rw[ard bL,aqt bL,kH,nL]at ag;exact ag
 ·simp only[apE]at ad
  have eH:(y.getD 0 0).toNat=val y:=by
   have:=hI y (i:=1) (by omega);rw[gA,iK,arf,aqO,ap3]at this;exact this
  have KI:=yp.1 0;rw[eH];have hm:val x%val y<val y:=aqh _ (by omega);refine⟨by omega,by omega,⟨gd,KI,by omega⟩, ?_⟩;rintro q rfl r rfl;refine⟨ahl (by omega), ?_⟩;rintro t rfl;have aO:val [((val x%val y:Nat):Int)]=val x%val y:=by simp only[val,ap0,apV,apB]
  rw[aO];exact ag
 ·simp only[apD]at ab ad
  have jj:val y<=val x:=by
   unfold cmp at ab;split at ab
   ·exact absurd (by decide) ab
   ·omega
  have ew:2<=y.length:=by omega
  obtain⟨fg,hX,ym,nr,oP⟩:=Qs yp.1 akH ew;have az:IntKind.wrap .i64 ((Nat.cast:Nat->Int) y.length-1)=((y.length-1:Nat):Int):=by rw[bQ (by omega)];omega
  simp only[az,apB,ix yp.1];have Kz:=fT yp.1 (y.length-1)
  obtain⟨t,r9⟩:∃t,lm y (y.length-1)=t:=⟨_,rfl⟩
  rw[r9]at fg hX ym nr oP Kz;simp only[r9];obtain⟨akI,UU,_⟩:=wA (n:=t) (by omega);refine⟨fun i=>∃k:Nat,i=k/\k<=32-da t,fun i=>32-i.toNat,⟨by first|rfl|trivial,by first|rfl|trivial,0,rfl,by omega⟩, ?_⟩;rintro i ⟨k,rfl,J7⟩;have bZ:IntKind.wrap .u64 (k:Int)=(k:Int):=cT (by omega);have akJ:IntKind.wrap .i64 ((k:Int)+1)=((k+1:Nat):Int):=by rw[bQ (by omega)];omega
  have jq:(2:Int)^k=((2^k:Nat):Int):=by simp
  have aoB:t*2^k<4294967296:=by
   have aA:t*2^k<2^da t*2^k:=arO UU (aqu k);rw[<-aqi]at aA;have ba:=aqg (show 0<2 by decide) (show da t+k<=32 by omega);have tF:(2:Nat)^32=4294967296:=rfl;omega
  have ub:IntKind.wrap .u32 ((t:Int)*(2:Int)^k)=((t*2^k:Nat):Int):=by
   rw[jq,<-aqJ,ia ⟨aqw _,by omega⟩]
  simp only[bZ,akJ,apB,show min k 32=k by omega,ub];have KA:(2:Nat)^31=2147483648:=rfl;refine⟨by omega,by omega,by omega,fun aA=> ?_,fun aA=> ?_⟩
  ·simp only[apE]at aA
   have xV:k≠32-da t:=by
    rintro rfl;have ba:=apP (2^(32-da t)) akI;rw[<-aqi,show da t-1+(32-da t)=31 by omega,KA]at ba;omega
   exact⟨by first|rfl|trivial,by first|rfl|trivial,⟨k+1,rfl,by omega⟩,by show 32-((k+1:Nat):Int).toNat<32-(k:Int).toNat;omega⟩
  ·simp only[apD]at aA
   have tH:32-da t=k:=by
    rcases aq5 k (32-da t)with ba|ba
    ·exfalso;have bJ:t*2^k<2^da t*2^k:=arO UU (aqu k);rw[<-aqi]at bJ;have cu:=aqg (show 0<2 by decide) (show da t+k<=31 by omega);omega
    ·omega
   rw[tH]at nr oP;have Fs:k<32:=by omega
   have ahp:2^k<=2147483648:=by
    have:=aqg (show 0<2 by decide) (show k<=31 by omega);omega
   have I5:4294967296^(y.length-1)<=val y:=by
    have ab:=ml y (y.length-1);rw[mm]at ab;have ad:=apY (4294967296^(y.length-1)) (show 1<=lm y (y.length-1)+4294967296*eu y (y.length-1+1) by omega);omega
   have hlen:y.length<=x.length:=by
    have ab:=iM gd.1;have ad:4294967296^(y.length-1)<4294967296^x.length:=by omega
    have:=(Nat.pow_lt_pow_iff_right (by decide:1<4294967296)).1 ad;omega
   refine⟨⟨gd,by omega,by omega⟩, ?_⟩;rintro iu tI;refine⟨⟨yp,by omega,by omega⟩, ?_⟩;rintro v0 jk
   have xD:val v0=val y*2^k:=by
    rw[jk];refine y4 _ _ (apW nr (aqg (by decide) (by omega)))
   have ti:val iu=val x*2^k:=by
    rw[tI];refine y4 _ _ ?_;rw[ap6];exact Nat.mul_lt_mul'' (iM gd.1) (by omega)
   have Jw:bN iu:=tI▸y3 _ _;have Ft:bN v0:=jk▸y3 _ _;have TH:iu.length=x.length+1:=by rw[tI,wS]
   have TI:v0.length=y.length+1:=by rw[jk,wS]
   refine⟨⟨Ft,by omega⟩, ?_⟩;rintro v aO;have pI:val v=val y*2^k:=by rw[aO,eh,xD]
   have oB:bN v:=aO▸gz _
   have nP:v.length=y.length:=by
    rw[aO,xD];refine Nat.le_antisymm (h0.2 nr) ?_;refine Nat.le_of_not_lt fun aj=> ?_;have ab:=h0.1 (show(aP (val y*2^k)).length<=y.length-1 by omega);have ad:1*4294967296^(y.length-1)<=2147483648*4294967296^(y.length-1):=apP _ (by decide);omega
   have j4:val x/val y=val iu/val v:=by rw[ti,pI,Nat.mul_div_mul_right _ _ (aqu k)]
   have ig:(val x%val y)*2^k=val iu%val v:=by rw[ti,pI,Nat.mul_mod_mul_right]
   have pH:2147483648*4294967296^(y.length-1)<=val v:=by rw[pI];exact oP
   have tJ:val v<4294967296^y.length:=by rw[pI];exact nr
   have F3:0<val v:=by rw[pI];exact Nat.mul_pos (by omega) (aqu k)
   have Bt:val iu<4294967296^(x.length+1-y.length)*val v:=by
    rw[ti];have ab:val x*2^k<4294967296^x.length*2147483648:=apW (arO (iM gd.1) (aqu k)) (apY _ ahp);have ad:=apY (4294967296^(x.length+1-y.length)) pH;rw[aqC,<-aqi,show x.length+1-y.length+(y.length-1)=x.length by omega,aqa 2147483648]at ad;exact apW ab ad
   obtain⟨m,hm⟩:∃m,x.length+1-y.length=m:=⟨_,rfl⟩
   obtain⟨n,aB⟩:∃n,y.length=n:=⟨_,rfl⟩
   have akt:1<=m:=by omega
   rw[hm]at Bt;rw[aB]at pH tJ nP ew hlen AI⊢
   have jn:IntKind.wrap .i64 (IntKind.wrap .i64 ((Nat.cast:Nat->Int) x.length-(n:Int))+1)=(m:Int):=by
    rw[bQ (x:=(Nat.cast:Nat->Int) x.length-(n:Int)) (by omega),bQ (by omega)];omega
   rw[jn];simp only[apB,arq]
   refine⟨by omega,by omega,by omega,fun c8 j u q=>c8=v/\-1<=j/\j<m/\bN u/\u.length=m+n/\bN q/\q.length=m/\val iu=val q*val v+val u/\val u<4294967296^(j+1).toNat*val v/\∀p:Nat,(p:Int)<=j->q.getD p 0=0,
    fun c8 j u q=>(j+1).toNat,⟨by first|rfl|trivial,by first|rfl|trivial,by first|rfl|trivial,by first|rfl|trivial, ?_⟩, ?_⟩
   ·rw[bQ (by omega)];refine⟨rfl,by omega,by omega,Jw,by omega,bN.nv _,by simp,by rw[yS,aqI,ap3], ?_,fun p _=>by simp[apA,aq3];split<;>rfl⟩;rw[show((m:Int)-1+1).toNat=m by omega];exact Bt
   rintro c8 j u q ⟨rfl,xK,ks,hu,nG,a6,xP,heq,bL,AV⟩;refine⟨fun aI=> ?_,fun aI=> ?_⟩
   ·simp only[apE]at aI
    obtain⟨j,rfl⟩:∃i:Nat,j=i:=⟨j.toNat,by omega⟩
    rw[show((j:Int)+1).toNat=j+1 by omega]at bL;simp only[apB];have dD:IntKind.wrap .i64 ((j:Int)-1)=(j:Int)-1:=bQ (by omega);rw[dD]
    obtain⟨D,oM⟩:∃D,val u/4294967296^j=D:=⟨_,rfl⟩
    obtain⟨Q,jB⟩:∃Q,D/val c8=Q:=⟨_,rfl⟩
    simp only[oM,jB];have oA:val u=4294967296^j*D+val u%4294967296^j:=by rw[<-oM,arc]
    obtain⟨f1,f2⟩:=ac8 oA (aqh _ (Nat.pow_pos (by decide))) jB F3
    have ao4:Q<4294967296:=by
     rw[<-jB,<-oM];refine ars (ars ?_);rw[ap6,aqb]at bL;rw[aqa (val c8)];exact bL
    have TL:val (kk (val u-4294967296^j*(Q*val c8)) u.length)=val u-4294967296^j*(Q*val c8):=
     y4 _ _ (aq_ (Nat.sub_le _ _) (iM hu))
    have x2:=AV j (by omega);have A3:=l9 q j (Q:Int) (by omega);rw[x2,show Int.toNat 0=0 from rfl,ap0,apV,apB]at A3
    refine⟨by omega,⟨⟨hu,by omega⟩,⟨oB,by omega⟩,by omega,by omega,by omega,by rw[nP];exact pH,bL⟩,by omega,by omega,by first|rfl|trivial,by first|rfl|trivial,by first|rfl|trivial,by first|rfl|trivial,
     ⟨by first|rfl|trivial,by omega,by omega,y3 _ _,by rw[wS];exact nG,a6.set _ ⟨by omega,by omega⟩,by rw[apL];exact xP, ?_, ?_,fun p aE=> ?_⟩, ?_⟩
    ·rw[A3,TL,heq,apU,aqb];omega
    ·rw[TL,show((j:Int)-1+1).toNat=j by omega];exact f2
    ·rw[eR,apy (by omega)];exact AV p (by omega)
    ·show((j:Int)-1+1).toNat<((j:Int)+1).toNat;omega
   ·simp only[apD]at aI;obtain rfl:j=-1:=by omega
    rw[show((-1:Int)+1).toNat=0 from rfl,arf,aqO]at bL
    have AK:val iu/val c8=val q:=by
     rw[heq,aqa,Nat.mul_add_div (by omega),ard bL,apV]
    have xM:val iu%val c8=val u:=by
     rw[heq,aqa,arD,aqt bL]
    have eD:val u/2^k=val x%val y:=by rw[<-xM,<-ig,Nat.mul_div_cancel _ (aqu k)]
    refine⟨⟨a6,by omega⟩, ?_⟩;rintro r rfl;refine⟨⟨⟨hu,by omega⟩,by omega,by omega⟩, ?_⟩;rintro s rfl;rw[eD,<-AK,<-j4];exact ag
theorem ZZ (a b:List Int)(K:R->Prop)(h:Dh.T [.d (.af .u32 a), .d (.af .u32 b)] K):N8 a b K:=by
 obtain⟨⟨aR,gM,ah,k_⟩,ag⟩:=h;have x5:bF a:=⟨aR,by omega⟩;have x6:bF b:=⟨ah,by omega⟩;have UR:=jG x5;have US:=jG x6;unfold N8
 obtain⟨G,ir⟩:∃G,Nat.gcd (val a) (val b)=G:=⟨_,rfl⟩
 rw[ir]at ag;refine⟨x5, ?_⟩;rintro x rfl;refine⟨x6, ?_⟩;rintro y rfl;refine⟨fun u v=>∃A B:Nat,u=aP A/\v=aP B/\Nat.gcd A B=G/\(aP A).length<=90000000/\(aP B).length<=90000000,fun u v=>val v,⟨by first|rfl|trivial,by first|rfl|trivial,val a,val b,rfl,rfl,ir,by omega,by omega⟩, ?_⟩;rintro u v ⟨A,B,rfl,rfl,r_,dG,eH⟩;simp only[eh];refine⟨fun h=>⟨⟨gz _,dG,gz _,eH⟩, ?_⟩,fun h=> ?_⟩
 ·simp only[apE]at h
  have pK:B≠0:=fun e=>by
   subst e;rw[kH]at h;simp at h
  have bL:A%B<B:=aqh _ (by omega);rintro q rfl r rfl e rfl;rw[apy pK];refine⟨by first|rfl|trivial,by first|rfl|trivial,⟨B,A%B,rfl,rfl,by rw[CT];exact r_,eH, ?_⟩,by rw[eh];exact bL⟩;refine apS (h0.2 ?_) eH;exact Nat.lt_trans bL (h0.1 (apF _))
 ·simp only[apD]at h;have pK:B=0:=zD (by omega);subst pK;rw[Nat.gcd_zero_right]at r_;rw[r_];exact ag
end aa
end
section
open Go Go.ak
namespace aa
end aa
end
section
open Go Go.ak
namespace aa
end aa
end
section
namespace aa
open Go Go.ak
theorem wL (s:Bool)(n:Nat):(dO s n).natAbs=n:=by unfold dO;split<;>omega
theorem RL (s:Bool):dO s 0=0:=by unfold dO;split<;>rfl
theorem SA (s:Bool)(n m:Nat):dO s n+dO s m=dO s (n+m):=by unfold dO;split<;>omega
theorem w8 (n:Int):dO (decide (n<0)) n.natAbs=n:=by
 unfold dO
 by_cases h:n<0
 ·simp only[h,decide_true,ap1];omega
 ·simp only[h,decide_false,aqQ,if_false];omega
theorem SB (s t:Bool)(n m:Nat):dO s n*dO t m=dO (s !=t) (n*m):=by
 unfold dO;cases s<;>cases t<;>simp[aqJ,Int.neg_mul,Int.mul_neg]
theorem Cy {s t:Bool}{n m:Nat}(h:s≠t)(hm:m<=n):dO s n+dO t m=dO s (n-m):=by
 unfold dO;cases s<;>cases t<;>simp at h⊢<;>omega
theorem SC {s:Bool}{n d:Nat}(a_:d≠0):(mkRat (dO s n) d).num.natAbs=n/Nat.gcd n d:=by
 rw[Rat.num_mkRat,apy a_,wL,Nat.gcd_comm,Int.natAbs_ediv_of_dvd,wL]
 ·rfl
 ·rw[<-Int.dvd_natAbs,wL];exact Int.natCast_dvd_natCast.2 (Nat.gcd_dvd_left n d)
theorem SD {s:Bool}{n d:Nat}(a_:d≠0):(mkRat (dO s n) d).den=d/Nat.gcd n d:=by
 rw[Rat.den_mkRat,apy a_,wL,Nat.gcd_comm]
theorem afo {s:Bool}{n d:Nat}(a_:d≠0):ca (mkRat (dO s n) d)=(s&&decide (n≠0)):=by
 unfold ca;rw[Rat.num_mkRat,apy a_,wL];have bh:0<d.gcd n:=Nat.gcd_pos_of_pos_left _ (by omega)
 cases s with
 |false=>
  have:¬dO false n/(d.gcd n:Int)<0:=by
   have:0<=dO false n/(d.gcd n:Int):=Int.ediv_nonneg (by unfold dO;simp) (by omega);omega
  simp[this]
 |true=>
  by_cases bc:n=0
  ·subst bc;simp[RL]
  ·have:dO true n/(d.gcd n:Int)<0:=Int.ediv_neg_of_neg_of_pos (by unfold dO;simp;omega) (by omega);simp[this,bc]
theorem SE {s:Bool}{a b:List Int}(h:val b≠0):b8 (aV s a b)=aP (val a/Nat.gcd (val a) (val b)):=by unfold b8 aV;rw[SC h]
theorem SF {s:Bool}{a b:List Int}(h:val b≠0):b1 (aV s a b)=aP (val b/Nat.gcd (val a) (val b)):=by unfold b1 aV;rw[SD h]
theorem SG {s:Bool}{a b:List Int}(h:val b≠0):ca (aV s a b)=(s&&decide (val a≠0)):=afo h
theorem RM {s:Bool}{a b:List Int}(h:val b=0):aV s a b=0:=by unfold aV;rw[h,Rat.mkRat_zero]
theorem H9 {s:Bool}{a b:List Int}(h:val a=0):aV s a b=0:=by unfold aV;rw[h,RL,Rat.zero_mkRat]
theorem Te:ca 0=false:=rfl
theorem p1:aP 1=[1]:=by
 rw[wI (by decide),show 1/4294967296=0 by decide,kH];rfl
theorem Tf:b8 0=[]:=by unfold b8;exact kH
theorem Tg:b1 0=[1]:=by unfold b1;exact p1
theorem val_one:val [1]=1:=by rw[<-p1,eh]
theorem jE (r:Rat):aV (ca r) (b8 r) (b1 r)=r:=by
 unfold aV ca b8 b1;rw[eh,eh,w8,Rat.mkRat_self]
theorem ac9 (r:Rat):bN (b8 r):=gz _
theorem ac_ (r:Rat):bN (b1 r):=gz _
theorem wT (r:Rat):val (b8 r)=r.num.natAbs:=eh _
theorem p9 (r:Rat):val (b1 r)=r.den:=eh _
theorem rq (r:Rat):val (b1 r)≠0:=by rw[p9];exact r.den_nz
theorem H_ (r:Rat):b1 r=[1]↔r.den=1:=by rw[<-p1];exact HK
theorem Qy (r:Rat):b8 r=[]↔r=0:=by
 unfold b8;rw[ra,Int.natAbs_eq_zero,Rat.num_eq_zero]
theorem bu.cC {k:Nat}{a:List Int}(h:bu k a)(ag:k<=100000000:=by decide):bF a:=⟨h.1,by have:=h.2;omega⟩
theorem bu.mono {k j:Nat}{a:List Int}(h:bu k a)(ag:k<=j):bu j a:=⟨h.1,by have:=h.2;omega⟩
def c1 (k:Nat)(r:Rat):Prop:=r.num.natAbs<4294967296^k/\r.den<4294967296^k
theorem c1.num {k:Nat}{r:Rat}(h:c1 k r):bu k (b8 r):=⟨ac9 r,h0.2 h.1⟩
theorem c1.den {k:Nat}{r:Rat}(h:c1 k r):bu k (b1 r):=⟨ac_ r,h0.2 h.2⟩
theorem c1.mono {k j:Nat}{r:Rat}(h:c1 k r)(ag:k<=j):c1 j r:=⟨apW h.1 (aqg (by decide) ag),apW h.2 (aqg (by decide) ag)⟩
theorem c1.mk {k:Nat}{n:Int}{d:Nat}(ab:n.natAbs<4294967296^k)(ad:d<4294967296^k)(ag:1<=k:=by omega):c1 k (mkRat n d):=by
 by_cases a_:d=0
 ·subst a_;rw[Rat.mkRat_zero];have:(4294967296:Nat)^1<=4294967296^k:=aqg (by decide) ag;exact⟨by show 0<_;omega,by show 1<_;omega⟩
 ·rw[show n=dO (decide (n<0)) n.natAbs from(w8 n).symm];exact⟨by rw[SC a_];exact aq_ (arZ _ _) ab,by rw[SD a_];exact aq_ (arZ _ _) ad⟩
theorem bu.val {k:Nat}{a:List Int}(h:bu k a):val a<4294967296^k:=apW (iM h.1) (aqg (by decide) h.2)
theorem c1.of {k:Nat}{s:Bool}{a b:List Int}(aR:bu k a)(ah:bu k b)(ag:1<=k:=by omega):c1 k (aV s a b):= .mk (by rw[wL];exact aR.val) ah.val ag
theorem c1.neg {k:Nat}{r:Rat}(h:c1 k r):c1 k (-r):=⟨by rw[Rat.neg_num,Int.natAbs_neg];exact h.1,h.2⟩
theorem wB {k j:Nat}{x y:Nat}(aj:x<4294967296^k)(bo:y<4294967296^j):x*y<4294967296^(k+j):=by
 rw[aqi];exact Nat.mul_lt_mul'' aj bo
theorem c1.mul {k j:Nat}{r q:Rat}(h:c1 k r)(g:c1 j q)(ag:1<=k+j:=by omega):c1 (k+j) (r*q):=by
 rw[Rat.mul_def'];exact .mk (by rw[Int.natAbs_mul];exact wB h.1 g.1) (wB h.2 g.2) ag
theorem c1.add {k j:Nat}{r q:Rat}(h:c1 k r)(g:c1 j q):c1 (k+j+1) (r+q):=by
 rw[Rat.add_def'];refine .mk ?_ ?_
 ·have ab:=wB h.1 g.2;have ad:=wB g.1 h.2;rw[Nat.add_comm j k]at ad;have aA:=Int.natAbs_add_le (r.num*q.den) (q.num*r.den);rw[Int.natAbs_mul,Int.natAbs_mul]at aA;have az:(q.den:Int).natAbs=q.den:=rfl;have aJ:(r.den:Int).natAbs=r.den:=rfl;rw[az,aJ]at aA;rw[ap6];generalize (4294967296:Nat)^(k+j)=W at*;omega
 ·have ab:=wB h.2 g.2;rw[ap6];generalize (4294967296:Nat)^(k+j)=W at*;omega
theorem c1.sub {k j:Nat}{r q:Rat}(h:c1 k r)(g:c1 j q):c1 (k+j+1) (r-q):=by rw[Rat.sub_eq_add_neg];exact h.add g.neg
theorem c1.zero:c1 1 0:=⟨by decide,by decide⟩
theorem c1.one:c1 1 1:=⟨by decide,by decide⟩
theorem c1.pow {k:Nat}{r:Rat}(h:c1 k r)(ag:1<=k:=by omega):∀n,c1 (k*n+1) (r^n)
 |0=>by rw[arj];exact c1.one.mono (by omega)
 |n+1=>by
  rw[Rat.pow_succ];exact((c1.pow h ag n).mul h).mono (by rw[aq8];omega)
theorem CW (r:Rat):ca r=true↔r<0:=by
 unfold ca;rw[aqe,Rat.lt_iff];simp
theorem y8 {r:Rat}:k8 r=0↔r=0:=by
 unfold k8;split
 ·simp_all
 ·split<;>simp_all
end aa
end
section
open Go Go.ak
namespace aa
def N9:Bool->List Int->List Int->(R->Prop)->Prop:=
 fun s a b K=>bF a/\∀x,x=aP (val a)->bF b/\∀a7,a7=aP (val b)->(decide (↑x.length=(0:Int))=true->K (R.agg [R.d (U.bool false),R.d (U.af .u32 []),R.d (U.af .u32 [(1:Int)])]))/\(decide (↑x.length=(0:Int))=false->(bF x/\bF a7)/\∀aW,aW=aP ((val x).gcd (val a7))->((!decide (↑aW.length=(1:Int)))=true->(bF x/\bF aW)/\∀bn,(bn=if val aW=(0:Nat)then[]else aP (val x/val aW))->∀b9,(b9=if val aW=(0:Nat)then[]else aP (val x%val aW))->∀x,(x=if val aW=(0:Nat)then(3:Int)else(0:Int))->(bF a7/\bF aW)/\∀x,(x=if val aW=(0:Nat)then[]else aP (val a7/val aW))->∀cU,(cU=if val aW=(0:Nat)then[]else aP (val a7%val aW))->∀cB,(cB=if val aW=(0:Nat)then(3:Int)else(0:Int))->K (R.agg [R.d (U.bool s),R.d (U.af .u32 bn),R.d (U.af .u32 x)]))/\((!decide (↑aW.length=(1:Int)))=false->(0:Int)<=(0:Int)/\(0:Int)<↑aW.length/\((!decide (aW.getD (0:Nat) (0:Int)=(1:Int)))=true->(bF x/\bF aW)/\∀bn,(bn=if val aW=(0:Nat)then[]else aP (val x/val aW))->∀b9,(b9=if val aW=(0:Nat)then[]else aP (val x%val aW))->∀x,(x=if val aW=(0:Nat)then(3:Int)else(0:Int))->(bF a7/\bF aW)/\∀x,(x=if val aW=(0:Nat)then[]else aP (val a7/val aW))->∀cU,(cU=if val aW=(0:Nat)then[]else aP (val a7%val aW))->∀cB,(cB=if val aW=(0:Nat)then(3:Int)else(0:Int))->K (R.agg [R.d (U.bool s),R.d (U.af .u32 bn),R.d (U.af .u32 x)]))/\((!decide (aW.getD (0:Nat) (0:Int)=(1:Int)))=false->K (R.agg [R.d (U.bool s),R.d (U.af .u32 x),R.d (U.af .u32 a7)]))))
def N_:List Int->(R->Prop)->Prop:=
 fun a K=>(bF a/\bF [])/\∀x,x=cmp (val a) 0->K (R.d (U.bool (decide (x=0))))
def Oa:Bool->List Int->List Int->(R->Prop)->Prop:=
 fun s a b K=>bF b/\∀x,x=decide (val b=0)->(x=true->(bF []/\bF [1]/\¬1=0)/\∀x,x=ca (aV false [] [1])->∀a7,a7=b8 (aV false [] [1])->∀aW,aW=b1 (aV false [] [1])->K (R.agg [R.d (U.bool x),R.d (U.af .u32 a7),R.d (U.af .u32 aW)]))/\(x=false->(bF a/\bF b/\¬val b=0)/\∀x,x=ca (aV s a b)->∀a7,a7=b8 (aV s a b)->∀aW,aW=b1 (aV s a b)->K (R.agg [R.d (U.bool x),R.d (U.af .u32 a7),R.d (U.af .u32 aW)]))
def Qz:List Int->(R->Prop)->Prop:=
 fun a K=>(decide (↑a.length=(1:Int))=true->(0:Int)<=(0:Int)/\(0:Int)<↑a.length/\K (R.d (U.bool (decide (a.getD (0:Nat) (0:Int)=(1:Int))))))/\(decide (↑a.length=(1:Int))=false->K (R.d (U.bool false)))
def WD:Bool->List Int->List Int->(R->Prop)->Prop:=
 fun s a b K=>K (R.agg [R.d (U.bool s),R.d (U.af .u32 a),R.d (U.af .u32 b)])
def PE:Bool->List Int->List Int->(R->Prop)->Prop:=
 fun s a b K=>(bF a/\bF b)/\∀x,x=ca (aV s a b)->∀a7,a7=b8 (aV s a b)->∀aW,aW=b1 (aV s a b)->True/\∀bn,bn=x->∀x,x=a7->∀b9,b9=aW->K (R.agg [R.d (U.bool bn),R.d (U.af .u32 x),R.d (U.af .u32 b9)])
def MW:Int->(R->Prop)->Prop:=
 fun n K=>∃(J:Int->Prop),((decide (n<0)=true->J (aX (0-aX n)))/\(decide (n<0)=false->J (aX n)))/\∀(v4:Int),J v4->bF [bY v4,bY (v4.fdiv 4294967296)]/\∀x,x=aP (val [bY v4,bY (v4.fdiv 4294967296)])->K (R.tup [R.d (U.bool (decide (n<0))),R.d (U.af .u32 x)])
def QA:Int->(R->Prop)->Prop:=
 fun n K=>i64 n/\∀x,x=decide (n<0)->∀a7,a7=aP n.natAbs->(bF a7/\bF [1]/\¬1=0)/\∀aW,aW=ca (aV x a7 [1])->∀bn,bn=b8 (aV x a7 [1])->∀b9,b9=b1 (aV x a7 [1])->True/\∀x,x=aW->∀cU,cU=bn->∀cB,cB=b9->K (R.agg [R.d (U.bool x),R.d (U.af .u32 cU),R.d (U.af .u32 cB)])
def NQ:Bool->List Int->Bool->List Int->List Int->(R->Prop)->Prop:=
 fun s a t b d K=>((s==t)=true->(bF a/\bF b)/\∀x,x=aP (val a+val b)->(bF x/\bF d/\¬val d=(0:Nat))/\∀a7,a7=ca (aV s x d)->∀aW,aW=b8 (aV s x d)->∀bn,bn=b1 (aV s x d)->K (R.agg [R.d (U.bool a7),R.d (U.af .u32 aW),R.d (U.af .u32 bn)]))/\((s==t)=false->∃(J:Bool->List Int->List Int->Prop),((bF a/\bF b)/\∀x,x=cmp (val a) (val b)->(decide (x<(0:Int))=true->(false,ae.cells [R.d (U.bool false),R.emp,R.emp])=(false,ae.cells [R.d (U.bool false),R.emp,R.emp])/\J t b a)/\(decide (x<(0:Int))=false->(false,ae.cells [R.d (U.bool false),R.emp,R.emp])=(false,ae.cells [R.d (U.bool false),R.emp,R.emp])/\J s a b))/\∀(v0:Bool) (v1 v3:List Int),J v0 v1 v3->(bF v1/\bF v3)/\∀x,(x=if val v1<val v3 then[]else aP (val v1-val v3))->∀a7,(a7=if val v1<val v3 then(1:Int)else(0:Int))->(bF x/\bF d/\¬val d=(0:Nat))/\∀aW,aW=ca (aV v0 x d)->∀bn,bn=b8 (aV v0 x d)->∀b9,b9=b1 (aV v0 x d)->K (R.agg [R.d (U.bool aW),R.d (U.af .u32 bn),R.d (U.af .u32 b9)]))
def QB:Bool->List Int->List Int->Bool->List Int->List Int->(R->Prop)->Prop:=
 fun s a b t c d K=>(bF a/\bF b)/\∀x,x=ca (aV s a b)->∀a7,a7=b8 (aV s a b)->∀aW,aW=b1 (aV s a b)->(bF c/\bF d)/\∀bn,bn=ca (aV t c d)->∀b9,b9=b8 (aV t c d)->∀cU,cU=b1 (aV t c d)->True/\∀cB,cB=decide (aW=[1])->(cB=true->True/\∀dc,dc=decide (cU=[1])->(dc=true->(bu 50000000 a7/\bu 50000000 b9/\bF aW/\¬val aW=0)/\∀dy,dy=ca (mkRat (dO x (val a7)+dO bn (val b9)) (val aW))->∀cX,cX=b8 (mkRat (dO x (val a7)+dO bn (val b9)) (val aW))->∀e8,e8=b1 (mkRat (dO x (val a7)+dO bn (val b9)) (val aW))->True/\∀x,x=dy->∀fV,fV=cX->∀gB,gB=e8->K (R.agg [R.d (U.bool x),R.d (U.af .u32 fV),R.d (U.af .u32 gB)]))/\(dc=false->(bF a7/\bF cU)/\∀dy,dy=aP (val a7*val cU)->(bF b9/\bF aW)/\∀cX,cX=aP (val b9*val aW)->(bF aW/\bF cU)/\∀e8,e8=aP (val aW*val cU)->(bu 50000000 dy/\bu 50000000 cX/\bF e8/\¬val e8=0)/\∀fV,fV=ca (mkRat (dO x (val dy)+dO bn (val cX)) (val e8))->∀gB,gB=b8 (mkRat (dO x (val dy)+dO bn (val cX)) (val e8))->∀hK,hK=b1 (mkRat (dO x (val dy)+dO bn (val cX)) (val e8))->True/\∀x,x=fV->∀ib,ib=gB->∀kn,kn=hK->K (R.agg [R.d (U.bool x),R.d (U.af .u32 ib),R.d (U.af .u32 kn)])))/\(cB=false->(bF a7/\bF cU)/\∀dc,dc=aP (val a7*val cU)->(bF b9/\bF aW)/\∀dy,dy=aP (val b9*val aW)->(bF aW/\bF cU)/\∀cX,cX=aP (val aW*val cU)->(bu 50000000 dc/\bu 50000000 dy/\bF cX/\¬val cX=0)/\∀e8,e8=ca (mkRat (dO x (val dc)+dO bn (val dy)) (val cX))->∀fV,fV=b8 (mkRat (dO x (val dc)+dO bn (val dy)) (val cX))->∀gB,gB=b1 (mkRat (dO x (val dc)+dO bn (val dy)) (val cX))->True/\∀x,x=e8->∀hK,hK=fV->∀ib,ib=gB->K (R.agg [R.d (U.bool x),R.d (U.af .u32 hK),R.d (U.af .u32 ib)]))
def QC:Bool->List Int->List Int->(R->Prop)->Prop:=
 fun s a b K=>(bF a/\bF b)/\∀x,x=ca (aV s a b)->∀a7,a7=b8 (aV s a b)->∀aW,aW=b1 (aV s a b)->((!x)=true->True/\∀x,x=decide ((0:Int)<↑a7.length)->∀bn,bn=a7->∀b9,b9=aW->K (R.agg [R.d (U.bool x),R.d (U.af .u32 bn),R.d (U.af .u32 b9)]))/\((!x)=false->True/\∀x,x=false->∀bn,bn=a7->∀b9,b9=aW->K (R.agg [R.d (U.bool x),R.d (U.af .u32 bn),R.d (U.af .u32 b9)]))
def QD:Bool->List Int->List Int->Bool->List Int->List Int->(R->Prop)->Prop:=
 fun s a b t c d K=>(bu 1000000 c/\bu 1000000 d)/\∀x,x=ca (-aV t c d)->∀a7,a7=b8 (-aV t c d)->∀aW,aW=b1 (-aV t c d)->(bu 1000000 a/\bu 1000000 b/\bu 1000000 a7/\bu 1000000 aW)/\∀bn,bn=ca (aV s a b+aV x a7 aW)->∀b9,b9=b8 (aV s a b+aV x a7 aW)->∀cU,cU=b1 (aV s a b+aV x a7 aW)->K (R.agg [R.d (U.bool bn),R.d (U.af .u32 b9),R.d (U.af .u32 cU)])
def QE:Bool->List Int->List Int->Bool->List Int->List Int->(R->Prop)->Prop:=
 fun s a b t c d K=>(bF a/\bF b)/\∀x,x=ca (aV s a b)->∀a7,a7=b8 (aV s a b)->∀aW,aW=b1 (aV s a b)->(bF c/\bF d)/\∀bn,bn=ca (aV t c d)->∀b9,b9=b8 (aV t c d)->∀cU,cU=b1 (aV t c d)->(bF a7/\bF b9)/\∀cB,cB=aP (val a7*val b9)->(bF aW/\bF cU)/\∀dc,dc=aP (val aW*val cU)->(bF cB/\bF dc/\¬val dc=0)/\∀dy,dy=ca (aV (!x==bn) cB dc)->∀cX,cX=b8 (aV (!x==bn) cB dc)->∀e8,e8=b1 (aV (!x==bn) cB dc)->True/\∀x,x=dy->∀fV,fV=cX->∀gB,gB=e8->K (R.agg [R.d (U.bool x),R.d (U.af .u32 fV),R.d (U.af .u32 gB)])
def PF:Bool->List Int->List Int->(R->Prop)->Prop:=
 fun s a b K=>(bF a/\bF b)/\∀x,x=ca (aV s a b)->∀a7,a7=b8 (aV s a b)->∀aW,aW=b1 (aV s a b)->(decide (↑a7.length=(0:Int))=true->K (R.d (U.int .i64 0)))/\(decide (↑a7.length=(0:Int))=false->(x=true->K (R.d (U.int .i64 (-1))))/\(x=false->K (R.d (U.int .i64 1))))
def QF:Bool->List Int->List Int->Bool->List Int->List Int->(R->Prop)->Prop:=
 fun s a b t c d K=>(bu 1000000 a/\bu 1000000 b/\bu 1000000 c/\bu 1000000 d)/\∀x,x=ca (aV s a b-aV t c d)->∀a7,a7=b8 (aV s a b-aV t c d)->∀aW,aW=b1 (aV s a b-aV t c d)->(bF a7/\bF aW)/\∀bn,bn=k8 (aV x a7 aW)->K (R.d (U.int .i64 bn))
def OR:Bool->List Int->List Int->Bool->List Int->List Int->(R->Prop)->Prop:=
 fun s a b t c d K=>(bu 1000000 a/\bu 1000000 b/\bu 1000000 c/\bu 1000000 d)/\∀x,x=k8 (aV s a b-aV t c d)->K (R.d (U.bool (decide (x=0))))
def Ob:Bool->List Int->List Int->(R->Prop)->Prop:=
 fun s a b K=>(bF a/\bF b)/\∀x,x=ca (aV s a b)->∀a7,a7=b8 (aV s a b)->∀aW,aW=b1 (aV s a b)->bF a7/\∀bn,bn=dec (val a7)->∃(J:List Int->Prop),((x=true->(1:Int)+↑bn.length<=(9223372036854775807:Int)/\(false,ae.cells [R.d (U.bool s),R.d (U.af .u32 a),R.d (U.af .u32 b)])=(false,ae.cells [R.d (U.bool s),R.d (U.af .u32 a),R.d (U.af .u32 b)])/\(false,ae.cells [R.d (U.bool x),R.d (U.af .u32 a7),R.d (U.af .u32 aW)])=(false,ae.cells [R.d (U.bool x),R.d (U.af .u32 a7),R.d (U.af .u32 aW)])/\J ([(45:Int)]++bn))/\(x=false->(false,ae.cells [R.d (U.bool s),R.d (U.af .u32 a),R.d (U.af .u32 b)])=(false,ae.cells [R.d (U.bool s),R.d (U.af .u32 a),R.d (U.af .u32 b)])/\(false,ae.cells [R.d (U.bool x),R.d (U.af .u32 a7),R.d (U.af .u32 aW)])=(false,ae.cells [R.d (U.bool x),R.d (U.af .u32 a7),R.d (U.af .u32 aW)])/\J bn))/\∀(v4:List Int),J v4->True/\∀x,x=decide (aW=[(1:Int)])->((!x)=true->bF aW/\∀x,x=dec (val aW)->(1:Int)+↑x.length<=(9223372036854775807:Int)/\↑v4.length+↑([(47:Int)]++x).length<=(9223372036854775807:Int)/\K (R.d (U.str (v4++([(47:Int)]++x)))))/\((!x)=false->K (R.d (U.str v4)))
end aa
end
section
open Go Go.ak
namespace aa
theorem Fv {a:List Int}:decide (((a.length:Nat):Int)=0)=true↔a=[]:=by
 rw[aqe];constructor
 ·intro h;exact aqm.1 (by omega)
 ·rintro rfl;rfl
theorem wM {a:List Int}(h:bF a):bF (aP (val a)):=⟨gz _,apS (jG h) h.2⟩
theorem uC {k n:Nat}(h:n<4294967296^k):bu k (aP n):=⟨gz _,h0.2 h⟩
theorem Z0 {n:Nat}:aP n=[1]↔n=1:=by rw[<-p1];exact HK
theorem gcd_le_right {a b:Nat}(h:b≠0):Nat.gcd a b<=b:=Nat.le_of_dvd (arI h) (Nat.gcd_dvd_right a b)
theorem HN {n:Nat}{b:List Int}(ah:bF b)(h:n<=val b):bF (aP n):=⟨gz _,apS (h0.2 (aq_ h (iM ah.1))) ah.2⟩
theorem aep {n:Nat}:(aP n).length=1/\(aP n).getD 0 0=1↔n=1:=by
 constructor
 ·rintro⟨ab,ad⟩;rw[<-Z0]
  match aP n,ab,ad with
  |[x],_,ad=>simp at ad;rw[ad]
 ·rintro rfl;rw[p1];simp
theorem af2 {s:Bool}{a b:List Int}(h:val b≠0)(bc:val a≠0):ca (aV s a b)=s:=by rw[SG h];simp[bc]
theorem Z1 (s:Bool)(a b:List Int)(K:R->Prop)(h:Dj.T [.d (.bool s), .d (.af .u32 a), .d (.af .u32 b)] K):N9 s a b K:=by
 obtain⟨⟨aR,ah,oF⟩,ag⟩:=h;unfold N9;refine⟨aR, ?_⟩;rintro _ rfl;refine⟨ah, ?_⟩;rintro _ rfl;refine⟨fun h=> ?_,fun h=> ?_⟩
 ·have bc:val a=0:=ra.1 (Fv.1 h);rw[H9 bc,Te,Tf,Tg]at ag;exact ag
 ·have bc:val a≠0:=fun e=>by
   rw[Fv.2 (ra.2 e)]at h;cases h
  have bh:Nat.gcd (val a) (val b)≠0:=fun e=>oF (Nat.gcd_eq_zero_iff.1 e).2;rw[af2 oF bc,SE oF,SF oF]at ag;refine⟨⟨wM aR,wM ah⟩, ?_⟩;rintro _ rfl;simp only[eh];have sj:bF (aP (Nat.gcd (val a) (val b))):=HN ah (gcd_le_right oF);refine⟨fun _=>⟨⟨wM aR,sj⟩, ?_⟩,fun ab=>⟨by omega, ?_,fun _=>⟨⟨wM aR,sj⟩, ?_⟩,fun ad=> ?_⟩⟩
  ·rintro _ rfl _ rfl _ rfl;refine⟨⟨wM ah,sj⟩, ?_⟩;rintro _ rfl _ rfl _ rfl;rw[apy bh,apy bh];exact ag
  ·have:(((aP (Nat.gcd (val a) (val b))).length:Nat):Int)=1:=by simpa using ab
   omega
  ·rintro _ rfl _ rfl _ rfl;refine⟨⟨wM ah,sj⟩, ?_⟩;rintro _ rfl _ rfl _ rfl;rw[apy bh,apy bh];exact ag
  ·have hq:(((aP (Nat.gcd (val a) (val b))).length:Nat):Int)=1:=by simpa using ab
   have az:(aP (Nat.gcd (val a) (val b))).length=1:=by omega
   have aJ:(aP (Nat.gcd (val a) (val b))).getD 0 0=1:=by simpa using ad
   have e:=aep.1 ⟨az,aJ⟩;rw[e,Nat.div_one,Nat.div_one]at ag;exact ag
theorem ada {n:Nat}:(decide (cmp n 0=0))=decide (n=0):=by
 unfold cmp
 by_cases h:n=0
 ·subst h;rfl
 ·simp[h]
theorem RN:bF []:=⟨.nil,by simp⟩
theorem IA:bF [1]:=⟨.mk (by decide) .nil,by simp⟩
theorem Z2 (a:List Int)(K:R->Prop)(h:Dk.T [.d (.af .u32 a)] K):N_ a K:=by
 obtain⟨aR,ag⟩:=h;unfold N_;refine⟨⟨aR,RN⟩, ?_⟩;rintro _ rfl;rw[ada];exact ag
theorem Z3 (s:Bool)(a b:List Int)(K:R->Prop)(h:w3.T [dR s a b] K):Oa s a b K:=by
 obtain⟨⟨aR,ah⟩,ag⟩:=h;unfold Oa;refine⟨ah, ?_⟩;rintro _ rfl;refine⟨fun bc=>⟨⟨RN,IA,by decide⟩, ?_⟩,fun bc=>⟨⟨aR,ah,by simpa using bc⟩, ?_⟩⟩
 ·rintro _ rfl _ rfl _ rfl;have bc:val b=0:=by simpa using bc
  rw[RM bc]at ag;rw[H9 (a:=[]) rfl];exact ag
 ·rintro _ rfl _ rfl _ rfl;exact ag
theorem aeq (a:List Int)(K:R->Prop)(h:Fh.T [.d (.af .u32 a)] K):Qz a K:=by
 obtain⟨_,ag⟩:=h;unfold Qz;refine⟨fun h=> ?_,fun h=> ?_⟩
 ·have ab:a.length=1:=by
   have:=apJ h;omega
  refine⟨by omega,by omega, ?_⟩
  match a,ab with
  |[x],_=>
   have e:decide ([x]=[1])=decide (([x]:List Int).getD 0 0=1):=by simp
   rw[e]at ag;exact ag
 ·have ab:a≠[1]:=by
   rintro rfl;simp at h
  have e:decide (a=[1])=false:=by simpa using ab
  rw[e]at ag;exact ag
theorem WK (s:Bool)(a b:List Int)(K:R->Prop)(h:Fg.T [dR s a b] K):WD s a b K:=h.2
theorem adb (s:Bool)(a b:List Int)(K:R->Prop)(h:w3.T [dR s a b] K):PE s a b K:=by
 obtain⟨aE,ag⟩:=h;unfold PE;refine⟨aE, ?_⟩;rintro _ rfl _ rfl _ rfl;refine⟨trivial, ?_⟩;rintro _ rfl _ rfl _ rfl;exact ag
theorem TM (n:Int)(h:i64 n):IntKind.wrap .u64 n=if n<0 then n+18446744073709551616 else n:=by
 unfold i64 at h;have e:IntKind.wrap .u64 n=n%18446744073709551616:=rfl;rw[e];split<;>omega
theorem XI (n:Int)(K:R->Prop)(h:Cg.T [.d (.int .i64 n)] K):MW n K:=by
 obtain⟨aB,ag⟩:=h;unfold MW aX bY;have oE:=aB;unfold i64 at oE;refine⟨fun v=>v=(n.natAbs:Int),⟨fun h=> ?_,fun h=> ?_⟩, ?_⟩
 ·have h:=apJ h;rw[TM n aB,apz h];have e:IntKind.wrap .u64 (0-(n+18446744073709551616))=(0-(n+18446744073709551616))%18446744073709551616:=rfl;rw[e];omega
 ·have h:=apO h;rw[TM n aB,apy h];omega
 ·rintro v rfl;have az:IntKind.wrap .u32 (n.natAbs:Int)=(n.natAbs:Int)%4294967296:=rfl;have aJ:IntKind.wrap .u32 (Int.fdiv (n.natAbs:Int) 4294967296)=(Int.fdiv (n.natAbs:Int) 4294967296)%4294967296:=rfl;have bX:Int.fdiv (n.natAbs:Int) 4294967296=(n.natAbs:Int)/4294967296:=aqf _ (by decide);rw[az,aJ,bX];refine⟨⟨.mk ⟨by omega,by omega⟩ (.mk ⟨by omega,by omega⟩ .nil),by simp⟩, ?_⟩;rintro _ rfl
  have aN:val [(n.natAbs:Int)%4294967296,(n.natAbs:Int)/4294967296%4294967296]=n.natAbs:=by
   simp only[val];omega
  rw[aN];exact ag
theorem afp (n:Int):aV (decide (n<0)) (aP n.natAbs) [1]=(n:Rat):=by
 unfold aV;rw[eh,val_one,w8,Rat.mkRat_one]
theorem aer {n:Int}(h:i64 n):bF (aP n.natAbs):=by
 unfold i64 at h;exact⟨gz _,apS ((h0 (k:=2)).2 (by omega)) (by decide)⟩
theorem aes (n:Int)(K:R->Prop)(h:ta.T [.d (.int .i64 n)] K):QA n K:=by
 obtain⟨aB,ag⟩:=h;unfold QA;refine⟨aB, ?_⟩;rintro _ rfl _ rfl;refine⟨⟨aer aB,IA,by decide⟩, ?_⟩;rw[afp];rintro _ rfl _ rfl _ rfl;refine⟨trivial, ?_⟩;rintro _ rfl _ rfl _ rfl;exact ag
theorem abB (n d:Int)(a_:d≠0):mkRat (dO (decide (n<0) !=decide (d<0)) n.natAbs) d.natAbs=Rat.divInt n d:=by
 rw[<-Rat.divInt_ofNat];rw[Rat.divInt_eq_divInt_iff (by omega) a_];unfold dO
 by_cases ab:n<0<;>by_cases ad:d<0
 ·rw[show((n.natAbs:Nat):Int)=-n by omega,show((d.natAbs:Nat):Int)=-d by omega];simp[ab,ad,Int.neg_mul,Int.mul_neg]
 ·rw[show((n.natAbs:Nat):Int)=-n by omega,show((d.natAbs:Nat):Int)=d by omega];simp[ab,ad]
 ·rw[show((n.natAbs:Nat):Int)=n by omega,show((d.natAbs:Nat):Int)=-d by omega];simp[ab,ad,Int.neg_mul,Int.mul_neg]
 ·rw[show((n.natAbs:Nat):Int)=n by omega,show((d.natAbs:Nat):Int)=d by omega];simp[ab,ad]
theorem SH {k:Nat}{x y:Nat}(aj:x<4294967296^k)(bo:y<4294967296^k):x+y<4294967296^(k+1):=by
 rw[ap6];generalize (4294967296:Nat)^k=W at*;omega
theorem aet {a b:Nat}:decide (cmp a b<0)=decide (a<b):=by
 unfold cmp
 by_cases h:a<b
 ·simp[h]
 ·by_cases ad:a=b
  ·simp[ad]
  ·simp[h,ad]
theorem Y0 (s:Bool)(a:List Int)(t:Bool)(b d:List Int)(K:R->Prop)(h:CM.T [.d (.bool s), .d (.af .u32 a), .d (.bool t), .d (.af .u32 b), .d (.af .u32 d)] K):NQ s a t b d K:=by
 obtain⟨⟨aR,ah,a_,tA⟩,ag⟩:=h;unfold NQ;have py:bF a:=aR.cC;have A7:bF b:=ah.cC;refine⟨fun h=>⟨⟨py,A7⟩, ?_⟩,fun h=>⟨fun v0 v1 v3=>v0=(if val a<val b then t else s)/\v1=(if val a<val b then b else a)/\v3=(if val a<val b then a else b),⟨⟨py,A7⟩, ?_⟩, ?_⟩⟩
 ·obtain rfl:s=t:=by simpa using h
  rintro _ rfl;refine⟨⟨(uC (SH aR.val ah.val)).cC,a_,tA⟩, ?_⟩;rw[SA]at ag;unfold aV;rw[eh];rintro _ rfl _ rfl _ rfl;exact ag
 ·rintro _ rfl;rw[aet];refine⟨fun h=>⟨rfl, ?_⟩,fun h=>⟨rfl, ?_⟩⟩
  ·have h:=apJ h;simp[apz h]
  ·have h:=apO h;simp[apy h]
 ·have cS:s≠t:=by intro e;subst e;simp at h
  rintro _ _ _ ⟨rfl,rfl,rfl⟩
  by_cases bL:val a<val b
  ·simp only[apz bL];refine⟨⟨A7,py⟩, ?_⟩;rw[apy (by omega),apy (by omega)];rintro _ rfl _ rfl;refine⟨⟨HN A7 (Nat.sub_le _ _),a_,tA⟩, ?_⟩;rw[Int.add_comm,Cy (aql cS) (Nat.le_of_lt bL)]at ag;unfold aV;rw[eh];rintro _ rfl _ rfl _ rfl;exact ag
  ·simp only[apy bL];refine⟨⟨py,A7⟩, ?_⟩;rintro _ rfl _ rfl;refine⟨⟨HN py (Nat.sub_le _ _),a_,tA⟩, ?_⟩;rw[Cy cS (by omega)]at ag;unfold aV;rw[eh];rintro _ rfl _ rfl _ rfl;exact ag
theorem mn {k:Nat}{s:Bool}{a b:List Int}(aR:bu k a)(ah:bu k b)(ag:1<=k:=by decide):c1 k (aV s a b):= .of aR ah ag
theorem Ia (r q:Rat):mkRat (dO (ca r) (val (b8 r)*val (b1 q))+dO (ca q) (val (b8 q)*val (b1 r))) (val (b1 r)*val (b1 q))=r+q:=by
 rw[wT,p9,wT,p9,Rat.add_def']
 have e:∀(x:Rat) (n:Nat),dO (ca x) (x.num.natAbs*n)=x.num*n:=fun x n=>by
  have h:=SB (ca x) false x.num.natAbs n;have ad:dO (ca x) x.num.natAbs=x.num:=w8 x.num;rw[ad]at h;have aA:dO false n=(n:Int):=rfl;rw[aA,Bool.bne_false]at h;exact h.symm
 rw[e,e]
theorem abC {r q:Rat}(ao:r.den=1)(a6:q.den=1):mkRat (dO (ca r) (val (b8 r))+dO (ca q) (val (b8 q))) (val (b1 r))=r+q:=by
 have h:=Ia r q;rw[p9,p9,ao,a6]at h;rw[p9,ao];simpa using h
theorem QG (r q:Rat):aV (ca r !=ca q) (aP (val (b8 r)*val (b8 q))) (aP (val (b1 r)*val (b1 q)))=r*q:=by
 unfold aV;rw[eh,eh,<-SB,wT,wT,p9,p9,Rat.mul_def'];have ab:dO (ca r) r.num.natAbs=r.num:=w8 r.num;have ad:dO (ca q) q.num.natAbs=q.num:=w8 q.num;rw[ab,ad]
theorem qi {k j:Nat}{a b:List Int}(aR:bu k a)(ah:bu j b):bu (k+j) (aP (val a*val b)):=uC (wB aR.val ah.val)
theorem aeu (s:Bool)(a b:List Int)(t:Bool)(c d:List Int)(K:R->Prop)(h:xm.T [dR s a b,dR t c d] K):QB s a b t c d K:=by
 obtain⟨⟨aR,ah,aC,a_⟩,ag⟩:=h;unfold QB;have ao:=mn (s:=s) aR ah;have a6:=mn (s:=t) aC a_;refine⟨⟨aR.cC,ah.cC⟩, ?_⟩;generalize aV s a b=r at*;rintro _ rfl _ rfl _ rfl;refine⟨⟨aC.cC,a_.cC⟩, ?_⟩;generalize aV t c d=q at*;rintro _ rfl _ rfl _ rfl;have fX:=qi ao.num a6.den;have gg:=qi a6.num ao.den;have h6:=qi ao.den a6.den
 have jh:(bF (b8 r)/\bF (b1 q))/\∀x,x=aP (val (b8 r)*val (b1 q))->(bF (b8 q)/\bF (b1 r))/\∀y,y=aP (val (b8 q)*val (b1 r))->(bF (b1 r)/\bF (b1 q))/\∀z,z=aP (val (b1 r)*val (b1 q))->
  (bu 50000000 x/\bu 50000000 y/\bF z/\¬val z=0)/\mkRat (dO (ca r) (val x)+dO (ca q) (val y)) (val z)=r+q:=by
  refine⟨⟨ao.num.cC,a6.den.cC⟩, ?_⟩;rintro _ rfl;refine⟨⟨a6.num.cC,ao.den.cC⟩, ?_⟩;rintro _ rfl;refine⟨⟨ao.den.cC,a6.den.cC⟩, ?_⟩;rintro _ rfl;refine⟨⟨fX.mono (by decide),gg.mono (by decide),h6.cC, ?_⟩, ?_⟩
  ·rw[eh];exact Nat.mul_ne_zero (rq r) (rq q)
  ·rw[eh,eh,eh];exact Ia r q
 refine⟨trivial, ?_⟩;rintro _ rfl;refine⟨fun ab=>⟨trivial, ?_⟩,fun ab=> ?_⟩
 ·have ab:=apJ ab;rintro _ rfl;refine⟨fun ad=> ?_,fun ad=> ?_⟩
  ·have ad:=apJ ad;refine⟨⟨ao.num.mono (by decide),a6.num.mono (by decide),ao.den.cC,rq r⟩, ?_⟩;rw[abC ((H_ r).1 ab) ((H_ q).1 ad)];rintro _ rfl _ rfl _ rfl;refine⟨trivial, ?_⟩;rintro _ rfl _ rfl _ rfl;exact ag
  ·obtain⟨jq,ch⟩:=jh;refine⟨jq,fun x aj=> ?_⟩;obtain⟨lX,df⟩:=ch x aj;refine⟨lX,fun y bo=> ?_⟩;obtain⟨tS,iD⟩:=df y bo;refine⟨tS,fun z bm=> ?_⟩;obtain⟨yq,vT⟩:=iD z bm;refine⟨yq, ?_⟩;rw[vT];rintro _ rfl _ rfl _ rfl;refine⟨trivial, ?_⟩;rintro _ rfl _ rfl _ rfl;exact ag
 ·obtain⟨jq,ch⟩:=jh;refine⟨jq,fun x aj=> ?_⟩;obtain⟨lX,df⟩:=ch x aj;refine⟨lX,fun y bo=> ?_⟩;obtain⟨tS,iD⟩:=df y bo;refine⟨tS,fun z bm=> ?_⟩;obtain⟨yq,vT⟩:=iD z bm;refine⟨yq, ?_⟩;rw[vT];rintro _ rfl _ rfl _ rfl;refine⟨trivial, ?_⟩;rintro _ rfl _ rfl _ rfl;exact ag
theorem neg_num (r:Rat):b8 (-r)=b8 r:=by unfold b8;rw[Rat.neg_num,Int.natAbs_neg]
theorem neg_den (r:Rat):b1 (-r)=b1 r:=rfl
theorem QH (r:Rat):ca (-r)=(!ca r&&decide (0<((b8 r).length:Int))):=by
 have h:0<((b8 r).length:Int)↔r≠0:=by
  rw[Ne,<-Qy r];constructor
  ·intro h e;rw[e]at h;simp at h
  ·intro h;have:(b8 r).length≠0:=fun e=>h (aqm.1 e);omega
 unfold ca;rw[Rat.neg_num];have bc:r=0↔r.num=0:=Rat.num_eq_zero.symm
 by_cases ab:r.num<0
 ·simp[ab];omega
 ·by_cases ad:r.num=0
  ·have:¬0<((b8 r).length:Int):=fun b5=>(h.1 b5) (bc.2 ad);rw[arh this];simp[ad]
  ·have:0<((b8 r).length:Int):=h.2 fun e=>ad (bc.1 e);rw[aqN this];simp[ab];omega
theorem aev (s:Bool)(a b:List Int)(K:R->Prop)(h:xn.T [dR s a b] K):QC s a b K:=by
 obtain⟨⟨aR,ah⟩,ag⟩:=h;unfold QC;refine⟨⟨aR.cC,ah.cC⟩, ?_⟩;rw[neg_num,neg_den,QH]at ag;generalize aV s a b=r at*;rintro _ rfl _ rfl _ rfl;refine⟨fun h=>⟨trivial, ?_⟩,fun h=>⟨trivial, ?_⟩⟩
 ·rintro _ rfl _ rfl _ rfl;rw[h,arK]at ag;exact ag
 ·rintro _ rfl _ rfl _ rfl;rw[h,Bool.false_and]at ag;exact ag
theorem aew (s:Bool)(a b:List Int)(t:Bool)(c d:List Int)(K:R->Prop)(h:xo.T [dR s a b,dR t c d] K):QD s a b t c d K:=by
 obtain⟨⟨aR,ah,aC,a_⟩,ag⟩:=h;unfold QD;refine⟨⟨aC,a_⟩, ?_⟩;have a6:=(mn (s:=t) aC a_).neg;rw[Rat.sub_eq_add_neg]at ag;generalize aV t c d=q at*;rintro _ rfl _ rfl _ rfl;refine⟨⟨aR,ah,a6.num,a6.den⟩, ?_⟩;rw[jE];rintro _ rfl _ rfl _ rfl;exact ag
theorem aex (s:Bool)(a b:List Int)(t:Bool)(c d:List Int)(K:R->Prop)(h:xp.T [dR s a b,dR t c d] K):QE s a b t c d K:=by
 obtain⟨⟨aR,ah,aC,a_⟩,ag⟩:=h;unfold QE;have ao:=mn (s:=s) aR ah;have a6:=mn (s:=t) aC a_;refine⟨⟨aR.cC,ah.cC⟩, ?_⟩;generalize aV s a b=r at*;rintro _ rfl _ rfl _ rfl;refine⟨⟨aC.cC,a_.cC⟩, ?_⟩;generalize aV t c d=q at*;rintro _ rfl _ rfl _ rfl;refine⟨⟨ao.num.cC,a6.num.cC⟩, ?_⟩;rintro _ rfl;refine⟨⟨ao.den.cC,a6.den.cC⟩, ?_⟩;rintro _ rfl;refine⟨⟨(qi ao.num a6.num).cC,(qi ao.den a6.den).cC,by rw[eh];exact Nat.mul_ne_zero (rq r) (rq q)⟩, ?_⟩;rw[show(!ca r==ca q)=(ca r !=ca q)from rfl,QG];rintro _ rfl _ rfl _ rfl;refine⟨trivial, ?_⟩;rintro _ rfl _ rfl _ rfl;exact ag
theorem SI (r:Rat):yl r=decide ((((b8 r).length:Nat):Int)=0):=by
 unfold yl
 have h:r=0↔(((b8 r).length:Nat):Int)=0:=by
  rw[<-Qy r];constructor
  ·intro h;rw[h];rfl
  ·intro h;exact aqm.1 (by omega)
 exact arv.2 h
theorem ade (s:Bool)(a b:List Int)(K:R->Prop)(h:xa.T [dR s a b] K):PF s a b K:=by
 obtain⟨⟨aR,ah⟩,ag⟩:=h;unfold PF;refine⟨⟨aR,ah⟩, ?_⟩;generalize aV s a b=r at*;rintro _ rfl _ rfl _ rfl;rw[<-SI];unfold k8 at ag;refine⟨fun h=> ?_,fun h=>⟨fun ab=> ?_,fun ab=> ?_⟩⟩
 ·rw[apz (apJ h)]at ag;exact ag
 ·rw[apy (apO h),apz ((CW r).1 ab)]at ag;exact ag
 ·rw[apy (apO h),apy (fun e=>by rw[(CW r).2 e]at ab;cases ab)]at ag;exact ag
theorem aey (s:Bool)(a b:List Int)(t:Bool)(c d:List Int)(K:R->Prop)(h:xq.T [dR s a b,dR t c d] K):QF s a b t c d K:=by
 obtain⟨⟨aR,ah,aC,a_⟩,ag⟩:=h;unfold QF;refine⟨⟨aR,ah,aC,a_⟩, ?_⟩;have ay:=(mn (s:=s) aR ah).sub (mn (s:=t) aC a_);generalize aV s a b-aV t c d=r at*;rintro _ rfl _ rfl _ rfl;refine⟨⟨ay.num.cC,ay.den.cC⟩, ?_⟩;rw[jE];rintro _ rfl;exact ag
theorem abD (s:Bool)(a b:List Int)(t:Bool)(c d:List Int)(K:R->Prop)(h:sL.T [dR s a b,dR t c d] K):OR s a b t c d K:=by
 obtain⟨aE,ag⟩:=h;unfold OR;refine⟨aE, ?_⟩;rintro _ rfl;have e:decide (k8 (aV s a b-aV t c d)=0)=decide (aV s a b=aV t c d):=arv.2 (by rw[y8];grind);rw[e];exact ag
theorem QI {k:Nat}{a:List Int}(h:bu k a):(dec (val a)).length<=10*k+1:=by
 have:=Rs h.1;have ad:=h.2;unfold dec;split
 ·simp
 ·rw[List.length_reverse];omega
theorem adf {r:Rat}{k:Nat}(h:c1 k r):(dec r.num.natAbs).length<=10*k+1/\(dec r.den).length<=10*k+1:=by
 have ab:=QI h.num;have ad:=QI h.den;rw[wT]at ab;rw[p9]at ad;exact⟨ab,ad⟩
theorem Z4 (s:Bool)(a b:List Int)(K:R->Prop)(h:CN.T [dR s a b] K):Ob s a b K:=by
 obtain⟨⟨aR,ah⟩,ag⟩:=h;unfold Ob;have ao:=mn (s:=s) aR ah;refine⟨⟨aR.cC,ah.cC⟩, ?_⟩;generalize aV s a b=r at*;obtain⟨de,l2⟩:=adf ao;rintro _ rfl _ rfl _ rfl;refine⟨ao.num.cC, ?_⟩;rintro _ rfl;rw[wT,p9];refine⟨fun v=>v=(if ca r then[45]else[])++dec r.num.natAbs,⟨fun h=>⟨by omega,rfl,rfl,by rw[h];rfl⟩,fun h=>⟨rfl,rfl,by rw[h];rfl⟩⟩, ?_⟩;rintro _ rfl;refine⟨trivial, ?_⟩;rintro _ rfl;have a_:decide (b1 r=[1])=decide (r.den=1):=arv.2 (H_ r);rw[a_];unfold TC at ag;refine⟨fun h=>⟨ao.den.cC, ?_⟩,fun h=> ?_⟩
 ·have h:r.den≠1:=by simpa using h
  rintro _ rfl;rw[apy h]at ag;refine⟨by omega, ?_,ag⟩;simp only[ap4,aqj,List.length_nil];have:(if ca r then[45]else[]:List Int).length<=1:=by split<;>simp
  omega
 ·have h:r.den=1:=by simpa using h
  rw[apz h,arY]at ag;exact ag
end aa
end
section
open Go Go.ak
namespace aa
def Oc:Bool->List Int->List Int->(R->Prop)->Prop:=
 fun s a b K=>(bN a/\a.length<=(90000000:Nat)/\bN b/\b.length<=(90000000:Nat))/\∀x,x=aP ((val a).gcd (val b))->(bN a/\a.length<=(90000000:Nat)/\bN x/\x.length<=(90000000:Nat))/\∀a7,(a7=if val x=(0:Nat)then[]else aP (val a/val x))->∀aW,(aW=if val x=(0:Nat)then[]else aP (val a%val x))->∀bn,(bn=if val x=(0:Nat)then(3:Int)else(0:Int))->(bN b/\b.length<=(90000000:Nat)/\bN x/\x.length<=(90000000:Nat))/\∀b9,(b9=if val x=(0:Nat)then[]else aP (val b/val x))->∀cU,(cU=if val x=(0:Nat)then[]else aP (val b%val x))->∀cB,(cB=if val x=(0:Nat)then(3:Int)else(0:Int))->(s=true->K (R.agg [R.d (U.bool (decide ((0:Int)<↑a7.length))),R.d (U.af .u32 a7),R.d (U.af .u32 b9)]))/\(s=false->K (R.agg [R.d (U.bool false),R.d (U.af .u32 a7),R.d (U.af .u32 b9)]))
def PG:Bool->List Int->List Int->(R->Prop)->Prop:=
 fun s a b K=>bF b/\∀x,x=aP (val b)->(decide (↑x.length=(0:Int))=true->K (R.agg [R.d (U.bool false),R.d (U.af .u32 []),R.d (U.af .u32 [1])]))/\(decide (↑x.length=(0:Int))=false->(bu 90000000 a/\bu 90000000 b/\¬val b=0)/\∀x,x=ca (aV s a b)->∀a7,a7=b8 (aV s a b)->∀aW,aW=b1 (aV s a b)->K (R.agg [R.d (U.bool x),R.d (U.af .u32 a7),R.d (U.af .u32 aW)]))
def QJ:Int->(R->Prop)->Prop:=
 fun n K=>(decide ((0:Int)<=n)=true->((-9223372036854775808:Int)<=n/\n<(9223372036854775808:Int))/\∀x,(x=if n<(0:Int)then[]else aP n.toNat)->∀a7,(a7=if n<(0:Int)then(1:Int)else(0:Int))->K (R.agg [R.d (U.bool false),R.d (U.af .u32 x),R.d (U.af .u32 [(1:Int)])]))/\(decide ((0:Int)<=n)=false->((-9223372036854775808:Int)<=ai ((0:Int)-ai (n+(1:Int)))/\ai ((0:Int)-ai (n+(1:Int)))<(9223372036854775808:Int))/\∀x,(x=if ai ((0:Int)-ai (n+(1:Int)))<(0:Int)then[]else aP (ai ((0:Int)-ai (n+(1:Int)))).toNat)->∀a7,(a7=if ai ((0:Int)-ai (n+(1:Int)))<(0:Int)then(1:Int)else(0:Int))->(bN x/\bN [(1:Int)]/\x.length<=(90000000:Nat)/\(1:Nat)<=(90000000:Nat))/\∀aW,aW=aP (val x+(1:Nat))->K (R.agg [R.d (U.bool true),R.d (U.af .u32 aW),R.d (U.af .u32 [(1:Int)])]))
def QK:Int->Int->(R->Prop)->Prop:=
 fun n d K=>(decide (d=0)=true->K (R.tup [R.agg [R.d (U.bool false),R.d (U.af .u32 []),R.d (U.af .u32 [])],R.d (U.int .i64 3)]))/\(decide (d=0)=false->i64 n/\∀x,x=ca (IntCast.intCast n)->∀a7,a7=b8 (IntCast.intCast n)->∀aW,aW=b1 (IntCast.intCast n)->i64 d/\∀bn,bn=ca (IntCast.intCast d)->∀b9,b9=b8 (IntCast.intCast d)->∀cU,cU=b1 (IntCast.intCast d)->(bu 90000000 a7/\bu 90000000 b9/\¬val b9=0)/\∀cB,cB=ca (aV (!x==bn) a7 b9)->∀dc,dc=b8 (aV (!x==bn) a7 b9)->∀dy,dy=b1 (aV (!x==bn) a7 b9)->K (R.tup [R.agg [R.d (U.bool cB),R.d (U.af .u32 dc),R.d (U.af .u32 dy)],R.d (U.int .i64 0)]))
def QL:Bool->List Int->List Int->Bool->List Int->List Int->(R->Prop)->Prop:=
 fun s a b t c d K=>(bu (90000000:Nat) a/\bu (90000000:Nat) b)/\∀x,x=ca (aV s a b)->∀a7,a7=b8 (aV s a b)->∀aW,aW=b1 (aV s a b)->(bu (90000000:Nat) c/\bu (90000000:Nat) d)/\∀bn,bn=ca (aV t c d)->∀b9,b9=b8 (aV t c d)->∀cU,cU=b1 (aV t c d)->(bN a7/\bN cU/\a7.length<=(40000000:Nat)/\cU.length<=(40000000:Nat))/\∀cB,cB=aP (val a7*val cU)->(bN b9/\bN aW/\b9.length<=(40000000:Nat)/\aW.length<=(40000000:Nat))/\∀dc,dc=aP (val b9*val aW)->(bN aW/\bN cU/\aW.length<=(40000000:Nat)/\cU.length<=(40000000:Nat))/\∀dy,dy=aP (val aW*val cU)->((x==bn)=true->(bN cB/\bN dc/\cB.length<=(90000000:Nat)/\dc.length<=(90000000:Nat))/\∀cX,cX=aP (val cB+val dc)->(bu (90000000:Nat) cX/\bu (90000000:Nat) dy/\¬val dy=(0:Nat))/\∀e8,e8=ca (aV x cX dy)->∀fV,fV=b8 (aV x cX dy)->∀gB,gB=b1 (aV x cX dy)->K (R.agg [R.d (U.bool e8),R.d (U.af .u32 fV),R.d (U.af .u32 gB)]))/\((x==bn)=false->(bF cB/\bF dc)/\∀cX,(cX=if val cB<val dc then[]else aP (val cB-val dc))->∀e8,(e8=if val cB<val dc then(1:Int)else(0:Int))->(decide (e8=(0:Int))=true->(bu (90000000:Nat) cX/\bu (90000000:Nat) dy/\¬val dy=(0:Nat))/\∀fV,fV=ca (aV x cX dy)->∀gB,gB=b8 (aV x cX dy)->∀hK,hK=b1 (aV x cX dy)->K (R.agg [R.d (U.bool fV),R.d (U.af .u32 gB),R.d (U.af .u32 hK)]))/\(decide (e8=(0:Int))=false->(bF dc/\bF cB)/\∀x,(x=if val dc<val cB then[]else aP (val dc-val cB))->∀fV,(fV=if val dc<val cB then(1:Int)else(0:Int))->(bu (90000000:Nat) x/\bu (90000000:Nat) dy/\¬val dy=(0:Nat))/\∀gB,gB=ca (aV bn x dy)->∀hK,hK=b8 (aV bn x dy)->∀ib,ib=b1 (aV bn x dy)->K (R.agg [R.d (U.bool gB),R.d (U.af .u32 hK),R.d (U.af .u32 ib)])))
def QM:Bool->List Int->List Int->(R->Prop)->Prop:=
 fun s a b K=>(bu 90000000 a/\bu 90000000 b)/\∀x,x=ca (aV s a b)->∀a7,a7=b8 (aV s a b)->∀aW,aW=b1 (aV s a b)->((!x)=true->K (R.agg [R.d (U.bool (decide ((0:Int)<↑a7.length))),R.d (U.af .u32 a7),R.d (U.af .u32 aW)]))/\((!x)=false->K (R.agg [R.d (U.bool false),R.d (U.af .u32 a7),R.d (U.af .u32 aW)]))
def QN:Bool->List Int->List Int->Bool->List Int->List Int->(R->Prop)->Prop:=
 fun s a b t c d K=>(bu 1000000 c/\bu 1000000 d)/\∀x,x=ca (-aV t c d)->∀a7,a7=b8 (-aV t c d)->∀aW,aW=b1 (-aV t c d)->(bu 1000000 a/\bu 1000000 b/\bu 1000000 a7/\bu 1000000 aW)/\∀bn,bn=ca (aV s a b+aV x a7 aW)->∀b9,b9=b8 (aV s a b+aV x a7 aW)->∀cU,cU=b1 (aV s a b+aV x a7 aW)->K (R.agg [R.d (U.bool bn),R.d (U.af .u32 b9),R.d (U.af .u32 cU)])
def QO:Bool->List Int->List Int->Bool->List Int->List Int->(R->Prop)->Prop:=
 fun s a b t c d K=>(bu 90000000 a/\bu 90000000 b)/\∀x,x=ca (aV s a b)->∀a7,a7=b8 (aV s a b)->∀aW,aW=b1 (aV s a b)->(bu 90000000 c/\bu 90000000 d)/\∀bn,bn=ca (aV t c d)->∀b9,b9=b8 (aV t c d)->∀cU,cU=b1 (aV t c d)->(bN a7/\bN b9/\a7.length<=40000000/\b9.length<=40000000)/\∀cB,cB=aP (val a7*val b9)->(bN aW/\bN cU/\aW.length<=40000000/\cU.length<=40000000)/\∀dc,dc=aP (val aW*val cU)->(bu 90000000 cB/\bu 90000000 dc/\¬val dc=0)/\∀dy,dy=ca (aV (!x==bn) cB dc)->∀cX,cX=b8 (aV (!x==bn) cB dc)->∀e8,e8=b1 (aV (!x==bn) cB dc)->K (R.agg [R.d (U.bool dy),R.d (U.af .u32 cX),R.d (U.af .u32 e8)])
def PH:Bool->List Int->List Int->(R->Prop)->Prop:=
 fun s a b K=>(bu 90000000 a/\bu 90000000 b)/\∀x,x=ca (aV s a b)->∀a7,a7=b8 (aV s a b)->∀aW,aW=b1 (aV s a b)->(decide (↑a7.length=(0:Int))=true->K (R.d (U.int .i64 0)))/\(decide (↑a7.length=(0:Int))=false->(x=true->K (R.d (U.int .i64 (-1))))/\(x=false->K (R.d (U.int .i64 1))))
def QP:Bool->List Int->List Int->Bool->List Int->List Int->(R->Prop)->Prop:=
 fun s a b t c d K=>(bu 1000000 a/\bu 1000000 b/\bu 1000000 c/\bu 1000000 d)/\∀x,x=ca (aV s a b-aV t c d)->∀a7,a7=b8 (aV s a b-aV t c d)->∀aW,aW=b1 (aV s a b-aV t c d)->(bu 90000000 a7/\bu 90000000 aW)/\∀bn,bn=k8 (aV x a7 aW)->K (R.d (U.int .i64 bn))
def OS:Bool->List Int->List Int->Bool->List Int->List Int->(R->Prop)->Prop:=
 fun s a b t c d K=>(bu 1000000 a/\bu 1000000 b/\bu 1000000 c/\bu 1000000 d)/\∀x,x=k8 (aV s a b-aV t c d)->K (R.d (U.bool (decide (x=0))))
def PI:Bool->List Int->List Int->Bool->List Int->List Int->(R->Prop)->Prop:=
 fun s a b t c d K=>((s==t)=true->(a.length<=1000000000/\c.length<=1000000000)/\∀x,x=decide (a=c)->(x=true->(b.length<=1000000000/\d.length<=1000000000)/\∀x,x=decide (b=d)->K (R.d (U.bool x)))/\(x=false->K (R.d (U.bool false))))/\((s==t)=false->K (R.d (U.bool false)))
end aa
end
section
open Go Go.ak
namespace aa
theorem Yp (n:Nat):decide (0<((aP n).length:Int))=decide (n≠0):=by
 refine arv.2 ?_;rw[Ne,<-ra];constructor
 ·intro h e;rw[e]at h;simp at h
 ·intro h;have:(aP n).length≠0:=fun e=>h (aqm.1 e);omega
theorem Z5 {a b:Nat}(ah:b≠0):decide (a/Nat.gcd a b≠0)=decide (a≠0):=by
 refine arv.2 ?_;have bh:0<Nat.gcd a b:=Nat.gcd_pos_of_pos_right _ (by omega);constructor
 ·rintro h rfl;simp at h
 ·intro h e;have:=Nat.div_mul_cancel (Nat.gcd_dvd_left a b);rw[e]at this;omega
theorem adg {k n:Nat}{b:List Int}(ah:bu k b)(h:n<=val b):bu k (aP n):=uC (aq_ h ah.val)
theorem Z6 (s:Bool)(a b:List Int)(K:R->Prop)(h:Dl.T [.d (.bool s), .d (.af .u32 a), .d (.af .u32 b)] K):Oc s a b K:=by
 obtain⟨⟨aR,ah,oF⟩,ag⟩:=h;unfold Oc;refine⟨⟨aR.1,aR.2,ah.1,ah.2⟩, ?_⟩;have bh:Nat.gcd (val a) (val b)≠0:=fun e=>oF (Nat.gcd_eq_zero_iff.1 e).2;rintro _ rfl;have sj:bu 90000000 (aP (Nat.gcd (val a) (val b))):=adg ah (gcd_le_right oF);refine⟨⟨aR.1,aR.2,sj.1,sj.2⟩, ?_⟩;simp only[eh,apy bh];rintro _ rfl _ rfl _ rfl;refine⟨⟨ah.1,ah.2,sj.1,sj.2⟩, ?_⟩;rintro _ rfl _ rfl _ rfl;rw[SE oF,SF oF,SG oF]at ag;refine⟨fun h=> ?_,fun h=> ?_⟩
 ·rw[Yp,Z5 oF];rw[h,arK]at ag;exact ag
 ·rw[h,Bool.false_and]at ag;exact ag
theorem adh (s:Bool)(a b:List Int)(K:R->Prop)(h:CO.T [dR s a b] K):PG s a b K:=by
 obtain⟨⟨aR,ah⟩,ag⟩:=h;unfold PG;refine⟨ah.cC, ?_⟩;rintro _ rfl;refine⟨fun h=> ?_,fun h=>⟨⟨aR,ah,fun e=> ?_⟩, ?_⟩⟩
 ·have bc:=ra.1 (Fv.1 h);rw[RM bc,Te,Tf,Tg]at ag;exact ag
 ·rw[Fv.2 (ra.2 e)]at h;cases h
 ·rintro _ rfl _ rfl _ rfl;exact ag
theorem HO (n:Int):ca (n:Rat)=decide (n<0)/\b8 (n:Rat)=aP n.natAbs/\b1 (n:Rat)=[1]:=by
 refine⟨rfl,rfl, ?_⟩;exact p1
theorem aez (n:Int)(K:R->Prop)(h:ta.T [.d (.int .i64 n)] K):QJ n K:=by
 obtain⟨aB,ag⟩:=h;obtain⟨az,aJ,bX⟩:=HO n;rw[az,aJ,bX]at ag;unfold QJ ai;unfold i64 at aB;refine⟨fun h=>⟨aB, ?_⟩,fun h=> ?_⟩
 ·have h:=apJ h;rw[apy (by omega),apy (by omega),show n.toNat=n.natAbs by omega];rintro _ rfl _ rfl;rw[arh (by omega)]at ag;exact ag
 ·have h:=apO h;have w1:IntKind.wrap .i64 (n+1)=n+1:=bQ (by omega);rw[w1];have dd:IntKind.wrap .i64 (0-(n+1))=0-(n+1):=bQ (by omega);rw[dd,apy (by omega),apy (by omega)];refine⟨by omega, ?_⟩;rintro _ rfl _ rfl;have ay:bu 2 (aP (0-(n+1)).toNat):=uC (by omega);refine⟨⟨ay.1,IA.1,apS ay.2 (by decide),by decide⟩, ?_⟩;rw[eh,show(0-(n+1)).toNat+1=n.natAbs by omega];rintro _ rfl;rw[aqN (by omega)]at ag;exact ag
theorem SJ {n:Int}(h:i64 n):bu 2 (aP n.natAbs):=by
 unfold i64 at h;exact uC (by omega)
theorem aeA (n d:Int)(K:R->Prop)(h:Ex.T [.d (.int .i64 n), .d (.int .i64 d)] K):QK n d K:=by
 obtain⟨⟨aB,a_⟩,ag⟩:=h;unfold QK;unfold kW kX kY at ag;refine⟨fun h=> ?_,fun h=>⟨aB, ?_⟩⟩
 ·obtain rfl:=apJ h;exact ag
 ·have bc:=apO h;obtain⟨a1,a2,a3⟩:=HO n;obtain⟨ch,df,iD⟩:=HO d
  have e:aV (decide (n<0) !=decide (d<0)) (aP n.natAbs) (aP d.natAbs)=Rat.divInt n d:=by
   unfold aV;rw[eh,eh,abB n d bc]
  rintro _ rfl _ rfl _ rfl;refine⟨a_, ?_⟩;rintro _ rfl _ rfl _ rfl;have s1:=SJ aB;have s2:=SJ a_;have bm:val (aP d.natAbs)≠0:=by rw[eh];omega
  have goal:∀(x:Bool),x=ca (Rat.divInt n d)->∀y,y=b8 (Rat.divInt n d)->∀z,z=b1 (Rat.divInt n d)->K (.tup [.agg [.d (.bool x), .d (.af .u32 y), .d (.af .u32 z)], .d (.int .i64 0)]):=by
   rintro _ rfl _ rfl _ rfl;rw[h,apy bc]at ag;exact ag
  rw[<-e]at goal;exact⟨⟨s1.mono (by decide),s2.mono (by decide),bm⟩,goal⟩
theorem aeB (s:Bool)(a b:List Int)(K:R->Prop)(h:xn.T [dR s a b] K):QM s a b K:=by
 obtain⟨⟨aR,ah⟩,ag⟩:=h;unfold QM;refine⟨⟨aR.mono (by decide),ah.mono (by decide)⟩, ?_⟩;rw[neg_num,neg_den,QH]at ag;generalize aV s a b=r at*;rintro _ rfl _ rfl _ rfl;refine⟨fun h=> ?_,fun h=> ?_⟩
 ·rw[h,arK]at ag;exact ag
 ·rw[h,Bool.false_and]at ag;exact ag
theorem aeC (s:Bool)(a b:List Int)(t:Bool)(c d:List Int)(K:R->Prop)(h:xm.T [dR s a b,dR t c d] K):QL s a b t c d K:=by
 obtain⟨⟨aR,ah,aC,a_⟩,ag⟩:=h;unfold QL;have ao:=mn (s:=s) aR ah;have a6:=mn (s:=t) aC a_;refine⟨⟨aR.mono (by decide),ah.mono (by decide)⟩, ?_⟩;generalize aV s a b=r at*;rintro _ rfl _ rfl _ rfl;refine⟨⟨aC.mono (by decide),a_.mono (by decide)⟩, ?_⟩;generalize aV t c d=q at*;rintro _ rfl _ rfl _ rfl;have fX:=qi ao.num a6.den;have gg:=qi a6.num ao.den;have h6:=qi ao.den a6.den
 have x7:∀{x y:List Int},bu 1000000 x->bu 1000000 y->bN x/\bN y/\x.length<=40000000/\y.length<=40000000:=fun aj bo=>⟨aj.1,bo.1,apS aj.2 (by decide),apS bo.2 (by decide)⟩
 have gd:=Ia r q
 have d0:¬val (aP (val (b1 r)*val (b1 q)))=0:=by
  rw[eh];exact Nat.mul_ne_zero (rq r) (rq q)
 refine⟨x7 ao.num a6.den, ?_⟩;rintro _ rfl;refine⟨x7 a6.num ao.den, ?_⟩;rintro _ rfl;refine⟨x7 ao.den a6.den, ?_⟩;rintro _ rfl;have KN:=fX.val;have KO:=gg.val;rw[eh]at KN KO
 have km:∀(g:Bool) (x:List Int),aV g x (aP (val (b1 r)*val (b1 q)))=r+q->bu 90000000 x->(bu 90000000 x/\bu 90000000 (aP (val (b1 r)*val (b1 q)))/\¬val (aP (val (b1 r)*val (b1 q)))=0)/\
  ∀y,y=ca (aV g x (aP (val (b1 r)*val (b1 q))))->∀z,z=b8 (aV g x (aP (val (b1 r)*val (b1 q))))->∀w,w=b1 (aV g x (aP (val (b1 r)*val (b1 q))))->K (dR y z w):=by
  intro g x e aj;refine⟨⟨aj,h6.mono (by decide),d0⟩, ?_⟩;rw[e];rintro _ rfl _ rfl _ rfl;exact ag
 have vg:∀{k x y:Nat},k<=90000000->x<4294967296^k->bu 90000000 (aP (x-y)):=fun ag aj=>(uC (aq_ (Nat.sub_le _ _) aj)).mono ag
 refine⟨fun h=>⟨⟨fX.1,gg.1,apS fX.2 (by decide),apS gg.2 (by decide)⟩, ?_⟩,fun h=>⟨⟨fX.cC,gg.cC⟩, ?_⟩⟩
 ·have h:ca r=ca q:=by simpa using h
  rintro _ rfl;rw[eh (val (b8 r)*_),eh (val (b8 q)*_)];refine km _ _ ?_ ((uC (SH KN KO)).mono (by decide));rw[<-gd];unfold aV;rw[eh,eh,<-h,SA]
 ·have h:ca r≠ca q:=by simpa using h
  rw[eh (val (b8 r)*_),eh (val (b8 q)*_)];rintro _ rfl _ rfl;refine⟨fun ad=> ?_,fun ad=>⟨⟨gg.cC,fX.cC⟩, ?_⟩⟩
  ·have bL:¬val (b8 r)*val (b1 q)<val (b8 q)*val (b1 r):=by
    intro bL;rw[apz bL]at ad;cases ad
   rw[apy bL];refine km _ _ ?_ (vg (by decide) KN);rw[<-gd];unfold aV;rw[eh,eh,Cy h (by omega)]
  ·have bL:val (b8 r)*val (b1 q)<val (b8 q)*val (b1 r):=by
    false_or_by_contra
    rename_i bL;rw[apy bL]at ad;cases ad
   rw[apy (by omega),apy (by omega)];rintro _ rfl _ rfl;refine km _ _ ?_ (vg (by decide) KO);rw[<-gd];unfold aV;rw[eh,eh,Int.add_comm (dO (ca r) _),Cy (aql h) (by omega)]
theorem aeD (s:Bool)(a b:List Int)(t:Bool)(c d:List Int)(K:R->Prop)(h:xo.T [dR s a b,dR t c d] K):QN s a b t c d K:=by
 obtain⟨⟨aR,ah,aC,a_⟩,ag⟩:=h;unfold QN;refine⟨⟨aC,a_⟩, ?_⟩;have a6:=(mn (s:=t) aC a_).neg;rw[Rat.sub_eq_add_neg]at ag;generalize aV t c d=q at*;rintro _ rfl _ rfl _ rfl;refine⟨⟨aR,ah,a6.num,a6.den⟩, ?_⟩;rw[jE];rintro _ rfl _ rfl _ rfl;exact ag
theorem aeE (s:Bool)(a b:List Int)(t:Bool)(c d:List Int)(K:R->Prop)(h:xp.T [dR s a b,dR t c d] K):QO s a b t c d K:=by
 obtain⟨⟨aR,ah,aC,a_⟩,ag⟩:=h;unfold QO;have ao:=mn (s:=s) aR ah;have a6:=mn (s:=t) aC a_;refine⟨⟨aR.mono (by decide),ah.mono (by decide)⟩, ?_⟩;generalize aV s a b=r at*;rintro _ rfl _ rfl _ rfl;refine⟨⟨aC.mono (by decide),a_.mono (by decide)⟩, ?_⟩;generalize aV t c d=q at*;rintro _ rfl _ rfl _ rfl
 have x7:∀{x y:List Int},bu 1000000 x->bu 1000000 y->bN x/\bN y/\x.length<=40000000/\y.length<=40000000:=fun aj bo=>⟨aj.1,bo.1,apS aj.2 (by decide),apS bo.2 (by decide)⟩
 refine⟨x7 ao.num a6.num, ?_⟩;rintro _ rfl;refine⟨x7 ao.den a6.den, ?_⟩;rintro _ rfl;refine⟨⟨(qi ao.num a6.num).mono (by decide),(qi ao.den a6.den).mono (by decide),by rw[eh];exact Nat.mul_ne_zero (rq r) (rq q)⟩, ?_⟩;rw[show(!ca r==ca q)=(ca r !=ca q)from rfl,QG];rintro _ rfl _ rfl _ rfl;exact ag
theorem adi (s:Bool)(a b:List Int)(K:R->Prop)(h:DZ.T [dR s a b] K):PH s a b K:=by
 obtain⟨⟨aR,ah⟩,ag⟩:=h;unfold PH;refine⟨⟨aR,ah⟩, ?_⟩;generalize aV s a b=r at*;rintro _ rfl _ rfl _ rfl;rw[<-SI];unfold k8 at ag;refine⟨fun h=> ?_,fun h=>⟨fun ab=> ?_,fun ab=> ?_⟩⟩
 ·rw[apz (apJ h)]at ag;exact ag
 ·rw[apy (apO h),apz ((CW r).1 ab)]at ag;exact ag
 ·rw[apy (apO h),apy (fun e=>by rw[(CW r).2 e]at ab;cases ab)]at ag;exact ag
theorem aeF (s:Bool)(a b:List Int)(t:Bool)(c d:List Int)(K:R->Prop)(h:xq.T [dR s a b,dR t c d] K):QP s a b t c d K:=by
 obtain⟨⟨aR,ah,aC,a_⟩,ag⟩:=h;unfold QP;refine⟨⟨aR,ah,aC,a_⟩, ?_⟩;have ay:=(mn (s:=s) aR ah).sub (mn (s:=t) aC a_);generalize aV s a b-aV t c d=r at*;rintro _ rfl _ rfl _ rfl;refine⟨⟨ay.num.mono (by decide),ay.den.mono (by decide)⟩, ?_⟩;rw[jE];rintro _ rfl;exact ag
theorem abE (s:Bool)(a b:List Int)(t:Bool)(c d:List Int)(K:R->Prop)(h:sL.T [dR s a b,dR t c d] K):OS s a b t c d K:=by
 obtain⟨aE,ag⟩:=h;unfold OS;refine⟨aE, ?_⟩;rintro _ rfl;have e:decide (k8 (aV s a b-aV t c d)=0)=decide (aV s a b=aV t c d):=arv.2 (by rw[y8];grind);rw[e];exact ag
theorem adj (s:Bool)(a b:List Int)(t:Bool)(c d:List Int)(K:R->Prop)(h:DY.T [dR s a b,dR t c d] K):PI s a b t c d K:=by
 obtain⟨⟨aR,ah,aC,a_⟩,ag⟩:=h;unfold PI;refine⟨fun h=>⟨⟨aR,aC⟩, ?_⟩,fun h=> ?_⟩
 ·obtain rfl:s=t:=by simpa using h
  rintro _ rfl;refine⟨fun ad=>⟨⟨ah,a_⟩, ?_⟩,fun ad=> ?_⟩
  ·rintro _ rfl;obtain rfl:=apJ ad;have e:decide (s=s/\a=a/\b=d)=decide (b=d):=arv.2 (by simp);rw[e]at ag;exact ag
  ·have ad:=apO ad;have e:decide (s=s/\a=c/\b=d)=false:=arh fun b5=>ad b5.2.1;rw[e]at ag;exact ag
 ·have h:s≠t:=by simpa using h
  have e:decide (s=t/\a=c/\b=d)=false:=arh fun b5=>h b5.1;rw[e]at ag;exact ag
end aa
end
section
open Go Go.ak
namespace aa
def Mv:List Int->Int->Int->Int->Int->(ae->R->Prop)->Prop:=
 fun l a s x y K=>(ds l a/\i64 (ai (ai (y-x)+1)))/\K (ae.cells [R.d (U.af .i64 l),R.d (U.int .i64 (c6 l a (ai (ai (y-x)+1)))),R.d (U.int .i64 s)]) (R.d (U.int .i64 (ai (x+fr l a (ai (ai (y-x)+1))))))
def MI:List Int->Int->Int->(ae->R->Prop)->Prop:=
 fun l a s K=>(ds l a/\(-1000000000:Int)<=(-6:Int)/\(-6:Int)<=(6:Int)/\(6:Int)<=(1000000000:Int))/\∀x,x=l->∀a7,a7=c6 l a (13:Int)->∀aW,aW=s->∀bn,bn=kO l a (-6:Int) (6:Int)->(ds x a7/\(-1000000000:Int)<=(1:Int)/\(1:Int)<=(5:Int)/\(5:Int)<=(1000000000:Int))/\∀b9,b9=x->∀cU,cU=c6 x a7 (5:Int)->∀cB,cB=aW->∀dc,dc=kO x a7 (1:Int) (5:Int)->(i64 bn/\i64 dc)/\∀x,x=kW (!decide (dc=(0:Int))) (Rat.divInt bn dc)->∀dy,dy=kX (!decide (dc=(0:Int))) (Rat.divInt bn dc)->∀cX,cX=kY (!decide (dc=(0:Int))) (Rat.divInt bn dc)->∀e8,(e8=if dc=(0:Int)then(3:Int)else(0:Int))->K (ae.cells [R.d (U.af .i64 b9),R.d (U.int .i64 cU),R.d (U.int .i64 cB)]) (R.agg [R.d (U.bool x),R.d (U.af .u32 dy),R.d (U.af .u32 cX)])
def Mw:List Int->Int->Int->(ae->R->Prop)->Prop:=
 fun l a s K=>(ds l a/\i64 (4:Int))/\∀x,x=l->∀a7,a7=c6 l a (4:Int)->∀aW,aW=s->∀bn,bn=fr l a (4:Int)->(decide (bn=(0:Int))=true->ds x a7/\∀b9,b9=x->∀cU,cU=jM x a7->∀cB,cB=aW->∀dc,dc=ca (gJ x a7)->∀dy,dy=b8 (gJ x a7)->∀cX,cX=b1 (gJ x a7)->K (ae.cells [R.d (U.af .i64 b9),R.d (U.int .i64 cU),R.d (U.int .i64 cB)]) (R.agg [R.d (U.bool dc),R.d (U.af .u32 dy),R.d (U.af .u32 cX)]))/\(decide (bn=(0:Int))=false->(decide (bn=(1:Int))=true->(ds x a7/\i64 (2:Int))/\∀b9,b9=x->∀cU,cU=c6 x a7 (2:Int)->∀cB,cB=aW->∀dc,dc=fr x a7 (2:Int)->ds b9 cU/\∀x,x=b9->∀dy,dy=(lF b9 cU).snd->∀cX,cX=cB->∀e8,e8=(lF b9 cU).fst->ds x dy/\∀fV,fV=x->∀gB,gB=(lF x dy).snd->∀hK,hK=cX->∀ib,ib=(lF x dy).fst->K (ae.cells [R.d (U.af .i64 fV),R.d (U.int .i64 gB),R.d (U.int .i64 hK)]) (R.agg [R.d (U.bool (decide (dc=(0:Int)))),R.d (U.af .u32 e8),R.d (U.af .u32 ib)]))/\(decide (bn=(1:Int))=false->(ds x a7/\(-1000000000:Int)<=(1:Int)/\(1:Int)<=(6:Int)/\(6:Int)<=(1000000000:Int))/\∀b9,b9=x->∀cU,cU=c6 x a7 (6:Int)->∀cB,cB=aW->∀dc,dc=kO x a7 (1:Int) (6:Int)->(ds b9 cU/\i64 (2:Int))/\∀x,x=b9->∀dy,dy=c6 b9 cU (2:Int)->∀cX,cX=cB->∀e8,e8=fr b9 cU (2:Int)->(ds x dy/\i64 (9:Int))/\∀fV,fV=x->∀gB,gB=c6 x dy (9:Int)->∀hK,hK=cX->∀ib,ib=fr x dy (9:Int)->(ds fV gB/\i64 (6:Int))/\∀x,x=fV->∀kn,kn=c6 fV gB (6:Int)->∀mv,mv=hK->∀rN,rN=fr fV gB (6:Int)->K (ae.cells [R.d (U.af .i64 x),R.d (U.int .i64 kn),R.d (U.int .i64 mv)]) (R.agg [R.d (U.bool (decide (e8=(0:Int)))),R.d (U.af .u32 [bY (bY dc*bY ib),(0:Int)]),R.d (U.af .u32 [bY (bY dc*bY rN)])])))
end aa
end
section
open Go Go.ak
namespace aa
def PJ:List Int->(ae->Prop)->Prop:=
 fun l K=>(decide ((1000:Int)<↑l.length)=true->(0:Int)<=(1000:Int)/\(1000:Int)<=↑l.length/\K (ae.cells [R.d (U.af .i64 (List.take (1000:Nat) l)),R.d (U.int .i64 (0:Int)),R.d (U.int .i64 (0:Int))]))/\(decide ((1000:Int)<↑l.length)=false->K (ae.cells [R.d (U.af .i64 l),R.d (U.int .i64 (0:Int)),R.d (U.int .i64 (0:Int))]))
def MJ:List Int->Int->Int->(ae->R->Prop)->Prop:=
 fun l a s K=>(decide (↑l.length<=a)=true->K (ae.cells [R.d (U.af .i64 l),R.d (U.int .i64 a),R.d (U.int .i64 s)]) (R.d (U.int .i64 0)))/\(decide (↑l.length<=a)=false->0<=ai (ai (a+1)-1)/\ai (ai (a+1)-1)<↑l.length/\K (ae.cells [R.d (U.af .i64 l),R.d (U.int .i64 (ai (a+1))),R.d (U.int .i64 s)]) (R.d (U.int .i64 (l.getD (ai (ai (a+1)-1)).toNat 0))))
def MX:List Int->Int->Int->Int->(ae->R->Prop)->Prop:=
 fun l a s n K=>(decide (n<1)=true->K (ae.cells [R.d (U.af .i64 l),R.d (U.int .i64 a),R.d (U.int .i64 s)]) (R.d (U.int .i64 0)))/\(decide (n<1)=false->ds l a/\¬n=0/\(decide ((qt l a).tmod n<0)=true->K (ae.cells [R.d (U.af .i64 l),R.d (U.int .i64 (vi l a)),R.d (U.int .i64 s)]) (R.d (U.int .i64 (ai ((qt l a).tmod n+n)))))/\(decide ((qt l a).tmod n<0)=false->K (ae.cells [R.d (U.af .i64 l),R.d (U.int .i64 (vi l a)),R.d (U.int .i64 s)]) (R.d (U.int .i64 ((qt l a).tmod n)))))
def MD:List Int->Int->Int->List Int->(ae->R->Prop)->Prop:=
 fun l a s m K=>(ds l a/\i64 ↑m.length)/\0<=fr l a ↑m.length/\fr l a ↑m.length<↑m.length/\K (ae.cells [R.d (U.af .i64 l),R.d (U.int .i64 (c6 l a ↑m.length)),R.d (U.int .i64 s)]) (R.d (U.int .i64 (m.getD (fr l a ↑m.length).toNat 0)))
def Mx:List Int->Int->Int->(ae->R->Prop)->Prop:=
 fun l a s K=>(ds l a/\i64 5)/\∃(aQ:Int->List Int->Int->Int->List Int->Prop),∃(m:Int->List Int->Int->Int->List Int->Nat),aQ (fr l a 5) l (c6 l a 5) s []/\∀(v4:Int) (l:List Int) (a s:Int) (bD:List Int),aQ v4 l a s bD->(decide (0<v4)=true->(ds l a/\0<12/\12<=1000)/\((bD.length:Int)+↑[bY (m3 l a [0,1,2,3,10,97,65536,2147483648,4294967295,4294967291,123456789,4000000007])].length)*4<=70368744177664/\aQ (ai (v4-1)) l (c6 l a 12) s (bD++[bY (m3 l a [0,1,2,3,10,97,65536,2147483648,4294967295,4294967291,123456789,4000000007])])/\m (ai (v4-1)) l (c6 l a 12) s (bD++[bY (m3 l a [0,1,2,3,10,97,65536,2147483648,4294967295,4294967291,123456789,4000000007])])<m v4 l a s bD)/\(decide (0<v4)=false->K (ae.cells [R.d (U.af .i64 l),R.d (U.int .i64 a),R.d (U.int .i64 s)]) (R.d (U.af .u32 bD)))
end aa
end
section
open Go Go.ak
theorem aa.abF {args:List R}{K:ae->Prop}(bb:aa.DW.T args K):∃l,args=[.d (.af .i64 l)]:=by unfold aa.DW.T m2 at bb;grind [Go.ak.ct]
theorem aa.abG {a0:R}{b0:ae}{args:List R}{K:ae->R->Prop}(bb:aa.DX.T a0 b0 args K):∃l a s,a0= .ptr 0 0/\b0= .cells [.d (.af .i64 l), .d (.int .i64 a), .d (.int .i64 s)]/\args=[]:=by unfold aa.DX.T e7 at bb;grind [Go.ak.ct]
theorem aa.aeG {a0:R}{b0:ae}{args:List R}{K:ae->R->Prop}(bb:aa.Fc.T a0 b0 args K):∃l a s n,a0= .ptr 0 0/\b0= .cells [.d (.af .i64 l), .d (.int .i64 a), .d (.int .i64 s)]/\args=[.d (.int .i64 n)]:=by unfold aa.Fc.T e7 at bb;grind [Go.ak.ct]
theorem aa.Z7 {a0:R}{b0:ae}{args:List R}{K:ae->R->Prop}(bb:aa.Di.T a0 b0 args K):∃l a s m,a0= .ptr 0 0/\b0= .cells [.d (.af .i64 l), .d (.int .i64 a), .d (.int .i64 s)]/\args=[.d (.af .i64 m)]:=by unfold aa.Di.T e7 at bb;grind [Go.ak.ct]
theorem aa.Y1 {a0:R}{b0:ae}{args:List R}{K:ae->R->Prop}(bb:aa.CL.T a0 b0 args K):∃l a s,a0= .ptr 0 0/\b0= .cells [.d (.af .i64 l), .d (.int .i64 a), .d (.int .i64 s)]/\args=[]:=by unfold aa.CL.T e7 at bb;grind [Go.ak.ct]
end
section
open Go Go.ak
namespace aa
theorem ds.getD {l:List Int}{a:Int}(h:ds l a)(n:Nat):i64 (l.getD n 0):=by
 rw[apA]
 cases e:l[n]? with
 |none=>simp[i64]
 |some x=>exact h.2.2 x (aq4 e)
theorem ds.raw {l:List Int}{a:Int}(h:ds l a):ds l (vi l a)/\i64 (qt l a):=by
 refine⟨⟨?_,h.2⟩, ?_⟩
 ·have:=h.1;unfold vi;split<;>omega
 ·unfold qt;split
  ·simp[i64]
  ·exact h.getD _
theorem ds.num {l:List Int}{a:Int}(h:ds l a)(n:Int):ds l (c6 l a n)/\0<=fr l a n/\(1<=n->fr l a n<n)/\(n<1->fr l a n=0):=by
 unfold c6 fr;split
 ·exact⟨h,by omega,by omega,by omega⟩
 ·exact⟨h.raw.1,Int.emod_nonneg _ (by omega),fun _=>Int.emod_lt_of_pos _ (by omega),by omega⟩
theorem adk (l:List Int)(K:ae->Prop)(h:DW.T [.d (.af .i64 l)] K):PJ l K:=by
 obtain⟨_,ag⟩:=h;unfold PJ;refine⟨fun h=> ?_,fun h=> ?_⟩
 ·simp only[apE]at h;exact⟨by omega,by omega,ag⟩
 ·simp only[apD]at h;rw[aro (by omega)]at ag;exact ag
theorem W2 (l:List Int)(a s:Int)(K:ae->R->Prop)(h:DX.T (.ptr 0 0) (st l a s) [] K):MJ l a s K:=by
 obtain⟨aF,ag⟩:=h;unfold MJ ai;unfold vi qt at ag;have bc:=aF.1;have ab:=aF.2.1;refine⟨fun h=> ?_,fun h=> ?_⟩
 ·simp only[apE]at h;rw[apz h,apz h]at ag;exact ag
 ·simp only[apD]at h;rw[apy h,apy h]at ag;rw[bQ (x:=a+1) (by omega),bQ (by omega)];refine⟨by omega,by omega, ?_⟩;rw[Int.add_sub_cancel];exact ag
theorem adl {x n:Int}(h:1<=n):(x.tmod n<0->x.tmod n+n=x%n)/\(¬x.tmod n<0->x.tmod n=x%n)/\-n<x.tmod n/\x.tmod n<n:=by
 have ab:-n<x.tmod n:=by have:=Int.lt_tmod_of_pos x (show 0<n by omega);omega
 have ad:x.tmod n<n:=Int.tmod_lt_of_pos x (by omega);have aA:(x.tmod n)%n=x%n:=by rw[Int.tmod_def,Int.sub_mul_emod_self_left]
 refine⟨fun h=> ?_,fun h=> ?_,ab,ad⟩
 ·rw[<-aA,<-Int.add_emod_right];exact(arX (by omega) (by omega)).symm
 ·rw[<-aA];exact(arX (by omega) (by omega)).symm
theorem XJ (l:List Int)(a s n:Int)(K:ae->R->Prop)(h:Fc.T (.ptr 0 0) (st l a s) [.d (.int .i64 n)] K):MX l a s n K:=by
 obtain⟨⟨aF,aB⟩,ag⟩:=h;unfold MX ai;unfold c6 fr at ag;refine⟨fun h=> ?_,fun h=> ?_⟩
 ·simp only[apE]at h;rw[apz h,apz h]at ag;exact ag
 ·simp only[apD]at h;rw[apy h,apy h]at ag;obtain⟨t1,t2,t3,t4⟩:=adl (x:=qt l a) (n:=n) (by omega);unfold i64 at aB;refine⟨aF,by omega,fun h=> ?_,fun h=> ?_⟩
  ·simp only[apE]at h;rw[bQ (by omega),t1 h];exact ag
  ·simp only[apD]at h;rw[t2 h];exact ag
theorem WY (l:List Int)(a s:Int)(m:List Int)(K:ae->R->Prop)(h:Di.T (.ptr 0 0) (st l a s) [.d (.af .i64 m)] K):MD l a s m K:=by
 obtain⟨⟨aF,hm,r4⟩,ag⟩:=h;unfold MD;obtain⟨_,ab,ad,_⟩:=aF.num (m.length:Int);exact⟨⟨aF,by unfold i64;omega⟩,ab,ad (by omega),ag⟩
theorem Z8 (n:Nat):0<=q7.getD n 0/\q7.getD n 0<4294967296:=by
 have:∀x∈q7,0<=x/\x<4294967296:=by decide
 rw[apA]
 cases e:q7[n]? with
 |none=>simp
 |some x=>exact this x (aq4 e)
theorem QQ (l:List Int)(a:Int):0<=m3 l a q7/\m3 l a q7<4294967296:=Z8 _
theorem WM (l:List Int)(a s:Int)(K:ae->R->Prop)(h:CL.T (.ptr 0 0) (st l a s) [] K):Mx l a s K:=by
 obtain⟨aF,ag⟩:=h;unfold Mx ai bY;obtain⟨im,v1,v2,_⟩:=aF.num 5;have v2:=v2 (by decide)
 refine⟨⟨aF,by unfold i64;decide⟩,fun i cm cf iq o=>cm=l/\iq=s/\0<=i/\i<=4/\ds l cf/\(o.length:Int)+i<=4/\rn l i.toNat cf o=lF l a,fun i _ _ _ _=>i.toNat,
  ⟨rfl,rfl,v1,by omega,im,by simp;omega,rfl⟩, ?_⟩
 rintro i cm cf iq o ⟨rfl,rfl,i0,i4,hM,ax,oD⟩;refine⟨fun h=> ?_,fun h=> ?_⟩
 ·simp only[apE]at h;obtain⟨akK,_,_,_⟩:=hM.num 12;rw[bQ (by omega)];refine⟨⟨hM,by decide,by decide⟩,by simp;omega,⟨rfl,rfl,by omega,by omega,akK,by show((o++[_]).length:Int)+_<=4;simp;omega, ?_⟩,by show(i-1).toNat<i.toNat;omega⟩;rw[<-oD]
  obtain⟨n,aB⟩:∃n:Nat,i.toNat=n+1:=⟨i.toNat-1,by omega⟩
  rw[show(i-1).toNat=n by omega,aB];show rn cm n _ (o++[IntKind.wrap .u32 (m3 cm cf q7)])=rn cm n _ (o++[_]);rw[ia (QQ cm cf)]
 ·simp only[apD]at h;rw[show i.toNat=0 by omega]at oD;rw[<-oD]at ag;exact ag
theorem OT {l:List Int}:∀(n:Nat) (a:Int) (o:List Int),ds l a->bN o->ds l (rn l n a o).2/\bN (rn l n a o).1/\(rn l n a o).1.length=o.length+n
 |0,a,o,h,aF=>⟨h,aF,rfl⟩
 |n+1,a,o,h,aF=>by
  have:=OT n (c6 l a 12) (o++[m3 l a q7]) (h.num 12).1 (aF.append (.mk (QQ l a) .nil));refine⟨this.1,this.2.1, ?_⟩;have aA:=this.2.2;rw[ap4,aqX]at aA;show(rn l n _ _).1.length=_;rw[aA];omega
theorem ds.aP {l:List Int}{a:Int}(h:ds l a):ds l (lF l a).2/\bN (lF l a).1/\(lF l a).1.length<=4:=by
 obtain⟨im,v1,v2,_⟩:=h.num 5;have v2:=v2 (by decide);obtain⟨ab,ad,aA⟩:=OT (fr l a 5).toNat (c6 l a 5) [] im .nil;exact⟨ab,ad,by unfold lF;rw[aA];simp;omega⟩
theorem ds.new {l:List Int}(h:∀x∈l,i64 x):ds (l.take 1000) 0:=⟨by omega,by simp;omega,fun x aj=>h x (List.mem_of_mem_take aj)⟩
theorem aeH {l:List Int}(h:∀n∈l,IntKind.min .i64<=n/\n<=IntKind.max .i64):∀x∈l,i64 x:=fun x aj=>by
 have h:=h x aj;have az:IntKind.i64.min=-9223372036854775808:=by decide
 have aJ:IntKind.i64.max=9223372036854775807:=by decide
 unfold i64;omega
end aa
end
section
open Go Go.ak
namespace aa
theorem rb {l:List Int}{a lo hi:Int}(h:ds l a)(ab:lo<=hi):lo<=kO l a lo hi/\kO l a lo hi<=hi:=by
 obtain⟨_,g1,g2,_⟩:=h.num (hi-lo+1);have:=g2 (by omega);unfold kO;omega
theorem WN (l:List Int)(a s x y:Int)(K:ae->R->Prop)(h:CP.T (.ptr 0 0) (st l a s) [.d (.int .i64 x), .d (.int .i64 y)] K):Mv l a s x y K:=by
 obtain⟨⟨aF,ab,ad,aA⟩,ag⟩:=h;have ao:=rb aF ad;unfold kO at ao ag;unfold Mv ai;rw[bQ (x:=y-x) (by omega),bQ (x:=y-x+1) (by omega),bQ (x:=x+_) (by omega)];exact⟨⟨aF,by unfold i64;omega⟩,ag⟩
theorem W3 (l:List Int)(a s:Int)(K:ae->R->Prop)(h:D0.T (.ptr 0 0) (st l a s) [] K):MI l a s K:=by
 obtain⟨aF,ag⟩:=h;unfold MI;refine⟨⟨aF,by decide,by decide,by decide⟩, ?_⟩;have bD:=(aF.num 13).1;have dX:=rb (lo:=-6) (hi:=6) aF (by decide);have dU:=rb (lo:=1) (hi:=5) bD (by decide);rintro _ rfl _ rfl _ rfl _ rfl;refine⟨⟨bD,by decide,by decide,by decide⟩, ?_⟩;rintro _ rfl _ rfl _ rfl x aj;have k6:x≠0:=by omega
 refine⟨⟨by unfold i64;omega,by unfold i64;omega⟩, ?_⟩;unfold kW kX kY;rw[arh k6,aj];rintro _ rfl _ rfl _ rfl _ _;exact ag
theorem Dq {l:List Int}{a:Int}(h:ds l a)(n:Int)(aB:1<=n:=by decide):0<=fr l a n/\fr l a n<n:=⟨(h.num n).2.1,(h.num n).2.2.1 aB⟩
theorem TN {bC N:Int}(ab:1<=bC)(ad:bC<=6)(aA:0<=N)(ba:N<=8):IntKind.wrap .u32 (IntKind.wrap .u32 bC*IntKind.wrap .u32 N)=bC*N:=by
 have KP:∀{x:Int},0<=x->x<4294967296->IntKind.wrap .u32 x=x:=fun ab ad=>arX ab ad
 have ane:0<=bC*N/\bC*N<=6*8:=⟨Int.mul_nonneg (by omega) (by omega),Int.mul_le_mul (by omega) (by omega) (by omega) (by omega)⟩;rw[KP (x:=bC) (by omega) (by omega),KP (x:=N) (by omega) (by omega),KP (x:=bC*N) (by omega) (by omega)]
theorem WO (l:List Int)(a s:Int)(K:ae->R->Prop)(h:CQ.T (.ptr 0 0) (st l a s) [] K):Mw l a s K:=by
 obtain⟨aF,ag⟩:=h;unfold Mw bY;unfold xb sY sZ xc qh at ag;refine⟨⟨aF,by unfold i64;decide⟩, ?_⟩;have bD:=(aF.num 4).1;rintro _ rfl _ rfl _ rfl v rfl;refine⟨fun h=>⟨bD, ?_⟩,fun h=>⟨fun ad=>⟨⟨bD,by unfold i64;decide⟩, ?_⟩,fun ad=>⟨⟨bD,by decide,by decide,by decide⟩, ?_⟩⟩⟩
 ·have h:=apJ h;rintro _ rfl _ rfl _ rfl _ rfl _ rfl _ rfl;simp only[h,ap1]at ag;exact ag
 ·have h:=apO h;have ad:=apJ ad;simp only[ad,show ¬(1:Int)=0 by decide,ap1,if_false]at ag;have bx:=(bD.num 2).1;have cH:=bx.aP.1;rintro _ rfl _ rfl _ rfl _ rfl;refine⟨bx, ?_⟩;rintro _ rfl _ rfl _ rfl _ rfl;refine⟨cH, ?_⟩;rintro _ rfl _ rfl _ rfl _ rfl;exact ag
 ·have h:=apO h;have ad:=apO ad;simp only[h,ad,if_false]at ag;have bx:=(bD.num 6).1;have cH:=(bx.num 2).1;have jV:=(cH.num 9).1;have r:=rb (lo:=1) (hi:=6) bD (by decide);have VX:=Dq cH 9;have Bw:=Dq jV 6;have akL:=TN r.1 r.2 VX.1 (by omega);have akM:=TN r.1 r.2 Bw.1 (by omega);rintro _ rfl _ rfl _ rfl _ rfl;refine⟨⟨bx,by unfold i64;decide⟩, ?_⟩;rintro _ rfl _ rfl _ rfl _ rfl;refine⟨⟨cH,by unfold i64;decide⟩, ?_⟩;rintro _ rfl _ rfl _ rfl _ rfl;refine⟨⟨jV,by unfold i64;decide⟩, ?_⟩;rintro _ rfl _ rfl _ rfl _ rfl;rw[akL,akM];exact ag
theorem Ib {l:List Int}{a:Int}(aF:ds l a):ds l (xc l a)/\bu 4 (sY l a)/\bu 4 (sZ l a):=by
 have bD:=(aF.num 4).1;unfold sY sZ xc qh
 by_cases h:fr l a 4=0
 ·simp only[h,ap1];have bx:=(bD.num 13).1;have dX:=rb (lo:=-6) (hi:=6) bD (by decide);have dU:=rb (lo:=1) (hi:=5) bx (by decide)
  have ao:c1 4 (gJ l (c6 l a 4)):=by
   unfold gJ Js Jt;have a_:kO l (c6 l (c6 l a 4) 13) 1 5=((kO l (c6 l (c6 l a 4) 13) 1 5).toNat:Int):=by omega
   rw[a_,Rat.divInt_ofNat];exact .mk (by omega) (by omega)
  exact⟨(bx.num 5).1,ao.num,ao.den⟩
 ·simp only[h,if_false]
  by_cases ab:fr l a 4=1
  ·simp only[ab,ap1];have bx:=(bD.num 2).1;have cH:=bx.aP;have jV:=cH.1.aP;exact⟨jV.1,cH.2,jV.2⟩
  ·simp only[ab,if_false];have bx:=(bD.num 6).1;have cH:=(bx.num 2).1;have jV:=(cH.num 9).1;have r:=rb (lo:=1) (hi:=6) bD (by decide);have VX:=Dq cH 9;have Bw:=Dq jV 6;generalize kO l (c6 l a 4) 1 6=bC at*;generalize fr l (c6 l (c6 l (c6 l a 4) 6) 2) 9=VY at*;generalize fr l (c6 l (c6 l (c6 l (c6 l a 4) 6) 2) 9) 6=VZ at*;have ane:0<=bC*VY/\bC*VY<=6*8:=⟨Int.mul_nonneg (by omega) (by omega),Int.mul_le_mul (by omega) (by omega) (by omega) (by omega)⟩;have oO:0<=bC*VZ/\bC*VZ<=6*5:=⟨Int.mul_nonneg (by omega) (by omega),Int.mul_le_mul (by omega) (by omega) (by omega) (by omega)⟩;exact⟨(jV.num 6).1,⟨.mk ⟨by omega,by omega⟩ (.mk ⟨by omega,by omega⟩ .nil),by simp⟩,⟨.mk ⟨by omega,by omega⟩ .nil,by simp⟩⟩
theorem Bx {P:Prop}:(false=true->P)=True:=by simp
theorem dX {P:Prop}:(true=true->P)=P:=by simp
theorem dU {P:Prop}:(true=false->P)=True:=by simp
end aa
end
section
open Go Go.ak
namespace aa
theorem WQ (a:Int)(K:R->Prop)(h:D3.T [.d (.int .i64 a)] K):Mt a K:=by
 obtain⟨_,ag⟩:=h;unfold Mt;simpa using ag
theorem WE (a b:Int)(K:R->Prop)(h:EE.T [.d (.int .i64 a), .d (.int .i64 b)] K):Ml a b K:=by
 obtain⟨_,ag⟩:=h;unfold Ml;refine⟨trivial, ?_⟩;rintro _ rfl;refine⟨trivial, ?_⟩;rintro _ rfl;refine⟨fun h=>by simp at h,fun _=>⟨fun h=>by simp at h,fun _=>⟨fun h=> ?_,fun h=>⟨fun ad=> ?_,fun ad=> ?_⟩⟩⟩⟩
 ·rw[apz (apJ h)]at ag;exact ag
 ·rw[apy (apO h),apz (apJ ad)]at ag;exact ag
 ·rw[apy (apO h),apy (apO ad)]at ag;exact ag
theorem fZ {n:Int}(bc:0<=n)(ab:n<9223372036854775808):IntKind.wrap .i64 n=n:=
 bQ (by omega)
theorem yW {a b:List Int}:∀(i:Nat),i<=a.length->i<=b.length->(∀j,j<i->a.getD j 0=b.getD j 0)->eM a b=eM (a.drop i) (b.drop i)
 |0,_,_,_=>by simp
 |i+1,aR,ah,h=>by
  rw[yW i (by omega) (by omega) fun j aI=>h j (by omega)];have e:=h i (by omega);rw[aqU (i:=i) (by omega),aqU (i:=i) (l:=b) (by omega),eM];rw[apA,apA,apT (by omega),apT (by omega)]at e;simp only[aqz]at e;rw[e,apy (Int.lt_irrefl _),apy (Int.lt_irrefl _)]
theorem Wq (a b:List Int)(K:R->Prop)(h:CS.T [.d (.af .i64 a), .d (.af .i64 b)] K):Mc a b K:=by
 obtain⟨⟨dG,eH⟩,ag⟩:=h;unfold Mc ai aT;refine⟨fun v=>∃i:Nat,v=i/\i<=a.length/\i<=b.length/\∀j,j<i->a.getD j 0=b.getD j 0,fun v=>a.length-v.toNat,⟨0,rfl,by omega,by omega,fun j aI=>by omega⟩, ?_⟩;rintro _ ⟨i,rfl,ab,ad,aA⟩;simp only[aqe,apD,apB];refine⟨fun ba=>⟨by omega,ba,fun bJ=> ?_,fun bJ=>⟨by omega,by omega,trivial, ?_⟩⟩,fun ba=>⟨fun bJ=> ?_,fun bJ=> ?_⟩⟩
 ·have aR:i<a.length:=by omega
  rw[yW i ab ad aA,arP (show b.length<=i by omega),aqU (i:=i) aR,eM]at ag
  ·exact ag
  ·simp;exact aR
 ·have aR:i<a.length:=by omega
  have ah:i<b.length:=by omega
  have e:=yW i ab ad aA;rw[aqU (i:=i) aR,aqU (i:=i) (l:=b) ah,eM]at e;have g1:a.getD i 0=a[i]:=by simp[apA,aR]
  have g2:b.getD i 0=b[i]:=by simp[apA,ah]
  simp only[g1,g2];rintro _ rfl;refine⟨fun cu=> ?_,fun cu=> ?_⟩
  ·have:eM a b=if a[i]<b[i]then-1 else if b[i]<a[i]then 1 else 0:=by
    rw[e];split
    ·rfl
    ·split
     ·rfl
     ·exfalso;rename_i aY bj;simp[aY,bj]at cu
   rw[this]at ag;exact ag
  ·have jP:a[i]=b[i]:=by
    have cu:(if a[i]<b[i]then(-1:Int)else if b[i]<a[i]then 1 else 0)=0:=by simpa using cu
    split at cu
    ·cases cu
    ·split at cu
     ·cases cu
     ·omega
   rw[fZ (by omega) (by omega)];refine⟨⟨i+1,rfl,by omega,by omega,fun j aI=> ?_⟩,by omega⟩
   by_cases A8:j=i
   ·subst A8;rw[g1,g2,jP]
   ·exact aA j (by omega)
 ·have:a.drop i=[]:=arP (by omega);have ah:i<b.length:=by omega
  rw[yW i ab ad aA,this,aqU (i:=i) (l:=b) ah,eM]at ag
  ·exact ag
  ·simp;exact ah
 ·rw[yW i ab ad aA,arP (show a.length<=i by omega),arP (show b.length<=i by omega),eM]at ag;exact ag
theorem eT.A9 {r:Row}(h:eT r):∀x∈r.take 8,x.dQ .i64:=by
 obtain⟨oN,fX,gg,h6,jS,jT,oO,sh,s,a,b,rfl⟩:=h;simp[U.dQ]
theorem PK (a b:List Int):eM a b=-1\/eM a b=0\/eM a b=1:=by
 induction a generalizing b with
 |nil=>cases b<;>simp[eM]
 |cons x a bI=>
  cases b with
  |nil=>simp[eM]
  |cons y b=>
   rw[eM];split
   ·exact .inl rfl
   ·split
    ·exact .inr (.inr rfl)
    ·exact bI b
theorem QR (a b:List Int):IntKind.wrap .i64 (0-eM a b)=-eM a b:=by
 rcases PK a b with e|e|e<;>rw[e]<;>rfl
theorem Wl (q:eg)(a6:q.desc=false)(a b:Row)(K:R->Prop)(h:qu.T q [.agg [.d (.int .i64 8)], .rw 11 a, .rw 11 b] K):L9 a b K:=by
 unfold qu.T bk at h;simp only[a6]at h;obtain⟨⟨dG,eH⟩,ag⟩:=h;unfold L9 ai;have az:(List.take 8 (List.map U.toInt (List.take 8 a)))=dI a:=by rw[<-List.map_take,List.take_take];rfl
 have aJ:(List.take 8 (List.map U.toInt (List.take 8 b)))=dI b:=by rw[<-List.map_take,List.take_take];rfl
 have de:(dI a).length=8:=by simp[dI,dG.len]
 have l2:(dI b).length=8:=by simp[dI,eH.len]
 refine⟨dG.len,dG.A9,by omega,by omega,eH.len,eH.A9,by omega,by omega,⟨by rw[az];omega,by rw[aJ];omega⟩, ?_⟩;rintro _ rfl;rw[az,aJ,QR];exact ag
theorem Wh (q:eg)(a6:q.desc=true)(a b:Row)(K:R->Prop)(h:qu.T q [.agg [.d (.bool true)], .rw 11 a, .rw 11 b] K):LS a b K:=by
 unfold qu.T bk at h;simp only[a6]at h;obtain⟨⟨dG,eH⟩,ag⟩:=h;unfold LS ai;have az:(List.map U.toInt (List.take 8 a))=dI a:=rfl;have aJ:(List.map U.toInt (List.take 8 b))=dI b:=rfl;have de:(dI a).length=8:=by simp[dI,dG.len]
 have l2:(dI b).length=8:=by simp[dI,eH.len]
 refine⟨dG.len,dG.A9,eH.len,eH.A9,⟨by rw[az];omega,by rw[aJ];omega⟩, ?_⟩;rintro _ rfl;refine⟨fun _=> ?_,fun h=>by cases h⟩;rw[az,aJ,QR];exact ag
theorem QS:∀(l:List Int) (a x:Int),lL a (l++[x])=if x>lL a l then x else lL a l
 |[],a,x=>rfl
 |y::l,a,x=>by rw[aqW,lL,QS l,lL]
theorem WG (a:List Int)(K:R->Prop)(h:Fp.T [.d (.af .i64 a)] K):Mm a K:=by
 obtain⟨⟨bc,ab⟩,ag⟩:=h;unfold Mm ai;refine⟨True,⟨fun h=>by simp at h;omega,fun _=>trivial⟩,fun _=>⟨by omega,by omega,fun x v=>∃i:Nat,v=i/\1<=i/\i<=a.length/\x=lL (a.getD 0 0) ((a.take i).drop 1),fun _ v=>a.length-v.toNat,⟨1,rfl,by omega,by omega, ?_⟩, ?_⟩⟩
 ·rw[arP (by simp;omega),lL]
 ·rintro _ _ ⟨i,rfl,ad,aA,rfl⟩;simp only[aqe,apD,apB];refine⟨fun ba=>⟨by omega,ba,⟨i+1, ?_,by omega,by omega, ?_⟩, ?_⟩,fun ba=> ?_⟩
  ·rw[fZ (by omega) (by omega)];rfl
  ·have hi:i<a.length:=by omega
   have e:a.getD i 0=a[i]:=by simp[apA,hi]
   rw[ark,apT hi,Option.toList_some,List.drop_append_of_le_length (by simp;omega),QS,e]
  ·rw[fZ (by omega) (by omega)];omega
  ·have:i=a.length:=by omega
   rw[this,aqZ];exact ag
theorem kJ (m:List Int):(ej m).length=m.length:=apI ..
theorem y9 (m:List Int):kx (ej m)=m:=by
 rw[kx,ej,aq2];exact List.map_id' _
theorem Ic (m:List Int)(i:Nat)(h:i<m.length):(ej m).getD i .undef= .int .i64 (m.getD i 0):=by
 simp[ej,apA,h]
theorem Ie (m:List Int)(i:Nat)(x:Int):(ej m).set i (.int .i64 x)=ej (m.set i x):=by rw[ej,ej,art]
theorem wU:∀(m n:List Int),m.length=n.length->(ga m n).length=m.length
 |[],[],_=>rfl
 |[],_::_,h=>by cases h
 |_::_,[],h=>by cases h
 |a::m,b::n,h=>by simp only[ga,aqj]at h⊢;rw[wU m n (by omega)]
theorem QT:∀(m n:List Int) (i:Nat),i<m.length->i<n.length->(ga m n).getD i 0=m.getD i 0+n.getD i 0
 |a::m,b::n,0,_,_=>rfl
 |a::m,b::n,i+1,h,k=>QT m n i (Nat.lt_of_succ_lt_succ h) (Nat.lt_of_succ_lt_succ k)
theorem ahq {m n:List Int}(h:m.length=n.length)(k:∀i,i<m.length->m.getD i 0=n.getD i 0):m=n:=by
 refine arU h fun i ab ad=> ?_;have:=k i ab;rw[apA,apA,apT ab,apT ad]at this;exact this
theorem mQ {m:List Int}{i:Nat}(h:i<m.length):m.getD i 0∈m:=by
 rw[apA,apT h];exact aqA h
theorem W4 (a b:Row)(K:R->Prop)(h:D4.T [.rw 8 a, .rw 8 b] K):MH a b K:=by
 obtain⟨⟨⟨m,rfl,hm,ih⟩,n,rfl,aB,vB⟩,ag⟩:=h;rw[y9,y9]at ag;unfold MH ai
 refine⟨fun v au bD bx=>∃(i:Nat) (x:List Int) (r:Row),v=i/\i<=8/\au=[ej x]/\bD=[ej n]/\bx=[r]/\x.length=8/\(∀j,j<i->x.getD j 0=m.getD j 0+n.getD j 0)/\∀j,i<=j->x.getD j 0=m.getD j 0,
  fun v _ _ _=>8-v.toNat,⟨0,m,_,rfl,by omega,rfl,rfl,rfl,hm,fun j aI=>by omega,fun j aI=>rfl⟩, ?_⟩
 rintro _ _ _ _ ⟨i,x,r,rfl,ab,rfl,rfl,rfl,aj,ad,aA⟩;have hq:List.getD [ej x] 0 []=ej x:=rfl;have az:List.getD [ej n] 0 []=ej n:=rfl;simp only[aqe,apD,apB,hq,az];refine⟨fun ba=> ?_,fun ba=> ?_⟩
 ·have hi:i<8:=by omega
  have ch:=ih _ (mQ (m:=m) (i:=i) (by omega));have df:=vB _ (mQ (m:=n) (i:=i) (by omega));rw[Ic x i (by omega),Ic n i (by omega)]
  have GC:IntKind.wrap .i64 (U.toInt (.int .i64 (x.getD i 0))+U.toInt (.int .i64 (n.getD i 0)))=m.getD i 0+n.getD i 0:=by
   show IntKind.wrap .i64 (x.getD i 0+n.getD i 0)=_;rw[aA i (apF _),bQ (by omega)]
  rw[GC,Ie];refine⟨by omega,ba,rfl,by omega,ba,rfl,by omega,ba,⟨i+1,_,r,fZ (by omega) (by omega),by omega,rfl,trivial,rfl,by simp[aj],fun j aI=> ?_,fun j aI=> ?_⟩,by rw[fZ (by omega) (by omega)];omega⟩
  ·rw[eR]
   by_cases e:i=j
   ·subst e;rw[apz ⟨rfl,by omega⟩]
   ·rw[apy (fun h=>e h.1),ad j (by omega)]
  ·rw[eR,apy (fun h=>by omega),aA j (by omega)]
 ·have hi:i=8:=by omega
  subst hi;have ex:x=ga m n:=ahq (by rw[wU m n (by omega)];omega) fun j aI=>by rw[ad j (by omega),QT m n j (by omega) (by omega)]
  subst ex;refine⟨by rw[kJ,aj], ?_, ?_⟩
  ·show(ej (ga m n)).length=8;rw[kJ,aj]
  ·exact ag
theorem GY {l cm:List U}{i:Nat}{d:U}(h:l.length<=i):(l++cm).getD i d=cm.getD (i-l.length) d:=by
 rw[apA,aqG h,apA]
def eP (m:List Int)(s:Bool)(a b:List Int):Row:=ej m++[.bool s, .af .u32 a, .af .u32 b]
section
variable {m:List Int} {s:Bool} {a b:List Int}
theorem qj (h:m.length=8):(eP m s a b).length=11:=by rw[eP,ap4,kJ,h];rfl
theorem uO (h:m.length=8):(eP m s a b).take 8=ej m:=by rw[eP,List.take_left'];rw[kJ,h]
theorem rO (h:m.length=8):(eP m s a b).getD 8 .undef= .bool s:=by
 rw[eP,GY (by rw[kJ,h];omega),kJ,h];rfl
theorem rP (h:m.length=8):(eP m s a b).getD 9 .undef= .af .u32 a:=by
 rw[eP,GY (by rw[kJ,h];omega),kJ,h];rfl
theorem rI (h:m.length=8):(eP m s a b).getD 10 .undef= .af .u32 b:=by
 rw[eP,GY (by rw[kJ,h];omega),kJ,h];rfl
theorem IV (h:m.length=8)(iq:Bool)(cf fh:List Int):setRow (eP m s a b) 8 [.bool iq, .af .u32 cf, .af .u32 fh]=eP m iq cf fh:=by
 have l:(ej m).length=8:=by rw[kJ,h]
 simp only[setRow,eP];rw[List.set_append_right _ _ (by omega),List.set_append_right _ _ (by omega),List.set_append_right _ _ (by omega),l];rfl
theorem uP (h:m.length=8):dI (eP m s a b)=m:=by rw[dI,uO h];exact y9 m
theorem EH (h:m.length=8):tE (eP m s a b)=aV s a b:=by rw[tE,rO h,rP h,rI h];rfl
theorem oj (h:m.length=8):aM (eP m s a b)=(m,aV s a b):=by rw[aM,uP h,EH h]
end
theorem su (m:List Int):(ej m).map U.toInt=m:=y9 m
theorem Dr (t:bd):jv t=eP t.1 (ca t.2) (b8 t.2) (b1 t.2):=rfl
theorem Ds {t:bd}(h:t.1.length=8):aM (jv t)=t:=by rw[Dr,oj h,jE]
theorem p_ {m:List Int}(h:∀x∈m,-4000000000000000000<=x/\x<=4000000000000000000):ke (ej m):=fun x aj=>by
 obtain⟨y,bo,rfl⟩:=apQ.1 aj;have:=h y bo;exact⟨rfl,by show _<=y;omega,by show y<=_;omega⟩
theorem ft.bP {k:Nat}{r:Row}(h:ft k r):∃(m:List Int) (s:Bool) (a b:List Int),r=eP m s a b/\m.length=8/\(∀x∈m,-4000000000000000000<=x/\x<=4000000000000000000)/\bu k a/\bu k b:=h
theorem ft.row {k:Nat}{r:Row}(h:ft k r):eT r:=by
 obtain⟨m,s,a,b,rfl,hm,_⟩:=h
 match m,hm with
 |[oN,fX,gg,h6,jS,jT,oO,sh],_=>exact⟨oN,fX,gg,h6,jS,jT,oO,sh,s,a,b,rfl⟩
theorem ft.mono {k j:Nat}{r:Row}(h:ft k r)(ag:k<=j):ft j r:=by
 obtain⟨m,s,a,b,rfl,hm,ab,ad,aA⟩:=h;exact⟨m,s,a,b,rfl,hm,ab,ad.mono ag,aA.mono ag⟩
theorem Th {m:List Int}{s:Bool}{a b:List Int}(h:m.length=8):jX (eP m s a b)=decide (k8 (aV s a b)=0):=by rw[jX,EH h]
theorem WH (r:Row)(K:R->Prop)(h:D6.T [.rw 11 r] K):Mn r K:=by
 obtain⟨ao,ag⟩:=h;obtain⟨m,s,a,b,rfl,hm,_,ad,aA⟩:=ao.bP;unfold Mn;simp only[rO hm,rP hm,rI hm];refine⟨trivial,rfl,rfl,⟨ad.cC (by decide),aA.cC (by decide)⟩, ?_⟩;rintro _ rfl;rw[Th hm]at ag;exact ag
theorem mO {l:Rows}{i:Nat}(h:i<l.length):l.getD i []∈l:=by
 rw[apA,apT h];exact aqA h
theorem RO:∀(l:Rows) (k:Int) (i:Nat),i<=l.length->(∀j,j<i->jX (l.getD j [])=false)->pf l k=pf (l.drop i) (k+i)
 |l,k,0,_,_=>by simp
 |r::l,k,i+1,h,bm=>by
  have bc:=bm 0 (by omega);simp only[List.getD_cons_zero]at bc;rw[pf,bc,List.drop_succ_cons,apy (by decide),RO l (k+1) i (by simpa using h) fun j aI=>by simpa using bm (j+1) (by omega)]
  congr 1;omega
theorem Wi (g:Nat)(l:Rows)(K:R->Prop)(h:(zl.T g) [.d (.ar 11 l), .fn g] K):LU l K:=by
 unfold zl.T bk at h;simp only[aqx]at h;obtain⟨⟨bp,ax⟩,ag⟩:=h;unfold LU ai aT List.aS;refine⟨fun v=>∃i:Nat,v=i/\i<=l.length/\∀j,j<i->jX (l.getD j [])=false,fun v=>l.length-v.toNat,⟨0,rfl,by omega,fun j aI=>by omega⟩, ?_⟩;rintro _ ⟨i,rfl,ab,ad⟩;have e:=RO l 0 i ab ad;rw[Int.zero_add]at e;simp only[aqe,apD,apB];refine⟨fun ba=> ?_,fun ba=> ?_⟩
 ·have hi:i<l.length:=by omega
  have nX:l.getD i []=l[i]:=by simp[apA,hi]
  refine⟨by omega,ba,(bp _ (mO hi)).row.len,bp _ (mO hi), ?_⟩;rintro _ rfl;refine⟨fun bJ=> ?_,fun bJ=>⟨⟨i+1,fZ (by omega) (by omega),by omega,fun j aI=> ?_⟩,by rw[fZ (by omega) (by omega)];omega⟩⟩
  ·rw[e,aqU hi,pf,<-nX,bJ,apz rfl]at ag;exact ag
  ·by_cases A8:j=i
   ·subst A8;exact bJ
   ·exact ad j (by omega)
 ·rw[e,arP (by omega),pf]at ag;exact ag
theorem Xm:∀(l:Rows) (i:Nat),(∀j,j<i->j<l.length->jX (l.getD j [])=false)->(l.take i).filter (fun r=> !jX r)=l.take i:=fun l i h=>by
 refine List.filter_eq_self.2 fun r ao=> ?_;obtain⟨j,aI,rfl⟩:=ar0 ao;have h4:j<i/\j<l.length:=by rw[ap_]at aI;omega
 have:=h j h4.1 h4.2;rw[List.getElem_take];rw[apA,apT h4.2]at this;simpa using this
theorem OU:∀(l:Rows) (k:Int),0<=k->(pf l k=-1/\∀r∈l,jX r=false)\/∃i:Nat,i<l.length/\pf l k=k+i/\jX (l.getD i [])=true/\∀j,j<i->jX (l.getD j [])=false
 |[],k,_=> .inl ⟨rfl,by simp⟩
 |r::l,k,ag=>by
  rw[pf]
  cases bm:jX r with
  |true=>exact .inr ⟨0,by simp,by simp,by simpa using bm,fun j aI=>by omega⟩
  |false=>
   rw[apy (by decide)];rcases OU l (k+1) (by omega)with⟨ab,ad⟩|⟨i,ab,ad,aA,ba⟩
   ·refine .inl ⟨ab,fun x aj=> ?_⟩;rcases ap9.1 aj with rfl|aj
    ·exact bm
    ·exact ad x aj
   ·refine .inr ⟨i+1,by simpa using ab,by rw[ad];omega,by simpa using aA,fun j aI=> ?_⟩
    cases j with
    |zero=>simpa using bm
    |succ j=>simpa using ba j (by omega)
theorem Wg (g:Nat)(l:Rows)(K:ae->Prop)(h:(zQ.T g) (.ar 11 l) [.fn g] K):LP l K:=by
 unfold zQ.T xr at h;simp only[aqx]at h;obtain⟨⟨bp,ax⟩,ag⟩:=h;unfold LP ai List.aS;refine⟨⟨bp,ax⟩, ?_⟩;rintro _ rfl;rcases OU l 0 (Int.le_refl _)with⟨ab,ad⟩|⟨i0,ab,ad,aA,ba⟩
 ·rw[ab];refine⟨fun _=> ?_,fun h=>by cases h⟩;rw[List.filter_eq_self.2 fun r ao=>by rw[ad r ao];rfl]at ag;exact ag
 ·rw[ad,Int.zero_add];refine⟨fun h=>by have:=apJ h;omega,fun _=> ?_⟩;refine⟨fun a v o=>∃i j:Nat,a=i/\v=j/\i<j/\j<=l.length/\o.length=l.length/\(∀r∈o,ft 1000000 r)/\o.take i=(l.take j).filter (fun r=> !jX r)/\o.drop j=l.drop j,fun _ v _=>l.length-v.toNat,⟨i0,i0+1,rfl, ?_,by omega,by omega,rfl,bp, ?_,rfl⟩, ?_⟩
  ·rw[fZ (by omega) (by omega)];rfl
  ·rw[ark,arG,Xm l i0 fun j aI _=>ba j aI,apT ab]
   have:jX l[i0]=true:=by
    rw[apA,apT ab]at aA;exact aA
   simp[this]
  ·rintro _ _ o ⟨i,j,rfl,rfl,aY,bj,bG,di,eK,gC⟩;simp only[aqe,apD,apB];refine⟨fun bJ=> ?_,fun bJ=> ?_⟩
   ·have aI:j<l.length:=by omega
    have akN:j<o.length:=by omega
    have hm:ft 1000000 (o.getD j []):=di _ (mO akN)
    have V0:o.getD j []=l[j]:=by
     have:=aqd (fun x:Rows=>x.getD 0 []) gC;simp only[apA,aq1,apV]at this;rw[apA,this,apT aI];rfl
    have w1:IntKind.wrap .i64 ((j:Int)+1)=((j+1:Nat):Int):=fZ (by omega) (by omega);have dd:IntKind.wrap .i64 ((i:Int)+1)=((i+1:Nat):Int):=fZ (by omega) (by omega);refine⟨by omega,bJ,hm.row.len,hm.row.len,hm, ?_⟩;rintro _ rfl;rw[w1,dd];refine⟨fun cu=>⟨hm.row.len,by omega,by omega,⟨i+1,j+1,rfl,rfl,by omega,by omega,by simpa using bG,fun r ao=> ?_, ?_, ?_⟩,by omega⟩,fun cu=>⟨⟨i,j+1,rfl,rfl,by omega,by omega,bG,di, ?_, ?_⟩,by omega⟩⟩
    ·rcases are ao with ao|rfl
     ·exact di r ao
     ·exact hm
    ·rw[ark,aqk,apz rfl,apz (show i<o.length by omega),List.take_set_of_le (apF _),eK,ark,arG,apT aI];rw[V0]at cu⊢;simp[cu]
    ·rw[List.drop_set_of_lt (by omega)];have:=aqd (List.drop 1) gC;rwa [List.drop_drop,List.drop_drop]at this
    ·rw[eK,ark,arG,apT aI];rw[V0]at cu;simp[cu]
    ·have:=aqd (List.drop 1) gC;rwa [List.drop_drop,List.drop_drop]at this
   ·have aI:j=l.length:=by omega
    have ao5:i<=o.length:=by omega
    have e:(o.take i++List.replicate (o.length-i) ([U.int IntKind.i64 0,U.int IntKind.i64 0,U.int IntKind.i64 0,U.int IntKind.i64 0,U.int IntKind.i64 0,U.int IntKind.i64 0,U.int IntKind.i64 0,U.int IntKind.i64 0,U.bool false,U.af IntKind.u32 [],U.af IntKind.u32 []]:Row)).take i=o.take i:=by
     rw[List.take_append_of_le_length (by simp;omega),List.take_take,Nat.min_self]
    refine⟨by omega,by omega,by omega,by simp;omega, ?_⟩;rw[e,eK,aI,aqZ];exact ag
theorem Wj (l:Rows)(K:ae->Prop)(h:D5.T [.d (.ar 11 l)] K):L6 l K:=by
 obtain⟨ax,ag⟩:=h;unfold L6 aT;intro b ah;refine⟨fun h=> ?_,fun h=>⟨by omega,ag⟩⟩;rw[ah h]at ag;exact ag
theorem y_ (m:List Int):∀(a b:Rows),fM m (a++b)=fM m a+fM m b
 |[],b=>by rw[List.nil_append,fM,ap3]
 |r::a,b=>by rw[aqW,fM,fM,y_ m a b,aqs]
theorem abH (m:List Int)(l:Rows)(i:Nat):fM m (l.take i)<=fM m l:=by
 have:=y_ m (l.take i) (l.drop i);rw[List.take_append_drop]at this;omega
theorem q8 {l:Rows}{i:Nat}(h:i<l.length):l.take (i+1)=l.take i++[l.getD i []]:=by
 rw[ark,apT h,apA,apT h];rfl
theorem PL {l:Rows}{i:Nat}(h:i<l.length)(m:List Int):fM m (l.take (i+1))=fM m (l.take i)+if dI (l.getD i [])=m then 1 else 0:=by
 rw[q8 h,y_,fM,fM,apV]
def l4 (m:List Int):Prop:=m.length=8/\∀x∈m,-4000000000000000000<=x/\x<=4000000000000000000
def k0:Nat->List bd->Rows
 |_,[]=>[]
 |k,t::p=>(ej t.1++[.int .i64 k])::k0 (k+1) p
theorem QU:∀(k:Nat) (p:List bd) (t:bd),k0 k (p++[t])=k0 k p++[ej t.1++[.int .i64 ((k+p.length:Nat):Int)]]
 |k,[],t=>rfl
 |k,u::p,t=>by
  rw[aqW,k0,k0,QU (k+1) p t,aqW,aqj,show k+1+p.length=k+(p.length+1) by omega]
theorem OV:∀(k:Nat) (p q:List bd),p.map Prod.fst=q.map Prod.fst->k0 k p=k0 k q
 |k,[],[],_=>rfl
 |k,[],_::_,h=>by cases h
 |k,_::_,[],h=>by cases h
 |k,t::p,u::q,h=>by
  simp only[ap2,arl]at h;rw[k0,k0,h.1,OV (k+1) p q h.2]
theorem QV:∀(k:Nat) (p:List bd) (j:Nat) (t:bd),p[j]? =some t->(k0 k p)[j]? =some (ej t.1++[.int .i64 ((k+j:Nat):Int)])
 |k,[],j,t,h=>by simp at h
 |k,u::p,0,t,h=>by
  obtain rfl:u=t:=by simpa using h
  rfl
 |k,u::p,j+1,t,h=>by
  have:=QV (k+1) p j t (by simpa using h);rw[k0,List.getElem?_cons_succ,this,show k+1+j=k+(j+1) by omega]
theorem Ci {m:List Int}(h:m.length=8)(x:List U):js 8 (ej m++x)=m:=by
 rw[js,List.take_left' (by rw[kJ,h]),su]
theorem PM:∀(k:Nat) (p:List bd),(∀t∈p,t.1.length=8)->(k0 k p).map (js 8)=p.map Prod.fst
 |_,[],_=>rfl
 |k,t::p,h=>by rw[k0,ap2,ap2,Ci (h t (by simp)),PM (k+1) p fun u hu=>h u (by simp[hu])]
theorem adm {k:Nat}{p:List bd}{r:Row}(h:r∈k0 k p):∃t∈p,∃j:Int,r=ej t.1++[.int .i64 j]:=by
 induction p generalizing k with
 |nil=>cases h
 |cons t p bI=>
  rw[k0]at h;rcases ap9.1 h with rfl|h
  ·exact⟨t,by simp,_,rfl⟩
  ·obtain⟨u,hu,j,e⟩:=bI h;exact⟨u,by simp[hu],j,e⟩
theorem QW {m:List Int}(h:m.length=8)(x:List U):(ej m++x).drop 8=x:=List.drop_left' (by rw[kJ,h])
theorem aeI {t:bd}(h:t.1.length=8):jX (jv t)=decide (t.2=0):=by simp only[Dr,Th h,jE,y8]
theorem Od:∀{p:List bd},(∀t∈p,t.1.length=8)->(bK p).filter (fun r=> !jX r)=bK (p.filter fun t=> !decide (t.2=0))
 |[],_=>rfl
 |t::p,h=>by
  have bI:=Od (p:=p) fun u hu=>h u (by simp[hu]);show List.filter _ (jv t::bK p)=_;rw[aqK,aqK,aeI (h t (by simp))];split
  ·rw[bI];rfl
  ·exact bI
theorem hs (p:List bd):(bK p).length=p.length:=apI ..
theorem QX {p:List bd}{j:Nat}{t:bd}(h:p[j]? =some t):(bK p).getD j []=jv t:=by
 rw[apA,bK,aqv,h];rfl
theorem RP {k:Nat}{t:bd}(h:l4 t.1)(ay:c1 k t.2):ft k (jv t):=⟨_,_,_,_,rfl,h.1,h.2,ay.num,ay.den⟩
theorem RQ:∀{l:Rows},(∀r∈l,∃t:bd,r=jv t/\t.1.length=8)->bK (l.map aM)=l
 |[],_=>rfl
 |r::l,h=>by
  obtain⟨t,e,aw⟩:=h r (by simp);show jv (aM r)::bK (l.map aM)=_;rw[RQ fun u hu=>h u (by simp[hu]),e,Ds aw]
theorem fP {p:List bd}(h:∀t∈p,t.1.length=8):(bK p).map aM=p:=by
 induction p with
 |nil=>rfl
 |cons t p bI=>
  show aM (jv t)::(bK p).map aM=_;rw[Ds (h t (by simp)),bI fun u hu=>h u (by simp[hu])]
def oq (k:Nat)(l:Rows)(i:Nat)(acc:List bd):Prop:=
 acc=((l.take i).map aM).foldl iQ []/\(acc.map Prod.fst).Nodup/\(∀t∈acc,l4 t.1/\c1 (fM t.1 (l.take i)*(k+1)) t.2)/\acc.length<=i
theorem oq.none {k:Nat}{l:Rows}{i:Nat}{acc:List bd}(h:oq k l i acc)(hi:i<l.length){m:List Int}{s:Bool}{a b:List Int}(e:l.getD i []=eP m s a b)(hm:l4 m)
 (aR:bu k a) (ah:bu k b) (iA:1<=k) (aB:∀u∈acc,u.1≠m):oq k l (i+1) (acc++[(m,aV s a b)]):=by
 obtain⟨ab,ad,aA,ba⟩:=h;have hw:=PL hi;have ao:c1 k (aV s a b):=c1.of aR ah;refine⟨?_, ?_,fun t aw=> ?_, ?_⟩
 ·rw[q8 hi,e,aqo,List.foldl_append,<-ab];show _=iQ acc (aM (eP m s a b));rw[oj hm.1,HM aB]
 ·rw[<-HM (t:=(m,aV s a b)) aB];exact OP ad
 ·rcases aqV.1 aw with aw|aw
  ·exact⟨(aA t aw).1,(aA t aw).2.mono (apP _ (by rw[hw];omega))⟩
  ·obtain rfl:=aqy.1 aw;refine⟨hm,ao.mono ?_⟩;have ab:1<=fM m (l.take (i+1)):=by rw[hw,e,apz (uP hm.1)];omega
   have:=apP (k+1) ab;show k<=fM m (l.take (i+1))*(k+1);omega
 ·rw[ap4];exact Nat.succ_le_succ ba
theorem oq.at {k:Nat}{l:Rows}{i:Nat}{acc:List bd}(h:oq k l i acc)(hi:i<l.length){m:List Int}{s:Bool}{a b:List Int}(e:l.getD i []=eP m s a b)(hm:l4 m)
 (aR:bu k a) (ah:bu k b) (iA:1<=k) {j:Nat} {u:bd} (aI:acc[j]? =some u) (hu:u.1=m):oq k l (i+1) (acc.set j (m,u.2+aV s a b)):=by
 obtain⟨ab,ad,aA,ba⟩:=h;have hw:=PL hi;have ao:c1 k (aV s a b):=c1.of aR ah;have yi:iQ acc (m,aV s a b)=acc.set j (m,u.2+aV s a b):=by rw[RK ad aI hu,hu]
 refine⟨?_, ?_,fun t aw=> ?_, ?_⟩
 ·rw[q8 hi,e,aqo,List.foldl_append,<-ab];show _=iQ acc (aM (eP m s a b));rw[oj hm.1,yi]
 ·rw[<-yi];exact OP ad
 ·rcases are aw with aw|rfl
  ·exact⟨(aA t aw).1,(aA t aw).2.mono (apP _ (by rw[hw];omega))⟩
  ·refine⟨hm,((aA u (aq4 aI)).2.add ao).mono ?_⟩;show _<=fM m (l.take (i+1))*(k+1);rw[hw,e,apz (uP hm.1),hu,apU,aqO];omega
 ·rw[apL];omega
theorem oq.By {k c:Nat}{l:Rows}{i:Nat}{acc:List bd}(h:oq k l i acc)(aC:∀m,fM m l<=c)(ag:c*(2*k+2)<=900000){t:bd}(aw:t∈acc):c1 900000 t.2:=
 (h.2.2.1 t aw).2.mono (by
   have ab:=apS (abH t.1 l i) (aC t.1);have ad:=apP (k+1) ab;have e:c*(2*k+2)=2*(c*(k+1)):=by rw[show 2*k+2=2*(k+1) by omega,aqC]
   omega)
theorem Oe {l:Rows}{n:Nat}(h:n=l.length):(l.toArray.extract 0 n).toList=l:=by
 subst h;simp
theorem QY {l:Rows}{i:Nat}(h:i<l.length):l.toArray[i]! =l.getD i []:=by
 simp[apA,h]
theorem afq {a b:Row}:bl a b=decide (nW (dI a) (dI b)):=by
 unfold bl gS nW;rcases PK (dI a) (dI b)with e|e|e<;>rw[e]<;>decide
theorem PN {p acc:List bd}{x o:Rows}(dq:∀t∈acc,t.1.length=8)(aC:∀m,dA acc m=dA p m)(a_:(acc.map Prod.fst).Nodup)
 (aj:x=bK (acc.filter fun t=> !decide (t.2=0))) (ay:lH x 0 (x.length:Int) o):o=bK (nrm p):=by
 obtain⟨⟨_,ab,_,aA⟩,ba⟩:=ay;have hlen:o.length=x.length:=by simpa using ab
 simp only[apB]at aA ba;rw[show(0:Int).toNat=0 from rfl,Oe hlen.symm,Oe rfl]at aA
 have kj:∀r∈o,∃t:bd,r=jv t/\t.1.length=8:=fun r ao=>by
  have:=aA.mem_iff.1 ao;rw[aj,bK]at this;obtain⟨t,aw,rfl⟩:=apQ.1 this;exact⟨t,rfl,dq t (aqE.1 aw).1⟩
 rw[<-RQ kj]
 congr 1
 refine ZY aC a_ ?_ ?_
 ·have:=aA.map aM;rw[aj,fP fun t aw=>dq t (aqE.1 aw).1]at this;exact this
 ·rw[List.pairwise_map,List.pairwise_iff_getElem];intro i j hi aI AE;have:=ba i j (by simp) AE (by omega);rw[QY aI,QY hi,afq]at this;have bh:=apO this;rw[apA,apA,apT hi,apT aI]at bh;exact bh
theorem oq.end {k:Nat}{l:Rows}{acc:List bd}(h:oq k l l.length acc):∀m,dA acc m=dA (l.map aM) m:=fun m=>by
 rw[h.1,aqZ,OQ,dA,ari]
theorem WR (l:Rows)(K:R->Prop)(h:sE.T [.d (.ar 11 l)] K):Mu l K:=by
 obtain⟨⟨k,c,iA,bp,ln,x8,A_,ax⟩,ag⟩:=h;unfold Mu ai aT List.aS List.gV List.fN List.fO
 refine⟨by omega,by omega,by omega,fun v au bD=>∃(i:Nat) (acc:List bd),v=i/\i<=l.length/\oq k l i acc/\au=k0 0 acc/\bD=bK acc,fun v _ _=>l.length-v.toNat,
  ⟨0,[],rfl,by omega,⟨rfl, .nil,by simp,by simp⟩,rfl,rfl⟩, ?_⟩
 rintro _ _ _ ⟨i,acc,rfl,ab,fl,rfl,rfl⟩
 have dq:∀t∈acc,t.1.length=8:=fun t aw=>(fl.2.2.1 t aw).1.1
 have gM:=fl.2.2.2;simp only[aqe,apD,apB];refine⟨fun ba=> ?_,fun ba=> ?_⟩
 ·have hi:i<l.length:=by omega
  obtain⟨m,s,a,b,e,hm,ih,aR,ah⟩:=(bp _ (mO hi)).bP;simp only[e,qj hm,uO hm,su,rO hm,rP hm,rI hm];have Gs:IntKind.wrap .i64 ((i:Int)+1)=((i+1:Nat):Int):=fZ (by omega) (by omega);rw[Gs];have sa:l4 m:=⟨hm,ih⟩
  by_cases aj:∃u∈acc,u.1=m
  ·obtain⟨u,hu,mE⟩:=aj;obtain⟨j,aI,rfl⟩:=ar0 hu;have h4:acc[j]? =some acc[j]:=apT aI;have m8:=QV 0 acc j _ h4;obtain⟨q1,cG,_⟩:=wG (z:=[U.int IntKind.i64 0]) (by rw[PM 0 acc dq];exact fl.2.1) m8 (by rw[Ci (dq _ hu)]);rw[mE]at q1 cG;rw[q1,cG,QW hm];have tW:U.toInt (List.getD [U.int .i64 ((0+j:Nat):Int)] 0 .undef)=(j:Int):=by rw[ap3];rfl
   rw[tW];have gk:=fl.By ln x8 hu;simp only[apB,QX h4,Dr,mE,rO hm,rP hm,rI hm,hs];have cR:=fl.at hi e sa aR ah iA h4 mE;refine⟨by omega,by omega,trivial,trivial,p_ ih,rfl,fun _=>⟨by omega,by omega,trivial,rfl,rfl,trivial,rfl,rfl,⟨gk.num.mono (by decide),gk.den.mono (by decide),aR.mono (by omega),ah.mono (by omega)⟩, ?_⟩,fun h=>by cases h⟩;simp only[U.toBool,U.cP,jE];rintro _ rfl _ rfl _ rfl;rw[IV hm];refine⟨by omega,by omega,⟨i+1,_,rfl,by omega,cR, ?_, ?_⟩,by omega⟩
   ·refine OV 0 _ _ ?_
    have qO:(acc.map Prod.fst).set j acc[j].1=acc.map Prod.fst:=by
     have h:= @List.set_getElem_self _ (acc.map Prod.fst) j (by simpa using aI);simpa using h
    rw[art,<-mE];exact qO.symm
   ·rw[bK,bK,art];rfl
  ·have aB:∀u∈acc,u.1≠m:=fun u hu e=>aj ⟨u,hu,e⟩
   obtain⟨q1,cG,cV⟩:=yB (n:=8) (z:=[U.int IntKind.i64 0]) (k:=m) (l:=k0 0 acc) fun r ao=>by
    obtain⟨t,aw,j,rfl⟩:=adm ao;rw[Ci (dq t aw)];exact aB t aw
   rw[q1,cG];have jw:=fl.none hi e sa aR ah iA aB;refine⟨by omega,by omega,trivial,trivial,p_ ih,rfl,(fun h=>by cases h),fun _=>⟨trivial,p_ ih,trivial,trivial,rfl,rfl,⟨aR.cC (by omega),ah.cC (by omega)⟩, ?_⟩⟩;simp only[U.toBool,U.cP];rintro _ rfl _ rfl _ rfl;rw[cV _ _ (su m),hs];refine⟨by rw[aqX];omega,⟨i+1,_,rfl,by omega,jw, ?_, ?_⟩,by omega⟩
   ·rw[QU,ap3]
   ·rw[bK,bK,aqo];rfl
 ·have hi:i=l.length:=by omega
  subst hi
  have j9:∀r∈bK acc,ft 1000000 r:=fun r ao=>by
   obtain⟨t,aw,rfl⟩:=apQ.1 ao;exact RP (fl.2.2.1 t aw).1 ((fl.By ln x8 aw).mono (by decide))
  refine⟨⟨j9,by rw[hs];omega⟩, ?_⟩;intro x aj;rw[Od dq]at aj
  have akO:∀r∈x,ft 1000000 r:=fun r ao=>by
   rw[aj]at ao;obtain⟨t,aw,rfl⟩:=apQ.1 ao;exact j9 _ (List.mem_map_of_mem (aqE.1 aw).1)
  refine⟨⟨fun r ao=>(akO r ao).row, ?_⟩,fun o aF=> ?_⟩
  ·rw[aj,hs];have:=ar1 (fun t:bd=> !decide (t.2=0)) acc;omega
  ·rw[PN dq fl.end fl.2.1 aj aF];exact ag
theorem CX {t:bd}(h:t.1.length=8):js 8 (jv t)=t.1:=Ci h _
theorem PO {t:bd}(h:t.1.length=8):(jv t).drop 8=[.bool (ca t.2), .af .u32 (b8 t.2), .af .u32 (b1 t.2)]:=QW h _
theorem PQ {p:List bd}(h:∀t∈p,t.1.length=8):(bK p).map (js 8)=p.map Prod.fst:=by
 rw[bK,aq2];exact arS fun t aw=>CX (h t aw)
theorem afr:aV false [] []=0:=H9 rfl
theorem za (p q:List bd):bK (p++q)=bK p++bK q:=aqo
theorem Wz (l:Rows)(K:R->Prop)(h:sE.T [.d (.ar 11 l)] K):Mj l K:=by
 obtain⟨⟨k,c,iA,bp,ln,x8,A_,ax⟩,ag⟩:=h;unfold Mj ai aT List.aS List.gV List.fN List.fO
 refine⟨fun v au bD=>∃(i:Nat) (acc:List bd),v=i/\i<=l.length/\oq k l i acc/\au=bK acc/\bD=acc.map (fun t=>ej t.1),fun v _ _=>l.length-v.toNat,
  ⟨0,[],rfl,by omega,⟨rfl, .nil,by simp,by simp⟩,rfl,rfl⟩, ?_⟩
 rintro _ _ _ ⟨i,acc,rfl,ab,fl,rfl,rfl⟩
 have dq:∀t∈acc,t.1.length=8:=fun t aw=>(fl.2.2.1 t aw).1.1
 have gM:=fl.2.2.2;simp only[aqe,apD,apB];refine⟨fun ba=> ?_,fun ba=> ?_⟩
 ·have hi:i<l.length:=by omega
  obtain⟨m,s,a,b,e,hm,ih,aR,ah⟩:=(bp _ (mO hi)).bP;simp only[e,qj hm,uO hm,su];have Gs:IntKind.wrap .i64 ((i:Int)+1)=((i+1:Nat):Int):=fZ (by omega) (by omega);rw[Gs];have sa:l4 m:=⟨hm,ih⟩
  have bm:(∃(j:Nat) (u:bd),acc[j]? =some u/\u.1=m/\dv 8 [.bool false, .af .u32 [], .af .u32 []] (bK acc) m=[.bool (ca u.2), .af .u32 (b8 u.2), .af .u32 (b1 u.2)]/\mV 8 (bK acc) m=true/\
   ∀v,ma 8 (ej m) v (bK acc)=(bK acc).set j (ej m++v))\/
   ((∀u∈acc,u.1≠m)/\dv 8 [.bool false, .af .u32 [], .af .u32 []] (bK acc) m=[.bool false, .af .u32 [], .af .u32 []]/\mV 8 (bK acc) m=false/\
     ∀v,ma 8 (ej m) v (bK acc)=bK acc++[ej m++v]):=by
   by_cases aj:∃u∈acc,u.1=m
   ·obtain⟨u,hu,mE⟩:=aj;obtain⟨j,aI,rfl⟩:=ar0 hu;have h4:acc[j]? =some acc[j]:=apT aI;have m8:(bK acc)[j]? =some (jv acc[j]):=by rw[bK,aqv,h4];rfl
    obtain⟨q1,cG,cV⟩:=wG (z:=[U.bool false, .af .u32 [], .af .u32 []]) (by rw[PQ dq];exact fl.2.1) m8 (by rw[CX (dq _ hu)]);rw[mE]at q1 cG cV;rw[PO (dq _ hu)]at q1;exact .inl ⟨j,_,h4,mE,q1,cG,fun v=>cV _ _ (su m)⟩
   ·have aB:∀u∈acc,u.1≠m:=fun u hu e=>aj ⟨u,hu,e⟩
    obtain⟨q1,cG,cV⟩:=yB (n:=8) (z:=[U.bool false, .af .u32 [], .af .u32 []]) (k:=m) (l:=bK acc) fun r ao=>by
     obtain⟨t,aw,rfl⟩:=apQ.1 ao;rw[CX (dq t aw)];exact aB t aw
    exact .inr ⟨aB,q1,cG,fun v=>cV _ _ (su m)⟩
  refine⟨by omega,by omega,trivial,fun au bD bx=>au=bK acc/\bx=[eP m s a b]/\((∃u∈acc,u.1=m)/\bD=acc.map (fun t=>ej t.1)\/(∀u∈acc,u.1≠m)/\bD=acc.map (fun t=>ej t.1)++[ej m]),⟨trivial,p_ ih, ?_⟩, ?_⟩
  ·rcases bm with⟨j,u,aI,mE,q1,cG,cV⟩|⟨aB,q1,cG,cV⟩
   ·rw[q1,cG];exact⟨trivial,rfl,rfl,(fun h=>by cases h),fun _=>⟨rfl,rfl, .inl ⟨⟨u,aq4 aI,mE⟩,rfl⟩⟩⟩
   ·rw[q1,cG];refine⟨trivial,rfl,rfl,fun _=>⟨trivial, ?_,rfl,rfl, .inr ⟨aB,rfl⟩⟩,(fun h=>by cases h)⟩;rw[aqX,apI];omega
  ·rintro _ bD _ ⟨rfl,rfl,aF⟩;have hq:List.getD [eP m s a b] 0 []=eP m s a b:=rfl;simp only[hq,qj hm,uO hm,su,rO hm,rP hm,rI hm];rcases bm with⟨j,u,aI,mE,q1,cG,cV⟩|⟨aB,q1,cG,cV⟩
   ·rw[q1];rcases aF with⟨_,rfl⟩|⟨jw,_⟩;rotate_left
    ·exact absurd mE (jw u (aq4 aI))
    have gk:=fl.By ln x8 (aq4 aI);have cR:=fl.at hi e sa aR ah iA aI mE;refine⟨trivial,trivial,p_ ih,trivial,rfl,rfl,trivial,rfl,rfl,⟨gk.num.mono (by decide),gk.den.mono (by decide),aR.mono (by omega),ah.mono (by omega)⟩, ?_⟩
    have nX:∀(x y z:U),[x,y,z].getD 0 .undef=x/\[x,y,z].getD 1 .undef=y/\[x,y,z].getD 2 .undef=z:=fun _ _ _=>⟨rfl,rfl,rfl⟩
    simp only[(nX _ _ _).1,(nX _ _ _).2.1,(nX _ _ _).2.2,U.toBool,U.cP,jE];rintro _ rfl _ rfl _ rfl;rw[cV];refine⟨p_ ih,⟨i+1,_,rfl,by omega,cR, ?_, ?_⟩,by omega⟩
    ·rw[bK,bK,art];rfl
    ·have iR:j<acc.length:=(aqp.1 aI).1
     have qO:(acc.map fun t=>ej t.1).set j (ej m)=acc.map fun t=>ej t.1:=by
      have h:= @List.set_getElem_self _ (acc.map fun t=>ej t.1) j (by simpa using iR);rw[List.getElem_map]at h
      have aJ:acc[j]=u:=by
       rw[apT iR]at aI;exact apK aI
      rw[aJ,mE]at h;exact h
     rw[art];exact qO.symm
   ·rw[q1];rcases aF with⟨⟨u,hu,mE⟩,_⟩|⟨_,rfl⟩
    ·exact absurd mE (aB u hu)
    have jw:=fl.none hi e sa aR ah iA aB;refine⟨trivial,trivial,p_ ih,trivial,rfl,rfl,trivial,rfl,rfl,⟨⟨.nil,aqT _⟩,⟨.nil,aqT _⟩,aR.mono (by omega),ah.mono (by omega)⟩, ?_⟩
    have nX:∀(x y z:U),[x,y,z].getD 0 .undef=x/\[x,y,z].getD 1 .undef=y/\[x,y,z].getD 2 .undef=z:=fun _ _ _=>⟨rfl,rfl,rfl⟩
    simp only[(nX _ _ _).1,(nX _ _ _).2.1,(nX _ _ _).2.2,U.toBool,U.cP,afr,ari];rintro _ rfl _ rfl _ rfl;rw[cV];refine⟨p_ ih,⟨i+1,_,rfl,by omega,jw, ?_, ?_⟩,by omega⟩
    ·rw[za];rfl
    ·rw[aqo];rfl
 ·have hi:i=l.length:=by omega
  subst hi
  have j9:∀t∈acc,ft 1000000 (jv t):=fun t aw=>RP (fl.2.2.1 t aw).1 ((fl.By ln x8 aw).mono (by decide))
  refine⟨fun v au bD bx=>∃j:Nat,v=j/\j<=acc.length/\au=bK acc/\bD=acc.map (fun t=>ej t.1)/\bx=bK ((acc.take j).filter fun t=> !decide (t.2=0)),fun v _ _ _=>acc.length-v.toNat,
   ⟨0,rfl,by omega,rfl,rfl,rfl⟩, ?_⟩
  rintro _ _ _ _ ⟨j,rfl,aI,rfl,rfl,rfl⟩;simp only[aqe,apD,apB,apI];refine⟨fun bJ=> ?_,fun bJ=> ?_⟩
  ·have UW:j<acc.length:=by omega
   have h4:acc[j]? =some acc[j]:=apT UW;have hu:acc[j]∈acc:=aqA UW;have sa:=(fl.2.2.1 _ hu).1;have ay:=fl.By ln x8 hu
   have nX:List.getD (acc.map fun t=>ej t.1) j []=ej acc[j].1:=by
    rw[apA,aqv,h4];rfl
   have m8:(bK acc)[j]? =some (jv acc[j]):=by rw[bK,aqv,h4];rfl
   obtain⟨q1,cG,cV⟩:=wG (z:=[U.bool false, .af .u32 [], .af .u32 []]) (by rw[PQ dq];exact fl.2.1) m8 (by rw[CX (dq _ hu)]);rw[PO (dq _ hu)]at q1;have dD:IntKind.wrap .i64 ((j:Int)+1)=((j+1:Nat):Int):=fZ (by omega) (by omega)
   have yj:(acc.take (j+1)).filter (fun t=> !decide (t.2=0))=(acc.take j).filter (fun t=> !decide (t.2=0))++(if acc[j].2=0 then[]else[acc[j]]):=by
    rw[ark,arG,h4,Option.toList_some]
    by_cases bc:acc[j].2=0<;>simp[bc]
   have KQ:∀(x y z:U),[x,y,z].getD 0 .undef=x/\[x,y,z].getD 1 .undef=y/\[x,y,z].getD 2 .undef=z:=fun _ _ _=>⟨rfl,rfl,rfl⟩
   simp only[nX,su,q1,kJ,sa.1,dD,(KQ _ _ _).1,(KQ _ _ _).2.1,(KQ _ _ _).2.2,U.toBool,U.cP,jE];refine⟨by omega,bJ,trivial,trivial,p_ sa.2,trivial,rfl,rfl,⟨ay.num.cC (by decide),ay.den.cC (by decide)⟩, ?_⟩;rintro _ rfl
   have hlen:(bK ((acc.take j).filter fun t=> !decide (t.2=0))).length<=1000000000:=by
    rw[hs];have:=ar1 (fun t:bd=> !decide (t.2=0)) (acc.take j);rw[ap_]at this;omega
   refine⟨fun cu=>⟨trivial,trivial,p_ sa.2,trivial,rfl,rfl, ?_,⟨j+1,rfl,by omega,trivial,trivial, ?_⟩,by omega⟩,fun cu=>⟨⟨j+1,rfl,by omega,trivial,trivial, ?_⟩,by omega⟩⟩
   ·rw[aqX];omega
   ·have bc:acc[j].2≠0:=by simpa[y8]using cu
    rw[yj,apy bc,za];rfl
   ·have bc:acc[j].2=0:=by simpa[y8]using cu
    rw[yj,apz bc,arY]
  ·have aI:j=acc.length:=by omega
   subst aI;rw[aqZ];refine⟨⟨fun r ao=> ?_, ?_⟩,fun o aF=> ?_⟩
   ·obtain⟨t,aw,rfl⟩:=apQ.1 ao;exact(j9 t (aqE.1 aw).1).row
   ·rw[hs];have:=ar1 (fun t:bd=> !decide (t.2=0)) acc;omega
   ·rw[PN dq fl.end fl.2.1 rfl aF];exact ag
end aa
end
section
namespace aa
open Go Go.ak
def dV:List Int:=[0,0,0,0,0,0,0,0]
def hV (k:Nat)(r:Row):Prop:=∃(m:List Int) (s:Bool) (a b:List Int),r=eP m s a b/\m.length=8/\bu k a/\bu k b
def dE (k:Nat)(p:List bd):Prop:=∀t∈p,c1 k t.2
def Raw (K n:Nat)(l:Rows):Prop:=∃k c:Nat,1<=k/\(∀r∈l,hV k r)/\(∀m,fM m l<=c)/\c*(k+1)<=K/\k<=K/\l.length<=n
def c4 (e:Int)(p:List bd):Prop:=∀t∈p,t.1.length=8/\∀x∈t.1,0<=x/\x<=e
def kz (v:Nat):Int->List bd->Int
 |d,[]=>d
 |d,t::p=>kz v (if t.1.getD v 0>d then t.1.getD v 0 else d) p
def hZ (p:List bd)(v:Nat):Int:=kz v (-1) p
def iB:Int->List bd->Int
 |d,[]=>d
 |d,t::p=>iB (if lL (t.1.getD 0 0) (t.1.drop 1)>d then lL (t.1.getD 0 0) (t.1.drop 1)else d) p
def x9 (m:List Int):Bool:=m.all fun x=>decide (0<=x)&&decide (x<=1024)
def ea (l:Rows):Bool:=l.all fun r=>x9 (dI r)
def vl (v:Nat)(p:List bd):List bd:=(p.filter fun t=>decide (0<t.1.getD v 0)).map fun t=>(t.1.set v (t.1.getD v 0-1),t.2*((t.1.getD v 0:Int):Rat))
def oG (n:Int)(p q:List bd)(v:Nat):Bool:=decide (1024<n*max (hZ p v) 0+max (hZ q v) 0)
def hi (n:Int)(p q:List bd):Bool:=oG n p q 0||oG n p q 1||oG n p q 2||oG n p q 3||oG n p q 4||oG n p q 5||oG n p q 6||oG n p q 7
def ec (p q:Rows):Bool:=ea p&&ea q
def cC (l:Rows):Prop:=c9 l/\l.length<1000000000
def aoq.T:=bk fun|[.agg [.d (.bool s), .d (.af .u32 a), .d (.af .u32 b)]]=>some (bu 400000 a/\bu 400000 b, .d (.ar 11 (bK (nrm [(dV,aV s a b)]))))|_=>none
def aoC.T:=bk fun|[.d (.int .i64 n)]=>some (i64 n, .d (.ar 11 (bK (nrm [(dV,(n:Rat))]))))|_=>none
def EI.T:=bk fun|[.d (.ar an p), .d (.ar gx q)]=>(match Nat.beq an 11,Nat.beq gx 11 with|true,true=>some (hA (p++q), .d (.ar 11 (bK (nrm (p.map aM++q.map aM)))))|_,_=>none)|_=>none
def Dt.T:=bk fun
 |[.d (.ar an p), .agg [.d (.bool s), .d (.af .u32 a), .d (.af .u32 b)]]=>(match Nat.beq an 11 with
  |true=>some (∃k c j,1<=k/\1<=j/\(∀r∈p,ft k r)/\(∀m,fM m p<=c)/\bu j a/\bu j b/\c*(2*(k+j)+2)<=900000/\k+j<=900000/\p.length<=1000000000, .d (.ar 11 (bK (nrm (eS (aV s a b) (p.map aM))))))
  |false=>none)
 |_=>none
def EJ.T:=bk fun|[.d (.ar an p)]=>(match Nat.beq an 11 with|true=>some (∃k c,1<=k/\(∀r∈p,ft k r)/\(∀m,fM m p<=c)/\c*(2*(k+1)+2)<=900000/\k+1<=900000/\p.length<=1000000000, .d (.ar 11 (bK (nrm (eS (-1) (p.map aM))))))|false=>none)|_=>none
def EK.T:=bk fun
 |[.d (.ar an p), .d (.ar gx q)]=>(match Nat.beq an 11,Nat.beq gx 11 with
  |true,true=>some (∃k c j d,1<=k/\1<=j/\(∀r∈p,ft k r)/\(∀r∈q,ft j r)/\(∀m,fM m p<=c)/\(∀m,fM m q<=d)/\1<=d/\(c+1)*(2*(k+d*(j+2))+2)<=900000/\p.length+q.length<=1000000000, .d (.ar 11 (bK (nrm (p.map aM++eS (-1) (q.map aM))))))
  |_,_=>none)
 |_=>none
def rQ (p q:Rows):Prop:=(∀r∈p,c4 2000000000000000000 [aM r]/\eT r)/\(∀r∈q,c4 2000000000000000000 [aM r]/\eT r)/\
 ∃k j c,1<=k/\1<=j/\(∀r∈p,hV k r)/\(∀r∈q,hV j r)/\(p.length<=c/\(∀m,fM m q<=1)\/q.length<=c/\∀m,fM m p<=1)/\c*(2*(k+j)+2)<=900000/\k+j<=900000/\
  p.length*q.length<=1000000000/\p.length<=1000000000/\q.length<=1000000000
def EL.T:=bk fun
 |[.d (.ar an p), .d (.ar gx q)]=>(match Nat.beq an 11,Nat.beq gx 11 with
  |true,true=>some (rQ p q, .d (.ar 11 (bK (nrm (dJ (p.map aM) (q.map aM))))))
  |_,_=>none)
 |_=>none
def EM.T:=bk fun|[.d (.ar an p), .d (.int .i64 v)]=>(match Nat.beq an 11 with|true=>some (cC p/\0<=v/\v<8, .d (.int .i64 (hZ (p.map aM) v.toNat)))|false=>none)|_=>none
def EN.T:=bk fun|[.d (.ar an p)]=>(match Nat.beq an 11 with|true=>some (cC p, .d (.int .i64 (iB 0 (p.map aM))))|false=>none)|_=>none
def aoD.T:=bk fun
 |[.d (.ar an p), .d (.int .i64 v)]=>(match Nat.beq an 11 with
  |true=>some ((0<=v/\v<8)/\c4 1000000000 (p.map aM)/\∃k c,1<=k/\(∀r∈p,ft k r)/\(∀m,fM m p<=c)/\c*(2*(k+1)+2)<=900000/\k+1<=900000/\p.length<=1000000000, .d (.ar 11 (bK (nrm (vl v.toNat (p.map aM))))))
  |false=>none)
 |_=>none
def xe.T:=bk fun|[.d (.ar an p)]=>(match Nat.beq an 11 with|true=>some (cC p, .d (.bool (ea p)))|false=>none)|_=>none
def CY.T:=bk fun|[.d (.ar an p)]=>(match Nat.beq an 11 with|true=>some (cC p, .tup [.d (.ar 11 (if iB 0 (p.map aM)>1024 then[]else p)), .d (.int .i64 (if iB 0 (p.map aM)>1024 then 9 else 0))])|false=>none)|_=>none
def aor.T:=bk fun|[.d (.ar an p)]=>(match Nat.beq an 11 with|true=>some (cC p/\Raw 400000 1000000000 p, .tup [.d (.ar 11 (bK (if ea p then nrm (p.map aM)else[]))), .d (.int .i64 (if ea p then 0 else 2))])|false=>none)|_=>none
def nC:Rat:=1
def EO.T:=bk fun|[.d (.int .i64 v)]=>some (True, .tup [.d (.ar 11 (bK (if 0<=v/\v<8 then[(dV.set v.toNat 1,nC)]else[]))), .d (.int .i64 (if 0<=v/\v<8 then 0 else 1))])|_=>none
def om (p q:Rows):Prop:=(cC p/\cC q)/\∃K J n m,Raw K n p/\Raw J m q/\4*(K+J)+20<=900000/\n+m<=999999999
def EP.T:=bk fun
 |[.d (.ar an p), .d (.ar gx q)]=>(match Nat.beq an 11,Nat.beq gx 11 with
  |true,true=>some (om p q, .tup [.d (.ar 11 (bK (if ec p q=true then nrm (p.map aM++q.map aM)else[]))), .d (.int .i64 (if ec p q=true then 0 else 2))])
  |_,_=>none)
 |_=>none
def ER.T:=bk fun
 |[.d (.ar an p), .d (.ar gx q)]=>(match Nat.beq an 11,Nat.beq gx 11 with
  |true,true=>some (om p q, .tup [.d (.ar 11 (bK (if ec p q=true then nrm (p.map aM++eS (-1) (q.map aM))else[]))), .d (.int .i64 (if ec p q=true then 0 else 2))])
  |_,_=>none)
 |_=>none
def zS.T (g:Nat):=bk fun
 |[.d (.ar an p), .d (.ar gx q), .fn f]=>(match Nat.beq an 11,Nat.beq gx 11,Nat.beq f g with
  |true,true,true=>some (om p q, .tup [.d (.ar 11 (bK (if ec p q=true then nrm (p.map aM++q.map aM)else[]))), .d (.int .i64 (if ec p q=true then 0 else 2))])
  |_,_,_=>none)
 |_=>none
def zT.T (g:Nat):=bk fun
 |[.d (.ar an p), .d (.ar gx q), .fn f]=>(match Nat.beq an 11,Nat.beq gx 11,Nat.beq f g with
  |true,true,true=>some (om p q, .tup [.d (.ar 11 (bK (if ec p q=true then nrm (p.map aM++eS (-1) (q.map aM))else[]))), .d (.int .i64 (if ec p q=true then 0 else 2))])
  |_,_,_=>none)
 |_=>none
def xE (l:Rows):Prop:=∀r∈l,∀x∈dI r,-1000000000000<=x/\x<=1000000000000
def ES.T:=bk fun
 |[.d (.ar an p), .d (.int .i64 n), .d (.ar gx q)]=>(match Nat.beq an 11,Nat.beq gx 11 with
  |true,true=>some ((cC p/\cC q)/\(xE p/\xE q)/\0<=n/\n<=1000, .d (.bool (hi n (p.map aM) (q.map aM))))
  |_,_=>none)
 |_=>none
def mF (p q:List bd):Bool:= !decide (p=[])&& !decide (q=[])&&hi 1 p q
def zU (p q:Rows):Prop:=(cC p/\cC q)/\∃K J n m,Raw K n p/\Raw J m q/\(n*(2*(K+J)+2)<=900000\/m*(2*(K+J)+2)<=900000)/\n*m<=999999999/\K<=400000/\J<=400000
def qw (p q:Rows):Bool:=ec p q&& !mF (nrm (p.map aM)) (nrm (q.map aM))
def ET.T:=bk fun
 |[.d (.ar an p), .d (.ar gx q)]=>(match Nat.beq an 11,Nat.beq gx 11 with
  |true,true=>some (zU p q, .tup [.d (.ar 11 (bK (if qw p q=true then nrm (dJ (p.map aM) (q.map aM))else[]))), .d (.int .i64 (if ec p q=true then(if mF (nrm (p.map aM)) (nrm (q.map aM))then 9 else 0)else 2))])
  |_,_=>none)
 |_=>none
def hL (p:Rows)(v:Int):Int:=if ea p then(if 0<=v/\v<8 then 0 else 1)else 2
def Ea.T:=bk fun
 |[.d (.ar an p), .d (.int .i64 v)]=>(match Nat.beq an 11 with
  |true=>some (cC p/\Raw 400000 1000000000 p, .tup [.d (.ar 11 (bK (if hL p v=0 then nrm (p.map aM)else[]))), .d (.int .i64 (hL p v))])
  |false=>none)
 |_=>none
def aoE.T:=bk fun
 |[.d (.ar an p), .d (.int .i64 v)]=>(match Nat.beq an 11 with
  |true=>some (cC p/\Raw 400000 1000000000 p, .tup [.d (.int .i64 (if hL p v=0 then hZ (nrm (p.map aM)) v.toNat else 0)), .d (.int .i64 (hL p v))])
  |false=>none)
 |_=>none
def aoF.T:=bk fun
 |[.d (.ar an p), .d (.int .i64 v)]=>(match Nat.beq an 11 with
  |true=>some (cC p/\Raw 400000 1000000000 p, .tup [.d (.ar 11 (bK (if hL p v=0 then nrm (vl v.toNat (p.map aM))else[]))), .d (.int .i64 (hL p v))])
  |false=>none)
 |_=>none
def tj (r:Row):List Int×Bool×List Int×List Int:=(dI r,(r.getD 8 .undef).toBool,(r.getD 9 .undef).cP,(r.getD 10 .undef).cP)
def aos.T:=bk fun
 |[.d (.ar an p), .d (.ar gx q)]=>(match Nat.beq an 11,Nat.beq gx 11 with
  |true,true=>some ((∀r∈p,hV 1000000 r)/\(∀r∈q,hV 1000000 r)/\p.length<1000000000/\q.length<1000000000, .d (.bool (decide (p.map tj=q.map tj))))
  |_,_=>none)
 |_=>none
end aa
end
section
namespace aa
open Go Go.ak
abbrev gW:Row:=[.int .i64 2, .int .i64 0, .int .i64 0, .int .i64 0, .int .i64 0, .int .i64 0, .int .i64 0, .int .i64 0, .bool false, .af .u32 [1], .af .u32 [1]]
abbrev gX:Row:=[.int .i64 0, .int .i64 2, .int .i64 0, .int .i64 0, .int .i64 0, .int .i64 0, .int .i64 0, .int .i64 0, .bool true, .af .u32 [1], .af .u32 [1]]
abbrev qy:Rows:=[gW,gX]
abbrev An:Rows:=[[.str [112]],[.str [113]]]
def zm.T:=bk fun|[.d (.ar an p)]=>(match Nat.beq an 11 with|true=>some (p=qy, .d (.bool true))|false=>none)|_=>none
def zb.T:=bk fun|[.d (.ar an p)]=>(match Nat.beq an 11 with|true=>some (p=qy, .d (.ar 11 qy))|false=>none)|_=>none
def zE.T:=bk fun|[.agg [.d (.bool s), .d (.af .u32 a), .d (.af .u32 b)]]=>some (a=[1]/\b=[1], .d (.int .i64 (match s with|true=>-1|false=>1)))|_=>none
def zV.T:=bk fun|[.d (.int .i64 n)]=>some (n=1, .agg [.d (.bool false), .d (.af .u32 [1]), .d (.af .u32 [1])])|_=>none
def zn.T:=bk fun|[.agg [.d (.bool s), .d (.af .u32 a), .d (.af .u32 b)], .agg [.d (.bool t), .d (.af .u32 c), .d (.af .u32 d)]]=>some ((s=false/\t=false)/\a=[1]/\b=[1]/\c=[1]/\d=[1], .d (.bool true))|_=>none
def rB.T:=bk fun|[.d (.int .i64 n)]=>some (n=2, .d (.str [50]))|_=>none
def zc.T:=bk fun|[.d (.int .i64 n), .d (.int .i64 b)]=>some (n=2/\b=10, .d (.str [50]))|_=>none
def zF.T:=bk fun|[.d (.ar an l), .d (.str Bs)]=>(match Nat.beq an 1,l with|true,[[.str x]]=>some (True, .d (.str x))|_,_=>none)|_=>none
def zd.T:=bk fun
 |[.d (.ar an p), .d (.ar gx n)]=>(match Nat.beq an 11,Nat.beq gx 1 with
  |true,true=>some (p=qy/\n=An, .tup [.d (.str [112,94,50,32,45,32,113,94,50]), .d (.int .i64 0)])
  |_,_=>none)
 |_=>none
end aa
end
section
namespace aa
open Go Go.ak
def yr:List Int:=[0,0,1,1,2]
def mf (l:List Int)(a:Int):Nat->List Int×Int
 |0=>(dV,a)
 |k+1=>((mf l a k).1.set k (m3 l (mf l a k).2 yr),c6 l (mf l a k).2 5)
def oI (l:List Int)(a:Int):Bool:=decide (fr l (jM l a) 8=7)
def qP (l:List Int)(a:Int):Int:=if oI l a then xc l (c6 l (jM l a) 8)else c6 l (jM l a) 8
def zW (l:List Int)(a:Int)(v:Nat):Row:=
 eP (mf l (qP l a) v).1 (if oI l a then xb l (c6 l (jM l a) 8)else ca (gJ l a)) (if oI l a then sY l (c6 l (jM l a) 8)else b8 (gJ l a)) (if oI l a then sZ l (c6 l (jM l a) 8)else b1 (gJ l a))
def U1 (l:List Int)(a:Int)(v:Nat):Int:=(mf l (qP l a) v).2
def o8 (l:List Int)(a:Int)(v:Nat):Nat->Rows×Int
 |0=>([],a)
 |k+1=>((o8 l a v k).1++[zW l (o8 l a v k).2 v],U1 l (o8 l a v k).2 v)
def m4 (l:List Int)(a:Int)(v n:Int):Rows×Int:=o8 l (c6 l a (n+1)) v.toNat (fr l a (n+1)).toNat
def Du.T:=e7 fun
 | .ptr z o, .cells [.d (.af .i64 l), .d (.int .i64 a), .d (.int .i64 s)],[.d (.int .i64 v), .d (.int .i64 n)]=>(match Nat.beq z 0,Nat.beq o 0 with
  |true,true=>some (ds l a/\(0<=v/\v<=8)/\0<=n/\n<=1000, .cells [.d (.af .i64 l), .d (.int .i64 (m4 l a v n).2), .d (.int .i64 s)], .d (.ar 11 (m4 l a v n).1))
  |_,_=>none)
 |_,_,_=>none
end aa
end
section
open Go Go.ak
namespace aa
theorem hV.mono {k j:Nat}{r:Row}(h:hV k r)(ag:k<=j):hV j r:=by
 obtain⟨m,s,a,b,rfl,hm,ab,ad⟩:=h;exact⟨m,s,a,b,rfl,hm,ab.mono ag,ad.mono ag⟩
theorem hV.row {k:Nat}{r:Row}(h:hV k r):eT r:=by
 obtain⟨m,s,a,b,rfl,hm,_⟩:=h
 match m,hm with
 |[oN,fX,gg,h6,jS,jT,oO,sh],_=>exact⟨oN,fX,gg,h6,jS,jT,oO,sh,s,a,b,rfl⟩
theorem hV.len {k:Nat}{r:Row}(h:hV k r):(aM r).1.length=8:=by
 obtain⟨m,s,a,b,rfl,hm,_⟩:=h;rw[oj hm];exact hm
theorem hV.U2 {k:Nat}{r:Row}(h:hV k r)(hm:l4 (aM r).1):ft k r:=by
 obtain⟨m,s,a,b,rfl,dq,ab,ad⟩:=h;rw[oj dq]at hm;exact⟨m,s,a,b,rfl,dq,hm.2,ab,ad⟩
theorem ft.Ga {k:Nat}{r:Row}(h:ft k r):hV k r:=by
 obtain⟨m,s,a,b,rfl,dq,_,ab,ad⟩:=h;exact⟨m,s,a,b,rfl,dq,ab,ad⟩
theorem ft.pV {k:Nat}{r:Row}(h:ft k r):l4 (aM r).1:=by
 obtain⟨m,s,a,b,rfl,dq,bc,ab,ad⟩:=h;show l4 (aM (eP m s a b)).1;rw[oj dq];exact⟨dq,bc⟩
theorem sN:∀{p:List bd} {t:bd},t∈nrm p->∃u∈p,u.1=t.1
 |[],t,h=>by cases h
 |x::p,t,h=>by
  rcases Iy h with h|⟨v,aO,e⟩
  ·exact⟨x,by simp,h.symm⟩
  ·obtain⟨u,hu,aJ⟩:=sN aO;exact⟨u,by simp[hu],by rw[aJ,e]⟩
theorem RR (t:bd):∀p:List bd,(ins t p).length<=p.length+1
 |[]=>by unfold aa.ins;split<;>simp
 |u::p=>by
  have bI:=RR t p;unfold aa.ins;split
  ·split
   ·rw[aqj];omega
   ·rw[aqj,aqj];omega
  ·split
   ·split
    ·omega
    ·rw[aqj];omega
   ·rw[aqj,aqj];omega
theorem uQ:∀p:List bd,(nrm p).length<=p.length
 |[]=>apF _
 |t::p=>by
  have:=RR t (nrm p);have:=uQ p;rw[nrm,aqj];omega
def eB (m:List Int):List bd->Nat
 |[]=>0
 |t::p=>(if t.1=m then 1 else 0)+eB m p
theorem sO (m:List Int):∀l:Rows,fM m l=eB m (l.map aM)
 |[]=>rfl
 |r::l=>by rw[fM,ap2,eB,sO m l];rfl
theorem uD (m:List Int):∀a b:List bd,eB m (a++b)=eB m a+eB m b
 |[],b=>by rw[List.nil_append,eB,ap3]
 |r::a,b=>by rw[aqW,eB,eB,uD m a b,aqs]
theorem HP {m:List Int}:∀{p:List bd},(∀t∈p,t.1≠m)->eB m p=0
 |[],_=>rfl
 |t::p,h=>by rw[eB,apy (h t (by simp)),HP fun u hu=>h u (by simp[hu])]
theorem Dv (m:List Int):∀p:List bd,eB m p<=p.length
 |[]=>apF _
 |t::p=>by have:=Dv m p;rw[eB,aqj];split<;>omega
theorem RS {m:List Int}:∀{p:List bd},p.Pairwise (fun t u=>t.1≠u.1)->eB m p<=1
 |[],_=>aqT _
 |t::p,h=>by
  obtain⟨ab,ad⟩:=arx.1 h;rw[eB];split
  ·rename_i e;rw[HP fun u hu=>e▸(ab u hu).symm];exact apF _
  ·have:=RS (m:=m) ad;omega
theorem h5.jm {p:List bd}(h:h5 p)(m:List Int):eB m p<=1:=RS (h.1.imp fun g=>Td g)
theorem OX {m:List Int}:∀{p q:List bd},p.map Prod.fst=q.map Prod.fst->eB m p=eB m q
 |[],[],_=>rfl
 |[],_::_,h=>by simp at h
 |_::_,[],h=>by simp at h
 |t::p,u::q,h=>by
  simp only[ap2,arl]at h;rw[eB,eB,h.1,OX h.2]
theorem Cj (m:List Int)(c:Rat)(p:List bd):eB m (eS c p)=eB m p:=OX (by rw[eS,aq2];rfl)
theorem SK {k:Nat}:∀{p:List bd},dE k p->∀t∈nrm p,c1 (eB t.1 p*(k+1)) t.2
 |[],_,t,h=>by cases h
 |x::p,h,t,aw=>by
  have bI:=SK (p:=p) fun u hu=>h u (by simp[hu]);have aj:=h x (by simp)
  have key:∀{q:List bd},(∀t∈q,c1 (eB t.1 p*(k+1)) t.2)->∀t∈ins x q,c1 (eB t.1 (x::p)*(k+1)) t.2:=by
   intro q
   have up:∀{u:bd},c1 (eB u.1 p*(k+1)) u.2->c1 (eB u.1 (x::p)*(k+1)) u.2:=fun{u} hu=>hu.mono (apP _ (by rw[eB];omega))
   have I:c1 (eB x.1 (x::p)*(k+1)) x.2:=aj.mono (by rw[eB,apz rfl,apU];omega)
   induction q with
   |nil=>
    intro _ t aw;unfold aa.ins at aw;split at aw
    ·cases aw
    ·rw[aqy.1 aw];exact I
   |cons u q anf=>
    intro a6 t aw;have hu:=a6 u (by simp)
    have pq:∀t∈q,c1 (eB t.1 p*(k+1)) t.2:=fun t aw=>a6 t (by simp[aw])
    unfold aa.ins at aw;split at aw
    ·rename_i e;split at aw
     ·exact up (pq t aw)
     ·rcases ap9.1 aw with rfl|aw
      ·refine(hu.add aj).mono ?_;show _<=eB u.1 (x::p)*(k+1);rw[eB,apz e,apU,aqO];omega
      ·exact up (pq t aw)
    ·split at aw
     ·split at aw
      ·exact up (a6 t aw)
      ·rcases ap9.1 aw with rfl|aw
       ·exact I
       ·exact up (a6 t aw)
     ·rcases ap9.1 aw with rfl|aw
      ·exact up hu
      ·exact anf pq t aw
  exact key bI t aw
theorem dE.mono {k j:Nat}{p:List bd}(h:dE k p)(ag:k<=j):dE j p:=fun t aw=>(h t aw).mono ag
theorem dE.app {k:Nat}{p q:List bd}(h:dE k p)(g:dE k q):dE k (p++q):=fun t aw=>(aqV.1 aw).elim (h t) (g t)
theorem dE.nrm {k c:Nat}{p:List bd}(h:dE k p)(aC:∀m,eB m p<=c):dE (c*(k+1)) (nrm p):=fun t aw=>(SK h t aw).mono (apP _ (aC _))
theorem dE.scale {k j:Nat}{c:Rat}(aC:c1 j c)(aI:1<=j){p:List bd}(h:dE k p):dE (k+j) (eS c p):=fun t aw=>by
 obtain⟨u,hu,rfl⟩:=apQ.1 aw;exact(h u hu).mul aC (by omega)
theorem dE.mul {k j:Nat}(ag:1<=k):∀{p q:List bd},dE k p->dE j q->dE (k+j) (dJ p q)
 |[],_,_,_=>fun t aw=>by cases aw
 |s::p,q,h,g=>fun t aw=>by
  rcases aqV.1 aw with aw|aw
  ·obtain⟨u,hu,rfl⟩:=apQ.1 aw;exact(h s (by simp)).mul (g u hu) (by omega)
  ·exact dE.mul ag (fun u hu=>h u (by simp[hu])) g t aw
theorem hV.rs {k:Nat}{r:Row}(h:hV k r)(ag:1<=k):c1 k (aM r).2:=by
 obtain⟨m,s,a,b,rfl,hm,ab,ad⟩:=h;rw[oj hm];exact c1.of ab ad ag
theorem zo {k:Nat}{l:Rows}(h:∀r∈l,hV k r)(ag:1<=k):dE k (l.map aM):=fun t aw=>by
 obtain⟨r,ao,rfl⟩:=apQ.1 aw;exact(h r ao).rs ag
theorem adq {k:Nat}{t:bd}(dq:t.1.length=8)(h:c1 k t.2):hV k (jv t):=⟨_,_,_,_,rfl,dq,h.num,h.den⟩
theorem ri {k:Nat}{p:List bd}(h:dE k p)(dq:∀t∈p,t.1.length=8):∀r∈bK p,hV k r:=fun r ao=>by
 obtain⟨t,aw,rfl⟩:=apQ.1 ao;exact adq (dq t aw) (h t aw)
theorem sy {p:List bd}(dq:∀t∈p,t.1.length=8)(m:List Int):fM m (bK p)=eB m p:=by rw[sO,fP dq]
theorem Raw.mono {K J n m:Nat}{l:Rows}(h:Raw K n l)(e5:K<=J)(aB:n<=m):Raw J m l:=by
 obtain⟨k,c,ab,ad,aA,ba,bJ,cu⟩:=h;exact⟨k,c,ab,ad,aA,by omega,by omega,by omega⟩
theorem Raw.ar {K n:Nat}{l:Rows}(h:Raw K n l):∀r∈l,hV K r:=fun r ao=>by
 obtain⟨k,c,ab,ad,aA,ba,bJ,cu⟩:=h;exact(ad r ao).mono bJ
theorem Raw.len {K n:Nat}{l:Rows}(h:Raw K n l):l.length<=n:=by obtain⟨k,c,ab,ad,aA,ba,bJ,cu⟩:=h;exact cu
theorem Raw.fA {K n:Nat}{l:Rows}(h:Raw K n l):dE K (nrm (l.map aM)):=by
 obtain⟨k,c,ab,ad,aA,ba,bJ,cu⟩:=h;exact((zo ad ab).nrm fun m=>by rw[<-sO];exact aA m).mono ba
theorem uE {p:List bd}{n:Nat}(h:p.length<=n):(nrm p).length<=n:=apS (uQ p) h
theorem Raw.mw {K n:Nat}{l:Rows}(h:Raw K n l):(nrm (l.map aM)).length<=n:=uE (by rw[apI];exact h.len)
theorem Q0 {k n:Nat}{p:List bd}(h:dE k p)(ag:1<=k)(dq:∀t∈p,t.1.length=8)(aC:∀m,eB m p<=1)(aB:p.length<=n):Raw (k+1) n (bK p):=
 ⟨k,1,ag,ri h dq,fun m=>by rw[sy dq];exact aC m,by omega,by omega,by rw[hs];exact aB⟩
theorem RT {k n:Nat}{l:Rows}(h:∀r∈l,hV k r)(ag:1<=k)(aB:l.length<=n)(ab:1<=n):Raw (n*(k+1)) n l:=
 ⟨k,n,ag,h,fun m=>by rw[sO];exact apS (Dv m _) (by rw[apI];exact aB),apF _,by have:=apP (k+1) ab;omega,aB⟩
theorem Y2 {c k:Nat}(K:Nat)(h:c*(k+1)<=K):c*(2*k+2)<=2*K:=by
 rw[show 2*k+2=2*(k+1) by omega,aqC];omega
theorem Q1:∀{a b c:List Int},b.length=a.length->c.length=a.length->ga a b=ga a c->b=c
 |[],[],[],_,_,_=>rfl
 |a::p,b::q,c::r,ab,ad,h=>by
  simp only[ga,arl]at h;rw[show b=c by omega,Q1 (by simpa using ab) (by simpa using ad) h.2]
 |[],_::_,_,h,_,_=>by simp at h
 |[],[],_::_,_,h,_=>by simp at h
 |_::_,[],_,h,_,_=>by simp at h
 |_::_,_::_,[],_,h,_=>by simp at h
theorem abM {s:bd}(ay:s.1.length=8)(m:List Int):∀{q:List bd},(∀t∈q,t.1.length=8)->(∀x,eB x q<=1)->eB m (h3 s q)<=1:=fun{q} dq a6=>by
 by_cases aj:∃u∈q,ga s.1 u.1=m
 ·obtain⟨u,hu,e⟩:=aj
  have key:∀{q:List bd},(∀t∈q,t.1.length=8)->eB m (h3 s q)<=eB u.1 q:=by
   intro q
   induction q with
   |nil=>intro _;exact apF _
   |cons t q bI=>
    intro h;show(if ga s.1 t.1=m then 1 else 0)+eB m (h3 s q)<=(if t.1=u.1 then 1 else 0)+eB u.1 q;have:=bI fun v aO=>h v (by simp[aO]);split
    ·rename_i aJ;rw[apz (Q1 (by rw[h t (by simp),ay]) (by rw[dq u hu,ay]) (aJ.trans e.symm))];omega
    ·omega
  exact apS (key dq) (a6 _)
 ·rw[HP fun t aw=>by
   obtain⟨u,hu,rfl⟩:=apQ.1 aw
   exact fun e=>aj ⟨u,hu,e⟩]
  exact aqT _
theorem Cz (m:List Int){q:List bd}(dq:∀t∈q,t.1.length=8)(a6:∀x,eB x q<=1):∀{p:List bd},(∀t∈p,t.1.length=8)->eB m (dJ p q)<=p.length
 |[],_=>aqT _
 |s::p,h=>by
  have ab:=abM (h s (by simp)) m dq a6;have ad:=Cz m dq a6 (p:=p) fun t aw=>h t (by simp[aw]);rw[dJ,uD,aqj];omega
def lM (p:List bd):List bd:=p.map fun t=>(t.1,1)
theorem HQ (m:List Int):∀p:List bd,((eB m p:Nat):Rat)=dA (lM p) m
 |[]=>rfl
 |t::p=>by
  show(((if t.1=m then 1 else 0)+eB m p:Nat):Rat)=(if t.1=m then 1 else 0)+dA (lM p) m;rw[<-HQ m p];split
  ·grind
  ·grind
theorem HR (q:List bd):∀p:List bd,lM (dJ p q)=dJ (lM p) (lM q)
 |[]=>rfl
 |s::p=>by
  have e:lM (h3 s q)=h3 (s.1,1) (lM q):=by
   rw[lM,lM,h3,h3,aq2,aq2];refine arS fun t _=> ?_;show(ga s.1 t.1,(1:Rat))=(ga s.1 t.1,1*1);rw[ara]
  have aJ:lM (h3 s q++dJ p q)=lM (h3 s q)++lM (dJ p q):=aqo;show lM (h3 s q++dJ p q)=h3 (s.1,1) (lM q)++dJ (lM p) (lM q);rw[aJ,e,HR q p]
theorem abN (p q:List bd)(m:List Int):eB m (dJ p q)=eB m (dJ q p):=by
 have h:((eB m (dJ p q):Nat):Rat)=((eB m (dJ q p):Nat):Rat):=by rw[HQ,HQ,HR,HR,abz]
 exact Rat.natCast_inj.1 h
theorem OY (m:List Int){p q:List bd}(dq:∀t∈p,t.1.length=8)(aE:∀x,eB x p<=1)(g8:∀t∈q,t.1.length=8):eB m (dJ p q)<=q.length:=by
 rw[abN];exact Cz m dq aE g8
theorem c4.mono {e f:Int}{p:List bd}(h:c4 e p)(aU:e<=f):c4 f p:=fun t aw=>⟨(h t aw).1,fun x aj=>⟨((h t aw).2 x aj).1,aq0 ((h t aw).2 x aj).2 aU⟩⟩
theorem c4.pV {e:Int}{p:List bd}(h:c4 e p)(he:e<=4000000000000000000):∀t∈p,l4 t.1:=fun t aw=>⟨(h t aw).1,fun x aj=>by have:=(h t aw).2 x aj;omega⟩
theorem c4.len {e:Int}{p:List bd}(h:c4 e p):∀t∈p,t.1.length=8:=fun t aw=>(h t aw).1
theorem c4.app {e:Int}{p q:List bd}(h:c4 e p)(g:c4 e q):c4 e (p++q):=fun t aw=>by
 rcases aqV.1 aw with aw|aw
 ·exact h t aw
 ·exact g t aw
theorem c4.sub {e:Int}{p q:List bd}(h:c4 e p)(a6:∀t∈q,∃u∈p,u.1=t.1):c4 e q:=fun t aw=>by
 obtain⟨u,hu,e⟩:=a6 t aw;rw[<-e];exact h u hu
theorem c4.nrm {e:Int}{p:List bd}(h:c4 e p):c4 e (nrm p):=h.sub fun _=>sN
theorem c4.scale {e:Int}{p:List bd}(h:c4 e p)(c:Rat):c4 e (eS c p):=h.sub fun t aw=>by
 obtain⟨u,hu,rfl⟩:=apQ.1 aw;exact⟨u,hu,rfl⟩
theorem Ig:∀{a b:List Int} {x:Int},x∈ga a b->∃y∈a,∃z∈b,x=y+z
 |a::p,b::q,x,h=>by
  rcases ap9.1 h with rfl|h
  ·exact⟨a,by simp,b,by simp,rfl⟩
  ·obtain⟨y,bo,z,bm,e⟩:=Ig h;exact⟨y,by simp[bo],z,by simp[bm],e⟩
 |[],_,x,h=>by simp[ga]at h
 |_::_,[],x,h=>by simp[ga]at h
theorem ze:∀{p q:List bd} {t:bd},t∈dJ p q->∃u∈p,∃v∈q,t=(ga u.1 v.1,u.2*v.2)
 |[],_,t,h=>by cases h
 |s::p,q,t,h=>by
  rcases aqV.1 h with h|h
  ·obtain⟨v,aO,rfl⟩:=apQ.1 h;exact⟨s,by simp,v,aO,rfl⟩
  ·obtain⟨u,hu,v,aO,e⟩:=ze h;exact⟨u,by simp[hu],v,aO,e⟩
theorem c4.mul {e f:Int}{p q:List bd}(h:c4 e p)(g:c4 f q):c4 (e+f) (dJ p q):=fun t aw=>by
 obtain⟨u,hu,v,aO,rfl⟩:=ze aw;refine⟨by rw[wU _ _ (by rw[(h u hu).1,(g v aO).1])];exact(h u hu).1,fun x aj=> ?_⟩;obtain⟨y,bo,z,bm,rfl⟩:=Ig aj;have:=(h u hu).2 y bo;have:=(g v aO).2 z bm;omega
theorem cC.ar {l:Rows}(h:cC l):c9 l:=h.1
theorem mX {l:Rows}(h:ea l=true)(ao:c9 l):c4 1024 (l.map aM):=fun t aw=>by
 obtain⟨r,hm,rfl⟩:=apQ.1 aw;have ab:=apR.1 h r hm;unfold x9 at ab;refine⟨by simp[aM,dI,(ao r hm).len],fun x aj=> ?_⟩;have:=apR.1 ab x aj;simpa using this
theorem zf {k:Nat}{p:List bd}(h:dE k p)(he:∀t∈p,t.1.length=8)(aB:p.length<1000000000):cC (bK p):=
 ⟨fun r ao=>(ri h he r ao).row,by rw[hs];omega⟩
theorem aeL {p:List bd}(h:∀t∈p,l4 t.1):∀r∈bK p,l4 (aM r).1:=fun r ao=>by
 obtain⟨t,aw,rfl⟩:=apQ.1 ao;rw[Ds (h t aw).1];exact h t aw
theorem CZ {k:Nat}{p:List bd}(h:dE k p)(he:∀t∈p,l4 t.1):∀r∈bK p,ft k r:=fun r ao=>
 (ri h (fun t aw=>(he t aw).1) r ao).U2 (aeL he r ao)
theorem wN {k c:Nat}{p:List bd}(h:dE k p)(ag:1<=k)(he:∀t∈p,l4 t.1)(aC:∀m,eB m p<=c)(nA:c*(2*k+2)<=900000)(A_:k<=900000)(aB:p.length<=1000000000):hA (bK p):=
 ⟨k,c,ag,CZ h he,fun m=>by rw[sy fun t aw=>(he t aw).1];exact aC m,nA,A_,by rw[hs];exact aB⟩
theorem PS (p q:List bd):bK p++bK q=bK (p++q):=(za p q).symm
theorem rj {l:Rows}{K n:Nat}(h:ea l=true)(aU:cC l)(hw:Raw K n l)(e5:K<=400000):hA l:=by
 obtain⟨k,c,ab,ad,aA,ba,bJ,cu⟩:=hw;refine⟨k,c,ab,fun r ao=>(ad r ao).U2 ((mX h aU.1).pV (by decide) _ (List.mem_map_of_mem ao)),aA, ?_,by omega,by have:=aU.2;omega⟩;have:=Y2 K ba;omega
theorem IB (p q:List bd):nrm (nrm p++nrm q)=nrm (p++q):=wJ fun m=>by rw[sF,sF,oZ,oZ]
theorem abO (p q:List bd):nrm (p++nrm q)=nrm (p++q):=wJ fun m=>by rw[sF,sF,oZ]
theorem IC (p q:List bd):nrm (dJ (nrm p) (nrm q))=nrm (dJ p q):=wJ (ZX (oZ p) (oZ q))
end aa
end
section
namespace aa
open Go Go.ak
def fp (v:Nat)(p:List bd):List (List bd):=(List.range (hZ p v+1).toNat).map fun(i:Nat)=>nrm ((p.filter fun t=>decide (t.1.getD v 0=(i:Int))).map fun t=>(t.1.set v 0,t.2))
def qo (l:List (List bd)):List (List U):=l.map fun q=>[.ar 11 (bK q)]
def Eb.T:=bk fun
 |[.d (.ar an p), .d (.int .i64 v)]=>(match Nat.beq an 11 with
  |true=>some ((0<=v/\v<8)/\cC p/\c4 100000000 (p.map aM)/\hA p, .d (.ar 1 (qo (fp v.toNat (p.map aM)))))
  |false=>none)
 |_=>none
def V2 (r:Row):Prop:=∃m:List Int,r=ej m/\m.length=8
def V3 (p:Rows):Prop:=∃P:List bd,p=bK P/\h5 P/\(∀t∈P,t.1.length=8)/\dE 900000 P/\P.length<1000000000
def an6.T:=bk fun
 |[.rw m a, .rw n b]=>(match Nat.beq m 8,Nat.beq n 8 with
  |true,true=>some (V2 a/\V2 b, .d (.bool (decide (eM (kx a) (kx b)=1))))
  |_,_=>none)
 |_=>none
def aoe.T:=bk fun
 |[.d (.ar an p), .rw n t]=>(match Nat.beq an 11,Nat.beq n 11 with
  |true,true=>some (V3 p/\hV 900000 t, .d (.ar 11 (bK (ins (aM t) (p.map aM)))))
  |_,_=>none)
 |_=>none
def an7.T:=bk fun|[.d (.ar an p)]=>(match Nat.beq an 11 with|true=>some (Raw 900000 999999999 p, .d (.ar 11 (bK (nrm (p.map aM)))))|false=>none)|_=>none
def aoG.T:=bk fun
 |[.d (.ar an p), .d (.ar gx q)]=>(match Nat.beq an 11,Nat.beq gx 11 with
  |true,true=>some (V3 p/\Raw 900000 999999999 (p++q), .d (.ar 11 (bK (nrm (p.map aM++q.map aM)))))
  |_,_=>none)
 |_=>none
def akT (t:bd)(p:List bd):List bd:=(p.map fun u=>(ga u.1 t.1,u.2*t.2)).filter fun u=> !decide (u.2=0)
def aof.T:=bk fun
 |[.d (.ar an p), .rw n t]=>(match Nat.beq an 11,Nat.beq n 11 with
  |true,true=>some ((∀r∈p,ft 400000 r)/\ft 400000 t/\c4 1000000000000000000 (p.map aM)/\(∀x∈(aM t).1,-1000000000000000000<=x/\x<=1000000000000000000)/\p.length<1000000000, .d (.ar 11 (bK (akT (aM t) (p.map aM)))))
  |_,_=>none)
 |_=>none
def aoH.T:=bk fun|[.d (.ar an p), .d (.int .i64 v)]=>(match Nat.beq an 11 with|true=>some (cC p/\0<=v/\v<8, .d (.int .i64 (hZ (p.map aM) v.toNat)))|false=>none)|_=>none
def aog.T:=bk fun|[.d (.ar an p)]=>(match Nat.beq an 11 with|true=>some (cC p, .d (.bool (ea p)))|false=>none)|_=>none
def aoI.T:=bk fun|[.d (.int .i64 v)]=>some (True, .tup [.d (.ar 11 (bK (if 0<=v/\v<8 then[(dV.set v.toNat 1,nC)]else[]))), .d (.int .i64 (if 0<=v/\v<8 then 0 else 1))])|_=>none
def TP (p q:Rows):Prop:=∃k j,1<=k/\1<=j/\(∀r∈p,ft k r)/\(∀r∈q,ft j r)/\c4 1000000000000000000 (p.map aM)/\c4 1000000000000000000 (q.map aM)/\(∀m,eB m (p.map aM)<=1)/\
 (q.length+1)*(k+j+2)<=400000/\p.length*(q.length+1)<1000000000
def aot.T:=bk fun
 |[.d (.ar an p), .d (.ar gx q)]=>(match Nat.beq an 11,Nat.beq gx 11 with
  |true,true=>some (TP p q, .d (.ar 11 (bK (nrm (dJ (p.map aM) (q.map aM))))))
  |_,_=>none)
 |_=>none
def JC (p:List bd):Nat->List bd
 |0=>nrm [(dV,1)]
 |n+1=>nrm (dJ (JC p n) p)
def aoh.T:=bk fun|[.d (.ar an p), .d (.int .i64 n)]=>(match Nat.beq an 11 with|true=>some (n<=1000/\∀i,i<n.toNat->TP (bK (JC (p.map aM) i)) p, .d (.ar 11 (bK (JC (p.map aM) n.toNat))))|false=>none)|_=>none
def ahr (p:Rows):Bool:=ea p&&decide (p.map tj=(bK (nrm (p.map aM))).map tj)
def anZ.T:=bk fun|[.d (.ar an p)]=>(match Nat.beq an 11 with|true=>some (cC p/\Raw 900000 999999999 p, .d (.bool (ahr p)))|false=>none)|_=>none
def akU (p q:Rows):Bool:=ec p q&&decide ((bK (nrm (p.map aM))).map tj=(bK (nrm (q.map aM))).map tj)
def aoi.T:=bk fun
 |[.d (.ar an p), .d (.ar gx q)]=>(match Nat.beq an 11,Nat.beq gx 11 with
  |true,true=>some ((cC p/\Raw 900000 999999999 p)/\cC q/\Raw 900000 999999999 q, .d (.bool (akU p q)))
  |_,_=>none)
 |_=>none
def aoj.T:=bk fun
 |[.d (.ar an p), .d (.int .i64 v)]=>(match Nat.beq an 11 with
  |true=>some (cC p/\Raw 400000 999999999 p, .tup [.d (.ar 1 (if hL p v=0 then qo (fp v.toNat (nrm (p.map aM)))else[])), .d (.int .i64 (hL p v))])
  |false=>none)
 |_=>none
def Ba:List Int->List Int->Bool
 |a::x,b::y=>decide (b<=a)&&Ba x y
 |_,_=>true
def JD:List Int->List Int->List Int
 |a::x,b::y=>(a-b)::JD x y
 |_,_=>[]
def xF (m:List Int):Prop:=m.length=8/\∀x∈m,-1000000000000000000<=x/\x<=1000000000000000000
def an8.T:=bk fun
 |[.rw m a, .rw n b]=>(match Nat.beq m 8,Nat.beq n 8 with
  |true,true=>some ((∃x,a=ej x/\xF x)/\∃y,b=ej y/\xF y, .tup [.rw 8 (ej (if Ba (kx a) (kx b)then JD (kx a) (kx b)else dV)), .d (.bool (Ba (kx a) (kx b)))])
  |_,_=>none)
 |_=>none
def nj (p:List bd):bd:=p.getD 0 (dV,0)
def BA (p q:List bd):bd:=(JD (nj p).1 (nj q).1,(nj p).2/(nj q).2)
def U3 (p q:List bd):List bd:=nrm (p++eS (-1) (nrm (dJ [BA p q] q)))
def U4 (q:List bd):Nat->List bd->Option (List bd×Bool)
 |0,_=>none
 |n+1,p=>if p=[]then some ([],true)else if Ba (nj p).1 (nj q).1 then(U4 q n (U3 p q)).map fun r=>(BA p q::r.1,r.2)else some ([],false)
open Classical in
noncomputable def vK (p q:List bd):List bd×Bool:=if h:∃n r,U4 q n p=some r then Classical.choose (Classical.choose_spec h)else([],false)
def aft (p q:List bd):Prop:=c1 400000 (nj p).2/\c1 400000 (nj q).2/\xF (nj p).1/\xF (nj q).1/\rQ (bK [BA p q]) (bK q)/\
 (∃k j,1<=k/\1<=j/\(∀r∈bK p,ft k r)/\(∀r∈bK (nrm (dJ [BA p q] q)),ft j r)/\2*(2*(k+1*(j+2))+2)<=900000/\p.length+(nrm (dJ [BA p q] q)).length<=1000000000)
def U5 (q:List bd):Nat->List bd->Prop
 |0,_=>False
 |n+1,p=>p≠[]->(xF (nj p).1/\xF (nj q).1)/\(Ba (nj p).1 (nj q).1=true->aft p q/\U5 q n (U3 p q))
def Ti (p q:List bd):Prop:=q≠[]/\(∃n,n<=1000000000/\U5 q n p)/\((vK p q).2=true->hA (bK (vK p q).1))
def xG (p:Rows):Prop:=∃P:List bd,p=bK P/\h5 P/\∀t∈P,t.1.length=8
noncomputable def akV (p q:List bd):List bd:=if(vK p q).2 then nrm (vK p q).1 else[]
noncomputable def aok.T:=bk fun
 |[.d (.ar an p), .d (.ar gx q)]=>(match Nat.beq an 11,Nat.beq gx 11 with
  |true,true=>some (xG p/\xG q/\Ti (p.map aM) (q.map aM), .tup [.d (.ar 11 (bK (akV (p.map aM) (q.map aM)))), .d (.bool (vK (p.map aM) (q.map aM)).2)])
  |_,_=>none)
 |_=>none
open Classical in
noncomputable def U6 (p q:Rows):Int:=if ec p q then(if nrm (q.map aM)=[]then 3 else if(vK (nrm (p.map aM)) (nrm (q.map aM))).2 then 0 else 16)else 2
noncomputable def aoJ.T:=bk fun
 |[.d (.ar an p), .d (.ar gx q)]=>(match Nat.beq an 11,Nat.beq gx 11 with
  |true,true=>some ((cC p/\Raw 400000 999999999 p)/\(cC q/\Raw 400000 999999999 q)/\(nrm (q.map aM)≠[]->ec p q=true->Ti (nrm (p.map aM)) (nrm (q.map aM))),
   .tup [.d (.ar 11 (bK (if U6 p q=0 then nrm (vK (nrm (p.map aM)) (nrm (q.map aM))).1 else[]))), .d (.int .i64 (U6 p q))])
  |_,_=>none)
 |_=>none
end aa
end
section
open Go Go.ak
namespace aa
def eO (x:Nat->Rat):Nat->List Int->Rat
 |_,[]=>1
 |i,a::m=>x i^a.toNat*eO x (i+1) m
def aN (x:Nat->Rat)(p:List bd):Rat:=dx (eO x 0) p
def hr (p:List bd):Prop:=∀t∈p,t.1.length=8/\∀y∈t.1,0<=y
theorem c4.sk {e:Int}{p:List bd}(h:c4 e p):hr p:=fun t aw=>⟨(h t aw).1,fun y bo=>((h t aw).2 y bo).1⟩
theorem hr.app {p q:List bd}(h:hr p)(g:hr q):hr (p++q):=fun t aw=>(aqV.1 aw).elim (h t) (g t)
theorem hr.nrm {p:List bd}(h:hr p):hr (nrm p):=fun t aw=>by
 obtain⟨u,hu,e⟩:=sN aw;rw[<-e];exact h u hu
theorem hr.scale {p:List bd}(h:hr p)(c:Rat):hr (eS c p):=fun t aw=>by
 obtain⟨u,hu,rfl⟩:=apQ.1 aw;exact h u hu
theorem hr.mul {p q:List bd}(h:hr p)(g:hr q):hr (dJ p q):=fun t aw=>by
 obtain⟨u,hu,v,aO,rfl⟩:=ze aw;refine⟨by rw[wU _ _ (by rw[(h u hu).1,(g v aO).1])];exact(h u hu).1,fun x aj=> ?_⟩;obtain⟨y,bo,z,bm,rfl⟩:=Ig aj;have:=(h u hu).2 y bo;have:=(g v aO).2 z bm;omega
theorem hr.cons {t:bd}{p:List bd}(h:hr (t::p)):hr p:=fun u hu=>h u (by simp[hu])
theorem C0 (x:Rat)(m:Nat):∀n:Nat,x^(m+n)=x^m*x^n
 |0=>by rw[apV,arj,ara]
 |n+1=>by rw[<-aqs,Rat.pow_succ,Rat.pow_succ,C0 x m n,arA]
theorem Ih {f g:List Int->Rat}:∀{p:List bd},(∀t∈p,f t.1=g t.1)->dx f p=dx g p
 |[],_=>rfl
 |t::p,h=>by rw[dx,dx,h t (by simp),Ih fun u hu=>h u (by simp[hu])]
theorem RU (x:Nat->Rat):∀(i:Nat) (a b:List Int),a.length=b.length->(∀y∈a,0<=y)->(∀y∈b,0<=y)->eO x i (ga a b)=eO x i a*eO x i b
 |_,[],[],_,_,_=>by simp[ga,eO]
 |_,[],_::_,h,_,_=>by simp at h
 |_,_::_,[],h,_,_=>by simp at h
 |i,a::p,b::q,h,ab,ad=>by
  have aR:=ab a (by simp);have ah:=ad b (by simp);rw[ga,eO,eO,eO,RU x (i+1) p q (by simpa using h) (fun y bo=>ab y (by simp[bo])) (fun y bo=>ad y (by simp[bo])),show(a+b).toNat=a.toNat+b.toNat by omega,C0];generalize x i^a.toNat=A;generalize x i^b.toNat=B;grind
theorem og (x:Nat->Rat)(p:List bd):aN x (nrm p)=aN x p:=y7 _ p
theorem IW (x:Nat->Rat)(p q:List bd):aN x (p++q)=aN x p+aN x q:=CU _ p q
theorem SL (x:Nat->Rat){p q:List bd}(aE:hr p)(a6:hr q):aN x (dJ p q)=aN x p*aN x q:=by
 unfold aN;rw[wK]
 have ab:dx (fun a=>dx (fun b=>eO x 0 (ga a b)) q) p=dx (fun a=>aN x q*eO x 0 a) p:=Ih fun t aw=>by
  have ad:dx (fun b=>eO x 0 (ga t.1 b)) q=dx (fun b=>eO x 0 t.1*eO x 0 b) q:=Ih fun u hu=>RU x 0 _ _ (by rw[(aE t aw).1,(a6 u hu).1]) (aE t aw).2 (a6 u hu).2;show dx (fun b=>eO x 0 (ga t.1 b)) q=_;rw[ad,CV,Rat.mul_comm];rfl
 rw[ab,CV,Rat.mul_comm];rfl
def code (N:Nat):List Int->Nat
 |[]=>0
 |a::m=>a.toNat*N^m.length+code N m
def pt (T:Rat)(N n:Nat):Nat->Rat:=fun i=>T^N^(n-1-i)
end aa
end
section
namespace aa
open Go Go.ak
def vm (r:Rat):Row:=[.bool (ca r), .af .u32 (b8 r), .af .u32 (b1 r)]
def nx (l:List Int)(a:Int):Nat->Rows×Int
 |0=>([],a)
 |k+1=>((nx l a k).1++[vm (gJ l (nx l a k).2)],jM l (nx l a k).2)
def C1.T:=zG fun
 | .ptr z o, .cells [.d (.af .i64 l), .d (.int .i64 a), .d (.int .i64 s)],[.d (.int .i64 n)]=>(match Nat.beq z 0,Nat.beq o 0 with
  |true,true=>some (ds l a/\0<=n/\n<=1000, .cells [.d (.af .i64 l), .d (.int .i64 (nx l a n.toNat).2), .d (.int .i64 s)], .ar 3 (nx l a n.toNat).1)
  |_,_=>none)
 |_,_,_=>none
def Ec.T:=bk fun
 |[.agg [.d (.bool s), .d (.af .u32 a), .d (.af .u32 b)], .d (.int .i64 n)]=>some ((0<=n/\n<=100000)/\∃k,1<=k/\bu k a/\bu k b/\k*(4*n.toNat+4)<=900000,rg (aV s a b^n.toNat))
 |_=>none
def ud (r:Row):Rat:=aV (r.getD 0 .undef).toBool (r.getD 1 .undef).cP (r.getD 2 .undef).cP
def dY (x:Rows)(i:Nat):Rat:=ud (x.getD i [])
def x_ (j:Nat)(r:Row):Prop:=∃(s:Bool) (a b:List Int),r=[.bool s, .af .u32 a, .af .u32 b]/\bu j a/\bu j b
def ot (x:Rows)(p:List bd):Prop:=x.length<=8/\∃j k e:Nat,1<=j/\1<=k/\(∀r∈x,x_ j r)/\dE k p/\c4 e p/\e<=100000/\j*(4*e+4)<=900000/\(k+8*(j*e+1)+1)*(p.length+1)<=900000
def Ed.T:=e7 fun
 | .vec z, .ar jo x,[.d (.ar an p)]=>(match Nat.beq z 0,Nat.beq jo 3,Nat.beq an 11 with
  |true,true,true=>some (xG p/\ot x (p.map aM), .ar 3 x,rg (aN (dY x) (p.map aM)))
  |_,_,_=>none)
 |_,_,_=>none
def Ee.T:=e7 fun
 | .vec z, .ar jo x,[.d (.ar an p)]=>(match Nat.beq z 0,Nat.beq jo 3,Nat.beq an 11 with
  |true,true,true=>some ((cC p/\Raw 400000 999999999 p)/\x.length<=8/\(ea p=true->ot x (nrm (p.map aM))), .ar 3 x,
   .tup [.agg [.d (.bool (kW (ea p) (aN (dY x) (p.map aM)))), .d (.af .u32 (kX (ea p) (aN (dY x) (p.map aM)))), .d (.af .u32 (kY (ea p) (aN (dY x) (p.map aM))))], .d (.int .i64 (if ea p then 0 else 2))])
  |_,_,_=>none)
 |_,_,_=>none
def gr (q:List bd):List (List bd)->List bd
 |[]=>[]
 |c::r=>nrm (nrm (dJ (gr q r) q)++c)
def uW (q:List bd):List (List bd)->Prop
 |[]=>True
 |c::r=>uW q r/\rQ (bK (gr q r)) (bK q)/\hA (bK (nrm (dJ (gr q r) q))++bK c)
def Ef.T:=bk fun
 |[.d (.ar an p), .d (.int .i64 v), .d (.ar gx q)]=>(match Nat.beq an 11,Nat.beq gx 11 with
  |true,true=>some (((0<=v/\v<8)/\cC p/\c4 100000000 (p.map aM)/\hA p)/\xG q/\uW (q.map aM) (fp v.toNat (p.map aM)), .d (.ar 11 (bK (gr (q.map aM) (fp v.toNat (p.map aM))))))
  |_,_=>none)
 |_=>none
def td (p:Rows)(v:Int)(q:Rows):List bd:=gr (nrm (q.map aM)) (fp v.toNat (nrm (p.map aM)))
def pj (p:Rows)(v:Int)(q:Rows):Int:=if ec p q then(if hL p v=0 then(if iB 0 (td p v q)>1024 then 9 else 0)else hL p v)else 2
def Dx.T:=bk fun
 |[.d (.ar an p), .d (.int .i64 v), .d (.ar gx q)]=>(match Nat.beq an 11,Nat.beq gx 11 with
  |true,true=>some ((cC p/\Raw 400000 999999999 p)/\(cC q/\Raw 400000 999999999 q)/\(ec p q=true->hL p v=0->uW (nrm (q.map aM)) (fp v.toNat (nrm (p.map aM)))/\cC (bK (td p v q))),
   .tup [.d (.ar 11 (if pj p v q=0 then bK (td p v q)else[])), .d (.int .i64 (pj p v q))])
  |_,_=>none)
 |_=>none
end aa
end
section
namespace aa
open Go Go.ak
def C2.T:=bk fun|[]=>some (True, .d (.bool true))|_=>none
def an0.T:=bk fun|[.d (.int .u8 v)]=>some (0<=v/\v<256, .d (.bool true))|_=>none
def aol.T:=bk fun|[.d (.af .i64 l)]=>some (∀x∈l,i64 x, .d (.bool true))|_=>none
def anU.T:=bk fun|[.d (.af .i64 l), .d (.int .u8 v), .d (.int .u8 w)]=>some ((∀x∈l,i64 x)/\(0<=v/\v<256)/\0<=w/\w<256, .d (.bool true))|_=>none
def an9.T:=bk fun|[.d (.af .i64 l), .d (.int .u8 v)]=>some ((∀x∈l,i64 x)/\0<=v/\v<256, .d (.bool true))|_=>none
def anV.T:=bk fun|[.d (.af .i64 l)]=>some (∀x∈l,i64 x, .d (.bool true))|_=>none
def BX.T:=bk fun|[.d (.af .i64 l), .d (.int .u8 v)]=>some ((∀x∈l,i64 x)/\0<=v/\v<256, .d (.bool true))|_=>none
end aa
end
section
open Go Go.ak
namespace aa
def MK:Bool->List Int->List Int->Int->(R->Prop)->Prop:=
 fun(s:Bool) (a b:List Int) (n:Int) (K:R->Prop)=>aa.i64 (1:Int)/\∀(x:Bool),x=aa.ca (IntCast.intCast (1:Int))->∀(a7:List Int),a7=aa.b8 (IntCast.intCast (1:Int))->∀(aW:List Int),aW=aa.b1 (IntCast.intCast (1:Int))->∃(aQ:Int->Bool->List Int->List Int->Bool->List Int->List Int->Prop),∃(m:Int->Bool->List Int->List Int->Bool->List Int->List Int->Nat),((false,ae.cells [R.d (U.bool false),R.emp,R.emp])=(false,ae.cells [R.d (U.bool false),R.emp,R.emp])/\aQ n s a b x a7 aW)/\∀(v1:Int) (s1:Bool) (a1 ch:List Int) (t1:Bool) (dh d1:List Int),aQ v1 s1 a1 ch t1 dh d1->(decide ((0:Int)<v1)=true->∃(J:Bool->List Int->List Int->Prop),((decide (cN BinOp.and IntKind.i64 v1 (1:Int)=(1:Int))=true->(aa.bu (1000000:Nat) dh/\aa.bu (1000000:Nat) d1/\aa.bu (1000000:Nat) a1/\aa.bu (1000000:Nat) ch)/\∀(x:Bool),x=aa.ca (aa.aV t1 dh d1*aa.aV s1 a1 ch)->∀(bn:List Int),bn=aa.b8 (aa.aV t1 dh d1*aa.aV s1 a1 ch)->∀(b9:List Int),b9=aa.b1 (aa.aV t1 dh d1*aa.aV s1 a1 ch)->(false,ae.cells [R.d (U.bool s1),R.d (U.af IntKind.u32 a1),R.d (U.af IntKind.u32 ch)])=(false,ae.cells [R.d (U.bool s1),R.d (U.af IntKind.u32 a1),R.d (U.af IntKind.u32 ch)])/\(false,ae.cells [R.d (U.bool false),R.emp,R.emp])=(false,ae.cells [R.d (U.bool false),R.emp,R.emp])/\J x bn b9)/\(decide (cN BinOp.and IntKind.i64 v1 (1:Int)=(1:Int))=false->(false,ae.cells [R.d (U.bool s1),R.d (U.af IntKind.u32 a1),R.d (U.af IntKind.u32 ch)])=(false,ae.cells [R.d (U.bool s1),R.d (U.af IntKind.u32 a1),R.d (U.af IntKind.u32 ch)])/\(false,ae.cells [R.d (U.bool false),R.emp,R.emp])=(false,ae.cells [R.d (U.bool false),R.emp,R.emp])/\J t1 dh d1))/\∀(Ao:Bool) (Ap Aq:List Int),J Ao Ap Aq->(decide ((1:Int)<v1)=true->(aa.bu (1000000:Nat) a1/\aa.bu (1000000:Nat) ch/\aa.bu (1000000:Nat) a1/\aa.bu (1000000:Nat) ch)/\∀(x:Bool),x=aa.ca (aa.aV s1 a1 ch*aa.aV s1 a1 ch)->∀(bn:List Int),bn=aa.b8 (aa.aV s1 a1 ch*aa.aV s1 a1 ch)->∀(b9:List Int),b9=aa.b1 (aa.aV s1 a1 ch*aa.aV s1 a1 ch)->(false,ae.cells [R.d (U.bool false),R.emp,R.emp])=(false,ae.cells [R.d (U.bool false),R.emp,R.emp])/\aQ (Int.fdiv v1 (2:Int)) x bn b9 Ao Ap Aq/\m (Int.fdiv v1 (2:Int)) x bn b9 Ao Ap Aq<m v1 s1 a1 ch t1 dh d1)/\(decide ((1:Int)<v1)=false->(false,ae.cells [R.d (U.bool false),R.emp,R.emp])=(false,ae.cells [R.d (U.bool false),R.emp,R.emp])/\aQ (Int.fdiv v1 (2:Int)) s1 a1 ch Ao Ap Aq/\m (Int.fdiv v1 (2:Int)) s1 a1 ch Ao Ap Aq<m v1 s1 a1 ch t1 dh d1))/\(decide ((0:Int)<v1)=false->K (R.agg [R.d (U.bool t1),R.d (U.af IntKind.u32 dh),R.d (U.af IntKind.u32 d1)]))
def MO:aa.Rows->aa.Rows->(ae->R->Prop)->Prop:=
 fun(p x:aa.Rows) (K:ae->R->Prop)=>aa.i64 (0:Int)/\∀(a7:Bool),a7=aa.ca (IntCast.intCast (0:Int))->∀(aW:List Int),aW=aa.b8 (IntCast.intCast (0:Int))->∀(bn:List Int),bn=aa.b1 (IntCast.intCast (0:Int))->∃(aQ:Int->List (List U)->Bool->List Int->List Int->Prop),∃(m:Int->List (List U)->Bool->List Int->List Int->Nat),((false,ae.cells [R.d (U.bool false),R.emp,R.emp])=(false,ae.cells [R.d (U.bool false),R.emp,R.emp])/\aQ (0:Int) x a7 aW bn)/\∀(dr:Int) (au:List (List U)) (s1:Bool) (a1 ch:List Int),aQ dr au s1 a1 ch->(decide (dr<aT p)=true->(0:Int)<=dr/\dr<aT p/\List.length (List.aS p dr)=(11:Nat)/\U.isBool (List.getD (List.aS p dr) (8:Nat) U.undef)/\U.fJ (List.getD (List.aS p dr) (9:Nat) U.undef) IntKind.u32/\U.fJ (List.getD (List.aS p dr) (10:Nat) U.undef) IntKind.u32/\List.length (List.aS p dr)=(11:Nat)/\∃(fu:Int->List (List U)->List (List U)->Bool->List Int->List Int->Prop),∃(fb:Int->List (List U)->List (List U)->Bool->List Int->List Int->Nat),((false,ae.cells [R.d (U.bool false),R.emp,R.emp])=(false,ae.cells [R.d (U.bool false),R.emp,R.emp])/\(false,ae.cells [R.d (U.bool s1),R.d (U.af IntKind.u32 a1),R.d (U.af IntKind.u32 ch)])=(false,ae.cells [R.d (U.bool s1),R.d (U.af IntKind.u32 a1),R.d (U.af IntKind.u32 ch)])/\fu (0:Int) au [List.aS p dr] (match List.getD (List.aS p dr) (8:Nat) U.undef with|U.bool b=>b|x=>false) (match List.getD (List.aS p dr) (9:Nat) U.undef with|U.af k l=>l|x=>[]) (match List.getD (List.aS p dr) (10:Nat) U.undef with|U.af k l=>l|x=>[]))/\∀(fy:Int) (bw cH:List (List U)) (t1:Bool) (dh d1:List Int),fu fy bw cH t1 dh d1->(decide (fy<(8:Int))=true->(0:Int)<=fy/\fy<(8:Int)/\U.dQ (List.getD (List.take (8:Nat) (List.aS p dr)) (Int.toNat fy) U.undef) IntKind.i64/\(decide (U.toInt (List.getD (List.take (8:Nat) (List.aS p dr)) (Int.toNat fy) U.undef)=(0:Int))=true->(false,ae.cells [R.d (U.bool false),R.emp,R.emp])=(false,ae.cells [R.d (U.bool false),R.emp,R.emp])/\(false,ae.cells [R.d (U.bool s1),R.d (U.af IntKind.u32 a1),R.d (U.af IntKind.u32 ch)])=(false,ae.cells [R.d (U.bool s1),R.d (U.af IntKind.u32 a1),R.d (U.af IntKind.u32 ch)])/\fu (ai (fy+(1:Int))) bw cH t1 dh d1/\fb (ai (fy+(1:Int))) bw cH t1 dh d1<fb fy bw cH t1 dh d1)/\(decide (U.toInt (List.getD (List.take (8:Nat) (List.aS p dr)) (Int.toNat fy) U.undef)=(0:Int))=false->(decide (fy<aT bw)=true->(0:Int)<=fy/\fy<aT bw/\U.isBool (List.getD (List.aS bw fy) (0:Nat) U.undef)/\U.fJ (List.getD (List.aS bw fy) (1:Nat) U.undef) IntKind.u32/\U.fJ (List.getD (List.aS bw fy) (2:Nat) U.undef) IntKind.u32/\(((0:Int)<=U.toInt (List.getD (List.take (8:Nat) (List.aS p dr)) (Int.toNat fy) U.undef)/\U.toInt (List.getD (List.take (8:Nat) (List.aS p dr)) (Int.toNat fy) U.undef)<=(100000:Int))/\∃(k:Nat),(1:Nat)<=k/\aa.bu k (U.cP (List.getD (List.aS bw fy) (1:Nat) U.undef))/\aa.bu k (U.cP (List.getD (List.aS bw fy) (2:Nat) U.undef))/\k*((4:Nat)*Int.toNat (U.toInt (List.getD (List.take (8:Nat) (List.aS p dr)) (Int.toNat fy) U.undef))+(4:Nat))<=(900000:Nat))/\∀(x:Bool),x=aa.ca (aa.aV (U.toBool (List.getD (List.aS bw fy) (0:Nat) U.undef)) (U.cP (List.getD (List.aS bw fy) (1:Nat) U.undef)) (U.cP (List.getD (List.aS bw fy) (2:Nat) U.undef))^Int.toNat (U.toInt (List.getD (List.take (8:Nat) (List.aS p dr)) (Int.toNat fy) U.undef)))->∀(b9:List Int),b9=aa.b8 (aa.aV (U.toBool (List.getD (List.aS bw fy) (0:Nat) U.undef)) (U.cP (List.getD (List.aS bw fy) (1:Nat) U.undef)) (U.cP (List.getD (List.aS bw fy) (2:Nat) U.undef))^Int.toNat (U.toInt (List.getD (List.take (8:Nat) (List.aS p dr)) (Int.toNat fy) U.undef)))->∀(cU:List Int),cU=aa.b1 (aa.aV (U.toBool (List.getD (List.aS bw fy) (0:Nat) U.undef)) (U.cP (List.getD (List.aS bw fy) (1:Nat) U.undef)) (U.cP (List.getD (List.aS bw fy) (2:Nat) U.undef))^Int.toNat (U.toInt (List.getD (List.take (8:Nat) (List.aS p dr)) (Int.toNat fy) U.undef)))->(aa.bu (1000000:Nat) dh/\aa.bu (1000000:Nat) d1/\aa.bu (1000000:Nat) b9/\aa.bu (1000000:Nat) cU)/\∀(cB:Bool),cB=aa.ca (aa.aV t1 dh d1*aa.aV x b9 cU)->∀(dc:List Int),dc=aa.b8 (aa.aV t1 dh d1*aa.aV x b9 cU)->∀(dy:List Int),dy=aa.b1 (aa.aV t1 dh d1*aa.aV x b9 cU)->(false,ae.cells [R.d (U.bool false),R.emp,R.emp])=(false,ae.cells [R.d (U.bool false),R.emp,R.emp])/\(false,ae.cells [R.d (U.bool s1),R.d (U.af IntKind.u32 a1),R.d (U.af IntKind.u32 ch)])=(false,ae.cells [R.d (U.bool s1),R.d (U.af IntKind.u32 a1),R.d (U.af IntKind.u32 ch)])/\fu (ai (fy+(1:Int))) bw cH cB dc dy/\fb (ai (fy+(1:Int))) bw cH cB dc dy<fb fy bw cH t1 dh d1)/\(decide (fy<aT bw)=false->aa.i64 (0:Int)/\∀(x:Bool),x=aa.ca (IntCast.intCast (0:Int))->∀(b9:List Int),b9=aa.b8 (IntCast.intCast (0:Int))->∀(cU:List Int),cU=aa.b1 (IntCast.intCast (0:Int))->(false,ae.cells [R.d (U.bool false),R.emp,R.emp])=(false,ae.cells [R.d (U.bool false),R.emp,R.emp])/\(false,ae.cells [R.d (U.bool s1),R.d (U.af IntKind.u32 a1),R.d (U.af IntKind.u32 ch)])=(false,ae.cells [R.d (U.bool s1),R.d (U.af IntKind.u32 a1),R.d (U.af IntKind.u32 ch)])/\fu (ai (fy+(1:Int))) bw cH x b9 cU/\fb (ai (fy+(1:Int))) bw cH x b9 cU<fb fy bw cH t1 dh d1)))/\(decide (fy<(8:Int))=false->(aa.bu (1000000:Nat) a1/\aa.bu (1000000:Nat) ch/\aa.bu (1000000:Nat) dh/\aa.bu (1000000:Nat) d1)/\∀(x:Bool),x=aa.ca (aa.aV s1 a1 ch+aa.aV t1 dh d1)->∀(b9:List Int),b9=aa.b8 (aa.aV s1 a1 ch+aa.aV t1 dh d1)->∀(cU:List Int),cU=aa.b1 (aa.aV s1 a1 ch+aa.aV t1 dh d1)->(false,ae.cells [R.d (U.bool false),R.emp,R.emp])=(false,ae.cells [R.d (U.bool false),R.emp,R.emp])/\aQ (ai (dr+(1:Int))) bw x b9 cU/\m (ai (dr+(1:Int))) bw x b9 cU<m dr au s1 a1 ch))/\(decide (dr<aT p)=false->K (ae.ar (3:Nat) au) (R.agg [R.d (U.bool s1),R.d (U.af IntKind.u32 a1),R.d (U.af IntKind.u32 ch)]))
def Mr:aa.Rows->aa.Rows->(ae->R->Prop)->Prop:=
 fun(p x:aa.Rows) (K:ae->R->Prop)=>aa.cC p/\∀(a7:Bool),a7=aa.ea p->((!a7)=true->K (ae.ar (3:Nat) x) (R.tup [R.agg [R.d (U.bool false),R.d (U.af IntKind.u32 []),R.d (U.af IntKind.u32 [])],R.d (U.int IntKind.i64 (2:Int))]))/\((!a7)=false->(decide ((8:Int)<aT x)=true->K (ae.ar (3:Nat) x) (R.tup [R.agg [R.d (U.bool false),R.d (U.af IntKind.u32 []),R.d (U.af IntKind.u32 [])],R.d (U.int IntKind.i64 (1:Int))]))/\(decide ((8:Int)<aT x)=false->aa.hA p/\∀(aW:List (List U)),aW=aa.bK (aa.nrm (List.map aa.aM p))->(aa.xG aW/\aa.ot x (List.map aa.aM aW))/\K (ae.ar (3:Nat) x) (R.tup [R.agg [R.d (U.bool (aa.ca (aa.aN (aa.dY x) (List.map aa.aM aW)))),R.d (U.af IntKind.u32 (aa.b8 (aa.aN (aa.dY x) (List.map aa.aM aW)))),R.d (U.af IntKind.u32 (aa.b1 (aa.aN (aa.dY x) (List.map aa.aM aW))))],R.d (U.int IntKind.i64 (0:Int))])))
def Mk:aa.Rows->Int->aa.Rows->(R->Prop)->Prop:=
 fun(p:aa.Rows) (v:Int) (q:aa.Rows) (K:R->Prop)=>(((0:Int)<=v/\v<(8:Int))/\aa.cC p/\aa.c4 (100000000:Int) (List.map aa.aM p)/\aa.hA p)/\∀(x:List (List U)),x=aa.qo (aa.fp (Int.toNat v) (List.map aa.aM p))->∃(aQ:List (List U)->Int->Prop),∃(m:List (List U)->Int->Nat),aQ [] (ai (aT x-(1:Int)))/\∀(bq:List (List U)) (v9:Int),aQ bq v9->(decide ((0:Int)<=v9)=true->aa.rQ bq q/\∀(a7:List (List U)),a7=aa.bK (aa.nrm (aa.dJ (List.map aa.aM bq) (List.map aa.aM q)))->(0:Int)<=v9/\v9<aT x/\U.DA (List.getD (List.aS x v9) (0:Nat) U.undef) (11:Nat)/\aa.hA (HAppend.hAppend a7 (U.w9 (List.getD (List.aS x v9) (0:Nat) U.undef)))/\∀(aW:List (List U)),aW=aa.bK (aa.nrm (HAppend.hAppend (List.map aa.aM a7) (List.map aa.aM (U.w9 (List.getD (List.aS x v9) (0:Nat) U.undef)))))->aQ aW (ai (v9-(1:Int)))/\m aW (ai (v9-(1:Int)))<m bq v9)/\(decide ((0:Int)<=v9)=false->K (R.d (U.ar (11:Nat) bq)))
def L_:aa.Rows->Int->aa.Rows->(R->Prop)->Prop:=
 fun(p:aa.Rows) (v:Int) (q:aa.Rows) (K:R->Prop)=>aa.cC p/\∀(x:Bool),x=aa.ea p->((!x)=true->K (R.tup [R.d (U.ar (11:Nat) []),R.d (U.int IntKind.i64 (2:Int))]))/\((!x)=false->aa.cC q/\∀(x:Bool),x=aa.ea q->((!x)=true->K (R.tup [R.d (U.ar (11:Nat) []),R.d (U.int IntKind.i64 (2:Int))]))/\((!x)=false->(aa.cC p/\aa.Raw (400000:Nat) (1000000000:Nat) p)/\∀(x:List (List U)),x=aa.bK (if aa.hL p v=(0:Int)then aa.nrm (List.map aa.aM p)else[])->∀(a7:Int),a7=aa.hL p v->((!decide (a7=(0:Int)))=true->K (R.tup [R.d (U.ar (11:Nat) []),R.d (U.int IntKind.i64 a7)]))/\((!decide (a7=(0:Int)))=false->aa.hA q/\∀(aW:List (List U)),aW=aa.bK (aa.nrm (List.map aa.aM q))->((((0:Int)<=v/\v<(8:Int))/\aa.cC x/\aa.c4 (100000000:Int) (List.map aa.aM x)/\aa.hA x)/\aa.xG aW/\aa.uW (List.map aa.aM aW) (aa.fp (Int.toNat v) (List.map aa.aM x)))/\∀(bn:List (List U)),bn=aa.bK (aa.gr (List.map aa.aM aW) (aa.fp (Int.toNat v) (List.map aa.aM x)))->aa.cC bn/\∀(x:List (List U)),(x=if(1024:Int)<aa.iB (0:Int) (List.map aa.aM bn)then[]else bn)->∀(b9:Int),(b9=if(1024:Int)<aa.iB (0:Int) (List.map aa.aM bn)then(9:Int)else(0:Int))->K (R.tup [R.d (U.ar (11:Nat) x),R.d (U.int IntKind.i64 b9)]))))
def My:List Int->Int->Int->Int->(ae->ae->Prop)->Prop:=
 fun(l:List Int) (a s n:Int) (K:ae->ae->Prop)=>∃(aQ:Int->List Int->Int->Int->List (List U)->Prop),∃(m:Int->List Int->Int->Int->List (List U)->Nat),aQ (0:Int) l a s []/\∀(v6:Int) (l:List Int) (a s:Int) (bD:List (List U)),aQ v6 l a s bD->(decide (v6<n)=true->aa.ds l a/\(aT bD+aT ([[U.bool (aa.ca (aa.gJ l a)),U.af IntKind.u32 (aa.b8 (aa.gJ l a)),U.af IntKind.u32 (aa.b1 (aa.gJ l a))]]))*(56:Int)<=(70368744177664:Int)/\aQ (ai (v6+(1:Int))) l (aa.jM l a) s (HAppend.hAppend bD [[U.bool (aa.ca (aa.gJ l a)),U.af IntKind.u32 (aa.b8 (aa.gJ l a)),U.af IntKind.u32 (aa.b1 (aa.gJ l a))]])/\m (ai (v6+(1:Int))) l (aa.jM l a) s (HAppend.hAppend bD [[U.bool (aa.ca (aa.gJ l a)),U.af IntKind.u32 (aa.b8 (aa.gJ l a)),U.af IntKind.u32 (aa.b1 (aa.gJ l a))]])<m v6 l a s bD)/\(decide (v6<n)=false->K (ae.cells [R.d (U.af IntKind.i64 l),R.d (U.int IntKind.i64 a),R.d (U.int IntKind.i64 s)]) (ae.ar (3:Nat) bD))
end aa
end
section
open Go Go.ak
namespace aa
def MY:aa.Rows->aa.Rows->(R->Prop)->Prop:=
 fun p q K=>List.length p<100000000000/\∀x,x=p->((x.length:Int)+(aT q))*120<=70368744177664/\hA (x++q)/\∀a7,a7=bK (nrm (List.map aM (x++q)))->K (R.d (U.ar 11 a7))
def ME:aa.Rows->Int->(R->Prop)->Prop:=
 fun p v K=>∃(aQ:Int->Int->Prop),∃(m:Int->Int->Nat),aQ (-1) 0/\∀(v5 v10:Int),aQ v5 v10->(decide (v10<(aT p))=true->0<=v10/\v10<(aT p)/\(List.aS p v10).length=11/\0<=v/\v<8/\((List.aS p v10).getD v.toNat U.undef).dQ .i64/\aQ (if v5<((List.aS p v10).getD v.toNat U.undef).toInt then((List.aS p v10).getD v.toNat U.undef).toInt else v5) (ai (v10+1))/\m (if v5<((List.aS p v10).getD v.toNat U.undef).toInt then((List.aS p v10).getD v.toNat U.undef).toInt else v5) (ai (v10+1))<m v5 v10)/\(decide (v10<(aT p))=false->K (R.d (U.int .i64 v5)))
def MZ:aa.Rows->(R->Prop)->Prop:=
 fun p K=>∃(aQ:Int->Int->Prop),∃(m:Int->Int->Nat),aQ 0 0/\∀(v3 bq:Int),aQ v3 bq->(decide (bq<(aT p))=true->0<=bq/\bq<(aT p)/\(List.aS p bq).length=11/\(List.aS p bq).length=11/\(∀(x:U),x∈List.take 8 (List.aS p bq)->x.dQ .i64)/\(0<(List.map U.toInt (List.take 8 (List.aS p bq))).length/\(List.map U.toInt (List.take 8 (List.aS p bq))).length<1000000000)/\∀x,x=lL ((List.map U.toInt (List.take 8 (List.aS p bq))).getD 0 0) (List.drop 1 (List.map U.toInt (List.take 8 (List.aS p bq))))->aQ (if v3<x then x else v3) (ai (bq+1))/\m (if v3<x then x else v3) (ai (bq+1))<m v3 bq)/\(decide (bq<(aT p))=false->K (R.d (U.int .i64 v3)))
def Mp:aa.Rows->(R->Prop)->Prop:=
 fun p K=>∃(aQ:Int->Prop),∃(m:Int->Nat),aQ 0/\∀(v9:Int),aQ v9->(decide (v9<(aT p))=true->0<=v9/\v9<(aT p)/\(List.aS p v9).length=11/\(List.aS p v9).length=11/\∃(fu:Int->Prop),∃(fb:Int->Nat),((false,ae.ar 11 [List.aS p v9])=(false,ae.ar 11 [List.aS p v9])/\fu 0)/\∀(bV:Int),fu bV->(decide (bV<8)=true->0<=bV/\bV<8/\((List.take 8 (List.aS p v9)).getD bV.toNat U.undef).dQ .i64/\(decide (((List.take 8 (List.aS p v9)).getD bV.toNat U.undef).toInt<0)=true->K (R.d (U.bool false)))/\(decide (((List.take 8 (List.aS p v9)).getD bV.toNat U.undef).toInt<0)=false->(decide (1024<((List.take 8 (List.aS p v9)).getD bV.toNat U.undef).toInt)=true->K (R.d (U.bool false)))/\(decide (1024<((List.take 8 (List.aS p v9)).getD bV.toNat U.undef).toInt)=false->(false,ae.ar 11 [List.aS p v9])=(false,ae.ar 11 [List.aS p v9])/\fu (ai (bV+1))/\fb (ai (bV+1))<fb bV)))/\(decide (bV<8)=false->aQ (ai (v9+1))/\m (ai (v9+1))<m v9))/\(decide (v9<(aT p))=false->K (R.d (U.bool true)))
def ML:aa.Rows->Bool->List Int->List Int->(R->Prop)->Prop:=
 fun p s a b K=>List.length p<100000000000/\∀x,x=p->∃(aQ:Int->List (List U)->Prop),∃(m:Int->List (List U)->Nat),((false,ae.cells [R.d (U.bool s),R.d (U.af .u32 a),R.d (U.af .u32 b)])=(false,ae.cells [R.d (U.bool s),R.d (U.af .u32 a),R.d (U.af .u32 b)])/\aQ 0 x)/\∀(v11:Int) (bD:List (List U)),aQ v11 bD->(decide (v11<↑x.length)=true->0<=v11/\v11<↑bD.length/\((bD.aS v11).gV).isBool/\((bD.aS v11).fN).fJ .u32/\((bD.aS v11).fO).fJ .u32/\(bu 1000000 ((bD.aS v11).fN).cP/\bu 1000000 ((bD.aS v11).fO).cP/\bu 1000000 a/\bu 1000000 b)/\∀x,x=ca (aV ((bD.aS v11).gV).toBool ((bD.aS v11).fN).cP ((bD.aS v11).fO).cP*aV s a b)->∀a7,a7=b8 (aV ((bD.aS v11).gV).toBool ((bD.aS v11).fN).cP ((bD.aS v11).fO).cP*aV s a b)->∀aW,aW=b1 (aV ((bD.aS v11).gV).toBool ((bD.aS v11).fN).cP ((bD.aS v11).fO).cP*aV s a b)->0<=v11/\v11<↑bD.length/\(false,ae.cells [R.d (U.bool s),R.d (U.af .u32 a),R.d (U.af .u32 b)])=(false,ae.cells [R.d (U.bool s),R.d (U.af .u32 a),R.d (U.af .u32 b)])/\aQ (ai (v11+1)) (bD.set v11.toNat (setRow (bD.aS v11) 8 [U.bool x,U.af .u32 a7,U.af .u32 aW]))/\m (ai (v11+1)) (bD.set v11.toNat (setRow (bD.aS v11) 8 [U.bool x,U.af .u32 a7,U.af .u32 aW]))<m v11 bD)/\(decide (v11<↑x.length)=false->hA bD/\∀x,x=bK (nrm (List.map aM bD))->K (R.d (U.ar 11 x)))
def M0:aa.Rows->(R->Prop)->Prop:=
 fun p K=>i64 (-1)/\∀x,x=ca (IntCast.intCast (-1))->∀a7,a7=b8 (IntCast.intCast (-1))->∀aW,aW=b1 (IntCast.intCast (-1))->(∃(k:Nat),∃(c:Nat),∃(j:Nat),1<=k/\1<=j/\(∀(r:List U),r∈p->ft k r)/\(∀(m:List Int),fM m p<=c)/\bu j a7/\bu j aW/\c*(2*(k+j)+2)<=900000/\k+j<=900000/\List.length p<=1000000000)/\∀bn,bn=bK (nrm (eS (aV x a7 aW) (List.map aM p)))->K (R.d (U.ar 11 bn))
def M1:aa.Rows->aa.Rows->(R->Prop)->Prop:=
 fun p q K=>(∃(k:Nat),∃(c:Nat),1<=k/\(∀(r:List U),r∈q->ft k r)/\(∀(m:List Int),fM m q<=c)/\c*(2*(k+1)+2)<=900000/\k+1<=900000/\List.length q<=1000000000)/\∀x,x=bK (nrm (eS (-1) (List.map aM q)))->hA (p++x)/\∀a7,a7=bK (nrm (List.map aM p++List.map aM x))->K (R.d (U.ar 11 a7))
def M3:aa.Rows->aa.Rows->(R->Prop)->Prop:=
 fun p q K=>(0:Int)<=(0:Int)/\(0:Int)<=ai ((aT p)*(aT q))/\ai ((aT p)*(aT q))*(120:Int)<=(281474976710656:Int)/\∃(aQ:Int->List (List U)->Prop),∃(m:Int->List (List U)->Nat),aQ (0:Int) (List.replicate (0:Nat) [U.int .i64 (0:Int),U.int .i64 (0:Int),U.int .i64 (0:Int),U.int .i64 (0:Int),U.int .i64 (0:Int),U.int .i64 (0:Int),U.int .i64 (0:Int),U.int .i64 (0:Int),U.bool false,U.af .u32 [],U.af .u32 []])/\∀(lV:Int) (au:List (List U)),aQ lV au->(decide (lV<(aT p))=true->(0:Int)<=lV/\lV<(aT p)/\(List.aS p lV).length=(11:Nat)/\∃(fu:Int->List (List U)->List (List U)->Prop),∃(fb:Int->List (List U)->List (List U)->Nat),fu (0:Int) au [List.aS p lV]/\∀(v24:Int) (bw bD:List (List U)),fu v24 bw bD->(decide (v24<(aT q))=true->(0:Int)<=v24/\v24<(aT q)/\(List.aS q v24).length=(11:Nat)/\(bD.getD (0:Nat) []).length=(11:Nat)/\(List.aS q v24).length=(11:Nat)/\(Fo (List.take (8:Nat) (bD.getD (0:Nat) []))/\Fo (List.take (8:Nat) (List.aS q v24)))/\((bD.getD (0:Nat) []).gV).isBool/\((bD.getD (0:Nat) []).fN).fJ .u32/\((bD.getD (0:Nat) []).fO).fJ .u32/\((List.aS q v24).gV).isBool/\((List.aS q v24).fN).fJ .u32/\((List.aS q v24).fO).fJ .u32/\(bu (1000000:Nat) ((bD.getD (0:Nat) []).fN).cP/\bu (1000000:Nat) ((bD.getD (0:Nat) []).fO).cP/\bu (1000000:Nat) ((List.aS q v24).fN).cP/\bu (1000000:Nat) ((List.aS q v24).fO).cP)/\∀x,x=ca (aV ((bD.getD (0:Nat) []).gV).toBool ((bD.getD (0:Nat) []).fN).cP ((bD.getD (0:Nat) []).fO).cP*aV ((List.aS q v24).gV).toBool ((List.aS q v24).fN).cP ((List.aS q v24).fO).cP)->∀a7,a7=b8 (aV ((bD.getD (0:Nat) []).gV).toBool ((bD.getD (0:Nat) []).fN).cP ((bD.getD (0:Nat) []).fO).cP*aV ((List.aS q v24).gV).toBool ((List.aS q v24).fN).cP ((List.aS q v24).fO).cP)->∀aW,aW=b1 (aV ((bD.getD (0:Nat) []).gV).toBool ((bD.getD (0:Nat) []).fN).cP ((bD.getD (0:Nat) []).fO).cP*aV ((List.aS q v24).gV).toBool ((List.aS q v24).fN).cP ((List.aS q v24).fO).cP)->(↑bw.length+↑[ej (ga (kx (List.take (8:Nat) (bD.getD (0:Nat) []))) (kx (List.take (8:Nat) (List.aS q v24))))++[U.bool x,U.af .u32 a7,U.af .u32 aW]].length)*(120:Int)<=(70368744177664:Int)/\fu (ai (v24+(1:Int))) (bw++[ej (ga (kx (List.take (8:Nat) (bD.getD (0:Nat) []))) (kx (List.take (8:Nat) (List.aS q v24))))++[U.bool x,U.af .u32 a7,U.af .u32 aW]]) bD/\fb (ai (v24+(1:Int))) (bw++[ej (ga (kx (List.take (8:Nat) (bD.getD (0:Nat) []))) (kx (List.take (8:Nat) (List.aS q v24))))++[U.bool x,U.af .u32 a7,U.af .u32 aW]]) bD<fb v24 bw bD)/\(decide (v24<(aT q))=false->aQ (ai (lV+(1:Int))) bw/\m (ai (lV+(1:Int))) bw<m lV au))/\(decide (lV<(aT p))=false->hA au/\∀x,x=bK (nrm (List.map aM au))->K (R.d (U.ar (11:Nat) x)))
def Mh:aa.Rows->(R->Prop)->Prop:=
 fun p K=>cC p/\∀x,x=iB 0 (List.map aM p)->(decide (1024<x)=true->K (R.tup [R.d (U.ar 11 []),R.d (U.int .i64 9)]))/\(decide (1024<x)=false->K (R.tup [R.d (U.ar 11 p),R.d (U.int .i64 0)]))
def Mz:Int->(R->Prop)->Prop:=
 fun v K=>(decide (v<0)=true->K (R.tup [R.d (U.ar 11 []),R.d (U.int .i64 1)]))/\(decide (v<0)=false->(decide (8<=v)=true->K (R.tup [R.d (U.ar 11 []),R.d (U.int .i64 1)]))/\(decide (8<=v)=false->i64 1/\∀x,x=ca (IntCast.intCast 1)->∀a7,a7=b8 (IntCast.intCast 1)->∀aW,aW=b1 (IntCast.intCast 1)->0<=v/\v<8/\(([U.int .i64 0,U.int .i64 0,U.int .i64 0,U.int .i64 0,U.int .i64 0,U.int .i64 0,U.int .i64 0,U.int .i64 0]++[U.bool x,U.af .u32 a7,U.af .u32 aW]).set v.toNat (U.int .i64 1)).length=11/\K (R.tup [R.d (U.ar 11 [([U.int .i64 0,U.int .i64 0,U.int .i64 0,U.int .i64 0,U.int .i64 0,U.int .i64 0,U.int .i64 0,U.int .i64 0]++[U.bool x,U.af .u32 a7,U.af .u32 aW]).set v.toNat (U.int .i64 1)]),R.d (U.int .i64 0)])))
def Md:aa.Rows->aa.Rows->(R->Prop)->Prop:=
 fun p q K=>cC p/\∀x,x=ea p->((!x)=true->K (R.tup [R.d (U.ar 11 []),R.d (U.int .i64 2)]))/\((!x)=false->cC q/\∀x,x=ea q->((!x)=true->K (R.tup [R.d (U.ar 11 []),R.d (U.int .i64 2)]))/\((!x)=false->hA p/\∀x,x=bK (nrm (List.map aM p))->hA q/\∀a7,a7=bK (nrm (List.map aM q))->hA (x++a7)/\∀aW,aW=bK (nrm (List.map aM x++List.map aM a7))->cC aW/\∀x,(x=if 1024<iB 0 (List.map aM aW)then[]else aW)->∀bn,(bn=if 1024<iB 0 (List.map aM aW)then 9 else 0)->K (R.tup [R.d (U.ar 11 x),R.d (U.int .i64 bn)])))
def Me:aa.Rows->aa.Rows->(R->Prop)->Prop:=
 fun p q K=>cC p/\∀x,x=ea p->((!x)=true->K (R.tup [R.d (U.ar 11 []),R.d (U.int .i64 2)]))/\((!x)=false->cC q/\∀x,x=ea q->((!x)=true->K (R.tup [R.d (U.ar 11 []),R.d (U.int .i64 2)]))/\((!x)=false->hA p/\∀x,x=bK (nrm (List.map aM p))->hA q/\∀a7,a7=bK (nrm (List.map aM q))->(∃(k:Nat),∃(c:Nat),∃(j:Nat),∃(d:Nat),1<=k/\1<=j/\(∀(r:List U),r∈x->ft k r)/\(∀(r:List U),r∈a7->ft j r)/\(∀(m:List Int),fM m x<=c)/\(∀(m:List Int),fM m a7<=d)/\1<=d/\(c+1)*(2*(k+d*(j+2))+2)<=900000/\x.length+a7.length<=1000000000)/\∀aW,aW=bK (nrm (List.map aM x++eS (-1) (List.map aM a7)))->cC aW/\∀x,(x=if 1024<iB 0 (List.map aM aW)then[]else aW)->∀bn,(bn=if 1024<iB 0 (List.map aM aW)then 9 else 0)->K (R.tup [R.d (U.ar 11 x),R.d (U.int .i64 bn)])))
def MA:aa.Rows->aa.Rows->(R->Prop)->Prop:=
 fun p q K=>om p q/\∀x,x=bK (if ec p q=true then nrm (List.map aM p++List.map aM q)else[])->∀a7,(a7=if ec p q=true then 0 else 2)->K (R.tup [R.d (U.ar 11 x),R.d (U.int .i64 a7)])
def MB:aa.Rows->aa.Rows->(R->Prop)->Prop:=
 fun p q K=>om p q/\∀x,x=bK (if ec p q=true then nrm (List.map aM p++eS (-1) (List.map aM q))else[])->∀a7,(a7=if ec p q=true then 0 else 2)->K (R.tup [R.d (U.ar 11 x),R.d (U.int .i64 a7)])
def Mi:aa.Rows->Int->aa.Rows->(R->Prop)->Prop:=
 fun p n q K=>∃(aQ:Int->Prop),∃(m:Int->Nat),aQ 0/\∀(bq:Int),aQ bq->(decide (bq<8)=true->(cC p/\0<=bq/\bq<8)/\∀x,x=hZ (List.map aM p) bq.toNat->(cC q/\0<=bq/\bq<8)/\∀a7,a7=hZ (List.map aM q) bq.toNat->(decide (1024<ai (ai (n*if x<0 then 0 else x)+if a7<0 then 0 else a7))=true->K (R.d (U.bool true)))/\(decide (1024<ai (ai (n*if x<0 then 0 else x)+if a7<0 then 0 else a7))=false->aQ (ai (bq+1))/\m (ai (bq+1))<m bq))/\(decide (bq<8)=false->K (R.d (U.bool false)))
def MC:aa.Rows->aa.Rows->(R->Prop)->Prop:=
 fun p q K=>cC p/\∀x,x=ea p->((!x)=true->K (R.tup [R.d (U.ar (11:Nat) []),R.d (U.int .i64 (2:Int))]))/\((!x)=false->cC q/\∀x,x=ea q->((!x)=true->K (R.tup [R.d (U.ar (11:Nat) []),R.d (U.int .i64 (2:Int))]))/\((!x)=false->hA p/\∀x,x=bK (nrm (List.map aM p))->hA q/\∀a7,a7=bK (nrm (List.map aM q))->(decide ((0:Int)<↑x.length)=true->(decide ((0:Int)<↑a7.length)=true->((cC x/\cC a7)/\(xE x/\xE a7)/\(0:Int)<=(1:Int)/\(1:Int)<=(1000:Int))/\∀aW,aW=hi (1:Int) (List.map aM x) (List.map aM a7)->(aW=true->K (R.tup [R.d (U.ar (11:Nat) []),R.d (U.int .i64 (9:Int))]))/\(aW=false->rQ x a7/\∀bn,bn=bK (nrm (dJ (List.map aM x) (List.map aM a7)))->K (R.tup [R.d (U.ar (11:Nat) bn),R.d (U.int .i64 (0:Int))])))/\(decide ((0:Int)<↑a7.length)=false->rQ x a7/\∀aW,aW=bK (nrm (dJ (List.map aM x) (List.map aM a7)))->K (R.tup [R.d (U.ar (11:Nat) aW),R.d (U.int .i64 (0:Int))])))/\(decide ((0:Int)<↑x.length)=false->rQ x a7/\∀aW,aW=bK (nrm (dJ (List.map aM x) (List.map aM a7)))->K (R.tup [R.d (U.ar (11:Nat) aW),R.d (U.int .i64 (0:Int))]))))
def Ma:aa.Rows->Int->(R->Prop)->Prop:=
 fun p v K=>cC p/\∀x,x=ea p->((!x)=true->K (R.tup [R.d (U.ar 11 []),R.d (U.int .i64 2)]))/\((!x)=false->(decide (v<0)=true->K (R.tup [R.d (U.ar 11 []),R.d (U.int .i64 1)]))/\(decide (v<0)=false->(decide (8<=v)=true->K (R.tup [R.d (U.ar 11 []),R.d (U.int .i64 1)]))/\(decide (8<=v)=false->hA p/\∀x,x=bK (nrm (List.map aM p))->K (R.tup [R.d (U.ar 11 x),R.d (U.int .i64 0)]))))
end aa
end
section
open Go Go.ak
namespace aa
theorem afu:dV.length=8:=rfl
theorem afv (s:Bool)(a b:List Int):([U.int IntKind.i64 (0:Int),U.int IntKind.i64 (0:Int),U.int IntKind.i64 (0:Int),U.int IntKind.i64 (0:Int),U.int IntKind.i64 (0:Int),U.int IntKind.i64 (0:Int),U.int IntKind.i64 (0:Int),U.int IntKind.i64 (0:Int)]++[U.bool s,U.af IntKind.u32 a,U.af IntKind.u32 b]:Row)=eP dV s a b:=rfl
theorem XK (p q:Rows)(K:R->Prop)(h:EI.T [.d (.ar 11 p), .d (.ar 11 q)] K):MY p q K:=by
 obtain⟨ay,ag⟩:=h;unfold MY aT;have ax:(p++q).length<=1000000000:=by obtain⟨_,_,_,_,_,_,_,h⟩:=ay;exact h
 rw[ap4]at ax;refine⟨by omega, ?_⟩;rintro _ rfl;refine⟨by omega,ay, ?_⟩;rintro _ rfl;rw[aqo];exact ag
theorem RV (v:Nat):∀(p:List bd) (d:Int) (t:bd),kz v d (p++[t])=(if t.1.getD v 0>kz v d p then t.1.getD v 0 else kz v d p)
 |[],d,t=>rfl
 |u::p,d,t=>by rw[aqW,kz,RV v p,kz]
theorem RW:∀(p:List bd) (d:Int) (t:bd),iB d (p++[t])=(if lL (t.1.getD 0 0) (t.1.drop 1)>iB d p then lL (t.1.getD 0 0) (t.1.drop 1)else iB d p)
 |[],d,t=>rfl
 |u::p,d,t=>by rw[aqW,iB,RW p,iB]
theorem eT.at {r:Row}(h:eT r){v:Nat}(aO:v<8):r.getD v .undef= .int .i64 ((dI r).getD v 0):=by
 obtain⟨oN,fX,gg,h6,jS,jT,oO,sh,s,a,b,rfl⟩:=h
 match v,aO with
 |0,_=>rfl
 |1,_=>rfl
 |2,_=>rfl
 |3,_=>rfl
 |4,_=>rfl
 |5,_=>rfl
 |6,_=>rfl
 |7,_=>rfl
theorem WZ (p:Rows)(v:Int)(K:R->Prop)(h:EM.T [.d (.ar 11 p), .d (.int .i64 v)] K):ME p v K:=by
 obtain⟨⟨⟨bp,ax⟩,jk,pn⟩,ag⟩:=h;unfold ME ai aT List.aS;refine⟨fun d w=>∃i:Nat,w=i/\i<=p.length/\d=kz v.toNat (-1) ((p.take i).map aM),fun _ w=>p.length-w.toNat,⟨0,rfl,by omega,rfl⟩, ?_⟩;rintro _ _ ⟨i,rfl,ab,rfl⟩;simp only[aqe,apD,apB];refine⟨fun ba=> ?_,fun ba=> ?_⟩
 ·have hi:i<p.length:=by omega
  have ao:=bp.get hi;rw[ao.at (by omega)];refine⟨by omega,ba,ao.len,jk,pn,rfl,⟨i+1,fZ (by omega) (by omega),by omega, ?_⟩,by rw[fZ (by omega) (by omega)];omega⟩;rw[q8 hi,aqo];exact(RV v.toNat ((p.take i).map aM) (-1) (aM (p.getD i []))).symm
 ·have:i=p.length:=by omega
  rw[this,aqZ];exact ag
theorem XL (p:Rows)(K:R->Prop)(h:EN.T [.d (.ar 11 p)] K):MZ p K:=by
 obtain⟨⟨bp,ax⟩,ag⟩:=h;unfold MZ ai aT List.aS;refine⟨fun d w=>∃i:Nat,w=i/\i<=p.length/\d=iB 0 ((p.take i).map aM),fun _ w=>p.length-w.toNat,⟨0,rfl,by omega,rfl⟩, ?_⟩;rintro _ _ ⟨i,rfl,ab,rfl⟩;simp only[aqe,apD,apB];refine⟨fun ba=> ?_,fun ba=> ?_⟩
 ·have hi:i<p.length:=by omega
  have ao:=bp.get hi;have ang:(List.map U.toInt (List.take 8 (p.getD i []))).length=8:=by rw[apI,ap_,ao.len];rfl
  refine⟨by omega,ba,ao.len,ao.len,ao.A9,⟨by omega,by omega⟩, ?_⟩;rintro _ rfl;refine⟨⟨i+1,fZ (by omega) (by omega),by omega, ?_⟩,by rw[fZ (by omega) (by omega)];omega⟩;rw[q8 hi,aqo];exact(RW ((p.take i).map aM) 0 (aM (p.getD i []))).symm
 ·have:i=p.length:=by omega
  rw[this,aqZ];exact ag
theorem aad (c:Rat)(p q:List bd):eS c (p++q)=eS c p++eS c q:=aqo
theorem W5 (p:Rows)(s:Bool)(a b:List Int)(K:R->Prop)(h:Dt.T [.d (.ar 11 p), .agg [.d (.bool s), .d (.af .u32 a), .d (.af .u32 b)]] K):ML p s a b K:=by
 obtain⟨⟨k,c,j,iA,aI,bp,Bb,aR,ah,hle,KV,hlen⟩,ag⟩:=h;unfold ML ai List.aS List.gV List.fN List.fO;have aC:c1 j (aV s a b):=c1.of aR ah aI;refine⟨by omega,fun x aj=> ?_⟩;have aj:=aj.symm;subst aj;refine⟨fun v o=>∃i:Nat,v=i/\i<=p.length/\o=bK (eS (aV s a b) ((p.take i).map aM))++p.drop i,fun v _=>p.length-v.toNat,⟨rfl,0,rfl,by omega,rfl⟩, ?_⟩;rintro _ _ ⟨i,rfl,ab,rfl⟩;have iU:(bK (eS (aV s a b) ((p.take i).map aM))).length=i:=by rw[hs,eS,apI,apI,ap_];omega
 simp only[aqe,apD,apB];refine⟨fun ba=> ?_,fun ba=> ?_⟩
 ·have hi:i<p.length:=by omega
  obtain⟨m,t,Gj,d,e,hm,ih,ad,aA⟩:=(bp _ (mO hi)).bP
  have nX:(bK (eS (aV s a b) ((p.take i).map aM))++p.drop i).getD i []=eP m t Gj d:=by
   rw[apA,aqG (by omega),iU,Nat.sub_self,aq1,apV,<-apA,e]
  simp only[nX,rO hm,rP hm,rI hm,U.toBool,U.cP];refine⟨by omega,by rw[ap4,iU,aqL];omega,trivial,rfl,rfl,⟨ad.mono (by omega),aA.mono (by omega),aR.mono (by omega),ah.mono (by omega)⟩, ?_⟩;rintro _ rfl _ rfl _ rfl;rw[IV hm,fZ (by omega) (by omega)];refine⟨by omega,by rw[ap4,iU,aqL];omega,trivial,⟨i+1,rfl,by omega, ?_⟩,by omega⟩;rw[List.set_append_right _ _ (by omega),iU,Nat.sub_self,aqU hi,List.set_cons_zero,q8 hi,e,aqo,List.map_singleton,oj hm,aad,za,List.append_assoc];rfl
 ·have hi:i=p.length:=by omega
  have he:bK (eS (aV s a b) ((p.take i).map aM))++p.drop i=bK (eS (aV s a b) (p.map aM)):=by
   rw[hi,aqZ,List.drop_length,arY]
  rw[he]
  have ih:∀t∈eS (aV s a b) (p.map aM),l4 t.1:=fun t aw=>by
   obtain⟨u,hu,rfl⟩:=apQ.1 aw;obtain⟨r,ao,rfl⟩:=apQ.1 hu;exact(bp r ao).pV
  have hw:=dE.scale aC aI (zo (fun r ao=>(bp r ao).Ga) iA);refine⟨wN hw (by omega) ih (fun m=>by rw[Cj,<-sO];exact Bb m) hle KV (by rw[eS,apI,apI];exact hlen), ?_⟩;rintro _ rfl;rw[fP fun t aw=>(ih t aw).1];exact ag
theorem xt:c1 1 (-1):=c1.one.neg
theorem aeM:(IntCast.intCast (-1:Int):Rat)=-1:=rfl
theorem XM (p:Rows)(K:R->Prop)(h:EJ.T [.d (.ar 11 p)] K):M0 p K:=by
 obtain⟨⟨k,c,iA,bp,Bb,hle,A_,hlen⟩,ag⟩:=h;unfold M0;refine⟨⟨by decide,by decide⟩, ?_⟩;rintro _ rfl _ rfl _ rfl;rw[aeM];refine⟨⟨k,c,1,iA,apF _,bp,Bb,xt.num,xt.den,hle,A_,hlen⟩, ?_⟩;rintro _ rfl;rw[jE];exact ag
theorem XN (p q:Rows)(K:R->Prop)(h:EK.T [.d (.ar 11 p), .d (.ar 11 q)] K):M1 p q K:=by
 obtain⟨⟨k,c,j,d,iA,aI,ys,jB,akX,U7,a_,hle,hlen⟩,ag⟩:=h;unfold M1;have ab:1*(2*(k+d*(j+2))+2)<=(c+1)*(2*(k+d*(j+2))+2):=apP _ (by omega);have ad:d*(2*(j+1)+2)=2*(d*(j+2)):=by rw[show 2*(j+1)+2=2*(j+2) by omega,aqC]
 have aA:1*(j+2)<=d*(j+2):=apP _ a_;refine⟨⟨j,d,aI,jB,U7,by omega,by omega,by omega⟩, ?_⟩;rintro _ rfl
 have ih:∀t∈nrm (eS (-1) (q.map aM)),l4 t.1:=fun t aw=>by
  obtain⟨u,hu,e⟩:=sN aw;obtain⟨x,aj,rfl⟩:=apQ.1 hu;obtain⟨r,ao,rfl⟩:=apQ.1 aj;rw[<-e];exact(jB r ao).pV
 have dq:=fun t aw=>(ih t aw).1
 have hw:dE (d*(j+2)) (nrm (eS (-1) (q.map aM))):=(dE.scale xt (apF _) (zo (fun r ao=>(jB r ao).Ga) aI)).nrm fun m=>by
  rw[Cj,<-sO];exact U7 m
 refine⟨?_, ?_⟩
 ·refine⟨k+d*(j+2),c+1,by omega,fun r ao=> ?_,fun m=> ?_,hle,by omega, ?_⟩
  ·rcases aqV.1 ao with ao|ao
   ·exact(ys r ao).mono (by omega)
   ·exact(CZ hw ih r ao).mono (by omega)
  ·rw[y_,sy dq];have:=akX m;have:=(iL (eS (-1) (q.map aM))).jm m;omega
  ·have:=uQ (eS (-1) (q.map aM));rw[eS,apI,apI,<-eS]at this;rw[ap4,hs];omega
 ·rintro _ rfl;rw[fP dq,abO];exact ag
theorem PT (s:bd)(q:List bd):∀p:List bd,dJ (p++[s]) q=dJ p q++h3 s q
 |[]=>by show h3 s q++[]=[]++h3 s q;simp
 |t::p=>by show h3 t q++dJ (p++[s]) q=(h3 t q++dJ p q)++h3 s q;rw[PT s q p,List.append_assoc]
theorem abQ (s t:bd)(q:List bd):h3 s (q++[t])=h3 s q++[(ga s.1 t.1,s.2*t.2)]:=aqo
theorem zg (q:List bd):∀p:List bd,(dJ p q).length=p.length*q.length
 |[]=>by simp[dJ]
 |t::p=>by rw[dJ,ap4,zg q p,h3,apI,aqj,apU,aqO,Nat.add_comm]
theorem afw {e:Int}{m:List Int}{c:Rat}(h:c4 e [(m,c)]):m.length=8/\∀x∈m,0<=x/\x<=e:=h (m,c) (by simp)
theorem RX {r:Row}{W:Nat}(h:hV W r)(he:c4 2000000000000000000 [aM r]):∃(m:List Int) (s:Bool) (a b:List Int),r=eP m s a b/\m.length=8/\(∀x∈m,-4000000000000000000<=x/\x<=4000000000000000000)/\bu W a/\bu W b:=by
 obtain⟨m,s,a,b,rfl,hm,ab,ad⟩:=h;rw[oj hm]at he;exact⟨m,s,a,b,rfl,hm,fun x aj=>by have:=(afw he).2 x aj;omega,ab,ad⟩
theorem XO (p q:Rows)(K:R->Prop)(h:EL.T [.d (.ar 11 p), .d (.ar 11 q)] K):M3 p q K:=by
 obtain⟨⟨ys,jB,k,j,c,iA,ks,U8,U9,ahs,hle,KV,qH,GG,kC⟩,ag⟩:=h;unfold M3 ai aT List.aS List.gV List.fN List.fO;have aC:((p.length:Nat):Int)*((q.length:Nat):Int)=((p.length*q.length:Nat):Int):=(aqJ _ _).symm;have qF:IntKind.wrap .i64 (((p.length:Nat):Int)*((q.length:Nat):Int))=((p.length*q.length:Nat):Int):=by rw[aC];exact fZ (by omega) (by omega)
 rw[qF];refine⟨by omega,by omega,by omega,fun v o=>∃i:Nat,v=i/\i<=p.length/\o=bK (dJ ((p.take i).map aM) (q.map aM)),fun v _=>p.length-v.toNat,⟨0,rfl,by omega,rfl⟩, ?_⟩;rintro _ _ ⟨i,rfl,ab,rfl⟩;simp only[aqe,apD,apB];refine⟨fun ba=> ?_,fun ba=> ?_⟩
 ·have hi:i<p.length:=by omega
  have U_:=mO hi;obtain⟨m,s,a,b,e,hm,ih,aR,ah⟩:=RX (U8 _ U_) (ys _ U_).1;have mC:(i+1)*q.length<=p.length*q.length:=apP _ hi;rw[apU,aqO]at mC;rw[e];refine⟨by omega,by omega,qj hm,fun v o bD=>∃j:Nat,v=j/\j<=q.length/\o=bK (dJ ((p.take i).map aM) (q.map aM)++h3 (m,aV s a b) ((q.take j).map aM))/\bD=[eP m s a b],fun v _ _=>q.length-v.toNat,⟨0,rfl,by omega,by simp[h3],rfl⟩, ?_⟩;rintro _ _ _ ⟨j,rfl,aY,rfl,rfl⟩;have hq:List.getD [eP m s a b] 0 []=eP m s a b:=rfl;simp only[aqe,apD,apB,hq];refine⟨fun bJ=> ?_,fun bJ=> ?_⟩
  ·have aI:j<q.length:=by omega
   have x2:=mO aI;obtain⟨n,t,Gj,d,f,aB,vB,j6,a_⟩:=RX (U9 _ x2) (jB _ x2).1;simp only[f,qj hm,qj aB,uO hm,uO aB,rO hm,rP hm,rI hm,rO aB,rP aB,rI aB,y9,U.toBool,U.cP];refine⟨by omega,by omega,trivial,trivial,trivial,⟨⟨m,rfl,hm,ih⟩,⟨n,rfl,aB,vB⟩⟩,trivial,rfl,rfl,trivial,rfl,rfl,⟨aR.mono (by omega),ah.mono (by omega),j6.mono (by omega),a_.mono (by omega)⟩, ?_⟩;rintro _ rfl _ rfl _ rfl;rw[fZ (by omega) (by omega)];refine⟨?_,⟨j+1,rfl,by omega, ?_,trivial⟩,by omega⟩
   ·rw[hs,ap4,zg,h3,apI,apI,apI,ap_,apI,ap_,aqX,arJ ab,arJ aY];generalize i*q.length=z at*;omega
   ·rw[q8 aI,f,aqo,List.map_singleton,oj aB,abQ,<-List.append_assoc,za _ [_]];rfl
  ·have aI:j=q.length:=by omega
   rw[fZ (by omega) (by omega)];refine⟨⟨i+1,rfl,by omega, ?_⟩,by omega⟩;rw[q8 hi,e,aqo,List.map_singleton,oj hm,PT,aI,aqZ]
 ·have hi:i=p.length:=by omega
  rw[hi,aqZ]
  have KW:c4 2000000000000000000 (p.map aM):=fun t aw=>by
   obtain⟨r,ao,rfl⟩:=apQ.1 aw;exact(ys r ao).1 _ (by simp)
  have KX:c4 2000000000000000000 (q.map aM):=fun t aw=>by
   obtain⟨r,ao,rfl⟩:=apQ.1 aw;exact(jB r ao).1 _ (by simp)
  have ih:=(KW.mul KX).pV (by decide);have hw:=dE.mul iA (zo U8 iA) (zo U9 ks)
  have Bb:∀m,eB m (dJ (p.map aM) (q.map aM))<=c:=fun m=>by
   rcases ahs with⟨ab,ad⟩|⟨ab,ad⟩
   ·have:=Cz m KX.len (fun x=>by rw[<-sO];exact ad x) KW.len;rw[apI]at this;omega
   ·have:=OY m KW.len (fun x=>by rw[<-sO];exact ad x) KX.len;rw[apI]at this;omega
  refine⟨wN hw (by omega) ih Bb hle KV (by rw[zg,apI,apI];exact qH), ?_⟩;rintro _ rfl;rw[fP fun t aw=>(ih t aw).1];exact ag
theorem Ww (p:Rows)(K:R->Prop)(h:CY.T [.d (.ar 11 p)] K):Mh p K:=by
 obtain⟨aU,ag⟩:=h;unfold Mh;refine⟨aU, ?_⟩;rintro _ rfl;refine⟨fun h=> ?_,fun h=> ?_⟩
 ·have h:=apJ h;rw[apz h,apz h]at ag;exact ag
 ·have h:=apO h;rw[apy h,apy h]at ag;exact ag
theorem qp {b:Bool}(h:(!b)=true):b=false:=by simpa using h
theorem ny {b:Bool}(h:(!b)=false):b=true:=by simpa using h
theorem WS (v:Int)(K:R->Prop)(h:EO.T [.d (.int .i64 v)] K):Mz v K:=by
 obtain⟨_,ag⟩:=h;unfold Mz;simp only[aqe,apD];refine⟨fun h=> ?_,fun ab=>⟨fun h=> ?_,fun ad=>⟨⟨by decide,by decide⟩, ?_⟩⟩⟩
 ·rw[apy (by omega),apy (by omega)]at ag;exact ag
 ·rw[apy (by omega),apy (by omega)]at ag;exact ag
 ·rintro _ rfl _ rfl _ rfl;rw[afv];refine⟨by omega,by omega,by rw[apL];exact qj afu, ?_⟩;rw[apz (by omega),apz (by omega)]at ag
  have e:(eP dV (ca ((1:Int):Rat)) (b8 ((1:Int):Rat)) (b1 ((1:Int):Rat))).set v.toNat (.int .i64 1)=jv (dV.set v.toNat 1,nC):=by
   rw[eP,List.set_append_left _ _ (by rw[kJ];show v.toNat<8;omega),Ie];rfl
  show K (.tup [.d (.ar 11 [(eP dV (ca ((1:Int):Rat)) (b8 ((1:Int):Rat)) (b1 ((1:Int):Rat))).set v.toNat (.int .i64 1)]), .d (.int .i64 0)]);rw[e];exact ag
theorem IX {e:Int}:∀{p:List bd} {d:Int},c4 e p->d<=e->iB d p<=e
 |[],_,_,a_=>a_
 |t::p,d,h,a_=>by
  rw[iB];refine IX (fun u hu=>h u (by simp[hu])) ?_;split
  ·have aw:=h t (by simp)
   have:∀(l:List Int) (a:Int),a<=e->(∀x∈l,x<=e)->lL a l<=e:=by
    intro l
    induction l with
    |nil=>intro a aR _;exact aR
    |cons x l bI=>
     intro a aR ax;rw[lL];refine bI _ ?_ fun y bo=>ax y (by simp[bo]);split
     ·exact ax x (by simp)
     ·exact aR
   refine this _ _ ?_ fun x aj=>(aw.2 x (List.mem_of_mem_drop aj)).2;have dq:=aw.1;exact(aw.2 _ (mQ (by omega))).2
  ·exact a_
theorem O0 {P:List bd}{k:Nat}(hw:dE k P)(he:c4 1024 P)(aB:P.length<1000000000){K:R->Prop}(ag:K (.tup [.d (.ar 11 (bK P)), .d (.int .i64 0)])):
 cC (bK P)/\∀x:List (List U),(x=if(1024:Int)<iB 0 ((bK P).map aM)then[]else bK P)->∀y:Int,(y=if(1024:Int)<iB 0 ((bK P).map aM)then 9 else 0)->K (.tup [.d (.ar 11 x), .d (.int .i64 y)]):=by
 refine⟨zf hw he.len aB, ?_⟩
 have h:¬(1024:Int)<iB 0 ((bK P).map aM):=by
  rw[fP he.len];have:=IX he (show(0:Int)<=1024 by decide);omega
 rintro _ rfl _ rfl;rw[apy h,apy h];exact ag
theorem Ws (g:Nat)(p q:Rows)(K:R->Prop)(h:(zS.T g) [.d (.ar 11 p), .d (.ar 11 q), .fn g] K):Md p q K:=by
 unfold zS.T bk at h;simp only[aqx]at h;obtain⟨⟨⟨gE,iG⟩,A,B,n,m,dG,eH,hle,lO⟩,ag⟩:=h;unfold Md;refine⟨gE, ?_⟩;rintro _ rfl;refine⟨fun h=> ?_,fun ab=>⟨iG, ?_⟩⟩
 ·have e:ec p q=false:=by rw[ec,qp h];rfl
  rw[e]at ag;exact ag
 ·rintro _ rfl;refine⟨fun h=> ?_,fun ad=> ?_⟩
  ·have e:ec p q=false:=by rw[ec,qp h,Bool.and_false]
   rw[e]at ag;exact ag
  ·have ab:=ny ab;have ad:=ny ad;have e:ec p q=true:=by rw[ec,ab,ad];rfl
   rw[apz e,apz e]at ag;have gP:=(mX ab gE.1).nrm;have eq:=(mX ad iG.1).nrm;have wp:=dG.fA;have qY:=eH.fA;have de:=dG.mw;have l2:=eH.mw;refine⟨rj ab gE dG (by omega), ?_⟩;rintro _ rfl;refine⟨rj ad iG eH (by omega), ?_⟩;rintro _ rfl;have Ld:dE (A+B+1) (nrm (p.map aM)++nrm (q.map aM)):=(wp.mono (by omega)).app (qY.mono (by omega))
   have sg:∀x,eB x (nrm (p.map aM)++nrm (q.map aM))<=2:=fun x=>by
    have:=(iL (p.map aM)).jm x;have:=(iL (q.map aM)).jm x;rw[uD];omega
   refine⟨?_, ?_⟩
   ·rw[PS];exact wN Ld (by omega) ((gP.app eq).pV (by decide)) sg (by omega) (by omega) (by rw[ap4];omega)
   ·rintro _ rfl;have dd:=Ld.nrm sg;rw[IB]at dd;have l5:=uQ (p.map aM++q.map aM);rw[ap4,apI,apI]at l5;have:=dG.len;have:=eH.len;rw[fP gP.len,fP eq.len,IB];exact O0 dd ((mX ab gE.1).app (mX ad iG.1)).nrm (by omega) ag
theorem Wt (g:Nat)(p q:Rows)(K:R->Prop)(h:(zT.T g) [.d (.ar 11 p), .d (.ar 11 q), .fn g] K):Me p q K:=by
 unfold zT.T bk at h;simp only[aqx]at h;obtain⟨⟨⟨gE,iG⟩,A,B,n,m,dG,eH,hle,lO⟩,ag⟩:=h;unfold Me;refine⟨gE, ?_⟩;rintro _ rfl;refine⟨fun h=> ?_,fun ab=>⟨iG, ?_⟩⟩
 ·have e:ec p q=false:=by rw[ec,qp h];rfl
  rw[e]at ag;exact ag
 ·rintro _ rfl;refine⟨fun h=> ?_,fun ad=> ?_⟩
  ·have e:ec p q=false:=by rw[ec,qp h,Bool.and_false]
   rw[e]at ag;exact ag
  ·have ab:=ny ab;have ad:=ny ad;have e:ec p q=true:=by rw[ec,ab,ad];rfl
   rw[apz e,apz e]at ag;have gP:=(mX ab gE.1).nrm;have eq:=(mX ad iG.1).nrm;have wp:=dG.fA;have qY:=eH.fA;have de:=dG.mw;have l2:=eH.mw;refine⟨rj ab gE dG (by omega), ?_⟩;rintro _ rfl;refine⟨rj ad iG eH (by omega), ?_⟩;rintro _ rfl;have w1:dE (A+1) (nrm (p.map aM)):=wp.mono (by omega);have dd:dE (B+1) (nrm (q.map aM)):=qY.mono (by omega);have yt:=fun x=>(iL (p.map aM)).jm x;have GH:=fun x=>(iL (q.map aM)).jm x;refine⟨⟨A+1,1,B+1,1,by omega,by omega,CZ w1 (gP.pV (by decide)),CZ dd (eq.pV (by decide)),fun x=>by rw[sy gP.len];exact yt x,fun x=>by rw[sy eq.len];exact GH x,by omega,by omega,by rw[hs,hs];omega⟩, ?_⟩;rintro _ rfl;rw[fP gP.len,fP eq.len];have bX:nrm (nrm (p.map aM)++eS (-1) (nrm (q.map aM)))=nrm (p.map aM++eS (-1) (q.map aM)):=wJ fun m=>by rw[sF,sF,Ch,Ch,oZ,oZ]
   have bY:dE (A+B+2) (nrm (p.map aM)++eS (-1) (nrm (q.map aM))):=(wp.mono (by omega)).app ((qY.scale xt (apF _)).mono (by omega))
   have kc:=bY.nrm (c:=2) fun x=>by
    have:=yt x;have:=GH x;rw[uD,Cj];omega
   rw[bX]at kc⊢;have l5:=uQ (p.map aM++eS (-1) (q.map aM));rw[ap4,eS,apI,apI,apI,<-eS]at l5;have:=dG.len;have:=eH.len;exact O0 kc ((mX ab gE.1).app ((mX ad iG.1).scale _)).nrm (by omega) ag
theorem WT (p q:Rows)(K:R->Prop)(h:EP.T [.d (.ar 11 p), .d (.ar 11 q)] K):MA p q K:=by
 obtain⟨ab,ag⟩:=h;unfold MA;refine⟨ab, ?_⟩;rintro _ rfl _ rfl;exact ag
theorem WU (p q:Rows)(K:R->Prop)(h:ER.T [.d (.ar 11 p), .d (.ar 11 q)] K):MB p q K:=by
 obtain⟨ab,ag⟩:=h;unfold MB;refine⟨ab, ?_⟩;rintro _ rfl _ rfl;exact ag
theorem I8 {n:Int}{p q:List bd}:hi n p q=true↔∃v:Nat,v<8/\oG n p q v=true:=by
 unfold hi;simp only[aq6];constructor
 ·rintro(((((((h|h)|h)|h)|h)|h)|h)|h)
  ·exact⟨0,by omega,h⟩
  ·exact⟨1,by omega,h⟩
  ·exact⟨2,by omega,h⟩
  ·exact⟨3,by omega,h⟩
  ·exact⟨4,by omega,h⟩
  ·exact⟨5,by omega,h⟩
  ·exact⟨6,by omega,h⟩
  ·exact⟨7,by omega,h⟩
 ·rintro⟨v,aO,h⟩
  match v,aO with
  |0,_=>simp[h]
  |1,_=>simp[h]
  |2,_=>simp[h]
  |3,_=>simp[h]
  |4,_=>simp[h]
  |5,_=>simp[h]
  |6,_=>simp[h]
  |7,_=>simp[h]
theorem IY {a b:Int}{v:Nat}:∀{p:List bd} {d:Int},(∀t∈p,a<=t.1.getD v 0/\t.1.getD v 0<=b)->a<=d->d<=b->a<=kz v d p/\kz v d p<=b
 |[],d,_,ab,ad=>⟨ab,ad⟩
 |t::p,d,h,ab,ad=>by
  rw[kz];have aw:=h t (by simp);refine IY (fun u hu=>h u (by simp[hu])) ?_ ?_
  ·split
   ·exact aw.1
   ·exact ab
  ·split
   ·exact aw.2
   ·exact ad
theorem RY {p:Rows}(h:xE p)(bp:c9 p){v:Nat}(aO:v<8):-1000000000000<=hZ (p.map aM) v/\hZ (p.map aM) v<=1000000000000:=by
 refine IY (fun t aw=> ?_) (by decide) (by decide);obtain⟨r,ao,rfl⟩:=apQ.1 aw;exact h r ao _ (mQ (by rw[dI,apI,ap_,(bp r ao).len];omega))
theorem SM (x:Int):(if x<0 then(0:Int)else x)=max x 0:=by omega
theorem Wx (p:Rows)(n:Int)(q:Rows)(K:R->Prop)(h:ES.T [.d (.ar 11 p), .d (.int .i64 n), .d (.ar 11 q)] K):Mi p n q K:=by
 obtain⟨⟨⟨gE,iG⟩,⟨mp,anh⟩,F6,F5⟩,ag⟩:=h;unfold Mi ai;refine⟨fun v=>∃i:Nat,v=i/\i<=8/\∀j,j<i->oG n (p.map aM) (q.map aM) j=false,fun v=>8-v.toNat,⟨0,rfl,by omega,fun j aI=>by omega⟩, ?_⟩;rintro _ ⟨i,rfl,ab,ad⟩;simp only[aqe,apD,apB];refine⟨fun ba=>⟨⟨gE,by omega,by omega⟩, ?_⟩,fun ba=> ?_⟩
 ·rintro _ rfl;refine⟨⟨iG,by omega,by omega⟩, ?_⟩;rintro _ rfl;have ch:=RY mp gE.1 (v:=i) (by omega);have df:=RY anh iG.1 (v:=i) (by omega);rw[SM,SM];have e:oG n (p.map aM) (q.map aM) i=decide (1024<n*max (hZ (p.map aM) i) 0+max (hZ (q.map aM) i) 0):=rfl;generalize hZ (p.map aM) i=x at*;generalize hZ (q.map aM) i=y at*;have oN:0<=max x 0:=by omega
  have fX:max x 0<=1000000000000:=by omega
  have V4:0<=n*max x 0:=Int.mul_nonneg F6 oN;have jq:n*max x 0<=1000*1000000000000:=Int.mul_le_mul F5 fX oN (by decide);have w1:IntKind.wrap .i64 (n*max x 0)=n*max x 0:=bQ (by omega);rw[w1,bQ (by omega)];refine⟨fun bJ=> ?_,fun bJ=>⟨⟨i+1,fZ (by omega) (by omega),by omega,fun j aI=> ?_⟩,by rw[fZ (by omega) (by omega)];omega⟩⟩
  ·have:hi n (p.map aM) (q.map aM)=true:=I8.2 ⟨i,by omega,by rw[e];exact aqN bJ⟩;rw[this]at ag;exact ag
  ·by_cases A8:j=i
   ·rw[A8,e];exact arh bJ
   ·exact ad j (by omega)
 ·have:hi n (p.map aM) (q.map aM)=false:=by
   cases b5:hi n (p.map aM) (q.map aM)with
   |false=>rfl
   |true=>
    obtain⟨v,aO,mB⟩:=I8.1 b5;rw[ad v (by omega)]at mB;cases mB
  rw[this]at ag;exact ag
theorem c4.Va {e:Int}{p:List bd}(h:c4 e p)(he:e<=1000000000000):xE (bK p):=fun r ao x aj=>by
 obtain⟨t,aw,rfl⟩:=apQ.1 ao;have az:dI (jv t)=t.1:=uP (h t aw).1;rw[az]at aj;have:=(h t aw).2 x aj;omega
theorem c4.Fx {e:Int}{p:List bd}{k:Nat}(h:c4 e p)(he:e<=2000000000000000000)(hw:dE k p):∀r∈bK p,c4 2000000000000000000 [aM r]/\eT r:=fun r ao=>by
 refine⟨?_,(ri hw h.len r ao).row⟩;obtain⟨t,aw,rfl⟩:=apQ.1 ao;rw[Ds (h t aw).1];intro u hu;rw[aqy.1 hu];exact h.mono he t aw
theorem WV (p q:Rows)(K:R->Prop)(h:ET.T [.d (.ar 11 p), .d (.ar 11 q)] K):MC p q K:=by
 obtain⟨⟨⟨gE,iG⟩,A,B,n,m,dG,eH,hle,lO,akY,akZ⟩,ag⟩:=h;unfold MC;refine⟨gE, ?_⟩;rintro _ rfl;refine⟨fun h=> ?_,fun ab=>⟨iG, ?_⟩⟩
 ·have e:ec p q=false:=by rw[ec,qp h];rfl
  rw[qw,e]at ag;exact ag
 ·rintro _ rfl;refine⟨fun h=> ?_,fun ad=> ?_⟩
  ·have e:ec p q=false:=by rw[ec,qp h,Bool.and_false]
   rw[qw,e]at ag;exact ag
  ·have ab:=ny ab;have ad:=ny ad;have e:ec p q=true:=by rw[ec,ab,ad];rfl
   rw[qw,e,arK,apz rfl]at ag;have gP:=(mX ab gE.1).nrm;have eq:=(mX ad iG.1).nrm;have wp:=dG.fA;have qY:=eH.fA;refine⟨rj ab gE dG akY, ?_⟩;rintro _ rfl;refine⟨rj ad iG eH akZ, ?_⟩;rintro _ rfl;have GG:=dG.mw;have kC:=eH.mw;have aY:1<=A:=by obtain⟨_,_,g1,_,_,_,g2,_⟩:=dG;omega
   have bj:1<=B:=by obtain⟨_,_,g1,_,_,_,g2,_⟩:=eH;omega
   have yt:=fun x=>(iL (p.map aM)).jm x;have GH:=fun x=>(iL (q.map aM)).jm x;have ak0:=uQ (p.map aM);have ak1:=uQ (q.map aM);rw[apI]at ak0 ak1;have ao6:=gE.2;have ao7:=iG.2
   have iE:rQ (bK (nrm (p.map aM))) (bK (nrm (q.map aM))):=by
    refine⟨gP.Fx (by decide) wp,eq.Fx (by decide) qY,A,B,if n*(2*(A+B)+2)<=900000 then n else m,aY,bj,ri wp gP.len,ri qY eq.len, ?_, ?_,by omega, ?_,by rw[hs];omega,by rw[hs];omega⟩
    ·split
     ·exact .inl ⟨by rw[hs];exact GG,fun x=>by rw[sy eq.len];exact GH x⟩
     ·exact .inr ⟨by rw[hs];exact kC,fun x=>by rw[sy gP.len];exact yt x⟩
    ·split
     ·assumption
     ·rename_i h;exact hle.resolve_left h
    ·rw[hs,hs];have:=aqP GG kC;omega
   have fin:∀x:List (List U),x=bK (nrm (dJ ((bK (nrm (p.map aM))).map aM) ((bK (nrm (q.map aM))).map aM)))->x=bK (nrm (dJ (p.map aM) (q.map aM))):=by
    rintro _ rfl;rw[fP gP.len,fP eq.len,IC]
   rw[hs,hs]
   have TQ:∀l:List bd,decide ((0:Int)<((l.length:Nat):Int))= !decide (l=[]):=fun l=>by
    cases l with
    |nil=>rfl
    |cons t l=>simp
   rw[TQ,TQ];refine⟨fun g1=>⟨fun g2=>⟨⟨⟨zf wp gP.len (by omega),zf qY eq.len (by omega)⟩,⟨gP.Va (by decide),eq.Va (by decide)⟩,by decide,by decide⟩, ?_⟩,fun g2=>⟨iE, ?_⟩⟩,fun g1=>⟨iE, ?_⟩⟩
   ·rintro _ rfl;rw[fP gP.len,fP eq.len];have BB:mF (nrm (p.map aM)) (nrm (q.map aM))=hi 1 (nrm (p.map aM)) (nrm (q.map aM)):=by rw[mF,g1,g2,arK,arK]
    rw[BB]at ag;refine⟨fun h=> ?_,fun h=>⟨iE, ?_⟩⟩
    ·rw[h]at ag;exact ag
    ·rw[h]at ag;intro x aj;rw[fP gP.len,fP eq.len]at fin;rw[fin x aj];exact ag
   ·have BB:mF (nrm (p.map aM)) (nrm (q.map aM))=false:=by rw[mF,g2,Bool.and_false];rfl
    rw[BB]at ag;intro x aj;rw[fin x aj];exact ag
   ·have BB:mF (nrm (p.map aM)) (nrm (q.map aM))=false:=by rw[mF,g1];rfl
    rw[BB]at ag;intro x aj;rw[fin x aj];exact ag
theorem Wn (p:Rows)(v:Int)(K:R->Prop)(h:Ea.T [.d (.ar 11 p), .d (.int .i64 v)] K):Ma p v K:=by
 obtain⟨⟨gE,ln⟩,ag⟩:=h;unfold Ma;refine⟨gE, ?_⟩;rintro _ rfl;simp only[aqe,apD];refine⟨fun h=> ?_,fun ab=>⟨fun h=> ?_,fun ad=>⟨fun h=> ?_,fun aA=>⟨rj (ny ab) gE ln (apF _), ?_⟩⟩⟩⟩
 ·have e:hL p v=2:=by rw[hL,qp h];rfl
  rw[e]at ag;exact ag
 ·have e:hL p v=1:=by rw[hL,apz (ny ab),apy (by omega)]
  rw[e]at ag;exact ag
 ·have e:hL p v=1:=by rw[hL,apz (ny ab),apy (by omega)]
  rw[e]at ag;exact ag
 ·rintro _ rfl;have e:hL p v=0:=by rw[hL,apz (ny ab),apz (by omega)]
  rw[e]at ag;exact ag
theorem afx {p:Rows}{v:Int}(h:hL p v=0):ea p=true/\0<=v/\v<8:=by
 unfold hL at h;split at h
 ·split at h
  ·rename_i ab ad;exact⟨ab,ad⟩
  ·cases h
 ·cases h
theorem adr {v:Nat}{p:List bd}{t:bd}(h:t∈vl v p):∃u∈p,0<u.1.getD v 0/\t=(u.1.set v (u.1.getD v 0-1),u.2*((u.1.getD v 0:Int):Rat)):=by
 obtain⟨u,hu,rfl⟩:=apQ.1 h;rw[aqE]at hu;exact⟨u,hu.1,apJ hu.2,rfl⟩
theorem c4.vl {e:Int}{p:List bd}(h:c4 e p){v:Nat}:c4 e (vl v p):=fun t aw=>by
 obtain⟨u,hu,bc,rfl⟩:=adr aw;refine⟨by rw[apL];exact(h u hu).1,fun x aj=> ?_⟩;rcases are aj with aj|rfl
 ·exact(h u hu).2 x aj
 ·by_cases ax:v<u.1.length
  ·have:=(h u hu).2 _ (mQ ax);omega
  ·rw[apA,aqc (by omega)]at bc;simp at bc
theorem ads {n:Int}(h:n.natAbs<4294967296):c1 1 (n:Rat):=by
 refine⟨by rw[Rat.num_intCast];simpa using h,by rw[Rat.den_intCast];decide⟩
theorem dE.vl {k:Nat}{e:Int}(he:e<4294967296){v:Nat}(aO:v<8){p:List bd}(c3:c4 e p)(h:dE k p):dE (k+1) (vl v p):=fun t aw=>by
 obtain⟨u,hu,rfl⟩:=apQ.1 aw;have hu:=(aqE.1 hu).1;have aj:=c3 u hu;have ah:=aj.2 _ (mQ (m:=u.1) (i:=v) (by have:=aj.1;omega));exact(h u hu).mul (ads (by omega)) (by omega)
theorem RZ {m:List Int}{s:Bool}{a b:List Int}(hm:m.length=8){v:Nat}(aO:v<8)(x:Int):(eP m s a b).set v (.int .i64 x)=eP (m.set v x) s a b:=by
 rw[eP,List.set_append_left _ _ (by rw[kJ];omega),Ie];rfl
theorem eT.at' {r:Row}(h:eT r){v:Nat}(aO:v<8):(r.take 8).getD v .undef= .int .i64 ((dI r).getD v 0):=by
 rw[<-h.at aO,apA,aqq,apz aO,<-apA]
theorem PU {p:Rows}{r:Row}(ao:r∈p){x:Int}(aj:x∈dI r)(h:x<0\/1024<x):ea p=false:=by
 cases aO:ea p with
 |false=>rfl
 |true=>
  have ab:=apR.1 aO r ao;have:=apR.1 ab x aj;simp at this;omega
theorem WI (p:Rows)(K:R->Prop)(h:xe.T [.d (.ar 11 p)] K):Mp p K:=by
 obtain⟨⟨bp,ax⟩,ag⟩:=h;unfold Mp ai aT List.aS;refine⟨fun w=>∃i:Nat,w=i/\i<=p.length/\∀j,j<i->x9 (dI (p.getD j []))=true,fun w=>p.length-w.toNat,⟨0,rfl,by omega,fun j aI=>by omega⟩, ?_⟩;rintro _ ⟨i,rfl,ab,ad⟩;simp only[aqe,apD,apB];refine⟨fun ba=> ?_,fun ba=> ?_⟩
 ·have hi:i<p.length:=by omega
  have ao:=bp.get hi;have ang:(dI (p.getD i [])).length=8:=by rw[dI,apI,ap_,ao.len];rfl
  refine⟨by omega,ba,ao.len,ao.len,fun w=>∃j:Nat,w=j/\j<=8/\∀k,k<j->0<=(dI (p.getD i [])).getD k 0/\(dI (p.getD i [])).getD k 0<=1024,fun w=>8-w.toNat,⟨trivial,0,rfl,by omega,fun j aI=>by omega⟩, ?_⟩;rintro _ ⟨j,rfl,aY,bj⟩;simp only[aqe,apD,apB];refine⟨fun bJ=> ?_,fun bJ=> ?_⟩
  ·have aI:j<8:=by omega
   simp only[ao.at' aI,U.toInt];have hm:=mQ (m:=dI (p.getD i [])) (i:=j) (by omega);refine⟨by omega,bJ,rfl,fun cu=> ?_,fun cu=>⟨fun gO=> ?_,fun gO=>⟨trivial,⟨j+1,fZ (by omega) (by omega),by omega,fun k ag=> ?_⟩,by rw[fZ (by omega) (by omega)];omega⟩⟩⟩
   ·rw[PU (mO hi) hm (.inl cu)]at ag;exact ag
   ·rw[PU (mO hi) hm (.inr gO)]at ag;exact ag
   ·by_cases e:k=j
    ·rw[e];omega
    ·exact bj k (by omega)
  ·refine⟨⟨i+1,fZ (by omega) (by omega),by omega,fun k ag=> ?_⟩,by rw[fZ (by omega) (by omega)];omega⟩
   by_cases e:k=i
   ·rw[e,x9,apR];intro x aj;obtain⟨n,aB,rfl⟩:=ar0 aj;have:=bj n (by omega);rw[apA,apT aB]at this;simpa using this
   ·exact ad k (by omega)
 ·have aO:ea p=true:=apR.2 fun r ao=>by
   obtain⟨n,aB,rfl⟩:=ar0 ao;have:=ad n (by omega);rwa [apA,apT aB]at this
  rw[aO]at ag;exact ag
end aa
end
section
open Go Go.ak
namespace aa
theorem Ii {p:List bd}(h:c4 1024 p):ea (bK p)=true:=apR.2 fun r ao=>by
 obtain⟨t,aw,rfl⟩:=apQ.1 ao;have e:dI (jv t)=t.1:=uP (h t aw).1;rw[e,x9,apR];intro x aj;have:=(h t aw).2 x aj;simp;omega
theorem zp {k:Nat}{p:List bd}(h:dE k p)(he:c4 1024 p)(aB:p.length<1000000000):cC (bK p):=zf h he.len aB
theorem Dy {p:List bd}(h:dE 1 p)(dq:∀t∈p,t.1.length=8)(aB:p.length<=2):Raw 4 2 (bK p):=
 RT (n:=2) (ri h dq) (apF _) (by rw[hs];exact aB) (by decide)
theorem R0 {p q:List bd}(h:dE 1 p)(he:c4 1024 p)(g:dE 1 q)(ge:c4 1024 q)(aE:p.length<=2)(a6:q.length<=2):om (bK p) (bK q):=
 ⟨⟨zp h he (by omega),zp g ge (by omega)⟩,4,4,2,2,Dy h he.len aE,Dy g ge.len a6,by decide,by decide⟩
theorem aeN {p q:List bd}(h:dE 1 p)(he:c4 1024 p)(g:dE 1 q)(ge:c4 1024 q)(aE:p.length<=2)(a6:q.length<=2):zU (bK p) (bK q):=
 ⟨⟨zp h he (by omega),zp g ge (by omega)⟩,4,4,2,2,Dy h he.len aE,Dy g ge.len a6, .inl (by decide),by decide,by decide,by decide⟩
theorem R1 {p q:List bd}(h:c4 1024 p)(g:c4 1024 q):ec (bK p) (bK q)=true:=by rw[ec,Ii h,Ii g];rfl
theorem zX {e:Int}{p:List bd}(h:(p.all fun t=>decide (t.1.length=8)&&t.1.all fun x=>decide (0<=x)&&decide (x<=e))=true):c4 e p:=fun t aw=>by
 have:=apR.1 h t aw;rw[apM]at this;refine⟨apJ this.1,fun x aj=> ?_⟩;have:=apR.1 this.2 x aj;simpa using this
theorem zq {p:List bd}(h:∀t∈p,t.2=1\/t.2=-1):dE 1 p:=fun t aw=>by
 rcases h t aw with e|e<;>rw[e]
 ·exact c1.one
 ·exact xt
structure e0 (e:Int)(K n:Nat)(l:Rows):Prop where
 raw:Raw K n l
 fo:c4 e (l.map aM)
theorem e0.ar {e:Int}{K n:Nat}{l:Rows}(h:e0 e K n l):c9 l:=fun r ao=>(h.raw.ar r ao).row
theorem e0.aU {e:Int}{K n:Nat}{l:Rows}(h:e0 e K n l)(aB:n<1000000000):cC l:=⟨h.ar,by have:=h.raw.len;omega⟩
theorem e0.a_ {e:Int}{K n:Nat}{l:Rows}(h:e0 e K n l)(he:e<=1024):ea l=true:=apR.2 fun r ao=>by
 rw[x9,apR];intro x aj;have:=(h.fo (aM r) (List.mem_map_of_mem ao)).2 x aj;simp;omega
theorem e0.aO {e f:Int}{K J n m:Nat}{p q:Rows}(h:e0 e K n p)(g:e0 f J m q)(he:e<=1024)(aU:f<=1024):ec p q=true:=by rw[ec,h.a_ he,g.a_ aU];rfl
theorem e0.mono {e f:Int}{K J n m:Nat}{l:Rows}(h:e0 e K n l)(he:e<=f)(e5:K<=J)(aB:n<=m):e0 f J m l:=⟨h.raw.mono e5 aB,h.fo.mono he⟩
theorem e0.of {e:Int}{k n:Nat}{p:List bd}(h:dE k (nrm p))(ag:1<=k)(he:c4 e p)(aB:(nrm p).length<=n):e0 e (k+1) n (bK (nrm p)):=
 ⟨Q0 h ag he.nrm.len (fun m=>(iL p).jm m) aB,by rw[fP he.nrm.len];exact he.nrm⟩
theorem e0.sk {e:Int}{K n:Nat}{l:Rows}(h:e0 e K n l):hr (l.map aM):=h.fo.sk
theorem Raw.pos {K n:Nat}{l:Rows}(h:Raw K n l):1<=K:=by obtain⟨_,_,g1,_,_,_,g2,_⟩:=h;omega
theorem zY {e:Int}(bc:0<=e){v:Nat}:∀{p:List bd} {d:Int},c4 e p->d<=e->v<8->kz v d p<=e
 |[],d,_,a_,_=>a_
 |t::p,d,h,a_,aO=>by
  have aw:=h t (by simp);have:=aw.2 _ (mQ (m:=t.1) (i:=v) (by have:=aw.1;omega));rw[kz];exact zY bc (fun u hu=>h u (by simp[hu])) (by split<;>omega) aO
theorem afy {e f:Int}{p q:List bd}(aE:c4 e p)(a6:c4 f q)(bc:0<=e)(f0:0<=f)(h:e+f<=1024):mF p q=false:=by
 cases b5:mF p q with
 |false=>rfl
 |true=>
  unfold mF at b5;simp only[apM]at b5;obtain⟨v,aO,aj⟩:=I8.1 b5.2;unfold oG at aj;have aj:=apJ aj;have ab:=zY bc (d:=-1) aE (by omega) aO;have ad:=zY f0 (d:=-1) a6 (by omega) aO;unfold hZ at aj;omega
theorem e0.mul {e f:Int}{K J n m:Nat}{p q:Rows}(h:e0 e K n p)(g:e0 f J m q)(he:0<=e/\0<=f/\e+f<=1024)(aC:(n*(2*(K+J)+2)<=900000\/m*(2*(K+J)+2)<=900000)/\n*m<=999999999/\n<1000000000/\m<1000000000/\K<=400000/\J<=400000/\1<=n):
 zU p q/\∀{x:Rows} {c:Int},x=bK (if qw p q=true then nrm (dJ (p.map aM) (q.map aM))else[])->(c=if ec p q=true then(if mF (nrm (p.map aM)) (nrm (q.map aM))=true then 9 else 0)else 2)->
  c=0/\x=bK (nrm (dJ (p.map aM) (q.map aM)))/\e0 (e+f) (n*(K+J+1)+1) (n*m) x/\x.map aM=nrm (dJ (p.map aM) (q.map aM)):=by
 obtain⟨ab,ad,aA⟩:=he;obtain⟨dh,eW,jR,pQ,pR,tX,BC⟩:=aC;refine⟨⟨⟨h.aU jR,g.aU pQ⟩,K,J,n,m,h.raw,g.raw,dh,eW,pR,tX⟩, ?_⟩;have aO:=h.aO g (by omega) (by omega);have b5:=afy h.fo.nrm g.fo.nrm ab ad aA;have hm:qw p q=true:=by rw[qw,aO,b5];rfl
 intro x c aj lS;rw[apz hm]at aj;rw[apz aO,b5]at lS;have fo:=h.fo.mul g.fo;have aY:=h.raw.pos;have bj:=g.raw.pos;have er:=dE.mul aY h.raw.fA g.raw.fA
 have w1:dE (n*(K+J+1)) (nrm (dJ (nrm (p.map aM)) (nrm (q.map aM)))):=er.nrm fun y=>
  apS (Cz y g.fo.nrm.len (fun z=>(iL (q.map aM)).jm z) h.fo.nrm.len) h.raw.mw
 rw[IC]at w1
 have len:(nrm (dJ (p.map aM) (q.map aM))).length<=n*m:=by
  rw[<-IC];refine uE ?_;rw[zg];exact aqP h.raw.mw g.raw.mw
 have ag:1<=n*(K+J+1):=Nat.mul_pos BC (by omega);refine⟨lS,aj, ?_, ?_⟩
 ·rw[aj];exact e0.of w1 ag fo len
 ·rw[aj,fP fo.nrm.len]
theorem e0.core {e:Int}{K J n m:Nat}{p q:Rows}(h:e0 e K n p)(g:e0 e J m q):e0 e (2*(K+J+1)+1) (n+m) (bK (nrm (p.map aM++q.map aM)))/\(bK (nrm (p.map aM++q.map aM))).map aM=nrm (p.map aM++q.map aM):=by
 have fo:=h.fo.app g.fo;have er:dE (K+J) (nrm (p.map aM)++nrm (q.map aM)):=(h.raw.fA.mono (by omega)).app (g.raw.fA.mono (by omega))
 have w1:=er.nrm (c:=2) fun y=>by
  have:=(iL (p.map aM)).jm y;have:=(iL (q.map aM)).jm y;rw[uD];omega
 rw[IB]at w1;have len:(nrm (p.map aM++q.map aM)).length<=n+m:=uE (by rw[ap4,apI,apI];have:=h.raw.len;have:=g.raw.len;omega);exact⟨e0.of w1 (by omega) fo len,fP fo.nrm.len⟩
theorem e0.add {e:Int}{K J n m:Nat}{p q:Rows}(h:e0 e K n p)(g:e0 e J m q)(he:e<=1024)(aC:4*(K+J)+20<=900000/\n+m<=999999999):
 om p q/\∀{x:Rows} {c:Int},x=bK (if ec p q=true then nrm (p.map aM++q.map aM)else[])->(c=if ec p q=true then 0 else 2)->
  c=0/\x=bK (nrm (p.map aM++q.map aM))/\e0 e (2*(K+J+1)+1) (n+m) x/\x.map aM=nrm (p.map aM++q.map aM):=by
 refine⟨⟨⟨h.aU (by omega),g.aU (by omega)⟩,K,J,n,m,h.raw,g.raw,aC.1,aC.2⟩, ?_⟩;have aO:=h.aO g he he;intro x c aj lS;rw[apz aO]at aj lS;obtain⟨a1,a2⟩:=h.core g;subst aj;exact⟨lS,rfl,a1,a2⟩
theorem e0.sub {e:Int}{K J n m:Nat}{p q:Rows}(h:e0 e K n p)(g:e0 e J m q)(he:e<=1024)(aC:4*(K+J)+20<=900000/\n+m<=999999999):
 om p q/\∀{x:Rows} {c:Int},x=bK (if ec p q=true then nrm (p.map aM++eS (-1) (q.map aM))else[])->(c=if ec p q=true then 0 else 2)->
  c=0/\x=bK (nrm (p.map aM++eS (-1) (q.map aM)))/\e0 e (2*(K+J+2)+1) (n+m) x/\x.map aM=nrm (p.map aM++eS (-1) (q.map aM)):=by
 refine⟨⟨⟨h.aU (by omega),g.aU (by omega)⟩,K,J,n,m,h.raw,g.raw,aC.1,aC.2⟩, ?_⟩;have aO:=h.aO g he he;intro x c aj lS;rw[apz aO]at aj lS;have fo:=h.fo.app (g.fo.scale (-1));have er:dE (K+J+1) (nrm (p.map aM)++eS (-1) (nrm (q.map aM))):=(h.raw.fA.mono (by omega)).app ((g.raw.fA.scale xt (apF _)).mono (by omega))
 have w1:=er.nrm (c:=2) fun y=>by
  have:=(iL (p.map aM)).jm y;have:=(iL (q.map aM)).jm y;rw[uD,Cj];omega
 have bX:nrm (nrm (p.map aM)++eS (-1) (nrm (q.map aM)))=nrm (p.map aM++eS (-1) (q.map aM)):=wJ fun m=>by rw[sF,sF,Ch,Ch,oZ,oZ]
 rw[bX]at w1
 have len:(nrm (p.map aM++eS (-1) (q.map aM))).length<=n+m:=uE (by
  rw[ap4,eS,apI,apI,apI];have:=h.raw.len;have:=g.raw.len;omega)
 subst aj;exact⟨lS,rfl,e0.of w1 (by omega) fo len,fP fo.nrm.len⟩
theorem e0.norm {e:Int}{K n:Nat}{p:Rows}(h:e0 e K n p)(he:e<=1024)(aC:K<=400000/\n<1000000000):
 (cC p/\Raw 400000 1000000000 p)/\∀{x:Rows} {c:Int},x=bK (if ea p=true then nrm (p.map aM)else[])->(c=if ea p=true then 0 else 2)->
   c=0/\x=bK (nrm (p.map aM))/\e0 e (K+1) n x/\x.map aM=nrm (p.map aM):=by
 refine⟨⟨h.aU aC.2,h.raw.mono aC.1 (by omega)⟩, ?_⟩;have aO:=h.a_ he;intro x c aj lS;rw[apz aO]at aj lS;subst aj;exact⟨lS,rfl,e0.of h.raw.fA h.raw.pos h.fo h.raw.mw,fP h.fo.nrm.len⟩
end aa
end
section
open Go Go.ak
namespace aa
def MF:List Int->Int->Int->Int->Int->(ae->R->Prop)->Prop:=
 fun l a s v n K=>(ds l a/\i64 (ai (n+1)))/\∀x,x=l->∀a7,a7=c6 l a (ai (n+1))->∀aW,aW=s->∀bn,bn=fr l a (ai (n+1))->∃(aQ:Int->List Int->Int->Int->List (List U)->Prop),∃(m:Int->List Int->Int->Int->List (List U)->Nat),aQ bn x a7 aW []/\∀(bq:Int) (l:List Int) (a s:Int) (bD:List (List U)),aQ bq l a s bD->(decide (0<bq)=true->ds l a/\∀x,x=l->∀b9,b9=jM l a->∀cU,cU=s->∀cB,cB=ca (gJ l a)->∀dc,dc=b8 (gJ l a)->∀dy,dy=b1 (gJ l a)->∃(J:List Int->Int->Int->List (List U)->List (List U)->Prop),((ds x b9/\i64 8)/\∀cX,cX=x->∀e8,e8=c6 x b9 8->∀fV,fV=cU->∀gB,gB=fr x b9 8->(decide (gB=7)=true->ds cX e8/\∀x,x=cX->∀hK,hK=xc cX e8->∀ib,ib=fV->∀kn,kn=xb cX e8->∀mv,mv=sY cX e8->∀rN,rN=sZ cX e8->J x hK ib bD [setRow ([U.int .i64 0,U.int .i64 0,U.int .i64 0,U.int .i64 0,U.int .i64 0,U.int .i64 0,U.int .i64 0,U.int .i64 0]++[U.bool cB,U.af .u32 dc,U.af .u32 dy]) 8 [U.bool kn,U.af .u32 mv,U.af .u32 rN]])/\(decide (gB=7)=false->J cX e8 fV bD [[U.int .i64 0,U.int .i64 0,U.int .i64 0,U.int .i64 0,U.int .i64 0,U.int .i64 0,U.int .i64 0,U.int .i64 0]++[U.bool cB,U.af .u32 dc,U.af .u32 dy]]))/\∀(Vb:List Int) (TR Vc:Int) (fk bx:List (List U)),J Vb TR Vc fk bx->∃(fu:Int->List Int->Int->Int->List (List U)->List (List U)->Prop),∃(fb:Int->List Int->Int->Int->List (List U)->List (List U)->Nat),fu 0 Vb TR Vc fk bx/\∀(v10:Int) (tO:List Int) (vn Bc:Int) (vp bx:List (List U)),fu v10 tO vn Bc vp bx->(decide (v10<v)=true->(ds tO vn/\0<5/\5<=1000)/\∀x,x=tO->∀cX,cX=c6 tO vn 5->∀e8,e8=Bc->∀fV,fV=m3 tO vn [0,0,1,1,2]->0<=v10/\v10<8/\fu (ai (v10+1)) x cX e8 vp (bx.set 0 ((bx.getD 0 []).set v10.toNat (U.int .i64 fV)))/\fb (ai (v10+1)) x cX e8 vp (bx.set 0 ((bx.getD 0 []).set v10.toNat (U.int .i64 fV)))<fb v10 tO vn Bc vp bx)/\(decide (v10<v)=false->(bx.getD 0 []).length=11/\((vp.length:Int)+↑[bx.getD 0 []].length)*120<=70368744177664/\aQ (ai (bq-1)) tO vn Bc (vp++[bx.getD 0 []])/\m (ai (bq-1)) tO vn Bc (vp++[bx.getD 0 []])<m bq l a s bD))/\(decide (0<bq)=false->K (ae.cells [R.d (U.af .i64 l),R.d (U.int .i64 a),R.d (U.int .i64 s)]) (R.d (U.ar 11 bD)))
end aa
end
section
open Go Go.ak
namespace aa
end aa
end
section
open Go Go.ak
namespace aa
end aa
end
section
open Go Go.ak
namespace aa
end aa
end
section
namespace aa
open Go Go.ak
theorem sP {l:List Int}{a:Int}(aF:ds l a):ds l (jM l a)/\c1 1 (gJ l a):=by
 have bx:=(aF.num 13).1;have dX:=rb (lo:=-6) (hi:=6) aF (by decide);have dU:=rb (lo:=1) (hi:=5) bx (by decide);refine⟨(bx.num 5).1, ?_⟩;unfold gJ Js Jt;have a_:kO l (c6 l a 13) 1 5=((kO l (c6 l a 13) 1 5).toNat:Int):=by omega
 rw[a_,Rat.divInt_ofNat];exact .mk (by omega) (by omega)
end aa
end
section
open Go Go.ak
namespace aa
theorem aeO (l:List Int)(a:Int):0<=m3 l a yr/\m3 l a yr<=2:=by
 unfold m3
 have:∀x∈yr,0<=x/\x<=2:=by decide
 rw[apA]
 cases h:yr[(fr l a yr.length).toNat]? with
 |none=>decide
 |some x=>exact this x (aq4 h)
theorem ID {l:List Int}{a:Int}(h:ds l a):∀k,ds l (mf l a k).2/\(mf l a k).1.length=8/\(∀x∈(mf l a k).1,0<=x/\x<=2)/\∀i,k<=i->(mf l a k).1.getD i 0=0
 |0=>⟨h,rfl,by show∀x∈dV,_;decide,fun i _=>by
  show dV.getD i 0=0;rw[apA]
  cases e:dV[i]? with
  |none=>rfl
  |some x=>exact(by decide:∀x∈dV,x=0) x (aq4 e)⟩
 |k+1=>by
  obtain⟨ab,ad,aA,ba⟩:=ID h k;refine⟨(ab.num 5).1,by rw[mf,apL];exact ad,fun x aj=> ?_,fun i hi=> ?_⟩
  ·rcases are aj with aj|rfl
   ·exact aA x aj
   ·exact aeO _ _
  ·rw[mf];rw[apA,List.getElem?_set_ne (by omega),<-apA];exact ba i (by omega)
theorem SN {l:List Int}{a:Int}(h:ds l a):ds l (qP l a):=by
 have ab:=(sP h).1;have ad:=(ab.num 8).1;unfold qP;split
 ·exact(Ib ad).1
 ·exact ad
def te (v:Nat)(r:Row):Prop:=∃(m:List Int) (s:Bool) (a b:List Int),r=eP m s a b/\m.length=8/\(∀x∈m,0<=x/\x<=2)/\(∀i,v<=i->m.getD i 0=0)/\bu 4 a/\bu 4 b
theorem adt {l:List Int}{a:Int}(h:ds l a)(v:Nat):ds l (U1 l a v)/\te v (zW l a v):=by
 obtain⟨fX,gg,h6,jS⟩:=ID (SN h) v;refine⟨fX,_,_,_,_,rfl,gg,h6,jS, ?_, ?_⟩
 ·split
  ·exact(Ib ((sP h).1.num 8).1).2.1
  ·exact(sP h).2.num.mono (by decide)
 ·split
  ·exact(Ib ((sP h).1.num 8).1).2.2
  ·exact(sP h).2.den.mono (by decide)
theorem HS {l:List Int}{a:Int}(h:ds l a)(v:Nat):∀k,ds l (o8 l a v k).2/\(o8 l a v k).1.length=k/\∀r∈(o8 l a v k).1,te v r
 |0=>⟨h,rfl,fun r ao=>by cases ao⟩
 |k+1=>by
  obtain⟨ab,ad,aA⟩:=HS h v k;obtain⟨t1,t2⟩:=adt ab v;refine⟨t1,by rw[o8,ap4,ad];rfl,fun r ao=> ?_⟩;rw[o8]at ao;rcases aqV.1 ao with ao|ao
  ·exact aA r ao
  ·rw[aqy.1 ao];exact t2
theorem adu {l:List Int}{a v n:Int}(h:ds l a)(aB:0<=n):ds l (m4 l a v n).2/\((m4 l a v n).1.length:Int)<=n/\∀r∈(m4 l a v n).1,te v.toNat r:=by
 have bc:=h.num (n+1);obtain⟨ab,ad,aA⟩:=HS bc.1 v.toNat (fr l a (n+1)).toNat;refine⟨ab, ?_,aA⟩;have:=bc.2.2.1 (by omega);unfold m4;rw[ad];omega
theorem W0 (l:List Int)(a s v n:Int)(K:ae->R->Prop)(h:Du.T (.ptr 0 0) (st l a s) [.d (.int .i64 v), .d (.int .i64 n)] K):MF l a s v n K:=by
 obtain⟨⟨aF,⟨jk,Vd⟩,F6,F5⟩,ag⟩:=h;unfold MF ai;rw[bQ (x:=n+1) (by omega)];refine⟨⟨aF,by unfold i64;omega⟩, ?_⟩;rintro l rfl _ rfl s rfl _ rfl;have hQ:=aF.num (n+1);have ao8:=hQ.2.2.1 (by omega);refine⟨fun bq cm cf iq o=>cm=l/\iq=s/\0<=bq/\bq<=fr l a (n+1)/\o8 l (c6 l a (n+1)) v.toNat (fr l a (n+1)-bq).toNat=(o,cf),fun bq _ _ _ _=>bq.toNat,⟨rfl,rfl,hQ.2.1,Int.le_refl _, ?_⟩, ?_⟩
 ·rw[Int.sub_self];rfl
 rintro bq cm cf iq o ⟨rfl,rfl,ab,ad,aA⟩;have fl:=HS hQ.1 v.toNat (fr cm a (n+1)-bq).toNat;rw[aA]at fl;obtain⟨dG,ax,ao⟩:=fl;simp only at dG ax ao;refine⟨fun aC=> ?_,fun aC=> ?_⟩
 ·have aC:=apJ aC;have hm:=sP dG;refine⟨dG, ?_⟩;rintro cm rfl _ rfl iq rfl _ rfl _ rfl _ rfl;refine⟨fun l2 a2 s2 bD bx=>l2=cm/\s2=iq/\bD=o/\a2=qP cm cf/\bx=[eP dV (if oI cm cf then xb cm (c6 cm (jM cm cf) 8)else ca (gJ cm cf)) (if oI cm cf then sY cm (c6 cm (jM cm cf) 8)else b8 (gJ cm cf)) (if oI cm cf then sZ cm (c6 cm (jM cm cf) 8)else b1 (gJ cm cf))],⟨⟨⟨hm.1,by unfold i64;decide⟩, ?_⟩, ?_⟩⟩
  ·rintro cm rfl _ rfl iq rfl _ rfl;refine⟨fun ah=>⟨(hm.1.num 8).1, ?_⟩,fun ah=> ?_⟩
   ·rintro cm rfl _ rfl iq rfl _ rfl _ rfl _ rfl;have e:oI cm cf=true:=ah;refine⟨rfl,rfl,rfl,by rw[qP,e];rfl, ?_⟩;rw[e];exact aqd (fun x=>[x]) (IV (m:=dV) rfl _ _ _)
   ·have e:oI cm cf=false:=ah;refine⟨rfl,rfl,rfl,by rw[qP,e];rfl, ?_⟩;rw[e];rfl
  ·rintro l2 a2 s2 bD bx ⟨rfl,rfl,rfl,rfl,rfl⟩;generalize hC:(if oI l2 cf then xb l2 (c6 l2 (jM l2 cf) 8)else ca (gJ l2 cf))=S;generalize ys:(if oI l2 cf then sY l2 (c6 l2 (jM l2 cf) 8)else b8 (gJ l2 cf))=P;generalize jB:(if oI l2 cf then sZ l2 (c6 l2 (jM l2 cf) 8)else b1 (gJ l2 cf))=Q;refine⟨fun j l5 a3 jo cH jV=>l5=l2/\jo=s2/\cH=bD/\0<=j/\j<=v/\a3=(mf l2 (qP l2 cf) j.toNat).2/\jV=[eP (mf l2 (qP l2 cf) j.toNat).1 S P Q],fun j _ _ _ _ _=>(v-j).toNat,⟨rfl,rfl,rfl,Int.le_refl _,jk,rfl,rfl⟩, ?_⟩;rintro j l5 a3 jo cH jV ⟨rfl,rfl,rfl,ani,sf,rfl,rfl⟩;obtain⟨fX,gg,h6,jS⟩:=ID (SN dG) j.toNat;refine⟨fun aI=> ?_,fun aI=> ?_⟩
   ·have aI:=apJ aI;refine⟨⟨fX,by decide,by decide⟩, ?_⟩;rintro l5 rfl _ rfl jo rfl _ rfl;rw[bQ (x:=j+1) (by omega)];refine⟨ani,by omega,⟨rfl,rfl,rfl,by omega,by omega, ?_, ?_⟩,by show(v-(j+1)).toNat<(v-j).toNat;omega⟩
    ·rw[show(j+1).toNat=j.toNat+1 by omega];rfl
    ·rw[show(j+1).toNat=j.toNat+1 by omega];show[(eP _ S P Q).set j.toNat _]=_;rw[mf];show[(ej _++_).set j.toNat _]=[ej _++_];rw[List.set_append_left _ _ (by rw[kJ,gg];omega),ej,ej,art]
     rfl
   ·have aI:=apO aI;obtain rfl:j=v:=by omega
    have kj:eP (mf l5 (qP l5 cf) j.toNat).1 S P Q=zW l5 cf j.toNat:=by rw[zW,hC,ys,jB]
    refine⟨qj gg, ?_, ?_⟩
    ·have:((cH.length:Nat):Int)<=1000:=by rw[ax];omega
     simp only[aqX];omega
    rw[bQ (x:=bq-1) (by omega)];refine⟨⟨rfl,rfl,by omega,by omega, ?_⟩,by show(bq-1).toNat<bq.toNat;omega⟩;rw[show(fr l5 a (n+1)-(bq-1)).toNat=(fr l5 a (n+1)-bq).toNat+1 by omega,o8,aA];show(cH++[zW l5 cf j.toNat],_)=(cH++[eP _ S P Q],_);rw[kj];rfl
 ·have aC:=apO aC;obtain rfl:bq=0:=by omega
  have e:m4 cm a v n=(o,cf):=by rw[m4,<-aA,Int.sub_zero]
  rw[e]at ag;exact ag
end aa
end
section
open Go Go.ak
namespace aa
theorem aeP:(IntCast.intCast (1:Int):Rat)=1:=rfl
theorem aeQ:(IntCast.intCast (0:Int):Rat)=0:=rfl
theorem aht (p:Nat)(aE:p<9223372036854775808):cN .and .i64 (p:Int) 1=((p%2:Nat):Int):=Tc p 1 aE (by decide)
theorem W6 (s:Bool)(a b:List Int)(n:Int)(K:R->Prop)(h:Ec.T [.agg [.d (.bool s), .d (.af .u32 a), .d (.af .u32 b)], .d (.int .i64 n)] K):MK s a b n K:=by
 obtain⟨⟨⟨ye,fg⟩,k,aY,aR,ah,ag⟩,e5⟩:=h
 obtain⟨N,rfl⟩:∃N:Nat,n=N:=⟨n.toNat,by omega⟩
 rw[apB]at ag e5;unfold MK;have eD:c1 k (aV s a b):=c1.of aR ah aY;generalize ak2:aV s a b=bC at eD e5;have vU:k*4<=k*(4*N+4):=apY _ (by omega)
 have cap:k*(N+1)+1<=1000000:=by
  have:k*(N+1)<=k*(4*N+4):=apY _ (by omega);omega
 have size:∀m,m<=N+1->c1 1000000 (bC^m):=fun m hm=>(eD.pow aY m).mono (by have:=apY k hm;omega)
 refine⟨by unfold i64;decide, ?_⟩;rintro _ rfl _ rfl _ rfl;rw[aeP]
 refine⟨fun v s1 a1 ch t1 dh d1=>∃p u w:Nat,v=p/\1<=u/\u<=N+1/\w+u*p=N/\aV s1 a1 ch=bC^u/\bu 1000000 a1/\bu 1000000 ch/\t1=ca (bC^w)/\dh=b8 (bC^w)/\d1=b1 (bC^w),fun v _ _ _ _ _ _=>v.toNat,
  ⟨rfl,N,1,0,rfl,by omega,by omega,by omega,by rw[ak2,Rat.pow_succ,arj,Rat.one_mul],aR.mono (by omega),ah.mono (by omega),by rw[arj],by rw[arj],by rw[arj]⟩, ?_⟩
 rintro _ s1 a1 ch _ _ _ ⟨p,u,w,rfl,hu,nF,hw,ao,rW,gK,rfl,rfl,rfl⟩;have pp:p<=u*p:=Nat.le_mul_of_pos_left p hu;have fd:Int.fdiv (p:Int) 2=((p/2:Nat):Int):=by rw[aqf _ (by decide)];rfl
 simp only[aqe,apD,jE,ao,aht p (by omega),fd,true_and];refine⟨fun ab=> ?_,fun ab=> ?_⟩
 ·have dS:=size w (by omega);have half:u*p=u*(p%2)+(u+u)*(p/2):=by rw[apU,<-apN,<-apN,show p%2+(p/2+p/2)=p by omega]
  have mul:bC^w*bC^u=bC^(w+u):=(C0 bC w u).symm;refine⟨fun t1 dh d1=>t1=ca (bC^(w+u*(p%2)))/\dh=b8 (bC^(w+u*(p%2)))/\d1=b1 (bC^(w+u*(p%2))),⟨fun ad=>⟨⟨dS.num,dS.den,rW,gK⟩, ?_⟩,fun ad=> ?_⟩, ?_⟩
  ·rintro _ rfl _ rfl _ rfl;have:p%2=1:=by omega
   rw[this,ap8,mul];exact⟨rfl,rfl,rfl⟩
  ·have:p%2=0:=by omega
   rw[this,ap0,apV];exact⟨rfl,rfl,rfl⟩
  ·rintro _ _ _ ⟨rfl,rfl,rfl⟩;refine⟨fun aA=>⟨⟨rW,gK,rW,gK⟩, ?_⟩,fun aA=> ?_⟩
   ·rintro _ rfl _ rfl _ rfl;rw[<-C0];have pB:1<=p/2:=by omega
    have ao9:u+u<=(u+u)*(p/2):=Nat.le_mul_of_pos_right _ pB;have V5:=size (u+u) (by omega);exact⟨⟨p/2,u+u,w+u*(p%2),rfl,by omega,by omega,by omega,jE _,V5.num,V5.den,rfl,rfl,rfl⟩,by omega⟩
   ·obtain rfl:p=1:=by omega
    exact⟨⟨0,u,w+u*1,rfl,hu,nF,by omega,rfl,rW,gK,rfl,rfl,rfl⟩,by decide⟩
 ·obtain rfl:p=0:=by omega
  rw[ap0,apV]at hw;rw[hw];exact e5
theorem Eg {l:List Int}{a:Int}(h:ds l a):∀k,ds l (nx l a k).2/\(nx l a k).1.length=k
 |0=>⟨h,rfl⟩
 |k+1=>by
  obtain⟨ab,ad⟩:=Eg h k;exact⟨(sP ab).1,by rw[nx,ap4,ad];rfl⟩
theorem WW (l:List Int)(a s n:Int)(K:ae->ae->Prop)(h:C1.T (.ptr 0 0) (st l a s) [.d (.int .i64 n)] K):My l a s n K:=by
 obtain⟨⟨ay,ye,fg⟩,ag⟩:=h;unfold My ai aT;refine⟨fun v cm cf iq o=>∃k:Nat,v=k/\k<=n.toNat/\cm=l/\cf=(nx l a k).2/\iq=s/\o=(nx l a k).1,fun v _ _ _ _=>n.toNat-v.toNat,⟨0,rfl,by omega,rfl,rfl,rfl,rfl⟩, ?_⟩;rintro _ _ _ _ _ ⟨k,rfl,iA,rfl,rfl,rfl,rfl⟩;obtain⟨ab,ad⟩:=Eg ay k;simp only[aqe,apD,ad];refine⟨fun aA=>⟨ab,by simp;omega,⟨k+1,fZ (by omega) (by omega),by omega,trivial,rfl,trivial,rfl⟩,by rw[fZ (by omega) (by omega)];omega⟩,fun aA=> ?_⟩;obtain rfl:k=n.toNat:=by omega
 exact ag
theorem Q2 (x:Nat->Rat)(d:Int):∀(m:List Int) (i:Nat),eO x i (m++[d])=eO x i m*x (i+m.length)^d.toNat
 |[],i=>by show x i^d.toNat*1=1*x i^d.toNat;rw[ara,Rat.one_mul]
 |a::m,i=>by
  show x i^a.toNat*eO x (i+1) (m++[d])=x i^a.toNat*eO x (i+1) m*_;rw[Q2 x d m (i+1),arA,aqj,show i+1+m.length=i+(m.length+1) by omega]
theorem abR {m:List Int}{i:Nat}(h:i<m.length):m.take (i+1)=m.take i++[m.getD i 0]:=by
 rw[ark,apT h,apA,apT h];rfl
theorem aeR (x:Nat->Rat)(p:List bd)(t:bd):aN x (p++[t])=aN x p+t.2*eO x 0 t.1:=by
 rw[IW];show _+(t.2*eO x 0 t.1+0)=_;rw[arz]
theorem Xn (p x:Rows)(K:ae->R->Prop)(h:Ed.T (.vec 0) (.ar 3 x) [.d (.ar 11 p)] K):MO p x K:=by
 obtain⟨⟨⟨P,rfl,V6,GI⟩,eV⟩,e5⟩:=h;rw[fP GI]at eV e5;obtain⟨Lc,j,k,e,sf,aY,aj,aC,he,az,Ve,nA⟩:=eV;generalize iE:k+8*(j*e+1)+1=M at nA;have apo:P.length+1<=M*(P.length+1):=Nat.le_mul_of_pos_left _ (by omega);unfold MO ai aT List.aS;refine⟨by unfold i64;decide, ?_⟩;rintro _ rfl _ rfl _ rfl;rw[aeQ]
 refine⟨fun v o s a b=>∃i:Nat,v=i/\i<=P.length/\x=o/\s=ca (aN (dY x) (P.take i))/\a=b8 (aN (dY x) (P.take i))/\b=b1 (aN (dY x) (P.take i))/\c1 (M*i+1) (aN (dY x) (P.take i)),fun v _ _ _ _=>P.length-v.toNat,
  ⟨rfl,0,rfl,by omega,rfl,rfl,rfl,rfl,c1.zero⟩, ?_⟩
 rintro _ _ _ _ _ ⟨i,rfl,hi,rfl,rfl,rfl,rfl,hC⟩;simp only[aqe,apD,apB,hs,true_and];refine⟨fun ab=> ?_,fun ab=> ?_⟩
 ·have hi:i<P.length:=by omega
  have hm:=aqA hi;have ao:(bK P).getD i []=jv P[i]:=QX (apT hi);have dq:=GI _ hm;have het:=(he _ hm).2;have KR:P.take (i+1)=P.take i++[P[i]]:=by rw[ark,apT hi];rfl
  have Vf:=aC _ hm;generalize P[i]=t at hm ao dq het KR Vf;rw[ao,Dr,qj dq,rO dq,rP dq,rI dq,uO dq];simp only[U.toBool,U.cP,true_and];refine⟨by omega,ab,trivial,rfl,rfl, ?_⟩
  have ak3:M*(i+1)+1<=900000:=by
   have:M*(i+1)<=M*P.length:=apY _ hi;have:M*(P.length+1)=M*P.length+M:=aq8 ..;omega
  rw[aq8]at ak3
  refine⟨fun v o _ s a b=>∃d:Nat,v=d/\d<=8/\x=o/\s=ca (t.2*eO (dY x) 0 (t.1.take d))/\a=b8 (t.2*eO (dY x) 0 (t.1.take d))/\b=b1 (t.2*eO (dY x) 0 (t.1.take d))/\c1 (k+d*(j*e+1)) (t.2*eO (dY x) 0 (t.1.take d)),fun v _ _ _ _ _=>8-v.toNat,
   ⟨0,rfl,by omega,rfl,by rw[List.take_zero,eO,ara],by rw[List.take_zero,eO,ara],by rw[List.take_zero,eO,ara],by rw[List.take_zero,eO,ara,aqI];exact Vf⟩, ?_⟩
  rintro _ _ _ _ _ _ ⟨d,rfl,a_,rfl,rfl,rfl,rfl,hE⟩;simp only[aqe,apD,apB,jE,true_and];refine⟨fun ad=> ?_,fun ad=> ?_⟩
  ·have a_:d<8:=by omega
   have bh:=Ic t.1 d (by omega);have ah:=het _ (mQ (m:=t.1) (i:=d) (by omega));have ak4:=abR (m:=t.1) (i:=d) (by omega)
   have vL:eO (dY x) 0 (t.1.take (d+1))=eO (dY x) 0 (t.1.take d)*dY x d^(t.1.getD d 0).toNat:=by
    rw[ak4,Q2,ap3,ap_,arJ (by omega)]
   have qF:IntKind.wrap .i64 ((d:Int)+1)=((d+1:Nat):Int):=fZ (by omega) (by omega);rw[bh];generalize t.1.getD d 0=y at ah vL;simp only[U.toInt];have nM:k+(d+1)*(j*e+1)<=k+8*(j*e+1):=Nat.add_le_add_left (apP _ a_) _;rw[Nat.succ_mul]at nM;refine⟨by omega,ad,rfl,fun aA=> ?_,fun aA=>⟨fun ba=> ?_,fun ba=> ?_⟩⟩
   ·have hq:eO (dY x) 0 (t.1.take (d+1))=eO (dY x) 0 (t.1.take d):=by rw[vL,aA];show _*_^0=_;rw[arj,ara]
    refine⟨⟨d+1,qF,a_, ?_⟩,by rw[qF];omega⟩;rw[hq];exact⟨rfl,rfl,rfl,hE.mono (by rw[Nat.succ_mul];omega)⟩
   ·obtain⟨s,a,b,GJ,bJ,cu⟩:=aj _ (mO (l:=x) (i:=d) (by omega));have AH:dY x d=aV s a b:=by show ud (x.getD d [])=_;rw[GJ];rfl
    have A0:y.toNat<=e:=by omega
    have aE:=c1.pow (c1.of (s:=s) bJ cu sf) sf y.toNat;have pB:c1 (j*e+1) (aV s a b^y.toNat):=aE.mono (Nat.add_le_add_right (apY _ A0) _);rw[AH]at vL;rw[GJ];refine⟨by omega,by omega,trivial,rfl,rfl,⟨⟨by omega,by omega⟩,j,sf,bJ,cu,apS (apY _ (by omega)) Ve⟩, ?_⟩;rintro _ rfl _ rfl _ rfl;refine⟨⟨hE.num.mono (by omega),hE.den.mono (by omega),pB.num.mono (by omega),pB.den.mono (by omega)⟩, ?_⟩;rintro _ rfl _ rfl _ rfl;have GC:t.2*eO (dY x) 0 (t.1.take d)*aV s a b^y.toNat=t.2*eO (dY x) 0 (t.1.take (d+1)):=by rw[vL,arA]
    refine⟨⟨d+1,qF,a_, ?_⟩,by rw[qF];omega⟩;show ca (t.2*eO (dY x) 0 (t.1.take d)*aV (ca (aV s a b^y.toNat)) (b8 (aV s a b^y.toNat)) (b1 (aV s a b^y.toNat)))=_/\b8 (t.2*eO (dY x) 0 (t.1.take d)*aV (ca (aV s a b^y.toNat)) (b8 (aV s a b^y.toNat)) (b1 (aV s a b^y.toNat)))=_/\b1 (t.2*eO (dY x) 0 (t.1.take d)*aV (ca (aV s a b^y.toNat)) (b8 (aV s a b^y.toNat)) (b1 (aV s a b^y.toNat)))=_/\_;rw[jE,GC];refine⟨rfl,rfl,rfl, ?_⟩;rw[<-GC];exact(hE.mul pB).mono (by rw[Nat.succ_mul];omega)
   ·have AH:dY x d=0:=by
     show ud (x.getD d [])=_;rw[apA,aqc (by omega)];rfl
    have hq:t.2*eO (dY x) 0 (t.1.take (d+1))=0:=by
     obtain⟨z,bm⟩:∃z,y.toNat=z+1:=⟨y.toNat-1,by omega⟩
     rw[vL,AH,bm,Rat.pow_succ,ary,ary,ary]
    refine⟨by unfold i64;decide, ?_⟩;rintro _ rfl _ rfl _ rfl;refine⟨⟨d+1,qF,a_, ?_⟩,by rw[qF];omega⟩;rw[hq];exact⟨rfl,rfl,rfl,c1.zero.mono (by omega)⟩
  ·obtain rfl:d=8:=by omega
   rw[aro (show t.1.length<=8 by omega)]at hE⊢;have es:=aeR (dY x) (P.take i) t;rw[<-KR]at es;refine⟨⟨hC.num.mono (by omega),hC.den.mono (by omega),hE.num.mono (by omega),hE.den.mono (by omega)⟩, ?_⟩;rintro _ rfl _ rfl _ rfl;rw[<-es];refine⟨⟨i+1,fZ (by omega) (by omega),hi,rfl,rfl,rfl, ?_⟩,by rw[fZ (by omega) (by omega)];omega⟩;rw[es];exact(hC.add hE).mono (by rw[aq8 M i];omega)
 ·obtain rfl:i=P.length:=by omega
  rw[aqZ];exact e5
theorem WL (p x:Rows)(K:ae->R->Prop)(h:Ee.T (.vec 0) (.ar 3 x) [.d (.ar 11 p)] K):Mr p x K:=by
 obtain⟨⟨⟨gE,wp⟩,Lc,eV⟩,ag⟩:=h;unfold Mr aT;refine⟨gE, ?_⟩;rintro _ rfl;refine⟨fun h=> ?_,fun h=> ?_⟩
 ·rw[qp h]at ag;exact ag
 ·have h:=ny h;rw[h,apz rfl]at ag;have gP:=(mX h gE.1).nrm;refine⟨fun ad=>absurd (apJ ad) (by omega),fun _=>⟨rj h gE wp (apF _), ?_⟩⟩;rintro _ rfl;rw[fP gP.len,og];exact⟨⟨⟨_,rfl,iL _,gP.len⟩,eV h⟩,ag⟩
theorem R2 {q:List bd}:∀{l:List (List bd)} {i:Nat},uW q l->(h:i<l.length)->rQ (bK (gr q (l.drop (i+1)))) (bK q)/\hA (bK (nrm (dJ (gr q (l.drop (i+1))) q))++bK l[i])
 |c::l,0,h,_=>h.2
 |c::l,i+1,h,hi=>R2 (l:=l) h.1 (Nat.lt_of_succ_lt_succ hi)
theorem Eh {q:List bd}(a6:∀t∈q,t.1.length=8):∀{l:List (List bd)},(∀c∈l,∀t∈c,t.1.length=8)->∀t∈gr q l,t.1.length=8
 |[],_,t,aw=>by cases aw
 |c::l,h,t,aw=>by
  obtain⟨u,hu,e⟩:=sN aw;rw[<-e];rcases aqV.1 hu with hu|hu
  ·obtain⟨v,aO,e⟩:=sN hu;rw[<-e];obtain⟨a,aR,b,ah,rfl⟩:=ze aO;rw[wU _ _ (by rw[Eh a6 (fun c aC=>h c (by simp[aC])) a aR,a6 b ah])];exact Eh a6 (fun c aC=>h c (by simp[aC])) a aR
  ·exact h c (by simp) u hu
theorem R3 {v:Nat}{p:List bd}(h:∀t∈p,t.1.length=8):∀c∈fp v p,∀t∈c,t.1.length=8:=fun c aC t aw=>by
 obtain⟨i,_,rfl⟩:=apQ.1 aC;obtain⟨u,hu,e⟩:=sN aw;obtain⟨w,hw,rfl⟩:=apQ.1 hu;rw[<-e,apL];exact h w (aqE.1 hw).1
theorem adv (l:List (List bd))(i:Nat)(h:i<l.length):(qo l).getD i []=[.ar 11 (bK l[i])]:=by
 simp[qo,apA,h]
theorem WA (p:Rows)(v:Int)(q:Rows)(K:R->Prop)(h:Ef.T [.d (.ar 11 p), .d (.int .i64 v), .d (.ar 11 q)] K):Mk p v q K:=by
 obtain⟨⟨⟨aO,gE,gP,sp⟩,⟨Q,rfl,oR,kA⟩,eV⟩,ag⟩:=h;rw[fP kA]at eV ag;unfold Mk ai aT List.aS;refine⟨⟨aO,gE,gP,sp⟩, ?_⟩;rintro _ rfl;have nY:=R3 (v:=v.toNat) gP.len
 have ax:((fp v.toNat (p.map aM)).length:Int)<1000000000:=by
  have:(fp v.toNat (p.map aM)).length=(hZ (p.map aM) v.toNat+1).toNat:=by rw[fp];simp
  have:=zY (v:=v.toNat) (d:=-1) (by decide) gP (by omega) (by omega);have e:hZ (p.map aM) v.toNat=kz v.toNat (-1) (p.map aM):=rfl;omega
 generalize fp v.toNat (p.map aM)=C at nY ax eV ag;have lc:(qo C).length=C.length:=by rw[qo,apI]
 rw[lc,bQ (by omega)];refine⟨fun o z=>∃i:Nat,z=(i:Int)-1/\i<=C.length/\o=bK (gr Q (C.drop i)),fun _ z=>(z+1).toNat,⟨C.length,rfl,apF _,by rw[List.drop_length];rfl⟩, ?_⟩;rintro _ _ ⟨i,rfl,hi,rfl⟩;simp only[aqe,apD]
 have d8:∀j,∀t∈gr Q (C.drop j),t.1.length=8:=fun j=>Eh kA fun c aC=>nY c (List.mem_of_mem_drop aC)
 refine⟨fun ab=> ?_,fun ab=> ?_⟩
 ·obtain⟨j,rfl⟩:∃j,i=j+1:=⟨i-1,by omega⟩
  have aI:j<C.length:=hi;obtain⟨g1,g2⟩:=R2 eV aI;refine⟨g1, ?_⟩;rintro _ rfl;rw[fP (d8 (j+1)),fP kA,show((j+1:Nat):Int)-1=(j:Int) by omega,apB,adv C j aI];refine⟨by omega,by omega,rfl,g2, ?_⟩;rintro _ rfl;rw[bQ (by omega)];refine⟨⟨j,rfl,by omega, ?_⟩,by omega⟩
  have Lo:∀t∈nrm (dJ (gr Q (C.drop (j+1))) Q),t.1.length=8:=fun t aw=>by
   obtain⟨u,hu,e⟩:=sN aw;obtain⟨a,aR,b,ah,rfl⟩:=ze hu;rw[<-e,wU _ _ (by rw[d8 _ a aR,kA b ah])];exact d8 _ a aR
  show bK (nrm (_++(bK C[j]).map aM))=_;rw[fP Lo,fP (nY _ (aqA aI)),aqU aI];rfl
 ·obtain rfl:i=0:=by omega
  exact ag
theorem Wo (p:Rows)(v:Int)(q:Rows)(K:R->Prop)(h:Dx.T [.d (.ar 11 p), .d (.int .i64 v), .d (.ar 11 q)] K):L_ p v q K:=by
 obtain⟨⟨⟨gE,wp⟩,⟨iG,qY⟩,eV⟩,ag⟩:=h;unfold L_;refine⟨gE, ?_⟩;rintro _ rfl;refine⟨fun h=> ?_,fun ab=>⟨iG, ?_⟩⟩
 ·have e:pj p v q=2:=by rw[pj,ec,qp h];rfl
  rw[e]at ag;exact ag
 rintro _ rfl;refine⟨fun h=> ?_,fun ad=>⟨⟨gE,wp.mono (apF _) (by decide)⟩, ?_⟩⟩
 ·have e:pj p v q=2:=by rw[pj,ec,qp h,Bool.and_false];rfl
  rw[e]at ag;exact ag
 have ab:=ny ab;have ad:=ny ad;have e:ec p q=true:=by rw[ec,ab,ad];rfl
 have gP:=(mX ab gE.1).nrm;have eq:=(mX ad iG.1).nrm;rintro _ rfl _ rfl;rw[pj,apz e]at ag;refine⟨fun h=> ?_,fun h=> ?_⟩
 ·have h:¬hL p v=0:=by simpa using h
  rw[apy h,apy h]at ag;exact ag
 ·have h:hL p v=0:=by simpa using h
  obtain⟨_,ba,bJ⟩:=afx h;obtain⟨bD,bx⟩:=eV e h;have sk:=wp.mw;rw[apz h]at ag⊢;refine⟨rj ad iG qY (apF _), ?_⟩;rintro _ rfl;rw[fP gP.len,fP eq.len];refine⟨⟨⟨⟨ba,bJ⟩,zf wp.fA gP.len (by omega),gP.mono (by decide),wN wp.fA (by decide) (gP.pV (by decide)) (fun x=>(iL (p.map aM)).jm x) (by decide) (by decide) (by omega)⟩,⟨_,rfl,iL _,eq.len⟩,bD⟩, ?_⟩;rintro _ rfl;refine⟨bx, ?_⟩
  have dq:∀t∈gr (nrm (q.map aM)) (fp v.toNat (nrm (p.map aM))),t.1.length=8:=Eh eq.len (R3 gP.len)
  rw[fP dq];rintro _ rfl _ rfl;rw[td]at ag
  by_cases aw:iB 0 (gr (nrm (q.map aM)) (fp v.toNat (nrm (p.map aM))))>1024
  ·rw[apz aw,apy (by decide)]at ag;rw[apz aw,apz aw];exact ag
  ·rw[apy aw,apz rfl]at ag;rw[apy aw,apy aw];exact ag
end aa
end
section
open Go Go.ak
namespace aa
end aa
end
section
open Go Go.ak
namespace aa
theorem ya {c:Int}(h:c=0){P Q:Prop}(q:Q):((!decide (c=0))=true->P)/\((!decide (c=0))=false->Q):=⟨fun e=>by simp[h]at e,fun _=>q⟩
theorem okB {b:Bool}(h:b=true){P Q:Prop}(q:Q):((!b)=true->P)/\((!b)=false->Q):=⟨fun e=>by simp[h]at e,fun _=>q⟩
theorem ak5 {b:Bool}(h:b=true){P Q:Prop}(q:Q):(b=true->Q)/\(b=false->P):=⟨fun _=>q,fun e=>by simp[h]at e⟩
theorem e0.same {e f:Int}{K J n m:Nat}{x y:Rows}(h:e0 e K n x)(g:e0 f J m y)(aC:K<=1000000/\J<=1000000/\n<1000000000/\m<1000000000)(e:x=y):
 ((∀r∈x,hV 1000000 r)/\(∀r∈y,hV 1000000 r)/\x.length<1000000000/\y.length<1000000000)/\∀{b:Bool},b=decide (x.map tj=y.map tj)->b=true:=
 ⟨⟨fun r ao=>(h.raw.ar r ao).mono aC.1,fun r ao=>(g.raw.ar r ao).mono aC.2.1,by have:=h.raw.len;omega,by have:=g.raw.len;omega⟩,fun ah=>by rw[ah,e];simp⟩
theorem te.Ga {v:Nat}{r:Row}(h:te v r):hV 4 r:=by
 obtain⟨m,s,a,b,rfl,hm,_,_,aR,ah⟩:=h;exact⟨m,s,a,b,rfl,hm,aR,ah⟩
theorem te.fo {v:Nat}{l:Rows}(h:∀r∈l,te v r):c4 2 (l.map aM):=fun t aw=>by
 obtain⟨r,ao,rfl⟩:=apQ.1 aw;obtain⟨m,s,a,b,rfl,hm,aj,_⟩:=h r ao;rw[oj hm];exact⟨hm,aj⟩
theorem e0.drawn {l:List Int}{a v n:Int}(h:ds l a){k:Nat}(aB:n=k)(ab:1<=k):ds l (m4 l a v n).2/\e0 2 (k*(4+1)) k (m4 l a v n).1:=by
 obtain⟨ad,aA,ba⟩:=adu (v:=v) h (show 0<=n by omega);exact⟨ad,RT (fun r ao=>(ba r ao).Ga) (by decide) (by omega) ab,te.fo ba⟩
end aa
end
section
open Go Go.ak
namespace aa
end aa
end
section
open Go Go.ak
namespace aa
theorem ahu {v:Int}(bc:0<=v)(ab:v<256):IntKind.wrap .i64 (Int.tmod v 3)=v%3/\0<=v%3/\v%3<8:=by
 rw[arL bc];exact⟨bQ (by omega),by omega,by omega⟩
end aa
end
section
open Go Go.ak
namespace aa
def MM:aa.Rows->Int->(R->Prop)->Prop:=
 fun(p:aa.Rows) (v:Int) (K:R->Prop)=>(aa.cC p/\(0:Int)<=v/\v<(8:Int))/\∀(x:Int),x=aa.hZ (List.map aa.aM p) (Int.toNat v)->(0:Int)<=ai (x+(1:Int))/\ai (x+(1:Int))<=(1000000000:Int)/\∃(aQ:Int->List (List (List U))->Prop),∃(m:Int->List (List (List U))->Nat),aQ (0:Int) (List.replicate (Int.toNat (ai (x+(1:Int)))) [])/\∀(jQ:Int) (l:List (List (List U))),aQ jQ l->(decide (jQ<aT p)=true->(0:Int)<=jQ/\jQ<aT p/\List.length (List.aS p jQ)=(11:Nat)/\(0:Int)<=v/\v<(8:Int)/\U.dQ (List.getD (List.aS p jQ) (Int.toNat v) U.undef) IntKind.i64/\(0:Int)<=v/\v<(8:Int)/\List.length (List.set (List.aS p jQ) (Int.toNat v) (U.int IntKind.i64 (0:Int)))=(11:Nat)/\(0:Int)<=U.toInt (List.getD (List.aS p jQ) (Int.toNat v) U.undef)/\U.toInt (List.getD (List.aS p jQ) (Int.toNat v) U.undef)<aT l/\(aT (List.getD l (Int.toNat (U.toInt (List.getD (List.aS p jQ) (Int.toNat v) U.undef))) [])+(1:Int))*(120:Int)<=(70368744177664:Int)/\aQ (ai (jQ+(1:Int))) (List.set l (Int.toNat (U.toInt (List.getD (List.aS p jQ) (Int.toNat v) U.undef))) (HAppend.hAppend (List.getD l (Int.toNat (U.toInt (List.getD (List.aS p jQ) (Int.toNat v) U.undef))) []) [List.set (List.aS p jQ) (Int.toNat v) (U.int IntKind.i64 (0:Int))]))/\m (ai (jQ+(1:Int))) (List.set l (Int.toNat (U.toInt (List.getD (List.aS p jQ) (Int.toNat v) U.undef))) (HAppend.hAppend (List.getD l (Int.toNat (U.toInt (List.getD (List.aS p jQ) (Int.toNat v) U.undef))) []) [List.set (List.aS p jQ) (Int.toNat v) (U.int IntKind.i64 (0:Int))]))<m jQ l)/\(decide (jQ<aT p)=false->(0:Int)<=aT (List.map (fun(l:List (List U))=>[U.ar (11:Nat) l]) l)/\aT (List.map (fun(l:List (List U))=>[U.ar (11:Nat) l]) l)<=aT (List.map (fun(l:List (List U))=>[U.ar (11:Nat) l]) l)/\aT (List.map (fun(l:List (List U))=>[U.ar (11:Nat) l]) l)*(24:Int)<=(281474976710656:Int)/\∃(aQ:Int->List (List U)->Prop),∃(m:Int->List (List U)->Nat),aQ (0:Int) (List.replicate (Int.toNat (aT (List.map (fun(l:List (List U))=>[U.ar (11:Nat) l]) l))) [U.ar (11:Nat) []])/\∀(v46:Int) (au:List (List U)),aQ v46 au->(decide (v46<aT (List.map (fun(l:List (List U))=>[U.ar (11:Nat) l]) l))=true->(0:Int)<=v46/\v46<aT (List.map (fun(l:List (List U))=>[U.ar (11:Nat) l]) l)/\U.DA (List.getD (List.getD (List.map (fun(l:List (List U))=>[U.ar (11:Nat) l]) l) (Int.toNat v46) []) (0:Nat) U.undef) (11:Nat)/\aa.hA (U.w9 (List.getD (List.getD (List.map (fun(l:List (List U))=>[U.ar (11:Nat) l]) l) (Int.toNat v46) []) (0:Nat) U.undef))/\∀(x:List (List U)),x=aa.bK (aa.nrm (List.map aa.aM (U.w9 (List.getD (List.getD (List.map (fun(l:List (List U))=>[U.ar (11:Nat) l]) l) (Int.toNat v46) []) (0:Nat) U.undef))))->(0:Int)<=v46/\v46<aT au/\aQ (ai (v46+(1:Int))) (List.set au (Int.toNat v46) (setRow (List.aS au v46) (0:Nat) [U.ar (11:Nat) x]))/\m (ai (v46+(1:Int))) (List.set au (Int.toNat v46) (setRow (List.aS au v46) (0:Nat) [U.ar (11:Nat) x]))<m v46 au)/\(decide (v46<aT (List.map (fun(l:List (List U))=>[U.ar (11:Nat) l]) l))=false->K (R.d (U.ar (1:Nat) au))))
end aa
end
section
open Go Go.ak
namespace aa
def k1 (v:Nat)(i:Int)(p:Rows):Rows:=(p.filter fun r=>decide ((dI r).getD v 0=i)).map fun r=>r.set v (.int .i64 0)
theorem eT.JE {r:Row}(h:eT r){v:Nat}(aO:v<8):dI (r.set v (.int .i64 0))=(dI r).set v 0/\tE (r.set v (.int .i64 0))=tE r/\(r.set v (.int .i64 0)).length=11/\(dI r).length=8:=by
 obtain⟨oN,fX,gg,h6,jS,jT,oO,sh,s,a,b,rfl⟩:=h
 have e:∀m:List Int,m.length=8->∀s a b,dI ((eP m s a b).set v (.int .i64 0))=(dI (eP m s a b)).set v 0/\tE ((eP m s a b).set v (.int .i64 0))=tE (eP m s a b)/\((eP m s a b).set v (.int .i64 0)).length=11/\(dI (eP m s a b)).length=8:=fun m hm s a b=>by
  have r4:(m.set v 0).length=8:=by rw[apL,hm]
  rw[RZ hm aO,uP hm,uP r4,EH hm,EH r4,qj r4];exact⟨rfl,rfl,rfl,hm⟩
 exact e [oN,fX,gg,h6,jS,jT,oO,sh] rfl s a b
theorem abS {v:Nat}{i:Int}{p:Rows}{k:Nat}(ag:k<p.length):k1 v i (p.take (k+1))=if(dI (p.getD k [])).getD v 0=i then k1 v i (p.take k)++[(p.getD k []).set v (.int .i64 0)]else k1 v i (p.take k):=by
 rw[q8 ag,k1,k1,arG,aqo]
 by_cases e:(dI (p.getD k [])).getD v 0=i
 ·rw[apz e,aqK,apz (by simpa using e)];rfl
 ·rw[apy e,aqK,apy (by simpa using e)];simp
theorem R4 {v:Nat}(aO:v<8){i:Int}:∀{p:Rows},c9 p->(k1 v i p).map aM=((p.map aM).filter fun t=>decide (t.1.getD v 0=i)).map fun t=>(t.1.set v 0,t.2)
 |[],_=>rfl
 |r::p,h=>by
  have bI:=R4 aO (i:=i) fun q a6=>h q (aqR _ a6);obtain⟨ab,ad,_⟩:=(h r (by simp)).JE aO;unfold k1 at bI⊢;rw[ap2,aqK,aqK]
  by_cases e:(dI r).getD v 0=i
  ·rw[apz (by simpa using e),apz (by simpa[aM]using e),ap2,ap2,ap2,bI,aM,ab,ad];rfl
  ·rw[apy (by simpa using e),apy (by simpa[aM]using e),bI]
theorem R5 {v:Nat}(aO:v<8){i:Int}(m:List Int):∀{p:Rows},c9 p->fM m (k1 v i p)<=fM (m.set v i) p
 |[],_=>apF _
 |r::p,h=>by
  have bI:=R5 aO (i:=i) m fun q a6=>h q (aqR _ a6);obtain⟨ab,_,_,ba⟩:=(h r (by simp)).JE aO;unfold k1 at bI⊢;rw[aqK]
  by_cases e:(dI r).getD v 0=i
  ·rw[apz (by simpa using e),ap2,fM,fM,ab]
   by_cases q:(dI r).set v 0=m
   ·have:dI r=m.set v i:=by
     rw[<-q,List.set_set,<-e];simp[apA,show v<(dI r).length by omega]
    rw[apz q,apz this];omega
   ·rw[apy q];omega
  ·rw[apy (by simpa using e),fM];omega
theorem adw {v:Nat}(aO:v<8){i:Int}{p:Rows}(h:hA p):hA (k1 v i p):=by
 obtain⟨k,c,ab,ad,aA,ba,bJ,cu⟩:=h;refine⟨k,c,ab,fun r ao=> ?_,fun m=>apS (R5 aO m fun r ao=>(ad r ao).row) (aA _),ba,bJ, ?_⟩
 ·obtain⟨q,a6,rfl⟩:=apQ.1 ao;obtain⟨m,s,a,b,rfl,g1,g2,g3⟩:=(ad q (aqE.1 a6).1).bP;rw[RZ g1 aO];refine⟨m.set v 0,s,a,b,rfl,by rw[apL,g1],fun x aj=> ?_,g3⟩;rcases are aj with h|rfl
  ·exact g2 x h
  ·omega
 ·rw[k1,apI];exact apS (ar1 _ _) cu
theorem Ei {v:Nat}:∀{p:List bd} {d:Int},d<=kz v d p/\∀t∈p,t.1.getD v 0<=kz v d p
 |[],d=>⟨Int.le_refl _,fun t h=>by cases h⟩
 |t::p,d=>by
  rw[kz];obtain⟨ab,ad⟩:=Ei (v:=v) (p:=p) (d:=if t.1.getD v 0>d then t.1.getD v 0 else d);refine⟨?_,fun u hu=> ?_⟩
  ·split at ab<;>split<;>omega
  ·rcases ap9.1 hu with rfl|hu
   ·split at ab<;>split<;>omega
   ·exact ad u hu
theorem ext_get {α:Type}{a b:List α}(d:α)(ax:a.length=b.length)(h:∀i,i<a.length->a.getD i d=b.getD i d):a=b:=arU ax fun i ab ad=>by
 have:=h i ab;rwa [apA,apA,apT ab,apT ad]at this
theorem W7 (p:Rows)(v:Int)(K:R->Prop)(h:Eb.T [.d (.ar 11 p), .d (.int .i64 v)] K):MM p v K:=by
 obtain⟨⟨⟨jk,pn⟩,hw,he,ay⟩,ag⟩:=h;have gk:=ay;obtain⟨k,c,s1,s2,jo,lj,apq,yu⟩:=gk;have bp:c9 p:=fun r ao=>(s2 r ao).row;have aO:v.toNat<8:=by omega
 obtain⟨d1,d2⟩:=Ei (v:=v.toNat) (p:=p.map aM) (d:=-1)
 have d3:=(IY (a:=-1) (b:=100000000) (v:=v.toNat) (p:=p.map aM) (d:=-1) (fun t aw=>by
  have:=(he t aw).2 _ (mQ (m:=t.1) (i:=v.toNat) (by rw[(he t aw).1];omega));omega) (by omega) (by omega)).2
 have Gz:hZ (p.map aM) v.toNat=kz v.toNat (-1) (p.map aM):=rfl;unfold MM ai aT List.aS;refine⟨⟨hw,jk,pn⟩, ?_⟩;rintro _ rfl;rw[fZ (by omega) (by omega)]
 refine⟨by omega,by omega,fun w l=>∃i:Nat,w=i/\i<=p.length/\l.length=(hZ (p.map aM) v.toNat+1).toNat/\∀j,j<l.length->l.getD j []=k1 v.toNat j (p.take i),fun w _=>p.length-w.toNat,
  ⟨0,rfl,by omega,by simp,fun j aI=> ?_⟩, ?_⟩
 ·simp at aI;simp[apA,aI,k1]
 rintro _ l ⟨i,rfl,ab,ad,aA⟩;simp only[aqe,apD,apB];refine⟨fun ba=> ?_,fun ba=> ?_⟩
 ·have hi:i<p.length:=by omega
  have ao:=bp.get hi;have hm:aM (p.getD i [])∈p.map aM:=List.mem_map_of_mem (mO hi);obtain⟨g1,g2⟩:=he _ hm;have g3:=g2 _ (mQ (m:=(aM (p.getD i [])).1) (i:=v.toNat) (by omega));have g4:=d2 _ hm;have g5:(aM (p.getD i [])).1=dI (p.getD i []):=rfl;rw[g5]at g3 g4;rw[ao.at aO];simp only[U.toInt];have bL:((dI (p.getD i [])).getD v.toNat 0).toNat<l.length:=by omega
  have hlen:(l.getD ((dI (p.getD i [])).getD v.toNat 0).toNat []).length<=1000000000:=by
   rw[aA _ bL,k1,apI];refine apS (ar1 _ _) ?_;rw[ap_];omega
  refine⟨by omega,ba,ao.len,jk,pn,rfl,jk,pn,(ao.JE aO).2.2.1,by omega,by omega,by omega,⟨i+1,fZ (by omega) (by omega),by omega,by rw[apL];exact ad,fun j aI=> ?_⟩,by rw[fZ (by omega) (by omega)];omega⟩;rw[apL]at aI;rw[eR,abS hi]
  by_cases e:((dI (p.getD i [])).getD v.toNat 0).toNat=j
  ·rw[apz ⟨e,by omega⟩,apz (by omega),<-aA j aI,e]
  ·rw[apy (fun x=>e x.1),apy (by omega),aA j aI]
 ·obtain rfl:i=p.length:=by omega
  simp only[apI]
  have aA:∀j,j<l.length->l.getD j []=k1 v.toNat j p:=fun j aI=>by rw[aA j aI,aqZ]
  refine⟨by omega,by omega,by omega,fun w o=>∃i:Nat,w=i/\i<=l.length/\o.length=l.length/\∀j,j<l.length->o.getD j []=[.ar 11 (if j<i then bK (nrm ((k1 v.toNat j p).map aM))else[])],fun w _=>l.length-w.toNat,
   ⟨0,rfl,by omega,by simp,fun j aI=> ?_⟩, ?_⟩
  ·simp[apA,aI]
  rintro _ o ⟨i,rfl,aY,bj,bG⟩;simp only[aqe,apD,apB];refine⟨fun ba=> ?_,fun ba=> ?_⟩
  ·have hi:i<l.length:=by omega
   have az:(l.map fun l:List (List U)=>[U.ar 11 l]).getD i []=[U.ar 11 (k1 v.toNat i p)]:=by
    rw[<-aA i hi];simp[apA,hi]
   rw[az];refine⟨by omega,by omega,rfl,adw aO ay, ?_⟩;rintro _ rfl;refine⟨by omega,by omega,⟨i+1,fZ (by omega) (by omega),by omega,by rw[apL];exact bj,fun j aI=> ?_⟩,by rw[fZ (by omega) (by omega)];omega⟩;rw[eR]
   by_cases e:i=j
   ·subst e;rw[apz ⟨rfl,by omega⟩,apz (by omega),bG i hi];rfl
   ·rw[apy (fun x=>e x.1),bG j aI]
    by_cases q:j<i
    ·rw[apz q,apz (by omega)]
    ·rw[apy q,apy (by omega)]
  ·obtain rfl:i=l.length:=by omega
   have:o=qo (fp v.toNat (p.map aM)):=by
    refine ext_get [] (by rw[bj,ad,qo,fp];simp) fun j aI=> ?_;rw[bj]at aI;rw[bG j aI,apz aI,R4 aO bp];have h4:j<(hZ (p.map aM) v.toNat+1).toNat:=by omega
    simp[qo,fp,apA,h4]
   rw[this];exact ag
end aa
end
section
open Go Go.ak
namespace aa
theorem Raw.part {K n:Nat}{a b:Rows}(h:Raw K n (a++b)):Raw K n a:=by
 obtain⟨k,c,ab,ad,aA,ba,bJ,cu⟩:=h;exact⟨k,c,ab,fun r ao=>ad r (by simp[ao]),fun m=>by have:=aA m;rw[y_]at this;omega,ba,bJ,by rw[ap4]at cu;omega⟩
end aa
end
section
open Go Go.ak
namespace aa
end aa
end
section
open Go Go.ak
namespace aa
def rR (v k:Nat)(p:List bd):List bd:=(p.filter fun t=>decide (t.1.getD v 0=(k:Int))).map fun t=>(t.1.set v 0,t.2)
def EX (v k:Nat)(p:List bd):List bd:=p.filter fun t=>decide (t.1.getD v 0=(k:Int))
def lq (v k:Nat):bd:=(dV.set v (k:Int),1)
theorem abT {v k:Nat}{p:List bd}(h:k<(hZ p v+1).toNat):(fp v p).getD k []=nrm (rR v k p):=by
 simp[fp,apA,h,rR]
theorem h5.filter {p:List bd}(h:h5 p)(f:bd->Bool):h5 (p.filter f):=⟨h.1.sublist List.filter_sublist,fun t aw=>h.2 t (aqE.1 aw).1⟩
theorem Q3 {v k:Nat}{p:List bd}{t:bd}(h:t∈rR v k p):∃u∈p,u.1.getD v 0=(k:Int)/\t=(u.1.set v 0,u.2):=by
 obtain⟨u,hu,rfl⟩:=apQ.1 h;obtain⟨ab,ad⟩:=aqE.1 hu;exact⟨u,ab,apJ ad,rfl⟩
end aa
end
