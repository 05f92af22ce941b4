/- Helpers for the statements: conditions under which code does what is wanted, and proofs that they suffice. Condition: none. -/
import Derived.Test.YtmeonjefiioegaaGreatDoorA1
import Derived.Below
import Derived.ChangeSlices
import Derived.Shelf.Strings.Builder1
import Derived.Deep.AppendSrc
import Derived.Orders
import Derived.Deep.Slices
import Derived.ChangeArms
import Derived.OpenShut
section
namespace Go.aj
theorem Xj {a:R}{ob:ag}(h:Db a ob=true):ob.plain=true:=by
 cases a<;>cases ob<;>first|rfl|exact h|cases h
theorem YJ {ps:List bb}{T:R->ag->List R->(ag->R->Prop)->Prop}(h:kr T):hF (n7 ps T):=by
 refine⟨fun args I K K' ae bs=> ?_,fun args I K bs=> ?_⟩
 ·unfold n7 at bs⊢;split
  ·exact bs
  ·rename_i a0 bQ;simp only at bs;split
   ·rename_i he;rw[he]at bs;exact bs
   ·rename_i id he;rw[he]at bs;simp only at bs;split
    ·rename_i aa ad ax aV;rw[aa,ad,ax,aV]at bs;simp only at bs;rw[yn]at bs⊢;refine⟨bs.1,h.1 _ _ _ _ _ (fun o r aH=> ?_) bs.2⟩;split
     ·rename_i aS;rw[aS]at aH;exact ae _ _ aH
     ·rename_i aS;rw[aS]at aH;exact aH
    ·rename_i ak;split at bs
     ·rename_i aa ad ax aV;exact(ak aa ad ax aV).elim
     ·exact bs
 ·unfold n7 at bs;split at bs
  ·exact bs.elim
  ·split at bs
   ·exact bs.elim
   ·split at bs
    ·rw[yn]at bs;obtain⟨o,r,ao⟩:=h.2 _ _ _ _ bs.2;split at ao
     ·exact⟨_,_,ao⟩
     ·exact ao.elim
    ·exact bs.elim
theorem XX {ps:List bb}{T:R->ag->List R->(ag->R->Prop)->Prop}(h:kr T):hF (oO ps T):=by
 refine⟨fun args I K K' ae bs=> ?_,fun args I K bs=> ?_⟩
 ·unfold oO at bs⊢;split
  ·exact bs
  ·rename_i a0 bQ;simp only at bs;split
   ·rename_i he;rw[he]at bs;exact bs
   ·rename_i id he;rw[he]at bs;simp only at bs;split
    ·rename_i aa ad ax aV;rw[aa,ad,ax,aV]at bs;simp only at bs;refine h.1 _ _ _ _ _ (fun o r aH=> ?_) bs;split
     ·rename_i aS;rw[aS]at aH;exact ae _ _ aH
     ·rename_i aS;rw[aS]at aH;exact aH
    ·rename_i ak;split at bs
     ·rename_i aa ad ax aV;exact(ak aa ad ax aV).elim
     ·exact bs
 ·unfold oO at bs;split at bs
  ·exact bs.elim
  ·split at bs
   ·exact bs.elim
   ·split at bs
    ·obtain⟨o,r,ao⟩:=h.2 _ _ _ _ bs;split at ao
     ·exact⟨_,_,ao⟩
     ·exact ao.elim
    ·exact bs.elim
theorem Xk {n:Nat}{ps:List bb}{T:R->ag->List R->(ag->R->Prop)->Prop}(h:kr T):hF (l9 n ps T):=by
 have bc:=XX (ps:=ps) h;refine⟨fun args I K K' ae bs=> ?_,fun args I K bs=> ?_⟩
 ·unfold l9 at bs⊢;split
  ·rename_i ah;rw[ah]at bs;exact bc.1 _ _ _ _ ae bs
  ·rename_i ah;rw[ah]at bs;exact bs
 ·unfold l9 at bs;split at bs
  ·exact bc.2 _ _ _ bs
  ·exact bs.elim
def q7:Nat->R->List R->List R
 |0,a,l=>a::l
 |_+1,a,[]=>[a]
 |n+1,a,x::l=>x::q7 n a l
theorem NQ:∀(n:Nat) (a:R) (l:List R),n<=l.length->q7 n a l=l.take n++a::l.drop n
 |0,a,l,_=>rfl
 |n+1,a,[],h=>by simp at h
 |n+1,a,x::l,h=>by
  show x::q7 n a l=_;rw[NQ n a l (by simpa using h)];rfl
def yC (n:Nat)(E:bD)(ntmps:Nat)(results:List ResultVar)(c:Code)(a0:R)(ob:ag)(bQ:List R)(ts:List bb)(K:ag->R->Prop):Prop:=
 hT E c 1000000 ⟨pad ntmps (q7 n a0 bQ),[(false,ob)]⟩ fun e S=>
  match e with
  | .normal| .ret=>
   (match q5 E.tb S.tm S.I results with
   |true=>(match cw (cD S.I (gU E.tb S.tm S.I results)) 0,ag.plain (ag.at S.I 0),R.uD (b8 .un S.tm n) a0,su ts (mi S.I ts (one (gU E.tb S.tm S.I results)))with
    |false,true,true,true=>K (ag.at S.I 0) (mi S.I ts (one (gU E.tb S.tm S.I results)))
    |_,_,_,_=>False)
   |false=>False)
  |_=>False
def CG (E:bD)(ntmps:Nat)(results:List ResultVar)(c:Code)(a0:R)(ob:ag)(bQ:List R)(ts:List bb)(K:ag->R->Prop):Prop:=
 hT E c 1000000 ⟨pad ntmps (a0::bQ),[(false,ob)]⟩ fun e S=>
  match e with
  | .normal| .ret=>
   (match q5 E.tb S.tm S.I results with
   |true=>(match cw (cD S.I (gU E.tb S.tm S.I results)) 0,ag.plain (ag.at S.I 0),R.uD (b8 .un S.tm 0) a0,su ts (mi S.I ts (one (gU E.tb S.tm S.I results)))with
    |false,true,true,true=>K (ag.at S.I 0) (mi S.I ts (one (gU E.tb S.tm S.I results)))
    |_,_,_,_=>False)
   |false=>False)
  |_=>False
section
variable {P:Program}
theorem QF (E:bD)(dO:hG P E)
 {f:FuncId} {fn:Func} {c:Code} (aT:P.funcs[f]? =some fn) (ah:fn.body=some c) {rvs:List ResultVar} (ao:fn.results=rvs.toArray)
 {N:Nat->Prop} {ρ:List Loc} {I:aF} {w:World} {args:List R} {cq:Array Value} {K:List R->aF->Prop}
 (h:hT E c 1000000 ⟨pad fn.ntmps args,I⟩ fun e S=>match e with| .normal| .ret=>(match q5 E.tb S.tm S.I rvs with|true=>K S.tm S.I|false=>False)|_=>False) (aH:ct N ρ I w)
 (az:args.length=cq.size) (aS:∀i,i<args.length->bF (aL N ρ I) w ρ I (args.getD i .un) (cq.getD i undef)):
 Calls P f cq w fun e w'=>∃(tm:List R) (al:aF) (ρ':List Loc) (a:Act) (aI:List Value),e= .returned (if rvs.length=1 then aI.getD 0 undef else .tuple aI.toArray)/\aI.length=rvs.length/\(gU E.tb tm al rvs).length=rvs.length/\(∀i,bF (aL N ρ' al) w' ρ' al ((gU E.tb tm al rvs).getD i .un) (aI.getD i undef))/\
  K tm al/\eN N ρ' tm al a w'/\Fr ρ I w ρ' al w'/\∀t,t<args.length->Code.e8 c t=false->a.tmps.getD t undef=cq.getD t undef:=by
 refine calls_of_wp aT ah ?_
 have ay:eN N ρ (pad fn.ntmps args) I {tmps:=cq++Array.replicate (fn.ntmps-cq.size) undef,defers:=[]} w:=by
  refine⟨aH,⟨by rw[sL];simp[az],fun t=> ?_⟩,rfl⟩;rw[sL]
  by_cases au:t<args.length
  ·have aA:(args++List.replicate (fn.ntmps-args.length) R.un).getD t .un=args.getD t .un:=by simp[aoC,apy au]
   have aG:(cq++Array.replicate (fn.ntmps-cq.size) undef).getD t undef=cq.getD t undef:=by simp[aoJ,aq2 (show t<cq.size by omega)]
   rw[aA,aG];exact aS t au
  ·have aA:(args++List.replicate (fn.ntmps-args.length) R.un).getD t .un= .un:=by
    rw[aoC,apQ (by omega),ap6];split<;>rfl
   have aG:(cq++Array.replicate (fn.ntmps-cq.size) undef).getD t undef=undef:=by
    rw[aoJ,Array.getElem?_append_right (by omega),Array.getElem?_replicate];split<;>rfl
   rw[aA,aG];exact bF.un
 refine wp_mono (He E dO c _ _ _ _ w ρ h ay) fun e b5 w' ca=> ?_;obtain⟨cb,rfl,aD⟩:=ca;obtain⟨ev,al,ρ',a7,bl,bH⟩:=aD.ex
 have hold:∀t,t<args.length->Code.e8 c t=false->b5.tmps.getD t undef=cq.getD t undef:=fun t au aC=>by
  rw[aD.same t aC];simp[aoJ,aq2 (show t<cq.size by omega)]
 cases cb with
 |normal=>
  have ae:(match q5 E.tb ev al rvs with|true=>K ev al|false=>False):=a7;split at ae;rotate_left
  ·exact ae.elim
  rename_i bg;obtain⟨aI,dG,dD,ei,lf⟩:=BE E dO ao bl (wo bg).1 (by rw[(wo bg).2];exact fun p aD=>absurd aD apV);exact⟨bl.ik,_,dG,ev,al,ρ',b5,aI,rfl,dD,ei,lf,ae,bl,bH,hold⟩
 |ret=>
  have ae:(match q5 E.tb ev al rvs with|true=>K ev al|false=>False):=a7;split at ae;rotate_left
  ·exact ae.elim
  rename_i bg;obtain⟨aI,dG,dD,ei,lf⟩:=BE E dO ao bl (wo bg).1 (by rw[(wo bg).2];exact fun p aD=>absurd aD apV);exact⟨bl.ik,_,dG,ev,al,ρ',b5,aI,rfl,dD,ei,lf,ae,bl,bH,hold⟩
 |_=>exact a7.elim
theorem OF {N:Nat->Prop}{ρ:List Loc}{I:aF}{w:World}(bI:ct N ρ I w){rs:List R}{aI:List Value}{n:Nat}{ts:List bb}(hL:ts.length=n)(dj:rs.length=n)(df:aI.length=n)
 (gv:∀i,bF (aL N ρ I) w ρ I (rs.getD i .un) (aI.getD i undef))
 (jb:su ts (mi I ts (one rs))=true) {Z:Nat->Prop} {ρ':List Loc} {al:aF} (bm:∀b,Z b->aL N ρ (cD I rs) b):
 bF Z w ρ' al (mi I ts (one rs)) (if n=1 then aI.getD 0 undef else .tuple aI.toArray):=by
 obtain⟨q1,cI,cV,gF⟩:=pG rs I bI
 have sY:∀x u,bA (aL N ρ (cD I rs)) w x u->bA Z w x u:=fun x u ak=>ak.mono fun b _ aB=>⟨rfl,fun dn=>aB (bm b dn)⟩
 by_cases aa:n=1
 ·rw[aoB aa]
  match rs,aI,ts,(by omega:rs.length=1),(by omega:aI.length=1),(by omega:ts.length=1)with
  |[x],[u],[t],_,_,_=>
   have aD:(t.norm I x).plain=true:=jb;exact .ht (pH aD (pI q1.rel cI t aD (q1.lz (gv 0)) fun id aM=>gF 0 id (by simp) aM) sY)
 ·rw[aoA aa]
  have aA:one rs= .tup rs:=by
   match rs,dj with
   |[],_=>rfl
   |[x],dj=>exact absurd dj.symm aa
   |_::_::_,_=>rfl
  have aG:∀l,mi I ts (.tup l)= .tup (bb.eV I ts l):=fun l=>by
   match ts,hL with
   |[],_=>rfl
   |[x],hL=>exact absurd hL.symm aa
   |_::_::_,_=>rfl
  have bR:∀l,su ts (.tup l)=ef R.plain l:=fun l=>by
   match ts,hL with
   |[],_=>rfl
   |[x],hL=>exact absurd hL.symm aa
   |_::_::_,_=>rfl
  rw[aA,aG]at jb⊢;rw[bR]at jb;have jm:=qS I ts rs (by omega);refine⟨aI.toArray,rfl,by rw[jm];simp;omega,fun i hi=> ?_⟩;obtain⟨t,e⟩:=qT I ts rs (by omega) i (by omega);have aD:=n0 jb .un i hi;rw[e]at aD⊢;have:=pH (ρ':=ρ') (al:=al) aD (pI q1.rel cI t aD (q1.lz (gv i)) fun id aM=>gF i id (by omega) aM) sY;have cY:aI.toArray.getD i undef=aI.getD i undef:=by simp[aoJ,aoC]
  rw[cY];exact this
theorem Xl {Z Z':Nat->Prop}{w w':World}{ρ ρ':List Loc}{I al:aF}{v:R}{u:Value}(aD:v.re=true)(h:eE Z w ρ I v u)(ao:∀x u,bA Z w x u->bA Z' w' x u):
 eE Z' w' ρ' al v u:=h.mono ao fun _ aB=>(Bq aD aB).elim
theorem Br {Z Z':Nat->Prop}{w w':World}{ρ ρ':List Loc}{I al:aF}{aw:Loc}{ob:ag}(aD:ob.plain=true)(h:h9 Z w ρ I aw ob)
 (ah:∀b,aw.bE=some b->w'.heap[b]? =w.heap[b]?) (ao:∀x u,bA Z w x u->bA Z' w' x u):h9 Z' w' ρ' al aw ob:=
 h.mono ah ao fun l az k id ae aB=>by
  subst az;exact(Bq (n0 aD .un k ae) aB).elim
theorem MY (n:Nat)(E:bD)(dO:hG P E)
 {f:FuncId} {fn:Func} {c:Code} (aT:P.funcs[f]? =some fn) (ah:fn.body=some c) (aB:(fn.name== "runtime.NumGoroutine")=false) {rvs:List ResultVar} (ao:fn.results=rvs.toArray)
 (bc:Code.e8 c n=false) {ps ts:List bb} (hL:ts.length=rvs.length) {T:R->ag->List R->(ag->R->Prop)->Prop}
 (gV:∀a0 ob args K,T a0 ob args K->yC n E fn.ntmps rvs c a0 ob args ts K) (j4:n<=ps.length):iC P f (l9 n ps T):=by
 refine⟨⟨fn,aT,by rw[ah];rfl,aB⟩, ?_⟩;intro N ρ I w args cq K h aH az aS;unfold l9 at h;split at h;rotate_left
 ·exact h.elim
 rename_i xp
 have jG:n<args.length:=by
  have:n+1<=bV args:=ao9 xp;rw[cO]at this;omega
 unfold oO zh at h;have Fk:bF (aL N ρ I) w ρ I (b8 .un args n) (cq.getD n undef):=by rw[d_];exact aS n jG
 have RB:∀i,i<(eS (kN args n) (kM args (Nat.succ n))).length->bF (aL N ρ I) w ρ I ((eS (kN args n) (kM args (Nat.succ n))).getD i .un) (cq.getD (if i<n then i else i+1) undef):=fun i hi=>by
  rw[fZ,lq,lp]at hi⊢;rw[aoC,ao7];simp only[ao1,apf,apP]at hi⊢
  by_cases fh:i<n
  ·rw[aoB (by omega),aoB fh,apu,aoB fh,<-aoC];exact aS i (by omega)
  ·rw[aoA (by omega),aoA fh,ap4,show n.succ+(i-min n args.length)=i+1 by omega,<-aoC];exact aS (i+1) (by omega)
 have aej:(eS (kN args n) (kM args (Nat.succ n))).length+1=args.length:=by rw[fZ,lq,lp];simp;omega
 generalize b8 .un args n=a0 at h Fk;generalize eS (kN args n) (kM args (Nat.succ n))=bQ at h RB aej;simp only at h;split at h
 ·exact h.elim
 rename_i id dR;split at h;rotate_left
 ·exact h.elim
 rename_i aa hx ax aV;have ad:=Xj hx;have hlen:ps.length=bQ.length:=by have:=aoE ax;rwa [cO,cO]at this
 obtain⟨s1,s2,k9,mE⟩:=pG bQ I aH;have zu:=qS I ps bQ hlen
 have rr:id<(cD I bQ).length:=by
  rcases aqg id (cD I bQ).length with h|h
  ·exact h
  ·rw[Rt _ _ h]at aa;cases aa
 have Iu:id<ρ.length:=by rw[s1.rel.len];exact rr
 have dQ:ρ[id]? =some ρ[id]:=by simp[Iu]
 have zL:=s1.lz Fk
 have iV:∀b,ρ[id].bE=some b->aL N ρ (cD I bQ) b:=fun b ah=> .inr ⟨id,ρ[id],dQ,ah,aa⟩
 have nx:=s1.rel.ob id _ dQ;rw[s2]at nx;have zM:q7 n (mU a0) (bb.eV I ps bQ)=(bb.eV I ps bQ).take n++mU a0::(bb.eV I ps bQ).drop n:=NQ _ _ _ (by omega)
 have RC:∀(Z:Nat->Prop) (xK:List Loc) (Ez:aF),(∀x u,bA (aL N ρ (cD I bQ)) w x u->bA Z w x u)->bF Z w xK Ez (mU a0) (cq.getD n undef)->
  ∀i,i<(q7 n (mU a0) (bb.eV I ps bQ)).length->bF Z w xK Ez ((q7 n (mU a0) (bb.eV I ps bQ)).getD i .un) (cq.getD i undef):=fun Z xK Ez uG sZ i hi=>by
  have one:∀j,j<(bb.eV I ps bQ).length->bF Z w xK Ez ((bb.eV I ps bQ).getD j .un) (cq.getD (if j<n then j else j+1) undef):=fun j aK=>by
   obtain⟨t,e⟩:=qT I ps bQ hlen j (by omega);have aD:=n0 aV .un j aK;have vr:=s1.lz (RB j (by omega));rw[e]at aD⊢;exact .ht (pH aD (pI s1.rel s2 t aD vr fun id aM=>mE j id (by omega) aM) uG)
  rw[zM]at hi⊢;simp only[ao1,apf,apj,apP]at hi;rw[aoC,ao7,apf]
  by_cases aa:i<n
  ·rw[aoB (by omega),apu,aoB aa,<-aoC];have:=one i (by omega);rwa [aoB aa]at this
  ·rw[aoA (by omega)]
   cases aY:i-min n (bb.eV I ps bQ).length with
   |zero=>
    have:i=n:=by omega
    subst this;simpa using sZ
   |succ m=>
    have aK:=one (i-1) (by omega);rw[aoA (by omega),show i-1+1=i by omega]at aK;rw[List.getElem?_cons_succ,ap4,show n+m=i-1 by omega,<-aoC];exact aK
 have qk:=gV _ _ _ _ h;unfold yC at qk
 by_cases xL:(∃i,a0= .vec i)/\ρ[id].cap=0
 ·obtain⟨⟨i,rfl⟩,p_⟩:=xL;obtain rfl:i=id:=aoL dR
  have ph:(ag.at I i).len=0:=by
   cases cf:ag.at I i with
   |cells l=>rw[cf]at hx;cases hx
   |gone=>rw[cf]at hx;cases hx
   |map _ _ _=>rw[cf]at hx;cases hx
   |dead _ _=>rw[cf]at hx;cases hx
   |af k l=>
    rw[cf]at nx;obtain⟨rfl,_⟩|⟨b9,aI,e,fi,fb,k7,r4,r5,x6⟩:=nx
    ·rfl
    ·show l.length=0;omega
   |av an l=>
    rw[cf]at nx;obtain⟨rfl,_⟩|⟨b9,aI,e,fi,fb,k7,r4,r5,x6⟩:=nx
    ·rfl
    ·show l.length=0;omega
  have iK:∀b,¬gJ [⟨ρ[i].a,0,none⟩] [(false,ag.at I i)] b:=fun b ⟨j,aw,a7,bl,_⟩=>by
   cases j with
   |zero=>simp at a7;subst a7;cases bl
   |succ j=>simp at a7
  have h0:ct (aL N ρ (cD I bQ)) [⟨ρ[i].a,0,none⟩] [(false,ag.at I i)] w:=
   {len:=rfl
    fC:=fun b ah=>by
     rcases ah with ah|⟨i,aw,aA,aG,_⟩
     ·exact aH.fC b ah
     ·exact aH.lt i aw b aA aG
    lt:=fun j aw b aA aG=>by
     cases j with
     |zero=>simp at aA;subst aA;cases aG
     |succ j=>simp at aA
    inj:=fun j fX li cF b aA aG _ _ _ _=>by
     cases j with
     |zero=>cases fX with
      |zero=>rfl
      |succ j=>simp at aG
     |succ j=>simp at aA
    fR:=fun j aw b aA aG ah=>by
     cases j with
     |zero=>simp at aA;subst aA;cases aG
     |succ j=>simp at aA
    ob:=fun j aw aA=>by
     cases j with
     |zero=>
      simp at aA;subst aA;show h9 _ _ _ _ _ (ag.at I i)
      cases cf:ag.at I i with
      |cells l=>rw[cf]at hx;cases hx
      |gone=>rw[cf]at hx;cases hx
      |map _ _ _=>rw[cf]at hx;cases hx
      |dead _ _=>rw[cf]at hx;cases hx
      |af k l=>rw[cf]at ph;exact .inl ⟨aqp ph,rfl⟩
      |av k l=>rw[cf]at ph;exact .inl ⟨aqp ph,rfl⟩
     |succ j=>simp at aA}
  have sZ:bF (aL (aL N ρ (cD I bQ)) [⟨ρ[i].a,0,none⟩] [(false,ag.at I i)]) w [⟨ρ[i].a,0,none⟩] [(false,ag.at I i)] (mU (.vec i)) (cq.getD n undef):=by
   obtain⟨aw,aA,aG,qy⟩:=zL;rw[dQ]at aA;obtain rfl:=aoL aA;exact⟨⟨ρ[i].a,0,none⟩,rfl,by rw[aG,s2,p_];rfl,fun _=>rfl⟩
  have gl:=RC _ _ _ (fun x u ak=>ak.mono fun b _ bm=>⟨rfl,fun dn=>dn.elim bm (iK b)⟩) sZ
  refine(QF E dO aT ah ao (args:=q7 n (mU (.vec i)) (bb.eV I ps bQ)) (cq:=cq)
   (K:=fun tm al=>match cw (cD al (gU E.tb tm al rvs)) 0,ag.plain (ag.at al 0),R.uD (b8 .un tm n) (mU (.vec i)),su ts (mi al ts (one (gU E.tb tm al rvs)))with
     |false,true,true,true=>(match ag.alike (ag.at I i) (ag.at al 0)with|true=>K (mi al ts (one (gU E.tb tm al rvs))) (c0 (cD I bQ) i (false,ag.at al 0))|false=>False)
     |_,_,_,_=>False) qk h0 (by rw[zM];simp;omega) gl).mono ?_
  rintro e w' ⟨tm,al,ρ',a,aI,rfl,dD,ei,lf,ae,ay,cH,e9⟩;split at ae;rotate_left
  ·exact ae.elim
  rename_i g1 g2 g3 g4;split at ae;rotate_left
  ·exact ae.elim
  rename_i g5;have lR:=e9 n (by rw[zM];simp;omega) bc;have tp:=ay.eG.at_ n;rw[<-d_,Hc g3,lR]at tp;obtain⟨dj,aA,aG,_⟩:=sZ;obtain⟨df,bR,cY,_⟩:=tp;simp at aA;subst aA;rw[aG]at cY;have hO:(ag.at [(false,ag.at I i)] 0)=ag.at I i:=rfl;rw[hO]at cY;injection cY with jK mF l2
  have kY:ag.at al 0=ag.at I i:=by
   cases cf:ag.at I i<;>cases oi:ag.at al 0<;>rw[cf,oi]at g5 mF<;>rw[cf]at ph hx<;>first|cases g5|skip
   ·cases hx
   ·have:=aqp ph;have k6:=aqp (mF.symm.trans ph);subst this;subst k6;rw[jt.1 g5]
   ·have:=aqp ph;have k6:=aqp (mF.symm.trans ph);subst this;subst k6;rw[(aoE g5:_=_)]
  have hI:c0 (cD I bQ) i (false,ag.at al 0)=cD I bQ:=by
   rw[e2,kY,<-s2 i];refine aqQ (by simp) fun j kq nC=> ?_;rw[List.getElem_set];split
   ·rename_i e;subst e;have q1:cw (cD I bQ) i=((cD I bQ)[i]).1:=by simp[cw,d_,aoC,rr]
    have cI:ag.at (cD I bQ) i=((cD I bQ)[i]).2:=by simp[ag.at,d_,aoC,rr]
    rw[<-aa,q1,cI]
   ·rfl
  rw[hI]at ae
  have ags:∀b,b<w.heap.size->w'.heap[b]? =w.heap[b]? :=fun b ah=>cH.ar b ah (iK b)
  refine⟨_,_,ρ,_,rfl,ae,s1.trans (cn.more s1.rel cH.os cH.tape cH.output cH.size ags), ?_⟩;exact OF ay.e5 hL ei dD lf g4 fun b ah=> .inl ah
 have zr:∀b,aL (fun b=>aL N ρ (cD I bQ) b/\ρ[id].bE≠some b) [ρ[id]] [(false,ag.at I id)] b->aL N ρ (cD I bQ) b:=fun b ah=>by
  rcases ah with ah|⟨i,aw,aA,aG,_⟩
  ·exact ah.1
  ·cases i with
   |zero=>simp at aA;subst aA;exact iV b aG
   |succ i=>simp at aA
 have uG:∀x u,bA (aL N ρ (cD I bQ)) w x u->bA (aL (fun b=>aL N ρ (cD I bQ) b/\ρ[id].bE≠some b) [ρ[id]] [(false,ag.at I id)]) w x u:=
  fun x u ak=>ak.mono fun b _ bm=>⟨rfl,fun dn=>bm (zr b dn)⟩
 have h0:ct (fun b=>aL N ρ (cD I bQ) b/\ρ[id].bE≠some b) [ρ[id]] [(false,ag.at I id)] w:=
  {len:=rfl
   fC:=fun b ah=>by
    rcases ah.1 with ah|⟨i,aw,aA,aG,_⟩
    ·exact aH.fC b ah
    ·exact aH.lt i aw b aA aG
   lt:=fun i aw b aA aG=>by
    cases i with
    |zero=>simp at aA;subst aA;exact aH.lt id _ b dQ aG
    |succ i=>simp at aA
   inj:=fun i j li cF b aA aG _ _ _ _=>by
    cases i with
    |zero=>cases j with
     |zero=>rfl
     |succ j=>simp at aG
    |succ i=>simp at aA
   fR:=fun i aw b aA aG ah=>by
    cases i with
    |zero=>simp at aA;subst aA;exact ah.2 aG
    |succ i=>simp at aA
   ob:=fun i aw aA=>by
    cases i with
    |zero=>simp at aA;subst aA;exact Br ad nx (fun _ _=>rfl) uG
    |succ i=>simp at aA}
 have sZ:bF (aL (fun b=>aL N ρ (cD I bQ) b/\ρ[id].bE≠some b) [ρ[id]] [(false,ag.at I id)]) w [ρ[id]] [(false,ag.at I id)] (mU a0) (cq.getD n undef):=by
  cases a0 with
  |vec i=>
   obtain rfl:i=id:=aoL dR;obtain⟨aw,aA,aG,qy⟩:=zL;rw[dQ]at aA;obtain rfl:=aoL aA;exact⟨ρ[i],rfl,by rw[aG,s2];rfl,qy⟩
  |ptr i off=>
   obtain rfl:i=id:=aoL dR;obtain⟨aw,b,aA,aG,bR,cY⟩:=zL;rw[dQ]at aA;obtain rfl:=aoL aA;exact⟨ρ[i],b,rfl,aG,bR,cY⟩
  |_=>cases dR
 have gl:=RC _ _ _ uG sZ
 refine(QF E dO aT ah ao (args:=q7 n (mU a0) (bb.eV I ps bQ)) (cq:=cq)
  (K:=fun tm al=>match cw (cD al (gU E.tb tm al rvs)) 0,ag.plain (ag.at al 0),R.uD (b8 .un tm n) (mU a0),su ts (mi al ts (one (gU E.tb tm al rvs)))with
    |false,true,true,true=>(match ag.alike (ag.at I id) (ag.at al 0)with|true=>K (mi al ts (one (gU E.tb tm al rvs))) (c0 (cD I bQ) id (false,ag.at al 0))|false=>False)
    |_,_,_,_=>False) qk h0 (by rw[zM];simp;omega) gl).mono ?_
 rintro e w' ⟨tm,al,ρ',a,aI,rfl,dD,ei,lf,ae,ay,cH,e9⟩;split at ae;rotate_left
 ·exact ae.elim
 rename_i g1 g2 g3 g4;split at ae;rotate_left
 ·exact ae.elim
 rename_i g5;have lR:=e9 n (by rw[zM];simp;omega) bc;have tp:=ay.eG.at_ n;rw[<-d_,Hc g3,lR]at tp;obtain⟨q1,cI,cV,gF⟩:=pG (gU E.tb tm al rvs) al ay.e5;have qa:=ay.e5.ob 0
 have key:∃iY b,ρ'[0]? =some iY/\ρ[id].a=some ⟨b,0,none⟩/\ρ[id].bE=some b/\iY.bE=some b/\(ag.at al 0).len=(ag.at I id).len/\
  ∀Z' dN m0,(∀x u,bA (aL (fun b=>aL N ρ (cD I bQ) b/\ρ[id].bE≠some b) ρ' al) w' x u->bA Z' w' x u)->h9 Z' w' dN m0 ρ[id] (ag.at al 0):=by
  cases a0 with
  |vec i=>
   obtain rfl:i=id:=aoL dR;obtain⟨dj,aA,aG,_⟩:=sZ;obtain⟨df,bR,cY,_⟩:=tp;simp at aA;subst aA;rw[aG]at cY;have hO:(ag.at [(false,ag.at I i)] 0)=ag.at I i:=rfl;rw[hO]at cY;injection cY with jK mF l2;have aD:ρ[i].cap≠0:=fun e=>xL ⟨⟨i,rfl⟩,e⟩;have qa:=qa df bR
   cases cf:ag.at I i with
   |cells l=>rw[cf]at hx;cases hx
   |gone=>rw[cf]at hx;cases hx
   |map _ _ _=>rw[cf]at hx;cases hx
   |dead _ _=>rw[cf]at hx;cases hx
   |af k l=>
    rw[cf]at nx g5 mF
    cases oi:ag.at al 0 with
    |af cz cy=>
     rw[oi]at qa mF g2;obtain⟨_,hz⟩|⟨b9,_,_,fi,fb,_⟩:=nx
     ·exact(aD hz).elim
     obtain⟨_,pj⟩|⟨cW,aI,e,d1,d2,d3,d4,d5,d6⟩:=qa
     ·exact(aD (l2.trans pj)).elim
     rw[<-jK,fi]at d1;obtain rfl:b9=cW:=by injection d1 with d1;injection d1
     refine⟨df,b9,bR,fi,fb,d2,mF.symm,fun Z' dN m0 _=> .inr ⟨b9,aI,e,fi,fb,d3,by rw[l2];exact d4,by rw[l2];exact d5,d6⟩⟩
    |_=>rw[oi]at g5;cases g5
   |av an l=>
    rw[cf]at nx g5 mF
    cases oi:ag.at al 0 with
    |av cz cy=>
     rw[oi]at qa mF g2;obtain⟨_,hz⟩|⟨b9,_,_,fi,fb,_⟩:=nx
     ·exact(aD hz).elim
     obtain⟨_,pj⟩|⟨cW,aI,e,d1,d2,d3,d4,d5,d6,d7⟩:=qa
     ·exact(aD (l2.trans pj)).elim
     rw[<-jK,fi]at d1;obtain rfl:b9=cW:=by injection d1 with d1;injection d1
     refine⟨df,b9,bR,fi,fb,d2,mF.symm,fun Z' dN m0 ao=> .inr ⟨b9,aI,e,fi,fb,d3,by rw[l2];exact d4,by rw[l2];exact d5,d6,fun i j hi aK=> ?_⟩⟩;obtain⟨v,a7,bl⟩:=d7 i j hi aK;exact⟨v,a7,ao _ _ bl⟩
    |_=>rw[oi]at g5;cases g5
  |ptr i off=>
   obtain rfl:i=id:=aoL dR;obtain⟨dj,cW,aA,fi,fb,k7⟩:=sZ;obtain⟨df,c9,bR,d1,d2,d3⟩:=tp;simp at aA;subst aA;rw[k7]at d3;obtain rfl:cW=c9:=by injection d3 with d3;injection d3 with d3;injection d3
   have qa:=qa df bR
   cases cf:ag.at I i with
   |cells l=>
    rw[cf]at g5
    cases oi:ag.at al 0 with
    |cells cy=>
     rw[oi]at qa g2 g5;have ajp:l.length=cy.length:=by have:=aoE g5;rwa [cO,cO]at this
     obtain⟨iM,aI,e,f1,f2,f3,f4,f5⟩:=qa;rw[d1]at f1;obtain rfl:cW=iM:=by injection f1 with f1;injection f1
     refine⟨df,cW,bR,fi,fb,d2,ajp.symm,fun Z' dN m0 ao=>⟨cW,aI,e,fi,fb,f3,f4,fun k ae=> ?_⟩⟩;exact Xl (n0 g2 .un k ae) (f5 k ae) ao
    |_=>rw[oi]at g5;cases g5
   |_=>rw[cf]at hx;cases hx
  |_=>cases dR
 obtain⟨iY,b,aA,aG,bR,cY,hO,jK⟩:=key
 have agt:(ag.at al 0).cL=(ag.at I id).cL:=by
  cases cf:ag.at I id<;>cases oi:ag.at al 0<;>rw[cf,oi]at g5<;>first|rfl|cases g5|exact(aoE g5).symm
 have CH:∀x,gJ ρ ((cD I bQ).set id (false,ag.at al 0)) x->gJ ρ (cD I bQ) x:=fun x ⟨i,l,a7,bl,bH⟩=>by
  rw[ir]at bH
  by_cases e:id=i
  ·subst e;exact⟨id,l,a7,bl,aa⟩
  ·rw[aoA (by simp[e])]at bH;exact⟨i,l,a7,bl,bH⟩
 have sT:∀x,x<w.heap.size->ρ[id].bE≠some x->w'.heap[x]? =w.heap[x]? :=fun x ak cT=>cH.ar x ak fun⟨i,l,a7,bl,_⟩=>by
  cases i with
  |zero=>simp at a7;subst a7;exact cT bl
  |succ i=>simp at a7
 have oj:Fr ρ (cD I bQ) w ρ ((cD I bQ).set id (false,ag.at al 0)) w':=
  ⟨cH.os,cH.tape,cH.output,cH.size,fun x ak xM=>sT x ak fun ah=>xM ⟨id,_,dQ,ah,aa⟩,fun x ak=> .inl (CH x ak)⟩
 have RD:∀i,eR ρ (cD I bQ) ρ ((cD I bQ).set id (false,ag.at al 0)) i:=fun i l az=>by
  refine⟨az, ?_⟩;rw[gN]
  by_cases e:id=i
  ·subst e;rw[aoB ⟨rfl,rr⟩,s2];exact⟨hO,agt⟩
  ·rw[aoA (by simp[e])];exact⟨rfl,rfl⟩
 have aek:∀x,aL N ρ ((cD I bQ).set id (false,ag.at al 0)) x->aL N ρ (cD I bQ) x:=fun x ak=>ak.imp (fun h=>h) (CH x)
 have RE:∀x,aL N ρ ((cD I bQ).set id (false,ag.at al 0)) x->aL (fun b=>aL N ρ (cD I bQ) b/\ρ[id].bE≠some b) ρ' (cD al (gU E.tb tm al rvs)) x:=fun x ak=>by
  by_cases ah:ρ[id].bE=some x
  ·rw[bR]at ah;obtain rfl:=aoL ah;exact .inr ⟨0,iY,aA,cY,g1⟩
  ·exact .inl ⟨aek x ak,ah⟩
 have ael:∀x,aL N ρ ((cD I bQ).set id (false,ag.at al 0)) x->aL (fun b=>aL N ρ (cD I bQ) b/\ρ[id].bE≠some b) ρ' al x:=fun x ak=>by
  rcases RE x ak with ak|⟨i,l,a7,bl,bH⟩
  ·exact .inl ak
  ·refine .inr ⟨i,l,a7,bl, ?_⟩
   cases aT:cw al i with
   |false=>rfl
   |true=>rw[cV i aT]at bH;cases bH
 have Iv:ct N ρ ((cD I bQ).set id (false,ag.at al 0)) w':=by
  refine s1.rel.Er oj (by simp[s1.rel.len]) (fun _ _ _ _ i _ _=>RD i) (fun i l az=> ?_)
  by_cases e:id=i
  ·subst e;rw[dQ]at az;obtain rfl:=aoL az;refine .inr ⟨fun x ak=>⟨aoZ (aH.lt id _ x dQ ak) cH.size,aH.fR id _ x dQ ak,fun j cF aK Jh lY=> ?_⟩, ?_⟩
   ·by_cases e:id=j
    ·exact e.symm
    ·exact s1.rel.inj j id cF _ x aK dQ Jh ak (fun⟨f,n,an,q⟩=>lY ⟨by rw[ir,aoA (by simp[e])];exact f,n,an,by rw[gN,aoA (by simp[e])];exact q⟩) (nY aa)
   rw[gN,aoB ⟨rfl,rr⟩];exact jK _ _ _ fun x u ak=>ak.mono fun y _ bm=>⟨rfl,fun dn=>bm (ael y dn)⟩
  ·refine .inl ⟨az,by rw[gN,aoA (by simp[e])],fun ak=>by rwa [ir,aoA (by simp[e])]at ak,fun j8 x ak=>sT x (aH.lt i l x az ak) fun ah=>e (s1.rel.inj id i _ l x dQ az ah ak (nY aa) j8)⟩
 refine⟨_,_,ρ,_,rfl,ae,s1.trans ?_, ?_⟩
 ·rw[e2];exact{oj with rel:=Iv,same:=RD}
 ·rw[e2];exact OF ay.e5 hL ei dD lf g4 RE
theorem YK (E:bD)(dO:hG P E)
 {f:FuncId} {fn:Func} {c:Code} (aT:P.funcs[f]? =some fn) (ah:fn.body=some c) (aB:(fn.name== "runtime.NumGoroutine")=false) {rvs:List ResultVar} (ao:fn.results=rvs.toArray)
 (bc:Code.e8 c 0=false) {ps ts:List bb} (hL:ts.length=rvs.length) {T:R->ag->List R->(ag->R->Prop)->Prop}
 (gV:∀a0 ob args K,T a0 ob args K->CG E fn.ntmps rvs c a0 ob args ts K):iC P f (n7 ps T):=by
 have h:=MY 0 E dO aT ah aB ao bc hL (ps:=ps) (T:=T) gV (apR _);refine⟨h.1, ?_⟩;intro N ρ I w args cq K fF;refine h.2 N ρ I w args cq K ?_;unfold l9
 cases args with
 |nil=>unfold n7 at fF;exact fF.elim
 |cons a r=>
  have e:Nat.blt 0 (bV (a::r))=true:=Nat.ble_eq_true_of_le (by rw[cO];simp)
  have aG:zh 0 (a::r)=a::r:=by
   unfold zh;rw[fZ,lq,lp]
   rfl
  rw[e,aG];show oO ps T (a::r) I K;unfold n7 at fF;unfold oO;simp only at fF⊢;split
  ·rename_i he;rw[he]at fF;exact fF
  ·rename_i id he;rw[he]at fF;simp only at fF;split
   ·rename_i aa ad ax aV;rw[aa,ad,ax,aV]at fF;simp only at fF;rw[yn]at fF;exact fF.2
   ·rename_i ak;split at fF
    ·rename_i aa ad ax aV;exact(ak aa ad ax aV).elim
    ·exact fF
end
end Go.aj
end
section
namespace Go.aj
theorem G0 {α:Type}:∀(l:List (Nat×α)) (j:Nat) (x:α),fz j l=some x->(j,x)∈l
 |[],j,x,h=>by cases h
 |(i,y)::r,j,x,h=>by
  unfold fz at h;split at h
  ·rename_i ah;obtain rfl:=aoE ah;obtain rfl:=aoL h;simp
  ·exact aqa _ (G0 r j x h)
theorem abE (P:Program)(t:TypeId):c4 P t {ty:= .no}=true:=rfl
theorem adg {P:Program}{tb:TypeId->b4}{t:TypeId}(h:tb t={ty:= .no}):pV P tb t=true:=by
 unfold pV sK zf;rw[h]
theorem hG.of {P:Program}{E:bD}(aa:ef (fun p=>match c4 P p.1 p.2 with|true=>pV P E.tb p.1|false=>false) E.tys=true)(ad:∀p∈E.cons,yL P p.1 p.2/\hF p.2)(ax:P.follows .mixedOrders=true)(aV:∀f∈E.data,IT (E.bx f))(bp:∀f∈E.fresh,It (E.bx f):=by intro f h;exact absurd h apV):hG P E:=by
 have key:∀f args I K,E.bx f args I K->(f,E.bx f)∈E.cons:=fun f args I K h=>by
  unfold bD.bx at h⊢;split
  ·rename_i c aC;exact G0 _ _ _ aC
  ·rename_i aC;rw[aC]at h;exact h.elim
 have both:∀t,c4 P t (E.tb t)=true/\pV P E.tb t=true:=fun t=>by
  cases az:fz t E.tys with
  |some i=>
   rw[fH,aoU]at aa;have:=aa _ (G0 _ _ _ az);have e:E.tb t=i:=by unfold bD.tb;rw[az]
   rw[e];simp only at this;split at this
   ·rename_i ad;exact⟨ad,this⟩
   ·cases this
  |none=>
   have e:E.tb t={ty:= .no}:=by unfold bD.tb;rw[az]
   exact⟨by rw[e];exact abE P t,adg e⟩
 refine⟨fun t=>(both t).1,fun t=>(both t).2,fun f args I K h=>(ad _ (key f args I K h)).1,fun f args I K h=>(ad _ (key f args I K h)).2,ax,fun f=>⟨fun aT=> ?_,fun aT=> ?_⟩⟩
 ·unfold bD.kind at aT;split at aT
  ·rename_i hm;exact aV f (wF.1 hm)
  ·split at aT<;>cases aT
 ·unfold bD.kind at aT;split at aT
  ·cases aT
  ·split at aT
   ·rename_i hm;exact bp f (wF.1 hm)
   ·cases aT
def pY (K:List R->Prop):List R->Prop
 |[]=>K []
 | .d (.af k l)::r=>∀x:List Int,x=l->pY (fun t=>K (.d (.af k x)::t)) r
 | .d (.av k l)::r=>∀x:List (List U),x=l->pY (fun t=>K (.d (.av k x)::t)) r
 | .d (.int k n)::r=>∀x:Int,x=n->pY (fun t=>K (.d (.int k x)::t)) r
 | .d (.bool b)::r=>∀x:Bool,x=b->pY (fun t=>K (.d (.bool x)::t)) r
 | .d (.str l)::r=>∀x:List Int,x=l->pY (fun t=>K (.d (.str x)::t)) r
 |v::r=>pY (fun t=>K (v::t)) r
def mV (K:List R->Prop):List R->Prop
 |[]=>K []
 | .d (.af k l)::r=>∀x:List Int,x=l->mV (fun t=>K (.d (.af k x)::t)) r
 | .d (.av k l)::r=>∀x:List (List U),x=l->mV (fun t=>K (.d (.av k x)::t)) r
 | .d (.int k n)::r=>∀x:Int,x=n->mV (fun t=>K (.d (.int k x)::t)) r
 | .d (.bool b)::r=>∀x:Bool,x=b->mV (fun t=>K (.d (.bool x)::t)) r
 | .d (.str l)::r=>∀x:List Int,x=l->mV (fun t=>K (.d (.str x)::t)) r
 | .agg l::r=>pY (fun t=>mV (fun q=>K (.agg t::q)) r) l
 |v::r=>mV (fun t=>K (v::t)) r
def RF:List R->R
 |v::_=>v
 |[]=> .un
def De (K:R->Prop):R->Prop
 | .tup l=>mV (fun t=>K (.tup t)) l
 | .agg l=>mV (fun t=>K (.agg t)) l
 |v=>mV (fun t=>K (RF t)) [v]
def named (T:List R->(R->Prop)->Prop):List R->(R->Prop)->Prop:=fun args K=>T args fun r=>De K r
theorem G1:∀(l:List R) (K:List R->Prop),pY K l↔K l
 |[],_=>aps
 |v::r,K=>by
  cases v with
  |d a=>cases a<;>simp[pY,G1 r]
  |_=>simp[pY,G1 r]
theorem BT:∀(l:List R) (K:List R->Prop),mV K l↔K l
 |[],_=>aps
 |v::r,K=>by
  cases v with
  |d a=>cases a<;>simp[mV,BT r]
  |_=>simp[mV,BT r,G1]
theorem NR (K:R->Prop)(v:R):De K v↔K v:=by
 cases v<;>simp[De,BT,RF]
theorem B8 (T:List R->(R->Prop)->Prop):named T=T:=by
 funext args K
 unfold named
 congr 1
 funext r
 exact propext (NR K r)
theorem HC {T:List R->(R->Prop)->Prop}(h:lO T):lO (named T):=by rw[B8];exact h
end Go.aj
end
section
namespace Go.aj
theorem cn.fresh {N:Nat->Prop}{ρ:List Loc}{I:aF}{w w':World}(h:ct N ρ I w)(aa:w'.os=w.os)(ad:w'.tape=w.tape)(ax:w'.output=w.output)(ay:w.heap.size<=w'.heap.size)
 (ae:∀b,b<w.heap.size->w'.heap[b]? =w.heap[b]?) (f:Bool) (ob:ag) (aw:Loc) (ah:∀b,aw.bE=some b->w.heap.size<=b/\b<w'.heap.size)
 (aH:h9 (aL N (ρ++[aw]) (I++[(f,ob)])) w' (ρ++[aw]) (I++[(f,ob)]) aw ob):cn N ρ I w (ρ++[aw]) (I++[(f,ob)]) w':=by
 have cH:Fr ρ I w (ρ++[aw]) (I++[(f,ob)]) w':=by
  refine⟨aa,ad,ax,ay,fun b ah _=>ae b ah,fun b ⟨i,l,aA,aG,bR⟩=> ?_⟩;rw[ao7]at aA
  by_cases hi:i<ρ.length
  ·rw[aoB hi]at aA;rw[kH,aoA (by rw[<-h.len];omega)]at bR;exact .inl ⟨i,l,aA,aG,bR⟩
  ·rw[aoA hi]at aA
   cases aY:i-ρ.length with
   |zero=>simp[aY]at aA;subst aA;exact .inr (ah b aG).1
   |succ n=>simp[aY]at aA
 have e9:∀id,eR ρ I (ρ++[aw]) (I++[(f,ob)]) id:=fun id l az=>by
  have:=h.jW az;refine⟨by rw[apy (by rw[h.len];exact this)];exact az, ?_⟩;rw[gM,aoA (by omega)];exact⟨rfl,rfl⟩
 refine{cH with rel:=h.tc cH (by simp[h.len]) (fun _ _ _ _ id _ _=>e9 id) (fun i l az=> ?_),same:=e9};rw[ao7]at az
 by_cases hi:i<ρ.length
 ·rw[aoB hi]at az;refine .inl ⟨az,by rw[gM,aoA (by rw[<-h.len];omega)],fun ak=>by rwa [kH,aoA (by rw[<-h.len];omega)]at ak,fun b ah=> ?_⟩;exact ae b (h.lt i l b az ah)
 ·rw[aoA hi]at az
  cases aY:i-ρ.length with
  |succ n=>simp[aY]at az
  |zero=>
   simp[aY]at az;subst az;have eJ:i=I.length:=by rw[<-h.len];omega
   refine .inr ⟨fun b ajq=> ?_,by rw[eJ,gM,aoB rfl];exact aH⟩;obtain⟨cW,c9⟩:=ah b ajq;refine⟨c9,fun aB=>absurd (h.fC _ aB) (by omega),fun j cF aK ah=> ?_⟩;rw[ao7]at aK
   by_cases iI:j<ρ.length
   ·rw[aoB iI]at aK;have:=h.lt j cF _ aK ah;omega
   ·rw[aoA iI]at aK
    cases hU:j-ρ.length with
    |zero=>omega
    |succ n=>simp[hU]at aK
theorem XY {ps:List bb}{T:List R->(ag->Prop)->Prop}(h:nE T):hF (pS ps T):=by
 refine⟨fun args I K K' ae bs=> ?_,fun args I K bs=> ?_⟩
 ·unfold pS at bs⊢;split
  ·rename_i aa ad;rw[aa,ad]at bs;exact h.1 _ _ _ (fun r ao=>ae _ _ ao) bs
  ·rename_i ak;split at bs
   ·rename_i aa ad;exact(ak aa ad).elim
   ·exact bs
 ·unfold pS at bs;split at bs
  ·obtain⟨r,ao⟩:=h.2 _ _ bs;exact⟨_,_,ao⟩
  ·exact bs.elim
def isSlice:ag->Bool
 | .af ..=>true
 | .av ..=>true
 |_=>false
def Df (t:bb)(K:ag->Prop)(v:R)(I:aF):Prop:=
 match v with
 | .vec id=>(match cw I id,isSlice (ag.at I id)with|false,true=>K (ag.at I id)|_,_=>False)
 | .emp=>(match t with| .aE (.cv k)=>K (.af k [])| .aE (.ee an)=>K (.av an [])|_=>False)
 |_=>False
section
variable {P:Program}
theorem XZ (E:bD)(dO:hG P E)
 {f:FuncId} {fn:Func} {c:Code} (aT:P.funcs[f]? =some fn) (ah:fn.body=some c) (aB:(fn.name== "runtime.NumGoroutine")=false) {r:Tmp} (ao:fn.results=[ResultVar.tmp r].toArray)
 {ps:List bb} {t:bb} {T:List R->(ag->Prop)->Prop} (gV:∀args K,T args K->mP E fn.ntmps [.tmp r] c args [] (Df t K)):iC P f (pS ps T):=by
 refine⟨⟨fn,aT,by rw[ah];rfl,aB⟩, ?_⟩;intro N ρ I w args cq K h aH az aS;unfold pS at h;split at h;rotate_left
 ·exact h.elim
 rename_i aa ad;have hlen:ps.length=args.length:=by have:=aoE aa;rwa [cO,cO]at this
 obtain⟨s1,s2,k9,mE⟩:=pG args I aH;have zu:=qS I ps args hlen
 have h0:ct (aL N ρ (cD I args)) [] [] w:=
  {len:=rfl
   fC:=fun b ah=>by
    rcases ah with ah|⟨i,aw,aA,aG,_⟩
    ·exact aH.fC b ah
    ·exact aH.lt i aw b aA aG
   lt:=fun i aw b e=>by simp at e
   inj:=fun i j li cF b e=>by simp at e
   fR:=fun i aw b e=>by simp at e
   ob:=fun i aw e=>by simp at e}
 have gl:∀i,i<(bb.eV I ps args).length->bF (aL (aL N ρ (cD I args)) [] []) w [] [] ((bb.eV I ps args).getD i .un) (cq.getD i undef):=fun i hi=>by
  obtain⟨t,e⟩:=qT I ps args hlen i (by omega);have aD:=n0 ad .un i hi;rw[e]at aD⊢;have bp:=pI s1.rel s2 t aD (s1.lz (aS i (by omega))) fun id aM=>mE i id (by omega) aM;refine .ht (pH aD bp fun x u ak=>ak.mono fun b _ bm=>⟨rfl,fun dn=> ?_⟩);rcases dn with dn|⟨j,aw,aA,_⟩
  ·exact bm dn
  ·simp at aA
 refine(yu E dO aT ah ao (gV _ _ h) h0 (by omega) gl).mono ?_;rintro e w' ⟨rs,al,ρ',aI,rfl,dj,df,ae,bI,cH,gv⟩
 have ar:∀b,b<w.heap.size->w'.heap[b]? =w.heap[b]? :=fun b ah=>cH.ar b ah fun⟨i,aw,aA,_⟩=>by simp at aA
 simp only[apL,apc]at dj df⊢
 match rs,aI,dj,df with
 |[x],[u],_,_=>
 have ak:bF (aL (aL N ρ (cD I args)) ρ' al) w' ρ' al x u:=gv 0
 have fin:∀(aw:Loc) (ob:ag),ob.plain=true->(∀b,aw.bE=some b->w.heap.size<=b/\b<w'.heap.size/\aL (aL N ρ (cD I args)) ρ' al b)->h9 (aL (aL N ρ (cD I args)) ρ' al) w' ρ' al aw ob->
  K (.vec (bV (cD I args))) (eS (cD I args) [(false,ob)])->(u= .slice aw.a ob.len aw.cap/\(aw.a=none->aw.cap=0))->
  ∃r gz jX v,Ending.returned (List.getD [u] 0 undef)= .returned v/\K r gz/\cn N ρ I w jX gz w'/\bF (aL N jX gz) w' jX gz r v:=by
  intro aw ob aD lF cf fF hu
  have bm:∀b,aL N (ρ++[aw]) (cD I args++[(false,ob)]) b->aL (aL N ρ (cD I args)) ρ' al b:=fun b ah=>by
   rcases ah with ah|⟨i,l,aA,aG,bR⟩
   ·exact .inl (.inl ah)
   ·rw[ao7]at aA
    by_cases hi:i<ρ.length
    ·rw[aoB hi]at aA;rw[kH,aoA (by rw[<-s1.rel.len];omega)]at bR;exact .inl (.inr ⟨i,l,aA,aG,bR⟩)
    ·rw[aoA hi]at aA
     cases aY:i-ρ.length with
     |zero=>simp[aY]at aA;subst aA;exact(lF b aG).2.2
     |succ n=>simp[aY]at aA
  have cR:=cn.fresh s1.rel cH.os cH.tape cH.output cH.size ar false ob aw (fun b ah=>⟨(lF b ah).1,(lF b ah).2.1⟩)
   (Br aD cf (fun b _=>rfl) fun x u ak=>ak.mono fun b _ aB=>⟨rfl,fun ah=>aB (bm b ah)⟩)
  refine⟨_,_,ρ++[aw],u,rfl,fF,by rw[fZ];exact s1.trans cR, ?_⟩;rw[fZ,cO];refine .dc ⟨aw, ?_, ?_⟩
  ·rw[apQ (by rw[s1.rel.len];omega),s1.rel.len];simp
  ·rw[gM,aoB rfl];exact hu
 replace ae:Df t (fun ob=>K (.vec (bV (cD I args))) (eS (cD I args) [(false,ob)])) x al:=ae
 unfold Df at ae
 cases x with
 |vec id=>
  simp only at ae;split at ae
  ·rename_i g1 g2;obtain⟨aw,dQ,hu,Ab⟩:=ak;refine fin aw (ag.at al id) ?_ (fun b ah=> ?_) (bI.ob id aw dQ) ae ⟨hu,Ab⟩
   ·cases aH:ag.at al id<;>rw[aH]at g2<;>first|rfl|cases g2
   ·have hk:gJ ρ' al b:=⟨id,aw,dQ,ah,g1⟩;refine⟨?_,bI.lt id aw b dQ ah, .inr hk⟩;rcases cH.alive b hk with⟨i,l,aA,_⟩|h
    ·simp at aA
    ·exact h
  ·exact ae.elim
 |emp=>
  obtain⟨a,hu⟩:=ak;simp only at ae;split at ae
  ·rename_i k;exact fin ⟨a,0,none⟩ (.af k []) rfl (fun b ah=>by cases ah) (Or.inl ⟨rfl,rfl⟩) ae ⟨hu,fun _=>rfl⟩
  ·rename_i an;exact fin ⟨a,0,none⟩ (.av an []) rfl (fun b ah=>by cases ah) (Or.inl ⟨rfl,rfl⟩) ae ⟨hu,fun _=>rfl⟩
  ·exact ae.elim
 |_=>exact ae.elim
end
def mW (S:List R->Option (Prop×ag)):List R->(ag->Prop)->Prop:=fun args K=>match S args with|some (p,r)=>p/\K r|none=>False
theorem yO (S:List R->Option (Prop×ag)):nE (mW S):=by
 refine⟨fun args K K' ae h=> ?_,fun args K h=> ?_⟩
 ·unfold mW at h⊢;split
  ·rename_i he;rw[he]at h;exact⟨h.1,ae _ h.2⟩
  ·rename_i he;rw[he]at h;exact h
 ·unfold mW at h;split at h
  ·exact⟨_,h.2⟩
  ·exact h.elim
def Dg (K:ag->Prop):ag->Prop
 | .af k l=>∀x:List Int,x=l->K (.af k x)
 | .av k l=>∀x:List (List U),x=l->K (.av k x)
 |o=>K o
def Dh (T:List R->(ag->Prop)->Prop):List R->(ag->Prop)->Prop:=fun args K=>T args fun r=>Dg K r
theorem OG (T:List R->(ag->Prop)->Prop):Dh T=T:=by
 funext args K
 unfold Dh
 congr 1
 funext r
 exact propext (by cases r<;>simp[Dg])
theorem aaf {T:List R->(ag->Prop)->Prop}(h:nE T):nE (Dh T):=by rw[OG];exact h
end Go.aj
end
section
namespace Go.aj
def uH (ps:List bb)(T:List R->(ag->Prop)->Prop):gA:=fun args I K=>
 match Nat.beq (bV ps) (bV args),ef R.plain (bb.eV I ps args)with
 |true,true=>T (bb.eV I ps args) fun ob=>K (.ptr (bV (cD I args)) 0) (eS (cD I args) [(false,ob)])
 |_,_=>False
theorem aag {ps:List bb}{T:List R->(ag->Prop)->Prop}(h:nE T):hF (uH ps T):=by
 refine⟨fun args I K K' ae bs=> ?_,fun args I K bs=> ?_⟩
 ·unfold uH at bs⊢;split
  ·rename_i aa ad;rw[aa,ad]at bs;exact h.1 _ _ _ (fun r ao=>ae _ _ ao) bs
  ·rename_i ak;split at bs
   ·rename_i aa ad;exact(ak aa ad).elim
   ·exact bs
 ·unfold uH at bs;split at bs
  ·obtain⟨r,ao⟩:=h.2 _ _ bs;exact⟨_,_,ao⟩
  ·exact bs.elim
def EA (K:ag->Prop)(v:R)(I:aF):Prop:=
 match v with
 | .ptr id off=>(match Nat.beq off 0,cw I id,(ag.at I id).plain with|true,false,true=>K (ag.at I id)|_,_,_=>False)
 |_=>False
section
variable {P:Program}
theorem aah (E:bD)(dO:hG P E)
 {f:FuncId} {fn:Func} {c:Code} (aT:P.funcs[f]? =some fn) (ah:fn.body=some c) (aB:(fn.name== "runtime.NumGoroutine")=false) {r:Tmp} (ao:fn.results=[ResultVar.tmp r].toArray)
 {ps:List bb} {T:List R->(ag->Prop)->Prop} (gV:∀args K,T args K->mP E fn.ntmps [.tmp r] c args [] (EA K)):iC P f (uH ps T):=by
 refine⟨⟨fn,aT,by rw[ah];rfl,aB⟩, ?_⟩;intro N ρ I w args cq K h aH az aS;unfold uH at h;split at h;rotate_left
 ·exact h.elim
 rename_i aa ad;have hlen:ps.length=args.length:=by have:=aoE aa;rwa [cO,cO]at this
 obtain⟨s1,s2,k9,mE⟩:=pG args I aH;have zu:=qS I ps args hlen
 have h0:ct (aL N ρ (cD I args)) [] [] w:=
  {len:=rfl
   fC:=fun b ah=>by
    rcases ah with ah|⟨i,aw,aA,aG,_⟩
    ·exact aH.fC b ah
    ·exact aH.lt i aw b aA aG
   lt:=fun i aw b e=>by simp at e
   inj:=fun i j li cF b e=>by simp at e
   fR:=fun i aw b e=>by simp at e
   ob:=fun i aw e=>by simp at e}
 have gl:∀i,i<(bb.eV I ps args).length->bF (aL (aL N ρ (cD I args)) [] []) w [] [] ((bb.eV I ps args).getD i .un) (cq.getD i undef):=fun i hi=>by
  obtain⟨t,e⟩:=qT I ps args hlen i (by omega);have aD:=n0 ad .un i hi;rw[e]at aD⊢;have bp:=pI s1.rel s2 t aD (s1.lz (aS i (by omega))) fun id aM=>mE i id (by omega) aM;refine .ht (pH aD bp fun x u ak=>ak.mono fun b _ bm=>⟨rfl,fun dn=> ?_⟩);rcases dn with dn|⟨j,aw,aA,_⟩
  ·exact bm dn
  ·simp at aA
 refine(yu E dO aT ah ao (gV _ _ h) h0 (by omega) gl).mono ?_;rintro e w' ⟨rs,al,ρ',aI,rfl,dj,df,ae,bI,cH,gv⟩
 have ar:∀b,b<w.heap.size->w'.heap[b]? =w.heap[b]? :=fun b ah=>cH.ar b ah fun⟨i,aw,aA,_⟩=>by simp at aA
 simp only[apL,apc]at dj df⊢
 match rs,aI,dj,df with
 |[x],[u],_,_=>
 have ak:bF (aL (aL N ρ (cD I args)) ρ' al) w' ρ' al x u:=gv 0
 have fin:∀(aw:Loc) (ob:ag),ob.plain=true->(∀b,aw.bE=some b->w.heap.size<=b/\b<w'.heap.size/\aL (aL N ρ (cD I args)) ρ' al b)->h9 (aL (aL N ρ (cD I args)) ρ' al) w' ρ' al aw ob->
  K (.ptr (bV (cD I args)) 0) (eS (cD I args) [(false,ob)])->(∃b,aw.a=some ⟨b,0,none⟩/\aw.bE=some b/\u= .pointer (some ⟨b,0,none⟩))->
  ∃r gz jX v,Ending.returned (List.getD [u] 0 undef)= .returned v/\K r gz/\cn N ρ I w jX gz w'/\bF (aL N jX gz) w' jX gz r v:=by
  intro aw ob aD lF cf fF hu
  have bm:∀b,aL N (ρ++[aw]) (cD I args++[(false,ob)]) b->aL (aL N ρ (cD I args)) ρ' al b:=fun b ah=>by
   rcases ah with ah|⟨i,l,aA,aG,bR⟩
   ·exact .inl (.inl ah)
   ·rw[ao7]at aA
    by_cases hi:i<ρ.length
    ·rw[aoB hi]at aA;rw[kH,aoA (by rw[<-s1.rel.len];omega)]at bR;exact .inl (.inr ⟨i,l,aA,aG,bR⟩)
    ·rw[aoA hi]at aA
     cases aY:i-ρ.length with
     |zero=>simp[aY]at aA;subst aA;exact(lF b aG).2.2
     |succ n=>simp[aY]at aA
  have cR:=cn.fresh s1.rel cH.os cH.tape cH.output cH.size ar false ob aw (fun b ah=>⟨(lF b ah).1,(lF b ah).2.1⟩)
   (Br aD cf (fun b _=>rfl) fun x u ak=>ak.mono fun b _ aB=>⟨rfl,fun ah=>aB (bm b ah)⟩)
  refine⟨_,_,ρ++[aw],u,rfl,fF,by rw[fZ];exact s1.trans cR, ?_⟩;rw[fZ,cO];obtain⟨b,kz,lg,ej⟩:=hu;refine .dc ⟨aw,b, ?_,kz,lg,ej⟩;rw[apQ (by rw[s1.rel.len];omega),s1.rel.len];simp
 replace ae:EA (fun ob=>K (.ptr (bV (cD I args)) 0) (eS (cD I args) [(false,ob)])) x al:=ae
 unfold EA at ae
 cases x with
 |ptr id off=>
  simp only at ae;split at ae
  ·rename_i g1 g2 g3;obtain rfl:=aoE g1;obtain⟨aw,b9,dQ,aS,tq,hu⟩:=ak;refine fin aw (ag.at al id) ?_ (fun b ah=> ?_) (bI.ob id aw dQ) ae ⟨b9,aS,tq,hu⟩
   ·exact g3
   ·have hk:gJ ρ' al b:=⟨id,aw,dQ,ah,g2⟩;refine⟨?_,bI.lt id aw b dQ ah, .inr hk⟩;rcases cH.alive b hk with⟨i,l,aA,_⟩|h
    ·simp at aA
    ·exact h
  ·exact ae.elim
 |_=>exact ae.elim
end
def CI (K:ag->Prop):ag->Prop
 | .cells l=>mV (fun t=>K (.cells t)) l
 | .af k l=>∀x:List Int,x=l->K (.af k x)
 | .av k l=>∀x:List (List U),x=l->K (.av k x)
 | .map a b c=>K (.map a b c)
 | .dead a b=>K (.dead a b)
 | .gone=>K .gone
theorem Nk (K:ag->Prop)(o:ag):CI K o↔K o:=by
 cases o<;>simp[CI,BT]
def Di (T:List R->(ag->Prop)->Prop):List R->(ag->Prop)->Prop:=fun args K=>T args fun r=>CI K r
theorem OH (T:List R->(ag->Prop)->Prop):Di T=T:=by
 funext args K
 unfold Di
 congr 1
 funext r
 exact propext (Nk K r)
theorem aai {T:List R->(ag->Prop)->Prop}(h:nE T):nE (Di T):=by rw[OH];exact h
def zi (T:R->ag->List R->(ag->R->Prop)->Prop):R->ag->List R->(ag->R->Prop)->Prop:=fun a o args K=>T a o args fun cg r=>CI (fun ajr=>De (fun l0=>K ajr l0) r) cg
theorem Hf (T:R->ag->List R->(ag->R->Prop)->Prop):zi T=T:=by
 funext a o args K
 unfold zi
 congr 1
 funext cg r
 exact propext ((Nk _ cg).trans (NR _ r))
theorem OI {T:R->ag->List R->(ag->R->Prop)->Prop}(h:kr T):kr (zi T):=by rw[Hf];exact h
end Go.aj
end
section
namespace Go.aj
theorem YL {ps:List bb}{T:List R->(R->Prop)->Prop}(h:lO T):hF (nq ps T):=by
 refine⟨fun args I K K' ae bs=> ?_,fun args I K bs=> ?_⟩
 ·unfold nq at bs⊢;split
  ·rename_i aa ad;rw[aa,ad]at bs;exact h.1 _ _ _ (fun r ao=>ae _ _ ao) bs
  ·rename_i ak;split at bs
   ·rename_i aa ad;exact(ak aa ad).elim
   ·exact bs
 ·unfold nq at bs;split at bs
  ·obtain⟨r,ao⟩:=h.2 _ _ bs;exact⟨_,_,ao⟩
  ·exact bs.elim
def zv:R->Bool
 | .d (.int _ _)=>true
 | .d (.bool _)=>true
 | .d (.str _)=>true
 | .bt=>true
 | .bf=>true
 |_=>false
def uP:R->R
 | .bt=> .d (.bool true)
 | .bf=> .d (.bool false)
 |v=>v
def Sf:R->Bool
 | .tup l=>ef zv l
 |v=>zv v
def Sg:R->R
 | .tup l=> .tup (bz uP l)
 |v=>uP v
def Iw (K:R->Prop)(v:R)(_:aF):Prop:=match Sf v with|true=>K (Sg v)|false=>False
theorem yv {Z Z':Nat->Prop}{w w':World}{ρ ρ':List Loc}{I al:aF}{v:R}{u:Value}(ay:zv v=true)(h:bF Z w ρ I v u):eE Z' w' ρ' al (uP v) u:=by
 cases v with
 |d x=>
  cases x with
  |int k n=>have h:bA Z w _ u:=h;cases h;exact bA.int _ _
  |bool b=>have h:bA Z w _ u:=h;cases h;exact bA.bool _
  |str l=>have h:bA Z w _ u:=h;cases h;rename_i s e;exact bA.str _ _ e
  |_=>cases ay
 |bt=>have h:u= .bool true:=h;subst h;exact bA.bool _
 |bf=>have h:u= .bool false:=h;subst h;exact bA.bool _
 |_=>cases ay
section
variable {P:Program}
theorem YM (E:bD)(dO:hG P E)
 {f:FuncId} {fn:Func} {c:Code} (aT:P.funcs[f]? =some fn) (ah:fn.body=some c) (aB:(fn.name== "runtime.NumGoroutine")=false) {rvs:List ResultVar} (ao:fn.results=rvs.toArray)
 {ps:List bb} {T:List R->(R->Prop)->Prop} (gV:∀args K,T args K->mP E fn.ntmps rvs c args [] (Iw K)):iC P f (nq ps T):=by
 refine⟨⟨fn,aT,by rw[ah];rfl,aB⟩, ?_⟩;intro N ρ I w args cq K h aH az aS;unfold nq at h;split at h;rotate_left
 ·exact h.elim
 rename_i aa ad;have hlen:ps.length=args.length:=by have:=aoE aa;rwa [cO,cO]at this
 obtain⟨s1,s2,k9,mE⟩:=pG args I aH;have zu:=qS I ps args hlen
 have h0:ct (aL N ρ (cD I args)) [] [] w:=
  {len:=rfl
   fC:=fun b ah=>by
    rcases ah with ah|⟨i,aw,aA,aG,_⟩
    ·exact aH.fC b ah
    ·exact aH.lt i aw b aA aG
   lt:=fun i aw b e=>by simp at e
   inj:=fun i j li cF b e=>by simp at e
   fR:=fun i aw b e=>by simp at e
   ob:=fun i aw e=>by simp at e}
 have gl:∀i,i<(bb.eV I ps args).length->bF (aL (aL N ρ (cD I args)) [] []) w [] [] ((bb.eV I ps args).getD i .un) (cq.getD i undef):=fun i hi=>by
  obtain⟨t,e⟩:=qT I ps args hlen i (by omega);have aD:=n0 ad .un i hi;rw[e]at aD⊢;have bp:=pI s1.rel s2 t aD (s1.lz (aS i (by omega))) fun id aM=>mE i id (by omega) aM;refine .ht (pH aD bp fun x u ak=>ak.mono fun b _ bm=>⟨rfl,fun dn=> ?_⟩);rcases dn with dn|⟨j,aw,aA,_⟩
  ·exact bm dn
  ·simp at aA
 refine(yu E dO aT ah ao (gV _ _ h) h0 (by omega) gl).mono ?_;rintro e w' ⟨rs,al,ρ',aI,rfl,dj,df,ae,bI,cH,gv⟩;have hold:cn N ρ I w ρ I w':=cn.more aH cH.os cH.tape cH.output cH.size fun b ah=>cH.ar b ah fun⟨i,aw,aA,_⟩=>by simp at aA
 unfold Iw at ae;split at ae;rotate_left
 ·exact ae.elim
 rename_i lT;refine⟨_,_,ρ,_,rfl,ae,hold, ?_⟩
 by_cases aa:rvs.length=1
 ·rw[aoB aa]
  match rs,aI,(by omega:rs.length=1),(by omega:aI.length=1)with
  |[x],[u],_,_=>
   have ak:bF _ w' ρ' al x u:=gv 0;have lT:Sf x=true:=lT;show bF _ w' ρ I (Sg x) u
   cases x with
   |tup l=>
    obtain⟨a,rfl,g1,g2⟩:=ak;have lT:ef zv l=true:=lT;refine⟨a,rfl,by rw[dP];simpa using g1,fun i hi=> ?_⟩;have hi:i<l.length:=by rw[dP]at hi;simpa using hi
    have:=yv (Z':=aL N ρ I) (w':=w') (ρ':=ρ) (al:=I) (n0 lT .un i hi) (.ht (g2 i hi));have hO:(bz uP l).getD i .un=uP (l.getD i .un):=by rw[dP];simp[aoC,hi]
    rw[hO];exact .dc this
   |d y=>exact .dc (yv (v:= .d y) lT ak)
   |bt=>exact .dc (yv (v:= .bt) rfl ak)
   |bf=>exact .dc (yv (v:= .bf) rfl ak)
   |_=>cases lT
 ·rw[aoA aa]
  have aA:one rs= .tup rs:=by
   match rs,dj with
   |[],_=>rfl
   |[x],dj=>exact absurd dj.symm aa
   |_::_::_,_=>rfl
  rw[aA]at lT⊢;have lT:ef zv rs=true:=lT;refine⟨aI.toArray,rfl,by rw[dP];simp;omega,fun i hi=> ?_⟩;have hi:i<rs.length:=by rw[dP]at hi;simpa using hi
  have aD:=n0 lT .un i hi;have:=yv (Z':=aL N ρ I) (w':=w') (ρ':=ρ) (al:=I) aD (gv i);have cY:aI.toArray.getD i undef=aI.getD i undef:=by simp[aoJ,aoC]
  have hO:(bz uP rs).getD i .un=uP (rs.getD i .un):=by rw[dP];simp[aoC,hi]
  rw[cY,hO];exact .dc this
end
end Go.aj
namespace Go.aj
theorem aaj {T:List R->(R->Prop)->Prop}(h:lO T):lO (named T):=HC h
def lB {ι:Type}(S:R->ag->List R->Option (Prop×(ι->Prop)×(ι->ag)×(ι->R))):R->ag->List R->(ag->R->Prop)->Prop:=fun a o args K=>match S a o args with|some (p,bC,f,g)=>p/\∀i,bC i->K (f i) (g i)|none=>False
theorem yF {ι:Type}(S:R->ag->List R->Option (Prop×(ι->Prop)×(ι->ag)×(ι->R)))(h:∀a o args p bC f g,S a o args=some (p,bC,f,g)->p->∃i,bC i):kr (lB S):=by
 refine⟨fun a o args K K' ae bs=> ?_,fun a o args K bs=> ?_⟩
 ·unfold lB at bs⊢;split
  ·rename_i he;rw[he]at bs;exact⟨bs.1,fun i hi=>ae _ _ (bs.2 i hi)⟩
  ·rename_i he;rw[he]at bs;exact bs
 ·unfold lB at bs;split at bs
  ·rename_i he;obtain⟨i,hi⟩:=h _ _ _ _ _ _ _ he bs.1;exact⟨_,_,bs.2 i hi⟩
  ·exact bs.elim
end Go.aj
end
section
namespace Go.aj
def uA (ps:List bb)(T:ag->List R->(ag->Prop)->Prop):gA:=fun args I K=>
 match args with
 | .vec id::bQ=>
  match cw (cD I bQ) id,ag.at I id,Nat.beq (bV ps) (bV bQ),ef R.plain (bb.eV I ps bQ)with
  |false, .av an l,true,true=>T (.av an l) (bb.eV I ps bQ) fun ob=>K (.vec (bV I)) (eS (c0 (cD I bQ) id (true, .dead l.length an)) [(false,ob)])
  |_,_,_,_=>False
 |_=>False
def xN (T:ag->List R->(ag->Prop)->Prop):Prop:=
 (∀o args (K K':ag->Prop),(∀r,K r->K' r)->T o args K->T o args K')/\∀o args K,T o args K->∃r,K r
theorem YN {ps:List bb}{T:ag->List R->(ag->Prop)->Prop}(h:xN T):hF (uA ps T):=by
 refine⟨fun args I K K' ae bs=> ?_,fun args I K bs=> ?_⟩
 ·unfold uA at bs⊢;split
  ·rename_i id bQ;simp only at bs⊢;split
   ·rename_i an l aa ad ax aV;rw[aa,ad,ax,aV]at bs;exact h.1 _ _ _ _ (fun r ao=>ae _ _ ao) bs
   ·rename_i ak;split at bs
    ·rename_i an l aa ad ax aV;exact(ak an l aa ad ax aV).elim
    ·exact bs
  ·rename_i ak;split at bs
   ·exact(ak _ _ rfl).elim
   ·exact bs
 ·unfold uA at bs;split at bs
  ·split at bs
   ·obtain⟨r,ao⟩:=h.2 _ _ _ bs;exact⟨_,_,ao⟩
   ·exact bs.elim
  ·exact bs.elim
def D9 (K:ag->Prop)(v:R)(I:aF):Prop:=
 match v with
 | .vec j=>(match cw I j,ag.at I j with|false, .av an l=>K (.av an l)|_,_=>False)
 |_=>False
section
variable {P:Program}
theorem YO (E:bD)(dO:hG P E)
 {f:FuncId} {fn:Func} {c:Code} (aT:P.funcs[f]? =some fn) (ah:fn.body=some c) (aB:(fn.name== "runtime.NumGoroutine")=false) {r:Tmp} (ao:fn.results=[ResultVar.tmp r].toArray)
 {ps:List bb} {T:ag->List R->(ag->Prop)->Prop} (gV:∀an l args K,T (.av an l) args K->mP E fn.ntmps [.tmp r] c (.vec 0::args) [(false, .av an l)] (D9 K)):iC P f (uA ps T):=by
 refine⟨⟨fn,aT,by rw[ah];rfl,aB⟩, ?_⟩;intro N ρ I w args cq K h aH az aS;unfold uA at h;split at h;rotate_left
 ·exact h.elim
 rename_i id bQ;split at h;rotate_left
 ·exact h.elim
 rename_i an l aa ad ax aV;have hlen:ps.length=bQ.length:=by have:=aoE ax;rwa [cO,cO]at this
 obtain⟨s1,s2,k9,mE⟩:=pG bQ I aH;have gp:(cD I bQ).length=I.length:=by rw[<-s1.rel.len,aH.len]
 generalize Sh:cD I bQ=c1 at*
 have rr:id<c1.length:=by
  rcases aqg id c1.length with h|h
  ·exact h
  ·rw[Rt _ _ h]at aa;cases aa
 have Iu:id<ρ.length:=by rw[s1.rel.len];exact rr
 have dQ:ρ[id]? =some ρ[id]:=by simp[Iu]
 have zJ:ag.at c1 id= .av an l:=by rw[s2,ad]
 have zu:=qS I ps bQ hlen;have Fk:bF (aL N ρ I) w ρ I (.vec id) (cq.getD 0 undef):=by simpa using aS 0 (by simp)
 have zL:=s1.lz Fk;have nx:=s1.rel.ob id _ dQ;rw[zJ]at nx
 have iV:∀b,ρ[id].bE=some b->aL N ρ c1 b:=fun b ah=> .inr ⟨id,ρ[id],dQ,ah,aa⟩
 have zr:∀b,aL (fun b=>aL N ρ c1 b/\ρ[id].bE≠some b) [ρ[id]] [(false, .av an l)] b->aL N ρ c1 b:=fun b ah=>by
  rcases ah with ah|⟨i,aw,aA,aG,_⟩
  ·exact ah.1
  ·cases i with
   |zero=>simp at aA;subst aA;exact iV b aG
   |succ i=>simp at aA
 have uG:∀x u,bA (aL N ρ c1) w x u->bA (aL (fun b=>aL N ρ c1 b/\ρ[id].bE≠some b) [ρ[id]] [(false, .av an l)]) w x u:=
  fun x u ak=>ak.mono fun b _ bm=>⟨rfl,fun dn=>bm (zr b dn)⟩
 have h0:ct (fun b=>aL N ρ c1 b/\ρ[id].bE≠some b) [ρ[id]] [(false, .av an l)] w:=
  {len:=rfl
   fC:=fun b ah=>by
    rcases ah.1 with ah|⟨i,aw,aA,aG,_⟩
    ·exact aH.fC b ah
    ·exact aH.lt i aw b aA aG
   lt:=fun i aw b aA aG=>by
    cases i with
    |zero=>simp at aA;subst aA;exact aH.lt id _ b dQ aG
    |succ i=>simp at aA
   inj:=fun i j li cF b aA aG _ _ _ _=>by
    cases i with
    |zero=>cases j with
     |zero=>rfl
     |succ j=>simp at aG
    |succ i=>simp at aA
   fR:=fun i aw b aA aG ah=>by
    cases i with
    |zero=>simp at aA;subst aA;exact ah.2 aG
    |succ i=>simp at aA
   ob:=fun i aw aA=>by
    cases i with
    |zero=>simp at aA;subst aA;exact Br (ob:= .av an l) rfl nx (fun _ _=>rfl) uG
    |succ i=>simp at aA}
 have gl:∀i,i<(R.vec 0::bb.eV I ps bQ).length->bF (aL (fun b=>aL N ρ c1 b/\ρ[id].bE≠some b) [ρ[id]] [(false, .av an l)]) w [ρ[id]] [(false, .av an l)] ((R.vec 0::bb.eV I ps bQ).getD i .un) (cq.getD i undef):=fun i hi=>by
  cases i with
  |zero=>
   obtain⟨aw,aA,aG,qy⟩:=zL;rw[dQ]at aA;obtain rfl:=aoL aA;exact .dc ⟨ρ[id],rfl,by rw[aG,zJ];rfl,qy⟩
  |succ i=>
   have hi:i<(bb.eV I ps bQ).length:=by simpa using hi
   obtain⟨t,e⟩:=qT I ps bQ hlen i (by omega);have aD:=n0 aV .un i hi;have vr:=s1.lz (aS (i+1) (by simp;omega));simp only[List.getD_cons_succ]at vr⊢;rw[e]at aD⊢;exact .ht (pH aD (pI s1.rel s2 t aD vr fun j aM=>mE i j (by omega) aM) uG)
 refine(yu E dO aT ah ao (gV _ _ _ _ h) h0 (by simp at az⊢;omega) gl).mono ?_;rintro e w' ⟨rs,al,ρ',aI,rfl,dj,df,ae,bI,cH,gv⟩;simp only[apL,apc]at dj df⊢
 match rs,aI,dj,df with
 |[x],[u],fS,gi=>
 clear fS gi;have ak:bF (aL (fun b=>aL N ρ c1 b/\ρ[id].bE≠some b) ρ' al) w' ρ' al x u:=gv 0
 replace ae:D9 (fun ob=>K (.vec (bV I)) (eS (c0 c1 id (true, .dead l.length an)) [(false,ob)])) x al:=ae
 unfold D9 at ae
 have aK:∃j,x= .vec j:=by cases x<;>first|exact⟨_,rfl⟩|exact ae.elim
 obtain⟨j,rfl⟩:=aK;simp only at ae;split at ae;rotate_left
 ·exact ae.elim
 rename_i ib cy g1 g2;obtain⟨cF,kp,hu,Ab⟩:=ak;rw[g2]at hu;have SL:=bI.ob j cF kp;rw[g2]at SL
 have xn:∃mG:Loc,mG.a=cF.a/\mG.cap=cF.cap/\(∀b,mG.bE=some b->(ρ[id].bE=some b\/w.heap.size<=b)/\b<w'.heap.size/\aL (fun b=>aL N ρ c1 b/\ρ[id].bE≠some b) ρ' al b)/\
  ∀Z' dN m0,(∀x u,bA (aL (fun b=>aL N ρ c1 b/\ρ[id].bE≠some b) ρ' al) w' x u->bA Z' w' x u)->h9 Z' w' dN m0 mG (.av ib cy):=by
  rcases SL with⟨q1,cI⟩|⟨b,aI,e,a7,bl,bH,dJ,eZ,k8,gE⟩
  ·exact⟨⟨cF.a,cF.cap,none⟩,rfl,rfl,fun b ah=>(by cases ah),fun Z' dN m0 _=> .inl ⟨q1,cI⟩⟩
  ·have hk:gJ ρ' al b:=⟨j,cF,kp,bl,g1⟩;refine⟨cF,rfl,rfl,fun c9 et=> ?_,fun Z' dN m0 ao=> .inr ⟨b,aI,e,a7,bl,bH,dJ,eZ,k8,fun q c aZ aC=> ?_⟩⟩
   ·rw[bl]at et;obtain rfl:=aoL et;refine⟨?_,bI.lt j cF b kp bl, .inr hk⟩;rcases cH.alive b hk with⟨i,li,aA,aG,_⟩|h
    ·cases i with
     |zero=>simp at aA;subst aA;exact .inl aG
     |succ i=>simp at aA
    ·exact .inr h
   ·obtain⟨v,aM,qj⟩:=gE q c aZ aC;exact⟨v,aM,ao _ _ qj⟩
 obtain⟨mG,FX,UP,zO,aju⟩:=xn;have Si:=s1.rel.len
 have cK:∀i,ag.at (c1.set id (true, .dead l.length an)++[(false, .av ib cy)]) i=if i=c1.length then .av ib cy else if i=id then .dead l.length an else ag.at c1 i:=fun i=>by
  rw[gM,aoT];split
  ·rfl
  ·rw[gN]
   by_cases e:i=id
   ·subst e;rw[aoB ⟨rfl,rr⟩,aoB rfl]
   ·rw[aoA (fun x=>e x.1.symm),aoA e]
 have en:∀i,cw (c1.set id (true, .dead l.length an)++[(false, .av ib cy)]) i=if i=c1.length then false else if i=id then true else cw c1 i:=fun i=>by
  rw[kH,aoT];split
  ·rfl
  ·rw[ir]
   by_cases e:i=id
   ·subst e;rw[aoB ⟨rfl,rr⟩,aoB rfl]
   ·rw[aoA (fun x=>e x.1.symm),aoA e]
 have get:∀i li,(ρ++[mG])[i]? =some li->(i=c1.length/\li=mG)\/(i<c1.length/\ρ[i]? =some li):=fun i li hi=>by
  rw[ao7]at hi;split at hi
  ·exact .inr ⟨by omega,hi⟩
  ·cases aY:i-ρ.length with
   |zero=>simp[aY]at hi;exact .inl ⟨by omega,hi.symm⟩
   |succ m=>simp[aY]at hi
 have sV:∀i,i<c1.length->¬hq (c1.set id (true, .dead l.length an)++[(false, .av ib cy)]) i->i≠id/\¬hq c1 i:=fun i hi ay=>by
  have cT:i≠id:=fun e=>ay ⟨by rw[en,aoA (by omega),aoB e],l.length,an,by rw[cK,aoA (by omega),aoB e]⟩;exact⟨cT,fun⟨f,m,s,e⟩=>ay ⟨by rw[en,aoA (by omega),aoA cT];exact f,m,s,by rw[cK,aoA (by omega),aoA cT];exact e⟩⟩
 have apart:∀i li b,i<c1.length->i≠id->¬hq c1 i->ρ[i]? =some li->li.bE=some b->ρ[id].bE≠some b:=fun i li b _ cT ay hi ah et=>cT (s1.rel.inj i id li _ b hi dQ ah et ay (nY aa))
 have CH:∀b,gJ (ρ++[mG]) (c1.set id (true, .dead l.length an)++[(false, .av ib cy)]) b->gJ ρ c1 b\/w.heap.size<=b:=fun b ⟨i,li,a7,bl,bH⟩=>by
  rcases get i li a7 with⟨rfl,rfl⟩|⟨hi,a7⟩
  ·rcases(zO b bl).1 with ah|ah
   ·exact .inl ⟨id,_,dQ,ah,aa⟩
   ·exact .inr ah
  ·rw[en,aoA (by omega)]at bH;split at bH
   ·cases bH
   ·exact .inl ⟨i,li,a7,bl,bH⟩
 have sT:∀x,x<w.heap.size->ρ[id].bE≠some x->w'.heap[x]? =w.heap[x]? :=fun x ak cT=>cH.ar x ak fun⟨i,li,a7,bl,_⟩=>by
  cases i with
  |zero=>simp at a7;subst a7;exact cT bl
  |succ i=>simp at a7
 have oj:Fr ρ c1 w (ρ++[mG]) (c1.set id (true, .dead l.length an)++[(false, .av ib cy)]) w':=
  ⟨cH.os,cH.tape,cH.output,cH.size,fun x ak xM=>sT x ak fun ah=>xM ⟨id,_,dQ,ah,aa⟩,CH⟩
 have e9:∀i,eR ρ c1 (ρ++[mG]) (c1.set id (true, .dead l.length an)++[(false, .av ib cy)]) i:=fun i li hi=>by
  have eJ:=s1.rel.jW hi;refine⟨by rw[apy (by omega)];exact hi, ?_⟩;rw[cK,aoA (by omega)]
  by_cases e:i=id
  ·subst e;rw[aoB rfl,zJ];exact⟨rfl,rfl⟩
  ·rw[aoA e];exact⟨rfl,rfl⟩
 have na:∀b,aL N (ρ++[mG]) (c1.set id (true, .dead l.length an)++[(false, .av ib cy)]) b->aL (fun b=>aL N ρ c1 b/\ρ[id].bE≠some b) ρ' al b:=fun b ah=>by
  rcases ah with ah|⟨i,li,a7,bl,bH⟩
  ·exact .inl ⟨.inl ah,fun e=>aH.fR id _ b dQ e ah⟩
  ·rcases get i li a7 with⟨rfl,rfl⟩|⟨hi,a7⟩
   ·exact(zO b bl).2.2
   ·rw[en,aoA (by omega)]at bH;split at bH
    ·cases bH
    ·rename_i cT;exact .inl ⟨.inr ⟨i,li,a7,bl,bH⟩,apart i li b hi cT (nY bH) a7 bl⟩
 have Iv:ct N (ρ++[mG]) (c1.set id (true, .dead l.length an)++[(false, .av ib cy)]) w':=
  {len:=by simp[Si]
   fC:=fun b ah=>aoZ (aH.fC b ah) cH.size
   lt:=fun i li b hi ah=>by
    rcases get i li hi with⟨_,rfl⟩|⟨_,hi⟩
    ·exact(zO b ah).2.1
    ·exact aoZ (aH.lt i li b hi ah) cH.size
   inj:=fun i j li cF b hi aK m8 m9 j8 lY=>by
    have one:∀j cF,j<c1.length->ρ[j]? =some cF->cF.bE=some b->mG.bE=some b->¬hq (c1.set id (true, .dead l.length an)++[(false, .av ib cy)]) j->False:=fun j cF kq nC m9 E_ lY=>by
     obtain⟨eY,hy⟩:=sV j kq lY;rcases(zO b E_).1 with ah|ah
     ·exact apart j cF b kq eY hy nC m9 ah
     ·have:=aH.lt j cF b nC m9;omega
    rcases get i li hi with⟨aA,Jr⟩|⟨m_,xB⟩<;>rcases get j cF aK with⟨aG,Js⟩|⟨kq,nC⟩
    ·omega
    ·exact(one j cF kq nC m9 (Jr▸m8) lY).elim
    ·exact(one i li m_ xB m8 (Js▸m9) j8).elim
    ·exact s1.rel.inj i j li cF b xB nC m8 m9 (sV i m_ j8).2 (sV j kq lY).2
   fR:=fun i li b hi ah hn=>by
    rcases get i li hi with⟨_,rfl⟩|⟨_,hi⟩
    ·rcases(zO b ah).1 with ah|ah
     ·exact aH.fR id _ b dQ ah hn
     ·have:=aH.fC b hn;omega
    ·exact aH.fR i li b hi ah hn
   ob:=fun i li hi=>by
    rw[cK];rcases get i li hi with⟨rfl,rfl⟩|⟨m_,hi⟩
    ·rw[aoB rfl];exact aju _ _ _ fun x u ak=>ak.mono fun y _ bm=>⟨rfl,fun dn=>bm (na y dn)⟩
    ·rw[aoA (by omega)];split
     ·trivial
     ·rename_i cT
      by_cases sp:hq c1 i
      ·obtain⟨_,m,s,e⟩:=sp;rw[e];trivial
      ·exact(s1.rel.ob i li hi).mono (fun b ah=>sT b (aH.lt i li b hi ah) (apart i li b m_ cT sp hi ah)) (fun _ _=>oj.reads) fun _ _ _ idx _ _=>e9 idx}
 refine⟨_,_,ρ++[mG],u,rfl,ae,s1.trans ?_, ?_⟩
 ·rw[e2,fZ];exact{oj with rel:=Iv,same:=e9}
 ·rw[e2,fZ,cO,<-gp];refine .dc ⟨mG,by rw[<-Si];simp, ?_,fun h=>by rw[UP];exact Ab (by rw[<-FX];exact h)⟩;rw[cK,aoB rfl,hu,FX,UP]
end
def xe (S:ag->List R->Option (Prop×ag)):ag->List R->(ag->Prop)->Prop:=fun o args K=>match S o args with|some (p,r)=>p/\K r|none=>False
theorem abH (S:ag->List R->Option (Prop×ag)):xN (xe S):=by
 refine⟨fun o args K K' ae h=> ?_,fun o args K h=> ?_⟩
 ·unfold xe at h⊢;split
  ·rename_i he;rw[he]at h;exact⟨h.1,ae _ h.2⟩
  ·rename_i he;rw[he]at h;exact h
 ·unfold xe at h;split at h
  ·exact⟨_,h.2⟩
  ·exact h.elim
def DA (T:ag->List R->(ag->Prop)->Prop):ag->List R->(ag->Prop)->Prop:=fun o args K=>T o args fun r=>Dg K r
theorem OJ (T:ag->List R->(ag->Prop)->Prop):DA T=T:=by
 funext o args K
 unfold DA
 congr 1
 funext r
 exact propext (by cases r<;>simp[Dg])
theorem aak {T:ag->List R->(ag->Prop)->Prop}(h:xN T):xN (DA T):=by rw[OJ];exact h
end Go.aj
end
section
namespace List
def aR {α:Type}(l:List (List α))(i:Int):List α:=l.getD i.toNat []
def fs (r:List Go.aj.U):Go.aj.U:=r.getD 8 .undef
def eK (r:List Go.aj.U):Go.aj.U:=r.getD 9 .undef
def eL (r:List Go.aj.U):Go.aj.U:=r.getD 10 .undef
end List
namespace Go.aj
theorem cd {a b:Nat}(h:Nat.beq a b=true):a=b:=aoE h
def ai (n:Int):Int:=IntKind.wrap .i64 n
def aW (n:Int):Int:=IntKind.wrap .u64 n
def bY (n:Int):Int:=IntKind.wrap .u32 n
def aP {α:Type}(l:List α):Int:=(Nat.cast:Nat->Int) (List.length l)
theorem ajv {T:List R->(R->Prop)->Prop}{f:List R}(i:∀{a K},T a K->a=f){M:List R->(R->Prop)->Prop}(H:∀K,T f K->M f K)(a)(K)(h:T a K):M a K:=by
 obtain rfl:=i h;exact H K h
theorem gC {α:Type}{T:List R->(R->Prop)->Prop}{f:α->List R}(i:∀{a K},T a K->∃cl,a=(f cl)){M:List R->(R->Prop)->Prop}(H:∀cl K,T (f cl) K->M (f cl) K)(a)(K)(h:T a K):M a K:=by
 obtain⟨cl,rfl⟩:=i h;exact H cl K h
theorem fD {α β:Type}{T:List R->(R->Prop)->Prop}{f:α->β->List R}(i:∀{a K},T a K->∃cl cM,a=(f cl cM)){M:List R->(R->Prop)->Prop}(H:∀cl cM K,T (f cl cM) K->M (f cl cM) K)(a)(K)(h:T a K):M a K:=by
 obtain⟨cl,cM,rfl⟩:=i h;exact H cl cM K h
theorem kZ {α β ka:Type}{T:List R->(R->Prop)->Prop}{f:α->β->ka->List R}(i:∀{a K},T a K->∃cl cM cA,a=(f cl cM cA)){M:List R->(R->Prop)->Prop}(H:∀cl cM cA K,T (f cl cM cA) K->M (f cl cM cA) K)(a)(K)(h:T a K):M a K:=by
 obtain⟨cl,cM,cA,rfl⟩:=i h;exact H cl cM cA K h
theorem ajw {α β ka nP:Type}{T:List R->(R->Prop)->Prop}{f:α->β->ka->nP->List R}(i:∀{a K},T a K->∃cl cM cA dY,a=(f cl cM cA dY)){M:List R->(R->Prop)->Prop}(H:∀cl cM cA dY K,T (f cl cM cA dY) K->M (f cl cM cA dY) K)(a)(K)(h:T a K):M a K:=by
 obtain⟨cl,cM,cA,dY,rfl⟩:=i h;exact H cl cM cA dY K h
theorem ajx {α β ka nP vP:Type}{T:List R->(R->Prop)->Prop}{f:α->β->ka->nP->vP->List R}(i:∀{a K},T a K->∃cl cM cA dY hA,a=(f cl cM cA dY hA)){M:List R->(R->Prop)->Prop}(H:∀cl cM cA dY hA K,T (f cl cM cA dY hA) K->M (f cl cM cA dY hA) K)(a)(K)(h:T a K):M a K:=by
 obtain⟨cl,cM,cA,dY,hA,rfl⟩:=i h;exact H cl cM cA dY hA K h
theorem rT {α β ka nP vP ami:Type}{T:List R->(R->Prop)->Prop}{f:α->β->ka->nP->vP->ami->List R}(i:∀{a K},T a K->∃cl cM cA dY hA tO,a=(f cl cM cA dY hA tO)){M:List R->(R->Prop)->Prop}(H:∀cl cM cA dY hA tO K,T (f cl cM cA dY hA tO) K->M (f cl cM cA dY hA tO) K)(a)(K)(h:T a K):M a K:=by
 obtain⟨cl,cM,cA,dY,hA,tO,rfl⟩:=i h;exact H cl cM cA dY hA tO K h
theorem JJ {α:Type}{T:List R->(ag->Prop)->Prop}{f:α->List R}(i:∀{a K},T a K->∃cl,a=(f cl)){M:List R->(ag->Prop)->Prop}(H:∀cl K,T (f cl) K->M (f cl) K)(a)(K)(h:T a K):M a K:=by
 obtain⟨cl,rfl⟩:=i h;exact H cl K h
theorem TN {α β:Type}{T:List R->(ag->Prop)->Prop}{f:α->β->List R}(i:∀{a K},T a K->∃cl cM,a=(f cl cM)){M:List R->(ag->Prop)->Prop}(H:∀cl cM K,T (f cl cM) K->M (f cl cM) K)(a)(K)(h:T a K):M a K:=by
 obtain⟨cl,cM,rfl⟩:=i h;exact H cl cM K h
theorem Fm {α:Type}{T:R->ag->List R->(ag->R->Prop)->Prop}{g:α->R}{o:α->ag}{f:α->List R}(i:∀{a0 b9} {a K},T a0 b9 a K->∃cl,a0=(g cl)/\b9=(o cl)/\a=(f cl)){M:R->ag->List R->(ag->R->Prop)->Prop}(H:∀cl K,T (g cl) (o cl) (f cl) K->M (g cl) (o cl) (f cl) K)(a0 b9)(a)(K)(h:T a0 b9 a K):M a0 b9 a K:=by
 obtain⟨cl,rfl,rfl,rfl⟩:=i h;exact H cl K h
theorem k0 {α β ka:Type}{T:R->ag->List R->(ag->R->Prop)->Prop}{g:α->β->ka->R}{o:α->β->ka->ag}{f:α->β->ka->List R}(i:∀{a0 b9} {a K},T a0 b9 a K->∃cl cM cA,a0=(g cl cM cA)/\b9=(o cl cM cA)/\a=(f cl cM cA)){M:R->ag->List R->(ag->R->Prop)->Prop}(H:∀cl cM cA K,T (g cl cM cA) (o cl cM cA) (f cl cM cA) K->M (g cl cM cA) (o cl cM cA) (f cl cM cA) K)(a0 b9)(a)(K)(h:T a0 b9 a K):M a0 b9 a K:=by
 obtain⟨cl,cM,cA,rfl,rfl,rfl⟩:=i h;exact H cl cM cA K h
theorem nb {α β ka nP:Type}{T:R->ag->List R->(ag->R->Prop)->Prop}{g:α->β->ka->nP->R}{o:α->β->ka->nP->ag}{f:α->β->ka->nP->List R}(i:∀{a0 b9} {a K},T a0 b9 a K->∃cl cM cA dY,a0=(g cl cM cA dY)/\b9=(o cl cM cA dY)/\a=(f cl cM cA dY)){M:R->ag->List R->(ag->R->Prop)->Prop}(H:∀cl cM cA dY K,T (g cl cM cA dY) (o cl cM cA dY) (f cl cM cA dY) K->M (g cl cM cA dY) (o cl cM cA dY) (f cl cM cA dY) K)(a0 b9)(a)(K)(h:T a0 b9 a K):M a0 b9 a K:=by
 obtain⟨cl,cM,cA,dY,rfl,rfl,rfl⟩:=i h;exact H cl cM cA dY K h
theorem Fo {α β ka nP vP:Type}{T:R->ag->List R->(ag->R->Prop)->Prop}{g:α->β->ka->nP->vP->R}{o:α->β->ka->nP->vP->ag}{f:α->β->ka->nP->vP->List R}(i:∀{a0 b9} {a K},T a0 b9 a K->∃cl cM cA dY hA,a0=(g cl cM cA dY hA)/\b9=(o cl cM cA dY hA)/\a=(f cl cM cA dY hA)){M:R->ag->List R->(ag->R->Prop)->Prop}(H:∀cl cM cA dY hA K,T (g cl cM cA dY hA) (o cl cM cA dY hA) (f cl cM cA dY hA) K->M (g cl cM cA dY hA) (o cl cM cA dY hA) (f cl cM cA dY hA) K)(a0 b9)(a)(K)(h:T a0 b9 a K):M a0 b9 a K:=by
 obtain⟨cl,cM,cA,dY,hA,rfl,rfl,rfl⟩:=i h;exact H cl cM cA dY hA K h
theorem ajy {α:Type}{T:ag->List R->(ag->Prop)->Prop}{o:α->ag}{f:α->List R}(i:∀{b9} {a K},T b9 a K->∃cl,b9=(o cl)/\a=(f cl)){M:ag->List R->(ag->Prop)->Prop}(H:∀cl K,T (o cl) (f cl) K->M (o cl) (f cl) K)(b9)(a)(K)(h:T b9 a K):M b9 a K:=by
 obtain⟨cl,rfl,rfl⟩:=i h;exact H cl K h
end Go.aj
end
section
namespace Go.aj
open Go.RowKit
def IC (k:IntKind)(w:World)(a:Option Addr)(len cap:Nat)(mH:List Int):Prop:=
 (a=none/\len=0/\cap=0/\mH=[])\/
 ∃x,a=some x/\len<=cap/\cap<=maxLen/\mH.length=cap/\(∀i,i<mH.length->w.cell? (x.add i)=some (.int k (mH.getD i 0)))/\∀n∈mH,(Lit.int k n).wf=true
def tA (_:Nat):Prop:=False
theorem aay {w:World}{a:Addr}{v:Value}(h:w.cell? a=some v):a.spot=none:=by
 unfold World.cell? at h;split at h
 ·split at h
  ·cases h
  ·rename_i ay
   cases aS:a.spot with
   |none=>rfl
   |some x=>rw[aS]at ay;simp at ay
 ·cases h
theorem aaz {k:IntKind}{w:World}{a:Option Addr}{len cap:Nat}{mH:List Int}(h:IC k w a len cap mH):bA tA w (.af k (mH.take len)) (.slice a len cap):=by
 rcases h with⟨rfl,rfl,rfl,rfl⟩|⟨x,rfl,az,hm,bm,aC,hw⟩
 ·exact .jj _ _ _
 ·by_cases bc:len=0
  ·subst bc;rw[List.take_zero];exact .jj _ _ _
  ·have ay:x.spot=none:=by
    have:=aC 0 (by omega);exact aay this
   obtain⟨b,off,sp⟩:=x;simp only at ay;subst ay;refine .af k _ len b off cap (by rw[apf];omega) (fun h=>h) az fun i hi=> ?_;have rP:=aC i (by omega)
   have aA:Addr.add ⟨b,off,none⟩ i=⟨b,off+i,none⟩:=by
    unfold Addr.add;split
    ·rename_i e;subst e;rfl
    ·rfl
   rw[aA]at rP;rw[rP]
   congr 2
   simp only[aoC,apu];rw[aoB hi]
theorem aeq {k:IntKind}{w:World}{a:Option Addr}{len cap:Nat}{mH:List Int}(h:IC k w a len cap mH):∀n∈mH.take len,k.min<=n/\n<=k.max:=fun n aB=>by
 rcases h with⟨rfl,rfl,rfl,rfl⟩|⟨x,rfl,az,hm,bm,aC,hw⟩
 ·cases aB
 ·have:=hw n (List.mem_of_mem_take aB);simpa[Lit.wf]using this
theorem aaA {P:Program}{f:FuncId}{ps:List bb}{T:List R->(R->Prop)->Prop}(h:iC P f (iU ps T)){xs:List U}{cq:Array Value}{w:World}
 (bs:iU ps T (bz .d xs) [] fun r _=>r= .d (.bool true)) (az:xs.length=cq.size) (aS:∀i,i<xs.length->bA tA w (xs.getD i .undef) (cq.getD i undef)):
 Calls P f cq w fun e w'=>e= .returned (.bool true)/\Below w.heap.size w w':=by
 have bm:∀b,¬aL tA [] [] b:=fun b ah=>by
  rcases ah with ah|⟨i,aw,aA,_⟩
  ·exact ah
  ·simp at aA
 have bI:ct tA [] [] w:=
  {len:=rfl
   fC:=fun b ah=>ah.elim
   lt:=fun i aw b e=>by simp at e
   inj:=fun i j li cF b e=>by simp at e
   fR:=fun i aw b e=>by simp at e
   ob:=fun i aw e=>by simp at e}
 have TR:(bz R.d xs).length=xs.length:=by rw[dP,aoK]
 refine(h.2 tA [] [] w (bz .d xs) cq _ bs bI (by rw[TR];exact az) fun i hi=> ?_).mono ?_
 ·rw[TR]at hi
  have e:(bz R.d xs).getD i .un= .d (xs.getD i .undef):=by
   rw[dP];simp[aoC,hi]
  rw[e];exact .dc ((aS i hi).mono fun b _ ah=>⟨rfl,bm b⟩)
 ·rintro e w' ⟨r,al,ρ',v,rfl,rfl,ay,aM⟩;have aM:bA (aL tA ρ' al) w' (.bool true) v:=aM
  cases aM with
  |bool _=>exact⟨rfl,ay.os,ay.tape,ay.output,ay.size,fun k ae=>ay.ar k ae fun⟨i,aw,aA,_⟩=>by simp at aA⟩
end Go.aj
end
section
namespace Go.Proofs
open Go.Shelf Go.RowKit
variable {P:Program} {ρ:Ren}
def lE (T e:TypeId)(b:Nat)(fy:List Value)(w:World)(N:Nat->Prop):Prop:=
 ∃p v,(p= .pointer none\/p= .pointer (some ⟨b,0,none⟩))/\N b/\(∀g,v.ownBlock=some g->N g)/\w.heap[b]? =some (.cells #[p,v] T (0,0))/\w.ownsRow 0 e 1 v fy.length fy/\v.ownBlock≠some b
structure j7 (N:Nat->Prop)(w w':World):Prop where
 os:w'.os=w.os
 tape:w'.tape=w.tape
 output:w'.output=w.output
 size:w.heap.size<=w'.heap.size
 ar:∀k,k<w.heap.size->¬N k->w'.heap[k]? =w.heap[k]?
theorem lE.at {T e:TypeId}{b:Nat}{fy:List Value}{w:World}{N:Nat->Prop}(h:lE T e b fy w N):Lib.IsBuilder T e 0 b fy w:=by
 obtain⟨p,v,aD,_,_,ah,aH,aB⟩:=h;rcases aD with rfl|rfl
 ·exact .inl ⟨apR _,v,ah,aH,aB⟩
 ·exact .inr ⟨apR _,v,ah,aH,aB⟩
theorem lE.ar {T e:TypeId}{b:Nat}{fy:List Value}{w w':World}{N nj:Nat->Prop}(h:lE T e b fy w N)(hn:∀x,N x->nj x)(ae:∀k,k<w.heap.size->N k->w'.heap[k]? =w.heap[k]?):lE T e b fy w' nj:=by
 obtain⟨p,v,aD,aa,ad,ah,aH,aB⟩:=h;have bG:b<w.heap.size:=(aqS.1 ah).1;refine⟨p,v,aD,hn _ aa,fun g bg=>hn _ (ad g bg),by rw[ae b bG aa];exact ah,⟨aH.1, ?_⟩,aB⟩;rcases aH.2 with bm|⟨g,cap,cur,rfl,a7,bl,bH⟩
 ·exact .inl bm
 ·exact .inr ⟨g,cap,cur,rfl,a7,by rw[ae g (aqS.1 bl).1 (ad g rfl)];exact bl,bH⟩
theorem Xz {w:World}{B:Nat}{e:TypeId}{v:Value}{n:Nat}{xs:List Value}(h:w.ownsRow B e 1 v n xs):w.ownsRow 0 e 1 v n xs:=by
 refine⟨h.1, ?_⟩;rcases h.2 with bm|⟨g,cap,cur,rfl,_,k⟩
 ·exact .inl bm
 ·exact .inr ⟨g,cap,cur,rfl,apR _,k⟩
theorem aaP {w:World}(t u ty e:TypeId)(i:TypeInfo)(au:P.underlying t=some (.slice e))(hu:P.underlying u=some .string)(hi:P.info? e=some i)(bm:i.zero=some (.int .u8 0))(p6:i.size=1)(oo:i.bytes=1)
 {v:Value} {n:Nat} {xs:List Value} (fk:w.ownsRow 0 e 1 v n xs) (s:ByteArray) (ah:n+s.size<=140737488355328):
 ∃c7 w',(Builtin.append_ #[t,u] ty #[v, .string s]).run P w= .ok c7 w'/\w'.ownsRow 0 e 1 c7 (n+s.size) (xs++Lib.strCells s)/\w.grownBy w' v.ownBlock/\∀g,c7.ownBlock=some g->v.ownBlock=some g\/w.heap.size<=g:=by
 have hm:n+s.size<=maxLen:=by unfold maxLen;omega
 rcases fk.2 with⟨rfl,rfl⟩|⟨g,cap,cur,rfl,_,bg,aB,po,cr,Fz⟩
 ·obtain⟨c7,w',aa,ad,ax,_⟩:=Lib.run_append_own_string w w.heap.size t u ty e i au hu hi bm p6 oo _ 0 xs ⟨fk.1, .inl ⟨rfl,rfl⟩⟩ s hm ah (aoH _);exact⟨c7,w',aa,Xz ad,ax,fun g bg=> .inr (ad.lt g bg).1⟩
 ·obtain⟨c7,w',aa,ad,ax,_⟩:=Lib.run_append_own_string w 0 t u ty e i au hu hi bm p6 oo _ n xs fk s hm ah (apR _);refine⟨c7,w',aa,ad,ax,fun k ae=> ?_⟩;have gr:Src P i.size u (.string s) s.size (Lib.strCells s) w:=by rw[p6];exact Src.ofString w hu s
  have xA:xs.length=n:=by simpa using fk.1
  by_cases ao:n+s.size<=cap
  ·have ft:=run_append_room_src (P:=P) w t u ty e i au hi g 0 n cap (.string s) s.size (Lib.strCells s) gr ao
    (fun j aK=>by
      rw[Lib.strCells_length]at aK;rw[Lib.cell_of_heap bg,p6];have:0+n*1+j<cur.size:=by omega
      rw[aqo this];rfl)
    (fun j _=>Lib.frozen_of_heap bg _)
   rw[ft]at aa;injection aa with aA _;rw[<-aA]at ae;exact .inl ae
  ·have hold:(Builtin.firstCells i.size n (.slice (some ⟨g,0,none⟩) n cap)).run P w.drew= .ok xs.toArray w.drew:=by
    rw[p6];refine run_firstCells_some w.drew 1 n ⟨g,0,none⟩ n cap xs (by omega) fun j x aK=> ?_;exact fk.cells (g:=g) rfl j x aK
   have ft:=run_append_grow_src (P:=P) w t u ty e i (.int .u8 0) au hi bm (some ⟨g,0,none⟩) n cap xs hold (.string s) s.size (Lib.strCells s) gr (by omega) (by omega)
    (growslice_fits (by omega) (by rw[oo];omega))
   rw[ft]at aa;injection aa with aA _;rw[<-aA]at ae;simp only[Value.ownBlock,aoY]at ae;exact .inr (by omega)
theorem aaQ {w:World}{ops:Array Oper}{bQ:List Oper}{o:Oper}{a:Act}{Q:Exit->Act->World->Prop}(pb:o.guard=none)(U4 x:Operand)(t u:TypeId)
 (aH:o.op= .call {callee:= .builtin .append,args:=#[U4,x],argTypes:=#[t,u]}) (e:TypeId) (i:TypeInfo) (au:P.underlying t=some (.slice e)) (hu:P.underlying u=some .string) (hi:P.info? e=some i)
 (bm:i.zero=some (.int .u8 0)) (p6:i.size=1) (oo:i.bytes=1) (v:Value) (n:Nat) (xs:List Value) (ay:a.eval U4=v) (fk:w.ownsRow 0 e 1 v n xs) (s:ByteArray) (ak:a.eval x= .string s) (ah:n+s.size<=140737488355328)
 (h:∀c7 w',w'.ownsRow 0 e 1 c7 (n+s.size) (xs++Lib.strCells s)->w.grownBy w' v.ownBlock->(∀g,c7.ownBlock=some g->v.ownBlock=some g\/w.heap.size<=g)->wpList P ops Q bQ (a.put o.dst c7) w'):wpList P ops Q (o::bQ) a w:=by
 refine wpList_plain pb fun K fF=> ?_;obtain⟨c7,w',ao,ad,ax,aV⟩:=aaP (P:=P) t u o.type e i au hu hi bm p6 oo fk s ah;unfold Oper.wp execOp;simp only[aH,resolve,invoke,builtin,Sem.run_bind,Sem.run_pure,Result.andThen_ok,aqD,ape,List.map_nil,ay,ak,ao];exact fF _ _ (h c7 w' ad ax aV)
theorem ack {f:FuncId}{T e:TypeId}(hu:∀(b:Nat) (w:World),w.cell? ⟨b,0,none⟩=some (.pointer (some ⟨b,0,none⟩))->Calls P f #[.pointer (some ⟨b,0,none⟩)] w fun r w'=>r= .returned (.tuple #[])/\w'=w)
 (cH:∀(b:Nat) (w:World),w.cell? ⟨b,0,none⟩=some (.pointer none)->w.shape? b=some (T,2)->w.frozen? ⟨b,0,none⟩=false->Calls P f #[.pointer (some ⟨b,0,none⟩)] w fun r w'=>r= .returned (.tuple #[])/\w'=w.setCell ⟨b,0,none⟩ (.pointer (some ⟨b,0,none⟩)))
 {b:Nat} {fy:List Value} {w:World} {p v:Value} (aD:p= .pointer none\/p= .pointer (some ⟨b,0,none⟩)) (ah:w.heap[b]? =some (.cells #[p,v] T (0,0)))
 (aH:w.ownsRow 0 e 1 v fy.length fy) (aB:v.ownBlock≠some b):
 Calls P f #[.pointer (some ⟨b,0,none⟩)] w fun r w1=>r= .returned (.tuple #[])/\w1.heap[b]? =some (.cells #[.pointer (some ⟨b,0,none⟩),v] T (0,0))/\w1.ownsRow 0 e 1 v fy.length fy/\w.grownBy w1 (some b):=by
 have bc:w.cell? ⟨b,0,none⟩=some p:=by rw[Lib.cell_of_heap ah];rfl
 rcases aD with rfl|rfl
 ·have cK:Lib.BuilderAt T e 0 b (.pointer none) fy w:=⟨apR _,v,ah,aH,aB⟩;refine(cH b w bc cK.shape cK.frozen0).mono ?_;rintro r w1 ⟨rfl,rfl⟩
  have T4:w.grownBy (w.setCell ⟨b,0,none⟩ (.pointer (some ⟨b,0,none⟩))) (some b):=by
   refine⟨rfl,rfl,rfl,by simp[World.setCell],fun k _ ae=> ?_⟩;have:b≠k:=fun e=>ae (by rw[e]);simp[World.setCell,aqE,this]
  refine⟨rfl, ?_,aH.kept T4 (.inr aB),T4⟩;simp[World.setCell,aqE,ah]
 ·refine(hu b w bc).mono ?_;rintro r w1 ⟨rfl,rfl⟩;exact⟨rfl,ah,aH,rfl,rfl,rfl,aoH _,fun _ _ _=>rfl⟩
end Go.Proofs
end
section
namespace Go.aj
open Go.Proofs
structure hC where
 E:bD
 β:Tmp
 pD:TypeId
 l2:TypeId
 F1:FuncId
 F2:FuncId
 fuel:Nat
structure lh where
 tm:List R
 I:aF
 fy:Option (List Int)
def hC.other (X:hC)(o:Oper):Nat:=match fY o.dst (some X.β)with|true=>4|false=>0
def hC.cls (X:hC)(o:Oper):Nat:=
 match o.guard,o.op with
 |none, .alloc t=>(match Nat.beq t X.pD,fY o.dst (some X.β)with|true,true=>1|_,_=>X.other o)
 |none, .call c=>
  (match c.callee,fY o.dst (some X.β)with
  | .value (.func f),false=>
   (match Nat.beq f X.F1,Nat.beq f X.F2,c.args.toList with
   |true,_,[.tmp p,_]=>(match Nat.beq p X.β with|true=>2|false=>4)
   |_,true,[.tmp p]=>(match Nat.beq p X.β with|true=>3|false=>4)
   |_,_,_=>0)
  |_,_=>X.other o)
 |_,_=>X.other o
def I5 (o:Oper):Operand:=
 match o.op with
 | .call c=>(match c.args.toList with|[_,x]=>x|_=> .const undef)
 |_=> .const undef
def zV (all:List Oper)(o:Oper)(tm:List R):List R:=
 match o.guard with
 |none=>tm
 |some (j,_)=>
  (match l_ all j with
  |none=>tm
  |some g=>(match b8 .un tm g with| .d (.bool b)=>(match b with|true=>c0 tm g .bt|false=>c0 tm g .bf)|_=>tm))
def hC.quiet (X:hC)(l:List Oper):Bool:=ef (fun o=>match fY o.dst (some X.β)with|true=>false|false=>true) l
def sE (X:hC)(all:List Oper):List Oper->lh->(lh->Prop)->Prop
 |[],S,K=>K S
 |o::bQ,S,K=>
  match Nat.beq (X.cls o) 0,Nat.beq (X.cls o) 2,Nat.beq (X.cls o) 3 with
  |true,_,_=>dF X.E.tb X.E.bx [] all [o] (zV all o S.tm) S.I fun tm I=>sE X all bQ ⟨tm,I,S.fy⟩ K
  |_,true,_=>
   (match S.fy,a_ S.tm (I5 o)with
   |some l, .d (.str s)=>l.length+s.length<=1000000000/\sE X all bQ ⟨put S.tm o.dst .any,S.I,some (l++s)⟩ K
   |_,_=>False)
  |_,_,true=>(match S.fy with|some l=>l≠[]/\sE X all bQ ⟨put S.tm o.dst (.d (.str l)),S.I,none⟩ K|none=>False)
  |_,_,_=>False
def En (body:lh->(h_->lh->Prop)->Prop):Nat->lh->(h_->lh->Prop)->Prop
 |0,_,_=>False
 |n+1,S,K=>body S fun e S'=>match e with| .normal=>En body n S' K|e=>K e S'
def kl (X:hC):Code->Nat->lh->(h_->lh->Prop)->Prop
 | .skip,_,S,K=>K .normal S
 | .label _,_,S,K=>K .normal S
 | .region id ops draw,bE,S,K=>
  match draw with
  |true=>(match ef (fun o=>Nat.beq (X.cls o) 0&&X.quiet [o]) ops.toList with|true=>hT X.E (.region id ops true) bE ⟨S.tm,S.I⟩ fun e S'=>K e ⟨S'.tm,S'.I,S.fy⟩|false=>False)
  |false=>
   (match ops.toList,S.fy,Nat.blt X.β (bV S.tm)with
   |[o],none,true=>(match Nat.beq (X.cls o) 1 with|true=>K .normal ⟨c0 S.tm X.β .any,S.I,some []⟩|false=>(match X.quiet ops.toList with|true=>sE X ops.toList ops.toList S (K .normal)|false=>False))
   |_,_,_=>(match X.quiet ops.toList with|true=>sE X ops.toList ops.toList S (K .normal)|false=>False))
 | .seq a b,bE,S,K=>kl X a bE S fun e S'=>match e with| .normal=>kl X b bE S' K|e=>K e S'
 | .cond c a b,bE,S,K=>
  match a_ S.tm c with
  | .bt=>kl X a bE S K
  | .bf=>kl X b bE S K
  | .d (.bool x)=>(match x with|true=>kl X a bE S K|false=>kl X b bE S K)
  |_=>False
 | .block id c,_,S,K=>kl X c id S fun e S'=>match e with| .exit i=>(match Nat.beq i id with|true=>K .normal S'|false=>K (.exit i) S')|e=>K e S'
 | .loop c,bE,S,K=>En (kl X c bE) X.fuel S K
 | .exit id,_,S,K=>K (.exit id) S
 | .goto l,_,S,K=>K (.goto l) S
 | .ret,_,S,K=>K .ret S
 | .scope c,bE,S,K=>kl X c bE S fun e S'=>match e with| .goto _=>False|e=>K e S'
 | .refuse _,_,_,_=>False
 | .rangeFunc ..,_,_,_=>False
def sw (X:hC)(ntmps:Nat)(results:List ResultVar)(c:Code)(args:List R)(K:R->aF->Prop):Prop:=
 kl X c 1000000 ⟨pad ntmps args,[],none⟩ fun e S=>
  match e with
  | .normal| .ret=>(match ln X.E.tb S.tm S.I results with|true=>gO (jV X.E.tb S.tm S.I results) (K (one (gU X.E.tb S.tm S.I results)) S.I)|false=>False)
  |_=>False
structure zW (P:Program)(X:hC):Prop where
 write:∀(b:Nat) (fy:List Value) (s:ByteArray) (w:World) (N:Nat->Prop),lE X.pD X.l2 b fy w N->fy.length+s.size<=140737488355328->
  Calls P X.F1 #[.pointer (some ⟨b,0,none⟩), .string s] w fun r w'=>r= .returned (.tuple #[.int .i64 s.size, .nilIface])/\lE X.pD X.l2 b (fy++Lib.strCells s) w' (fun x=>N x\/w.heap.size<=x)/\j7 N w w'
 read:∀(b:Nat) (l:List UInt8) (w:World) (N:Nat->Prop),lE X.pD X.l2 b (Lib.byteCells l) w N->l≠[]->
  Calls P X.F2 #[.pointer (some ⟨b,0,none⟩)] w fun r w'=>r= .returned (.string ⟨l.toArray⟩)/\j7 N w w'
 zero:∀w,(zeroValue X.pD).run P w= .ok (.agg #[.pointer none, .slice none 0 0]) w
 T5:∃fn,P.funcs[X.F1]? =some fn/\fn.body.isNone=false/\(fn.name== "runtime.NumGoroutine")=false
 T6:∃fn,P.funcs[X.F2]? =some fn/\fn.body.isNone=false/\(fn.name== "runtime.NumGoroutine")=false
def SY (X:hC)(a:Act)(w:World)(M:Nat->Prop):Option (List Int)->Prop
 |none=>True
 |some l=>∃(b:Nat) (bytes:List UInt8),a.tmps.getD X.β undef= .pointer (some ⟨b,0,none⟩)/\X.β<a.tmps.size/\l=bytes.map (fun x=>(x.toNat:Int))/\lE X.pD X.l2 b (Lib.byteCells bytes) w M
structure qe (X:hC)(oK:Nat->Prop)(eo:World)(S:lh)(a:Act)(w:World):Prop where
 ex:∃(N:Nat->Prop) (ρ:List Loc) (M:Nat->Prop),(∀b,oK b->N b)/\eN N ρ S.tm S.I a w/\(∀b,gJ ρ S.I b->eo.heap.size<=b)/\(∀b,M b->N b/\eo.heap.size<=b)/\SY X a w M S.fy
 F3:j7 (fun _=>False) eo w
theorem j7.refl (N:Nat->Prop)(w:World):j7 N w w:=⟨rfl,rfl,rfl,aoH _,fun _ _ _=>rfl⟩
theorem lE.lt {T e:TypeId}{b:Nat}{fy:List Value}{w:World}{N:Nat->Prop}(h:lE T e b fy w N):lE T e b fy w (fun x=>N x/\x<w.heap.size):=by
 obtain⟨p,v,aD,aa,ad,ah,aH,aB⟩:=h;exact⟨p,v,aD,⟨aa,(aqS.1 ah).1⟩,fun g bg=>⟨ad g bg,(aH.lt g bg).2⟩,ah,aH,aB⟩
theorem eN.aside {N M:Nat->Prop}{ρ:List Loc}{tm:List R}{I:aF}{a:Act}{w w':World}(h:eN N ρ tm I a w)(aT:j7 M w w')(iN:∀b,M b->N b):
 eN (fun x=>N x\/(w.heap.size<=x/\x<w'.heap.size)) ρ tm I a w':=by
 have bm:∀b,b<w.heap.size->¬aL N ρ I b->¬aL (fun x=>N x\/(w.heap.size<=x/\x<w'.heap.size)) ρ I b:=fun b ah aB bm=>by
  rcases bm with(aa|aa)|aa
  ·exact aB (.inl aa)
  ·omega
  ·exact aB (.inr aa)
 have ao:∀x u,bA (aL N ρ I) w x u->bA (aL (fun x=>N x\/(w.heap.size<=x/\x<w'.heap.size)) ρ I) w' x u:=fun x u ak=>
  ak.mono fun b ah aB=>⟨aT.ar b ah fun hm=>aB (.inl (iN b hm)),bm b ah aB⟩
 refine⟨?_,⟨h.eG.size,fun t=>(h.eG.at_ t).mono ao fun id _=>eR.refl ρ I id⟩,h.ik⟩;refine{len:=h.e5.len,fC:=fun b ah=> ?_,lt:=fun i aw b aa ad=>aoZ (h.e5.lt i aw b aa ad) aT.size,inj:=h.e5.inj,fR:=fun i aw b aa ad aB=> ?_,ob:=fun i aw aa=> ?_}
 ·rcases ah with ah|ah
  ·exact aoZ (h.e5.fC b ah) aT.size
  ·exact ah.2
 ·rcases aB with aB|aB
  ·exact h.e5.fR i aw b aa ad aB
  ·have:=h.e5.lt i aw b aa ad;omega
 ·exact(h.e5.ob i aw aa).mono (fun b ah=>aT.ar b (h.e5.lt i aw b aa ah) fun hm=>h.e5.fR i aw b aa ah (iN b hm)) ao fun _ _ _ id _ _=>eR.refl ρ I id
section
variable {P:Program} {X:hC} {oK:Nat->Prop} {eo:World}
theorem j7.lM {M:Nat->Prop}{w w':World}(h:j7 (fun _=>False) eo w)(k:j7 M w w')(iN:∀b,M b->eo.heap.size<=b):j7 (fun _=>False) eo w':=
 ⟨k.os.trans h.os,k.tape.trans h.tape,k.output.trans h.output,aoV h.size k.size,fun b ah _=>by
  rw[k.ar b (aoZ ah h.size) fun hm=>by have:=iN b hm;omega,h.ar b ah fun h=>h]⟩
theorem Oa {S:lh}{a b5:Act}{w w':World}{N:Nat->Prop}{ρ:List Loc}{M:Nat->Prop}(aa:∀b,oK b->N b)(ad:eN N ρ S.tm S.I a w)(ax:∀b,gJ ρ S.I b->eo.heap.size<=b)
 (aV:∀b,M b->N b/\eo.heap.size<=b) (bp:SY X a w M S.fy) (aT:j7 (fun _=>False) eo w) {wr:Tmp->Bool} (hw:wr X.β=false) {K:List R->aF->Prop}
 (aD:m1 N ρ S.I a w wr K b5 w'):∃ev al,K ev al/\qe X oK eo ⟨ev,al,S.fy⟩ b5 w':=by
 obtain⟨⟨ev,al,ρ',a7,bl,bH⟩,dJ,eZ⟩:=aD
 have xM:∀b,M b->¬gJ ρ S.I b:=fun b hm ⟨i,aw,aA,aG,_⟩=>ad.e5.fR i aw b aA aG (aV b hm).1
 refine⟨ev,al,a7,⟨N,ρ',M,aa,bl,fun b ah=> ?_,aV, ?_⟩,⟨bH.os.trans aT.os,bH.tape.trans aT.tape,bH.output.trans aT.output,aoV aT.size bH.size,fun b ah _=> ?_⟩⟩
 ·rcases bH.alive b ah with ah|ah
  ·exact ax b ah
  ·exact aoV aT.size ah
 ·cases tC:S.fy with
  |none=>trivial
  |some l=>
   rw[tC]at bp;obtain⟨b,bytes,aA,aG,bR,cY⟩:=bp;exact⟨b,bytes,by rw[dJ _ hw];exact aA,by rw[eZ];exact aG,bR,cY.ar (fun _ h=>h) fun k ae hm=>bH.ar k ae (xM k hm)⟩
 ·rw[bH.ar b (aoZ ah aT.size) fun aS=>by have:=ax b aS;omega,aT.ar b ah fun h=>h]
theorem Zf {o:Oper}{a:Act}{next next':Act->World->Prop}{Q jg:Exit->Act->World->Prop}(aB:∀a w,next a w->next' a w)(aZ:∀e a w,e≠ .normal->Q e a w->jg e a w){r:Result Next}
 (h:o.upon P a next Q r):o.upon P a next' jg r:=by
 unfold Oper.upon at h⊢;split at h
 ·exact aB _ _ h
 ·exact aB _ _ h
 ·exact aB _ _ h
 ·refine h.mono fun e w ao=> ?_
  cases e with
  |returned v=>exact aB _ _ ao
  |panicked c=>exact aZ _ _ _ (by nofun) ao
  |outgrown=>obtain⟨x,y,ca⟩:=ao;exact⟨x,y,aZ _ _ _ (by nofun) ca⟩
 ·exact h.mono fun v w ao=>aB _ _ ao
 ·exact aZ _ _ _ (by nofun) h
 ·exact h.elim
theorem aaR {ops:Array Oper}{Q jg:Exit->Act->World->Prop}{i:Nat}{bQ:List Nat}{a:Act}{w:World}(h:wpOps P ops jg [i] a w)(ae:∀a w,jg .normal a w->wpOps P ops Q bQ a w)
 (aZ:∀e a w,e≠ .normal->¬jg e a w):wpOps P ops Q (i::bQ) a w:=by
 simp only[wpOps]at h⊢;split
 ·rename_i aH;rw[aH]at h;exact ae _ _ h
 ·rename_i o aH;rw[aH]at h;simp only at h;split
  ·rename_i hw;rw[aoB hw]at h;rcases h with h|⟨_,x,y,ad⟩
   ·exact .inl (Zf ae (fun e a w aB ca=>(aZ e a w aB ca).elim) h)
   ·exact(aZ _ _ _ (by nofun) ad).elim
  ·rename_i hw;rw[aoA hw]at h;exact ae _ _ h
theorem aaS {o:Oper}{c:Call}{f:FuncId}(aH:o.op= .call c)(aC:c.callee= .value (.func f))(a:Act)(w:World):(execOp a.eval o).run P w=(callFunc f (c.args.map a.eval)).run P w:=by
 unfold execOp;rw[aH];simp only[resolve,aC,Deferred.ofValue,Act.eval,pure_bind,invoke];simp
theorem Zg {f:FuncId}{cq:Array Value}{w:World}(h:∃fn,P.funcs[f]? =some fn/\fn.body.isNone=false/\(fn.name== "runtime.NumGoroutine")=false):(callFunc f cq).run P w= .ok (.enter f cq) w:=by
 obtain⟨fn,aa,ad,ax⟩:=h;simp only[callFunc,Sem.run_bind,run_program,Result.andThen_ok,aa,ad,ax];simp
theorem O5 {a:Act}{dst:Option Tmp}{v:Value}{t:Tmp}(h:fY dst (some t)=false):(a.put dst v).tmps.getD t undef=a.tmps.getD t undef/\(a.put dst v).tmps.size=a.tmps.size:=by
 cases dst with
 |none=>exact⟨rfl,rfl⟩
 |some d=>
  have aY:d≠t:=fun e=>by subst e;simp[fY]at h
  exact⟨by rw[Act.put,wa,aoA fun e=>aY e.1],by simp[Act.put]⟩
theorem P_ {ops:Array Oper}(h:X.quiet ops.toList=true):rp ops X.β=false:=by
 unfold rp;rw[List.any_eq_false];intro o aH;unfold hC.quiet at h;rw[fH,aoU]at h;have:=h o aH
 cases aY:o.dst with
 |none=>simp
 |some d=>
  rw[aY]at this;simp only[fY]at this;split at this
  ·cases this
  ·rename_i ah;simp[ah]
theorem acm {o:Oper}(h:X.cls o=2):∃c x,o.op= .call c/\o.guard=none/\c.callee= .value (.func X.F1)/\c.args=#[.tmp X.β,x]/\I5 o=x/\fY o.dst (some X.β)=false:=by
 have other:X.other o≠2:=by unfold hC.other;split<;>simp
 unfold hC.cls at h;split at h
 ·split at h
  ·simp at h
  ·exact absurd h other
 ·rename_i c bg aH;split at h
  ·rename_i f aC aY;split at h
   ·rename_i p x aT aS;split at h
    ·rename_i aD;have aA:=aoE aT;have aG:=aoE aD;subst aA aG;refine⟨c,x,aH,bg,aC,by rw[<-Array.toList_inj];exact aS, ?_,aY⟩;unfold I5;simp only[aH,aS]
    ·simp at h
   ·split at h<;>simp at h
   ·simp at h
  ·exact absurd h other
 ·exact absurd h other
theorem adM {o:Oper}(h:X.cls o=3):∃c,o.op= .call c/\o.guard=none/\c.callee= .value (.func X.F2)/\c.args=#[.tmp X.β]/\fY o.dst (some X.β)=false:=by
 have other:X.other o≠3:=by unfold hC.other;split<;>simp
 unfold hC.cls at h;split at h
 ·split at h
  ·simp at h
  ·exact absurd h other
 ·rename_i c bg aH;split at h
  ·rename_i f aC aY;split at h
   ·split at h<;>simp at h
   ·rename_i p _ aT aS;split at h
    ·rename_i aD;have aA:=aoE aT;have aG:=aoE aD;subst aA aG;exact⟨c,aH,bg,aC,by rw[<-Array.toList_inj];exact aS,aY⟩
    ·simp at h
   ·simp at h
  ·exact absurd h other
 ·exact absurd h other
theorem acn {o:Oper}(h:X.cls o=1):o.op= .alloc X.pD/\o.guard=none/\o.dst=some X.β:=by
 have other:X.other o≠1:=by unfold hC.other;split<;>simp
 unfold hC.cls at h;split at h
 ·rename_i t bg aH;split at h
  ·rename_i aa ad;have aA:=aoE aa;subst aA;refine⟨aH,bg, ?_⟩
   cases aY:o.dst with
   |none=>rw[aY]at ad;cases ad
   |some d=>
    rw[aY]at ad;simp only[fY]at ad;rw[aoE ad]
  ·exact absurd h other
 ·rename_i c bg aH;split at h
  ·split at h
   ·split at h<;>simp at h
   ·split at h<;>simp at h
   ·simp at h
  ·exact absurd h other
 ·exact absurd h other
theorem adN {s:ByteArray}{l:List Int}(h:l=s.data.toList.map fun b=>(b.toNat:Int)):∃bytes:List UInt8,bytes=s.data.toList/\l=bytes.map (fun x=>(x.toNat:Int)):=⟨_,rfl,h⟩
theorem MA (dO:hG P X.E)(jq:zW P X)(ops:Array Oper)(aZ:X.quiet ops.toList=true){K:lh->Prop}:
 ∀(is:List Nat),(∀i∈is,i<ops.size)->∀(S:lh) (a:Act) (w:World),sE X ops.toList (is.map fun i=>ops.toList.getD i default) S K->qe X oK eo S a w->
  wpOps P ops (fun e b5 w'=>e= .normal/\∃S',K S'/\qe X oK eo S' b5 w') is a w
 |[],_,S,a,w,h,dS=>⟨rfl,S,h,dS⟩
 |i::bQ,bG,S,a,w,h,dS=>by
  have hi:i<ops.size:=bG i (by simp);have aH:ops[i]? =some ops[i]:=by simp[hi]
  have m2:ops.toList.getD i default=ops[i]:=by simp[aoC,hi]
  have bM:=MA dO jq ops aZ (K:=K) bQ (fun j aK=>bG j (by simp[aK]));simp only[ape,m2]at h
  have ah:fY (ops[i]).dst (some X.β)=false:=by
   unfold hC.quiet at aZ;rw[fH,aoU]at aZ;have:=aZ ops[i] (by simp);split at this
   ·cases this
   ·rename_i h;exact h
  have next:∀{c:Call} {f:FuncId} {cq:Array Value} {Q:Ending->World->Prop},(ops[i]).op= .call c->(ops[i]).guard=none->c.callee= .value (.func f)->c.args.map a.eval=cq->
   (∃fn,P.funcs[f]? =some fn/\fn.body.isNone=false/\(fn.name== "runtime.NumGoroutine")=false)->Calls P f cq w Q->
   (∀e w',Q e w'->∃v,e= .returned v/\wpOps P ops (fun e b5 w'=>e= .normal/\∃S',K S'/\qe X oK eo S' b5 w') bQ (a.put (ops[i]).dst v) w')->
   wpOps P ops (fun e b5 w'=>e= .normal/\∃S',K S'/\qe X oK eo S' b5 w') (i::bQ) a w:=by
   intro c f cq Q bK bg aC aM J8 od ae;simp only[wpOps,aH];rw[aoB (by simp[Region.wanted,bg])];left;unfold Oper.wp;rw[aaS bK aC,aM,Zg J8,Oper.upon_enter];refine od.mono fun e w' ca=> ?_;obtain⟨v,rfl,hw⟩:=ae e w' ca;exact hw
  unfold sE at h;split at h
  ·
   obtain⟨⟨N,ρ,M,aa,ad,ax,aV,bp⟩,aT⟩:=dS
   have gB:eN N ρ (zV ops.toList ops[i] S.tm) S.I a w:=by
    unfold zV;split
    ·exact ad
    ·split
     ·exact ad
     ·rename_i g _;have cK:=ad.eG.at_ g;rw[<-d_]at cK;split
      ·rename_i b he;rw[he]at cK;have ah:=mL cK
       cases b with
       |true=>exact Da ad g ah
       |false=>exact Da ad g ah
      ·exact ad
   have I6:=G6 (P:=P) (N:=N) dO.ty dO.more dO.pf [] ops (fun i j o p d e id _ _ _ _ h=>by cases h) _ [i] (fun j aK=>by rw[apr.1 aK];exact hi) (by simp) (zV ops.toList ops[i] S.tm) S.I a w ρ
    (fun j _ o d id _ _ h=>by cases h) (by simp only[ape,List.map_nil,m2];exact h) gB
   refine aaR I6 (fun b5 w' aD=> ?_) (fun e b5 w' aB ca=>aB ca.1);obtain⟨ev,al,a7,bl⟩:=Oa (S:=⟨zV ops.toList ops[i] S.tm,S.I,S.fy⟩) aa gB ax aV bp aT (P_ aZ) aD.2;exact bM ⟨ev,al,S.fy⟩ b5 w' a7 bl
  ·
   rename_i ks _;have ks:=aoE ks;obtain⟨c,x,bK,bg,aC,gl,aj4,_⟩:=acm ks;rw[aj4]at h;split at h;rotate_left
   ·exact h.elim
   rename_i l s tC ak;obtain⟨hlen,h⟩:=h;obtain⟨⟨N,ρ,M,aa,ad,ax,aV,bp⟩,aT⟩:=dS;rw[tC]at bp;obtain⟨b,bytes,aA,aG,rfl,cY⟩:=bp;have pc:=eA ad.eG x;rw[ak]at pc;obtain⟨vS,e_,lN⟩:=uc pc;obtain⟨aex,aj5,aj6⟩:=adN lN
   have gn:(Lib.byteCells bytes).length+vS.size<=140737488355328:=by
    have hO:vS.size=s.length:=by rw[lN,aoK,apH];rfl
    rw[aoK]at hlen;rw[Lib.byteCells_length,hO];omega
   refine next bK bg aC (cq:=#[.pointer (some ⟨b,0,none⟩), .string vS]) (by rw[gl];simp only[aqD,ape,List.map_nil];rw[e_];show#[a.tmps.getD X.β undef,_]=_;rw[aA]) jq.T5 (jq.write b _ vS w M cY gn) ?_
   rintro e w' ⟨rfl,a7,bl⟩;refine⟨_,rfl,bM ⟨_,_,_⟩ _ _ h ?_⟩;have nu:=ad.aside bl fun b hm=>(aV b hm).1;refine⟨⟨_,ρ,fun x=>(M x\/w.heap.size<=x)/\x<w'.heap.size,fun b ah=> .inl (aa b ah),⟨nu.e5,eg.put nu.eG _ (v:= .tuple #[.int .i64 vS.size, .nilIface]) (t:= .any) trivial,by cases (ops[i]).dst<;>exact nu.ik⟩,ax,fun x ak=> ?_,b,bytes++aex, ?_, ?_, ?_, ?_⟩,j7.lM aT bl fun b hm=>(aV b hm).2⟩
   ·rcases ak.1 with hm|hm
    ·exact⟨.inl (aV x hm).1,(aV x hm).2⟩
    ·exact⟨.inr ⟨hm,ak.2⟩,aoV aT.size hm⟩
   ·rw[(O5 ah).1];exact aA
   ·rw[(O5 ah).2];exact aG
   ·rw[aj6,apn]
   ·have:=lE.lt a7;have jK:Lib.byteCells (bytes++vS.data.toList)=Lib.byteCells bytes++Lib.strCells vS:=apn;rw[aj5,jK];exact this.ar (fun _ h=>h) fun _ _ _=>rfl
  ·
   rename_i ks _ _;have ks:=aoE ks;obtain⟨c,bK,bg,aC,gl,_⟩:=adM ks;split at h;rotate_left
   ·exact h.elim
   rename_i l tC;obtain⟨cT,h⟩:=h;obtain⟨⟨N,ρ,M,aa,ad,ax,aV,bp⟩,aT⟩:=dS;rw[tC]at bp;obtain⟨b,bytes,aA,aG,rfl,cY⟩:=bp;refine next bK bg aC (cq:=#[.pointer (some ⟨b,0,none⟩)]) (by rw[gl];simp only[aqD,ape,List.map_nil];show#[a.tmps.getD X.β undef]=_;rw[aA]) jq.T6 (jq.read b _ w M cY fun e=>cT (by rw[e];rfl)) ?_
   rintro e w' ⟨rfl,bl⟩;refine⟨_,rfl,bM ⟨_,_,_⟩ _ _ h ?_⟩;have nu:=ad.aside bl fun b hm=>(aV b hm).1;refine⟨⟨_,ρ,fun _=>False,fun b ah=> .inl (aa b ah),⟨nu.e5,eg.put nu.eG _ (v:= .string ⟨bytes.toArray⟩) (t:= .d (.str (bytes.map fun x=>(x.toNat:Int)))) (.dc (bA.str _ _ (by simp))),by cases (ops[i]).dst<;>exact nu.ik⟩,ax,fun _ h=>h.elim,trivial⟩,j7.lM aT bl fun b hm=>(aV b hm).2⟩
  ·exact h.elim
theorem Zh (jq:zW P X){o:Oper}(aH:o.op= .alloc X.pD)(a:Act)(w:World):
 (execOp a.eval o).run P w= .ok (.value (.pointer (some ⟨w.heap.size,0,none⟩))) (w.alloc (.cells #[.pointer none, .slice none 0 0] X.pD)):=by
 have:=jq.zero w;unfold execOp;rw[aH];simp[Instr.alloc,this,newVar,newRow,Value.cells]
theorem Zi (dO:hG P X.E)(jq:zW P X)(c:Code):∀(bE:Nat) (S:lh) (K:h_->lh->Prop) (a:Act) (w:World),kl X c bE S K->qe X oK eo S a w->
 c.wp P (fun e b5 w'=>∃(cb:h_) (S':lh),e=cb.to/\K cb S'/\qe X oK eo S' b5 w') a w:=by
 induction c with
 |skip=>intro bE S K a w h dS;exact wp_skip ⟨.normal,S,rfl,h,dS⟩
 |label l=>intro bE S K a w h dS;exact wp_label ⟨.normal,S,rfl,h,dS⟩
 |exit id=>intro bE S K a w h dS;exact wp_exit ⟨.exit id,S,rfl,h,dS⟩
 |goto l=>intro bE S K a w h dS;exact wp_goto ⟨.goto l,S,rfl,h,dS⟩
 |ret=>intro bE S K a w h dS;exact wp_ret ⟨.ret,S,rfl,h,dS⟩
 |region id ops draw=>
  intro bE S K a w h dS;unfold kl at h
  have walk:X.quiet ops.toList=true->sE X ops.toList ops.toList S (K .normal)->(Code.region id ops false).wp P (fun e b5 w'=>∃(cb:h_) (S':lh),e=cb.to/\K cb S'/\qe X oK eo S' b5 w') a w:=by
   intro aZ hw;refine wp_region (t_ (fun e b5 w' ca=> ?_) _ _ _ (MA dO jq ops aZ (K:=K .normal) (List.range ops.size) (fun i hi=>by simpa using hi) S a w (by rw[QE];exact hw) dS));obtain⟨rfl,S',a7,bl⟩:=ca;exact⟨.normal,S',rfl,a7,bl⟩
  cases draw with
  |true=>
   simp only at h;split at h;rotate_left
   ·exact h.elim
   rename_i EX;obtain⟨⟨N,ρ,M,aa,ad,ax,aV,bp⟩,aT⟩:=dS
   have aZ:X.quiet ops.toList=true:=by
    unfold hC.quiet;rw[fH,aoU]at EX⊢;intro o aH;have:=EX o aH;rw[aoM]at this;have ad:=this.2;unfold hC.quiet at ad;simp only[ef]at ad;split at ad
    ·assumption
    ·cases ad
   refine wp_mono (He X.E dO _ _ _ _ _ w ρ h ad) fun e b5 w' ca=> ?_;obtain⟨cb,rfl,aD⟩:=ca;obtain⟨ev,al,a7,bl⟩:=Oa aa ad ax aV bp aT (P_ aZ) aD;exact⟨cb,_,rfl,a7,bl⟩
  |false=>
   simp only at h;split at h
   ·rename_i o gp tC bG;split at h
    ·
     rename_i ks;have ks:=aoE ks;obtain⟨bK,bg,aY⟩:=acn ks;have I6:ops=#[o]:=by rw[<-Array.toList_inj];exact gp
     subst I6;obtain⟨⟨N,ρ,M,aa,ad,ax,aV,bp⟩,aT⟩:=dS
     have T7:X.β<S.tm.length:=by
      rw[cO]at bG;exact Nat.lt_of_succ_le (ao9 bG)
     refine wp_region ?_;show wpOps P #[o] _ [0] a w;simp only[wpOps,List.getElem?_toArray,List.getElem?_cons_zero];rw[aoB (by simp[Region.wanted,bg])];left;unfold Oper.wp;rw[Zh jq bK,Oper.upon_value];have bl:j7 (fun _=>False) w (w.alloc (.cells #[.pointer none, .slice none 0 0] X.pD)):=⟨rfl,rfl,rfl,by simp,fun k ae _=>Lib.alloc_old w _ k ae⟩;have nu:=ad.aside bl fun b hm=>hm.elim;have cr:(w.alloc (.cells #[.pointer none, .slice none 0 0] X.pD)).heap.size=w.heap.size+1:=by simp
     refine⟨.normal,_,rfl,h,⟨_,ρ,fun x=>x=w.heap.size,fun b ah=> .inl (aa b ah),⟨nu.e5, ?_, ?_⟩,ax,fun x ak=> ?_, ?_⟩,j7.lM aT bl fun b hm=>hm.elim⟩
     ·have:=eg.put nu.eG o.dst (v:= .pointer (some ⟨w.heap.size,0,none⟩)) (t:= .any) trivial;rw[aY]at this⊢;exact this
     ·rw[aY];exact nu.ik
     ·subst ak;exact⟨.inr ⟨aoH _,by omega⟩,aT.size⟩
     ·refine⟨w.heap.size,[], ?_, ?_,rfl, .pointer none, .slice none 0 0, .inl rfl,rfl,(fun g bg=>by cases bg), ?_,⟨rfl, .inl ⟨rfl,rfl⟩⟩,(fun h=>by cases h)⟩
      ·rw[aY,Act.put,wa,aoB ⟨rfl,by rw[ad.eG.size];exact T7⟩]
      ·rw[aY,Act.put];simp only[Array.size_setIfInBounds];rw[ad.eG.size];exact T7
      ·exact nU w _
    ·split at h
     ·rename_i aZ;exact walk aZ h
     ·exact h.elim
   ·split at h
    ·rename_i aZ;exact walk aZ h
    ·exact h.elim
 |seq x y rR rS=>
  intro bE S K a w h dS;unfold kl at h;refine wp_seq (wp_mono (rR bE S _ a w h dS) fun e a1 w1 ca=> ?_);obtain⟨cb,S',rfl,a7,bl⟩:=ca
  cases cb with
  |normal=>exact rS bE S' K a1 w1 a7 bl
  |_=>exact⟨_,S',rfl,a7,bl⟩
 |cond c x y rR rS=>
  intro bE S K a w h dS
  have cK:∃Z ρ,bF Z w ρ S.I (a_ S.tm c) (a.eval c):=by
   obtain⟨⟨N,ρ,M,aa,ad,ax,aV,bp⟩,aT⟩:=dS;exact⟨_,ρ,OC (S:=⟨S.tm,S.I⟩) ad c⟩
  obtain⟨Z,ρ,cK⟩:=cK;unfold kl at h;split at h
  ·rename_i he;rw[he]at cK;exact wp_cond_true cK (rR bE S K a w h dS)
  ·rename_i he;rw[he]at cK;exact wp_cond_false cK (rS bE S K a w h dS)
  ·rename_i b he;rw[he]at cK;have ah:=mL cK
   cases b with
   |true=>exact wp_cond_true ah (rR bE S K a w h dS)
   |false=>exact wp_cond_false ah (rS bE S K a w h dS)
  ·exact h.elim
 |block id c bM=>
  intro bE S K a w h dS;unfold kl at h;refine wp_block (wp_mono (bM id S _ a w h dS) fun e b5 w' ca=> ?_);obtain⟨cb,S',rfl,aD,oB⟩:=ca
  cases cb with
  |normal=>exact⟨.normal,S',rfl,aD,oB⟩
  |goto l=>exact⟨.goto l,S',rfl,aD,oB⟩
  |ret=>exact⟨.ret,S',rfl,aD,oB⟩
  |exit i=>
   simp only at aD;show(if i=id then _ else _);split
   ·rename_i hi;subst hi;simp only[apB]at aD;exact⟨.normal,S',rfl,aD,oB⟩
   ·rename_i hi
    have:Nat.beq i id=false:=by
     cases ah:Nat.beq i id with
     |false=>rfl
     |true=>exact absurd (aoE ah) hi
    simp only[this]at aD;exact⟨.exit i,S',rfl,aD,oB⟩
 |loop c bM=>
  intro bE S K a w h dS;unfold kl at h;refine Gw (fun(x:Nat×lh) b5 w'=>En (kl X c bE) x.1 x.2 K/\qe X oK eo x.2 b5 w') (fun x=>x.1) (X.fuel,S) ⟨h,dS⟩ ?_;rintro⟨n,fE⟩ a1 w1 ⟨fO,aj7⟩
  cases n with
  |zero=>exact fO.elim
  |succ n=>
   unfold En at fO;refine wp_mono (bM bE fE _ a1 w1 fO aj7) fun e a2 dq ca=> ?_;obtain⟨cb,S',rfl,aD,oB⟩:=ca
   cases cb with
   |normal=>exact⟨(n,S'),⟨aD,oB⟩,Nat.lt_succ_self n⟩
   |_=>exact⟨_,S',rfl,aD,oB⟩
 |scope c bM=>
  intro bE S K a w h dS;unfold kl at h;refine wp_scope_straight (wp_mono (bM bE S _ a w h dS) fun e b5 w' ca=> ?_);obtain⟨cb,S',rfl,aD,oB⟩:=ca
  cases cb with
  |normal=>exact⟨.normal,S',rfl,aD,oB⟩
  |exit i=>exact⟨.exit i,S',rfl,aD,oB⟩
  |ret=>exact⟨.ret,S',rfl,aD,oB⟩
  |goto l=>exact aD.elim
 |refuse s=>intro bE S K a w h dS;exact h.elim
 |rangeFunc=>intro bE S K a w h dS;exact h.elim
theorem wk (dO:hG P X.E)(jq:zW P X){f:FuncId}{fn:Func}{c:Code}(aT:P.funcs[f]? =some fn)(ah:fn.body=some c)(aB:(fn.name== "runtime.NumGoroutine")=false){rvs:List ResultVar}(ao:fn.results=rvs.toArray)
 {ps ts:List bb} (hL:ts.length=rvs.length) {T:List R->(R->Prop)->Prop} (gV:∀args K,T args K->sw X fn.ntmps rvs c args (ns ts K)):iC P f (iU ps T):=
 OE aT ah aB hL fun args K h N w cq aH az aS=>by
  have h:=gV args K h;refine calls_of_wp aT ah ?_
  have ay:eN N [] (pad fn.ntmps args) [] {tmps:=cq++Array.replicate (fn.ntmps-cq.size) undef,defers:=[]} w:=by
   refine⟨aH,⟨by rw[sL];simp[az],fun t=> ?_⟩,rfl⟩;rw[sL]
   by_cases au:t<args.length
   ·have aA:(args++List.replicate (fn.ntmps-args.length) R.un).getD t .un=args.getD t .un:=by simp[aoC,apy au]
    have aG:(cq++Array.replicate (fn.ntmps-cq.size) undef).getD t undef=cq.getD t undef:=by simp[aoJ,aq2 (show t<cq.size by omega)]
    rw[aA,aG];exact aS t au
   ·have aA:(args++List.replicate (fn.ntmps-args.length) R.un).getD t .un= .un:=by
     rw[aoC,apQ (by omega),ap6];split<;>rfl
    have aG:(cq++Array.replicate (fn.ntmps-cq.size) undef).getD t undef=undef:=by
     rw[aoJ,Array.getElem?_append_right (by omega),Array.getElem?_replicate];split<;>rfl
    rw[aA,aG];exact bF.un
  have dS:qe X N w ⟨pad fn.ntmps args,[],none⟩ {tmps:=cq++Array.replicate (fn.ntmps-cq.size) undef,defers:=[]} w:=
   ⟨⟨N,[],fun _=>False,fun _ h=>h,ay,fun b ⟨i,aw,e,_⟩=>by simp at e,fun _ h=>h.elim,trivial⟩,j7.refl _ _⟩
  unfold sw at h;refine wp_mono (Zi dO jq c _ _ _ _ w h dS) fun e b5 w' ca=> ?_;obtain⟨cb,S',rfl,a7,⟨⟨nj,ρ',M,g1,g2,g3,g4,g5⟩,g6⟩⟩:=ca
  have fin:(match ln X.E.tb S'.tm S'.I rvs with|true=>gO (jV X.E.tb S'.tm S'.I rvs) (ns ts K (one (gU X.E.tb S'.tm S'.I rvs)) S'.I)|false=>False)->b5.defers=[]/\∃v,(results fn b5.tmps).run P w'= .ok v w'/\
   ∃(nj:Nat->Prop) (rs:List R) (al:aF) (ρ':List Loc) (aI:List Value),Ending.returned v= .returned (if rvs.length=1 then aI.getD 0 undef else .tuple aI.toArray)/\rs.length=rvs.length/\aI.length=rvs.length/\
    ns ts K (one rs) al/\(∀b,N b->nj b)/\ct nj ρ' al w'/\Fr [] [] w ρ' al w'/\∀i,bF (aL nj ρ' al) w' ρ' al (rs.getD i .un) (aI.getD i undef):=fun ae=>by
   split at ae;rotate_left
   ·exact ae.elim
   rename_i bg;rw[ho]at ae;obtain⟨qq,ae⟩:=ae;obtain⟨aI,dG,dD,ei,lf⟩:=BE X.E dO ao g2 bg qq;exact⟨g2.ik,_,dG,nj,_,S'.I,ρ',aI,rfl,ei,dD,ae,g1,g2.e5,⟨g6.os,g6.tape,g6.output,g6.size,fun b ah _=>g6.ar b ah fun h=>h,fun b ah=> .inr (g3 b ah)⟩,lf⟩
  cases cb with
  |normal=>exact fin a7
  |ret=>exact fin a7
  |_=>exact a7.elim
end
end Go.aj
end
section
namespace Go.aj
section
variable {P:Program} {N Gf:Nat->Prop} {ρ:List Loc} {I:aF} {w w':World}
theorem eN.agG {tm:List R}{a:Act}(h:eN N ρ tm I a w)(cr:w.heap.size<=w'.heap.size)(ae:∀b,b<w.heap.size->¬N b->w'.heap[b]? =w.heap[b]?)
 (hn:∀b,b<w.heap.size->Gf b->N b) (bG:∀b,Gf b->b<w'.heap.size):eN Gf ρ tm I a w':=by
 have aH:=h.e5
 have gv:∀x u,bA (aL N ρ I) w x u->bA (aL Gf ρ I) w' x u:=fun x u ao=>
  ao.mono fun b ah bm=>⟨ae b ah fun aB=>bm (.inl aB),fun na=>na.elim (fun ad=>bm (.inl (hn b ah ad))) fun aS=>bm (.inr aS)⟩
 have k1:∀(i:Nat) (aw:Loc) (b:Nat),ρ[i]? =some aw->aw.bE=some b->w'.heap[b]? =w.heap[b]? :=fun i aw b az ah=>ae b (aH.lt i aw b az ah) (aH.fR i aw b az ah)
 refine⟨⟨aH.len,bG,fun i aw b az ah=>aoZ (aH.lt i aw b az ah) cr,aH.inj,fun i aw b az ah aB=>aH.fR i aw b az ah (hn b (aH.lt i aw b az ah) aB),fun i aw az=> ?_⟩,⟨h.eG.size,fun t=> ?_⟩,h.ik⟩
 ·exact(aH.ob i aw az).mono (fun b ah=>k1 i aw b az ah) gv fun _ _ _ id _ _=>eR.refl ρ I id
 ·exact(h.eG.at_ t).mono gv fun id _=>eR.refl ρ I id
theorem pg.seq {x y:Code}{S:fQ}{K:h_->fQ->Prop}(h:pg P x S fun e S'=>match e with| .normal=>pg P y S' K|e=>K e S'):pg P (.seq x y) S K:=fun N a w ρ ay=>by
 have hW:∀t,Code.e8 (.seq x y) t=false->Code.e8 x t=false/\Code.e8 y t=false:=fun t au=>by
  simpa[Code.e8,Bool.or_eq_false_iff]using au
 refine wp_seq (wp_mono (h N a w ρ ay) fun e a1 w1 ca=> ?_);obtain⟨cb,rfl,aD⟩:=ca
 cases cb with
 |normal=>
  obtain⟨gY,c1,eH,a7,bl,bH⟩:=aD.ex;refine wp_mono (a7 N a1 w1 eH bl) fun e a2 dq ca=> ?_;obtain⟨cb,rfl,Ao⟩:=ca;exact⟨cb,rfl,Ao.weaken bH (fun t au=>⟨(hW t au).2,aD.same t (hW t au).1⟩) aD.an fun _ _ h=>h⟩
 |exit i=>exact⟨.exit i,rfl,aD.weaken (Fr.refl _ _ _) (fun t au=>⟨(hW t au).1,rfl⟩) rfl fun _ _ h=>h⟩
 |goto l=>exact⟨.goto l,rfl,aD.weaken (Fr.refl _ _ _) (fun t au=>⟨(hW t au).1,rfl⟩) rfl fun _ _ h=>h⟩
 |ret=>exact⟨.ret,rfl,aD.weaken (Fr.refl _ _ _) (fun t au=>⟨(hW t au).1,rfl⟩) rfl fun _ _ h=>h⟩
theorem pg.mono {x:Code}{S:fQ}{K K':h_->fQ->Prop}(h:pg P x S K)(ae:∀e S,K e S->K' e S):pg P x S K':=fun N a w ρ ay=>
 wp_mono (h N a w ρ ay) fun e a1 w1 ca=>by
  obtain⟨cb,rfl,aD⟩:=ca;obtain⟨gY,c1,eH,a7,bl,bH⟩:=aD.ex;exact⟨cb,rfl,⟨gY,c1,eH,ae _ _ a7,bl,bH⟩,aD.same,aD.an⟩
end
def xi (w:World)(Z:Nat->Prop)(base:Nat)(e:TypeId)(an:Nat)(v:Value)(l:List (List U)):Prop:=
 ∃xs,w.ownsRow base e an v l.length xs/\∀r j,r<l.length->j<an->∃u,xs[r*an+j]? =some u/\bA Z w ((l.getD r []).getD j .undef) u
structure u7 (eW Z:Nat->Prop)(w:World)(base dk:Nat)(e:TypeId)(an:Nat)(ls:List (List (List U)))(aI:Array Value)(l6:TypeId):Prop where
 low:∀b,eW b->base<=b
 top:eW dk
 at_:w.heap[dk]? =some (.cells aI l6 (0,0))
 size:aI.size=ls.length
 inner:∀i,i<ls.length->xi w Z base e an (aI.getD i undef) (ls.getD i [])
 bE:∀i b,i<ls.length->(aI.getD i undef).ownBlock=some b->eW b/\b≠dk
 inj:∀i j b,i<ls.length->j<ls.length->(aI.getD i undef).ownBlock=some b->(aI.getD j undef).ownBlock=some b->i=j
section
variable {P:Program} {eW Z Z':Nat->Prop} {w w':World} {base dk:Nat} {e:TypeId} {an:Nat} {ls:List (List (List U))} {aI:Array Value} {l6:TypeId}
theorem M7 {v:Value}{n:Nat}{xs:List Value}(h:w.ownsRow base e an v n xs)(ae:∀b,v.ownBlock=some b->w'.heap[b]? =w.heap[b]?):w'.ownsRow base e an v n xs:=by
 refine⟨h.1, ?_⟩;rcases h.2 with aB|⟨g,cap,cur,rfl,ah,bg,bQ⟩
 ·exact .inl aB
 ·exact .inr ⟨g,cap,cur,rfl,ah,by rw[ae g rfl];exact bg,bQ⟩
theorem xi.ar {v:Value}{l:List (List U)}(h:xi w Z base e an v l)(ae:∀b,v.ownBlock=some b->w'.heap[b]? =w.heap[b]?)(ao:∀x u,bA Z w x u->bA Z' w' x u):xi w' Z' base e an v l:=by
 obtain⟨xs,aa,ad⟩:=h;refine⟨xs,M7 aa ae,fun r j vu aK=> ?_⟩;obtain⟨u,a7,bl⟩:=ad r j vu aK;exact⟨u,a7,ao _ _ bl⟩
theorem u7.ar (h:u7 eW Z w base dk e an ls aI l6)(ae:∀b,eW b->w'.heap[b]? =w.heap[b]?)(ao:∀x u,bA Z w x u->bA Z' w' x u):u7 eW Z' w' base dk e an ls aI l6:=
 ⟨h.low,h.top,by rw[ae dk h.top];exact h.at_,h.size,fun i hi=>(h.inner i hi).ar (fun b ah=>ae b (h.bE i b hi ah).1) ao,h.bE,h.inj⟩
theorem xi.reads {v:Value}{l:List (List U)}(h:xi w Z base e an v l)(cr:0<an)(bm:∀b,v.ownBlock=some b->¬Z' b)(ao:∀x u,bA Z w x u->bA Z' w x u):bA Z' w (.av an l) v:=by
 obtain⟨xs,⟨az,aH⟩,ad⟩:=h;rcases aH with⟨rfl,aB⟩|⟨g,cap,cur,rfl,ah,bg,aC,_,j3,au⟩
 ·have:l=[]:=aqp aB;subst this;exact .kO _ _ _
 ·refine .av an l l.length g 0 cap (fun i j=>xs.getD (i*an+j) undef) rfl cr (bm g rfl) aC (fun i j hi aK=> ?_) fun i j hi aK=> ?_
  ·obtain⟨u,a7,bl⟩:=ad i j hi aK
   have:cur[i*an+j]? =some u:=by
    rw[<-au,apu]at a7;split at a7
    ·simpa using a7
    ·cases a7
   simp only[World.cell?,bg,aoC,a7,apC];simpa using this
  ·obtain⟨u,a7,bl⟩:=ad i j hi aK;simp only[aoC,a7,apC];exact ao _ _ (by simpa[aoC]using bl)
theorem u7.reads (h:u7 eW Z w base dk e an ls aI l6)(cr:0<an)(bm:∀b,eW b->¬Z' b)(ao:∀x u,bA Z w x u->bA Z' w x u):
 bA Z' w (.av 1 (ls.map fun l=>[.av an l])) (.slice (some ⟨dk,0,none⟩) ls.length ls.length):=by
 refine .av 1 _ ls.length dk 0 ls.length (fun i _=>aI.getD i undef) (by simp) Nat.one_pos (bm _ h.top) (aoH _) (fun i j hi aK=> ?_) fun i j hi aK=> ?_
 ·have bG:i<aI.size:=by rw[h.size];exact hi
  obtain rfl:j=0:=by omega
  simp[World.cell?,h.at_,bG]
 ·obtain rfl:j=0:=by omega
  have:=(h.inner i hi).reads (Z':=Z') cr (fun b ah=>bm b (h.bE i b hi ah).1) ao;simpa[aoC,hi]using this
end
structure u9 (N eW:Nat->Prop)(ix:List Loc)(ea:aF)(eo:World)(e0:Tmp)(dk:Nat)(e:TypeId)(an:Nat)(ls:List (List (List U)))(ρ:List Loc)(S:fQ)(a:Act)(w:World):Prop where
 u_:eN (fun b=>N b\/eW b) ρ S.tm S.I a w
 F3:Fr ix ea eo ρ S.I w
 nest:∃aI l6,u7 eW (aL (fun b=>N b\/eW b) ρ S.I) w eo.heap.size dk e an ls aI l6
 slot:a.tmps.getD e0 undef= .slice (some ⟨dk,0,none⟩) ls.length ls.length
def k3 (P:Program)(e0:Tmp)(e:TypeId)(an:Nat)(c:Code)(S:fQ)(ls:List (List (List U)))(K:h_->fQ->List (List (List U))->Prop):Prop:=
 ∀(N eW:Nat->Prop) (ix:List Loc) (ea:aF) (eo:World) (dk:Nat) (ρ:List Loc) (a:Act) (w:World),u9 N eW ix ea eo e0 dk e an ls ρ S a w->
  c.wp P (fun ex b5 w'=>∃(cb:h_) (S':fQ) (je:List (List (List U))) (h2:Nat->Prop) (ρ':List Loc),ex=cb.to/\K cb S' je/\u9 N h2 ix ea eo e0 dk e an je ρ' S' b5 w'/\
   (∀t,Code.e8 c t=false->b5.tmps.getD t undef=a.tmps.getD t undef)/\b5.tmps.size=a.tmps.size/\∀y u,bA (aL (fun b=>N b\/eW b) ρ S.I) w y u->bA (aL (fun b=>N b\/h2 b) ρ' S'.I) w' y u) a w
section
variable {P:Program} {e0:Tmp} {e:TypeId} {an:Nat} {S:fQ} {ls:List (List (List U))} {K:h_->fQ->List (List (List U))->Prop}
theorem u9.step {N eW:Nat->Prop}{ix ρ ρ':List Loc}{ea:aF}{eo w w':World}{dk:Nat}{a b5:Act}{S':fQ}(h:u9 N eW ix ea eo e0 dk e an ls ρ S a w)(ay:eN (fun b=>N b\/eW b) ρ' S'.tm S'.I b5 w')
 (aT:Fr ρ S.I w ρ' S'.I w') (au:b5.tmps.getD e0 undef=a.tmps.getD e0 undef):u9 N eW ix ea eo e0 dk e an ls ρ' S' b5 w':=by
 obtain⟨aI,l6,aB⟩:=h.nest;have aH:=h.u_.e5;refine⟨ay,h.F3.trans aT,⟨aI,l6,aB.ar (fun b ah=>aT.ar b (aH.fC b (.inr ah)) ?_) fun _ _=>aT.reads⟩,au.trans h.slot⟩;rintro⟨i,aw,aa,ad,_⟩;exact aH.fR i aw b aa ad (.inr ah)
theorem k3.of {c:Code}(h:pg P c S fun ex S'=>K ex S' ls)(au:Code.e8 c e0=false):k3 P e0 e an c S ls K:=fun N eW ix ea eo dk ρ a w ao=>by
 refine wp_mono (h _ a w ρ ao.u_) fun ex b5 w' ca=> ?_;obtain⟨cb,rfl,aD⟩:=ca;obtain⟨ev,al,ρ',a7,bl,bH⟩:=aD.ex;exact⟨cb,⟨ev,al⟩,ls,eW,ρ',rfl,a7,ao.step bl bH (aD.same e0 au),aD.same,aD.an,fun _ _=>bH.reads⟩
theorem k3.mono {c:Code}{K':h_->fQ->List (List (List U))->Prop}(h:k3 P e0 e an c S ls K)(ae:∀ex S l,K ex S l->K' ex S l):k3 P e0 e an c S ls K':=fun N eW ix ea eo dk ρ a w ao=>
 wp_mono (h N eW ix ea eo dk ρ a w ao) fun ex b5 w' ⟨cb,S',je,h2,ρ',aa,ad,ax⟩=>⟨cb,S',je,h2,ρ',aa,ae _ _ _ ad,ax⟩
theorem k3.seq {x y:Code}(h:k3 P e0 e an x S ls fun ex S' cy=>match ex with| .normal=>k3 P e0 e an y S' cy K|ex=>K ex S' cy):k3 P e0 e an (.seq x y) S ls K:=fun N eW ix ea eo dk ρ a w ao=>by
 have hW:∀t,Code.e8 (.seq x y) t=false->Code.e8 x t=false/\Code.e8 y t=false:=fun t au=>by
  simpa[Code.e8,Bool.or_eq_false_iff]using au
 refine wp_seq (wp_mono (h N eW ix ea eo dk ρ a w ao) fun ex a1 w1 ca=> ?_);obtain⟨cb,S',je,h2,ρ',rfl,ad,ax,aV,bp,b1⟩:=ca
 cases cb with
 |normal=>
  refine wp_mono (ad N h2 ix ea eo dk ρ' a1 w1 ax) fun ex a2 dq ca=> ?_;obtain⟨akr,aks,agH,agI,jX,rfl,g2,g3,g4,g5,g6⟩:=ca;exact⟨akr,aks,agH,agI,jX,rfl,g2,g3,fun t au=>(g4 t (hW t au).2).trans (aV t (hW t au).1),g5.trans bp,fun y u h=>g6 y u (b1 y u h)⟩
 |exit i=>exact⟨.exit i,S',je,h2,ρ',rfl,ad,ax,fun t au=>aV t (hW t au).1,bp,b1⟩
 |goto i=>exact⟨.goto i,S',je,h2,ρ',rfl,ad,ax,fun t au=>aV t (hW t au).1,bp,b1⟩
 |ret=>exact⟨.ret,S',je,h2,ρ',rfl,ad,ax,fun t au=>aV t (hW t au).1,bp,b1⟩
theorem k3.block {id:Nat}{c:Code}(h:k3 P e0 e an c S ls fun ex S' cy=>match ex with| .exit i=>(if i=id then K .normal S' cy else K (.exit i) S' cy)|ex=>K ex S' cy):k3 P e0 e an (.block id c) S ls K:=fun N eW ix ea eo dk ρ a w ao=>by
 refine wp_block (wp_mono (h N eW ix ea eo dk ρ a w ao) fun ex a1 w1 ca=> ?_);obtain⟨cb,S',je,h2,ρ',rfl,ad,ax,aV,bp,b1⟩:=ca
 cases cb with
 |normal=>exact⟨.normal,S',je,h2,ρ',rfl,ad,ax,aV,bp,b1⟩
 |goto i=>exact⟨.goto i,S',je,h2,ρ',rfl,ad,ax,aV,bp,b1⟩
 |ret=>exact⟨.ret,S',je,h2,ρ',rfl,ad,ax,aV,bp,b1⟩
 |exit i=>
  simp only at ad;show(if i=id then _ else _);split
  ·rename_i hi;rw[aoB hi]at ad;exact⟨.normal,S',je,h2,ρ',rfl,ad,ax,aV,bp,b1⟩
  ·rename_i hi;rw[aoA hi]at ad;exact⟨.exit i,S',je,h2,ρ',rfl,ad,ax,aV,bp,b1⟩
theorem k3.loop (E:bD){c:Code}{bE:Nat}(aQ:dv (E.loops bE).ps->List (List (List U))->Prop)(m:dv (E.loops bE).ps->List (List (List U))->Nat)
 (bc:sq (fun _=>false) (E.loops bE) (iT (E.loops bE).conv S) (iT (E.loops bE).conv S) fun y=>aQ y ls)
 (round:∀x l,aQ x l->k3 P e0 e an c (mh (E.loops bE) (iT (E.loops bE).conv S) x) l fun ex S' cy=>match ex with
   | .normal=>sq (Code.e8 c) (E.loops bE) (iT (E.loops bE).conv S) (np (E.loops bE).conv S') fun y=>aQ y cy/\m y cy<m x l
   |ex=>K ex S' cy):k3 P e0 e an (.loop c) S ls K:=fun N eW ix ea eo dk ρ a w ao=>by
 obtain⟨xK,lT,Uk⟩:=ua (E.loops bE).conv S ρ ao.u_
 have akt:=ao.step (S':=iT (E.loops bE).conv S) lT Uk rfl;obtain⟨cl,kX,eH,e_,xG⟩:=BJ (fun _=>false) _ _ lT lT (Fr.refl _ _ _) (fun _ _=>rfl) rfl bc
 refine Gw (fun(x:dv (E.loops bE).ps×List (List (List U))) b5 w'=>aQ x.1 x.2/\(∃h2 ρ',u9 N h2 ix ea eo e0 dk e an x.2 ρ' (mh (E.loops bE) (iT (E.loops bE).conv S) x.1) b5 w'/\
  ∀y u,bA (aL (fun b=>N b\/eW b) xK (iT (E.loops bE).conv S).I) w y u->bA (aL (fun b=>N b\/h2 b) ρ' (mh (E.loops bE) (iT (E.loops bE).conv S) x.1).I) w' y u)/\
  (∀t,Code.e8 c t=false->b5.tmps.getD t undef=a.tmps.getD t undef)/\b5.tmps.size=a.tmps.size) (fun x=>m x.1 x.2) (cl,ls)
  ⟨kX,⟨eW,eH,akt.step e_ xG rfl,fun _ _=>xG.reads⟩,fun _ _=>rfl,rfl⟩ ?_
 rintro⟨x,l⟩ a1 w1 ⟨fO,⟨aku,dN,ie,Ah⟩,kY,cr⟩;refine wp_mono (round x l fO N aku ix ea eo dk dN a1 w1 ie) fun ex a2 dq ca=> ?_;obtain⟨cb,S',je,h2,ρ',rfl,ad,ax,aV,bp,b1⟩:=ca
 have gB:∀t,Code.e8 c t=false->a2.tmps.getD t undef=a.tmps.getD t undef:=fun t au=>(aV t au).trans (kY t au)
 have Ja:=fun y u h=>b1 y u (Ah y u (Uk.reads h))
 cases cb with
 |normal=>
  obtain⟨g1,g2⟩:=yB (E.loops bE).conv S' ρ' ax.u_
  have akv:=ax.step (S':=np (E.loops bE).conv S') g1 g2 rfl;obtain⟨y,bn,JG,JH,Fj⟩:=Nh (a1:=a) (w1:=w) (S:=np (E.loops bE).conv S') (Code.e8 c) (E.loops bE) _ lT.eG g1 (fun y u h=>g2.reads (b1 y u (Ah y u h))) gB (bp.trans cr) ad;exact⟨(y,je),⟨bn.1,⟨h2,JG,akv.step JH Fj rfl,fun z u h=>Fj.reads (g2.reads (b1 z u (Ah z u h)))⟩,gB,bp.trans cr⟩,bn.2⟩
 |exit i=>exact⟨.exit i,S',je,h2,ρ',rfl,ad,ax,gB,bp.trans cr,Ja⟩
 |goto i=>exact⟨.goto i,S',je,h2,ρ',rfl,ad,ax,gB,bp.trans cr,Ja⟩
 |ret=>exact⟨.ret,S',je,h2,ρ',rfl,ad,ax,gB,bp.trans cr,Ja⟩
end
def iX (n:Nat):Array Bool:=#[0<n,1<n,2<n,3<n,4<n,5<n,6<n,7<n,8<n,9<n,10<n]
def R2 (ops:Array Oper):Bool:=
 Region.noSelect ops&&(List.range 5).all (fun i=>Region.free .any ops (iX i) i&&(Region.ready .any ops (iX i)).contains i)&&
 Region.ready .any ops (iX 5)==[5,6]&&Region.ready .any ops ((iX 5).setIfInBounds 5 true)==[6]&&Region.ready .any ops ((iX 5).setIfInBounds 6 true)==[5,7]&&
 Region.ready .any ops (iX 7)==[7]&&Region.ready .any ops (((iX 5).setIfInBounds 6 true).setIfInBounds 7 true)==[5]&&
 Region.ready .any ops (iX 8)==[8]&&Region.ready .any ops (iX 9)==[9]&&Region.ready .any ops (iX 10)==[10]&&Region.ready .any ops (iX 11)==[]
def mw (ops:Array Oper)(i:Nat)(d:Option Tmp)(p:Op):Prop:=∃o,ops[i]? =some o/\o.dst=d/\o.op=p/\o.guard=none
structure adX (ops:Array Oper)(s e0 l8 gq:Nat)(rZ hD vW:TypeId):Prop where
 size:ops.size=11
 rd:R2 ops=true
 aq:mw ops 0 (some s) (.move (.tmp e0))
 bu:mw ops 1 (some (s+1)) (.move (.tmp l8))
 br:mw ops 2 (some (s+2)) (.move (.tmp e0))
 cQ:mw ops 3 (some (s+3)) (.move (.tmp l8))
 ld:mw ops 4 (some (s+4)) (.indexAddr rZ (.tmp (s+2)) (.tmp (s+3)))
 jf:mw ops 5 (some (s+5)) (.load hD (.tmp (s+4)))
 qD:mw ops 6 (some (s+6)) (.load vW (.tmp gq))
 Gg:mw ops 7 (some (s+7)) (.buildSlice hD 1 #[(0, .tmp (s+6))])
 vV:mw ops 8 (some (s+8)) (.call {callee:= .builtin .append,args:=#[.tmp (s+5), .tmp (s+7)],argTypes:=#[hD,hD]})
 Vh:mw ops 9 (some (s+9)) (.indexAddr rZ (.tmp s) (.tmp (s+1)))
 akw:mw ops 10 none (.store hD (.tmp (s+9)) (.tmp (s+8)))
def qv (a:Act)(n:Nat)(F:Nat->Value):Prop:=a.tmps.size=n/\a.defers=[]/\∀t,a.tmps.getD t undef=F t
theorem qv.at_ {a:Act}{n:Nat}{F:Nat->Value}(h:qv a n F){t:Nat}{v:Value}(e:F t=v):a.eval (.tmp t)=v:=(h.2.2 t).trans e
theorem qv.put {a:Act}{n:Nat}{F:Nat->Value}(h:qv a n F){d:Nat}(aY:d<n)(v:Value):qv (a.put (some d) v) n fun t=>if d=t then v else F t:=
 ⟨by simp[Act.put,h.1],h.2.1,fun t=>by
  simp only[Act.put];rw[wa,h.1,h.2.2]
  by_cases e:d=t
  ·rw[aoB ⟨e,aY⟩,aoB e]
  ·rw[aoA (fun x=>e x.1),aoA e]⟩
section
variable {P:Program} {ops:Array Oper} {Q:Exit->Act->World->Prop} {K:Act->World->Prop} {a:Act} {w:World}
theorem q3 {i:Nat}{d:Option Tmp}{p:Op}{v:Value}{w':World}(h:mw ops i d p)(ao:∀o:Oper,o.op=p->(execOp a.eval o).run P w= .ok (.value v) w')(ae:K (a.put d v) w'):wpOp P ops Q i K a w:=by
 obtain⟨o,aH,rfl,aD,bg⟩:=h;unfold wpOp;simp only[aH];rw[aoB (by simp[Region.wanted,bg])];refine .inl ?_;unfold Oper.wp;rw[ao o aD];exact ae
theorem adY {i:Nat}{d:Option Tmp}{v:Value}{w':World}{o:Oper}(aH:ops[i]? =some o)(aY:o.dst=d)(bg:o.guard=none)(ao:(execOp a.eval o).run P w= .ok (.value v) w')(ae:K (a.put d v) w'):wpOp P ops Q i K a w:=by
 unfold wpOp;simp only[aH];rw[aoB (by simp[Region.wanted,bg])];refine .inl ?_;unfold Oper.wp;rw[ao];subst aY;exact ae
theorem aaY {i:Nat}{p:Op}{w':World}(h:mw ops i none p)(ao:∀o:Oper,o.op=p->(execOp a.eval o).run P w= .ok .skip w')(ae:K a w'):wpOp P ops Q i K a w:=by
 obtain⟨o,aH,aY,aD,bg⟩:=h;unfold wpOp;simp only[aH];rw[aoB (by simp[Region.wanted,bg])];refine .inl ?_;unfold Oper.wp;rw[ao o aD];show K (a.put o.dst undef) w';rw[aY];exact ae
theorem take_one {i:Nat}{d:Option Tmp}{p:Op}{v:Value}{fuel:Nat}{l cy:Array Bool}(h:mw ops i d p)(az:l.setIfInBounds i true=cy)(ay:Region.noSelect ops=true)(aT:Region.free .any ops l i=true)
 (ao:(Region.ready .any ops l).contains i=true) (aZ:∀c a w,¬Q (.panic c) a w) (aM:∀(o:Oper) (w:World),o.op=p->(execOp a.eval o).run P w= .ok (.value v) w) (ae:wpAny P .any ops Q fuel cy (a.put d v) w):wpAny P .any ops Q (fuel+1) l a w:=by
 obtain⟨o,aH,rfl,aD,bg⟩:=h;subst az;exact wpAny_take aH ay aT ao (fun c a w h=>(aZ c _ w h).elim) (.inl ⟨by simp[Region.wanted,bg],fun w=>aM o w aD⟩) ae
theorem uC {i:Nat}{fuel:Nat}{l cy:Array Bool}(az:l.setIfInBounds i true=cy)(ao:Region.ready .any ops l=[i])(ae:wpOp P ops Q i (wpAny P .any ops Q fuel cy) a w):wpAny P .any ops Q (fuel+1) l a w:=by
 subst az;exact wpAny_all ao (by simp) fun j aK=>by rw[apr]at aK;subst aK;exact ae
theorem Zl {aI:Array Value}{k:Nat}{v:Value}(ae:k<aI.size):(aI.toList.take k++[v]++aI.toList.drop (k+1)).toArray=aI.setIfInBounds k v:=by
 apply Array.ext';rw[Array.toList_setIfInBounds,List.set_eq_take_append_cons_drop,aoB (by simpa using ae)];simp
theorem aaZ {t:TypeId}{i:b4}(hi:c4 P t i=true){s:b6}(ay:i.ty= .aE s)(b k:Nat)(aI:Array Value)(e:TypeId)(ah:w.heap[b]? =some (.cells aI e (0,0)))(ae:k<aI.size)(a:Option Addr)(n c:Nat):
 (Instr.storeAt t (.pointer (some ⟨b,k,none⟩)) (.slice a n c)).run P w= .ok () (w.setRow b (aI.setIfInBounds k (.slice a n c))):=by
 obtain⟨g,aa,ad⟩:=Qw hi ay;have cR:=run_storeCells_at P b k e [.slice a n c] 0 aI w ah (by simp;omega) (by simp[Value.oneCell']);simp only[ao0,apL,Zl ae]at cR;simp[Instr.storeAt,Instr.sureAddr,storeVar,lk aa,ad,Value.cells,cR]
theorem Zm {base:Nat}{t ty e:TypeId}{i:TypeInfo}{z:Value}(au:P.underlying t=some (.slice e))(hi:P.info? e=some i)(bm:i.zero=some z)
 {size:Nat} (p6:i.size=size) {v:Value} {n:Nat} {xs:List Value} (fk:w.ownsRow base e size v n xs) {iz:Addr} {c:Nat} {news:List Value} (az:news.length=1*size) (mT:∀j u,news[j]? =some u->w.cell? (iz.add j)=some u) (aa:∀u∈news,u.oneCell'=true)
 (pa:n+1<=maxLen) (w2:(n+1)*i.bytes<=140737488355328) {c7:Value} {w':World} (ao:(Builtin.append_ #[t,t] ty #[v, .slice (some iz) 1 c]).run P w= .ok c7 w'):
 c7.ownBlock=v.ownBlock\/c7.ownBlock=some w.heap.size:=by
 subst p6;have anB:n+1<=9223372036854775807:=by simp only[maxLen]at pa;omega
 rcases fk.2 with⟨rfl,rfl⟩|⟨g,cap,cur,rfl,aog,bg,Jw,po,j3,anP⟩
 ·rw[run_append_nil (P:=P) w t ty e i z au hi bm iz 1 c news az mT (by omega) (by omega) (by simp only[ao8]at w2;omega)]at ao;simp only[Result.ok.injEq]at ao;rw[<-ao.1];exact .inr rfl
 ·by_cases sU:n+1<=cap
  ·rw[run_append_room (P:=P) w t ty e i au hi g n cap cur bg iz 1 c news az mT aa sU (by rw[az,j3,<-aoX];exact aoR _ sU)]at ao;simp only[Result.ok.injEq]at ao;rw[<-ao.1];exact .inl rfl
  ·rw[run_append_grow (P:=P) w t ty e i z au hi bm ⟨g,0,none⟩ n cap xs fk.1 (fk.cells (g:=g) rfl) iz 1 c news az mT (by omega) (by omega) (growslice_fits (by omega) w2)]at ao;simp only[Result.ok.injEq]at ao;rw[<-ao.1];exact .inr rfl
end
section
variable {P:Program} {a:Act} {w w':World} {o:Oper}
theorem run_move {x:Operand}(h:o.op= .move x):(execOp a.eval o).run P w= .ok (.value (a.eval x)) w:=by unfold execOp;rw[h];rfl
theorem Rg {t:TypeId}{x i:Operand}{v:Value}(h:o.op= .indexAddr t x i)(ao:(Instr.indexAt t (a.eval x) (a.eval i)).run P w= .ok v w):(execOp a.eval o).run P w= .ok (.value v) w:=by
 unfold execOp;rw[h];simp[ao]
theorem R3 {t:TypeId}{x:Operand}{v:Value}(h:o.op= .load t x)(ao:(Instr.loadAt t (a.eval x)).run P w= .ok v w):(execOp a.eval o).run P w= .ok (.value v) w:=by
 unfold execOp;rw[h];simp[ao]
theorem adZ {t:TypeId}{x y:Operand}(h:o.op= .store t x y)(ao:(Instr.storeAt t (a.eval x) (a.eval y)).run P w= .ok () w'):(execOp a.eval o).run P w= .ok .skip w':=by
 unfold execOp;rw[h];simp[ao]
theorem ad0 {t:TypeId}{n:Nat}{x:Operand}{v:Value}(h:o.op= .buildSlice t n #[(0,x)])(ao:(Instr.buildSlice t n #[(0,a.eval x)]).run P w= .ok v w'):(execOp a.eval o).run P w= .ok (.value v) w':=by
 unfold execOp;rw[h];simp[ao]
theorem ad1 {t:TypeId}{x y:Operand}{v:Value}(h:o.op= .call {callee:= .builtin .append,args:=#[x,y],argTypes:=#[t,t]})(ao:(Builtin.append_ #[t,t] o.type #[a.eval x,a.eval y]).run P w= .ok v w'):(execOp a.eval o).run P w= .ok (.value v) w':=by
 unfold execOp;simp only[h,resolve,invoke,builtin,Sem.run_bind,Sem.run_pure,Result.andThen_ok,aqD,ape,List.map_nil,ao]
end
def va (s:Nat):Nat->List R->List R
 |0,l=>l
 |n+1,l=>c0 (va s n l) (s+n) .any
theorem Qj (s:Nat)(l:List R):∀n,s+n<=l.length->(va s n l).length=l.length/\∀t,(va s n l).getD t .un=if s<=t/\t<s+n then .any else l.getD t .un
 |0,h=>⟨rfl,fun t=>by rw[aoA (by omega)];rfl⟩
 |n+1,h=>by
  obtain⟨aa,ad⟩:=Qj s l n (by omega);simp only[va,e2];refine⟨by simp[aa],fun t=> ?_⟩;rw[e1,aa,ad]
  by_cases e:s+n=t
  ·rw[aoB ⟨e,by omega⟩,aoB (by omega)]
  ·rw[aoA (fun x=>e x.1)]
   by_cases q:s<=t/\t<s+n
   ·rw[aoB q,aoB (by omega)]
   ·rw[aoA q,aoA (by omega)]
section
variable {P:Program} {e0:Nat} {e:TypeId} {an:Nat} {S:fQ} {ls:List (List (List U))} {K:h_->fQ->List (List (List U))->Prop}
theorem k3.append (E:bD)(dO:hG P E){id:Nat}{ops:Array Oper}{s l8 gq:Nat}{rZ hD vW:TypeId}(h:adX ops s e0 l8 gq rZ hD vW)(Ul:(E.tb rZ).ty= .aE (.ee 1))(gh:(E.tb hD).ty= .aE (.ee an))(FD:P.underlying hD=some (.slice e))
 {k:Int} {Gc:List Prop} {v6:R} {row:List U} (ay:s+10<=S.tm.length) (aY:e0<s/\l8<s/\gq<s) (ae:a_ S.tm (.tmp l8)= .d (.int .i64 k)) (bc:0<=k) (aa:k<ls.length)
 (qs:h7 (E.tb vW).ty (a_ S.tm (.tmp gq)) S.I= .a6 Gc v6 S.I) (akx:∀p∈Gc,p) (kR:hP S.I an (E.tb hD).f_ 1 [(0,v6)]=some [row]) (cr:an<=65536) (oo:0<(E.tb hD).bytes)
 (ah:((ls.getD k.toNat []).length+1)*(E.tb hD).bytes<=140737488355328)
 (fF:K .normal ⟨va s 10 S.tm,S.I++[(false, .av an [row])]⟩ (ls.set k.toNat (ls.getD k.toNat []++[row]))):k3 P e0 e an (.region id ops true) S ls K:=fun N eW ix ea eo dk ρ a w ao=>by
 obtain⟨d1,d2,d3⟩:=aY;have zZ:cn (fun b=>N b\/eW b) ρ S.I w ρ S.I {w with drawn:=w.drawn+1}:=cn.drew ao.u_.e5 rfl rfl rfl rfl;have e_:eN (fun b=>N b\/eW b) ρ S.tm S.I a {w with drawn:=w.drawn+1}:=⟨zZ.rel,ao.u_.eG.step zZ,ao.u_.ik⟩;have ie:=ao.step (S':=S) e_ zZ.toFr rfl;refine wp_region_any dO.mixed ?_;rw[h.size];have gv:=h.rd;simp only[R2,aoM,beq_iff_eq]at gv;obtain⟨⟨⟨⟨⟨⟨⟨⟨⟨⟨z1,cH⟩,A8⟩,aky⟩,akz⟩,Vi⟩,akA⟩,amE⟩,amF⟩,akB⟩,akC⟩:=gv
 have cH:∀i,i<5->Region.free .any ops (iX i) i=true/\(Region.ready .any ops (iX i)).contains i=true:=fun i hi=>by
  have:=aoU.1 cH i (by simpa using hi);simpa[aoM]using this
 generalize akD:({w with drawn:=w.drawn+1}:World)=w1 at ie e_⊢
 have ae_:∀y u,bA (aL (fun b=>N b\/eW b) ρ S.I) w y u->bA (aL (fun b=>N b\/eW b) ρ S.I) w1 y u:=akD▸fun _ _=>zZ.toFr.reads
 clear ao zZ;obtain⟨aI,l6,aB⟩:=ie.nest;have aH:=e_.e5;obtain⟨aov,aow,aox,q1,cI,cV,_⟩:=si (dO.ty rZ) Ul;obtain⟨cb,g,z,jo,ky,tK,x_,amG,amH,Vj,Gb⟩:=si (dO.ty hD) gh;rw[FD]at jo;obtain rfl:e=cb:=by simpa using jo
 have iL:z.cells.size=an:=by rw[<-apH,(qL (Z:=fun _=>False) (w:=w1) Gb).1,amH]
 have bG:k.toNat<ls.length:=by omega
 have bZ:a.eval (.tmp l8)= .int .i64 k:=jh (ae▸eA e_.eG (.tmp l8));have el:a.eval (.tmp e0)= .slice (some ⟨dk,0,none⟩) ls.length ls.length:=ie.slot
 have S5:∀w,(Instr.indexAt rZ (.slice (some ⟨dk,0,none⟩) ls.length ls.length) (.int .i64 k)).run P w= .ok (.pointer (some ⟨dk,k.toNat,none⟩)) w:=fun w=>by
  have:=run_indexAt_slice (w:=w) q1 cI dk 0 ls.length ls.length .i64 k bc (by omega);rw[cV]at this;simpa using this
 have k1:dk<w1.heap.size:=aH.fC _ (.inr aB.top)
 have akE:∀w':World,w'.heap[dk]? =w1.heap[dk]? ->(Instr.loadAt hD (.pointer (some ⟨dk,k.toNat,none⟩))).run P w'= .ok (aI.getD k.toNat undef) w':=fun w' hw=>by
  have aC:w'.cell? ⟨dk,k.toNat,none⟩=some (aI.getD k.toNat undef):=by
   have:k.toNat<aI.size:=by rw[aB.size];exact bG
   simp[World.cell?,hw,aB.at_,this]
  simpa[Instr.loadAt,Instr.sureAddr]using y2 (w:=w') (dO.ty hD) gh dk k.toNat aC
 obtain⟨sd,_,akF,akG⟩:=GC (dO.ty vW) aH (op:= .tmp gq) e_.eG qs akx;have akH:b8 .un (c0 S.tm (s+6) v6) (s+6)=v6:=by rw[d_,e2,e1,aoB ⟨rfl,by omega⟩]
 obtain⟨vX,dq,dN,Kd,mx,akI⟩:=Gx (dO.ty hD) aH (a:=a.put (some (s+6)) sd) (tm:=c0 S.tm (s+6) v6) (eg.put e_.eG (some (s+6)) akG) #[(0, .tmp (s+6))] 1 gh
  (show hP S.I an (E.tb hD).f_ 1 [(0,b8 .un (c0 S.tm (s+6) v6) (s+6))]=some [row] by rw[akH];exact kR) (by omega)
 have pe:qv a S.tm.length fun t=>a.eval (.tmp t):=⟨e_.eG.size,e_.ik,fun _=>rfl⟩;have akJ:(a.put (some (s+6)) sd).eval (.tmp (s+6))=sd:=(pe.put (d:=s+6) (by omega) sd).at_ (aoB rfl);have Kd:(Instr.buildSlice hD 1 #[(0,sd)]).run P w1= .ok vX dq:=by rw[<-Kd];simp[akJ]
 have et:dq.heap[dk]? =w1.heap[dk]? :=mx.ar dk k1 fun⟨i,aw,cM,cA,_⟩=>aH.fR i aw dk cM cA (.inr aB.top)
 generalize dH:(fun(ex:Exit) (b5:Act) (w':World)=>∃(cb:h_) (S':fQ) (je:List (List (List U))) (h2:Nat->Prop) (ρ':List Loc),ex=cb.to/\K cb S' je/\u9 N h2 ix ea eo e0 dk e an je ρ' S' b5 w'/\
  (∀t,Code.e8 (.region id ops true) t=false->b5.tmps.getD t undef=a.tmps.getD t undef)/\b5.tmps.size=a.tmps.size/\∀y u,bA (aL (fun b=>N b\/eW b) ρ S.I) w y u->bA (aL (fun b=>N b\/h2 b) ρ' S'.I) w' y u)=Q
 have aZ:∀c a w,¬Q (.panic c) a w:=fun c a w ca=>by
  subst dH;obtain⟨cb,_,_,_,_,ca,_⟩:=ca;cases cb<;>cases ca
 have L:∀i,i<11->(iX i).setIfInBounds i true=iX (i+1):=by decide
 have main:∀(b:Act) (F:Nat->Value),qv b S.tm.length F->F s= .slice (some ⟨dk,0,none⟩) ls.length ls.length->F (s+1)= .int .i64 k->F (s+5)=aI.getD k.toNat undef->F (s+7)=vX->(∀t,t<s\/s+9<t->F t=a.eval (.tmp t))->
  wpAny P .any ops Q 3 (iX 8) b dq:=by
  intro b F dM f0 f1 f5 f7 KL;obtain⟨aw,dQ,hu,_⟩:=akI;have cK:ag.at (S.I++[(false, .av an [row])]) S.I.length= .av an [row]:=by rw[gM,aoB rfl]
  have cf:=mx.rel.ob S.I.length aw dQ;rw[cK]at cf hu;rcases cf with⟨Ev,_⟩|⟨KM,AL,mF,a7,bl,bH,dJ,eZ,gE,k8⟩
  ·cases Ev
  have hu:vX= .slice (some ⟨KM,0,none⟩) 1 aw.cap:=by rw[hu,a7];rfl
  have k8:∀j,j<an->∃v,AL[j]? =some v/\bA (aL (fun b=>N b\/eW b) dN (S.I++[(false, .av an [row])])) dq (row.getD j .undef) v:=fun j aK=>by
   have:=k8 0 j (by simp) aK;simpa using this
  have mT:∀j u,((List.range an).map fun j=>AL.getD j undef)[j]? =some u->j<an/\AL[j]? =some u:=fun j u aK=>by
   rw[apv]at aK
   by_cases az:j<an
   ·obtain⟨v,aA,_⟩:=k8 j az;simp[az]at aK;rw[aA]at aK;exact⟨az,by rw[aA,<-aK];rfl⟩
   ·simp[az]at aK
  have agJ:∀x,eW x->¬gJ ρ S.I x:=fun x ak ⟨i,aw,cM,cA,_⟩=>aH.fR i aw x cM cA (.inr ak)
  have oq:u7 eW (aL (fun b=>N b\/eW b) dN (S.I++[(false, .av an [row])])) dq eo.heap.size dk e an ls aI l6:=
   aB.ar (fun x ak=>mx.ar x (aH.fC x (.inr ak)) (agJ x ak)) fun _ _=>mx.toFr.reads
  obtain⟨xs,nF,JC⟩:=oq.inner k.toNat bG;obtain⟨vV,akK,akL,tG,akM⟩:=h.vV;have hmul:(ls.getD k.toNat []).length+1<=((ls.getD k.toNat []).length+1)*(E.tb hD).bytes:=Nat.le_mul_of_pos_right _ oo;have pa:(ls.getD k.toNat []).length+1<=maxLen:=by simp only[maxLen];omega
  have tC:eo.heap.size<=dq.heap.size:=aoV ie.F3.size mx.size
  have hp:∀j u,((List.range an).map fun j=>AL.getD j undef)[j]? =some u->dq.cell? ((⟨KM,0,none⟩:Addr).add j)=some u:=fun j u aK=>by
   rw[mN];simp[World.cell?,bH,(mT j u aK).2]
  have xm:∀u∈((List.range an).map fun j=>AL.getD j undef),u.oneCell'=true:=fun u hu=>by
   obtain⟨j,aK⟩:=List.getElem?_of_mem hu;obtain⟨az,aA⟩:=mT j u aK;obtain⟨v,aG,aM⟩:=k8 j az;rw[aA]at aG;cases aG;exact aM.one
  obtain⟨bq,bY,Um,FE,qw,_⟩:=run_append_own (P:=P) dq eo.heap.size hD vV.type e g z an (E.tb hD).bytes FD ky Vj tK x_ iL amG _ _ xs nF ⟨KM,0,none⟩ 1 aw.cap _ (by simp) hp xm pa ah tC;have lF:=Zm FD ky Vj tK nF (by simp) hp xm pa (by rw[x_];exact ah) Um;have FF:=dM.put (d:=s+8) (by omega) bq;refine uC (fuel:=2) (L 8 (by omega)) amE (adY akK akL akM (ad1 tG (by rw[dM.at_ f5,dM.at_ f7,hu];exact Um)) ?_);generalize b.put (some (s+8)) bq=KN at FF⊢;have akN:KN.eval (.tmp s)= .slice (some ⟨dk,0,none⟩) ls.length ls.length:=FF.at_ (by simp(disch:=omega) only[aoA,f0]);have akO:KN.eval (.tmp (s+1))= .int .i64 k:=FF.at_ (by simp(disch:=omega) only[aoA,f1]);have r0:=FF.put (d:=s+9) (by omega) (.pointer (some ⟨dk,k.toNat,none⟩));refine uC (fuel:=1) (L 9 (by omega)) amF (q3 h.Vh (fun o aH=>Rg aH (by rw[akN,akO];exact S5 bY)) ?_);generalize KN.put (some (s+9)) (.pointer (some ⟨dk,k.toNat,none⟩))=vY at r0⊢
  obtain⟨KO,KP,vZ,Ub⟩:∃KO KP vZ,bq= .slice KO KP vZ:=by
   rcases FE.2 with⟨aA,_⟩|⟨_,_,_,aA,_⟩<;>exact⟨_,_,_,aA⟩
  have nc:∀x,(aI.getD k.toNat undef).ownBlock=some x->eW x/\x≠dk:=fun x ak=>aB.bE k.toNat x bG ak
  have ax:bY.heap[dk]? =some (.cells aI l6 (0,0)):=by
   rw[qw.block dk (aoZ k1 mx.size) fun aA=>(nc dk aA.symm).2 rfl];exact oq.at_
  have Un:k.toNat<aI.size:=by rw[aB.size];exact bG
  have akP:vY.eval (.tmp (s+9))= .pointer (some ⟨dk,k.toNat,none⟩):=r0.at_ (aoB rfl);have akQ:vY.eval (.tmp (s+8))=bq:=r0.at_ (by simp(disch:=omega) only[aoA,apc])
  have cR:(Instr.storeAt hD (vY.eval (.tmp (s+9))) (vY.eval (.tmp (s+8)))).run P bY= .ok () (bY.setRow dk (aI.setIfInBounds k.toNat bq)):=by
   rw[akP,akQ,Ub];exact aaZ (dO.ty hD) gh dk k.toNat aI l6 ax Un KO KP vZ
  refine uC (fuel:=0) (L 10 (by omega)) akB (aaY h.akw (fun o aH=>adZ aH cR) ⟨akC, ?_⟩);subst dH
  have FG:∀x,x≠dk->(bY.setRow dk (aI.setIfInBounds k.toNat bq)).heap[x]? =bY.heap[x]? :=fun x ak=>setRow_other bY dk x _ ak
  have E0:(bY.setRow dk (aI.setIfInBounds k.toNat bq)).heap.size=bY.heap.size:=by simp
  have aV:=setRow_heap bY dk aI (aI.setIfInBounds k.toNat bq) l6 (0,0) ax;have FH:(bY.setRow dk (aI.setIfInBounds k.toNat bq)).os=bY.os/\(bY.setRow dk (aI.setIfInBounds k.toNat bq)).tape=bY.tape/\(bY.setRow dk (aI.setIfInBounds k.toNat bq)).output=bY.output:=⟨rfl,rfl,rfl⟩;generalize bY.setRow dk (aI.setIfInBounds k.toNat bq)=kA at FG E0 aV FH⊢
  have Jb:∀x,x<dq.heap.size->¬eW x->kA.heap[x]? =dq.heap[x]? :=fun x ak mC=>by
   rw[FG x fun aA=>mC (aA▸aB.top)];exact qw.block x ak fun aA=>mC (nc x aA.symm).1
  have hn:∀x,x<dq.heap.size->(N x\/eW x\/bq.ownBlock=some x)->N x\/eW x:=fun x ak h=>by
   rcases h with h|h|h
   ·exact .inl h
   ·exact .inr h
   ·rcases lF with aA|aA
    ·rw[aA]at h;exact .inr (nc x h).1
    ·rw[aA]at h;cases h;omega
  have agK:∀x,(N x\/eW x\/bq.ownBlock=some x)->x<kA.heap.size:=fun x h=>by
   rw[E0];rcases h with h|h|h
   ·exact aoZ (aH.fC x (.inl h)) (aoV mx.size qw.size)
   ·exact aoZ (aH.fC x (.inr h)) (aoV mx.size qw.size)
   ·exact(FE.lt x h).2
  obtain⟨qB,r3⟩:=Qj s S.tm 10 (by omega)
  have afa:eN (fun b=>N b\/eW b) dN (va s 10 S.tm) (S.I++[(false, .av an [row])]) vY dq:=by
   refine⟨mx.rel,⟨r0.1.trans qB.symm,fun t=> ?_⟩,r0.2.1⟩;rw[r3]
   by_cases au:s<=t/\t<s+10
   ·rw[aoB au];exact .dc trivial
   ·rw[aoA au]
    have:vY.tmps.getD t undef=a.tmps.getD t undef:=by
     rw[r0.2.2 t];simp(disch:=omega) only[aoA];exact KL t (by omega)
    rw[this];exact mx.lz (e_.eG.at_ t)
  have gv:∀x u,bA (aL (fun b=>N b\/eW b) dN (S.I++[(false, .av an [row])])) dq x u->bA (aL (fun b=>N b\/eW b\/bq.ownBlock=some b) dN (S.I++[(false, .av an [row])])) kA x u:=fun x u ao=>
   ao.mono fun b ah bm=>⟨Jb b ah fun mC=>bm (.inl (.inr mC)),fun na=>na.elim (fun ad=>bm (.inl (hn b ah ad))) fun aS=>bm (.inr aS)⟩
  have oj:=ie.F3.trans mx.toFr
  have Uo:∀x,bq.ownBlock=some x->x≠dk:=fun x ak aA=>by
   rcases lF with aG|aG
   ·rw[aG]at ak;exact(nc x ak).2 aA
   ·rw[aG]at ak;cases ak;have:=mx.size;omega
  refine⟨.normal,⟨va s 10 S.tm,S.I++[(false, .av an [row])]⟩,_,fun x=>eW x\/bq.ownBlock=some x,dN,rfl,fF,
   ⟨afa.agG (by rw[E0];exact qw.size) (fun x ak akR=>Jb x ak fun mC=>akR (.inr mC)) hn agK,
    ⟨FH.1.trans (qw.os.trans oj.os),FH.2.1.trans (qw.tape.trans oj.tape),FH.2.2.trans (qw.output.trans oj.output),by rw[E0];exact aoV oj.size qw.size,
     fun x ak akS=>by rw[Jb x (by omega) fun mC=>by have:=aB.low x mC;omega];exact oj.ar x ak akS,oj.alive⟩,
    ⟨aI.setIfInBounds k.toNat bq,l6, ?_⟩, ?_⟩,fun t au=> ?_,r0.1.trans e_.eG.size.symm,fun y u h=>gv y u (mx.toFr.reads (ae_ y u h))⟩
  ·have Gh:∀i,i<ls.length->(aI.setIfInBounds k.toNat bq).getD i undef=if k.toNat=i then bq else aI.getD i undef:=fun i hi=>by
    rw[wa]
    by_cases aA:k.toNat=i
    ·rw[aoB ⟨aA,Un⟩,aoB aA]
    ·rw[aoA fun x=>aA x.1,aoA aA]
   have py:∀i,(ls.set k.toNat (ls.getD k.toNat []++[row])).getD i []=if k.toNat=i then ls.getD k.toNat []++[row]else ls.getD i []:=fun i=>by
    rw[e1]
    by_cases aA:k.toNat=i
    ·rw[aoB ⟨aA,bG⟩,aoB aA]
    ·rw[aoA fun x=>aA x.1,aoA aA]
   refine⟨fun x ak=>ak.elim (aB.low x) fun h=>(FE.lt x h).1, .inl aB.top,aV,by simp[aB.size],fun i hi=> ?_,fun i x hi ak=> ?_,fun i j x hi aK ak bn=> ?_⟩
   ·rw[aoT]at hi;rw[Gh i hi,py i]
    by_cases aA:k.toNat=i
    ·rw[aoB aA,aoB aA];refine⟨_,by rw[ao1];exact M7 FE fun x ak=>FG x (Uo x ak),fun r j ao aK=> ?_⟩;have xA:=nF.1;rw[ao1,apL]at ao
     by_cases aG:r<(ls.getD k.toNat []).length
     ·obtain⟨u,la,z2⟩:=JC r j aG aK;have fh:r*an+j<xs.length:=(apt.1 la).1;refine⟨u,by rw[apy fh];exact la, ?_⟩
      have:(ls.getD k.toNat []++[row]).getD r []=(ls.getD k.toNat []).getD r []:=by
       simp only[aoC]at aG⊢;rw[apy aG]
      rw[this];exact gv _ _ z2
     ·obtain rfl:r=(ls.getD k.toNat []).length:=by omega
      obtain⟨u,la,z2⟩:=k8 j aK;refine⟨u, ?_, ?_⟩
      ·rw[apQ (by omega),xA,Nat.add_sub_cancel_left];simp[aK,aoJ,la]
      ·have:(ls.getD k.toNat []++[row]).getD (ls.getD k.toNat []).length []=row:=by simp[aoC]
       rw[this];exact gv _ _ z2
    ·rw[aoA aA,aoA aA];refine(oq.inner i hi).ar (fun x ak=> ?_) gv;obtain⟨fS,gi⟩:=aB.bE i x hi ak;rw[FG x gi];exact qw.block x (aoZ (aH.fC x (.inr fS)) mx.size) fun aG=>aA (aB.inj k.toNat i x bG hi aG.symm ak)
   ·rw[aoT]at hi;rw[Gh i hi]at ak
    by_cases aA:k.toNat=i
    ·rw[aoB aA]at ak;exact⟨.inr ak,Uo x ak⟩
    ·rw[aoA aA]at ak;exact⟨.inl (aB.bE i x hi ak).1,(aB.bE i x hi ak).2⟩
   ·rw[aoT]at hi aK;rw[Gh i hi]at ak;rw[Gh j aK]at bn
    have new:∀i,i<ls.length->k.toNat≠i->bq.ownBlock=some x->(aI.getD i undef).ownBlock=some x->False:=fun i hi cT aA aG=>by
     obtain⟨fS,gi⟩:=aB.bE i x hi aG;rcases lF with bR|bR
     ·rw[bR]at aA;exact cT (aB.inj k.toNat i x bG hi aA aG)
     ·rw[bR]at aA;cases aA;have:=aH.fC _ (.inr fS);have:=mx.size;omega
    by_cases aA:k.toNat=i
    ·by_cases aG:k.toNat=j
     ·omega
     ·rw[aoB aA]at ak;rw[aoA aG]at bn;exact(new j aK aG ak bn).elim
    ·rw[aoA aA]at ak
     by_cases aG:k.toNat=j
     ·rw[aoB aG]at bn;exact(new i hi aA bn ak).elim
     ·rw[aoA aG]at bn;exact aB.inj i j x hi aK ak bn
  ·rw[aoT]
   have:vY.tmps.getD e0 undef=a.tmps.getD e0 undef:=by
    rw[r0.2.2 e0];simp(disch:=omega) only[aoA];exact KL e0 (by omega)
   rw[this];exact el
  ·have aY:∀{i d:Nat} {p:Op},mw ops i (some d) p->¬(d=(t:Nat)):=fun{i d p} ⟨o,cM,cA,_⟩ aA=>by
    have:=Oz cM au;exact this (by rw[cA,aA])
   have z0:=aY h.aq;have la:=aY h.bu;have z2:=aY h.br;have z3:=aY h.cQ;have z4:=aY h.ld;have z5:=aY h.jf;have aoy:=aY h.qD;have aoz:=aY h.Gg;have amI:=aY h.vV;have z9:=aY h.Vh;rw[r0.2.2 t];simp only[aoA z9,aoA amI];exact KL t (by omega)
 refine take_one (fuel:=10) h.aq (L 0 (by omega)) z1 (cH 0 (by omega)).1 (cH 0 (by omega)).2 aZ (fun o w aH=>run_move aH) ?_;have dA:=pe.put (d:=s) (by omega) (a.eval (.tmp e0));generalize a.put (some s) (a.eval (.tmp e0))=a1 at dA⊢;refine take_one (fuel:=9) h.bu (L 1 (by omega)) z1 (cH 1 (by omega)).1 (cH 1 (by omega)).2 aZ (fun o w aH=>run_move aH) ?_;have x5:=dA.put (d:=s+1) (by omega) (a1.eval (.tmp l8));have cM:a1.eval (.tmp l8)= .int .i64 k:=dA.at_ (by simp(disch:=omega) only[aoA,apc,el,bZ]);rw[cM]at x5⊢;generalize a1.put (some (s+1)) (.int .i64 k)=a2 at x5⊢;refine take_one (fuel:=8) h.br (L 2 (by omega)) z1 (cH 2 (by omega)).1 (cH 2 (by omega)).2 aZ (fun o w aH=>run_move aH) ?_;have AX:=x5.put (d:=s+2) (by omega) (a2.eval (.tmp e0));have cA:a2.eval (.tmp e0)= .slice (some ⟨dk,0,none⟩) ls.length ls.length:=x5.at_ (by simp(disch:=omega) only[aoA,apc,el,bZ]);rw[cA]at AX⊢;generalize a2.put (some (s+2)) (.slice (some ⟨dk,0,none⟩) ls.length ls.length)=a3 at AX⊢;refine take_one (fuel:=7) h.cQ (L 3 (by omega)) z1 (cH 3 (by omega)).1 (cH 3 (by omega)).2 aZ (fun o w aH=>run_move aH) ?_;have Bd:=AX.put (d:=s+3) (by omega) (a3.eval (.tmp l8));have dY:a3.eval (.tmp l8)= .int .i64 k:=AX.at_ (by simp(disch:=omega) only[aoA,apc,el,bZ]);rw[dY]at Bd⊢;generalize a3.put (some (s+3)) (.int .i64 k)=a4 at Bd⊢;have hA:a4.eval (.tmp (s+2))= .slice (some ⟨dk,0,none⟩) ls.length ls.length:=Bd.at_ (by simp(disch:=omega) only[aoA,apc,el,bZ]);have tO:a4.eval (.tmp (s+3))= .int .i64 k:=Bd.at_ (by simp(disch:=omega) only[aoA,apc,el,bZ]);refine take_one (fuel:=6) h.ld (L 4 (by omega)) z1 (cH 4 (by omega)).1 (cH 4 (by omega)).2 aZ (fun o w aH=>Rg aH (by rw[hA,tO];exact S5 w)) ?_;have Be:=Bd.put (d:=s+4) (by omega) (.pointer (some ⟨dk,k.toNat,none⟩));generalize a4.put (some (s+4)) (.pointer (some ⟨dk,k.toNat,none⟩))=a5 at Be⊢
 have g4:∀{b:Act} {F:Nat->Value},qv b S.tm.length F->F (s+4)= .pointer (some ⟨dk,k.toNat,none⟩)->∀w':World,w'.heap[dk]? =w1.heap[dk]? ->∀o:Oper,o.op= .load hD (.tmp (s+4))->(execOp b.eval o).run P w'= .ok (.value (aI.getD k.toNat undef)) w':=
  fun ah tR w' hw o aH=>R3 aH (by rw[ah.at_ tR];exact akE w' hw)
 have g6:∀{b:Act} {F:Nat->Value},qv b S.tm.length F->F gq=a.eval (.tmp gq)->∀o:Oper,o.op= .load vW (.tmp gq)->(execOp b.eval o).run P w1= .ok (.value sd) w1:=
  fun ah tR o aH=>R3 aH (by rw[ah.at_ tR];exact akF)
 have g7:∀{b:Act} {F:Nat->Value},qv b S.tm.length F->F (s+6)=sd->∀o:Oper,o.op= .buildSlice hD 1 #[(0, .tmp (s+6))]->(execOp b.eval o).run P w1= .ok (.value vX) dq:=
  fun ah tR o aH=>ad0 aH (by rw[ah.at_ tR];exact Kd)
 have akT:((iX 5).setIfInBounds 5 true).setIfInBounds 6 true=iX 7:=by decide
 have akU:((iX 5).setIfInBounds 6 true).setIfInBounds 5 true=iX 7:=by decide
 have agL:(((iX 5).setIfInBounds 6 true).setIfInBounds 7 true).setIfInBounds 5 true=iX 8:=by decide
 have FK:e0≠s/\gq≠s:=⟨by omega,by omega⟩;refine wpAny_all (fuel:=5) A8 (by simp) fun i hi=> ?_;simp only[aoW,apV,or_false]at hi;rcases hi with rfl|rfl
 ·refine q3 h.jf (g4 Be (aoB rfl) w1 rfl) ?_;have v7:=Be.put (d:=s+5) (by omega) (aI.getD k.toNat undef);refine uC (fuel:=4) akT aky (q3 h.qD (g6 v7 (by simp(disch:=omega) only[aoA])) ?_);have tW:=v7.put (d:=s+6) (by omega) sd;refine uC (fuel:=3) (L 7 (by omega)) Vi (q3 h.Gg (g7 tW (aoB rfl)) ?_);refine main _ _ (tW.put (d:=s+7) (by omega) vX) ?_ ?_ ?_ ?_ fun t au=> ?_
  all_goals simp(disch:=omega) only[aoA,apc,el]
 ·refine q3 h.qD (g6 Be (by simp(disch:=omega) only[aoA])) ?_;have v7:=Be.put (d:=s+6) (by omega) sd;refine wpAny_all (fuel:=4) akz (by simp) fun i hi=> ?_;simp only[aoW,apV,or_false]at hi;rcases hi with rfl|rfl
  ·rw[akU];refine q3 h.jf (g4 v7 (by simp(disch:=omega) only[aoA,apc]) w1 rfl) ?_;have tW:=v7.put (d:=s+5) (by omega) (aI.getD k.toNat undef);refine uC (fuel:=3) (L 7 (by omega)) Vi (q3 h.Gg (g7 tW (by simp(disch:=omega) only[aoA,apc])) ?_);refine main _ _ (tW.put (d:=s+7) (by omega) vX) ?_ ?_ ?_ ?_ fun t au=> ?_
   all_goals simp(disch:=omega) only[aoA,apc,el]
  ·refine q3 h.Gg (g7 v7 (aoB rfl)) ?_;have tW:=v7.put (d:=s+7) (by omega) vX;refine uC (fuel:=3) agL akA (q3 h.jf (g4 tW (by simp(disch:=omega) only[aoA,apc]) dq et) ?_);refine main _ _ (tW.put (d:=s+5) (by omega) (aI.getD k.toNat undef)) ?_ ?_ ?_ ?_ fun t au=> ?_
   all_goals simp(disch:=omega) only[aoA,apc,el]
end
section
variable {P:Program} {ops:Array Oper} {Q jg:Exit->Act->World->Prop}
end
end Go.aj
end
section
namespace Go.aj
structure jR (P:Program)(f:Nat)where
 pf:gA
 s:yL P f pf
 o:hF pf
 k:Nat
 t1:k=1->IT pf
 t2:k=2->It pf
abbrev r1 (P:Program):=List ((f:Nat)×jR P f)
def rv {P:Program}:r1 P->List Nat
 |[]=>[]
 |s::r=>s.1::rv r
def sQ {P:Program}:r1 P->List (Nat×gA)
 |[]=>[]
 |s::r=>(s.1,s.2.pf)::sQ r
def p2 {P:Program}(k:Nat):r1 P->List Nat
 |[]=>[]
 |s::r=>match Nat.beq s.2.k k with|true=>s.1::p2 k r|false=>p2 k r
def b2 {P:Program}(tys:List (Nat×b4))(L:r1 P)(uK meets:List (Nat×Head)):bD:=
 {tys:=tys,cons:=sQ L,data:=p2 1 L,fresh:=p2 2 L,uK:=uK,meets:=meets}
def agM (tys:List (Nat×b4))(t:TypeId):b4:=match fz t tys with|some i=>i|none=>{ty:= .no}
def Ss (P:Program)(tys:List (Nat×b4)):Bool:=ef (fun p=>match c4 P p.1 p.2 with|true=>pV P (agM tys) p.1|false=>false) tys
def w8:List Nat->Bool
 |[]=>true
 |x::r=>match p9 x r with|true=>false|false=>w8 r
theorem Oe {P:Program}:∀{L:r1 P} {p:Nat×gA},p∈sQ L->yL P p.1 p.2/\hF p.2
 |[],_,h=>by cases h
 |s::r,p,h=>by
  rcases aoW.1 h with rfl|h
  ·exact⟨s.2.s,s.2.o⟩
  ·exact Oe h
theorem Of {P:Program}{k:Nat}:∀{L:r1 P} {f:Nat},f∈p2 k L->w8 (rv L)=true->∃s:jR P f,s.k=k/\fz f (sQ L)=some s.pf
 |[],_,h,_=>by cases h
 |s::r,f,h,aB=>by
  have ao:w8 (rv r)=true/\p9 s.1 (rv r)=false:=by
   unfold rv w8 at aB;split at aB
   ·cases aB
   ·rename_i ad;exact⟨aB,ad⟩
  have sub:∀{L:r1 P} {g:Nat},g∈p2 k L->g∈rv L:=fun{L g}=>by
   induction L with
   |nil=>exact fun h=>by cases h
   |cons a b bM=>
    intro h;unfold p2 at h;unfold rv;split at h
    ·rcases aoW.1 h with rfl|h
     ·simp
     ·exact aqa _ (bM h)
    ·exact aqa _ (bM h)
  have tail:f∈p2 k r->∃t:jR P f,t.k=k/\fz f (sQ (s::r))=some t.pf:=fun h=>by
   obtain⟨t,aa,ad⟩:=Of h ao.1
   have ne:Nat.beq s.1 f=false:=by
    cases ah:Nat.beq s.1 f with
    |false=>rfl
    |true=>
     obtain rfl:=aoE ah;have:=wF.2 (sub h);rw[ao.2]at this;cases this
   exact⟨t,aa,by unfold sQ fz;rw[ne];exact ad⟩
  unfold p2 at h;split at h
  ·rename_i ae;rcases aoW.1 h with rfl|h
   ·exact⟨s.2,aoE ae,by unfold sQ fz;rw[apB]⟩
   ·exact tail h
  ·exact tail h
theorem DL {P:Program}{tys:List (Nat×b4)}{L:r1 P}{uK meets:List (Nat×Head)}(aa:Ss P tys=true)(aV:w8 (rv L)=true)(ax:P.follows .mixedOrders=true):hG P (b2 tys L uK meets):=by
 have key:∀{k f},f∈p2 k L->∃s:jR P f,s.k=k/\(b2 tys L uK meets).bx f=s.pf:=fun{k f} h=>by
  obtain⟨s,aa,ad⟩:=Of h aV;refine⟨s,aa, ?_⟩;show(match fz f (sQ L)with|some c=>c|none=>R5)=s.pf;rw[ad]
 refine .of aa (fun p aD=>Oe aD) ax (fun f aT=> ?_) fun f aT=> ?_
 ·obtain⟨s,aA,aG⟩:=key aT;rw[aG];exact s.t1 aA
 ·obtain⟨s,aA,aG⟩:=key aT;rw[aG];exact s.t2 aA
abbrev b0:bb:= .aE (.int .i64)
abbrev dm:bb:= .aE (.cv .u32)
abbrev h5:bb:= .aE .bool
abbrev du:bb:= .aE (.ee 11)
abbrev KQ:bb:= .aE .str
abbrev fP:bb:= .aE .other
abbrev fe:bb:= .struct [] [.bool, .cv .u32, .cv .u32]
structure cC (P:Program)(f:Nat)(ps:List bb)(T:List R->(R->Prop)->Prop):Prop where
 s:iC P f (iU ps T)
 o:lO T
structure pF (P:Program)(f:Nat)(ps:List bb)(T:List R->(R->Prop)->Prop):Prop where
 s:iC P f (nq ps T)
 o:lO T
structure qI (P:Program)(f:Nat)(ps:List bb)(T:List R->(ag->Prop)->Prop):Prop where
 s:iC P f (pS ps T)
 o:nE T
structure v8 (P:Program)(f:Nat)(ps:List bb)(T:List R->(ag->Prop)->Prop):Prop where
 s:iC P f (uH ps T)
 o:nE T
structure hf (P:Program)(f:Nat)(ps:List bb)(T:R->ag->List R->(ag->R->Prop)->Prop):Prop where
 s:iC P f (n7 ps T)
 o:kr T
structure h6 (P:Program)(f n:Nat)(ps:List bb)(T:R->ag->List R->(ag->R->Prop)->Prop):Prop where
 s:iC P f (l9 n ps T)
 o:kr T
structure v_ (P:Program)(f:Nat)(ps:List bb)(T:ag->List R->(ag->Prop)->Prop):Prop where
 s:iC P f (uA ps T)
 o:xN T
structure Bf (P:Program)(f:Nat)(ps:List bb)(T:List R->(R->Prop)->Prop):Prop where
 s:Ps P f (iU ps T)
 o:lO T
section
variable {P:Program} {f:Nat} {ps:List bb}
def cC.d {T:List R->(R->Prop)->Prop}(h:cC P f ps T):jR P f:=⟨iU ps T, .inl h.s,NP h.o,1,fun _=> .inl ⟨ps,T,h.o,rfl⟩,nofun⟩
def cC.n {T:List R->(R->Prop)->Prop}(h:cC P f ps T):jR P f:=cC.d (T:=named T) ⟨by rw[B8];exact h.s,HC h.o⟩
def Bf.d {T:List R->(R->Prop)->Prop}(h:Bf P f ps T):jR P f:=⟨iU ps T, .inr h.s,NP h.o,1,fun _=> .inl ⟨ps,T,h.o,rfl⟩,nofun⟩
def Bf.n {T:List R->(R->Prop)->Prop}(h:Bf P f ps T):jR P f:=Bf.d (T:=named T) ⟨by rw[B8];exact h.s,HC h.o⟩
def pF.d {T:List R->(R->Prop)->Prop}(h:pF P f ps T):jR P f:=⟨nq ps T, .inl h.s,YL h.o,1,fun _=> .inr (.inr ⟨ps,T,h.o,rfl⟩),nofun⟩
def pF.n {T:List R->(R->Prop)->Prop}(h:pF P f ps T):jR P f:=pF.d (T:=named T) ⟨by rw[B8];exact h.s,aaj h.o⟩
def qI.d {T:List R->(ag->Prop)->Prop}(h:qI P f ps T):jR P f:=⟨pS ps T, .inl h.s,XY h.o,2,nofun,fun _=>⟨ps,T,h.o,rfl⟩⟩
def qI.n {T:List R->(ag->Prop)->Prop}(h:qI P f ps T):jR P f:=qI.d (T:=Dh T) ⟨by rw[OG];exact h.s,aaf h.o⟩
def v8.d {T:List R->(ag->Prop)->Prop}(h:v8 P f ps T):jR P f:=⟨uH ps T, .inl h.s,aag h.o,0,nofun,nofun⟩
def v8.n {T:List R->(ag->Prop)->Prop}(h:v8 P f ps T):jR P f:=v8.d (T:=Di T) ⟨by rw[OH];exact h.s,aai h.o⟩
def hf.d {T:R->ag->List R->(ag->R->Prop)->Prop}(h:hf P f ps T):jR P f:=⟨n7 ps T, .inl h.s,YJ h.o,1,fun _=> .inr (.inl ⟨ps,T,h.o,rfl⟩),nofun⟩
def hf.n {T:R->ag->List R->(ag->R->Prop)->Prop}(h:hf P f ps T):jR P f:=hf.d (T:=zi T) ⟨by rw[Hf];exact h.s,OI h.o⟩
def h6.d {n:Nat}{T:R->ag->List R->(ag->R->Prop)->Prop}(h:h6 P f n ps T):jR P f:=⟨l9 n ps T, .inl h.s,Xk h.o,0,nofun,nofun⟩
def h6.n {m:Nat}{T:R->ag->List R->(ag->R->Prop)->Prop}(h:h6 P f m ps T):jR P f:=h6.d (n:=m) (T:=zi T) ⟨by rw[Hf];exact h.s,OI h.o⟩
def v_.d {T:ag->List R->(ag->Prop)->Prop}(h:v_ P f ps T):jR P f:=⟨uA ps T, .inl h.s,YN h.o,0,nofun,nofun⟩
def v_.n {T:ag->List R->(ag->Prop)->Prop}(h:v_ P f ps T):jR P f:=v_.d (T:=DA T) ⟨by rw[OJ];exact h.s,aak h.o⟩
structure qJ (p:Prop):Prop where
 h:p
theorem cU (E:bD)(dO:hG P E)(fn:Func)(rvs:List ResultVar)(ts:List bb){T:List R->(R->Prop)->Prop}(o:lO T)(gV:∀args K,T args K->qJ (mP E fn.ntmps rvs (fn.body.getD .skip) args [] (ns ts K)))
 (aT:P.funcs[f]? =some fn:=by kernel_rfl) (ah:fn.body=some (fn.body.getD .skip):=by kernel_rfl) (aB:(fn.name== "runtime.NumGoroutine")=false:=by kernel_rfl) (ao:fn.results=rvs.toArray:=by kernel_rfl) (hL:ts.length=rvs.length:=by kernel_rfl):cC P f ps T:=
 ⟨YI E dO aT ah aB ao hL (fun args K h=>(gV args K h).h),o⟩
theorem AM (E:bD)(dO:hG P E)(fn:Func)(rvs:List ResultVar){T:List R->(R->Prop)->Prop}(o:lO T)(gV:∀args K,T args K->qJ (mP E fn.ntmps rvs (fn.body.getD .skip) args [] (Iw K)))
 (aT:P.funcs[f]? =some fn:=by kernel_rfl) (ah:fn.body=some (fn.body.getD .skip):=by kernel_rfl) (aB:(fn.name== "runtime.NumGoroutine")=false:=by kernel_rfl) (ao:fn.results=rvs.toArray:=by kernel_rfl):pF P f ps T:=
 ⟨YM E dO aT ah aB ao (fun args K h=>(gV args K h).h),o⟩
theorem FI (E:bD)(dO:hG P E)(fn:Func)(r:Tmp)(t:bb){T:List R->(ag->Prop)->Prop}(o:nE T)(gV:∀args K,T args K->qJ (mP E fn.ntmps [.tmp r] (fn.body.getD .skip) args [] (Df t K)))
 (aT:P.funcs[f]? =some fn:=by kernel_rfl) (ah:fn.body=some (fn.body.getD .skip):=by kernel_rfl) (aB:(fn.name== "runtime.NumGoroutine")=false:=by kernel_rfl) (ao:fn.results=[ResultVar.tmp r].toArray:=by kernel_rfl):qI P f ps T:=
 ⟨XZ E dO aT ah aB ao (fun args K h=>(gV args K h).h),o⟩
theorem akV (E:bD)(dO:hG P E)(fn:Func)(r:Tmp){T:List R->(ag->Prop)->Prop}(o:nE T)(gV:∀args K,T args K->qJ (mP E fn.ntmps [.tmp r] (fn.body.getD .skip) args [] (EA K)))
 (aT:P.funcs[f]? =some fn:=by kernel_rfl) (ah:fn.body=some (fn.body.getD .skip):=by kernel_rfl) (aB:(fn.name== "runtime.NumGoroutine")=false:=by kernel_rfl) (ao:fn.results=[ResultVar.tmp r].toArray:=by kernel_rfl):v8 P f ps T:=
 ⟨aah E dO aT ah aB ao (fun args K h=>(gV args K h).h),o⟩
theorem ig (E:bD)(dO:hG P E)(fn:Func)(rvs:List ResultVar)(ts:List bb){T:R->ag->List R->(ag->R->Prop)->Prop}(o:kr T)(gV:∀a0 ob args K,T a0 ob args K->qJ (CG E fn.ntmps rvs (fn.body.getD .skip) a0 ob args ts K))
 (aT:P.funcs[f]? =some fn:=by kernel_rfl) (ah:fn.body=some (fn.body.getD .skip):=by kernel_rfl) (aB:(fn.name== "runtime.NumGoroutine")=false:=by kernel_rfl) (ao:fn.results=rvs.toArray:=by kernel_rfl) (bc:Code.e8 (fn.body.getD .skip) 0=false:=by kernel_rfl) (hL:ts.length=rvs.length:=by kernel_rfl):hf P f ps T:=
 ⟨YK E dO aT ah aB ao bc hL (fun a o args K h=>(gV a o args K h).h),o⟩
theorem oE (n:Nat)(E:bD)(dO:hG P E)(fn:Func)(rvs:List ResultVar)(ts:List bb){T:R->ag->List R->(ag->R->Prop)->Prop}(o:kr T)(gV:∀a0 ob args K,T a0 ob args K->qJ (yC n E fn.ntmps rvs (fn.body.getD .skip) a0 ob args ts K))
 (aT:P.funcs[f]? =some fn:=by kernel_rfl) (ah:fn.body=some (fn.body.getD .skip):=by kernel_rfl) (aB:(fn.name== "runtime.NumGoroutine")=false:=by kernel_rfl) (ao:fn.results=rvs.toArray:=by kernel_rfl) (bc:Code.e8 (fn.body.getD .skip) n=false:=by kernel_rfl) (hL:ts.length=rvs.length:=by kernel_rfl) (j4:n<=ps.length:=by decide):h6 P f n ps T:=
 ⟨MY n E dO aT ah aB ao bc hL (fun a o args K h=>(gV a o args K h).h) j4,o⟩
theorem akW (E:bD)(dO:hG P E)(fn:Func)(r:Tmp){T:ag->List R->(ag->Prop)->Prop}(o:xN T)(gV:∀b9 args K,T b9 args K->qJ (mP E fn.ntmps [.tmp r] (fn.body.getD .skip) (.vec 0::args) [(false,b9)] (D9 K)))
 (aT:P.funcs[f]? =some fn:=by kernel_rfl) (ah:fn.body=some (fn.body.getD .skip):=by kernel_rfl) (aB:(fn.name== "runtime.NumGoroutine")=false:=by kernel_rfl) (ao:fn.results=[ResultVar.tmp r].toArray:=by kernel_rfl):v_ P f ps T:=
 ⟨YO E dO aT ah aB ao fun an l args K h=>(gV (.av an l) args K h).h,o⟩
theorem cJ {E:bD}{n:Nat}{rvs:List ResultVar}{c:Code}{args:List R}{I:aF}{K:R->aF->Prop}{Q:Prop}(h:mP E n rvs c args I K=Q)(q:Q):qJ (mP E n rvs c args I K):=⟨h▸q⟩
theorem oc {m:Nat}{E:bD}{n:Nat}{rvs:List ResultVar}{c:Code}{a0:R}{ob:ag}{args:List R}{ts:List bb}{K:ag->R->Prop}{Q:Prop}(h:yC m E n rvs c a0 ob args ts K=Q)(q:Q):qJ (yC m E n rvs c a0 ob args ts K):=⟨h▸q⟩
theorem h8 {E:bD}{n:Nat}{rvs:List ResultVar}{c:Code}{a0:R}{ob:ag}{args:List R}{ts:List bb}{K:ag->R->Prop}{Q:Prop}(h:CG E n rvs c a0 ob args ts K=Q)(q:Q):qJ (CG E n rvs c a0 ob args ts K):=⟨h▸q⟩
end
end Go.aj
end
section
namespace Go.aj
structure afb where
 aoh:Nat
 s:Nat
 e0:Nat
 l8:Nat
 gq:Nat
 Va:Nat
 d4:Nat
 rZ:TypeId
 hD:TypeId
 vW:TypeId
 an:Nat
structure anC (P:Program)(E:bD)(X:afb)(e:TypeId):Prop where
 Ul:(E.tb X.rZ).ty= .aE (.ee 1)
 gh:(E.tb X.hD).ty= .aE (.ee X.an)
 FD:P.underlying X.hD=some (.slice e)
 aY:X.e0<X.s/\X.l8<X.s/\X.gq<X.s
 cr:X.an<=65536
 oo:Nat.blt 0 (E.tb X.hD).bytes=true
end Go.aj
end
section
namespace Go.aj
open Go.RowKit Go.ChangeShapes Go.Deep
mutual
inductive Gi:Type where
 |int (k:IntKind)
 |bool
 |str
 |af (k:IntKind)
 |av (l:ng)
inductive ng:Type where
 |nil
 |cons (s:Gi) (r:ng)
end
def ng.app:ng->ng->ng
 | .nil,b=>b
 | .cons s r,b=> .cons s (ng.app r b)
def ng.len:ng->Nat
 | .nil=>0
 | .cons _ r=>Nat.succ (ng.len r)
mutual
def Gi.fits:Gi->U->Prop
 | .int k, .int cz x=>k=cz/\k.min<=x/\x<=k.max
 | .bool, .bool _=>True
 | .str, .str l=>l.length<=maxLen/\∀x∈l,0<=x/\x<256
 | .af k, .af cz l=>k=cz/\l.length<=maxLen/\∀x∈l,k.min<=x/\x<=k.max
 | .av dL, .av an l=>an=dL.len/\l.length<=maxLen/\∀r∈l,ng.fits dL r
 |_,_=>False
def ng.fits:ng->List U->Prop
 | .nil,[]=>True
 | .cons s dL,v::aI=>Gi.fits s v/\ng.fits dL aI
 |_,_=>False
end
def xX (w:World)(Ke:List U)(cs:List Value):Prop:=Ke.length=cs.length/\∀i,i<Ke.length->bA tA w (Ke.getD i .undef) (cs.getD i undef)
theorem xX.one {w:World}{x:U}{v:Value}(h:bA tA w x v):xX w [x] [v]:=⟨rfl,fun i hi=>by
 cases i with
 |zero=>exact h
 |succ i=>simp at hi⟩
theorem xX.app {w:World}{a b:List U}{c d:List Value}(h:xX w a c)(k:xX w b d):xX w (a++b) (c++d):=by
 refine⟨by rw[ao1,ao1,h.1,k.1],fun i hi=> ?_⟩;rw[ao1]at hi;simp only[aoC]
 by_cases az:i<a.length
 ·rw[apy az,apy (by rw[<-h.1];exact az)];have:=h.2 i az;simpa only[aoC]using this
 ·rw[apQ (by omega),apQ (by rw[<-h.1];omega),<-h.1];have:=k.2 (i-a.length) (by omega);simpa only[aoC]using this
section
variable {H:Type} {enc:TypeId×Value->H} {P:Program} {w:World} {base:Nat} {spare:Nat->Bool} {held:Bool}
end
end Go.aj
end
