/- Helpers for the statements: conditions under which code does what is wanted, and proofs that they suffice. Condition: none. -/
import Derived.Test.YtmeonjefiioegaaGreatDoorA1
import Derived.Below
import Derived.ChangeSlices
import Derived.Shelf.Strings.Builder1
import Derived.Deep.AppendSrc
import Derived.Orders
import Derived.Deep.Slices
import Derived.ChangeArms
import Derived.OpenShut
section
namespace Go.al
theorem Xb {a:J}{ob:af}(h:C3 a ob=true):ob.plain=true:=by
 cases a<;>cases ob<;>first|rfl|exact h|cases h
theorem YD {ps:List a7}{T:J->af->List J->(af->J->Prop)->Prop}(h:kr T):hv (n1 ps T):=by
 refine⟨fun args I K K' ae bs=> ?_,fun args I K bs=> ?_⟩
 ·unfold n1 at bs⊢;split
  ·exact bs
  ·rename_i a0 bM;simp only at bs;split
   ·rename_i he;rw[he]at bs;exact bs
   ·rename_i id he;rw[he]at bs;simp only at bs;split
    ·rename_i U aa az aW;rw[U,aa,az,aW]at bs;simp only at bs;rw[x2]at bs⊢;refine⟨bs.1,h.1 _ _ _ _ _ (fun o r aF=> ?_) bs.2⟩;split
     ·rename_i aR;rw[aR]at aF;exact ae _ _ aF
     ·rename_i aR;rw[aR]at aF;exact aF
    ·rename_i ai;split at bs
     ·rename_i U aa az aW;exact(ai U aa az aW).elim
     ·exact bs
 ·unfold n1 at bs;split at bs
  ·exact bs.elim
  ·split at bs
   ·exact bs.elim
   ·split at bs
    ·rw[x2]at bs;obtain⟨o,r,an⟩:=h.2 _ _ _ _ bs.2;split at an
     ·exact⟨_,_,an⟩
     ·exact an.elim
    ·exact bs.elim
theorem XQ {ps:List a7}{T:J->af->List J->(af->J->Prop)->Prop}(h:kr T):hv (oR ps T):=by
 refine⟨fun args I K K' ae bs=> ?_,fun args I K bs=> ?_⟩
 ·unfold oR at bs⊢;split
  ·exact bs
  ·rename_i a0 bM;simp only at bs;split
   ·rename_i he;rw[he]at bs;exact bs
   ·rename_i id he;rw[he]at bs;simp only at bs;split
    ·rename_i U aa az aW;rw[U,aa,az,aW]at bs;simp only at bs;refine h.1 _ _ _ _ _ (fun o r aF=> ?_) bs;split
     ·rename_i aR;rw[aR]at aF;exact ae _ _ aF
     ·rename_i aR;rw[aR]at aF;exact aF
    ·rename_i ai;split at bs
     ·rename_i U aa az aW;exact(ai U aa az aW).elim
     ·exact bs
 ·unfold oR at bs;split at bs
  ·exact bs.elim
  ·split at bs
   ·exact bs.elim
   ·split at bs
    ·obtain⟨o,r,an⟩:=h.2 _ _ _ _ bs;split at an
     ·exact⟨_,_,an⟩
     ·exact an.elim
    ·exact bs.elim
theorem Xc {n:Nat}{ps:List a7}{T:J->af->List J->(af->J->Prop)->Prop}(h:kr T):hv (l6 n ps T):=by
 have bc:=XQ (ps:=ps) h;refine⟨fun args I K K' ae bs=> ?_,fun args I K bs=> ?_⟩
 ·unfold l6 at bs⊢;split
  ·rename_i ag;rw[ag]at bs;exact bc.1 _ _ _ _ ae bs
  ·rename_i ag;rw[ag]at bs;exact bs
 ·unfold l6 at bs;split at bs
  ·exact bc.2 _ _ _ bs
  ·exact bs.elim
def q3:Nat->J->List J->List J
 |0,a,l=>a::l
 |_+1,a,[]=>[a]
 |n+1,a,x::l=>x::q3 n a l
theorem NF:∀(n:Nat) (a:J) (l:List J),n<=l.length->q3 n a l=l.take n++a::l.drop n
 |0,a,l,_=>rfl
 |n+1,a,[],h=>by simp at h
 |n+1,a,x::l,h=>by
  show x::q3 n a l=_;rw[NF n a l (by simpa using h)];rfl
def yf (n:Nat)(E:bw)(ntmps:Nat)(results:List ResultVar)(c:Code)(a0:J)(ob:af)(bM:List J)(ts:List a7)(K:af->J->Prop):Prop:=
 gQ E c 1000000 ⟨pad ntmps (q3 n a0 bM),[(false,ob)]⟩ fun e S=>
  match e with
  | .normal| .ret=>
   (match q0 E.tb S.tm S.I results with
   |true=>(match cw (cD S.I (gO E.tb S.tm S.I results)) 0,af.plain (af.at S.I 0),J.uz (b8 .un S.tm n) a0,sn ts (mc S.I ts (one (gO E.tb S.tm S.I results)))with
    |false,true,true,true=>K (af.at S.I 0) (mc S.I ts (one (gO E.tb S.tm S.I results)))
    |_,_,_,_=>False)
   |false=>False)
  |_=>False
def Cw (E:bw)(ntmps:Nat)(results:List ResultVar)(c:Code)(a0:J)(ob:af)(bM:List J)(ts:List a7)(K:af->J->Prop):Prop:=
 gQ E c 1000000 ⟨pad ntmps (a0::bM),[(false,ob)]⟩ fun e S=>
  match e with
  | .normal| .ret=>
   (match q0 E.tb S.tm S.I results with
   |true=>(match cw (cD S.I (gO E.tb S.tm S.I results)) 0,af.plain (af.at S.I 0),J.uz (b8 .un S.tm 0) a0,sn ts (mc S.I ts (one (gO E.tb S.tm S.I results)))with
    |false,true,true,true=>K (af.at S.I 0) (mc S.I ts (one (gO E.tb S.tm S.I results)))
    |_,_,_,_=>False)
   |false=>False)
  |_=>False
section
variable {P:Program}
theorem Qs (E:bw)(cW:gA P E)
 {f:FuncId} {fn:Func} {c:Code} (aU:P.funcs[f]? =some fn) (ag:fn.body=some c) {rvs:List ResultVar} (an:fn.results=rvs.toArray)
 {N:Nat->Prop} {ρ:List Loc} {I:aD} {w:World} {args:List J} {cm:Array Value} {K:List J->aD->Prop}
 (h:gQ E c 1000000 ⟨pad fn.ntmps args,I⟩ fun e S=>match e with| .normal| .ret=>(match q0 E.tb S.tm S.I rvs with|true=>K S.tm S.I|false=>False)|_=>False) (aF:cv N ρ I w)
 (ax:args.length=cm.size) (aR:∀i,i<args.length->bL (aN N ρ I) w ρ I (args.getD i .un) (cm.getD i undef)):
 Calls P f cm w fun e w'=>∃(tm:List J) (aj:aD) (ρ':List Loc) (a:Act) (aH:List Value),e= .returned (if rvs.length=1 then aH.getD 0 undef else .tuple aH.toArray)/\aH.length=rvs.length/\(gO E.tb tm aj rvs).length=rvs.length/\(∀i,bL (aN N ρ' aj) w' ρ' aj ((gO E.tb tm aj rvs).getD i .un) (aH.getD i undef))/\
  K tm aj/\eC N ρ' tm aj a w'/\Fr ρ I w ρ' aj w'/\∀t,t<args.length->Code.eH c t=false->a.tmps.getD t undef=cm.getD t undef:=by
 refine calls_of_wp aU ag ?_
 have ay:eC N ρ (pad fn.ntmps args) I {tmps:=cm++Array.replicate (fn.ntmps-cm.size) undef,defers:=[]} w:=by
  refine⟨aF,⟨by rw[sF];simp[ax],fun t=> ?_⟩,rfl⟩;rw[sF]
  by_cases au:t<args.length
  ·have aA:(args++List.replicate (fn.ntmps-args.length) J.un).getD t .un=args.getD t .un:=by simp[aoA,apt au]
   have aL:(cm++Array.replicate (fn.ntmps-cm.size) undef).getD t undef=cm.getD t undef:=by simp[aoH,aq0 (show t<cm.size by omega)]
   rw[aA,aL];exact aR t au
  ·have aA:(args++List.replicate (fn.ntmps-args.length) J.un).getD t .un= .un:=by
    rw[aoA,apJ (by omega),ap1];split<;>rfl
   have aL:(cm++Array.replicate (fn.ntmps-cm.size) undef).getD t undef=undef:=by
    rw[aoH,Array.getElem?_append_right (by omega),Array.getElem?_replicate];split<;>rfl
   rw[aA,aL];exact bL.un
 refine wp_mono (Hd E cW c _ _ _ _ w ρ h ay) fun e b5 w' b6=> ?_;obtain⟨b_,rfl,aE⟩:=b6;obtain⟨dI,aj,ρ',a6,bj,bH⟩:=aE.ex
 have hold:∀t,t<args.length->Code.eH c t=false->b5.tmps.getD t undef=cm.getD t undef:=fun t au aC=>by
  rw[aE.same t aC];simp[aoH,aq0 (show t<cm.size by omega)]
 cases b_ with
 |normal=>
  have ae:(match q0 E.tb dI aj rvs with|true=>K dI aj|false=>False):=a6;split at ae;rotate_left
  ·exact ae.elim
  rename_i bh;obtain⟨aH,dC,dD,dR,la⟩:=Br E cW an bj (vY bh).1 (by rw[(vY bh).2];exact fun p aE=>absurd aE apR);exact⟨bj.hN,_,dC,dI,aj,ρ',b5,aH,rfl,dD,dR,la,ae,bj,bH,hold⟩
 |ret=>
  have ae:(match q0 E.tb dI aj rvs with|true=>K dI aj|false=>False):=a6;split at ae;rotate_left
  ·exact ae.elim
  rename_i bh;obtain⟨aH,dC,dD,dR,la⟩:=Br E cW an bj (vY bh).1 (by rw[(vY bh).2];exact fun p aE=>absurd aE apR);exact⟨bj.hN,_,dC,dI,aj,ρ',b5,aH,rfl,dD,dR,la,ae,bj,bH,hold⟩
 |_=>exact a6.elim
theorem Ot {N:Nat->Prop}{ρ:List Loc}{I:aD}{w:World}(bI:cv N ρ I w){rs:List J}{aH:List Value}{n:Nat}{ts:List a7}(gJ:ts.length=n)(dh:rs.length=n)(l2:aH.length=n)
 (fJ:∀i,bL (aN N ρ I) w ρ I (rs.getD i .un) (aH.getD i undef))
 (ir:sn ts (mc I ts (one rs))=true) {Z:Nat->Prop} {ρ':List Loc} {aj:aD} (bq:∀b,Z b->aN N ρ (cD I rs) b):
 bL Z w ρ' aj (mc I ts (one rs)) (if n=1 then aH.getD 0 undef else .tuple aH.toArray):=by
 obtain⟨q1,cE,cS,gx⟩:=pK rs I bI
 have sS:∀x u,bB (aN N ρ (cD I rs)) w x u->bB Z w x u:=fun x u ai=>ai.mono fun b _ av=>⟨rfl,fun dr=>av (bq b dr)⟩
 by_cases U:n=1
 ·rw[aoy U]
  match rs,aH,ts,(by omega:rs.length=1),(by omega:aH.length=1),(by omega:ts.length=1)with
  |[x],[u],[t],_,_,_=>
   have aE:(t.norm I x).plain=true:=ir;exact .hj (pL aE (pM q1.rel cE t aE (q1.lA (fJ 0)) fun id aP=>gx 0 id (by simp) aP) sS)
 ·rw[aox U]
  have aA:one rs= .tup rs:=by
   match rs,dh with
   |[],_=>rfl
   |[x],dh=>exact absurd dh.symm U
   |_::_::_,_=>rfl
  have aL:∀l,mc I ts (.tup l)= .tup (a7.eU I ts l):=fun l=>by
   match ts,gJ with
   |[],_=>rfl
   |[x],gJ=>exact absurd gJ.symm U
   |_::_::_,_=>rfl
  have b3:∀l,sn ts (.tup l)=eg J.plain l:=fun l=>by
   match ts,gJ with
   |[],_=>rfl
   |[x],gJ=>exact absurd gJ.symm U
   |_::_::_,_=>rfl
  rw[aA,aL]at ir⊢;rw[b3]at ir;have jm:=qP I ts rs (by omega);refine⟨aH.toArray,rfl,by rw[jm];simp;omega,fun i hi=> ?_⟩;obtain⟨t,e⟩:=qQ I ts rs (by omega) i (by omega);have aE:=nX ir .un i hi;rw[e]at aE⊢;have:=pL (ρ':=ρ') (aj:=aj) aE (pM q1.rel cE t aE (q1.lA (fJ i)) fun id aP=>gx i id (by omega) aP) sS;have cX:aH.toArray.getD i undef=aH.getD i undef:=by simp[aoH,aoA]
  rw[cX];exact this
theorem Xd {Z Z':Nat->Prop}{w w':World}{ρ ρ':List Loc}{I aj:aD}{v:J}{u:Value}(aE:v.ra=true)(h:eD Z w ρ I v u)(an:∀x u,bB Z w x u->bB Z' w' x u):
 eD Z' w' ρ' aj v u:=h.mono an fun _ av=>(Bd aE av).elim
theorem Be {Z Z':Nat->Prop}{w w':World}{ρ ρ':List Loc}{I aj:aD}{aw:Loc}{ob:af}(aE:ob.plain=true)(h:h0 Z w ρ I aw ob)
 (ag:∀b,aw.bu=some b->w'.heap[b]? =w.heap[b]?) (an:∀x u,bB Z w x u->bB Z' w' x u):h0 Z' w' ρ' aj aw ob:=
 h.mono ag an fun l ax k id ae av=>by
  subst ax;exact(Bd (nX aE .un k ae) av).elim
theorem MN (n:Nat)(E:bw)(cW:gA P E)
 {f:FuncId} {fn:Func} {c:Code} (aU:P.funcs[f]? =some fn) (ag:fn.body=some c) (av:(fn.name== "runtime.NumGoroutine")=false) {rvs:List ResultVar} (an:fn.results=rvs.toArray)
 (bc:Code.eH c n=false) {ps ts:List a7} (gJ:ts.length=rvs.length) {T:J->af->List J->(af->J->Prop)->Prop}
 (gg:∀a0 ob args K,T a0 ob args K->yf n E fn.ntmps rvs c a0 ob args ts K) (j2:n<=ps.length):ie P f (l6 n ps T):=by
 refine⟨⟨fn,aU,by rw[ag];rfl,av⟩, ?_⟩;intro N ρ I w args cm K h aF ax aR;unfold l6 at h;split at h;rotate_left
 ·exact h.elim
 rename_i w_
 have kX:n<args.length:=by
  have:n+1<=bU args:=aoY w_;rw[cG]at this;omega
 unfold oR yV at h;have Fq:bL (aN N ρ I) w ρ I (b8 .un args n) (cm.getD n undef):=by rw[dT];exact aR n kX
 have Rk:∀i,i<(eM (kM args n) (kL args (Nat.succ n))).length->bL (aN N ρ I) w ρ I ((eM (kM args n) (kL args (Nat.succ n))).getD i .un) (cm.getD (if i<n then i else i+1) undef):=fun i hi=>by
  rw[fV,ll,lk]at hi⊢;rw[aoA,ao5];simp only[ao0,ao3,apI]at hi⊢
  by_cases ff:i<n
  ·rw[aoy (by omega),aoy ff,aps,aoy ff,<-aoA];exact aR i (by omega)
  ·rw[aox (by omega),aox ff,apZ,show n.succ+(i-min n args.length)=i+1 by omega,<-aoA];exact aR (i+1) (by omega)
 have aek:(eM (kM args n) (kL args (Nat.succ n))).length+1=args.length:=by rw[fV,ll,lk];simp;omega
 generalize b8 .un args n=a0 at h Fq;generalize eM (kM args n) (kL args (Nat.succ n))=bM at h Rk aek;simp only at h;split at h
 ·exact h.elim
 rename_i id dJ;split at h;rotate_left
 ·exact h.elim
 rename_i U hl az aW;have aa:=Xb hl;have hlen:ps.length=bM.length:=by have:=aoz az;rwa [cG,cG]at this
 obtain⟨s1,s2,k7,mD⟩:=pK bM I aF;have y8:=qP I ps bM hlen
 have rn:id<(cD I bM).length:=by
  rcases aqp id (cD I bM).length with h|h
  ·exact h
  ·rw[Rd _ _ h]at U;cases U
 have Iu:id<ρ.length:=by rw[s1.rel.len];exact rn
 have dP:ρ[id]? =some ρ[id]:=by simp[Iu]
 have zo:=s1.lA Fq
 have iV:∀b,ρ[id].bu=some b->aN N ρ (cD I bM) b:=fun b ag=> .inr ⟨id,ρ[id],dP,ag,U⟩
 have nt:=s1.rel.ob id _ dP;rw[s2]at nt;have zp:q3 n (mU a0) (a7.eU I ps bM)=(a7.eU I ps bM).take n++mU a0::(a7.eU I ps bM).drop n:=NF _ _ _ (by omega)
 have Rl:∀(Z:Nat->Prop) (xx:List Loc) (EC:aD),(∀x u,bB (aN N ρ (cD I bM)) w x u->bB Z w x u)->bL Z w xx EC (mU a0) (cm.getD n undef)->
  ∀i,i<(q3 n (mU a0) (a7.eU I ps bM)).length->bL Z w xx EC ((q3 n (mU a0) (a7.eU I ps bM)).getD i .un) (cm.getD i undef):=fun Z xx EC uC sT i hi=>by
  have one:∀j,j<(a7.eU I ps bM).length->bL Z w xx EC ((a7.eU I ps bM).getD j .un) (cm.getD (if j<n then j else j+1) undef):=fun j aI=>by
   obtain⟨t,e⟩:=qQ I ps bM hlen j (by omega);have aE:=nX aW .un j aI;have vg:=s1.lA (Rk j (by omega));rw[e]at aE⊢;exact .hj (pL aE (pM s1.rel s2 t aE vg fun id aP=>mD j id (by omega) aP) uC)
  rw[zp]at hi⊢;simp only[ao0,ao3,apq,apI]at hi;rw[aoA,ao5,ao3]
  by_cases U:i<n
  ·rw[aoy (by omega),aps,aoy U,<-aoA];have:=one i (by omega);rwa [aoy U]at this
  ·rw[aox (by omega)]
   cases a8:i-min n (a7.eU I ps bM).length with
   |zero=>
    have:i=n:=by omega
    subst this;simpa using sT
   |succ m=>
    have aI:=one (i-1) (by omega);rw[aox (by omega),show i-1+1=i by omega]at aI;rw[List.getElem?_cons_succ,apZ,show n+m=i-1 by omega,<-aoA];exact aI
 have qo:=gg _ _ _ _ h;unfold yf at qo
 by_cases xy:(∃i,a0= .vec i)/\ρ[id].cap=0
 ·obtain⟨⟨i,rfl⟩,qc⟩:=xy;obtain rfl:i=id:=aoK dJ
  have pj:(af.at I i).len=0:=by
   cases cf:af.at I i with
   |cells l=>rw[cf]at hl;cases hl
   |gone=>rw[cf]at hl;cases hl
   |map _ _ _=>rw[cf]at hl;cases hl
   |dead _ _=>rw[cf]at hl;cases hl
   |ad k l=>
    rw[cf]at nt;obtain⟨rfl,_⟩|⟨cb,aH,e,e3,eY,j7,pD,pE,tH⟩:=nt
    ·rfl
    ·show l.length=0;omega
   |ar ak l=>
    rw[cf]at nt;obtain⟨rfl,_⟩|⟨cb,aH,e,e3,eY,j7,pD,pE,tH⟩:=nt
    ·rfl
    ·show l.length=0;omega
  have jl:∀b,¬gz [⟨ρ[i].a,0,none⟩] [(false,af.at I i)] b:=fun b ⟨j,aw,a6,bj,_⟩=>by
   cases j with
   |zero=>simp at a6;subst a6;cases bj
   |succ j=>simp at a6
  have hT:cv (aN N ρ (cD I bM)) [⟨ρ[i].a,0,none⟩] [(false,af.at I i)] w:=
   {len:=rfl
    fc:=fun b ag=>by
     rcases ag with ag|⟨i,aw,aA,aL,_⟩
     ·exact aF.fc b ag
     ·exact aF.lt i aw b aA aL
    lt:=fun j aw b aA aL=>by
     cases j with
     |zero=>simp at aA;subst aA;cases aL
     |succ j=>simp at aA
    inj:=fun j fS li cC b aA aL _ _ _ _=>by
     cases j with
     |zero=>cases fS with
      |zero=>rfl
      |succ j=>simp at aL
     |succ j=>simp at aA
    fK:=fun j aw b aA aL ag=>by
     cases j with
     |zero=>simp at aA;subst aA;cases aL
     |succ j=>simp at aA
    ob:=fun j aw aA=>by
     cases j with
     |zero=>
      simp at aA;subst aA;show h0 _ _ _ _ _ (af.at I i)
      cases cf:af.at I i with
      |cells l=>rw[cf]at hl;cases hl
      |gone=>rw[cf]at hl;cases hl
      |map _ _ _=>rw[cf]at hl;cases hl
      |dead _ _=>rw[cf]at hl;cases hl
      |ad k l=>rw[cf]at pj;exact .inl ⟨aqd pj,rfl⟩
      |ar k l=>rw[cf]at pj;exact .inl ⟨aqd pj,rfl⟩
     |succ j=>simp at aA}
  have sT:bL (aN (aN N ρ (cD I bM)) [⟨ρ[i].a,0,none⟩] [(false,af.at I i)]) w [⟨ρ[i].a,0,none⟩] [(false,af.at I i)] (mU (.vec i)) (cm.getD n undef):=by
   obtain⟨aw,aA,aL,qz⟩:=zo;rw[dP]at aA;obtain rfl:=aoK aA;exact⟨⟨ρ[i].a,0,none⟩,rfl,by rw[aL,s2,qc];rfl,fun _=>rfl⟩
  have ga:=Rl _ _ _ (fun x u ai=>ai.mono fun b _ bq=>⟨rfl,fun dr=>dr.elim bq (jl b)⟩) sT
  refine(Qs E cW aU ag an (args:=q3 n (mU (.vec i)) (a7.eU I ps bM)) (cm:=cm)
   (K:=fun tm aj=>match cw (cD aj (gO E.tb tm aj rvs)) 0,af.plain (af.at aj 0),J.uz (b8 .un tm n) (mU (.vec i)),sn ts (mc aj ts (one (gO E.tb tm aj rvs)))with
     |false,true,true,true=>(match af.alike (af.at I i) (af.at aj 0)with|true=>K (mc aj ts (one (gO E.tb tm aj rvs))) (cQ (cD I bM) i (false,af.at aj 0))|false=>False)
     |_,_,_,_=>False) qo hT (by rw[zp];simp;omega) ga).mono ?_
  rintro e w' ⟨tm,aj,ρ',a,aH,rfl,dD,dR,la,ae,ay,cx,e6⟩;split at ae;rotate_left
  ·exact ae.elim
  rename_i g1 g2 g3 g4;split at ae;rotate_left
  ·exact ae.elim
  rename_i g5;have jb:=e6 n (by rw[zp];simp;omega) bc;have tj:=ay.en.at_ n;rw[<-dT,Hc g3,jb]at tj;obtain⟨dh,aA,aL,_⟩:=sT;obtain⟨l2,b3,cX,_⟩:=tj;simp at aA;subst aA;rw[aL]at cX;have hn:(af.at [(false,af.at I i)] 0)=af.at I i:=rfl;rw[hn]at cX;injection cX with j6 mE lZ
  have j3:af.at aj 0=af.at I i:=by
   cases cf:af.at I i<;>cases od:af.at aj 0<;>rw[cf,od]at g5 mE<;>rw[cf]at pj hl<;>first|cases g5|skip
   ·cases hl
   ·have:=aqd pj;have ky:=aqd (mE.symm.trans pj);subst this;subst ky;rw[js.1 g5]
   ·have:=aqd pj;have ky:=aqd (mE.symm.trans pj);subst this;subst ky;rw[(aoz g5:_=_)]
  have hy:cQ (cD I bM) i (false,af.at aj 0)=cD I bM:=by
   rw[eI,j3,<-s2 i];refine aqF (by simp) fun j kq nA=> ?_;rw[List.getElem_set];split
   ·rename_i e;subst e;have q1:cw (cD I bM) i=((cD I bM)[i]).1:=by simp[cw,dT,aoA,rn]
    have cE:af.at (cD I bM) i=((cD I bM)[i]).2:=by simp[af.at,dT,aoA,rn]
    rw[<-U,q1,cE]
   ·rfl
  rw[hy]at ae
  have agq:∀b,b<w.heap.size->w'.heap[b]? =w.heap[b]? :=fun b ag=>cx.ao b ag (jl b)
  refine⟨_,_,ρ,_,rfl,ae,s1.trans (cn.more s1.rel cx.os cx.tape cx.output cx.size agq), ?_⟩;exact Ot ay.eO gJ dR dD la g4 fun b ag=> .inl ag
 have y5:∀b,aN (fun b=>aN N ρ (cD I bM) b/\ρ[id].bu≠some b) [ρ[id]] [(false,af.at I id)] b->aN N ρ (cD I bM) b:=fun b ag=>by
  rcases ag with ag|⟨i,aw,aA,aL,_⟩
  ·exact ag.1
  ·cases i with
   |zero=>simp at aA;subst aA;exact iV b aL
   |succ i=>simp at aA
 have uC:∀x u,bB (aN N ρ (cD I bM)) w x u->bB (aN (fun b=>aN N ρ (cD I bM) b/\ρ[id].bu≠some b) [ρ[id]] [(false,af.at I id)]) w x u:=
  fun x u ai=>ai.mono fun b _ bq=>⟨rfl,fun dr=>bq (y5 b dr)⟩
 have hT:cv (fun b=>aN N ρ (cD I bM) b/\ρ[id].bu≠some b) [ρ[id]] [(false,af.at I id)] w:=
  {len:=rfl
   fc:=fun b ag=>by
    rcases ag.1 with ag|⟨i,aw,aA,aL,_⟩
    ·exact aF.fc b ag
    ·exact aF.lt i aw b aA aL
   lt:=fun i aw b aA aL=>by
    cases i with
    |zero=>simp at aA;subst aA;exact aF.lt id _ b dP aL
    |succ i=>simp at aA
   inj:=fun i j li cC b aA aL _ _ _ _=>by
    cases i with
    |zero=>cases j with
     |zero=>rfl
     |succ j=>simp at aL
    |succ i=>simp at aA
   fK:=fun i aw b aA aL ag=>by
    cases i with
    |zero=>simp at aA;subst aA;exact ag.2 aL
    |succ i=>simp at aA
   ob:=fun i aw aA=>by
    cases i with
    |zero=>simp at aA;subst aA;exact Be aa nt (fun _ _=>rfl) uC
    |succ i=>simp at aA}
 have sT:bL (aN (fun b=>aN N ρ (cD I bM) b/\ρ[id].bu≠some b) [ρ[id]] [(false,af.at I id)]) w [ρ[id]] [(false,af.at I id)] (mU a0) (cm.getD n undef):=by
  cases a0 with
  |vec i=>
   obtain rfl:i=id:=aoK dJ;obtain⟨aw,aA,aL,qz⟩:=zo;rw[dP]at aA;obtain rfl:=aoK aA;exact⟨ρ[i],rfl,by rw[aL,s2];rfl,qz⟩
  |ptr i off=>
   obtain rfl:i=id:=aoK dJ;obtain⟨aw,b,aA,aL,b3,cX⟩:=zo;rw[dP]at aA;obtain rfl:=aoK aA;exact⟨ρ[i],b,rfl,aL,b3,cX⟩
  |_=>cases dJ
 have ga:=Rl _ _ _ uC sT
 refine(Qs E cW aU ag an (args:=q3 n (mU a0) (a7.eU I ps bM)) (cm:=cm)
  (K:=fun tm aj=>match cw (cD aj (gO E.tb tm aj rvs)) 0,af.plain (af.at aj 0),J.uz (b8 .un tm n) (mU a0),sn ts (mc aj ts (one (gO E.tb tm aj rvs)))with
    |false,true,true,true=>(match af.alike (af.at I id) (af.at aj 0)with|true=>K (mc aj ts (one (gO E.tb tm aj rvs))) (cQ (cD I bM) id (false,af.at aj 0))|false=>False)
    |_,_,_,_=>False) qo hT (by rw[zp];simp;omega) ga).mono ?_
 rintro e w' ⟨tm,aj,ρ',a,aH,rfl,dD,dR,la,ae,ay,cx,e6⟩;split at ae;rotate_left
 ·exact ae.elim
 rename_i g1 g2 g3 g4;split at ae;rotate_left
 ·exact ae.elim
 rename_i g5;have jb:=e6 n (by rw[zp];simp;omega) bc;have tj:=ay.en.at_ n;rw[<-dT,Hc g3,jb]at tj;obtain⟨q1,cE,cS,gx⟩:=pK (gO E.tb tm aj rvs) aj ay.eO;have qd:=ay.eO.ob 0
 have key:∃iY b,ρ'[0]? =some iY/\ρ[id].a=some ⟨b,0,none⟩/\ρ[id].bu=some b/\iY.bu=some b/\(af.at aj 0).len=(af.at I id).len/\
  ∀Z' e1 mZ,(∀x u,bB (aN (fun b=>aN N ρ (cD I bM) b/\ρ[id].bu≠some b) ρ' aj) w' x u->bB Z' w' x u)->h0 Z' w' e1 mZ ρ[id] (af.at aj 0):=by
  cases a0 with
  |vec i=>
   obtain rfl:i=id:=aoK dJ;obtain⟨dh,aA,aL,_⟩:=sT;obtain⟨l2,b3,cX,_⟩:=tj;simp at aA;subst aA;rw[aL]at cX;have hn:(af.at [(false,af.at I i)] 0)=af.at I i:=rfl;rw[hn]at cX;injection cX with j6 mE lZ;have aE:ρ[i].cap≠0:=fun e=>xy ⟨⟨i,rfl⟩,e⟩;have qd:=qd l2 b3
   cases cf:af.at I i with
   |cells l=>rw[cf]at hl;cases hl
   |gone=>rw[cf]at hl;cases hl
   |map _ _ _=>rw[cf]at hl;cases hl
   |dead _ _=>rw[cf]at hl;cases hl
   |ad k l=>
    rw[cf]at nt g5 mE
    cases od:af.at aj 0 with
    |ad cy ch=>
     rw[od]at qd mE g2;obtain⟨_,hG⟩|⟨cb,_,_,e3,eY,_⟩:=nt
     ·exact(aE hG).elim
     obtain⟨_,pk⟩|⟨cZ,aH,e,d1,d2,d3,d4,d5,d6⟩:=qd
     ·exact(aE (lZ.trans pk)).elim
     rw[<-j6,e3]at d1;obtain rfl:cb=cZ:=by injection d1 with d1;injection d1
     refine⟨l2,cb,b3,e3,eY,d2,mE.symm,fun Z' e1 mZ _=> .inr ⟨cb,aH,e,e3,eY,d3,by rw[lZ];exact d4,by rw[lZ];exact d5,d6⟩⟩
    |_=>rw[od]at g5;cases g5
   |ar ak l=>
    rw[cf]at nt g5 mE
    cases od:af.at aj 0 with
    |ar cy ch=>
     rw[od]at qd mE g2;obtain⟨_,hG⟩|⟨cb,_,_,e3,eY,_⟩:=nt
     ·exact(aE hG).elim
     obtain⟨_,pk⟩|⟨cZ,aH,e,d1,d2,d3,d4,d5,d6,d7⟩:=qd
     ·exact(aE (lZ.trans pk)).elim
     rw[<-j6,e3]at d1;obtain rfl:cb=cZ:=by injection d1 with d1;injection d1
     refine⟨l2,cb,b3,e3,eY,d2,mE.symm,fun Z' e1 mZ an=> .inr ⟨cb,aH,e,e3,eY,d3,by rw[lZ];exact d4,by rw[lZ];exact d5,d6,fun i j hi aI=> ?_⟩⟩;obtain⟨v,a6,bj⟩:=d7 i j hi aI;exact⟨v,a6,an _ _ bj⟩
    |_=>rw[od]at g5;cases g5
  |ptr i off=>
   obtain rfl:i=id:=aoK dJ;obtain⟨dh,cZ,aA,e3,eY,j7⟩:=sT;obtain⟨l2,di,b3,d1,d2,d3⟩:=tj;simp at aA;subst aA;rw[j7]at d3;obtain rfl:cZ=di:=by injection d3 with d3;injection d3 with d3;injection d3
   have qd:=qd l2 b3
   cases cf:af.at I i with
   |cells l=>
    rw[cf]at g5
    cases od:af.at aj 0 with
    |cells ch=>
     rw[od]at qd g2 g5;have ajf:l.length=ch.length:=by have:=aoz g5;rwa [cG,cG]at this
     obtain⟨jd,aH,e,f1,f2,f3,f4,f5⟩:=qd;rw[d1]at f1;obtain rfl:cZ=jd:=by injection f1 with f1;injection f1
     refine⟨l2,cZ,b3,e3,eY,d2,ajf.symm,fun Z' e1 mZ an=>⟨cZ,aH,e,e3,eY,f3,f4,fun k ae=> ?_⟩⟩;exact Xd (nX g2 .un k ae) (f5 k ae) an
    |_=>rw[od]at g5;cases g5
   |_=>rw[cf]at hl;cases hl
  |_=>cases dJ
 obtain⟨iY,b,aA,aL,b3,cX,hn,j6⟩:=key
 have agr:(af.at aj 0).cJ=(af.at I id).cJ:=by
  cases cf:af.at I id<;>cases od:af.at aj 0<;>rw[cf,od]at g5<;>first|rfl|cases g5|exact(aoz g5).symm
 have Cx:∀x,gz ρ ((cD I bM).set id (false,af.at aj 0)) x->gz ρ (cD I bM) x:=fun x ⟨i,l,a6,bj,bH⟩=>by
  rw[ij]at bH
  by_cases e:id=i
  ·subst e;exact⟨id,l,a6,bj,U⟩
  ·rw[aox (by simp[e])]at bH;exact⟨i,l,a6,bj,bH⟩
 have sN:∀x,x<w.heap.size->ρ[id].bu≠some x->w'.heap[x]? =w.heap[x]? :=fun x ai dg=>cx.ao x ai fun⟨i,l,a6,bj,_⟩=>by
  cases i with
  |zero=>simp at a6;subst a6;exact dg bj
  |succ i=>simp at a6
 have oe:Fr ρ (cD I bM) w ρ ((cD I bM).set id (false,af.at aj 0)) w':=
  ⟨cx.os,cx.tape,cx.output,cx.size,fun x ai xz=>sN x ai fun ag=>xz ⟨id,_,dP,ag,U⟩,fun x ai=> .inl (Cx x ai)⟩
 have Rm:∀i,eX ρ (cD I bM) ρ ((cD I bM).set id (false,af.at aj 0)) i:=fun i l ax=>by
  refine⟨ax, ?_⟩;rw[g_]
  by_cases e:id=i
  ·subst e;rw[aoy ⟨rfl,rn⟩,s2];exact⟨hn,agr⟩
  ·rw[aox (by simp[e])];exact⟨rfl,rfl⟩
 have ael:∀x,aN N ρ ((cD I bM).set id (false,af.at aj 0)) x->aN N ρ (cD I bM) x:=fun x ai=>ai.imp (fun h=>h) (Cx x)
 have Rn:∀x,aN N ρ ((cD I bM).set id (false,af.at aj 0)) x->aN (fun b=>aN N ρ (cD I bM) b/\ρ[id].bu≠some b) ρ' (cD aj (gO E.tb tm aj rvs)) x:=fun x ai=>by
  by_cases ag:ρ[id].bu=some x
  ·rw[b3]at ag;obtain rfl:=aoK ag;exact .inr ⟨0,iY,aA,cX,g1⟩
  ·exact .inl ⟨ael x ai,ag⟩
 have aem:∀x,aN N ρ ((cD I bM).set id (false,af.at aj 0)) x->aN (fun b=>aN N ρ (cD I bM) b/\ρ[id].bu≠some b) ρ' aj x:=fun x ai=>by
  rcases Rn x ai with ai|⟨i,l,a6,bj,bH⟩
  ·exact .inl ai
  ·refine .inr ⟨i,l,a6,bj, ?_⟩
   cases aU:cw aj i with
   |false=>rfl
   |true=>rw[cS i aU]at bH;cases bH
 have Iv:cv N ρ ((cD I bM).set id (false,af.at aj 0)) w':=by
  refine s1.rel.Er oe (by simp[s1.rel.len]) (fun _ _ _ _ i _ _=>Rm i) (fun i l ax=> ?_)
  by_cases e:id=i
  ·subst e;rw[dP]at ax;obtain rfl:=aoK ax;refine .inr ⟨fun x ai=>⟨aoV (aF.lt id _ x dP ai) cx.size,aF.fK id _ x dP ai,fun j cC aI Je lV=> ?_⟩, ?_⟩
   ·by_cases e:id=j
    ·exact e.symm
    ·exact s1.rel.inj j id cC _ x aI dP Je ai (fun⟨f,n,ak,q⟩=>lV ⟨by rw[ij,aox (by simp[e])];exact f,n,ak,by rw[g_,aox (by simp[e])];exact q⟩) (nV U)
   rw[g_,aoy ⟨rfl,rn⟩];exact j6 _ _ _ fun x u ai=>ai.mono fun y _ bq=>⟨rfl,fun dr=>bq (aem y dr)⟩
  ·refine .inl ⟨ax,by rw[g_,aox (by simp[e])],fun ai=>by rwa [ij,aox (by simp[e])]at ai,fun j5 x ai=>sN x (aF.lt i l x ax ai) fun ag=>e (s1.rel.inj id i _ l x dP ax ag ai (nV U) j5)⟩
 refine⟨_,_,ρ,_,rfl,ae,s1.trans ?_, ?_⟩
 ·rw[eI];exact{oe with rel:=Iv,same:=Rm}
 ·rw[eI];exact Ot ay.eO gJ dR dD la g4 Rn
theorem YE (E:bw)(cW:gA P E)
 {f:FuncId} {fn:Func} {c:Code} (aU:P.funcs[f]? =some fn) (ag:fn.body=some c) (av:(fn.name== "runtime.NumGoroutine")=false) {rvs:List ResultVar} (an:fn.results=rvs.toArray)
 (bc:Code.eH c 0=false) {ps ts:List a7} (gJ:ts.length=rvs.length) {T:J->af->List J->(af->J->Prop)->Prop}
 (gg:∀a0 ob args K,T a0 ob args K->Cw E fn.ntmps rvs c a0 ob args ts K):ie P f (n1 ps T):=by
 have h:=MN 0 E cW aU ag av an bc gJ (ps:=ps) (T:=T) gg (apS _);refine⟨h.1, ?_⟩;intro N ρ I w args cm K gM;refine h.2 N ρ I w args cm K ?_;unfold l6
 cases args with
 |nil=>unfold n1 at gM;exact gM.elim
 |cons a r=>
  have e:Nat.blt 0 (bU (a::r))=true:=Nat.ble_eq_true_of_le (by rw[cG];simp)
  have aL:yV 0 (a::r)=a::r:=by
   unfold yV;rw[fV,ll,lk]
   rfl
  rw[e,aL];show oR ps T (a::r) I K;unfold n1 at gM;unfold oR;simp only at gM⊢;split
  ·rename_i he;rw[he]at gM;exact gM
  ·rename_i id he;rw[he]at gM;simp only at gM;split
   ·rename_i U aa az aW;rw[U,aa,az,aW]at gM;simp only at gM;rw[x2]at gM;exact gM.2
   ·rename_i ai;split at gM
    ·rename_i U aa az aW;exact(ai U aa az aW).elim
    ·exact gM
end
end Go.al
end
section
namespace Go.al
theorem G1 {α:Type}:∀(l:List (Nat×α)) (j:Nat) (x:α),fu j l=some x->(j,x)∈l
 |[],j,x,h=>by cases h
 |(i,y)::r,j,x,h=>by
  unfold fu at h;split at h
  ·rename_i ag;obtain rfl:=aoz ag;obtain rfl:=aoK h;simp
  ·exact apQ _ (G1 r j x h)
theorem abI (P:Program)(t:TypeId):c1 P t {ty:= .no}=true:=rfl
theorem ado {P:Program}{tb:TypeId->b7}{t:TypeId}(h:tb t={ty:= .no}):pZ P tb t=true:=by
 unfold pZ sE yT;rw[h]
theorem gA.of {P:Program}{E:bw}(U:eg (fun p=>match c1 P p.1 p.2 with|true=>pZ P E.tb p.1|false=>false) E.tys=true)(aa:∀p∈E.cons,yp P p.1 p.2/\hv p.2)(az:P.follows .mixedOrders=true)(aW:∀f∈E.data,IT (E.bx f))(bA:∀f∈E.fresh,It (E.bx f):=by intro f h;exact absurd h apR):gA P E:=by
 have key:∀f args I K,E.bx f args I K->(f,E.bx f)∈E.cons:=fun f args I K h=>by
  unfold bw.bx at h⊢;split
  ·rename_i c aC;exact G1 _ _ _ aC
  ·rename_i aC;rw[aC]at h;exact h.elim
 have both:∀t,c1 P t (E.tb t)=true/\pZ P E.tb t=true:=fun t=>by
  cases ax:fu t E.tys with
  |some i=>
   rw[fy,aoR]at U;have:=U _ (G1 _ _ _ ax);have e:E.tb t=i:=by unfold bw.tb;rw[ax]
   rw[e];simp only at this;split at this
   ·rename_i aa;exact⟨aa,this⟩
   ·cases this
  |none=>
   have e:E.tb t={ty:= .no}:=by unfold bw.tb;rw[ax]
   exact⟨by rw[e];exact abI P t,ado e⟩
 refine⟨fun t=>(both t).1,fun t=>(both t).2,fun f args I K h=>(aa _ (key f args I K h)).1,fun f args I K h=>(aa _ (key f args I K h)).2,az,fun f=>⟨fun aU=> ?_,fun aU=> ?_⟩⟩
 ·unfold bw.kind at aU;split at aU
  ·rename_i hm;exact aW f (wi.1 hm)
  ·split at aU<;>cases aU
 ·unfold bw.kind at aU;split at aU
  ·cases aU
  ·split at aU
   ·rename_i hm;exact bA f (wi.1 hm)
   ·cases aU
def p3 (K:List J->Prop):List J->Prop
 |[]=>K []
 | .d (.ad k l)::r=>∀x:List Int,x=l->p3 (fun t=>K (.d (.ad k x)::t)) r
 | .d (.ar k l)::r=>∀x:List (List R),x=l->p3 (fun t=>K (.d (.ar k x)::t)) r
 | .d (.int k n)::r=>∀x:Int,x=n->p3 (fun t=>K (.d (.int k x)::t)) r
 | .d (.bool b)::r=>∀x:Bool,x=b->p3 (fun t=>K (.d (.bool x)::t)) r
 | .d (.str l)::r=>∀x:List Int,x=l->p3 (fun t=>K (.d (.str x)::t)) r
 |v::r=>p3 (fun t=>K (v::t)) r
def mV (K:List J->Prop):List J->Prop
 |[]=>K []
 | .d (.ad k l)::r=>∀x:List Int,x=l->mV (fun t=>K (.d (.ad k x)::t)) r
 | .d (.ar k l)::r=>∀x:List (List R),x=l->mV (fun t=>K (.d (.ar k x)::t)) r
 | .d (.int k n)::r=>∀x:Int,x=n->mV (fun t=>K (.d (.int k x)::t)) r
 | .d (.bool b)::r=>∀x:Bool,x=b->mV (fun t=>K (.d (.bool x)::t)) r
 | .d (.str l)::r=>∀x:List Int,x=l->mV (fun t=>K (.d (.str x)::t)) r
 | .agg l::r=>p3 (fun t=>mV (fun q=>K (.agg t::q)) r) l
 |v::r=>mV (fun t=>K (v::t)) r
def Ro:List J->J
 |v::_=>v
 |[]=> .un
def C6 (K:J->Prop):J->Prop
 | .tup l=>mV (fun t=>K (.tup t)) l
 | .agg l=>mV (fun t=>K (.agg t)) l
 |v=>mV (fun t=>K (Ro t)) [v]
def named (T:List J->(J->Prop)->Prop):List J->(J->Prop)->Prop:=fun args K=>T args fun r=>C6 K r
theorem G2:∀(l:List J) (K:List J->Prop),p3 K l↔K l
 |[],_=>apm
 |v::r,K=>by
  cases v with
  |d a=>cases a<;>simp[p3,G2 r]
  |_=>simp[p3,G2 r]
theorem BK:∀(l:List J) (K:List J->Prop),mV K l↔K l
 |[],_=>apm
 |v::r,K=>by
  cases v with
  |d a=>cases a<;>simp[mV,BK r]
  |_=>simp[mV,BK r,G2]
theorem NG (K:J->Prop)(v:J):C6 K v↔K v:=by
 cases v<;>simp[C6,BK,Ro]
theorem BZ (T:List J->(J->Prop)->Prop):named T=T:=by
 funext args K
 unfold named
 congr 1
 funext r
 exact propext (NG K r)
theorem HD {T:List J->(J->Prop)->Prop}(h:k0 T):k0 (named T):=by rw[BZ];exact h
end Go.al
end
section
namespace Go.al
theorem cn.fresh {N:Nat->Prop}{ρ:List Loc}{I:aD}{w w':World}(h:cv N ρ I w)(U:w'.os=w.os)(aa:w'.tape=w.tape)(az:w'.output=w.output)(ay:w.heap.size<=w'.heap.size)
 (ae:∀b,b<w.heap.size->w'.heap[b]? =w.heap[b]?) (f:Bool) (ob:af) (aw:Loc) (ag:∀b,aw.bu=some b->w.heap.size<=b/\b<w'.heap.size)
 (aF:h0 (aN N (ρ++[aw]) (I++[(f,ob)])) w' (ρ++[aw]) (I++[(f,ob)]) aw ob):cn N ρ I w (ρ++[aw]) (I++[(f,ob)]) w':=by
 have cx:Fr ρ I w (ρ++[aw]) (I++[(f,ob)]) w':=by
  refine⟨U,aa,az,ay,fun b ag _=>ae b ag,fun b ⟨i,l,aA,aL,b3⟩=> ?_⟩;rw[ao5]at aA
  by_cases hi:i<ρ.length
  ·rw[aoy hi]at aA;rw[kI,aox (by rw[<-h.len];omega)]at b3;exact .inl ⟨i,l,aA,aL,b3⟩
  ·rw[aox hi]at aA
   cases a8:i-ρ.length with
   |zero=>simp[a8]at aA;subst aA;exact .inr (ag b aL).1
   |succ n=>simp[a8]at aA
 have e6:∀id,eX ρ I (ρ++[aw]) (I++[(f,ob)]) id:=fun id l ax=>by
  have:=h.jU ax;refine⟨by rw[apt (by rw[h.len];exact this)];exact ax, ?_⟩;rw[gN,aox (by omega)];exact⟨rfl,rfl⟩
 refine{cx with rel:=h.s7 cx (by simp[h.len]) (fun _ _ _ _ id _ _=>e6 id) (fun i l ax=> ?_),same:=e6};rw[ao5]at ax
 by_cases hi:i<ρ.length
 ·rw[aoy hi]at ax;refine .inl ⟨ax,by rw[gN,aox (by rw[<-h.len];omega)],fun ai=>by rwa [kI,aox (by rw[<-h.len];omega)]at ai,fun b ag=> ?_⟩;exact ae b (h.lt i l b ax ag)
 ·rw[aox hi]at ax
  cases a8:i-ρ.length with
  |succ n=>simp[a8]at ax
  |zero=>
   simp[a8]at ax;subst ax;have eL:i=I.length:=by rw[<-h.len];omega
   refine .inr ⟨fun b ajg=> ?_,by rw[eL,gN,aoy rfl];exact aF⟩;obtain⟨cZ,di⟩:=ag b ajg;refine⟨di,fun av=>absurd (h.fc _ av) (by omega),fun j cC aI ag=> ?_⟩;rw[ao5]at aI
   by_cases iH:j<ρ.length
   ·rw[aoy iH]at aI;have:=h.lt j cC _ aI ag;omega
   ·rw[aox iH]at aI
    cases iI:j-ρ.length with
    |zero=>omega
    |succ n=>simp[iI]at aI
theorem XR {ps:List a7}{T:List J->(af->Prop)->Prop}(h:nC T):hv (pU ps T):=by
 refine⟨fun args I K K' ae bs=> ?_,fun args I K bs=> ?_⟩
 ·unfold pU at bs⊢;split
  ·rename_i U aa;rw[U,aa]at bs;exact h.1 _ _ _ (fun r an=>ae _ _ an) bs
  ·rename_i ai;split at bs
   ·rename_i U aa;exact(ai U aa).elim
   ·exact bs
 ·unfold pU at bs;split at bs
  ·obtain⟨r,an⟩:=h.2 _ _ bs;exact⟨_,_,an⟩
  ·exact bs.elim
def isSlice:af->Bool
 | .ad ..=>true
 | .ar ..=>true
 |_=>false
def C7 (t:a7)(K:af->Prop)(v:J)(I:aD):Prop:=
 match v with
 | .vec id=>(match cw I id,isSlice (af.at I id)with|false,true=>K (af.at I id)|_,_=>False)
 | .emp=>(match t with| .aB (.cu k)=>K (.ad k [])| .aB (.dB ak)=>K (.ar ak [])|_=>False)
 |_=>False
section
variable {P:Program}
theorem XS (E:bw)(cW:gA P E)
 {f:FuncId} {fn:Func} {c:Code} (aU:P.funcs[f]? =some fn) (ag:fn.body=some c) (av:(fn.name== "runtime.NumGoroutine")=false) {r:Tmp} (an:fn.results=[ResultVar.tmp r].toArray)
 {ps:List a7} {t:a7} {T:List J->(af->Prop)->Prop} (gg:∀args K,T args K->mQ E fn.ntmps [.tmp r] c args [] (C7 t K)):ie P f (pU ps T):=by
 refine⟨⟨fn,aU,by rw[ag];rfl,av⟩, ?_⟩;intro N ρ I w args cm K h aF ax aR;unfold pU at h;split at h;rotate_left
 ·exact h.elim
 rename_i U aa;have hlen:ps.length=args.length:=by have:=aoz U;rwa [cG,cG]at this
 obtain⟨s1,s2,k7,mD⟩:=pK args I aF;have y8:=qP I ps args hlen
 have hT:cv (aN N ρ (cD I args)) [] [] w:=
  {len:=rfl
   fc:=fun b ag=>by
    rcases ag with ag|⟨i,aw,aA,aL,_⟩
    ·exact aF.fc b ag
    ·exact aF.lt i aw b aA aL
   lt:=fun i aw b e=>by simp at e
   inj:=fun i j li cC b e=>by simp at e
   fK:=fun i aw b e=>by simp at e
   ob:=fun i aw e=>by simp at e}
 have ga:∀i,i<(a7.eU I ps args).length->bL (aN (aN N ρ (cD I args)) [] []) w [] [] ((a7.eU I ps args).getD i .un) (cm.getD i undef):=fun i hi=>by
  obtain⟨t,e⟩:=qQ I ps args hlen i (by omega);have aE:=nX aa .un i hi;rw[e]at aE⊢;have bA:=pM s1.rel s2 t aE (s1.lA (aR i (by omega))) fun id aP=>mD i id (by omega) aP;refine .hj (pL aE bA fun x u ai=>ai.mono fun b _ bq=>⟨rfl,fun dr=> ?_⟩);rcases dr with dr|⟨j,aw,aA,_⟩
  ·exact bq dr
  ·simp at aA
 refine(x8 E cW aU ag an (gg _ _ h) hT (by omega) ga).mono ?_;rintro e w' ⟨rs,aj,ρ',aH,rfl,dh,l2,ae,bI,cx,fJ⟩
 have ao:∀b,b<w.heap.size->w'.heap[b]? =w.heap[b]? :=fun b ag=>cx.ao b ag fun⟨i,aw,aA,_⟩=>by simp at aA
 simp only[apL,ao_]at dh l2⊢
 match rs,aH,dh,l2 with
 |[x],[u],_,_=>
 have ai:bL (aN (aN N ρ (cD I args)) ρ' aj) w' ρ' aj x u:=fJ 0
 have fin:∀(aw:Loc) (ob:af),ob.plain=true->(∀b,aw.bu=some b->w.heap.size<=b/\b<w'.heap.size/\aN (aN N ρ (cD I args)) ρ' aj b)->h0 (aN (aN N ρ (cD I args)) ρ' aj) w' ρ' aj aw ob->
  K (.vec (bU (cD I args))) (eM (cD I args) [(false,ob)])->(u= .slice aw.a ob.len aw.cap/\(aw.a=none->aw.cap=0))->
  ∃r gu jV v,Ending.returned (List.getD [u] 0 undef)= .returned v/\K r gu/\cn N ρ I w jV gu w'/\bL (aN N jV gu) w' jV gu r v:=by
  intro aw ob aE lG cf gM hu
  have bq:∀b,aN N (ρ++[aw]) (cD I args++[(false,ob)]) b->aN (aN N ρ (cD I args)) ρ' aj b:=fun b ag=>by
   rcases ag with ag|⟨i,l,aA,aL,b3⟩
   ·exact .inl (.inl ag)
   ·rw[ao5]at aA
    by_cases hi:i<ρ.length
    ·rw[aoy hi]at aA;rw[kI,aox (by rw[<-s1.rel.len];omega)]at b3;exact .inl (.inr ⟨i,l,aA,aL,b3⟩)
    ·rw[aox hi]at aA
     cases a8:i-ρ.length with
     |zero=>simp[a8]at aA;subst aA;exact(lG b aL).2.2
     |succ n=>simp[a8]at aA
  have cN:=cn.fresh s1.rel cx.os cx.tape cx.output cx.size ao false ob aw (fun b ag=>⟨(lG b ag).1,(lG b ag).2.1⟩)
   (Be aE cf (fun b _=>rfl) fun x u ai=>ai.mono fun b _ av=>⟨rfl,fun ag=>av (bq b ag)⟩)
  refine⟨_,_,ρ++[aw],u,rfl,gM,by rw[fV];exact s1.trans cN, ?_⟩;rw[fV,cG];refine .c3 ⟨aw, ?_, ?_⟩
  ·rw[apJ (by rw[s1.rel.len];omega),s1.rel.len];simp
  ·rw[gN,aoy rfl];exact hu
 replace ae:C7 t (fun ob=>K (.vec (bU (cD I args))) (eM (cD I args) [(false,ob)])) x aj:=ae
 unfold C7 at ae
 cases x with
 |vec id=>
  simp only at ae;split at ae
  ·rename_i g1 g2;obtain⟨aw,dP,hu,zN⟩:=ai;refine fin aw (af.at aj id) ?_ (fun b ag=> ?_) (bI.ob id aw dP) ae ⟨hu,zN⟩
   ·cases aF:af.at aj id<;>rw[aF]at g2<;>first|rfl|cases g2
   ·have hb:gz ρ' aj b:=⟨id,aw,dP,ag,g1⟩;refine⟨?_,bI.lt id aw b dP ag, .inr hb⟩;rcases cx.alive b hb with⟨i,l,aA,_⟩|h
    ·simp at aA
    ·exact h
  ·exact ae.elim
 |emp=>
  obtain⟨a,hu⟩:=ai;simp only at ae;split at ae
  ·rename_i k;exact fin ⟨a,0,none⟩ (.ad k []) rfl (fun b ag=>by cases ag) (Or.inl ⟨rfl,rfl⟩) ae ⟨hu,fun _=>rfl⟩
  ·rename_i ak;exact fin ⟨a,0,none⟩ (.ar ak []) rfl (fun b ag=>by cases ag) (Or.inl ⟨rfl,rfl⟩) ae ⟨hu,fun _=>rfl⟩
  ·exact ae.elim
 |_=>exact ae.elim
end
def mW (S:List J->Option (Prop×af)):List J->(af->Prop)->Prop:=fun args K=>match S args with|some (p,r)=>p/\K r|none=>False
theorem ys (S:List J->Option (Prop×af)):nC (mW S):=by
 refine⟨fun args K K' ae h=> ?_,fun args K h=> ?_⟩
 ·unfold mW at h⊢;split
  ·rename_i he;rw[he]at h;exact⟨h.1,ae _ h.2⟩
  ·rename_i he;rw[he]at h;exact h
 ·unfold mW at h;split at h
  ·exact⟨_,h.2⟩
  ·exact h.elim
def C8 (K:af->Prop):af->Prop
 | .ad k l=>∀x:List Int,x=l->K (.ad k x)
 | .ar k l=>∀x:List (List R),x=l->K (.ar k x)
 |o=>K o
def C9 (T:List J->(af->Prop)->Prop):List J->(af->Prop)->Prop:=fun args K=>T args fun r=>C8 K r
theorem Ou (T:List J->(af->Prop)->Prop):C9 T=T:=by
 funext args K
 unfold C9
 congr 1
 funext r
 exact propext (by cases r<;>simp[C8])
theorem aab {T:List J->(af->Prop)->Prop}(h:nC T):nC (C9 T):=by rw[Ou];exact h
end Go.al
end
section
namespace Go.al
def uD (ps:List a7)(T:List J->(af->Prop)->Prop):gw:=fun args I K=>
 match Nat.beq (bU ps) (bU args),eg J.plain (a7.eU I ps args)with
 |true,true=>T (a7.eU I ps args) fun ob=>K (.ptr (bU (cD I args)) 0) (eM (cD I args) [(false,ob)])
 |_,_=>False
theorem aac {ps:List a7}{T:List J->(af->Prop)->Prop}(h:nC T):hv (uD ps T):=by
 refine⟨fun args I K K' ae bs=> ?_,fun args I K bs=> ?_⟩
 ·unfold uD at bs⊢;split
  ·rename_i U aa;rw[U,aa]at bs;exact h.1 _ _ _ (fun r an=>ae _ _ an) bs
  ·rename_i ai;split at bs
   ·rename_i U aa;exact(ai U aa).elim
   ·exact bs
 ·unfold uD at bs;split at bs
  ·obtain⟨r,an⟩:=h.2 _ _ bs;exact⟨_,_,an⟩
  ·exact bs.elim
def ED (K:af->Prop)(v:J)(I:aD):Prop:=
 match v with
 | .ptr id off=>(match Nat.beq off 0,cw I id,(af.at I id).plain with|true,false,true=>K (af.at I id)|_,_,_=>False)
 |_=>False
section
variable {P:Program}
theorem aad (E:bw)(cW:gA P E)
 {f:FuncId} {fn:Func} {c:Code} (aU:P.funcs[f]? =some fn) (ag:fn.body=some c) (av:(fn.name== "runtime.NumGoroutine")=false) {r:Tmp} (an:fn.results=[ResultVar.tmp r].toArray)
 {ps:List a7} {T:List J->(af->Prop)->Prop} (gg:∀args K,T args K->mQ E fn.ntmps [.tmp r] c args [] (ED K)):ie P f (uD ps T):=by
 refine⟨⟨fn,aU,by rw[ag];rfl,av⟩, ?_⟩;intro N ρ I w args cm K h aF ax aR;unfold uD at h;split at h;rotate_left
 ·exact h.elim
 rename_i U aa;have hlen:ps.length=args.length:=by have:=aoz U;rwa [cG,cG]at this
 obtain⟨s1,s2,k7,mD⟩:=pK args I aF;have y8:=qP I ps args hlen
 have hT:cv (aN N ρ (cD I args)) [] [] w:=
  {len:=rfl
   fc:=fun b ag=>by
    rcases ag with ag|⟨i,aw,aA,aL,_⟩
    ·exact aF.fc b ag
    ·exact aF.lt i aw b aA aL
   lt:=fun i aw b e=>by simp at e
   inj:=fun i j li cC b e=>by simp at e
   fK:=fun i aw b e=>by simp at e
   ob:=fun i aw e=>by simp at e}
 have ga:∀i,i<(a7.eU I ps args).length->bL (aN (aN N ρ (cD I args)) [] []) w [] [] ((a7.eU I ps args).getD i .un) (cm.getD i undef):=fun i hi=>by
  obtain⟨t,e⟩:=qQ I ps args hlen i (by omega);have aE:=nX aa .un i hi;rw[e]at aE⊢;have bA:=pM s1.rel s2 t aE (s1.lA (aR i (by omega))) fun id aP=>mD i id (by omega) aP;refine .hj (pL aE bA fun x u ai=>ai.mono fun b _ bq=>⟨rfl,fun dr=> ?_⟩);rcases dr with dr|⟨j,aw,aA,_⟩
  ·exact bq dr
  ·simp at aA
 refine(x8 E cW aU ag an (gg _ _ h) hT (by omega) ga).mono ?_;rintro e w' ⟨rs,aj,ρ',aH,rfl,dh,l2,ae,bI,cx,fJ⟩
 have ao:∀b,b<w.heap.size->w'.heap[b]? =w.heap[b]? :=fun b ag=>cx.ao b ag fun⟨i,aw,aA,_⟩=>by simp at aA
 simp only[apL,ao_]at dh l2⊢
 match rs,aH,dh,l2 with
 |[x],[u],_,_=>
 have ai:bL (aN (aN N ρ (cD I args)) ρ' aj) w' ρ' aj x u:=fJ 0
 have fin:∀(aw:Loc) (ob:af),ob.plain=true->(∀b,aw.bu=some b->w.heap.size<=b/\b<w'.heap.size/\aN (aN N ρ (cD I args)) ρ' aj b)->h0 (aN (aN N ρ (cD I args)) ρ' aj) w' ρ' aj aw ob->
  K (.ptr (bU (cD I args)) 0) (eM (cD I args) [(false,ob)])->(∃b,aw.a=some ⟨b,0,none⟩/\aw.bu=some b/\u= .pointer (some ⟨b,0,none⟩))->
  ∃r gu jV v,Ending.returned (List.getD [u] 0 undef)= .returned v/\K r gu/\cn N ρ I w jV gu w'/\bL (aN N jV gu) w' jV gu r v:=by
  intro aw ob aE lG cf gM hu
  have bq:∀b,aN N (ρ++[aw]) (cD I args++[(false,ob)]) b->aN (aN N ρ (cD I args)) ρ' aj b:=fun b ag=>by
   rcases ag with ag|⟨i,l,aA,aL,b3⟩
   ·exact .inl (.inl ag)
   ·rw[ao5]at aA
    by_cases hi:i<ρ.length
    ·rw[aoy hi]at aA;rw[kI,aox (by rw[<-s1.rel.len];omega)]at b3;exact .inl (.inr ⟨i,l,aA,aL,b3⟩)
    ·rw[aox hi]at aA
     cases a8:i-ρ.length with
     |zero=>simp[a8]at aA;subst aA;exact(lG b aL).2.2
     |succ n=>simp[a8]at aA
  have cN:=cn.fresh s1.rel cx.os cx.tape cx.output cx.size ao false ob aw (fun b ag=>⟨(lG b ag).1,(lG b ag).2.1⟩)
   (Be aE cf (fun b _=>rfl) fun x u ai=>ai.mono fun b _ av=>⟨rfl,fun ag=>av (bq b ag)⟩)
  refine⟨_,_,ρ++[aw],u,rfl,gM,by rw[fV];exact s1.trans cN, ?_⟩;rw[fV,cG];obtain⟨b,kz,lb,ej⟩:=hu;refine .c3 ⟨aw,b, ?_,kz,lb,ej⟩;rw[apJ (by rw[s1.rel.len];omega),s1.rel.len];simp
 replace ae:ED (fun ob=>K (.ptr (bU (cD I args)) 0) (eM (cD I args) [(false,ob)])) x aj:=ae
 unfold ED at ae
 cases x with
 |ptr id off=>
  simp only at ae;split at ae
  ·rename_i g1 g2 g3;obtain rfl:=aoz g1;obtain⟨aw,cb,dP,aR,tk,hu⟩:=ai;refine fin aw (af.at aj id) ?_ (fun b ag=> ?_) (bI.ob id aw dP) ae ⟨cb,aR,tk,hu⟩
   ·exact g3
   ·have hb:gz ρ' aj b:=⟨id,aw,dP,ag,g2⟩;refine⟨?_,bI.lt id aw b dP ag, .inr hb⟩;rcases cx.alive b hb with⟨i,l,aA,_⟩|h
    ·simp at aA
    ·exact h
  ·exact ae.elim
 |_=>exact ae.elim
end
def Cy (K:af->Prop):af->Prop
 | .cells l=>mV (fun t=>K (.cells t)) l
 | .ad k l=>∀x:List Int,x=l->K (.ad k x)
 | .ar k l=>∀x:List (List R),x=l->K (.ar k x)
 | .map a b c=>K (.map a b c)
 | .dead a b=>K (.dead a b)
 | .gone=>K .gone
theorem M8 (K:af->Prop)(o:af):Cy K o↔K o:=by
 cases o<;>simp[Cy,BK]
def C_ (T:List J->(af->Prop)->Prop):List J->(af->Prop)->Prop:=fun args K=>T args fun r=>Cy K r
theorem Ov (T:List J->(af->Prop)->Prop):C_ T=T:=by
 funext args K
 unfold C_
 congr 1
 funext r
 exact propext (M8 K r)
theorem aae {T:List J->(af->Prop)->Prop}(h:nC T):nC (C_ T):=by rw[Ov];exact h
def yW (T:J->af->List J->(af->J->Prop)->Prop):J->af->List J->(af->J->Prop)->Prop:=fun a o args K=>T a o args fun cc r=>Cy (fun ajh=>C6 (fun mC=>K ajh mC) r) cc
theorem Hf (T:J->af->List J->(af->J->Prop)->Prop):yW T=T:=by
 funext a o args K
 unfold yW
 congr 1
 funext cc r
 exact propext ((M8 _ cc).trans (NG _ r))
theorem Ow {T:J->af->List J->(af->J->Prop)->Prop}(h:kr T):kr (yW T):=by rw[Hf];exact h
end Go.al
end
section
namespace Go.al
theorem YF {ps:List a7}{T:List J->(J->Prop)->Prop}(h:k0 T):hv (nj ps T):=by
 refine⟨fun args I K K' ae bs=> ?_,fun args I K bs=> ?_⟩
 ·unfold nj at bs⊢;split
  ·rename_i U aa;rw[U,aa]at bs;exact h.1 _ _ _ (fun r an=>ae _ _ an) bs
  ·rename_i ai;split at bs
   ·rename_i U aa;exact(ai U aa).elim
   ·exact bs
 ·unfold nj at bs;split at bs
  ·obtain⟨r,an⟩:=h.2 _ _ bs;exact⟨_,_,an⟩
  ·exact bs.elim
def y9:J->Bool
 | .d (.int _ _)=>true
 | .d (.bool _)=>true
 | .d (.str _)=>true
 | .bt=>true
 | .bf=>true
 |_=>false
def uM:J->J
 | .bt=> .d (.bool true)
 | .bf=> .d (.bool false)
 |v=>v
def R3:J->Bool
 | .tup l=>eg y9 l
 |v=>y9 v
def R4:J->J
 | .tup l=> .tup (bE uM l)
 |v=>uM v
def Iw (K:J->Prop)(v:J)(_:aD):Prop:=match R3 v with|true=>K (R4 v)|false=>False
theorem x9 {Z Z':Nat->Prop}{w w':World}{ρ ρ':List Loc}{I aj:aD}{v:J}{u:Value}(ay:y9 v=true)(h:bL Z w ρ I v u):eD Z' w' ρ' aj (uM v) u:=by
 cases v with
 |d x=>
  cases x with
  |int k n=>have h:bB Z w _ u:=h;cases h;exact bB.int _ _
  |bool b=>have h:bB Z w _ u:=h;cases h;exact bB.bool _
  |str l=>have h:bB Z w _ u:=h;cases h;rename_i s e;exact bB.str _ _ e
  |_=>cases ay
 |bt=>have h:u= .bool true:=h;subst h;exact bB.bool _
 |bf=>have h:u= .bool false:=h;subst h;exact bB.bool _
 |_=>cases ay
section
variable {P:Program}
theorem YG (E:bw)(cW:gA P E)
 {f:FuncId} {fn:Func} {c:Code} (aU:P.funcs[f]? =some fn) (ag:fn.body=some c) (av:(fn.name== "runtime.NumGoroutine")=false) {rvs:List ResultVar} (an:fn.results=rvs.toArray)
 {ps:List a7} {T:List J->(J->Prop)->Prop} (gg:∀args K,T args K->mQ E fn.ntmps rvs c args [] (Iw K)):ie P f (nj ps T):=by
 refine⟨⟨fn,aU,by rw[ag];rfl,av⟩, ?_⟩;intro N ρ I w args cm K h aF ax aR;unfold nj at h;split at h;rotate_left
 ·exact h.elim
 rename_i U aa;have hlen:ps.length=args.length:=by have:=aoz U;rwa [cG,cG]at this
 obtain⟨s1,s2,k7,mD⟩:=pK args I aF;have y8:=qP I ps args hlen
 have hT:cv (aN N ρ (cD I args)) [] [] w:=
  {len:=rfl
   fc:=fun b ag=>by
    rcases ag with ag|⟨i,aw,aA,aL,_⟩
    ·exact aF.fc b ag
    ·exact aF.lt i aw b aA aL
   lt:=fun i aw b e=>by simp at e
   inj:=fun i j li cC b e=>by simp at e
   fK:=fun i aw b e=>by simp at e
   ob:=fun i aw e=>by simp at e}
 have ga:∀i,i<(a7.eU I ps args).length->bL (aN (aN N ρ (cD I args)) [] []) w [] [] ((a7.eU I ps args).getD i .un) (cm.getD i undef):=fun i hi=>by
  obtain⟨t,e⟩:=qQ I ps args hlen i (by omega);have aE:=nX aa .un i hi;rw[e]at aE⊢;have bA:=pM s1.rel s2 t aE (s1.lA (aR i (by omega))) fun id aP=>mD i id (by omega) aP;refine .hj (pL aE bA fun x u ai=>ai.mono fun b _ bq=>⟨rfl,fun dr=> ?_⟩);rcases dr with dr|⟨j,aw,aA,_⟩
  ·exact bq dr
  ·simp at aA
 refine(x8 E cW aU ag an (gg _ _ h) hT (by omega) ga).mono ?_;rintro e w' ⟨rs,aj,ρ',aH,rfl,dh,l2,ae,bI,cx,fJ⟩;have hold:cn N ρ I w ρ I w':=cn.more aF cx.os cx.tape cx.output cx.size fun b ag=>cx.ao b ag fun⟨i,aw,aA,_⟩=>by simp at aA
 unfold Iw at ae;split at ae;rotate_left
 ·exact ae.elim
 rename_i lR;refine⟨_,_,ρ,_,rfl,ae,hold, ?_⟩
 by_cases U:rvs.length=1
 ·rw[aoy U]
  match rs,aH,(by omega:rs.length=1),(by omega:aH.length=1)with
  |[x],[u],_,_=>
   have ai:bL _ w' ρ' aj x u:=fJ 0;have lR:R3 x=true:=lR;show bL _ w' ρ I (R4 x) u
   cases x with
   |tup l=>
    obtain⟨a,rfl,g1,g2⟩:=ai;have lR:eg y9 l=true:=lR;refine⟨a,rfl,by rw[dM];simpa using g1,fun i hi=> ?_⟩;have hi:i<l.length:=by rw[dM]at hi;simpa using hi
    have:=x9 (Z':=aN N ρ I) (w':=w') (ρ':=ρ) (aj:=I) (nX lR .un i hi) (.hj (g2 i hi));have hn:(bE uM l).getD i .un=uM (l.getD i .un):=by rw[dM];simp[aoA,hi]
    rw[hn];exact .c3 this
   |d y=>exact .c3 (x9 (v:= .d y) lR ai)
   |bt=>exact .c3 (x9 (v:= .bt) rfl ai)
   |bf=>exact .c3 (x9 (v:= .bf) rfl ai)
   |_=>cases lR
 ·rw[aox U]
  have aA:one rs= .tup rs:=by
   match rs,dh with
   |[],_=>rfl
   |[x],dh=>exact absurd dh.symm U
   |_::_::_,_=>rfl
  rw[aA]at lR⊢;have lR:eg y9 rs=true:=lR;refine⟨aH.toArray,rfl,by rw[dM];simp;omega,fun i hi=> ?_⟩;have hi:i<rs.length:=by rw[dM]at hi;simpa using hi
  have aE:=nX lR .un i hi;have:=x9 (Z':=aN N ρ I) (w':=w') (ρ':=ρ) (aj:=I) aE (fJ i);have cX:aH.toArray.getD i undef=aH.getD i undef:=by simp[aoH,aoA]
  have hn:(bE uM rs).getD i .un=uM (rs.getD i .un):=by rw[dM];simp[aoA,hi]
  rw[cX,hn];exact .c3 this
end
end Go.al
namespace Go.al
theorem aaf {T:List J->(J->Prop)->Prop}(h:k0 T):k0 (named T):=HD h
def lC {ι:Type}(S:J->af->List J->Option (Prop×(ι->Prop)×(ι->af)×(ι->J))):J->af->List J->(af->J->Prop)->Prop:=fun a o args K=>match S a o args with|some (p,bD,f,g)=>p/\∀i,bD i->K (f i) (g i)|none=>False
theorem yi {ι:Type}(S:J->af->List J->Option (Prop×(ι->Prop)×(ι->af)×(ι->J)))(h:∀a o args p bD f g,S a o args=some (p,bD,f,g)->p->∃i,bD i):kr (lC S):=by
 refine⟨fun a o args K K' ae bs=> ?_,fun a o args K bs=> ?_⟩
 ·unfold lC at bs⊢;split
  ·rename_i he;rw[he]at bs;exact⟨bs.1,fun i hi=>ae _ _ (bs.2 i hi)⟩
  ·rename_i he;rw[he]at bs;exact bs
 ·unfold lC at bs;split at bs
  ·rename_i he;obtain⟨i,hi⟩:=h _ _ _ _ _ _ _ he bs.1;exact⟨_,_,bs.2 i hi⟩
  ·exact bs.elim
end Go.al
end
section
namespace Go.al
def uw (ps:List a7)(T:af->List J->(af->Prop)->Prop):gw:=fun args I K=>
 match args with
 | .vec id::bM=>
  match cw (cD I bM) id,af.at I id,Nat.beq (bU ps) (bU bM),eg J.plain (a7.eU I ps bM)with
  |false, .ar ak l,true,true=>T (.ar ak l) (a7.eU I ps bM) fun ob=>K (.vec (bU I)) (eM (cQ (cD I bM) id (true, .dead l.length ak)) [(false,ob)])
  |_,_,_,_=>False
 |_=>False
def xA (T:af->List J->(af->Prop)->Prop):Prop:=
 (∀o args (K K':af->Prop),(∀r,K r->K' r)->T o args K->T o args K')/\∀o args K,T o args K->∃r,K r
theorem YH {ps:List a7}{T:af->List J->(af->Prop)->Prop}(h:xA T):hv (uw ps T):=by
 refine⟨fun args I K K' ae bs=> ?_,fun args I K bs=> ?_⟩
 ·unfold uw at bs⊢;split
  ·rename_i id bM;simp only at bs⊢;split
   ·rename_i ak l U aa az aW;rw[U,aa,az,aW]at bs;exact h.1 _ _ _ _ (fun r an=>ae _ _ an) bs
   ·rename_i ai;split at bs
    ·rename_i ak l U aa az aW;exact(ai ak l U aa az aW).elim
    ·exact bs
  ·rename_i ai;split at bs
   ·exact(ai _ _ rfl).elim
   ·exact bs
 ·unfold uw at bs;split at bs
  ·split at bs
   ·obtain⟨r,an⟩:=h.2 _ _ _ bs;exact⟨_,_,an⟩
   ·exact bs.elim
  ·exact bs.elim
def D5 (K:af->Prop)(v:J)(I:aD):Prop:=
 match v with
 | .vec j=>(match cw I j,af.at I j with|false, .ar ak l=>K (.ar ak l)|_,_=>False)
 |_=>False
section
variable {P:Program}
theorem YI (E:bw)(cW:gA P E)
 {f:FuncId} {fn:Func} {c:Code} (aU:P.funcs[f]? =some fn) (ag:fn.body=some c) (av:(fn.name== "runtime.NumGoroutine")=false) {r:Tmp} (an:fn.results=[ResultVar.tmp r].toArray)
 {ps:List a7} {T:af->List J->(af->Prop)->Prop} (gg:∀ak l args K,T (.ar ak l) args K->mQ E fn.ntmps [.tmp r] c (.vec 0::args) [(false, .ar ak l)] (D5 K)):ie P f (uw ps T):=by
 refine⟨⟨fn,aU,by rw[ag];rfl,av⟩, ?_⟩;intro N ρ I w args cm K h aF ax aR;unfold uw at h;split at h;rotate_left
 ·exact h.elim
 rename_i id bM;split at h;rotate_left
 ·exact h.elim
 rename_i ak l U aa az aW;have hlen:ps.length=bM.length:=by have:=aoz az;rwa [cG,cG]at this
 obtain⟨s1,s2,k7,mD⟩:=pK bM I aF;have gf:(cD I bM).length=I.length:=by rw[<-s1.rel.len,aF.len]
 generalize R5:cD I bM=cR at*
 have rn:id<cR.length:=by
  rcases aqp id cR.length with h|h
  ·exact h
  ·rw[Rd _ _ h]at U;cases U
 have Iu:id<ρ.length:=by rw[s1.rel.len];exact rn
 have dP:ρ[id]? =some ρ[id]:=by simp[Iu]
 have zm:af.at cR id= .ar ak l:=by rw[s2,aa]
 have y8:=qP I ps bM hlen;have Fq:bL (aN N ρ I) w ρ I (.vec id) (cm.getD 0 undef):=by simpa using aR 0 (by simp)
 have zo:=s1.lA Fq;have nt:=s1.rel.ob id _ dP;rw[zm]at nt
 have iV:∀b,ρ[id].bu=some b->aN N ρ cR b:=fun b ag=> .inr ⟨id,ρ[id],dP,ag,U⟩
 have y5:∀b,aN (fun b=>aN N ρ cR b/\ρ[id].bu≠some b) [ρ[id]] [(false, .ar ak l)] b->aN N ρ cR b:=fun b ag=>by
  rcases ag with ag|⟨i,aw,aA,aL,_⟩
  ·exact ag.1
  ·cases i with
   |zero=>simp at aA;subst aA;exact iV b aL
   |succ i=>simp at aA
 have uC:∀x u,bB (aN N ρ cR) w x u->bB (aN (fun b=>aN N ρ cR b/\ρ[id].bu≠some b) [ρ[id]] [(false, .ar ak l)]) w x u:=
  fun x u ai=>ai.mono fun b _ bq=>⟨rfl,fun dr=>bq (y5 b dr)⟩
 have hT:cv (fun b=>aN N ρ cR b/\ρ[id].bu≠some b) [ρ[id]] [(false, .ar ak l)] w:=
  {len:=rfl
   fc:=fun b ag=>by
    rcases ag.1 with ag|⟨i,aw,aA,aL,_⟩
    ·exact aF.fc b ag
    ·exact aF.lt i aw b aA aL
   lt:=fun i aw b aA aL=>by
    cases i with
    |zero=>simp at aA;subst aA;exact aF.lt id _ b dP aL
    |succ i=>simp at aA
   inj:=fun i j li cC b aA aL _ _ _ _=>by
    cases i with
    |zero=>cases j with
     |zero=>rfl
     |succ j=>simp at aL
    |succ i=>simp at aA
   fK:=fun i aw b aA aL ag=>by
    cases i with
    |zero=>simp at aA;subst aA;exact ag.2 aL
    |succ i=>simp at aA
   ob:=fun i aw aA=>by
    cases i with
    |zero=>simp at aA;subst aA;exact Be (ob:= .ar ak l) rfl nt (fun _ _=>rfl) uC
    |succ i=>simp at aA}
 have ga:∀i,i<(J.vec 0::a7.eU I ps bM).length->bL (aN (fun b=>aN N ρ cR b/\ρ[id].bu≠some b) [ρ[id]] [(false, .ar ak l)]) w [ρ[id]] [(false, .ar ak l)] ((J.vec 0::a7.eU I ps bM).getD i .un) (cm.getD i undef):=fun i hi=>by
  cases i with
  |zero=>
   obtain⟨aw,aA,aL,qz⟩:=zo;rw[dP]at aA;obtain rfl:=aoK aA;exact .c3 ⟨ρ[id],rfl,by rw[aL,zm];rfl,qz⟩
  |succ i=>
   have hi:i<(a7.eU I ps bM).length:=by simpa using hi
   obtain⟨t,e⟩:=qQ I ps bM hlen i (by omega);have aE:=nX aW .un i hi;have vg:=s1.lA (aR (i+1) (by simp;omega));simp only[List.getD_cons_succ]at vg⊢;rw[e]at aE⊢;exact .hj (pL aE (pM s1.rel s2 t aE vg fun j aP=>mD i j (by omega) aP) uC)
 refine(x8 E cW aU ag an (gg _ _ _ _ h) hT (by simp at ax⊢;omega) ga).mono ?_;rintro e w' ⟨rs,aj,ρ',aH,rfl,dh,l2,ae,bI,cx,fJ⟩;simp only[apL,ao_]at dh l2⊢
 match rs,aH,dh,l2 with
 |[x],[u],fT,fZ=>
 clear fT fZ;have ai:bL (aN (fun b=>aN N ρ cR b/\ρ[id].bu≠some b) ρ' aj) w' ρ' aj x u:=fJ 0
 replace ae:D5 (fun ob=>K (.vec (bU I)) (eM (cQ cR id (true, .dead l.length ak)) [(false,ob)])) x aj:=ae
 unfold D5 at ae
 have aI:∃j,x= .vec j:=by cases x<;>first|exact⟨_,rfl⟩|exact ae.elim
 obtain⟨j,rfl⟩:=aI;simp only at ae;split at ae;rotate_left
 ·exact ae.elim
 rename_i h3 ch g1 g2;obtain⟨cC,ko,hu,zN⟩:=ai;rw[g2]at hu;have Sw:=bI.ob j cC ko;rw[g2]at Sw
 have rr:∃mF:Loc,mF.a=cC.a/\mF.cap=cC.cap/\(∀b,mF.bu=some b->(ρ[id].bu=some b\/w.heap.size<=b)/\b<w'.heap.size/\aN (fun b=>aN N ρ cR b/\ρ[id].bu≠some b) ρ' aj b)/\
  ∀Z' e1 mZ,(∀x u,bB (aN (fun b=>aN N ρ cR b/\ρ[id].bu≠some b) ρ' aj) w' x u->bB Z' w' x u)->h0 Z' w' e1 mZ mF (.ar h3 ch):=by
  rcases Sw with⟨q1,cE⟩|⟨b,aH,e,a6,bj,bH,dO,fi,k6,ho⟩
  ·exact⟨⟨cC.a,cC.cap,none⟩,rfl,rfl,fun b ag=>(by cases ag),fun Z' e1 mZ _=> .inl ⟨q1,cE⟩⟩
  ·have hb:gz ρ' aj b:=⟨j,cC,ko,bj,g1⟩;refine⟨cC,rfl,rfl,fun di ep=> ?_,fun Z' e1 mZ an=> .inr ⟨b,aH,e,a6,bj,bH,dO,fi,k6,fun q c a_ aC=> ?_⟩⟩
   ·rw[bj]at ep;obtain rfl:=aoK ep;refine⟨?_,bI.lt j cC b ko bj, .inr hb⟩;rcases cx.alive b hb with⟨i,li,aA,aL,_⟩|h
    ·cases i with
     |zero=>simp at aA;subst aA;exact .inl aL
     |succ i=>simp at aA
    ·exact .inr h
   ·obtain⟨v,aP,qm⟩:=ho q c a_ aC;exact⟨v,aP,an _ _ qm⟩
 obtain⟨mF,F5,UG,zr,ajk⟩:=rr;have R6:=s1.rel.len
 have cF:∀i,af.at (cR.set id (true, .dead l.length ak)++[(false, .ar h3 ch)]) i=if i=cR.length then .ar h3 ch else if i=id then .dead l.length ak else af.at cR i:=fun i=>by
  rw[gN,aoI];split
  ·rfl
  ·rw[g_]
   by_cases e:i=id
   ·subst e;rw[aoy ⟨rfl,rn⟩,aoy rfl]
   ·rw[aox (fun x=>e x.1.symm),aox e]
 have eo:∀i,cw (cR.set id (true, .dead l.length ak)++[(false, .ar h3 ch)]) i=if i=cR.length then false else if i=id then true else cw cR i:=fun i=>by
  rw[kI,aoI];split
  ·rfl
  ·rw[ij]
   by_cases e:i=id
   ·subst e;rw[aoy ⟨rfl,rn⟩,aoy rfl]
   ·rw[aox (fun x=>e x.1.symm),aox e]
 have get:∀i li,(ρ++[mF])[i]? =some li->(i=cR.length/\li=mF)\/(i<cR.length/\ρ[i]? =some li):=fun i li hi=>by
  rw[ao5]at hi;split at hi
  ·exact .inr ⟨by omega,hi⟩
  ·cases a8:i-ρ.length with
   |zero=>simp[a8]at hi;exact .inl ⟨by omega,hi.symm⟩
   |succ m=>simp[a8]at hi
 have sP:∀i,i<cR.length->¬hg (cR.set id (true, .dead l.length ak)++[(false, .ar h3 ch)]) i->i≠id/\¬hg cR i:=fun i hi ay=>by
  have dg:i≠id:=fun e=>ay ⟨by rw[eo,aox (by omega),aoy e],l.length,ak,by rw[cF,aox (by omega),aoy e]⟩;exact⟨dg,fun⟨f,m,s,e⟩=>ay ⟨by rw[eo,aox (by omega),aox dg];exact f,m,s,by rw[cF,aox (by omega),aox dg];exact e⟩⟩
 have apart:∀i li b,i<cR.length->i≠id->¬hg cR i->ρ[i]? =some li->li.bu=some b->ρ[id].bu≠some b:=fun i li b _ dg ay hi ag ep=>dg (s1.rel.inj i id li _ b hi dP ag ep ay (nV U))
 have Cx:∀b,gz (ρ++[mF]) (cR.set id (true, .dead l.length ak)++[(false, .ar h3 ch)]) b->gz ρ cR b\/w.heap.size<=b:=fun b ⟨i,li,a6,bj,bH⟩=>by
  rcases get i li a6 with⟨rfl,rfl⟩|⟨hi,a6⟩
  ·rcases(zr b bj).1 with ag|ag
   ·exact .inl ⟨id,_,dP,ag,U⟩
   ·exact .inr ag
  ·rw[eo,aox (by omega)]at bH;split at bH
   ·cases bH
   ·exact .inl ⟨i,li,a6,bj,bH⟩
 have sN:∀x,x<w.heap.size->ρ[id].bu≠some x->w'.heap[x]? =w.heap[x]? :=fun x ai dg=>cx.ao x ai fun⟨i,li,a6,bj,_⟩=>by
  cases i with
  |zero=>simp at a6;subst a6;exact dg bj
  |succ i=>simp at a6
 have oe:Fr ρ cR w (ρ++[mF]) (cR.set id (true, .dead l.length ak)++[(false, .ar h3 ch)]) w':=
  ⟨cx.os,cx.tape,cx.output,cx.size,fun x ai xz=>sN x ai fun ag=>xz ⟨id,_,dP,ag,U⟩,Cx⟩
 have e6:∀i,eX ρ cR (ρ++[mF]) (cR.set id (true, .dead l.length ak)++[(false, .ar h3 ch)]) i:=fun i li hi=>by
  have eL:=s1.rel.jU hi;refine⟨by rw[apt (by omega)];exact hi, ?_⟩;rw[cF,aox (by omega)]
  by_cases e:i=id
  ·subst e;rw[aoy rfl,zm];exact⟨rfl,rfl⟩
  ·rw[aox e];exact⟨rfl,rfl⟩
 have m7:∀b,aN N (ρ++[mF]) (cR.set id (true, .dead l.length ak)++[(false, .ar h3 ch)]) b->aN (fun b=>aN N ρ cR b/\ρ[id].bu≠some b) ρ' aj b:=fun b ag=>by
  rcases ag with ag|⟨i,li,a6,bj,bH⟩
  ·exact .inl ⟨.inl ag,fun e=>aF.fK id _ b dP e ag⟩
  ·rcases get i li a6 with⟨rfl,rfl⟩|⟨hi,a6⟩
   ·exact(zr b bj).2.2
   ·rw[eo,aox (by omega)]at bH;split at bH
    ·cases bH
    ·rename_i dg;exact .inl ⟨.inr ⟨i,li,a6,bj,bH⟩,apart i li b hi dg (nV bH) a6 bj⟩
 have Iv:cv N (ρ++[mF]) (cR.set id (true, .dead l.length ak)++[(false, .ar h3 ch)]) w':=
  {len:=by simp[R6]
   fc:=fun b ag=>aoV (aF.fc b ag) cx.size
   lt:=fun i li b hi ag=>by
    rcases get i li hi with⟨_,rfl⟩|⟨_,hi⟩
    ·exact(zr b ag).2.1
    ·exact aoV (aF.lt i li b hi ag) cx.size
   inj:=fun i j li cC b hi aI m5 m6 j5 lV=>by
    have one:∀j cC,j<cR.length->ρ[j]? =some cC->cC.bu=some b->mF.bu=some b->¬hg (cR.set id (true, .dead l.length ak)++[(false, .ar h3 ch)]) j->False:=fun j cC kq nA m6 Ff lV=>by
     obtain⟨e9,hM⟩:=sP j kq lV;rcases(zr b Ff).1 with ag|ag
     ·exact apart j cC b kq e9 hM nA m6 ag
     ·have:=aF.lt j cC b nA m6;omega
    rcases get i li hi with⟨aA,Jn⟩|⟨kp,xn⟩<;>rcases get j cC aI with⟨aL,Jo⟩|⟨kq,nA⟩
    ·omega
    ·exact(one j cC kq nA m6 (Jn▸m5) lV).elim
    ·exact(one i li kp xn m5 (Jo▸m6) j5).elim
    ·exact s1.rel.inj i j li cC b xn nA m5 m6 (sP i kp j5).2 (sP j kq lV).2
   fK:=fun i li b hi ag fM=>by
    rcases get i li hi with⟨_,rfl⟩|⟨_,hi⟩
    ·rcases(zr b ag).1 with ag|ag
     ·exact aF.fK id _ b dP ag fM
     ·have:=aF.fc b fM;omega
    ·exact aF.fK i li b hi ag fM
   ob:=fun i li hi=>by
    rw[cF];rcases get i li hi with⟨rfl,rfl⟩|⟨kp,hi⟩
    ·rw[aoy rfl];exact ajk _ _ _ fun x u ai=>ai.mono fun y _ bq=>⟨rfl,fun dr=>bq (m7 y dr)⟩
    ·rw[aox (by omega)];split
     ·trivial
     ·rename_i dg
      by_cases sp:hg cR i
      ·obtain⟨_,m,s,e⟩:=sp;rw[e];trivial
      ·exact(s1.rel.ob i li hi).mono (fun b ag=>sN b (aF.lt i li b hi ag) (apart i li b kp dg sp hi ag)) (fun _ _=>oe.reads) fun _ _ _ idx _ _=>e6 idx}
 refine⟨_,_,ρ++[mF],u,rfl,ae,s1.trans ?_, ?_⟩
 ·rw[eI,fV];exact{oe with rel:=Iv,same:=e6}
 ·rw[eI,fV,cG,<-gf];refine .c3 ⟨mF,by rw[<-R6];simp, ?_,fun h=>by rw[UG];exact zN (by rw[<-F5];exact h)⟩;rw[cF,aoy rfl,hu,F5,UG]
end
def w0 (S:af->List J->Option (Prop×af)):af->List J->(af->Prop)->Prop:=fun o args K=>match S o args with|some (p,r)=>p/\K r|none=>False
theorem abL (S:af->List J->Option (Prop×af)):xA (w0 S):=by
 refine⟨fun o args K K' ae h=> ?_,fun o args K h=> ?_⟩
 ·unfold w0 at h⊢;split
  ·rename_i he;rw[he]at h;exact⟨h.1,ae _ h.2⟩
  ·rename_i he;rw[he]at h;exact h
 ·unfold w0 at h;split at h
  ·exact⟨_,h.2⟩
  ·exact h.elim
def Dr (T:af->List J->(af->Prop)->Prop):af->List J->(af->Prop)->Prop:=fun o args K=>T o args fun r=>C8 K r
theorem Ox (T:af->List J->(af->Prop)->Prop):Dr T=T:=by
 funext o args K
 unfold Dr
 congr 1
 funext r
 exact propext (by cases r<;>simp[C8])
theorem aag {T:af->List J->(af->Prop)->Prop}(h:xA T):xA (Dr T):=by rw[Ox];exact h
end Go.al
end
section
namespace List
def aG {α:Type}(l:List (List α))(i:Int):List α:=l.getD i.toNat []
def eV (r:List Go.al.R):Go.al.R:=r.getD 8 .undef
def eb (r:List Go.al.R):Go.al.R:=r.getD 9 .undef
def ec (r:List Go.al.R):Go.al.R:=r.getD 10 .undef
end List
namespace Go.al
theorem aq4 {a b:Nat}(h:Nat.beq a b=true):a=b:=aoz h
def ah (n:Int):Int:=IntKind.wrap .i64 n
def aT (n:Int):Int:=IntKind.wrap .u64 n
def bX (n:Int):Int:=IntKind.wrap .u32 n
def aO {α:Type}(l:List α):Int:=(Nat.cast:Nat->Int) (List.length l)
theorem akG {T:List J->(J->Prop)->Prop}{f:List J}(i:∀{a K},T a K->a=f){M:List J->(J->Prop)->Prop}(H:∀K,T f K->M f K)(a)(K)(h:T a K):M a K:=by
 obtain rfl:=i h;exact H K h
theorem gl {α:Type}{T:List J->(J->Prop)->Prop}{f:α->List J}(i:∀{a K},T a K->∃ck,a=(f ck)){M:List J->(J->Prop)->Prop}(H:∀ck K,T (f ck) K->M (f ck) K)(a)(K)(h:T a K):M a K:=by
 obtain⟨ck,rfl⟩:=i h;exact H ck K h
theorem e8 {α β:Type}{T:List J->(J->Prop)->Prop}{f:α->β->List J}(i:∀{a K},T a K->∃ck cH,a=(f ck cH)){M:List J->(J->Prop)->Prop}(H:∀ck cH K,T (f ck cH) K->M (f ck cH) K)(a)(K)(h:T a K):M a K:=by
 obtain⟨ck,cH,rfl⟩:=i h;exact H ck cH K h
theorem kx {α β ka:Type}{T:List J->(J->Prop)->Prop}{f:α->β->ka->List J}(i:∀{a K},T a K->∃ck cH cz,a=(f ck cH cz)){M:List J->(J->Prop)->Prop}(H:∀ck cH cz K,T (f ck cH cz) K->M (f ck cH cz) K)(a)(K)(h:T a K):M a K:=by
 obtain⟨ck,cH,cz,rfl⟩:=i h;exact H ck cH cz K h
theorem akH {α β ka nO:Type}{T:List J->(J->Prop)->Prop}{f:α->β->ka->nO->List J}(i:∀{a K},T a K->∃ck cH cz ei,a=(f ck cH cz ei)){M:List J->(J->Prop)->Prop}(H:∀ck cH cz ei K,T (f ck cH cz ei) K->M (f ck cH cz ei) K)(a)(K)(h:T a K):M a K:=by
 obtain⟨ck,cH,cz,ei,rfl⟩:=i h;exact H ck cH cz ei K h
theorem akI {α β ka nO vM:Type}{T:List J->(J->Prop)->Prop}{f:α->β->ka->nO->vM->List J}(i:∀{a K},T a K->∃ck cH cz ei hq,a=(f ck cH cz ei hq)){M:List J->(J->Prop)->Prop}(H:∀ck cH cz ei hq K,T (f ck cH cz ei hq) K->M (f ck cH cz ei hq) K)(a)(K)(h:T a K):M a K:=by
 obtain⟨ck,cH,cz,ei,hq,rfl⟩:=i h;exact H ck cH cz ei hq K h
theorem r2 {α β ka nO vM amG:Type}{T:List J->(J->Prop)->Prop}{f:α->β->ka->nO->vM->amG->List J}(i:∀{a K},T a K->∃ck cH cz ei hq tQ,a=(f ck cH cz ei hq tQ)){M:List J->(J->Prop)->Prop}(H:∀ck cH cz ei hq tQ K,T (f ck cH cz ei hq tQ) K->M (f ck cH cz ei hq tQ) K)(a)(K)(h:T a K):M a K:=by
 obtain⟨ck,cH,cz,ei,hq,tQ,rfl⟩:=i h;exact H ck cH cz ei hq tQ K h
theorem J9 {α:Type}{T:List J->(af->Prop)->Prop}{f:α->List J}(i:∀{a K},T a K->∃ck,a=(f ck)){M:List J->(af->Prop)->Prop}(H:∀ck K,T (f ck) K->M (f ck) K)(a)(K)(h:T a K):M a K:=by
 obtain⟨ck,rfl⟩:=i h;exact H ck K h
theorem Ue {α β:Type}{T:List J->(af->Prop)->Prop}{f:α->β->List J}(i:∀{a K},T a K->∃ck cH,a=(f ck cH)){M:List J->(af->Prop)->Prop}(H:∀ck cH K,T (f ck cH) K->M (f ck cH) K)(a)(K)(h:T a K):M a K:=by
 obtain⟨ck,cH,rfl⟩:=i h;exact H ck cH K h
theorem FM {α:Type}{T:J->af->List J->(af->J->Prop)->Prop}{g:α->J}{o:α->af}{f:α->List J}(i:∀{a0 cb} {a K},T a0 cb a K->∃ck,a0=(g ck)/\cb=(o ck)/\a=(f ck)){M:J->af->List J->(af->J->Prop)->Prop}(H:∀ck K,T (g ck) (o ck) (f ck) K->M (g ck) (o ck) (f ck) K)(a0 cb)(a)(K)(h:T a0 cb a K):M a0 cb a K:=by
 obtain⟨ck,rfl,rfl,rfl⟩:=i h;exact H ck K h
theorem k3 {α β ka:Type}{T:J->af->List J->(af->J->Prop)->Prop}{g:α->β->ka->J}{o:α->β->ka->af}{f:α->β->ka->List J}(i:∀{a0 cb} {a K},T a0 cb a K->∃ck cH cz,a0=(g ck cH cz)/\cb=(o ck cH cz)/\a=(f ck cH cz)){M:J->af->List J->(af->J->Prop)->Prop}(H:∀ck cH cz K,T (g ck cH cz) (o ck cH cz) (f ck cH cz) K->M (g ck cH cz) (o ck cH cz) (f ck cH cz) K)(a0 cb)(a)(K)(h:T a0 cb a K):M a0 cb a K:=by
 obtain⟨ck,cH,cz,rfl,rfl,rfl⟩:=i h;exact H ck cH cz K h
theorem nc {α β ka nO:Type}{T:J->af->List J->(af->J->Prop)->Prop}{g:α->β->ka->nO->J}{o:α->β->ka->nO->af}{f:α->β->ka->nO->List J}(i:∀{a0 cb} {a K},T a0 cb a K->∃ck cH cz ei,a0=(g ck cH cz ei)/\cb=(o ck cH cz ei)/\a=(f ck cH cz ei)){M:J->af->List J->(af->J->Prop)->Prop}(H:∀ck cH cz ei K,T (g ck cH cz ei) (o ck cH cz ei) (f ck cH cz ei) K->M (g ck cH cz ei) (o ck cH cz ei) (f ck cH cz ei) K)(a0 cb)(a)(K)(h:T a0 cb a K):M a0 cb a K:=by
 obtain⟨ck,cH,cz,ei,rfl,rfl,rfl⟩:=i h;exact H ck cH cz ei K h
theorem FN {α β ka nO vM:Type}{T:J->af->List J->(af->J->Prop)->Prop}{g:α->β->ka->nO->vM->J}{o:α->β->ka->nO->vM->af}{f:α->β->ka->nO->vM->List J}(i:∀{a0 cb} {a K},T a0 cb a K->∃ck cH cz ei hq,a0=(g ck cH cz ei hq)/\cb=(o ck cH cz ei hq)/\a=(f ck cH cz ei hq)){M:J->af->List J->(af->J->Prop)->Prop}(H:∀ck cH cz ei hq K,T (g ck cH cz ei hq) (o ck cH cz ei hq) (f ck cH cz ei hq) K->M (g ck cH cz ei hq) (o ck cH cz ei hq) (f ck cH cz ei hq) K)(a0 cb)(a)(K)(h:T a0 cb a K):M a0 cb a K:=by
 obtain⟨ck,cH,cz,ei,hq,rfl,rfl,rfl⟩:=i h;exact H ck cH cz ei hq K h
theorem akJ {α:Type}{T:af->List J->(af->Prop)->Prop}{o:α->af}{f:α->List J}(i:∀{cb} {a K},T cb a K->∃ck,cb=(o ck)/\a=(f ck)){M:af->List J->(af->Prop)->Prop}(H:∀ck K,T (o ck) (f ck) K->M (o ck) (f ck) K)(cb)(a)(K)(h:T cb a K):M cb a K:=by
 obtain⟨ck,rfl,rfl⟩:=i h;exact H ck K h
end Go.al
end
section
namespace Go.al
open Go.RowKit
def IC (k:IntKind)(w:World)(a:Option Addr)(len cap:Nat)(mG:List Int):Prop:=
 (a=none/\len=0/\cap=0/\mG=[])\/
 ∃x,a=some x/\len<=cap/\cap<=maxLen/\mG.length=cap/\(∀i,i<mG.length->w.cell? (x.add i)=some (.int k (mG.getD i 0)))/\∀n∈mG,(Lit.int k n).wf=true
def tv (_:Nat):Prop:=False
theorem aau {w:World}{a:Addr}{v:Value}(h:w.cell? a=some v):a.spot=none:=by
 unfold World.cell? at h;split at h
 ·split at h
  ·cases h
  ·rename_i ay
   cases aR:a.spot with
   |none=>rfl
   |some x=>rw[aR]at ay;simp at ay
 ·cases h
theorem aav {k:IntKind}{w:World}{a:Option Addr}{len cap:Nat}{mG:List Int}(h:IC k w a len cap mG):bB tv w (.ad k (mG.take len)) (.slice a len cap):=by
 rcases h with⟨rfl,rfl,rfl,rfl⟩|⟨x,rfl,ax,hm,bq,aC,hw⟩
 ·exact .jg _ _ _
 ·by_cases bc:len=0
  ·subst bc;rw[List.take_zero];exact .jg _ _ _
  ·have ay:x.spot=none:=by
    have:=aC 0 (by omega);exact aau this
   obtain⟨b,off,sp⟩:=x;simp only at ay;subst ay;refine .ad k _ len b off cap (by rw[ao3];omega) (fun h=>h) ax fun i hi=> ?_;have rP:=aC i (by omega)
   have aA:Addr.add ⟨b,off,none⟩ i=⟨b,off+i,none⟩:=by
    unfold Addr.add;split
    ·rename_i e;subst e;rfl
    ·rfl
   rw[aA]at rP;rw[rP]
   congr 2
   simp only[aoA,aps];rw[aoy hi]
theorem aer {k:IntKind}{w:World}{a:Option Addr}{len cap:Nat}{mG:List Int}(h:IC k w a len cap mG):∀n∈mG.take len,k.min<=n/\n<=k.max:=fun n av=>by
 rcases h with⟨rfl,rfl,rfl,rfl⟩|⟨x,rfl,ax,hm,bq,aC,hw⟩
 ·cases av
 ·have:=hw n (List.mem_of_mem_take av);simpa[Lit.wf]using this
theorem aes {k:IntKind}{n:Int}(h:(Lit.int k n).wf=true):k.min<=n/\n<=k.max:=by simpa[Lit.wf]using h
theorem aaw {P:Program}{f:FuncId}{ps:List a7}{T:List J->(J->Prop)->Prop}(h:ie P f (iB ps T)){xs:List R}{cm:Array Value}{w:World}
 (bs:iB ps T (bE .d xs) [] fun r _=>r= .d (.bool true)) (ax:xs.length=cm.size) (aR:∀i,i<xs.length->bB tv w (xs.getD i .undef) (cm.getD i undef)):
 Calls P f cm w fun e w'=>e= .returned (.bool true)/\Below w.heap.size w w':=by
 have bq:∀b,¬aN tv [] [] b:=fun b ag=>by
  rcases ag with ag|⟨i,aw,aA,_⟩
  ·exact ag
  ·simp at aA
 have bI:cv tv [] [] w:=
  {len:=rfl
   fc:=fun b ag=>ag.elim
   lt:=fun i aw b e=>by simp at e
   inj:=fun i j li cC b e=>by simp at e
   fK:=fun i aw b e=>by simp at e
   ob:=fun i aw e=>by simp at e}
 have TC:(bE J.d xs).length=xs.length:=by rw[dM,aoF]
 refine(h.2 tv [] [] w (bE .d xs) cm _ bs bI (by rw[TC];exact ax) fun i hi=> ?_).mono ?_
 ·rw[TC]at hi
  have e:(bE J.d xs).getD i .un= .d (xs.getD i .undef):=by
   rw[dM];simp[aoA,hi]
  rw[e];exact .c3 ((aR i hi).mono fun b _ ag=>⟨rfl,bq b⟩)
 ·rintro e w' ⟨r,aj,ρ',v,rfl,rfl,ay,aP⟩;have aP:bB (aN tv ρ' aj) w' (.bool true) v:=aP
  cases aP with
  |bool _=>exact⟨rfl,ay.os,ay.tape,ay.output,ay.size,fun k ae=>ay.ao k ae fun⟨i,aw,aA,_⟩=>by simp at aA⟩
end Go.al
end
section
namespace Go.Proofs
open Go.Shelf Go.RowKit
variable {P:Program} {ρ:Ren}
def lF (T e:TypeId)(b:Nat)(ft:List Value)(w:World)(N:Nat->Prop):Prop:=
 ∃p v,(p= .pointer none\/p= .pointer (some ⟨b,0,none⟩))/\N b/\(∀g,v.ownBlock=some g->N g)/\w.heap[b]? =some (.cells #[p,v] T (0,0))/\w.ownsRow 0 e 1 v ft.length ft/\v.ownBlock≠some b
structure j4 (N:Nat->Prop)(w w':World):Prop where
 os:w'.os=w.os
 tape:w'.tape=w.tape
 output:w'.output=w.output
 size:w.heap.size<=w'.heap.size
 ao:∀k,k<w.heap.size->¬N k->w'.heap[k]? =w.heap[k]?
theorem lF.at {T e:TypeId}{b:Nat}{ft:List Value}{w:World}{N:Nat->Prop}(h:lF T e b ft w N):Lib.IsBuilder T e 0 b ft w:=by
 obtain⟨p,v,aE,_,_,ag,aF,av⟩:=h;rcases aE with rfl|rfl
 ·exact .inl ⟨apS _,v,ag,aF,av⟩
 ·exact .inr ⟨apS _,v,ag,aF,av⟩
theorem lF.ao {T e:TypeId}{b:Nat}{ft:List Value}{w w':World}{N nh:Nat->Prop}(h:lF T e b ft w N)(fM:∀x,N x->nh x)(ae:∀k,k<w.heap.size->N k->w'.heap[k]? =w.heap[k]?):lF T e b ft w' nh:=by
 obtain⟨p,v,aE,U,aa,ag,aF,av⟩:=h;have bG:b<w.heap.size:=(aqV.1 ag).1;refine⟨p,v,aE,fM _ U,fun g bh=>fM _ (aa g bh),by rw[ae b bG U];exact ag,⟨aF.1, ?_⟩,av⟩;rcases aF.2 with bq|⟨g,cap,cur,rfl,a6,bj,bH⟩
 ·exact .inl bq
 ·exact .inr ⟨g,cap,cur,rfl,a6,by rw[ae g (aqV.1 bj).1 (aa g rfl)];exact bj,bH⟩
theorem Xr {w:World}{B:Nat}{e:TypeId}{v:Value}{n:Nat}{xs:List Value}(h:w.ownsRow B e 1 v n xs):w.ownsRow 0 e 1 v n xs:=by
 refine⟨h.1, ?_⟩;rcases h.2 with bq|⟨g,cap,cur,rfl,_,k⟩
 ·exact .inl bq
 ·exact .inr ⟨g,cap,cur,rfl,apS _,k⟩
theorem aaK {w:World}(t u ty e:TypeId)(i:TypeInfo)(au:P.underlying t=some (.slice e))(hu:P.underlying u=some .string)(hi:P.info? e=some i)(bq:i.zero=some (.int .u8 0))(n8:i.size=1)(nz:i.bytes=1)
 {v:Value} {n:Nat} {xs:List Value} (e7:w.ownsRow 0 e 1 v n xs) (s:ByteArray) (ag:n+s.size<=140737488355328):
 ∃c6 w',(Builtin.append_ #[t,u] ty #[v, .string s]).run P w= .ok c6 w'/\w'.ownsRow 0 e 1 c6 (n+s.size) (xs++Lib.strCells s)/\w.grownBy w' v.ownBlock/\∀g,c6.ownBlock=some g->v.ownBlock=some g\/w.heap.size<=g:=by
 have hm:n+s.size<=maxLen:=by unfold maxLen;omega
 rcases e7.2 with⟨rfl,rfl⟩|⟨g,cap,cur,rfl,_,bh,av,pq,cq,FE⟩
 ·obtain⟨c6,w',U,aa,az,_⟩:=Lib.run_append_own_string w w.heap.size t u ty e i au hu hi bq n8 nz _ 0 xs ⟨e7.1, .inl ⟨rfl,rfl⟩⟩ s hm ag (aoE _);exact⟨c6,w',U,Xr aa,az,fun g bh=> .inr (aa.lt g bh).1⟩
 ·obtain⟨c6,w',U,aa,az,_⟩:=Lib.run_append_own_string w 0 t u ty e i au hu hi bq n8 nz _ n xs e7 s hm ag (apS _);refine⟨c6,w',U,aa,az,fun k ae=> ?_⟩;have gh:Src P i.size u (.string s) s.size (Lib.strCells s) w:=by rw[n8];exact Src.ofString w hu s
  have xl:xs.length=n:=by simpa using e7.1
  by_cases an:n+s.size<=cap
  ·have fq:=run_append_room_src (P:=P) w t u ty e i au hi g 0 n cap (.string s) s.size (Lib.strCells s) gh an
    (fun j aI=>by
      rw[Lib.strCells_length]at aI;rw[Lib.cell_of_heap bh,n8];have:0+n*1+j<cur.size:=by omega
      rw[aqj this];rfl)
    (fun j _=>Lib.frozen_of_heap bh _)
   rw[fq]at U;injection U with aA _;rw[<-aA]at ae;exact .inl ae
  ·have hold:(Builtin.firstCells i.size n (.slice (some ⟨g,0,none⟩) n cap)).run P w.drew= .ok xs.toArray w.drew:=by
    rw[n8];refine run_firstCells_some w.drew 1 n ⟨g,0,none⟩ n cap xs (by omega) fun j x aI=> ?_;exact e7.cells (g:=g) rfl j x aI
   have fq:=run_append_grow_src (P:=P) w t u ty e i (.int .u8 0) au hi bq (some ⟨g,0,none⟩) n cap xs hold (.string s) s.size (Lib.strCells s) gh (by omega) (by omega)
    (growslice_fits (by omega) (by rw[nz];omega))
   rw[fq]at U;injection U with aA _;rw[<-aA]at ae;simp only[Value.ownBlock,aoU]at ae;exact .inr (by omega)
theorem aaL {w:World}{ops:Array Oper}{bM:List Oper}{o:Oper}{a:Act}{Q:Exit->Act->World->Prop}(pd:o.guard=none)(UW x:Operand)(t u:TypeId)
 (aF:o.op= .call {callee:= .builtin .append,args:=#[UW,x],argTypes:=#[t,u]}) (e:TypeId) (i:TypeInfo) (au:P.underlying t=some (.slice e)) (hu:P.underlying u=some .string) (hi:P.info? e=some i)
 (bq:i.zero=some (.int .u8 0)) (n8:i.size=1) (nz:i.bytes=1) (v:Value) (n:Nat) (xs:List Value) (ay:a.eval UW=v) (e7:w.ownsRow 0 e 1 v n xs) (s:ByteArray) (ai:a.eval x= .string s) (ag:n+s.size<=140737488355328)
 (h:∀c6 w',w'.ownsRow 0 e 1 c6 (n+s.size) (xs++Lib.strCells s)->w.grownBy w' v.ownBlock->(∀g,c6.ownBlock=some g->v.ownBlock=some g\/w.heap.size<=g)->wpList P ops Q bM (a.put o.dst c6) w'):wpList P ops Q (o::bM) a w:=by
 refine wpList_plain pd fun K gM=> ?_;obtain⟨c6,w',an,aa,az,aW⟩:=aaK (P:=P) t u o.type e i au hu hi bq n8 nz e7 s ag;unfold Oper.wp execOp;simp only[aF,resolve,invoke,builtin,Sem.run_bind,Sem.run_pure,Result.andThen_ok,aqE,aoX,aqo,ay,ai,an];exact gM _ _ (h c6 w' aa az aW)
theorem acn {f:FuncId}{T e:TypeId}(hu:∀(b:Nat) (w:World),w.cell? ⟨b,0,none⟩=some (.pointer (some ⟨b,0,none⟩))->Calls P f #[.pointer (some ⟨b,0,none⟩)] w fun r w'=>r= .returned (.tuple #[])/\w'=w)
 (cx:∀(b:Nat) (w:World),w.cell? ⟨b,0,none⟩=some (.pointer none)->w.shape? b=some (T,2)->w.frozen? ⟨b,0,none⟩=false->Calls P f #[.pointer (some ⟨b,0,none⟩)] w fun r w'=>r= .returned (.tuple #[])/\w'=w.setCell ⟨b,0,none⟩ (.pointer (some ⟨b,0,none⟩)))
 {b:Nat} {ft:List Value} {w:World} {p v:Value} (aE:p= .pointer none\/p= .pointer (some ⟨b,0,none⟩)) (ag:w.heap[b]? =some (.cells #[p,v] T (0,0)))
 (aF:w.ownsRow 0 e 1 v ft.length ft) (av:v.ownBlock≠some b):
 Calls P f #[.pointer (some ⟨b,0,none⟩)] w fun r w1=>r= .returned (.tuple #[])/\w1.heap[b]? =some (.cells #[.pointer (some ⟨b,0,none⟩),v] T (0,0))/\w1.ownsRow 0 e 1 v ft.length ft/\w.grownBy w1 (some b):=by
 have bc:w.cell? ⟨b,0,none⟩=some p:=by rw[Lib.cell_of_heap ag];rfl
 rcases aE with rfl|rfl
 ·have cF:Lib.BuilderAt T e 0 b (.pointer none) ft w:=⟨apS _,v,ag,aF,av⟩;refine(cx b w bc cF.shape cF.frozen0).mono ?_;rintro r w1 ⟨rfl,rfl⟩
  have TO:w.grownBy (w.setCell ⟨b,0,none⟩ (.pointer (some ⟨b,0,none⟩))) (some b):=by
   refine⟨rfl,rfl,rfl,by simp[World.setCell],fun k _ ae=> ?_⟩;have:b≠k:=fun e=>ae (by rw[e]);simp[World.setCell,aqH,this]
  refine⟨rfl, ?_,aF.kept TO (.inr av),TO⟩;simp[World.setCell,aqH,ag]
 ·refine(hu b w bc).mono ?_;rintro r w1 ⟨rfl,rfl⟩;exact⟨rfl,ag,aF,rfl,rfl,rfl,aoE _,fun _ _ _=>rfl⟩
end Go.Proofs
end
section
namespace Go.al
open Go.Proofs
structure hr where
 E:bw
 β:Tmp
 pH:TypeId
 lZ:TypeId
 F9:FuncId
 F_:FuncId
 fuel:Nat
structure ld where
 tm:List J
 I:aD
 ft:Option (List Int)
def hr.other (X:hr)(o:Oper):Nat:=match fU o.dst (some X.β)with|true=>4|false=>0
def hr.cls (X:hr)(o:Oper):Nat:=
 match o.guard,o.op with
 |none, .alloc t=>(match Nat.beq t X.pH,fU o.dst (some X.β)with|true,true=>1|_,_=>X.other o)
 |none, .call c=>
  (match c.callee,fU o.dst (some X.β)with
  | .value (.func f),false=>
   (match Nat.beq f X.F9,Nat.beq f X.F_,c.args.toList with
   |true,_,[.tmp p,_]=>(match Nat.beq p X.β with|true=>2|false=>4)
   |_,true,[.tmp p]=>(match Nat.beq p X.β with|true=>3|false=>4)
   |_,_,_=>0)
  |_,_=>X.other o)
 |_,_=>X.other o
def I5 (o:Oper):Operand:=
 match o.op with
 | .call c=>(match c.args.toList with|[_,x]=>x|_=> .const undef)
 |_=> .const undef
def zB (all:List Oper)(o:Oper)(tm:List J):List J:=
 match o.guard with
 |none=>tm
 |some (j,_)=>
  (match l7 all j with
  |none=>tm
  |some g=>(match b8 .un tm g with| .d (.bool b)=>(match b with|true=>cQ tm g .bt|false=>cQ tm g .bf)|_=>tm))
def hr.quiet (X:hr)(l:List Oper):Bool:=eg (fun o=>match fU o.dst (some X.β)with|true=>false|false=>true) l
def sx (X:hr)(all:List Oper):List Oper->ld->(ld->Prop)->Prop
 |[],S,K=>K S
 |o::bM,S,K=>
  match Nat.beq (X.cls o) 0,Nat.beq (X.cls o) 2,Nat.beq (X.cls o) 3 with
  |true,_,_=>dw X.E.tb X.E.bx [] all [o] (zB all o S.tm) S.I fun tm I=>sx X all bM ⟨tm,I,S.ft⟩ K
  |_,true,_=>
   (match S.ft,aY S.tm (I5 o)with
   |some l, .d (.str s)=>l.length+s.length<=1000000000/\sx X all bM ⟨put S.tm o.dst .any,S.I,some (l++s)⟩ K
   |_,_=>False)
  |_,_,true=>(match S.ft with|some l=>l≠[]/\sx X all bM ⟨put S.tm o.dst (.d (.str l)),S.I,none⟩ K|none=>False)
  |_,_,_=>False
def El (body:ld->(hd->ld->Prop)->Prop):Nat->ld->(hd->ld->Prop)->Prop
 |0,_,_=>False
 |n+1,S,K=>body S fun e S'=>match e with| .normal=>El body n S' K|e=>K e S'
def kl (X:hr):Code->Nat->ld->(hd->ld->Prop)->Prop
 | .skip,_,S,K=>K .normal S
 | .label _,_,S,K=>K .normal S
 | .region id ops draw,bu,S,K=>
  match draw with
  |true=>(match eg (fun o=>Nat.beq (X.cls o) 0&&X.quiet [o]) ops.toList with|true=>gQ X.E (.region id ops true) bu ⟨S.tm,S.I⟩ fun e S'=>K e ⟨S'.tm,S'.I,S.ft⟩|false=>False)
  |false=>
   (match ops.toList,S.ft,Nat.blt X.β (bU S.tm)with
   |[o],none,true=>(match Nat.beq (X.cls o) 1 with|true=>K .normal ⟨cQ S.tm X.β .any,S.I,some []⟩|false=>(match X.quiet ops.toList with|true=>sx X ops.toList ops.toList S (K .normal)|false=>False))
   |_,_,_=>(match X.quiet ops.toList with|true=>sx X ops.toList ops.toList S (K .normal)|false=>False))
 | .seq a b,bu,S,K=>kl X a bu S fun e S'=>match e with| .normal=>kl X b bu S' K|e=>K e S'
 | .cond c a b,bu,S,K=>
  match aY S.tm c with
  | .bt=>kl X a bu S K
  | .bf=>kl X b bu S K
  | .d (.bool x)=>(match x with|true=>kl X a bu S K|false=>kl X b bu S K)
  |_=>False
 | .block id c,_,S,K=>kl X c id S fun e S'=>match e with| .exit i=>(match Nat.beq i id with|true=>K .normal S'|false=>K (.exit i) S')|e=>K e S'
 | .loop c,bu,S,K=>El (kl X c bu) X.fuel S K
 | .exit id,_,S,K=>K (.exit id) S
 | .goto l,_,S,K=>K (.goto l) S
 | .ret,_,S,K=>K .ret S
 | .scope c,bu,S,K=>kl X c bu S fun e S'=>match e with| .goto _=>False|e=>K e S'
 | .refuse _,_,_,_=>False
 | .rangeFunc ..,_,_,_=>False
def sr (X:hr)(ntmps:Nat)(results:List ResultVar)(c:Code)(args:List J)(K:J->aD->Prop):Prop:=
 kl X c 1000000 ⟨pad ntmps args,[],none⟩ fun e S=>
  match e with
  | .normal| .ret=>(match lj X.E.tb S.tm S.I results with|true=>gC (jS X.E.tb S.tm S.I results) (K (one (gO X.E.tb S.tm S.I results)) S.I)|false=>False)
  |_=>False
structure zC (P:Program)(X:hr):Prop where
 write:∀(b:Nat) (ft:List Value) (s:ByteArray) (w:World) (N:Nat->Prop),lF X.pH X.lZ b ft w N->ft.length+s.size<=140737488355328->
  Calls P X.F9 #[.pointer (some ⟨b,0,none⟩), .string s] w fun r w'=>r= .returned (.tuple #[.int .i64 s.size, .nilIface])/\lF X.pH X.lZ b (ft++Lib.strCells s) w' (fun x=>N x\/w.heap.size<=x)/\j4 N w w'
 read:∀(b:Nat) (l:List UInt8) (w:World) (N:Nat->Prop),lF X.pH X.lZ b (Lib.byteCells l) w N->l≠[]->
  Calls P X.F_ #[.pointer (some ⟨b,0,none⟩)] w fun r w'=>r= .returned (.string ⟨l.toArray⟩)/\j4 N w w'
 zero:∀w,(zeroValue X.pH).run P w= .ok (.agg #[.pointer none, .slice none 0 0]) w
 TP:∃fn,P.funcs[X.F9]? =some fn/\fn.body.isNone=false/\(fn.name== "runtime.NumGoroutine")=false
 TQ:∃fn,P.funcs[X.F_]? =some fn/\fn.body.isNone=false/\(fn.name== "runtime.NumGoroutine")=false
def SH (X:hr)(a:Act)(w:World)(M:Nat->Prop):Option (List Int)->Prop
 |none=>True
 |some l=>∃(b:Nat) (bytes:List UInt8),a.tmps.getD X.β undef= .pointer (some ⟨b,0,none⟩)/\X.β<a.tmps.size/\l=bytes.map (fun x=>(x.toNat:Int))/\lF X.pH X.lZ b (Lib.byteCells bytes) w M
structure qh (X:hr)(oJ:Nat->Prop)(er:World)(S:ld)(a:Act)(w:World):Prop where
 ex:∃(N:Nat->Prop) (ρ:List Loc) (M:Nat->Prop),(∀b,oJ b->N b)/\eC N ρ S.tm S.I a w/\(∀b,gz ρ S.I b->er.heap.size<=b)/\(∀b,M b->N b/\er.heap.size<=b)/\SH X a w M S.ft
 AU:j4 (fun _=>False) er w
theorem j4.refl (N:Nat->Prop)(w:World):j4 N w w:=⟨rfl,rfl,rfl,aoE _,fun _ _ _=>rfl⟩
theorem lF.lt {T e:TypeId}{b:Nat}{ft:List Value}{w:World}{N:Nat->Prop}(h:lF T e b ft w N):lF T e b ft w (fun x=>N x/\x<w.heap.size):=by
 obtain⟨p,v,aE,U,aa,ag,aF,av⟩:=h;exact⟨p,v,aE,⟨U,(aqV.1 ag).1⟩,fun g bh=>⟨aa g bh,(aF.lt g bh).2⟩,ag,aF,av⟩
theorem eC.aside {N M:Nat->Prop}{ρ:List Loc}{tm:List J}{I:aD}{a:Act}{w w':World}(h:eC N ρ tm I a w)(aU:j4 M w w')(hW:∀b,M b->N b):
 eC (fun x=>N x\/(w.heap.size<=x/\x<w'.heap.size)) ρ tm I a w':=by
 have bq:∀b,b<w.heap.size->¬aN N ρ I b->¬aN (fun x=>N x\/(w.heap.size<=x/\x<w'.heap.size)) ρ I b:=fun b ag av bq=>by
  rcases bq with(U|U)|U
  ·exact av (.inl U)
  ·omega
  ·exact av (.inr U)
 have an:∀x u,bB (aN N ρ I) w x u->bB (aN (fun x=>N x\/(w.heap.size<=x/\x<w'.heap.size)) ρ I) w' x u:=fun x u ai=>
  ai.mono fun b ag av=>⟨aU.ao b ag fun hm=>av (.inl (hW b hm)),bq b ag av⟩
 refine⟨?_,⟨h.en.size,fun t=>(h.en.at_ t).mono an fun id _=>eX.refl ρ I id⟩,h.hN⟩;refine{len:=h.eO.len,fc:=fun b ag=> ?_,lt:=fun i aw b U aa=>aoV (h.eO.lt i aw b U aa) aU.size,inj:=h.eO.inj,fK:=fun i aw b U aa av=> ?_,ob:=fun i aw U=> ?_}
 ·rcases ag with ag|ag
  ·exact aoV (h.eO.fc b ag) aU.size
  ·exact ag.2
 ·rcases av with av|av
  ·exact h.eO.fK i aw b U aa av
  ·have:=h.eO.lt i aw b U aa;omega
 ·exact(h.eO.ob i aw U).mono (fun b ag=>aU.ao b (h.eO.lt i aw b U ag) fun hm=>h.eO.fK i aw b U ag (hW b hm)) an fun _ _ _ id _ _=>eX.refl ρ I id
section
variable {P:Program} {X:hr} {oJ:Nat->Prop} {er:World}
theorem j4.lN {M:Nat->Prop}{w w':World}(h:j4 (fun _=>False) er w)(k:j4 M w w')(hW:∀b,M b->er.heap.size<=b):j4 (fun _=>False) er w':=
 ⟨k.os.trans h.os,k.tape.trans h.tape,k.output.trans h.output,aoS h.size k.size,fun b ag _=>by
  rw[k.ao b (aoV ag h.size) fun hm=>by have:=hW b hm;omega,h.ao b ag fun h=>h]⟩
theorem N0 {S:ld}{a b5:Act}{w w':World}{N:Nat->Prop}{ρ:List Loc}{M:Nat->Prop}(U:∀b,oJ b->N b)(aa:eC N ρ S.tm S.I a w)(az:∀b,gz ρ S.I b->er.heap.size<=b)
 (aW:∀b,M b->N b/\er.heap.size<=b) (bA:SH X a w M S.ft) (aU:j4 (fun _=>False) er w) {wr:Tmp->Bool} (hw:wr X.β=false) {K:List J->aD->Prop}
 (aE:m0 N ρ S.I a w wr K b5 w'):∃dI aj,K dI aj/\qh X oJ er ⟨dI,aj,S.ft⟩ b5 w':=by
 obtain⟨⟨dI,aj,ρ',a6,bj,bH⟩,dO,fi⟩:=aE
 have xz:∀b,M b->¬gz ρ S.I b:=fun b hm ⟨i,aw,aA,aL,_⟩=>aa.eO.fK i aw b aA aL (aW b hm).1
 refine⟨dI,aj,a6,⟨N,ρ',M,U,bj,fun b ag=> ?_,aW, ?_⟩,⟨bH.os.trans aU.os,bH.tape.trans aU.tape,bH.output.trans aU.output,aoS aU.size bH.size,fun b ag _=> ?_⟩⟩
 ·rcases bH.alive b ag with ag|ag
  ·exact az b ag
  ·exact aoS aU.size ag
 ·cases tx:S.ft with
  |none=>trivial
  |some l=>
   rw[tx]at bA;obtain⟨b,bytes,aA,aL,b3,cX⟩:=bA;exact⟨b,bytes,by rw[dO _ hw];exact aA,by rw[fi];exact aL,b3,cX.ao (fun _ h=>h) fun k ae hm=>bH.ao k ae (xz k hm)⟩
 ·rw[bH.ao b (aoV ag aU.size) fun aR=>by have:=az b aR;omega,aU.ao b ag fun h=>h]
theorem Y_ {o:Oper}{a:Act}{next next':Act->World->Prop}{Q lY:Exit->Act->World->Prop}(av:∀a w,next a w->next' a w)(a_:∀e a w,e≠ .normal->Q e a w->lY e a w){r:Result Next}
 (h:o.upon P a next Q r):o.upon P a next' lY r:=by
 unfold Oper.upon at h⊢;split at h
 ·exact av _ _ h
 ·exact av _ _ h
 ·exact av _ _ h
 ·refine h.mono fun e w an=> ?_
  cases e with
  |returned v=>exact av _ _ an
  |panicked c=>exact a_ _ _ _ (by nofun) an
  |outgrown=>obtain⟨x,y,b6⟩:=an;exact⟨x,y,a_ _ _ _ (by nofun) b6⟩
 ·exact h.mono fun v w an=>av _ _ an
 ·exact a_ _ _ _ (by nofun) h
 ·exact h.elim
theorem aaM {ops:Array Oper}{Q lY:Exit->Act->World->Prop}{i:Nat}{bM:List Nat}{a:Act}{w:World}(h:wpOps P ops lY [i] a w)(ae:∀a w,lY .normal a w->wpOps P ops Q bM a w)
 (a_:∀e a w,e≠ .normal->¬lY e a w):wpOps P ops Q (i::bM) a w:=by
 simp only[wpOps]at h⊢;split
 ·rename_i aF;rw[aF]at h;exact ae _ _ h
 ·rename_i o aF;rw[aF]at h;simp only at h;split
  ·rename_i hw;rw[aoy hw]at h;rcases h with h|⟨_,x,y,aa⟩
   ·exact .inl (Y_ ae (fun e a w av b6=>(a_ e a w av b6).elim) h)
   ·exact(a_ _ _ _ (by nofun) aa).elim
  ·rename_i hw;rw[aox hw]at h;exact ae _ _ h
theorem aaN {o:Oper}{c:Call}{f:FuncId}(aF:o.op= .call c)(aC:c.callee= .value (.func f))(a:Act)(w:World):(execOp a.eval o).run P w=(callFunc f (c.args.map a.eval)).run P w:=by
 unfold execOp;rw[aF];simp only[resolve,aC,Deferred.ofValue,Act.eval,pure_bind,invoke];simp
theorem Za {f:FuncId}{cm:Array Value}{w:World}(h:∃fn,P.funcs[f]? =some fn/\fn.body.isNone=false/\(fn.name== "runtime.NumGoroutine")=false):(callFunc f cm).run P w= .ok (.enter f cm) w:=by
 obtain⟨fn,U,aa,az⟩:=h;simp only[callFunc,Sem.run_bind,run_program,Result.andThen_ok,U,aa,az];simp
theorem OV {a:Act}{dst:Option Tmp}{v:Value}{t:Tmp}(h:fU dst (some t)=false):(a.put dst v).tmps.getD t undef=a.tmps.getD t undef/\(a.put dst v).tmps.size=a.tmps.size:=by
 cases dst with
 |none=>exact⟨rfl,rfl⟩
 |some d=>
  have a8:d≠t:=fun e=>by subst e;simp[fU]at h
  exact⟨by rw[Act.put,vN,aox fun e=>a8 e.1],by simp[Act.put]⟩
theorem P2 {ops:Array Oper}(h:X.quiet ops.toList=true):o3 ops X.β=false:=by
 unfold o3;rw[List.any_eq_false];intro o aF;unfold hr.quiet at h;rw[fy,aoR]at h;have:=h o aF
 cases a8:o.dst with
 |none=>simp
 |some d=>
  rw[a8]at this;simp only[fU]at this;split at this
  ·cases this
  ·rename_i ag;simp[ag]
theorem aco {o:Oper}(h:X.cls o=2):∃c x,o.op= .call c/\o.guard=none/\c.callee= .value (.func X.F9)/\c.args=#[.tmp X.β,x]/\I5 o=x/\fU o.dst (some X.β)=false:=by
 have other:X.other o≠2:=by unfold hr.other;split<;>simp
 unfold hr.cls at h;split at h
 ·split at h
  ·simp at h
  ·exact absurd h other
 ·rename_i c bh aF;split at h
  ·rename_i f aC a8;split at h
   ·rename_i p x aU aR;split at h
    ·rename_i aE;have aA:=aoz aU;have aL:=aoz aE;subst aA aL;refine⟨c,x,aF,bh,aC,by rw[<-Array.toList_inj];exact aR, ?_,a8⟩;unfold I5;simp only[aF,aR]
    ·simp at h
   ·split at h<;>simp at h
   ·simp at h
  ·exact absurd h other
 ·exact absurd h other
theorem adU {o:Oper}(h:X.cls o=3):∃c,o.op= .call c/\o.guard=none/\c.callee= .value (.func X.F_)/\c.args=#[.tmp X.β]/\fU o.dst (some X.β)=false:=by
 have other:X.other o≠3:=by unfold hr.other;split<;>simp
 unfold hr.cls at h;split at h
 ·split at h
  ·simp at h
  ·exact absurd h other
 ·rename_i c bh aF;split at h
  ·rename_i f aC a8;split at h
   ·split at h<;>simp at h
   ·rename_i p _ aU aR;split at h
    ·rename_i aE;have aA:=aoz aU;have aL:=aoz aE;subst aA aL;exact⟨c,aF,bh,aC,by rw[<-Array.toList_inj];exact aR,a8⟩
    ·simp at h
   ·simp at h
  ·exact absurd h other
 ·exact absurd h other
theorem acp {o:Oper}(h:X.cls o=1):o.op= .alloc X.pH/\o.guard=none/\o.dst=some X.β:=by
 have other:X.other o≠1:=by unfold hr.other;split<;>simp
 unfold hr.cls at h;split at h
 ·rename_i t bh aF;split at h
  ·rename_i U aa;have aA:=aoz U;subst aA;refine⟨aF,bh, ?_⟩
   cases a8:o.dst with
   |none=>rw[a8]at aa;cases aa
   |some d=>
    rw[a8]at aa;simp only[fU]at aa;rw[aoz aa]
  ·exact absurd h other
 ·rename_i c bh aF;split at h
  ·split at h
   ·split at h<;>simp at h
   ·split at h<;>simp at h
   ·simp at h
  ·exact absurd h other
 ·exact absurd h other
theorem adV {s:ByteArray}{l:List Int}(h:l=s.data.toList.map fun b=>(b.toNat:Int)):∃bytes:List UInt8,bytes=s.data.toList/\l=bytes.map (fun x=>(x.toNat:Int)):=⟨_,rfl,h⟩
theorem Mq (cW:gA P X.E)(ic:zC P X)(ops:Array Oper)(a_:X.quiet ops.toList=true){K:ld->Prop}:
 ∀(is:List Nat),(∀i∈is,i<ops.size)->∀(S:ld) (a:Act) (w:World),sx X ops.toList (is.map fun i=>ops.toList.getD i default) S K->qh X oJ er S a w->
  wpOps P ops (fun e b5 w'=>e= .normal/\∃S',K S'/\qh X oJ er S' b5 w') is a w
 |[],_,S,a,w,h,dH=>⟨rfl,S,h,dH⟩
 |i::bM,bG,S,a,w,h,dH=>by
  have hi:i<ops.size:=bG i (by simp);have aF:ops[i]? =some ops[i]:=by simp[hi]
  have m1:ops.toList.getD i default=ops[i]:=by simp[aoA,hi]
  have bF:=Mq cW ic ops a_ (K:=K) bM (fun j aI=>bG j (by simp[aI]));simp only[aoX,m1]at h
  have ag:fU (ops[i]).dst (some X.β)=false:=by
   unfold hr.quiet at a_;rw[fy,aoR]at a_;have:=a_ ops[i] (by simp);split at this
   ·cases this
   ·rename_i h;exact h
  have next:∀{c:Call} {f:FuncId} {cm:Array Value} {Q:Ending->World->Prop},(ops[i]).op= .call c->(ops[i]).guard=none->c.callee= .value (.func f)->c.args.map a.eval=cm->
   (∃fn,P.funcs[f]? =some fn/\fn.body.isNone=false/\(fn.name== "runtime.NumGoroutine")=false)->Calls P f cm w Q->
   (∀e w',Q e w'->∃v,e= .returned v/\wpOps P ops (fun e b5 w'=>e= .normal/\∃S',K S'/\qh X oJ er S' b5 w') bM (a.put (ops[i]).dst v) w')->
   wpOps P ops (fun e b5 w'=>e= .normal/\∃S',K S'/\qh X oJ er S' b5 w') (i::bM) a w:=by
   intro c f cm Q bQ bh aC aP J1 n9 ae;simp only[wpOps,aF];rw[aoy (by simp[Region.wanted,bh])];left;unfold Oper.wp;rw[aaN bQ aC,aP,Za J1,Oper.upon_enter];refine n9.mono fun e w' b6=> ?_;obtain⟨v,rfl,hw⟩:=ae e w' b6;exact hw
  unfold sx at h;split at h
  ·
   obtain⟨⟨N,ρ,M,U,aa,az,aW,bA⟩,aU⟩:=dH
   have gd:eC N ρ (zB ops.toList ops[i] S.tm) S.I a w:=by
    unfold zB;split
    ·exact aa
    ·split
     ·exact aa
     ·rename_i g _;have cF:=aa.en.at_ g;rw[<-dT]at cF;split
      ·rename_i b he;rw[he]at cF;have ag:=mI cF
       cases b with
       |true=>exact C2 aa g ag
       |false=>exact C2 aa g ag
      ·exact aa
   have I6:=BI (P:=P) (N:=N) cW.ty cW.more cW.om [] ops (fun i j o p d e id _ _ _ _ h=>by cases h) _ [i] (fun j aI=>by rw[apo.1 aI];exact hi) (by simp) (zB ops.toList ops[i] S.tm) S.I a w ρ
    (fun j _ o d id _ _ h=>by cases h) (by simp only[aoX,aqo,m1];exact h) gd
   refine aaM I6 (fun b5 w' aE=> ?_) (fun e b5 w' av b6=>av b6.1);obtain⟨dI,aj,a6,bj⟩:=N0 (S:=⟨zB ops.toList ops[i] S.tm,S.I,S.ft⟩) U gd az aW bA aU (P2 a_) aE.2;exact bF ⟨dI,aj,S.ft⟩ b5 w' a6 bj
  ·
   rename_i jo _;have jo:=aoz jo;obtain⟨c,x,bQ,bh,aC,ga,ajQ,_⟩:=aco jo;rw[ajQ]at h;split at h;rotate_left
   ·exact h.elim
   rename_i l s tx ai;obtain⟨hlen,h⟩:=h;obtain⟨⟨N,ρ,M,U,aa,az,aW,bA⟩,aU⟩:=dH;rw[tx]at bA;obtain⟨b,bytes,aA,aL,rfl,cX⟩:=bA;have pe:=eA aa.en x;rw[ai]at pe;obtain⟨vF,eR,lO⟩:=tZ pe;obtain⟨aez,ajR,ajS⟩:=adV lO
   have gb:(Lib.byteCells bytes).length+vF.size<=140737488355328:=by
    have hn:vF.size=s.length:=by rw[lO,aoF,apD];rfl
    rw[aoF]at hlen;rw[Lib.byteCells_length,hn];omega
   refine next bQ bh aC (cm:=#[.pointer (some ⟨b,0,none⟩), .string vF]) (by rw[ga];simp only[aqE,aoX,aqo];rw[eR];show#[a.tmps.getD X.β undef,_]=_;rw[aA]) ic.TP (ic.write b _ vF w M cX gb) ?_
   rintro e w' ⟨rfl,a6,bj⟩;refine⟨_,rfl,bF ⟨_,_,_⟩ _ _ h ?_⟩;have nn:=aa.aside bj fun b hm=>(aW b hm).1;refine⟨⟨_,ρ,fun x=>(M x\/w.heap.size<=x)/\x<w'.heap.size,fun b ag=> .inl (U b ag),⟨nn.eO,ek.put nn.en _ (v:= .tuple #[.int .i64 vF.size, .nilIface]) (t:= .any) trivial,by cases (ops[i]).dst<;>exact nn.hN⟩,az,fun x ai=> ?_,b,bytes++aez, ?_, ?_, ?_, ?_⟩,j4.lN aU bj fun b hm=>(aW b hm).2⟩
   ·rcases ai.1 with hm|hm
    ·exact⟨.inl (aW x hm).1,(aW x hm).2⟩
    ·exact⟨.inr ⟨hm,ai.2⟩,aoS aU.size hm⟩
   ·rw[(OV ag).1];exact aA
   ·rw[(OV ag).2];exact aL
   ·rw[ajS,apd]
   ·have:=lF.lt a6;have j6:Lib.byteCells (bytes++vF.data.toList)=Lib.byteCells bytes++Lib.strCells vF:=apd;rw[ajR,j6];exact this.ao (fun _ h=>h) fun _ _ _=>rfl
  ·
   rename_i jo _ _;have jo:=aoz jo;obtain⟨c,bQ,bh,aC,ga,_⟩:=adU jo;split at h;rotate_left
   ·exact h.elim
   rename_i l tx;obtain⟨dg,h⟩:=h;obtain⟨⟨N,ρ,M,U,aa,az,aW,bA⟩,aU⟩:=dH;rw[tx]at bA;obtain⟨b,bytes,aA,aL,rfl,cX⟩:=bA;refine next bQ bh aC (cm:=#[.pointer (some ⟨b,0,none⟩)]) (by rw[ga];simp only[aqE,aoX,aqo];show#[a.tmps.getD X.β undef]=_;rw[aA]) ic.TQ (ic.read b _ w M cX fun e=>dg (by rw[e];rfl)) ?_
   rintro e w' ⟨rfl,bj⟩;refine⟨_,rfl,bF ⟨_,_,_⟩ _ _ h ?_⟩;have nn:=aa.aside bj fun b hm=>(aW b hm).1;refine⟨⟨_,ρ,fun _=>False,fun b ag=> .inl (U b ag),⟨nn.eO,ek.put nn.en _ (v:= .string ⟨bytes.toArray⟩) (t:= .d (.str (bytes.map fun x=>(x.toNat:Int)))) (.c3 (bB.str _ _ (by simp))),by cases (ops[i]).dst<;>exact nn.hN⟩,az,fun _ h=>h.elim,trivial⟩,j4.lN aU bj fun b hm=>(aW b hm).2⟩
  ·exact h.elim
theorem Zb (ic:zC P X){o:Oper}(aF:o.op= .alloc X.pH)(a:Act)(w:World):
 (execOp a.eval o).run P w= .ok (.value (.pointer (some ⟨w.heap.size,0,none⟩))) (w.alloc (.cells #[.pointer none, .slice none 0 0] X.pH)):=by
 have:=ic.zero w;unfold execOp;rw[aF];simp[Instr.alloc,this,newVar,newRow,Value.cells]
theorem Zc (cW:gA P X.E)(ic:zC P X)(c:Code):∀(bu:Nat) (S:ld) (K:hd->ld->Prop) (a:Act) (w:World),kl X c bu S K->qh X oJ er S a w->
 c.wp P (fun e b5 w'=>∃(b_:hd) (S':ld),e=b_.to/\K b_ S'/\qh X oJ er S' b5 w') a w:=by
 induction c with
 |skip=>intro bu S K a w h dH;exact wp_skip ⟨.normal,S,rfl,h,dH⟩
 |label l=>intro bu S K a w h dH;exact wp_label ⟨.normal,S,rfl,h,dH⟩
 |exit id=>intro bu S K a w h dH;exact wp_exit ⟨.exit id,S,rfl,h,dH⟩
 |goto l=>intro bu S K a w h dH;exact wp_goto ⟨.goto l,S,rfl,h,dH⟩
 |ret=>intro bu S K a w h dH;exact wp_ret ⟨.ret,S,rfl,h,dH⟩
 |region id ops draw=>
  intro bu S K a w h dH;unfold kl at h
  have walk:X.quiet ops.toList=true->sx X ops.toList ops.toList S (K .normal)->(Code.region id ops false).wp P (fun e b5 w'=>∃(b_:hd) (S':ld),e=b_.to/\K b_ S'/\qh X oJ er S' b5 w') a w:=by
   intro a_ hw;refine wp_region (tW (fun e b5 w' b6=> ?_) _ _ _ (Mq cW ic ops a_ (K:=K .normal) (List.range ops.size) (fun i hi=>by simpa using hi) S a w (by rw[Qr];exact hw) dH));obtain⟨rfl,S',a6,bj⟩:=b6;exact⟨.normal,S',rfl,a6,bj⟩
  cases draw with
  |true=>
   simp only at h;split at h;rotate_left
   ·exact h.elim
   rename_i E1;obtain⟨⟨N,ρ,M,U,aa,az,aW,bA⟩,aU⟩:=dH
   have a_:X.quiet ops.toList=true:=by
    unfold hr.quiet;rw[fy,aoR]at E1⊢;intro o aF;have:=E1 o aF;rw[aoL]at this;have aa:=this.2;unfold hr.quiet at aa;simp only[eg]at aa;split at aa
    ·assumption
    ·cases aa
   refine wp_mono (Hd X.E cW _ _ _ _ _ w ρ h aa) fun e b5 w' b6=> ?_;obtain⟨b_,rfl,aE⟩:=b6;obtain⟨dI,aj,a6,bj⟩:=N0 U aa az aW bA aU (P2 a_) aE;exact⟨b_,_,rfl,a6,bj⟩
  |false=>
   simp only at h;split at h
   ·rename_i o gf tx bG;split at h
    ·
     rename_i jo;have jo:=aoz jo;obtain⟨bQ,bh,a8⟩:=acp jo;have I6:ops=#[o]:=by rw[<-Array.toList_inj];exact gf
     subst I6;obtain⟨⟨N,ρ,M,U,aa,az,aW,bA⟩,aU⟩:=dH
     have TR:X.β<S.tm.length:=by
      rw[cG]at bG;exact Nat.lt_of_succ_le (aoY bG)
     refine wp_region ?_;show wpOps P #[o] _ [0] a w;simp only[wpOps,List.getElem?_toArray,List.getElem?_cons_zero];rw[aoy (by simp[Region.wanted,bh])];left;unfold Oper.wp;rw[Zb ic bQ,Oper.upon_value];have bj:j4 (fun _=>False) w (w.alloc (.cells #[.pointer none, .slice none 0 0] X.pH)):=⟨rfl,rfl,rfl,by simp,fun k ae _=>Lib.alloc_old w _ k ae⟩;have nn:=aa.aside bj fun b hm=>hm.elim;have cq:(w.alloc (.cells #[.pointer none, .slice none 0 0] X.pH)).heap.size=w.heap.size+1:=by simp
     refine⟨.normal,_,rfl,h,⟨_,ρ,fun x=>x=w.heap.size,fun b ag=> .inl (U b ag),⟨nn.eO, ?_, ?_⟩,az,fun x ai=> ?_, ?_⟩,j4.lN aU bj fun b hm=>hm.elim⟩
     ·have:=ek.put nn.en o.dst (v:= .pointer (some ⟨w.heap.size,0,none⟩)) (t:= .any) trivial;rw[a8]at this⊢;exact this
     ·rw[a8];exact nn.hN
     ·subst ai;exact⟨.inr ⟨aoE _,by omega⟩,aU.size⟩
     ·refine⟨w.heap.size,[], ?_, ?_,rfl, .pointer none, .slice none 0 0, .inl rfl,rfl,(fun g bh=>by cases bh), ?_,⟨rfl, .inl ⟨rfl,rfl⟩⟩,(fun h=>by cases h)⟩
      ·rw[a8,Act.put,vN,aoy ⟨rfl,by rw[aa.en.size];exact TR⟩]
      ·rw[a8,Act.put];simp only[Array.size_setIfInBounds];rw[aa.en.size];exact TR
      ·exact nR w _
    ·split at h
     ·rename_i a_;exact walk a_ h
     ·exact h.elim
   ·split at h
    ·rename_i a_;exact walk a_ h
    ·exact h.elim
 |seq x y rR rS=>
  intro bu S K a w h dH;unfold kl at h;refine wp_seq (wp_mono (rR bu S _ a w h dH) fun e a1 w1 b6=> ?_);obtain⟨b_,S',rfl,a6,bj⟩:=b6
  cases b_ with
  |normal=>exact rS bu S' K a1 w1 a6 bj
  |_=>exact⟨_,S',rfl,a6,bj⟩
 |cond c x y rR rS=>
  intro bu S K a w h dH
  have cF:∃Z ρ,bL Z w ρ S.I (aY S.tm c) (a.eval c):=by
   obtain⟨⟨N,ρ,M,U,aa,az,aW,bA⟩,aU⟩:=dH;exact⟨_,ρ,Oo (S:=⟨S.tm,S.I⟩) aa c⟩
  obtain⟨Z,ρ,cF⟩:=cF;unfold kl at h;split at h
  ·rename_i he;rw[he]at cF;exact wp_cond_true cF (rR bu S K a w h dH)
  ·rename_i he;rw[he]at cF;exact wp_cond_false cF (rS bu S K a w h dH)
  ·rename_i b he;rw[he]at cF;have ag:=mI cF
   cases b with
   |true=>exact wp_cond_true ag (rR bu S K a w h dH)
   |false=>exact wp_cond_false ag (rS bu S K a w h dH)
  ·exact h.elim
 |block id c bF=>
  intro bu S K a w h dH;unfold kl at h;refine wp_block (wp_mono (bF id S _ a w h dH) fun e b5 w' b6=> ?_);obtain⟨b_,S',rfl,aE,ox⟩:=b6
  cases b_ with
  |normal=>exact⟨.normal,S',rfl,aE,ox⟩
  |goto l=>exact⟨.goto l,S',rfl,aE,ox⟩
  |ret=>exact⟨.ret,S',rfl,aE,ox⟩
  |exit i=>
   simp only at aE;show(if i=id then _ else _);split
   ·rename_i hi;subst hi;simp only[apz]at aE;exact⟨.normal,S',rfl,aE,ox⟩
   ·rename_i hi
    have:Nat.beq i id=false:=by
     cases ag:Nat.beq i id with
     |false=>rfl
     |true=>exact absurd (aoz ag) hi
    simp only[this]at aE;exact⟨.exit i,S',rfl,aE,ox⟩
 |loop c bF=>
  intro bu S K a w h dH;unfold kl at h;refine Gw (fun(x:Nat×ld) b5 w'=>El (kl X c bu) x.1 x.2 K/\qh X oJ er x.2 b5 w') (fun x=>x.1) (X.fuel,S) ⟨h,dH⟩ ?_;rintro⟨n,e_⟩ a1 w1 ⟨fs,ajT⟩
  cases n with
  |zero=>exact fs.elim
  |succ n=>
   unfold El at fs;refine wp_mono (bF bu e_ _ a1 w1 fs ajT) fun e a2 db b6=> ?_;obtain⟨b_,S',rfl,aE,ox⟩:=b6
   cases b_ with
   |normal=>exact⟨(n,S'),⟨aE,ox⟩,Nat.lt_succ_self n⟩
   |_=>exact⟨_,S',rfl,aE,ox⟩
 |scope c bF=>
  intro bu S K a w h dH;unfold kl at h;refine wp_scope_straight (wp_mono (bF bu S _ a w h dH) fun e b5 w' b6=> ?_);obtain⟨b_,S',rfl,aE,ox⟩:=b6
  cases b_ with
  |normal=>exact⟨.normal,S',rfl,aE,ox⟩
  |exit i=>exact⟨.exit i,S',rfl,aE,ox⟩
  |ret=>exact⟨.ret,S',rfl,aE,ox⟩
  |goto l=>exact aE.elim
 |refuse s=>intro bu S K a w h dH;exact h.elim
 |rangeFunc=>intro bu S K a w h dH;exact h.elim
theorem vW (cW:gA P X.E)(ic:zC P X){f:FuncId}{fn:Func}{c:Code}(aU:P.funcs[f]? =some fn)(ag:fn.body=some c)(av:(fn.name== "runtime.NumGoroutine")=false){rvs:List ResultVar}(an:fn.results=rvs.toArray)
 {ps ts:List a7} (gJ:ts.length=rvs.length) {T:List J->(J->Prop)->Prop} (gg:∀args K,T args K->sr X fn.ntmps rvs c args (mm ts K)):ie P f (iB ps T):=
 He aU ag av gJ fun args K h N w cm aF ax aR=>by
  have h:=gg args K h;refine calls_of_wp aU ag ?_
  have ay:eC N [] (pad fn.ntmps args) [] {tmps:=cm++Array.replicate (fn.ntmps-cm.size) undef,defers:=[]} w:=by
   refine⟨aF,⟨by rw[sF];simp[ax],fun t=> ?_⟩,rfl⟩;rw[sF]
   by_cases au:t<args.length
   ·have aA:(args++List.replicate (fn.ntmps-args.length) J.un).getD t .un=args.getD t .un:=by simp[aoA,apt au]
    have aL:(cm++Array.replicate (fn.ntmps-cm.size) undef).getD t undef=cm.getD t undef:=by simp[aoH,aq0 (show t<cm.size by omega)]
    rw[aA,aL];exact aR t au
   ·have aA:(args++List.replicate (fn.ntmps-args.length) J.un).getD t .un= .un:=by
     rw[aoA,apJ (by omega),ap1];split<;>rfl
    have aL:(cm++Array.replicate (fn.ntmps-cm.size) undef).getD t undef=undef:=by
     rw[aoH,Array.getElem?_append_right (by omega),Array.getElem?_replicate];split<;>rfl
    rw[aA,aL];exact bL.un
  have dH:qh X N w ⟨pad fn.ntmps args,[],none⟩ {tmps:=cm++Array.replicate (fn.ntmps-cm.size) undef,defers:=[]} w:=
   ⟨⟨N,[],fun _=>False,fun _ h=>h,ay,fun b ⟨i,aw,e,_⟩=>by simp at e,fun _ h=>h.elim,trivial⟩,j4.refl _ _⟩
  unfold sr at h;refine wp_mono (Zc cW ic c _ _ _ _ w h dH) fun e b5 w' b6=> ?_;obtain⟨b_,S',rfl,a6,⟨⟨nh,ρ',M,g1,g2,g3,g4,g5⟩,g6⟩⟩:=b6
  have fin:(match lj X.E.tb S'.tm S'.I rvs with|true=>gC (jS X.E.tb S'.tm S'.I rvs) (mm ts K (one (gO X.E.tb S'.tm S'.I rvs)) S'.I)|false=>False)->b5.defers=[]/\∃v,(results fn b5.tmps).run P w'= .ok v w'/\
   ∃(nh:Nat->Prop) (rs:List J) (aj:aD) (ρ':List Loc) (aH:List Value),Ending.returned v= .returned (if rvs.length=1 then aH.getD 0 undef else .tuple aH.toArray)/\rs.length=rvs.length/\aH.length=rvs.length/\
    mm ts K (one rs) aj/\(∀b,N b->nh b)/\cv nh ρ' aj w'/\Fr [] [] w ρ' aj w'/\∀i,bL (aN nh ρ' aj) w' ρ' aj (rs.getD i .un) (aH.getD i undef):=fun ae=>by
   split at ae;rotate_left
   ·exact ae.elim
   rename_i bh;rw[gY]at ae;obtain⟨qt,ae⟩:=ae;obtain⟨aH,dC,dD,dR,la⟩:=Br X.E cW an g2 bh qt;exact⟨g2.hN,_,dC,nh,_,S'.I,ρ',aH,rfl,dR,dD,ae,g1,g2.eO,⟨g6.os,g6.tape,g6.output,g6.size,fun b ag _=>g6.ao b ag fun h=>h,fun b ag=> .inr (g3 b ag)⟩,la⟩
  cases b_ with
  |normal=>exact fin a6
  |ret=>exact fin a6
  |_=>exact a6.elim
end
end Go.al
end
section
namespace Go.al
section
variable {P:Program} {N N2:Nat->Prop} {ρ:List Loc} {I:aD} {w w':World}
theorem eC.I8 {tm:List J}{a:Act}(h:eC N ρ tm I a w)(cq:w.heap.size<=w'.heap.size)(ae:∀b,b<w.heap.size->¬N b->w'.heap[b]? =w.heap[b]?)
 (fM:∀b,b<w.heap.size->N2 b->N b) (bG:∀b,N2 b->b<w'.heap.size):eC N2 ρ tm I a w':=by
 have aF:=h.eO
 have fJ:∀x u,bB (aN N ρ I) w x u->bB (aN N2 ρ I) w' x u:=fun x u an=>
  an.mono fun b ag bq=>⟨ae b ag fun av=>bq (.inl av),fun m7=>m7.elim (fun aa=>bq (.inl (fM b ag aa))) fun aR=>bq (.inr aR)⟩
 have k2:∀(i:Nat) (aw:Loc) (b:Nat),ρ[i]? =some aw->aw.bu=some b->w'.heap[b]? =w.heap[b]? :=fun i aw b ax ag=>ae b (aF.lt i aw b ax ag) (aF.fK i aw b ax ag)
 refine⟨⟨aF.len,bG,fun i aw b ax ag=>aoV (aF.lt i aw b ax ag) cq,aF.inj,fun i aw b ax ag av=>aF.fK i aw b ax ag (fM b (aF.lt i aw b ax ag) av),fun i aw ax=> ?_⟩,⟨h.en.size,fun t=> ?_⟩,h.hN⟩
 ·exact(aF.ob i aw ax).mono (fun b ag=>k2 i aw b ax ag) fJ fun _ _ _ id _ _=>eX.refl ρ I id
 ·exact(h.en.at_ t).mono fJ fun id _=>eX.refl ρ I id
theorem iM.seq {x y:Code}{S:e2}{K:hd->e2->Prop}(h:iM P x S fun e S'=>match e with| .normal=>iM P y S' K|e=>K e S'):iM P (.seq x y) S K:=fun N a w ρ ay=>by
 have gR:∀t,Code.eH (.seq x y) t=false->Code.eH x t=false/\Code.eH y t=false:=fun t au=>by
  simpa[Code.eH,aq1]using au
 refine wp_seq (wp_mono (h N a w ρ ay) fun e a1 w1 b6=> ?_);obtain⟨b_,rfl,aE⟩:=b6
 cases b_ with
 |normal=>
  obtain⟨gk,cR,eE,a6,bj,bH⟩:=aE.ex;refine wp_mono (a6 N a1 w1 eE bj) fun e a2 db b6=> ?_;obtain⟨b_,rfl,z1⟩:=b6;exact⟨b_,rfl,z1.weaken bH (fun t au=>⟨(gR t au).2,aE.same t (gR t au).1⟩) aE.ak fun _ _ h=>h⟩
 |exit i=>exact⟨.exit i,rfl,aE.weaken (Fr.refl _ _ _) (fun t au=>⟨(gR t au).1,rfl⟩) rfl fun _ _ h=>h⟩
 |goto l=>exact⟨.goto l,rfl,aE.weaken (Fr.refl _ _ _) (fun t au=>⟨(gR t au).1,rfl⟩) rfl fun _ _ h=>h⟩
 |ret=>exact⟨.ret,rfl,aE.weaken (Fr.refl _ _ _) (fun t au=>⟨(gR t au).1,rfl⟩) rfl fun _ _ h=>h⟩
theorem iM.mono {x:Code}{S:e2}{K K':hd->e2->Prop}(h:iM P x S K)(ae:∀e S,K e S->K' e S):iM P x S K':=fun N a w ρ ay=>
 wp_mono (h N a w ρ ay) fun e a1 w1 b6=>by
  obtain⟨b_,rfl,aE⟩:=b6;obtain⟨gk,cR,eE,a6,bj,bH⟩:=aE.ex;exact⟨b_,rfl,⟨gk,cR,eE,ae _ _ a6,bj,bH⟩,aE.same,aE.ak⟩
end
def w4 (w:World)(Z:Nat->Prop)(base:Nat)(e:TypeId)(ak:Nat)(v:Value)(l:List (List R)):Prop:=
 ∃xs,w.ownsRow base e ak v l.length xs/\∀r j,r<l.length->j<ak->∃u,xs[r*ak+j]? =some u/\bB Z w ((l.getD r []).getD j .undef) u
structure u3 (eW Z:Nat->Prop)(w:World)(base dj:Nat)(e:TypeId)(ak:Nat)(ls:List (List (List R)))(aH:Array Value)(fa:TypeId):Prop where
 low:∀b,eW b->base<=b
 top:eW dj
 at_:w.heap[dj]? =some (.cells aH fa (0,0))
 size:aH.size=ls.length
 inner:∀i,i<ls.length->w4 w Z base e ak (aH.getD i undef) (ls.getD i [])
 bu:∀i b,i<ls.length->(aH.getD i undef).ownBlock=some b->eW b/\b≠dj
 inj:∀i j b,i<ls.length->j<ls.length->(aH.getD i undef).ownBlock=some b->(aH.getD j undef).ownBlock=some b->i=j
section
variable {P:Program} {eW Z Z':Nat->Prop} {w w':World} {base dj:Nat} {e:TypeId} {ak:Nat} {ls:List (List (List R))} {aH:Array Value} {fa:TypeId}
theorem MU {v:Value}{n:Nat}{xs:List Value}(h:w.ownsRow base e ak v n xs)(ae:∀b,v.ownBlock=some b->w'.heap[b]? =w.heap[b]?):w'.ownsRow base e ak v n xs:=by
 refine⟨h.1, ?_⟩;rcases h.2 with av|⟨g,cap,cur,rfl,ag,bh,bM⟩
 ·exact .inl av
 ·exact .inr ⟨g,cap,cur,rfl,ag,by rw[ae g rfl];exact bh,bM⟩
theorem w4.ao {v:Value}{l:List (List R)}(h:w4 w Z base e ak v l)(ae:∀b,v.ownBlock=some b->w'.heap[b]? =w.heap[b]?)(an:∀x u,bB Z w x u->bB Z' w' x u):w4 w' Z' base e ak v l:=by
 obtain⟨xs,U,aa⟩:=h;refine⟨xs,MU U ae,fun r j vj aI=> ?_⟩;obtain⟨u,a6,bj⟩:=aa r j vj aI;exact⟨u,a6,an _ _ bj⟩
theorem u3.ao (h:u3 eW Z w base dj e ak ls aH fa)(ae:∀b,eW b->w'.heap[b]? =w.heap[b]?)(an:∀x u,bB Z w x u->bB Z' w' x u):u3 eW Z' w' base dj e ak ls aH fa:=
 ⟨h.low,h.top,by rw[ae dj h.top];exact h.at_,h.size,fun i hi=>(h.inner i hi).ao (fun b ag=>ae b (h.bu i b hi ag).1) an,h.bu,h.inj⟩
theorem w4.reads {v:Value}{l:List (List R)}(h:w4 w Z base e ak v l)(cq:0<ak)(bq:∀b,v.ownBlock=some b->¬Z' b)(an:∀x u,bB Z w x u->bB Z' w x u):bB Z' w (.ar ak l) v:=by
 obtain⟨xs,⟨ax,aF⟩,aa⟩:=h;rcases aF with⟨rfl,av⟩|⟨g,cap,cur,rfl,ag,bh,aC,_,j1,au⟩
 ·have:l=[]:=aqd av;subst this;exact .kN _ _ _
 ·refine .ar ak l l.length g 0 cap (fun i j=>xs.getD (i*ak+j) undef) rfl cq (bq g rfl) aC (fun i j hi aI=> ?_) fun i j hi aI=> ?_
  ·obtain⟨u,a6,bj⟩:=aa i j hi aI
   have:cur[i*ak+j]? =some u:=by
    rw[<-au,aps]at a6;split at a6
    ·simpa using a6
    ·cases a6
   simp only[World.cell?,bh,aoA,a6,apA];simpa using this
  ·obtain⟨u,a6,bj⟩:=aa i j hi aI;simp only[aoA,a6,apA];exact an _ _ (by simpa[aoA]using bj)
theorem u3.reads (h:u3 eW Z w base dj e ak ls aH fa)(cq:0<ak)(bq:∀b,eW b->¬Z' b)(an:∀x u,bB Z w x u->bB Z' w x u):
 bB Z' w (.ar 1 (ls.map fun l=>[.ar ak l])) (.slice (some ⟨dj,0,none⟩) ls.length ls.length):=by
 refine .ar 1 _ ls.length dj 0 ls.length (fun i _=>aH.getD i undef) (by simp) Nat.one_pos (bq _ h.top) (aoE _) (fun i j hi aI=> ?_) fun i j hi aI=> ?_
 ·have bG:i<aH.size:=by rw[h.size];exact hi
  obtain rfl:j=0:=by omega
  simp[World.cell?,h.at_,bG]
 ·obtain rfl:j=0:=by omega
  have:=(h.inner i hi).reads (Z':=Z') cq (fun b ag=>bq b (h.bu i b hi ag).1) an;simpa[aoA,hi]using this
end
structure s4 (N eW:Nat->Prop)(iu:List Loc)(dY:aD)(er:World)(dF:Tmp)(dj:Nat)(e:TypeId)(ak:Nat)(ls:List (List (List R)))(ρ:List Loc)(S:e2)(a:Act)(w:World):Prop where
 qj:eC (fun b=>N b\/eW b) ρ S.tm S.I a w
 AU:Fr iu dY er ρ S.I w
 nest:∃aH fa,u3 eW (aN (fun b=>N b\/eW b) ρ S.I) w er.heap.size dj e ak ls aH fa
 slot:a.tmps.getD dF undef= .slice (some ⟨dj,0,none⟩) ls.length ls.length
def hD (P:Program)(dF:Tmp)(e:TypeId)(ak:Nat)(c:Code)(S:e2)(ls:List (List (List R)))(K:hd->e2->List (List (List R))->Prop):Prop:=
 ∀(N eW:Nat->Prop) (iu:List Loc) (dY:aD) (er:World) (dj:Nat) (ρ:List Loc) (a:Act) (w:World),s4 N eW iu dY er dF dj e ak ls ρ S a w->
  c.wp P (fun ex b5 w'=>∃(b_:hd) (S':e2) (iv:List (List (List R))) (hL:Nat->Prop) (ρ':List Loc),ex=b_.to/\K b_ S' iv/\s4 N hL iu dY er dF dj e ak iv ρ' S' b5 w'/\
   (∀t,Code.eH c t=false->b5.tmps.getD t undef=a.tmps.getD t undef)/\b5.tmps.size=a.tmps.size/\∀y u,bB (aN (fun b=>N b\/eW b) ρ S.I) w y u->bB (aN (fun b=>N b\/hL b) ρ' S'.I) w' y u) a w
section
variable {P:Program} {dF:Tmp} {e:TypeId} {ak:Nat} {S:e2} {ls:List (List (List R))} {K:hd->e2->List (List (List R))->Prop}
theorem s4.step {N eW:Nat->Prop}{iu ρ ρ':List Loc}{dY:aD}{er w w':World}{dj:Nat}{a b5:Act}{S':e2}(h:s4 N eW iu dY er dF dj e ak ls ρ S a w)(ay:eC (fun b=>N b\/eW b) ρ' S'.tm S'.I b5 w')
 (aU:Fr ρ S.I w ρ' S'.I w') (au:b5.tmps.getD dF undef=a.tmps.getD dF undef):s4 N eW iu dY er dF dj e ak ls ρ' S' b5 w':=by
 obtain⟨aH,fa,av⟩:=h.nest;have aF:=h.qj.eO;refine⟨ay,h.AU.trans aU,⟨aH,fa,av.ao (fun b ag=>aU.ao b (aF.fc b (.inr ag)) ?_) fun _ _=>aU.reads⟩,au.trans h.slot⟩;rintro⟨i,aw,U,aa,_⟩;exact aF.fK i aw b U aa (.inr ag)
theorem hD.of {c:Code}(h:iM P c S fun ex S'=>K ex S' ls)(au:Code.eH c dF=false):hD P dF e ak c S ls K:=fun N eW iu dY er dj ρ a w an=>by
 refine wp_mono (h _ a w ρ an.qj) fun ex b5 w' b6=> ?_;obtain⟨b_,rfl,aE⟩:=b6;obtain⟨dI,aj,ρ',a6,bj,bH⟩:=aE.ex;exact⟨b_,⟨dI,aj⟩,ls,eW,ρ',rfl,a6,an.step bj bH (aE.same dF au),aE.same,aE.ak,fun _ _=>bH.reads⟩
theorem hD.mono {c:Code}{K':hd->e2->List (List (List R))->Prop}(h:hD P dF e ak c S ls K)(ae:∀ex S l,K ex S l->K' ex S l):hD P dF e ak c S ls K':=fun N eW iu dY er dj ρ a w an=>
 wp_mono (h N eW iu dY er dj ρ a w an) fun ex b5 w' ⟨b_,S',iv,hL,ρ',U,aa,az⟩=>⟨b_,S',iv,hL,ρ',U,ae _ _ _ aa,az⟩
theorem hD.seq {x y:Code}(h:hD P dF e ak x S ls fun ex S' ch=>match ex with| .normal=>hD P dF e ak y S' ch K|ex=>K ex S' ch):hD P dF e ak (.seq x y) S ls K:=fun N eW iu dY er dj ρ a w an=>by
 have gR:∀t,Code.eH (.seq x y) t=false->Code.eH x t=false/\Code.eH y t=false:=fun t au=>by
  simpa[Code.eH,aq1]using au
 refine wp_seq (wp_mono (h N eW iu dY er dj ρ a w an) fun ex a1 w1 b6=> ?_);obtain⟨b_,S',iv,hL,ρ',rfl,aa,az,aW,bA,bZ⟩:=b6
 cases b_ with
 |normal=>
  refine wp_mono (aa N hL iu dY er dj ρ' a1 w1 az) fun ex a2 db b6=> ?_;obtain⟨J5,aj5,agA,agB,jV,rfl,g2,g3,g4,g5,g6⟩:=b6;exact⟨J5,aj5,agA,agB,jV,rfl,g2,g3,fun t au=>(g4 t (gR t au).2).trans (aW t (gR t au).1),g5.trans bA,fun y u h=>g6 y u (bZ y u h)⟩
 |exit i=>exact⟨.exit i,S',iv,hL,ρ',rfl,aa,az,fun t au=>aW t (gR t au).1,bA,bZ⟩
 |goto i=>exact⟨.goto i,S',iv,hL,ρ',rfl,aa,az,fun t au=>aW t (gR t au).1,bA,bZ⟩
 |ret=>exact⟨.ret,S',iv,hL,ρ',rfl,aa,az,fun t au=>aW t (gR t au).1,bA,bZ⟩
theorem hD.block {id:Nat}{c:Code}(h:hD P dF e ak c S ls fun ex S' ch=>match ex with| .exit i=>(if i=id then K .normal S' ch else K (.exit i) S' ch)|ex=>K ex S' ch):hD P dF e ak (.block id c) S ls K:=fun N eW iu dY er dj ρ a w an=>by
 refine wp_block (wp_mono (h N eW iu dY er dj ρ a w an) fun ex a1 w1 b6=> ?_);obtain⟨b_,S',iv,hL,ρ',rfl,aa,az,aW,bA,bZ⟩:=b6
 cases b_ with
 |normal=>exact⟨.normal,S',iv,hL,ρ',rfl,aa,az,aW,bA,bZ⟩
 |goto i=>exact⟨.goto i,S',iv,hL,ρ',rfl,aa,az,aW,bA,bZ⟩
 |ret=>exact⟨.ret,S',iv,hL,ρ',rfl,aa,az,aW,bA,bZ⟩
 |exit i=>
  simp only at aa;show(if i=id then _ else _);split
  ·rename_i hi;rw[aoy hi]at aa;exact⟨.normal,S',iv,hL,ρ',rfl,aa,az,aW,bA,bZ⟩
  ·rename_i hi;rw[aox hi]at aa;exact⟨.exit i,S',iv,hL,ρ',rfl,aa,az,aW,bA,bZ⟩
def leads:List J->List J->Prop
 |[],[]=>True
 |a::xs,b::jI=>(b= .any\/(a=b/\b.plain=true))/\leads xs jI
 |_,_=>False
theorem O2:∀{l ch:List J},leads l ch->l.length=ch.length/\∀i,ch.getD i .un= .any\/(l.getD i .un=ch.getD i .un/\(ch.getD i .un).plain=true)
 |[],[],_=>⟨rfl,fun i=> .inr ⟨rfl,by simp;rfl⟩⟩
 |[],_::_,h=>h.elim
 |_::_,[],h=>h.elim
 |a::xs,b::jI,h=>by
  obtain⟨U,aa⟩:=O2 h.2;refine⟨by simp[U],fun i=> ?_⟩
  cases i with
  |zero=>simpa using h.1
  |succ i=>simpa using aa i
theorem eC.leads {N:Nat->Prop}{ρ:List Loc}{tm dI:List J}{I:aD}{a:Act}{w:World}(h:eC N ρ tm I a w)(ax:al.leads tm dI):eC N [] dI [] a w/\Fr ρ I w [] [] w:=by
 obtain⟨U,aa⟩:=O2 ax;have aF:=h.eO
 have bq:∀x u,bB (aN N ρ I) w x u->bB (aN N [] []) w x u:=fun x u an=>an.mono fun b _ ag=>⟨rfl,fun gD=>ag (gD.elim .inl fun⟨i,aw,e,_⟩=>by simp at e)⟩
 refine⟨⟨⟨rfl,aF.fc,fun i aw b e=>by simp at e,fun i j li cC b e=>by simp at e,fun i aw b e=>by simp at e,fun i aw e=>by simp at e⟩,⟨h.en.size.trans U,fun t=> ?_⟩,h.hN⟩,
  rfl,rfl,rfl,aoE _,fun _ _ _=>rfl,fun b ⟨i,aw,e,_⟩=>by simp at e⟩
 rcases aa t with e|⟨e,aE⟩
 ·rw[e];exact .c3 trivial
 ·rw[<-e]at aE⊢;exact(h.en.at_ t).mono bq fun id av=>(GN aE av).elim
theorem hD.loop (E:bw){c:Code}{bu:Nat}(aK:ds (E.loops bu).ps->List (List (List R))->Prop)(m:ds (E.loops bu).ps->List (List (List R))->Nat)
 (bc:pS (fun _=>false) (E.loops bu) (iA (E.loops bu).conv S) (iA (E.loops bu).conv S) fun y=>aK y ls)
 (round:∀x l,aK x l->hD P dF e ak c (ly (E.loops bu) (iA (E.loops bu).conv S) x) l fun ex S' ch=>match ex with
   | .normal=>pS (Code.eH c) (E.loops bu) (iA (E.loops bu).conv S) (mO (E.loops bu).conv S') fun y=>aK y ch/\m y ch<m x l
   |ex=>K ex S' ch):hD P dF e ak (.loop c) S ls K:=fun N eW iu dY er dj ρ a w an=>by
 obtain⟨xx,lR,T9⟩:=tX (E.loops bu).conv S ρ an.qj
 have aj6:=an.step (S':=iA (E.loops bu).conv S) lR T9 rfl;obtain⟨ck,kZ,eE,eR,rL⟩:=Bx (fun _=>false) _ _ lR lR (Fr.refl _ _ _) (fun _ _=>rfl) rfl bc
 refine Gw (fun(x:ds (E.loops bu).ps×List (List (List R))) b5 w'=>aK x.1 x.2/\(∃hL ρ',s4 N hL iu dY er dF dj e ak x.2 ρ' (ly (E.loops bu) (iA (E.loops bu).conv S) x.1) b5 w'/\
  ∀y u,bB (aN (fun b=>N b\/eW b) xx (iA (E.loops bu).conv S).I) w y u->bB (aN (fun b=>N b\/hL b) ρ' (ly (E.loops bu) (iA (E.loops bu).conv S) x.1).I) w' y u)/\
  (∀t,Code.eH c t=false->b5.tmps.getD t undef=a.tmps.getD t undef)/\b5.tmps.size=a.tmps.size) (fun x=>m x.1 x.2) (ck,ls)
  ⟨kZ,⟨eW,eE,aj6.step eR rL rfl,fun _ _=>rL.reads⟩,fun _ _=>rfl,rfl⟩ ?_
 rintro⟨x,l⟩ a1 w1 ⟨fs,⟨aj7,e1,iL,zT⟩,j3,cq⟩;refine wp_mono (round x l fs N aj7 iu dY er dj e1 a1 w1 iL) fun ex a2 db b6=> ?_;obtain⟨b_,S',iv,hL,ρ',rfl,aa,az,aW,bA,bZ⟩:=b6
 have gd:∀t,Code.eH c t=false->a2.tmps.getD t undef=a.tmps.getD t undef:=fun t au=>(aW t au).trans (j3 t au)
 have I9:=fun y u h=>bZ y u (zT y u (T9.reads h))
 cases b_ with
 |normal=>
  obtain⟨g1,g2⟩:=ye (E.loops bu).conv S' ρ' az.qj
  have aj8:=az.step (S':=mO (E.loops bu).conv S') g1 g2 rfl;obtain⟨y,bp,JB,JC,Fp⟩:=M4 (a1:=a) (w1:=w) (S:=mO (E.loops bu).conv S') (Code.eH c) (E.loops bu) _ lR.en g1 (fun y u h=>g2.reads (bZ y u (zT y u h))) gd (bA.trans cq) aa;exact⟨(y,iv),⟨bp.1,⟨hL,JB,aj8.step JC Fp rfl,fun z u h=>Fp.reads (g2.reads (bZ z u (zT z u h)))⟩,gd,bA.trans cq⟩,bp.2⟩
 |exit i=>exact⟨.exit i,S',iv,hL,ρ',rfl,aa,az,gd,bA.trans cq,I9⟩
 |goto i=>exact⟨.goto i,S',iv,hL,ρ',rfl,aa,az,gd,bA.trans cq,I9⟩
 |ret=>exact⟨.ret,S',iv,hL,ρ',rfl,aa,az,gd,bA.trans cq,I9⟩
end
def iX (n:Nat):Array Bool:=#[0<n,1<n,2<n,3<n,4<n,5<n,6<n,7<n,8<n,9<n,10<n]
def RN (ops:Array Oper):Bool:=
 Region.noSelect ops&&(List.range 5).all (fun i=>Region.free .any ops (iX i) i&&(Region.ready .any ops (iX i)).contains i)&&
 Region.ready .any ops (iX 5)==[5,6]&&Region.ready .any ops ((iX 5).setIfInBounds 5 true)==[6]&&Region.ready .any ops ((iX 5).setIfInBounds 6 true)==[5,7]&&
 Region.ready .any ops (iX 7)==[7]&&Region.ready .any ops (((iX 5).setIfInBounds 6 true).setIfInBounds 7 true)==[5]&&
 Region.ready .any ops (iX 8)==[8]&&Region.ready .any ops (iX 9)==[9]&&Region.ready .any ops (iX 10)==[10]&&Region.ready .any ops (iX 11)==[]
def jY (ops:Array Oper)(i:Nat)(d:Option Tmp)(p:Op):Prop:=∃o,ops[i]? =some o/\o.dst=d/\o.op=p/\o.guard=none
structure Q1 (ops:Array Oper)(s dF kA gn:Nat)(lU gp qF:TypeId):Prop where
 size:ops.size=11
 rd:RN ops=true
 aq:jY ops 0 (some s) (.move (.tmp dF))
 bz:jY ops 1 (some (s+1)) (.move (.tmp kA))
 bl:jY ops 2 (some (s+2)) (.move (.tmp dF))
 cO:jY ops 3 (some (s+3)) (.move (.tmp kA))
 jJ:jY ops 4 (some (s+4)) (.indexAddr lU (.tmp (s+2)) (.tmp (s+3)))
 h_:jY ops 5 (some (s+5)) (.load gp (.tmp (s+4)))
 qD:jY ops 6 (some (s+6)) (.load qF (.tmp gn))
 Gf:jY ops 7 (some (s+7)) (.buildSlice gp 1 #[(0, .tmp (s+6))])
 Gg:jY ops 8 (some (s+8)) (.call {callee:= .builtin .append,args:=#[.tmp (s+5), .tmp (s+7)],argTypes:=#[gp,gp]})
 U3:jY ops 9 (some (s+9)) (.indexAddr lU (.tmp s) (.tmp (s+1)))
 aj9:jY ops 10 none (.store gp (.tmp (s+9)) (.tmp (s+8)))
def py (a:Act)(n:Nat)(F:Nat->Value):Prop:=a.tmps.size=n/\a.defers=[]/\∀t,a.tmps.getD t undef=F t
theorem py.at_ {a:Act}{n:Nat}{F:Nat->Value}(h:py a n F){t:Nat}{v:Value}(e:F t=v):a.eval (.tmp t)=v:=(h.2.2 t).trans e
theorem py.put {a:Act}{n:Nat}{F:Nat->Value}(h:py a n F){d:Nat}(a8:d<n)(v:Value):py (a.put (some d) v) n fun t=>if d=t then v else F t:=
 ⟨by simp[Act.put,h.1],h.2.1,fun t=>by
  simp only[Act.put];rw[vN,h.1,h.2.2]
  by_cases e:d=t
  ·rw[aoy ⟨e,a8⟩,aoy e]
  ·rw[aox (fun x=>e x.1),aox e]⟩
section
variable {P:Program} {ops:Array Oper} {Q:Exit->Act->World->Prop} {K:Act->World->Prop} {a:Act} {w:World}
theorem oS {i:Nat}{d:Option Tmp}{p:Op}{v:Value}{w':World}(h:jY ops i d p)(an:∀o:Oper,o.op=p->(execOp a.eval o).run P w= .ok (.value v) w')(ae:K (a.put d v) w'):wpOp P ops Q i K a w:=by
 obtain⟨o,aF,rfl,aE,bh⟩:=h;unfold wpOp;simp only[aF];rw[aoy (by simp[Region.wanted,bh])];refine .inl ?_;unfold Oper.wp;rw[an o aE];exact ae
theorem ad1 {i:Nat}{d:Option Tmp}{v:Value}{w':World}{o:Oper}(aF:ops[i]? =some o)(a8:o.dst=d)(bh:o.guard=none)(an:(execOp a.eval o).run P w= .ok (.value v) w')(ae:K (a.put d v) w'):wpOp P ops Q i K a w:=by
 unfold wpOp;simp only[aF];rw[aoy (by simp[Region.wanted,bh])];refine .inl ?_;unfold Oper.wp;rw[an];subst a8;exact ae
theorem aaX {i:Nat}{p:Op}{w':World}(h:jY ops i none p)(an:∀o:Oper,o.op=p->(execOp a.eval o).run P w= .ok .skip w')(ae:K a w'):wpOp P ops Q i K a w:=by
 obtain⟨o,aF,a8,aE,bh⟩:=h;unfold wpOp;simp only[aF];rw[aoy (by simp[Region.wanted,bh])];refine .inl ?_;unfold Oper.wp;rw[an o aE];show K (a.put o.dst undef) w';rw[a8];exact ae
theorem take_one {i:Nat}{d:Option Tmp}{p:Op}{v:Value}{fuel:Nat}{l ch:Array Bool}(h:jY ops i d p)(ax:l.setIfInBounds i true=ch)(ay:Region.noSelect ops=true)(aU:Region.free .any ops l i=true)
 (an:(Region.ready .any ops l).contains i=true) (a_:∀c a w,¬Q (.panic c) a w) (aP:∀(o:Oper) (w:World),o.op=p->(execOp a.eval o).run P w= .ok (.value v) w) (ae:wpAny P .any ops Q fuel ch (a.put d v) w):wpAny P .any ops Q (fuel+1) l a w:=by
 obtain⟨o,aF,rfl,aE,bh⟩:=h;subst ax;exact wpAny_take aF ay aU an (fun c a w h=>(a_ c _ w h).elim) (.inl ⟨by simp[Region.wanted,bh],fun w=>aP o w aE⟩) ae
theorem uy {i:Nat}{fuel:Nat}{l ch:Array Bool}(ax:l.setIfInBounds i true=ch)(an:Region.ready .any ops l=[i])(ae:wpOp P ops Q i (wpAny P .any ops Q fuel ch) a w):wpAny P .any ops Q (fuel+1) l a w:=by
 subst ax;exact wpAny_all an (by simp) fun j aI=>by rw[apo]at aI;subst aI;exact ae
theorem Zg {aH:Array Value}{k:Nat}{v:Value}(ae:k<aH.size):(aH.toList.take k++[v]++aH.toList.drop (k+1)).toArray=aH.setIfInBounds k v:=by
 apply Array.ext';rw[Array.toList_setIfInBounds,List.set_eq_take_append_cons_drop,aoy (by simpa using ae)];simp
theorem aaY {t:TypeId}{i:b7}(hi:c1 P t i=true){s:cg}(ay:i.ty= .aB s)(b k:Nat)(aH:Array Value)(e:TypeId)(ag:w.heap[b]? =some (.cells aH e (0,0)))(ae:k<aH.size)(a:Option Addr)(n c:Nat):
 (Instr.storeAt t (.pointer (some ⟨b,k,none⟩)) (.slice a n c)).run P w= .ok () (w.setRow b (aH.setIfInBounds k (.slice a n c))):=by
 obtain⟨g,U,aa⟩:=Qj hi ay;have cN:=run_storeCells_at P b k e [.slice a n c] 0 aH w ag (by simp;omega) (by simp[Value.oneCell']);simp only[aoW,apL,Zg ae]at cN;simp[Instr.storeAt,Instr.sureAddr,storeVar,lh U,aa,Value.cells,cN]
theorem Zh {base:Nat}{t ty e:TypeId}{i:TypeInfo}{z:Value}(au:P.underlying t=some (.slice e))(hi:P.info? e=some i)(bq:i.zero=some z)
 {size:Nat} (n8:i.size=size) {v:Value} {n:Nat} {xs:List Value} (e7:w.ownsRow base e size v n xs) {iw:Addr} {c:Nat} {news:List Value} (ax:news.length=1*size) (mT:∀j u,news[j]? =some u->w.cell? (iw.add j)=some u) (U:∀u∈news,u.oneCell'=true)
 (pb:n+1<=maxLen) (wL:(n+1)*i.bytes<=140737488355328) {c6:Value} {w':World} (an:(Builtin.append_ #[t,t] ty #[v, .slice (some iw) 1 c]).run P w= .ok c6 w'):
 c6.ownBlock=v.ownBlock\/c6.ownBlock=some w.heap.size:=by
 subst n8;have anu:n+1<=9223372036854775807:=by simp only[maxLen]at pb;omega
 rcases e7.2 with⟨rfl,rfl⟩|⟨g,cap,cur,rfl,an_,bh,Jt,pq,j1,anH⟩
 ·rw[run_append_nil (P:=P) w t ty e i z au hi bq iw 1 c news ax mT (by omega) (by omega) (by simp only[ao8]at wL;omega)]at an;simp only[Result.ok.injEq]at an;rw[<-an.1];exact .inr rfl
 ·by_cases sO:n+1<=cap
  ·rw[run_append_room (P:=P) w t ty e i au hi g n cap cur bh iw 1 c news ax mT U sO (by rw[ax,j1,<-aoT];exact aoP _ sO)]at an;simp only[Result.ok.injEq]at an;rw[<-an.1];exact .inl rfl
  ·rw[run_append_grow (P:=P) w t ty e i z au hi bq ⟨g,0,none⟩ n cap xs e7.1 (e7.cells (g:=g) rfl) iw 1 c news ax mT (by omega) (by omega) (growslice_fits (by omega) wL)]at an;simp only[Result.ok.injEq]at an;rw[<-an.1];exact .inr rfl
end
section
variable {P:Program} {a:Act} {w w':World} {o:Oper}
theorem run_move {x:Operand}(h:o.op= .move x):(execOp a.eval o).run P w= .ok (.value (a.eval x)) w:=by unfold execOp;rw[h];rfl
theorem Q2 {t:TypeId}{x i:Operand}{v:Value}(h:o.op= .indexAddr t x i)(an:(Instr.indexAt t (a.eval x) (a.eval i)).run P w= .ok v w):(execOp a.eval o).run P w= .ok (.value v) w:=by
 unfold execOp;rw[h];simp[an]
theorem RO {t:TypeId}{x:Operand}{v:Value}(h:o.op= .load t x)(an:(Instr.loadAt t (a.eval x)).run P w= .ok v w):(execOp a.eval o).run P w= .ok (.value v) w:=by
 unfold execOp;rw[h];simp[an]
theorem ad2 {t:TypeId}{x y:Operand}(h:o.op= .store t x y)(an:(Instr.storeAt t (a.eval x) (a.eval y)).run P w= .ok () w'):(execOp a.eval o).run P w= .ok .skip w':=by
 unfold execOp;rw[h];simp[an]
theorem ad3 {t:TypeId}{n:Nat}{x:Operand}{v:Value}(h:o.op= .buildSlice t n #[(0,x)])(an:(Instr.buildSlice t n #[(0,a.eval x)]).run P w= .ok v w'):(execOp a.eval o).run P w= .ok (.value v) w':=by
 unfold execOp;rw[h];simp[an]
theorem ad4 {t:TypeId}{x y:Operand}{v:Value}(h:o.op= .call {callee:= .builtin .append,args:=#[x,y],argTypes:=#[t,t]})(an:(Builtin.append_ #[t,t] o.type #[a.eval x,a.eval y]).run P w= .ok v w'):(execOp a.eval o).run P w= .ok (.value v) w':=by
 unfold execOp;simp only[h,resolve,invoke,builtin,Sem.run_bind,Sem.run_pure,Result.andThen_ok,aqE,aoX,aqo,an]
end
def s5 (s:Nat):Nat->List J->List J
 |0,l=>l
 |n+1,l=>cQ (s5 s n l) (s+n) .any
theorem P7 (s:Nat)(l:List J):∀n,s+n<=l.length->(s5 s n l).length=l.length/\∀t,(s5 s n l).getD t .un=if s<=t/\t<s+n then .any else l.getD t .un
 |0,h=>⟨rfl,fun t=>by rw[aox (by omega)];rfl⟩
 |n+1,h=>by
  obtain⟨U,aa⟩:=P7 s l n (by omega);simp only[s5,eI];refine⟨by simp[U],fun t=> ?_⟩;rw[eu,U,aa]
  by_cases e:s+n=t
  ·rw[aoy ⟨e,by omega⟩,aoy (by omega)]
  ·rw[aox (fun x=>e x.1)]
   by_cases q:s<=t/\t<s+n
   ·rw[aoy q,aoy (by omega)]
   ·rw[aox q,aox (by omega)]
section
variable {P:Program} {dF:Nat} {e:TypeId} {ak:Nat} {S:e2} {ls:List (List (List R))} {K:hd->e2->List (List (List R))->Prop}
theorem hD.append (E:bw)(cW:gA P E){id:Nat}{ops:Array Oper}{s kA gn:Nat}{lU gp qF:TypeId}(h:Q1 ops s dF kA gn lU gp qF)(J6:(E.tb lU).ty= .aB (.dB 1))(h7:(E.tb gp).ty= .aB (.dB ak))(At:P.underlying gp=some (.slice e))
 {k:Int} {tN:List Prop} {v6:J} {row:List R} (ay:s+10<=S.tm.length) (a8:dF<s/\kA<s/\gn<s) (ae:aY S.tm (.tmp kA)= .d (.int .i64 k)) (bc:0<=k) (U:k<ls.length)
 (qu:hR (E.tb qF).ty (aY S.tm (.tmp gn)) S.I= .aZ tN v6 S.I) (aj_:∀p∈tN,p) (kQ:hs S.I ak (E.tb gp).fz 1 [(0,v6)]=some [row]) (cq:ak<=65536) (nz:0<(E.tb gp).bytes)
 (ag:((ls.getD k.toNat []).length+1)*(E.tb gp).bytes<=140737488355328)
 (gM:K .normal ⟨s5 s 10 S.tm,S.I++[(false, .ar ak [row])]⟩ (ls.set k.toNat (ls.getD k.toNat []++[row]))):hD P dF e ak (.region id ops true) S ls K:=fun N eW iu dY er dj ρ a w an=>by
 obtain⟨d1,d2,d3⟩:=a8;have zF:cn (fun b=>N b\/eW b) ρ S.I w ρ S.I {w with drawn:=w.drawn+1}:=cn.drew an.qj.eO rfl rfl rfl rfl;have eR:eC (fun b=>N b\/eW b) ρ S.tm S.I a {w with drawn:=w.drawn+1}:=⟨zF.rel,an.qj.en.step zF,an.qj.hN⟩;have iL:=an.step (S':=S) eR zF.toFr rfl;refine wp_region_any cW.mixed ?_;rw[h.size];have fJ:=h.rd;simp only[RN,aoL,beq_iff_eq]at fJ;obtain⟨⟨⟨⟨⟨⟨⟨⟨⟨⟨zG,cx⟩,AY⟩,aka⟩,akb⟩,U4⟩,akc⟩,amz⟩,amA⟩,akd⟩,ake⟩:=fJ
 have cx:∀i,i<5->Region.free .any ops (iX i) i=true/\(Region.ready .any ops (iX i)).contains i=true:=fun i hi=>by
  have:=aoR.1 cx i (by simpa using hi);simpa[aoL]using this
 generalize akf:({w with drawn:=w.drawn+1}:World)=w1 at iL eR⊢
 have ae_:∀y u,bB (aN (fun b=>N b\/eW b) ρ S.I) w y u->bB (aN (fun b=>N b\/eW b) ρ S.I) w1 y u:=akf▸fun _ _=>zF.toFr.reads
 clear an zF;obtain⟨aH,fa,av⟩:=iL.nest;have aF:=eR.eO;obtain⟨A0,aos,aot,q1,cE,cS,_⟩:=sf (cW.ty lU) J6;obtain⟨b_,g,z,je,lW,tD,xV,amB,amC,U5,tO⟩:=sf (cW.ty gp) h7;rw[At]at je;obtain rfl:e=b_:=by simpa using je
 have iK:z.cells.size=ak:=by rw[<-apD,(qI (Z:=fun _=>False) (w:=w1) tO).1,amC]
 have bG:k.toNat<ls.length:=by omega
 have bV:a.eval (.tmp kA)= .int .i64 k:=iS (ae▸eA eR.en (.tmp kA));have el:a.eval (.tmp dF)= .slice (some ⟨dj,0,none⟩) ls.length ls.length:=iL.slot
 have SO:∀w,(Instr.indexAt lU (.slice (some ⟨dj,0,none⟩) ls.length ls.length) (.int .i64 k)).run P w= .ok (.pointer (some ⟨dj,k.toNat,none⟩)) w:=fun w=>by
  have:=run_indexAt_slice (w:=w) q1 cE dj 0 ls.length ls.length .i64 k bc (by omega);rw[cS]at this;simpa using this
 have k2:dj<w1.heap.size:=aF.fc _ (.inr av.top)
 have akg:∀w':World,w'.heap[dj]? =w1.heap[dj]? ->(Instr.loadAt gp (.pointer (some ⟨dj,k.toNat,none⟩))).run P w'= .ok (aH.getD k.toNat undef) w':=fun w' hw=>by
  have aC:w'.cell? ⟨dj,k.toNat,none⟩=some (aH.getD k.toNat undef):=by
   have:k.toNat<aH.size:=by rw[av.size];exact bG
   simp[World.cell?,hw,av.at_,this]
  simpa[Instr.loadAt,Instr.sureAddr]using yG (w:=w') (cW.ty gp) h7 dj k.toNat aC
 obtain⟨r9,_,akh,aki⟩:=GC (cW.ty qF) aF (op:= .tmp gn) eR.en qu aj_;have akj:b8 .un (cQ S.tm (s+6) v6) (s+6)=v6:=by rw[dT,eI,eu,aoy ⟨rfl,by omega⟩]
 obtain⟨vH,db,e1,J7,mu,akk⟩:=Gx (cW.ty gp) aF (a:=a.put (some (s+6)) r9) (tm:=cQ S.tm (s+6) v6) (ek.put eR.en (some (s+6)) aki) #[(0, .tmp (s+6))] 1 h7
  (show hs S.I ak (E.tb gp).fz 1 [(0,b8 .un (cQ S.tm (s+6) v6) (s+6))]=some [row] by rw[akj];exact kQ) (by omega)
 have pg:py a S.tm.length fun t=>a.eval (.tmp t):=⟨eR.en.size,eR.hN,fun _=>rfl⟩;have akl:(a.put (some (s+6)) r9).eval (.tmp (s+6))=r9:=(pg.put (d:=s+6) (by omega) r9).at_ (aoy rfl);have J7:(Instr.buildSlice gp 1 #[(0,r9)]).run P w1= .ok vH db:=by rw[<-J7];simp[akl]
 have ep:db.heap[dj]? =w1.heap[dj]? :=mu.ao dj k2 fun⟨i,aw,cH,cz,_⟩=>aF.fK i aw dj cH cz (.inr av.top)
 generalize iP:(fun(ex:Exit) (b5:Act) (w':World)=>∃(b_:hd) (S':e2) (iv:List (List (List R))) (hL:Nat->Prop) (ρ':List Loc),ex=b_.to/\K b_ S' iv/\s4 N hL iu dY er dF dj e ak iv ρ' S' b5 w'/\
  (∀t,Code.eH (.region id ops true) t=false->b5.tmps.getD t undef=a.tmps.getD t undef)/\b5.tmps.size=a.tmps.size/\∀y u,bB (aN (fun b=>N b\/eW b) ρ S.I) w y u->bB (aN (fun b=>N b\/hL b) ρ' S'.I) w' y u)=Q
 have a_:∀c a w,¬Q (.panic c) a w:=fun c a w b6=>by
  subst iP;obtain⟨b_,_,_,_,_,b6,_⟩:=b6;cases b_<;>cases b6
 have L:∀i,i<11->(iX i).setIfInBounds i true=iX (i+1):=by decide
 have main:∀(b:Act) (F:Nat->Value),py b S.tm.length F->F s= .slice (some ⟨dj,0,none⟩) ls.length ls.length->F (s+1)= .int .i64 k->F (s+5)=aH.getD k.toNat undef->F (s+7)=vH->(∀t,t<s\/s+9<t->F t=a.eval (.tmp t))->
  wpAny P .any ops Q 3 (iX 8) b db:=by
  intro b F dE f0 f1 f5 f7 Kw;obtain⟨aw,dP,hu,_⟩:=akk;have cF:af.at (S.I++[(false, .ar ak [row])]) S.I.length= .ar ak [row]:=by rw[gN,aoy rfl]
  have cf:=mu.rel.ob S.I.length aw dP;rw[cF]at cf hu;rcases cf with⟨Ew,_⟩|⟨Kx,Au,mE,a6,bj,bH,dO,fi,ho,k6⟩
  ·cases Ew
  have hu:vH= .slice (some ⟨Kx,0,none⟩) 1 aw.cap:=by rw[hu,a6];rfl
  have k6:∀j,j<ak->∃v,Au[j]? =some v/\bB (aN (fun b=>N b\/eW b) e1 (S.I++[(false, .ar ak [row])])) db (row.getD j .undef) v:=fun j aI=>by
   have:=k6 0 j (by simp) aI;simpa using this
  have mT:∀j u,((List.range ak).map fun j=>Au.getD j undef)[j]? =some u->j<ak/\Au[j]? =some u:=fun j u aI=>by
   rw[apu]at aI
   by_cases ax:j<ak
   ·obtain⟨v,aA,_⟩:=k6 j ax;simp[ax]at aI;rw[aA]at aI;exact⟨ax,by rw[aA,<-aI];rfl⟩
   ·simp[ax]at aI
  have agC:∀x,eW x->¬gz ρ S.I x:=fun x ai ⟨i,aw,cH,cz,_⟩=>aF.fK i aw x cH cz (.inr ai)
  have oh:u3 eW (aN (fun b=>N b\/eW b) e1 (S.I++[(false, .ar ak [row])])) db er.heap.size dj e ak ls aH fa:=
   av.ao (fun x ai=>mu.ao x (aF.fc x (.inr ai)) (agC x ai)) fun _ _=>mu.toFr.reads
  obtain⟨xs,nD,Jy⟩:=oh.inner k.toNat bG;obtain⟨Gg,akm,akn,ako,akp⟩:=h.Gg;have hmul:(ls.getD k.toNat []).length+1<=((ls.getD k.toNat []).length+1)*(E.tb gp).bytes:=Nat.le_mul_of_pos_right _ nz;have pb:(ls.getD k.toNat []).length+1<=maxLen:=by simp only[maxLen];omega
  have tx:er.heap.size<=db.heap.size:=aoS iL.AU.size mu.size
  have hf:∀j u,((List.range ak).map fun j=>Au.getD j undef)[j]? =some u->db.cell? ((⟨Kx,0,none⟩:Addr).add j)=some u:=fun j u aI=>by
   rw[mL];simp[World.cell?,bH,(mT j u aI).2]
  have w8:∀u∈((List.range ak).map fun j=>Au.getD j undef),u.oneCell'=true:=fun u hu=>by
   obtain⟨j,aI⟩:=List.getElem?_of_mem hu;obtain⟨ax,aA⟩:=mT j u aI;obtain⟨v,aL,aP⟩:=k6 j ax;rw[aA]at aL;cases aL;exact aP.one
  obtain⟨bn,bX,T_,FI,qx,_⟩:=run_append_own (P:=P) db er.heap.size gp Gg.type e g z ak (E.tb gp).bytes At lW U5 tD xV iK amB _ _ xs nD ⟨Kx,0,none⟩ 1 aw.cap _ (by simp) hf w8 pb ag tx;have lG:=Zh At lW U5 tD nD (by simp) hf w8 pb (by rw[xV];exact ag) T_;have FJ:=dE.put (d:=s+8) (by omega) bn;refine uy (fuel:=2) (L 8 (by omega)) amz (ad1 akm akn akp (ad4 ako (by rw[dE.at_ f5,dE.at_ f7,hu];exact T_)) ?_);generalize b.put (some (s+8)) bn=vG at FJ⊢;have akq:vG.eval (.tmp s)= .slice (some ⟨dj,0,none⟩) ls.length ls.length:=FJ.at_ (by simp(disch:=omega) only[aox,f0]);have akr:vG.eval (.tmp (s+1))= .int .i64 k:=FJ.at_ (by simp(disch:=omega) only[aox,f1]);have rZ:=FJ.put (d:=s+9) (by omega) (.pointer (some ⟨dj,k.toNat,none⟩));refine uy (fuel:=1) (L 9 (by omega)) amA (oS h.U3 (fun o aF=>Q2 aF (by rw[akq,akr];exact SO bX)) ?_);generalize vG.put (some (s+9)) (.pointer (some ⟨dj,k.toNat,none⟩))=vI at rZ⊢
  obtain⟨tP,Ky,r_,T0⟩:∃tP Ky r_,bn= .slice tP Ky r_:=by
   rcases FI.2 with⟨aA,_⟩|⟨_,_,_,aA,_⟩<;>exact⟨_,_,_,aA⟩
  have m8:∀x,(aH.getD k.toNat undef).ownBlock=some x->eW x/\x≠dj:=fun x ai=>av.bu k.toNat x bG ai
  have az:bX.heap[dj]? =some (.cells aH fa (0,0)):=by
   rw[qx.block dj (aoV k2 mu.size) fun aA=>(m8 dj aA.symm).2 rfl];exact oh.at_
  have Ua:k.toNat<aH.size:=by rw[av.size];exact bG
  have aks:vI.eval (.tmp (s+9))= .pointer (some ⟨dj,k.toNat,none⟩):=rZ.at_ (aoy rfl);have akt:vI.eval (.tmp (s+8))=bn:=rZ.at_ (by simp(disch:=omega) only[aox,ao_])
  have cN:(Instr.storeAt gp (vI.eval (.tmp (s+9))) (vI.eval (.tmp (s+8)))).run P bX= .ok () (bX.setRow dj (aH.setIfInBounds k.toNat bn)):=by
   rw[aks,akt,T0];exact aaY (cW.ty gp) h7 dj k.toNat aH fa az Ua tP Ky r_
  refine uy (fuel:=0) (L 10 (by omega)) akd (aaX h.aj9 (fun o aF=>ad2 aF cN) ⟨ake, ?_⟩);subst iP
  have FK:∀x,x≠dj->(bX.setRow dj (aH.setIfInBounds k.toNat bn)).heap[x]? =bX.heap[x]? :=fun x ai=>setRow_other bX dj x _ ai
  have E4:(bX.setRow dj (aH.setIfInBounds k.toNat bn)).heap.size=bX.heap.size:=by simp
  have aW:=setRow_heap bX dj aH (aH.setIfInBounds k.toNat bn) fa (0,0) az;have r0:(bX.setRow dj (aH.setIfInBounds k.toNat bn)).os=bX.os/\(bX.setRow dj (aH.setIfInBounds k.toNat bn)).tape=bX.tape/\(bX.setRow dj (aH.setIfInBounds k.toNat bn)).output=bX.output:=⟨rfl,rfl,rfl⟩;generalize bX.setRow dj (aH.setIfInBounds k.toNat bn)=j_ at FK E4 aW r0⊢
  have I_:∀x,x<db.heap.size->¬eW x->j_.heap[x]? =db.heap[x]? :=fun x ai mA=>by
   rw[FK x fun aA=>mA (aA▸av.top)];exact qx.block x ai fun aA=>mA (m8 x aA.symm).1
  have fM:∀x,x<db.heap.size->(N x\/eW x\/bn.ownBlock=some x)->N x\/eW x:=fun x ai h=>by
   rcases h with h|h|h
   ·exact .inl h
   ·exact .inr h
   ·rcases lG with aA|aA
    ·rw[aA]at h;exact .inr (m8 x h).1
    ·rw[aA]at h;cases h;omega
  have agD:∀x,(N x\/eW x\/bn.ownBlock=some x)->x<j_.heap.size:=fun x h=>by
   rw[E4];rcases h with h|h|h
   ·exact aoV (aF.fc x (.inl h)) (aoS mu.size qx.size)
   ·exact aoV (aF.fc x (.inr h)) (aoS mu.size qx.size)
   ·exact(FI.lt x h).2
  obtain⟨oD,pC⟩:=P7 s S.tm 10 (by omega)
  have afa:eC (fun b=>N b\/eW b) e1 (s5 s 10 S.tm) (S.I++[(false, .ar ak [row])]) vI db:=by
   refine⟨mu.rel,⟨rZ.1.trans oD.symm,fun t=> ?_⟩,rZ.2.1⟩;rw[pC]
   by_cases au:s<=t/\t<s+10
   ·rw[aoy au];exact .c3 trivial
   ·rw[aox au]
    have:vI.tmps.getD t undef=a.tmps.getD t undef:=by
     rw[rZ.2.2 t];simp(disch:=omega) only[aox];exact Kw t (by omega)
    rw[this];exact mu.lA (eR.en.at_ t)
  have fJ:∀x u,bB (aN (fun b=>N b\/eW b) e1 (S.I++[(false, .ar ak [row])])) db x u->bB (aN (fun b=>N b\/eW b\/bn.ownBlock=some b) e1 (S.I++[(false, .ar ak [row])])) j_ x u:=fun x u an=>
   an.mono fun b ag bq=>⟨I_ b ag fun mA=>bq (.inl (.inr mA)),fun m7=>m7.elim (fun aa=>bq (.inl (fM b ag aa))) fun aR=>bq (.inr aR)⟩
  have oe:=iL.AU.trans mu.toFr
  have Ub:∀x,bn.ownBlock=some x->x≠dj:=fun x ai aA=>by
   rcases lG with aL|aL
   ·rw[aL]at ai;exact(m8 x ai).2 aA
   ·rw[aL]at ai;cases ai;have:=mu.size;omega
  refine⟨.normal,⟨s5 s 10 S.tm,S.I++[(false, .ar ak [row])]⟩,_,fun x=>eW x\/bn.ownBlock=some x,e1,rfl,gM,
   ⟨afa.I8 (by rw[E4];exact qx.size) (fun x ai aku=>I_ x ai fun mA=>aku (.inr mA)) fM agD,
    ⟨r0.1.trans (qx.os.trans oe.os),r0.2.1.trans (qx.tape.trans oe.tape),r0.2.2.trans (qx.output.trans oe.output),by rw[E4];exact aoS oe.size qx.size,
     fun x ai akv=>by rw[I_ x (by omega) fun mA=>by have:=av.low x mA;omega];exact oe.ao x ai akv,oe.alive⟩,
    ⟨aH.setIfInBounds k.toNat bn,fa, ?_⟩, ?_⟩,fun t au=> ?_,rZ.1.trans eR.en.size.symm,fun y u h=>fJ y u (mu.toFr.reads (ae_ y u h))⟩
  ·have Gh:∀i,i<ls.length->(aH.setIfInBounds k.toNat bn).getD i undef=if k.toNat=i then bn else aH.getD i undef:=fun i hi=>by
    rw[vN]
    by_cases aA:k.toNat=i
    ·rw[aoy ⟨aA,Ua⟩,aoy aA]
    ·rw[aox fun x=>aA x.1,aox aA]
   have FT:∀i,(ls.set k.toNat (ls.getD k.toNat []++[row])).getD i []=if k.toNat=i then ls.getD k.toNat []++[row]else ls.getD i []:=fun i=>by
    rw[eu]
    by_cases aA:k.toNat=i
    ·rw[aoy ⟨aA,bG⟩,aoy aA]
    ·rw[aox fun x=>aA x.1,aox aA]
   refine⟨fun x ai=>ai.elim (av.low x) fun h=>(FI.lt x h).1, .inl av.top,aW,by simp[av.size],fun i hi=> ?_,fun i x hi ai=> ?_,fun i j x hi aI ai bp=> ?_⟩
   ·rw[aoI]at hi;rw[Gh i hi,FT i]
    by_cases aA:k.toNat=i
    ·rw[aoy aA,aoy aA];refine⟨_,by rw[ao0];exact MU FI fun x ai=>FK x (Ub x ai),fun r j an aI=> ?_⟩;have xl:=nD.1;rw[ao0,apL]at an
     by_cases aL:r<(ls.getD k.toNat []).length
     ·obtain⟨u,k9,z2⟩:=Jy r j aL aI;have ff:r*ak+j<xs.length:=(apr.1 k9).1;refine⟨u,by rw[apt ff];exact k9, ?_⟩
      have:(ls.getD k.toNat []++[row]).getD r []=(ls.getD k.toNat []).getD r []:=by
       simp only[aoA]at aL⊢;rw[apt aL]
      rw[this];exact fJ _ _ z2
     ·obtain rfl:r=(ls.getD k.toNat []).length:=by omega
      obtain⟨u,k9,z2⟩:=k6 j aI;refine⟨u, ?_, ?_⟩
      ·rw[apJ (by omega),xl,Nat.add_sub_cancel_left];simp[aI,aoH,k9]
      ·have:(ls.getD k.toNat []++[row]).getD (ls.getD k.toNat []).length []=row:=by simp[aoA]
       rw[this];exact fJ _ _ z2
    ·rw[aox aA,aox aA];refine(oh.inner i hi).ao (fun x ai=> ?_) fJ;obtain⟨fT,fZ⟩:=av.bu i x hi ai;rw[FK x fZ];exact qx.block x (aoV (aF.fc x (.inr fT)) mu.size) fun aL=>aA (av.inj k.toNat i x bG hi aL.symm ai)
   ·rw[aoI]at hi;rw[Gh i hi]at ai
    by_cases aA:k.toNat=i
    ·rw[aoy aA]at ai;exact⟨.inr ai,Ub x ai⟩
    ·rw[aox aA]at ai;exact⟨.inl (av.bu i x hi ai).1,(av.bu i x hi ai).2⟩
   ·rw[aoI]at hi aI;rw[Gh i hi]at ai;rw[Gh j aI]at bp
    have new:∀i,i<ls.length->k.toNat≠i->bn.ownBlock=some x->(aH.getD i undef).ownBlock=some x->False:=fun i hi dg aA aL=>by
     obtain⟨fT,fZ⟩:=av.bu i x hi aL;rcases lG with b3|b3
     ·rw[b3]at aA;exact dg (av.inj k.toNat i x bG hi aA aL)
     ·rw[b3]at aA;cases aA;have:=aF.fc _ (.inr fT);have:=mu.size;omega
    by_cases aA:k.toNat=i
    ·by_cases aL:k.toNat=j
     ·omega
     ·rw[aoy aA]at ai;rw[aox aL]at bp;exact(new j aI aL ai bp).elim
    ·rw[aox aA]at ai
     by_cases aL:k.toNat=j
     ·rw[aoy aL]at bp;exact(new i hi aA bp ai).elim
     ·rw[aox aL]at bp;exact av.inj i j x hi aI ai bp
  ·rw[aoI]
   have:vI.tmps.getD dF undef=a.tmps.getD dF undef:=by
    rw[rZ.2.2 dF];simp(disch:=omega) only[aox];exact Kw dF (by omega)
   rw[this];exact el
  ·have a8:∀{i d:Nat} {p:Op},jY ops i (some d) p->¬(d=(t:Nat)):=fun{i d p} ⟨o,cH,cz,_⟩ aA=>by
    have:=BH cH au;exact this (by rw[cz,aA])
   have z0:=a8 h.aq;have k9:=a8 h.bz;have z2:=a8 h.bl;have z3:=a8 h.cO;have z4:=a8 h.jJ;have z5:=a8 h.h_;have aou:=a8 h.qD;have aov:=a8 h.Gf;have amD:=a8 h.Gg;have z9:=a8 h.U3;rw[rZ.2.2 t];simp only[aox z9,aox amD];exact Kw t (by omega)
 refine take_one (fuel:=10) h.aq (L 0 (by omega)) zG (cx 0 (by omega)).1 (cx 0 (by omega)).2 a_ (fun o w aF=>run_move aF) ?_;have dv:=pg.put (d:=s) (by omega) (a.eval (.tmp dF));generalize a.put (some s) (a.eval (.tmp dF))=a1 at dv⊢;refine take_one (fuel:=9) h.bz (L 1 (by omega)) zG (cx 1 (by omega)).1 (cx 1 (by omega)).2 a_ (fun o w aF=>run_move aF) ?_;have xP:=dv.put (d:=s+1) (by omega) (a1.eval (.tmp kA));have cH:a1.eval (.tmp kA)= .int .i64 k:=dv.at_ (by simp(disch:=omega) only[aox,ao_,el,bV]);rw[cH]at xP⊢;generalize a1.put (some (s+1)) (.int .i64 k)=a2 at xP⊢;refine take_one (fuel:=8) h.bl (L 2 (by omega)) zG (cx 2 (by omega)).1 (cx 2 (by omega)).2 a_ (fun o w aF=>run_move aF) ?_;have AJ:=xP.put (d:=s+2) (by omega) (a2.eval (.tmp dF));have cz:a2.eval (.tmp dF)= .slice (some ⟨dj,0,none⟩) ls.length ls.length:=xP.at_ (by simp(disch:=omega) only[aox,ao_,el,bV]);rw[cz]at AJ⊢;generalize a2.put (some (s+2)) (.slice (some ⟨dj,0,none⟩) ls.length ls.length)=a3 at AJ⊢;refine take_one (fuel:=7) h.cO (L 3 (by omega)) zG (cx 3 (by omega)).1 (cx 3 (by omega)).2 a_ (fun o w aF=>run_move aF) ?_;have A1:=AJ.put (d:=s+3) (by omega) (a3.eval (.tmp kA));have ei:a3.eval (.tmp kA)= .int .i64 k:=AJ.at_ (by simp(disch:=omega) only[aox,ao_,el,bV]);rw[ei]at A1⊢;generalize a3.put (some (s+3)) (.int .i64 k)=a4 at A1⊢;have hq:a4.eval (.tmp (s+2))= .slice (some ⟨dj,0,none⟩) ls.length ls.length:=A1.at_ (by simp(disch:=omega) only[aox,ao_,el,bV]);have tQ:a4.eval (.tmp (s+3))= .int .i64 k:=A1.at_ (by simp(disch:=omega) only[aox,ao_,el,bV]);refine take_one (fuel:=6) h.jJ (L 4 (by omega)) zG (cx 4 (by omega)).1 (cx 4 (by omega)).2 a_ (fun o w aF=>Q2 aF (by rw[hq,tQ];exact SO w)) ?_;have A2:=A1.put (d:=s+4) (by omega) (.pointer (some ⟨dj,k.toNat,none⟩));generalize a4.put (some (s+4)) (.pointer (some ⟨dj,k.toNat,none⟩))=a5 at A2⊢
 have g4:∀{b:Act} {F:Nat->Value},py b S.tm.length F->F (s+4)= .pointer (some ⟨dj,k.toNat,none⟩)->∀w':World,w'.heap[dj]? =w1.heap[dj]? ->∀o:Oper,o.op= .load gp (.tmp (s+4))->(execOp b.eval o).run P w'= .ok (.value (aH.getD k.toNat undef)) w':=
  fun ag nM w' hw o aF=>RO aF (by rw[ag.at_ nM];exact akg w' hw)
 have g6:∀{b:Act} {F:Nat->Value},py b S.tm.length F->F gn=a.eval (.tmp gn)->∀o:Oper,o.op= .load qF (.tmp gn)->(execOp b.eval o).run P w1= .ok (.value r9) w1:=
  fun ag nM o aF=>RO aF (by rw[ag.at_ nM];exact akh)
 have g7:∀{b:Act} {F:Nat->Value},py b S.tm.length F->F (s+6)=r9->∀o:Oper,o.op= .buildSlice gp 1 #[(0, .tmp (s+6))]->(execOp b.eval o).run P w1= .ok (.value vH) db:=
  fun ag nM o aF=>ad3 aF (by rw[ag.at_ nM];exact J7)
 have akw:((iX 5).setIfInBounds 5 true).setIfInBounds 6 true=iX 7:=by decide
 have akx:((iX 5).setIfInBounds 6 true).setIfInBounds 5 true=iX 7:=by decide
 have agE:(((iX 5).setIfInBounds 6 true).setIfInBounds 7 true).setIfInBounds 5 true=iX 8:=by decide
 have vs:dF≠s/\gn≠s:=⟨by omega,by omega⟩;refine wpAny_all (fuel:=5) AY (by simp) fun i hi=> ?_;simp only[ao7,apR,or_false]at hi;rcases hi with rfl|rfl
 ·refine oS h.h_ (g4 A2 (aoy rfl) w1 rfl) ?_;have vJ:=A2.put (d:=s+5) (by omega) (aH.getD k.toNat undef);refine uy (fuel:=4) akw aka (oS h.qD (g6 vJ (by simp(disch:=omega) only[aox])) ?_);have tR:=vJ.put (d:=s+6) (by omega) r9;refine uy (fuel:=3) (L 7 (by omega)) U4 (oS h.Gf (g7 tR (aoy rfl)) ?_);refine main _ _ (tR.put (d:=s+7) (by omega) vH) ?_ ?_ ?_ ?_ fun t au=> ?_
  all_goals simp(disch:=omega) only[aox,ao_,el]
 ·refine oS h.qD (g6 A2 (by simp(disch:=omega) only[aox])) ?_;have vJ:=A2.put (d:=s+6) (by omega) r9;refine wpAny_all (fuel:=4) akb (by simp) fun i hi=> ?_;simp only[ao7,apR,or_false]at hi;rcases hi with rfl|rfl
  ·rw[akx];refine oS h.h_ (g4 vJ (by simp(disch:=omega) only[aox,ao_]) w1 rfl) ?_;have tR:=vJ.put (d:=s+5) (by omega) (aH.getD k.toNat undef);refine uy (fuel:=3) (L 7 (by omega)) U4 (oS h.Gf (g7 tR (by simp(disch:=omega) only[aox,ao_])) ?_);refine main _ _ (tR.put (d:=s+7) (by omega) vH) ?_ ?_ ?_ ?_ fun t au=> ?_
   all_goals simp(disch:=omega) only[aox,ao_,el]
  ·refine oS h.Gf (g7 vJ (aoy rfl)) ?_;have tR:=vJ.put (d:=s+7) (by omega) vH;refine uy (fuel:=3) agE akc (oS h.h_ (g4 tR (by simp(disch:=omega) only[aox,ao_]) db ep) ?_);refine main _ _ (tR.put (d:=s+5) (by omega) (aH.getD k.toNat undef)) ?_ ?_ ?_ ?_ fun t au=> ?_
   all_goals simp(disch:=omega) only[aox,ao_,el]
end
section
variable {P:Program} {ops:Array Oper} {Q lY:Exit->Act->World->Prop}
theorem aaZ {o:Oper}{a:Act}{next next':Act->World->Prop}(av:∀a w,next a w->next' a w)(a_:∀e a w,e≠ .normal->¬Q e a w){r:Result Next}(h:o.upon P a next Q r):o.upon P a next' lY r:=by
 unfold Oper.upon at h⊢;split at h
 ·exact av _ _ h
 ·exact av _ _ h
 ·exact av _ _ h
 ·refine h.mono fun e w an=> ?_
  cases e with
  |returned v=>exact av _ _ an
  |panicked c=>exact(a_ _ _ _ (by simp) an).elim
  |outgrown=>obtain⟨x,y,b6⟩:=an;exact(a_ _ _ _ (by simp) b6).elim
 ·exact h.mono fun v w an=>av _ _ an
 ·exact(a_ _ _ _ (by simp) h).elim
 ·exact h.elim
theorem BT {l2:List Nat}(a_:∀e a w,Q e a w->e= .normal/\wpOps P ops lY l2 a w):∀(l:List Nat) (a:Act) (w:World),wpOps P ops Q l a w->wpOps P ops lY (l++l2) a w
 |[],a,w,h=>(a_ _ _ _ h).2
 |i::bM,a,w,h=>by
  have pc:∀e a w,e≠ .normal->¬Q e a w:=fun e a w dg h=>dg (a_ e a w h).1
  simp only[apO,wpOps]at h⊢;split
  ·rename_i aF;rw[aF]at h;exact BT a_ bM a w h
  ·rename_i o aF;rw[aF]at h;simp only at h;split
   ·rename_i hw;rw[aoy hw]at h;rcases h with h|⟨U,x,y,aa⟩
    ·exact .inl (aaZ (fun a w=>BT a_ bM a w) pc h)
    ·exact(pc _ _ _ (by simp) aa).elim
   ·rename_i hw;rw[aox hw]at h;exact BT a_ bM _ w h
end
theorem iM.nested {P:Program}(E:bw)(cW:gA P E){id:Nat}{ops:Array Oper}{sa d4 dF:Nat}{lU kB:TypeId}{g:TypeInfo}(n8:ops.size=6)(jJ:jY ops 4 (some d4) (.makeSlice lU (.tmp sa) (.tmp sa)))(h_:jY ops 5 (some dF) (.assign (.tmp d4)))
 (hu:P.underlying lU=some (.slice kB)) (hi:P.info? kB=some g) (bq:g.zero=some (.slice none 0 0)) (bh:g.size=1) (dg:d4≠dF) {e:TypeId} {ak:Nat} (kg:0<ak) {L bM:Code} {S:e2} {K:hd->e2->Prop}
 (h:dw E.tb E.bx [] ops.toList ([0,1,2,3].map fun i=>ops.toList.getD i default) S.tm S.I fun tm I=>∃n:Int,aY tm (.tmp sa)= .d (.int .i64 n)/\0<=n/\n<=1000000000/\g.bytes<=100/\d4<tm.length/\dF<tm.length/\
   hD P dF e ak L ⟨cQ (cQ tm d4 .any) dF .any,I⟩ (List.replicate n.toNat []) fun ex S' ch=>match ex with
    | .normal=>∃dI,dF<dI.length/\leads S'.tm dI/\iM P bM ⟨cQ dI dF (.d (.ar 1 (ch.map fun l=>[.ar ak l]))),[]⟩ K
    |_=>False):iM P (.seq (.region id ops false) (.seq L bM)) S K:=fun N a w ρ ay=>by
 have dH:=BI cW.ty cW.more cW.om [] ops (fun i j o p d e id _ _ _ _ h=>by cases h) _ [0,1,2,3] (fun i hi=>by simp at hi;omega) (by decide) S.tm S.I a w ρ (fun i _ o d id _ _ h=>by cases h) h ay
 have gR:∀t,Code.eH (.seq (.region id ops false) (.seq L bM)) t=false->o3 ops t=false/\Code.eH L t=false/\Code.eH bM t=false:=fun t au=>by
  simp only[Code.eH,aq1]at au;exact⟨au.1,au.2.1,au.2.2⟩
 refine wp_seq (wp_region ?_);rw[n8];refine BT (l2:=[4,5]) (fun ex a1 w1 b6=>⟨b6.1, ?_⟩) [0,1,2,3] a w dH;obtain⟨_,⟨gk,cR,eE,⟨n,e9,hM,xR,ni,oI,AR,fM⟩,eR,rL⟩,Ih,Et⟩:=b6;have amE:a1.eval (.tmp sa)= .int .i64 n:=iS (e9▸eA eR.en (.tmp sa))
 have Uc:=run_make (P:=P) w1 lU kB g _ hu hi bq .i64 .i64 n n hM (Int.le_refl _) (by
  have:(g.bytes:Int)*n<=100*n:=Int.mul_le_mul_of_nonneg_right (by omega) hM
  omega) (by omega)
 rw[bh,ao6]at Uc;have dE:=(show py a1 gk.length fun t=>a1.eval (.tmp t)from⟨eR.en.size,eR.hN,fun _=>rfl⟩).put oI (.slice (some ⟨w1.heap.size,0,none⟩) n.toNat n.toNat);have cX:=dE.at_ (t:=d4) (aoy rfl);rw[wpOps_cons];refine oS jJ (fun o aF=> ?_) (v:= .slice (some ⟨w1.heap.size,0,none⟩) n.toNat n.toNat) (w':=w1.alloc (.cells (madeCells (Value.slice none 0 0).cells n.toNat) kB)) ?_
 ·unfold execOp;rw[aF];simp[amE,Uc]
 have ph:=dE.put AR (.slice (some ⟨w1.heap.size,0,none⟩) n.toNat n.toNat);rw[wpOps_cons];refine oS h_ (fun o aF=> ?_) (v:= .slice (some ⟨w1.heap.size,0,none⟩) n.toNat n.toNat) (w':=w1.alloc (.cells (madeCells (Value.slice none 0 0).cells n.toNat) kB)) ?_
 ·unfold execOp;rw[aF];show Result.ok (Next.value (Act.eval _ (.tmp d4))) _=_;rw[cX]
 show wpOps P ops _ [] _ _;generalize kW:(a1.put (some d4) (.slice (some ⟨w1.heap.size,0,none⟩) n.toNat n.toNat)).put (some dF) (.slice (some ⟨w1.heap.size,0,none⟩) n.toNat n.toNat)=a2 at ph⊢;show Code.wp P (L.seq bM) _ a2 _
 have iN:∀x,x<w1.heap.size->(w1.alloc (.cells (madeCells (Value.slice none 0 0).cells n.toNat) kB)).heap[x]? =w1.heap[x]? :=fun x ai=>(World.grownBy_alloc w1 _ none).block x ai (by simp)
 have rr:(w1.alloc (.cells (madeCells (Value.slice none 0 0).cells n.toNat) kB)).heap[w1.heap.size]? =some (.cells (madeCells (Value.slice none 0 0).cells n.toNat) kB (0,0)):=heap_alloc_new w1 _;have agF:(w1.alloc (.cells (madeCells (Value.slice none 0 0).cells n.toNat) kB)).heap.size=w1.heap.size+1:=by simp
 have r0:(w1.alloc (.cells (madeCells (Value.slice none 0 0).cells n.toNat) kB)).os=w1.os/\(w1.alloc (.cells (madeCells (Value.slice none 0 0).cells n.toNat) kB)).tape=w1.tape/\(w1.alloc (.cells (madeCells (Value.slice none 0 0).cells n.toNat) kB)).output=w1.output:=⟨rfl,rfl,rfl⟩;generalize w1.alloc (.cells (madeCells (Value.slice none 0 0).cells n.toNat) kB)=db at iN rr agF r0⊢;have aky:(madeCells (Value.slice none 0 0).cells n.toNat).size=n.toNat:=size_madeCells _ _
 have J8:∀i,i<n.toNat->(madeCells (Value.slice none 0 0).cells n.toNat).getD i undef= .slice none 0 0:=fun i hi=>by
  have aA:=Ht (Value.slice none 0 0).cells n.toNat i hi;rw[aoH,aA];simp[Value.cells,Nat.mod_one]
 have xm:=eR.eO
 have akz:s4 N (fun x=>x=w1.heap.size) ρ S.I w dF w1.heap.size e ak (List.replicate n.toNat []) eE ⟨cQ (cQ gk d4 .any) dF .any,cR⟩ a2 db:=by
  have cx:Fr eE cR w1 eE cR db:=⟨r0.1,r0.2.1,r0.2.2,by omega,fun x ai _=>iN x ai,fun x ai=> .inl ai⟩
  have s1:eC N eE (cQ (cQ gk d4 .any) dF .any) cR a2 w1:=⟨xm,⟨by rw[ph.1,eI,eI];simp,fun t=>by
   rw[eI,eI,eu,eu];split
   ·exact .c3 trivial
   split
   ·exact .c3 trivial
   rename_i q1 cE;rw[ph.2.2 t];simp only[aox fun x=>q1 ⟨x,by simpa using AR⟩,aox fun x=>cE ⟨x,oI⟩]
   exact eR.en.at_ t⟩,ph.2.1⟩
  refine⟨s1.I8 (by omega) (fun x ai _=>iN x ai) (fun x ai h=>h.elim (fun h=>h) fun aA=>by omega) (fun x h=>h.elim (fun h=>by have:=xm.fc x h;omega) fun aA=>by omega),rL.trans cx,
   ⟨_,kB,fun x ai=>by rw[ai];exact rL.size,rfl,rr,by rw[aky];simp,fun i hi=> ?_,fun i x hi ai=> ?_,fun i j x hi aI ai=> ?_⟩, ?_⟩
  ·rw[aql]at hi;rw[J8 i hi];have:(List.replicate n.toNat ([]:List (List R))).getD i []=[]:=by simp[aoA,hi]
   rw[this];exact⟨[],World.ownsRow_nil _ _ _ _,fun r j an=>by simp at an⟩
  ·rw[aql]at hi;rw[J8 i hi]at ai;cases ai
  ·rw[aql]at hi;rw[J8 i hi]at ai;cases ai
  ·rw[aql,ph.2.2 dF];exact aoy rfl
 have j3:∀t,o3 ops t=false->a2.tmps.getD t undef=a.tmps.getD t undef:=fun t au=>by
  obtain⟨o,cH,cz,_⟩:=jJ;obtain⟨cc,oD,pC,_⟩:=h_;have q1:=BH cH au;have cE:=BH oD au;rw[ph.2.2 t];simp only[aox (show ¬dF=t from fun x=>cE (x▸pC)),aox (show ¬d4=t from fun x=>q1 (x▸cz))];exact Ih t au
 refine wp_seq (wp_mono (fM N _ ρ S.I w w1.heap.size eE a2 db akz) fun ex a3 bX b6=> ?_);obtain⟨b_,S',iv,hL,ρ',rfl,a6,bj,bH,dO,_⟩:=b6
 cases b_ with
 |normal=>
  obtain⟨dI,fT,fZ,hV⟩:=a6;obtain⟨g1,g2⟩:=bj.qj.leads fZ;have an:=bj.step (S':=⟨dI,[]⟩) g1 g2 rfl;obtain⟨aH,fa,av⟩:=an.nest
  have agG:∀x,N x->x<w.heap.size:=ay.eO.fc
  have g3:=an.qj.I8 (N2:=N) (w':=bX) (aoE _) (fun _ _ _=>rfl) (fun x _ h=> .inl h) fun x h=>an.qj.eO.fc x (.inl h)
  have fJ:=av.reads (Z':=aN N [] []) kg (fun x ai bq=>bq.elim (fun h=>by have:=av.low x ai;have:=agG x h;omega) fun⟨i,aw,aA,_⟩=>by simp at aA)
   fun x u ai=>ai.mono fun b _ ag=>⟨rfl,fun bq=>ag (bq.elim (fun h=> .inl (.inl h)) fun⟨i,aw,aA,_⟩=>by simp at aA)⟩
  have g4:eC N [] (cQ dI dF (.d (.ar 1 (iv.map fun l=>[.ar ak l])))) [] a3 bX:=⟨g3.eO,⟨by rw[eI,aoI];exact g3.en.size,fun t=>by
   rw[eI,eu];split
   ·rename_i q;rw[<-q.1,an.slot];exact .c3 fJ
   ·exact g3.en.at_ t⟩,g3.hN⟩
  refine wp_mono (hV N a3 bX [] g4) fun ex a4 j_ b6=> ?_;obtain⟨J5,rfl,aE⟩:=b6;exact⟨J5,rfl,aE.weaken an.AU (fun t au=>⟨(gR t au).2.2,(bH t (gR t au).2.1).trans (j3 t (gR t au).1)⟩) (dO.trans (ph.1.trans (eR.en.size.symm.trans Et))) fun _ _ h=>h⟩
 |exit i=>exact a6.elim
 |goto i=>exact a6.elim
 |ret=>exact a6.elim
end Go.al
end
section
namespace Go.al
structure jO (P:Program)(f:Nat)where
 om:gw
 s:yp P f om
 o:hv om
 k:Nat
 t1:k=1->IT om
 t2:k=2->It om
abbrev r1 (P:Program):=List ((f:Nat)×jO P f)
def rq {P:Program}:r1 P->List Nat
 |[]=>[]
 |s::r=>s.1::rq r
def sK {P:Program}:r1 P->List (Nat×gw)
 |[]=>[]
 |s::r=>(s.1,s.2.om)::sK r
def p6 {P:Program}(k:Nat):r1 P->List Nat
 |[]=>[]
 |s::r=>match Nat.beq s.2.k k with|true=>s.1::p6 k r|false=>p6 k r
def b0 {P:Program}(tys:List (Nat×b7))(L:r1 P)(uH meets:List (Nat×Head)):bw:=
 {tys:=tys,cons:=sK L,data:=p6 1 L,fresh:=p6 2 L,uH:=uH,meets:=meets}
def agH (tys:List (Nat×b7))(t:TypeId):b7:=match fu t tys with|some i=>i|none=>{ty:= .no}
def Se (P:Program)(tys:List (Nat×b7)):Bool:=eg (fun p=>match c1 P p.1 p.2 with|true=>pZ P (agH tys) p.1|false=>false) tys
def wS:List Nat->Bool
 |[]=>true
 |x::r=>match qb x r with|true=>false|false=>wS r
theorem N4 {P:Program}:∀{L:r1 P} {p:Nat×gw},p∈sK L->yp P p.1 p.2/\hv p.2
 |[],_,h=>by cases h
 |s::r,p,h=>by
  rcases ao7.1 h with rfl|h
  ·exact⟨s.2.s,s.2.o⟩
  ·exact N4 h
theorem N5 {P:Program}{k:Nat}:∀{L:r1 P} {f:Nat},f∈p6 k L->wS (rq L)=true->∃s:jO P f,s.k=k/\fu f (sK L)=some s.om
 |[],_,h,_=>by cases h
 |s::r,f,h,av=>by
  have an:wS (rq r)=true/\qb s.1 (rq r)=false:=by
   unfold rq wS at av;split at av
   ·cases av
   ·rename_i aa;exact⟨av,aa⟩
  have sub:∀{L:r1 P} {g:Nat},g∈p6 k L->g∈rq L:=fun{L g}=>by
   induction L with
   |nil=>exact fun h=>by cases h
   |cons a b bF=>
    intro h;unfold p6 at h;unfold rq;split at h
    ·rcases ao7.1 h with rfl|h
     ·simp
     ·exact apQ _ (bF h)
    ·exact apQ _ (bF h)
  have tail:f∈p6 k r->∃t:jO P f,t.k=k/\fu f (sK (s::r))=some t.om:=fun h=>by
   obtain⟨t,U,aa⟩:=N5 h an.1
   have ne:Nat.beq s.1 f=false:=by
    cases ag:Nat.beq s.1 f with
    |false=>rfl
    |true=>
     obtain rfl:=aoz ag;have:=wi.2 (sub h);rw[an.2]at this;cases this
   exact⟨t,U,by unfold sK fu;rw[ne];exact aa⟩
  unfold p6 at h;split at h
  ·rename_i ae;rcases ao7.1 h with rfl|h
   ·exact⟨s.2,aoz ae,by unfold sK fu;rw[apz]⟩
   ·exact tail h
  ·exact tail h
theorem DJ {P:Program}{tys:List (Nat×b7)}{L:r1 P}{uH meets:List (Nat×Head)}(U:Se P tys=true)(aW:wS (rq L)=true)(az:P.follows .mixedOrders=true):gA P (b0 tys L uH meets):=by
 have key:∀{k f},f∈p6 k L->∃s:jO P f,s.k=k/\(b0 tys L uH meets).bx f=s.om:=fun{k f} h=>by
  obtain⟨s,U,aa⟩:=N5 h aW;refine⟨s,U, ?_⟩;show(match fu f (sK L)with|some c=>c|none=>RR)=s.om;rw[aa]
 refine .of U (fun p aE=>N4 aE) az (fun f aU=> ?_) fun f aU=> ?_
 ·obtain⟨s,aA,aL⟩:=key aU;rw[aL];exact s.t1 aA
 ·obtain⟨s,aA,aL⟩:=key aU;rw[aL];exact s.t2 aA
abbrev bT:a7:= .aB (.int .i64)
abbrev dk:a7:= .aB (.cu .u32)
abbrev iy:a7:= .aB .bool
abbrev c_:a7:= .aB (.dB 11)
abbrev Kz:a7:= .aB .str
abbrev fH:a7:= .aB .other
abbrev e4:a7:= .struct [] [.bool, .cu .u32, .cu .u32]
structure cr (P:Program)(f:Nat)(ps:List a7)(T:List J->(J->Prop)->Prop):Prop where
 s:ie P f (iB ps T)
 o:k0 T
structure pJ (P:Program)(f:Nat)(ps:List a7)(T:List J->(J->Prop)->Prop):Prop where
 s:ie P f (nj ps T)
 o:k0 T
structure qG (P:Program)(f:Nat)(ps:List a7)(T:List J->(af->Prop)->Prop):Prop where
 s:ie P f (pU ps T)
 o:nC T
structure vK (P:Program)(f:Nat)(ps:List a7)(T:List J->(af->Prop)->Prop):Prop where
 s:ie P f (uD ps T)
 o:nC T
structure gW (P:Program)(f:Nat)(ps:List a7)(T:J->af->List J->(af->J->Prop)->Prop):Prop where
 s:ie P f (n1 ps T)
 o:kr T
structure hY (P:Program)(f n:Nat)(ps:List a7)(T:J->af->List J->(af->J->Prop)->Prop):Prop where
 s:ie P f (l6 n ps T)
 o:kr T
structure vL (P:Program)(f:Nat)(ps:List a7)(T:af->List J->(af->Prop)->Prop):Prop where
 s:ie P f (uw ps T)
 o:xA T
structure A3 (P:Program)(f:Nat)(ps:List a7)(T:List J->(J->Prop)->Prop):Prop where
 s:Pj P f (iB ps T)
 o:k0 T
section
variable {P:Program} {f:Nat} {ps:List a7}
def cr.d {T:List J->(J->Prop)->Prop}(h:cr P f ps T):jO P f:=⟨iB ps T, .inl h.s,ND h.o,1,fun _=> .inl ⟨ps,T,h.o,rfl⟩,nofun⟩
def cr.n {T:List J->(J->Prop)->Prop}(h:cr P f ps T):jO P f:=cr.d (T:=named T) ⟨by rw[BZ];exact h.s,HD h.o⟩
def A3.d {T:List J->(J->Prop)->Prop}(h:A3 P f ps T):jO P f:=⟨iB ps T, .inr h.s,ND h.o,1,fun _=> .inl ⟨ps,T,h.o,rfl⟩,nofun⟩
def A3.n {T:List J->(J->Prop)->Prop}(h:A3 P f ps T):jO P f:=A3.d (T:=named T) ⟨by rw[BZ];exact h.s,HD h.o⟩
def pJ.d {T:List J->(J->Prop)->Prop}(h:pJ P f ps T):jO P f:=⟨nj ps T, .inl h.s,YF h.o,1,fun _=> .inr (.inr ⟨ps,T,h.o,rfl⟩),nofun⟩
def pJ.n {T:List J->(J->Prop)->Prop}(h:pJ P f ps T):jO P f:=pJ.d (T:=named T) ⟨by rw[BZ];exact h.s,aaf h.o⟩
def qG.d {T:List J->(af->Prop)->Prop}(h:qG P f ps T):jO P f:=⟨pU ps T, .inl h.s,XR h.o,2,nofun,fun _=>⟨ps,T,h.o,rfl⟩⟩
def qG.n {T:List J->(af->Prop)->Prop}(h:qG P f ps T):jO P f:=qG.d (T:=C9 T) ⟨by rw[Ou];exact h.s,aab h.o⟩
def vK.d {T:List J->(af->Prop)->Prop}(h:vK P f ps T):jO P f:=⟨uD ps T, .inl h.s,aac h.o,0,nofun,nofun⟩
def vK.n {T:List J->(af->Prop)->Prop}(h:vK P f ps T):jO P f:=vK.d (T:=C_ T) ⟨by rw[Ov];exact h.s,aae h.o⟩
def gW.d {T:J->af->List J->(af->J->Prop)->Prop}(h:gW P f ps T):jO P f:=⟨n1 ps T, .inl h.s,YD h.o,1,fun _=> .inr (.inl ⟨ps,T,h.o,rfl⟩),nofun⟩
def gW.n {T:J->af->List J->(af->J->Prop)->Prop}(h:gW P f ps T):jO P f:=gW.d (T:=yW T) ⟨by rw[Hf];exact h.s,Ow h.o⟩
def hY.d {n:Nat}{T:J->af->List J->(af->J->Prop)->Prop}(h:hY P f n ps T):jO P f:=⟨l6 n ps T, .inl h.s,Xc h.o,0,nofun,nofun⟩
def hY.n {m:Nat}{T:J->af->List J->(af->J->Prop)->Prop}(h:hY P f m ps T):jO P f:=hY.d (n:=m) (T:=yW T) ⟨by rw[Hf];exact h.s,Ow h.o⟩
def vL.d {T:af->List J->(af->Prop)->Prop}(h:vL P f ps T):jO P f:=⟨uw ps T, .inl h.s,YH h.o,0,nofun,nofun⟩
def vL.n {T:af->List J->(af->Prop)->Prop}(h:vL P f ps T):jO P f:=vL.d (T:=Dr T) ⟨by rw[Ox];exact h.s,aag h.o⟩
structure oL (p:Prop):Prop where
 h:p
theorem cM (E:bw)(cW:gA P E)(fn:Func)(rvs:List ResultVar)(ts:List a7){T:List J->(J->Prop)->Prop}(o:k0 T)(gg:∀args K,T args K->oL (mQ E fn.ntmps rvs (fn.body.getD .skip) args [] (mm ts K)))
 (aU:P.funcs[f]? =some fn:=by kernel_rfl) (ag:fn.body=some (fn.body.getD .skip):=by kernel_rfl) (av:(fn.name== "runtime.NumGoroutine")=false:=by kernel_rfl) (an:fn.results=rvs.toArray:=by kernel_rfl) (gJ:ts.length=rvs.length:=by kernel_rfl):cr P f ps T:=
 ⟨YC E cW aU ag av an gJ (fun args K h=>(gg args K h).h),o⟩
theorem Av (E:bw)(cW:gA P E)(fn:Func)(rvs:List ResultVar){T:List J->(J->Prop)->Prop}(o:k0 T)(gg:∀args K,T args K->oL (mQ E fn.ntmps rvs (fn.body.getD .skip) args [] (Iw K)))
 (aU:P.funcs[f]? =some fn:=by kernel_rfl) (ag:fn.body=some (fn.body.getD .skip):=by kernel_rfl) (av:(fn.name== "runtime.NumGoroutine")=false:=by kernel_rfl) (an:fn.results=rvs.toArray:=by kernel_rfl):pJ P f ps T:=
 ⟨YG E cW aU ag av an (fun args K h=>(gg args K h).h),o⟩
theorem FL (E:bw)(cW:gA P E)(fn:Func)(r:Tmp)(t:a7){T:List J->(af->Prop)->Prop}(o:nC T)(gg:∀args K,T args K->oL (mQ E fn.ntmps [.tmp r] (fn.body.getD .skip) args [] (C7 t K)))
 (aU:P.funcs[f]? =some fn:=by kernel_rfl) (ag:fn.body=some (fn.body.getD .skip):=by kernel_rfl) (av:(fn.name== "runtime.NumGoroutine")=false:=by kernel_rfl) (an:fn.results=[ResultVar.tmp r].toArray:=by kernel_rfl):qG P f ps T:=
 ⟨XS E cW aU ag av an (fun args K h=>(gg args K h).h),o⟩
theorem akA (E:bw)(cW:gA P E)(fn:Func)(r:Tmp){T:List J->(af->Prop)->Prop}(o:nC T)(gg:∀args K,T args K->oL (mQ E fn.ntmps [.tmp r] (fn.body.getD .skip) args [] (ED K)))
 (aU:P.funcs[f]? =some fn:=by kernel_rfl) (ag:fn.body=some (fn.body.getD .skip):=by kernel_rfl) (av:(fn.name== "runtime.NumGoroutine")=false:=by kernel_rfl) (an:fn.results=[ResultVar.tmp r].toArray:=by kernel_rfl):vK P f ps T:=
 ⟨aad E cW aU ag av an (fun args K h=>(gg args K h).h),o⟩
theorem h6 (E:bw)(cW:gA P E)(fn:Func)(rvs:List ResultVar)(ts:List a7){T:J->af->List J->(af->J->Prop)->Prop}(o:kr T)(gg:∀a0 ob args K,T a0 ob args K->oL (Cw E fn.ntmps rvs (fn.body.getD .skip) a0 ob args ts K))
 (aU:P.funcs[f]? =some fn:=by kernel_rfl) (ag:fn.body=some (fn.body.getD .skip):=by kernel_rfl) (av:(fn.name== "runtime.NumGoroutine")=false:=by kernel_rfl) (an:fn.results=rvs.toArray:=by kernel_rfl) (bc:Code.eH (fn.body.getD .skip) 0=false:=by kernel_rfl) (gJ:ts.length=rvs.length:=by kernel_rfl):gW P f ps T:=
 ⟨YE E cW aU ag av an bc gJ (fun a o args K h=>(gg a o args K h).h),o⟩
theorem oA (n:Nat)(E:bw)(cW:gA P E)(fn:Func)(rvs:List ResultVar)(ts:List a7){T:J->af->List J->(af->J->Prop)->Prop}(o:kr T)(gg:∀a0 ob args K,T a0 ob args K->oL (yf n E fn.ntmps rvs (fn.body.getD .skip) a0 ob args ts K))
 (aU:P.funcs[f]? =some fn:=by kernel_rfl) (ag:fn.body=some (fn.body.getD .skip):=by kernel_rfl) (av:(fn.name== "runtime.NumGoroutine")=false:=by kernel_rfl) (an:fn.results=rvs.toArray:=by kernel_rfl) (bc:Code.eH (fn.body.getD .skip) n=false:=by kernel_rfl) (gJ:ts.length=rvs.length:=by kernel_rfl) (j2:n<=ps.length:=by decide):hY P f n ps T:=
 ⟨MN n E cW aU ag av an bc gJ (fun a o args K h=>(gg a o args K h).h) j2,o⟩
theorem akB (E:bw)(cW:gA P E)(fn:Func)(r:Tmp){T:af->List J->(af->Prop)->Prop}(o:xA T)(gg:∀cb args K,T cb args K->oL (mQ E fn.ntmps [.tmp r] (fn.body.getD .skip) (.vec 0::args) [(false,cb)] (D5 K)))
 (aU:P.funcs[f]? =some fn:=by kernel_rfl) (ag:fn.body=some (fn.body.getD .skip):=by kernel_rfl) (av:(fn.name== "runtime.NumGoroutine")=false:=by kernel_rfl) (an:fn.results=[ResultVar.tmp r].toArray:=by kernel_rfl):vL P f ps T:=
 ⟨YI E cW aU ag av an fun ak l args K h=>(gg (.ar ak l) args K h).h,o⟩
theorem cB {E:bw}{n:Nat}{rvs:List ResultVar}{c:Code}{args:List J}{I:aD}{K:J->aD->Prop}{Q:Prop}(h:mQ E n rvs c args I K=Q)(q:Q):oL (mQ E n rvs c args I K):=⟨h▸q⟩
theorem n7 {m:Nat}{E:bw}{n:Nat}{rvs:List ResultVar}{c:Code}{a0:J}{ob:af}{args:List J}{ts:List a7}{K:af->J->Prop}{Q:Prop}(h:yf m E n rvs c a0 ob args ts K=Q)(q:Q):oL (yf m E n rvs c a0 ob args ts K):=⟨h▸q⟩
theorem hZ {E:bw}{n:Nat}{rvs:List ResultVar}{c:Code}{a0:J}{ob:af}{args:List J}{ts:List a7}{K:af->J->Prop}{Q:Prop}(h:Cw E n rvs c a0 ob args ts K=Q)(q:Q):oL (Cw E n rvs c a0 ob args ts K):=⟨h▸q⟩
end
end Go.al
end
section
namespace Go.al
structure qa where
 Ud:Nat
 s:Nat
 dF:Nat
 kA:Nat
 gn:Nat
 sa:Nat
 d4:Nat
 lU:TypeId
 gp:TypeId
 qF:TypeId
 ak:Nat
abbrev sb:=List (List (List R))
def DK:List J->List J
 |[]=>[]
 |v::r=>(match v.plain with|true=>v|false=> .any)::DK r
def RP (E:bw)(X:qa)(S:e2)(ls:sb)(K:hd->e2->sb->Prop):Prop:=
 match aY S.tm (.tmp X.kA),hR (E.tb X.qF).ty (aY S.tm (.tmp X.gn)) S.I,Nat.ble (Nat.add X.s 10) (bU S.tm)with
 | .d (.int .i64 k), .aZ tN v6 _,true=>
  (match hs S.I X.ak (E.tb X.gp).fz 1 [(0,v6)]with
  |some [row]=>gC tN (0<=k/\k<(ls.length:Int)/\(((ls.getD k.toNat []).length:Int)+1)*(E.tb X.gp).bytes<=70368744177664/\K .normal ⟨s5 X.s 10 S.tm,eM S.I [(false, .ar X.ak [row])]⟩ (ls.set k.toNat (ls.getD k.toNat []++[row])))
  |_=>False)
 |_,_,_=>False
def pz (E:bw)(X:qa):Code->Nat->e2->sb->(hd->e2->sb->Prop)->Prop
 | .seq a b,bu,S,ls,K=>
  match Rc E.RS (HO a)with
  |none=>pz E X a bu S ls fun e S' l=>match e with| .normal=>pz E X b bu S' l K|e=>K e S' l
  |some _=>False
 | .block id c,_,S,ls,K=>pz E X c id S ls fun e S' l=>match e with| .exit i=>(match Nat.beq i id with|true=>K .normal S' l|false=>K (.exit i) S' l)|e=>K e S' l
 | .loop c,bu,S,ls,K=>
  let h:=E.loops bu
  let e_:=iA h.conv S
  ∃aK:h4 h.ps (sb->Prop),∃m:h4 h.ps (sb->Nat),pS (fun _=>false) h e_ e_ (fun y=>h4.app h.ps aK y ls)/\
   y3 h.ps fun x=>∀l:sb,h4.app h.ps aK x l->pz E X c bu (ly h e_ x) l fun e S' ch=>
    match e with
    | .normal=>pS (Code.eH c) h e_ (mO h.conv S') fun y=>h4.app h.ps aK y ch/\h4.app h.ps m y ch<h4.app h.ps m x l
    |e=>K e S' ch
 | .region id ops draw,bu,S,ls,K=>
  (match Nat.beq id X.Ud with
  |true=>RP E X S ls K
  |false=>(match Code.eH (.region id ops draw) X.dF with|false=>gQ E (.region id ops draw) bu S fun e S'=>K e S' ls|true=>False))
 | .cond c a b,bu,S,ls,K=>(match Code.eH (.cond c a b) X.dF with|false=>gQ E (.cond c a b) bu S fun e S'=>K e S' ls|true=>False)
 |_,_,_,_,_=>False
def uE (X:qa):Code->Prop
 | .seq a b=>uE X a/\uE X b
 | .block _ c=>uE X c
 | .loop c=>uE X c
 | .region id ops draw=>(match Nat.beq id X.Ud with|true=>draw=true/\Q1 ops X.s X.dF X.kA X.gn X.lU X.gp X.qF|false=>True)
 |_=>True
structure Is (P:Program)(E:bw)(X:qa)(e:TypeId):Prop where
 J6:(E.tb X.lU).ty= .aB (.dB 1)
 h7:(E.tb X.gp).ty= .aB (.dB X.ak)
 At:P.underlying X.gp=some (.slice e)
 a8:X.dF<X.s/\X.kA<X.s/\X.gn<X.s
 cq:X.ak<=65536
 nz:Nat.blt 0 (E.tb X.gp).bytes=true
theorem aa0 {P:Program}(E:bw)(cW:gA P E)(X:qa){e:TypeId}(ic:Is P E X e)(c:Code):uE X c->∀(bu:Nat) (S:e2) (ls:sb) (K:hd->e2->sb->Prop),pz E X c bu S ls K->hD P X.dF e X.ak c S ls K:=by
 induction c with
 |seq a b akC akD=>
  intro av bu S ls K h;unfold pz at h;split at h
  ·refine hD.seq (hD.mono (akC av.1 bu S ls _ h) fun ex S' l h=> ?_)
   cases ex with
   |normal=>exact akD av.2 bu S' l K h
   |_=>exact h
  ·exact h.elim
 |block id c bF=>
  intro av bu S ls K h;unfold pz at h;refine hD.block (hD.mono (bF av id S ls _ h) fun ex S' l h=> ?_)
  cases ex with
  |exit i=>
   simp only at h⊢
   by_cases e:i=id
   ·subst e;rw[aoy rfl];simpa using h
   ·have:Nat.beq i id=false:=by cases ag:Nat.beq i id with|false=>rfl|true=>exact absurd (aoz ag) e
    rw[aox e];simpa[this]using h
  |_=>exact h
 |loop c bF=>
  intro av bu S ls K h;unfold pz at h;obtain⟨aK,m,bc,U⟩:=h;refine hD.loop E (bu:=bu) (h4.app _ aK) (h4.app _ m) bc fun x l fs=>bF av bu _ l _ ?_;exact BJ _ _ U x l fs
 |region id ops draw=>
  intro av bu S ls K h;unfold pz at h;unfold uE at av;split at h
  ·rename_i dJ;rw[dJ]at av;obtain⟨rfl,av⟩:=av;unfold RP at h;split at h
   ·rename_i k tN v6 aj U aa az;split at h
    ·rename_i row aW;rw[gY]at h;obtain⟨g0,g1,g2,g3,g4⟩:=h;have hlen:X.s+10<=S.tm.length:=by have:=aoY az;rwa [cG]at this
     have e7:aj=S.I:=by
      rcases GI (E.tb X.qF).ty (aY S.tm (.tmp X.gn)) S.I with q|⟨s,v,q⟩<;>rw[q]at aa<;>cases aa
      rfl
     rw[e7]at aa;rw[fV]at g4
     have ag:((ls.getD k.toNat []).length+1)*(E.tb X.gp).bytes<=140737488355328:=by
      have:(((ls.getD k.toNat []).length+1:Nat)*(E.tb X.gp).bytes:Int)<=70368744177664:=by simpa using g3
      have:(((ls.getD k.toNat []).length+1)*(E.tb X.gp).bytes:Nat)<=(70368744177664:Int):=by simpa using this
      omega
     exact hD.append E cW av ic.J6 ic.h7 ic.At hlen ic.a8 U g1 g2 aa g0 aW ic.cq (aoY ic.nz) ag g4
    ·exact h.elim
   ·exact h.elim
  ·split at h
   ·rename_i aR;exact hD.of (iM.of E cW h) aR
   ·exact h.elim
 |cond c a b=>
  intro av bu S ls K h;unfold pz at h;split at h
  ·rename_i aR;exact hD.of (iM.of E cW h) aR
  ·exact h.elim
 |_=>intro _ _ _ _ _ h;exact h.elim
theorem MV:∀l:List J,leads l (DK l)
 |[]=>trivial
 |v::r=>⟨by
  show(match v.plain with|true=>v|false=> .any)= .any\/_;split
  ·rename_i h;exact .inr ⟨by simp[h],by simp[h]⟩
  ·exact .inl rfl,MV r⟩
theorem N6:∀l:List J,(DK l).length=l.length
 |[]=>rfl
 |v::r=>apb (·+1) (N6 r)
def zh (E:bw)(X:qa)(ntmps:Nat)(rvs:List ResultVar)(c:Code)(args:List J)(K:J->aD->Prop):Prop:=
 match c with
 | .seq AS (.seq (.region _ ops false) (.seq L bM))=>gQ E AS 1000000 ⟨pad ntmps args,[]⟩ fun ex S=>
  match ex with
  | .normal=>dw E.tb E.bx [] ops.toList (bE (fun i=>b8 default ops.toList i) [0,1,2,3]) S.tm S.I fun tm I=>
   (match aY tm (.tmp X.sa),Nat.blt X.d4 (bU tm),Nat.blt X.dF (bU tm)with
   | .d (.int .i64 n),true,true=>0<=n/\n<=1000000000/\pz E X L 1000000 ⟨cQ (cQ tm X.d4 .any) X.dF .any,I⟩ (List.replicate n.toNat []) fun ex S' l=>
    (match ex,Nat.blt X.dF (bU S'.tm)with
    | .normal,true=>gQ E bM 1000000 ⟨cQ (DK S'.tm) X.dF (.d (.ar 1 (l.map fun l=>[.ar X.ak l]))),[]⟩ (EB E rvs K)
    |_,_=>False)
   |_,_,_=>False)
  |_=>False
 |_=>False
def IG (P:Program)(X:qa):Code->Prop
 | .seq _ (.seq (.region _ ops false) (.seq L _))=>ops.size=6/\jY ops 4 (some X.d4) (.makeSlice X.lU (.tmp X.sa) (.tmp X.sa))/\jY ops 5 (some X.dF) (.assign (.tmp X.d4))/\uE X L/\X.d4≠X.dF/\
  ∃kB g,P.underlying X.lU=some (.slice kB)/\P.info? kB=some g/\g.zero=some (.slice none 0 0)/\g.size=1/\g.bytes<=100
 |_=>True
theorem X3 {P:Program}(E:bw)(cW:gA P E)(X:qa){e:TypeId}(ic:Is P E X e)(kg:0<X.ak){ntmps:Nat}{rvs:List ResultVar}{c:Code}(aC:IG P X c){args:List J}{K:J->aD->Prop}(h:zh E X ntmps rvs c args K):
 iM P c ⟨pad ntmps args,[]⟩ (EB E rvs K):=by
 unfold zh at h;split at h
 ·rename_i AS id ops L bM;obtain⟨e3,eY,j7,pD,pE,kB,g,tH,AX,r_,tS,akE⟩:=aC;refine iM.seq (iM.mono (iM.of E cW h) fun ex S h=> ?_)
  cases ex with
  |normal=>
   have ax:bE (fun i=>b8 default ops.toList i) [0,1,2,3]=[0,1,2,3].map fun i=>ops.toList.getD i default:=by rw[dM];simp only[dT]
   simp only[ax]at h;refine iM.nested E cW e3 eY j7 tH AX r_ tS pE (e:=e) kg (vT cW.ok (fun tm I b6=> ?_) _ _ _ h);split at b6
   ·rename_i n U aa az;obtain⟨g0,g1,g2⟩:=b6;have l2:X.d4<tm.length:=by have:=aoY aa;rw[cG]at this;exact this
    have l5:X.dF<tm.length:=by have:=aoY az;rw[cG]at this;exact this
    refine⟨n,U,g0,g1,akE,l2,l5,hD.mono (aa0 E cW X ic L pD _ _ _ _ g2) fun ex S' l b6=> ?_⟩;split at b6
    ·rename_i aW;have amF:X.dF<S'.tm.length:=by have:=aoY aW;rw[cG]at this;exact this
     exact⟨_,by rw[N6];exact amF,MV _,iM.of E cW b6⟩
    ·exact b6.elim
   ·exact b6.elim
  |_=>exact h.elim
 ·exact h.elim
theorem aeG {E:bw}{X:qa}{n:Nat}{rvs:List ResultVar}{c:Code}{args:List J}{K:J->aD->Prop}{Q:Prop}(h:zh E X n rvs c args K=Q)(q:Q):oL (zh E X n rvs c args K):=⟨h▸q⟩
theorem akF {P:Program}{f:Nat}{ps:List a7}(E:bw)(cW:gA P E)(X:qa)(fn:Func)(rvs:List ResultVar)(ts:List a7){e:TypeId}{T:List J->(J->Prop)->Prop}(o:k0 T)(ic:Is P E X e)(aC:IG P X (fn.body.getD .skip))
 (gg:∀args K,T args K->oL (zh E X fn.ntmps rvs (fn.body.getD .skip) args (mm ts K))) (kg:0<X.ak:=by decide)
 (aU:P.funcs[f]? =some fn:=by kernel_rfl) (ag:fn.body=some (fn.body.getD .skip):=by kernel_rfl) (av:(fn.name== "runtime.NumGoroutine")=false:=by kernel_rfl) (an:fn.results=rvs.toArray:=by kernel_rfl) (gJ:ts.length=rvs.length:=by kernel_rfl):cr P f ps T:=
 ⟨XP E cW aU ag av an gJ (fun args K h=>X3 E cW X ic kg aC (gg args K h).h),o⟩
end Go.al
end
section
namespace Go.al
open Go.RowKit Go.ChangeShapes Go.Deep
mutual
inductive Gi:Type where
 |int (k:IntKind)
 |bool
 |str
 |ad (k:IntKind)
 |ar (l:nd)
inductive nd:Type where
 |nil
 |cons (s:Gi) (r:nd)
end
def nd.app:nd->nd->nd
 | .nil,b=>b
 | .cons s r,b=> .cons s (nd.app r b)
def nd.len:nd->Nat
 | .nil=>0
 | .cons _ r=>Nat.succ (nd.len r)
mutual
def Gi.fits:Gi->R->Prop
 | .int k, .int cy x=>k=cy/\k.min<=x/\x<=k.max
 | .bool, .bool _=>True
 | .str, .str l=>l.length<=maxLen/\∀x∈l,0<=x/\x<256
 | .ad k, .ad cy l=>k=cy/\l.length<=maxLen/\∀x∈l,k.min<=x/\x<=k.max
 | .ar dK, .ar ak l=>ak=dK.len/\l.length<=maxLen/\∀r∈l,nd.fits dK r
 |_,_=>False
def nd.fits:nd->List R->Prop
 | .nil,[]=>True
 | .cons s dK,v::aH=>Gi.fits s v/\nd.fits dK aH
 |_,_=>False
end
def xJ (w:World)(J_:List R)(cs:List Value):Prop:=J_.length=cs.length/\∀i,i<J_.length->bB tv w (J_.getD i .undef) (cs.getD i undef)
theorem xJ.one {w:World}{x:R}{v:Value}(h:bB tv w x v):xJ w [x] [v]:=⟨rfl,fun i hi=>by
 cases i with
 |zero=>exact h
 |succ i=>simp at hi⟩
theorem xJ.app {w:World}{a b:List R}{c d:List Value}(h:xJ w a c)(k:xJ w b d):xJ w (a++b) (c++d):=by
 refine⟨by rw[ao0,ao0,h.1,k.1],fun i hi=> ?_⟩;rw[ao0]at hi;simp only[aoA]
 by_cases ax:i<a.length
 ·rw[apt ax,apt (by rw[<-h.1];exact ax)];have:=h.2 i ax;simpa only[aoA]using this
 ·rw[apJ (by omega),apJ (by rw[<-h.1];omega),<-h.1];have:=k.2 (i-a.length) (by omega);simpa only[aoA]using this
section
variable {H:Type} {enc:TypeId×Value->H} {P:Program} {w:World} {base:Nat} {spare:Nat->Bool} {held:Bool}
end
end Go.al
end
