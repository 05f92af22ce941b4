/- Helpers for the statements: conditions under which code does what is wanted, and proofs that they suffice. Condition: none. -/
import Derived.Test.YtmeonjefiioegaaGreatDoorA1
import Derived.Below
import Derived.ChangeSlices
import Derived.Shelf.Strings.Builder1
import Derived.Deep.AppendSrc
import Derived.Orders
import Derived.Deep.Slices
import Derived.ChangeArms
import Derived.OpenShut
section
namespace Go.ak
theorem NI {a:R}{ob:ae}(h:zx a ob=true):ob.plain=true:=by
 cases a<;>cases ob<;>first|rfl|exact h|cases h
theorem ZB {ps:List aZ}{T:R->ae->List R->(ae->R->Prop)->Prop}(h:kt T):hy (n_ ps T):=by
 refine⟨fun args I K K' ag bp=> ?_,fun args I K bp=> ?_⟩
 ·unfold n_ at bp⊢;split
  ·exact bp
  ·rename_i a0 br;simp only at bp;split
   ·rename_i he;rw[he]at bp;exact bp
   ·rename_i id he;rw[he]at bp;simp only at bp;split
    ·rename_i ab ad aA ba;rw[ab,ad,aA,ba]at bp;simp only at bp;rw[yD]at bp⊢;refine⟨bp.1,h.1 _ _ _ _ _ (fun o r aF=> ?_) bp.2⟩;split
     ·rename_i aR;rw[aR]at aF;exact ag _ _ aF
     ·rename_i aR;rw[aR]at aF;exact aF
    ·rename_i aj;split at bp
     ·rename_i ab ad aA ba;exact(aj ab ad aA ba).elim
     ·exact bp
 ·unfold n_ at bp;split at bp
  ·exact bp.elim
  ·split at bp
   ·exact bp.elim
   ·split at bp
    ·rw[yD]at bp;obtain⟨o,r,ao⟩:=h.2 _ _ _ _ bp.2;split at ao
     ·exact⟨_,_,ao⟩
     ·exact ao.elim
    ·exact bp.elim
theorem YQ {ps:List aZ}{T:R->ae->List R->(ae->R->Prop)->Prop}(h:kt T):hy (oY ps T):=by
 refine⟨fun args I K K' ag bp=> ?_,fun args I K bp=> ?_⟩
 ·unfold oY at bp⊢;split
  ·exact bp
  ·rename_i a0 br;simp only at bp;split
   ·rename_i he;rw[he]at bp;exact bp
   ·rename_i id he;rw[he]at bp;simp only at bp;split
    ·rename_i ab ad aA ba;rw[ab,ad,aA,ba]at bp;simp only at bp;refine h.1 _ _ _ _ _ (fun o r aF=> ?_) bp;split
     ·rename_i aR;rw[aR]at aF;exact ag _ _ aF
     ·rename_i aR;rw[aR]at aF;exact aF
    ·rename_i aj;split at bp
     ·rename_i ab ad aA ba;exact(aj ab ad aA ba).elim
     ·exact bp
 ·unfold oY at bp;split at bp
  ·exact bp.elim
  ·split at bp
   ·exact bp.elim
   ·split at bp
    ·obtain⟨o,r,ao⟩:=h.2 _ _ _ _ bp;split at ao
     ·exact⟨_,_,ao⟩
     ·exact ao.elim
    ·exact bp.elim
theorem Yc {n:Nat}{ps:List aZ}{T:R->ae->List R->(ae->R->Prop)->Prop}(h:kt T):hy (l6 n ps T):=by
 have bc:=YQ (ps:=ps) h;refine⟨fun args I K K' ag bp=> ?_,fun args I K bp=> ?_⟩
 ·unfold l6 at bp⊢;split
  ·rename_i ah;rw[ah]at bp;exact bc.1 _ _ _ _ ag bp
  ·rename_i ah;rw[ah]at bp;exact bp
 ·unfold l6 at bp;split at bp
  ·exact bc.2 _ _ _ bp
  ·exact bp.elim
def rm:Nat->R->List R->List R
 |0,a,l=>a::l
 |_+1,a,[]=>[a]
 |n+1,a,x::l=>x::rm n a l
theorem OB:∀(n:Nat) (a:R) (l:List R),n<=l.length->rm n a l=l.take n++a::l.drop n
 |0,a,l,_=>rfl
 |n+1,a,[],h=>by simp at h
 |n+1,a,x::l,h=>by
  show x::rm n a l=_;rw[OB n a l (by simpa using h)];rfl
def yR (n:Nat)(E:bA)(ntmps:Nat)(results:List ResultVar)(c:Code)(a0:R)(ob:ae)(br:List R)(ts:List aZ)(K:ae->R->Prop):Prop:=
 gT E c 1000000 ⟨pad ntmps (rm n a0 br),[(false,ob)]⟩ fun e S=>
  match e with
  | .normal| .ret=>
   (match qc E.tb S.tm S.I results with
   |true=>(match cz (b_ S.I (gZ E.tb S.tm S.I results)) 0,ae.plain (ae.at S.I 0),R.sU (b6 .un S.tm n) a0,sD ts (mb S.I ts (one (gZ E.tb S.tm S.I results)))with
    |false,true,true,true=>K (ae.at S.I 0) (mb S.I ts (one (gZ E.tb S.tm S.I results)))
    |_,_,_,_=>False)
   |false=>False)
  |_=>False
def C_ (E:bA)(ntmps:Nat)(results:List ResultVar)(c:Code)(a0:R)(ob:ae)(br:List R)(ts:List aZ)(K:ae->R->Prop):Prop:=
 gT E c 1000000 ⟨pad ntmps (a0::br),[(false,ob)]⟩ fun e S=>
  match e with
  | .normal| .ret=>
   (match qc E.tb S.tm S.I results with
   |true=>(match cz (b_ S.I (gZ E.tb S.tm S.I results)) 0,ae.plain (ae.at S.I 0),R.sU (b6 .un S.tm 0) a0,sD ts (mb S.I ts (one (gZ E.tb S.tm S.I results)))with
    |false,true,true,true=>K (ae.at S.I 0) (mb S.I ts (one (gZ E.tb S.tm S.I results)))
    |_,_,_,_=>False)
   |false=>False)
  |_=>False
section
variable {P:Program}
theorem Is (E:bA)(c3:gn P E)
 {f:FuncId} {fn:Func} {c:Code} (aU:P.funcs[f]? =some fn) (ah:fn.body=some c) {rvs:List ResultVar} (ao:fn.results=rvs.toArray)
 {N:Nat->Prop} {ρ:List Loc} {I:aD} {w:World} {args:List R} {cn:Array Value} {K:List R->aD->Prop}
 (h:gT E c 1000000 ⟨pad fn.ntmps args,I⟩ fun e S=>match e with| .normal| .ret=>(match qc E.tb S.tm S.I rvs with|true=>K S.tm S.I|false=>False)|_=>False) (aF:cw N ρ I w)
 (ax:args.length=cn.size) (aR:∀i,i<args.length->bH (aK N ρ I) w ρ I (args.getD i .un) (cn.getD i undef)):
 Calls P f cn w fun e w'=>∃(tm:List R) (al:aD) (ρ':List Loc) (a:Act) (aH:List Value),e= .returned (if rvs.length=1 then aH.getD 0 undef else .tuple aH.toArray)/\aH.length=rvs.length/\(gZ E.tb tm al rvs).length=rvs.length/\(∀i,bH (aK N ρ' al) w' ρ' al ((gZ E.tb tm al rvs).getD i .un) (aH.getD i undef))/\
  K tm al/\eA N ρ' tm al a w'/\Fr ρ I w ρ' al w'/\∀t,t<args.length->Code.eI c t=false->a.tmps.getD t undef=cn.getD t undef:=by
 refine calls_of_wp aU ah ?_
 have ay:eA N ρ (pad fn.ntmps args) I {tmps:=cn++Array.replicate (fn.ntmps-cn.size) undef,defers:=[]} w:=by
  refine⟨aF,⟨by rw[sW];simp[ax],fun t=> ?_⟩,rfl⟩;rw[sW]
  by_cases aw:t<args.length
  ·have az:(args++List.replicate (fn.ntmps-args.length) R.un).getD t .un=args.getD t .un:=by simp[apA,aqr aw]
   have aJ:(cn++Array.replicate (fn.ntmps-cn.size) undef).getD t undef=cn.getD t undef:=by simp[apH,ar2 (show t<cn.size by omega)]
   rw[az,aJ];exact aR t aw
  ·have az:(args++List.replicate (fn.ntmps-args.length) R.un).getD t .un= .un:=by
    rw[apA,aqG (by omega),aq3];split<;>rfl
   have aJ:(cn++Array.replicate (fn.ntmps-cn.size) undef).getD t undef=undef:=by
    rw[apH,Array.getElem?_append_right (by omega),Array.getElem?_replicate];split<;>rfl
   rw[az,aJ];exact bH.un
 refine wp_mono (HH E c3 c _ _ _ _ w ρ h ay) fun e cf w' b5=> ?_;obtain⟨cg,rfl,aE⟩:=b5;obtain⟨dL,al,ρ',aY,bj,bG⟩:=aE.ex
 have hold:∀t,t<args.length->Code.eI c t=false->cf.tmps.getD t undef=cn.getD t undef:=fun t aw aC=>by
  rw[aE.same t aC];simp[apH,ar2 (show t<cn.size by omega)]
 cases cg with
 |normal=>
  have ag:(match qc E.tb dL al rvs with|true=>K dL al|false=>False):=aY;split at ag;rotate_left
  ·exact ag.elim
  rename_i bh;obtain⟨aH,dX,dU,dR,mH⟩:=B9 E c3 ao bj (wE bh).1 (by rw[(wE bh).2];exact fun p aE=>absurd aE aqS);exact⟨bj.hP,_,dX,dL,al,ρ',cf,aH,rfl,dU,dR,mH,ag,bj,bG,hold⟩
 |ret=>
  have ag:(match qc E.tb dL al rvs with|true=>K dL al|false=>False):=aY;split at ag;rotate_left
  ·exact ag.elim
  rename_i bh;obtain⟨aH,dX,dU,dR,mH⟩:=B9 E c3 ao bj (wE bh).1 (by rw[(wE bh).2];exact fun p aE=>absurd aE aqS);exact⟨bj.hP,_,dX,dL,al,ρ',cf,aH,rfl,dU,dR,mH,ag,bj,bG,hold⟩
 |_=>exact aY.elim
theorem Po {N:Nat->Prop}{ρ:List Loc}{I:aD}{w:World}(bM:cw N ρ I w){rs:List R}{aH:List Value}{n:Nat}{ts:List aZ}(gU:ts.length=n)(de:rs.length=n)(l2:aH.length=n)
 (fs:∀i,bH (aK N ρ I) w ρ I (rs.getD i .un) (aH.getD i undef))
 (ji:sD ts (mb I ts (one rs))=true) {Z:Nat->Prop} {ρ':List Loc} {al:aD} (bm:∀b,Z b->aK N ρ (b_ I rs) b):
 bH Z w ρ' al (mb I ts (one rs)) (if n=1 then aH.getD 0 undef else .tuple aH.toArray):=by
 obtain⟨q1,cG,cV,gD⟩:=oS rs I bM
 have s_:∀x u,bB (aK N ρ (b_ I rs)) w x u->bB Z w x u:=fun x u aj=>aj.mono fun b _ aB=>⟨rfl,fun db=>aB (bm b db)⟩
 by_cases ab:n=1
 ·rw[apz ab]
  match rs,aH,ts,(by omega:rs.length=1),(by omega:aH.length=1),(by omega:ts.length=1)with
  |[x],[u],[t],_,_,_=>
   have aE:(t.norm I x).plain=true:=ji;exact .hn (oT aE (oU q1.rel cG t aE (q1.kd (fs 0)) fun id aO=>gD 0 id (by simp) aO) s_)
 ·rw[apy ab]
  have az:one rs= .tup rs:=by
   match rs,de with
   |[],_=>rfl
   |[x],de=>exact absurd de.symm ab
   |_::_::_,_=>rfl
  have aJ:∀l,mb I ts (.tup l)= .tup (aZ.eF I ts l):=fun l=>by
   match ts,gU with
   |[],_=>rfl
   |[x],gU=>exact absurd gU.symm ab
   |_::_::_,_=>rfl
  have bX:∀l,sD ts (.tup l)=ed R.plain l:=fun l=>by
   match ts,gU with
   |[],_=>rfl
   |[x],gU=>exact absurd gU.symm ab
   |_::_::_,_=>rfl
  rw[az,aJ]at ji⊢;rw[bX]at ji;have jx:=pZ I ts rs (by omega);refine⟨aH.toArray,rfl,by rw[jx];simp;omega,fun i hi=> ?_⟩;obtain⟨t,e⟩:=p0 I ts rs (by omega) i (by omega);have aE:=mR ji .un i hi;rw[e]at aE⊢;have:=oT (ρ':=ρ') (al:=al) aE (oU q1.rel cG t aE (q1.kd (fs i)) fun id aO=>gD i id (by omega) aO) s_;have cW:aH.toArray.getD i undef=aH.getD i undef:=by simp[apH,apA]
  rw[cW];exact this
theorem NJ {Z Z':Nat->Prop}{w w':World}{ρ ρ':List Loc}{I al:aD}{v:R}{u:Value}(aE:v.rv=true)(h:eJ Z w ρ I v u)(ao:∀x u,bB Z w x u->bB Z' w' x u):
 eJ Z' w' ρ' al v u:=h.mono ao fun _ aB=>(BV aE aB).elim
theorem wx {Z Z':Nat->Prop}{w w':World}{ρ ρ':List Loc}{I al:aD}{av:Loc}{ob:ae}(aE:ob.plain=true)(h:hS Z w ρ I av ob)
 (ah:∀b,av.bs=some b->w'.heap[b]? =w.heap[b]?) (ao:∀x u,bB Z w x u->bB Z' w' x u):hS Z' w' ρ' al av ob:=
 h.mono ah ao fun l ax k id ag aB=>by
  subst ax;exact(BV (mR aE .un k ag) aB).elim
theorem NK (n:Nat)(E:bA)(c3:gn P E)
 {f:FuncId} {fn:Func} {c:Code} (aU:P.funcs[f]? =some fn) (ah:fn.body=some c) (aB:(fn.name== "runtime.NumGoroutine")=false) {rvs:List ResultVar} (ao:fn.results=rvs.toArray)
 (bc:Code.eI c n=false) {ps ts:List aZ} (gU:ts.length=rvs.length) {T:R->ae->List R->(ae->R->Prop)->Prop}
 (fL:∀a0 ob args K,T a0 ob args K->yR n E fn.ntmps rvs c a0 ob args ts K) (j7:n<=ps.length):h1 P f (l6 n ps T):=by
 refine⟨⟨fn,aU,by rw[ah];rfl,aB⟩, ?_⟩;intro N ρ I w args cn K h aF ax aR;unfold l6 at h;split at h;rotate_left
 ·exact h.elim
 rename_i xA
 have k4:n<args.length:=by
  have:n+1<=bS args:=apZ xA;rw[cI]at this;omega
 unfold oY zy at h;have FX:bH (aK N ρ I) w ρ I (b6 .un args n) (cn.getD n undef):=by rw[dW];exact aR n k4
 have Sr:∀i,i<(ez (kR args n) (kQ args (Nat.succ n))).length->bH (aK N ρ I) w ρ I ((ez (kR args n) (kQ args (Nat.succ n))).getD i .un) (cn.getD (if i<n then i else i+1) undef):=fun i hi=>by
  rw[fC,lz,ly]at hi⊢;rw[apA,ap7];simp only[ap4,ap_,aqL]at hi⊢
  by_cases ff:i<n
  ·rw[apz (by omega),apz ff,aqq,apz ff,<-apA];exact aR i (by omega)
  ·rw[apy (by omega),apy ff,aq1,show n.succ+(i-min n args.length)=i+1 by omega,<-apA];exact aR (i+1) (by omega)
 have afe:(ez (kR args n) (kQ args (Nat.succ n))).length+1=args.length:=by rw[fC,lz,ly];simp;omega
 generalize b6 .un args n=a0 at h FX;generalize ez (kR args n) (kQ args (Nat.succ n))=br at h Sr afe;simp only at h;split at h
 ·exact h.elim
 rename_i id dM;split at h;rotate_left
 ·exact h.elim
 rename_i ab gL aA ba;have ad:=NI gL;have hlen:ps.length=br.length:=by have:=apC aA;rwa [cI,cI]at this
 obtain⟨s1,s2,jo,lj⟩:=oS br I aF;have xl:=pZ I ps br hlen
 have nu:id<(b_ I br).length:=by
  rcases aq5 id (b_ I br).length with h|h
  ·exact h
  ·rw[IJ _ _ h]at ab;cases ab
 have zM:id<ρ.length:=by rw[s1.rel.len];exact nu
 have dg:ρ[id]? =some ρ[id]:=by simp[zM]
 have vh:=s1.kd FX
 have iw:∀b,ρ[id].bs=some b->aK N ρ (b_ I br) b:=fun b ah=> .inr ⟨id,ρ[id],dg,ah,ab⟩
 have lK:=s1.rel.ob id _ dg;rw[s2]at lK;have Ac:rm n (m0 a0) (aZ.eF I ps br)=(aZ.eF I ps br).take n++m0 a0::(aZ.eF I ps br).drop n:=OB _ _ _ (by omega)
 have Ss:∀(Z:Nat->Prop) (xY:List Loc) (E7:aD),(∀x u,bB (aK N ρ (b_ I br)) w x u->bB Z w x u)->bH Z w xY E7 (m0 a0) (cn.getD n undef)->
  ∀i,i<(rm n (m0 a0) (aZ.eF I ps br)).length->bH Z w xY E7 ((rm n (m0 a0) (aZ.eF I ps br)).getD i .un) (cn.getD i undef):=fun Z xY E7 qf pc i hi=>by
  have one:∀j,j<(aZ.eF I ps br).length->bH Z w xY E7 ((aZ.eF I ps br).getD j .un) (cn.getD (if j<n then j else j+1) undef):=fun j aI=>by
   obtain⟨t,e⟩:=p0 I ps br hlen j (by omega);have aE:=mR ba .un j aI;have qM:=s1.kd (Sr j (by omega));rw[e]at aE⊢;exact .hn (oT aE (oU s1.rel s2 t aE qM fun id aO=>lj j id (by omega) aO) qf)
  rw[Ac]at hi⊢;simp only[ap4,ap_,aqj,aqL]at hi;rw[apA,ap7,ap_]
  by_cases ab:i<n
  ·rw[apz (by omega),aqq,apz ab,<-apA];have:=one i (by omega);rwa [apz ab]at this
  ·rw[apy (by omega)]
   cases a_:i-min n (aZ.eF I ps br).length with
   |zero=>
    have:i=n:=by omega
    subst this;simpa using pc
   |succ m=>
    have aI:=one (i-1) (by omega);rw[apy (by omega),show i-1+1=i by omega]at aI;rw[List.getElem?_cons_succ,aq1,show n+m=i-1 by omega,<-apA];exact aI
 have qE:=fL _ _ _ _ h;unfold yR at qE
 by_cases xZ:(∃i,a0= .vec i)/\ρ[id].cap=0
 ·obtain⟨⟨i,rfl⟩,nA⟩:=xZ;obtain rfl:i=id:=apK dM
  have pC:(ae.at I i).len=0:=by
   cases ck:ae.at I i with
   |cells l=>rw[ck]at gL;cases gL
   |gone=>rw[ck]at gL;cases gL
   |map _ _ _=>rw[ck]at gL;cases gL
   |dead _ _=>rw[ck]at gL;cases gL
   |af k l=>
    rw[ck]at lK;obtain⟨rfl,_⟩|⟨b0,aH,e,dh,eW,jR,pQ,pR,tX⟩:=lK
    ·rfl
    ·show l.length=0;omega
   |ar an l=>
    rw[ck]at lK;obtain⟨rfl,_⟩|⟨b0,aH,e,dh,eW,jR,pQ,pR,tX⟩:=lK
    ·rfl
    ·show l.length=0;omega
  have jw:∀b,¬gi [⟨ρ[i].a,0,none⟩] [(false,ae.at I i)] b:=fun b ⟨j,av,aY,bj,_⟩=>by
   cases j with
   |zero=>simp at aY;subst aY;cases bj
   |succ j=>simp at aY
  have hM:cw (aK N ρ (b_ I br)) [⟨ρ[i].a,0,none⟩] [(false,ae.at I i)] w:=
   {len:=rfl
    e3:=fun b ah=>by
     rcases ah with ah|⟨i,av,az,aJ,_⟩
     ·exact aF.e3 b ah
     ·exact aF.lt i av b az aJ
    lt:=fun j av b az aJ=>by
     cases j with
     |zero=>simp at az;subst az;cases aJ
     |succ j=>simp at az
    inj:=fun j fW li cA b az aJ _ _ _ _=>by
     cases j with
     |zero=>cases fW with
      |zero=>rfl
      |succ j=>simp at aJ
     |succ j=>simp at az
    fz:=fun j av b az aJ ah=>by
     cases j with
     |zero=>simp at az;subst az;cases aJ
     |succ j=>simp at az
    ob:=fun j av az=>by
     cases j with
     |zero=>
      simp at az;subst az;show hS _ _ _ _ _ (ae.at I i)
      cases ck:ae.at I i with
      |cells l=>rw[ck]at gL;cases gL
      |gone=>rw[ck]at gL;cases gL
      |map _ _ _=>rw[ck]at gL;cases gL
      |dead _ _=>rw[ck]at gL;cases gL
      |af k l=>rw[ck]at pC;exact .inl ⟨arp pC,rfl⟩
      |ar k l=>rw[ck]at pC;exact .inl ⟨arp pC,rfl⟩
     |succ j=>simp at az}
  have pc:bH (aK (aK N ρ (b_ I br)) [⟨ρ[i].a,0,none⟩] [(false,ae.at I i)]) w [⟨ρ[i].a,0,none⟩] [(false,ae.at I i)] (m0 (.vec i)) (cn.getD n undef):=by
   obtain⟨av,az,aJ,qS⟩:=vh;rw[dg]at az;obtain rfl:=apK az;exact⟨⟨ρ[i].a,0,none⟩,rfl,by rw[aJ,s2,nA];rfl,fun _=>rfl⟩
  have fR:=Ss _ _ _ (fun x u aj=>aj.mono fun b _ bm=>⟨rfl,fun db=>db.elim bm (jw b)⟩) pc
  refine(Is E c3 aU ah ao (args:=rm n (m0 (.vec i)) (aZ.eF I ps br)) (cn:=cn)
   (K:=fun tm al=>match cz (b_ al (gZ E.tb tm al rvs)) 0,ae.plain (ae.at al 0),R.sU (b6 .un tm n) (m0 (.vec i)),sD ts (mb al ts (one (gZ E.tb tm al rvs)))with
     |false,true,true,true=>(match ae.alike (ae.at I i) (ae.at al 0)with|true=>K (mb al ts (one (gZ E.tb tm al rvs))) (cK (b_ I br) i (false,ae.at al 0))|false=>False)
     |_,_,_,_=>False) qE hM (by rw[Ac];simp;omega) fR).mono ?_
  rintro e w' ⟨tm,al,ρ',a,aH,rfl,dU,dR,mH,ag,ay,cy,e1⟩;split at ag;rotate_left
  ·exact ag.elim
  rename_i g1 g2 g3 g4;split at ag;rotate_left
  ·exact ag.elim
  rename_i g5;have jk:=e1 n (by rw[Ac];simp;omega) bc;have pD:=ay.d_.at_ n;rw[<-dW,Cq g3,jk]at pD;obtain⟨de,az,aJ,_⟩:=pc;obtain⟨l2,bX,cW,_⟩:=pD;simp at az;subst az;rw[aJ]at cW;have gY:(ae.at [(false,ae.at I i)] 0)=ae.at I i:=rfl;rw[gY]at cW;injection cW with jn mI l0
  have j9:ae.at al 0=ae.at I i:=by
   cases ck:ae.at I i<;>cases mq:ae.at al 0<;>rw[ck,mq]at g5 mI<;>rw[ck]at pC gL<;>first|cases g5|skip
   ·cases gL
   ·have:=arp pC;have mG:=arp (mI.symm.trans pC);subst this;subst mG;rw[jD.1 g5]
   ·have:=arp pC;have mG:=arp (mI.symm.trans pC);subst this;subst mG;rw[(apC g5:_=_)]
  have hJ:cK (b_ I br) i (false,ae.at al 0)=b_ I br:=by
   rw[eE,j9,<-s2 i];refine arU (by simp) fun j ks nI=> ?_;rw[List.getElem_set];split
   ·rename_i e;subst e;have q1:cz (b_ I br) i=((b_ I br)[i]).1:=by simp[cz,dW,apA,nu]
    have cG:ae.at (b_ I br) i=((b_ I br)[i]).2:=by simp[ae.at,dW,apA,nu]
    rw[<-ab,q1,cG]
   ·rfl
  rw[hJ]at ag
  have ahj:∀b,b<w.heap.size->w'.heap[b]? =w.heap[b]? :=fun b ah=>cy.aq b ah (jw b)
  refine⟨_,_,ρ,_,rfl,ag,s1.trans (cv.more s1.rel cy.os cy.tape cy.output cy.size ahj), ?_⟩;exact Po ay.eG gU dR dU mH g4 fun b ah=> .inl ah
 have u3:∀b,aK (fun b=>aK N ρ (b_ I br) b/\ρ[id].bs≠some b) [ρ[id]] [(false,ae.at I id)] b->aK N ρ (b_ I br) b:=fun b ah=>by
  rcases ah with ah|⟨i,av,az,aJ,_⟩
  ·exact ah.1
  ·cases i with
   |zero=>simp at az;subst az;exact iw b aJ
   |succ i=>simp at az
 have qf:∀x u,bB (aK N ρ (b_ I br)) w x u->bB (aK (fun b=>aK N ρ (b_ I br) b/\ρ[id].bs≠some b) [ρ[id]] [(false,ae.at I id)]) w x u:=
  fun x u aj=>aj.mono fun b _ bm=>⟨rfl,fun db=>bm (u3 b db)⟩
 have hM:cw (fun b=>aK N ρ (b_ I br) b/\ρ[id].bs≠some b) [ρ[id]] [(false,ae.at I id)] w:=
  {len:=rfl
   e3:=fun b ah=>by
    rcases ah.1 with ah|⟨i,av,az,aJ,_⟩
    ·exact aF.e3 b ah
    ·exact aF.lt i av b az aJ
   lt:=fun i av b az aJ=>by
    cases i with
    |zero=>simp at az;subst az;exact aF.lt id _ b dg aJ
    |succ i=>simp at az
   inj:=fun i j li cA b az aJ _ _ _ _=>by
    cases i with
    |zero=>cases j with
     |zero=>rfl
     |succ j=>simp at aJ
    |succ i=>simp at az
   fz:=fun i av b az aJ ah=>by
    cases i with
    |zero=>simp at az;subst az;exact ah.2 aJ
    |succ i=>simp at az
   ob:=fun i av az=>by
    cases i with
    |zero=>simp at az;subst az;exact wx ad lK (fun _ _=>rfl) qf
    |succ i=>simp at az}
 have pc:bH (aK (fun b=>aK N ρ (b_ I br) b/\ρ[id].bs≠some b) [ρ[id]] [(false,ae.at I id)]) w [ρ[id]] [(false,ae.at I id)] (m0 a0) (cn.getD n undef):=by
  cases a0 with
  |vec i=>
   obtain rfl:i=id:=apK dM;obtain⟨av,az,aJ,qS⟩:=vh;rw[dg]at az;obtain rfl:=apK az;exact⟨ρ[i],rfl,by rw[aJ,s2];rfl,qS⟩
  |ptr i off=>
   obtain rfl:i=id:=apK dM;obtain⟨av,b,az,aJ,bX,cW⟩:=vh;rw[dg]at az;obtain rfl:=apK az;exact⟨ρ[i],b,rfl,aJ,bX,cW⟩
  |_=>cases dM
 have fR:=Ss _ _ _ qf pc
 refine(Is E c3 aU ah ao (args:=rm n (m0 a0) (aZ.eF I ps br)) (cn:=cn)
  (K:=fun tm al=>match cz (b_ al (gZ E.tb tm al rvs)) 0,ae.plain (ae.at al 0),R.sU (b6 .un tm n) (m0 a0),sD ts (mb al ts (one (gZ E.tb tm al rvs)))with
    |false,true,true,true=>(match ae.alike (ae.at I id) (ae.at al 0)with|true=>K (mb al ts (one (gZ E.tb tm al rvs))) (cK (b_ I br) id (false,ae.at al 0))|false=>False)
    |_,_,_,_=>False) qE hM (by rw[Ac];simp;omega) fR).mono ?_
 rintro e w' ⟨tm,al,ρ',a,aH,rfl,dU,dR,mH,ag,ay,cy,e1⟩;split at ag;rotate_left
 ·exact ag.elim
 rename_i g1 g2 g3 g4;split at ag;rotate_left
 ·exact ag.elim
 rename_i g5;have jk:=e1 n (by rw[Ac];simp;omega) bc;have pD:=ay.d_.at_ n;rw[<-dW,Cq g3,jk]at pD;obtain⟨q1,cG,cV,gD⟩:=oS (gZ E.tb tm al rvs) al ay.eG;have mr:=ay.eG.ob 0
 have key:∃jf b,ρ'[0]? =some jf/\ρ[id].a=some ⟨b,0,none⟩/\ρ[id].bs=some b/\jf.bs=some b/\(ae.at al 0).len=(ae.at I id).len/\
  ∀Z' dF kT,(∀x u,bB (aK (fun b=>aK N ρ (b_ I br) b/\ρ[id].bs≠some b) ρ' al) w' x u->bB Z' w' x u)->hS Z' w' dF kT ρ[id] (ae.at al 0):=by
  cases a0 with
  |vec i=>
   obtain rfl:i=id:=apK dM;obtain⟨de,az,aJ,_⟩:=pc;obtain⟨l2,bX,cW,_⟩:=pD;simp at az;subst az;rw[aJ]at cW;have gY:(ae.at [(false,ae.at I i)] 0)=ae.at I i:=rfl;rw[gY]at cW;injection cW with jn mI l0;have aE:ρ[i].cap≠0:=fun e=>xZ ⟨⟨i,rfl⟩,e⟩;have mr:=mr l2 bX
   cases ck:ae.at I i with
   |cells l=>rw[ck]at gL;cases gL
   |gone=>rw[ck]at gL;cases gL
   |map _ _ _=>rw[ck]at gL;cases gL
   |dead _ _=>rw[ck]at gL;cases gL
   |af k l=>
    rw[ck]at lK g5 mI
    cases mq:ae.at al 0 with
    |af cD cm=>
     rw[mq]at mr mI g2;obtain⟨_,hq⟩|⟨b0,_,_,dh,eW,_⟩:=lK
     ·exact(aE hq).elim
     obtain⟨_,pE⟩|⟨ch,aH,e,d1,d2,d3,d4,d5,d6⟩:=mr
     ·exact(aE (l0.trans pE)).elim
     rw[<-jn,dh]at d1;obtain rfl:b0=ch:=by injection d1 with d1;injection d1
     refine⟨l2,b0,bX,dh,eW,d2,mI.symm,fun Z' dF kT _=> .inr ⟨b0,aH,e,dh,eW,d3,by rw[l0];exact d4,by rw[l0];exact d5,d6⟩⟩
    |_=>rw[mq]at g5;cases g5
   |ar an l=>
    rw[ck]at lK g5 mI
    cases mq:ae.at al 0 with
    |ar cD cm=>
     rw[mq]at mr mI g2;obtain⟨_,hq⟩|⟨b0,_,_,dh,eW,_⟩:=lK
     ·exact(aE hq).elim
     obtain⟨_,pE⟩|⟨ch,aH,e,d1,d2,d3,d4,d5,d6,d7⟩:=mr
     ·exact(aE (l0.trans pE)).elim
     rw[<-jn,dh]at d1;obtain rfl:b0=ch:=by injection d1 with d1;injection d1
     refine⟨l2,b0,bX,dh,eW,d2,mI.symm,fun Z' dF kT ao=> .inr ⟨b0,aH,e,dh,eW,d3,by rw[l0];exact d4,by rw[l0];exact d5,d6,fun i j hi aI=> ?_⟩⟩;obtain⟨v,aY,bj⟩:=d7 i j hi aI;exact⟨v,aY,ao _ _ bj⟩
    |_=>rw[mq]at g5;cases g5
  |ptr i off=>
   obtain rfl:i=id:=apK dM;obtain⟨de,ch,az,dh,eW,jR⟩:=pc;obtain⟨l2,df,bX,d1,d2,d3⟩:=pD;simp at az;subst az;rw[jR]at d3;obtain rfl:ch=df:=by injection d3 with d3;injection d3 with d3;injection d3
   have mr:=mr l2 bX
   cases ck:ae.at I i with
   |cells l=>
    rw[ck]at g5
    cases mq:ae.at al 0 with
    |cells cm=>
     rw[mq]at mr g2 g5;have AQ:l.length=cm.length:=by have:=apC g5;rwa [cI,cI]at this
     obtain⟨iD,aH,e,f1,f2,f3,f4,f5⟩:=mr;rw[d1]at f1;obtain rfl:ch=iD:=by injection f1 with f1;injection f1
     refine⟨l2,ch,bX,dh,eW,d2,AQ.symm,fun Z' dF kT ao=>⟨ch,aH,e,dh,eW,f3,f4,fun k ag=> ?_⟩⟩;exact NJ (mR g2 .un k ag) (f5 k ag) ao
    |_=>rw[mq]at g5;cases g5
   |_=>rw[ck]at gL;cases gL
  |_=>cases dM
 obtain⟨jf,b,az,aJ,bX,cW,gY,jn⟩:=key
 have Jq:(ae.at al 0).cL=(ae.at I id).cL:=by
  cases ck:ae.at I id<;>cases mq:ae.at al 0<;>rw[ck,mq]at g5<;>first|rfl|cases g5|exact(apC g5).symm
 have uM:∀x,gi ρ ((b_ I br).set id (false,ae.at al 0)) x->gi ρ (b_ I br) x:=fun x ⟨i,l,aY,bj,bG⟩=>by
  rw[h9]at bG
  by_cases e:id=i
  ·subst e;exact⟨id,l,aY,bj,ab⟩
  ·rw[apy (by simp[e])]at bG;exact⟨i,l,aY,bj,bG⟩
 have pa:∀x,x<w.heap.size->ρ[id].bs≠some x->w'.heap[x]? =w.heap[x]? :=fun x aj dn=>cy.aq x aj fun⟨i,l,aY,bj,_⟩=>by
  cases i with
  |zero=>simp at aY;subst aY;exact dn bj
  |succ i=>simp at aY
 have mu:Fr ρ (b_ I br) w ρ ((b_ I br).set id (false,ae.at al 0)) w':=
  ⟨cy.os,cy.tape,cy.output,cy.size,fun x aj tC=>pa x aj fun ah=>tC ⟨id,_,dg,ah,ab⟩,fun x aj=> .inl (uM x aj)⟩
 have zz:∀i,eQ ρ (b_ I br) ρ ((b_ I br).set id (false,ae.at al 0)) i:=fun i l ax=>by
  refine⟨ax, ?_⟩;rw[gG]
  by_cases e:id=i
  ·subst e;rw[apz ⟨rfl,nu⟩,s2];exact⟨gY,Jq⟩
  ·rw[apy (by simp[e])];exact⟨rfl,rfl⟩
 have aff:∀x,aK N ρ ((b_ I br).set id (false,ae.at al 0)) x->aK N ρ (b_ I br) x:=fun x aj=>aj.imp (fun h=>h) (uM x)
 have St:∀x,aK N ρ ((b_ I br).set id (false,ae.at al 0)) x->aK (fun b=>aK N ρ (b_ I br) b/\ρ[id].bs≠some b) ρ' (b_ al (gZ E.tb tm al rvs)) x:=fun x aj=>by
  by_cases ah:ρ[id].bs=some x
  ·rw[bX]at ah;obtain rfl:=apK ah;exact .inr ⟨0,jf,az,cW,g1⟩
  ·exact .inl ⟨aff x aj,ah⟩
 have IP:∀x,aK N ρ ((b_ I br).set id (false,ae.at al 0)) x->aK (fun b=>aK N ρ (b_ I br) b/\ρ[id].bs≠some b) ρ' al x:=fun x aj=>by
  rcases St x aj with aj|⟨i,l,aY,bj,bG⟩
  ·exact .inl aj
  ·refine .inr ⟨i,l,aY,bj, ?_⟩
   cases aU:cz al i with
   |false=>rfl
   |true=>rw[cV i aU]at bG;cases bG
 have zN:cw N ρ ((b_ I br).set id (false,ae.at al 0)) w':=by
  refine s1.rel.z1 mu (by simp[s1.rel.len]) (fun _ _ _ _ i _ _=>zz i) (fun i l ax=> ?_)
  by_cases e:id=i
  ·subst e;rw[dg]at ax;obtain rfl:=apK ax;refine .inr ⟨fun x aj=>⟨apW (aF.lt id _ x dg aj) cy.size,aF.fz id _ x dg aj,fun j cA aI tq ka=> ?_⟩, ?_⟩
   ·by_cases e:id=j
    ·exact e.symm
    ·exact s1.rel.inj j id cA _ x aI dg tq aj (fun⟨f,n,an,q⟩=>ka ⟨by rw[h9,apy (by simp[e])];exact f,n,an,by rw[gG,apy (by simp[e])];exact q⟩) (lu ab)
   rw[gG,apz ⟨rfl,nu⟩];exact jn _ _ _ fun x u aj=>aj.mono fun y _ bm=>⟨rfl,fun db=>bm (IP y db)⟩
  ·refine .inl ⟨ax,by rw[gG,apy (by simp[e])],fun aj=>by rwa [h9,apy (by simp[e])]at aj,fun jA x aj=>pa x (aF.lt i l x ax aj) fun ah=>e (s1.rel.inj id i _ l x dg ax ah aj (lu ab) jA)⟩
 refine⟨_,_,ρ,_,rfl,ag,s1.trans ?_, ?_⟩
 ·rw[eE];exact{mu with rel:=zN,same:=zz}
 ·rw[eE];exact Po ay.eG gU dR dU mH g4 St
theorem ZC (E:bA)(c3:gn P E)
 {f:FuncId} {fn:Func} {c:Code} (aU:P.funcs[f]? =some fn) (ah:fn.body=some c) (aB:(fn.name== "runtime.NumGoroutine")=false) {rvs:List ResultVar} (ao:fn.results=rvs.toArray)
 (bc:Code.eI c 0=false) {ps ts:List aZ} (gU:ts.length=rvs.length) {T:R->ae->List R->(ae->R->Prop)->Prop}
 (fL:∀a0 ob args K,T a0 ob args K->C_ E fn.ntmps rvs c a0 ob args ts K):h1 P f (n_ ps T):=by
 have h:=NK 0 E c3 aU ah aB ao bc gU (ps:=ps) (T:=T) fL (aqT _);refine⟨h.1, ?_⟩;intro N ρ I w args cn K e5;refine h.2 N ρ I w args cn K ?_;unfold l6
 cases args with
 |nil=>unfold n_ at e5;exact e5.elim
 |cons a r=>
  have e:Nat.blt 0 (bS (a::r))=true:=Nat.ble_eq_true_of_le (by rw[cI];simp)
  have aJ:zy 0 (a::r)=a::r:=by
   unfold zy;rw[fC,lz,ly]
   rfl
  rw[e,aJ];show oY ps T (a::r) I K;unfold n_ at e5;unfold oY;simp only at e5⊢;split
  ·rename_i he;rw[he]at e5;exact e5
  ·rename_i id he;rw[he]at e5;simp only at e5;split
   ·rename_i ab ad aA ba;rw[ab,ad,aA,ba]at e5;simp only at e5;rw[yD]at e5;exact e5.2
   ·rename_i aj;split at e5
    ·rename_i ab ad aA ba;exact(aj ab ad aA ba).elim
    ·exact e5
end
end Go.ak
end
section
namespace Go.ak
theorem Hu {α:Type}:∀(l:List (Nat×α)) (j:Nat) (x:α),fw j l=some x->(j,x)∈l
 |[],j,x,h=>by cases h
 |(i,y)::r,j,x,h=>by
  unfold fw at h;split at h
  ·rename_i ah;obtain rfl:=apC ah;obtain rfl:=apK h;simp
  ·exact aqR _ (Hu r j x h)
theorem acJ (P:Program)(t:TypeId):c5 P t {ty:= .no}=true:=rfl
theorem aea {P:Program}{tb:TypeId->b7}{t:TypeId}(h:tb t={ty:= .no}):qb P tb t=true:=by
 unfold qb sV zv;rw[h]
theorem gn.of {P:Program}{E:bA}(ab:ed (fun p=>match c5 P p.1 p.2 with|true=>qb P E.tb p.1|false=>false) E.tys=true)(ad:∀p∈E.cons,yZ P p.1 p.2/\hy p.2)(aA:P.follows .mixedOrders=true)(ba:∀f∈E.data,Jn (E.bz f))(bJ:∀f∈E.fresh,I0 (E.bz f):=by intro f h;exact absurd h aqS):gn P E:=by
 have key:∀f args I K,E.bz f args I K->(f,E.bz f)∈E.cons:=fun f args I K h=>by
  unfold bA.bz at h⊢;split
  ·rename_i c aC;exact Hu _ _ _ aC
  ·rename_i aC;rw[aC]at h;exact h.elim
 have both:∀t,c5 P t (E.tb t)=true/\qb P E.tb t=true:=fun t=>by
  cases ax:fw t E.tys with
  |some i=>
   rw[fD,apR]at ab;have:=ab _ (Hu _ _ _ ax);have e:E.tb t=i:=by unfold bA.tb;rw[ax]
   rw[e];simp only at this;split at this
   ·rename_i ad;exact⟨ad,this⟩
   ·cases this
  |none=>
   have e:E.tb t={ty:= .no}:=by unfold bA.tb;rw[ax]
   exact⟨by rw[e];exact acJ P t,aea e⟩
 refine⟨fun t=>(both t).1,fun t=>(both t).2,fun f args I K h=>(ad _ (key f args I K h)).1,fun f args I K h=>(ad _ (key f args I K h)).2,aA,fun f=>⟨fun aU=> ?_,fun aU=> ?_⟩⟩
 ·unfold bA.kind at aU;split at aU
  ·rename_i hm;exact ba f (wQ.1 hm)
  ·split at aU<;>cases aU
 ·unfold bA.kind at aU;split at aU
  ·cases aU
  ·split at aU
   ·rename_i hm;exact bJ f (wQ.1 hm)
   ·cases aU
def qg (K:List R->Prop):List R->Prop
 |[]=>K []
 | .d (.af k l)::r=>∀x:List Int,x=l->qg (fun t=>K (.d (.af k x)::t)) r
 | .d (.ar k l)::r=>∀x:List (List U),x=l->qg (fun t=>K (.d (.ar k x)::t)) r
 | .d (.int k n)::r=>∀x:Int,x=n->qg (fun t=>K (.d (.int k x)::t)) r
 | .d (.bool b)::r=>∀x:Bool,x=b->qg (fun t=>K (.d (.bool x)::t)) r
 | .d (.str l)::r=>∀x:List Int,x=l->qg (fun t=>K (.d (.str x)::t)) r
 |v::r=>qg (fun t=>K (v::t)) r
def m1 (K:List R->Prop):List R->Prop
 |[]=>K []
 | .d (.af k l)::r=>∀x:List Int,x=l->m1 (fun t=>K (.d (.af k x)::t)) r
 | .d (.ar k l)::r=>∀x:List (List U),x=l->m1 (fun t=>K (.d (.ar k x)::t)) r
 | .d (.int k n)::r=>∀x:Int,x=n->m1 (fun t=>K (.d (.int k x)::t)) r
 | .d (.bool b)::r=>∀x:Bool,x=b->m1 (fun t=>K (.d (.bool x)::t)) r
 | .d (.str l)::r=>∀x:List Int,x=l->m1 (fun t=>K (.d (.str x)::t)) r
 | .agg l::r=>qg (fun t=>m1 (fun q=>K (.agg t::q)) r) l
 |v::r=>m1 (fun t=>K (v::t)) r
def Su:List R->R
 |v::_=>v
 |[]=> .un
def DH (K:R->Prop):R->Prop
 | .tup l=>m1 (fun t=>K (.tup t)) l
 | .agg l=>m1 (fun t=>K (.agg t)) l
 |v=>m1 (fun t=>K (Su t)) [v]
def named (T:List R->(R->Prop)->Prop):List R->(R->Prop)->Prop:=fun args K=>T args fun r=>DH K r
theorem Hv:∀(l:List R) (K:List R->Prop),qg K l↔K l
 |[],_=>aqn
 |v::r,K=>by
  cases v with
  |d a=>cases a<;>simp[qg,Hv r]
  |_=>simp[qg,Hv r]
theorem Cs:∀(l:List R) (K:List R->Prop),m1 K l↔K l
 |[],_=>aqn
 |v::r,K=>by
  cases v with
  |d a=>cases a<;>simp[m1,Cs r]
  |_=>simp[m1,Cs r,Hv]
theorem OC (K:R->Prop)(v:R):DH K v↔K v:=by
 cases v<;>simp[DH,Cs,Su]
theorem CG (T:List R->(R->Prop)->Prop):named T=T:=by
 funext args K
 unfold named
 congr 1
 funext r
 exact propext (OC K r)
theorem H5 {T:List R->(R->Prop)->Prop}(h:k7 T):k7 (named T):=by rw[CG];exact h
end Go.ak
end
section
namespace Go.ak
theorem cv.fresh {N:Nat->Prop}{ρ:List Loc}{I:aD}{w w':World}(h:cw N ρ I w)(ab:w'.os=w.os)(ad:w'.tape=w.tape)(aA:w'.output=w.output)(ay:w.heap.size<=w'.heap.size)
 (ag:∀b,b<w.heap.size->w'.heap[b]? =w.heap[b]?) (f:Bool) (ob:ae) (av:Loc) (ah:∀b,av.bs=some b->w.heap.size<=b/\b<w'.heap.size)
 (aF:hS (aK N (ρ++[av]) (I++[(f,ob)])) w' (ρ++[av]) (I++[(f,ob)]) av ob):cv N ρ I w (ρ++[av]) (I++[(f,ob)]) w':=by
 have cy:Fr ρ I w (ρ++[av]) (I++[(f,ob)]) w':=by
  refine⟨ab,ad,aA,ay,fun b ah _=>ag b ah,fun b ⟨i,l,az,aJ,bX⟩=> ?_⟩;rw[ap7]at az
  by_cases hi:i<ρ.length
  ·rw[apz hi]at az;rw[jJ,apy (by rw[<-h.len];omega)]at bX;exact .inl ⟨i,l,az,aJ,bX⟩
  ·rw[apy hi]at az
   cases a_:i-ρ.length with
   |zero=>simp[a_]at az;subst az;exact .inr (ah b aJ).1
   |succ n=>simp[a_]at az
 have e1:∀id,eQ ρ I (ρ++[av]) (I++[(f,ob)]) id:=fun id l ax=>by
  have:=h.j0 ax;refine⟨by rw[aqr (by rw[h.len];exact this)];exact ax, ?_⟩;rw[fQ,apy (by omega)];exact⟨rfl,rfl⟩
 refine{cy with rel:=h.tp cy (by simp[h.len]) (fun _ _ _ _ id _ _=>e1 id) (fun i l ax=> ?_),same:=e1};rw[ap7]at ax
 by_cases hi:i<ρ.length
 ·rw[apz hi]at ax;refine .inl ⟨ax,by rw[fQ,apy (by rw[<-h.len];omega)],fun aj=>by rwa [jJ,apy (by rw[<-h.len];omega)]at aj,fun b ah=> ?_⟩;exact ag b (h.lt i l b ax ah)
 ·rw[apy hi]at ax
  cases a_:i-ρ.length with
  |succ n=>simp[a_]at ax
  |zero=>
   simp[a_]at ax;subst ax;have eY:i=I.length:=by rw[<-h.len];omega
   refine .inr ⟨fun b akd=> ?_,by rw[eY,fQ,apz rfl];exact aF⟩;obtain⟨ch,df⟩:=ah b akd;refine⟨df,fun aB=>absurd (h.e3 _ aB) (by omega),fun j cA aI ah=> ?_⟩;rw[ap7]at aI
   by_cases iR:j<ρ.length
   ·rw[apz iR]at aI;have:=h.lt j cA _ aI ah;omega
   ·rw[apy iR]at aI
    cases iS:j-ρ.length with
    |zero=>omega
    |succ n=>simp[iS]at aI
theorem YR {ps:List aZ}{T:List R->(ae->Prop)->Prop}(h:nK T):hy (p8 ps T):=by
 refine⟨fun args I K K' ag bp=> ?_,fun args I K bp=> ?_⟩
 ·unfold p8 at bp⊢;split
  ·rename_i ab ad;rw[ab,ad]at bp;exact h.1 _ _ _ (fun r ao=>ag _ _ ao) bp
  ·rename_i aj;split at bp
   ·rename_i ab ad;exact(aj ab ad).elim
   ·exact bp
 ·unfold p8 at bp;split at bp
  ·obtain⟨r,ao⟩:=h.2 _ _ bp;exact⟨_,_,ao⟩
  ·exact bp.elim
def isSlice:ae->Bool
 | .af ..=>true
 | .ar ..=>true
 |_=>false
def DI (t:aZ)(K:ae->Prop)(v:R)(I:aD):Prop:=
 match v with
 | .vec id=>(match cz I id,isSlice (ae.at I id)with|false,true=>K (ae.at I id)|_,_=>False)
 | .emp=>(match t with| .aG (.cp k)=>K (.af k [])| .aG (.dK an)=>K (.ar an [])|_=>False)
 |_=>False
section
variable {P:Program}
theorem YS (E:bA)(c3:gn P E)
 {f:FuncId} {fn:Func} {c:Code} (aU:P.funcs[f]? =some fn) (ah:fn.body=some c) (aB:(fn.name== "runtime.NumGoroutine")=false) {r:Tmp} (ao:fn.results=[ResultVar.tmp r].toArray)
 {ps:List aZ} {t:aZ} {T:List R->(ae->Prop)->Prop} (fL:∀args K,T args K->mU E fn.ntmps [.tmp r] c args [] (DI t K)):h1 P f (p8 ps T):=by
 refine⟨⟨fn,aU,by rw[ah];rfl,aB⟩, ?_⟩;intro N ρ I w args cn K h aF ax aR;unfold p8 at h;split at h;rotate_left
 ·exact h.elim
 rename_i ab ad;have hlen:ps.length=args.length:=by have:=apC ab;rwa [cI,cI]at this
 obtain⟨s1,s2,jo,lj⟩:=oS args I aF;have xl:=pZ I ps args hlen
 have hM:cw (aK N ρ (b_ I args)) [] [] w:=
  {len:=rfl
   e3:=fun b ah=>by
    rcases ah with ah|⟨i,av,az,aJ,_⟩
    ·exact aF.e3 b ah
    ·exact aF.lt i av b az aJ
   lt:=fun i av b e=>by simp at e
   inj:=fun i j li cA b e=>by simp at e
   fz:=fun i av b e=>by simp at e
   ob:=fun i av e=>by simp at e}
 have fR:∀i,i<(aZ.eF I ps args).length->bH (aK (aK N ρ (b_ I args)) [] []) w [] [] ((aZ.eF I ps args).getD i .un) (cn.getD i undef):=fun i hi=>by
  obtain⟨t,e⟩:=p0 I ps args hlen i (by omega);have aE:=mR ad .un i hi;rw[e]at aE⊢;have bJ:=oU s1.rel s2 t aE (s1.kd (aR i (by omega))) fun id aO=>lj i id (by omega) aO;refine .hn (oT aE bJ fun x u aj=>aj.mono fun b _ bm=>⟨rfl,fun db=> ?_⟩);rcases db with db|⟨j,av,az,_⟩
  ·exact bm db
  ·simp at az
 refine(yJ E c3 aU ah ao (fL _ _ h) hM (by omega) fR).mono ?_;rintro e w' ⟨rs,al,ρ',aH,rfl,de,l2,ag,bM,cy,fs⟩
 have aq:∀b,b<w.heap.size->w'.heap[b]? =w.heap[b]? :=fun b ah=>cy.aq b ah fun⟨i,av,az,_⟩=>by simp at az
 simp only[aqX,ap1]at de l2⊢
 match rs,aH,de,l2 with
 |[x],[u],_,_=>
 have aj:bH (aK (aK N ρ (b_ I args)) ρ' al) w' ρ' al x u:=fs 0
 have fin:∀(av:Loc) (ob:ae),ob.plain=true->(∀b,av.bs=some b->w.heap.size<=b/\b<w'.heap.size/\aK (aK N ρ (b_ I args)) ρ' al b)->hS (aK (aK N ρ (b_ I args)) ρ' al) w' ρ' al av ob->
  K (.vec (bS (b_ I args))) (ez (b_ I args) [(false,ob)])->(u= .slice av.a ob.len av.cap/\(av.a=none->av.cap=0))->
  ∃r fK iP v,Ending.returned (List.getD [u] 0 undef)= .returned v/\K r fK/\cv N ρ I w iP fK w'/\bH (aK N iP fK) w' iP fK r v:=by
  intro av ob aE iO ck e5 hu
  have bm:∀b,aK N (ρ++[av]) (b_ I args++[(false,ob)]) b->aK (aK N ρ (b_ I args)) ρ' al b:=fun b ah=>by
   rcases ah with ah|⟨i,l,az,aJ,bX⟩
   ·exact .inl (.inl ah)
   ·rw[ap7]at az
    by_cases hi:i<ρ.length
    ·rw[apz hi]at az;rw[jJ,apy (by rw[<-s1.rel.len];omega)]at bX;exact .inl (.inr ⟨i,l,az,aJ,bX⟩)
    ·rw[apy hi]at az
     cases a_:i-ρ.length with
     |zero=>simp[a_]at az;subst az;exact(iO b aJ).2.2
     |succ n=>simp[a_]at az
  have cS:=cv.fresh s1.rel cy.os cy.tape cy.output cy.size aq false ob av (fun b ah=>⟨(iO b ah).1,(iO b ah).2.1⟩)
   (wx aE ck (fun b _=>rfl) fun x u aj=>aj.mono fun b _ aB=>⟨rfl,fun ah=>aB (bm b ah)⟩)
  refine⟨_,_,ρ++[av],u,rfl,e5,by rw[fC];exact s1.trans cS, ?_⟩;rw[fC,cI];refine .c7 ⟨av, ?_, ?_⟩
  ·rw[aqG (by rw[s1.rel.len];omega),s1.rel.len];simp
  ·rw[fQ,apz rfl];exact hu
 replace ag:DI t (fun ob=>K (.vec (bS (b_ I args))) (ez (b_ I args) [(false,ob)])) x al:=ag
 unfold DI at ag
 cases x with
 |vec id=>
  simp only at ag;split at ag
  ·rename_i g1 g2;obtain⟨av,dg,hu,vw⟩:=aj;refine fin av (ae.at al id) ?_ (fun b ah=> ?_) (bM.ob id av dg) ag ⟨hu,vw⟩
   ·cases aF:ae.at al id<;>rw[aF]at g2<;>first|rfl|cases g2
   ·have gM:gi ρ' al b:=⟨id,av,dg,ah,g1⟩;refine⟨?_,bM.lt id av b dg ah, .inr gM⟩;rcases cy.alive b gM with⟨i,l,az,_⟩|h
    ·simp at az
    ·exact h
  ·exact ag.elim
 |emp=>
  obtain⟨a,hu⟩:=aj;simp only at ag;split at ag
  ·rename_i k;exact fin ⟨a,0,none⟩ (.af k []) rfl (fun b ah=>by cases ah) (Or.inl ⟨rfl,rfl⟩) ag ⟨hu,fun _=>rfl⟩
  ·rename_i an;exact fin ⟨a,0,none⟩ (.ar an []) rfl (fun b ah=>by cases ah) (Or.inl ⟨rfl,rfl⟩) ag ⟨hu,fun _=>rfl⟩
  ·exact ag.elim
 |_=>exact ag.elim
end
def m2 (S:List R->Option (Prop×ae)):List R->(ae->Prop)->Prop:=fun args K=>match S args with|some (p,r)=>p/\K r|none=>False
theorem y2 (S:List R->Option (Prop×ae)):nK (m2 S):=by
 refine⟨fun args K K' ag h=> ?_,fun args K h=> ?_⟩
 ·unfold m2 at h⊢;split
  ·rename_i he;rw[he]at h;exact⟨h.1,ag _ h.2⟩
  ·rename_i he;rw[he]at h;exact h
 ·unfold m2 at h;split at h
  ·exact⟨_,h.2⟩
  ·exact h.elim
def DJ (K:ae->Prop):ae->Prop
 | .af k l=>∀x:List Int,x=l->K (.af k x)
 | .ar k l=>∀x:List (List U),x=l->K (.ar k x)
 |o=>K o
def DK (T:List R->(ae->Prop)->Prop):List R->(ae->Prop)->Prop:=fun args K=>T args fun r=>DJ K r
theorem Pp (T:List R->(ae->Prop)->Prop):DK T=T:=by
 funext args K
 unfold DK
 congr 1
 funext r
 exact propext (by cases r<;>simp[DJ])
theorem aa6 {T:List R->(ae->Prop)->Prop}(h:nK T):nK (DK T):=by rw[Pp];exact h
end Go.ak
end
section
namespace Go.ak
def uV (ps:List aZ)(T:List R->(ae->Prop)->Prop):gu:=fun args I K=>
 match Nat.beq (bS ps) (bS args),ed R.plain (aZ.eF I ps args)with
 |true,true=>T (aZ.eF I ps args) fun ob=>K (.ptr (bS (b_ I args)) 0) (ez (b_ I args) [(false,ob)])
 |_,_=>False
theorem aa7 {ps:List aZ}{T:List R->(ae->Prop)->Prop}(h:nK T):hy (uV ps T):=by
 refine⟨fun args I K K' ag bp=> ?_,fun args I K bp=> ?_⟩
 ·unfold uV at bp⊢;split
  ·rename_i ab ad;rw[ab,ad]at bp;exact h.1 _ _ _ (fun r ao=>ag _ _ ao) bp
  ·rename_i aj;split at bp
   ·rename_i ab ad;exact(aj ab ad).elim
   ·exact bp
 ·unfold uV at bp;split at bp
  ·obtain⟨r,ao⟩:=h.2 _ _ bp;exact⟨_,_,ao⟩
  ·exact bp.elim
def E8 (K:ae->Prop)(v:R)(I:aD):Prop:=
 match v with
 | .ptr id off=>(match Nat.beq off 0,cz I id,(ae.at I id).plain with|true,false,true=>K (ae.at I id)|_,_,_=>False)
 |_=>False
section
variable {P:Program}
theorem aa8 (E:bA)(c3:gn P E)
 {f:FuncId} {fn:Func} {c:Code} (aU:P.funcs[f]? =some fn) (ah:fn.body=some c) (aB:(fn.name== "runtime.NumGoroutine")=false) {r:Tmp} (ao:fn.results=[ResultVar.tmp r].toArray)
 {ps:List aZ} {T:List R->(ae->Prop)->Prop} (fL:∀args K,T args K->mU E fn.ntmps [.tmp r] c args [] (E8 K)):h1 P f (uV ps T):=by
 refine⟨⟨fn,aU,by rw[ah];rfl,aB⟩, ?_⟩;intro N ρ I w args cn K h aF ax aR;unfold uV at h;split at h;rotate_left
 ·exact h.elim
 rename_i ab ad;have hlen:ps.length=args.length:=by have:=apC ab;rwa [cI,cI]at this
 obtain⟨s1,s2,jo,lj⟩:=oS args I aF;have xl:=pZ I ps args hlen
 have hM:cw (aK N ρ (b_ I args)) [] [] w:=
  {len:=rfl
   e3:=fun b ah=>by
    rcases ah with ah|⟨i,av,az,aJ,_⟩
    ·exact aF.e3 b ah
    ·exact aF.lt i av b az aJ
   lt:=fun i av b e=>by simp at e
   inj:=fun i j li cA b e=>by simp at e
   fz:=fun i av b e=>by simp at e
   ob:=fun i av e=>by simp at e}
 have fR:∀i,i<(aZ.eF I ps args).length->bH (aK (aK N ρ (b_ I args)) [] []) w [] [] ((aZ.eF I ps args).getD i .un) (cn.getD i undef):=fun i hi=>by
  obtain⟨t,e⟩:=p0 I ps args hlen i (by omega);have aE:=mR ad .un i hi;rw[e]at aE⊢;have bJ:=oU s1.rel s2 t aE (s1.kd (aR i (by omega))) fun id aO=>lj i id (by omega) aO;refine .hn (oT aE bJ fun x u aj=>aj.mono fun b _ bm=>⟨rfl,fun db=> ?_⟩);rcases db with db|⟨j,av,az,_⟩
  ·exact bm db
  ·simp at az
 refine(yJ E c3 aU ah ao (fL _ _ h) hM (by omega) fR).mono ?_;rintro e w' ⟨rs,al,ρ',aH,rfl,de,l2,ag,bM,cy,fs⟩
 have aq:∀b,b<w.heap.size->w'.heap[b]? =w.heap[b]? :=fun b ah=>cy.aq b ah fun⟨i,av,az,_⟩=>by simp at az
 simp only[aqX,ap1]at de l2⊢
 match rs,aH,de,l2 with
 |[x],[u],_,_=>
 have aj:bH (aK (aK N ρ (b_ I args)) ρ' al) w' ρ' al x u:=fs 0
 have fin:∀(av:Loc) (ob:ae),ob.plain=true->(∀b,av.bs=some b->w.heap.size<=b/\b<w'.heap.size/\aK (aK N ρ (b_ I args)) ρ' al b)->hS (aK (aK N ρ (b_ I args)) ρ' al) w' ρ' al av ob->
  K (.ptr (bS (b_ I args)) 0) (ez (b_ I args) [(false,ob)])->(∃b,av.a=some ⟨b,0,none⟩/\av.bs=some b/\u= .pointer (some ⟨b,0,none⟩))->
  ∃r fK iP v,Ending.returned (List.getD [u] 0 undef)= .returned v/\K r fK/\cv N ρ I w iP fK w'/\bH (aK N iP fK) w' iP fK r v:=by
  intro av ob aE iO ck e5 hu
  have bm:∀b,aK N (ρ++[av]) (b_ I args++[(false,ob)]) b->aK (aK N ρ (b_ I args)) ρ' al b:=fun b ah=>by
   rcases ah with ah|⟨i,l,az,aJ,bX⟩
   ·exact .inl (.inl ah)
   ·rw[ap7]at az
    by_cases hi:i<ρ.length
    ·rw[apz hi]at az;rw[jJ,apy (by rw[<-s1.rel.len];omega)]at bX;exact .inl (.inr ⟨i,l,az,aJ,bX⟩)
    ·rw[apy hi]at az
     cases a_:i-ρ.length with
     |zero=>simp[a_]at az;subst az;exact(iO b aJ).2.2
     |succ n=>simp[a_]at az
  have cS:=cv.fresh s1.rel cy.os cy.tape cy.output cy.size aq false ob av (fun b ah=>⟨(iO b ah).1,(iO b ah).2.1⟩)
   (wx aE ck (fun b _=>rfl) fun x u aj=>aj.mono fun b _ aB=>⟨rfl,fun ah=>aB (bm b ah)⟩)
  refine⟨_,_,ρ++[av],u,rfl,e5,by rw[fC];exact s1.trans cS, ?_⟩;rw[fC,cI];obtain⟨b,kD,lk,en⟩:=hu;refine .c7 ⟨av,b, ?_,kD,lk,en⟩;rw[aqG (by rw[s1.rel.len];omega),s1.rel.len];simp
 replace ag:E8 (fun ob=>K (.ptr (bS (b_ I args)) 0) (ez (b_ I args) [(false,ob)])) x al:=ag
 unfold E8 at ag
 cases x with
 |ptr id off=>
  simp only at ag;split at ag
  ·rename_i g1 g2 g3;obtain rfl:=apC g1;obtain⟨av,b0,dg,aR,tD,hu⟩:=aj;refine fin av (ae.at al id) ?_ (fun b ah=> ?_) (bM.ob id av dg) ag ⟨b0,aR,tD,hu⟩
   ·exact g3
   ·have gM:gi ρ' al b:=⟨id,av,dg,ah,g2⟩;refine⟨?_,bM.lt id av b dg ah, .inr gM⟩;rcases cy.alive b gM with⟨i,l,az,_⟩|h
    ·simp at az
    ·exact h
  ·exact ag.elim
 |_=>exact ag.elim
end
def w2 (K:ae->Prop):ae->Prop
 | .cells l=>m1 (fun t=>K (.cells t)) l
 | .af k l=>∀x:List Int,x=l->K (.af k x)
 | .ar k l=>∀x:List (List U),x=l->K (.ar k x)
 | .map a b c=>K (.map a b c)
 | .dead a b=>K (.dead a b)
 | .gone=>K .gone
theorem B_ (K:ae->Prop)(o:ae):w2 K o↔K o:=by
 cases o<;>simp[w2,Cs]
def DL (T:List R->(ae->Prop)->Prop):List R->(ae->Prop)->Prop:=fun args K=>T args fun r=>w2 K r
theorem Pq (T:List R->(ae->Prop)->Prop):DL T=T:=by
 funext args K
 unfold DL
 congr 1
 funext r
 exact propext (B_ K r)
theorem aa9 {T:List R->(ae->Prop)->Prop}(h:nK T):nK (DL T):=by rw[Pq];exact h
def zA (T:R->ae->List R->(ae->R->Prop)->Prop):R->ae->List R->(ae->R->Prop)->Prop:=fun a o args K=>T a o args fun cj r=>w2 (fun Ks=>DH (fun ld=>K Ks ld) r) cj
theorem HJ (T:R->ae->List R->(ae->R->Prop)->Prop):zA T=T:=by
 funext a o args K
 unfold zA
 congr 1
 funext cj r
 exact propext ((B_ _ cj).trans (OC _ r))
theorem Pr {T:R->ae->List R->(ae->R->Prop)->Prop}(h:kt T):kt (zA T):=by rw[HJ];exact h
end Go.ak
end
section
namespace Go.ak
theorem ZD {ps:List aZ}{T:List R->(R->Prop)->Prop}(h:k7 T):hy (nt ps T):=by
 refine⟨fun args I K K' ag bp=> ?_,fun args I K bp=> ?_⟩
 ·unfold nt at bp⊢;split
  ·rename_i ab ad;rw[ab,ad]at bp;exact h.1 _ _ _ (fun r ao=>ag _ _ ao) bp
  ·rename_i aj;split at bp
   ·rename_i ab ad;exact(aj ab ad).elim
   ·exact bp
 ·unfold nt at bp;split at bp
  ·obtain⟨r,ao⟩:=h.2 _ _ bp;exact⟨_,_,ao⟩
  ·exact bp.elim
def zO:R->Bool
 | .d (.int _ _)=>true
 | .d (.bool _)=>true
 | .d (.str _)=>true
 | .bt=>true
 | .bf=>true
 |_=>false
def u6:R->R
 | .bt=> .d (.bool true)
 | .bf=> .d (.bool false)
 |v=>v
def S8:R->Bool
 | .tup l=>ed zO l
 |v=>zO v
def S9:R->R
 | .tup l=> .tup (bE u6 l)
 |v=>u6 v
def I1 (K:R->Prop)(v:R)(_:aD):Prop:=match S8 v with|true=>K (S9 v)|false=>False
theorem yK {Z Z':Nat->Prop}{w w':World}{ρ ρ':List Loc}{I al:aD}{v:R}{u:Value}(ay:zO v=true)(h:bH Z w ρ I v u):eJ Z' w' ρ' al (u6 v) u:=by
 cases v with
 |d x=>
  cases x with
  |int k n=>have h:bB Z w _ u:=h;cases h;exact bB.int _ _
  |bool b=>have h:bB Z w _ u:=h;cases h;exact bB.bool _
  |str l=>have h:bB Z w _ u:=h;cases h;rename_i s e;exact bB.str _ _ e
  |_=>cases ay
 |bt=>have h:u= .bool true:=h;subst h;exact bB.bool _
 |bf=>have h:u= .bool false:=h;subst h;exact bB.bool _
 |_=>cases ay
section
variable {P:Program}
theorem ZE (E:bA)(c3:gn P E)
 {f:FuncId} {fn:Func} {c:Code} (aU:P.funcs[f]? =some fn) (ah:fn.body=some c) (aB:(fn.name== "runtime.NumGoroutine")=false) {rvs:List ResultVar} (ao:fn.results=rvs.toArray)
 {ps:List aZ} {T:List R->(R->Prop)->Prop} (fL:∀args K,T args K->mU E fn.ntmps rvs c args [] (I1 K)):h1 P f (nt ps T):=by
 refine⟨⟨fn,aU,by rw[ah];rfl,aB⟩, ?_⟩;intro N ρ I w args cn K h aF ax aR;unfold nt at h;split at h;rotate_left
 ·exact h.elim
 rename_i ab ad;have hlen:ps.length=args.length:=by have:=apC ab;rwa [cI,cI]at this
 obtain⟨s1,s2,jo,lj⟩:=oS args I aF;have xl:=pZ I ps args hlen
 have hM:cw (aK N ρ (b_ I args)) [] [] w:=
  {len:=rfl
   e3:=fun b ah=>by
    rcases ah with ah|⟨i,av,az,aJ,_⟩
    ·exact aF.e3 b ah
    ·exact aF.lt i av b az aJ
   lt:=fun i av b e=>by simp at e
   inj:=fun i j li cA b e=>by simp at e
   fz:=fun i av b e=>by simp at e
   ob:=fun i av e=>by simp at e}
 have fR:∀i,i<(aZ.eF I ps args).length->bH (aK (aK N ρ (b_ I args)) [] []) w [] [] ((aZ.eF I ps args).getD i .un) (cn.getD i undef):=fun i hi=>by
  obtain⟨t,e⟩:=p0 I ps args hlen i (by omega);have aE:=mR ad .un i hi;rw[e]at aE⊢;have bJ:=oU s1.rel s2 t aE (s1.kd (aR i (by omega))) fun id aO=>lj i id (by omega) aO;refine .hn (oT aE bJ fun x u aj=>aj.mono fun b _ bm=>⟨rfl,fun db=> ?_⟩);rcases db with db|⟨j,av,az,_⟩
  ·exact bm db
  ·simp at az
 refine(yJ E c3 aU ah ao (fL _ _ h) hM (by omega) fR).mono ?_;rintro e w' ⟨rs,al,ρ',aH,rfl,de,l2,ag,bM,cy,fs⟩;have hold:cv N ρ I w ρ I w':=cv.more aF cy.os cy.tape cy.output cy.size fun b ah=>cy.aq b ah fun⟨i,av,az,_⟩=>by simp at az
 unfold I1 at ag;split at ag;rotate_left
 ·exact ag.elim
 rename_i lT;refine⟨_,_,ρ,_,rfl,ag,hold, ?_⟩
 by_cases ab:rvs.length=1
 ·rw[apz ab]
  match rs,aH,(by omega:rs.length=1),(by omega:aH.length=1)with
  |[x],[u],_,_=>
   have aj:bH _ w' ρ' al x u:=fs 0;have lT:S8 x=true:=lT;show bH _ w' ρ I (S9 x) u
   cases x with
   |tup l=>
    obtain⟨a,rfl,g1,g2⟩:=aj;have lT:ed zO l=true:=lT;refine⟨a,rfl,by rw[dP];simpa using g1,fun i hi=> ?_⟩;have hi:i<l.length:=by rw[dP]at hi;simpa using hi
    have:=yK (Z':=aK N ρ I) (w':=w') (ρ':=ρ) (al:=I) (mR lT .un i hi) (.hn (g2 i hi));have gY:(bE u6 l).getD i .un=u6 (l.getD i .un):=by rw[dP];simp[apA,hi]
    rw[gY];exact .c7 this
   |d y=>exact .c7 (yK (v:= .d y) lT aj)
   |bt=>exact .c7 (yK (v:= .bt) rfl aj)
   |bf=>exact .c7 (yK (v:= .bf) rfl aj)
   |_=>cases lT
 ·rw[apy ab]
  have az:one rs= .tup rs:=by
   match rs,de with
   |[],_=>rfl
   |[x],de=>exact absurd de.symm ab
   |_::_::_,_=>rfl
  rw[az]at lT⊢;have lT:ed zO rs=true:=lT;refine⟨aH.toArray,rfl,by rw[dP];simp;omega,fun i hi=> ?_⟩;have hi:i<rs.length:=by rw[dP]at hi;simpa using hi
  have aE:=mR lT .un i hi;have:=yK (Z':=aK N ρ I) (w':=w') (ρ':=ρ) (al:=I) aE (fs i);have cW:aH.toArray.getD i undef=aH.getD i undef:=by simp[apH,apA]
  have gY:(bE u6 rs).getD i .un=u6 (rs.getD i .un):=by rw[dP];simp[apA,hi]
  rw[cW,gY];exact .c7 this
end
end Go.ak
namespace Go.ak
theorem aa_ {T:List R->(R->Prop)->Prop}(h:k7 T):k7 (named T):=H5 h
def lG {ι:Type}(S:R->ae->List R->Option (Prop×(ι->Prop)×(ι->ae)×(ι->R))):R->ae->List R->(ae->R->Prop)->Prop:=fun a o args K=>match S a o args with|some (p,bC,f,g)=>p/\∀i,bC i->K (f i) (g i)|none=>False
theorem yU {ι:Type}(S:R->ae->List R->Option (Prop×(ι->Prop)×(ι->ae)×(ι->R)))(h:∀a o args p bC f g,S a o args=some (p,bC,f,g)->p->∃i,bC i):kt (lG S):=by
 refine⟨fun a o args K K' ag bp=> ?_,fun a o args K bp=> ?_⟩
 ·unfold lG at bp⊢;split
  ·rename_i he;rw[he]at bp;exact⟨bp.1,fun i hi=>ag _ _ (bp.2 i hi)⟩
  ·rename_i he;rw[he]at bp;exact bp
 ·unfold lG at bp;split at bp
  ·rename_i he;obtain⟨i,hi⟩:=h _ _ _ _ _ _ _ he bp.1;exact⟨_,_,bp.2 i hi⟩
  ·exact bp.elim
end Go.ak
end
section
namespace Go.ak
def uN (ps:List aZ)(T:ae->List R->(ae->Prop)->Prop):gu:=fun args I K=>
 match args with
 | .vec id::br=>
  match cz (b_ I br) id,ae.at I id,Nat.beq (bS ps) (bS br),ed R.plain (aZ.eF I ps br)with
  |false, .ar an l,true,true=>T (.ar an l) (aZ.eF I ps br) fun ob=>K (.vec (bS I)) (ez (cK (b_ I br) id (true, .dead l.length an)) [(false,ob)])
  |_,_,_,_=>False
 |_=>False
def x0 (T:ae->List R->(ae->Prop)->Prop):Prop:=
 (∀o args (K K':ae->Prop),(∀r,K r->K' r)->T o args K->T o args K')/\∀o args K,T o args K->∃r,K r
theorem ZF {ps:List aZ}{T:ae->List R->(ae->Prop)->Prop}(h:x0 T):hy (uN ps T):=by
 refine⟨fun args I K K' ag bp=> ?_,fun args I K bp=> ?_⟩
 ·unfold uN at bp⊢;split
  ·rename_i id br;simp only at bp⊢;split
   ·rename_i an l ab ad aA ba;rw[ab,ad,aA,ba]at bp;exact h.1 _ _ _ _ (fun r ao=>ag _ _ ao) bp
   ·rename_i aj;split at bp
    ·rename_i an l ab ad aA ba;exact(aj an l ab ad aA ba).elim
    ·exact bp
  ·rename_i aj;split at bp
   ·exact(aj _ _ rfl).elim
   ·exact bp
 ·unfold uN at bp;split at bp
  ·split at bp
   ·obtain⟨r,ao⟩:=h.2 _ _ _ bp;exact⟨_,_,ao⟩
   ·exact bp.elim
  ·exact bp.elim
def ED (K:ae->Prop)(v:R)(I:aD):Prop:=
 match v with
 | .vec j=>(match cz I j,ae.at I j with|false, .ar an l=>K (.ar an l)|_,_=>False)
 |_=>False
section
variable {P:Program}
theorem ZG (E:bA)(c3:gn P E)
 {f:FuncId} {fn:Func} {c:Code} (aU:P.funcs[f]? =some fn) (ah:fn.body=some c) (aB:(fn.name== "runtime.NumGoroutine")=false) {r:Tmp} (ao:fn.results=[ResultVar.tmp r].toArray)
 {ps:List aZ} {T:ae->List R->(ae->Prop)->Prop} (fL:∀an l args K,T (.ar an l) args K->mU E fn.ntmps [.tmp r] c (.vec 0::args) [(false, .ar an l)] (ED K)):h1 P f (uN ps T):=by
 refine⟨⟨fn,aU,by rw[ah];rfl,aB⟩, ?_⟩;intro N ρ I w args cn K h aF ax aR;unfold uN at h;split at h;rotate_left
 ·exact h.elim
 rename_i id br;split at h;rotate_left
 ·exact h.elim
 rename_i an l ab ad aA ba;have hlen:ps.length=br.length:=by have:=apC aA;rwa [cI,cI]at this
 obtain⟨s1,s2,jo,lj⟩:=oS br I aF;have gl:(b_ I br).length=I.length:=by rw[<-s1.rel.len,aF.len]
 generalize S_:b_ I br=cO at*
 have nu:id<cO.length:=by
  rcases aq5 id cO.length with h|h
  ·exact h
  ·rw[IJ _ _ h]at ab;cases ab
 have zM:id<ρ.length:=by rw[s1.rel.len];exact nu
 have dg:ρ[id]? =some ρ[id]:=by simp[zM]
 have Aa:ae.at cO id= .ar an l:=by rw[s2,ad]
 have xl:=pZ I ps br hlen;have FX:bH (aK N ρ I) w ρ I (.vec id) (cn.getD 0 undef):=by simpa using aR 0 (by simp)
 have vh:=s1.kd FX;have lK:=s1.rel.ob id _ dg;rw[Aa]at lK
 have iw:∀b,ρ[id].bs=some b->aK N ρ cO b:=fun b ah=> .inr ⟨id,ρ[id],dg,ah,ab⟩
 have u3:∀b,aK (fun b=>aK N ρ cO b/\ρ[id].bs≠some b) [ρ[id]] [(false, .ar an l)] b->aK N ρ cO b:=fun b ah=>by
  rcases ah with ah|⟨i,av,az,aJ,_⟩
  ·exact ah.1
  ·cases i with
   |zero=>simp at az;subst az;exact iw b aJ
   |succ i=>simp at az
 have qf:∀x u,bB (aK N ρ cO) w x u->bB (aK (fun b=>aK N ρ cO b/\ρ[id].bs≠some b) [ρ[id]] [(false, .ar an l)]) w x u:=
  fun x u aj=>aj.mono fun b _ bm=>⟨rfl,fun db=>bm (u3 b db)⟩
 have hM:cw (fun b=>aK N ρ cO b/\ρ[id].bs≠some b) [ρ[id]] [(false, .ar an l)] w:=
  {len:=rfl
   e3:=fun b ah=>by
    rcases ah.1 with ah|⟨i,av,az,aJ,_⟩
    ·exact aF.e3 b ah
    ·exact aF.lt i av b az aJ
   lt:=fun i av b az aJ=>by
    cases i with
    |zero=>simp at az;subst az;exact aF.lt id _ b dg aJ
    |succ i=>simp at az
   inj:=fun i j li cA b az aJ _ _ _ _=>by
    cases i with
    |zero=>cases j with
     |zero=>rfl
     |succ j=>simp at aJ
    |succ i=>simp at az
   fz:=fun i av b az aJ ah=>by
    cases i with
    |zero=>simp at az;subst az;exact ah.2 aJ
    |succ i=>simp at az
   ob:=fun i av az=>by
    cases i with
    |zero=>simp at az;subst az;exact wx (ob:= .ar an l) rfl lK (fun _ _=>rfl) qf
    |succ i=>simp at az}
 have fR:∀i,i<(R.vec 0::aZ.eF I ps br).length->bH (aK (fun b=>aK N ρ cO b/\ρ[id].bs≠some b) [ρ[id]] [(false, .ar an l)]) w [ρ[id]] [(false, .ar an l)] ((R.vec 0::aZ.eF I ps br).getD i .un) (cn.getD i undef):=fun i hi=>by
  cases i with
  |zero=>
   obtain⟨av,az,aJ,qS⟩:=vh;rw[dg]at az;obtain rfl:=apK az;exact .c7 ⟨ρ[id],rfl,by rw[aJ,Aa];rfl,qS⟩
  |succ i=>
   have hi:i<(aZ.eF I ps br).length:=by simpa using hi
   obtain⟨t,e⟩:=p0 I ps br hlen i (by omega);have aE:=mR ba .un i hi;have qM:=s1.kd (aR (i+1) (by simp;omega));simp only[List.getD_cons_succ]at qM⊢;rw[e]at aE⊢;exact .hn (oT aE (oU s1.rel s2 t aE qM fun j aO=>lj i j (by omega) aO) qf)
 refine(yJ E c3 aU ah ao (fL _ _ _ _ h) hM (by simp at ax⊢;omega) fR).mono ?_;rintro e w' ⟨rs,al,ρ',aH,rfl,de,l2,ag,bM,cy,fs⟩;simp only[aqX,ap1]at de l2⊢
 match rs,aH,de,l2 with
 |[x],[u],fX,gg=>
 clear fX gg;have aj:bH (aK (fun b=>aK N ρ cO b/\ρ[id].bs≠some b) ρ' al) w' ρ' al x u:=fs 0
 replace ag:ED (fun ob=>K (.vec (bS I)) (ez (cK cO id (true, .dead l.length an)) [(false,ob)])) x al:=ag
 unfold ED at ag
 have aI:∃j,x= .vec j:=by cases x<;>first|exact⟨_,rfl⟩|exact ag.elim
 obtain⟨j,rfl⟩:=aI;simp only at ag;split at ag;rotate_left
 ·exact ag.elim
 rename_i ic cm g1 g2;obtain⟨cA,kr,hu,vw⟩:=aj;rw[g2]at hu;have TD:=bM.ob j cA kr;rw[g2]at TD
 have rK:∃mJ:Loc,mJ.a=cA.a/\mJ.cap=cA.cap/\(∀b,mJ.bs=some b->(ρ[id].bs=some b\/w.heap.size<=b)/\b<w'.heap.size/\aK (fun b=>aK N ρ cO b/\ρ[id].bs≠some b) ρ' al b)/\
  ∀Z' dF kT,(∀x u,bB (aK (fun b=>aK N ρ cO b/\ρ[id].bs≠some b) ρ' al) w' x u->bB Z' w' x u)->hS Z' w' dF kT mJ (.ar ic cm):=by
  rcases TD with⟨q1,cG⟩|⟨b,aH,e,aY,bj,bG,di,eK,lf,gC⟩
  ·exact⟨⟨cA.a,cA.cap,none⟩,rfl,rfl,fun b ah=>(by cases ah),fun Z' dF kT _=> .inl ⟨q1,cG⟩⟩
  ·have gM:gi ρ' al b:=⟨j,cA,kr,bj,g1⟩;refine⟨cA,rfl,rfl,fun df ew=> ?_,fun Z' dF kT ao=> .inr ⟨b,aH,e,aY,bj,bG,di,eK,lf,fun q c a6 aC=> ?_⟩⟩
   ·rw[bj]at ew;obtain rfl:=apK ew;refine⟨?_,bM.lt j cA b kr bj, .inr gM⟩;rcases cy.alive b gM with⟨i,li,az,aJ,_⟩|h
    ·cases i with
     |zero=>simp at az;subst az;exact .inl aJ
     |succ i=>simp at az
    ·exact .inr h
   ·obtain⟨v,aO,qD⟩:=gC q c a6 aC;exact⟨v,aO,ao _ _ qD⟩
 obtain⟨mJ,Gx,GA,Ae,akg⟩:=rK;have Ta:=s1.rel.len
 have cR:∀i,ae.at (cO.set id (true, .dead l.length an)++[(false, .ar ic cm)]) i=if i=cO.length then .ar ic cm else if i=id then .dead l.length an else ae.at cO i:=fun i=>by
  rw[fQ,apL];split
  ·rfl
  ·rw[gG]
   by_cases e:i=id
   ·subst e;rw[apz ⟨rfl,nu⟩,apz rfl]
   ·rw[apy (fun x=>e x.1.symm),apy e]
 have ep:∀i,cz (cO.set id (true, .dead l.length an)++[(false, .ar ic cm)]) i=if i=cO.length then false else if i=id then true else cz cO i:=fun i=>by
  rw[jJ,apL];split
  ·rfl
  ·rw[h9]
   by_cases e:i=id
   ·subst e;rw[apz ⟨rfl,nu⟩,apz rfl]
   ·rw[apy (fun x=>e x.1.symm),apy e]
 have get:∀i li,(ρ++[mJ])[i]? =some li->(i=cO.length/\li=mJ)\/(i<cO.length/\ρ[i]? =some li):=fun i li hi=>by
  rw[ap7]at hi;split at hi
  ·exact .inr ⟨by omega,hi⟩
  ·cases a_:i-ρ.length with
   |zero=>simp[a_]at hi;exact .inl ⟨by omega,hi.symm⟩
   |succ m=>simp[a_]at hi
 have s7:∀i,i<cO.length->¬hx (cO.set id (true, .dead l.length an)++[(false, .ar ic cm)]) i->i≠id/\¬hx cO i:=fun i hi ay=>by
  have dn:i≠id:=fun e=>ay ⟨by rw[ep,apy (by omega),apz e],l.length,an,by rw[cR,apy (by omega),apz e]⟩;exact⟨dn,fun⟨f,m,s,e⟩=>ay ⟨by rw[ep,apy (by omega),apy dn];exact f,m,s,by rw[cR,apy (by omega),apy dn];exact e⟩⟩
 have apart:∀i li b,i<cO.length->i≠id->¬hx cO i->ρ[i]? =some li->li.bs=some b->ρ[id].bs≠some b:=fun i li b _ dn ay hi ah ew=>dn (s1.rel.inj i id li _ b hi dg ah ew ay (lu ab))
 have uM:∀b,gi (ρ++[mJ]) (cO.set id (true, .dead l.length an)++[(false, .ar ic cm)]) b->gi ρ cO b\/w.heap.size<=b:=fun b ⟨i,li,aY,bj,bG⟩=>by
  rcases get i li aY with⟨rfl,rfl⟩|⟨hi,aY⟩
  ·rcases(Ae b bj).1 with ah|ah
   ·exact .inl ⟨id,_,dg,ah,ab⟩
   ·exact .inr ah
  ·rw[ep,apy (by omega)]at bG;split at bG
   ·cases bG
   ·exact .inl ⟨i,li,aY,bj,bG⟩
 have pa:∀x,x<w.heap.size->ρ[id].bs≠some x->w'.heap[x]? =w.heap[x]? :=fun x aj dn=>cy.aq x aj fun⟨i,li,aY,bj,_⟩=>by
  cases i with
  |zero=>simp at aY;subst aY;exact dn bj
  |succ i=>simp at aY
 have mu:Fr ρ cO w (ρ++[mJ]) (cO.set id (true, .dead l.length an)++[(false, .ar ic cm)]) w':=
  ⟨cy.os,cy.tape,cy.output,cy.size,fun x aj tC=>pa x aj fun ah=>tC ⟨id,_,dg,ah,ab⟩,uM⟩
 have e1:∀i,eQ ρ cO (ρ++[mJ]) (cO.set id (true, .dead l.length an)++[(false, .ar ic cm)]) i:=fun i li hi=>by
  have eY:=s1.rel.j0 hi;refine⟨by rw[aqr (by omega)];exact hi, ?_⟩;rw[cR,apy (by omega)]
  by_cases e:i=id
  ·subst e;rw[apz rfl,Aa];exact⟨rfl,rfl⟩
  ·rw[apy e];exact⟨rfl,rfl⟩
 have nd:∀b,aK N (ρ++[mJ]) (cO.set id (true, .dead l.length an)++[(false, .ar ic cm)]) b->aK (fun b=>aK N ρ cO b/\ρ[id].bs≠some b) ρ' al b:=fun b ah=>by
  rcases ah with ah|⟨i,li,aY,bj,bG⟩
  ·exact .inl ⟨.inl ah,fun e=>aF.fz id _ b dg e ah⟩
  ·rcases get i li aY with⟨rfl,rfl⟩|⟨hi,aY⟩
   ·exact(Ae b bj).2.2
   ·rw[ep,apy (by omega)]at bG;split at bG
    ·cases bG
    ·rename_i dn;exact .inl ⟨.inr ⟨i,li,aY,bj,bG⟩,apart i li b hi dn (lu bG) aY bj⟩
 have zN:cw N (ρ++[mJ]) (cO.set id (true, .dead l.length an)++[(false, .ar ic cm)]) w':=
  {len:=by simp[Ta]
   e3:=fun b ah=>apW (aF.e3 b ah) cy.size
   lt:=fun i li b hi ah=>by
    rcases get i li hi with⟨_,rfl⟩|⟨_,hi⟩
    ·exact(Ae b ah).2.1
    ·exact apW (aF.lt i li b hi ah) cy.size
   inj:=fun i j li cA b hi aI nb nc jA ka=>by
    have one:∀j cA,j<cO.length->ρ[j]? =some cA->cA.bs=some b->mJ.bs=some b->¬hx (cO.set id (true, .dead l.length an)++[(false, .ar ic cm)]) j->False:=fun j cA ks nI nc FK ka=>by
     obtain⟨fg,hX⟩:=s7 j ks ka;rcases(Ae b FK).1 with ah|ah
     ·exact apart j cA b ks fg hX nI nc ah
     ·have:=aF.lt j cA b nI nc;omega
    rcases get i li hi with⟨az,Kd⟩|⟨lQ,xR⟩<;>rcases get j cA aI with⟨aJ,Ke⟩|⟨ks,nI⟩
    ·omega
    ·exact(one j cA ks nI nc (Kd▸nb) ka).elim
    ·exact(one i li lQ xR nb (Ke▸nc) jA).elim
    ·exact s1.rel.inj i j li cA b xR nI nb nc (s7 i lQ jA).2 (s7 j ks ka).2
   fz:=fun i li b hi ah hQ=>by
    rcases get i li hi with⟨_,rfl⟩|⟨_,hi⟩
    ·rcases(Ae b ah).1 with ah|ah
     ·exact aF.fz id _ b dg ah hQ
     ·have:=aF.e3 b hQ;omega
    ·exact aF.fz i li b hi ah hQ
   ob:=fun i li hi=>by
    rw[cR];rcases get i li hi with⟨rfl,rfl⟩|⟨lQ,hi⟩
    ·rw[apz rfl];exact akg _ _ _ fun x u aj=>aj.mono fun y _ bm=>⟨rfl,fun db=>bm (nd y db)⟩
    ·rw[apy (by omega)];split
     ·trivial
     ·rename_i dn
      by_cases sp:hx cO i
      ·obtain⟨_,m,s,e⟩:=sp;rw[e];trivial
      ·exact(s1.rel.ob i li hi).mono (fun b ah=>pa b (aF.lt i li b hi ah) (apart i li b lQ dn sp hi ah)) (fun _ _=>mu.reads) fun _ _ _ idx _ _=>e1 idx}
 refine⟨_,_,ρ++[mJ],u,rfl,ag,s1.trans ?_, ?_⟩
 ·rw[eE,fC];exact{mu with rel:=zN,same:=e1}
 ·rw[eE,fC,cI,<-gl];refine .c7 ⟨mJ,by rw[<-Ta];simp, ?_,fun h=>by rw[GA];exact vw (by rw[<-Gx];exact h)⟩;rw[cR,apz rfl,hu,Gx,GA]
end
def xr (S:ae->List R->Option (Prop×ae)):ae->List R->(ae->Prop)->Prop:=fun o args K=>match S o args with|some (p,r)=>p/\K r|none=>False
theorem acM (S:ae->List R->Option (Prop×ae)):x0 (xr S):=by
 refine⟨fun o args K K' ag h=> ?_,fun o args K h=> ?_⟩
 ·unfold xr at h⊢;split
  ·rename_i he;rw[he]at h;exact⟨h.1,ag _ h.2⟩
  ·rename_i he;rw[he]at h;exact h
 ·unfold xr at h;split at h
  ·exact⟨_,h.2⟩
  ·exact h.elim
def D2 (T:ae->List R->(ae->Prop)->Prop):ae->List R->(ae->Prop)->Prop:=fun o args K=>T o args fun r=>DJ K r
theorem Ps (T:ae->List R->(ae->Prop)->Prop):D2 T=T:=by
 funext o args K
 unfold D2
 congr 1
 funext r
 exact propext (by cases r<;>simp[DJ])
theorem aba {T:ae->List R->(ae->Prop)->Prop}(h:x0 T):x0 (D2 T):=by rw[Ps];exact h
end Go.ak
end
section
namespace List
def aS {α:Type}(l:List (List α))(i:Int):List α:=l.getD i.toNat []
def gV (r:List Go.ak.U):Go.ak.U:=r.getD 8 .undef
def fN (r:List Go.ak.U):Go.ak.U:=r.getD 9 .undef
def fO (r:List Go.ak.U):Go.ak.U:=r.getD 10 .undef
end List
namespace Go.ak
theorem ct {a b:Nat}(h:Nat.beq a b=true):a=b:=apC h
def ai (n:Int):Int:=IntKind.wrap .i64 n
def aX (n:Int):Int:=IntKind.wrap .u64 n
def bY (n:Int):Int:=IntKind.wrap .u32 n
def aT {α:Type}(l:List α):Int:=(Nat.cast:Nat->Int) (List.length l)
theorem akh {T:List R->(R->Prop)->Prop}{f:List R}(i:∀{a K},T a K->a=f){M:List R->(R->Prop)->Prop}(H:∀K,T f K->M f K)(a)(K)(h:T a K):M a K:=by
 obtain rfl:=i h;exact H K h
theorem hb {α:Type}{T:List R->(R->Prop)->Prop}{f:α->List R}(i:∀{a K},T a K->∃b4,a=(f b4)){M:List R->(R->Prop)->Prop}(H:∀b4 K,T (f b4) K->M (f b4) K)(a)(K)(h:T a K):M a K:=by
 obtain⟨b4,rfl⟩:=i h;exact H b4 K h
theorem gm {α β:Type}{T:List R->(R->Prop)->Prop}{f:α->β->List R}(i:∀{a K},T a K->∃b4 cl,a=(f b4 cl)){M:List R->(R->Prop)->Prop}(H:∀b4 cl K,T (f b4 cl) K->M (f b4 cl) K)(a)(K)(h:T a K):M a K:=by
 obtain⟨b4,cl,rfl⟩:=i h;exact H b4 cl K h
theorem jO {α β iY:Type}{T:List R->(R->Prop)->Prop}{f:α->β->iY->List R}(i:∀{a K},T a K->∃b4 cl cr,a=(f b4 cl cr)){M:List R->(R->Prop)->Prop}(H:∀b4 cl cr K,T (f b4 cl cr) K->M (f b4 cl cr) K)(a)(K)(h:T a K):M a K:=by
 obtain⟨b4,cl,cr,rfl⟩:=i h;exact H b4 cl cr K h
theorem UE {α β iY ll:Type}{T:List R->(R->Prop)->Prop}{f:α->β->iY->ll->List R}(i:∀{a K},T a K->∃b4 cl cr dj,a=(f b4 cl cr dj)){M:List R->(R->Prop)->Prop}(H:∀b4 cl cr dj K,T (f b4 cl cr dj) K->M (f b4 cl cr dj) K)(a)(K)(h:T a K):M a K:=by
 obtain⟨b4,cl,cr,dj,rfl⟩:=i h;exact H b4 cl cr dj K h
theorem aki {α β iY ll v_:Type}{T:List R->(R->Prop)->Prop}{f:α->β->iY->ll->v_->List R}(i:∀{a K},T a K->∃b4 cl cr dj hD,a=(f b4 cl cr dj hD)){M:List R->(R->Prop)->Prop}(H:∀b4 cl cr dj hD K,T (f b4 cl cr dj hD) K->M (f b4 cl cr dj hD) K)(a)(K)(h:T a K):M a K:=by
 obtain⟨b4,cl,cr,dj,hD,rfl⟩:=i h;exact H b4 cl cr dj hD K h
theorem oz {α β iY ll v_ am_:Type}{T:List R->(R->Prop)->Prop}{f:α->β->iY->ll->v_->am_->List R}(i:∀{a K},T a K->∃b4 cl cr dj hD tY,a=(f b4 cl cr dj hD tY)){M:List R->(R->Prop)->Prop}(H:∀b4 cl cr dj hD tY K,T (f b4 cl cr dj hD tY) K->M (f b4 cl cr dj hD tY) K)(a)(K)(h:T a K):M a K:=by
 obtain⟨b4,cl,cr,dj,hD,tY,rfl⟩:=i h;exact H b4 cl cr dj hD tY K h
theorem Ku {α:Type}{T:List R->(ae->Prop)->Prop}{f:α->List R}(i:∀{a K},T a K->∃b4,a=(f b4)){M:List R->(ae->Prop)->Prop}(H:∀b4 K,T (f b4) K->M (f b4) K)(a)(K)(h:T a K):M a K:=by
 obtain⟨b4,rfl⟩:=i h;exact H b4 K h
theorem UF {α β:Type}{T:List R->(ae->Prop)->Prop}{f:α->β->List R}(i:∀{a K},T a K->∃b4 cl,a=(f b4 cl)){M:List R->(ae->Prop)->Prop}(H:∀b4 cl K,T (f b4 cl) K->M (f b4 cl) K)(a)(K)(h:T a K):M a K:=by
 obtain⟨b4,cl,rfl⟩:=i h;exact H b4 cl K h
theorem FZ {α:Type}{T:R->ae->List R->(ae->R->Prop)->Prop}{g:α->R}{o:α->ae}{f:α->List R}(i:∀{a0 b0} {a K},T a0 b0 a K->∃b4,a0=(g b4)/\b0=(o b4)/\a=(f b4)){M:R->ae->List R->(ae->R->Prop)->Prop}(H:∀b4 K,T (g b4) (o b4) (f b4) K->M (g b4) (o b4) (f b4) K)(a0 b0)(a)(K)(h:T a0 b0 a K):M a0 b0 a K:=by
 obtain⟨b4,rfl,rfl,rfl⟩:=i h;exact H b4 K h
theorem UG {α β:Type}{T:R->ae->List R->(ae->R->Prop)->Prop}{g:α->β->R}{o:α->β->ae}{f:α->β->List R}(i:∀{a0 b0} {a K},T a0 b0 a K->∃b4 cl,a0=(g b4 cl)/\b0=(o b4 cl)/\a=(f b4 cl)){M:R->ae->List R->(ae->R->Prop)->Prop}(H:∀b4 cl K,T (g b4 cl) (o b4 cl) (f b4 cl) K->M (g b4 cl) (o b4 cl) (f b4 cl) K)(a0 b0)(a)(K)(h:T a0 b0 a K):M a0 b0 a K:=by
 obtain⟨b4,cl,rfl,rfl,rfl⟩:=i h;exact H b4 cl K h
theorem k9 {α β iY:Type}{T:R->ae->List R->(ae->R->Prop)->Prop}{g:α->β->iY->R}{o:α->β->iY->ae}{f:α->β->iY->List R}(i:∀{a0 b0} {a K},T a0 b0 a K->∃b4 cl cr,a0=(g b4 cl cr)/\b0=(o b4 cl cr)/\a=(f b4 cl cr)){M:R->ae->List R->(ae->R->Prop)->Prop}(H:∀b4 cl cr K,T (g b4 cl cr) (o b4 cl cr) (f b4 cl cr) K->M (g b4 cl cr) (o b4 cl cr) (f b4 cl cr) K)(a0 b0)(a)(K)(h:T a0 b0 a K):M a0 b0 a K:=by
 obtain⟨b4,cl,cr,rfl,rfl,rfl⟩:=i h;exact H b4 cl cr K h
theorem nf {α β iY ll:Type}{T:R->ae->List R->(ae->R->Prop)->Prop}{g:α->β->iY->ll->R}{o:α->β->iY->ll->ae}{f:α->β->iY->ll->List R}(i:∀{a0 b0} {a K},T a0 b0 a K->∃b4 cl cr dj,a0=(g b4 cl cr dj)/\b0=(o b4 cl cr dj)/\a=(f b4 cl cr dj)){M:R->ae->List R->(ae->R->Prop)->Prop}(H:∀b4 cl cr dj K,T (g b4 cl cr dj) (o b4 cl cr dj) (f b4 cl cr dj) K->M (g b4 cl cr dj) (o b4 cl cr dj) (f b4 cl cr dj) K)(a0 b0)(a)(K)(h:T a0 b0 a K):M a0 b0 a K:=by
 obtain⟨b4,cl,cr,dj,rfl,rfl,rfl⟩:=i h;exact H b4 cl cr dj K h
theorem F0 {α β iY ll v_:Type}{T:R->ae->List R->(ae->R->Prop)->Prop}{g:α->β->iY->ll->v_->R}{o:α->β->iY->ll->v_->ae}{f:α->β->iY->ll->v_->List R}(i:∀{a0 b0} {a K},T a0 b0 a K->∃b4 cl cr dj hD,a0=(g b4 cl cr dj hD)/\b0=(o b4 cl cr dj hD)/\a=(f b4 cl cr dj hD)){M:R->ae->List R->(ae->R->Prop)->Prop}(H:∀b4 cl cr dj hD K,T (g b4 cl cr dj hD) (o b4 cl cr dj hD) (f b4 cl cr dj hD) K->M (g b4 cl cr dj hD) (o b4 cl cr dj hD) (f b4 cl cr dj hD) K)(a0 b0)(a)(K)(h:T a0 b0 a K):M a0 b0 a K:=by
 obtain⟨b4,cl,cr,dj,hD,rfl,rfl,rfl⟩:=i h;exact H b4 cl cr dj hD K h
theorem akj {α:Type}{T:ae->List R->(ae->Prop)->Prop}{o:α->ae}{f:α->List R}(i:∀{b0} {a K},T b0 a K->∃b4,b0=(o b4)/\a=(f b4)){M:ae->List R->(ae->Prop)->Prop}(H:∀b4 K,T (o b4) (f b4) K->M (o b4) (f b4) K)(b0)(a)(K)(h:T b0 a K):M b0 a K:=by
 obtain⟨b4,rfl,rfl⟩:=i h;exact H b4 K h
end Go.ak
end
section
namespace Go.ak
open Go.RowKit
def I7 (k:IntKind)(w:World)(a:Option Addr)(len cap:Nat)(mL:List Int):Prop:=
 (a=none/\len=0/\cap=0/\mL=[])\/
 ∃x,a=some x/\len<=cap/\cap<=maxLen/\mL.length=cap/\(∀i,i<mL.length->w.cell? (x.add i)=some (.int k (mL.getD i 0)))/\∀n∈mL,(Lit.int k n).wf=true
def tM (_:Nat):Prop:=False
theorem abo {w:World}{a:Addr}{v:Value}(h:w.cell? a=some v):a.spot=none:=by
 unfold World.cell? at h;split at h
 ·split at h
  ·cases h
  ·rename_i ay
   cases aR:a.spot with
   |none=>rfl
   |some x=>rw[aR]at ay;simp at ay
 ·cases h
theorem abp {k:IntKind}{w:World}{a:Option Addr}{len cap:Nat}{mL:List Int}(h:I7 k w a len cap mL):bB tM w (.af k (mL.take len)) (.slice a len cap):=by
 rcases h with⟨rfl,rfl,rfl,rfl⟩|⟨x,rfl,ax,hm,bm,aC,hw⟩
 ·exact .jt _ _ _
 ·by_cases bc:len=0
  ·subst bc;rw[List.take_zero];exact .jt _ _ _
  ·have ay:x.spot=none:=by
    have:=aC 0 (by omega);exact abo this
   obtain⟨b,off,sp⟩:=x;simp only at ay;subst ay;refine .af k _ len b off cap (by rw[ap_];omega) (fun h=>h) ax fun i hi=> ?_;have r3:=aC i (by omega)
   have az:Addr.add ⟨b,off,none⟩ i=⟨b,off+i,none⟩:=by
    unfold Addr.add;split
    ·rename_i e;subst e;rfl
    ·rfl
   rw[az]at r3;rw[r3]
   congr 2
   simp only[apA,aqq];rw[apz hi]
theorem afk {k:IntKind}{w:World}{a:Option Addr}{len cap:Nat}{mL:List Int}(h:I7 k w a len cap mL):∀n∈mL.take len,k.min<=n/\n<=k.max:=fun n aB=>by
 rcases h with⟨rfl,rfl,rfl,rfl⟩|⟨x,rfl,ax,hm,bm,aC,hw⟩
 ·cases aB
 ·have:=hw n (List.mem_of_mem_take aB);simpa[Lit.wf]using this
theorem afl {k:IntKind}{n:Int}(h:(Lit.int k n).wf=true):k.min<=n/\n<=k.max:=by simpa[Lit.wf]using h
theorem abq {P:Program}{f:FuncId}{ps:List aZ}{T:List R->(R->Prop)->Prop}(h:h1 P f (iJ ps T)){xs:List U}{cn:Array Value}{w:World}
 (bp:iJ ps T (bE .d xs) [] fun r _=>r= .d (.bool true)) (ax:xs.length=cn.size) (aR:∀i,i<xs.length->bB tM w (xs.getD i .undef) (cn.getD i undef)):
 Calls P f cn w fun e w'=>e= .returned (.bool true)/\Below w.heap.size w w':=by
 have bm:∀b,¬aK tM [] [] b:=fun b ah=>by
  rcases ah with ah|⟨i,av,az,_⟩
  ·exact ah
  ·simp at az
 have bM:cw tM [] [] w:=
  {len:=rfl
   e3:=fun b ah=>ah.elim
   lt:=fun i av b e=>by simp at e
   inj:=fun i j li cA b e=>by simp at e
   fz:=fun i av b e=>by simp at e
   ob:=fun i av e=>by simp at e}
 have UK:(bE R.d xs).length=xs.length:=by rw[dP,apI]
 refine(h.2 tM [] [] w (bE .d xs) cn _ bp bM (by rw[UK];exact ax) fun i hi=> ?_).mono ?_
 ·rw[UK]at hi
  have e:(bE R.d xs).getD i .un= .d (xs.getD i .undef):=by
   rw[dP];simp[apA,hi]
  rw[e];exact .c7 ((aR i hi).mono fun b _ ah=>⟨rfl,bm b⟩)
 ·rintro e w' ⟨r,al,ρ',v,rfl,rfl,ay,aO⟩;have aO:bB (aK tM ρ' al) w' (.bool true) v:=aO
  cases aO with
  |bool _=>exact⟨rfl,ay.os,ay.tape,ay.output,ay.size,fun k ag=>ay.aq k ag fun⟨i,av,az,_⟩=>by simp at az⟩
end Go.ak
end
section
namespace Go.Proofs
open Go.Shelf Go.RowKit
variable {P:Program} {ρ:Ren}
def lJ (T e:TypeId)(b:Nat)(fi:List Value)(w:World)(N:Nat->Prop):Prop:=
 ∃p v,(p= .pointer none\/p= .pointer (some ⟨b,0,none⟩))/\N b/\(∀g,v.ownBlock=some g->N g)/\w.heap[b]? =some (.cells #[p,v] T (0,0))/\w.ownsRow 0 e 1 v fi.length fi/\v.ownBlock≠some b
structure j_ (N:Nat->Prop)(w w':World):Prop where
 os:w'.os=w.os
 tape:w'.tape=w.tape
 output:w'.output=w.output
 size:w.heap.size<=w'.heap.size
 aq:∀k,k<w.heap.size->¬N k->w'.heap[k]? =w.heap[k]?
theorem lJ.at {T e:TypeId}{b:Nat}{fi:List Value}{w:World}{N:Nat->Prop}(h:lJ T e b fi w N):Lib.IsBuilder T e 0 b fi w:=by
 obtain⟨p,v,aE,_,_,ah,aF,aB⟩:=h;rcases aE with rfl|rfl
 ·exact .inl ⟨aqT _,v,ah,aF,aB⟩
 ·exact .inr ⟨aqT _,v,ah,aF,aB⟩
theorem lJ.aq {T e:TypeId}{b:Nat}{fi:List Value}{w w':World}{N nq:Nat->Prop}(h:lJ T e b fi w N)(hQ:∀x,N x->nq x)(ag:∀k,k<w.heap.size->N k->w'.heap[k]? =w.heap[k]?):lJ T e b fi w' nq:=by
 obtain⟨p,v,aE,ab,ad,ah,aF,aB⟩:=h;have bL:b<w.heap.size:=(arW.1 ah).1;refine⟨p,v,aE,hQ _ ab,fun g bh=>hQ _ (ad g bh),by rw[ag b bL ab];exact ah,⟨aF.1, ?_⟩,aB⟩;rcases aF.2 with bm|⟨g,cap,cur,rfl,aY,bj,bG⟩
 ·exact .inl bm
 ·exact .inr ⟨g,cap,cur,rfl,aY,by rw[ag g (arW.1 bj).1 (ad g rfl)];exact bj,bG⟩
theorem Yq {w:World}{B:Nat}{e:TypeId}{v:Value}{n:Nat}{xs:List Value}(h:w.ownsRow B e 1 v n xs):w.ownsRow 0 e 1 v n xs:=by
 refine⟨h.1, ?_⟩;rcases h.2 with bm|⟨g,cap,cur,rfl,_,k⟩
 ·exact .inl bm
 ·exact .inr ⟨g,cap,cur,rfl,aqT _,k⟩
theorem abI {w:World}(t u ty e:TypeId)(i:TypeInfo)(aw:P.underlying t=some (.slice e))(hu:P.underlying u=some .string)(hi:P.info? e=some i)(bm:i.zero=some (.int .u8 0))(oh:i.size=1)(nH:i.bytes=1)
 {v:Value} {n:Nat} {xs:List Value} (fa:w.ownsRow 0 e 1 v n xs) (s:ByteArray) (ah:n+s.size<=140737488355328):
 ∃c8 w',(Builtin.append_ #[t,u] ty #[v, .string s]).run P w= .ok c8 w'/\w'.ownsRow 0 e 1 c8 (n+s.size) (xs++Lib.strCells s)/\w.grownBy w' v.ownBlock/\∀g,c8.ownBlock=some g->v.ownBlock=some g\/w.heap.size<=g:=by
 have hm:n+s.size<=maxLen:=by unfold maxLen;omega
 rcases fa.2 with⟨rfl,rfl⟩|⟨g,cap,cur,rfl,_,bh,aB,pG,cx,KR⟩
 ·obtain⟨c8,w',ab,ad,aA,_⟩:=Lib.run_append_own_string w w.heap.size t u ty e i aw hu hi bm oh nH _ 0 xs ⟨fa.1, .inl ⟨rfl,rfl⟩⟩ s hm ah (apF _);exact⟨c8,w',ab,Yq ad,aA,fun g bh=> .inr (ad.lt g bh).1⟩
 ·obtain⟨c8,w',ab,ad,aA,_⟩:=Lib.run_append_own_string w 0 t u ty e i aw hu hi bm oh nH _ n xs fa s hm ah (aqT _);refine⟨c8,w',ab,ad,aA,fun k ag=> ?_⟩;have gp:Src P i.size u (.string s) s.size (Lib.strCells s) w:=by rw[oh];exact Src.ofString w hu s
  have xO:xs.length=n:=by simpa using fa.1
  by_cases ao:n+s.size<=cap
  ·have fq:=run_append_room_src (P:=P) w t u ty e i aw hi g 0 n cap (.string s) s.size (Lib.strCells s) gp ao
    (fun j aI=>by
      rw[Lib.strCells_length]at aI;rw[Lib.cell_of_heap bh,oh];have:0+n*1+j<cur.size:=by omega
      rw[arn this];rfl)
    (fun j _=>Lib.frozen_of_heap bh _)
   rw[fq]at ab;injection ab with az _;rw[<-az]at ag;exact .inl ag
  ·have hold:(Builtin.firstCells i.size n (.slice (some ⟨g,0,none⟩) n cap)).run P w.drew= .ok xs.toArray w.drew:=by
    rw[oh];refine run_firstCells_some w.drew 1 n ⟨g,0,none⟩ n cap xs (by omega) fun j x aI=> ?_;exact fa.cells (g:=g) rfl j x aI
   have fq:=run_append_grow_src (P:=P) w t u ty e i (.int .u8 0) aw hi bm (some ⟨g,0,none⟩) n cap xs hold (.string s) s.size (Lib.strCells s) gp (by omega) (by omega)
    (growslice_fits (by omega) (by rw[nH];omega))
   rw[fq]at ab;injection ab with az _;rw[<-az]at ag;simp only[Value.ownBlock,apX]at ag;exact .inr (by omega)
theorem abJ {w:World}{ops:Array Oper}{br:List Oper}{o:Oper}{a:Act}{Q:Exit->Act->World->Prop}(pr:o.guard=none)(V1 x:Operand)(t u:TypeId)
 (aF:o.op= .call {callee:= .builtin .append,args:=#[V1,x],argTypes:=#[t,u]}) (e:TypeId) (i:TypeInfo) (aw:P.underlying t=some (.slice e)) (hu:P.underlying u=some .string) (hi:P.info? e=some i)
 (bm:i.zero=some (.int .u8 0)) (oh:i.size=1) (nH:i.bytes=1) (v:Value) (n:Nat) (xs:List Value) (ay:a.eval V1=v) (fa:w.ownsRow 0 e 1 v n xs) (s:ByteArray) (aj:a.eval x= .string s) (ah:n+s.size<=140737488355328)
 (h:∀c8 w',w'.ownsRow 0 e 1 c8 (n+s.size) (xs++Lib.strCells s)->w.grownBy w' v.ownBlock->(∀g,c8.ownBlock=some g->v.ownBlock=some g\/w.heap.size<=g)->wpList P ops Q br (a.put o.dst c8) w'):wpList P ops Q (o::br) a w:=by
 refine wpList_plain pr fun K e5=> ?_;obtain⟨c8,w',ao,ad,aA,ba⟩:=abI (P:=P) t u o.type e i aw hu hi bm oh nH fa s ah;unfold Oper.wp execOp;simp only[aF,resolve,invoke,builtin,Sem.run_bind,Sem.run_pure,Result.andThen_ok,arE,ap2,List.map_nil,ay,aj,ao];exact e5 _ _ (h c8 w' ad aA ba)
theorem adn {f:FuncId}{T e:TypeId}(hu:∀(b:Nat) (w:World),w.cell? ⟨b,0,none⟩=some (.pointer (some ⟨b,0,none⟩))->Calls P f #[.pointer (some ⟨b,0,none⟩)] w fun r w'=>r= .returned (.tuple #[])/\w'=w)
 (cy:∀(b:Nat) (w:World),w.cell? ⟨b,0,none⟩=some (.pointer none)->w.shape? b=some (T,2)->w.frozen? ⟨b,0,none⟩=false->Calls P f #[.pointer (some ⟨b,0,none⟩)] w fun r w'=>r= .returned (.tuple #[])/\w'=w.setCell ⟨b,0,none⟩ (.pointer (some ⟨b,0,none⟩)))
 {b:Nat} {fi:List Value} {w:World} {p v:Value} (aE:p= .pointer none\/p= .pointer (some ⟨b,0,none⟩)) (ah:w.heap[b]? =some (.cells #[p,v] T (0,0)))
 (aF:w.ownsRow 0 e 1 v fi.length fi) (aB:v.ownBlock≠some b):
 Calls P f #[.pointer (some ⟨b,0,none⟩)] w fun r w1=>r= .returned (.tuple #[])/\w1.heap[b]? =some (.cells #[.pointer (some ⟨b,0,none⟩),v] T (0,0))/\w1.ownsRow 0 e 1 v fi.length fi/\w.grownBy w1 (some b):=by
 have bc:w.cell? ⟨b,0,none⟩=some p:=by rw[Lib.cell_of_heap ah];rfl
 rcases aE with rfl|rfl
 ·have cR:Lib.BuilderAt T e 0 b (.pointer none) fi w:=⟨aqT _,v,ah,aF,aB⟩;refine(cy b w bc cR.shape cR.frozen0).mono ?_;rintro r w1 ⟨rfl,rfl⟩
  have UX:w.grownBy (w.setCell ⟨b,0,none⟩ (.pointer (some ⟨b,0,none⟩))) (some b):=by
   refine⟨rfl,rfl,rfl,by simp[World.setCell],fun k _ ag=> ?_⟩;have:b≠k:=fun e=>ag (by rw[e]);simp[World.setCell,arF,this]
  refine⟨rfl, ?_,aF.kept UX (.inr aB),UX⟩;simp[World.setCell,arF,ah]
 ·refine(hu b w bc).mono ?_;rintro r w1 ⟨rfl,rfl⟩;exact⟨rfl,ah,aF,rfl,rfl,rfl,apF _,fun _ _ _=>rfl⟩
end Go.Proofs
end
section
namespace Go.ak
open Go.Proofs
structure hG where
 E:bA
 β:Tmp
 pU:TypeId
 l0:TypeId
 GD:FuncId
 GF:FuncId
 fuel:Nat
structure lp where
 tm:List R
 I:aD
 fi:Option (List Int)
def hG.other (X:hG)(o:Oper):Nat:=match fY o.dst (some X.β)with|true=>4|false=>0
def hG.cls (X:hG)(o:Oper):Nat:=
 match o.guard,o.op with
 |none, .alloc t=>(match Nat.beq t X.pU,fY o.dst (some X.β)with|true,true=>1|_,_=>X.other o)
 |none, .call c=>
  (match c.callee,fY o.dst (some X.β)with
  | .value (.func f),false=>
   (match Nat.beq f X.GD,Nat.beq f X.GF,c.args.toList with
   |true,_,[.tmp p,_]=>(match Nat.beq p X.β with|true=>2|false=>4)
   |_,true,[.tmp p]=>(match Nat.beq p X.β with|true=>3|false=>4)
   |_,_,_=>0)
  |_,_=>X.other o)
 |_,_=>X.other o
def JA (o:Oper):Operand:=
 match o.op with
 | .call c=>(match c.args.toList with|[_,x]=>x|_=> .const undef)
 |_=> .const undef
def Al (all:List Oper)(o:Oper)(tm:List R):List R:=
 match o.guard with
 |none=>tm
 |some (j,_)=>
  (match l7 all j with
  |none=>tm
  |some g=>(match b6 .un tm g with| .d (.bool b)=>(match b with|true=>cK tm g .bt|false=>cK tm g .bf)|_=>tm))
def hG.quiet (X:hG)(l:List Oper):Bool:=ed (fun o=>match fY o.dst (some X.β)with|true=>false|false=>true) l
def sM (X:hG)(all:List Oper):List Oper->lp->(lp->Prop)->Prop
 |[],S,K=>K S
 |o::br,S,K=>
  match Nat.beq (X.cls o) 0,Nat.beq (X.cls o) 2,Nat.beq (X.cls o) 3 with
  |true,_,_=>dw X.E.tb X.E.bz [] all [o] (Al all o S.tm) S.I fun tm I=>sM X all br ⟨tm,I,S.fi⟩ K
  |_,true,_=>
   (match S.fi,aN S.tm (JA o)with
   |some l, .d (.str s)=>l.length+s.length<=1000000000/\sM X all br ⟨put S.tm o.dst .any,S.I,some (l++s)⟩ K
   |_,_=>False)
  |_,_,true=>(match S.fi with|some l=>l≠[]/\sM X all br ⟨put S.tm o.dst (.d (.str l)),S.I,none⟩ K|none=>False)
  |_,_,_=>False
def EU (body:lp->(ht->lp->Prop)->Prop):Nat->lp->(ht->lp->Prop)->Prop
 |0,_,_=>False
 |n+1,S,K=>body S fun e S'=>match e with| .normal=>EU body n S' K|e=>K e S'
def ko (X:hG):Code->Nat->lp->(ht->lp->Prop)->Prop
 | .skip,_,S,K=>K .normal S
 | .label _,_,S,K=>K .normal S
 | .region id ops draw,bs,S,K=>
  match draw with
  |true=>(match ed (fun o=>Nat.beq (X.cls o) 0&&X.quiet [o]) ops.toList with|true=>gT X.E (.region id ops true) bs ⟨S.tm,S.I⟩ fun e S'=>K e ⟨S'.tm,S'.I,S.fi⟩|false=>False)
  |false=>
   (match ops.toList,S.fi,Nat.blt X.β (bS S.tm)with
   |[o],none,true=>(match Nat.beq (X.cls o) 1 with|true=>K .normal ⟨cK S.tm X.β .any,S.I,some []⟩|false=>(match X.quiet ops.toList with|true=>sM X ops.toList ops.toList S (K .normal)|false=>False))
   |_,_,_=>(match X.quiet ops.toList with|true=>sM X ops.toList ops.toList S (K .normal)|false=>False))
 | .seq a b,bs,S,K=>ko X a bs S fun e S'=>match e with| .normal=>ko X b bs S' K|e=>K e S'
 | .cond c a b,bs,S,K=>
  match aN S.tm c with
  | .bt=>ko X a bs S K
  | .bf=>ko X b bs S K
  | .d (.bool x)=>(match x with|true=>ko X a bs S K|false=>ko X b bs S K)
  |_=>False
 | .block id c,_,S,K=>ko X c id S fun e S'=>match e with| .exit i=>(match Nat.beq i id with|true=>K .normal S'|false=>K (.exit i) S')|e=>K e S'
 | .loop c,bs,S,K=>EU (ko X c bs) X.fuel S K
 | .exit id,_,S,K=>K (.exit id) S
 | .goto l,_,S,K=>K (.goto l) S
 | .ret,_,S,K=>K .ret S
 | .scope c,bs,S,K=>ko X c bs S fun e S'=>match e with| .goto _=>False|e=>K e S'
 | .refuse _,_,_,_=>False
 | .rangeFunc ..,_,_,_=>False
def sG (X:hG)(ntmps:Nat)(results:List ResultVar)(c:Code)(args:List R)(K:R->aD->Prop):Prop:=
 ko X c 1000000 ⟨pad ntmps args,[],none⟩ fun e S=>
  match e with
  | .normal| .ret=>(match lx X.E.tb S.tm S.I results with|true=>gI (jZ X.E.tb S.tm S.I results) (K (one (gZ X.E.tb S.tm S.I results)) S.I)|false=>False)
  |_=>False
structure Am (P:Program)(X:hG):Prop where
 write:∀(b:Nat) (fi:List Value) (s:ByteArray) (w:World) (N:Nat->Prop),lJ X.pU X.l0 b fi w N->fi.length+s.size<=140737488355328->
  Calls P X.GD #[.pointer (some ⟨b,0,none⟩), .string s] w fun r w'=>r= .returned (.tuple #[.int .i64 s.size, .nilIface])/\lJ X.pU X.l0 b (fi++Lib.strCells s) w' (fun x=>N x\/w.heap.size<=x)/\j_ N w w'
 read:∀(b:Nat) (l:List UInt8) (w:World) (N:Nat->Prop),lJ X.pU X.l0 b (Lib.byteCells l) w N->l≠[]->
  Calls P X.GF #[.pointer (some ⟨b,0,none⟩)] w fun r w'=>r= .returned (.string ⟨l.toArray⟩)/\j_ N w w'
 zero:∀w,(zeroValue X.pU).run P w= .ok (.agg #[.pointer none, .slice none 0 0]) w
 UY:∃fn,P.funcs[X.GD]? =some fn/\fn.body.isNone=false/\(fn.name== "runtime.NumGoroutine")=false
 UZ:∃fn,P.funcs[X.GF]? =some fn/\fn.body.isNone=false/\(fn.name== "runtime.NumGoroutine")=false
def TO (X:hG)(a:Act)(w:World)(M:Nat->Prop):Option (List Int)->Prop
 |none=>True
 |some l=>∃(b:Nat) (bytes:List UInt8),a.tmps.getD X.β undef= .pointer (some ⟨b,0,none⟩)/\X.β<a.tmps.size/\l=bytes.map (fun x=>(x.toNat:Int))/\lJ X.pU X.l0 b (Lib.byteCells bytes) w M
structure qx (X:hG)(oQ:Nat->Prop)(er:World)(S:lp)(a:Act)(w:World):Prop where
 ex:∃(N:Nat->Prop) (ρ:List Loc) (M:Nat->Prop),(∀b,oQ b->N b)/\eA N ρ S.tm S.I a w/\(∀b,gi ρ S.I b->er.heap.size<=b)/\(∀b,M b->N b/\er.heap.size<=b)/\TO X a w M S.fi
 Bz:j_ (fun _=>False) er w
theorem j_.refl (N:Nat->Prop)(w:World):j_ N w w:=⟨rfl,rfl,rfl,apF _,fun _ _ _=>rfl⟩
theorem lJ.lt {T e:TypeId}{b:Nat}{fi:List Value}{w:World}{N:Nat->Prop}(h:lJ T e b fi w N):lJ T e b fi w (fun x=>N x/\x<w.heap.size):=by
 obtain⟨p,v,aE,ab,ad,ah,aF,aB⟩:=h;exact⟨p,v,aE,⟨ab,(arW.1 ah).1⟩,fun g bh=>⟨ad g bh,(aF.lt g bh).2⟩,ah,aF,aB⟩
theorem eA.aside {N M:Nat->Prop}{ρ:List Loc}{tm:List R}{I:aD}{a:Act}{w w':World}(h:eA N ρ tm I a w)(aU:j_ M w w')(iE:∀b,M b->N b):
 eA (fun x=>N x\/(w.heap.size<=x/\x<w'.heap.size)) ρ tm I a w':=by
 have bm:∀b,b<w.heap.size->¬aK N ρ I b->¬aK (fun x=>N x\/(w.heap.size<=x/\x<w'.heap.size)) ρ I b:=fun b ah aB bm=>by
  rcases bm with(ab|ab)|ab
  ·exact aB (.inl ab)
  ·omega
  ·exact aB (.inr ab)
 have ao:∀x u,bB (aK N ρ I) w x u->bB (aK (fun x=>N x\/(w.heap.size<=x/\x<w'.heap.size)) ρ I) w' x u:=fun x u aj=>
  aj.mono fun b ah aB=>⟨aU.aq b ah fun hm=>aB (.inl (iE b hm)),bm b ah aB⟩
 refine⟨?_,⟨h.d_.size,fun t=>(h.d_.at_ t).mono ao fun id _=>eQ.refl ρ I id⟩,h.hP⟩;refine{len:=h.eG.len,e3:=fun b ah=> ?_,lt:=fun i av b ab ad=>apW (h.eG.lt i av b ab ad) aU.size,inj:=h.eG.inj,fz:=fun i av b ab ad aB=> ?_,ob:=fun i av ab=> ?_}
 ·rcases ah with ah|ah
  ·exact apW (h.eG.e3 b ah) aU.size
  ·exact ah.2
 ·rcases aB with aB|aB
  ·exact h.eG.fz i av b ab ad aB
  ·have:=h.eG.lt i av b ab ad;omega
 ·exact(h.eG.ob i av ab).mono (fun b ah=>aU.aq b (h.eG.lt i av b ab ah) fun hm=>h.eG.fz i av b ab ah (iE b hm)) ao fun _ _ _ id _ _=>eQ.refl ρ I id
section
variable {P:Program} {X:hG} {oQ:Nat->Prop} {er:World}
theorem j_.jy {M:Nat->Prop}{w w':World}(h:j_ (fun _=>False) er w)(k:j_ M w w')(iE:∀b,M b->er.heap.size<=b):j_ (fun _=>False) er w':=
 ⟨k.os.trans h.os,k.tape.trans h.tape,k.output.trans h.output,apS h.size k.size,fun b ah _=>by
  rw[k.aq b (apW ah h.size) fun hm=>by have:=iE b hm;omega,h.aq b ah fun h=>h]⟩
theorem OW {S:lp}{a cf:Act}{w w':World}{N:Nat->Prop}{ρ:List Loc}{M:Nat->Prop}(ab:∀b,oQ b->N b)(ad:eA N ρ S.tm S.I a w)(aA:∀b,gi ρ S.I b->er.heap.size<=b)
 (ba:∀b,M b->N b/\er.heap.size<=b) (bJ:TO X a w M S.fi) (aU:j_ (fun _=>False) er w) {wr:Tmp->Bool} (hw:wr X.β=false) {K:List R->aD->Prop}
 (aE:m7 N ρ S.I a w wr K cf w'):∃dL al,K dL al/\qx X oQ er ⟨dL,al,S.fi⟩ cf w':=by
 obtain⟨⟨dL,al,ρ',aY,bj,bG⟩,di,eK⟩:=aE
 have tC:∀b,M b->¬gi ρ S.I b:=fun b hm ⟨i,av,az,aJ,_⟩=>ad.eG.fz i av b az aJ (ba b hm).1
 refine⟨dL,al,aY,⟨N,ρ',M,ab,bj,fun b ah=> ?_,ba, ?_⟩,⟨bG.os.trans aU.os,bG.tape.trans aU.tape,bG.output.trans aU.output,apS aU.size bG.size,fun b ah _=> ?_⟩⟩
 ·rcases bG.alive b ah with ah|ah
  ·exact aA b ah
  ·exact apS aU.size ah
 ·cases tN:S.fi with
  |none=>trivial
  |some l=>
   rw[tN]at bJ;obtain⟨b,bytes,az,aJ,bX,cW⟩:=bJ;exact⟨b,bytes,by rw[di _ hw];exact az,by rw[eK];exact aJ,bX,cW.aq (fun _ h=>h) fun k ag hm=>bG.aq k ag (tC k hm)⟩
 ·rw[bG.aq b (apW ah aU.size) fun aR=>by have:=aA b aR;omega,aU.aq b ah fun h=>h]
theorem Z9 {o:Oper}{a:Act}{next next':Act->World->Prop}{Q lZ:Exit->Act->World->Prop}(aB:∀a w,next a w->next' a w)(a6:∀e a w,e≠ .normal->Q e a w->lZ e a w){r:Result Next}
 (h:o.upon P a next Q r):o.upon P a next' lZ r:=by
 unfold Oper.upon at h⊢;split at h
 ·exact aB _ _ h
 ·exact aB _ _ h
 ·exact aB _ _ h
 ·refine h.mono fun e w ao=> ?_
  cases e with
  |returned v=>exact aB _ _ ao
  |panicked c=>exact a6 _ _ _ (by nofun) ao
  |outgrown=>obtain⟨x,y,b5⟩:=ao;exact⟨x,y,a6 _ _ _ (by nofun) b5⟩
 ·exact h.mono fun v w ao=>aB _ _ ao
 ·exact a6 _ _ _ (by nofun) h
 ·exact h.elim
theorem abK {ops:Array Oper}{Q lZ:Exit->Act->World->Prop}{i:Nat}{br:List Nat}{a:Act}{w:World}(h:wpOps P ops lZ [i] a w)(ag:∀a w,lZ .normal a w->wpOps P ops Q br a w)
 (a6:∀e a w,e≠ .normal->¬lZ e a w):wpOps P ops Q (i::br) a w:=by
 simp only[wpOps]at h⊢;split
 ·rename_i aF;rw[aF]at h;exact ag _ _ h
 ·rename_i o aF;rw[aF]at h;simp only at h;split
  ·rename_i hw;rw[apz hw]at h;rcases h with h|⟨_,x,y,ad⟩
   ·exact .inl (Z9 ag (fun e a w aB b5=>(a6 e a w aB b5).elim) h)
   ·exact(a6 _ _ _ (by nofun) ad).elim
  ·rename_i hw;rw[apy hw]at h;exact ag _ _ h
theorem abL {o:Oper}{c:Call}{f:FuncId}(aF:o.op= .call c)(aC:c.callee= .value (.func f))(a:Act)(w:World):(execOp a.eval o).run P w=(callFunc f (c.args.map a.eval)).run P w:=by
 unfold execOp;rw[aF];simp only[resolve,aC,Deferred.ofValue,Act.eval,pure_bind,invoke];simp
theorem Z_ {f:FuncId}{cn:Array Value}{w:World}(h:∃fn,P.funcs[f]? =some fn/\fn.body.isNone=false/\(fn.name== "runtime.NumGoroutine")=false):(callFunc f cn).run P w= .ok (.enter f cn) w:=by
 obtain⟨fn,ab,ad,aA⟩:=h;simp only[callFunc,Sem.run_bind,run_program,Result.andThen_ok,ab,ad,aA];simp
theorem PR {a:Act}{dst:Option Tmp}{v:Value}{t:Tmp}(h:fY dst (some t)=false):(a.put dst v).tmps.getD t undef=a.tmps.getD t undef/\(a.put dst v).tmps.size=a.tmps.size:=by
 cases dst with
 |none=>exact⟨rfl,rfl⟩
 |some d=>
  have a_:d≠t:=fun e=>by subst e;simp[fY]at h
  exact⟨by rw[Act.put,wm,apy fun e=>a_ e.1],by simp[Act.put]⟩
theorem QZ {ops:Array Oper}(h:X.quiet ops.toList=true):pb ops X.β=false:=by
 unfold pb;rw[List.any_eq_false];intro o aF;unfold hG.quiet at h;rw[fD,apR]at h;have:=h o aF
 cases a_:o.dst with
 |none=>simp
 |some d=>
  rw[a_]at this;simp only[fY]at this;split at this
  ·cases this
  ·rename_i ah;simp[ah]
theorem ado {o:Oper}(h:X.cls o=2):∃c x,o.op= .call c/\o.guard=none/\c.callee= .value (.func X.GD)/\c.args=#[.tmp X.β,x]/\JA o=x/\fY o.dst (some X.β)=false:=by
 have other:X.other o≠2:=by unfold hG.other;split<;>simp
 unfold hG.cls at h;split at h
 ·split at h
  ·simp at h
  ·exact absurd h other
 ·rename_i c bh aF;split at h
  ·rename_i f aC a_;split at h
   ·rename_i p x aU aR;split at h
    ·rename_i aE;have az:=apC aU;have aJ:=apC aE;subst az aJ;refine⟨c,x,aF,bh,aC,by rw[<-Array.toList_inj];exact aR, ?_,a_⟩;unfold JA;simp only[aF,aR]
    ·simp at h
   ·split at h<;>simp at h
   ·simp at h
  ·exact absurd h other
 ·exact absurd h other
theorem aeJ {o:Oper}(h:X.cls o=3):∃c,o.op= .call c/\o.guard=none/\c.callee= .value (.func X.GF)/\c.args=#[.tmp X.β]/\fY o.dst (some X.β)=false:=by
 have other:X.other o≠3:=by unfold hG.other;split<;>simp
 unfold hG.cls at h;split at h
 ·split at h
  ·simp at h
  ·exact absurd h other
 ·rename_i c bh aF;split at h
  ·rename_i f aC a_;split at h
   ·split at h<;>simp at h
   ·rename_i p _ aU aR;split at h
    ·rename_i aE;have az:=apC aU;have aJ:=apC aE;subst az aJ;exact⟨c,aF,bh,aC,by rw[<-Array.toList_inj];exact aR,a_⟩
    ·simp at h
   ·simp at h
  ·exact absurd h other
 ·exact absurd h other
theorem adp {o:Oper}(h:X.cls o=1):o.op= .alloc X.pU/\o.guard=none/\o.dst=some X.β:=by
 have other:X.other o≠1:=by unfold hG.other;split<;>simp
 unfold hG.cls at h;split at h
 ·rename_i t bh aF;split at h
  ·rename_i ab ad;have az:=apC ab;subst az;refine⟨aF,bh, ?_⟩
   cases a_:o.dst with
   |none=>rw[a_]at ad;cases ad
   |some d=>
    rw[a_]at ad;simp only[fY]at ad;rw[apC ad]
  ·exact absurd h other
 ·rename_i c bh aF;split at h
  ·split at h
   ·split at h<;>simp at h
   ·split at h<;>simp at h
   ·simp at h
  ·exact absurd h other
 ·exact absurd h other
theorem aeK {s:ByteArray}{l:List Int}(h:l=s.data.toList.map fun b=>(b.toNat:Int)):∃bytes:List UInt8,bytes=s.data.toList/\l=bytes.map (fun x=>(x.toNat:Int)):=⟨_,rfl,h⟩
theorem Ni (c3:gn P X.E)(hg:Am P X)(ops:Array Oper)(a6:X.quiet ops.toList=true){K:lp->Prop}:
 ∀(is:List Nat),(∀i∈is,i<ops.size)->∀(S:lp) (a:Act) (w:World),sM X ops.toList (is.map fun i=>ops.toList.getD i default) S K->qx X oQ er S a w->
  wpOps P ops (fun e cf w'=>e= .normal/\∃S',K S'/\qx X oQ er S' cf w') is a w
 |[],_,S,a,w,h,eD=>⟨rfl,S,h,eD⟩
 |i::br,bL,S,a,w,h,eD=>by
  have hi:i<ops.size:=bL i (by simp);have aF:ops[i]? =some ops[i]:=by simp[hi]
  have m8:ops.toList.getD i default=ops[i]:=by simp[apA,hi]
  have bI:=Ni c3 hg ops a6 (K:=K) br (fun j aI=>bL j (by simp[aI]));simp only[ap2,m8]at h
  have ah:fY (ops[i]).dst (some X.β)=false:=by
   unfold hG.quiet at a6;rw[fD,apR]at a6;have:=a6 ops[i] (by simp);split at this
   ·cases this
   ·rename_i h;exact h
  have next:∀{c:Call} {f:FuncId} {cn:Array Value} {Q:Ending->World->Prop},(ops[i]).op= .call c->(ops[i]).guard=none->c.callee= .value (.func f)->c.args.map a.eval=cn->
   (∃fn,P.funcs[f]? =some fn/\fn.body.isNone=false/\(fn.name== "runtime.NumGoroutine")=false)->Calls P f cn w Q->
   (∀e w',Q e w'->∃v,e= .returned v/\wpOps P ops (fun e cf w'=>e= .normal/\∃S',K S'/\qx X oQ er S' cf w') br (a.put (ops[i]).dst v) w')->
   wpOps P ops (fun e cf w'=>e= .normal/\∃S',K S'/\qx X oQ er S' cf w') (i::br) a w:=by
   intro c f cn Q bO bh aC aO KS oi ag;simp only[wpOps,aF];rw[apz (by simp[Region.wanted,bh])];left;unfold Oper.wp;rw[abL bO aC,aO,Z_ KS,Oper.upon_enter];refine oi.mono fun e w' b5=> ?_;obtain⟨v,rfl,hw⟩:=ag e w' b5;exact hw
  unfold sM at h;split at h
  ·
   obtain⟨⟨N,ρ,M,ab,ad,aA,ba,bJ⟩,aU⟩:=eD
   have gk:eA N ρ (Al ops.toList ops[i] S.tm) S.I a w:=by
    unfold Al;split
    ·exact ad
    ·split
     ·exact ad
     ·rename_i g _;have cR:=ad.d_.at_ g;rw[<-dW]at cR;split
      ·rename_i b he;rw[he]at cR;have ah:=mM cR
       cases b with
       |true=>exact DE ad g ah
       |false=>exact DE ad g ah
      ·exact ad
   have JB:=Cp (P:=P) (N:=N) c3.ty c3.more c3.oy [] ops (fun i j o p d e id _ _ _ _ h=>by cases h) _ [i] (fun j aI=>by rw[aqy.1 aI];exact hi) (by simp) (Al ops.toList ops[i] S.tm) S.I a w ρ
    (fun j _ o d id _ _ h=>by cases h) (by simp only[ap2,List.map_nil,m8];exact h) gk
   refine abK JB (fun cf w' aE=> ?_) (fun e cf w' aB b5=>aB b5.1);obtain⟨dL,al,aY,bj⟩:=OW (S:=⟨Al ops.toList ops[i] S.tm,S.I,S.fi⟩) ab gk aA ba bJ aU (QZ a6) aE.2;exact bI ⟨dL,al,S.fi⟩ cf w' aY bj
  ·
   rename_i ku _;have ku:=apC ku;obtain⟨c,x,bO,bh,aC,fR,akP,_⟩:=ado ku;rw[akP]at h;split at h;rotate_left
   ·exact h.elim
   rename_i l s tN aj;obtain⟨hlen,h⟩:=h;obtain⟨⟨N,ρ,M,ab,ad,aA,ba,bJ⟩,aU⟩:=eD;rw[tN]at bJ;obtain⟨b,bytes,az,aJ,rfl,cW⟩:=bJ;have pw:=ey ad.d_ x;rw[aj]at pw;obtain⟨wb,eN,lP⟩:=uq pw;obtain⟨afs,akQ,akR⟩:=aeK lP
   have gj:(Lib.byteCells bytes).length+wb.size<=140737488355328:=by
    have gY:wb.size=s.length:=by rw[lP,apI,aqD];rfl
    rw[apI]at hlen;rw[Lib.byteCells_length,gY];omega
   refine next bO bh aC (cn:=#[.pointer (some ⟨b,0,none⟩), .string wb]) (by rw[fR];simp only[arE,ap2,List.map_nil];rw[eN];show#[a.tmps.getD X.β undef,_]=_;rw[az]) hg.UY (hg.write b _ wb w M cW gj) ?_
   rintro e w' ⟨rfl,aY,bj⟩;refine⟨_,rfl,bI ⟨_,_,_⟩ _ _ h ?_⟩;have nw:=ad.aside bj fun b hm=>(ba b hm).1;refine⟨⟨_,ρ,fun x=>(M x\/w.heap.size<=x)/\x<w'.heap.size,fun b ah=> .inl (ab b ah),⟨nw.eG,ei.put nw.d_ _ (v:= .tuple #[.int .i64 wb.size, .nilIface]) (t:= .any) trivial,by cases (ops[i]).dst<;>exact nw.hP⟩,aA,fun x aj=> ?_,b,bytes++afs, ?_, ?_, ?_, ?_⟩,j_.jy aU bj fun b hm=>(ba b hm).2⟩
   ·rcases aj.1 with hm|hm
    ·exact⟨.inl (ba x hm).1,(ba x hm).2⟩
    ·exact⟨.inr ⟨hm,aj.2⟩,apS aU.size hm⟩
   ·rw[(PR ah).1];exact az
   ·rw[(PR ah).2];exact aJ
   ·rw[akR,aqo]
   ·have:=lJ.lt aY;have jn:Lib.byteCells (bytes++wb.data.toList)=Lib.byteCells bytes++Lib.strCells wb:=aqo;rw[akQ,jn];exact this.aq (fun _ h=>h) fun _ _ _=>rfl
  ·
   rename_i ku _ _;have ku:=apC ku;obtain⟨c,bO,bh,aC,fR,_⟩:=aeJ ku;split at h;rotate_left
   ·exact h.elim
   rename_i l tN;obtain⟨dn,h⟩:=h;obtain⟨⟨N,ρ,M,ab,ad,aA,ba,bJ⟩,aU⟩:=eD;rw[tN]at bJ;obtain⟨b,bytes,az,aJ,rfl,cW⟩:=bJ;refine next bO bh aC (cn:=#[.pointer (some ⟨b,0,none⟩)]) (by rw[fR];simp only[arE,ap2,List.map_nil];show#[a.tmps.getD X.β undef]=_;rw[az]) hg.UZ (hg.read b _ w M cW fun e=>dn (by rw[e];rfl)) ?_
   rintro e w' ⟨rfl,bj⟩;refine⟨_,rfl,bI ⟨_,_,_⟩ _ _ h ?_⟩;have nw:=ad.aside bj fun b hm=>(ba b hm).1;refine⟨⟨_,ρ,fun _=>False,fun b ah=> .inl (ab b ah),⟨nw.eG,ei.put nw.d_ _ (v:= .string ⟨bytes.toArray⟩) (t:= .d (.str (bytes.map fun x=>(x.toNat:Int)))) (.c7 (bB.str _ _ (by simp))),by cases (ops[i]).dst<;>exact nw.hP⟩,aA,fun _ h=>h.elim,trivial⟩,j_.jy aU bj fun b hm=>(ba b hm).2⟩
  ·exact h.elim
theorem aaa (hg:Am P X){o:Oper}(aF:o.op= .alloc X.pU)(a:Act)(w:World):
 (execOp a.eval o).run P w= .ok (.value (.pointer (some ⟨w.heap.size,0,none⟩))) (w.alloc (.cells #[.pointer none, .slice none 0 0] X.pU)):=by
 have:=hg.zero w;unfold execOp;rw[aF];simp[Instr.alloc,this,newVar,newRow,Value.cells]
theorem aab (c3:gn P X.E)(hg:Am P X)(c:Code):∀(bs:Nat) (S:lp) (K:ht->lp->Prop) (a:Act) (w:World),ko X c bs S K->qx X oQ er S a w->
 c.wp P (fun e cf w'=>∃(cg:ht) (S':lp),e=cg.to/\K cg S'/\qx X oQ er S' cf w') a w:=by
 induction c with
 |skip=>intro bs S K a w h eD;exact wp_skip ⟨.normal,S,rfl,h,eD⟩
 |label l=>intro bs S K a w h eD;exact wp_label ⟨.normal,S,rfl,h,eD⟩
 |exit id=>intro bs S K a w h eD;exact wp_exit ⟨.exit id,S,rfl,h,eD⟩
 |goto l=>intro bs S K a w h eD;exact wp_goto ⟨.goto l,S,rfl,h,eD⟩
 |ret=>intro bs S K a w h eD;exact wp_ret ⟨.ret,S,rfl,h,eD⟩
 |region id ops draw=>
  intro bs S K a w h eD;unfold ko at h
  have walk:X.quiet ops.toList=true->sM X ops.toList ops.toList S (K .normal)->(Code.region id ops false).wp P (fun e cf w'=>∃(cg:ht) (S':lp),e=cg.to/\K cg S'/\qx X oQ er S' cf w') a w:=by
   intro a6 hw;refine wp_region (uk (fun e cf w' b5=> ?_) _ _ _ (Ni c3 hg ops a6 (K:=K .normal) (List.range ops.size) (fun i hi=>by simpa using hi) S a w (by rw[Rr];exact hw) eD));obtain⟨rfl,S',aY,bj⟩:=b5;exact⟨.normal,S',rfl,aY,bj⟩
  cases draw with
  |true=>
   simp only at h;split at h;rotate_left
   ·exact h.elim
   rename_i Fw;obtain⟨⟨N,ρ,M,ab,ad,aA,ba,bJ⟩,aU⟩:=eD
   have a6:X.quiet ops.toList=true:=by
    unfold hG.quiet;rw[fD,apR]at Fw⊢;intro o aF;have:=Fw o aF;rw[apM]at this;have ad:=this.2;unfold hG.quiet at ad;simp only[ed]at ad;split at ad
    ·assumption
    ·cases ad
   refine wp_mono (HH X.E c3 _ _ _ _ _ w ρ h ad) fun e cf w' b5=> ?_;obtain⟨cg,rfl,aE⟩:=b5;obtain⟨dL,al,aY,bj⟩:=OW ab ad aA ba bJ aU (QZ a6) aE;exact⟨cg,_,rfl,aY,bj⟩
  |false=>
   simp only at h;split at h
   ·rename_i o gl tN bL;split at h
    ·
     rename_i ku;have ku:=apC ku;obtain⟨bO,bh,a_⟩:=adp ku;have JB:ops=#[o]:=by rw[<-Array.toList_inj];exact gl
     subst JB;obtain⟨⟨N,ρ,M,ab,ad,aA,ba,bJ⟩,aU⟩:=eD
     have U0:X.β<S.tm.length:=by
      rw[cI]at bL;exact Nat.lt_of_succ_le (apZ bL)
     refine wp_region ?_;show wpOps P #[o] _ [0] a w;simp only[wpOps,List.getElem?_toArray,List.getElem?_cons_zero];rw[apz (by simp[Region.wanted,bh])];left;unfold Oper.wp;rw[aaa hg bO,Oper.upon_value];have bj:j_ (fun _=>False) w (w.alloc (.cells #[.pointer none, .slice none 0 0] X.pU)):=⟨rfl,rfl,rfl,by simp,fun k ag _=>Lib.alloc_old w _ k ag⟩;have nw:=ad.aside bj fun b hm=>hm.elim;have cx:(w.alloc (.cells #[.pointer none, .slice none 0 0] X.pU)).heap.size=w.heap.size+1:=by simp
     refine⟨.normal,_,rfl,h,⟨_,ρ,fun x=>x=w.heap.size,fun b ah=> .inl (ab b ah),⟨nw.eG, ?_, ?_⟩,aA,fun x aj=> ?_, ?_⟩,j_.jy aU bj fun b hm=>hm.elim⟩
     ·have:=ei.put nw.d_ o.dst (v:= .pointer (some ⟨w.heap.size,0,none⟩)) (t:= .any) trivial;rw[a_]at this⊢;exact this
     ·rw[a_];exact nw.hP
     ·subst aj;exact⟨.inr ⟨apF _,by omega⟩,aU.size⟩
     ·refine⟨w.heap.size,[], ?_, ?_,rfl, .pointer none, .slice none 0 0, .inl rfl,rfl,(fun g bh=>by cases bh), ?_,⟨rfl, .inl ⟨rfl,rfl⟩⟩,(fun h=>by cases h)⟩
      ·rw[a_,Act.put,wm,apz ⟨rfl,by rw[ad.d_.size];exact U0⟩]
      ·rw[a_,Act.put];simp only[Array.size_setIfInBounds];rw[ad.d_.size];exact U0
      ·exact n1 w _
    ·split at h
     ·rename_i a6;exact walk a6 h
     ·exact h.elim
   ·split at h
    ·rename_i a6;exact walk a6 h
    ·exact h.elim
 |seq x y r5 r6=>
  intro bs S K a w h eD;unfold ko at h;refine wp_seq (wp_mono (r5 bs S _ a w h eD) fun e a1 w1 b5=> ?_);obtain⟨cg,S',rfl,aY,bj⟩:=b5
  cases cg with
  |normal=>exact r6 bs S' K a1 w1 aY bj
  |_=>exact⟨_,S',rfl,aY,bj⟩
 |cond c x y r5 r6=>
  intro bs S K a w h eD
  have cR:∃Z ρ,bH Z w ρ S.I (aN S.tm c) (a.eval c):=by
   obtain⟨⟨N,ρ,M,ab,ad,aA,ba,bJ⟩,aU⟩:=eD;exact⟨_,ρ,Pm (S:=⟨S.tm,S.I⟩) ad c⟩
  obtain⟨Z,ρ,cR⟩:=cR;unfold ko at h;split at h
  ·rename_i he;rw[he]at cR;exact wp_cond_true cR (r5 bs S K a w h eD)
  ·rename_i he;rw[he]at cR;exact wp_cond_false cR (r6 bs S K a w h eD)
  ·rename_i b he;rw[he]at cR;have ah:=mM cR
   cases b with
   |true=>exact wp_cond_true ah (r5 bs S K a w h eD)
   |false=>exact wp_cond_false ah (r6 bs S K a w h eD)
  ·exact h.elim
 |block id c bI=>
  intro bs S K a w h eD;unfold ko at h;refine wp_block (wp_mono (bI id S _ a w h eD) fun e cf w' b5=> ?_);obtain⟨cg,S',rfl,aE,oH⟩:=b5
  cases cg with
  |normal=>exact⟨.normal,S',rfl,aE,oH⟩
  |goto l=>exact⟨.goto l,S',rfl,aE,oH⟩
  |ret=>exact⟨.ret,S',rfl,aE,oH⟩
  |exit i=>
   simp only at aE;show(if i=id then _ else _);split
   ·rename_i hi;subst hi;simp only[aqx]at aE;exact⟨.normal,S',rfl,aE,oH⟩
   ·rename_i hi
    have:Nat.beq i id=false:=by
     cases ah:Nat.beq i id with
     |false=>rfl
     |true=>exact absurd (apC ah) hi
    simp only[this]at aE;exact⟨.exit i,S',rfl,aE,oH⟩
 |loop c bI=>
  intro bs S K a w h eD;unfold ko at h;refine G1 (fun(x:Nat×lp) cf w'=>EU (ko X c bs) x.1 x.2 K/\qx X oQ er x.2 cf w') (fun x=>x.1) (X.fuel,S) ⟨h,eD⟩ ?_;rintro⟨n,fc⟩ a1 w1 ⟨fl,akS⟩
  cases n with
  |zero=>exact fl.elim
  |succ n=>
   unfold EU at fl;refine wp_mono (bI bs fc _ a1 w1 fl akS) fun e a2 dd b5=> ?_;obtain⟨cg,S',rfl,aE,oH⟩:=b5
   cases cg with
   |normal=>exact⟨(n,S'),⟨aE,oH⟩,Nat.lt_succ_self n⟩
   |_=>exact⟨_,S',rfl,aE,oH⟩
 |scope c bI=>
  intro bs S K a w h eD;unfold ko at h;refine wp_scope_straight (wp_mono (bI bs S _ a w h eD) fun e cf w' b5=> ?_);obtain⟨cg,S',rfl,aE,oH⟩:=b5
  cases cg with
  |normal=>exact⟨.normal,S',rfl,aE,oH⟩
  |exit i=>exact⟨.exit i,S',rfl,aE,oH⟩
  |ret=>exact⟨.ret,S',rfl,aE,oH⟩
  |goto l=>exact aE.elim
 |refuse s=>intro bs S K a w h eD;exact h.elim
 |rangeFunc=>intro bs S K a w h eD;exact h.elim
theorem wC (c3:gn P X.E)(hg:Am P X){f:FuncId}{fn:Func}{c:Code}(aU:P.funcs[f]? =some fn)(ah:fn.body=some c)(aB:(fn.name== "runtime.NumGoroutine")=false){rvs:List ResultVar}(ao:fn.results=rvs.toArray)
 {ps ts:List aZ} (gU:ts.length=rvs.length) {T:List R->(R->Prop)->Prop} (fL:∀args K,T args K->sG X fn.ntmps rvs c args (mj ts K)):h1 P f (iJ ps T):=
 HI aU ah aB gU fun args K h N w cn aF ax aR=>by
  have h:=fL args K h;refine calls_of_wp aU ah ?_
  have ay:eA N [] (pad fn.ntmps args) [] {tmps:=cn++Array.replicate (fn.ntmps-cn.size) undef,defers:=[]} w:=by
   refine⟨aF,⟨by rw[sW];simp[ax],fun t=> ?_⟩,rfl⟩;rw[sW]
   by_cases aw:t<args.length
   ·have az:(args++List.replicate (fn.ntmps-args.length) R.un).getD t .un=args.getD t .un:=by simp[apA,aqr aw]
    have aJ:(cn++Array.replicate (fn.ntmps-cn.size) undef).getD t undef=cn.getD t undef:=by simp[apH,ar2 (show t<cn.size by omega)]
    rw[az,aJ];exact aR t aw
   ·have az:(args++List.replicate (fn.ntmps-args.length) R.un).getD t .un= .un:=by
     rw[apA,aqG (by omega),aq3];split<;>rfl
    have aJ:(cn++Array.replicate (fn.ntmps-cn.size) undef).getD t undef=undef:=by
     rw[apH,Array.getElem?_append_right (by omega),Array.getElem?_replicate];split<;>rfl
    rw[az,aJ];exact bH.un
  have eD:qx X N w ⟨pad fn.ntmps args,[],none⟩ {tmps:=cn++Array.replicate (fn.ntmps-cn.size) undef,defers:=[]} w:=
   ⟨⟨N,[],fun _=>False,fun _ h=>h,ay,fun b ⟨i,av,e,_⟩=>by simp at e,fun _ h=>h.elim,trivial⟩,j_.refl _ _⟩
  unfold sG at h;refine wp_mono (aab c3 hg c _ _ _ _ w h eD) fun e cf w' b5=> ?_;obtain⟨cg,S',rfl,aY,⟨⟨nq,ρ',M,g1,g2,g3,g4,g5⟩,g6⟩⟩:=b5
  have fin:(match lx X.E.tb S'.tm S'.I rvs with|true=>gI (jZ X.E.tb S'.tm S'.I rvs) (mj ts K (one (gZ X.E.tb S'.tm S'.I rvs)) S'.I)|false=>False)->cf.defers=[]/\∃v,(results fn cf.tmps).run P w'= .ok v w'/\
   ∃(nq:Nat->Prop) (rs:List R) (al:aD) (ρ':List Loc) (aH:List Value),Ending.returned v= .returned (if rvs.length=1 then aH.getD 0 undef else .tuple aH.toArray)/\rs.length=rvs.length/\aH.length=rvs.length/\
    mj ts K (one rs) al/\(∀b,N b->nq b)/\cw nq ρ' al w'/\Fr [] [] w ρ' al w'/\∀i,bH (aK nq ρ' al) w' ρ' al (rs.getD i .un) (aH.getD i undef):=fun ag=>by
   split at ag;rotate_left
   ·exact ag.elim
   rename_i bh;rw[hk]at ag;obtain⟨qL,ag⟩:=ag;obtain⟨aH,dX,dU,dR,mH⟩:=B9 X.E c3 ao g2 bh qL;exact⟨g2.hP,_,dX,nq,_,S'.I,ρ',aH,rfl,dR,dU,ag,g1,g2.eG,⟨g6.os,g6.tape,g6.output,g6.size,fun b ah _=>g6.aq b ah fun h=>h,fun b ah=> .inr (g3 b ah)⟩,mH⟩
  cases cg with
  |normal=>exact fin aY
  |ret=>exact fin aY
  |_=>exact aY.elim
end
end Go.ak
end
section
namespace Go.ak
def uw (ps:List aZ)(T:R->ae->List R->(ae->ae->Prop)->Prop):gu:=fun args I K=>
 match args with
 | .ptr id off::br=>
  (match cz (b_ I br) id,zx (.ptr id off) (ae.at I id),Nat.beq (bS ps) (bS br),ed R.plain (aZ.eF I ps br)with
  |false,true,true,true=>T (.ptr 0 off) (ae.at I id) (aZ.eF I ps br) fun ob r=>
   (match ae.alike (ae.at I id) ob with|true=>K (.vec (bS I)) (ez (cK (b_ I br) id (false,ob)) [(false,r)])|false=>False)
  |_,_,_,_=>False)
 |_=>False
def xH (T:R->ae->List R->(ae->ae->Prop)->Prop):Prop:=
 (∀a o args (K K':ae->ae->Prop),(∀o r,K o r->K' o r)->T a o args K->T a o args K')/\∀a o args K,T a o args K->∃o r,K o r
theorem Yr {ps:List aZ}{T:R->ae->List R->(ae->ae->Prop)->Prop}(h:xH T):hy (uw ps T):=by
 refine⟨fun args I K K' ag bp=> ?_,fun args I K bp=> ?_⟩
 ·unfold uw at bp⊢;split
  ·split
   ·rename_i ab ad aA ba;simp only[ab,ad,aA,ba]at bp;refine h.1 _ _ _ _ _ (fun o r ao=> ?_) bp;split
    ·rename_i aR;rw[aR]at ao;exact ag _ _ ao
    ·rename_i aR;rw[aR]at ao;exact ao
   ·simp only at bp
  ·rename_i aj;split at bp<;>first|exact bp|exact(aj _ _ _ rfl).elim
 ·unfold uw at bp;split at bp
  ·split at bp
   ·obtain⟨o,r,ao⟩:=h.2 _ _ _ _ bp;split at ao
    ·exact⟨_,_,ao⟩
    ·exact ao.elim
   ·exact bp.elim
  ·exact bp.elim
def KT (t:aZ)(a0:R)(K:ae->ae->Prop)(tm:List R)(I:aD)(v:R):Prop:=
 match cz I 0,ae.plain (ae.at I 0),R.sU (b6 .un tm 0) a0 with
 |false,true,true=>
  (match v with
  | .vec id=>(match Nat.beq id 0,cz I id,isSlice (ae.at I id)with|false,false,true=>K (ae.at I 0) (ae.at I id)|_,_,_=>False)
  | .emp=>(match t with| .aG (.cp k)=>K (ae.at I 0) (.af k [])| .aG (.dK an)=>K (ae.at I 0) (.ar an [])|_=>False)
  |_=>False)
 |_,_,_=>False
def EV (E:bA)(ntmps:Nat)(r:Tmp)(c:Code)(t:aZ)(a0:R)(ob:ae)(br:List R)(K:ae->ae->Prop):Prop:=
 gT E c 1000000 ⟨pad ntmps (a0::br),[(false,ob)]⟩ fun e S=>
  match e with
  | .normal| .ret=>(match qc E.tb S.tm S.I [.tmp r]with|true=>KT t a0 K S.tm S.I (b6 .un S.tm r)|false=>False)
  |_=>False
section
variable {P:Program}
theorem Ys (E:bA)(c3:gn P E)
 {f:FuncId} {fn:Func} {c:Code} (aU:P.funcs[f]? =some fn) (ah:fn.body=some c) (aB:(fn.name== "runtime.NumGoroutine")=false) {r:Tmp} (ao:fn.results=[ResultVar.tmp r].toArray)
 (bc:Code.eI c 0=false) {ps:List aZ} {t:aZ} {T:R->ae->List R->(ae->ae->Prop)->Prop}
 (fL:∀a0 ob args K,T a0 ob args K->EV E fn.ntmps r c t a0 ob args K):h1 P f (uw ps T):=by
 refine⟨⟨fn,aU,by rw[ah];rfl,aB⟩, ?_⟩;intro N ρ I w args cn K h aF ax aR;unfold uw at h;split at h;rotate_left
 ·exact h.elim
 rename_i id off br;split at h;rotate_left
 ·exact h.elim
 rename_i ab gL aA ba;have ad:=NI gL;have hlen:ps.length=br.length:=by have:=apC aA;rwa [cI,cI]at this
 obtain⟨s1,s2,jo,lj⟩:=oS br I aF;have xl:=pZ I ps br hlen;have AQ:(b_ I br).length=I.length:=by rw[<-s1.rel.len,aF.len]
 have nu:id<(b_ I br).length:=by
  rcases aq5 id (b_ I br).length with h|h
  ·exact h
  ·rw[IJ _ _ h]at ab;cases ab
 have zM:id<ρ.length:=by rw[s1.rel.len];exact nu
 have dg:ρ[id]? =some ρ[id]:=by simp[zM]
 have vh:bH _ w ρ _ (.ptr id off) (cn.getD 0 undef):=s1.kd (aR 0 (by simp))
 have iw:∀b,ρ[id].bs=some b->aK N ρ (b_ I br) b:=fun b ah=> .inr ⟨id,ρ[id],dg,ah,ab⟩
 have lK:=s1.rel.ob id _ dg;rw[s2]at lK
 have u3:∀b,aK (fun b=>aK N ρ (b_ I br) b/\ρ[id].bs≠some b) [ρ[id]] [(false,ae.at I id)] b->aK N ρ (b_ I br) b:=fun b ah=>by
  rcases ah with ah|⟨i,av,az,aJ,_⟩
  ·exact ah.1
  ·cases i with
   |zero=>simp at az;subst az;exact iw b aJ
   |succ i=>simp at az
 have qf:∀x u,bB (aK N ρ (b_ I br)) w x u->bB (aK (fun b=>aK N ρ (b_ I br) b/\ρ[id].bs≠some b) [ρ[id]] [(false,ae.at I id)]) w x u:=
  fun x u aj=>aj.mono fun b _ bm=>⟨rfl,fun db=>bm (u3 b db)⟩
 have hM:cw (fun b=>aK N ρ (b_ I br) b/\ρ[id].bs≠some b) [ρ[id]] [(false,ae.at I id)] w:=
  {len:=rfl
   e3:=fun b ah=>by
    rcases ah.1 with ah|⟨i,av,az,aJ,_⟩
    ·exact aF.e3 b ah
    ·exact aF.lt i av b az aJ
   lt:=fun i av b az aJ=>by
    cases i with
    |zero=>simp at az;subst az;exact aF.lt id _ b dg aJ
    |succ i=>simp at az
   inj:=fun i j li cA b az aJ _ _ _ _=>by
    cases i with
    |zero=>cases j with
     |zero=>rfl
     |succ j=>simp at aJ
    |succ i=>simp at az
   fz:=fun i av b az aJ ah=>by
    cases i with
    |zero=>simp at az;subst az;exact ah.2 aJ
    |succ i=>simp at az
   ob:=fun i av az=>by
    cases i with
    |zero=>simp at az;subst az;exact wx ad lK (fun _ _=>rfl) qf
    |succ i=>simp at az}
 have pc:bH (aK (fun b=>aK N ρ (b_ I br) b/\ρ[id].bs≠some b) [ρ[id]] [(false,ae.at I id)]) w [ρ[id]] [(false,ae.at I id)] (.ptr 0 off) (cn.getD 0 undef):=by
  obtain⟨av,b,az,aJ,bX,cW⟩:=vh;rw[dg]at az;obtain rfl:=apK az;exact⟨ρ[id],b,rfl,aJ,bX,cW⟩
 have fR:∀i,i<(R.ptr 0 off::aZ.eF I ps br).length->bH (aK (fun b=>aK N ρ (b_ I br) b/\ρ[id].bs≠some b) [ρ[id]] [(false,ae.at I id)]) w [ρ[id]] [(false,ae.at I id)] ((R.ptr 0 off::aZ.eF I ps br).getD i .un) (cn.getD i undef):=fun i hi=>by
  cases i with
  |zero=>exact pc
  |succ j=>
   have aI:j<(aZ.eF I ps br).length:=by simpa using hi
   obtain⟨t,e⟩:=p0 I ps br hlen j (by omega);have aE:=mR ba .un j aI;have qM:=s1.kd (aR (j+1) (by simp;omega));rw[List.getD_cons_succ]at qM⊢;rw[e]at aE⊢;exact .hn (oT aE (oU s1.rel s2 t aE qM fun id aO=>lj j id (by omega) aO) qf)
 refine(Is E c3 aU ah ao (args:= .ptr 0 off::aZ.eF I ps br) (cn:=cn) (K:=fun tm al=>KT t (.ptr 0 off) (fun ob q=>match ae.alike (ae.at I id) ob with|true=>K (.vec (bS I)) (ez (cK (b_ I br) id (false,ob)) [(false,q)])|false=>False) tm al (b6 .un tm r))
  (fL _ _ _ _ h) hM (by simp at ax⊢;omega) fR).mono ?_
 rintro e w' ⟨tm,al,ρ',a,aH,rfl,dU,dR,mH,ag,ay,cy,e1⟩;unfold KT at ag;split at ag;rotate_left
 ·exact ag.elim
 rename_i g1 g2 g3;have jk:=e1 0 (by simp) bc;have pD:=ay.d_.at_ 0;rw[<-dW,Cq g3,jk]at pD;have mr:=ay.eG.ob 0;obtain⟨de,ch,az,dh,eW,jR⟩:=pc;obtain⟨l2,df,bX,d1,d2,d3⟩:=pD;simp at az;subst az;rw[jR]at d3;obtain rfl:ch=df:=by injection d3 with d3;injection d3 with d3;injection d3
 have mr:=mr l2 bX
 have pa:∀x,x<w.heap.size->ρ[id].bs≠some x->w'.heap[x]? =w.heap[x]? :=fun x aj dn=>cy.aq x aj fun⟨i,l,aY,bj,_⟩=>by
  cases i with
  |zero=>simp at aY;subst aY;exact dn bj
  |succ i=>simp at aY
 have aj:bH (aK (fun b=>aK N ρ (b_ I br) b/\ρ[id].bs≠some b) ρ' al) w' ρ' al (b6 .un tm r) (aH.getD 0 undef):=mH 0;simp only[aqX,ap1]
 have fin:∀(av:Loc) (q:ae),q.plain=true->ae.alike (ae.at I id) (ae.at al 0)=true->(∀b,av.bs=some b->w.heap.size<=b/\b<w'.heap.size/\aK (fun b=>aK N ρ (b_ I br) b/\ρ[id].bs≠some b) ρ' al b)->hS (aK (fun b=>aK N ρ (b_ I br) b/\ρ[id].bs≠some b) ρ' al) w' ρ' al av q->
  K (.vec (bS I)) (ez (cK (b_ I br) id (false,ae.at al 0)) [(false,q)])->((aH.getD 0 undef)= .slice av.a q.len av.cap/\(av.a=none->av.cap=0))->
  ∃r fK iP v,Ending.returned (aH.getD 0 undef)= .returned v/\K r fK/\cv N ρ I w iP fK w'/\bH (aK N iP fK) w' iP fK r v:=by
  intro av q aE g5 iO a6 e5 hu
  have gY:(ae.at al 0).len=(ae.at I id).len/\(ae.at al 0).cL=(ae.at I id).cL/\∀Z' dF kT,(∀x u,bB (aK (fun b=>aK N ρ (b_ I br) b/\ρ[id].bs≠some b) ρ' al) w' x u->bB Z' w' x u)->hS Z' w' dF kT ρ[id] (ae.at al 0):=by
   cases ck:ae.at I id with
   |cells l=>
    rw[ck]at g5
    cases mq:ae.at al 0 with
    |cells cm=>
     rw[mq]at mr g2 g5;have AQ:l.length=cm.length:=by have:=apC g5;rwa [cI,cI]at this
     obtain⟨iD,aH,e,f1,f2,f3,f4,f5⟩:=mr;rw[d1]at f1;obtain rfl:ch=iD:=by injection f1 with f1;injection f1
     exact⟨AQ.symm,rfl,fun Z' dF kT ao=>⟨ch,aH,e,dh,eW,f3,f4,fun k ag=>NJ (mR g2 .un k ag) (f5 k ag) ao⟩⟩
    |_=>rw[mq]at g5;cases g5
   |_=>rw[ck]at gL;cases gL
  obtain⟨gY,Jq,jn⟩:=gY;have EF:((b_ I br).set id (false,ae.at al 0)).length=I.length:=by rw[apL,AQ]
  have akW:ρ.length=I.length:=by rw[aF.len]
  generalize ln:(b_ I br).set id (false,ae.at al 0)=cO at EF
  have Gb:∀i,ae.at cO i=if id=i/\id<(b_ I br).length then ae.at al 0 else ae.at (b_ I br) i:=fun i=>by rw[<-ln,gG]
  have KU:∀i,cz cO i=if id=i/\id<(b_ I br).length then false else cz (b_ I br) i:=fun i=>by rw[<-ln,h9]
  have jy:∀i l,(ρ++[av])[i]? =some l->(i<ρ.length/\ρ[i]? =some l)\/(i=ρ.length/\l=av):=fun i l ax=>by
   rw[ap7]at ax
   by_cases hi:i<ρ.length
   ·rw[apz hi]at ax;exact .inl ⟨hi,ax⟩
   ·rw[apy hi]at ax
    cases a_:i-ρ.length with
    |zero=>simp[a_]at ax;exact .inr ⟨by omega,ax.symm⟩
    |succ n=>simp[a_]at ax
  have uM:∀x,gi (ρ++[av]) (cO++[(false,q)]) x->gi ρ (b_ I br) x\/av.bs=some x:=fun x ⟨i,l,aY,bj,bG⟩=>by
   rcases jy i l aY with⟨hi,aY⟩|⟨_,rfl⟩
   ·rw[jJ,apy (by omega),KU]at bG
    by_cases e:id=i
    ·subst e;exact .inl ⟨id,l,aY,bj,ab⟩
    ·rw[apy (by simp[e])]at bG;exact .inl ⟨i,l,aY,bj,bG⟩
   ·exact .inr bj
  have mu:Fr ρ (b_ I br) w (ρ++[av]) (cO++[(false,q)]) w':=
   ⟨cy.os,cy.tape,cy.output,cy.size,fun x aj tC=>pa x aj fun ah=>tC ⟨id,_,dg,ah,ab⟩,fun x aj=>(uM x aj).imp (fun h=>h) fun h=>(iO x h).1⟩
  have zz:∀i,eQ ρ (b_ I br) (ρ++[av]) (cO++[(false,q)]) i:=fun i l ax=>by
   have hi:i<ρ.length:=by
    rcases aq5 i ρ.length with h|h
    ·exact h
    ·rw[aqc h]at ax;cases ax
   refine⟨by rw[aqr hi];exact ax, ?_⟩;rw[fQ,apy (by omega),Gb]
   by_cases e:id=i
   ·subst e;rw[apz ⟨rfl,nu⟩,s2];exact⟨gY,Jq⟩
   ·rw[apy (by simp[e])];exact⟨rfl,rfl⟩
  have IP:∀x,aK N (ρ++[av]) (cO++[(false,q)]) x->aK (fun b=>aK N ρ (b_ I br) b/\ρ[id].bs≠some b) ρ' al x:=fun x aj=>by
   have:aK N ρ (b_ I br) x\/av.bs=some x:=by
    rcases aj with aj|aj
    ·exact .inl (.inl aj)
    ·exact(uM x aj).imp (fun h=> .inr h) fun h=>h
   rcases this with aj|aj
   ·by_cases ah:ρ[id].bs=some x
    ·rw[eW]at ah;obtain rfl:=apK ah;exact .inr ⟨0,l2,bX,d2,g1⟩
    ·exact .inl ⟨aj,ah⟩
   ·exact(iO x aj).2.2
  have fs:∀x u,bB (aK (fun b=>aK N ρ (b_ I br) b/\ρ[id].bs≠some b) ρ' al) w' x u->bB (aK N (ρ++[av]) (cO++[(false,q)])) w' x u:=fun x u aj=>aj.mono fun y _ bm=>⟨rfl,fun db=>bm (IP y db)⟩
  have zN:cw N (ρ++[av]) (cO++[(false,q)]) w':=by
   refine s1.rel.z1 mu (by simp;omega) (fun _ _ _ _ i _ _=>zz i) (fun i l ax=> ?_);rcases jy i l ax with⟨hi,ax⟩|⟨hi,rfl⟩
   ·by_cases e:id=i
    ·subst e;rw[dg]at ax;obtain rfl:=apK ax;refine .inr ⟨fun x aj=>⟨apW (aF.lt id _ x dg aj) cy.size,aF.fz id _ x dg aj,fun j cA aI tq ka=> ?_⟩, ?_⟩
     ·rcases jy j cA aI with⟨h4,aI⟩|⟨_,rfl⟩
      ·by_cases e:id=j
       ·exact e.symm
       ·exact s1.rel.inj j id cA _ x aI dg tq aj (fun⟨f,n,an,q⟩=>ka ⟨by rw[jJ,apy (by omega),KU,apy (by simp[e])];exact f,n,an,by rw[fQ,apy (by omega),Gb,apy (by simp[e])];exact q⟩) (lu ab)
      ·have:=(iO x tq).1;have:=aF.lt id _ x dg aj;omega
     ·rw[fQ,apy (by omega),Gb,apz ⟨rfl,nu⟩];exact jn _ _ _ fs
    ·refine .inl ⟨ax,by rw[fQ,apy (by omega),Gb,apy (by simp[e])],fun aj=>by rwa [jJ,apy (by omega),KU,apy (by simp[e])]at aj,fun jA x aj=>pa x (aF.lt i l x ax aj) fun ah=>e (s1.rel.inj id i _ l x dg ax ah aj (lu ab) jA)⟩
   ·refine .inr ⟨fun x aj=>⟨(iO x aj).2.1,fun hQ=> ?_,fun j cA aI tq ka=> ?_⟩, ?_⟩
    ·have:=(iO x aj).1;have:=aF.e3 x hQ;omega
    ·rcases jy j cA aI with⟨h4,aI⟩|⟨h4,_⟩
     ·have:=(iO x aj).1;have:=aF.lt j cA x aI tq;omega
     ·omega
    ·rw[fQ,apz (by omega)];exact wx aE a6 (fun _ _=>rfl) fs
  refine⟨_,_,ρ++[av],aH.getD 0 undef,rfl,e5, ?_, ?_⟩
  ·rw[fC,eE,ln];exact s1.trans {mu with rel:=zN,same:=zz}
  ·rw[fC,eE,ln,cI];refine .c7 ⟨av, ?_, ?_⟩
   ·rw[aqG (by omega),akW];simp
   ·rw[fQ,apz (by omega)];exact hu
 have alike:∀{q:ae},(match ae.alike (ae.at I id) (ae.at al 0)with|true=>K (.vec (bS I)) (ez (cK (b_ I br) id (false,ae.at al 0)) [(false,q)])|false=>False)->ae.alike (ae.at I id) (ae.at al 0)=true/\K (.vec (bS I)) (ez (cK (b_ I br) id (false,ae.at al 0)) [(false,q)]):=fun{q} h=>by
  split at h
  ·rename_i g;exact⟨g,h⟩
  ·exact h.elim
 generalize b6 .un tm r=x at ag aj
 cases x with
 |vec j=>
  simp only at ag;split at ag
  ·rename_i aY bj bG;obtain⟨di,eK⟩:=alike ag;obtain⟨av,EW,hu,vw⟩:=aj;refine fin av (ae.at al j) ?_ di (fun b ah=> ?_) (ay.eG.ob j av EW) eK ⟨hu,vw⟩
   ·cases aF:ae.at al j<;>rw[aF]at bG<;>first|rfl|cases bG
   ·have gM:gi ρ' al b:=⟨j,av,EW,ah,bj⟩;refine⟨?_,ay.eG.lt j av b EW ah, .inr gM⟩;rcases cy.alive b gM with⟨i,l,az,aJ,_⟩|h
    ·cases i with
     |zero=>
      simp at az;subst az;rw[eW]at aJ;obtain rfl:=apK aJ;have:=ay.eG.inj j 0 av l2 ch EW bX ah d2 (lu bj) (lu g1);subst this;cases aY
     |succ i=>simp at az
    ·exact h
  ·exact ag.elim
 |emp=>
  obtain⟨a,hu⟩:=aj;simp only at ag;split at ag
  ·rename_i k;obtain⟨di,eK⟩:=alike ag;exact fin ⟨a,0,none⟩ (.af k []) rfl di (fun b ah=>by cases ah) (Or.inl ⟨rfl,rfl⟩) eK ⟨hu,fun _=>rfl⟩
  ·rename_i an;obtain⟨di,eK⟩:=alike ag;exact fin ⟨a,0,none⟩ (.ar an []) rfl di (fun b ah=>by cases ah) (Or.inl ⟨rfl,rfl⟩) eK ⟨hu,fun _=>rfl⟩
  ·exact ag.elim
 |_=>exact ag.elim
end
def zG (S:R->ae->List R->Option (Prop×ae×ae)):R->ae->List R->(ae->ae->Prop)->Prop:=fun a o args K=>match S a o args with|some (p,x,r)=>p/\K x r|none=>False
theorem abP (S:R->ae->List R->Option (Prop×ae×ae)):xH (zG S):=by
 refine⟨fun a o args K K' ag h=> ?_,fun a o args K h=> ?_⟩
 ·unfold zG at h⊢;split
  ·rename_i he;rw[he]at h;exact⟨h.1,ag _ _ h.2⟩
  ·rename_i he;rw[he]at h;exact h
 ·unfold zG at h;split at h
  ·exact⟨_,_,h.2⟩
  ·exact h.elim
def Dw (T:R->ae->List R->(ae->ae->Prop)->Prop):R->ae->List R->(ae->ae->Prop)->Prop:=fun a o args K=>T a o args fun cj r=>w2 (fun Ks=>w2 (fun ld=>K Ks ld) r) cj
theorem OZ (T:R->ae->List R->(ae->ae->Prop)->Prop):Dw T=T:=by
 funext a o args K
 unfold Dw
 congr 1
 funext cj r
 exact propext ((B_ _ cj).trans (B_ _ r))
theorem aac {T:R->ae->List R->(ae->ae->Prop)->Prop}(h:xH T):xH (Dw T):=by rw[OZ];exact h
end Go.ak
end
section
namespace Go.ak
structure jr (P:Program)(f:Nat)where
 oy:gu
 s:yZ P f oy
 o:hy oy
 k:Nat
 t1:k=1->Jn oy
 t2:k=2->I0 oy
abbrev sb (P:Program):=List ((f:Nat)×jr P f)
def rJ {P:Program}:sb P->List Nat
 |[]=>[]
 |s::r=>s.1::rJ r
def s3 {P:Program}:sb P->List (Nat×gu)
 |[]=>[]
 |s::r=>(s.1,s.2.oy)::s3 r
def qk {P:Program}(k:Nat):sb P->List Nat
 |[]=>[]
 |s::r=>match Nat.beq s.2.k k with|true=>s.1::qk k r|false=>qk k r
def b2 {P:Program}(tys:List (Nat×b7))(L:sb P)(u0 meets:List (Nat×Head)):bA:=
 {tys:=tys,cons:=s3 L,data:=qk 1 L,fresh:=qk 2 L,u0:=u0,meets:=meets}
def ahv (tys:List (Nat×b7))(t:TypeId):b7:=match fw t tys with|some i=>i|none=>{ty:= .no}
def Tl (P:Program)(tys:List (Nat×b7)):Bool:=ed (fun p=>match c5 P p.1 p.2 with|true=>qb P (ahv tys) p.1|false=>false) tys
def xf:List Nat->Bool
 |[]=>true
 |x::r=>match qs x r with|true=>false|false=>xf r
theorem O1 {P:Program}:∀{L:sb P} {p:Nat×gu},p∈s3 L->yZ P p.1 p.2/\hy p.2
 |[],_,h=>by cases h
 |s::r,p,h=>by
  rcases ap9.1 h with rfl|h
  ·exact⟨s.2.s,s.2.o⟩
  ·exact O1 h
theorem O2 {P:Program}{k:Nat}:∀{L:sb P} {f:Nat},f∈qk k L->xf (rJ L)=true->∃s:jr P f,s.k=k/\fw f (s3 L)=some s.oy
 |[],_,h,_=>by cases h
 |s::r,f,h,aB=>by
  have ao:xf (rJ r)=true/\qs s.1 (rJ r)=false:=by
   unfold rJ xf at aB;split at aB
   ·cases aB
   ·rename_i ad;exact⟨aB,ad⟩
  have sub:∀{L:sb P} {g:Nat},g∈qk k L->g∈rJ L:=fun{L g}=>by
   induction L with
   |nil=>exact fun h=>by cases h
   |cons a b bI=>
    intro h;unfold qk at h;unfold rJ;split at h
    ·rcases ap9.1 h with rfl|h
     ·simp
     ·exact aqR _ (bI h)
    ·exact aqR _ (bI h)
  have tail:f∈qk k r->∃t:jr P f,t.k=k/\fw f (s3 (s::r))=some t.oy:=fun h=>by
   obtain⟨t,ab,ad⟩:=O2 h ao.1
   have ne:Nat.beq s.1 f=false:=by
    cases ah:Nat.beq s.1 f with
    |false=>rfl
    |true=>
     obtain rfl:=apC ah;have:=wQ.2 (sub h);rw[ao.2]at this;cases this
   exact⟨t,ab,by unfold s3 fw;rw[ne];exact ad⟩
  unfold qk at h;split at h
  ·rename_i ag;rcases ap9.1 h with rfl|h
   ·exact⟨s.2,apC ag,by unfold s3 fw;rw[aqx]⟩
   ·exact tail h
  ·exact tail h
theorem Ej {P:Program}{tys:List (Nat×b7)}{L:sb P}{u0 meets:List (Nat×Head)}(ab:Tl P tys=true)(ba:xf (rJ L)=true)(aA:P.follows .mixedOrders=true):gn P (b2 tys L u0 meets):=by
 have key:∀{k f},f∈qk k L->∃s:jr P f,s.k=k/\(b2 tys L u0 meets).bz f=s.oy:=fun{k f} h=>by
  obtain⟨s,ab,ad⟩:=O2 h ba;refine⟨s,ab, ?_⟩;show(match fw f (s3 L)with|some c=>c|none=>SW)=s.oy;rw[ad]
 refine .of ab (fun p aE=>O1 aE) aA (fun f aU=> ?_) fun f aU=> ?_
 ·obtain⟨s,az,aJ⟩:=key aU;rw[aJ];exact s.t1 az
 ·obtain⟨s,az,aJ⟩:=key aU;rw[aJ];exact s.t2 az
abbrev bU:aZ:= .aG (.int .i64)
abbrev dk:aZ:= .aG (.cp .u32)
abbrev jC:aZ:= .aG .bool
abbrev dT:aZ:= .aG (.dK 11)
abbrev Lt:aZ:= .aG .str
abbrev fI:aZ:= .aG .other
abbrev ev:aZ:= .struct [] [.bool, .cp .u32, .cp .u32]
structure cF (P:Program)(f:Nat)(ps:List aZ)(T:List R->(R->Prop)->Prop):Prop where
 s:h1 P f (iJ ps T)
 o:k7 T
structure pY (P:Program)(f:Nat)(ps:List aZ)(T:List R->(R->Prop)->Prop):Prop where
 s:h1 P f (nt ps T)
 o:k7 T
structure qZ (P:Program)(f:Nat)(ps:List aZ)(T:List R->(ae->Prop)->Prop):Prop where
 s:h1 P f (p8 ps T)
 o:nK T
structure we (P:Program)(f:Nat)(ps:List aZ)(T:List R->(ae->Prop)->Prop):Prop where
 s:h1 P f (uV ps T)
 o:nK T
structure hh (P:Program)(f:Nat)(ps:List aZ)(T:R->ae->List R->(ae->R->Prop)->Prop):Prop where
 s:h1 P f (n_ ps T)
 o:kt T
structure hR (P:Program)(f n:Nat)(ps:List aZ)(T:R->ae->List R->(ae->R->Prop)->Prop):Prop where
 s:h1 P f (l6 n ps T)
 o:kt T
structure wg (P:Program)(f:Nat)(ps:List aZ)(T:ae->List R->(ae->Prop)->Prop):Prop where
 s:h1 P f (uN ps T)
 o:x0 T
structure BI (P:Program)(f:Nat)(ps:List aZ)(T:List R->(R->Prop)->Prop):Prop where
 s:Qc P f (iJ ps T)
 o:k7 T
section
variable {P:Program} {f:Nat} {ps:List aZ}
def cF.d {T:List R->(R->Prop)->Prop}(h:cF P f ps T):jr P f:=⟨iJ ps T, .inl h.s,OA h.o,1,fun _=> .inl ⟨ps,T,h.o,rfl⟩,nofun⟩
def cF.n {T:List R->(R->Prop)->Prop}(h:cF P f ps T):jr P f:=cF.d (T:=named T) ⟨by rw[CG];exact h.s,H5 h.o⟩
def BI.d {T:List R->(R->Prop)->Prop}(h:BI P f ps T):jr P f:=⟨iJ ps T, .inr h.s,OA h.o,1,fun _=> .inl ⟨ps,T,h.o,rfl⟩,nofun⟩
def BI.n {T:List R->(R->Prop)->Prop}(h:BI P f ps T):jr P f:=BI.d (T:=named T) ⟨by rw[CG];exact h.s,H5 h.o⟩
def pY.d {T:List R->(R->Prop)->Prop}(h:pY P f ps T):jr P f:=⟨nt ps T, .inl h.s,ZD h.o,1,fun _=> .inr (.inr ⟨ps,T,h.o,rfl⟩),nofun⟩
def pY.n {T:List R->(R->Prop)->Prop}(h:pY P f ps T):jr P f:=pY.d (T:=named T) ⟨by rw[CG];exact h.s,aa_ h.o⟩
def qZ.d {T:List R->(ae->Prop)->Prop}(h:qZ P f ps T):jr P f:=⟨p8 ps T, .inl h.s,YR h.o,2,nofun,fun _=>⟨ps,T,h.o,rfl⟩⟩
def qZ.n {T:List R->(ae->Prop)->Prop}(h:qZ P f ps T):jr P f:=qZ.d (T:=DK T) ⟨by rw[Pp];exact h.s,aa6 h.o⟩
def we.d {T:List R->(ae->Prop)->Prop}(h:we P f ps T):jr P f:=⟨uV ps T, .inl h.s,aa7 h.o,0,nofun,nofun⟩
def we.n {T:List R->(ae->Prop)->Prop}(h:we P f ps T):jr P f:=we.d (T:=DL T) ⟨by rw[Pq];exact h.s,aa9 h.o⟩
def hh.d {T:R->ae->List R->(ae->R->Prop)->Prop}(h:hh P f ps T):jr P f:=⟨n_ ps T, .inl h.s,ZB h.o,1,fun _=> .inr (.inl ⟨ps,T,h.o,rfl⟩),nofun⟩
def hh.n {T:R->ae->List R->(ae->R->Prop)->Prop}(h:hh P f ps T):jr P f:=hh.d (T:=zA T) ⟨by rw[HJ];exact h.s,Pr h.o⟩
def hR.d {n:Nat}{T:R->ae->List R->(ae->R->Prop)->Prop}(h:hR P f n ps T):jr P f:=⟨l6 n ps T, .inl h.s,Yc h.o,0,nofun,nofun⟩
def hR.n {m:Nat}{T:R->ae->List R->(ae->R->Prop)->Prop}(h:hR P f m ps T):jr P f:=hR.d (n:=m) (T:=zA T) ⟨by rw[HJ];exact h.s,Pr h.o⟩
def wg.d {T:ae->List R->(ae->Prop)->Prop}(h:wg P f ps T):jr P f:=⟨uN ps T, .inl h.s,ZF h.o,0,nofun,nofun⟩
def wg.n {T:ae->List R->(ae->Prop)->Prop}(h:wg P f ps T):jr P f:=wg.d (T:=D2 T) ⟨by rw[Ps];exact h.s,aba h.o⟩
structure ns (p:Prop):Prop where
 h:p
theorem cY (E:bA)(c3:gn P E)(fn:Func)(rvs:List ResultVar)(ts:List aZ){T:List R->(R->Prop)->Prop}(o:k7 T)(fL:∀args K,T args K->ns (mU E fn.ntmps rvs (fn.body.getD .skip) args [] (mj ts K)))
 (aU:P.funcs[f]? =some fn:=by kernel_rfl) (ah:fn.body=some (fn.body.getD .skip):=by kernel_rfl) (aB:(fn.name== "runtime.NumGoroutine")=false:=by kernel_rfl) (ao:fn.results=rvs.toArray:=by kernel_rfl) (gU:ts.length=rvs.length:=by kernel_rfl):cF P f ps T:=
 ⟨ZA E c3 aU ah aB ao gU (fun args K h=>(fL args K h).h),o⟩
theorem Bd (E:bA)(c3:gn P E)(fn:Func)(rvs:List ResultVar){T:List R->(R->Prop)->Prop}(o:k7 T)(fL:∀args K,T args K->ns (mU E fn.ntmps rvs (fn.body.getD .skip) args [] (I1 K)))
 (aU:P.funcs[f]? =some fn:=by kernel_rfl) (ah:fn.body=some (fn.body.getD .skip):=by kernel_rfl) (aB:(fn.name== "runtime.NumGoroutine")=false:=by kernel_rfl) (ao:fn.results=rvs.toArray:=by kernel_rfl):pY P f ps T:=
 ⟨ZE E c3 aU ah aB ao (fun args K h=>(fL args K h).h),o⟩
theorem Gc (E:bA)(c3:gn P E)(fn:Func)(r:Tmp)(t:aZ){T:List R->(ae->Prop)->Prop}(o:nK T)(fL:∀args K,T args K->ns (mU E fn.ntmps [.tmp r] (fn.body.getD .skip) args [] (DI t K)))
 (aU:P.funcs[f]? =some fn:=by kernel_rfl) (ah:fn.body=some (fn.body.getD .skip):=by kernel_rfl) (aB:(fn.name== "runtime.NumGoroutine")=false:=by kernel_rfl) (ao:fn.results=[ResultVar.tmp r].toArray:=by kernel_rfl):qZ P f ps T:=
 ⟨YS E c3 aU ah aB ao (fun args K h=>(fL args K h).h),o⟩
theorem ak8 (E:bA)(c3:gn P E)(fn:Func)(r:Tmp){T:List R->(ae->Prop)->Prop}(o:nK T)(fL:∀args K,T args K->ns (mU E fn.ntmps [.tmp r] (fn.body.getD .skip) args [] (E8 K)))
 (aU:P.funcs[f]? =some fn:=by kernel_rfl) (ah:fn.body=some (fn.body.getD .skip):=by kernel_rfl) (aB:(fn.name== "runtime.NumGoroutine")=false:=by kernel_rfl) (ao:fn.results=[ResultVar.tmp r].toArray:=by kernel_rfl):we P f ps T:=
 ⟨aa8 E c3 aU ah aB ao (fun args K h=>(fL args K h).h),o⟩
theorem ij (E:bA)(c3:gn P E)(fn:Func)(rvs:List ResultVar)(ts:List aZ){T:R->ae->List R->(ae->R->Prop)->Prop}(o:kt T)(fL:∀a0 ob args K,T a0 ob args K->ns (C_ E fn.ntmps rvs (fn.body.getD .skip) a0 ob args ts K))
 (aU:P.funcs[f]? =some fn:=by kernel_rfl) (ah:fn.body=some (fn.body.getD .skip):=by kernel_rfl) (aB:(fn.name== "runtime.NumGoroutine")=false:=by kernel_rfl) (ao:fn.results=rvs.toArray:=by kernel_rfl) (bc:Code.eI (fn.body.getD .skip) 0=false:=by kernel_rfl) (gU:ts.length=rvs.length:=by kernel_rfl):hh P f ps T:=
 ⟨ZC E c3 aU ah aB ao bc gU (fun a o args K h=>(fL a o args K h).h),o⟩
theorem nk (n:Nat)(E:bA)(c3:gn P E)(fn:Func)(rvs:List ResultVar)(ts:List aZ){T:R->ae->List R->(ae->R->Prop)->Prop}(o:kt T)(fL:∀a0 ob args K,T a0 ob args K->ns (yR n E fn.ntmps rvs (fn.body.getD .skip) a0 ob args ts K))
 (aU:P.funcs[f]? =some fn:=by kernel_rfl) (ah:fn.body=some (fn.body.getD .skip):=by kernel_rfl) (aB:(fn.name== "runtime.NumGoroutine")=false:=by kernel_rfl) (ao:fn.results=rvs.toArray:=by kernel_rfl) (bc:Code.eI (fn.body.getD .skip) n=false:=by kernel_rfl) (gU:ts.length=rvs.length:=by kernel_rfl) (j7:n<=ps.length:=by decide):hR P f n ps T:=
 ⟨NK n E c3 aU ah aB ao bc gU (fun a o args K h=>(fL a o args K h).h) j7,o⟩
theorem ak9 (E:bA)(c3:gn P E)(fn:Func)(r:Tmp){T:ae->List R->(ae->Prop)->Prop}(o:x0 T)(fL:∀b0 args K,T b0 args K->ns (mU E fn.ntmps [.tmp r] (fn.body.getD .skip) (.vec 0::args) [(false,b0)] (ED K)))
 (aU:P.funcs[f]? =some fn:=by kernel_rfl) (ah:fn.body=some (fn.body.getD .skip):=by kernel_rfl) (aB:(fn.name== "runtime.NumGoroutine")=false:=by kernel_rfl) (ao:fn.results=[ResultVar.tmp r].toArray:=by kernel_rfl):wg P f ps T:=
 ⟨ZG E c3 aU ah aB ao fun an l args K h=>(fL (.ar an l) args K h).h,o⟩
theorem cM {E:bA}{n:Nat}{rvs:List ResultVar}{c:Code}{args:List R}{I:aD}{K:R->aD->Prop}{Q:Prop}(h:mU E n rvs c args I K=Q)(q:Q):ns (mU E n rvs c args I K):=⟨h▸q⟩
theorem mY {m:Nat}{E:bA}{n:Nat}{rvs:List ResultVar}{c:Code}{a0:R}{ob:ae}{args:List R}{ts:List aZ}{K:ae->R->Prop}{Q:Prop}(h:yR m E n rvs c a0 ob args ts K=Q)(q:Q):ns (yR m E n rvs c a0 ob args ts K):=⟨h▸q⟩
theorem h8 {E:bA}{n:Nat}{rvs:List ResultVar}{c:Code}{a0:R}{ob:ae}{args:List R}{ts:List aZ}{K:ae->R->Prop}{Q:Prop}(h:C_ E n rvs c a0 ob args ts K=Q)(q:Q):ns (C_ E n rvs c a0 ob args ts K):=⟨h▸q⟩
end
end Go.ak
end
section
namespace Go.ak
structure wh (P:Program)(f:Nat)(ps:List aZ)(T:R->ae->List R->(ae->ae->Prop)->Prop):Prop where
 s:h1 P f (uw ps T)
 o:xH T
section
variable {P:Program} {f:Nat} {ps:List aZ}
def wh.d {T:R->ae->List R->(ae->ae->Prop)->Prop}(h:wh P f ps T):jr P f:=⟨uw ps T, .inl h.s,Yr h.o,0,nofun,nofun⟩
def wh.n {T:R->ae->List R->(ae->ae->Prop)->Prop}(h:wh P f ps T):jr P f:=wh.d (T:=Dw T) ⟨by rw[OZ];exact h.s,aac h.o⟩
theorem ak_ (E:bA)(c3:gn P E)(fn:Func)(r:Tmp)(t:aZ){T:R->ae->List R->(ae->ae->Prop)->Prop}(o:xH T)(fL:∀a0 ob args K,T a0 ob args K->ns (EV E fn.ntmps r (fn.body.getD .skip) t a0 ob args K))
 (aU:P.funcs[f]? =some fn:=by kernel_rfl) (ah:fn.body=some (fn.body.getD .skip):=by kernel_rfl) (aB:(fn.name== "runtime.NumGoroutine")=false:=by kernel_rfl) (ao:fn.results=[ResultVar.tmp r].toArray:=by kernel_rfl) (bc:Code.eI (fn.body.getD .skip) 0=false:=by kernel_rfl):wh P f ps T:=
 ⟨Ys E c3 aU ah aB ao bc (fun a o args K h=>(fL a o args K h).h),o⟩
theorem ahw {E:bA}{n:Nat}{r:Tmp}{c:Code}{t:aZ}{a0:R}{ob:ae}{args:List R}{K:ae->ae->Prop}{Q:Prop}(h:EV E n r c t a0 ob args K=Q)(q:Q):ns (EV E n r c t a0 ob args K):=⟨h▸q⟩
theorem ala {α β iY ll:Type}{T:R->ae->List R->(ae->ae->Prop)->Prop}{g:α->β->iY->ll->R}{o:α->β->iY->ll->ae}{f:α->β->iY->ll->List R}(i:∀{a0 b0} {a K},T a0 b0 a K->∃b4 cl cr dj,a0=(g b4 cl cr dj)/\b0=(o b4 cl cr dj)/\a=(f b4 cl cr dj)){M:R->ae->List R->(ae->ae->Prop)->Prop}(H:∀b4 cl cr dj K,T (g b4 cl cr dj) (o b4 cl cr dj) (f b4 cl cr dj) K->M (g b4 cl cr dj) (o b4 cl cr dj) (f b4 cl cr dj) K)(a0 b0)(a)(K)(h:T a0 b0 a K):M a0 b0 a K:=by
 obtain⟨b4,cl,cr,dj,rfl,rfl,rfl⟩:=i h;exact H b4 cl cr dj K h
end
end Go.ak
end
section
namespace Go.ak
section
variable {P:Program} {N N2:Nat->Prop} {ρ:List Loc} {I:aD} {w w':World}
theorem eA.J1 {tm:List R}{a:Act}(h:eA N ρ tm I a w)(cx:w.heap.size<=w'.heap.size)(ag:∀b,b<w.heap.size->¬N b->w'.heap[b]? =w.heap[b]?)
 (hQ:∀b,b<w.heap.size->N2 b->N b) (bL:∀b,N2 b->b<w'.heap.size):eA N2 ρ tm I a w':=by
 have aF:=h.eG
 have fs:∀x u,bB (aK N ρ I) w x u->bB (aK N2 ρ I) w' x u:=fun x u ao=>
  ao.mono fun b ah bm=>⟨ag b ah fun aB=>bm (.inl aB),fun nd=>nd.elim (fun ad=>bm (.inl (hQ b ah ad))) fun aR=>bm (.inr aR)⟩
 have k_:∀(i:Nat) (av:Loc) (b:Nat),ρ[i]? =some av->av.bs=some b->w'.heap[b]? =w.heap[b]? :=fun i av b ax ah=>ag b (aF.lt i av b ax ah) (aF.fz i av b ax ah)
 refine⟨⟨aF.len,bL,fun i av b ax ah=>apW (aF.lt i av b ax ah) cx,aF.inj,fun i av b ax ah aB=>aF.fz i av b ax ah (hQ b (aF.lt i av b ax ah) aB),fun i av ax=> ?_⟩,⟨h.d_.size,fun t=> ?_⟩,h.hP⟩
 ·exact(aF.ob i av ax).mono (fun b ah=>k_ i av b ax ah) fs fun _ _ _ id _ _=>eQ.refl ρ I id
 ·exact(h.d_.at_ t).mono fs fun id _=>eQ.refl ρ I id
theorem iX.seq {x y:Code}{S:e9}{K:ht->e9->Prop}(h:iX P x S fun e S'=>match e with| .normal=>iX P y S' K|e=>K e S'):iX P (.seq x y) S K:=fun N a w ρ ay=>by
 have ha:∀t,Code.eI (.seq x y) t=false->Code.eI x t=false/\Code.eI y t=false:=fun t aw=>by
  simpa[Code.eI,ar3]using aw
 refine wp_seq (wp_mono (h N a w ρ ay) fun e a1 w1 b5=> ?_);obtain⟨cg,rfl,aE⟩:=b5
 cases cg with
 |normal=>
  obtain⟨gv,cO,eo,aY,bj,bG⟩:=aE.ex;refine wp_mono (aY N a1 w1 eo bj) fun e a2 dd b5=> ?_;obtain⟨cg,rfl,pB⟩:=b5;exact⟨cg,rfl,pB.weaken bG (fun t aw=>⟨(ha t aw).2,aE.same t (ha t aw).1⟩) aE.an fun _ _ h=>h⟩
 |exit i=>exact⟨.exit i,rfl,aE.weaken (Fr.refl _ _ _) (fun t aw=>⟨(ha t aw).1,rfl⟩) rfl fun _ _ h=>h⟩
 |goto l=>exact⟨.goto l,rfl,aE.weaken (Fr.refl _ _ _) (fun t aw=>⟨(ha t aw).1,rfl⟩) rfl fun _ _ h=>h⟩
 |ret=>exact⟨.ret,rfl,aE.weaken (Fr.refl _ _ _) (fun t aw=>⟨(ha t aw).1,rfl⟩) rfl fun _ _ h=>h⟩
theorem iX.mono {x:Code}{S:e9}{K K':ht->e9->Prop}(h:iX P x S K)(ag:∀e S,K e S->K' e S):iX P x S K':=fun N a w ρ ay=>
 wp_mono (h N a w ρ ay) fun e a1 w1 b5=>by
  obtain⟨cg,rfl,aE⟩:=b5;obtain⟨gv,cO,eo,aY,bj,bG⟩:=aE.ex;exact⟨cg,rfl,⟨gv,cO,eo,ag _ _ aY,bj,bG⟩,aE.same,aE.an⟩
end
def xu (w:World)(Z:Nat->Prop)(base:Nat)(e:TypeId)(an:Nat)(v:Value)(l:List (List U)):Prop:=
 ∃xs,w.ownsRow base e an v l.length xs/\∀r j,r<l.length->j<an->∃u,xs[r*an+j]? =some u/\bB Z w ((l.getD r []).getD j .undef) u
structure vt (eX Z:Nat->Prop)(w:World)(base dm:Nat)(e:TypeId)(an:Nat)(ls:List (List (List U)))(aH:Array Value)(lq:TypeId):Prop where
 low:∀b,eX b->base<=b
 top:eX dm
 at_:w.heap[dm]? =some (.cells aH lq (0,0))
 size:aH.size=ls.length
 inner:∀i,i<ls.length->xu w Z base e an (aH.getD i undef) (ls.getD i [])
 bs:∀i b,i<ls.length->(aH.getD i undef).ownBlock=some b->eX b/\b≠dm
 inj:∀i j b,i<ls.length->j<ls.length->(aH.getD i undef).ownBlock=some b->(aH.getD j undef).ownBlock=some b->i=j
section
variable {P:Program} {eX Z Z':Nat->Prop} {w w':World} {base dm:Nat} {e:TypeId} {an:Nat} {ls:List (List (List U))} {aH:Array Value} {lq:TypeId}
theorem NR {v:Value}{n:Nat}{xs:List Value}(h:w.ownsRow base e an v n xs)(ag:∀b,v.ownBlock=some b->w'.heap[b]? =w.heap[b]?):w'.ownsRow base e an v n xs:=by
 refine⟨h.1, ?_⟩;rcases h.2 with aB|⟨g,cap,cur,rfl,ah,bh,br⟩
 ·exact .inl aB
 ·exact .inr ⟨g,cap,cur,rfl,ah,by rw[ag g rfl];exact bh,br⟩
theorem xu.aq {v:Value}{l:List (List U)}(h:xu w Z base e an v l)(ag:∀b,v.ownBlock=some b->w'.heap[b]? =w.heap[b]?)(ao:∀x u,bB Z w x u->bB Z' w' x u):xu w' Z' base e an v l:=by
 obtain⟨xs,ab,ad⟩:=h;refine⟨xs,NR ab ag,fun r j vI aI=> ?_⟩;obtain⟨u,aY,bj⟩:=ad r j vI aI;exact⟨u,aY,ao _ _ bj⟩
theorem vt.aq (h:vt eX Z w base dm e an ls aH lq)(ag:∀b,eX b->w'.heap[b]? =w.heap[b]?)(ao:∀x u,bB Z w x u->bB Z' w' x u):vt eX Z' w' base dm e an ls aH lq:=
 ⟨h.low,h.top,by rw[ag dm h.top];exact h.at_,h.size,fun i hi=>(h.inner i hi).aq (fun b ah=>ag b (h.bs i b hi ah).1) ao,h.bs,h.inj⟩
theorem xu.reads {v:Value}{l:List (List U)}(h:xu w Z base e an v l)(cx:0<an)(bm:∀b,v.ownBlock=some b->¬Z' b)(ao:∀x u,bB Z w x u->bB Z' w x u):bB Z' w (.ar an l) v:=by
 obtain⟨xs,⟨ax,aF⟩,ad⟩:=h;rcases aF with⟨rfl,aB⟩|⟨g,cap,cur,rfl,ah,bh,aC,_,j6,aw⟩
 ·have:l=[]:=arp aB;subst this;exact .kS _ _ _
 ·refine .ar an l l.length g 0 cap (fun i j=>xs.getD (i*an+j) undef) rfl cx (bm g rfl) aC (fun i j hi aI=> ?_) fun i j hi aI=> ?_
  ·obtain⟨u,aY,bj⟩:=ad i j hi aI
   have:cur[i*an+j]? =some u:=by
    rw[<-aw,aqq]at aY;split at aY
    ·simpa using aY
    ·cases aY
   simp only[World.cell?,bh,apA,aY,aqz];simpa using this
  ·obtain⟨u,aY,bj⟩:=ad i j hi aI;simp only[apA,aY,aqz];exact ao _ _ (by simpa[apA]using bj)
theorem vt.reads (h:vt eX Z w base dm e an ls aH lq)(cx:0<an)(bm:∀b,eX b->¬Z' b)(ao:∀x u,bB Z w x u->bB Z' w x u):
 bB Z' w (.ar 1 (ls.map fun l=>[.ar an l])) (.slice (some ⟨dm,0,none⟩) ls.length ls.length):=by
 refine .ar 1 _ ls.length dm 0 ls.length (fun i _=>aH.getD i undef) (by simp) Nat.one_pos (bm _ h.top) (apF _) (fun i j hi aI=> ?_) fun i j hi aI=> ?_
 ·have bL:i<aH.size:=by rw[h.size];exact hi
  obtain rfl:j=0:=by omega
  simp[World.cell?,h.at_,bL]
 ·obtain rfl:j=0:=by omega
  have:=(h.inner i hi).reads (Z':=Z') cx (fun b ah=>bm b (h.bs i b hi ah).1) ao;simpa[apA,hi]using this
end
structure tk (N eX:Nat->Prop)(iz:List Loc)(ee:aD)(er:World)(dH:Tmp)(dm:Nat)(e:TypeId)(an:Nat)(ls:List (List (List U)))(ρ:List Loc)(S:e9)(a:Act)(w:World):Prop where
 qA:eA (fun b=>N b\/eX b) ρ S.tm S.I a w
 Bz:Fr iz ee er ρ S.I w
 nest:∃aH lq,vt eX (aK (fun b=>N b\/eX b) ρ S.I) w er.heap.size dm e an ls aH lq
 slot:a.tmps.getD dH undef= .slice (some ⟨dm,0,none⟩) ls.length ls.length
def hN (P:Program)(dH:Tmp)(e:TypeId)(an:Nat)(c:Code)(S:e9)(ls:List (List (List U)))(K:ht->e9->List (List (List U))->Prop):Prop:=
 ∀(N eX:Nat->Prop) (iz:List Loc) (ee:aD) (er:World) (dm:Nat) (ρ:List Loc) (a:Act) (w:World),tk N eX iz ee er dH dm e an ls ρ S a w->
  c.wp P (fun ex cf w'=>∃(cg:ht) (S':e9) (iC:List (List (List U))) (hW:Nat->Prop) (ρ':List Loc),ex=cg.to/\K cg S' iC/\tk N hW iz ee er dH dm e an iC ρ' S' cf w'/\
   (∀t,Code.eI c t=false->cf.tmps.getD t undef=a.tmps.getD t undef)/\cf.tmps.size=a.tmps.size/\∀y u,bB (aK (fun b=>N b\/eX b) ρ S.I) w y u->bB (aK (fun b=>N b\/hW b) ρ' S'.I) w' y u) a w
section
variable {P:Program} {dH:Tmp} {e:TypeId} {an:Nat} {S:e9} {ls:List (List (List U))} {K:ht->e9->List (List (List U))->Prop}
theorem tk.step {N eX:Nat->Prop}{iz ρ ρ':List Loc}{ee:aD}{er w w':World}{dm:Nat}{a cf:Act}{S':e9}(h:tk N eX iz ee er dH dm e an ls ρ S a w)(ay:eA (fun b=>N b\/eX b) ρ' S'.tm S'.I cf w')
 (aU:Fr ρ S.I w ρ' S'.I w') (aw:cf.tmps.getD dH undef=a.tmps.getD dH undef):tk N eX iz ee er dH dm e an ls ρ' S' cf w':=by
 obtain⟨aH,lq,aB⟩:=h.nest;have aF:=h.qA.eG;refine⟨ay,h.Bz.trans aU,⟨aH,lq,aB.aq (fun b ah=>aU.aq b (aF.e3 b (.inr ah)) ?_) fun _ _=>aU.reads⟩,aw.trans h.slot⟩;rintro⟨i,av,ab,ad,_⟩;exact aF.fz i av b ab ad (.inr ah)
theorem hN.of {c:Code}(h:iX P c S fun ex S'=>K ex S' ls)(aw:Code.eI c dH=false):hN P dH e an c S ls K:=fun N eX iz ee er dm ρ a w ao=>by
 refine wp_mono (h _ a w ρ ao.qA) fun ex cf w' b5=> ?_;obtain⟨cg,rfl,aE⟩:=b5;obtain⟨dL,al,ρ',aY,bj,bG⟩:=aE.ex;exact⟨cg,⟨dL,al⟩,ls,eX,ρ',rfl,aY,ao.step bj bG (aE.same dH aw),aE.same,aE.an,fun _ _=>bG.reads⟩
theorem hN.mono {c:Code}{K':ht->e9->List (List (List U))->Prop}(h:hN P dH e an c S ls K)(ag:∀ex S l,K ex S l->K' ex S l):hN P dH e an c S ls K':=fun N eX iz ee er dm ρ a w ao=>
 wp_mono (h N eX iz ee er dm ρ a w ao) fun ex cf w' ⟨cg,S',iC,hW,ρ',ab,ad,aA⟩=>⟨cg,S',iC,hW,ρ',ab,ag _ _ _ ad,aA⟩
theorem hN.seq {x y:Code}(h:hN P dH e an x S ls fun ex S' cm=>match ex with| .normal=>hN P dH e an y S' cm K|ex=>K ex S' cm):hN P dH e an (.seq x y) S ls K:=fun N eX iz ee er dm ρ a w ao=>by
 have ha:∀t,Code.eI (.seq x y) t=false->Code.eI x t=false/\Code.eI y t=false:=fun t aw=>by
  simpa[Code.eI,ar3]using aw
 refine wp_seq (wp_mono (h N eX iz ee er dm ρ a w ao) fun ex a1 w1 b5=> ?_);obtain⟨cg,S',iC,hW,ρ',rfl,ad,aA,ba,bJ,cu⟩:=b5
 cases cg with
 |normal=>
  refine wp_mono (ad N hW iz ee er dm ρ' a1 w1 aA) fun ex a2 dd b5=> ?_;obtain⟨K0,alb,ahx,ahy,iP,rfl,g2,g3,g4,g5,g6⟩:=b5;exact⟨K0,alb,ahx,ahy,iP,rfl,g2,g3,fun t aw=>(g4 t (ha t aw).2).trans (ba t (ha t aw).1),g5.trans bJ,fun y u h=>g6 y u (cu y u h)⟩
 |exit i=>exact⟨.exit i,S',iC,hW,ρ',rfl,ad,aA,fun t aw=>ba t (ha t aw).1,bJ,cu⟩
 |goto i=>exact⟨.goto i,S',iC,hW,ρ',rfl,ad,aA,fun t aw=>ba t (ha t aw).1,bJ,cu⟩
 |ret=>exact⟨.ret,S',iC,hW,ρ',rfl,ad,aA,fun t aw=>ba t (ha t aw).1,bJ,cu⟩
theorem hN.block {id:Nat}{c:Code}(h:hN P dH e an c S ls fun ex S' cm=>match ex with| .exit i=>(if i=id then K .normal S' cm else K (.exit i) S' cm)|ex=>K ex S' cm):hN P dH e an (.block id c) S ls K:=fun N eX iz ee er dm ρ a w ao=>by
 refine wp_block (wp_mono (h N eX iz ee er dm ρ a w ao) fun ex a1 w1 b5=> ?_);obtain⟨cg,S',iC,hW,ρ',rfl,ad,aA,ba,bJ,cu⟩:=b5
 cases cg with
 |normal=>exact⟨.normal,S',iC,hW,ρ',rfl,ad,aA,ba,bJ,cu⟩
 |goto i=>exact⟨.goto i,S',iC,hW,ρ',rfl,ad,aA,ba,bJ,cu⟩
 |ret=>exact⟨.ret,S',iC,hW,ρ',rfl,ad,aA,ba,bJ,cu⟩
 |exit i=>
  simp only at ad;show(if i=id then _ else _);split
  ·rename_i hi;rw[apz hi]at ad;exact⟨.normal,S',iC,hW,ρ',rfl,ad,aA,ba,bJ,cu⟩
  ·rename_i hi;rw[apy hi]at ad;exact⟨.exit i,S',iC,hW,ρ',rfl,ad,aA,ba,bJ,cu⟩
def leads:List R->List R->Prop
 |[],[]=>True
 |a::xs,b::jU=>(b= .any\/(a=b/\b.plain=true))/\leads xs jU
 |_,_=>False
theorem PW:∀{l cm:List R},leads l cm->l.length=cm.length/\∀i,cm.getD i .un= .any\/(l.getD i .un=cm.getD i .un/\(cm.getD i .un).plain=true)
 |[],[],_=>⟨rfl,fun i=> .inr ⟨rfl,by simp;rfl⟩⟩
 |[],_::_,h=>h.elim
 |_::_,[],h=>h.elim
 |a::xs,b::jU,h=>by
  obtain⟨ab,ad⟩:=PW h.2;refine⟨by simp[ab],fun i=> ?_⟩
  cases i with
  |zero=>simpa using h.1
  |succ i=>simpa using ad i
theorem eA.leads {N:Nat->Prop}{ρ:List Loc}{tm dL:List R}{I:aD}{a:Act}{w:World}(h:eA N ρ tm I a w)(ax:ak.leads tm dL):eA N [] dL [] a w/\Fr ρ I w [] [] w:=by
 obtain⟨ab,ad⟩:=PW ax;have aF:=h.eG
 have bm:∀x u,bB (aK N ρ I) w x u->bB (aK N [] []) w x u:=fun x u ao=>ao.mono fun b _ ah=>⟨rfl,fun ho=>ah (ho.elim .inl fun⟨i,av,e,_⟩=>by simp at e)⟩
 refine⟨⟨⟨rfl,aF.e3,fun i av b e=>by simp at e,fun i j li cA b e=>by simp at e,fun i av b e=>by simp at e,fun i av e=>by simp at e⟩,⟨h.d_.size.trans ab,fun t=> ?_⟩,h.hP⟩,
  rfl,rfl,rfl,apF _,fun _ _ _=>rfl,fun b ⟨i,av,e,_⟩=>by simp at e⟩
 rcases ad t with e|⟨e,aE⟩
 ·rw[e];exact .c7 trivial
 ·rw[<-e]at aE⊢;exact(h.d_.at_ t).mono bm fun id aB=>(Hg aE aB).elim
theorem hN.loop (E:bA){c:Code}{bs:Nat}(aQ:dt (E.loops bs).ps->List (List (List U))->Prop)(m:dt (E.loops bs).ps->List (List (List U))->Nat)
 (bc:p6 (fun _=>false) (E.loops bs) (iI (E.loops bs).conv S) (iI (E.loops bs).conv S) fun y=>aQ y ls)
 (round:∀x l,aQ x l->hN P dH e an c (lD (E.loops bs) (iI (E.loops bs).conv S) x) l fun ex S' cm=>match ex with
   | .normal=>p6 (Code.eI c) (E.loops bs) (iI (E.loops bs).conv S) (mS (E.loops bs).conv S') fun y=>aQ y cm/\m y cm<m x l
   |ex=>K ex S' cm):hN P dH e an (.loop c) S ls K:=fun N eX iz ee er dm ρ a w ao=>by
 obtain⟨xY,lT,Vj⟩:=um (E.loops bs).conv S ρ ao.qA
 have alc:=ao.step (S':=iI (E.loops bs).conv S) lT Vj rfl;obtain⟨b4,k6,eo,eN,rZ⟩:=Ce (fun _=>false) _ _ lT lT (Fr.refl _ _ _) (fun _ _=>rfl) rfl bc
 refine G1 (fun(x:dt (E.loops bs).ps×List (List (List U))) cf w'=>aQ x.1 x.2/\(∃hW ρ',tk N hW iz ee er dH dm e an x.2 ρ' (lD (E.loops bs) (iI (E.loops bs).conv S) x.1) cf w'/\
  ∀y u,bB (aK (fun b=>N b\/eX b) xY (iI (E.loops bs).conv S).I) w y u->bB (aK (fun b=>N b\/hW b) ρ' (lD (E.loops bs) (iI (E.loops bs).conv S) x.1).I) w' y u)/\
  (∀t,Code.eI c t=false->cf.tmps.getD t undef=a.tmps.getD t undef)/\cf.tmps.size=a.tmps.size) (fun x=>m x.1 x.2) (b4,ls)
  ⟨k6,⟨eX,eo,alc.step eN rZ rfl,fun _ _=>rZ.reads⟩,fun _ _=>rfl,rfl⟩ ?_
 rintro⟨x,l⟩ a1 w1 ⟨fl,⟨ald,dF,iW,AG⟩,j9,cx⟩;refine wp_mono (round x l fl N ald iz ee er dm dF a1 w1 iW) fun ex a2 dd b5=> ?_;obtain⟨cg,S',iC,hW,ρ',rfl,ad,aA,ba,bJ,cu⟩:=b5
 have gk:∀t,Code.eI c t=false->a2.tmps.getD t undef=a.tmps.getD t undef:=fun t aw=>(ba t aw).trans (j9 t aw)
 have J2:=fun y u h=>cu y u (AG y u (Vj.reads h))
 cases cg with
 |normal=>
  obtain⟨g1,g2⟩:=yQ (E.loops bs).conv S' ρ' aA.qA
  have ale:=aA.step (S':=mS (E.loops bs).conv S') g1 g2 rfl;obtain⟨y,bo,Kq,Kr,FW⟩:=N0 (a1:=a) (w1:=w) (S:=mS (E.loops bs).conv S') (Code.eI c) (E.loops bs) _ lT.d_ g1 (fun y u h=>g2.reads (cu y u (AG y u h))) gk (bJ.trans cx) ad;exact⟨(y,iC),⟨bo.1,⟨hW,Kq,ale.step Kr FW rfl,fun z u h=>FW.reads (g2.reads (cu z u (AG z u h)))⟩,gk,bJ.trans cx⟩,bo.2⟩
 |exit i=>exact⟨.exit i,S',iC,hW,ρ',rfl,ad,aA,gk,bJ.trans cx,J2⟩
 |goto i=>exact⟨.goto i,S',iC,hW,ρ',rfl,ad,aA,gk,bJ.trans cx,J2⟩
 |ret=>exact⟨.ret,S',iC,hW,ρ',rfl,ad,aA,gk,bJ.trans cx,J2⟩
end
def je (n:Nat):Array Bool:=#[0<n,1<n,2<n,3<n,4<n,5<n,6<n,7<n,8<n,9<n,10<n]
def SR (ops:Array Oper):Bool:=
 Region.noSelect ops&&(List.range 5).all (fun i=>Region.free .any ops (je i) i&&(Region.ready .any ops (je i)).contains i)&&
 Region.ready .any ops (je 5)==[5,6]&&Region.ready .any ops ((je 5).setIfInBounds 5 true)==[6]&&Region.ready .any ops ((je 5).setIfInBounds 6 true)==[5,7]&&
 Region.ready .any ops (je 7)==[7]&&Region.ready .any ops (((je 5).setIfInBounds 6 true).setIfInBounds 7 true)==[5]&&
 Region.ready .any ops (je 8)==[8]&&Region.ready .any ops (je 9)==[9]&&Region.ready .any ops (je 10)==[10]&&Region.ready .any ops (je 11)==[]
def j3 (ops:Array Oper)(i:Nat)(d:Option Tmp)(p:Op):Prop:=∃o,ops[i]? =some o/\o.dst=d/\o.op=p/\o.guard=none
structure R8 (ops:Array Oper)(s dH kE fA:Nat)(lW gy q0:TypeId):Prop where
 size:ops.size=11
 rd:SR ops=true
 au:j3 ops 0 (some s) (.move (.tmp dH))
 bD:j3 ops 1 (some (s+1)) (.move (.tmp kE))
 bx:j3 ops 2 (some (s+2)) (.move (.tmp dH))
 cH:j3 ops 3 (some (s+3)) (.move (.tmp kE))
 jV:j3 ops 4 (some (s+4)) (.indexAddr lW (.tmp (s+2)) (.tmp (s+3)))
 im:j3 ops 5 (some (s+5)) (.load gy (.tmp (s+4)))
 qW:j3 ops 6 (some (s+6)) (.load q0 (.tmp fA))
 GK:j3 ops 7 (some (s+7)) (.buildSlice gy 1 #[(0, .tmp (s+6))])
 GL:j3 ops 8 (some (s+8)) (.call {callee:= .builtin .append,args:=#[.tmp (s+5), .tmp (s+7)],argTypes:=#[gy,gy]})
 Wc:j3 ops 9 (some (s+9)) (.indexAddr lW (.tmp s) (.tmp (s+1)))
 alf:j3 ops 10 none (.store gy (.tmp (s+9)) (.tmp (s+8)))
def pL (a:Act)(n:Nat)(F:Nat->Value):Prop:=a.tmps.size=n/\a.defers=[]/\∀t,a.tmps.getD t undef=F t
theorem pL.at_ {a:Act}{n:Nat}{F:Nat->Value}(h:pL a n F){t:Nat}{v:Value}(e:F t=v):a.eval (.tmp t)=v:=(h.2.2 t).trans e
theorem pL.put {a:Act}{n:Nat}{F:Nat->Value}(h:pL a n F){d:Nat}(a_:d<n)(v:Value):pL (a.put (some d) v) n fun t=>if d=t then v else F t:=
 ⟨by simp[Act.put,h.1],h.2.1,fun t=>by
  simp only[Act.put];rw[wm,h.1,h.2.2]
  by_cases e:d=t
  ·rw[apz ⟨e,a_⟩,apz e]
  ·rw[apy (fun x=>e x.1),apy e]⟩
section
variable {P:Program} {ops:Array Oper} {Q:Exit->Act->World->Prop} {K:Act->World->Prop} {a:Act} {w:World}
theorem o0 {i:Nat}{d:Option Tmp}{p:Op}{v:Value}{w':World}(h:j3 ops i d p)(ao:∀o:Oper,o.op=p->(execOp a.eval o).run P w= .ok (.value v) w')(ag:K (a.put d v) w'):wpOp P ops Q i K a w:=by
 obtain⟨o,aF,rfl,aE,bh⟩:=h;unfold wpOp;simp only[aF];rw[apz (by simp[Region.wanted,bh])];refine .inl ?_;unfold Oper.wp;rw[ao o aE];exact ag
theorem aeV {i:Nat}{d:Option Tmp}{v:Value}{w':World}{o:Oper}(aF:ops[i]? =some o)(a_:o.dst=d)(bh:o.guard=none)(ao:(execOp a.eval o).run P w= .ok (.value v) w')(ag:K (a.put d v) w'):wpOp P ops Q i K a w:=by
 unfold wpOp;simp only[aF];rw[apz (by simp[Region.wanted,bh])];refine .inl ?_;unfold Oper.wp;rw[ao];subst a_;exact ag
theorem abU {i:Nat}{p:Op}{w':World}(h:j3 ops i none p)(ao:∀o:Oper,o.op=p->(execOp a.eval o).run P w= .ok .skip w')(ag:K a w'):wpOp P ops Q i K a w:=by
 obtain⟨o,aF,a_,aE,bh⟩:=h;unfold wpOp;simp only[aF];rw[apz (by simp[Region.wanted,bh])];refine .inl ?_;unfold Oper.wp;rw[ao o aE];show K (a.put o.dst undef) w';rw[a_];exact ag
theorem take_one {i:Nat}{d:Option Tmp}{p:Op}{v:Value}{fuel:Nat}{l cm:Array Bool}(h:j3 ops i d p)(ax:l.setIfInBounds i true=cm)(ay:Region.noSelect ops=true)(aU:Region.free .any ops l i=true)
 (ao:(Region.ready .any ops l).contains i=true) (a6:∀c a w,¬Q (.panic c) a w) (aO:∀(o:Oper) (w:World),o.op=p->(execOp a.eval o).run P w= .ok (.value v) w) (ag:wpAny P .any ops Q fuel cm (a.put d v) w):wpAny P .any ops Q (fuel+1) l a w:=by
 obtain⟨o,aF,rfl,aE,bh⟩:=h;subst ax;exact wpAny_take aF ay aU ao (fun c a w h=>(a6 c _ w h).elim) (.inl ⟨by simp[Region.wanted,bh],fun w=>aO o w aE⟩) ag
theorem uS {i:Nat}{fuel:Nat}{l cm:Array Bool}(ax:l.setIfInBounds i true=cm)(ao:Region.ready .any ops l=[i])(ag:wpOp P ops Q i (wpAny P .any ops Q fuel cm) a w):wpAny P .any ops Q (fuel+1) l a w:=by
 subst ax;exact wpAny_all ao (by simp) fun j aI=>by rw[aqy]at aI;subst aI;exact ag
theorem aaf {aH:Array Value}{k:Nat}{v:Value}(ag:k<aH.size):(aH.toList.take k++[v]++aH.toList.drop (k+1)).toArray=aH.setIfInBounds k v:=by
 apply Array.ext';rw[Array.toList_setIfInBounds,List.set_eq_take_append_cons_drop,apz (by simpa using ag)];simp
theorem abV {t:TypeId}{i:b7}(hi:c5 P t i=true){s:cb}(ay:i.ty= .aG s)(b k:Nat)(aH:Array Value)(e:TypeId)(ah:w.heap[b]? =some (.cells aH e (0,0)))(ag:k<aH.size)(a:Option Addr)(n c:Nat):
 (Instr.storeAt t (.pointer (some ⟨b,k,none⟩)) (.slice a n c)).run P w= .ok () (w.setRow b (aH.setIfInBounds k (.slice a n c))):=by
 obtain⟨g,ab,ad⟩:=Rj hi ay;have cS:=run_storeCells_at P b k e [.slice a n c] 0 aH w ah (by simp;omega) (by simp[Value.oneCell']);simp only[apV,aqX,aaf ag]at cS;simp[Instr.storeAt,Instr.sureAddr,storeVar,lr ab,ad,Value.cells,cS]
theorem aag {base:Nat}{t ty e:TypeId}{i:TypeInfo}{z:Value}(aw:P.underlying t=some (.slice e))(hi:P.info? e=some i)(bm:i.zero=some z)
 {size:Nat} (oh:i.size=size) {v:Value} {n:Nat} {xs:List Value} (fa:w.ownsRow base e size v n xs) {iF:Addr} {c:Nat} {news:List Value} (ax:news.length=1*size) (mZ:∀j u,news[j]? =some u->w.cell? (iF.add j)=some u) (ab:∀u∈news,u.oneCell'=true)
 (po:n+1<=maxLen) (w_:(n+1)*i.bytes<=140737488355328) {c8:Value} {w':World} (ao:(Builtin.append_ #[t,t] ty #[v, .slice (some iF) 1 c]).run P w= .ok c8 w'):
 c8.ownBlock=v.ownBlock\/c8.ownBlock=some w.heap.size:=by
 subst oh;have aou:n+1<=9223372036854775807:=by simp only[maxLen]at po;omega
 rcases fa.2 with⟨rfl,rfl⟩|⟨g,cap,cur,rfl,ao_,bh,Ki,pG,j6,aoK⟩
 ·rw[run_append_nil (P:=P) w t ty e i z aw hi bm iF 1 c news ax mZ (by omega) (by omega) (by simp only[ap3]at w_;omega)]at ao;simp only[Result.ok.injEq]at ao;rw[<-ao.1];exact .inr rfl
 ·by_cases s6:n+1<=cap
  ·rw[run_append_room (P:=P) w t ty e i aw hi g n cap cur bh iF 1 c news ax mZ ab s6 (by rw[ax,j6,<-apU];exact apP _ s6)]at ao;simp only[Result.ok.injEq]at ao;rw[<-ao.1];exact .inl rfl
  ·rw[run_append_grow (P:=P) w t ty e i z aw hi bm ⟨g,0,none⟩ n cap xs fa.1 (fa.cells (g:=g) rfl) iF 1 c news ax mZ (by omega) (by omega) (growslice_fits (by omega) w_)]at ao;simp only[Result.ok.injEq]at ao;rw[<-ao.1];exact .inr rfl
end
section
variable {P:Program} {a:Act} {w w':World} {o:Oper}
theorem run_move {x:Operand}(h:o.op= .move x):(execOp a.eval o).run P w= .ok (.value (a.eval x)) w:=by unfold execOp;rw[h];rfl
theorem R9 {t:TypeId}{x i:Operand}{v:Value}(h:o.op= .indexAddr t x i)(ao:(Instr.indexAt t (a.eval x) (a.eval i)).run P w= .ok v w):(execOp a.eval o).run P w= .ok (.value v) w:=by
 unfold execOp;rw[h];simp[ao]
theorem SS {t:TypeId}{x:Operand}{v:Value}(h:o.op= .load t x)(ao:(Instr.loadAt t (a.eval x)).run P w= .ok v w):(execOp a.eval o).run P w= .ok (.value v) w:=by
 unfold execOp;rw[h];simp[ao]
theorem aeW {t:TypeId}{x y:Operand}(h:o.op= .store t x y)(ao:(Instr.storeAt t (a.eval x) (a.eval y)).run P w= .ok () w'):(execOp a.eval o).run P w= .ok .skip w':=by
 unfold execOp;rw[h];simp[ao]
theorem aeX {t:TypeId}{n:Nat}{x:Operand}{v:Value}(h:o.op= .buildSlice t n #[(0,x)])(ao:(Instr.buildSlice t n #[(0,a.eval x)]).run P w= .ok v w'):(execOp a.eval o).run P w= .ok (.value v) w':=by
 unfold execOp;rw[h];simp[ao]
theorem aeY {t:TypeId}{x y:Operand}{v:Value}(h:o.op= .call {callee:= .builtin .append,args:=#[x,y],argTypes:=#[t,t]})(ao:(Builtin.append_ #[t,t] o.type #[a.eval x,a.eval y]).run P w= .ok v w'):(execOp a.eval o).run P w= .ok (.value v) w':=by
 unfold execOp;simp only[h,resolve,invoke,builtin,Sem.run_bind,Sem.run_pure,Result.andThen_ok,arE,ap2,List.map_nil,ao]
end
def tl (s:Nat):Nat->List R->List R
 |0,l=>l
 |n+1,l=>cK (tl s n l) (s+n) .any
theorem Q4 (s:Nat)(l:List R):∀n,s+n<=l.length->(tl s n l).length=l.length/\∀t,(tl s n l).getD t .un=if s<=t/\t<s+n then .any else l.getD t .un
 |0,h=>⟨rfl,fun t=>by rw[apy (by omega)];rfl⟩
 |n+1,h=>by
  obtain⟨ab,ad⟩:=Q4 s l n (by omega);simp only[tl,eE];refine⟨by simp[ab],fun t=> ?_⟩;rw[eR,ab,ad]
  by_cases e:s+n=t
  ·rw[apz ⟨e,by omega⟩,apz (by omega)]
  ·rw[apy (fun x=>e x.1)]
   by_cases q:s<=t/\t<s+n
   ·rw[apz q,apz (by omega)]
   ·rw[apy q,apy (by omega)]
section
variable {P:Program} {dH:Nat} {e:TypeId} {an:Nat} {S:e9} {ls:List (List (List U))} {K:ht->e9->List (List (List U))->Prop}
theorem hN.append (E:bA)(c3:gn P E){id:Nat}{ops:Array Oper}{s kE fA:Nat}{lW gy q0:TypeId}(h:R8 ops s dH kE fA lW gy q0)(K1:(E.tb lW).ty= .aG (.dK 1))(hC:(E.tb gy).ty= .aG (.dK an))(Be:P.underlying gy=some (.slice e))
 {k:Int} {yu:List Prop} {v6:R} {row:List U} (ay:s+10<=S.tm.length) (a_:dH<s/\kE<s/\fA<s) (ag:aN S.tm (.tmp kE)= .d (.int .i64 k)) (bc:0<=k) (ab:k<ls.length)
 (qN:h2 (E.tb q0).ty (aN S.tm (.tmp fA)) S.I= .a8 yu v6 S.I) (alg:∀p∈yu,p) (kV:hH S.I an (E.tb gy).fv 1 [(0,v6)]=some [row]) (cx:an<=65536) (nH:0<(E.tb gy).bytes)
 (ah:((ls.getD k.toNat []).length+1)*(E.tb gy).bytes<=140737488355328)
 (e5:K .normal ⟨tl s 10 S.tm,S.I++[(false, .ar an [row])]⟩ (ls.set k.toNat (ls.getD k.toNat []++[row]))):hN P dH e an (.region id ops true) S ls K:=fun N eX iz ee er dm ρ a w ao=>by
 obtain⟨d1,d2,d3⟩:=a_;have Ar:cv (fun b=>N b\/eX b) ρ S.I w ρ S.I {w with drawn:=w.drawn+1}:=cv.drew ao.qA.eG rfl rfl rfl rfl;have eN:eA (fun b=>N b\/eX b) ρ S.tm S.I a {w with drawn:=w.drawn+1}:=⟨Ar.rel,ao.qA.d_.step Ar,ao.qA.hP⟩;have iW:=ao.step (S':=S) eN Ar.toFr rfl;refine wp_region_any c3.mixed ?_;rw[h.size];have fs:=h.rd;simp only[SR,apM,beq_iff_eq]at fs;obtain⟨⟨⟨⟨⟨⟨⟨⟨⟨⟨As,cy⟩,ano⟩,alh⟩,ali⟩,Wd⟩,alj⟩,anp⟩,anq⟩,alk⟩,alm⟩:=fs
 have cy:∀i,i<5->Region.free .any ops (je i) i=true/\(Region.ready .any ops (je i)).contains i=true:=fun i hi=>by
  have:=apR.1 cy i (by simpa using hi);simpa[apM]using this
 generalize aln:({w with drawn:=w.drawn+1}:World)=w1 at iW eN⊢
 have af3:∀y u,bB (aK (fun b=>N b\/eX b) ρ S.I) w y u->bB (aK (fun b=>N b\/eX b) ρ S.I) w1 y u:=aln▸fun _ _=>Ar.toFr.reads
 clear ao Ar;obtain⟨aH,lq,aB⟩:=iW.nest;have aF:=eN.eG;obtain⟨aps,apt,apu,q1,cG,cV,_⟩:=ss (c3.ty lW) K1;obtain⟨cg,g,z,jq,lX,tS,yq,anr,ans,We,GI⟩:=ss (c3.ty gy) hC;rw[Be]at jq;obtain rfl:e=cg:=by simpa using jq
 have iV:z.cells.size=an:=by rw[<-aqD,(q3 (Z:=fun _=>False) (w:=w1) GI).1,ans]
 have bL:k.toNat<ls.length:=by omega
 have bZ:a.eval (.tmp kE)= .int .i64 k:=jb (ag▸ey eN.d_ (.tmp kE));have el:a.eval (.tmp dH)= .slice (some ⟨dm,0,none⟩) ls.length ls.length:=iW.slot
 have TV:∀w,(Instr.indexAt lW (.slice (some ⟨dm,0,none⟩) ls.length ls.length) (.int .i64 k)).run P w= .ok (.pointer (some ⟨dm,k.toNat,none⟩)) w:=fun w=>by
  have:=run_indexAt_slice (w:=w) q1 cG dm 0 ls.length ls.length .i64 k bc (by omega);rw[cV]at this;simpa using this
 have k_:dm<w1.heap.size:=aF.e3 _ (.inr aB.top)
 have alo:∀w':World,w'.heap[dm]? =w1.heap[dm]? ->(Instr.loadAt gy (.pointer (some ⟨dm,k.toNat,none⟩))).run P w'= .ok (aH.getD k.toNat undef) w':=fun w' hw=>by
  have aC:w'.cell? ⟨dm,k.toNat,none⟩=some (aH.getD k.toNat undef):=by
   have:k.toNat<aH.size:=by rw[aB.size];exact bL
   simp[World.cell?,hw,aB.at_,this]
  simpa[Instr.loadAt,Instr.sureAddr]using zj (w:=w') (c3.ty gy) hC dm k.toNat aC
 obtain⟨sl,_,alp,alq⟩:=G7 (c3.ty q0) aF (op:= .tmp fA) eN.d_ qN alg;have alr:b6 .un (cK S.tm (s+6) v6) (s+6)=v6:=by rw[dW,eE,eR,apz ⟨rfl,by omega⟩]
 obtain⟨wi,dd,dF,K2,mz,als⟩:=G2 (c3.ty gy) aF (a:=a.put (some (s+6)) sl) (tm:=cK S.tm (s+6) v6) (ei.put eN.d_ (some (s+6)) alq) #[(0, .tmp (s+6))] 1 hC
  (show hH S.I an (E.tb gy).fv 1 [(0,b6 .un (cK S.tm (s+6) v6) (s+6))]=some [row] by rw[alr];exact kV) (by omega)
 have pz:pL a S.tm.length fun t=>a.eval (.tmp t):=⟨eN.d_.size,eN.hP,fun _=>rfl⟩;have alu:(a.put (some (s+6)) sl).eval (.tmp (s+6))=sl:=(pz.put (d:=s+6) (by omega) sl).at_ (apz rfl);have K2:(Instr.buildSlice gy 1 #[(0,sl)]).run P w1= .ok wi dd:=by rw[<-K2];simp[alu]
 have ew:dd.heap[dm]? =w1.heap[dm]? :=mz.aq dm k_ fun⟨i,av,cl,cr,_⟩=>aF.fz i av dm cl cr (.inr aB.top)
 generalize jB:(fun(ex:Exit) (cf:Act) (w':World)=>∃(cg:ht) (S':e9) (iC:List (List (List U))) (hW:Nat->Prop) (ρ':List Loc),ex=cg.to/\K cg S' iC/\tk N hW iz ee er dH dm e an iC ρ' S' cf w'/\
  (∀t,Code.eI (.region id ops true) t=false->cf.tmps.getD t undef=a.tmps.getD t undef)/\cf.tmps.size=a.tmps.size/\∀y u,bB (aK (fun b=>N b\/eX b) ρ S.I) w y u->bB (aK (fun b=>N b\/hW b) ρ' S'.I) w' y u)=Q
 have a6:∀c a w,¬Q (.panic c) a w:=fun c a w b5=>by
  subst jB;obtain⟨cg,_,_,_,_,b5,_⟩:=b5;cases cg<;>cases b5
 have L:∀i,i<11->(je i).setIfInBounds i true=je (i+1):=by decide
 have main:∀(b:Act) (F:Nat->Value),pL b S.tm.length F->F s= .slice (some ⟨dm,0,none⟩) ls.length ls.length->F (s+1)= .int .i64 k->F (s+5)=aH.getD k.toNat undef->F (s+7)=wi->(∀t,t<s\/s+9<t->F t=a.eval (.tmp t))->
  wpAny P .any ops Q 3 (je 8) b dd:=by
  intro b F dG f0 f1 f5 f7 Lu;obtain⟨av,dg,hu,_⟩:=als;have cR:ae.at (S.I++[(false, .ar an [row])]) S.I.length= .ar an [row]:=by rw[fQ,apz rfl]
  have ck:=mz.rel.ob S.I.length av dg;rw[cR]at ck hu;rcases ck with⟨E2,_⟩|⟨Lv,Bf,mI,aY,bj,bG,di,eK,gC,lf⟩
  ·cases E2
  have hu:wi= .slice (some ⟨Lv,0,none⟩) 1 av.cap:=by rw[hu,aY];rfl
  have lf:∀j,j<an->∃v,Bf[j]? =some v/\bB (aK (fun b=>N b\/eX b) dF (S.I++[(false, .ar an [row])])) dd (row.getD j .undef) v:=fun j aI=>by
   have:=lf 0 j (by simp) aI;simpa using this
  have mZ:∀j u,((List.range an).map fun j=>Bf.getD j undef)[j]? =some u->j<an/\Bf[j]? =some u:=fun j u aI=>by
   rw[aqv]at aI
   by_cases ax:j<an
   ·obtain⟨v,az,_⟩:=lf j ax;simp[ax]at aI;rw[az]at aI;exact⟨ax,by rw[az,<-aI];rfl⟩
   ·simp[ax]at aI
  have ahz:∀x,eX x->¬gi ρ S.I x:=fun x aj ⟨i,av,cl,cr,_⟩=>aF.fz i av x cl cr (.inr aj)
  have ow:vt eX (aK (fun b=>N b\/eX b) dF (S.I++[(false, .ar an [row])])) dd er.heap.size dm e an ls aH lq:=
   aB.aq (fun x aj=>mz.aq x (aF.e3 x (.inr aj)) (ahz x aj)) fun _ _=>mz.toFr.reads
  obtain⟨xs,nL,AM⟩:=ow.inner k.toNat bL;obtain⟨GL,alv,alw,alx,aly⟩:=h.GL;have hmul:(ls.getD k.toNat []).length+1<=((ls.getD k.toNat []).length+1)*(E.tb gy).bytes:=Nat.le_mul_of_pos_right _ nH;have po:(ls.getD k.toNat []).length+1<=maxLen:=by simp only[maxLen];omega
  have tN:er.heap.size<=dd.heap.size:=apS iW.Bz.size mz.size
  have hv:∀j u,((List.range an).map fun j=>Bf.getD j undef)[j]? =some u->dd.cell? ((⟨Lv,0,none⟩:Addr).add j)=some u:=fun j u aI=>by
   rw[mP];simp[World.cell?,bG,(mZ j u aI).2]
  have xy:∀u∈((List.range an).map fun j=>Bf.getD j undef),u.oneCell'=true:=fun u hu=>by
   obtain⟨j,aI⟩:=List.getElem?_of_mem hu;obtain⟨ax,az⟩:=mZ j u aI;obtain⟨v,aJ,aO⟩:=lf j ax;rw[az]at aJ;cases aJ;exact aO.one
  obtain⟨bq,bY,Vk,Gd,qQ,_⟩:=run_append_own (P:=P) dd er.heap.size gy GL.type e g z an (E.tb gy).bytes Be lX We tS yq iV anr _ _ xs nL ⟨Lv,0,none⟩ 1 av.cap _ (by simp) hv xy po ah tN;have iO:=aag Be lX We tS nL (by simp) hv xy po (by rw[yq];exact ah) Vk;have Ge:=dG.put (d:=s+8) (by omega) bq;refine uS (fuel:=2) (L 8 (by omega)) anp (aeV alv alw aly (aeY alx (by rw[dG.at_ f5,dG.at_ f7,hu];exact Vk)) ?_);generalize b.put (some (s+8)) bq=Lw at Ge⊢;have alz:Lw.eval (.tmp s)= .slice (some ⟨dm,0,none⟩) ls.length ls.length:=Ge.at_ (by simp(disch:=omega) only[apy,f0]);have alA:Lw.eval (.tmp (s+1))= .int .i64 k:=Ge.at_ (by simp(disch:=omega) only[apy,f1]);have sc:=Ge.put (d:=s+9) (by omega) (.pointer (some ⟨dm,k.toNat,none⟩));refine uS (fuel:=1) (L 9 (by omega)) anq (o0 h.Wc (fun o aF=>R9 aF (by rw[alz,alA];exact TV bY)) ?_);generalize Lw.put (some (s+9)) (.pointer (some ⟨dm,k.toNat,none⟩))=wj at sc⊢
  obtain⟨Lx,Ly,nY,Vd⟩:∃Lx Ly nY,bq= .slice Lx Ly nY:=by
   rcases Gd.2 with⟨az,_⟩|⟨_,_,_,az,_⟩<;>exact⟨_,_,_,az⟩
  have ng:∀x,(aH.getD k.toNat undef).ownBlock=some x->eX x/\x≠dm:=fun x aj=>aB.bs k.toNat x bL aj
  have aA:bY.heap[dm]? =some (.cells aH lq (0,0)):=by
   rw[qQ.block dm (apW k_ mz.size) fun az=>(ng dm az.symm).2 rfl];exact ow.at_
  have Vl:k.toNat<aH.size:=by rw[aB.size];exact bL
  have alB:wj.eval (.tmp (s+9))= .pointer (some ⟨dm,k.toNat,none⟩):=sc.at_ (apz rfl);have alC:wj.eval (.tmp (s+8))=bq:=sc.at_ (by simp(disch:=omega) only[apy,ap1])
  have cS:(Instr.storeAt gy (wj.eval (.tmp (s+9))) (wj.eval (.tmp (s+8)))).run P bY= .ok () (bY.setRow dm (aH.setIfInBounds k.toNat bq)):=by
   rw[alB,alC,Vd];exact abV (c3.ty gy) hC dm k.toNat aH lq aA Vl Lx Ly nY
  refine uS (fuel:=0) (L 10 (by omega)) alk (abU h.alf (fun o aF=>aeW aF cS) ⟨alm, ?_⟩);subst jB
  have Gf:∀x,x≠dm->(bY.setRow dm (aH.setIfInBounds k.toNat bq)).heap[x]? =bY.heap[x]? :=fun x aj=>setRow_other bY dm x _ aj
  have Fy:(bY.setRow dm (aH.setIfInBounds k.toNat bq)).heap.size=bY.heap.size:=by simp
  have ba:=setRow_heap bY dm aH (aH.setIfInBounds k.toNat bq) lq (0,0) aA;have sd:(bY.setRow dm (aH.setIfInBounds k.toNat bq)).os=bY.os/\(bY.setRow dm (aH.setIfInBounds k.toNat bq)).tape=bY.tape/\(bY.setRow dm (aH.setIfInBounds k.toNat bq)).output=bY.output:=⟨rfl,rfl,rfl⟩;generalize bY.setRow dm (aH.setIfInBounds k.toNat bq)=kc at Gf Fy ba sd⊢
  have J3:∀x,x<dd.heap.size->¬eX x->kc.heap[x]? =dd.heap[x]? :=fun x aj oE=>by
   rw[Gf x fun az=>oE (az▸aB.top)];exact qQ.block x aj fun az=>oE (ng x az.symm).1
  have hQ:∀x,x<dd.heap.size->(N x\/eX x\/bq.ownBlock=some x)->N x\/eX x:=fun x aj h=>by
   rcases h with h|h|h
   ·exact .inl h
   ·exact .inr h
   ·rcases iO with az|az
    ·rw[az]at h;exact .inr (ng x h).1
    ·rw[az]at h;cases h;omega
  have ahA:∀x,(N x\/eX x\/bq.ownBlock=some x)->x<kc.heap.size:=fun x h=>by
   rw[Fy];rcases h with h|h|h
   ·exact apW (aF.e3 x (.inl h)) (apS mz.size qQ.size)
   ·exact apW (aF.e3 x (.inr h)) (apS mz.size qQ.size)
   ·exact(Gd.lt x h).2
  obtain⟨oL,pP⟩:=Q4 s S.tm 10 (by omega)
  have af4:eA (fun b=>N b\/eX b) dF (tl s 10 S.tm) (S.I++[(false, .ar an [row])]) wj dd:=by
   refine⟨mz.rel,⟨sc.1.trans oL.symm,fun t=> ?_⟩,sc.2.1⟩;rw[pP]
   by_cases aw:s<=t/\t<s+10
   ·rw[apz aw];exact .c7 trivial
   ·rw[apy aw]
    have:wj.tmps.getD t undef=a.tmps.getD t undef:=by
     rw[sc.2.2 t];simp(disch:=omega) only[apy];exact Lu t (by omega)
    rw[this];exact mz.kd (eN.d_.at_ t)
  have fs:∀x u,bB (aK (fun b=>N b\/eX b) dF (S.I++[(false, .ar an [row])])) dd x u->bB (aK (fun b=>N b\/eX b\/bq.ownBlock=some b) dF (S.I++[(false, .ar an [row])])) kc x u:=fun x u ao=>
   ao.mono fun b ah bm=>⟨J3 b ah fun oE=>bm (.inl (.inr oE)),fun nd=>nd.elim (fun ad=>bm (.inl (hQ b ah ad))) fun aR=>bm (.inr aR)⟩
  have mu:=iW.Bz.trans mz.toFr
  have Vm:∀x,bq.ownBlock=some x->x≠dm:=fun x aj az=>by
   rcases iO with aJ|aJ
   ·rw[aJ]at aj;exact(ng x aj).2 az
   ·rw[aJ]at aj;cases aj;have:=mz.size;omega
  refine⟨.normal,⟨tl s 10 S.tm,S.I++[(false, .ar an [row])]⟩,_,fun x=>eX x\/bq.ownBlock=some x,dF,rfl,e5,
   ⟨af4.J1 (by rw[Fy];exact qQ.size) (fun x aj alD=>J3 x aj fun oE=>alD (.inr oE)) hQ ahA,
    ⟨sd.1.trans (qQ.os.trans mu.os),sd.2.1.trans (qQ.tape.trans mu.tape),sd.2.2.trans (qQ.output.trans mu.output),by rw[Fy];exact apS mu.size qQ.size,
     fun x aj alE=>by rw[J3 x (by omega) fun oE=>by have:=aB.low x oE;omega];exact mu.aq x aj alE,mu.alive⟩,
    ⟨aH.setIfInBounds k.toNat bq,lq, ?_⟩, ?_⟩,fun t aw=> ?_,sc.1.trans eN.d_.size.symm,fun y u h=>fs y u (mz.toFr.reads (af3 y u h))⟩
  ·have GM:∀i,i<ls.length->(aH.setIfInBounds k.toNat bq).getD i undef=if k.toNat=i then bq else aH.getD i undef:=fun i hi=>by
    rw[wm]
    by_cases az:k.toNat=i
    ·rw[apz ⟨az,Vl⟩,apz az]
    ·rw[apy fun x=>az x.1,apy az]
   have Gl:∀i,(ls.set k.toNat (ls.getD k.toNat []++[row])).getD i []=if k.toNat=i then ls.getD k.toNat []++[row]else ls.getD i []:=fun i=>by
    rw[eR]
    by_cases az:k.toNat=i
    ·rw[apz ⟨az,bL⟩,apz az]
    ·rw[apy fun x=>az x.1,apy az]
   refine⟨fun x aj=>aj.elim (aB.low x) fun h=>(Gd.lt x h).1, .inl aB.top,ba,by simp[aB.size],fun i hi=> ?_,fun i x hi aj=> ?_,fun i j x hi aI aj bo=> ?_⟩
   ·rw[apL]at hi;rw[GM i hi,Gl i]
    by_cases az:k.toNat=i
    ·rw[apz az,apz az];refine⟨_,by rw[ap4];exact NR Gd fun x aj=>Gf x (Vm x aj),fun r j ao aI=> ?_⟩;have xO:=nL.1;rw[ap4,aqX]at ao
     by_cases aJ:r<(ls.getD k.toNat []).length
     ·obtain⟨u,lh,z2⟩:=AM r j aJ aI;have ff:r*an+j<xs.length:=(aqp.1 lh).1;refine⟨u,by rw[aqr ff];exact lh, ?_⟩
      have:(ls.getD k.toNat []++[row]).getD r []=(ls.getD k.toNat []).getD r []:=by
       simp only[apA]at aJ⊢;rw[aqr aJ]
      rw[this];exact fs _ _ z2
     ·obtain rfl:r=(ls.getD k.toNat []).length:=by omega
      obtain⟨u,lh,z2⟩:=lf j aI;refine⟨u, ?_, ?_⟩
      ·rw[aqG (by omega),xO,Nat.add_sub_cancel_left];simp[aI,apH,lh]
      ·have:(ls.getD k.toNat []++[row]).getD (ls.getD k.toNat []).length []=row:=by simp[apA]
       rw[this];exact fs _ _ z2
    ·rw[apy az,apy az];refine(ow.inner i hi).aq (fun x aj=> ?_) fs;obtain⟨fX,gg⟩:=aB.bs i x hi aj;rw[Gf x gg];exact qQ.block x (apW (aF.e3 x (.inr fX)) mz.size) fun aJ=>az (aB.inj k.toNat i x bL hi aJ.symm aj)
   ·rw[apL]at hi;rw[GM i hi]at aj
    by_cases az:k.toNat=i
    ·rw[apz az]at aj;exact⟨.inr aj,Vm x aj⟩
    ·rw[apy az]at aj;exact⟨.inl (aB.bs i x hi aj).1,(aB.bs i x hi aj).2⟩
   ·rw[apL]at hi aI;rw[GM i hi]at aj;rw[GM j aI]at bo
    have new:∀i,i<ls.length->k.toNat≠i->bq.ownBlock=some x->(aH.getD i undef).ownBlock=some x->False:=fun i hi dn az aJ=>by
     obtain⟨fX,gg⟩:=aB.bs i x hi aJ;rcases iO with bX|bX
     ·rw[bX]at az;exact dn (aB.inj k.toNat i x bL hi az aJ)
     ·rw[bX]at az;cases az;have:=aF.e3 _ (.inr fX);have:=mz.size;omega
    by_cases az:k.toNat=i
    ·by_cases aJ:k.toNat=j
     ·omega
     ·rw[apz az]at aj;rw[apy aJ]at bo;exact(new j aI aJ aj bo).elim
    ·rw[apy az]at aj
     by_cases aJ:k.toNat=j
     ·rw[apz aJ]at bo;exact(new i hi az bo aj).elim
     ·rw[apy aJ]at bo;exact aB.inj i j x hi aI aj bo
  ·rw[apL]
   have:wj.tmps.getD dH undef=a.tmps.getD dH undef:=by
    rw[sc.2.2 dH];simp(disch:=omega) only[apy];exact Lu dH (by omega)
   rw[this];exact el
  ·have a_:∀{i d:Nat} {p:Op},j3 ops i (some d) p->¬(d=(t:Nat)):=fun{i d p} ⟨o,cl,cr,_⟩ az=>by
    have:=Co cl aw;exact this (by rw[cr,az])
   have z0:=a_ h.au;have lh:=a_ h.bD;have z2:=a_ h.bx;have z3:=a_ h.cH;have z4:=a_ h.jV;have z5:=a_ h.im;have apv:=a_ h.qW;have apw:=a_ h.GK;have ant:=a_ h.GL;have z9:=a_ h.Wc;rw[sc.2.2 t];simp only[apy z9,apy ant];exact Lu t (by omega)
 refine take_one (fuel:=10) h.au (L 0 (by omega)) As (cy 0 (by omega)).1 (cy 0 (by omega)).2 a6 (fun o w aF=>run_move aF) ?_;have dz:=pz.put (d:=s) (by omega) (a.eval (.tmp dH));generalize a.put (some s) (a.eval (.tmp dH))=a1 at dz⊢;refine take_one (fuel:=9) h.bD (L 1 (by omega)) As (cy 1 (by omega)).1 (cy 1 (by omega)).2 a6 (fun o w aF=>run_move aF) ?_;have yk:=dz.put (d:=s+1) (by omega) (a1.eval (.tmp kE));have cl:a1.eval (.tmp kE)= .int .i64 k:=dz.at_ (by simp(disch:=omega) only[apy,ap1,el,bZ]);rw[cl]at yk⊢;generalize a1.put (some (s+1)) (.int .i64 k)=a2 at yk⊢;refine take_one (fuel:=8) h.bx (L 2 (by omega)) As (cy 2 (by omega)).1 (cy 2 (by omega)).2 a6 (fun o w aF=>run_move aF) ?_;have Bp:=yk.put (d:=s+2) (by omega) (a2.eval (.tmp dH));have cr:a2.eval (.tmp dH)= .slice (some ⟨dm,0,none⟩) ls.length ls.length:=yk.at_ (by simp(disch:=omega) only[apy,ap1,el,bZ]);rw[cr]at Bp⊢;generalize a2.put (some (s+2)) (.slice (some ⟨dm,0,none⟩) ls.length ls.length)=a3 at Bp⊢;refine take_one (fuel:=7) h.cH (L 3 (by omega)) As (cy 3 (by omega)).1 (cy 3 (by omega)).2 a6 (fun o w aF=>run_move aF) ?_;have BJ:=Bp.put (d:=s+3) (by omega) (a3.eval (.tmp kE));have dj:a3.eval (.tmp kE)= .int .i64 k:=Bp.at_ (by simp(disch:=omega) only[apy,ap1,el,bZ]);rw[dj]at BJ⊢;generalize a3.put (some (s+3)) (.int .i64 k)=a4 at BJ⊢;have hD:a4.eval (.tmp (s+2))= .slice (some ⟨dm,0,none⟩) ls.length ls.length:=BJ.at_ (by simp(disch:=omega) only[apy,ap1,el,bZ]);have tY:a4.eval (.tmp (s+3))= .int .i64 k:=BJ.at_ (by simp(disch:=omega) only[apy,ap1,el,bZ]);refine take_one (fuel:=6) h.jV (L 4 (by omega)) As (cy 4 (by omega)).1 (cy 4 (by omega)).2 a6 (fun o w aF=>R9 aF (by rw[hD,tY];exact TV w)) ?_;have BK:=BJ.put (d:=s+4) (by omega) (.pointer (some ⟨dm,k.toNat,none⟩));generalize a4.put (some (s+4)) (.pointer (some ⟨dm,k.toNat,none⟩))=a5 at BK⊢
 have g4:∀{b:Act} {F:Nat->Value},pL b S.tm.length F->F (s+4)= .pointer (some ⟨dm,k.toNat,none⟩)->∀w':World,w'.heap[dm]? =w1.heap[dm]? ->∀o:Oper,o.op= .load gy (.tmp (s+4))->(execOp b.eval o).run P w'= .ok (.value (aH.getD k.toNat undef)) w':=
  fun ah ua w' hw o aF=>SS aF (by rw[ah.at_ ua];exact alo w' hw)
 have g6:∀{b:Act} {F:Nat->Value},pL b S.tm.length F->F fA=a.eval (.tmp fA)->∀o:Oper,o.op= .load q0 (.tmp fA)->(execOp b.eval o).run P w1= .ok (.value sl) w1:=
  fun ah ua o aF=>SS aF (by rw[ah.at_ ua];exact alp)
 have g7:∀{b:Act} {F:Nat->Value},pL b S.tm.length F->F (s+6)=sl->∀o:Oper,o.op= .buildSlice gy 1 #[(0, .tmp (s+6))]->(execOp b.eval o).run P w1= .ok (.value wi) dd:=
  fun ah ua o aF=>aeX aF (by rw[ah.at_ ua];exact K2)
 have alF:((je 5).setIfInBounds 5 true).setIfInBounds 6 true=je 7:=by decide
 have alG:((je 5).setIfInBounds 6 true).setIfInBounds 5 true=je 7:=by decide
 have ahB:(((je 5).setIfInBounds 6 true).setIfInBounds 7 true).setIfInBounds 5 true=je 8:=by decide
 have Gk:dH≠s/\fA≠s:=⟨by omega,by omega⟩;refine wpAny_all (fuel:=5) ano (by simp) fun i hi=> ?_;simp only[ap9,aqS,or_false]at hi;rcases hi with rfl|rfl
 ·refine o0 h.im (g4 BK (apz rfl) w1 rfl) ?_;have wk:=BK.put (d:=s+5) (by omega) (aH.getD k.toNat undef);refine uS (fuel:=4) alF alh (o0 h.qW (g6 wk (by simp(disch:=omega) only[apy])) ?_);have uf:=wk.put (d:=s+6) (by omega) sl;refine uS (fuel:=3) (L 7 (by omega)) Wd (o0 h.GK (g7 uf (apz rfl)) ?_);refine main _ _ (uf.put (d:=s+7) (by omega) wi) ?_ ?_ ?_ ?_ fun t aw=> ?_
  all_goals simp(disch:=omega) only[apy,ap1,el]
 ·refine o0 h.qW (g6 BK (by simp(disch:=omega) only[apy])) ?_;have wk:=BK.put (d:=s+6) (by omega) sl;refine wpAny_all (fuel:=4) ali (by simp) fun i hi=> ?_;simp only[ap9,aqS,or_false]at hi;rcases hi with rfl|rfl
  ·rw[alG];refine o0 h.im (g4 wk (by simp(disch:=omega) only[apy,ap1]) w1 rfl) ?_;have uf:=wk.put (d:=s+5) (by omega) (aH.getD k.toNat undef);refine uS (fuel:=3) (L 7 (by omega)) Wd (o0 h.GK (g7 uf (by simp(disch:=omega) only[apy,ap1])) ?_);refine main _ _ (uf.put (d:=s+7) (by omega) wi) ?_ ?_ ?_ ?_ fun t aw=> ?_
   all_goals simp(disch:=omega) only[apy,ap1,el]
  ·refine o0 h.GK (g7 wk (apz rfl)) ?_;have uf:=wk.put (d:=s+7) (by omega) wi;refine uS (fuel:=3) ahB alj (o0 h.im (g4 uf (by simp(disch:=omega) only[apy,ap1]) dd ew) ?_);refine main _ _ (uf.put (d:=s+5) (by omega) (aH.getD k.toNat undef)) ?_ ?_ ?_ ?_ fun t aw=> ?_
   all_goals simp(disch:=omega) only[apy,ap1,el]
end
section
variable {P:Program} {ops:Array Oper} {Q lZ:Exit->Act->World->Prop}
theorem abW {o:Oper}{a:Act}{next next':Act->World->Prop}(aB:∀a w,next a w->next' a w)(a6:∀e a w,e≠ .normal->¬Q e a w){r:Result Next}(h:o.upon P a next Q r):o.upon P a next' lZ r:=by
 unfold Oper.upon at h⊢;split at h
 ·exact aB _ _ h
 ·exact aB _ _ h
 ·exact aB _ _ h
 ·refine h.mono fun e w ao=> ?_
  cases e with
  |returned v=>exact aB _ _ ao
  |panicked c=>exact(a6 _ _ _ (by simp) ao).elim
  |outgrown=>obtain⟨x,y,b5⟩:=ao;exact(a6 _ _ _ (by simp) b5).elim
 ·exact h.mono fun v w ao=>aB _ _ ao
 ·exact(a6 _ _ _ (by simp) h).elim
 ·exact h.elim
theorem CA {l2:List Nat}(a6:∀e a w,Q e a w->e= .normal/\wpOps P ops lZ l2 a w):∀(l:List Nat) (a:Act) (w:World),wpOps P ops Q l a w->wpOps P ops lZ (l++l2) a w
 |[],a,w,h=>(a6 _ _ _ h).2
 |i::br,a,w,h=>by
  have pq:∀e a w,e≠ .normal->¬Q e a w:=fun e a w dn h=>dn (a6 e a w h).1
  simp only[aqW,wpOps]at h⊢;split
  ·rename_i aF;rw[aF]at h;exact CA a6 br a w h
  ·rename_i o aF;rw[aF]at h;simp only at h;split
   ·rename_i hw;rw[apz hw]at h;rcases h with h|⟨ab,x,y,ad⟩
    ·exact .inl (abW (fun a w=>CA a6 br a w) pq h)
    ·exact(pq _ _ _ (by simp) ad).elim
   ·rename_i hw;rw[apy hw]at h;exact CA a6 br _ w h
end
theorem iX.nested {P:Program}(E:bA)(c3:gn P E){id:Nat}{ops:Array Oper}{sm d4 dH:Nat}{lW kF:TypeId}{g:TypeInfo}(oh:ops.size=6)(jV:j3 ops 4 (some d4) (.makeSlice lW (.tmp sm) (.tmp sm)))(im:j3 ops 5 (some dH) (.assign (.tmp d4)))
 (hu:P.underlying lW=some (.slice kF)) (hi:P.info? kF=some g) (bm:g.zero=some (.slice none 0 0)) (bh:g.size=1) (dn:d4≠dH) {e:TypeId} {an:Nat} (ki:0<an) {L br:Code} {S:e9} {K:ht->e9->Prop}
 (h:dw E.tb E.bz [] ops.toList ([0,1,2,3].map fun i=>ops.toList.getD i default) S.tm S.I fun tm I=>∃n:Int,aN tm (.tmp sm)= .d (.int .i64 n)/\0<=n/\n<=1000000000/\g.bytes<=100/\d4<tm.length/\dH<tm.length/\
   hN P dH e an L ⟨cK (cK tm d4 .any) dH .any,I⟩ (List.replicate n.toNat []) fun ex S' cm=>match ex with
    | .normal=>∃dL,dH<dL.length/\leads S'.tm dL/\iX P br ⟨cK dL dH (.d (.ar 1 (cm.map fun l=>[.ar an l]))),[]⟩ K
    |_=>False):iX P (.seq (.region id ops false) (.seq L br)) S K:=fun N a w ρ ay=>by
 have eD:=Cp c3.ty c3.more c3.oy [] ops (fun i j o p d e id _ _ _ _ h=>by cases h) _ [0,1,2,3] (fun i hi=>by simp at hi;omega) (by decide) S.tm S.I a w ρ (fun i _ o d id _ _ h=>by cases h) h ay
 have ha:∀t,Code.eI (.seq (.region id ops false) (.seq L br)) t=false->pb ops t=false/\Code.eI L t=false/\Code.eI br t=false:=fun t aw=>by
  simp only[Code.eI,ar3]at aw;exact⟨aw.1,aw.2.1,aw.2.2⟩
 refine wp_seq (wp_region ?_);rw[oh];refine CA (l2:=[4,5]) (fun ex a1 w1 b5=>⟨b5.1, ?_⟩) [0,1,2,3] a w eD;obtain⟨_,⟨gv,cO,eo,⟨n,fg,hX,ym,nr,oP,Bw,hQ⟩,eN,rZ⟩,IL,EZ⟩:=b5;have anu:a1.eval (.tmp sm)= .int .i64 n:=jb (fg▸ey eN.d_ (.tmp sm))
 have Vn:=run_make (P:=P) w1 lW kF g _ hu hi bm .i64 .i64 n n hX (Int.le_refl _) (by
  have:(g.bytes:Int)*n<=100*n:=Int.mul_le_mul_of_nonneg_right (by omega) hX
  omega) (by omega)
 rw[bh,ap8]at Vn;have dG:=(show pL a1 gv.length fun t=>a1.eval (.tmp t)from⟨eN.d_.size,eN.hP,fun _=>rfl⟩).put oP (.slice (some ⟨w1.heap.size,0,none⟩) n.toNat n.toNat);have cW:=dG.at_ (t:=d4) (apz rfl);rw[wpOps_cons];refine o0 jV (fun o aF=> ?_) (v:= .slice (some ⟨w1.heap.size,0,none⟩) n.toNat n.toNat) (w':=w1.alloc (.cells (madeCells (Value.slice none 0 0).cells n.toNat) kF)) ?_
 ·unfold execOp;rw[aF];simp[anu,Vn]
 have pA:=dG.put Bw (.slice (some ⟨w1.heap.size,0,none⟩) n.toNat n.toNat);rw[wpOps_cons];refine o0 im (fun o aF=> ?_) (v:= .slice (some ⟨w1.heap.size,0,none⟩) n.toNat n.toNat) (w':=w1.alloc (.cells (madeCells (Value.slice none 0 0).cells n.toNat) kF)) ?_
 ·unfold execOp;rw[aF];show Result.ok (Next.value (Act.eval _ (.tmp d4))) _=_;rw[cW]
 show wpOps P ops _ [] _ _;generalize k3:(a1.put (some d4) (.slice (some ⟨w1.heap.size,0,none⟩) n.toNat n.toNat)).put (some dH) (.slice (some ⟨w1.heap.size,0,none⟩) n.toNat n.toNat)=a2 at pA⊢;show Code.wp P (L.seq br) _ a2 _
 have iA:∀x,x<w1.heap.size->(w1.alloc (.cells (madeCells (Value.slice none 0 0).cells n.toNat) kF)).heap[x]? =w1.heap[x]? :=fun x aj=>(World.grownBy_alloc w1 _ none).block x aj (by simp)
 have rK:(w1.alloc (.cells (madeCells (Value.slice none 0 0).cells n.toNat) kF)).heap[w1.heap.size]? =some (.cells (madeCells (Value.slice none 0 0).cells n.toNat) kF (0,0)):=heap_alloc_new w1 _;have ahC:(w1.alloc (.cells (madeCells (Value.slice none 0 0).cells n.toNat) kF)).heap.size=w1.heap.size+1:=by simp
 have sd:(w1.alloc (.cells (madeCells (Value.slice none 0 0).cells n.toNat) kF)).os=w1.os/\(w1.alloc (.cells (madeCells (Value.slice none 0 0).cells n.toNat) kF)).tape=w1.tape/\(w1.alloc (.cells (madeCells (Value.slice none 0 0).cells n.toNat) kF)).output=w1.output:=⟨rfl,rfl,rfl⟩;generalize w1.alloc (.cells (madeCells (Value.slice none 0 0).cells n.toNat) kF)=dd at iA rK ahC sd⊢;have vL:(madeCells (Value.slice none 0 0).cells n.toNat).size=n.toNat:=size_madeCells _ _
 have K3:∀i,i<n.toNat->(madeCells (Value.slice none 0 0).cells n.toNat).getD i undef= .slice none 0 0:=fun i hi=>by
  have az:=HU (Value.slice none 0 0).cells n.toNat i hi;rw[apH,az];simp[Value.cells,Nat.mod_one]
 have xQ:=eN.eG
 have alH:tk N (fun x=>x=w1.heap.size) ρ S.I w dH w1.heap.size e an (List.replicate n.toNat []) eo ⟨cK (cK gv d4 .any) dH .any,cO⟩ a2 dd:=by
  have cy:Fr eo cO w1 eo cO dd:=⟨sd.1,sd.2.1,sd.2.2,by omega,fun x aj _=>iA x aj,fun x aj=> .inl aj⟩
  have s1:eA N eo (cK (cK gv d4 .any) dH .any) cO a2 w1:=⟨xQ,⟨by rw[pA.1,eE,eE];simp,fun t=>by
   rw[eE,eE,eR,eR];split
   ·exact .c7 trivial
   split
   ·exact .c7 trivial
   rename_i q1 cG;rw[pA.2.2 t];simp only[apy fun x=>q1 ⟨x,by simpa using Bw⟩,apy fun x=>cG ⟨x,oP⟩]
   exact eN.d_.at_ t⟩,pA.2.1⟩
  refine⟨s1.J1 (by omega) (fun x aj _=>iA x aj) (fun x aj h=>h.elim (fun h=>h) fun az=>by omega) (fun x h=>h.elim (fun h=>by have:=xQ.e3 x h;omega) fun az=>by omega),rZ.trans cy,
   ⟨_,kF,fun x aj=>by rw[aj];exact rZ.size,rfl,rK,by rw[vL];simp,fun i hi=> ?_,fun i x hi aj=> ?_,fun i j x hi aI aj=> ?_⟩, ?_⟩
  ·rw[arq]at hi;rw[K3 i hi];have:(List.replicate n.toNat ([]:List (List U))).getD i []=[]:=by simp[apA,hi]
   rw[this];exact⟨[],World.ownsRow_nil _ _ _ _,fun r j ao=>by simp at ao⟩
  ·rw[arq]at hi;rw[K3 i hi]at aj;cases aj
  ·rw[arq]at hi;rw[K3 i hi]at aj;cases aj
  ·rw[arq,pA.2.2 dH];exact apz rfl
 have j9:∀t,pb ops t=false->a2.tmps.getD t undef=a.tmps.getD t undef:=fun t aw=>by
  obtain⟨o,cl,cr,_⟩:=jV;obtain⟨cj,oL,pP,_⟩:=im;have q1:=Co cl aw;have cG:=Co oL aw;rw[pA.2.2 t];simp only[apy (show ¬dH=t from fun x=>cG (x▸pP)),apy (show ¬d4=t from fun x=>q1 (x▸cr))];exact IL t aw
 refine wp_seq (wp_mono (hQ N _ ρ S.I w w1.heap.size eo a2 dd alH) fun ex a3 bY b5=> ?_);obtain⟨cg,S',iC,hW,ρ',rfl,aY,bj,bG,di,_⟩:=b5
 cases cg with
 |normal=>
  obtain⟨dL,fX,gg,h6⟩:=aY;obtain⟨g1,g2⟩:=bj.qA.leads gg;have ao:=bj.step (S':=⟨dL,[]⟩) g1 g2 rfl;obtain⟨aH,lq,aB⟩:=ao.nest
  have ahD:∀x,N x->x<w.heap.size:=ay.eG.e3
  have g3:=ao.qA.J1 (N2:=N) (w':=bY) (apF _) (fun _ _ _=>rfl) (fun x _ h=> .inl h) fun x h=>ao.qA.eG.e3 x (.inl h)
  have fs:=aB.reads (Z':=aK N [] []) ki (fun x aj bm=>bm.elim (fun h=>by have:=aB.low x aj;have:=ahD x h;omega) fun⟨i,av,az,_⟩=>by simp at az)
   fun x u aj=>aj.mono fun b _ ah=>⟨rfl,fun bm=>ah (bm.elim (fun h=> .inl (.inl h)) fun⟨i,av,az,_⟩=>by simp at az)⟩
  have g4:eA N [] (cK dL dH (.d (.ar 1 (iC.map fun l=>[.ar an l])))) [] a3 bY:=⟨g3.eG,⟨by rw[eE,apL];exact g3.d_.size,fun t=>by
   rw[eE,eR];split
   ·rename_i q;rw[<-q.1,ao.slot];exact .c7 fs
   ·exact g3.d_.at_ t⟩,g3.hP⟩
  refine wp_mono (h6 N a3 bY [] g4) fun ex a4 kc b5=> ?_;obtain⟨K0,rfl,aE⟩:=b5;exact⟨K0,rfl,aE.weaken ao.Bz (fun t aw=>⟨(ha t aw).2.2,(bG t (ha t aw).2.1).trans (j9 t (ha t aw).1)⟩) (di.trans (pA.1.trans (eN.d_.size.symm.trans EZ))) fun _ _ h=>h⟩
 |exit i=>exact aY.elim
 |goto i=>exact aY.elim
 |ret=>exact aY.elim
end Go.ak
end
section
namespace Go.ak
structure qq where
 Vo:Nat
 s:Nat
 dH:Nat
 kE:Nat
 fA:Nat
 sm:Nat
 d4:Nat
 lW:TypeId
 gy:TypeId
 q0:TypeId
 an:Nat
abbrev sn:=List (List (List U))
def Ek:List R->List R
 |[]=>[]
 |v::r=>(match v.plain with|true=>v|false=> .any)::Ek r
def SU (E:bA)(X:qq)(S:e9)(ls:sn)(K:ht->e9->sn->Prop):Prop:=
 match aN S.tm (.tmp X.kE),h2 (E.tb X.q0).ty (aN S.tm (.tmp X.fA)) S.I,Nat.ble (Nat.add X.s 10) (bS S.tm)with
 | .d (.int .i64 k), .a8 yu v6 _,true=>
  (match hH S.I X.an (E.tb X.gy).fv 1 [(0,v6)]with
  |some [row]=>gI yu (0<=k/\k<(ls.length:Int)/\(((ls.getD k.toNat []).length:Int)+1)*(E.tb X.gy).bytes<=70368744177664/\K .normal ⟨tl X.s 10 S.tm,ez S.I [(false, .ar X.an [row])]⟩ (ls.set k.toNat (ls.getD k.toNat []++[row])))
  |_=>False)
 |_,_,_=>False
def pM (E:bA)(X:qq):Code->Nat->e9->sn->(ht->e9->sn->Prop)->Prop
 | .seq a b,bs,S,ls,K=>
  match Sj E.SX (Ik a)with
  |none=>pM E X a bs S ls fun e S' l=>match e with| .normal=>pM E X b bs S' l K|e=>K e S' l
  |some _=>False
 | .block id c,_,S,ls,K=>pM E X c id S ls fun e S' l=>match e with| .exit i=>(match Nat.beq i id with|true=>K .normal S' l|false=>K (.exit i) S' l)|e=>K e S' l
 | .loop c,bs,S,ls,K=>
  let h:=E.loops bs
  let fc:=iI h.conv S
  ∃aQ:ie h.ps (sn->Prop),∃m:ie h.ps (sn->Nat),p6 (fun _=>false) h fc fc (fun y=>ie.app h.ps aQ y ls)/\
   zI h.ps fun x=>∀l:sn,ie.app h.ps aQ x l->pM E X c bs (lD h fc x) l fun e S' cm=>
    match e with
    | .normal=>p6 (Code.eI c) h fc (mS h.conv S') fun y=>ie.app h.ps aQ y cm/\ie.app h.ps m y cm<ie.app h.ps m x l
    |e=>K e S' cm
 | .region id ops draw,bs,S,ls,K=>
  (match Nat.beq id X.Vo with
  |true=>SU E X S ls K
  |false=>(match Code.eI (.region id ops draw) X.dH with|false=>gT E (.region id ops draw) bs S fun e S'=>K e S' ls|true=>False))
 | .cond c a b,bs,S,ls,K=>(match Code.eI (.cond c a b) X.dH with|false=>gT E (.cond c a b) bs S fun e S'=>K e S' ls|true=>False)
 |_,_,_,_,_=>False
def uX (X:qq):Code->Prop
 | .seq a b=>uX X a/\uX X b
 | .block _ c=>uX X c
 | .loop c=>uX X c
 | .region id ops draw=>(match Nat.beq id X.Vo with|true=>draw=true/\R8 ops X.s X.dH X.kE X.fA X.lW X.gy X.q0|false=>True)
 |_=>True
structure IZ (P:Program)(E:bA)(X:qq)(e:TypeId):Prop where
 K1:(E.tb X.lW).ty= .aG (.dK 1)
 hC:(E.tb X.gy).ty= .aG (.dK X.an)
 Be:P.underlying X.gy=some (.slice e)
 a_:X.dH<X.s/\X.kE<X.s/\X.fA<X.s
 cx:X.an<=65536
 nH:Nat.blt 0 (E.tb X.gy).bytes=true
theorem abX {P:Program}(E:bA)(c3:gn P E)(X:qq){e:TypeId}(hg:IZ P E X e)(c:Code):uX X c->∀(bs:Nat) (S:e9) (ls:sn) (K:ht->e9->sn->Prop),pM E X c bs S ls K->hN P X.dH e X.an c S ls K:=by
 induction c with
 |seq a b alI alJ=>
  intro aB bs S ls K h;unfold pM at h;split at h
  ·refine hN.seq (hN.mono (alI aB.1 bs S ls _ h) fun ex S' l h=> ?_)
   cases ex with
   |normal=>exact alJ aB.2 bs S' l K h
   |_=>exact h
  ·exact h.elim
 |block id c bI=>
  intro aB bs S ls K h;unfold pM at h;refine hN.block (hN.mono (bI aB id S ls _ h) fun ex S' l h=> ?_)
  cases ex with
  |exit i=>
   simp only at h⊢
   by_cases e:i=id
   ·subst e;rw[apz rfl];simpa using h
   ·have:Nat.beq i id=false:=by cases ah:Nat.beq i id with|false=>rfl|true=>exact absurd (apC ah) e
    rw[apy e];simpa[this]using h
  |_=>exact h
 |loop c bI=>
  intro aB bs S ls K h;unfold pM at h;obtain⟨aQ,m,bc,ab⟩:=h;refine hN.loop E (bs:=bs) (ie.app _ aQ) (ie.app _ m) bc fun x l fl=>bI aB bs _ l _ ?_;exact Cr _ _ ab x l fl
 |region id ops draw=>
  intro aB bs S ls K h;unfold pM at h;unfold uX at aB;split at h
  ·rename_i dM;rw[dM]at aB;obtain⟨rfl,aB⟩:=aB;unfold SU at h;split at h
   ·rename_i k yu v6 al ab ad aA;split at h
    ·rename_i row ba;rw[hk]at h;obtain⟨g0,g1,g2,g3,g4⟩:=h;have hlen:X.s+10<=S.tm.length:=by have:=apZ aA;rwa [cI]at this
     have fa:al=S.I:=by
      rcases Hb (E.tb X.q0).ty (aN S.tm (.tmp X.fA)) S.I with q|⟨s,v,q⟩<;>rw[q]at ad<;>cases ad
      rfl
     rw[fa]at ad;rw[fC]at g4
     have ah:((ls.getD k.toNat []).length+1)*(E.tb X.gy).bytes<=140737488355328:=by
      have:(((ls.getD k.toNat []).length+1:Nat)*(E.tb X.gy).bytes:Int)<=70368744177664:=by simpa using g3
      have:(((ls.getD k.toNat []).length+1)*(E.tb X.gy).bytes:Nat)<=(70368744177664:Int):=by simpa using this
      omega
     exact hN.append E c3 aB hg.K1 hg.hC hg.Be hlen hg.a_ ab g1 g2 ad g0 ba hg.cx (apZ hg.nH) ah g4
    ·exact h.elim
   ·exact h.elim
  ·split at h
   ·rename_i aR;exact hN.of (iX.of E c3 h) aR
   ·exact h.elim
 |cond c a b=>
  intro aB bs S ls K h;unfold pM at h;split at h
  ·rename_i aR;exact hN.of (iX.of E c3 h) aR
  ·exact h.elim
 |_=>intro _ _ _ _ _ h;exact h.elim
theorem NS:∀l:List R,leads l (Ek l)
 |[]=>trivial
 |v::r=>⟨by
  show(match v.plain with|true=>v|false=> .any)= .any\/_;split
  ·rename_i h;exact .inr ⟨by simp[h],by simp[h]⟩
  ·exact .inl rfl,NS r⟩
theorem O3:∀l:List R,(Ek l).length=l.length
 |[]=>rfl
 |v::r=>aqd (·+1) (O3 r)
def zZ (E:bA)(X:qq)(ntmps:Nat)(rvs:List ResultVar)(c:Code)(args:List R)(K:R->aD->Prop):Prop:=
 match c with
 | .seq Bx (.seq (.region _ ops false) (.seq L br))=>gT E Bx 1000000 ⟨pad ntmps args,[]⟩ fun ex S=>
  match ex with
  | .normal=>dw E.tb E.bz [] ops.toList (bE (fun i=>b6 default ops.toList i) [0,1,2,3]) S.tm S.I fun tm I=>
   (match aN tm (.tmp X.sm),Nat.blt X.d4 (bS tm),Nat.blt X.dH (bS tm)with
   | .d (.int .i64 n),true,true=>0<=n/\n<=1000000000/\pM E X L 1000000 ⟨cK (cK tm X.d4 .any) X.dH .any,I⟩ (List.replicate n.toNat []) fun ex S' l=>
    (match ex,Nat.blt X.dH (bS S'.tm)with
    | .normal,true=>gT E br 1000000 ⟨cK (Ek S'.tm) X.dH (.d (.ar 1 (l.map fun l=>[.ar X.an l]))),[]⟩ (E6 E rvs K)
    |_,_=>False)
   |_,_,_=>False)
  |_=>False
 |_=>False
def Jc (P:Program)(X:qq):Code->Prop
 | .seq _ (.seq (.region _ ops false) (.seq L _))=>ops.size=6/\j3 ops 4 (some X.d4) (.makeSlice X.lW (.tmp X.sm) (.tmp X.sm))/\j3 ops 5 (some X.dH) (.assign (.tmp X.d4))/\uX X L/\X.d4≠X.dH/\
  ∃kF g,P.underlying X.lW=some (.slice kF)/\P.info? kF=some g/\g.zero=some (.slice none 0 0)/\g.size=1/\g.bytes<=100
 |_=>True
theorem Y3 {P:Program}(E:bA)(c3:gn P E)(X:qq){e:TypeId}(hg:IZ P E X e)(ki:0<X.an){ntmps:Nat}{rvs:List ResultVar}{c:Code}(aC:Jc P X c){args:List R}{K:R->aD->Prop}(h:zZ E X ntmps rvs c args K):
 iX P c ⟨pad ntmps args,[]⟩ (E6 E rvs K):=by
 unfold zZ at h;split at h
 ·rename_i Bx id ops L br;obtain⟨dh,eW,jR,pQ,pR,kF,g,tX,BC,nY,ug,alK⟩:=aC;refine iX.seq (iX.mono (iX.of E c3 h) fun ex S h=> ?_)
  cases ex with
  |normal=>
   have ax:bE (fun i=>b6 default ops.toList i) [0,1,2,3]=[0,1,2,3].map fun i=>ops.toList.getD i default:=by rw[dP];simp only[dW]
   simp only[ax]at h;refine iX.nested E c3 dh eW jR tX BC nY ug pR (e:=e) ki (wz c3.ok (fun tm I b5=> ?_) _ _ _ h);split at b5
   ·rename_i n ab ad aA;obtain⟨g0,g1,g2⟩:=b5;have l2:X.d4<tm.length:=by have:=apZ ad;rw[cI]at this;exact this
    have l5:X.dH<tm.length:=by have:=apZ aA;rw[cI]at this;exact this
    refine⟨n,ab,g0,g1,alK,l2,l5,hN.mono (abX E c3 X hg L pQ _ _ _ _ g2) fun ex S' l b5=> ?_⟩;split at b5
    ·rename_i ba;have anv:X.dH<S'.tm.length:=by have:=apZ ba;rw[cI]at this;exact this
     exact⟨_,by rw[O3];exact anv,NS _,iX.of E c3 b5⟩
    ·exact b5.elim
   ·exact b5.elim
  |_=>exact h.elim
 ·exact h.elim
theorem afA {E:bA}{X:qq}{n:Nat}{rvs:List ResultVar}{c:Code}{args:List R}{K:R->aD->Prop}{Q:Prop}(h:zZ E X n rvs c args K=Q)(q:Q):ns (zZ E X n rvs c args K):=⟨h▸q⟩
theorem alL {P:Program}{f:Nat}{ps:List aZ}(E:bA)(c3:gn P E)(X:qq)(fn:Func)(rvs:List ResultVar)(ts:List aZ){e:TypeId}{T:List R->(R->Prop)->Prop}(o:k7 T)(hg:IZ P E X e)(aC:Jc P X (fn.body.getD .skip))
 (fL:∀args K,T args K->ns (zZ E X fn.ntmps rvs (fn.body.getD .skip) args (mj ts K))) (ki:0<X.an:=by decide)
 (aU:P.funcs[f]? =some fn:=by kernel_rfl) (ah:fn.body=some (fn.body.getD .skip):=by kernel_rfl) (aB:(fn.name== "runtime.NumGoroutine")=false:=by kernel_rfl) (ao:fn.results=rvs.toArray:=by kernel_rfl) (gU:ts.length=rvs.length:=by kernel_rfl):cF P f ps T:=
 ⟨YP E c3 aU ah aB ao gU (fun args K h=>Y3 E c3 X hg ki aC (fL args K h).h),o⟩
end Go.ak
end
section
namespace Go.ak
open Go.RowKit Go.ChangeShapes Go.Deep
mutual
inductive GN:Type where
 |int (k:IntKind)
 |bool
 |str
 |af (k:IntKind)
 |ar (l:nm)
inductive nm:Type where
 |nil
 |cons (s:GN) (r:nm)
end
def nm.app:nm->nm->nm
 | .nil,b=>b
 | .cons s r,b=> .cons s (nm.app r b)
def nm.len:nm->Nat
 | .nil=>0
 | .cons _ r=>Nat.succ (nm.len r)
mutual
def GN.fits:GN->U->Prop
 | .int k, .int cD x=>k=cD/\k.min<=x/\x<=k.max
 | .bool, .bool _=>True
 | .str, .str l=>l.length<=maxLen/\∀x∈l,0<=x/\x<256
 | .af k, .af cD l=>k=cD/\l.length<=maxLen/\∀x∈l,k.min<=x/\x<=k.max
 | .ar dN, .ar an l=>an=dN.len/\l.length<=maxLen/\∀r∈l,nm.fits dN r
 |_,_=>False
def nm.fits:nm->List U->Prop
 | .nil,[]=>True
 | .cons s dN,v::aH=>GN.fits s v/\nm.fits dN aH
 |_,_=>False
end
def yc (w:World)(K4:List U)(cs:List Value):Prop:=K4.length=cs.length/\∀i,i<K4.length->bB tM w (K4.getD i .undef) (cs.getD i undef)
theorem yc.one {w:World}{x:U}{v:Value}(h:bB tM w x v):yc w [x] [v]:=⟨rfl,fun i hi=>by
 cases i with
 |zero=>exact h
 |succ i=>simp at hi⟩
theorem yc.app {w:World}{a b:List U}{c d:List Value}(h:yc w a c)(k:yc w b d):yc w (a++b) (c++d):=by
 refine⟨by rw[ap4,ap4,h.1,k.1],fun i hi=> ?_⟩;rw[ap4]at hi;simp only[apA]
 by_cases ax:i<a.length
 ·rw[aqr ax,aqr (by rw[<-h.1];exact ax)];have:=h.2 i ax;simpa only[apA]using this
 ·rw[aqG (by omega),aqG (by rw[<-h.1];omega),<-h.1];have:=k.2 (i-a.length) (by omega);simpa only[apA]using this
section
variable {H:Type} {enc:TypeId×Value->H} {P:Program} {w:World} {base:Nat} {spare:Nat->Bool} {held:Bool}
end
end Go.ak
end
