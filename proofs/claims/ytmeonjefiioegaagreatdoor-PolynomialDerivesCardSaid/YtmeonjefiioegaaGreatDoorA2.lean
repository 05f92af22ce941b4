/- Helpers for the statements: conditions under which code does what is wanted, and proofs that they suffice. Condition: none. -/
import Derived.Test.YtmeonjefiioegaaGreatDoorA1
import Derived.Below
import Derived.ChangeSlices
import Derived.Shelf.Strings.Builder1
import Derived.Deep.AppendSrc
import Derived.Deep.Slices
import Derived.ChangeArms
import Derived.OpenShut
section
namespace Go.bG
section
variable {P:Program}
theorem Nn {f:FuncId}{fn:Func}{c:Code}(aQ:P.funcs[f]? =some fn)(ae:fn.body=some c)(ar:(fn.name== "runtime.NumGoroutine")=false){rvs:List ResultVar}
 {ps ts:List aO} (gW:ts.length=rvs.length) {T:List J->(J->Prop)->Prop}
 (gj:∀args K,T args K->∀(N:Nat->Prop) (w:World) (vals:Array Value),b4 N [] [] w->args.length=vals.size->(∀i,i<args.length->bz (aI N [] []) w [] [] (args.getD i .un) (vals.getD i undef))->
   Calls P f vals w fun e w'=>∃(mx:Nat->Prop) (rs:List J) (own':aB) (ρ':List Loc) (aG:List Value),e= .returned (if rvs.length=1 then aG.getD 0 undef else .tuple aG.toArray)/\rs.length=rvs.length/\aG.length=rvs.length/\
    ti ts K (one rs) own'/\(∀b,N b->mx b)/\b4 mx ρ' own' w'/\Fr [] [] w ρ' own' w'/\∀i,bz (aI mx ρ' own') w' ρ' own' (rs.getD i .un) (aG.getD i undef)):e6 P f (gh ps T):=by
 refine⟨⟨fn,aQ,by rw[ae];rfl,ar⟩, ?_⟩
 intro N ρ own w args vals K h aH aq aC
 unfold gh at h
 split at h
 rotate_left
 ·exact h.elim
 rename_i U aa
 have hlen:ps.length=args.length:=by have:=ast U;rwa [cf,cf]at this
 obtain⟨s1,s2,m7,lR⟩:=nX args own aH
 have xZ:=pZ own ps args hlen
 have hs:b4 (aI N ρ (b7 own args)) [] [] w:=
  {len:=rfl
   fE:=fun b ae=>by
    rcases ae with ae|⟨i,loc,an,az,_⟩
    ·exact aH.fE b ae
    ·exact aH.lt i loc b an az
   lt:=fun i loc b e=>by simp at e
   inj:=fun i j li b9 b e=>by simp at e
   fr:=fun i loc b e=>by simp at e
   ob:=fun i loc e=>by simp at e}
 have fA:∀i,i<(aO.dF own ps args).length->bz (aI (aI N ρ (b7 own args)) [] []) w [] [] ((aO.dF own ps args).getD i .un) (vals.getD i undef):=fun i hi=>by
  obtain⟨t,e⟩:=p0 own ps args hlen i (by omega)
  have aw:=ns aa .un i hi
  rw[e]at aw⊢
  have bo:=oO s1.rel s2 t aw (s1.km (aC i (by omega))) fun id aM=>lR i id (by omega) aM
  refine .gB (oN aw bo fun x u af=>af.mono fun b _ bc=>⟨rfl,fun cS=> ?_⟩)
  rcases cS with cS|⟨j,loc,an,_⟩
  ·exact bc cS
  ·simp at an
 refine(gj _ _ h _ w vals hs (by omega) fA).mono ?_
 rintro e w' ⟨mx,rs,own',ρ',aG,rfl,cj,db,ab,j5,bx,cr,hY⟩
 obtain⟨q1,cb,cu,fM⟩:=nX rs own' bx
 have hold:Step N ρ (b7 own args) w ρ (b7 own args) w':=Step.more s1.rel cr.os cr.tape cr.output cr.size fun b ae=>cr.e1 b ae fun⟨i,loc,an,_⟩=>by simp at an
 have rR:∀x u,Reads (aI mx ρ' (b7 own' rs)) w' x u->Reads (aI N ρ (b7 own args)) w' x u:=fun x u af=>
  af.mono fun b _ bc=>⟨rfl,fun cS=>bc (.inl (j5 b cS))⟩
 unfold ti at ab
 split at ab
 rotate_left
 ·exact ab.elim
 rename_i hX
 refine⟨_,_,ρ,_,rfl,ab,s1.trans hold, ?_⟩
 have Rs:∀j id,j<rs.length->tq id (rs.getD j .un)->frozenAt (b7 own' rs) id=true:=fM
 by_cases U:rvs.length=1
 ·rw[asq U]
  match rs,aG,ts,(by omega:rs.length=1),(by omega:aG.length=1),(by omega:ts.length=1)with
  |[x],[u],[t],_,_,_=>
   have e:ln own' [t] (one [x])=t.norm own' x:=rfl
   rw[e]at hX⊢
   have aw:(t.norm own' x).plain=true:=hX
   exact .gB (oN aw (oO q1.rel cb t aw (q1.km (hY 0)) fun id aM=>Rs 0 id (by simp) aM) rR)
 ·rw[asp U]
  have an:one rs= .tup rs:=by
   match rs,cj with
   |[],_=>rfl
   |[x],cj=>exact absurd cj.symm U
   |_::_::_,_=>rfl
  have az:∀l,ln own' ts (.tup l)= .tup (aO.dF own' ts l):=fun l=>by
   match ts,gW with
   |[],_=>rfl
   |[x],gW=>exact absurd gW.symm U
   |_::_::_,_=>rfl
  have bK:∀l,rp ts (.tup l)=dq J.plain l:=fun l=>by
   match ts,gW with
   |[],_=>rfl
   |[x],gW=>exact absurd gW.symm U
   |_::_::_,_=>rfl
  rw[an,az]at hX⊢
  rw[bK]at hX
  have hJ:=pZ own' ts rs (by omega)
  refine⟨aG.toArray,rfl,by rw[hJ];simp;omega,fun i hi=> ?_⟩
  obtain⟨t,e⟩:=p0 own' ts rs (by omega) i (by omega)
  have aw:=ns hX .un i hi
  rw[e]at aw⊢
  have:=oN (ρ':=ρ) (own':=b7 own args) aw (oO q1.rel cb t aw (q1.km (hY i)) fun id aM=>Rs i id (by omega) aM) rR
  have cm:aG.toArray.getD i undef=aG.getD i undef:=by simp[asA,ass]
  rw[cm];exact this
theorem U3 (E:Env)(dj:hT P E)
 {f:FuncId} {fn:Func} {c:Code} (aQ:P.funcs[f]? =some fn) (ae:fn.body=some c) (ar:(fn.name== "runtime.NumGoroutine")=false) {rvs:List ResultVar} (ak:fn.results=rvs.toArray)
 {ps ts:List aO} (gW:ts.length=rvs.length) {T:List J->(J->Prop)->Prop} (gj:∀args K,T args K->l0 E fn.ntmps rvs c args [] (ti ts K)):e6 P f (gh ps T):=
 Nn aQ ae ar gW fun args K h N w vals aH aq aC=>(wT E dj aQ ae ak (gj args K h) aH aq aC).mono (by
  rintro e w' ⟨rs,own',ρ',aG,U,cj,db,ab,bx,cr,hY⟩
  exact⟨N,rs,own',ρ',aG,U,cj,db,ab,fun _ h=>h,bx,cr,hY⟩)
end
end Go.bG
end
section
namespace Go.bG
theorem TQ {a:J}{ob:ad}(h:CA a ob=true):ob.plain=true:=by
 cases a<;>cases ob<;>first|rfl|exact h|cases h
theorem U1 {ps:List aO}{T:J->ad->List J->(ad->J->Prop)->Prop}(h:jB T):fw (lg ps T):=by
 refine⟨fun args own K K' ab bj=> ?_,fun args own K bj=> ?_⟩
 ·unfold lg at bj⊢
  split
  ·exact bj
  ·rename_i a0 rest
   simp only at bj
   split
   ·rename_i he;rw[he]at bj;exact bj
   ·rename_i id he
    rw[he]at bj
    simp only at bj
    split
    ·rename_i U aa al aL
     rw[U,aa,al,aL]at bj
     simp only at bj
     rw[wM]at bj⊢
     refine⟨bj.1,h.1 _ _ _ _ _ (fun o r aH=> ?_) bj.2⟩
     split
     ·rename_i aC;rw[aC]at aH;exact ab _ _ aH
     ·rename_i aC;rw[aC]at aH;exact aH
    ·rename_i af
     split at bj
     ·rename_i U aa al aL;exact(af U aa al aL).elim
     ·exact bj
 ·unfold lg at bj
  split at bj
  ·exact bj.elim
  ·split at bj
   ·exact bj.elim
   ·split at bj
    ·rw[wM]at bj
     obtain⟨o,r,ak⟩:=h.2 _ _ _ _ bj.2
     split at ak
     ·exact⟨_,_,ak⟩
     ·exact ak.elim
    ·exact bj.elim
theorem Uk {ps:List aO}{T:J->ad->List J->(ad->J->Prop)->Prop}(h:jB T):fw (n1 ps T):=by
 refine⟨fun args own K K' ab bj=> ?_,fun args own K bj=> ?_⟩
 ·unfold n1 at bj⊢
  split
  ·exact bj
  ·rename_i a0 rest
   simp only at bj
   split
   ·rename_i he;rw[he]at bj;exact bj
   ·rename_i id he
    rw[he]at bj
    simp only at bj
    split
    ·rename_i U aa al aL
     rw[U,aa,al,aL]at bj
     simp only at bj
     refine h.1 _ _ _ _ _ (fun o r aH=> ?_) bj
     split
     ·rename_i aC;rw[aC]at aH;exact ab _ _ aH
     ·rename_i aC;rw[aC]at aH;exact aH
    ·rename_i af
     split at bj
     ·rename_i U aa al aL;exact(af U aa al aL).elim
     ·exact bj
 ·unfold n1 at bj
  split at bj
  ·exact bj.elim
  ·split at bj
   ·exact bj.elim
   ·split at bj
    ·obtain⟨o,r,ak⟩:=h.2 _ _ _ _ bj
     split at ak
     ·exact⟨_,_,ak⟩
     ·exact ak.elim
    ·exact bj.elim
theorem TO {n:Nat}{ps:List aO}{T:J->ad->List J->(ad->J->Prop)->Prop}(h:jB T):fw (kb n ps T):=by
 have aE:=Uk (ps:=ps) h
 refine⟨fun args own K K' ab bj=> ?_,fun args own K bj=> ?_⟩
 ·unfold kb at bj⊢
  split
  ·rename_i ae;rw[ae]at bj;exact aE.1 _ _ _ _ ab bj
  ·rename_i ae;rw[ae]at bj;exact bj
 ·unfold kb at bj
  split at bj
  ·exact aE.2 _ _ _ bj
  ·exact bj.elim
def qa:Nat->J->List J->List J
 |0,a,l=>a::l
 |_+1,a,[]=>[a]
 |n+1,a,x::l=>x::qa n a l
theorem MI:∀(n:Nat) (a:J) (l:List J),n<=l.length->qa n a l=l.take n++a::l.drop n
 |0,a,l,_=>rfl
 |n+1,a,[],h=>by simp at h
 |n+1,a,x::l,h=>by
  show x::qa n a l=_
  rw[MI n a l (by simpa using h)];rfl
def w6 (n:Nat)(E:Env)(ntmps:Nat)(results:List ResultVar)(c:Code)(a0:J)(ob:ad)(rest:List J)(ts:List aO)(K:ad->J->Prop):Prop:=
 ht E c 1000000 ⟨pad ntmps (qa n a0 rest),[(false,ob)]⟩ fun e S=>
  match e with
  | .normal| .ret=>
   (match p8 E.tb S.tm S.own results with
   |true=>(match frozenAt (b7 S.own (gz E.tb S.tm S.own results)) 0,ad.plain (ad.at S.own 0),J.s6 (bT .un S.tm n) a0,rp ts (ln S.own ts (one (gz E.tb S.tm S.own results)))with
    |false,true,true,true=>K (ad.at S.own 0) (ln S.own ts (one (gz E.tb S.tm S.own results)))
    |_,_,_,_=>False)
   |false=>False)
  |_=>False
def BT (E:Env)(ntmps:Nat)(results:List ResultVar)(c:Code)(a0:J)(ob:ad)(rest:List J)(ts:List aO)(K:ad->J->Prop):Prop:=
 ht E c 1000000 ⟨pad ntmps (a0::rest),[(false,ob)]⟩ fun e S=>
  match e with
  | .normal| .ret=>
   (match p8 E.tb S.tm S.own results with
   |true=>(match frozenAt (b7 S.own (gz E.tb S.tm S.own results)) 0,ad.plain (ad.at S.own 0),J.s6 (bT .un S.tm 0) a0,rp ts (ln S.own ts (one (gz E.tb S.tm S.own results)))with
    |false,true,true,true=>K (ad.at S.own 0) (ln S.own ts (one (gz E.tb S.tm S.own results)))
    |_,_,_,_=>False)
   |false=>False)
  |_=>False
section
variable {P:Program}
theorem PQ (E:Env)(dj:hT P E)
 {f:FuncId} {fn:Func} {c:Code} (aQ:P.funcs[f]? =some fn) (ae:fn.body=some c) {rvs:List ResultVar} (ak:fn.results=rvs.toArray)
 {N:Nat->Prop} {ρ:List Loc} {own:aB} {w:World} {args:List J} {vals:Array Value} {K:List J->aB->Prop}
 (h:ht E c 1000000 ⟨pad fn.ntmps args,own⟩ fun e S=>match e with| .normal| .ret=>(match p8 E.tb S.tm S.own rvs with|true=>K S.tm S.own|false=>False)|_=>False) (aH:b4 N ρ own w)
 (aq:args.length=vals.size) (aC:∀i,i<args.length->bz (aI N ρ own) w ρ own (args.getD i .un) (vals.getD i undef)):
 Calls P f vals w fun e w'=>∃(tm:List J) (own':aB) (ρ':List Loc) (a:Act) (aG:List Value),e= .returned (if rvs.length=1 then aG.getD 0 undef else .tuple aG.toArray)/\aG.length=rvs.length/\(gz E.tb tm own' rvs).length=rvs.length/\(∀i,bz (aI N ρ' own') w' ρ' own' ((gz E.tb tm own' rvs).getD i .un) (aG.getD i undef))/\
  K tm own'/\eT N ρ' tm own' a w'/\Fr ρ own w ρ' own' w'/\∀t,t<args.length->Code.gv c t=false->a.tmps.getD t undef=vals.getD t undef:=by
 refine calls_of_wp aQ ae ?_
 have ao:eT N ρ (pad fn.ntmps args) own {tmps:=vals++Array.replicate (fn.ntmps-vals.size) undef,defers:=[]} w:=by
  refine⟨aH,⟨by rw[rG];simp[aq],fun t=> ?_⟩,rfl⟩
  rw[rG]
  by_cases aA:t<args.length
  ·have an:(args++List.replicate (fn.ntmps-args.length) J.un).getD t .un=args.getD t .un:=by simp[ass,atp aA]
   have az:(vals++Array.replicate (fn.ntmps-vals.size) undef).getD t undef=vals.getD t undef:=by simp[asA,auO (show t<vals.size by omega)]
   rw[an,az];exact aC t aA
  ·have an:(args++List.replicate (fn.ntmps-args.length) J.un).getD t .un= .un:=by
    rw[ass,atC (by omega),atN];split<;>rfl
   have az:(vals++Array.replicate (fn.ntmps-vals.size) undef).getD t undef=undef:=by
    rw[asA,Array.getElem?_append_right (by omega),Array.getElem?_replicate];split<;>rfl
   rw[an,az];exact bz.un
 refine wp_mono (E8 E dj c _ _ _ _ w ρ h ao) fun e cI w' b2=> ?_
 obtain⟨cd,rfl,aw⟩:=b2
 obtain⟨dL,own',ρ',aU,a_,bF⟩:=aw.ex
 have hold:∀t,t<args.length->Code.gv c t=false->cI.tmps.getD t undef=vals.getD t undef:=fun t aA ay=>by
  rw[aw.same t ay]
  simp[asA,auO (show t<vals.size by omega)]
 cases cd with
 |normal=>
  have ab:(match p8 E.tb dL own' rvs with|true=>K dL own'|false=>False):=aU
  split at ab
  rotate_left
  ·exact ab.elim
  rename_i aT
  obtain⟨aG,c3,cP,cJ,m8⟩:=Ab E dj ak a_ (uD aT).1 (by rw[(uD aT).2];exact fun p aw=>absurd aw atW)
  exact⟨a_.iR,_,c3,dL,own',ρ',cI,aG,rfl,cP,cJ,m8,ab,a_,bF,hold⟩
 |ret=>
  have ab:(match p8 E.tb dL own' rvs with|true=>K dL own'|false=>False):=aU
  split at ab
  rotate_left
  ·exact ab.elim
  rename_i aT
  obtain⟨aG,c3,cP,cJ,m8⟩:=Ab E dj ak a_ (uD aT).1 (by rw[(uD aT).2];exact fun p aw=>absurd aw atW)
  exact⟨a_.iR,_,c3,dL,own',ρ',cI,aG,rfl,cP,cJ,m8,ab,a_,bF,hold⟩
 |_=>exact aU.elim
theorem NG {N:Nat->Prop}{ρ:List Loc}{own:aB}{w:World}(bx:b4 N ρ own w){rs:List J}{aG:List Value}{n:Nat}{ts:List aO}(gW:ts.length=n)(cj:rs.length=n)(db:aG.length=n)
 (hY:∀i,bz (aI N ρ own) w ρ own (rs.getD i .un) (aG.getD i undef))
 (hX:rp ts (ln own ts (one rs))=true) {Z:Nat->Prop} {ρ':List Loc} {own':aB} (bc:∀b,Z b->aI N ρ (b7 own rs) b):
 bz Z w ρ' own' (ln own ts (one rs)) (if n=1 then aG.getD 0 undef else .tuple aG.toArray):=by
 obtain⟨q1,cb,cu,fM⟩:=nX rs own bx
 have rR:∀x u,Reads (aI N ρ (b7 own rs)) w x u->Reads Z w x u:=fun x u af=>af.mono fun b _ ar=>⟨rfl,fun cS=>ar (bc b cS)⟩
 by_cases U:n=1
 ·rw[asq U]
  match rs,aG,ts,(by omega:rs.length=1),(by omega:aG.length=1),(by omega:ts.length=1)with
  |[x],[u],[t],_,_,_=>
   have aw:(t.norm own x).plain=true:=hX
   exact .gB (oN aw (oO q1.rel cb t aw (q1.km (hY 0)) fun id aM=>fM 0 id (by simp) aM) rR)
 ·rw[asp U]
  have an:one rs= .tup rs:=by
   match rs,cj with
   |[],_=>rfl
   |[x],cj=>exact absurd cj.symm U
   |_::_::_,_=>rfl
  have az:∀l,ln own ts (.tup l)= .tup (aO.dF own ts l):=fun l=>by
   match ts,gW with
   |[],_=>rfl
   |[x],gW=>exact absurd gW.symm U
   |_::_::_,_=>rfl
  have bK:∀l,rp ts (.tup l)=dq J.plain l:=fun l=>by
   match ts,gW with
   |[],_=>rfl
   |[x],gW=>exact absurd gW.symm U
   |_::_::_,_=>rfl
  rw[an,az]at hX⊢
  rw[bK]at hX
  have hJ:=pZ own ts rs (by omega)
  refine⟨aG.toArray,rfl,by rw[hJ];simp;omega,fun i hi=> ?_⟩
  obtain⟨t,e⟩:=p0 own ts rs (by omega) i (by omega)
  have aw:=ns hX .un i hi
  rw[e]at aw⊢
  have:=oN (ρ':=ρ') (own':=own') aw (oO q1.rel cb t aw (q1.km (hY i)) fun id aM=>fM i id (by omega) aM) rR
  have cm:aG.toArray.getD i undef=aG.getD i undef:=by simp[asA,ass]
  rw[cm];exact this
theorem TR {Z Z':Nat->Prop}{w w':World}{ρ ρ':List Loc}{own own':aB}{v:J}{u:Value}(aw:v.qe=true)(h:dE Z w ρ own v u)(ak:∀x u,Reads Z w x u->Reads Z' w' x u):
 dE Z' w' ρ' own' v u:=h.mono ak fun _ ar=>(z6 aw ar).elim
theorem z7 {Z Z':Nat->Prop}{w w':World}{ρ ρ':List Loc}{own own':aB}{loc:Loc}{ob:ad}(aw:ob.plain=true)(h:hD Z w ρ own loc ob)
 (ae:∀b,loc.bO=some b->w'.heap[b]? =w.heap[b]?) (ak:∀x u,Reads Z w x u->Reads Z' w' x u):hD Z' w' ρ' own' loc ob:=
 h.mono ae ak fun l aq k id ab ar=>by
  subst aq
  exact(z6 (ns aw .un k ab) ar).elim
theorem Lt (n:Nat)(E:Env)(dj:hT P E)
 {f:FuncId} {fn:Func} {c:Code} (aQ:P.funcs[f]? =some fn) (ae:fn.body=some c) (ar:(fn.name== "runtime.NumGoroutine")=false) {rvs:List ResultVar} (ak:fn.results=rvs.toArray)
 (aE:Code.gv c n=false) {ps ts:List aO} (gW:ts.length=rvs.length) {T:J->ad->List J->(ad->J->Prop)->Prop}
 (gj:∀a0 ob args K,T a0 ob args K->w6 n E fn.ntmps rvs c a0 ob args ts K) (je:n<=ps.length):e6 P f (kb n ps T):=by
 refine⟨⟨fn,aQ,by rw[ae];rfl,ar⟩, ?_⟩
 intro N ρ own w args vals K h aH aq aC
 unfold kb at h
 split at h
 rotate_left
 ·exact h.elim
 rename_i vy
 have kv:n<args.length:=by
  have:n+1<=bN args:=asV vy
  rw[cf]at this;omega
 unfold n1 xr at h
 have D5:bz (aI N ρ own) w ρ own (bT .un args n) (vals.getD n undef):=by rw[dp];exact aC n kv
 have Qr:∀i,i<(dV (kp args n) (ko args (Nat.succ n))).length->bz (aI N ρ own) w ρ own ((dV (kp args n) (ko args (Nat.succ n))).getD i .un) (vals.getD (if i<n then i else i+1) undef):=fun i hi=>by
  rw[fu,kI,kH]at hi⊢
  rw[ass,asS]
  simp only[as2,asW,atA]at hi⊢
  by_cases eE:i<n
  ·rw[asq (by omega),asq eE,ath,asq eE,<-ass]
   exact aC i (by omega)
  ·rw[asp (by omega),asp eE,atK,show n.succ+(i-min n args.length)=i+1 by omega,<-ass]
   exact aC (i+1) (by omega)
 have Yt:(dV (kp args n) (ko args (Nat.succ n))).length+1=args.length:=by rw[fu,kI,kH];simp;omega
 generalize bT .un args n=a0 at h D5
 generalize dV (kp args n) (ko args (Nat.succ n))=rest at h Qr Yt
 simp only at h
 split at h
 ·exact h.elim
 rename_i id de
 split at h
 rotate_left
 ·exact h.elim
 rename_i U gL al aL
 have aa:=TQ gL
 have hlen:ps.length=rest.length:=by have:=ast al;rwa [cf,cf]at this
 obtain⟨s1,s2,m7,lR⟩:=nX rest own aH
 have xZ:=pZ own ps rest hlen
 have qt:id<(b7 own rest).length:=by
  rcases Nat.lt_or_ge id (b7 own rest).length with h|h
  ·exact h
  ·rw[Qk _ _ h]at U;cases U
 have G0:id<ρ.length:=by rw[s1.rel.len];exact qt
 have dg:ρ[id]? =some ρ[id]:=by simp[G0]
 have yx:=s1.km D5
 have iu:∀b,ρ[id].bO=some b->aI N ρ (b7 own rest) b:=fun b ae=> .inr ⟨id,ρ[id],dg,ae,U⟩
 have mQ:=s1.rel.ob id _ dg
 rw[s2]at mQ
 have yy:qa n (l6 a0) (aO.dF own ps rest)=(aO.dF own ps rest).take n++l6 a0::(aO.dF own ps rest).drop n:=MI _ _ _ (by omega)
 have Qs:∀(Z:Nat->Prop) (D6:List Loc) (DH:aB),(∀x u,Reads (aI N ρ (b7 own rest)) w x u->Reads Z w x u)->bz Z w D6 DH (l6 a0) (vals.getD n undef)->
  ∀i,i<(qa n (l6 a0) (aO.dF own ps rest)).length->bz Z w D6 DH ((qa n (l6 a0) (aO.dF own ps rest)).getD i .un) (vals.getD i undef):=fun Z D6 DH s_ rS i hi=>by
  have one:∀j,j<(aO.dF own ps rest).length->bz Z w D6 DH ((aO.dF own ps rest).getD j .un) (vals.getD (if j<n then j else j+1) undef):=fun j aK=>by
   obtain⟨t,e⟩:=p0 own ps rest hlen j (by omega)
   have aw:=ns aL .un j aK
   have tO:=s1.km (Qr j (by omega))
   rw[e]at aw⊢
   exact .gB (oN aw (oO s1.rel s2 t aw tO fun id aM=>lR j id (by omega) aM) s_)
  rw[yy]at hi⊢
  simp only[as2,asW,atf,atA]at hi
  rw[ass,asS,asW]
  by_cases U:i<n
  ·rw[asq (by omega),ath,asq U,<-ass]
   have:=one i (by omega)
   rwa [asq U]at this
  ·rw[asp (by omega)]
   cases aP:i-min n (aO.dF own ps rest).length with
   |zero=>
    have:i=n:=by omega
    subst this
    simpa using rS
   |succ m=>
    have aK:=one (i-1) (by omega)
    rw[asp (by omega),show i-1+1=i by omega]at aK
    rw[List.getElem?_cons_succ,atK,show n+m=i-1 by omega,<-ass]
    exact aK
 have pC:=gj _ _ _ _ h
 unfold w6 at pC
 by_cases tF:(∃i,a0= .vec i)/\ρ[id].cap=0
 ·obtain⟨⟨i,rfl⟩,rU⟩:=tF
  obtain rfl:i=id:=asB de
  have ml:(ad.at own i).len=0:=by
   cases b1:ad.at own i with
   |cells l=>rw[b1]at gL;cases gL
   |gone=>rw[b1]at gL;cases gL
   |map _ _ _=>rw[b1]at gL;cases gL
   |dead _ _=>rw[b1]at gL;cases gL
   |ints k l=>
    rw[b1]at mQ
    obtain⟨rfl,_⟩|⟨bW,aG,e,dt,dD,iD,qX,ug,Ed⟩:=mQ
    ·rfl
    ·show l.length=0;omega
   |rows aj l=>
    rw[b1]at mQ
    obtain⟨rfl,_⟩|⟨bW,aG,e,dt,dD,iD,qX,ug,Ed⟩:=mQ
    ·rfl
    ·show l.length=0;omega
  have iM:∀b,¬fU [⟨ρ[i].a,0,none⟩] [(false,ad.at own i)] b:=fun b ⟨j,loc,aU,a_,_⟩=>by
   cases j with
   |zero=>simp at aU;subst aU;cases a_
   |succ j=>simp at aU
  have hs:b4 (aI N ρ (b7 own rest)) [⟨ρ[i].a,0,none⟩] [(false,ad.at own i)] w:=
   {len:=rfl
    fE:=fun b ae=>by
     rcases ae with ae|⟨i,loc,an,az,_⟩
     ·exact aH.fE b ae
     ·exact aH.lt i loc b an az
    lt:=fun j loc b an az=>by
     cases j with
     |zero=>simp at an;subst an;cases az
     |succ j=>simp at an
    inj:=fun j fk li b9 b an az _ _ _ _=>by
     cases j with
     |zero=>cases fk with
      |zero=>rfl
      |succ j=>simp at az
     |succ j=>simp at an
    fr:=fun j loc b an az ae=>by
     cases j with
     |zero=>simp at an;subst an;cases az
     |succ j=>simp at an
    ob:=fun j loc an=>by
     cases j with
     |zero=>
      simp at an;subst an
      show hD _ _ _ _ _ (ad.at own i)
      cases b1:ad.at own i with
      |cells l=>rw[b1]at gL;cases gL
      |gone=>rw[b1]at gL;cases gL
      |map _ _ _=>rw[b1]at gL;cases gL
      |dead _ _=>rw[b1]at gL;cases gL
      |ints k l=>rw[b1]at ml;exact .inl ⟨aum ml,rfl⟩
      |rows k l=>rw[b1]at ml;exact .inl ⟨aum ml,rfl⟩
     |succ j=>simp at an}
  have rS:bz (aI (aI N ρ (b7 own rest)) [⟨ρ[i].a,0,none⟩] [(false,ad.at own i)]) w [⟨ρ[i].a,0,none⟩] [(false,ad.at own i)] (l6 (.vec i)) (vals.getD n undef):=by
   obtain⟨loc,an,az,nO⟩:=yx
   rw[dg]at an
   obtain rfl:=asB an
   exact⟨⟨ρ[i].a,0,none⟩,rfl,by rw[az,s2,rU];rfl,fun _=>rfl⟩
  have fA:=Qs _ _ _ (fun x u af=>af.mono fun b _ bc=>⟨rfl,fun cS=>cS.elim bc (iM b)⟩) rS
  refine(PQ E dj aQ ae ak (args:=qa n (l6 (.vec i)) (aO.dF own ps rest)) (vals:=vals)
   (K:=fun tm own'=>match frozenAt (b7 own' (gz E.tb tm own' rvs)) 0,ad.plain (ad.at own' 0),J.s6 (bT .un tm n) (l6 (.vec i)),rp ts (ln own' ts (one (gz E.tb tm own' rvs)))with
     |false,true,true,true=>(match ad.alike (ad.at own i) (ad.at own' 0)with|true=>K (ln own' ts (one (gz E.tb tm own' rvs))) (cH (b7 own rest) i (false,ad.at own' 0))|false=>False)
     |_,_,_,_=>False) pC hs (by rw[yy];simp;omega) fA).mono ?_
  rintro e w' ⟨tm,own',ρ',a,aG,rfl,cP,cJ,m8,ab,ao,cr,ey⟩
  split at ab
  rotate_left
  ·exact ab.elim
  rename_i g1 g2 g3 g4
  split at ab
  rotate_left
  ·exact ab.elim
  rename_i g5
  have iJ:=ey n (by rw[yy];simp;omega) aE
  have r8:=ao.eD.at_ n
  rw[<-dp,Fo g3,iJ]at r8
  obtain⟨cj,an,az,_⟩:=rS
  obtain⟨db,bK,cm,_⟩:=r8
  simp at an
  subst an
  rw[az]at cm
  have eL:(ad.at [(false,ad.at own i)] 0)=ad.at own i:=rfl
  rw[eL]at cm
  injection cm with hx jl jZ
  have lM:ad.at own' 0=ad.at own i:=by
   cases b1:ad.at own i<;>cases nC:ad.at own' 0<;>rw[b1,nC]at g5 jl<;>rw[b1]at ml gL<;>first|cases g5|skip
   ·cases gL
   ·have:=aum ml
    have lS:=aum (jl.symm.trans ml)
    subst this;subst lS
    rw[iS.1 g5]
   ·have:=aum ml
    have lS:=aum (jl.symm.trans ml)
    subst this;subst lS
    rw[(ast g5:_=_)]
  have gO:cH (b7 own rest) i (false,ad.at own' 0)=b7 own rest:=by
   rw[ep,lM,<-s2 i]
   refine auF (by simp) fun j jT mV=> ?_
   rw[List.getElem_set]
   split
   ·rename_i e;subst e
    have q1:frozenAt (b7 own rest) i=((b7 own rest)[i]).1:=by simp[frozenAt,dp,ass,qt]
    have cb:ad.at (b7 own rest) i=((b7 own rest)[i]).2:=by simp[ad.at,dp,ass,qt]
    rw[<-U,q1,cb]
   ·rfl
  rw[gO]at ab
  have Zq:∀b,b<w.heap.size->w'.heap[b]? =w.heap[b]? :=fun b ae=>cr.e1 b ae (iM b)
  refine⟨_,_,ρ,_,rfl,ab,s1.trans (Step.more s1.rel cr.os cr.tape cr.output cr.size Zq), ?_⟩
  exact NG ao.eJ gW cJ cP m8 g4 fun b ae=> .inl ae
 have xW:∀b,aI (fun b=>aI N ρ (b7 own rest) b/\ρ[id].bO≠some b) [ρ[id]] [(false,ad.at own id)] b->aI N ρ (b7 own rest) b:=fun b ae=>by
  rcases ae with ae|⟨i,loc,an,az,_⟩
  ·exact ae.1
  ·cases i with
   |zero=>simp at an;subst an;exact iu b az
   |succ i=>simp at an
 have s_:∀x u,Reads (aI N ρ (b7 own rest)) w x u->Reads (aI (fun b=>aI N ρ (b7 own rest) b/\ρ[id].bO≠some b) [ρ[id]] [(false,ad.at own id)]) w x u:=
  fun x u af=>af.mono fun b _ bc=>⟨rfl,fun cS=>bc (xW b cS)⟩
 have hs:b4 (fun b=>aI N ρ (b7 own rest) b/\ρ[id].bO≠some b) [ρ[id]] [(false,ad.at own id)] w:=
  {len:=rfl
   fE:=fun b ae=>by
    rcases ae.1 with ae|⟨i,loc,an,az,_⟩
    ·exact aH.fE b ae
    ·exact aH.lt i loc b an az
   lt:=fun i loc b an az=>by
    cases i with
    |zero=>simp at an;subst an;exact aH.lt id _ b dg az
    |succ i=>simp at an
   inj:=fun i j li b9 b an az _ _ _ _=>by
    cases i with
    |zero=>cases j with
     |zero=>rfl
     |succ j=>simp at az
    |succ i=>simp at an
   fr:=fun i loc b an az ae=>by
    cases i with
    |zero=>simp at an;subst an;exact ae.2 az
    |succ i=>simp at an
   ob:=fun i loc an=>by
    cases i with
    |zero=>simp at an;subst an;exact z7 aa mQ (fun _ _=>rfl) s_
    |succ i=>simp at an}
 have rS:bz (aI (fun b=>aI N ρ (b7 own rest) b/\ρ[id].bO≠some b) [ρ[id]] [(false,ad.at own id)]) w [ρ[id]] [(false,ad.at own id)] (l6 a0) (vals.getD n undef):=by
  cases a0 with
  |vec i=>
   obtain rfl:i=id:=asB de
   obtain⟨loc,an,az,nO⟩:=yx
   rw[dg]at an
   obtain rfl:=asB an
   exact⟨ρ[i],rfl,by rw[az,s2];rfl,nO⟩
  |ptr i off=>
   obtain rfl:i=id:=asB de
   obtain⟨loc,b,an,az,bK,cm⟩:=yx
   rw[dg]at an
   obtain rfl:=asB an
   exact⟨ρ[i],b,rfl,az,bK,cm⟩
  |_=>cases de
 have fA:=Qs _ _ _ s_ rS
 refine(PQ E dj aQ ae ak (args:=qa n (l6 a0) (aO.dF own ps rest)) (vals:=vals)
  (K:=fun tm own'=>match frozenAt (b7 own' (gz E.tb tm own' rvs)) 0,ad.plain (ad.at own' 0),J.s6 (bT .un tm n) (l6 a0),rp ts (ln own' ts (one (gz E.tb tm own' rvs)))with
    |false,true,true,true=>(match ad.alike (ad.at own id) (ad.at own' 0)with|true=>K (ln own' ts (one (gz E.tb tm own' rvs))) (cH (b7 own rest) id (false,ad.at own' 0))|false=>False)
    |_,_,_,_=>False) pC hs (by rw[yy];simp;omega) fA).mono ?_
 rintro e w' ⟨tm,own',ρ',a,aG,rfl,cP,cJ,m8,ab,ao,cr,ey⟩
 split at ab
 rotate_left
 ·exact ab.elim
 rename_i g1 g2 g3 g4
 split at ab
 rotate_left
 ·exact ab.elim
 rename_i g5
 have iJ:=ey n (by rw[yy];simp;omega) aE
 have r8:=ao.eD.at_ n
 rw[<-dp,Fo g3,iJ]at r8
 obtain⟨q1,cb,cu,fM⟩:=nX (gz E.tb tm own' rvs) own' ao.eJ
 have pq:=ao.eJ.ob 0
 have key:∃iy b,ρ'[0]? =some iy/\ρ[id].a=some ⟨b,0,none⟩/\ρ[id].bO=some b/\iy.bO=some b/\(ad.at own' 0).len=(ad.at own id).len/\
  ∀Z' fg me,(∀x u,Reads (aI (fun b=>aI N ρ (b7 own rest) b/\ρ[id].bO≠some b) ρ' own') w' x u->Reads Z' w' x u)->hD Z' w' fg me ρ[id] (ad.at own' 0):=by
  cases a0 with
  |vec i=>
   obtain rfl:i=id:=asB de
   obtain⟨cj,an,az,_⟩:=rS
   obtain⟨db,bK,cm,_⟩:=r8
   simp at an
   subst an
   rw[az]at cm
   have eL:(ad.at [(false,ad.at own i)] 0)=ad.at own i:=rfl
   rw[eL]at cm
   injection cm with hx jl jZ
   have aw:ρ[i].cap≠0:=fun e=>tF ⟨⟨i,rfl⟩,e⟩
   have pq:=pq db bK
   cases b1:ad.at own i with
   |cells l=>rw[b1]at gL;cases gL
   |gone=>rw[b1]at gL;cases gL
   |map _ _ _=>rw[b1]at gL;cases gL
   |dead _ _=>rw[b1]at gL;cases gL
   |ints k l=>
    rw[b1]at mQ g5 jl
    cases nC:ad.at own' 0 with
    |ints b3 c2=>
     rw[nC]at pq jl g2
     obtain⟨_,bE⟩|⟨bW,_,_,dt,dD,_⟩:=mQ
     ·exact(aw bE).elim
     obtain⟨_,mT⟩|⟨cn,aG,e,d1,d2,d3,d4,d5,d6⟩:=pq
     ·exact(aw (jZ.trans mT)).elim
     rw[<-hx,dt]at d1
     obtain rfl:bW=cn:=by injection d1 with d1;injection d1
     refine⟨db,bW,bK,dt,dD,d2,jl.symm,fun Z' fg me _=> .inr ⟨bW,aG,e,dt,dD,d3,by rw[jZ];exact d4,by rw[jZ];exact d5,d6⟩⟩
    |_=>rw[nC]at g5;cases g5
   |rows aj l=>
    rw[b1]at mQ g5 jl
    cases nC:ad.at own' 0 with
    |rows b3 c2=>
     rw[nC]at pq jl g2
     obtain⟨_,bE⟩|⟨bW,_,_,dt,dD,_⟩:=mQ
     ·exact(aw bE).elim
     obtain⟨_,mT⟩|⟨cn,aG,e,d1,d2,d3,d4,d5,d6,d7⟩:=pq
     ·exact(aw (jZ.trans mT)).elim
     rw[<-hx,dt]at d1
     obtain rfl:bW=cn:=by injection d1 with d1;injection d1
     refine⟨db,bW,bK,dt,dD,d2,jl.symm,fun Z' fg me ak=> .inr ⟨bW,aG,e,dt,dD,d3,by rw[jZ];exact d4,by rw[jZ];exact d5,d6,fun i j hi aK=> ?_⟩⟩
     obtain⟨v,aU,a_⟩:=d7 i j hi aK
     exact⟨v,aU,ak _ _ a_⟩
    |_=>rw[nC]at g5;cases g5
  |ptr i off=>
   obtain rfl:i=id:=asB de
   obtain⟨cj,cn,an,dt,dD,iD⟩:=rS
   obtain⟨db,cF,bK,d1,d2,d3⟩:=r8
   simp at an
   subst an
   rw[iD]at d3
   obtain rfl:cn=cF:=by injection d3 with d3;injection d3 with d3;injection d3
   have pq:=pq db bK
   cases b1:ad.at own i with
   |cells l=>
    rw[b1]at g5
    cases nC:ad.at own' 0 with
    |cells c2=>
     rw[nC]at pq g2 g5
     have RA:l.length=c2.length:=by have:=ast g5;rwa [cf,cf]at this
     obtain⟨hN,aG,e,f1,f2,f3,f4,f5⟩:=pq
     rw[d1]at f1
     obtain rfl:cn=hN:=by injection f1 with f1;injection f1
     refine⟨db,cn,bK,dt,dD,d2,RA.symm,fun Z' fg me ak=>⟨cn,aG,e,dt,dD,f3,f4,fun k ab=> ?_⟩⟩
     exact TR (ns g2 .un k ab) (f5 k ab) ak
    |_=>rw[nC]at g5;cases g5
   |_=>rw[b1]at gL;cases gL
  |_=>cases de
 obtain⟨iy,b,an,az,bK,cm,eL,hx⟩:=key
 have Zr:(ad.at own' 0).ch=(ad.at own id).ch:=by
  cases b1:ad.at own id<;>cases nC:ad.at own' 0<;>rw[b1,nC]at g5<;>first|rfl|cases g5|exact(ast g5).symm
 have BU:∀x,fU ρ ((b7 own rest).set id (false,ad.at own' 0)) x->fU ρ (b7 own rest) x:=fun x ⟨i,l,aU,a_,bF⟩=>by
  rw[hS]at bF
  by_cases e:id=i
  ·subst e;exact⟨id,l,aU,a_,U⟩
  ·rw[asp (by simp[e])]at bF;exact⟨i,l,aU,a_,bF⟩
 have rM:∀x,x<w.heap.size->ρ[id].bO≠some x->w'.heap[x]? =w.heap[x]? :=fun x af cV=>cr.e1 x af fun⟨i,l,aU,a_,_⟩=>by
  cases i with
  |zero=>simp at aU;subst aU;exact cV a_
  |succ i=>simp at aU
 have yz:Fr ρ (b7 own rest) w ρ ((b7 own rest).set id (false,ad.at own' 0)) w':=
  ⟨cr.os,cr.tape,cr.output,cr.size,fun x af vP=>rM x af fun ae=>vP ⟨id,_,dg,ae,U⟩,fun x af=> .inl (BU x af)⟩
 have Qt:∀i,eg ρ (b7 own rest) ρ ((b7 own rest).set id (false,ad.at own' 0)) i:=fun i l aq=>by
  refine⟨aq, ?_⟩
  rw[gx]
  by_cases e:id=i
  ·subst e;rw[asq ⟨rfl,qt⟩,s2];exact⟨eL,Zr⟩
  ·rw[asp (by simp[e])];exact⟨rfl,rfl⟩
 have Yu:∀x,aI N ρ ((b7 own rest).set id (false,ad.at own' 0)) x->aI N ρ (b7 own rest) x:=fun x af=>af.imp (fun h=>h) (BU x)
 have Qu:∀x,aI N ρ ((b7 own rest).set id (false,ad.at own' 0)) x->aI (fun b=>aI N ρ (b7 own rest) b/\ρ[id].bO≠some b) ρ' (b7 own' (gz E.tb tm own' rvs)) x:=fun x af=>by
  by_cases ae:ρ[id].bO=some x
  ·rw[bK]at ae
   obtain rfl:=asB ae
   exact .inr ⟨0,iy,an,cm,g1⟩
  ·exact .inl ⟨Yu x af,ae⟩
 have Yv:∀x,aI N ρ ((b7 own rest).set id (false,ad.at own' 0)) x->aI (fun b=>aI N ρ (b7 own rest) b/\ρ[id].bO≠some b) ρ' own' x:=fun x af=>by
  rcases Qu x af with af|⟨i,l,aU,a_,bF⟩
  ·exact .inl af
  ·refine .inr ⟨i,l,aU,a_, ?_⟩
   cases aQ:frozenAt own' i with
   |false=>rfl
   |true=>rw[cu i aQ]at bF;cases bF
 have G1:b4 N ρ ((b7 own rest).set id (false,ad.at own' 0)) w':=by
  refine s1.rel.Dy yz (by simp[s1.rel.len]) (fun _ _ _ _ i _ _=>Qt i) (fun i l aq=> ?_)
  by_cases e:id=i
  ·subst e
   rw[dg]at aq
   obtain rfl:=asB aq
   refine .inr ⟨fun x af=>⟨asR (aH.lt id _ x dg af) cr.size,aH.fr id _ x dg af,fun j b9 aK Im k8=> ?_⟩, ?_⟩
   ·by_cases e:id=j
    ·exact e.symm
    ·exact s1.rel.inj j id b9 _ x aK dg Im af (fun⟨f,n,aj,q⟩=>k8 ⟨by rw[hS,asp (by simp[e])];exact f,n,aj,by rw[gx,asp (by simp[e])];exact q⟩) (np U)
   rw[gx,asq ⟨rfl,qt⟩]
   exact hx _ _ _ fun x u af=>af.mono fun y _ bc=>⟨rfl,fun cS=>bc (Yv y cS)⟩
  ·refine .inl ⟨aq,by rw[gx,asp (by simp[e])],fun af=>by rwa [hS,asp (by simp[e])]at af,fun jF x af=>rM x (aH.lt i l x aq af) fun ae=>e (s1.rel.inj id i _ l x dg aq ae af (np U) jF)⟩
 refine⟨_,_,ρ,_,rfl,ab,s1.trans ?_, ?_⟩
 ·rw[ep]
  exact{yz with rel:=G1,same:=Qt}
 ·rw[ep]
  exact NG ao.eJ gW cJ cP m8 g4 Qu
theorem U5 (E:Env)(dj:hT P E)
 {f:FuncId} {fn:Func} {c:Code} (aQ:P.funcs[f]? =some fn) (ae:fn.body=some c) (ar:(fn.name== "runtime.NumGoroutine")=false) {rvs:List ResultVar} (ak:fn.results=rvs.toArray)
 (aE:Code.gv c 0=false) {ps ts:List aO} (gW:ts.length=rvs.length) {T:J->ad->List J->(ad->J->Prop)->Prop}
 (gj:∀a0 ob args K,T a0 ob args K->BT E fn.ntmps rvs c a0 ob args ts K):e6 P f (lg ps T):=by
 have h:=Lt 0 E dj aQ ae ar ak aE gW (ps:=ps) (T:=T) gj (atD _)
 refine⟨h.1, ?_⟩
 intro N ρ own w args vals K hA
 refine h.2 N ρ own w args vals K ?_
 unfold kb
 cases args with
 |nil=>unfold lg at hA;exact hA.elim
 |cons a r=>
  have e:Nat.blt 0 (bN (a::r))=true:=Nat.ble_eq_true_of_le (by rw[cf];simp)
  have az:xr 0 (a::r)=a::r:=by
   unfold xr
   rw[fu,kI,kH]
   rfl
  rw[e,az]
  show n1 ps T (a::r) own K
  unfold lg at hA
  unfold n1
  simp only at hA⊢
  split
  ·rename_i he;rw[he]at hA;exact hA
  ·rename_i id he
   rw[he]at hA
   simp only at hA
   split
   ·rename_i U aa al aL
    rw[U,aa,al,aL]at hA
    simp only at hA
    rw[wM]at hA
    exact hA.2
   ·rename_i af
    split at hA
    ·rename_i U aa al aL;exact(af U aa al aL).elim
    ·exact hA
end
end Go.bG
end
section
namespace Go.bG
theorem EW {α:Type}:∀(l:List (Nat×α)) (j:Nat) (x:α),eN j l=some x->(j,x)∈l
 |[],j,x,h=>by cases h
 |(i,y)::r,j,x,h=>by
  unfold eN at h
  split at h
  ·rename_i ae
   obtain rfl:=ast ae
   obtain rfl:=asB h
   simp
  ·exact at3 _ (EW r j x h)
theorem Xh (P:Program)(t:TypeId):cE P t {ty:= .no}=true:=rfl
theorem X1 {P:Program}{tb:TypeId->bQ}{t:TypeId}(h:tb t={ty:= .no}):o2 P tb t=true:=by
 unfold o2 rF xz
 rw[h]
theorem hT.of {P:Program}{E:Env}(U:dq (fun p=>match cE P p.1 p.2 with|true=>o2 P E.tb p.1|false=>false) E.tys=true)(aa:∀p∈E.cons,oY P p.1 p.2/\fw p.2)(al:P.follows .mixedOrders=true)(aL:∀f∈E.data,po (E.bd f))(bo:∀f∈E.fresh,vk (E.bd f):=by intro f h;exact absurd h atW):hT P E:=by
 have key:∀f args own K,E.bd f args own K->(f,E.bd f)∈E.cons:=fun f args own K h=>by
  unfold Env.bd at h⊢
  split
  ·rename_i c ay;exact EW _ _ _ ay
  ·rename_i ay;rw[ay]at h;exact h.elim
 have both:∀t,cE P t (E.tb t)=true/\o2 P E.tb t=true:=fun t=>by
  cases aq:eN t E.tys with
  |some i=>
   rw[eW,asH]at U
   have:=U _ (EW _ _ _ aq)
   have e:E.tb t=i:=by unfold Env.tb;rw[aq]
   rw[e]
   simp only at this
   split at this
   ·rename_i aa;exact⟨aa,this⟩
   ·cases this
  |none=>
   have e:E.tb t={ty:= .no}:=by unfold Env.tb;rw[aq]
   exact⟨by rw[e];exact Xh P t,X1 e⟩
 refine⟨fun t=>(both t).1,fun t=>(both t).2,fun f args own K h=>(aa _ (key f args own K h)).1,fun f args own K h=>(aa _ (key f args own K h)).2,al,fun f=>⟨fun aQ=> ?_,fun aQ=> ?_⟩⟩
 ·unfold Env.kind at aQ
  split at aQ
  ·rename_i hm;exact aL f (uR.1 hm)
  ·split at aQ<;>cases aQ
 ·unfold Env.kind at aQ
  split at aQ
  ·cases aQ
  ·split at aQ
   ·rename_i hm;exact bo f (uR.1 hm)
   ·cases aQ
def o9 (K:List J->Prop):List J->Prop
 |[]=>K []
 | .d (.ints k l)::r=>∀x:List Int,x=l->o9 (fun t=>K (.d (.ints k x)::t)) r
 | .d (.rows k l)::r=>∀x:List (List R),x=l->o9 (fun t=>K (.d (.rows k x)::t)) r
 | .d (.int k n)::r=>∀x:Int,x=n->o9 (fun t=>K (.d (.int k x)::t)) r
 | .d (.bool b)::r=>∀x:Bool,x=b->o9 (fun t=>K (.d (.bool x)::t)) r
 | .d (.str l)::r=>∀x:List Int,x=l->o9 (fun t=>K (.d (.str x)::t)) r
 |v::r=>o9 (fun t=>K (v::t)) r
def l7 (K:List J->Prop):List J->Prop
 |[]=>K []
 | .d (.ints k l)::r=>∀x:List Int,x=l->l7 (fun t=>K (.d (.ints k x)::t)) r
 | .d (.rows k l)::r=>∀x:List (List R),x=l->l7 (fun t=>K (.d (.rows k x)::t)) r
 | .d (.int k n)::r=>∀x:Int,x=n->l7 (fun t=>K (.d (.int k x)::t)) r
 | .d (.bool b)::r=>∀x:Bool,x=b->l7 (fun t=>K (.d (.bool x)::t)) r
 | .d (.str l)::r=>∀x:List Int,x=l->l7 (fun t=>K (.d (.str x)::t)) r
 | .agg l::r=>o9 (fun t=>l7 (fun q=>K (.agg t::q)) r) l
 |v::r=>l7 (fun t=>K (v::t)) r
def Qv:List J->J
 |v::_=>v
 |[]=> .un
def CE (K:J->Prop):J->Prop
 | .tup l=>l7 (fun t=>K (.tup t)) l
 | .agg l=>l7 (fun t=>K (.agg t)) l
 |v=>l7 (fun t=>K (Qv t)) [v]
def named (T:List J->(J->Prop)->Prop):List J->(J->Prop)->Prop:=fun args K=>T args fun r=>CE K r
theorem EX:∀(l:List J) (K:List J->Prop),o9 K l↔K l
 |[],_=>atd
 |v::r,K=>by
  cases v with
  |d a=>cases a<;>simp[o9,EX r]
  |_=>simp[o9,EX r]
theorem AP:∀(l:List J) (K:List J->Prop),l7 K l↔K l
 |[],_=>atd
 |v::r,K=>by
  cases v with
  |d a=>cases a<;>simp[l7,AP r]
  |_=>simp[l7,AP r,EX]
theorem MJ (K:J->Prop)(v:J):CE K v↔K v:=by
 cases v<;>simp[CE,AP,Qv]
theorem sS (T:List J->(J->Prop)->Prop):named T=T:=by
 funext args K
 unfold named
 congr 1
 funext r
 exact propext (MJ K r)
theorem FV {T:List J->(J->Prop)->Prop}(h:jA T):jA (named T):=by rw[sS];exact h
end Go.bG
end
section
namespace Go.bG
theorem Step.fresh {N:Nat->Prop}{ρ:List Loc}{own:aB}{w w':World}(h:b4 N ρ own w)(U:w'.os=w.os)(aa:w'.tape=w.tape)(al:w'.output=w.output)(ao:w.heap.size<=w'.heap.size)
 (ab:∀b,b<w.heap.size->w'.heap[b]? =w.heap[b]?) (f:Bool) (ob:ad) (loc:Loc) (ae:∀b,loc.bO=some b->w.heap.size<=b/\b<w'.heap.size)
 (aH:hD (aI N (ρ++[loc]) (own++[(f,ob)])) w' (ρ++[loc]) (own++[(f,ob)]) loc ob):Step N ρ own w (ρ++[loc]) (own++[(f,ob)]) w':=by
 have cr:Fr ρ own w (ρ++[loc]) (own++[(f,ob)]) w':=by
  refine⟨U,aa,al,ao,fun b ae _=>ab b ae,fun b ⟨i,l,an,az,bK⟩=> ?_⟩
  rw[asS]at an
  by_cases hi:i<ρ.length
  ·rw[asq hi]at an
   rw[kn,asp (by rw[<-h.len];omega)]at bK
   exact .inl ⟨i,l,an,az,bK⟩
  ·rw[asp hi]at an
   cases aP:i-ρ.length with
   |zero=>simp[aP]at an;subst an;exact .inr (ae b az).1
   |succ n=>simp[aP]at an
 have ey:∀id,eg ρ own (ρ++[loc]) (own++[(f,ob)]) id:=fun id l aq=>by
  have:=h.jz aq
  refine⟨by rw[atp (by rw[h.len];exact this)];exact aq, ?_⟩
  rw[gw,asp (by omega)];exact⟨rfl,rfl⟩
 refine{cr with rel:=h.se cr (by simp[h.len]) (fun _ _ _ _ id _ _=>ey id) (fun i l aq=> ?_),same:=ey}
 rw[asS]at aq
 by_cases hi:i<ρ.length
 ·rw[asq hi]at aq
  refine .inl ⟨aq,by rw[gw,asp (by rw[<-h.len];omega)],fun af=>by rwa [kn,asp (by rw[<-h.len];omega)]at af,fun b ae=> ?_⟩
  exact ab b (h.lt i l b aq ae)
 ·rw[asp hi]at aq
  cases aP:i-ρ.length with
  |succ n=>simp[aP]at aq
  |zero=>
   simp[aP]at aq
   subst aq
   have dH:i=own.length:=by rw[<-h.len];omega
   refine .inr ⟨fun b aaW=> ?_,by rw[dH,gw,asq rfl];exact aH⟩
   obtain⟨cn,cF⟩:=ae b aaW
   refine⟨cF,fun ar=>absurd (h.fE _ ar) (by omega),fun j b9 aK ae=> ?_⟩
   rw[asS]at aK
   by_cases hZ:j<ρ.length
   ·rw[asq hZ]at aK
    have:=h.lt j b9 _ aK ae
    omega
   ·rw[asp hZ]at aK
    cases h9:j-ρ.length with
    |zero=>omega
    |succ n=>simp[h9]at aK
theorem Ue {ps:List aO}{T:List J->(ad->Prop)->Prop}(h:mr T):fw (mE ps T):=by
 refine⟨fun args own K K' ab bj=> ?_,fun args own K bj=> ?_⟩
 ·unfold mE at bj⊢
  split
  ·rename_i U aa
   rw[U,aa]at bj
   exact h.1 _ _ _ (fun r ak=>ab _ _ ak) bj
  ·rename_i af
   split at bj
   ·rename_i U aa;exact(af U aa).elim
   ·exact bj
 ·unfold mE at bj
  split at bj
  ·obtain⟨r,ak⟩:=h.2 _ _ bj
   exact⟨_,_,ak⟩
  ·exact bj.elim
def isSlice:ad->Bool
 | .ints ..=>true
 | .rows ..=>true
 |_=>false
def CD (t:aO)(K:ad->Prop)(v:J)(own:aB):Prop:=
 match v with
 | .vec id=>(match frozenAt own id,isSlice (ad.at own id)with|false,true=>K (ad.at own id)|_,_=>False)
 | .emp=>(match t with| .bS (.sints k)=>K (.ints k [])| .bS (.srows aj)=>K (.rows aj [])|_=>False)
 |_=>False
section
variable {P:Program}
theorem Uf (E:Env)(dj:hT P E)
 {f:FuncId} {fn:Func} {c:Code} (aQ:P.funcs[f]? =some fn) (ae:fn.body=some c) (ar:(fn.name== "runtime.NumGoroutine")=false) {r:Tmp} (ak:fn.results=[ResultVar.tmp r].toArray)
 {ps:List aO} {t:aO} {T:List J->(ad->Prop)->Prop} (gj:∀args K,T args K->l0 E fn.ntmps [.tmp r] c args [] (CD t K)):e6 P f (mE ps T):=by
 refine⟨⟨fn,aQ,by rw[ae];rfl,ar⟩, ?_⟩
 intro N ρ own w args vals K h aH aq aC
 unfold mE at h
 split at h
 rotate_left
 ·exact h.elim
 rename_i U aa
 have hlen:ps.length=args.length:=by have:=ast U;rwa [cf,cf]at this
 obtain⟨s1,s2,m7,lR⟩:=nX args own aH
 have xZ:=pZ own ps args hlen
 have hs:b4 (aI N ρ (b7 own args)) [] [] w:=
  {len:=rfl
   fE:=fun b ae=>by
    rcases ae with ae|⟨i,loc,an,az,_⟩
    ·exact aH.fE b ae
    ·exact aH.lt i loc b an az
   lt:=fun i loc b e=>by simp at e
   inj:=fun i j li b9 b e=>by simp at e
   fr:=fun i loc b e=>by simp at e
   ob:=fun i loc e=>by simp at e}
 have fA:∀i,i<(aO.dF own ps args).length->bz (aI (aI N ρ (b7 own args)) [] []) w [] [] ((aO.dF own ps args).getD i .un) (vals.getD i undef):=fun i hi=>by
  obtain⟨t,e⟩:=p0 own ps args hlen i (by omega)
  have aw:=ns aa .un i hi
  rw[e]at aw⊢
  have bo:=oO s1.rel s2 t aw (s1.km (aC i (by omega))) fun id aM=>lR i id (by omega) aM
  refine .gB (oN aw bo fun x u af=>af.mono fun b _ bc=>⟨rfl,fun cS=> ?_⟩)
  rcases cS with cS|⟨j,loc,an,_⟩
  ·exact bc cS
  ·simp at an
 refine(wT E dj aQ ae ak (gj _ _ h) hs (by omega) fA).mono ?_
 rintro e w' ⟨rs,own',ρ',aG,rfl,cj,db,ab,bx,cr,hY⟩
 have e1:∀b,b<w.heap.size->w'.heap[b]? =w.heap[b]? :=fun b ae=>cr.e1 b ae fun⟨i,loc,an,_⟩=>by simp at an
 simp only[atZ,atj]at cj db⊢
 match rs,aG,cj,db with
 |[x],[u],_,_=>
 have af:bz (aI (aI N ρ (b7 own args)) ρ' own') w' ρ' own' x u:=hY 0
 have fin:∀(loc:Loc) (ob:ad),ob.plain=true->(∀b,loc.bO=some b->w.heap.size<=b/\b<w'.heap.size/\aI (aI N ρ (b7 own args)) ρ' own' b)->hD (aI (aI N ρ (b7 own args)) ρ' own') w' ρ' own' loc ob->
  K (.vec (bN (b7 own args))) (dV (b7 own args) [(false,ob)])->(u= .slice loc.a ob.len loc.cap/\(loc.a=none->loc.cap=0))->
  ∃r fK kr v,Ending.returned (List.getD [u] 0 undef)= .returned v/\K r fK/\Step N ρ own w kr fK w'/\bz (aI N kr fK) w' kr fK r v:=by
  intro loc ob aw nz b1 hA hu
  have bc:∀b,aI N (ρ++[loc]) (b7 own args++[(false,ob)]) b->aI (aI N ρ (b7 own args)) ρ' own' b:=fun b ae=>by
   rcases ae with ae|⟨i,l,an,az,bK⟩
   ·exact .inl (.inl ae)
   ·rw[asS]at an
    by_cases hi:i<ρ.length
    ·rw[asq hi]at an
     rw[kn,asp (by rw[<-s1.rel.len];omega)]at bK
     exact .inl (.inr ⟨i,l,an,az,bK⟩)
    ·rw[asp hi]at an
     cases aP:i-ρ.length with
     |zero=>simp[aP]at an;subst an;exact(nz b az).2.2
     |succ n=>simp[aP]at an
  have ct:=Step.fresh s1.rel cr.os cr.tape cr.output cr.size e1 false ob loc (fun b ae=>⟨(nz b ae).1,(nz b ae).2.1⟩)
   (z7 aw b1 (fun b _=>rfl) fun x u af=>af.mono fun b _ ar=>⟨rfl,fun ae=>ar (bc b ae)⟩)
  refine⟨_,_,ρ++[loc],u,rfl,hA,by rw[fu];exact s1.trans ct, ?_⟩
  rw[fu,cf]
  refine .cM ⟨loc, ?_, ?_⟩
  ·rw[atC (by rw[s1.rel.len];omega),s1.rel.len];simp
  ·rw[gw,asq rfl];exact hu
 replace ab:CD t (fun ob=>K (.vec (bN (b7 own args))) (dV (b7 own args) [(false,ob)])) x own':=ab
 unfold CD at ab
 cases x with
 |vec id=>
  simp only at ab
  split at ab
  ·rename_i g1 g2
   obtain⟨loc,dg,hu,zc⟩:=af
   refine fin loc (ad.at own' id) ?_ (fun b ae=> ?_) (bx.ob id loc dg) ab ⟨hu,zc⟩
   ·cases aH:ad.at own' id<;>rw[aH]at g2<;>first|rfl|cases g2
   ·have fm:fU ρ' own' b:=⟨id,loc,dg,ae,g1⟩
    refine⟨?_,bx.lt id loc b dg ae, .inr fm⟩
    rcases cr.alive b fm with⟨i,l,an,_⟩|h
    ·simp at an
    ·exact h
  ·exact ab.elim
 |emp=>
  obtain⟨a,hu⟩:=af
  simp only at ab
  split at ab
  ·rename_i k
   exact fin ⟨a,0,none⟩ (.ints k []) rfl (fun b ae=>by cases ae) (Or.inl ⟨rfl,rfl⟩) ab ⟨hu,fun _=>rfl⟩
  ·rename_i aj
   exact fin ⟨a,0,none⟩ (.rows aj []) rfl (fun b ae=>by cases ae) (Or.inl ⟨rfl,rfl⟩) ab ⟨hu,fun _=>rfl⟩
  ·exact ab.elim
 |_=>exact ab.elim
end
def lr (S:List J->Option (Prop×ad)):List J->(ad->Prop)->Prop:=fun args K=>match S args with|some (p,r)=>p/\K r|none=>False
theorem ahj (S:List J->Option (Prop×ad)):mr (lr S):=by
 refine⟨fun args K K' ab h=> ?_,fun args K h=> ?_⟩
 ·unfold lr at h⊢
  split
  ·rename_i he;rw[he]at h;exact⟨h.1,ab _ h.2⟩
  ·rename_i he;rw[he]at h;exact h
 ·unfold lr at h
  split at h
  ·exact⟨_,h.2⟩
  ·exact h.elim
def CF (K:ad->Prop):ad->Prop
 | .ints k l=>∀x:List Int,x=l->K (.ints k x)
 | .rows k l=>∀x:List (List R),x=l->K (.rows k x)
 |o=>K o
def xC (T:List J->(ad->Prop)->Prop):List J->(ad->Prop)->Prop:=fun args K=>T args fun r=>CF K r
theorem Fj (T:List J->(ad->Prop)->Prop):xC T=T:=by
 funext args K
 unfold xC
 congr 1
 funext r
 exact propext (by cases r<;>simp[CF])
theorem V5 {T:List J->(ad->Prop)->Prop}(h:mr T):mr (xC T):=by rw[Fj];exact h
end Go.bG
end
section
namespace Go.bG
def qi (ps:List aO)(T:List J->(ad->Prop)->Prop):e3:=fun args own K=>
 match Nat.beq (bN ps) (bN args),dq J.plain (aO.dF own ps args)with
 |true,true=>T (aO.dF own ps args) fun ob=>K (.ptr (bN (b7 own args)) 0) (dV (b7 own args) [(false,ob)])
 |_,_=>False
theorem V6 {ps:List aO}{T:List J->(ad->Prop)->Prop}(h:mr T):fw (qi ps T):=by
 refine⟨fun args own K K' ab bj=> ?_,fun args own K bj=> ?_⟩
 ·unfold qi at bj⊢
  split
  ·rename_i U aa
   rw[U,aa]at bj
   exact h.1 _ _ _ (fun r ak=>ab _ _ ak) bj
  ·rename_i af
   split at bj
   ·rename_i U aa;exact(af U aa).elim
   ·exact bj
 ·unfold qi at bj
  split at bj
  ·obtain⟨r,ak⟩:=h.2 _ _ bj
   exact⟨_,_,ak⟩
  ·exact bj.elim
def DE (K:ad->Prop)(v:J)(own:aB):Prop:=
 match v with
 | .ptr id off=>(match Nat.beq off 0,frozenAt own id,(ad.at own id).plain with|true,false,true=>K (ad.at own id)|_,_,_=>False)
 |_=>False
section
variable {P:Program}
theorem V9 (E:Env)(dj:hT P E)
 {f:FuncId} {fn:Func} {c:Code} (aQ:P.funcs[f]? =some fn) (ae:fn.body=some c) (ar:(fn.name== "runtime.NumGoroutine")=false) {r:Tmp} (ak:fn.results=[ResultVar.tmp r].toArray)
 {ps:List aO} {T:List J->(ad->Prop)->Prop} (gj:∀args K,T args K->l0 E fn.ntmps [.tmp r] c args [] (DE K)):e6 P f (qi ps T):=by
 refine⟨⟨fn,aQ,by rw[ae];rfl,ar⟩, ?_⟩
 intro N ρ own w args vals K h aH aq aC
 unfold qi at h
 split at h
 rotate_left
 ·exact h.elim
 rename_i U aa
 have hlen:ps.length=args.length:=by have:=ast U;rwa [cf,cf]at this
 obtain⟨s1,s2,m7,lR⟩:=nX args own aH
 have xZ:=pZ own ps args hlen
 have hs:b4 (aI N ρ (b7 own args)) [] [] w:=
  {len:=rfl
   fE:=fun b ae=>by
    rcases ae with ae|⟨i,loc,an,az,_⟩
    ·exact aH.fE b ae
    ·exact aH.lt i loc b an az
   lt:=fun i loc b e=>by simp at e
   inj:=fun i j li b9 b e=>by simp at e
   fr:=fun i loc b e=>by simp at e
   ob:=fun i loc e=>by simp at e}
 have fA:∀i,i<(aO.dF own ps args).length->bz (aI (aI N ρ (b7 own args)) [] []) w [] [] ((aO.dF own ps args).getD i .un) (vals.getD i undef):=fun i hi=>by
  obtain⟨t,e⟩:=p0 own ps args hlen i (by omega)
  have aw:=ns aa .un i hi
  rw[e]at aw⊢
  have bo:=oO s1.rel s2 t aw (s1.km (aC i (by omega))) fun id aM=>lR i id (by omega) aM
  refine .gB (oN aw bo fun x u af=>af.mono fun b _ bc=>⟨rfl,fun cS=> ?_⟩)
  rcases cS with cS|⟨j,loc,an,_⟩
  ·exact bc cS
  ·simp at an
 refine(wT E dj aQ ae ak (gj _ _ h) hs (by omega) fA).mono ?_
 rintro e w' ⟨rs,own',ρ',aG,rfl,cj,db,ab,bx,cr,hY⟩
 have e1:∀b,b<w.heap.size->w'.heap[b]? =w.heap[b]? :=fun b ae=>cr.e1 b ae fun⟨i,loc,an,_⟩=>by simp at an
 simp only[atZ,atj]at cj db⊢
 match rs,aG,cj,db with
 |[x],[u],_,_=>
 have af:bz (aI (aI N ρ (b7 own args)) ρ' own') w' ρ' own' x u:=hY 0
 have fin:∀(loc:Loc) (ob:ad),ob.plain=true->(∀b,loc.bO=some b->w.heap.size<=b/\b<w'.heap.size/\aI (aI N ρ (b7 own args)) ρ' own' b)->hD (aI (aI N ρ (b7 own args)) ρ' own') w' ρ' own' loc ob->
  K (.ptr (bN (b7 own args)) 0) (dV (b7 own args) [(false,ob)])->(∃b,loc.a=some ⟨b,0,none⟩/\loc.bO=some b/\u= .pointer (some ⟨b,0,none⟩))->
  ∃r fK kr v,Ending.returned (List.getD [u] 0 undef)= .returned v/\K r fK/\Step N ρ own w kr fK w'/\bz (aI N kr fK) w' kr fK r v:=by
  intro loc ob aw nz b1 hA hu
  have bc:∀b,aI N (ρ++[loc]) (b7 own args++[(false,ob)]) b->aI (aI N ρ (b7 own args)) ρ' own' b:=fun b ae=>by
   rcases ae with ae|⟨i,l,an,az,bK⟩
   ·exact .inl (.inl ae)
   ·rw[asS]at an
    by_cases hi:i<ρ.length
    ·rw[asq hi]at an
     rw[kn,asp (by rw[<-s1.rel.len];omega)]at bK
     exact .inl (.inr ⟨i,l,an,az,bK⟩)
    ·rw[asp hi]at an
     cases aP:i-ρ.length with
     |zero=>simp[aP]at an;subst an;exact(nz b az).2.2
     |succ n=>simp[aP]at an
  have ct:=Step.fresh s1.rel cr.os cr.tape cr.output cr.size e1 false ob loc (fun b ae=>⟨(nz b ae).1,(nz b ae).2.1⟩)
   (z7 aw b1 (fun b _=>rfl) fun x u af=>af.mono fun b _ ar=>⟨rfl,fun ae=>ar (bc b ae)⟩)
  refine⟨_,_,ρ++[loc],u,rfl,hA,by rw[fu];exact s1.trans ct, ?_⟩
  rw[fu,cf]
  obtain⟨b,j2,kB,ds⟩:=hu
  refine .cM ⟨loc,b, ?_,j2,kB,ds⟩
  rw[atC (by rw[s1.rel.len];omega),s1.rel.len];simp
 replace ab:DE (fun ob=>K (.ptr (bN (b7 own args)) 0) (dV (b7 own args) [(false,ob)])) x own':=ab
 unfold DE at ab
 cases x with
 |ptr id off=>
  simp only at ab
  split at ab
  ·rename_i g1 g2 g3
   obtain rfl:=ast g1
   obtain⟨loc,bW,dg,aC,sa,hu⟩:=af
   refine fin loc (ad.at own' id) ?_ (fun b ae=> ?_) (bx.ob id loc dg) ab ⟨bW,aC,sa,hu⟩
   ·exact g3
   ·have fm:fU ρ' own' b:=⟨id,loc,dg,ae,g2⟩
    refine⟨?_,bx.lt id loc b dg ae, .inr fm⟩
    rcases cr.alive b fm with⟨i,l,an,_⟩|h
    ·simp at an
    ·exact h
  ·exact ab.elim
 |_=>exact ab.elim
end
def BV (K:ad->Prop):ad->Prop
 | .cells l=>l7 (fun t=>K (.cells t)) l
 | .ints k l=>∀x:List Int,x=l->K (.ints k x)
 | .rows k l=>∀x:List (List R),x=l->K (.rows k x)
 | .map a b c=>K (.map a b c)
 | .dead a b=>K (.dead a b)
 | .gone=>K .gone
theorem L1 (K:ad->Prop)(o:ad):BV K o↔K o:=by
 cases o<;>simp[BV,AP]
def xD (T:List J->(ad->Prop)->Prop):List J->(ad->Prop)->Prop:=fun args K=>T args fun r=>BV K r
theorem Fk (T:List J->(ad->Prop)->Prop):xD T=T:=by
 funext args K
 unfold xD
 congr 1
 funext r
 exact propext (L1 K r)
theorem V7 {T:List J->(ad->Prop)->Prop}(h:mr T):mr (xD T):=by rw[Fk];exact h
def s8 (T:J->ad->List J->(ad->J->Prop)->Prop):J->ad->List J->(ad->J->Prop)->Prop:=fun a o args K=>T a o args fun bZ r=>BV (fun aaX=>CE (fun lV=>K aaX lV) r) bZ
theorem w5 (T:J->ad->List J->(ad->J->Prop)->Prop):s8 T=T:=by
 funext a o args K
 unfold s8
 congr 1
 funext bZ r
 exact propext ((L1 _ bZ).trans (MJ _ r))
theorem NC {T:J->ad->List J->(ad->J->Prop)->Prop}(h:jB T):jB (s8 T):=by rw[w5];exact h
end Go.bG
end
section
namespace Go.bG
theorem U0 {ps:List aO}{T:List J->(J->Prop)->Prop}(h:jA T):fw (kK ps T):=by
 refine⟨fun args own K K' ab bj=> ?_,fun args own K bj=> ?_⟩
 ·unfold kK at bj⊢
  split
  ·rename_i U aa
   rw[U,aa]at bj
   exact h.1 _ _ _ (fun r ak=>ab _ _ ak) bj
  ·rename_i af
   split at bj
   ·rename_i U aa;exact(af U aa).elim
   ·exact bj
 ·unfold kK at bj
  split at bj
  ·obtain⟨r,ak⟩:=h.2 _ _ bj
   exact⟨_,_,ak⟩
  ·exact bj.elim
def x0:J->Bool
 | .d (.int _ _)=>true
 | .d (.bool _)=>true
 | .d (.str _)=>true
 | .bt=>true
 | .bf=>true
 |_=>false
def tr:J->J
 | .bt=> .d (.bool true)
 | .bf=> .d (.bool false)
 |v=>v
def QR:J->Bool
 | .tup l=>dq x0 l
 |v=>x0 v
def QS:J->J
 | .tup l=> .tup (lmap tr l)
 |v=>tr v
def GZ (K:J->Prop)(v:J)(_:aB):Prop:=match QR v with|true=>K (QS v)|false=>False
theorem wU {Z Z':Nat->Prop}{w w':World}{ρ ρ':List Loc}{own own':aB}{v:J}{u:Value}(ao:x0 v=true)(h:bz Z w ρ own v u):dE Z' w' ρ' own' (tr v) u:=by
 cases v with
 |d x=>
  cases x with
  |int k n=>have h:Reads Z w _ u:=h;cases h;exact Reads.int _ _
  |bool b=>have h:Reads Z w _ u:=h;cases h;exact Reads.bool _
  |str l=>have h:Reads Z w _ u:=h;cases h;rename_i s e;exact Reads.str _ _ e
  |_=>cases ao
 |bt=>have h:u= .bool true:=h;subst h;exact Reads.bool _
 |bf=>have h:u= .bool false:=h;subst h;exact Reads.bool _
 |_=>cases ao
section
variable {P:Program}
theorem U4 (E:Env)(dj:hT P E)
 {f:FuncId} {fn:Func} {c:Code} (aQ:P.funcs[f]? =some fn) (ae:fn.body=some c) (ar:(fn.name== "runtime.NumGoroutine")=false) {rvs:List ResultVar} (ak:fn.results=rvs.toArray)
 {ps:List aO} {T:List J->(J->Prop)->Prop} (gj:∀args K,T args K->l0 E fn.ntmps rvs c args [] (GZ K)):e6 P f (kK ps T):=by
 refine⟨⟨fn,aQ,by rw[ae];rfl,ar⟩, ?_⟩
 intro N ρ own w args vals K h aH aq aC
 unfold kK at h
 split at h
 rotate_left
 ·exact h.elim
 rename_i U aa
 have hlen:ps.length=args.length:=by have:=ast U;rwa [cf,cf]at this
 obtain⟨s1,s2,m7,lR⟩:=nX args own aH
 have xZ:=pZ own ps args hlen
 have hs:b4 (aI N ρ (b7 own args)) [] [] w:=
  {len:=rfl
   fE:=fun b ae=>by
    rcases ae with ae|⟨i,loc,an,az,_⟩
    ·exact aH.fE b ae
    ·exact aH.lt i loc b an az
   lt:=fun i loc b e=>by simp at e
   inj:=fun i j li b9 b e=>by simp at e
   fr:=fun i loc b e=>by simp at e
   ob:=fun i loc e=>by simp at e}
 have fA:∀i,i<(aO.dF own ps args).length->bz (aI (aI N ρ (b7 own args)) [] []) w [] [] ((aO.dF own ps args).getD i .un) (vals.getD i undef):=fun i hi=>by
  obtain⟨t,e⟩:=p0 own ps args hlen i (by omega)
  have aw:=ns aa .un i hi
  rw[e]at aw⊢
  have bo:=oO s1.rel s2 t aw (s1.km (aC i (by omega))) fun id aM=>lR i id (by omega) aM
  refine .gB (oN aw bo fun x u af=>af.mono fun b _ bc=>⟨rfl,fun cS=> ?_⟩)
  rcases cS with cS|⟨j,loc,an,_⟩
  ·exact bc cS
  ·simp at an
 refine(wT E dj aQ ae ak (gj _ _ h) hs (by omega) fA).mono ?_
 rintro e w' ⟨rs,own',ρ',aG,rfl,cj,db,ab,bx,cr,hY⟩
 have hold:Step N ρ own w ρ own w':=Step.more aH cr.os cr.tape cr.output cr.size fun b ae=>cr.e1 b ae fun⟨i,loc,an,_⟩=>by simp at an
 unfold GZ at ab
 split at ab
 rotate_left
 ·exact ab.elim
 rename_i mn
 refine⟨_,_,ρ,_,rfl,ab,hold, ?_⟩
 by_cases U:rvs.length=1
 ·rw[asq U]
  match rs,aG,(by omega:rs.length=1),(by omega:aG.length=1)with
  |[x],[u],_,_=>
   have af:bz _ w' ρ' own' x u:=hY 0
   have mn:QR x=true:=mn
   show bz _ w' ρ own (QS x) u
   cases x with
   |tup l=>
    obtain⟨a,rfl,g1,g2⟩:=af
    have mn:dq x0 l=true:=mn
    refine⟨a,rfl,by rw[c5];simpa using g1,fun i hi=> ?_⟩
    have hi:i<l.length:=by rw[c5]at hi;simpa using hi
    have:=wU (Z':=aI N ρ own) (w':=w') (ρ':=ρ) (own':=own) (ns mn .un i hi) (.gB (g2 i hi))
    have eL:(lmap tr l).getD i .un=tr (l.getD i .un):=by rw[c5];simp[ass,hi]
    rw[eL];exact .cM this
   |d y=>exact .cM (wU (v:= .d y) mn af)
   |bt=>exact .cM (wU (v:= .bt) rfl af)
   |bf=>exact .cM (wU (v:= .bf) rfl af)
   |_=>cases mn
 ·rw[asp U]
  have an:one rs= .tup rs:=by
   match rs,cj with
   |[],_=>rfl
   |[x],cj=>exact absurd cj.symm U
   |_::_::_,_=>rfl
  rw[an]at mn⊢
  have mn:dq x0 rs=true:=mn
  refine⟨aG.toArray,rfl,by rw[c5];simp;omega,fun i hi=> ?_⟩
  have hi:i<rs.length:=by rw[c5]at hi;simpa using hi
  have aw:=ns mn .un i hi
  have:=wU (Z':=aI N ρ own) (w':=w') (ρ':=ρ) (own':=own) aw (hY i)
  have cm:aG.toArray.getD i undef=aG.getD i undef:=by simp[asA,ass]
  have eL:(lmap tr rs).getD i .un=tr (rs.getD i .un):=by rw[c5];simp[ass,hi]
  rw[cm,eL];exact .cM this
end
end Go.bG
namespace Go.bG
theorem V4 {T:List J->(J->Prop)->Prop}(h:jA T):jA (named T):=FV h
def kL {ι:Type}(S:J->ad->List J->Option (Prop×(ι->Prop)×(ι->ad)×(ι->J))):J->ad->List J->(ad->J->Prop)->Prop:=fun a o args K=>match S a o args with|some (p,bp,f,g)=>p/\∀i,bp i->K (f i) (g i)|none=>False
theorem wY {ι:Type}(S:J->ad->List J->Option (Prop×(ι->Prop)×(ι->ad)×(ι->J)))(h:∀a o args p bp f g,S a o args=some (p,bp,f,g)->p->∃i,bp i):jB (kL S):=by
 refine⟨fun a o args K K' ab bj=> ?_,fun a o args K bj=> ?_⟩
 ·unfold kL at bj⊢
  split
  ·rename_i he;rw[he]at bj;exact⟨bj.1,fun i hi=>ab _ _ (bj.2 i hi)⟩
  ·rename_i he;rw[he]at bj;exact bj
 ·unfold kL at bj
  split at bj
  ·rename_i he
   obtain⟨i,hi⟩:=h _ _ _ _ _ _ _ he bj.1
   exact⟨_,_,bj.2 i hi⟩
  ·exact bj.elim
end Go.bG
end
section
namespace Go.bG
def p_ (ps:List aO)(T:ad->List J->(ad->Prop)->Prop):e3:=fun args own K=>
 match args with
 | .vec id::rest=>
  match frozenAt (b7 own rest) id,ad.at own id,Nat.beq (bN ps) (bN rest),dq J.plain (aO.dF own ps rest)with
  |false, .rows aj l,true,true=>T (.rows aj l) (aO.dF own ps rest) fun ob=>K (.vec (bN own)) (dV (cH (b7 own rest) id (true, .dead l.length aj)) [(false,ob)])
  |_,_,_,_=>False
 |_=>False
def wa (T:ad->List J->(ad->Prop)->Prop):Prop:=
 (∀o args (K K':ad->Prop),(∀r,K r->K' r)->T o args K->T o args K')/\∀o args K,T o args K->∃r,K r
theorem U2 {ps:List aO}{T:ad->List J->(ad->Prop)->Prop}(h:wa T):fw (p_ ps T):=by
 refine⟨fun args own K K' ab bj=> ?_,fun args own K bj=> ?_⟩
 ·unfold p_ at bj⊢
  split
  ·rename_i id rest
   simp only at bj⊢
   split
   ·rename_i aj l U aa al aL
    rw[U,aa,al,aL]at bj
    exact h.1 _ _ _ _ (fun r ak=>ab _ _ ak) bj
   ·rename_i af
    split at bj
    ·rename_i aj l U aa al aL;exact(af aj l U aa al aL).elim
    ·exact bj
  ·rename_i af
   split at bj
   ·exact(af _ _ rfl).elim
   ·exact bj
 ·unfold p_ at bj
  split at bj
  ·split at bj
   ·obtain⟨r,ak⟩:=h.2 _ _ _ bj
    exact⟨_,_,ak⟩
   ·exact bj.elim
  ·exact bj.elim
def C8 (K:ad->Prop)(v:J)(own:aB):Prop:=
 match v with
 | .vec j=>(match frozenAt own j,ad.at own j with|false, .rows aj l=>K (.rows aj l)|_,_=>False)
 |_=>False
section
variable {P:Program}
theorem U6 (E:Env)(dj:hT P E)
 {f:FuncId} {fn:Func} {c:Code} (aQ:P.funcs[f]? =some fn) (ae:fn.body=some c) (ar:(fn.name== "runtime.NumGoroutine")=false) {r:Tmp} (ak:fn.results=[ResultVar.tmp r].toArray)
 {ps:List aO} {T:ad->List J->(ad->Prop)->Prop} (gj:∀aj l args K,T (.rows aj l) args K->l0 E fn.ntmps [.tmp r] c (.vec 0::args) [(false, .rows aj l)] (C8 K)):e6 P f (p_ ps T):=by
 refine⟨⟨fn,aQ,by rw[ae];rfl,ar⟩, ?_⟩
 intro N ρ own w args vals K h aH aq aC
 unfold p_ at h
 split at h
 rotate_left
 ·exact h.elim
 rename_i id rest
 split at h
 rotate_left
 ·exact h.elim
 rename_i aj l U aa al aL
 have hlen:ps.length=rest.length:=by have:=ast al;rwa [cf,cf]at this
 obtain⟨s1,s2,m7,lR⟩:=nX rest own aH
 have e9:(b7 own rest).length=own.length:=by rw[<-s1.rel.len,aH.len]
 generalize Qy:b7 own rest=cx at*
 have qt:id<cx.length:=by
  rcases Nat.lt_or_ge id cx.length with h|h
  ·exact h
  ·rw[Qk _ _ h]at U;cases U
 have G0:id<ρ.length:=by rw[s1.rel.len];exact qt
 have dg:ρ[id]? =some ρ[id]:=by simp[G0]
 have yw:ad.at cx id= .rows aj l:=by rw[s2,aa]
 have xZ:=pZ own ps rest hlen
 have D5:bz (aI N ρ own) w ρ own (.vec id) (vals.getD 0 undef):=by simpa using aC 0 (by simp)
 have yx:=s1.km D5
 have mQ:=s1.rel.ob id _ dg
 rw[yw]at mQ
 have iu:∀b,ρ[id].bO=some b->aI N ρ cx b:=fun b ae=> .inr ⟨id,ρ[id],dg,ae,U⟩
 have xW:∀b,aI (fun b=>aI N ρ cx b/\ρ[id].bO≠some b) [ρ[id]] [(false, .rows aj l)] b->aI N ρ cx b:=fun b ae=>by
  rcases ae with ae|⟨i,loc,an,az,_⟩
  ·exact ae.1
  ·cases i with
   |zero=>simp at an;subst an;exact iu b az
   |succ i=>simp at an
 have s_:∀x u,Reads (aI N ρ cx) w x u->Reads (aI (fun b=>aI N ρ cx b/\ρ[id].bO≠some b) [ρ[id]] [(false, .rows aj l)]) w x u:=
  fun x u af=>af.mono fun b _ bc=>⟨rfl,fun cS=>bc (xW b cS)⟩
 have hs:b4 (fun b=>aI N ρ cx b/\ρ[id].bO≠some b) [ρ[id]] [(false, .rows aj l)] w:=
  {len:=rfl
   fE:=fun b ae=>by
    rcases ae.1 with ae|⟨i,loc,an,az,_⟩
    ·exact aH.fE b ae
    ·exact aH.lt i loc b an az
   lt:=fun i loc b an az=>by
    cases i with
    |zero=>simp at an;subst an;exact aH.lt id _ b dg az
    |succ i=>simp at an
   inj:=fun i j li b9 b an az _ _ _ _=>by
    cases i with
    |zero=>cases j with
     |zero=>rfl
     |succ j=>simp at az
    |succ i=>simp at an
   fr:=fun i loc b an az ae=>by
    cases i with
    |zero=>simp at an;subst an;exact ae.2 az
    |succ i=>simp at an
   ob:=fun i loc an=>by
    cases i with
    |zero=>simp at an;subst an;exact z7 (ob:= .rows aj l) rfl mQ (fun _ _=>rfl) s_
    |succ i=>simp at an}
 have fA:∀i,i<(J.vec 0::aO.dF own ps rest).length->bz (aI (fun b=>aI N ρ cx b/\ρ[id].bO≠some b) [ρ[id]] [(false, .rows aj l)]) w [ρ[id]] [(false, .rows aj l)] ((J.vec 0::aO.dF own ps rest).getD i .un) (vals.getD i undef):=fun i hi=>by
  cases i with
  |zero=>
   obtain⟨loc,an,az,nO⟩:=yx
   rw[dg]at an
   obtain rfl:=asB an
   exact .cM ⟨ρ[id],rfl,by rw[az,yw];rfl,nO⟩
  |succ i=>
   have hi:i<(aO.dF own ps rest).length:=by simpa using hi
   obtain⟨t,e⟩:=p0 own ps rest hlen i (by omega)
   have aw:=ns aL .un i hi
   have tO:=s1.km (aC (i+1) (by simp;omega))
   simp only[List.getD_cons_succ]at tO⊢
   rw[e]at aw⊢
   exact .gB (oN aw (oO s1.rel s2 t aw tO fun j aM=>lR i j (by omega) aM) s_)
 refine(wT E dj aQ ae ak (gj _ _ _ _ h) hs (by simp at aq⊢;omega) fA).mono ?_
 rintro e w' ⟨rs,own',ρ',aG,rfl,cj,db,ab,bx,cr,hY⟩
 simp only[atZ,atj]at cj db⊢
 match rs,aG,cj,db with
 |[x],[u],gD,ha=>
 clear gD ha
 have af:bz (aI (fun b=>aI N ρ cx b/\ρ[id].bO≠some b) ρ' own') w' ρ' own' x u:=hY 0
 replace ab:C8 (fun ob=>K (.vec (bN own)) (dV (cH cx id (true, .dead l.length aj)) [(false,ob)])) x own':=ab
 unfold C8 at ab
 have aK:∃j,x= .vec j:=by cases x<;>first|exact⟨_,rfl⟩|exact ab.elim
 obtain⟨j,rfl⟩:=aK
 simp only at ab
 split at ab
 rotate_left
 ·exact ab.elim
 rename_i hK c2 g1 g2
 obtain⟨b9,jY,hu,zc⟩:=af
 rw[g2]at hu
 have Rt:=bx.ob j b9 jY
 rw[g2]at Rt
 have vw:∃kC:Loc,kC.a=b9.a/\kC.cap=b9.cap/\(∀b,kC.bO=some b->(ρ[id].bO=some b\/w.heap.size<=b)/\b<w'.heap.size/\aI (fun b=>aI N ρ cx b/\ρ[id].bO≠some b) ρ' own' b)/\
  ∀Z' fg me,(∀x u,Reads (aI (fun b=>aI N ρ cx b/\ρ[id].bO≠some b) ρ' own') w' x u->Reads Z' w' x u)->hD Z' w' fg me kC (.rows hK c2):=by
  rcases Rt with⟨q1,cb⟩|⟨b,aG,e,aU,a_,bF,di,eB,oL,hb⟩
  ·exact⟨⟨b9.a,b9.cap,none⟩,rfl,rfl,fun b ae=>(by cases ae),fun Z' fg me _=> .inl ⟨q1,cb⟩⟩
  ·have fm:fU ρ' own' b:=⟨j,b9,jY,a_,g1⟩
   refine⟨b9,rfl,rfl,fun cF dr=> ?_,fun Z' fg me ak=> .inr ⟨b,aG,e,aU,a_,bF,di,eB,oL,fun q c aN ay=> ?_⟩⟩
   ·rw[a_]at dr
    obtain rfl:=asB dr
    refine⟨?_,bx.lt j b9 b jY a_, .inr fm⟩
    rcases cr.alive b fm with⟨i,li,an,az,_⟩|h
    ·cases i with
     |zero=>simp at an;subst an;exact .inl az
     |succ i=>simp at an
    ·exact .inr h
   ·obtain⟨v,aM,pv⟩:=hb q c aN ay
    exact⟨v,aM,ak _ _ pv⟩
 obtain⟨kC,Ej,SN,yA,aaY⟩:=vw
 have QT:=s1.rel.len
 have cg:∀i,ad.at (cx.set id (true, .dead l.length aj)++[(false, .rows hK c2)]) i=if i=cx.length then .rows hK c2 else if i=id then .dead l.length aj else ad.at cx i:=fun i=>by
  rw[gw,asJ]
  split
  ·rfl
  ·rw[gx]
   by_cases e:i=id
   ·subst e;rw[asq ⟨rfl,qt⟩,asq rfl]
   ·rw[asp (fun x=>e x.1.symm),asp e]
 have dy:∀i,frozenAt (cx.set id (true, .dead l.length aj)++[(false, .rows hK c2)]) i=if i=cx.length then false else if i=id then true else frozenAt cx i:=fun i=>by
  rw[kn,asJ]
  split
  ·rfl
  ·rw[hS]
   by_cases e:i=id
   ·subst e;rw[asq ⟨rfl,qt⟩,asq rfl]
   ·rw[asp (fun x=>e x.1.symm),asp e]
 have get:∀i li,(ρ++[kC])[i]? =some li->(i=cx.length/\li=kC)\/(i<cx.length/\ρ[i]? =some li):=fun i li hi=>by
  rw[asS]at hi
  split at hi
  ·exact .inr ⟨by omega,hi⟩
  ·cases aP:i-ρ.length with
   |zero=>simp[aP]at hi;exact .inl ⟨by omega,hi.symm⟩
   |succ m=>simp[aP]at hi
 have rN:∀i,i<cx.length->¬gE (cx.set id (true, .dead l.length aj)++[(false, .rows hK c2)]) i->i≠id/\¬gE cx i:=fun i hi ao=>by
  have cV:i≠id:=fun e=>ao ⟨by rw[dy,asp (by omega),asq e],l.length,aj,by rw[cg,asp (by omega),asq e]⟩
  exact⟨cV,fun⟨f,m,s,e⟩=>ao ⟨by rw[dy,asp (by omega),asp cV];exact f,m,s,by rw[cg,asp (by omega),asp cV];exact e⟩⟩
 have apart:∀i li b,i<cx.length->i≠id->¬gE cx i->ρ[i]? =some li->li.bO=some b->ρ[id].bO≠some b:=fun i li b _ cV ao hi ae dr=>cV (s1.rel.inj i id li _ b hi dg ae dr ao (np U))
 have BU:∀b,fU (ρ++[kC]) (cx.set id (true, .dead l.length aj)++[(false, .rows hK c2)]) b->fU ρ cx b\/w.heap.size<=b:=fun b ⟨i,li,aU,a_,bF⟩=>by
  rcases get i li aU with⟨rfl,rfl⟩|⟨hi,aU⟩
  ·rcases(yA b a_).1 with ae|ae
   ·exact .inl ⟨id,_,dg,ae,U⟩
   ·exact .inr ae
  ·rw[dy,asp (by omega)]at bF
   split at bF
   ·cases bF
   ·exact .inl ⟨i,li,aU,a_,bF⟩
 have rM:∀x,x<w.heap.size->ρ[id].bO≠some x->w'.heap[x]? =w.heap[x]? :=fun x af cV=>cr.e1 x af fun⟨i,li,aU,a_,_⟩=>by
  cases i with
  |zero=>simp at aU;subst aU;exact cV a_
  |succ i=>simp at aU
 have yz:Fr ρ cx w (ρ++[kC]) (cx.set id (true, .dead l.length aj)++[(false, .rows hK c2)]) w':=
  ⟨cr.os,cr.tape,cr.output,cr.size,fun x af vP=>rM x af fun ae=>vP ⟨id,_,dg,ae,U⟩,BU⟩
 have ey:∀i,eg ρ cx (ρ++[kC]) (cx.set id (true, .dead l.length aj)++[(false, .rows hK c2)]) i:=fun i li hi=>by
  have dH:=s1.rel.jz hi
  refine⟨by rw[atp (by omega)];exact hi, ?_⟩
  rw[cg,asp (by omega)]
  by_cases e:i=id
  ·subst e;rw[asq rfl,yw];exact⟨rfl,rfl⟩
  ·rw[asp e];exact⟨rfl,rfl⟩
 have ot:∀b,aI N (ρ++[kC]) (cx.set id (true, .dead l.length aj)++[(false, .rows hK c2)]) b->aI (fun b=>aI N ρ cx b/\ρ[id].bO≠some b) ρ' own' b:=fun b ae=>by
  rcases ae with ae|⟨i,li,aU,a_,bF⟩
  ·exact .inl ⟨.inl ae,fun e=>aH.fr id _ b dg e ae⟩
  ·rcases get i li aU with⟨rfl,rfl⟩|⟨hi,aU⟩
   ·exact(yA b a_).2.2
   ·rw[dy,asp (by omega)]at bF
    split at bF
    ·cases bF
    ·rename_i cV
     exact .inl ⟨.inr ⟨i,li,aU,a_,bF⟩,apart i li b hi cV (np bF) aU a_⟩
 have G1:b4 N (ρ++[kC]) (cx.set id (true, .dead l.length aj)++[(false, .rows hK c2)]) w':=
  {len:=by simp[QT]
   fE:=fun b ae=>asR (aH.fE b ae) cr.size
   lt:=fun i li b hi ae=>by
    rcases get i li hi with⟨_,rfl⟩|⟨_,hi⟩
    ·exact(yA b ae).2.1
    ·exact asR (aH.lt i li b hi ae) cr.size
   inj:=fun i j li b9 b hi aK mo mq jF k8=>by
    have one:∀j b9,j<cx.length->ρ[j]? =some b9->b9.bO=some b->kC.bO=some b->¬gE (cx.set id (true, .dead l.length aj)++[(false, .rows hK c2)]) j->False:=fun j b9 jT mV mq DT k8=>by
     obtain⟨ec,gC⟩:=rN j jT k8
     rcases(yA b DT).1 with ae|ae
     ·exact apart j b9 b jT ec gC mV mq ae
     ·have:=aH.lt j b9 b mV mq;omega
    rcases get i li hi with⟨an,It⟩|⟨mf,vX⟩<;>rcases get j b9 aK with⟨az,Iu⟩|⟨jT,mV⟩
    ·omega
    ·exact(one j b9 jT mV mq (It▸mo) k8).elim
    ·exact(one i li mf vX mo (Iu▸mq) jF).elim
    ·exact s1.rel.inj i j li b9 b vX mV mo mq (rN i mf jF).2 (rN j jT k8).2
   fr:=fun i li b hi ae j5=>by
    rcases get i li hi with⟨_,rfl⟩|⟨_,hi⟩
    ·rcases(yA b ae).1 with ae|ae
     ·exact aH.fr id _ b dg ae j5
     ·have:=aH.fE b j5;omega
    ·exact aH.fr i li b hi ae j5
   ob:=fun i li hi=>by
    rw[cg]
    rcases get i li hi with⟨rfl,rfl⟩|⟨mf,hi⟩
    ·rw[asq rfl]
     exact aaY _ _ _ fun x u af=>af.mono fun y _ bc=>⟨rfl,fun cS=>bc (ot y cS)⟩
    ·rw[asp (by omega)]
     split
     ·trivial
     ·rename_i cV
      by_cases sp:gE cx i
      ·obtain⟨_,m,s,e⟩:=sp
       rw[e];trivial
      ·exact(s1.rel.ob i li hi).mono (fun b ae=>rM b (aH.lt i li b hi ae) (apart i li b mf cV sp hi ae)) (fun _ _=>yz.reads) fun _ _ _ idx _ _=>ey idx}
 refine⟨_,_,ρ++[kC],u,rfl,ab,s1.trans ?_, ?_⟩
 ·rw[ep,fu]
  exact{yz with rel:=G1,same:=ey}
 ·rw[ep,fu,cf,<-e9]
  refine .cM ⟨kC,by rw[<-QT];simp, ?_,fun h=>by rw[SN];exact zc (by rw[<-Ej];exact h)⟩
  rw[cg,asq rfl,hu,Ej,SN]
end
def vd (S:ad->List J->Option (Prop×ad)):ad->List J->(ad->Prop)->Prop:=fun o args K=>match S o args with|some (p,r)=>p/\K r|none=>False
theorem ahl (S:ad->List J->Option (Prop×ad)):wa (vd S):=by
 refine⟨fun o args K K' ab h=> ?_,fun o args K h=> ?_⟩
 ·unfold vd at h⊢
  split
  ·rename_i he;rw[he]at h;exact⟨h.1,ab _ h.2⟩
  ·rename_i he;rw[he]at h;exact h
 ·unfold vd at h
  split at h
  ·exact⟨_,h.2⟩
  ·exact h.elim
def xE (T:ad->List J->(ad->Prop)->Prop):ad->List J->(ad->Prop)->Prop:=fun o args K=>T o args fun r=>CF K r
theorem Fl (T:ad->List J->(ad->Prop)->Prop):xE T=T:=by
 funext o args K
 unfold xE
 congr 1
 funext r
 exact propext (by cases r<;>simp[CF])
theorem V8 {T:ad->List J->(ad->Prop)->Prop}(h:wa T):wa (xE T):=by rw[Fl];exact h
end Go.bG
end
section
namespace Go.bG
open Go.RowKit
def GY (k:IntKind)(w:World)(a:Option Addr)(len cap:Nat)(j8:List Int):Prop:=
 (a=none/\len=0/\cap=0/\j8=[])\/
 ∃x,a=some x/\len<=cap/\cap<=maxLen/\j8.length=cap/\(∀i,i<j8.length->w.cell? (x.add i)=some (.int k (j8.getD i 0)))/\∀n∈j8,(Lit.int k n).wf=true
def jk (_:Nat):Prop:=False
theorem E_ {w:World}{a:Addr}{v:Value}(h:w.cell? a=some v):a.spot=none:=by
 unfold World.cell? at h
 split at h
 ·split at h
  ·cases h
  ·rename_i ao
   cases aC:a.spot with
   |none=>rfl
   |some x=>rw[aC]at ao;simp at ao
 ·cases h
theorem af4 {k:IntKind}{w:World}{a:Option Addr}{len cap:Nat}{j8:List Int}(h:GY k w a len cap j8):Reads jk w (.ints k (j8.take len)) (.slice a len cap):=by
 rcases h with⟨rfl,rfl,rfl,rfl⟩|⟨x,rfl,aq,hm,bc,ay,hw⟩
 ·exact .h4 _ _ _
 ·by_cases aE:len=0
  ·subst aE
   rw[List.take_zero]
   exact .h4 _ _ _
  ·have ao:x.spot=none:=by
    have:=ay 0 (by omega)
    exact E_ this
   obtain⟨b,off,sp⟩:=x
   simp only at ao
   subst ao
   refine .ints k _ len b off cap (by rw[asW];omega) (fun h=>h) aq fun i hi=> ?_
   have nL:=ay i (by omega)
   have an:Addr.add ⟨b,off,none⟩ i=⟨b,off+i,none⟩:=by
    unfold Addr.add
    split
    ·rename_i e;subst e;rfl
    ·rfl
   rw[an]at nL
   rw[nL]
   congr 2
   simp only[ass,ath]
   rw[asq hi]
theorem aiE {k:IntKind}{w:World}{a:Option Addr}{len cap:Nat}{j8:List Int}(h:GY k w a len cap j8):∀n∈j8.take len,k.min<=n/\n<=k.max:=fun n ar=>by
 rcases h with⟨rfl,rfl,rfl,rfl⟩|⟨x,rfl,aq,hm,bc,ay,hw⟩
 ·cases ar
 ·have:=hw n (List.mem_of_mem_take ar)
  simpa[Lit.wf]using this
theorem xp {k:IntKind}{n:Int}(h:(Lit.int k n).wf=true):k.min<=n/\n<=k.max:=by simpa[Lit.wf]using h
theorem af5 {P:Program}{f:FuncId}{ps:List aO}{T:List J->(J->Prop)->Prop}(h:e6 P f (gh ps T)){xs:List R}{vals:Array Value}{w:World}
 (bj:gh ps T (lmap .d xs) [] fun r _=>r= .d (.bool true)) (aq:xs.length=vals.size) (aC:∀i,i<xs.length->Reads jk w (xs.getD i .undef) (vals.getD i undef)):
 Calls P f vals w fun e w'=>e= .returned (.bool true)/\Below w.heap.size w w':=by
 have bc:∀b,¬aI jk [] [] b:=fun b ae=>by
  rcases ae with ae|⟨i,loc,an,_⟩
  ·exact ae
  ·simp at an
 have bx:b4 jk [] [] w:=
  {len:=rfl
   fE:=fun b ae=>ae.elim
   lt:=fun i loc b e=>by simp at e
   inj:=fun i j li b9 b e=>by simp at e
   fr:=fun i loc b e=>by simp at e
   ob:=fun i loc e=>by simp at e}
 have Io:(lmap J.d xs).length=xs.length:=by rw[c5,asy]
 refine(h.2 jk [] [] w (lmap .d xs) vals _ bj bx (by rw[Io];exact aq) fun i hi=> ?_).mono ?_
 ·rw[Io]at hi
  have e:(lmap J.d xs).getD i .un= .d (xs.getD i .undef):=by
   rw[c5]
   simp[ass,hi]
  rw[e]
  exact .cM ((aC i hi).mono fun b _ ae=>⟨rfl,bc b⟩)
 ·rintro e w' ⟨r,own',ρ',v,rfl,rfl,ao,aM⟩
  have aM:Reads (aI jk ρ' own') w' (.bool true) v:=aM
  cases aM with
  |bool _=>exact⟨rfl,ao.os,ao.tape,ao.output,ao.size,fun k ab=>ao.e1 k ab fun⟨i,loc,an,_⟩=>by simp at an⟩
end Go.bG
end
section
namespace Go.Proofs
open Go.Shelf Go.RowKit
variable {P:Program} {ρ:Ren}
def kR (T e:TypeId)(b:Nat)(eA:List Value)(w:World)(N:Nat->Prop):Prop:=
 ∃p v,(p= .pointer none\/p= .pointer (some ⟨b,0,none⟩))/\N b/\(∀g,v.ownBlock=some g->N g)/\w.heap[b]? =some (.cells #[p,v] T (0,0))/\w.ownsRow 0 e 1 v eA.length eA/\v.ownBlock≠some b
structure jD (N:Nat->Prop)(w w':World):Prop where
 os:w'.os=w.os
 tape:w'.tape=w.tape
 output:w'.output=w.output
 size:w.heap.size<=w'.heap.size
 e1:∀k,k<w.heap.size->¬N k->w'.heap[k]? =w.heap[k]?
theorem kR.at {T e:TypeId}{b:Nat}{eA:List Value}{w:World}{N:Nat->Prop}(h:kR T e b eA w N):Lib.IsBuilder T e 0 b eA w:=by
 obtain⟨p,v,aw,_,_,ae,aH,ar⟩:=h
 rcases aw with rfl|rfl
 ·exact .inl ⟨atD _,v,ae,aH,ar⟩
 ·exact .inr ⟨atD _,v,ae,aH,ar⟩
theorem kR.e1 {T e:TypeId}{b:Nat}{eA:List Value}{w w':World}{N mx:Nat->Prop}(h:kR T e b eA w N)(j5:∀x,N x->mx x)(ab:∀k,k<w.heap.size->N k->w'.heap[k]? =w.heap[k]?):kR T e b eA w' mx:=by
 obtain⟨p,v,aw,U,aa,ae,aH,ar⟩:=h
 have bB:b<w.heap.size:=(auG.1 ae).1
 refine⟨p,v,aw,j5 _ U,fun g aT=>j5 _ (aa g aT),by rw[ab b bB U];exact ae,⟨aH.1, ?_⟩,ar⟩
 rcases aH.2 with bc|⟨g,cap,cur,rfl,aU,a_,bF⟩
 ·exact .inl bc
 ·exact .inr ⟨g,cap,cur,rfl,aU,by rw[ab g (auG.1 a_).1 (aa g rfl)];exact a_,bF⟩
theorem Ts {w:World}{B:Nat}{e:TypeId}{v:Value}{n:Nat}{xs:List Value}(h:w.ownsRow B e 1 v n xs):w.ownsRow 0 e 1 v n xs:=by
 refine⟨h.1, ?_⟩
 rcases h.2 with bc|⟨g,cap,cur,rfl,_,k⟩
 ·exact .inl bc
 ·exact .inr ⟨g,cap,cur,rfl,atD _,k⟩
theorem Vq {w:World}(t u ty e:TypeId)(i:TypeInfo)(aA:P.underlying t=some (.slice e))(hu:P.underlying u=some .string)(hi:P.info? e=some i)(bc:i.zero=some (.int .u8 0))(rL:i.size=1)(qM:i.bytes=1)
 {v:Value} {n:Nat} {xs:List Value} (eZ:w.ownsRow 0 e 1 v n xs) (s:ByteArray) (ae:n+s.size<=140737488355328):
 ∃cO w',(Builtin.append_ #[t,u] ty #[v, .string s]).run P w= .ok cO w'/\w'.ownsRow 0 e 1 cO (n+s.size) (xs++Lib.strCells s)/\w.grownBy w' v.ownBlock/\∀g,cO.ownBlock=some g->v.ownBlock=some g\/w.heap.size<=g:=by
 have hm:n+s.size<=maxLen:=by unfold maxLen;omega
 rcases eZ.2 with⟨rfl,rfl⟩|⟨g,cap,cur,rfl,_,aT,ar,pr,ca,ajn⟩
 ·obtain⟨cO,w',U,aa,al,_⟩:=Lib.run_append_own_string w w.heap.size t u ty e i aA hu hi bc rL qM _ 0 xs ⟨eZ.1, .inl ⟨rfl,rfl⟩⟩ s hm ae (asz _)
  exact⟨cO,w',U,Ts aa,al,fun g aT=> .inr (aa.lt g aT).1⟩
 ·obtain⟨cO,w',U,aa,al,_⟩:=Lib.run_append_own_string w 0 t u ty e i aA hu hi bc rL qM _ n xs eZ s hm ae (atD _)
  refine⟨cO,w',U,aa,al,fun k ab=> ?_⟩
  have fD:Src P i.size u (.string s) s.size (Lib.strCells s) w:=by rw[rL];exact Src.ofString w hu s
  have tH:xs.length=n:=by simpa using eZ.1
  by_cases ak:n+s.size<=cap
  ·have eI:=run_append_room_src (P:=P) w t u ty e i aA hi g 0 n cap (.string s) s.size (Lib.strCells s) fD ak
    (fun j aK=>by
      rw[Lib.strCells_length]at aK
      rw[Lib.cell_of_heap aT,rL]
      have:0+n*1+j<cur.size:=by omega
      rw[aud this];rfl)
    (fun j _=>Lib.frozen_of_heap aT _)
   rw[eI]at U
   injection U with an _
   rw[<-an]at ab
   exact .inl ab
  ·have hold:(Builtin.firstCells i.size n (.slice (some ⟨g,0,none⟩) n cap)).run P w.drew= .ok xs.toArray w.drew:=by
    rw[rL]
    refine run_firstCells_some w.drew 1 n ⟨g,0,none⟩ n cap xs (by omega) fun j x aK=> ?_
    exact eZ.cells (g:=g) rfl j x aK
   have eI:=run_append_grow_src (P:=P) w t u ty e i (.int .u8 0) aA hi bc (some ⟨g,0,none⟩) n cap xs hold (.string s) s.size (Lib.strCells s) fD (by omega) (by omega)
    (growslice_fits (by omega) (by rw[qM];omega))
   rw[eI]at U
   injection U with an _
   rw[<-an]at ab
   simp only[Value.ownBlock,asM]at ab
   exact .inr (by omega)
theorem Vc {w:World}{ops:Array Oper}{rest:List Oper}{o:Oper}{a:Act}{Q:Exit->Act->World->Prop}(ow:o.guard=none)(SE x:Operand)(t u:TypeId)
 (aH:o.op= .call {callee:= .builtin .append,args:=#[SE,x],argTypes:=#[t,u]}) (e:TypeId) (i:TypeInfo) (aA:P.underlying t=some (.slice e)) (hu:P.underlying u=some .string) (hi:P.info? e=some i)
 (bc:i.zero=some (.int .u8 0)) (rL:i.size=1) (qM:i.bytes=1) (v:Value) (n:Nat) (xs:List Value) (ao:a.eval SE=v) (eZ:w.ownsRow 0 e 1 v n xs) (s:ByteArray) (af:a.eval x= .string s) (ae:n+s.size<=140737488355328)
 (h:∀cO w',w'.ownsRow 0 e 1 cO (n+s.size) (xs++Lib.strCells s)->w.grownBy w' v.ownBlock->(∀g,cO.ownBlock=some g->v.ownBlock=some g\/w.heap.size<=g)->wpList P ops Q rest (a.put o.dst cO) w'):wpList P ops Q (o::rest) a w:=by
 refine wpList_plain ow fun K hA=> ?_
 obtain⟨cO,w',ak,aa,al,aL⟩:=Vq (P:=P) t u o.type e i aA hu hi bc rL qM eZ s ae
 unfold Oper.wp execOp
 simp only[aH,resolve,invoke,builtin,Sem.run_bind,Sem.run_pure,Result.andThen_ok,auE,asX,List.map_nil,ao,af,ak]
 exact hA _ _ (h cO w' aa al aL)
theorem Wp {f:FuncId}{T e:TypeId}(hu:∀(b:Nat) (w:World),w.cell? ⟨b,0,none⟩=some (.pointer (some ⟨b,0,none⟩))->Calls P f #[.pointer (some ⟨b,0,none⟩)] w fun r w'=>r= .returned (.tuple #[])/\w'=w)
 (cr:∀(b:Nat) (w:World),w.cell? ⟨b,0,none⟩=some (.pointer none)->w.shape? b=some (T,2)->w.frozen? ⟨b,0,none⟩=false->Calls P f #[.pointer (some ⟨b,0,none⟩)] w fun r w'=>r= .returned (.tuple #[])/\w'=w.setCell ⟨b,0,none⟩ (.pointer (some ⟨b,0,none⟩)))
 {b:Nat} {eA:List Value} {w:World} {p v:Value} (aw:p= .pointer none\/p= .pointer (some ⟨b,0,none⟩)) (ae:w.heap[b]? =some (.cells #[p,v] T (0,0)))
 (aH:w.ownsRow 0 e 1 v eA.length eA) (ar:v.ownBlock≠some b):
 Calls P f #[.pointer (some ⟨b,0,none⟩)] w fun r cz=>r= .returned (.tuple #[])/\cz.heap[b]? =some (.cells #[.pointer (some ⟨b,0,none⟩),v] T (0,0))/\cz.ownsRow 0 e 1 v eA.length eA/\w.grownBy cz (some b):=by
 have aE:w.cell? ⟨b,0,none⟩=some p:=by rw[Lib.cell_of_heap ae];rfl
 rcases aw with rfl|rfl
 ·have cg:Lib.BuilderAt T e 0 b (.pointer none) eA w:=⟨atD _,v,ae,aH,ar⟩
  refine(cr b w aE cg.shape cg.frozen0).mono ?_
  rintro r cz ⟨rfl,rfl⟩
  have DO:w.grownBy (w.setCell ⟨b,0,none⟩ (.pointer (some ⟨b,0,none⟩))) (some b):=by
   refine⟨rfl,rfl,rfl,by simp[World.setCell],fun k _ ab=> ?_⟩
   have:b≠k:=fun e=>ab (by rw[e])
   simp[World.setCell,auo,this]
  refine⟨rfl, ?_,aH.kept DO (.inr ar),DO⟩
  simp[World.setCell,auo,ae]
 ·refine(hu b w aE).mono ?_
  rintro r cz ⟨rfl,rfl⟩
  exact⟨rfl,ae,aH,rfl,rfl,rfl,asz _,fun _ _ _=>rfl⟩
end Go.Proofs
end
section
namespace Go.bG
open Go.Proofs
structure ih where
 E:Env
 β:Tmp
 oK:TypeId
 jZ:TypeId
 Ee:FuncId
 Ef:FuncId
 fuel:Nat
structure kD where
 tm:List J
 own:aB
 eA:Option (List Int)
def ih.other (X:ih)(o:Oper):Nat:=match fl o.dst (some X.β)with|true=>4|false=>0
def ih.cls (X:ih)(o:Oper):Nat:=
 match o.guard,o.op with
 |none, .alloc t=>(match Nat.beq t X.oK,fl o.dst (some X.β)with|true,true=>1|_,_=>X.other o)
 |none, .call c=>
  (match c.callee,fl o.dst (some X.β)with
  | .value (.func f),false=>
   (match Nat.beq f X.Ee,Nat.beq f X.Ef,c.args.toList with
   |true,_,[.tmp p,_]=>(match Nat.beq p X.β with|true=>2|false=>4)
   |_,true,[.tmp p]=>(match Nat.beq p X.β with|true=>3|false=>4)
   |_,_,_=>0)
  |_,_=>X.other o)
 |_,_=>X.other o
def HD (o:Oper):Operand:=
 match o.op with
 | .call c=>(match c.args.toList with|[_,x]=>x|_=> .const undef)
 |_=> .const undef
def ys (all:List Oper)(o:Oper)(tm:List J):List J:=
 match o.guard with
 |none=>tm
 |some (j,_)=>
  (match la all j with
  |none=>tm
  |some g=>(match bT .un tm g with| .d (.bool b)=>(match b with|true=>cH tm g .bt|false=>cH tm g .bf)|_=>tm))
def ih.quiet (X:ih)(l:List Oper):Bool:=dq (fun o=>match fl o.dst (some X.β)with|true=>false|false=>true) l
def rz (X:ih)(all:List Oper):List Oper->kD->(kD->Prop)->Prop
 |[],S,K=>K S
 |o::rest,S,K=>
  match Nat.beq (X.cls o) 0,Nat.beq (X.cls o) 2,Nat.beq (X.cls o) 3 with
  |true,_,_=>c6 X.E.tb X.E.bd [] all [o] (ys all o S.tm) S.own fun tm own=>rz X all rest ⟨tm,own,S.eA⟩ K
  |_,true,_=>
   (match S.eA,aS S.tm (HD o)with
   |some l, .d (.str s)=>l.length+s.length<=1000000000/\rz X all rest ⟨put S.tm o.dst .any,S.own,some (l++s)⟩ K
   |_,_=>False)
  |_,_,true=>(match S.eA with|some l=>l≠[]/\rz X all rest ⟨put S.tm o.dst (.d (.str l)),S.own,none⟩ K|none=>False)
  |_,_,_=>False
def C7 (body:kD->(mK->kD->Prop)->Prop):Nat->kD->(mK->kD->Prop)->Prop
 |0,_,_=>False
 |n+1,S,K=>body S fun e c0=>match e with| .normal=>C7 body n c0 K|e=>K e c0
def jQ (X:ih):Code->Nat->kD->(mK->kD->Prop)->Prop
 | .skip,_,S,K=>K .normal S
 | .label _,_,S,K=>K .normal S
 | .region id ops draw,bO,S,K=>
  match draw with
  |true=>(match dq (fun o=>Nat.beq (X.cls o) 0&&X.quiet [o]) ops.toList with|true=>ht X.E (.region id ops true) bO ⟨S.tm,S.own⟩ fun e c0=>K e ⟨c0.tm,c0.own,S.eA⟩|false=>False)
  |false=>
   (match ops.toList,S.eA,Nat.blt X.β (bN S.tm)with
   |[o],none,true=>(match Nat.beq (X.cls o) 1 with|true=>K .normal ⟨cH S.tm X.β .any,S.own,some []⟩|false=>(match X.quiet ops.toList with|true=>rz X ops.toList ops.toList S (K .normal)|false=>False))
   |_,_,_=>(match X.quiet ops.toList with|true=>rz X ops.toList ops.toList S (K .normal)|false=>False))
 | .seq a b,bO,S,K=>jQ X a bO S fun e c0=>match e with| .normal=>jQ X b bO c0 K|e=>K e c0
 | .cond c a b,bO,S,K=>
  match aS S.tm c with
  | .bt=>jQ X a bO S K
  | .bf=>jQ X b bO S K
  | .d (.bool x)=>(match x with|true=>jQ X a bO S K|false=>jQ X b bO S K)
  |_=>False
 | .block id c,_,S,K=>jQ X c id S fun e c0=>match e with| .exit i=>(match Nat.beq i id with|true=>K .normal c0|false=>K (.exit i) c0)|e=>K e c0
 | .loop c,bO,S,K=>C7 (jQ X c bO) X.fuel S K
 | .exit id,_,S,K=>K (.exit id) S
 | .goto l,_,S,K=>K (.goto l) S
 | .ret,_,S,K=>K .ret S
 | .scope c,bO,S,K=>jQ X c bO S fun e c0=>match e with| .goto _=>False|e=>K e c0
 | .refuse _,_,_,_=>False
 | .rangeFunc ..,_,_,_=>False
def OD (X:ih)(ntmps:Nat)(results:List ResultVar)(c:Code)(args:List J)(K:J->aB->Prop):Prop:=
 jQ X c 1000000 ⟨pad ntmps args,[],none⟩ fun e S=>
  match e with
  | .normal| .ret=>(match ld X.E.tb S.tm S.own results with|true=>gk (jG X.E.tb S.tm S.own results) (K (one (gz X.E.tb S.tm S.own results)) S.own)|false=>False)
  |_=>False
structure x_ (P:Program)(X:ih):Prop where
 write:∀(b:Nat) (eA:List Value) (s:ByteArray) (w:World) (N:Nat->Prop),kR X.oK X.jZ b eA w N->eA.length+s.size<=140737488355328->
  Calls P X.Ee #[.pointer (some ⟨b,0,none⟩), .string s] w fun r w'=>r= .returned (.tuple #[.int .i64 s.size, .nilIface])/\kR X.oK X.jZ b (eA++Lib.strCells s) w' (fun x=>N x\/w.heap.size<=x)/\jD N w w'
 read:∀(b:Nat) (l:List UInt8) (w:World) (N:Nat->Prop),kR X.oK X.jZ b (Lib.byteCells l) w N->l≠[]->
  Calls P X.Ef #[.pointer (some ⟨b,0,none⟩)] w fun r w'=>r= .returned (.string ⟨l.toArray⟩)/\jD N w w'
 zero:∀w,(zeroValue X.oK).run P w= .ok (.agg #[.pointer none, .slice none 0 0]) w
 RI:∃fn,P.funcs[X.Ee]? =some fn/\fn.body.isNone=false/\(fn.name== "runtime.NumGoroutine")=false
 RJ:∃fn,P.funcs[X.Ef]? =some fn/\fn.body.isNone=false/\(fn.name== "runtime.NumGoroutine")=false
def Rg (X:ih)(a:Act)(w:World)(M:Nat->Prop):Option (List Int)->Prop
 |none=>True
 |some l=>∃(b:Nat) (bytes:List UInt8),a.tmps.getD X.β undef= .pointer (some ⟨b,0,none⟩)/\X.β<a.tmps.size/\l=bytes.map (fun x=>(x.toNat:Int))/\kR X.oK X.jZ b (Lib.byteCells bytes) w M
structure pn (X:ih)(nT:Nat->Prop)(hv:World)(S:kD)(a:Act)(w:World):Prop where
 ex:∃(N:Nat->Prop) (ρ:List Loc) (M:Nat->Prop),(∀b,nT b->N b)/\eT N ρ S.tm S.own a w/\(∀b,fU ρ S.own b->hv.heap.size<=b)/\(∀b,M b->N b/\hv.heap.size<=b)/\Rg X a w M S.eA
 abr:jD (fun _=>False) hv w
theorem jD.refl (N:Nat->Prop)(w:World):jD N w w:=⟨rfl,rfl,rfl,asz _,fun _ _ _=>rfl⟩
theorem kR.lt {T e:TypeId}{b:Nat}{eA:List Value}{w:World}{N:Nat->Prop}(h:kR T e b eA w N):kR T e b eA w (fun x=>N x/\x<w.heap.size):=by
 obtain⟨p,v,aw,U,aa,ae,aH,ar⟩:=h
 exact⟨p,v,aw,⟨U,(auG.1 ae).1⟩,fun g aT=>⟨aa g aT,(aH.lt g aT).2⟩,ae,aH,ar⟩
theorem eT.aside {N M:Nat->Prop}{ρ:List Loc}{tm:List J}{own:aB}{a:Act}{w w':World}(h:eT N ρ tm own a w)(aQ:jD M w w')(ic:∀b,M b->N b):
 eT (fun x=>N x\/(w.heap.size<=x/\x<w'.heap.size)) ρ tm own a w':=by
 have bc:∀b,b<w.heap.size->¬aI N ρ own b->¬aI (fun x=>N x\/(w.heap.size<=x/\x<w'.heap.size)) ρ own b:=fun b ae ar bc=>by
  rcases bc with(U|U)|U
  ·exact ar (.inl U)
  ·omega
  ·exact ar (.inr U)
 have ak:∀x u,Reads (aI N ρ own) w x u->Reads (aI (fun x=>N x\/(w.heap.size<=x/\x<w'.heap.size)) ρ own) w' x u:=fun x u af=>
  af.mono fun b ae ar=>⟨aQ.e1 b ae fun hm=>ar (.inl (ic b hm)),bc b ae ar⟩
 refine⟨?_,⟨h.eD.size,fun t=>(h.eD.at_ t).mono ak fun id _=>eg.refl ρ own id⟩,h.iR⟩
 refine{len:=h.eJ.len,fE:=fun b ae=> ?_,lt:=fun i loc b U aa=>asR (h.eJ.lt i loc b U aa) aQ.size,inj:=h.eJ.inj,fr:=fun i loc b U aa ar=> ?_,ob:=fun i loc U=> ?_}
 ·rcases ae with ae|ae
  ·exact asR (h.eJ.fE b ae) aQ.size
  ·exact ae.2
 ·rcases ar with ar|ar
  ·exact h.eJ.fr i loc b U aa ar
  ·have:=h.eJ.lt i loc b U aa;omega
 ·exact(h.eJ.ob i loc U).mono (fun b ae=>aQ.e1 b (h.eJ.lt i loc b U ae) fun hm=>h.eJ.fr i loc b U ae (ic b hm)) ak fun _ _ _ id _ _=>eg.refl ρ own id
section
variable {P:Program} {X:ih} {nT:Nat->Prop} {hv:World}
theorem jD.k0 {M:Nat->Prop}{w w':World}(h:jD (fun _=>False) hv w)(k:jD M w w')(ic:∀b,M b->hv.heap.size<=b):jD (fun _=>False) hv w':=
 ⟨k.os.trans h.os,k.tape.trans h.tape,k.output.trans h.output,asZ h.size k.size,fun b ae _=>by
  rw[k.e1 b (asR ae h.size) fun hm=>by have:=ic b hm;omega,h.e1 b ae fun h=>h]⟩
theorem Mo {S:kD}{a cI:Act}{w w':World}{N:Nat->Prop}{ρ:List Loc}{M:Nat->Prop}(U:∀b,nT b->N b)(aa:eT N ρ S.tm S.own a w)(al:∀b,fU ρ S.own b->hv.heap.size<=b)
 (aL:∀b,M b->N b/\hv.heap.size<=b) (bo:Rg X a w M S.eA) (aQ:jD (fun _=>False) hv w) {wr:Tmp->Bool} (hw:wr X.β=false) {K:List J->aB->Prop}
 (aw:mO N ρ S.own a w wr K cI w'):∃dL own',K dL own'/\pn X nT hv ⟨dL,own',S.eA⟩ cI w':=by
 obtain⟨⟨dL,own',ρ',aU,a_,bF⟩,di,eB⟩:=aw
 have vP:∀b,M b->¬fU ρ S.own b:=fun b hm ⟨i,loc,an,az,_⟩=>aa.eJ.fr i loc b an az (aL b hm).1
 refine⟨dL,own',aU,⟨N,ρ',M,U,a_,fun b ae=> ?_,aL, ?_⟩,⟨bF.os.trans aQ.os,bF.tape.trans aQ.tape,bF.output.trans aQ.output,asZ aQ.size bF.size,fun b ae _=> ?_⟩⟩
 ·rcases bF.alive b ae with ae|ae
  ·exact al b ae
  ·exact asZ aQ.size ae
 ·cases vT:S.eA with
  |none=>trivial
  |some l=>
   rw[vT]at bo
   obtain⟨b,bytes,an,az,bK,cm⟩:=bo
   exact⟨b,bytes,by rw[di _ hw];exact an,by rw[eB];exact az,bK,cm.e1 (fun _ h=>h) fun k ab hm=>bF.e1 k ab (vP k hm)⟩
 ·rw[bF.e1 b (asR ae aQ.size) fun aC=>by have:=al b aC;omega,aQ.e1 b ae fun h=>h]
theorem UC {o:Oper}{a:Act}{next next':Act->World->Prop}{Q nU:Exit->Act->World->Prop}(ar:∀a w,next a w->next' a w)(aN:∀e a w,e≠ .normal->Q e a w->nU e a w){r:Result Next}
 (h:o.upon P a next Q r):o.upon P a next' nU r:=by
 unfold Oper.upon at h⊢
 split at h
 ·exact ar _ _ h
 ·exact ar _ _ h
 ·exact ar _ _ h
 ·refine h.mono fun e w ak=> ?_
  cases e with
  |returned v=>exact ar _ _ ak
  |panicked c=>exact aN _ _ _ (by nofun) ak
  |outgrown=>obtain⟨x,y,b2⟩:=ak;exact⟨x,y,aN _ _ _ (by nofun) b2⟩
 ·exact h.mono fun v w ak=>ar _ _ ak
 ·exact aN _ _ _ (by nofun) h
 ·exact h.elim
theorem Vr {ops:Array Oper}{Q nU:Exit->Act->World->Prop}{i:Nat}{rest:List Nat}{a:Act}{w:World}(h:wpOps P ops nU [i] a w)(ab:∀a w,nU .normal a w->wpOps P ops Q rest a w)
 (aN:∀e a w,e≠ .normal->¬nU e a w):wpOps P ops Q (i::rest) a w:=by
 simp only[wpOps]at h⊢
 split
 ·rename_i aH
  rw[aH]at h
  exact ab _ _ h
 ·rename_i o aH
  rw[aH]at h
  simp only at h
  split
  ·rename_i hw
   rw[asq hw]at h
   rcases h with h|⟨_,x,y,aa⟩
   ·exact .inl (UC ab (fun e a w ar b2=>(aN e a w ar b2).elim) h)
   ·exact(aN _ _ _ (by nofun) aa).elim
  ·rename_i hw
   rw[asp hw]at h
   exact ab _ _ h
theorem Vs {o:Oper}{c:Call}{f:FuncId}(aH:o.op= .call c)(ay:c.callee= .value (.func f))(a:Act)(w:World):(execOp a.eval o).run P w=(callFunc f (c.args.map a.eval)).run P w:=by
 unfold execOp
 rw[aH]
 simp only[resolve,ay,Deferred.ofValue,Act.eval,pure_bind,invoke]
 simp
theorem UD {f:FuncId}{vals:Array Value}{w:World}(h:∃fn,P.funcs[f]? =some fn/\fn.body.isNone=false/\(fn.name== "runtime.NumGoroutine")=false):(callFunc f vals).run P w= .ok (.enter f vals) w:=by
 obtain⟨fn,U,aa,al⟩:=h
 simp only[callFunc,Sem.run_bind,run_program,Result.andThen_ok,U,aa,al]
 simp
theorem Nk {a:Act}{dst:Option Tmp}{v:Value}{t:Tmp}(h:fl dst (some t)=false):(a.put dst v).tmps.getD t undef=a.tmps.getD t undef/\(a.put dst v).tmps.size=a.tmps.size:=by
 cases dst with
 |none=>exact⟨rfl,rfl⟩
 |some d=>
  have aP:d≠t:=fun e=>by subst e;simp[fl]at h
  exact⟨by rw[Act.put,zG,asp fun e=>aP e.1],by simp[Act.put]⟩
theorem OE {ops:Array Oper}(h:X.quiet ops.toList=true):qo ops X.β=false:=by
 unfold qo
 rw[List.any_eq_false]
 intro o aH
 unfold ih.quiet at h
 rw[eW,asH]at h
 have:=h o aH
 cases aP:o.dst with
 |none=>simp
 |some d=>
  rw[aP]at this
  simp only[fl]at this
  split at this
  ·cases this
  ·rename_i ae;simp[ae]
theorem WS {o:Oper}(h:X.cls o=2):∃c x,o.op= .call c/\o.guard=none/\c.callee= .value (.func X.Ee)/\c.args=#[.tmp X.β,x]/\HD o=x/\fl o.dst (some X.β)=false:=by
 have other:X.other o≠2:=by unfold ih.other;split<;>simp
 unfold ih.cls at h
 split at h
 ·split at h
  ·simp at h
  ·exact absurd h other
 ·rename_i c aT aH
  split at h
  ·rename_i f ay aP
   split at h
   ·rename_i p x aQ aC
    split at h
    ·rename_i aw
     have an:=ast aQ
     have az:=ast aw
     subst an az
     refine⟨c,x,aH,aT,ay,by rw[<-Array.toList_inj];exact aC, ?_,aP⟩
     unfold HD
     simp only[aH,aC]
    ·simp at h
   ·split at h<;>simp at h
   ·simp at h
  ·exact absurd h other
 ·exact absurd h other
theorem XG {o:Oper}(h:X.cls o=3):∃c,o.op= .call c/\o.guard=none/\c.callee= .value (.func X.Ef)/\c.args=#[.tmp X.β]/\fl o.dst (some X.β)=false:=by
 have other:X.other o≠3:=by unfold ih.other;split<;>simp
 unfold ih.cls at h
 split at h
 ·split at h
  ·simp at h
  ·exact absurd h other
 ·rename_i c aT aH
  split at h
  ·rename_i f ay aP
   split at h
   ·split at h<;>simp at h
   ·rename_i p _ aQ aC
    split at h
    ·rename_i aw
     have an:=ast aQ
     have az:=ast aw
     subst an az
     exact⟨c,aH,aT,ay,by rw[<-Array.toList_inj];exact aC,aP⟩
    ·simp at h
   ·simp at h
  ·exact absurd h other
 ·exact absurd h other
theorem WT {o:Oper}(h:X.cls o=1):o.op= .alloc X.oK/\o.guard=none/\o.dst=some X.β:=by
 have other:X.other o≠1:=by unfold ih.other;split<;>simp
 unfold ih.cls at h
 split at h
 ·rename_i t aT aH
  split at h
  ·rename_i U aa
   have an:=ast U
   subst an
   refine⟨aH,aT, ?_⟩
   cases aP:o.dst with
   |none=>rw[aP]at aa;cases aa
   |some d=>
    rw[aP]at aa
    simp only[fl]at aa
    rw[ast aa]
  ·exact absurd h other
 ·rename_i c aT aH
  split at h
  ·split at h
   ·split at h<;>simp at h
   ·split at h<;>simp at h
   ·simp at h
  ·exact absurd h other
 ·exact absurd h other
theorem XH {s:ByteArray}{l:List Int}(h:l=s.data.toList.map fun b=>(b.toNat:Int)):∃bytes:List UInt8,bytes=s.data.toList/\l=bytes.map (fun x=>(x.toNat:Int)):=⟨_,rfl,h⟩
theorem KR (dj:hT P X.E)(k6:x_ P X)(ops:Array Oper)(aN:X.quiet ops.toList=true){K:kD->Prop}:
 ∀(is:List Nat),(∀i∈is,i<ops.size)->∀(S:kD) (a:Act) (w:World),rz X ops.toList (is.map fun i=>ops.toList.getD i default) S K->pn X nT hv S a w->
  wpOps P ops (fun e cI w'=>e= .normal/\∃c0,K c0/\pn X nT hv c0 cI w') is a w
 |[],_,S,a,w,h,dT=>⟨rfl,S,h,dT⟩
 |i::rest,bB,S,a,w,h,dT=>by
  have hi:i<ops.size:=bB i (by simp)
  have aH:ops[i]? =some ops[i]:=by simp[hi]
  have l_:ops.toList.getD i default=ops[i]:=by simp[ass,hi]
  have bA:=KR dj k6 ops aN (K:=K) rest (fun j aK=>bB j (by simp[aK]))
  simp only[asX,l_]at h
  have ae:fl (ops[i]).dst (some X.β)=false:=by
   unfold ih.quiet at aN
   rw[eW,asH]at aN
   have:=aN ops[i] (by simp)
   split at this
   ·cases this
   ·rename_i h;exact h
  have next:∀{c:Call} {f:FuncId} {vals:Array Value} {Q:Ending->World->Prop},(ops[i]).op= .call c->(ops[i]).guard=none->c.callee= .value (.func f)->c.args.map a.eval=vals->
   (∃fn,P.funcs[f]? =some fn/\fn.body.isNone=false/\(fn.name== "runtime.NumGoroutine")=false)->Calls P f vals w Q->
   (∀e w',Q e w'->∃v,e= .returned v/\wpOps P ops (fun e cI w'=>e= .normal/\∃c0,K c0/\pn X nT hv c0 cI w') rest (a.put (ops[i]).dst v) w')->
   wpOps P ops (fun e cI w'=>e= .normal/\∃c0,K c0/\pn X nT hv c0 cI w') (i::rest) a w:=by
   intro c f vals Q bD aT ay aM aaa ny ab
   simp only[wpOps,aH]
   rw[asq (by simp[Region.wanted,aT])]
   left
   unfold Oper.wp
   rw[Vs bD ay,aM,UD aaa,Oper.upon_enter]
   refine ny.mono fun e w' b2=> ?_
   obtain⟨v,rfl,hw⟩:=ab e w' b2
   exact hw
  unfold rz at h
  split at h
  ·
   obtain⟨⟨N,ρ,M,U,aa,al,aL,bo⟩,aQ⟩:=dT
   have gS:eT N ρ (ys ops.toList ops[i] S.tm) S.own a w:=by
    unfold ys
    split
    ·exact aa
    ·split
     ·exact aa
     ·rename_i g _
      have cg:=aa.eD.at_ g
      rw[<-dp]at cg
      split
      ·rename_i b he
       rw[he]at cg
       have ae:=lW cg
       cases b with
       |true=>exact Cx aa g ae
       |false=>exact Cx aa g ae
      ·exact aa
   have HE:=E7 (P:=P) (N:=N) dj.ty dj.more dj.oC [] ops (fun i j o p d e id _ _ _ _ h=>by cases h) _ [i] (fun j aK=>by rw[atr.1 aK];exact hi) (by simp) (ys ops.toList ops[i] S.tm) S.own a w ρ
    (fun j _ o d id _ _ h=>by cases h) (by simp only[asX,List.map_nil,l_];exact h) gS
   refine Vr HE (fun cI w' aw=> ?_) (fun e cI w' ar b2=>ar b2.1)
   obtain⟨dL,own',aU,a_⟩:=Mo (S:=⟨ys ops.toList ops[i] S.tm,S.own,S.eA⟩) U gS al aL bo aQ (OE aN) aw.2
   exact bA ⟨dL,own',S.eA⟩ cI w' aU a_
  ·
   rename_i ji _
   have ji:=ast ji
   obtain⟨c,x,bD,aT,ay,fA,aab,_⟩:=WS ji
   rw[aab]at h
   split at h
   rotate_left
   ·exact h.elim
   rename_i l s vT af
   obtain⟨hlen,h⟩:=h
   obtain⟨⟨N,ρ,M,U,aa,al,aL,bo⟩,aQ⟩:=dT
   rw[vT]at bo
   obtain⟨b,bytes,an,az,rfl,cm⟩:=bo
   have oD:=dK aa.eD x
   rw[af]at oD
   obtain⟨j0,gb,k1⟩:=rf oD
   obtain⟨Yl,aac,aad⟩:=XH k1
   have eK:(Lib.byteCells bytes).length+j0.size<=140737488355328:=by
    have eL:j0.size=s.length:=by rw[k1,asy,atu];rfl
    rw[asy]at hlen
    rw[Lib.byteCells_length,eL];omega
   refine next bD aT ay (vals:=#[.pointer (some ⟨b,0,none⟩), .string j0]) (by rw[fA];simp only[auE,asX,List.map_nil];rw[gb];show#[a.tmps.getD X.β undef,_]=_;rw[an]) k6.RI (k6.write b _ j0 w M cm eK) ?_
   rintro e w' ⟨rfl,aU,a_⟩
   refine⟨_,rfl,bA ⟨_,_,_⟩ _ _ h ?_⟩
   have mJ:=aa.aside a_ fun b hm=>(aL b hm).1
   refine⟨⟨_,ρ,fun x=>(M x\/w.heap.size<=x)/\x<w'.heap.size,fun b ae=> .inl (U b ae),⟨mJ.eJ,dC.put mJ.eD _ (v:= .tuple #[.int .i64 j0.size, .nilIface]) (t:= .any) trivial,by cases (ops[i]).dst<;>exact mJ.iR⟩,al,fun x af=> ?_,b,bytes++Yl, ?_, ?_, ?_, ?_⟩,jD.k0 aQ a_ fun b hm=>(aL b hm).2⟩
   ·rcases af.1 with hm|hm
    ·exact⟨.inl (aL x hm).1,(aL x hm).2⟩
    ·exact⟨.inr ⟨hm,af.2⟩,asZ aQ.size hm⟩
   ·rw[(Nk ae).1];exact an
   ·rw[(Nk ae).2];exact az
   ·rw[aad,as7]
   ·have:=kR.lt aU
    have hx:Lib.byteCells (bytes++j0.data.toList)=Lib.byteCells bytes++Lib.strCells j0:=as7
    rw[aac,hx]
    exact this.e1 (fun _ h=>h) fun _ _ _=>rfl
  ·
   rename_i ji _ _
   have ji:=ast ji
   obtain⟨c,bD,aT,ay,fA,_⟩:=XG ji
   split at h
   rotate_left
   ·exact h.elim
   rename_i l vT
   obtain⟨cV,h⟩:=h
   obtain⟨⟨N,ρ,M,U,aa,al,aL,bo⟩,aQ⟩:=dT
   rw[vT]at bo
   obtain⟨b,bytes,an,az,rfl,cm⟩:=bo
   refine next bD aT ay (vals:=#[.pointer (some ⟨b,0,none⟩)]) (by rw[fA];simp only[auE,asX,List.map_nil];show#[a.tmps.getD X.β undef]=_;rw[an]) k6.RJ (k6.read b _ w M cm fun e=>cV (by rw[e];rfl)) ?_
   rintro e w' ⟨rfl,a_⟩
   refine⟨_,rfl,bA ⟨_,_,_⟩ _ _ h ?_⟩
   have mJ:=aa.aside a_ fun b hm=>(aL b hm).1
   refine⟨⟨_,ρ,fun _=>False,fun b ae=> .inl (U b ae),⟨mJ.eJ,dC.put mJ.eD _ (v:= .string ⟨bytes.toArray⟩) (t:= .d (.str (bytes.map fun x=>(x.toNat:Int)))) (.cM (Reads.str _ _ (by simp))),by cases (ops[i]).dst<;>exact mJ.iR⟩,al,fun _ h=>h.elim,trivial⟩,jD.k0 aQ a_ fun b hm=>(aL b hm).2⟩
  ·exact h.elim
theorem UE (k6:x_ P X){o:Oper}(aH:o.op= .alloc X.oK)(a:Act)(w:World):
 (execOp a.eval o).run P w= .ok (.value (.pointer (some ⟨w.heap.size,0,none⟩))) (w.alloc (.cells #[.pointer none, .slice none 0 0] X.oK)):=by
 have:=k6.zero w
 unfold execOp
 rw[aH]
 simp[Instr.alloc,this,newVar,newRow,Value.cells]
theorem UF (dj:hT P X.E)(k6:x_ P X)(c:Code):∀(bO:Nat) (S:kD) (K:mK->kD->Prop) (a:Act) (w:World),jQ X c bO S K->pn X nT hv S a w->
 c.wp P (fun e cI w'=>∃(cd:mK) (c0:kD),e=cd.to/\K cd c0/\pn X nT hv c0 cI w') a w:=by
 induction c with
 |skip=>intro bO S K a w h dT;exact wp_skip ⟨.normal,S,rfl,h,dT⟩
 |label l=>intro bO S K a w h dT;exact wp_label ⟨.normal,S,rfl,h,dT⟩
 |exit id=>intro bO S K a w h dT;exact wp_exit ⟨.exit id,S,rfl,h,dT⟩
 |goto l=>intro bO S K a w h dT;exact wp_goto ⟨.goto l,S,rfl,h,dT⟩
 |ret=>intro bO S K a w h dT;exact wp_ret ⟨.ret,S,rfl,h,dT⟩
 |region id ops draw=>
  intro bO S K a w h dT
  unfold jQ at h
  have walk:X.quiet ops.toList=true->rz X ops.toList ops.toList S (K .normal)->(Code.region id ops false).wp P (fun e cI w'=>∃(cd:mK) (c0:kD),e=cd.to/\K cd c0/\pn X nT hv c0 cI w') a w:=by
   intro aN hw
   refine wp_region (sD (fun e cI w' b2=> ?_) _ _ _ (KR dj k6 ops aN (K:=K .normal) (List.range ops.size) (fun i hi=>by simpa using hi) S a w (by rw[PG];exact hw) dT))
   obtain⟨rfl,c0,aU,a_⟩:=b2
   exact⟨.normal,c0,rfl,aU,a_⟩
  cases draw with
  |true=>
   simp only at h
   split at h
   rotate_left
   ·exact h.elim
   rename_i yt
   obtain⟨⟨N,ρ,M,U,aa,al,aL,bo⟩,aQ⟩:=dT
   have aN:X.quiet ops.toList=true:=by
    unfold ih.quiet
    rw[eW,asH]at yt⊢
    intro o aH
    have:=yt o aH
    rw[asD]at this
    have aa:=this.2
    unfold ih.quiet at aa
    simp only[dq]at aa
    split at aa
    ·assumption
    ·cases aa
   refine wp_mono (E8 X.E dj _ _ _ _ _ w ρ h aa) fun e cI w' b2=> ?_
   obtain⟨cd,rfl,aw⟩:=b2
   obtain⟨dL,own',aU,a_⟩:=Mo U aa al aL bo aQ (OE aN) aw
   exact⟨cd,_,rfl,aU,a_⟩
  |false=>
   simp only at h
   split at h
   ·rename_i o e9 vT bB
    split at h
    ·
     rename_i ji
     have ji:=ast ji
     obtain⟨bD,aT,aP⟩:=WT ji
     have HE:ops=#[o]:=by rw[<-Array.toList_inj];exact e9
     subst HE
     obtain⟨⟨N,ρ,M,U,aa,al,aL,bo⟩,aQ⟩:=dT
     have RW:X.β<S.tm.length:=by
      rw[cf]at bB
      exact Nat.lt_of_succ_le (asV bB)
     refine wp_region ?_
     show wpOps P #[o] _ [0] a w
     simp only[wpOps,List.getElem?_toArray,List.getElem?_cons_zero]
     rw[asq (by simp[Region.wanted,aT])]
     left
     unfold Oper.wp
     rw[UE k6 bD,Oper.upon_value]
     have a_:jD (fun _=>False) w (w.alloc (.cells #[.pointer none, .slice none 0 0] X.oK)):=⟨rfl,rfl,rfl,by simp,fun k ab _=>Lib.alloc_old w _ k ab⟩
     have mJ:=aa.aside a_ fun b hm=>hm.elim
     have ca:(w.alloc (.cells #[.pointer none, .slice none 0 0] X.oK)).heap.size=w.heap.size+1:=by simp
     refine⟨.normal,_,rfl,h,⟨_,ρ,fun x=>x=w.heap.size,fun b ae=> .inl (U b ae),⟨mJ.eJ, ?_, ?_⟩,al,fun x af=> ?_, ?_⟩,jD.k0 aQ a_ fun b hm=>hm.elim⟩
     ·have:=dC.put mJ.eD o.dst (v:= .pointer (some ⟨w.heap.size,0,none⟩)) (t:= .any) trivial
      rw[aP]at this⊢
      exact this
     ·rw[aP];exact mJ.iR
     ·subst af
      exact⟨.inr ⟨asz _,by omega⟩,aQ.size⟩
     ·refine⟨w.heap.size,[], ?_, ?_,rfl, .pointer none, .slice none 0 0, .inl rfl,rfl,(fun g aT=>by cases aT), ?_,⟨rfl, .inl ⟨rfl,rfl⟩⟩,(fun h=>by cases h)⟩
      ·rw[aP,Act.put,zG,asq ⟨rfl,by rw[aa.eD.size];exact RW⟩]
      ·rw[aP,Act.put]
       simp only[Array.size_setIfInBounds]
       rw[aa.eD.size];exact RW
      ·exact nh w _
    ·split at h
     ·rename_i aN;exact walk aN h
     ·exact h.elim
   ·split at h
    ·rename_i aN;exact walk aN h
    ·exact h.elim
 |seq x y qN qO=>
  intro bO S K a w h dT
  unfold jQ at h
  refine wp_seq (wp_mono (qN bO S _ a w h dT) fun e a1 cz b2=> ?_)
  obtain⟨cd,c0,rfl,aU,a_⟩:=b2
  cases cd with
  |normal=>exact qO bO c0 K a1 cz aU a_
  |_=>exact⟨_,c0,rfl,aU,a_⟩
 |cond c x y qN qO=>
  intro bO S K a w h dT
  have cg:∃Z ρ,bz Z w ρ S.own (aS S.tm c) (a.eval c):=by
   obtain⟨⟨N,ρ,M,U,aa,al,aL,bo⟩,aQ⟩:=dT
   exact⟨_,ρ,Nl (S:=⟨S.tm,S.own⟩) aa c⟩
  obtain⟨Z,ρ,cg⟩:=cg
  unfold jQ at h
  split at h
  ·rename_i he
   rw[he]at cg
   exact wp_cond_true cg (qN bO S K a w h dT)
  ·rename_i he
   rw[he]at cg
   exact wp_cond_false cg (qO bO S K a w h dT)
  ·rename_i b he
   rw[he]at cg
   have ae:=lW cg
   cases b with
   |true=>exact wp_cond_true ae (qN bO S K a w h dT)
   |false=>exact wp_cond_false ae (qO bO S K a w h dT)
  ·exact h.elim
 |block id c bA=>
  intro bO S K a w h dT
  unfold jQ at h
  refine wp_block (wp_mono (bA id S _ a w h dT) fun e cI w' b2=> ?_)
  obtain⟨cd,c0,rfl,aw,nJ⟩:=b2
  cases cd with
  |normal=>exact⟨.normal,c0,rfl,aw,nJ⟩
  |goto l=>exact⟨.goto l,c0,rfl,aw,nJ⟩
  |ret=>exact⟨.ret,c0,rfl,aw,nJ⟩
  |exit i=>
   simp only at aw
   show(if i=id then _ else _)
   split
   ·rename_i hi
    subst hi
    simp only[ato]at aw
    exact⟨.normal,c0,rfl,aw,nJ⟩
   ·rename_i hi
    have:Nat.beq i id=false:=by
     cases ae:Nat.beq i id with
     |false=>rfl
     |true=>exact absurd (ast ae) hi
    simp only[this]at aw
    exact⟨.exit i,c0,rfl,aw,nJ⟩
 |loop c bA=>
  intro bO S K a w h dT
  unfold jQ at h
  refine KS (fun(x:Nat×kD) cI w'=>C7 (jQ X c bO) x.1 x.2 K/\pn X nT hv x.2 cI w') (fun x=>x.1) (X.fuel,S) ⟨h,dT⟩ ?_
  rintro⟨n,fI⟩ a1 cz ⟨fH,aae⟩
  cases n with
  |zero=>exact fH.elim
  |succ n=>
   unfold C7 at fH
   refine wp_mono (bA bO fI _ a1 cz fH aae) fun e a2 dO b2=> ?_
   obtain⟨cd,c0,rfl,aw,nJ⟩:=b2
   cases cd with
   |normal=>exact⟨(n,c0),⟨aw,nJ⟩,Nat.lt_succ_self n⟩
   |_=>exact⟨_,c0,rfl,aw,nJ⟩
 |scope c bA=>
  intro bO S K a w h dT
  unfold jQ at h
  refine wp_scope_straight (wp_mono (bA bO S _ a w h dT) fun e cI w' b2=> ?_)
  obtain⟨cd,c0,rfl,aw,nJ⟩:=b2
  cases cd with
  |normal=>exact⟨.normal,c0,rfl,aw,nJ⟩
  |exit i=>exact⟨.exit i,c0,rfl,aw,nJ⟩
  |ret=>exact⟨.ret,c0,rfl,aw,nJ⟩
  |goto l=>exact aw.elim
 |refuse s=>intro bO S K a w h dT;exact h.elim
 |rangeFunc=>intro bO S K a w h dT;exact h.elim
theorem aev (dj:hT P X.E)(k6:x_ P X){f:FuncId}{fn:Func}{c:Code}(aQ:P.funcs[f]? =some fn)(ae:fn.body=some c)(ar:(fn.name== "runtime.NumGoroutine")=false){rvs:List ResultVar}(ak:fn.results=rvs.toArray)
 {ps ts:List aO} (gW:ts.length=rvs.length) {T:List J->(J->Prop)->Prop} (gj:∀args K,T args K->OD X fn.ntmps rvs c args (ti ts K)):e6 P f (gh ps T):=
 Nn aQ ae ar gW fun args K h N w vals aH aq aC=>by
  have h:=gj args K h
  refine calls_of_wp aQ ae ?_
  have ao:eT N [] (pad fn.ntmps args) [] {tmps:=vals++Array.replicate (fn.ntmps-vals.size) undef,defers:=[]} w:=by
   refine⟨aH,⟨by rw[rG];simp[aq],fun t=> ?_⟩,rfl⟩
   rw[rG]
   by_cases aA:t<args.length
   ·have an:(args++List.replicate (fn.ntmps-args.length) J.un).getD t .un=args.getD t .un:=by simp[ass,atp aA]
    have az:(vals++Array.replicate (fn.ntmps-vals.size) undef).getD t undef=vals.getD t undef:=by simp[asA,auO (show t<vals.size by omega)]
    rw[an,az];exact aC t aA
   ·have an:(args++List.replicate (fn.ntmps-args.length) J.un).getD t .un= .un:=by
     rw[ass,atC (by omega),atN];split<;>rfl
    have az:(vals++Array.replicate (fn.ntmps-vals.size) undef).getD t undef=undef:=by
     rw[asA,Array.getElem?_append_right (by omega),Array.getElem?_replicate];split<;>rfl
    rw[an,az];exact bz.un
  have dT:pn X N w ⟨pad fn.ntmps args,[],none⟩ {tmps:=vals++Array.replicate (fn.ntmps-vals.size) undef,defers:=[]} w:=
   ⟨⟨N,[],fun _=>False,fun _ h=>h,ao,fun b ⟨i,loc,e,_⟩=>by simp at e,fun _ h=>h.elim,trivial⟩,jD.refl _ _⟩
  unfold OD at h
  refine wp_mono (UF dj k6 c _ _ _ _ w h dT) fun e cI w' b2=> ?_
  obtain⟨cd,c0,rfl,aU,⟨⟨mx,ρ',M,g1,g2,g3,g4,g5⟩,g6⟩⟩:=b2
  have fin:(match ld X.E.tb c0.tm c0.own rvs with|true=>gk (jG X.E.tb c0.tm c0.own rvs) (ti ts K (one (gz X.E.tb c0.tm c0.own rvs)) c0.own)|false=>False)->cI.defers=[]/\∃v,(results fn cI.tmps).run P w'= .ok v w'/\
   ∃(mx:Nat->Prop) (rs:List J) (own':aB) (ρ':List Loc) (aG:List Value),Ending.returned v= .returned (if rvs.length=1 then aG.getD 0 undef else .tuple aG.toArray)/\rs.length=rvs.length/\aG.length=rvs.length/\
    ti ts K (one rs) own'/\(∀b,N b->mx b)/\b4 mx ρ' own' w'/\Fr [] [] w ρ' own' w'/\∀i,bz (aI mx ρ' own') w' ρ' own' (rs.getD i .un) (aG.getD i undef):=fun ab=>by
   split at ab
   rotate_left
   ·exact ab.elim
   rename_i aT
   rw[gr]at ab
   obtain⟨pF,ab⟩:=ab
   obtain⟨aG,c3,cP,cJ,m8⟩:=Ab X.E dj ak g2 aT pF
   exact⟨g2.iR,_,c3,mx,_,c0.own,ρ',aG,rfl,cJ,cP,ab,g1,g2.eJ,⟨g6.os,g6.tape,g6.output,g6.size,fun b ae _=>g6.e1 b ae fun h=>h,fun b ae=> .inr (g3 b ae)⟩,m8⟩
  cases cd with
  |normal=>exact fin aU
  |ret=>exact fin aU
  |_=>exact aU.elim
end
end Go.bG
end
section
namespace Go.bG
open Go.RowKit Go.ChangeShapes Go.Deep
mutual
inductive mw:Type where
 |int (k:IntKind)
 |bool
 |str
 |ints (k:IntKind)
 |rows (l:c7)
inductive c7:Type where
 |nil
 |cons (s:mw) (r:c7)
end
def c7.app:c7->c7->c7
 | .nil,b=>b
 | .cons s r,b=> .cons s (c7.app r b)
def c7.len:c7->Nat
 | .nil=>0
 | .cons _ r=>Nat.succ (c7.len r)
mutual
def mw.fits:mw->R->Prop
 | .int k, .int b3 x=>k=b3/\k.min<=x/\x<=k.max
 | .bool, .bool _=>True
 | .str, .str l=>l.length<=maxLen/\∀x∈l,0<=x/\x<256
 | .ints k, .ints b3 l=>k=b3/\l.length<=maxLen/\∀x∈l,k.min<=x/\x<=k.max
 | .rows cB, .rows aj l=>aj=cB.len/\l.length<=maxLen/\∀r∈l,c7.fits cB r
 |_,_=>False
def c7.fits:c7->List R->Prop
 | .nil,[]=>True
 | .cons s cB,v::aG=>mw.fits s v/\c7.fits cB aG
 |_,_=>False
end
def nK (w:World)(ho:List R)(cs:List Value):Prop:=ho.length=cs.length/\∀i,i<ho.length->Reads jk w (ho.getD i .undef) (cs.getD i undef)
theorem nK.one {w:World}{x:R}{v:Value}(h:Reads jk w x v):nK w [x] [v]:=⟨rfl,fun i hi=>by
 cases i with
 |zero=>exact h
 |succ i=>simp at hi⟩
theorem nK.app {w:World}{a b:List R}{c d:List Value}(h:nK w a c)(k:nK w b d):nK w (a++b) (c++d):=by
 refine⟨by rw[as2,as2,h.1,k.1],fun i hi=> ?_⟩
 rw[as2]at hi
 simp only[ass]
 by_cases aq:i<a.length
 ·rw[atp aq,atp (by rw[<-h.1];exact aq)]
  have:=h.2 i aq
  simpa only[ass]using this
 ·rw[atC (by omega),atC (by rw[<-h.1];omega),<-h.1]
  have:=k.2 (i-a.length) (by omega)
  simpa only[ass]using this
section
variable {H:Type} {enc:TypeId×Value->H} {P:Program} {w:World} {base:Nat} {spare:Nat->Bool} {held:Bool}
end
end Go.bG
end
section
namespace Go.bG
structure jo (P:Program)(f:Nat)where
 oC:e3
 s:oY P f oC
 o:fw oC
 k:Nat
 t1:k=1->po oC
 t2:k=2->vk oC
abbrev si (P:Program):=List ((f:Nat)×jo P f)
def rQ {P:Program}:si P->List Nat
 |[]=>[]
 |s::r=>s.1::rQ r
def rI {P:Program}:si P->List (Nat×e3)
 |[]=>[]
 |s::r=>(s.1,s.2.oC)::rI r
def o8 {P:Program}(k:Nat):si P->List Nat
 |[]=>[]
 |s::r=>match Nat.beq s.2.k k with|true=>s.1::o8 k r|false=>o8 k r
def R4 {P:Program}(tys:List (Nat×bQ))(L:si P)(th meets:List (Nat×Head)):Env:=
 {tys:=tys,cons:=rI L,data:=o8 1 L,fresh:=o8 2 L,th:=th,meets:=meets}
def Zo (tys:List (Nat×bQ))(t:TypeId):bQ:=match eN t tys with|some i=>i|none=>{ty:= .no}
def YU (P:Program)(tys:List (Nat×bQ)):Bool:=dq (fun p=>match cE P p.1 p.2 with|true=>o2 P (Zo tys) p.1|false=>false) tys
def xB:List Nat->Bool
 |[]=>true
 |x::r=>match pk x r with|true=>false|false=>xB r
theorem MC {P:Program}:∀{L:si P} {p:Nat×e3},p∈rI L->oY P p.1 p.2/\fw p.2
 |[],_,h=>by cases h
 |s::r,p,h=>by
  rcases asP.1 h with rfl|h
  ·exact⟨s.2.s,s.2.o⟩
  ·exact MC h
theorem MD {P:Program}{k:Nat}:∀{L:si P} {f:Nat},f∈o8 k L->xB (rQ L)=true->∃s:jo P f,s.k=k/\eN f (rI L)=some s.oC
 |[],_,h,_=>by cases h
 |s::r,f,h,ar=>by
  have ak:xB (rQ r)=true/\pk s.1 (rQ r)=false:=by
   unfold rQ xB at ar
   split at ar
   ·cases ar
   ·rename_i aa;exact⟨ar,aa⟩
  have sub:∀{L:si P} {g:Nat},g∈o8 k L->g∈rQ L:=fun{L g}=>by
   induction L with
   |nil=>exact fun h=>by cases h
   |cons a b bA=>
    intro h
    unfold o8 at h
    unfold rQ
    split at h
    ·rcases asP.1 h with rfl|h
     ·simp
     ·exact at3 _ (bA h)
    ·exact at3 _ (bA h)
  have tail:f∈o8 k r->∃t:jo P f,t.k=k/\eN f (rI (s::r))=some t.oC:=fun h=>by
   obtain⟨t,U,aa⟩:=MD h ak.1
   have ne:Nat.beq s.1 f=false:=by
    cases ae:Nat.beq s.1 f with
    |false=>rfl
    |true=>
     obtain rfl:=ast ae
     have:=uR.2 (sub h)
     rw[ak.2]at this;cases this
   exact⟨t,U,by unfold rI eN;rw[ne];exact aa⟩
  unfold o8 at h
  split at h
  ·rename_i ab
   rcases asP.1 h with rfl|h
   ·exact⟨s.2,ast ab,by unfold rI eN;rw[ato]⟩
   ·exact tail h
  ·exact tail h
theorem aiF {P:Program}{tys:List (Nat×bQ)}{L:si P}{th meets:List (Nat×Head)}(U:YU P tys=true)(aL:xB (rQ L)=true)(al:P.follows .mixedOrders=true):hT P (R4 tys L th meets):=by
 have key:∀{k f},f∈o8 k L->∃s:jo P f,s.k=k/\(R4 tys L th meets).bd f=s.oC:=fun{k f} h=>by
  obtain⟨s,U,aa⟩:=MD h aL
  refine⟨s,U, ?_⟩
  show(match eN f (rI L)with|some c=>c|none=>QH)=s.oC
  rw[aa]
 refine .of U (fun p aw=>MC aw) al (fun f aQ=> ?_) fun f aQ=> ?_
 ·obtain⟨s,an,az⟩:=key aQ
  rw[az];exact s.t1 an
 ·obtain⟨s,an,az⟩:=key aQ
  rw[az];exact s.t2 an
abbrev ajV:aO:= .bS (.int .i64)
abbrev ajW:aO:= .bS (.sints .u32)
abbrev ajX:aO:= .bS .bool
abbrev ajY:aO:= .bS (.srows 11)
abbrev ajZ:aO:= .bS .str
abbrev aj0:aO:= .bS .other
abbrev aj1:aO:= .struct [] [.bool, .sints .u32, .sints .u32]
structure wy (P:Program)(f:Nat)(ps:List aO)(T:List J->(J->Prop)->Prop):Prop where
 s:e6 P f (gh ps T)
 o:jA T
structure wz (P:Program)(f:Nat)(ps:List aO)(T:List J->(J->Prop)->Prop):Prop where
 s:e6 P f (kK ps T)
 o:jA T
structure wA (P:Program)(f:Nat)(ps:List aO)(T:List J->(ad->Prop)->Prop):Prop where
 s:e6 P f (mE ps T)
 o:mr T
structure wB (P:Program)(f:Nat)(ps:List aO)(T:List J->(ad->Prop)->Prop):Prop where
 s:e6 P f (qi ps T)
 o:mr T
structure wC (P:Program)(f:Nat)(ps:List aO)(T:J->ad->List J->(ad->J->Prop)->Prop):Prop where
 s:e6 P f (lg ps T)
 o:jB T
structure wD (P:Program)(f n:Nat)(ps:List aO)(T:J->ad->List J->(ad->J->Prop)->Prop):Prop where
 s:e6 P f (kb n ps T)
 o:jB T
structure wE (P:Program)(f:Nat)(ps:List aO)(T:ad->List J->(ad->Prop)->Prop):Prop where
 s:e6 P f (p_ ps T)
 o:wa T
structure zD (P:Program)(f:Nat)(ps:List aO)(T:List J->(J->Prop)->Prop):Prop where
 s:uP P f (gh ps T)
 o:jA T
section
variable {P:Program} {f:Nat} {ps:List aO}
def wy.d {T:List J->(J->Prop)->Prop}(h:wy P f ps T):jo P f:=⟨gh ps T, .inl h.s,ME h.o,1,fun _=> .inl ⟨ps,T,h.o,rfl⟩,nofun⟩
def wy.n {T:List J->(J->Prop)->Prop}(h:wy P f ps T):jo P f:=wy.d (T:=named T) ⟨by rw[sS];exact h.s,FV h.o⟩
def zD.d {T:List J->(J->Prop)->Prop}(h:zD P f ps T):jo P f:=⟨gh ps T, .inr h.s,ME h.o,1,fun _=> .inl ⟨ps,T,h.o,rfl⟩,nofun⟩
def zD.n {T:List J->(J->Prop)->Prop}(h:zD P f ps T):jo P f:=zD.d (T:=named T) ⟨by rw[sS];exact h.s,FV h.o⟩
def wz.d {T:List J->(J->Prop)->Prop}(h:wz P f ps T):jo P f:=⟨kK ps T, .inl h.s,U0 h.o,1,fun _=> .inr (.inr ⟨ps,T,h.o,rfl⟩),nofun⟩
def wz.n {T:List J->(J->Prop)->Prop}(h:wz P f ps T):jo P f:=wz.d (T:=named T) ⟨by rw[sS];exact h.s,V4 h.o⟩
def wA.d {T:List J->(ad->Prop)->Prop}(h:wA P f ps T):jo P f:=⟨mE ps T, .inl h.s,Ue h.o,2,nofun,fun _=>⟨ps,T,h.o,rfl⟩⟩
def wA.n {T:List J->(ad->Prop)->Prop}(h:wA P f ps T):jo P f:=wA.d (T:=xC T) ⟨by rw[Fj];exact h.s,V5 h.o⟩
def wB.d {T:List J->(ad->Prop)->Prop}(h:wB P f ps T):jo P f:=⟨qi ps T, .inl h.s,V6 h.o,0,nofun,nofun⟩
def wB.n {T:List J->(ad->Prop)->Prop}(h:wB P f ps T):jo P f:=wB.d (T:=xD T) ⟨by rw[Fk];exact h.s,V7 h.o⟩
def wC.d {T:J->ad->List J->(ad->J->Prop)->Prop}(h:wC P f ps T):jo P f:=⟨lg ps T, .inl h.s,U1 h.o,1,fun _=> .inr (.inl ⟨ps,T,h.o,rfl⟩),nofun⟩
def wC.n {T:J->ad->List J->(ad->J->Prop)->Prop}(h:wC P f ps T):jo P f:=wC.d (T:=s8 T) ⟨by rw[w5];exact h.s,NC h.o⟩
def wD.d {n:Nat}{T:J->ad->List J->(ad->J->Prop)->Prop}(h:wD P f n ps T):jo P f:=⟨kb n ps T, .inl h.s,TO h.o,0,nofun,nofun⟩
def wD.n {m:Nat}{T:J->ad->List J->(ad->J->Prop)->Prop}(h:wD P f m ps T):jo P f:=wD.d (n:=m) (T:=s8 T) ⟨by rw[w5];exact h.s,NC h.o⟩
def wE.d {T:ad->List J->(ad->Prop)->Prop}(h:wE P f ps T):jo P f:=⟨p_ ps T, .inl h.s,U2 h.o,0,nofun,nofun⟩
def wE.n {T:ad->List J->(ad->Prop)->Prop}(h:wE P f ps T):jo P f:=wE.d (T:=xE T) ⟨by rw[Fl];exact h.s,V8 h.o⟩
structure pQ (p:Prop):Prop where
 h:p
theorem ajs (E:Env)(dj:hT P E)(fn:Func)(rvs:List ResultVar)(ts:List aO){T:List J->(J->Prop)->Prop}(o:jA T)(gj:∀args K,T args K->pQ (l0 E fn.ntmps rvs (fn.body.getD .skip) args [] (ti ts K)))
 (aQ:P.funcs[f]? =some fn:=by kernel_rfl) (ae:fn.body=some (fn.body.getD .skip):=by kernel_rfl) (ar:(fn.name== "runtime.NumGoroutine")=false:=by kernel_rfl) (ak:fn.results=rvs.toArray:=by kernel_rfl) (gW:ts.length=rvs.length:=by kernel_rfl):wy P f ps T:=
 ⟨U3 E dj aQ ae ar ak gW (fun args K h=>(gj args K h).h),o⟩
theorem ajt (E:Env)(dj:hT P E)(fn:Func)(rvs:List ResultVar){T:List J->(J->Prop)->Prop}(o:jA T)(gj:∀args K,T args K->pQ (l0 E fn.ntmps rvs (fn.body.getD .skip) args [] (GZ K)))
 (aQ:P.funcs[f]? =some fn:=by kernel_rfl) (ae:fn.body=some (fn.body.getD .skip):=by kernel_rfl) (ar:(fn.name== "runtime.NumGoroutine")=false:=by kernel_rfl) (ak:fn.results=rvs.toArray:=by kernel_rfl):wz P f ps T:=
 ⟨U4 E dj aQ ae ar ak (fun args K h=>(gj args K h).h),o⟩
theorem aju (E:Env)(dj:hT P E)(fn:Func)(r:Tmp)(t:aO){T:List J->(ad->Prop)->Prop}(o:mr T)(gj:∀args K,T args K->pQ (l0 E fn.ntmps [.tmp r] (fn.body.getD .skip) args [] (CD t K)))
 (aQ:P.funcs[f]? =some fn:=by kernel_rfl) (ae:fn.body=some (fn.body.getD .skip):=by kernel_rfl) (ar:(fn.name== "runtime.NumGoroutine")=false:=by kernel_rfl) (ak:fn.results=[ResultVar.tmp r].toArray:=by kernel_rfl):wA P f ps T:=
 ⟨Uf E dj aQ ae ar ak (fun args K h=>(gj args K h).h),o⟩
theorem ajv (E:Env)(dj:hT P E)(fn:Func)(r:Tmp){T:List J->(ad->Prop)->Prop}(o:mr T)(gj:∀args K,T args K->pQ (l0 E fn.ntmps [.tmp r] (fn.body.getD .skip) args [] (DE K)))
 (aQ:P.funcs[f]? =some fn:=by kernel_rfl) (ae:fn.body=some (fn.body.getD .skip):=by kernel_rfl) (ar:(fn.name== "runtime.NumGoroutine")=false:=by kernel_rfl) (ak:fn.results=[ResultVar.tmp r].toArray:=by kernel_rfl):wB P f ps T:=
 ⟨V9 E dj aQ ae ar ak (fun args K h=>(gj args K h).h),o⟩
theorem ajw (E:Env)(dj:hT P E)(fn:Func)(rvs:List ResultVar)(ts:List aO){T:J->ad->List J->(ad->J->Prop)->Prop}(o:jB T)(gj:∀a0 ob args K,T a0 ob args K->pQ (BT E fn.ntmps rvs (fn.body.getD .skip) a0 ob args ts K))
 (aQ:P.funcs[f]? =some fn:=by kernel_rfl) (ae:fn.body=some (fn.body.getD .skip):=by kernel_rfl) (ar:(fn.name== "runtime.NumGoroutine")=false:=by kernel_rfl) (ak:fn.results=rvs.toArray:=by kernel_rfl) (aE:Code.gv (fn.body.getD .skip) 0=false:=by kernel_rfl) (gW:ts.length=rvs.length:=by kernel_rfl):wC P f ps T:=
 ⟨U5 E dj aQ ae ar ak aE gW (fun a o args K h=>(gj a o args K h).h),o⟩
theorem ajx (n:Nat)(E:Env)(dj:hT P E)(fn:Func)(rvs:List ResultVar)(ts:List aO){T:J->ad->List J->(ad->J->Prop)->Prop}(o:jB T)(gj:∀a0 ob args K,T a0 ob args K->pQ (w6 n E fn.ntmps rvs (fn.body.getD .skip) a0 ob args ts K))
 (aQ:P.funcs[f]? =some fn:=by kernel_rfl) (ae:fn.body=some (fn.body.getD .skip):=by kernel_rfl) (ar:(fn.name== "runtime.NumGoroutine")=false:=by kernel_rfl) (ak:fn.results=rvs.toArray:=by kernel_rfl) (aE:Code.gv (fn.body.getD .skip) n=false:=by kernel_rfl) (gW:ts.length=rvs.length:=by kernel_rfl) (je:n<=ps.length:=by decide):wD P f n ps T:=
 ⟨Lt n E dj aQ ae ar ak aE gW (fun a o args K h=>(gj a o args K h).h) je,o⟩
theorem ajy (E:Env)(dj:hT P E)(fn:Func)(r:Tmp){T:ad->List J->(ad->Prop)->Prop}(o:wa T)(gj:∀bW args K,T bW args K->pQ (l0 E fn.ntmps [.tmp r] (fn.body.getD .skip) (.vec 0::args) [(false,bW)] (C8 K)))
 (aQ:P.funcs[f]? =some fn:=by kernel_rfl) (ae:fn.body=some (fn.body.getD .skip):=by kernel_rfl) (ar:(fn.name== "runtime.NumGoroutine")=false:=by kernel_rfl) (ak:fn.results=[ResultVar.tmp r].toArray:=by kernel_rfl):wE P f ps T:=
 ⟨U6 E dj aQ ae ar ak fun aj l args K h=>(gj (.rows aj l) args K h).h,o⟩
theorem aiG {E:Env}{n:Nat}{rvs:List ResultVar}{c:Code}{args:List J}{own:aB}{K:J->aB->Prop}{Q:Prop}(h:l0 E n rvs c args own K=Q)(q:Q):pQ (l0 E n rvs c args own K):=⟨h▸q⟩
theorem aiH {m:Nat}{E:Env}{n:Nat}{rvs:List ResultVar}{c:Code}{a0:J}{ob:ad}{args:List J}{ts:List aO}{K:ad->J->Prop}{Q:Prop}(h:w6 m E n rvs c a0 ob args ts K=Q)(q:Q):pQ (w6 m E n rvs c a0 ob args ts K):=⟨h▸q⟩
theorem aih {E:Env}{n:Nat}{rvs:List ResultVar}{c:Code}{a0:J}{ob:ad}{args:List J}{ts:List aO}{K:ad->J->Prop}{Q:Prop}(h:BT E n rvs c a0 ob args ts K=Q)(q:Q):pQ (BT E n rvs c a0 ob args ts K):=⟨h▸q⟩
end
end Go.bG
end
