/- Helpers for the statements: facts about numbers, fractions and polynomials as lists, and the proofs of the conditions. Condition: none. -/
import Derived.Test.YtmeonjefiioegaaGreatDoorB1
section
open Go Go.ak
namespace aa
def qz (X:Nat->Rat)(w:Nat)(b:Rat):Nat->Rat:=fun i=>if i=w then b else X i
theorem PV {X Y:Nat->Rat}:∀{m:List Int} {j:Nat},(∀k,j<=k->X k=Y k)->eO X j m=eO Y j m
 |[],_,_=>rfl
 |a::m,j,h=>by rw[eO,eO,h j (apF _),PV (m:=m) fun k ag=>h k (by omega)]
theorem R6 {X:Nat->Rat}{b:Rat}:∀{m:List Int} {i w:Nat},w<m.length->eO (qz X (i+w) b) i m=eO X i (m.set w 0)*b^(m.getD w 0).toNat
 |[],_,_,h=>by cases h
 |a::m,i,0,_=>by
  rw[List.set_cons_zero,eO,eO,PV (X:=qz X (i+0) b) (Y:=X) fun k ag=>apy (by omega)];have az:qz X (i+0) b i=b:=apz rfl;have aJ:X i^Int.toNat 0=1:=arj _;rw[az,aJ,Rat.one_mul,Rat.mul_comm];rfl
 |a::m,i,w+1,h=>by
  rw[List.set_cons_succ,eO,eO,show i+(w+1)=i+1+w by omega,R6 (m:=m) (i:=i+1) (w:=w) (Nat.lt_of_succ_lt_succ h),arA];have az:qz X (i+1+w) b i=X i:=apy (by omega);rw[az];rfl
def yb (w i:Nat)(N:List bd):List bd:=N.filter fun t=>decide ((i:Int)<=t.1.getD w 0)
theorem uR (X:Nat->Rat)(t:bd)(p:List bd):aN X (t::p)=t.2*eO X 0 t.1+aN X p:=rfl
theorem Tj (Y:Nat->Rat)(w i:Nat):∀N:List bd,aN Y (yb w i N)=aN Y (yb w (i+1) N)+aN Y (EX w i N)
 |[]=>by show(0:Rat)=0+0;rw[arz]
 |t::N=>by
  have bI:=Tj Y w i N;unfold yb EX at bI⊢;rw[aqK,aqK,aqK]
  by_cases ab:(i:Int)<=t.1.getD w 0
  ·by_cases ad:t.1.getD w 0=(i:Int)
   ·rw[apz (aqN ab),apy (fun h=>by have:=apJ h;omega),apz (aqN ad),uR,uR,bI];grind
   ·rw[apz (aqN ab),apz (aqN (by omega)),apy (fun h=>ad (apJ h)),uR,uR,bI];grind
  ·rw[apy (fun h=>ab (apJ h)),apy (fun h=>by have:=apJ h;omega),apy (fun h=>by have:=apJ h;omega),bI]
theorem SO {X:Nat->Rat}{b:Rat}{w k:Nat}(hw:w<8):∀{N:List bd},(∀t∈N,t.1.length=8)->aN (qz X w b) (EX w k N)=aN X (rR w k N)*b^k
 |[],_=>by show(0:Rat)=0*_;rw[Rat.zero_mul]
 |t::N,h=>by
  have bI:=SO (X:=X) (b:=b) (k:=k) hw fun u hu=>h u (aqR _ hu);unfold EX rR at bI⊢;rw[aqK]
  by_cases e:t.1.getD w 0=(k:Int)
  ·have hm:=R6 (X:=X) (b:=b) (m:=t.1) (i:=0) (w:=w) (by rw[h t (by simp)];exact hw);rw[ap3,e,apB]at hm;rw[apz (aqN e),ap2,uR,uR,bI,hm];grind
  ·rw[apy (fun h=>e (apJ h)),bI]
theorem aeS {X:Nat->Rat}{N Q:List bd}{w:Nat}(hw:w<8)(BD:hr N)(oR:hr Q)(AP:∀i,hr (gr Q ((fp w N).drop i))):
 ∀(d i:Nat),i+d=(fp w N).length->aN X (gr Q ((fp w N).drop i))*aN X Q^i=aN (qz X w (aN X Q)) (yb w i N):=by
 have ax:(fp w N).length=(hZ N w+1).toNat:=by rw[fp];simp
 have d0:-1<=hZ N w:=(Ei (v:=w) (p:=N) (d:=-1)).1
 have d1:∀t∈N,t.1.getD w 0<=hZ N w:=(Ei (v:=w) (p:=N) (d:=-1)).2
 intro d
 induction d with
 |zero=>
  intro i hi;have:yb w i N=[]:=List.filter_eq_nil_iff.2 fun t aw h=>by have:=apJ h;have:=d1 t aw;omega
  rw[this,arP (by omega)];show(0:Rat)*_=0;rw[Rat.zero_mul]
 |succ d bI=>
  intro i hi;have mC:i<(fp w N).length:=by omega
  have aC:(fp w N)[i]=nrm (rR w i N):=by
   have:=abT (v:=w) (k:=i) (p:=N) (by omega);rw[apA,apT mC]at this;exact this
  rw[Tj,<-bI (i+1) (by omega),SO hw fun t aw=>(BD t aw).1,aqU mC,aC];show aN X (nrm (nrm (dJ (gr Q ((fp w N).drop (i+1))) Q)++nrm (rR w i N)))*_=_;rw[og,IW,og,og,SL X (AP (i+1)) oR,Rat.pow_succ];grind
theorem adx {X:Nat->Rat}{N Q:List bd}{w:Nat}(hw:w<8)(BD:hr N)(oR:hr Q)(AP:∀i,hr (gr Q ((fp w N).drop i))):
 aN X (gr Q (fp w N))=aN (qz X w (aN X Q)) N:=by
 have h:=aeS (X:=X) hw BD oR AP (fp w N).length 0 (ap3 _)
 have e:yb w 0 N=N:=List.filter_eq_self.2 fun t aw=>aqN (by
  have:=(BD t aw).2 _ (mQ (m:=t.1) (i:=w) (by rw[(BD t aw).1];exact hw))
  omega)
 rw[List.drop_zero,arj,ara,e]at h;exact h
theorem R7 {Q:List bd}(oR:hr Q):∀{l:List (List bd)},(∀c∈l,hr c)->hr (gr Q l)
 |[],_=>fun t aw=>by cases aw
 |c::l,h=>((R7 oR fun c aC=>h c (by simp[aC])).mul oR|>.nrm|>.app (h c (by simp))).nrm
structure ue (Q:List bd)(e:Int)(K n:Nat)(l:List (List bd)):Prop where
 ok:uW Q l
 fo:c4 e (gr Q l)
 fA:dE K (gr Q l)
 len:(gr Q l).length<=n
 nrm:h5 (gr Q l)
theorem aeT {Q c:List bd}{r:List (List bd)}{e:Int}{K n pW:Nat}(pX:c4 2 Q)(BE:dE 15 Q)(yv:Q.length<=3)(oR:h5 Q)(yi:c4 2 c)(anj:dE pW c)(lc:c.length<=4)(GA:h5 c)
 (h:ue Q e K n r) (he:0<=e/\e<=1000) (e5:1<=K/\K<=10000) (aB:n<=1000) (ab:3*(K+15+1)<=pW) (ad:pW<=100000):ue Q (e+2) (2*(pW+1)) (3*n+4) (c::r):=by
 have gP:=h.fo.mul pX;have yt:dE pW (nrm (dJ (gr Q r) Q)):=((dE.mul e5.1 h.fA BE).nrm (c:=3) fun m=>apS (OY m h.fo.len h.nrm.jm pX.len) yv).mono ab;have GG:(nrm (dJ (gr Q r) Q)).length<=3*n:=uE (by rw[zg,aqa];exact aqP yv h.len);have Gn:c4 (e+2) (nrm (dJ (gr Q r) Q)++c):=gP.nrm.app (yi.mono (by omega));have sg:=yt.app anj
 have jm:∀m,eB m (nrm (dJ (gr Q r) Q)++c)<=2:=fun m=>by
  have:=(iL (dJ (gr Q r) Q)).jm m;have:=GA.jm m;rw[uD];omega
 refine⟨⟨h.ok, ?_, ?_⟩,Gn.nrm,sg.nrm jm,uE (by rw[ap4];omega),iL _⟩
 ·have:=h.len;have lO:(gr Q r).length*Q.length<=1000*3:=aqP (by omega) yv;refine⟨c4.Fx h.fo (by omega) h.fA,c4.Fx pX (by decide) BE,K,15,3,e5.1,by decide,ri h.fA h.fo.len,ri BE pX.len, .inr ⟨by rw[hs];exact yv,fun m=>by rw[sy h.fo.len];exact h.nrm.jm m⟩,by omega,by omega, ?_,by rw[hs];omega,by rw[hs];omega⟩;rw[hs,hs];omega
 ·rw[PS];exact wN sg (by omega) (Gn.pV (by omega)) jm (by omega) (by omega) (by rw[ap4];omega)
theorem Dz {Q:List bd}{l:List (List bd)}{e f:Int}{K J n m:Nat}(h:ue Q e K n l)(he:e<=f)(e5:K<=J)(aB:n<=m):ue Q f J m l:=⟨h.ok,h.fo.mono he,h.fA.mono e5,apS h.len aB,h.nrm⟩
theorem aeU {Q:List bd}(pX:c4 2 Q)(BE:dE 15 Q)(yv:Q.length<=3)(oR:h5 Q){l:List (List bd)}(ax:l.length<=3)(aC:∀c∈l,c4 2 c/\dE 84 c/\c.length<=4/\h5 c):ue Q 6 6806 52 l:=by
 have bc:ue Q 0 1 0 []:=⟨trivial,fun t aw=>(by cases aw),fun t aw=>(by cases aw),apF _, .nil,fun t aw=>by cases aw⟩
 have st:∀{c:List bd} {r:List (List bd)} {e:Int} {K n:Nat} (pW:Nat),(c4 2 c/\dE 84 c/\c.length<=4/\h5 c)->ue Q e K n r->(0<=e/\e<=1000)->(1<=K/\K<=10000)->n<=1000->3*(K+15+1)<=pW->84<=pW->pW<=100000->ue Q (e+2) (2*(pW+1)) (3*n+4) (c::r):=
  fun pW ⟨a1,a2,a3,a4⟩ h he e5 aB ab aA ad=>aeT pX BE yv oR a1 (a2.mono aA) a3 a4 h he e5 aB ab ad
 match l,ax,aC with
 |[],_,_=>exact Dz bc (by decide) (by decide) (by decide)
 |[a],_,aC=>exact Dz (st 84 (aC a (by simp)) bc (by decide) (by decide) (by decide) (by decide) (by decide) (by decide)) (by decide) (by decide) (by decide)
 |[a,b],_,aC=>exact Dz (st 558 (aC a (by simp)) (st 84 (aC b (by simp)) bc (by decide) (by decide) (by decide) (by decide) (by decide) (by decide)) (by decide) (by decide) (by decide) (by decide) (by decide) (by decide)) (by decide) (by decide) (by decide)
 |[a,b,c],_,aC=>exact Dz (st 3402 (aC a (by simp)) (st 558 (aC b (by simp)) (st 84 (aC c (by simp)) bc (by decide) (by decide) (by decide) (by decide) (by decide) (by decide)) (by decide) (by decide) (by decide) (by decide) (by decide) (by decide)) (by decide) (by decide) (by decide) (by decide) (by decide) (by decide)) (by decide) (by decide) (by decide)
 |_::_::_::_::_,ax,_=>exact absurd ax (by simp)
end aa
end
section
open Go Go.ak
namespace aa
def LL:List Int->Int->(R->Prop)->Prop:=
 fun(l:List Int) (v:Int) (K:R->Prop)=>True/\∀(x:List Int),x=List.take (1000:Nat) l->∀(a7:Int),a7=(0:Int)->∀(aW:Int),aW=(0:Int)->(aa.ds x a7/\((0:Int)<=(3:Int)/\(3:Int)<=(8:Int))/\(0:Int)<=(4:Int)/\(4:Int)<=(1000:Int))/\∀(bn:List Int),bn=x->∀(b9:Int),b9=(aa.m4 x a7 (3:Int) (4:Int)).2->∀(cU:Int),cU=aW->∀(cB:List (List U)),cB=(aa.m4 x a7 (3:Int) (4:Int)).1->(aa.ds bn b9/\((0:Int)<=(3:Int)/\(3:Int)<=(8:Int))/\(0:Int)<=(3:Int)/\(3:Int)<=(1000:Int))/\∀(x:List Int),x=bn->∀(dc:Int),dc=(aa.m4 bn b9 (3:Int) (3:Int)).2->∀(dy:Int),dy=cU->∀(cX:List (List U)),cX=(aa.m4 bn b9 (3:Int) (3:Int)).1->(aa.ds x dc/\(0:Int)<=(3:Int)/\(3:Int)<=(1000:Int))/\∀(e8:List Int),e8=x->∀(fV:Int),fV=(aa.nx x dc (3:Nat)).2->∀(gB:Int),gB=dy->∀(hK:List (List U)),hK=(aa.nx x dc (3:Nat)).1->((aa.cC cB/\aa.Raw (400000:Nat) (999999999:Nat) cB)/\List.length hK<=(8:Nat)/\(aa.ea cB=true->aa.ot hK (aa.nrm (List.map aa.aM cB))))/\∀(x:List (List U)),x=hK->∀(ib:Bool),ib=aa.kW (aa.ea cB) (aa.aN (aa.dY hK) (List.map aa.aM cB))->∀(kn:List Int),kn=aa.kX (aa.ea cB) (aa.aN (aa.dY hK) (List.map aa.aM cB))->∀(mv:List Int),mv=aa.kY (aa.ea cB) (aa.aN (aa.dY hK) (List.map aa.aM cB))->∀(rN:Int),(rN=if aa.ea cB=true then(0:Int)else(2:Int))->((aa.cC cX/\aa.Raw (400000:Nat) (999999999:Nat) cX)/\List.length x<=(8:Nat)/\(aa.ea cX=true->aa.ot x (aa.nrm (List.map aa.aM cX))))/\∀(vq:List (List U)),vq=x->∀(nD:Bool),nD=aa.kW (aa.ea cX) (aa.aN (aa.dY x) (List.map aa.aM cX))->∀(mx:List Int),mx=aa.kX (aa.ea cX) (aa.aN (aa.dY x) (List.map aa.aM cX))->∀(my:List Int),my=aa.kY (aa.ea cX) (aa.aN (aa.dY x) (List.map aa.aM cX))->∀(x:Int),(x=if aa.ea cX=true then(0:Int)else(2:Int))->aa.om cB cX/\∀(ou:List (List U)),ou=aa.bK (if aa.ec cB cX=true then aa.nrm (HAppend.hAppend (List.map aa.aM cB) (List.map aa.aM cX))else[])->∀(JF:Int),(JF=if aa.ec cB cX=true then(0:Int)else(2:Int))->aa.zU cB cX/\∀(ov:List (List U)),ov=aa.bK (if aa.qw cB cX=true then aa.nrm (aa.dJ (List.map aa.aM cB) (List.map aa.aM cX))else[])->∀(JG:Int),(JG=if aa.ec cB cX=true then if aa.mF (aa.nrm (List.map aa.aM cB)) (aa.nrm (List.map aa.aM cX))=true then(9:Int)else(0:Int)else(2:Int))->((aa.cC ou/\aa.Raw (400000:Nat) (999999999:Nat) ou)/\List.length vq<=(8:Nat)/\(aa.ea ou=true->aa.ot vq (aa.nrm (List.map aa.aM ou))))/\∀(vr:List (List U)),vr=vq->∀(TS:Bool),TS=aa.kW (aa.ea ou) (aa.aN (aa.dY vq) (List.map aa.aM ou))->∀(JH:List Int),JH=aa.kX (aa.ea ou) (aa.aN (aa.dY vq) (List.map aa.aM ou))->∀(JI:List Int),JI=aa.kY (aa.ea ou) (aa.aN (aa.dY vq) (List.map aa.aM ou))->∀(JJ:Int),(JJ=if aa.ea ou=true then(0:Int)else(2:Int))->((aa.cC ov/\aa.Raw (400000:Nat) (999999999:Nat) ov)/\List.length vr<=(8:Nat)/\(aa.ea ov=true->aa.ot vr (aa.nrm (List.map aa.aM ov))))/\∀(vs:List (List U)),vs=vr->∀(TT:Bool),TT=aa.kW (aa.ea ov) (aa.aN (aa.dY vr) (List.map aa.aM ov))->∀(JK:List Int),JK=aa.kX (aa.ea ov) (aa.aN (aa.dY vr) (List.map aa.aM ov))->∀(JL:List Int),JL=aa.kY (aa.ea ov) (aa.aN (aa.dY vr) (List.map aa.aM ov))->∀(JM:Int),(JM=if aa.ea ov=true then(0:Int)else(2:Int))->((!decide (rN=(0:Int)))=true->K (R.d (U.bool false)))/\((!decide (rN=(0:Int)))=false->((!decide (x=(0:Int)))=true->K (R.d (U.bool false)))/\((!decide (x=(0:Int)))=false->((!decide (JF=(0:Int)))=true->K (R.d (U.bool false)))/\((!decide (JF=(0:Int)))=false->((!decide (JG=(0:Int)))=true->K (R.d (U.bool false)))/\((!decide (JG=(0:Int)))=false->((!decide (JJ=(0:Int)))=true->K (R.d (U.bool false)))/\((!decide (JJ=(0:Int)))=false->((!decide (JM=(0:Int)))=true->K (R.d (U.bool false)))/\((!decide (JM=(0:Int)))=false->(aa.bu (1000000:Nat) kn/\aa.bu (1000000:Nat) mv/\aa.bu (1000000:Nat) mx/\aa.bu (1000000:Nat) my)/\∀(x:Bool),x=aa.ca (aa.aV ib kn mv+aa.aV nD mx my)->∀(JN:List Int),JN=aa.b8 (aa.aV ib kn mv+aa.aV nD mx my)->∀(JO:List Int),JO=aa.b1 (aa.aV ib kn mv+aa.aV nD mx my)->(aa.bu (1000000:Nat) JH/\aa.bu (1000000:Nat) JI/\aa.bu (1000000:Nat) JN/\aa.bu (1000000:Nat) JO)/\∀(JP:Bool),JP=decide (aa.aV TS JH JI=aa.aV x JN JO)->((!JP)=true->K (R.d (U.bool false)))/\((!JP)=false->(aa.bu (1000000:Nat) kn/\aa.bu (1000000:Nat) mv/\aa.bu (1000000:Nat) mx/\aa.bu (1000000:Nat) my)/\∀(x:Bool),x=aa.ca (aa.aV ib kn mv*aa.aV nD mx my)->∀(JQ:List Int),JQ=aa.b8 (aa.aV ib kn mv*aa.aV nD mx my)->∀(JR:List Int),JR=aa.b1 (aa.aV ib kn mv*aa.aV nD mx my)->(aa.bu (1000000:Nat) JK/\aa.bu (1000000:Nat) JL/\aa.bu (1000000:Nat) JQ/\aa.bu (1000000:Nat) JR)/\∀(JS:Bool),JS=decide (aa.aV TT JK JL=aa.aV x JQ JR)->((!JS)=true->K (R.d (U.bool false)))/\((!JS)=false->((aa.cC cB/\aa.Raw (400000:Nat) (999999999:Nat) cB)/\(aa.cC cX/\aa.Raw (400000:Nat) (999999999:Nat) cX)/\(aa.ec cB cX=true->aa.hL cB (ai (Int.tmod v (3:Int)))=(0:Int)->aa.uW (aa.nrm (List.map aa.aM cX)) (aa.fp (Int.toNat (ai (Int.tmod v (3:Int)))) (aa.nrm (List.map aa.aM cB)))/\aa.cC (aa.bK (aa.td cB (ai (Int.tmod v (3:Int))) cX))))/\∀(x:List (List U)),(x=if aa.pj cB (ai (Int.tmod v (3:Int))) cX=(0:Int)then aa.bK (aa.td cB (ai (Int.tmod v (3:Int))) cX)else[])->∀(JT:Int),JT=aa.pj cB (ai (Int.tmod v (3:Int))) cX->((aa.cC x/\aa.Raw (400000:Nat) (999999999:Nat) x)/\List.length vs<=(8:Nat)/\(aa.ea x=true->aa.ot vs (aa.nrm (List.map aa.aM x))))/\∀(m9:List (List U)),m9=vs->∀(TU:Bool),TU=aa.kW (aa.ea x) (aa.aN (aa.dY vs) (List.map aa.aM x))->∀(JU:List Int),JU=aa.kX (aa.ea x) (aa.aN (aa.dY vs) (List.map aa.aM x))->∀(JV:List Int),JV=aa.kY (aa.ea x) (aa.aN (aa.dY vs) (List.map aa.aM x))->∀(JW:Int),(JW=if aa.ea x=true then(0:Int)else(2:Int))->(0:Int)<=ai (Int.tmod v (3:Int))/\ai (Int.tmod v (3:Int))<aT m9/\((aa.cC cB/\aa.Raw (400000:Nat) (999999999:Nat) cB)/\List.length (List.set m9 (Int.toNat (ai (Int.tmod v (3:Int)))) (setRow (List.getD m9 (Int.toNat (ai (Int.tmod v (3:Int)))) []) (0:Nat) [U.bool nD,U.af IntKind.u32 mx,U.af IntKind.u32 my]))<=(8:Nat)/\(aa.ea cB=true->aa.ot (List.set m9 (Int.toNat (ai (Int.tmod v (3:Int)))) (setRow (List.getD m9 (Int.toNat (ai (Int.tmod v (3:Int)))) []) (0:Nat) [U.bool nD,U.af IntKind.u32 mx,U.af IntKind.u32 my])) (aa.nrm (List.map aa.aM cB))))/\∀(x:List (List U)),x=List.set m9 (Int.toNat (ai (Int.tmod v (3:Int)))) (setRow (List.getD m9 (Int.toNat (ai (Int.tmod v (3:Int)))) []) (0:Nat) [U.bool nD,U.af IntKind.u32 mx,U.af IntKind.u32 my])->∀(x:Bool),x=aa.kW (aa.ea cB) (aa.aN (aa.dY (List.set m9 (Int.toNat (ai (Int.tmod v (3:Int)))) (setRow (List.getD m9 (Int.toNat (ai (Int.tmod v (3:Int)))) []) (0:Nat) [U.bool nD,U.af IntKind.u32 mx,U.af IntKind.u32 my]))) (List.map aa.aM cB))->∀(JX:List Int),JX=aa.kX (aa.ea cB) (aa.aN (aa.dY (List.set m9 (Int.toNat (ai (Int.tmod v (3:Int)))) (setRow (List.getD m9 (Int.toNat (ai (Int.tmod v (3:Int)))) []) (0:Nat) [U.bool nD,U.af IntKind.u32 mx,U.af IntKind.u32 my]))) (List.map aa.aM cB))->∀(JY:List Int),JY=aa.kY (aa.ea cB) (aa.aN (aa.dY (List.set m9 (Int.toNat (ai (Int.tmod v (3:Int)))) (setRow (List.getD m9 (Int.toNat (ai (Int.tmod v (3:Int)))) []) (0:Nat) [U.bool nD,U.af IntKind.u32 mx,U.af IntKind.u32 my]))) (List.map aa.aM cB))->∀(JZ:Int),(JZ=if aa.ea cB=true then(0:Int)else(2:Int))->(decide (JT=(0:Int))=true->(decide (JW=(0:Int))=true->(decide (JZ=(0:Int))=true->(List.length JU<=(1000000000:Nat)/\List.length JV<=(1000000000:Nat)/\List.length JX<=(1000000000:Nat)/\List.length JY<=(1000000000:Nat))/\∀(J0:Bool),J0=decide (TU=x/\JU=JX/\JV=JY)->(J0=true->True/\∀(x:Bool),x=true->K (R.d (U.bool x)))/\(J0=false->K (R.d (U.bool false))))/\(decide (JZ=(0:Int))=false->K (R.d (U.bool false))))/\(decide (JW=(0:Int))=false->K (R.d (U.bool false))))/\(decide (JT=(0:Int))=false->K (R.d (U.bool false)))))))))))
end aa
end
section
open Go Go.ak
namespace aa
theorem SP {X:Nat->Rat}{j e:Nat}(hg:∀i,c1 j (X i))(aI:1<=j):∀{m:List Int} {i:Nat},(∀y∈m,0<=y/\y<=(e:Int))->c1 (m.length*(j*e+1)+1) (eO X i m)
 |[],_,_=>by rw[eO,List.length_nil,aqI];exact c1.one
 |a::m,i,h=>by
  have aR:=h a (by simp);have ab:c1 (j*e+1) (X i^a.toNat):=(c1.pow (hg i) aI a.toNat).mono (Nat.add_le_add_right (apY _ (by omega)) _);rw[eO,aqj,Nat.succ_mul];exact(ab.mul (SP hg aI (i:=i+1) fun y bo=>h y (by simp[bo]))).mono (by omega)
theorem I9 {X:Nat->Rat}{j e k:Nat}(hg:∀i,c1 j (X i))(aI:1<=j):∀{p:List bd},dE k p->c4 e p->c1 ((k+(8*(j*e+1)+1)+1)*p.length+1) (aN X p)
 |[],_,_=>by rw[List.length_nil,ap0];exact c1.zero
 |t::p,h,he=>by
  have bI:=I9 hg aI (p:=p) (fun u hu=>h u (by simp[hu])) fun u hu=>he u (by simp[hu]);have ab:=SP (i:=0) hg aI (he t (by simp)).2;rw[(he t (by simp)).1]at ab;rw[uR,aqj,aq8];exact(((h t (by simp)).mul ab).add bI).mono (by omega)
theorem Tk {x:Rows}{j:Nat}(aI:1<=j)(h:∀r∈x,x_ j r)(i:Nat):c1 j (dY x i):=by
 rcases aq5 i x.length with hi|hi
 ·obtain⟨s,a,b,e,ab,ad⟩:=h _ (mO hi);show c1 j (ud (x.getD i []));rw[e];exact c1.of ab ad aI
 ·show c1 j (ud (x.getD i []));rw[apA,aqc hi];exact c1.zero.mono aI
theorem ot.rs {x:Rows}{p:List bd}(h:ot x p):c1 1000000 (aN (dY x) p):=by
 obtain⟨Lc,j,k,e,sf,aY,aj,aC,he,az,Ve,nA⟩:=h;refine(I9 (Tk sf aj) sf aC he).mono ?_;generalize j*e=z at*;have ab:(k+8*(z+1)+1)*(p.length+1)=(k+8*(z+1)+1)*p.length+(k+8*(z+1)+1):=aq8 ..;have ad:10*p.length<=(k+8*(z+1)+1)*p.length:=apP _ (by omega);have aA:(k+(8*(z+1)+1)+1)*p.length=(k+8*(z+1)+1)*p.length+p.length:=by rw[show k+(8*(z+1)+1)+1=(k+8*(z+1)+1)+1 by omega,Nat.succ_mul]
 omega
theorem e0.aN {e K n:Nat}{p x:Rows}(h:e0 e K n p)(aj:x.length<=8){j:Nat}(aI:1<=j)(xs:∀r∈x,x_ j r)(ab:e<=100000/\j*(4*e+4)<=900000/\(K+8*(j*e+1)+1)*(n+1)<=900000):ot x (nrm (p.map aM)):=
 ⟨aj,j,K,e,aI,h.raw.pos,xs,h.raw.fA,h.fo.nrm,ab.1,ab.2.1,apS (apY _ (Nat.add_le_add_right h.raw.mw _)) ab.2.2⟩
theorem SQ {l:List Int}{a:Int}(h:ds l a):∀k,∀r∈(nx l a k).1,x_ 1 r
 |0,r,ao=>by cases ao
 |k+1,r,ao=>by
  rcases aqV.1 ao with ao|ao
  ·exact SQ h k r ao
  ·rw[aqy.1 ao];have:=(sP (Eg h k).1).2;exact⟨_,_,_,rfl,this.num,this.den⟩
theorem I_ (r:Rat):kW true r=ca r:=rfl
theorem Ja (r:Rat):kX true r=b8 r:=rfl
theorem Jb (r:Rat):kY true r=b1 r:=rfl
theorem afz {x:Rows}{w:Nat}(hw:w<x.length){b:Rat}{r:Row}(ao:r=vm b):dY (x.set w r)=qz (dY x) w b:=by
 funext i
 subst ao
 by_cases e:i=w
 ·subst e;have aJ:qz (dY x) i b i=b:=apz rfl;rw[aJ];show ud ((x.set i (vm b)).getD i [])=b;rw[apA,List.getElem?_set_self hw];exact jE b
 ·have aJ:qz (dY x) w b i=dY x i:=apy e;rw[aJ];show ud ((x.set w (vm b)).getD i [])=ud (x.getD i []);rw[apA,List.getElem?_set_ne (fun h=>e h.symm),<-apA]
theorem aae {w:Nat}{N:List bd}(BF:c4 2 N)(ank:dE 20 N)(anl:N.length<=4):∀c∈fp w N,c4 2 c/\dE 84 c/\c.length<=4/\h5 c:=fun c aC=>by
 obtain⟨i,_,rfl⟩:=apQ.1 aC
 have ax:((N.filter fun t=>decide (t.1.getD w 0=(i:Int))).map fun t=>((t.1.set w 0,t.2):bd)).length<=4:=by
  rw[apI];exact apS (ar1 _ _) anl
 have az:c4 2 (rR w i N):=fun t aw=>by
  obtain⟨u,hu,_,rfl⟩:=Q3 aw;obtain⟨g1,g2⟩:=BF u hu;refine⟨by rw[apL];exact g1,fun x aj=> ?_⟩;rcases are aj with h|rfl
  ·exact g2 x h
  ·omega
 have aJ:dE 20 (rR w i N):=fun t aw=>by
  obtain⟨u,hu,_,rfl⟩:=Q3 aw;exact ank u hu
 exact⟨az.nrm,aJ.nrm (c:=4) fun m=>apS (Dv m _) ax,uE ax,iL _⟩
theorem Wf (l:List Int)(v:Int)(K:R->Prop)(h:BX.T [.d (.af .i64 l), .d (.int .u8 v)] K):LL l v K:=by
 obtain⟨⟨ax,v0,v1⟩,ag⟩:=h;unfold LL ai aT;have KY:=ahu v0 v1;simp only[KY.1];generalize fl:v%3=i at KY;obtain⟨_,tG,lQ⟩:=KY;have lQ:i<3:=fl▸Int.emod_lt_of_pos v (by decide)
 obtain⟨w,rfl⟩:∃w:Nat,i=w:=⟨i.toNat,by omega⟩
 have hw:w<3:=by omega
 simp only[apB];refine⟨trivial, ?_⟩;rintro L rfl _ rfl _ rfl;have au:=ds.new ax;obtain⟨bD,aE⟩:=e0.drawn (v:=3) (n:=4) (k:=4) au rfl (by decide);obtain⟨bx,a6⟩:=e0.drawn (v:=3) (n:=3) (k:=3) bD rfl (by decide);refine⟨⟨au,by decide,by decide⟩, ?_⟩;rintro _ rfl _ rfl _ rfl p qG;refine⟨⟨bD,by decide,by decide⟩, ?_⟩;rintro _ rfl _ rfl _ rfl q Vg;refine⟨⟨bx,by decide,by decide⟩, ?_⟩;rintro _ rfl _ rfl _ rfl x x3
 have xs:∀r∈x,x_ 1 r:=x3▸SQ bx 3
 have apr:x.length=3:=x3▸(Eg bx 3).2;clear x3;rw[<-qG]at aE;rw[<-Vg]at a6;clear qG Vg;have Lp:=aE.a_ (by decide);have V7:=a6.a_ (by decide);have Lq:=aE.mul a6 (by decide) (by decide);have tV:=aE.add a6 (by decide) (by decide);have V6:=aE.sk;have oR:=a6.sk;have gP:=aE.aN (x:=x) (j:=1) (by omega) (by decide) xs (by decide);have eq:=a6.aN (x:=x) (j:=1) (by omega) (by decide) xs (by decide);have gE:=aE.aU (by decide);have iG:=a6.aU (by decide);have Lr:=aE.raw.mono (J:=400000) (m:=999999999) (by decide) (by decide);have V8:=a6.raw.mono (J:=400000) (m:=999999999) (by decide) (by decide);have yw:x.length<=8:=by omega
 have kB:=gP.rs;have nS:=eq.rs;rw[og]at kB nS;simp only[Lp,V7,I_,Ja,Jb,ap1,true_implies];refine⟨⟨⟨gE,Lr⟩,yw,gP⟩, ?_⟩;intro z bm;rw[bm];clear bm z;rintro _ rfl _ rfl _ rfl _ rfl;refine⟨⟨⟨iG,V8⟩,yw,eq⟩, ?_⟩;intro z bm;rw[bm];clear bm z;rintro _ rfl _ rfl _ rfl _ rfl;refine⟨tV.1,fun s ay es FN=> ?_⟩;obtain⟨es,ay,BG,V9⟩:=tV.2 ay FN;refine⟨Lq.1,fun m hm em Vh=> ?_⟩;obtain⟨em,hm,BH,V_⟩:=Lq.2 hm Vh;clear ay hm FN Vh;have aH:=BG.a_ (by decide);have Wa:=BH.a_ (by decide);have pv:=BG.aN (e:=2) (x:=x) (j:=1) (by omega) (by decide) xs (by decide);have KZ:=BH.aN (e:=4) (x:=x) (j:=1) (by omega) (by decide) xs (by decide);have rs:=pv.rs;have wc:=KZ.rs;rw[og]at rs wc;simp only[aH,Wa,I_,Ja,Jb,ap1,true_implies];refine⟨⟨⟨BG.aU (by decide),BG.raw.mono (by decide) (by decide)⟩,yw,pv⟩, ?_⟩;intro z bm;rw[bm];clear bm z;rintro _ rfl _ rfl _ rfl _ rfl;refine⟨⟨⟨BH.aU (by decide),BH.raw.mono (by decide) (by decide)⟩,yw,KZ⟩, ?_⟩;intro z bm;rw[bm];clear bm z;rintro _ rfl _ rfl _ rfl _ rfl;refine ya rfl (ya rfl (ya es (ya em (ya rfl (ya rfl ⟨⟨kB.num,kB.den,nS.num,nS.den⟩, ?_⟩)))));have az:aN (dY x) (s.map aM)=aN (dY x) (p.map aM)+aN (dY x) (q.map aM):=by rw[V9,og,IW]
 have aJ:aN (dY x) (m.map aM)=aN (dY x) (p.map aM)*aN (dY x) (q.map aM):=by rw[V_,og,SL (dY x) V6 oR]
 rw[az]at rs;rw[aJ]at wc;simp only[jE,az,aJ];generalize aR:aN (dY x) (p.map aM)=a at*;generalize ah:aN (dY x) (q.map aM)=b at*;rintro _ rfl _ rfl _ rfl;refine⟨⟨rs.num,rs.den,rs.num,rs.den⟩, ?_⟩;rintro _ rfl;refine okB (by simp only[jE,decide_true]) ⟨⟨kB.num,kB.den,nS.num,nS.den⟩, ?_⟩;rintro _ rfl _ rfl _ rfl;refine⟨⟨wc.num,wc.den,wc.num,wc.den⟩, ?_⟩;rintro _ rfl;refine okB (by simp only[jE,decide_true]) ?_;clear rs wc aH Wa pv KZ es em az aJ BG BH V9 V_ Lq tV;have Vi:ec p q=true:=by rw[ec,Lp,V7];rfl
 have bc:hL p (w:Int)=0:=by rw[hL,apz Lp,apz ⟨tG,by omega⟩]
 have BF:=aE.fo.nrm;have pX:=a6.fo.nrm
 have mK:(fp w (nrm (p.map aM))).length<=3:=by
  have:(fp w (nrm (p.map aM))).length=(hZ (nrm (p.map aM)) w+1).toNat:=by rw[fp];simp
  have d2:hZ (nrm (p.map aM)) w<=2:=zY (by decide) BF (by decide) (by omega);omega
 have px:=aae (w:=w) BF (aE.raw.fA.mono (by decide)) aE.raw.mw;have ay:=aeU pX a6.raw.fA a6.raw.mw (iL _) mK px;have Wb:td p (w:Int) q=gr (nrm (q.map aM)) (fp w (nrm (p.map aM))):=by rw[td,apB]
 have vg:pj p (w:Int) q=0:=by
  rw[pj,apz Vi,apz bc,Wb,apy];have:=IX (d:=0) ay.fo (by decide);omega
 have aO:=adx (X:=dY x) (w:=w) (by omega) BF.sk pX.sk fun i=>R7 pX.sk fun c aC=>(px c (List.mem_of_mem_drop aC)).1.sk;rw[og,og,ah]at aO;rw[vg,Wb];simp only[Vi,bc,ap1,true_implies];have eV:=ay.ok;have yx:e0 6 6807 52 (bK (gr (nrm (q.map aM)) (fp w (nrm (p.map aM))))):=⟨Q0 ay.fA (by decide) ay.fo.len ay.nrm.jm ay.len,by rw[fP ay.fo.len];exact ay.fo⟩;have anm:(bK (gr (nrm (q.map aM)) (fp w (nrm (p.map aM))))).map aM=gr (nrm (q.map aM)) (fp w (nrm (p.map aM))):=fP ay.fo.len;refine⟨⟨⟨gE,Lr⟩,⟨iG,V8⟩,eV,yx.aU (by decide)⟩, ?_⟩;rw[<-anm]at aO;generalize bK (gr (nrm (q.map aM)) (fp w (nrm (p.map aM))))=W at yx aO;intro z bm;rw[bm];clear bm z;rintro _ rfl;have ann:=yx.a_ (by decide);have ub:=yx.aN (e:=6) (x:=x) (j:=1) (by omega) (by decide) xs (by decide);have Ls:=ub.rs;rw[og,aO]at Ls;simp only[ann,I_,Ja,Jb,ap1,true_implies,aO];refine⟨⟨⟨yx.aU (by decide),yx.raw.mono (by decide) (by decide)⟩,yw,ub⟩, ?_⟩;intro z bm;rw[bm];clear bm z;rintro _ rfl _ rfl _ rfl _ rfl;obtain⟨yd,a0,b0,GJ,_,_⟩:=xs _ (mO (l:=x) (i:=w) (by omega));have kj:setRow (x.getD w []) 0 [.bool (ca b), .af .u32 (b8 b), .af .u32 (b1 b)]=vm b:=by rw[GJ];rfl
 have AM:=afz (x:=x) (w:=w) (by omega) (b:=b) rfl
 have fi:c1 124 b:=by
  have:=I9 (j:=1) (e:=2) (Tk (apF _) xs) (apF _) a6.raw.fA pX;rw[og,ah]at this;exact this.mono (Nat.add_le_add_right (apY _ a6.raw.mw) _)
 have ak6:∀r∈x.set w (vm b),x_ 124 r:=fun r ao=>by
  rcases are ao with ao|rfl
  ·obtain⟨s,a,b,e,ab,ad⟩:=xs r ao;exact⟨s,a,b,e,ab.mono (by decide),ad.mono (by decide)⟩
  ·exact⟨_,_,_,rfl,fi.num,fi.den⟩
 have ak7:=aE.aN (x:=x.set w (vm b)) (j:=124) (by rw[apL];omega) (by decide) ak6 (by decide);rw[kj];simp only[AM];refine⟨tG,by omega,⟨⟨gE,Lr⟩,by rw[apL];exact yw,ak7⟩, ?_⟩;rintro _ rfl _ rfl _ rfl _ rfl _ rfl;have de:=Ls.num.2;have l2:=Ls.den.2;refine⟨fun _=>⟨fun _=>⟨fun _=>⟨⟨by omega,by omega,by omega,by omega⟩, ?_⟩,fun h=>absurd h (by decide)⟩,fun h=>absurd h (by decide)⟩,fun h=>absurd h (by decide)⟩;rintro _ rfl;exact ak5 (by simp) ⟨trivial,by rintro _ rfl;exact ag⟩
end aa
end
section
open Go Go.ak
theorem aa.aeZ {args:List R}{K:R->Prop}(bb:aa.Fg.T args K):∃s a b,args=[.agg [.d (.bool s), .d (.af .u32 a), .d (.af .u32 b)]]:=by unfold aa.Fg.T bk at bb;grind [Go.ak.ct]
theorem aa.aah {args:List R}{K:R->Prop}(bb:aa.Dj.T args K):∃s a b,args=[.d (.bool s), .d (.af .u32 a), .d (.af .u32 b)]:=by unfold aa.Dj.T bk at bb;grind [Go.ak.ct]
theorem aa.aai {args:List R}{K:R->Prop}(bb:aa.Dk.T args K):∃a,args=[.d (.af .u32 a)]:=by unfold aa.Dk.T bk at bb;grind [Go.ak.ct]
theorem aa.O4 {args:List R}{K:R->Prop}(bb:aa.w3.T args K):∃s a b,args=[.agg [.d (.bool s), .d (.af .u32 a), .d (.af .u32 b)]]:=by unfold aa.w3.T bk at bb;grind [Go.ak.ct]
theorem aa.ae0 {args:List R}{K:R->Prop}(bb:aa.Fh.T args K):∃a,args=[.d (.af .u32 a)]:=by unfold aa.Fh.T bk at bb;grind [Go.ak.ct]
theorem aa.XP {args:List R}{K:R->Prop}(bb:aa.Cg.T args K):∃n,args=[.d (.int .i64 n)]:=by unfold aa.Cg.T bk at bb;grind [Go.ak.ct]
theorem aa.Q5 {args:List R}{K:R->Prop}(bb:aa.ta.T args K):∃n,args=[.d (.int .i64 n)]:=by unfold aa.ta.T bk at bb;grind [Go.ak.ct]
theorem aa.ady {args:List R}{K:R->Prop}(bb:aa.Ex.T args K):∃n d,args=[.d (.int .i64 n), .d (.int .i64 d)]:=by unfold aa.Ex.T bk at bb;grind [Go.ak.ct]
theorem aa.Y4 {args:List R}{K:R->Prop}(bb:aa.CM.T args K):∃s a t b d,args=[.d (.bool s), .d (.af .u32 a), .d (.bool t), .d (.af .u32 b), .d (.af .u32 d)]:=by unfold aa.CM.T bk at bb;grind [Go.ak.ct]
theorem aa.Q6 {args:List R}{K:R->Prop}(bb:aa.xm.T args K):∃s a b t c d,args=[.agg [.d (.bool s), .d (.af .u32 a), .d (.af .u32 b)], .agg [.d (.bool t), .d (.af .u32 c), .d (.af .u32 d)]]:=by unfold aa.xm.T bk at bb;grind [Go.ak.ct]
theorem aa.Q7 {args:List R}{K:R->Prop}(bb:aa.xn.T args K):∃s a b,args=[.agg [.d (.bool s), .d (.af .u32 a), .d (.af .u32 b)]]:=by unfold aa.xn.T bk at bb;grind [Go.ak.ct]
theorem aa.Q8 {args:List R}{K:R->Prop}(bb:aa.xo.T args K):∃s a b t c d,args=[.agg [.d (.bool s), .d (.af .u32 a), .d (.af .u32 b)], .agg [.d (.bool t), .d (.af .u32 c), .d (.af .u32 d)]]:=by unfold aa.xo.T bk at bb;grind [Go.ak.ct]
theorem aa.Q9 {args:List R}{K:R->Prop}(bb:aa.xp.T args K):∃s a b t c d,args=[.agg [.d (.bool s), .d (.af .u32 a), .d (.af .u32 b)], .agg [.d (.bool t), .d (.af .u32 c), .d (.af .u32 d)]]:=by unfold aa.xp.T bk at bb;grind [Go.ak.ct]
theorem aa.abY {args:List R}{K:R->Prop}(bb:aa.xa.T args K):∃s a b,args=[.agg [.d (.bool s), .d (.af .u32 a), .d (.af .u32 b)]]:=by unfold aa.xa.T bk at bb;grind [Go.ak.ct]
theorem aa.Q_ {args:List R}{K:R->Prop}(bb:aa.xq.T args K):∃s a b t c d,args=[.agg [.d (.bool s), .d (.af .u32 a), .d (.af .u32 b)], .agg [.d (.bool t), .d (.af .u32 c), .d (.af .u32 d)]]:=by unfold aa.xq.T bk at bb;grind [Go.ak.ct]
theorem aa.O5 {args:List R}{K:R->Prop}(bb:aa.sL.T args K):∃s a b t c d,args=[.agg [.d (.bool s), .d (.af .u32 a), .d (.af .u32 b)], .agg [.d (.bool t), .d (.af .u32 c), .d (.af .u32 d)]]:=by unfold aa.sL.T bk at bb;grind [Go.ak.ct]
theorem aa.Y5 {args:List R}{K:R->Prop}(bb:aa.CN.T args K):∃s a b,args=[.agg [.d (.bool s), .d (.af .u32 a), .d (.af .u32 b)]]:=by unfold aa.CN.T bk at bb;grind [Go.ak.ct]
theorem aa.aaj {args:List R}{K:R->Prop}(bb:aa.Dl.T args K):∃s a b,args=[.d (.bool s), .d (.af .u32 a), .d (.af .u32 b)]:=by unfold aa.Dl.T bk at bb;grind [Go.ak.ct]
theorem aa.Y6 {args:List R}{K:R->Prop}(bb:aa.CO.T args K):∃s a b,args=[.agg [.d (.bool s), .d (.af .u32 a), .d (.af .u32 b)]]:=by unfold aa.CO.T bk at bb;grind [Go.ak.ct]
theorem aa.abZ {args:List R}{K:R->Prop}(bb:aa.DZ.T args K):∃s a b,args=[.agg [.d (.bool s), .d (.af .u32 a), .d (.af .u32 b)]]:=by unfold aa.DZ.T bk at bb;grind [Go.ak.ct]
theorem aa.ab0 {args:List R}{K:R->Prop}(bb:aa.DY.T args K):∃s a b t c d,args=[.agg [.d (.bool s), .d (.af .u32 a), .d (.af .u32 b)], .agg [.d (.bool t), .d (.af .u32 c), .d (.af .u32 d)]]:=by unfold aa.DY.T bk at bb;grind [Go.ak.ct]
theorem aa.Y7 {a0:R}{b0:ae}{args:List R}{K:ae->R->Prop}(bb:aa.CP.T a0 b0 args K):∃l a s x y,a0= .ptr 0 0/\b0= .cells [.d (.af .i64 l), .d (.int .i64 a), .d (.int .i64 s)]/\args=[.d (.int .i64 x), .d (.int .i64 y)]:=by unfold aa.CP.T e7 at bb;grind [Go.ak.ct]
theorem aa.ab1 {a0:R}{b0:ae}{args:List R}{K:ae->R->Prop}(bb:aa.D0.T a0 b0 args K):∃l a s,a0= .ptr 0 0/\b0= .cells [.d (.af .i64 l), .d (.int .i64 a), .d (.int .i64 s)]/\args=[]:=by unfold aa.D0.T e7 at bb;grind [Go.ak.ct]
theorem aa.Y8 {a0:R}{b0:ae}{args:List R}{K:ae->R->Prop}(bb:aa.CQ.T a0 b0 args K):∃l a s,a0= .ptr 0 0/\b0= .cells [.d (.af .i64 l), .d (.int .i64 a), .d (.int .i64 s)]/\args=[]:=by unfold aa.CQ.T e7 at bb;grind [Go.ak.ct]
end
section
namespace aa
open Go Go.ak
end aa
end
section
open Go Go.ak
namespace aa
end aa
end
section
open Go Go.ak
namespace aa
end aa
end
section
open Go Go.ak
namespace aa
theorem XQ (n:Int)(K:R->Prop)(h:Ca.T [.d (.int .i64 n)] K):MU n K:=by
 obtain⟨⟨ab,ad⟩,ag⟩:=h;unfold MU bY;refine⟨fun h=> ?_,fun h=> ?_⟩
 ·simp only[apE]at h;rw[apz h,apz h]at ag;exact ag
 ·simp only[apD]at h;rw[apy h,apy h]at ag
  obtain⟨q,rfl⟩:∃q:Nat,n=q:=⟨n.toNat,by omega⟩
  have e:cN .and .i64 (q:Int) 4294967295=((q%4294967296:Nat):Int):=Tc q 32 (by omega) (by decide);have aJ:Int.fdiv (q:Int) 4294967296=((q/4294967296:Nat):Int):=by rw[aqf _ (by omega)];omega
  rw[e,aJ,ia (x:=((q%4294967296:Nat):Int)) (by omega),ia (x:=((q/4294967296:Nat):Int)) (by omega)];have ax:bN [((q%4294967296:Nat):Int),((q/4294967296:Nat):Int)]:= .mk (by omega) (.mk (by omega) .nil);refine⟨⟨ax,by simp⟩, ?_⟩;rw[TE ax,apB,apB,Nat.mod_add_div];rw[apB]at ag;exact ag
theorem ab2 (a b:List Int)(K:R->Prop)(h:Dg.T [.d (.af .u32 a), .d (.af .u32 b)] K):OL a b K:=by
 obtain⟨⟨aR,ah⟩,ag⟩:=h;have gM:=jG aR;have k_:=jG ah;have k3:=aR.2;have ew:=ah.2;unfold OL ai aX bY
 have pG:cmp (val a) (val b)<0↔val a<val b:=by
  unfold cmp;split
  ·simp[*]
  ·split<;>simp[*]
 refine⟨⟨aR,ah⟩,fun h=> ?_,fun h=>⟨aR,ah, ?_⟩⟩
 ·simp only[apE]at h;rw[apz (pG.1 h),apz (pG.1 h)]at ag;exact ag
 ·simp only[apD]at h;have jj:¬val a<val b:=fun aj=>h (pG.2 aj);rw[apy jj,apy jj]at ag
  have Kw:(aP (val b)).length<=(aP (val a)).length:=by
   rw[h0];have:=h0.1 (apF (aP (val a)).length);omega
  have dG:=gz (val a);have eH:=gz (val b);have nN:=eh (val a);have ng:=eh (val b);rw[<-nN,<-ng]at ag jj;generalize aP (val a)=A at*;generalize aP (val b)=B at*;refine⟨fun c i o bD=>bD=B/\bN o/\o.length=A.length/\∃C i0:Nat,c=C/\i=i0/\i0<=A.length/\C<=1/\val o+du B i0=val A+4294967296^i0*C,fun c i o bD=>A.length-i.toNat,⟨rfl,dG,rfl,0,0,rfl,rfl,by omega,by omega,by rw[iK,ap0]⟩, ?_⟩;rintro c i o bD ⟨rfl,aF,gl,C,n,rfl,rfl,aB,mK,ay⟩;rw[gl];refine⟨fun h=> ?_,fun h=> ?_⟩
  ·simp only[apE]at h;have az:IntKind.wrap .i64 ((n:Int)+1)=((n+1:Nat):Int):=by rw[bQ (by omega)];omega
   simp only[az,apB,ix eH,ix aF];have aj:=fT aF n;have bo:=fT eH n;have Bg:¬n<bD.length->lm bD n=0:=fun h=>by unfold lm;rw[y6 (by omega)];rfl
   obtain⟨x,hB⟩:∃x,lm o n=x:=⟨_,rfl⟩
   obtain⟨y,nO⟩:∃x,lm bD n=x:=⟨_,rfl⟩
   rw[hB]at aj;rw[nO]at bo Bg;simp only[hB,nO];refine⟨fun v=>v=((C+y:Nat):Int),⟨fun ab=> ?_,fun ab=> ?_⟩, ?_⟩
   ·simp only[apE]at ab;refine⟨by omega,ab,by first|rfl|trivial,by first|rfl|trivial, ?_⟩;rw[cT (x:=(y:Int)) (by omega),cT (by omega)];omega
   ·simp only[apD]at ab;refine⟨by first|rfl|trivial,by first|rfl|trivial, ?_⟩;rw[Bg (by omega)];rfl
   rintro v rfl;have w1:IntKind.wrap .u64 (x:Int)=(x:Int):=cT (by omega);have dd:IntKind.wrap .u64 ((x:Int)+4294967296)=(x:Int)+4294967296:=cT (by omega);simp only[w1,dd]
   have key:∀st np:Nat,st<4294967296->np<=1->st+y+C=x+4294967296*np->
    val (o.set n (st:Int))+du bD (n+1)=val A+4294967296^(n+1)*np:=fun st np ab ad aA=>by
    have kv:=l9 o n (st:Int) (by omega);rw[show(o.getD n 0).toNat=x from hB,apB]at kv;have ba:=aqd (4294967296^n*·) aA;simp only[apN]at ba;rw[gA,show(bD.getD n 0).toNat=y from nO,ap6,aqb];omega
   refine⟨by omega,by omega,fun ad=>⟨by omega,by omega, ?_, ?_⟩,fun ad=>⟨by omega,by omega, ?_, ?_⟩⟩
   ·simp only[apE]at ad
    have bY:IntKind.wrap .u32 (IntKind.wrap .u64 ((x:Int)+4294967296-((C+y:Nat):Int)))=((x+4294967296-C-y:Nat):Int):=by
     rw[cT (by omega),ia (by omega)];omega
    rw[bY];exact⟨by first|rfl|trivial,aF.set _ ⟨by omega,by omega⟩,by rw[apL];exact gl,1,n+1,rfl,rfl,by omega,by omega,key _ 1 (by omega) (by omega) (by omega)⟩
   ·show A.length-((n+1:Nat):Int).toNat<A.length-(n:Int).toNat;omega
   ·simp only[apD]at ad
    have bY:IntKind.wrap .u32 (IntKind.wrap .u64 ((x:Int)-((C+y:Nat):Int)))=((x-C-y:Nat):Int):=by
     rw[cT (by omega),ia (by omega)];omega
    rw[bY];exact⟨by first|rfl|trivial,aF.set _ ⟨by omega,by omega⟩,by rw[apL];exact gl,0,n+1,rfl,rfl,by omega,by omega,key _ 0 (by omega) (by omega) (by omega)⟩
   ·show A.length-((n+1:Nat):Int).toNat<A.length-(n:Int).toNat;omega
  ·simp only[apD]at h;obtain rfl:n=A.length:=by omega
   refine⟨⟨aF,by omega⟩, ?_⟩;rw[hI bD Kw]at ay;have bL:=iM aF;rw[gl]at bL
   have A4:C=0:=by
    rcases aq7 C with bc|bc
    ·exact bc
    ·obtain rfl:C=1:=by omega
     rw[ap8]at ay;omega
   rw[A4,ap0,apV]at ay;have:val o=val A-val bD:=by omega
   rw[this];exact ag
theorem af5 (p q s:Nat)(a6:q<2^s)(h:p*2^s+q<18446744073709551616):cN .or .u64 ((p*2^s:Nat):Int) (q:Int)=((p*2^s+q:Nat):Int):=Ju p q s a6 h
theorem Y9 (a:List Int)(k:Int)(K:ae->Prop)(h:Cv.T [.d (.af .u32 a), .d (.int .i64 k)] K):NO a k K:=by
 obtain⟨⟨aR,tH,iA⟩,ag⟩:=h;have gM:=aR.2
 obtain⟨s,rfl⟩:∃n:Nat,k=n:=⟨k.toNat,by omega⟩
 rw[apB]at ag;unfold NO ai aX bY aT;have hq:IntKind.wrap .i64 ((Nat.cast:Nat->Int) a.length+1)=((a.length+1:Nat):Int):=by rw[bQ (by omega)];omega
 have bZ:IntKind.wrap .u64 (s:Int)=(s:Int):=cT (by omega);rw[hq];simp only[bZ,apB,show min s 64=s by omega];have F4:2^s<=2147483648:=aqg (show 0<2 by decide) (show s<=31 by omega);have aE:=aqu s;refine⟨by omega,by omega,by omega,fun c i o=>bN o/\o.length=a.length+1/\∃C n:Nat,c=C/\i=n/\n<=a.length/\C<2^s/\du o n+4294967296^n*C=du a n*2^s,fun c i o=>a.length-i.toNat,⟨bN.nv _,by simp,0,0,rfl,rfl,by omega,aE,by rw[iK,iK,ap0,aqI]⟩, ?_⟩;rintro c i o ⟨aF,gl,C,n,rfl,rfl,aB,mK,ay⟩;refine⟨fun h=> ?_,fun h=> ?_⟩
 ·simp only[apE]at h;have az:IntKind.wrap .i64 ((n:Int)+1)=((n+1:Nat):Int):=by rw[bQ (by omega)];omega
  simp only[az,apB,ix aR.1];have a_:=fT aR.1 n;have ky:(a.getD n 0).toNat=lm a n:=rfl
  obtain⟨d,iS⟩:∃d,lm a n=d:=⟨_,rfl⟩
  rw[iS]at a_ ky;simp only[iS];have bL:d*2^s<4294967296*2^s:=arO a_ aE;have jq:(2:Int)^s=((2^s:Nat):Int):=by simp
  have m6:d*2^s+C<4294967296*2^s:=by
   have:=apP (2^s) (show d+1<=4294967296 by omega);rw[apU,aqO]at this;omega
  have w1:cN .or .u64 (IntKind.wrap .u64 (IntKind.wrap .u64 (d:Int)*(2:Int)^s)) (C:Int)=((d*2^s+C:Nat):Int):=by
   rw[cT (x:=(d:Int)) (by omega),jq,<-aqJ,cT ⟨aqw _,by omega⟩];exact af5 d C s mK (by omega)
  simp only[w1]
  obtain⟨S,hC,UN⟩:∃S,d*2^s+C=S/\S<4294967296*2^s:=⟨_,rfl,m6⟩
  simp only[hC];have dd:IntKind.wrap .u32 (S:Int)=((S%4294967296:Nat):Int):=by rw[kg];omega
  have bY:Int.fdiv (S:Int) 4294967296=((S/4294967296:Nat):Int):=by rw[aqf _ (by omega)];omega
  simp only[dd,bY];have bp:S/4294967296<2^s:=ars UN;refine⟨by omega,by omega,by omega,by omega,by omega,⟨aF.set _ ⟨by omega,by omega⟩,by rw[apL];exact gl,S/4294967296,n+1,rfl,rfl,by omega,bp, ?_⟩,by show a.length-((n+1:Nat):Int).toNat<a.length-(n:Int).toNat;omega⟩;rw[gA,rA _ _ _ _ (apF _),eR,apz ⟨rfl,by omega⟩,apB,gA,ky,apU,<-ay,aqb,ap6,aqb]
  have bJ:4294967296^n*(d*2^s)+4294967296^n*C=4294967296^n*(S%4294967296)+4294967296^n*(4294967296*(S/4294967296)):=by
   rw[<-apN,<-apN,hC,Nat.mod_add_div]
  omega
 ·simp only[apD]at h;obtain rfl:n=a.length:=by omega
  have dd:IntKind.wrap .u32 (C:Int)=(C:Int):=ia (by omega);simp only[dd,apB];rw[hI a (apF _)]at ay
  have aO:val (o.set a.length (C:Int))=val a*2^s:=by
   rw[<-hI (o.set a.length (C:Int)) (i:=a.length+1) (by rw[apL];omega),gA,rA _ _ _ _ (apF _),eR,apz ⟨rfl,by omega⟩,apB];exact ay
  have ax:(o.set a.length (C:Int)).length=a.length+1:=by rw[apL];exact gl
  rw[<-aO,<-ax,It _ (aF.set _ ⟨by omega,by omega⟩) rfl]at ag;exact⟨by omega,by omega,ag⟩
theorem af6 (p q s:Nat)(a6:q<2^s)(h:p*2^s+q<18446744073709551616):cN .or .u64 (q:Int) ((p*2^s:Nat):Int)=((p*2^s+q:Nat):Int):=by
 rw[Pu];exact Ju p q s a6 h
theorem XR (a:List Int)(k:Int)(K:R->Prop)(h:Cb.T [.d (.af .u32 a), .d (.int .i64 k)] K):MT a k K:=by
 obtain⟨⟨py,tH,iA⟩,ag⟩:=h;have aR:=py.1;have gM:=py.2
 obtain⟨s,rfl⟩:∃n:Nat,k=n:=⟨k.toNat,by omega⟩
 rw[apB]at ag;unfold MT ai aX bY aT;have bZ:IntKind.wrap .u64 (s:Int)=(s:Int):=cT (by omega);have ahE:s<32:=by omega
 simp only[bZ,apB,show min s 64=s by omega,ix aR];refine⟨by omega,by omega,by omega,fun i o=>bN o/\o.length=a.length/\∃n:Nat,i=n/\n<=a.length/\du o n=val a/2^s%4294967296^n,fun i o=>a.length-i.toNat,⟨bN.nv _,by simp,0,rfl,by omega,by rw[iK,arf,Nat.mod_one]⟩, ?_⟩;rintro i o ⟨aF,gl,n,rfl,aB,aO⟩;refine⟨fun h=> ?_,fun h=> ?_⟩
 ·simp only[apE]at h;have az:IntKind.wrap .i64 ((n:Int)+1)=((n+1:Nat):Int):=by rw[bQ (by omega)];omega
  simp only[az,apB];have aj:=fT aR n;have bo:=fT aR (n+1);have Bg:¬n+1<a.length->lm a (n+1)=0:=fun h=>by unfold lm;rw[y6 (by omega)];rfl
  have K5:eu a n=lm a n+4294967296*(lm a (n+1)+4294967296*eu a (n+2)):=by rw[mm a n,mm a (n+1)]
  obtain⟨x,hB⟩:∃x,lm a n=x:=⟨_,rfl⟩
  obtain⟨y,nO⟩:∃x,lm a (n+1)=x:=⟨_,rfl⟩
  rw[hB]at aj K5;rw[nO]at bo Bg K5;simp only[hB,nO];have er:IntKind.wrap .u64 (x:Int)=(x:Int):=cT (by omega)
  have w1:IntKind.wrap .u64 (IntKind.wrap .u64 (y:Int)*4294967296)=((y*2^32:Nat):Int):=by
   have tF:(2:Nat)^32=4294967296:=rfl;rw[cT (x:=(y:Int)) (by omega),cT (by omega),tF];omega
  have dd:cN .or .u64 (x:Int) ((y*2^32:Nat):Int)=((y*4294967296+x:Nat):Int):=af6 y x 32 (by have tF:(2:Nat)^32=4294967296:=rfl;omega) (by have tF:(2:Nat)^32=4294967296:=rfl;omega);simp only[er,w1,dd];refine⟨by omega,by omega,fun v=>v=((y*4294967296+x:Nat):Int),⟨fun ab=> ?_,fun ab=> ?_⟩, ?_⟩
  ·simp only[apE]at ab;exact⟨by omega,ab,by first|rfl|trivial,rfl⟩
  ·simp only[apD]at ab;refine⟨by first|rfl|trivial, ?_⟩;rw[Bg (by omega),aqI,ap3]
  rintro v rfl;have jq:(2:Int)^s=((2^s:Nat):Int):=by simp
  have bY:Int.fdiv ((y*4294967296+x:Nat):Int) ((2:Int)^s)=(((y*4294967296+x)/2^s:Nat):Int):=by
   rw[jq,aqf _ (aqw _),aru]
  have kc:IntKind.wrap .u32 (((y*4294967296+x)/2^s:Nat):Int)=(((y*4294967296+x)/2^s%4294967296:Nat):Int):=by
   rw[kg,arM];rfl
  simp only[bY,kc]
  have I6:(y*4294967296+x)/2^s%4294967296=val a/2^s/4294967296^n%4294967296:=by
   rw[NM (A:=eu a (n+2)) ahE,<-K5,<-IT aR n,Nat.div_div_eq_div_mul,Nat.div_div_eq_div_mul,aqa]
  rw[I6];have hg:val a/2^s/4294967296^n%4294967296<4294967296:=aqh _ (by decide);refine⟨by omega,by omega,by omega,⟨aF.set _ ⟨aqw _,by omega⟩,by rw[apL];exact gl,n+1,rfl,by omega, ?_⟩,by show a.length-((n+1:Nat):Int).toNat<a.length-(n:Int).toNat;omega⟩;rw[gA,rA _ _ _ _ (apF _),eR,apz ⟨rfl,by omega⟩,apB,aO,ap6,Nat.mod_mul]
 ·simp only[apD]at h;obtain rfl:n=a.length:=by omega
  rw[hI o (by omega),aqt (aq_ (arZ _ _) (iM aR))]at aO;refine⟨⟨aF,by omega⟩, ?_⟩;rw[aO];exact ag
end aa
end
section
open Go Go.ak
namespace aa
def Mf:(R->Prop)->Prop:=
 fun K=>True/\∀x,x=bK (if(0:Int)<=(0:Int)/\(0:Int)<(8:Int)then[(dV.set (0:Nat) (1:Int),nC)]else[])->∀a7,a7=(0:Int)->True/\∀aW,aW=bK (if(0:Int)<=(1:Int)/\(1:Int)<(8:Int)then[(dV.set (1:Nat) (1:Int),nC)]else[])->∀bn,bn=(0:Int)->om x aW/\∀b9,b9=bK (if ec x aW=true then nrm (List.map aM x++List.map aM aW)else[])->∀cU,(cU=if ec x aW=true then(0:Int)else(2:Int))->om x aW/\∀cB,cB=bK (if ec x aW=true then nrm (List.map aM x++eS (-1:Rat) (List.map aM aW))else[])->∀dc,(dc=if ec x aW=true then(0:Int)else(2:Int))->zU b9 cB/\∀x,x=bK (if qw b9 cB=true then nrm (dJ (List.map aM b9) (List.map aM cB))else[])->∀dy,(dy=if ec b9 cB=true then if mF (nrm (List.map aM b9)) (nrm (List.map aM cB))=true then(9:Int)else(0:Int)else(2:Int))->(x=[[U.int .i64 (2:Int),U.int .i64 (0:Int),U.int .i64 (0:Int),U.int .i64 (0:Int),U.int .i64 (0:Int),U.int .i64 (0:Int),U.int .i64 (0:Int),U.int .i64 (0:Int),U.bool false,U.af .u32 [(1:Int)],U.af .u32 [(1:Int)]],[U.int .i64 (0:Int),U.int .i64 (2:Int),U.int .i64 (0:Int),U.int .i64 (0:Int),U.int .i64 (0:Int),U.int .i64 (0:Int),U.int .i64 (0:Int),U.int .i64 (0:Int),U.bool true,U.af .u32 [(1:Int)],U.af .u32 [(1:Int)]]]/\[[U.str [(112:Int)]],[U.str [(113:Int)]]]=[[U.str [(112:Int)]],[U.str [(113:Int)]]])/\∀x,x=[(112:Int),(94:Int),(50:Int),(32:Int),(45:Int),(32:Int),(113:Int),(94:Int),(50:Int)]->∀cX,cX=(0:Int)->(decide (a7=(0:Int))=true->(decide (bn=(0:Int))=true->(decide (cU=(0:Int))=true->(decide (dc=(0:Int))=true->(decide (dy=(0:Int))=true->(decide (cX=(0:Int))=true->K (R.d (U.bool (decide (x=[(112:Int),(94:Int),(50:Int),(32:Int),(45:Int),(32:Int),(113:Int),(94:Int),(50:Int)])))))/\(decide (cX=(0:Int))=false->K (R.d (U.bool false))))/\(decide (dy=(0:Int))=false->K (R.d (U.bool false))))/\(decide (dc=(0:Int))=false->K (R.d (U.bool false))))/\(decide (cU=(0:Int))=false->K (R.d (U.bool false))))/\(decide (bn=(0:Int))=false->K (R.d (U.bool false))))/\(decide (a7=(0:Int))=false->K (R.d (U.bool false)))
end aa
end
section
open Go Go.ak
namespace aa
def GR:(R->Prop)->Prop:=
 fun K=>(0:Int)<=(2:Int)/\(2:Int)<=(3:Int)/\(3:Int)<=(36:Int)/\K (R.d (U.str (List.drop (2:Nat) (List.take (3:Nat) (have y:=have y:=have y:=[(118:Int),(119:Int),(120:Int),(121:Int),(122:Int)];(114:Int)::(115:Int)::(116:Int)::(117:Int)::y;have y:=(109:Int)::(110:Int)::(111:Int)::(112:Int)::(113:Int)::y;(105:Int)::(106:Int)::(107:Int)::(108:Int)::y;have y:=have y:=(100:Int)::(101:Int)::(102:Int)::(103:Int)::(104:Int)::y;(57:Int)::(97:Int)::(98:Int)::(99:Int)::y;have y:=(52:Int)::(53:Int)::(54:Int)::(55:Int)::(56:Int)::y;(48:Int)::(49:Int)::(50:Int)::(51:Int)::y)))))
def MN:(R->Prop)->Prop:=
 fun K=>(2:Int)=(2:Int)/\K (R.d (U.str [(50:Int)]))
def Mb:(R->Prop)->Prop:=
 fun K=>((2:Int)=(2:Int)/\(10:Int)=(10:Int))/\K (R.d (U.str [(50:Int)]))
def GQ:(R->Prop)->Prop:=
 fun K=>(2:Int)=(2:Int)/\K (R.d (U.str [(50:Int)]))
def GU:List Int->List Int->(R->Prop)->Prop:=
 fun x s K=>(0:Int)<=(0:Int)/\(0:Int)<↑[[U.str x]].length/\([U.str x].getD (0:Nat) U.undef).isStr/\K (R.d (U.str x))
def GS:(R->Prop)->Prop:=
 fun K=>[gW,gX]=[gW,gX]/\[gW,gX]=[gW,gX]/\(0:Int)<=(0:Int)/\(0:Int)<(2:Int)/\(11:Nat)=(11:Nat)/\(List.getD gW (8:Nat) U.undef).isBool/\(List.getD gW (9:Nat) U.undef).fJ .u32/\(List.getD gW (10:Nat) U.undef).fJ .u32/\([(1:Int)]=[(1:Int)]/\[(1:Int)]=[(1:Int)])/\(List.getD gW (8:Nat) U.undef).isBool/\(List.getD gW (9:Nat) U.undef).fJ .u32/\(List.getD gW (10:Nat) U.undef).fJ .u32/\(11:Nat)=(11:Nat)/\(∀(x:U),x∈List.take (8:Nat) gW->x.dQ .i64)/\(∀(x:U),x∈[U.int .i64 (0:Int),U.int .i64 (0:Int),U.int .i64 (0:Int),U.int .i64 (0:Int),U.int .i64 (0:Int),U.int .i64 (0:Int),U.int .i64 (0:Int),U.int .i64 (0:Int)]->x.dQ .i64)/\(decide (List.map U.toInt (List.take (8:Nat) gW)=List.map U.toInt [U.int .i64 (0:Int),U.int .i64 (0:Int),U.int .i64 (0:Int),U.int .i64 (0:Int),U.int .i64 (0:Int),U.int .i64 (0:Int),U.int .i64 (0:Int),U.int .i64 (0:Int)])=true->(bu (1000000:Nat) [(1:Int)]/\bu (1000000:Nat) [(1:Int)])/\(16:Int)<=(70368744177664:Int)/\(11:Nat)=(11:Nat)/\(0:Int)<=(0:Int)/\(0:Int)<(8:Int)/\((List.take (8:Nat) gW).getD (0:Nat) U.undef).dQ .i64/\(0:Int)<=(0:Int)/\(0:Int)<(2:Int)/\([U.str [(112:Int)]].getD (0:Nat) U.undef).isStr/\((List.take (8:Nat) gW).getD (0:Nat) U.undef).toInt=(2:Int)/\(2:Int)<=(9223372036854775807:Int)/\(3:Int)<=(9223372036854775807:Int)/\(32:Int)<=(70368744177664:Int)/\(0:Int)<=(1:Int)/\(1:Int)<(8:Int)/\((List.take (8:Nat) gW).getD (1:Nat) U.undef).dQ .i64/\(0:Int)<=(2:Int)/\(2:Int)<(8:Int)/\((List.take (8:Nat) gW).getD (2:Nat) U.undef).dQ .i64/\(0:Int)<=(3:Int)/\(3:Int)<(8:Int)/\((List.take (8:Nat) gW).getD (3:Nat) U.undef).dQ .i64/\(0:Int)<=(4:Int)/\(4:Int)<(8:Int)/\((List.take (8:Nat) gW).getD (4:Nat) U.undef).dQ .i64/\(0:Int)<=(5:Int)/\(5:Int)<(8:Int)/\((List.take (8:Nat) gW).getD (5:Nat) U.undef).dQ .i64/\(0:Int)<=(6:Int)/\(6:Int)<(8:Int)/\((List.take (8:Nat) gW).getD (6:Nat) U.undef).dQ .i64/\(0:Int)<=(7:Int)/\(7:Int)<(8:Int)/\((List.take (8:Nat) gW).getD (7:Nat) U.undef).dQ .i64/\False)/\(decide (List.map U.toInt (List.take (8:Nat) gW)=List.map U.toInt [U.int .i64 (0:Int),U.int .i64 (0:Int),U.int .i64 (0:Int),U.int .i64 (0:Int),U.int .i64 (0:Int),U.int .i64 (0:Int),U.int .i64 (0:Int),U.int .i64 (0:Int)])=false->(1:Int)=(1:Int)/\((false=false/\false=false)/\[(1:Int)]=[(1:Int)]/\[(1:Int)]=[(1:Int)]/\[(1:Int)]=[(1:Int)]/\[(1:Int)]=[(1:Int)])/\(11:Nat)=(11:Nat)/\(0:Int)<=(0:Int)/\(0:Int)<(8:Int)/\((List.take (8:Nat) gW).getD (0:Nat) U.undef).dQ .i64/\(0:Int)<=(0:Int)/\(0:Int)<(2:Int)/\([U.str [(112:Int)]].getD (0:Nat) U.undef).isStr/\((List.take (8:Nat) gW).getD (0:Nat) U.undef).toInt=(2:Int)/\(2:Int)<=(9223372036854775807:Int)/\(3:Int)<=(9223372036854775807:Int)/\(16:Int)<=(70368744177664:Int)/\(0:Int)<=(1:Int)/\(1:Int)<(8:Int)/\((List.take (8:Nat) gW).getD (1:Nat) U.undef).dQ .i64/\(0:Int)<=(2:Int)/\(2:Int)<(8:Int)/\((List.take (8:Nat) gW).getD (2:Nat) U.undef).dQ .i64/\(0:Int)<=(3:Int)/\(3:Int)<(8:Int)/\((List.take (8:Nat) gW).getD (3:Nat) U.undef).dQ .i64/\(0:Int)<=(4:Int)/\(4:Int)<(8:Int)/\((List.take (8:Nat) gW).getD (4:Nat) U.undef).dQ .i64/\(0:Int)<=(5:Int)/\(5:Int)<(8:Int)/\((List.take (8:Nat) gW).getD (5:Nat) U.undef).dQ .i64/\(0:Int)<=(6:Int)/\(6:Int)<(8:Int)/\((List.take (8:Nat) gW).getD (6:Nat) U.undef).dQ .i64/\(0:Int)<=(7:Int)/\(7:Int)<(8:Int)/\((List.take (8:Nat) gW).getD (7:Nat) U.undef).dQ .i64/\True/\(3:Nat)<=(1000000000:Nat)/\(0:Int)<=(1:Int)/\(1:Int)<(2:Int)/\(11:Nat)=(11:Nat)/\(List.getD gX (8:Nat) U.undef).isBool/\(List.getD gX (9:Nat) U.undef).fJ .u32/\(List.getD gX (10:Nat) U.undef).fJ .u32/\([(1:Int)]=[(1:Int)]/\[(1:Int)]=[(1:Int)])/\(6:Nat)<=(1000000000:Nat)/\(List.getD gX (8:Nat) U.undef).isBool/\(List.getD gX (9:Nat) U.undef).fJ .u32/\(List.getD gX (10:Nat) U.undef).fJ .u32/\(11:Nat)=(11:Nat)/\(∀(x:U),x∈List.take (8:Nat) gX->x.dQ .i64)/\(∀(x:U),x∈[U.int .i64 (0:Int),U.int .i64 (0:Int),U.int .i64 (0:Int),U.int .i64 (0:Int),U.int .i64 (0:Int),U.int .i64 (0:Int),U.int .i64 (0:Int),U.int .i64 (0:Int)]->x.dQ .i64)/\(decide (List.map U.toInt (List.take (8:Nat) gX)=List.map U.toInt [U.int .i64 (0:Int),U.int .i64 (0:Int),U.int .i64 (0:Int),U.int .i64 (0:Int),U.int .i64 (0:Int),U.int .i64 (0:Int),U.int .i64 (0:Int),U.int .i64 (0:Int)])=true->(bu (1000000:Nat) [(1:Int)]/\bu (1000000:Nat) [(1:Int)])/\(16:Int)<=(70368744177664:Int)/\(11:Nat)=(11:Nat)/\(0:Int)<=(0:Int)/\(0:Int)<(8:Int)/\((List.take (8:Nat) gX).getD (0:Nat) U.undef).dQ .i64/\(0:Int)<=(1:Int)/\(1:Int)<(8:Int)/\((List.take (8:Nat) gX).getD (1:Nat) U.undef).dQ .i64/\(0:Int)<=(1:Int)/\(1:Int)<(2:Int)/\([U.str [(113:Int)]].getD (0:Nat) U.undef).isStr/\((List.take (8:Nat) gX).getD (1:Nat) U.undef).toInt=(2:Int)/\(2:Int)<=(9223372036854775807:Int)/\(3:Int)<=(9223372036854775807:Int)/\(32:Int)<=(70368744177664:Int)/\(0:Int)<=(2:Int)/\(2:Int)<(8:Int)/\((List.take (8:Nat) gX).getD (2:Nat) U.undef).dQ .i64/\(0:Int)<=(3:Int)/\(3:Int)<(8:Int)/\((List.take (8:Nat) gX).getD (3:Nat) U.undef).dQ .i64/\(0:Int)<=(4:Int)/\(4:Int)<(8:Int)/\((List.take (8:Nat) gX).getD (4:Nat) U.undef).dQ .i64/\(0:Int)<=(5:Int)/\(5:Int)<(8:Int)/\((List.take (8:Nat) gX).getD (5:Nat) U.undef).dQ .i64/\(0:Int)<=(6:Int)/\(6:Int)<(8:Int)/\((List.take (8:Nat) gX).getD (6:Nat) U.undef).dQ .i64/\(0:Int)<=(7:Int)/\(7:Int)<(8:Int)/\((List.take (8:Nat) gX).getD (7:Nat) U.undef).dQ .i64/\False)/\(decide (List.map U.toInt (List.take (8:Nat) gX)=List.map U.toInt [U.int .i64 (0:Int),U.int .i64 (0:Int),U.int .i64 (0:Int),U.int .i64 (0:Int),U.int .i64 (0:Int),U.int .i64 (0:Int),U.int .i64 (0:Int),U.int .i64 (0:Int)])=false->(1:Int)=(1:Int)/\((false=false/\false=false)/\[(1:Int)]=[(1:Int)]/\[(1:Int)]=[(1:Int)]/\[(1:Int)]=[(1:Int)]/\[(1:Int)]=[(1:Int)])/\(11:Nat)=(11:Nat)/\(0:Int)<=(0:Int)/\(0:Int)<(8:Int)/\((List.take (8:Nat) gX).getD (0:Nat) U.undef).dQ .i64/\(0:Int)<=(1:Int)/\(1:Int)<(8:Int)/\((List.take (8:Nat) gX).getD (1:Nat) U.undef).dQ .i64/\(0:Int)<=(1:Int)/\(1:Int)<(2:Int)/\([U.str [(113:Int)]].getD (0:Nat) U.undef).isStr/\((List.take (8:Nat) gX).getD (1:Nat) U.undef).toInt=(2:Int)/\(2:Int)<=(9223372036854775807:Int)/\(3:Int)<=(9223372036854775807:Int)/\(16:Int)<=(70368744177664:Int)/\(0:Int)<=(2:Int)/\(2:Int)<(8:Int)/\((List.take (8:Nat) gX).getD (2:Nat) U.undef).dQ .i64/\(0:Int)<=(3:Int)/\(3:Int)<(8:Int)/\((List.take (8:Nat) gX).getD (3:Nat) U.undef).dQ .i64/\(0:Int)<=(4:Int)/\(4:Int)<(8:Int)/\((List.take (8:Nat) gX).getD (4:Nat) U.undef).dQ .i64/\(0:Int)<=(5:Int)/\(5:Int)<(8:Int)/\((List.take (8:Nat) gX).getD (5:Nat) U.undef).dQ .i64/\(0:Int)<=(6:Int)/\(6:Int)<(8:Int)/\((List.take (8:Nat) gX).getD (6:Nat) U.undef).dQ .i64/\(0:Int)<=(7:Int)/\(7:Int)<(8:Int)/\((List.take (8:Nat) gX).getD (7:Nat) U.undef).dQ .i64/\True/\(9:Nat)<=(1000000000:Nat)/\¬[]++([(112:Int)]++([(94:Int)]++[(50:Int)]))++[(32:Int),(45:Int),(32:Int)]++([(113:Int)]++([(94:Int)]++[(50:Int)]))=[]/\K (R.tup [R.d (U.str ([]++([(112:Int)]++([(94:Int)]++[(50:Int)]))++[(32:Int),(45:Int),(32:Int)]++([(113:Int)]++([(94:Int)]++[(50:Int)])))),R.d (U.int .i64 (0:Int))])))
end aa
end
section
open Go Go.ak
namespace aa
theorem Wm (K:R->Prop)(h:rB.T [.d (.int .i64 2)] K):GR K:=by
 obtain⟨_,ag⟩:=h;unfold GR;exact⟨by decide,by decide,by decide,ag⟩
theorem W8 (K:R->Prop)(h:rB.T [.d (.int .i64 2)] K):MN K:=h
theorem Wp (K:R->Prop)(h:rB.T [.d (.int .i64 2)] K):Mb K:=⟨⟨rfl,rfl⟩,h.2⟩
theorem Wk (K:R->Prop)(h:zc.T [.d (.int .i64 2), .d (.int .i64 10)] K):GQ K:=by
 obtain⟨_,ag⟩:=h;unfold GQ;simpa using ag
theorem W9 (x s:List Int)(K:R->Prop)(h:zF.T [.d (.ar 1 [[.str x]]), .d (.str s)] K):GU x s K:=by
 obtain⟨_,ag⟩:=h;unfold GU;simpa[U.isStr]using ag
theorem WB (K:R->Prop)(h:zd.T [.d (.ar 11 qy), .d (.ar 1 An)] K):GS K:=by
 obtain⟨_,ag⟩:=h;unfold GS;simp[U.dQ,U.isBool,U.fJ,U.isStr,U.toInt];exact ag
end aa
end
section
open Go Go.ak
namespace aa
theorem C3:b8 1=[1]:=by unfold b8;exact p1
theorem El:b1 1=[1]:=by unfold b1;exact p1
theorem IE:b8 (-1)=[1]:=by unfold b8;exact p1
theorem IF:b1 (-1)=[1]:=by unfold b1;exact p1
theorem Wu (K:R->Prop)(h:C2.T [] K):Mf K:=by
 obtain⟨_,ag⟩:=h;unfold Mf;rw[apz (show(0:Int)<=0/\(0:Int)<8 by decide),apz (show(0:Int)<=1/\(1:Int)<8 by decide)];refine⟨trivial, ?_⟩;rintro _ rfl _ rfl;refine⟨trivial, ?_⟩;rintro _ rfl _ rfl;have er:dE 1 [(dV.set 0 1,nC)]:=zq (by decide);have w1:dE 1 [(dV.set 1 1,nC)]:=zq (by decide);have hq:c4 1024 [(dV.set 0 1,nC)]:=zX (by decide);have az:c4 1024 [(dV.set 1 1,nC)]:=zX (by decide);have fg:nrm ([(dV.set 0 1,nC)]++[(dV.set 1 1,nC)])=[(dV.set 0 1,1),(dV.set 1 1,1)]:=by decide+kernel
 have hX:nrm ([(dV.set 0 1,nC)]++eS (-1) [(dV.set 1 1,nC)])=[(dV.set 0 1,1),(dV.set 1 1,-1)]:=by decide+kernel
 have ym:nrm (dJ [(dV.set 0 1,(1:Rat)),(dV.set 1 1,1)] [(dV.set 0 1,1),(dV.set 1 1,-1)])=[(dV.set 0 2,1),(dV.set 1 2,-1)]:=by decide+kernel
 have nr:nrm [(dV.set 0 1,(1:Rat)),(dV.set 1 1,1)]=[(dV.set 0 1,1),(dV.set 1 1,1)]:=by decide+kernel
 have oP:nrm [(dV.set 0 1,(1:Rat)),(dV.set 1 1,-1)]=[(dV.set 0 1,1),(dV.set 1 1,-1)]:=by decide+kernel
 have dd:dE 1 [(dV.set 0 1,(1:Rat)),(dV.set 1 1,1)]:=zq (by decide);have bY:dE 1 [(dV.set 0 1,(1:Rat)),(dV.set 1 1,-1)]:=zq (by decide);have aJ:c4 1024 [(dV.set 0 1,(1:Rat)),(dV.set 1 1,1)]:=zX (by decide);have bX:c4 1024 [(dV.set 0 1,(1:Rat)),(dV.set 1 1,-1)]:=zX (by decide);have v1:=R1 hq az;have v2:=R1 aJ bX;have a0:=fP hq.len;have a1:=fP az.len;have a2:=fP aJ.len;have a3:=fP bX.len;have b5:mF [(dV.set 0 1,(1:Rat)),(dV.set 1 1,1)] [(dV.set 0 1,1),(dV.set 1 1,-1)]=false:=by decide+kernel
 refine⟨R0 er hq w1 az (by decide) (by decide), ?_⟩;simp only[v1,ap1,a0,a1,fg,hX];rintro _ rfl _ rfl;refine⟨R0 er hq w1 az (by decide) (by decide), ?_⟩;rintro _ rfl _ rfl;refine⟨aeN dd aJ bY bX (by decide) (by decide), ?_⟩;simp only[qw,v2,a2,a3,nr,oP,b5,ym,Bool.not_false,Bool.and_true,ap1]
 have yj:bK [(dV.set 0 2,(1:Rat)),(dV.set 1 2,-1)]=qy:=by
  show[ej (dV.set 0 2)++[.bool (ca 1), .af .u32 (b8 1), .af .u32 (b1 1)],ej (dV.set 1 2)++[.bool (ca (-1)), .af .u32 (b8 (-1)), .af .u32 (b1 (-1))]]=_;rw[C3,El,IE,IF];rfl
 rintro x aj _ rfl;refine⟨⟨aj.trans yj,trivial⟩, ?_⟩;rintro _ rfl _ rfl;simpa using ag
def GO (i:Nat)(x:Int):List Int:=dV.set i x
end aa
end
section
namespace aa
open Go Go.ak Go.Sort
theorem TW (v:BitVec 64):(0:Int)<=(v.toNat:Int)/\(v.toNat:Int)<18446744073709551616:=by have:=v.isLt;omega
theorem ahF (a b:Int):cN .xor .u64 a b=((BitVec.ofInt 64 a^^^BitVec.ofInt 64 b).toNat:Int):=cT (TW _)
theorem ahG (a b:Int):cN .and .u64 a b=((BitVec.ofInt 64 a&&&BitVec.ofInt 64 b).toNat:Int):=cT (TW _)
theorem ae1 (a b:Int):0<=cN .xor .u64 a b/\cN .xor .u64 a b<18446744073709551616:=by
 rw[ahF];have:=(BitVec.ofInt 64 a^^^BitVec.ofInt 64 b).isLt;omega
theorem ae2 (a:Int){b:Nat}(ah:b<18446744073709551616):0<=cN .and .u64 a b/\cN .and .u64 a b<=b:=by
 rw[ahG,BitVec.toNat_and]
 have h:(BitVec.ofInt 64 (b:Int)).toNat=b:=by
  rw[arw,arN];exact aqt ah
 rw[h];have:= @Nat.and_le_right (BitVec.ofInt 64 a).toNat b;omega
theorem Wy (x:Int)(K:ae->R->Prop)(h:(0<=x/\x<18446744073709551616)/\∀y:Int,(0<=y/\y<18446744073709551616)->K (.cells [.d (.int .u64 y)]) (.d (.int .u64 y))):Wr x K:=
 h.2 _ (ae1 _ _)
theorem L7 (l:Rows)(a b s:Int)(K:ae->R->Prop)
 (h:(c9 l/\0<=a/\a<(l.length:Int)/\0<=b/\b<(l.length:Int)/\0<=s/\s<1000)/\
   K (.cells [.d (.int .i64 (Go.Sort.order2 bl l.toArray a.toNat b.toNat s.toNat).2.2)]) (.tup [.d (.int .i64 (Go.Sort.order2 bl l.toArray a.toNat b.toNat s.toNat).1), .d (.int .i64 (Go.Sort.order2 bl l.toArray a.toNat b.toNat s.toNat).2.1)])):L3 l a b s K:=by
 obtain⟨⟨ax,aR,Gg,ah,ho,ay,gk⟩,ag⟩:=h;obtain⟨A,rfl⟩:=apG aR;obtain⟨B,rfl⟩:=apG ah;obtain⟨S,rfl⟩:=apG ay;simp only[apB]at ag;unfold L3 ai aT List.aS;rw[bQ (x:=(S:Int)+1) (by omega)];simp only[apB];refine⟨ah,ho,ax.len (by omega),aR,Gg,ax.len (by omega),⟨ax.get (by omega),ax.get (by omega)⟩, ?_⟩;rintro _ rfl;unfold order2 at ag;rw[jN]at ag;refine⟨fun h=> ?_,fun h=> ?_⟩
 ·rw[h]at ag;exact ag
 ·rw[h]at ag;exact ag
theorem TX (l:Array Row){a b s n:Nat}(aR:a<n)(ah:b<n):(order2 bl l a b s).1<n/\(order2 bl l a b s).2.1<n:=by
 rcases order2_mem bl l a b s with⟨ab,ad⟩|⟨ab,ad⟩<;>rw[ab,ad]<;>exact⟨by omega,by omega⟩
theorem L8 (l:Rows)(a b e s:Int)(K:ae->R->Prop)
 (h:(c9 l/\(0<=a/\a<(l.length:Int))/\(0<=b/\b<(l.length:Int))/\(0<=e/\e<(l.length:Int))/\0<=s/\s<900)/\
   K (.cells [.d (.int .i64 (Go.Sort.median bl l.toArray a.toNat b.toNat e.toNat s.toNat).2)]) (.d (.int .i64 (Go.Sort.median bl l.toArray a.toNat b.toNat e.toNat s.toNat).1))):L4 l a b e s K:=by
 obtain⟨⟨ax,⟨aR,Gg⟩,⟨ah,ho⟩,⟨he,Kp⟩,ay,gk⟩,ag⟩:=h;obtain⟨A,rfl⟩:=apG aR;obtain⟨B,rfl⟩:=apG ah;obtain⟨E,rfl⟩:=apG he;obtain⟨S,rfl⟩:=apG ay;simp only[apB]at ag;unfold median at ag;unfold L4 aT;simp only[apB];have dh:=order2_count bl l.toArray A B S;have dX:= @TX l.toArray A B S l.length (by omega) (by omega);refine⟨⟨ax,aR,Gg,ah,ho,ay,by omega⟩, ?_⟩;rintro _ rfl _ rfl _ rfl;simp only[apB];show(c9 l/\0<=(((order2 bl l.toArray A B S).2.1:Nat):Int)/\_)/\_;have eW:=order2_count bl l.toArray (order2 bl l.toArray A B S).2.1 E (order2 bl l.toArray A B S).2.2;have dU:= @TX l.toArray (order2 bl l.toArray A B S).2.1 E (order2 bl l.toArray A B S).2.2 l.length dX.2 (by omega);refine⟨⟨ax,by omega, ?_,he,Kp,by omega, ?_⟩, ?_⟩
 ·exact aq9.2 dX.2
 ·show(((order2 bl l.toArray A B S).2.2:Nat):Int)<1000;omega
 rintro _ rfl _ rfl _ rfl;simp only[apB];refine⟨⟨ax,by omega,aq9.2 dX.1,by omega,aq9.2 dU.1,by omega, ?_⟩, ?_⟩
 ·show(((order2 bl l.toArray (order2 bl l.toArray A B S).2.1 E (order2 bl l.toArray A B S).2.2).2.2:Nat):Int)<1000;omega
 rintro _ rfl _ rfl _ rfl;exact ag
theorem LI (l:Rows)(a s:Int)(K:ae->R->Prop)
 (h:(c9 l/\0<a/\a+1<(l.length:Int)/\l.length<1000000000000000/\0<=s/\s<900)/\
   K (.cells [.d (.int .i64 (Go.Sort.medianAdjacent bl l.toArray a.toNat s.toNat).2)]) (.d (.int .i64 (Go.Sort.medianAdjacent bl l.toArray a.toNat s.toNat).1))):LC l a s K:=by
 obtain⟨⟨ax,aR,Gg,aB,ay,gk⟩,ag⟩:=h;obtain⟨A,rfl⟩:=apG (Int.le_of_lt aR);obtain⟨S,rfl⟩:=apG ay;simp only[apB]at ag;unfold medianAdjacent at ag;unfold LC ai aT;rw[bQ (x:=(A:Int)-1) (by omega),bQ (x:=(A:Int)+1) (by omega)];rw[show(A:Int)-1=((A-1:Nat):Int) by omega,show(A:Int)+1=((A+1:Nat):Int) by omega];simp only[apB];refine⟨⟨ax,⟨by omega,by omega⟩,⟨by omega,by omega⟩,⟨by omega,by omega⟩,ay,gk⟩, ?_⟩;rintro _ rfl _ rfl;exact ag
theorem Jd (l:Array Row){a s n:Nat}(aR:a+1<n):(medianAdjacent bl l a s).1<n:=by
 rcases medianAdjacent_mem bl l a s with h|h|h<;>omega
theorem afB {K:R->Prop}{p s:Nat}(h:K (.tup [.d (.int .i64 p), .d (.int .i64 (hintCode (hintOf s)))])):
 (decide ((s:Int)=0)=true->K (.tup [.d (.int .i64 p), .d (.int .i64 1)]))/\(decide ((s:Int)=0)=false->
   (decide ((s:Int)=12)=true->K (.tup [.d (.int .i64 p), .d (.int .i64 2)]))/\(decide ((s:Int)=12)=false->K (.tup [.d (.int .i64 p), .d (.int .i64 0)]))):=by
 unfold hintOf at h;refine⟨fun ab=> ?_,fun ab=>⟨fun ad=> ?_,fun ad=> ?_⟩⟩<;>simp only[apE,apD]at*
 ·rw[apz (by omega)]at h;exact h
 ·rw[apy (by omega),apz (by omega)]at h;exact h
 ·rw[apy (by omega),apy (by omega)]at h;exact h
theorem LR (l:Rows)(a b:Int)(K:R->Prop)
 (h:(fU l a b/\a<b)/\K (.tup [.d (.int .i64 (Go.Sort.choosePivot bl l.toArray a.toNat b.toNat).1), .d (.int .i64 (Go.Sort.hintCode (Go.Sort.choosePivot bl l.toArray a.toNat b.toNat).2))])):LN l a b K:=by
 obtain⟨⟨⟨ax,aR,-,ah,aB⟩,jP⟩,ag⟩:=h;obtain⟨A,rfl⟩:=apG aR;obtain⟨B,rfl⟩:=apG (aq0 aR (Int.le_of_lt jP));simp only[apB]at ag;rw[choosePivot_eq]at ag;unfold LN ai aT;rw[bQ (x:=(B:Int)-A) (by omega)]
 have cW:Int.tdiv ((B:Int)-A) 4=(((B-A)/4:Nat):Int):=by
  rw[show(B:Int)-A=((B-A:Nat):Int) by omega];rfl
 rw[cW,bQ (x:=(((B-A)/4:Nat):Int)) (by omega),bQ (x:=(((B-A)/4:Nat):Int)*1) (by omega),bQ (x:=(((B-A)/4:Nat):Int)*2) (by omega),bQ (x:=(((B-A)/4:Nat):Int)*3) (by omega)];rw[bQ (x:=(A:Int)+(((B-A)/4:Nat):Int)*1) (by omega),bQ (x:=(A:Int)+(((B-A)/4:Nat):Int)*2) (by omega),bQ (x:=(A:Int)+(((B-A)/4:Nat):Int)*3) (by omega)];rw[show(A:Int)+(((B-A)/4:Nat):Int)*1=((A+(B-A)/4*1:Nat):Int) by omega,show(A:Int)+(((B-A)/4:Nat):Int)*2=((A+(B-A)/4*2:Nat):Int) by omega,show(A:Int)+(((B-A)/4:Nat):Int)*3=((A+(B-A)/4*3:Nat):Int) by omega];have q1:8<=B-A->A<A+(B-A)/4*1/\A+(B-A)/4*3+1<B:=fun h=>by omega
 have cG:A+(B-A)/4*1<=A+(B-A)/4*2:=by omega
 have cV:A+(B-A)/4*2<=A+(B-A)/4*3:=by omega
 refine⟨fun p s=>∃iq:Nat,s=iq/\rawPivot bl l.toArray A B=(p.toNat,iq)/\0<=p, ?_, ?_⟩
 ·generalize FG:A+(B-A)/4*1=i1 at*;generalize K6:A+(B-A)/4*2=i2 at*;generalize Vp:A+(B-A)/4*3=i3 at*;refine⟨fun h=> ?_,fun h=> ?_⟩
  ·have h:=apJ h;obtain⟨q1,gD⟩:=q1 (by omega);refine⟨fun i j k s=>∃qU fW cD iq:Nat,i=qU/\j=fW/\k=cD/\s=iq/\qU<l.length/\fW<l.length/\cD<l.length/\iq<10/\rawPivot bl l.toArray A B=median bl l.toArray qU fW cD iq,⟨fun bJ=> ?_,fun bJ=> ?_⟩, ?_⟩
   ·have bJ:=apJ bJ;have dh:=medianAdjacent_count bl l.toArray i1 0;refine⟨⟨ax,by omega,by omega,aB,by omega,by omega⟩, ?_⟩;rintro _ rfl _ rfl;simp only[apB];have eW:=medianAdjacent_count bl l.toArray i2 (medianAdjacent bl l.toArray i1 0).2;have jR:=medianAdjacent_count bl l.toArray i3 (medianAdjacent bl l.toArray i2 (medianAdjacent bl l.toArray i1 0).2).2;refine⟨⟨ax,by omega,by omega,aB,by omega, ?_⟩, ?_⟩
    ·show(((medianAdjacent bl l.toArray i1 0).2:Nat):Int)<900;omega
    rintro _ rfl _ rfl;simp only[apB];refine⟨⟨ax,by omega,by omega,aB,by omega, ?_⟩, ?_⟩
    ·show(((medianAdjacent bl l.toArray i2 (medianAdjacent bl l.toArray i1 0).2).2:Nat):Int)<900;omega
    rintro _ rfl _ rfl;refine⟨_,_,_,_,rfl,rfl,rfl,rfl,Jd _ (by omega),Jd _ (by omega),Jd _ (by omega), ?_, ?_⟩
    ·show(medianAdjacent bl l.toArray i3 (medianAdjacent bl l.toArray i2 (medianAdjacent bl l.toArray i1 0).2).2).2<10;omega
    unfold rawPivot;rw[FG,K6,Vp,apz (by omega),apz (by omega)]
   ·have bJ:=apO bJ;refine⟨_,_,_,0,rfl,rfl,rfl,rfl,by omega,by omega,by omega,by omega, ?_⟩;unfold rawPivot;rw[FG,K6,Vp,apz (by omega),apy (by omega)]
   rintro _ _ _ _ ⟨qU,fW,cD,iq,rfl,rfl,rfl,rfl,lh,z2,z3,z4,z5⟩;refine⟨⟨ax,⟨by omega,by omega⟩,⟨by omega,by omega⟩,⟨by omega,by omega⟩,by omega,by omega⟩, ?_⟩;rintro _ rfl _ rfl;simp only[apB];exact⟨_,rfl,z5,aqw _⟩
  ·have h:=apO h;refine⟨0,rfl, ?_,by omega⟩;unfold rawPivot;rw[apy (by omega),K6,apB]
 ·rintro p _ ⟨s,rfl,e,aE⟩;obtain⟨P,rfl⟩:=apG aE;rw[e,apB]at ag;exact afB ag
end aa
end
section
namespace aa
open Go Go.ak Go.Sort
theorem ae3 {l:Rows}{A B i j:Nat}(ah:B<=l.length)(ab:A<=i)(ad:i<B)(aA:A<=j)(ba:j<B):PermIn A B l.toArray (dS l i j).toArray:=by
 rw[<-kP];exact swp_permIn l.toArray A B i j ab ad aA ba (by simpa using ah)
theorem LM (l:Rows)(a b:Int)(K:ae->R->Prop)(h:fU l a b/\∀i,EC l a b i->K (.ar 11 i) (.tup [])):LF l a b K:=by
 obtain⟨⟨ax,aR,jP,ah,aB⟩,ag⟩:=h;obtain⟨A,rfl⟩:=apG aR;obtain⟨B,rfl⟩:=apG (aq0 aR jP);unfold LF ai aX List.aS;rw[bQ (x:=(B:Int)-A) (by omega),show(B:Int)-A=((B-A:Nat):Int) by omega];refine⟨fun h=> ?_,fun h=>ag l ⟨ax,permIn_refl _ _ _⟩⟩;have h:=apJ h;refine⟨by omega, ?_⟩;rw[apB];have jq:=ac5 (n:=B-A) (by omega);have lX:=aeo (B-A);rintro _ rfl;generalize 2^da (B-A)=M at jq lX;have cW:Int.tdiv ((B-A:Nat):Int) 4=(((B-A)/4:Nat):Int):=rfl;rw[cW,bQ (x:=(((B-A)/4:Nat):Int)) (by omega),bQ (x:=(((B-A)/4:Nat):Int)*2) (by omega),bQ (x:=(A:Int)+(((B-A)/4:Nat):Int)*2) (by omega)];rw[bQ (x:=(A:Int)+(((B-A)/4:Nat):Int)*2-1) (by omega),bQ (x:=(A:Int)+(((B-A)/4:Nat):Int)*2+1) (by omega),cT (x:=(M:Int)-1) (by omega),cT (x:=((B-A:Nat):Int)) (by omega)];have iU:A<A+(B-A)/4*2:=by omega
 have mA:A+(B-A)/4*2+1<B:=by omega
 rw[show(A:Int)+(((B-A)/4:Nat):Int)*2=((A+(B-A)/4*2:Nat):Int) by omega];generalize A+(B-A)/4*2=C at iU mA;refine⟨fun v o r=>(A:Int)<=v/\v<=(C:Int)+2/\0<=r/\r<18446744073709551616/\c9 o/\o.length=l.length/\PermIn A B l.toArray o.toArray,fun v _ _=>((C:Int)+2-v).toNat,⟨by omega,by omega,by omega,by omega,ax,rfl,permIn_refl _ _ _⟩, ?_⟩;rintro v o r ⟨g1,g2,g3,g4,g5,g6,g7⟩;obtain⟨V,rfl⟩:=apG (a:=v) (by omega);refine⟨fun h=> ?_,fun h=>ag o ⟨g5,g7⟩⟩;have h:=apJ h;refine⟨⟨g3,g4⟩,fun i hi=> ?_⟩;have aR:=ae2 i (b:=M-1) (by omega);rw[show((M-1:Nat):Int)=(M:Int)-1 by omega]at aR;generalize cN .and .u64 i ((M:Int)-1)=q at aR;rw[bQ (x:=q) (by omega)];refine⟨fun c8 cj=>cj=o/\0<=c8/\c8<((B-A:Nat):Int),⟨fun ad=> ?_,fun ad=> ?_⟩, ?_⟩
 ·have ad:=apJ ad;rw[bQ (x:=q-((B-A:Nat):Int)) (by omega)];exact⟨rfl,rfl,by omega,by omega⟩
 ·have ad:=apO ad;exact⟨rfl,rfl,by omega,by omega⟩
 rintro c8 cj ⟨rfl,kD,lk⟩;obtain⟨W,rfl⟩:=apG kD;rw[bQ (x:=(A:Int)+W) (by omega),bQ (x:=(V:Int)+1) (by omega),show(A:Int)+W=((A+W:Nat):Int) by omega];simp only[apB,apL];rw[show(cj.set V (cj.getD (A+W) [])).set (A+W) (cj.getD V [])=dS cj V (A+W)from rfl];have ch:V<cj.length:=by omega
 have df:A+W<cj.length:=by omega
 exact⟨by omega,by omega,g5.len df,by omega,by omega,g5.len ch,by omega,by omega,by omega,by omega,
  ⟨by omega,by omega,hi.1,hi.2,g5.dS ch df,by simpa using g6,permIn_trans _ _ _ _ _ g7 (ae3 (by omega) (by omega) (by omega) (by omega) (by omega))⟩,by omega⟩
theorem R_ {n:Nat}{l o cH:Rows}{A B dz dZ P:Nat}{v3:Int}{aQ:Int->Int->Int->Bool->Bool->Rows->Prop}{m:Int->Int->Int->Bool->Bool->Rows->Nat}{K:ae->R->Prop}
 (fl:∀v1 v2 v3 w p o,((A:Int)<=v1/\v1<=v2/\v2<=B/\0<=v3/\v3<=64/\c9 o/\o.length=l.length/\Below bl v1.toNat v2.toNat o.toArray/\
   ∀bC:Rows,c9 bC->PermIn v1.toNat v2.toNat o.toArray bC.toArray->SortedIn bl v1.toNat v2.toNat bC.toArray->K (.ar 11 bC) (.tup []))->aQ v1 v2 v3 w p o)
 (hm:∀v1 v2 v3 w p o,m v1 v2 v3 w p o=(v2-v1:Int).toNat)
 (dG:A<=dz) (eH:dZ<=B) (apa:B<=l.length) (aB:l.length<1000000000000000) (hQ:B-A<n+1) (vM:dz<=P) (vN:P<dZ) (aO:0<=v3/\v3<=64)
 (aA:c9 cH) (hlen:cH.length=l.length) (oC:Below bl dz dZ cH.toArray)
 (km:∀bC:Rows,c9 bC->PermIn dz dZ cH.toArray bC.toArray->SortedIn bl dz dZ bC.toArray->K (.ar 11 bC) (.tup [])) (w' GB:Bool) (Vq:Int) (k:Nat) (ag:k=m dz dZ Vq w' GB o):
 0<cH.length/\(fU cH dz dZ/\(dz:Int)<=P/\(P:Int)<dZ)/\∀x:Rows,x=(partition bl cH.toArray dz dZ P).2.2.toList->∀cr:Int,cr=(partition bl cH.toArray dz dZ P).1->∀dj:Bool,dj=(partition bl cH.toArray dz dZ P).2.1->
  (decide (IntKind.wrap .i64 (cr-dz)<IntKind.wrap .i64 ((dZ:Int)-cr))=true->(fU x dz cr/\cr-dz<(n:Int)/\(0<=v3/\v3<=64)/\Below bl dz cr.toNat x.toArray)/\
    ∀i,lH x dz cr i->aQ (IntKind.wrap .i64 (cr+1)) dZ v3 (decide (IntKind.wrap .i64 (Int.tdiv (IntKind.wrap .i64 ((dZ:Int)-dz)) 8)<=IntKind.wrap .i64 (cr-dz))) dj i/\
     m (IntKind.wrap .i64 (cr+1)) dZ v3 (decide (IntKind.wrap .i64 (Int.tdiv (IntKind.wrap .i64 ((dZ:Int)-dz)) 8)<=IntKind.wrap .i64 (cr-dz))) dj i<k)/\
  (decide (IntKind.wrap .i64 (cr-dz)<IntKind.wrap .i64 ((dZ:Int)-cr))=false->(fU x (IntKind.wrap .i64 (cr+1)) dZ/\(dZ:Int)-IntKind.wrap .i64 (cr+1)<(n:Int)/\(0<=v3/\v3<=64)/\Below bl (IntKind.wrap .i64 (cr+1)).toNat dZ x.toArray)/\
    ∀i,lH x (IntKind.wrap .i64 (cr+1)) dZ i->aQ dz cr v3 (decide (IntKind.wrap .i64 (Int.tdiv (IntKind.wrap .i64 ((dZ:Int)-dz)) 8)<=IntKind.wrap .i64 ((dZ:Int)-cr))) dj i/\
     m dz cr v3 (decide (IntKind.wrap .i64 (Int.tdiv (IntKind.wrap .i64 ((dZ:Int)-dz)) 8)<=IntKind.wrap .i64 ((dZ:Int)-cr))) dj i<k):=by
 refine⟨by omega,⟨⟨aA,by omega,by omega,by omega,by omega⟩,by omega,by omega⟩, ?_⟩;obtain⟨dh,eW,jR,pQ,pR,tX,BC⟩:= @round_part Row _ bl rp (partition_holds bl) cH.toArray (partition bl cH.toArray dz dZ P).2.2 dz dZ P (partition bl cH.toArray dz dZ P).1 (partition bl cH.toArray dz dZ P).2.1 vM vN (by simp;omega) oC rfl;have nY:=(partition_holds bl rp cH.toArray dz dZ P vM vN (by simp;omega)).2.2.1;have ug:=uo aA (by omega) nY;generalize (partition bl cH.toArray dz dZ P).2.2=d4 at*;generalize (partition bl cH.toArray dz dZ P).1=BL at*;have Vr:d4.toList.length=l.length:=ug.2.trans hlen;rintro _ rfl _ rfl dj-;rw[bQ (x:=(BL:Int)+1) (by omega),show(BL:Int)+1=((BL+1:Nat):Int) by omega];subst ag;simp only[hm,apB];refine⟨fun _=>⟨⟨⟨ug.1,by omega,by omega,by omega,by omega⟩,by omega,aO,pQ⟩, ?_⟩,fun _=>⟨⟨⟨ug.1,by omega,by omega,by omega,by omega⟩,by omega,aO,pR⟩, ?_⟩⟩
 ·rintro i ⟨⟨i1,i2⟩,i3⟩;simp only[apB]at i2 i3;obtain⟨aY,bj⟩:=tX i.toArray i2 i3;have bG:i.length=l.length:=(show i.length=d4.toList.length by have:=i2.1;simpa using this).trans Vr;refine⟨fl _ _ _ _ _ _ ⟨by omega,by omega,by omega,aO.1,aO.2,i1,bG,aY,fun bC dX dU dR=> ?_⟩,by omega⟩;obtain⟨oL,pP⟩:=bj bC.toArray dU dR;exact km bC dX oL pP
 ·rintro i ⟨⟨i1,i2⟩,i3⟩;simp only[apB]at i2 i3;obtain⟨aY,bj⟩:=BC i.toArray i2 i3;have bG:i.length=l.length:=(show i.length=d4.toList.length by have:=i2.1;simpa using this).trans Vr;refine⟨fl _ _ _ _ _ _ ⟨by omega,by omega,by omega,aO.1,aO.2,i1,bG,aY,fun bC dX dU dR=> ?_⟩,by omega⟩;obtain⟨oL,pP⟩:=bj bC.toArray dU dR;exact km bC dX oL pP
theorem L5 (n:Nat)(l:Rows)(a b m:Int)(K:ae->R->Prop)
 (h:(fU l a b/\b-a<((n+1:Nat):Int)/\(0<=m/\m<=64)/\Below bl a.toNat b.toNat l.toArray)/\∀i,lH l a b i->K (.ar 11 i) (.tup [])):L0 n l a b m K:=by
 obtain⟨⟨⟨ax,aR,jP,ah,aB⟩,FK,hm,eH⟩,ag⟩:=h;obtain⟨A,rfl⟩:=apG aR;obtain⟨B,rfl⟩:=apG (aq0 aR jP);unfold L0 ai List.aS
 refine⟨fun v1 v2 v3 _ _ o=>(A:Int)<=v1/\v1<=v2/\v2<=B/\0<=v3/\v3<=64/\c9 o/\o.length=l.length/\Below bl v1.toNat v2.toNat o.toArray/\
  ∀bC:Rows,c9 bC->PermIn v1.toNat v2.toNat o.toArray bC.toArray->SortedIn bl v1.toNat v2.toNat bC.toArray->K (.ar 11 bC) (.tup []),fun v1 v2 _ _ _ _=>(v2-v1:Int).toNat,
  ⟨by omega,jP,by omega,hm.1,hm.2,ax,rfl,eH,fun bC ab ad aA=>ag bC ⟨⟨ab,ad⟩,aA⟩⟩, ?_⟩
 rintro v1 v2 v3 w p o ⟨q1,cG,cV,gD,eb,il,hd,kA,yy⟩;obtain⟨dz,rfl⟩:=apG (a:=v1) (by omega);obtain⟨dZ,rfl⟩:=apG (a:=v2) (by omega);have kA:Below bl dz dZ o.toArray:=kA
 have yy:∀bC:Rows,c9 bC->PermIn dz dZ o.toArray bC.toArray->SortedIn bl dz dZ bC.toArray->K (.ar 11 bC) (.tup []):=yy
 simp only[apB];have fi:dZ<=o.toArray.size:=by simp;omega
 have cx:∀{x y:Rows},PermIn dz dZ x.toArray y.toArray->y.length=x.length:=fun h=>by have:=h.1;simpa using this
 refine⟨fun h=> ?_,fun h=> ?_⟩
 ·refine⟨⟨il,by omega,by omega,by omega,by omega⟩, ?_⟩;rintro _ rfl;obtain⟨az,aJ⟩:=insertionSort_holds rp o.toArray dz dZ (by omega) fi;exact yy _ (uo il (by omega) az).1 az aJ
 have h:=apO h;rw[bQ (x:=(dZ:Int)-dz) (by omega)]at h;refine⟨fun bc=> ?_,fun bc=> ?_⟩
 ·refine⟨by omega,⟨⟨il,by omega,by omega,by omega,by omega⟩,by omega⟩, ?_⟩;rintro _ rfl;obtain⟨az,aJ⟩:=heapSort_holds rp o.toArray dz dZ (by omega) fi;exact yy _ (uo il (by omega) az).1 az aJ
 have bc:=apO bc;refine⟨fun v bD=>0<=v/\v<=64/\c9 bD/\PermIn dz dZ o.toArray bD.toArray,⟨fun _=> ?_,fun _=> ?_⟩, ?_⟩
 ·rw[bQ (x:=v3-1) (by omega)];exact⟨by omega,⟨il,by omega,by omega,by omega,by omega⟩,fun i hi=>⟨by omega,by omega,hi.1,hi.2⟩⟩
 ·exact⟨gD,eb,il,permIn_refl _ _ _⟩
 rintro Vq bD ⟨kD,lk,en,Lz⟩;have de:=cx Lz;refine⟨⟨⟨en,by omega,by omega,by omega,by omega⟩,by omega⟩, ?_⟩;have aC:=choosePivot_holds bl bD.toArray dz dZ (by omega);rintro _ rfl cl-
 show∃J:Int->Int->Rows->Prop,_
 generalize (choosePivot bl bD.toArray dz dZ).1=C at aC;refine⟨fun v8 _ bx=>(dz:Int)<=v8/\v8<dZ/\c9 bx/\PermIn dz dZ o.toArray bx.toArray,⟨fun _=> ?_,fun _=> ?_⟩, ?_⟩
 ·refine⟨by omega,⟨en,by omega,by omega,by omega,by omega⟩, ?_⟩;rintro _ rfl;rw[bQ (x:=(dZ:Int)-1) (by omega),bQ (x:=(C:Int)-dz) (by omega),bQ (x:=(dZ:Int)-1-((C:Int)-dz)) (by omega)];have az:=reverseRange_holds bD.toArray dz dZ (by omega) (by simp;omega);exact⟨by omega,by omega,(uo en (by omega) az).1,permIn_trans _ _ _ _ _ Lz az⟩
 ·exact⟨by omega,by omega,en,Lz⟩
 rintro v8 cl bx ⟨lh,z2,z3,z4⟩;obtain⟨P,rfl⟩:=apG (a:=v8) (by omega);have l2:=cx z4;refine⟨fun cH=>c9 cH/\PermIn dz dZ o.toArray cH.toArray,⟨fun _=>⟨fun _=>⟨fun _=> ?_,fun _=>⟨z3,z4⟩⟩,fun _=>⟨z3,z4⟩⟩,fun _=>⟨z3,z4⟩⟩, ?_⟩
 ·refine⟨by omega,⟨⟨z3,by omega,by omega,by omega,by omega⟩,by omega⟩, ?_⟩;rintro _ rfl cr rfl;obtain⟨az,aJ⟩:=partialInsertionSort_holds rp bx.toArray dz dZ (by omega) (by simp;omega) (kA.perm fi z4);have bX:=permIn_trans _ _ _ _ _ z4 az;have cW:=(uo z3 (by omega) az).1;exact⟨fun h=>yy _ cW bX (aJ h),fun _=>⟨cW,bX⟩⟩
 rintro cH ⟨t1,t2⟩;have l5:=cx t2;have oC:=kA.perm fi t2;have vM:dz<=P:=by omega
 have vN:P<dZ:=by omega
 have km:∀bC:Rows,c9 bC->PermIn dz dZ cH.toArray bC.toArray->SortedIn bl dz dZ bC.toArray->K (.ar 11 bC) (.tup []):=fun bC dX dU dR=>yy bC dX (permIn_trans _ _ _ _ _ t2 dU) dR
 simp only[apB];refine⟨fun pz=> ?_,fun _=> ?pt⟩
 case pt=>exact R_ (l:=l) (A:=A) (B:=B) (o:=o) (fun _ _ _ _ _ _ h=>h) (fun _ _ _ _ _ _=>rfl) (by omega) (by omega) (by omega) aB (by omega) vM vN ⟨kD,lk⟩ t1 (by omega) oC km w p v3 _ rfl
 have pz:=apJ pz;rw[bQ (x:=(dz:Int)-1) (by omega),show(dz:Int)-1=((dz-1:Nat):Int) by omega];simp only[apB];have ch:dz-1<cH.length:=by omega
 have df:P<cH.length:=by omega
 refine⟨by omega,by omega,t1.len ch,by omega,by omega,t1.len df,⟨t1.get ch,t1.get df⟩, ?_⟩;rintro _ rfl;refine⟨fun rU=> ?_,fun _=> ?pt2⟩
 case pt2=>exact R_ (l:=l) (A:=A) (B:=B) (o:=o) (fun _ _ _ _ _ _ h=>h) (fun _ _ _ _ _ _=>rfl) (by omega) (by omega) (by omega) aB (by omega) vM vN ⟨kD,lk⟩ t1 (by omega) oC km w p v3 _ rfl
 have k4:bl cH.toArray[dz-1]! cH.toArray[P]! =false:=by rw[jN];simpa using rU
 refine⟨by omega,⟨⟨t1,by omega,by omega,by omega,by omega⟩,by omega,by omega⟩, ?_⟩;rintro _ rfl _ rfl;obtain⟨dh,eW,jR,pQ,pR⟩:= @round_eq Row _ bl rp (partitionEqual_holds bl) cH.toArray (partitionEqual bl cH.toArray dz dZ P).2 dz dZ P (partitionEqual bl cH.toArray dz dZ P).1 (by omega) vM vN (by simp;omega) oC k4 rfl;have tX:=permIn_all cH.toArray cH.toArray dz dZ (fun _=>True) (by simp;omega) (permIn_refl _ _ _) (fun _ _ _=>trivial)
 have jj:∀i,dz<=i->i<dZ->bl cH.toArray[i]! cH.toArray[P]! =false:=fun i hi eY=>by
  rcases oC with bc|oC
  ·omega
  ·exact rp.ntrans _ _ _ (oC i hi eY) k4
 have nY:=(partitionEqual_holds bl rp cH.toArray dz dZ P vM vN (by simp;omega) jj).2.2.1;have ug:=uo t1 (by omega) nY;generalize (partitionEqual bl cH.toArray dz dZ P).2=d4 at*;generalize (partitionEqual bl cH.toArray dz dZ P).1=BL at*;refine⟨⟨by omega,by omega,by omega,kD,lk,ug.1,ug.2.trans (by omega),pQ,fun bC dX dU dR=> ?_⟩, ?_⟩
 ·obtain⟨oL,pP⟩:=pR bC.toArray dU dR;exact km bC dX oL pP
 ·show((dZ:Int)-BL).toNat<((dZ:Int)-dz).toNat;omega
theorem LW (l:Rows)(K:ae->R->Prop)(h:(c9 l/\l.length<1000000000000000)/\∀i,lH l 0 l.length i->K (.ar 11 i) (.tup [])):LQ l K:=by
 obtain⟨⟨ax,aB⟩,ag⟩:=h;unfold LQ aX aT;rw[cT (x:=(l.length:Int)) (by omega)];refine⟨by omega, ?_⟩;rintro _ rfl;have:=w4 (n:=(l.length:Int).toNat) (k:=64) (by omega);exact⟨⟨⟨ax,by omega,by omega,by omega,aB⟩,by omega, .inl rfl⟩,ag⟩
end aa
end
section
open Go Go.ak
namespace aa
def eg.cap (q:eg):List R:=match q.desc with|true=>[.agg [.bt]]|false=>[.agg [.d (.int .i64 8)]]
theorem eg.mo {q:eg}{g:Nat}{c:List R}(h:q.is g c=true):g=q.g/\c=q.cap:=by
 unfold eg.is at h;unfold eg.cap;split at h
 ·rename_i ab ad;exact⟨apC ab,by rw[ad]⟩
 ·rename_i ab ad;exact⟨apC ab,by rw[ad]⟩
 ·cases h
theorem Sa (q:eg){a0:R}{b0:ae}{args:List R}{K:ae->R->Prop}(bb:Fi.T q a0 b0 args K):∃l a b,a0= .vec 0/\b0= .ar 11 l/\args=[.d (.int .i64 a), .d (.int .i64 b), .cls q.g q.cap]:=by unfold Fi.T e7 at bb;grind [Go.ak.ct,eg.mo]
theorem Ra (q:eg){a0:R}{b0:ae}{args:List R}{K:ae->R->Prop}(bb:Ey.T q a0 b0 args K):∃l lo hi f,a0= .vec 0/\b0= .ar 11 l/\args=[.d (.int .i64 lo), .d (.int .i64 hi), .d (.int .i64 f), .cls q.g q.cap]:=by unfold Ey.T e7 at bb;grind [Go.ak.ct,eg.mo]
theorem Rb (q:eg){a0:R}{b0:ae}{args:List R}{K:ae->R->Prop}(bb:Ez.T q a0 b0 args K):∃l a b,a0= .vec 0/\b0= .ar 11 l/\args=[.d (.int .i64 a), .d (.int .i64 b), .cls q.g q.cap]:=by unfold Ez.T e7 at bb;grind [Go.ak.ct,eg.mo]
theorem Rc (q:eg){a0:R}{b0:ae}{args:List R}{K:ae->R->Prop}(bb:EA.T q a0 b0 args K):∃l a b p,a0= .vec 0/\b0= .ar 11 l/\args=[.d (.int .i64 a), .d (.int .i64 b), .d (.int .i64 p), .cls q.g q.cap]:=by unfold EA.T e7 at bb;grind [Go.ak.ct,eg.mo]
theorem O6 (q:eg){a0:R}{b0:ae}{args:List R}{K:ae->R->Prop}(bb:Dm.T q a0 b0 args K):∃l a b p,a0= .vec 0/\b0= .ar 11 l/\args=[.d (.int .i64 a), .d (.int .i64 b), .d (.int .i64 p), .cls q.g q.cap]:=by unfold Dm.T e7 at bb;grind [Go.ak.ct,eg.mo]
theorem Of (q:eg){a0:R}{b0:ae}{args:List R}{K:ae->R->Prop}(bb:CR.T q a0 b0 args K):∃l a b,a0= .vec 0/\b0= .ar 11 l/\args=[.d (.int .i64 a), .d (.int .i64 b), .cls q.g q.cap]:=by unfold CR.T e7 at bb;grind [Go.ak.ct,eg.mo]
theorem Sb (q:eg){a0:R}{b0:ae}{args:List R}{K:ae->R->Prop}(bb:Fj.T q a0 b0 args K):∃l a b,a0= .vec 0/\b0= .ar 11 l/\args=[.d (.int .i64 a), .d (.int .i64 b), .cls q.g q.cap]:=by unfold Fj.T e7 at bb;grind [Go.ak.ct,eg.mo]
theorem Rd (q:eg){a0:R}{b0:ae}{args:List R}{K:ae->R->Prop}(bb:EB.T q a0 b0 args K):∃l a b s,a0= .ptr 0 0/\b0= .cells [.d (.int .i64 s)]/\args=[.d (.ar 11 l), .d (.int .i64 a), .d (.int .i64 b), .cls q.g q.cap]:=by unfold EB.T e7 at bb;grind [Go.ak.ct,eg.mo]
theorem Sc (q:eg){a0:R}{b0:ae}{args:List R}{K:ae->R->Prop}(bb:Fm.T q a0 b0 args K):∃l a b e s,a0= .ptr 0 0/\b0= .cells [.d (.int .i64 s)]/\args=[.d (.ar 11 l), .d (.int .i64 a), .d (.int .i64 b), .d (.int .i64 e), .cls q.g q.cap]:=by unfold Fm.T e7 at bb;grind [Go.ak.ct,eg.mo]
theorem O7 (q:eg){a0:R}{b0:ae}{args:List R}{K:ae->R->Prop}(bb:Dn.T q a0 b0 args K):∃l a s,a0= .ptr 0 0/\b0= .cells [.d (.int .i64 s)]/\args=[.d (.ar 11 l), .d (.int .i64 a), .cls q.g q.cap]:=by unfold Dn.T e7 at bb;grind [Go.ak.ct,eg.mo]
theorem PX (q:eg){args:List R}{K:R->Prop}(bb:D1.T q args K):∃l a b,args=[.d (.ar 11 l), .d (.int .i64 a), .d (.int .i64 b), .cls q.g q.cap]:=by unfold D1.T bk at bb;grind [Go.ak.ct,eg.mo]
theorem PY (q:eg){a0:R}{b0:ae}{args:List R}{K:ae->R->Prop}(bb:zB.T q a0 b0 args K):∃l a b,a0= .vec 0/\b0= .ar 11 l/\args=[.d (.int .i64 a), .d (.int .i64 b), .cls q.g q.cap]:=by unfold zB.T lG at bb;grind [Go.ak.ct,eg.mo]
theorem IG (q:eg)(n:Nat){a0:R}{b0:ae}{args:List R}{K:ae->R->Prop}(bb:kZ.T q n a0 b0 args K):∃l a b m,a0= .vec 0/\b0= .ar 11 l/\args=[.d (.int .i64 a), .d (.int .i64 b), .d (.int .i64 m), .cls q.g q.cap]:=by unfold kZ.T lG at bb;grind [Go.ak.ct,eg.mo]
theorem adz (q:eg){a0:R}{b0:ae}{args:List R}{K:ae->R->Prop}(bb:tc.T q a0 b0 args K):∃l a b m,a0= .vec 0/\b0= .ar 11 l/\args=[.d (.int .i64 a), .d (.int .i64 b), .d (.int .i64 m), .cls q.g q.cap]:=by unfold tc.T lG at bb;grind [Go.ak.ct,eg.mo]
theorem Re (q:eg){a0:R}{b0:ae}{args:List R}{K:ae->R->Prop}(bb:zP.T q a0 b0 args K):∃l,a0= .vec 0/\b0= .ar 11 l/\args=[.cls q.g q.cap]:=by unfold zP.T lG at bb;grind [Go.ak.ct,eg.mo]
theorem PZ {args:List R}{K:R->Prop}(bb:xd.T args K):∃x,args=[.d (.int .u64 x)]:=by unfold xd.T bk at bb;grind [Go.ak.ct]
theorem ae4 {args:List R}{K:R->Prop}(bb:Fk.T args K):∃x,args=[.d (.int .i64 x)]:=by unfold Fk.T bk at bb;grind [Go.ak.ct]
theorem ae5 {a0:R}{b0:ae}{args:List R}{K:ae->R->Prop}(bb:Fl.T a0 b0 args K):∃x,a0= .ptr 0 0/\b0= .cells [.d (.int .u64 x)]/\args=[]:=by unfold Fl.T lG at bb;grind [Go.ak.ct]
theorem adA {args:List R}{K:R->Prop}(bb:EE.T args K):∃a b,args=[.d (.int .i64 a), .d (.int .i64 b)]:=by unfold EE.T bk at bb;grind [Go.ak.ct]
theorem ab3 {args:List R}{K:R->Prop}(bb:D3.T args K):∃a,args=[.d (.int .i64 a)]:=by unfold D3.T bk at bb;grind [Go.ak.ct]
theorem Y_ {args:List R}{K:R->Prop}(bb:CS.T args K):∃a b,args=[.d (.af .i64 a), .d (.af .i64 b)]:=by unfold CS.T bk at bb;grind [Go.ak.ct]
theorem ae6 {args:List R}{K:R->Prop}(bb:Fp.T args K):∃a,args=[.d (.af .i64 a)]:=by unfold Fp.T bk at bb;grind [Go.ak.ct]
theorem ab4 {args:List R}{K:R->Prop}(bb:D4.T args K):∃a b,args=[.rw 8 a, .rw 8 b]:=by unfold D4.T bk at bb;grind [Go.ak.ct]
theorem ab5 {args:List R}{K:R->Prop}(bb:D6.T args K):∃r,args=[.rw 11 r]:=by unfold D6.T bk at bb;grind [Go.ak.ct]
theorem aak (g:Nat){args:List R}{K:R->Prop}(bb:zl.T g args K):∃l,args=[.d (.ar 11 l), .fn g]:=by unfold zl.T bk at bb;grind [Go.ak.ct]
theorem adB (g:Nat){b0:ae}{args:List R}{K:ae->Prop}(bb:zQ.T g b0 args K):∃l,b0= .ar 11 l/\args=[.fn g]:=by unfold zQ.T xr at bb;grind [Go.ak.ct]
theorem ab6 {args:List R}{K:ae->Prop}(bb:D5.T args K):∃l,args=[.d (.ar 11 l)]:=by unfold D5.T m2 at bb;grind [Go.ak.ct]
theorem Og {args:List R}{K:R->Prop}(bb:sE.T args K):∃l,args=[.d (.ar 11 l)]:=by unfold sE.T bk at bb;grind [Go.ak.ct]
theorem adC {args:List R}{K:R->Prop}(bb:EI.T args K):∃p q,args=[.d (.ar 11 p), .d (.ar 11 q)]:=by unfold EI.T bk at bb;grind [Go.ak.ct]
theorem aal {args:List R}{K:R->Prop}(bb:Dt.T args K):∃p s a b,args=[.d (.ar 11 p), .agg [.d (.bool s), .d (.af .u32 a), .d (.af .u32 b)]]:=by unfold Dt.T bk at bb;grind [Go.ak.ct]
theorem adD {args:List R}{K:R->Prop}(bb:EJ.T args K):∃p,args=[.d (.ar 11 p)]:=by unfold EJ.T bk at bb;grind [Go.ak.ct]
theorem adE {args:List R}{K:R->Prop}(bb:EK.T args K):∃p q,args=[.d (.ar 11 p), .d (.ar 11 q)]:=by unfold EK.T bk at bb;grind [Go.ak.ct]
theorem adF {args:List R}{K:R->Prop}(bb:EL.T args K):∃p q,args=[.d (.ar 11 p), .d (.ar 11 q)]:=by unfold EL.T bk at bb;grind [Go.ak.ct]
theorem adG {args:List R}{K:R->Prop}(bb:EM.T args K):∃p v,args=[.d (.ar 11 p), .d (.int .i64 v)]:=by unfold EM.T bk at bb;grind [Go.ak.ct]
theorem adH {args:List R}{K:R->Prop}(bb:EN.T args K):∃p,args=[.d (.ar 11 p)]:=by unfold EN.T bk at bb;grind [Go.ak.ct]
theorem ab7 {args:List R}{K:R->Prop}(bb:xe.T args K):∃p,args=[.d (.ar 11 p)]:=by unfold xe.T bk at bb;grind [Go.ak.ct]
theorem Za {args:List R}{K:R->Prop}(bb:CY.T args K):∃p,args=[.d (.ar 11 p)]:=by unfold CY.T bk at bb;grind [Go.ak.ct]
theorem adI {args:List R}{K:R->Prop}(bb:EO.T args K):∃v,args=[.d (.int .i64 v)]:=by unfold EO.T bk at bb;grind [Go.ak.ct]
theorem adJ (g:Nat){args:List R}{K:R->Prop}(bb:zS.T g args K):∃p q,args=[.d (.ar 11 p), .d (.ar 11 q), .fn g]:=by unfold zS.T bk at bb;grind [Go.ak.ct]
theorem adK (g:Nat){args:List R}{K:R->Prop}(bb:zT.T g args K):∃p q,args=[.d (.ar 11 p), .d (.ar 11 q), .fn g]:=by unfold zT.T bk at bb;grind [Go.ak.ct]
theorem adL {args:List R}{K:R->Prop}(bb:EP.T args K):∃p q,args=[.d (.ar 11 p), .d (.ar 11 q)]:=by unfold EP.T bk at bb;grind [Go.ak.ct]
theorem adM {args:List R}{K:R->Prop}(bb:ER.T args K):∃p q,args=[.d (.ar 11 p), .d (.ar 11 q)]:=by unfold ER.T bk at bb;grind [Go.ak.ct]
theorem adN {args:List R}{K:R->Prop}(bb:ES.T args K):∃p n q,args=[.d (.ar 11 p), .d (.int .i64 n), .d (.ar 11 q)]:=by unfold ES.T bk at bb;grind [Go.ak.ct]
theorem adO {args:List R}{K:R->Prop}(bb:ET.T args K):∃p q,args=[.d (.ar 11 p), .d (.ar 11 q)]:=by unfold ET.T bk at bb;grind [Go.ak.ct]
theorem ab8 {args:List R}{K:R->Prop}(bb:Ea.T args K):∃p v,args=[.d (.ar 11 p), .d (.int .i64 v)]:=by unfold Ea.T bk at bb;grind [Go.ak.ct]
theorem aam {args:List R}{K:R->Prop}(bb:zm.T args K):∃p,args=[.d (.ar 11 p)]:=by unfold zm.T bk at bb;grind [Go.ak.ct]
theorem Zb {args:List R}{K:R->Prop}(bb:zb.T args K):∃p,args=[.d (.ar 11 p)]:=by unfold zb.T bk at bb;grind [Go.ak.ct]
theorem ab9 {args:List R}{K:R->Prop}(bb:zE.T args K):∃s a b,args=[.agg [.d (.bool s), .d (.af .u32 a), .d (.af .u32 b)]]:=by unfold zE.T bk at bb;grind [Go.ak.ct]
theorem adP {args:List R}{K:R->Prop}(bb:zV.T args K):∃n,args=[.d (.int .i64 n)]:=by unfold zV.T bk at bb;grind [Go.ak.ct]
theorem aan {args:List R}{K:R->Prop}(bb:zn.T args K):∃s a b t c d,args=[.agg [.d (.bool s), .d (.af .u32 a), .d (.af .u32 b)], .agg [.d (.bool t), .d (.af .u32 c), .d (.af .u32 d)]]:=by unfold zn.T bk at bb;grind [Go.ak.ct]
theorem Zc {args:List R}{K:R->Prop}(bb:C2.T args K):args=[]:=by unfold C2.T bk at bb;grind [Go.ak.ct]
theorem aao {a0:R}{b0:ae}{args:List R}{K:ae->R->Prop}(bb:Du.T a0 b0 args K):∃l a s v n,a0= .ptr 0 0/\b0= .cells [.d (.af .i64 l), .d (.int .i64 a), .d (.int .i64 s)]/\args=[.d (.int .i64 v), .d (.int .i64 n)]:=by unfold Du.T e7 at bb;grind [Go.ak.ct]
theorem W_ {args:List R}{K:R->Prop}(bb:BX.T args K):∃l v,args=[.d (.af .i64 l), .d (.int .u8 v)]:=by unfold BX.T bk at bb;grind [Go.ak.ct]
theorem ab_ {args:List R}{K:R->Prop}(bb:Eb.T args K):∃p v,args=[.d (.ar 11 p), .d (.int .i64 v)]:=by unfold Eb.T bk at bb;grind [Go.ak.ct]
theorem aca {args:List R}{K:R->Prop}(bb:Ec.T args K):∃s a b n,args=[.agg [.d (.bool s), .d (.af .u32 a), .d (.af .u32 b)], .d (.int .i64 n)]:=by unfold Ec.T bk at bb;grind [Go.ak.ct]
theorem acb {a0:R}{b0:ae}{args:List R}{K:ae->R->Prop}(bb:Ed.T a0 b0 args K):∃p x,a0= .vec 0/\b0= .ar 3 x/\args=[.d (.ar 11 p)]:=by unfold Ed.T e7 at bb;grind [Go.ak.ct]
theorem acd {a0:R}{b0:ae}{args:List R}{K:ae->R->Prop}(bb:Ee.T a0 b0 args K):∃p x,a0= .vec 0/\b0= .ar 3 x/\args=[.d (.ar 11 p)]:=by unfold Ee.T e7 at bb;grind [Go.ak.ct]
theorem ace {args:List R}{K:R->Prop}(bb:Ef.T args K):∃p v q,args=[.d (.ar 11 p), .d (.int .i64 v), .d (.ar 11 q)]:=by unfold Ef.T bk at bb;grind [Go.ak.ct]
theorem aap {args:List R}{K:R->Prop}(bb:Dx.T args K):∃p v q,args=[.d (.ar 11 p), .d (.int .i64 v), .d (.ar 11 q)]:=by unfold Dx.T bk at bb;grind [Go.ak.ct]
theorem Zd {a0:R}{b0:ae}{args:List R}{K:ae->ae->Prop}(bb:C1.T a0 b0 args K):∃l a s n,a0= .ptr 0 0/\b0= .cells [.d (.af .i64 l), .d (.int .i64 a), .d (.int .i64 s)]/\args=[.d (.int .i64 n)]:=by unfold C1.T zG at bb;grind [Go.ak.ct]
theorem C4 {l:Rows}{a b:Int}(h:fU l a b):∃o,lH l a b o:=by
 obtain⟨ab,ad,aA,ba,bJ⟩:=h;obtain⟨az,aJ⟩:=Go.Sort.insertionSort_holds rp l.toArray a.toNat b.toNat (by omega) (by simp;omega);exact⟨(Go.Sort.insertionSort bl l.toArray a.toNat b.toNat).toList,⟨(uo ab (by omega) az).1,by simpa using az⟩,by simpa using aJ⟩
theorem Rf (q:eg):kt (zB.T q):=yU _ fun a o args p bC f g h aE=>by
 split at h
 ·split at h
  ·simp only[apX,ap5]at h;obtain⟨rfl,rfl,rfl,rfl⟩:=h;obtain⟨o,ab,ad⟩:=C4 aE;exact⟨o,ab⟩
  ·cases h
 ·cases h
theorem Em (q:eg)(n:Nat):kt (kZ.T q n):=yU _ fun a o args p bC f g h aE=>by
 split at h
 ·split at h
  ·simp only[apX,ap5]at h;obtain⟨rfl,rfl,rfl,rfl⟩:=h;exact C4 aE.1
  ·cases h
 ·cases h
theorem Sd (q:eg):kt (tc.T q):=yU _ fun a o args p bC f g h aE=>by
 split at h
 ·split at h
  ·simp only[apX,ap5]at h;obtain⟨rfl,rfl,rfl,rfl⟩:=h;exact C4 aE.1
  ·cases h
 ·cases h
theorem Se (q:eg):kt (zP.T q):=yU _ fun a o args p bC f g h aE=>by
 split at h
 ·split at h
  ·simp only[apX,ap5]at h;obtain⟨rfl,rfl,rfl,rfl⟩:=h;exact C4 ⟨aE.1,Int.le_refl _,by omega,by omega,aE.2⟩
  ·cases h
 ·cases h
theorem afC:kt Fl.T:=yU _ fun a o args p bC f g h aE=>by
 split at h
 ·split at h
  ·simp only[apX,ap5]at h;obtain⟨rfl,rfl,rfl,rfl⟩:=h;exact⟨0,by decide,by decide⟩
  ·cases h
 ·cases h
theorem adQ (g:Nat){args:List R}{K:R->Prop}(bb:qu.T ⟨g,true⟩ args K):∃a b,args=[.agg [.d (.bool true)], .rw 11 a, .rw 11 b]:=by unfold qu.T bk at bb;grind [Go.ak.ct]
theorem adR (g:Nat){args:List R}{K:R->Prop}(bb:qu.T ⟨g,false⟩ args K):∃a b,args=[.agg [.d (.int .i64 8)], .rw 11 a, .rw 11 b]:=by unfold qu.T bk at bb;grind [Go.ak.ct]
theorem zH {P:Program}{f:FuncId}{ps:List aZ}{T BM:List R->(R->Prop)->Prop}(h:h1 P f (iJ ps T))(bp:∀args K,BM args K->T args K):h1 P f (iJ ps BM):=by
 refine⟨h.1,fun N ρ I w args cn K aC=>h.2 N ρ I w args cn K ?_⟩;unfold iJ at aC⊢;split
 ·rename_i ab ad;rw[ab,ad]at aC;exact bp _ _ aC
 ·rename_i aB;split at aC
  ·rename_i ab ad;exact(aB ab ad).elim
  ·exact aC
theorem Rg {P:Program}{f:FuncId}{m:Nat}{ps:List aZ}{T:Nat->R->ae->List R->(ae->R->Prop)->Prop}{BM:R->ae->List R->(ae->R->Prop)->Prop}(h:∀n,h1 P f (l6 m ps (T n)))
 (bp:∀a o args K,BM a o args K->∃n,T n a o args K):h1 P f (l6 m ps BM):=by
 refine⟨(h 0).1,fun N ρ I w args cn K aC=> ?_⟩
 have aB:∃n,l6 m ps (T n) args I K:=by
  unfold l6 at aC;split at aC;rotate_left
  ·exact aC.elim
  rename_i ah;unfold oY at aC;split at aC
  ·exact aC.elim
  ·rename_i a0 br aR;split at aC
   ·exact aC.elim
   ·rename_i id dM;split at aC;rotate_left
    ·exact aC.elim
    rename_i ab ad aA ba;obtain⟨n,aB⟩:=bp _ _ _ _ aC;refine⟨n, ?_⟩;unfold l6;rw[ah];show oY ps (T n) (zy m args) I K;unfold oY;rw[aR];simp only[dM,ab,ad,aA,ba];exact aB
 obtain⟨n,aB⟩:=aB;exact(h n).2 N ρ I w args cn K aB
theorem Rh {P:Program}{f:FuncId}{m:Nat}{ps:List aZ}(q:eg)(aU:∃fn,P.funcs[f]? =some fn/\fn.body.isNone=false/\(fn.name== "runtime.NumGoroutine")=false):h1 P f (l6 m ps (kZ.T q 0)):=by
 refine⟨aU,fun N ρ I w args cn K aC=> ?_⟩;exfalso;unfold l6 at aC;split at aC;rotate_left
 ·exact aC
 unfold oY at aC;split at aC
 ·exact aC
 split at aC
 ·exact aC
 split at aC;rotate_left
 ·exact aC
 refine nf (T:=kZ.T q 0) (IG q 0) (M:=fun _ _ _ _=>False) (fun l a b m K h=> ?_) _ _ _ _ aC
 have h:(fU l a b/\b-a<((0:Nat):Int)/\(0<=m/\m<=64)/\Go.Sort.Below bl a.toNat b.toNat l.toArray)/\True:=by
  unfold kZ.T lG at h;simp only[aqx]at h;split at h
  ·rename_i he;split at he
   ·simp only[apX,ap5]at he;obtain⟨rfl,_⟩:=he;exact⟨h.1,True.intro⟩
   ·cases he
  ·exact h.elim
 have ab:=h.1.1.2.2.1;have ad:=h.1.2.1;omega
theorem Sf (q:eg)(a0:R)(b0:ae)(args:List R)(K:ae->R->Prop)(bb:tc.T q a0 b0 args K):∃n,kZ.T q n a0 b0 args K:=by
 refine nf (T:=tc.T q) (adz q) (M:=fun a0 b0 args K=>∃n,kZ.T q n a0 b0 args K) (fun l a b m K h=> ?_) a0 b0 args K bb;refine⟨(b-a).toNat+1, ?_⟩;unfold tc.T lG at h;unfold kZ.T lG;simp only[aqx]at h⊢;split at h
 ·rename_i he;split at he
  ·rename_i aA;simp only[apX,ap5]at he;obtain⟨rfl,rfl,rfl,rfl⟩:=he;exact⟨⟨h.1.1,by omega,h.1.2⟩,h.2⟩
  ·cases he
 ·exact h.elim
def At:List bd:=[(GO 0 2,1),(GO 1 2,-1)]
theorem Sg:bK At=qy:=by
 show[ej (GO 0 2)++[.bool (ca 1), .af .u32 (b8 1), .af .u32 (b1 1)],ej (GO 1 2)++[.bool (ca (-1)), .af .u32 (b8 (-1)), .af .u32 (b1 (-1))]]=_;rw[C3,El,IE,IF];rfl
theorem En:c4 1024 At:=zX (by decide+kernel)
theorem SV:dE 1 At:=zq (by decide)
theorem afD:aV false [1] [1]=1:=by
 have:=jE 1;rwa [C3,El]at this
theorem af7:aV true [1] [1]=-1:=by
 have:=jE (-1);rwa [IE,IF]at this
theorem Eo:bu 1000000 [1]:=⟨.mk (by decide) .nil,by decide⟩
theorem Tm:bF [1]:=⟨.mk (by decide) .nil,by decide⟩
theorem afE (args:List R)(K:R->Prop)(bb:zm.T args K):xe.T args K:=by
 refine hb (T:=zm.T) aam (M:=xe.T) (fun p K h=> ?_) args K bb;obtain⟨rfl,ag⟩:=h;rw[<-Sg];refine⟨zp SV En (by decide), ?_⟩;rw[Ii En];exact ag
theorem ae7 (args:List R)(K:R->Prop)(bb:zb.T args K):sE.T args K:=by
 refine hb (T:=zb.T) Zb (M:=sE.T) (fun p K h=> ?_) args K bb;obtain⟨rfl,ag⟩:=h;rw[<-Sg]at ag⊢;refine⟨wN (c:=2) SV (apF _) (En.pV (by decide)) (fun m=>Dv m _) (by decide) (by decide) (by decide), ?_⟩;rw[fP En.len,show nrm At=At by decide+kernel];exact ag
theorem af8 (args:List R)(K:R->Prop)(bb:zE.T args K):xa.T args K:=by
 refine jO (T:=zE.T) ab9 (M:=xa.T) (fun s a b K h=> ?_) args K bb;obtain⟨⟨rfl,rfl⟩,ag⟩:=h;refine⟨⟨Tm,Tm⟩, ?_⟩;cases s
 ·rw[afD];exact ag
 ·rw[af7];exact ag
theorem ahH (args:List R)(K:R->Prop)(bb:zV.T args K):ta.T args K:=by
 refine hb (T:=zV.T) adP (M:=ta.T) (fun n K h=> ?_) args K bb;obtain⟨rfl,ag⟩:=h;refine⟨⟨by decide,by decide⟩, ?_⟩;show K (.agg [.d (.bool (ca 1)), .d (.af .u32 (b8 1)), .d (.af .u32 (b1 1))]);rw[C3,El];exact ag
theorem afF (args:List R)(K:R->Prop)(bb:zn.T args K):sL.T args K:=by
 refine oz (T:=zn.T) aan (M:=sL.T) (fun s a b t c d K h=> ?_) args K bb;obtain⟨⟨⟨rfl,rfl⟩,rfl,rfl,rfl,rfl⟩,ag⟩:=h;refine⟨⟨Eo,Eo,Eo,Eo⟩, ?_⟩;rw[aqN rfl];exact ag
theorem IH (args:List R)(K:R->Prop)(bb:rB.T args K):args=[.d (.int .i64 2)]/\rB.T [.d (.int .i64 2)] K:=by
 have e:∃n,args=[.d (.int .i64 n)]:=by
  unfold rB.T bk at bb;split at bb
  ·rename_i he;simp only at he;split at he
   ·exact⟨_,rfl⟩
   ·cases he
  ·exact bb.elim
 obtain⟨n,rfl⟩:=e;obtain⟨rfl,ag⟩:=bb;exact⟨rfl,rfl,ag⟩
theorem acf (args:List R)(K:R->Prop)(bb:zc.T args K):args=[.d (.int .i64 2), .d (.int .i64 10)]/\zc.T [.d (.int .i64 2), .d (.int .i64 10)] K:=by
 have e:∃n b,args=[.d (.int .i64 n), .d (.int .i64 b)]:=by
  unfold zc.T bk at bb;split at bb
  ·rename_i he;simp only at he;split at he
   ·exact⟨_,_,rfl⟩
   ·cases he
  ·exact bb.elim
 obtain⟨n,b,rfl⟩:=e;obtain⟨⟨rfl,rfl⟩,ag⟩:=bb;exact⟨rfl,⟨rfl,rfl⟩,ag⟩
theorem ae8 (args:List R)(K:R->Prop)(bb:zF.T args K):∃x s,args=[.d (.ar 1 [[.str x]]), .d (.str s)]/\zF.T [.d (.ar 1 [[.str x]]), .d (.str s)] K:=by
 have e:∃x s,args=[.d (.ar 1 [[.str x]]), .d (.str s)]:=by
  unfold zF.T bk at bb;split at bb
  ·rename_i he;simp only at he;split at he
   ·split at he
    ·rename_i bc;obtain rfl:=apC bc;exact⟨_,_,rfl⟩
    ·cases he
   ·cases he
  ·exact bb.elim
 obtain⟨x,s,rfl⟩:=e;exact⟨x,s,rfl,bb⟩
theorem acg (args:List R)(K:R->Prop)(bb:zd.T args K):args=[.d (.ar 11 qy), .d (.ar 1 An)]/\zd.T [.d (.ar 11 qy), .d (.ar 1 An)] K:=by
 have e:∃p n,args=[.d (.ar 11 p), .d (.ar 1 n)]:=by
  unfold zd.T bk at bb;split at bb
  ·rename_i he;simp only at he;split at he
   ·split at he
    ·rename_i bc ab;obtain rfl:=apC bc;obtain rfl:=apC ab;exact⟨_,_,rfl⟩
    ·cases he
   ·cases he
  ·exact bb.elim
 obtain⟨p,n,rfl⟩:=e;obtain⟨⟨rfl,rfl⟩,ag⟩:=bb;exact⟨rfl,⟨rfl,rfl⟩,ag⟩
end aa
end
